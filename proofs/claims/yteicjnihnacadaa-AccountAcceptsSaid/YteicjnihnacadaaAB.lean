/-
  The proof of AccountAccepts, part 2.
-/
import Derived.Test.YteicjnihnacadaaAA
import Derived.Laws.Append
import Derived.IntWalk
import Derived.Laws.AppendOwn
import Derived.Laws.IdiomCopy
set_option linter.unusedSimpArgs false
set_option linter.unusedVariables false
namespace Go.Proofs.Yteicjnihnacadaa.Pv
section
open Go.RowKit
def E7 (w:World)(A:Nat->Prop)(own:Option (Nat × Nat)) (p:PV)(u:Value):Prop:=
 match p with
 |.own es n c=>(own=none∧n=0∧c=[]∧∃ad,u=.slice ad 0 0) ∨
   ∃b o cap,own=some (b,o)∧u=.slice (some ⟨b,o,none⟩) n cap∧n<=cap∧Fit w es b (o+cap*es)∧b<w.heap.size∧DH w A ⟨b,o,none⟩ c∧∀j,o<=j->j<bsz w b->w.frozen? ⟨b,j,none⟩=false
 |p=>Ap w A p u
def Dm (w:World)(A:Nat->Prop)(own:Bt):Nat->List PV->List Value->Prop
 |_,[],[]=>True
 |j,p::ps,u::us=>E7 w A (own j) p u∧Dm w A own (j+1) ps us
 |_,_,_=>False
def Aau (w:World)(A:Nat->Prop)(own:Bt)(j b o:Nat)(cs:List PV):Prop:=
 ∃vs,Dm w A own j cs vs∧(∀(k:Nat) v,vs[k]?=some v->w.cell? ⟨b,o+k,none⟩=some v)∧∀k,k<cs.length->w.frozen? ⟨b,o+k,none⟩=false
def Aaa (w:World)(A:Nat->Prop)(own:Bt)(z j:Nat)(p:PV)(u:Value):Prop:=
 match p with
 |.agg cs=>∃vs,u=.agg ⟨vs⟩∧Dm w A own j cs vs
 |.pbox cs=>∃b o,own j=some (b,o)∧z<=b∧u=.pointer (some ⟨b,o,none⟩)∧Aau w A own (j+1) b o cs
 |p=>E7 w A (own j) p u
def QH:PV->Nat
 |.pbox cs=>1+cs.length
 |p=>(cellsOf p).length
def LN (w:World)(A:Nat->Prop)(own:Bt)(z:Nat):Nat->List PV->List Value->Prop
 |_,[],[]=>True
 |j,p::ps,u::us=>Aaa w A own z j p u∧LN w A own z (j+QH p) ps us
 |_,_,_=>False
abbrev Va:=Nat->Nat->Option (Nat × Nat)
def RO (bt:Va)(b:Nat):Prop:=∃i j o,bt i j=some (b,o)
def isA (p:PV):Prop:=Py p∨∃es n c,p=.own es n c
def Ss (p:PV):Bool:=
 match p with
 |.pbox _=>true
 |.tup _=>true
 |_=>false
theorem Acp {p:PV}(h:isA p):Ss p=false:=by
 rcases h with h|⟨_,_,_,rfl⟩
 ·cases p<;>first|rfl|exact h.elim
 ·rfl
def GR (w:World)(A:Nat->Prop)(bt:Bt)(p:PV)(u:Value):Prop:=
 match p with
 |.pbox ps=>∃b o,bt 0=some (b,o)∧u=.pointer (some ⟨b,o,none⟩)∧(∀p∈ps,isA p)∧Aau w A bt 1 b o ps
 |.tup ps=>∃es n c,ps=[.own es n c]∧E7 w A (bt 0) (.own es n c) u
 |.agg cs=>∃vs,u=.agg ⟨vs⟩∧(∀p∈cs,isA p)∧Dm w A bt 1 cs vs
 |p=>isA p∧E7 w A (bt 1) p u
def I5 (w:World)(A:Nat->Prop)(bt:Va):Nat->List PV->List Value->Prop
 |_,[],[]=>True
 |i,p::ps,u::us=>GR w A (bt i) p u∧I5 w A bt (i+1) ps us
 |_,_,_=>False
def Ahs (bt:Bt)(p:PV)(b j:Nat):Prop:=
 (∃k o,bt (k+1)=some (b,o)∧o<=j)∨∃o ps,bt 0=some (b,o)∧o<=j∧((p=.pbox ps∧j<o+ps.length)∨p=.tup ps)
def AG (bt:Va)(args:List PV)(b j:Nat):Prop:=∃i p,args[i]?=some p∧Ahs (bt i) p b j
def Gy (w:World)(A:Nat->Prop)(own:Bt)(bt:Va):Nat->Nat->List PV->List (List PV)->Prop
 |_,_,[],r=>r=[]
 |j,i,p::zs,r=>
  match p with
  |.pbox ps=>
   match r with
   |[]=>False
   |cs::r=>(∃b o,bt i 0=some (b,o)∧cs.length=ps.length∧Aau w A own j b o cs)∧Gy w A own bt (j+cs.length) (i+1) zs r
  |.tup _=>
   match r with
   |[]=>False
   |cs::r=>((bt i 0=none∧cs=[])∨∃b o,bt i 0=some (b,o)∧DH w A ⟨b,o,none⟩ cs∧∀k,o<=k->k<bsz w b->w.frozen? ⟨b,k,none⟩=false)∧Gy w A own bt j (i+1) zs r
  |_=>Gy w A own bt j (i+1) zs r
def T7 (bt:Va)(own:Bt)(Y:Nat->Prop)(b:Nat):Prop:=(∃j o,own j=some (b,o))∨(∃i o,bt i 0=some (b,o))∨Y b
def Le (vals:List PV):Nat:=(vals.map QH).sum
structure Out (w w':World) (Y:Nat->Prop) (bt:Va) (args:List PV) (own:Bt) (r:A7) (vs:List Value):Prop where
 os:w'.os=w.os
 tape:w'.tape=w.tape
 output:w'.output=w.output
 ext:Bd (RO bt) w w'
 rng:∀b j,b<w.heap.size->¬AG bt args b j->w'.cell? ⟨b,j,none⟩=w.cell? ⟨b,j,none⟩∧w'.frozen? ⟨b,j,none⟩=w.frozen? ⟨b,j,none⟩
 vals:LN w' (T7 bt own Y) own w.heap.size 0 r.vals vs
 outs:Gy w' (T7 bt own Y) own bt (Le r.vals) 0 args r.outs
 fresh:∀j b o,own j=some (b,o)->b<w'.heap.size∧(b<w.heap.size->(∃i k o',bt i (k+1)=some (b,o'))∧∀x,o<=x->AG bt args b x)
 inj:∀j j' b o o',own j=some (b,o)->own j'=some (b,o')->j=j'
def F8 (us:List Value):Value:=match us with|[u]=>u|us=>.tuple ⟨us⟩
def M2 (w:World)(Y:Nat->Prop)(p:PV)(u:Value):Prop:=
 match p with
 |.agg cs=>∃vs,u=.agg ⟨vs⟩∧Av (fun c v=>Py c∧Ap w Y c v) cs vs
 |p=>Py p∧Ap w Y p u
structure Ins (w:World) (Y:Nat->Prop) (bt:Va) (args:List PV) (us:List Value):Prop where
 Ylt:∀b,Y b->b<w.heap.size
 Yx:∀b,Y b->¬RO bt b
 lt:∀b,RO bt b->b<w.heap.size
 inj:∀i j i' j' b o o',bt i j=some (b,o)->bt i' j'=some (b,o')->i=i'∧j=j'
 l0:∀i q,bt i 0=some q->∃p,args[i]?=some p∧Ss p=true
 args:I5 w (fun b=>RO bt b∨Y b) bt 0 args us
structure Glo where
 bl:Nat->Prop
 ok:World->Prop
 stable:∀w w':World,(∀b,bl b->b<w.heap.size->w'.heap[b]?=w.heap[b]?)->ok w->ok w'
def Dl (G:Glo)(P:Program)(f:FuncId)(args:List PV)(r:A7):Prop:=
 (∃fn,P.funcs[f]?=some fn∧fn.body.isSome=true)∧∀(w:World)(Y:Nat->Prop)(bt:Va)(us:List Value),Ins w Y bt args us->G.ok w->(∀b,G.bl b->b<w.heap.size∧¬RO bt b) ->
  Calls P f us.toArray w fun e w'=>∃vs own,e=.returned (F8 vs)∧Out w w' Y bt args own r vs
def SX:Va:=fun _ _=>none
theorem Xl (b:Nat):¬RO SX b:=by rintro⟨_,_,_,h⟩;cases h
theorem Hv {w:World}{A:Nat->Prop}{q:Option (Nat × Nat)} {p:PV}{u:Value}(hp:Py p)(h:Ap w A p u):E7 w A q p u:=by
 cases p<;>first|exact h|exact hp.elim
theorem Uq {w:World}{A:Nat->Prop}{own:Bt}:∀{cs:List PV}{vs:List Value}{j:Nat},Av (fun c v=>Py c∧Ap w A c v) cs vs->Dm w A own j cs vs
 |[],[],_,_=>trivial
 |_::_,_::_,_,h=>⟨Hv h.1.1 h.1.2,Uq h.2⟩
 |[],_::_,_,h=>h.elim
 |_::_,[],_,h=>h.elim
theorem NX {w:World}{A:Nat->Prop}{bt:Bt}{p:PV}{u:Value}(h:M2 w A p u):GR w A bt p u:=by
 cases p with
 |agg cs=>
  obtain⟨vs,h1,h2⟩:=h;refine⟨vs,h1,fun p hp=>.inl ?_,Uq h2⟩
  obtain⟨j,hj⟩:=List.mem_iff_getElem?.1 hp;obtain⟨v,_,hv⟩:=h2.get hj;exact hv.1
 |sc v=>exact⟨.inl trivial,h.2⟩
 |lst z es n c=>exact⟨.inl trivial,h.2⟩
 |_=>exact h.1.elim
theorem Xu {w:World}{A:Nat->Prop}{bt:Va}:∀{ps:List PV}{us:List Value}{i:Nat},Av (M2 w A) ps us->I5 w A bt i ps us
 |[],[],_,_=>trivial
 |_::_,_::_,_,h=>⟨NX h.1,Xu h.2⟩
 |[],_::_,_,h=>h.elim
 |_::_,[],_,h=>h.elim
theorem QE {w:World}{A A':Nat->Prop}(hA:∀b,b<w.heap.size->A' b->A b){p:PV}{v:Value}(h:M2 w A p v):M2 w A' p v:=by
 cases p with
 |agg cs=>
  obtain⟨vs,rfl,h2⟩:=h;exact⟨vs,rfl,h2.mono fun c v hc=>⟨hc.1,hc.2.step (Bd.refl _ _) hA⟩⟩
 |sc v=>exact⟨h.1,h.2.step (Bd.refl _ _) hA⟩
 |lst z es n c=>exact⟨h.1,h.2.step (Bd.refl _ _) hA⟩
 |_=>exact h.1.elim
theorem DU {w:World}{Y:Nat->Prop}{args:List PV}{us:List Value}(hY:∀b,Y b->b<w.heap.size)(h:Av (M2 w Y) args us):Ins w Y SX args us:=
 ⟨hY,fun b _=>Xl b,fun b h=>absurd h (Xl b),(fun _ _ _ _ _ _ _ h=>by cases h),(fun _ _ h=>by cases h),Xu (h.mono fun _ _ hx=>QE (fun b _ hb=>hb.elim (fun q=>absurd q (Xl b)) id) hx)⟩
def NoNG (P:Program):Prop:=∀(f:FuncId) (fn:Func),P.funcs[f]?=some fn->(fn.name == "runtime.NumGoroutine")=false
structure ET (P:Program) (G:Glo) (w0:World) (X0:Fw):Prop where
 ng:NoNG P
 fr:∀w,Fr X0 w0 w->G.ok w
 y:∀b,G.bl b->b<w0.heap.size∧¬X0.X b
section
variable {R:Type} {r:R} {P:Program} {N:Nat} {w0:World} {X0:Fw} {Y:Nat->Prop} {β β':Bt} {s:St} {a:Act} {w w':World} {o:Oper} {A:Nat->Prop}
def Xg (P:Program)(a:Act)(w:World)(o:Oper)(Y:Nat->Prop)(β:Bt)(s:St)(v:PV)(fz:List Nat)(nw:List (Nat × A2)):Prop:=
 (∀id∈fz,∃f c,s.hp id=some (.ar f c))∧∀(next:Act->World->Prop)(Q:Exit->Act->World->Prop),
  (∀val w',(A3 s.hp nw=true->∃β',Y3 Y β ⟨s.tm,Ac s.hp fz⟩ w v nw val w' β')->next (a.put o.dst val) w')->o.wp P a w next Q
theorem Wp {v:PV}{fz:List Nat}{nw:List (Nat × A2)} (h:C2 P a w o Y β s v fz nw):Xg P a w o Y β s v fz nw:=by
 obtain⟨h1,val,w',hr,hs⟩:=h;refine⟨h1,fun next Q hn=>?_⟩
 unfold Oper.wp;rw[hr];exact hn val w' hs
theorem RW (h:Bs N w0 X0 Y β s a w){t:TypeId}{x:PV}{u:Value}(hx:C4 w (B1 s.hp β Y) β x u) {K:PV->List Nat->Option R}(hk:KA P (Ha s.hp) t x K=some r):
  ∃p m,K p m=some r∧(∀id∈m,∃f cc,s.hp id=some (.ar f cc))∧(cellsOf p).length=(Fz P t).length∧∀fz:List Nat,(∀id∈m,id∈fz)->(∀id∈fz,∃f cc,s.hp id=some (.ar f cc))->M2 w (B1 (Ac s.hp fz) β Y) p u:=by
 unfold KA at hk;cases Ef:Ba P t
 ·rw[Ef] at hk;obtain⟨cs,m,hk,hl,G9,hT,hF,hm,hv⟩:=Lp h (show J2 _ _ _ _=some r from hk)
  obtain⟨c,t',rfl,hk⟩:=Aq hk;obtain⟨rfl,hk⟩:=Cb hk;have hcT:=hT c (by simp)
  refine⟨c,m,hk,hm,?_,fun fz h1 h2=>?_⟩
  ·have:cellsOf c=[c]:=by cases c<;>first|rfl|exact hcT.elim
   rw[this];exact hl
  have hF':=hF _ (List.mem_singleton_self _)
  have hc:A9 w (B1 s.hp β Y) β x u:=by
   cases x<;>first|exact hx|exact hF'.elim
  have h3:=(hv fz h1 h2 [u] ⟨hc,trivial⟩).1.1;cases c<;>first|exact⟨trivial,h3⟩|exact hcT.elim
 ·rw[Ef] at hk;obtain⟨ps,hp,hk⟩:=Ff (show Dv _ _=some r from hk)
  rw[hp] at hx;obtain⟨cs,m,hk,hl,G9,hT,hF,hm,hv⟩:=Lp h hk;obtain⟨vs,B4,h2⟩:=hx;refine⟨.agg cs,m,hk,hm,hl,fun fz h1 h3=>⟨vs,B4,?_⟩⟩
  exact (hv fz h1 h3 vs h2).1.mono_mem fun c hc v Ul=>⟨hT c hc,Ul⟩
theorem XD (h:Bs N w0 X0 Y β s a w){t:TypeId}{x:Operand}{K:PV->List Nat->Option R}(hk:KA P (Ha s.hp) t (Bb s.tm x) K=some r):
  ∃p m,K p m=some r∧(∀id∈m,∃f cc,s.hp id=some (.ar f cc))∧∀fz:List Nat,(∀id∈m,id∈fz)->(∀id∈fz,∃f cc,s.hp id=some (.ar f cc))->M2 w (B1 (Ac s.hp fz) β Y) p (a.eval x):=by
 obtain⟨p,m,h1,h2,_,h3⟩:=RW h (Bx h x) hk;exact⟨p,m,h1,h2,h3⟩
theorem Zh (h:Bs N w0 X0 Y β s a w):∀{ts:List TypeId}{xs:List Operand}{K:List PV->List Nat->Option R},Xr P (Ha s.hp) ts (xs.map (Bb s.tm)) K=some r ->
  ∃ps m,K ps m=some r∧(∀id∈m,∃f cc,s.hp id=some (.ar f cc))∧∀fz:List Nat,(∀id∈m,id∈fz)->(∀id∈fz,∃f cc,s.hp id=some (.ar f cc))->Av (M2 w (B1 (Ac s.hp fz) β Y)) ps (xs.map a.eval)
 |[],[],K,hk=>⟨[],[],hk,by simp,fun _ _ _=>trivial⟩
 |[],_::_,K,hk=>by cases hk
 |_::_,[],K,hk=>by cases hk
 |t::ts,x::xs,K,hk=>by
  simp only[List.map_cons] at hk;unfold Xr at hk;obtain⟨p,m,hk,hm,hv⟩:=XD h hk;obtain⟨ps,ms,hk,Wm,G8⟩:=Zh h hk;refine⟨p::ps,m++ms,hk,?_,fun fz h1 h2=>⟨hv fz (fun i hi=>h1 i (by simp[hi])) h2,G8 fz (fun i hi=>h1 i (by simp[hi])) h2⟩⟩
  intro i hi;rcases List.mem_append.1 hi with hi|hi
  ·exact hm i hi
  ·exact Wm i hi
theorem M2.weaken {A':Nat->Prop}(hA:∀b,b<w.heap.size->A' b->A b){p:PV}{v:Value}(h:M2 w A p v):M2 w A' p v:=by
 have one:Py p->Py p∧Ap w A p v->M2 w A' p v:=by
  intro hp h;cases p<;>first|exact⟨h.1,h.2.step (Bd.refl _ _) hA⟩|exact hp.elim
 cases p with
 |agg cs=>
  obtain⟨vs,rfl,h2⟩:=h;exact⟨vs,rfl,h2.mono fun c v hc=>⟨hc.1,hc.2.step (Bd.refl _ _) hA⟩⟩
 |_=>exact one h.1 h
theorem UN {t:CT}{p:PV}{K:PV->Option R}(h:Sz t p K=some r):
  ∃c,K c=some r∧Py c∧Py p∧(∀(w:World) (A:Nat->Prop) (β:Nat->Option (Nat × Nat)) (v:Value),A9 w A β p v->Ap w A c v∧v.oneCell'=true)∧((∀es,t ≠ .sl es)->∃v,c=.sc v):=by
 obtain⟨c,hk,hT,Xn,hv⟩:=Jc h;cases t with
 |sl es=>exact⟨c,hk,hT,Xn,hv,fun H7=>absurd rfl (H7 es)⟩
 |int k=>obtain⟨n,rfl,h2⟩:=C3 h;exact⟨_,h2,trivial,trivial,fun w A β v hv=>⟨hv,by have:=Ap.val (w:=w) (A:=A) hv;subst this;rfl⟩,fun _=>⟨_,rfl⟩⟩
 |bool=>obtain⟨n,rfl,h2⟩:=Ci h;exact⟨_,h2,trivial,trivial,fun w A β v hv=>⟨hv,by have:=Ap.val (w:=w) (A:=A) hv;subst this;rfl⟩,fun _=>⟨_,rfl⟩⟩
 |str=>obtain⟨n,rfl,h2⟩:=Cj h;exact⟨_,h2,trivial,trivial,fun w A β v hv=>⟨hv,by have:=Ap.val (w:=w) (A:=A) hv;subst this;rfl⟩,fun _=>⟨_,rfl⟩⟩
 |any=>
  obtain⟨f,a,b,rfl,h2⟩:=BT (show RT p (fun v=>K (.sc v))=some r from h)
  exact⟨_,h2,trivial,trivial,fun w A β v hv=>⟨hv,by have:=Ap.val (w:=w) (A:=A) hv;subst this;rfl⟩,fun _=>⟨_,rfl⟩⟩
theorem O0 (shr:Bool)(N:Nat):∀{ts:List CT}{ps:List PV}{id:Nat}{K:List PV->List (Nat × A2)->Option R},L6 shr N id ts ps K=some r ->
  ∃cs bs,K cs bs=some r∧ps.length=ts.length∧(∀p∈ps,∀x,p ≠ .agg x∧p ≠ .pbox x)∧(∀c∈cs,Yq c)∧((∀es,CT.sl es ∉ ts)->bs=[]∧∀c∈cs,∃v,c=.sc v) ∧
   (∀i bx,(i,bx)∈bs->∃j es n c,ps[j]?=some (.own es n c)∧i=id+N*j∧bx=.ar false c) ∧
   (∀c∈cs,∀i∈Ak c,∃bx,(i,bx)∈bs) ∧
   ∀(w:World) (A:Nat->Prop) (own β':Bt) (j0:Nat) (us:List Value),(∀j,(∃bx,(id+N*j,bx)∈bs)->β' (id+N*j)=own (j0+j))->Dm w A own j0 ps us->Av (A9 w A β') cs us
 |[],ps,id,K,hk=>by
  obtain⟨rfl,hk⟩:=Cb hk;refine⟨[],[],hk,rfl,by simp,by simp,by simp,by simp,by simp,fun w A own β' j0 us _ h=>?_⟩
  cases us with
  |nil=>trivial
  |cons u us=>exact h.elim
 |t::ts,ps,id,K,hk=>by
  unfold L6 at hk;obtain⟨p,ps',X6,Cv⟩:=Aq hk;subst X6;clear hk
  have main:∃c b,(L6 shr N (id+N) ts ps' fun cs bs=>K (c::cs) (b++bs))=some r∧(∀x,p ≠ .agg x∧p ≠ .pbox x)∧Yq c∧((∀es,t≠CT.sl es)->b=[]∧∃v,c=.sc v)∧(∀i bx,(i,bx)∈b->∃es n cc,p=.own es n cc∧i=id∧bx=.ar false cc)∧(∀i∈Ak c,∃bx,(i,bx)∈b) ∧
    ∀(w:World) (A:Nat->Prop) (own:Option (Nat × Nat)) (β':Bt) (u:Value),((∃bx,(id,bx)∈b)->β' id=own)->E7 w A own p u->A9 w A β' c u:=by
   have tree:∀t',t'=t->(Sz t' p fun c=>L6 shr N (id+N) ts ps' fun cs bs=>K (c::cs) ([]++bs))=some r->∃c b,(L6 shr N (id+N) ts ps' fun cs bs=>K (c::cs) (b++bs))=some r∧(∀x,p ≠ .agg x∧p ≠ .pbox x)∧Yq c∧((∀es,t≠CT.sl es)->b=[]∧∃v,c=.sc v)∧(∀i bx,(i,bx)∈b->∃es n cc,p=.own es n cc∧i=id∧bx=.ar false cc)∧(∀i∈Ak c,∃bx,(i,bx)∈b) ∧
     ∀(w:World) (A:Nat->Prop) (own:Option (Nat × Nat)) (β':Bt) (u:Value),((∃bx,(id,bx)∈b)->β' id=own)->E7 w A own p u->A9 w A β' c u:=by
    intro t' ht' hk;have HT:=UN hk;obtain⟨c,hk,hT,Xn,hv,HT⟩:=HT;refine⟨c,[],hk,fun x=>⟨Ra Xn x,by rintro rfl;exact Xn⟩,M9 hT,fun H7=>⟨rfl,HT (fun es e=>H7 es (ht'.symm.trans e))⟩,by simp,by rw[Fl hT];simp,fun w A own β' u _ hc=>?_⟩
    have Mr:A9 w A β' p u:=by cases p<;>first|exact hc|exact Xn.elim
    exact (Ib hT).2 (hv w A β' u Mr).1
   unfold TZ at Cv;cases t with
   |sl es=>
    dsimp only at Cv;cases shr
    ·unfold Ov at Cv;simp only[cond_false] at Cv;split at Cv
     ·rename_i es' n c;cases hb:Nat.beq es' es
      ·rw[hb] at Cv;cases Cv
      ·rw[hb] at Cv;have:=Nat.eq_of_beq_eq_true hb;subst this;refine⟨_,_,Cv,by simp,trivial,fun H7=>absurd rfl (H7 _),?_,?_,fun w A own β' u hβ hc=>?_⟩
       ·intro i bx hm;simp at hm;exact⟨_,_,_,rfl,hm.1,hm.2⟩
       ·intro i hi;simp[Ak] at hi;subst hi;exact⟨.ar false c,by simp⟩
       ·have hβ':=hβ ⟨.ar false c,by simp⟩
        clear hβ;rcases hc with⟨h1,rfl,rfl,h4⟩|⟨b,ob,cap,h1,h2,h3,h4,h5,_⟩
        ·exact .inl ⟨hβ'.trans h1,rfl,rfl,h4⟩
        ·exact .inr ⟨b,ob,ob,cap,hβ'.trans h1,h2,.inl rfl,h3,h4,h5⟩
     ·cases Cv
    ·obtain⟨c,hk,hT,Xn,hv,_⟩:=UN (t:=.sl es) (p:=p) (K:=fun c=>L6 true N (id+N) ts ps' fun cs bs=>K (BO c::cs) ([]++bs)) Cv
     have hU:Py (BO c):=by cases c<;>exact hT
     refine⟨BO c,[],hk,fun x=>⟨Ra Xn x,by rintro rfl;exact Xn⟩,M9 hU,fun H7=>absurd rfl (H7 _),by simp,by rw[Fl hU];simp,fun w A own β' u _ hc=>?_⟩
     have Mr:A9 w A β' p u:=by cases p<;>first|exact hc|exact Xn.elim
     refine (Ib hU).2 ?_;have:=(hv w A β' u Mr).1;cases c with
     |lst z es n c=>exact Ap.unz this
     |_=>exact this
   |int k=>exact tree (.int k) rfl Cv
   |bool=>exact tree .bool rfl Cv
   |str=>exact tree .str rfl Cv
   |any=>exact tree .any rfl Cv
  obtain⟨c,b,hk,hpa,hF,HE,D7,It,Ul⟩:=main;obtain⟨cs,bs,hk,hl,Aox,hFs,Ag1,Aqh,Auj,Aog⟩:=O0 shr N hk;refine⟨c::cs,b++bs,hk,by simp[hl],?_,?_,?_,?_,?_,fun w A own β' j0 us hβ hoc=>?_⟩
  ·intro x hx;rcases List.mem_cons.1 hx with rfl|hx
   ·exact hpa
   ·exact Aox x hx
  ·intro x hx;rcases List.mem_cons.1 hx with rfl|hx
   ·exact hF
   ·exact hFs x hx
  ·intro H7;obtain⟨h1,v,h2⟩:=HE (fun es e=>H7 es (by rw[e];simp))
   obtain⟨h3,h4⟩:=Ag1 (fun es hm=>H7 es (by simp[hm]))
   refine⟨by rw[h1,h3];rfl,fun x hx=>?_⟩
   rcases List.mem_cons.1 hx with rfl|hx
   ·exact⟨v,h2⟩
   ·exact h4 x hx
  ·intro i bx hm;rcases List.mem_append.1 hm with hm|hm
   ·obtain⟨es,n,cc,rfl,rfl,rfl⟩:=D7 i bx hm;exact⟨0,es,n,cc,rfl,by simp,rfl⟩
   ·obtain⟨j,es,n,cc,h1,rfl,h3⟩:=Aqh i bx hm;exact⟨j+1,es,n,cc,by simpa using h1,by rw[Nat.mul_add];omega,h3⟩
  ·intro x hx i hi;rcases List.mem_cons.1 hx with rfl|hx
   ·obtain⟨bx,hm⟩:=It i hi;exact⟨bx,by simp[hm]⟩
   ·obtain⟨bx,hm⟩:=Auj x hx i hi;exact⟨bx,by simp[hm]⟩
  ·cases us with
   |nil=>exact hoc.elim
   |cons u us=>
    refine⟨Ul w A (own j0) β' u (fun ⟨bx,hm⟩=>by have:=hβ 0 ⟨bx,by simp[hm]⟩;simpa using this) hoc.1,?_⟩
    refine Aog w A own β' (j0+1) us (fun j ⟨bx,hm⟩=>?_) hoc.2
    have e:id+N+N*j=id+N*(j+1):=by rw[Nat.mul_add];omega
    have:=hβ (j+1) ⟨bx,by rw[←e];simp[hm]⟩
    rw[e,this]
    congr 1
    omega
end
open Go.RowKit
section
variable {R:Type} {r:R} {P:Program} {N:Nat} {w0:World} {X0:Fw} {Y:Nat->Prop} {β β':Bt} {s:St} {a:Act} {w w':World} {o:Oper} {A:Nat->Prop}
theorem Dm.len:∀{j:Nat}{own:Bt}{ps:List PV}{us:List Value},Dm w A own j ps us->ps.length=us.length
 |_,_,[],[],_=>rfl
 |_,_,_::_,_::_,h=>by simp[Dm.len h.2]
 |_,_,[],_::_,h=>h.elim
 |_,_,_::_,[],h=>h.elim
theorem Dm.at_:∀{j:Nat}{own:Bt}{ps:List PV}{us:List Value},Dm w A own j ps us->∀{i:Nat} {p},ps[i]?=some p->∃u,us[i]?=some u∧E7 w A (own (j+i)) p u
 |_,_,[],[],_,i,p,h=>by simp at h
 |j,own,_::_,u::_,h,0,p,hp=>by simp at hp;subst hp;exact⟨u,rfl,h.1⟩
 |j,own,_::_,_::_,h,i+1,p,hp=>by
  simp at hp;obtain⟨u,hu,hc⟩:=Dm.at_ h.2 hp;exact⟨u,by simpa using hu,by rw[show j+(i+1)=j+1+i from by omega];exact hc⟩
 |_,_,[],_::_,h,_,_,_=>h.elim
 |_,_,_::_,[],h,_,_,_=>h.elim
def VS (N id:Nat)(β':Bt)(w:World)(A:Nat->Prop)(z n:Nat)(bs:List (Nat × A2)):Prop:=
 ∀i bx,(i,bx)∈bs->(∃j,i=id+N*j∧j<n)∧B0 (some bx)∧M6 w A β' i bx∧∀cs,bx=.st cs->∀b o,β' i=some (b,o)->z<=b
def Tp (bs:List (Nat × A2)):Prop:=∀i cells,(i,.st cells)∈bs->∀c∈cells,∀i'∈Ak c,∃bx,(i',bx)∈bs
theorem Rn {q:Option (Nat × Nat)} {es n i:Nat}{c:List PV}{u:Value}(h:E7 w A q (.own es n c) u) (hβ:β' i=q):M6 w A β' i (.ar false c):=by
 rcases h with⟨h1,_,h2,_⟩|⟨b,o,cap,h1,_,_,_,_,h6,h7⟩
 ·exact .inl ⟨hβ.trans h1,h2⟩
 ·exact .inr ⟨b,o,hβ.trans h1,h6,fun _=>h7,(fun x=>by cases x)⟩
theorem S2 {t:TypeId}(h:Gx P [t]=false):R9 P t=none∧∀es,CT.sl es ∉ Fz P t:=by
 simp only[Gx,List.any_cons,List.any_nil,Bool.or_false,Bool.or_eq_false_iff] at h;refine⟨by simpa using h.1,fun es hm=>?_⟩
 have:=List.any_eq_false.1 h.2 _ hm;simp at this
theorem SO (shr:Bool)(N:Nat){t:TypeId}{p:PV}{id:Nat}{K:PV->List (Nat × A2)->Option R} (hk:QB P shr N id t p K=some r):
  ∃v bs,K v bs=some r∧QH p=FR P t∧(∀x,v ≠ .tup x)∧(Gx P [t]=false->bs=[]∧∀c∈cellsOf v,∃u,c=.sc u)∧(∀i∈Bh v,∃bx,(i,bx)∈bs)∧Tp bs ∧
   ∀(w:World) (A:Nat->Prop) (own β':Bt) (z j0:Nat) (u:Value),(∀j,(∃bx,(id+N*j,bx)∈bs)->β' (id+N*j)=own (j0+j))->Aaa w A own z j0 p u->Ft w A β' v u∧VS N id β' w A z (QH p) bs:=by
 have boxes:∀{bs:List (Nat × A2)} {ps:List PV} {id:Nat},(∀i bx,(i,bx)∈bs->∃j es n c,ps[j]?=some (.own es n c)∧i=id+N*j∧bx=.ar false c) ->
   Tp bs∧∀(w:World) (A:Nat->Prop) (own β':Bt) (j0:Nat) (us:List Value),(∀j,(∃bx,(id+N*j,bx)∈bs)->β' (id+N*j)=own (j0+j))->Dm w A own j0 ps us->∀z,VS N id β' w A z ps.length bs:=by
  intro bs ps id D7;refine⟨fun i cells hm=>?_,fun w A own β' j0 us hβ ho z i bx hm=>?_⟩
  ·obtain⟨_,_,_,_,_,_,h3⟩:=D7 i _ hm;cases h3
  ·obtain⟨j,es,n,cc,h1,h2,h3⟩:=D7 i bx hm;obtain⟨u,hu,hoc⟩:=ho.at_ h1;subst h3;refine⟨⟨j,h2,?_⟩,trivial,Rn hoc ?_,fun _ e=>by cases e⟩
   ·rcases Nat.lt_or_ge j ps.length with h|h
    ·exact h
    ·rw[List.getElem?_eq_none h] at h1;cases h1
   ·rw[h2];exact hβ j ⟨_,h2 ▸ hm⟩
 unfold QB at hk;split at hk
 ·rename_i e he;obtain⟨ps,rfl,hk⟩:=Yz hk;obtain⟨cs,bs,hk,hl,Acf,hF,HE,D7,It,Ul⟩:=O0 shr N hk;obtain⟨JN,I1⟩:=boxes D7;refine⟨.ptr id 0,_,hk,by simp only[QH,FR,he,hl],by simp,fun h=>?_,fun i hi=>?_,fun i cells hm c hc i' X9=>?_,fun w A own β' z j0 u hβ ho=>?_⟩
  ·have:=(S2 h).1;rw[he] at this;cases this
  ·simp only[Bh,Ak,List.mem_singleton] at hi;subst hi;exact⟨_,List.mem_cons_self⟩
  ·rcases List.mem_cons.1 hm with e|hm
   ·cases e;obtain⟨bx,hb⟩:=It c hc i' X9;exact⟨bx,List.mem_cons_of_mem _ hb⟩
   ·obtain⟨bx,hb⟩:=JN i cells hm c hc i' X9;exact⟨bx,List.mem_cons_of_mem _ hb⟩
  ·obtain⟨b,o,h1,hz,rfl,vs,h3,h4,h5⟩:=ho;have h0:=hβ 0 ⟨_,by rw[Nat.mul_zero,Nat.add_zero];exact List.mem_cons_self⟩
   rw[Nat.mul_zero,Nat.add_zero,Nat.add_zero,h1] at h0;have Ay:∀j,id+N+N*j=id+N*(j+1):=fun j=>by rw[Nat.mul_add];omega
   have hβ1:∀j,(∃bx,(id+N+N*j,bx)∈bs)->β' (id+N+N*j)=own (j0+1+j):=fun j ⟨bx,hm⟩=>by
    rw[Ay,hβ (j+1) ⟨bx,by rw[←Ay];exact List.mem_cons_of_mem _ hm⟩]
    congr 1;omega
   have hc2:=Ul w A own β' (j0+1) vs hβ1 h3;have CY:=I1 w A own β' (j0+1) vs hβ1 h3 z;have Dc:cs.length=ps.length:=by rw[hc2.len,←h3.len]
   refine⟨⟨b,o,h0,by simp⟩,fun i bx hm=>?_⟩
   rcases List.mem_cons.1 hm with e|hm
   ·cases e;refine⟨⟨0,by simp,by simp only[QH];omega⟩,trivial,⟨b,o,h0,fun k c hk=>?_,fun k hk=>h5 k (by omega)⟩,fun _ _ b' o' Fs=>?_⟩
    ·obtain⟨v,hv,DG⟩:=hc2.get hk;exact⟨v,h4 k v hv,DG⟩
    ·rw[h0] at Fs;cases Fs;exact hz
   ·obtain⟨⟨j,hj,hjn⟩,h6,h7⟩:=CY i bx hm;exact⟨⟨j+1,by rw[hj,Ay],by simp only[QH];omega⟩,h6,h7⟩
 ·rename_i hnp;have Vo:FR P t=(Fz P t).length:=by simp only[FR,hnp]
  cases Ef:Ba P t
  ·rw[Ef] at hk;obtain⟨cs,bs,hk,hl,Acf,hF,HE,D7,It,Ul⟩:=O0 shr N (show L6 _ _ _ _ _ _=some r from hk)
   obtain⟨c,t',rfl,hk⟩:=Aq hk;obtain⟨rfl,hk⟩:=Cb hk;have hFc:=hF c (by simp)
   have Ak5:∀x,p ≠ .pbox x:=fun x=>(Acf p (by simp) x).2
   have Ah9:∀x,c ≠ .agg x:=by rintro x rfl;exact hFc
   have Aqd:∀x,c ≠ .tup x:=by rintro x rfl;exact hFc
   have ZF:Bh c=Ak c:=by cases c<;>first|rfl|exact absurd rfl (Ah9 _)
   have hpa:∀x,p ≠ .agg x:=fun x=>(Acf p (by simp) x).1
   obtain⟨JN,I1⟩:=boxes D7;have hcell:cellsOf p=[p]:=by cases p<;>first|rfl|exact absurd rfl (hpa _)
   have Ajd:QH p=1:=by cases p<;>first|rfl|exact absurd rfl (hpa _)|exact absurd rfl (Ak5 _)
   have WQ:cellsOf c=[c]:=by cases c<;>first|rfl|exact absurd rfl (Ah9 _)
   refine⟨c,bs,hk,by rw[Ajd,Vo];exact hl,Aqd,fun H7=>by rw[WQ];exact HE (S2 H7).2,fun i hi=>It c (by simp) i (by rw[←ZF];exact hi),JN,fun w A own β' z j0 u hβ ho=>?_⟩
   have DV:E7 w A (own j0) p u:=by cases p<;>first|exact ho|exact absurd rfl (hpa _)|exact absurd rfl (Ak5 _)
   exact⟨(Rh Ah9).2 (Ul w A own β' j0 [u] hβ ⟨DV,trivial⟩).1,by rw[Ajd];exact I1 w A own β' j0 [u] hβ ⟨DV,trivial⟩ z⟩
  ·rw[Ef] at hk;obtain⟨ps,rfl,hk⟩:=Ff (show Dv _ _=some r from hk)
   obtain⟨cs,bs,hk,hl,Acf,hF,HE,D7,It,Ul⟩:=O0 shr N hk;obtain⟨JN,I1⟩:=boxes D7;refine⟨.agg cs,bs,hk,by rw[Vo];exact hl,by simp,fun H7=>HE (S2 H7).2,fun i hi=>?_,JN,fun w A own β' z j0 u hβ ho=>?_⟩
   ·obtain⟨c,hc,hi⟩:=List.mem_flatMap.1 (show i∈cs.flatMap Ak from hi)
    exact It c hc i hi
   ·obtain⟨vs,rfl,ho⟩:=ho;exact⟨⟨vs,rfl,Ul w A own β' j0 vs hβ ho⟩,I1 w A own β' j0 vs hβ ho z⟩
theorem Tw (shr:Bool)(N:Nat):∀{ts:List TypeId}{ps:List PV}{id:Nat}{K:List PV->List (Nat × A2)->Option R},Us P shr N id ts ps K=some r ->
  ∃vs bs,K vs bs=some r∧vs.length=ps.length∧(∀v∈vs,∀x,v ≠ .tup x)∧(Gx P ts=false->bs=[]∧∀v∈vs,∀c∈cellsOf v,∃u,c=.sc u)∧(∀v∈vs,∀i∈Bh v,∃bx,(i,bx)∈bs)∧Tp bs ∧
   ∀(w:World) (A:Nat->Prop) (own β':Bt) (z j0:Nat) (us:List Value),(∀j,(∃bx,(id+N*j,bx)∈bs)->β' (id+N*j)=own (j0+j))->LN w A own z j0 ps us->Av (Ft w A β') vs us∧VS N id β' w A z (Le ps) bs
 |[],ps,id,K,hk=>by
  obtain⟨rfl,hk⟩:=Cb hk;refine⟨[],[],hk,rfl,by simp,by simp,by simp,(by intro i cells hm;cases hm),fun w A own β' z j0 us _ h=>?_⟩
  cases us with
  |nil=>exact⟨trivial,by intro i bx hm;cases hm⟩
  |cons u us=>exact h.elim
 |t::ts,ps,id,K,hk=>by
  unfold Us at hk;obtain⟨p,ps',X6,Cv⟩:=Aq hk;subst X6;clear hk;obtain⟨v,bs,hk,hl,XL,HE,ZF,JN,hv⟩:=SO shr N Cv;obtain⟨vs,bs',hk,R2,Aun,Ag1,hrs,Atu,G8⟩:=Tw shr N hk;refine⟨v::vs,bs++bs',hk,by simp[R2],?_,?_,?_,?_,fun w A own β' z j0 us hβ ho=>?_⟩
  ·intro x hx;rcases List.mem_cons.1 hx with rfl|hx
   ·exact XL
   ·exact Aun x hx
  ·intro H7;simp only[Gx,List.any_cons,Bool.or_eq_false_iff] at H7;obtain⟨h1,h2⟩:=HE (by simp only[Gx,List.any_cons,List.any_nil,Bool.or_false,Bool.or_eq_false_iff];exact H7.1)
   obtain⟨h3,h4⟩:=Ag1 (by simp only[Gx];exact H7.2)
   refine⟨by rw[h1,h3];rfl,fun x hx=>?_⟩
   rcases List.mem_cons.1 hx with rfl|hx
   ·exact h2
   ·exact h4 x hx
  ·intro x hx i hi;rcases List.mem_cons.1 hx with rfl|hx
   ·obtain⟨bx,hm⟩:=ZF i hi;exact⟨bx,by simp[hm]⟩
   ·obtain⟨bx,hm⟩:=hrs x hx i hi;exact⟨bx,by simp[hm]⟩
  ·intro i cells hm c hc i' X9;rcases List.mem_append.1 hm with hm|hm
   ·obtain⟨bx,hb⟩:=JN i cells hm c hc i' X9;exact⟨bx,by simp[hb]⟩
   ·obtain⟨bx,hb⟩:=Atu i cells hm c hc i' X9;exact⟨bx,by simp[hb]⟩
  ·cases us with
   |nil=>exact ho.elim
   |cons u us=>
    obtain⟨h1,D7⟩:=hv w A own β' z j0 u (fun j ⟨bx,hm⟩=>hβ j ⟨bx,by simp[hm]⟩) ho.1
    have Ay:∀j,id+N*FR P t+N*j=id+N*(FR P t+j):=fun j=>by rw[Nat.mul_add];omega
    obtain⟨h2,It⟩:=G8 w A own β' z (j0+QH p) us (fun j ⟨bx,hm⟩=>by rw[Ay,hβ _ ⟨bx,by rw[←Ay];simp[hm]⟩,hl];congr 1;omega) ho.2
    refine⟨⟨h1,h2⟩,fun i bx hm=>?_⟩
    rcases List.mem_append.1 hm with hm|hm
    ·obtain⟨⟨j,hj,hjn⟩,h4,h5⟩:=D7 i bx hm;exact⟨⟨j,hj,by simp only[Le,List.map_cons,List.sum_cons];omega⟩,h4,h5⟩
    ·obtain⟨⟨j,hj,hjn⟩,h4,h5⟩:=It i bx hm;refine⟨⟨_,by rw[hj,Ay],?_⟩,h4,h5⟩
     simp only[Le,List.map_cons,List.sum_cons] at hjn ⊢;omega
def Vi (N d:Nat)(bs:List (Nat × A2)) (own β:Bt):Bt:=fun i=>if (bs.any fun q=>Nat.beq q.1 i)=true then own ((i-d) / N) else β i
theorem AN {bs:List (Nat × A2)} {i:Nat}:(bs.any fun q=>Nat.beq q.1 i)=true↔∃bx,(i,bx)∈bs:=by
 rw[List.any_eq_true];constructor
 ·rintro⟨⟨j,bx⟩,hm,e⟩
  have:=Nat.eq_of_beq_eq_true e;subst this;exact⟨bx,hm⟩
 ·rintro⟨bx,hm⟩
  exact⟨_,hm,Nat.beq_refl i⟩
theorem MQ {N d j:Nat}(hN:0<N){bs:List (Nat × A2)} {own β:Bt}(h:∃bx,(d+N*j,bx)∈bs):Vi N d bs own β (d+N*j)=own j:=by
 unfold Vi;rw[if_pos (AN.2 h),Nat.add_sub_cancel_left,Nat.mul_div_cancel_left _ hN]
theorem FI {c:Call}{f:FuncId}(ho:o.op=.call c)(hc:c.callee=.value (.func f)) (H9:NoNG P){fn:Func}(hf:P.funcs[f]?=some fn) (hb:fn.body.isSome=true):
  (execOp a.eval o).run P w=.ok (.enter f (c.args.map a.eval)) w:=by
 unfold execOp;rw[ho]
 have hn:¬fn.body=none:=by
  intro h;rw[h] at hb;cases hb
 have H7:¬fn.name = "runtime.NumGoroutine" :=by simpa using H9 f fn hf
 simp[resolve,hc,Act.eval,Deferred.ofValue,invoke,callFunc,hf,H7,hn]
theorem PL {c:Call}{t:Nat}{f:FuncId}(ho:o.op=.call c)(hc:c.callee=.value (.tmp t)) (ht:a.eval (.tmp t)=.func (.func f) #[] #[]) (H9:NoNG P){fn:Func}(hf:P.funcs[f]?=some fn) (hb:fn.body.isSome=true):
  (execOp a.eval o).run P w=.ok (.enter f (c.args.map a.eval)) w:=by
 unfold execOp;rw[ho]
 have hn:¬fn.body=none:=by
  intro h;rw[h] at hb;cases hb
 have H7:¬fn.name = "runtime.NumGoroutine" :=by simpa using H9 f fn hf
 simp[resolve,hc,ht,Deferred.ofValue,invoke,callFunc,hf,H7,hn]
theorem Uv {A':Nat->Prop}(k:Bool):∀{xs:List Operand}{ps:List PV},Av (M2 w A') ps (xs.map a.eval)->Av (M2 w A') (Gu k xs ps) (xs.map a.eval)
 |[],[],h=>h
 |[],_::_,h=>h
 |_::_,[],h=>h
 |x::xs,p::ps,h=>by
  simp only[List.map_cons] at h ⊢;refine⟨?_,Uv k h.2⟩;split
  ·exact⟨trivial,Ap.lnil _ _⟩
  ·exact h.1
theorem Wf (h : Bs N w0 X0 Y β s a w) {G : Glo} (H9 : ET P G w0 X0) {C : Fd} {call : Aj} (Cr : ∀ f args res, call f args = some res -> Dl G P f args res) {c : Call} {f : FuncId} (Bn : ∀ {fn : Func}, P.funcs[f]? = some fn -> fn.body.isSome = true -> (execOp a.eval o).run P w = .ok (.enter f (c.args.map a.eval)) w)
    {K : PV -> List Nat -> List (Nat × A2) -> Option R}
    (hk : (Xr P (Ha s.hp) (V6 P f c) (c.args.toList.map (Bb s.tm)) fun vs m =>
          Ao (call f (Gu (C.kz f) c.args.toList vs)) fun rv ro => Af ro (Ar (Nat.blt 0 N) <| Us P (C.shr f) N (o.dst.getD 0) (J3 P o.type) rv fun ws bs =>
            Ar (bif Kx P o.type then !Nat.beq ws.length 1 else Nat.beq ws.length 1) <| K (J6 ws (Kx P o.type)) (bif Gx P (J3 P o.type) then m else []) bs)) = some r) : ∃ v fz nw, K v fz nw = some r ∧ Xg P a w o Y β s v fz nw := by
  obtain⟨ps, m, hk, hm, Dh⟩ := Zh h hk
  replace Dh := fun fz h1 h2 => Uv (a := a) (C.kz f) (Dh fz h1 h2)
  generalize Gu (C.kz f) c.args.toList ps = ps at hk Dh
  obtain⟨rv, ro, Lc, hk⟩ := Z5 hk
  obtain⟨rfl, hk⟩ := Cb hk
  obtain⟨hN, hk⟩ := Ag hk
  have hN : 0 < N := Nat.lt_of_succ_le (Nat.le_of_ble_eq_true hN)
  obtain⟨ws, bs, hk, hwl, XL, HE, hrs, JN, hws⟩ := Tw (C.shr f) N hk
  obtain⟨L8, hk⟩ := Ag hk
  obtain⟨⟨fn, hfn, hfb⟩, P6⟩ := Cr f ps _ Lc
  obtain⟨fz, Nk, hfm⟩ : ∃ fz : List Nat, fz = (bif Gx P (J3 P o.type) then m else []) ∧ ∀ id ∈ fz, ∃ f c, s.hp id = some (.ar f c) := by
    refine⟨_, rfl, fun id Ay => ?_⟩
    cases hh : Gx P (J3 P o.type) <;> rw[hh] at Ay
    · cases Ay
    · exact hm id Ay
  rw[← Nk] at hk
  refine⟨_, _, _, hk, hfm, fun next Q hn => ?_⟩
  have hf := h.freeze hfm
  have hYc : ∃ Yc : Nat -> Prop, (∀ b, Yc b -> b < w.heap.size) ∧ Av (M2 w Yc) ps (c.args.toList.map a.eval) ∧ ((∀ b, B1 (Ac s.hp fz) β Y b -> Yc b) ∨ Gx P (J3 P o.type) = false) := by
    have Ko := Dh m (fun _ hi => hi) hm
    cases hh : Gx P (J3 P o.type)
    · exact⟨fun _ => False, fun _ x => x.elim, Ko.mono fun _ _ hx => hx.weaken (fun _ _ x => x.elim), .inr rfl⟩
    · rw[hh] at Nk
      have Nk : fz = m := Nk
      subst Nk
      refine⟨B1 (Ac s.hp fz) β Y, fun b hb => ?_, Ko, .inl fun _ x => x⟩
      rcases hb with⟨id, ob, hl, hβ⟩ | hY
      · exact hf.blt id b ob (Bw hl) hβ
      · exact Nat.lt_of_lt_of_le (h.Ylt b hY) h.fr.step.size
  obtain⟨Yc, Am9, hYargs, hYA⟩ := hYc
  unfold Oper.wp
  rw[Bn hfn hfb]
  show Calls P f _ w _
  have hca : c.args.map a.eval = (c.args.toList.map a.eval).toArray := by rw[← List.map_toArray, Array.toArray_toList]
  rw[hca]
  refine (P6 w Yc SX _ (DU Am9 hYargs) (H9.fr w h.fr) (fun b x => ⟨Nat.lt_of_lt_of_le (H9.y b x).1 h.fr.step.size, Xl b⟩)).mono ?_
  rintro e w' ⟨vs, own, rfl, AQ⟩
  refine hn (F8 vs) w' fun Lm => ⟨Vi N (o.dst.getD 0) bs own β, ?_⟩
  obtain⟨YW, ha2⟩ := Ax Lm
  have SJ : ∀ i bx, (i, bx) ∈ bs -> Ac s.hp fz i = none := fun i bx hm => Cq.2 (YW i bx hm)
  obtain⟨XK, hg2⟩ := C1 (hp := Ac s.hp fz) ha2
  have hold : ∀ i, Ac s.hp fz i ≠ none -> Vi N (o.dst.getD 0) bs own β i = β i := by
    intro i hi
    unfold Vi
    rw[if_neg]
    intro hx
    obtain⟨bx, hm⟩ := AN.1 hx
    exact hi (SJ i bx hm)
  obtain⟨G8, hba⟩ := hws w' _ own (Vi N (o.dst.getD 0) bs own β) w.heap.size 0 vs (fun j hj => by rw[MQ hN hj, Nat.zero_add]) AQ.vals
  have Qw : ∀ i bx, (i, bx) ∈ bs -> ∃ j, i = o.dst.getD 0 + N * j ∧ Vi N (o.dst.getD 0) bs own β i = own j := by
    intro i bx hm
    obtain⟨⟨j, rfl, _⟩, _, _⟩ := hba i bx hm
    exact⟨j, rfl, MQ hN ⟨bx, hm⟩⟩
  have hAA : Gx P (J3 P o.type) = false ∨ ∀ b, B1 (Al (Ac s.hp fz) bs) (Vi N (o.dst.getD 0) bs own β) Y b -> T7 SX own Yc b := by
    rcases hYA with hYA | hYA
    · refine .inr fun b hb => ?_
      rcases hb with⟨i, ob, hl, hβ⟩ | hY
      · by_cases hi : ∃ bx, (i, bx) ∈ bs
        · obtain⟨bx, hm⟩ := hi
          obtain⟨j, _, h3⟩ := Qw i bx hm
          rw[h3] at hβ
          exact .inl ⟨j, ob, hβ⟩
        · rw[hg2 i (fun bx hm => hi ⟨bx, hm⟩)] at hl
          rw[hold i (Bw hl)] at hβ
          exact .inr (.inr (hYA b (.inl ⟨i, ob, hl, hβ⟩)))
      · exact .inr (.inr (hYA b (.inr hY)))
    · exact .inl hYA
  have hval : C4 w' (B1 (Al (Ac s.hp fz) bs) (Vi N (o.dst.getD 0) bs own β) Y) (Vi N (o.dst.getD 0) bs own β) (J6 ws (Kx P o.type)) (F8 vs) := by
    have Ko : Av (Ft w' (B1 (Al (Ac s.hp fz) bs) (Vi N (o.dst.getD 0) bs own β) Y) (Vi N (o.dst.getD 0) bs own β)) ws vs := by
      rcases hAA with GN | hAA
      · obtain⟨_, HT⟩ := HE GN
        refine G8.mono_mem fun v hv u hvu => ?_
        have HT := HT v hv
        cases v with
        | agg cs =>
          obtain⟨xs, rfl, X4⟩ := hvu
          refine⟨xs, rfl, X4.mono_mem fun cc WQ x hx => ?_⟩
          obtain⟨y, rfl⟩ := HT cc WQ
          have := Ap.val (w := w') hx
          subst this
          exact Ap.sc _
        | sc y =>
          have := Ap.val (w := w') hvu
          subst this
          exact Ap.sc _
        | lst z es n cc => obtain⟨y, hy⟩ := HT _ (List.mem_singleton_self _); cases hy
        | own es n cc => obtain⟨y, hy⟩ := HT _ (List.mem_singleton_self _); cases hy
        | view i es n cc => obtain⟨y, hy⟩ := HT _ (List.mem_singleton_self _); cases hy
        | ptr i cc => obtain⟨y, hy⟩ := HT _ (List.mem_singleton_self _); cases hy
        | iptr i cc => obtain⟨y, hy⟩ := HT _ (List.mem_singleton_self _); cases hy
        | pbox cc => obtain⟨y, hy⟩ := HT _ (List.mem_singleton_self _); cases hy
        | tup cc => obtain⟨y, hy⟩ := HT _ (List.mem_singleton_self _); cases hy
        | top => obtain⟨y, hy⟩ := HT _ (List.mem_singleton_self _); cases hy
        | ub => obtain⟨y, hy⟩ := HT _ (List.mem_singleton_self _); cases hy
      · exact G8.mono fun v u hvu => hvu.step (Bd.refl _ _) (fun b _ => hAA b) (fun _ _ => rfl)
    have Dc := Ko.len
    cases hT : Kx P o.type
    · rw[hT] at L8
      have h1 : ws.length = 1 := Nat.eq_of_beq_eq_true L8
      match ws, vs, h1, Dc with
      | [v], [u], _, _ =>
        exact (Mx (XL v (by simp))).2 Ko.1
    · rw[hT] at L8
      have h1 : ¬ ws.length = 1 := by
        intro e
        rw[e] at L8
        cases L8
      have hr : F8 vs = .tuple ⟨vs⟩ := by
        unfold F8
        split
        · simp at Dc; omega
        · rfl
      rw[hr]
      exact⟨vs, rfl, Ko⟩
  refine⟨AQ.os, AQ.tape, AQ.output, AQ.ext.weaken (fun b _ hb => Xl b hb), hold, ?_, ?_, ?_, ?_, ?_, hval, ?_⟩
  · intro i bx hm
    exact (hba i bx hm).2.1
  · intro i bx hm
    rcases hAA with GN | hAA
    · rw[(HE GN).1] at hm; cases hm
    · exact (hba i bx hm).2.2.1.step' hAA
  · intro i bx b ob hm hβ
    obtain⟨j, _, h3⟩ := Qw i bx hm
    rw[h3] at hβ
    obtain⟨h4, h5⟩ := AQ.fresh j b ob hβ
    refine⟨?_, h4⟩
    rcases Nat.lt_or_ge b w.heap.size with h | h
    · obtain⟨⟨_, _, _, h6⟩, _⟩ := h5 h
      cases h6
    · exact h
  · intro i bx i' bx' b ob ob' hm Je hβ hβ'
    obtain⟨j, h1, h3⟩ := Qw i bx hm
    obtain⟨j', U6, h3'⟩ := Qw i' bx' Je
    rw[h3] at hβ
    rw[h3'] at hβ'
    rw[h1, U6, AQ.inj j j' b ob ob' hβ hβ']
  · intro i cells hm c hc i' X9
    exact .inr (JN i cells hm c hc i' X9)
  · intro i hi
    right
    cases hT : Kx P o.type
    · rw[hT] at L8 hi
      have h1 : ws.length = 1 := Nat.eq_of_beq_eq_true L8
      match ws, h1 with
      | [v], _ =>
        refine hrs v (by simp) i ?_
        have : A8 v = Bh v := by
          have hn := XL v (by simp)
          cases v <;> first | rfl | exact absurd rfl (hn _)
        rw[← this]
        exact hi
    · rw[hT] at hi
      obtain⟨v, hv, hi⟩ := List.mem_flatMap.1 (show i ∈ ws.flatMap Bh from hi)
      exact hrs v hv i hi
end
open Go.RowKit
section
variable {R:Type} {r:R} {P:Program} {N:Nat} {w0:World} {X0:Fw} {Y:Nat->Prop} {β β':Bt} {s:St} {a:Act} {w w':World} {o:Oper} {A:Nat->Prop}
theorem Bs.move (h:Bs N w0 X0 Y β s a w){id d:Nat}{c cells:List PV}{bo:Option (Nat × Nat)} {v:PV}{val:Value}(h0:s.hp id=some (.ar false c)) (hd:s.hp d=none)(RR:d<N)
  (hos:w'.os=w.os)(htp:w'.tape=w.tape)(AQ:w'.output=w.output)(FL:w.heap.size<=w'.heap.size)
  (Il:∀k,k<w.heap.size->(∀x,β id≠some (k,x))->w'.heap[k]?=w.heap[k]?) (Yb:∀k,k<w.heap.size->Gt w w' k)
  (CG:∀k x,bo=some (k,x)->k<w'.heap.size∧(w.heap.size<=k∨∃y,β id=some (k,y)))
  (DJ:∀k x,bo=some (k,x)->k<w.heap.size->β id=some (k,x))
  (hO:∀k y,β id=some (k,y)->k<w.heap.size->∀j,j<y->w'.cell? ⟨k,j,none⟩=w.cell? ⟨k,j,none⟩∧w'.frozen? ⟨k,j,none⟩=w.frozen? ⟨k,j,none⟩)
  (I1:M6 w' (B1 (Bi (Bi s.hp id (some .mv)) d (some (.ar false cells))) (Bi β d bo) Y) (Bi β d bo) d (.ar false cells))
  (hv:C4 w' (B1 (Bi (Bi s.hp id (some .mv)) d (some (.ar false cells))) (Bi β d bo) Y) (Bi β d bo) v val) (hr:∀i∈A8 v,i=d):
  Bs N w0 X0 Y (Bi β d bo) ⟨Bi s.tm d v,Bi (Bi s.hp id (some .mv)) d (some (.ar false cells))⟩ (a.put (some d) val) w':=by
 have H7:id≠d:=by rintro rfl;rw[h0] at hd;cases hd
 have Eo:∀i,i≠id->i≠d->Bi (Bi s.hp id (some A2.mv)) d (some (.ar false cells)) i=s.hp i:=fun i h1 h2=>by rw[Ae _ _ h2,Ae _ _ h1]
 have ZY:Bi (Bi s.hp id (some A2.mv)) d (some (.ar false cells)) id=some .mv:=by rw[Ae _ _ H7,Ah]
 have hgd:Bi (Bi s.hp id (some A2.mv)) d (some (.ar false cells)) d=some (.ar false cells):=Ah _ _ _
 have Es:∀i,s.hp i≠none->Bi (Bi s.hp id (some A2.mv)) d (some (.ar false cells)) i≠none:=by
  intro i hi;by_cases e:i=id
  ·subst e;rw[ZY];simp
  ·by_cases e':i=d
   ·subst e';rw[hgd];simp
   ·rw[Eo i e e'];exact hi
 have hβo:∀i,s.hp i≠none->Bi β d bo i=β i:=fun i hi=>Ae _ _ (by rintro rfl;exact hi hd)
 have DT:B0 (s.hp id):=by rw[h0];trivial
 have Ez:∀i,B0 (Bi (Bi s.hp id (some A2.mv)) d (some (.ar false cells)) i)->i=d∨(i≠id∧i≠d∧B0 (s.hp i)):=by
  intro i hi;by_cases e':i=d
  ·exact .inl e'
  ·by_cases e:i=id
   ·subst e;rw[ZY] at hi;exact hi.elim
   ·rw[Eo i e e'] at hi;exact .inr ⟨e,e',hi⟩
 have hX:∀k,k<w.heap.size->CC (Bi (Bi s.hp id (some .mv)) d (some (.ar false cells))) (Bi β d bo) k->CC s.hp β k:=by
  rintro k hk ⟨i,x,hl,hβ⟩
  rcases Ez i hl with rfl|⟨e,e',hl⟩
  ·rw[Ah] at hβ;rcases (CG k x hβ).2 with Fc|⟨y,hy⟩
   ·omega
   ·exact⟨id,y,DT,hy⟩
  ·rw[Ae _ _ e'] at hβ;exact⟨i,x,hl,hβ⟩
 have hAo:∀k,k<w.heap.size->B1 (Bi (Bi s.hp id (some .mv)) d (some (.ar false cells))) (Bi β d bo) Y k->B1 s.hp β Y k:=fun k hk hx=>hx.imp (hX k hk) (fun y=>y)
 have Kf:Bd (B1 s.hp β Y) w w':=⟨FL,fun k hk hn=>Il k hk fun x hx=>hn (.inl ⟨id,x,DT,hx⟩),Yb⟩
 have VN:∀i k x,i≠id->i≠d->(∃b,s.hp i=some b∧b ≠ .mv)->β i=some (k,x)->k<w.heap.size∧w'.heap[k]?=w.heap[k]?:=by
  rintro i k x e e' ⟨b,hb,hmv⟩ hβ
  have hk:=h.blt i k x (by rw[hb];simp) hβ
  refine⟨hk,Il k hk fun y hy=>?_⟩
  have OX:=h.box i b hb;cases b with
  |st cc=>exact e (h.inj i id k x y (by rw[hb];trivial) DT hβ hy)
  |ar fz cc=>
   cases fz with
   |false=>exact e (h.inj i id k x y (by rw[hb];trivial) DT hβ hy)
   |true=>
    rcases OX with⟨h1,_⟩|⟨k',x',h1,_,_,h4⟩
    ·rw[hβ] at h1;cases h1
    ·rw[hβ] at h1;simp at h1;obtain⟨rfl,rfl⟩:=h1
     exact h4 rfl (.inl ⟨id,y,DT,hy⟩)
  |mv=>exact absurd rfl hmv
 refine⟨by rw[Mv];exact h.dfr,by rw[Ru];exact h.tsz,?_,?_,?_,?_,?_,?_,?_,?_,?_,?_,?_,?_,h.Ylt,?_⟩
 ·intro i hi;show Bi s.tm d v i=_;rw[Ae _ _ (by omega)]
  exact h.tmo i hi
 ·refine K7 (d:=some d) (Q:=fun _ p u=>C4 w' (B1 (Bi (Bi s.hp id (some .mv)) d (some (.ar false cells))) (Bi β d bo) Y) (Bi β d bo) p u) h.tsz (by simp[Ej,Nat.blt];omega) (fun i hi=>?_) (fun _=>hv)
  exact (h.tms i hi).step Kf hAo fun j hj=>hβo j (h.wfT i hi j hj)
 ·intro i bi hb;simp only at hb;by_cases e':i=d
  ·subst e';rw[hgd] at hb;cases hb;exact I1
  ·by_cases e:i=id
   ·subst e;rw[ZY] at hb;cases hb;trivial
   ·rw[Eo i e e'] at hb;have hβi:=hβo i (by rw[hb];simp)
    have Vd:=h.box i bi hb;cases bi with
    |st cc=>
     obtain⟨k,x,h1,h2,h3⟩:=Vd;obtain⟨hk,Sk⟩:=VN i k x e e' ⟨_,hb,by simp⟩ h1
     refine⟨k,x,by rw[hβi];exact h1,fun j p hj=>?_,fun j hj=>?_⟩
     ·obtain⟨u,hu,hc⟩:=h2 j p hj;exact⟨u,by rw[World.cell?_of_block (w:=w) Sk];exact hu,hc.step Kf hAo fun q hq=>hβo q (h.wfB i cc hb p (List.mem_of_getElem? hj) q hq)⟩
     ·rw[World.frozen?_of_block (w:=w) Sk];exact h3 j hj
    |ar fz cc=>
     rcases Vd with⟨h1,h2⟩|⟨k,x,h1,h2,h3,h4⟩
     ·exact .inl ⟨by rw[hβi];exact h1,h2⟩
     ·obtain⟨hk,Sk⟩:=VN i k x e e' ⟨_,hb,by simp⟩ h1
      refine .inr ⟨k,x,by rw[hβi];exact h1,fun j p hj=>?_,fun ef j hj Kk=>?_,fun ef hx=>h4 ef (hAo k hk hx)⟩
      ·obtain⟨u,hu,h5,hc⟩:=h2 j p hj;exact⟨u,by rw[World.cell?_of_block (w:=w) (by rw[Ec];exact Sk)];exact hu,h5,hc.step Kf hAo⟩
      ·rw[World.frozen?_of_block (w:=w) Sk];refine h3 ef j hj ?_;unfold bsz at Kk ⊢;rw[Sk] at Kk;exact Kk
    |mv=>trivial
 ·intro i i' k x y hl G9 hb Fs;simp only at hl G9
  have key:∀j z,j≠id->j≠d->B0 (s.hp j)->β j=some (k,z)->bo=some (k,y)∨bo=some (k,x)->False:=by
   intro j z e e' XW hβj ZP;have hk:=h.blt j k z (Bw XW) hβj;have:∃t,bo=some (k,t):=by rcases ZP with q|q<;>exact⟨_,q⟩
   obtain⟨t,ht⟩:=this;rcases (CG k t ht).2 with Fc|⟨q,hq⟩
   ·omega
   ·exact e (h.inj j id k z q XW DT hβj hq)
  rcases Ez i hl with rfl|⟨e,e',VC⟩
  ·rcases Ez i' G9 with rfl|⟨e2,e2',Aej⟩
   ·rfl
   ·rw[Ah] at hb;rw[Ae _ _ e2'] at Fs;exact (key i' y e2 e2' Aej Fs (.inr hb)).elim
  ·rcases Ez i' G9 with rfl|⟨e2,e2',Aej⟩
   ·rw[Ah] at Fs;rw[Ae _ _ e'] at hb;exact (key i x e e' VC hb (.inl Fs)).elim
   ·rw[Ae _ _ e'] at hb;rw[Ae _ _ e2'] at Fs;exact h.inj i i' k x y VC Aej hb Fs
 ·intro i k x hi hb;simp only at hi;by_cases e':i=d
  ·subst e';rw[Ah] at hb;exact (CG k x hb).1
  ·rw[Ae _ _ e'] at hb
   have X9:s.hp i≠none:=by
    by_cases e:i=id
    ·subst e;rw[h0];simp
    ·rw[Eo i e e'] at hi;exact hi
   exact Nat.lt_of_lt_of_le (h.blt i k x X9 hb) FL
 ·have:=K7 (d:=some d) (Q:=fun _ p _=>∀j∈A8 p,Bi (Bi s.hp id (some A2.mv)) d (some (.ar false cells)) j≠none) (val:=val) (v:=v) h.tsz (by simp[Ej,Nat.blt];omega) (fun i hi j hj=>Es j (h.wfT i hi j hj)) (fun _ j hj=>by
   rw[hr j hj,hgd];simp)
  exact this
 ·intro i cc hc p hp j hj;simp only at hc;by_cases e':i=d
  ·subst e';rw[hgd] at hc;cases hc
  ·by_cases e:i=id
   ·subst e;rw[ZY] at hc;cases hc
   ·rw[Eo i e e'] at hc;exact Es j (h.wfB i cc hc p hp j hj)
 ·rintro k ⟨i,x,hl,hβ⟩
  rcases Ez i hl with rfl|⟨e,e',hl⟩
  ·rw[Ah] at hβ;rcases (CG k x hβ).2 with Fc|⟨y,hy⟩
   ·exact .inr (Nat.le_trans h.fr.step.size Fc)
   ·exact h.ownd k ⟨id,y,DT,hy⟩
  ·rw[Ae _ _ e'] at hβ;exact h.ownd k ⟨i,x,hl,hβ⟩
 ·intro i bi k x Vd hli hβ Bl j hj;simp only at Vd;rcases Ez i (by rw[Vd];exact hli) with rfl|⟨e,e',hl⟩
  ·rw[Ah] at hβ;rw[hgd] at Vd;cases Vd;have:=DJ k x hβ (Nat.lt_of_lt_of_le Bl h.fr.step.size);exact h.rngB id (.ar false c) k x h0 trivial this Bl j hj
  ·rw[Eo i e e'] at Vd;rw[Ae _ _ e'] at hβ;exact h.rngB i bi k x Vd hli hβ Bl j hj
 ·intro i hi;exact⟨Es _ (h.pin i hi).1,by rw[hβo _ (h.pin i hi).1];exact (h.pin i hi).2⟩
 ·intro i cc k x Vd hβ Bl;simp only at Vd;rcases Ez i (by rw[Vd];trivial) with rfl|⟨e,e',hl⟩
  ·rw[hgd] at Vd;cases Vd
  ·rw[Eo i e e'] at Vd;rw[Ae _ _ e'] at hβ;exact h.stp i cc k x Vd hβ Bl
 ·intro k hY hx;exact h.Yx k hY (hX k (Nat.lt_of_lt_of_le (h.Ylt k hY) h.fr.step.size) hx)
 ·refine⟨hos.trans h.fr.os,htp.trans h.fr.tape,AQ.trans h.fr.output,⟨Nat.le_trans h.fr.step.size FL,fun k hk hnk=>?_,fun k hk=>(h.fr.step.bs k hk).trans (Yb k (Nat.lt_of_lt_of_le hk h.fr.step.size))⟩,fun k j hk hL=>?_⟩
  ·rw[Il k (Nat.lt_of_lt_of_le hk h.fr.step.size) ?_]
   ·exact h.fr.step.keep k hk hnk
   ·intro x hx;rcases h.ownd k ⟨id,x,DT,hx⟩ with hq|hq
    ·exact hnk hq
    ·omega
  ·have hkw:=Nat.lt_of_lt_of_le hk h.fr.step.size
   have Ut:w'.cell? ⟨k,j,none⟩=w.cell? ⟨k,j,none⟩∧w'.frozen? ⟨k,j,none⟩=w.frozen? ⟨k,j,none⟩:=by
    by_cases e:∃y,β id=some (k,y)
    ·obtain⟨y,hy⟩:=e;refine hO k y hy hkw j ?_;rcases Nat.lt_or_ge j y with q|q
     ·exact q
     ·exact absurd (h.rngB id (.ar false c) k y h0 trivial hy hk j q) hL
    ·have Sk:=Il k hkw (fun x hx=>e ⟨x,hx⟩)
     exact⟨World.cell?_of_block (w:=w) Sk,World.frozen?_of_block (w:=w) Sk⟩
   rw[Ut.1,Ut.2];exact h.fr.rng k j hk hL
end
open Go.RowKit
section
variable {R:Type} {r:R} {P:Program} {N:Nat} {w0:World} {X0:Fw} {Y:Nat->Prop} {β β':Bt} {s:St} {a:Act} {w w':World} {o:Oper} {A:Nat->Prop}
structure Src (P:Program) (w:World) (A:Nat->Prop) (size:Nat) (xv:Value) (m:Nat) (new:List PV) (news:List Value):Prop where
 len:∀w':World,(Builtin.lenOf xv).run P w'=.ok m w'
 cells:∀w':World,(∀b,b<w.heap.size->w'.heap[b]?=w.heap[b]?)->(Builtin.firstCells size m xv).run P w'=.ok news.toArray w'
 part:∀k,k<=m->(Builtin.firstCells size k xv).run P w=.ok (news.take (k*size)).toArray w
 one:∀u∈news,u.oneCell'=true
 rep:Av (Ap w A) new news
theorem V3 (h:Bs N w0 X0 Y β s a w){e tx:TypeId}{x:Operand}{K:Nat->List PV->Option R}(hk:IX P s (As P e) tx (Bb s.tm x) K=some r)
  (h1c:∀m new,K m new=some r->new.length=m*As P e):
  (∃d,P.underlying tx=some d∧(∀k,d ≠ .int k))∧∃m new news,K m new=some r∧Src P w (B1 s.hp β Y) (As P e) (a.eval x) m new news:=by
 unfold IX JZ at hk;split at hk
 ·rename_i hu;obtain⟨Rs,hk⟩:=Ag hk;have Rs:=Nat.eq_of_beq_eq_true Rs;obtain⟨b,hx,hk⟩:=Cj hk;have B4:=Bk h hx;refine⟨⟨_,hu,by simp⟩,b.size,Ex b,b.data.toList.map (fun y=>Value.int .u8 y.toNat),hk,?_,?_,?_,?_,?_⟩
  ·intro w';rw[B4];rfl
  ·intro w' _;rw[B4]
   have hx:b.data.extract 0 b.size=b.data:=by
    have:b.size=b.data.size:=rfl;rw[this,Array.extract_size]
   have hd:(b.extract 0 b.size).data=b.data:=by
    rw[ByteArray.extract_zero_size]
   simp only[Builtin.firstCells,hd];rw[←Array.toList_map,Array.toArray_toList];rfl
  ·intro k Fc;rw[B4,Rs,Nat.mul_one];have hd:(b.extract 0 k).data=b.data.extract 0 k:=ByteArray.data_extract
   have e1:(b.data.extract 0 k).map (fun y=>Value.int .u8 y.toNat)=((b.data.toList.map fun y=>Value.int .u8 y.toNat).take k).toArray:=by
    apply Array.toList_inj.1;simp[List.map_take]
   simp only[Builtin.firstCells,hd];rw[e1];rfl
  ·intro u hu;simp at hu;obtain⟨y,_,rfl⟩:=hu;rfl
  ·unfold Ex;generalize b.data.toList=l
   induction l with
   |nil=>trivial
   |cons y l ih=>exact⟨Ap.sc _,ih⟩
 ·rename_i e' hu;refine⟨⟨_,hu,by simp⟩,?_⟩
  obtain⟨m,new,hk,hc⟩:=GO h hk;have Dc:=h1c m new hk;rcases hc with⟨⟨ad,B4⟩,rfl,rfl⟩|⟨ad,cap,B4,hn,Bl,hrd⟩
  ·have f0:∀w':World,(Builtin.firstCells (As P e) 0 (.slice ad 0 0)).run P w'=.ok #[] w':=fun w'=>by
    cases ad with
    |none=>rfl
    |some p=>exact run_firstCells_some (P:=P) w' (As P e) 0 p 0 0 [] (by simp) (fun j v hj=>by simp at hj)
   exact⟨0,[],[],hk,fun w'=>by rw[B4];rfl,fun w' _=>by rw[B4];exact f0 w',fun k Fc=>by rw[B4,Nat.le_zero.1 Fc,List.take_nil];exact f0 w,by simp,trivial⟩
  ·refine⟨m,new,new.mapIdx (fun j _=>(w.cell? (ad.add j)).getD undef),hk,fun w'=>by rw[B4];rfl,fun w' hw=>?_,fun k Fc=>?_,?_,?_⟩
   ·rw[B4];refine run_firstCells_some (P:=P) w' (As P e) m ad m cap _ (by simp[Dc]) fun j v hj=>?_
    rw[List.getElem?_mapIdx] at hj;cases hc:new[j]? with
    |none=>rw[hc] at hj;cases hj
    |some c=>
     rw[hc] at hj;simp at hj;obtain⟨u,hu,_⟩:=hrd j c hc;rw[hu] at hj;simp at hj;subst hj;have Bl:ad.block<w.heap.size:=by rcases Bl with rfl|Bl<;>first|exact Bl|simp at hc
     rw[World.cell?_of_block (w:=w) (by rw[Ec];exact hw _ Bl)]
     exact hu
   ·rw[B4];have YZ:k*As P e<=m*As P e:=Nat.mul_le_mul_right _ Fc;refine run_firstCells_some (P:=P) w (As P e) k ad m cap _ (by rw[List.length_take,List.length_mapIdx,Dc];omega) fun j v hj=>?_
    rw[List.getElem?_take] at hj;split at hj
    ·rw[List.getElem?_mapIdx] at hj;cases hc:new[j]? with
     |none=>rw[hc] at hj;cases hj
     |some c=>
      rw[hc] at hj;simp at hj;obtain⟨u,hu,_⟩:=hrd j c hc;rw[hu] at hj;simp at hj;subst hj;exact hu
    ·cases hj
   ·intro u hu;obtain⟨j,hj⟩:=List.mem_iff_getElem?.1 hu;rw[List.getElem?_mapIdx] at hj;cases hc:new[j]? with
    |none=>rw[hc] at hj;cases hj
    |some c=>
     rw[hc] at hj;simp at hj;obtain⟨v,hv,h2,ht⟩:=hrd j c hc;rw[hv] at hj;simp at hj;subst hj;exact h2
   ·refine Av.of_at (by simp) fun j c v hc hj=>?_
    rw[List.getElem?_mapIdx,hc] at hj;simp at hj;obtain⟨u,hu,_,ht⟩:=hrd j c hc;rw[hu] at hj;simp at hj;subst hj;exact ht
 ·cases hk
theorem Xb {e:TypeId}(h:CU P e=true):∃i z,P.info? e=some i∧i.zero=some z∧z.cells.size=i.size∧As P e=i.size:=by
 unfold CU at h;split at h
 ·rename_i i hi;split at h
  ·rename_i z hz;exact⟨i,z,hi,hz,Nat.eq_of_beq_eq_true h,by simp[As,hi]⟩
  ·cases h
 ·cases h
theorem run_first_slice {es n cap:Nat}{ad:Option Addr}{olds:List Value}(h:(ad=none∧olds=[])∨∃p,ad=some p∧olds.length=n*es∧∀(j:Nat) v,olds[j]?=some v->w.cell? (p.add j)=some v):
  (Builtin.firstCells es n (.slice ad n cap)).run P w=.ok olds.toArray w:=by
 rcases h with⟨rfl,rfl⟩|⟨p,rfl,hl,hc⟩
 ·rfl
 ·exact run_firstCells_some (P:=P) w es n p n cap olds hl hc
theorem append_grow_run {t tx ty e:TypeId}{i:TypeInfo}{z:Value}{d:TypeDesc}{ts:List TypeId}(ht:P.underlying t=some (.slice e)) (OT:P.underlying tx=some d)(hd:∀k,d ≠ .int k)(hi:P.info? e=some i)(hz:i.zero=some z)
  {ad:Option Addr} {n cap m:Nat} {xv:Value} {olds news:List Value} {A:Nat->Prop} {new:List PV} (hs:Src P w A i.size xv m new news)
  (hold:(ad=none∧olds=[])∨∃p,ad=some p∧olds.length=n*i.size∧∀(j:Nat) v,olds[j]?=some v->w.cell? (p.add j)=some v)
  (hg:cap<n+m)(hb:(n+m)*i.bytes<=1099511627776) (h63:n+m<=1099511627776):
  (Builtin.append_ (t::tx::ts).toArray ty #[.slice ad n cap,xv]).run P w =
   .ok (.slice (some ⟨w.heap.size,0,none⟩) (n+m) (grownCap w (n+m) cap e)) (w.drew.alloc (.cells (olds.toArray++news.toArray++Builtin.zeroCells z.cells (grownCap w (n+m) cap e-(n+m))) e)):=by
 have h1:=hs.len w;have h2:(Builtin.firstCells i.size m xv).run P w.drew=.ok news.toArray w.drew:=hs.cells w.drew (fun _ _=>rfl)
 have h3:(Builtin.firstCells i.size n (.slice ad n cap)).run P w.drew=.ok olds.toArray w.drew:=run_first_slice (w:=w.drew) (by
  rcases hold with hh|⟨p,hp,hl,hc⟩
  ·exact .inl hh
  ·exact .inr ⟨p,hp,hl,fun j v hj=>hc j v hj⟩)
 have Aj7:=growslice_fits (need:=n+m) (old:=cap) (bytes:=i.bytes) hg (by omega)
 have hn:¬(n+m<=cap):=by omega
 have ZO:¬(9223372036854775807<((n:Int)+(m:Int))):=by omega
 have Aaz:¬(281474976710656<Builtin.nextslicecap (n+m) cap*i.bytes):=by omega
 have Ws:(match d with | .int _=>true|_=>false)=false:=by cases d<;>first|rfl|exact absurd rfl (hd _)
 simp[Builtin.append_,run_underlying ht,run_underlying OT,Ws,sizeOf,typeInfo,zeroValue,hi,hz,h1,hn,ZO,Aaz,Question.forced,h2,h3,newRow,grownCap]
 congr 2
 apply Array.ext';simp[List.append_assoc]
theorem append_room_run {t tx ty e:TypeId}{i:TypeInfo}{d:TypeDesc}{ts:List TypeId}(ht:P.underlying t=some (.slice e)) (OT:P.underlying tx=some d)(hd:∀k,d ≠ .int k)(hi:P.info? e=some i)
  {b ob n cap m:Nat} {xv:Value} {news:List Value} {A:Nat->Prop} {new:List PV} (hs:Src P w A i.size xv m new news) (hl:news.length=m*i.size)
  (hcell:∀k,k<news.length->(w.cell? ⟨b,ob+n*i.size+k,none⟩).isSome=true) (XZ:∀k,k<news.length->w.frozen? ⟨b,ob+n*i.size+k,none⟩=false)(hg:n+m<=cap):
  (Builtin.append_ (t::tx::ts).toArray ty #[.slice (some ⟨b,ob,none⟩) n cap,xv]).run P w=.ok (.slice (some ⟨b,ob,none⟩) (n+m) cap) (w.setCells b (ob+n*i.size) news):=by
 have h1:=hs.len w;have h2:(Builtin.firstCells i.size m xv).run P w=.ok news.toArray w:=hs.cells w (fun _ _=>rfl)
 have h3:=run_storeCells_cells (P:=P) b (ob+n*i.size) news 0 w (fun k hk=>by simpa using hcell k hk) (fun k hk=>by simpa using XZ k hk) hs.one
 have Ws:(match d with | .int _=>true|_=>false)=false:=by cases d<;>first|rfl|exact absurd rfl (hd _)
 have _:=hl;simp[Builtin.append_,run_underlying ht,run_underlying OT,Ws,sizeOf,typeInfo,hi,h1,hg,h2,Cf];rw[h3];simp
theorem HG {t ty e:TypeId}{i:TypeInfo}{ts:List TypeId}(ht:P.underlying t=some (.slice e)) (hi:P.info? e=some i)
  {ad:Option Addr} {n cap m:Nat} {xv:Value} {news:List Value} {A:Nat->Prop} {new:List PV} (hs:Src P w A i.size xv m new news)
  {w1:World} (Kf:(match ad with|some p=>storeCells p (news.take (min m n*i.size)) 0|none=>pure ()).run P w=.ok () w1):
  (Builtin.copy_ (t::ts).toArray ty #[.slice ad n cap,xv]).run P w=.ok (goInt ((min m n:Nat):Int)) w1:=by
 have h1:=hs.len w;have h2:=hs.part (min m n) (Nat.min_le_left _ _);have e:Nat.min m n=min m n:=rfl;generalize min m n=k at *
 cases ad with
 |none=>
  simp only at Kf;simp[Builtin.copy_,run_underlying ht,sizeOf,typeInfo,hi,h1,h2,e]
  simpa using Kf
 |some p=>
  simp only at Kf;simp[Builtin.copy_,run_underlying ht,sizeOf,typeInfo,hi,h1,h2,e,Kf]
theorem S5 {t tx ty e:TypeId}{i:TypeInfo}{k kx:IntKind}{ts:List TypeId}(ht:P.underlying t=some (.slice e)) (OT:P.underlying tx=some (.int k)) (hi:P.info? e=some i):
  (Builtin.append_ (t::tx::ts).toArray ty #[.slice none 0 0,.int kx 0]).run P w=.ok (.slice none 0 0) w:=by
 have hw:IntKind.i64.wrap 0=0:=by decide
 simp[Builtin.append_,run_underlying ht,run_underlying OT,sizeOf,typeInfo,hi,asInt,asIntOf,hw]
theorem Vf {t tx ty e:TypeId}{i:TypeInfo}{z:Value}{k kx:IntKind}{ts:List TypeId}(ht:P.underlying t=some (.slice e)) (OT:P.underlying tx=some (.int k)) (hi:P.info? e=some i)(hz:i.zero=some z)
  {n:Int} (h0:0<n) (hb:n.toNat*i.bytes<=1099511627776) (hn:n<=1099511627776):
  (Builtin.append_ (t::tx::ts).toArray ty #[.slice none 0 0,.int kx n]).run P w =
   .ok (.slice (some ⟨w.heap.size,0,none⟩) n.toNat (grownCap w n.toNat 0 e)) (w.drew.alloc (.cells ((if n.toNat*i.size=0 then #[] else Builtin.zeroCells z.cells n.toNat)++Builtin.zeroCells z.cells (grownCap w n.toNat 0 e-n.toNat)) e)):=by
 have hw:IntKind.i64.wrap n=n:=IntWalk.i64_in n (by omega)
 have Aj7:=growslice_fits (need:=n.toNat) (old:=0) (bytes:=i.bytes) (by omega) (by omega)
 have HX:¬n<0:=by omega
 have Es:¬(281474976710656<n*(i.bytes:Int)):=by
  have:n*(i.bytes:Int)=((n.toNat*i.bytes:Nat):Int):=by
   rw[Int.natCast_mul,Int.toNat_of_nonneg (by omega)]
  omega
 have hz0:¬(n.toNat=0):=by omega
 have ZO:¬(9223372036854775807<(n.toNat:Int)):=by omega
 have Aaz:¬(281474976710656<Builtin.nextslicecap n.toNat 0*i.bytes):=by omega
 have Sv:¬n<=0:=by omega
 have hmx:¬(9223372036854775807<max n 0):=by omega
 by_cases hs:n.toNat*i.size=0
 ·simp[Builtin.append_,run_underlying ht,run_underlying OT,sizeOf,typeInfo,zeroValue,hi,hz,asInt,asIntOf,hw,HX,Es,hz0,Sv,hmx,ZO,Aaz,Question.forced,hs,newRow,grownCap,Builtin.firstCells]
 ·simp[Builtin.append_,run_underlying ht,run_underlying OT,sizeOf,typeInfo,zeroValue,hi,hz,asInt,asIntOf,hw,HX,Es,hz0,Sv,hmx,ZO,Aaz,Question.forced,hs,newRow,grownCap,Builtin.firstCells]
theorem Iz {t tx ty e:TypeId}{i:TypeInfo}{d:TypeDesc}{ts:List TypeId}(ht:P.underlying t=some (.slice e)) (OT:P.underlying tx=some d)(hd:∀k,d ≠ .int k)(hi:P.info? e=some i)
  {ad:Option Addr} {xv:Value} {news:List Value} {A:Nat->Prop} {new:List PV} (hs:Src P w A i.size xv 0 new news) (h0:news=[]):
  (Builtin.append_ (t::tx::ts).toArray ty #[.slice ad 0 0,xv]).run P w=.ok (.slice ad 0 0) w:=by
 subst h0;have h1:=hs.len w;have h2:(Builtin.firstCells i.size 0 xv).run P w=.ok ([]:List Value).toArray w:=hs.cells w (fun _ _=>rfl)
 have Ws:(match d with | .int _=>true|_=>false)=false:=by cases d<;>first|rfl|exact absurd rfl (hd _)
 cases ad<;>simp[Builtin.append_,run_underlying ht,run_underlying OT,Ws,sizeOf,typeInfo,hi,h1,h2,storeCells]
end
open Go.RowKit
section
variable {R:Type} {r:R} {P:Program} {N:Nat} {w0:World} {X0:Fw} {Y:Nat->Prop} {β β':Bt} {s:St} {a:Act} {w w':World} {o:Oper} {A:Nat->Prop}
theorem N6 {b j:Nat}(h:j<bsz w b):(w.cell? ⟨b,j,none⟩).isSome=true:=by
 unfold bsz at h;unfold World.cell?;split at h
 ·rename_i c e fz hb;simp[hb,h]
 ·omega
theorem JX {id d:Nat}{c cells:List PV}{bo:Option (Nat × Nat)} (h0:s.hp id=some (.ar false c)) (hd:s.hp d=none)
  (CG:∀k x,bo=some (k,x)->w.heap.size<=k∨∃y,β id=some (k,y)):
  ∀k,k<w.heap.size->B1 (Bi (Bi s.hp id (some .mv)) d (some (.ar false cells))) (Bi β d bo) Y k->B1 s.hp β Y k:=by
 rintro k hk (⟨i,x,hl,hβ⟩|hY)
 ·by_cases e':i=d
  ·subst e';rw[Ah] at hβ;rcases CG k x hβ with h|⟨y,hy⟩
   ·omega
   ·exact .inl ⟨id,y,by rw[h0];trivial,hy⟩
  ·rw[Ae _ _ e'] at hl hβ;by_cases e:i=id
   ·subst e;rw[Ah] at hl;exact hl.elim
   ·rw[Ae _ _ e] at hl;exact .inl ⟨i,x,hl,hβ⟩
 ·exact .inr hY
theorem Xi {pre new:List PV}{olds news:List Value}{zs:Array Value}{e:TypeId}{A':Nat->Prop}(hg:Dr w w' (olds.toArray++news.toArray++zs) e) (hA:∀b,b<w.heap.size->A' b->A b)
  (h1:Av (Ap w A) pre olds) (h2:Av (Ap w A) new news) (ho:∀u∈olds,u.oneCell'=true)(hn:∀u∈news,u.oneCell'=true):DH w' A' ⟨w.heap.size,0,none⟩ (pre++new):=by
 refine MC hg hA fun j p hj=>?_
 obtain⟨v,hv,ht⟩:=(h1.app h2).get hj;refine⟨v,?_,?_,ht⟩
 ·have Bl:j<(olds++news).length:=by
   rcases Nat.lt_or_ge j (olds++news).length with h|h
   ·exact h
   ·rw[List.getElem?_eq_none h] at hv;cases hv
  rw[Array.getElem?_append_left (by simpa using Bl)]
  simpa using hv
 ·rcases List.mem_append.1 (List.mem_of_getElem? hv) with hm|hm
  ·exact ho v hm
  ·exact hn v hm
theorem AR (h:Bs N w0 X0 Y β s a w){c:Call}(ho:o.op=.call c)(hc:c.callee=.builtin .append)(hnb:Sm c=true){d:Nat}(PF:o.dst=some d){b x:Operand}(Dh:c.args.toList=[b,x]) {t tx:TypeId}{ts:List TypeId}(Vg:c.argTypes.toList=t::tx::ts)
  {K:PV->List (Nat × A2)->Option R} (hk:O7 P (Ha s.hp) d t tx (Bb s.tm x) K=some r):∃v nw,K v nw=some r∧C2 P a w o Y β s v [] nw:=by
 have hb:b=.const (.slice none 0 0):=by
  unfold Sm at hnb;rw[Dh] at hnb;split at hnb
  ·rename_i e;injection e
  ·cases hnb
 have V9:c.args = #[b,x]:=by
  have:c.args=([b,x]:List Operand).toArray:=by rw[←Dh]
  exact this
 have FY:c.argTypes=(t::tx::ts).toArray:=by rw[←Vg]
 have Lm:a.eval b=.slice none 0 0:=by rw[hb];rfl
 have run:∀{v:Value} {w1:World},(Builtin.append_ (t::tx::ts).toArray o.type #[a.eval b,a.eval x]).run P w=.ok v w1->(execOp a.eval o).run P w=.ok (.value v) w1:=by
  intro v w1 hr;unfold execOp;rw[ho];simp only[resolve,hc,invoke,builtin,Sem.run_bind,Sem.run_pure,Result.andThen_ok,V9,FY];have:(#[b,x]:Array Operand).map a.eval = #[a.eval b,a.eval x]:=by simp
  rw[this,hr];rfl
 unfold O7 at hk;split at hk
 ·rename_i e hu;obtain⟨OY,hk⟩:=Ag hk;obtain⟨i,z,hi,hz,Xs,Jl⟩:=Xb OY;have Nx:((P.info? e).map (·.bytes)).getD 0=i.bytes:=by rw[hi];rfl
  obtain⟨⟨dx,hdx,FO⟩,m,new,news,hk,hs⟩:=V3 (s:=s) h hk (fun m new Fc=>by
   obtain⟨hb,_⟩:=Ag Fc;simp only[Bool.and_eq_true,decide_eq_true_eq] at hb;exact hb.1.1)
  obtain⟨Fs,hk⟩:=Ag hk;simp only[Bool.and_eq_true,decide_eq_true_eq] at Fs;obtain⟨⟨MA,WC⟩,DF⟩:=Fs;have XP:new.length=news.length:=hs.rep.len;rw[Jl] at MA hk hs;rw[Nx] at WC;have Un:news.length=m*i.size:=by omega
  refine⟨_,_,hk,by simp,?_⟩
  by_cases XT:m=0
  ·subst XT;have hr:=Iz (P:=P) (w:=w) (t:=t) (tx:=tx) (ty:=o.type) (ts:=ts) (ad:=none) hu hdx FO hi hs (List.eq_nil_of_length_eq_zero (by omega))
   rw[←Lm] at hr;have DR:new=[]:=List.eq_nil_of_length_eq_zero (by omega)
   subst DR;refine⟨_,_,run hr,fun SS=>⟨Bi β d none,?_⟩⟩
   have Q8:s.hp d=none:=(Ax SS).1 d _ (List.mem_singleton_self _);rw[Lm];refine⟨rfl,rfl,rfl,Bd.refl _ _,fun j hj=>Ae _ _ (by rintro rfl;exact hj Q8),?_,?_,?_,?_,?_,.inl ⟨Ah _ _ _,rfl,rfl,none,rfl⟩,?_⟩
   ·intro j bx hm;simp at hm;rw[hm.2];trivial
   ·intro j bx hm;simp at hm;obtain⟨rfl,rfl⟩:=hm;exact .inl ⟨Ah _ _ _,rfl⟩
   ·intro j bx k q hm hq;simp at hm;obtain⟨rfl,rfl⟩:=hm;rw[Ah] at hq;cases hq
   ·intro j bx j' bx' k q q' hm Je _ _;simp at hm Je;rw[hm.1,Je.1]
   ·intro j cells hm;simp at hm
   ·intro j hj;simp[A8,Bh,Ak] at hj;subst hj;exact .inr ⟨.ar false [],by simp⟩
  ·have hr:=append_grow_run (P:=P) (w:=w) (t:=t) (tx:=tx) (ty:=o.type) (ts:=ts) (ad:=none) (n:=0) (cap:=0) (olds:=[]) hu hdx FO hi hz hs (.inl ⟨rfl,rfl⟩) (by omega) (by rw[Nat.zero_add];exact WC) (by omega)
   rw[←Lm] at hr;refine⟨_,_,run hr,fun SS=>⟨Bi β d (some (w.heap.size,0)),?_⟩⟩
   have Q8:s.hp d=none:=(Ax SS).1 d _ (List.mem_singleton_self _);have RL:0+m<=grownCap w (0+m) 0 e:=grownCap_ge w (0+m) 0 e
   have Qq:Dr w (w.drew.alloc (.cells (([]:List Value).toArray++news.toArray++Builtin.zeroCells z.cells (grownCap w (0+m) 0 e-(0+m))) e)) (([]:List Value).toArray++news.toArray++Builtin.zeroCells z.cells (grownCap w (0+m) 0 e-(0+m))) e:=
    ⟨rfl,rfl,rfl,fun k hk=>Below.heap_alloc w.drew _ k hk,by show (w.heap.push _).size=_;simp,(0,0),by show (w.heap.push _)[w.heap.size]?=_;simp,.inl rfl⟩
   have LA:(([]:List Value).toArray++news.toArray++Builtin.zeroCells z.cells (grownCap w (0+m) 0 e-(0+m))).size=grownCap w (0+m) 0 e*i.size:=by
    simp only[Array.size_append,List.size_toArray,size_zeroCells,Xs,Un,List.length_nil,←Nat.add_mul];rw[Nat.zero_add (m*i.size),←Nat.add_mul]
    congr 1
    omega
   refine Lr (s:=⟨s.tm,Ac s.hp []⟩) Qq Q8 trivial ?_ (fun cells hx=>by cases hx) ?_ (by intro j hj;simp[A8,Bh,Ak] at hj;exact .inr hj)
   ·refine .inr ⟨w.heap.size,0,Ah _ _ _,?_,fun _ j _ hj=>?_,(fun q=>by cases q)⟩
    ·exact Xi (pre:=[]) Qq (MH (s:=⟨s.tm,Ac s.hp []⟩) Q8) trivial hs.rep (by simp) hs.one
    ·rw[Qq.bsz] at hj;exact Qq.frozen hj
   ·refine .inr ⟨w.heap.size,0,0,grownCap w (0+m) 0 e,Ah _ _ _,by rw[Nat.zero_add],.inl rfl,by omega,?_,by rw[Qq.size];omega⟩
    exact⟨by rw[Qq.bsz,LA];omega,.inr (Hs w.drew _ e)⟩
 ·cases hk
theorem FE {lo hi:Option Operand}{y3:Operand}{k3:IntKind}{len cap l u m:Nat}(hl:(lo=none∧l=0)∨∃y k,lo=some y∧a.eval y=.int k (l:Int))
  (hu:∃y k,hi=some y∧a.eval y=.int k (u:Int)) (hm:a.eval y3=.int k3 (m:Int)) (h1:l<=u)(h2:u<=m)(h3:m<=cap):
  (Instr.sliceBounds true len cap (lo.map a.eval) (hi.map a.eval) (some (a.eval y3))).run P w=.ok (l,u,m) w:=by
 obtain⟨y,k,rfl,hy⟩:=hu;rcases hl with⟨rfl,rfl⟩|⟨y',k',rfl,hy'⟩
 ·simp[Instr.sliceBounds,Instr.sliceBound,asIntOf,hy,hm,h2,h3]
 ·simp[Instr.sliceBounds,Instr.sliceBound,asIntOf,hy,hy',hm,h1,h2,h3]
theorem BE (h:Bs N w0 X0 Y β s a w){t:TypeId}{x m:Operand}{lo hi:Option Operand}(ho:o.op=.slice t x lo hi (some m)) {d:Nat}{K:PV->List (Nat × A2)->Option R}
  (hk:O1 P d t (Bb s.tm x) (lo.map (Bb s.tm)) (hi.map (Bb s.tm)) (some (Bb s.tm m)) K=some r):∃v nw,K v nw=some r∧C2 P a w o Y β s v [] nw:=by
 have hx:=Bx h x;unfold O1 at hk;split at hk
 ·rename_i e hu;obtain⟨hb,hk⟩:=Ag hk;simp only[Bool.and_eq_true] at hb;obtain⟨Lb,hhi⟩:=hb
  obtain⟨yh,rfl⟩:∃y,hi=some y:=by
   cases hi with
   |none=>simp at hhi
   |some y=>exact⟨y,rfl⟩
  have fin:∀{ad:Option Addr} {n cap l u q:Nat},a.eval x=.slice ad n cap->n<=cap->((lo=none∧l=0)∨∃y k,lo=some y∧a.eval y=.int k (l:Int))->((some yh=none∧u=n)∨∃y k,some yh=some y∧a.eval y=.int k (u:Int))->(((some m:Option Operand)=none∧q=n)∨∃y k,(some m:Option Operand)=some y∧a.eval y=.int k (q:Int)) ->
    (Nat.beq l q&&Nat.beq u q&&decide (q<=n))=true->C2 P a w o Y β s (.view d (As P e) 0 0) [] [(d,.ar false [])]:=by
   intro ad n cap l u q B4 hn hl Gs hq hb;simp only[Bool.and_eq_true,decide_eq_true_eq] at hb;obtain⟨⟨b1,b2⟩,b3⟩:=hb;have b1:=Nat.eq_of_beq_eq_true b1;have b2:=Nat.eq_of_beq_eq_true b2;subst b1 b2
   have hu2:∃y k,(some yh:Option Operand)=some y∧a.eval y=.int k (u:Int):=by
    rcases Gs with⟨e,_⟩|e
    ·cases e
    ·exact e
   obtain⟨k3,hm3⟩:∃k,a.eval m=.int k (u:Int):=by
    rcases hq with⟨e,_⟩|⟨y,k,e,q⟩
    ·cases e
    ·cases e;exact⟨k,q⟩
   have DJ:=FE (P:=P) (w:=w) (len:=n) (cap:=cap) hl hu2 hm3 (Nat.le_refl _) (Nat.le_refl _) (by omega)
   have Bn:∃ad',(execOp a.eval o).run P w=.ok (.value (.slice ad' 0 0)) w:=by
    unfold execOp;rw[ho];cases ad with
    |none=>exact⟨none,by simp[Instr.sliceAt,Instr.slice,run_underlying hu,B4,DJ,Bo Lb] at DJ ⊢⟩
    |some p=>exact⟨some p,by simp[Instr.sliceAt,Instr.slice,run_underlying hu,B4,DJ,Bo Lb] at DJ ⊢⟩
   obtain⟨ad',Bn⟩:=Bn;refine⟨by simp,_,_,Bn,fun SS=>⟨Bi β d none,?_⟩⟩
   have Q8:s.hp d=none:=(Ax SS).1 d _ (List.mem_singleton_self _);refine⟨rfl,rfl,rfl,Bd.refl _ _,fun j hj=>Ae _ _ (by rintro rfl;exact hj Q8),?_,?_,?_,?_,?_,.inl ⟨Ah _ _ _,rfl,rfl,ad',rfl⟩,?_⟩
   ·intro j bx hm;simp at hm;rw[hm.2];trivial
   ·intro j bx hm;simp at hm;obtain⟨rfl,rfl⟩:=hm;exact .inl ⟨Ah _ _ _,rfl⟩
   ·intro j bx k q hm hq;simp at hm;obtain⟨rfl,rfl⟩:=hm;rw[Ah] at hq;cases hq
   ·intro j bx j' bx' k q q' hm Je _ _;simp at hm Je;rw[hm.1,Je.1]
   ·intro j cells hm;simp at hm
   ·intro j hj;simp[A8,Bh,Ak] at hj;subst hj;exact .inr ⟨.ar false [],by simp⟩
  split at hk
  ·rename_i id es off n e';rw[e'] at hx;obtain⟨Rs,hk⟩:=Ag hk;obtain⟨l,hk,hl⟩:=Cn h hk;obtain⟨u,hk,Gs⟩:=Cn h hk;obtain⟨q,hk,hq⟩:=Cn (x:=some m) h hk;obtain⟨hb,hk⟩:=Ag hk;refine⟨_,_,hk,?_⟩;rcases hx with⟨hβ,_,rfl,ad,B4⟩|⟨b,ob,y,cap,hβ,B4,hy,hn,Ps,Bl⟩
   ·exact fin B4 (Nat.le_refl _) hl Gs hq hb
   ·exact fin B4 hn hl Gs hq hb
  ·obtain⟨z,n,c,hk,hp⟩:=Dp hk;obtain⟨l,hk,hl⟩:=Cn h hk;obtain⟨u,hk,Gs⟩:=Cn h hk;obtain⟨q,hk,hq⟩:=Cn (x:=some m) h hk;obtain⟨hb,hk⟩:=Ag hk;refine⟨_,_,hk,?_⟩;rcases En hp hx with⟨B4,rfl,rfl⟩|⟨ad,cap,B4,_,hn,_⟩|⟨ad,cap,B4,_,rfl,rfl⟩
   ·exact fin B4 (Nat.le_refl _) hl Gs hq hb
   ·exact fin B4 hn hl Gs hq hb
   ·exact fin B4 (Nat.zero_le _) hl Gs hq hb
 ·cases hk
end
open Go.RowKit
section
variable {R:Type} {r:R} {P:Program} {N:Nat} {w0:World} {X0:Fw} {Y:Nat->Prop} {β β':Bt} {s:St} {a:Act} {w w':World} {o:Oper} {A:Nat->Prop}
theorem SA (h:Bs N w0 X0 Y β s a w){G:Glo}(H9:ET P G w0 X0){C:Fd}{call:Aj}(Cr:∀f args res,call f args=some res->Dl G P f args res){K:PV->List Nat->List (Nat × A2)->Option R}
  (hk:Wx C P N call s.tm (rd s.hp) (Ha s.hp) o K=some r):∃v fz nw,K v fz nw=some r∧Xg P a w o Y β s v fz nw:=by
 have one:∀{K':PV->Option R},(∀v,K' v=some r->K v [] []=some r)->(∃v,K' v=some r∧C2 P a w o Y β s v [] [])->∃v fz nw,K v fz nw=some r∧Xg P a w o Y β s v fz nw:=
  fun hK ⟨v,h1,h2⟩=>⟨v,[],[],hK v h1,Wp h2⟩
 have many:(∃v fz nw,K v fz nw=some r∧C2 P a w o Y β s v fz nw)->∃v fz nw,K v fz nw=some r∧Xg P a w o Y β s v fz nw:=
  fun ⟨v,fz,nw,h1,h2⟩=>⟨v,fz,nw,h1,Wp h2⟩
 unfold Wx at hk;split at hk
 ·rename_i x ho;exact one (fun _ h=>h) (R8 (K:=fun p=>K p [] []) h (QP ho) hk)
 ·rename_i x ho;exact one (fun _ h=>h) (R8 (K:=fun p=>K p [] []) h (DM ho) hk)
 ·rename_i c x y ho;exact one (fun _ h=>h) (HZ (K:=fun p=>K p [] []) h ho hk)
 ·rename_i t ho;obtain⟨d,hd,hk⟩:=Bp hk;exact many (EP ho hk)
 ·rename_i t x ho;obtain⟨d,hd,hk⟩:=Bp hk;exact many (PU h ho hk)
 ·rename_i t ps ho;exact one (fun _ h=>h) (GB (K:=fun p=>K p [] []) h ho hk)
 ·rename_i t n ps ho;obtain⟨d,hd,hk⟩:=Bp hk;exact many (Ts h ho hk)
 ·rename_i t x ho;exact one (fun _ h=>h) (JQ (K:=fun p=>K p [] []) h ho hk)
 ·rename_i x ho;exact one (fun _ h=>h) (Wv (K:=fun p=>K p [] []) h ho hk)
 ·rename_i op t x y ty ho;exact one (fun _ h=>h) (FP (K:=fun p=>K p [] []) h ho hk)
 ·rename_i op t x ho;exact one (fun _ h=>h) (IF (K:=fun p=>K p [] []) h ho hk)
 ·rename_i src dst x ho;obtain⟨v,nw,hk,hg⟩:=IA h ho hk;obtain⟨d,hd,hk⟩:=Bp hk;exact⟨v,[],nw,hk,Wp hg⟩
 ·rename_i t x y ho;obtain⟨d,hd,hk⟩:=Bp hk;exact many (KH h ho hk)
 ·rename_i t x lo hi mx ho;split at hk
  ·exact one (fun _ h=>h) (GY (K:=fun p=>K p [] []) h ho hk)
  ·obtain⟨d,hd,hk⟩:=Bp hk;obtain⟨v,nw,h1,h2⟩:=BE h ho hk;exact⟨v,[],nw,h1,Wp h2⟩
 ·rename_i t x f ho;exact one (fun _ h=>h) (U8 (K:=fun p=>K p [] []) h ho hk)
 ·rename_i t x f ho;exact one (fun _ h=>h) (DZ (K:=fun p=>K p [] []) h ho hk)
 ·rename_i t x i ho;exact one (fun _ h=>h) (Ve (K:=fun p=>K p [] []) h ho hk)
 ·rename_i t x i ho;exact one (fun _ h=>h) (GC (K:=fun p=>K p [] []) h ho hk)
 ·rename_i x i ho;exact one (fun _ h=>h) (Yt (K:=fun p=>K p [] []) h ho hk)
 ·rename_i c ho;split at hk
  ·rename_i hc;exact one (fun _ h=>h) (PJ (K:=fun p=>K p [] []) h ho hc hk)
  ·rename_i hc;exact one (fun _ h=>h) (RB (K:=fun p=>K p [] []) h ho hc hk)
  ·rename_i hc;exact one (fun _ h=>h) (OQ (K:=fun p=>K p [] []) h ho hc hk)
  ·rename_i hc;exact one (fun _ h=>h) (NM (K:=fun p=>K p [] []) h ho hc hk)
  ·rename_i hc;obtain⟨hnb,hk⟩:=Ag hk;obtain⟨d,hd,Cv⟩:=Bp hk;obtain⟨b,xs,X4,Dk⟩:=Aq Cv;obtain⟨x,ys,hys,Mk⟩:=Aq Dk;obtain⟨Tc,V8⟩:=Cb Mk;obtain⟨t,us,RK,YB⟩:=Aq V8;obtain⟨tx,vs,G8,hk6⟩:=Aq YB;rw[hys,Tc] at X4;rw[G8] at RK;obtain⟨v,nw,h1,h2⟩:=AR h ho hc hnb hd X4 RK hk6;exact⟨v,[],nw,h1,Wp h2⟩
  ·rename_i f hc;exact Wf h H9 Cr (fun hf hb=>FI ho hc H9.ng hf hb) hk
  ·rename_i t hc;obtain⟨f,hf0,Cv⟩:=Aax hk;have ht:a.eval (.tmp t)=.func (.func f) #[] #[]:=Bk h (x:=.tmp t) hf0;exact Wf h H9 Cr (fun hf hb=>PL ho hc ht H9.ng hf hb) Cv
  ·cases hk
 ·cases hk
theorem KY (h:Bs N w0 X0 Y β s a w){G:Glo}(H9:ET P G w0 X0){C:Fd}{call:Aj}(Cr:∀f args res,call f args=some res->Dl G P f args res){K:St->Option R}
  (hk:(Wx C P N call s.tm (rd s.hp) (Ha s.hp) o fun v fz nw=>Tt N s o.dst v fz nw K)=some r):
  ∃s',K s'=some r∧∀(next:Act->World->Prop) (Q:Exit->Act->World->Prop),(∀a' w' β',Bs N w0 X0 Y β' s' a' w'->next a' w')->o.wp P a w next Q:=by
 obtain⟨v,fz,nw,hk,Nk,hg⟩:=SA h H9 Cr hk;unfold Tt at hk;obtain⟨hb,hk⟩:=Ag hk;simp only[Bool.and_eq_true] at hb;refine⟨_,hk,fun next Q hn=>hg next Q fun val w' Kf=>?_⟩
 obtain⟨β',st⟩:=Kf hb.2
 have Lm:A3 (Ac s.hp fz) nw=true:=by
  have:∀nw,A3 s.hp nw=true->A3 (Ac s.hp fz) nw=true:=by
   intro nw
   induction nw with
   |nil=>intro _;rfl
   |cons q nw ih=>
    obtain⟨i,b⟩:=q;intro hq;simp only[A3,Bool.and_eq_true,Option.isNone_iff_eq_none] at hq ⊢;exact⟨⟨Cq.2 hq.1.1,hq.1.2⟩,ih hq.2⟩
  exact this nw hb.2
 exact hn _ _ β' ((h.freeze Nk).stepR hb.1 Lm st)
end
open Go.RowKit
section
variable {R:Type} {r:R} {P:Program} {N:Nat} {w0:World} {X0:Fw} {Y:Nat->Prop} {β β':Bt} {s:St} {a:Act} {w w':World} {o:Oper} {A:Nat->Prop}
structure Be (b:Nat) (w w':World):Prop where
 os:w'.os=w.os
 tape:w'.tape=w.tape
 output:w'.output=w.output
 size:w'.heap.size=w.heap.size
 other:∀k,k≠b->w'.heap[k]?=w.heap[k]?
 bs:bsz w' b=bsz w b
 frz:∀j,w'.frozen? ⟨b,j,none⟩=w.frozen? ⟨b,j,none⟩
theorem Be.grow {b:Nat}(h:Be b w w')(k:Nat):Gt w w' k:=by
 by_cases e:k=b
 ·subst e;refine⟨by rw[h.bs];exact Nat.le_refl _,fun q=>?_⟩
  unfold EI at q ⊢;rw[h.bs,h.frz];exact q
 ·exact Gt.same (h.other k e)
theorem Be.refl (b:Nat)(w:World):Be b w w:=⟨rfl,rfl,rfl,rfl,fun _ _=>rfl,rfl,fun _=>rfl⟩
theorem Be.setCell (b j:Nat)(v:Value)(w:World):Be b w (w.setCell ⟨b,j,none⟩ v):=by
 refine⟨rfl,rfl,rfl,by simp[World.setCell],fun k hk=>Below.heap_setCell w ⟨b,j,none⟩ v k hk,?_,fun i=>?_⟩
 ·simp only[bsz,World.setCell,Array.getElem?_modify];simp only[if_true];cases h:w.heap[b]? with
  |none=>simp
  |some x=>cases x<;>simp
 ·simp only[World.frozen?,World.setCell,Array.getElem?_modify,if_true];cases h:w.heap[b]? with
  |none=>simp
  |some x=>cases x<;>simp
theorem Be.trans {b:Nat}{w'':World}(h:Be b w w')(h':Be b w' w''):Be b w w'':=
 ⟨h'.os.trans h.os,h'.tape.trans h.tape,h'.output.trans h.output,h'.size.trans h.size,fun k hk=>(h'.other k hk).trans (h.other k hk),h'.bs.trans h.bs,fun j=>(h'.frz j).trans (h.frz j)⟩
theorem Be.setCells (b:Nat):∀(vs:List Value)(j:Nat)(w:World),Be b w (w.setCells b j vs)
 |[],_,w=>Be.refl b w
 |v::vs,j,w=>(Be.setCell b j v w).trans (Be.setCells b vs (j+1) _)
theorem Alh {hp:Nat->Option A2}{id:Nat}{bx bx':A2}(h0:hp id=some bx)(hl:B0 (some bx)) (G9:B0 (some bx')) (b:Nat):CC (Bi hp id (some bx')) β b↔CC hp β b:=by
 constructor
 ·rintro⟨i,o,h1,h2⟩
  by_cases e:i=id
  ·subst e;exact⟨i,o,by rw[h0];exact hl,h2⟩
  ·rw[Ae _ _ e] at h1;exact⟨i,o,h1,h2⟩
 ·rintro⟨i,o,h1,h2⟩
  by_cases e:i=id
  ·subst e;exact⟨i,o,by rw[Ah];exact G9,h2⟩
  ·exact⟨i,o,by rw[Ae _ _ e];exact h1,h2⟩
theorem Bs.write (h:Bs N w0 X0 Y β s a w){id b ob:Nat}{bx bx':A2}(h0:s.hp id=some bx)(hl:B0 (some bx)) (G9:B0 (some bx')) (hβ:β id=some (b,ob)) (hw:Be b w w')
  (I1:M6 w' (B1 s.hp β Y) β id bx') (hr:∀cells,bx'=.st cells->∀c∈cells,∀i∈Ak c,s.hp i≠none)
  (hK:∀c',bx'=.st c'->∃c,bx=.st c)(hR:∀j,BR bx' ob j->BR bx ob j)(hO:∀j,¬BR bx ob j->w'.cell? ⟨b,j,none⟩=w.cell? ⟨b,j,none⟩):Bs N w0 X0 Y β ⟨s.tm,Bi s.hp id (some bx')⟩ a w':=by
 have hX:=Alh (β:=β) h0 hl G9;have hA:∀k,B1 (Bi s.hp id (some bx')) β Y k↔B1 s.hp β Y k:=fun k=>⟨fun x=>x.imp (hX k).1 (fun y=>y),fun x=>x.imp (hX k).2 (fun y=>y)⟩
 have XN:B1 s.hp β Y b:=.inl ⟨id,ob,by rw[h0];exact hl,hβ⟩
 have Kf:Bd (B1 s.hp β Y) w w':=⟨by rw[hw.size];exact Nat.le_refl _,fun k _ hk=>hw.other k (fun e=>hk (e ▸ XN)),fun k _=>hw.grow k⟩
 have Es:∀i,Bi s.hp id (some bx') i≠none↔s.hp i≠none:=by
  intro i;by_cases e:i=id
  ·subst e;rw[Ah,h0];simp
  ·rw[Ae _ _ e]
 have hAe:B1 (Bi s.hp id (some bx')) β Y=B1 s.hp β Y:=funext fun k=>propext (hA k)
 have Rg:∀i,B0 (Bi s.hp id (some bx') i)->B0 (s.hp i):=by
  intro i hi;by_cases e:i=id
  ·subst e;rw[h0];exact hl
  ·rw[Ae _ _ e] at hi;exact hi
 refine⟨h.dfr,h.tsz,h.tmo,fun i hi=>?_,fun i bi hb=>?_,fun i i' k x y h1 h2=>h.inj i i' k x y (Rg i h1) (Rg i' h2),fun i k x hi hk=>?_,fun i hi j hj=>(Es j).2 (h.wfT i hi j hj),
  fun i cells hc c HC j hj=>(Es j).2 ?_,fun k hk=>h.ownd k ((hX k).1 hk),fun i bi k x Vd hli hk Bl j hj=>?_,fun i hi=>⟨(Es _).2 (h.pin i hi).1,(h.pin i hi).2⟩,fun i c k x hc hk Bl=>?_,fun k hk x=>h.Yx k hk ((hX k).1 x),h.Ylt,?_⟩
 ·rw[hAe];exact (h.tms i hi).step Kf (fun _ _ x=>x) (fun _ _=>rfl)
 ·rw[hAe];simp only at hb;by_cases e:i=id
  ·subst e;rw[Ah] at hb;cases hb;exact I1
  ·rw[Ae _ _ e] at hb;have Vd:=h.box i bi hb;cases bi with
   |st c=>
    obtain⟨k,x,h1,h2,h3⟩:=Vd
    have hk:k≠b:=by
     rintro rfl
     exact e (h.inj i id k x ob (by rw[hb];trivial) (by rw[h0];exact hl) h1 hβ)
    refine⟨k,x,h1,fun j c hj=>?_,fun j hj=>?_⟩
    ·obtain⟨v,hv,hc⟩:=h2 j c hj;exact⟨v,by rw[World.cell?_of_block (w:=w) (hw.other k hk)];exact hv,hc.step Kf (fun _ _ x=>x) (fun _ _=>rfl)⟩
    ·rw[World.frozen?_of_block (w:=w) (hw.other k hk)];exact h3 j hj
   |ar fz c=>
    rcases Vd with hn|⟨k,x,h1,h2,h3,h4⟩
    ·exact .inl hn
    ·have hk:k≠b:=by
      rintro rfl
      cases fz with
      |true=>exact h4 rfl XN
      |false=>exact e (h.inj i id k x ob (by rw[hb];trivial) (by rw[h0];exact hl) h1 hβ)
     refine .inr ⟨k,x,h1,fun j c hj=>?_,fun ef j hj Kk=>?_,h4⟩
     ·obtain⟨v,hv,h5,hc⟩:=h2 j c hj;exact⟨v,by rw[World.cell?_of_block (w:=w) (by rw[Ec];exact hw.other k hk)];exact hv,h5,hc.step Kf (fun _ _ x=>x)⟩
     ·rw[World.frozen?_of_block (w:=w) (hw.other k hk)];refine h3 ef j hj ?_;unfold bsz at Kk ⊢;rw[hw.other k hk] at Kk;exact Kk
   |mv=>trivial
 ·rw[hw.size];exact h.blt i k x ((Es i).1 hi) hk
 ·simp only at hc;by_cases e:i=id
  ·subst e;rw[Ah] at hc;injection hc with hc;exact hr cells hc c HC j hj
  ·rw[Ae _ _ e] at hc;exact h.wfB i cells hc c HC j hj
 ·simp only at Vd;by_cases e:i=id
  ·subst e;rw[Ah] at Vd;cases Vd;rw[hβ] at hk;cases hk;exact h.rngB i bx b ob h0 hl hβ Bl j (hR j hj)
  ·rw[Ae _ _ e] at Vd;exact h.rngB i bi k x Vd hli hk Bl j hj
 ·simp only at hc;by_cases e:i=id
  ·subst e;rw[Ah] at hc;injection hc with hc;obtain⟨c0,rfl⟩:=hK c hc;exact h.stp i c0 k x h0 hk Bl
  ·rw[Ae _ _ e] at hc;exact h.stp i c k x hc hk Bl
 ·refine⟨hw.os.trans h.fr.os,hw.tape.trans h.fr.tape,hw.output.trans h.fr.output,?_,fun k j hk hL=>?_⟩
  ·refine⟨by rw[hw.size];exact h.fr.step.size,fun k hk hnk=>?_,fun k hk=>(h.fr.step.bs k hk).trans (Kf.bs k (Nat.lt_of_lt_of_le hk h.fr.step.size))⟩
   rw[hw.other k ?_]
   ·exact h.fr.step.keep k hk hnk
   ·rintro rfl
    rcases h.ownd k ⟨id,ob,by rw[h0];exact hl,hβ⟩ with hx|hx
    ·exact hnk hx
    ·omega
  ·by_cases e:k=b
   ·subst e;rw[hO j (fun hj=>hL (h.rngB id bx k ob h0 hl hβ hk j hj)),hw.frz]
    exact h.fr.rng k j hk hL
   ·have hc:w'.cell? ⟨k,j,none⟩=w.cell? ⟨k,j,none⟩:=World.cell?_of_block (w:=w) (hw.other k e);have hf:w'.frozen? ⟨k,j,none⟩=w.frozen? ⟨k,j,none⟩:=World.frozen?_of_block (w:=w) (hw.other k e);rw[hc,hf];exact h.fr.rng k j hk hL
theorem Mq {c cs:List PV}{off j:Nat}{p:PV}(Sv:off+cs.length<=c.length)(h:(A4 c cs off)[j]?=some p):
  (off<=j∧j<off+cs.length∧cs[j-off]?=some p)∨((j<off∨off+cs.length<=j)∧c[j]?=some p):=by
 unfold A4 at h;by_cases h1:j<off
 ·rw[List.append_assoc,List.getElem?_append_left (by simp;omega),List.getElem?_take_of_lt h1] at h
  exact .inr ⟨.inl h1,h⟩
 ·by_cases h2:j<off+cs.length
  ·rw[List.getElem?_append_left (by simp;omega),List.getElem?_append_right (by simp;omega)] at h
   simp only[List.length_take,Nat.min_eq_left (by omega:off<=c.length)] at h
   exact .inl ⟨by omega,h2,h⟩
  ·rw[List.getElem?_append_right (by simp;omega)] at h
   simp only[List.length_append,List.length_take,Nat.min_eq_left (by omega:off<=c.length),List.getElem?_drop] at h
   rw[show off+cs.length+(j-(off+cs.length))=j from by omega] at h
   exact .inr ⟨.inr (by omega),h⟩
theorem Mo {c cs:List PV}{off:Nat}(Sv:off+cs.length<=c.length):(A4 c cs off).length=c.length:=by
 simp[A4];omega
theorem Uh {t:TypeId}{b j:Nat}{v:Value}(Jl:(P.info? t).map (·.size)=some v.cells.size) (hc:∀i,i<v.cells.toList.length->(w.cell? ⟨b,j+i,none⟩).isSome=true)
  (hf:∀i,i<v.cells.toList.length->w.frozen? ⟨b,j+i,none⟩=false)(h1:∀u∈v.cells.toList,u.oneCell'=true):(Instr.storeAt t (.pointer (some ⟨b,j,none⟩)) v).run P w=.ok () (w.setCells b j v.cells.toList):=by
 have:=run_storeCells_cells (P:=P) b j v.cells.toList 0 w (fun i hi=>by simpa using hc i hi) (fun i hi=>by simpa using hf i hi) h1
 simp only[Instr.storeAt,Instr.sureAddr,storeVar,Sem.run_bind,Sem.run_pure,Result.andThen_ok,Hu Jl]
 simpa using this
theorem GT (h:Bs N w0 X0 Y β s a w){t:TypeId}{x y:Operand}(ho:o.op=.store t x y)(hd:o.dst=none){K:St->Option R}(hk:S7 P s t (Bb s.tm x) (Bb s.tm y) K=some r):
  ∃s',K s'=some r∧∀(next:Act->World->Prop) (Q:Exit->Act->World->Prop),(∀a' w' β',Bs N w0 X0 Y β' s' a' w'->next a' w')->o.wp P a w next Q:=by
 have hx:=Bx h x;have X5:=Df h x
 have run:∀{b j:Nat},a.eval x=.pointer (some ⟨b,j,none⟩)->(Instr.storeAt t (.pointer (some ⟨b,j,none⟩)) (a.eval y)).run P w=.ok () (w.setCells b j (a.eval y).cells.toList) ->
   ∀(next:Act->World->Prop) (Q:Exit->Act->World->Prop),next a (w.setCells b j (a.eval y).cells.toList)->o.wp P a w next Q:=by
  intro b j B4 hr next Q hn;unfold Oper.wp execOp;rw[ho];simp only[Sem.run_bind,B4,hr,Result.andThen_ok,Sem.run_pure];show next (a.put o.dst undef) _;rw[hd];exact hn
 unfold S7 at hk;split at hk
 ·rename_i id off e;rw[e] at hx X5;obtain⟨b,ob,hβ,B4⟩:=hx;split at hk
  ·rename_i c h0;obtain⟨hb,hk⟩:=Ag hk;simp only[Bool.and_eq_true,decide_eq_true_eq] at hb;obtain⟨⟨Kh,hl⟩,Sv⟩:=hb;have hl:=Nat.eq_of_beq_eq_true hl;obtain⟨cs,hk,Lc,h2,h1,hr,_⟩:=MK (Bx h y) hl hk;obtain⟨_,Aem,Jl⟩:=L0 Kh;have R2:=h2.len;obtain⟨b',o',D7,It,CY⟩:=h.box id _ h0;rw[hβ] at D7;simp at D7;obtain⟨rfl,rfl⟩:=D7
   have hcell:∀i,i<(a.eval y).cells.toList.length->(w.cell? ⟨b,ob+off+i,none⟩).isSome=true:=by
    intro i hi;obtain⟨v,hv,_⟩:=It (off+i) _ (List.getElem?_eq_getElem (by omega))
    rw[Nat.add_assoc,hv];rfl
   have Bn:=Uh (P:=P) (t:=t) (w:=w) (b:=b) (j:=ob+off) (v:=a.eval y) (by rw[Jl,←Aem,←Lc,R2];simp) hcell (fun i hi=>by rw[Nat.add_assoc];exact CY _ (by omega)) h1
   refine⟨_,hk,fun next Q hn=>run B4 Bn next Q (hn _ _ β ?_)⟩
   refine h.write h0 trivial trivial hβ (Be.setCells b _ _ w) ?_ ?_ (fun _ _=>⟨_,rfl⟩) (fun j hj=>by
    have hj:ob<=j∧j<ob+(A4 c cs off).length:=hj;rw[Mo (by omega)] at hj
    exact hj) (fun j hj=>by
    refine World.cell?_setCells_out b _ _ w ⟨b,j,none⟩ (fun _ _=>?_)
    have hj:¬(ob<=j∧j<ob+c.length):=hj;show j<ob+off∨ob+off+_<=j;omega)
   ·have Kf:Bd (B1 s.hp β Y) w (w.setCells b (ob+off) (a.eval y).cells.toList):=by
     have hw:=Be.setCells b (a.eval y).cells.toList (ob+off) w;have XN:B1 s.hp β Y b:=.inl ⟨id,ob,by rw[h0];trivial,hβ⟩
     exact⟨by rw[hw.size];exact Nat.le_refl _,fun k _ hk=>hw.other k (fun e=>hk (e ▸ XN)),fun k _=>hw.grow k⟩
    refine⟨b,ob,hβ,fun j p hj=>?_,fun j hj=>?_⟩
    ·rcases Mq (by omega) hj with⟨h3,h4,h5⟩|⟨h3,h5⟩
     ·obtain⟨u,hu,hcu⟩:=h2.get h5;have Bl:j-off<(a.eval y).cells.toList.length:=by omega
      refine⟨u,?_,hcu.step Kf (fun _ _ x=>x) (fun _ _=>rfl)⟩
      have:=World.cell?_setCells_in b (a.eval y).cells.toList (ob+off) w hcell (j-off) Bl;rw[show ob+j=ob+off+(j-off) from by omega,this]
      rw[List.getElem?_eq_getElem Bl] at hu;exact hu
     ·obtain⟨v,hv,Ul⟩:=It j p h5;refine⟨v,?_,Ul.step Kf (fun _ _ x=>x) (fun _ _=>rfl)⟩
      rw[World.cell?_setCells_out b _ _ w ⟨b,ob+j,none⟩ (fun _ _=>by show ob+j<ob+off∨ob+off+_<=ob+j;omega)]
      exact hv
    ·rw[Mo (by omega)] at hj
     rw[(Be.setCells b _ _ w).frz];exact CY j hj
   ·intro cells hx c' Mr i hi;injection hx with hx;subst hx;unfold A4 at Mr;rcases List.mem_append.1 Mr with Mr|Mr
    ·rcases List.mem_append.1 Mr with Mr|Mr
     ·exact h.wfB id c h0 c' (List.mem_of_mem_take Mr) i hi
     ·exact Df h y i (hr c' Mr i hi)
    ·exact h.wfB id c h0 c' (List.mem_of_mem_drop Mr) i hi
  ·rename_i c h0;obtain⟨hb,hk⟩:=Ag hk;simp only[Bool.and_eq_true,decide_eq_true_eq] at hb;obtain⟨Kh,Sv⟩:=hb;obtain⟨cs,m,hk,Lc,Vo,hT,hF,hm,hv⟩:=Lp h hk;obtain⟨DF,hk⟩:=Ag hk
   have DF:id ∉ m:=by
    intro hi;have:m.any (Nat.beq id)=true:=List.any_eq_true.2 ⟨id,hi,Nat.beq_refl id⟩;rw[this] at DF;cases DF
   obtain⟨_,Aem,Jl⟩:=L0 Kh
   have YL:Av (A9 w (B1 s.hp β Y) β) (cellsOf (Bb s.tm y)) (a.eval y).cells.toList:=by
    have MM:=Bx h y;cases hp:Bb s.tm y with
    |agg ps=>
     rw[hp] at MM;obtain⟨vs,hay,h2⟩:=MM;rw[hay];exact h2
    |sc v=>
     rw[hp] at MM hF
     have IW:(a.eval y).oneCell'=true:=by
      have:=hv m (fun _ hi=>hi) hm [a.eval y] (by rw[hp];exact⟨MM,trivial⟩)
      exact this.2 _ (by simp)
     rw[Jw IW];exact⟨MM,trivial⟩
    |lst z es n cc=>
     rw[hp] at MM hF
     have IW:(a.eval y).oneCell'=true:=by
      have:=hv m (fun _ hi=>hi) hm [a.eval y] (by rw[hp];exact⟨MM,trivial⟩)
      exact this.2 _ (by simp)
     rw[Jw IW];exact⟨MM,trivial⟩
    |view i es oo n=>
     rw[hp] at MM hF
     have IW:(a.eval y).oneCell'=true:=by
      have:=hv m (fun _ hi=>hi) hm [a.eval y] (by rw[hp];exact⟨MM,trivial⟩)
      exact this.2 _ (by simp)
     rw[Jw IW];exact⟨MM,trivial⟩
    |own es n cc=>
     have hx0:=hF (Bb s.tm y) (by rw[hp];exact List.mem_singleton_self _)
     rw[hp] at hx0;exact hx0.elim
    |ptr i cc=>
     have hx0:=hF (Bb s.tm y) (by rw[hp];exact List.mem_singleton_self _)
     rw[hp] at hx0;exact hx0.elim
    |iptr i cc=>
     have hx0:=hF (Bb s.tm y) (by rw[hp];exact List.mem_singleton_self _)
     rw[hp] at hx0;exact hx0.elim
    |pbox cc=>
     have hx0:=hF (Bb s.tm y) (by rw[hp];exact List.mem_singleton_self _)
     rw[hp] at hx0;exact hx0.elim
    |tup cc=>
     have hx0:=hF (Bb s.tm y) (by rw[hp];exact List.mem_singleton_self _)
     rw[hp] at hx0;exact hx0.elim
    |ub=>
     have hx0:=hF (Bb s.tm y) (by rw[hp];exact List.mem_singleton_self _)
     rw[hp] at hx0;exact hx0.elim
    |top=>
     have hx0:=hF (Bb s.tm y) (by rw[hp];exact List.mem_singleton_self _)
     rw[hp] at hx0;exact hx0.elim
   obtain⟨h2,h1⟩:=hv m (fun _ hi=>hi) hm _ YL
   have R2:=h2.len;have hf:=h.freeze hm;have h0':Ac s.hp m id=some (.ar false c):=by rw[A6,if_neg DF];exact h0
   rcases hf.box id _ h0' with⟨hn,_⟩|⟨b',o',D7,It,CY,_⟩
   ·rw[hβ] at hn;cases hn
   rw[hβ] at D7;simp at D7;obtain⟨rfl,rfl⟩:=D7
   have hcell:∀i,i<(a.eval y).cells.toList.length->(w.cell? ⟨b,ob+off+i,none⟩).isSome=true:=by
    intro i hi;obtain⟨v,hv,_⟩:=It (off+i) _ (List.getElem?_eq_getElem (by omega))
    rw[Cf] at hv;rw[Nat.add_assoc,hv];rfl
   have Bn:=Uh (P:=P) (t:=t) (w:=w) (b:=b) (j:=ob+off) (v:=a.eval y) (by rw[Jl,←Aem,←Lc,R2];simp) hcell (fun i hi=>by
    obtain⟨u,hu⟩:=Option.isSome_iff_exists.1 (hcell i hi);exact CY rfl _ (by omega) (Rv hu)) h1
   refine⟨_,hk,fun next Q hn=>run B4 Bn next Q (hn _ _ β ?_)⟩
   refine hf.write h0' trivial trivial hβ (Be.setCells b _ _ w) ?_ (fun cells hx=>by cases hx) (fun _ hx=>by cases hx) (fun j hj=>hj) (fun j hj=>by
    refine World.cell?_setCells_out b _ _ w ⟨b,j,none⟩ (fun _ _=>?_)
    have hj:¬(ob<=j):=hj;show j<ob+off∨ob+off+_<=j;omega)
   have Kf:Bd (B1 (Ac s.hp m) β Y) w (w.setCells b (ob+off) (a.eval y).cells.toList):=by
    have hw:=Be.setCells b (a.eval y).cells.toList (ob+off) w;have XN:B1 (Ac s.hp m) β Y b:=.inl ⟨id,ob,by rw[h0'];trivial,hβ⟩
    exact⟨by rw[hw.size];exact Nat.le_refl _,fun k _ hk=>hw.other k (fun e=>hk (e ▸ XN)),fun k _=>hw.grow k⟩
   refine .inr ⟨b,ob,hβ,fun j p hj=>?_,fun _ j hj Kk=>?_,(fun x=>by cases x)⟩
   ·rw[Cf];rcases Mq (by omega) hj with⟨h3,h4,h5⟩|⟨h3,h5⟩
    ·obtain⟨u,hu,hcu⟩:=h2.get h5;have Bl:j-off<(a.eval y).cells.toList.length:=by omega
     refine⟨u,?_,h1 u (List.mem_of_getElem? hu),hcu.step Kf (fun _ _ x=>x)⟩
     have:=World.cell?_setCells_in b (a.eval y).cells.toList (ob+off) w hcell (j-off) Bl;rw[show ob+j=ob+off+(j-off) from by omega,this]
     rw[List.getElem?_eq_getElem Bl] at hu;exact hu
    ·obtain⟨v,hv,h6,Ul⟩:=It j p h5;rw[Cf] at hv;refine⟨v,?_,h6,Ul.step Kf (fun _ _ x=>x)⟩
     rw[World.cell?_setCells_out b _ _ w ⟨b,ob+j,none⟩ (fun _ _=>by show ob+j<ob+off∨ob+off+_<=ob+j;omega)]
     exact hv
   ·rw[(Be.setCells b _ _ w).bs] at Kk;rw[(Be.setCells b _ _ w).frz];exact CY rfl j hj Kk
  ·cases hk
 ·cases hk
end
open Go.RowKit
theorem Gf:∀{l l':List Nat},Cu (l++l')=true->Cu l=true∧Cu l'=true∧∀i∈l,i ∉ l'
 |[],l',h=>⟨rfl,h,by simp⟩
 |a::l,l',h=>by
  simp only[List.cons_append,Cu,Bool.and_eq_true,Bool.not_eq_true'] at h;obtain⟨h1,h2⟩:=h;obtain⟨h3,h4,h5⟩:=Gf h2
  have hn:∀i∈l++l',a≠i:=by
   rintro i hi rfl
   have:(l++l').any (Nat.beq a)=true:=List.any_eq_true.2 ⟨a,hi,Nat.beq_refl a⟩;rw[this] at h1;cases h1
  refine⟨?_,h4,fun i hi=>?_⟩
  ·simp only[Cu,Bool.and_eq_true,Bool.not_eq_true',h3,and_true];rw[List.any_eq_false];intro i hi e;exact hn i (by simp[hi]) (Nat.eq_of_beq_eq_true e)
  ·rcases List.mem_cons.1 hi with rfl|hi
   ·exact fun hm=>hn i (by simp[hm]) rfl
   ·exact h5 i hi
def E0 (β:Bt)(q:Nat × Nat):Option (Nat × Nat):=(β q.1).map fun p=>(p.1,p.2+q.2)
theorem IQ (β:Bt)(id:Nat):E0 β (id,0)=β id:=by
 unfold E0;cases β id<;>rfl
section
variable {R:Type} {r:R} {P:Program} {N:Nat} {w0:World} {X0:Fw} {Y:Nat->Prop} {β β':Bt} {s:St} {a:Act} {w w':World} {o:Oper} {A:Nat->Prop}
theorem J1 {fz:List Nat}{b:Nat}(h:B1 (Ac s.hp fz) β Y b):B1 s.hp β Y b:=h.imp L9 id
theorem WI (h:Bs N w0 X0 Y β s a w){mv:Bool}{t:CT}{p:PV}{K:PV->List Nat->List Nat->Option R}(hk:QT mv s.hp t p K=some r):
  ∃c m q,K c m (Option.toList q)=some r∧isA c∧Yq p∧(∀id∈m,∃f cc,s.hp id=some (.ar f cc))∧(∀id,q=some id->∃cc,s.hp id=some (.ar false cc)) ∧
   ∀fz:List Nat,(∀id∈m,id∈fz)->(∀id∈fz,∃f cc,s.hp id=some (.ar f cc))->∀v,A9 w (B1 s.hp β Y) β p v->E7 w (B1 (Ac s.hp fz) β Y) (q.bind β) c v:=by
 have frz:∀{t:CT} {p:PV} {K:PV->List Nat->List Nat->Option R},(Kn (Ha s.hp) t p fun c m=>K c m [])=some r->∃c m q,K c m (Option.toList q)=some r∧isA c∧Yq p∧(∀id∈m,∃f cc,s.hp id=some (.ar f cc))∧(∀id,q=some id->∃cc,s.hp id=some (.ar false cc)) ∧
   ∀fz:List Nat,(∀id∈m,id∈fz)->(∀id∈fz,∃f cc,s.hp id=some (.ar f cc))->∀v,A9 w (B1 s.hp β Y) β p v->E7 w (B1 (Ac s.hp fz) β Y) (q.bind β) c v:=by
  intro t p K hk;obtain⟨c,m,hk,hT,hF,hm,hv⟩:=Wn h hk;exact⟨c,m,none,hk,.inl hT,hF,hm,by simp,fun fz h1 h2 v hc=>Hv hT (hv fz h1 h2 v hc).1⟩
 have tree:∀{t:CT} {p:PV} {K:PV->List Nat->List Nat->Option R},(∀es,t ≠ .sl es)->(Sz t p fun c=>K c [] [])=some r->∃c m q,K c m (Option.toList q)=some r∧isA c∧Yq p∧(∀id∈m,∃f cc,s.hp id=some (.ar f cc))∧(∀id,q=some id->∃cc,s.hp id=some (.ar false cc)) ∧
   ∀fz:List Nat,(∀id∈m,id∈fz)->(∀id∈fz,∃f cc,s.hp id=some (.ar f cc))->∀v,A9 w (B1 s.hp β Y) β p v->E7 w (B1 (Ac s.hp fz) β Y) (q.bind β) c v:=by
  intro t p K H7 hk;obtain⟨c,hk,hT,Xn,hv⟩:=Jc hk;exact⟨c,[],none,hk,.inl hT,M9 Xn,by simp,by simp,fun fz h1 h2 v hc=>Hv hT ((hv w _ β v hc).1.step (Bd.refl _ _) (fun b _ hb=>J1 hb))⟩
 unfold QT at hk;cases t with
 |sl es=>
  dsimp only at hk;cases mv<;>simp only[cond_true,cond_false] at hk
  ·exact frz hk
  ·split at hk
   ·rename_i id es' off n;split at hk
    ·rename_i c h0;cases hb:(Nat.beq es' es&&Nat.beq off 0)<;>rw[hb] at hk<;>simp only[cond_true,cond_false] at hk
     ·exact frz hk
     ·simp only[Bool.and_eq_true] at hb;have he:=Nat.eq_of_beq_eq_true hb.1;have hof:=Nat.eq_of_beq_eq_true hb.2;subst he hof;obtain⟨hl,hk⟩:=Ag hk;refine⟨_,[],some id,hk,.inr ⟨_,_,_,rfl⟩,trivial,by simp,fun i hi=>by cases hi;exact⟨c,h0⟩,fun fz h1 h2 v hc=>?_⟩
      rcases hc with⟨h3,_,rfl,h4⟩|⟨b,ob,x,cap,h3,h4,hx,h5,h6,h7⟩
      ·exact .inl ⟨h3,rfl,by simp,h4⟩
      ·have hx:x=ob:=by rcases hx with e|⟨_,e⟩<;>omega
       subst hx;rcases h.box id _ h0 with⟨h8,_⟩|⟨b',o',h8,h9,h10,_⟩
       ·rw[h3] at h8;cases h8
       ·rw[h3] at h8;cases h8;refine .inr ⟨b,x,cap,h3,h4,h5,h6,h7,fun j p hj=>?_,h10 rfl⟩
        rw[List.getElem?_take] at hj;split at hj
        ·obtain⟨u,hu,h11,ht⟩:=h9 j p hj;exact⟨u,hu,h11,ht.step (Bd.refl _ _) (fun b _ hb=>J1 hb)⟩
        ·cases hj
    ·exact frz hk
   ·obtain⟨z,n,c,hk,hp⟩:=Dp hk;have hpF:Yq p:=by rcases hp with e|⟨e,_⟩<;>(rw[e];trivial)
    cases z<;>simp only[cond_true,cond_false] at hk
    ·refine⟨_,[],none,hk,.inl trivial,hpF,by simp,by simp,fun fz h1 h2 v hc=>?_⟩
     exact Hv trivial ((Q1 hp hc).step (Bd.refl _ _) (fun b _ hb=>J1 hb))
    ·refine⟨_,[],none,hk,.inr ⟨_,_,_,rfl⟩,hpF,by simp,by simp,fun fz h1 h2 v hc=>.inl ⟨rfl,rfl,rfl,none,?_⟩⟩
     have:=Q1 hp hc;cases this;rfl
 |int k=>exact tree (by simp) hk
 |bool=>exact tree (by simp) hk
 |str=>exact tree (by simp) hk
 |any=>exact tree (by simp) hk
theorem O9 (h:Bs N w0 X0 Y β s a w){mv:Bool}:∀{ts:List CT}{ps:List PV}{K:List PV->List Nat->List Nat->Option R},Uw mv s.hp ts ps K=some r ->
  ∃cs m x,∃q:Nat->Option Nat,K cs m x=some r∧cs.length=ts.length∧ps.length=ts.length∧(∀c∈cs,isA c)∧(∀p∈ps,Yq p)∧(∀id∈m,∃f cc,s.hp id=some (.ar f cc))∧(∀id∈x,∃cc,s.hp id=some (.ar false cc)) ∧
   (∀j id,q j=some id->id∈x)∧(Cu x=true->∀j j' id,q j=some id->q j'=some id->j=j') ∧
   ∀fz:List Nat,(∀id∈m,id∈fz)->(∀id∈fz,∃f cc,s.hp id=some (.ar f cc))->∀vs,Av (A9 w (B1 s.hp β Y) β) ps vs->∀(own:Bt) j0,(∀j,own (j0+j)=(q j).bind β)->Dm w (B1 (Ac s.hp fz) β Y) own j0 cs vs
 |[],[],K,hk=>⟨[],[],[],fun _=>none,hk,rfl,rfl,by simp,by simp,by simp,by simp,by simp,by simp,fun fz _ _ vs hv own j0 _=>by
   cases vs with
   |nil=>trivial
   |cons v vs=>exact hv.elim⟩
 |[],_::_,K,hk=>by cases hk
 |_::_,[],K,hk=>by cases hk
 |t::ts,p::ps,K,hk=>by
  unfold Uw at hk;obtain⟨c,m,q,hk,hA,hF,hm,hq,hv⟩:=WI h hk;obtain⟨cs,ms,xs,qs,hk,hl,G9,hAs,hFs,Wm,X4,hqx,hqi,G8⟩:=O9 h hk;refine⟨c::cs,m++ms,q.toList++xs,fun j=>match j with|0=>q|j+1=>qs j,hk,by simp[hl],by simp[G9],?_,?_,?_,?_,?_,?_,?_⟩
  ·intro x hx;rcases List.mem_cons.1 hx with rfl|hx
   ·exact hA
   ·exact hAs x hx
  ·intro x hx;rcases List.mem_cons.1 hx with rfl|hx
   ·exact hF
   ·exact hFs x hx
  ·intro i hi;rcases List.mem_append.1 hi with hi|hi
   ·exact hm i hi
   ·exact Wm i hi
  ·intro i hi;rcases List.mem_append.1 hi with hi|hi
   ·exact hq i (by simpa using hi)
   ·exact X4 i hi
  ·intro j id hj;cases j with
   |zero=>exact List.mem_append.2 (.inl (by simpa using hj))
   |succ j=>exact List.mem_append.2 (.inr (hqx j id hj))
  ·intro hn j j' id hj Kk;obtain⟨_,h2,h3⟩:=Gf hn;cases j with
   |zero=>
    cases j' with
    |zero=>rfl
    |succ j'=>exact absurd (hqx j' id Kk) (h3 id (by simpa using hj))
   |succ j=>
    cases j' with
    |zero=>exact absurd (hqx j id hj) (h3 id (by simpa using Kk))
    |succ j'=>rw[hqi h2 j j' id hj Kk]
  ·intro fz h1 h2 vs h3 own j0 Fv;cases vs with
   |nil=>exact h3.elim
   |cons v vs=>
    refine⟨?_,G8 fz (fun i hi=>h1 i (by simp[hi])) h2 vs h3.2 own (j0+1) fun j=>?_⟩
    ·have:=Fv 0;rw[Nat.add_zero] at this;rw[this];exact hv fz (fun i hi=>h1 i (by simp[hi])) h2 v h3.1
    ·have:=Fv (j+1);rw[show j0+1+j=j0+(j+1) by omega]
     exact this
def LOk (hp:Nat->Option A2)(q:Option (Nat × Nat)) (p:PV)(x:E2):Prop:=
 match x with
 |.var id off cts ws=>p=.pbox ws∧q=some (id,off)∧cts.length=ws.length∧∃c,hp id=some (.st c)∧off+ws.length<=c.length
 |.row id=>(∃ps,p=.tup ps)∧q=some (id,0)∧∃c,hp id=some (.ar false c)
 |.none=>(∃ps,p=.tup ps)∧q=none
theorem LS {hp:Nat->Option A2}{q:Option (Nat × Nat)} {p:PV}{x:E2}(h:LOk hp q p x):Ss p=true:=by
 cases x with
 |var id off cts ws=>rw[h.1];rfl
 |row id=>obtain⟨⟨_,e⟩,_⟩:=h;rw[e];rfl
 |none=>obtain⟨⟨_,e⟩,_⟩:=h;rw[e];rfl
def Ll (hp:Nat->Option A2)(src:Nat->Nat->Option (Nat × Nat)):Nat->List PV->List E2->Prop
 |_,[],l=>l=[]
 |i,p::ps,l=>(Ss p=false∧src i 0=none∧Ll hp src (i+1) ps l)∨∃x l',l=x::l'∧LOk hp (src i 0) p x∧Ll hp src (i+1) ps l'
theorem JT (h:Bs N w0 X0 Y β s a w){C:Fd}{f:FuncId}{i:Nat}{t:TypeId}{x:Operand}{K:PV->List Nat->List Nat->List E2->Option R}(hk:To C P f s.hp i t (Bb s.tm x) K=some r):
  ∃v m y l,∃src:Nat->Option (Nat × Nat),K v m y l=some r∧(∀id∈m,∃f cc,s.hp id=some (.ar f cc))∧(∀id∈y,∃cc,s.hp id=some (.ar false cc)) ∧
   (∀j id off,src (j+1)=some (id,off)->off=0∧id∈y)∧(Cu y=true->∀j j' id off off',src (j+1)=some (id,off)->src (j'+1)=some (id,off')->j=j') ∧
   ((l=[]∧Ss v=false∧src 0=none)∨∃x',l=[x']∧LOk s.hp (src 0) v x') ∧
   ∀fz:List Nat,(∀id∈m,id∈fz)->(∀id∈fz,∃f cc,s.hp id=some (.ar f cc))->∀bt:Bt,(∀j,bt j=(src j).bind (E0 β))->GR w (B1 (Ac s.hp fz) β Y) bt v (a.eval x):=by
 have hx:=Bx h x
 have Mf:∀(q0:Option (Nat × Nat)) (q:Nat->Option Nat),∃src:Nat->Option (Nat × Nat),src 0=q0∧(∀j,src (j+1)=(q j).map fun id=>(id,0)):=
  fun q0 q=>⟨fun j=>match j with|0=>q0|j+1=>(q j).map fun id=>(id,0),rfl,fun _=>rfl⟩
 have DX:∀{src:Nat->Option (Nat × Nat)} {q:Nat->Option Nat} {y:List Nat},(∀j,src (j+1)=(q j).map fun id=>(id,0))->(∀j id,q j=some id->id∈y)->∀j id off,src (j+1)=some (id,off)->off=0∧id∈y:=by
  intro src q y h1 h2 j id off hj;rw[h1] at hj;cases hq:q j with
  |none=>rw[hq] at hj;cases hj
  |some k=>rw[hq] at hj;cases hj;exact⟨rfl,h2 j _ hq⟩
 have EO:∀{src:Nat->Option (Nat × Nat)} {q:Nat->Option Nat} {y:List Nat},(∀j,src (j+1)=(q j).map fun id=>(id,0))->(Cu y=true->∀j j' id,q j=some id->q j'=some id->j=j') ->
   Cu y=true->∀j j' id off off',src (j+1)=some (id,off)->src (j'+1)=some (id,off')->j=j':=by
  intro src q y h1 h2 hn j j' id off off' hj Kk;rw[h1] at hj Kk;cases hq:q j with
  |none=>rw[hq] at hj;cases hj
  |some k=>
   cases D5:q j' with
   |none=>rw[D5] at Kk;cases Kk
   |some k'=>
    rw[hq] at hj;rw[D5] at Kk;cases hj;cases Kk;exact h2 hn j j' _ hq D5
 have Fv:∀{src:Nat->Option (Nat × Nat)} {q:Nat->Option Nat} {bt:Bt},(∀j,src (j+1)=(q j).map fun id=>(id,0))->(∀j,bt j=(src j).bind (E0 β))->∀j,bt (1+j)=(q j).bind β:=by
  intro src q bt h1 h2 j;rw[Nat.add_comm,h2,h1];cases q j with
  |none=>rfl
  |some id=>exact IQ β id
 unfold To at hk;split at hk
 ·rename_i e he;split at hk
  ·rename_i id off ep;rw[ep] at hx;split at hk
   ·rename_i c h0;obtain⟨hb,hk⟩:=Ag hk;simp only[Bool.and_eq_true,decide_eq_true_eq] at hb;obtain⟨cs,m,y,q,hk,hl,G9,hA,hF,hm,hy,Zm,Vz,hv⟩:=O9 h hk;obtain⟨src,HU,hs⟩:=Mf (some (id,off)) q;obtain⟨b,ob,hβ,B4⟩:=hx;refine⟨_,m,y,_,src,hk,hm,hy,DX hs Zm,EO hs Vz,.inr ⟨_,rfl,rfl,HU,hl.symm,c,h0,by omega⟩,fun fz h1 h2 bt Qg=>?_⟩
    obtain⟨b',o',D7,It,CY⟩:=h.box id _ h0;rw[hβ] at D7;cases D7;have Dc:((c.drop off).take (Fz P e).length).length=(Fz P e).length:=by simp;omega
    have VD:∀j p,((c.drop off).take (Fz P e).length)[j]?=some p->c[off+j]?=some p∧j<(Fz P e).length:=by
     intro j p hj;rw[List.getElem?_take] at hj;split at hj
     ·rw[List.getElem?_drop] at hj;exact⟨hj,by assumption⟩
     ·cases hj
    refine⟨b,ob+off,by rw[Qg,HU];simp[E0,hβ],B4,hA,((c.drop off).take (Fz P e).length).mapIdx (fun j _=>(w.cell? ⟨b,ob+off+j,none⟩).getD undef),hv fz h1 h2 _ ?_ bt 1 (Fv hs Qg),?_,fun k hk=>?_⟩
    ·refine Av.of_at (by simp) fun j p v hp hv=>?_
     obtain⟨hc,_⟩:=VD j p hp;obtain⟨u,hu,DG⟩:=It _ _ hc;rw[List.getElem?_mapIdx,hp,Option.map_some,Nat.add_assoc,hu] at hv;simp at hv;subst hv;exact DG
    ·intro k v QQ;rw[List.getElem?_mapIdx] at QQ;cases hp:((c.drop off).take (Fz P e).length)[k]? with
     |none=>rw[hp] at QQ;cases QQ
     |some p=>
      obtain⟨hc,_⟩:=VD k p hp;obtain⟨u,hu,DG⟩:=It _ _ hc;rw[hp,Option.map_some,Nat.add_assoc,hu] at QQ;simp at QQ;subst QQ;rw[Nat.add_assoc];exact hu
    ·rw[Nat.add_assoc];exact CY _ (by omega)
   ·cases hk
  ·cases hk
 ·cases hln:C.lnd f i<;>rw[hln] at hk<;>simp only[cond_true,cond_false] at hk
  ·cases Ef:Ba P t<;>rw[Ef] at hk<;>simp only[cond_true,cond_false] at hk
   ·obtain⟨cs,m,y,q,hk,hl,G9,hA,hF,hm,hy,Zm,Vz,hv⟩:=O9 h hk;obtain⟨c,t',rfl,hk⟩:=Aq hk;obtain⟨rfl,hk⟩:=Cb hk;obtain⟨src,HU,hs⟩:=Mf none q;have hAc:=hA c (by simp)
    refine⟨c,m,y,_,src,hk,hm,hy,DX hs Zm,EO hs Vz,.inl ⟨rfl,Acp hAc,HU⟩,fun fz h1 h2 bt Qg=>?_⟩
    have hFx:=hF _ (List.mem_singleton_self _)
    have hxc:A9 w (B1 s.hp β Y) β (Bb s.tm x) (a.eval x):=by
     cases hp:Bb s.tm x<;>rw[hp] at hx hFx<;>first|exact hx|exact hFx.elim
    have hoc:=(hv fz h1 h2 [a.eval x] ⟨hxc,trivial⟩ bt 1 (Fv hs Qg)).1;rcases hAc with hT|⟨es,n,cc,rfl⟩
    ·cases c<;>first|exact⟨.inl trivial,hoc⟩|exact hT.elim
    ·exact⟨.inr ⟨_,_,_,rfl⟩,hoc⟩
   ·obtain⟨ps,ep,hk⟩:=Ff hk;rw[ep] at hx;obtain⟨vs,B4,h3⟩:=hx;obtain⟨cs,m,y,q,hk,hl,G9,hA,hF,hm,hy,Zm,Vz,hv⟩:=O9 h hk;obtain⟨src,HU,hs⟩:=Mf none q;refine⟨_,m,y,_,src,hk,hm,hy,DX hs Zm,EO hs Vz,.inl ⟨rfl,rfl,HU⟩,fun fz h1 h2 bt Qg=>?_⟩
    exact⟨vs,B4,hA,hv fz h1 h2 vs h3 bt 1 (Fv hs Qg)⟩
  ·obtain⟨e,he,hk⟩:=Bp hk;unfold UL at hk;split at hk
   ·rename_i id es' off n ep;rw[ep] at hx;split at hk
    ·rename_i c h0;obtain⟨hb,Dk⟩:=Ag hk;simp only[Bool.and_eq_true] at hb;have he:=Nat.eq_of_beq_eq_true hb.1;have hof:=Nat.eq_of_beq_eq_true hb.2;subst hof;obtain⟨src,HU,hs⟩:=Mf (some (id,0)) (fun _=>none)
     refine⟨_,[],[],_,src,Dk,by simp,by simp,DX hs (by simp),EO hs (by simp),.inr ⟨_,rfl,⟨_,rfl⟩,HU,c,h0⟩,fun fz h1 h2 bt Qg=>⟨_,_,_,rfl,?_⟩⟩
     have DN:bt 0=β id:=by rw[Qg,HU];exact IQ β id
     rw[DN];rcases hx with⟨h3,_,h4,h5⟩|⟨b,ob,y,cap,h3,h4,hy,h5,h6,h7⟩
     ·refine .inl ⟨h3,h4,?_,h5⟩;rcases h.box id _ h0 with⟨_,h8⟩|⟨_,_,h8,_⟩
      ·exact h8
      ·rw[h3] at h8;cases h8
     ·have hy:y=ob:=by rcases hy with e|⟨_,e⟩<;>omega
      subst hy;rcases h.box id _ h0 with⟨h8,_⟩|⟨b',o',h8,h9,h10,_⟩
      ·rw[h3] at h8;cases h8
      ·rw[h3] at h8;cases h8;exact .inr ⟨b,y,cap,h3,h4,h5,by rw[←he];exact h6,h7,h9.weak (fun b _ hb=>J1 hb),h10 rfl⟩
    ·cases hk
   ·obtain⟨z,n,c,hk,hp⟩:=Dp hk;obtain⟨hz,hk⟩:=Ag hk;subst hz;obtain⟨src,HU,hs⟩:=Mf none (fun _=>none)
    have hu:a.eval x=.slice none 0 0:=by
     have hF:A9 w (B1 s.hp β Y) β (Bb s.tm x) (a.eval x):=by rcases hp with e|⟨e,_⟩<;>rw[e] at hx ⊢ <;> exact hx
     have:=Q1 hp hF;generalize a.eval x=u at this;cases this;rfl
    refine⟨_,[],[],_,src,hk,by simp,by simp,DX hs (by simp),EO hs (by simp),.inr ⟨_,rfl,⟨_,rfl⟩,HU⟩,fun fz h1 h2 bt Qg=>⟨_,_,_,rfl,.inl ⟨by rw[Qg,HU];rfl,rfl,rfl,none,hu⟩⟩⟩
structure As4 (i0 n:Nat) (src:Nat->Nat->Option (Nat × Nat)) (ids x:List Nat):Prop where
 dom:∀i j q,src i j=some q->i0<=i∧i<i0+n
 lent:∀i id off,src i 0=some (id,off)->id∈ids
 mvd:∀i j id off,src i (j+1)=some (id,off)->off=0∧id∈x
 inj0:Cu ids=true->∀i i' id off off',src i 0=some (id,off)->src i' 0=some (id,off')->i=i'
 inj1:Cu x=true->∀i i' j j' id off off',src i (j+1)=some (id,off)->src i' (j'+1)=some (id,off')->i=i'∧j=j'
theorem Q6 {hp:Nat->Option A2}{src src':Nat->Nat->Option (Nat × Nat)}:∀{ps:List PV}{i:Nat}{l:List E2},(∀k,i<=k->src' k=src k)->Ll hp src i ps l->Ll hp src' i ps l
 |[],_,_,_,h=>h
 |p::ps,i,l,hs,h=>by
  rcases h with⟨h1,h2,h3⟩|⟨x,l',rfl,h2,h3⟩
  ·exact .inl ⟨h1,by rw[hs i (Nat.le_refl _)];exact h2,Q6 (fun k hk=>hs k (by omega)) h3⟩
  ·exact .inr ⟨x,l',rfl,by rw[hs i (Nat.le_refl _)];exact h2,Q6 (fun k hk=>hs k (by omega)) h3⟩
theorem Uk {bt bt':Va}:∀{ps:List PV}{us:List Value}{i:Nat},(∀k,i<=k->∀j,bt' k j=bt k j)->I5 w A bt i ps us->I5 w A bt' i ps us
 |[],[],_,_,_=>trivial
 |[],_::_,_,_,h=>h.elim
 |_::_,[],_,_,h=>h.elim
 |_::_,_::_,i,hb,h=>⟨by rw[show bt' i=bt i from funext (hb i (Nat.le_refl _))];exact h.1,Uk (fun k hk=>hb k (by omega)) h.2⟩
theorem Z6 (h:Bs N w0 X0 Y β s a w){C:Fd}{f:FuncId}:∀{ts:List TypeId}{xs:List Operand}{i:Nat}{K:List PV->List Nat->List Nat->List E2->Option R},Zv C P f s.hp i ts (xs.map (Bb s.tm)) K=some r ->
  ∃vs m y l,∃src:Nat->Nat->Option (Nat × Nat),K vs m y l=some r∧(∀id∈m,∃f cc,s.hp id=some (.ar f cc))∧(∀id∈y,∃cc,s.hp id=some (.ar false cc)) ∧
   As4 i xs.length src (l.flatMap E2.ids) y∧Ll s.hp src i vs l ∧
   ∀fz:List Nat,(∀id∈m,id∈fz)->(∀id∈fz,∃f cc,s.hp id=some (.ar f cc))->∀bt:Va,(∀i j,bt i j=(src i j).bind (E0 β))->I5 w (B1 (Ac s.hp fz) β Y) bt i vs (xs.map a.eval)
 |[],[],i,K,hk=>⟨[],[],[],[],fun _ _=>none,hk,by simp,by simp,⟨by simp,by simp,by simp,by simp,by simp⟩,rfl,fun _ _ _ _ _=>trivial⟩
 |[],_::_,i,K,hk=>by cases hk
 |_::_,[],i,K,hk=>by cases hk
 |t::ts,x::xs,i,K,hk=>by
  simp only[List.map_cons] at hk;unfold Zv at hk;obtain⟨v,m,y,l,src,hk,hm,hy,XU,hs2,hl,hv⟩:=JT h hk;obtain⟨vs,ms,ys,ls,srcs,hk,Wm,hys,hS,hL,G8⟩:=Z6 h hk;have Mf:∃sr:Nat->Nat->Option (Nat × Nat),sr i=src∧∀k,k≠i->sr k=srcs k:=⟨fun k=>if k=i then src else srcs k,by simp,fun k hk=>by simp[hk]⟩
  obtain⟨sr,XJ,LX⟩:=Mf
  have Yg:∀id off,src 0=some (id,off)->id∈l.flatMap E2.ids:=by
   intro id off e;rcases hl with⟨_,_,h3⟩|⟨x',rfl,h3⟩
   ·rw[h3] at e;cases e
   ·cases x' with
    |var id' off' cts ws=>rw[h3.2.1] at e;cases e;simp[E2.ids]
    |row id'=>rw[h3.2.1] at e;cases e;simp[E2.ids]
    |none=>rw[h3.2] at e;cases e
  refine⟨v::vs,m++ms,y++ys,l++ls,sr,hk,?_,?_,⟨?_,?_,?_,?_,?_⟩,?_,fun fz h1 h2 bt Qg=>⟨?_,?_⟩⟩
  ·intro i hi;rcases List.mem_append.1 hi with hi|hi
   ·exact hm i hi
   ·exact Wm i hi
  ·intro i hi;rcases List.mem_append.1 hi with hi|hi
   ·exact hy i hi
   ·exact hys i hi
  ·intro k j q hq;simp only[List.length_cons];by_cases e:k=i
   ·subst e;omega
   ·rw[LX k e] at hq;have:=hS.dom k j q hq;omega
  ·intro k id off hq;rw[List.flatMap_append];by_cases e:k=i
   ·subst e;rw[XJ] at hq;exact List.mem_append.2 (.inl (Yg id off hq))
   ·rw[LX k e] at hq;exact List.mem_append.2 (.inr (hS.lent k id off hq))
  ·intro k j id off hq;by_cases e:k=i
   ·subst e;rw[XJ] at hq;exact⟨(XU j id off hq).1,List.mem_append.2 (.inl (XU j id off hq).2)⟩
   ·rw[LX k e] at hq;exact⟨(hS.mvd k j id off hq).1,List.mem_append.2 (.inr (hS.mvd k j id off hq).2)⟩
  ·intro hn k k' id off off' hq D5;rw[List.flatMap_append] at hn;obtain⟨_,h4,h5⟩:=Gf hn;by_cases e:k=i
   ·by_cases e':k'=i
    ·omega
    ·rw[LX k' e'] at D5;subst e;rw[XJ] at hq;exact absurd (hS.lent k' id off' D5) (h5 id (Yg id off hq))
   ·rw[LX k e] at hq;by_cases e':k'=i
    ·subst e';rw[XJ] at D5;exact absurd (hS.lent k id off hq) (h5 id (Yg id off' D5))
    ·rw[LX k' e'] at D5;exact hS.inj0 h4 k k' id off off' hq D5
  ·intro hn k k' j j' id off off' hq D5;obtain⟨h3,h4,h5⟩:=Gf hn;by_cases e:k=i
   ·by_cases e':k'=i
    ·subst e;subst e';rw[XJ] at hq D5;exact⟨rfl,hs2 h3 j j' id off off' hq D5⟩
    ·rw[LX k' e'] at D5;subst e;rw[XJ] at hq;exact absurd (hS.mvd k' j' id off' D5).2 (h5 id (XU j id off hq).2)
   ·rw[LX k e] at hq;by_cases e':k'=i
    ·subst e';rw[XJ] at D5;exact absurd (hS.mvd k j id off hq).2 (h5 id (XU j' id off' D5).2)
    ·rw[LX k' e'] at D5;exact hS.inj1 h4 k k' j j' id off off' hq D5
  ·have P4:Ll s.hp sr (i+1) vs ls:=Q6 (fun k hk=>LX k (by omega)) hL
   rcases hl with⟨rfl,hnp,h3⟩|⟨x',rfl,h3⟩
   ·exact .inl ⟨hnp,by rw[XJ];exact h3,P4⟩
   ·exact .inr ⟨x',ls,rfl,by rw[XJ];exact h3,P4⟩
  ·exact hv fz (fun i hi=>h1 i (by simp[hi])) h2 (bt i) (fun j=>by rw[Qg,XJ])
  ·refine G8 fz (fun i hi=>h1 i (by simp[hi])) h2 (fun k j=>(srcs k j).bind (E0 β)) (fun _ _=>rfl) |> Uk fun k hk j=>?_
   rw[Qg,LX k (by omega)]
end
open Go.RowKit
section
variable {R:Type} {r:R} {P:Program} {N:Nat} {w0:World} {X0:Fw} {Y:Nat->Prop} {β β':Bt} {s:St} {a:Act} {w w':World} {o:Oper} {A:Nat->Prop}
theorem UM {p:PV}{u:Value}(h:Ap w A p u):A9 w A β p u:=by
 have h0:=h;cases h<;>exact h0
theorem XI {t:Nat}{ct:CT}{was p:PV}{K:Nat->PV->List (Nat × A2)->Option R} (hk:OH N t ct was p K=some r):
  (∃c,K t c []=some r∧Py c∧∀w A q u,E7 w A q p u->Ap w A c u)∨∃es n cc,p=.own es n cc∧K (t+1) (.view (HP N t) es 0 n) [(HP N t,.ar false cc)]=some r:=by
 have tree:∀t',(Sz t' p fun c=>K t c [])=some r->∃c,K t c []=some r∧Py c∧∀w A q u,E7 w A q p u->Ap w A c u:=by
  intro t' hk;obtain⟨c,hk,hT,Xn,hv⟩:=Jc hk;refine⟨c,hk,hT,fun w A q u h=>(hv w A (fun _=>none) u ?_).1⟩
  cases p<;>first|exact h|exact Xn.elim
 unfold OH at hk;cases ct with
 |sl es=>
  dsimp only at hk;split at hk
  ·unfold Ov at hk;split at hk
   ·rename_i es' n c;cases hb:Nat.beq es' es<;>rw[hb] at hk
    ·cases hk
    ·have:=Nat.eq_of_beq_eq_true hb;subst this;exact .inr ⟨_,_,_,rfl,hk⟩
   ·cases hk
  ·have h2:(Sz (.sl es) p fun c=>(match c with | .lst _ es n c=>K t (.lst false es n c) []|_=>none))=some r:=hk
   obtain⟨c,hk,hT,Xn,hv⟩:=Jc h2;split at hk
   ·refine .inl ⟨_,hk,hT,fun w A q u h=>Ap.unz (hv w A (fun _=>none) u ?_).1⟩
    cases p<;>first|exact h|exact Xn.elim
   ·cases hk
 |int k=>exact .inl (tree _ hk)
 |bool=>exact .inl (tree _ hk)
 |str=>exact .inl (tree _ hk)
 |any=>exact .inl (tree _ hk)
theorem S9:∀{cts:List CT}{ws ps:List PV}{t:Nat}{K:Nat->List PV->List (Nat × A2)->Option R},Z0 N t cts ws ps K=some r ->
  ∃t' cs bs,∃qs:List (Nat × Nat),K t' cs bs=some r∧cs.length=ps.length∧ps.length=ws.length∧bs.map (·.1)=qs.map (·.1)∧(∀q∈qs,(∃k,q.1=HP N k)∧q.2<ps.length)∧(∀q∈qs,∀q'∈qs,q.2=q'.2->q.1=q'.1) ∧
   (∀i bx,(i,bx)∈bs->∃c,bx=.ar false c)∧(∀c∈cs,∀i∈Ak c,∃bx,(i,bx)∈bs) ∧
   ∀(w:World) (A:Nat->Prop) (own β':Bt) (j0:Nat) (us:List Value),(∀q∈qs,β' q.1=own (j0+q.2))->Dm w A own j0 ps us->Av (A9 w A β') cs us∧∀i bx,(i,bx)∈bs->M6 w A β' i bx
 |[],[],ps,t,K,hk=>by
  obtain⟨rfl,hk⟩:=Cb hk;refine⟨t,[],[],[],hk,rfl,rfl,rfl,by simp,by simp,by simp,by simp,fun w A own β' j0 us _ h=>⟨?_,by simp⟩⟩
  cases us with
  |nil=>trivial
  |cons u us=>exact h.elim
 |[],_::_,_,_,_,hk=>by cases hk
 |_::_,[],_,_,_,hk=>by cases hk
 |ct::cts,x::ws,ps,t,K,hk=>by
  unfold Z0 at hk;obtain⟨p,ps',X6,Cv⟩:=Aq hk;subst X6;rcases XI Cv with⟨c,Dk,hT,hv⟩|⟨es,n,cc,rfl,Dk⟩
  ·obtain⟨t',cs,bs,qs,Mk,hl,G9,hb,Zm,Vz,D7,It,G8⟩:=S9 Dk;refine⟨t',c::cs,bs,qs.map (fun q=>(q.1,q.2+1)),Mk,by simp[hl],by simp[G9],by rw[hb];simp,?_,?_,D7,?_,fun w A own β' j0 us hβ ho=>?_⟩
   ·intro q hq;obtain⟨q0,Qv,rfl⟩:=List.mem_map.1 hq;exact⟨(Zm q0 Qv).1,by have:=(Zm q0 Qv).2;simp only[List.length_cons];omega⟩
   ·intro q hq q' D5 e;obtain⟨q0,Qv,rfl⟩:=List.mem_map.1 hq;obtain⟨q1,G3,rfl⟩:=List.mem_map.1 D5;exact Vz q0 Qv q1 G3 (by simp only at e;omega)
   ·intro y hy i hi;rcases List.mem_cons.1 hy with rfl|hy
    ·rw[Fl hT] at hi;cases hi
    ·exact It y hy i hi
   ·cases us with
    |nil=>exact ho.elim
    |cons u us=>
     obtain⟨h1,h2⟩:=G8 w A own β' (j0+1) us (fun q hq=>by rw[hβ _ (List.mem_map_of_mem hq)];congr 1;simp only;omega) ho.2
     exact⟨⟨UM (hv w A _ u ho.1),h1⟩,h2⟩
  ·obtain⟨t',cs,bs,qs,Mk,hl,G9,hb,Zm,Vz,D7,It,G8⟩:=S9 Dk;refine⟨t',_::cs,(HP N t,.ar false cc)::bs,(HP N t,0)::qs.map (fun q=>(q.1,q.2+1)),Mk,by simp[hl],by simp[G9],by simp only[List.map_cons,hb];simp,?_,?_,?_,?_,fun w A own β' j0 us hβ ho=>?_⟩
   ·intro q hq;rcases List.mem_cons.1 hq with rfl|hq
    ·exact⟨⟨t,rfl⟩,by simp⟩
    ·obtain⟨q0,Qv,rfl⟩:=List.mem_map.1 hq;exact⟨(Zm q0 Qv).1,by have:=(Zm q0 Qv).2;simp only[List.length_cons];omega⟩
   ·intro q hq q' D5 e;rcases List.mem_cons.1 hq with rfl|hq
    ·rcases List.mem_cons.1 D5 with rfl|D5
     ·rfl
     ·obtain⟨q0,Qv,rfl⟩:=List.mem_map.1 D5;simp only at e;omega
    ·obtain⟨q0,Qv,rfl⟩:=List.mem_map.1 hq;rcases List.mem_cons.1 D5 with rfl|D5
     ·simp only at e;omega
     ·obtain⟨q1,G3,rfl⟩:=List.mem_map.1 D5;exact Vz q0 Qv q1 G3 (by simp only at e;omega)
   ·intro i bx hm;rcases List.mem_cons.1 hm with e|hm
    ·cases e;exact⟨cc,rfl⟩
    ·exact D7 i bx hm
   ·intro y hy i hi;rcases List.mem_cons.1 hy with rfl|hy
    ·simp only[Ak,List.mem_singleton] at hi;subst hi;exact⟨_,List.mem_cons_self⟩
    ·obtain⟨bx,I1⟩:=It y hy i hi;exact⟨bx,List.mem_cons_of_mem _ I1⟩
   ·cases us with
    |nil=>exact ho.elim
    |cons u us=>
     obtain⟨h1,h2⟩:=G8 w A own β' (j0+1) us (fun q hq=>by rw[hβ _ (List.mem_cons_of_mem _ (List.mem_map_of_mem hq))];congr 1;simp only;omega) ho.2
     have h0:=hβ (HP N t,0) List.mem_cons_self;simp only[Nat.add_zero] at h0;refine⟨⟨?_,h1⟩,fun i bx hm=>?_⟩
     ·rcases ho.1 with⟨h3,rfl,_,h5⟩|⟨b,ob,cap,h3,h4,h5,h6,h7,_⟩
      ·exact .inl ⟨h0.trans h3,rfl,rfl,h5⟩
      ·exact .inr ⟨b,ob,ob,cap,h0.trans h3,h4,.inl rfl,h5,h6,h7⟩
     ·rcases List.mem_cons.1 hm with e|hm
      ·cases e;exact Rn ho.1 h0
      ·exact h2 i bx hm
def IC (hp Br:Nat->Option A2)(bs:List (Nat × A2)) (x:E2):Prop:=
 match x with
 |.var id off _ ws=>∃c cs,hp id=some (.st c)∧Br id=some (.st (A4 c cs off))∧cs.length=ws.length∧off+cs.length<=c.length∧∀p∈cs,∀i∈Ak p,∃bx,(i,bx)∈bs
 |.row id=>∃c cs,hp id=some (.ar false c)∧Br id=some (.ar false cs)
 |.none=>True
def VY (β β':Bt)(w':World)(A:Nat->Prop)(hp Br:Nat->Option A2)(x:E2):Prop:=
 match x with
 |.var id off _ ws=>∃c cs,hp id=some (.st c)∧Br id=some (.st (A4 c cs off))∧cs.length=ws.length∧off+cs.length<=c.length ∧
   ∀b o,β id=some (b,o)->(∀(j:Nat) p,cs[j]?=some p->∃v,w'.cell? ⟨b,o+off+j,none⟩=some v∧A9 w' A β' p v)∧∀j,j<cs.length->w'.frozen? ⟨b,o+off+j,none⟩=false
 |.row id=>∃cs,Br id=some (.ar false cs)∧((β id=none∧cs=[])∨∃b o,β id=some (b,o)∧DH w' A ⟨b,o,none⟩ cs∧∀j,o<=j->j<bsz w' b->w'.frozen? ⟨b,j,none⟩=false)
 |.none=>True
theorem Si {hp Ch Br:Nat->Option A2}{bs bs1:List (Nat × A2)} {x:E2}(h1:∀i∈x.ids,Ch i=hp i)(hb:∀q∈bs,q∈bs1)(h:IC Ch Br bs x):IC hp Br bs1 x:=by
 cases x with
 |var id off cts ws=>
  obtain⟨c,cs,h2,h3,h4,h5,h6⟩:=h;refine⟨c,cs,by rw[←h1 id (by simp[E2.ids])];exact h2,h3,h4,h5,fun p hp i hi=>?_⟩
  obtain⟨bx,I1⟩:=h6 p hp i hi;exact⟨bx,hb _ I1⟩
 |row id=>
  obtain⟨c,cs,h2,h3⟩:=h;exact⟨c,cs,by rw[←h1 id (by simp[E2.ids])];exact h2,h3⟩
 |none=>trivial
theorem Ui {hp Ch Br:Nat->Option A2}{x:E2}(h1:∀i∈x.ids,Ch i=hp i)(h:VY β β' w' A Ch Br x):VY β β' w' A hp Br x:=by
 cases x with
 |var id off cts ws=>
  obtain⟨c,cs,h2,h3⟩:=h;exact⟨c,cs,by rw[←h1 id (by simp[E2.ids])];exact h2,h3⟩
 |row id=>exact h
 |none=>trivial
theorem OA {hp Ch:Nat->Option A2}{q:Option (Nat × Nat)} {p:PV}{x:E2}(h1:∀i∈x.ids,Ch i=hp i)(h:LOk hp q p x):LOk Ch q p x:=by
 cases x with
 |var id off cts ws'=>
  obtain⟨h2,h3,h5,c,h6,h7⟩:=h;exact⟨h2,h3,h5,c,by rw[h1 id (by simp[E2.ids])];exact h6,h7⟩
 |row id=>
  obtain⟨h2,h3,c,h4⟩:=h;exact⟨h2,h3,c,by rw[h1 id (by simp[E2.ids])];exact h4⟩
 |none=>exact h
theorem R4 {hp Ch:Nat->Option A2}{src:Nat->Nat->Option (Nat × Nat)}:∀{ps:List PV}{i:Nat}{l:List E2},(∀i∈l.flatMap E2.ids,Ch i=hp i)->Ll hp src i ps l->Ll Ch src i ps l
 |[],_,_,_,h=>h
 |p::ps,i,l,hs,h=>by
  rcases h with⟨h1,h2,h3⟩|⟨x,l',rfl,h2,h3⟩
  ·exact .inl ⟨h1,h2,R4 hs h3⟩
  ·exact .inr ⟨x,l',rfl,OA (fun k hk=>hs k (by simp only[List.flatMap_cons,List.mem_append];exact .inl hk)) h2,R4 (fun k hk=>hs k (by simp only[List.flatMap_cons,List.mem_append];exact .inr hk)) h3⟩
theorem KC {own:Bt}{bt:Va}{j i:Nat}{p:PV}{zs:List PV}{r:List (List PV)} (hp:Ss p=false)(h:Gy w A own bt j i (p::zs) r):Gy w A own bt j (i+1) zs r:=by
 cases p<;>first|exact h|cases hp
theorem N4 {src:Nat->Nat->Option (Nat × Nat)} {β:Bt}:∀{zs:List PV}{l:List E2}{ro:List (List PV)} {i j t:Nat}{hp:Nat->Option A2}{K:(Nat->Option A2)->List (Nat × A2)->Option R},
  Q4 N t l ro hp K=some r->Ll hp src i zs l->Cu (l.flatMap E2.ids)=true ->
  ∃Br bs,∃qs:List (Nat × Nat),K Br bs=some r∧bs.map (·.1)=qs.map (·.1)∧(∀q∈qs,(∃k,q.1=HP N k)∧j<=q.2)∧(∀q∈qs,∀q'∈qs,q.2=q'.2->q.1=q'.1)∧(∀i bx,(i,bx)∈bs->∃c,bx=.ar false c) ∧
   (∀i,i ∉ l.flatMap E2.ids->Br i=hp i)∧(∀x∈l,IC hp Br bs x) ∧
   ∀(w':World) (A:Nat->Prop) (own β':Bt) (bt:Va),(∀q∈qs,β' q.1=own q.2)->(∀i,bt i 0=(src i 0).bind (E0 β))->Gy w' A own bt j i zs ro ->
    (∀i bx,(i,bx)∈bs->M6 w' A β' i bx)∧∀x∈l,VY β β' w' A hp Br x
 |[],l,ro,i,j,t,hp,K,hk,hL,hn=>by
  have hL:l=[]:=hL;subst hL;unfold Q4 at hk;obtain⟨rfl,hk⟩:=Cb hk;exact⟨hp,[],[],hk,rfl,by simp,by simp,by simp,fun _ _=>rfl,by simp,fun w' A own β' bt _ _ _=>⟨by simp,by simp⟩⟩
 |p::zs,l0,ro,i,j,t,hp,K,hk,hL0,hn=>by
  rcases hL0 with⟨Vo,_,hL⟩|⟨x,l,rfl,Kh,hL⟩
  rotate_left
  ··simp only[List.flatMap_cons] at hn;obtain⟨FH,XV,hn3⟩:=Gf hn;cases x with
    |var id off cts ws'=>
     obtain⟨rfl,Mf,Lc,c,hc,Sv⟩:=Kh;unfold Q4 at hk;obtain⟨cs,ro',hro,Cv⟩:=Aq hk;subst hro;obtain⟨t',cs',bs,qs,Dk,Xp,DD,hb,Zm,Vz,D7,It,hv⟩:=S9 Cv;rw[hc] at Dk;simp only at Dk;change Q4 N t' l ro' (Bi hp id (some (.st (A4 c cs' off)))) (fun Br bs'=>K Br (bs++bs'))=some r at Dk
     have LD:id ∉ l.flatMap E2.ids:=hn3 id (by simp[E2.ids])
     have QN:Ll (Bi hp id (some (.st (A4 c cs' off)))) src (i+1) zs l:=R4 (fun k YZ=>Ae _ _ (fun e=>LD (e ▸ YZ))) hL
     obtain⟨Br,bs',qs',Mk,Fs,G3,JS,JR,Il,RJ,BQ⟩:=N4 (β:=β) (j:=j+cs.length) Dk QN XV;have UF:Br id=some (.st (A4 c cs' off)):=by rw[Il id LD,Ah]
     have V5:∀x∈l,∀k∈x.ids,Bi hp id (some (.st (A4 c cs' off))) k=hp k:=fun x hx k YZ=>Ae _ _ (fun e=>LD (e ▸ List.mem_flatMap.2 ⟨x,hx,YZ⟩))
     refine⟨Br,bs++bs',qs.map (fun q=>(q.1,j+q.2))++qs',Mk,by simp only[List.map_append,hb,Fs];simp,?_,?_,?_,?_,?_,fun w' A own β' bt hβ Qg ho=>?_⟩
     ·intro q hq;rcases List.mem_append.1 hq with hq|hq
      ·obtain⟨q0,Qv,rfl⟩:=List.mem_map.1 hq;exact⟨(Zm q0 Qv).1,by simp only;omega⟩
      ·exact⟨(G3 q hq).1,by have:=(G3 q hq).2;omega⟩
     ·intro q hq q' D5 e;rcases List.mem_append.1 hq with hq|hq
      ·obtain⟨q0,Qv,rfl⟩:=List.mem_map.1 hq;have:=(Zm q0 Qv).2;rcases List.mem_append.1 D5 with D5|D5
       ·obtain⟨q1,G3,rfl⟩:=List.mem_map.1 D5;exact Vz q0 Qv q1 G3 (by simp only at e;omega)
       ·have:=(G3 q' D5).2;simp only at e;omega
      ·have h5:=(G3 q hq).2;rcases List.mem_append.1 D5 with D5|D5
       ·obtain⟨q1,Alo,rfl⟩:=List.mem_map.1 D5;have:=(Zm q1 Alo).2;simp only at e;omega
       ·exact JS q hq q' D5 e
     ·intro k bx hm;rcases List.mem_append.1 hm with hm|hm
      ·exact D7 k bx hm
      ·exact JR k bx hm
     ·intro k hk;simp only[List.flatMap_cons,List.mem_append,not_or] at hk;rw[Il k hk.2];exact Ae _ _ (by rintro rfl;exact hk.1 (by simp[E2.ids]))
     ·intro x hx;rcases List.mem_cons.1 hx with rfl|hx
      ·refine⟨c,cs',hc,UF,by omega,by omega,fun p hp k hk=>?_⟩
       obtain⟨bx,I1⟩:=It p hp k hk;exact⟨bx,List.mem_append.2 (.inl I1)⟩
      ·exact Si (V5 x hx) (fun q hq=>List.mem_append.2 (.inr hq)) (RJ x hx)
     ·obtain⟨⟨b,ob,DN,Dc,vs,hov,hcell,XZ⟩,ho⟩:=ho
      ·obtain⟨h1,h2⟩:=hv w' A own β' j vs (fun q hq=>hβ _ (List.mem_append.2 (.inl (List.mem_map_of_mem hq)))) hov
       obtain⟨h3,h4⟩:=BQ w' A own β' bt (fun q hq=>hβ q (List.mem_append.2 (.inr hq))) Qg ho
       refine⟨fun k bx hm=>?_,fun x hx=>?_⟩
       ·rcases List.mem_append.1 hm with hm|hm
        ·exact h2 k bx hm
        ·exact h3 k bx hm
       ·rcases List.mem_cons.1 hx with rfl|hx
        ·refine⟨c,cs',hc,UF,by omega,by omega,fun b1 o1 hβ1=>?_⟩
         have It:=Qg i;rw[DN,Mf] at It;simp only[Option.bind_some,E0,hβ1,Option.map_some,Option.some.injEq,Prod.mk.injEq] at It;obtain⟨rfl,rfl⟩:=It;refine⟨fun k p hp=>?_,fun k hk=>XZ k (by omega)⟩
         obtain⟨v,hv,DG⟩:=h1.get hp;exact⟨v,hcell k v hv,DG⟩
        ·exact Ui (V5 x hx) (h4 x hx)
    |row id=>
     obtain⟨⟨pz,rfl⟩,Mf,c,hc⟩:=Kh;unfold Q4 at hk;obtain⟨cs,ro',hro,Dk⟩:=Aq hk;subst hro;have LD:id ∉ l.flatMap E2.ids:=hn3 id (by simp[E2.ids])
     have QN:Ll (Bi hp id (some (.ar false cs))) src (i+1) zs l:=R4 (fun k YZ=>Ae _ _ (fun e=>LD (e ▸ YZ))) hL
     obtain⟨Br,bs',qs',Mk,Fs,G3,JS,JR,Il,RJ,BQ⟩:=N4 (β:=β) (j:=j) Dk QN XV;have UF:Br id=some (.ar false cs):=by rw[Il id LD,Ah]
     have V5:∀x∈l,∀k∈x.ids,Bi hp id (some (.ar false cs)) k=hp k:=fun x hx k YZ=>Ae _ _ (fun e=>LD (e ▸ List.mem_flatMap.2 ⟨x,hx,YZ⟩))
     refine⟨Br,bs',qs',Mk,Fs,G3,JS,JR,?_,?_,fun w' A own β' bt hβ Qg ho=>?_⟩
     ·intro k hk;simp only[List.flatMap_cons,List.mem_append,not_or] at hk;rw[Il k hk.2];exact Ae _ _ (by rintro rfl;exact hk.1 (by simp[E2.ids]))
     ·intro x hx;rcases List.mem_cons.1 hx with rfl|hx
      ·exact⟨c,cs,hc,UF⟩
      ·exact Si (V5 x hx) (fun q hq=>hq) (RJ x hx)
     ·obtain⟨PO,ho⟩:=ho
      ·obtain⟨h3,h4⟩:=BQ w' A own β' bt hβ Qg ho;refine⟨h3,fun x hx=>?_⟩
       rcases List.mem_cons.1 hx with rfl|hx
       ·refine⟨cs,UF,?_⟩;have It:=Qg i;rw[Mf] at It;simp only[Option.bind_some,IQ] at It;rw[It] at PO;exact PO
       ·exact Ui (V5 x hx) (h4 x hx)
    |none=>
     obtain⟨⟨pz,rfl⟩,Mf⟩:=Kh;unfold Q4 at hk;obtain⟨cs,ro',hro,Dk⟩:=Aq hk;subst hro;obtain⟨Br,bs',qs',Mk,Fs,G3,JS,JR,Il,RJ,BQ⟩:=N4 (β:=β) (j:=j) Dk hL XV;refine⟨Br,bs',qs',Mk,Fs,G3,JS,JR,?_,?_,fun w' A own β' bt hβ Qg ho=>?_⟩
     ·intro k hk;simp only[List.flatMap_cons,List.mem_append,not_or] at hk;exact Il k hk.2
     ·intro x hx;rcases List.mem_cons.1 hx with rfl|hx
      ·trivial
      ·exact RJ x hx
     ·obtain⟨PO,ho⟩:=ho
      ·obtain⟨h3,h4⟩:=BQ w' A own β' bt hβ Qg ho;refine⟨h3,fun x hx=>?_⟩
       rcases List.mem_cons.1 hx with rfl|hx
       ·trivial
       ·exact h4 x hx
  ·obtain⟨Br,bs',qs',Mk,Fs,G3,JS,JR,Il,RJ,BQ⟩:=N4 (β:=β) (j:=j) hk hL hn;exact⟨Br,bs',qs',Mk,Fs,G3,JS,JR,Il,RJ,fun w' A own β' bt hβ Qg ho=>BQ w' A own β' bt hβ Qg (KC Vo ho)⟩
end
open Go.RowKit
theorem Eb (hp:Nat->Option A2)(ids:List Nat)(i:Nat):N0 hp ids i=if i∈ids then (hp i).map (fun _=>A2.mv) else hp i:=by
 unfold N0;by_cases hi:i∈ids
 ·have:ids.any (Nat.beq i)=true:=List.any_eq_true.2 ⟨i,hi,Nat.beq_refl i⟩;rw[this,if_pos hi];rfl
 ·have:ids.any (Nat.beq i)=false:=by
   cases hb:ids.any (Nat.beq i)
   ·rfl
   ·obtain⟨j,hj,e⟩:=List.any_eq_true.1 hb;exact absurd (Nat.eq_of_beq_eq_true e ▸ hj) hi
  rw[this,if_neg hi];rfl
theorem Mp:∀{nw:List (Nat × A2)} {hp:Nat->Option A2},A3 hp nw=true->(nw.map (·.1)).Nodup
 |[],_,_=>List.nodup_nil
 |(i,b)::r,hp,h=>by
  simp only[A3,Bool.and_eq_true,Option.isNone_iff_eq_none,Bool.not_eq_true'] at h;simp only[List.map_cons,List.nodup_cons];refine⟨fun hm=>?_,Mp h.2⟩
  obtain⟨q,hq,e⟩:=List.mem_map.1 hm;have:r.any (fun q=>Nat.beq q.1 i)=true:=List.any_eq_true.2 ⟨q,hq,by rw[e];exact Nat.beq_refl i⟩
  rw[this] at h;cases h.1.2
theorem VB:∀{l:List (Nat × Nat)},(l.map (·.1)).Nodup->∀q∈l,Pt l q.1=some q.2
 |[],_,_,h=>by cases h
 |(j,b)::r,hn,q,hq=>by
  simp only[List.map_cons,List.nodup_cons] at hn;unfold Pt;rcases List.mem_cons.1 hq with rfl|hq
  ·simp only[Nat.beq_refl,cond_true]
  ·have:Nat.beq q.1 j=false:=by
    cases hb:Nat.beq q.1 j
    ·rfl
    ·exact absurd (Nat.eq_of_beq_eq_true hb ▸ List.mem_map_of_mem hq) hn.1
   simp only[this,cond_false];exact VB hn.2 q hq
theorem GJ:∀{l:List (Nat × Nat)} {i:Nat},i ∉ l.map (·.1)->Pt l i=none
 |[],_,_=>rfl
 |(j,b)::r,i,h=>by
  simp only[List.map_cons,List.mem_cons,not_or] at h;unfold Pt
  have:Nat.beq i j=false:=by
   cases hb:Nat.beq i j
   ·rfl
   ·exact absurd (Nat.eq_of_beq_eq_true hb) h.1
  simp only[this,cond_false];exact GJ h.2
section
variable {R:Type} {r:R} {P:Program} {N:Nat} {w0:World} {X0:Fw} {Y:Nat->Prop} {β β':Bt} {s:St} {a:Act} {w w':World} {o:Oper} {A A':Nat->Prop}
theorem E7.weak (hA:∀b,b<w.heap.size->A' b->A b){q:Option (Nat × Nat)} {p:PV}{u:Value}(h:E7 w A q p u):E7 w A' q p u:=by
 have tr:∀{p:PV},Ap w A p u->Ap w A' p u:=fun h=>h.step (Bd.refl _ _) hA
 cases p with
 |own es n c=>
  rcases h with h|⟨b,ob,cap,h1,h2,h3,h4,h5,h6,h7⟩
  ·exact .inl h
  ·exact .inr ⟨b,ob,cap,h1,h2,h3,h4,h5,h6.weak hA,h7⟩
 |_=>exact tr h
theorem Dm.weak (hA:∀b,b<w.heap.size->A' b->A b){own:Bt}:∀{ps:List PV}{us:List Value}{j:Nat},Dm w A own j ps us->Dm w A' own j ps us
 |[],[],_,_=>trivial
 |[],_::_,_,h=>h.elim
 |_::_,[],_,h=>h.elim
 |_::_,_::_,_,h=>⟨h.1.weak hA,Dm.weak hA h.2⟩
theorem GR.weak (hA:∀b,b<w.heap.size->A' b->A b){bt:Bt}{p:PV}{u:Value}(h:GR w A bt p u):GR w A' bt p u:=by
 cases p with
 |pbox ps=>
  obtain⟨b,ob,h1,h2,h3,vs,h4,h5⟩:=h;exact⟨b,ob,h1,h2,h3,vs,h4.weak hA,h5⟩
 |tup ps=>
  obtain⟨es,n,c,h1,h2⟩:=h;exact⟨es,n,c,h1,h2.weak hA⟩
 |agg cs=>
  obtain⟨vs,h1,h2,h3⟩:=h;exact⟨vs,h1,h2,h3.weak hA⟩
 |_=>exact⟨h.1,h.2.weak hA⟩
theorem I5.weak (hA:∀b,b<w.heap.size->A' b->A b){bt:Va}:∀{ps:List PV}{us:List Value}{i:Nat},I5 w A bt i ps us->I5 w A' bt i ps us
 |[],[],_,_=>trivial
 |[],_::_,_,h=>h.elim
 |_::_,[],_,h=>h.elim
 |_::_,_::_,_,h=>⟨h.1.weak hA,I5.weak hA h.2⟩
theorem R7 {bt:Va}(k:Bool):∀{xs:List Operand}{ps:List PV}{i:Nat},I5 w A bt i ps (xs.map a.eval)->I5 w A bt i (Gu k xs ps) (xs.map a.eval)
 |[],[],_,h=>h
 |[],_::_,_,h=>h
 |_::_,[],_,h=>h
 |x::xs,p::ps,i,h=>by
  simp only[List.map_cons] at h ⊢;refine⟨?_,R7 k h.2⟩;split
  ·exact⟨.inl trivial,Ap.lnil _ _⟩
  ·exact h.1
theorem BA (k:Bool)(x:Operand)(xs:List Operand)(p:PV)(ps:List PV):∃p',Gu k (x::xs) (p::ps)=p'::Gu k xs ps∧Ss p'=Ss p∧(Ss p=true->p'=p):=by
 refine⟨_,rfl,?_,fun h=>?_⟩
 ·split
  ·rfl
  ·rfl
 ·split
  ·cases h
  ·rfl
theorem Na {hp:Nat->Option A2}{src:Nat->Nat->Option (Nat × Nat)} (k:Bool):∀{xs:List Operand}{ps:List PV}{i:Nat}{l:List E2},Ll hp src i ps l->Ll hp src i (Gu k xs ps) l
 |[],[],_,_,h=>h
 |[],_::_,_,_,h=>h
 |_::_,[],_,_,h=>h
 |x::xs,p::ps,i,l,h=>by
  obtain⟨p',e,h1,h2⟩:=BA k x xs p ps;rw[e];rcases h with⟨h3,h4,h5⟩|⟨y,l',rfl,h4,h5⟩
  ·exact .inl ⟨by rw[h1];exact h3,h4,Na k h5⟩
  ·exact .inr ⟨y,l',rfl,by rw[h2 (LS h4)];exact h4,Na k h5⟩
theorem Wg {hp:Nat->Option A2}{src:Nat->Nat->Option (Nat × Nat)}:∀{ps:List PV}{i:Nat}{l:List E2},Ll hp src i ps l->∀id∈l.flatMap E2.ids,B0 (hp id)∧∃k off,src k 0=some (id,off)
 |[],_,_,h,id,Ay=>by
  have h:_=[]:=h;rw[h] at Ay;cases Ay
 |p::ps,i,l,h,id,Ay=>by
  rcases h with⟨_,_,h3⟩|⟨x,l',rfl,h2,h3⟩
  ·exact Wg h3 id Ay
  ·simp only[List.flatMap_cons,List.mem_append] at Ay;rcases Ay with Ay|Ay
   ·cases x with
    |var id' off cts ws=>
     simp only[E2.ids,List.mem_singleton] at Ay;subst Ay;obtain⟨_,h4,_,c,h5,_⟩:=h2;exact⟨by rw[h5];trivial,i,_,h4⟩
    |row id'=>
     simp only[E2.ids,List.mem_singleton] at Ay;subst Ay;obtain⟨_,h4,c,h5⟩:=h2;exact⟨by rw[h5];trivial,i,_,h4⟩
    |none=>simp[E2.ids] at Ay
   ·exact Wg h3 id Ay
theorem TW {hp:Nat->Option A2}{src:Nat->Nat->Option (Nat × Nat)}:∀{ps:List PV}{i:Nat}{l:List E2},Ll hp src i ps l->∀k p id off,ps[k]?=some p->src (i+k) 0=some (id,off) ->
   (∃c ws,hp id=some (.st c)∧p=.pbox ws∧off+ws.length<=c.length)∨((∃c,hp id=some (.ar false c))∧off=0∧∃ws,p=.tup ws)
 |[],_,_,_,k,p,id,off,hp,_=>by simp at hp
 |p::ps,i,l,h,k,p',id,off,Br,hs=>by
  have P4:∃l',Ll hp src (i+1) ps l':=by
   rcases h with⟨_,_,h3⟩|⟨x,l',_,_,h3⟩<;>exact⟨_,h3⟩
  cases k with
  |succ k=>
   obtain⟨l',h'⟩:=P4;exact TW h' k p' id off (by simpa using Br) (by rw[show i+1+k=i+(k+1) by omega];exact hs)
  |zero=>
   simp only[List.getElem?_cons_zero,Option.some.injEq] at Br;subst Br;rw[Nat.add_zero] at hs;rcases h with⟨_,h2,_⟩|⟨x,l',_,h2,_⟩
   ·rw[hs] at h2;cases h2
   ·cases x with
    |var id' off' cts ws=>
     obtain⟨h3,h4,_,c,h5,h6⟩:=h2;rw[hs] at h4;cases h4;exact .inl ⟨c,ws,h5,h3,h6⟩
    |row id'=>
     obtain⟨h3,h4,c,h5⟩:=h2;rw[hs] at h4;cases h4;exact .inr ⟨⟨c,h5⟩,rfl,h3⟩
    |none=>
     have:=h2.2;rw[hs] at this;cases this
theorem FZ {hp : Nat -> Option A2} {src : Nat -> Nat -> Option (Nat × Nat)} {id off : Nat} {cts : List CT} {ws : List PV} : ∀ {ps : List PV} {i : Nat} {l : List E2}, Ll hp src i ps l -> E2.var id off cts ws ∈ l ->
      ∃ k, ps[k]? = some (.pbox ws) ∧ src (i + k) 0 = some (id, off)
  | [], _, _, h, hm => by
    have h : _ = [] := h
    rw[h] at hm; cases hm
  | p :: ps, i, l, h, hm => by
    have next : ∀ {l'}, Ll hp src (i + 1) ps l' -> E2.var id off cts ws ∈ l' -> ∃ k, (p :: ps)[k]? = some (.pbox ws) ∧ src (i + k) 0 = some (id, off) := by
      intro l' h' Je
      obtain⟨k, h1, h2⟩ := FZ h' Je
      exact⟨k + 1, by simpa using h1, by rw[show i + (k + 1) = i + 1 + k by omega]; exact h2⟩
    rcases h with⟨_, _, h3⟩ | ⟨x, l', rfl, h2, h3⟩
    · exact next h3 hm
    · rcases List.mem_cons.1 hm with e | hm
      · subst e
        obtain⟨h1, h4, _⟩ := h2
        subst h1
        exact⟨0, rfl, h4⟩
      · exact next h3 hm
theorem HH {hp:Nat->Option A2}{src:Nat->Nat->Option (Nat × Nat)}:∀{ps:List PV}{i:Nat}{l:List E2},Ll hp src i ps l->∀k id off,i<=k->src k 0=some (id,off)->k<i+ps.length->∃p,ps[k-i]?=some p∧Ss p=true
 |[],i,_,_,k,id,off,h1,_,h3=>by simp at h3;omega
 |p::ps,i,l,h,k,id,off,h1,h2,h3=>by
  by_cases e:k=i
  ·subst e;rcases h with⟨_,h4,_⟩|⟨x,l',_,h4,_⟩
   ·rw[h2] at h4;cases h4
   ·exact⟨p,by simp,LS h4⟩
  ·have P4:∃l',Ll hp src (i+1) ps l':=by
    rcases h with⟨_,_,h3⟩|⟨x,l',_,_,h3⟩<;>exact⟨_,h3⟩
   obtain⟨l',h'⟩:=P4;obtain⟨q,h5,h6⟩:=HH h' k id off (by omega) h2 (by simp at h3;omega)
   refine⟨q,?_,h6⟩;rw[show k-i=(k-(i+1))+1 by omega]
   simpa using h5
theorem I5.len {bt:Va}:∀{ps:List PV}{us:List Value}{i:Nat},I5 w A bt i ps us->ps.length=us.length
 |[],[],_,_=>rfl
 |[],_::_,_,h=>h.elim
 |_::_,[],_,h=>h.elim
 |_::_,_::_,_,h=>by simp[I5.len h.2]
theorem FX (h:Bs N w0 X0 Y β s a w){G:Glo}(H9:ET P G w0 X0){C:Fd}{call:Aj}(Cr:∀f args res,call f args=some res->Dl G P f args res){c:Call}{f:FuncId}(ho:o.op=.call c)(hc:c.callee=.value (.func f))
  {K:St->Option R} (hk:Tv C P N call s o f c K=some r):
  ∃s',K s'=some r∧∀(next:Act->World->Prop) (Q:Exit->Act->World->Prop),(∀a' w' β',Bs N w0 X0 Y β' s' a' w'->next a' w')->o.wp P a w next Q:=by
 unfold Tv at hk;obtain⟨vs0,m,x,l,src,Cv,hm,hx,hS,hL,Dh⟩:=Z6 h hk;obtain⟨hb,Dk⟩:=Ag Cv;simp only[Bool.and_eq_true] at hb;obtain⟨⟨⟨hnd,Aeq⟩,hN⟩,PF⟩:=hb;have hN:0<N:=Nat.lt_of_succ_le (Nat.le_of_ble_eq_true hN);obtain⟨XP,hnx,hlx⟩:=Gf hnd
 have hml:∀i∈m,i ∉ l.flatMap E2.ids∧i ∉ x:=by
  intro i hi;have:=List.all_eq_true.1 Aeq i hi
  have hn:∀k∈l.flatMap E2.ids++x,i≠k:=by
   rintro k hk rfl
   have h2:(l.flatMap E2.ids++x).any (Nat.beq i)=true:=List.any_eq_true.2 ⟨i,hk,Nat.beq_refl i⟩;rw[h2] at this;cases this
  exact⟨fun hq=>hn i (by simp only[List.mem_append];exact .inl hq) rfl,fun hq=>hn i (by simp only[List.mem_append];exact .inr hq) rfl⟩
 replace hL:=Na (C.kz f) (xs:=c.args.toList) hL
 replace Dh:=fun fz h1 h2 bt Qg=>R7 (a:=a) (C.kz f) (Dh fz h1 h2 bt Qg)
 generalize Gu (C.kz f) c.args.toList vs0=vs at Dk Dh hL;obtain⟨rv,ro,Lc,Mk⟩:=Z5 Dk;obtain⟨ws,bs,V8,hwl,XL,HE,hrs,JN,hws⟩:=Tw (C.shr f) N Mk;obtain⟨L8,YB⟩:=Ag V8;obtain⟨lids,Yg⟩:∃lids,l.flatMap E2.ids=lids:=⟨_,rfl⟩;rw[Yg] at hS XP hlx hml;have Akr:∀i,i ∉ x->N0 (Ac s.hp m) x i=Ac s.hp m i:=fun i hi=>by rw[Eb,if_neg hi]
 have NF:∀i,i∈lids->N0 (Ac s.hp m) x i=s.hp i:=fun i hi=>by
  rw[Akr i (hlx i hi),A6,if_neg (fun hq=>(hml i hq).1 hi)]
 have hLM:Ll (N0 (Ac s.hp m) x) src 0 vs l:=R4 (fun i hi=>NF i (Yg ▸ hi)) hL
 obtain⟨Br,bs',qs,hk6,hbq,Zm,Vz,D7,Il,RJ,BQ⟩:=N4 (β:=β) (j:=Le rv) YB hLM (by rw[Yg];exact XP)
 obtain⟨Lm,hk7⟩:=Ag hk6;refine⟨_,hk7,fun next Q hn=>?_⟩
 clear hk Cv Dk Mk V8 YB hk6 hk7;rw[Yg] at Il;obtain⟨⟨fn,hfn,hfb⟩,P6⟩:=Cr f vs _ Lc;have hf:=h.freeze hm;have QZ:=Wg hL;rw[Yg] at QZ
 have Z4:∀i,i∈lids∨i∈x->Ac s.hp m i=s.hp i:=by
  intro i hi;rw[A6,if_neg];intro hq;rcases hi with hi|hi
  ·exact (hml i hq).1 hi
  ·exact (hml i hq).2 hi
 have Rg:∀i,i∈lids∨i∈x->B0 (s.hp i):=by
  intro i hi;rcases hi with hi|hi
  ·exact (QZ i hi).1
  ·obtain⟨cc,WQ⟩:=hx i hi;rw[WQ];trivial
 have Alu:∀i j id off,src i j=some (id,off)->id∈lids∨id∈x:=by
  intro i j id off hs;cases j with
  |zero=>exact .inl (hS.lent i id off hs)
  |succ j=>exact .inr (hS.mvd i j id off hs).2
 obtain⟨bt,Qg⟩:∃bt:Va,∀i j,bt i j=(src i j).bind (E0 β):=⟨_,fun _ _=>rfl⟩
 have btS:∀{i j b ob},bt i j=some (b,ob)->∃id off o',src i j=some (id,off)∧β id=some (b,o')∧ob=o'+off∧(id∈lids∨id∈x):=by
  intro i j b ob hb;rw[Qg] at hb;cases hs:src i j with
  |none=>rw[hs] at hb;cases hb
  |some q=>
   rw[hs] at hb;obtain⟨id,off⟩:=q;simp only[Option.bind_some,E0] at hb;cases hβ:β id with
   |none=>rw[hβ] at hb;cases hb
   |some p=>
    rw[hβ] at hb;obtain⟨b',o'⟩:=p;simp only[Option.map_some,Option.some.injEq,Prod.mk.injEq] at hb;obtain⟨rfl,rfl⟩:=hb;exact⟨id,off,o',rfl,hβ,rfl,Alu i j id off hs⟩
 have btX:∀{b},RO bt b->∃id o',β id=some (b,o')∧(id∈lids∨id∈x):=by
  rintro b ⟨i,j,ob,hb⟩
  obtain⟨id,off,o',_,h2,_,h4⟩:=btS hb;exact⟨id,o',h2,h4⟩
 have hBA:∀b,RO bt b->CC s.hp β b:=fun b hb=>by
  obtain⟨id,o',h1,h2⟩:=btX hb;exact⟨id,o',Rg id h2,h1⟩
 obtain⟨Yc,hYc⟩:∃Yc:Nat->Prop,∀b,Yc b↔((∃id ob,B0 (Ac s.hp m id)∧β id=some (b,ob)∧id ∉ lids∧id ∉ x)∨Y b):=⟨_,fun _=>Iff.rfl⟩
 have Dc:vs.length=c.args.toList.length:=by
  have:=(Dh m (fun _ hi=>hi) hm bt Qg).len
  simpa using this
 have Abb:Ins w Yc bt vs (c.args.toList.map a.eval):=by
  refine⟨fun b hb=>?_,fun b hb hB=>?_,fun b hB=>?_,fun i j i' j' b ob ob' hb Fs=>?_,fun i q hq=>?_,?_⟩
  ·rcases (hYc b).1 hb with⟨id,ob,hl,hβ,_⟩|hY
   ·exact hf.blt id b ob (Bw hl) hβ
   ·exact Nat.lt_of_lt_of_le (h.Ylt b hY) h.fr.step.size
  ·obtain⟨id',o',h1,h2⟩:=btX hB;rcases (hYc b).1 hb with⟨id,ob,hl,hβ,h3,h4⟩|hY
   ·have:=hf.inj id id' b ob o' hl (by show B0 (Ac s.hp m id');rw[Z4 id' h2];exact Rg id' h2) hβ h1
    subst this;rcases h2 with h2|h2
    ·exact h3 h2
    ·exact h4 h2
   ·exact h.Yx b hY ⟨id',o',Rg id' h2,h1⟩
  ·obtain⟨id',o',h1,h2⟩:=btX hB;exact h.blt id' b o' (Bw (Rg id' h2)) h1
  ·obtain⟨id,off,o1,h1,h2,_,h4⟩:=btS hb;obtain⟨id',off',o1',U6,h2',_,h4'⟩:=btS Fs;have:=h.inj id id' b o1 o1' (Rg id h4) (Rg id' h4') h2 h2';subst this;cases j with
   |zero=>
    cases j' with
    |zero=>exact⟨hS.inj0 XP i i' id off off' h1 U6,rfl⟩
    |succ j'=>exact absurd (hS.mvd i' j' id off' U6).2 (hlx id (hS.lent i id off h1))
   |succ j=>
    cases j' with
    |zero=>exact absurd (hS.mvd i j id off h1).2 (hlx id (hS.lent i' id off' U6))
    |succ j'=>
     obtain⟨h5,h6⟩:=hS.inj1 hnx i i' j j' id off off' h1 U6;exact⟨h5,by rw[h6]⟩
  ·obtain⟨b,ob⟩:=q;obtain⟨id,off,o',h1,_⟩:=btS hq;obtain⟨p,hp,h2⟩:=HH hL i id off (Nat.zero_le _) h1 (by have:=hS.dom i 0 _ h1;rw[Dc];exact this.2)
   exact⟨p,by simpa using hp,h2⟩
  ·refine (Dh m (fun _ hi=>hi) hm bt Qg).weak fun b _ hb=>?_
   rcases hb with hb|hb
   ·obtain⟨id',o',h1,h2⟩:=btX hb;exact .inl ⟨id',o',by rw[Z4 id' h2];exact Rg id' h2,h1⟩
   ·rcases (hYc b).1 hb with⟨id,ob,hl,hβ,_⟩|hY
    ·exact .inl ⟨id,ob,hl,hβ⟩
    ·exact .inr hY
 unfold Oper.wp;rw[FI ho hc H9.ng hfn hfb];show Calls P f _ w _;have hca:c.args.map a.eval=(c.args.toList.map a.eval).toArray:=by rw[←List.map_toArray,Array.toArray_toList]
 rw[hca];refine (P6 w Yc bt _ Abb (H9.fr w h.fr) (fun b x=>⟨Nat.lt_of_lt_of_le (H9.y b x).1 h.fr.step.size,fun hB=>(h.ownd b (hBA b hB)).elim (H9.y b x).2 (fun Sv=>absurd (H9.y b x).1 (Nat.not_lt.2 Sv))⟩)).mono ?_
 rintro e w' ⟨us,own,rfl,out⟩
 obtain⟨YW,ha2⟩:=Ax Lm;obtain⟨XK,hg2⟩:=C1 (hp:=Br) ha2;have KN:=Mp Lm;rw[List.map_append,List.nodup_append] at KN;obtain⟨Aw8,Akq,Aq6⟩:=KN;rw[hbq] at Akq
 obtain⟨β1,hβ1,hβ2⟩:∃β1:Bt,(∀i,(∃bx,(i,bx)∈bs)->β1 i=own ((i-o.dst.getD N) / N))∧∀i,(¬∃bx,(i,bx)∈bs)->β1 i=match Pt qs i with|some j=>own j|none=>β i:=by
  refine⟨fun i=>if (bs.any fun q=>Nat.beq q.1 i)=true then own ((i-o.dst.getD N) / N) else match Pt qs i with|some j=>own j|none=>β i,fun i hi=>?_,fun i hi=>?_⟩
  ·show (if _ then _ else _)=_
   rw[if_pos (AN.2 hi)]
  ·show (if _ then _ else _)=_
   rw[if_neg (fun hq=>hi (AN.1 hq))]
 have hβbs:∀j,(∃bx,(o.dst.getD N+N*j,bx)∈bs)->β1 (o.dst.getD N+N*j)=own (0+j):=by
  intro j hj;rw[hβ1 _ hj,Nat.add_sub_cancel_left,Nat.mul_div_cancel_left _ hN,Nat.zero_add]
 have hqb:∀q∈qs,∃bx,(q.1,bx)∈bs':=by
  intro q hq;have:q.1∈bs'.map (·.1):=by rw[hbq];exact List.mem_map_of_mem hq
  obtain⟨⟨i,bx⟩,hm,e⟩:=List.mem_map.1 this;exact⟨bx,e ▸ hm⟩
 have Atr:∀i bx,(i,bx)∈bs'->∃j,(i,j)∈qs:=by
  intro i bx hm;have:i∈qs.map (·.1):=by rw[←hbq];exact List.mem_map.2 ⟨_,hm,rfl⟩
  obtain⟨⟨i',j⟩,hm,e⟩:=List.mem_map.1 this;exact⟨j,e ▸ hm⟩
 have hbb:∀i,(∃bx,(i,bx)∈bs')->¬∃bx,(i,bx)∈bs:=by
  rintro i ⟨bx,hm⟩ ⟨bx',Je⟩
  exact Aq6 i (List.mem_map.2 ⟨_,Je,rfl⟩) i (List.mem_map.2 ⟨_,hm,rfl⟩) rfl
 have hβqs:∀q∈qs,β1 q.1=own q.2:=by
  intro q hq;rw[hβ2 q.1 (hbb q.1 (hqb q hq)),VB Akq q hq]
 have hβold:∀i,Br i≠none->β1 i=β i:=by
  intro i hi
  have FH:¬∃bx,(i,bx)∈bs:=by
   rintro⟨bx,hm⟩
   exact hi (YW i bx (List.mem_append.2 (.inl hm)))
  rw[hβ2 i FH,GJ];intro hm;obtain⟨q,hq,e⟩:=List.mem_map.1 hm;obtain⟨bx,I1⟩:=hqb q hq;exact hi (YW i bx (List.mem_append.2 (.inr (e ▸ I1))))
 obtain⟨G8,hba⟩:=hws w' _ own β1 w.heap.size 0 us hβbs out.vals;obtain⟨Asm,Ajy⟩:=BQ w' _ own β1 bt hβqs (fun i=>Qg i 0) out.outs
 have Adb:∀id∈lids,∃y∈l,id∈y.ids:=by
  intro id Ay;rw[←Yg] at Ay;exact List.mem_flatMap.1 Ay
 have ZK:∀id∈lids,(∃off c cs,s.hp id=some (.st c)∧Br id=some (.st (A4 c cs off))∧off+cs.length<=c.length∧(∀p∈cs,∀i∈Ak p,∃bx,(i,bx)∈bs'))∨∃c cs,s.hp id=some (.ar false c)∧Br id=some (.ar false cs):=by
  intro id Ay;obtain⟨y,hy,UW⟩:=Adb id Ay;have h1:=RJ y hy;cases y with
  |var id' off cts ws'=>
   simp only[E2.ids,List.mem_singleton] at UW;subst UW;obtain⟨c1,cs,h2,h3,h4,h5,h6⟩:=h1;rw[NF id Ay] at h2;exact .inl ⟨off,c1,cs,h2,h3,h5,h6⟩
  |row id'=>
   simp only[E2.ids,List.mem_singleton] at UW;subst UW;obtain⟨c1,cs,h2,h3⟩:=h1;rw[NF id Ay] at h2;exact .inr ⟨c1,cs,h2,h3⟩
  |none=>simp[E2.ids] at UW
 have Asi:∀id∈lids,Br id≠none:=by
  intro id Ay;rcases ZK id Ay with⟨_,_,_,_,h2,_⟩|⟨_,_,_,h2⟩<;>rw[h2]<;>simp
 have hpK:∀id,id ∉ lids->Br id=N0 (Ac s.hp m) x id:=fun id Ay=>Il id Ay
 have Es:∀i,s.hp i≠none->Br i≠none:=by
  intro i hi;by_cases hl:i∈lids
  ·exact Asi i hl
  ·rw[hpK i hl,Eb];have h1:Ac s.hp m i≠none:=fun e=>hi (Cq.1 e)
   split
   ·cases hq:Ac s.hp m i with
    |none=>exact absurd hq h1
    |some b=>simp
   ·exact h1
 have Abh:∀i,(s.hp i≠none∨∃bx,(i,bx)∈bs++bs')->Al Br (bs++bs') i≠none:=by
  rintro i (hi|⟨bx,hm⟩)
  ·have h1:=Es i hi;rw[hg2 i (fun bx hm=>h1 (YW i bx hm))]
   exact h1
  ·rw[XK i bx hm];simp
 have Fe:∀id,(∃bx,(id,bx)∈bs++bs')∨Al Br (bs++bs') id=Br id:=fun id=>by
  by_cases hx:∃bx,(id,bx)∈bs++bs'
  ·exact .inl hx
  ·exact .inr (hg2 id fun bx hb=>hx ⟨bx,hb⟩)
 have hold:∀id bx,Br id=some bx->B0 (some bx)->B0 (s.hp id)∧id ∉ x∧(id∈lids∨(id ∉ lids∧Ac s.hp m id=some bx)):=by
  intro id bx hb hl;by_cases Ay:id∈lids
  ·exact⟨Rg id (.inl Ay),hlx id Ay,.inl Ay⟩
  ·rw[hpK id Ay,Eb] at hb;split at hb
   ·cases hq:Ac s.hp m id with
    |none=>rw[hq] at hb;cases hb
    |some b=>rw[hq] at hb;simp at hb;subst hb;exact hl.elim
   ·rename_i hxn;exact⟨by rw[Gp hb hl];exact hl,hxn,.inr ⟨Ay,hb⟩⟩
 have Qw:∀i bx,(i,bx)∈bs++bs'->∃j,β1 i=own j∧((i=o.dst.getD N+N*j∧j<Le rv)∨((i,j)∈qs∧Le rv<=j)):=by
  intro i bx hm;rcases List.mem_append.1 hm with hm|hm
  ·obtain⟨⟨j,rfl,hj⟩,_⟩:=hba i bx hm;exact⟨j,by rw[hβbs j ⟨bx,hm⟩,Nat.zero_add],.inl ⟨rfl,hj⟩⟩
  ·obtain⟨j,hj⟩:=Atr i bx hm;exact⟨j,hβqs _ hj,.inr ⟨hj,(Zm _ hj).2⟩⟩
 have Acv:∀i bx,(i,bx)∈bs++bs'->B0 (some bx)∧M6 w' (T7 bt own Yc) β1 i bx∧∀cs,bx=.st cs->∀b ob,β1 i=some (b,ob)->w.heap.size<=b:=by
  intro i bx hm;rcases List.mem_append.1 hm with hm|hm
  ·exact (hba i bx hm).2
  ·obtain⟨cc,rfl⟩:=D7 i bx hm;exact⟨trivial,Asm i _ hm,fun cs e=>by cases e⟩
 have Agw:∀b,(∃i k o',bt i (k+1)=some (b,o'))->∃id o',id∈x∧β id=some (b,o'):=by
  rintro b ⟨i,k,o',hb⟩
  obtain⟨id,off,o1,h1,h2,_,_⟩:=btS hb;exact⟨id,o1,(hS.mvd i k id off h1).2,h2⟩
 have hX:∀b,b<w.heap.size->CC (Al Br (bs++bs')) β1 b->CC s.hp β b:=by
  rintro b hb ⟨id,ob,hl,hβ⟩
  rcases Fe id with⟨bx,hm⟩|e
  ·obtain⟨j,hj,_⟩:=Qw id bx hm;rw[hj] at hβ;obtain⟨id',o',h1,h2⟩:=Agw b ((out.fresh j b ob hβ).2 hb).1;exact⟨id',o',Rg id' (.inr h1),h2⟩
  ·rw[e] at hl;cases hq:Br id with
   |none=>rw[hq] at hl;exact hl.elim
   |some bx=>
    rw[hq] at hl;exact⟨id,ob,(hold id bx hq hl).1,by rw[←hβold id (by rw[hq];simp)];exact hβ⟩
 have hAo:∀b,b<w.heap.size->B1 (Al Br (bs++bs')) β1 Y b->B1 s.hp β Y b:=fun b hb hA=>hA.imp (hX b hb) id
 have hAO:∀b,B1 (Al Br (bs++bs')) β1 Y b->T7 bt own Yc b:=by
  rintro b (⟨id,ob,hl,hβ⟩|hY)
  ·rcases Fe id with⟨bx,hm⟩|e
   ·obtain⟨j,hj,_⟩:=Qw id bx hm;rw[hj] at hβ;exact .inl ⟨j,ob,hβ⟩
   ·rw[e] at hl;cases hq:Br id with
    |none=>rw[hq] at hl;exact hl.elim
    |some bx=>
     rw[hq] at hl;rw[hβold id (by rw[hq];simp)] at hβ
     obtain⟨h1,h2,h3⟩:=hold id bx hq hl;rcases h3 with h3|⟨h3,h4⟩
     ·obtain⟨_,i,off,hs⟩:=QZ id h3;exact .inr (.inl ⟨i,ob+off,by rw[Qg,hs];simp[E0,hβ]⟩)
     ·exact .inr (.inr ((hYc b).2 (.inl ⟨id,ob,by rw[h4];exact hl,hβ,h3,h2⟩)))
  ·exact .inr (.inr ((hYc b).2 (.inr hY)))
 have Kf:Bd (B1 s.hp β Y) w w':=out.ext.weaken (fun b _ hb=>.inl (hBA b hb))
 have Abe:∀i,s.hp i≠none->β1 i=β i:=fun i hi=>hβold i (Es i hi)
 have hCL:∀b j,AG bt vs b j->∃id o' bx,s.hp id=some bx∧B0 (some bx)∧β id=some (b,o')∧BR bx o' j:=by
  rintro b j ⟨i,p,hp,⟨k,ob,hb,Sv⟩|⟨ob,ps,hb,Sv,Vo⟩⟩
  ·obtain⟨id,off,o',h1,h2,h3,_⟩:=btS hb;obtain⟨h5,h6⟩:=hS.mvd i k id off h1;obtain⟨cc,WQ⟩:=hx id h6;exact⟨id,o',_,WQ,trivial,h2,show o'<=j by omega⟩
  ·obtain⟨id,off,o',h1,h2,h3,_⟩:=btS hb;rcases TW hL i p id off hp (by rw[Nat.zero_add];exact h1) with⟨c1,wz,h5,h6,h7⟩|⟨⟨c1,h5⟩,_⟩
   ·rcases Vo with⟨h8,h9⟩|h8
    ·rw[h6] at h8;cases h8;exact⟨id,o',_,h5,trivial,h2,show o'<=j∧j<o'+c1.length by omega⟩
    ·rw[h6] at h8;cases h8
   ·exact⟨id,o',_,h5,trivial,h2,show o'<=j by omega⟩
 have TE:∀id off cts wz,E2.var id off cts wz∈l->id∈lids->∀b ob,β id=some (b,ob)->∀j,(j<off∨off+wz.length<=j)->(∃c1,s.hp id=some (.st c1))->¬AG bt vs b (ob+j):=by
  rintro id off cts wz hy Ay b ob hβ j hj ⟨c1,AL⟩ ⟨i,p,hp,⟨k,ob',hb,Sv⟩|⟨ob',ps,hb,Sv,Vo⟩⟩
  ·obtain⟨id',off',o',h1,h2,h3,h4⟩:=btS hb;have:=h.inj id id' b ob o' (Rg id (.inl Ay)) (Rg id' h4) hβ h2;subst this;exact hlx id Ay (hS.mvd i k id off' h1).2
  ·obtain⟨id',off',o',h1,h2,h3,h4⟩:=btS hb;have:=h.inj id id' b ob o' (Rg id (.inl Ay)) (Rg id' h4) hβ h2;subst this;rw[hβ] at h2;cases h2;obtain⟨k,Cv,Dk⟩:=FZ hL hy;rw[Nat.zero_add] at Dk;have hik:=hS.inj0 XP i k id off' off h1 Dk;subst hik;rw[h1] at Dk;cases Dk;rw[hp] at Cv;cases Cv;rcases Vo with⟨h8,h9⟩|h8
   ·cases h8;omega
   ·cases h8
 have hval:C4 w' (B1 (Al Br (bs++bs')) β1 Y) β1 (J6 ws (Kx P o.type)) (F8 us):=by
  have Ko:Av (Ft w' (B1 (Al Br (bs++bs')) β1 Y) β1) ws us:=G8.mono fun v u hvu=>hvu.step (Bd.refl _ _) (fun b _=>hAO b) (fun _ _=>rfl)
  have Dc:=Ko.len;cases hT:Kx P o.type
  ·rw[hT] at L8;have h1:ws.length=1:=Nat.eq_of_beq_eq_true L8
   match ws,us,h1,Dc with
   |[v],[u],_,_=>
    exact (Mx (XL v (by simp))).2 Ko.1
  ·rw[hT] at L8
   have h1:¬ws.length=1:=by
    intro e;rw[e] at L8;cases L8
   have hr:F8 us=.tuple ⟨us⟩:=by
    unfold F8;split
    ·simp at Dc;omega
    ·rfl
   rw[hr];exact⟨us,rfl,Ko⟩
 have hvr:∀i∈A8 (J6 ws (Kx P o.type)),∃bx,(i,bx)∈bs:=by
  intro i hi;cases hT:Kx P o.type
  ·rw[hT] at L8 hi;have h1:ws.length=1:=Nat.eq_of_beq_eq_true L8
   match ws,h1 with
   |[v],_=>
    refine hrs v (by simp) i ?_
    have:A8 v=Bh v:=by
     have hn:=XL v (by simp)
     cases v<;>first|rfl|exact absurd rfl (hn _)
    rw[←this];exact hi
  ·rw[hT] at hi;obtain⟨v,hv,hi⟩:=List.mem_flatMap.1 (show i∈ws.flatMap Bh from hi)
   exact hrs v hv i hi
 refine hn _ w' β1 ?_;refine⟨by rw[Mv];exact h.dfr,by rw[Ru];exact h.tsz,BW PF h.tmo,?_,?_,?_,?_,?_,?_,?_,?_,?_,?_,?_,h.Ylt,?_⟩
 ·refine K7 (Q:=fun _ p u=>C4 w' (B1 (Al Br (bs++bs')) β1 Y) β1 p u) h.tsz PF (fun i hi=>?_) (fun _=>hval)
  exact (h.tms i hi).step Kf hAo fun id Ay=>Abe id (h.wfT i hi id Ay)
 ·intro id bx hb;simp only at hb;rcases Fe id with⟨bx',Je⟩|e
  ·rw[XK id bx' Je] at hb;cases hb;exact (Acv id _ Je).2.1.step' hAO
  ·rw[e] at hb;have hβ:=hβold id (by rw[hb];simp)
   by_cases Ay:id∈lids
   ·obtain⟨y,hy,UW⟩:=Adb id Ay;have h1:=Ajy y hy;cases y with
    |var id' off cts wz=>
     simp only[E2.ids,List.mem_singleton] at UW;subst UW;obtain⟨c1,cs,h2,h3,h4,h5,h6⟩:=h1;rw[NF id Ay] at h2;rw[h3] at hb;cases hb;obtain⟨b,ob,h7,h8,h9⟩:=h.box id _ h2;obtain⟨h10,h11⟩:=h6 b ob h7;have Bl:=h.blt id b ob (by rw[h2];simp) h7
     have Ut:∀j,(j<off∨off+wz.length<=j)->w'.cell? ⟨b,ob+j,none⟩=w.cell? ⟨b,ob+j,none⟩∧w'.frozen? ⟨b,ob+j,none⟩=w.frozen? ⟨b,ob+j,none⟩:=
      fun j hj=>out.rng b (ob+j) Bl (TE id off cts wz hy Ay b ob h7 j hj ⟨c1,h2⟩)
     refine⟨b,ob,hβ.trans h7,fun j p hj=>?_,fun j hj=>?_⟩
     ·rcases Mq (by omega) hj with⟨h12,h13,h14⟩|⟨h12,h14⟩
      ·obtain⟨v,hv,DG⟩:=h10 _ _ h14;refine⟨v,?_,DG.step (Bd.refl _ _) (fun b _=>hAO b) (fun _ _=>rfl)⟩
       rw[show ob+j=ob+off+(j-off) by omega]
       exact hv
      ·obtain⟨v,hv,DG⟩:=h8 _ _ h14;refine⟨v,by rw[(Ut j (by omega)).1];exact hv,DG.step Kf hAo fun i hi=>Abe i (h.wfB id c1 h2 p (List.mem_of_getElem? h14) i hi)⟩
     ·rw[Mo (by omega)] at hj
      by_cases DB:off<=j∧j<off+cs.length
      ·have:=h11 (j-off) (by omega)
       rw[show ob+off+(j-off)=ob+j by omega] at this
       exact this
      ·rw[(Ut j (by omega)).2]
       exact h9 j hj
    |row id'=>
     simp only[E2.ids,List.mem_singleton] at UW;subst UW;obtain⟨cs,h3,h4⟩:=h1;rw[h3] at hb;cases hb;rcases h4 with⟨h5,h6⟩|⟨b,ob,h5,h6,h7⟩
     ·exact .inl ⟨hβ.trans h5,h6⟩
     ·exact .inr ⟨b,ob,hβ.trans h5,h6.weak (fun b _=>hAO b),fun _=>h7,(fun q=>by cases q)⟩
    |none=>simp[E2.ids] at UW
   ·rw[hpK id Ay,Eb] at hb;split at hb
    ·cases hq:Ac s.hp m id with
     |none=>rw[hq] at hb;cases hb
     |some b0=>rw[hq] at hb;simp at hb;subst hb;trivial
    ·rename_i hxn;have I1:=hf.box id bx hb
     have VN:∀b ob,β id=some (b,ob)->bx ≠ .mv->b<w.heap.size∧w'.heap[b]?=w.heap[b]?:=by
      intro b ob DN hmv;have Bl:=hf.blt id b ob (by show Ac s.hp m id≠none;rw[hb];simp) DN
      refine⟨Bl,out.ext.keep b Bl fun hB=>?_⟩
      obtain⟨id',o',h1,h2⟩:=btX hB;have G9:B0 (Ac s.hp m id'):=by rw[Z4 id' h2];exact Rg id' h2
      have GN:id≠id':=by
       rintro rfl
       rcases h2 with h2|h2
       ·exact Ay h2
       ·exact hxn h2
      cases bx with
      |st cc=>exact GN (hf.inj id id' b ob o' (by show B0 (Ac s.hp m id);rw[hb];trivial) G9 DN h1)
      |ar fz cc=>
       cases fz with
       |false=>exact GN (hf.inj id id' b ob o' (by show B0 (Ac s.hp m id);rw[hb];trivial) G9 DN h1)
       |true=>
        rcases I1 with⟨h3,_⟩|⟨b2,o2,h3,_,_,h4⟩
        ·rw[DN] at h3;cases h3
        ·rw[DN] at h3;cases h3;exact h4 rfl (.inl ⟨id',o',G9,h1⟩)
      |mv=>exact hmv rfl
     have hAoF:∀b,b<w.heap.size->B1 (Al Br (bs++bs')) β1 Y b->B1 (Ac s.hp m) β Y b:=by
      intro b D7 hA;rcases hA with⟨i,ob,hl,hβi⟩|hY
      ·rcases Fe i with⟨bx1,Yf⟩|e1
       ·obtain⟨j,hj,_⟩:=Qw i bx1 Yf;rw[hj] at hβi;obtain⟨id',o',h1,h2⟩:=Agw b ((out.fresh j b ob hβi).2 D7).1;exact .inl ⟨id',o',by rw[Z4 id' (.inr h1)];exact Rg id' (.inr h1),h2⟩
       ·rw[e1] at hl;cases hq:Br i with
        |none=>rw[hq] at hl;exact hl.elim
        |some bx1=>
         rw[hq] at hl;rw[hβold i (by rw[hq];simp)] at hβi
         obtain⟨h1,h2,h3⟩:=hold i bx1 hq hl;rcases h3 with h3|⟨h3,h4⟩
         ·exact .inl ⟨i,ob,by rw[Z4 i (.inl h3)];exact h1,hβi⟩
         ·exact .inl ⟨i,ob,by rw[h4];exact hl,hβi⟩
      ·exact .inr hY
     have Ak4:Bd (B1 (Ac s.hp m) β Y) w w':=out.ext.weaken (fun b _ hB=>by
      obtain⟨id',o',h1,h2⟩:=btX hB;exact .inl ⟨id',o',by rw[Z4 id' h2];exact Rg id' h2,h1⟩)
     cases bx with
     |st cc=>
      obtain⟨b,ob,h1,h2,h3⟩:=I1;obtain⟨Bl,Sk⟩:=VN b ob h1 (by simp)
      refine⟨b,ob,hβ.trans h1,fun j p hj=>?_,fun j hj=>?_⟩
      ·obtain⟨v,hv,DG⟩:=h2 j p hj;refine⟨v,by rw[World.cell?_of_block (w:=w) Sk];exact hv,DG.step Ak4 hAoF fun i hi=>?_⟩
       refine Abe i (fun e1=>?_)
       exact hf.wfB id cc hb p (List.mem_of_getElem? hj) i hi (Cq.2 e1)
      ·rw[World.frozen?_of_block (w:=w) Sk];exact h3 j hj
     |ar fz cc=>
      rcases I1 with⟨h1,h2⟩|⟨b,ob,h1,h2,h3,h4⟩
      ·exact .inl ⟨hβ.trans h1,h2⟩
      ·obtain⟨Bl,Sk⟩:=VN b ob h1 (by simp)
       have Yb:bsz w' b=bsz w b:=by unfold bsz;rw[Sk]
       refine .inr ⟨b,ob,hβ.trans h1,fun j p hj=>?_,fun e1 j hj Kk=>?_,fun e1 q=>h4 e1 (hAoF b Bl q)⟩
       ·obtain⟨v,hv,h5,AL⟩:=h2 j p hj;exact⟨v,by rw[World.cell?_of_block (w:=w) (by rw[Ec];exact Sk)];exact hv,h5,AL.step Ak4 hAoF⟩
       ·rw[World.frozen?_of_block (w:=w) Sk];exact h3 e1 j hj (by rw[←Yb];exact Kk)
     |mv=>trivial
 ·intro id id' b ob ob' hl G9 hb Fs;simp only at hl G9
  have mixed:∀i bx i' k z,(i,bx)∈bs++bs'->β1 i=some (k,z)->Br i'≠none->B0 (Br i')->∀z',β1 i'=some (k,z')->False:=by
   intro i bx i' k z Yf hz FH Xp z' QO;obtain⟨j,hj,_⟩:=Qw i bx Yf;rw[hj] at hz;rw[hβold i' FH] at QO;cases hq:Br i' with
   |none=>exact FH hq
   |some bx1=>
    rw[hq] at Xp;obtain⟨h1,h2,h3⟩:=hold i' bx1 hq Xp;have Bl:=h.blt i' k z' (Bw h1) QO;obtain⟨id2,o2,h4,h5⟩:=Agw k ((out.fresh j k z hz).2 Bl).1;have:=h.inj i' id2 k z' o2 h1 (Rg id2 (.inr h4)) QO h5;subst this;exact h2 h4
  rcases Fe id with⟨bx,Yf⟩|e1
  ·rcases Fe id' with⟨bx',hm2⟩|e2
   ·obtain⟨j,hj,Vo⟩:=Qw id bx Yf;obtain⟨j',Kk,Aki⟩:=Qw id' bx' hm2;rw[hj] at hb;rw[Kk] at Fs;have:=out.inj j j' b ob ob' hb Fs;subst this;rcases Vo with⟨h1,h2⟩|⟨h1,h2⟩
    ·rcases Aki with⟨h3,_⟩|⟨_,h4⟩
     ·rw[h1,h3]
     ·omega
    ·rcases Aki with⟨_,h4⟩|⟨h3,_⟩
     ·omega
     ·exact Vz _ h1 _ h3 rfl
   ·rw[e2] at G9;exact (mixed id bx id' b ob Yf hb (Bw G9) G9 ob' Fs).elim
  ·rw[e1] at hl;rcases Fe id' with⟨bx',hm2⟩|e2
   ·exact (mixed id' bx' id b ob' hm2 Fs (Bw hl) hl ob hb).elim
   ·rw[e2] at G9
    have g:∀i,B0 (Br i)->B0 (s.hp i)∧β1 i=β i:=by
     intro i hli;cases hq:Br i with
     |none=>rw[hq] at hli;exact hli.elim
     |some bx1=>exact⟨(hold i bx1 hq (by rw[←hq];exact hli)).1,hβold i (by rw[hq];simp)⟩
    rw[(g id hl).2] at hb;rw[(g id' G9).2] at Fs;exact h.inj id id' b ob ob' (g id hl).1 (g id' G9).1 hb Fs
 ·intro id b ob FH hb;simp only at FH;rcases Fe id with⟨bx,Yf⟩|e1
  ·obtain⟨j,hj,_⟩:=Qw id bx Yf;rw[hj] at hb;exact (out.fresh j b ob hb).1
  ·rw[e1] at FH;rw[hβold id FH] at hb
   have XV:s.hp id≠none:=by
    by_cases Ay:id∈lids
    ·exact Bw (Rg id (.inl Ay))
    ·rw[hpK id Ay,Eb] at FH;intro e2;have h1:Ac s.hp m id=none:=Cq.2 e2;rw[h1] at FH;split at FH<;>exact FH rfl
   exact Nat.lt_of_lt_of_le (h.blt id b ob XV hb) out.ext.size
 ·have:=K7 (Q:=fun _ p _=>∀id∈A8 p,Al Br (bs++bs') id≠none) (val:=F8 us) (d:=o.dst) (v:=J6 ws (Kx P o.type)) h.tsz PF (fun i hi id Ay=>Abh id (.inl (h.wfT i hi id Ay))) (fun _ id Ay=>Abh id (.inr (by
   obtain⟨bx,hb⟩:=hvr id Ay;exact⟨bx,List.mem_append.2 (.inl hb)⟩)))
  exact this
 ·intro id cells BS p hp i hi;simp only at BS;refine Abh i ?_;rcases Fe id with⟨bx,Yf⟩|e1
  ·rw[XK id bx Yf] at BS;cases BS;rcases List.mem_append.1 Yf with Yf|Yf
   ·obtain⟨bx1,hb⟩:=JN id cells Yf p hp i hi;exact .inr ⟨bx1,List.mem_append.2 (.inl hb)⟩
   ·obtain⟨cc,e2⟩:=D7 id _ Yf;cases e2
  ·rw[e1] at BS;by_cases Ay:id∈lids
   ·rcases ZK id Ay with⟨off,c1,cs,h1,h2,h3,h4⟩|⟨c1,cs,h1,h2⟩
    ·rw[h2] at BS;cases BS;unfold A4 at hp;rcases List.mem_append.1 hp with hp|hp
     ·rcases List.mem_append.1 hp with hp|hp
      ·exact .inl (h.wfB id c1 h1 p (List.mem_of_mem_take hp) i hi)
      ·obtain⟨bx1,hb⟩:=h4 p hp i hi;exact .inr ⟨bx1,List.mem_append.2 (.inr hb)⟩
     ·exact .inl (h.wfB id c1 h1 p (List.mem_of_mem_drop hp) i hi)
    ·rw[h2] at BS;cases BS
   ·obtain⟨_,_,h3⟩:=hold id _ BS trivial;rcases h3 with h3|⟨_,h3⟩
    ·exact absurd h3 Ay
    ·exact .inl (h.wfB id cells (Gp h3 trivial) p hp i hi)
 ·rintro b ⟨id,ob,hl,hβ⟩
  rcases Nat.lt_or_ge b w.heap.size with Bl|RL
  ·exact h.ownd b (hX b Bl ⟨id,ob,hl,hβ⟩)
  ·exact .inr (Nat.le_trans h.fr.step.size RL)
 ·intro id bx b ob hb hl hβ Bl j hj;simp only at hb;have hlw:=Nat.lt_of_lt_of_le Bl h.fr.step.size;rcases Fe id with⟨bx',Yf⟩|e1
  ·rw[XK id bx' Yf] at hb;cases hb;obtain⟨k,hk,_⟩:=Qw id bx Yf;rw[hk] at hβ
   have Sv:ob<=j:=by
    cases bx with
    |st cc=>exact hj.1
    |ar fz cc=>exact hj
    |mv=>exact hl.elim
   obtain⟨id2,o2,bx2,h1,h2,h3,h4⟩:=hCL b j (((out.fresh k b ob hβ).2 hlw).2 j Sv);exact h.rngB id2 bx2 b o2 h1 h2 h3 Bl j h4
  ·rw[e1] at hb;rw[hβold id (by rw[hb];simp)] at hβ
   obtain⟨h1,h2,h3⟩:=hold id bx hb hl;rcases h3 with h3|⟨h3,h4⟩
   ·rcases ZK id h3 with⟨off,c1,cs,h5,h6,h7,_⟩|⟨c1,cs,h5,h6⟩
    ·rw[h6] at hb;cases hb;have hj:ob<=j∧j<ob+(A4 c1 cs off).length:=hj;rw[Mo (by omega)] at hj
     exact h.rngB id _ b ob h5 trivial hβ Bl j hj
    ·rw[h6] at hb;cases hb;exact h.rngB id _ b ob h5 trivial hβ Bl j hj
   ·exact h.rngB id bx b ob (Gp h4 hl) hl hβ Bl j hj
 ·intro i hi;obtain⟨h1,h2⟩:=h.pin i hi;exact⟨Abh _ (.inl h1),by rw[Abe _ h1];exact h2⟩
 ·intro id cc b ob hb hβ Bl;simp only at hb;have hlw:=Nat.lt_of_lt_of_le Bl h.fr.step.size;rcases Fe id with⟨bx',Yf⟩|e1
  ·rw[XK id bx' Yf] at hb;cases hb;have:=(Acv id _ Yf).2.2 cc rfl b ob hβ;omega
  ·rw[e1] at hb;rw[hβold id (by rw[hb];simp)] at hβ
   obtain⟨h1,h2,h3⟩:=hold id _ hb trivial;rcases h3 with h3|⟨h3,h4⟩
   ·rcases ZK id h3 with⟨off,c1,cs,h5,h6,h7,_⟩|⟨c1,cs,h5,h6⟩
    ·exact h.stp id c1 b ob h5 hβ Bl
    ·rw[h6] at hb;cases hb
   ·exact h.stp id cc b ob (Gp h4 trivial) hβ Bl
 ·intro b hY hXb;exact h.Yx b hY (hX b (Nat.lt_of_lt_of_le (h.Ylt b hY) h.fr.step.size) hXb)
 ·refine⟨out.os.trans h.fr.os,out.tape.trans h.fr.tape,out.output.trans h.fr.output,⟨Nat.le_trans h.fr.step.size out.ext.size,fun b hb hnX=>?_,fun b hb=>(h.fr.step.bs b hb).trans (out.ext.bs b (Nat.lt_of_lt_of_le hb h.fr.step.size))⟩,fun b j hb TE=>?_⟩
  ·rw[out.ext.keep b (Nat.lt_of_lt_of_le hb h.fr.step.size) ?_]
   ·exact h.fr.step.keep b hb hnX
   ·intro hB;rcases h.ownd b (hBA b hB) with hq|hq
    ·exact hnX hq
    ·omega
  ·have GN:¬AG bt vs b j:=by
    intro hq;obtain⟨id2,o2,bx2,h1,h2,h3,h4⟩:=hCL b j hq;exact TE (h.rngB id2 bx2 b o2 h1 h2 h3 hb j h4)
   obtain⟨h1,h2⟩:=out.rng b j (Nat.lt_of_lt_of_le hb h.fr.step.size) GN;rw[h1,h2];exact h.fr.rng b j hb TE
end
open Go.RowKit
section
variable {R:Type} {r:R} {P:Program} {N:Nat} {w0:World} {X0:Fw} {Y:Nat->Prop} {β β':Bt} {s:St} {a:Act} {w w':World} {o:Oper} {A:Nat->Prop}
theorem BL (h:Bs N w0 X0 Y β s a w){c:Call}(ho:o.op=.call c)(hc:c.callee=.builtin .append){d:Nat}(PF:o.dst=some d){b x:Operand}(Dh:c.args.toList=[b,x]) {t tx:TypeId}{ts:List TypeId}(Vg:c.argTypes.toList=t::tx::ts)
  {K:St->Option R} (hk:Kw P N s d t tx (Bb s.tm b) (Bb s.tm x) K=some r):
  ∃s',K s'=some r∧∀(next:Act->World->Prop) (Q:Exit->Act->World->Prop),(∀a' w' β',Bs N w0 X0 Y β' s' a' w'->next a' w')->o.wp P a w next Q:=by
 have V9:c.args = #[b,x]:=by
  have:c.args=([b,x]:List Operand).toArray:=by rw[←Dh]
  exact this
 have FY:c.argTypes=(t::tx::ts).toArray:=by rw[←Vg]
 have run:∀{v:Value} {w1:World},(Builtin.append_ (t::tx::ts).toArray o.type #[a.eval b,a.eval x]).run P w=.ok v w1->∀(next:Act->World->Prop) (Q:Exit->Act->World->Prop),next (a.put (some d) v) w1->o.wp P a w next Q:=by
  intro v w1 hr next Q hn;unfold Oper.wp execOp;rw[ho];simp only[resolve,hc,invoke,builtin,Sem.run_bind,Sem.run_pure,Result.andThen_ok,V9,FY];have:(#[b,x]:Array Operand).map a.eval = #[a.eval b,a.eval x]:=by simp
  rw[this,hr];show next (a.put o.dst v) w1;rw[PF];exact hn
 have hbv:=Bx h b;have DJ:=Df h b;unfold Kw at hk;split at hk
 ·rename_i e hu;obtain⟨OY,hk⟩:=Ag hk;obtain⟨i,z,hi,hz,Xs,Jl⟩:=Xb OY;cases hit:R1 P tx
  rotate_left
  ·rw[hit] at hk;simp only[cond_true] at hk
   obtain⟨ki,OT⟩:∃k,P.underlying tx=some (.int k):=by
    unfold R1 at hit;split at hit
    ·exact⟨_,by assumption⟩
    ·cases hit
   unfold Ol at hk;obtain⟨kx,n,hx,hk⟩:=B6 hk;obtain⟨zz,n',c',hk,hp⟩:=Dp hk;obtain⟨hb,hk⟩:=Ag hk;simp only[Bool.and_eq_true,decide_eq_true_eq] at hb;obtain⟨⟨⟨⟨⟨hzz,RR⟩,Q8⟩,HX⟩,WC⟩,DF⟩:=hb;have RR:d<N:=Nat.lt_of_succ_le (Nat.le_of_ble_eq_true RR);have Q8:s.hp d=none:=by simpa using Q8
   have JB:Ej N (some d)=true:=by simp[Ej,Nat.blt];omega
   have Nx:((P.info? e).map (·.bytes)).getD 0=i.bytes:=by rw[hi];rfl
   rw[Nx] at WC;rw[Jl] at hk;have B4:=Bk h hx;rcases En hp hbv with⟨Lm,_⟩|⟨_,_,_,Ws,_⟩|⟨_,_,_,Ws,_⟩
   ·refine⟨_,hk,fun next Q hn=>?_⟩
    by_cases XT:n=0
    ·subst XT;have hr:=S5 (P:=P) (w:=w) (t:=t) (tx:=tx) (ty:=o.type) (ts:=ts) (kx:=kx) hu OT hi;rw[←Lm,←B4] at hr;refine run hr next Q (hn _ _ (Bi β d none) ?_);rw[Lm];refine h.stepR (d:=some d) (nw:=[(d,.ar false [])]) (β':=Bi β d none) JB (by simp[A3,Q8]) ⟨rfl,rfl,rfl,Bd.refl _ _,fun j hj=>Ae _ _ (by rintro rfl;exact hj Q8),?_,?_,?_,?_,?_,.inl ⟨Ah _ _ _,rfl,rfl,none,rfl⟩,?_⟩
     ·intro j bx hm;simp at hm;rw[hm.2];trivial
     ·intro j bx hm;simp at hm;obtain⟨rfl,rfl⟩:=hm;exact .inl ⟨Ah _ _ _,rfl⟩
     ·intro j bx k q hm hq;simp at hm;obtain⟨rfl,rfl⟩:=hm;rw[Ah] at hq;cases hq
     ·intro j bx j' bx' k q q' hm Je _ _;simp at hm Je;rw[hm.1,Je.1]
     ·intro j cells hm;simp at hm
     ·intro j hj;simp[A8,Bh,Ak] at hj;subst hj;exact .inr ⟨.ar false [],by simp⟩
    ·have hr:=Vf (P:=P) (w:=w) (t:=t) (tx:=tx) (ty:=o.type) (ts:=ts) (kx:=kx) hu OT hi hz (n:=n) (by omega) WC DF
     rw[←Lm,←B4] at hr;refine run hr next Q (hn _ _ (Bi β d (some (w.heap.size,0))) ?_);have RL:n.toNat<=grownCap w n.toNat 0 e:=grownCap_ge w n.toNat 0 e;generalize P6:((if n.toNat*i.size=0 then #[] else Builtin.zeroCells z.cells n.toNat)++Builtin.zeroCells z.cells (grownCap w n.toNat 0 e-n.toNat))=cs
     have Qq:Dr w (w.drew.alloc (.cells cs e)) cs e:=
      ⟨rfl,rfl,rfl,fun k hk=>Below.heap_alloc w.drew _ k hk,by show (w.heap.push _).size=_;simp,(0,0),by show (w.heap.push _)[w.heap.size]?=_;simp,.inl rfl⟩
     have LA:cs.size=grownCap w n.toNat 0 e*i.size:=by
      rw[←P6];by_cases HU:n.toNat*i.size=0
      ·rw[if_pos HU]
       have KS:i.size=0:=by
        rcases Nat.mul_eq_zero.1 HU with h|h
        ·omega
        ·exact h
       simp[size_zeroCells,Xs,KS]
      ·rw[if_neg HU];simp only[Array.size_append,size_zeroCells,Xs,←Nat.add_mul]
       congr 1
       omega
     refine h.stepR (d:=some d) (nw:=[(d,.ar false [])]) JB (by simp[A3,Q8]) (Lr Qq Q8 trivial ?_ (fun cells hx=>by cases hx) ?_ (by intro j hj;simp[A8,Bh,Ak] at hj;exact .inr hj))
     ·refine .inr ⟨w.heap.size,0,Ah _ _ _,fun j p hj=>by simp at hj,fun _ j _ hj=>?_,(fun q=>by cases q)⟩
      rw[Qq.bsz] at hj;exact Qq.frozen hj
     ·refine .inr ⟨w.heap.size,0,0,grownCap w n.toNat 0 e,Ah _ _ _,rfl,.inl rfl,RL,?_,by rw[Qq.size];omega⟩
      exact⟨by rw[Qq.bsz,LA];omega,.inr (Hs w.drew _ e)⟩
   ·rw[Ws] at hzz;cases hzz
   ·rw[Ws] at hzz;cases hzz
  rw[hit] at hk;simp only[cond_false] at hk;have Nx:((P.info? e).map (·.bytes)).getD 0=i.bytes:=by rw[hi];rfl
  obtain⟨⟨dx,hdx,FO⟩,m,new,news,hk,hs⟩:=V3 h hk (by
   intro m new hk;split at hk
   ·split at hk
    ·obtain⟨hb,_⟩:=Ag hk;simp only[Bool.and_eq_true,decide_eq_true_eq] at hb;have he:=Nat.eq_of_beq_eq_true hb.1.1.1.1.1.1.1;rw[←he];exact hb.1.1.2
    ·cases hk
   ·obtain⟨zz,n',c',hk,_⟩:=Dp hk;obtain⟨hb,_⟩:=Ag hk;simp only[Bool.and_eq_true,decide_eq_true_eq] at hb;exact hb.1.1.2)
  rw[Jl] at hs;have XP:new.length=news.length:=hs.rep.len;split at hk
  ·rename_i id es off n eb;rw[eb] at hbv DJ;split at hk
   ·rename_i cc h0;obtain⟨hb,Dk⟩:=Ag hk;simp only[Bool.and_eq_true,decide_eq_true_eq] at hb;obtain⟨⟨⟨⟨⟨⟨⟨Rs,Lg⟩,RR⟩,Q8⟩,Ans⟩,MA⟩,WC⟩,DF⟩:=hb;have Rs:=Nat.eq_of_beq_eq_true Rs;have Lg:=Nat.eq_of_beq_eq_true Lg;have RR:d<N:=Nat.lt_of_succ_le (Nat.le_of_ble_eq_true RR);have Q8:s.hp d=none:=by simpa using Q8
    subst Lg;rw[Jl] at Rs;subst Rs;rw[Nx] at WC;have Un:news.length=m*i.size:=by omega
    have Axz:s.hp id≠none:=by rw[h0];simp
    have OX:=h.box id _ h0;refine⟨_,Dk,fun next Q hn=>?_⟩
    have grow:∀(ad:Option Addr) (cap:Nat) (olds:List Value),a.eval b=.slice ad n cap->Av (Ap w (B1 s.hp β Y)) (cc.take (n*i.size)) olds->(∀u∈olds,u.oneCell'=true)->olds.length=n*i.size ->
      ((ad=none∧olds=[])∨∃p,ad=some p∧olds.length=n*i.size∧∀(j:Nat) v,olds[j]?=some v->w.cell? (p.add j)=some v)->cap<n+m->o.wp P a w next Q:=by
     intro ad cap olds Lm holds h1 hol hold Ps;have hr:=append_grow_run (P:=P) (w:=w) (t:=t) (tx:=tx) (ty:=o.type) (ts:=ts) hu hdx FO hi hz hs hold Ps WC DF;rw[←Lm] at hr;refine run hr next Q (hn _ _ (Bi β d (some (w.heap.size,0))) ?_);have RL:n+m<=grownCap w (n+m) cap e:=grownCap_ge w (n+m) cap e
     have Qq:Dr w (w.drew.alloc (.cells (olds.toArray++news.toArray++Builtin.zeroCells z.cells (grownCap w (n+m) cap e-(n+m))) e)) (olds.toArray++news.toArray++Builtin.zeroCells z.cells (grownCap w (n+m) cap e-(n+m))) e:=
      ⟨rfl,rfl,rfl,fun k hk=>Below.heap_alloc w.drew _ k hk,by show (w.heap.push _).size=_;simp,(0,0),by show (w.heap.push _)[w.heap.size]?=_;simp,.inl rfl⟩
     have LA:(olds.toArray++news.toArray++Builtin.zeroCells z.cells (grownCap w (n+m) cap e-(n+m))).size=grownCap w (n+m) cap e*i.size:=by
      simp only[Array.size_append,List.size_toArray,size_zeroCells,Xs,hol,Un,←Nat.add_mul]
      congr 1
      omega
     have CG:∀k y,some (w.heap.size,0)=some (k,y)->w.heap.size<=k∨∃q,β id=some (k,q):=by
      intro k y hh;simp at hh;exact .inl (by omega)
     refine h.move h0 Q8 RR rfl rfl rfl (by rw[Qq.size];omega) (fun k hk _=>Qq.old k hk) Qq.step.bs (fun k y hh=>⟨by simp at hh;rw[Qq.size];omega,CG k y hh⟩) (fun k y hh Bl=>by simp at hh;omega)
      (fun k y _ Bl j _=>⟨World.cell?_of_block (w:=w) (Qq.old k Bl),World.frozen?_of_block (w:=w) (Qq.old k Bl)⟩) ?_ ?_ (by intro j hj;simpa [A8,Bh,Ak] using hj)
     ·refine .inr ⟨w.heap.size,0,Ah _ _ _,Xi Qq (JX h0 Q8 CG) holds hs.rep h1 hs.one,fun _ j _ hj=>?_,(fun q=>by cases q)⟩
      rw[Qq.bsz] at hj;exact Qq.frozen hj
     ·refine .inr ⟨w.heap.size,0,0,grownCap w (n+m) cap e,Ah _ _ _,rfl,.inl rfl,RL,?_,by rw[Qq.size];omega⟩
      exact⟨by rw[Qq.bsz,LA];omega,.inr (Hs w.drew _ e)⟩
    rcases hbv with⟨hβ,_,rfl,ad,Lm⟩|⟨bb,ob,y,cap,hβ,Lm,hy,MV,Ps,SY⟩
    ·rcases OX with⟨_,rfl⟩|⟨b',o',D7,_⟩
     ·by_cases XT:m=0
      ·subst XT;have hr:=Iz (P:=P) (w:=w) (t:=t) (tx:=tx) (ty:=o.type) (ts:=ts) (ad:=ad) hu hdx FO hi hs (List.eq_nil_of_length_eq_zero (by omega))
       rw[←Lm] at hr;have DR:new=[]:=List.eq_nil_of_length_eq_zero (by omega)
       subst DR;refine run hr next Q (hn _ _ (Bi β d none) ?_);rw[Lm];refine h.move h0 Q8 RR rfl rfl rfl (Nat.le_refl _) (fun _ _ _=>rfl) (fun _ _=>Gt.refl _ _) (fun k q hh=>by cases hh) (fun k q hh=>by cases hh) (fun _ _ _ _ _ _=>⟨rfl,rfl⟩) ?_ ?_ (by intro j hj;simpa [A8,Bh,Ak] using hj)
       ·exact .inl ⟨Ah _ _ _,by simp⟩
       ·exact .inl ⟨Ah _ _ _,rfl,rfl,ad,rfl⟩
      ·exact grow ad 0 [] Lm (by simp[Av]) (by simp) (by simp) (by cases ad with
        |none=>exact .inl ⟨rfl,rfl⟩
        |some p=>exact .inr ⟨p,rfl,by simp,fun j v hj=>by simp at hj⟩) (by omega)
     ·rw[hβ] at D7;cases D7
    ·rcases OX with⟨D7,_⟩|⟨b',o',D7,It,CY,_⟩
     ·rw[hβ] at D7;cases D7
     rw[hβ] at D7;simp at D7;obtain⟨rfl,rfl⟩:=D7;have hy:y=ob:=by rcases hy with hy|⟨_,hq⟩<;>omega
     subst hy;by_cases K9:n+m<=cap
     ·have Aj7:y+n*i.size+news.length<=bsz w bb:=by
       have h5:n*i.size+m*i.size<=cap*i.size:=by rw[←Nat.add_mul];exact Nat.mul_le_mul_right _ K9
       have:=Ps.1;omega
      have hcell:∀k,k<news.length->(w.cell? ⟨bb,y+n*i.size+k,none⟩).isSome=true:=fun k hk=>N6 (by omega)
      have hr:=append_room_run (P:=P) (w:=w) (t:=t) (tx:=tx) (ty:=o.type) (ts:=ts) (b:=bb) (ob:=y) (n:=n) (cap:=cap) hu hdx FO hi hs Un hcell (fun k hk=>CY rfl _ (by omega) (by omega)) K9
      rw[←Lm] at hr;have hw:=Be.setCells bb news (y+n*i.size) w
      have CG:∀k q,some (bb,y)=some (k,q)->w.heap.size<=k∨∃q',β id=some (k,q'):=by
       intro k q hh;simp at hh;obtain⟨rfl,rfl⟩:=hh;exact .inr ⟨_,hβ⟩
      refine run hr next Q (hn _ _ (Bi β d (some (bb,y))) ?_)
      have Kf:Bd (B1 s.hp β Y) w (w.setCells bb (y+n*i.size) news):=by
       have XN:B1 s.hp β Y bb:=.inl ⟨id,y,by rw[h0];trivial,hβ⟩
       exact⟨by rw[hw.size];exact Nat.le_refl _,fun k _ hk=>hw.other k (fun e=>hk (e ▸ XN)),fun k _=>hw.grow k⟩
      refine h.move h0 Q8 RR hw.os hw.tape hw.output (by rw[hw.size];exact Nat.le_refl _) (fun k _ hq=>hw.other k (by rintro rfl;exact hq _ hβ)) Kf.bs (fun k q hh=>⟨by simp at hh;rw[hw.size];omega,CG k q hh⟩) (fun k q hh _=>by rw[hβ];exact hh)
       (fun k q hh _ j hj=>by
        rw[hβ] at hh;cases hh;exact⟨World.cell?_setCells_out bb _ _ w ⟨bb,j,none⟩ (fun _ _=>by show j<y+n*i.size∨y+n*i.size+_<=j;omega),hw.frz j⟩) ?_ ?_ (by intro j hj;simpa [A8,Bh,Ak] using hj)
      ·refine .inr ⟨bb,y,Ah _ _ _,fun j p hj=>?_,fun _ j hj Kk=>?_,(fun q=>by cases q)⟩
       ·rw[Cf];by_cases hjn:j<n*i.size
        ·rw[List.getElem?_append_left (by rw[List.length_take];omega),List.getElem?_take_of_lt hjn] at hj
         obtain⟨u,Gs,h5,ht⟩:=It j p hj;rw[Cf] at Gs;refine⟨u,?_,h5,ht.step Kf (JX h0 Q8 CG)⟩;rw[World.cell?_setCells_out bb _ _ w ⟨bb,y+j,none⟩ (fun _ _=>by show y+j<y+n*i.size∨y+n*i.size+_<=y+j;omega)]
         exact Gs
        ·rw[List.getElem?_append_right (by rw[List.length_take];omega),List.length_take,Nat.min_eq_left Ans] at hj
         obtain⟨u,Gs,ht⟩:=hs.rep.get hj
         have Bl:j-n*i.size<news.length:=by
          rcases Nat.lt_or_ge (j-n*i.size) news.length with h|h
          ·exact h
          ·rw[List.getElem?_eq_none h] at Gs;cases Gs
         refine⟨u,?_,hs.one u (List.mem_of_getElem? Gs),ht.step Kf (JX h0 Q8 CG)⟩;have:=World.cell?_setCells_in bb news (y+n*i.size) w hcell (j-n*i.size) Bl;rw[show y+j=y+n*i.size+(j-n*i.size) from by omega,this]
         rw[List.getElem?_eq_getElem Bl] at Gs;exact Gs
       ·rw[hw.bs] at Kk;rw[hw.frz];exact CY rfl j hj Kk
      ·exact .inr ⟨bb,y,y,cap,Ah _ _ _,rfl,.inl rfl,K9,Ps.step (hw.grow bb),by rw[hw.size];exact SY⟩
     ·-- the old cells
      have hob:∀(j:Nat) p,(cc.take (n*i.size))[j]?=some p->∃v,w.cell? ⟨bb,y+j,none⟩=some v∧v.oneCell'=true∧Ap w (B1 s.hp β Y) p v:=by
       intro j p hj;rw[List.getElem?_take] at hj;split at hj
       ·obtain⟨v,hv,h5,ht⟩:=It j p hj;rw[Cf] at hv;exact⟨v,hv,h5,ht⟩
       ·cases hj
      have Dc:(cc.take (n*i.size)).length=n*i.size:=by rw[List.length_take];omega
      refine grow _ cap ((cc.take (n*i.size)).mapIdx fun j _=>(w.cell? ⟨bb,y+j,none⟩).getD undef) Lm ?_ ?_ (by simp only[List.length_mapIdx];exact Dc) (.inr ⟨_,rfl,by simp only[List.length_mapIdx];exact Dc,fun j v hj=>?_⟩) (by omega)
      ·refine Av.of_at (by simp) fun j p v hp hv=>?_
       obtain⟨u,Gs,_,ht⟩:=hob j p hp;rw[List.getElem?_mapIdx,hp,Option.map_some,Gs] at hv;simp at hv;subst hv;exact ht
      ·intro v hv;obtain⟨j,hj⟩:=List.mem_iff_getElem?.1 hv;rw[List.getElem?_mapIdx] at hj;cases hp:(cc.take (n*i.size))[j]? with
       |none=>rw[hp] at hj;cases hj
       |some p=>
        obtain⟨u,Gs,h5,_⟩:=hob j p hp;rw[hp,Option.map_some,Gs] at hj;simp at hj;subst hj;exact h5
      ·rw[List.getElem?_mapIdx] at hj;cases hp:(cc.take (n*i.size))[j]? with
       |none=>rw[hp] at hj;cases hj
       |some p=>
        obtain⟨u,Gs,h5,_⟩:=hob j p hp;rw[hp,Option.map_some,Gs] at hj;simp at hj;subst hj;rw[Cf];exact Gs
   ·cases hk
  ·obtain⟨zz,n',c',hk,hp⟩:=Dp hk;obtain⟨hb,hk⟩:=Ag hk;simp only[Bool.and_eq_true,decide_eq_true_eq] at hb;obtain⟨⟨⟨⟨⟨hzz,RR⟩,Q8⟩,MA⟩,WC⟩,DF⟩:=hb;have RR:d<N:=Nat.lt_of_succ_le (Nat.le_of_ble_eq_true RR);have Q8:s.hp d=none:=by simpa using Q8
   have JB:Ej N (some d)=true:=by simp[Ej,Nat.blt];omega
   rw[Jl] at MA hk;rw[Nx] at WC;have Un:news.length=m*i.size:=by omega
   rcases En hp hbv with⟨Lm,_⟩|⟨_,_,_,Ws,_⟩|⟨_,_,_,Ws,_⟩
   ·refine⟨_,hk,fun next Q hn=>?_⟩
    by_cases XT:m=0
    ·subst XT;have hr:=Iz (P:=P) (w:=w) (t:=t) (tx:=tx) (ty:=o.type) (ts:=ts) (ad:=none) hu hdx FO hi hs (List.eq_nil_of_length_eq_zero (by omega))
     rw[←Lm] at hr;have DR:new=[]:=List.eq_nil_of_length_eq_zero (by omega)
     subst DR;refine run hr next Q (hn _ _ (Bi β d none) ?_);rw[Lm];refine h.stepR (d:=some d) (nw:=[(d,.ar false [])]) (β':=Bi β d none) JB (by simp[A3,Q8]) ⟨rfl,rfl,rfl,Bd.refl _ _,fun j hj=>Ae _ _ (by rintro rfl;exact hj Q8),?_,?_,?_,?_,?_,.inl ⟨Ah _ _ _,rfl,rfl,none,rfl⟩,?_⟩
     ·intro j bx hm;simp at hm;rw[hm.2];trivial
     ·intro j bx hm;simp at hm;obtain⟨rfl,rfl⟩:=hm;exact .inl ⟨Ah _ _ _,rfl⟩
     ·intro j bx k q hm hq;simp at hm;obtain⟨rfl,rfl⟩:=hm;rw[Ah] at hq;cases hq
     ·intro j bx j' bx' k q q' hm Je _ _;simp at hm Je;rw[hm.1,Je.1]
     ·intro j cells hm;simp at hm
     ·intro j hj;simp[A8,Bh,Ak] at hj;subst hj;exact .inr ⟨.ar false [],by simp⟩
    ·have hr:=append_grow_run (P:=P) (w:=w) (t:=t) (tx:=tx) (ty:=o.type) (ts:=ts) (ad:=none) (n:=0) (cap:=0) (olds:=[]) hu hdx FO hi hz hs (.inl ⟨rfl,rfl⟩) (by omega) (by rw[Nat.zero_add];exact WC) (by omega)
     rw[←Lm] at hr;refine run hr next Q (hn _ _ (Bi β d (some (w.heap.size,0))) ?_);have RL:0+m<=grownCap w (0+m) 0 e:=grownCap_ge w (0+m) 0 e
     have Qq:Dr w (w.drew.alloc (.cells (([]:List Value).toArray++news.toArray++Builtin.zeroCells z.cells (grownCap w (0+m) 0 e-(0+m))) e)) (([]:List Value).toArray++news.toArray++Builtin.zeroCells z.cells (grownCap w (0+m) 0 e-(0+m))) e:=
      ⟨rfl,rfl,rfl,fun k hk=>Below.heap_alloc w.drew _ k hk,by show (w.heap.push _).size=_;simp,(0,0),by show (w.heap.push _)[w.heap.size]?=_;simp,.inl rfl⟩
     have LA:(([]:List Value).toArray++news.toArray++Builtin.zeroCells z.cells (grownCap w (0+m) 0 e-(0+m))).size=grownCap w (0+m) 0 e*i.size:=by
      simp only[Array.size_append,List.size_toArray,size_zeroCells,Xs,Un,List.length_nil,←Nat.add_mul];rw[Nat.zero_add (m*i.size),←Nat.add_mul]
      congr 1
      omega
     refine h.stepR (d:=some d) (nw:=[(d,.ar false new)]) JB (by simp[A3,Q8]) (Lr Qq Q8 trivial ?_ (fun cells hx=>by cases hx) ?_ (by intro j hj;simp[A8,Bh,Ak] at hj;exact .inr hj))
     ·refine .inr ⟨w.heap.size,0,Ah _ _ _,?_,fun _ j _ hj=>?_,(fun q=>by cases q)⟩
      ·exact Xi (pre:=[]) Qq (MH Q8) trivial hs.rep (by simp) hs.one
      ·rw[Qq.bsz] at hj;exact Qq.frozen hj
     ·refine .inr ⟨w.heap.size,0,0,grownCap w (0+m) 0 e,Ah _ _ _,by rw[Nat.zero_add],.inl rfl,by omega,?_,by rw[Qq.size];omega⟩
      exact⟨by rw[Qq.bsz,LA];omega,.inr (Hs w.drew _ e)⟩
   ·rw[Ws] at hzz;cases hzz
   ·rw[Ws] at hzz;cases hzz
 ·cases hk
theorem KF (h:Bs N w0 X0 Y β s a w){c:Call}(ho:o.op=.call c)(hc:c.callee=.builtin .copy){b x:Operand}(Dh:c.args.toList=[b,x]) {t tx:TypeId}{ts:List TypeId}(Vg:c.argTypes.toList=t::tx::ts)
  {K:St->Option R} (hk:AM P N s o.dst t tx (Bb s.tm b) (Bb s.tm x) K=some r):
  ∃s',K s'=some r∧∀(next:Act->World->Prop) (Q:Exit->Act->World->Prop),(∀a' w' β',Bs N w0 X0 Y β' s' a' w'->next a' w')->o.wp P a w next Q:=by
 have V9:c.args = #[b,x]:=by
  have:c.args=([b,x]:List Operand).toArray:=by rw[←Dh]
  exact this
 have FY:c.argTypes=(t::tx::ts).toArray:=by rw[←Vg]
 have run:∀{v:Value} {w1:World},(Builtin.copy_ (t::tx::ts).toArray o.type #[a.eval b,a.eval x]).run P w=.ok v w1->∀(next:Act->World->Prop) (Q:Exit->Act->World->Prop),next (a.put o.dst v) w1->o.wp P a w next Q:=by
  intro v w1 hr next Q hn;unfold Oper.wp execOp;rw[ho];simp only[resolve,hc,invoke,builtin,Sem.run_bind,Sem.run_pure,Result.andThen_ok,V9,FY];have:(#[b,x]:Array Operand).map a.eval = #[a.eval b,a.eval x]:=by simp
  rw[this,hr];exact hn
 have hbv:=Bx h b;unfold AM at hk;split at hk
 ·rename_i e hu;obtain⟨OY,hk⟩:=Ag hk;simp only[Bool.and_eq_true] at OY;obtain⟨Lb,JB⟩:=OY;obtain⟨i,hi⟩:∃i,P.info? e=some i:=Option.isSome_iff_exists.1 Lb;have Jl:As P e=i.size:=by unfold As;rw[hi];rfl
  have h1c:∀(m:Nat) (new:List PV),(match Bb s.tm b with
    |.view id es off n=>
     match s.hp id with
     |some (.ar false c)=>Ar (Nat.beq es (As P e)&&decide (off+n*es<=c.length)&&decide (new.length=m*es))
       (Ab (min m n) fun k=>Ab (A4 c (new.take (k*es)) off) fun c=>K ⟨A1 s.tm o.dst (.sc (.int .i64 k)),Bi s.hp id (some (.ar false c))⟩)
     |_=>none
    |_=>none)=some r->new.length=m*As P e:=by
   intro m new hk;split at hk
   ·split at hk
    ·obtain⟨hb,_⟩:=Ag hk;simp only[Bool.and_eq_true,decide_eq_true_eq] at hb;rw[←Nat.eq_of_beq_eq_true hb.1.1];exact hb.2
    ·cases hk
   ·cases hk
  obtain⟨_,m,new,news,hk,hs⟩:=V3 h hk h1c;split at hk
  ·rename_i id es off n hb;rw[hb] at hbv;split at hk
   ·rename_i cc h0;obtain⟨hb,hk⟩:=Ag hk;simp only[Bool.and_eq_true,decide_eq_true_eq] at hb;obtain⟨⟨Rs,Sv⟩,XP⟩:=hb;have Rs:=Nat.eq_of_beq_eq_true Rs;subst Rs;rw[Jl] at hk hs Sv XP hbv;have Un:news.length=m*i.size:=by rw[←hs.rep.len];exact XP
    have YZ:min m n*i.size<=m*i.size:=Nat.mul_le_mul_right _ (Nat.min_le_left _ _);have hkn:min m n*i.size<=n*i.size:=Nat.mul_le_mul_right _ (Nat.min_le_right _ _);have Fc:K ⟨A1 s.tm o.dst (.sc (.int .i64 ((min m n:Nat):Int))),Bi s.hp id (some (.ar false (A4 cc (new.take (min m n*i.size)) off)))⟩=some r:=hk;refine⟨_,Fc,fun next Q hn=>?_⟩
    have ZI:∀{β':Bt} {Br:Nat->Option A2} {w':World},Bs N w0 X0 Y β' ⟨s.tm,Br⟩ a w'->Bs N w0 X0 Y β' ⟨A1 s.tm o.dst (.sc (.int .i64 ((min m n:Nat):Int))),Br⟩ (a.put o.dst (goInt ((min m n:Nat):Int))) w':=
     fun hh=>hh.put JB (Ap.sc _) (fun _ hx=>by cases hx)
    have SJ:new.take (min m n*i.size)=[]->Bi s.hp id (some (.ar false (A4 cc (new.take (min m n*i.size)) off)))=s.hp:=by
     intro e;rw[e];refine R0 _ ?_;rw[h0];simp[A4]
    have nothing:min m n*i.size=0->∀(ad:Option Addr) (cap:Nat),a.eval b=.slice ad n cap->o.wp P a w next Q:=by
     intro e ad cap Lm;have hr:=HG (P:=P) (w:=w) (w1:=w) (t:=t) (ty:=o.type) (ts:=tx::ts) (ad:=ad) (n:=n) (cap:=cap) hu hi hs (by rw[e];cases ad<;>simp[storeCells])
     rw[←Lm] at hr;refine run hr next Q (hn _ _ β (ZI ?_));rw[SJ (by rw[e,List.take_zero])]
     exact h
    rcases hbv with⟨hβ,_,rfl,ad,Lm⟩|⟨bb,ob,y,cap,hβ,Lm,hy,MV,Ps,SY⟩
    ·exact nothing (by simp) ad 0 Lm
    ·by_cases XT:min m n*i.size=0
     ·exact nothing XT _ _ Lm
     rcases h.box id _ h0 with⟨D7,_⟩|⟨b',o',D7,It,CY,_⟩
     ·rw[hβ] at D7;cases D7
     rw[hβ] at D7;simp at D7;obtain⟨rfl,rfl⟩:=D7;have HX:n≠0:=by rintro rfl;simp at XT
     have hy:y=ob+off:=by rcases hy with hy|⟨hq,_⟩<;>first|exact absurd hq HX|exact hy
     subst hy;have Bl:(news.take (min m n*i.size)).length=min m n*i.size:=by rw[List.length_take,Un];omega
     have hcell:∀k,k<(news.take (min m n*i.size)).length->(w.cell? ⟨bb,ob+off+k,none⟩).isSome=true:=by
      intro k hk;obtain⟨v,hv,_⟩:=It (off+k) _ (List.getElem?_eq_getElem (by omega))
      rw[Cf] at hv;rw[Nat.add_assoc,hv];rfl
     have XZ:∀k,k<(news.take (min m n*i.size)).length->w.frozen? ⟨bb,ob+off+k,none⟩=false:=fun k hk=>by
      obtain⟨u,hu⟩:=Option.isSome_iff_exists.1 (hcell k hk);exact CY rfl _ (by omega) (Rv hu)
     have h1:∀u∈news.take (min m n*i.size),u.oneCell'=true:=fun u hu=>hs.one u (List.mem_of_mem_take hu)
     have h3:=run_storeCells_cells (P:=P) bb (ob+off) (news.take (min m n*i.size)) 0 w (fun k hk=>by simpa using hcell k hk) (fun k hk=>by simpa using XZ k hk) h1
     have hr:=HG (P:=P) (w:=w) (t:=t) (ty:=o.type) (ts:=tx::ts) (ad:=some ⟨bb,ob+off,none⟩) (n:=n) (cap:=cap) hu hi hs h3;rw[←Lm] at hr;simp only[Nat.add_zero] at hr;refine run hr next Q (hn _ _ β (ZI ?_))
     refine h.write h0 trivial trivial hβ (Be.setCells bb _ _ w) ?_ (fun cells hx=>by cases hx) (fun _ hx=>by cases hx) (fun j hj=>hj) (fun j hj=>by
      refine World.cell?_setCells_out bb _ _ w ⟨bb,j,none⟩ (fun _ _=>?_)
      have hj:¬(ob<=j):=hj;show j<ob+off∨ob+off+_<=j;omega)
     have Kf:Bd (B1 s.hp β Y) w (w.setCells bb (ob+off) (news.take (min m n*i.size))):=by
      have hw:=Be.setCells bb (news.take (min m n*i.size)) (ob+off) w;have XN:B1 s.hp β Y bb:=.inl ⟨id,ob,by rw[h0];trivial,hβ⟩
      exact⟨by rw[hw.size];exact Nat.le_refl _,fun k _ hk=>hw.other k (fun e=>hk (e ▸ XN)),fun k _=>hw.grow k⟩
     have hll:(new.take (min m n*i.size)).length=min m n*i.size:=by rw[List.length_take,XP];omega
     refine .inr ⟨bb,ob,hβ,fun j p hj=>?_,fun _ j hj Kk=>?_,(fun x=>by cases x)⟩
     ·rw[Cf];rcases Mq (by omega) hj with⟨h3,h4,h5⟩|⟨h3,h5⟩
      ·have Al3:j-off<min m n*i.size:=by omega
       rw[List.getElem?_take_of_lt Al3] at h5;obtain⟨u,hu,hcu⟩:=hs.rep.get h5;have SC:j-off<(news.take (min m n*i.size)).length:=by omega
       refine⟨u,?_,hs.one u (List.mem_of_getElem? hu),hcu.step Kf (fun _ _ x=>x)⟩
       have:=World.cell?_setCells_in bb (news.take (min m n*i.size)) (ob+off) w hcell (j-off) SC;rw[show ob+j=ob+off+(j-off) from by omega,this]
       rw[←List.getElem?_eq_getElem SC,List.getElem?_take_of_lt Al3];exact hu
      ·obtain⟨v,hv,h6,Ul⟩:=It j p h5;rw[Cf] at hv;refine⟨v,?_,h6,Ul.step Kf (fun _ _ x=>x)⟩
       rw[World.cell?_setCells_out bb _ _ w ⟨bb,ob+j,none⟩ (fun _ _=>by show ob+j<ob+off∨ob+off+_<=ob+j;omega)]
       exact hv
     ·rw[(Be.setCells bb _ _ w).bs] at Kk;rw[(Be.setCells bb _ _ w).frz];exact CY rfl j hj Kk
   ·cases hk
  ·cases hk
 ·cases hk
theorem LC (h:Bs N w0 X0 Y β s a w){G:Glo}(H9:ET P G w0 X0){C:Fd}{call:Aj}(Cr:∀f args res,call f args=some res->Dl G P f args res){K:St->Option R}(hk:Pr C P N call s o K=some r):
  ∃s',K s'=some r∧∀(next:Act->World->Prop) (Q:Exit->Act->World->Prop),(∀a' w' β',Bs N w0 X0 Y β' s' a' w'->next a' w')->o.wp P a w next Q:=by
 unfold Pr at hk;split at hk
 ·rename_i t x y ho;obtain⟨hd,hk⟩:=Ag hk;exact GT h ho (by simpa using hd) hk
 ·rename_i c ho;split at hk
  ·rename_i hc;obtain⟨d,hd,Cv⟩:=Bp hk;obtain⟨b,xs,X4,Dk⟩:=Aq Cv;obtain⟨x,ys,hys,Mk⟩:=Aq Dk;obtain⟨Tc,V8⟩:=Cb Mk;obtain⟨t,us,RK,YB⟩:=Aq V8;obtain⟨tx,vs,G8,hk6⟩:=Aq YB;rw[hys,Tc] at X4;rw[G8] at RK;exact BL h ho hc hd X4 RK hk6
  ·rename_i hc;obtain⟨b,xs,X4,Dk⟩:=Aq hk;obtain⟨x,ys,hys,Mk⟩:=Aq Dk;obtain⟨Tc,V8⟩:=Cb Mk;obtain⟨t,us,RK,YB⟩:=Aq V8;obtain⟨tx,vs,G8,hk6⟩:=Aq YB;rw[hys,Tc] at X4;rw[G8] at RK;exact KF h ho hc X4 RK hk6
  ·rename_i f hc;exact FX h H9 Cr ho hc hk
  ·cases hk
 ·cases hk
theorem JL (h:Bs N w0 X0 Y β s a w){G:Glo}(H9:ET P G w0 X0){C:Fd}{call:Aj}(Cr:∀f args res,call f args=some res->Dl G P f args res){K:St->Option R}(hk:ES C P N call o s K=some r):
  ∃s',K s'=some r∧∀(next:Act->World->Prop) (Q:Exit->Act->World->Prop),(∀a' w' β',Bs N w0 X0 Y β' s' a' w'->next a' w')->o.wp P a w next Q:=by
 unfold ES at hk;cases hm:Mn C P o.op
 ·rw[hm] at hk;exact KY h H9 Cr hk
 ·rw[hm] at hk;exact LC h H9 Cr hk
end
end
end Go.Proofs.Yteicjnihnacadaa.Pv
