/-
  The proof of AccountShape, part 2.
-/
import Derived.Test.YtcgfahlefkfghaaSA
import Derived.Laws.Append
import Derived.IntWalk
import Derived.Laws.AppendOwn
import Derived.Laws.IdiomCopy
set_option linter.unusedSimpArgs false
set_option linter.unusedVariables false
namespace Go.Proofs.Ytcgfahlefkfghaa.Pv
section
open Go.RowKit
def E3 (w:World)(A:Nat->Prop)(own:Option (Nat × Nat)) (p:PV)(u:Value):Prop:=
 match p with
 |.own es n c=>(own=none∧n=0∧c=[]∧∃ad,u=.slice ad 0 0) ∨
   ∃b o cap,own=some (b,o)∧u=.slice (some ⟨b,o,none⟩) n cap∧n<=cap∧Fit w es b (o+cap*es)∧b<w.heap.size∧Se w A ⟨b,o,none⟩ c∧∀j,o<=j->j<bsz w b->w.frozen? ⟨b,j,none⟩=false
 |p=>An w A p u
def Dx (w:World)(A:Nat->Prop)(own:Bt):Nat->List PV->List Value->Prop
 |_,[],[]=>True
 |j,p::ps,u::us=>E3 w A (own j) p u∧Dx w A own (j+1) ps us
 |_,_,_=>False
def Afd (w:World)(A:Nat->Prop)(own:Bt)(j b o:Nat)(cs:List PV):Prop:=
 ∃vs,Dx w A own j cs vs∧(∀(k:Nat) v,vs[k]?=some v->w.cell? ⟨b,o+k,none⟩=some v)∧∀k,k<cs.length->w.frozen? ⟨b,o+k,none⟩=false
def Adf (w:World)(A:Nat->Prop)(own:Bt)(z j:Nat)(p:PV)(u:Value):Prop:=
 match p with
 |.agg cs=>∃vs,u=.agg ⟨vs⟩∧Dx w A own j cs vs
 |.pbox cs=>∃b o,own j=some (b,o)∧z<=b∧u=.pointer (some ⟨b,o,none⟩)∧Afd w A own (j+1) b o cs
 |p=>E3 w A (own j) p u
def ST:PV->Nat
 |.pbox cs=>1+cs.length
 |p=>(cellsOf p).length
def JY (w:World)(A:Nat->Prop)(own:Bt)(z:Nat):Nat->List PV->List Value->Prop
 |_,[],[]=>True
 |j,p::ps,u::us=>Adf w A own z j p u∧JY w A own z (j+ST p) ps us
 |_,_,_=>False
abbrev Th:=Nat->Nat->Option (Nat × Nat)
def VS (bt:Th)(b:Nat):Prop:=∃i j o,bt i j=some (b,o)
def isA (p:PV):Prop:=Ku p∨∃es n c,p=.own es n c
def S8 (p:PV):Bool:=
 match p with
 |.pbox _=>true
 |.tup _=>true
 |_=>false
theorem Ac1 {p:PV}(h:isA p):S8 p=false:=by
 rcases h with h|⟨_,_,_,rfl⟩
 ·cases p<;>first|rfl|exact h.elim
 ·rfl
def AD (w:World)(A:Nat->Prop)(bt:Bt)(p:PV)(u:Value):Prop:=
 match p with
 |.pbox ps=>∃b o,bt 0=some (b,o)∧u=.pointer (some ⟨b,o,none⟩)∧(∀p∈ps,isA p)∧Afd w A bt 1 b o ps
 |.tup ps=>∃es n c,ps=[.own es n c]∧E3 w A (bt 0) (.own es n c) u
 |.agg cs=>∃vs,u=.agg ⟨vs⟩∧(∀p∈cs,isA p)∧Dx w A bt 1 cs vs
 |p=>isA p∧E3 w A (bt 1) p u
def I0 (w:World)(A:Nat->Prop)(bt:Th):Nat->List PV->List Value->Prop
 |_,[],[]=>True
 |i,p::ps,u::us=>AD w A (bt i) p u∧I0 w A bt (i+1) ps us
 |_,_,_=>False
def Aio (bt:Bt)(p:PV)(b j:Nat):Prop:=
 (∃k o,bt (k+1)=some (b,o)∧o<=j)∨∃o ps,bt 0=some (b,o)∧o<=j∧((p=.pbox ps∧j<o+ps.length)∨p=.tup ps)
def Yh (bt:Th)(args:List PV)(b j:Nat):Prop:=∃i p,args[i]?=some p∧Aio (bt i) p b j
def F1 (w:World)(A:Nat->Prop)(own:Bt)(bt:Th):Nat->Nat->List PV->List (List PV)->Prop
 |_,_,[],r=>r=[]
 |j,i,p::zs,r=>
  match p with
  |.pbox ps=>
   match r with
   |[]=>False
   |cs::r=>(∃b o,bt i 0=some (b,o)∧cs.length=ps.length∧Afd w A own j b o cs)∧F1 w A own bt (j+cs.length) (i+1) zs r
  |.tup _=>
   match r with
   |[]=>False
   |cs::r=>((bt i 0=none∧cs=[])∨∃b o,bt i 0=some (b,o)∧Se w A ⟨b,o,none⟩ cs∧∀k,o<=k->k<bsz w b->w.frozen? ⟨b,k,none⟩=false)∧F1 w A own bt j (i+1) zs r
  |_=>F1 w A own bt j (i+1) zs r
def Ky (bt:Th)(own:Bt)(Y:Nat->Prop)(b:Nat):Prop:=(∃j o,own j=some (b,o))∨(∃i o,bt i 0=some (b,o))∨Y b
def He (vals:List PV):Nat:=(vals.map ST).sum
structure QN (w w':World) (Y:Nat->Prop) (bt:Th) (args:List PV) (own:Bt) (r:Bb) (vs:List Value):Prop where
 os:w'.os=w.os
 tape:w'.tape=w.tape
 output:w'.output=w.output
 ext:Bh (VS bt) w w'
 rng:∀b j,b<w.heap.size->¬Yh bt args b j->w'.cell? ⟨b,j,none⟩=w.cell? ⟨b,j,none⟩∧w'.frozen? ⟨b,j,none⟩=w.frozen? ⟨b,j,none⟩
 vals:JY w' (Ky bt own Y) own w.heap.size 0 r.vals vs
 outs:F1 w' (Ky bt own Y) own bt (He r.vals) 0 args r.outs
 fresh:∀j b o,own j=some (b,o)->b<w'.heap.size∧(b<w.heap.size->(∃i k o',bt i (k+1)=some (b,o'))∧∀x,o<=x->Yh bt args b x)
 inj:∀j j' b o o',own j=some (b,o)->own j'=some (b,o')->j=j'
def Dy (us:List Value):Value:=match us with|[u]=>u|us=>.tuple ⟨us⟩
def Id (w:World)(Y:Nat->Prop)(p:PV)(u:Value):Prop:=
 match p with
 |.agg cs=>∃vs,u=.agg ⟨vs⟩∧Av (fun c v=>Ku c∧An w Y c v) cs vs
 |p=>Ku p∧An w Y p u
structure Ins (w:World) (Y:Nat->Prop) (bt:Th) (args:List PV) (us:List Value):Prop where
 Ylt:∀b,Y b->b<w.heap.size
 Yx:∀b,Y b->¬VS bt b
 lt:∀b,VS bt b->b<w.heap.size
 inj:∀i j i' j' b o o',bt i j=some (b,o)->bt i' j'=some (b,o')->i=i'∧j=j'
 l0:∀i q,bt i 0=some q->∃p,args[i]?=some p∧S8 p=true
 args:I0 w (fun b=>VS bt b∨Y b) bt 0 args us
structure Glo where
 bl:Nat->Prop
 ok:World->Prop
 stable:∀w w':World,(∀b,bl b->b<w.heap.size->w'.heap[b]?=w.heap[b]?)->ok w->ok w'
def C1 (G:Glo)(P:Program)(f:FuncId)(args:List PV)(r:Bb):Prop:=
 (∃fn,P.funcs[f]?=some fn∧fn.body.isSome=true)∧∀(w:World)(Y:Nat->Prop)(bt:Th)(us:List Value),Ins w Y bt args us->G.ok w->(∀b,G.bl b->b<w.heap.size∧¬VS bt b) ->
  Calls P f us.toArray w fun e w'=>∃vs own,e=.returned (Dy vs)∧QN w w' Y bt args own r vs
def K0:Th:=fun _ _=>none
theorem Tf (b:Nat):¬VS K0 b:=by rintro⟨_,_,_,h⟩;cases h
theorem H7 {w:World}{A:Nat->Prop}{q:Option (Nat × Nat)} {p:PV}{u:Value}(hp:Ku p)(h:An w A p u):E3 w A q p u:=by
 cases p<;>first|exact h|exact hp.elim
theorem V4 {w:World}{A:Nat->Prop}{own:Bt}:∀{cs:List PV}{vs:List Value}{j:Nat},Av (fun c v=>Ku c∧An w A c v) cs vs->Dx w A own j cs vs
 |[],[],_,_=>trivial
 |_::_,_::_,_,h=>⟨H7 h.1.1 h.1.2,V4 h.2⟩
 |[],_::_,_,h=>h.elim
 |_::_,[],_,h=>h.elim
theorem UO {w:World}{A:Nat->Prop}{bt:Bt}{p:PV}{u:Value}(h:Id w A p u):AD w A bt p u:=by
 cases p with
 |agg cs=>
  obtain⟨vs,h1,h2⟩:=h;refine⟨vs,h1,fun p hp=>.inl ?_,V4 h2⟩
  obtain⟨j,hj⟩:=List.mem_iff_getElem?.1 hp;obtain⟨v,_,hv⟩:=h2.get hj;exact hv.1
 |sc v=>exact⟨.inl trivial,h.2⟩
 |lst z es n c=>exact⟨.inl trivial,h.2⟩
 |_=>exact h.1.elim
theorem Zx {w:World}{A:Nat->Prop}{bt:Th}:∀{ps:List PV}{us:List Value}{i:Nat},Av (Id w A) ps us->I0 w A bt i ps us
 |[],[],_,_=>trivial
 |_::_,_::_,_,h=>⟨UO h.1,Zx h.2⟩
 |[],_::_,_,h=>h.elim
 |_::_,[],_,h=>h.elim
theorem CK {w:World}{A A':Nat->Prop}(hA:∀b,b<w.heap.size->A' b->A b){p:PV}{v:Value}(h:Id w A p v):Id w A' p v:=by
 cases p with
 |agg cs=>
  obtain⟨vs,rfl,h2⟩:=h;exact⟨vs,rfl,h2.mono fun c v hc=>⟨hc.1,hc.2.step (Bh.refl _ _) hA⟩⟩
 |sc v=>exact⟨h.1,h.2.step (Bh.refl _ _) hA⟩
 |lst z es n c=>exact⟨h.1,h.2.step (Bh.refl _ _) hA⟩
 |_=>exact h.1.elim
theorem Y7 {w:World}{Y:Nat->Prop}{args:List PV}{us:List Value}(hY:∀b,Y b->b<w.heap.size)(h:Av (Id w Y) args us):Ins w Y K0 args us:=
 ⟨hY,fun b _=>Tf b,fun b h=>absurd h (Tf b),(fun _ _ _ _ _ _ _ h=>by cases h),(fun _ _ h=>by cases h),Zx (h.mono fun _ _ hx=>CK (fun b _ hb=>hb.elim (fun q=>absurd q (Tf b)) id) hx)⟩
theorem Afh {args:List PV}{b j:Nat}:¬Yh K0 args b j:=by
 rintro⟨_,_,_,⟨_,_,h,_⟩|⟨_,_,h,_⟩⟩<;>cases h
def NoNG (P:Program):Prop:=∀(f:FuncId) (fn:Func),P.funcs[f]?=some fn->(fn.name == "runtime.NumGoroutine")=false
structure IR (P:Program) (G:Glo) (w0:World) (X0:F9):Prop where
 ng:NoNG P
 fr:∀w,Fr X0 w0 w->G.ok w
 y:∀b,G.bl b->b<w0.heap.size∧¬X0.X b
section
variable {R:Type} {r:R} {P:Program} {N:Nat} {w0:World} {X0:F9} {Y:Nat->Prop} {β β':Bt} {s:St} {a:Act} {w w':World} {o:Oper} {A:Nat->Prop}
def Xn (P:Program)(a:Act)(w:World)(o:Oper)(Y:Nat->Prop)(β:Bt)(s:St)(v:PV)(fz:List Nat)(nw:List (Nat × A3)):Prop:=
 (∀id∈fz,∃f c,s.hp id=some (.ar f c))∧∀(next:Act->World->Prop)(Q:Exit->Act->World->Prop),
  (∀val w',(A8 s.hp nw=true->∃β',BH Y β ⟨s.tm,Ac s.hp fz⟩ w v nw val w' β')->next (a.put o.dst val) w')->o.wp P a w next Q
theorem Xl {v:PV}{fz:List Nat}{nw:List (Nat × A3)} (h:Dd P a w o Y β s v fz nw):Xn P a w o Y β s v fz nw:=by
 obtain⟨h1,val,w',hr,hs⟩:=h;refine⟨h1,fun next Q hn=>?_⟩
 unfold Oper.wp;rw[hr];exact hn val w' hs
theorem WE (h:B3 N w0 X0 Y β s a w){t:TypeId}{x:PV}{u:Value}(hx:Di w (Cd s.hp β Y) β x u) {K:PV->List Nat->Option R}(hk:LX P (Hf s.hp) t x K=some r):
  ∃p m,K p m=some r∧(∀id∈m,∃f cc,s.hp id=some (.ar f cc))∧(cellsOf p).length=(Gc P t).length∧∀fz:List Nat,(∀id∈m,id∈fz)->(∀id∈fz,∃f cc,s.hp id=some (.ar f cc))->Id w (Cd (Ac s.hp fz) β Y) p u:=by
 unfold LX at hk;cases Ew:Bc P t
 ·rw[Ew] at hk;obtain⟨cs,m,hk,hl,Hm,hT,hF,hm,hv⟩:=Mo h (show Kb _ _ _ _=some r from hk)
  obtain⟨c,t',rfl,hk⟩:=Ar hk;obtain⟨rfl,hk⟩:=Cl hk;have hcT:=hT c (by simp)
  refine⟨c,m,hk,hm,?_,fun fz h1 h2=>?_⟩
  ·have:cellsOf c=[c]:=by cases c<;>first|rfl|exact hcT.elim
   rw[this];exact hl
  have hF':=hF _ (List.mem_singleton_self _)
  have hc:Be w (Cd s.hp β Y) β x u:=by
   cases x<;>first|exact hx|exact hF'.elim
  have h3:=(hv fz h1 h2 [u] ⟨hc,trivial⟩).1.1;cases c<;>first|exact⟨trivial,h3⟩|exact hcT.elim
 ·rw[Ew] at hk;obtain⟨ps,hp,hk⟩:=F0 (show Fo _ _=some r from hk)
  rw[hp] at hx;obtain⟨cs,m,hk,hl,Hm,hT,hF,hm,hv⟩:=Mo h hk;obtain⟨vs,Cf,h2⟩:=hx;refine⟨.agg cs,m,hk,hm,hl,fun fz h1 h3=>⟨vs,Cf,?_⟩⟩
  exact (hv fz h1 h3 vs h2).1.mono_mem fun c hc v V0=>⟨hT c hc,V0⟩
theorem Abt (h:B3 N w0 X0 Y β s a w){t:TypeId}{x:Operand}{K:PV->List Nat->Option R}(hk:LX P (Hf s.hp) t (Bf s.tm x) K=some r):
  ∃p m,K p m=some r∧(∀id∈m,∃f cc,s.hp id=some (.ar f cc))∧∀fz:List Nat,(∀id∈m,id∈fz)->(∀id∈fz,∃f cc,s.hp id=some (.ar f cc))->Id w (Cd (Ac s.hp fz) β Y) p (a.eval x):=by
 obtain⟨p,m,h1,h2,_,h3⟩:=WE h (Cb h x) hk;exact⟨p,m,h1,h2,h3⟩
theorem CQ (h:B3 N w0 X0 Y β s a w):∀{ts:List TypeId}{xs:List Operand}{K:List PV->List Nat->Option R},Ya P (Hf s.hp) ts (xs.map (Bf s.tm)) K=some r ->
  ∃ps m,K ps m=some r∧(∀id∈m,∃f cc,s.hp id=some (.ar f cc))∧∀fz:List Nat,(∀id∈m,id∈fz)->(∀id∈fz,∃f cc,s.hp id=some (.ar f cc))->Av (Id w (Cd (Ac s.hp fz) β Y)) ps (xs.map a.eval)
 |[],[],K,hk=>⟨[],[],hk,by simp,fun _ _ _=>trivial⟩
 |[],_::_,K,hk=>by cases hk
 |_::_,[],K,hk=>by cases hk
 |t::ts,x::xs,K,hk=>by
  simp only[List.map_cons] at hk;unfold Ya at hk;obtain⟨p,m,hk,hm,hv⟩:=Abt h hk;obtain⟨ps,ms,hk,X7,Ex⟩:=CQ h hk;refine⟨p::ps,m++ms,hk,?_,fun fz h1 h2=>⟨hv fz (fun i hi=>h1 i (by simp[hi])) h2,Ex fz (fun i hi=>h1 i (by simp[hi])) h2⟩⟩
  intro i hi;rcases List.mem_append.1 hi with hi|hi
  ·exact hm i hi
  ·exact X7 i hi
theorem Id.weaken {A':Nat->Prop}(hA:∀b,b<w.heap.size->A' b->A b){p:PV}{v:Value}(h:Id w A p v):Id w A' p v:=by
 have one:Ku p->Ku p∧An w A p v->Id w A' p v:=by
  intro hp h;cases p<;>first|exact⟨h.1,h.2.step (Bh.refl _ _) hA⟩|exact hp.elim
 cases p with
 |agg cs=>
  obtain⟨vs,rfl,h2⟩:=h;exact⟨vs,rfl,h2.mono fun c v hc=>⟨hc.1,hc.2.step (Bh.refl _ _) hA⟩⟩
 |_=>exact one h.1 h
theorem YJ {t:CT}{p:PV}{K:PV->Option R}(h:Ug t p K=some r):
  ∃c,K c=some r∧Ku c∧Ku p∧(∀(w:World) (A:Nat->Prop) (β:Nat->Option (Nat × Nat)) (v:Value),Be w A β p v->An w A c v∧v.oneCell'=true)∧((∀es,t ≠ .sl es)->∃v,c=.sc v):=by
 obtain⟨c,hk,hT,Xo,hv⟩:=Jz h;cases t with
 |sl es=>exact⟨c,hk,hT,Xo,hv,fun Gh=>absurd rfl (Gh es)⟩
 |int k=>obtain⟨n,rfl,h2⟩:=Dh h;exact⟨_,h2,trivial,trivial,fun w A β v hv=>⟨hv,by have:=An.val (w:=w) (A:=A) hv;subst this;rfl⟩,fun _=>⟨_,rfl⟩⟩
 |bool=>obtain⟨n,rfl,h2⟩:=Ct h;exact⟨_,h2,trivial,trivial,fun w A β v hv=>⟨hv,by have:=An.val (w:=w) (A:=A) hv;subst this;rfl⟩,fun _=>⟨_,rfl⟩⟩
 |str=>obtain⟨n,rfl,h2⟩:=Cm h;exact⟨_,h2,trivial,trivial,fun w A β v hv=>⟨hv,by have:=An.val (w:=w) (A:=A) hv;subst this;rfl⟩,fun _=>⟨_,rfl⟩⟩
 |any=>
  obtain⟨u,rfl,h1,h2⟩:=QE (show VH p (fun v=>K (.sc v))=some r from h)
  exact⟨_,h2,trivial,trivial,fun w A β v hv=>⟨hv,by have:=An.val (w:=w) (A:=A) hv;subst this;exact h1⟩,fun _=>⟨_,rfl⟩⟩
theorem P6 (shr:Bool)(N:Nat):∀{ts:List CT}{ps:List PV}{id:Nat}{K:List PV->List (Nat × A3)->Option R},Mf shr N id ts ps K=some r ->
  ∃cs bs,K cs bs=some r∧ps.length=ts.length∧(∀p∈ps,∀x,p ≠ .agg x∧p ≠ .pbox x)∧(∀c∈cs,AV c)∧((∀es,CT.sl es ∉ ts)->bs=[]∧∀c∈cs,∃v,c=.sc v) ∧
   (∀i bx,(i,bx)∈bs->∃j es n c,ps[j]?=some (.own es n c)∧i=id+N*j∧bx=.ar false c) ∧
   (∀c∈cs,∀i∈Ak c,∃bx,(i,bx)∈bs) ∧
   ∀(w:World) (A:Nat->Prop) (own β':Bt) (j0:Nat) (us:List Value),(∀j,(∃bx,(id+N*j,bx)∈bs)->β' (id+N*j)=own (j0+j))->Dx w A own j0 ps us->Av (Be w A β') cs us
 |[],ps,id,K,hk=>by
  obtain⟨rfl,hk⟩:=Cl hk;refine⟨[],[],hk,rfl,by simp,by simp,by simp,by simp,by simp,fun w A own β' j0 us _ h=>?_⟩
  cases us with
  |nil=>trivial
  |cons u us=>exact h.elim
 |t::ts,ps,id,K,hk=>by
  unfold Mf at hk;obtain⟨p,ps',Z7,C9⟩:=Ar hk;subst Z7;clear hk
  have main:∃c b,(Mf shr N (id+N) ts ps' fun cs bs=>K (c::cs) (b++bs))=some r∧(∀x,p ≠ .agg x∧p ≠ .pbox x)∧AV c∧((∀es,t≠CT.sl es)->b=[]∧∃v,c=.sc v)∧(∀i bx,(i,bx)∈b->∃es n cc,p=.own es n cc∧i=id∧bx=.ar false cc)∧(∀i∈Ak c,∃bx,(i,bx)∈b) ∧
    ∀(w:World) (A:Nat->Prop) (own:Option (Nat × Nat)) (β':Bt) (u:Value),((∃bx,(id,bx)∈b)->β' id=own)->E3 w A own p u->Be w A β' c u:=by
   have tree:∀t',t'=t->(Ug t' p fun c=>Mf shr N (id+N) ts ps' fun cs bs=>K (c::cs) ([]++bs))=some r->∃c b,(Mf shr N (id+N) ts ps' fun cs bs=>K (c::cs) (b++bs))=some r∧(∀x,p ≠ .agg x∧p ≠ .pbox x)∧AV c∧((∀es,t≠CT.sl es)->b=[]∧∃v,c=.sc v)∧(∀i bx,(i,bx)∈b->∃es n cc,p=.own es n cc∧i=id∧bx=.ar false cc)∧(∀i∈Ak c,∃bx,(i,bx)∈b) ∧
     ∀(w:World) (A:Nat->Prop) (own:Option (Nat × Nat)) (β':Bt) (u:Value),((∃bx,(id,bx)∈b)->β' id=own)->E3 w A own p u->Be w A β' c u:=by
    intro t' ht' hk;have LI:=YJ hk;obtain⟨c,hk,hT,Xo,hv,LI⟩:=LI;refine⟨c,[],hk,fun x=>⟨Sz Xo x,by rintro rfl;exact Xo⟩,Nv hT,fun Gh=>⟨rfl,LI (fun es e=>Gh es (ht'.symm.trans e))⟩,by simp,by rw[F5 hT];simp,fun w A own β' u _ hc=>?_⟩
    have Nf:Be w A β' p u:=by cases p<;>first|exact hc|exact Xo.elim
    exact (It hT).2 (hv w A β' u Nf).1
   unfold ZC at C9;cases t with
   |sl es=>
    dsimp only at C9;cases shr
    ·unfold Oc at C9;simp only[cond_false] at C9;split at C9
     ·rename_i es' n c;cases hb:Nat.beq es' es
      ·rw[hb] at C9;cases C9
      ·rw[hb] at C9;have:=Nat.eq_of_beq_eq_true hb;subst this;refine⟨_,_,C9,by simp,trivial,fun Gh=>absurd rfl (Gh _),?_,?_,fun w A own β' u hβ hc=>?_⟩
       ·intro i bx hm;simp at hm;exact⟨_,_,_,rfl,hm.1,hm.2⟩
       ·intro i hi;simp[Ak] at hi;subst hi;exact⟨.ar false c,by simp⟩
       ·have hβ':=hβ ⟨.ar false c,by simp⟩
        clear hβ;rcases hc with⟨h1,rfl,rfl,h4⟩|⟨b,ob,cap,h1,h2,h3,h4,h5,_⟩
        ·exact .inl ⟨hβ'.trans h1,rfl,rfl,h4⟩
        ·exact .inr ⟨b,ob,ob,cap,hβ'.trans h1,h2,.inl rfl,h3,h4,h5⟩
     ·cases C9
    ·obtain⟨c,hk,hT,Xo,hv,_⟩:=YJ (t:=.sl es) (p:=p) (K:=fun c=>Mf true N (id+N) ts ps' fun cs bs=>K (GJ c::cs) ([]++bs)) C9
     have hU:Ku (GJ c):=by cases c<;>exact hT
     refine⟨GJ c,[],hk,fun x=>⟨Sz Xo x,by rintro rfl;exact Xo⟩,Nv hU,fun Gh=>absurd rfl (Gh _),by simp,by rw[F5 hU];simp,fun w A own β' u _ hc=>?_⟩
     have Nf:Be w A β' p u:=by cases p<;>first|exact hc|exact Xo.elim
     refine (It hU).2 ?_;have:=(hv w A β' u Nf).1;cases c with
     |lst z es n c=>exact An.unz this
     |_=>exact this
   |int k=>exact tree (.int k) rfl C9
   |bool=>exact tree .bool rfl C9
   |str=>exact tree .str rfl C9
   |any=>exact tree .any rfl C9
  obtain⟨c,b,hk,hpa,hF,HL,Er,Im,V0⟩:=main;obtain⟨cs,bs,hk,hl,Asu,hFs,Ajk,Arm,Asr,Au5⟩:=P6 shr N hk;refine⟨c::cs,b++bs,hk,by simp[hl],?_,?_,?_,?_,?_,fun w A own β' j0 us hβ hoc=>?_⟩
  ·intro x hx;rcases List.mem_cons.1 hx with rfl|hx
   ·exact hpa
   ·exact Asu x hx
  ·intro x hx;rcases List.mem_cons.1 hx with rfl|hx
   ·exact hF
   ·exact hFs x hx
  ·intro Gh;obtain⟨h1,v,h2⟩:=HL (fun es e=>Gh es (by rw[e];simp))
   obtain⟨h3,h4⟩:=Ajk (fun es hm=>Gh es (by simp[hm]))
   refine⟨by rw[h1,h3];rfl,fun x hx=>?_⟩
   rcases List.mem_cons.1 hx with rfl|hx
   ·exact⟨v,h2⟩
   ·exact h4 x hx
  ·intro i bx hm;rcases List.mem_append.1 hm with hm|hm
   ·obtain⟨es,n,cc,rfl,rfl,rfl⟩:=Er i bx hm;exact⟨0,es,n,cc,rfl,by simp,rfl⟩
   ·obtain⟨j,es,n,cc,h1,rfl,h3⟩:=Arm i bx hm;exact⟨j+1,es,n,cc,by simpa using h1,by rw[Nat.mul_add];omega,h3⟩
  ·intro x hx i hi;rcases List.mem_cons.1 hx with rfl|hx
   ·obtain⟨bx,hm⟩:=Im i hi;exact⟨bx,by simp[hm]⟩
   ·obtain⟨bx,hm⟩:=Asr x hx i hi;exact⟨bx,by simp[hm]⟩
  ·cases us with
   |nil=>exact hoc.elim
   |cons u us=>
    refine⟨V0 w A (own j0) β' u (fun ⟨bx,hm⟩=>by have:=hβ 0 ⟨bx,by simp[hm]⟩;simpa using this) hoc.1,?_⟩
    refine Au5 w A own β' (j0+1) us (fun j ⟨bx,hm⟩=>?_) hoc.2
    have e:id+N+N*j=id+N*(j+1):=by rw[Nat.mul_add];omega
    have:=hβ (j+1) ⟨bx,by rw[←e];simp[hm]⟩
    rw[e,this]
    congr 1
    omega
end
open Go.RowKit
section
variable {R:Type} {r:R} {P:Program} {N:Nat} {w0:World} {X0:F9} {Y:Nat->Prop} {β β':Bt} {s:St} {a:Act} {w w':World} {o:Oper} {A:Nat->Prop}
theorem Dx.len:∀{j:Nat}{own:Bt}{ps:List PV}{us:List Value},Dx w A own j ps us->ps.length=us.length
 |_,_,[],[],_=>rfl
 |_,_,_::_,_::_,h=>by simp[Dx.len h.2]
 |_,_,[],_::_,h=>h.elim
 |_,_,_::_,[],h=>h.elim
theorem Dx.at_:∀{j:Nat}{own:Bt}{ps:List PV}{us:List Value},Dx w A own j ps us->∀{i:Nat} {p},ps[i]?=some p->∃u,us[i]?=some u∧E3 w A (own (j+i)) p u
 |_,_,[],[],_,i,p,h=>by simp at h
 |j,own,_::_,u::_,h,0,p,hp=>by simp at hp;subst hp;exact⟨u,rfl,h.1⟩
 |j,own,_::_,_::_,h,i+1,p,hp=>by
  simp at hp;obtain⟨u,hu,hc⟩:=Dx.at_ h.2 hp;exact⟨u,by simpa using hu,by rw[show j+(i+1)=j+1+i from by omega];exact hc⟩
 |_,_,[],_::_,h,_,_,_=>h.elim
 |_,_,_::_,[],h,_,_,_=>h.elim
def Aa4 (N id:Nat)(β':Bt)(w:World)(A:Nat->Prop)(z n:Nat)(bs:List (Nat × A3)):Prop:=
 ∀i bx,(i,bx)∈bs->(∃j,i=id+N*j∧j<n)∧Cc (some bx)∧Nx w A β' i bx∧∀cs,bx=.st cs->∀b o,β' i=some (b,o)->z<=b
def Ur (bs:List (Nat × A3)):Prop:=∀i cells,(i,.st cells)∈bs->∀c∈cells,∀i'∈Ak c,∃bx,(i',bx)∈bs
theorem Tj {q:Option (Nat × Nat)} {es n i:Nat}{c:List PV}{u:Value}(h:E3 w A q (.own es n c) u) (hβ:β' i=q):Nx w A β' i (.ar false c):=by
 rcases h with⟨h1,_,h2,_⟩|⟨b,o,cap,h1,_,_,_,_,h6,h7⟩
 ·exact .inl ⟨hβ.trans h1,h2⟩
 ·exact .inr ⟨b,o,hβ.trans h1,h6,fun _=>h7,(fun x=>by cases x)⟩
theorem Um {t:TypeId}(h:Ha P [t]=false):S2 P t=none∧∀es,CT.sl es ∉ Gc P t:=by
 simp only[Ha,List.any_cons,List.any_nil,Bool.or_false,Bool.or_eq_false_iff] at h;refine⟨by simpa using h.1,fun es hm=>?_⟩
 have:=List.any_eq_false.1 h.2 _ hm;simp at this
theorem XV (shr:Bool)(N:Nat){t:TypeId}{p:PV}{id:Nat}{K:PV->List (Nat × A3)->Option R} (hk:UR P shr N id t p K=some r):
  ∃v bs,K v bs=some r∧ST p=HW P t∧(∀x,v ≠ .tup x)∧(Ha P [t]=false->bs=[]∧∀c∈cellsOf v,∃u,c=.sc u)∧(∀i∈Bn v,∃bx,(i,bx)∈bs)∧Ur bs ∧
   ∀(w:World) (A:Nat->Prop) (own β':Bt) (z j0:Nat) (u:Value),(∀j,(∃bx,(id+N*j,bx)∈bs)->β' (id+N*j)=own (j0+j))->Adf w A own z j0 p u->F7 w A β' v u∧Aa4 N id β' w A z (ST p) bs:=by
 have boxes:∀{bs:List (Nat × A3)} {ps:List PV} {id:Nat},(∀i bx,(i,bx)∈bs->∃j es n c,ps[j]?=some (.own es n c)∧i=id+N*j∧bx=.ar false c) ->
   Ur bs∧∀(w:World) (A:Nat->Prop) (own β':Bt) (j0:Nat) (us:List Value),(∀j,(∃bx,(id+N*j,bx)∈bs)->β' (id+N*j)=own (j0+j))->Dx w A own j0 ps us->∀z,Aa4 N id β' w A z ps.length bs:=by
  intro bs ps id Er;refine⟨fun i cells hm=>?_,fun w A own β' j0 us hβ ho z i bx hm=>?_⟩
  ·obtain⟨_,_,_,_,_,_,h3⟩:=Er i _ hm;cases h3
  ·obtain⟨j,es,n,cc,h1,h2,h3⟩:=Er i bx hm;obtain⟨u,hu,hoc⟩:=ho.at_ h1;subst h3;refine⟨⟨j,h2,?_⟩,trivial,Tj hoc ?_,fun _ e=>by cases e⟩
   ·rcases Nat.lt_or_ge j ps.length with h|h
    ·exact h
    ·rw[List.getElem?_eq_none h] at h1;cases h1
   ·rw[h2];exact hβ j ⟨_,h2 ▸ hm⟩
 unfold UR at hk;split at hk
 ·rename_i e he;obtain⟨ps,rfl,hk⟩:=DN hk;obtain⟨cs,bs,hk,hl,Aep,hF,HL,Er,Im,V0⟩:=P6 shr N hk;obtain⟨MO,Jc⟩:=boxes Er;refine⟨.ptr id 0,_,hk,by simp only[ST,HW,he,hl],by simp,fun h=>?_,fun i hi=>?_,fun i cells hm c hc i' EJ=>?_,fun w A own β' z j0 u hβ ho=>?_⟩
  ·have:=(Um h).1;rw[he] at this;cases this
  ·simp only[Bn,Ak,List.mem_singleton] at hi;subst hi;exact⟨_,List.mem_cons_self⟩
  ·rcases List.mem_cons.1 hm with e|hm
   ·cases e;obtain⟨bx,hb⟩:=Im c hc i' EJ;exact⟨bx,List.mem_cons_of_mem _ hb⟩
   ·obtain⟨bx,hb⟩:=MO i cells hm c hc i' EJ;exact⟨bx,List.mem_cons_of_mem _ hb⟩
  ·obtain⟨b,o,h1,hz,rfl,vs,h3,h4,h5⟩:=ho;have h0:=hβ 0 ⟨_,by rw[Nat.mul_zero,Nat.add_zero];exact List.mem_cons_self⟩
   rw[Nat.mul_zero,Nat.add_zero,Nat.add_zero,h1] at h0;have hid:∀j,id+N+N*j=id+N*(j+1):=fun j=>by rw[Nat.mul_add];omega
   have hβ1:∀j,(∃bx,(id+N+N*j,bx)∈bs)->β' (id+N+N*j)=own (j0+1+j):=fun j ⟨bx,hm⟩=>by
    rw[hid,hβ (j+1) ⟨bx,by rw[←hid];exact List.mem_cons_of_mem _ hm⟩]
    congr 1;omega
   have hc2:=V0 w A own β' (j0+1) vs hβ1 h3;have FH:=Jc w A own β' (j0+1) vs hβ1 h3 z;have Dv:cs.length=ps.length:=by rw[hc2.len,←h3.len]
   refine⟨⟨b,o,h0,by simp⟩,fun i bx hm=>?_⟩
   rcases List.mem_cons.1 hm with e|hm
   ·cases e;refine⟨⟨0,by simp,by simp only[ST];omega⟩,trivial,⟨b,o,h0,fun k c hk=>?_,fun k hk=>h5 k (by omega)⟩,fun _ _ b' o' F8=>?_⟩
    ·obtain⟨v,hv,GP⟩:=hc2.get hk;exact⟨v,h4 k v hv,GP⟩
    ·rw[h0] at F8;cases F8;exact hz
   ·obtain⟨⟨j,hj,hjn⟩,h6,h7⟩:=FH i bx hm;exact⟨⟨j+1,by rw[hj,hid],by simp only[ST];omega⟩,h6,h7⟩
 ·rename_i hnp;have Wz:HW P t=(Gc P t).length:=by simp only[HW,hnp]
  cases Ew:Bc P t
  ·rw[Ew] at hk;obtain⟨cs,bs,hk,hl,Aep,hF,HL,Er,Im,V0⟩:=P6 shr N (show Mf _ _ _ _ _ _=some r from hk)
   obtain⟨c,t',rfl,hk⟩:=Ar hk;obtain⟨rfl,hk⟩:=Cl hk;have hFc:=hF c (by simp)
   have Aml:∀x,p ≠ .pbox x:=fun x=>(Aep p (by simp) x).2
   have Ajt:∀x,c ≠ .agg x:=by rintro x rfl;exact hFc
   have Ar6:∀x,c ≠ .tup x:=by rintro x rfl;exact hFc
   have hr1:Bn c=Ak c:=by cases c<;>first|rfl|exact absurd rfl (Ajt _)
   have hpa:∀x,p ≠ .agg x:=fun x=>(Aep p (by simp) x).1
   obtain⟨MO,Jc⟩:=boxes Er;have hcell:cellsOf p=[p]:=by cases p<;>first|rfl|exact absurd rfl (hpa _)
   have Aoi:ST p=1:=by cases p<;>first|rfl|exact absurd rfl (hpa _)|exact absurd rfl (Aml _)
   have hcc:cellsOf c=[c]:=by cases c<;>first|rfl|exact absurd rfl (Ajt _)
   refine⟨c,bs,hk,by rw[Aoi,Wz];exact hl,Ar6,fun Gh=>by rw[hcc];exact HL (Um Gh).2,fun i hi=>Im c (by simp) i (by rw[←hr1];exact hi),MO,fun w A own β' z j0 u hβ ho=>?_⟩
   have HI:E3 w A (own j0) p u:=by cases p<;>first|exact ho|exact absurd rfl (hpa _)|exact absurd rfl (Aml _)
   exact⟨(S0 Ajt).2 (V0 w A own β' j0 [u] hβ ⟨HI,trivial⟩).1,by rw[Aoi];exact Jc w A own β' j0 [u] hβ ⟨HI,trivial⟩ z⟩
  ·rw[Ew] at hk;obtain⟨ps,rfl,hk⟩:=F0 (show Fo _ _=some r from hk)
   obtain⟨cs,bs,hk,hl,Aep,hF,HL,Er,Im,V0⟩:=P6 shr N hk;obtain⟨MO,Jc⟩:=boxes Er;refine⟨.agg cs,bs,hk,by rw[Wz];exact hl,by simp,fun Gh=>HL (Um Gh).2,fun i hi=>?_,MO,fun w A own β' z j0 u hβ ho=>?_⟩
   ·obtain⟨c,hc,hi⟩:=List.mem_flatMap.1 (show i∈cs.flatMap Ak from hi)
    exact Im c hc i hi
   ·obtain⟨vs,rfl,ho⟩:=ho;exact⟨⟨vs,rfl,V0 w A own β' j0 vs hβ ho⟩,Jc w A own β' j0 vs hβ ho z⟩
theorem Vh (shr:Bool)(N:Nat):∀{ts:List TypeId}{ps:List PV}{id:Nat}{K:List PV->List (Nat × A3)->Option R},Wc P shr N id ts ps K=some r ->
  ∃vs bs,K vs bs=some r∧vs.length=ps.length∧(∀v∈vs,∀x,v ≠ .tup x)∧(Ha P ts=false->bs=[]∧∀v∈vs,∀c∈cellsOf v,∃u,c=.sc u)∧(∀v∈vs,∀i∈Bn v,∃bx,(i,bx)∈bs)∧Ur bs ∧
   ∀(w:World) (A:Nat->Prop) (own β':Bt) (z j0:Nat) (us:List Value),(∀j,(∃bx,(id+N*j,bx)∈bs)->β' (id+N*j)=own (j0+j))->JY w A own z j0 ps us->Av (F7 w A β') vs us∧Aa4 N id β' w A z (He ps) bs
 |[],ps,id,K,hk=>by
  obtain⟨rfl,hk⟩:=Cl hk;refine⟨[],[],hk,rfl,by simp,by simp,by simp,(by intro i cells hm;cases hm),fun w A own β' z j0 us _ h=>?_⟩
  cases us with
  |nil=>exact⟨trivial,by intro i bx hm;cases hm⟩
  |cons u us=>exact h.elim
 |t::ts,ps,id,K,hk=>by
  unfold Wc at hk;obtain⟨p,ps',Z7,C9⟩:=Ar hk;subst Z7;clear hk;obtain⟨v,bs,hk,hl,NU,HL,hr1,MO,hv⟩:=XV shr N C9;obtain⟨vs,bs',hk,I9,Avj,Ajk,hrs,Awd,Ex⟩:=Vh shr N hk;refine⟨v::vs,bs++bs',hk,by simp[I9],?_,?_,?_,?_,fun w A own β' z j0 us hβ ho=>?_⟩
  ·intro x hx;rcases List.mem_cons.1 hx with rfl|hx
   ·exact NU
   ·exact Avj x hx
  ·intro Gh;simp only[Ha,List.any_cons,Bool.or_eq_false_iff] at Gh;obtain⟨h1,h2⟩:=HL (by simp only[Ha,List.any_cons,List.any_nil,Bool.or_false,Bool.or_eq_false_iff];exact Gh.1)
   obtain⟨h3,h4⟩:=Ajk (by simp only[Ha];exact Gh.2)
   refine⟨by rw[h1,h3];rfl,fun x hx=>?_⟩
   rcases List.mem_cons.1 hx with rfl|hx
   ·exact h2
   ·exact h4 x hx
  ·intro x hx i hi;rcases List.mem_cons.1 hx with rfl|hx
   ·obtain⟨bx,hm⟩:=hr1 i hi;exact⟨bx,by simp[hm]⟩
   ·obtain⟨bx,hm⟩:=hrs x hx i hi;exact⟨bx,by simp[hm]⟩
  ·intro i cells hm c hc i' EJ;rcases List.mem_append.1 hm with hm|hm
   ·obtain⟨bx,hb⟩:=MO i cells hm c hc i' EJ;exact⟨bx,by simp[hb]⟩
   ·obtain⟨bx,hb⟩:=Awd i cells hm c hc i' EJ;exact⟨bx,by simp[hb]⟩
  ·cases us with
   |nil=>exact ho.elim
   |cons u us=>
    obtain⟨h1,Er⟩:=hv w A own β' z j0 u (fun j ⟨bx,hm⟩=>hβ j ⟨bx,by simp[hm]⟩) ho.1
    have hid:∀j,id+N*HW P t+N*j=id+N*(HW P t+j):=fun j=>by rw[Nat.mul_add];omega
    obtain⟨h2,Im⟩:=Ex w A own β' z (j0+ST p) us (fun j ⟨bx,hm⟩=>by rw[hid,hβ _ ⟨bx,by rw[←hid];simp[hm]⟩,hl];congr 1;omega) ho.2
    refine⟨⟨h1,h2⟩,fun i bx hm=>?_⟩
    rcases List.mem_append.1 hm with hm|hm
    ·obtain⟨⟨j,hj,hjn⟩,h4,h5⟩:=Er i bx hm;exact⟨⟨j,hj,by simp only[He,List.map_cons,List.sum_cons];omega⟩,h4,h5⟩
    ·obtain⟨⟨j,hj,hjn⟩,h4,h5⟩:=Im i bx hm;refine⟨⟨_,by rw[hj,hid],?_⟩,h4,h5⟩
     simp only[He,List.map_cons,List.sum_cons] at hjn ⊢;omega
def Wr (N d:Nat)(bs:List (Nat × A3)) (own β:Bt):Bt:=fun i=>if (bs.any fun q=>Nat.beq q.1 i)=true then own ((i-d) / N) else β i
theorem FW {bs:List (Nat × A3)} {i:Nat}:(bs.any fun q=>Nat.beq q.1 i)=true↔∃bx,(i,bx)∈bs:=by
 rw[List.any_eq_true];constructor
 ·rintro⟨⟨j,bx⟩,hm,e⟩
  have:=Nat.eq_of_beq_eq_true e;subst this;exact⟨bx,hm⟩
 ·rintro⟨bx,hm⟩
  exact⟨_,hm,Nat.beq_refl i⟩
theorem OU {N d j:Nat}(hN:0<N){bs:List (Nat × A3)} {own β:Bt}(h:∃bx,(d+N*j,bx)∈bs):Wr N d bs own β (d+N*j)=own j:=by
 unfold Wr;rw[if_pos (FW.2 h),Nat.add_sub_cancel_left,Nat.mul_div_cancel_left _ hN]
theorem Xr {c:Call}{f:FuncId}(ho:o.op=.call c)(hc:c.callee=.value (.func f)) (H1:NoNG P){fn:Func}(hf:P.funcs[f]?=some fn) (hb:fn.body.isSome=true):
  (execOp a.eval o).run P w=.ok (.enter f (c.args.map a.eval)) w:=by
 unfold execOp;rw[ho]
 have hn:¬fn.body=none:=by
  intro h;rw[h] at hb;cases hb
 have Gh:¬fn.name = "runtime.NumGoroutine" :=by simpa using H1 f fn hf
 simp[resolve,hc,Act.eval,Deferred.ofValue,invoke,callFunc,hf,Gh,hn]
theorem RK {c:Call}{t:Nat}{f:FuncId}(ho:o.op=.call c)(hc:c.callee=.value (.tmp t)) (ht:a.eval (.tmp t)=.func (.func f) #[] #[]) (H1:NoNG P){fn:Func}(hf:P.funcs[f]?=some fn) (hb:fn.body.isSome=true):
  (execOp a.eval o).run P w=.ok (.enter f (c.args.map a.eval)) w:=by
 unfold execOp;rw[ho]
 have hn:¬fn.body=none:=by
  intro h;rw[h] at hb;cases hb
 have Gh:¬fn.name = "runtime.NumGoroutine" :=by simpa using H1 f fn hf
 simp[resolve,hc,ht,Deferred.ofValue,invoke,callFunc,hf,Gh,hn]
theorem Vz {A':Nat->Prop}(k:Bool):∀{xs:List Operand}{ps:List PV},Av (Id w A') ps (xs.map a.eval)->Av (Id w A') (Hd k xs ps) (xs.map a.eval)
 |[],[],h=>h
 |[],_::_,h=>h
 |_::_,[],h=>h
 |x::xs,p::ps,h=>by
  simp only[List.map_cons] at h ⊢;refine⟨?_,Vz k h.2⟩;split
  ·exact⟨trivial,An.lnil _ _⟩
  ·exact h.1
theorem Zg (h : B3 N w0 X0 Y β s a w) {G : Glo} (H1 : IR P G w0 X0) {C : Fy} {call : Aj} (C4 : ∀ f args res, call f args = some res -> C1 G P f args res) {c : Call} {f : FuncId} (Bv : ∀ {fn : Func}, P.funcs[f]? = some fn -> fn.body.isSome = true -> (execOp a.eval o).run P w = .ok (.enter f (c.args.map a.eval)) w)
    {K : PV -> List Nat -> List (Nat × A3) -> Option R}
    (hk : (Ya P (Hf s.hp) (Zd P f c) (c.args.toList.map (Bf s.tm)) fun vs m =>
          Ap (call f (Hd (C.kz f) c.args.toList vs)) fun rv ro => Ae ro (Au (Nat.blt 0 N) <| Wc P (C.shr f) N (o.dst.getD 0) (J8 P o.type) rv fun ws bs =>
            Au (bif Lb P o.type then !Nat.beq ws.length 1 else Nat.beq ws.length 1) <| K (Kd ws (Lb P o.type)) (bif Ha P (J8 P o.type) then m else []) bs)) = some r) : ∃ v fz nw, K v fz nw = some r ∧ Xn P a w o Y β s v fz nw := by
  obtain⟨ps, m, hk, hm, Dp⟩ := CQ h hk
  replace Dp := fun fz h1 h2 => Vz (a := a) (C.kz f) (Dp fz h1 h2)
  generalize Hd (C.kz f) c.args.toList ps = ps at hk Dp
  obtain⟨rv, ro, Lp, hk⟩ := DD hk
  obtain⟨rfl, hk⟩ := Cl hk
  obtain⟨hN, hk⟩ := Ag hk
  have hN : 0 < N := Nat.lt_of_succ_le (Nat.le_of_ble_eq_true hN)
  obtain⟨ws, bs, hk, hwl, NU, HL, hrs, MO, hws⟩ := Vh (C.shr f) N hk
  obtain⟨L9, hk⟩ := Ag hk
  obtain⟨⟨fn, hfn, hfb⟩, P0⟩ := C4 f ps _ Lp
  obtain⟨fz, N1, hfm⟩ : ∃ fz : List Nat, fz = (bif Ha P (J8 P o.type) then m else []) ∧ ∀ id ∈ fz, ∃ f c, s.hp id = some (.ar f c) := by
    refine⟨_, rfl, fun id hid => ?_⟩
    cases hh : Ha P (J8 P o.type) <;> rw[hh] at hid
    · cases hid
    · exact hm id hid
  rw[← N1] at hk
  refine⟨_, _, _, hk, hfm, fun next Q hn => ?_⟩
  have hf := h.freeze hfm
  have hYc : ∃ Yc : Nat -> Prop, (∀ b, Yc b -> b < w.heap.size) ∧ Av (Id w Yc) ps (c.args.toList.map a.eval) ∧ ((∀ b, Cd (Ac s.hp fz) β Y b -> Yc b) ∨ Ha P (J8 P o.type) = false) := by
    have Jy := Dp m (fun _ hi => hi) hm
    cases hh : Ha P (J8 P o.type)
    · exact⟨fun _ => False, fun _ x => x.elim, Jy.mono fun _ _ hx => hx.weaken (fun _ _ x => x.elim), .inr rfl⟩
    · rw[hh] at N1
      have N1 : fz = m := N1
      subst N1
      refine⟨Cd (Ac s.hp fz) β Y, fun b hb => ?_, Jy, .inl fun _ x => x⟩
      rcases hb with⟨id, ob, hl, hβ⟩ | hY
      · exact hf.blt id b ob (Ca hl) hβ
      · exact Nat.lt_of_lt_of_le (h.Ylt b hY) h.fr.step.size
  obtain⟨Yc, Aw3, hYargs, hYA⟩ := hYc
  unfold Oper.wp
  rw[Bv hfn hfb]
  show Calls P f _ w _
  have hca : c.args.map a.eval = (c.args.toList.map a.eval).toArray := by rw[← List.map_toArray, Array.toArray_toList]
  rw[hca]
  refine (P0 w Yc K0 _ (Y7 Aw3 hYargs) (H1.fr w h.fr) (fun b x => ⟨Nat.lt_of_lt_of_le (H1.y b x).1 h.fr.step.size, Tf b⟩)).mono ?_
  rintro e w' ⟨vs, own, rfl, EH⟩
  refine hn (Dy vs) w' fun L0 => ⟨Wr N (o.dst.getD 0) bs own β, ?_⟩
  obtain⟨ha1, ha2⟩ := Az L0
  have ZJ : ∀ i bx, (i, bx) ∈ bs -> Ac s.hp fz i = none := fun i bx hm => C5.2 (ha1 i bx hm)
  obtain⟨hg1, hg2⟩ := Df (hp := Ac s.hp fz) ha2
  have hold : ∀ i, Ac s.hp fz i ≠ none -> Wr N (o.dst.getD 0) bs own β i = β i := by
    intro i hi
    unfold Wr
    rw[if_neg]
    intro hx
    obtain⟨bx, hm⟩ := FW.1 hx
    exact hi (ZJ i bx hm)
  obtain⟨Ex, hba⟩ := hws w' _ own (Wr N (o.dst.getD 0) bs own β) w.heap.size 0 vs (fun j hj => by rw[OU hN hj, Nat.zero_add]) EH.vals
  have Rz : ∀ i bx, (i, bx) ∈ bs -> ∃ j, i = o.dst.getD 0 + N * j ∧ Wr N (o.dst.getD 0) bs own β i = own j := by
    intro i bx hm
    obtain⟨⟨j, rfl, _⟩, _, _⟩ := hba i bx hm
    exact⟨j, rfl, OU hN ⟨bx, hm⟩⟩
  have hAA : Ha P (J8 P o.type) = false ∨ ∀ b, Cd (Al (Ac s.hp fz) bs) (Wr N (o.dst.getD 0) bs own β) Y b -> Ky K0 own Yc b := by
    rcases hYA with hYA | hYA
    · refine .inr fun b hb => ?_
      rcases hb with⟨i, ob, hl, hβ⟩ | hY
      · by_cases hi : ∃ bx, (i, bx) ∈ bs
        · obtain⟨bx, hm⟩ := hi
          obtain⟨j, _, h3⟩ := Rz i bx hm
          rw[h3] at hβ
          exact .inl ⟨j, ob, hβ⟩
        · rw[hg2 i (fun bx hm => hi ⟨bx, hm⟩)] at hl
          rw[hold i (Ca hl)] at hβ
          exact .inr (.inr (hYA b (.inl ⟨i, ob, hl, hβ⟩)))
      · exact .inr (.inr (hYA b (.inr hY)))
    · exact .inl hYA
  have hval : Di w' (Cd (Al (Ac s.hp fz) bs) (Wr N (o.dst.getD 0) bs own β) Y) (Wr N (o.dst.getD 0) bs own β) (Kd ws (Lb P o.type)) (Dy vs) := by
    have Jy : Av (F7 w' (Cd (Al (Ac s.hp fz) bs) (Wr N (o.dst.getD 0) bs own β) Y) (Wr N (o.dst.getD 0) bs own β)) ws vs := by
      rcases hAA with KW | hAA
      · obtain⟨_, LI⟩ := HL KW
        refine Ex.mono_mem fun v hv u hvu => ?_
        have LI := LI v hv
        cases v with
        | agg cs =>
          obtain⟨xs, rfl, Wh⟩ := hvu
          refine⟨xs, rfl, Wh.mono_mem fun cc hcc x hx => ?_⟩
          obtain⟨y, rfl⟩ := LI cc hcc
          have := An.val (w := w') hx
          subst this
          exact An.sc _
        | sc y =>
          have := An.val (w := w') hvu
          subst this
          exact An.sc _
        | lst z es n cc => obtain⟨y, hy⟩ := LI _ (List.mem_singleton_self _); cases hy
        | own es n cc => obtain⟨y, hy⟩ := LI _ (List.mem_singleton_self _); cases hy
        | view i es n cc => obtain⟨y, hy⟩ := LI _ (List.mem_singleton_self _); cases hy
        | ptr i cc => obtain⟨y, hy⟩ := LI _ (List.mem_singleton_self _); cases hy
        | iptr i cc => obtain⟨y, hy⟩ := LI _ (List.mem_singleton_self _); cases hy
        | pbox cc => obtain⟨y, hy⟩ := LI _ (List.mem_singleton_self _); cases hy
        | tup cc => obtain⟨y, hy⟩ := LI _ (List.mem_singleton_self _); cases hy
        | top => obtain⟨y, hy⟩ := LI _ (List.mem_singleton_self _); cases hy
        | ub => obtain⟨y, hy⟩ := LI _ (List.mem_singleton_self _); cases hy
      · exact Ex.mono fun v u hvu => hvu.step (Bh.refl _ _) (fun b _ => hAA b) (fun _ _ => rfl)
    have Dv := Jy.len
    cases hT : Lb P o.type
    · rw[hT] at L9
      have h1 : ws.length = 1 := Nat.eq_of_beq_eq_true L9
      match ws, vs, h1, Dv with
      | [v], [u], _, _ =>
        exact (Lm (NU v (by simp))).2 Jy.1
    · rw[hT] at L9
      have h1 : ¬ ws.length = 1 := by
        intro e
        rw[e] at L9
        cases L9
      have hr : Dy vs = .tuple ⟨vs⟩ := by
        unfold Dy
        split
        · simp at Dv; omega
        · rfl
      rw[hr]
      exact⟨vs, rfl, Jy⟩
  refine⟨EH.os, EH.tape, EH.output, EH.ext.weaken (fun b _ hb => Tf b hb), hold, ?_, ?_, ?_, ?_, ?_, hval, ?_⟩
  · intro i bx hm
    exact (hba i bx hm).2.1
  · intro i bx hm
    rcases hAA with KW | hAA
    · rw[(HL KW).1] at hm; cases hm
    · exact (hba i bx hm).2.2.1.step' hAA
  · intro i bx b ob hm hβ
    obtain⟨j, _, h3⟩ := Rz i bx hm
    rw[h3] at hβ
    obtain⟨h4, h5⟩ := EH.fresh j b ob hβ
    refine⟨?_, h4⟩
    rcases Nat.lt_or_ge b w.heap.size with h | h
    · obtain⟨⟨_, _, _, h6⟩, _⟩ := h5 h
      cases h6
    · exact h
  · intro i bx i' bx' b ob ob' hm Jv hβ hβ'
    obtain⟨j, h1, h3⟩ := Rz i bx hm
    obtain⟨j', Qz, h3'⟩ := Rz i' bx' Jv
    rw[h3] at hβ
    rw[h3'] at hβ'
    rw[h1, Qz, EH.inj j j' b ob ob' hβ hβ']
  · intro i cells hm c hc i' EJ
    exact .inr (MO i cells hm c hc i' EJ)
  · intro i hi
    right
    cases hT : Lb P o.type
    · rw[hT] at L9 hi
      have h1 : ws.length = 1 := Nat.eq_of_beq_eq_true L9
      match ws, h1 with
      | [v], _ =>
        refine hrs v (by simp) i ?_
        have : A9 v = Bn v := by
          have hn := NU v (by simp)
          cases v <;> first | rfl | exact absurd rfl (hn _)
        rw[← this]
        exact hi
    · rw[hT] at hi
      obtain⟨v, hv, hi⟩ := List.mem_flatMap.1 (show i ∈ ws.flatMap Bn from hi)
      exact hrs v hv i hi
end
open Go.RowKit
section
variable {R:Type} {r:R} {P:Program} {N:Nat} {w0:World} {X0:F9} {Y:Nat->Prop} {β β':Bt} {s:St} {a:Act} {w w':World} {o:Oper} {A:Nat->Prop}
theorem B3.move (h:B3 N w0 X0 Y β s a w){id d:Nat}{c cells:List PV}{bo:Option (Nat × Nat)} {v:PV}{val:Value}(h0:s.hp id=some (.ar false c)) (hd:s.hp d=none)(VL:d<N)
  (hos:w'.os=w.os)(htp:w'.tape=w.tape)(EH:w'.output=w.output)(JI:w.heap.size<=w'.heap.size)
  (Ix:∀k,k<w.heap.size->(∀x,β id≠some (k,x))->w'.heap[k]?=w.heap[k]?) (We:∀k,k<w.heap.size->Gd w w' k)
  (ES:∀k x,bo=some (k,x)->k<w'.heap.size∧(w.heap.size<=k∨∃y,β id=some (k,y)))
  (GU:∀k x,bo=some (k,x)->k<w.heap.size->β id=some (k,x))
  (hO:∀k y,β id=some (k,y)->k<w.heap.size->∀j,j<y->w'.cell? ⟨k,j,none⟩=w.cell? ⟨k,j,none⟩∧w'.frozen? ⟨k,j,none⟩=w.frozen? ⟨k,j,none⟩)
  (Jc:Nx w' (Cd (Bu (Bu s.hp id (some .mv)) d (some (.ar false cells))) (Bu β d bo) Y) (Bu β d bo) d (.ar false cells))
  (hv:Di w' (Cd (Bu (Bu s.hp id (some .mv)) d (some (.ar false cells))) (Bu β d bo) Y) (Bu β d bo) v val) (hr:∀i∈A9 v,i=d):
  B3 N w0 X0 Y (Bu β d bo) ⟨Bu s.tm d v,Bu (Bu s.hp id (some .mv)) d (some (.ar false cells))⟩ (a.put (some d) val) w':=by
 have Gh:id≠d:=by rintro rfl;rw[h0] at hd;cases hd
 have hget:∀i,i≠id->i≠d->Bu (Bu s.hp id (some A3.mv)) d (some (.ar false cells)) i=s.hp i:=fun i h1 h2=>by rw[Ad _ _ h2,Ad _ _ h1]
 have Afg:Bu (Bu s.hp id (some A3.mv)) d (some (.ar false cells)) id=some .mv:=by rw[Ad _ _ Gh,Ah]
 have hgd:Bu (Bu s.hp id (some A3.mv)) d (some (.ar false cells)) d=some (.ar false cells):=Ah _ _ _
 have hnn:∀i,s.hp i≠none->Bu (Bu s.hp id (some A3.mv)) d (some (.ar false cells)) i≠none:=by
  intro i hi;by_cases e:i=id
  ·subst e;rw[Afg];simp
  ·by_cases e':i=d
   ·subst e';rw[hgd];simp
   ·rw[hget i e e'];exact hi
 have hβo:∀i,s.hp i≠none->Bu β d bo i=β i:=fun i hi=>Ad _ _ (by rintro rfl;exact hi hd)
 have IQ:Cc (s.hp id):=by rw[h0];trivial
 have Fe:∀i,Cc (Bu (Bu s.hp id (some A3.mv)) d (some (.ar false cells)) i)->i=d∨(i≠id∧i≠d∧Cc (s.hp i)):=by
  intro i hi;by_cases e':i=d
  ·exact .inl e'
  ·by_cases e:i=id
   ·subst e;rw[Afg] at hi;exact hi.elim
   ·rw[hget i e e'] at hi;exact .inr ⟨e,e',hi⟩
 have hX:∀k,k<w.heap.size->GG (Bu (Bu s.hp id (some .mv)) d (some (.ar false cells))) (Bu β d bo) k->GG s.hp β k:=by
  rintro k hk ⟨i,x,hl,hβ⟩
  rcases Fe i hl with rfl|⟨e,e',hl⟩
  ·rw[Ah] at hβ;rcases (ES k x hβ).2 with Hj|⟨y,hy⟩
   ·omega
   ·exact⟨id,y,IQ,hy⟩
  ·rw[Ad _ _ e'] at hβ;exact⟨i,x,hl,hβ⟩
 have hAo:∀k,k<w.heap.size->Cd (Bu (Bu s.hp id (some .mv)) d (some (.ar false cells))) (Bu β d bo) Y k->Cd s.hp β Y k:=fun k hk hx=>hx.imp (hX k hk) (fun y=>y)
 have Jp:Bh (Cd s.hp β Y) w w':=⟨JI,fun k hk hn=>Ix k hk fun x hx=>hn (.inl ⟨id,x,IQ,hx⟩),We⟩
 have Aau:∀i k x,i≠id->i≠d->(∃b,s.hp i=some b∧b ≠ .mv)->β i=some (k,x)->k<w.heap.size∧w'.heap[k]?=w.heap[k]?:=by
  rintro i k x e e' ⟨b,hb,hmv⟩ hβ
  have hk:=h.blt i k x (by rw[hb];simp) hβ
  refine⟨hk,Ix k hk fun y hy=>?_⟩
  have RU:=h.box i b hb;cases b with
  |st cc=>exact e (h.inj i id k x y (by rw[hb];trivial) IQ hβ hy)
  |ar fz cc=>
   cases fz with
   |false=>exact e (h.inj i id k x y (by rw[hb];trivial) IQ hβ hy)
   |true=>
    rcases RU with⟨h1,_⟩|⟨k',x',h1,_,_,h4⟩
    ·rw[hβ] at h1;cases h1
    ·rw[hβ] at h1;simp at h1;obtain⟨rfl,rfl⟩:=h1
     exact h4 rfl (.inl ⟨id,y,IQ,hy⟩)
  |mv=>exact absurd rfl hmv
 refine⟨by rw[Nt];exact h.dfr,by rw[S4];exact h.tsz,?_,?_,?_,?_,?_,?_,?_,?_,?_,?_,?_,?_,h.Ylt,?_⟩
 ·intro i hi;show Bu s.tm d v i=_;rw[Ad _ _ (by omega)]
  exact h.tmo i hi
 ·refine Lf (d:=some d) (Q:=fun _ p u=>Di w' (Cd (Bu (Bu s.hp id (some .mv)) d (some (.ar false cells))) (Bu β d bo) Y) (Bu β d bo) p u) h.tsz (by simp[E6,Nat.blt];omega) (fun i hi=>?_) (fun _=>hv)
  exact (h.tms i hi).step Jp hAo fun j hj=>hβo j (h.wfT i hi j hj)
 ·intro i bi hb;simp only at hb;by_cases e':i=d
  ·subst e';rw[hgd] at hb;cases hb;exact Jc
  ·by_cases e:i=id
   ·subst e;rw[Afg] at hb;cases hb;trivial
   ·rw[hget i e e'] at hb;have hβi:=hβo i (by rw[hb];simp)
    have Ws:=h.box i bi hb;cases bi with
    |st cc=>
     obtain⟨k,x,h1,h2,h3⟩:=Ws;obtain⟨hk,Rm⟩:=Aau i k x e e' ⟨_,hb,by simp⟩ h1
     refine⟨k,x,by rw[hβi];exact h1,fun j p hj=>?_,fun j hj=>?_⟩
     ·obtain⟨u,hu,hc⟩:=h2 j p hj;exact⟨u,by rw[World.cell?_of_block (w:=w) Rm];exact hu,hc.step Jp hAo fun q hq=>hβo q (h.wfB i cc hb p (List.mem_of_getElem? hj) q hq)⟩
     ·rw[World.frozen?_of_block (w:=w) Rm];exact h3 j hj
    |ar fz cc=>
     rcases Ws with⟨h1,h2⟩|⟨k,x,h1,h2,h3,h4⟩
     ·exact .inl ⟨by rw[hβi];exact h1,h2⟩
     ·obtain⟨hk,Rm⟩:=Aau i k x e e' ⟨_,hb,by simp⟩ h1
      refine .inr ⟨k,x,by rw[hβi];exact h1,fun j p hj=>?_,fun ef j hj Kw=>?_,fun ef hx=>h4 ef (hAo k hk hx)⟩
      ·obtain⟨u,hu,h5,hc⟩:=h2 j p hj;exact⟨u,by rw[World.cell?_of_block (w:=w) (by rw[D9];exact Rm)];exact hu,h5,hc.step Jp hAo⟩
      ·rw[World.frozen?_of_block (w:=w) Rm];refine h3 ef j hj ?_;unfold bsz at Kw ⊢;rw[Rm] at Kw;exact Kw
    |mv=>trivial
 ·intro i i' k x y hl Hm hb F8;simp only at hl Hm
  have key:∀j z,j≠id->j≠d->Cc (s.hp j)->β j=some (k,z)->bo=some (k,y)∨bo=some (k,x)->False:=by
   intro j z e e' hlj hβj hbk;have hk:=h.blt j k z (Ca hlj) hβj;have:∃t,bo=some (k,t):=by rcases hbk with q|q<;>exact⟨_,q⟩
   obtain⟨t,ht⟩:=this;rcases (ES k t ht).2 with Hj|⟨q,hq⟩
   ·omega
   ·exact e (h.inj j id k z q hlj IQ hβj hq)
  rcases Fe i hl with rfl|⟨e,e',YS⟩
  ·rcases Fe i' Hm with rfl|⟨e2,e2',Ag2⟩
   ·rfl
   ·rw[Ah] at hb;rw[Ad _ _ e2'] at F8;exact (key i' y e2 e2' Ag2 F8 (.inr hb)).elim
  ·rcases Fe i' Hm with rfl|⟨e2,e2',Ag2⟩
   ·rw[Ah] at F8;rw[Ad _ _ e'] at hb;exact (key i x e e' YS hb (.inl F8)).elim
   ·rw[Ad _ _ e'] at hb;rw[Ad _ _ e2'] at F8;exact h.inj i i' k x y YS Ag2 hb F8
 ·intro i k x hi hb;simp only at hi;by_cases e':i=d
  ·subst e';rw[Ah] at hb;exact (ES k x hb).1
  ·rw[Ad _ _ e'] at hb
   have EJ:s.hp i≠none:=by
    by_cases e:i=id
    ·subst e;rw[h0];simp
    ·rw[hget i e e'] at hi;exact hi
   exact Nat.lt_of_lt_of_le (h.blt i k x EJ hb) JI
 ·have:=Lf (d:=some d) (Q:=fun _ p _=>∀j∈A9 p,Bu (Bu s.hp id (some A3.mv)) d (some (.ar false cells)) j≠none) (val:=val) (v:=v) h.tsz (by simp[E6,Nat.blt];omega) (fun i hi j hj=>hnn j (h.wfT i hi j hj)) (fun _ j hj=>by
   rw[hr j hj,hgd];simp)
  exact this
 ·intro i cc hc p hp j hj;simp only at hc;by_cases e':i=d
  ·subst e';rw[hgd] at hc;cases hc
  ·by_cases e:i=id
   ·subst e;rw[Afg] at hc;cases hc
   ·rw[hget i e e'] at hc;exact hnn j (h.wfB i cc hc p hp j hj)
 ·rintro k ⟨i,x,hl,hβ⟩
  rcases Fe i hl with rfl|⟨e,e',hl⟩
  ·rw[Ah] at hβ;rcases (ES k x hβ).2 with Hj|⟨y,hy⟩
   ·exact .inr (Nat.le_trans h.fr.step.size Hj)
   ·exact h.ownd k ⟨id,y,IQ,hy⟩
  ·rw[Ad _ _ e'] at hβ;exact h.ownd k ⟨i,x,hl,hβ⟩
 ·intro i bi k x Ws hli hβ hlt j hj;simp only at Ws;rcases Fe i (by rw[Ws];exact hli) with rfl|⟨e,e',hl⟩
  ·rw[Ah] at hβ;rw[hgd] at Ws;cases Ws;have:=GU k x hβ (Nat.lt_of_lt_of_le hlt h.fr.step.size);exact h.rngB id (.ar false c) k x h0 trivial this hlt j hj
  ·rw[hget i e e'] at Ws;rw[Ad _ _ e'] at hβ;exact h.rngB i bi k x Ws hli hβ hlt j hj
 ·intro i hi;exact⟨hnn _ (h.pin i hi).1,by rw[hβo _ (h.pin i hi).1];exact (h.pin i hi).2⟩
 ·intro i cc k x Ws hβ hlt;simp only at Ws;rcases Fe i (by rw[Ws];trivial) with rfl|⟨e,e',hl⟩
  ·rw[hgd] at Ws;cases Ws
  ·rw[hget i e e'] at Ws;rw[Ad _ _ e'] at hβ;exact h.stp i cc k x Ws hβ hlt
 ·intro k hY hx;exact h.Yx k hY (hX k (Nat.lt_of_lt_of_le (h.Ylt k hY) h.fr.step.size) hx)
 ·refine⟨hos.trans h.fr.os,htp.trans h.fr.tape,EH.trans h.fr.output,⟨Nat.le_trans h.fr.step.size JI,fun k hk hnk=>?_,fun k hk=>(h.fr.step.bs k hk).trans (We k (Nat.lt_of_lt_of_le hk h.fr.step.size))⟩,fun k j hk hL=>?_⟩
  ·rw[Ix k (Nat.lt_of_lt_of_le hk h.fr.step.size) ?_]
   ·exact h.fr.step.keep k hk hnk
   ·intro x hx;rcases h.ownd k ⟨id,x,IQ,hx⟩ with hq|hq
    ·exact hnk hq
    ·omega
  ·have hkw:=Nat.lt_of_lt_of_le hk h.fr.step.size
   have Vo:w'.cell? ⟨k,j,none⟩=w.cell? ⟨k,j,none⟩∧w'.frozen? ⟨k,j,none⟩=w.frozen? ⟨k,j,none⟩:=by
    by_cases e:∃y,β id=some (k,y)
    ·obtain⟨y,hy⟩:=e;refine hO k y hy hkw j ?_;rcases Nat.lt_or_ge j y with q|q
     ·exact q
     ·exact absurd (h.rngB id (.ar false c) k y h0 trivial hy hk j q) hL
    ·have Rm:=Ix k hkw (fun x hx=>e ⟨x,hx⟩)
     exact⟨World.cell?_of_block (w:=w) Rm,World.frozen?_of_block (w:=w) Rm⟩
   rw[Vo.1,Vo.2];exact h.fr.rng k j hk hL
end
open Go.RowKit
section
variable {R:Type} {r:R} {P:Program} {N:Nat} {w0:World} {X0:F9} {Y:Nat->Prop} {β β':Bt} {s:St} {a:Act} {w w':World} {o:Oper} {A:Nat->Prop}
structure Src (P:Program) (w:World) (A:Nat->Prop) (size:Nat) (xv:Value) (m:Nat) (new:List PV) (news:List Value):Prop where
 len:∀w':World,(Builtin.lenOf xv).run P w'=.ok m w'
 cells:∀w':World,(∀b,b<w.heap.size->w'.heap[b]?=w.heap[b]?)->(Builtin.firstCells size m xv).run P w'=.ok news.toArray w'
 part:∀k,k<=m->(Builtin.firstCells size k xv).run P w=.ok (news.take (k*size)).toArray w
 one:∀u∈news,u.oneCell'=true
 rep:Av (An w A) new news
theorem Z3 (h:B3 N w0 X0 Y β s a w){e tx:TypeId}{x:Operand}{K:Nat->List PV->Option R}(hk:OD P s (At P e) tx (Bf s.tm x) K=some r)
  (h1c:∀m new,K m new=some r->new.length=m*At P e):
  (∃d,P.underlying tx=some d∧(∀k,d ≠ .int k))∧∃m new news,K m new=some r∧Src P w (Cd s.hp β Y) (At P e) (a.eval x) m new news:=by
 unfold OD MD at hk;split at hk
 ·rename_i hu;obtain⟨R2,hk⟩:=Ag hk;have R2:=Nat.eq_of_beq_eq_true R2;obtain⟨b,hx,hk⟩:=Cm hk;have Cf:=Bl h hx;refine⟨⟨_,hu,by simp⟩,b.size,Fd b,b.data.toList.map (fun y=>Value.int .u8 y.toNat),hk,?_,?_,?_,?_,?_⟩
  ·intro w';rw[Cf];rfl
  ·intro w' _;rw[Cf]
   have hx:b.data.extract 0 b.size=b.data:=by
    have:b.size=b.data.size:=rfl;rw[this,Array.extract_size]
   have hd:(b.extract 0 b.size).data=b.data:=by
    rw[ByteArray.extract_zero_size]
   simp only[Builtin.firstCells,hd];rw[←Array.toList_map,Array.toArray_toList];rfl
  ·intro k Hj;rw[Cf,R2,Nat.mul_one];have hd:(b.extract 0 k).data=b.data.extract 0 k:=ByteArray.data_extract
   have e1:(b.data.extract 0 k).map (fun y=>Value.int .u8 y.toNat)=((b.data.toList.map fun y=>Value.int .u8 y.toNat).take k).toArray:=by
    apply Array.toList_inj.1;simp[List.map_take]
   simp only[Builtin.firstCells,hd];rw[e1];rfl
  ·intro u hu;simp at hu;obtain⟨y,_,rfl⟩:=hu;rfl
  ·unfold Fd;generalize b.data.toList=l
   induction l with
   |nil=>trivial
   |cons y l ih=>exact⟨An.sc _,ih⟩
 ·rename_i e' hu;refine⟨⟨_,hu,by simp⟩,?_⟩
  obtain⟨m,new,hk,hc⟩:=Xq h hk;have Dv:=h1c m new hk;rcases hc with⟨⟨ad,Cf⟩,rfl,rfl⟩|⟨ad,cap,Cf,hn,hlt,hrd⟩
  ·have f0:∀w':World,(Builtin.firstCells (At P e) 0 (.slice ad 0 0)).run P w'=.ok #[] w':=fun w'=>by
    cases ad with
    |none=>rfl
    |some p=>exact run_firstCells_some (P:=P) w' (At P e) 0 p 0 0 [] (by simp) (fun j v hj=>by simp at hj)
   exact⟨0,[],[],hk,fun w'=>by rw[Cf];rfl,fun w' _=>by rw[Cf];exact f0 w',fun k Hj=>by rw[Cf,Nat.le_zero.1 Hj,List.take_nil];exact f0 w,by simp,trivial⟩
  ·refine⟨m,new,new.mapIdx (fun j _=>(w.cell? (ad.add j)).getD undef),hk,fun w'=>by rw[Cf];rfl,fun w' hw=>?_,fun k Hj=>?_,?_,?_⟩
   ·rw[Cf];refine run_firstCells_some (P:=P) w' (At P e) m ad m cap _ (by simp[Dv]) fun j v hj=>?_
    rw[List.getElem?_mapIdx] at hj;cases hc:new[j]? with
    |none=>rw[hc] at hj;cases hj
    |some c=>
     rw[hc] at hj;simp at hj;obtain⟨u,hu,_⟩:=hrd j c hc;rw[hu] at hj;simp at hj;subst hj;have hlt:ad.block<w.heap.size:=by rcases hlt with rfl|hlt<;>first|exact hlt|simp at hc
     rw[World.cell?_of_block (w:=w) (by rw[D9];exact hw _ hlt)]
     exact hu
   ·rw[Cf];have hkm:k*At P e<=m*At P e:=Nat.mul_le_mul_right _ Hj;refine run_firstCells_some (P:=P) w (At P e) k ad m cap _ (by rw[List.length_take,List.length_mapIdx,Dv];omega) fun j v hj=>?_
    rw[List.getElem?_take] at hj;split at hj
    ·rw[List.getElem?_mapIdx] at hj;cases hc:new[j]? with
     |none=>rw[hc] at hj;cases hj
     |some c=>
      rw[hc] at hj;simp at hj;obtain⟨u,hu,_⟩:=hrd j c hc;rw[hu] at hj;simp at hj;subst hj;exact hu
    ·cases hj
   ·intro u hu;obtain⟨j,hj⟩:=List.mem_iff_getElem?.1 hu;rw[List.getElem?_mapIdx] at hj;cases hc:new[j]? with
    |none=>rw[hc] at hj;cases hj
    |some c=>
     rw[hc] at hj;simp at hj;obtain⟨v,hv,h2,ht⟩:=hrd j c hc;rw[hv] at hj;simp at hj;subst hj;exact h2
   ·refine Av.of_at (by simp) fun j c v hc hj=>?_
    rw[List.getElem?_mapIdx,hc] at hj;simp at hj;obtain⟨u,hu,_,ht⟩:=hrd j c hc;rw[hu] at hj;simp at hj;subst hj;exact ht
 ·cases hk
theorem Z1 {e:TypeId}(h:FB P e=true):∃i z,P.info? e=some i∧i.zero=some z∧z.cells.size=i.size∧At P e=i.size:=by
 unfold FB at h;split at h
 ·rename_i i hi;split at h
  ·rename_i z hz;exact⟨i,z,hi,hz,Nat.eq_of_beq_eq_true h,by simp[At,hi]⟩
  ·cases h
 ·cases h
theorem run_first_slice {es n cap:Nat}{ad:Option Addr}{olds:List Value}(h:(ad=none∧olds=[])∨∃p,ad=some p∧olds.length=n*es∧∀(j:Nat) v,olds[j]?=some v->w.cell? (p.add j)=some v):
  (Builtin.firstCells es n (.slice ad n cap)).run P w=.ok olds.toArray w:=by
 rcases h with⟨rfl,rfl⟩|⟨p,rfl,hl,hc⟩
 ·rfl
 ·exact run_firstCells_some (P:=P) w es n p n cap olds hl hc
theorem append_grow_run {t tx ty e:TypeId}{i:TypeInfo}{z:Value}{d:TypeDesc}{ts:List TypeId}(ht:P.underlying t=some (.slice e)) (SK:P.underlying tx=some d)(hd:∀k,d ≠ .int k)(hi:P.info? e=some i)(hz:i.zero=some z)
  {ad:Option Addr} {n cap m:Nat} {xv:Value} {olds news:List Value} {A:Nat->Prop} {new:List PV} (hs:Src P w A i.size xv m new news)
  (hold:(ad=none∧olds=[])∨∃p,ad=some p∧olds.length=n*i.size∧∀(j:Nat) v,olds[j]?=some v->w.cell? (p.add j)=some v)
  (hg:cap<n+m)(hb:(n+m)*i.bytes<=1099511627776) (h63:n+m<=1099511627776):
  (Builtin.append_ (t::tx::ts).toArray ty #[.slice ad n cap,xv]).run P w =
   .ok (.slice (some ⟨w.heap.size,0,none⟩) (n+m) (grownCap w (n+m) cap e)) (w.drew.alloc (.cells (olds.toArray++news.toArray++Builtin.zeroCells z.cells (grownCap w (n+m) cap e-(n+m))) e)):=by
 have h1:=hs.len w;have h2:(Builtin.firstCells i.size m xv).run P w.drew=.ok news.toArray w.drew:=hs.cells w.drew (fun _ _=>rfl)
 have h3:(Builtin.firstCells i.size n (.slice ad n cap)).run P w.drew=.ok olds.toArray w.drew:=run_first_slice (w:=w.drew) (by
  rcases hold with hh|⟨p,hp,hl,hc⟩
  ·exact .inl hh
  ·exact .inr ⟨p,hp,hl,fun j v hj=>hc j v hj⟩)
 have Ady:=growslice_fits (need:=n+m) (old:=cap) (bytes:=i.bytes) hg (by omega)
 have hn:¬(n+m<=cap):=by omega
 have Adh:¬(9223372036854775807<((n:Int)+(m:Int))):=by omega
 have Aeb:¬(281474976710656<Builtin.nextslicecap (n+m) cap*i.bytes):=by omega
 have Yr:(match d with | .int _=>true|_=>false)=false:=by cases d<;>first|rfl|exact absurd rfl (hd _)
 simp[Builtin.append_,run_underlying ht,run_underlying SK,Yr,sizeOf,typeInfo,zeroValue,hi,hz,h1,hn,Adh,Aeb,Question.forced,h2,h3,newRow,grownCap]
 congr 2
 apply Array.ext';simp[List.append_assoc]
theorem append_room_run {t tx ty e:TypeId}{i:TypeInfo}{d:TypeDesc}{ts:List TypeId}(ht:P.underlying t=some (.slice e)) (SK:P.underlying tx=some d)(hd:∀k,d ≠ .int k)(hi:P.info? e=some i)
  {b ob n cap m:Nat} {xv:Value} {news:List Value} {A:Nat->Prop} {new:List PV} (hs:Src P w A i.size xv m new news) (hl:news.length=m*i.size)
  (hcell:∀k,k<news.length->(w.cell? ⟨b,ob+n*i.size+k,none⟩).isSome=true) (hfr:∀k,k<news.length->w.frozen? ⟨b,ob+n*i.size+k,none⟩=false)(hg:n+m<=cap):
  (Builtin.append_ (t::tx::ts).toArray ty #[.slice (some ⟨b,ob,none⟩) n cap,xv]).run P w=.ok (.slice (some ⟨b,ob,none⟩) (n+m) cap) (w.setCells b (ob+n*i.size) news):=by
 have h1:=hs.len w;have h2:(Builtin.firstCells i.size m xv).run P w=.ok news.toArray w:=hs.cells w (fun _ _=>rfl)
 have h3:=run_storeCells_cells (P:=P) b (ob+n*i.size) news 0 w (fun k hk=>by simpa using hcell k hk) (fun k hk=>by simpa using hfr k hk) hs.one
 have Yr:(match d with | .int _=>true|_=>false)=false:=by cases d<;>first|rfl|exact absurd rfl (hd _)
 have _:=hl;simp[Builtin.append_,run_underlying ht,run_underlying SK,Yr,sizeOf,typeInfo,hi,h1,hg,h2,Bq];rw[h3];simp
theorem HN {t ty e:TypeId}{i:TypeInfo}{ts:List TypeId}(ht:P.underlying t=some (.slice e)) (hi:P.info? e=some i)
  {ad:Option Addr} {n cap m:Nat} {xv:Value} {news:List Value} {A:Nat->Prop} {new:List PV} (hs:Src P w A i.size xv m new news)
  {w1:World} (Jp:(match ad with|some p=>storeCells p (news.take (min m n*i.size)) 0|none=>pure ()).run P w=.ok () w1):
  (Builtin.copy_ (t::ts).toArray ty #[.slice ad n cap,xv]).run P w=.ok (goInt ((min m n:Nat):Int)) w1:=by
 have h1:=hs.len w;have h2:=hs.part (min m n) (Nat.min_le_left _ _);have e:Nat.min m n=min m n:=rfl;generalize min m n=k at *
 cases ad with
 |none=>
  simp only at Jp;simp[Builtin.copy_,run_underlying ht,sizeOf,typeInfo,hi,h1,h2,e]
  simpa using Jp
 |some p=>
  simp only at Jp;simp[Builtin.copy_,run_underlying ht,sizeOf,typeInfo,hi,h1,h2,e,Jp]
theorem Ui {t tx ty e:TypeId}{i:TypeInfo}{k kx:IntKind}{ts:List TypeId}(ht:P.underlying t=some (.slice e)) (SK:P.underlying tx=some (.int k)) (hi:P.info? e=some i):
  (Builtin.append_ (t::tx::ts).toArray ty #[.slice none 0 0,.int kx 0]).run P w=.ok (.slice none 0 0) w:=by
 have hw:IntKind.i64.wrap 0=0:=by decide
 simp[Builtin.append_,run_underlying ht,run_underlying SK,sizeOf,typeInfo,hi,asInt,asIntOf,hw]
theorem Wl {t tx ty e:TypeId}{i:TypeInfo}{z:Value}{k kx:IntKind}{ts:List TypeId}(ht:P.underlying t=some (.slice e)) (SK:P.underlying tx=some (.int k)) (hi:P.info? e=some i)(hz:i.zero=some z)
  {n:Int} (h0:0<n) (hb:n.toNat*i.bytes<=1099511627776) (hn:n<=1099511627776):
  (Builtin.append_ (t::tx::ts).toArray ty #[.slice none 0 0,.int kx n]).run P w =
   .ok (.slice (some ⟨w.heap.size,0,none⟩) n.toNat (grownCap w n.toNat 0 e)) (w.drew.alloc (.cells ((if n.toNat*i.size=0 then #[] else Builtin.zeroCells z.cells n.toNat)++Builtin.zeroCells z.cells (grownCap w n.toNat 0 e-n.toNat)) e)):=by
 have hw:IntKind.i64.wrap n=n:=IntWalk.i64_in n (by omega)
 have Ady:=growslice_fits (need:=n.toNat) (old:=0) (bytes:=i.bytes) (by omega) (by omega)
 have GW:¬n<0:=by omega
 have hnn:¬(281474976710656<n*(i.bytes:Int)):=by
  have:n*(i.bytes:Int)=((n.toNat*i.bytes:Nat):Int):=by
   rw[Int.natCast_mul,Int.toNat_of_nonneg (by omega)]
  omega
 have GC:¬(n.toNat=0):=by omega
 have Adh:¬(9223372036854775807<(n.toNat:Int)):=by omega
 have Aeb:¬(281474976710656<Builtin.nextslicecap n.toNat 0*i.bytes):=by omega
 have Vl:¬n<=0:=by omega
 have hmx:¬(9223372036854775807<max n 0):=by omega
 by_cases hs:n.toNat*i.size=0
 ·simp[Builtin.append_,run_underlying ht,run_underlying SK,sizeOf,typeInfo,zeroValue,hi,hz,asInt,asIntOf,hw,GW,hnn,GC,Vl,hmx,Adh,Aeb,Question.forced,hs,newRow,grownCap,Builtin.firstCells]
 ·simp[Builtin.append_,run_underlying ht,run_underlying SK,sizeOf,typeInfo,zeroValue,hi,hz,asInt,asIntOf,hw,GW,hnn,GC,Vl,hmx,Adh,Aeb,Question.forced,hs,newRow,grownCap,Builtin.firstCells]
theorem Jg {t tx ty e:TypeId}{i:TypeInfo}{d:TypeDesc}{ts:List TypeId}(ht:P.underlying t=some (.slice e)) (SK:P.underlying tx=some d)(hd:∀k,d ≠ .int k)(hi:P.info? e=some i)
  {ad:Option Addr} {xv:Value} {news:List Value} {A:Nat->Prop} {new:List PV} (hs:Src P w A i.size xv 0 new news) (h0:news=[]):
  (Builtin.append_ (t::tx::ts).toArray ty #[.slice ad 0 0,xv]).run P w=.ok (.slice ad 0 0) w:=by
 subst h0;have h1:=hs.len w;have h2:(Builtin.firstCells i.size 0 xv).run P w=.ok ([]:List Value).toArray w:=hs.cells w (fun _ _=>rfl)
 have Yr:(match d with | .int _=>true|_=>false)=false:=by cases d<;>first|rfl|exact absurd rfl (hd _)
 cases ad<;>simp[Builtin.append_,run_underlying ht,run_underlying SK,Yr,sizeOf,typeInfo,hi,h1,h2,storeCells]
end
open Go.RowKit
section
variable {R:Type} {r:R} {P:Program} {N:Nat} {w0:World} {X0:F9} {Y:Nat->Prop} {β β':Bt} {s:St} {a:Act} {w w':World} {o:Oper} {A:Nat->Prop}
theorem Ff {b j:Nat}(h:j<bsz w b):(w.cell? ⟨b,j,none⟩).isSome=true:=by
 unfold bsz at h;unfold World.cell?;split at h
 ·rename_i c e fz hb;simp[hb,h]
 ·omega
theorem NL {id d:Nat}{c cells:List PV}{bo:Option (Nat × Nat)} (h0:s.hp id=some (.ar false c)) (hd:s.hp d=none)
  (ES:∀k x,bo=some (k,x)->w.heap.size<=k∨∃y,β id=some (k,y)):
  ∀k,k<w.heap.size->Cd (Bu (Bu s.hp id (some .mv)) d (some (.ar false cells))) (Bu β d bo) Y k->Cd s.hp β Y k:=by
 rintro k hk (⟨i,x,hl,hβ⟩|hY)
 ·by_cases e':i=d
  ·subst e';rw[Ah] at hβ;rcases ES k x hβ with h|⟨y,hy⟩
   ·omega
   ·exact .inl ⟨id,y,by rw[h0];trivial,hy⟩
  ·rw[Ad _ _ e'] at hl hβ;by_cases e:i=id
   ·subst e;rw[Ah] at hl;exact hl.elim
   ·rw[Ad _ _ e] at hl;exact .inl ⟨i,x,hl,hβ⟩
 ·exact .inr hY
theorem Yo {pre new:List PV}{olds news:List Value}{zs:Array Value}{e:TypeId}{A':Nat->Prop}(hg:Cx w w' (olds.toArray++news.toArray++zs) e) (hA:∀b,b<w.heap.size->A' b->A b)
  (h1:Av (An w A) pre olds) (h2:Av (An w A) new news) (ho:∀u∈olds,u.oneCell'=true)(hn:∀u∈news,u.oneCell'=true):Se w' A' ⟨w.heap.size,0,none⟩ (pre++new):=by
 refine OQ hg hA fun j p hj=>?_
 obtain⟨v,hv,ht⟩:=(h1.app h2).get hj;refine⟨v,?_,?_,ht⟩
 ·have hlt:j<(olds++news).length:=by
   rcases Nat.lt_or_ge j (olds++news).length with h|h
   ·exact h
   ·rw[List.getElem?_eq_none h] at hv;cases hv
  rw[Array.getElem?_append_left (by simpa using hlt)]
  simpa using hv
 ·rcases List.mem_append.1 (List.mem_of_getElem? hv) with hm|hm
  ·exact ho v hm
  ·exact hn v hm
theorem EC (h:B3 N w0 X0 Y β s a w){c:Call}(ho:o.op=.call c)(hc:c.callee=.builtin .append)(VT:S6 c=true){d:Nat}(UP:o.dst=some d){b x:Operand}(Dp:c.args.toList=[b,x]) {t tx:TypeId}{ts:List TypeId}(Wm:c.argTypes.toList=t::tx::ts)
  {K:PV->List (Nat × A3)->Option R} (hk:Pu P (Hf s.hp) d t tx (Bf s.tm x) K=some r):∃v nw,K v nw=some r∧Dd P a w o Y β s v [] nw:=by
 have hb:b=.const (.slice none 0 0):=by
  unfold S6 at VT;rw[Dp] at VT;split at VT
  ·rename_i e;injection e
  ·cases VT
 have Zc:c.args = #[b,x]:=by
  have:c.args=([b,x]:List Operand).toArray:=by rw[←Dp]
  exact this
 have JO:c.argTypes=(t::tx::ts).toArray:=by rw[←Wm]
 have L0:a.eval b=.slice none 0 0:=by rw[hb];rfl
 have run:∀{v:Value} {w1:World},(Builtin.append_ (t::tx::ts).toArray o.type #[a.eval b,a.eval x]).run P w=.ok v w1->(execOp a.eval o).run P w=.ok (.value v) w1:=by
  intro v w1 hr;unfold execOp;rw[ho];simp only[resolve,hc,invoke,builtin,Sem.run_bind,Sem.run_pure,Result.andThen_ok,Zc,JO];have:(#[b,x]:Array Operand).map a.eval = #[a.eval b,a.eval x]:=by simp
  rw[this,hr];rfl
 unfold Pu at hk;split at hk
 ·rename_i e hu;obtain⟨TZ,hk⟩:=Ag hk;obtain⟨i,z,hi,hz,K5,J1⟩:=Z1 TZ;have Ov:((P.info? e).map (·.bytes)).getD 0=i.bytes:=by rw[hi];rfl
  obtain⟨⟨dx,hdx,HJ⟩,m,new,news,hk,hs⟩:=Z3 (s:=s) h hk (fun m new Hj=>by
   obtain⟨hb,_⟩:=Ag Hj;simp only[Bool.and_eq_true,decide_eq_true_eq] at hb;exact hb.1.1)
  obtain⟨F8,hk⟩:=Ag hk;simp only[Bool.and_eq_true,decide_eq_true_eq] at F8;obtain⟨⟨OM,WV⟩,hnm⟩:=F8;have Zk:new.length=news.length:=hs.rep.len;rw[J1] at OM hk hs;rw[Ov] at WV;have Vt:news.length=m*i.size:=by omega
  refine⟨_,_,hk,by simp,?_⟩
  by_cases hm0:m=0
  ·subst hm0;have hr:=Jg (P:=P) (w:=w) (t:=t) (tx:=tx) (ty:=o.type) (ts:=ts) (ad:=none) hu hdx HJ hi hs (List.eq_nil_of_length_eq_zero (by omega))
   rw[←L0] at hr;have IA:new=[]:=List.eq_nil_of_length_eq_zero (by omega)
   subst IA;refine⟨_,_,run hr,fun YV=>⟨Bu β d none,?_⟩⟩
   have R0:s.hp d=none:=(Az YV).1 d _ (List.mem_singleton_self _);rw[L0];refine⟨rfl,rfl,rfl,Bh.refl _ _,fun j hj=>Ad _ _ (by rintro rfl;exact hj R0),?_,?_,?_,?_,?_,.inl ⟨Ah _ _ _,rfl,rfl,none,rfl⟩,?_⟩
   ·intro j bx hm;simp at hm;rw[hm.2];trivial
   ·intro j bx hm;simp at hm;obtain⟨rfl,rfl⟩:=hm;exact .inl ⟨Ah _ _ _,rfl⟩
   ·intro j bx k q hm hq;simp at hm;obtain⟨rfl,rfl⟩:=hm;rw[Ah] at hq;cases hq
   ·intro j bx j' bx' k q q' hm Jv _ _;simp at hm Jv;rw[hm.1,Jv.1]
   ·intro j cells hm;simp at hm
   ·intro j hj;simp[A9,Bn,Ak] at hj;subst hj;exact .inr ⟨.ar false [],by simp⟩
  ·have hr:=append_grow_run (P:=P) (w:=w) (t:=t) (tx:=tx) (ty:=o.type) (ts:=ts) (ad:=none) (n:=0) (cap:=0) (olds:=[]) hu hdx HJ hi hz hs (.inl ⟨rfl,rfl⟩) (by omega) (by rw[Nat.zero_add];exact WV) (by omega)
   rw[←L0] at hr;refine⟨_,_,run hr,fun YV=>⟨Bu β d (some (w.heap.size,0)),?_⟩⟩
   have R0:s.hp d=none:=(Az YV).1 d _ (List.mem_singleton_self _);have VU:0+m<=grownCap w (0+m) 0 e:=grownCap_ge w (0+m) 0 e
   have Rx:Cx w (w.drew.alloc (.cells (([]:List Value).toArray++news.toArray++Builtin.zeroCells z.cells (grownCap w (0+m) 0 e-(0+m))) e)) (([]:List Value).toArray++news.toArray++Builtin.zeroCells z.cells (grownCap w (0+m) 0 e-(0+m))) e:=
    ⟨rfl,rfl,rfl,fun k hk=>Below.heap_alloc w.drew _ k hk,by show (w.heap.push _).size=_;simp,(0,0),by show (w.heap.push _)[w.heap.size]?=_;simp,.inl rfl⟩
   have NW:(([]:List Value).toArray++news.toArray++Builtin.zeroCells z.cells (grownCap w (0+m) 0 e-(0+m))).size=grownCap w (0+m) 0 e*i.size:=by
    simp only[Array.size_append,List.size_toArray,size_zeroCells,K5,Vt,List.length_nil,←Nat.add_mul];rw[Nat.zero_add (m*i.size),←Nat.add_mul]
    congr 1
    omega
   refine Mr (s:=⟨s.tm,Ac s.hp []⟩) Rx R0 trivial ?_ (fun cells hx=>by cases hx) ?_ (by intro j hj;simp[A9,Bn,Ak] at hj;exact .inr hj)
   ·refine .inr ⟨w.heap.size,0,Ah _ _ _,?_,fun _ j _ hj=>?_,(fun q=>by cases q)⟩
    ·exact Yo (pre:=[]) Rx (OZ (s:=⟨s.tm,Ac s.hp []⟩) R0) trivial hs.rep (by simp) hs.one
    ·rw[Rx.bsz] at hj;exact Rx.frozen hj
   ·refine .inr ⟨w.heap.size,0,0,grownCap w (0+m) 0 e,Ah _ _ _,by rw[Nat.zero_add],.inl rfl,by omega,?_,by rw[Rx.size];omega⟩
    exact⟨by rw[Rx.bsz,NW];omega,.inr (Ib w.drew _ e)⟩
 ·cases hk
theorem JD {lo hi:Option Operand}{y3:Operand}{k3:IntKind}{len cap l u m:Nat}(hl:(lo=none∧l=0)∨∃y k,lo=some y∧a.eval y=.int k (l:Int))
  (hu:∃y k,hi=some y∧a.eval y=.int k (u:Int)) (hm:a.eval y3=.int k3 (m:Int)) (h1:l<=u)(h2:u<=m)(h3:m<=cap):
  (Instr.sliceBounds true len cap (lo.map a.eval) (hi.map a.eval) (some (a.eval y3))).run P w=.ok (l,u,m) w:=by
 obtain⟨y,k,rfl,hy⟩:=hu;rcases hl with⟨rfl,rfl⟩|⟨y',k',rfl,hy'⟩
 ·simp[Instr.sliceBounds,Instr.sliceBound,asIntOf,hy,hm,h2,h3]
 ·simp[Instr.sliceBounds,Instr.sliceBound,asIntOf,hy,hy',hm,h1,h2,h3]
theorem FX (h:B3 N w0 X0 Y β s a w){t:TypeId}{x m:Operand}{lo hi:Option Operand}(ho:o.op=.slice t x lo hi (some m)) {d:Nat}{K:PV->List (Nat × A3)->Option R}
  (hk:Pn P d t (Bf s.tm x) (lo.map (Bf s.tm)) (hi.map (Bf s.tm)) (some (Bf s.tm m)) K=some r):∃v nw,K v nw=some r∧Dd P a w o Y β s v [] nw:=by
 have hx:=Cb h x;unfold Pn at hk;split at hk
 ·rename_i e hu;obtain⟨hb,hk⟩:=Ag hk;simp only[Bool.and_eq_true] at hb;obtain⟨Lv,hhi⟩:=hb
  obtain⟨yh,rfl⟩:∃y,hi=some y:=by
   cases hi with
   |none=>simp at hhi
   |some y=>exact⟨y,rfl⟩
  have fin:∀{ad:Option Addr} {n cap l u q:Nat},a.eval x=.slice ad n cap->n<=cap->((lo=none∧l=0)∨∃y k,lo=some y∧a.eval y=.int k (l:Int))->((some yh=none∧u=n)∨∃y k,some yh=some y∧a.eval y=.int k (u:Int))->(((some m:Option Operand)=none∧q=n)∨∃y k,(some m:Option Operand)=some y∧a.eval y=.int k (q:Int)) ->
    (Nat.beq l q&&Nat.beq u q&&decide (q<=n))=true->Dd P a w o Y β s (.view d (At P e) 0 0) [] [(d,.ar false [])]:=by
   intro ad n cap l u q Cf hn hl G4 hq hb;simp only[Bool.and_eq_true,decide_eq_true_eq] at hb;obtain⟨⟨b1,b2⟩,b3⟩:=hb;have b1:=Nat.eq_of_beq_eq_true b1;have b2:=Nat.eq_of_beq_eq_true b2;subst b1 b2
   have hu2:∃y k,(some yh:Option Operand)=some y∧a.eval y=.int k (u:Int):=by
    rcases G4 with⟨e,_⟩|e
    ·cases e
    ·exact e
   obtain⟨k3,hm3⟩:∃k,a.eval m=.int k (u:Int):=by
    rcases hq with⟨e,_⟩|⟨y,k,e,q⟩
    ·cases e
    ·cases e;exact⟨k,q⟩
   have GU:=JD (P:=P) (w:=w) (len:=n) (cap:=cap) hl hu2 hm3 (Nat.le_refl _) (Nat.le_refl _) (by omega)
   have Bv:∃ad',(execOp a.eval o).run P w=.ok (.value (.slice ad' 0 0)) w:=by
    unfold execOp;rw[ho];cases ad with
    |none=>exact⟨none,by simp[Instr.sliceAt,Instr.slice,run_underlying hu,Cf,GU,B2 Lv] at GU ⊢⟩
    |some p=>exact⟨some p,by simp[Instr.sliceAt,Instr.slice,run_underlying hu,Cf,GU,B2 Lv] at GU ⊢⟩
   obtain⟨ad',Bv⟩:=Bv;refine⟨by simp,_,_,Bv,fun YV=>⟨Bu β d none,?_⟩⟩
   have R0:s.hp d=none:=(Az YV).1 d _ (List.mem_singleton_self _);refine⟨rfl,rfl,rfl,Bh.refl _ _,fun j hj=>Ad _ _ (by rintro rfl;exact hj R0),?_,?_,?_,?_,?_,.inl ⟨Ah _ _ _,rfl,rfl,ad',rfl⟩,?_⟩
   ·intro j bx hm;simp at hm;rw[hm.2];trivial
   ·intro j bx hm;simp at hm;obtain⟨rfl,rfl⟩:=hm;exact .inl ⟨Ah _ _ _,rfl⟩
   ·intro j bx k q hm hq;simp at hm;obtain⟨rfl,rfl⟩:=hm;rw[Ah] at hq;cases hq
   ·intro j bx j' bx' k q q' hm Jv _ _;simp at hm Jv;rw[hm.1,Jv.1]
   ·intro j cells hm;simp at hm
   ·intro j hj;simp[A9,Bn,Ak] at hj;subst hj;exact .inr ⟨.ar false [],by simp⟩
  split at hk
  ·rename_i id es off n e';rw[e'] at hx;obtain⟨R2,hk⟩:=Ag hk;obtain⟨l,hk,hl⟩:=Cz h hk;obtain⟨u,hk,G4⟩:=Cz h hk;obtain⟨q,hk,hq⟩:=Cz (x:=some m) h hk;obtain⟨hb,hk⟩:=Ag hk;refine⟨_,_,hk,?_⟩;rcases hx with⟨hβ,_,rfl,ad,Cf⟩|⟨b,ob,y,cap,hβ,Cf,hy,hn,Qb,hlt⟩
   ·exact fin Cf (Nat.le_refl _) hl G4 hq hb
   ·exact fin Cf hn hl G4 hq hb
  ·obtain⟨z,n,c,hk,hp⟩:=Eg hk;obtain⟨l,hk,hl⟩:=Cz h hk;obtain⟨u,hk,G4⟩:=Cz h hk;obtain⟨q,hk,hq⟩:=Cz (x:=some m) h hk;obtain⟨hb,hk⟩:=Ag hk;refine⟨_,_,hk,?_⟩;rcases E9 hp hx with⟨Cf,rfl,rfl⟩|⟨ad,cap,Cf,_,hn,_⟩|⟨ad,cap,Cf,_,rfl,rfl⟩
   ·exact fin Cf (Nat.le_refl _) hl G4 hq hb
   ·exact fin Cf hn hl G4 hq hb
   ·exact fin Cf (Nat.zero_le _) hl G4 hq hb
 ·cases hk
end
open Go.RowKit
section
variable {R:Type} {r:R} {P:Program} {N:Nat} {w0:World} {X0:F9} {Y:Nat->Prop} {β β':Bt} {s:St} {a:Act} {w w':World} {o:Oper} {A:Nat->Prop}
theorem ZF (h:B3 N w0 X0 Y β s a w){G:Glo}(H1:IR P G w0 X0){C:Fy}{call:Aj}(C4:∀f args res,call f args=some res->C1 G P f args res){K:PV->List Nat->List (Nat × A3)->Option R}
  (hk:X1 C P N call s.tm (rd s.hp) (Hf s.hp) o K=some r):∃v fz nw,K v fz nw=some r∧Xn P a w o Y β s v fz nw:=by
 have one:∀{K':PV->Option R},(∀v,K' v=some r->K v [] []=some r)->(∃v,K' v=some r∧Dd P a w o Y β s v [] [])->∃v fz nw,K v fz nw=some r∧Xn P a w o Y β s v fz nw:=
  fun hK ⟨v,h1,h2⟩=>⟨v,[],[],hK v h1,Xl h2⟩
 have many:(∃v fz nw,K v fz nw=some r∧Dd P a w o Y β s v fz nw)->∃v fz nw,K v fz nw=some r∧Xn P a w o Y β s v fz nw:=
  fun ⟨v,fz,nw,h1,h2⟩=>⟨v,fz,nw,h1,Xl h2⟩
 unfold X1 at hk;split at hk
 ·rename_i x ho;exact one (fun _ h=>h) (Sm (K:=fun p=>K p [] []) h (SL ho) hk)
 ·rename_i x ho;exact one (fun _ h=>h) (Sm (K:=fun p=>K p [] []) h (IZ ho) hk)
 ·rename_i c x y ho;exact one (fun _ h=>h) (NH (K:=fun p=>K p [] []) h ho hk)
 ·rename_i t ho;obtain⟨d,hd,hk⟩:=Bm hk;exact many (IX ho hk)
 ·rename_i t x ho;obtain⟨d,hd,hk⟩:=Bm hk;exact many (UK h ho hk)
 ·rename_i t ps ho;exact one (fun _ h=>h) (HS (K:=fun p=>K p [] []) h ho hk)
 ·rename_i t n ps ho;obtain⟨d,hd,hk⟩:=Bm hk;exact many (Uw h ho hk)
 ·rename_i t x ho;exact one (fun _ h=>h) (MV (K:=fun p=>K p [] []) h ho hk)
 ·rename_i x ho;exact one (fun _ h=>h) (X3 (K:=fun p=>K p [] []) h ho hk)
 ·rename_i op t x y ty ho;exact one (fun _ h=>h) (KI (K:=fun p=>K p [] []) h ho hk)
 ·rename_i op t x ho;exact one (fun _ h=>h) (NV (K:=fun p=>K p [] []) h ho hk)
 ·rename_i src dst x ho;obtain⟨v,nw,hk,hg⟩:=NT h ho hk;obtain⟨d,hd,hk⟩:=Bm hk;exact⟨v,[],nw,hk,Xl hg⟩
 ·rename_i t x y ho;obtain⟨d,hd,hk⟩:=Bm hk;exact many (NR h ho hk)
 ·rename_i t x lo hi mx ho;split at hk
  ·exact one (fun _ h=>h) (JA (K:=fun p=>K p [] []) h ho hk)
  ·obtain⟨d,hd,hk⟩:=Bm hk;obtain⟨v,nw,h1,h2⟩:=FX h ho hk;exact⟨v,[],nw,h1,Xl h2⟩
 ·rename_i t x f ho;exact one (fun _ h=>h) (Wq (K:=fun p=>K p [] []) h ho hk)
 ·rename_i t x f ho;exact one (fun _ h=>h) (KL (K:=fun p=>K p [] []) h ho hk)
 ·rename_i t x i ho;exact one (fun _ h=>h) (Wt (K:=fun p=>K p [] []) h ho hk)
 ·rename_i t x i ho;exact one (fun _ h=>h) (JJ (K:=fun p=>K p [] []) h ho hk)
 ·rename_i t x k ok ho;exact one (fun _ h=>h) (DW (K:=fun p=>K p [] []) h ho hk)
 ·rename_i x i ho;exact one (fun _ h=>h) (AC (K:=fun p=>K p [] []) h ho hk)
 ·rename_i c ho;split at hk
  ·rename_i hc;exact one (fun _ h=>h) (UY (K:=fun p=>K p [] []) h ho hc hk)
  ·rename_i hc;exact one (fun _ h=>h) (UC (K:=fun p=>K p [] []) h ho hc hk)
  ·rename_i hc;exact one (fun _ h=>h) (RJ (K:=fun p=>K p [] []) h ho hc hk)
  ·rename_i hc;exact one (fun _ h=>h) (RF (K:=fun p=>K p [] []) h ho hc hk)
  ·rename_i hc;obtain⟨VT,hk⟩:=Ag hk;obtain⟨d,hd,C9⟩:=Bm hk;obtain⟨b,xs,Wh,D3⟩:=Ar C9;obtain⟨x,ys,hys,Mx⟩:=Ar D3;obtain⟨Rq,Ue⟩:=Cl Mx;obtain⟨t,us,PM,hk5⟩:=Ar Ue;obtain⟨tx,vs,Ex,hk6⟩:=Ar hk5;rw[hys,Rq] at Wh;rw[Ex] at PM;obtain⟨v,nw,h1,h2⟩:=EC h ho hc VT hd Wh PM hk6;exact⟨v,[],nw,h1,Xl h2⟩
  ·rename_i f hc;exact Zg h H1 C4 (fun hf hb=>Xr ho hc H1.ng hf hb) hk
  ·rename_i t hc;obtain⟨f,hf0,C9⟩:=Acr hk;have ht:a.eval (.tmp t)=.func (.func f) #[] #[]:=Bl h (x:=.tmp t) hf0;exact Zg h H1 C4 (fun hf hb=>RK ho hc ht H1.ng hf hb) C9
  ·cases hk
 ·cases hk
theorem LV (h:B3 N w0 X0 Y β s a w){G:Glo}(H1:IR P G w0 X0){C:Fy}{call:Aj}(C4:∀f args res,call f args=some res->C1 G P f args res){K:St->Option R}
  (hk:(X1 C P N call s.tm (rd s.hp) (Hf s.hp) o fun v fz nw=>U9 N s o.dst v fz nw K)=some r):
  ∃s',K s'=some r∧∀(next:Act->World->Prop) (Q:Exit->Act->World->Prop),(∀a' w' β',B3 N w0 X0 Y β' s' a' w'->next a' w')->o.wp P a w next Q:=by
 obtain⟨v,fz,nw,hk,N1,hg⟩:=ZF h H1 C4 hk;unfold U9 at hk;obtain⟨hb,hk⟩:=Ag hk;simp only[Bool.and_eq_true] at hb;refine⟨_,hk,fun next Q hn=>hg next Q fun val w' Jp=>?_⟩
 obtain⟨β',st⟩:=Jp hb.2
 have L0:A8 (Ac s.hp fz) nw=true:=by
  have:∀nw,A8 s.hp nw=true->A8 (Ac s.hp fz) nw=true:=by
   intro nw
   induction nw with
   |nil=>intro _;rfl
   |cons q nw ih=>
    obtain⟨i,b⟩:=q;intro hq;simp only[A8,Bool.and_eq_true,Option.isNone_iff_eq_none] at hq ⊢;exact⟨⟨C5.2 hq.1.1,hq.1.2⟩,ih hq.2⟩
  exact this nw hb.2
 exact hn _ _ β' ((h.freeze N1).stepR hb.1 L0 st)
end
open Go.RowKit
section
variable {R:Type} {r:R} {P:Program} {N:Nat} {w0:World} {X0:F9} {Y:Nat->Prop} {β β':Bt} {s:St} {a:Act} {w w':World} {o:Oper} {A:Nat->Prop}
structure Ay (b:Nat) (w w':World):Prop where
 os:w'.os=w.os
 tape:w'.tape=w.tape
 output:w'.output=w.output
 size:w'.heap.size=w.heap.size
 other:∀k,k≠b->w'.heap[k]?=w.heap[k]?
 bs:bsz w' b=bsz w b
 frz:∀j,w'.frozen? ⟨b,j,none⟩=w.frozen? ⟨b,j,none⟩
theorem Ay.grow {b:Nat}(h:Ay b w w')(k:Nat):Gd w w' k:=by
 by_cases e:k=b
 ·subst e;refine⟨by rw[h.bs];exact Nat.le_refl _,fun q=>?_⟩
  unfold HF at q ⊢;rw[h.bs,h.frz];exact q
 ·exact Gd.same (h.other k e)
theorem Ay.refl (b:Nat)(w:World):Ay b w w:=⟨rfl,rfl,rfl,rfl,fun _ _=>rfl,rfl,fun _=>rfl⟩
theorem Ay.setCell (b j:Nat)(v:Value)(w:World):Ay b w (w.setCell ⟨b,j,none⟩ v):=by
 refine⟨rfl,rfl,rfl,by simp[World.setCell],fun k hk=>Below.heap_setCell w ⟨b,j,none⟩ v k hk,?_,fun i=>?_⟩
 ·simp only[bsz,World.setCell,Array.getElem?_modify];simp only[if_true];cases h:w.heap[b]? with
  |none=>simp
  |some x=>cases x<;>simp
 ·simp only[World.frozen?,World.setCell,Array.getElem?_modify,if_true];cases h:w.heap[b]? with
  |none=>simp
  |some x=>cases x<;>simp
theorem Ay.trans {b:Nat}{w'':World}(h:Ay b w w')(h':Ay b w' w''):Ay b w w'':=
 ⟨h'.os.trans h.os,h'.tape.trans h.tape,h'.output.trans h.output,h'.size.trans h.size,fun k hk=>(h'.other k hk).trans (h.other k hk),h'.bs.trans h.bs,fun j=>(h'.frz j).trans (h.frz j)⟩
theorem Ay.setCells (b:Nat):∀(vs:List Value)(j:Nat)(w:World),Ay b w (w.setCells b j vs)
 |[],_,w=>Ay.refl b w
 |v::vs,j,w=>(Ay.setCell b j v w).trans (Ay.setCells b vs (j+1) _)
theorem Amq {hp:Nat->Option A3}{id:Nat}{bx bx':A3}(h0:hp id=some bx)(hl:Cc (some bx)) (Hm:Cc (some bx')) (b:Nat):GG (Bu hp id (some bx')) β b↔GG hp β b:=by
 constructor
 ·rintro⟨i,o,h1,h2⟩
  by_cases e:i=id
  ·subst e;exact⟨i,o,by rw[h0];exact hl,h2⟩
  ·rw[Ad _ _ e] at h1;exact⟨i,o,h1,h2⟩
 ·rintro⟨i,o,h1,h2⟩
  by_cases e:i=id
  ·subst e;exact⟨i,o,by rw[Ah];exact Hm,h2⟩
  ·exact⟨i,o,by rw[Ad _ _ e];exact h1,h2⟩
theorem B3.write (h:B3 N w0 X0 Y β s a w){id b ob:Nat}{bx bx':A3}(h0:s.hp id=some bx)(hl:Cc (some bx)) (Hm:Cc (some bx')) (hβ:β id=some (b,ob)) (hw:Ay b w w')
  (Jc:Nx w' (Cd s.hp β Y) β id bx') (hr:∀cells,bx'=.st cells->∀c∈cells,∀i∈Ak c,s.hp i≠none)
  (hK:∀c',bx'=.st c'->∃c,bx=.st c)(hR:∀j,BR bx' ob j->BR bx ob j)(hO:∀j,¬BR bx ob j->w'.cell? ⟨b,j,none⟩=w.cell? ⟨b,j,none⟩):B3 N w0 X0 Y β ⟨s.tm,Bu s.hp id (some bx')⟩ a w':=by
 have hX:=Amq (β:=β) h0 hl Hm;have hA:∀k,Cd (Bu s.hp id (some bx')) β Y k↔Cd s.hp β Y k:=fun k=>⟨fun x=>x.imp (hX k).1 (fun y=>y),fun x=>x.imp (hX k).2 (fun y=>y)⟩
 have hAb:Cd s.hp β Y b:=.inl ⟨id,ob,by rw[h0];exact hl,hβ⟩
 have Jp:Bh (Cd s.hp β Y) w w':=⟨by rw[hw.size];exact Nat.le_refl _,fun k _ hk=>hw.other k (fun e=>hk (e ▸ hAb)),fun k _=>hw.grow k⟩
 have hnn:∀i,Bu s.hp id (some bx') i≠none↔s.hp i≠none:=by
  intro i;by_cases e:i=id
  ·subst e;rw[Ah,h0];simp
  ·rw[Ad _ _ e]
 have hAe:Cd (Bu s.hp id (some bx')) β Y=Cd s.hp β Y:=funext fun k=>propext (hA k)
 have Sk:∀i,Cc (Bu s.hp id (some bx') i)->Cc (s.hp i):=by
  intro i hi;by_cases e:i=id
  ·subst e;rw[h0];exact hl
  ·rw[Ad _ _ e] at hi;exact hi
 refine⟨h.dfr,h.tsz,h.tmo,fun i hi=>?_,fun i bi hb=>?_,fun i i' k x y h1 h2=>h.inj i i' k x y (Sk i h1) (Sk i' h2),fun i k x hi hk=>?_,fun i hi j hj=>(hnn j).2 (h.wfT i hi j hj),
  fun i cells hc c IE j hj=>(hnn j).2 ?_,fun k hk=>h.ownd k ((hX k).1 hk),fun i bi k x Ws hli hk hlt j hj=>?_,fun i hi=>⟨(hnn _).2 (h.pin i hi).1,(h.pin i hi).2⟩,fun i c k x hc hk hlt=>?_,fun k hk x=>h.Yx k hk ((hX k).1 x),h.Ylt,?_⟩
 ·rw[hAe];exact (h.tms i hi).step Jp (fun _ _ x=>x) (fun _ _=>rfl)
 ·rw[hAe];simp only at hb;by_cases e:i=id
  ·subst e;rw[Ah] at hb;cases hb;exact Jc
  ·rw[Ad _ _ e] at hb;have Ws:=h.box i bi hb;cases bi with
   |st c=>
    obtain⟨k,x,h1,h2,h3⟩:=Ws
    have hk:k≠b:=by
     rintro rfl
     exact e (h.inj i id k x ob (by rw[hb];trivial) (by rw[h0];exact hl) h1 hβ)
    refine⟨k,x,h1,fun j c hj=>?_,fun j hj=>?_⟩
    ·obtain⟨v,hv,hc⟩:=h2 j c hj;exact⟨v,by rw[World.cell?_of_block (w:=w) (hw.other k hk)];exact hv,hc.step Jp (fun _ _ x=>x) (fun _ _=>rfl)⟩
    ·rw[World.frozen?_of_block (w:=w) (hw.other k hk)];exact h3 j hj
   |ar fz c=>
    rcases Ws with hn|⟨k,x,h1,h2,h3,h4⟩
    ·exact .inl hn
    ·have hk:k≠b:=by
      rintro rfl
      cases fz with
      |true=>exact h4 rfl hAb
      |false=>exact e (h.inj i id k x ob (by rw[hb];trivial) (by rw[h0];exact hl) h1 hβ)
     refine .inr ⟨k,x,h1,fun j c hj=>?_,fun ef j hj Kw=>?_,h4⟩
     ·obtain⟨v,hv,h5,hc⟩:=h2 j c hj;exact⟨v,by rw[World.cell?_of_block (w:=w) (by rw[D9];exact hw.other k hk)];exact hv,h5,hc.step Jp (fun _ _ x=>x)⟩
     ·rw[World.frozen?_of_block (w:=w) (hw.other k hk)];refine h3 ef j hj ?_;unfold bsz at Kw ⊢;rw[hw.other k hk] at Kw;exact Kw
   |mv=>trivial
 ·rw[hw.size];exact h.blt i k x ((hnn i).1 hi) hk
 ·simp only at hc;by_cases e:i=id
  ·subst e;rw[Ah] at hc;injection hc with hc;exact hr cells hc c IE j hj
  ·rw[Ad _ _ e] at hc;exact h.wfB i cells hc c IE j hj
 ·simp only at Ws;by_cases e:i=id
  ·subst e;rw[Ah] at Ws;cases Ws;rw[hβ] at hk;cases hk;exact h.rngB i bx b ob h0 hl hβ hlt j (hR j hj)
  ·rw[Ad _ _ e] at Ws;exact h.rngB i bi k x Ws hli hk hlt j hj
 ·simp only at hc;by_cases e:i=id
  ·subst e;rw[Ah] at hc;injection hc with hc;obtain⟨c0,rfl⟩:=hK c hc;exact h.stp i c0 k x h0 hk hlt
  ·rw[Ad _ _ e] at hc;exact h.stp i c k x hc hk hlt
 ·refine⟨hw.os.trans h.fr.os,hw.tape.trans h.fr.tape,hw.output.trans h.fr.output,?_,fun k j hk hL=>?_⟩
  ·refine⟨by rw[hw.size];exact h.fr.step.size,fun k hk hnk=>?_,fun k hk=>(h.fr.step.bs k hk).trans (Jp.bs k (Nat.lt_of_lt_of_le hk h.fr.step.size))⟩
   rw[hw.other k ?_]
   ·exact h.fr.step.keep k hk hnk
   ·rintro rfl
    rcases h.ownd k ⟨id,ob,by rw[h0];exact hl,hβ⟩ with hx|hx
    ·exact hnk hx
    ·omega
  ·by_cases e:k=b
   ·subst e;rw[hO j (fun hj=>hL (h.rngB id bx k ob h0 hl hβ hk j hj)),hw.frz]
    exact h.fr.rng k j hk hL
   ·have hc:w'.cell? ⟨k,j,none⟩=w.cell? ⟨k,j,none⟩:=World.cell?_of_block (w:=w) (hw.other k e);have hf:w'.frozen? ⟨k,j,none⟩=w.frozen? ⟨k,j,none⟩:=World.frozen?_of_block (w:=w) (hw.other k e);rw[hc,hf];exact h.fr.rng k j hk hL
theorem Nk {c cs:List PV}{off j:Nat}{p:PV}(Vl:off+cs.length<=c.length)(h:(Bd c cs off)[j]?=some p):
  (off<=j∧j<off+cs.length∧cs[j-off]?=some p)∨((j<off∨off+cs.length<=j)∧c[j]?=some p):=by
 unfold Bd at h;by_cases h1:j<off
 ·rw[List.append_assoc,List.getElem?_append_left (by simp;omega),List.getElem?_take_of_lt h1] at h
  exact .inr ⟨.inl h1,h⟩
 ·by_cases h2:j<off+cs.length
  ·rw[List.getElem?_append_left (by simp;omega),List.getElem?_append_right (by simp;omega)] at h
   simp only[List.length_take,Nat.min_eq_left (by omega:off<=c.length)] at h
   exact .inl ⟨by omega,h2,h⟩
  ·rw[List.getElem?_append_right (by simp;omega)] at h
   simp only[List.length_append,List.length_take,Nat.min_eq_left (by omega:off<=c.length),List.getElem?_drop] at h
   rw[show off+cs.length+(j-(off+cs.length))=j from by omega] at h
   exact .inr ⟨.inr (by omega),h⟩
theorem My {c cs:List PV}{off:Nat}(Vl:off+cs.length<=c.length):(Bd c cs off).length=c.length:=by
 simp[Bd];omega
theorem Vk {t:TypeId}{b j:Nat}{v:Value}(J1:(P.info? t).map (·.size)=some v.cells.size) (hc:∀i,i<v.cells.toList.length->(w.cell? ⟨b,j+i,none⟩).isSome=true)
  (hf:∀i,i<v.cells.toList.length->w.frozen? ⟨b,j+i,none⟩=false)(h1:∀u∈v.cells.toList,u.oneCell'=true):(Instr.storeAt t (.pointer (some ⟨b,j,none⟩)) v).run P w=.ok () (w.setCells b j v.cells.toList):=by
 have:=run_storeCells_cells (P:=P) b j v.cells.toList 0 w (fun i hi=>by simpa using hc i hi) (fun i hi=>by simpa using hf i hi) h1
 simp only[Instr.storeAt,Instr.sureAddr,storeVar,Sem.run_bind,Sem.run_pure,Result.andThen_ok,Ij J1]
 simpa using this
theorem HX (h:B3 N w0 X0 Y β s a w){t:TypeId}{x y:Operand}(ho:o.op=.store t x y)(hd:o.dst=none){K:St->Option R}(hk:Uh P s t (Bf s.tm x) (Bf s.tm y) K=some r):
  ∃s',K s'=some r∧∀(next:Act->World->Prop) (Q:Exit->Act->World->Prop),(∀a' w' β',B3 N w0 X0 Y β' s' a' w'->next a' w')->o.wp P a w next Q:=by
 have hx:=Cb h x;have Z4:=D0 h x
 have run:∀{b j:Nat},a.eval x=.pointer (some ⟨b,j,none⟩)->(Instr.storeAt t (.pointer (some ⟨b,j,none⟩)) (a.eval y)).run P w=.ok () (w.setCells b j (a.eval y).cells.toList) ->
   ∀(next:Act->World->Prop) (Q:Exit->Act->World->Prop),next a (w.setCells b j (a.eval y).cells.toList)->o.wp P a w next Q:=by
  intro b j Cf hr next Q hn;unfold Oper.wp execOp;rw[ho];simp only[Sem.run_bind,Cf,hr,Result.andThen_ok,Sem.run_pure];show next (a.put o.dst undef) _;rw[hd];exact hn
 unfold Uh at hk;split at hk
 ·rename_i id off e;rw[e] at hx Z4;obtain⟨b,ob,hβ,Cf⟩:=hx;split at hk
  ·rename_i c h0;obtain⟨hb,hk⟩:=Ag hk;simp only[Bool.and_eq_true,decide_eq_true_eq] at hb;obtain⟨⟨K1,hl⟩,Vl⟩:=hb;have hl:=Nat.eq_of_beq_eq_true hl;obtain⟨cs,hk,Lp,h2,h1,hr,_⟩:=PZ (Cb h y) hl hk;obtain⟨_,Aj9,J1⟩:=Mc K1;have I9:=h2.len;obtain⟨b',o',Er,Im,FH⟩:=h.box id _ h0;rw[hβ] at Er;simp at Er;obtain⟨rfl,rfl⟩:=Er
   have hcell:∀i,i<(a.eval y).cells.toList.length->(w.cell? ⟨b,ob+off+i,none⟩).isSome=true:=by
    intro i hi;obtain⟨v,hv,_⟩:=Im (off+i) _ (List.getElem?_eq_getElem (by omega))
    rw[Nat.add_assoc,hv];rfl
   have Bv:=Vk (P:=P) (t:=t) (w:=w) (b:=b) (j:=ob+off) (v:=a.eval y) (by rw[J1,←Aj9,←Lp,I9];simp) hcell (fun i hi=>by rw[Nat.add_assoc];exact FH _ (by omega)) h1
   refine⟨_,hk,fun next Q hn=>run Cf Bv next Q (hn _ _ β ?_)⟩
   refine h.write h0 trivial trivial hβ (Ay.setCells b _ _ w) ?_ ?_ (fun _ _=>⟨_,rfl⟩) (fun j hj=>by
    have hj:ob<=j∧j<ob+(Bd c cs off).length:=hj;rw[My (by omega)] at hj
    exact hj) (fun j hj=>by
    refine World.cell?_setCells_out b _ _ w ⟨b,j,none⟩ (fun _ _=>?_)
    have hj:¬(ob<=j∧j<ob+c.length):=hj;show j<ob+off∨ob+off+_<=j;omega)
   ·have Jp:Bh (Cd s.hp β Y) w (w.setCells b (ob+off) (a.eval y).cells.toList):=by
     have hw:=Ay.setCells b (a.eval y).cells.toList (ob+off) w;have hAb:Cd s.hp β Y b:=.inl ⟨id,ob,by rw[h0];trivial,hβ⟩
     exact⟨by rw[hw.size];exact Nat.le_refl _,fun k _ hk=>hw.other k (fun e=>hk (e ▸ hAb)),fun k _=>hw.grow k⟩
    refine⟨b,ob,hβ,fun j p hj=>?_,fun j hj=>?_⟩
    ·rcases Nk (by omega) hj with⟨h3,h4,h5⟩|⟨h3,h5⟩
     ·obtain⟨u,hu,hcu⟩:=h2.get h5;have hlt:j-off<(a.eval y).cells.toList.length:=by omega
      refine⟨u,?_,hcu.step Jp (fun _ _ x=>x) (fun _ _=>rfl)⟩
      have:=World.cell?_setCells_in b (a.eval y).cells.toList (ob+off) w hcell (j-off) hlt;rw[show ob+j=ob+off+(j-off) from by omega,this]
      rw[List.getElem?_eq_getElem hlt] at hu;exact hu
     ·obtain⟨v,hv,V0⟩:=Im j p h5;refine⟨v,?_,V0.step Jp (fun _ _ x=>x) (fun _ _=>rfl)⟩
      rw[World.cell?_setCells_out b _ _ w ⟨b,ob+j,none⟩ (fun _ _=>by show ob+j<ob+off∨ob+off+_<=ob+j;omega)]
      exact hv
    ·rw[My (by omega)] at hj
     rw[(Ay.setCells b _ _ w).frz];exact FH j hj
   ·intro cells hx c' Nf i hi;injection hx with hx;subst hx;unfold Bd at Nf;rcases List.mem_append.1 Nf with Nf|Nf
    ·rcases List.mem_append.1 Nf with Nf|Nf
     ·exact h.wfB id c h0 c' (List.mem_of_mem_take Nf) i hi
     ·exact D0 h y i (hr c' Nf i hi)
    ·exact h.wfB id c h0 c' (List.mem_of_mem_drop Nf) i hi
  ·rename_i c h0;obtain⟨hb,hk⟩:=Ag hk;simp only[Bool.and_eq_true,decide_eq_true_eq] at hb;obtain⟨K1,Vl⟩:=hb;obtain⟨cs,m,hk,Lp,Wz,hT,hF,hm,hv⟩:=Mo h hk;obtain⟨hnm,hk⟩:=Ag hk
   have hnm:id ∉ m:=by
    intro hi;have:m.any (Nat.beq id)=true:=List.any_eq_true.2 ⟨id,hi,Nat.beq_refl id⟩;rw[this] at hnm;cases hnm
   obtain⟨_,Aj9,J1⟩:=Mc K1
   have Afk:Av (Be w (Cd s.hp β Y) β) (cellsOf (Bf s.tm y)) (a.eval y).cells.toList:=by
    have OR:=Cb h y;cases hp:Bf s.tm y with
    |agg ps=>
     rw[hp] at OR;obtain⟨vs,hay,h2⟩:=OR;rw[hay];exact h2
    |sc v=>
     rw[hp] at OR hF
     have NP:(a.eval y).oneCell'=true:=by
      have:=hv m (fun _ hi=>hi) hm [a.eval y] (by rw[hp];exact⟨OR,trivial⟩)
      exact this.2 _ (by simp)
     rw[J7 NP];exact⟨OR,trivial⟩
    |lst z es n cc=>
     rw[hp] at OR hF
     have NP:(a.eval y).oneCell'=true:=by
      have:=hv m (fun _ hi=>hi) hm [a.eval y] (by rw[hp];exact⟨OR,trivial⟩)
      exact this.2 _ (by simp)
     rw[J7 NP];exact⟨OR,trivial⟩
    |view i es oo n=>
     rw[hp] at OR hF
     have NP:(a.eval y).oneCell'=true:=by
      have:=hv m (fun _ hi=>hi) hm [a.eval y] (by rw[hp];exact⟨OR,trivial⟩)
      exact this.2 _ (by simp)
     rw[J7 NP];exact⟨OR,trivial⟩
    |own es n cc=>
     have hx0:=hF (Bf s.tm y) (by rw[hp];exact List.mem_singleton_self _)
     rw[hp] at hx0;exact hx0.elim
    |ptr i cc=>
     have hx0:=hF (Bf s.tm y) (by rw[hp];exact List.mem_singleton_self _)
     rw[hp] at hx0;exact hx0.elim
    |iptr i cc=>
     have hx0:=hF (Bf s.tm y) (by rw[hp];exact List.mem_singleton_self _)
     rw[hp] at hx0;exact hx0.elim
    |pbox cc=>
     have hx0:=hF (Bf s.tm y) (by rw[hp];exact List.mem_singleton_self _)
     rw[hp] at hx0;exact hx0.elim
    |tup cc=>
     have hx0:=hF (Bf s.tm y) (by rw[hp];exact List.mem_singleton_self _)
     rw[hp] at hx0;exact hx0.elim
    |ub=>
     have hx0:=hF (Bf s.tm y) (by rw[hp];exact List.mem_singleton_self _)
     rw[hp] at hx0;exact hx0.elim
    |top=>
     have hx0:=hF (Bf s.tm y) (by rw[hp];exact List.mem_singleton_self _)
     rw[hp] at hx0;exact hx0.elim
   obtain⟨h2,h1⟩:=hv m (fun _ hi=>hi) hm _ Afk
   have I9:=h2.len;have hf:=h.freeze hm;have h0':Ac s.hp m id=some (.ar false c):=by rw[Ba,if_neg hnm];exact h0
   rcases hf.box id _ h0' with⟨hn,_⟩|⟨b',o',Er,Im,FH,_⟩
   ·rw[hβ] at hn;cases hn
   rw[hβ] at Er;simp at Er;obtain⟨rfl,rfl⟩:=Er
   have hcell:∀i,i<(a.eval y).cells.toList.length->(w.cell? ⟨b,ob+off+i,none⟩).isSome=true:=by
    intro i hi;obtain⟨v,hv,_⟩:=Im (off+i) _ (List.getElem?_eq_getElem (by omega))
    rw[Bq] at hv;rw[Nat.add_assoc,hv];rfl
   have Bv:=Vk (P:=P) (t:=t) (w:=w) (b:=b) (j:=ob+off) (v:=a.eval y) (by rw[J1,←Aj9,←Lp,I9];simp) hcell (fun i hi=>by
    obtain⟨u,hu⟩:=Option.isSome_iff_exists.1 (hcell i hi);exact FH rfl _ (by omega) (Ta hu)) h1
   refine⟨_,hk,fun next Q hn=>run Cf Bv next Q (hn _ _ β ?_)⟩
   refine hf.write h0' trivial trivial hβ (Ay.setCells b _ _ w) ?_ (fun cells hx=>by cases hx) (fun _ hx=>by cases hx) (fun j hj=>hj) (fun j hj=>by
    refine World.cell?_setCells_out b _ _ w ⟨b,j,none⟩ (fun _ _=>?_)
    have hj:¬(ob<=j):=hj;show j<ob+off∨ob+off+_<=j;omega)
   have Jp:Bh (Cd (Ac s.hp m) β Y) w (w.setCells b (ob+off) (a.eval y).cells.toList):=by
    have hw:=Ay.setCells b (a.eval y).cells.toList (ob+off) w;have hAb:Cd (Ac s.hp m) β Y b:=.inl ⟨id,ob,by rw[h0'];trivial,hβ⟩
    exact⟨by rw[hw.size];exact Nat.le_refl _,fun k _ hk=>hw.other k (fun e=>hk (e ▸ hAb)),fun k _=>hw.grow k⟩
   refine .inr ⟨b,ob,hβ,fun j p hj=>?_,fun _ j hj Kw=>?_,(fun x=>by cases x)⟩
   ·rw[Bq];rcases Nk (by omega) hj with⟨h3,h4,h5⟩|⟨h3,h5⟩
    ·obtain⟨u,hu,hcu⟩:=h2.get h5;have hlt:j-off<(a.eval y).cells.toList.length:=by omega
     refine⟨u,?_,h1 u (List.mem_of_getElem? hu),hcu.step Jp (fun _ _ x=>x)⟩
     have:=World.cell?_setCells_in b (a.eval y).cells.toList (ob+off) w hcell (j-off) hlt;rw[show ob+j=ob+off+(j-off) from by omega,this]
     rw[List.getElem?_eq_getElem hlt] at hu;exact hu
    ·obtain⟨v,hv,h6,V0⟩:=Im j p h5;rw[Bq] at hv;refine⟨v,?_,h6,V0.step Jp (fun _ _ x=>x)⟩
     rw[World.cell?_setCells_out b _ _ w ⟨b,ob+j,none⟩ (fun _ _=>by show ob+j<ob+off∨ob+off+_<=ob+j;omega)]
     exact hv
   ·rw[(Ay.setCells b _ _ w).bs] at Kw;rw[(Ay.setCells b _ _ w).frz];exact FH rfl j hj Kw
  ·cases hk
 ·cases hk
end
open Go.RowKit
theorem Gn:∀{l l':List Nat},C8 (l++l')=true->C8 l=true∧C8 l'=true∧∀i∈l,i ∉ l'
 |[],l',h=>⟨rfl,h,by simp⟩
 |a::l,l',h=>by
  simp only[List.cons_append,C8,Bool.and_eq_true,Bool.not_eq_true'] at h;obtain⟨h1,h2⟩:=h;obtain⟨h3,h4,h5⟩:=Gn h2
  have hn:∀i∈l++l',a≠i:=by
   rintro i hi rfl
   have:(l++l').any (Nat.beq a)=true:=List.any_eq_true.2 ⟨a,hi,Nat.beq_refl a⟩;rw[this] at h1;cases h1
  refine⟨?_,h4,fun i hi=>?_⟩
  ·simp only[C8,Bool.and_eq_true,Bool.not_eq_true',h3,and_true];rw[List.any_eq_false];intro i hi e;exact hn i (by simp[hi]) (Nat.eq_of_beq_eq_true e)
  ·rcases List.mem_cons.1 hi with rfl|hi
   ·exact fun hm=>hn i (by simp[hm]) rfl
   ·exact h5 i hi
def Fg (β:Bt)(q:Nat × Nat):Option (Nat × Nat):=(β q.1).map fun p=>(p.1,p.2+q.2)
theorem NI (β:Bt)(id:Nat):Fg β (id,0)=β id:=by
 unfold Fg;cases β id<;>rfl
section
variable {R:Type} {r:R} {P:Program} {N:Nat} {w0:World} {X0:F9} {Y:Nat->Prop} {β β':Bt} {s:St} {a:Act} {w w':World} {o:Oper} {A:Nat->Prop}
theorem Kj {fz:List Nat}{b:Nat}(h:Cd (Ac s.hp fz) β Y b):Cd s.hp β Y b:=h.imp L8 id
theorem XK (h:B3 N w0 X0 Y β s a w){mv:Bool}{t:CT}{p:PV}{K:PV->List Nat->List Nat->Option R}(hk:SO mv s.hp t p K=some r):
  ∃c m q,K c m (Option.toList q)=some r∧isA c∧AV p∧(∀id∈m,∃f cc,s.hp id=some (.ar f cc))∧(∀id,q=some id->∃cc,s.hp id=some (.ar false cc)) ∧
   ∀fz:List Nat,(∀id∈m,id∈fz)->(∀id∈fz,∃f cc,s.hp id=some (.ar f cc))->∀v,Be w (Cd s.hp β Y) β p v->E3 w (Cd (Ac s.hp fz) β Y) (q.bind β) c v:=by
 have frz:∀{t:CT} {p:PV} {K:PV->List Nat->List Nat->Option R},(Kz (Hf s.hp) t p fun c m=>K c m [])=some r->∃c m q,K c m (Option.toList q)=some r∧isA c∧AV p∧(∀id∈m,∃f cc,s.hp id=some (.ar f cc))∧(∀id,q=some id->∃cc,s.hp id=some (.ar false cc)) ∧
   ∀fz:List Nat,(∀id∈m,id∈fz)->(∀id∈fz,∃f cc,s.hp id=some (.ar f cc))->∀v,Be w (Cd s.hp β Y) β p v->E3 w (Cd (Ac s.hp fz) β Y) (q.bind β) c v:=by
  intro t p K hk;obtain⟨c,m,hk,hT,hF,hm,hv⟩:=Xw h hk;exact⟨c,m,none,hk,.inl hT,hF,hm,by simp,fun fz h1 h2 v hc=>H7 hT (hv fz h1 h2 v hc).1⟩
 have tree:∀{t:CT} {p:PV} {K:PV->List Nat->List Nat->Option R},(∀es,t ≠ .sl es)->(Ug t p fun c=>K c [] [])=some r->∃c m q,K c m (Option.toList q)=some r∧isA c∧AV p∧(∀id∈m,∃f cc,s.hp id=some (.ar f cc))∧(∀id,q=some id->∃cc,s.hp id=some (.ar false cc)) ∧
   ∀fz:List Nat,(∀id∈m,id∈fz)->(∀id∈fz,∃f cc,s.hp id=some (.ar f cc))->∀v,Be w (Cd s.hp β Y) β p v->E3 w (Cd (Ac s.hp fz) β Y) (q.bind β) c v:=by
  intro t p K Gh hk;obtain⟨c,hk,hT,Xo,hv⟩:=Jz hk;exact⟨c,[],none,hk,.inl hT,Nv Xo,by simp,by simp,fun fz h1 h2 v hc=>H7 hT ((hv w _ β v hc).1.step (Bh.refl _ _) (fun b _ hb=>Kj hb))⟩
 unfold SO at hk;cases t with
 |sl es=>
  dsimp only at hk;cases mv<;>simp only[cond_true,cond_false] at hk
  ·exact frz hk
  ·split at hk
   ·rename_i id es' off n;split at hk
    ·rename_i c h0;cases hb:(Nat.beq es' es&&Nat.beq off 0)<;>rw[hb] at hk<;>simp only[cond_true,cond_false] at hk
     ·exact frz hk
     ·simp only[Bool.and_eq_true] at hb;have he:=Nat.eq_of_beq_eq_true hb.1;have hof:=Nat.eq_of_beq_eq_true hb.2;subst he hof;obtain⟨hl,hk⟩:=Ag hk;refine⟨_,[],some id,hk,.inr ⟨_,_,_,rfl⟩,trivial,by simp,fun i hi=>by cases hi;exact⟨c,h0⟩,fun fz h1 h2 v hc=>?_⟩
      rcases hc with⟨h3,_,rfl,h4⟩|⟨b,ob,x,cap,h3,h4,hx,h5,h6,h7⟩
      ·exact .inl ⟨h3,rfl,by simp,h4⟩
      ·have hx:x=ob:=by rcases hx with e|⟨_,e⟩<;>omega
       subst hx;rcases h.box id _ h0 with⟨h8,_⟩|⟨b',o',h8,h9,h10,_⟩
       ·rw[h3] at h8;cases h8
       ·rw[h3] at h8;cases h8;refine .inr ⟨b,x,cap,h3,h4,h5,h6,h7,fun j p hj=>?_,h10 rfl⟩
        rw[List.getElem?_take] at hj;split at hj
        ·obtain⟨u,hu,h11,ht⟩:=h9 j p hj;exact⟨u,hu,h11,ht.step (Bh.refl _ _) (fun b _ hb=>Kj hb)⟩
        ·cases hj
    ·exact frz hk
   ·obtain⟨z,n,c,hk,hp⟩:=Eg hk;have hpF:AV p:=by rcases hp with e|⟨e,_⟩<;>(rw[e];trivial)
    cases z<;>simp only[cond_true,cond_false] at hk
    ·refine⟨_,[],none,hk,.inl trivial,hpF,by simp,by simp,fun fz h1 h2 v hc=>?_⟩
     exact H7 trivial ((Ru hp hc).step (Bh.refl _ _) (fun b _ hb=>Kj hb))
    ·refine⟨_,[],none,hk,.inr ⟨_,_,_,rfl⟩,hpF,by simp,by simp,fun fz h1 h2 v hc=>.inl ⟨rfl,rfl,rfl,none,?_⟩⟩
     have:=Ru hp hc;cases this;rfl
 |int k=>exact tree (by simp) hk
 |bool=>exact tree (by simp) hk
 |str=>exact tree (by simp) hk
 |any=>exact tree (by simp) hk
theorem Pp (h:B3 N w0 X0 Y β s a w){mv:Bool}:∀{ts:List CT}{ps:List PV}{K:List PV->List Nat->List Nat->Option R},Wb mv s.hp ts ps K=some r ->
  ∃cs m x,∃q:Nat->Option Nat,K cs m x=some r∧cs.length=ts.length∧ps.length=ts.length∧(∀c∈cs,isA c)∧(∀p∈ps,AV p)∧(∀id∈m,∃f cc,s.hp id=some (.ar f cc))∧(∀id∈x,∃cc,s.hp id=some (.ar false cc)) ∧
   (∀j id,q j=some id->id∈x)∧(C8 x=true->∀j j' id,q j=some id->q j'=some id->j=j') ∧
   ∀fz:List Nat,(∀id∈m,id∈fz)->(∀id∈fz,∃f cc,s.hp id=some (.ar f cc))->∀vs,Av (Be w (Cd s.hp β Y) β) ps vs->∀(own:Bt) j0,(∀j,own (j0+j)=(q j).bind β)->Dx w (Cd (Ac s.hp fz) β Y) own j0 cs vs
 |[],[],K,hk=>⟨[],[],[],fun _=>none,hk,rfl,rfl,by simp,by simp,by simp,by simp,by simp,by simp,fun fz _ _ vs hv own j0 _=>by
   cases vs with
   |nil=>trivial
   |cons v vs=>exact hv.elim⟩
 |[],_::_,K,hk=>by cases hk
 |_::_,[],K,hk=>by cases hk
 |t::ts,p::ps,K,hk=>by
  unfold Wb at hk;obtain⟨c,m,q,hk,hA,hF,hm,hq,hv⟩:=XK h hk;obtain⟨cs,ms,xs,qs,hk,hl,Hm,hAs,hFs,X7,Wh,hqx,hqi,Ex⟩:=Pp h hk;refine⟨c::cs,m++ms,q.toList++xs,fun j=>match j with|0=>q|j+1=>qs j,hk,by simp[hl],by simp[Hm],?_,?_,?_,?_,?_,?_,?_⟩
  ·intro x hx;rcases List.mem_cons.1 hx with rfl|hx
   ·exact hA
   ·exact hAs x hx
  ·intro x hx;rcases List.mem_cons.1 hx with rfl|hx
   ·exact hF
   ·exact hFs x hx
  ·intro i hi;rcases List.mem_append.1 hi with hi|hi
   ·exact hm i hi
   ·exact X7 i hi
  ·intro i hi;rcases List.mem_append.1 hi with hi|hi
   ·exact hq i (by simpa using hi)
   ·exact Wh i hi
  ·intro j id hj;cases j with
   |zero=>exact List.mem_append.2 (.inl (by simpa using hj))
   |succ j=>exact List.mem_append.2 (.inr (hqx j id hj))
  ·intro hn j j' id hj Kw;obtain⟨_,h2,h3⟩:=Gn hn;cases j with
   |zero=>
    cases j' with
    |zero=>rfl
    |succ j'=>exact absurd (hqx j' id Kw) (h3 id (by simpa using hj))
   |succ j=>
    cases j' with
    |zero=>exact absurd (hqx j id hj) (h3 id (by simpa using Kw))
    |succ j'=>rw[hqi h2 j j' id hj Kw]
  ·intro fz h1 h2 vs h3 own j0 hown;cases vs with
   |nil=>exact h3.elim
   |cons v vs=>
    refine⟨?_,Ex fz (fun i hi=>h1 i (by simp[hi])) h2 vs h3.2 own (j0+1) fun j=>?_⟩
    ·have:=hown 0;rw[Nat.add_zero] at this;rw[this];exact hv fz (fun i hi=>h1 i (by simp[hi])) h2 v h3.1
    ·have:=hown (j+1);rw[show j0+1+j=j0+(j+1) by omega]
     exact this
def LOk (hp:Nat->Option A3)(q:Option (Nat × Nat)) (p:PV)(x:Fk):Prop:=
 match x with
 |.var id off cts ws=>p=.pbox ws∧q=some (id,off)∧cts.length=ws.length∧∃c,hp id=some (.st c)∧off+ws.length<=c.length
 |.row id=>(∃ps,p=.tup ps)∧q=some (id,0)∧∃c,hp id=some (.ar false c)
 |.none=>(∃ps,p=.tup ps)∧q=none
theorem OG {hp:Nat->Option A3}{q:Option (Nat × Nat)} {p:PV}{x:Fk}(h:LOk hp q p x):S8 p=true:=by
 cases x with
 |var id off cts ws=>rw[h.1];rfl
 |row id=>obtain⟨⟨_,e⟩,_⟩:=h;rw[e];rfl
 |none=>obtain⟨⟨_,e⟩,_⟩:=h;rw[e];rfl
def Ls (hp:Nat->Option A3)(src:Nat->Nat->Option (Nat × Nat)):Nat->List PV->List Fk->Prop
 |_,[],l=>l=[]
 |i,p::ps,l=>(S8 p=false∧src i 0=none∧Ls hp src (i+1) ps l)∨∃x l',l=x::l'∧LOk hp (src i 0) p x∧Ls hp src (i+1) ps l'
theorem MR (h:B3 N w0 X0 Y β s a w){C:Fy}{f:FuncId}{i:Nat}{t:TypeId}{x:Operand}{K:PV->List Nat->List Nat->List Fk->Option R}(hk:Us C P f s.hp i t (Bf s.tm x) K=some r):
  ∃v m y l,∃src:Nat->Option (Nat × Nat),K v m y l=some r∧(∀id∈m,∃f cc,s.hp id=some (.ar f cc))∧(∀id∈y,∃cc,s.hp id=some (.ar false cc)) ∧
   (∀j id off,src (j+1)=some (id,off)->off=0∧id∈y)∧(C8 y=true->∀j j' id off off',src (j+1)=some (id,off)->src (j'+1)=some (id,off')->j=j') ∧
   ((l=[]∧S8 v=false∧src 0=none)∨∃x',l=[x']∧LOk s.hp (src 0) v x') ∧
   ∀fz:List Nat,(∀id∈m,id∈fz)->(∀id∈fz,∃f cc,s.hp id=some (.ar f cc))->∀bt:Bt,(∀j,bt j=(src j).bind (Fg β))->AD w (Cd (Ac s.hp fz) β Y) bt v (a.eval x):=by
 have hx:=Cb h x
 have Ko:∀(q0:Option (Nat × Nat)) (q:Nat->Option Nat),∃src:Nat->Option (Nat × Nat),src 0=q0∧(∀j,src (j+1)=(q j).map fun id=>(id,0)):=
  fun q0 q=>⟨fun j=>match j with|0=>q0|j+1=>(q j).map fun id=>(id,0),rfl,fun _=>rfl⟩
 have JP:∀{src:Nat->Option (Nat × Nat)} {q:Nat->Option Nat} {y:List Nat},(∀j,src (j+1)=(q j).map fun id=>(id,0))->(∀j id,q j=some id->id∈y)->∀j id off,src (j+1)=some (id,off)->off=0∧id∈y:=by
  intro src q y h1 h2 j id off hj;rw[h1] at hj;cases hq:q j with
  |none=>rw[hq] at hj;cases hj
  |some k=>rw[hq] at hj;cases hj;exact⟨rfl,h2 j _ hq⟩
 have JS:∀{src:Nat->Option (Nat × Nat)} {q:Nat->Option Nat} {y:List Nat},(∀j,src (j+1)=(q j).map fun id=>(id,0))->(C8 y=true->∀j j' id,q j=some id->q j'=some id->j=j') ->
   C8 y=true->∀j j' id off off',src (j+1)=some (id,off)->src (j'+1)=some (id,off')->j=j':=by
  intro src q y h1 h2 hn j j' id off off' hj Kw;rw[h1] at hj Kw;cases hq:q j with
  |none=>rw[hq] at hj;cases hj
  |some k=>
   cases Em:q j' with
   |none=>rw[Em] at Kw;cases Kw
   |some k'=>
    rw[hq] at hj;rw[Em] at Kw;cases hj;cases Kw;exact h2 hn j j' _ hq Em
 have hown:∀{src:Nat->Option (Nat × Nat)} {q:Nat->Option Nat} {bt:Bt},(∀j,src (j+1)=(q j).map fun id=>(id,0))->(∀j,bt j=(src j).bind (Fg β))->∀j,bt (1+j)=(q j).bind β:=by
  intro src q bt h1 h2 j;rw[Nat.add_comm,h2,h1];cases q j with
  |none=>rfl
  |some id=>exact NI β id
 unfold Us at hk;split at hk
 ·rename_i e he;split at hk
  ·rename_i id off ep;rw[ep] at hx;split at hk
   ·rename_i c h0;obtain⟨hb,hk⟩:=Ag hk;simp only[Bool.and_eq_true,decide_eq_true_eq] at hb;obtain⟨cs,m,y,q,hk,hl,Hm,hA,hF,hm,hy,AH,Wv,hv⟩:=Pp h hk;obtain⟨src,LJ,hs⟩:=Ko (some (id,off)) q;obtain⟨b,ob,hβ,Cf⟩:=hx;refine⟨_,m,y,_,src,hk,hm,hy,JP hs AH,JS hs Wv,.inr ⟨_,rfl,rfl,LJ,hl.symm,c,h0,by omega⟩,fun fz h1 h2 bt Ra=>?_⟩
    obtain⟨b',o',Er,Im,FH⟩:=h.box id _ h0;rw[hβ] at Er;cases Er;have Dv:((c.drop off).take (Gc P e).length).length=(Gc P e).length:=by simp;omega
    have XD:∀j p,((c.drop off).take (Gc P e).length)[j]?=some p->c[off+j]?=some p∧j<(Gc P e).length:=by
     intro j p hj;rw[List.getElem?_take] at hj;split at hj
     ·rw[List.getElem?_drop] at hj;exact⟨hj,by assumption⟩
     ·cases hj
    refine⟨b,ob+off,by rw[Ra,LJ];simp[Fg,hβ],Cf,hA,((c.drop off).take (Gc P e).length).mapIdx (fun j _=>(w.cell? ⟨b,ob+off+j,none⟩).getD undef),hv fz h1 h2 _ ?_ bt 1 (hown hs Ra),?_,fun k hk=>?_⟩
    ·refine Av.of_at (by simp) fun j p v hp hv=>?_
     obtain⟨hc,_⟩:=XD j p hp;obtain⟨u,hu,GP⟩:=Im _ _ hc;rw[List.getElem?_mapIdx,hp,Option.map_some,Nat.add_assoc,hu] at hv;simp at hv;subst hv;exact GP
    ·intro k v RH;rw[List.getElem?_mapIdx] at RH;cases hp:((c.drop off).take (Gc P e).length)[k]? with
     |none=>rw[hp] at RH;cases RH
     |some p=>
      obtain⟨hc,_⟩:=XD k p hp;obtain⟨u,hu,GP⟩:=Im _ _ hc;rw[hp,Option.map_some,Nat.add_assoc,hu] at RH;simp at RH;subst RH;rw[Nat.add_assoc];exact hu
    ·rw[Nat.add_assoc];exact FH _ (by omega)
   ·cases hk
  ·cases hk
 ·cases hln:C.lnd f i<;>rw[hln] at hk<;>simp only[cond_true,cond_false] at hk
  ·cases Ew:Bc P t<;>rw[Ew] at hk<;>simp only[cond_true,cond_false] at hk
   ·obtain⟨cs,m,y,q,hk,hl,Hm,hA,hF,hm,hy,AH,Wv,hv⟩:=Pp h hk;obtain⟨c,t',rfl,hk⟩:=Ar hk;obtain⟨rfl,hk⟩:=Cl hk;obtain⟨src,LJ,hs⟩:=Ko none q;have hAc:=hA c (by simp)
    refine⟨c,m,y,_,src,hk,hm,hy,JP hs AH,JS hs Wv,.inl ⟨rfl,Ac1 hAc,LJ⟩,fun fz h1 h2 bt Ra=>?_⟩
    have hFx:=hF _ (List.mem_singleton_self _)
    have hxc:Be w (Cd s.hp β Y) β (Bf s.tm x) (a.eval x):=by
     cases hp:Bf s.tm x<;>rw[hp] at hx hFx<;>first|exact hx|exact hFx.elim
    have hoc:=(hv fz h1 h2 [a.eval x] ⟨hxc,trivial⟩ bt 1 (hown hs Ra)).1;rcases hAc with hT|⟨es,n,cc,rfl⟩
    ·cases c<;>first|exact⟨.inl trivial,hoc⟩|exact hT.elim
    ·exact⟨.inr ⟨_,_,_,rfl⟩,hoc⟩
   ·obtain⟨ps,ep,hk⟩:=F0 hk;rw[ep] at hx;obtain⟨vs,Cf,h3⟩:=hx;obtain⟨cs,m,y,q,hk,hl,Hm,hA,hF,hm,hy,AH,Wv,hv⟩:=Pp h hk;obtain⟨src,LJ,hs⟩:=Ko none q;refine⟨_,m,y,_,src,hk,hm,hy,JP hs AH,JS hs Wv,.inl ⟨rfl,rfl,LJ⟩,fun fz h1 h2 bt Ra=>?_⟩
    exact⟨vs,Cf,hA,hv fz h1 h2 vs h3 bt 1 (hown hs Ra)⟩
  ·obtain⟨e,he,hk⟩:=Bm hk;unfold Abc at hk;split at hk
   ·rename_i id es' off n ep;rw[ep] at hx;split at hk
    ·rename_i c h0;obtain⟨hb,D3⟩:=Ag hk;simp only[Bool.and_eq_true] at hb;have he:=Nat.eq_of_beq_eq_true hb.1;have hof:=Nat.eq_of_beq_eq_true hb.2;subst hof;obtain⟨src,LJ,hs⟩:=Ko (some (id,0)) (fun _=>none)
     refine⟨_,[],[],_,src,D3,by simp,by simp,JP hs (by simp),JS hs (by simp),.inr ⟨_,rfl,⟨_,rfl⟩,LJ,c,h0⟩,fun fz h1 h2 bt Ra=>⟨_,_,_,rfl,?_⟩⟩
     have KU:bt 0=β id:=by rw[Ra,LJ];exact NI β id
     rw[KU];rcases hx with⟨h3,_,h4,h5⟩|⟨b,ob,y,cap,h3,h4,hy,h5,h6,h7⟩
     ·refine .inl ⟨h3,h4,?_,h5⟩;rcases h.box id _ h0 with⟨_,h8⟩|⟨_,_,h8,_⟩
      ·exact h8
      ·rw[h3] at h8;cases h8
     ·have hy:y=ob:=by rcases hy with e|⟨_,e⟩<;>omega
      subst hy;rcases h.box id _ h0 with⟨h8,_⟩|⟨b',o',h8,h9,h10,_⟩
      ·rw[h3] at h8;cases h8
      ·rw[h3] at h8;cases h8;exact .inr ⟨b,y,cap,h3,h4,h5,by rw[←he];exact h6,h7,h9.weak (fun b _ hb=>Kj hb),h10 rfl⟩
    ·cases hk
   ·obtain⟨z,n,c,hk,hp⟩:=Eg hk;obtain⟨hz,hk⟩:=Ag hk;subst hz;obtain⟨src,LJ,hs⟩:=Ko none (fun _=>none)
    have hu:a.eval x=.slice none 0 0:=by
     have hF:Be w (Cd s.hp β Y) β (Bf s.tm x) (a.eval x):=by rcases hp with e|⟨e,_⟩<;>rw[e] at hx ⊢ <;> exact hx
     have:=Ru hp hF;generalize a.eval x=u at this;cases this;rfl
    refine⟨_,[],[],_,src,hk,by simp,by simp,JP hs (by simp),JS hs (by simp),.inr ⟨_,rfl,⟨_,rfl⟩,LJ⟩,fun fz h1 h2 bt Ra=>⟨_,_,_,rfl,.inl ⟨by rw[Ra,LJ];rfl,rfl,rfl,none,hu⟩⟩⟩
structure At9 (i0 n:Nat) (src:Nat->Nat->Option (Nat × Nat)) (ids x:List Nat):Prop where
 dom:∀i j q,src i j=some q->i0<=i∧i<i0+n
 lent:∀i id off,src i 0=some (id,off)->id∈ids
 mvd:∀i j id off,src i (j+1)=some (id,off)->off=0∧id∈x
 inj0:C8 ids=true->∀i i' id off off',src i 0=some (id,off)->src i' 0=some (id,off')->i=i'
 inj1:C8 x=true->∀i i' j j' id off off',src i (j+1)=some (id,off)->src i' (j'+1)=some (id,off')->i=i'∧j=j'
theorem Rk {hp:Nat->Option A3}{src src':Nat->Nat->Option (Nat × Nat)}:∀{ps:List PV}{i:Nat}{l:List Fk},(∀k,i<=k->src' k=src k)->Ls hp src i ps l->Ls hp src' i ps l
 |[],_,_,_,h=>h
 |p::ps,i,l,hs,h=>by
  rcases h with⟨h1,h2,h3⟩|⟨x,l',rfl,h2,h3⟩
  ·exact .inl ⟨h1,by rw[hs i (Nat.le_refl _)];exact h2,Rk (fun k hk=>hs k (by omega)) h3⟩
  ·exact .inr ⟨x,l',rfl,by rw[hs i (Nat.le_refl _)];exact h2,Rk (fun k hk=>hs k (by omega)) h3⟩
theorem V8 {bt bt':Th}:∀{ps:List PV}{us:List Value}{i:Nat},(∀k,i<=k->∀j,bt' k j=bt k j)->I0 w A bt i ps us->I0 w A bt' i ps us
 |[],[],_,_,_=>trivial
 |[],_::_,_,_,h=>h.elim
 |_::_,[],_,_,h=>h.elim
 |_::_,_::_,i,hb,h=>⟨by rw[show bt' i=bt i from funext (hb i (Nat.le_refl _))];exact h.1,V8 (fun k hk=>hb k (by omega)) h.2⟩
theorem BS (h:B3 N w0 X0 Y β s a w){C:Fy}{f:FuncId}:∀{ts:List TypeId}{xs:List Operand}{i:Nat}{K:List PV->List Nat->List Nat->List Fk->Option R},CS C P f s.hp i ts (xs.map (Bf s.tm)) K=some r ->
  ∃vs m y l,∃src:Nat->Nat->Option (Nat × Nat),K vs m y l=some r∧(∀id∈m,∃f cc,s.hp id=some (.ar f cc))∧(∀id∈y,∃cc,s.hp id=some (.ar false cc)) ∧
   At9 i xs.length src (l.flatMap Fk.ids) y∧Ls s.hp src i vs l ∧
   ∀fz:List Nat,(∀id∈m,id∈fz)->(∀id∈fz,∃f cc,s.hp id=some (.ar f cc))->∀bt:Th,(∀i j,bt i j=(src i j).bind (Fg β))->I0 w (Cd (Ac s.hp fz) β Y) bt i vs (xs.map a.eval)
 |[],[],i,K,hk=>⟨[],[],[],[],fun _ _=>none,hk,by simp,by simp,⟨by simp,by simp,by simp,by simp,by simp⟩,rfl,fun _ _ _ _ _=>trivial⟩
 |[],_::_,i,K,hk=>by cases hk
 |_::_,[],i,K,hk=>by cases hk
 |t::ts,x::xs,i,K,hk=>by
  simp only[List.map_cons] at hk;unfold CS at hk;obtain⟨v,m,y,l,src,hk,hm,hy,hs1,hs2,hl,hv⟩:=MR h hk;obtain⟨vs,ms,ys,ls,srcs,hk,X7,hys,hS,hL,Ex⟩:=BS h hk;have Ko:∃sr:Nat->Nat->Option (Nat × Nat),sr i=src∧∀k,k≠i->sr k=srcs k:=⟨fun k=>if k=i then src else srcs k,by simp,fun k hk=>by simp[hk]⟩
  obtain⟨sr,hsi,QC⟩:=Ko
  have AP:∀id off,src 0=some (id,off)->id∈l.flatMap Fk.ids:=by
   intro id off e;rcases hl with⟨_,_,h3⟩|⟨x',rfl,h3⟩
   ·rw[h3] at e;cases e
   ·cases x' with
    |var id' off' cts ws=>rw[h3.2.1] at e;cases e;simp[Fk.ids]
    |row id'=>rw[h3.2.1] at e;cases e;simp[Fk.ids]
    |none=>rw[h3.2] at e;cases e
  refine⟨v::vs,m++ms,y++ys,l++ls,sr,hk,?_,?_,⟨?_,?_,?_,?_,?_⟩,?_,fun fz h1 h2 bt Ra=>⟨?_,?_⟩⟩
  ·intro i hi;rcases List.mem_append.1 hi with hi|hi
   ·exact hm i hi
   ·exact X7 i hi
  ·intro i hi;rcases List.mem_append.1 hi with hi|hi
   ·exact hy i hi
   ·exact hys i hi
  ·intro k j q hq;simp only[List.length_cons];by_cases e:k=i
   ·subst e;omega
   ·rw[QC k e] at hq;have:=hS.dom k j q hq;omega
  ·intro k id off hq;rw[List.flatMap_append];by_cases e:k=i
   ·subst e;rw[hsi] at hq;exact List.mem_append.2 (.inl (AP id off hq))
   ·rw[QC k e] at hq;exact List.mem_append.2 (.inr (hS.lent k id off hq))
  ·intro k j id off hq;by_cases e:k=i
   ·subst e;rw[hsi] at hq;exact⟨(hs1 j id off hq).1,List.mem_append.2 (.inl (hs1 j id off hq).2)⟩
   ·rw[QC k e] at hq;exact⟨(hS.mvd k j id off hq).1,List.mem_append.2 (.inr (hS.mvd k j id off hq).2)⟩
  ·intro hn k k' id off off' hq Em;rw[List.flatMap_append] at hn;obtain⟨_,h4,h5⟩:=Gn hn;by_cases e:k=i
   ·by_cases e':k'=i
    ·omega
    ·rw[QC k' e'] at Em;subst e;rw[hsi] at hq;exact absurd (hS.lent k' id off' Em) (h5 id (AP id off hq))
   ·rw[QC k e] at hq;by_cases e':k'=i
    ·subst e';rw[hsi] at Em;exact absurd (hS.lent k id off hq) (h5 id (AP id off' Em))
    ·rw[QC k' e'] at Em;exact hS.inj0 h4 k k' id off off' hq Em
  ·intro hn k k' j j' id off off' hq Em;obtain⟨h3,h4,h5⟩:=Gn hn;by_cases e:k=i
   ·by_cases e':k'=i
    ·subst e;subst e';rw[hsi] at hq Em;exact⟨rfl,hs2 h3 j j' id off off' hq Em⟩
    ·rw[QC k' e'] at Em;subst e;rw[hsi] at hq;exact absurd (hS.mvd k' j' id off' Em).2 (h5 id (hs1 j id off hq).2)
   ·rw[QC k e] at hq;by_cases e':k'=i
    ·subst e';rw[hsi] at Em;exact absurd (hS.mvd k j id off hq).2 (h5 id (hs1 j' id off' Em).2)
    ·rw[QC k' e'] at Em;exact hS.inj1 h4 k k' j j' id off off' hq Em
  ·have Qx:Ls s.hp sr (i+1) vs ls:=Rk (fun k hk=>QC k (by omega)) hL
   rcases hl with⟨rfl,hnp,h3⟩|⟨x',rfl,h3⟩
   ·exact .inl ⟨hnp,by rw[hsi];exact h3,Qx⟩
   ·exact .inr ⟨x',ls,rfl,by rw[hsi];exact h3,Qx⟩
  ·exact hv fz (fun i hi=>h1 i (by simp[hi])) h2 (bt i) (fun j=>by rw[Ra,hsi])
  ·refine Ex fz (fun i hi=>h1 i (by simp[hi])) h2 (fun k j=>(srcs k j).bind (Fg β)) (fun _ _=>rfl) |> V8 fun k hk j=>?_
   rw[Ra,QC k (by omega)]
end
open Go.RowKit
section
variable {R:Type} {r:R} {P:Program} {N:Nat} {w0:World} {X0:F9} {Y:Nat->Prop} {β β':Bt} {s:St} {a:Act} {w w':World} {o:Oper} {A:Nat->Prop}
theorem Ab3 {p:PV}{u:Value}(h:An w A p u):Be w A β p u:=by
 have h0:=h;cases h<;>exact h0
theorem YZ {t:Nat}{ct:CT}{was p:PV}{K:Nat->PV->List (Nat × A3)->Option R} (hk:TK N t ct was p K=some r):
  (∃c,K t c []=some r∧Ku c∧∀w A q u,E3 w A q p u->An w A c u)∨∃es n cc,p=.own es n cc∧K (t+1) (.view (LF N t) es 0 n) [(LF N t,.ar false cc)]=some r:=by
 have tree:∀t',(Ug t' p fun c=>K t c [])=some r->∃c,K t c []=some r∧Ku c∧∀w A q u,E3 w A q p u->An w A c u:=by
  intro t' hk;obtain⟨c,hk,hT,Xo,hv⟩:=Jz hk;refine⟨c,hk,hT,fun w A q u h=>(hv w A (fun _=>none) u ?_).1⟩
  cases p<;>first|exact h|exact Xo.elim
 unfold TK at hk;cases ct with
 |sl es=>
  dsimp only at hk;split at hk
  ·unfold Oc at hk;split at hk
   ·rename_i es' n c;cases hb:Nat.beq es' es<;>rw[hb] at hk
    ·cases hk
    ·have:=Nat.eq_of_beq_eq_true hb;subst this;exact .inr ⟨_,_,_,rfl,hk⟩
   ·cases hk
  ·have h2:(Ug (.sl es) p fun c=>(match c with | .lst _ es n c=>K t (.lst false es n c) []|_=>none))=some r:=hk
   obtain⟨c,hk,hT,Xo,hv⟩:=Jz h2;split at hk
   ·refine .inl ⟨_,hk,hT,fun w A q u h=>An.unz (hv w A (fun _=>none) u ?_).1⟩
    cases p<;>first|exact h|exact Xo.elim
   ·cases hk
 |int k=>exact .inl (tree _ hk)
 |bool=>exact .inl (tree _ hk)
 |str=>exact .inl (tree _ hk)
 |any=>exact .inl (tree _ hk)
theorem Ve:∀{cts:List CT}{ws ps:List PV}{t:Nat}{K:Nat->List PV->List (Nat × A3)->Option R},DE N t cts ws ps K=some r ->
  ∃t' cs bs,∃qs:List (Nat × Nat),K t' cs bs=some r∧cs.length=ps.length∧ps.length=ws.length∧bs.map (·.1)=qs.map (·.1)∧(∀q∈qs,(∃k,q.1=LF N k)∧q.2<ps.length)∧(∀q∈qs,∀q'∈qs,q.2=q'.2->q.1=q'.1) ∧
   (∀i bx,(i,bx)∈bs->∃c,bx=.ar false c)∧(∀c∈cs,∀i∈Ak c,∃bx,(i,bx)∈bs) ∧
   ∀(w:World) (A:Nat->Prop) (own β':Bt) (j0:Nat) (us:List Value),(∀q∈qs,β' q.1=own (j0+q.2))->Dx w A own j0 ps us->Av (Be w A β') cs us∧∀i bx,(i,bx)∈bs->Nx w A β' i bx
 |[],[],ps,t,K,hk=>by
  obtain⟨rfl,hk⟩:=Cl hk;refine⟨t,[],[],[],hk,rfl,rfl,rfl,by simp,by simp,by simp,by simp,fun w A own β' j0 us _ h=>⟨?_,by simp⟩⟩
  cases us with
  |nil=>trivial
  |cons u us=>exact h.elim
 |[],_::_,_,_,_,hk=>by cases hk
 |_::_,[],_,_,_,hk=>by cases hk
 |ct::cts,x::ws,ps,t,K,hk=>by
  unfold DE at hk;obtain⟨p,ps',Z7,C9⟩:=Ar hk;subst Z7;rcases YZ C9 with⟨c,D3,hT,hv⟩|⟨es,n,cc,rfl,D3⟩
  ·obtain⟨t',cs,bs,qs,Mx,hl,Hm,hb,AH,Wv,Er,Im,Ex⟩:=Ve D3;refine⟨t',c::cs,bs,qs.map (fun q=>(q.1,q.2+1)),Mx,by simp[hl],by simp[Hm],by rw[hb];simp,?_,?_,Er,?_,fun w A own β' j0 us hβ ho=>?_⟩
   ·intro q hq;obtain⟨q0,Rc,rfl⟩:=List.mem_map.1 hq;exact⟨(AH q0 Rc).1,by have:=(AH q0 Rc).2;simp only[List.length_cons];omega⟩
   ·intro q hq q' Em e;obtain⟨q0,Rc,rfl⟩:=List.mem_map.1 hq;obtain⟨q1,Hg,rfl⟩:=List.mem_map.1 Em;exact Wv q0 Rc q1 Hg (by simp only at e;omega)
   ·intro y hy i hi;rcases List.mem_cons.1 hy with rfl|hy
    ·rw[F5 hT] at hi;cases hi
    ·exact Im y hy i hi
   ·cases us with
    |nil=>exact ho.elim
    |cons u us=>
     obtain⟨h1,h2⟩:=Ex w A own β' (j0+1) us (fun q hq=>by rw[hβ _ (List.mem_map_of_mem hq)];congr 1;simp only;omega) ho.2
     exact⟨⟨Ab3 (hv w A _ u ho.1),h1⟩,h2⟩
  ·obtain⟨t',cs,bs,qs,Mx,hl,Hm,hb,AH,Wv,Er,Im,Ex⟩:=Ve D3;refine⟨t',_::cs,(LF N t,.ar false cc)::bs,(LF N t,0)::qs.map (fun q=>(q.1,q.2+1)),Mx,by simp[hl],by simp[Hm],by simp only[List.map_cons,hb];simp,?_,?_,?_,?_,fun w A own β' j0 us hβ ho=>?_⟩
   ·intro q hq;rcases List.mem_cons.1 hq with rfl|hq
    ·exact⟨⟨t,rfl⟩,by simp⟩
    ·obtain⟨q0,Rc,rfl⟩:=List.mem_map.1 hq;exact⟨(AH q0 Rc).1,by have:=(AH q0 Rc).2;simp only[List.length_cons];omega⟩
   ·intro q hq q' Em e;rcases List.mem_cons.1 hq with rfl|hq
    ·rcases List.mem_cons.1 Em with rfl|Em
     ·rfl
     ·obtain⟨q0,Rc,rfl⟩:=List.mem_map.1 Em;simp only at e;omega
    ·obtain⟨q0,Rc,rfl⟩:=List.mem_map.1 hq;rcases List.mem_cons.1 Em with rfl|Em
     ·simp only at e;omega
     ·obtain⟨q1,Hg,rfl⟩:=List.mem_map.1 Em;exact Wv q0 Rc q1 Hg (by simp only at e;omega)
   ·intro i bx hm;rcases List.mem_cons.1 hm with e|hm
    ·cases e;exact⟨cc,rfl⟩
    ·exact Er i bx hm
   ·intro y hy i hi;rcases List.mem_cons.1 hy with rfl|hy
    ·simp only[Ak,List.mem_singleton] at hi;subst hi;exact⟨_,List.mem_cons_self⟩
    ·obtain⟨bx,Jc⟩:=Im y hy i hi;exact⟨bx,List.mem_cons_of_mem _ Jc⟩
   ·cases us with
    |nil=>exact ho.elim
    |cons u us=>
     obtain⟨h1,h2⟩:=Ex w A own β' (j0+1) us (fun q hq=>by rw[hβ _ (List.mem_cons_of_mem _ (List.mem_map_of_mem hq))];congr 1;simp only;omega) ho.2
     have h0:=hβ (LF N t,0) List.mem_cons_self;simp only[Nat.add_zero] at h0;refine⟨⟨?_,h1⟩,fun i bx hm=>?_⟩
     ·rcases ho.1 with⟨h3,rfl,_,h5⟩|⟨b,ob,cap,h3,h4,h5,h6,h7,_⟩
      ·exact .inl ⟨h0.trans h3,rfl,rfl,h5⟩
      ·exact .inr ⟨b,ob,ob,cap,h0.trans h3,h4,.inl rfl,h5,h6,h7⟩
     ·rcases List.mem_cons.1 hm with e|hm
      ·cases e;exact Tj ho.1 h0
      ·exact h2 i bx hm
def NK (hp B4:Nat->Option A3)(bs:List (Nat × A3)) (x:Fk):Prop:=
 match x with
 |.var id off _ ws=>∃c cs,hp id=some (.st c)∧B4 id=some (.st (Bd c cs off))∧cs.length=ws.length∧off+cs.length<=c.length∧∀p∈cs,∀i∈Ak p,∃bx,(i,bx)∈bs
 |.row id=>∃c cs,hp id=some (.ar false c)∧B4 id=some (.ar false cs)
 |.none=>True
def VY (β β':Bt)(w':World)(A:Nat->Prop)(hp B4:Nat->Option A3)(x:Fk):Prop:=
 match x with
 |.var id off _ ws=>∃c cs,hp id=some (.st c)∧B4 id=some (.st (Bd c cs off))∧cs.length=ws.length∧off+cs.length<=c.length ∧
   ∀b o,β id=some (b,o)->(∀(j:Nat) p,cs[j]?=some p->∃v,w'.cell? ⟨b,o+off+j,none⟩=some v∧Be w' A β' p v)∧∀j,j<cs.length->w'.frozen? ⟨b,o+off+j,none⟩=false
 |.row id=>∃cs,B4 id=some (.ar false cs)∧((β id=none∧cs=[])∨∃b o,β id=some (b,o)∧Se w' A ⟨b,o,none⟩ cs∧∀j,o<=j->j<bsz w' b->w'.frozen? ⟨b,j,none⟩=false)
 |.none=>True
theorem Tq {hp Cu B4:Nat->Option A3}{bs bs1:List (Nat × A3)} {x:Fk}(h1:∀i∈x.ids,Cu i=hp i)(hb:∀q∈bs,q∈bs1)(h:NK Cu B4 bs x):NK hp B4 bs1 x:=by
 cases x with
 |var id off cts ws=>
  obtain⟨c,cs,h2,h3,h4,h5,h6⟩:=h;refine⟨c,cs,by rw[←h1 id (by simp[Fk.ids])];exact h2,h3,h4,h5,fun p hp i hi=>?_⟩
  obtain⟨bx,Jc⟩:=h6 p hp i hi;exact⟨bx,hb _ Jc⟩
 |row id=>
  obtain⟨c,cs,h2,h3⟩:=h;exact⟨c,cs,by rw[←h1 id (by simp[Fk.ids])];exact h2,h3⟩
 |none=>trivial
theorem Wd {hp Cu B4:Nat->Option A3}{x:Fk}(h1:∀i∈x.ids,Cu i=hp i)(h:VY β β' w' A Cu B4 x):VY β β' w' A hp B4 x:=by
 cases x with
 |var id off cts ws=>
  obtain⟨c,cs,h2,h3⟩:=h;exact⟨c,cs,by rw[←h1 id (by simp[Fk.ids])];exact h2,h3⟩
 |row id=>exact h
 |none=>trivial
theorem SG {hp Cu:Nat->Option A3}{q:Option (Nat × Nat)} {p:PV}{x:Fk}(h1:∀i∈x.ids,Cu i=hp i)(h:LOk hp q p x):LOk Cu q p x:=by
 cases x with
 |var id off cts ws'=>
  obtain⟨h2,h3,h5,c,h6,h7⟩:=h;exact⟨h2,h3,h5,c,by rw[h1 id (by simp[Fk.ids])];exact h6,h7⟩
 |row id=>
  obtain⟨h2,h3,c,h4⟩:=h;exact⟨h2,h3,c,by rw[h1 id (by simp[Fk.ids])];exact h4⟩
 |none=>exact h
theorem So {hp Cu:Nat->Option A3}{src:Nat->Nat->Option (Nat × Nat)}:∀{ps:List PV}{i:Nat}{l:List Fk},(∀i∈l.flatMap Fk.ids,Cu i=hp i)->Ls hp src i ps l->Ls Cu src i ps l
 |[],_,_,_,h=>h
 |p::ps,i,l,hs,h=>by
  rcases h with⟨h1,h2,h3⟩|⟨x,l',rfl,h2,h3⟩
  ·exact .inl ⟨h1,h2,So hs h3⟩
  ·exact .inr ⟨x,l',rfl,SG (fun k hk=>hs k (by simp only[List.flatMap_cons,List.mem_append];exact .inl hk)) h2,So (fun k hk=>hs k (by simp only[List.flatMap_cons,List.mem_append];exact .inr hk)) h3⟩
theorem NX {own:Bt}{bt:Th}{j i:Nat}{p:PV}{zs:List PV}{r:List (List PV)} (hp:S8 p=false)(h:F1 w A own bt j i (p::zs) r):F1 w A own bt j (i+1) zs r:=by
 cases p<;>first|exact h|cases hp
theorem Pj {src:Nat->Nat->Option (Nat × Nat)} {β:Bt}:∀{zs:List PV}{l:List Fk}{ro:List (List PV)} {i j t:Nat}{hp:Nat->Option A3}{K:(Nat->Option A3)->List (Nat × A3)->Option R},
  Rf N t l ro hp K=some r->Ls hp src i zs l->C8 (l.flatMap Fk.ids)=true ->
  ∃B4 bs,∃qs:List (Nat × Nat),K B4 bs=some r∧bs.map (·.1)=qs.map (·.1)∧(∀q∈qs,(∃k,q.1=LF N k)∧j<=q.2)∧(∀q∈qs,∀q'∈qs,q.2=q'.2->q.1=q'.1)∧(∀i bx,(i,bx)∈bs->∃c,bx=.ar false c) ∧
   (∀i,i ∉ l.flatMap Fk.ids->B4 i=hp i)∧(∀x∈l,NK hp B4 bs x) ∧
   ∀(w':World) (A:Nat->Prop) (own β':Bt) (bt:Th),(∀q∈qs,β' q.1=own q.2)->(∀i,bt i 0=(src i 0).bind (Fg β))->F1 w' A own bt j i zs ro ->
    (∀i bx,(i,bx)∈bs->Nx w' A β' i bx)∧∀x∈l,VY β β' w' A hp B4 x
 |[],l,ro,i,j,t,hp,K,hk,hL,hn=>by
  have hL:l=[]:=hL;subst hL;unfold Rf at hk;obtain⟨rfl,hk⟩:=Cl hk;exact⟨hp,[],[],hk,rfl,by simp,by simp,by simp,fun _ _=>rfl,by simp,fun w' A own β' bt _ _ _=>⟨by simp,by simp⟩⟩
 |p::zs,l0,ro,i,j,t,hp,K,hk,hL0,hn=>by
  rcases hL0 with⟨Wz,_,hL⟩|⟨x,l,rfl,K1,hL⟩
  rotate_left
  ··simp only[List.flatMap_cons] at hn;obtain⟨hn1,hn2,hn3⟩:=Gn hn;cases x with
    |var id off cts ws'=>
     obtain⟨rfl,Ko,Lp,c,hc,Vl⟩:=K1;unfold Rf at hk;obtain⟨cs,ro',hro,C9⟩:=Ar hk;subst hro;obtain⟨t',cs',bs,qs,D3,Ys,GR,hb,AH,Wv,Er,Im,hv⟩:=Ve C9;rw[hc] at D3;simp only at D3;change Rf N t' l ro' (Bu hp id (some (.st (Bd c cs' off)))) (fun B4 bs'=>K B4 (bs++bs'))=some r at D3
     have LM:id ∉ l.flatMap Fk.ids:=hn3 id (by simp[Fk.ids])
     have RC:Ls (Bu hp id (some (.st (Bd c cs' off)))) src (i+1) zs l:=So (fun k hkm=>Ad _ _ (fun e=>LM (e ▸ hkm))) hL
     obtain⟨B4,bs',qs',Mx,F8,Hg,OA,NM,Ix,VJ,DT⟩:=Pj (β:=β) (j:=j+cs.length) D3 RC hn2;have Aab:B4 id=some (.st (Bd c cs' off)):=by rw[Ix id LM,Ah]
     have Zi:∀x∈l,∀k∈x.ids,Bu hp id (some (.st (Bd c cs' off))) k=hp k:=fun x hx k hkm=>Ad _ _ (fun e=>LM (e ▸ List.mem_flatMap.2 ⟨x,hx,hkm⟩))
     refine⟨B4,bs++bs',qs.map (fun q=>(q.1,j+q.2))++qs',Mx,by simp only[List.map_append,hb,F8];simp,?_,?_,?_,?_,?_,fun w' A own β' bt hβ Ra ho=>?_⟩
     ·intro q hq;rcases List.mem_append.1 hq with hq|hq
      ·obtain⟨q0,Rc,rfl⟩:=List.mem_map.1 hq;exact⟨(AH q0 Rc).1,by simp only;omega⟩
      ·exact⟨(Hg q hq).1,by have:=(Hg q hq).2;omega⟩
     ·intro q hq q' Em e;rcases List.mem_append.1 hq with hq|hq
      ·obtain⟨q0,Rc,rfl⟩:=List.mem_map.1 hq;have:=(AH q0 Rc).2;rcases List.mem_append.1 Em with Em|Em
       ·obtain⟨q1,Hg,rfl⟩:=List.mem_map.1 Em;exact Wv q0 Rc q1 Hg (by simp only at e;omega)
       ·have:=(Hg q' Em).2;simp only at e;omega
      ·have h5:=(Hg q hq).2;rcases List.mem_append.1 Em with Em|Em
       ·obtain⟨q1,An5,rfl⟩:=List.mem_map.1 Em;have:=(AH q1 An5).2;simp only at e;omega
       ·exact OA q hq q' Em e
     ·intro k bx hm;rcases List.mem_append.1 hm with hm|hm
      ·exact Er k bx hm
      ·exact NM k bx hm
     ·intro k hk;simp only[List.flatMap_cons,List.mem_append,not_or] at hk;rw[Ix k hk.2];exact Ad _ _ (by rintro rfl;exact hk.1 (by simp[Fk.ids]))
     ·intro x hx;rcases List.mem_cons.1 hx with rfl|hx
      ·refine⟨c,cs',hc,Aab,by omega,by omega,fun p hp k hk=>?_⟩
       obtain⟨bx,Jc⟩:=Im p hp k hk;exact⟨bx,List.mem_append.2 (.inl Jc)⟩
      ·exact Tq (Zi x hx) (fun q hq=>List.mem_append.2 (.inr hq)) (VJ x hx)
     ·obtain⟨⟨b,ob,KU,Dv,vs,hov,hcell,hfr⟩,ho⟩:=ho
      ·obtain⟨h1,h2⟩:=hv w' A own β' j vs (fun q hq=>hβ _ (List.mem_append.2 (.inl (List.mem_map_of_mem hq)))) hov
       obtain⟨h3,h4⟩:=DT w' A own β' bt (fun q hq=>hβ q (List.mem_append.2 (.inr hq))) Ra ho
       refine⟨fun k bx hm=>?_,fun x hx=>?_⟩
       ·rcases List.mem_append.1 hm with hm|hm
        ·exact h2 k bx hm
        ·exact h3 k bx hm
       ·rcases List.mem_cons.1 hx with rfl|hx
        ·refine⟨c,cs',hc,Aab,by omega,by omega,fun b1 o1 hβ1=>?_⟩
         have Im:=Ra i;rw[KU,Ko] at Im;simp only[Option.bind_some,Fg,hβ1,Option.map_some,Option.some.injEq,Prod.mk.injEq] at Im;obtain⟨rfl,rfl⟩:=Im;refine⟨fun k p hp=>?_,fun k hk=>hfr k (by omega)⟩
         obtain⟨v,hv,GP⟩:=h1.get hp;exact⟨v,hcell k v hv,GP⟩
        ·exact Wd (Zi x hx) (h4 x hx)
    |row id=>
     obtain⟨⟨pz,rfl⟩,Ko,c,hc⟩:=K1;unfold Rf at hk;obtain⟨cs,ro',hro,D3⟩:=Ar hk;subst hro;have LM:id ∉ l.flatMap Fk.ids:=hn3 id (by simp[Fk.ids])
     have RC:Ls (Bu hp id (some (.ar false cs))) src (i+1) zs l:=So (fun k hkm=>Ad _ _ (fun e=>LM (e ▸ hkm))) hL
     obtain⟨B4,bs',qs',Mx,F8,Hg,OA,NM,Ix,VJ,DT⟩:=Pj (β:=β) (j:=j) D3 RC hn2;have Aab:B4 id=some (.ar false cs):=by rw[Ix id LM,Ah]
     have Zi:∀x∈l,∀k∈x.ids,Bu hp id (some (.ar false cs)) k=hp k:=fun x hx k hkm=>Ad _ _ (fun e=>LM (e ▸ List.mem_flatMap.2 ⟨x,hx,hkm⟩))
     refine⟨B4,bs',qs',Mx,F8,Hg,OA,NM,?_,?_,fun w' A own β' bt hβ Ra ho=>?_⟩
     ·intro k hk;simp only[List.flatMap_cons,List.mem_append,not_or] at hk;rw[Ix k hk.2];exact Ad _ _ (by rintro rfl;exact hk.1 (by simp[Fk.ids]))
     ·intro x hx;rcases List.mem_cons.1 hx with rfl|hx
      ·exact⟨c,cs,hc,Aab⟩
      ·exact Tq (Zi x hx) (fun q hq=>hq) (VJ x hx)
     ·obtain⟨UM,ho⟩:=ho
      ·obtain⟨h3,h4⟩:=DT w' A own β' bt hβ Ra ho;refine⟨h3,fun x hx=>?_⟩
       rcases List.mem_cons.1 hx with rfl|hx
       ·refine⟨cs,Aab,?_⟩;have Im:=Ra i;rw[Ko] at Im;simp only[Option.bind_some,NI] at Im;rw[Im] at UM;exact UM
       ·exact Wd (Zi x hx) (h4 x hx)
    |none=>
     obtain⟨⟨pz,rfl⟩,Ko⟩:=K1;unfold Rf at hk;obtain⟨cs,ro',hro,D3⟩:=Ar hk;subst hro;obtain⟨B4,bs',qs',Mx,F8,Hg,OA,NM,Ix,VJ,DT⟩:=Pj (β:=β) (j:=j) D3 hL hn2;refine⟨B4,bs',qs',Mx,F8,Hg,OA,NM,?_,?_,fun w' A own β' bt hβ Ra ho=>?_⟩
     ·intro k hk;simp only[List.flatMap_cons,List.mem_append,not_or] at hk;exact Ix k hk.2
     ·intro x hx;rcases List.mem_cons.1 hx with rfl|hx
      ·trivial
      ·exact VJ x hx
     ·obtain⟨UM,ho⟩:=ho
      ·obtain⟨h3,h4⟩:=DT w' A own β' bt hβ Ra ho;refine⟨h3,fun x hx=>?_⟩
       rcases List.mem_cons.1 hx with rfl|hx
       ·trivial
       ·exact h4 x hx
  ·obtain⟨B4,bs',qs',Mx,F8,Hg,OA,NM,Ix,VJ,DT⟩:=Pj (β:=β) (j:=j) hk hL hn;exact⟨B4,bs',qs',Mx,F8,Hg,OA,NM,Ix,VJ,fun w' A own β' bt hβ Ra ho=>DT w' A own β' bt hβ Ra (NX Wz ho)⟩
end
open Go.RowKit
theorem Ez (hp:Nat->Option A3)(ids:List Nat)(i:Nat):Pk hp ids i=if i∈ids then (hp i).map (fun _=>A3.mv) else hp i:=by
 unfold Pk;by_cases hi:i∈ids
 ·have:ids.any (Nat.beq i)=true:=List.any_eq_true.2 ⟨i,hi,Nat.beq_refl i⟩;rw[this,if_pos hi];rfl
 ·have:ids.any (Nat.beq i)=false:=by
   cases hb:ids.any (Nat.beq i)
   ·rfl
   ·obtain⟨j,hj,e⟩:=List.any_eq_true.1 hb;exact absurd (Nat.eq_of_beq_eq_true e ▸ hj) hi
  rw[this,if_neg hi];rfl
theorem Nn:∀{nw:List (Nat × A3)} {hp:Nat->Option A3},A8 hp nw=true->(nw.map (·.1)).Nodup
 |[],_,_=>List.nodup_nil
 |(i,b)::r,hp,h=>by
  simp only[A8,Bool.and_eq_true,Option.isNone_iff_eq_none,Bool.not_eq_true'] at h;simp only[List.map_cons,List.nodup_cons];refine⟨fun hm=>?_,Nn h.2⟩
  obtain⟨q,hq,e⟩:=List.mem_map.1 hm;have:r.any (fun q=>Nat.beq q.1 i)=true:=List.any_eq_true.2 ⟨q,hq,by rw[e];exact Nat.beq_refl i⟩
  rw[this] at h;cases h.1.2
theorem ZZ:∀{l:List (Nat × Nat)},(l.map (·.1)).Nodup->∀q∈l,Qd l q.1=some q.2
 |[],_,_,h=>by cases h
 |(j,b)::r,hn,q,hq=>by
  simp only[List.map_cons,List.nodup_cons] at hn;unfold Qd;rcases List.mem_cons.1 hq with rfl|hq
  ·simp only[Nat.beq_refl,cond_true]
  ·have:Nat.beq q.1 j=false:=by
    cases hb:Nat.beq q.1 j
    ·rfl
    ·exact absurd (Nat.eq_of_beq_eq_true hb ▸ List.mem_map_of_mem hq) hn.1
   simp only[this,cond_false];exact ZZ hn.2 q hq
theorem JZ:∀{l:List (Nat × Nat)} {i:Nat},i ∉ l.map (·.1)->Qd l i=none
 |[],_,_=>rfl
 |(j,b)::r,i,h=>by
  simp only[List.map_cons,List.mem_cons,not_or] at h;unfold Qd
  have:Nat.beq i j=false:=by
   cases hb:Nat.beq i j
   ·rfl
   ·exact absurd (Nat.eq_of_beq_eq_true hb) h.1
  simp only[this,cond_false];exact JZ h.2
section
variable {R:Type} {r:R} {P:Program} {N:Nat} {w0:World} {X0:F9} {Y:Nat->Prop} {β β':Bt} {s:St} {a:Act} {w w':World} {o:Oper} {A A':Nat->Prop}
theorem E3.weak (hA:∀b,b<w.heap.size->A' b->A b){q:Option (Nat × Nat)} {p:PV}{u:Value}(h:E3 w A q p u):E3 w A' q p u:=by
 have tr:∀{p:PV},An w A p u->An w A' p u:=fun h=>h.step (Bh.refl _ _) hA
 cases p with
 |own es n c=>
  rcases h with h|⟨b,ob,cap,h1,h2,h3,h4,h5,h6,h7⟩
  ·exact .inl h
  ·exact .inr ⟨b,ob,cap,h1,h2,h3,h4,h5,h6.weak hA,h7⟩
 |_=>exact tr h
theorem Dx.weak (hA:∀b,b<w.heap.size->A' b->A b){own:Bt}:∀{ps:List PV}{us:List Value}{j:Nat},Dx w A own j ps us->Dx w A' own j ps us
 |[],[],_,_=>trivial
 |[],_::_,_,h=>h.elim
 |_::_,[],_,h=>h.elim
 |_::_,_::_,_,h=>⟨h.1.weak hA,Dx.weak hA h.2⟩
theorem AD.weak (hA:∀b,b<w.heap.size->A' b->A b){bt:Bt}{p:PV}{u:Value}(h:AD w A bt p u):AD w A' bt p u:=by
 cases p with
 |pbox ps=>
  obtain⟨b,ob,h1,h2,h3,vs,h4,h5⟩:=h;exact⟨b,ob,h1,h2,h3,vs,h4.weak hA,h5⟩
 |tup ps=>
  obtain⟨es,n,c,h1,h2⟩:=h;exact⟨es,n,c,h1,h2.weak hA⟩
 |agg cs=>
  obtain⟨vs,h1,h2,h3⟩:=h;exact⟨vs,h1,h2,h3.weak hA⟩
 |_=>exact⟨h.1,h.2.weak hA⟩
theorem I0.weak (hA:∀b,b<w.heap.size->A' b->A b){bt:Th}:∀{ps:List PV}{us:List Value}{i:Nat},I0 w A bt i ps us->I0 w A' bt i ps us
 |[],[],_,_=>trivial
 |[],_::_,_,h=>h.elim
 |_::_,[],_,h=>h.elim
 |_::_,_::_,_,h=>⟨h.1.weak hA,I0.weak hA h.2⟩
theorem Tm {bt:Th}(k:Bool):∀{xs:List Operand}{ps:List PV}{i:Nat},I0 w A bt i ps (xs.map a.eval)->I0 w A bt i (Hd k xs ps) (xs.map a.eval)
 |[],[],_,h=>h
 |[],_::_,_,h=>h
 |_::_,[],_,h=>h
 |x::xs,p::ps,i,h=>by
  simp only[List.map_cons] at h ⊢;refine⟨?_,Tm k h.2⟩;split
  ·exact⟨.inl trivial,An.lnil _ _⟩
  ·exact h.1
theorem FE (k:Bool)(x:Operand)(xs:List Operand)(p:PV)(ps:List PV):∃p',Hd k (x::xs) (p::ps)=p'::Hd k xs ps∧S8 p'=S8 p∧(S8 p=true->p'=p):=by
 refine⟨_,rfl,?_,fun h=>?_⟩
 ·split
  ·rfl
  ·rfl
 ·split
  ·cases h
  ·rfl
theorem Nu {hp:Nat->Option A3}{src:Nat->Nat->Option (Nat × Nat)} (k:Bool):∀{xs:List Operand}{ps:List PV}{i:Nat}{l:List Fk},Ls hp src i ps l->Ls hp src i (Hd k xs ps) l
 |[],[],_,_,h=>h
 |[],_::_,_,_,h=>h
 |_::_,[],_,_,h=>h
 |x::xs,p::ps,i,l,h=>by
  obtain⟨p',e,h1,h2⟩:=FE k x xs p ps;rw[e];rcases h with⟨h3,h4,h5⟩|⟨y,l',rfl,h4,h5⟩
  ·exact .inl ⟨by rw[h1];exact h3,h4,Nu k h5⟩
  ·exact .inr ⟨y,l',rfl,by rw[h2 (OG h4)];exact h4,Nu k h5⟩
theorem Zm {hp:Nat->Option A3}{src:Nat->Nat->Option (Nat × Nat)}:∀{ps:List PV}{i:Nat}{l:List Fk},Ls hp src i ps l->∀id∈l.flatMap Fk.ids,Cc (hp id)∧∃k off,src k 0=some (id,off)
 |[],_,_,h,id,hid=>by
  have h:_=[]:=h;rw[h] at hid;cases hid
 |p::ps,i,l,h,id,hid=>by
  rcases h with⟨_,_,h3⟩|⟨x,l',rfl,h2,h3⟩
  ·exact Zm h3 id hid
  ·simp only[List.flatMap_cons,List.mem_append] at hid;rcases hid with hid|hid
   ·cases x with
    |var id' off cts ws=>
     simp only[Fk.ids,List.mem_singleton] at hid;subst hid;obtain⟨_,h4,_,c,h5,_⟩:=h2;exact⟨by rw[h5];trivial,i,_,h4⟩
    |row id'=>
     simp only[Fk.ids,List.mem_singleton] at hid;subst hid;obtain⟨_,h4,c,h5⟩:=h2;exact⟨by rw[h5];trivial,i,_,h4⟩
    |none=>simp[Fk.ids] at hid
   ·exact Zm h3 id hid
theorem YC {hp:Nat->Option A3}{src:Nat->Nat->Option (Nat × Nat)}:∀{ps:List PV}{i:Nat}{l:List Fk},Ls hp src i ps l->∀k p id off,ps[k]?=some p->src (i+k) 0=some (id,off) ->
   (∃c ws,hp id=some (.st c)∧p=.pbox ws∧off+ws.length<=c.length)∨((∃c,hp id=some (.ar false c))∧off=0∧∃ws,p=.tup ws)
 |[],_,_,_,k,p,id,off,hp,_=>by simp at hp
 |p::ps,i,l,h,k,p',id,off,B4,hs=>by
  have Qx:∃l',Ls hp src (i+1) ps l':=by
   rcases h with⟨_,_,h3⟩|⟨x,l',_,_,h3⟩<;>exact⟨_,h3⟩
  cases k with
  |succ k=>
   obtain⟨l',h'⟩:=Qx;exact YC h' k p' id off (by simpa using B4) (by rw[show i+1+k=i+(k+1) by omega];exact hs)
  |zero=>
   simp only[List.getElem?_cons_zero,Option.some.injEq] at B4;subst B4;rw[Nat.add_zero] at hs;rcases h with⟨_,h2,_⟩|⟨x,l',_,h2,_⟩
   ·rw[hs] at h2;cases h2
   ·cases x with
    |var id' off' cts ws=>
     obtain⟨h3,h4,_,c,h5,h6⟩:=h2;rw[hs] at h4;cases h4;exact .inl ⟨c,ws,h5,h3,h6⟩
    |row id'=>
     obtain⟨h3,h4,c,h5⟩:=h2;rw[hs] at h4;cases h4;exact .inr ⟨⟨c,h5⟩,rfl,h3⟩
    |none=>
     have:=h2.2;rw[hs] at this;cases this
theorem HY {hp : Nat -> Option A3} {src : Nat -> Nat -> Option (Nat × Nat)} {id off : Nat} {cts : List CT} {ws : List PV} : ∀ {ps : List PV} {i : Nat} {l : List Fk}, Ls hp src i ps l -> Fk.var id off cts ws ∈ l ->
      ∃ k, ps[k]? = some (.pbox ws) ∧ src (i + k) 0 = some (id, off)
  | [], _, _, h, hm => by
    have h : _ = [] := h
    rw[h] at hm; cases hm
  | p :: ps, i, l, h, hm => by
    have next : ∀ {l'}, Ls hp src (i + 1) ps l' -> Fk.var id off cts ws ∈ l' -> ∃ k, (p :: ps)[k]? = some (.pbox ws) ∧ src (i + k) 0 = some (id, off) := by
      intro l' h' Jv
      obtain⟨k, h1, h2⟩ := HY h' Jv
      exact⟨k + 1, by simpa using h1, by rw[show i + (k + 1) = i + 1 + k by omega]; exact h2⟩
    rcases h with⟨_, _, h3⟩ | ⟨x, l', rfl, h2, h3⟩
    · exact next h3 hm
    · rcases List.mem_cons.1 hm with e | hm
      · subst e
        obtain⟨h1, h4, _⟩ := h2
        subst h1
        exact⟨0, rfl, h4⟩
      · exact next h3 hm
theorem JR {hp:Nat->Option A3}{src:Nat->Nat->Option (Nat × Nat)}:∀{ps:List PV}{i:Nat}{l:List Fk},Ls hp src i ps l->∀k id off,i<=k->src k 0=some (id,off)->k<i+ps.length->∃p,ps[k-i]?=some p∧S8 p=true
 |[],i,_,_,k,id,off,h1,_,h3=>by simp at h3;omega
 |p::ps,i,l,h,k,id,off,h1,h2,h3=>by
  by_cases e:k=i
  ·subst e;rcases h with⟨_,h4,_⟩|⟨x,l',_,h4,_⟩
   ·rw[h2] at h4;cases h4
   ·exact⟨p,by simp,OG h4⟩
  ·have Qx:∃l',Ls hp src (i+1) ps l':=by
    rcases h with⟨_,_,h3⟩|⟨x,l',_,_,h3⟩<;>exact⟨_,h3⟩
   obtain⟨l',h'⟩:=Qx;obtain⟨q,h5,h6⟩:=JR h' k id off (by omega) h2 (by simp at h3;omega)
   refine⟨q,?_,h6⟩;rw[show k-i=(k-(i+1))+1 by omega]
   simpa using h5
theorem I0.len {bt:Th}:∀{ps:List PV}{us:List Value}{i:Nat},I0 w A bt i ps us->ps.length=us.length
 |[],[],_,_=>rfl
 |[],_::_,_,h=>h.elim
 |_::_,[],_,h=>h.elim
 |_::_,_::_,_,h=>by simp[I0.len h.2]
theorem KA (h:B3 N w0 X0 Y β s a w){G:Glo}(H1:IR P G w0 X0){C:Fy}{call:Aj}(C4:∀f args res,call f args=some res->C1 G P f args res){c:Call}{f:FuncId}(ho:o.op=.call c)(hc:c.callee=.value (.func f))
  {K:St->Option R} (hk:Uy C P N call s o f c K=some r):
  ∃s',K s'=some r∧∀(next:Act->World->Prop) (Q:Exit->Act->World->Prop),(∀a' w' β',B3 N w0 X0 Y β' s' a' w'->next a' w')->o.wp P a w next Q:=by
 unfold Uy at hk;obtain⟨vs0,m,x,l,src,C9,hm,hx,hS,hL,Dp⟩:=BS h hk;obtain⟨hb,D3⟩:=Ag C9;simp only[Bool.and_eq_true] at hb;obtain⟨⟨⟨hnd,Aix⟩,hN⟩,UP⟩:=hb;have hN:0<N:=Nat.lt_of_succ_le (Nat.le_of_ble_eq_true hN);obtain⟨Zk,hnx,hlx⟩:=Gn hnd
 have hml:∀i∈m,i ∉ l.flatMap Fk.ids∧i ∉ x:=by
  intro i hi;have:=List.all_eq_true.1 Aix i hi
  have hn:∀k∈l.flatMap Fk.ids++x,i≠k:=by
   rintro k hk rfl
   have h2:(l.flatMap Fk.ids++x).any (Nat.beq i)=true:=List.any_eq_true.2 ⟨i,hk,Nat.beq_refl i⟩;rw[h2] at this;cases this
  exact⟨fun hq=>hn i (by simp only[List.mem_append];exact .inl hq) rfl,fun hq=>hn i (by simp only[List.mem_append];exact .inr hq) rfl⟩
 replace hL:=Nu (C.kz f) (xs:=c.args.toList) hL
 replace Dp:=fun fz h1 h2 bt Ra=>Tm (a:=a) (C.kz f) (Dp fz h1 h2 bt Ra)
 generalize Hd (C.kz f) c.args.toList vs0=vs at D3 Dp hL;obtain⟨rv,ro,Lp,Mx⟩:=DD D3;obtain⟨ws,bs,Ue,hwl,NU,HL,hrs,MO,hws⟩:=Vh (C.shr f) N Mx;obtain⟨L9,hk5⟩:=Ag Ue;obtain⟨lids,AP⟩:∃lids,l.flatMap Fk.ids=lids:=⟨_,rfl⟩;rw[AP] at hS Zk hlx hml;have Ao8:∀i,i ∉ x->Pk (Ac s.hp m) x i=Ac s.hp m i:=fun i hi=>by rw[Ez,if_neg hi]
 have OK:∀i,i∈lids->Pk (Ac s.hp m) x i=s.hp i:=fun i hi=>by
  rw[Ao8 i (hlx i hi),Ba,if_neg (fun hq=>(hml i hq).1 hi)]
 have hLM:Ls (Pk (Ac s.hp m) x) src 0 vs l:=So (fun i hi=>OK i (AP ▸ hi)) hL
 obtain⟨B4,bs',qs,hk6,hbq,AH,Wv,Er,Ix,VJ,DT⟩:=Pj (β:=β) (j:=He rv) hk5 hLM (by rw[AP];exact Zk)
 obtain⟨L0,hk7⟩:=Ag hk6;refine⟨_,hk7,fun next Q hn=>?_⟩
 clear hk C9 D3 Mx Ue hk5 hk6 hk7;rw[AP] at Ix;obtain⟨⟨fn,hfn,hfb⟩,P0⟩:=C4 f vs _ Lp;have hf:=h.freeze hm;have RW:=Zm hL;rw[AP] at RW
 have CH:∀i,i∈lids∨i∈x->Ac s.hp m i=s.hp i:=by
  intro i hi;rw[Ba,if_neg];intro hq;rcases hi with hi|hi
  ·exact (hml i hq).1 hi
  ·exact (hml i hq).2 hi
 have Sk:∀i,i∈lids∨i∈x->Cc (s.hp i):=by
  intro i hi;rcases hi with hi|hi
  ·exact (RW i hi).1
  ·obtain⟨cc,hcc⟩:=hx i hi;rw[hcc];trivial
 have Ang:∀i j id off,src i j=some (id,off)->id∈lids∨id∈x:=by
  intro i j id off hs;cases j with
  |zero=>exact .inl (hS.lent i id off hs)
  |succ j=>exact .inr (hS.mvd i j id off hs).2
 obtain⟨bt,Ra⟩:∃bt:Th,∀i j,bt i j=(src i j).bind (Fg β):=⟨_,fun _ _=>rfl⟩
 have btS:∀{i j b ob},bt i j=some (b,ob)->∃id off o',src i j=some (id,off)∧β id=some (b,o')∧ob=o'+off∧(id∈lids∨id∈x):=by
  intro i j b ob hb;rw[Ra] at hb;cases hs:src i j with
  |none=>rw[hs] at hb;cases hb
  |some q=>
   rw[hs] at hb;obtain⟨id,off⟩:=q;simp only[Option.bind_some,Fg] at hb;cases hβ:β id with
   |none=>rw[hβ] at hb;cases hb
   |some p=>
    rw[hβ] at hb;obtain⟨b',o'⟩:=p;simp only[Option.map_some,Option.some.injEq,Prod.mk.injEq] at hb;obtain⟨rfl,rfl⟩:=hb;exact⟨id,off,o',rfl,hβ,rfl,Ang i j id off hs⟩
 have btX:∀{b},VS bt b->∃id o',β id=some (b,o')∧(id∈lids∨id∈x):=by
  rintro b ⟨i,j,ob,hb⟩
  obtain⟨id,off,o',_,h2,_,h4⟩:=btS hb;exact⟨id,o',h2,h4⟩
 have hBA:∀b,VS bt b->GG s.hp β b:=fun b hb=>by
  obtain⟨id,o',h1,h2⟩:=btX hb;exact⟨id,o',Sk id h2,h1⟩
 obtain⟨Yc,hYc⟩:∃Yc:Nat->Prop,∀b,Yc b↔((∃id ob,Cc (Ac s.hp m id)∧β id=some (b,ob)∧id ∉ lids∧id ∉ x)∨Y b):=⟨_,fun _=>Iff.rfl⟩
 have Dv:vs.length=c.args.toList.length:=by
  have:=(Dp m (fun _ hi=>hi) hm bt Ra).len
  simpa using this
 have Ade:Ins w Yc bt vs (c.args.toList.map a.eval):=by
  refine⟨fun b hb=>?_,fun b hb hB=>?_,fun b hB=>?_,fun i j i' j' b ob ob' hb F8=>?_,fun i q hq=>?_,?_⟩
  ·rcases (hYc b).1 hb with⟨id,ob,hl,hβ,_⟩|hY
   ·exact hf.blt id b ob (Ca hl) hβ
   ·exact Nat.lt_of_lt_of_le (h.Ylt b hY) h.fr.step.size
  ·obtain⟨id',o',h1,h2⟩:=btX hB;rcases (hYc b).1 hb with⟨id,ob,hl,hβ,h3,h4⟩|hY
   ·have:=hf.inj id id' b ob o' hl (by show Cc (Ac s.hp m id');rw[CH id' h2];exact Sk id' h2) hβ h1
    subst this;rcases h2 with h2|h2
    ·exact h3 h2
    ·exact h4 h2
   ·exact h.Yx b hY ⟨id',o',Sk id' h2,h1⟩
  ·obtain⟨id',o',h1,h2⟩:=btX hB;exact h.blt id' b o' (Ca (Sk id' h2)) h1
  ·obtain⟨id,off,o1,h1,h2,_,h4⟩:=btS hb;obtain⟨id',off',o1',Qz,PP,_,h4'⟩:=btS F8;have:=h.inj id id' b o1 o1' (Sk id h4) (Sk id' h4') h2 PP;subst this;cases j with
   |zero=>
    cases j' with
    |zero=>exact⟨hS.inj0 Zk i i' id off off' h1 Qz,rfl⟩
    |succ j'=>exact absurd (hS.mvd i' j' id off' Qz).2 (hlx id (hS.lent i id off h1))
   |succ j=>
    cases j' with
    |zero=>exact absurd (hS.mvd i j id off h1).2 (hlx id (hS.lent i' id off' Qz))
    |succ j'=>
     obtain⟨h5,h6⟩:=hS.inj1 hnx i i' j j' id off off' h1 Qz;exact⟨h5,by rw[h6]⟩
  ·obtain⟨b,ob⟩:=q;obtain⟨id,off,o',h1,_⟩:=btS hq;obtain⟨p,hp,h2⟩:=JR hL i id off (Nat.zero_le _) h1 (by have:=hS.dom i 0 _ h1;rw[Dv];exact this.2)
   exact⟨p,by simpa using hp,h2⟩
  ·refine (Dp m (fun _ hi=>hi) hm bt Ra).weak fun b _ hb=>?_
   rcases hb with hb|hb
   ·obtain⟨id',o',h1,h2⟩:=btX hb;exact .inl ⟨id',o',by rw[CH id' h2];exact Sk id' h2,h1⟩
   ·rcases (hYc b).1 hb with⟨id,ob,hl,hβ,_⟩|hY
    ·exact .inl ⟨id,ob,hl,hβ⟩
    ·exact .inr hY
 unfold Oper.wp;rw[Xr ho hc H1.ng hfn hfb];show Calls P f _ w _;have hca:c.args.map a.eval=(c.args.toList.map a.eval).toArray:=by rw[←List.map_toArray,Array.toArray_toList]
 rw[hca];refine (P0 w Yc bt _ Ade (H1.fr w h.fr) (fun b x=>⟨Nat.lt_of_lt_of_le (H1.y b x).1 h.fr.step.size,fun hB=>(h.ownd b (hBA b hB)).elim (H1.y b x).2 (fun Vl=>absurd (H1.y b x).1 (Nat.not_lt.2 Vl))⟩)).mono ?_
 rintro e w' ⟨us,own,rfl,out⟩
 obtain⟨ha1,ha2⟩:=Az L0;obtain⟨hg1,hg2⟩:=Df (hp:=B4) ha2;have MG:=Nn L0;rw[List.map_append,List.nodup_append] at MG;obtain⟨Azf,Aoz,Auv⟩:=MG;rw[hbq] at Aoz
 obtain⟨β1,hβ1,hβ2⟩:∃β1:Bt,(∀i,(∃bx,(i,bx)∈bs)->β1 i=own ((i-o.dst.getD N) / N))∧∀i,(¬∃bx,(i,bx)∈bs)->β1 i=match Qd qs i with|some j=>own j|none=>β i:=by
  refine⟨fun i=>if (bs.any fun q=>Nat.beq q.1 i)=true then own ((i-o.dst.getD N) / N) else match Qd qs i with|some j=>own j|none=>β i,fun i hi=>?_,fun i hi=>?_⟩
  ·show (if _ then _ else _)=_
   rw[if_pos (FW.2 hi)]
  ·show (if _ then _ else _)=_
   rw[if_neg (fun hq=>hi (FW.1 hq))]
 have hβbs:∀j,(∃bx,(o.dst.getD N+N*j,bx)∈bs)->β1 (o.dst.getD N+N*j)=own (0+j):=by
  intro j hj;rw[hβ1 _ hj,Nat.add_sub_cancel_left,Nat.mul_div_cancel_left _ hN,Nat.zero_add]
 have hqb:∀q∈qs,∃bx,(q.1,bx)∈bs':=by
  intro q hq;have:q.1∈bs'.map (·.1):=by rw[hbq];exact List.mem_map_of_mem hq
  obtain⟨⟨i,bx⟩,hm,e⟩:=List.mem_map.1 this;exact⟨bx,e ▸ hm⟩
 have Arx:∀i bx,(i,bx)∈bs'->∃j,(i,j)∈qs:=by
  intro i bx hm;have:i∈qs.map (·.1):=by rw[←hbq];exact List.mem_map.2 ⟨_,hm,rfl⟩
  obtain⟨⟨i',j⟩,hm,e⟩:=List.mem_map.1 this;exact⟨j,e ▸ hm⟩
 have hbb:∀i,(∃bx,(i,bx)∈bs')->¬∃bx,(i,bx)∈bs:=by
  rintro i ⟨bx,hm⟩ ⟨bx',Jv⟩
  exact Auv i (List.mem_map.2 ⟨_,Jv,rfl⟩) i (List.mem_map.2 ⟨_,hm,rfl⟩) rfl
 have hβqs:∀q∈qs,β1 q.1=own q.2:=by
  intro q hq;rw[hβ2 q.1 (hbb q.1 (hqb q hq)),ZZ Aoz q hq]
 have hβold:∀i,B4 i≠none->β1 i=β i:=by
  intro i hi
  have hn1:¬∃bx,(i,bx)∈bs:=by
   rintro⟨bx,hm⟩
   exact hi (ha1 i bx (List.mem_append.2 (.inl hm)))
  rw[hβ2 i hn1,JZ];intro hm;obtain⟨q,hq,e⟩:=List.mem_map.1 hm;obtain⟨bx,Jc⟩:=hqb q hq;exact hi (ha1 i bx (List.mem_append.2 (.inr (e ▸ Jc))))
 obtain⟨Ex,hba⟩:=hws w' _ own β1 w.heap.size 0 us hβbs out.vals;obtain⟨Aun,Aoj⟩:=DT w' _ own β1 bt hβqs (fun i=>Ra i 0) out.outs
 have Agc:∀id∈lids,∃y∈l,id∈y.ids:=by
  intro id hid;rw[←AP] at hid;exact List.mem_flatMap.1 hid
 have Ad6:∀id∈lids,(∃off c cs,s.hp id=some (.st c)∧B4 id=some (.st (Bd c cs off))∧off+cs.length<=c.length∧(∀p∈cs,∀i∈Ak p,∃bx,(i,bx)∈bs'))∨∃c cs,s.hp id=some (.ar false c)∧B4 id=some (.ar false cs):=by
  intro id hid;obtain⟨y,hy,YH⟩:=Agc id hid;have h1:=VJ y hy;cases y with
  |var id' off cts ws'=>
   simp only[Fk.ids,List.mem_singleton] at YH;subst YH;obtain⟨c1,cs,h2,h3,h4,h5,h6⟩:=h1;rw[OK id hid] at h2;exact .inl ⟨off,c1,cs,h2,h3,h5,h6⟩
  |row id'=>
   simp only[Fk.ids,List.mem_singleton] at YH;subst YH;obtain⟨c1,cs,h2,h3⟩:=h1;rw[OK id hid] at h2;exact .inr ⟨c1,cs,h2,h3⟩
  |none=>simp[Fk.ids] at YH
 have As8:∀id∈lids,B4 id≠none:=by
  intro id hid;rcases Ad6 id hid with⟨_,_,_,_,h2,_⟩|⟨_,_,_,h2⟩<;>rw[h2]<;>simp
 have hpK:∀id,id ∉ lids->B4 id=Pk (Ac s.hp m) x id:=fun id hid=>Ix id hid
 have hnn:∀i,s.hp i≠none->B4 i≠none:=by
  intro i hi;by_cases hl:i∈lids
  ·exact As8 i hl
  ·rw[hpK i hl,Ez];have h1:Ac s.hp m i≠none:=fun e=>hi (C5.1 e)
   split
   ·cases hq:Ac s.hp m i with
    |none=>exact absurd hq h1
    |some b=>simp
   ·exact h1
 have Aes:∀i,(s.hp i≠none∨∃bx,(i,bx)∈bs++bs')->Al B4 (bs++bs') i≠none:=by
  rintro i (hi|⟨bx,hm⟩)
  ·have h1:=hnn i hi;rw[hg2 i (fun bx hm=>h1 (ha1 i bx hm))]
   exact h1
  ·rw[hg1 i bx hm];simp
 have F2:∀id,(∃bx,(id,bx)∈bs++bs')∨Al B4 (bs++bs') id=B4 id:=fun id=>by
  by_cases hx:∃bx,(id,bx)∈bs++bs'
  ·exact .inl hx
  ·exact .inr (hg2 id fun bx hb=>hx ⟨bx,hb⟩)
 have hold:∀id bx,B4 id=some bx->Cc (some bx)->Cc (s.hp id)∧id ∉ x∧(id∈lids∨(id ∉ lids∧Ac s.hp m id=some bx)):=by
  intro id bx hb hl;by_cases hid:id∈lids
  ·exact⟨Sk id (.inl hid),hlx id hid,.inl hid⟩
  ·rw[hpK id hid,Ez] at hb;split at hb
   ·cases hq:Ac s.hp m id with
    |none=>rw[hq] at hb;cases hb
    |some b=>rw[hq] at hb;simp at hb;subst hb;exact hl.elim
   ·rename_i hxn;exact⟨by rw[Gx hb hl];exact hl,hxn,.inr ⟨hid,hb⟩⟩
 have Rz:∀i bx,(i,bx)∈bs++bs'->∃j,β1 i=own j∧((i=o.dst.getD N+N*j∧j<He rv)∨((i,j)∈qs∧He rv<=j)):=by
  intro i bx hm;rcases List.mem_append.1 hm with hm|hm
  ·obtain⟨⟨j,rfl,hj⟩,_⟩:=hba i bx hm;exact⟨j,by rw[hβbs j ⟨bx,hm⟩,Nat.zero_add],.inl ⟨rfl,hj⟩⟩
  ·obtain⟨j,hj⟩:=Arx i bx hm;exact⟨j,hβqs _ hj,.inr ⟨hj,(AH _ hj).2⟩⟩
 have Agh:∀i bx,(i,bx)∈bs++bs'->Cc (some bx)∧Nx w' (Ky bt own Yc) β1 i bx∧∀cs,bx=.st cs->∀b ob,β1 i=some (b,ob)->w.heap.size<=b:=by
  intro i bx hm;rcases List.mem_append.1 hm with hm|hm
  ·exact (hba i bx hm).2
  ·obtain⟨cc,rfl⟩:=Er i bx hm;exact⟨trivial,Aun i _ hm,fun cs e=>by cases e⟩
 have Aky:∀b,(∃i k o',bt i (k+1)=some (b,o'))->∃id o',id∈x∧β id=some (b,o'):=by
  rintro b ⟨i,k,o',hb⟩
  obtain⟨id,off,o1,h1,h2,_,_⟩:=btS hb;exact⟨id,o1,(hS.mvd i k id off h1).2,h2⟩
 have hX:∀b,b<w.heap.size->GG (Al B4 (bs++bs')) β1 b->GG s.hp β b:=by
  rintro b hb ⟨id,ob,hl,hβ⟩
  rcases F2 id with⟨bx,hm⟩|e
  ·obtain⟨j,hj,_⟩:=Rz id bx hm;rw[hj] at hβ;obtain⟨id',o',h1,h2⟩:=Aky b ((out.fresh j b ob hβ).2 hb).1;exact⟨id',o',Sk id' (.inr h1),h2⟩
  ·rw[e] at hl;cases hq:B4 id with
   |none=>rw[hq] at hl;exact hl.elim
   |some bx=>
    rw[hq] at hl;exact⟨id,ob,(hold id bx hq hl).1,by rw[←hβold id (by rw[hq];simp)];exact hβ⟩
 have hAo:∀b,b<w.heap.size->Cd (Al B4 (bs++bs')) β1 Y b->Cd s.hp β Y b:=fun b hb hA=>hA.imp (hX b hb) id
 have hAO:∀b,Cd (Al B4 (bs++bs')) β1 Y b->Ky bt own Yc b:=by
  rintro b (⟨id,ob,hl,hβ⟩|hY)
  ·rcases F2 id with⟨bx,hm⟩|e
   ·obtain⟨j,hj,_⟩:=Rz id bx hm;rw[hj] at hβ;exact .inl ⟨j,ob,hβ⟩
   ·rw[e] at hl;cases hq:B4 id with
    |none=>rw[hq] at hl;exact hl.elim
    |some bx=>
     rw[hq] at hl;rw[hβold id (by rw[hq];simp)] at hβ
     obtain⟨h1,h2,h3⟩:=hold id bx hq hl;rcases h3 with h3|⟨h3,h4⟩
     ·obtain⟨_,i,off,hs⟩:=RW id h3;exact .inr (.inl ⟨i,ob+off,by rw[Ra,hs];simp[Fg,hβ]⟩)
     ·exact .inr (.inr ((hYc b).2 (.inl ⟨id,ob,by rw[h4];exact hl,hβ,h3,h2⟩)))
  ·exact .inr (.inr ((hYc b).2 (.inr hY)))
 have Jp:Bh (Cd s.hp β Y) w w':=out.ext.weaken (fun b _ hb=>.inl (hBA b hb))
 have Aed:∀i,s.hp i≠none->β1 i=β i:=fun i hi=>hβold i (hnn i hi)
 have hCL:∀b j,Yh bt vs b j->∃id o' bx,s.hp id=some bx∧Cc (some bx)∧β id=some (b,o')∧BR bx o' j:=by
  rintro b j ⟨i,p,hp,⟨k,ob,hb,Vl⟩|⟨ob,ps,hb,Vl,Wz⟩⟩
  ·obtain⟨id,off,o',h1,h2,h3,_⟩:=btS hb;obtain⟨h5,h6⟩:=hS.mvd i k id off h1;obtain⟨cc,hcc⟩:=hx id h6;exact⟨id,o',_,hcc,trivial,h2,show o'<=j by omega⟩
  ·obtain⟨id,off,o',h1,h2,h3,_⟩:=btS hb;rcases YC hL i p id off hp (by rw[Nat.zero_add];exact h1) with⟨c1,wz,h5,h6,h7⟩|⟨⟨c1,h5⟩,_⟩
   ·rcases Wz with⟨h8,h9⟩|h8
    ·rw[h6] at h8;cases h8;exact⟨id,o',_,h5,trivial,h2,show o'<=j∧j<o'+c1.length by omega⟩
    ·rw[h6] at h8;cases h8
   ·exact⟨id,o',_,h5,trivial,h2,show o'<=j by omega⟩
 have YQ:∀id off cts wz,Fk.var id off cts wz∈l->id∈lids->∀b ob,β id=some (b,ob)->∀j,(j<off∨off+wz.length<=j)->(∃c1,s.hp id=some (.st c1))->¬Yh bt vs b (ob+j):=by
  rintro id off cts wz hy hid b ob hβ j hj ⟨c1,Z5⟩ ⟨i,p,hp,⟨k,ob',hb,Vl⟩|⟨ob',ps,hb,Vl,Wz⟩⟩
  ·obtain⟨id',off',o',h1,h2,h3,h4⟩:=btS hb;have:=h.inj id id' b ob o' (Sk id (.inl hid)) (Sk id' h4) hβ h2;subst this;exact hlx id hid (hS.mvd i k id off' h1).2
  ·obtain⟨id',off',o',h1,h2,h3,h4⟩:=btS hb;have:=h.inj id id' b ob o' (Sk id (.inl hid)) (Sk id' h4) hβ h2;subst this;rw[hβ] at h2;cases h2;obtain⟨k,C9,D3⟩:=HY hL hy;rw[Nat.zero_add] at D3;have hik:=hS.inj0 Zk i k id off' off h1 D3;subst hik;rw[h1] at D3;cases D3;rw[hp] at C9;cases C9;rcases Wz with⟨h8,h9⟩|h8
   ·cases h8;omega
   ·cases h8
 have hval:Di w' (Cd (Al B4 (bs++bs')) β1 Y) β1 (Kd ws (Lb P o.type)) (Dy us):=by
  have Jy:Av (F7 w' (Cd (Al B4 (bs++bs')) β1 Y) β1) ws us:=Ex.mono fun v u hvu=>hvu.step (Bh.refl _ _) (fun b _=>hAO b) (fun _ _=>rfl)
  have Dv:=Jy.len;cases hT:Lb P o.type
  ·rw[hT] at L9;have h1:ws.length=1:=Nat.eq_of_beq_eq_true L9
   match ws,us,h1,Dv with
   |[v],[u],_,_=>
    exact (Lm (NU v (by simp))).2 Jy.1
  ·rw[hT] at L9
   have h1:¬ws.length=1:=by
    intro e;rw[e] at L9;cases L9
   have hr:Dy us=.tuple ⟨us⟩:=by
    unfold Dy;split
    ·simp at Dv;omega
    ·rfl
   rw[hr];exact⟨us,rfl,Jy⟩
 have hvr:∀i∈A9 (Kd ws (Lb P o.type)),∃bx,(i,bx)∈bs:=by
  intro i hi;cases hT:Lb P o.type
  ·rw[hT] at L9 hi;have h1:ws.length=1:=Nat.eq_of_beq_eq_true L9
   match ws,h1 with
   |[v],_=>
    refine hrs v (by simp) i ?_
    have:A9 v=Bn v:=by
     have hn:=NU v (by simp)
     cases v<;>first|rfl|exact absurd rfl (hn _)
    rw[←this];exact hi
  ·rw[hT] at hi;obtain⟨v,hv,hi⟩:=List.mem_flatMap.1 (show i∈ws.flatMap Bn from hi)
   exact hrs v hv i hi
 refine hn _ w' β1 ?_;refine⟨by rw[Nt];exact h.dfr,by rw[S4];exact h.tsz,FU UP h.tmo,?_,?_,?_,?_,?_,?_,?_,?_,?_,?_,?_,h.Ylt,?_⟩
 ·refine Lf (Q:=fun _ p u=>Di w' (Cd (Al B4 (bs++bs')) β1 Y) β1 p u) h.tsz UP (fun i hi=>?_) (fun _=>hval)
  exact (h.tms i hi).step Jp hAo fun id hid=>Aed id (h.wfT i hi id hid)
 ·intro id bx hb;simp only at hb;rcases F2 id with⟨bx',Jv⟩|e
  ·rw[hg1 id bx' Jv] at hb;cases hb;exact (Agh id _ Jv).2.1.step' hAO
  ·rw[e] at hb;have hβ:=hβold id (by rw[hb];simp)
   by_cases hid:id∈lids
   ·obtain⟨y,hy,YH⟩:=Agc id hid;have h1:=Aoj y hy;cases y with
    |var id' off cts wz=>
     simp only[Fk.ids,List.mem_singleton] at YH;subst YH;obtain⟨c1,cs,h2,h3,h4,h5,h6⟩:=h1;rw[OK id hid] at h2;rw[h3] at hb;cases hb;obtain⟨b,ob,h7,h8,h9⟩:=h.box id _ h2;obtain⟨h10,h11⟩:=h6 b ob h7;have hlt:=h.blt id b ob (by rw[h2];simp) h7
     have Vo:∀j,(j<off∨off+wz.length<=j)->w'.cell? ⟨b,ob+j,none⟩=w.cell? ⟨b,ob+j,none⟩∧w'.frozen? ⟨b,ob+j,none⟩=w.frozen? ⟨b,ob+j,none⟩:=
      fun j hj=>out.rng b (ob+j) hlt (YQ id off cts wz hy hid b ob h7 j hj ⟨c1,h2⟩)
     refine⟨b,ob,hβ.trans h7,fun j p hj=>?_,fun j hj=>?_⟩
     ·rcases Nk (by omega) hj with⟨h12,h13,h14⟩|⟨h12,h14⟩
      ·obtain⟨v,hv,GP⟩:=h10 _ _ h14;refine⟨v,?_,GP.step (Bh.refl _ _) (fun b _=>hAO b) (fun _ _=>rfl)⟩
       rw[show ob+j=ob+off+(j-off) by omega]
       exact hv
      ·obtain⟨v,hv,GP⟩:=h8 _ _ h14;refine⟨v,by rw[(Vo j (by omega)).1];exact hv,GP.step Jp hAo fun i hi=>Aed i (h.wfB id c1 h2 p (List.mem_of_getElem? h14) i hi)⟩
     ·rw[My (by omega)] at hj
      by_cases hin:off<=j∧j<off+cs.length
      ·have:=h11 (j-off) (by omega)
       rw[show ob+off+(j-off)=ob+j by omega] at this
       exact this
      ·rw[(Vo j (by omega)).2]
       exact h9 j hj
    |row id'=>
     simp only[Fk.ids,List.mem_singleton] at YH;subst YH;obtain⟨cs,h3,h4⟩:=h1;rw[h3] at hb;cases hb;rcases h4 with⟨h5,h6⟩|⟨b,ob,h5,h6,h7⟩
     ·exact .inl ⟨hβ.trans h5,h6⟩
     ·exact .inr ⟨b,ob,hβ.trans h5,h6.weak (fun b _=>hAO b),fun _=>h7,(fun q=>by cases q)⟩
    |none=>simp[Fk.ids] at YH
   ·rw[hpK id hid,Ez] at hb;split at hb
    ·cases hq:Ac s.hp m id with
     |none=>rw[hq] at hb;cases hb
     |some b0=>rw[hq] at hb;simp at hb;subst hb;trivial
    ·rename_i hxn;have Jc:=hf.box id bx hb
     have Aau:∀b ob,β id=some (b,ob)->bx ≠ .mv->b<w.heap.size∧w'.heap[b]?=w.heap[b]?:=by
      intro b ob KU hmv;have hlt:=hf.blt id b ob (by show Ac s.hp m id≠none;rw[hb];simp) KU
      refine⟨hlt,out.ext.keep b hlt fun hB=>?_⟩
      obtain⟨id',o',h1,h2⟩:=btX hB;have Hm:Cc (Ac s.hp m id'):=by rw[CH id' h2];exact Sk id' h2
      have KW:id≠id':=by
       rintro rfl
       rcases h2 with h2|h2
       ·exact hid h2
       ·exact hxn h2
      cases bx with
      |st cc=>exact KW (hf.inj id id' b ob o' (by show Cc (Ac s.hp m id);rw[hb];trivial) Hm KU h1)
      |ar fz cc=>
       cases fz with
       |false=>exact KW (hf.inj id id' b ob o' (by show Cc (Ac s.hp m id);rw[hb];trivial) Hm KU h1)
       |true=>
        rcases Jc with⟨h3,_⟩|⟨b2,o2,h3,_,_,h4⟩
        ·rw[KU] at h3;cases h3
        ·rw[KU] at h3;cases h3;exact h4 rfl (.inl ⟨id',o',Hm,h1⟩)
      |mv=>exact hmv rfl
     have hAoF:∀b,b<w.heap.size->Cd (Al B4 (bs++bs')) β1 Y b->Cd (Ac s.hp m) β Y b:=by
      intro b Er hA;rcases hA with⟨i,ob,hl,hβi⟩|hY
      ·rcases F2 i with⟨bx1,AX⟩|e1
       ·obtain⟨j,hj,_⟩:=Rz i bx1 AX;rw[hj] at hβi;obtain⟨id',o',h1,h2⟩:=Aky b ((out.fresh j b ob hβi).2 Er).1;exact .inl ⟨id',o',by rw[CH id' (.inr h1)];exact Sk id' (.inr h1),h2⟩
       ·rw[e1] at hl;cases hq:B4 i with
        |none=>rw[hq] at hl;exact hl.elim
        |some bx1=>
         rw[hq] at hl;rw[hβold i (by rw[hq];simp)] at hβi
         obtain⟨h1,h2,h3⟩:=hold i bx1 hq hl;rcases h3 with h3|⟨h3,h4⟩
         ·exact .inl ⟨i,ob,by rw[CH i (.inl h3)];exact h1,hβi⟩
         ·exact .inl ⟨i,ob,by rw[h4];exact hl,hβi⟩
      ·exact .inr hY
     have Am1:Bh (Cd (Ac s.hp m) β Y) w w':=out.ext.weaken (fun b _ hB=>by
      obtain⟨id',o',h1,h2⟩:=btX hB;exact .inl ⟨id',o',by rw[CH id' h2];exact Sk id' h2,h1⟩)
     cases bx with
     |st cc=>
      obtain⟨b,ob,h1,h2,h3⟩:=Jc;obtain⟨hlt,Rm⟩:=Aau b ob h1 (by simp)
      refine⟨b,ob,hβ.trans h1,fun j p hj=>?_,fun j hj=>?_⟩
      ·obtain⟨v,hv,GP⟩:=h2 j p hj;refine⟨v,by rw[World.cell?_of_block (w:=w) Rm];exact hv,GP.step Am1 hAoF fun i hi=>?_⟩
       refine Aed i (fun e1=>?_)
       exact hf.wfB id cc hb p (List.mem_of_getElem? hj) i hi (C5.2 e1)
      ·rw[World.frozen?_of_block (w:=w) Rm];exact h3 j hj
     |ar fz cc=>
      rcases Jc with⟨h1,h2⟩|⟨b,ob,h1,h2,h3,h4⟩
      ·exact .inl ⟨hβ.trans h1,h2⟩
      ·obtain⟨hlt,Rm⟩:=Aau b ob h1 (by simp)
       have We:bsz w' b=bsz w b:=by unfold bsz;rw[Rm]
       refine .inr ⟨b,ob,hβ.trans h1,fun j p hj=>?_,fun e1 j hj Kw=>?_,fun e1 q=>h4 e1 (hAoF b hlt q)⟩
       ·obtain⟨v,hv,h5,Z5⟩:=h2 j p hj;exact⟨v,by rw[World.cell?_of_block (w:=w) (by rw[D9];exact Rm)];exact hv,h5,Z5.step Am1 hAoF⟩
       ·rw[World.frozen?_of_block (w:=w) Rm];exact h3 e1 j hj (by rw[←We];exact Kw)
     |mv=>trivial
 ·intro id id' b ob ob' hl Hm hb F8;simp only at hl Hm
  have mixed:∀i bx i' k z,(i,bx)∈bs++bs'->β1 i=some (k,z)->B4 i'≠none->Cc (B4 i')->∀z',β1 i'=some (k,z')->False:=by
   intro i bx i' k z AX hz hn1 Ys z' UD;obtain⟨j,hj,_⟩:=Rz i bx AX;rw[hj] at hz;rw[hβold i' hn1] at UD;cases hq:B4 i' with
   |none=>exact hn1 hq
   |some bx1=>
    rw[hq] at Ys;obtain⟨h1,h2,h3⟩:=hold i' bx1 hq Ys;have hlt:=h.blt i' k z' (Ca h1) UD;obtain⟨id2,o2,h4,h5⟩:=Aky k ((out.fresh j k z hz).2 hlt).1;have:=h.inj i' id2 k z' o2 h1 (Sk id2 (.inr h4)) UD h5;subst this;exact h2 h4
  rcases F2 id with⟨bx,AX⟩|e1
  ·rcases F2 id' with⟨bx',hm2⟩|e2
   ·obtain⟨j,hj,Wz⟩:=Rz id bx AX;obtain⟨j',Kw,Ao3⟩:=Rz id' bx' hm2;rw[hj] at hb;rw[Kw] at F8;have:=out.inj j j' b ob ob' hb F8;subst this;rcases Wz with⟨h1,h2⟩|⟨h1,h2⟩
    ·rcases Ao3 with⟨h3,_⟩|⟨_,h4⟩
     ·rw[h1,h3]
     ·omega
    ·rcases Ao3 with⟨_,h4⟩|⟨h3,_⟩
     ·omega
     ·exact Wv _ h1 _ h3 rfl
   ·rw[e2] at Hm;exact (mixed id bx id' b ob AX hb (Ca Hm) Hm ob' F8).elim
  ·rw[e1] at hl;rcases F2 id' with⟨bx',hm2⟩|e2
   ·exact (mixed id' bx' id b ob' hm2 F8 (Ca hl) hl ob hb).elim
   ·rw[e2] at Hm
    have g:∀i,Cc (B4 i)->Cc (s.hp i)∧β1 i=β i:=by
     intro i hli;cases hq:B4 i with
     |none=>rw[hq] at hli;exact hli.elim
     |some bx1=>exact⟨(hold i bx1 hq (by rw[←hq];exact hli)).1,hβold i (by rw[hq];simp)⟩
    rw[(g id hl).2] at hb;rw[(g id' Hm).2] at F8;exact h.inj id id' b ob ob' (g id hl).1 (g id' Hm).1 hb F8
 ·intro id b ob hn1 hb;simp only at hn1;rcases F2 id with⟨bx,AX⟩|e1
  ·obtain⟨j,hj,_⟩:=Rz id bx AX;rw[hj] at hb;exact (out.fresh j b ob hb).1
  ·rw[e1] at hn1;rw[hβold id hn1] at hb
   have hn2:s.hp id≠none:=by
    by_cases hid:id∈lids
    ·exact Ca (Sk id (.inl hid))
    ·rw[hpK id hid,Ez] at hn1;intro e2;have h1:Ac s.hp m id=none:=C5.2 e2;rw[h1] at hn1;split at hn1<;>exact hn1 rfl
   exact Nat.lt_of_lt_of_le (h.blt id b ob hn2 hb) out.ext.size
 ·have:=Lf (Q:=fun _ p _=>∀id∈A9 p,Al B4 (bs++bs') id≠none) (val:=Dy us) (d:=o.dst) (v:=Kd ws (Lb P o.type)) h.tsz UP (fun i hi id hid=>Aes id (.inl (h.wfT i hi id hid))) (fun _ id hid=>Aes id (.inr (by
   obtain⟨bx,hb⟩:=hvr id hid;exact⟨bx,List.mem_append.2 (.inl hb)⟩)))
  exact this
 ·intro id cells FG p hp i hi;simp only at FG;refine Aes i ?_;rcases F2 id with⟨bx,AX⟩|e1
  ·rw[hg1 id bx AX] at FG;cases FG;rcases List.mem_append.1 AX with AX|AX
   ·obtain⟨bx1,hb⟩:=MO id cells AX p hp i hi;exact .inr ⟨bx1,List.mem_append.2 (.inl hb)⟩
   ·obtain⟨cc,e2⟩:=Er id _ AX;cases e2
  ·rw[e1] at FG;by_cases hid:id∈lids
   ·rcases Ad6 id hid with⟨off,c1,cs,h1,h2,h3,h4⟩|⟨c1,cs,h1,h2⟩
    ·rw[h2] at FG;cases FG;unfold Bd at hp;rcases List.mem_append.1 hp with hp|hp
     ·rcases List.mem_append.1 hp with hp|hp
      ·exact .inl (h.wfB id c1 h1 p (List.mem_of_mem_take hp) i hi)
      ·obtain⟨bx1,hb⟩:=h4 p hp i hi;exact .inr ⟨bx1,List.mem_append.2 (.inr hb)⟩
     ·exact .inl (h.wfB id c1 h1 p (List.mem_of_mem_drop hp) i hi)
    ·rw[h2] at FG;cases FG
   ·obtain⟨_,_,h3⟩:=hold id _ FG trivial;rcases h3 with h3|⟨_,h3⟩
    ·exact absurd h3 hid
    ·exact .inl (h.wfB id cells (Gx h3 trivial) p hp i hi)
 ·rintro b ⟨id,ob,hl,hβ⟩
  rcases Nat.lt_or_ge b w.heap.size with hlt|VU
  ·exact h.ownd b (hX b hlt ⟨id,ob,hl,hβ⟩)
  ·exact .inr (Nat.le_trans h.fr.step.size VU)
 ·intro id bx b ob hb hl hβ hlt j hj;simp only at hb;have hlw:=Nat.lt_of_lt_of_le hlt h.fr.step.size;rcases F2 id with⟨bx',AX⟩|e1
  ·rw[hg1 id bx' AX] at hb;cases hb;obtain⟨k,hk,_⟩:=Rz id bx AX;rw[hk] at hβ
   have Vl:ob<=j:=by
    cases bx with
    |st cc=>exact hj.1
    |ar fz cc=>exact hj
    |mv=>exact hl.elim
   obtain⟨id2,o2,bx2,h1,h2,h3,h4⟩:=hCL b j (((out.fresh k b ob hβ).2 hlw).2 j Vl);exact h.rngB id2 bx2 b o2 h1 h2 h3 hlt j h4
  ·rw[e1] at hb;rw[hβold id (by rw[hb];simp)] at hβ
   obtain⟨h1,h2,h3⟩:=hold id bx hb hl;rcases h3 with h3|⟨h3,h4⟩
   ·rcases Ad6 id h3 with⟨off,c1,cs,h5,h6,h7,_⟩|⟨c1,cs,h5,h6⟩
    ·rw[h6] at hb;cases hb;have hj:ob<=j∧j<ob+(Bd c1 cs off).length:=hj;rw[My (by omega)] at hj
     exact h.rngB id _ b ob h5 trivial hβ hlt j hj
    ·rw[h6] at hb;cases hb;exact h.rngB id _ b ob h5 trivial hβ hlt j hj
   ·exact h.rngB id bx b ob (Gx h4 hl) hl hβ hlt j hj
 ·intro i hi;obtain⟨h1,h2⟩:=h.pin i hi;exact⟨Aes _ (.inl h1),by rw[Aed _ h1];exact h2⟩
 ·intro id cc b ob hb hβ hlt;simp only at hb;have hlw:=Nat.lt_of_lt_of_le hlt h.fr.step.size;rcases F2 id with⟨bx',AX⟩|e1
  ·rw[hg1 id bx' AX] at hb;cases hb;have:=(Agh id _ AX).2.2 cc rfl b ob hβ;omega
  ·rw[e1] at hb;rw[hβold id (by rw[hb];simp)] at hβ
   obtain⟨h1,h2,h3⟩:=hold id _ hb trivial;rcases h3 with h3|⟨h3,h4⟩
   ·rcases Ad6 id h3 with⟨off,c1,cs,h5,h6,h7,_⟩|⟨c1,cs,h5,h6⟩
    ·exact h.stp id c1 b ob h5 hβ hlt
    ·rw[h6] at hb;cases hb
   ·exact h.stp id cc b ob (Gx h4 trivial) hβ hlt
 ·intro b hY hXb;exact h.Yx b hY (hX b (Nat.lt_of_lt_of_le (h.Ylt b hY) h.fr.step.size) hXb)
 ·refine⟨out.os.trans h.fr.os,out.tape.trans h.fr.tape,out.output.trans h.fr.output,⟨Nat.le_trans h.fr.step.size out.ext.size,fun b hb hnX=>?_,fun b hb=>(h.fr.step.bs b hb).trans (out.ext.bs b (Nat.lt_of_lt_of_le hb h.fr.step.size))⟩,fun b j hb YQ=>?_⟩
  ·rw[out.ext.keep b (Nat.lt_of_lt_of_le hb h.fr.step.size) ?_]
   ·exact h.fr.step.keep b hb hnX
   ·intro hB;rcases h.ownd b (hBA b hB) with hq|hq
    ·exact hnX hq
    ·omega
  ·have KW:¬Yh bt vs b j:=by
    intro hq;obtain⟨id2,o2,bx2,h1,h2,h3,h4⟩:=hCL b j hq;exact YQ (h.rngB id2 bx2 b o2 h1 h2 h3 hb j h4)
   obtain⟨h1,h2⟩:=out.rng b j (Nat.lt_of_lt_of_le hb h.fr.step.size) KW;rw[h1,h2];exact h.fr.rng b j hb YQ
end
open Go.RowKit
section
variable {R:Type} {r:R} {P:Program} {N:Nat} {w0:World} {X0:F9} {Y:Nat->Prop} {β β':Bt} {s:St} {a:Act} {w w':World} {o:Oper} {A:Nat->Prop}
theorem GH (h:B3 N w0 X0 Y β s a w){c:Call}(ho:o.op=.call c)(hc:c.callee=.builtin .append){d:Nat}(UP:o.dst=some d){b x:Operand}(Dp:c.args.toList=[b,x]) {t tx:TypeId}{ts:List TypeId}(Wm:c.argTypes.toList=t::tx::ts)
  {K:St->Option R} (hk:La P N s d t tx (Bf s.tm b) (Bf s.tm x) K=some r):
  ∃s',K s'=some r∧∀(next:Act->World->Prop) (Q:Exit->Act->World->Prop),(∀a' w' β',B3 N w0 X0 Y β' s' a' w'->next a' w')->o.wp P a w next Q:=by
 have Zc:c.args = #[b,x]:=by
  have:c.args=([b,x]:List Operand).toArray:=by rw[←Dp]
  exact this
 have JO:c.argTypes=(t::tx::ts).toArray:=by rw[←Wm]
 have run:∀{v:Value} {w1:World},(Builtin.append_ (t::tx::ts).toArray o.type #[a.eval b,a.eval x]).run P w=.ok v w1->∀(next:Act->World->Prop) (Q:Exit->Act->World->Prop),next (a.put (some d) v) w1->o.wp P a w next Q:=by
  intro v w1 hr next Q hn;unfold Oper.wp execOp;rw[ho];simp only[resolve,hc,invoke,builtin,Sem.run_bind,Sem.run_pure,Result.andThen_ok,Zc,JO];have:(#[b,x]:Array Operand).map a.eval = #[a.eval b,a.eval x]:=by simp
  rw[this,hr];show next (a.put o.dst v) w1;rw[UP];exact hn
 have hbv:=Cb h b;have GU:=D0 h b;unfold La at hk;split at hk
 ·rename_i e hu;obtain⟨TZ,hk⟩:=Ag hk;obtain⟨i,z,hi,hz,K5,J1⟩:=Z1 TZ;cases hit:Sb P tx
  rotate_left
  ·rw[hit] at hk;simp only[cond_true] at hk
   obtain⟨ki,SK⟩:∃k,P.underlying tx=some (.int k):=by
    unfold Sb at hit;split at hit
    ·exact⟨_,by assumption⟩
    ·cases hit
   unfold O5 at hk;obtain⟨kx,n,hx,hk⟩:=Ci hk;obtain⟨zz,n',c',hk,hp⟩:=Eg hk;obtain⟨hb,hk⟩:=Ag hk;simp only[Bool.and_eq_true,decide_eq_true_eq] at hb;obtain⟨⟨⟨⟨⟨hzz,VL⟩,R0⟩,GW⟩,WV⟩,hnm⟩:=hb;have VL:d<N:=Nat.lt_of_succ_le (Nat.le_of_ble_eq_true VL);have R0:s.hp d=none:=by simpa using R0
   have LW:E6 N (some d)=true:=by simp[E6,Nat.blt];omega
   have Ov:((P.info? e).map (·.bytes)).getD 0=i.bytes:=by rw[hi];rfl
   rw[Ov] at WV;rw[J1] at hk;have Cf:=Bl h hx;rcases E9 hp hbv with⟨L0,_⟩|⟨_,_,_,Yr,_⟩|⟨_,_,_,Yr,_⟩
   ·refine⟨_,hk,fun next Q hn=>?_⟩
    by_cases hm0:n=0
    ·subst hm0;have hr:=Ui (P:=P) (w:=w) (t:=t) (tx:=tx) (ty:=o.type) (ts:=ts) (kx:=kx) hu SK hi;rw[←L0,←Cf] at hr;refine run hr next Q (hn _ _ (Bu β d none) ?_);rw[L0];refine h.stepR (d:=some d) (nw:=[(d,.ar false [])]) (β':=Bu β d none) LW (by simp[A8,R0]) ⟨rfl,rfl,rfl,Bh.refl _ _,fun j hj=>Ad _ _ (by rintro rfl;exact hj R0),?_,?_,?_,?_,?_,.inl ⟨Ah _ _ _,rfl,rfl,none,rfl⟩,?_⟩
     ·intro j bx hm;simp at hm;rw[hm.2];trivial
     ·intro j bx hm;simp at hm;obtain⟨rfl,rfl⟩:=hm;exact .inl ⟨Ah _ _ _,rfl⟩
     ·intro j bx k q hm hq;simp at hm;obtain⟨rfl,rfl⟩:=hm;rw[Ah] at hq;cases hq
     ·intro j bx j' bx' k q q' hm Jv _ _;simp at hm Jv;rw[hm.1,Jv.1]
     ·intro j cells hm;simp at hm
     ·intro j hj;simp[A9,Bn,Ak] at hj;subst hj;exact .inr ⟨.ar false [],by simp⟩
    ·have hr:=Wl (P:=P) (w:=w) (t:=t) (tx:=tx) (ty:=o.type) (ts:=ts) (kx:=kx) hu SK hi hz (n:=n) (by omega) WV hnm
     rw[←L0,←Cf] at hr;refine run hr next Q (hn _ _ (Bu β d (some (w.heap.size,0))) ?_);have VU:n.toNat<=grownCap w n.toNat 0 e:=grownCap_ge w n.toNat 0 e;generalize P0:((if n.toNat*i.size=0 then #[] else Builtin.zeroCells z.cells n.toNat)++Builtin.zeroCells z.cells (grownCap w n.toNat 0 e-n.toNat))=cs
     have Rx:Cx w (w.drew.alloc (.cells cs e)) cs e:=
      ⟨rfl,rfl,rfl,fun k hk=>Below.heap_alloc w.drew _ k hk,by show (w.heap.push _).size=_;simp,(0,0),by show (w.heap.push _)[w.heap.size]?=_;simp,.inl rfl⟩
     have NW:cs.size=grownCap w n.toNat 0 e*i.size:=by
      rw[←P0];by_cases LJ:n.toNat*i.size=0
      ·rw[if_pos LJ]
       have Qf:i.size=0:=by
        rcases Nat.mul_eq_zero.1 LJ with h|h
        ·omega
        ·exact h
       simp[size_zeroCells,K5,Qf]
      ·rw[if_neg LJ];simp only[Array.size_append,size_zeroCells,K5,←Nat.add_mul]
       congr 1
       omega
     refine h.stepR (d:=some d) (nw:=[(d,.ar false [])]) LW (by simp[A8,R0]) (Mr Rx R0 trivial ?_ (fun cells hx=>by cases hx) ?_ (by intro j hj;simp[A9,Bn,Ak] at hj;exact .inr hj))
     ·refine .inr ⟨w.heap.size,0,Ah _ _ _,fun j p hj=>by simp at hj,fun _ j _ hj=>?_,(fun q=>by cases q)⟩
      rw[Rx.bsz] at hj;exact Rx.frozen hj
     ·refine .inr ⟨w.heap.size,0,0,grownCap w n.toNat 0 e,Ah _ _ _,rfl,.inl rfl,VU,?_,by rw[Rx.size];omega⟩
      exact⟨by rw[Rx.bsz,NW];omega,.inr (Ib w.drew _ e)⟩
   ·rw[Yr] at hzz;cases hzz
   ·rw[Yr] at hzz;cases hzz
  rw[hit] at hk;simp only[cond_false] at hk;have Ov:((P.info? e).map (·.bytes)).getD 0=i.bytes:=by rw[hi];rfl
  obtain⟨⟨dx,hdx,HJ⟩,m,new,news,hk,hs⟩:=Z3 h hk (by
   intro m new hk;split at hk
   ·split at hk
    ·obtain⟨hb,_⟩:=Ag hk;simp only[Bool.and_eq_true,decide_eq_true_eq] at hb;have he:=Nat.eq_of_beq_eq_true hb.1.1.1.1.1.1.1;rw[←he];exact hb.1.1.2
    ·cases hk
   ·obtain⟨zz,n',c',hk,_⟩:=Eg hk;obtain⟨hb,_⟩:=Ag hk;simp only[Bool.and_eq_true,decide_eq_true_eq] at hb;exact hb.1.1.2)
  rw[J1] at hs;have Zk:new.length=news.length:=hs.rep.len;split at hk
  ·rename_i id es off n eb;rw[eb] at hbv GU;split at hk
   ·rename_i cc h0;obtain⟨hb,D3⟩:=Ag hk;simp only[Bool.and_eq_true,decide_eq_true_eq] at hb;obtain⟨⟨⟨⟨⟨⟨⟨R2,Lu⟩,VL⟩,R0⟩,Au6⟩,OM⟩,WV⟩,hnm⟩:=hb;have R2:=Nat.eq_of_beq_eq_true R2;have Lu:=Nat.eq_of_beq_eq_true Lu;have VL:d<N:=Nat.lt_of_succ_le (Nat.le_of_ble_eq_true VL);have R0:s.hp d=none:=by simpa using R0
    subst Lu;rw[J1] at R2;subst R2;rw[Ov] at WV;have Vt:news.length=m*i.size:=by omega
    have A0z:s.hp id≠none:=by rw[h0];simp
    have RU:=h.box id _ h0;refine⟨_,D3,fun next Q hn=>?_⟩
    have grow:∀(ad:Option Addr) (cap:Nat) (olds:List Value),a.eval b=.slice ad n cap->Av (An w (Cd s.hp β Y)) (cc.take (n*i.size)) olds->(∀u∈olds,u.oneCell'=true)->olds.length=n*i.size ->
      ((ad=none∧olds=[])∨∃p,ad=some p∧olds.length=n*i.size∧∀(j:Nat) v,olds[j]?=some v->w.cell? (p.add j)=some v)->cap<n+m->o.wp P a w next Q:=by
     intro ad cap olds L0 holds h1 hol hold Qb;have hr:=append_grow_run (P:=P) (w:=w) (t:=t) (tx:=tx) (ty:=o.type) (ts:=ts) hu hdx HJ hi hz hs hold Qb WV hnm;rw[←L0] at hr;refine run hr next Q (hn _ _ (Bu β d (some (w.heap.size,0))) ?_);have VU:n+m<=grownCap w (n+m) cap e:=grownCap_ge w (n+m) cap e
     have Rx:Cx w (w.drew.alloc (.cells (olds.toArray++news.toArray++Builtin.zeroCells z.cells (grownCap w (n+m) cap e-(n+m))) e)) (olds.toArray++news.toArray++Builtin.zeroCells z.cells (grownCap w (n+m) cap e-(n+m))) e:=
      ⟨rfl,rfl,rfl,fun k hk=>Below.heap_alloc w.drew _ k hk,by show (w.heap.push _).size=_;simp,(0,0),by show (w.heap.push _)[w.heap.size]?=_;simp,.inl rfl⟩
     have NW:(olds.toArray++news.toArray++Builtin.zeroCells z.cells (grownCap w (n+m) cap e-(n+m))).size=grownCap w (n+m) cap e*i.size:=by
      simp only[Array.size_append,List.size_toArray,size_zeroCells,K5,hol,Vt,←Nat.add_mul]
      congr 1
      omega
     have ES:∀k y,some (w.heap.size,0)=some (k,y)->w.heap.size<=k∨∃q,β id=some (k,q):=by
      intro k y hh;simp at hh;exact .inl (by omega)
     refine h.move h0 R0 VL rfl rfl rfl (by rw[Rx.size];omega) (fun k hk _=>Rx.old k hk) Rx.step.bs (fun k y hh=>⟨by simp at hh;rw[Rx.size];omega,ES k y hh⟩) (fun k y hh hlt=>by simp at hh;omega)
      (fun k y _ hlt j _=>⟨World.cell?_of_block (w:=w) (Rx.old k hlt),World.frozen?_of_block (w:=w) (Rx.old k hlt)⟩) ?_ ?_ (by intro j hj;simpa [A9,Bn,Ak] using hj)
     ·refine .inr ⟨w.heap.size,0,Ah _ _ _,Yo Rx (NL h0 R0 ES) holds hs.rep h1 hs.one,fun _ j _ hj=>?_,(fun q=>by cases q)⟩
      rw[Rx.bsz] at hj;exact Rx.frozen hj
     ·refine .inr ⟨w.heap.size,0,0,grownCap w (n+m) cap e,Ah _ _ _,rfl,.inl rfl,VU,?_,by rw[Rx.size];omega⟩
      exact⟨by rw[Rx.bsz,NW];omega,.inr (Ib w.drew _ e)⟩
    rcases hbv with⟨hβ,_,rfl,ad,L0⟩|⟨bb,ob,y,cap,hβ,L0,hy,QA,Qb,Aas⟩
    ·rcases RU with⟨_,rfl⟩|⟨b',o',Er,_⟩
     ·by_cases hm0:m=0
      ·subst hm0;have hr:=Jg (P:=P) (w:=w) (t:=t) (tx:=tx) (ty:=o.type) (ts:=ts) (ad:=ad) hu hdx HJ hi hs (List.eq_nil_of_length_eq_zero (by omega))
       rw[←L0] at hr;have IA:new=[]:=List.eq_nil_of_length_eq_zero (by omega)
       subst IA;refine run hr next Q (hn _ _ (Bu β d none) ?_);rw[L0];refine h.move h0 R0 VL rfl rfl rfl (Nat.le_refl _) (fun _ _ _=>rfl) (fun _ _=>Gd.refl _ _) (fun k q hh=>by cases hh) (fun k q hh=>by cases hh) (fun _ _ _ _ _ _=>⟨rfl,rfl⟩) ?_ ?_ (by intro j hj;simpa [A9,Bn,Ak] using hj)
       ·exact .inl ⟨Ah _ _ _,by simp⟩
       ·exact .inl ⟨Ah _ _ _,rfl,rfl,ad,rfl⟩
      ·exact grow ad 0 [] L0 (by simp[Av]) (by simp) (by simp) (by cases ad with
        |none=>exact .inl ⟨rfl,rfl⟩
        |some p=>exact .inr ⟨p,rfl,by simp,fun j v hj=>by simp at hj⟩) (by omega)
     ·rw[hβ] at Er;cases Er
    ·rcases RU with⟨Er,_⟩|⟨b',o',Er,Im,FH,_⟩
     ·rw[hβ] at Er;cases Er
     rw[hβ] at Er;simp at Er;obtain⟨rfl,rfl⟩:=Er;have hy:y=ob:=by rcases hy with hy|⟨_,hq⟩<;>omega
     subst hy;by_cases Iw:n+m<=cap
     ·have Ady:y+n*i.size+news.length<=bsz w bb:=by
       have h5:n*i.size+m*i.size<=cap*i.size:=by rw[←Nat.add_mul];exact Nat.mul_le_mul_right _ Iw
       have:=Qb.1;omega
      have hcell:∀k,k<news.length->(w.cell? ⟨bb,y+n*i.size+k,none⟩).isSome=true:=fun k hk=>Ff (by omega)
      have hr:=append_room_run (P:=P) (w:=w) (t:=t) (tx:=tx) (ty:=o.type) (ts:=ts) (b:=bb) (ob:=y) (n:=n) (cap:=cap) hu hdx HJ hi hs Vt hcell (fun k hk=>FH rfl _ (by omega) (by omega)) Iw
      rw[←L0] at hr;have hw:=Ay.setCells bb news (y+n*i.size) w
      have ES:∀k q,some (bb,y)=some (k,q)->w.heap.size<=k∨∃q',β id=some (k,q'):=by
       intro k q hh;simp at hh;obtain⟨rfl,rfl⟩:=hh;exact .inr ⟨_,hβ⟩
      refine run hr next Q (hn _ _ (Bu β d (some (bb,y))) ?_)
      have Jp:Bh (Cd s.hp β Y) w (w.setCells bb (y+n*i.size) news):=by
       have hAb:Cd s.hp β Y bb:=.inl ⟨id,y,by rw[h0];trivial,hβ⟩
       exact⟨by rw[hw.size];exact Nat.le_refl _,fun k _ hk=>hw.other k (fun e=>hk (e ▸ hAb)),fun k _=>hw.grow k⟩
      refine h.move h0 R0 VL hw.os hw.tape hw.output (by rw[hw.size];exact Nat.le_refl _) (fun k _ hq=>hw.other k (by rintro rfl;exact hq _ hβ)) Jp.bs (fun k q hh=>⟨by simp at hh;rw[hw.size];omega,ES k q hh⟩) (fun k q hh _=>by rw[hβ];exact hh)
       (fun k q hh _ j hj=>by
        rw[hβ] at hh;cases hh;exact⟨World.cell?_setCells_out bb _ _ w ⟨bb,j,none⟩ (fun _ _=>by show j<y+n*i.size∨y+n*i.size+_<=j;omega),hw.frz j⟩) ?_ ?_ (by intro j hj;simpa [A9,Bn,Ak] using hj)
      ·refine .inr ⟨bb,y,Ah _ _ _,fun j p hj=>?_,fun _ j hj Kw=>?_,(fun q=>by cases q)⟩
       ·rw[Bq];by_cases hjn:j<n*i.size
        ·rw[List.getElem?_append_left (by rw[List.length_take];omega),List.getElem?_take_of_lt hjn] at hj
         obtain⟨u,G4,h5,ht⟩:=Im j p hj;rw[Bq] at G4;refine⟨u,?_,h5,ht.step Jp (NL h0 R0 ES)⟩;rw[World.cell?_setCells_out bb _ _ w ⟨bb,y+j,none⟩ (fun _ _=>by show y+j<y+n*i.size∨y+n*i.size+_<=y+j;omega)]
         exact G4
        ·rw[List.getElem?_append_right (by rw[List.length_take];omega),List.length_take,Nat.min_eq_left Au6] at hj
         obtain⟨u,G4,ht⟩:=hs.rep.get hj
         have hlt:j-n*i.size<news.length:=by
          rcases Nat.lt_or_ge (j-n*i.size) news.length with h|h
          ·exact h
          ·rw[List.getElem?_eq_none h] at G4;cases G4
         refine⟨u,?_,hs.one u (List.mem_of_getElem? G4),ht.step Jp (NL h0 R0 ES)⟩;have:=World.cell?_setCells_in bb news (y+n*i.size) w hcell (j-n*i.size) hlt;rw[show y+j=y+n*i.size+(j-n*i.size) from by omega,this]
         rw[List.getElem?_eq_getElem hlt] at G4;exact G4
       ·rw[hw.bs] at Kw;rw[hw.frz];exact FH rfl j hj Kw
      ·exact .inr ⟨bb,y,y,cap,Ah _ _ _,rfl,.inl rfl,Iw,Qb.step (hw.grow bb),by rw[hw.size];exact Aas⟩
     ·-- the old cells
      have hob:∀(j:Nat) p,(cc.take (n*i.size))[j]?=some p->∃v,w.cell? ⟨bb,y+j,none⟩=some v∧v.oneCell'=true∧An w (Cd s.hp β Y) p v:=by
       intro j p hj;rw[List.getElem?_take] at hj;split at hj
       ·obtain⟨v,hv,h5,ht⟩:=Im j p hj;rw[Bq] at hv;exact⟨v,hv,h5,ht⟩
       ·cases hj
      have Dv:(cc.take (n*i.size)).length=n*i.size:=by rw[List.length_take];omega
      refine grow _ cap ((cc.take (n*i.size)).mapIdx fun j _=>(w.cell? ⟨bb,y+j,none⟩).getD undef) L0 ?_ ?_ (by simp only[List.length_mapIdx];exact Dv) (.inr ⟨_,rfl,by simp only[List.length_mapIdx];exact Dv,fun j v hj=>?_⟩) (by omega)
      ·refine Av.of_at (by simp) fun j p v hp hv=>?_
       obtain⟨u,G4,_,ht⟩:=hob j p hp;rw[List.getElem?_mapIdx,hp,Option.map_some,G4] at hv;simp at hv;subst hv;exact ht
      ·intro v hv;obtain⟨j,hj⟩:=List.mem_iff_getElem?.1 hv;rw[List.getElem?_mapIdx] at hj;cases hp:(cc.take (n*i.size))[j]? with
       |none=>rw[hp] at hj;cases hj
       |some p=>
        obtain⟨u,G4,h5,_⟩:=hob j p hp;rw[hp,Option.map_some,G4] at hj;simp at hj;subst hj;exact h5
      ·rw[List.getElem?_mapIdx] at hj;cases hp:(cc.take (n*i.size))[j]? with
       |none=>rw[hp] at hj;cases hj
       |some p=>
        obtain⟨u,G4,h5,_⟩:=hob j p hp;rw[hp,Option.map_some,G4] at hj;simp at hj;subst hj;rw[Bq];exact G4
   ·cases hk
  ·obtain⟨zz,n',c',hk,hp⟩:=Eg hk;obtain⟨hb,hk⟩:=Ag hk;simp only[Bool.and_eq_true,decide_eq_true_eq] at hb;obtain⟨⟨⟨⟨⟨hzz,VL⟩,R0⟩,OM⟩,WV⟩,hnm⟩:=hb;have VL:d<N:=Nat.lt_of_succ_le (Nat.le_of_ble_eq_true VL);have R0:s.hp d=none:=by simpa using R0
   have LW:E6 N (some d)=true:=by simp[E6,Nat.blt];omega
   rw[J1] at OM hk;rw[Ov] at WV;have Vt:news.length=m*i.size:=by omega
   rcases E9 hp hbv with⟨L0,_⟩|⟨_,_,_,Yr,_⟩|⟨_,_,_,Yr,_⟩
   ·refine⟨_,hk,fun next Q hn=>?_⟩
    by_cases hm0:m=0
    ·subst hm0;have hr:=Jg (P:=P) (w:=w) (t:=t) (tx:=tx) (ty:=o.type) (ts:=ts) (ad:=none) hu hdx HJ hi hs (List.eq_nil_of_length_eq_zero (by omega))
     rw[←L0] at hr;have IA:new=[]:=List.eq_nil_of_length_eq_zero (by omega)
     subst IA;refine run hr next Q (hn _ _ (Bu β d none) ?_);rw[L0];refine h.stepR (d:=some d) (nw:=[(d,.ar false [])]) (β':=Bu β d none) LW (by simp[A8,R0]) ⟨rfl,rfl,rfl,Bh.refl _ _,fun j hj=>Ad _ _ (by rintro rfl;exact hj R0),?_,?_,?_,?_,?_,.inl ⟨Ah _ _ _,rfl,rfl,none,rfl⟩,?_⟩
     ·intro j bx hm;simp at hm;rw[hm.2];trivial
     ·intro j bx hm;simp at hm;obtain⟨rfl,rfl⟩:=hm;exact .inl ⟨Ah _ _ _,rfl⟩
     ·intro j bx k q hm hq;simp at hm;obtain⟨rfl,rfl⟩:=hm;rw[Ah] at hq;cases hq
     ·intro j bx j' bx' k q q' hm Jv _ _;simp at hm Jv;rw[hm.1,Jv.1]
     ·intro j cells hm;simp at hm
     ·intro j hj;simp[A9,Bn,Ak] at hj;subst hj;exact .inr ⟨.ar false [],by simp⟩
    ·have hr:=append_grow_run (P:=P) (w:=w) (t:=t) (tx:=tx) (ty:=o.type) (ts:=ts) (ad:=none) (n:=0) (cap:=0) (olds:=[]) hu hdx HJ hi hz hs (.inl ⟨rfl,rfl⟩) (by omega) (by rw[Nat.zero_add];exact WV) (by omega)
     rw[←L0] at hr;refine run hr next Q (hn _ _ (Bu β d (some (w.heap.size,0))) ?_);have VU:0+m<=grownCap w (0+m) 0 e:=grownCap_ge w (0+m) 0 e
     have Rx:Cx w (w.drew.alloc (.cells (([]:List Value).toArray++news.toArray++Builtin.zeroCells z.cells (grownCap w (0+m) 0 e-(0+m))) e)) (([]:List Value).toArray++news.toArray++Builtin.zeroCells z.cells (grownCap w (0+m) 0 e-(0+m))) e:=
      ⟨rfl,rfl,rfl,fun k hk=>Below.heap_alloc w.drew _ k hk,by show (w.heap.push _).size=_;simp,(0,0),by show (w.heap.push _)[w.heap.size]?=_;simp,.inl rfl⟩
     have NW:(([]:List Value).toArray++news.toArray++Builtin.zeroCells z.cells (grownCap w (0+m) 0 e-(0+m))).size=grownCap w (0+m) 0 e*i.size:=by
      simp only[Array.size_append,List.size_toArray,size_zeroCells,K5,Vt,List.length_nil,←Nat.add_mul];rw[Nat.zero_add (m*i.size),←Nat.add_mul]
      congr 1
      omega
     refine h.stepR (d:=some d) (nw:=[(d,.ar false new)]) LW (by simp[A8,R0]) (Mr Rx R0 trivial ?_ (fun cells hx=>by cases hx) ?_ (by intro j hj;simp[A9,Bn,Ak] at hj;exact .inr hj))
     ·refine .inr ⟨w.heap.size,0,Ah _ _ _,?_,fun _ j _ hj=>?_,(fun q=>by cases q)⟩
      ·exact Yo (pre:=[]) Rx (OZ R0) trivial hs.rep (by simp) hs.one
      ·rw[Rx.bsz] at hj;exact Rx.frozen hj
     ·refine .inr ⟨w.heap.size,0,0,grownCap w (0+m) 0 e,Ah _ _ _,by rw[Nat.zero_add],.inl rfl,by omega,?_,by rw[Rx.size];omega⟩
      exact⟨by rw[Rx.bsz,NW];omega,.inr (Ib w.drew _ e)⟩
   ·rw[Yr] at hzz;cases hzz
   ·rw[Yr] at hzz;cases hzz
 ·cases hk
theorem NE (h:B3 N w0 X0 Y β s a w){c:Call}(ho:o.op=.call c)(hc:c.callee=.builtin .copy){b x:Operand}(Dp:c.args.toList=[b,x]) {t tx:TypeId}{ts:List TypeId}(Wm:c.argTypes.toList=t::tx::ts)
  {K:St->Option R} (hk:CU P N s o.dst t tx (Bf s.tm b) (Bf s.tm x) K=some r):
  ∃s',K s'=some r∧∀(next:Act->World->Prop) (Q:Exit->Act->World->Prop),(∀a' w' β',B3 N w0 X0 Y β' s' a' w'->next a' w')->o.wp P a w next Q:=by
 have Zc:c.args = #[b,x]:=by
  have:c.args=([b,x]:List Operand).toArray:=by rw[←Dp]
  exact this
 have JO:c.argTypes=(t::tx::ts).toArray:=by rw[←Wm]
 have run:∀{v:Value} {w1:World},(Builtin.copy_ (t::tx::ts).toArray o.type #[a.eval b,a.eval x]).run P w=.ok v w1->∀(next:Act->World->Prop) (Q:Exit->Act->World->Prop),next (a.put o.dst v) w1->o.wp P a w next Q:=by
  intro v w1 hr next Q hn;unfold Oper.wp execOp;rw[ho];simp only[resolve,hc,invoke,builtin,Sem.run_bind,Sem.run_pure,Result.andThen_ok,Zc,JO];have:(#[b,x]:Array Operand).map a.eval = #[a.eval b,a.eval x]:=by simp
  rw[this,hr];exact hn
 have hbv:=Cb h b;unfold CU at hk;split at hk
 ·rename_i e hu;obtain⟨TZ,hk⟩:=Ag hk;simp only[Bool.and_eq_true] at TZ;obtain⟨Lv,LW⟩:=TZ;obtain⟨i,hi⟩:∃i,P.info? e=some i:=Option.isSome_iff_exists.1 Lv;have J1:At P e=i.size:=by unfold At;rw[hi];rfl
  have h1c:∀(m:Nat) (new:List PV),(match Bf s.tm b with
    |.view id es off n=>
     match s.hp id with
     |some (.ar false c)=>Au (Nat.beq es (At P e)&&decide (off+n*es<=c.length)&&decide (new.length=m*es))
       (Aa (min m n) fun k=>Aa (Bd c (new.take (k*es)) off) fun c=>K ⟨A2 s.tm o.dst (.sc (.int .i64 k)),Bu s.hp id (some (.ar false c))⟩)
     |_=>none
    |_=>none)=some r->new.length=m*At P e:=by
   intro m new hk;split at hk
   ·split at hk
    ·obtain⟨hb,_⟩:=Ag hk;simp only[Bool.and_eq_true,decide_eq_true_eq] at hb;rw[←Nat.eq_of_beq_eq_true hb.1.1];exact hb.2
    ·cases hk
   ·cases hk
  obtain⟨_,m,new,news,hk,hs⟩:=Z3 h hk h1c;split at hk
  ·rename_i id es off n hb;rw[hb] at hbv;split at hk
   ·rename_i cc h0;obtain⟨hb,hk⟩:=Ag hk;simp only[Bool.and_eq_true,decide_eq_true_eq] at hb;obtain⟨⟨R2,Vl⟩,Zk⟩:=hb;have R2:=Nat.eq_of_beq_eq_true R2;subst R2;rw[J1] at hk hs Vl Zk hbv;have Vt:news.length=m*i.size:=by rw[←hs.rep.len];exact Zk
    have hkm:min m n*i.size<=m*i.size:=Nat.mul_le_mul_right _ (Nat.min_le_left _ _);have hkn:min m n*i.size<=n*i.size:=Nat.mul_le_mul_right _ (Nat.min_le_right _ _);have Hj:K ⟨A2 s.tm o.dst (.sc (.int .i64 ((min m n:Nat):Int))),Bu s.hp id (some (.ar false (Bd cc (new.take (min m n*i.size)) off)))⟩=some r:=hk;refine⟨_,Hj,fun next Q hn=>?_⟩
    have Add:∀{β':Bt} {B4:Nat->Option A3} {w':World},B3 N w0 X0 Y β' ⟨s.tm,B4⟩ a w'->B3 N w0 X0 Y β' ⟨A2 s.tm o.dst (.sc (.int .i64 ((min m n:Nat):Int))),B4⟩ (a.put o.dst (goInt ((min m n:Nat):Int))) w':=
     fun hh=>hh.put LW (An.sc _) (fun _ hx=>by cases hx)
    have ZJ:new.take (min m n*i.size)=[]->Bu s.hp id (some (.ar false (Bd cc (new.take (min m n*i.size)) off)))=s.hp:=by
     intro e;rw[e];refine R4 _ ?_;rw[h0];simp[Bd]
    have nothing:min m n*i.size=0->∀(ad:Option Addr) (cap:Nat),a.eval b=.slice ad n cap->o.wp P a w next Q:=by
     intro e ad cap L0;have hr:=HN (P:=P) (w:=w) (w1:=w) (t:=t) (ty:=o.type) (ts:=tx::ts) (ad:=ad) (n:=n) (cap:=cap) hu hi hs (by rw[e];cases ad<;>simp[storeCells])
     rw[←L0] at hr;refine run hr next Q (hn _ _ β (Add ?_));rw[ZJ (by rw[e,List.take_zero])]
     exact h
    rcases hbv with⟨hβ,_,rfl,ad,L0⟩|⟨bb,ob,y,cap,hβ,L0,hy,QA,Qb,Aas⟩
    ·exact nothing (by simp) ad 0 L0
    ·by_cases hm0:min m n*i.size=0
     ·exact nothing hm0 _ _ L0
     rcases h.box id _ h0 with⟨Er,_⟩|⟨b',o',Er,Im,FH,_⟩
     ·rw[hβ] at Er;cases Er
     rw[hβ] at Er;simp at Er;obtain⟨rfl,rfl⟩:=Er;have GW:n≠0:=by rintro rfl;simp at hm0
     have hy:y=ob+off:=by rcases hy with hy|⟨hq,_⟩<;>first|exact absurd hq GW|exact hy
     subst hy;have hlt:(news.take (min m n*i.size)).length=min m n*i.size:=by rw[List.length_take,Vt];omega
     have hcell:∀k,k<(news.take (min m n*i.size)).length->(w.cell? ⟨bb,ob+off+k,none⟩).isSome=true:=by
      intro k hk;obtain⟨v,hv,_⟩:=Im (off+k) _ (List.getElem?_eq_getElem (by omega))
      rw[Bq] at hv;rw[Nat.add_assoc,hv];rfl
     have hfr:∀k,k<(news.take (min m n*i.size)).length->w.frozen? ⟨bb,ob+off+k,none⟩=false:=fun k hk=>by
      obtain⟨u,hu⟩:=Option.isSome_iff_exists.1 (hcell k hk);exact FH rfl _ (by omega) (Ta hu)
     have h1:∀u∈news.take (min m n*i.size),u.oneCell'=true:=fun u hu=>hs.one u (List.mem_of_mem_take hu)
     have h3:=run_storeCells_cells (P:=P) bb (ob+off) (news.take (min m n*i.size)) 0 w (fun k hk=>by simpa using hcell k hk) (fun k hk=>by simpa using hfr k hk) h1
     have hr:=HN (P:=P) (w:=w) (t:=t) (ty:=o.type) (ts:=tx::ts) (ad:=some ⟨bb,ob+off,none⟩) (n:=n) (cap:=cap) hu hi hs h3;rw[←L0] at hr;simp only[Nat.add_zero] at hr;refine run hr next Q (hn _ _ β (Add ?_))
     refine h.write h0 trivial trivial hβ (Ay.setCells bb _ _ w) ?_ (fun cells hx=>by cases hx) (fun _ hx=>by cases hx) (fun j hj=>hj) (fun j hj=>by
      refine World.cell?_setCells_out bb _ _ w ⟨bb,j,none⟩ (fun _ _=>?_)
      have hj:¬(ob<=j):=hj;show j<ob+off∨ob+off+_<=j;omega)
     have Jp:Bh (Cd s.hp β Y) w (w.setCells bb (ob+off) (news.take (min m n*i.size))):=by
      have hw:=Ay.setCells bb (news.take (min m n*i.size)) (ob+off) w;have hAb:Cd s.hp β Y bb:=.inl ⟨id,ob,by rw[h0];trivial,hβ⟩
      exact⟨by rw[hw.size];exact Nat.le_refl _,fun k _ hk=>hw.other k (fun e=>hk (e ▸ hAb)),fun k _=>hw.grow k⟩
     have hll:(new.take (min m n*i.size)).length=min m n*i.size:=by rw[List.length_take,Zk];omega
     refine .inr ⟨bb,ob,hβ,fun j p hj=>?_,fun _ j hj Kw=>?_,(fun x=>by cases x)⟩
     ·rw[Bq];rcases Nk (by omega) hj with⟨h3,h4,h5⟩|⟨h3,h5⟩
      ·have Am2:j-off<min m n*i.size:=by omega
       rw[List.getElem?_take_of_lt Am2] at h5;obtain⟨u,hu,hcu⟩:=hs.rep.get h5;have GK:j-off<(news.take (min m n*i.size)).length:=by omega
       refine⟨u,?_,hs.one u (List.mem_of_getElem? hu),hcu.step Jp (fun _ _ x=>x)⟩
       have:=World.cell?_setCells_in bb (news.take (min m n*i.size)) (ob+off) w hcell (j-off) GK;rw[show ob+j=ob+off+(j-off) from by omega,this]
       rw[←List.getElem?_eq_getElem GK,List.getElem?_take_of_lt Am2];exact hu
      ·obtain⟨v,hv,h6,V0⟩:=Im j p h5;rw[Bq] at hv;refine⟨v,?_,h6,V0.step Jp (fun _ _ x=>x)⟩
       rw[World.cell?_setCells_out bb _ _ w ⟨bb,ob+j,none⟩ (fun _ _=>by show ob+j<ob+off∨ob+off+_<=ob+j;omega)]
       exact hv
     ·rw[(Ay.setCells bb _ _ w).bs] at Kw;rw[(Ay.setCells bb _ _ w).frz];exact FH rfl j hj Kw
   ·cases hk
  ·cases hk
 ·cases hk
theorem ML (h:B3 N w0 X0 Y β s a w){G:Glo}(H1:IR P G w0 X0){C:Fy}{call:Aj}(C4:∀f args res,call f args=some res->C1 G P f args res){K:St->Option R}(hk:Qg C P N call s o K=some r):
  ∃s',K s'=some r∧∀(next:Act->World->Prop) (Q:Exit->Act->World->Prop),(∀a' w' β',B3 N w0 X0 Y β' s' a' w'->next a' w')->o.wp P a w next Q:=by
 unfold Qg at hk;split at hk
 ·rename_i t x y ho;obtain⟨hd,hk⟩:=Ag hk;exact HX h ho (by simpa using hd) hk
 ·rename_i c ho;split at hk
  ·rename_i hc;obtain⟨d,hd,C9⟩:=Bm hk;obtain⟨b,xs,Wh,D3⟩:=Ar C9;obtain⟨x,ys,hys,Mx⟩:=Ar D3;obtain⟨Rq,Ue⟩:=Cl Mx;obtain⟨t,us,PM,hk5⟩:=Ar Ue;obtain⟨tx,vs,Ex,hk6⟩:=Ar hk5;rw[hys,Rq] at Wh;rw[Ex] at PM;exact GH h ho hc hd Wh PM hk6
  ·rename_i hc;obtain⟨b,xs,Wh,D3⟩:=Ar hk;obtain⟨x,ys,hys,Mx⟩:=Ar D3;obtain⟨Rq,Ue⟩:=Cl Mx;obtain⟨t,us,PM,hk5⟩:=Ar Ue;obtain⟨tx,vs,Ex,hk6⟩:=Ar hk5;rw[hys,Rq] at Wh;rw[Ex] at PM;exact NE h ho hc Wh PM hk6
  ·rename_i f hc;exact KA h H1 C4 ho hc hk
  ·cases hk
 ·cases hk
theorem ME (h:B3 N w0 X0 Y β s a w){G:Glo}(H1:IR P G w0 X0){C:Fy}{call:Aj}(C4:∀f args res,call f args=some res->C1 G P f args res){K:St->Option R}(hk:JN C P N call o s K=some r):
  ∃s',K s'=some r∧∀(next:Act->World->Prop) (Q:Exit->Act->World->Prop),(∀a' w' β',B3 N w0 X0 Y β' s' a' w'->next a' w')->o.wp P a w next Q:=by
 unfold JN at hk;cases hm:Na C P o.op
 ·rw[hm] at hk;exact LV h H1 C4 hk
 ·rw[hm] at hk;exact ML h H1 C4 hk
end
end
end Go.Proofs.Ytcgfahlefkfghaa.Pv
