/-
  The proof of AccountLeaves, part 2.
-/
import Derived.Test.YteicjnihnacadaaLA
import Derived.Laws.Append
import Derived.IntWalk
import Derived.Laws.AppendOwn
import Derived.Laws.IdiomCopy
set_option linter.unusedSimpArgs false
set_option linter.unusedVariables false
namespace Go.Proofs.Yteicjnihnacadaa.Pv
section
open Go.RowKit
def Eo (w:World)(A:Nat->Prop)(own:Option (Nat × Nat)) (p:PV)(u:Value):Prop:=
 match p with
 |.own es n c=>(own=none∧n=0∧c=[]∧∃ad,u=.slice ad 0 0) ∨
   ∃b o cap,own=some (b,o)∧u=.slice (some ⟨b,o,none⟩) n cap∧n<=cap∧Fit w es b (o+cap*es)∧b<w.heap.size∧CM w A ⟨b,o,none⟩ c∧∀j,o<=j->j<bsz w b->w.frozen? ⟨b,j,none⟩=false
 |p=>Ao w A p u
def Dd (w:World)(A:Nat->Prop)(own:Bt):Nat->List PV->List Value->Prop
 |_,[],[]=>True
 |j,p::ps,u::us=>Eo w A (own j) p u∧Dd w A own (j+1) ps us
 |_,_,_=>False
def XH (w:World)(A:Nat->Prop)(own:Bt)(j b o:Nat)(cs:List PV):Prop:=
 ∃vs,Dd w A own j cs vs∧(∀(k:Nat) v,vs[k]?=some v->w.cell? ⟨b,o+k,none⟩=some v)∧∀k,k<cs.length->w.frozen? ⟨b,o+k,none⟩=false
def ZA (w:World)(A:Nat->Prop)(own:Bt)(z j:Nat)(p:PV)(u:Value):Prop:=
 match p with
 |.agg cs=>∃vs,u=.agg ⟨vs⟩∧Dd w A own j cs vs
 |.pbox cs=>∃b o,own j=some (b,o)∧z<=b∧u=.pointer (some ⟨b,o,none⟩)∧XH w A own (j+1) b o cs
 |p=>Eo w A (own j) p u
def PQ:PV->Nat
 |.pbox cs=>1+cs.length
 |p=>(cellsOf p).length
def LW (w:World)(A:Nat->Prop)(own:Bt)(z:Nat):Nat->List PV->List Value->Prop
 |_,[],[]=>True
 |j,p::ps,u::us=>ZA w A own z j p u∧LW w A own z (j+PQ p) ps us
 |_,_,_=>False
abbrev T8:=Nat->Nat->Option (Nat × Nat)
def QH (bt:T8)(b:Nat):Prop:=∃i j o,bt i j=some (b,o)
def isA (p:PV):Prop:=O0 p∨∃es n c,p=.own es n c
def Rv (p:PV):Bool:=
 match p with
 |.pbox _=>true
 |.tup _=>true
 |_=>false
theorem YW {p:PV}(h:isA p):Rv p=false:=by
 rcases h with h|⟨_,_,_,rfl⟩
 ·cases p<;>first|rfl|exact h.elim
 ·rfl
def DN (w:World)(A:Nat->Prop)(bt:Bt)(p:PV)(u:Value):Prop:=
 match p with
 |.pbox ps=>∃b o,bt 0=some (b,o)∧u=.pointer (some ⟨b,o,none⟩)∧(∀p∈ps,isA p)∧XH w A bt 1 b o ps
 |.tup ps=>∃es n c,ps=[.own es n c]∧Eo w A (bt 0) (.own es n c) u
 |.agg cs=>∃vs,u=.agg ⟨vs⟩∧(∀p∈cs,isA p)∧Dd w A bt 1 cs vs
 |p=>isA p∧Eo w A (bt 1) p u
def Ih (w:World)(A:Nat->Prop)(bt:T8):Nat->List PV->List Value->Prop
 |_,[],[]=>True
 |i,p::ps,u::us=>DN w A (bt i) p u∧Ih w A bt (i+1) ps us
 |_,_,_=>False
def Ads (bt:Bt)(p:PV)(b j:Nat):Prop:=
 (∃k o,bt (k+1)=some (b,o)∧o<=j)∨∃o ps,bt 0=some (b,o)∧o<=j∧((p=.pbox ps∧j<o+ps.length)∨p=.tup ps)
def Ya (bt:T8)(args:List PV)(b j:Nat):Prop:=∃i p,args[i]?=some p∧Ads (bt i) p b j
def F7 (w:World)(A:Nat->Prop)(own:Bt)(bt:T8):Nat->Nat->List PV->List (List PV)->Prop
 |_,_,[],r=>r=[]
 |j,i,p::zs,r=>
  match p with
  |.pbox ps=>
   match r with
   |[]=>False
   |cs::r=>(∃b o,bt i 0=some (b,o)∧cs.length=ps.length∧XH w A own j b o cs)∧F7 w A own bt (j+cs.length) (i+1) zs r
  |.tup _=>
   match r with
   |[]=>False
   |cs::r=>((bt i 0=none∧cs=[])∨∃b o,bt i 0=some (b,o)∧CM w A ⟨b,o,none⟩ cs∧∀k,o<=k->k<bsz w b->w.frozen? ⟨b,k,none⟩=false)∧F7 w A own bt j (i+1) zs r
  |_=>F7 w A own bt j (i+1) zs r
def R2 (bt:T8)(own:Bt)(Y:Nat->Prop)(b:Nat):Prop:=(∃j o,own j=some (b,o))∨(∃i o,bt i 0=some (b,o))∨Y b
def Ke (vals:List PV):Nat:=(vals.map PQ).sum
structure Out (w w':World) (Y:Nat->Prop) (bt:T8) (args:List PV) (own:Bt) (r:Be) (vs:List Value):Prop where
 os:w'.os=w.os
 tape:w'.tape=w.tape
 output:w'.output=w.output
 ext:Bb (QH bt) w w'
 rng:∀b j,b<w.heap.size->¬Ya bt args b j->w'.cell? ⟨b,j,none⟩=w.cell? ⟨b,j,none⟩∧w'.frozen? ⟨b,j,none⟩=w.frozen? ⟨b,j,none⟩
 vals:LW w' (R2 bt own Y) own w.heap.size 0 r.vals vs
 outs:F7 w' (R2 bt own Y) own bt (Ke r.vals) 0 args r.outs
 fresh:∀j b o,own j=some (b,o)->b<w'.heap.size∧(b<w.heap.size->(∃i k o',bt i (k+1)=some (b,o'))∧∀x,o<=x->Ya bt args b x)
 inj:∀j j' b o o',own j=some (b,o)->own j'=some (b,o')->j=j'
def Fq (us:List Value):Value:=match us with|[u]=>u|us=>.tuple ⟨us⟩
def Lf (w:World)(Y:Nat->Prop)(p:PV)(u:Value):Prop:=
 match p with
 |.agg cs=>∃vs,u=.agg ⟨vs⟩∧Au (fun c v=>O0 c∧Ao w Y c v) cs vs
 |p=>O0 p∧Ao w Y p u
structure Ins (w:World) (Y:Nat->Prop) (bt:T8) (args:List PV) (us:List Value):Prop where
 Ylt:∀b,Y b->b<w.heap.size
 Yx:∀b,Y b->¬QH bt b
 lt:∀b,QH bt b->b<w.heap.size
 inj:∀i j i' j' b o o',bt i j=some (b,o)->bt i' j'=some (b,o')->i=i'∧j=j'
 l0:∀i q,bt i 0=some q->∃p,args[i]?=some p∧Rv p=true
 args:Ih w (fun b=>QH bt b∨Y b) bt 0 args us
structure Glo where
 bl:Nat->Prop
 ok:World->Prop
 stable:∀w w':World,(∀b,bl b->b<w.heap.size->w'.heap[b]?=w.heap[b]?)->ok w->ok w'
def De (G:Glo)(P:Program)(f:FuncId)(args:List PV)(r:Be):Prop:=
 (∃fn,P.funcs[f]?=some fn∧fn.body.isSome=true)∧∀(w:World)(Y:Nat->Prop)(bt:T8)(us:List Value),Ins w Y bt args us->G.ok w->(∀b,G.bl b->b<w.heap.size∧¬QH bt b) ->
  Calls P f us.toArray w fun e w'=>∃vs own,e=.returned (Fq vs)∧Out w w' Y bt args own r vs
def RF:T8:=fun _ _=>none
theorem Wp (b:Nat):¬QH RF b:=by rintro⟨_,_,_,h⟩;cases h
theorem Hc {w:World}{A:Nat->Prop}{q:Option (Nat × Nat)} {p:PV}{u:Value}(hp:O0 p)(h:Ao w A p u):Eo w A q p u:=by
 cases p<;>first|exact h|exact hp.elim
theorem S7 {w:World}{A:Nat->Prop}{own:Bt}:∀{cs:List PV}{vs:List Value}{j:Nat},Au (fun c v=>O0 c∧Ao w A c v) cs vs->Dd w A own j cs vs
 |[],[],_,_=>trivial
 |_::_,_::_,_,h=>⟨Hc h.1.1 h.1.2,S7 h.2⟩
 |[],_::_,_,h=>h.elim
 |_::_,[],_,h=>h.elim
theorem NA {w:World}{A:Nat->Prop}{bt:Bt}{p:PV}{u:Value}(h:Lf w A p u):DN w A bt p u:=by
 cases p with
 |agg cs=>
  obtain⟨vs,h1,h2⟩:=h;refine⟨vs,h1,fun p hp=>.inl ?_,S7 h2⟩
  obtain⟨j,hj⟩:=List.mem_iff_getElem?.1 hp;obtain⟨v,_,hv⟩:=h2.get hj;exact hv.1
 |sc v=>exact⟨.inl trivial,h.2⟩
 |lst z es n c=>exact⟨.inl trivial,h.2⟩
 |_=>exact h.1.elim
theorem Vf {w:World}{A:Nat->Prop}{bt:T8}:∀{ps:List PV}{us:List Value}{i:Nat},Au (Lf w A) ps us->Ih w A bt i ps us
 |[],[],_,_=>trivial
 |_::_,_::_,_,h=>⟨NA h.1,Vf h.2⟩
 |[],_::_,_,h=>h.elim
 |_::_,[],_,h=>h.elim
theorem NR {w:World}{A A':Nat->Prop}(hA:∀b,b<w.heap.size->A' b->A b){p:PV}{v:Value}(h:Lf w A p v):Lf w A' p v:=by
 cases p with
 |agg cs=>
  obtain⟨vs,rfl,h2⟩:=h;exact⟨vs,rfl,h2.mono fun c v hc=>⟨hc.1,hc.2.step (Bb.refl _ _) hA⟩⟩
 |sc v=>exact⟨h.1,h.2.step (Bb.refl _ _) hA⟩
 |lst z es n c=>exact⟨h.1,h.2.step (Bb.refl _ _) hA⟩
 |_=>exact h.1.elim
theorem CZ {w:World}{Y:Nat->Prop}{args:List PV}{us:List Value}(hY:∀b,Y b->b<w.heap.size)(h:Au (Lf w Y) args us):Ins w Y RF args us:=
 ⟨hY,fun b _=>Wp b,fun b h=>absurd h (Wp b),(fun _ _ _ _ _ _ _ h=>by cases h),(fun _ _ h=>by cases h),Vf (h.mono fun _ _ hx=>NR (fun b _ hb=>hb.elim (fun q=>absurd q (Wp b)) id) hx)⟩
def NoNG (P:Program):Prop:=∀(f:FuncId) (fn:Func),P.funcs[f]?=some fn->(fn.name == "runtime.NumGoroutine")=false
structure ES (P:Program) (G:Glo) (w0:World) (X0:E6):Prop where
 ng:NoNG P
 fr:∀w,Fr X0 w0 w->G.ok w
 y:∀b,G.bl b->b<w0.heap.size∧¬X0.X b
section
variable {R:Type} {r:R} {P:Program} {N:Nat} {w0:World} {X0:E6} {Y:Nat->Prop} {β β':Bt} {s:St} {a:Act} {w w':World} {o:Oper} {A:Nat->Prop}
def Wn (P:Program)(a:Act)(w:World)(o:Oper)(Y:Nat->Prop)(β:Bt)(s:St)(v:PV)(fz:List Nat)(nw:List (Nat × A1)):Prop:=
 (∀id∈fz,∃f c,s.hp id=some (.ar f c))∧∀(next:Act->World->Prop)(Q:Exit->Act->World->Prop),
  (∀val w',(A2 s.hp nw=true->∃β',X9 Y β ⟨s.tm,Ac s.hp fz⟩ w v nw val w' β')->next (a.put o.dst val) w')->o.wp P a w next Q
theorem Wl {v:PV}{fz:List Nat}{nw:List (Nat × A1)} (h:Ct P a w o Y β s v fz nw):Wn P a w o Y β s v fz nw:=by
 obtain⟨h1,val,w',hr,hs⟩:=h;refine⟨h1,fun next Q hn=>?_⟩
 unfold Oper.wp;rw[hr];exact hn val w' hs
theorem SN (h:Br N w0 X0 Y β s a w){t:TypeId}{x:PV}{u:Value}(hx:Cu w (Bz s.hp β Y) β x u) {K:PV->List Nat->Option R}(hk:HC P (Gj s.hp) t x K=some r):
  ∃p m,K p m=some r∧(∀id∈m,∃f cc,s.hp id=some (.ar f cc))∧(cellsOf p).length=(E9 P t).length∧∀fz:List Nat,(∀id∈m,id∈fz)->(∀id∈fz,∃f cc,s.hp id=some (.ar f cc))->Lf w (Bz (Ac s.hp fz) β Y) p u:=by
 unfold HC at hk;cases Dy:A8 P t
 ·rw[Dy] at hk;obtain⟨cs,m,hk,hl,Gl,hT,hF,hm,hv⟩:=Kv h (show I7 _ _ _ _=some r from hk)
  obtain⟨c,t',rfl,hk⟩:=Ap hk;obtain⟨rfl,hk⟩:=B5 hk;have hcT:=hT c (by simp)
  refine⟨c,m,hk,hm,?_,fun fz h1 h2=>?_⟩
  ·have:cellsOf c=[c]:=by cases c<;>first|rfl|exact hcT.elim
   rw[this];exact hl
  have hF':=hF _ (List.mem_singleton_self _)
  have hc:A6 w (Bz s.hp β Y) β x u:=by
   cases x<;>first|exact hx|exact hF'.elim
  have h3:=(hv fz h1 h2 [u] ⟨hc,trivial⟩).1.1;cases c<;>first|exact⟨trivial,h3⟩|exact hcT.elim
 ·rw[Dy] at hk;obtain⟨ps,hp,hk⟩:=Eu (show D6 _ _=some r from hk)
  rw[hp] at hx;obtain⟨cs,m,hk,hl,Gl,hT,hF,hm,hv⟩:=Kv h hk;obtain⟨vs,B0,h2⟩:=hx;refine⟨.agg cs,m,hk,hm,hl,fun fz h1 h3=>⟨vs,B0,?_⟩⟩
  exact (hv fz h1 h3 vs h2).1.mono_mem fun c hc v Tg=>⟨hT c hc,Tg⟩
theorem UJ (h:Br N w0 X0 Y β s a w){t:TypeId}{x:Operand}{K:PV->List Nat->Option R}(hk:HC P (Gj s.hp) t (A7 s.tm x) K=some r):
  ∃p m,K p m=some r∧(∀id∈m,∃f cc,s.hp id=some (.ar f cc))∧∀fz:List Nat,(∀id∈m,id∈fz)->(∀id∈fz,∃f cc,s.hp id=some (.ar f cc))->Lf w (Bz (Ac s.hp fz) β Y) p (a.eval x):=by
 obtain⟨p,m,h1,h2,_,h3⟩:=SN h (Bu h x) hk;exact⟨p,m,h1,h2,h3⟩
theorem Zw (h:Br N w0 X0 Y β s a w):∀{ts:List TypeId}{xs:List Operand}{K:List PV->List Nat->Option R},Wz P (Gj s.hp) ts (xs.map (A7 s.tm)) K=some r ->
  ∃ps m,K ps m=some r∧(∀id∈m,∃f cc,s.hp id=some (.ar f cc))∧∀fz:List Nat,(∀id∈m,id∈fz)->(∀id∈fz,∃f cc,s.hp id=some (.ar f cc))->Au (Lf w (Bz (Ac s.hp fz) β Y)) ps (xs.map a.eval)
 |[],[],K,hk=>⟨[],[],hk,by simp,fun _ _ _=>trivial⟩
 |[],_::_,K,hk=>by cases hk
 |_::_,[],K,hk=>by cases hk
 |t::ts,x::xs,K,hk=>by
  simp only[List.map_cons] at hk;unfold Wz at hk;obtain⟨p,m,hk,hm,hv⟩:=UJ h hk;obtain⟨ps,ms,hk,Xc,Ga⟩:=Zw h hk;refine⟨p::ps,m++ms,hk,?_,fun fz h1 h2=>⟨hv fz (fun i hi=>h1 i (by simp[hi])) h2,Ga fz (fun i hi=>h1 i (by simp[hi])) h2⟩⟩
  intro i hi;rcases List.mem_append.1 hi with hi|hi
  ·exact hm i hi
  ·exact Xc i hi
theorem Lf.weaken {A':Nat->Prop}(hA:∀b,b<w.heap.size->A' b->A b){p:PV}{v:Value}(h:Lf w A p v):Lf w A' p v:=by
 have one:O0 p->O0 p∧Ao w A p v->Lf w A' p v:=by
  intro hp h;cases p<;>first|exact⟨h.1,h.2.step (Bb.refl _ _) hA⟩|exact hp.elim
 cases p with
 |agg cs=>
  obtain⟨vs,rfl,h2⟩:=h;exact⟨vs,rfl,h2.mono fun c v hc=>⟨hc.1,hc.2.step (Bb.refl _ _) hA⟩⟩
 |_=>exact one h.1 h
theorem SY {t:CT}{p:PV}{K:PV->Option R}(h:Sk t p K=some r):
  ∃c,K c=some r∧O0 c∧O0 p∧(∀(w:World) (A:Nat->Prop) (β:Nat->Option (Nat × Nat)) (v:Value),A6 w A β p v->Ao w A c v∧v.oneCell'=true)∧((∀es,t ≠ .sl es)->∃v,c=.sc v):=by
 obtain⟨c,hk,hT,Ws,hv⟩:=Ip h;cases t with
 |sl es=>exact⟨c,hk,hT,Ws,hv,fun Hh=>absurd rfl (Hh es)⟩
 |int k=>obtain⟨n,rfl,h2⟩:=Cs h;exact⟨_,h2,trivial,trivial,fun w A β v hv=>⟨hv,by have:=Ao.val (w:=w) (A:=A) hv;subst this;rfl⟩,fun _=>⟨_,rfl⟩⟩
 |bool=>obtain⟨n,rfl,h2⟩:=Cd h;exact⟨_,h2,trivial,trivial,fun w A β v hv=>⟨hv,by have:=Ao.val (w:=w) (A:=A) hv;subst this;rfl⟩,fun _=>⟨_,rfl⟩⟩
 |str=>obtain⟨n,rfl,h2⟩:=Cb h;exact⟨_,h2,trivial,trivial,fun w A β v hv=>⟨hv,by have:=Ao.val (w:=w) (A:=A) hv;subst this;rfl⟩,fun _=>⟨_,rfl⟩⟩
 |any=>
  obtain⟨f,a,b,rfl,h2⟩:=AU (show QO p (fun v=>K (.sc v))=some r from h)
  exact⟨_,h2,trivial,trivial,fun w A β v hv=>⟨hv,by have:=Ao.val (w:=w) (A:=A) hv;subst this;rfl⟩,fun _=>⟨_,rfl⟩⟩
theorem Nv (shr:Bool)(N:Nat):∀{ts:List CT}{ps:List PV}{id:Nat}{K:List PV->List (Nat × A1)->Option R},K3 shr N id ts ps K=some r ->
  ∃cs bs,K cs bs=some r∧ps.length=ts.length∧(∀p∈ps,∀x,p ≠ .agg x∧p ≠ .pbox x)∧(∀c∈cs,X1 c)∧((∀es,CT.sl es ∉ ts)->bs=[]∧∀c∈cs,∃v,c=.sc v) ∧
   (∀i bx,(i,bx)∈bs->∃j es n c,ps[j]?=some (.own es n c)∧i=id+N*j∧bx=.ar false c) ∧
   (∀c∈cs,∀i∈Ai c,∃bx,(i,bx)∈bs) ∧
   ∀(w:World) (A:Nat->Prop) (own β':Bt) (j0:Nat) (us:List Value),(∀j,(∃bx,(id+N*j,bx)∈bs)->β' (id+N*j)=own (j0+j))->Dd w A own j0 ps us->Au (A6 w A β') cs us
 |[],ps,id,K,hk=>by
  obtain⟨rfl,hk⟩:=B5 hk;refine⟨[],[],hk,rfl,by simp,by simp,by simp,by simp,by simp,fun w A own β' j0 us _ h=>?_⟩
  cases us with
  |nil=>trivial
  |cons u us=>exact h.elim
 |t::ts,ps,id,K,hk=>by
  unfold K3 at hk;obtain⟨p,ps',Xk,Cn⟩:=Ap hk;subst Xk;clear hk
  have main:∃c b,(K3 shr N (id+N) ts ps' fun cs bs=>K (c::cs) (b++bs))=some r∧(∀x,p ≠ .agg x∧p ≠ .pbox x)∧X1 c∧((∀es,t≠CT.sl es)->b=[]∧∃v,c=.sc v)∧(∀i bx,(i,bx)∈b->∃es n cc,p=.own es n cc∧i=id∧bx=.ar false cc)∧(∀i∈Ai c,∃bx,(i,bx)∈b) ∧
    ∀(w:World) (A:Nat->Prop) (own:Option (Nat × Nat)) (β':Bt) (u:Value),((∃bx,(id,bx)∈b)->β' id=own)->Eo w A own p u->A6 w A β' c u:=by
   have tree:∀t',t'=t->(Sk t' p fun c=>K3 shr N (id+N) ts ps' fun cs bs=>K (c::cs) ([]++bs))=some r->∃c b,(K3 shr N (id+N) ts ps' fun cs bs=>K (c::cs) (b++bs))=some r∧(∀x,p ≠ .agg x∧p ≠ .pbox x)∧X1 c∧((∀es,t≠CT.sl es)->b=[]∧∃v,c=.sc v)∧(∀i bx,(i,bx)∈b->∃es n cc,p=.own es n cc∧i=id∧bx=.ar false cc)∧(∀i∈Ai c,∃bx,(i,bx)∈b) ∧
     ∀(w:World) (A:Nat->Prop) (own:Option (Nat × Nat)) (β':Bt) (u:Value),((∃bx,(id,bx)∈b)->β' id=own)->Eo w A own p u->A6 w A β' c u:=by
    intro t' ht' hk;have HA:=SY hk;obtain⟨c,hk,hT,Ws,hv,HA⟩:=HA;refine⟨c,[],hk,fun x=>⟨Rq Ws x,by rintro rfl;exact Ws⟩,Le hT,fun Hh=>⟨rfl,HA (fun es e=>Hh es (ht'.symm.trans e))⟩,by simp,by rw[Ey hT];simp,fun w A own β' u _ hc=>?_⟩
    have Lk:A6 w A β' p u:=by cases p<;>first|exact hc|exact Ws.elim
    exact (Hq hT).2 (hv w A β' u Lk).1
   unfold RC at Cn;cases t with
   |sl es=>
    dsimp only at Cn;cases shr
    ·unfold M4 at Cn;simp only[cond_false] at Cn;split at Cn
     ·rename_i es' n c;cases hb:Nat.beq es' es
      ·rw[hb] at Cn;cases Cn
      ·rw[hb] at Cn;have:=Nat.eq_of_beq_eq_true hb;subst this;refine⟨_,_,Cn,by simp,trivial,fun Hh=>absurd rfl (Hh _),?_,?_,fun w A own β' u hβ hc=>?_⟩
       ·intro i bx hm;simp at hm;exact⟨_,_,_,rfl,hm.1,hm.2⟩
       ·intro i hi;simp[Ai] at hi;subst hi;exact⟨.ar false c,by simp⟩
       ·have hβ':=hβ ⟨.ar false c,by simp⟩
        clear hβ;rcases hc with⟨h1,rfl,rfl,h4⟩|⟨b,ob,cap,h1,h2,h3,h4,h5,_⟩
        ·exact .inl ⟨hβ'.trans h1,rfl,rfl,h4⟩
        ·exact .inr ⟨b,ob,ob,cap,hβ'.trans h1,h2,.inl rfl,h3,h4,h5⟩
     ·cases Cn
    ·obtain⟨c,hk,hT,Ws,hv,_⟩:=SY (t:=.sl es) (p:=p) (K:=fun c=>K3 true N (id+N) ts ps' fun cs bs=>K (AE c::cs) ([]++bs)) Cn
     have hU:O0 (AE c):=by cases c<;>exact hT
     refine⟨AE c,[],hk,fun x=>⟨Rq Ws x,by rintro rfl;exact Ws⟩,Le hU,fun Hh=>absurd rfl (Hh _),by simp,by rw[Ey hU];simp,fun w A own β' u _ hc=>?_⟩
     have Lk:A6 w A β' p u:=by cases p<;>first|exact hc|exact Ws.elim
     refine (Hq hU).2 ?_;have:=(hv w A β' u Lk).1;cases c with
     |lst z es n c=>exact Ao.unz this
     |_=>exact this
   |int k=>exact tree (.int k) rfl Cn
   |bool=>exact tree .bool rfl Cn
   |str=>exact tree .str rfl Cn
   |any=>exact tree .any rfl Cn
  obtain⟨c,b,hk,hpa,hF,ET,Dr,Hy,Tg⟩:=main;obtain⟨cs,bs,hk,hl,Akh,hFs,Abx,Ai6,Ajn,Aju⟩:=Nv shr N hk;refine⟨c::cs,b++bs,hk,by simp[hl],?_,?_,?_,?_,?_,fun w A own β' j0 us hβ hoc=>?_⟩
  ·intro x hx;rcases List.mem_cons.1 hx with rfl|hx
   ·exact hpa
   ·exact Akh x hx
  ·intro x hx;rcases List.mem_cons.1 hx with rfl|hx
   ·exact hF
   ·exact hFs x hx
  ·intro Hh;obtain⟨h1,v,h2⟩:=ET (fun es e=>Hh es (by rw[e];simp))
   obtain⟨h3,h4⟩:=Abx (fun es hm=>Hh es (by simp[hm]))
   refine⟨by rw[h1,h3];rfl,fun x hx=>?_⟩
   rcases List.mem_cons.1 hx with rfl|hx
   ·exact⟨v,h2⟩
   ·exact h4 x hx
  ·intro i bx hm;rcases List.mem_append.1 hm with hm|hm
   ·obtain⟨es,n,cc,rfl,rfl,rfl⟩:=Dr i bx hm;exact⟨0,es,n,cc,rfl,by simp,rfl⟩
   ·obtain⟨j,es,n,cc,h1,rfl,h3⟩:=Ai6 i bx hm;exact⟨j+1,es,n,cc,by simpa using h1,by rw[Nat.mul_add];omega,h3⟩
  ·intro x hx i hi;rcases List.mem_cons.1 hx with rfl|hx
   ·obtain⟨bx,hm⟩:=Hy i hi;exact⟨bx,by simp[hm]⟩
   ·obtain⟨bx,hm⟩:=Ajn x hx i hi;exact⟨bx,by simp[hm]⟩
  ·cases us with
   |nil=>exact hoc.elim
   |cons u us=>
    refine⟨Tg w A (own j0) β' u (fun ⟨bx,hm⟩=>by have:=hβ 0 ⟨bx,by simp[hm]⟩;simpa using this) hoc.1,?_⟩
    refine Aju w A own β' (j0+1) us (fun j ⟨bx,hm⟩=>?_) hoc.2
    have e:id+N+N*j=id+N*(j+1):=by rw[Nat.mul_add];omega
    have:=hβ (j+1) ⟨bx,by rw[←e];simp[hm]⟩
    rw[e,this]
    congr 1
    omega
end
open Go.RowKit
section
variable {R:Type} {r:R} {P:Program} {N:Nat} {w0:World} {X0:E6} {Y:Nat->Prop} {β β':Bt} {s:St} {a:Act} {w w':World} {o:Oper} {A:Nat->Prop}
theorem Dd.len:∀{j:Nat}{own:Bt}{ps:List PV}{us:List Value},Dd w A own j ps us->ps.length=us.length
 |_,_,[],[],_=>rfl
 |_,_,_::_,_::_,h=>by simp[Dd.len h.2]
 |_,_,[],_::_,h=>h.elim
 |_,_,_::_,[],h=>h.elim
theorem Dd.at_:∀{j:Nat}{own:Bt}{ps:List PV}{us:List Value},Dd w A own j ps us->∀{i:Nat} {p},ps[i]?=some p->∃u,us[i]?=some u∧Eo w A (own (j+i)) p u
 |_,_,[],[],_,i,p,h=>by simp at h
 |j,own,_::_,u::_,h,0,p,hp=>by simp at hp;subst hp;exact⟨u,rfl,h.1⟩
 |j,own,_::_,_::_,h,i+1,p,hp=>by
  simp at hp;obtain⟨u,hu,hc⟩:=Dd.at_ h.2 hp;exact⟨u,by simpa using hu,by rw[show j+(i+1)=j+1+i from by omega];exact hc⟩
 |_,_,[],_::_,h,_,_,_=>h.elim
 |_,_,_::_,[],h,_,_,_=>h.elim
def UP (N id:Nat)(β':Bt)(w:World)(A:Nat->Prop)(z n:Nat)(bs:List (Nat × A1)):Prop:=
 ∀i bx,(i,bx)∈bs->(∃j,i=id+N*j∧j<n)∧Bx (some bx)∧L0 w A β' i bx∧∀cs,bx=.st cs->∀b o,β' i=some (b,o)->z<=b
def R7 (bs:List (Nat × A1)):Prop:=∀i cells,(i,.st cells)∈bs->∀c∈cells,∀i'∈Ai c,∃bx,(i',bx)∈bs
theorem Rs {q:Option (Nat × Nat)} {es n i:Nat}{c:List PV}{u:Value}(h:Eo w A q (.own es n c) u) (hβ:β' i=q):L0 w A β' i (.ar false c):=by
 rcases h with⟨h1,_,h2,_⟩|⟨b,o,cap,h1,_,_,_,_,h6,h7⟩
 ·exact .inl ⟨hβ.trans h1,h2⟩
 ·exact .inr ⟨b,o,hβ.trans h1,h6,fun _=>h7,(fun x=>by cases x)⟩
theorem R9 {t:TypeId}(h:F6 P [t]=false):Q4 P t=none∧∀es,CT.sl es ∉ E9 P t:=by
 simp only[F6,List.any_cons,List.any_nil,Bool.or_false,Bool.or_eq_false_iff] at h;refine⟨by simpa using h.1,fun es hm=>?_⟩
 have:=List.any_eq_false.1 h.2 _ hm;simp at this
theorem QU (shr:Bool)(N:Nat){t:TypeId}{p:PV}{id:Nat}{K:PV->List (Nat × A1)->Option R} (hk:NK P shr N id t p K=some r):
  ∃v bs,K v bs=some r∧PQ p=EN P t∧(∀x,v ≠ .tup x)∧(F6 P [t]=false->bs=[]∧∀c∈cellsOf v,∃u,c=.sc u)∧(∀i∈Bf v,∃bx,(i,bx)∈bs)∧R7 bs ∧
   ∀(w:World) (A:Nat->Prop) (own β':Bt) (z j0:Nat) (u:Value),(∀j,(∃bx,(id+N*j,bx)∈bs)->β' (id+N*j)=own (j0+j))->ZA w A own z j0 p u->E2 w A β' v u∧UP N id β' w A z (PQ p) bs:=by
 have boxes:∀{bs:List (Nat × A1)} {ps:List PV} {id:Nat},(∀i bx,(i,bx)∈bs->∃j es n c,ps[j]?=some (.own es n c)∧i=id+N*j∧bx=.ar false c) ->
   R7 bs∧∀(w:World) (A:Nat->Prop) (own β':Bt) (j0:Nat) (us:List Value),(∀j,(∃bx,(id+N*j,bx)∈bs)->β' (id+N*j)=own (j0+j))->Dd w A own j0 ps us->∀z,UP N id β' w A z ps.length bs:=by
  intro bs ps id Dr;refine⟨fun i cells hm=>?_,fun w A own β' j0 us hβ ho z i bx hm=>?_⟩
  ·obtain⟨_,_,_,_,_,_,h3⟩:=Dr i _ hm;cases h3
  ·obtain⟨j,es,n,cc,h1,h2,h3⟩:=Dr i bx hm;obtain⟨u,hu,hoc⟩:=ho.at_ h1;subst h3;refine⟨⟨j,h2,?_⟩,trivial,Rs hoc ?_,fun _ e=>by cases e⟩
   ·rcases Nat.lt_or_ge j ps.length with h|h
    ·exact h
    ·rw[List.getElem?_eq_none h] at h1;cases h1
   ·rw[h2];exact hβ j ⟨_,h2 ▸ hm⟩
 unfold NK at hk;split at hk
 ·rename_i e he;obtain⟨ps,rfl,hk⟩:=Zs hk;obtain⟨cs,bs,hk,hl,XQ,hF,ET,Dr,Hy,Tg⟩:=Nv shr N hk;obtain⟨IM,H5⟩:=boxes Dr;refine⟨.ptr id 0,_,hk,by simp only[PQ,EN,he,hl],by simp,fun h=>?_,fun i hi=>?_,fun i cells hm c hc i' CC=>?_,fun w A own β' z j0 u hβ ho=>?_⟩
  ·have:=(R9 h).1;rw[he] at this;cases this
  ·simp only[Bf,Ai,List.mem_singleton] at hi;subst hi;exact⟨_,List.mem_cons_self⟩
  ·rcases List.mem_cons.1 hm with e|hm
   ·cases e;obtain⟨bx,hb⟩:=Hy c hc i' CC;exact⟨bx,List.mem_cons_of_mem _ hb⟩
   ·obtain⟨bx,hb⟩:=IM i cells hm c hc i' CC;exact⟨bx,List.mem_cons_of_mem _ hb⟩
  ·obtain⟨b,o,h1,hz,rfl,vs,h3,h4,h5⟩:=ho;have h0:=hβ 0 ⟨_,by rw[Nat.mul_zero,Nat.add_zero];exact List.mem_cons_self⟩
   rw[Nat.mul_zero,Nat.add_zero,Nat.add_zero,h1] at h0;have Ax:∀j,id+N+N*j=id+N*(j+1):=fun j=>by rw[Nat.mul_add];omega
   have hβ1:∀j,(∃bx,(id+N+N*j,bx)∈bs)->β' (id+N+N*j)=own (j0+1+j):=fun j ⟨bx,hm⟩=>by
    rw[Ax,hβ (j+1) ⟨bx,by rw[←Ax];exact List.mem_cons_of_mem _ hm⟩]
    congr 1;omega
   have hc2:=Tg w A own β' (j0+1) vs hβ1 h3;have BM:=H5 w A own β' (j0+1) vs hβ1 h3 z;have C3:cs.length=ps.length:=by rw[hc2.len,←h3.len]
   refine⟨⟨b,o,h0,by simp⟩,fun i bx hm=>?_⟩
   rcases List.mem_cons.1 hm with e|hm
   ·cases e;refine⟨⟨0,by simp,by simp only[PQ];omega⟩,trivial,⟨b,o,h0,fun k c hk=>?_,fun k hk=>h5 k (by omega)⟩,fun _ _ b' o' E1=>?_⟩
    ·obtain⟨v,hv,CP⟩:=hc2.get hk;exact⟨v,h4 k v hv,CP⟩
    ·rw[h0] at E1;cases E1;exact hz
   ·obtain⟨⟨j,hj,hjn⟩,h6,h7⟩:=BM i bx hm;exact⟨⟨j+1,by rw[hj,Ax],by simp only[PQ];omega⟩,h6,h7⟩
 ·rename_i hnp;have Ut:EN P t=(E9 P t).length:=by simp only[EN,hnp]
  cases Dy:A8 P t
  ·rw[Dy] at hk;obtain⟨cs,bs,hk,hl,XQ,hF,ET,Dr,Hy,Tg⟩:=Nv shr N (show K3 _ _ _ _ _ _=some r from hk)
   obtain⟨c,t',rfl,hk⟩:=Ap hk;obtain⟨rfl,hk⟩:=B5 hk;have hFc:=hF c (by simp)
   have Af4:∀x,p ≠ .pbox x:=fun x=>(XQ p (by simp) x).2
   have Abu:∀x,c ≠ .agg x:=by rintro x rfl;exact hFc
   have Alc:∀x,c ≠ .tup x:=by rintro x rfl;exact hFc
   have XO:Bf c=Ai c:=by cases c<;>first|rfl|exact absurd rfl (Abu _)
   have hpa:∀x,p ≠ .agg x:=fun x=>(XQ p (by simp) x).1
   obtain⟨IM,H5⟩:=boxes Dr;have hcell:cellsOf p=[p]:=by cases p<;>first|rfl|exact absurd rfl (hpa _)
   have Af9:PQ p=1:=by cases p<;>first|rfl|exact absurd rfl (hpa _)|exact absurd rfl (Af4 _)
   have SS:cellsOf c=[c]:=by cases c<;>first|rfl|exact absurd rfl (Abu _)
   refine⟨c,bs,hk,by rw[Af9,Ut];exact hl,Alc,fun Hh=>by rw[SS];exact ET (R9 Hh).2,fun i hi=>Hy c (by simp) i (by rw[←XO];exact hi),IM,fun w A own β' z j0 u hβ ho=>?_⟩
   have FZ:Eo w A (own j0) p u:=by cases p<;>first|exact ho|exact absurd rfl (hpa _)|exact absurd rfl (Af4 _)
   exact⟨(Rc Abu).2 (Tg w A own β' j0 [u] hβ ⟨FZ,trivial⟩).1,by rw[Af9];exact H5 w A own β' j0 [u] hβ ⟨FZ,trivial⟩ z⟩
  ·rw[Dy] at hk;obtain⟨ps,rfl,hk⟩:=Eu (show D6 _ _=some r from hk)
   obtain⟨cs,bs,hk,hl,XQ,hF,ET,Dr,Hy,Tg⟩:=Nv shr N hk;obtain⟨IM,H5⟩:=boxes Dr;refine⟨.agg cs,bs,hk,by rw[Ut];exact hl,by simp,fun Hh=>ET (R9 Hh).2,fun i hi=>?_,IM,fun w A own β' z j0 u hβ ho=>?_⟩
   ·obtain⟨c,hc,hi⟩:=List.mem_flatMap.1 (show i∈cs.flatMap Ai from hi)
    exact Hy c hc i hi
   ·obtain⟨vs,rfl,ho⟩:=ho;exact⟨⟨vs,rfl,Tg w A own β' j0 vs hβ ho⟩,H5 w A own β' j0 vs hβ ho z⟩
theorem Sl (shr:Bool)(N:Nat):∀{ts:List TypeId}{ps:List PV}{id:Nat}{K:List PV->List (Nat × A1)->Option R},Tk P shr N id ts ps K=some r ->
  ∃vs bs,K vs bs=some r∧vs.length=ps.length∧(∀v∈vs,∀x,v ≠ .tup x)∧(F6 P ts=false->bs=[]∧∀v∈vs,∀c∈cellsOf v,∃u,c=.sc u)∧(∀v∈vs,∀i∈Bf v,∃bx,(i,bx)∈bs)∧R7 bs ∧
   ∀(w:World) (A:Nat->Prop) (own β':Bt) (z j0:Nat) (us:List Value),(∀j,(∃bx,(id+N*j,bx)∈bs)->β' (id+N*j)=own (j0+j))->LW w A own z j0 ps us->Au (E2 w A β') vs us∧UP N id β' w A z (Ke ps) bs
 |[],ps,id,K,hk=>by
  obtain⟨rfl,hk⟩:=B5 hk;refine⟨[],[],hk,rfl,by simp,by simp,by simp,(by intro i cells hm;cases hm),fun w A own β' z j0 us _ h=>?_⟩
  cases us with
  |nil=>exact⟨trivial,by intro i bx hm;cases hm⟩
  |cons u us=>exact h.elim
 |t::ts,ps,id,K,hk=>by
  unfold Tk at hk;obtain⟨p,ps',Xk,Cn⟩:=Ap hk;subst Xk;clear hk;obtain⟨v,bs,hk,hl,VY,ET,XO,IM,hv⟩:=QU shr N Cn;obtain⟨vs,bs',hk,Ql,Ah2,Abx,hrs,Alo,Ga⟩:=Sl shr N hk;refine⟨v::vs,bs++bs',hk,by simp[Ql],?_,?_,?_,?_,fun w A own β' z j0 us hβ ho=>?_⟩
  ·intro x hx;rcases List.mem_cons.1 hx with rfl|hx
   ·exact VY
   ·exact Ah2 x hx
  ·intro Hh;simp only[F6,List.any_cons,Bool.or_eq_false_iff] at Hh;obtain⟨h1,h2⟩:=ET (by simp only[F6,List.any_cons,List.any_nil,Bool.or_false,Bool.or_eq_false_iff];exact Hh.1)
   obtain⟨h3,h4⟩:=Abx (by simp only[F6];exact Hh.2)
   refine⟨by rw[h1,h3];rfl,fun x hx=>?_⟩
   rcases List.mem_cons.1 hx with rfl|hx
   ·exact h2
   ·exact h4 x hx
  ·intro x hx i hi;rcases List.mem_cons.1 hx with rfl|hx
   ·obtain⟨bx,hm⟩:=XO i hi;exact⟨bx,by simp[hm]⟩
   ·obtain⟨bx,hm⟩:=hrs x hx i hi;exact⟨bx,by simp[hm]⟩
  ·intro i cells hm c hc i' CC;rcases List.mem_append.1 hm with hm|hm
   ·obtain⟨bx,hb⟩:=IM i cells hm c hc i' CC;exact⟨bx,by simp[hb]⟩
   ·obtain⟨bx,hb⟩:=Alo i cells hm c hc i' CC;exact⟨bx,by simp[hb]⟩
  ·cases us with
   |nil=>exact ho.elim
   |cons u us=>
    obtain⟨h1,Dr⟩:=hv w A own β' z j0 u (fun j ⟨bx,hm⟩=>hβ j ⟨bx,by simp[hm]⟩) ho.1
    have Ax:∀j,id+N*EN P t+N*j=id+N*(EN P t+j):=fun j=>by rw[Nat.mul_add];omega
    obtain⟨h2,Hy⟩:=Ga w A own β' z (j0+PQ p) us (fun j ⟨bx,hm⟩=>by rw[Ax,hβ _ ⟨bx,by rw[←Ax];simp[hm]⟩,hl];congr 1;omega) ho.2
    refine⟨⟨h1,h2⟩,fun i bx hm=>?_⟩
    rcases List.mem_append.1 hm with hm|hm
    ·obtain⟨⟨j,hj,hjn⟩,h4,h5⟩:=Dr i bx hm;exact⟨⟨j,hj,by simp only[Ke,List.map_cons,List.sum_cons];omega⟩,h4,h5⟩
    ·obtain⟨⟨j,hj,hjn⟩,h4,h5⟩:=Hy i bx hm;refine⟨⟨_,by rw[hj,Ax],?_⟩,h4,h5⟩
     simp only[Ke,List.map_cons,List.sum_cons] at hjn ⊢;omega
def Uk (N d:Nat)(bs:List (Nat × A1)) (own β:Bt):Bt:=fun i=>if (bs.any fun q=>Nat.beq q.1 i)=true then own ((i-d) / N) else β i
theorem AC {bs:List (Nat × A1)} {i:Nat}:(bs.any fun q=>Nat.beq q.1 i)=true↔∃bx,(i,bx)∈bs:=by
 rw[List.any_eq_true];constructor
 ·rintro⟨⟨j,bx⟩,hm,e⟩
  have:=Nat.eq_of_beq_eq_true e;subst this;exact⟨bx,hm⟩
 ·rintro⟨bx,hm⟩
  exact⟨_,hm,Nat.beq_refl i⟩
theorem MQ {N d j:Nat}(hN:0<N){bs:List (Nat × A1)} {own β:Bt}(h:∃bx,(d+N*j,bx)∈bs):Uk N d bs own β (d+N*j)=own j:=by
 unfold Uk;rw[if_pos (AC.2 h),Nat.add_sub_cancel_left,Nat.mul_div_cancel_left _ hN]
theorem EP {c:Call}{f:FuncId}(ho:o.op=.call c)(hc:c.callee=.value (.func f)) (Hg:NoNG P){fn:Func}(hf:P.funcs[f]?=some fn) (hb:fn.body.isSome=true):
  (execOp a.eval o).run P w=.ok (.enter f (c.args.map a.eval)) w:=by
 unfold execOp;rw[ho]
 have hn:¬fn.body=none:=by
  intro h;rw[h] at hb;cases hb
 have Hh:¬fn.name = "runtime.NumGoroutine" :=by simpa using Hg f fn hf
 simp[resolve,hc,Act.eval,Deferred.ofValue,invoke,callFunc,hf,Hh,hn]
theorem OC {c:Call}{t:Nat}{f:FuncId}(ho:o.op=.call c)(hc:c.callee=.value (.tmp t)) (ht:a.eval (.tmp t)=.func (.func f) #[] #[]) (Hg:NoNG P){fn:Func}(hf:P.funcs[f]?=some fn) (hb:fn.body.isSome=true):
  (execOp a.eval o).run P w=.ok (.enter f (c.args.map a.eval)) w:=by
 unfold execOp;rw[ho]
 have hn:¬fn.body=none:=by
  intro h;rw[h] at hb;cases hb
 have Hh:¬fn.name = "runtime.NumGoroutine" :=by simpa using Hg f fn hf
 simp[resolve,hc,ht,Deferred.ofValue,invoke,callFunc,hf,Hh,hn]
theorem Te {A':Nat->Prop}(k:Bool):∀{xs:List Operand}{ps:List PV},Au (Lf w A') ps (xs.map a.eval)->Au (Lf w A') (Gd k xs ps) (xs.map a.eval)
 |[],[],h=>h
 |[],_::_,h=>h
 |_::_,[],h=>h
 |x::xs,p::ps,h=>by
  simp only[List.map_cons] at h ⊢;refine⟨?_,Te k h.2⟩;split
  ·exact⟨trivial,Ao.lnil _ _⟩
  ·exact h.1
theorem Vz (h : Br N w0 X0 Y β s a w) {G : Glo} (Hg : ES P G w0 X0) {C : Et} {call : Aj} (Cj : ∀ f args res, call f args = some res -> De G P f args res) {c : Call} {f : FuncId} (Bp : ∀ {fn : Func}, P.funcs[f]? = some fn -> fn.body.isSome = true -> (execOp a.eval o).run P w = .ok (.enter f (c.args.map a.eval)) w)
    {K : PV -> List Nat -> List (Nat × A1) -> Option R}
    (hk : (Wz P (Gj s.hp) (V4 P f c) (c.args.toList.map (A7 s.tm)) fun vs m =>
          As (call f (Gd (C.kz f) c.args.toList vs)) fun rv ro => Ah ro (Ar (Nat.blt 0 N) <| Tk P (C.shr f) N (o.dst.getD 0) (I4 P o.type) rv fun ws bs =>
            Ar (bif J2 P o.type then !Nat.beq ws.length 1 else Nat.beq ws.length 1) <| K (Ix ws (J2 P o.type)) (bif F6 P (I4 P o.type) then m else []) bs)) = some r) : ∃ v fz nw, K v fz nw = some r ∧ Wn P a w o Y β s v fz nw := by
  obtain⟨ps, m, hk, hm, C4⟩ := Zw h hk
  replace C4 := fun fz h1 h2 => Te (a := a) (C.kz f) (C4 fz h1 h2)
  generalize Gd (C.kz f) c.args.toList ps = ps at hk C4
  obtain⟨rv, ro, Kc, hk⟩ := Yd hk
  obtain⟨rfl, hk⟩ := B5 hk
  obtain⟨hN, hk⟩ := Ae hk
  have hN : 0 < N := Nat.lt_of_succ_le (Nat.le_of_ble_eq_true hN)
  obtain⟨ws, bs, hk, hwl, VY, ET, hrs, IM, hws⟩ := Sl (C.shr f) N hk
  obtain⟨Km, hk⟩ := Ae hk
  obtain⟨⟨fn, hfn, hfb⟩, O6⟩ := Cj f ps _ Kc
  obtain⟨fz, Md, hfm⟩ : ∃ fz : List Nat, fz = (bif F6 P (I4 P o.type) then m else []) ∧ ∀ id ∈ fz, ∃ f c, s.hp id = some (.ar f c) := by
    refine⟨_, rfl, fun id Ax => ?_⟩
    cases hh : F6 P (I4 P o.type) <;> rw[hh] at Ax
    · cases Ax
    · exact hm id Ax
  rw[← Md] at hk
  refine⟨_, _, _, hk, hfm, fun next Q hn => ?_⟩
  have hf := h.freeze hfm
  have hYc : ∃ Yc : Nat -> Prop, (∀ b, Yc b -> b < w.heap.size) ∧ Au (Lf w Yc) ps (c.args.toList.map a.eval) ∧ ((∀ b, Bz (Ac s.hp fz) β Y b -> Yc b) ∨ F6 P (I4 P o.type) = false) := by
    have Jm := C4 m (fun _ hi => hi) hm
    cases hh : F6 P (I4 P o.type)
    · exact⟨fun _ => False, fun _ x => x.elim, Jm.mono fun _ _ hx => hx.weaken (fun _ _ x => x.elim), .inr rfl⟩
    · rw[hh] at Md
      have Md : fz = m := Md
      subst Md
      refine⟨Bz (Ac s.hp fz) β Y, fun b hb => ?_, Jm, .inl fun _ x => x⟩
      rcases hb with⟨id, ob, hl, hβ⟩ | hY
      · exact hf.blt id b ob (Bs hl) hβ
      · exact Nat.lt_of_lt_of_le (h.Ylt b hY) h.fr.step.size
  obtain⟨Yc, Alw, hYargs, hYA⟩ := hYc
  unfold Oper.wp
  rw[Bp hfn hfb]
  show Calls P f _ w _
  have hca : c.args.map a.eval = (c.args.toList.map a.eval).toArray := by rw[← List.map_toArray, Array.toArray_toList]
  rw[hca]
  refine (O6 w Yc RF _ (CZ Alw hYargs) (Hg.fr w h.fr) (fun b x => ⟨Nat.lt_of_lt_of_le (Hg.y b x).1 h.fr.step.size, Wp b⟩)).mono ?_
  rintro e w' ⟨vs, own, rfl, BS⟩
  refine hn (Fq vs) w' fun Kf => ⟨Uk N (o.dst.getD 0) bs own β, ?_⟩
  obtain⟨ZY, ha2⟩ := Aw Kf
  have UM : ∀ i bx, (i, bx) ∈ bs -> Ac s.hp fz i = none := fun i bx hm => Ch.2 (ZY i bx hm)
  obtain⟨WD, hg2⟩ := Cr (hp := Ac s.hp fz) ha2
  have hold : ∀ i, Ac s.hp fz i ≠ none -> Uk N (o.dst.getD 0) bs own β i = β i := by
    intro i hi
    unfold Uk
    rw[if_neg]
    intro hx
    obtain⟨bx, hm⟩ := AC.1 hx
    exact hi (UM i bx hm)
  obtain⟨Ga, hba⟩ := hws w' _ own (Uk N (o.dst.getD 0) bs own β) w.heap.size 0 vs (fun j hj => by rw[MQ hN hj, Nat.zero_add]) BS.vals
  have Pt : ∀ i bx, (i, bx) ∈ bs -> ∃ j, i = o.dst.getD 0 + N * j ∧ Uk N (o.dst.getD 0) bs own β i = own j := by
    intro i bx hm
    obtain⟨⟨j, rfl, _⟩, _, _⟩ := hba i bx hm
    exact⟨j, rfl, MQ hN ⟨bx, hm⟩⟩
  have hAA : F6 P (I4 P o.type) = false ∨ ∀ b, Bz (Ak (Ac s.hp fz) bs) (Uk N (o.dst.getD 0) bs own β) Y b -> R2 RF own Yc b := by
    rcases hYA with hYA | hYA
    · refine .inr fun b hb => ?_
      rcases hb with⟨i, ob, hl, hβ⟩ | hY
      · by_cases hi : ∃ bx, (i, bx) ∈ bs
        · obtain⟨bx, hm⟩ := hi
          obtain⟨j, _, h3⟩ := Pt i bx hm
          rw[h3] at hβ
          exact .inl ⟨j, ob, hβ⟩
        · rw[hg2 i (fun bx hm => hi ⟨bx, hm⟩)] at hl
          rw[hold i (Bs hl)] at hβ
          exact .inr (.inr (hYA b (.inl ⟨i, ob, hl, hβ⟩)))
      · exact .inr (.inr (hYA b (.inr hY)))
    · exact .inl hYA
  have hval : Cu w' (Bz (Ak (Ac s.hp fz) bs) (Uk N (o.dst.getD 0) bs own β) Y) (Uk N (o.dst.getD 0) bs own β) (Ix ws (J2 P o.type)) (Fq vs) := by
    have Jm : Au (E2 w' (Bz (Ak (Ac s.hp fz) bs) (Uk N (o.dst.getD 0) bs own β) Y) (Uk N (o.dst.getD 0) bs own β)) ws vs := by
      rcases hAA with FU | hAA
      · obtain⟨_, HA⟩ := ET FU
        refine Ga.mono_mem fun v hv u hvu => ?_
        have HA := HA v hv
        cases v with
        | agg cs =>
          obtain⟨xs, rfl, Xj⟩ := hvu
          refine⟨xs, rfl, Xj.mono_mem fun cc SS x hx => ?_⟩
          obtain⟨y, rfl⟩ := HA cc SS
          have := Ao.val (w := w') hx
          subst this
          exact Ao.sc _
        | sc y =>
          have := Ao.val (w := w') hvu
          subst this
          exact Ao.sc _
        | lst z es n cc => obtain⟨y, hy⟩ := HA _ (List.mem_singleton_self _); cases hy
        | own es n cc => obtain⟨y, hy⟩ := HA _ (List.mem_singleton_self _); cases hy
        | view i es n cc => obtain⟨y, hy⟩ := HA _ (List.mem_singleton_self _); cases hy
        | ptr i cc => obtain⟨y, hy⟩ := HA _ (List.mem_singleton_self _); cases hy
        | iptr i cc => obtain⟨y, hy⟩ := HA _ (List.mem_singleton_self _); cases hy
        | pbox cc => obtain⟨y, hy⟩ := HA _ (List.mem_singleton_self _); cases hy
        | tup cc => obtain⟨y, hy⟩ := HA _ (List.mem_singleton_self _); cases hy
        | top => obtain⟨y, hy⟩ := HA _ (List.mem_singleton_self _); cases hy
        | ub => obtain⟨y, hy⟩ := HA _ (List.mem_singleton_self _); cases hy
      · exact Ga.mono fun v u hvu => hvu.step (Bb.refl _ _) (fun b _ => hAA b) (fun _ _ => rfl)
    have C3 := Jm.len
    cases hT : J2 P o.type
    · rw[hT] at Km
      have h1 : ws.length = 1 := Nat.eq_of_beq_eq_true Km
      match ws, vs, h1, C3 with
      | [v], [u], _, _ =>
        exact (Ly (VY v (by simp))).2 Jm.1
    · rw[hT] at Km
      have h1 : ¬ ws.length = 1 := by
        intro e
        rw[e] at Km
        cases Km
      have hr : Fq vs = .tuple ⟨vs⟩ := by
        unfold Fq
        split
        · simp at C3; omega
        · rfl
      rw[hr]
      exact⟨vs, rfl, Jm⟩
  refine⟨BS.os, BS.tape, BS.output, BS.ext.weaken (fun b _ hb => Wp b hb), hold, ?_, ?_, ?_, ?_, ?_, hval, ?_⟩
  · intro i bx hm
    exact (hba i bx hm).2.1
  · intro i bx hm
    rcases hAA with FU | hAA
    · rw[(ET FU).1] at hm; cases hm
    · exact (hba i bx hm).2.2.1.step' hAA
  · intro i bx b ob hm hβ
    obtain⟨j, _, h3⟩ := Pt i bx hm
    rw[h3] at hβ
    obtain⟨h4, h5⟩ := BS.fresh j b ob hβ
    refine⟨?_, h4⟩
    rcases Nat.lt_or_ge b w.heap.size with h | h
    · obtain⟨⟨_, _, _, h6⟩, _⟩ := h5 h
      cases h6
    · exact h
  · intro i bx i' bx' b ob ob' hm Ii hβ hβ'
    obtain⟨j, h1, h3⟩ := Pt i bx hm
    obtain⟨j', Wa, h3'⟩ := Pt i' bx' Ii
    rw[h3] at hβ
    rw[h3'] at hβ'
    rw[h1, Wa, BS.inj j j' b ob ob' hβ hβ']
  · intro i cells hm c hc i' CC
    exact .inr (IM i cells hm c hc i' CC)
  · intro i hi
    right
    cases hT : J2 P o.type
    · rw[hT] at Km hi
      have h1 : ws.length = 1 := Nat.eq_of_beq_eq_true Km
      match ws, h1 with
      | [v], _ =>
        refine hrs v (by simp) i ?_
        have : A5 v = Bf v := by
          have hn := VY v (by simp)
          cases v <;> first | rfl | exact absurd rfl (hn _)
        rw[← this]
        exact hi
    · rw[hT] at hi
      obtain⟨v, hv, hi⟩ := List.mem_flatMap.1 (show i ∈ ws.flatMap Bf from hi)
      exact hrs v hv i hi
end
open Go.RowKit
section
variable {R:Type} {r:R} {P:Program} {N:Nat} {w0:World} {X0:E6} {Y:Nat->Prop} {β β':Bt} {s:St} {a:Act} {w w':World} {o:Oper} {A:Nat->Prop}
theorem Br.move (h:Br N w0 X0 Y β s a w){id d:Nat}{c cells:List PV}{bo:Option (Nat × Nat)} {v:PV}{val:Value}(h0:s.hp id=some (.ar false c)) (hd:s.hp d=none)(QK:d<N)
  (hos:w'.os=w.os)(htp:w'.tape=w.tape)(BS:w'.output=w.output)(FT:w.heap.size<=w'.heap.size)
  (Hp:∀k,k<w.heap.size->(∀x,β id≠some (k,x))->w'.heap[k]?=w.heap[k]?) (Xg:∀k,k<w.heap.size->Gb w w' k)
  (BV:∀k x,bo=some (k,x)->k<w'.heap.size∧(w.heap.size<=k∨∃y,β id=some (k,y)))
  (CY:∀k x,bo=some (k,x)->k<w.heap.size->β id=some (k,x))
  (hO:∀k y,β id=some (k,y)->k<w.heap.size->∀j,j<y->w'.cell? ⟨k,j,none⟩=w.cell? ⟨k,j,none⟩∧w'.frozen? ⟨k,j,none⟩=w.frozen? ⟨k,j,none⟩)
  (H5:L0 w' (Bz (Bg (Bg s.hp id (some .mv)) d (some (.ar false cells))) (Bg β d bo) Y) (Bg β d bo) d (.ar false cells))
  (hv:Cu w' (Bz (Bg (Bg s.hp id (some .mv)) d (some (.ar false cells))) (Bg β d bo) Y) (Bg β d bo) v val) (hr:∀i∈A5 v,i=d):
  Br N w0 X0 Y (Bg β d bo) ⟨Bg s.tm d v,Bg (Bg s.hp id (some .mv)) d (some (.ar false cells))⟩ (a.put (some d) val) w':=by
 have Hh:id≠d:=by rintro rfl;rw[h0] at hd;cases hd
 have F4:∀i,i≠id->i≠d->Bg (Bg s.hp id (some A1.mv)) d (some (.ar false cells)) i=s.hp i:=fun i h1 h2=>by rw[Ad _ _ h2,Ad _ _ h1]
 have Aad:Bg (Bg s.hp id (some A1.mv)) d (some (.ar false cells)) id=some .mv:=by rw[Ad _ _ Hh,Af]
 have hgd:Bg (Bg s.hp id (some A1.mv)) d (some (.ar false cells)) d=some (.ar false cells):=Af _ _ _
 have Es:∀i,s.hp i≠none->Bg (Bg s.hp id (some A1.mv)) d (some (.ar false cells)) i≠none:=by
  intro i hi;by_cases e:i=id
  ·subst e;rw[Aad];simp
  ·by_cases e':i=d
   ·subst e';rw[hgd];simp
   ·rw[F4 i e e'];exact hi
 have hβo:∀i,s.hp i≠none->Bg β d bo i=β i:=fun i hi=>Ad _ _ (by rintro rfl;exact hi hd)
 have FF:Bx (s.hp id):=by rw[h0];trivial
 have Ed:∀i,Bx (Bg (Bg s.hp id (some A1.mv)) d (some (.ar false cells)) i)->i=d∨(i≠id∧i≠d∧Bx (s.hp i)):=by
  intro i hi;by_cases e':i=d
  ·exact .inl e'
  ·by_cases e:i=id
   ·subst e;rw[Aad] at hi;exact hi.elim
   ·rw[F4 i e e'] at hi;exact .inr ⟨e,e',hi⟩
 have hX:∀k,k<w.heap.size->BK (Bg (Bg s.hp id (some .mv)) d (some (.ar false cells))) (Bg β d bo) k->BK s.hp β k:=by
  rintro k hk ⟨i,x,hl,hβ⟩
  rcases Ed i hl with rfl|⟨e,e',hl⟩
  ·rw[Af] at hβ;rcases (BV k x hβ).2 with Hx|⟨y,hy⟩
   ·omega
   ·exact⟨id,y,FF,hy⟩
  ·rw[Ad _ _ e'] at hβ;exact⟨i,x,hl,hβ⟩
 have hAo:∀k,k<w.heap.size->Bz (Bg (Bg s.hp id (some .mv)) d (some (.ar false cells))) (Bg β d bo) Y k->Bz s.hp β Y k:=fun k hk hx=>hx.imp (hX k hk) (fun y=>y)
 have Jf:Bb (Bz s.hp β Y) w w':=⟨FT,fun k hk hn=>Hp k hk fun x hx=>hn (.inl ⟨id,x,FF,hx⟩),Xg⟩
 have TE:∀i k x,i≠id->i≠d->(∃b,s.hp i=some b∧b ≠ .mv)->β i=some (k,x)->k<w.heap.size∧w'.heap[k]?=w.heap[k]?:=by
  rintro i k x e e' ⟨b,hb,hmv⟩ hβ
  have hk:=h.blt i k x (by rw[hb];simp) hβ
  refine⟨hk,Hp k hk fun y hy=>?_⟩
  have OR:=h.box i b hb;cases b with
  |st cc=>exact e (h.inj i id k x y (by rw[hb];trivial) FF hβ hy)
  |ar fz cc=>
   cases fz with
   |false=>exact e (h.inj i id k x y (by rw[hb];trivial) FF hβ hy)
   |true=>
    rcases OR with⟨h1,_⟩|⟨k',x',h1,_,_,h4⟩
    ·rw[hβ] at h1;cases h1
    ·rw[hβ] at h1;simp at h1;obtain⟨rfl,rfl⟩:=h1
     exact h4 rfl (.inl ⟨id,y,FF,hy⟩)
  |mv=>exact absurd rfl hmv
 refine⟨by rw[Lr];exact h.dfr,by rw[Qb];exact h.tsz,?_,?_,?_,?_,?_,?_,?_,?_,?_,?_,?_,?_,h.Ylt,?_⟩
 ·intro i hi;show Bg s.tm d v i=_;rw[Ad _ _ (by omega)]
  exact h.tmo i hi
 ·refine Jp (d:=some d) (Q:=fun _ p u=>Cu w' (Bz (Bg (Bg s.hp id (some .mv)) d (some (.ar false cells))) (Bg β d bo) Y) (Bg β d bo) p u) h.tsz (by simp[D3,Nat.blt];omega) (fun i hi=>?_) (fun _=>hv)
  exact (h.tms i hi).step Jf hAo fun j hj=>hβo j (h.wfT i hi j hj)
 ·intro i bi hb;simp only at hb;by_cases e':i=d
  ·subst e';rw[hgd] at hb;cases hb;exact H5
  ·by_cases e:i=id
   ·subst e;rw[Aad] at hb;cases hb;trivial
   ·rw[F4 i e e'] at hb;have hβi:=hβo i (by rw[hb];simp)
    have Ui:=h.box i bi hb;cases bi with
    |st cc=>
     obtain⟨k,x,h1,h2,h3⟩:=Ui;obtain⟨hk,Rr⟩:=TE i k x e e' ⟨_,hb,by simp⟩ h1
     refine⟨k,x,by rw[hβi];exact h1,fun j p hj=>?_,fun j hj=>?_⟩
     ·obtain⟨u,hu,hc⟩:=h2 j p hj;exact⟨u,by rw[World.cell?_of_block (w:=w) Rr];exact hu,hc.step Jf hAo fun q hq=>hβo q (h.wfB i cc hb p (List.mem_of_getElem? hj) q hq)⟩
     ·rw[World.frozen?_of_block (w:=w) Rr];exact h3 j hj
    |ar fz cc=>
     rcases Ui with⟨h1,h2⟩|⟨k,x,h1,h2,h3,h4⟩
     ·exact .inl ⟨by rw[hβi];exact h1,h2⟩
     ·obtain⟨hk,Rr⟩:=TE i k x e e' ⟨_,hb,by simp⟩ h1
      refine .inr ⟨k,x,by rw[hβi];exact h1,fun j p hj=>?_,fun ef j hj Jh=>?_,fun ef hx=>h4 ef (hAo k hk hx)⟩
      ·obtain⟨u,hu,h5,hc⟩:=h2 j p hj;exact⟨u,by rw[World.cell?_of_block (w:=w) (by rw[Dv];exact Rr)];exact hu,h5,hc.step Jf hAo⟩
      ·rw[World.frozen?_of_block (w:=w) Rr];refine h3 ef j hj ?_;unfold bsz at Jh ⊢;rw[Rr] at Jh;exact Jh
    |mv=>trivial
 ·intro i i' k x y hl Gl hb E1;simp only at hl Gl
  have key:∀j z,j≠id->j≠d->Bx (s.hp j)->β j=some (k,z)->bo=some (k,y)∨bo=some (k,x)->False:=by
   intro j z e e' WL hβj YS;have hk:=h.blt j k z (Bs WL) hβj;have:∃t,bo=some (k,t):=by rcases YS with q|q<;>exact⟨_,q⟩
   obtain⟨t,ht⟩:=this;rcases (BV k t ht).2 with Hx|⟨q,hq⟩
   ·omega
   ·exact e (h.inj j id k z q WL FF hβj hq)
  rcases Ed i hl with rfl|⟨e,e',UL⟩
  ·rcases Ed i' Gl with rfl|⟨e2,e2',Adz⟩
   ·rfl
   ·rw[Af] at hb;rw[Ad _ _ e2'] at E1;exact (key i' y e2 e2' Adz E1 (.inr hb)).elim
  ·rcases Ed i' Gl with rfl|⟨e2,e2',Adz⟩
   ·rw[Af] at E1;rw[Ad _ _ e'] at hb;exact (key i x e e' UL hb (.inl E1)).elim
   ·rw[Ad _ _ e'] at hb;rw[Ad _ _ e2'] at E1;exact h.inj i i' k x y UL Adz hb E1
 ·intro i k x hi hb;simp only at hi;by_cases e':i=d
  ·subst e';rw[Af] at hb;exact (BV k x hb).1
  ·rw[Ad _ _ e'] at hb
   have CC:s.hp i≠none:=by
    by_cases e:i=id
    ·subst e;rw[h0];simp
    ·rw[F4 i e e'] at hi;exact hi
   exact Nat.lt_of_lt_of_le (h.blt i k x CC hb) FT
 ·have:=Jp (d:=some d) (Q:=fun _ p _=>∀j∈A5 p,Bg (Bg s.hp id (some A1.mv)) d (some (.ar false cells)) j≠none) (val:=val) (v:=v) h.tsz (by simp[D3,Nat.blt];omega) (fun i hi j hj=>Es j (h.wfT i hi j hj)) (fun _ j hj=>by
   rw[hr j hj,hgd];simp)
  exact this
 ·intro i cc hc p hp j hj;simp only at hc;by_cases e':i=d
  ·subst e';rw[hgd] at hc;cases hc
  ·by_cases e:i=id
   ·subst e;rw[Aad] at hc;cases hc
   ·rw[F4 i e e'] at hc;exact Es j (h.wfB i cc hc p hp j hj)
 ·rintro k ⟨i,x,hl,hβ⟩
  rcases Ed i hl with rfl|⟨e,e',hl⟩
  ·rw[Af] at hβ;rcases (BV k x hβ).2 with Hx|⟨y,hy⟩
   ·exact .inr (Nat.le_trans h.fr.step.size Hx)
   ·exact h.ownd k ⟨id,y,FF,hy⟩
  ·rw[Ad _ _ e'] at hβ;exact h.ownd k ⟨i,x,hl,hβ⟩
 ·intro i bi k x Ui hli hβ Bl j hj;simp only at Ui;rcases Ed i (by rw[Ui];exact hli) with rfl|⟨e,e',hl⟩
  ·rw[Af] at hβ;rw[hgd] at Ui;cases Ui;have:=CY k x hβ (Nat.lt_of_lt_of_le Bl h.fr.step.size);exact h.rngB id (.ar false c) k x h0 trivial this Bl j hj
  ·rw[F4 i e e'] at Ui;rw[Ad _ _ e'] at hβ;exact h.rngB i bi k x Ui hli hβ Bl j hj
 ·intro i hi;exact⟨Es _ (h.pin i hi).1,by rw[hβo _ (h.pin i hi).1];exact (h.pin i hi).2⟩
 ·intro i cc k x Ui hβ Bl;simp only at Ui;rcases Ed i (by rw[Ui];trivial) with rfl|⟨e,e',hl⟩
  ·rw[hgd] at Ui;cases Ui
  ·rw[F4 i e e'] at Ui;rw[Ad _ _ e'] at hβ;exact h.stp i cc k x Ui hβ Bl
 ·intro k hY hx;exact h.Yx k hY (hX k (Nat.lt_of_lt_of_le (h.Ylt k hY) h.fr.step.size) hx)
 ·refine⟨hos.trans h.fr.os,htp.trans h.fr.tape,BS.trans h.fr.output,⟨Nat.le_trans h.fr.step.size FT,fun k hk hnk=>?_,fun k hk=>(h.fr.step.bs k hk).trans (Xg k (Nat.lt_of_lt_of_le hk h.fr.step.size))⟩,fun k j hk hL=>?_⟩
  ·rw[Hp k (Nat.lt_of_lt_of_le hk h.fr.step.size) ?_]
   ·exact h.fr.step.keep k hk hnk
   ·intro x hx;rcases h.ownd k ⟨id,x,FF,hx⟩ with hq|hq
    ·exact hnk hq
    ·omega
  ·have hkw:=Nat.lt_of_lt_of_le hk h.fr.step.size
   have S2:w'.cell? ⟨k,j,none⟩=w.cell? ⟨k,j,none⟩∧w'.frozen? ⟨k,j,none⟩=w.frozen? ⟨k,j,none⟩:=by
    by_cases e:∃y,β id=some (k,y)
    ·obtain⟨y,hy⟩:=e;refine hO k y hy hkw j ?_;rcases Nat.lt_or_ge j y with q|q
     ·exact q
     ·exact absurd (h.rngB id (.ar false c) k y h0 trivial hy hk j q) hL
    ·have Rr:=Hp k hkw (fun x hx=>e ⟨x,hx⟩)
     exact⟨World.cell?_of_block (w:=w) Rr,World.frozen?_of_block (w:=w) Rr⟩
   rw[S2.1,S2.2];exact h.fr.rng k j hk hL
end
open Go.RowKit
section
variable {R:Type} {r:R} {P:Program} {N:Nat} {w0:World} {X0:E6} {Y:Nat->Prop} {β β':Bt} {s:St} {a:Act} {w w':World} {o:Oper} {A:Nat->Prop}
structure Src (P:Program) (w:World) (A:Nat->Prop) (size:Nat) (xv:Value) (m:Nat) (new:List PV) (news:List Value):Prop where
 len:∀w':World,(Builtin.lenOf xv).run P w'=.ok m w'
 cells:∀w':World,(∀b,b<w.heap.size->w'.heap[b]?=w.heap[b]?)->(Builtin.firstCells size m xv).run P w'=.ok news.toArray w'
 part:∀k,k<=m->(Builtin.firstCells size k xv).run P w=.ok (news.take (k*size)).toArray w
 one:∀u∈news,u.oneCell'=true
 rep:Au (Ao w A) new news
theorem Vm (h:Br N w0 X0 Y β s a w){e tx:TypeId}{x:Operand}{K:Nat->List PV->Option R}(hk:IQ P s (Aq P e) tx (A7 s.tm x) K=some r)
  (h1c:∀m new,K m new=some r->new.length=m*Aq P e):
  (∃d,P.underlying tx=some d∧(∀k,d ≠ .int k))∧∃m new news,K m new=some r∧Src P w (Bz s.hp β Y) (Aq P e) (a.eval x) m new news:=by
 unfold IQ IY at hk;split at hk
 ·rename_i hu;obtain⟨Ra,hk⟩:=Ae hk;have Ra:=Nat.eq_of_beq_eq_true Ra;obtain⟨b,hx,hk⟩:=Cb hk;have B0:=Bi h hx;refine⟨⟨_,hu,by simp⟩,b.size,Eb b,b.data.toList.map (fun y=>Value.int .u8 y.toNat),hk,?_,?_,?_,?_,?_⟩
  ·intro w';rw[B0];rfl
  ·intro w' _;rw[B0]
   have hx:b.data.extract 0 b.size=b.data:=by
    have:b.size=b.data.size:=rfl;rw[this,Array.extract_size]
   have hd:(b.extract 0 b.size).data=b.data:=by
    rw[ByteArray.extract_zero_size]
   simp only[Builtin.firstCells,hd];rw[←Array.toList_map,Array.toArray_toList];rfl
  ·intro k Hx;rw[B0,Ra,Nat.mul_one];have hd:(b.extract 0 k).data=b.data.extract 0 k:=ByteArray.data_extract
   have e1:(b.data.extract 0 k).map (fun y=>Value.int .u8 y.toNat)=((b.data.toList.map fun y=>Value.int .u8 y.toNat).take k).toArray:=by
    apply Array.toList_inj.1;simp[List.map_take]
   simp only[Builtin.firstCells,hd];rw[e1];rfl
  ·intro u hu;simp at hu;obtain⟨y,_,rfl⟩:=hu;rfl
  ·unfold Eb;generalize b.data.toList=l
   induction l with
   |nil=>trivial
   |cons y l ih=>exact⟨Ao.sc _,ih⟩
 ·rename_i e' hu;refine⟨⟨_,hu,by simp⟩,?_⟩
  obtain⟨m,new,hk,hc⟩:=FM h hk;have C3:=h1c m new hk;rcases hc with⟨⟨ad,B0⟩,rfl,rfl⟩|⟨ad,cap,B0,hn,Bl,hrd⟩
  ·have f0:∀w':World,(Builtin.firstCells (Aq P e) 0 (.slice ad 0 0)).run P w'=.ok #[] w':=fun w'=>by
    cases ad with
    |none=>rfl
    |some p=>exact run_firstCells_some (P:=P) w' (Aq P e) 0 p 0 0 [] (by simp) (fun j v hj=>by simp at hj)
   exact⟨0,[],[],hk,fun w'=>by rw[B0];rfl,fun w' _=>by rw[B0];exact f0 w',fun k Hx=>by rw[B0,Nat.le_zero.1 Hx,List.take_nil];exact f0 w,by simp,trivial⟩
  ·refine⟨m,new,new.mapIdx (fun j _=>(w.cell? (ad.add j)).getD undef),hk,fun w'=>by rw[B0];rfl,fun w' hw=>?_,fun k Hx=>?_,?_,?_⟩
   ·rw[B0];refine run_firstCells_some (P:=P) w' (Aq P e) m ad m cap _ (by simp[C3]) fun j v hj=>?_
    rw[List.getElem?_mapIdx] at hj;cases hc:new[j]? with
    |none=>rw[hc] at hj;cases hj
    |some c=>
     rw[hc] at hj;simp at hj;obtain⟨u,hu,_⟩:=hrd j c hc;rw[hu] at hj;simp at hj;subst hj;have Bl:ad.block<w.heap.size:=by rcases Bl with rfl|Bl<;>first|exact Bl|simp at hc
     rw[World.cell?_of_block (w:=w) (by rw[Dv];exact hw _ Bl)]
     exact hu
   ·rw[B0];have XG:k*Aq P e<=m*Aq P e:=Nat.mul_le_mul_right _ Hx;refine run_firstCells_some (P:=P) w (Aq P e) k ad m cap _ (by rw[List.length_take,List.length_mapIdx,C3];omega) fun j v hj=>?_
    rw[List.getElem?_take] at hj;split at hj
    ·rw[List.getElem?_mapIdx] at hj;cases hc:new[j]? with
     |none=>rw[hc] at hj;cases hj
     |some c=>
      rw[hc] at hj;simp at hj;obtain⟨u,hu,_⟩:=hrd j c hc;rw[hu] at hj;simp at hj;subst hj;exact hu
    ·cases hj
   ·intro u hu;obtain⟨j,hj⟩:=List.mem_iff_getElem?.1 hu;rw[List.getElem?_mapIdx] at hj;cases hc:new[j]? with
    |none=>rw[hc] at hj;cases hj
    |some c=>
     rw[hc] at hj;simp at hj;obtain⟨v,hv,h2,ht⟩:=hrd j c hc;rw[hv] at hj;simp at hj;subst hj;exact h2
   ·refine Au.of_at (by simp) fun j c v hc hj=>?_
    rw[List.getElem?_mapIdx,hc] at hj;simp at hj;obtain⟨u,hu,_,ht⟩:=hrd j c hc;rw[hu] at hj;simp at hj;subst hj;exact ht
 ·cases hk
theorem Wv {e:TypeId}(h:CE P e=true):∃i z,P.info? e=some i∧i.zero=some z∧z.cells.size=i.size∧Aq P e=i.size:=by
 unfold CE at h;split at h
 ·rename_i i hi;split at h
  ·rename_i z hz;exact⟨i,z,hi,hz,Nat.eq_of_beq_eq_true h,by simp[Aq,hi]⟩
  ·cases h
 ·cases h
theorem run_first_slice {es n cap:Nat}{ad:Option Addr}{olds:List Value}(h:(ad=none∧olds=[])∨∃p,ad=some p∧olds.length=n*es∧∀(j:Nat) v,olds[j]?=some v->w.cell? (p.add j)=some v):
  (Builtin.firstCells es n (.slice ad n cap)).run P w=.ok olds.toArray w:=by
 rcases h with⟨rfl,rfl⟩|⟨p,rfl,hl,hc⟩
 ·rfl
 ·exact run_firstCells_some (P:=P) w es n p n cap olds hl hc
theorem append_grow_run {t tx ty e:TypeId}{i:TypeInfo}{z:Value}{d:TypeDesc}{ts:List TypeId}(ht:P.underlying t=some (.slice e)) (PS:P.underlying tx=some d)(hd:∀k,d ≠ .int k)(hi:P.info? e=some i)(hz:i.zero=some z)
  {ad:Option Addr} {n cap m:Nat} {xv:Value} {olds news:List Value} {A:Nat->Prop} {new:List PV} (hs:Src P w A i.size xv m new news)
  (hold:(ad=none∧olds=[])∨∃p,ad=some p∧olds.length=n*i.size∧∀(j:Nat) v,olds[j]?=some v->w.cell? (p.add j)=some v)
  (hg:cap<n+m)(hb:(n+m)*i.bytes<=1099511627776) (h63:n+m<=1099511627776):
  (Builtin.append_ (t::tx::ts).toArray ty #[.slice ad n cap,xv]).run P w =
   .ok (.slice (some ⟨w.heap.size,0,none⟩) (n+m) (grownCap w (n+m) cap e)) (w.drew.alloc (.cells (olds.toArray++news.toArray++Builtin.zeroCells z.cells (grownCap w (n+m) cap e-(n+m))) e)):=by
 have h1:=hs.len w;have h2:(Builtin.firstCells i.size m xv).run P w.drew=.ok news.toArray w.drew:=hs.cells w.drew (fun _ _=>rfl)
 have h3:(Builtin.firstCells i.size n (.slice ad n cap)).run P w.drew=.ok olds.toArray w.drew:=run_first_slice (w:=w.drew) (by
  rcases hold with hh|⟨p,hp,hl,hc⟩
  ·exact .inl hh
  ·exact .inr ⟨p,hp,hl,fun j v hj=>hc j v hj⟩)
 have Ae7:=growslice_fits (need:=n+m) (old:=cap) (bytes:=i.bytes) hg (by omega)
 have hn:¬(n+m<=cap):=by omega
 have YL:¬(9223372036854775807<((n:Int)+(m:Int))):=by omega
 have WW:¬(281474976710656<Builtin.nextslicecap (n+m) cap*i.bytes):=by omega
 have Vc:(match d with | .int _=>true|_=>false)=false:=by cases d<;>first|rfl|exact absurd rfl (hd _)
 simp[Builtin.append_,run_underlying ht,run_underlying PS,Vc,sizeOf,typeInfo,zeroValue,hi,hz,h1,hn,YL,WW,Question.forced,h2,h3,newRow,grownCap]
 congr 2
 apply Array.ext';simp[List.append_assoc]
theorem append_room_run {t tx ty e:TypeId}{i:TypeInfo}{d:TypeDesc}{ts:List TypeId}(ht:P.underlying t=some (.slice e)) (PS:P.underlying tx=some d)(hd:∀k,d ≠ .int k)(hi:P.info? e=some i)
  {b ob n cap m:Nat} {xv:Value} {news:List Value} {A:Nat->Prop} {new:List PV} (hs:Src P w A i.size xv m new news) (hl:news.length=m*i.size)
  (hcell:∀k,k<news.length->(w.cell? ⟨b,ob+n*i.size+k,none⟩).isSome=true) (WP:∀k,k<news.length->w.frozen? ⟨b,ob+n*i.size+k,none⟩=false)(hg:n+m<=cap):
  (Builtin.append_ (t::tx::ts).toArray ty #[.slice (some ⟨b,ob,none⟩) n cap,xv]).run P w=.ok (.slice (some ⟨b,ob,none⟩) (n+m) cap) (w.setCells b (ob+n*i.size) news):=by
 have h1:=hs.len w;have h2:(Builtin.firstCells i.size m xv).run P w=.ok news.toArray w:=hs.cells w (fun _ _=>rfl)
 have h3:=run_storeCells_cells (P:=P) b (ob+n*i.size) news 0 w (fun k hk=>by simpa using hcell k hk) (fun k hk=>by simpa using WP k hk) hs.one
 have Vc:(match d with | .int _=>true|_=>false)=false:=by cases d<;>first|rfl|exact absurd rfl (hd _)
 have _:=hl;simp[Builtin.append_,run_underlying ht,run_underlying PS,Vc,sizeOf,typeInfo,hi,h1,hg,h2,B9];rw[h3];simp
theorem DH {t ty e:TypeId}{i:TypeInfo}{ts:List TypeId}(ht:P.underlying t=some (.slice e)) (hi:P.info? e=some i)
  {ad:Option Addr} {n cap m:Nat} {xv:Value} {news:List Value} {A:Nat->Prop} {new:List PV} (hs:Src P w A i.size xv m new news)
  {w1:World} (Jf:(match ad with|some p=>storeCells p (news.take (min m n*i.size)) 0|none=>pure ()).run P w=.ok () w1):
  (Builtin.copy_ (t::ts).toArray ty #[.slice ad n cap,xv]).run P w=.ok (goInt ((min m n:Nat):Int)) w1:=by
 have h1:=hs.len w;have h2:=hs.part (min m n) (Nat.min_le_left _ _);have e:Nat.min m n=min m n:=rfl;generalize min m n=k at *
 cases ad with
 |none=>
  simp only at Jf;simp[Builtin.copy_,run_underlying ht,sizeOf,typeInfo,hi,h1,h2,e]
  simpa using Jf
 |some p=>
  simp only at Jf;simp[Builtin.copy_,run_underlying ht,sizeOf,typeInfo,hi,h1,h2,e,Jf]
theorem Sv {t tx ty e:TypeId}{i:TypeInfo}{k kx:IntKind}{ts:List TypeId}(ht:P.underlying t=some (.slice e)) (PS:P.underlying tx=some (.int k)) (hi:P.info? e=some i):
  (Builtin.append_ (t::tx::ts).toArray ty #[.slice none 0 0,.int kx 0]).run P w=.ok (.slice none 0 0) w:=by
 have hw:IntKind.i64.wrap 0=0:=by decide
 simp[Builtin.append_,run_underlying ht,run_underlying PS,sizeOf,typeInfo,hi,asInt,asIntOf,hw]
theorem Ud {t tx ty e:TypeId}{i:TypeInfo}{z:Value}{k kx:IntKind}{ts:List TypeId}(ht:P.underlying t=some (.slice e)) (PS:P.underlying tx=some (.int k)) (hi:P.info? e=some i)(hz:i.zero=some z)
  {n:Int} (h0:0<n) (hb:n.toNat*i.bytes<=1099511627776) (hn:n<=1099511627776):
  (Builtin.append_ (t::tx::ts).toArray ty #[.slice none 0 0,.int kx n]).run P w =
   .ok (.slice (some ⟨w.heap.size,0,none⟩) n.toNat (grownCap w n.toNat 0 e)) (w.drew.alloc (.cells ((if n.toNat*i.size=0 then #[] else Builtin.zeroCells z.cells n.toNat)++Builtin.zeroCells z.cells (grownCap w n.toNat 0 e-n.toNat)) e)):=by
 have hw:IntKind.i64.wrap n=n:=IntWalk.i64_in n (by omega)
 have Ae7:=growslice_fits (need:=n.toNat) (old:=0) (bytes:=i.bytes) (by omega) (by omega)
 have GV:¬n<0:=by omega
 have Es:¬(281474976710656<n*(i.bytes:Int)):=by
  have:n*(i.bytes:Int)=((n.toNat*i.bytes:Nat):Int):=by
   rw[Int.natCast_mul,Int.toNat_of_nonneg (by omega)]
  omega
 have hz0:¬(n.toNat=0):=by omega
 have YL:¬(9223372036854775807<(n.toNat:Int)):=by omega
 have WW:¬(281474976710656<Builtin.nextslicecap n.toNat 0*i.bytes):=by omega
 have Re:¬n<=0:=by omega
 have hmx:¬(9223372036854775807<max n 0):=by omega
 by_cases hs:n.toNat*i.size=0
 ·simp[Builtin.append_,run_underlying ht,run_underlying PS,sizeOf,typeInfo,zeroValue,hi,hz,asInt,asIntOf,hw,GV,Es,hz0,Re,hmx,YL,WW,Question.forced,hs,newRow,grownCap,Builtin.firstCells]
 ·simp[Builtin.append_,run_underlying ht,run_underlying PS,sizeOf,typeInfo,zeroValue,hi,hz,asInt,asIntOf,hw,GV,Es,hz0,Re,hmx,YL,WW,Question.forced,hs,newRow,grownCap,Builtin.firstCells]
theorem H1 {t tx ty e:TypeId}{i:TypeInfo}{d:TypeDesc}{ts:List TypeId}(ht:P.underlying t=some (.slice e)) (PS:P.underlying tx=some d)(hd:∀k,d ≠ .int k)(hi:P.info? e=some i)
  {ad:Option Addr} {xv:Value} {news:List Value} {A:Nat->Prop} {new:List PV} (hs:Src P w A i.size xv 0 new news) (h0:news=[]):
  (Builtin.append_ (t::tx::ts).toArray ty #[.slice ad 0 0,xv]).run P w=.ok (.slice ad 0 0) w:=by
 subst h0;have h1:=hs.len w;have h2:(Builtin.firstCells i.size 0 xv).run P w=.ok ([]:List Value).toArray w:=hs.cells w (fun _ _=>rfl)
 have Vc:(match d with | .int _=>true|_=>false)=false:=by cases d<;>first|rfl|exact absurd rfl (hd _)
 cases ad<;>simp[Builtin.append_,run_underlying ht,run_underlying PS,Vc,sizeOf,typeInfo,hi,h1,h2,storeCells]
end
open Go.RowKit
section
variable {R:Type} {r:R} {P:Program} {N:Nat} {w0:World} {X0:E6} {Y:Nat->Prop} {β β':Bt} {s:St} {a:Act} {w w':World} {o:Oper} {A:Nat->Prop}
theorem Mx {b j:Nat}(h:j<bsz w b):(w.cell? ⟨b,j,none⟩).isSome=true:=by
 unfold bsz at h;unfold World.cell?;split at h
 ·rename_i c e fz hb;simp[hb,h]
 ·omega
theorem JR {id d:Nat}{c cells:List PV}{bo:Option (Nat × Nat)} (h0:s.hp id=some (.ar false c)) (hd:s.hp d=none)
  (BV:∀k x,bo=some (k,x)->w.heap.size<=k∨∃y,β id=some (k,y)):
  ∀k,k<w.heap.size->Bz (Bg (Bg s.hp id (some .mv)) d (some (.ar false cells))) (Bg β d bo) Y k->Bz s.hp β Y k:=by
 rintro k hk (⟨i,x,hl,hβ⟩|hY)
 ·by_cases e':i=d
  ·subst e';rw[Af] at hβ;rcases BV k x hβ with h|⟨y,hy⟩
   ·omega
   ·exact .inl ⟨id,y,by rw[h0];trivial,hy⟩
  ·rw[Ad _ _ e'] at hl hβ;by_cases e:i=id
   ·subst e;rw[Af] at hl;exact hl.elim
   ·rw[Ad _ _ e] at hl;exact .inl ⟨i,x,hl,hβ⟩
 ·exact .inr hY
theorem Wj {pre new:List PV}{olds news:List Value}{zs:Array Value}{e:TypeId}{A':Nat->Prop}(hg:Di w w' (olds.toArray++news.toArray++zs) e) (hA:∀b,b<w.heap.size->A' b->A b)
  (h1:Au (Ao w A) pre olds) (h2:Au (Ao w A) new news) (ho:∀u∈olds,u.oneCell'=true)(hn:∀u∈news,u.oneCell'=true):CM w' A' ⟨w.heap.size,0,none⟩ (pre++new):=by
 refine KW hg hA fun j p hj=>?_
 obtain⟨v,hv,ht⟩:=(h1.app h2).get hj;refine⟨v,?_,?_,ht⟩
 ·have Bl:j<(olds++news).length:=by
   rcases Nat.lt_or_ge j (olds++news).length with h|h
   ·exact h
   ·rw[List.getElem?_eq_none h] at hv;cases hv
  rw[Array.getElem?_append_left (by simpa using Bl)]
  simpa using hv
 ·rcases List.mem_append.1 (List.mem_of_getElem? hv) with hm|hm
  ·exact ho v hm
  ·exact hn v hm
theorem Z1 (h:Br N w0 X0 Y β s a w){c:Call}(ho:o.op=.call c)(hc:c.callee=.builtin .append)(XI:Qu c=true){d:Nat}(OO:o.dst=some d){b x:Operand}(C4:c.args.toList=[b,x]) {t tx:TypeId}{ts:List TypeId}(Ty:c.argTypes.toList=t::tx::ts)
  {K:PV->List (Nat × A1)->Option R} (hk:N9 P (Gj s.hp) d t tx (A7 s.tm x) K=some r):∃v nw,K v nw=some r∧Ct P a w o Y β s v [] nw:=by
 have hb:b=.const (.slice none 0 0):=by
  unfold Qu at XI;rw[C4] at XI;split at XI
  ·rename_i e;injection e
  ·cases XI
 have Wt:c.args = #[b,x]:=by
  have:c.args=([b,x]:List Operand).toArray:=by rw[←C4]
  exact this
 have GK:c.argTypes=(t::tx::ts).toArray:=by rw[←Ty]
 have Kf:a.eval b=.slice none 0 0:=by rw[hb];rfl
 have run:∀{v:Value} {w1:World},(Builtin.append_ (t::tx::ts).toArray o.type #[a.eval b,a.eval x]).run P w=.ok v w1->(execOp a.eval o).run P w=.ok (.value v) w1:=by
  intro v w1 hr;unfold execOp;rw[ho];simp only[resolve,hc,invoke,builtin,Sem.run_bind,Sem.run_pure,Result.andThen_ok,Wt,GK];have:(#[b,x]:Array Operand).map a.eval = #[a.eval b,a.eval x]:=by simp
  rw[this,hr];rfl
 unfold N9 at hk;split at hk
 ·rename_i e hu;obtain⟨PR,hk⟩:=Ae hk;obtain⟨i,z,hi,hz,Wf,Iv⟩:=Wv PR;have Nc:((P.info? e).map (·.bytes)).getD 0=i.bytes:=by rw[hi];rfl
  obtain⟨⟨dx,hdx,DM⟩,m,new,news,hk,hs⟩:=Vm (s:=s) h hk (fun m new Hx=>by
   obtain⟨hb,_⟩:=Ae Hx;simp only[Bool.and_eq_true,decide_eq_true_eq] at hb;exact hb.1.1)
  obtain⟨E1,hk⟩:=Ae hk;simp only[Bool.and_eq_true,decide_eq_true_eq] at E1;obtain⟨⟨MI,SX⟩,CW⟩:=E1;have WH:new.length=news.length:=hs.rep.len;rw[Iv] at MI hk hs;rw[Nc] at SX;have Tj:news.length=m*i.size:=by omega
  refine⟨_,_,hk,by simp,?_⟩
  by_cases WE:m=0
  ·subst WE;have hr:=H1 (P:=P) (w:=w) (t:=t) (tx:=tx) (ty:=o.type) (ts:=ts) (ad:=none) hu hdx DM hi hs (List.eq_nil_of_length_eq_zero (by omega))
   rw[←Kf] at hr;have EY:new=[]:=List.eq_nil_of_length_eq_zero (by omega)
   subst EY;refine⟨_,_,run hr,fun TP=>⟨Bg β d none,?_⟩⟩
   have P7:s.hp d=none:=(Aw TP).1 d _ (List.mem_singleton_self _);rw[Kf];refine⟨rfl,rfl,rfl,Bb.refl _ _,fun j hj=>Ad _ _ (by rintro rfl;exact hj P7),?_,?_,?_,?_,?_,.inl ⟨Af _ _ _,rfl,rfl,none,rfl⟩,?_⟩
   ·intro j bx hm;simp at hm;rw[hm.2];trivial
   ·intro j bx hm;simp at hm;obtain⟨rfl,rfl⟩:=hm;exact .inl ⟨Af _ _ _,rfl⟩
   ·intro j bx k q hm hq;simp at hm;obtain⟨rfl,rfl⟩:=hm;rw[Af] at hq;cases hq
   ·intro j bx j' bx' k q q' hm Ii _ _;simp at hm Ii;rw[hm.1,Ii.1]
   ·intro j cells hm;simp at hm
   ·intro j hj;simp[A5,Bf,Ai] at hj;subst hj;exact .inr ⟨.ar false [],by simp⟩
  ·have hr:=append_grow_run (P:=P) (w:=w) (t:=t) (tx:=tx) (ty:=o.type) (ts:=ts) (ad:=none) (n:=0) (cap:=0) (olds:=[]) hu hdx DM hi hz hs (.inl ⟨rfl,rfl⟩) (by omega) (by rw[Nat.zero_add];exact SX) (by omega)
   rw[←Kf] at hr;refine⟨_,_,run hr,fun TP=>⟨Bg β d (some (w.heap.size,0)),?_⟩⟩
   have P7:s.hp d=none:=(Aw TP).1 d _ (List.mem_singleton_self _);have QF:0+m<=grownCap w (0+m) 0 e:=grownCap_ge w (0+m) 0 e
   have Pz:Di w (w.drew.alloc (.cells (([]:List Value).toArray++news.toArray++Builtin.zeroCells z.cells (grownCap w (0+m) 0 e-(0+m))) e)) (([]:List Value).toArray++news.toArray++Builtin.zeroCells z.cells (grownCap w (0+m) 0 e-(0+m))) e:=
    ⟨rfl,rfl,rfl,fun k hk=>Below.heap_alloc w.drew _ k hk,by show (w.heap.push _).size=_;simp,(0,0),by show (w.heap.push _)[w.heap.size]?=_;simp,.inl rfl⟩
   have HH:(([]:List Value).toArray++news.toArray++Builtin.zeroCells z.cells (grownCap w (0+m) 0 e-(0+m))).size=grownCap w (0+m) 0 e*i.size:=by
    simp only[Array.size_append,List.size_toArray,size_zeroCells,Wf,Tj,List.length_nil,←Nat.add_mul];rw[Nat.zero_add (m*i.size),←Nat.add_mul]
    congr 1
    omega
   refine K4 (s:=⟨s.tm,Ac s.hp []⟩) Pz P7 trivial ?_ (fun cells hx=>by cases hx) ?_ (by intro j hj;simp[A5,Bf,Ai] at hj;exact .inr hj)
   ·refine .inr ⟨w.heap.size,0,Af _ _ _,?_,fun _ j _ hj=>?_,(fun q=>by cases q)⟩
    ·exact Wj (pre:=[]) Pz (MN (s:=⟨s.tm,Ac s.hp []⟩) P7) trivial hs.rep (by simp) hs.one
    ·rw[Pz.bsz] at hj;exact Pz.frozen hj
   ·refine .inr ⟨w.heap.size,0,0,grownCap w (0+m) 0 e,Af _ _ _,by rw[Nat.zero_add],.inl rfl,by omega,?_,by rw[Pz.size];omega⟩
    exact⟨by rw[Pz.bsz,HH];omega,.inr (Hd w.drew _ e)⟩
 ·cases hk
theorem GN {lo hi:Option Operand}{y3:Operand}{k3:IntKind}{len cap l u m:Nat}(hl:(lo=none∧l=0)∨∃y k,lo=some y∧a.eval y=.int k (l:Int))
  (hu:∃y k,hi=some y∧a.eval y=.int k (u:Int)) (hm:a.eval y3=.int k3 (m:Int)) (h1:l<=u)(h2:u<=m)(h3:m<=cap):
  (Instr.sliceBounds true len cap (lo.map a.eval) (hi.map a.eval) (some (a.eval y3))).run P w=.ok (l,u,m) w:=by
 obtain⟨y,k,rfl,hy⟩:=hu;rcases hl with⟨rfl,rfl⟩|⟨y',k',rfl,hy'⟩
 ·simp[Instr.sliceBounds,Instr.sliceBound,asIntOf,hy,hm,h2,h3]
 ·simp[Instr.sliceBounds,Instr.sliceBound,asIntOf,hy,hy',hm,h1,h2,h3]
theorem BX (h:Br N w0 X0 Y β s a w){t:TypeId}{x m:Operand}{lo hi:Option Operand}(ho:o.op=.slice t x lo hi (some m)) {d:Nat}{K:PV->List (Nat × A1)->Option R}
  (hk:Nx P d t (A7 s.tm x) (lo.map (A7 s.tm)) (hi.map (A7 s.tm)) (some (A7 s.tm m)) K=some r):∃v nw,K v nw=some r∧Ct P a w o Y β s v [] nw:=by
 have hx:=Bu h x;unfold Nx at hk;split at hk
 ·rename_i e hu;obtain⟨hb,hk⟩:=Ae hk;simp only[Bool.and_eq_true] at hb;obtain⟨J7,hhi⟩:=hb
  obtain⟨yh,rfl⟩:∃y,hi=some y:=by
   cases hi with
   |none=>simp at hhi
   |some y=>exact⟨y,rfl⟩
  have fin:∀{ad:Option Addr} {n cap l u q:Nat},a.eval x=.slice ad n cap->n<=cap->((lo=none∧l=0)∨∃y k,lo=some y∧a.eval y=.int k (l:Int))->((some yh=none∧u=n)∨∃y k,some yh=some y∧a.eval y=.int k (u:Int))->(((some m:Option Operand)=none∧q=n)∨∃y k,(some m:Option Operand)=some y∧a.eval y=.int k (q:Int)) ->
    (Nat.beq l q&&Nat.beq u q&&decide (q<=n))=true->Ct P a w o Y β s (.view d (Aq P e) 0 0) [] [(d,.ar false [])]:=by
   intro ad n cap l u q B0 hn hl Fz hq hb;simp only[Bool.and_eq_true,decide_eq_true_eq] at hb;obtain⟨⟨b1,b2⟩,b3⟩:=hb;have b1:=Nat.eq_of_beq_eq_true b1;have b2:=Nat.eq_of_beq_eq_true b2;subst b1 b2
   have hu2:∃y k,(some yh:Option Operand)=some y∧a.eval y=.int k (u:Int):=by
    rcases Fz with⟨e,_⟩|e
    ·cases e
    ·exact e
   obtain⟨k3,hm3⟩:∃k,a.eval m=.int k (u:Int):=by
    rcases hq with⟨e,_⟩|⟨y,k,e,q⟩
    ·cases e
    ·cases e;exact⟨k,q⟩
   have CY:=GN (P:=P) (w:=w) (len:=n) (cap:=cap) hl hu2 hm3 (Nat.le_refl _) (Nat.le_refl _) (by omega)
   have Bp:∃ad',(execOp a.eval o).run P w=.ok (.value (.slice ad' 0 0)) w:=by
    unfold execOp;rw[ho];cases ad with
    |none=>exact⟨none,by simp[Instr.sliceAt,Instr.slice,run_underlying hu,B0,CY,Bo J7] at CY ⊢⟩
    |some p=>exact⟨some p,by simp[Instr.sliceAt,Instr.slice,run_underlying hu,B0,CY,Bo J7] at CY ⊢⟩
   obtain⟨ad',Bp⟩:=Bp;refine⟨by simp,_,_,Bp,fun TP=>⟨Bg β d none,?_⟩⟩
   have P7:s.hp d=none:=(Aw TP).1 d _ (List.mem_singleton_self _);refine⟨rfl,rfl,rfl,Bb.refl _ _,fun j hj=>Ad _ _ (by rintro rfl;exact hj P7),?_,?_,?_,?_,?_,.inl ⟨Af _ _ _,rfl,rfl,ad',rfl⟩,?_⟩
   ·intro j bx hm;simp at hm;rw[hm.2];trivial
   ·intro j bx hm;simp at hm;obtain⟨rfl,rfl⟩:=hm;exact .inl ⟨Af _ _ _,rfl⟩
   ·intro j bx k q hm hq;simp at hm;obtain⟨rfl,rfl⟩:=hm;rw[Af] at hq;cases hq
   ·intro j bx j' bx' k q q' hm Ii _ _;simp at hm Ii;rw[hm.1,Ii.1]
   ·intro j cells hm;simp at hm
   ·intro j hj;simp[A5,Bf,Ai] at hj;subst hj;exact .inr ⟨.ar false [],by simp⟩
  split at hk
  ·rename_i id es off n e';rw[e'] at hx;obtain⟨Ra,hk⟩:=Ae hk;obtain⟨l,hk,hl⟩:=Ce h hk;obtain⟨u,hk,Fz⟩:=Ce h hk;obtain⟨q,hk,hq⟩:=Ce (x:=some m) h hk;obtain⟨hb,hk⟩:=Ae hk;refine⟨_,_,hk,?_⟩;rcases hx with⟨hβ,_,rfl,ad,B0⟩|⟨b,ob,y,cap,hβ,B0,hy,hn,Oc,Bl⟩
   ·exact fin B0 (Nat.le_refl _) hl Fz hq hb
   ·exact fin B0 hn hl Fz hq hb
  ·obtain⟨z,n,c,hk,hp⟩:=Dh hk;obtain⟨l,hk,hl⟩:=Ce h hk;obtain⟨u,hk,Fz⟩:=Ce h hk;obtain⟨q,hk,hq⟩:=Ce (x:=some m) h hk;obtain⟨hb,hk⟩:=Ae hk;refine⟨_,_,hk,?_⟩;rcases D7 hp hx with⟨B0,rfl,rfl⟩|⟨ad,cap,B0,_,hn,_⟩|⟨ad,cap,B0,_,rfl,rfl⟩
   ·exact fin B0 (Nat.le_refl _) hl Fz hq hb
   ·exact fin B0 hn hl Fz hq hb
   ·exact fin B0 (Nat.zero_le _) hl Fz hq hb
 ·cases hk
end
open Go.RowKit
section
variable {R:Type} {r:R} {P:Program} {N:Nat} {w0:World} {X0:E6} {Y:Nat->Prop} {β β':Bt} {s:St} {a:Act} {w w':World} {o:Oper} {A:Nat->Prop}
theorem SH (h:Br N w0 X0 Y β s a w){G:Glo}(Hg:ES P G w0 X0){C:Et}{call:Aj}(Cj:∀f args res,call f args=some res->De G P f args res){K:PV->List Nat->List (Nat × A1)->Option R}
  (hk:V0 C P N call s.tm (rd s.hp) (Gj s.hp) o K=some r):∃v fz nw,K v fz nw=some r∧Wn P a w o Y β s v fz nw:=by
 have one:∀{K':PV->Option R},(∀v,K' v=some r->K v [] []=some r)->(∃v,K' v=some r∧Ct P a w o Y β s v [] [])->∃v fz nw,K v fz nw=some r∧Wn P a w o Y β s v fz nw:=
  fun hK ⟨v,h1,h2⟩=>⟨v,[],[],hK v h1,Wl h2⟩
 have many:(∃v fz nw,K v fz nw=some r∧Ct P a w o Y β s v fz nw)->∃v fz nw,K v fz nw=some r∧Wn P a w o Y β s v fz nw:=
  fun ⟨v,fz,nw,h1,h2⟩=>⟨v,fz,nw,h1,Wl h2⟩
 unfold V0 at hk;split at hk
 ·rename_i x ho;exact one (fun _ h=>h) (Qv (K:=fun p=>K p [] []) h (OL ho) hk)
 ·rename_i x ho;exact one (fun _ h=>h) (Qv (K:=fun p=>K p [] []) h (EM ho) hk)
 ·rename_i c x y ho;exact one (fun _ h=>h) (HV (K:=fun p=>K p [] []) h ho hk)
 ·rename_i t ho;obtain⟨d,hd,hk⟩:=Bn hk;exact many (EZ ho hk)
 ·rename_i t x ho;obtain⟨d,hd,hk⟩:=Bn hk;exact many (PT h ho hk)
 ·rename_i t ps ho;exact one (fun _ h=>h) (FP (K:=fun p=>K p [] []) h ho hk)
 ·rename_i t n ps ho;obtain⟨d,hd,hk⟩:=Bn hk;exact many (Sr h ho hk)
 ·rename_i t x ho;exact one (fun _ h=>h) (KH (K:=fun p=>K p [] []) h ho hk)
 ·rename_i x ho;exact one (fun _ h=>h) (Vd (K:=fun p=>K p [] []) h ho hk)
 ·rename_i op t x y ty ho;exact one (fun _ h=>h) (DU (K:=fun p=>K p [] []) h ho hk)
 ·rename_i op t x ho;exact one (fun _ h=>h) (HP (K:=fun p=>K p [] []) h ho hk)
 ·rename_i src dst x ho;obtain⟨v,nw,hk,hg⟩:=IF h ho hk;obtain⟨d,hd,hk⟩:=Bn hk;exact⟨v,[],nw,hk,Wl hg⟩
 ·rename_i t x y ho;obtain⟨d,hd,hk⟩:=Bn hk;exact many (IL h ho hk)
 ·rename_i t x lo hi mx ho;split at hk
  ·exact one (fun _ h=>h) (FY (K:=fun p=>K p [] []) h ho hk)
  ·obtain⟨d,hd,hk⟩:=Bn hk;obtain⟨v,nw,h1,h2⟩:=BX h ho hk;exact⟨v,[],nw,h1,Wl h2⟩
 ·rename_i t x f ho;exact one (fun _ h=>h) (Uf (K:=fun p=>K p [] []) h ho hk)
 ·rename_i t x f ho;exact one (fun _ h=>h) (FJ (K:=fun p=>K p [] []) h ho hk)
 ·rename_i t x i ho;exact one (fun _ h=>h) (Uh (K:=fun p=>K p [] []) h ho hk)
 ·rename_i t x i ho;exact one (fun _ h=>h) (EL (K:=fun p=>K p [] []) h ho hk)
 ·rename_i x i ho;exact one (fun _ h=>h) (Xo (K:=fun p=>K p [] []) h ho hk)
 ·rename_i c ho;split at hk
  ·rename_i hc;exact one (fun _ h=>h) (QA (K:=fun p=>K p [] []) h ho hc hk)
  ·rename_i hc;exact one (fun _ h=>h) (OK (K:=fun p=>K p [] []) h ho hc hk)
  ·rename_i hc;exact one (fun _ h=>h) (PP (K:=fun p=>K p [] []) h ho hc hk)
  ·rename_i hc;exact one (fun _ h=>h) (NU (K:=fun p=>K p [] []) h ho hc hk)
  ·rename_i hc;obtain⟨XI,hk⟩:=Ae hk;obtain⟨d,hd,Cn⟩:=Bn hk;obtain⟨b,xs,Xj,Dc⟩:=Ap Cn;obtain⟨x,ys,hys,Lb⟩:=Ap Dc;obtain⟨Sh,W7⟩:=B5 Lb;obtain⟨t,us,QS,WA⟩:=Ap W7;obtain⟨tx,vs,Ga,hk6⟩:=Ap WA;rw[hys,Sh] at Xj;rw[Ga] at QS;obtain⟨v,nw,h1,h2⟩:=Z1 h ho hc XI hd Xj QS hk6;exact⟨v,[],nw,h1,Wl h2⟩
  ·rename_i f hc;exact Vz h Hg Cj (fun hf hb=>EP ho hc Hg.ng hf hb) hk
  ·rename_i t hc;obtain⟨f,hf0,Cn⟩:=ZO hk;have ht:a.eval (.tmp t)=.func (.func f) #[] #[]:=Bi h (x:=.tmp t) hf0;exact Vz h Hg Cj (fun hf hb=>OC ho hc ht Hg.ng hf hb) Cn
  ·cases hk
 ·cases hk
theorem JS (h:Br N w0 X0 Y β s a w){G:Glo}(Hg:ES P G w0 X0){C:Et}{call:Aj}(Cj:∀f args res,call f args=some res->De G P f args res){K:St->Option R}
  (hk:(V0 C P N call s.tm (rd s.hp) (Gj s.hp) o fun v fz nw=>Sp N s o.dst v fz nw K)=some r):
  ∃s',K s'=some r∧∀(next:Act->World->Prop) (Q:Exit->Act->World->Prop),(∀a' w' β',Br N w0 X0 Y β' s' a' w'->next a' w')->o.wp P a w next Q:=by
 obtain⟨v,fz,nw,hk,Md,hg⟩:=SH h Hg Cj hk;unfold Sp at hk;obtain⟨hb,hk⟩:=Ae hk;simp only[Bool.and_eq_true] at hb;refine⟨_,hk,fun next Q hn=>hg next Q fun val w' Jf=>?_⟩
 obtain⟨β',st⟩:=Jf hb.2
 have Kf:A2 (Ac s.hp fz) nw=true:=by
  have:∀nw,A2 s.hp nw=true->A2 (Ac s.hp fz) nw=true:=by
   intro nw
   induction nw with
   |nil=>intro _;rfl
   |cons q nw ih=>
    obtain⟨i,b⟩:=q;intro hq;simp only[A2,Bool.and_eq_true,Option.isNone_iff_eq_none] at hq ⊢;exact⟨⟨Ch.2 hq.1.1,hq.1.2⟩,ih hq.2⟩
  exact this nw hb.2
 exact hn _ _ β' ((h.freeze Md).stepR hb.1 Kf st)
end
open Go.RowKit
section
variable {R:Type} {r:R} {P:Program} {N:Nat} {w0:World} {X0:E6} {Y:Nat->Prop} {β β':Bt} {s:St} {a:Act} {w w':World} {o:Oper} {A:Nat->Prop}
structure Bc (b:Nat) (w w':World):Prop where
 os:w'.os=w.os
 tape:w'.tape=w.tape
 output:w'.output=w.output
 size:w'.heap.size=w.heap.size
 other:∀k,k≠b->w'.heap[k]?=w.heap[k]?
 bs:bsz w' b=bsz w b
 frz:∀j,w'.frozen? ⟨b,j,none⟩=w.frozen? ⟨b,j,none⟩
theorem Bc.grow {b:Nat}(h:Bc b w w')(k:Nat):Gb w w' k:=by
 by_cases e:k=b
 ·subst e;refine⟨by rw[h.bs];exact Nat.le_refl _,fun q=>?_⟩
  unfold EA at q ⊢;rw[h.bs,h.frz];exact q
 ·exact Gb.same (h.other k e)
theorem Bc.refl (b:Nat)(w:World):Bc b w w:=⟨rfl,rfl,rfl,rfl,fun _ _=>rfl,rfl,fun _=>rfl⟩
theorem Bc.setCell (b j:Nat)(v:Value)(w:World):Bc b w (w.setCell ⟨b,j,none⟩ v):=by
 refine⟨rfl,rfl,rfl,by simp[World.setCell],fun k hk=>Below.heap_setCell w ⟨b,j,none⟩ v k hk,?_,fun i=>?_⟩
 ·simp only[bsz,World.setCell,Array.getElem?_modify];simp only[if_true];cases h:w.heap[b]? with
  |none=>simp
  |some x=>cases x<;>simp
 ·simp only[World.frozen?,World.setCell,Array.getElem?_modify,if_true];cases h:w.heap[b]? with
  |none=>simp
  |some x=>cases x<;>simp
theorem Bc.trans {b:Nat}{w'':World}(h:Bc b w w')(h':Bc b w' w''):Bc b w w'':=
 ⟨h'.os.trans h.os,h'.tape.trans h.tape,h'.output.trans h.output,h'.size.trans h.size,fun k hk=>(h'.other k hk).trans (h.other k hk),h'.bs.trans h.bs,fun j=>(h'.frz j).trans (h.frz j)⟩
theorem Bc.setCells (b:Nat):∀(vs:List Value)(j:Nat)(w:World),Bc b w (w.setCells b j vs)
 |[],_,w=>Bc.refl b w
 |v::vs,j,w=>(Bc.setCell b j v w).trans (Bc.setCells b vs (j+1) _)
theorem Agx {hp:Nat->Option A1}{id:Nat}{bx bx':A1}(h0:hp id=some bx)(hl:Bx (some bx)) (Gl:Bx (some bx')) (b:Nat):BK (Bg hp id (some bx')) β b↔BK hp β b:=by
 constructor
 ·rintro⟨i,o,h1,h2⟩
  by_cases e:i=id
  ·subst e;exact⟨i,o,by rw[h0];exact hl,h2⟩
  ·rw[Ad _ _ e] at h1;exact⟨i,o,h1,h2⟩
 ·rintro⟨i,o,h1,h2⟩
  by_cases e:i=id
  ·subst e;exact⟨i,o,by rw[Af];exact Gl,h2⟩
  ·exact⟨i,o,by rw[Ad _ _ e];exact h1,h2⟩
theorem Br.write (h:Br N w0 X0 Y β s a w){id b ob:Nat}{bx bx':A1}(h0:s.hp id=some bx)(hl:Bx (some bx)) (Gl:Bx (some bx')) (hβ:β id=some (b,ob)) (hw:Bc b w w')
  (H5:L0 w' (Bz s.hp β Y) β id bx') (hr:∀cells,bx'=.st cells->∀c∈cells,∀i∈Ai c,s.hp i≠none)
  (hK:∀c',bx'=.st c'->∃c,bx=.st c)(hR:∀j,BR bx' ob j->BR bx ob j)(hO:∀j,¬BR bx ob j->w'.cell? ⟨b,j,none⟩=w.cell? ⟨b,j,none⟩):Br N w0 X0 Y β ⟨s.tm,Bg s.hp id (some bx')⟩ a w':=by
 have hX:=Agx (β:=β) h0 hl Gl;have hA:∀k,Bz (Bg s.hp id (some bx')) β Y k↔Bz s.hp β Y k:=fun k=>⟨fun x=>x.imp (hX k).1 (fun y=>y),fun x=>x.imp (hX k).2 (fun y=>y)⟩
 have WJ:Bz s.hp β Y b:=.inl ⟨id,ob,by rw[h0];exact hl,hβ⟩
 have Jf:Bb (Bz s.hp β Y) w w':=⟨by rw[hw.size];exact Nat.le_refl _,fun k _ hk=>hw.other k (fun e=>hk (e ▸ WJ)),fun k _=>hw.grow k⟩
 have Es:∀i,Bg s.hp id (some bx') i≠none↔s.hp i≠none:=by
  intro i;by_cases e:i=id
  ·subst e;rw[Af,h0];simp
  ·rw[Ad _ _ e]
 have hAe:Bz (Bg s.hp id (some bx')) β Y=Bz s.hp β Y:=funext fun k=>propext (hA k)
 have Qp:∀i,Bx (Bg s.hp id (some bx') i)->Bx (s.hp i):=by
  intro i hi;by_cases e:i=id
  ·subst e;rw[h0];exact hl
  ·rw[Ad _ _ e] at hi;exact hi
 refine⟨h.dfr,h.tsz,h.tmo,fun i hi=>?_,fun i bi hb=>?_,fun i i' k x y h1 h2=>h.inj i i' k x y (Qp i h1) (Qp i' h2),fun i k x hi hk=>?_,fun i hi j hj=>(Es j).2 (h.wfT i hi j hj),
  fun i cells hc c FS j hj=>(Es j).2 ?_,fun k hk=>h.ownd k ((hX k).1 hk),fun i bi k x Ui hli hk Bl j hj=>?_,fun i hi=>⟨(Es _).2 (h.pin i hi).1,(h.pin i hi).2⟩,fun i c k x hc hk Bl=>?_,fun k hk x=>h.Yx k hk ((hX k).1 x),h.Ylt,?_⟩
 ·rw[hAe];exact (h.tms i hi).step Jf (fun _ _ x=>x) (fun _ _=>rfl)
 ·rw[hAe];simp only at hb;by_cases e:i=id
  ·subst e;rw[Af] at hb;cases hb;exact H5
  ·rw[Ad _ _ e] at hb;have Ui:=h.box i bi hb;cases bi with
   |st c=>
    obtain⟨k,x,h1,h2,h3⟩:=Ui
    have hk:k≠b:=by
     rintro rfl
     exact e (h.inj i id k x ob (by rw[hb];trivial) (by rw[h0];exact hl) h1 hβ)
    refine⟨k,x,h1,fun j c hj=>?_,fun j hj=>?_⟩
    ·obtain⟨v,hv,hc⟩:=h2 j c hj;exact⟨v,by rw[World.cell?_of_block (w:=w) (hw.other k hk)];exact hv,hc.step Jf (fun _ _ x=>x) (fun _ _=>rfl)⟩
    ·rw[World.frozen?_of_block (w:=w) (hw.other k hk)];exact h3 j hj
   |ar fz c=>
    rcases Ui with hn|⟨k,x,h1,h2,h3,h4⟩
    ·exact .inl hn
    ·have hk:k≠b:=by
      rintro rfl
      cases fz with
      |true=>exact h4 rfl WJ
      |false=>exact e (h.inj i id k x ob (by rw[hb];trivial) (by rw[h0];exact hl) h1 hβ)
     refine .inr ⟨k,x,h1,fun j c hj=>?_,fun ef j hj Jh=>?_,h4⟩
     ·obtain⟨v,hv,h5,hc⟩:=h2 j c hj;exact⟨v,by rw[World.cell?_of_block (w:=w) (by rw[Dv];exact hw.other k hk)];exact hv,h5,hc.step Jf (fun _ _ x=>x)⟩
     ·rw[World.frozen?_of_block (w:=w) (hw.other k hk)];refine h3 ef j hj ?_;unfold bsz at Jh ⊢;rw[hw.other k hk] at Jh;exact Jh
   |mv=>trivial
 ·rw[hw.size];exact h.blt i k x ((Es i).1 hi) hk
 ·simp only at hc;by_cases e:i=id
  ·subst e;rw[Af] at hc;injection hc with hc;exact hr cells hc c FS j hj
  ·rw[Ad _ _ e] at hc;exact h.wfB i cells hc c FS j hj
 ·simp only at Ui;by_cases e:i=id
  ·subst e;rw[Af] at Ui;cases Ui;rw[hβ] at hk;cases hk;exact h.rngB i bx b ob h0 hl hβ Bl j (hR j hj)
  ·rw[Ad _ _ e] at Ui;exact h.rngB i bi k x Ui hli hk Bl j hj
 ·simp only at hc;by_cases e:i=id
  ·subst e;rw[Af] at hc;injection hc with hc;obtain⟨c0,rfl⟩:=hK c hc;exact h.stp i c0 k x h0 hk Bl
  ·rw[Ad _ _ e] at hc;exact h.stp i c k x hc hk Bl
 ·refine⟨hw.os.trans h.fr.os,hw.tape.trans h.fr.tape,hw.output.trans h.fr.output,?_,fun k j hk hL=>?_⟩
  ·refine⟨by rw[hw.size];exact h.fr.step.size,fun k hk hnk=>?_,fun k hk=>(h.fr.step.bs k hk).trans (Jf.bs k (Nat.lt_of_lt_of_le hk h.fr.step.size))⟩
   rw[hw.other k ?_]
   ·exact h.fr.step.keep k hk hnk
   ·rintro rfl
    rcases h.ownd k ⟨id,ob,by rw[h0];exact hl,hβ⟩ with hx|hx
    ·exact hnk hx
    ·omega
  ·by_cases e:k=b
   ·subst e;rw[hO j (fun hj=>hL (h.rngB id bx k ob h0 hl hβ hk j hj)),hw.frz]
    exact h.fr.rng k j hk hL
   ·have hc:w'.cell? ⟨k,j,none⟩=w.cell? ⟨k,j,none⟩:=World.cell?_of_block (w:=w) (hw.other k e);have hf:w'.frozen? ⟨k,j,none⟩=w.frozen? ⟨k,j,none⟩:=World.frozen?_of_block (w:=w) (hw.other k e);rw[hc,hf];exact h.fr.rng k j hk hL
theorem Lo {c cs:List PV}{off j:Nat}{p:PV}(Re:off+cs.length<=c.length)(h:(A0 c cs off)[j]?=some p):
  (off<=j∧j<off+cs.length∧cs[j-off]?=some p)∨((j<off∨off+cs.length<=j)∧c[j]?=some p):=by
 unfold A0 at h;by_cases h1:j<off
 ·rw[List.append_assoc,List.getElem?_append_left (by simp;omega),List.getElem?_take_of_lt h1] at h
  exact .inr ⟨.inl h1,h⟩
 ·by_cases h2:j<off+cs.length
  ·rw[List.getElem?_append_left (by simp;omega),List.getElem?_append_right (by simp;omega)] at h
   simp only[List.length_take,Nat.min_eq_left (by omega:off<=c.length)] at h
   exact .inl ⟨by omega,h2,h⟩
  ·rw[List.getElem?_append_right (by simp;omega)] at h
   simp only[List.length_append,List.length_take,Nat.min_eq_left (by omega:off<=c.length),List.getElem?_drop] at h
   rw[show off+cs.length+(j-(off+cs.length))=j from by omega] at h
   exact .inr ⟨.inr (by omega),h⟩
theorem L4 {c cs:List PV}{off:Nat}(Re:off+cs.length<=c.length):(A0 c cs off).length=c.length:=by
 simp[A0];omega
theorem To {t:TypeId}{b j:Nat}{v:Value}(Iv:(P.info? t).map (·.size)=some v.cells.size) (hc:∀i,i<v.cells.toList.length->(w.cell? ⟨b,j+i,none⟩).isSome=true)
  (hf:∀i,i<v.cells.toList.length->w.frozen? ⟨b,j+i,none⟩=false)(h1:∀u∈v.cells.toList,u.oneCell'=true):(Instr.storeAt t (.pointer (some ⟨b,j,none⟩)) v).run P w=.ok () (w.setCells b j v.cells.toList):=by
 have:=run_storeCells_cells (P:=P) b j v.cells.toList 0 w (fun i hi=>by simpa using hc i hi) (fun i hi=>by simpa using hf i hi) h1
 simp only[Instr.storeAt,Instr.sureAddr,storeVar,Sem.run_bind,Sem.run_pure,Result.andThen_ok,G6 Iv]
 simpa using this
theorem EU (h:Br N w0 X0 Y β s a w){t:TypeId}{x y:Operand}(ho:o.op=.store t x y)(hd:o.dst=none){K:St->Option R}(hk:Sg P s t (A7 s.tm x) (A7 s.tm y) K=some r):
  ∃s',K s'=some r∧∀(next:Act->World->Prop) (Q:Exit->Act->World->Prop),(∀a' w' β',Br N w0 X0 Y β' s' a' w'->next a' w')->o.wp P a w next Q:=by
 have hx:=Bu h x;have Xe:=C5 h x
 have run:∀{b j:Nat},a.eval x=.pointer (some ⟨b,j,none⟩)->(Instr.storeAt t (.pointer (some ⟨b,j,none⟩)) (a.eval y)).run P w=.ok () (w.setCells b j (a.eval y).cells.toList) ->
   ∀(next:Act->World->Prop) (Q:Exit->Act->World->Prop),next a (w.setCells b j (a.eval y).cells.toList)->o.wp P a w next Q:=by
  intro b j B0 hr next Q hn;unfold Oper.wp execOp;rw[ho];simp only[Sem.run_bind,B0,hr,Result.andThen_ok,Sem.run_pure];show next (a.put o.dst undef) _;rw[hd];exact hn
 unfold Sg at hk;split at hk
 ·rename_i id off e;rw[e] at hx Xe;obtain⟨b,ob,hβ,B0⟩:=hx;split at hk
  ·rename_i c h0;obtain⟨hb,hk⟩:=Ae hk;simp only[Bool.and_eq_true,decide_eq_true_eq] at hb;obtain⟨⟨Jk,hl⟩,Re⟩:=hb;have hl:=Nat.eq_of_beq_eq_true hl;obtain⟨cs,hk,Kc,h2,h1,hr,_⟩:=LY (Bu h y) hl hk;obtain⟨_,Ab7,Iv⟩:=Kz Jk;have Ql:=h2.len;obtain⟨b',o',Dr,Hy,BM⟩:=h.box id _ h0;rw[hβ] at Dr;simp at Dr;obtain⟨rfl,rfl⟩:=Dr
   have hcell:∀i,i<(a.eval y).cells.toList.length->(w.cell? ⟨b,ob+off+i,none⟩).isSome=true:=by
    intro i hi;obtain⟨v,hv,_⟩:=Hy (off+i) _ (List.getElem?_eq_getElem (by omega))
    rw[Nat.add_assoc,hv];rfl
   have Bp:=To (P:=P) (t:=t) (w:=w) (b:=b) (j:=ob+off) (v:=a.eval y) (by rw[Iv,←Ab7,←Kc,Ql];simp) hcell (fun i hi=>by rw[Nat.add_assoc];exact BM _ (by omega)) h1
   refine⟨_,hk,fun next Q hn=>run B0 Bp next Q (hn _ _ β ?_)⟩
   refine h.write h0 trivial trivial hβ (Bc.setCells b _ _ w) ?_ ?_ (fun _ _=>⟨_,rfl⟩) (fun j hj=>by
    have hj:ob<=j∧j<ob+(A0 c cs off).length:=hj;rw[L4 (by omega)] at hj
    exact hj) (fun j hj=>by
    refine World.cell?_setCells_out b _ _ w ⟨b,j,none⟩ (fun _ _=>?_)
    have hj:¬(ob<=j∧j<ob+c.length):=hj;show j<ob+off∨ob+off+_<=j;omega)
   ·have Jf:Bb (Bz s.hp β Y) w (w.setCells b (ob+off) (a.eval y).cells.toList):=by
     have hw:=Bc.setCells b (a.eval y).cells.toList (ob+off) w;have WJ:Bz s.hp β Y b:=.inl ⟨id,ob,by rw[h0];trivial,hβ⟩
     exact⟨by rw[hw.size];exact Nat.le_refl _,fun k _ hk=>hw.other k (fun e=>hk (e ▸ WJ)),fun k _=>hw.grow k⟩
    refine⟨b,ob,hβ,fun j p hj=>?_,fun j hj=>?_⟩
    ·rcases Lo (by omega) hj with⟨h3,h4,h5⟩|⟨h3,h5⟩
     ·obtain⟨u,hu,hcu⟩:=h2.get h5;have Bl:j-off<(a.eval y).cells.toList.length:=by omega
      refine⟨u,?_,hcu.step Jf (fun _ _ x=>x) (fun _ _=>rfl)⟩
      have:=World.cell?_setCells_in b (a.eval y).cells.toList (ob+off) w hcell (j-off) Bl;rw[show ob+j=ob+off+(j-off) from by omega,this]
      rw[List.getElem?_eq_getElem Bl] at hu;exact hu
     ·obtain⟨v,hv,Tg⟩:=Hy j p h5;refine⟨v,?_,Tg.step Jf (fun _ _ x=>x) (fun _ _=>rfl)⟩
      rw[World.cell?_setCells_out b _ _ w ⟨b,ob+j,none⟩ (fun _ _=>by show ob+j<ob+off∨ob+off+_<=ob+j;omega)]
      exact hv
    ·rw[L4 (by omega)] at hj
     rw[(Bc.setCells b _ _ w).frz];exact BM j hj
   ·intro cells hx c' Lk i hi;injection hx with hx;subst hx;unfold A0 at Lk;rcases List.mem_append.1 Lk with Lk|Lk
    ·rcases List.mem_append.1 Lk with Lk|Lk
     ·exact h.wfB id c h0 c' (List.mem_of_mem_take Lk) i hi
     ·exact C5 h y i (hr c' Lk i hi)
    ·exact h.wfB id c h0 c' (List.mem_of_mem_drop Lk) i hi
  ·rename_i c h0;obtain⟨hb,hk⟩:=Ae hk;simp only[Bool.and_eq_true,decide_eq_true_eq] at hb;obtain⟨Jk,Re⟩:=hb;obtain⟨cs,m,hk,Kc,Ut,hT,hF,hm,hv⟩:=Kv h hk;obtain⟨CW,hk⟩:=Ae hk
   have CW:id ∉ m:=by
    intro hi;have:m.any (Nat.beq id)=true:=List.any_eq_true.2 ⟨id,hi,Nat.beq_refl id⟩;rw[this] at CW;cases CW
   obtain⟨_,Ab7,Iv⟩:=Kz Jk
   have WS:Au (A6 w (Bz s.hp β Y) β) (cellsOf (A7 s.tm y)) (a.eval y).cells.toList:=by
    have LD:=Bu h y;cases hp:A7 s.tm y with
    |agg ps=>
     rw[hp] at LD;obtain⟨vs,hay,h2⟩:=LD;rw[hay];exact h2
    |sc v=>
     rw[hp] at LD hF
     have HW:(a.eval y).oneCell'=true:=by
      have:=hv m (fun _ hi=>hi) hm [a.eval y] (by rw[hp];exact⟨LD,trivial⟩)
      exact this.2 _ (by simp)
     rw[Is HW];exact⟨LD,trivial⟩
    |lst z es n cc=>
     rw[hp] at LD hF
     have HW:(a.eval y).oneCell'=true:=by
      have:=hv m (fun _ hi=>hi) hm [a.eval y] (by rw[hp];exact⟨LD,trivial⟩)
      exact this.2 _ (by simp)
     rw[Is HW];exact⟨LD,trivial⟩
    |view i es oo n=>
     rw[hp] at LD hF
     have HW:(a.eval y).oneCell'=true:=by
      have:=hv m (fun _ hi=>hi) hm [a.eval y] (by rw[hp];exact⟨LD,trivial⟩)
      exact this.2 _ (by simp)
     rw[Is HW];exact⟨LD,trivial⟩
    |own es n cc=>
     have hx0:=hF (A7 s.tm y) (by rw[hp];exact List.mem_singleton_self _)
     rw[hp] at hx0;exact hx0.elim
    |ptr i cc=>
     have hx0:=hF (A7 s.tm y) (by rw[hp];exact List.mem_singleton_self _)
     rw[hp] at hx0;exact hx0.elim
    |iptr i cc=>
     have hx0:=hF (A7 s.tm y) (by rw[hp];exact List.mem_singleton_self _)
     rw[hp] at hx0;exact hx0.elim
    |pbox cc=>
     have hx0:=hF (A7 s.tm y) (by rw[hp];exact List.mem_singleton_self _)
     rw[hp] at hx0;exact hx0.elim
    |tup cc=>
     have hx0:=hF (A7 s.tm y) (by rw[hp];exact List.mem_singleton_self _)
     rw[hp] at hx0;exact hx0.elim
    |ub=>
     have hx0:=hF (A7 s.tm y) (by rw[hp];exact List.mem_singleton_self _)
     rw[hp] at hx0;exact hx0.elim
    |top=>
     have hx0:=hF (A7 s.tm y) (by rw[hp];exact List.mem_singleton_self _)
     rw[hp] at hx0;exact hx0.elim
   obtain⟨h2,h1⟩:=hv m (fun _ hi=>hi) hm _ WS
   have Ql:=h2.len;have hf:=h.freeze hm;have h0':Ac s.hp m id=some (.ar false c):=by rw[A3,if_neg CW];exact h0
   rcases hf.box id _ h0' with⟨hn,_⟩|⟨b',o',Dr,Hy,BM,_⟩
   ·rw[hβ] at hn;cases hn
   rw[hβ] at Dr;simp at Dr;obtain⟨rfl,rfl⟩:=Dr
   have hcell:∀i,i<(a.eval y).cells.toList.length->(w.cell? ⟨b,ob+off+i,none⟩).isSome=true:=by
    intro i hi;obtain⟨v,hv,_⟩:=Hy (off+i) _ (List.getElem?_eq_getElem (by omega))
    rw[B9] at hv;rw[Nat.add_assoc,hv];rfl
   have Bp:=To (P:=P) (t:=t) (w:=w) (b:=b) (j:=ob+off) (v:=a.eval y) (by rw[Iv,←Ab7,←Kc,Ql];simp) hcell (fun i hi=>by
    obtain⟨u,hu⟩:=Option.isSome_iff_exists.1 (hcell i hi);exact BM rfl _ (by omega) (Qj hu)) h1
   refine⟨_,hk,fun next Q hn=>run B0 Bp next Q (hn _ _ β ?_)⟩
   refine hf.write h0' trivial trivial hβ (Bc.setCells b _ _ w) ?_ (fun cells hx=>by cases hx) (fun _ hx=>by cases hx) (fun j hj=>hj) (fun j hj=>by
    refine World.cell?_setCells_out b _ _ w ⟨b,j,none⟩ (fun _ _=>?_)
    have hj:¬(ob<=j):=hj;show j<ob+off∨ob+off+_<=j;omega)
   have Jf:Bb (Bz (Ac s.hp m) β Y) w (w.setCells b (ob+off) (a.eval y).cells.toList):=by
    have hw:=Bc.setCells b (a.eval y).cells.toList (ob+off) w;have WJ:Bz (Ac s.hp m) β Y b:=.inl ⟨id,ob,by rw[h0'];trivial,hβ⟩
    exact⟨by rw[hw.size];exact Nat.le_refl _,fun k _ hk=>hw.other k (fun e=>hk (e ▸ WJ)),fun k _=>hw.grow k⟩
   refine .inr ⟨b,ob,hβ,fun j p hj=>?_,fun _ j hj Jh=>?_,(fun x=>by cases x)⟩
   ·rw[B9];rcases Lo (by omega) hj with⟨h3,h4,h5⟩|⟨h3,h5⟩
    ·obtain⟨u,hu,hcu⟩:=h2.get h5;have Bl:j-off<(a.eval y).cells.toList.length:=by omega
     refine⟨u,?_,h1 u (List.mem_of_getElem? hu),hcu.step Jf (fun _ _ x=>x)⟩
     have:=World.cell?_setCells_in b (a.eval y).cells.toList (ob+off) w hcell (j-off) Bl;rw[show ob+j=ob+off+(j-off) from by omega,this]
     rw[List.getElem?_eq_getElem Bl] at hu;exact hu
    ·obtain⟨v,hv,h6,Tg⟩:=Hy j p h5;rw[B9] at hv;refine⟨v,?_,h6,Tg.step Jf (fun _ _ x=>x)⟩
     rw[World.cell?_setCells_out b _ _ w ⟨b,ob+j,none⟩ (fun _ _=>by show ob+j<ob+off∨ob+off+_<=ob+j;omega)]
     exact hv
   ·rw[(Bc.setCells b _ _ w).bs] at Jh;rw[(Bc.setCells b _ _ w).frz];exact BM rfl j hj Jh
  ·cases hk
 ·cases hk
end
open Go.RowKit
theorem Fl:∀{l l':List Nat},Ck (l++l')=true->Ck l=true∧Ck l'=true∧∀i∈l,i ∉ l'
 |[],l',h=>⟨rfl,h,by simp⟩
 |a::l,l',h=>by
  simp only[List.cons_append,Ck,Bool.and_eq_true,Bool.not_eq_true'] at h;obtain⟨h1,h2⟩:=h;obtain⟨h3,h4,h5⟩:=Fl h2
  have hn:∀i∈l++l',a≠i:=by
   rintro i hi rfl
   have:(l++l').any (Nat.beq a)=true:=List.any_eq_true.2 ⟨a,hi,Nat.beq_refl a⟩;rw[this] at h1;cases h1
  refine⟨?_,h4,fun i hi=>?_⟩
  ·simp only[Ck,Bool.and_eq_true,Bool.not_eq_true',h3,and_true];rw[List.any_eq_false];intro i hi e;exact hn i (by simp[hi]) (Nat.eq_of_beq_eq_true e)
  ·rcases List.mem_cons.1 hi with rfl|hi
   ·exact fun hm=>hn i (by simp[hm]) rfl
   ·exact h5 i hi
def Ea (β:Bt)(q:Nat × Nat):Option (Nat × Nat):=(β q.1).map fun p=>(p.1,p.2+q.2)
theorem JT (β:Bt)(id:Nat):Ea β (id,0)=β id:=by
 unfold Ea;cases β id<;>rfl
section
variable {R:Type} {r:R} {P:Program} {N:Nat} {w0:World} {X0:E6} {Y:Nat->Prop} {β β':Bt} {s:St} {a:Act} {w w':World} {o:Oper} {A:Nat->Prop}
theorem I1 {fz:List Nat}{b:Nat}(h:Bz (Ac s.hp fz) β Y b):Bz s.hp β Y b:=h.imp K7 id
theorem SE (h:Br N w0 X0 Y β s a w){mv:Bool}{t:CT}{p:PV}{K:PV->List Nat->List Nat->Option R}(hk:PZ mv s.hp t p K=some r):
  ∃c m q,K c m (Option.toList q)=some r∧isA c∧X1 p∧(∀id∈m,∃f cc,s.hp id=some (.ar f cc))∧(∀id,q=some id->∃cc,s.hp id=some (.ar false cc)) ∧
   ∀fz:List Nat,(∀id∈m,id∈fz)->(∀id∈fz,∃f cc,s.hp id=some (.ar f cc))->∀v,A6 w (Bz s.hp β Y) β p v->Eo w (Bz (Ac s.hp fz) β Y) (q.bind β) c v:=by
 have frz:∀{t:CT} {p:PV} {K:PV->List Nat->List Nat->Option R},(Jn (Gj s.hp) t p fun c m=>K c m [])=some r->∃c m q,K c m (Option.toList q)=some r∧isA c∧X1 p∧(∀id∈m,∃f cc,s.hp id=some (.ar f cc))∧(∀id,q=some id->∃cc,s.hp id=some (.ar false cc)) ∧
   ∀fz:List Nat,(∀id∈m,id∈fz)->(∀id∈fz,∃f cc,s.hp id=some (.ar f cc))->∀v,A6 w (Bz s.hp β Y) β p v->Eo w (Bz (Ac s.hp fz) β Y) (q.bind β) c v:=by
  intro t p K hk;obtain⟨c,m,hk,hT,hF,hm,hv⟩:=W3 h hk;exact⟨c,m,none,hk,.inl hT,hF,hm,by simp,fun fz h1 h2 v hc=>Hc hT (hv fz h1 h2 v hc).1⟩
 have tree:∀{t:CT} {p:PV} {K:PV->List Nat->List Nat->Option R},(∀es,t ≠ .sl es)->(Sk t p fun c=>K c [] [])=some r->∃c m q,K c m (Option.toList q)=some r∧isA c∧X1 p∧(∀id∈m,∃f cc,s.hp id=some (.ar f cc))∧(∀id,q=some id->∃cc,s.hp id=some (.ar false cc)) ∧
   ∀fz:List Nat,(∀id∈m,id∈fz)->(∀id∈fz,∃f cc,s.hp id=some (.ar f cc))->∀v,A6 w (Bz s.hp β Y) β p v->Eo w (Bz (Ac s.hp fz) β Y) (q.bind β) c v:=by
  intro t p K Hh hk;obtain⟨c,hk,hT,Ws,hv⟩:=Ip hk;exact⟨c,[],none,hk,.inl hT,Le Ws,by simp,by simp,fun fz h1 h2 v hc=>Hc hT ((hv w _ β v hc).1.step (Bb.refl _ _) (fun b _ hb=>I1 hb))⟩
 unfold PZ at hk;cases t with
 |sl es=>
  dsimp only at hk;cases mv<;>simp only[cond_true,cond_false] at hk
  ·exact frz hk
  ·split at hk
   ·rename_i id es' off n;split at hk
    ·rename_i c h0;cases hb:(Nat.beq es' es&&Nat.beq off 0)<;>rw[hb] at hk<;>simp only[cond_true,cond_false] at hk
     ·exact frz hk
     ·simp only[Bool.and_eq_true] at hb;have he:=Nat.eq_of_beq_eq_true hb.1;have hof:=Nat.eq_of_beq_eq_true hb.2;subst he hof;obtain⟨hl,hk⟩:=Ae hk;refine⟨_,[],some id,hk,.inr ⟨_,_,_,rfl⟩,trivial,by simp,fun i hi=>by cases hi;exact⟨c,h0⟩,fun fz h1 h2 v hc=>?_⟩
      rcases hc with⟨h3,_,rfl,h4⟩|⟨b,ob,x,cap,h3,h4,hx,h5,h6,h7⟩
      ·exact .inl ⟨h3,rfl,by simp,h4⟩
      ·have hx:x=ob:=by rcases hx with e|⟨_,e⟩<;>omega
       subst hx;rcases h.box id _ h0 with⟨h8,_⟩|⟨b',o',h8,h9,h10,_⟩
       ·rw[h3] at h8;cases h8
       ·rw[h3] at h8;cases h8;refine .inr ⟨b,x,cap,h3,h4,h5,h6,h7,fun j p hj=>?_,h10 rfl⟩
        rw[List.getElem?_take] at hj;split at hj
        ·obtain⟨u,hu,h11,ht⟩:=h9 j p hj;exact⟨u,hu,h11,ht.step (Bb.refl _ _) (fun b _ hb=>I1 hb)⟩
        ·cases hj
    ·exact frz hk
   ·obtain⟨z,n,c,hk,hp⟩:=Dh hk;have hpF:X1 p:=by rcases hp with e|⟨e,_⟩<;>(rw[e];trivial)
    cases z<;>simp only[cond_true,cond_false] at hk
    ·refine⟨_,[],none,hk,.inl trivial,hpF,by simp,by simp,fun fz h1 h2 v hc=>?_⟩
     exact Hc trivial ((P3 hp hc).step (Bb.refl _ _) (fun b _ hb=>I1 hb))
    ·refine⟨_,[],none,hk,.inr ⟨_,_,_,rfl⟩,hpF,by simp,by simp,fun fz h1 h2 v hc=>.inl ⟨rfl,rfl,rfl,none,?_⟩⟩
     have:=P3 hp hc;cases this;rfl
 |int k=>exact tree (by simp) hk
 |bool=>exact tree (by simp) hk
 |str=>exact tree (by simp) hk
 |any=>exact tree (by simp) hk
theorem N0 (h:Br N w0 X0 Y β s a w){mv:Bool}:∀{ts:List CT}{ps:List PV}{K:List PV->List Nat->List Nat->Option R},Th mv s.hp ts ps K=some r ->
  ∃cs m x,∃q:Nat->Option Nat,K cs m x=some r∧cs.length=ts.length∧ps.length=ts.length∧(∀c∈cs,isA c)∧(∀p∈ps,X1 p)∧(∀id∈m,∃f cc,s.hp id=some (.ar f cc))∧(∀id∈x,∃cc,s.hp id=some (.ar false cc)) ∧
   (∀j id,q j=some id->id∈x)∧(Ck x=true->∀j j' id,q j=some id->q j'=some id->j=j') ∧
   ∀fz:List Nat,(∀id∈m,id∈fz)->(∀id∈fz,∃f cc,s.hp id=some (.ar f cc))->∀vs,Au (A6 w (Bz s.hp β Y) β) ps vs->∀(own:Bt) j0,(∀j,own (j0+j)=(q j).bind β)->Dd w (Bz (Ac s.hp fz) β Y) own j0 cs vs
 |[],[],K,hk=>⟨[],[],[],fun _=>none,hk,rfl,rfl,by simp,by simp,by simp,by simp,by simp,by simp,fun fz _ _ vs hv own j0 _=>by
   cases vs with
   |nil=>trivial
   |cons v vs=>exact hv.elim⟩
 |[],_::_,K,hk=>by cases hk
 |_::_,[],K,hk=>by cases hk
 |t::ts,p::ps,K,hk=>by
  unfold Th at hk;obtain⟨c,m,q,hk,hA,hF,hm,hq,hv⟩:=SE h hk;obtain⟨cs,ms,xs,qs,hk,hl,Gl,hAs,hFs,Xc,Xj,hqx,hqi,Ga⟩:=N0 h hk;refine⟨c::cs,m++ms,q.toList++xs,fun j=>match j with|0=>q|j+1=>qs j,hk,by simp[hl],by simp[Gl],?_,?_,?_,?_,?_,?_,?_⟩
  ·intro x hx;rcases List.mem_cons.1 hx with rfl|hx
   ·exact hA
   ·exact hAs x hx
  ·intro x hx;rcases List.mem_cons.1 hx with rfl|hx
   ·exact hF
   ·exact hFs x hx
  ·intro i hi;rcases List.mem_append.1 hi with hi|hi
   ·exact hm i hi
   ·exact Xc i hi
  ·intro i hi;rcases List.mem_append.1 hi with hi|hi
   ·exact hq i (by simpa using hi)
   ·exact Xj i hi
  ·intro j id hj;cases j with
   |zero=>exact List.mem_append.2 (.inl (by simpa using hj))
   |succ j=>exact List.mem_append.2 (.inr (hqx j id hj))
  ·intro hn j j' id hj Jh;obtain⟨_,h2,h3⟩:=Fl hn;cases j with
   |zero=>
    cases j' with
    |zero=>rfl
    |succ j'=>exact absurd (hqx j' id Jh) (h3 id (by simpa using hj))
   |succ j=>
    cases j' with
    |zero=>exact absurd (hqx j id hj) (h3 id (by simpa using Jh))
    |succ j'=>rw[hqi h2 j j' id hj Jh]
  ·intro fz h1 h2 vs h3 own j0 E4;cases vs with
   |nil=>exact h3.elim
   |cons v vs=>
    refine⟨?_,Ga fz (fun i hi=>h1 i (by simp[hi])) h2 vs h3.2 own (j0+1) fun j=>?_⟩
    ·have:=E4 0;rw[Nat.add_zero] at this;rw[this];exact hv fz (fun i hi=>h1 i (by simp[hi])) h2 v h3.1
    ·have:=E4 (j+1);rw[show j0+1+j=j0+(j+1) by omega]
     exact this
def LOk (hp:Nat->Option A1)(q:Option (Nat × Nat)) (p:PV)(x:Ef):Prop:=
 match x with
 |.var id off cts ws=>p=.pbox ws∧q=some (id,off)∧cts.length=ws.length∧∃c,hp id=some (.st c)∧off+ws.length<=c.length
 |.row id=>(∃ps,p=.tup ps)∧q=some (id,0)∧∃c,hp id=some (.ar false c)
 |.none=>(∃ps,p=.tup ps)∧q=none
theorem LF {hp:Nat->Option A1}{q:Option (Nat × Nat)} {p:PV}{x:Ef}(h:LOk hp q p x):Rv p=true:=by
 cases x with
 |var id off cts ws=>rw[h.1];rfl
 |row id=>obtain⟨⟨_,e⟩,_⟩:=h;rw[e];rfl
 |none=>obtain⟨⟨_,e⟩,_⟩:=h;rw[e];rfl
def Ka (hp:Nat->Option A1)(src:Nat->Nat->Option (Nat × Nat)):Nat->List PV->List Ef->Prop
 |_,[],l=>l=[]
 |i,p::ps,l=>(Rv p=false∧src i 0=none∧Ka hp src (i+1) ps l)∨∃x l',l=x::l'∧LOk hp (src i 0) p x∧Ka hp src (i+1) ps l'
theorem JC (h:Br N w0 X0 Y β s a w){C:Et}{f:FuncId}{i:Nat}{t:TypeId}{x:Operand}{K:PV->List Nat->List Nat->List Ef->Option R}(hk:Sy C P f s.hp i t (A7 s.tm x) K=some r):
  ∃v m y l,∃src:Nat->Option (Nat × Nat),K v m y l=some r∧(∀id∈m,∃f cc,s.hp id=some (.ar f cc))∧(∀id∈y,∃cc,s.hp id=some (.ar false cc)) ∧
   (∀j id off,src (j+1)=some (id,off)->off=0∧id∈y)∧(Ck y=true->∀j j' id off off',src (j+1)=some (id,off)->src (j'+1)=some (id,off')->j=j') ∧
   ((l=[]∧Rv v=false∧src 0=none)∨∃x',l=[x']∧LOk s.hp (src 0) v x') ∧
   ∀fz:List Nat,(∀id∈m,id∈fz)->(∀id∈fz,∃f cc,s.hp id=some (.ar f cc))->∀bt:Bt,(∀j,bt j=(src j).bind (Ea β))->DN w (Bz (Ac s.hp fz) β Y) bt v (a.eval x):=by
 have hx:=Bu h x
 have Kr:∀(q0:Option (Nat × Nat)) (q:Nat->Option Nat),∃src:Nat->Option (Nat × Nat),src 0=q0∧(∀j,src (j+1)=(q j).map fun id=>(id,0)):=
  fun q0 q=>⟨fun j=>match j with|0=>q0|j+1=>(q j).map fun id=>(id,0),rfl,fun _=>rfl⟩
 have DJ:∀{src:Nat->Option (Nat × Nat)} {q:Nat->Option Nat} {y:List Nat},(∀j,src (j+1)=(q j).map fun id=>(id,0))->(∀j id,q j=some id->id∈y)->∀j id off,src (j+1)=some (id,off)->off=0∧id∈y:=by
  intro src q y h1 h2 j id off hj;rw[h1] at hj;cases hq:q j with
  |none=>rw[hq] at hj;cases hj
  |some k=>rw[hq] at hj;cases hj;exact⟨rfl,h2 j _ hq⟩
 have DQ:∀{src:Nat->Option (Nat × Nat)} {q:Nat->Option Nat} {y:List Nat},(∀j,src (j+1)=(q j).map fun id=>(id,0))->(Ck y=true->∀j j' id,q j=some id->q j'=some id->j=j') ->
   Ck y=true->∀j j' id off off',src (j+1)=some (id,off)->src (j'+1)=some (id,off')->j=j':=by
  intro src q y h1 h2 hn j j' id off off' hj Jh;rw[h1] at hj Jh;cases hq:q j with
  |none=>rw[hq] at hj;cases hj
  |some k=>
   cases Dp:q j' with
   |none=>rw[Dp] at Jh;cases Jh
   |some k'=>
    rw[hq] at hj;rw[Dp] at Jh;cases hj;cases Jh;exact h2 hn j j' _ hq Dp
 have E4:∀{src:Nat->Option (Nat × Nat)} {q:Nat->Option Nat} {bt:Bt},(∀j,src (j+1)=(q j).map fun id=>(id,0))->(∀j,bt j=(src j).bind (Ea β))->∀j,bt (1+j)=(q j).bind β:=by
  intro src q bt h1 h2 j;rw[Nat.add_comm,h2,h1];cases q j with
  |none=>rfl
  |some id=>exact JT β id
 unfold Sy at hk;split at hk
 ·rename_i e he;split at hk
  ·rename_i id off ep;rw[ep] at hx;split at hk
   ·rename_i c h0;obtain⟨hb,hk⟩:=Ae hk;simp only[Bool.and_eq_true,decide_eq_true_eq] at hb;obtain⟨cs,m,y,q,hk,hl,Gl,hA,hF,hm,hy,Yz,Uo,hv⟩:=N0 h hk;obtain⟨src,GZ,hs⟩:=Kr (some (id,off)) q;obtain⟨b,ob,hβ,B0⟩:=hx;refine⟨_,m,y,_,src,hk,hm,hy,DJ hs Yz,DQ hs Uo,.inr ⟨_,rfl,rfl,GZ,hl.symm,c,h0,by omega⟩,fun fz h1 h2 bt P4=>?_⟩
    obtain⟨b',o',Dr,Hy,BM⟩:=h.box id _ h0;rw[hβ] at Dr;cases Dr;have C3:((c.drop off).take (E9 P e).length).length=(E9 P e).length:=by simp;omega
    have SR:∀j p,((c.drop off).take (E9 P e).length)[j]?=some p->c[off+j]?=some p∧j<(E9 P e).length:=by
     intro j p hj;rw[List.getElem?_take] at hj;split at hj
     ·rw[List.getElem?_drop] at hj;exact⟨hj,by assumption⟩
     ·cases hj
    refine⟨b,ob+off,by rw[P4,GZ];simp[Ea,hβ],B0,hA,((c.drop off).take (E9 P e).length).mapIdx (fun j _=>(w.cell? ⟨b,ob+off+j,none⟩).getD undef),hv fz h1 h2 _ ?_ bt 1 (E4 hs P4),?_,fun k hk=>?_⟩
    ·refine Au.of_at (by simp) fun j p v hp hv=>?_
     obtain⟨hc,_⟩:=SR j p hp;obtain⟨u,hu,CP⟩:=Hy _ _ hc;rw[List.getElem?_mapIdx,hp,Option.map_some,Nat.add_assoc,hu] at hv;simp at hv;subst hv;exact CP
    ·intro k v PK;rw[List.getElem?_mapIdx] at PK;cases hp:((c.drop off).take (E9 P e).length)[k]? with
     |none=>rw[hp] at PK;cases PK
     |some p=>
      obtain⟨hc,_⟩:=SR k p hp;obtain⟨u,hu,CP⟩:=Hy _ _ hc;rw[hp,Option.map_some,Nat.add_assoc,hu] at PK;simp at PK;subst PK;rw[Nat.add_assoc];exact hu
    ·rw[Nat.add_assoc];exact BM _ (by omega)
   ·cases hk
  ·cases hk
 ·cases hln:C.lnd f i<;>rw[hln] at hk<;>simp only[cond_true,cond_false] at hk
  ·cases Dy:A8 P t<;>rw[Dy] at hk<;>simp only[cond_true,cond_false] at hk
   ·obtain⟨cs,m,y,q,hk,hl,Gl,hA,hF,hm,hy,Yz,Uo,hv⟩:=N0 h hk;obtain⟨c,t',rfl,hk⟩:=Ap hk;obtain⟨rfl,hk⟩:=B5 hk;obtain⟨src,GZ,hs⟩:=Kr none q;have hAc:=hA c (by simp)
    refine⟨c,m,y,_,src,hk,hm,hy,DJ hs Yz,DQ hs Uo,.inl ⟨rfl,YW hAc,GZ⟩,fun fz h1 h2 bt P4=>?_⟩
    have hFx:=hF _ (List.mem_singleton_self _)
    have hxc:A6 w (Bz s.hp β Y) β (A7 s.tm x) (a.eval x):=by
     cases hp:A7 s.tm x<;>rw[hp] at hx hFx<;>first|exact hx|exact hFx.elim
    have hoc:=(hv fz h1 h2 [a.eval x] ⟨hxc,trivial⟩ bt 1 (E4 hs P4)).1;rcases hAc with hT|⟨es,n,cc,rfl⟩
    ·cases c<;>first|exact⟨.inl trivial,hoc⟩|exact hT.elim
    ·exact⟨.inr ⟨_,_,_,rfl⟩,hoc⟩
   ·obtain⟨ps,ep,hk⟩:=Eu hk;rw[ep] at hx;obtain⟨vs,B0,h3⟩:=hx;obtain⟨cs,m,y,q,hk,hl,Gl,hA,hF,hm,hy,Yz,Uo,hv⟩:=N0 h hk;obtain⟨src,GZ,hs⟩:=Kr none q;refine⟨_,m,y,_,src,hk,hm,hy,DJ hs Yz,DQ hs Uo,.inl ⟨rfl,rfl,GZ⟩,fun fz h1 h2 bt P4=>?_⟩
    exact⟨vs,B0,hA,hv fz h1 h2 vs h3 bt 1 (E4 hs P4)⟩
  ·obtain⟨e,he,hk⟩:=Bn hk;unfold QZ at hk;split at hk
   ·rename_i id es' off n ep;rw[ep] at hx;split at hk
    ·rename_i c h0;obtain⟨hb,Dc⟩:=Ae hk;simp only[Bool.and_eq_true] at hb;have he:=Nat.eq_of_beq_eq_true hb.1;have hof:=Nat.eq_of_beq_eq_true hb.2;subst hof;obtain⟨src,GZ,hs⟩:=Kr (some (id,0)) (fun _=>none)
     refine⟨_,[],[],_,src,Dc,by simp,by simp,DJ hs (by simp),DQ hs (by simp),.inr ⟨_,rfl,⟨_,rfl⟩,GZ,c,h0⟩,fun fz h1 h2 bt P4=>⟨_,_,_,rfl,?_⟩⟩
     have DE:bt 0=β id:=by rw[P4,GZ];exact JT β id
     rw[DE];rcases hx with⟨h3,_,h4,h5⟩|⟨b,ob,y,cap,h3,h4,hy,h5,h6,h7⟩
     ·refine .inl ⟨h3,h4,?_,h5⟩;rcases h.box id _ h0 with⟨_,h8⟩|⟨_,_,h8,_⟩
      ·exact h8
      ·rw[h3] at h8;cases h8
     ·have hy:y=ob:=by rcases hy with e|⟨_,e⟩<;>omega
      subst hy;rcases h.box id _ h0 with⟨h8,_⟩|⟨b',o',h8,h9,h10,_⟩
      ·rw[h3] at h8;cases h8
      ·rw[h3] at h8;cases h8;exact .inr ⟨b,y,cap,h3,h4,h5,by rw[←he];exact h6,h7,h9.weak (fun b _ hb=>I1 hb),h10 rfl⟩
    ·cases hk
   ·obtain⟨z,n,c,hk,hp⟩:=Dh hk;obtain⟨hz,hk⟩:=Ae hk;subst hz;obtain⟨src,GZ,hs⟩:=Kr none (fun _=>none)
    have hu:a.eval x=.slice none 0 0:=by
     have hF:A6 w (Bz s.hp β Y) β (A7 s.tm x) (a.eval x):=by rcases hp with e|⟨e,_⟩<;>rw[e] at hx ⊢ <;> exact hx
     have:=P3 hp hF;generalize a.eval x=u at this;cases this;rfl
    refine⟨_,[],[],_,src,hk,by simp,by simp,DJ hs (by simp),DQ hs (by simp),.inr ⟨_,rfl,⟨_,rfl⟩,GZ⟩,fun fz h1 h2 bt P4=>⟨_,_,_,rfl,.inl ⟨by rw[P4,GZ];rfl,rfl,rfl,none,hu⟩⟩⟩
structure Akx (i0 n:Nat) (src:Nat->Nat->Option (Nat × Nat)) (ids x:List Nat):Prop where
 dom:∀i j q,src i j=some q->i0<=i∧i<i0+n
 lent:∀i id off,src i 0=some (id,off)->id∈ids
 mvd:∀i j id off,src i (j+1)=some (id,off)->off=0∧id∈x
 inj0:Ck ids=true->∀i i' id off off',src i 0=some (id,off)->src i' 0=some (id,off')->i=i'
 inj1:Ck x=true->∀i i' j j' id off off',src i (j+1)=some (id,off)->src i' (j'+1)=some (id,off')->i=i'∧j=j'
theorem Pg {hp:Nat->Option A1}{src src':Nat->Nat->Option (Nat × Nat)}:∀{ps:List PV}{i:Nat}{l:List Ef},(∀k,i<=k->src' k=src k)->Ka hp src i ps l->Ka hp src' i ps l
 |[],_,_,_,h=>h
 |p::ps,i,l,hs,h=>by
  rcases h with⟨h1,h2,h3⟩|⟨x,l',rfl,h2,h3⟩
  ·exact .inl ⟨h1,by rw[hs i (Nat.le_refl _)];exact h2,Pg (fun k hk=>hs k (by omega)) h3⟩
  ·exact .inr ⟨x,l',rfl,by rw[hs i (Nat.le_refl _)];exact h2,Pg (fun k hk=>hs k (by omega)) h3⟩
theorem Tf {bt bt':T8}:∀{ps:List PV}{us:List Value}{i:Nat},(∀k,i<=k->∀j,bt' k j=bt k j)->Ih w A bt i ps us->Ih w A bt' i ps us
 |[],[],_,_,_=>trivial
 |[],_::_,_,_,h=>h.elim
 |_::_,[],_,_,h=>h.elim
 |_::_,_::_,i,hb,h=>⟨by rw[show bt' i=bt i from funext (hb i (Nat.le_refl _))];exact h.1,Tf (fun k hk=>hb k (by omega)) h.2⟩
theorem Zj (h:Br N w0 X0 Y β s a w){C:Et}{f:FuncId}:∀{ts:List TypeId}{xs:List Operand}{i:Nat}{K:List PV->List Nat->List Nat->List Ef->Option R},Yr C P f s.hp i ts (xs.map (A7 s.tm)) K=some r ->
  ∃vs m y l,∃src:Nat->Nat->Option (Nat × Nat),K vs m y l=some r∧(∀id∈m,∃f cc,s.hp id=some (.ar f cc))∧(∀id∈y,∃cc,s.hp id=some (.ar false cc)) ∧
   Akx i xs.length src (l.flatMap Ef.ids) y∧Ka s.hp src i vs l ∧
   ∀fz:List Nat,(∀id∈m,id∈fz)->(∀id∈fz,∃f cc,s.hp id=some (.ar f cc))->∀bt:T8,(∀i j,bt i j=(src i j).bind (Ea β))->Ih w (Bz (Ac s.hp fz) β Y) bt i vs (xs.map a.eval)
 |[],[],i,K,hk=>⟨[],[],[],[],fun _ _=>none,hk,by simp,by simp,⟨by simp,by simp,by simp,by simp,by simp⟩,rfl,fun _ _ _ _ _=>trivial⟩
 |[],_::_,i,K,hk=>by cases hk
 |_::_,[],i,K,hk=>by cases hk
 |t::ts,x::xs,i,K,hk=>by
  simp only[List.map_cons] at hk;unfold Yr at hk;obtain⟨v,m,y,l,src,hk,hm,hy,WG,hs2,hl,hv⟩:=JC h hk;obtain⟨vs,ms,ys,ls,srcs,hk,Xc,hys,hS,hL,Ga⟩:=Zj h hk;have Kr:∃sr:Nat->Nat->Option (Nat × Nat),sr i=src∧∀k,k≠i->sr k=srcs k:=⟨fun k=>if k=i then src else srcs k,by simp,fun k hk=>by simp[hk]⟩
  obtain⟨sr,VV,MB⟩:=Kr
  have X8:∀id off,src 0=some (id,off)->id∈l.flatMap Ef.ids:=by
   intro id off e;rcases hl with⟨_,_,h3⟩|⟨x',rfl,h3⟩
   ·rw[h3] at e;cases e
   ·cases x' with
    |var id' off' cts ws=>rw[h3.2.1] at e;cases e;simp[Ef.ids]
    |row id'=>rw[h3.2.1] at e;cases e;simp[Ef.ids]
    |none=>rw[h3.2] at e;cases e
  refine⟨v::vs,m++ms,y++ys,l++ls,sr,hk,?_,?_,⟨?_,?_,?_,?_,?_⟩,?_,fun fz h1 h2 bt P4=>⟨?_,?_⟩⟩
  ·intro i hi;rcases List.mem_append.1 hi with hi|hi
   ·exact hm i hi
   ·exact Xc i hi
  ·intro i hi;rcases List.mem_append.1 hi with hi|hi
   ·exact hy i hi
   ·exact hys i hi
  ·intro k j q hq;simp only[List.length_cons];by_cases e:k=i
   ·subst e;omega
   ·rw[MB k e] at hq;have:=hS.dom k j q hq;omega
  ·intro k id off hq;rw[List.flatMap_append];by_cases e:k=i
   ·subst e;rw[VV] at hq;exact List.mem_append.2 (.inl (X8 id off hq))
   ·rw[MB k e] at hq;exact List.mem_append.2 (.inr (hS.lent k id off hq))
  ·intro k j id off hq;by_cases e:k=i
   ·subst e;rw[VV] at hq;exact⟨(WG j id off hq).1,List.mem_append.2 (.inl (WG j id off hq).2)⟩
   ·rw[MB k e] at hq;exact⟨(hS.mvd k j id off hq).1,List.mem_append.2 (.inr (hS.mvd k j id off hq).2)⟩
  ·intro hn k k' id off off' hq Dp;rw[List.flatMap_append] at hn;obtain⟨_,h4,h5⟩:=Fl hn;by_cases e:k=i
   ·by_cases e':k'=i
    ·omega
    ·rw[MB k' e'] at Dp;subst e;rw[VV] at hq;exact absurd (hS.lent k' id off' Dp) (h5 id (X8 id off hq))
   ·rw[MB k e] at hq;by_cases e':k'=i
    ·subst e';rw[VV] at Dp;exact absurd (hS.lent k id off hq) (h5 id (X8 id off' Dp))
    ·rw[MB k' e'] at Dp;exact hS.inj0 h4 k k' id off off' hq Dp
  ·intro hn k k' j j' id off off' hq Dp;obtain⟨h3,h4,h5⟩:=Fl hn;by_cases e:k=i
   ·by_cases e':k'=i
    ·subst e;subst e';rw[VV] at hq Dp;exact⟨rfl,hs2 h3 j j' id off off' hq Dp⟩
    ·rw[MB k' e'] at Dp;subst e;rw[VV] at hq;exact absurd (hS.mvd k' j' id off' Dp).2 (h5 id (WG j id off hq).2)
   ·rw[MB k e] at hq;by_cases e':k'=i
    ·subst e';rw[VV] at Dp;exact absurd (hS.mvd k j id off hq).2 (h5 id (WG j' id off' Dp).2)
    ·rw[MB k' e'] at Dp;exact hS.inj1 h4 k k' j j' id off off' hq Dp
  ·have O4:Ka s.hp sr (i+1) vs ls:=Pg (fun k hk=>MB k (by omega)) hL
   rcases hl with⟨rfl,hnp,h3⟩|⟨x',rfl,h3⟩
   ·exact .inl ⟨hnp,by rw[VV];exact h3,O4⟩
   ·exact .inr ⟨x',ls,rfl,by rw[VV];exact h3,O4⟩
  ·exact hv fz (fun i hi=>h1 i (by simp[hi])) h2 (bt i) (fun j=>by rw[P4,VV])
  ·refine Ga fz (fun i hi=>h1 i (by simp[hi])) h2 (fun k j=>(srcs k j).bind (Ea β)) (fun _ _=>rfl) |> Tf fun k hk j=>?_
   rw[P4,MB k (by omega)]
end
open Go.RowKit
section
variable {R:Type} {r:R} {P:Program} {N:Nat} {w0:World} {X0:E6} {Y:Nat->Prop} {β β':Bt} {s:St} {a:Act} {w w':World} {o:Oper} {A:Nat->Prop}
theorem RU {p:PV}{u:Value}(h:Ao w A p u):A6 w A β p u:=by
 have h0:=h;cases h<;>exact h0
theorem TA {t:Nat}{ct:CT}{was p:PV}{K:Nat->PV->List (Nat × A1)->Option R} (hk:MY N t ct was p K=some r):
  (∃c,K t c []=some r∧O0 c∧∀w A q u,Eo w A q p u->Ao w A c u)∨∃es n cc,p=.own es n cc∧K (t+1) (.view (GW N t) es 0 n) [(GW N t,.ar false cc)]=some r:=by
 have tree:∀t',(Sk t' p fun c=>K t c [])=some r->∃c,K t c []=some r∧O0 c∧∀w A q u,Eo w A q p u->Ao w A c u:=by
  intro t' hk;obtain⟨c,hk,hT,Ws,hv⟩:=Ip hk;refine⟨c,hk,hT,fun w A q u h=>(hv w A (fun _=>none) u ?_).1⟩
  cases p<;>first|exact h|exact Ws.elim
 unfold MY at hk;cases ct with
 |sl es=>
  dsimp only at hk;split at hk
  ·unfold M4 at hk;split at hk
   ·rename_i es' n c;cases hb:Nat.beq es' es<;>rw[hb] at hk
    ·cases hk
    ·have:=Nat.eq_of_beq_eq_true hb;subst this;exact .inr ⟨_,_,_,rfl,hk⟩
   ·cases hk
  ·have h2:(Sk (.sl es) p fun c=>(match c with | .lst _ es n c=>K t (.lst false es n c) []|_=>none))=some r:=hk
   obtain⟨c,hk,hT,Ws,hv⟩:=Ip h2;split at hk
   ·refine .inl ⟨_,hk,hT,fun w A q u h=>Ao.unz (hv w A (fun _=>none) u ?_).1⟩
    cases p<;>first|exact h|exact Ws.elim
   ·cases hk
 |int k=>exact .inl (tree _ hk)
 |bool=>exact .inl (tree _ hk)
 |str=>exact .inl (tree _ hk)
 |any=>exact .inl (tree _ hk)
theorem R5:∀{cts:List CT}{ws ps:List PV}{t:Nat}{K:Nat->List PV->List (Nat × A1)->Option R},Y2 N t cts ws ps K=some r ->
  ∃t' cs bs,∃qs:List (Nat × Nat),K t' cs bs=some r∧cs.length=ps.length∧ps.length=ws.length∧bs.map (·.1)=qs.map (·.1)∧(∀q∈qs,(∃k,q.1=GW N k)∧q.2<ps.length)∧(∀q∈qs,∀q'∈qs,q.2=q'.2->q.1=q'.1) ∧
   (∀i bx,(i,bx)∈bs->∃c,bx=.ar false c)∧(∀c∈cs,∀i∈Ai c,∃bx,(i,bx)∈bs) ∧
   ∀(w:World) (A:Nat->Prop) (own β':Bt) (j0:Nat) (us:List Value),(∀q∈qs,β' q.1=own (j0+q.2))->Dd w A own j0 ps us->Au (A6 w A β') cs us∧∀i bx,(i,bx)∈bs->L0 w A β' i bx
 |[],[],ps,t,K,hk=>by
  obtain⟨rfl,hk⟩:=B5 hk;refine⟨t,[],[],[],hk,rfl,rfl,rfl,by simp,by simp,by simp,by simp,fun w A own β' j0 us _ h=>⟨?_,by simp⟩⟩
  cases us with
  |nil=>trivial
  |cons u us=>exact h.elim
 |[],_::_,_,_,_,hk=>by cases hk
 |_::_,[],_,_,_,hk=>by cases hk
 |ct::cts,x::ws,ps,t,K,hk=>by
  unfold Y2 at hk;obtain⟨p,ps',Xk,Cn⟩:=Ap hk;subst Xk;rcases TA Cn with⟨c,Dc,hT,hv⟩|⟨es,n,cc,rfl,Dc⟩
  ·obtain⟨t',cs,bs,qs,Lb,hl,Gl,hb,Yz,Uo,Dr,Hy,Ga⟩:=R5 Dc;refine⟨t',c::cs,bs,qs.map (fun q=>(q.1,q.2+1)),Lb,by simp[hl],by simp[Gl],by rw[hb];simp,?_,?_,Dr,?_,fun w A own β' j0 us hβ ho=>?_⟩
   ·intro q hq;obtain⟨q0,Pq,rfl⟩:=List.mem_map.1 hq;exact⟨(Yz q0 Pq).1,by have:=(Yz q0 Pq).2;simp only[List.length_cons];omega⟩
   ·intro q hq q' Dp e;obtain⟨q0,Pq,rfl⟩:=List.mem_map.1 hq;obtain⟨q1,F2,rfl⟩:=List.mem_map.1 Dp;exact Uo q0 Pq q1 F2 (by simp only at e;omega)
   ·intro y hy i hi;rcases List.mem_cons.1 hy with rfl|hy
    ·rw[Ey hT] at hi;cases hi
    ·exact Hy y hy i hi
   ·cases us with
    |nil=>exact ho.elim
    |cons u us=>
     obtain⟨h1,h2⟩:=Ga w A own β' (j0+1) us (fun q hq=>by rw[hβ _ (List.mem_map_of_mem hq)];congr 1;simp only;omega) ho.2
     exact⟨⟨RU (hv w A _ u ho.1),h1⟩,h2⟩
  ·obtain⟨t',cs,bs,qs,Lb,hl,Gl,hb,Yz,Uo,Dr,Hy,Ga⟩:=R5 Dc;refine⟨t',_::cs,(GW N t,.ar false cc)::bs,(GW N t,0)::qs.map (fun q=>(q.1,q.2+1)),Lb,by simp[hl],by simp[Gl],by simp only[List.map_cons,hb];simp,?_,?_,?_,?_,fun w A own β' j0 us hβ ho=>?_⟩
   ·intro q hq;rcases List.mem_cons.1 hq with rfl|hq
    ·exact⟨⟨t,rfl⟩,by simp⟩
    ·obtain⟨q0,Pq,rfl⟩:=List.mem_map.1 hq;exact⟨(Yz q0 Pq).1,by have:=(Yz q0 Pq).2;simp only[List.length_cons];omega⟩
   ·intro q hq q' Dp e;rcases List.mem_cons.1 hq with rfl|hq
    ·rcases List.mem_cons.1 Dp with rfl|Dp
     ·rfl
     ·obtain⟨q0,Pq,rfl⟩:=List.mem_map.1 Dp;simp only at e;omega
    ·obtain⟨q0,Pq,rfl⟩:=List.mem_map.1 hq;rcases List.mem_cons.1 Dp with rfl|Dp
     ·simp only at e;omega
     ·obtain⟨q1,F2,rfl⟩:=List.mem_map.1 Dp;exact Uo q0 Pq q1 F2 (by simp only at e;omega)
   ·intro i bx hm;rcases List.mem_cons.1 hm with e|hm
    ·cases e;exact⟨cc,rfl⟩
    ·exact Dr i bx hm
   ·intro y hy i hi;rcases List.mem_cons.1 hy with rfl|hy
    ·simp only[Ai,List.mem_singleton] at hi;subst hi;exact⟨_,List.mem_cons_self⟩
    ·obtain⟨bx,H5⟩:=Hy y hy i hi;exact⟨bx,List.mem_cons_of_mem _ H5⟩
   ·cases us with
    |nil=>exact ho.elim
    |cons u us=>
     obtain⟨h1,h2⟩:=Ga w A own β' (j0+1) us (fun q hq=>by rw[hβ _ (List.mem_cons_of_mem _ (List.mem_map_of_mem hq))];congr 1;simp only;omega) ho.2
     have h0:=hβ (GW N t,0) List.mem_cons_self;simp only[Nat.add_zero] at h0;refine⟨⟨?_,h1⟩,fun i bx hm=>?_⟩
     ·rcases ho.1 with⟨h3,rfl,_,h5⟩|⟨b,ob,cap,h3,h4,h5,h6,h7,_⟩
      ·exact .inl ⟨h0.trans h3,rfl,rfl,h5⟩
      ·exact .inr ⟨b,ob,ob,cap,h0.trans h3,h4,.inl rfl,h5,h6,h7⟩
     ·rcases List.mem_cons.1 hm with e|hm
      ·cases e;exact Rs ho.1 h0
      ·exact h2 i bx hm
def JV (hp Bq:Nat->Option A1)(bs:List (Nat × A1)) (x:Ef):Prop:=
 match x with
 |.var id off _ ws=>∃c cs,hp id=some (.st c)∧Bq id=some (.st (A0 c cs off))∧cs.length=ws.length∧off+cs.length<=c.length∧∀p∈cs,∀i∈Ai p,∃bx,(i,bx)∈bs
 |.row id=>∃c cs,hp id=some (.ar false c)∧Bq id=some (.ar false cs)
 |.none=>True
def UQ (β β':Bt)(w':World)(A:Nat->Prop)(hp Bq:Nat->Option A1)(x:Ef):Prop:=
 match x with
 |.var id off _ ws=>∃c cs,hp id=some (.st c)∧Bq id=some (.st (A0 c cs off))∧cs.length=ws.length∧off+cs.length<=c.length ∧
   ∀b o,β id=some (b,o)->(∀(j:Nat) p,cs[j]?=some p->∃v,w'.cell? ⟨b,o+off+j,none⟩=some v∧A6 w' A β' p v)∧∀j,j<cs.length->w'.frozen? ⟨b,o+off+j,none⟩=false
 |.row id=>∃cs,Bq id=some (.ar false cs)∧((β id=none∧cs=[])∨∃b o,β id=some (b,o)∧CM w' A ⟨b,o,none⟩ cs∧∀j,o<=j->j<bsz w' b->w'.frozen? ⟨b,j,none⟩=false)
 |.none=>True
theorem Rm {hp Cc Bq:Nat->Option A1}{bs bs1:List (Nat × A1)} {x:Ef}(h1:∀i∈x.ids,Cc i=hp i)(hb:∀q∈bs,q∈bs1)(h:JV Cc Bq bs x):JV hp Bq bs1 x:=by
 cases x with
 |var id off cts ws=>
  obtain⟨c,cs,h2,h3,h4,h5,h6⟩:=h;refine⟨c,cs,by rw[←h1 id (by simp[Ef.ids])];exact h2,h3,h4,h5,fun p hp i hi=>?_⟩
  obtain⟨bx,H5⟩:=h6 p hp i hi;exact⟨bx,hb _ H5⟩
 |row id=>
  obtain⟨c,cs,h2,h3⟩:=h;exact⟨c,cs,by rw[←h1 id (by simp[Ef.ids])];exact h2,h3⟩
 |none=>trivial
theorem S9 {hp Cc Bq:Nat->Option A1}{x:Ef}(h1:∀i∈x.ids,Cc i=hp i)(h:UQ β β' w' A Cc Bq x):UQ β β' w' A hp Bq x:=by
 cases x with
 |var id off cts ws=>
  obtain⟨c,cs,h2,h3⟩:=h;exact⟨c,cs,by rw[←h1 id (by simp[Ef.ids])];exact h2,h3⟩
 |row id=>exact h
 |none=>trivial
theorem OA {hp Cc:Nat->Option A1}{q:Option (Nat × Nat)} {p:PV}{x:Ef}(h1:∀i∈x.ids,Cc i=hp i)(h:LOk hp q p x):LOk Cc q p x:=by
 cases x with
 |var id off cts ws'=>
  obtain⟨h2,h3,h5,c,h6,h7⟩:=h;exact⟨h2,h3,h5,c,by rw[h1 id (by simp[Ef.ids])];exact h6,h7⟩
 |row id=>
  obtain⟨h2,h3,c,h4⟩:=h;exact⟨h2,h3,c,by rw[h1 id (by simp[Ef.ids])];exact h4⟩
 |none=>exact h
theorem Q0 {hp Cc:Nat->Option A1}{src:Nat->Nat->Option (Nat × Nat)}:∀{ps:List PV}{i:Nat}{l:List Ef},(∀i∈l.flatMap Ef.ids,Cc i=hp i)->Ka hp src i ps l->Ka Cc src i ps l
 |[],_,_,_,h=>h
 |p::ps,i,l,hs,h=>by
  rcases h with⟨h1,h2,h3⟩|⟨x,l',rfl,h2,h3⟩
  ·exact .inl ⟨h1,h2,Q0 hs h3⟩
  ·exact .inr ⟨x,l',rfl,OA (fun k hk=>hs k (by simp only[List.flatMap_cons,List.mem_append];exact .inl hk)) h2,Q0 (fun k hk=>hs k (by simp only[List.flatMap_cons,List.mem_append];exact .inr hk)) h3⟩
theorem KE {own:Bt}{bt:T8}{j i:Nat}{p:PV}{zs:List PV}{r:List (List PV)} (hp:Rv p=false)(h:F7 w A own bt j i (p::zs) r):F7 w A own bt j (i+1) zs r:=by
 cases p<;>first|exact h|cases hp
theorem Ml {src:Nat->Nat->Option (Nat × Nat)} {β:Bt}:∀{zs:List PV}{l:List Ef}{ro:List (List PV)} {i j t:Nat}{hp:Nat->Option A1}{K:(Nat->Option A1)->List (Nat × A1)->Option R},
  Pm N t l ro hp K=some r->Ka hp src i zs l->Ck (l.flatMap Ef.ids)=true ->
  ∃Bq bs,∃qs:List (Nat × Nat),K Bq bs=some r∧bs.map (·.1)=qs.map (·.1)∧(∀q∈qs,(∃k,q.1=GW N k)∧j<=q.2)∧(∀q∈qs,∀q'∈qs,q.2=q'.2->q.1=q'.1)∧(∀i bx,(i,bx)∈bs->∃c,bx=.ar false c) ∧
   (∀i,i ∉ l.flatMap Ef.ids->Bq i=hp i)∧(∀x∈l,JV hp Bq bs x) ∧
   ∀(w':World) (A:Nat->Prop) (own β':Bt) (bt:T8),(∀q∈qs,β' q.1=own q.2)->(∀i,bt i 0=(src i 0).bind (Ea β))->F7 w' A own bt j i zs ro ->
    (∀i bx,(i,bx)∈bs->L0 w' A β' i bx)∧∀x∈l,UQ β β' w' A hp Bq x
 |[],l,ro,i,j,t,hp,K,hk,hL,hn=>by
  have hL:l=[]:=hL;subst hL;unfold Pm at hk;obtain⟨rfl,hk⟩:=B5 hk;exact⟨hp,[],[],hk,rfl,by simp,by simp,by simp,fun _ _=>rfl,by simp,fun w' A own β' bt _ _ _=>⟨by simp,by simp⟩⟩
 |p::zs,l0,ro,i,j,t,hp,K,hk,hL0,hn=>by
  rcases hL0 with⟨Ut,_,hL⟩|⟨x,l,rfl,Jk,hL⟩
  rotate_left
  ··simp only[List.flatMap_cons] at hn;obtain⟨DZ,WB,hn3⟩:=Fl hn;cases x with
    |var id off cts ws'=>
     obtain⟨rfl,Kr,Kc,c,hc,Re⟩:=Jk;unfold Pm at hk;obtain⟨cs,ro',hro,Cn⟩:=Ap hk;subst hro;obtain⟨t',cs',bs,qs,Dc,Wi,CV,hb,Yz,Uo,Dr,Hy,hv⟩:=R5 Cn;rw[hc] at Dc;simp only at Dc;change Pm N t' l ro' (Bg hp id (some (.st (A0 c cs' off)))) (fun Bq bs'=>K Bq (bs++bs'))=some r at Dc
     have II:id ∉ l.flatMap Ef.ids:=hn3 id (by simp[Ef.ids])
     have PL:Ka (Bg hp id (some (.st (A0 c cs' off)))) src (i+1) zs l:=Q0 (fun k XG=>Ad _ _ (fun e=>II (e ▸ XG))) hL
     obtain⟨Bq,bs',qs',Lb,E1,F2,JX,HE,Hp,QR,CG⟩:=Ml (β:=β) (j:=j+cs.length) Dc PL WB;have SV:Bq id=some (.st (A0 c cs' off)):=by rw[Hp id II,Af]
     have Vb:∀x∈l,∀k∈x.ids,Bg hp id (some (.st (A0 c cs' off))) k=hp k:=fun x hx k XG=>Ad _ _ (fun e=>II (e ▸ List.mem_flatMap.2 ⟨x,hx,XG⟩))
     refine⟨Bq,bs++bs',qs.map (fun q=>(q.1,j+q.2))++qs',Lb,by simp only[List.map_append,hb,E1];simp,?_,?_,?_,?_,?_,fun w' A own β' bt hβ P4 ho=>?_⟩
     ·intro q hq;rcases List.mem_append.1 hq with hq|hq
      ·obtain⟨q0,Pq,rfl⟩:=List.mem_map.1 hq;exact⟨(Yz q0 Pq).1,by simp only;omega⟩
      ·exact⟨(F2 q hq).1,by have:=(F2 q hq).2;omega⟩
     ·intro q hq q' Dp e;rcases List.mem_append.1 hq with hq|hq
      ·obtain⟨q0,Pq,rfl⟩:=List.mem_map.1 hq;have:=(Yz q0 Pq).2;rcases List.mem_append.1 Dp with Dp|Dp
       ·obtain⟨q1,F2,rfl⟩:=List.mem_map.1 Dp;exact Uo q0 Pq q1 F2 (by simp only at e;omega)
       ·have:=(F2 q' Dp).2;simp only at e;omega
      ·have h5:=(F2 q hq).2;rcases List.mem_append.1 Dp with Dp|Dp
       ·obtain⟨q1,Ago,rfl⟩:=List.mem_map.1 Dp;have:=(Yz q1 Ago).2;simp only at e;omega
       ·exact JX q hq q' Dp e
     ·intro k bx hm;rcases List.mem_append.1 hm with hm|hm
      ·exact Dr k bx hm
      ·exact HE k bx hm
     ·intro k hk;simp only[List.flatMap_cons,List.mem_append,not_or] at hk;rw[Hp k hk.2];exact Ad _ _ (by rintro rfl;exact hk.1 (by simp[Ef.ids]))
     ·intro x hx;rcases List.mem_cons.1 hx with rfl|hx
      ·refine⟨c,cs',hc,SV,by omega,by omega,fun p hp k hk=>?_⟩
       obtain⟨bx,H5⟩:=Hy p hp k hk;exact⟨bx,List.mem_append.2 (.inl H5)⟩
      ·exact Rm (Vb x hx) (fun q hq=>List.mem_append.2 (.inr hq)) (QR x hx)
     ·obtain⟨⟨b,ob,DE,C3,vs,hov,hcell,WP⟩,ho⟩:=ho
      ·obtain⟨h1,h2⟩:=hv w' A own β' j vs (fun q hq=>hβ _ (List.mem_append.2 (.inl (List.mem_map_of_mem hq)))) hov
       obtain⟨h3,h4⟩:=CG w' A own β' bt (fun q hq=>hβ q (List.mem_append.2 (.inr hq))) P4 ho
       refine⟨fun k bx hm=>?_,fun x hx=>?_⟩
       ·rcases List.mem_append.1 hm with hm|hm
        ·exact h2 k bx hm
        ·exact h3 k bx hm
       ·rcases List.mem_cons.1 hx with rfl|hx
        ·refine⟨c,cs',hc,SV,by omega,by omega,fun b1 o1 hβ1=>?_⟩
         have Hy:=P4 i;rw[DE,Kr] at Hy;simp only[Option.bind_some,Ea,hβ1,Option.map_some,Option.some.injEq,Prod.mk.injEq] at Hy;obtain⟨rfl,rfl⟩:=Hy;refine⟨fun k p hp=>?_,fun k hk=>WP k (by omega)⟩
         obtain⟨v,hv,CP⟩:=h1.get hp;exact⟨v,hcell k v hv,CP⟩
        ·exact S9 (Vb x hx) (h4 x hx)
    |row id=>
     obtain⟨⟨pz,rfl⟩,Kr,c,hc⟩:=Jk;unfold Pm at hk;obtain⟨cs,ro',hro,Dc⟩:=Ap hk;subst hro;have II:id ∉ l.flatMap Ef.ids:=hn3 id (by simp[Ef.ids])
     have PL:Ka (Bg hp id (some (.ar false cs))) src (i+1) zs l:=Q0 (fun k XG=>Ad _ _ (fun e=>II (e ▸ XG))) hL
     obtain⟨Bq,bs',qs',Lb,E1,F2,JX,HE,Hp,QR,CG⟩:=Ml (β:=β) (j:=j) Dc PL WB;have SV:Bq id=some (.ar false cs):=by rw[Hp id II,Af]
     have Vb:∀x∈l,∀k∈x.ids,Bg hp id (some (.ar false cs)) k=hp k:=fun x hx k XG=>Ad _ _ (fun e=>II (e ▸ List.mem_flatMap.2 ⟨x,hx,XG⟩))
     refine⟨Bq,bs',qs',Lb,E1,F2,JX,HE,?_,?_,fun w' A own β' bt hβ P4 ho=>?_⟩
     ·intro k hk;simp only[List.flatMap_cons,List.mem_append,not_or] at hk;rw[Hp k hk.2];exact Ad _ _ (by rintro rfl;exact hk.1 (by simp[Ef.ids]))
     ·intro x hx;rcases List.mem_cons.1 hx with rfl|hx
      ·exact⟨c,cs,hc,SV⟩
      ·exact Rm (Vb x hx) (fun q hq=>hq) (QR x hx)
     ·obtain⟨NN,ho⟩:=ho
      ·obtain⟨h3,h4⟩:=CG w' A own β' bt hβ P4 ho;refine⟨h3,fun x hx=>?_⟩
       rcases List.mem_cons.1 hx with rfl|hx
       ·refine⟨cs,SV,?_⟩;have Hy:=P4 i;rw[Kr] at Hy;simp only[Option.bind_some,JT] at Hy;rw[Hy] at NN;exact NN
       ·exact S9 (Vb x hx) (h4 x hx)
    |none=>
     obtain⟨⟨pz,rfl⟩,Kr⟩:=Jk;unfold Pm at hk;obtain⟨cs,ro',hro,Dc⟩:=Ap hk;subst hro;obtain⟨Bq,bs',qs',Lb,E1,F2,JX,HE,Hp,QR,CG⟩:=Ml (β:=β) (j:=j) Dc hL WB;refine⟨Bq,bs',qs',Lb,E1,F2,JX,HE,?_,?_,fun w' A own β' bt hβ P4 ho=>?_⟩
     ·intro k hk;simp only[List.flatMap_cons,List.mem_append,not_or] at hk;exact Hp k hk.2
     ·intro x hx;rcases List.mem_cons.1 hx with rfl|hx
      ·trivial
      ·exact QR x hx
     ·obtain⟨NN,ho⟩:=ho
      ·obtain⟨h3,h4⟩:=CG w' A own β' bt hβ P4 ho;refine⟨h3,fun x hx=>?_⟩
       rcases List.mem_cons.1 hx with rfl|hx
       ·trivial
       ·exact h4 x hx
  ·obtain⟨Bq,bs',qs',Lb,E1,F2,JX,HE,Hp,QR,CG⟩:=Ml (β:=β) (j:=j) hk hL hn;exact⟨Bq,bs',qs',Lb,E1,F2,JX,HE,Hp,QR,fun w' A own β' bt hβ P4 ho=>CG w' A own β' bt hβ P4 (KE Ut ho)⟩
end
open Go.RowKit
theorem Dx (hp:Nat->Option A1)(ids:List Nat)(i:Nat):Na hp ids i=if i∈ids then (hp i).map (fun _=>A1.mv) else hp i:=by
 unfold Na;by_cases hi:i∈ids
 ·have:ids.any (Nat.beq i)=true:=List.any_eq_true.2 ⟨i,hi,Nat.beq_refl i⟩;rw[this,if_pos hi];rfl
 ·have:ids.any (Nat.beq i)=false:=by
   cases hb:ids.any (Nat.beq i)
   ·rfl
   ·obtain⟨j,hj,e⟩:=List.any_eq_true.1 hb;exact absurd (Nat.eq_of_beq_eq_true e ▸ hj) hi
  rw[this,if_neg hi];rfl
theorem Lp:∀{nw:List (Nat × A1)} {hp:Nat->Option A1},A2 hp nw=true->(nw.map (·.1)).Nodup
 |[],_,_=>List.nodup_nil
 |(i,b)::r,hp,h=>by
  simp only[A2,Bool.and_eq_true,Option.isNone_iff_eq_none,Bool.not_eq_true'] at h;simp only[List.map_cons,List.nodup_cons];refine⟨fun hm=>?_,Lp h.2⟩
  obtain⟨q,hq,e⟩:=List.mem_map.1 hm;have:r.any (fun q=>Nat.beq q.1 i)=true:=List.any_eq_true.2 ⟨q,hq,by rw[e];exact Nat.beq_refl i⟩
  rw[this] at h;cases h.1.2
theorem UI:∀{l:List (Nat × Nat)},(l.map (·.1)).Nodup->∀q∈l,Oj l q.1=some q.2
 |[],_,_,h=>by cases h
 |(j,b)::r,hn,q,hq=>by
  simp only[List.map_cons,List.nodup_cons] at hn;unfold Oj;rcases List.mem_cons.1 hq with rfl|hq
  ·simp only[Nat.beq_refl,cond_true]
  ·have:Nat.beq q.1 j=false:=by
    cases hb:Nat.beq q.1 j
    ·rfl
    ·exact absurd (Nat.eq_of_beq_eq_true hb ▸ List.mem_map_of_mem hq) hn.1
   simp only[this,cond_false];exact UI hn.2 q hq
theorem DW:∀{l:List (Nat × Nat)} {i:Nat},i ∉ l.map (·.1)->Oj l i=none
 |[],_,_=>rfl
 |(j,b)::r,i,h=>by
  simp only[List.map_cons,List.mem_cons,not_or] at h;unfold Oj
  have:Nat.beq i j=false:=by
   cases hb:Nat.beq i j
   ·rfl
   ·exact absurd (Nat.eq_of_beq_eq_true hb) h.1
  simp only[this,cond_false];exact DW h.2
section
variable {R:Type} {r:R} {P:Program} {N:Nat} {w0:World} {X0:E6} {Y:Nat->Prop} {β β':Bt} {s:St} {a:Act} {w w':World} {o:Oper} {A A':Nat->Prop}
theorem Eo.weak (hA:∀b,b<w.heap.size->A' b->A b){q:Option (Nat × Nat)} {p:PV}{u:Value}(h:Eo w A q p u):Eo w A' q p u:=by
 have tr:∀{p:PV},Ao w A p u->Ao w A' p u:=fun h=>h.step (Bb.refl _ _) hA
 cases p with
 |own es n c=>
  rcases h with h|⟨b,ob,cap,h1,h2,h3,h4,h5,h6,h7⟩
  ·exact .inl h
  ·exact .inr ⟨b,ob,cap,h1,h2,h3,h4,h5,h6.weak hA,h7⟩
 |_=>exact tr h
theorem Dd.weak (hA:∀b,b<w.heap.size->A' b->A b){own:Bt}:∀{ps:List PV}{us:List Value}{j:Nat},Dd w A own j ps us->Dd w A' own j ps us
 |[],[],_,_=>trivial
 |[],_::_,_,h=>h.elim
 |_::_,[],_,h=>h.elim
 |_::_,_::_,_,h=>⟨h.1.weak hA,Dd.weak hA h.2⟩
theorem DN.weak (hA:∀b,b<w.heap.size->A' b->A b){bt:Bt}{p:PV}{u:Value}(h:DN w A bt p u):DN w A' bt p u:=by
 cases p with
 |pbox ps=>
  obtain⟨b,ob,h1,h2,h3,vs,h4,h5⟩:=h;exact⟨b,ob,h1,h2,h3,vs,h4.weak hA,h5⟩
 |tup ps=>
  obtain⟨es,n,c,h1,h2⟩:=h;exact⟨es,n,c,h1,h2.weak hA⟩
 |agg cs=>
  obtain⟨vs,h1,h2,h3⟩:=h;exact⟨vs,h1,h2,h3.weak hA⟩
 |_=>exact⟨h.1,h.2.weak hA⟩
theorem Ih.weak (hA:∀b,b<w.heap.size->A' b->A b){bt:T8}:∀{ps:List PV}{us:List Value}{i:Nat},Ih w A bt i ps us->Ih w A' bt i ps us
 |[],[],_,_=>trivial
 |[],_::_,_,h=>h.elim
 |_::_,[],_,h=>h.elim
 |_::_,_::_,_,h=>⟨h.1.weak hA,Ih.weak hA h.2⟩
theorem Q9 {bt:T8}(k:Bool):∀{xs:List Operand}{ps:List PV}{i:Nat},Ih w A bt i ps (xs.map a.eval)->Ih w A bt i (Gd k xs ps) (xs.map a.eval)
 |[],[],_,h=>h
 |[],_::_,_,h=>h
 |_::_,[],_,h=>h
 |x::xs,p::ps,i,h=>by
  simp only[List.map_cons] at h ⊢;refine⟨?_,Q9 k h.2⟩;split
  ·exact⟨.inl trivial,Ao.lnil _ _⟩
  ·exact h.1
theorem AV (k:Bool)(x:Operand)(xs:List Operand)(p:PV)(ps:List PV):∃p',Gd k (x::xs) (p::ps)=p'::Gd k xs ps∧Rv p'=Rv p∧(Rv p=true->p'=p):=by
 refine⟨_,rfl,?_,fun h=>?_⟩
 ·split
  ·rfl
  ·rfl
 ·split
  ·cases h
  ·rfl
theorem Lc {hp:Nat->Option A1}{src:Nat->Nat->Option (Nat × Nat)} (k:Bool):∀{xs:List Operand}{ps:List PV}{i:Nat}{l:List Ef},Ka hp src i ps l->Ka hp src i (Gd k xs ps) l
 |[],[],_,_,h=>h
 |[],_::_,_,_,h=>h
 |_::_,[],_,_,h=>h
 |x::xs,p::ps,i,l,h=>by
  obtain⟨p',e,h1,h2⟩:=AV k x xs p ps;rw[e];rcases h with⟨h3,h4,h5⟩|⟨y,l',rfl,h4,h5⟩
  ·exact .inl ⟨by rw[h1];exact h3,h4,Lc k h5⟩
  ·exact .inr ⟨y,l',rfl,by rw[h2 (LF h4)];exact h4,Lc k h5⟩
theorem W9 {hp:Nat->Option A1}{src:Nat->Nat->Option (Nat × Nat)}:∀{ps:List PV}{i:Nat}{l:List Ef},Ka hp src i ps l->∀id∈l.flatMap Ef.ids,Bx (hp id)∧∃k off,src k 0=some (id,off)
 |[],_,_,h,id,Ax=>by
  have h:_=[]:=h;rw[h] at Ax;cases Ax
 |p::ps,i,l,h,id,Ax=>by
  rcases h with⟨_,_,h3⟩|⟨x,l',rfl,h2,h3⟩
  ·exact W9 h3 id Ax
  ·simp only[List.flatMap_cons,List.mem_append] at Ax;rcases Ax with Ax|Ax
   ·cases x with
    |var id' off cts ws=>
     simp only[Ef.ids,List.mem_singleton] at Ax;subst Ax;obtain⟨_,h4,_,c,h5,_⟩:=h2;exact⟨by rw[h5];trivial,i,_,h4⟩
    |row id'=>
     simp only[Ef.ids,List.mem_singleton] at Ax;subst Ax;obtain⟨_,h4,c,h5⟩:=h2;exact⟨by rw[h5];trivial,i,_,h4⟩
    |none=>simp[Ef.ids] at Ax
   ·exact W9 h3 id Ax
theorem SD {hp:Nat->Option A1}{src:Nat->Nat->Option (Nat × Nat)}:∀{ps:List PV}{i:Nat}{l:List Ef},Ka hp src i ps l->∀k p id off,ps[k]?=some p->src (i+k) 0=some (id,off) ->
   (∃c ws,hp id=some (.st c)∧p=.pbox ws∧off+ws.length<=c.length)∨((∃c,hp id=some (.ar false c))∧off=0∧∃ws,p=.tup ws)
 |[],_,_,_,k,p,id,off,hp,_=>by simp at hp
 |p::ps,i,l,h,k,p',id,off,Bq,hs=>by
  have O4:∃l',Ka hp src (i+1) ps l':=by
   rcases h with⟨_,_,h3⟩|⟨x,l',_,_,h3⟩<;>exact⟨_,h3⟩
  cases k with
  |succ k=>
   obtain⟨l',h'⟩:=O4;exact SD h' k p' id off (by simpa using Bq) (by rw[show i+1+k=i+(k+1) by omega];exact hs)
  |zero=>
   simp only[List.getElem?_cons_zero,Option.some.injEq] at Bq;subst Bq;rw[Nat.add_zero] at hs;rcases h with⟨_,h2,_⟩|⟨x,l',_,h2,_⟩
   ·rw[hs] at h2;cases h2
   ·cases x with
    |var id' off' cts ws=>
     obtain⟨h3,h4,_,c,h5,h6⟩:=h2;rw[hs] at h4;cases h4;exact .inl ⟨c,ws,h5,h3,h6⟩
    |row id'=>
     obtain⟨h3,h4,c,h5⟩:=h2;rw[hs] at h4;cases h4;exact .inr ⟨⟨c,h5⟩,rfl,h3⟩
    |none=>
     have:=h2.2;rw[hs] at this;cases this
theorem FX {hp : Nat -> Option A1} {src : Nat -> Nat -> Option (Nat × Nat)} {id off : Nat} {cts : List CT} {ws : List PV} : ∀ {ps : List PV} {i : Nat} {l : List Ef}, Ka hp src i ps l -> Ef.var id off cts ws ∈ l ->
      ∃ k, ps[k]? = some (.pbox ws) ∧ src (i + k) 0 = some (id, off)
  | [], _, _, h, hm => by
    have h : _ = [] := h
    rw[h] at hm; cases hm
  | p :: ps, i, l, h, hm => by
    have next : ∀ {l'}, Ka hp src (i + 1) ps l' -> Ef.var id off cts ws ∈ l' -> ∃ k, (p :: ps)[k]? = some (.pbox ws) ∧ src (i + k) 0 = some (id, off) := by
      intro l' h' Ii
      obtain⟨k, h1, h2⟩ := FX h' Ii
      exact⟨k + 1, by simpa using h1, by rw[show i + (k + 1) = i + 1 + k by omega]; exact h2⟩
    rcases h with⟨_, _, h3⟩ | ⟨x, l', rfl, h2, h3⟩
    · exact next h3 hm
    · rcases List.mem_cons.1 hm with e | hm
      · subst e
        obtain⟨h1, h4, _⟩ := h2
        subst h1
        exact⟨0, rfl, h4⟩
      · exact next h3 hm
theorem GC {hp:Nat->Option A1}{src:Nat->Nat->Option (Nat × Nat)}:∀{ps:List PV}{i:Nat}{l:List Ef},Ka hp src i ps l->∀k id off,i<=k->src k 0=some (id,off)->k<i+ps.length->∃p,ps[k-i]?=some p∧Rv p=true
 |[],i,_,_,k,id,off,h1,_,h3=>by simp at h3;omega
 |p::ps,i,l,h,k,id,off,h1,h2,h3=>by
  by_cases e:k=i
  ·subst e;rcases h with⟨_,h4,_⟩|⟨x,l',_,h4,_⟩
   ·rw[h2] at h4;cases h4
   ·exact⟨p,by simp,LF h4⟩
  ·have O4:∃l',Ka hp src (i+1) ps l':=by
    rcases h with⟨_,_,h3⟩|⟨x,l',_,_,h3⟩<;>exact⟨_,h3⟩
   obtain⟨l',h'⟩:=O4;obtain⟨q,h5,h6⟩:=GC h' k id off (by omega) h2 (by simp at h3;omega)
   refine⟨q,?_,h6⟩;rw[show k-i=(k-(i+1))+1 by omega]
   simpa using h5
theorem Ih.len {bt:T8}:∀{ps:List PV}{us:List Value}{i:Nat},Ih w A bt i ps us->ps.length=us.length
 |[],[],_,_=>rfl
 |[],_::_,_,h=>h.elim
 |_::_,[],_,h=>h.elim
 |_::_,_::_,_,h=>by simp[Ih.len h.2]
theorem EJ (h:Br N w0 X0 Y β s a w){G:Glo}(Hg:ES P G w0 X0){C:Et}{call:Aj}(Cj:∀f args res,call f args=some res->De G P f args res){c:Call}{f:FuncId}(ho:o.op=.call c)(hc:c.callee=.value (.func f))
  {K:St->Option R} (hk:R3 C P N call s o f c K=some r):
  ∃s',K s'=some r∧∀(next:Act->World->Prop) (Q:Exit->Act->World->Prop),(∀a' w' β',Br N w0 X0 Y β' s' a' w'->next a' w')->o.wp P a w next Q:=by
 unfold R3 at hk;obtain⟨vs0,m,x,l,src,Cn,hm,hx,hS,hL,C4⟩:=Zj h hk;obtain⟨hb,Dc⟩:=Ae Cn;simp only[Bool.and_eq_true] at hb;obtain⟨⟨⟨hnd,Ab2⟩,hN⟩,OO⟩:=hb;have hN:0<N:=Nat.lt_of_succ_le (Nat.le_of_ble_eq_true hN);obtain⟨WH,hnx,hlx⟩:=Fl hnd
 have hml:∀i∈m,i ∉ l.flatMap Ef.ids∧i ∉ x:=by
  intro i hi;have:=List.all_eq_true.1 Ab2 i hi
  have hn:∀k∈l.flatMap Ef.ids++x,i≠k:=by
   rintro k hk rfl
   have h2:(l.flatMap Ef.ids++x).any (Nat.beq i)=true:=List.any_eq_true.2 ⟨i,hk,Nat.beq_refl i⟩;rw[h2] at this;cases this
  exact⟨fun hq=>hn i (by simp only[List.mem_append];exact .inl hq) rfl,fun hq=>hn i (by simp only[List.mem_append];exact .inr hq) rfl⟩
 replace hL:=Lc (C.kz f) (xs:=c.args.toList) hL
 replace C4:=fun fz h1 h2 bt P4=>Q9 (a:=a) (C.kz f) (C4 fz h1 h2 bt P4)
 generalize Gd (C.kz f) c.args.toList vs0=vs at Dc C4 hL;obtain⟨rv,ro,Kc,Lb⟩:=Yd Dc;obtain⟨ws,bs,W7,hwl,VY,ET,hrs,IM,hws⟩:=Sl (C.shr f) N Lb;obtain⟨Km,WA⟩:=Ae W7;obtain⟨lids,X8⟩:∃lids,l.flatMap Ef.ids=lids:=⟨_,rfl⟩;rw[X8] at hS WH hlx hml;have Afd:∀i,i ∉ x->Na (Ac s.hp m) x i=Ac s.hp m i:=fun i hi=>by rw[Dx,if_neg hi]
 have MO:∀i,i∈lids->Na (Ac s.hp m) x i=s.hp i:=fun i hi=>by
  rw[Afd i (hlx i hi),A3,if_neg (fun hq=>(hml i hq).1 hi)]
 have hLM:Ka (Na (Ac s.hp m) x) src 0 vs l:=Q0 (fun i hi=>MO i (X8 ▸ hi)) hL
 obtain⟨Bq,bs',qs,hk6,hbq,Yz,Uo,Dr,Hp,QR,CG⟩:=Ml (β:=β) (j:=Ke rv) WA hLM (by rw[X8];exact WH)
 obtain⟨Kf,hk7⟩:=Ae hk6;refine⟨_,hk7,fun next Q hn=>?_⟩
 clear hk Cn Dc Lb W7 WA hk6 hk7;rw[X8] at Hp;obtain⟨⟨fn,hfn,hfb⟩,O6⟩:=Cj f vs _ Kc;have hf:=h.freeze hm;have PE:=W9 hL;rw[X8] at PE
 have Za:∀i,i∈lids∨i∈x->Ac s.hp m i=s.hp i:=by
  intro i hi;rw[A3,if_neg];intro hq;rcases hi with hi|hi
  ·exact (hml i hq).1 hi
  ·exact (hml i hq).2 hi
 have Qp:∀i,i∈lids∨i∈x->Bx (s.hp i):=by
  intro i hi;rcases hi with hi|hi
  ·exact (PE i hi).1
  ·obtain⟨cc,SS⟩:=hx i hi;rw[SS];trivial
 have Afv:∀i j id off,src i j=some (id,off)->id∈lids∨id∈x:=by
  intro i j id off hs;cases j with
  |zero=>exact .inl (hS.lent i id off hs)
  |succ j=>exact .inr (hS.mvd i j id off hs).2
 obtain⟨bt,P4⟩:∃bt:T8,∀i j,bt i j=(src i j).bind (Ea β):=⟨_,fun _ _=>rfl⟩
 have btS:∀{i j b ob},bt i j=some (b,ob)->∃id off o',src i j=some (id,off)∧β id=some (b,o')∧ob=o'+off∧(id∈lids∨id∈x):=by
  intro i j b ob hb;rw[P4] at hb;cases hs:src i j with
  |none=>rw[hs] at hb;cases hb
  |some q=>
   rw[hs] at hb;obtain⟨id,off⟩:=q;simp only[Option.bind_some,Ea] at hb;cases hβ:β id with
   |none=>rw[hβ] at hb;cases hb
   |some p=>
    rw[hβ] at hb;obtain⟨b',o'⟩:=p;simp only[Option.map_some,Option.some.injEq,Prod.mk.injEq] at hb;obtain⟨rfl,rfl⟩:=hb;exact⟨id,off,o',rfl,hβ,rfl,Afv i j id off hs⟩
 have btX:∀{b},QH bt b->∃id o',β id=some (b,o')∧(id∈lids∨id∈x):=by
  rintro b ⟨i,j,ob,hb⟩
  obtain⟨id,off,o',_,h2,_,h4⟩:=btS hb;exact⟨id,o',h2,h4⟩
 have hBA:∀b,QH bt b->BK s.hp β b:=fun b hb=>by
  obtain⟨id,o',h1,h2⟩:=btX hb;exact⟨id,o',Qp id h2,h1⟩
 obtain⟨Yc,hYc⟩:∃Yc:Nat->Prop,∀b,Yc b↔((∃id ob,Bx (Ac s.hp m id)∧β id=some (b,ob)∧id ∉ lids∧id ∉ x)∨Y b):=⟨_,fun _=>Iff.rfl⟩
 have C3:vs.length=c.args.toList.length:=by
  have:=(C4 m (fun _ hi=>hi) hm bt P4).len
  simpa using this
 have ZW:Ins w Yc bt vs (c.args.toList.map a.eval):=by
  refine⟨fun b hb=>?_,fun b hb hB=>?_,fun b hB=>?_,fun i j i' j' b ob ob' hb E1=>?_,fun i q hq=>?_,?_⟩
  ·rcases (hYc b).1 hb with⟨id,ob,hl,hβ,_⟩|hY
   ·exact hf.blt id b ob (Bs hl) hβ
   ·exact Nat.lt_of_lt_of_le (h.Ylt b hY) h.fr.step.size
  ·obtain⟨id',o',h1,h2⟩:=btX hB;rcases (hYc b).1 hb with⟨id,ob,hl,hβ,h3,h4⟩|hY
   ·have:=hf.inj id id' b ob o' hl (by show Bx (Ac s.hp m id');rw[Za id' h2];exact Qp id' h2) hβ h1
    subst this;rcases h2 with h2|h2
    ·exact h3 h2
    ·exact h4 h2
   ·exact h.Yx b hY ⟨id',o',Qp id' h2,h1⟩
  ·obtain⟨id',o',h1,h2⟩:=btX hB;exact h.blt id' b o' (Bs (Qp id' h2)) h1
  ·obtain⟨id,off,o1,h1,h2,_,h4⟩:=btS hb;obtain⟨id',off',o1',Wa,h2',_,h4'⟩:=btS E1;have:=h.inj id id' b o1 o1' (Qp id h4) (Qp id' h4') h2 h2';subst this;cases j with
   |zero=>
    cases j' with
    |zero=>exact⟨hS.inj0 WH i i' id off off' h1 Wa,rfl⟩
    |succ j'=>exact absurd (hS.mvd i' j' id off' Wa).2 (hlx id (hS.lent i id off h1))
   |succ j=>
    cases j' with
    |zero=>exact absurd (hS.mvd i j id off h1).2 (hlx id (hS.lent i' id off' Wa))
    |succ j'=>
     obtain⟨h5,h6⟩:=hS.inj1 hnx i i' j j' id off off' h1 Wa;exact⟨h5,by rw[h6]⟩
  ·obtain⟨b,ob⟩:=q;obtain⟨id,off,o',h1,_⟩:=btS hq;obtain⟨p,hp,h2⟩:=GC hL i id off (Nat.zero_le _) h1 (by have:=hS.dom i 0 _ h1;rw[C3];exact this.2)
   exact⟨p,by simpa using hp,h2⟩
  ·refine (C4 m (fun _ hi=>hi) hm bt P4).weak fun b _ hb=>?_
   rcases hb with hb|hb
   ·obtain⟨id',o',h1,h2⟩:=btX hb;exact .inl ⟨id',o',by rw[Za id' h2];exact Qp id' h2,h1⟩
   ·rcases (hYc b).1 hb with⟨id,ob,hl,hβ,_⟩|hY
    ·exact .inl ⟨id,ob,hl,hβ⟩
    ·exact .inr hY
 unfold Oper.wp;rw[EP ho hc Hg.ng hfn hfb];show Calls P f _ w _;have hca:c.args.map a.eval=(c.args.toList.map a.eval).toArray:=by rw[←List.map_toArray,Array.toArray_toList]
 rw[hca];refine (O6 w Yc bt _ ZW (Hg.fr w h.fr) (fun b x=>⟨Nat.lt_of_lt_of_le (Hg.y b x).1 h.fr.step.size,fun hB=>(h.ownd b (hBA b hB)).elim (Hg.y b x).2 (fun Re=>absurd (Hg.y b x).1 (Nat.not_lt.2 Re))⟩)).mono ?_
 rintro e w' ⟨us,own,rfl,out⟩
 obtain⟨ZY,ha2⟩:=Aw Kf;obtain⟨WD,hg2⟩:=Cr (hp:=Bq) ha2;have IC:=Lp Kf;rw[List.map_append,List.nodup_append] at IC;obtain⟨Aoi,Afi,Ajg⟩:=IC;rw[hbq] at Afi
 obtain⟨β1,hβ1,hβ2⟩:∃β1:Bt,(∀i,(∃bx,(i,bx)∈bs)->β1 i=own ((i-o.dst.getD N) / N))∧∀i,(¬∃bx,(i,bx)∈bs)->β1 i=match Oj qs i with|some j=>own j|none=>β i:=by
  refine⟨fun i=>if (bs.any fun q=>Nat.beq q.1 i)=true then own ((i-o.dst.getD N) / N) else match Oj qs i with|some j=>own j|none=>β i,fun i hi=>?_,fun i hi=>?_⟩
  ·show (if _ then _ else _)=_
   rw[if_pos (AC.2 hi)]
  ·show (if _ then _ else _)=_
   rw[if_neg (fun hq=>hi (AC.1 hq))]
 have hβbs:∀j,(∃bx,(o.dst.getD N+N*j,bx)∈bs)->β1 (o.dst.getD N+N*j)=own (0+j):=by
  intro j hj;rw[hβ1 _ hj,Nat.add_sub_cancel_left,Nat.mul_div_cancel_left _ hN,Nat.zero_add]
 have hqb:∀q∈qs,∃bx,(q.1,bx)∈bs':=by
  intro q hq;have:q.1∈bs'.map (·.1):=by rw[hbq];exact List.mem_map_of_mem hq
  obtain⟨⟨i,bx⟩,hm,e⟩:=List.mem_map.1 this;exact⟨bx,e ▸ hm⟩
 have Ahs:∀i bx,(i,bx)∈bs'->∃j,(i,j)∈qs:=by
  intro i bx hm;have:i∈qs.map (·.1):=by rw[←hbq];exact List.mem_map.2 ⟨_,hm,rfl⟩
  obtain⟨⟨i',j⟩,hm,e⟩:=List.mem_map.1 this;exact⟨j,e ▸ hm⟩
 have hbb:∀i,(∃bx,(i,bx)∈bs')->¬∃bx,(i,bx)∈bs:=by
  rintro i ⟨bx,hm⟩ ⟨bx',Ii⟩
  exact Ajg i (List.mem_map.2 ⟨_,Ii,rfl⟩) i (List.mem_map.2 ⟨_,hm,rfl⟩) rfl
 have hβqs:∀q∈qs,β1 q.1=own q.2:=by
  intro q hq;rw[hβ2 q.1 (hbb q.1 (hqb q hq)),UI Afi q hq]
 have hβold:∀i,Bq i≠none->β1 i=β i:=by
  intro i hi
  have DZ:¬∃bx,(i,bx)∈bs:=by
   rintro⟨bx,hm⟩
   exact hi (ZY i bx (List.mem_append.2 (.inl hm)))
  rw[hβ2 i DZ,DW];intro hm;obtain⟨q,hq,e⟩:=List.mem_map.1 hm;obtain⟨bx,H5⟩:=hqb q hq;exact hi (ZY i bx (List.mem_append.2 (.inr (e ▸ H5))))
 obtain⟨Ga,hba⟩:=hws w' _ own β1 w.heap.size 0 us hβbs out.vals;obtain⟨Ah8,Afr⟩:=CG w' _ own β1 bt hβqs (fun i=>P4 i 0) out.outs
 have Abb:∀id∈lids,∃y∈l,id∈y.ids:=by
  intro id Ax;rw[←X8] at Ax;exact List.mem_flatMap.1 Ax
 have YQ:∀id∈lids,(∃off c cs,s.hp id=some (.st c)∧Bq id=some (.st (A0 c cs off))∧off+cs.length<=c.length∧(∀p∈cs,∀i∈Ai p,∃bx,(i,bx)∈bs'))∨∃c cs,s.hp id=some (.ar false c)∧Bq id=some (.ar false cs):=by
  intro id Ax;obtain⟨y,hy,SO⟩:=Abb id Ax;have h1:=QR y hy;cases y with
  |var id' off cts ws'=>
   simp only[Ef.ids,List.mem_singleton] at SO;subst SO;obtain⟨c1,cs,h2,h3,h4,h5,h6⟩:=h1;rw[MO id Ax] at h2;exact .inl ⟨off,c1,cs,h2,h3,h5,h6⟩
  |row id'=>
   simp only[Ef.ids,List.mem_singleton] at SO;subst SO;obtain⟨c1,cs,h2,h3⟩:=h1;rw[MO id Ax] at h2;exact .inr ⟨c1,cs,h2,h3⟩
  |none=>simp[Ef.ids] at SO
 have Ake:∀id∈lids,Bq id≠none:=by
  intro id Ax;rcases YQ id Ax with⟨_,_,_,_,h2,_⟩|⟨_,_,_,h2⟩<;>rw[h2]<;>simp
 have hpK:∀id,id ∉ lids->Bq id=Na (Ac s.hp m) x id:=fun id Ax=>Hp id Ax
 have Es:∀i,s.hp i≠none->Bq i≠none:=by
  intro i hi;by_cases hl:i∈lids
  ·exact Ake i hl
  ·rw[hpK i hl,Dx];have h1:Ac s.hp m i≠none:=fun e=>hi (Ch.1 e)
   split
   ·cases hq:Ac s.hp m i with
    |none=>exact absurd hq h1
    |some b=>simp
   ·exact h1
 have XW:∀i,(s.hp i≠none∨∃bx,(i,bx)∈bs++bs')->Ak Bq (bs++bs') i≠none:=by
  rintro i (hi|⟨bx,hm⟩)
  ·have h1:=Es i hi;rw[hg2 i (fun bx hm=>h1 (ZY i bx hm))]
   exact h1
  ·rw[WD i bx hm];simp
 have Ew:∀id,(∃bx,(id,bx)∈bs++bs')∨Ak Bq (bs++bs') id=Bq id:=fun id=>by
  by_cases hx:∃bx,(id,bx)∈bs++bs'
  ·exact .inl hx
  ·exact .inr (hg2 id fun bx hb=>hx ⟨bx,hb⟩)
 have hold:∀id bx,Bq id=some bx->Bx (some bx)->Bx (s.hp id)∧id ∉ x∧(id∈lids∨(id ∉ lids∧Ac s.hp m id=some bx)):=by
  intro id bx hb hl;by_cases Ax:id∈lids
  ·exact⟨Qp id (.inl Ax),hlx id Ax,.inl Ax⟩
  ·rw[hpK id Ax,Dx] at hb;split at hb
   ·cases hq:Ac s.hp m id with
    |none=>rw[hq] at hb;cases hb
    |some b=>rw[hq] at hb;simp at hb;subst hb;exact hl.elim
   ·rename_i hxn;exact⟨by rw[Ft hb hl];exact hl,hxn,.inr ⟨Ax,hb⟩⟩
 have Pt:∀i bx,(i,bx)∈bs++bs'->∃j,β1 i=own j∧((i=o.dst.getD N+N*j∧j<Ke rv)∨((i,j)∈qs∧Ke rv<=j)):=by
  intro i bx hm;rcases List.mem_append.1 hm with hm|hm
  ·obtain⟨⟨j,rfl,hj⟩,_⟩:=hba i bx hm;exact⟨j,by rw[hβbs j ⟨bx,hm⟩,Nat.zero_add],.inl ⟨rfl,hj⟩⟩
  ·obtain⟨j,hj⟩:=Ahs i bx hm;exact⟨j,hβqs _ hj,.inr ⟨hj,(Yz _ hj).2⟩⟩
 have Abi:∀i bx,(i,bx)∈bs++bs'->Bx (some bx)∧L0 w' (R2 bt own Yc) β1 i bx∧∀cs,bx=.st cs->∀b ob,β1 i=some (b,ob)->w.heap.size<=b:=by
  intro i bx hm;rcases List.mem_append.1 hm with hm|hm
  ·exact (hba i bx hm).2
  ·obtain⟨cc,rfl⟩:=Dr i bx hm;exact⟨trivial,Ah8 i _ hm,fun cs e=>by cases e⟩
 have Adt:∀b,(∃i k o',bt i (k+1)=some (b,o'))->∃id o',id∈x∧β id=some (b,o'):=by
  rintro b ⟨i,k,o',hb⟩
  obtain⟨id,off,o1,h1,h2,_,_⟩:=btS hb;exact⟨id,o1,(hS.mvd i k id off h1).2,h2⟩
 have hX:∀b,b<w.heap.size->BK (Ak Bq (bs++bs')) β1 b->BK s.hp β b:=by
  rintro b hb ⟨id,ob,hl,hβ⟩
  rcases Ew id with⟨bx,hm⟩|e
  ·obtain⟨j,hj,_⟩:=Pt id bx hm;rw[hj] at hβ;obtain⟨id',o',h1,h2⟩:=Adt b ((out.fresh j b ob hβ).2 hb).1;exact⟨id',o',Qp id' (.inr h1),h2⟩
  ·rw[e] at hl;cases hq:Bq id with
   |none=>rw[hq] at hl;exact hl.elim
   |some bx=>
    rw[hq] at hl;exact⟨id,ob,(hold id bx hq hl).1,by rw[←hβold id (by rw[hq];simp)];exact hβ⟩
 have hAo:∀b,b<w.heap.size->Bz (Ak Bq (bs++bs')) β1 Y b->Bz s.hp β Y b:=fun b hb hA=>hA.imp (hX b hb) id
 have hAO:∀b,Bz (Ak Bq (bs++bs')) β1 Y b->R2 bt own Yc b:=by
  rintro b (⟨id,ob,hl,hβ⟩|hY)
  ·rcases Ew id with⟨bx,hm⟩|e
   ·obtain⟨j,hj,_⟩:=Pt id bx hm;rw[hj] at hβ;exact .inl ⟨j,ob,hβ⟩
   ·rw[e] at hl;cases hq:Bq id with
    |none=>rw[hq] at hl;exact hl.elim
    |some bx=>
     rw[hq] at hl;rw[hβold id (by rw[hq];simp)] at hβ
     obtain⟨h1,h2,h3⟩:=hold id bx hq hl;rcases h3 with h3|⟨h3,h4⟩
     ·obtain⟨_,i,off,hs⟩:=PE id h3;exact .inr (.inl ⟨i,ob+off,by rw[P4,hs];simp[Ea,hβ]⟩)
     ·exact .inr (.inr ((hYc b).2 (.inl ⟨id,ob,by rw[h4];exact hl,hβ,h3,h2⟩)))
  ·exact .inr (.inr ((hYc b).2 (.inr hY)))
 have Jf:Bb (Bz s.hp β Y) w w':=out.ext.weaken (fun b _ hb=>.inl (hBA b hb))
 have ZL:∀i,s.hp i≠none->β1 i=β i:=fun i hi=>hβold i (Es i hi)
 have hCL:∀b j,Ya bt vs b j->∃id o' bx,s.hp id=some bx∧Bx (some bx)∧β id=some (b,o')∧BR bx o' j:=by
  rintro b j ⟨i,p,hp,⟨k,ob,hb,Re⟩|⟨ob,ps,hb,Re,Ut⟩⟩
  ·obtain⟨id,off,o',h1,h2,h3,_⟩:=btS hb;obtain⟨h5,h6⟩:=hS.mvd i k id off h1;obtain⟨cc,SS⟩:=hx id h6;exact⟨id,o',_,SS,trivial,h2,show o'<=j by omega⟩
  ·obtain⟨id,off,o',h1,h2,h3,_⟩:=btS hb;rcases SD hL i p id off hp (by rw[Nat.zero_add];exact h1) with⟨c1,wz,h5,h6,h7⟩|⟨⟨c1,h5⟩,_⟩
   ·rcases Ut with⟨h8,h9⟩|h8
    ·rw[h6] at h8;cases h8;exact⟨id,o',_,h5,trivial,h2,show o'<=j∧j<o'+c1.length by omega⟩
    ·rw[h6] at h8;cases h8
   ·exact⟨id,o',_,h5,trivial,h2,show o'<=j by omega⟩
 have TK:∀id off cts wz,Ef.var id off cts wz∈l->id∈lids->∀b ob,β id=some (b,ob)->∀j,(j<off∨off+wz.length<=j)->(∃c1,s.hp id=some (.st c1))->¬Ya bt vs b (ob+j):=by
  rintro id off cts wz hy Ax b ob hβ j hj ⟨c1,Zv⟩ ⟨i,p,hp,⟨k,ob',hb,Re⟩|⟨ob',ps,hb,Re,Ut⟩⟩
  ·obtain⟨id',off',o',h1,h2,h3,h4⟩:=btS hb;have:=h.inj id id' b ob o' (Qp id (.inl Ax)) (Qp id' h4) hβ h2;subst this;exact hlx id Ax (hS.mvd i k id off' h1).2
  ·obtain⟨id',off',o',h1,h2,h3,h4⟩:=btS hb;have:=h.inj id id' b ob o' (Qp id (.inl Ax)) (Qp id' h4) hβ h2;subst this;rw[hβ] at h2;cases h2;obtain⟨k,Cn,Dc⟩:=FX hL hy;rw[Nat.zero_add] at Dc;have hik:=hS.inj0 WH i k id off' off h1 Dc;subst hik;rw[h1] at Dc;cases Dc;rw[hp] at Cn;cases Cn;rcases Ut with⟨h8,h9⟩|h8
   ·cases h8;omega
   ·cases h8
 have hval:Cu w' (Bz (Ak Bq (bs++bs')) β1 Y) β1 (Ix ws (J2 P o.type)) (Fq us):=by
  have Jm:Au (E2 w' (Bz (Ak Bq (bs++bs')) β1 Y) β1) ws us:=Ga.mono fun v u hvu=>hvu.step (Bb.refl _ _) (fun b _=>hAO b) (fun _ _=>rfl)
  have C3:=Jm.len;cases hT:J2 P o.type
  ·rw[hT] at Km;have h1:ws.length=1:=Nat.eq_of_beq_eq_true Km
   match ws,us,h1,C3 with
   |[v],[u],_,_=>
    exact (Ly (VY v (by simp))).2 Jm.1
  ·rw[hT] at Km
   have h1:¬ws.length=1:=by
    intro e;rw[e] at Km;cases Km
   have hr:Fq us=.tuple ⟨us⟩:=by
    unfold Fq;split
    ·simp at C3;omega
    ·rfl
   rw[hr];exact⟨us,rfl,Jm⟩
 have hvr:∀i∈A5 (Ix ws (J2 P o.type)),∃bx,(i,bx)∈bs:=by
  intro i hi;cases hT:J2 P o.type
  ·rw[hT] at Km hi;have h1:ws.length=1:=Nat.eq_of_beq_eq_true Km
   match ws,h1 with
   |[v],_=>
    refine hrs v (by simp) i ?_
    have:A5 v=Bf v:=by
     have hn:=VY v (by simp)
     cases v<;>first|rfl|exact absurd rfl (hn _)
    rw[←this];exact hi
  ·rw[hT] at hi;obtain⟨v,hv,hi⟩:=List.mem_flatMap.1 (show i∈ws.flatMap Bf from hi)
   exact hrs v hv i hi
 refine hn _ w' β1 ?_;refine⟨by rw[Lr];exact h.dfr,by rw[Qb];exact h.tsz,BT OO h.tmo,?_,?_,?_,?_,?_,?_,?_,?_,?_,?_,?_,h.Ylt,?_⟩
 ·refine Jp (Q:=fun _ p u=>Cu w' (Bz (Ak Bq (bs++bs')) β1 Y) β1 p u) h.tsz OO (fun i hi=>?_) (fun _=>hval)
  exact (h.tms i hi).step Jf hAo fun id Ax=>ZL id (h.wfT i hi id Ax)
 ·intro id bx hb;simp only at hb;rcases Ew id with⟨bx',Ii⟩|e
  ·rw[WD id bx' Ii] at hb;cases hb;exact (Abi id _ Ii).2.1.step' hAO
  ·rw[e] at hb;have hβ:=hβold id (by rw[hb];simp)
   by_cases Ax:id∈lids
   ·obtain⟨y,hy,SO⟩:=Abb id Ax;have h1:=Afr y hy;cases y with
    |var id' off cts wz=>
     simp only[Ef.ids,List.mem_singleton] at SO;subst SO;obtain⟨c1,cs,h2,h3,h4,h5,h6⟩:=h1;rw[MO id Ax] at h2;rw[h3] at hb;cases hb;obtain⟨b,ob,h7,h8,h9⟩:=h.box id _ h2;obtain⟨h10,h11⟩:=h6 b ob h7;have Bl:=h.blt id b ob (by rw[h2];simp) h7
     have S2:∀j,(j<off∨off+wz.length<=j)->w'.cell? ⟨b,ob+j,none⟩=w.cell? ⟨b,ob+j,none⟩∧w'.frozen? ⟨b,ob+j,none⟩=w.frozen? ⟨b,ob+j,none⟩:=
      fun j hj=>out.rng b (ob+j) Bl (TK id off cts wz hy Ax b ob h7 j hj ⟨c1,h2⟩)
     refine⟨b,ob,hβ.trans h7,fun j p hj=>?_,fun j hj=>?_⟩
     ·rcases Lo (by omega) hj with⟨h12,h13,h14⟩|⟨h12,h14⟩
      ·obtain⟨v,hv,CP⟩:=h10 _ _ h14;refine⟨v,?_,CP.step (Bb.refl _ _) (fun b _=>hAO b) (fun _ _=>rfl)⟩
       rw[show ob+j=ob+off+(j-off) by omega]
       exact hv
      ·obtain⟨v,hv,CP⟩:=h8 _ _ h14;refine⟨v,by rw[(S2 j (by omega)).1];exact hv,CP.step Jf hAo fun i hi=>ZL i (h.wfB id c1 h2 p (List.mem_of_getElem? h14) i hi)⟩
     ·rw[L4 (by omega)] at hj
      by_cases CS:off<=j∧j<off+cs.length
      ·have:=h11 (j-off) (by omega)
       rw[show ob+off+(j-off)=ob+j by omega] at this
       exact this
      ·rw[(S2 j (by omega)).2]
       exact h9 j hj
    |row id'=>
     simp only[Ef.ids,List.mem_singleton] at SO;subst SO;obtain⟨cs,h3,h4⟩:=h1;rw[h3] at hb;cases hb;rcases h4 with⟨h5,h6⟩|⟨b,ob,h5,h6,h7⟩
     ·exact .inl ⟨hβ.trans h5,h6⟩
     ·exact .inr ⟨b,ob,hβ.trans h5,h6.weak (fun b _=>hAO b),fun _=>h7,(fun q=>by cases q)⟩
    |none=>simp[Ef.ids] at SO
   ·rw[hpK id Ax,Dx] at hb;split at hb
    ·cases hq:Ac s.hp m id with
     |none=>rw[hq] at hb;cases hb
     |some b0=>rw[hq] at hb;simp at hb;subst hb;trivial
    ·rename_i hxn;have H5:=hf.box id bx hb
     have TE:∀b ob,β id=some (b,ob)->bx ≠ .mv->b<w.heap.size∧w'.heap[b]?=w.heap[b]?:=by
      intro b ob DE hmv;have Bl:=hf.blt id b ob (by show Ac s.hp m id≠none;rw[hb];simp) DE
      refine⟨Bl,out.ext.keep b Bl fun hB=>?_⟩
      obtain⟨id',o',h1,h2⟩:=btX hB;have Gl:Bx (Ac s.hp m id'):=by rw[Za id' h2];exact Qp id' h2
      have FU:id≠id':=by
       rintro rfl
       rcases h2 with h2|h2
       ·exact Ax h2
       ·exact hxn h2
      cases bx with
      |st cc=>exact FU (hf.inj id id' b ob o' (by show Bx (Ac s.hp m id);rw[hb];trivial) Gl DE h1)
      |ar fz cc=>
       cases fz with
       |false=>exact FU (hf.inj id id' b ob o' (by show Bx (Ac s.hp m id);rw[hb];trivial) Gl DE h1)
       |true=>
        rcases H5 with⟨h3,_⟩|⟨b2,o2,h3,_,_,h4⟩
        ·rw[DE] at h3;cases h3
        ·rw[DE] at h3;cases h3;exact h4 rfl (.inl ⟨id',o',Gl,h1⟩)
      |mv=>exact hmv rfl
     have hAoF:∀b,b<w.heap.size->Bz (Ak Bq (bs++bs')) β1 Y b->Bz (Ac s.hp m) β Y b:=by
      intro b Dr hA;rcases hA with⟨i,ob,hl,hβi⟩|hY
      ·rcases Ew i with⟨bx1,Xn⟩|e1
       ·obtain⟨j,hj,_⟩:=Pt i bx1 Xn;rw[hj] at hβi;obtain⟨id',o',h1,h2⟩:=Adt b ((out.fresh j b ob hβi).2 Dr).1;exact .inl ⟨id',o',by rw[Za id' (.inr h1)];exact Qp id' (.inr h1),h2⟩
       ·rw[e1] at hl;cases hq:Bq i with
        |none=>rw[hq] at hl;exact hl.elim
        |some bx1=>
         rw[hq] at hl;rw[hβold i (by rw[hq];simp)] at hβi
         obtain⟨h1,h2,h3⟩:=hold i bx1 hq hl;rcases h3 with h3|⟨h3,h4⟩
         ·exact .inl ⟨i,ob,by rw[Za i (.inl h3)];exact h1,hβi⟩
         ·exact .inl ⟨i,ob,by rw[h4];exact hl,hβi⟩
      ·exact .inr hY
     have Ae2:Bb (Bz (Ac s.hp m) β Y) w w':=out.ext.weaken (fun b _ hB=>by
      obtain⟨id',o',h1,h2⟩:=btX hB;exact .inl ⟨id',o',by rw[Za id' h2];exact Qp id' h2,h1⟩)
     cases bx with
     |st cc=>
      obtain⟨b,ob,h1,h2,h3⟩:=H5;obtain⟨Bl,Rr⟩:=TE b ob h1 (by simp)
      refine⟨b,ob,hβ.trans h1,fun j p hj=>?_,fun j hj=>?_⟩
      ·obtain⟨v,hv,CP⟩:=h2 j p hj;refine⟨v,by rw[World.cell?_of_block (w:=w) Rr];exact hv,CP.step Ae2 hAoF fun i hi=>?_⟩
       refine ZL i (fun e1=>?_)
       exact hf.wfB id cc hb p (List.mem_of_getElem? hj) i hi (Ch.2 e1)
      ·rw[World.frozen?_of_block (w:=w) Rr];exact h3 j hj
     |ar fz cc=>
      rcases H5 with⟨h1,h2⟩|⟨b,ob,h1,h2,h3,h4⟩
      ·exact .inl ⟨hβ.trans h1,h2⟩
      ·obtain⟨Bl,Rr⟩:=TE b ob h1 (by simp)
       have Xg:bsz w' b=bsz w b:=by unfold bsz;rw[Rr]
       refine .inr ⟨b,ob,hβ.trans h1,fun j p hj=>?_,fun e1 j hj Jh=>?_,fun e1 q=>h4 e1 (hAoF b Bl q)⟩
       ·obtain⟨v,hv,h5,Zv⟩:=h2 j p hj;exact⟨v,by rw[World.cell?_of_block (w:=w) (by rw[Dv];exact Rr)];exact hv,h5,Zv.step Ae2 hAoF⟩
       ·rw[World.frozen?_of_block (w:=w) Rr];exact h3 e1 j hj (by rw[←Xg];exact Jh)
     |mv=>trivial
 ·intro id id' b ob ob' hl Gl hb E1;simp only at hl Gl
  have mixed:∀i bx i' k z,(i,bx)∈bs++bs'->β1 i=some (k,z)->Bq i'≠none->Bx (Bq i')->∀z',β1 i'=some (k,z')->False:=by
   intro i bx i' k z Xn hz DZ Wi z' PG;obtain⟨j,hj,_⟩:=Pt i bx Xn;rw[hj] at hz;rw[hβold i' DZ] at PG;cases hq:Bq i' with
   |none=>exact DZ hq
   |some bx1=>
    rw[hq] at Wi;obtain⟨h1,h2,h3⟩:=hold i' bx1 hq Wi;have Bl:=h.blt i' k z' (Bs h1) PG;obtain⟨id2,o2,h4,h5⟩:=Adt k ((out.fresh j k z hz).2 Bl).1;have:=h.inj i' id2 k z' o2 h1 (Qp id2 (.inr h4)) PG h5;subst this;exact h2 h4
  rcases Ew id with⟨bx,Xn⟩|e1
  ·rcases Ew id' with⟨bx',hm2⟩|e2
   ·obtain⟨j,hj,Ut⟩:=Pt id bx Xn;obtain⟨j',Jh,Af0⟩:=Pt id' bx' hm2;rw[hj] at hb;rw[Jh] at E1;have:=out.inj j j' b ob ob' hb E1;subst this;rcases Ut with⟨h1,h2⟩|⟨h1,h2⟩
    ·rcases Af0 with⟨h3,_⟩|⟨_,h4⟩
     ·rw[h1,h3]
     ·omega
    ·rcases Af0 with⟨_,h4⟩|⟨h3,_⟩
     ·omega
     ·exact Uo _ h1 _ h3 rfl
   ·rw[e2] at Gl;exact (mixed id bx id' b ob Xn hb (Bs Gl) Gl ob' E1).elim
  ·rw[e1] at hl;rcases Ew id' with⟨bx',hm2⟩|e2
   ·exact (mixed id' bx' id b ob' hm2 E1 (Bs hl) hl ob hb).elim
   ·rw[e2] at Gl
    have g:∀i,Bx (Bq i)->Bx (s.hp i)∧β1 i=β i:=by
     intro i hli;cases hq:Bq i with
     |none=>rw[hq] at hli;exact hli.elim
     |some bx1=>exact⟨(hold i bx1 hq (by rw[←hq];exact hli)).1,hβold i (by rw[hq];simp)⟩
    rw[(g id hl).2] at hb;rw[(g id' Gl).2] at E1;exact h.inj id id' b ob ob' (g id hl).1 (g id' Gl).1 hb E1
 ·intro id b ob DZ hb;simp only at DZ;rcases Ew id with⟨bx,Xn⟩|e1
  ·obtain⟨j,hj,_⟩:=Pt id bx Xn;rw[hj] at hb;exact (out.fresh j b ob hb).1
  ·rw[e1] at DZ;rw[hβold id DZ] at hb
   have WB:s.hp id≠none:=by
    by_cases Ax:id∈lids
    ·exact Bs (Qp id (.inl Ax))
    ·rw[hpK id Ax,Dx] at DZ;intro e2;have h1:Ac s.hp m id=none:=Ch.2 e2;rw[h1] at DZ;split at DZ<;>exact DZ rfl
   exact Nat.lt_of_lt_of_le (h.blt id b ob WB hb) out.ext.size
 ·have:=Jp (Q:=fun _ p _=>∀id∈A5 p,Ak Bq (bs++bs') id≠none) (val:=Fq us) (d:=o.dst) (v:=Ix ws (J2 P o.type)) h.tsz OO (fun i hi id Ax=>XW id (.inl (h.wfT i hi id Ax))) (fun _ id Ax=>XW id (.inr (by
   obtain⟨bx,hb⟩:=hvr id Ax;exact⟨bx,List.mem_append.2 (.inl hb)⟩)))
  exact this
 ·intro id cells AS p hp i hi;simp only at AS;refine XW i ?_;rcases Ew id with⟨bx,Xn⟩|e1
  ·rw[WD id bx Xn] at AS;cases AS;rcases List.mem_append.1 Xn with Xn|Xn
   ·obtain⟨bx1,hb⟩:=IM id cells Xn p hp i hi;exact .inr ⟨bx1,List.mem_append.2 (.inl hb)⟩
   ·obtain⟨cc,e2⟩:=Dr id _ Xn;cases e2
  ·rw[e1] at AS;by_cases Ax:id∈lids
   ·rcases YQ id Ax with⟨off,c1,cs,h1,h2,h3,h4⟩|⟨c1,cs,h1,h2⟩
    ·rw[h2] at AS;cases AS;unfold A0 at hp;rcases List.mem_append.1 hp with hp|hp
     ·rcases List.mem_append.1 hp with hp|hp
      ·exact .inl (h.wfB id c1 h1 p (List.mem_of_mem_take hp) i hi)
      ·obtain⟨bx1,hb⟩:=h4 p hp i hi;exact .inr ⟨bx1,List.mem_append.2 (.inr hb)⟩
     ·exact .inl (h.wfB id c1 h1 p (List.mem_of_mem_drop hp) i hi)
    ·rw[h2] at AS;cases AS
   ·obtain⟨_,_,h3⟩:=hold id _ AS trivial;rcases h3 with h3|⟨_,h3⟩
    ·exact absurd h3 Ax
    ·exact .inl (h.wfB id cells (Ft h3 trivial) p hp i hi)
 ·rintro b ⟨id,ob,hl,hβ⟩
  rcases Nat.lt_or_ge b w.heap.size with Bl|QF
  ·exact h.ownd b (hX b Bl ⟨id,ob,hl,hβ⟩)
  ·exact .inr (Nat.le_trans h.fr.step.size QF)
 ·intro id bx b ob hb hl hβ Bl j hj;simp only at hb;have hlw:=Nat.lt_of_lt_of_le Bl h.fr.step.size;rcases Ew id with⟨bx',Xn⟩|e1
  ·rw[WD id bx' Xn] at hb;cases hb;obtain⟨k,hk,_⟩:=Pt id bx Xn;rw[hk] at hβ
   have Re:ob<=j:=by
    cases bx with
    |st cc=>exact hj.1
    |ar fz cc=>exact hj
    |mv=>exact hl.elim
   obtain⟨id2,o2,bx2,h1,h2,h3,h4⟩:=hCL b j (((out.fresh k b ob hβ).2 hlw).2 j Re);exact h.rngB id2 bx2 b o2 h1 h2 h3 Bl j h4
  ·rw[e1] at hb;rw[hβold id (by rw[hb];simp)] at hβ
   obtain⟨h1,h2,h3⟩:=hold id bx hb hl;rcases h3 with h3|⟨h3,h4⟩
   ·rcases YQ id h3 with⟨off,c1,cs,h5,h6,h7,_⟩|⟨c1,cs,h5,h6⟩
    ·rw[h6] at hb;cases hb;have hj:ob<=j∧j<ob+(A0 c1 cs off).length:=hj;rw[L4 (by omega)] at hj
     exact h.rngB id _ b ob h5 trivial hβ Bl j hj
    ·rw[h6] at hb;cases hb;exact h.rngB id _ b ob h5 trivial hβ Bl j hj
   ·exact h.rngB id bx b ob (Ft h4 hl) hl hβ Bl j hj
 ·intro i hi;obtain⟨h1,h2⟩:=h.pin i hi;exact⟨XW _ (.inl h1),by rw[ZL _ h1];exact h2⟩
 ·intro id cc b ob hb hβ Bl;simp only at hb;have hlw:=Nat.lt_of_lt_of_le Bl h.fr.step.size;rcases Ew id with⟨bx',Xn⟩|e1
  ·rw[WD id bx' Xn] at hb;cases hb;have:=(Abi id _ Xn).2.2 cc rfl b ob hβ;omega
  ·rw[e1] at hb;rw[hβold id (by rw[hb];simp)] at hβ
   obtain⟨h1,h2,h3⟩:=hold id _ hb trivial;rcases h3 with h3|⟨h3,h4⟩
   ·rcases YQ id h3 with⟨off,c1,cs,h5,h6,h7,_⟩|⟨c1,cs,h5,h6⟩
    ·exact h.stp id c1 b ob h5 hβ Bl
    ·rw[h6] at hb;cases hb
   ·exact h.stp id cc b ob (Ft h4 trivial) hβ Bl
 ·intro b hY hXb;exact h.Yx b hY (hX b (Nat.lt_of_lt_of_le (h.Ylt b hY) h.fr.step.size) hXb)
 ·refine⟨out.os.trans h.fr.os,out.tape.trans h.fr.tape,out.output.trans h.fr.output,⟨Nat.le_trans h.fr.step.size out.ext.size,fun b hb hnX=>?_,fun b hb=>(h.fr.step.bs b hb).trans (out.ext.bs b (Nat.lt_of_lt_of_le hb h.fr.step.size))⟩,fun b j hb TK=>?_⟩
  ·rw[out.ext.keep b (Nat.lt_of_lt_of_le hb h.fr.step.size) ?_]
   ·exact h.fr.step.keep b hb hnX
   ·intro hB;rcases h.ownd b (hBA b hB) with hq|hq
    ·exact hnX hq
    ·omega
  ·have FU:¬Ya bt vs b j:=by
    intro hq;obtain⟨id2,o2,bx2,h1,h2,h3,h4⟩:=hCL b j hq;exact TK (h.rngB id2 bx2 b o2 h1 h2 h3 hb j h4)
   obtain⟨h1,h2⟩:=out.rng b j (Nat.lt_of_lt_of_le hb h.fr.step.size) FU;rw[h1,h2];exact h.fr.rng b j hb TK
end
open Go.RowKit
section
variable {R:Type} {r:R} {P:Program} {N:Nat} {w0:World} {X0:E6} {Y:Nat->Prop} {β β':Bt} {s:St} {a:Act} {w w':World} {o:Oper} {A:Nat->Prop}
theorem Z9 (h:Br N w0 X0 Y β s a w){c:Call}(ho:o.op=.call c)(hc:c.callee=.builtin .append){d:Nat}(OO:o.dst=some d){b x:Operand}(C4:c.args.toList=[b,x]) {t tx:TypeId}{ts:List TypeId}(Ty:c.argTypes.toList=t::tx::ts)
  {K:St->Option R} (hk:Jo P N s d t tx (A7 s.tm b) (A7 s.tm x) K=some r):
  ∃s',K s'=some r∧∀(next:Act->World->Prop) (Q:Exit->Act->World->Prop),(∀a' w' β',Br N w0 X0 Y β' s' a' w'->next a' w')->o.wp P a w next Q:=by
 have Wt:c.args = #[b,x]:=by
  have:c.args=([b,x]:List Operand).toArray:=by rw[←C4]
  exact this
 have GK:c.argTypes=(t::tx::ts).toArray:=by rw[←Ty]
 have run:∀{v:Value} {w1:World},(Builtin.append_ (t::tx::ts).toArray o.type #[a.eval b,a.eval x]).run P w=.ok v w1->∀(next:Act->World->Prop) (Q:Exit->Act->World->Prop),next (a.put (some d) v) w1->o.wp P a w next Q:=by
  intro v w1 hr next Q hn;unfold Oper.wp execOp;rw[ho];simp only[resolve,hc,invoke,builtin,Sem.run_bind,Sem.run_pure,Result.andThen_ok,Wt,GK];have:(#[b,x]:Array Operand).map a.eval = #[a.eval b,a.eval x]:=by simp
  rw[this,hr];show next (a.put o.dst v) w1;rw[OO];exact hn
 have hbv:=Bu h b;have CY:=C5 h b;unfold Jo at hk;split at hk
 ·rename_i e hu;obtain⟨PR,hk⟩:=Ae hk;obtain⟨i,z,hi,hz,Wf,Iv⟩:=Wv PR;cases hit:Qo P tx
  rotate_left
  ·rw[hit] at hk;simp only[cond_true] at hk
   obtain⟨ki,PS⟩:∃k,P.underlying tx=some (.int k):=by
    unfold Qo at hit;split at hit
    ·exact⟨_,by assumption⟩
    ·cases hit
   unfold Mz at hk;obtain⟨kx,n,hx,hk⟩:=B1 hk;obtain⟨zz,n',c',hk,hp⟩:=Dh hk;obtain⟨hb,hk⟩:=Ae hk;simp only[Bool.and_eq_true,decide_eq_true_eq] at hb;obtain⟨⟨⟨⟨⟨YY,QK⟩,P7⟩,GV⟩,SX⟩,CW⟩:=hb;have QK:d<N:=Nat.lt_of_succ_le (Nat.le_of_ble_eq_true QK);have P7:s.hp d=none:=by simpa using P7
   have JJ:D3 N (some d)=true:=by simp[D3,Nat.blt];omega
   have Nc:((P.info? e).map (·.bytes)).getD 0=i.bytes:=by rw[hi];rfl
   rw[Nc] at SX;rw[Iv] at hk;have B0:=Bi h hx;rcases D7 hp hbv with⟨Kf,_⟩|⟨_,_,_,Vc,_⟩|⟨_,_,_,Vc,_⟩
   ·refine⟨_,hk,fun next Q hn=>?_⟩
    by_cases WE:n=0
    ·subst WE;have hr:=Sv (P:=P) (w:=w) (t:=t) (tx:=tx) (ty:=o.type) (ts:=ts) (kx:=kx) hu PS hi;rw[←Kf,←B0] at hr;refine run hr next Q (hn _ _ (Bg β d none) ?_);rw[Kf];refine h.stepR (d:=some d) (nw:=[(d,.ar false [])]) (β':=Bg β d none) JJ (by simp[A2,P7]) ⟨rfl,rfl,rfl,Bb.refl _ _,fun j hj=>Ad _ _ (by rintro rfl;exact hj P7),?_,?_,?_,?_,?_,.inl ⟨Af _ _ _,rfl,rfl,none,rfl⟩,?_⟩
     ·intro j bx hm;simp at hm;rw[hm.2];trivial
     ·intro j bx hm;simp at hm;obtain⟨rfl,rfl⟩:=hm;exact .inl ⟨Af _ _ _,rfl⟩
     ·intro j bx k q hm hq;simp at hm;obtain⟨rfl,rfl⟩:=hm;rw[Af] at hq;cases hq
     ·intro j bx j' bx' k q q' hm Ii _ _;simp at hm Ii;rw[hm.1,Ii.1]
     ·intro j cells hm;simp at hm
     ·intro j hj;simp[A5,Bf,Ai] at hj;subst hj;exact .inr ⟨.ar false [],by simp⟩
    ·have hr:=Ud (P:=P) (w:=w) (t:=t) (tx:=tx) (ty:=o.type) (ts:=ts) (kx:=kx) hu PS hi hz (n:=n) (by omega) SX CW
     rw[←Kf,←B0] at hr;refine run hr next Q (hn _ _ (Bg β d (some (w.heap.size,0))) ?_);have QF:n.toNat<=grownCap w n.toNat 0 e:=grownCap_ge w n.toNat 0 e;generalize O6:((if n.toNat*i.size=0 then #[] else Builtin.zeroCells z.cells n.toNat)++Builtin.zeroCells z.cells (grownCap w n.toNat 0 e-n.toNat))=cs
     have Pz:Di w (w.drew.alloc (.cells cs e)) cs e:=
      ⟨rfl,rfl,rfl,fun k hk=>Below.heap_alloc w.drew _ k hk,by show (w.heap.push _).size=_;simp,(0,0),by show (w.heap.push _)[w.heap.size]?=_;simp,.inl rfl⟩
     have HH:cs.size=grownCap w n.toNat 0 e*i.size:=by
      rw[←O6];by_cases GZ:n.toNat*i.size=0
      ·rw[if_pos GZ]
       have HJ:i.size=0:=by
        rcases Nat.mul_eq_zero.1 GZ with h|h
        ·omega
        ·exact h
       simp[size_zeroCells,Wf,HJ]
      ·rw[if_neg GZ];simp only[Array.size_append,size_zeroCells,Wf,←Nat.add_mul]
       congr 1
       omega
     refine h.stepR (d:=some d) (nw:=[(d,.ar false [])]) JJ (by simp[A2,P7]) (K4 Pz P7 trivial ?_ (fun cells hx=>by cases hx) ?_ (by intro j hj;simp[A5,Bf,Ai] at hj;exact .inr hj))
     ·refine .inr ⟨w.heap.size,0,Af _ _ _,fun j p hj=>by simp at hj,fun _ j _ hj=>?_,(fun q=>by cases q)⟩
      rw[Pz.bsz] at hj;exact Pz.frozen hj
     ·refine .inr ⟨w.heap.size,0,0,grownCap w n.toNat 0 e,Af _ _ _,rfl,.inl rfl,QF,?_,by rw[Pz.size];omega⟩
      exact⟨by rw[Pz.bsz,HH];omega,.inr (Hd w.drew _ e)⟩
   ·rw[Vc] at YY;cases YY
   ·rw[Vc] at YY;cases YY
  rw[hit] at hk;simp only[cond_false] at hk;have Nc:((P.info? e).map (·.bytes)).getD 0=i.bytes:=by rw[hi];rfl
  obtain⟨⟨dx,hdx,DM⟩,m,new,news,hk,hs⟩:=Vm h hk (by
   intro m new hk;split at hk
   ·split at hk
    ·obtain⟨hb,_⟩:=Ae hk;simp only[Bool.and_eq_true,decide_eq_true_eq] at hb;have he:=Nat.eq_of_beq_eq_true hb.1.1.1.1.1.1.1;rw[←he];exact hb.1.1.2
    ·cases hk
   ·obtain⟨zz,n',c',hk,_⟩:=Dh hk;obtain⟨hb,_⟩:=Ae hk;simp only[Bool.and_eq_true,decide_eq_true_eq] at hb;exact hb.1.1.2)
  rw[Iv] at hs;have WH:new.length=news.length:=hs.rep.len;split at hk
  ·rename_i id es off n eb;rw[eb] at hbv CY;split at hk
   ·rename_i cc h0;obtain⟨hb,Dc⟩:=Ae hk;simp only[Bool.and_eq_true,decide_eq_true_eq] at hb;obtain⟨⟨⟨⟨⟨⟨⟨Ra,J9⟩,QK⟩,P7⟩,Ak6⟩,MI⟩,SX⟩,CW⟩:=hb;have Ra:=Nat.eq_of_beq_eq_true Ra;have J9:=Nat.eq_of_beq_eq_true J9;have QK:d<N:=Nat.lt_of_succ_le (Nat.le_of_ble_eq_true QK);have P7:s.hp d=none:=by simpa using P7
    subst J9;rw[Iv] at Ra;subst Ra;rw[Nc] at SX;have Tj:news.length=m*i.size:=by omega
    have Ani:s.hp id≠none:=by rw[h0];simp
    have OR:=h.box id _ h0;refine⟨_,Dc,fun next Q hn=>?_⟩
    have grow:∀(ad:Option Addr) (cap:Nat) (olds:List Value),a.eval b=.slice ad n cap->Au (Ao w (Bz s.hp β Y)) (cc.take (n*i.size)) olds->(∀u∈olds,u.oneCell'=true)->olds.length=n*i.size ->
      ((ad=none∧olds=[])∨∃p,ad=some p∧olds.length=n*i.size∧∀(j:Nat) v,olds[j]?=some v->w.cell? (p.add j)=some v)->cap<n+m->o.wp P a w next Q:=by
     intro ad cap olds Kf holds h1 hol hold Oc;have hr:=append_grow_run (P:=P) (w:=w) (t:=t) (tx:=tx) (ty:=o.type) (ts:=ts) hu hdx DM hi hz hs hold Oc SX CW;rw[←Kf] at hr;refine run hr next Q (hn _ _ (Bg β d (some (w.heap.size,0))) ?_);have QF:n+m<=grownCap w (n+m) cap e:=grownCap_ge w (n+m) cap e
     have Pz:Di w (w.drew.alloc (.cells (olds.toArray++news.toArray++Builtin.zeroCells z.cells (grownCap w (n+m) cap e-(n+m))) e)) (olds.toArray++news.toArray++Builtin.zeroCells z.cells (grownCap w (n+m) cap e-(n+m))) e:=
      ⟨rfl,rfl,rfl,fun k hk=>Below.heap_alloc w.drew _ k hk,by show (w.heap.push _).size=_;simp,(0,0),by show (w.heap.push _)[w.heap.size]?=_;simp,.inl rfl⟩
     have HH:(olds.toArray++news.toArray++Builtin.zeroCells z.cells (grownCap w (n+m) cap e-(n+m))).size=grownCap w (n+m) cap e*i.size:=by
      simp only[Array.size_append,List.size_toArray,size_zeroCells,Wf,hol,Tj,←Nat.add_mul]
      congr 1
      omega
     have BV:∀k y,some (w.heap.size,0)=some (k,y)->w.heap.size<=k∨∃q,β id=some (k,q):=by
      intro k y hh;simp at hh;exact .inl (by omega)
     refine h.move h0 P7 QK rfl rfl rfl (by rw[Pz.size];omega) (fun k hk _=>Pz.old k hk) Pz.step.bs (fun k y hh=>⟨by simp at hh;rw[Pz.size];omega,BV k y hh⟩) (fun k y hh Bl=>by simp at hh;omega)
      (fun k y _ Bl j _=>⟨World.cell?_of_block (w:=w) (Pz.old k Bl),World.frozen?_of_block (w:=w) (Pz.old k Bl)⟩) ?_ ?_ (by intro j hj;simpa [A5,Bf,Ai] using hj)
     ·refine .inr ⟨w.heap.size,0,Af _ _ _,Wj Pz (JR h0 P7 BV) holds hs.rep h1 hs.one,fun _ j _ hj=>?_,(fun q=>by cases q)⟩
      rw[Pz.bsz] at hj;exact Pz.frozen hj
     ·refine .inr ⟨w.heap.size,0,0,grownCap w (n+m) cap e,Af _ _ _,rfl,.inl rfl,QF,?_,by rw[Pz.size];omega⟩
      exact⟨by rw[Pz.bsz,HH];omega,.inr (Hd w.drew _ e)⟩
    rcases hbv with⟨hβ,_,rfl,ad,Kf⟩|⟨bb,ob,y,cap,hβ,Kf,hy,KV,Oc,VL⟩
    ·rcases OR with⟨_,rfl⟩|⟨b',o',Dr,_⟩
     ·by_cases WE:m=0
      ·subst WE;have hr:=H1 (P:=P) (w:=w) (t:=t) (tx:=tx) (ty:=o.type) (ts:=ts) (ad:=ad) hu hdx DM hi hs (List.eq_nil_of_length_eq_zero (by omega))
       rw[←Kf] at hr;have EY:new=[]:=List.eq_nil_of_length_eq_zero (by omega)
       subst EY;refine run hr next Q (hn _ _ (Bg β d none) ?_);rw[Kf];refine h.move h0 P7 QK rfl rfl rfl (Nat.le_refl _) (fun _ _ _=>rfl) (fun _ _=>Gb.refl _ _) (fun k q hh=>by cases hh) (fun k q hh=>by cases hh) (fun _ _ _ _ _ _=>⟨rfl,rfl⟩) ?_ ?_ (by intro j hj;simpa [A5,Bf,Ai] using hj)
       ·exact .inl ⟨Af _ _ _,by simp⟩
       ·exact .inl ⟨Af _ _ _,rfl,rfl,ad,rfl⟩
      ·exact grow ad 0 [] Kf (by simp[Au]) (by simp) (by simp) (by cases ad with
        |none=>exact .inl ⟨rfl,rfl⟩
        |some p=>exact .inr ⟨p,rfl,by simp,fun j v hj=>by simp at hj⟩) (by omega)
     ·rw[hβ] at Dr;cases Dr
    ·rcases OR with⟨Dr,_⟩|⟨b',o',Dr,Hy,BM,_⟩
     ·rw[hβ] at Dr;cases Dr
     rw[hβ] at Dr;simp at Dr;obtain⟨rfl,rfl⟩:=Dr;have hy:y=ob:=by rcases hy with hy|⟨_,hq⟩<;>omega
     subst hy;by_cases Jx:n+m<=cap
     ·have Ae7:y+n*i.size+news.length<=bsz w bb:=by
       have h5:n*i.size+m*i.size<=cap*i.size:=by rw[←Nat.add_mul];exact Nat.mul_le_mul_right _ Jx
       have:=Oc.1;omega
      have hcell:∀k,k<news.length->(w.cell? ⟨bb,y+n*i.size+k,none⟩).isSome=true:=fun k hk=>Mx (by omega)
      have hr:=append_room_run (P:=P) (w:=w) (t:=t) (tx:=tx) (ty:=o.type) (ts:=ts) (b:=bb) (ob:=y) (n:=n) (cap:=cap) hu hdx DM hi hs Tj hcell (fun k hk=>BM rfl _ (by omega) (by omega)) Jx
      rw[←Kf] at hr;have hw:=Bc.setCells bb news (y+n*i.size) w
      have BV:∀k q,some (bb,y)=some (k,q)->w.heap.size<=k∨∃q',β id=some (k,q'):=by
       intro k q hh;simp at hh;obtain⟨rfl,rfl⟩:=hh;exact .inr ⟨_,hβ⟩
      refine run hr next Q (hn _ _ (Bg β d (some (bb,y))) ?_)
      have Jf:Bb (Bz s.hp β Y) w (w.setCells bb (y+n*i.size) news):=by
       have WJ:Bz s.hp β Y bb:=.inl ⟨id,y,by rw[h0];trivial,hβ⟩
       exact⟨by rw[hw.size];exact Nat.le_refl _,fun k _ hk=>hw.other k (fun e=>hk (e ▸ WJ)),fun k _=>hw.grow k⟩
      refine h.move h0 P7 QK hw.os hw.tape hw.output (by rw[hw.size];exact Nat.le_refl _) (fun k _ hq=>hw.other k (by rintro rfl;exact hq _ hβ)) Jf.bs (fun k q hh=>⟨by simp at hh;rw[hw.size];omega,BV k q hh⟩) (fun k q hh _=>by rw[hβ];exact hh)
       (fun k q hh _ j hj=>by
        rw[hβ] at hh;cases hh;exact⟨World.cell?_setCells_out bb _ _ w ⟨bb,j,none⟩ (fun _ _=>by show j<y+n*i.size∨y+n*i.size+_<=j;omega),hw.frz j⟩) ?_ ?_ (by intro j hj;simpa [A5,Bf,Ai] using hj)
      ·refine .inr ⟨bb,y,Af _ _ _,fun j p hj=>?_,fun _ j hj Jh=>?_,(fun q=>by cases q)⟩
       ·rw[B9];by_cases hjn:j<n*i.size
        ·rw[List.getElem?_append_left (by rw[List.length_take];omega),List.getElem?_take_of_lt hjn] at hj
         obtain⟨u,Fz,h5,ht⟩:=Hy j p hj;rw[B9] at Fz;refine⟨u,?_,h5,ht.step Jf (JR h0 P7 BV)⟩;rw[World.cell?_setCells_out bb _ _ w ⟨bb,y+j,none⟩ (fun _ _=>by show y+j<y+n*i.size∨y+n*i.size+_<=y+j;omega)]
         exact Fz
        ·rw[List.getElem?_append_right (by rw[List.length_take];omega),List.length_take,Nat.min_eq_left Ak6] at hj
         obtain⟨u,Fz,ht⟩:=hs.rep.get hj
         have Bl:j-n*i.size<news.length:=by
          rcases Nat.lt_or_ge (j-n*i.size) news.length with h|h
          ·exact h
          ·rw[List.getElem?_eq_none h] at Fz;cases Fz
         refine⟨u,?_,hs.one u (List.mem_of_getElem? Fz),ht.step Jf (JR h0 P7 BV)⟩;have:=World.cell?_setCells_in bb news (y+n*i.size) w hcell (j-n*i.size) Bl;rw[show y+j=y+n*i.size+(j-n*i.size) from by omega,this]
         rw[List.getElem?_eq_getElem Bl] at Fz;exact Fz
       ·rw[hw.bs] at Jh;rw[hw.frz];exact BM rfl j hj Jh
      ·exact .inr ⟨bb,y,y,cap,Af _ _ _,rfl,.inl rfl,Jx,Oc.step (hw.grow bb),by rw[hw.size];exact VL⟩
     ·-- the old cells
      have hob:∀(j:Nat) p,(cc.take (n*i.size))[j]?=some p->∃v,w.cell? ⟨bb,y+j,none⟩=some v∧v.oneCell'=true∧Ao w (Bz s.hp β Y) p v:=by
       intro j p hj;rw[List.getElem?_take] at hj;split at hj
       ·obtain⟨v,hv,h5,ht⟩:=Hy j p hj;rw[B9] at hv;exact⟨v,hv,h5,ht⟩
       ·cases hj
      have C3:(cc.take (n*i.size)).length=n*i.size:=by rw[List.length_take];omega
      refine grow _ cap ((cc.take (n*i.size)).mapIdx fun j _=>(w.cell? ⟨bb,y+j,none⟩).getD undef) Kf ?_ ?_ (by simp only[List.length_mapIdx];exact C3) (.inr ⟨_,rfl,by simp only[List.length_mapIdx];exact C3,fun j v hj=>?_⟩) (by omega)
      ·refine Au.of_at (by simp) fun j p v hp hv=>?_
       obtain⟨u,Fz,_,ht⟩:=hob j p hp;rw[List.getElem?_mapIdx,hp,Option.map_some,Fz] at hv;simp at hv;subst hv;exact ht
      ·intro v hv;obtain⟨j,hj⟩:=List.mem_iff_getElem?.1 hv;rw[List.getElem?_mapIdx] at hj;cases hp:(cc.take (n*i.size))[j]? with
       |none=>rw[hp] at hj;cases hj
       |some p=>
        obtain⟨u,Fz,h5,_⟩:=hob j p hp;rw[hp,Option.map_some,Fz] at hj;simp at hj;subst hj;exact h5
      ·rw[List.getElem?_mapIdx] at hj;cases hp:(cc.take (n*i.size))[j]? with
       |none=>rw[hp] at hj;cases hj
       |some p=>
        obtain⟨u,Fz,h5,_⟩:=hob j p hp;rw[hp,Option.map_some,Fz] at hj;simp at hj;subst hj;rw[B9];exact Fz
   ·cases hk
  ·obtain⟨zz,n',c',hk,hp⟩:=Dh hk;obtain⟨hb,hk⟩:=Ae hk;simp only[Bool.and_eq_true,decide_eq_true_eq] at hb;obtain⟨⟨⟨⟨⟨YY,QK⟩,P7⟩,MI⟩,SX⟩,CW⟩:=hb;have QK:d<N:=Nat.lt_of_succ_le (Nat.le_of_ble_eq_true QK);have P7:s.hp d=none:=by simpa using P7
   have JJ:D3 N (some d)=true:=by simp[D3,Nat.blt];omega
   rw[Iv] at MI hk;rw[Nc] at SX;have Tj:news.length=m*i.size:=by omega
   rcases D7 hp hbv with⟨Kf,_⟩|⟨_,_,_,Vc,_⟩|⟨_,_,_,Vc,_⟩
   ·refine⟨_,hk,fun next Q hn=>?_⟩
    by_cases WE:m=0
    ·subst WE;have hr:=H1 (P:=P) (w:=w) (t:=t) (tx:=tx) (ty:=o.type) (ts:=ts) (ad:=none) hu hdx DM hi hs (List.eq_nil_of_length_eq_zero (by omega))
     rw[←Kf] at hr;have EY:new=[]:=List.eq_nil_of_length_eq_zero (by omega)
     subst EY;refine run hr next Q (hn _ _ (Bg β d none) ?_);rw[Kf];refine h.stepR (d:=some d) (nw:=[(d,.ar false [])]) (β':=Bg β d none) JJ (by simp[A2,P7]) ⟨rfl,rfl,rfl,Bb.refl _ _,fun j hj=>Ad _ _ (by rintro rfl;exact hj P7),?_,?_,?_,?_,?_,.inl ⟨Af _ _ _,rfl,rfl,none,rfl⟩,?_⟩
     ·intro j bx hm;simp at hm;rw[hm.2];trivial
     ·intro j bx hm;simp at hm;obtain⟨rfl,rfl⟩:=hm;exact .inl ⟨Af _ _ _,rfl⟩
     ·intro j bx k q hm hq;simp at hm;obtain⟨rfl,rfl⟩:=hm;rw[Af] at hq;cases hq
     ·intro j bx j' bx' k q q' hm Ii _ _;simp at hm Ii;rw[hm.1,Ii.1]
     ·intro j cells hm;simp at hm
     ·intro j hj;simp[A5,Bf,Ai] at hj;subst hj;exact .inr ⟨.ar false [],by simp⟩
    ·have hr:=append_grow_run (P:=P) (w:=w) (t:=t) (tx:=tx) (ty:=o.type) (ts:=ts) (ad:=none) (n:=0) (cap:=0) (olds:=[]) hu hdx DM hi hz hs (.inl ⟨rfl,rfl⟩) (by omega) (by rw[Nat.zero_add];exact SX) (by omega)
     rw[←Kf] at hr;refine run hr next Q (hn _ _ (Bg β d (some (w.heap.size,0))) ?_);have QF:0+m<=grownCap w (0+m) 0 e:=grownCap_ge w (0+m) 0 e
     have Pz:Di w (w.drew.alloc (.cells (([]:List Value).toArray++news.toArray++Builtin.zeroCells z.cells (grownCap w (0+m) 0 e-(0+m))) e)) (([]:List Value).toArray++news.toArray++Builtin.zeroCells z.cells (grownCap w (0+m) 0 e-(0+m))) e:=
      ⟨rfl,rfl,rfl,fun k hk=>Below.heap_alloc w.drew _ k hk,by show (w.heap.push _).size=_;simp,(0,0),by show (w.heap.push _)[w.heap.size]?=_;simp,.inl rfl⟩
     have HH:(([]:List Value).toArray++news.toArray++Builtin.zeroCells z.cells (grownCap w (0+m) 0 e-(0+m))).size=grownCap w (0+m) 0 e*i.size:=by
      simp only[Array.size_append,List.size_toArray,size_zeroCells,Wf,Tj,List.length_nil,←Nat.add_mul];rw[Nat.zero_add (m*i.size),←Nat.add_mul]
      congr 1
      omega
     refine h.stepR (d:=some d) (nw:=[(d,.ar false new)]) JJ (by simp[A2,P7]) (K4 Pz P7 trivial ?_ (fun cells hx=>by cases hx) ?_ (by intro j hj;simp[A5,Bf,Ai] at hj;exact .inr hj))
     ·refine .inr ⟨w.heap.size,0,Af _ _ _,?_,fun _ j _ hj=>?_,(fun q=>by cases q)⟩
      ·exact Wj (pre:=[]) Pz (MN P7) trivial hs.rep (by simp) hs.one
      ·rw[Pz.bsz] at hj;exact Pz.frozen hj
     ·refine .inr ⟨w.heap.size,0,0,grownCap w (0+m) 0 e,Af _ _ _,by rw[Nat.zero_add],.inl rfl,by omega,?_,by rw[Pz.size];omega⟩
      exact⟨by rw[Pz.bsz,HH];omega,.inr (Hd w.drew _ e)⟩
   ·rw[Vc] at YY;cases YY
   ·rw[Vc] at YY;cases YY
 ·cases hk
theorem IG (h:Br N w0 X0 Y β s a w){c:Call}(ho:o.op=.call c)(hc:c.callee=.builtin .copy){b x:Operand}(C4:c.args.toList=[b,x]) {t tx:TypeId}{ts:List TypeId}(Ty:c.argTypes.toList=t::tx::ts)
  {K:St->Option R} (hk:Yu P N s o.dst t tx (A7 s.tm b) (A7 s.tm x) K=some r):
  ∃s',K s'=some r∧∀(next:Act->World->Prop) (Q:Exit->Act->World->Prop),(∀a' w' β',Br N w0 X0 Y β' s' a' w'->next a' w')->o.wp P a w next Q:=by
 have Wt:c.args = #[b,x]:=by
  have:c.args=([b,x]:List Operand).toArray:=by rw[←C4]
  exact this
 have GK:c.argTypes=(t::tx::ts).toArray:=by rw[←Ty]
 have run:∀{v:Value} {w1:World},(Builtin.copy_ (t::tx::ts).toArray o.type #[a.eval b,a.eval x]).run P w=.ok v w1->∀(next:Act->World->Prop) (Q:Exit->Act->World->Prop),next (a.put o.dst v) w1->o.wp P a w next Q:=by
  intro v w1 hr next Q hn;unfold Oper.wp execOp;rw[ho];simp only[resolve,hc,invoke,builtin,Sem.run_bind,Sem.run_pure,Result.andThen_ok,Wt,GK];have:(#[b,x]:Array Operand).map a.eval = #[a.eval b,a.eval x]:=by simp
  rw[this,hr];exact hn
 have hbv:=Bu h b;unfold Yu at hk;split at hk
 ·rename_i e hu;obtain⟨PR,hk⟩:=Ae hk;simp only[Bool.and_eq_true] at PR;obtain⟨J7,JJ⟩:=PR;obtain⟨i,hi⟩:∃i,P.info? e=some i:=Option.isSome_iff_exists.1 J7;have Iv:Aq P e=i.size:=by unfold Aq;rw[hi];rfl
  have h1c:∀(m:Nat) (new:List PV),(match A7 s.tm b with
    |.view id es off n=>
     match s.hp id with
     |some (.ar false c)=>Ar (Nat.beq es (Aq P e)&&decide (off+n*es<=c.length)&&decide (new.length=m*es))
       (Aa (min m n) fun k=>Aa (A0 c (new.take (k*es)) off) fun c=>K ⟨Az s.tm o.dst (.sc (.int .i64 k)),Bg s.hp id (some (.ar false c))⟩)
     |_=>none
    |_=>none)=some r->new.length=m*Aq P e:=by
   intro m new hk;split at hk
   ·split at hk
    ·obtain⟨hb,_⟩:=Ae hk;simp only[Bool.and_eq_true,decide_eq_true_eq] at hb;rw[←Nat.eq_of_beq_eq_true hb.1.1];exact hb.2
    ·cases hk
   ·cases hk
  obtain⟨_,m,new,news,hk,hs⟩:=Vm h hk h1c;split at hk
  ·rename_i id es off n hb;rw[hb] at hbv;split at hk
   ·rename_i cc h0;obtain⟨hb,hk⟩:=Ae hk;simp only[Bool.and_eq_true,decide_eq_true_eq] at hb;obtain⟨⟨Ra,Re⟩,WH⟩:=hb;have Ra:=Nat.eq_of_beq_eq_true Ra;subst Ra;rw[Iv] at hk hs Re WH hbv;have Tj:news.length=m*i.size:=by rw[←hs.rep.len];exact WH
    have XG:min m n*i.size<=m*i.size:=Nat.mul_le_mul_right _ (Nat.min_le_left _ _);have hkn:min m n*i.size<=n*i.size:=Nat.mul_le_mul_right _ (Nat.min_le_right _ _);have Hx:K ⟨Az s.tm o.dst (.sc (.int .i64 ((min m n:Nat):Int))),Bg s.hp id (some (.ar false (A0 cc (new.take (min m n*i.size)) off)))⟩=some r:=hk;refine⟨_,Hx,fun next Q hn=>?_⟩
    have Aae:∀{β':Bt} {Bq:Nat->Option A1} {w':World},Br N w0 X0 Y β' ⟨s.tm,Bq⟩ a w'->Br N w0 X0 Y β' ⟨Az s.tm o.dst (.sc (.int .i64 ((min m n:Nat):Int))),Bq⟩ (a.put o.dst (goInt ((min m n:Nat):Int))) w':=
     fun hh=>hh.put JJ (Ao.sc _) (fun _ hx=>by cases hx)
    have UM:new.take (min m n*i.size)=[]->Bg s.hp id (some (.ar false (A0 cc (new.take (min m n*i.size)) off)))=s.hp:=by
     intro e;rw[e];refine Rp _ ?_;rw[h0];simp[A0]
    have nothing:min m n*i.size=0->∀(ad:Option Addr) (cap:Nat),a.eval b=.slice ad n cap->o.wp P a w next Q:=by
     intro e ad cap Kf;have hr:=DH (P:=P) (w:=w) (w1:=w) (t:=t) (ty:=o.type) (ts:=tx::ts) (ad:=ad) (n:=n) (cap:=cap) hu hi hs (by rw[e];cases ad<;>simp[storeCells])
     rw[←Kf] at hr;refine run hr next Q (hn _ _ β (Aae ?_));rw[UM (by rw[e,List.take_zero])]
     exact h
    rcases hbv with⟨hβ,_,rfl,ad,Kf⟩|⟨bb,ob,y,cap,hβ,Kf,hy,KV,Oc,VL⟩
    ·exact nothing (by simp) ad 0 Kf
    ·by_cases WE:min m n*i.size=0
     ·exact nothing WE _ _ Kf
     rcases h.box id _ h0 with⟨Dr,_⟩|⟨b',o',Dr,Hy,BM,_⟩
     ·rw[hβ] at Dr;cases Dr
     rw[hβ] at Dr;simp at Dr;obtain⟨rfl,rfl⟩:=Dr;have GV:n≠0:=by rintro rfl;simp at WE
     have hy:y=ob+off:=by rcases hy with hy|⟨hq,_⟩<;>first|exact absurd hq GV|exact hy
     subst hy;have Bl:(news.take (min m n*i.size)).length=min m n*i.size:=by rw[List.length_take,Tj];omega
     have hcell:∀k,k<(news.take (min m n*i.size)).length->(w.cell? ⟨bb,ob+off+k,none⟩).isSome=true:=by
      intro k hk;obtain⟨v,hv,_⟩:=Hy (off+k) _ (List.getElem?_eq_getElem (by omega))
      rw[B9] at hv;rw[Nat.add_assoc,hv];rfl
     have WP:∀k,k<(news.take (min m n*i.size)).length->w.frozen? ⟨bb,ob+off+k,none⟩=false:=fun k hk=>by
      obtain⟨u,hu⟩:=Option.isSome_iff_exists.1 (hcell k hk);exact BM rfl _ (by omega) (Qj hu)
     have h1:∀u∈news.take (min m n*i.size),u.oneCell'=true:=fun u hu=>hs.one u (List.mem_of_mem_take hu)
     have h3:=run_storeCells_cells (P:=P) bb (ob+off) (news.take (min m n*i.size)) 0 w (fun k hk=>by simpa using hcell k hk) (fun k hk=>by simpa using WP k hk) h1
     have hr:=DH (P:=P) (w:=w) (t:=t) (ty:=o.type) (ts:=tx::ts) (ad:=some ⟨bb,ob+off,none⟩) (n:=n) (cap:=cap) hu hi hs h3;rw[←Kf] at hr;simp only[Nat.add_zero] at hr;refine run hr next Q (hn _ _ β (Aae ?_))
     refine h.write h0 trivial trivial hβ (Bc.setCells bb _ _ w) ?_ (fun cells hx=>by cases hx) (fun _ hx=>by cases hx) (fun j hj=>hj) (fun j hj=>by
      refine World.cell?_setCells_out bb _ _ w ⟨bb,j,none⟩ (fun _ _=>?_)
      have hj:¬(ob<=j):=hj;show j<ob+off∨ob+off+_<=j;omega)
     have Jf:Bb (Bz s.hp β Y) w (w.setCells bb (ob+off) (news.take (min m n*i.size))):=by
      have hw:=Bc.setCells bb (news.take (min m n*i.size)) (ob+off) w;have WJ:Bz s.hp β Y bb:=.inl ⟨id,ob,by rw[h0];trivial,hβ⟩
      exact⟨by rw[hw.size];exact Nat.le_refl _,fun k _ hk=>hw.other k (fun e=>hk (e ▸ WJ)),fun k _=>hw.grow k⟩
     have hll:(new.take (min m n*i.size)).length=min m n*i.size:=by rw[List.length_take,WH];omega
     refine .inr ⟨bb,ob,hβ,fun j p hj=>?_,fun _ j hj Jh=>?_,(fun x=>by cases x)⟩
     ·rw[B9];rcases Lo (by omega) hj with⟨h3,h4,h5⟩|⟨h3,h5⟩
      ·have Afm:j-off<min m n*i.size:=by omega
       rw[List.getElem?_take_of_lt Afm] at h5;obtain⟨u,hu,hcu⟩:=hs.rep.get h5;have TF:j-off<(news.take (min m n*i.size)).length:=by omega
       refine⟨u,?_,hs.one u (List.mem_of_getElem? hu),hcu.step Jf (fun _ _ x=>x)⟩
       have:=World.cell?_setCells_in bb (news.take (min m n*i.size)) (ob+off) w hcell (j-off) TF;rw[show ob+j=ob+off+(j-off) from by omega,this]
       rw[←List.getElem?_eq_getElem TF,List.getElem?_take_of_lt Afm];exact hu
      ·obtain⟨v,hv,h6,Tg⟩:=Hy j p h5;rw[B9] at hv;refine⟨v,?_,h6,Tg.step Jf (fun _ _ x=>x)⟩
       rw[World.cell?_setCells_out bb _ _ w ⟨bb,ob+j,none⟩ (fun _ _=>by show ob+j<ob+off∨ob+off+_<=ob+j;omega)]
       exact hv
     ·rw[(Bc.setCells bb _ _ w).bs] at Jh;rw[(Bc.setCells bb _ _ w).frz];exact BM rfl j hj Jh
   ·cases hk
  ·cases hk
 ·cases hk
theorem IU (h:Br N w0 X0 Y β s a w){G:Glo}(Hg:ES P G w0 X0){C:Et}{call:Aj}(Cj:∀f args res,call f args=some res->De G P f args res){K:St->Option R}(hk:Ow C P N call s o K=some r):
  ∃s',K s'=some r∧∀(next:Act->World->Prop) (Q:Exit->Act->World->Prop),(∀a' w' β',Br N w0 X0 Y β' s' a' w'->next a' w')->o.wp P a w next Q:=by
 unfold Ow at hk;split at hk
 ·rename_i t x y ho;obtain⟨hd,hk⟩:=Ae hk;exact EU h ho (by simpa using hd) hk
 ·rename_i c ho;split at hk
  ·rename_i hc;obtain⟨d,hd,Cn⟩:=Bn hk;obtain⟨b,xs,Xj,Dc⟩:=Ap Cn;obtain⟨x,ys,hys,Lb⟩:=Ap Dc;obtain⟨Sh,W7⟩:=B5 Lb;obtain⟨t,us,QS,WA⟩:=Ap W7;obtain⟨tx,vs,Ga,hk6⟩:=Ap WA;rw[hys,Sh] at Xj;rw[Ga] at QS;exact Z9 h ho hc hd Xj QS hk6
  ·rename_i hc;obtain⟨b,xs,Xj,Dc⟩:=Ap hk;obtain⟨x,ys,hys,Lb⟩:=Ap Dc;obtain⟨Sh,W7⟩:=B5 Lb;obtain⟨t,us,QS,WA⟩:=Ap W7;obtain⟨tx,vs,Ga,hk6⟩:=Ap WA;rw[hys,Sh] at Xj;rw[Ga] at QS;exact IG h ho hc Xj QS hk6
  ·rename_i f hc;exact EJ h Hg Cj ho hc hk
  ·cases hk
 ·cases hk
theorem IR (h:Br N w0 X0 Y β s a w){G:Glo}(Hg:ES P G w0 X0){C:Et}{call:Aj}(Cj:∀f args res,call f args=some res->De G P f args res){K:St->Option R}(hk:FG C P N call o s K=some r):
  ∃s',K s'=some r∧∀(next:Act->World->Prop) (Q:Exit->Act->World->Prop),(∀a' w' β',Br N w0 X0 Y β' s' a' w'->next a' w')->o.wp P a w next Q:=by
 unfold FG at hk;cases hm:Lg C P o.op
 ·rw[hm] at hk;exact JS h Hg Cj hk
 ·rw[hm] at hk;exact IU h Hg Cj hk
end
end
end Go.Proofs.Yteicjnihnacadaa.Pv
