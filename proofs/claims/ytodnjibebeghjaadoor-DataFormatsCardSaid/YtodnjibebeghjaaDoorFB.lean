/-
  The proof of DataFormats, part 2.
-/
import Derived.Test.YtodnjibebeghjaaDoorFA
import Derived.Laws.Append
import Derived.IntWalk
import Derived.Laws.AppendOwn
import Derived.Laws.IdiomCopy
set_option linter.unusedSimpArgs false
set_option linter.unusedVariables false
namespace Go.Proofs.YtodnjibebeghjaaDoor.Pv
section
open Go.RowKit
def Fx (w:World)(A:Nat->Prop)(own:Option (Nat × Nat)) (p:PV)(u:Value):Prop:=
 match p with
 |.own es n c=>(own=none∧n=0∧c=[]∧∃ad,u=.slice ad 0 0) ∨
   ∃b o cap,own=some (b,o)∧u=.slice (some ⟨b,o,none⟩) n cap∧n<=cap∧Fit w es b (o+cap*es)∧b<w.heap.size∧SL w A ⟨b,o,none⟩ c∧∀j,o<=j->j<bsz w b->w.frozen? ⟨b,j,none⟩=false
 |p=>Aw w A p u
def Ek (w:World)(A:Nat->Prop)(own:Bt):Nat->List PV->List Value->Prop
 |_,[],[]=>True
 |j,p::ps,u::us=>Fx w A (own j) p u∧Ek w A own (j+1) ps us
 |_,_,_=>False
def Af1 (w:World)(A:Nat->Prop)(own:Bt)(j b o:Nat)(cs:List PV):Prop:=
 ∃vs,Ek w A own j cs vs∧(∀(k:Nat) v,vs[k]?=some v->w.cell? ⟨b,o+k,none⟩=some v)∧∀k,k<cs.length->w.frozen? ⟨b,o+k,none⟩=false
def Akr (w:World)(A:Nat->Prop)(own:Bt)(z j:Nat)(p:PV)(u:Value):Prop:=
 match p with
 |.agg cs=>∃vs,u=.agg ⟨vs⟩∧Ek w A own j cs vs
 |.pbox cs=>∃b o,own j=some (b,o)∧z<=b∧u=.pointer (some ⟨b,o,none⟩)∧Af1 w A own (j+1) b o cs
 |p=>Fx w A (own j) p u
def plc:PV->Nat
 |.pbox cs=>1+cs.length
 |p=>(cellsOf p).length
def JH (w:World)(A:Nat->Prop)(own:Bt)(z:Nat):Nat->List PV->List Value->Prop
 |_,[],[]=>True
 |j,p::ps,u::us=>Akr w A own z j p u∧JH w A own z (j+plc p) ps us
 |_,_,_=>False
abbrev Wx:=Nat->Nat->Option (Nat × Nat)
def ZZ (bt:Wx)(b:Nat):Prop:=∃i j o,bt i j=some (b,o)
def isA (p:PV):Prop:=Th p∨∃es n c,p=.own es n c
def Wy (p:PV):Bool:=
 match p with
 |.pbox _=>true
 |.tup _=>true
 |_=>false
theorem Ajr {p:PV}(h:isA p):Wy p=false:=by
 rcases h with h|⟨_,_,_,rfl⟩
 ·cases p<;>first|rfl|exact h.elim
 ·rfl
def OL (w:World)(A:Nat->Prop)(bt:Bt)(p:PV)(u:Value):Prop:=
 match p with
 |.pbox ps=>∃b o,bt 0=some (b,o)∧u=.pointer (some ⟨b,o,none⟩)∧(∀p∈ps,isA p)∧Af1 w A bt 1 b o ps
 |.tup ps=>∃es n c,ps=[.own es n c]∧Fx w A (bt 0) (.own es n c) u
 |.agg cs=>∃vs,u=.agg ⟨vs⟩∧(∀p∈cs,isA p)∧Ek w A bt 1 cs vs
 |p=>isA p∧Fx w A (bt 1) p u
def J5 (w:World)(A:Nat->Prop)(bt:Wx):Nat->List PV->List Value->Prop
 |_,[],[]=>True
 |i,p::ps,u::us=>OL w A (bt i) p u∧J5 w A bt (i+1) ps us
 |_,_,_=>False
def Are (bt:Bt)(p:PV)(b j:Nat):Prop:=
 (∃k o,bt (k+1)=some (b,o)∧o<=j)∨∃o ps,bt 0=some (b,o)∧o<=j∧((p=.pbox ps∧j<o+ps.length)∨p=.tup ps)
def EJ (bt:Wx)(args:List PV)(b j:Nat):Prop:=∃i p,args[i]?=some p∧Are (bt i) p b j
def Tf (w:World)(A:Nat->Prop)(own:Bt)(bt:Wx):Nat->Nat->List PV->List (List PV)->Prop
 |_,_,[],r=>r=[]
 |j,i,p::zs,r=>
  match p with
  |.pbox ps=>
   match r with
   |[]=>False
   |cs::r=>(∃b o,bt i 0=some (b,o)∧cs.length=ps.length∧Af1 w A own j b o cs)∧Tf w A own bt (j+cs.length) (i+1) zs r
  |.tup _=>
   match r with
   |[]=>False
   |cs::r=>((bt i 0=none∧cs=[])∨∃b o,bt i 0=some (b,o)∧SL w A ⟨b,o,none⟩ cs∧∀k,o<=k->k<bsz w b->w.frozen? ⟨b,k,none⟩=false)∧Tf w A own bt j (i+1) zs r
  |_=>Tf w A own bt j (i+1) zs r
def CU (bt:Wx)(own:Bt)(Y:Nat->Prop)(b:Nat):Prop:=(∃j o,own j=some (b,o))∨(∃i o,bt i 0=some (b,o))∨Y b
def K6 (vals:List PV):Nat:=(vals.map plc).sum
structure Out (w w':World) (Y:Nat->Prop) (bt:Wx) (args:List PV) (own:Bt) (r:Aq) (vs:List Value):Prop where
 os:w'.os=w.os
 tape:w'.tape=w.tape
 output:w'.output=w.output
 ext:B8 (ZZ bt) w w'
 rng:∀b j,b<w.heap.size->¬EJ bt args b j->w'.cell? ⟨b,j,none⟩=w.cell? ⟨b,j,none⟩∧w'.frozen? ⟨b,j,none⟩=w.frozen? ⟨b,j,none⟩
 vals:JH w' (CU bt own Y) own w.heap.size 0 r.vals vs
 outs:Tf w' (CU bt own Y) own bt (K6 r.vals) 0 args r.outs
 fresh:∀j b o,own j=some (b,o)->b<w'.heap.size∧(b<w.heap.size->(∃i k o',bt i (k+1)=some (b,o'))∧∀x,o<=x->EJ bt args b x)
 inj:∀j j' b o o',own j=some (b,o)->own j'=some (b,o')->j=j'
def He (us:List Value):Value:=match us with|[u]=>u|us=>.tuple ⟨us⟩
def P6 (w:World)(Y:Nat->Prop)(p:PV)(u:Value):Prop:=
 match p with
 |.agg cs=>∃vs,u=.agg ⟨vs⟩∧Be (fun c v=>Th c∧Aw w Y c v) cs vs
 |p=>Th p∧Aw w Y p u
structure Ins (w:World) (Y:Nat->Prop) (bt:Wx) (args:List PV) (us:List Value):Prop where
 Ylt:∀b,Y b->b<w.heap.size
 Yx:∀b,Y b->¬ZZ bt b
 lt:∀b,ZZ bt b->b<w.heap.size
 inj:∀i j i' j' b o o',bt i j=some (b,o)->bt i' j'=some (b,o')->i=i'∧j=j'
 l0:∀i q,bt i 0=some q->∃p,args[i]?=some p∧Wy p=true
 args:J5 w (fun b=>ZZ bt b∨Y b) bt 0 args us
structure Ur where
 bl:Nat->Prop
 ok:World->Prop
 stable:∀w w':World,(∀b,bl b->b<w.heap.size->w'.heap[b]?=w.heap[b]?)->ok w->ok w'
def Df (G:Ur)(P:Program)(f:FuncId)(args:List PV)(r:Aq):Prop:=
 (∃fn,P.funcs[f]?=some fn∧fn.body.isSome=true)∧∀(w:World)(Y:Nat->Prop)(bt:Wx)(us:List Value),Ins w Y bt args us->G.ok w->(∀b,G.bl b->b<w.heap.size∧¬ZZ bt b) ->
  Calls P f us.toArray w fun e w'=>∃vs own,e=.returned (He vs)∧Out w w' Y bt args own r vs
def PD:Wx:=fun _ _=>none
theorem Pf (b:Nat):¬ZZ PD b:=by rintro⟨_,_,_,h⟩;cases h
theorem Jf {w:World}{A:Nat->Prop}{q:Option (Nat × Nat)} {p:PV}{u:Value}(hp:Th p)(h:Aw w A p u):Fx w A q p u:=by
 cases p<;>first|exact h|exact hp.elim
theorem Ys {w:World}{A:Nat->Prop}{own:Bt}:∀{cs:List PV}{vs:List Value}{j:Nat},Be (fun c v=>Th c∧Aw w A c v) cs vs->Ek w A own j cs vs
 |[],[],_,_=>trivial
 |_::_,_::_,_,h=>⟨Jf h.1.1 h.1.2,Ys h.2⟩
 |[],_::_,_,h=>h.elim
 |_::_,[],_,h=>h.elim
theorem Aal {w:World}{A:Nat->Prop}{bt:Bt}{p:PV}{u:Value}(h:P6 w A p u):OL w A bt p u:=by
 cases p with
 |agg cs=>
  obtain⟨vs,h1,h2⟩:=h;refine⟨vs,h1,fun p hp=>.inl ?_,Ys h2⟩
  obtain⟨j,hj⟩:=List.mem_iff_getElem?.1 hp;obtain⟨v,_,hv⟩:=h2.get hj;exact hv.1
 |sc v=>exact⟨.inl trivial,h.2⟩
 |lst z es n c=>exact⟨.inl trivial,h.2⟩
 |_=>exact h.1.elim
theorem BS {w:World}{A:Nat->Prop}{bt:Wx}:∀{ps:List PV}{us:List Value}{i:Nat},Be (P6 w A) ps us->J5 w A bt i ps us
 |[],[],_,_=>trivial
 |_::_,_::_,_,h=>⟨Aal h.1,BS h.2⟩
 |[],_::_,_,h=>h.elim
 |_::_,[],_,h=>h.elim
theorem Aam {w:World}{A A':Nat->Prop}(hA:∀b,b<w.heap.size->A' b->A b){p:PV}{v:Value}(h:P6 w A p v):P6 w A' p v:=by
 cases p with
 |agg cs=>
  obtain⟨vs,rfl,h2⟩:=h;exact⟨vs,rfl,h2.mono fun c v hc=>⟨hc.1,hc.2.step (B8.refl _ _) hA⟩⟩
 |sc v=>exact⟨h.1,h.2.step (B8.refl _ _) hA⟩
 |lst z es n c=>exact⟨h.1,h.2.step (B8.refl _ _) hA⟩
 |_=>exact h.1.elim
theorem QD {w:World}{Y:Nat->Prop}{args:List PV}{us:List Value}(hY:∀b,Y b->b<w.heap.size)(h:Be (P6 w Y) args us):Ins w Y PD args us:=
 ⟨hY,fun b _=>Pf b,fun b h=>absurd h (Pf b),(fun _ _ _ _ _ _ _ h=>by cases h),(fun _ _ h=>by cases h),BS (h.mono fun _ _ hx=>Aam (fun b _ hb=>hb.elim (fun q=>absurd q (Pf b)) id) hx)⟩
def NoNG (P:Program):Prop:=∀(f:FuncId) (fn:Func),P.funcs[f]?=some fn->(fn.name == "runtime.NumGoroutine")=false
structure PF (P:Program) (G:Ur) (w0:World) (X0:Hg):Prop where
 ng:NoNG P
 fr:∀w,Fr X0 w0 w->G.ok w
 y:∀b,G.bl b->b<w0.heap.size∧¬X0.X b
section
variable {R:Type} {r:R} {P:Program} {N:Nat} {w0:World} {X0:Hg} {Y:Nat->Prop} {β β':Bt} {s:St} {a:Act} {w w':World} {o:Oper} {A:Nat->Prop}
def DR (P:Program)(a:Act)(w:World)(o:Oper)(Y:Nat->Prop)(β:Bt)(s:St)(v:PV)(fz:List Nat)(nw:List (Nat × Bo)):Prop:=
 (∀id∈fz,∃f c,s.hp id=some (.ar f c))∧∀(next:Act->World->Prop)(Q:Exit->Act->World->Prop),
  (∀val w',(Bq s.hp nw=true->∃β',IU Y β ⟨s.tm,Ag s.hp fz⟩ w v nw val w' β')->next (a.put o.dst val) w')->o.wp P a w next Q
theorem CV {v:PV}{fz:List Nat}{nw:List (Nat × Bo)} (h:D4 P a w o Y β s v fz nw):DR P a w o Y β s v fz nw:=by
 obtain⟨h1,val,w',hr,hs⟩:=h;refine⟨h1,fun next Q hn=>?_⟩
 unfold Oper.wp;rw[hr];exact hn val w' hs
theorem Acr (h:Cr N w0 X0 Y β s a w){t:TypeId}{x:PV}{u:Value}(hx:Ea w (C7 s.hp β Y) β x u) {K:PV->List Nat->Option R}(hk:UP P (Ic s.hp) t x K=some r):
  ∃p m,K p m=some r∧(∀id∈m,∃f cc,s.hp id=some (.ar f cc))∧(cellsOf p).length=(Hl P t).length∧∀fz:List Nat,(∀id∈m,id∈fz)->(∀id∈fz,∃f cc,s.hp id=some (.ar f cc))->P6 w (C7 (Ag s.hp fz) β Y) p u:=by
 unfold UP at hk;cases Fn:B2 P t
 ·rw[Fn] at hk;obtain⟨cs,m,hk,hl,Je,hT,hF,hm,hv⟩:=Of h (show Mz _ _ _ _=some r from hk)
  obtain⟨c,t',rfl,hk⟩:=A8 hk;obtain⟨rfl,hk⟩:=Dj hk;have hcT:=hT c (by simp)
  refine⟨c,m,hk,hm,?_,fun fz h1 h2=>?_⟩
  ·have:cellsOf c=[c]:=by cases c<;>first|rfl|exact hcT.elim
   rw[this];exact hl
  have hF':=hF _ (List.mem_singleton_self _)
  have hc:B1 w (C7 s.hp β Y) β x u:=by
   cases x<;>first|exact hx|exact hF'.elim
  have h3:=(hv fz h1 h2 [u] ⟨hc,trivial⟩).1.1;cases c<;>first|exact⟨trivial,h3⟩|exact hcT.elim
 ·rw[Fn] at hk;obtain⟨ps,hp,hk⟩:=Gu (show Fw _ _=some r from hk)
  rw[hp] at hx;obtain⟨cs,m,hk,hl,Je,hT,hF,hm,hv⟩:=Of h hk;obtain⟨vs,Db,h2⟩:=hx;refine⟨.agg cs,m,hk,hm,hl,fun fz h1 h3=>⟨vs,Db,?_⟩⟩
  exact (hv fz h1 h3 vs h2).1.mono_mem fun c hc v Ze=>⟨hT c hc,Ze⟩
theorem Af5 (h:Cr N w0 X0 Y β s a w){t:TypeId}{x:Operand}{K:PV->List Nat->Option R}(hk:UP P (Ic s.hp) t (Bz s.tm x) K=some r):
  ∃p m,K p m=some r∧(∀id∈m,∃f cc,s.hp id=some (.ar f cc))∧∀fz:List Nat,(∀id∈m,id∈fz)->(∀id∈fz,∃f cc,s.hp id=some (.ar f cc))->P6 w (C7 (Ag s.hp fz) β Y) p (a.eval x):=by
 obtain⟨p,m,h1,h2,_,h3⟩:=Acr h (Cv h x) hk;exact⟨p,m,h1,h2,h3⟩
theorem KN (h:Cr N w0 X0 Y β s a w):∀{ts:List TypeId}{xs:List Operand}{K:List PV->List Nat->Option R},EN P (Ic s.hp) ts (xs.map (Bz s.tm)) K=some r ->
  ∃ps m,K ps m=some r∧(∀id∈m,∃f cc,s.hp id=some (.ar f cc))∧∀fz:List Nat,(∀id∈m,id∈fz)->(∀id∈fz,∃f cc,s.hp id=some (.ar f cc))->Be (P6 w (C7 (Ag s.hp fz) β Y)) ps (xs.map a.eval)
 |[],[],K,hk=>⟨[],[],hk,by simp,fun _ _ _=>trivial⟩
 |[],_::_,K,hk=>by cases hk
 |_::_,[],K,hk=>by cases hk
 |t::ts,x::xs,K,hk=>by
  simp only[List.map_cons] at hk;unfold EN at hk;obtain⟨p,m,hk,hm,hv⟩:=Af5 h hk;obtain⟨ps,ms,hk,BO,Qx⟩:=KN h hk;refine⟨p::ps,m++ms,hk,?_,fun fz h1 h2=>⟨hv fz (fun i hi=>h1 i (by simp[hi])) h2,Qx fz (fun i hi=>h1 i (by simp[hi])) h2⟩⟩
  intro i hi;rcases List.mem_append.1 hi with hi|hi
  ·exact hm i hi
  ·exact BO i hi
theorem P6.weaken {A':Nat->Prop}(hA:∀b,b<w.heap.size->A' b->A b){p:PV}{v:Value}(h:P6 w A p v):P6 w A' p v:=by
 have one:Th p->Th p∧Aw w A p v->P6 w A' p v:=by
  intro hp h;cases p<;>first|exact⟨h.1,h.2.step (B8.refl _ _) hA⟩|exact hp.elim
 cases p with
 |agg cs=>
  obtain⟨vs,rfl,h2⟩:=h;exact⟨vs,rfl,h2.mono fun c v hc=>⟨hc.1,hc.2.step (B8.refl _ _) hA⟩⟩
 |_=>exact one h.1 h
theorem Aez {t:CT}{p:PV}{K:PV->Option R}(h:X7 t p K=some r):
  ∃c,K c=some r∧Th c∧Th p∧(∀(w:World) (A:Nat->Prop) (β:Nat->Option (Nat × Nat)) (v:Value),B1 w A β p v->Aw w A c v∧v.oneCell'=true)∧((∀es,t ≠ .sl es)->∃v,c=.sc v):=by
 obtain⟨c,hk,hT,FY,hv⟩:=Ly h;cases t with
 |sl es=>exact⟨c,hk,hT,FY,hv,fun Eo=>absurd rfl (Eo es)⟩
 |int k=>obtain⟨n,rfl,h2⟩:=Ec h;exact⟨_,h2,trivial,trivial,fun w A β v hv=>⟨hv,by have:=Aw.val (w:=w) (A:=A) hv;subst this;rfl⟩,fun _=>⟨_,rfl⟩⟩
 |bool=>obtain⟨n,rfl,h2⟩:=Do h;exact⟨_,h2,trivial,trivial,fun w A β v hv=>⟨hv,by have:=Aw.val (w:=w) (A:=A) hv;subst this;rfl⟩,fun _=>⟨_,rfl⟩⟩
 |str=>obtain⟨n,rfl,h2⟩:=Dk h;exact⟨_,h2,trivial,trivial,fun w A β v hv=>⟨hv,by have:=Aw.val (w:=w) (A:=A) hv;subst this;rfl⟩,fun _=>⟨_,rfl⟩⟩
 |any=>
  obtain⟨u,rfl,h1,h2⟩:=WH (show ZP p (fun v=>K (.sc v))=some r from h)
  exact⟨_,h2,trivial,trivial,fun w A β v hv=>⟨hv,by have:=Aw.val (w:=w) (A:=A) hv;subst this;exact h1⟩,fun _=>⟨_,rfl⟩⟩
theorem Sr (shr:Bool)(N:Nat):∀{ts:List CT}{ps:List PV}{id:Nat}{K:List PV->List (Nat × Bo)->Option R},O5 shr N id ts ps K=some r ->
  ∃cs bs,K cs bs=some r∧ps.length=ts.length∧(∀p∈ps,∀x,p ≠ .agg x∧p ≠ .pbox x)∧(∀c∈cs,GQ c)∧((∀es,CT.sl es ∉ ts)->bs=[]∧∀c∈cs,∃v,c=.sc v) ∧
   (∀i bx,(i,bx)∈bs->∃j es n c,ps[j]?=some (.own es n c)∧i=id+N*j∧bx=.ar false c) ∧
   (∀c∈cs,∀i∈Ap c,∃bx,(i,bx)∈bs) ∧
   ∀(w:World) (A:Nat->Prop) (own β':Bt) (j0:Nat) (us:List Value),(∀j,(∃bx,(id+N*j,bx)∈bs)->β' (id+N*j)=own (j0+j))->Ek w A own j0 ps us->Be (B1 w A β') cs us
 |[],ps,id,K,hk=>by
  obtain⟨rfl,hk⟩:=Dj hk;refine⟨[],[],hk,rfl,by simp,by simp,by simp,by simp,by simp,fun w A own β' j0 us _ h=>?_⟩
  cases us with
  |nil=>trivial
  |cons u us=>exact h.elim
 |t::ts,ps,id,K,hk=>by
  unfold O5 at hk;obtain⟨p,ps',Zy,Ds⟩:=A8 hk;subst Zy;clear hk
  have main:∃c b,(O5 shr N (id+N) ts ps' fun cs bs=>K (c::cs) (b++bs))=some r∧(∀x,p ≠ .agg x∧p ≠ .pbox x)∧GQ c∧((∀es,t≠CT.sl es)->b=[]∧∃v,c=.sc v)∧(∀i bx,(i,bx)∈b->∃es n cc,p=.own es n cc∧i=id∧bx=.ar false cc)∧(∀i∈Ap c,∃bx,(i,bx)∈b) ∧
    ∀(w:World) (A:Nat->Prop) (own:Option (Nat × Nat)) (β':Bt) (u:Value),((∃bx,(id,bx)∈b)->β' id=own)->Fx w A own p u->B1 w A β' c u:=by
   have tree:∀t',t'=t->(X7 t' p fun c=>O5 shr N (id+N) ts ps' fun cs bs=>K (c::cs) ([]++bs))=some r->∃c b,(O5 shr N (id+N) ts ps' fun cs bs=>K (c::cs) (b++bs))=some r∧(∀x,p ≠ .agg x∧p ≠ .pbox x)∧GQ c∧((∀es,t≠CT.sl es)->b=[]∧∃v,c=.sc v)∧(∀i bx,(i,bx)∈b->∃es n cc,p=.own es n cc∧i=id∧bx=.ar false cc)∧(∀i∈Ap c,∃bx,(i,bx)∈b) ∧
     ∀(w:World) (A:Nat->Prop) (own:Option (Nat × Nat)) (β':Bt) (u:Value),((∃bx,(id,bx)∈b)->β' id=own)->Fx w A own p u->B1 w A β' c u:=by
    intro t' ht' hk;have SB:=Aez hk;obtain⟨c,hk,hT,FY,hv,SB⟩:=SB;refine⟨c,[],hk,fun x=>⟨Vg FY x,by rintro rfl;exact FY⟩,Pu hT,fun Eo=>⟨rfl,SB (fun es e=>Eo es (ht'.symm.trans e))⟩,by simp,by rw[Hb hT];simp,fun w A own β' u _ hc=>?_⟩
    have Oo:B1 w A β' p u:=by cases p<;>first|exact hc|exact FY.elim
    exact (Kl hT).2 (hv w A β' u Oo).1
   unfold Aej at Ds;cases t with
   |sl es=>
    dsimp only at Ds;cases shr
    ·unfold GH at Ds;simp only[cond_false] at Ds;split at Ds
     ·rename_i es' n c;cases hb:Nat.beq es' es
      ·rw[hb] at Ds;cases Ds
      ·rw[hb] at Ds;have:=Nat.eq_of_beq_eq_true hb;subst this;refine⟨_,_,Ds,by simp,trivial,fun Eo=>absurd rfl (Eo _),?_,?_,fun w A own β' u hβ hc=>?_⟩
       ·intro i bx hm;simp at hm;exact⟨_,_,_,rfl,hm.1,hm.2⟩
       ·intro i hi;simp[Ap] at hi;subst hi;exact⟨.ar false c,by simp⟩
       ·have hβ':=hβ ⟨.ar false c,by simp⟩
        clear hβ;rcases hc with⟨h1,rfl,rfl,h4⟩|⟨b,ob,cap,h1,h2,h3,h4,h5,_⟩
        ·exact .inl ⟨hβ'.trans h1,rfl,rfl,h4⟩
        ·exact .inr ⟨b,ob,ob,cap,hβ'.trans h1,h2,.inl rfl,h3,h4,h5⟩
     ·cases Ds
    ·obtain⟨c,hk,hT,FY,hv,_⟩:=Aez (t:=.sl es) (p:=p) (K:=fun c=>O5 true N (id+N) ts ps' fun cs bs=>K (LD c::cs) ([]++bs)) Ds
     have hU:Th (LD c):=by cases c<;>exact hT
     refine⟨LD c,[],hk,fun x=>⟨Vg FY x,by rintro rfl;exact FY⟩,Pu hU,fun Eo=>absurd rfl (Eo _),by simp,by rw[Hb hU];simp,fun w A own β' u _ hc=>?_⟩
     have Oo:B1 w A β' p u:=by cases p<;>first|exact hc|exact FY.elim
     refine (Kl hU).2 ?_;have:=(hv w A β' u Oo).1;cases c with
     |lst z es n c=>exact Aw.unz this
     |_=>exact this
   |int k=>exact tree (.int k) rfl Ds
   |bool=>exact tree .bool rfl Ds
   |str=>exact tree .str rfl Ds
   |any=>exact tree .any rfl Ds
  obtain⟨c,b,hk,hpa,hF,OC,Er,Ho,Ze⟩:=main;obtain⟨cs,bs,hk,hl,A43,hFs,Ao5,A1c,Ax5,A6f⟩:=Sr shr N hk;refine⟨c::cs,b++bs,hk,by simp[hl],?_,?_,?_,?_,?_,fun w A own β' j0 us hβ hoc=>?_⟩
  ·intro x hx;rcases List.mem_cons.1 hx with rfl|hx
   ·exact hpa
   ·exact A43 x hx
  ·intro x hx;rcases List.mem_cons.1 hx with rfl|hx
   ·exact hF
   ·exact hFs x hx
  ·intro Eo;obtain⟨h1,v,h2⟩:=OC (fun es e=>Eo es (by rw[e];simp))
   obtain⟨h3,h4⟩:=Ao5 (fun es hm=>Eo es (by simp[hm]))
   refine⟨by rw[h1,h3];rfl,fun x hx=>?_⟩
   rcases List.mem_cons.1 hx with rfl|hx
   ·exact⟨v,h2⟩
   ·exact h4 x hx
  ·intro i bx hm;rcases List.mem_append.1 hm with hm|hm
   ·obtain⟨es,n,cc,rfl,rfl,rfl⟩:=Er i bx hm;exact⟨0,es,n,cc,rfl,by simp,rfl⟩
   ·obtain⟨j,es,n,cc,h1,rfl,h3⟩:=A1c i bx hm;exact⟨j+1,es,n,cc,by simpa using h1,by rw[Nat.mul_add];omega,h3⟩
  ·intro x hx i hi;rcases List.mem_cons.1 hx with rfl|hx
   ·obtain⟨bx,hm⟩:=Ho i hi;exact⟨bx,by simp[hm]⟩
   ·obtain⟨bx,hm⟩:=Ax5 x hx i hi;exact⟨bx,by simp[hm]⟩
  ·cases us with
   |nil=>exact hoc.elim
   |cons u us=>
    refine⟨Ze w A (own j0) β' u (fun ⟨bx,hm⟩=>by have:=hβ 0 ⟨bx,by simp[hm]⟩;simpa using this) hoc.1,?_⟩
    refine A6f w A own β' (j0+1) us (fun j ⟨bx,hm⟩=>?_) hoc.2
    have e:id+N+N*j=id+N*(j+1):=by rw[Nat.mul_add];omega
    have:=hβ (j+1) ⟨bx,by rw[←e];simp[hm]⟩
    rw[e,this]
    congr 1
    omega
end
open Go.RowKit
section
variable {R:Type} {r:R} {P:Program} {N:Nat} {w0:World} {X0:Hg} {Y:Nat->Prop} {β β':Bt} {s:St} {a:Act} {w w':World} {o:Oper} {A:Nat->Prop}
theorem Ek.len:∀{j:Nat}{own:Bt}{ps:List PV}{us:List Value},Ek w A own j ps us->ps.length=us.length
 |_,_,[],[],_=>rfl
 |_,_,_::_,_::_,h=>by simp[Ek.len h.2]
 |_,_,[],_::_,h=>h.elim
 |_,_,_::_,[],h=>h.elim
theorem Ek.at_:∀{j:Nat}{own:Bt}{ps:List PV}{us:List Value},Ek w A own j ps us->∀{i:Nat} {p},ps[i]?=some p->∃u,us[i]?=some u∧Fx w A (own (j+i)) p u
 |_,_,[],[],_,i,p,h=>by simp at h
 |j,own,_::_,u::_,h,0,p,hp=>by simp at hp;subst hp;exact⟨u,rfl,h.1⟩
 |j,own,_::_,_::_,h,i+1,p,hp=>by
  simp at hp;obtain⟨u,hu,hc⟩:=Ek.at_ h.2 hp;exact⟨u,by simpa using hu,by rw[show j+(i+1)=j+1+i from by omega];exact hc⟩
 |_,_,[],_::_,h,_,_,_=>h.elim
 |_,_,_::_,[],h,_,_,_=>h.elim
def Aho (N id:Nat)(β':Bt)(w:World)(A:Nat->Prop)(z n:Nat)(bs:List (Nat × Bo)):Prop:=
 ∀i bx,(i,bx)∈bs->(∃j,i=id+N*j∧j<n)∧C8 (some bx)∧Pr w A β' i bx∧∀cs,bx=.st cs->∀b o,β' i=some (b,o)->z<=b
def Xo (bs:List (Nat × Bo)):Prop:=∀i cells,(i,.st cells)∈bs->∀c∈cells,∀i'∈Ap c,∃bx,(i',bx)∈bs
theorem Vb {q:Option (Nat × Nat)} {es n i:Nat}{c:List PV}{u:Value}(h:Fx w A q (.own es n c) u) (hβ:β' i=q):Pr w A β' i (.ar false c):=by
 rcases h with⟨h1,_,h2,_⟩|⟨b,o,cap,h1,_,_,_,_,h6,h7⟩
 ·exact .inl ⟨hβ.trans h1,h2⟩
 ·exact .inr ⟨b,o,hβ.trans h1,h6,fun _=>h7,(fun x=>by cases x)⟩
theorem Xi {t:TypeId}(h:Ii P [t]=false):Vq P t=none∧∀es,CT.sl es ∉ Hl P t:=by
 simp only[Ii,List.any_cons,List.any_nil,Bool.or_false,Bool.or_eq_false_iff] at h;refine⟨by simpa using h.1,fun es hm=>?_⟩
 have:=List.any_eq_false.1 h.2 _ hm;simp at this
theorem Adr (shr:Bool)(N:Nat){t:TypeId}{p:PV}{id:Nat}{K:PV->List (Nat × Bo)->Option R} (hk:YY P shr N id t p K=some r):
  ∃v bs,K v bs=some r∧plc p=OU P t∧(∀x,v ≠ .tup x)∧(Ii P [t]=false->bs=[]∧∀c∈cellsOf v,∃u,c=.sc u)∧(∀i∈Ca v,∃bx,(i,bx)∈bs)∧Xo bs ∧
   ∀(w:World) (A:Nat->Prop) (own β':Bt) (z j0:Nat) (u:Value),(∀j,(∃bx,(id+N*j,bx)∈bs)->β' (id+N*j)=own (j0+j))->Akr w A own z j0 p u->Hc w A β' v u∧Aho N id β' w A z (plc p) bs:=by
 have boxes:∀{bs:List (Nat × Bo)} {ps:List PV} {id:Nat},(∀i bx,(i,bx)∈bs->∃j es n c,ps[j]?=some (.own es n c)∧i=id+N*j∧bx=.ar false c) ->
   Xo bs∧∀(w:World) (A:Nat->Prop) (own β':Bt) (j0:Nat) (us:List Value),(∀j,(∃bx,(id+N*j,bx)∈bs)->β' (id+N*j)=own (j0+j))->Ek w A own j0 ps us->∀z,Aho N id β' w A z ps.length bs:=by
  intro bs ps id Er;refine⟨fun i cells hm=>?_,fun w A own β' j0 us hβ ho z i bx hm=>?_⟩
  ·obtain⟨_,_,_,_,_,_,h3⟩:=Er i _ hm;cases h3
  ·obtain⟨j,es,n,cc,h1,h2,h3⟩:=Er i bx hm;obtain⟨u,hu,hoc⟩:=ho.at_ h1;subst h3;refine⟨⟨j,h2,?_⟩,trivial,Vb hoc ?_,fun _ e=>by cases e⟩
   ·rcases Nat.lt_or_ge j ps.length with h|h
    ·exact h
    ·rw[List.getElem?_eq_none h] at h1;cases h1
   ·rw[h2];exact hβ j ⟨_,h2 ▸ hm⟩
 unfold YY at hk;split at hk
 ·rename_i e he;obtain⟨ps,rfl,hk⟩:=IQ hk;obtain⟨cs,bs,hk,hl,Akx,hF,OC,Er,Ho,Ze⟩:=Sr shr N hk;obtain⟨SR,Ku⟩:=boxes Er;refine⟨.ptr id 0,_,hk,by simp only[plc,OU,he,hl],by simp,fun h=>?_,fun i hi=>?_,fun i cells hm c hc i' SG=>?_,fun w A own β' z j0 u hβ ho=>?_⟩
  ·have:=(Xi h).1;rw[he] at this;cases this
  ·simp only[Ca,Ap,List.mem_singleton] at hi;subst hi;exact⟨_,List.mem_cons_self⟩
  ·rcases List.mem_cons.1 hm with e|hm
   ·cases e;obtain⟨bx,hb⟩:=Ho c hc i' SG;exact⟨bx,List.mem_cons_of_mem _ hb⟩
   ·obtain⟨bx,hb⟩:=SR i cells hm c hc i' SG;exact⟨bx,List.mem_cons_of_mem _ hb⟩
  ·obtain⟨b,o,h1,hz,rfl,vs,h3,h4,h5⟩:=ho;have h0:=hβ 0 ⟨_,by rw[Nat.mul_zero,Nat.add_zero];exact List.mem_cons_self⟩
   rw[Nat.mul_zero,Nat.add_zero,Nat.add_zero,h1] at h0;have Bj:∀j,id+N+N*j=id+N*(j+1):=fun j=>by rw[Nat.mul_add];omega
   have hβ1:∀j,(∃bx,(id+N+N*j,bx)∈bs)->β' (id+N+N*j)=own (j0+1+j):=fun j ⟨bx,hm⟩=>by
    rw[Bj,hβ (j+1) ⟨bx,by rw[←Bj];exact List.mem_cons_of_mem _ hm⟩]
    congr 1;omega
   have hc2:=Ze w A own β' (j0+1) vs hβ1 h3;have Uf:=Ku w A own β' (j0+1) vs hβ1 h3 z;have Cz:cs.length=ps.length:=by rw[hc2.len,←h3.len]
   refine⟨⟨b,o,h0,by simp⟩,fun i bx hm=>?_⟩
   rcases List.mem_cons.1 hm with e|hm
   ·cases e;refine⟨⟨0,by simp,by simp only[plc];omega⟩,trivial,⟨b,o,h0,fun k c hk=>?_,fun k hk=>h5 k (by omega)⟩,fun _ _ b' o' Hf=>?_⟩
    ·obtain⟨v,hv,QL⟩:=hc2.get hk;exact⟨v,h4 k v hv,QL⟩
    ·rw[h0] at Hf;cases Hf;exact hz
   ·obtain⟨⟨j,hj,hjn⟩,h6,h7⟩:=Uf i bx hm;exact⟨⟨j+1,by rw[hj,Bj],by simp only[plc];omega⟩,h6,h7⟩
 ·rename_i hnp;have Pm:OU P t=(Hl P t).length:=by simp only[OU,hnp]
  cases Fn:B2 P t
  ·rw[Fn] at hk;obtain⟨cs,bs,hk,hl,Akx,hF,OC,Er,Ho,Ze⟩:=Sr shr N (show O5 _ _ _ _ _ _=some r from hk)
   obtain⟨c,t',rfl,hk⟩:=A8 hk;obtain⟨rfl,hk⟩:=Dj hk;have hFc:=hF c (by simp)
   have Awc:∀x,p ≠ .pbox x:=fun x=>(Akx p (by simp) x).2
   have Arb:∀x,c ≠ .agg x:=by rintro x rfl;exact hFc
   have A4g:∀x,c ≠ .tup x:=by rintro x rfl;exact hFc
   have GE:Ca c=Ap c:=by cases c<;>first|rfl|exact absurd rfl (Arb _)
   have hpa:∀x,p ≠ .agg x:=fun x=>(Akx p (by simp) x).1
   obtain⟨SR,Ku⟩:=boxes Er;have Cx:cellsOf p=[p]:=by cases p<;>first|rfl|exact absurd rfl (hpa _)
   have Ate:plc p=1:=by cases p<;>first|rfl|exact absurd rfl (hpa _)|exact absurd rfl (Awc _)
   have hcc:cellsOf c=[c]:=by cases c<;>first|rfl|exact absurd rfl (Arb _)
   refine⟨c,bs,hk,by rw[Ate,Pm];exact hl,A4g,fun Eo=>by rw[hcc];exact OC (Xi Eo).2,fun i hi=>Ho c (by simp) i (by rw[←GE];exact hi),SR,fun w A own β' z j0 u hβ ho=>?_⟩
   have OJ:Fx w A (own j0) p u:=by cases p<;>first|exact ho|exact absurd rfl (hpa _)|exact absurd rfl (Awc _)
   exact⟨(V4 Arb).2 (Ze w A own β' j0 [u] hβ ⟨OJ,trivial⟩).1,by rw[Ate];exact Ku w A own β' j0 [u] hβ ⟨OJ,trivial⟩ z⟩
  ·rw[Fn] at hk;obtain⟨ps,rfl,hk⟩:=Gu (show Fw _ _=some r from hk)
   obtain⟨cs,bs,hk,hl,Akx,hF,OC,Er,Ho,Ze⟩:=Sr shr N hk;obtain⟨SR,Ku⟩:=boxes Er;refine⟨.agg cs,bs,hk,by rw[Pm];exact hl,by simp,fun Eo=>OC (Xi Eo).2,fun i hi=>?_,SR,fun w A own β' z j0 u hβ ho=>?_⟩
   ·obtain⟨c,hc,hi⟩:=List.mem_flatMap.1 (show i∈cs.flatMap Ap from hi)
    exact Ho c hc i hi
   ·obtain⟨vs,rfl,ho⟩:=ho;exact⟨⟨vs,rfl,Ze w A own β' j0 vs hβ ho⟩,Ku w A own β' j0 vs hβ ho z⟩
theorem Xw (shr:Bool)(N:Nat):∀{ts:List TypeId}{ps:List PV}{id:Nat}{K:List PV->List (Nat × Bo)->Option R},Y4 P shr N id ts ps K=some r ->
  ∃vs bs,K vs bs=some r∧vs.length=ps.length∧(∀v∈vs,∀x,v ≠ .tup x)∧(Ii P ts=false->bs=[]∧∀v∈vs,∀c∈cellsOf v,∃u,c=.sc u)∧(∀v∈vs,∀i∈Ca v,∃bx,(i,bx)∈bs)∧Xo bs ∧
   ∀(w:World) (A:Nat->Prop) (own β':Bt) (z j0:Nat) (us:List Value),(∀j,(∃bx,(id+N*j,bx)∈bs)->β' (id+N*j)=own (j0+j))->JH w A own z j0 ps us->Be (Hc w A β') vs us∧Aho N id β' w A z (K6 ps) bs
 |[],ps,id,K,hk=>by
  obtain⟨rfl,hk⟩:=Dj hk;refine⟨[],[],hk,rfl,by simp,by simp,by simp,(by intro i cells hm;cases hm),fun w A own β' z j0 us _ h=>?_⟩
  cases us with
  |nil=>exact⟨trivial,by intro i bx hm;cases hm⟩
  |cons u us=>exact h.elim
 |t::ts,ps,id,K,hk=>by
  unfold Y4 at hk;obtain⟨p,ps',Zy,Ds⟩:=A8 hk;subst Zy;clear hk;obtain⟨v,bs,hk,hl,UV,OC,GE,SR,hv⟩:=Adr shr N Ds;obtain⟨vs,bs',hk,hvl,A7g,Ao5,hrs,A5c,Qx⟩:=Xw shr N hk;refine⟨v::vs,bs++bs',hk,by simp[hvl],?_,?_,?_,?_,fun w A own β' z j0 us hβ ho=>?_⟩
  ·intro x hx;rcases List.mem_cons.1 hx with rfl|hx
   ·exact UV
   ·exact A7g x hx
  ·intro Eo;simp only[Ii,List.any_cons,Bool.or_eq_false_iff] at Eo;obtain⟨h1,h2⟩:=OC (by simp only[Ii,List.any_cons,List.any_nil,Bool.or_false,Bool.or_eq_false_iff];exact Eo.1)
   obtain⟨h3,h4⟩:=Ao5 (by simp only[Ii];exact Eo.2)
   refine⟨by rw[h1,h3];rfl,fun x hx=>?_⟩
   rcases List.mem_cons.1 hx with rfl|hx
   ·exact h2
   ·exact h4 x hx
  ·intro x hx i hi;rcases List.mem_cons.1 hx with rfl|hx
   ·obtain⟨bx,hm⟩:=GE i hi;exact⟨bx,by simp[hm]⟩
   ·obtain⟨bx,hm⟩:=hrs x hx i hi;exact⟨bx,by simp[hm]⟩
  ·intro i cells hm c hc i' SG;rcases List.mem_append.1 hm with hm|hm
   ·obtain⟨bx,hb⟩:=SR i cells hm c hc i' SG;exact⟨bx,by simp[hb]⟩
   ·obtain⟨bx,hb⟩:=A5c i cells hm c hc i' SG;exact⟨bx,by simp[hb]⟩
  ·cases us with
   |nil=>exact ho.elim
   |cons u us=>
    obtain⟨h1,Er⟩:=hv w A own β' z j0 u (fun j ⟨bx,hm⟩=>hβ j ⟨bx,by simp[hm]⟩) ho.1
    have Bj:∀j,id+N*OU P t+N*j=id+N*(OU P t+j):=fun j=>by rw[Nat.mul_add];omega
    obtain⟨h2,Ho⟩:=Qx w A own β' z (j0+plc p) us (fun j ⟨bx,hm⟩=>by rw[Bj,hβ _ ⟨bx,by rw[←Bj];simp[hm]⟩,hl];congr 1;omega) ho.2
    refine⟨⟨h1,h2⟩,fun i bx hm=>?_⟩
    rcases List.mem_append.1 hm with hm|hm
    ·obtain⟨⟨j,hj,hjn⟩,h4,h5⟩:=Er i bx hm;exact⟨⟨j,hj,by simp only[K6,List.map_cons,List.sum_cons];omega⟩,h4,h5⟩
    ·obtain⟨⟨j,hj,hjn⟩,h4,h5⟩:=Ho i bx hm;refine⟨⟨_,by rw[hj,Bj],?_⟩,h4,h5⟩
     simp only[K6,List.map_cons,List.sum_cons] at hjn ⊢;omega
def Zo (N d:Nat)(bs:List (Nat × Bo)) (own β:Bt):Bt:=fun i=>if (bs.any fun q=>Nat.beq q.1 i)=true then own ((i-d) / N) else β i
theorem MJ {bs:List (Nat × Bo)} {i:Nat}:(bs.any fun q=>Nat.beq q.1 i)=true↔∃bx,(i,bx)∈bs:=by
 rw[List.any_eq_true];constructor
 ·rintro⟨⟨j,bx⟩,hm,e⟩
  have:=Nat.eq_of_beq_eq_true e;subst this;exact⟨bx,hm⟩
 ·rintro⟨bx,hm⟩
  exact⟨_,hm,Nat.beq_refl i⟩
theorem XJ {N d j:Nat}(hN:0<N){bs:List (Nat × Bo)} {own β:Bt}(h:∃bx,(d+N*j,bx)∈bs):Zo N d bs own β (d+N*j)=own j:=by
 unfold Zo;rw[if_pos (MJ.2 h),Nat.add_sub_cancel_left,Nat.mul_div_cancel_left _ hN]
theorem PY {c:Call}{f:FuncId}(ho:o.op=.call c)(hc:c.callee=.value (.func f)) (J0:NoNG P){fn:Func}(hf:P.funcs[f]?=some fn) (hb:fn.body.isSome=true):
  (execOp a.eval o).run P w=.ok (.enter f (c.args.map a.eval)) w:=by
 unfold execOp;rw[ho]
 have hn:¬fn.body=none:=by
  intro h;rw[h] at hb;cases hb
 have Eo:¬fn.name = "runtime.NumGoroutine" :=by simpa using J0 f fn hf
 simp[resolve,hc,Act.eval,Deferred.ofValue,invoke,callFunc,hf,Eo,hn]
theorem Aap {c:Call}{t:Nat}{f:FuncId}(ho:o.op=.call c)(hc:c.callee=.value (.tmp t)) (ht:a.eval (.tmp t)=.func (.func f) #[] #[]) (J0:NoNG P){fn:Func}(hf:P.funcs[f]?=some fn) (hb:fn.body.isSome=true):
  (execOp a.eval o).run P w=.ok (.enter f (c.args.map a.eval)) w:=by
 unfold execOp;rw[ho]
 have hn:¬fn.body=none:=by
  intro h;rw[h] at hb;cases hb
 have Eo:¬fn.name = "runtime.NumGoroutine" :=by simpa using J0 f fn hf
 simp[resolve,hc,ht,Deferred.ofValue,invoke,callFunc,hf,Eo,hn]
theorem Zd {A':Nat->Prop}(k:Bool):∀{xs:List Operand}{ps:List PV},Be (P6 w A') ps (xs.map a.eval)->Be (P6 w A') (Is k xs ps) (xs.map a.eval)
 |[],[],h=>h
 |[],_::_,h=>h
 |_::_,[],h=>h
 |x::xs,p::ps,h=>by
  simp only[List.map_cons] at h ⊢;refine⟨?_,Zd k h.2⟩;split
  ·exact⟨trivial,Aw.lnil _ _⟩
  ·exact h.1
theorem BL (h : Cr N w0 X0 Y β s a w) {G : Ur} (J0 : PF P G w0 X0) {C : Gl} {call : An} (Dq : ∀ f args res, call f args = some res -> Df G P f args res) {c : Call} {f : FuncId} (Cm : ∀ {fn : Func}, P.funcs[f]? = some fn -> fn.body.isSome = true -> (execOp a.eval o).run P w = .ok (.enter f (c.args.map a.eval)) w)
    {K : PV -> List Nat -> List (Nat × Bo) -> Option R}
    (hk : (EN P (Ic s.hp) (DA P f c) (c.args.toList.map (Bz s.tm)) fun vs m =>
          Ai (call f (Is (C.kz f) c.args.toList vs)) fun rv ro => Ad ro (A9 (Nat.blt 0 N) <| Y4 P (C.shr f) N (o.dst.getD 0) (Mi P o.type) rv fun ws bs =>
            A9 (bif Nr P o.type then !Nat.beq ws.length 1 else Nat.beq ws.length 1) <| K (M0 ws (Nr P o.type)) (bif Ii P (Mi P o.type) then m else []) bs)) = some r) : ∃ v fz nw, K v fz nw = some r ∧ DR P a w o Y β s v fz nw := by
  obtain⟨ps, m, hk, hm, Ey⟩ := KN h hk
  replace Ey := fun fz h1 h2 => Zd (a := a) (C.kz f) (Ey fz h1 h2)
  generalize Is (C.kz f) c.args.toList ps = ps at hk Ey
  obtain⟨rv, ro, I1, hk⟩ := KJ hk
  obtain⟨rfl, hk⟩ := Dj hk
  obtain⟨hN, hk⟩ := Al hk
  have hN : 0 < N := Nat.lt_of_succ_le (Nat.le_of_ble_eq_true hN)
  obtain⟨ws, bs, hk, hwl, UV, OC, hrs, SR, hws⟩ := Xw (C.shr f) N hk
  obtain⟨O8, hk⟩ := Al hk
  obtain⟨⟨fn, hfn, hfb⟩, AO⟩ := Dq f ps _ I1
  obtain⟨fz, Xl, hfm⟩ : ∃ fz : List Nat, fz = (bif Ii P (Mi P o.type) then m else []) ∧ ∀ id ∈ fz, ∃ f c, s.hp id = some (.ar f c) := by
    refine⟨_, rfl, fun id Bj => ?_⟩
    cases hh : Ii P (Mi P o.type) <;> rw[hh] at Bj
    · cases Bj
    · exact hm id Bj
  rw[← Xl] at hk
  refine⟨_, _, _, hk, hfm, fun next Q hn => ?_⟩
  have hf := h.freeze hfm
  have hYc : ∃ Yc : Nat -> Prop, (∀ b, Yc b -> b < w.heap.size) ∧ Be (P6 w Yc) ps (c.args.toList.map a.eval) ∧ ((∀ b, C7 (Ag s.hp fz) β Y b -> Yc b) ∨ Ii P (Mi P o.type) = false) := by
    have M6 := Ey m (fun _ hi => hi) hm
    cases hh : Ii P (Mi P o.type)
    · exact⟨fun _ => False, fun _ x => x.elim, M6.mono fun _ _ hx => hx.weaken (fun _ _ x => x.elim), .inr rfl⟩
    · rw[hh] at Xl
      have Xl : fz = m := Xl
      subst Xl
      refine⟨C7 (Ag s.hp fz) β Y, fun b hb => ?_, M6, .inl fun _ x => x⟩
      rcases hb with⟨id, ob, hl, hβ⟩ | hY
      · exact hf.blt id b ob (Cu hl) hβ
      · exact Nat.lt_of_lt_of_le (h.Ylt b hY) h.fr.step.size
  obtain⟨Yc, A4n, hYargs, hYA⟩ := hYc
  unfold Oper.wp
  rw[Cm hfn hfb]
  show Calls P f _ w _
  have hca : c.args.map a.eval = (c.args.toList.map a.eval).toArray := by rw[← List.map_toArray, Array.toArray_toList]
  rw[hca]
  refine (AO w Yc PD _ (QD A4n hYargs) (J0.fr w h.fr) (fun b x => ⟨Nat.lt_of_lt_of_le (J0.y b x).1 h.fr.step.size, Pf b⟩)).mono ?_
  rintro e w' ⟨vs, own, rfl, Uk⟩
  refine hn (He vs) w' fun Ny => ⟨Zo N (o.dst.getD 0) bs own β, ?_⟩
  obtain⟨ha1, Jr⟩ := Bk Ny
  have Acq : ∀ i bx, (i, bx) ∈ bs -> Ag s.hp fz i = none := fun i bx hm => Dx.2 (ha1 i bx hm)
  obtain⟨hg1, hg2⟩ := D6 (hp := Ag s.hp fz) Jr
  have hold : ∀ i, Ag s.hp fz i ≠ none -> Zo N (o.dst.getD 0) bs own β i = β i := by
    intro i hi
    unfold Zo
    rw[if_neg]
    intro hx
    obtain⟨bx, hm⟩ := MJ.1 hx
    exact hi (Acq i bx hm)
  obtain⟨Qx, hba⟩ := hws w' _ own (Zo N (o.dst.getD 0) bs own β) w.heap.size 0 vs (fun j hj => by rw[XJ hN hj, Nat.zero_add]) Uk.vals
  have Ug : ∀ i bx, (i, bx) ∈ bs -> ∃ j, i = o.dst.getD 0 + N * j ∧ Zo N (o.dst.getD 0) bs own β i = own j := by
    intro i bx hm
    obtain⟨⟨j, rfl, _⟩, _, _⟩ := hba i bx hm
    exact⟨j, rfl, XJ hN ⟨bx, hm⟩⟩
  have hAA : Ii P (Mi P o.type) = false ∨ ∀ b, C7 (Ar (Ag s.hp fz) bs) (Zo N (o.dst.getD 0) bs own β) Y b -> CU PD own Yc b := by
    rcases hYA with hYA | hYA
    · refine .inr fun b hb => ?_
      rcases hb with⟨i, ob, hl, hβ⟩ | hY
      · by_cases hi : ∃ bx, (i, bx) ∈ bs
        · obtain⟨bx, hm⟩ := hi
          obtain⟨j, _, h3⟩ := Ug i bx hm
          rw[h3] at hβ
          exact .inl ⟨j, ob, hβ⟩
        · rw[hg2 i (fun bx hm => hi ⟨bx, hm⟩)] at hl
          rw[hold i (Cu hl)] at hβ
          exact .inr (.inr (hYA b (.inl ⟨i, ob, hl, hβ⟩)))
      · exact .inr (.inr (hYA b (.inr hY)))
    · exact .inl hYA
  have hval : Ea w' (C7 (Ar (Ag s.hp fz) bs) (Zo N (o.dst.getD 0) bs own β) Y) (Zo N (o.dst.getD 0) bs own β) (M0 ws (Nr P o.type)) (He vs) := by
    have M6 : Be (Hc w' (C7 (Ar (Ag s.hp fz) bs) (Zo N (o.dst.getD 0) bs own β) Y) (Zo N (o.dst.getD 0) bs own β)) ws vs := by
      rcases hAA with LB | hAA
      · obtain⟨_, SB⟩ := OC LB
        refine Qx.mono_mem fun v hv u hvu => ?_
        have SB := SB v hv
        cases v with
        | agg cs =>
          obtain⟨xs, rfl, GD⟩ := hvu
          refine⟨xs, rfl, GD.mono_mem fun cc hcc x hx => ?_⟩
          obtain⟨y, rfl⟩ := SB cc hcc
          have := Aw.val (w := w') hx
          subst this
          exact Aw.sc _
        | sc y =>
          have := Aw.val (w := w') hvu
          subst this
          exact Aw.sc _
        | lst z es n cc => obtain⟨y, hy⟩ := SB _ (List.mem_singleton_self _); cases hy
        | own es n cc => obtain⟨y, hy⟩ := SB _ (List.mem_singleton_self _); cases hy
        | view i es n cc => obtain⟨y, hy⟩ := SB _ (List.mem_singleton_self _); cases hy
        | ptr i cc => obtain⟨y, hy⟩ := SB _ (List.mem_singleton_self _); cases hy
        | iptr i cc => obtain⟨y, hy⟩ := SB _ (List.mem_singleton_self _); cases hy
        | pbox cc => obtain⟨y, hy⟩ := SB _ (List.mem_singleton_self _); cases hy
        | tup cc => obtain⟨y, hy⟩ := SB _ (List.mem_singleton_self _); cases hy
        | top => obtain⟨y, hy⟩ := SB _ (List.mem_singleton_self _); cases hy
        | ub => obtain⟨y, hy⟩ := SB _ (List.mem_singleton_self _); cases hy
      · exact Qx.mono fun v u hvu => hvu.step (B8.refl _ _) (fun b _ => hAA b) (fun _ _ => rfl)
    have Cz := M6.len
    cases hT : Nr P o.type
    · rw[hT] at O8
      have h1 : ws.length = 1 := Nat.eq_of_beq_eq_true O8
      match ws, vs, h1, Cz with
      | [v], [u], _, _ =>
        exact (Nm (UV v (by simp))).2 M6.1
    · rw[hT] at O8
      have h1 : ¬ ws.length = 1 := by
        intro e
        rw[e] at O8
        cases O8
      have hr : He vs = .tuple ⟨vs⟩ := by
        unfold He
        split
        · simp at Cz; omega
        · rfl
      rw[hr]
      exact⟨vs, rfl, M6⟩
  refine⟨Uk.os, Uk.tape, Uk.output, Uk.ext.weaken (fun b _ hb => Pf b hb), hold, ?_, ?_, ?_, ?_, ?_, hval, ?_⟩
  · intro i bx hm
    exact (hba i bx hm).2.1
  · intro i bx hm
    rcases hAA with LB | hAA
    · rw[(OC LB).1] at hm; cases hm
    · exact (hba i bx hm).2.2.1.step' hAA
  · intro i bx b ob hm hβ
    obtain⟨j, _, h3⟩ := Ug i bx hm
    rw[h3] at hβ
    obtain⟨h4, h5⟩ := Uk.fresh j b ob hβ
    refine⟨?_, h4⟩
    rcases Nat.lt_or_ge b w.heap.size with h | h
    · obtain⟨⟨_, _, _, h6⟩, _⟩ := h5 h
      cases h6
    · exact h
  · intro i bx i' bx' b ob ob' hm I6 hβ hβ'
    obtain⟨j, h1, h3⟩ := Ug i bx hm
    obtain⟨j', KT, h3'⟩ := Ug i' bx' I6
    rw[h3] at hβ
    rw[h3'] at hβ'
    rw[h1, KT, Uk.inj j j' b ob ob' hβ hβ']
  · intro i cells hm c hc i' SG
    exact .inr (SR i cells hm c hc i' SG)
  · intro i hi
    right
    cases hT : Nr P o.type
    · rw[hT] at O8 hi
      have h1 : ws.length = 1 := Nat.eq_of_beq_eq_true O8
      match ws, h1 with
      | [v], _ =>
        refine hrs v (by simp) i ?_
        have : Bs v = Ca v := by
          have hn := UV v (by simp)
          cases v <;> first | rfl | exact absurd rfl (hn _)
        rw[← this]
        exact hi
    · rw[hT] at hi
      obtain⟨v, hv, hi⟩ := List.mem_flatMap.1 (show i ∈ ws.flatMap Ca from hi)
      exact hrs v hv i hi
end
open Go.RowKit
section
variable {R:Type} {r:R} {P:Program} {N:Nat} {w0:World} {X0:Hg} {Y:Nat->Prop} {β β':Bt} {s:St} {a:Act} {w w':World} {o:Oper} {A:Nat->Prop}
theorem Cr.move (h:Cr N w0 X0 Y β s a w){id d:Nat}{c cells:List PV}{bo:Option (Nat × Nat)} {v:PV}{val:Value}(h0:s.hp id=some (.ar false c)) (hd:s.hp d=none)(hdN:d<N)
  (hos:w'.os=w.os)(htp:w'.tape=w.tape)(Uk:w'.output=w.output)(RX:w.heap.size<=w'.heap.size)
  (Ka:∀k,k<w.heap.size->(∀x,β id≠some (k,x))->w'.heap[k]?=w.heap[k]?) (GI:∀k,k<w.heap.size->Gn w w' k)
  (MI:∀k x,bo=some (k,x)->k<w'.heap.size∧(w.heap.size<=k∨∃y,β id=some (k,y)))
  (NH:∀k x,bo=some (k,x)->k<w.heap.size->β id=some (k,x))
  (hO:∀k y,β id=some (k,y)->k<w.heap.size->∀j,j<y->w'.cell? ⟨k,j,none⟩=w.cell? ⟨k,j,none⟩∧w'.frozen? ⟨k,j,none⟩=w.frozen? ⟨k,j,none⟩)
  (Ku:Pr w' (C7 (Cn (Cn s.hp id (some .mv)) d (some (.ar false cells))) (Cn β d bo) Y) (Cn β d bo) d (.ar false cells))
  (hv:Ea w' (C7 (Cn (Cn s.hp id (some .mv)) d (some (.ar false cells))) (Cn β d bo) Y) (Cn β d bo) v val) (hr:∀i∈Bs v,i=d):
  Cr N w0 X0 Y (Cn β d bo) ⟨Cn s.tm d v,Cn (Cn s.hp id (some .mv)) d (some (.ar false cells))⟩ (a.put (some d) val) w':=by
 have Eo:id≠d:=by rintro rfl;rw[h0] at hd;cases hd
 have RD:∀i,i≠id->i≠d->Cn (Cn s.hp id (some Bo.mv)) d (some (.ar false cells)) i=s.hp i:=fun i h1 h2=>by rw[Aj _ _ h2,Aj _ _ h1]
 have Ajh:Cn (Cn s.hp id (some Bo.mv)) d (some (.ar false cells)) id=some .mv:=by rw[Aj _ _ Eo,Am]
 have hgd:Cn (Cn s.hp id (some Bo.mv)) d (some (.ar false cells)) d=some (.ar false cells):=Am _ _ _
 have Pe:∀i,s.hp i≠none->Cn (Cn s.hp id (some Bo.mv)) d (some (.ar false cells)) i≠none:=by
  intro i hi;by_cases e:i=id
  ·subst e;rw[Ajh];simp
  ·by_cases e':i=d
   ·subst e';rw[hgd];simp
   ·rw[RD i e e'];exact hi
 have hβo:∀i,s.hp i≠none->Cn β d bo i=β i:=fun i hi=>Aj _ _ (by rintro rfl;exact hi hd)
 have RZ:C8 (s.hp id):=by rw[h0];trivial
 have Gb:∀i,C8 (Cn (Cn s.hp id (some Bo.mv)) d (some (.ar false cells)) i)->i=d∨(i≠id∧i≠d∧C8 (s.hp i)):=by
  intro i hi;by_cases e':i=d
  ·exact .inl e'
  ·by_cases e:i=id
   ·subst e;rw[Ajh] at hi;exact hi.elim
   ·rw[RD i e e'] at hi;exact .inr ⟨e,e',hi⟩
 have hX:∀k,k<w.heap.size->LW (Cn (Cn s.hp id (some .mv)) d (some (.ar false cells))) (Cn β d bo) k->LW s.hp β k:=by
  rintro k hk ⟨i,x,hl,hβ⟩
  rcases Gb i hl with rfl|⟨e,e',hl⟩
  ·rw[Am] at hβ;rcases (MI k x hβ).2 with Ky|⟨y,hy⟩
   ·omega
   ·exact⟨id,y,RZ,hy⟩
  ·rw[Aj _ _ e'] at hβ;exact⟨i,x,hl,hβ⟩
 have hAo:∀k,k<w.heap.size->C7 (Cn (Cn s.hp id (some .mv)) d (some (.ar false cells))) (Cn β d bo) Y k->C7 s.hp β Y k:=fun k hk hx=>hx.imp (hX k hk) (fun y=>y)
 have Ft:B8 (C7 s.hp β Y) w w':=⟨RX,fun k hk hn=>Ka k hk fun x hx=>hn (.inl ⟨id,x,RZ,hx⟩),GI⟩
 have Afm:∀i k x,i≠id->i≠d->(∃b,s.hp i=some b∧b ≠ .mv)->β i=some (k,x)->k<w.heap.size∧w'.heap[k]?=w.heap[k]?:=by
  rintro i k x e e' ⟨b,hb,hmv⟩ hβ
  have hk:=h.blt i k x (by rw[hb];simp) hβ
  refine⟨hk,Ka k hk fun y hy=>?_⟩
  have YK:=h.box i b hb;cases b with
  |st cc=>exact e (h.inj i id k x y (by rw[hb];trivial) RZ hβ hy)
  |ar fz cc=>
   cases fz with
   |false=>exact e (h.inj i id k x y (by rw[hb];trivial) RZ hβ hy)
   |true=>
    rcases YK with⟨h1,_⟩|⟨k',x',h1,_,_,h4⟩
    ·rw[hβ] at h1;cases h1
    ·rw[hβ] at h1;simp at h1;obtain⟨rfl,rfl⟩:=h1
     exact h4 rfl (.inl ⟨id,y,RZ,hy⟩)
  |mv=>exact absurd rfl hmv
 refine⟨by rw[Qg];exact h.dfr,by rw[Vm];exact h.tsz,?_,?_,?_,?_,?_,?_,?_,?_,?_,?_,?_,?_,h.Ylt,?_⟩
 ·intro i hi;show Cn s.tm d v i=_;rw[Aj _ _ (by omega)]
  exact h.tmo i hi
 ·refine Nu (d:=some d) (Q:=fun _ p u=>Ea w' (C7 (Cn (Cn s.hp id (some .mv)) d (some (.ar false cells))) (Cn β d bo) Y) (Cn β d bo) p u) h.tsz (by simp[Fz,Nat.blt];omega) (fun i hi=>?_) (fun _=>hv)
  exact (h.tms i hi).step Ft hAo fun j hj=>hβo j (h.wfT i hi j hj)
 ·intro i bi hb;simp only at hb;by_cases e':i=d
  ·subst e';rw[hgd] at hb;cases hb;exact Ku
  ·by_cases e:i=id
   ·subst e;rw[Ajh] at hb;cases hb;trivial
   ·rw[RD i e e'] at hb;have hβi:=hβo i (by rw[hb];simp)
    have AA:=h.box i bi hb;cases bi with
    |st cc=>
     obtain⟨k,x,h1,h2,h3⟩:=AA;obtain⟨hk,Pj⟩:=Afm i k x e e' ⟨_,hb,by simp⟩ h1
     refine⟨k,x,by rw[hβi];exact h1,fun j p hj=>?_,fun j hj=>?_⟩
     ·obtain⟨u,hu,hc⟩:=h2 j p hj;exact⟨u,by rw[World.cell?_of_block (w:=w) Pj];exact hu,hc.step Ft hAo fun q hq=>hβo q (h.wfB i cc hb p (List.mem_of_getElem? hj) q hq)⟩
     ·rw[World.frozen?_of_block (w:=w) Pj];exact h3 j hj
    |ar fz cc=>
     rcases AA with⟨h1,h2⟩|⟨k,x,h1,h2,h3,h4⟩
     ·exact .inl ⟨by rw[hβi];exact h1,h2⟩
     ·obtain⟨hk,Pj⟩:=Afm i k x e e' ⟨_,hb,by simp⟩ h1
      refine .inr ⟨k,x,by rw[hβi];exact h1,fun j p hj=>?_,fun ef j hj Q4=>?_,fun ef hx=>h4 ef (hAo k hk hx)⟩
      ·obtain⟨u,hu,h5,hc⟩:=h2 j p hj;exact⟨u,by rw[World.cell?_of_block (w:=w) (by rw[Em];exact Pj)];exact hu,h5,hc.step Ft hAo⟩
      ·rw[World.frozen?_of_block (w:=w) Pj];refine h3 ef j hj ?_;unfold bsz at Q4 ⊢;rw[Pj] at Q4;exact Q4
    |mv=>trivial
 ·intro i i' k x y hl Je hb Hf;simp only at hl Je
  have key:∀j z,j≠id->j≠d->C8 (s.hp j)->β j=some (k,z)->bo=some (k,y)∨bo=some (k,x)->False:=by
   intro j z e e' hlj hβj hbk;have hk:=h.blt j k z (Cu hlj) hβj;have:∃t,bo=some (k,t):=by rcases hbk with q|q<;>exact⟨_,q⟩
   obtain⟨t,ht⟩:=this;rcases (MI k t ht).2 with Ky|⟨q,hq⟩
   ·omega
   ·exact e (h.inj j id k z q hlj RZ hβj hq)
  rcases Gb i hl with rfl|⟨e,e',hl0⟩
  ·rcases Gb i' Je with rfl|⟨e2,e2',Ap4⟩
   ·rfl
   ·rw[Am] at hb;rw[Aj _ _ e2'] at Hf;exact (key i' y e2 e2' Ap4 Hf (.inr hb)).elim
  ·rcases Gb i' Je with rfl|⟨e2,e2',Ap4⟩
   ·rw[Am] at Hf;rw[Aj _ _ e'] at hb;exact (key i x e e' hl0 hb (.inl Hf)).elim
   ·rw[Aj _ _ e'] at hb;rw[Aj _ _ e2'] at Hf;exact h.inj i i' k x y hl0 Ap4 hb Hf
 ·intro i k x hi hb;simp only at hi;by_cases e':i=d
  ·subst e';rw[Am] at hb;exact (MI k x hb).1
  ·rw[Aj _ _ e'] at hb
   have SG:s.hp i≠none:=by
    by_cases e:i=id
    ·subst e;rw[h0];simp
    ·rw[RD i e e'] at hi;exact hi
   exact Nat.lt_of_lt_of_le (h.blt i k x SG hb) RX
 ·have:=Nu (d:=some d) (Q:=fun _ p _=>∀j∈Bs p,Cn (Cn s.hp id (some Bo.mv)) d (some (.ar false cells)) j≠none) (val:=val) (v:=v) h.tsz (by simp[Fz,Nat.blt];omega) (fun i hi j hj=>Pe j (h.wfT i hi j hj)) (fun _ j hj=>by
   rw[hr j hj,hgd];simp)
  exact this
 ·intro i cc hc p hp j hj;simp only at hc;by_cases e':i=d
  ·subst e';rw[hgd] at hc;cases hc
  ·by_cases e:i=id
   ·subst e;rw[Ajh] at hc;cases hc
   ·rw[RD i e e'] at hc;exact Pe j (h.wfB i cc hc p hp j hj)
 ·rintro k ⟨i,x,hl,hβ⟩
  rcases Gb i hl with rfl|⟨e,e',hl⟩
  ·rw[Am] at hβ;rcases (MI k x hβ).2 with Ky|⟨y,hy⟩
   ·exact .inr (Nat.le_trans h.fr.step.size Ky)
   ·exact h.ownd k ⟨id,y,RZ,hy⟩
  ·rw[Aj _ _ e'] at hβ;exact h.ownd k ⟨i,x,hl,hβ⟩
 ·intro i bi k x AA hli hβ B7 j hj;simp only at AA;rcases Gb i (by rw[AA];exact hli) with rfl|⟨e,e',hl⟩
  ·rw[Am] at hβ;rw[hgd] at AA;cases AA;have:=NH k x hβ (Nat.lt_of_lt_of_le B7 h.fr.step.size);exact h.rngB id (.ar false c) k x h0 trivial this B7 j hj
  ·rw[RD i e e'] at AA;rw[Aj _ _ e'] at hβ;exact h.rngB i bi k x AA hli hβ B7 j hj
 ·intro i hi;exact⟨Pe _ (h.pin i hi).1,by rw[hβo _ (h.pin i hi).1];exact (h.pin i hi).2⟩
 ·intro i cc k x AA hβ B7;simp only at AA;rcases Gb i (by rw[AA];trivial) with rfl|⟨e,e',hl⟩
  ·rw[hgd] at AA;cases AA
  ·rw[RD i e e'] at AA;rw[Aj _ _ e'] at hβ;exact h.stp i cc k x AA hβ B7
 ·intro k hY hx;exact h.Yx k hY (hX k (Nat.lt_of_lt_of_le (h.Ylt k hY) h.fr.step.size) hx)
 ·refine⟨hos.trans h.fr.os,htp.trans h.fr.tape,Uk.trans h.fr.output,⟨Nat.le_trans h.fr.step.size RX,fun k hk hnk=>?_,fun k hk=>(h.fr.step.bs k hk).trans (GI k (Nat.lt_of_lt_of_le hk h.fr.step.size))⟩,fun k j hk hL=>?_⟩
  ·rw[Ka k (Nat.lt_of_lt_of_le hk h.fr.step.size) ?_]
   ·exact h.fr.step.keep k hk hnk
   ·intro x hx;rcases h.ownd k ⟨id,x,RZ,hx⟩ with hq|hq
    ·exact hnk hq
    ·omega
  ·have hkw:=Nat.lt_of_lt_of_le hk h.fr.step.size
   have Zh:w'.cell? ⟨k,j,none⟩=w.cell? ⟨k,j,none⟩∧w'.frozen? ⟨k,j,none⟩=w.frozen? ⟨k,j,none⟩:=by
    by_cases e:∃y,β id=some (k,y)
    ·obtain⟨y,hy⟩:=e;refine hO k y hy hkw j ?_;rcases Nat.lt_or_ge j y with q|q
     ·exact q
     ·exact absurd (h.rngB id (.ar false c) k y h0 trivial hy hk j q) hL
    ·have Pj:=Ka k hkw (fun x hx=>e ⟨x,hx⟩)
     exact⟨World.cell?_of_block (w:=w) Pj,World.frozen?_of_block (w:=w) Pj⟩
   rw[Zh.1,Zh.2];exact h.fr.rng k j hk hL
end
open Go.RowKit
section
variable {R:Type} {r:R} {P:Program} {N:Nat} {w0:World} {X0:Hg} {Y:Nat->Prop} {β β':Bt} {s:St} {a:Act} {w w':World} {o:Oper} {A:Nat->Prop}
structure Src (P:Program) (w:World) (A:Nat->Prop) (size:Nat) (xv:Value) (m:Nat) (new:List PV) (news:List Value):Prop where
 len:∀w':World,(Builtin.lenOf xv).run P w'=.ok m w'
 cells:∀w':World,(∀b,b<w.heap.size->w'.heap[b]?=w.heap[b]?)->(Builtin.firstCells size m xv).run P w'=.ok news.toArray w'
 part:∀k,k<=m->(Builtin.firstCells size k xv).run P w=.ok (news.take (k*size)).toArray w
 one:∀u∈news,u.oneCell'=true
 rep:Be (Aw w A) new news
theorem BX (h:Cr N w0 X0 Y β s a w){e tx:TypeId}{x:Operand}{K:Nat->List PV->Option R}(hk:VN P s (Bb P e) tx (Bz s.tm x) K=some r)
  (h1c:∀m new,K m new=some r->new.length=m*Bb P e):
  (∃d,P.underlying tx=some d∧(∀k,d ≠ .int k))∧∃m new news,K m new=some r∧Src P w (C7 s.hp β Y) (Bb P e) (a.eval x) m new news:=by
 unfold VN SQ at hk;split at hk
 ·rename_i hu;obtain⟨S0,hk⟩:=Al hk;have S0:=Nat.eq_of_beq_eq_true S0;obtain⟨b,hx,hk⟩:=Dk hk;have Db:=B6 h hx;refine⟨⟨_,hu,by simp⟩,b.size,Pd b,b.data.toList.map (fun y=>Value.int .u8 y.toNat),hk,?_,?_,?_,?_,?_⟩
  ·intro w';rw[Db];rfl
  ·intro w' _;rw[Db]
   have hx:b.data.extract 0 b.size=b.data:=by
    have:b.size=b.data.size:=rfl;rw[this,Array.extract_size]
   have hd:(b.extract 0 b.size).data=b.data:=by
    rw[ByteArray.extract_zero_size]
   simp only[Builtin.firstCells,hd];rw[←Array.toList_map,Array.toArray_toList];rfl
  ·intro k Ky;rw[Db,S0,Nat.mul_one];have hd:(b.extract 0 k).data=b.data.extract 0 k:=ByteArray.data_extract
   have e1:(b.data.extract 0 k).map (fun y=>Value.int .u8 y.toNat)=((b.data.toList.map fun y=>Value.int .u8 y.toNat).take k).toArray:=by
    apply Array.toList_inj.1;simp[List.map_take]
   simp only[Builtin.firstCells,hd];rw[e1];rfl
  ·intro u hu;simp at hu;obtain⟨y,_,rfl⟩:=hu;rfl
  ·unfold Pd;generalize b.data.toList=l
   induction l with
   |nil=>trivial
   |cons y l ih=>exact⟨Aw.sc _,ih⟩
 ·rename_i e' hu;refine⟨⟨_,hu,by simp⟩,?_⟩
  obtain⟨m,new,hk,hc⟩:=EL h hk;have Cz:=h1c m new hk;rcases hc with⟨⟨ad,Db⟩,rfl,rfl⟩|⟨ad,cap,Db,hn,B7,hrd⟩
  ·have f0:∀w':World,(Builtin.firstCells (Bb P e) 0 (.slice ad 0 0)).run P w'=.ok #[] w':=fun w'=>by
    cases ad with
    |none=>rfl
    |some p=>exact run_firstCells_some (P:=P) w' (Bb P e) 0 p 0 0 [] (by simp) (fun j v hj=>by simp at hj)
   exact⟨0,[],[],hk,fun w'=>by rw[Db];rfl,fun w' _=>by rw[Db];exact f0 w',fun k Ky=>by rw[Db,Nat.le_zero.1 Ky,List.take_nil];exact f0 w,by simp,trivial⟩
  ·refine⟨m,new,new.mapIdx (fun j _=>(w.cell? (ad.add j)).getD undef),hk,fun w'=>by rw[Db];rfl,fun w' hw=>?_,fun k Ky=>?_,?_,?_⟩
   ·rw[Db];refine run_firstCells_some (P:=P) w' (Bb P e) m ad m cap _ (by simp[Cz]) fun j v hj=>?_
    rw[List.getElem?_mapIdx] at hj;cases hc:new[j]? with
    |none=>rw[hc] at hj;cases hj
    |some c=>
     rw[hc] at hj;simp at hj;obtain⟨u,hu,_⟩:=hrd j c hc;rw[hu] at hj;simp at hj;subst hj;have B7:ad.block<w.heap.size:=by rcases B7 with rfl|B7<;>first|exact B7|simp at hc
     rw[World.cell?_of_block (w:=w) (by rw[Em];exact hw _ B7)]
     exact hu
   ·rw[Db];have hkm:k*Bb P e<=m*Bb P e:=Nat.mul_le_mul_right _ Ky;refine run_firstCells_some (P:=P) w (Bb P e) k ad m cap _ (by rw[List.length_take,List.length_mapIdx,Cz];omega) fun j v hj=>?_
    rw[List.getElem?_take] at hj;split at hj
    ·rw[List.getElem?_mapIdx] at hj;cases hc:new[j]? with
     |none=>rw[hc] at hj;cases hj
     |some c=>
      rw[hc] at hj;simp at hj;obtain⟨u,hu,_⟩:=hrd j c hc;rw[hu] at hj;simp at hj;subst hj;exact hu
    ·cases hj
   ·intro u hu;obtain⟨j,hj⟩:=List.mem_iff_getElem?.1 hu;rw[List.getElem?_mapIdx] at hj;cases hc:new[j]? with
    |none=>rw[hc] at hj;cases hj
    |some c=>
     rw[hc] at hj;simp at hj;obtain⟨v,hv,h2,ht⟩:=hrd j c hc;rw[hv] at hj;simp at hj;subst hj;exact h2
   ·refine Be.of_at (by simp) fun j c v hc hj=>?_
    rw[List.getElem?_mapIdx,hc] at hj;simp at hj;obtain⟨u,hu,_,ht⟩:=hrd j c hc;rw[hu] at hj;simp at hj;subst hj;exact ht
 ·cases hk
theorem CC {e:TypeId}(h:MY P e=true):∃i z,P.info? e=some i∧i.zero=some z∧z.cells.size=i.size∧Bb P e=i.size:=by
 unfold MY at h;split at h
 ·rename_i i hi;split at h
  ·rename_i z hz;exact⟨i,z,hi,hz,Nat.eq_of_beq_eq_true h,by simp[Bb,hi]⟩
  ·cases h
 ·cases h
theorem Z9 {es n cap:Nat}{ad:Option Addr}{olds:List Value}(h:(ad=none∧olds=[])∨∃p,ad=some p∧olds.length=n*es∧∀(j:Nat) v,olds[j]?=some v->w.cell? (p.add j)=some v):
  (Builtin.firstCells es n (.slice ad n cap)).run P w=.ok olds.toArray w:=by
 rcases h with⟨rfl,rfl⟩|⟨p,rfl,hl,hc⟩
 ·rfl
 ·exact run_firstCells_some (P:=P) w es n p n cap olds hl hc
theorem K4 {t tx ty e:TypeId}{i:TypeInfo}{z:Value}{d:TypeDesc}{ts:List TypeId}(ht:P.underlying t=some (.slice e)) (htx:P.underlying tx=some d)(hd:∀k,d ≠ .int k)(hi:P.info? e=some i)(hz:i.zero=some z)
  {ad:Option Addr} {n cap m:Nat} {xv:Value} {olds news:List Value} {A:Nat->Prop} {new:List PV} (hs:Src P w A i.size xv m new news)
  (hold:(ad=none∧olds=[])∨∃p,ad=some p∧olds.length=n*i.size∧∀(j:Nat) v,olds[j]?=some v->w.cell? (p.add j)=some v)
  (hg:cap<n+m)(hb:(n+m)*i.bytes<=1099511627776) (h63:n+m<=1099511627776):
  (Builtin.append_ (t::tx::ts).toArray ty #[.slice ad n cap,xv]).run P w =
   .ok (.slice (some ⟨w.heap.size,0,none⟩) (n+m) (grownCap w (n+m) cap e)) (w.drew.alloc (.cells (olds.toArray++news.toArray++Builtin.zeroCells z.cells (grownCap w (n+m) cap e-(n+m))) e)):=by
 have h1:=hs.len w;have h2:(Builtin.firstCells i.size m xv).run P w.drew=.ok news.toArray w.drew:=hs.cells w.drew (fun _ _=>rfl)
 have h3:(Builtin.firstCells i.size n (.slice ad n cap)).run P w.drew=.ok olds.toArray w.drew:=Z9 (w:=w.drew) (by
  rcases hold with hh|⟨p,hp,hl,hc⟩
  ·exact .inl hh
  ·exact .inr ⟨p,hp,hl,fun j v hj=>hc j v hj⟩)
 have Auc:=growslice_fits (need:=n+m) (old:=cap) (bytes:=i.bytes) hg (by omega)
 have hn:¬(n+m<=cap):=by omega
 have Ai5:¬(9223372036854775807<((n:Int)+(m:Int))):=by omega
 have Ai1:¬(281474976710656<Builtin.nextslicecap (n+m) cap*i.bytes):=by omega
 have CH:(match d with | .int _=>true|_=>false)=false:=by cases d<;>first|rfl|exact absurd rfl (hd _)
 simp[Builtin.append_,run_underlying ht,run_underlying htx,CH,sizeOf,typeInfo,zeroValue,hi,hz,h1,hn,Ai5,Ai1,Question.forced,h2,h3,newRow,grownCap]
 congr 2
 apply Array.ext';simp[List.append_assoc]
theorem Z7 {t tx ty e:TypeId}{i:TypeInfo}{d:TypeDesc}{ts:List TypeId}(ht:P.underlying t=some (.slice e)) (htx:P.underlying tx=some d)(hd:∀k,d ≠ .int k)(hi:P.info? e=some i)
  {b ob n cap m:Nat} {xv:Value} {news:List Value} {A:Nat->Prop} {new:List PV} (hs:Src P w A i.size xv m new news) (hl:news.length=m*i.size)
  (Cx:∀k,k<news.length->(w.cell? ⟨b,ob+n*i.size+k,none⟩).isSome=true) (hfr:∀k,k<news.length->w.frozen? ⟨b,ob+n*i.size+k,none⟩=false)(hg:n+m<=cap):
  (Builtin.append_ (t::tx::ts).toArray ty #[.slice (some ⟨b,ob,none⟩) n cap,xv]).run P w=.ok (.slice (some ⟨b,ob,none⟩) (n+m) cap) (w.setCells b (ob+n*i.size) news):=by
 have h1:=hs.len w;have h2:(Builtin.firstCells i.size m xv).run P w=.ok news.toArray w:=hs.cells w (fun _ _=>rfl)
 have h3:=run_storeCells_cells (P:=P) b (ob+n*i.size) news 0 w (fun k hk=>by simpa using Cx k hk) (fun k hk=>by simpa using hfr k hk) hs.one
 have CH:(match d with | .int _=>true|_=>false)=false:=by cases d<;>first|rfl|exact absurd rfl (hd _)
 have _:=hl;simp[Builtin.append_,run_underlying ht,run_underlying htx,CH,sizeOf,typeInfo,hi,h1,hg,h2,Eh];rw[h3];simp
theorem OE {t ty e:TypeId}{i:TypeInfo}{ts:List TypeId}(ht:P.underlying t=some (.slice e)) (hi:P.info? e=some i)
  {ad:Option Addr} {n cap m:Nat} {xv:Value} {news:List Value} {A:Nat->Prop} {new:List PV} (hs:Src P w A i.size xv m new news)
  {w1:World} (Ft:(match ad with|some p=>storeCells p (news.take (min m n*i.size)) 0|none=>pure ()).run P w=.ok () w1):
  (Builtin.copy_ (t::ts).toArray ty #[.slice ad n cap,xv]).run P w=.ok (goInt ((min m n:Nat):Int)) w1:=by
 have h1:=hs.len w;have h2:=hs.part (min m n) (Nat.min_le_left _ _);have e:Nat.min m n=min m n:=rfl;generalize min m n=k at *
 cases ad with
 |none=>
  simp only at Ft;simp[Builtin.copy_,run_underlying ht,sizeOf,typeInfo,hi,h1,h2,e]
  simpa using Ft
 |some p=>
  simp only at Ft;simp[Builtin.copy_,run_underlying ht,sizeOf,typeInfo,hi,h1,h2,e,Ft]
theorem Yi {t tx ty e:TypeId}{i:TypeInfo}{k kx:IntKind}{ts:List TypeId}(ht:P.underlying t=some (.slice e)) (htx:P.underlying tx=some (.int k)) (hi:P.info? e=some i):
  (Builtin.append_ (t::tx::ts).toArray ty #[.slice none 0 0,.int kx 0]).run P w=.ok (.slice none 0 0) w:=by
 have hw:IntKind.i64.wrap 0=0:=by decide
 simp[Builtin.append_,run_underlying ht,run_underlying htx,sizeOf,typeInfo,hi,asInt,asIntOf,hw]
theorem Zp {t tx ty e:TypeId}{i:TypeInfo}{z:Value}{k kx:IntKind}{ts:List TypeId}(ht:P.underlying t=some (.slice e)) (htx:P.underlying tx=some (.int k)) (hi:P.info? e=some i)(hz:i.zero=some z)
  {n:Int} (h0:0<n) (hb:n.toNat*i.bytes<=1099511627776) (hn:n<=1099511627776):
  (Builtin.append_ (t::tx::ts).toArray ty #[.slice none 0 0,.int kx n]).run P w =
   .ok (.slice (some ⟨w.heap.size,0,none⟩) n.toNat (grownCap w n.toNat 0 e)) (w.drew.alloc (.cells ((if n.toNat*i.size=0 then #[] else Builtin.zeroCells z.cells n.toNat)++Builtin.zeroCells z.cells (grownCap w n.toNat 0 e-n.toNat)) e)):=by
 have hw:IntKind.i64.wrap n=n:=IntWalk.i64_in n (by omega)
 have Auc:=growslice_fits (need:=n.toNat) (old:=0) (bytes:=i.bytes) (by omega) (by omega)
 have Wz:¬n<0:=by omega
 have Pe:¬(281474976710656<n*(i.bytes:Int)):=by
  have:n*(i.bytes:Int)=((n.toNat*i.bytes:Nat):Int):=by
   rw[Int.natCast_mul,Int.toNat_of_nonneg (by omega)]
  omega
 have Gi:¬(n.toNat=0):=by omega
 have Ai5:¬(9223372036854775807<(n.toNat:Int)):=by omega
 have Ai1:¬(281474976710656<Builtin.nextslicecap n.toNat 0*i.bytes):=by omega
 have Y0:¬n<=0:=by omega
 have hmx:¬(9223372036854775807<max n 0):=by omega
 by_cases hs:n.toNat*i.size=0
 ·simp[Builtin.append_,run_underlying ht,run_underlying htx,sizeOf,typeInfo,zeroValue,hi,hz,asInt,asIntOf,hw,Wz,Pe,Gi,Y0,hmx,Ai5,Ai1,Question.forced,hs,newRow,grownCap,Builtin.firstCells]
 ·simp[Builtin.append_,run_underlying ht,run_underlying htx,sizeOf,typeInfo,zeroValue,hi,hz,asInt,asIntOf,hw,Wz,Pe,Gi,Y0,hmx,Ai5,Ai1,Question.forced,hs,newRow,grownCap,Builtin.firstCells]
theorem K2 {t tx ty e:TypeId}{i:TypeInfo}{d:TypeDesc}{ts:List TypeId}(ht:P.underlying t=some (.slice e)) (htx:P.underlying tx=some d)(hd:∀k,d ≠ .int k)(hi:P.info? e=some i)
  {ad:Option Addr} {xv:Value} {news:List Value} {A:Nat->Prop} {new:List PV} (hs:Src P w A i.size xv 0 new news) (h0:news=[]):
  (Builtin.append_ (t::tx::ts).toArray ty #[.slice ad 0 0,xv]).run P w=.ok (.slice ad 0 0) w:=by
 subst h0;have h1:=hs.len w;have h2:(Builtin.firstCells i.size 0 xv).run P w=.ok ([]:List Value).toArray w:=hs.cells w (fun _ _=>rfl)
 have CH:(match d with | .int _=>true|_=>false)=false:=by cases d<;>first|rfl|exact absurd rfl (hd _)
 cases ad<;>simp[Builtin.append_,run_underlying ht,run_underlying htx,CH,sizeOf,typeInfo,hi,h1,h2,storeCells]
end
open Go.RowKit
section
variable {R:Type} {r:R} {P:Program} {N:Nat} {w0:World} {X0:Hg} {Y:Nat->Prop} {β β':Bt} {s:St} {a:Act} {w w':World} {o:Oper} {A:Nat->Prop}
theorem Aef {b j:Nat}(h:j<bsz w b):(w.cell? ⟨b,j,none⟩).isSome=true:=by
 unfold bsz at h;unfold World.cell?;split at h
 ·rename_i c e fz hb;simp[hb,h]
 ·omega
theorem VR {id d:Nat}{c cells:List PV}{bo:Option (Nat × Nat)} (h0:s.hp id=some (.ar false c)) (hd:s.hp d=none)
  (MI:∀k x,bo=some (k,x)->w.heap.size<=k∨∃y,β id=some (k,y)):
  ∀k,k<w.heap.size->C7 (Cn (Cn s.hp id (some .mv)) d (some (.ar false cells))) (Cn β d bo) Y k->C7 s.hp β Y k:=by
 rintro k hk (⟨i,x,hl,hβ⟩|hY)
 ·by_cases e':i=d
  ·subst e';rw[Am] at hβ;rcases MI k x hβ with h|⟨y,hy⟩
   ·omega
   ·exact .inl ⟨id,y,by rw[h0];trivial,hy⟩
  ·rw[Aj _ _ e'] at hl hβ;by_cases e:i=id
   ·subst e;rw[Am] at hl;exact hl.elim
   ·rw[Aj _ _ e] at hl;exact .inl ⟨i,x,hl,hβ⟩
 ·exact .inr hY
theorem DI {pre new:List PV}{olds news:List Value}{zs:Array Value}{e:TypeId}{A':Nat->Prop}(hg:F2 w w' (olds.toArray++news.toArray++zs) e) (hA:∀b,b<w.heap.size->A' b->A b)
  (h1:Be (Aw w A) pre olds) (h2:Be (Aw w A) new news) (ho:∀u∈olds,u.oneCell'=true)(hn:∀u∈news,u.oneCell'=true):SL w' A' ⟨w.heap.size,0,none⟩ (pre++new):=by
 refine XN hg hA fun j p hj=>?_
 obtain⟨v,hv,ht⟩:=(h1.app h2).get hj;refine⟨v,?_,?_,ht⟩
 ·have B7:j<(olds++news).length:=by
   rcases Nat.lt_or_ge j (olds++news).length with h|h
   ·exact h
   ·rw[List.getElem?_eq_none h] at hv;cases hv
  rw[Array.getElem?_append_left (by simpa using B7)]
  simpa using hv
 ·rcases List.mem_append.1 (List.mem_of_getElem? hv) with hm|hm
  ·exact ho v hm
  ·exact hn v hm
theorem NE (h:Cr N w0 X0 Y β s a w){c:Call}(ho:o.op=.call c)(hc:c.callee=.builtin .append)(hnb:Vh c=true){d:Nat}(Aas:o.dst=some d){b x:Operand}(Ey:c.args.toList=[b,x]) {t tx:TypeId}{ts:List TypeId}(Z1:c.argTypes.toList=t::tx::ts)
  {K:PV->List (Nat × Bo)->Option R} (hk:Sm P (Ic s.hp) d t tx (Bz s.tm x) K=some r):∃v nw,K v nw=some r∧D4 P a w o Y β s v [] nw:=by
 have hb:b=.const (.slice none 0 0):=by
  unfold Vh at hnb;rw[Ey] at hnb;split at hnb
  ·rename_i e;injection e
  ·cases hnb
 have DX:c.args = #[b,x]:=by
  have:c.args=([b,x]:List Operand).toArray:=by rw[←Ey]
  exact this
 have PT:c.argTypes=(t::tx::ts).toArray:=by rw[←Z1]
 have Ny:a.eval b=.slice none 0 0:=by rw[hb];rfl
 have run:∀{v:Value} {w1:World},(Builtin.append_ (t::tx::ts).toArray o.type #[a.eval b,a.eval x]).run P w=.ok v w1->(execOp a.eval o).run P w=.ok (.value v) w1:=by
  intro v w1 hr;unfold execOp;rw[ho];simp only[resolve,hc,invoke,builtin,Sem.run_bind,Sem.run_pure,Result.andThen_ok,DX,PT];have:(#[b,x]:Array Operand).map a.eval = #[a.eval b,a.eval x]:=by simp
  rw[this,hr];rfl
 unfold Sm at hk;split at hk
 ·rename_i e hu;obtain⟨hzi,hk⟩:=Al hk;obtain⟨i,z,hi,hz,hzs,M3⟩:=CC hzi;have Rl:((P.info? e).map (·.bytes)).getD 0=i.bytes:=by rw[hi];rfl
  obtain⟨⟨dx,hdx,PO⟩,m,new,news,hk,hs⟩:=BX (s:=s) h hk (fun m new Ky=>by
   obtain⟨hb,_⟩:=Al Ky;simp only[Bool.and_eq_true,decide_eq_true_eq] at hb;exact hb.1.1)
  obtain⟨Hf,hk⟩:=Al hk;simp only[Bool.and_eq_true,decide_eq_true_eq] at Hf;obtain⟨⟨XK,YW⟩,GM⟩:=Hf;have hnl:new.length=news.length:=hs.rep.len;rw[M3] at XK hk hs;rw[Rl] at YW;have Y2:news.length=m*i.size:=by omega
  refine⟨_,_,hk,by simp,?_⟩
  by_cases hm0:m=0
  ·subst hm0;have hr:=K2 (P:=P) (w:=w) (t:=t) (tx:=tx) (ty:=o.type) (ts:=ts) (ad:=none) hu hdx PO hi hs (List.eq_nil_of_length_eq_zero (by omega))
   rw[←Ny] at hr;have RR:new=[]:=List.eq_nil_of_length_eq_zero (by omega)
   subst RR;refine⟨_,_,run hr,fun Aha=>⟨Cn β d none,?_⟩⟩
   have S4:s.hp d=none:=(Bk Aha).1 d _ (List.mem_singleton_self _);rw[Ny];refine⟨rfl,rfl,rfl,B8.refl _ _,fun j hj=>Aj _ _ (by rintro rfl;exact hj S4),?_,?_,?_,?_,?_,.inl ⟨Am _ _ _,rfl,rfl,none,rfl⟩,?_⟩
   ·intro j bx hm;simp at hm;rw[hm.2];trivial
   ·intro j bx hm;simp at hm;obtain⟨rfl,rfl⟩:=hm;exact .inl ⟨Am _ _ _,rfl⟩
   ·intro j bx k q hm hq;simp at hm;obtain⟨rfl,rfl⟩:=hm;rw[Am] at hq;cases hq
   ·intro j bx j' bx' k q q' hm I6 _ _;simp at hm I6;rw[hm.1,I6.1]
   ·intro j cells hm;simp at hm
   ·intro j hj;simp[Bs,Ca,Ap] at hj;subst hj;exact .inr ⟨.ar false [],by simp⟩
  ·have hr:=K4 (P:=P) (w:=w) (t:=t) (tx:=tx) (ty:=o.type) (ts:=ts) (ad:=none) (n:=0) (cap:=0) (olds:=[]) hu hdx PO hi hz hs (.inl ⟨rfl,rfl⟩) (by omega) (by rw[Nat.zero_add];exact YW) (by omega)
   rw[←Ny] at hr;refine⟨_,_,run hr,fun Aha=>⟨Cn β d (some (w.heap.size,0)),?_⟩⟩
   have S4:s.hp d=none:=(Bk Aha).1 d _ (List.mem_singleton_self _);have hge:0+m<=grownCap w (0+m) 0 e:=grownCap_ge w (0+m) 0 e
   have Tq:F2 w (w.drew.alloc (.cells (([]:List Value).toArray++news.toArray++Builtin.zeroCells z.cells (grownCap w (0+m) 0 e-(0+m))) e)) (([]:List Value).toArray++news.toArray++Builtin.zeroCells z.cells (grownCap w (0+m) 0 e-(0+m))) e:=
    ⟨rfl,rfl,rfl,fun k hk=>Below.heap_alloc w.drew _ k hk,by show (w.heap.push _).size=_;simp,(0,0),by show (w.heap.push _)[w.heap.size]?=_;simp,.inl rfl⟩
   have SZ:(([]:List Value).toArray++news.toArray++Builtin.zeroCells z.cells (grownCap w (0+m) 0 e-(0+m))).size=grownCap w (0+m) 0 e*i.size:=by
    simp only[Array.size_append,List.size_toArray,size_zeroCells,hzs,Y2,List.length_nil,←Nat.add_mul];rw[Nat.zero_add (m*i.size),←Nat.add_mul]
    congr 1
    omega
   refine O6 (s:=⟨s.tm,Ag s.hp []⟩) Tq S4 trivial ?_ (fun cells hx=>by cases hx) ?_ (by intro j hj;simp[Bs,Ca,Ap] at hj;exact .inr hj)
   ·refine .inr ⟨w.heap.size,0,Am _ _ _,?_,fun _ j _ hj=>?_,(fun q=>by cases q)⟩
    ·exact DI (pre:=[]) Tq (XG (s:=⟨s.tm,Ag s.hp []⟩) S4) trivial hs.rep (by simp) hs.one
    ·rw[Tq.bsz] at hj;exact Tq.frozen hj
   ·refine .inr ⟨w.heap.size,0,0,grownCap w (0+m) 0 e,Am _ _ _,by rw[Nat.zero_add],.inl rfl,by omega,?_,by rw[Tq.size];omega⟩
    exact⟨by rw[Tq.bsz,SZ];omega,.inr (Js w.drew _ e)⟩
 ·cases hk
theorem PX {lo hi:Option Operand}{y3:Operand}{k3:IntKind}{len cap l u m:Nat}(hl:(lo=none∧l=0)∨∃y k,lo=some y∧a.eval y=.int k (l:Int))
  (hu:∃y k,hi=some y∧a.eval y=.int k (u:Int)) (hm:a.eval y3=.int k3 (m:Int)) (h1:l<=u)(h2:u<=m)(h3:m<=cap):
  (Instr.sliceBounds true len cap (lo.map a.eval) (hi.map a.eval) (some (a.eval y3))).run P w=.ok (l,u,m) w:=by
 obtain⟨y,k,rfl,hy⟩:=hu;rcases hl with⟨rfl,rfl⟩|⟨y',k',rfl,hy'⟩
 ·simp[Instr.sliceBounds,Instr.sliceBound,asIntOf,hy,hm,h2,h3]
 ·simp[Instr.sliceBounds,Instr.sliceBound,asIntOf,hy,hy',hm,h1,h2,h3]
theorem LQ (h:Cr N w0 X0 Y β s a w){t:TypeId}{x m:Operand}{lo hi:Option Operand}(ho:o.op=.slice t x lo hi (some m)) {d:Nat}{K:PV->List (Nat × Bo)->Option R}
  (hk:Sg P d t (Bz s.tm x) (lo.map (Bz s.tm)) (hi.map (Bz s.tm)) (some (Bz s.tm m)) K=some r):∃v nw,K v nw=some r∧D4 P a w o Y β s v [] nw:=by
 have hx:=Cv h x;unfold Sg at hk;split at hk
 ·rename_i e hu;obtain⟨hb,hk⟩:=Al hk;simp only[Bool.and_eq_true] at hb;obtain⟨N3,hhi⟩:=hb
  obtain⟨yh,rfl⟩:∃y,hi=some y:=by
   cases hi with
   |none=>simp at hhi
   |some y=>exact⟨y,rfl⟩
  have fin:∀{ad:Option Addr} {n cap l u q:Nat},a.eval x=.slice ad n cap->n<=cap->((lo=none∧l=0)∨∃y k,lo=some y∧a.eval y=.int k (l:Int))->((some yh=none∧u=n)∨∃y k,some yh=some y∧a.eval y=.int k (u:Int))->(((some m:Option Operand)=none∧q=n)∨∃y k,(some m:Option Operand)=some y∧a.eval y=.int k (q:Int)) ->
    (Nat.beq l q&&Nat.beq u q&&decide (q<=n))=true->D4 P a w o Y β s (.view d (Bb P e) 0 0) [] [(d,.ar false [])]:=by
   intro ad n cap l u q Db hn hl H9 hq hb;simp only[Bool.and_eq_true,decide_eq_true_eq] at hb;obtain⟨⟨b1,b2⟩,b3⟩:=hb;have b1:=Nat.eq_of_beq_eq_true b1;have b2:=Nat.eq_of_beq_eq_true b2;subst b1 b2
   have hu2:∃y k,(some yh:Option Operand)=some y∧a.eval y=.int k (u:Int):=by
    rcases H9 with⟨e,_⟩|e
    ·cases e
    ·exact e
   obtain⟨k3,hm3⟩:∃k,a.eval m=.int k (u:Int):=by
    rcases hq with⟨e,_⟩|⟨y,k,e,q⟩
    ·cases e
    ·cases e;exact⟨k,q⟩
   have NH:=PX (P:=P) (w:=w) (len:=n) (cap:=cap) hl hu2 hm3 (Nat.le_refl _) (Nat.le_refl _) (by omega)
   have Cm:∃ad',(execOp a.eval o).run P w=.ok (.value (.slice ad' 0 0)) w:=by
    unfold execOp;rw[ho];cases ad with
    |none=>exact⟨none,by simp[Instr.sliceAt,Instr.slice,run_underlying hu,Db,NH,Cp N3] at NH ⊢⟩
    |some p=>exact⟨some p,by simp[Instr.sliceAt,Instr.slice,run_underlying hu,Db,NH,Cp N3] at NH ⊢⟩
   obtain⟨ad',Cm⟩:=Cm;refine⟨by simp,_,_,Cm,fun Aha=>⟨Cn β d none,?_⟩⟩
   have S4:s.hp d=none:=(Bk Aha).1 d _ (List.mem_singleton_self _);refine⟨rfl,rfl,rfl,B8.refl _ _,fun j hj=>Aj _ _ (by rintro rfl;exact hj S4),?_,?_,?_,?_,?_,.inl ⟨Am _ _ _,rfl,rfl,ad',rfl⟩,?_⟩
   ·intro j bx hm;simp at hm;rw[hm.2];trivial
   ·intro j bx hm;simp at hm;obtain⟨rfl,rfl⟩:=hm;exact .inl ⟨Am _ _ _,rfl⟩
   ·intro j bx k q hm hq;simp at hm;obtain⟨rfl,rfl⟩:=hm;rw[Am] at hq;cases hq
   ·intro j bx j' bx' k q q' hm I6 _ _;simp at hm I6;rw[hm.1,I6.1]
   ·intro j cells hm;simp at hm
   ·intro j hj;simp[Bs,Ca,Ap] at hj;subst hj;exact .inr ⟨.ar false [],by simp⟩
  split at hk
  ·rename_i id es off n e';rw[e'] at hx;obtain⟨S0,hk⟩:=Al hk;obtain⟨l,hk,hl⟩:=Du h hk;obtain⟨u,hk,H9⟩:=Du h hk;obtain⟨q,hk,hq⟩:=Du (x:=some m) h hk;obtain⟨hb,hk⟩:=Al hk;refine⟨_,_,hk,?_⟩;rcases hx with⟨hβ,_,rfl,ad,Db⟩|⟨b,ob,y,cap,hβ,Db,hy,hn,T8,B7⟩
   ·exact fin Db (Nat.le_refl _) hl H9 hq hb
   ·exact fin Db hn hl H9 hq hb
  ·obtain⟨z,n,c,hk,hp⟩:=E6 hk;obtain⟨l,hk,hl⟩:=Du h hk;obtain⟨u,hk,H9⟩:=Du h hk;obtain⟨q,hk,hq⟩:=Du (x:=some m) h hk;obtain⟨hb,hk⟩:=Al hk;refine⟨_,_,hk,?_⟩;rcases F7 hp hx with⟨Db,rfl,rfl⟩|⟨ad,cap,Db,_,hn,_⟩|⟨ad,cap,Db,_,rfl,rfl⟩
   ·exact fin Db (Nat.le_refl _) hl H9 hq hb
   ·exact fin Db hn hl H9 hq hb
   ·exact fin Db (Nat.zero_le _) hl H9 hq hb
 ·cases hk
end
open Go.RowKit
section
variable {R:Type} {r:R} {P:Program} {N:Nat} {w0:World} {X0:Hg} {Y:Nat->Prop} {β β':Bt} {s:St} {a:Act} {w w':World} {o:Oper} {A:Nat->Prop}
theorem Adb (h:Cr N w0 X0 Y β s a w){G:Ur}(J0:PF P G w0 X0){C:Gl}{call:An}(Dq:∀f args res,call f args=some res->Df G P f args res){K:PV->List Nat->List (Nat × Bo)->Option R}
  (hk:CS C P N call s.tm (rd s.hp) (Ic s.hp) o K=some r):∃v fz nw,K v fz nw=some r∧DR P a w o Y β s v fz nw:=by
 have one:∀{K':PV->Option R},(∀v,K' v=some r->K v [] []=some r)->(∃v,K' v=some r∧D4 P a w o Y β s v [] [])->∃v fz nw,K v fz nw=some r∧DR P a w o Y β s v fz nw:=
  fun hK ⟨v,h1,h2⟩=>⟨v,[],[],hK v h1,CV h2⟩
 have many:(∃v fz nw,K v fz nw=some r∧D4 P a w o Y β s v fz nw)->∃v fz nw,K v fz nw=some r∧DR P a w o Y β s v fz nw:=
  fun ⟨v,fz,nw,h1,h2⟩=>⟨v,fz,nw,h1,CV h2⟩
 unfold CS at hk;split at hk
 ·rename_i x ho;exact one (fun _ h=>h) (Vk (K:=fun p=>K p [] []) h (Aaq ho) hk)
 ·rename_i x ho;exact one (fun _ h=>h) (Vk (K:=fun p=>K p [] []) h (OM ho) hk)
 ·rename_i c x y ho;exact one (fun _ h=>h) (VQ (K:=fun p=>K p [] []) h ho hk)
 ·rename_i t ho;obtain⟨d,hd,hk⟩:=B9 hk;exact many (RY ho hk)
 ·rename_i t x ho;obtain⟨d,hd,hk⟩:=B9 hk;exact many (Ab6 h ho hk)
 ·rename_i t ps ho;exact one (fun _ h=>h) (OI (K:=fun p=>K p [] []) h ho hk)
 ·rename_i t n ps ho;obtain⟨d,hd,hk⟩:=B9 hk;exact many (Yg h ho hk)
 ·rename_i t x ho;exact one (fun _ h=>h) (UT (K:=fun p=>K p [] []) h ho hk)
 ·rename_i x ho;exact one (fun _ h=>h) (CJ (K:=fun p=>K p [] []) h ho hk)
 ·rename_i op t x y ty ho;exact one (fun _ h=>h) (PG (K:=fun p=>K p [] []) h ho hk)
 ·rename_i op t x ho;exact one (fun _ h=>h) (VG (K:=fun p=>K p [] []) h ho hk)
 ·rename_i src dst x ho;obtain⟨v,nw,hk,hg⟩:=UQ h ho hk;obtain⟨d,hd,hk⟩:=B9 hk;exact⟨v,[],nw,hk,CV hg⟩
 ·rename_i t x y ho;obtain⟨d,hd,hk⟩:=B9 hk;exact many (TO h ho hk)
 ·rename_i t x lo hi mx ho;split at hk
  ·exact one (fun _ h=>h) (QR (K:=fun p=>K p [] []) h ho hk)
  ·obtain⟨d,hd,hk⟩:=B9 hk;obtain⟨v,nw,h1,h2⟩:=LQ h ho hk;exact⟨v,[],nw,h1,CV h2⟩
 ·rename_i t x f ho;exact one (fun _ h=>h) (AG (K:=fun p=>K p [] []) h ho hk)
 ·rename_i t x f ho;exact one (fun _ h=>h) (SA (K:=fun p=>K p [] []) h ho hk)
 ·rename_i t x i ho;exact one (fun _ h=>h) (Zt (K:=fun p=>K p [] []) h ho hk)
 ·rename_i t x i ho;exact one (fun _ h=>h) (PS (K:=fun p=>K p [] []) h ho hk)
 ·rename_i t x k ok ho;exact one (fun _ h=>h) (LS (K:=fun p=>K p [] []) h ho hk)
 ·rename_i x i ho;exact one (fun _ h=>h) (HB (K:=fun p=>K p [] []) h ho hk)
 ·rename_i c ho;split at hk
  ·rename_i hc;exact one (fun _ h=>h) (Abi (K:=fun p=>K p [] []) h ho hc hk)
  ·rename_i hc;exact one (fun _ h=>h) (Abd (K:=fun p=>K p [] []) h ho hc hk)
  ·rename_i hc;exact one (fun _ h=>h) (Aat (K:=fun p=>K p [] []) h ho hc hk)
  ·rename_i hc;exact one (fun _ h=>h) (Abs (K:=fun p=>K p [] []) h ho hc hk)
  ·rename_i hc;obtain⟨hnb,hk⟩:=Al hk;obtain⟨d,hd,Ds⟩:=B9 hk;obtain⟨b,xs,GD,Ef⟩:=A8 Ds;obtain⟨x,ys,hys,Kv⟩:=A8 Ef;obtain⟨Xh,Sf⟩:=Dj Kv;obtain⟨t,us,hus,UL⟩:=A8 Sf;obtain⟨tx,vs,Qx,hk6⟩:=A8 UL;rw[hys,Xh] at GD;rw[Qx] at hus;obtain⟨v,nw,h1,h2⟩:=NE h ho hc hnb hd GD hus hk6;exact⟨v,[],nw,h1,CV h2⟩
  ·rename_i f hc;exact BL h J0 Dq (fun hf hb=>PY ho hc J0.ng hf hb) hk
  ·rename_i t hc;obtain⟨f,hf0,Ds⟩:=Ajs hk;have ht:a.eval (.tmp t)=.func (.func f) #[] #[]:=B6 h (x:=.tmp t) hf0;exact BL h J0 Dq (fun hf hb=>Aap ho hc ht J0.ng hf hb) Ds
  ·cases hk
 ·cases hk
theorem UU (h:Cr N w0 X0 Y β s a w){G:Ur}(J0:PF P G w0 X0){C:Gl}{call:An}(Dq:∀f args res,call f args=some res->Df G P f args res){K:St->Option R}
  (hk:(CS C P N call s.tm (rd s.hp) (Ic s.hp) o fun v fz nw=>Xb N s o.dst v fz nw K)=some r):
  ∃s',K s'=some r∧∀(next:Act->World->Prop) (Q:Exit->Act->World->Prop),(∀a' w' β',Cr N w0 X0 Y β' s' a' w'->next a' w')->o.wp P a w next Q:=by
 obtain⟨v,fz,nw,hk,Xl,hg⟩:=Adb h J0 Dq hk;unfold Xb at hk;obtain⟨hb,hk⟩:=Al hk;simp only[Bool.and_eq_true] at hb;refine⟨_,hk,fun next Q hn=>hg next Q fun val w' Ft=>?_⟩
 obtain⟨β',st⟩:=Ft hb.2
 have Ny:Bq (Ag s.hp fz) nw=true:=by
  have:∀nw,Bq s.hp nw=true->Bq (Ag s.hp fz) nw=true:=by
   intro nw
   induction nw with
   |nil=>intro _;rfl
   |cons q nw ih=>
    obtain⟨i,b⟩:=q;intro hq;simp only[Bq,Bool.and_eq_true,Option.isNone_iff_eq_none] at hq ⊢;exact⟨⟨Dx.2 hq.1.1,hq.1.2⟩,ih hq.2⟩
  exact this nw hb.2
 exact hn _ _ β' ((h.freeze Xl).stepR hb.1 Ny st)
end
open Go.RowKit
section
variable {R:Type} {r:R} {P:Program} {N:Nat} {w0:World} {X0:Hg} {Y:Nat->Prop} {β β':Bt} {s:St} {a:Act} {w w':World} {o:Oper} {A:Nat->Prop}
structure Dp (b:Nat) (w w':World):Prop where
 os:w'.os=w.os
 tape:w'.tape=w.tape
 output:w'.output=w.output
 size:w'.heap.size=w.heap.size
 other:∀k,k≠b->w'.heap[k]?=w.heap[k]?
 bs:bsz w' b=bsz w b
 frz:∀j,w'.frozen? ⟨b,j,none⟩=w.frozen? ⟨b,j,none⟩
theorem Dp.grow {b:Nat}(h:Dp b w w')(k:Nat):Gn w w' k:=by
 by_cases e:k=b
 ·subst e;refine⟨by rw[h.bs];exact Nat.le_refl _,fun q=>?_⟩
  unfold OP at q ⊢;rw[h.bs,h.frz];exact q
 ·exact Gn.same (h.other k e)
theorem Dp.refl (b:Nat)(w:World):Dp b w w:=⟨rfl,rfl,rfl,rfl,fun _ _=>rfl,rfl,fun _=>rfl⟩
theorem Dp.setCell (b j:Nat)(v:Value)(w:World):Dp b w (w.setCell ⟨b,j,none⟩ v):=by
 refine⟨rfl,rfl,rfl,by simp[World.setCell],fun k hk=>Below.heap_setCell w ⟨b,j,none⟩ v k hk,?_,fun i=>?_⟩
 ·simp only[bsz,World.setCell,Array.getElem?_modify];simp only[if_true];cases h:w.heap[b]? with
  |none=>simp
  |some x=>cases x<;>simp
 ·simp only[World.frozen?,World.setCell,Array.getElem?_modify,if_true];cases h:w.heap[b]? with
  |none=>simp
  |some x=>cases x<;>simp
theorem Dp.trans {b:Nat}{w'':World}(h:Dp b w w')(h':Dp b w' w''):Dp b w w'':=
 ⟨h'.os.trans h.os,h'.tape.trans h.tape,h'.output.trans h.output,h'.size.trans h.size,fun k hk=>(h'.other k hk).trans (h.other k hk),h'.bs.trans h.bs,fun j=>(h'.frz j).trans (h.frz j)⟩
theorem Dp.setCells (b:Nat):∀(vs:List Value)(j:Nat)(w:World),Dp b w (w.setCells b j vs)
 |[],_,w=>Dp.refl b w
 |v::vs,j,w=>(Dp.setCell b j v w).trans (Dp.setCells b vs (j+1) _)
theorem At5 {hp:Nat->Option Bo}{id:Nat}{bx bx':Bo}(h0:hp id=some bx)(hl:C8 (some bx)) (Je:C8 (some bx')) (b:Nat):LW (Cn hp id (some bx')) β b↔LW hp β b:=by
 constructor
 ·rintro⟨i,o,h1,h2⟩
  by_cases e:i=id
  ·subst e;exact⟨i,o,by rw[h0];exact hl,h2⟩
  ·rw[Aj _ _ e] at h1;exact⟨i,o,h1,h2⟩
 ·rintro⟨i,o,h1,h2⟩
  by_cases e:i=id
  ·subst e;exact⟨i,o,by rw[Am];exact Je,h2⟩
  ·exact⟨i,o,by rw[Aj _ _ e];exact h1,h2⟩
theorem Cr.write (h:Cr N w0 X0 Y β s a w){id b ob:Nat}{bx bx':Bo}(h0:s.hp id=some bx)(hl:C8 (some bx)) (Je:C8 (some bx')) (hβ:β id=some (b,ob)) (hw:Dp b w w')
  (Ku:Pr w' (C7 s.hp β Y) β id bx') (hr:∀cells,bx'=.st cells->∀c∈cells,∀i∈Ap c,s.hp i≠none)
  (hK:∀c',bx'=.st c'->∃c,bx=.st c)(hR:∀j,BR bx' ob j->BR bx ob j)(hO:∀j,¬BR bx ob j->w'.cell? ⟨b,j,none⟩=w.cell? ⟨b,j,none⟩):Cr N w0 X0 Y β ⟨s.tm,Cn s.hp id (some bx')⟩ a w':=by
 have hX:=At5 (β:=β) h0 hl Je;have hA:∀k,C7 (Cn s.hp id (some bx')) β Y k↔C7 s.hp β Y k:=fun k=>⟨fun x=>x.imp (hX k).1 (fun y=>y),fun x=>x.imp (hX k).2 (fun y=>y)⟩
 have hAb:C7 s.hp β Y b:=.inl ⟨id,ob,by rw[h0];exact hl,hβ⟩
 have Ft:B8 (C7 s.hp β Y) w w':=⟨by rw[hw.size];exact Nat.le_refl _,fun k _ hk=>hw.other k (fun e=>hk (e ▸ hAb)),fun k _=>hw.grow k⟩
 have Pe:∀i,Cn s.hp id (some bx') i≠none↔s.hp i≠none:=by
  intro i;by_cases e:i=id
  ·subst e;rw[Am,h0];simp
  ·rw[Aj _ _ e]
 have hAe:C7 (Cn s.hp id (some bx')) β Y=C7 s.hp β Y:=funext fun k=>propext (hA k)
 have Vp:∀i,C8 (Cn s.hp id (some bx') i)->C8 (s.hp i):=by
  intro i hi;by_cases e:i=id
  ·subst e;rw[h0];exact hl
  ·rw[Aj _ _ e] at hi;exact hi
 refine⟨h.dfr,h.tsz,h.tmo,fun i hi=>?_,fun i bi hb=>?_,fun i i' k x y h1 h2=>h.inj i i' k x y (Vp i h1) (Vp i' h2),fun i k x hi hk=>?_,fun i hi j hj=>(Pe j).2 (h.wfT i hi j hj),
  fun i cells hc c QP j hj=>(Pe j).2 ?_,fun k hk=>h.ownd k ((hX k).1 hk),fun i bi k x AA hli hk B7 j hj=>?_,fun i hi=>⟨(Pe _).2 (h.pin i hi).1,(h.pin i hi).2⟩,fun i c k x hc hk B7=>?_,fun k hk x=>h.Yx k hk ((hX k).1 x),h.Ylt,?_⟩
 ·rw[hAe];exact (h.tms i hi).step Ft (fun _ _ x=>x) (fun _ _=>rfl)
 ·rw[hAe];simp only at hb;by_cases e:i=id
  ·subst e;rw[Am] at hb;cases hb;exact Ku
  ·rw[Aj _ _ e] at hb;have AA:=h.box i bi hb;cases bi with
   |st c=>
    obtain⟨k,x,h1,h2,h3⟩:=AA
    have hk:k≠b:=by
     rintro rfl
     exact e (h.inj i id k x ob (by rw[hb];trivial) (by rw[h0];exact hl) h1 hβ)
    refine⟨k,x,h1,fun j c hj=>?_,fun j hj=>?_⟩
    ·obtain⟨v,hv,hc⟩:=h2 j c hj;exact⟨v,by rw[World.cell?_of_block (w:=w) (hw.other k hk)];exact hv,hc.step Ft (fun _ _ x=>x) (fun _ _=>rfl)⟩
    ·rw[World.frozen?_of_block (w:=w) (hw.other k hk)];exact h3 j hj
   |ar fz c=>
    rcases AA with hn|⟨k,x,h1,h2,h3,h4⟩
    ·exact .inl hn
    ·have hk:k≠b:=by
      rintro rfl
      cases fz with
      |true=>exact h4 rfl hAb
      |false=>exact e (h.inj i id k x ob (by rw[hb];trivial) (by rw[h0];exact hl) h1 hβ)
     refine .inr ⟨k,x,h1,fun j c hj=>?_,fun ef j hj Q4=>?_,h4⟩
     ·obtain⟨v,hv,h5,hc⟩:=h2 j c hj;exact⟨v,by rw[World.cell?_of_block (w:=w) (by rw[Em];exact hw.other k hk)];exact hv,h5,hc.step Ft (fun _ _ x=>x)⟩
     ·rw[World.frozen?_of_block (w:=w) (hw.other k hk)];refine h3 ef j hj ?_;unfold bsz at Q4 ⊢;rw[hw.other k hk] at Q4;exact Q4
   |mv=>trivial
 ·rw[hw.size];exact h.blt i k x ((Pe i).1 hi) hk
 ·simp only at hc;by_cases e:i=id
  ·subst e;rw[Am] at hc;injection hc with hc;exact hr cells hc c QP j hj
  ·rw[Aj _ _ e] at hc;exact h.wfB i cells hc c QP j hj
 ·simp only at AA;by_cases e:i=id
  ·subst e;rw[Am] at AA;cases AA;rw[hβ] at hk;cases hk;exact h.rngB i bx b ob h0 hl hβ B7 j (hR j hj)
  ·rw[Aj _ _ e] at AA;exact h.rngB i bi k x AA hli hk B7 j hj
 ·simp only at hc;by_cases e:i=id
  ·subst e;rw[Am] at hc;injection hc with hc;obtain⟨c0,rfl⟩:=hK c hc;exact h.stp i c0 k x h0 hk B7
  ·rw[Aj _ _ e] at hc;exact h.stp i c k x hc hk B7
 ·refine⟨hw.os.trans h.fr.os,hw.tape.trans h.fr.tape,hw.output.trans h.fr.output,?_,fun k j hk hL=>?_⟩
  ·refine⟨by rw[hw.size];exact h.fr.step.size,fun k hk hnk=>?_,fun k hk=>(h.fr.step.bs k hk).trans (Ft.bs k (Nat.lt_of_lt_of_le hk h.fr.step.size))⟩
   rw[hw.other k ?_]
   ·exact h.fr.step.keep k hk hnk
   ·rintro rfl
    rcases h.ownd k ⟨id,ob,by rw[h0];exact hl,hβ⟩ with hx|hx
    ·exact hnk hx
    ·omega
  ·by_cases e:k=b
   ·subst e;rw[hO j (fun hj=>hL (h.rngB id bx k ob h0 hl hβ hk j hj)),hw.frz]
    exact h.fr.rng k j hk hL
   ·have hc:w'.cell? ⟨k,j,none⟩=w.cell? ⟨k,j,none⟩:=World.cell?_of_block (w:=w) (hw.other k e);have hf:w'.frozen? ⟨k,j,none⟩=w.frozen? ⟨k,j,none⟩:=World.frozen?_of_block (w:=w) (hw.other k e);rw[hc,hf];exact h.fr.rng k j hk hL
theorem Px {c cs:List PV}{off j:Nat}{p:PV}(Y0:off+cs.length<=c.length)(h:(Ce c cs off)[j]?=some p):
  (off<=j∧j<off+cs.length∧cs[j-off]?=some p)∨((j<off∨off+cs.length<=j)∧c[j]?=some p):=by
 unfold Ce at h;by_cases h1:j<off
 ·rw[List.append_assoc,List.getElem?_append_left (by simp;omega),List.getElem?_take_of_lt h1] at h
  exact .inr ⟨.inl h1,h⟩
 ·by_cases h2:j<off+cs.length
  ·rw[List.getElem?_append_left (by simp;omega),List.getElem?_append_right (by simp;omega)] at h
   simp only[List.length_take,Nat.min_eq_left (by omega:off<=c.length)] at h
   exact .inl ⟨by omega,h2,h⟩
  ·rw[List.getElem?_append_right (by simp;omega)] at h
   simp only[List.length_append,List.length_take,Nat.min_eq_left (by omega:off<=c.length),List.getElem?_drop] at h
   rw[show off+cs.length+(j-(off+cs.length))=j from by omega] at h
   exact .inr ⟨.inr (by omega),h⟩
theorem Qd {c cs:List PV}{off:Nat}(Y0:off+cs.length<=c.length):(Ce c cs off).length=c.length:=by
 simp[Ce];omega
theorem Za {t:TypeId}{b j:Nat}{v:Value}(M3:(P.info? t).map (·.size)=some v.cells.size) (hc:∀i,i<v.cells.toList.length->(w.cell? ⟨b,j+i,none⟩).isSome=true)
  (hf:∀i,i<v.cells.toList.length->w.frozen? ⟨b,j+i,none⟩=false)(h1:∀u∈v.cells.toList,u.oneCell'=true):(Instr.storeAt t (.pointer (some ⟨b,j,none⟩)) v).run P w=.ok () (w.setCells b j v.cells.toList):=by
 have:=run_storeCells_cells (P:=P) b j v.cells.toList 0 w (fun i hi=>by simpa using hc i hi) (fun i hi=>by simpa using hf i hi) h1
 simp only[Instr.storeAt,Instr.sureAddr,storeVar,Sem.run_bind,Sem.run_pure,Result.andThen_ok,Jx M3]
 simpa using this
theorem PC (h:Cr N w0 X0 Y β s a w){t:TypeId}{x y:Operand}(ho:o.op=.store t x y)(hd:o.dst=none){K:St->Option R}(hk:Xx P s t (Bz s.tm x) (Bz s.tm y) K=some r):
  ∃s',K s'=some r∧∀(next:Act->World->Prop) (Q:Exit->Act->World->Prop),(∀a' w' β',Cr N w0 X0 Y β' s' a' w'->next a' w')->o.wp P a w next Q:=by
 have hx:=Cv h x;have GF:=Ex h x
 have run:∀{b j:Nat},a.eval x=.pointer (some ⟨b,j,none⟩)->(Instr.storeAt t (.pointer (some ⟨b,j,none⟩)) (a.eval y)).run P w=.ok () (w.setCells b j (a.eval y).cells.toList) ->
   ∀(next:Act->World->Prop) (Q:Exit->Act->World->Prop),next a (w.setCells b j (a.eval y).cells.toList)->o.wp P a w next Q:=by
  intro b j Db hr next Q hn;unfold Oper.wp execOp;rw[ho];simp only[Sem.run_bind,Db,hr,Result.andThen_ok,Sem.run_pure];show next (a.put o.dst undef) _;rw[hd];exact hn
 unfold Xx at hk;split at hk
 ·rename_i id off e;rw[e] at hx GF;obtain⟨b,ob,hβ,Db⟩:=hx;split at hk
  ·rename_i c h0;obtain⟨hb,hk⟩:=Al hk;simp only[Bool.and_eq_true,decide_eq_true_eq] at hb;obtain⟨⟨hok,hl⟩,Y0⟩:=hb;have hl:=Nat.eq_of_beq_eq_true hl;obtain⟨cs,hk,I1,h2,h1,hr,_⟩:=XD (Cv h y) hl hk;obtain⟨_,Ao2,M3⟩:=Oh hok;have hvl:=h2.len;obtain⟨b',o',Er,Ho,Uf⟩:=h.box id _ h0;rw[hβ] at Er;simp at Er;obtain⟨rfl,rfl⟩:=Er
   have Cx:∀i,i<(a.eval y).cells.toList.length->(w.cell? ⟨b,ob+off+i,none⟩).isSome=true:=by
    intro i hi;obtain⟨v,hv,_⟩:=Ho (off+i) _ (List.getElem?_eq_getElem (by omega))
    rw[Nat.add_assoc,hv];rfl
   have Cm:=Za (P:=P) (t:=t) (w:=w) (b:=b) (j:=ob+off) (v:=a.eval y) (by rw[M3,←Ao2,←I1,hvl];simp) Cx (fun i hi=>by rw[Nat.add_assoc];exact Uf _ (by omega)) h1
   refine⟨_,hk,fun next Q hn=>run Db Cm next Q (hn _ _ β ?_)⟩
   refine h.write h0 trivial trivial hβ (Dp.setCells b _ _ w) ?_ ?_ (fun _ _=>⟨_,rfl⟩) (fun j hj=>by
    have hj:ob<=j∧j<ob+(Ce c cs off).length:=hj;rw[Qd (by omega)] at hj
    exact hj) (fun j hj=>by
    refine World.cell?_setCells_out b _ _ w ⟨b,j,none⟩ (fun _ _=>?_)
    have hj:¬(ob<=j∧j<ob+c.length):=hj;show j<ob+off∨ob+off+_<=j;omega)
   ·have Ft:B8 (C7 s.hp β Y) w (w.setCells b (ob+off) (a.eval y).cells.toList):=by
     have hw:=Dp.setCells b (a.eval y).cells.toList (ob+off) w;have hAb:C7 s.hp β Y b:=.inl ⟨id,ob,by rw[h0];trivial,hβ⟩
     exact⟨by rw[hw.size];exact Nat.le_refl _,fun k _ hk=>hw.other k (fun e=>hk (e ▸ hAb)),fun k _=>hw.grow k⟩
    refine⟨b,ob,hβ,fun j p hj=>?_,fun j hj=>?_⟩
    ·rcases Px (by omega) hj with⟨h3,h4,h5⟩|⟨h3,h5⟩
     ·obtain⟨u,hu,hcu⟩:=h2.get h5;have B7:j-off<(a.eval y).cells.toList.length:=by omega
      refine⟨u,?_,hcu.step Ft (fun _ _ x=>x) (fun _ _=>rfl)⟩
      have:=World.cell?_setCells_in b (a.eval y).cells.toList (ob+off) w Cx (j-off) B7;rw[show ob+j=ob+off+(j-off) from by omega,this]
      rw[List.getElem?_eq_getElem B7] at hu;exact hu
     ·obtain⟨v,hv,Ze⟩:=Ho j p h5;refine⟨v,?_,Ze.step Ft (fun _ _ x=>x) (fun _ _=>rfl)⟩
      rw[World.cell?_setCells_out b _ _ w ⟨b,ob+j,none⟩ (fun _ _=>by show ob+j<ob+off∨ob+off+_<=ob+j;omega)]
      exact hv
    ·rw[Qd (by omega)] at hj
     rw[(Dp.setCells b _ _ w).frz];exact Uf j hj
   ·intro cells hx c' Oo i hi;injection hx with hx;subst hx;unfold Ce at Oo;rcases List.mem_append.1 Oo with Oo|Oo
    ·rcases List.mem_append.1 Oo with Oo|Oo
     ·exact h.wfB id c h0 c' (List.mem_of_mem_take Oo) i hi
     ·exact Ex h y i (hr c' Oo i hi)
    ·exact h.wfB id c h0 c' (List.mem_of_mem_drop Oo) i hi
  ·rename_i c h0;obtain⟨hb,hk⟩:=Al hk;simp only[Bool.and_eq_true,decide_eq_true_eq] at hb;obtain⟨hok,Y0⟩:=hb;obtain⟨cs,m,hk,I1,Pm,hT,hF,hm,hv⟩:=Of h hk;obtain⟨GM,hk⟩:=Al hk
   have GM:id ∉ m:=by
    intro hi;have:m.any (Nat.beq id)=true:=List.any_eq_true.2 ⟨id,hi,Nat.beq_refl id⟩;rw[this] at GM;cases GM
   obtain⟨_,Ao2,M3⟩:=Oh hok
   have Alt:Be (B1 w (C7 s.hp β Y) β) (cellsOf (Bz s.tm y)) (a.eval y).cells.toList:=by
    have YC:=Cv h y;cases hp:Bz s.tm y with
    |agg ps=>
     rw[hp] at YC;obtain⟨vs,hay,h2⟩:=YC;rw[hay];exact h2
    |sc v=>
     rw[hp] at YC hF
     have Ahp:(a.eval y).oneCell'=true:=by
      have:=hv m (fun _ hi=>hi) hm [a.eval y] (by rw[hp];exact⟨YC,trivial⟩)
      exact this.2 _ (by simp)
     rw[L7 Ahp];exact⟨YC,trivial⟩
    |lst z es n cc=>
     rw[hp] at YC hF
     have Ahp:(a.eval y).oneCell'=true:=by
      have:=hv m (fun _ hi=>hi) hm [a.eval y] (by rw[hp];exact⟨YC,trivial⟩)
      exact this.2 _ (by simp)
     rw[L7 Ahp];exact⟨YC,trivial⟩
    |view i es oo n=>
     rw[hp] at YC hF
     have Ahp:(a.eval y).oneCell'=true:=by
      have:=hv m (fun _ hi=>hi) hm [a.eval y] (by rw[hp];exact⟨YC,trivial⟩)
      exact this.2 _ (by simp)
     rw[L7 Ahp];exact⟨YC,trivial⟩
    |own es n cc=>
     have hx0:=hF (Bz s.tm y) (by rw[hp];exact List.mem_singleton_self _)
     rw[hp] at hx0;exact hx0.elim
    |ptr i cc=>
     have hx0:=hF (Bz s.tm y) (by rw[hp];exact List.mem_singleton_self _)
     rw[hp] at hx0;exact hx0.elim
    |iptr i cc=>
     have hx0:=hF (Bz s.tm y) (by rw[hp];exact List.mem_singleton_self _)
     rw[hp] at hx0;exact hx0.elim
    |pbox cc=>
     have hx0:=hF (Bz s.tm y) (by rw[hp];exact List.mem_singleton_self _)
     rw[hp] at hx0;exact hx0.elim
    |tup cc=>
     have hx0:=hF (Bz s.tm y) (by rw[hp];exact List.mem_singleton_self _)
     rw[hp] at hx0;exact hx0.elim
    |ub=>
     have hx0:=hF (Bz s.tm y) (by rw[hp];exact List.mem_singleton_self _)
     rw[hp] at hx0;exact hx0.elim
    |top=>
     have hx0:=hF (Bz s.tm y) (by rw[hp];exact List.mem_singleton_self _)
     rw[hp] at hx0;exact hx0.elim
   obtain⟨h2,h1⟩:=hv m (fun _ hi=>hi) hm _ Alt
   have hvl:=h2.len;have hf:=h.freeze hm;have h0':Ag s.hp m id=some (.ar false c):=by rw[Bv,if_neg GM];exact h0
   rcases hf.box id _ h0' with⟨hn,_⟩|⟨b',o',Er,Ho,Uf,_⟩
   ·rw[hβ] at hn;cases hn
   rw[hβ] at Er;simp at Er;obtain⟨rfl,rfl⟩:=Er
   have Cx:∀i,i<(a.eval y).cells.toList.length->(w.cell? ⟨b,ob+off+i,none⟩).isSome=true:=by
    intro i hi;obtain⟨v,hv,_⟩:=Ho (off+i) _ (List.getElem?_eq_getElem (by omega))
    rw[Eh] at hv;rw[Nat.add_assoc,hv];rfl
   have Cm:=Za (P:=P) (t:=t) (w:=w) (b:=b) (j:=ob+off) (v:=a.eval y) (by rw[M3,←Ao2,←I1,hvl];simp) Cx (fun i hi=>by
    obtain⟨u,hu⟩:=Option.isSome_iff_exists.1 (Cx i hi);exact Uf rfl _ (by omega) (BI hu)) h1
   refine⟨_,hk,fun next Q hn=>run Db Cm next Q (hn _ _ β ?_)⟩
   refine hf.write h0' trivial trivial hβ (Dp.setCells b _ _ w) ?_ (fun cells hx=>by cases hx) (fun _ hx=>by cases hx) (fun j hj=>hj) (fun j hj=>by
    refine World.cell?_setCells_out b _ _ w ⟨b,j,none⟩ (fun _ _=>?_)
    have hj:¬(ob<=j):=hj;show j<ob+off∨ob+off+_<=j;omega)
   have Ft:B8 (C7 (Ag s.hp m) β Y) w (w.setCells b (ob+off) (a.eval y).cells.toList):=by
    have hw:=Dp.setCells b (a.eval y).cells.toList (ob+off) w;have hAb:C7 (Ag s.hp m) β Y b:=.inl ⟨id,ob,by rw[h0'];trivial,hβ⟩
    exact⟨by rw[hw.size];exact Nat.le_refl _,fun k _ hk=>hw.other k (fun e=>hk (e ▸ hAb)),fun k _=>hw.grow k⟩
   refine .inr ⟨b,ob,hβ,fun j p hj=>?_,fun _ j hj Q4=>?_,(fun x=>by cases x)⟩
   ·rw[Eh];rcases Px (by omega) hj with⟨h3,h4,h5⟩|⟨h3,h5⟩
    ·obtain⟨u,hu,hcu⟩:=h2.get h5;have B7:j-off<(a.eval y).cells.toList.length:=by omega
     refine⟨u,?_,h1 u (List.mem_of_getElem? hu),hcu.step Ft (fun _ _ x=>x)⟩
     have:=World.cell?_setCells_in b (a.eval y).cells.toList (ob+off) w Cx (j-off) B7;rw[show ob+j=ob+off+(j-off) from by omega,this]
     rw[List.getElem?_eq_getElem B7] at hu;exact hu
    ·obtain⟨v,hv,h6,Ze⟩:=Ho j p h5;rw[Eh] at hv;refine⟨v,?_,h6,Ze.step Ft (fun _ _ x=>x)⟩
     rw[World.cell?_setCells_out b _ _ w ⟨b,ob+j,none⟩ (fun _ _=>by show ob+j<ob+off∨ob+off+_<=ob+j;omega)]
     exact hv
   ·rw[(Dp.setCells b _ _ w).bs] at Q4;rw[(Dp.setCells b _ _ w).frz];exact Uf rfl j hj Q4
  ·cases hk
 ·cases hk
end
open Go.RowKit
theorem Hu:∀{l l':List Nat},Dy (l++l')=true->Dy l=true∧Dy l'=true∧∀i∈l,i ∉ l'
 |[],l',h=>⟨rfl,h,by simp⟩
 |a::l,l',h=>by
  simp only[List.cons_append,Dy,Bool.and_eq_true,Bool.not_eq_true'] at h;obtain⟨h1,h2⟩:=h;obtain⟨h3,h4,h5⟩:=Hu h2
  have hn:∀i∈l++l',a≠i:=by
   rintro i hi rfl
   have:(l++l').any (Nat.beq a)=true:=List.any_eq_true.2 ⟨a,hi,Nat.beq_refl a⟩;rw[this] at h1;cases h1
  refine⟨?_,h4,fun i hi=>?_⟩
  ·simp only[Dy,Bool.and_eq_true,Bool.not_eq_true',h3,and_true];rw[List.any_eq_false];intro i hi e;exact hn i (by simp[hi]) (Nat.eq_of_beq_eq_true e)
  ·rcases List.mem_cons.1 hi with rfl|hi
   ·exact fun hm=>hn i (by simp[hm]) rfl
   ·exact h5 i hi
def Gm (β:Bt)(q:Nat × Nat):Option (Nat × Nat):=(β q.1).map fun p=>(p.1,p.2+q.2)
theorem VM (β:Bt)(id:Nat):Gm β (id,0)=β id:=by
 unfold Gm;cases β id<;>rfl
section
variable {R:Type} {r:R} {P:Program} {N:Nat} {w0:World} {X0:Hg} {Y:Nat->Prop} {β β':Bt} {s:St} {a:Act} {w w':World} {o:Oper} {A:Nat->Prop}
theorem Ms {fz:List Nat}{b:Nat}(h:C7 (Ag s.hp fz) β Y b):C7 s.hp β Y b:=h.imp Pa id
theorem Afi (h:Cr N w0 X0 Y β s a w){mv:Bool}{t:CT}{p:PV}{K:PV->List Nat->List Nat->Option R}(hk:Ab8 mv s.hp t p K=some r):
  ∃c m q,K c m (Option.toList q)=some r∧isA c∧GQ p∧(∀id∈m,∃f cc,s.hp id=some (.ar f cc))∧(∀id,q=some id->∃cc,s.hp id=some (.ar false cc)) ∧
   ∀fz:List Nat,(∀id∈m,id∈fz)->(∀id∈fz,∃f cc,s.hp id=some (.ar f cc))->∀v,B1 w (C7 s.hp β Y) β p v->Fx w (C7 (Ag s.hp fz) β Y) (q.bind β) c v:=by
 have frz:∀{t:CT} {p:PV} {K:PV->List Nat->List Nat->Option R},(M8 (Ic s.hp) t p fun c m=>K c m [])=some r->∃c m q,K c m (Option.toList q)=some r∧isA c∧GQ p∧(∀id∈m,∃f cc,s.hp id=some (.ar f cc))∧(∀id,q=some id->∃cc,s.hp id=some (.ar false cc)) ∧
   ∀fz:List Nat,(∀id∈m,id∈fz)->(∀id∈fz,∃f cc,s.hp id=some (.ar f cc))->∀v,B1 w (C7 s.hp β Y) β p v->Fx w (C7 (Ag s.hp fz) β Y) (q.bind β) c v:=by
  intro t p K hk;obtain⟨c,m,hk,hT,hF,hm,hv⟩:=FH h hk;exact⟨c,m,none,hk,.inl hT,hF,hm,by simp,fun fz h1 h2 v hc=>Jf hT (hv fz h1 h2 v hc).1⟩
 have tree:∀{t:CT} {p:PV} {K:PV->List Nat->List Nat->Option R},(∀es,t ≠ .sl es)->(X7 t p fun c=>K c [] [])=some r->∃c m q,K c m (Option.toList q)=some r∧isA c∧GQ p∧(∀id∈m,∃f cc,s.hp id=some (.ar f cc))∧(∀id,q=some id->∃cc,s.hp id=some (.ar false cc)) ∧
   ∀fz:List Nat,(∀id∈m,id∈fz)->(∀id∈fz,∃f cc,s.hp id=some (.ar f cc))->∀v,B1 w (C7 s.hp β Y) β p v->Fx w (C7 (Ag s.hp fz) β Y) (q.bind β) c v:=by
  intro t p K Eo hk;obtain⟨c,hk,hT,FY,hv⟩:=Ly hk;exact⟨c,[],none,hk,.inl hT,Pu FY,by simp,by simp,fun fz h1 h2 v hc=>Jf hT ((hv w _ β v hc).1.step (B8.refl _ _) (fun b _ hb=>Ms hb))⟩
 unfold Ab8 at hk;cases t with
 |sl es=>
  dsimp only at hk;cases mv<;>simp only[cond_true,cond_false] at hk
  ·exact frz hk
  ·split at hk
   ·rename_i id es' off n;split at hk
    ·rename_i c h0;cases hb:(Nat.beq es' es&&Nat.beq off 0)<;>rw[hb] at hk<;>simp only[cond_true,cond_false] at hk
     ·exact frz hk
     ·simp only[Bool.and_eq_true] at hb;have he:=Nat.eq_of_beq_eq_true hb.1;have hof:=Nat.eq_of_beq_eq_true hb.2;subst he hof;obtain⟨hl,hk⟩:=Al hk;refine⟨_,[],some id,hk,.inr ⟨_,_,_,rfl⟩,trivial,by simp,fun i hi=>by cases hi;exact⟨c,h0⟩,fun fz h1 h2 v hc=>?_⟩
      rcases hc with⟨h3,_,rfl,h4⟩|⟨b,ob,x,cap,h3,h4,hx,h5,h6,h7⟩
      ·exact .inl ⟨h3,rfl,by simp,h4⟩
      ·have hx:x=ob:=by rcases hx with e|⟨_,e⟩<;>omega
       subst hx;rcases h.box id _ h0 with⟨h8,_⟩|⟨b',o',h8,h9,ZJ,_⟩
       ·rw[h3] at h8;cases h8
       ·rw[h3] at h8;cases h8;refine .inr ⟨b,x,cap,h3,h4,h5,h6,h7,fun j p hj=>?_,ZJ rfl⟩
        rw[List.getElem?_take] at hj;split at hj
        ·obtain⟨u,hu,h11,ht⟩:=h9 j p hj;exact⟨u,hu,h11,ht.step (B8.refl _ _) (fun b _ hb=>Ms hb)⟩
        ·cases hj
    ·exact frz hk
   ·obtain⟨z,n,c,hk,hp⟩:=E6 hk;have hpF:GQ p:=by rcases hp with e|⟨e,_⟩<;>(rw[e];trivial)
    cases z<;>simp only[cond_true,cond_false] at hk
    ·refine⟨_,[],none,hk,.inl trivial,hpF,by simp,by simp,fun fz h1 h2 v hc=>?_⟩
     exact Jf trivial ((Ut hp hc).step (B8.refl _ _) (fun b _ hb=>Ms hb))
    ·refine⟨_,[],none,hk,.inr ⟨_,_,_,rfl⟩,hpF,by simp,by simp,fun fz h1 h2 v hc=>.inl ⟨rfl,rfl,rfl,none,?_⟩⟩
     have:=Ut hp hc;cases this;rfl
 |int k=>exact tree (by simp) hk
 |bool=>exact tree (by simp) hk
 |str=>exact tree (by simp) hk
 |any=>exact tree (by simp) hk
theorem Sq (h:Cr N w0 X0 Y β s a w){mv:Bool}:∀{ts:List CT}{ps:List PV}{K:List PV->List Nat->List Nat->Option R},Yv mv s.hp ts ps K=some r ->
  ∃cs m x,∃q:Nat->Option Nat,K cs m x=some r∧cs.length=ts.length∧ps.length=ts.length∧(∀c∈cs,isA c)∧(∀p∈ps,GQ p)∧(∀id∈m,∃f cc,s.hp id=some (.ar f cc))∧(∀id∈x,∃cc,s.hp id=some (.ar false cc)) ∧
   (∀j id,q j=some id->id∈x)∧(Dy x=true->∀j j' id,q j=some id->q j'=some id->j=j') ∧
   ∀fz:List Nat,(∀id∈m,id∈fz)->(∀id∈fz,∃f cc,s.hp id=some (.ar f cc))->∀vs,Be (B1 w (C7 s.hp β Y) β) ps vs->∀(own:Bt) j0,(∀j,own (j0+j)=(q j).bind β)->Ek w (C7 (Ag s.hp fz) β Y) own j0 cs vs
 |[],[],K,hk=>⟨[],[],[],fun _=>none,hk,rfl,rfl,by simp,by simp,by simp,by simp,by simp,by simp,fun fz _ _ vs hv own j0 _=>by
   cases vs with
   |nil=>trivial
   |cons v vs=>exact hv.elim⟩
 |[],_::_,K,hk=>by cases hk
 |_::_,[],K,hk=>by cases hk
 |t::ts,p::ps,K,hk=>by
  unfold Yv at hk;obtain⟨c,m,q,hk,hA,hF,hm,hq,hv⟩:=Afi h hk;obtain⟨cs,ms,xs,qs,hk,hl,Je,hAs,hFs,BO,GD,hqx,hqi,Qx⟩:=Sq h hk;refine⟨c::cs,m++ms,q.toList++xs,fun j=>match j with|0=>q|j+1=>qs j,hk,by simp[hl],by simp[Je],?_,?_,?_,?_,?_,?_,?_⟩
  ·intro x hx;rcases List.mem_cons.1 hx with rfl|hx
   ·exact hA
   ·exact hAs x hx
  ·intro x hx;rcases List.mem_cons.1 hx with rfl|hx
   ·exact hF
   ·exact hFs x hx
  ·intro i hi;rcases List.mem_append.1 hi with hi|hi
   ·exact hm i hi
   ·exact BO i hi
  ·intro i hi;rcases List.mem_append.1 hi with hi|hi
   ·exact hq i (by simpa using hi)
   ·exact GD i hi
  ·intro j id hj;cases j with
   |zero=>exact List.mem_append.2 (.inl (by simpa using hj))
   |succ j=>exact List.mem_append.2 (.inr (hqx j id hj))
  ·intro hn j j' id hj Q4;obtain⟨_,h2,h3⟩:=Hu hn;cases j with
   |zero=>
    cases j' with
    |zero=>rfl
    |succ j'=>exact absurd (hqx j' id Q4) (h3 id (by simpa using hj))
   |succ j=>
    cases j' with
    |zero=>exact absurd (hqx j id hj) (h3 id (by simpa using Q4))
    |succ j'=>rw[hqi h2 j j' id hj Q4]
  ·intro fz h1 h2 vs h3 own j0 Fv;cases vs with
   |nil=>exact h3.elim
   |cons v vs=>
    refine⟨?_,Qx fz (fun i hi=>h1 i (by simp[hi])) h2 vs h3.2 own (j0+1) fun j=>?_⟩
    ·have:=Fv 0;rw[Nat.add_zero] at this;rw[this];exact hv fz (fun i hi=>h1 i (by simp[hi])) h2 v h3.1
    ·have:=Fv (j+1);rw[show j0+1+j=j0+(j+1) by omega]
     exact this
def LOk (hp:Nat->Option Bo)(q:Option (Nat × Nat)) (p:PV)(x:Gc):Prop:=
 match x with
 |.var id off cts ws=>p=.pbox ws∧q=some (id,off)∧cts.length=ws.length∧∃c,hp id=some (.st c)∧off+ws.length<=c.length
 |.row id=>(∃ps,p=.tup ps)∧q=some (id,0)∧∃c,hp id=some (.ar false c)
 |.none=>(∃ps,p=.tup ps)∧q=none
theorem XY {hp:Nat->Option Bo}{q:Option (Nat × Nat)} {p:PV}{x:Gc}(h:LOk hp q p x):Wy p=true:=by
 cases x with
 |var id off cts ws=>rw[h.1];rfl
 |row id=>obtain⟨⟨_,e⟩,_⟩:=h;rw[e];rfl
 |none=>obtain⟨⟨_,e⟩,_⟩:=h;rw[e];rfl
def N5 (hp:Nat->Option Bo)(src:Nat->Nat->Option (Nat × Nat)):Nat->List PV->List Gc->Prop
 |_,[],l=>l=[]
 |i,p::ps,l=>(Wy p=false∧src i 0=none∧N5 hp src (i+1) ps l)∨∃x l',l=x::l'∧LOk hp (src i 0) p x∧N5 hp src (i+1) ps l'
theorem TD (h:Cr N w0 X0 Y β s a w){C:Gl}{f:FuncId}{i:Nat}{t:TypeId}{x:Operand}{K:PV->List Nat->List Nat->List Gc->Option R}(hk:Yp C P f s.hp i t (Bz s.tm x) K=some r):
  ∃v m y l,∃src:Nat->Option (Nat × Nat),K v m y l=some r∧(∀id∈m,∃f cc,s.hp id=some (.ar f cc))∧(∀id∈y,∃cc,s.hp id=some (.ar false cc)) ∧
   (∀j id off,src (j+1)=some (id,off)->off=0∧id∈y)∧(Dy y=true->∀j j' id off off',src (j+1)=some (id,off)->src (j'+1)=some (id,off')->j=j') ∧
   ((l=[]∧Wy v=false∧src 0=none)∨∃x',l=[x']∧LOk s.hp (src 0) v x') ∧
   ∀fz:List Nat,(∀id∈m,id∈fz)->(∀id∈fz,∃f cc,s.hp id=some (.ar f cc))->∀bt:Bt,(∀j,bt j=(src j).bind (Gm β))->OL w (C7 (Ag s.hp fz) β Y) bt v (a.eval x):=by
 have hx:=Cv h x
 have V0:∀(q0:Option (Nat × Nat)) (q:Nat->Option Nat),∃src:Nat->Option (Nat × Nat),src 0=q0∧(∀j,src (j+1)=(q j).map fun id=>(id,0)):=
  fun q0 q=>⟨fun j=>match j with|0=>q0|j+1=>(q j).map fun id=>(id,0),rfl,fun _=>rfl⟩
 have QE:∀{src:Nat->Option (Nat × Nat)} {q:Nat->Option Nat} {y:List Nat},(∀j,src (j+1)=(q j).map fun id=>(id,0))->(∀j id,q j=some id->id∈y)->∀j id off,src (j+1)=some (id,off)->off=0∧id∈y:=by
  intro src q y h1 h2 j id off hj;rw[h1] at hj;cases hq:q j with
  |none=>rw[hq] at hj;cases hj
  |some k=>rw[hq] at hj;cases hj;exact⟨rfl,h2 j _ hq⟩
 have QI:∀{src:Nat->Option (Nat × Nat)} {q:Nat->Option Nat} {y:List Nat},(∀j,src (j+1)=(q j).map fun id=>(id,0))->(Dy y=true->∀j j' id,q j=some id->q j'=some id->j=j') ->
   Dy y=true->∀j j' id off off',src (j+1)=some (id,off)->src (j'+1)=some (id,off')->j=j':=by
  intro src q y h1 h2 hn j j' id off off' hj Q4;rw[h1] at hj Q4;cases hq:q j with
  |none=>rw[hq] at hj;cases hj
  |some k=>
   cases Fe:q j' with
   |none=>rw[Fe] at Q4;cases Q4
   |some k'=>
    rw[hq] at hj;rw[Fe] at Q4;cases hj;cases Q4;exact h2 hn j j' _ hq Fe
 have Fv:∀{src:Nat->Option (Nat × Nat)} {q:Nat->Option Nat} {bt:Bt},(∀j,src (j+1)=(q j).map fun id=>(id,0))->(∀j,bt j=(src j).bind (Gm β))->∀j,bt (1+j)=(q j).bind β:=by
  intro src q bt h1 h2 j;rw[Nat.add_comm,h2,h1];cases q j with
  |none=>rfl
  |some id=>exact VM β id
 unfold Yp at hk;split at hk
 ·rename_i e he;split at hk
  ·rename_i id off ep;rw[ep] at hx;split at hk
   ·rename_i c h0;obtain⟨hb,hk⟩:=Al hk;simp only[Bool.and_eq_true,decide_eq_true_eq] at hb;obtain⟨cs,m,y,q,hk,hl,Je,hA,hF,hm,hy,Ta,Jd,hv⟩:=Sq h hk;obtain⟨src,SH,hs⟩:=V0 (some (id,off)) q;obtain⟨b,ob,hβ,Db⟩:=hx;refine⟨_,m,y,_,src,hk,hm,hy,QE hs Ta,QI hs Jd,.inr ⟨_,rfl,rfl,SH,hl.symm,c,h0,by omega⟩,fun fz h1 h2 bt T9=>?_⟩
    obtain⟨b',o',Er,Ho,Uf⟩:=h.box id _ h0;rw[hβ] at Er;cases Er;have Cz:((c.drop off).take (Hl P e).length).length=(Hl P e).length:=by simp;omega
    have Ac3:∀j p,((c.drop off).take (Hl P e).length)[j]?=some p->c[off+j]?=some p∧j<(Hl P e).length:=by
     intro j p hj;rw[List.getElem?_take] at hj;split at hj
     ·rw[List.getElem?_drop] at hj;exact⟨hj,by assumption⟩
     ·cases hj
    refine⟨b,ob+off,by rw[T9,SH];simp[Gm,hβ],Db,hA,((c.drop off).take (Hl P e).length).mapIdx (fun j _=>(w.cell? ⟨b,ob+off+j,none⟩).getD undef),hv fz h1 h2 _ ?_ bt 1 (Fv hs T9),?_,fun k hk=>?_⟩
    ·refine Be.of_at (by simp) fun j p v hp hv=>?_
     obtain⟨hc,_⟩:=Ac3 j p hp;obtain⟨u,hu,QL⟩:=Ho _ _ hc;rw[List.getElem?_mapIdx,hp,Option.map_some,Nat.add_assoc,hu] at hv;simp at hv;subst hv;exact QL
    ·intro k v hkv;rw[List.getElem?_mapIdx] at hkv;cases hp:((c.drop off).take (Hl P e).length)[k]? with
     |none=>rw[hp] at hkv;cases hkv
     |some p=>
      obtain⟨hc,_⟩:=Ac3 k p hp;obtain⟨u,hu,QL⟩:=Ho _ _ hc;rw[hp,Option.map_some,Nat.add_assoc,hu] at hkv;simp at hkv;subst hkv;rw[Nat.add_assoc];exact hu
    ·rw[Nat.add_assoc];exact Uf _ (by omega)
   ·cases hk
  ·cases hk
 ·cases hln:C.lnd f i<;>rw[hln] at hk<;>simp only[cond_true,cond_false] at hk
  ·cases Fn:B2 P t<;>rw[Fn] at hk<;>simp only[cond_true,cond_false] at hk
   ·obtain⟨cs,m,y,q,hk,hl,Je,hA,hF,hm,hy,Ta,Jd,hv⟩:=Sq h hk;obtain⟨c,t',rfl,hk⟩:=A8 hk;obtain⟨rfl,hk⟩:=Dj hk;obtain⟨src,SH,hs⟩:=V0 none q;have hAc:=hA c (by simp)
    refine⟨c,m,y,_,src,hk,hm,hy,QE hs Ta,QI hs Jd,.inl ⟨rfl,Ajr hAc,SH⟩,fun fz h1 h2 bt T9=>?_⟩
    have hFx:=hF _ (List.mem_singleton_self _)
    have hxc:B1 w (C7 s.hp β Y) β (Bz s.tm x) (a.eval x):=by
     cases hp:Bz s.tm x<;>rw[hp] at hx hFx<;>first|exact hx|exact hFx.elim
    have hoc:=(hv fz h1 h2 [a.eval x] ⟨hxc,trivial⟩ bt 1 (Fv hs T9)).1;rcases hAc with hT|⟨es,n,cc,rfl⟩
    ·cases c<;>first|exact⟨.inl trivial,hoc⟩|exact hT.elim
    ·exact⟨.inr ⟨_,_,_,rfl⟩,hoc⟩
   ·obtain⟨ps,ep,hk⟩:=Gu hk;rw[ep] at hx;obtain⟨vs,Db,h3⟩:=hx;obtain⟨cs,m,y,q,hk,hl,Je,hA,hF,hm,hy,Ta,Jd,hv⟩:=Sq h hk;obtain⟨src,SH,hs⟩:=V0 none q;refine⟨_,m,y,_,src,hk,hm,hy,QE hs Ta,QI hs Jd,.inl ⟨rfl,rfl,SH⟩,fun fz h1 h2 bt T9=>?_⟩
    exact⟨vs,Db,hA,hv fz h1 h2 vs h3 bt 1 (Fv hs T9)⟩
  ·obtain⟨e,he,hk⟩:=B9 hk;unfold Ahx at hk;split at hk
   ·rename_i id es' off n ep;rw[ep] at hx;split at hk
    ·rename_i c h0;obtain⟨hb,Ef⟩:=Al hk;simp only[Bool.and_eq_true] at hb;have he:=Nat.eq_of_beq_eq_true hb.1;have hof:=Nat.eq_of_beq_eq_true hb.2;subst hof;obtain⟨src,SH,hs⟩:=V0 (some (id,0)) (fun _=>none)
     refine⟨_,[],[],_,src,Ef,by simp,by simp,QE hs (by simp),QI hs (by simp),.inr ⟨_,rfl,⟨_,rfl⟩,SH,c,h0⟩,fun fz h1 h2 bt T9=>⟨_,_,_,rfl,?_⟩⟩
     have GJ:bt 0=β id:=by rw[T9,SH];exact VM β id
     rw[GJ];rcases hx with⟨h3,_,h4,h5⟩|⟨b,ob,y,cap,h3,h4,hy,h5,h6,h7⟩
     ·refine .inl ⟨h3,h4,?_,h5⟩;rcases h.box id _ h0 with⟨_,h8⟩|⟨_,_,h8,_⟩
      ·exact h8
      ·rw[h3] at h8;cases h8
     ·have hy:y=ob:=by rcases hy with e|⟨_,e⟩<;>omega
      subst hy;rcases h.box id _ h0 with⟨h8,_⟩|⟨b',o',h8,h9,ZJ,_⟩
      ·rw[h3] at h8;cases h8
      ·rw[h3] at h8;cases h8;exact .inr ⟨b,y,cap,h3,h4,h5,by rw[←he];exact h6,h7,h9.weak (fun b _ hb=>Ms hb),ZJ rfl⟩
    ·cases hk
   ·obtain⟨z,n,c,hk,hp⟩:=E6 hk;obtain⟨hz,hk⟩:=Al hk;subst hz;obtain⟨src,SH,hs⟩:=V0 none (fun _=>none)
    have hu:a.eval x=.slice none 0 0:=by
     have hF:B1 w (C7 s.hp β Y) β (Bz s.tm x) (a.eval x):=by rcases hp with e|⟨e,_⟩<;>rw[e] at hx ⊢ <;> exact hx
     have:=Ut hp hF;generalize a.eval x=u at this;cases this;rfl
    refine⟨_,[],[],_,src,hk,by simp,by simp,QE hs (by simp),QI hs (by simp),.inr ⟨_,rfl,⟨_,rfl⟩,SH⟩,fun fz h1 h2 bt T9=>⟨_,_,_,rfl,.inl ⟨by rw[T9,SH];rfl,rfl,rfl,none,hu⟩⟩⟩
structure A6m (i0 n:Nat) (src:Nat->Nat->Option (Nat × Nat)) (ids x:List Nat):Prop where
 dom:∀i j q,src i j=some q->i0<=i∧i<i0+n
 lent:∀i id off,src i 0=some (id,off)->id∈ids
 mvd:∀i j id off,src i (j+1)=some (id,off)->off=0∧id∈x
 inj0:Dy ids=true->∀i i' id off off',src i 0=some (id,off)->src i' 0=some (id,off')->i=i'
 inj1:Dy x=true->∀i i' j j' id off off',src i (j+1)=some (id,off)->src i' (j'+1)=some (id,off')->i=i'∧j=j'
theorem Tz {hp:Nat->Option Bo}{src src':Nat->Nat->Option (Nat × Nat)}:∀{ps:List PV}{i:Nat}{l:List Gc},(∀k,i<=k->src' k=src k)->N5 hp src i ps l->N5 hp src' i ps l
 |[],_,_,_,h=>h
 |p::ps,i,l,hs,h=>by
  rcases h with⟨h1,h2,h3⟩|⟨x,l',rfl,h2,h3⟩
  ·exact .inl ⟨h1,by rw[hs i (Nat.le_refl _)];exact h2,Tz (fun k hk=>hs k (by omega)) h3⟩
  ·exact .inr ⟨x,l',rfl,by rw[hs i (Nat.le_refl _)];exact h2,Tz (fun k hk=>hs k (by omega)) h3⟩
theorem Zl {bt bt':Wx}:∀{ps:List PV}{us:List Value}{i:Nat},(∀k,i<=k->∀j,bt' k j=bt k j)->J5 w A bt i ps us->J5 w A bt' i ps us
 |[],[],_,_,_=>trivial
 |[],_::_,_,_,h=>h.elim
 |_::_,[],_,_,h=>h.elim
 |_::_,_::_,i,hb,h=>⟨by rw[show bt' i=bt i from funext (hb i (Nat.le_refl _))];exact h.1,Zl (fun k hk=>hb k (by omega)) h.2⟩
theorem JW (h:Cr N w0 X0 Y β s a w){C:Gl}{f:FuncId}:∀{ts:List TypeId}{xs:List Operand}{i:Nat}{K:List PV->List Nat->List Nat->List Gc->Option R},IM C P f s.hp i ts (xs.map (Bz s.tm)) K=some r ->
  ∃vs m y l,∃src:Nat->Nat->Option (Nat × Nat),K vs m y l=some r∧(∀id∈m,∃f cc,s.hp id=some (.ar f cc))∧(∀id∈y,∃cc,s.hp id=some (.ar false cc)) ∧
   A6m i xs.length src (l.flatMap Gc.ids) y∧N5 s.hp src i vs l ∧
   ∀fz:List Nat,(∀id∈m,id∈fz)->(∀id∈fz,∃f cc,s.hp id=some (.ar f cc))->∀bt:Wx,(∀i j,bt i j=(src i j).bind (Gm β))->J5 w (C7 (Ag s.hp fz) β Y) bt i vs (xs.map a.eval)
 |[],[],i,K,hk=>⟨[],[],[],[],fun _ _=>none,hk,by simp,by simp,⟨by simp,by simp,by simp,by simp,by simp⟩,rfl,fun _ _ _ _ _=>trivial⟩
 |[],_::_,i,K,hk=>by cases hk
 |_::_,[],i,K,hk=>by cases hk
 |t::ts,x::xs,i,K,hk=>by
  simp only[List.map_cons] at hk;unfold IM at hk;obtain⟨v,m,y,l,src,hk,hm,hy,hs1,Tg,hl,hv⟩:=TD h hk;obtain⟨vs,ms,ys,ls,srcs,hk,BO,hys,hS,hL,Qx⟩:=JW h hk;have V0:∃sr:Nat->Nat->Option (Nat × Nat),sr i=src∧∀k,k≠i->sr k=srcs k:=⟨fun k=>if k=i then src else srcs k,by simp,fun k hk=>by simp[hk]⟩
  obtain⟨sr,hsi,XO⟩:=V0
  have GP:∀id off,src 0=some (id,off)->id∈l.flatMap Gc.ids:=by
   intro id off e;rcases hl with⟨_,_,h3⟩|⟨x',rfl,h3⟩
   ·rw[h3] at e;cases e
   ·cases x' with
    |var id' off' cts ws=>rw[h3.2.1] at e;cases e;simp[Gc.ids]
    |row id'=>rw[h3.2.1] at e;cases e;simp[Gc.ids]
    |none=>rw[h3.2] at e;cases e
  refine⟨v::vs,m++ms,y++ys,l++ls,sr,hk,?_,?_,⟨?_,?_,?_,?_,?_⟩,?_,fun fz h1 h2 bt T9=>⟨?_,?_⟩⟩
  ·intro i hi;rcases List.mem_append.1 hi with hi|hi
   ·exact hm i hi
   ·exact BO i hi
  ·intro i hi;rcases List.mem_append.1 hi with hi|hi
   ·exact hy i hi
   ·exact hys i hi
  ·intro k j q hq;simp only[List.length_cons];by_cases e:k=i
   ·subst e;omega
   ·rw[XO k e] at hq;have:=hS.dom k j q hq;omega
  ·intro k id off hq;rw[List.flatMap_append];by_cases e:k=i
   ·subst e;rw[hsi] at hq;exact List.mem_append.2 (.inl (GP id off hq))
   ·rw[XO k e] at hq;exact List.mem_append.2 (.inr (hS.lent k id off hq))
  ·intro k j id off hq;by_cases e:k=i
   ·subst e;rw[hsi] at hq;exact⟨(hs1 j id off hq).1,List.mem_append.2 (.inl (hs1 j id off hq).2)⟩
   ·rw[XO k e] at hq;exact⟨(hS.mvd k j id off hq).1,List.mem_append.2 (.inr (hS.mvd k j id off hq).2)⟩
  ·intro hn k k' id off off' hq Fe;rw[List.flatMap_append] at hn;obtain⟨_,h4,h5⟩:=Hu hn;by_cases e:k=i
   ·by_cases e':k'=i
    ·omega
    ·rw[XO k' e'] at Fe;subst e;rw[hsi] at hq;exact absurd (hS.lent k' id off' Fe) (h5 id (GP id off hq))
   ·rw[XO k e] at hq;by_cases e':k'=i
    ·subst e';rw[hsi] at Fe;exact absurd (hS.lent k id off hq) (h5 id (GP id off' Fe))
    ·rw[XO k' e'] at Fe;exact hS.inj0 h4 k k' id off off' hq Fe
  ·intro hn k k' j j' id off off' hq Fe;obtain⟨h3,h4,h5⟩:=Hu hn;by_cases e:k=i
   ·by_cases e':k'=i
    ·subst e;subst e';rw[hsi] at hq Fe;exact⟨rfl,Tg h3 j j' id off off' hq Fe⟩
    ·rw[XO k' e'] at Fe;subst e;rw[hsi] at hq;exact absurd (hS.mvd k' j' id off' Fe).2 (h5 id (hs1 j id off hq).2)
   ·rw[XO k e] at hq;by_cases e':k'=i
    ·subst e';rw[hsi] at Fe;exact absurd (hS.mvd k j id off hq).2 (h5 id (hs1 j' id off' Fe).2)
    ·rw[XO k' e'] at Fe;exact hS.inj1 h4 k k' j j' id off off' hq Fe
  ·have Tl:N5 s.hp sr (i+1) vs ls:=Tz (fun k hk=>XO k (by omega)) hL
   rcases hl with⟨rfl,hnp,h3⟩|⟨x',rfl,h3⟩
   ·exact .inl ⟨hnp,by rw[hsi];exact h3,Tl⟩
   ·exact .inr ⟨x',ls,rfl,by rw[hsi];exact h3,Tl⟩
  ·exact hv fz (fun i hi=>h1 i (by simp[hi])) h2 (bt i) (fun j=>by rw[T9,hsi])
  ·refine Qx fz (fun i hi=>h1 i (by simp[hi])) h2 (fun k j=>(srcs k j).bind (Gm β)) (fun _ _=>rfl) |> Zl fun k hk j=>?_
   rw[T9,XO k (by omega)]
end
open Go.RowKit
section
variable {R:Type} {r:R} {P:Program} {N:Nat} {w0:World} {X0:Hg} {Y:Nat->Prop} {β β':Bt} {s:St} {a:Act} {w w':World} {o:Oper} {A:Nat->Prop}
theorem Ae2 {p:PV}{u:Value}(h:Aw w A p u):B1 w A β p u:=by
 have h0:=h;cases h<;>exact h0
theorem Af0 {t:Nat}{ct:CT}{was p:PV}{K:Nat->PV->List (Nat × Bo)->Option R} (hk:Ab0 N t ct was p K=some r):
  (∃c,K t c []=some r∧Th c∧∀w A q u,Fx w A q p u->Aw w A c u)∨∃es n cc,p=.own es n cc∧K (t+1) (.view (SK N t) es 0 n) [(SK N t,.ar false cc)]=some r:=by
 have tree:∀t',(X7 t' p fun c=>K t c [])=some r->∃c,K t c []=some r∧Th c∧∀w A q u,Fx w A q p u->Aw w A c u:=by
  intro t' hk;obtain⟨c,hk,hT,FY,hv⟩:=Ly hk;refine⟨c,hk,hT,fun w A q u h=>(hv w A (fun _=>none) u ?_).1⟩
  cases p<;>first|exact h|exact FY.elim
 unfold Ab0 at hk;cases ct with
 |sl es=>
  dsimp only at hk;split at hk
  ·unfold GH at hk;split at hk
   ·rename_i es' n c;cases hb:Nat.beq es' es<;>rw[hb] at hk
    ·cases hk
    ·have:=Nat.eq_of_beq_eq_true hb;subst this;exact .inr ⟨_,_,_,rfl,hk⟩
   ·cases hk
  ·have h2:(X7 (.sl es) p fun c=>(match c with | .lst _ es n c=>K t (.lst false es n c) []|_=>none))=some r:=hk
   obtain⟨c,hk,hT,FY,hv⟩:=Ly h2;split at hk
   ·refine .inl ⟨_,hk,hT,fun w A q u h=>Aw.unz (hv w A (fun _=>none) u ?_).1⟩
    cases p<;>first|exact h|exact FY.elim
   ·cases hk
 |int k=>exact .inl (tree _ hk)
 |bool=>exact .inl (tree _ hk)
 |str=>exact .inl (tree _ hk)
 |any=>exact .inl (tree _ hk)
theorem Xq:∀{cts:List CT}{ws ps:List PV}{t:Nat}{K:Nat->List PV->List (Nat × Bo)->Option R},KB N t cts ws ps K=some r ->
  ∃t' cs bs,∃qs:List (Nat × Nat),K t' cs bs=some r∧cs.length=ps.length∧ps.length=ws.length∧bs.map (·.1)=qs.map (·.1)∧(∀q∈qs,(∃k,q.1=SK N k)∧q.2<ps.length)∧(∀q∈qs,∀q'∈qs,q.2=q'.2->q.1=q'.1) ∧
   (∀i bx,(i,bx)∈bs->∃c,bx=.ar false c)∧(∀c∈cs,∀i∈Ap c,∃bx,(i,bx)∈bs) ∧
   ∀(w:World) (A:Nat->Prop) (own β':Bt) (j0:Nat) (us:List Value),(∀q∈qs,β' q.1=own (j0+q.2))->Ek w A own j0 ps us->Be (B1 w A β') cs us∧∀i bx,(i,bx)∈bs->Pr w A β' i bx
 |[],[],ps,t,K,hk=>by
  obtain⟨rfl,hk⟩:=Dj hk;refine⟨t,[],[],[],hk,rfl,rfl,rfl,by simp,by simp,by simp,by simp,fun w A own β' j0 us _ h=>⟨?_,by simp⟩⟩
  cases us with
  |nil=>trivial
  |cons u us=>exact h.elim
 |[],_::_,_,_,_,hk=>by cases hk
 |_::_,[],_,_,_,hk=>by cases hk
 |ct::cts,x::ws,ps,t,K,hk=>by
  unfold KB at hk;obtain⟨p,ps',Zy,Ds⟩:=A8 hk;subst Zy;rcases Af0 Ds with⟨c,Ef,hT,hv⟩|⟨es,n,cc,rfl,Ef⟩
  ·obtain⟨t',cs,bs,qs,Kv,hl,Je,hb,Ta,Jd,Er,Ho,Qx⟩:=Xq Ef;refine⟨t',c::cs,bs,qs.map (fun q=>(q.1,q.2+1)),Kv,by simp[hl],by simp[Je],by rw[hb];simp,?_,?_,Er,?_,fun w A own β' j0 us hβ ho=>?_⟩
   ·intro q hq;obtain⟨q0,S8,rfl⟩:=List.mem_map.1 hq;exact⟨(Ta q0 S8).1,by have:=(Ta q0 S8).2;simp only[List.length_cons];omega⟩
   ·intro q hq q' Fe e;obtain⟨q0,S8,rfl⟩:=List.mem_map.1 hq;obtain⟨q1,Ik,rfl⟩:=List.mem_map.1 Fe;exact Jd q0 S8 q1 Ik (by simp only at e;omega)
   ·intro y hy i hi;rcases List.mem_cons.1 hy with rfl|hy
    ·rw[Hb hT] at hi;cases hi
    ·exact Ho y hy i hi
   ·cases us with
    |nil=>exact ho.elim
    |cons u us=>
     obtain⟨h1,h2⟩:=Qx w A own β' (j0+1) us (fun q hq=>by rw[hβ _ (List.mem_map_of_mem hq)];congr 1;simp only;omega) ho.2
     exact⟨⟨Ae2 (hv w A _ u ho.1),h1⟩,h2⟩
  ·obtain⟨t',cs,bs,qs,Kv,hl,Je,hb,Ta,Jd,Er,Ho,Qx⟩:=Xq Ef;refine⟨t',_::cs,(SK N t,.ar false cc)::bs,(SK N t,0)::qs.map (fun q=>(q.1,q.2+1)),Kv,by simp[hl],by simp[Je],by simp only[List.map_cons,hb];simp,?_,?_,?_,?_,fun w A own β' j0 us hβ ho=>?_⟩
   ·intro q hq;rcases List.mem_cons.1 hq with rfl|hq
    ·exact⟨⟨t,rfl⟩,by simp⟩
    ·obtain⟨q0,S8,rfl⟩:=List.mem_map.1 hq;exact⟨(Ta q0 S8).1,by have:=(Ta q0 S8).2;simp only[List.length_cons];omega⟩
   ·intro q hq q' Fe e;rcases List.mem_cons.1 hq with rfl|hq
    ·rcases List.mem_cons.1 Fe with rfl|Fe
     ·rfl
     ·obtain⟨q0,S8,rfl⟩:=List.mem_map.1 Fe;simp only at e;omega
    ·obtain⟨q0,S8,rfl⟩:=List.mem_map.1 hq;rcases List.mem_cons.1 Fe with rfl|Fe
     ·simp only at e;omega
     ·obtain⟨q1,Ik,rfl⟩:=List.mem_map.1 Fe;exact Jd q0 S8 q1 Ik (by simp only at e;omega)
   ·intro i bx hm;rcases List.mem_cons.1 hm with e|hm
    ·cases e;exact⟨cc,rfl⟩
    ·exact Er i bx hm
   ·intro y hy i hi;rcases List.mem_cons.1 hy with rfl|hy
    ·simp only[Ap,List.mem_singleton] at hi;subst hi;exact⟨_,List.mem_cons_self⟩
    ·obtain⟨bx,Ku⟩:=Ho y hy i hi;exact⟨bx,List.mem_cons_of_mem _ Ku⟩
   ·cases us with
    |nil=>exact ho.elim
    |cons u us=>
     obtain⟨h1,h2⟩:=Qx w A own β' (j0+1) us (fun q hq=>by rw[hβ _ (List.mem_cons_of_mem _ (List.mem_map_of_mem hq))];congr 1;simp only;omega) ho.2
     have h0:=hβ (SK N t,0) List.mem_cons_self;simp only[Nat.add_zero] at h0;refine⟨⟨?_,h1⟩,fun i bx hm=>?_⟩
     ·rcases ho.1 with⟨h3,rfl,_,h5⟩|⟨b,ob,cap,h3,h4,h5,h6,h7,_⟩
      ·exact .inl ⟨h0.trans h3,rfl,rfl,h5⟩
      ·exact .inr ⟨b,ob,ob,cap,h0.trans h3,h4,.inl rfl,h5,h6,h7⟩
     ·rcases List.mem_cons.1 hm with e|hm
      ·cases e;exact Vb ho.1 h0
      ·exact h2 i bx hm
def TN (hp Cs:Nat->Option Bo)(bs:List (Nat × Bo)) (x:Gc):Prop:=
 match x with
 |.var id off _ ws=>∃c cs,hp id=some (.st c)∧Cs id=some (.st (Ce c cs off))∧cs.length=ws.length∧off+cs.length<=c.length∧∀p∈cs,∀i∈Ap p,∃bx,(i,bx)∈bs
 |.row id=>∃c cs,hp id=some (.ar false c)∧Cs id=some (.ar false cs)
 |.none=>True
def Adj (β β':Bt)(w':World)(A:Nat->Prop)(hp Cs:Nat->Option Bo)(x:Gc):Prop:=
 match x with
 |.var id off _ ws=>∃c cs,hp id=some (.st c)∧Cs id=some (.st (Ce c cs off))∧cs.length=ws.length∧off+cs.length<=c.length ∧
   ∀b o,β id=some (b,o)->(∀(j:Nat) p,cs[j]?=some p->∃v,w'.cell? ⟨b,o+off+j,none⟩=some v∧B1 w' A β' p v)∧∀j,j<cs.length->w'.frozen? ⟨b,o+off+j,none⟩=false
 |.row id=>∃cs,Cs id=some (.ar false cs)∧((β id=none∧cs=[])∨∃b o,β id=some (b,o)∧SL w' A ⟨b,o,none⟩ cs∧∀j,o<=j->j<bsz w' b->w'.frozen? ⟨b,j,none⟩=false)
 |.none=>True
theorem Wi {hp Cf Cs:Nat->Option Bo}{bs bs1:List (Nat × Bo)} {x:Gc}(h1:∀i∈x.ids,Cf i=hp i)(hb:∀q∈bs,q∈bs1)(h:TN Cf Cs bs x):TN hp Cs bs1 x:=by
 cases x with
 |var id off cts ws=>
  obtain⟨c,cs,h2,h3,h4,h5,h6⟩:=h;refine⟨c,cs,by rw[←h1 id (by simp[Gc.ids])];exact h2,h3,h4,h5,fun p hp i hi=>?_⟩
  obtain⟨bx,Ku⟩:=h6 p hp i hi;exact⟨bx,hb _ Ku⟩
 |row id=>
  obtain⟨c,cs,h2,h3⟩:=h;exact⟨c,cs,by rw[←h1 id (by simp[Gc.ids])];exact h2,h3⟩
 |none=>trivial
theorem Zk {hp Cf Cs:Nat->Option Bo}{x:Gc}(h1:∀i∈x.ids,Cf i=hp i)(h:Adj β β' w' A Cf Cs x):Adj β β' w' A hp Cs x:=by
 cases x with
 |var id off cts ws=>
  obtain⟨c,cs,h2,h3⟩:=h;exact⟨c,cs,by rw[←h1 id (by simp[Gc.ids])];exact h2,h3⟩
 |row id=>exact h
 |none=>trivial
theorem Aba {hp Cf:Nat->Option Bo}{q:Option (Nat × Nat)} {p:PV}{x:Gc}(h1:∀i∈x.ids,Cf i=hp i)(h:LOk hp q p x):LOk Cf q p x:=by
 cases x with
 |var id off cts ws'=>
  obtain⟨h2,h3,h5,c,h6,h7⟩:=h;exact⟨h2,h3,h5,c,by rw[h1 id (by simp[Gc.ids])];exact h6,h7⟩
 |row id=>
  obtain⟨h2,h3,c,h4⟩:=h;exact⟨h2,h3,c,by rw[h1 id (by simp[Gc.ids])];exact h4⟩
 |none=>exact h
theorem Wj {hp Cf:Nat->Option Bo}{src:Nat->Nat->Option (Nat × Nat)}:∀{ps:List PV}{i:Nat}{l:List Gc},(∀i∈l.flatMap Gc.ids,Cf i=hp i)->N5 hp src i ps l->N5 Cf src i ps l
 |[],_,_,_,h=>h
 |p::ps,i,l,hs,h=>by
  rcases h with⟨h1,h2,h3⟩|⟨x,l',rfl,h2,h3⟩
  ·exact .inl ⟨h1,h2,Wj hs h3⟩
  ·exact .inr ⟨x,l',rfl,Aba (fun k hk=>hs k (by simp only[List.flatMap_cons,List.mem_append];exact .inl hk)) h2,Wj (fun k hk=>hs k (by simp only[List.flatMap_cons,List.mem_append];exact .inr hk)) h3⟩
theorem TY {own:Bt}{bt:Wx}{j i:Nat}{p:PV}{zs:List PV}{r:List (List PV)} (hp:Wy p=false)(h:Tf w A own bt j i (p::zs) r):Tf w A own bt j (i+1) zs r:=by
 cases p<;>first|exact h|cases hp
theorem R3 {src:Nat->Nat->Option (Nat × Nat)} {β:Bt}:∀{zs:List PV}{l:List Gc}{ro:List (List PV)} {i j t:Nat}{hp:Nat->Option Bo}{K:(Nat->Option Bo)->List (Nat × Bo)->Option R},
  Tr N t l ro hp K=some r->N5 hp src i zs l->Dy (l.flatMap Gc.ids)=true ->
  ∃Cs bs,∃qs:List (Nat × Nat),K Cs bs=some r∧bs.map (·.1)=qs.map (·.1)∧(∀q∈qs,(∃k,q.1=SK N k)∧j<=q.2)∧(∀q∈qs,∀q'∈qs,q.2=q'.2->q.1=q'.1)∧(∀i bx,(i,bx)∈bs->∃c,bx=.ar false c) ∧
   (∀i,i ∉ l.flatMap Gc.ids->Cs i=hp i)∧(∀x∈l,TN hp Cs bs x) ∧
   ∀(w':World) (A:Nat->Prop) (own β':Bt) (bt:Wx),(∀q∈qs,β' q.1=own q.2)->(∀i,bt i 0=(src i 0).bind (Gm β))->Tf w' A own bt j i zs ro ->
    (∀i bx,(i,bx)∈bs->Pr w' A β' i bx)∧∀x∈l,Adj β β' w' A hp Cs x
 |[],l,ro,i,j,t,hp,K,hk,hL,hn=>by
  have hL:l=[]:=hL;subst hL;unfold Tr at hk;obtain⟨rfl,hk⟩:=Dj hk;exact⟨hp,[],[],hk,rfl,by simp,by simp,by simp,fun _ _=>rfl,by simp,fun w' A own β' bt _ _ _=>⟨by simp,by simp⟩⟩
 |p::zs,l0,ro,i,j,t,hp,K,hk,hL0,hn=>by
  rcases hL0 with⟨Pm,_,hL⟩|⟨x,l,rfl,hok,hL⟩
  rotate_left
  ··simp only[List.flatMap_cons] at hn;obtain⟨QK,hn2,hn3⟩:=Hu hn;cases x with
    |var id off cts ws'=>
     obtain⟨rfl,V0,I1,c,hc,Y0⟩:=hok;unfold Tr at hk;obtain⟨cs,ro',hro,Ds⟩:=A8 hk;subst hro;obtain⟨t',cs',bs,qs,Ef,FZ,Q1,hb,Ta,Jd,Er,Ho,hv⟩:=Xq Ds;rw[hc] at Ef;simp only at Ef;change Tr N t' l ro' (Cn hp id (some (.st (Ce c cs' off)))) (fun Cs bs'=>K Cs (bs++bs'))=some r at Ef
     have UO:id ∉ l.flatMap Gc.ids:=hn3 id (by simp[Gc.ids])
     have hL':N5 (Cn hp id (some (.st (Ce c cs' off)))) src (i+1) zs l:=Wj (fun k hkm=>Aj _ _ (fun e=>UO (e ▸ hkm))) hL
     obtain⟨Cs,bs',qs',Kv,Hf,Ik,ST,TG,Ka,hsh,MK⟩:=R3 (β:=β) (j:=j+cs.length) Ef hL' hn2;have Aeg:Cs id=some (.st (Ce c cs' off)):=by rw[Ka id UO,Am]
     have EA:∀x∈l,∀k∈x.ids,Cn hp id (some (.st (Ce c cs' off))) k=hp k:=fun x hx k hkm=>Aj _ _ (fun e=>UO (e ▸ List.mem_flatMap.2 ⟨x,hx,hkm⟩))
     refine⟨Cs,bs++bs',qs.map (fun q=>(q.1,j+q.2))++qs',Kv,by simp only[List.map_append,hb,Hf];simp,?_,?_,?_,?_,?_,fun w' A own β' bt hβ T9 ho=>?_⟩
     ·intro q hq;rcases List.mem_append.1 hq with hq|hq
      ·obtain⟨q0,S8,rfl⟩:=List.mem_map.1 hq;exact⟨(Ta q0 S8).1,by simp only;omega⟩
      ·exact⟨(Ik q hq).1,by have:=(Ik q hq).2;omega⟩
     ·intro q hq q' Fe e;rcases List.mem_append.1 hq with hq|hq
      ·obtain⟨q0,S8,rfl⟩:=List.mem_map.1 hq;have:=(Ta q0 S8).2;rcases List.mem_append.1 Fe with Fe|Fe
       ·obtain⟨q1,Ik,rfl⟩:=List.mem_map.1 Fe;exact Jd q0 S8 q1 Ik (by simp only at e;omega)
       ·have:=(Ik q' Fe).2;simp only at e;omega
      ·have h5:=(Ik q hq).2;rcases List.mem_append.1 Fe with Fe|Fe
       ·obtain⟨q1,Asz,rfl⟩:=List.mem_map.1 Fe;have:=(Ta q1 Asz).2;simp only at e;omega
       ·exact ST q hq q' Fe e
     ·intro k bx hm;rcases List.mem_append.1 hm with hm|hm
      ·exact Er k bx hm
      ·exact TG k bx hm
     ·intro k hk;simp only[List.flatMap_cons,List.mem_append,not_or] at hk;rw[Ka k hk.2];exact Aj _ _ (by rintro rfl;exact hk.1 (by simp[Gc.ids]))
     ·intro x hx;rcases List.mem_cons.1 hx with rfl|hx
      ·refine⟨c,cs',hc,Aeg,by omega,by omega,fun p hp k hk=>?_⟩
       obtain⟨bx,Ku⟩:=Ho p hp k hk;exact⟨bx,List.mem_append.2 (.inl Ku)⟩
      ·exact Wi (EA x hx) (fun q hq=>List.mem_append.2 (.inr hq)) (hsh x hx)
     ·obtain⟨⟨b,ob,GJ,Cz,vs,hov,Cx,hfr⟩,ho⟩:=ho
      ·obtain⟨h1,h2⟩:=hv w' A own β' j vs (fun q hq=>hβ _ (List.mem_append.2 (.inl (List.mem_map_of_mem hq)))) hov
       obtain⟨h3,h4⟩:=MK w' A own β' bt (fun q hq=>hβ q (List.mem_append.2 (.inr hq))) T9 ho
       refine⟨fun k bx hm=>?_,fun x hx=>?_⟩
       ·rcases List.mem_append.1 hm with hm|hm
        ·exact h2 k bx hm
        ·exact h3 k bx hm
       ·rcases List.mem_cons.1 hx with rfl|hx
        ·refine⟨c,cs',hc,Aeg,by omega,by omega,fun b1 o1 hβ1=>?_⟩
         have Ho:=T9 i;rw[GJ,V0] at Ho;simp only[Option.bind_some,Gm,hβ1,Option.map_some,Option.some.injEq,Prod.mk.injEq] at Ho;obtain⟨rfl,rfl⟩:=Ho;refine⟨fun k p hp=>?_,fun k hk=>hfr k (by omega)⟩
         obtain⟨v,hv,QL⟩:=h1.get hp;exact⟨v,Cx k v hv,QL⟩
        ·exact Zk (EA x hx) (h4 x hx)
    |row id=>
     obtain⟨⟨pz,rfl⟩,V0,c,hc⟩:=hok;unfold Tr at hk;obtain⟨cs,ro',hro,Ef⟩:=A8 hk;subst hro;have UO:id ∉ l.flatMap Gc.ids:=hn3 id (by simp[Gc.ids])
     have hL':N5 (Cn hp id (some (.ar false cs))) src (i+1) zs l:=Wj (fun k hkm=>Aj _ _ (fun e=>UO (e ▸ hkm))) hL
     obtain⟨Cs,bs',qs',Kv,Hf,Ik,ST,TG,Ka,hsh,MK⟩:=R3 (β:=β) (j:=j) Ef hL' hn2;have Aeg:Cs id=some (.ar false cs):=by rw[Ka id UO,Am]
     have EA:∀x∈l,∀k∈x.ids,Cn hp id (some (.ar false cs)) k=hp k:=fun x hx k hkm=>Aj _ _ (fun e=>UO (e ▸ List.mem_flatMap.2 ⟨x,hx,hkm⟩))
     refine⟨Cs,bs',qs',Kv,Hf,Ik,ST,TG,?_,?_,fun w' A own β' bt hβ T9 ho=>?_⟩
     ·intro k hk;simp only[List.flatMap_cons,List.mem_append,not_or] at hk;rw[Ka k hk.2];exact Aj _ _ (by rintro rfl;exact hk.1 (by simp[Gc.ids]))
     ·intro x hx;rcases List.mem_cons.1 hx with rfl|hx
      ·exact⟨c,cs,hc,Aeg⟩
      ·exact Wi (EA x hx) (fun q hq=>hq) (hsh x hx)
     ·obtain⟨Aau,ho⟩:=ho
      ·obtain⟨h3,h4⟩:=MK w' A own β' bt hβ T9 ho;refine⟨h3,fun x hx=>?_⟩
       rcases List.mem_cons.1 hx with rfl|hx
       ·refine⟨cs,Aeg,?_⟩;have Ho:=T9 i;rw[V0] at Ho;simp only[Option.bind_some,VM] at Ho;rw[Ho] at Aau;exact Aau
       ·exact Zk (EA x hx) (h4 x hx)
    |none=>
     obtain⟨⟨pz,rfl⟩,V0⟩:=hok;unfold Tr at hk;obtain⟨cs,ro',hro,Ef⟩:=A8 hk;subst hro;obtain⟨Cs,bs',qs',Kv,Hf,Ik,ST,TG,Ka,hsh,MK⟩:=R3 (β:=β) (j:=j) Ef hL hn2;refine⟨Cs,bs',qs',Kv,Hf,Ik,ST,TG,?_,?_,fun w' A own β' bt hβ T9 ho=>?_⟩
     ·intro k hk;simp only[List.flatMap_cons,List.mem_append,not_or] at hk;exact Ka k hk.2
     ·intro x hx;rcases List.mem_cons.1 hx with rfl|hx
      ·trivial
      ·exact hsh x hx
     ·obtain⟨Aau,ho⟩:=ho
      ·obtain⟨h3,h4⟩:=MK w' A own β' bt hβ T9 ho;refine⟨h3,fun x hx=>?_⟩
       rcases List.mem_cons.1 hx with rfl|hx
       ·trivial
       ·exact h4 x hx
  ·obtain⟨Cs,bs',qs',Kv,Hf,Ik,ST,TG,Ka,hsh,MK⟩:=R3 (β:=β) (j:=j) hk hL hn;exact⟨Cs,bs',qs',Kv,Hf,Ik,ST,TG,Ka,hsh,fun w' A own β' bt hβ T9 ho=>MK w' A own β' bt hβ T9 (TY Pm ho)⟩
end
open Go.RowKit
theorem Fm (hp:Nat->Option Bo)(ids:List Nat)(i:Nat):R9 hp ids i=if i∈ids then (hp i).map (fun _=>Bo.mv) else hp i:=by
 unfold R9;by_cases hi:i∈ids
 ·have:ids.any (Nat.beq i)=true:=List.any_eq_true.2 ⟨i,hi,Nat.beq_refl i⟩;rw[this,if_pos hi];rfl
 ·have:ids.any (Nat.beq i)=false:=by
   cases hb:ids.any (Nat.beq i)
   ·rfl
   ·obtain⟨j,hj,e⟩:=List.any_eq_true.1 hb;exact absurd (Nat.eq_of_beq_eq_true e ▸ hj) hi
  rw[this,if_neg hi];rfl
theorem Pt:∀{nw:List (Nat × Bo)} {hp:Nat->Option Bo},Bq hp nw=true->(nw.map (·.1)).Nodup
 |[],_,_=>List.nodup_nil
 |(i,b)::r,hp,h=>by
  simp only[Bq,Bool.and_eq_true,Option.isNone_iff_eq_none,Bool.not_eq_true'] at h;simp only[List.map_cons,List.nodup_cons];refine⟨fun hm=>?_,Pt h.2⟩
  obtain⟨q,hq,e⟩:=List.mem_map.1 hm;have:r.any (fun q=>Nat.beq q.1 i)=true:=List.any_eq_true.2 ⟨q,hq,by rw[e];exact Nat.beq_refl i⟩
  rw[this] at h;cases h.1.2
theorem Ah3:∀{l:List (Nat × Nat)},(l.map (·.1)).Nodup->∀q∈l,Sy l q.1=some q.2
 |[],_,_,h=>by cases h
 |(j,b)::r,hn,q,hq=>by
  simp only[List.map_cons,List.nodup_cons] at hn;unfold Sy;rcases List.mem_cons.1 hq with rfl|hq
  ·simp only[Nat.beq_refl,cond_true]
  ·have:Nat.beq q.1 j=false:=by
    cases hb:Nat.beq q.1 j
    ·rfl
    ·exact absurd (Nat.eq_of_beq_eq_true hb ▸ List.mem_map_of_mem hq) hn.1
   simp only[this,cond_false];exact Ah3 hn.2 q hq
theorem RI:∀{l:List (Nat × Nat)} {i:Nat},i ∉ l.map (·.1)->Sy l i=none
 |[],_,_=>rfl
 |(j,b)::r,i,h=>by
  simp only[List.map_cons,List.mem_cons,not_or] at h;unfold Sy
  have:Nat.beq i j=false:=by
   cases hb:Nat.beq i j
   ·rfl
   ·exact absurd (Nat.eq_of_beq_eq_true hb) h.1
  simp only[this,cond_false];exact RI h.2
section
variable {R:Type} {r:R} {P:Program} {N:Nat} {w0:World} {X0:Hg} {Y:Nat->Prop} {β β':Bt} {s:St} {a:Act} {w w':World} {o:Oper} {A A':Nat->Prop}
theorem Fx.weak (hA:∀b,b<w.heap.size->A' b->A b){q:Option (Nat × Nat)} {p:PV}{u:Value}(h:Fx w A q p u):Fx w A' q p u:=by
 have tr:∀{p:PV},Aw w A p u->Aw w A' p u:=fun h=>h.step (B8.refl _ _) hA
 cases p with
 |own es n c=>
  rcases h with h|⟨b,ob,cap,h1,h2,h3,h4,h5,h6,h7⟩
  ·exact .inl h
  ·exact .inr ⟨b,ob,cap,h1,h2,h3,h4,h5,h6.weak hA,h7⟩
 |_=>exact tr h
theorem Ek.weak (hA:∀b,b<w.heap.size->A' b->A b){own:Bt}:∀{ps:List PV}{us:List Value}{j:Nat},Ek w A own j ps us->Ek w A' own j ps us
 |[],[],_,_=>trivial
 |[],_::_,_,h=>h.elim
 |_::_,[],_,h=>h.elim
 |_::_,_::_,_,h=>⟨h.1.weak hA,Ek.weak hA h.2⟩
theorem OL.weak (hA:∀b,b<w.heap.size->A' b->A b){bt:Bt}{p:PV}{u:Value}(h:OL w A bt p u):OL w A' bt p u:=by
 cases p with
 |pbox ps=>
  obtain⟨b,ob,h1,h2,h3,vs,h4,h5⟩:=h;exact⟨b,ob,h1,h2,h3,vs,h4.weak hA,h5⟩
 |tup ps=>
  obtain⟨es,n,c,h1,h2⟩:=h;exact⟨es,n,c,h1,h2.weak hA⟩
 |agg cs=>
  obtain⟨vs,h1,h2,h3⟩:=h;exact⟨vs,h1,h2,h3.weak hA⟩
 |_=>exact⟨h.1,h.2.weak hA⟩
theorem J5.weak (hA:∀b,b<w.heap.size->A' b->A b){bt:Wx}:∀{ps:List PV}{us:List Value}{i:Nat},J5 w A bt i ps us->J5 w A' bt i ps us
 |[],[],_,_=>trivial
 |[],_::_,_,h=>h.elim
 |_::_,[],_,h=>h.elim
 |_::_,_::_,_,h=>⟨h.1.weak hA,J5.weak hA h.2⟩
theorem V8 {bt:Wx}(k:Bool):∀{xs:List Operand}{ps:List PV}{i:Nat},J5 w A bt i ps (xs.map a.eval)->J5 w A bt i (Is k xs ps) (xs.map a.eval)
 |[],[],_,h=>h
 |[],_::_,_,h=>h
 |_::_,[],_,h=>h
 |x::xs,p::ps,i,h=>by
  simp only[List.map_cons] at h ⊢;refine⟨?_,V8 k h.2⟩;split
  ·exact⟨.inl trivial,Aw.lnil _ _⟩
  ·exact h.1
theorem LM (k:Bool)(x:Operand)(xs:List Operand)(p:PV)(ps:List PV):∃p',Is k (x::xs) (p::ps)=p'::Is k xs ps∧Wy p'=Wy p∧(Wy p=true->p'=p):=by
 refine⟨_,rfl,?_,fun h=>?_⟩
 ·split
  ·rfl
  ·rfl
 ·split
  ·cases h
  ·rfl
theorem Qb {hp:Nat->Option Bo}{src:Nat->Nat->Option (Nat × Nat)} (k:Bool):∀{xs:List Operand}{ps:List PV}{i:Nat}{l:List Gc},N5 hp src i ps l->N5 hp src i (Is k xs ps) l
 |[],[],_,_,h=>h
 |[],_::_,_,_,h=>h
 |_::_,[],_,_,h=>h
 |x::xs,p::ps,i,l,h=>by
  obtain⟨p',e,h1,h2⟩:=LM k x xs p ps;rw[e];rcases h with⟨h3,h4,h5⟩|⟨y,l',rfl,h4,h5⟩
  ·exact .inl ⟨by rw[h1];exact h3,h4,Qb k h5⟩
  ·exact .inr ⟨y,l',rfl,by rw[h2 (XY h4)];exact h4,Qb k h5⟩
theorem DO {hp:Nat->Option Bo}{src:Nat->Nat->Option (Nat × Nat)}:∀{ps:List PV}{i:Nat}{l:List Gc},N5 hp src i ps l->∀id∈l.flatMap Gc.ids,C8 (hp id)∧∃k off,src k 0=some (id,off)
 |[],_,_,h,id,Bj=>by
  have h:_=[]:=h;rw[h] at Bj;cases Bj
 |p::ps,i,l,h,id,Bj=>by
  rcases h with⟨_,_,h3⟩|⟨x,l',rfl,h2,h3⟩
  ·exact DO h3 id Bj
  ·simp only[List.flatMap_cons,List.mem_append] at Bj;rcases Bj with Bj|Bj
   ·cases x with
    |var id' off cts ws=>
     simp only[Gc.ids,List.mem_singleton] at Bj;subst Bj;obtain⟨_,h4,_,c,h5,_⟩:=h2;exact⟨by rw[h5];trivial,i,_,h4⟩
    |row id'=>
     simp only[Gc.ids,List.mem_singleton] at Bj;subst Bj;obtain⟨_,h4,c,h5⟩:=h2;exact⟨by rw[h5];trivial,i,_,h4⟩
    |none=>simp[Gc.ids] at Bj
   ·exact DO h3 id Bj
theorem Afw {hp:Nat->Option Bo}{src:Nat->Nat->Option (Nat × Nat)}:∀{ps:List PV}{i:Nat}{l:List Gc},N5 hp src i ps l->∀k p id off,ps[k]?=some p->src (i+k) 0=some (id,off) ->
   (∃c ws,hp id=some (.st c)∧p=.pbox ws∧off+ws.length<=c.length)∨((∃c,hp id=some (.ar false c))∧off=0∧∃ws,p=.tup ws)
 |[],_,_,_,k,p,id,off,hp,_=>by simp at hp
 |p::ps,i,l,h,k,p',id,off,Cs,hs=>by
  have Tl:∃l',N5 hp src (i+1) ps l':=by
   rcases h with⟨_,_,h3⟩|⟨x,l',_,_,h3⟩<;>exact⟨_,h3⟩
  cases k with
  |succ k=>
   obtain⟨l',h'⟩:=Tl;exact Afw h' k p' id off (by simpa using Cs) (by rw[show i+1+k=i+(k+1) by omega];exact hs)
  |zero=>
   simp only[List.getElem?_cons_zero,Option.some.injEq] at Cs;subst Cs;rw[Nat.add_zero] at hs;rcases h with⟨_,h2,_⟩|⟨x,l',_,h2,_⟩
   ·rw[hs] at h2;cases h2
   ·cases x with
    |var id' off' cts ws=>
     obtain⟨h3,h4,_,c,h5,h6⟩:=h2;rw[hs] at h4;cases h4;exact .inl ⟨c,ws,h5,h3,h6⟩
    |row id'=>
     obtain⟨h3,h4,c,h5⟩:=h2;rw[hs] at h4;cases h4;exact .inr ⟨⟨c,h5⟩,rfl,h3⟩
    |none=>
     have:=h2.2;rw[hs] at this;cases this
theorem PZ {hp : Nat -> Option Bo} {src : Nat -> Nat -> Option (Nat × Nat)} {id off : Nat} {cts : List CT} {ws : List PV} : ∀ {ps : List PV} {i : Nat} {l : List Gc}, N5 hp src i ps l -> Gc.var id off cts ws ∈ l ->
      ∃ k, ps[k]? = some (.pbox ws) ∧ src (i + k) 0 = some (id, off)
  | [], _, _, h, hm => by
    have h : _ = [] := h
    rw[h] at hm; cases hm
  | p :: ps, i, l, h, hm => by
    have next : ∀ {l'}, N5 hp src (i + 1) ps l' -> Gc.var id off cts ws ∈ l' -> ∃ k, (p :: ps)[k]? = some (.pbox ws) ∧ src (i + k) 0 = some (id, off) := by
      intro l' h' I6
      obtain⟨k, h1, h2⟩ := PZ h' I6
      exact⟨k + 1, by simpa using h1, by rw[show i + (k + 1) = i + 1 + k by omega]; exact h2⟩
    rcases h with⟨_, _, h3⟩ | ⟨x, l', rfl, h2, h3⟩
    · exact next h3 hm
    · rcases List.mem_cons.1 hm with e | hm
      · subst e
        obtain⟨h1, h4, _⟩ := h2
        subst h1
        exact⟨0, rfl, h4⟩
      · exact next h3 hm
theorem PW {hp:Nat->Option Bo}{src:Nat->Nat->Option (Nat × Nat)}:∀{ps:List PV}{i:Nat}{l:List Gc},N5 hp src i ps l->∀k id off,i<=k->src k 0=some (id,off)->k<i+ps.length->∃p,ps[k-i]?=some p∧Wy p=true
 |[],i,_,_,k,id,off,h1,_,h3=>by simp at h3;omega
 |p::ps,i,l,h,k,id,off,h1,h2,h3=>by
  by_cases e:k=i
  ·subst e;rcases h with⟨_,h4,_⟩|⟨x,l',_,h4,_⟩
   ·rw[h2] at h4;cases h4
   ·exact⟨p,by simp,XY h4⟩
  ·have Tl:∃l',N5 hp src (i+1) ps l':=by
    rcases h with⟨_,_,h3⟩|⟨x,l',_,_,h3⟩<;>exact⟨_,h3⟩
   obtain⟨l',h'⟩:=Tl;obtain⟨q,h5,h6⟩:=PW h' k id off (by omega) h2 (by simp at h3;omega)
   refine⟨q,?_,h6⟩;rw[show k-i=(k-(i+1))+1 by omega]
   simpa using h5
theorem J5.len {bt:Wx}:∀{ps:List PV}{us:List Value}{i:Nat},J5 w A bt i ps us->ps.length=us.length
 |[],[],_,_=>rfl
 |[],_::_,_,h=>h.elim
 |_::_,[],_,h=>h.elim
 |_::_,_::_,_,h=>by simp[J5.len h.2]
theorem RS (h:Cr N w0 X0 Y β s a w){G:Ur}(J0:PF P G w0 X0){C:Gl}{call:An}(Dq:∀f args res,call f args=some res->Df G P f args res){c:Call}{f:FuncId}(ho:o.op=.call c)(hc:c.callee=.value (.func f))
  {K:St->Option R} (hk:Xt C P N call s o f c K=some r):
  ∃s',K s'=some r∧∀(next:Act->World->Prop) (Q:Exit->Act->World->Prop),(∀a' w' β',Cr N w0 X0 Y β' s' a' w'->next a' w')->o.wp P a w next Q:=by
 unfold Xt at hk;obtain⟨vs0,m,x,l,src,Ds,hm,hx,hS,hL,Ey⟩:=JW h hk;obtain⟨hb,Ef⟩:=Al Ds;simp only[Bool.and_eq_true] at hb;obtain⟨⟨⟨hnd,Anl⟩,hN⟩,Aas⟩:=hb;have hN:0<N:=Nat.lt_of_succ_le (Nat.le_of_ble_eq_true hN);obtain⟨hnl,hnx,hlx⟩:=Hu hnd
 have hml:∀i∈m,i ∉ l.flatMap Gc.ids∧i ∉ x:=by
  intro i hi;have:=List.all_eq_true.1 Anl i hi
  have hn:∀k∈l.flatMap Gc.ids++x,i≠k:=by
   rintro k hk rfl
   have h2:(l.flatMap Gc.ids++x).any (Nat.beq i)=true:=List.any_eq_true.2 ⟨i,hk,Nat.beq_refl i⟩;rw[h2] at this;cases this
  exact⟨fun hq=>hn i (by simp only[List.mem_append];exact .inl hq) rfl,fun hq=>hn i (by simp only[List.mem_append];exact .inr hq) rfl⟩
 replace hL:=Qb (C.kz f) (xs:=c.args.toList) hL
 replace Ey:=fun fz h1 h2 bt T9=>V8 (a:=a) (C.kz f) (Ey fz h1 h2 bt T9)
 generalize Is (C.kz f) c.args.toList vs0=vs at Ef Ey hL;obtain⟨rv,ro,I1,Kv⟩:=KJ Ef;obtain⟨ws,bs,Sf,hwl,UV,OC,hrs,SR,hws⟩:=Xw (C.shr f) N Kv;obtain⟨O8,UL⟩:=Al Sf;obtain⟨lids,GP⟩:∃lids,l.flatMap Gc.ids=lids:=⟨_,rfl⟩;rw[GP] at hS hnl hlx hml;have Avh:∀i,i ∉ x->R9 (Ag s.hp m) x i=Ag s.hp m i:=fun i hi=>by rw[Fm,if_neg hi]
 have WR:∀i,i∈lids->R9 (Ag s.hp m) x i=s.hp i:=fun i hi=>by
  rw[Avh i (hlx i hi),Bv,if_neg (fun hq=>(hml i hq).1 hi)]
 have hLM:N5 (R9 (Ag s.hp m) x) src 0 vs l:=Wj (fun i hi=>WR i (GP ▸ hi)) hL
 obtain⟨Cs,bs',qs,hk6,hbq,Ta,Jd,Er,Ka,hsh,MK⟩:=R3 (β:=β) (j:=K6 rv) UL hLM (by rw[GP];exact hnl)
 obtain⟨Ny,hk7⟩:=Al hk6;refine⟨_,hk7,fun next Q hn=>?_⟩
 clear hk Ds Ef Kv Sf UL hk6 hk7;rw[GP] at Ka;obtain⟨⟨fn,hfn,hfb⟩,AO⟩:=Dq f vs _ I1;have hf:=h.freeze hm;have ZQ:=DO hL;rw[GP] at ZQ
 have IY:∀i,i∈lids∨i∈x->Ag s.hp m i=s.hp i:=by
  intro i hi;rw[Bv,if_neg];intro hq;rcases hi with hi|hi
  ·exact (hml i hq).1 hi
  ·exact (hml i hq).2 hi
 have Vp:∀i,i∈lids∨i∈x->C8 (s.hp i):=by
  intro i hi;rcases hi with hi|hi
  ·exact (ZQ i hi).1
  ·obtain⟨cc,hcc⟩:=hx i hi;rw[hcc];trivial
 have Auj:∀i j id off,src i j=some (id,off)->id∈lids∨id∈x:=by
  intro i j id off hs;cases j with
  |zero=>exact .inl (hS.lent i id off hs)
  |succ j=>exact .inr (hS.mvd i j id off hs).2
 obtain⟨bt,T9⟩:∃bt:Wx,∀i j,bt i j=(src i j).bind (Gm β):=⟨_,fun _ _=>rfl⟩
 have btS:∀{i j b ob},bt i j=some (b,ob)->∃id off o',src i j=some (id,off)∧β id=some (b,o')∧ob=o'+off∧(id∈lids∨id∈x):=by
  intro i j b ob hb;rw[T9] at hb;cases hs:src i j with
  |none=>rw[hs] at hb;cases hb
  |some q=>
   rw[hs] at hb;obtain⟨id,off⟩:=q;simp only[Option.bind_some,Gm] at hb;cases hβ:β id with
   |none=>rw[hβ] at hb;cases hb
   |some p=>
    rw[hβ] at hb;obtain⟨b',o'⟩:=p;simp only[Option.map_some,Option.some.injEq,Prod.mk.injEq] at hb;obtain⟨rfl,rfl⟩:=hb;exact⟨id,off,o',rfl,hβ,rfl,Auj i j id off hs⟩
 have btX:∀{b},ZZ bt b->∃id o',β id=some (b,o')∧(id∈lids∨id∈x):=by
  rintro b ⟨i,j,ob,hb⟩
  obtain⟨id,off,o',_,h2,_,h4⟩:=btS hb;exact⟨id,o',h2,h4⟩
 have hBA:∀b,ZZ bt b->LW s.hp β b:=fun b hb=>by
  obtain⟨id,o',h1,h2⟩:=btX hb;exact⟨id,o',Vp id h2,h1⟩
 obtain⟨Yc,hYc⟩:∃Yc:Nat->Prop,∀b,Yc b↔((∃id ob,C8 (Ag s.hp m id)∧β id=some (b,ob)∧id ∉ lids∧id ∉ x)∨Y b):=⟨_,fun _=>Iff.rfl⟩
 have Cz:vs.length=c.args.toList.length:=by
  have:=(Ey m (fun _ hi=>hi) hm bt T9).len
  simpa using this
 have A5i:Ins w Yc bt vs (c.args.toList.map a.eval):=by
  refine⟨fun b hb=>?_,fun b hb hB=>?_,fun b hB=>?_,fun i j i' j' b ob ob' hb Hf=>?_,fun i q hq=>?_,?_⟩
  ·rcases (hYc b).1 hb with⟨id,ob,hl,hβ,_⟩|hY
   ·exact hf.blt id b ob (Cu hl) hβ
   ·exact Nat.lt_of_lt_of_le (h.Ylt b hY) h.fr.step.size
  ·obtain⟨id',o',h1,h2⟩:=btX hB;rcases (hYc b).1 hb with⟨id,ob,hl,hβ,h3,h4⟩|hY
   ·have:=hf.inj id id' b ob o' hl (by show C8 (Ag s.hp m id');rw[IY id' h2];exact Vp id' h2) hβ h1
    subst this;rcases h2 with h2|h2
    ·exact h3 h2
    ·exact h4 h2
   ·exact h.Yx b hY ⟨id',o',Vp id' h2,h1⟩
  ·obtain⟨id',o',h1,h2⟩:=btX hB;exact h.blt id' b o' (Cu (Vp id' h2)) h1
  ·obtain⟨id,off,o1,h1,h2,_,h4⟩:=btS hb;obtain⟨id',off',o1',KT,h2',_,h4'⟩:=btS Hf;have:=h.inj id id' b o1 o1' (Vp id h4) (Vp id' h4') h2 h2';subst this;cases j with
   |zero=>
    cases j' with
    |zero=>exact⟨hS.inj0 hnl i i' id off off' h1 KT,rfl⟩
    |succ j'=>exact absurd (hS.mvd i' j' id off' KT).2 (hlx id (hS.lent i id off h1))
   |succ j=>
    cases j' with
    |zero=>exact absurd (hS.mvd i j id off h1).2 (hlx id (hS.lent i' id off' KT))
    |succ j'=>
     obtain⟨h5,h6⟩:=hS.inj1 hnx i i' j j' id off off' h1 KT;exact⟨h5,by rw[h6]⟩
  ·obtain⟨b,ob⟩:=q;obtain⟨id,off,o',h1,_⟩:=btS hq;obtain⟨p,hp,h2⟩:=PW hL i id off (Nat.zero_le _) h1 (by have:=hS.dom i 0 _ h1;rw[Cz];exact this.2)
   exact⟨p,by simpa using hp,h2⟩
  ·refine (Ey m (fun _ hi=>hi) hm bt T9).weak fun b _ hb=>?_
   rcases hb with hb|hb
   ·obtain⟨id',o',h1,h2⟩:=btX hb;exact .inl ⟨id',o',by rw[IY id' h2];exact Vp id' h2,h1⟩
   ·rcases (hYc b).1 hb with⟨id,ob,hl,hβ,_⟩|hY
    ·exact .inl ⟨id,ob,hl,hβ⟩
    ·exact .inr hY
 unfold Oper.wp;rw[PY ho hc J0.ng hfn hfb];show Calls P f _ w _;have hca:c.args.map a.eval=(c.args.toList.map a.eval).toArray:=by rw[←List.map_toArray,Array.toArray_toList]
 rw[hca];refine (AO w Yc bt _ A5i (J0.fr w h.fr) (fun b x=>⟨Nat.lt_of_lt_of_le (J0.y b x).1 h.fr.step.size,fun hB=>(h.ownd b (hBA b hB)).elim (J0.y b x).2 (fun Y0=>absurd (J0.y b x).1 (Nat.not_lt.2 Y0))⟩)).mono ?_
 rintro e w' ⟨us,own,rfl,out⟩
 obtain⟨ha1,Jr⟩:=Bk Ny;obtain⟨hg1,hg2⟩:=D6 (hp:=Cs) Jr;have VL:=Pt Ny;rw[List.map_append,List.nodup_append] at VL;obtain⟨Bcy,Aus,Ax4⟩:=VL;rw[hbq] at Aus
 obtain⟨β1,hβ1,hβ2⟩:∃β1:Bt,(∀i,(∃bx,(i,bx)∈bs)->β1 i=own ((i-o.dst.getD N) / N))∧∀i,(¬∃bx,(i,bx)∈bs)->β1 i=match Sy qs i with|some j=>own j|none=>β i:=by
  refine⟨fun i=>if (bs.any fun q=>Nat.beq q.1 i)=true then own ((i-o.dst.getD N) / N) else match Sy qs i with|some j=>own j|none=>β i,fun i hi=>?_,fun i hi=>?_⟩
  ·show (if _ then _ else _)=_
   rw[if_pos (MJ.2 hi)]
  ·show (if _ then _ else _)=_
   rw[if_neg (fun hq=>hi (MJ.1 hq))]
 have hβbs:∀j,(∃bx,(o.dst.getD N+N*j,bx)∈bs)->β1 (o.dst.getD N+N*j)=own (0+j):=by
  intro j hj;rw[hβ1 _ hj,Nat.add_sub_cancel_left,Nat.mul_div_cancel_left _ hN,Nat.zero_add]
 have hqb:∀q∈qs,∃bx,(q.1,bx)∈bs':=by
  intro q hq;have:q.1∈bs'.map (·.1):=by rw[hbq];exact List.mem_map_of_mem hq
  obtain⟨⟨i,bx⟩,hm,e⟩:=List.mem_map.1 this;exact⟨bx,e ▸ hm⟩
 have A2m:∀i bx,(i,bx)∈bs'->∃j,(i,j)∈qs:=by
  intro i bx hm;have:i∈qs.map (·.1):=by rw[←hbq];exact List.mem_map.2 ⟨_,hm,rfl⟩
  obtain⟨⟨i',j⟩,hm,e⟩:=List.mem_map.1 this;exact⟨j,e ▸ hm⟩
 have hbb:∀i,(∃bx,(i,bx)∈bs')->¬∃bx,(i,bx)∈bs:=by
  rintro i ⟨bx,hm⟩ ⟨bx',I6⟩
  exact Ax4 i (List.mem_map.2 ⟨_,I6,rfl⟩) i (List.mem_map.2 ⟨_,hm,rfl⟩) rfl
 have hβqs:∀q∈qs,β1 q.1=own q.2:=by
  intro q hq;rw[hβ2 q.1 (hbb q.1 (hqb q hq)),Ah3 Aus q hq]
 have hβold:∀i,Cs i≠none->β1 i=β i:=by
  intro i hi
  have QK:¬∃bx,(i,bx)∈bs:=by
   rintro⟨bx,hm⟩
   exact hi (ha1 i bx (List.mem_append.2 (.inl hm)))
  rw[hβ2 i QK,RI];intro hm;obtain⟨q,hq,e⟩:=List.mem_map.1 hm;obtain⟨bx,Ku⟩:=hqb q hq;exact hi (ha1 i bx (List.mem_append.2 (.inr (e ▸ Ku))))
 obtain⟨Qx,hba⟩:=hws w' _ own β1 w.heap.size 0 us hβbs out.vals;obtain⟨A66,Auv⟩:=MK w' _ own β1 bt hβqs (fun i=>T9 i 0) out.outs
 have Al1:∀id∈lids,∃y∈l,id∈y.ids:=by
  intro id Bj;rw[←GP] at Bj;exact List.mem_flatMap.1 Bj
 have Ajj:∀id∈lids,(∃off c cs,s.hp id=some (.st c)∧Cs id=some (.st (Ce c cs off))∧off+cs.length<=c.length∧(∀p∈cs,∀i∈Ap p,∃bx,(i,bx)∈bs'))∨∃c cs,s.hp id=some (.ar false c)∧Cs id=some (.ar false cs):=by
  intro id Bj;obtain⟨y,hy,hyi⟩:=Al1 id Bj;have h1:=hsh y hy;cases y with
  |var id' off cts ws'=>
   simp only[Gc.ids,List.mem_singleton] at hyi;subst hyi;obtain⟨c1,cs,h2,h3,h4,h5,h6⟩:=h1;rw[WR id Bj] at h2;exact .inl ⟨off,c1,cs,h2,h3,h5,h6⟩
  |row id'=>
   simp only[Gc.ids,List.mem_singleton] at hyi;subst hyi;obtain⟨c1,cs,h2,h3⟩:=h1;rw[WR id Bj] at h2;exact .inr ⟨c1,cs,h2,h3⟩
  |none=>simp[Gc.ids] at hyi
 have A0w:∀id∈lids,Cs id≠none:=by
  intro id Bj;rcases Ajj id Bj with⟨_,_,_,_,h2,_⟩|⟨_,_,_,h2⟩<;>rw[h2]<;>simp
 have hpK:∀id,id ∉ lids->Cs id=R9 (Ag s.hp m) x id:=fun id Bj=>Ka id Bj
 have Pe:∀i,s.hp i≠none->Cs i≠none:=by
  intro i hi;by_cases hl:i∈lids
  ·exact A0w i hl
  ·rw[hpK i hl,Fm];have h1:Ag s.hp m i≠none:=fun e=>hi (Dx.1 e)
   split
   ·cases hq:Ag s.hp m i with
    |none=>exact absurd hq h1
    |some b=>simp
   ·exact h1
 have Akb:∀i,(s.hp i≠none∨∃bx,(i,bx)∈bs++bs')->Ar Cs (bs++bs') i≠none:=by
  rintro i (hi|⟨bx,hm⟩)
  ·have h1:=Pe i hi;rw[hg2 i (fun bx hm=>h1 (ha1 i bx hm))]
   exact h1
  ·rw[hg1 i bx hm];simp
 have G3:∀id,(∃bx,(id,bx)∈bs++bs')∨Ar Cs (bs++bs') id=Cs id:=fun id=>by
  by_cases hx:∃bx,(id,bx)∈bs++bs'
  ·exact .inl hx
  ·exact .inr (hg2 id fun bx hb=>hx ⟨bx,hb⟩)
 have hold:∀id bx,Cs id=some bx->C8 (some bx)->C8 (s.hp id)∧id ∉ x∧(id∈lids∨(id ∉ lids∧Ag s.hp m id=some bx)):=by
  intro id bx hb hl;by_cases Bj:id∈lids
  ·exact⟨Vp id (.inl Bj),hlx id Bj,.inl Bj⟩
  ·rw[hpK id Bj,Fm] at hb;split at hb
   ·cases hq:Ag s.hp m id with
    |none=>rw[hq] at hb;cases hb
    |some b=>rw[hq] at hb;simp at hb;subst hb;exact hl.elim
   ·rename_i hxn;exact⟨by rw[H0 hb hl];exact hl,hxn,.inr ⟨Bj,hb⟩⟩
 have Ug:∀i bx,(i,bx)∈bs++bs'->∃j,β1 i=own j∧((i=o.dst.getD N+N*j∧j<K6 rv)∨((i,j)∈qs∧K6 rv<=j)):=by
  intro i bx hm;rcases List.mem_append.1 hm with hm|hm
  ·obtain⟨⟨j,rfl,hj⟩,_⟩:=hba i bx hm;exact⟨j,by rw[hβbs j ⟨bx,hm⟩,Nat.zero_add],.inl ⟨rfl,hj⟩⟩
  ·obtain⟨j,hj⟩:=A2m i bx hm;exact⟨j,hβqs _ hj,.inr ⟨hj,(Ta _ hj).2⟩⟩
 have Alz:∀i bx,(i,bx)∈bs++bs'->C8 (some bx)∧Pr w' (CU bt own Yc) β1 i bx∧∀cs,bx=.st cs->∀b ob,β1 i=some (b,ob)->w.heap.size<=b:=by
  intro i bx hm;rcases List.mem_append.1 hm with hm|hm
  ·exact (hba i bx hm).2
  ·obtain⟨cc,rfl⟩:=Er i bx hm;exact⟨trivial,A66 i _ hm,fun cs e=>by cases e⟩
 have Aon:∀b,(∃i k o',bt i (k+1)=some (b,o'))->∃id o',id∈x∧β id=some (b,o'):=by
  rintro b ⟨i,k,o',hb⟩
  obtain⟨id,off,o1,h1,h2,_,_⟩:=btS hb;exact⟨id,o1,(hS.mvd i k id off h1).2,h2⟩
 have hX:∀b,b<w.heap.size->LW (Ar Cs (bs++bs')) β1 b->LW s.hp β b:=by
  rintro b hb ⟨id,ob,hl,hβ⟩
  rcases G3 id with⟨bx,hm⟩|e
  ·obtain⟨j,hj,_⟩:=Ug id bx hm;rw[hj] at hβ;obtain⟨id',o',h1,h2⟩:=Aon b ((out.fresh j b ob hβ).2 hb).1;exact⟨id',o',Vp id' (.inr h1),h2⟩
  ·rw[e] at hl;cases hq:Cs id with
   |none=>rw[hq] at hl;exact hl.elim
   |some bx=>
    rw[hq] at hl;exact⟨id,ob,(hold id bx hq hl).1,by rw[←hβold id (by rw[hq];simp)];exact hβ⟩
 have hAo:∀b,b<w.heap.size->C7 (Ar Cs (bs++bs')) β1 Y b->C7 s.hp β Y b:=fun b hb hA=>hA.imp (hX b hb) id
 have hAO:∀b,C7 (Ar Cs (bs++bs')) β1 Y b->CU bt own Yc b:=by
  rintro b (⟨id,ob,hl,hβ⟩|hY)
  ·rcases G3 id with⟨bx,hm⟩|e
   ·obtain⟨j,hj,_⟩:=Ug id bx hm;rw[hj] at hβ;exact .inl ⟨j,ob,hβ⟩
   ·rw[e] at hl;cases hq:Cs id with
    |none=>rw[hq] at hl;exact hl.elim
    |some bx=>
     rw[hq] at hl;rw[hβold id (by rw[hq];simp)] at hβ
     obtain⟨h1,h2,h3⟩:=hold id bx hq hl;rcases h3 with h3|⟨h3,h4⟩
     ·obtain⟨_,i,off,hs⟩:=ZQ id h3;exact .inr (.inl ⟨i,ob+off,by rw[T9,hs];simp[Gm,hβ]⟩)
     ·exact .inr (.inr ((hYc b).2 (.inl ⟨id,ob,by rw[h4];exact hl,hβ,h3,h2⟩)))
  ·exact .inr (.inr ((hYc b).2 (.inr hY)))
 have Ft:B8 (C7 s.hp β Y) w w':=out.ext.weaken (fun b _ hb=>.inl (hBA b hb))
 have Aky:∀i,s.hp i≠none->β1 i=β i:=fun i hi=>hβold i (Pe i hi)
 have hCL:∀b j,EJ bt vs b j->∃id o' bx,s.hp id=some bx∧C8 (some bx)∧β id=some (b,o')∧BR bx o' j:=by
  rintro b j ⟨i,p,hp,⟨k,ob,hb,Y0⟩|⟨ob,ps,hb,Y0,Pm⟩⟩
  ·obtain⟨id,off,o',h1,h2,h3,_⟩:=btS hb;obtain⟨h5,h6⟩:=hS.mvd i k id off h1;obtain⟨cc,hcc⟩:=hx id h6;exact⟨id,o',_,hcc,trivial,h2,show o'<=j by omega⟩
  ·obtain⟨id,off,o',h1,h2,h3,_⟩:=btS hb;rcases Afw hL i p id off hp (by rw[Nat.zero_add];exact h1) with⟨c1,wz,h5,h6,h7⟩|⟨⟨c1,h5⟩,_⟩
   ·rcases Pm with⟨h8,h9⟩|h8
    ·rw[h6] at h8;cases h8;exact⟨id,o',_,h5,trivial,h2,show o'<=j∧j<o'+c1.length by omega⟩
    ·rw[h6] at h8;cases h8
   ·exact⟨id,o',_,h5,trivial,h2,show o'<=j by omega⟩
 have hnL:∀id off cts wz,Gc.var id off cts wz∈l->id∈lids->∀b ob,β id=some (b,ob)->∀j,(j<off∨off+wz.length<=j)->(∃c1,s.hp id=some (.st c1))->¬EJ bt vs b (ob+j):=by
  rintro id off cts wz hy Bj b ob hβ j hj ⟨c1,GB⟩ ⟨i,p,hp,⟨k,ob',hb,Y0⟩|⟨ob',ps,hb,Y0,Pm⟩⟩
  ·obtain⟨id',off',o',h1,h2,h3,h4⟩:=btS hb;have:=h.inj id id' b ob o' (Vp id (.inl Bj)) (Vp id' h4) hβ h2;subst this;exact hlx id Bj (hS.mvd i k id off' h1).2
  ·obtain⟨id',off',o',h1,h2,h3,h4⟩:=btS hb;have:=h.inj id id' b ob o' (Vp id (.inl Bj)) (Vp id' h4) hβ h2;subst this;rw[hβ] at h2;cases h2;obtain⟨k,Ds,Ef⟩:=PZ hL hy;rw[Nat.zero_add] at Ef;have hik:=hS.inj0 hnl i k id off' off h1 Ef;subst hik;rw[h1] at Ef;cases Ef;rw[hp] at Ds;cases Ds;rcases Pm with⟨h8,h9⟩|h8
   ·cases h8;omega
   ·cases h8
 have hval:Ea w' (C7 (Ar Cs (bs++bs')) β1 Y) β1 (M0 ws (Nr P o.type)) (He us):=by
  have M6:Be (Hc w' (C7 (Ar Cs (bs++bs')) β1 Y) β1) ws us:=Qx.mono fun v u hvu=>hvu.step (B8.refl _ _) (fun b _=>hAO b) (fun _ _=>rfl)
  have Cz:=M6.len;cases hT:Nr P o.type
  ·rw[hT] at O8;have h1:ws.length=1:=Nat.eq_of_beq_eq_true O8
   match ws,us,h1,Cz with
   |[v],[u],_,_=>
    exact (Nm (UV v (by simp))).2 M6.1
  ·rw[hT] at O8
   have h1:¬ws.length=1:=by
    intro e;rw[e] at O8;cases O8
   have hr:He us=.tuple ⟨us⟩:=by
    unfold He;split
    ·simp at Cz;omega
    ·rfl
   rw[hr];exact⟨us,rfl,M6⟩
 have hvr:∀i∈Bs (M0 ws (Nr P o.type)),∃bx,(i,bx)∈bs:=by
  intro i hi;cases hT:Nr P o.type
  ·rw[hT] at O8 hi;have h1:ws.length=1:=Nat.eq_of_beq_eq_true O8
   match ws,h1 with
   |[v],_=>
    refine hrs v (by simp) i ?_
    have:Bs v=Ca v:=by
     have hn:=UV v (by simp)
     cases v<;>first|rfl|exact absurd rfl (hn _)
    rw[←this];exact hi
  ·rw[hT] at hi;obtain⟨v,hv,hi⟩:=List.mem_flatMap.1 (show i∈ws.flatMap Ca from hi)
   exact hrs v hv i hi
 refine hn _ w' β1 ?_;refine⟨by rw[Qg];exact h.dfr,by rw[Vm];exact h.tsz,LG Aas h.tmo,?_,?_,?_,?_,?_,?_,?_,?_,?_,?_,?_,h.Ylt,?_⟩
 ·refine Nu (Q:=fun _ p u=>Ea w' (C7 (Ar Cs (bs++bs')) β1 Y) β1 p u) h.tsz Aas (fun i hi=>?_) (fun _=>hval)
  exact (h.tms i hi).step Ft hAo fun id Bj=>Aky id (h.wfT i hi id Bj)
 ·intro id bx hb;simp only at hb;rcases G3 id with⟨bx',I6⟩|e
  ·rw[hg1 id bx' I6] at hb;cases hb;exact (Alz id _ I6).2.1.step' hAO
  ·rw[e] at hb;have hβ:=hβold id (by rw[hb];simp)
   by_cases Bj:id∈lids
   ·obtain⟨y,hy,hyi⟩:=Al1 id Bj;have h1:=Auv y hy;cases y with
    |var id' off cts wz=>
     simp only[Gc.ids,List.mem_singleton] at hyi;subst hyi;obtain⟨c1,cs,h2,h3,h4,h5,h6⟩:=h1;rw[WR id Bj] at h2;rw[h3] at hb;cases hb;obtain⟨b,ob,h7,h8,h9⟩:=h.box id _ h2;obtain⟨ZJ,h11⟩:=h6 b ob h7;have B7:=h.blt id b ob (by rw[h2];simp) h7
     have Zh:∀j,(j<off∨off+wz.length<=j)->w'.cell? ⟨b,ob+j,none⟩=w.cell? ⟨b,ob+j,none⟩∧w'.frozen? ⟨b,ob+j,none⟩=w.frozen? ⟨b,ob+j,none⟩:=
      fun j hj=>out.rng b (ob+j) B7 (hnL id off cts wz hy Bj b ob h7 j hj ⟨c1,h2⟩)
     refine⟨b,ob,hβ.trans h7,fun j p hj=>?_,fun j hj=>?_⟩
     ·rcases Px (by omega) hj with⟨h12,h13,h14⟩|⟨h12,h14⟩
      ·obtain⟨v,hv,QL⟩:=ZJ _ _ h14;refine⟨v,?_,QL.step (B8.refl _ _) (fun b _=>hAO b) (fun _ _=>rfl)⟩
       rw[show ob+j=ob+off+(j-off) by omega]
       exact hv
      ·obtain⟨v,hv,QL⟩:=h8 _ _ h14;refine⟨v,by rw[(Zh j (by omega)).1];exact hv,QL.step Ft hAo fun i hi=>Aky i (h.wfB id c1 h2 p (List.mem_of_getElem? h14) i hi)⟩
     ·rw[Qd (by omega)] at hj
      by_cases Ti:off<=j∧j<off+cs.length
      ·have:=h11 (j-off) (by omega)
       rw[show ob+off+(j-off)=ob+j by omega] at this
       exact this
      ·rw[(Zh j (by omega)).2]
       exact h9 j hj
    |row id'=>
     simp only[Gc.ids,List.mem_singleton] at hyi;subst hyi;obtain⟨cs,h3,h4⟩:=h1;rw[h3] at hb;cases hb;rcases h4 with⟨h5,h6⟩|⟨b,ob,h5,h6,h7⟩
     ·exact .inl ⟨hβ.trans h5,h6⟩
     ·exact .inr ⟨b,ob,hβ.trans h5,h6.weak (fun b _=>hAO b),fun _=>h7,(fun q=>by cases q)⟩
    |none=>simp[Gc.ids] at hyi
   ·rw[hpK id Bj,Fm] at hb;split at hb
    ·cases hq:Ag s.hp m id with
     |none=>rw[hq] at hb;cases hb
     |some b0=>rw[hq] at hb;simp at hb;subst hb;trivial
    ·rename_i hxn;have Ku:=hf.box id bx hb
     have Afm:∀b ob,β id=some (b,ob)->bx ≠ .mv->b<w.heap.size∧w'.heap[b]?=w.heap[b]?:=by
      intro b ob GJ hmv;have B7:=hf.blt id b ob (by show Ag s.hp m id≠none;rw[hb];simp) GJ
      refine⟨B7,out.ext.keep b B7 fun hB=>?_⟩
      obtain⟨id',o',h1,h2⟩:=btX hB;have Je:C8 (Ag s.hp m id'):=by rw[IY id' h2];exact Vp id' h2
      have LB:id≠id':=by
       rintro rfl
       rcases h2 with h2|h2
       ·exact Bj h2
       ·exact hxn h2
      cases bx with
      |st cc=>exact LB (hf.inj id id' b ob o' (by show C8 (Ag s.hp m id);rw[hb];trivial) Je GJ h1)
      |ar fz cc=>
       cases fz with
       |false=>exact LB (hf.inj id id' b ob o' (by show C8 (Ag s.hp m id);rw[hb];trivial) Je GJ h1)
       |true=>
        rcases Ku with⟨h3,_⟩|⟨b2,o2,h3,_,_,h4⟩
        ·rw[GJ] at h3;cases h3
        ·rw[GJ] at h3;cases h3;exact h4 rfl (.inl ⟨id',o',Je,h1⟩)
      |mv=>exact hmv rfl
     have hAoF:∀b,b<w.heap.size->C7 (Ar Cs (bs++bs')) β1 Y b->C7 (Ag s.hp m) β Y b:=by
      intro b Er hA;rcases hA with⟨i,ob,hl,hβi⟩|hY
      ·rcases G3 i with⟨bx1,HH⟩|e1
       ·obtain⟨j,hj,_⟩:=Ug i bx1 HH;rw[hj] at hβi;obtain⟨id',o',h1,h2⟩:=Aon b ((out.fresh j b ob hβi).2 Er).1;exact .inl ⟨id',o',by rw[IY id' (.inr h1)];exact Vp id' (.inr h1),h2⟩
       ·rw[e1] at hl;cases hq:Cs i with
        |none=>rw[hq] at hl;exact hl.elim
        |some bx1=>
         rw[hq] at hl;rw[hβold i (by rw[hq];simp)] at hβi
         obtain⟨h1,h2,h3⟩:=hold i bx1 hq hl;rcases h3 with h3|⟨h3,h4⟩
         ·exact .inl ⟨i,ob,by rw[IY i (.inl h3)];exact h1,hβi⟩
         ·exact .inl ⟨i,ob,by rw[h4];exact hl,hβi⟩
      ·exact .inr hY
     have Auz:B8 (C7 (Ag s.hp m) β Y) w w':=out.ext.weaken (fun b _ hB=>by
      obtain⟨id',o',h1,h2⟩:=btX hB;exact .inl ⟨id',o',by rw[IY id' h2];exact Vp id' h2,h1⟩)
     cases bx with
     |st cc=>
      obtain⟨b,ob,h1,h2,h3⟩:=Ku;obtain⟨B7,Pj⟩:=Afm b ob h1 (by simp)
      refine⟨b,ob,hβ.trans h1,fun j p hj=>?_,fun j hj=>?_⟩
      ·obtain⟨v,hv,QL⟩:=h2 j p hj;refine⟨v,by rw[World.cell?_of_block (w:=w) Pj];exact hv,QL.step Auz hAoF fun i hi=>?_⟩
       refine Aky i (fun e1=>?_)
       exact hf.wfB id cc hb p (List.mem_of_getElem? hj) i hi (Dx.2 e1)
      ·rw[World.frozen?_of_block (w:=w) Pj];exact h3 j hj
     |ar fz cc=>
      rcases Ku with⟨h1,h2⟩|⟨b,ob,h1,h2,h3,h4⟩
      ·exact .inl ⟨hβ.trans h1,h2⟩
      ·obtain⟨B7,Pj⟩:=Afm b ob h1 (by simp)
       have GI:bsz w' b=bsz w b:=by unfold bsz;rw[Pj]
       refine .inr ⟨b,ob,hβ.trans h1,fun j p hj=>?_,fun e1 j hj Q4=>?_,fun e1 q=>h4 e1 (hAoF b B7 q)⟩
       ·obtain⟨v,hv,h5,GB⟩:=h2 j p hj;exact⟨v,by rw[World.cell?_of_block (w:=w) (by rw[Em];exact Pj)];exact hv,h5,GB.step Auz hAoF⟩
       ·rw[World.frozen?_of_block (w:=w) Pj];exact h3 e1 j hj (by rw[←GI];exact Q4)
     |mv=>trivial
 ·intro id id' b ob ob' hl Je hb Hf;simp only at hl Je
  have mixed:∀i bx i' k z,(i,bx)∈bs++bs'->β1 i=some (k,z)->Cs i'≠none->C8 (Cs i')->∀z',β1 i'=some (k,z')->False:=by
   intro i bx i' k z HH hz QK FZ z' hz';obtain⟨j,hj,_⟩:=Ug i bx HH;rw[hj] at hz;rw[hβold i' QK] at hz';cases hq:Cs i' with
   |none=>exact QK hq
   |some bx1=>
    rw[hq] at FZ;obtain⟨h1,h2,h3⟩:=hold i' bx1 hq FZ;have B7:=h.blt i' k z' (Cu h1) hz';obtain⟨id2,o2,h4,h5⟩:=Aon k ((out.fresh j k z hz).2 B7).1;have:=h.inj i' id2 k z' o2 h1 (Vp id2 (.inr h4)) hz' h5;subst this;exact h2 h4
  rcases G3 id with⟨bx,HH⟩|e1
  ·rcases G3 id' with⟨bx',hm2⟩|e2
   ·obtain⟨j,hj,Pm⟩:=Ug id bx HH;obtain⟨j',Q4,Awe⟩:=Ug id' bx' hm2;rw[hj] at hb;rw[Q4] at Hf;have:=out.inj j j' b ob ob' hb Hf;subst this;rcases Pm with⟨h1,h2⟩|⟨h1,h2⟩
    ·rcases Awe with⟨h3,_⟩|⟨_,h4⟩
     ·rw[h1,h3]
     ·omega
    ·rcases Awe with⟨_,h4⟩|⟨h3,_⟩
     ·omega
     ·exact Jd _ h1 _ h3 rfl
   ·rw[e2] at Je;exact (mixed id bx id' b ob HH hb (Cu Je) Je ob' Hf).elim
  ·rw[e1] at hl;rcases G3 id' with⟨bx',hm2⟩|e2
   ·exact (mixed id' bx' id b ob' hm2 Hf (Cu hl) hl ob hb).elim
   ·rw[e2] at Je
    have g:∀i,C8 (Cs i)->C8 (s.hp i)∧β1 i=β i:=by
     intro i hli;cases hq:Cs i with
     |none=>rw[hq] at hli;exact hli.elim
     |some bx1=>exact⟨(hold i bx1 hq (by rw[←hq];exact hli)).1,hβold i (by rw[hq];simp)⟩
    rw[(g id hl).2] at hb;rw[(g id' Je).2] at Hf;exact h.inj id id' b ob ob' (g id hl).1 (g id' Je).1 hb Hf
 ·intro id b ob QK hb;simp only at QK;rcases G3 id with⟨bx,HH⟩|e1
  ·obtain⟨j,hj,_⟩:=Ug id bx HH;rw[hj] at hb;exact (out.fresh j b ob hb).1
  ·rw[e1] at QK;rw[hβold id QK] at hb
   have hn2:s.hp id≠none:=by
    by_cases Bj:id∈lids
    ·exact Cu (Vp id (.inl Bj))
    ·rw[hpK id Bj,Fm] at QK;intro e2;have h1:Ag s.hp m id=none:=Dx.2 e2;rw[h1] at QK;split at QK<;>exact QK rfl
   exact Nat.lt_of_lt_of_le (h.blt id b ob hn2 hb) out.ext.size
 ·have:=Nu (Q:=fun _ p _=>∀id∈Bs p,Ar Cs (bs++bs') id≠none) (val:=He us) (d:=o.dst) (v:=M0 ws (Nr P o.type)) h.tsz Aas (fun i hi id Bj=>Akb id (.inl (h.wfT i hi id Bj))) (fun _ id Bj=>Akb id (.inr (by
   obtain⟨bx,hb⟩:=hvr id Bj;exact⟨bx,List.mem_append.2 (.inl hb)⟩)))
  exact this
 ·intro id cells KY p hp i hi;simp only at KY;refine Akb i ?_;rcases G3 id with⟨bx,HH⟩|e1
  ·rw[hg1 id bx HH] at KY;cases KY;rcases List.mem_append.1 HH with HH|HH
   ·obtain⟨bx1,hb⟩:=SR id cells HH p hp i hi;exact .inr ⟨bx1,List.mem_append.2 (.inl hb)⟩
   ·obtain⟨cc,e2⟩:=Er id _ HH;cases e2
  ·rw[e1] at KY;by_cases Bj:id∈lids
   ·rcases Ajj id Bj with⟨off,c1,cs,h1,h2,h3,h4⟩|⟨c1,cs,h1,h2⟩
    ·rw[h2] at KY;cases KY;unfold Ce at hp;rcases List.mem_append.1 hp with hp|hp
     ·rcases List.mem_append.1 hp with hp|hp
      ·exact .inl (h.wfB id c1 h1 p (List.mem_of_mem_take hp) i hi)
      ·obtain⟨bx1,hb⟩:=h4 p hp i hi;exact .inr ⟨bx1,List.mem_append.2 (.inr hb)⟩
     ·exact .inl (h.wfB id c1 h1 p (List.mem_of_mem_drop hp) i hi)
    ·rw[h2] at KY;cases KY
   ·obtain⟨_,_,h3⟩:=hold id _ KY trivial;rcases h3 with h3|⟨_,h3⟩
    ·exact absurd h3 Bj
    ·exact .inl (h.wfB id cells (H0 h3 trivial) p hp i hi)
 ·rintro b ⟨id,ob,hl,hβ⟩
  rcases Nat.lt_or_ge b w.heap.size with B7|hge
  ·exact h.ownd b (hX b B7 ⟨id,ob,hl,hβ⟩)
  ·exact .inr (Nat.le_trans h.fr.step.size hge)
 ·intro id bx b ob hb hl hβ B7 j hj;simp only at hb;have hlw:=Nat.lt_of_lt_of_le B7 h.fr.step.size;rcases G3 id with⟨bx',HH⟩|e1
  ·rw[hg1 id bx' HH] at hb;cases hb;obtain⟨k,hk,_⟩:=Ug id bx HH;rw[hk] at hβ
   have Y0:ob<=j:=by
    cases bx with
    |st cc=>exact hj.1
    |ar fz cc=>exact hj
    |mv=>exact hl.elim
   obtain⟨id2,o2,bx2,h1,h2,h3,h4⟩:=hCL b j (((out.fresh k b ob hβ).2 hlw).2 j Y0);exact h.rngB id2 bx2 b o2 h1 h2 h3 B7 j h4
  ·rw[e1] at hb;rw[hβold id (by rw[hb];simp)] at hβ
   obtain⟨h1,h2,h3⟩:=hold id bx hb hl;rcases h3 with h3|⟨h3,h4⟩
   ·rcases Ajj id h3 with⟨off,c1,cs,h5,h6,h7,_⟩|⟨c1,cs,h5,h6⟩
    ·rw[h6] at hb;cases hb;have hj:ob<=j∧j<ob+(Ce c1 cs off).length:=hj;rw[Qd (by omega)] at hj
     exact h.rngB id _ b ob h5 trivial hβ B7 j hj
    ·rw[h6] at hb;cases hb;exact h.rngB id _ b ob h5 trivial hβ B7 j hj
   ·exact h.rngB id bx b ob (H0 h4 hl) hl hβ B7 j hj
 ·intro i hi;obtain⟨h1,h2⟩:=h.pin i hi;exact⟨Akb _ (.inl h1),by rw[Aky _ h1];exact h2⟩
 ·intro id cc b ob hb hβ B7;simp only at hb;have hlw:=Nat.lt_of_lt_of_le B7 h.fr.step.size;rcases G3 id with⟨bx',HH⟩|e1
  ·rw[hg1 id bx' HH] at hb;cases hb;have:=(Alz id _ HH).2.2 cc rfl b ob hβ;omega
  ·rw[e1] at hb;rw[hβold id (by rw[hb];simp)] at hβ
   obtain⟨h1,h2,h3⟩:=hold id _ hb trivial;rcases h3 with h3|⟨h3,h4⟩
   ·rcases Ajj id h3 with⟨off,c1,cs,h5,h6,h7,_⟩|⟨c1,cs,h5,h6⟩
    ·exact h.stp id c1 b ob h5 hβ B7
    ·rw[h6] at hb;cases hb
   ·exact h.stp id cc b ob (H0 h4 trivial) hβ B7
 ·intro b hY hXb;exact h.Yx b hY (hX b (Nat.lt_of_lt_of_le (h.Ylt b hY) h.fr.step.size) hXb)
 ·refine⟨out.os.trans h.fr.os,out.tape.trans h.fr.tape,out.output.trans h.fr.output,⟨Nat.le_trans h.fr.step.size out.ext.size,fun b hb hnX=>?_,fun b hb=>(h.fr.step.bs b hb).trans (out.ext.bs b (Nat.lt_of_lt_of_le hb h.fr.step.size))⟩,fun b j hb hnL=>?_⟩
  ·rw[out.ext.keep b (Nat.lt_of_lt_of_le hb h.fr.step.size) ?_]
   ·exact h.fr.step.keep b hb hnX
   ·intro hB;rcases h.ownd b (hBA b hB) with hq|hq
    ·exact hnX hq
    ·omega
  ·have LB:¬EJ bt vs b j:=by
    intro hq;obtain⟨id2,o2,bx2,h1,h2,h3,h4⟩:=hCL b j hq;exact hnL (h.rngB id2 bx2 b o2 h1 h2 h3 hb j h4)
   obtain⟨h1,h2⟩:=out.rng b j (Nat.lt_of_lt_of_le hb h.fr.step.size) LB;rw[h1,h2];exact h.fr.rng b j hb hnL
end
open Go.RowKit
section
variable {R:Type} {r:R} {P:Program} {N:Nat} {w0:World} {X0:Hg} {Y:Nat->Prop} {β β':Bt} {s:St} {a:Act} {w w':World} {o:Oper} {A:Nat->Prop}
theorem MS (h:Cr N w0 X0 Y β s a w){c:Call}(ho:o.op=.call c)(hc:c.callee=.builtin .append){d:Nat}(Aas:o.dst=some d){b x:Operand}(Ey:c.args.toList=[b,x]) {t tx:TypeId}{ts:List TypeId}(Z1:c.argTypes.toList=t::tx::ts)
  {K:St->Option R} (hk:Nd P N s d t tx (Bz s.tm b) (Bz s.tm x) K=some r):
  ∃s',K s'=some r∧∀(next:Act->World->Prop) (Q:Exit->Act->World->Prop),(∀a' w' β',Cr N w0 X0 Y β' s' a' w'->next a' w')->o.wp P a w next Q:=by
 have DX:c.args = #[b,x]:=by
  have:c.args=([b,x]:List Operand).toArray:=by rw[←Ey]
  exact this
 have PT:c.argTypes=(t::tx::ts).toArray:=by rw[←Z1]
 have run:∀{v:Value} {w1:World},(Builtin.append_ (t::tx::ts).toArray o.type #[a.eval b,a.eval x]).run P w=.ok v w1->∀(next:Act->World->Prop) (Q:Exit->Act->World->Prop),next (a.put (some d) v) w1->o.wp P a w next Q:=by
  intro v w1 hr next Q hn;unfold Oper.wp execOp;rw[ho];simp only[resolve,hc,invoke,builtin,Sem.run_bind,Sem.run_pure,Result.andThen_ok,DX,PT];have:(#[b,x]:Array Operand).map a.eval = #[a.eval b,a.eval x]:=by simp
  rw[this,hr];show next (a.put o.dst v) w1;rw[Aas];exact hn
 have hbv:=Cv h b;have NH:=Ex h b;unfold Nd at hk;split at hk
 ·rename_i e hu;obtain⟨hzi,hk⟩:=Al hk;obtain⟨i,z,hi,hz,hzs,M3⟩:=CC hzi;cases hit:V1 P tx
  rotate_left
  ·rw[hit] at hk;simp only[cond_true] at hk
   obtain⟨ki,htx⟩:∃k,P.underlying tx=some (.int k):=by
    unfold V1 at hit;split at hit
    ·exact⟨_,by assumption⟩
    ·cases hit
   unfold R8 at hk;obtain⟨kx,n,hx,hk⟩:=Di hk;obtain⟨zz,n',c',hk,hp⟩:=E6 hk;obtain⟨hb,hk⟩:=Al hk;simp only[Bool.and_eq_true,decide_eq_true_eq] at hb;obtain⟨⟨⟨⟨⟨hzz,hdN⟩,S4⟩,Wz⟩,YW⟩,GM⟩:=hb;have hdN:d<N:=Nat.lt_of_succ_le (Nat.le_of_ble_eq_true hdN);have S4:s.hp d=none:=by simpa using S4
   have SN:Fz N (some d)=true:=by simp[Fz,Nat.blt];omega
   have Rl:((P.info? e).map (·.bytes)).getD 0=i.bytes:=by rw[hi];rfl
   rw[Rl] at YW;rw[M3] at hk;have Db:=B6 h hx;rcases F7 hp hbv with⟨Ny,_⟩|⟨_,_,_,CH,_⟩|⟨_,_,_,CH,_⟩
   ·refine⟨_,hk,fun next Q hn=>?_⟩
    by_cases hm0:n=0
    ·subst hm0;have hr:=Yi (P:=P) (w:=w) (t:=t) (tx:=tx) (ty:=o.type) (ts:=ts) (kx:=kx) hu htx hi;rw[←Ny,←Db] at hr;refine run hr next Q (hn _ _ (Cn β d none) ?_);rw[Ny];refine h.stepR (d:=some d) (nw:=[(d,.ar false [])]) (β':=Cn β d none) SN (by simp[Bq,S4]) ⟨rfl,rfl,rfl,B8.refl _ _,fun j hj=>Aj _ _ (by rintro rfl;exact hj S4),?_,?_,?_,?_,?_,.inl ⟨Am _ _ _,rfl,rfl,none,rfl⟩,?_⟩
     ·intro j bx hm;simp at hm;rw[hm.2];trivial
     ·intro j bx hm;simp at hm;obtain⟨rfl,rfl⟩:=hm;exact .inl ⟨Am _ _ _,rfl⟩
     ·intro j bx k q hm hq;simp at hm;obtain⟨rfl,rfl⟩:=hm;rw[Am] at hq;cases hq
     ·intro j bx j' bx' k q q' hm I6 _ _;simp at hm I6;rw[hm.1,I6.1]
     ·intro j cells hm;simp at hm
     ·intro j hj;simp[Bs,Ca,Ap] at hj;subst hj;exact .inr ⟨.ar false [],by simp⟩
    ·have hr:=Zp (P:=P) (w:=w) (t:=t) (tx:=tx) (ty:=o.type) (ts:=ts) (kx:=kx) hu htx hi hz (n:=n) (by omega) YW GM
     rw[←Ny,←Db] at hr;refine run hr next Q (hn _ _ (Cn β d (some (w.heap.size,0))) ?_);have hge:n.toNat<=grownCap w n.toNat 0 e:=grownCap_ge w n.toNat 0 e;generalize AO:((if n.toNat*i.size=0 then #[] else Builtin.zeroCells z.cells n.toNat)++Builtin.zeroCells z.cells (grownCap w n.toNat 0 e-n.toNat))=cs
     have Tq:F2 w (w.drew.alloc (.cells cs e)) cs e:=
      ⟨rfl,rfl,rfl,fun k hk=>Below.heap_alloc w.drew _ k hk,by show (w.heap.push _).size=_;simp,(0,0),by show (w.heap.push _)[w.heap.size]?=_;simp,.inl rfl⟩
     have SZ:cs.size=grownCap w n.toNat 0 e*i.size:=by
      rw[←AO];by_cases SH:n.toNat*i.size=0
      ·rw[if_pos SH]
       have hi0:i.size=0:=by
        rcases Nat.mul_eq_zero.1 SH with h|h
        ·omega
        ·exact h
       simp[size_zeroCells,hzs,hi0]
      ·rw[if_neg SH];simp only[Array.size_append,size_zeroCells,hzs,←Nat.add_mul]
       congr 1
       omega
     refine h.stepR (d:=some d) (nw:=[(d,.ar false [])]) SN (by simp[Bq,S4]) (O6 Tq S4 trivial ?_ (fun cells hx=>by cases hx) ?_ (by intro j hj;simp[Bs,Ca,Ap] at hj;exact .inr hj))
     ·refine .inr ⟨w.heap.size,0,Am _ _ _,fun j p hj=>by simp at hj,fun _ j _ hj=>?_,(fun q=>by cases q)⟩
      rw[Tq.bsz] at hj;exact Tq.frozen hj
     ·refine .inr ⟨w.heap.size,0,0,grownCap w n.toNat 0 e,Am _ _ _,rfl,.inl rfl,hge,?_,by rw[Tq.size];omega⟩
      exact⟨by rw[Tq.bsz,SZ];omega,.inr (Js w.drew _ e)⟩
   ·rw[CH] at hzz;cases hzz
   ·rw[CH] at hzz;cases hzz
  rw[hit] at hk;simp only[cond_false] at hk;have Rl:((P.info? e).map (·.bytes)).getD 0=i.bytes:=by rw[hi];rfl
  obtain⟨⟨dx,hdx,PO⟩,m,new,news,hk,hs⟩:=BX h hk (by
   intro m new hk;split at hk
   ·split at hk
    ·obtain⟨hb,_⟩:=Al hk;simp only[Bool.and_eq_true,decide_eq_true_eq] at hb;have he:=Nat.eq_of_beq_eq_true hb.1.1.1.1.1.1.1;rw[←he];exact hb.1.1.2
    ·cases hk
   ·obtain⟨zz,n',c',hk,_⟩:=E6 hk;obtain⟨hb,_⟩:=Al hk;simp only[Bool.and_eq_true,decide_eq_true_eq] at hb;exact hb.1.1.2)
  rw[M3] at hs;have hnl:new.length=news.length:=hs.rep.len;split at hk
  ·rename_i id es off n eb;rw[eb] at hbv NH;split at hk
   ·rename_i cc h0;obtain⟨hb,Ef⟩:=Al hk;simp only[Bool.and_eq_true,decide_eq_true_eq] at hb;obtain⟨⟨⟨⟨⟨⟨⟨S0,N0⟩,hdN⟩,S4⟩,A4h⟩,XK⟩,YW⟩,GM⟩:=hb;have S0:=Nat.eq_of_beq_eq_true S0;have N0:=Nat.eq_of_beq_eq_true N0;have hdN:d<N:=Nat.lt_of_succ_le (Nat.le_of_ble_eq_true hdN);have S4:s.hp d=none:=by simpa using S4
    subst N0;rw[M3] at S0;subst S0;rw[Rl] at YW;have Y2:news.length=m*i.size:=by omega
    have Bdi:s.hp id≠none:=by rw[h0];simp
    have YK:=h.box id _ h0;refine⟨_,Ef,fun next Q hn=>?_⟩
    have grow:∀(ad:Option Addr) (cap:Nat) (olds:List Value),a.eval b=.slice ad n cap->Be (Aw w (C7 s.hp β Y)) (cc.take (n*i.size)) olds->(∀u∈olds,u.oneCell'=true)->olds.length=n*i.size ->
      ((ad=none∧olds=[])∨∃p,ad=some p∧olds.length=n*i.size∧∀(j:Nat) v,olds[j]?=some v->w.cell? (p.add j)=some v)->cap<n+m->o.wp P a w next Q:=by
     intro ad cap olds Ny holds h1 hol hold T8;have hr:=K4 (P:=P) (w:=w) (t:=t) (tx:=tx) (ty:=o.type) (ts:=ts) hu hdx PO hi hz hs hold T8 YW GM;rw[←Ny] at hr;refine run hr next Q (hn _ _ (Cn β d (some (w.heap.size,0))) ?_);have hge:n+m<=grownCap w (n+m) cap e:=grownCap_ge w (n+m) cap e
     have Tq:F2 w (w.drew.alloc (.cells (olds.toArray++news.toArray++Builtin.zeroCells z.cells (grownCap w (n+m) cap e-(n+m))) e)) (olds.toArray++news.toArray++Builtin.zeroCells z.cells (grownCap w (n+m) cap e-(n+m))) e:=
      ⟨rfl,rfl,rfl,fun k hk=>Below.heap_alloc w.drew _ k hk,by show (w.heap.push _).size=_;simp,(0,0),by show (w.heap.push _)[w.heap.size]?=_;simp,.inl rfl⟩
     have SZ:(olds.toArray++news.toArray++Builtin.zeroCells z.cells (grownCap w (n+m) cap e-(n+m))).size=grownCap w (n+m) cap e*i.size:=by
      simp only[Array.size_append,List.size_toArray,size_zeroCells,hzs,hol,Y2,←Nat.add_mul]
      congr 1
      omega
     have MI:∀k y,some (w.heap.size,0)=some (k,y)->w.heap.size<=k∨∃q,β id=some (k,q):=by
      intro k y hh;simp at hh;exact .inl (by omega)
     refine h.move h0 S4 hdN rfl rfl rfl (by rw[Tq.size];omega) (fun k hk _=>Tq.old k hk) Tq.step.bs (fun k y hh=>⟨by simp at hh;rw[Tq.size];omega,MI k y hh⟩) (fun k y hh B7=>by simp at hh;omega)
      (fun k y _ B7 j _=>⟨World.cell?_of_block (w:=w) (Tq.old k B7),World.frozen?_of_block (w:=w) (Tq.old k B7)⟩) ?_ ?_ (by intro j hj;simpa [Bs,Ca,Ap] using hj)
     ·refine .inr ⟨w.heap.size,0,Am _ _ _,DI Tq (VR h0 S4 MI) holds hs.rep h1 hs.one,fun _ j _ hj=>?_,(fun q=>by cases q)⟩
      rw[Tq.bsz] at hj;exact Tq.frozen hj
     ·refine .inr ⟨w.heap.size,0,0,grownCap w (n+m) cap e,Am _ _ _,rfl,.inl rfl,hge,?_,by rw[Tq.size];omega⟩
      exact⟨by rw[Tq.bsz,SZ];omega,.inr (Js w.drew _ e)⟩
    rcases hbv with⟨hβ,_,rfl,ad,Ny⟩|⟨bb,ob,y,cap,hβ,Ny,hy,Avn,T8,Atp⟩
    ·rcases YK with⟨_,rfl⟩|⟨b',o',Er,_⟩
     ·by_cases hm0:m=0
      ·subst hm0;have hr:=K2 (P:=P) (w:=w) (t:=t) (tx:=tx) (ty:=o.type) (ts:=ts) (ad:=ad) hu hdx PO hi hs (List.eq_nil_of_length_eq_zero (by omega))
       rw[←Ny] at hr;have RR:new=[]:=List.eq_nil_of_length_eq_zero (by omega)
       subst RR;refine run hr next Q (hn _ _ (Cn β d none) ?_);rw[Ny];refine h.move h0 S4 hdN rfl rfl rfl (Nat.le_refl _) (fun _ _ _=>rfl) (fun _ _=>Gn.refl _ _) (fun k q hh=>by cases hh) (fun k q hh=>by cases hh) (fun _ _ _ _ _ _=>⟨rfl,rfl⟩) ?_ ?_ (by intro j hj;simpa [Bs,Ca,Ap] using hj)
       ·exact .inl ⟨Am _ _ _,by simp⟩
       ·exact .inl ⟨Am _ _ _,rfl,rfl,ad,rfl⟩
      ·exact grow ad 0 [] Ny (by simp[Be]) (by simp) (by simp) (by cases ad with
        |none=>exact .inl ⟨rfl,rfl⟩
        |some p=>exact .inr ⟨p,rfl,by simp,fun j v hj=>by simp at hj⟩) (by omega)
     ·rw[hβ] at Er;cases Er
    ·rcases YK with⟨Er,_⟩|⟨b',o',Er,Ho,Uf,_⟩
     ·rw[hβ] at Er;cases Er
     rw[hβ] at Er;simp at Er;obtain⟨rfl,rfl⟩:=Er;have hy:y=ob:=by rcases hy with hy|⟨_,hq⟩<;>omega
     subst hy;by_cases Ag8:n+m<=cap
     ·have Auc:y+n*i.size+news.length<=bsz w bb:=by
       have h5:n*i.size+m*i.size<=cap*i.size:=by rw[←Nat.add_mul];exact Nat.mul_le_mul_right _ Ag8
       have:=T8.1;omega
      have Cx:∀k,k<news.length->(w.cell? ⟨bb,y+n*i.size+k,none⟩).isSome=true:=fun k hk=>Aef (by omega)
      have hr:=Z7 (P:=P) (w:=w) (t:=t) (tx:=tx) (ty:=o.type) (ts:=ts) (b:=bb) (ob:=y) (n:=n) (cap:=cap) hu hdx PO hi hs Y2 Cx (fun k hk=>Uf rfl _ (by omega) (by omega)) Ag8
      rw[←Ny] at hr;have hw:=Dp.setCells bb news (y+n*i.size) w
      have MI:∀k q,some (bb,y)=some (k,q)->w.heap.size<=k∨∃q',β id=some (k,q'):=by
       intro k q hh;simp at hh;obtain⟨rfl,rfl⟩:=hh;exact .inr ⟨_,hβ⟩
      refine run hr next Q (hn _ _ (Cn β d (some (bb,y))) ?_)
      have Ft:B8 (C7 s.hp β Y) w (w.setCells bb (y+n*i.size) news):=by
       have hAb:C7 s.hp β Y bb:=.inl ⟨id,y,by rw[h0];trivial,hβ⟩
       exact⟨by rw[hw.size];exact Nat.le_refl _,fun k _ hk=>hw.other k (fun e=>hk (e ▸ hAb)),fun k _=>hw.grow k⟩
      refine h.move h0 S4 hdN hw.os hw.tape hw.output (by rw[hw.size];exact Nat.le_refl _) (fun k _ hq=>hw.other k (by rintro rfl;exact hq _ hβ)) Ft.bs (fun k q hh=>⟨by simp at hh;rw[hw.size];omega,MI k q hh⟩) (fun k q hh _=>by rw[hβ];exact hh)
       (fun k q hh _ j hj=>by
        rw[hβ] at hh;cases hh;exact⟨World.cell?_setCells_out bb _ _ w ⟨bb,j,none⟩ (fun _ _=>by show j<y+n*i.size∨y+n*i.size+_<=j;omega),hw.frz j⟩) ?_ ?_ (by intro j hj;simpa [Bs,Ca,Ap] using hj)
      ·refine .inr ⟨bb,y,Am _ _ _,fun j p hj=>?_,fun _ j hj Q4=>?_,(fun q=>by cases q)⟩
       ·rw[Eh];by_cases hjn:j<n*i.size
        ·rw[List.getElem?_append_left (by rw[List.length_take];omega),List.getElem?_take_of_lt hjn] at hj
         obtain⟨u,H9,h5,ht⟩:=Ho j p hj;rw[Eh] at H9;refine⟨u,?_,h5,ht.step Ft (VR h0 S4 MI)⟩;rw[World.cell?_setCells_out bb _ _ w ⟨bb,y+j,none⟩ (fun _ _=>by show y+j<y+n*i.size∨y+n*i.size+_<=y+j;omega)]
         exact H9
        ·rw[List.getElem?_append_right (by rw[List.length_take];omega),List.length_take,Nat.min_eq_left A4h] at hj
         obtain⟨u,H9,ht⟩:=hs.rep.get hj
         have B7:j-n*i.size<news.length:=by
          rcases Nat.lt_or_ge (j-n*i.size) news.length with h|h
          ·exact h
          ·rw[List.getElem?_eq_none h] at H9;cases H9
         refine⟨u,?_,hs.one u (List.mem_of_getElem? H9),ht.step Ft (VR h0 S4 MI)⟩;have:=World.cell?_setCells_in bb news (y+n*i.size) w Cx (j-n*i.size) B7;rw[show y+j=y+n*i.size+(j-n*i.size) from by omega,this]
         rw[List.getElem?_eq_getElem B7] at H9;exact H9
       ·rw[hw.bs] at Q4;rw[hw.frz];exact Uf rfl j hj Q4
      ·exact .inr ⟨bb,y,y,cap,Am _ _ _,rfl,.inl rfl,Ag8,T8.step (hw.grow bb),by rw[hw.size];exact Atp⟩
     ·-- the old cells
      have hob:∀(j:Nat) p,(cc.take (n*i.size))[j]?=some p->∃v,w.cell? ⟨bb,y+j,none⟩=some v∧v.oneCell'=true∧Aw w (C7 s.hp β Y) p v:=by
       intro j p hj;rw[List.getElem?_take] at hj;split at hj
       ·obtain⟨v,hv,h5,ht⟩:=Ho j p hj;rw[Eh] at hv;exact⟨v,hv,h5,ht⟩
       ·cases hj
      have Cz:(cc.take (n*i.size)).length=n*i.size:=by rw[List.length_take];omega
      refine grow _ cap ((cc.take (n*i.size)).mapIdx fun j _=>(w.cell? ⟨bb,y+j,none⟩).getD undef) Ny ?_ ?_ (by simp only[List.length_mapIdx];exact Cz) (.inr ⟨_,rfl,by simp only[List.length_mapIdx];exact Cz,fun j v hj=>?_⟩) (by omega)
      ·refine Be.of_at (by simp) fun j p v hp hv=>?_
       obtain⟨u,H9,_,ht⟩:=hob j p hp;rw[List.getElem?_mapIdx,hp,Option.map_some,H9] at hv;simp at hv;subst hv;exact ht
      ·intro v hv;obtain⟨j,hj⟩:=List.mem_iff_getElem?.1 hv;rw[List.getElem?_mapIdx] at hj;cases hp:(cc.take (n*i.size))[j]? with
       |none=>rw[hp] at hj;cases hj
       |some p=>
        obtain⟨u,H9,h5,_⟩:=hob j p hp;rw[hp,Option.map_some,H9] at hj;simp at hj;subst hj;exact h5
      ·rw[List.getElem?_mapIdx] at hj;cases hp:(cc.take (n*i.size))[j]? with
       |none=>rw[hp] at hj;cases hj
       |some p=>
        obtain⟨u,H9,h5,_⟩:=hob j p hp;rw[hp,Option.map_some,H9] at hj;simp at hj;subst hj;rw[Eh];exact H9
   ·cases hk
  ·obtain⟨zz,n',c',hk,hp⟩:=E6 hk;obtain⟨hb,hk⟩:=Al hk;simp only[Bool.and_eq_true,decide_eq_true_eq] at hb;obtain⟨⟨⟨⟨⟨hzz,hdN⟩,S4⟩,XK⟩,YW⟩,GM⟩:=hb;have hdN:d<N:=Nat.lt_of_succ_le (Nat.le_of_ble_eq_true hdN);have S4:s.hp d=none:=by simpa using S4
   have SN:Fz N (some d)=true:=by simp[Fz,Nat.blt];omega
   rw[M3] at XK hk;rw[Rl] at YW;have Y2:news.length=m*i.size:=by omega
   rcases F7 hp hbv with⟨Ny,_⟩|⟨_,_,_,CH,_⟩|⟨_,_,_,CH,_⟩
   ·refine⟨_,hk,fun next Q hn=>?_⟩
    by_cases hm0:m=0
    ·subst hm0;have hr:=K2 (P:=P) (w:=w) (t:=t) (tx:=tx) (ty:=o.type) (ts:=ts) (ad:=none) hu hdx PO hi hs (List.eq_nil_of_length_eq_zero (by omega))
     rw[←Ny] at hr;have RR:new=[]:=List.eq_nil_of_length_eq_zero (by omega)
     subst RR;refine run hr next Q (hn _ _ (Cn β d none) ?_);rw[Ny];refine h.stepR (d:=some d) (nw:=[(d,.ar false [])]) (β':=Cn β d none) SN (by simp[Bq,S4]) ⟨rfl,rfl,rfl,B8.refl _ _,fun j hj=>Aj _ _ (by rintro rfl;exact hj S4),?_,?_,?_,?_,?_,.inl ⟨Am _ _ _,rfl,rfl,none,rfl⟩,?_⟩
     ·intro j bx hm;simp at hm;rw[hm.2];trivial
     ·intro j bx hm;simp at hm;obtain⟨rfl,rfl⟩:=hm;exact .inl ⟨Am _ _ _,rfl⟩
     ·intro j bx k q hm hq;simp at hm;obtain⟨rfl,rfl⟩:=hm;rw[Am] at hq;cases hq
     ·intro j bx j' bx' k q q' hm I6 _ _;simp at hm I6;rw[hm.1,I6.1]
     ·intro j cells hm;simp at hm
     ·intro j hj;simp[Bs,Ca,Ap] at hj;subst hj;exact .inr ⟨.ar false [],by simp⟩
    ·have hr:=K4 (P:=P) (w:=w) (t:=t) (tx:=tx) (ty:=o.type) (ts:=ts) (ad:=none) (n:=0) (cap:=0) (olds:=[]) hu hdx PO hi hz hs (.inl ⟨rfl,rfl⟩) (by omega) (by rw[Nat.zero_add];exact YW) (by omega)
     rw[←Ny] at hr;refine run hr next Q (hn _ _ (Cn β d (some (w.heap.size,0))) ?_);have hge:0+m<=grownCap w (0+m) 0 e:=grownCap_ge w (0+m) 0 e
     have Tq:F2 w (w.drew.alloc (.cells (([]:List Value).toArray++news.toArray++Builtin.zeroCells z.cells (grownCap w (0+m) 0 e-(0+m))) e)) (([]:List Value).toArray++news.toArray++Builtin.zeroCells z.cells (grownCap w (0+m) 0 e-(0+m))) e:=
      ⟨rfl,rfl,rfl,fun k hk=>Below.heap_alloc w.drew _ k hk,by show (w.heap.push _).size=_;simp,(0,0),by show (w.heap.push _)[w.heap.size]?=_;simp,.inl rfl⟩
     have SZ:(([]:List Value).toArray++news.toArray++Builtin.zeroCells z.cells (grownCap w (0+m) 0 e-(0+m))).size=grownCap w (0+m) 0 e*i.size:=by
      simp only[Array.size_append,List.size_toArray,size_zeroCells,hzs,Y2,List.length_nil,←Nat.add_mul];rw[Nat.zero_add (m*i.size),←Nat.add_mul]
      congr 1
      omega
     refine h.stepR (d:=some d) (nw:=[(d,.ar false new)]) SN (by simp[Bq,S4]) (O6 Tq S4 trivial ?_ (fun cells hx=>by cases hx) ?_ (by intro j hj;simp[Bs,Ca,Ap] at hj;exact .inr hj))
     ·refine .inr ⟨w.heap.size,0,Am _ _ _,?_,fun _ j _ hj=>?_,(fun q=>by cases q)⟩
      ·exact DI (pre:=[]) Tq (XG S4) trivial hs.rep (by simp) hs.one
      ·rw[Tq.bsz] at hj;exact Tq.frozen hj
     ·refine .inr ⟨w.heap.size,0,0,grownCap w (0+m) 0 e,Am _ _ _,by rw[Nat.zero_add],.inl rfl,by omega,?_,by rw[Tq.size];omega⟩
      exact⟨by rw[Tq.bsz,SZ];omega,.inr (Js w.drew _ e)⟩
   ·rw[CH] at hzz;cases hzz
   ·rw[CH] at hzz;cases hzz
 ·cases hk
theorem SO (h:Cr N w0 X0 Y β s a w){c:Call}(ho:o.op=.call c)(hc:c.callee=.builtin .copy){b x:Operand}(Ey:c.args.toList=[b,x]) {t tx:TypeId}{ts:List TypeId}(Z1:c.argTypes.toList=t::tx::ts)
  {K:St->Option R} (hk:JC P N s o.dst t tx (Bz s.tm b) (Bz s.tm x) K=some r):
  ∃s',K s'=some r∧∀(next:Act->World->Prop) (Q:Exit->Act->World->Prop),(∀a' w' β',Cr N w0 X0 Y β' s' a' w'->next a' w')->o.wp P a w next Q:=by
 have DX:c.args = #[b,x]:=by
  have:c.args=([b,x]:List Operand).toArray:=by rw[←Ey]
  exact this
 have PT:c.argTypes=(t::tx::ts).toArray:=by rw[←Z1]
 have run:∀{v:Value} {w1:World},(Builtin.copy_ (t::tx::ts).toArray o.type #[a.eval b,a.eval x]).run P w=.ok v w1->∀(next:Act->World->Prop) (Q:Exit->Act->World->Prop),next (a.put o.dst v) w1->o.wp P a w next Q:=by
  intro v w1 hr next Q hn;unfold Oper.wp execOp;rw[ho];simp only[resolve,hc,invoke,builtin,Sem.run_bind,Sem.run_pure,Result.andThen_ok,DX,PT];have:(#[b,x]:Array Operand).map a.eval = #[a.eval b,a.eval x]:=by simp
  rw[this,hr];exact hn
 have hbv:=Cv h b;unfold JC at hk;split at hk
 ·rename_i e hu;obtain⟨hzi,hk⟩:=Al hk;simp only[Bool.and_eq_true] at hzi;obtain⟨N3,SN⟩:=hzi;obtain⟨i,hi⟩:∃i,P.info? e=some i:=Option.isSome_iff_exists.1 N3;have M3:Bb P e=i.size:=by unfold Bb;rw[hi];rfl
  have h1c:∀(m:Nat) (new:List PV),(match Bz s.tm b with
    |.view id es off n=>
     match s.hp id with
     |some (.ar false c)=>A9 (Nat.beq es (Bb P e)&&decide (off+n*es<=c.length)&&decide (new.length=m*es))
       (Ac (min m n) fun k=>Ac (Ce c (new.take (k*es)) off) fun c=>K ⟨Bl s.tm o.dst (.sc (.int .i64 k)),Cn s.hp id (some (.ar false c))⟩)
     |_=>none
    |_=>none)=some r->new.length=m*Bb P e:=by
   intro m new hk;split at hk
   ·split at hk
    ·obtain⟨hb,_⟩:=Al hk;simp only[Bool.and_eq_true,decide_eq_true_eq] at hb;rw[←Nat.eq_of_beq_eq_true hb.1.1];exact hb.2
    ·cases hk
   ·cases hk
  obtain⟨_,m,new,news,hk,hs⟩:=BX h hk h1c;split at hk
  ·rename_i id es off n hb;rw[hb] at hbv;split at hk
   ·rename_i cc h0;obtain⟨hb,hk⟩:=Al hk;simp only[Bool.and_eq_true,decide_eq_true_eq] at hb;obtain⟨⟨S0,Y0⟩,hnl⟩:=hb;have S0:=Nat.eq_of_beq_eq_true S0;subst S0;rw[M3] at hk hs Y0 hnl hbv;have Y2:news.length=m*i.size:=by rw[←hs.rep.len];exact hnl
    have hkm:min m n*i.size<=m*i.size:=Nat.mul_le_mul_right _ (Nat.min_le_left _ _);have hkn:min m n*i.size<=n*i.size:=Nat.mul_le_mul_right _ (Nat.min_le_right _ _);have Ky:K ⟨Bl s.tm o.dst (.sc (.int .i64 ((min m n:Nat):Int))),Cn s.hp id (some (.ar false (Ce cc (new.take (min m n*i.size)) off)))⟩=some r:=hk;refine⟨_,Ky,fun next Q hn=>?_⟩
    have Ai8:∀{β':Bt} {Cs:Nat->Option Bo} {w':World},Cr N w0 X0 Y β' ⟨s.tm,Cs⟩ a w'->Cr N w0 X0 Y β' ⟨Bl s.tm o.dst (.sc (.int .i64 ((min m n:Nat):Int))),Cs⟩ (a.put o.dst (goInt ((min m n:Nat):Int))) w':=
     fun hh=>hh.put SN (Aw.sc _) (fun _ hx=>by cases hx)
    have Acq:new.take (min m n*i.size)=[]->Cn s.hp id (some (.ar false (Ce cc (new.take (min m n*i.size)) off)))=s.hp:=by
     intro e;rw[e];refine V6 _ ?_;rw[h0];simp[Ce]
    have nothing:min m n*i.size=0->∀(ad:Option Addr) (cap:Nat),a.eval b=.slice ad n cap->o.wp P a w next Q:=by
     intro e ad cap Ny;have hr:=OE (P:=P) (w:=w) (w1:=w) (t:=t) (ty:=o.type) (ts:=tx::ts) (ad:=ad) (n:=n) (cap:=cap) hu hi hs (by rw[e];cases ad<;>simp[storeCells])
     rw[←Ny] at hr;refine run hr next Q (hn _ _ β (Ai8 ?_));rw[Acq (by rw[e,List.take_zero])]
     exact h
    rcases hbv with⟨hβ,_,rfl,ad,Ny⟩|⟨bb,ob,y,cap,hβ,Ny,hy,Avn,T8,Atp⟩
    ·exact nothing (by simp) ad 0 Ny
    ·by_cases hm0:min m n*i.size=0
     ·exact nothing hm0 _ _ Ny
     rcases h.box id _ h0 with⟨Er,_⟩|⟨b',o',Er,Ho,Uf,_⟩
     ·rw[hβ] at Er;cases Er
     rw[hβ] at Er;simp at Er;obtain⟨rfl,rfl⟩:=Er;have Wz:n≠0:=by rintro rfl;simp at hm0
     have hy:y=ob+off:=by rcases hy with hy|⟨hq,_⟩<;>first|exact absurd hq Wz|exact hy
     subst hy;have B7:(news.take (min m n*i.size)).length=min m n*i.size:=by rw[List.length_take,Y2];omega
     have Cx:∀k,k<(news.take (min m n*i.size)).length->(w.cell? ⟨bb,ob+off+k,none⟩).isSome=true:=by
      intro k hk;obtain⟨v,hv,_⟩:=Ho (off+k) _ (List.getElem?_eq_getElem (by omega))
      rw[Eh] at hv;rw[Nat.add_assoc,hv];rfl
     have hfr:∀k,k<(news.take (min m n*i.size)).length->w.frozen? ⟨bb,ob+off+k,none⟩=false:=fun k hk=>by
      obtain⟨u,hu⟩:=Option.isSome_iff_exists.1 (Cx k hk);exact Uf rfl _ (by omega) (BI hu)
     have h1:∀u∈news.take (min m n*i.size),u.oneCell'=true:=fun u hu=>hs.one u (List.mem_of_mem_take hu)
     have h3:=run_storeCells_cells (P:=P) bb (ob+off) (news.take (min m n*i.size)) 0 w (fun k hk=>by simpa using Cx k hk) (fun k hk=>by simpa using hfr k hk) h1
     have hr:=OE (P:=P) (w:=w) (t:=t) (ty:=o.type) (ts:=tx::ts) (ad:=some ⟨bb,ob+off,none⟩) (n:=n) (cap:=cap) hu hi hs h3;rw[←Ny] at hr;simp only[Nat.add_zero] at hr;refine run hr next Q (hn _ _ β (Ai8 ?_))
     refine h.write h0 trivial trivial hβ (Dp.setCells bb _ _ w) ?_ (fun cells hx=>by cases hx) (fun _ hx=>by cases hx) (fun j hj=>hj) (fun j hj=>by
      refine World.cell?_setCells_out bb _ _ w ⟨bb,j,none⟩ (fun _ _=>?_)
      have hj:¬(ob<=j):=hj;show j<ob+off∨ob+off+_<=j;omega)
     have Ft:B8 (C7 s.hp β Y) w (w.setCells bb (ob+off) (news.take (min m n*i.size))):=by
      have hw:=Dp.setCells bb (news.take (min m n*i.size)) (ob+off) w;have hAb:C7 s.hp β Y bb:=.inl ⟨id,ob,by rw[h0];trivial,hβ⟩
      exact⟨by rw[hw.size];exact Nat.le_refl _,fun k _ hk=>hw.other k (fun e=>hk (e ▸ hAb)),fun k _=>hw.grow k⟩
     have hll:(new.take (min m n*i.size)).length=min m n*i.size:=by rw[List.length_take,hnl];omega
     refine .inr ⟨bb,ob,hβ,fun j p hj=>?_,fun _ j hj Q4=>?_,(fun x=>by cases x)⟩
     ·rw[Eh];rcases Px (by omega) hj with⟨h3,h4,h5⟩|⟨h3,h5⟩
      ·have Au6:j-off<min m n*i.size:=by omega
       rw[List.getElem?_take_of_lt Au6] at h5;obtain⟨u,hu,hcu⟩:=hs.rep.get h5;have Agg:j-off<(news.take (min m n*i.size)).length:=by omega
       refine⟨u,?_,hs.one u (List.mem_of_getElem? hu),hcu.step Ft (fun _ _ x=>x)⟩
       have:=World.cell?_setCells_in bb (news.take (min m n*i.size)) (ob+off) w Cx (j-off) Agg;rw[show ob+j=ob+off+(j-off) from by omega,this]
       rw[←List.getElem?_eq_getElem Agg,List.getElem?_take_of_lt Au6];exact hu
      ·obtain⟨v,hv,h6,Ze⟩:=Ho j p h5;rw[Eh] at hv;refine⟨v,?_,h6,Ze.step Ft (fun _ _ x=>x)⟩
       rw[World.cell?_setCells_out bb _ _ w ⟨bb,ob+j,none⟩ (fun _ _=>by show ob+j<ob+off∨ob+off+_<=ob+j;omega)]
       exact hv
     ·rw[(Dp.setCells bb _ _ w).bs] at Q4;rw[(Dp.setCells bb _ _ w).frz];exact Uf rfl j hj Q4
   ·cases hk
  ·cases hk
 ·cases hk
theorem US (h:Cr N w0 X0 Y β s a w){G:Ur}(J0:PF P G w0 X0){C:Gl}{call:An}(Dq:∀f args res,call f args=some res->Df G P f args res){K:St->Option R}(hk:Td C P N call s o K=some r):
  ∃s',K s'=some r∧∀(next:Act->World->Prop) (Q:Exit->Act->World->Prop),(∀a' w' β',Cr N w0 X0 Y β' s' a' w'->next a' w')->o.wp P a w next Q:=by
 unfold Td at hk;split at hk
 ·rename_i t x y ho;obtain⟨hd,hk⟩:=Al hk;exact PC h ho (by simpa using hd) hk
 ·rename_i c ho;split at hk
  ·rename_i hc;obtain⟨d,hd,Ds⟩:=B9 hk;obtain⟨b,xs,GD,Ef⟩:=A8 Ds;obtain⟨x,ys,hys,Kv⟩:=A8 Ef;obtain⟨Xh,Sf⟩:=Dj Kv;obtain⟨t,us,hus,UL⟩:=A8 Sf;obtain⟨tx,vs,Qx,hk6⟩:=A8 UL;rw[hys,Xh] at GD;rw[Qx] at hus;exact MS h ho hc hd GD hus hk6
  ·rename_i hc;obtain⟨b,xs,GD,Ef⟩:=A8 hk;obtain⟨x,ys,hys,Kv⟩:=A8 Ef;obtain⟨Xh,Sf⟩:=Dj Kv;obtain⟨t,us,hus,UL⟩:=A8 Sf;obtain⟨tx,vs,Qx,hk6⟩:=A8 UL;rw[hys,Xh] at GD;rw[Qx] at hus;exact SO h ho hc GD hus hk6
  ·rename_i f hc;exact RS h J0 Dq ho hc hk
  ·cases hk
 ·cases hk
theorem UF (h:Cr N w0 X0 Y β s a w){G:Ur}(J0:PF P G w0 X0){C:Gl}{call:An}(Dq:∀f args res,call f args=some res->Df G P f args res){K:St->Option R}(hk:QG C P N call o s K=some r):
  ∃s',K s'=some r∧∀(next:Act->World->Prop) (Q:Exit->Act->World->Prop),(∀a' w' β',Cr N w0 X0 Y β' s' a' w'->next a' w')->o.wp P a w next Q:=by
 unfold QG at hk;cases hm:Qk C P o.op
 ·rw[hm] at hk;exact UU h J0 Dq hk
 ·rw[hm] at hk;exact US h J0 Dq hk
end
end
end Go.Proofs.YtodnjibebeghjaaDoor.Pv
