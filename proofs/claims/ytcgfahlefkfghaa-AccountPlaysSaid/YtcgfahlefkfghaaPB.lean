/-
  The proof of AccountPlays, part 2.
-/
import Derived.Test.YtcgfahlefkfghaaPA
import Derived.Laws.Append
import Derived.IntWalk
import Derived.Laws.AppendOwn
import Derived.Laws.IdiomCopy
set_option linter.unusedSimpArgs false
set_option linter.unusedVariables false
namespace Go.Proofs.Ytcgfahlefkfghaa.Pv
section
open Go.RowKit
def Fz (w:World)(A:Nat->Prop)(own:Option (Nat × Nat)) (p:PV)(u:Value):Prop:=
 match p with
 |.own es n c=>(own=none∧n=0∧c=[]∧∃ad,u=.slice ad 0 0) ∨
   ∃b o cap,own=some (b,o)∧u=.slice (some ⟨b,o,none⟩) n cap∧n<=cap∧Fit w es b (o+cap*es)∧b<w.heap.size∧Wv w A ⟨b,o,none⟩ c∧∀j,o<=j->j<bsz w b->w.frozen? ⟨b,j,none⟩=false
 |p=>As w A p u
def Et (w:World)(A:Nat->Prop)(own:Bt):Nat->List PV->List Value->Prop
 |_,[],[]=>True
 |j,p::ps,u::us=>Fz w A (own j) p u∧Et w A own (j+1) ps us
 |_,_,_=>False
def Ajy (w:World)(A:Nat->Prop)(own:Bt)(j b o:Nat)(cs:List PV):Prop:=
 ∃vs,Et w A own j cs vs∧(∀(k:Nat) v,vs[k]?=some v->w.cell? ⟨b,o+k,none⟩=some v)∧∀k,k<cs.length->w.frozen? ⟨b,o+k,none⟩=false
def Ai1 (w:World)(A:Nat->Prop)(own:Bt)(z j:Nat)(p:PV)(u:Value):Prop:=
 match p with
 |.agg cs=>∃vs,u=.agg ⟨vs⟩∧Et w A own j cs vs
 |.pbox cs=>∃b o,own j=some (b,o)∧z<=b∧u=.pointer (some ⟨b,o,none⟩)∧Ajy w A own (j+1) b o cs
 |p=>Fz w A (own j) p u
def ZM:PV->Nat
 |.pbox cs=>1+cs.length
 |p=>(cellsOf p).length
def NS (w:World)(A:Nat->Prop)(own:Bt)(z:Nat):Nat->List PV->List Value->Prop
 |_,[],[]=>True
 |j,p::ps,u::us=>Ai1 w A own z j p u∧NS w A own z (j+ZM p) ps us
 |_,_,_=>False
abbrev V6:=Nat->Nat->Option (Nat × Nat)
def BtX (bt:V6)(b:Nat):Prop:=∃i j o,bt i j=some (b,o)
def isA (p:PV):Prop:=M0 p∨∃es n c,p=.own es n c
def Xu (p:PV):Bool:=
 match p with
 |.pbox _=>true
 |.tup _=>true
 |_=>false
theorem Akf {p:PV}(h:isA p):Xu p=false:=by
 rcases h with h|⟨_,_,_,rfl⟩
 ·cases p<;>first|rfl|exact h.elim
 ·rfl
def FR (w:World)(A:Nat->Prop)(bt:Bt)(p:PV)(u:Value):Prop:=
 match p with
 |.pbox ps=>∃b o,bt 0=some (b,o)∧u=.pointer (some ⟨b,o,none⟩)∧(∀p∈ps,isA p)∧Ajy w A bt 1 b o ps
 |.tup ps=>∃es n c,ps=[.own es n c]∧Fz w A (bt 0) (.own es n c) u
 |.agg cs=>∃vs,u=.agg ⟨vs⟩∧(∀p∈cs,isA p)∧Et w A bt 1 cs vs
 |p=>isA p∧Fz w A (bt 1) p u
def K1 (w:World)(A:Nat->Prop)(bt:V6):Nat->List PV->List Value->Prop
 |_,[],[]=>True
 |i,p::ps,u::us=>FR w A (bt i) p u∧K1 w A bt (i+1) ps us
 |_,_,_=>False
def Am5 (bt:Bt)(p:PV)(b j:Nat):Prop:=
 (∃k o,bt (k+1)=some (b,o)∧o<=j)∨∃o ps,bt 0=some (b,o)∧o<=j∧((p=.pbox ps∧j<o+ps.length)∨p=.tup ps)
def CF (bt:V6)(args:List PV)(b j:Nat):Prop:=∃i p,args[i]?=some p∧Am5 (bt i) p b j
def Gz (w:World)(A:Nat->Prop)(own:Bt)(bt:V6):Nat->Nat->List PV->List (List PV)->Prop
 |_,_,[],r=>r=[]
 |j,i,p::zs,r=>
  match p with
  |.pbox ps=>
   match r with
   |[]=>False
   |cs::r=>(∃b o,bt i 0=some (b,o)∧cs.length=ps.length∧Ajy w A own j b o cs)∧Gz w A own bt (j+cs.length) (i+1) zs r
  |.tup _=>
   match r with
   |[]=>False
   |cs::r=>((bt i 0=none∧cs=[])∨∃b o,bt i 0=some (b,o)∧Wv w A ⟨b,o,none⟩ cs∧∀k,o<=k->k<bsz w b->w.frozen? ⟨b,k,none⟩=false)∧Gz w A own bt j (i+1) zs r
  |_=>Gz w A own bt j (i+1) zs r
def Nn (bt:V6)(own:Bt)(Y:Nat->Prop)(b:Nat):Prop:=(∃j o,own j=some (b,o))∨(∃i o,bt i 0=some (b,o))∨Y b
def Jd (vals:List PV):Nat:=(vals.map ZM).sum
structure VY (w w':World) (Y:Nat->Prop) (bt:V6) (args:List PV) (own:Bt) (r:A2) (vs:List Value):Prop where
 os:w'.os=w.os
 tape:w'.tape=w.tape
 output:w'.output=w.output
 ext:Bw (BtX bt) w w'
 rng:∀b j,b<w.heap.size->¬CF bt args b j->w'.cell? ⟨b,j,none⟩=w.cell? ⟨b,j,none⟩∧w'.frozen? ⟨b,j,none⟩=w.frozen? ⟨b,j,none⟩
 vals:NS w' (Nn bt own Y) own w.heap.size 0 r.vals vs
 outs:Gz w' (Nn bt own Y) own bt (Jd r.vals) 0 args r.outs
 fresh:∀j b o,own j=some (b,o)->b<w'.heap.size∧(b<w.heap.size->(∃i k o',bt i (k+1)=some (b,o'))∧∀x,o<=x->CF bt args b x)
 inj:∀j j' b o o',own j=some (b,o)->own j'=some (b,o')->j=j'
def Eo (us:List Value):Value:=match us with|[u]=>u|us=>.tuple ⟨us⟩
def Ke (w:World)(Y:Nat->Prop)(p:PV)(u:Value):Prop:=
 match p with
 |.agg cs=>∃vs,u=.agg ⟨vs⟩∧Ba (fun c v=>M0 c∧As w Y c v) cs vs
 |p=>M0 p∧As w Y p u
structure Ins (w:World) (Y:Nat->Prop) (bt:V6) (args:List PV) (us:List Value):Prop where
 Ylt:∀b,Y b->b<w.heap.size
 Yx:∀b,Y b->¬BtX bt b
 lt:∀b,BtX bt b->b<w.heap.size
 inj:∀i j i' j' b o o',bt i j=some (b,o)->bt i' j'=some (b,o')->i=i'∧j=j'
 l0:∀i q,bt i 0=some q->∃p,args[i]?=some p∧Xu p=true
 args:K1 w (fun b=>BtX bt b∨Y b) bt 0 args us
structure Glo where
 bl:Nat->Prop
 ok:World->Prop
 stable:∀w w':World,(∀b,bl b->b<w.heap.size->w'.heap[b]?=w.heap[b]?)->ok w->ok w'
def Do (G:Glo)(P:Program)(f:FuncId)(args:List PV)(r:A2):Prop:=
 (∃fn,P.funcs[f]?=some fn∧fn.body.isSome=true)∧∀(w:World)(Y:Nat->Prop)(bt:V6)(us:List Value),Ins w Y bt args us->G.ok w->(∀b,G.bl b->b<w.heap.size∧¬BtX bt b) ->
  Calls P f us.toArray w fun e w'=>∃vs own,e=.returned (Eo vs)∧VY w w' Y bt args own r vs
def Nv:V6:=fun _ _=>none
theorem V5 (b:Nat):¬BtX Nv b:=by rintro⟨_,_,_,h⟩;cases h
theorem Kj {w:World}{A:Nat->Prop}{q:Option (Nat × Nat)} {p:PV}{u:Value}(hp:M0 p)(h:As w A p u):Fz w A q p u:=by
 cases p<;>first|exact h|exact hp.elim
theorem AC {w:World}{A:Nat->Prop}{own:Bt}:∀{cs:List PV}{vs:List Value}{j:Nat},Ba (fun c v=>M0 c∧As w A c v) cs vs->Et w A own j cs vs
 |[],[],_,_=>trivial
 |_::_,_::_,_,h=>⟨Kj h.1.1 h.1.2,AC h.2⟩
 |[],_::_,_,h=>h.elim
 |_::_,[],_,h=>h.elim
theorem YO {w:World}{A:Nat->Prop}{bt:Bt}{p:PV}{u:Value}(h:Ke w A p u):FR w A bt p u:=by
 cases p with
 |agg cs=>
  obtain⟨vs,h1,h2⟩:=h;refine⟨vs,h1,fun p hp=>.inl ?_,AC h2⟩
  obtain⟨j,hj⟩:=List.mem_iff_getElem?.1 hp;obtain⟨v,_,hv⟩:=h2.get hj;exact hv.1
 |sc v=>exact⟨.inl trivial,h.2⟩
 |lst z es n c=>exact⟨.inl trivial,h.2⟩
 |_=>exact h.1.elim
theorem EJ {w:World}{A:Nat->Prop}{bt:V6}:∀{ps:List PV}{us:List Value}{i:Nat},Ba (Ke w A) ps us->K1 w A bt i ps us
 |[],[],_,_=>trivial
 |_::_,_::_,_,h=>⟨YO h.1,EJ h.2⟩
 |[],_::_,_,h=>h.elim
 |_::_,[],_,h=>h.elim
theorem HG {w:World}{A A':Nat->Prop}(hA:∀b,b<w.heap.size->A' b->A b){p:PV}{v:Value}(h:Ke w A p v):Ke w A' p v:=by
 cases p with
 |agg cs=>
  obtain⟨vs,rfl,h2⟩:=h;exact⟨vs,rfl,h2.mono fun c v hc=>⟨hc.1,hc.2.step (Bw.refl _ _) hA⟩⟩
 |sc v=>exact⟨h.1,h.2.step (Bw.refl _ _) hA⟩
 |lst z es n c=>exact⟨h.1,h.2.step (Bw.refl _ _) hA⟩
 |_=>exact h.1.elim
theorem CE {w:World}{Y:Nat->Prop}{args:List PV}{us:List Value}(hY:∀b,Y b->b<w.heap.size)(h:Ba (Ke w Y) args us):Ins w Y Nv args us:=
 ⟨hY,fun b _=>V5 b,fun b h=>absurd h (V5 b),(fun _ _ _ _ _ _ _ h=>by cases h),(fun _ _ h=>by cases h),EJ (h.mono fun _ _ hx=>HG (fun b _ hb=>hb.elim (fun q=>absurd q (V5 b)) id) hx)⟩
theorem Aka {args:List PV}{b j:Nat}:¬CF Nv args b j:=by
 rintro⟨_,_,_,⟨_,_,h,_⟩|⟨_,_,h,_⟩⟩<;>cases h
def NoNG (P:Program):Prop:=∀(f:FuncId) (fn:Func),P.funcs[f]?=some fn->(fn.name == "runtime.NumGoroutine")=false
structure QR (P:Program) (G:Glo) (w0:World) (X0:Hm):Prop where
 ng:NoNG P
 fr:∀w,Fr X0 w0 w->G.ok w
 y:∀b,G.bl b->b<w0.heap.size∧¬X0.X b
section
variable {R:Type} {r:R} {P:Program} {N:Nat} {w0:World} {X0:Hm} {Y:Nat->Prop} {β β':Bt} {s:St} {a:Act} {w w':World} {o:Oper} {A:Nat->Prop}
def CP (P:Program)(a:Act)(w:World)(o:Oper)(Y:Nat->Prop)(β:Bt)(s:St)(v:PV)(fz:List Nat)(nw:List (Nat × Bk)):Prop:=
 (∀id∈fz,∃f c,s.hp id=some (.ar f c))∧∀(next:Act->World->Prop)(Q:Exit->Act->World->Prop),
  (∀val w',(Bn s.hp nw=true->∃β',HP Y β ⟨s.tm,Ad s.hp fz⟩ w v nw val w' β')->next (a.put o.dst val) w')->o.wp P a w next Q
theorem FE {v:PV}{fz:List Nat}{nw:List (Nat × Bk)} (h:D2 P a w o Y β s v fz nw):CP P a w o Y β s v fz nw:=by
 obtain⟨h1,val,w',hr,hs⟩:=h;refine⟨h1,fun next Q hn=>?_⟩
 unfold Oper.wp;rw[hr];exact hn val w' hs
theorem Acl (h:Cj N w0 X0 Y β s a w){t:TypeId}{x:PV}{u:Value}(hx:D6 w (Cs s.hp β Y) β x u) {K:PV->List Nat->Option R}(hk:SH P (I9 s.hp) t x K=some r):
  ∃p m,K p m=some r∧(∀id∈m,∃f cc,s.hp id=some (.ar f cc))∧(cellsOf p).length=(Hq P t).length∧∀fz:List Nat,(∀id∈m,id∈fz)->(∀id∈fz,∃f cc,s.hp id=some (.ar f cc))->Ke w (Cs (Ad s.hp fz) β Y) p u:=by
 unfold SH at hk;cases Fs:Bv P t
 ·rw[Fs] at hk;obtain⟨cs,m,hk,hl,Jt,hT,hF,hm,hv⟩:=Pr h (show Nh _ _ _ _=some r from hk)
  obtain⟨c,t',rfl,hk⟩:=A3 hk;obtain⟨rfl,hk⟩:=C5 hk;have hcT:=hT c (by simp)
  refine⟨c,m,hk,hm,?_,fun fz h1 h2=>?_⟩
  ·have:cellsOf c=[c]:=by cases c<;>first|rfl|exact hcT.elim
   rw[this];exact hl
  have hF':=hF _ (List.mem_singleton_self _)
  have hc:Bs w (Cs s.hp β Y) β x u:=by
   cases x<;>first|exact hx|exact hF'.elim
  have h3:=(hv fz h1 h2 [u] ⟨hc,trivial⟩).1.1;cases c<;>first|exact⟨trivial,h3⟩|exact hcT.elim
 ·rw[Fs] at hk;obtain⟨ps,hp,hk⟩:=Gw (show Gd _ _=some r from hk)
  rw[hp] at hx;obtain⟨cs,m,hk,hl,Jt,hT,hF,hm,hv⟩:=Pr h hk;obtain⟨vs,Cx,h2⟩:=hx;refine⟨.agg cs,m,hk,hm,hl,fun fz h1 h3=>⟨vs,Cx,?_⟩⟩
  exact (hv fz h1 h3 vs h2).1.mono_mem fun c hc v Zo=>⟨hT c hc,Zo⟩
theorem Aga (h:Cj N w0 X0 Y β s a w){t:TypeId}{x:Operand}{K:PV->List Nat->Option R}(hk:SH P (I9 s.hp) t (Bu s.tm x) K=some r):
  ∃p m,K p m=some r∧(∀id∈m,∃f cc,s.hp id=some (.ar f cc))∧∀fz:List Nat,(∀id∈m,id∈fz)->(∀id∈fz,∃f cc,s.hp id=some (.ar f cc))->Ke w (Cs (Ad s.hp fz) β Y) p (a.eval x):=by
 obtain⟨p,m,h1,h2,_,h3⟩:=Acl h (Co h x) hk;exact⟨p,m,h1,h2,h3⟩
theorem HA (h:Cj N w0 X0 Y β s a w):∀{ts:List TypeId}{xs:List Operand}{K:List PV->List Nat->Option R},DO P (I9 s.hp) ts (xs.map (Bu s.tm)) K=some r ->
  ∃ps m,K ps m=some r∧(∀id∈m,∃f cc,s.hp id=some (.ar f cc))∧∀fz:List Nat,(∀id∈m,id∈fz)->(∀id∈fz,∃f cc,s.hp id=some (.ar f cc))->Ba (Ke w (Cs (Ad s.hp fz) β Y)) ps (xs.map a.eval)
 |[],[],K,hk=>⟨[],[],hk,by simp,fun _ _ _=>trivial⟩
 |[],_::_,K,hk=>by cases hk
 |_::_,[],K,hk=>by cases hk
 |t::ts,x::xs,K,hk=>by
  simp only[List.map_cons] at hk;unfold DO at hk;obtain⟨p,m,hk,hm,hv⟩:=Aga h hk;obtain⟨ps,ms,hk,FF,Fq⟩:=HA h hk;refine⟨p::ps,m++ms,hk,?_,fun fz h1 h2=>⟨hv fz (fun i hi=>h1 i (by simp[hi])) h2,Fq fz (fun i hi=>h1 i (by simp[hi])) h2⟩⟩
  intro i hi;rcases List.mem_append.1 hi with hi|hi
  ·exact hm i hi
  ·exact FF i hi
theorem Ke.weaken {A':Nat->Prop}(hA:∀b,b<w.heap.size->A' b->A b){p:PV}{v:Value}(h:Ke w A p v):Ke w A' p v:=by
 have one:M0 p->M0 p∧As w A p v->Ke w A' p v:=by
  intro hp h;cases p<;>first|exact⟨h.1,h.2.step (Bw.refl _ _) hA⟩|exact hp.elim
 cases p with
 |agg cs=>
  obtain⟨vs,rfl,h2⟩:=h;exact⟨vs,rfl,h2.mono fun c v hc=>⟨hc.1,hc.2.step (Bw.refl _ _) hA⟩⟩
 |_=>exact one h.1 h
theorem Agj {t:CT}{p:PV}{K:PV->Option R}(h:Zb t p K=some r):
  ∃c,K c=some r∧M0 c∧M0 p∧(∀(w:World) (A:Nat->Prop) (β:Nat->Option (Nat × Nat)) (v:Value),Bs w A β p v->As w A c v∧v.oneCell'=true)∧((∀es,t ≠ .sl es)->∃v,c=.sc v):=by
 obtain⟨c,hk,hT,DI,hv⟩:=Md h;cases t with
 |sl es=>exact⟨c,hk,hT,DI,hv,fun Hu=>absurd rfl (Hu es)⟩
 |int k=>obtain⟨n,rfl,h2⟩:=D7 h;exact⟨_,h2,trivial,trivial,fun w A β v hv=>⟨hv,by have:=As.val (w:=w) (A:=A) hv;subst this;rfl⟩,fun _=>⟨_,rfl⟩⟩
 |bool=>obtain⟨n,rfl,h2⟩:=Db h;exact⟨_,h2,trivial,trivial,fun w A β v hv=>⟨hv,by have:=As.val (w:=w) (A:=A) hv;subst this;rfl⟩,fun _=>⟨_,rfl⟩⟩
 |str=>obtain⟨n,rfl,h2⟩:=C4 h;exact⟨_,h2,trivial,trivial,fun w A β v hv=>⟨hv,by have:=As.val (w:=w) (A:=A) hv;subst this;rfl⟩,fun _=>⟨_,rfl⟩⟩
 |any=>
  obtain⟨u,rfl,h1,h2⟩:=VW (show YX p (fun v=>K (.sc v))=some r from h)
  exact⟨_,h2,trivial,trivial,fun w A β v hv=>⟨hv,by have:=As.val (w:=w) (A:=A) hv;subst this;exact h1⟩,fun _=>⟨_,rfl⟩⟩
theorem Tu (shr:Bool)(N:Nat):∀{ts:List CT}{ps:List PV}{id:Nat}{K:List PV->List (Nat × Bk)->Option R},P2 shr N id ts ps K=some r ->
  ∃cs bs,K cs bs=some r∧ps.length=ts.length∧(∀p∈ps,∀x,p ≠ .agg x∧p ≠ .pbox x)∧(∀c∈cs,GK c)∧((∀es,CT.sl es ∉ ts)->bs=[]∧∀c∈cs,∃v,c=.sc v) ∧
   (∀i bx,(i,bx)∈bs->∃j es n c,ps[j]?=some (.own es n c)∧i=id+N*j∧bx=.ar false c) ∧
   (∀c∈cs,∀i∈Ao c,∃bx,(i,bx)∈bs) ∧
   ∀(w:World) (A:Nat->Prop) (own β':Bt) (j0:Nat) (us:List Value),(∀j,(∃bx,(id+N*j,bx)∈bs)->β' (id+N*j)=own (j0+j))->Et w A own j0 ps us->Ba (Bs w A β') cs us
 |[],ps,id,K,hk=>by
  obtain⟨rfl,hk⟩:=C5 hk;refine⟨[],[],hk,rfl,by simp,by simp,by simp,by simp,by simp,fun w A own β' j0 us _ h=>?_⟩
  cases us with
  |nil=>trivial
  |cons u us=>exact h.elim
 |t::ts,ps,id,K,hk=>by
  unfold P2 at hk;obtain⟨p,ps',FK,Dw⟩:=A3 hk;subst FK;clear hk
  have main:∃c b,(P2 shr N (id+N) ts ps' fun cs bs=>K (c::cs) (b++bs))=some r∧(∀x,p ≠ .agg x∧p ≠ .pbox x)∧GK c∧((∀es,t≠CT.sl es)->b=[]∧∃v,c=.sc v)∧(∀i bx,(i,bx)∈b->∃es n cc,p=.own es n cc∧i=id∧bx=.ar false cc)∧(∀i∈Ao c,∃bx,(i,bx)∈b) ∧
    ∀(w:World) (A:Nat->Prop) (own:Option (Nat × Nat)) (β':Bt) (u:Value),((∃bx,(id,bx)∈b)->β' id=own)->Fz w A own p u->Bs w A β' c u:=by
   have tree:∀t',t'=t->(Zb t' p fun c=>P2 shr N (id+N) ts ps' fun cs bs=>K (c::cs) ([]++bs))=some r->∃c b,(P2 shr N (id+N) ts ps' fun cs bs=>K (c::cs) (b++bs))=some r∧(∀x,p ≠ .agg x∧p ≠ .pbox x)∧GK c∧((∀es,t≠CT.sl es)->b=[]∧∃v,c=.sc v)∧(∀i bx,(i,bx)∈b->∃es n cc,p=.own es n cc∧i=id∧bx=.ar false cc)∧(∀i∈Ao c,∃bx,(i,bx)∈b) ∧
     ∀(w:World) (A:Nat->Prop) (own:Option (Nat × Nat)) (β':Bt) (u:Value),((∃bx,(id,bx)∈b)->β' id=own)->Fz w A own p u->Bs w A β' c u:=by
    intro t' ht' hk;have RU:=Agj hk;obtain⟨c,hk,hT,DI,hv,RU⟩:=RU;refine⟨c,[],hk,fun x=>⟨Wy DI x,by rintro rfl;exact DI⟩,Rp hT,fun Hu=>⟨rfl,RU (fun es e=>Hu es (ht'.symm.trans e))⟩,by simp,by rw[Ha hT];simp,fun w A own β' u _ hc=>?_⟩
    have Rj:Bs w A β' p u:=by cases p<;>first|exact hc|exact DI.elim
    exact (K9 hT).2 (hv w A β' u Rj).1
   unfold Aes at Dw;cases t with
   |sl es=>
    dsimp only at Dw;cases shr
    ·unfold Kc at Dw;simp only[cond_false] at Dw;split at Dw
     ·rename_i es' n c;cases hb:Nat.beq es' es
      ·rw[hb] at Dw;cases Dw
      ·rw[hb] at Dw;have:=Nat.eq_of_beq_eq_true hb;subst this;refine⟨_,_,Dw,by simp,trivial,fun Hu=>absurd rfl (Hu _),?_,?_,fun w A own β' u hβ hc=>?_⟩
       ·intro i bx hm;simp at hm;exact⟨_,_,_,rfl,hm.1,hm.2⟩
       ·intro i hi;simp[Ao] at hi;subst hi;exact⟨.ar false c,by simp⟩
       ·have hβ':=hβ ⟨.ar false c,by simp⟩
        clear hβ;rcases hc with⟨h1,rfl,rfl,h4⟩|⟨b,ob,cap,h1,h2,h3,h4,h5,_⟩
        ·exact .inl ⟨hβ'.trans h1,rfl,rfl,h4⟩
        ·exact .inr ⟨b,ob,ob,cap,hβ'.trans h1,h2,.inl rfl,h3,h4,h5⟩
     ·cases Dw
    ·obtain⟨c,hk,hT,DI,hv,_⟩:=Agj (t:=.sl es) (p:=p) (K:=fun c=>P2 true N (id+N) ts ps' fun cs bs=>K (MD c::cs) ([]++bs)) Dw
     have hU:M0 (MD c):=by cases c<;>exact hT
     refine⟨MD c,[],hk,fun x=>⟨Wy DI x,by rintro rfl;exact DI⟩,Rp hU,fun Hu=>absurd rfl (Hu _),by simp,by rw[Ha hU];simp,fun w A own β' u _ hc=>?_⟩
     have Rj:Bs w A β' p u:=by cases p<;>first|exact hc|exact DI.elim
     refine (K9 hU).2 ?_;have:=(hv w A β' u Rj).1;cases c with
     |lst z es n c=>exact As.unz this
     |_=>exact this
   |int k=>exact tree (.int k) rfl Dw
   |bool=>exact tree .bool rfl Dw
   |str=>exact tree .str rfl Dw
   |any=>exact tree .any rfl Dw
  obtain⟨c,b,hk,hpa,hF,RF,Fh,Kw,Zo⟩:=main;obtain⟨cs,bs,hk,hl,Bmp,hFs,Aqo,Buy,Bp8,Bqv⟩:=Tu shr N hk;refine⟨c::cs,b++bs,hk,by simp[hl],?_,?_,?_,?_,?_,fun w A own β' j0 us hβ hoc=>?_⟩
  ·intro x hx;rcases List.mem_cons.1 hx with rfl|hx
   ·exact hpa
   ·exact Bmp x hx
  ·intro x hx;rcases List.mem_cons.1 hx with rfl|hx
   ·exact hF
   ·exact hFs x hx
  ·intro Hu;obtain⟨h1,v,h2⟩:=RF (fun es e=>Hu es (by rw[e];simp))
   obtain⟨h3,h4⟩:=Aqo (fun es hm=>Hu es (by simp[hm]))
   refine⟨by rw[h1,h3];rfl,fun x hx=>?_⟩
   rcases List.mem_cons.1 hx with rfl|hx
   ·exact⟨v,h2⟩
   ·exact h4 x hx
  ·intro i bx hm;rcases List.mem_append.1 hm with hm|hm
   ·obtain⟨es,n,cc,rfl,rfl,rfl⟩:=Fh i bx hm;exact⟨0,es,n,cc,rfl,by simp,rfl⟩
   ·obtain⟨j,es,n,cc,h1,rfl,h3⟩:=Buy i bx hm;exact⟨j+1,es,n,cc,by simpa using h1,by rw[Nat.mul_add];omega,h3⟩
  ·intro x hx i hi;rcases List.mem_cons.1 hx with rfl|hx
   ·obtain⟨bx,hm⟩:=Kw i hi;exact⟨bx,by simp[hm]⟩
   ·obtain⟨bx,hm⟩:=Bp8 x hx i hi;exact⟨bx,by simp[hm]⟩
  ·cases us with
   |nil=>exact hoc.elim
   |cons u us=>
    refine⟨Zo w A (own j0) β' u (fun ⟨bx,hm⟩=>by have:=hβ 0 ⟨bx,by simp[hm]⟩;simpa using this) hoc.1,?_⟩
    refine Bqv w A own β' (j0+1) us (fun j ⟨bx,hm⟩=>?_) hoc.2
    have e:id+N+N*j=id+N*(j+1):=by rw[Nat.mul_add];omega
    have:=hβ (j+1) ⟨bx,by rw[←e];simp[hm]⟩
    rw[e,this]
    congr 1
    omega
end
open Go.RowKit
section
variable {R:Type} {r:R} {P:Program} {N:Nat} {w0:World} {X0:Hm} {Y:Nat->Prop} {β β':Bt} {s:St} {a:Act} {w w':World} {o:Oper} {A:Nat->Prop}
theorem Et.len:∀{j:Nat}{own:Bt}{ps:List PV}{us:List Value},Et w A own j ps us->ps.length=us.length
 |_,_,[],[],_=>rfl
 |_,_,_::_,_::_,h=>by simp[Et.len h.2]
 |_,_,[],_::_,h=>h.elim
 |_,_,_::_,[],h=>h.elim
theorem Et.at_:∀{j:Nat}{own:Bt}{ps:List PV}{us:List Value},Et w A own j ps us->∀{i:Nat} {p},ps[i]?=some p->∃u,us[i]?=some u∧Fz w A (own (j+i)) p u
 |_,_,[],[],_,i,p,h=>by simp at h
 |j,own,_::_,u::_,h,0,p,hp=>by simp at hp;subst hp;exact⟨u,rfl,h.1⟩
 |j,own,_::_,_::_,h,i+1,p,hp=>by
  simp at hp;obtain⟨u,hu,hc⟩:=Et.at_ h.2 hp;exact⟨u,by simpa using hu,by rw[show j+(i+1)=j+1+i from by omega];exact hc⟩
 |_,_,[],_::_,h,_,_,_=>h.elim
 |_,_,_::_,[],h,_,_,_=>h.elim
def Agk (N id:Nat)(β':Bt)(w:World)(A:Nat->Prop)(z n:Nat)(bs:List (Nat × Bk)):Prop:=
 ∀i bx,(i,bx)∈bs->(∃j,i=id+N*j∧j<n)∧Cu (some bx)∧Qv w A β' i bx∧∀cs,bx=.st cs->∀b o,β' i=some (b,o)->z<=b
def Yh (bs:List (Nat × Bk)):Prop:=∀i cells,(i,.st cells)∈bs->∀c∈cells,∀i'∈Ao c,∃bx,(i',bx)∈bs
theorem Ws {q:Option (Nat × Nat)} {es n i:Nat}{c:List PV}{u:Value}(h:Fz w A q (.own es n c) u) (hβ:β' i=q):Qv w A β' i (.ar false c):=by
 rcases h with⟨h1,_,h2,_⟩|⟨b,o,cap,h1,_,_,_,_,h6,h7⟩
 ·exact .inl ⟨hβ.trans h1,h2⟩
 ·exact .inr ⟨b,o,hβ.trans h1,h6,fun _=>h7,(fun x=>by cases x)⟩
theorem Ys {t:TypeId}(h:Jc P [t]=false):Xi P t=none∧∀es,CT.sl es ∉ Hq P t:=by
 simp only[Jc,List.any_cons,List.any_nil,Bool.or_false,Bool.or_eq_false_iff] at h;refine⟨by simpa using h.1,fun es hm=>?_⟩
 have:=List.any_eq_false.1 h.2 _ hm;simp at this
theorem Aff (shr:Bool)(N:Nat){t:TypeId}{p:PV}{id:Nat}{K:PV->List (Nat × Bk)->Option R} (hk:ZW P shr N id t p K=some r):
  ∃v bs,K v bs=some r∧ZM p=RK P t∧(∀x,v ≠ .tup x)∧(Jc P [t]=false->bs=[]∧∀c∈cellsOf v,∃u,c=.sc u)∧(∀i∈B4 v,∃bx,(i,bx)∈bs)∧Yh bs ∧
   ∀(w:World) (A:Nat->Prop) (own β':Bt) (z j0:Nat) (u:Value),(∀j,(∃bx,(id+N*j,bx)∈bs)->β' (id+N*j)=own (j0+j))->Ai1 w A own z j0 p u->Hf w A β' v u∧Agk N id β' w A z (ZM p) bs:=by
 have boxes:∀{bs:List (Nat × Bk)} {ps:List PV} {id:Nat},(∀i bx,(i,bx)∈bs->∃j es n c,ps[j]?=some (.own es n c)∧i=id+N*j∧bx=.ar false c) ->
   Yh bs∧∀(w:World) (A:Nat->Prop) (own β':Bt) (j0:Nat) (us:List Value),(∀j,(∃bx,(id+N*j,bx)∈bs)->β' (id+N*j)=own (j0+j))->Et w A own j0 ps us->∀z,Agk N id β' w A z ps.length bs:=by
  intro bs ps id Fh;refine⟨fun i cells hm=>?_,fun w A own β' j0 us hβ ho z i bx hm=>?_⟩
  ·obtain⟨_,_,_,_,_,_,h3⟩:=Fh i _ hm;cases h3
  ·obtain⟨j,es,n,cc,h1,h2,h3⟩:=Fh i bx hm;obtain⟨u,hu,hoc⟩:=ho.at_ h1;subst h3;refine⟨⟨j,h2,?_⟩,trivial,Ws hoc ?_,fun _ e=>by cases e⟩
   ·rcases Nat.lt_or_ge j ps.length with h|h
    ·exact h
    ·rw[List.getElem?_eq_none h] at h1;cases h1
   ·rw[h2];exact hβ j ⟨_,h2 ▸ hm⟩
 unfold ZW at hk;split at hk
 ·rename_i e he;obtain⟨ps,rfl,hk⟩:=II hk;obtain⟨cs,bs,hk,hl,Akg,hF,RF,Fh,Kw,Zo⟩:=Tu shr N hk;obtain⟨TH,Lm⟩:=boxes Fh;refine⟨.ptr id 0,_,hk,by simp only[ZM,RK,he,hl],by simp,fun h=>?_,fun i hi=>?_,fun i cells hm c hc i' FI=>?_,fun w A own β' z j0 u hβ ho=>?_⟩
  ·have:=(Ys h).1;rw[he] at this;cases this
  ·simp only[B4,Ao,List.mem_singleton] at hi;subst hi;exact⟨_,List.mem_cons_self⟩
  ·rcases List.mem_cons.1 hm with e|hm
   ·cases e;obtain⟨bx,hb⟩:=Kw c hc i' FI;exact⟨bx,List.mem_cons_of_mem _ hb⟩
   ·obtain⟨bx,hb⟩:=TH i cells hm c hc i' FI;exact⟨bx,List.mem_cons_of_mem _ hb⟩
  ·obtain⟨b,o,h1,hz,rfl,vs,h3,h4,h5⟩:=ho;have h0:=hβ 0 ⟨_,by rw[Nat.mul_zero,Nat.add_zero];exact List.mem_cons_self⟩
   rw[Nat.mul_zero,Nat.add_zero,Nat.add_zero,h1] at h0;have Bb:∀j,id+N+N*j=id+N*(j+1):=fun j=>by rw[Nat.mul_add];omega
   have hβ1:∀j,(∃bx,(id+N+N*j,bx)∈bs)->β' (id+N+N*j)=own (j0+1+j):=fun j ⟨bx,hm⟩=>by
    rw[Bb,hβ (j+1) ⟨bx,by rw[←Bb];exact List.mem_cons_of_mem _ hm⟩]
    congr 1;omega
   have YA:=Zo w A own β' (j0+1) vs hβ1 h3;have LE:=Lm w A own β' (j0+1) vs hβ1 h3 z;have Em:cs.length=ps.length:=by rw[YA.len,←h3.len]
   refine⟨⟨b,o,h0,by simp⟩,fun i bx hm=>?_⟩
   rcases List.mem_cons.1 hm with e|hm
   ·cases e;refine⟨⟨0,by simp,by simp only[ZM];omega⟩,trivial,⟨b,o,h0,fun k c hk=>?_,fun k hk=>h5 k (by omega)⟩,fun _ _ b' o' Hh=>?_⟩
    ·obtain⟨v,hv,ME⟩:=YA.get hk;exact⟨v,h4 k v hv,ME⟩
    ·rw[h0] at Hh;cases Hh;exact hz
   ·obtain⟨⟨j,hj,hjn⟩,h6,h7⟩:=LE i bx hm;exact⟨⟨j+1,by rw[hj,Bb],by simp only[ZM];omega⟩,h6,h7⟩
 ·rename_i hnp;have BJ:RK P t=(Hq P t).length:=by simp only[RK,hnp]
  cases Fs:Bv P t
  ·rw[Fs] at hk;obtain⟨cs,bs,hk,hl,Akg,hF,RF,Fh,Kw,Zo⟩:=Tu shr N (show P2 _ _ _ _ _ _=some r from hk)
   obtain⟨c,t',rfl,hk⟩:=A3 hk;obtain⟨rfl,hk⟩:=C5 hk;have hFc:=hF c (by simp)
   have A5x:∀x,p ≠ .pbox x:=fun x=>(Akg p (by simp) x).2
   have Aqh:∀x,c ≠ .agg x:=by rintro x rfl;exact hFc
   have Bnq:∀x,c ≠ .tup x:=by rintro x rfl;exact hFc
   have hr1:B4 c=Ao c:=by cases c<;>first|rfl|exact absurd rfl (Aqh _)
   have hpa:∀x,p ≠ .agg x:=fun x=>(Akg p (by simp) x).1
   obtain⟨TH,Lm⟩:=boxes Fh;have hcell:cellsOf p=[p]:=by cases p<;>first|rfl|exact absurd rfl (hpa _)
   have A9o:ZM p=1:=by cases p<;>first|rfl|exact absurd rfl (hpa _)|exact absurd rfl (A5x _)
   have hcc:cellsOf c=[c]:=by cases c<;>first|rfl|exact absurd rfl (Aqh _)
   refine⟨c,bs,hk,by rw[A9o,BJ];exact hl,Bnq,fun Hu=>by rw[hcc];exact RF (Ys Hu).2,fun i hi=>Kw c (by simp) i (by rw[←hr1];exact hi),TH,fun w A own β' z j0 u hβ ho=>?_⟩
   have QT:Fz w A (own j0) p u:=by cases p<;>first|exact ho|exact absurd rfl (hpa _)|exact absurd rfl (A5x _)
   exact⟨(Xl Aqh).2 (Zo w A own β' j0 [u] hβ ⟨QT,trivial⟩).1,by rw[A9o];exact Lm w A own β' j0 [u] hβ ⟨QT,trivial⟩ z⟩
  ·rw[Fs] at hk;obtain⟨ps,rfl,hk⟩:=Gw (show Gd _ _=some r from hk)
   obtain⟨cs,bs,hk,hl,Akg,hF,RF,Fh,Kw,Zo⟩:=Tu shr N hk;obtain⟨TH,Lm⟩:=boxes Fh;refine⟨.agg cs,bs,hk,by rw[BJ];exact hl,by simp,fun Hu=>RF (Ys Hu).2,fun i hi=>?_,TH,fun w A own β' z j0 u hβ ho=>?_⟩
   ·obtain⟨c,hc,hi⟩:=List.mem_flatMap.1 (show i∈cs.flatMap Ao from hi)
    exact Kw c hc i hi
   ·obtain⟨vs,rfl,ho⟩:=ho;exact⟨⟨vs,rfl,Zo w A own β' j0 vs hβ ho⟩,Lm w A own β' j0 vs hβ ho z⟩
theorem Yw (shr:Bool)(N:Nat):∀{ts:List TypeId}{ps:List PV}{id:Nat}{K:List PV->List (Nat × Bk)->Option R},Zu P shr N id ts ps K=some r ->
  ∃vs bs,K vs bs=some r∧vs.length=ps.length∧(∀v∈vs,∀x,v ≠ .tup x)∧(Jc P ts=false->bs=[]∧∀v∈vs,∀c∈cellsOf v,∃u,c=.sc u)∧(∀v∈vs,∀i∈B4 v,∃bx,(i,bx)∈bs)∧Yh bs ∧
   ∀(w:World) (A:Nat->Prop) (own β':Bt) (z j0:Nat) (us:List Value),(∀j,(∃bx,(id+N*j,bx)∈bs)->β' (id+N*j)=own (j0+j))->NS w A own z j0 ps us->Ba (Hf w A β') vs us∧Agk N id β' w A z (Jd ps) bs
 |[],ps,id,K,hk=>by
  obtain⟨rfl,hk⟩:=C5 hk;refine⟨[],[],hk,rfl,by simp,by simp,by simp,(by intro i cells hm;cases hm),fun w A own β' z j0 us _ h=>?_⟩
  cases us with
  |nil=>exact⟨trivial,by intro i bx hm;cases hm⟩
  |cons u us=>exact h.elim
 |t::ts,ps,id,K,hk=>by
  unfold Zu at hk;obtain⟨p,ps',FK,Dw⟩:=A3 hk;subst FK;clear hk;obtain⟨v,bs,hk,hl,SU,RF,hr1,TH,hv⟩:=Aff shr N Dw;obtain⟨vs,bs',hk,Ls,Bur,Aqo,hrs,Bn1,Fq⟩:=Yw shr N hk;refine⟨v::vs,bs++bs',hk,by simp[Ls],?_,?_,?_,?_,fun w A own β' z j0 us hβ ho=>?_⟩
  ·intro x hx;rcases List.mem_cons.1 hx with rfl|hx
   ·exact SU
   ·exact Bur x hx
  ·intro Hu;simp only[Jc,List.any_cons,Bool.or_eq_false_iff] at Hu;obtain⟨h1,h2⟩:=RF (by simp only[Jc,List.any_cons,List.any_nil,Bool.or_false,Bool.or_eq_false_iff];exact Hu.1)
   obtain⟨h3,h4⟩:=Aqo (by simp only[Jc];exact Hu.2)
   refine⟨by rw[h1,h3];rfl,fun x hx=>?_⟩
   rcases List.mem_cons.1 hx with rfl|hx
   ·exact h2
   ·exact h4 x hx
  ·intro x hx i hi;rcases List.mem_cons.1 hx with rfl|hx
   ·obtain⟨bx,hm⟩:=hr1 i hi;exact⟨bx,by simp[hm]⟩
   ·obtain⟨bx,hm⟩:=hrs x hx i hi;exact⟨bx,by simp[hm]⟩
  ·intro i cells hm c hc i' FI;rcases List.mem_append.1 hm with hm|hm
   ·obtain⟨bx,hb⟩:=TH i cells hm c hc i' FI;exact⟨bx,by simp[hb]⟩
   ·obtain⟨bx,hb⟩:=Bn1 i cells hm c hc i' FI;exact⟨bx,by simp[hb]⟩
  ·cases us with
   |nil=>exact ho.elim
   |cons u us=>
    obtain⟨h1,Fh⟩:=hv w A own β' z j0 u (fun j ⟨bx,hm⟩=>hβ j ⟨bx,by simp[hm]⟩) ho.1
    have Bb:∀j,id+N*RK P t+N*j=id+N*(RK P t+j):=fun j=>by rw[Nat.mul_add];omega
    obtain⟨h2,Kw⟩:=Fq w A own β' z (j0+ZM p) us (fun j ⟨bx,hm⟩=>by rw[Bb,hβ _ ⟨bx,by rw[←Bb];simp[hm]⟩,hl];congr 1;omega) ho.2
    refine⟨⟨h1,h2⟩,fun i bx hm=>?_⟩
    rcases List.mem_append.1 hm with hm|hm
    ·obtain⟨⟨j,hj,hjn⟩,h4,h5⟩:=Fh i bx hm;exact⟨⟨j,hj,by simp only[Jd,List.map_cons,List.sum_cons];omega⟩,h4,h5⟩
    ·obtain⟨⟨j,hj,hjn⟩,h4,h5⟩:=Kw i bx hm;refine⟨⟨_,by rw[hj,Bb],?_⟩,h4,h5⟩
     simp only[Jd,List.map_cons,List.sum_cons] at hjn ⊢;omega
def AK (N d:Nat)(bs:List (Nat × Bk)) (own β:Bt):Bt:=fun i=>if (bs.any fun q=>Nat.beq q.1 i)=true then own ((i-d) / N) else β i
theorem MW {bs:List (Nat × Bk)} {i:Nat}:(bs.any fun q=>Nat.beq q.1 i)=true↔∃bx,(i,bx)∈bs:=by
 rw[List.any_eq_true];constructor
 ·rintro⟨⟨j,bx⟩,hm,e⟩
  have:=Nat.eq_of_beq_eq_true e;subst this;exact⟨bx,hm⟩
 ·rintro⟨bx,hm⟩
  exact⟨_,hm,Nat.beq_refl i⟩
theorem WZ {N d j:Nat}(hN:0<N){bs:List (Nat × Bk)} {own β:Bt}(h:∃bx,(d+N*j,bx)∈bs):AK N d bs own β (d+N*j)=own j:=by
 unfold AK;rw[if_pos (MW.2 h),Nat.add_sub_cancel_left,Nat.mul_div_cancel_left _ hN]
theorem DV {c:Call}{f:FuncId}(ho:o.op=.call c)(hc:c.callee=.value (.func f)) (J1:NoNG P){fn:Func}(hf:P.funcs[f]?=some fn) (hb:fn.body.isSome=true):
  (execOp a.eval o).run P w=.ok (.enter f (c.args.map a.eval)) w:=by
 unfold execOp;rw[ho]
 have hn:¬fn.body=none:=by
  intro h;rw[h] at hb;cases hb
 have Hu:¬fn.name = "runtime.NumGoroutine" :=by simpa using J1 f fn hf
 simp[resolve,hc,Act.eval,Deferred.ofValue,invoke,callFunc,hf,Hu,hn]
theorem YC {c:Call}{t:Nat}{f:FuncId}(ho:o.op=.call c)(hc:c.callee=.value (.tmp t)) (ht:a.eval (.tmp t)=.func (.func f) #[] #[]) (J1:NoNG P){fn:Func}(hf:P.funcs[f]?=some fn) (hb:fn.body.isSome=true):
  (execOp a.eval o).run P w=.ok (.enter f (c.args.map a.eval)) w:=by
 unfold execOp;rw[ho]
 have hn:¬fn.body=none:=by
  intro h;rw[h] at hb;cases hb
 have Hu:¬fn.name = "runtime.NumGoroutine" :=by simpa using J1 f fn hf
 simp[resolve,hc,ht,Deferred.ofValue,invoke,callFunc,hf,Hu,hn]
theorem Zt {A':Nat->Prop}(k:Bool):∀{xs:List Operand}{ps:List PV},Ba (Ke w A') ps (xs.map a.eval)->Ba (Ke w A') (I8 k xs ps) (xs.map a.eval)
 |[],[],h=>h
 |[],_::_,h=>h
 |_::_,[],h=>h
 |x::xs,p::ps,h=>by
  simp only[List.map_cons] at h ⊢;refine⟨?_,Zt k h.2⟩;split
  ·exact⟨trivial,As.lnil _ _⟩
  ·exact h.1
theorem EF (h : Cj N w0 X0 Y β s a w) {G : Glo} (J1 : QR P G w0 X0) {C : Gt} {call : Ai} (Dr : ∀ f args res, call f args = some res -> Do G P f args res) {c : Call} {f : FuncId} (Cc : ∀ {fn : Func}, P.funcs[f]? = some fn -> fn.body.isSome = true -> (execOp a.eval o).run P w = .ok (.enter f (c.args.map a.eval)) w)
    {K : PV -> List Nat -> List (Nat × Bk) -> Option R}
    (hk : (DO P (I9 s.hp) (EE P f c) (c.args.toList.map (Bu s.tm)) fun vs m =>
          Af (call f (I8 (C.kz f) c.args.toList vs)) fun rv ro => Ac ro (An (Nat.blt 0 N) <| Zu P (C.shr f) N (o.dst.getD 0) (M4 P o.type) rv fun ws bs =>
            An (bif Nw P o.type then !Nat.beq ws.length 1 else Nat.beq ws.length 1) <| K (Nf ws (Nw P o.type)) (bif Jc P (M4 P o.type) then m else []) bs)) = some r) : ∃ v fz nw, K v fz nw = some r ∧ CP P a w o Y β s v fz nw := by
  obtain⟨ps, m, hk, hm, Eg⟩ := HA h hk
  replace Eg := fun fz h1 h2 => Zt (a := a) (C.kz f) (Eg fz h1 h2)
  generalize I8 (C.kz f) c.args.toList ps = ps at hk Eg
  obtain⟨rv, ro, N1, hk⟩ := GZ hk
  obtain⟨rfl, hk⟩ := C5 hk
  obtain⟨hN, hk⟩ := Aj hk
  have hN : 0 < N := Nat.lt_of_succ_le (Nat.le_of_ble_eq_true hN)
  obtain⟨ws, bs, hk, hwl, SU, RF, hrs, TH, hws⟩ := Yw (C.shr f) N hk
  obtain⟨Pp, hk⟩ := Aj hk
  obtain⟨⟨fn, hfn, hfb⟩, Te⟩ := Dr f ps _ N1
  obtain⟨fz, Rt, hfm⟩ : ∃ fz : List Nat, fz = (bif Jc P (M4 P o.type) then m else []) ∧ ∀ id ∈ fz, ∃ f c, s.hp id = some (.ar f c) := by
    refine⟨_, rfl, fun id Bb => ?_⟩
    cases hh : Jc P (M4 P o.type) <;> rw[hh] at Bb
    · cases Bb
    · exact hm id Bb
  rw[← Rt] at hk
  refine⟨_, _, _, hk, hfm, fun next Q hn => ?_⟩
  have hf := h.freeze hfm
  have hYc : ∃ Yc : Nat -> Prop, (∀ b, Yc b -> b < w.heap.size) ∧ Ba (Ke w Yc) ps (c.args.toList.map a.eval) ∧ ((∀ b, Cs (Ad s.hp fz) β Y b -> Yc b) ∨ Jc P (M4 P o.type) = false) := by
    have L7 := Eg m (fun _ hi => hi) hm
    cases hh : Jc P (M4 P o.type)
    · exact⟨fun _ => False, fun _ x => x.elim, L7.mono fun _ _ hx => hx.weaken (fun _ _ x => x.elim), .inr rfl⟩
    · rw[hh] at Rt
      have Rt : fz = m := Rt
      subst Rt
      refine⟨Cs (Ad s.hp fz) β Y, fun b hb => ?_, L7, .inl fun _ x => x⟩
      rcases hb with⟨id, ob, hl, hβ⟩ | hY
      · exact hf.blt id b ob (Cl hl) hβ
      · exact Nat.lt_of_lt_of_le (h.Ylt b hY) h.fr.step.size
  obtain⟨Yc, Bpp, hYargs, hYA⟩ := hYc
  unfold Oper.wp
  rw[Cc hfn hfb]
  show Calls P f _ w _
  have hca : c.args.map a.eval = (c.args.toList.map a.eval).toArray := by rw[← List.map_toArray, Array.toArray_toList]
  rw[hca]
  refine (Te w Yc Nv _ (CE Bpp hYargs) (J1.fr w h.fr) (fun b x => ⟨Nat.lt_of_lt_of_le (J1.y b x).1 h.fr.step.size, V5 b⟩)).mono ?_
  rintro e w' ⟨vs, own, rfl, JR⟩
  refine hn (Eo vs) w' fun O1 => ⟨AK N (o.dst.getD 0) bs own β, ?_⟩
  obtain⟨ha1, ha2⟩ := Bg O1
  have Adr : ∀ i bx, (i, bx) ∈ bs -> Ad s.hp fz i = none := fun i bx hm => Dq.2 (ha1 i bx hm)
  obtain⟨hg1, hg2⟩ := D3 (hp := Ad s.hp fz) ha2
  have hold : ∀ i, Ad s.hp fz i ≠ none -> AK N (o.dst.getD 0) bs own β i = β i := by
    intro i hi
    unfold AK
    rw[if_neg]
    intro hx
    obtain⟨bx, hm⟩ := MW.1 hx
    exact hi (Adr i bx hm)
  obtain⟨Fq, hba⟩ := hws w' _ own (AK N (o.dst.getD 0) bs own β) w.heap.size 0 vs (fun j hj => by rw[WZ hN hj, Nat.zero_add]) JR.vals
  have Va : ∀ i bx, (i, bx) ∈ bs -> ∃ j, i = o.dst.getD 0 + N * j ∧ AK N (o.dst.getD 0) bs own β i = own j := by
    intro i bx hm
    obtain⟨⟨j, rfl, _⟩, _, _⟩ := hba i bx hm
    exact⟨j, rfl, WZ hN ⟨bx, hm⟩⟩
  have hAA : Jc P (M4 P o.type) = false ∨ ∀ b, Cs (Aq (Ad s.hp fz) bs) (AK N (o.dst.getD 0) bs own β) Y b -> Nn Nv own Yc b := by
    rcases hYA with hYA | hYA
    · refine .inr fun b hb => ?_
      rcases hb with⟨i, ob, hl, hβ⟩ | hY
      · by_cases hi : ∃ bx, (i, bx) ∈ bs
        · obtain⟨bx, hm⟩ := hi
          obtain⟨j, _, h3⟩ := Va i bx hm
          rw[h3] at hβ
          exact .inl ⟨j, ob, hβ⟩
        · rw[hg2 i (fun bx hm => hi ⟨bx, hm⟩)] at hl
          rw[hold i (Cl hl)] at hβ
          exact .inr (.inr (hYA b (.inl ⟨i, ob, hl, hβ⟩)))
      · exact .inr (.inr (hYA b (.inr hY)))
    · exact .inl hYA
  have hval : D6 w' (Cs (Aq (Ad s.hp fz) bs) (AK N (o.dst.getD 0) bs own β) Y) (AK N (o.dst.getD 0) bs own β) (Nf ws (Nw P o.type)) (Eo vs) := by
    have L7 : Ba (Hf w' (Cs (Aq (Ad s.hp fz) bs) (AK N (o.dst.getD 0) bs own β) Y) (AK N (o.dst.getD 0) bs own β)) ws vs := by
      rcases hAA with QD | hAA
      · obtain⟨_, RU⟩ := RF QD
        refine Fq.mono_mem fun v hv u hvu => ?_
        have RU := RU v hv
        cases v with
        | agg cs =>
          obtain⟨xs, rfl, BD⟩ := hvu
          refine⟨xs, rfl, BD.mono_mem fun cc hcc x hx => ?_⟩
          obtain⟨y, rfl⟩ := RU cc hcc
          have := As.val (w := w') hx
          subst this
          exact As.sc _
        | sc y =>
          have := As.val (w := w') hvu
          subst this
          exact As.sc _
        | lst z es n cc => obtain⟨y, hy⟩ := RU _ (List.mem_singleton_self _); cases hy
        | own es n cc => obtain⟨y, hy⟩ := RU _ (List.mem_singleton_self _); cases hy
        | view i es n cc => obtain⟨y, hy⟩ := RU _ (List.mem_singleton_self _); cases hy
        | ptr i cc => obtain⟨y, hy⟩ := RU _ (List.mem_singleton_self _); cases hy
        | iptr i cc => obtain⟨y, hy⟩ := RU _ (List.mem_singleton_self _); cases hy
        | pbox cc => obtain⟨y, hy⟩ := RU _ (List.mem_singleton_self _); cases hy
        | tup cc => obtain⟨y, hy⟩ := RU _ (List.mem_singleton_self _); cases hy
        | top => obtain⟨y, hy⟩ := RU _ (List.mem_singleton_self _); cases hy
        | ub => obtain⟨y, hy⟩ := RU _ (List.mem_singleton_self _); cases hy
      · exact Fq.mono fun v u hvu => hvu.step (Bw.refl _ _) (fun b _ => hAA b) (fun _ _ => rfl)
    have Em := L7.len
    cases hT : Nw P o.type
    · rw[hT] at Pp
      have h1 : ws.length = 1 := Nat.eq_of_beq_eq_true Pp
      match ws, vs, h1, Em with
      | [v], [u], _, _ =>
        exact (N9 (SU v (by simp))).2 L7.1
    · rw[hT] at Pp
      have h1 : ¬ ws.length = 1 := by
        intro e
        rw[e] at Pp
        cases Pp
      have hr : Eo vs = .tuple ⟨vs⟩ := by
        unfold Eo
        split
        · simp at Em; omega
        · rfl
      rw[hr]
      exact⟨vs, rfl, L7⟩
  refine⟨JR.os, JR.tape, JR.output, JR.ext.weaken (fun b _ hb => V5 b hb), hold, ?_, ?_, ?_, ?_, ?_, hval, ?_⟩
  · intro i bx hm
    exact (hba i bx hm).2.1
  · intro i bx hm
    rcases hAA with QD | hAA
    · rw[(RF QD).1] at hm; cases hm
    · exact (hba i bx hm).2.2.1.step' hAA
  · intro i bx b ob hm hβ
    obtain⟨j, _, h3⟩ := Va i bx hm
    rw[h3] at hβ
    obtain⟨h4, h5⟩ := JR.fresh j b ob hβ
    refine⟨?_, h4⟩
    rcases Nat.lt_or_ge b w.heap.size with h | h
    · obtain⟨⟨_, _, _, h6⟩, _⟩ := h5 h
      cases h6
    · exact h
  · intro i bx i' bx' b ob ob' hm Mj hβ hβ'
    obtain⟨j, h1, h3⟩ := Va i bx hm
    obtain⟨j', Tj, h3'⟩ := Va i' bx' Mj
    rw[h3] at hβ
    rw[h3'] at hβ'
    rw[h1, Tj, JR.inj j j' b ob ob' hβ hβ']
  · intro i cells hm c hc i' FI
    exact .inr (TH i cells hm c hc i' FI)
  · intro i hi
    right
    cases hT : Nw P o.type
    · rw[hT] at Pp hi
      have h1 : ws.length = 1 := Nat.eq_of_beq_eq_true Pp
      match ws, h1 with
      | [v], _ =>
        refine hrs v (by simp) i ?_
        have : Bo v = B4 v := by
          have hn := SU v (by simp)
          cases v <;> first | rfl | exact absurd rfl (hn _)
        rw[← this]
        exact hi
    · rw[hT] at hi
      obtain⟨v, hv, hi⟩ := List.mem_flatMap.1 (show i ∈ ws.flatMap B4 from hi)
      exact hrs v hv i hi
end
open Go.RowKit
section
variable {R:Type} {r:R} {P:Program} {N:Nat} {w0:World} {X0:Hm} {Y:Nat->Prop} {β β':Bt} {s:St} {a:Act} {w w':World} {o:Oper} {A:Nat->Prop}
theorem Cj.move (h:Cj N w0 X0 Y β s a w){id d:Nat}{c cells:List PV}{bo:Option (Nat × Nat)} {v:PV}{val:Value}(h0:s.hp id=some (.ar false c)) (hd:s.hp d=none)(hdN:d<N)
  (hos:w'.os=w.os)(htp:w'.tape=w.tape)(JR:w'.output=w.output)(QN:w.heap.size<=w'.heap.size)
  (Le:∀k,k<w.heap.size->(∀x,β id≠some (k,x))->w'.heap[k]?=w.heap[k]?) (Z8:∀k,k<w.heap.size->Hw w w' k)
  (MM:∀k x,bo=some (k,x)->k<w'.heap.size∧(w.heap.size<=k∨∃y,β id=some (k,y)))
  (NE:∀k x,bo=some (k,x)->k<w.heap.size->β id=some (k,x))
  (hO:∀k y,β id=some (k,y)->k<w.heap.size->∀j,j<y->w'.cell? ⟨k,j,none⟩=w.cell? ⟨k,j,none⟩∧w'.frozen? ⟨k,j,none⟩=w.frozen? ⟨k,j,none⟩)
  (Lm:Qv w' (Cs (Cb (Cb s.hp id (some .mv)) d (some (.ar false cells))) (Cb β d bo) Y) (Cb β d bo) d (.ar false cells))
  (hv:D6 w' (Cs (Cb (Cb s.hp id (some .mv)) d (some (.ar false cells))) (Cb β d bo) Y) (Cb β d bo) v val) (hr:∀i∈Bo v,i=d):
  Cj N w0 X0 Y (Cb β d bo) ⟨Cb s.tm d v,Cb (Cb s.hp id (some .mv)) d (some (.ar false cells))⟩ (a.put (some d) val) w':=by
 have Hu:id≠d:=by rintro rfl;rw[h0] at hd;cases hd
 have Br:∀i,i≠id->i≠d->Cb (Cb s.hp id (some Bk.mv)) d (some (.ar false cells)) i=s.hp i:=fun i h1 h2=>by rw[Ah _ _ h2,Ah _ _ h1]
 have Ajz:Cb (Cb s.hp id (some Bk.mv)) d (some (.ar false cells)) id=some .mv:=by rw[Ah _ _ Hu,Al]
 have hgd:Cb (Cb s.hp id (some Bk.mv)) d (some (.ar false cells)) d=some (.ar false cells):=Al _ _ _
 have Dy:∀i,s.hp i≠none->Cb (Cb s.hp id (some Bk.mv)) d (some (.ar false cells)) i≠none:=by
  intro i hi;by_cases e:i=id
  ·subst e;rw[Ajz];simp
  ·by_cases e':i=d
   ·subst e';rw[hgd];simp
   ·rw[Br i e e'];exact hi
 have hβo:∀i,s.hp i≠none->Cb β d bo i=β i:=fun i hi=>Ah _ _ (by rintro rfl;exact hi hd)
 have RM:Cu (s.hp id):=by rw[h0];trivial
 have F7:∀i,Cu (Cb (Cb s.hp id (some Bk.mv)) d (some (.ar false cells)) i)->i=d∨(i≠id∧i≠d∧Cu (s.hp i)):=by
  intro i hi;by_cases e':i=d
  ·exact .inl e'
  ·by_cases e:i=id
   ·subst e;rw[Ajz] at hi;exact hi.elim
   ·rw[Br i e e'] at hi;exact .inr ⟨e,e',hi⟩
 have hX:∀k,k<w.heap.size->LX (Cb (Cb s.hp id (some .mv)) d (some (.ar false cells))) (Cb β d bo) k->LX s.hp β k:=by
  rintro k hk ⟨i,x,hl,hβ⟩
  rcases F7 i hl with rfl|⟨e,e',hl⟩
  ·rw[Al] at hβ;rcases (MM k x hβ).2 with Jo|⟨y,hy⟩
   ·omega
   ·exact⟨id,y,RM,hy⟩
  ·rw[Ah _ _ e'] at hβ;exact⟨i,x,hl,hβ⟩
 have hAo:∀k,k<w.heap.size->Cs (Cb (Cb s.hp id (some .mv)) d (some (.ar false cells))) (Cb β d bo) Y k->Cs s.hp β Y k:=fun k hk hx=>hx.imp (hX k hk) (fun y=>y)
 have Lx:Bw (Cs s.hp β Y) w w':=⟨QN,fun k hk hn=>Le k hk fun x hx=>hn (.inl ⟨id,x,RM,hx⟩),Z8⟩
 have Ab5:∀i k x,i≠id->i≠d->(∃b,s.hp i=some b∧b ≠ .mv)->β i=some (k,x)->k<w.heap.size∧w'.heap[k]?=w.heap[k]?:=by
  rintro i k x e e' ⟨b,hb,hmv⟩ hβ
  have hk:=h.blt i k x (by rw[hb];simp) hβ
  refine⟨hk,Le k hk fun y hy=>?_⟩
  have Aal:=h.box i b hb;cases b with
  |st cc=>exact e (h.inj i id k x y (by rw[hb];trivial) RM hβ hy)
  |ar fz cc=>
   cases fz with
   |false=>exact e (h.inj i id k x y (by rw[hb];trivial) RM hβ hy)
   |true=>
    rcases Aal with⟨h1,_⟩|⟨k',x',h1,_,_,h4⟩
    ·rw[hβ] at h1;cases h1
    ·rw[hβ] at h1;simp at h1;obtain⟨rfl,rfl⟩:=h1
     exact h4 rfl (.inl ⟨id,y,RM,hy⟩)
  |mv=>exact absurd rfl hmv
 refine⟨by rw[Q4];exact h.dfr,by rw[Xk];exact h.tsz,?_,?_,?_,?_,?_,?_,?_,?_,?_,?_,?_,?_,h.Ylt,?_⟩
 ·intro i hi;show Cb s.tm d v i=_;rw[Ah _ _ (by omega)]
  exact h.tmo i hi
 ·refine N2 (d:=some d) (Q:=fun _ p u=>D6 w' (Cs (Cb (Cb s.hp id (some .mv)) d (some (.ar false cells))) (Cb β d bo) Y) (Cb β d bo) p u) h.tsz (by simp[F0,Nat.blt];omega) (fun i hi=>?_) (fun _=>hv)
  exact (h.tms i hi).step Lx hAo fun j hj=>hβo j (h.wfT i hi j hj)
 ·intro i bi hb;simp only at hb;by_cases e':i=d
  ·subst e';rw[hgd] at hb;cases hb;exact Lm
  ·by_cases e:i=id
   ·subst e;rw[Ajz] at hb;cases hb;trivial
   ·rw[Br i e e'] at hb;have hβi:=hβo i (by rw[hb];simp)
    have BA:=h.box i bi hb;cases bi with
    |st cc=>
     obtain⟨k,x,h1,h2,h3⟩:=BA;obtain⟨hk,Vq⟩:=Ab5 i k x e e' ⟨_,hb,by simp⟩ h1
     refine⟨k,x,by rw[hβi];exact h1,fun j p hj=>?_,fun j hj=>?_⟩
     ·obtain⟨u,hu,hc⟩:=h2 j p hj;exact⟨u,by rw[World.cell?_of_block (w:=w) Vq];exact hu,hc.step Lx hAo fun q hq=>hβo q (h.wfB i cc hb p (List.mem_of_getElem? hj) q hq)⟩
     ·rw[World.frozen?_of_block (w:=w) Vq];exact h3 j hj
    |ar fz cc=>
     rcases BA with⟨h1,h2⟩|⟨k,x,h1,h2,h3,h4⟩
     ·exact .inl ⟨by rw[hβi];exact h1,h2⟩
     ·obtain⟨hk,Vq⟩:=Ab5 i k x e e' ⟨_,hb,by simp⟩ h1
      refine .inr ⟨k,x,by rw[hβi];exact h1,fun j p hj=>?_,fun ef j hj Nk=>?_,fun ef hx=>h4 ef (hAo k hk hx)⟩
      ·obtain⟨u,hu,h5,hc⟩:=h2 j p hj;exact⟨u,by rw[World.cell?_of_block (w:=w) (by rw[E4];exact Vq)];exact hu,h5,hc.step Lx hAo⟩
      ·rw[World.frozen?_of_block (w:=w) Vq];refine h3 ef j hj ?_;unfold bsz at Nk ⊢;rw[Vq] at Nk;exact Nk
    |mv=>trivial
 ·intro i i' k x y hl Jt hb Hh;simp only at hl Jt
  have key:∀j z,j≠id->j≠d->Cu (s.hp j)->β j=some (k,z)->bo=some (k,y)∨bo=some (k,x)->False:=by
   intro j z e e' hlj hβj hbk;have hk:=h.blt j k z (Cl hlj) hβj;have:∃t,bo=some (k,t):=by rcases hbk with q|q<;>exact⟨_,q⟩
   obtain⟨t,ht⟩:=this;rcases (MM k t ht).2 with Jo|⟨q,hq⟩
   ·omega
   ·exact e (h.inj j id k z q hlj RM hβj hq)
  rcases F7 i hl with rfl|⟨e,e',hl0⟩
  ·rcases F7 i' Jt with rfl|⟨e2,e2',An5⟩
   ·rfl
   ·rw[Al] at hb;rw[Ah _ _ e2'] at Hh;exact (key i' y e2 e2' An5 Hh (.inr hb)).elim
  ·rcases F7 i' Jt with rfl|⟨e2,e2',An5⟩
   ·rw[Al] at Hh;rw[Ah _ _ e'] at hb;exact (key i x e e' hl0 hb (.inl Hh)).elim
   ·rw[Ah _ _ e'] at hb;rw[Ah _ _ e2'] at Hh;exact h.inj i i' k x y hl0 An5 hb Hh
 ·intro i k x hi hb;simp only at hi;by_cases e':i=d
  ·subst e';rw[Al] at hb;exact (MM k x hb).1
  ·rw[Ah _ _ e'] at hb
   have FI:s.hp i≠none:=by
    by_cases e:i=id
    ·subst e;rw[h0];simp
    ·rw[Br i e e'] at hi;exact hi
   exact Nat.lt_of_lt_of_le (h.blt i k x FI hb) QN
 ·have:=N2 (d:=some d) (Q:=fun _ p _=>∀j∈Bo p,Cb (Cb s.hp id (some Bk.mv)) d (some (.ar false cells)) j≠none) (val:=val) (v:=v) h.tsz (by simp[F0,Nat.blt];omega) (fun i hi j hj=>Dy j (h.wfT i hi j hj)) (fun _ j hj=>by
   rw[hr j hj,hgd];simp)
  exact this
 ·intro i cc hc p hp j hj;simp only at hc;by_cases e':i=d
  ·subst e';rw[hgd] at hc;cases hc
  ·by_cases e:i=id
   ·subst e;rw[Ajz] at hc;cases hc
   ·rw[Br i e e'] at hc;exact Dy j (h.wfB i cc hc p hp j hj)
 ·rintro k ⟨i,x,hl,hβ⟩
  rcases F7 i hl with rfl|⟨e,e',hl⟩
  ·rw[Al] at hβ;rcases (MM k x hβ).2 with Jo|⟨y,hy⟩
   ·exact .inr (Nat.le_trans h.fr.step.size Jo)
   ·exact h.ownd k ⟨id,y,RM,hy⟩
  ·rw[Ah _ _ e'] at hβ;exact h.ownd k ⟨i,x,hl,hβ⟩
 ·intro i bi k x BA hli hβ Bp j hj;simp only at BA;rcases F7 i (by rw[BA];exact hli) with rfl|⟨e,e',hl⟩
  ·rw[Al] at hβ;rw[hgd] at BA;cases BA;have:=NE k x hβ (Nat.lt_of_lt_of_le Bp h.fr.step.size);exact h.rngB id (.ar false c) k x h0 trivial this Bp j hj
  ·rw[Br i e e'] at BA;rw[Ah _ _ e'] at hβ;exact h.rngB i bi k x BA hli hβ Bp j hj
 ·intro i hi;exact⟨Dy _ (h.pin i hi).1,by rw[hβo _ (h.pin i hi).1];exact (h.pin i hi).2⟩
 ·intro i cc k x BA hβ Bp;simp only at BA;rcases F7 i (by rw[BA];trivial) with rfl|⟨e,e',hl⟩
  ·rw[hgd] at BA;cases BA
  ·rw[Br i e e'] at BA;rw[Ah _ _ e'] at hβ;exact h.stp i cc k x BA hβ Bp
 ·intro k hY hx;exact h.Yx k hY (hX k (Nat.lt_of_lt_of_le (h.Ylt k hY) h.fr.step.size) hx)
 ·refine⟨hos.trans h.fr.os,htp.trans h.fr.tape,JR.trans h.fr.output,⟨Nat.le_trans h.fr.step.size QN,fun k hk hnk=>?_,fun k hk=>(h.fr.step.bs k hk).trans (Z8 k (Nat.lt_of_lt_of_le hk h.fr.step.size))⟩,fun k j hk hL=>?_⟩
  ·rw[Le k (Nat.lt_of_lt_of_le hk h.fr.step.size) ?_]
   ·exact h.fr.step.keep k hk hnk
   ·intro x hx;rcases h.ownd k ⟨id,x,RM,hx⟩ with hq|hq
    ·exact hnk hq
    ·omega
  ·have hkw:=Nat.lt_of_lt_of_le hk h.fr.step.size
   have Zv:w'.cell? ⟨k,j,none⟩=w.cell? ⟨k,j,none⟩∧w'.frozen? ⟨k,j,none⟩=w.frozen? ⟨k,j,none⟩:=by
    by_cases e:∃y,β id=some (k,y)
    ·obtain⟨y,hy⟩:=e;refine hO k y hy hkw j ?_;rcases Nat.lt_or_ge j y with q|q
     ·exact q
     ·exact absurd (h.rngB id (.ar false c) k y h0 trivial hy hk j q) hL
    ·have Vq:=Le k hkw (fun x hx=>e ⟨x,hx⟩)
     exact⟨World.cell?_of_block (w:=w) Vq,World.frozen?_of_block (w:=w) Vq⟩
   rw[Zv.1,Zv.2];exact h.fr.rng k j hk hL
end
open Go.RowKit
section
variable {R:Type} {r:R} {P:Program} {N:Nat} {w0:World} {X0:Hm} {Y:Nat->Prop} {β β':Bt} {s:St} {a:Act} {w w':World} {o:Oper} {A:Nat->Prop}
structure Src (P:Program) (w:World) (A:Nat->Prop) (size:Nat) (xv:Value) (m:Nat) (new:List PV) (news:List Value):Prop where
 len:∀w':World,(Builtin.lenOf xv).run P w'=.ok m w'
 cells:∀w':World,(∀b,b<w.heap.size->w'.heap[b]?=w.heap[b]?)->(Builtin.firstCells size m xv).run P w'=.ok news.toArray w'
 part:∀k,k<=m->(Builtin.firstCells size k xv).run P w=.ok (news.take (k*size)).toArray w
 one:∀u∈news,u.oneCell'=true
 rep:Ba (As w A) new news
theorem ET (h:Cj N w0 X0 Y β s a w){e tx:TypeId}{x:Operand}{K:Nat->List PV->Option R}(hk:TT P s (A4 P e) tx (Bu s.tm x) K=some r)
  (h1c:∀m new,K m new=some r->new.length=m*A4 P e):
  (∃d,P.underlying tx=some d∧(∀k,d ≠ .int k))∧∃m new news,K m new=some r∧Src P w (Cs s.hp β Y) (A4 P e) (a.eval x) m new news:=by
 unfold TT SK at hk;split at hk
 ·rename_i hu;obtain⟨Vy,hk⟩:=Aj hk;have Vy:=Nat.eq_of_beq_eq_true Vy;obtain⟨b,hx,hk⟩:=C4 hk;have Cx:=B1 h hx;refine⟨⟨_,hu,by simp⟩,b.size,Dx b,b.data.toList.map (fun y=>Value.int .u8 y.toNat),hk,?_,?_,?_,?_,?_⟩
  ·intro w';rw[Cx];rfl
  ·intro w' _;rw[Cx]
   have hx:b.data.extract 0 b.size=b.data:=by
    have:b.size=b.data.size:=rfl;rw[this,Array.extract_size]
   have hd:(b.extract 0 b.size).data=b.data:=by
    rw[ByteArray.extract_zero_size]
   simp only[Builtin.firstCells,hd];rw[←Array.toList_map,Array.toArray_toList];rfl
  ·intro k Jo;rw[Cx,Vy,Nat.mul_one];have hd:(b.extract 0 k).data=b.data.extract 0 k:=ByteArray.data_extract
   have e1:(b.data.extract 0 k).map (fun y=>Value.int .u8 y.toNat)=((b.data.toList.map fun y=>Value.int .u8 y.toNat).take k).toArray:=by
    apply Array.toList_inj.1;simp[List.map_take]
   simp only[Builtin.firstCells,hd];rw[e1];rfl
  ·intro u hu;simp at hu;obtain⟨y,_,rfl⟩:=hu;rfl
  ·unfold Dx;generalize b.data.toList=l
   induction l with
   |nil=>trivial
   |cons y l ih=>exact⟨As.sc _,ih⟩
 ·rename_i e' hu;refine⟨⟨_,hu,by simp⟩,?_⟩
  obtain⟨m,new,hk,hc⟩:=DQ h hk;have Em:=h1c m new hk;rcases hc with⟨⟨ad,Cx⟩,rfl,rfl⟩|⟨ad,cap,Cx,hn,Bp,hrd⟩
  ·have f0:∀w':World,(Builtin.firstCells (A4 P e) 0 (.slice ad 0 0)).run P w'=.ok #[] w':=fun w'=>by
    cases ad with
    |none=>rfl
    |some p=>exact run_firstCells_some (P:=P) w' (A4 P e) 0 p 0 0 [] (by simp) (fun j v hj=>by simp at hj)
   exact⟨0,[],[],hk,fun w'=>by rw[Cx];rfl,fun w' _=>by rw[Cx];exact f0 w',fun k Jo=>by rw[Cx,Nat.le_zero.1 Jo,List.take_nil];exact f0 w,by simp,trivial⟩
  ·refine⟨m,new,new.mapIdx (fun j _=>(w.cell? (ad.add j)).getD undef),hk,fun w'=>by rw[Cx];rfl,fun w' hw=>?_,fun k Jo=>?_,?_,?_⟩
   ·rw[Cx];refine run_firstCells_some (P:=P) w' (A4 P e) m ad m cap _ (by simp[Em]) fun j v hj=>?_
    rw[List.getElem?_mapIdx] at hj;cases hc:new[j]? with
    |none=>rw[hc] at hj;cases hj
    |some c=>
     rw[hc] at hj;simp at hj;obtain⟨u,hu,_⟩:=hrd j c hc;rw[hu] at hj;simp at hj;subst hj;have Bp:ad.block<w.heap.size:=by rcases Bp with rfl|Bp<;>first|exact Bp|simp at hc
     rw[World.cell?_of_block (w:=w) (by rw[E4];exact hw _ Bp)]
     exact hu
   ·rw[Cx];have hkm:k*A4 P e<=m*A4 P e:=Nat.mul_le_mul_right _ Jo;refine run_firstCells_some (P:=P) w (A4 P e) k ad m cap _ (by rw[List.length_take,List.length_mapIdx,Em];omega) fun j v hj=>?_
    rw[List.getElem?_take] at hj;split at hj
    ·rw[List.getElem?_mapIdx] at hj;cases hc:new[j]? with
     |none=>rw[hc] at hj;cases hj
     |some c=>
      rw[hc] at hj;simp at hj;obtain⟨u,hu,_⟩:=hrd j c hc;rw[hu] at hj;simp at hj;subst hj;exact hu
    ·cases hj
   ·intro u hu;obtain⟨j,hj⟩:=List.mem_iff_getElem?.1 hu;rw[List.getElem?_mapIdx] at hj;cases hc:new[j]? with
    |none=>rw[hc] at hj;cases hj
    |some c=>
     rw[hc] at hj;simp at hj;obtain⟨v,hv,h2,ht⟩:=hrd j c hc;rw[hv] at hj;simp at hj;subst hj;exact h2
   ·refine Ba.of_at (by simp) fun j c v hc hj=>?_
    rw[List.getElem?_mapIdx,hc] at hj;simp at hj;obtain⟨u,hu,_,ht⟩:=hrd j c hc;rw[hu] at hj;simp at hj;subst hj;exact ht
 ·cases hk
theorem EU {e:TypeId}(h:KI P e=true):∃i z,P.info? e=some i∧i.zero=some z∧z.cells.size=i.size∧A4 P e=i.size:=by
 unfold KI at h;split at h
 ·rename_i i hi;split at h
  ·rename_i z hz;exact⟨i,z,hi,hz,Nat.eq_of_beq_eq_true h,by simp[A4,hi]⟩
  ·cases h
 ·cases h
theorem run_first_slice {es n cap:Nat}{ad:Option Addr}{olds:List Value}(h:(ad=none∧olds=[])∨∃p,ad=some p∧olds.length=n*es∧∀(j:Nat) v,olds[j]?=some v->w.cell? (p.add j)=some v):
  (Builtin.firstCells es n (.slice ad n cap)).run P w=.ok olds.toArray w:=by
 rcases h with⟨rfl,rfl⟩|⟨p,rfl,hl,hc⟩
 ·rfl
 ·exact run_firstCells_some (P:=P) w es n p n cap olds hl hc
theorem append_grow_run {t tx ty e:TypeId}{i:TypeInfo}{z:Value}{d:TypeDesc}{ts:List TypeId}(ht:P.underlying t=some (.slice e)) (YR:P.underlying tx=some d)(hd:∀k,d ≠ .int k)(hi:P.info? e=some i)(hz:i.zero=some z)
  {ad:Option Addr} {n cap m:Nat} {xv:Value} {olds news:List Value} {A:Nat->Prop} {new:List PV} (hs:Src P w A i.size xv m new news)
  (hold:(ad=none∧olds=[])∨∃p,ad=some p∧olds.length=n*i.size∧∀(j:Nat) v,olds[j]?=some v->w.cell? (p.add j)=some v)
  (hg:cap<n+m)(hb:(n+m)*i.bytes<=1099511627776) (h63:n+m<=1099511627776):
  (Builtin.append_ (t::tx::ts).toArray ty #[.slice ad n cap,xv]).run P w =
   .ok (.slice (some ⟨w.heap.size,0,none⟩) (n+m) (grownCap w (n+m) cap e)) (w.drew.alloc (.cells (olds.toArray++news.toArray++Builtin.zeroCells z.cells (grownCap w (n+m) cap e-(n+m))) e)):=by
 have h1:=hs.len w;have h2:(Builtin.firstCells i.size m xv).run P w.drew=.ok news.toArray w.drew:=hs.cells w.drew (fun _ _=>rfl)
 have h3:(Builtin.firstCells i.size n (.slice ad n cap)).run P w.drew=.ok olds.toArray w.drew:=run_first_slice (w:=w.drew) (by
  rcases hold with hh|⟨p,hp,hl,hc⟩
  ·exact .inl hh
  ·exact .inr ⟨p,hp,hl,fun j v hj=>hc j v hj⟩)
 have Aji:=growslice_fits (need:=n+m) (old:=cap) (bytes:=i.bytes) hg (by omega)
 have hn:¬(n+m<=cap):=by omega
 have Ai2:¬(9223372036854775807<((n:Int)+(m:Int))):=by omega
 have Ah9:¬(281474976710656<Builtin.nextslicecap (n+m) cap*i.bytes):=by omega
 have CH:(match d with | .int _=>true|_=>false)=false:=by cases d<;>first|rfl|exact absurd rfl (hd _)
 simp[Builtin.append_,run_underlying ht,run_underlying YR,CH,sizeOf,typeInfo,zeroValue,hi,hz,h1,hn,Ai2,Ah9,Question.forced,h2,h3,newRow,grownCap]
 congr 2
 apply Array.ext';simp[List.append_assoc]
theorem append_room_run {t tx ty e:TypeId}{i:TypeInfo}{d:TypeDesc}{ts:List TypeId}(ht:P.underlying t=some (.slice e)) (YR:P.underlying tx=some d)(hd:∀k,d ≠ .int k)(hi:P.info? e=some i)
  {b ob n cap m:Nat} {xv:Value} {news:List Value} {A:Nat->Prop} {new:List PV} (hs:Src P w A i.size xv m new news) (hl:news.length=m*i.size)
  (hcell:∀k,k<news.length->(w.cell? ⟨b,ob+n*i.size+k,none⟩).isSome=true) (hfr:∀k,k<news.length->w.frozen? ⟨b,ob+n*i.size+k,none⟩=false)(hg:n+m<=cap):
  (Builtin.append_ (t::tx::ts).toArray ty #[.slice (some ⟨b,ob,none⟩) n cap,xv]).run P w=.ok (.slice (some ⟨b,ob,none⟩) (n+m) cap) (w.setCells b (ob+n*i.size) news):=by
 have h1:=hs.len w;have h2:(Builtin.firstCells i.size m xv).run P w=.ok news.toArray w:=hs.cells w (fun _ _=>rfl)
 have h3:=run_storeCells_cells (P:=P) b (ob+n*i.size) news 0 w (fun k hk=>by simpa using hcell k hk) (fun k hk=>by simpa using hfr k hk) hs.one
 have CH:(match d with | .int _=>true|_=>false)=false:=by cases d<;>first|rfl|exact absurd rfl (hd _)
 have _:=hl;simp[Builtin.append_,run_underlying ht,run_underlying YR,CH,sizeOf,typeInfo,hi,h1,hg,h2,B8];rw[h3];simp
theorem RA {t ty e:TypeId}{i:TypeInfo}{ts:List TypeId}(ht:P.underlying t=some (.slice e)) (hi:P.info? e=some i)
  {ad:Option Addr} {n cap m:Nat} {xv:Value} {news:List Value} {A:Nat->Prop} {new:List PV} (hs:Src P w A i.size xv m new news)
  {w1:World} (Lx:(match ad with|some p=>storeCells p (news.take (min m n*i.size)) 0|none=>pure ()).run P w=.ok () w1):
  (Builtin.copy_ (t::ts).toArray ty #[.slice ad n cap,xv]).run P w=.ok (goInt ((min m n:Nat):Int)) w1:=by
 have h1:=hs.len w;have h2:=hs.part (min m n) (Nat.min_le_left _ _);have e:Nat.min m n=min m n:=rfl;generalize min m n=k at *
 cases ad with
 |none=>
  simp only at Lx;simp[Builtin.copy_,run_underlying ht,sizeOf,typeInfo,hi,h1,h2,e]
  simpa using Lx
 |some p=>
  simp only at Lx;simp[Builtin.copy_,run_underlying ht,sizeOf,typeInfo,hi,h1,h2,e,Lx]
theorem Y4 {t tx ty e:TypeId}{i:TypeInfo}{k kx:IntKind}{ts:List TypeId}(ht:P.underlying t=some (.slice e)) (YR:P.underlying tx=some (.int k)) (hi:P.info? e=some i):
  (Builtin.append_ (t::tx::ts).toArray ty #[.slice none 0 0,.int kx 0]).run P w=.ok (.slice none 0 0) w:=by
 have hw:IntKind.i64.wrap 0=0:=by decide
 simp[Builtin.append_,run_underlying ht,run_underlying YR,sizeOf,typeInfo,hi,asInt,asIntOf,hw]
theorem AW {t tx ty e:TypeId}{i:TypeInfo}{z:Value}{k kx:IntKind}{ts:List TypeId}(ht:P.underlying t=some (.slice e)) (YR:P.underlying tx=some (.int k)) (hi:P.info? e=some i)(hz:i.zero=some z)
  {n:Int} (h0:0<n) (hb:n.toNat*i.bytes<=1099511627776) (hn:n<=1099511627776):
  (Builtin.append_ (t::tx::ts).toArray ty #[.slice none 0 0,.int kx n]).run P w =
   .ok (.slice (some ⟨w.heap.size,0,none⟩) n.toNat (grownCap w n.toNat 0 e)) (w.drew.alloc (.cells ((if n.toNat*i.size=0 then #[] else Builtin.zeroCells z.cells n.toNat)++Builtin.zeroCells z.cells (grownCap w n.toNat 0 e-n.toNat)) e)):=by
 have hw:IntKind.i64.wrap n=n:=IntWalk.i64_in n (by omega)
 have Aji:=growslice_fits (need:=n.toNat) (old:=0) (bytes:=i.bytes) (by omega) (by omega)
 have MZ:¬n<0:=by omega
 have Dy:¬(281474976710656<n*(i.bytes:Int)):=by
  have:n*(i.bytes:Int)=((n.toNat*i.bytes:Nat):Int):=by
   rw[Int.natCast_mul,Int.toNat_of_nonneg (by omega)]
  omega
 have LZ:¬(n.toNat=0):=by omega
 have Ai2:¬(9223372036854775807<(n.toNat:Int)):=by omega
 have Ah9:¬(281474976710656<Builtin.nextslicecap n.toNat 0*i.bytes):=by omega
 have Z0:¬n<=0:=by omega
 have hmx:¬(9223372036854775807<max n 0):=by omega
 by_cases hs:n.toNat*i.size=0
 ·simp[Builtin.append_,run_underlying ht,run_underlying YR,sizeOf,typeInfo,zeroValue,hi,hz,asInt,asIntOf,hw,MZ,Dy,LZ,Z0,hmx,Ai2,Ah9,Question.forced,hs,newRow,grownCap,Builtin.firstCells]
 ·simp[Builtin.append_,run_underlying ht,run_underlying YR,sizeOf,typeInfo,zeroValue,hi,hz,asInt,asIntOf,hw,MZ,Dy,LZ,Z0,hmx,Ai2,Ah9,Question.forced,hs,newRow,grownCap,Builtin.firstCells]
theorem Lr {t tx ty e:TypeId}{i:TypeInfo}{d:TypeDesc}{ts:List TypeId}(ht:P.underlying t=some (.slice e)) (YR:P.underlying tx=some d)(hd:∀k,d ≠ .int k)(hi:P.info? e=some i)
  {ad:Option Addr} {xv:Value} {news:List Value} {A:Nat->Prop} {new:List PV} (hs:Src P w A i.size xv 0 new news) (h0:news=[]):
  (Builtin.append_ (t::tx::ts).toArray ty #[.slice ad 0 0,xv]).run P w=.ok (.slice ad 0 0) w:=by
 subst h0;have h1:=hs.len w;have h2:(Builtin.firstCells i.size 0 xv).run P w=.ok ([]:List Value).toArray w:=hs.cells w (fun _ _=>rfl)
 have CH:(match d with | .int _=>true|_=>false)=false:=by cases d<;>first|rfl|exact absurd rfl (hd _)
 cases ad<;>simp[Builtin.append_,run_underlying ht,run_underlying YR,CH,sizeOf,typeInfo,hi,h1,h2,storeCells]
end
open Go.RowKit
section
variable {R:Type} {r:R} {P:Program} {N:Nat} {w0:World} {X0:Hm} {Y:Nat->Prop} {β β':Bt} {s:St} {a:Act} {w w':World} {o:Oper} {A:Nat->Prop}
theorem F4 {b j:Nat}(h:j<bsz w b):(w.cell? ⟨b,j,none⟩).isSome=true:=by
 unfold bsz at h;unfold World.cell?;split at h
 ·rename_i c e fz hb;simp[hb,h]
 ·omega
theorem SZ {id d:Nat}{c cells:List PV}{bo:Option (Nat × Nat)} (h0:s.hp id=some (.ar false c)) (hd:s.hp d=none)
  (MM:∀k x,bo=some (k,x)->w.heap.size<=k∨∃y,β id=some (k,y)):
  ∀k,k<w.heap.size->Cs (Cb (Cb s.hp id (some .mv)) d (some (.ar false cells))) (Cb β d bo) Y k->Cs s.hp β Y k:=by
 rintro k hk (⟨i,x,hl,hβ⟩|hY)
 ·by_cases e':i=d
  ·subst e';rw[Al] at hβ;rcases MM k x hβ with h|⟨y,hy⟩
   ·omega
   ·exact .inl ⟨id,y,by rw[h0];trivial,hy⟩
  ·rw[Ah _ _ e'] at hl hβ;by_cases e:i=id
   ·subst e;rw[Al] at hl;exact hl.elim
   ·rw[Ah _ _ e] at hl;exact .inl ⟨i,x,hl,hβ⟩
 ·exact .inr hY
theorem ER {pre new:List PV}{olds news:List Value}{zs:Array Value}{e:TypeId}{A':Nat->Prop}(hg:Dl w w' (olds.toArray++news.toArray++zs) e) (hA:∀b,b<w.heap.size->A' b->A b)
  (h1:Ba (As w A) pre olds) (h2:Ba (As w A) new news) (ho:∀u∈olds,u.oneCell'=true)(hn:∀u∈news,u.oneCell'=true):Wv w' A' ⟨w.heap.size,0,none⟩ (pre++new):=by
 refine WL hg hA fun j p hj=>?_
 obtain⟨v,hv,ht⟩:=(h1.app h2).get hj;refine⟨v,?_,?_,ht⟩
 ·have Bp:j<(olds++news).length:=by
   rcases Nat.lt_or_ge j (olds++news).length with h|h
   ·exact h
   ·rw[List.getElem?_eq_none h] at hv;cases hv
  rw[Array.getElem?_append_left (by simpa using Bp)]
  simpa using hv
 ·rcases List.mem_append.1 (List.mem_of_getElem? hv) with hm|hm
  ·exact ho v hm
  ·exact hn v hm
theorem JW (h:Cj N w0 X0 Y β s a w){c:Call}(ho:o.op=.call c)(hc:c.callee=.builtin .append)(hnb:Wc c=true){d:Nat}(YQ:o.dst=some d){b x:Operand}(Eg:c.args.toList=[b,x]) {t tx:TypeId}{ts:List TypeId}(AX:c.argTypes.toList=t::tx::ts)
  {K:PV->List (Nat × Bk)->Option R} (hk:Tp P (I9 s.hp) d t tx (Bu s.tm x) K=some r):∃v nw,K v nw=some r∧D2 P a w o Y β s v [] nw:=by
 have hb:b=.const (.slice none 0 0):=by
  unfold Wc at hnb;rw[Eg] at hnb;split at hnb
  ·rename_i e;injection e
  ·cases hnb
 have DD:c.args = #[b,x]:=by
  have:c.args=([b,x]:List Operand).toArray:=by rw[←Eg]
  exact this
 have QJ:c.argTypes=(t::tx::ts).toArray:=by rw[←AX]
 have O1:a.eval b=.slice none 0 0:=by rw[hb];rfl
 have run:∀{v:Value} {w1:World},(Builtin.append_ (t::tx::ts).toArray o.type #[a.eval b,a.eval x]).run P w=.ok v w1->(execOp a.eval o).run P w=.ok (.value v) w1:=by
  intro v w1 hr;unfold execOp;rw[ho];simp only[resolve,hc,invoke,builtin,Sem.run_bind,Sem.run_pure,Result.andThen_ok,DD,QJ];have:(#[b,x]:Array Operand).map a.eval = #[a.eval b,a.eval x]:=by simp
  rw[this,hr];rfl
 unfold Tp at hk;split at hk
 ·rename_i e hu;obtain⟨hzi,hk⟩:=Aj hk;obtain⟨i,z,hi,hz,Nt,L8⟩:=EU hzi;have Sx:((P.info? e).map (·.bytes)).getD 0=i.bytes:=by rw[hi];rfl
  obtain⟨⟨dx,hdx,OL⟩,m,new,news,hk,hs⟩:=ET (s:=s) h hk (fun m new Jo=>by
   obtain⟨hb,_⟩:=Aj Jo;simp only[Bool.and_eq_true,decide_eq_true_eq] at hb;exact hb.1.1)
  obtain⟨Hh,hk⟩:=Aj hk;simp only[Bool.and_eq_true,decide_eq_true_eq] at Hh;obtain⟨⟨VP,hby⟩,Hk⟩:=Hh;have CZ:new.length=news.length:=hs.rep.len;rw[L8] at VP hk hs;rw[Sx] at hby;have Zr:news.length=m*i.size:=by omega
  refine⟨_,_,hk,by simp,?_⟩
  by_cases hm0:m=0
  ·subst hm0;have hr:=Lr (P:=P) (w:=w) (t:=t) (tx:=tx) (ty:=o.type) (ts:=ts) (ad:=none) hu hdx OL hi hs (List.eq_nil_of_length_eq_zero (by omega))
   rw[←O1] at hr;have PK:new=[]:=List.eq_nil_of_length_eq_zero (by omega)
   subst PK;refine⟨_,_,run hr,fun Ag8=>⟨Cb β d none,?_⟩⟩
   have Vz:s.hp d=none:=(Bg Ag8).1 d _ (List.mem_singleton_self _);rw[O1];refine⟨rfl,rfl,rfl,Bw.refl _ _,fun j hj=>Ah _ _ (by rintro rfl;exact hj Vz),?_,?_,?_,?_,?_,.inl ⟨Al _ _ _,rfl,rfl,none,rfl⟩,?_⟩
   ·intro j bx hm;simp at hm;rw[hm.2];trivial
   ·intro j bx hm;simp at hm;obtain⟨rfl,rfl⟩:=hm;exact .inl ⟨Al _ _ _,rfl⟩
   ·intro j bx k q hm hq;simp at hm;obtain⟨rfl,rfl⟩:=hm;rw[Al] at hq;cases hq
   ·intro j bx j' bx' k q q' hm Mj _ _;simp at hm Mj;rw[hm.1,Mj.1]
   ·intro j cells hm;simp at hm
   ·intro j hj;simp[Bo,B4,Ao] at hj;subst hj;exact .inr ⟨.ar false [],by simp⟩
  ·have hr:=append_grow_run (P:=P) (w:=w) (t:=t) (tx:=tx) (ty:=o.type) (ts:=ts) (ad:=none) (n:=0) (cap:=0) (olds:=[]) hu hdx OL hi hz hs (.inl ⟨rfl,rfl⟩) (by omega) (by rw[Nat.zero_add];exact hby) (by omega)
   rw[←O1] at hr;refine⟨_,_,run hr,fun Ag8=>⟨Cb β d (some (w.heap.size,0)),?_⟩⟩
   have Vz:s.hp d=none:=(Bg Ag8).1 d _ (List.mem_singleton_self _);have hge:0+m<=grownCap w (0+m) 0 e:=grownCap_ge w (0+m) 0 e
   have U9:Dl w (w.drew.alloc (.cells (([]:List Value).toArray++news.toArray++Builtin.zeroCells z.cells (grownCap w (0+m) 0 e-(0+m))) e)) (([]:List Value).toArray++news.toArray++Builtin.zeroCells z.cells (grownCap w (0+m) 0 e-(0+m))) e:=
    ⟨rfl,rfl,rfl,fun k hk=>Below.heap_alloc w.drew _ k hk,by show (w.heap.push _).size=_;simp,(0,0),by show (w.heap.push _)[w.heap.size]?=_;simp,.inl rfl⟩
   have UZ:(([]:List Value).toArray++news.toArray++Builtin.zeroCells z.cells (grownCap w (0+m) 0 e-(0+m))).size=grownCap w (0+m) 0 e*i.size:=by
    simp only[Array.size_append,List.size_toArray,size_zeroCells,Nt,Zr,List.length_nil,←Nat.add_mul];rw[Nat.zero_add (m*i.size),←Nat.add_mul]
    congr 1
    omega
   refine Qd (s:=⟨s.tm,Ad s.hp []⟩) U9 Vz trivial ?_ (fun cells hx=>by cases hx) ?_ (by intro j hj;simp[Bo,B4,Ao] at hj;exact .inr hj)
   ·refine .inr ⟨w.heap.size,0,Al _ _ _,?_,fun _ j _ hj=>?_,(fun q=>by cases q)⟩
    ·exact ER (pre:=[]) U9 (WQ (s:=⟨s.tm,Ad s.hp []⟩) Vz) trivial hs.rep (by simp) hs.one
    ·rw[U9.bsz] at hj;exact U9.frozen hj
   ·refine .inr ⟨w.heap.size,0,0,grownCap w (0+m) 0 e,Al _ _ _,by rw[Nat.zero_add],.inl rfl,by omega,?_,by rw[U9.size];omega⟩
    exact⟨by rw[U9.bsz,UZ];omega,.inr (Kh w.drew _ e)⟩
 ·cases hk
theorem QZ {lo hi:Option Operand}{y3:Operand}{k3:IntKind}{len cap l u m:Nat}(hl:(lo=none∧l=0)∨∃y k,lo=some y∧a.eval y=.int k (l:Int))
  (hu:∃y k,hi=some y∧a.eval y=.int k (u:Int)) (hm:a.eval y3=.int k3 (m:Int)) (h1:l<=u)(h2:u<=m)(h3:m<=cap):
  (Instr.sliceBounds true len cap (lo.map a.eval) (hi.map a.eval) (some (a.eval y3))).run P w=.ok (l,u,m) w:=by
 obtain⟨y,k,rfl,hy⟩:=hu;rcases hl with⟨rfl,rfl⟩|⟨y',k',rfl,hy'⟩
 ·simp[Instr.sliceBounds,Instr.sliceBound,asIntOf,hy,hm,h2,h3]
 ·simp[Instr.sliceBounds,Instr.sliceBound,asIntOf,hy,hy',hm,h1,h2,h3]
theorem JL (h:Cj N w0 X0 Y β s a w){t:TypeId}{x m:Operand}{lo hi:Option Operand}(ho:o.op=.slice t x lo hi (some m)) {d:Nat}{K:PV->List (Nat × Bk)->Option R}
  (hk:Tx P d t (Bu s.tm x) (lo.map (Bu s.tm)) (hi.map (Bu s.tm)) (some (Bu s.tm m)) K=some r):∃v nw,K v nw=some r∧D2 P a w o Y β s v [] nw:=by
 have hx:=Co h x;unfold Tx at hk;split at hk
 ·rename_i e hu;obtain⟨hb,hk⟩:=Aj hk;simp only[Bool.and_eq_true] at hb;obtain⟨Oy,hhi⟩:=hb
  obtain⟨yh,rfl⟩:∃y,hi=some y:=by
   cases hi with
   |none=>simp at hhi
   |some y=>exact⟨y,rfl⟩
  have fin:∀{ad:Option Addr} {n cap l u q:Nat},a.eval x=.slice ad n cap->n<=cap->((lo=none∧l=0)∨∃y k,lo=some y∧a.eval y=.int k (l:Int))->((some yh=none∧u=n)∨∃y k,some yh=some y∧a.eval y=.int k (u:Int))->(((some m:Option Operand)=none∧q=n)∨∃y k,(some m:Option Operand)=some y∧a.eval y=.int k (q:Int)) ->
    (Nat.beq l q&&Nat.beq u q&&decide (q<=n))=true->D2 P a w o Y β s (.view d (A4 P e) 0 0) [] [(d,.ar false [])]:=by
   intro ad n cap l u q Cx hn hl I1 hq hb;simp only[Bool.and_eq_true,decide_eq_true_eq] at hb;obtain⟨⟨b1,b2⟩,b3⟩:=hb;have b1:=Nat.eq_of_beq_eq_true b1;have b2:=Nat.eq_of_beq_eq_true b2;subst b1 b2
   have hu2:∃y k,(some yh:Option Operand)=some y∧a.eval y=.int k (u:Int):=by
    rcases I1 with⟨e,_⟩|e
    ·cases e
    ·exact e
   obtain⟨k3,hm3⟩:∃k,a.eval m=.int k (u:Int):=by
    rcases hq with⟨e,_⟩|⟨y,k,e,q⟩
    ·cases e
    ·cases e;exact⟨k,q⟩
   have NE:=QZ (P:=P) (w:=w) (len:=n) (cap:=cap) hl hu2 hm3 (Nat.le_refl _) (Nat.le_refl _) (by omega)
   have Cc:∃ad',(execOp a.eval o).run P w=.ok (.value (.slice ad' 0 0)) w:=by
    unfold execOp;rw[ho];cases ad with
    |none=>exact⟨none,by simp[Instr.sliceAt,Instr.slice,run_underlying hu,Cx,NE,Ci Oy] at NE ⊢⟩
    |some p=>exact⟨some p,by simp[Instr.sliceAt,Instr.slice,run_underlying hu,Cx,NE,Ci Oy] at NE ⊢⟩
   obtain⟨ad',Cc⟩:=Cc;refine⟨by simp,_,_,Cc,fun Ag8=>⟨Cb β d none,?_⟩⟩
   have Vz:s.hp d=none:=(Bg Ag8).1 d _ (List.mem_singleton_self _);refine⟨rfl,rfl,rfl,Bw.refl _ _,fun j hj=>Ah _ _ (by rintro rfl;exact hj Vz),?_,?_,?_,?_,?_,.inl ⟨Al _ _ _,rfl,rfl,ad',rfl⟩,?_⟩
   ·intro j bx hm;simp at hm;rw[hm.2];trivial
   ·intro j bx hm;simp at hm;obtain⟨rfl,rfl⟩:=hm;exact .inl ⟨Al _ _ _,rfl⟩
   ·intro j bx k q hm hq;simp at hm;obtain⟨rfl,rfl⟩:=hm;rw[Al] at hq;cases hq
   ·intro j bx j' bx' k q q' hm Mj _ _;simp at hm Mj;rw[hm.1,Mj.1]
   ·intro j cells hm;simp at hm
   ·intro j hj;simp[Bo,B4,Ao] at hj;subst hj;exact .inr ⟨.ar false [],by simp⟩
  split at hk
  ·rename_i id es off n e';rw[e'] at hx;obtain⟨Vy,hk⟩:=Aj hk;obtain⟨l,hk,hl⟩:=Dn h hk;obtain⟨u,hk,I1⟩:=Dn h hk;obtain⟨q,hk,hq⟩:=Dn (x:=some m) h hk;obtain⟨hb,hk⟩:=Aj hk;refine⟨_,_,hk,?_⟩;rcases hx with⟨hβ,_,rfl,ad,Cx⟩|⟨b,ob,y,cap,hβ,Cx,hy,hn,Uj,Bp⟩
   ·exact fin Cx (Nat.le_refl _) hl I1 hq hb
   ·exact fin Cx hn hl I1 hq hb
  ·obtain⟨z,n,c,hk,hp⟩:=E6 hk;obtain⟨l,hk,hl⟩:=Dn h hk;obtain⟨u,hk,I1⟩:=Dn h hk;obtain⟨q,hk,hq⟩:=Dn (x:=some m) h hk;obtain⟨hb,hk⟩:=Aj hk;refine⟨_,_,hk,?_⟩;rcases F1 hp hx with⟨Cx,rfl,rfl⟩|⟨ad,cap,Cx,_,hn,_⟩|⟨ad,cap,Cx,_,rfl,rfl⟩
   ·exact fin Cx (Nat.le_refl _) hl I1 hq hb
   ·exact fin Cx hn hl I1 hq hb
   ·exact fin Cx (Nat.zero_le _) hl I1 hq hb
 ·cases hk
end
open Go.RowKit
section
variable {R:Type} {r:R} {P:Program} {N:Nat} {w0:World} {X0:Hm} {Y:Nat->Prop} {β β':Bt} {s:St} {a:Act} {w w':World} {o:Oper} {A:Nat->Prop}
theorem Afu (h:Cj N w0 X0 Y β s a w){G:Glo}(J1:QR P G w0 X0){C:Gt}{call:Ai}(Dr:∀f args res,call f args=some res->Do G P f args res){K:PV->List Nat->List (Nat × Bk)->Option R}
  (hk:ED C P N call s.tm (rd s.hp) (I9 s.hp) o K=some r):∃v fz nw,K v fz nw=some r∧CP P a w o Y β s v fz nw:=by
 have one:∀{K':PV->Option R},(∀v,K' v=some r->K v [] []=some r)->(∃v,K' v=some r∧D2 P a w o Y β s v [] [])->∃v fz nw,K v fz nw=some r∧CP P a w o Y β s v fz nw:=
  fun hK ⟨v,h1,h2⟩=>⟨v,[],[],hK v h1,FE h2⟩
 have many:(∃v fz nw,K v fz nw=some r∧D2 P a w o Y β s v fz nw)->∃v fz nw,K v fz nw=some r∧CP P a w o Y β s v fz nw:=
  fun ⟨v,fz,nw,h1,h2⟩=>⟨v,fz,nw,h1,FE h2⟩
 unfold ED at hk;split at hk
 ·rename_i x ho;exact one (fun _ h=>h) (Wg (K:=fun p=>K p [] []) h (Aay ho) hk)
 ·rename_i x ho;exact one (fun _ h=>h) (Wg (K:=fun p=>K p [] []) h (OD ho) hk)
 ·rename_i c x y ho;exact one (fun _ h=>h) (SG (K:=fun p=>K p [] []) h ho hk)
 ·rename_i t ho;obtain⟨d,hd,hk⟩:=B3 hk;exact many (PB ho hk)
 ·rename_i t x ho;obtain⟨d,hd,hk⟩:=B3 hk;exact many (Aav h ho hk)
 ·rename_i t ps ho;exact one (fun _ h=>h) (QV (K:=fun p=>K p [] []) h ho hk)
 ·rename_i t n ps ho;obtain⟨d,hd,hk⟩:=B3 hk;exact many (Yi h ho hk)
 ·rename_i t x ho;exact one (fun _ h=>h) (UX (K:=fun p=>K p [] []) h ho hk)
 ·rename_i x ho;exact one (fun _ h=>h) (CS (K:=fun p=>K p [] []) h ho hk)
 ·rename_i op t x y ty ho;exact one (fun _ h=>h) (NQ (K:=fun p=>K p [] []) h ho hk)
 ·rename_i op t x ho;exact one (fun _ h=>h) (TG (K:=fun p=>K p [] []) h ho hk)
 ·rename_i src dst x ho;obtain⟨v,nw,hk,hg⟩:=SC h ho hk;obtain⟨d,hd,hk⟩:=B3 hk;exact⟨v,[],nw,hk,FE hg⟩
 ·rename_i t x y ho;obtain⟨d,hd,hk⟩:=B3 hk;exact many (SF h ho hk)
 ·rename_i t x lo hi mx ho;split at hk
  ·exact one (fun _ h=>h) (RE (K:=fun p=>K p [] []) h ho hk)
  ·obtain⟨d,hd,hk⟩:=B3 hk;obtain⟨v,nw,h1,h2⟩:=JL h ho hk;exact⟨v,[],nw,h1,FE h2⟩
 ·rename_i t x f ho;exact one (fun _ h=>h) (AR (K:=fun p=>K p [] []) h ho hk)
 ·rename_i t x f ho;exact one (fun _ h=>h) (OM (K:=fun p=>K p [] []) h ho hk)
 ·rename_i t x i ho;exact one (fun _ h=>h) (AQ (K:=fun p=>K p [] []) h ho hk)
 ·rename_i t x i ho;exact one (fun _ h=>h) (PO (K:=fun p=>K p [] []) h ho hk)
 ·rename_i t x k ok ho;exact one (fun _ h=>h) (LO (K:=fun p=>K p [] []) h ho hk)
 ·rename_i x i ho;exact one (fun _ h=>h) (FU (K:=fun p=>K p [] []) h ho hk)
 ·rename_i c ho;split at hk
  ·rename_i hc;exact one (fun _ h=>h) (ZB (K:=fun p=>K p [] []) h ho hc hk)
  ·rename_i hc;exact one (fun _ h=>h) (Aaz (K:=fun p=>K p [] []) h ho hc hk)
  ·rename_i hc;exact one (fun _ h=>h) (Aap (K:=fun p=>K p [] []) h ho hc hk)
  ·rename_i hc;exact one (fun _ h=>h) (YW (K:=fun p=>K p [] []) h ho hc hk)
  ·rename_i hc;obtain⟨hnb,hk⟩:=Aj hk;obtain⟨d,hd,Dw⟩:=B3 hk;obtain⟨b,xs,BD,Ex⟩:=A3 Dw;obtain⟨x,ys,hys,Qh⟩:=A3 Ex;obtain⟨Vn,Yq⟩:=C5 Qh;obtain⟨t,us,WW,hk5⟩:=A3 Yq;obtain⟨tx,vs,Fq,hk6⟩:=A3 hk5;rw[hys,Vn] at BD;rw[Fq] at WW;obtain⟨v,nw,h1,h2⟩:=JW h ho hc hnb hd BD WW hk6;exact⟨v,[],nw,h1,FE h2⟩
  ·rename_i f hc;exact EF h J1 Dr (fun hf hb=>DV ho hc J1.ng hf hb) hk
  ·rename_i t hc;obtain⟨f,hf0,Dw⟩:=Aik hk;have ht:a.eval (.tmp t)=.func (.func f) #[] #[]:=B1 h (x:=.tmp t) hf0;exact EF h J1 Dr (fun hf hb=>YC ho hc ht J1.ng hf hb) Dw
  ·cases hk
 ·cases hk
theorem ST (h:Cj N w0 X0 Y β s a w){G:Glo}(J1:QR P G w0 X0){C:Gt}{call:Ai}(Dr:∀f args res,call f args=some res->Do G P f args res){K:St->Option R}
  (hk:(ED C P N call s.tm (rd s.hp) (I9 s.hp) o fun v fz nw=>Y1 N s o.dst v fz nw K)=some r):
  ∃s',K s'=some r∧∀(next:Act->World->Prop) (Q:Exit->Act->World->Prop),(∀a' w' β',Cj N w0 X0 Y β' s' a' w'->next a' w')->o.wp P a w next Q:=by
 obtain⟨v,fz,nw,hk,Rt,hg⟩:=Afu h J1 Dr hk;unfold Y1 at hk;obtain⟨hb,hk⟩:=Aj hk;simp only[Bool.and_eq_true] at hb;refine⟨_,hk,fun next Q hn=>hg next Q fun val w' Lx=>?_⟩
 obtain⟨β',st⟩:=Lx hb.2
 have O1:Bn (Ad s.hp fz) nw=true:=by
  have:∀nw,Bn s.hp nw=true->Bn (Ad s.hp fz) nw=true:=by
   intro nw
   induction nw with
   |nil=>intro _;rfl
   |cons q nw ih=>
    obtain⟨i,b⟩:=q;intro hq;simp only[Bn,Bool.and_eq_true,Option.isNone_iff_eq_none] at hq ⊢;exact⟨⟨Dq.2 hq.1.1,hq.1.2⟩,ih hq.2⟩
  exact this nw hb.2
 exact hn _ _ β' ((h.freeze Rt).stepR hb.1 O1 st)
end
open Go.RowKit
section
variable {R:Type} {r:R} {P:Program} {N:Nat} {w0:World} {X0:Hm} {Y:Nat->Prop} {β β':Bt} {s:St} {a:Act} {w w':World} {o:Oper} {A:Nat->Prop}
structure Bf (b:Nat) (w w':World):Prop where
 os:w'.os=w.os
 tape:w'.tape=w.tape
 output:w'.output=w.output
 size:w'.heap.size=w.heap.size
 other:∀k,k≠b->w'.heap[k]?=w.heap[k]?
 bs:bsz w' b=bsz w b
 frz:∀j,w'.frozen? ⟨b,j,none⟩=w.frozen? ⟨b,j,none⟩
theorem Bf.grow {b:Nat}(h:Bf b w w')(k:Nat):Hw w w' k:=by
 by_cases e:k=b
 ·subst e;refine⟨by rw[h.bs];exact Nat.le_refl _,fun q=>?_⟩
  unfold PD at q ⊢;rw[h.bs,h.frz];exact q
 ·exact Hw.same (h.other k e)
theorem Bf.refl (b:Nat)(w:World):Bf b w w:=⟨rfl,rfl,rfl,rfl,fun _ _=>rfl,rfl,fun _=>rfl⟩
theorem Bf.setCell (b j:Nat)(v:Value)(w:World):Bf b w (w.setCell ⟨b,j,none⟩ v):=by
 refine⟨rfl,rfl,rfl,by simp[World.setCell],fun k hk=>Below.heap_setCell w ⟨b,j,none⟩ v k hk,?_,fun i=>?_⟩
 ·simp only[bsz,World.setCell,Array.getElem?_modify];simp only[if_true];cases h:w.heap[b]? with
  |none=>simp
  |some x=>cases x<;>simp
 ·simp only[World.frozen?,World.setCell,Array.getElem?_modify,if_true];cases h:w.heap[b]? with
  |none=>simp
  |some x=>cases x<;>simp
theorem Bf.trans {b:Nat}{w'':World}(h:Bf b w w')(h':Bf b w' w''):Bf b w w'':=
 ⟨h'.os.trans h.os,h'.tape.trans h.tape,h'.output.trans h.output,h'.size.trans h.size,fun k hk=>(h'.other k hk).trans (h.other k hk),h'.bs.trans h.bs,fun j=>(h'.frz j).trans (h.frz j)⟩
theorem Bf.setCells (b:Nat):∀(vs:List Value)(j:Nat)(w:World),Bf b w (w.setCells b j vs)
 |[],_,w=>Bf.refl b w
 |v::vs,j,w=>(Bf.setCell b j v w).trans (Bf.setCells b vs (j+1) _)
theorem Az4 {hp:Nat->Option Bk}{id:Nat}{bx bx':Bk}(h0:hp id=some bx)(hl:Cu (some bx)) (Jt:Cu (some bx')) (b:Nat):LX (Cb hp id (some bx')) β b↔LX hp β b:=by
 constructor
 ·rintro⟨i,o,h1,h2⟩
  by_cases e:i=id
  ·subst e;exact⟨i,o,by rw[h0];exact hl,h2⟩
  ·rw[Ah _ _ e] at h1;exact⟨i,o,h1,h2⟩
 ·rintro⟨i,o,h1,h2⟩
  by_cases e:i=id
  ·subst e;exact⟨i,o,by rw[Al];exact Jt,h2⟩
  ·exact⟨i,o,by rw[Ah _ _ e];exact h1,h2⟩
theorem Cj.write (h:Cj N w0 X0 Y β s a w){id b ob:Nat}{bx bx':Bk}(h0:s.hp id=some bx)(hl:Cu (some bx)) (Jt:Cu (some bx')) (hβ:β id=some (b,ob)) (hw:Bf b w w')
  (Lm:Qv w' (Cs s.hp β Y) β id bx') (hr:∀cells,bx'=.st cells->∀c∈cells,∀i∈Ao c,s.hp i≠none)
  (hK:∀c',bx'=.st c'->∃c,bx=.st c)(hR:∀j,BR bx' ob j->BR bx ob j)(hO:∀j,¬BR bx ob j->w'.cell? ⟨b,j,none⟩=w.cell? ⟨b,j,none⟩):Cj N w0 X0 Y β ⟨s.tm,Cb s.hp id (some bx')⟩ a w':=by
 have hX:=Az4 (β:=β) h0 hl Jt;have hA:∀k,Cs (Cb s.hp id (some bx')) β Y k↔Cs s.hp β Y k:=fun k=>⟨fun x=>x.imp (hX k).1 (fun y=>y),fun x=>x.imp (hX k).2 (fun y=>y)⟩
 have hAb:Cs s.hp β Y b:=.inl ⟨id,ob,by rw[h0];exact hl,hβ⟩
 have Lx:Bw (Cs s.hp β Y) w w':=⟨by rw[hw.size];exact Nat.le_refl _,fun k _ hk=>hw.other k (fun e=>hk (e ▸ hAb)),fun k _=>hw.grow k⟩
 have Dy:∀i,Cb s.hp id (some bx') i≠none↔s.hp i≠none:=by
  intro i;by_cases e:i=id
  ·subst e;rw[Al,h0];simp
  ·rw[Ah _ _ e]
 have hAe:Cs (Cb s.hp id (some bx')) β Y=Cs s.hp β Y:=funext fun k=>propext (hA k)
 have We:∀i,Cu (Cb s.hp id (some bx') i)->Cu (s.hp i):=by
  intro i hi;by_cases e:i=id
  ·subst e;rw[h0];exact hl
  ·rw[Ah _ _ e] at hi;exact hi
 refine⟨h.dfr,h.tsz,h.tmo,fun i hi=>?_,fun i bi hb=>?_,fun i i' k x y h1 h2=>h.inj i i' k x y (We i h1) (We i' h2),fun i k x hi hk=>?_,fun i hi j hj=>(Dy j).2 (h.wfT i hi j hj),
  fun i cells hc c OA j hj=>(Dy j).2 ?_,fun k hk=>h.ownd k ((hX k).1 hk),fun i bi k x BA hli hk Bp j hj=>?_,fun i hi=>⟨(Dy _).2 (h.pin i hi).1,(h.pin i hi).2⟩,fun i c k x hc hk Bp=>?_,fun k hk x=>h.Yx k hk ((hX k).1 x),h.Ylt,?_⟩
 ·rw[hAe];exact (h.tms i hi).step Lx (fun _ _ x=>x) (fun _ _=>rfl)
 ·rw[hAe];simp only at hb;by_cases e:i=id
  ·subst e;rw[Al] at hb;cases hb;exact Lm
  ·rw[Ah _ _ e] at hb;have BA:=h.box i bi hb;cases bi with
   |st c=>
    obtain⟨k,x,h1,h2,h3⟩:=BA
    have hk:k≠b:=by
     rintro rfl
     exact e (h.inj i id k x ob (by rw[hb];trivial) (by rw[h0];exact hl) h1 hβ)
    refine⟨k,x,h1,fun j c hj=>?_,fun j hj=>?_⟩
    ·obtain⟨v,hv,hc⟩:=h2 j c hj;exact⟨v,by rw[World.cell?_of_block (w:=w) (hw.other k hk)];exact hv,hc.step Lx (fun _ _ x=>x) (fun _ _=>rfl)⟩
    ·rw[World.frozen?_of_block (w:=w) (hw.other k hk)];exact h3 j hj
   |ar fz c=>
    rcases BA with hn|⟨k,x,h1,h2,h3,h4⟩
    ·exact .inl hn
    ·have hk:k≠b:=by
      rintro rfl
      cases fz with
      |true=>exact h4 rfl hAb
      |false=>exact e (h.inj i id k x ob (by rw[hb];trivial) (by rw[h0];exact hl) h1 hβ)
     refine .inr ⟨k,x,h1,fun j c hj=>?_,fun ef j hj Nk=>?_,h4⟩
     ·obtain⟨v,hv,h5,hc⟩:=h2 j c hj;exact⟨v,by rw[World.cell?_of_block (w:=w) (by rw[E4];exact hw.other k hk)];exact hv,h5,hc.step Lx (fun _ _ x=>x)⟩
     ·rw[World.frozen?_of_block (w:=w) (hw.other k hk)];refine h3 ef j hj ?_;unfold bsz at Nk ⊢;rw[hw.other k hk] at Nk;exact Nk
   |mv=>trivial
 ·rw[hw.size];exact h.blt i k x ((Dy i).1 hi) hk
 ·simp only at hc;by_cases e:i=id
  ·subst e;rw[Al] at hc;injection hc with hc;exact hr cells hc c OA j hj
  ·rw[Ah _ _ e] at hc;exact h.wfB i cells hc c OA j hj
 ·simp only at BA;by_cases e:i=id
  ·subst e;rw[Al] at BA;cases BA;rw[hβ] at hk;cases hk;exact h.rngB i bx b ob h0 hl hβ Bp j (hR j hj)
  ·rw[Ah _ _ e] at BA;exact h.rngB i bi k x BA hli hk Bp j hj
 ·simp only at hc;by_cases e:i=id
  ·subst e;rw[Al] at hc;injection hc with hc;obtain⟨c0,rfl⟩:=hK c hc;exact h.stp i c0 k x h0 hk Bp
  ·rw[Ah _ _ e] at hc;exact h.stp i c k x hc hk Bp
 ·refine⟨hw.os.trans h.fr.os,hw.tape.trans h.fr.tape,hw.output.trans h.fr.output,?_,fun k j hk hL=>?_⟩
  ·refine⟨by rw[hw.size];exact h.fr.step.size,fun k hk hnk=>?_,fun k hk=>(h.fr.step.bs k hk).trans (Lx.bs k (Nat.lt_of_lt_of_le hk h.fr.step.size))⟩
   rw[hw.other k ?_]
   ·exact h.fr.step.keep k hk hnk
   ·rintro rfl
    rcases h.ownd k ⟨id,ob,by rw[h0];exact hl,hβ⟩ with hx|hx
    ·exact hnk hx
    ·omega
  ·by_cases e:k=b
   ·subst e;rw[hO j (fun hj=>hL (h.rngB id bx k ob h0 hl hβ hk j hj)),hw.frz]
    exact h.fr.rng k j hk hL
   ·have hc:w'.cell? ⟨k,j,none⟩=w.cell? ⟨k,j,none⟩:=World.cell?_of_block (w:=w) (hw.other k e);have hf:w'.frozen? ⟨k,j,none⟩=w.frozen? ⟨k,j,none⟩:=World.frozen?_of_block (w:=w) (hw.other k e);rw[hc,hf];exact h.fr.rng k j hk hL
theorem Qo {c cs:List PV}{off j:Nat}{p:PV}(Z0:off+cs.length<=c.length)(h:(Bl c cs off)[j]?=some p):
  (off<=j∧j<off+cs.length∧cs[j-off]?=some p)∨((j<off∨off+cs.length<=j)∧c[j]?=some p):=by
 unfold Bl at h;by_cases h1:j<off
 ·rw[List.append_assoc,List.getElem?_append_left (by simp;omega),List.getElem?_take_of_lt h1] at h
  exact .inr ⟨.inl h1,h⟩
 ·by_cases h2:j<off+cs.length
  ·rw[List.getElem?_append_left (by simp;omega),List.getElem?_append_right (by simp;omega)] at h
   simp only[List.length_take,Nat.min_eq_left (by omega:off<=c.length)] at h
   exact .inl ⟨by omega,h2,h⟩
  ·rw[List.getElem?_append_right (by simp;omega)] at h
   simp only[List.length_append,List.length_take,Nat.min_eq_left (by omega:off<=c.length),List.getElem?_drop] at h
   rw[show off+cs.length+(j-(off+cs.length))=j from by omega] at h
   exact .inr ⟨.inr (by omega),h⟩
theorem Rl {c cs:List PV}{off:Nat}(Z0:off+cs.length<=c.length):(Bl c cs off).length=c.length:=by
 simp[Bl];omega
theorem Zm {t:TypeId}{b j:Nat}{v:Value}(L8:(P.info? t).map (·.size)=some v.cells.size) (hc:∀i,i<v.cells.toList.length->(w.cell? ⟨b,j+i,none⟩).isSome=true)
  (hf:∀i,i<v.cells.toList.length->w.frozen? ⟨b,j+i,none⟩=false)(h1:∀u∈v.cells.toList,u.oneCell'=true):(Instr.storeAt t (.pointer (some ⟨b,j,none⟩)) v).run P w=.ok () (w.setCells b j v.cells.toList):=by
 have:=run_storeCells_cells (P:=P) b j v.cells.toList 0 w (fun i hi=>by simpa using hc i hi) (fun i hi=>by simpa using hf i hi) h1
 simp only[Instr.storeAt,Instr.sureAddr,storeVar,Sem.run_bind,Sem.run_pure,Result.andThen_ok,Kt L8]
 simpa using this
theorem PJ (h:Cj N w0 X0 Y β s a w){t:TypeId}{x y:Operand}(ho:o.op=.store t x y)(hd:o.dst=none){K:St->Option R}(hk:Yu P s t (Bu s.tm x) (Bu s.tm y) K=some r):
  ∃s',K s'=some r∧∀(next:Act->World->Prop) (Q:Exit->Act->World->Prop),(∀a' w' β',Cj N w0 X0 Y β' s' a' w'->next a' w')->o.wp P a w next Q:=by
 have hx:=Co h x;have FP:=Ep h x
 have run:∀{b j:Nat},a.eval x=.pointer (some ⟨b,j,none⟩)->(Instr.storeAt t (.pointer (some ⟨b,j,none⟩)) (a.eval y)).run P w=.ok () (w.setCells b j (a.eval y).cells.toList) ->
   ∀(next:Act->World->Prop) (Q:Exit->Act->World->Prop),next a (w.setCells b j (a.eval y).cells.toList)->o.wp P a w next Q:=by
  intro b j Cx hr next Q hn;unfold Oper.wp execOp;rw[ho];simp only[Sem.run_bind,Cx,hr,Result.andThen_ok,Sem.run_pure];show next (a.put o.dst undef) _;rw[hd];exact hn
 unfold Yu at hk;split at hk
 ·rename_i id off e;rw[e] at hx FP;obtain⟨b,ob,hβ,Cx⟩:=hx;split at hk
  ·rename_i c h0;obtain⟨hb,hk⟩:=Aj hk;simp only[Bool.and_eq_true,decide_eq_true_eq] at hb;obtain⟨⟨Kd,hl⟩,Z0⟩:=hb;have hl:=Nat.eq_of_beq_eq_true hl;obtain⟨cs,hk,N1,h2,h1,hr,_⟩:=VM (Co h y) hl hk;obtain⟨_,Apj,L8⟩:=Pd Kd;have Ls:=h2.len;obtain⟨b',o',Fh,Kw,LE⟩:=h.box id _ h0;rw[hβ] at Fh;simp at Fh;obtain⟨rfl,rfl⟩:=Fh
   have hcell:∀i,i<(a.eval y).cells.toList.length->(w.cell? ⟨b,ob+off+i,none⟩).isSome=true:=by
    intro i hi;obtain⟨v,hv,_⟩:=Kw (off+i) _ (List.getElem?_eq_getElem (by omega))
    rw[Nat.add_assoc,hv];rfl
   have Cc:=Zm (P:=P) (t:=t) (w:=w) (b:=b) (j:=ob+off) (v:=a.eval y) (by rw[L8,←Apj,←N1,Ls];simp) hcell (fun i hi=>by rw[Nat.add_assoc];exact LE _ (by omega)) h1
   refine⟨_,hk,fun next Q hn=>run Cx Cc next Q (hn _ _ β ?_)⟩
   refine h.write h0 trivial trivial hβ (Bf.setCells b _ _ w) ?_ ?_ (fun _ _=>⟨_,rfl⟩) (fun j hj=>by
    have hj:ob<=j∧j<ob+(Bl c cs off).length:=hj;rw[Rl (by omega)] at hj
    exact hj) (fun j hj=>by
    refine World.cell?_setCells_out b _ _ w ⟨b,j,none⟩ (fun _ _=>?_)
    have hj:¬(ob<=j∧j<ob+c.length):=hj;show j<ob+off∨ob+off+_<=j;omega)
   ·have Lx:Bw (Cs s.hp β Y) w (w.setCells b (ob+off) (a.eval y).cells.toList):=by
     have hw:=Bf.setCells b (a.eval y).cells.toList (ob+off) w;have hAb:Cs s.hp β Y b:=.inl ⟨id,ob,by rw[h0];trivial,hβ⟩
     exact⟨by rw[hw.size];exact Nat.le_refl _,fun k _ hk=>hw.other k (fun e=>hk (e ▸ hAb)),fun k _=>hw.grow k⟩
    refine⟨b,ob,hβ,fun j p hj=>?_,fun j hj=>?_⟩
    ·rcases Qo (by omega) hj with⟨h3,h4,h5⟩|⟨h3,h5⟩
     ·obtain⟨u,hu,hcu⟩:=h2.get h5;have Bp:j-off<(a.eval y).cells.toList.length:=by omega
      refine⟨u,?_,hcu.step Lx (fun _ _ x=>x) (fun _ _=>rfl)⟩
      have:=World.cell?_setCells_in b (a.eval y).cells.toList (ob+off) w hcell (j-off) Bp;rw[show ob+j=ob+off+(j-off) from by omega,this]
      rw[List.getElem?_eq_getElem Bp] at hu;exact hu
     ·obtain⟨v,hv,Zo⟩:=Kw j p h5;refine⟨v,?_,Zo.step Lx (fun _ _ x=>x) (fun _ _=>rfl)⟩
      rw[World.cell?_setCells_out b _ _ w ⟨b,ob+j,none⟩ (fun _ _=>by show ob+j<ob+off∨ob+off+_<=ob+j;omega)]
      exact hv
    ·rw[Rl (by omega)] at hj
     rw[(Bf.setCells b _ _ w).frz];exact LE j hj
   ·intro cells hx c' Rj i hi;injection hx with hx;subst hx;unfold Bl at Rj;rcases List.mem_append.1 Rj with Rj|Rj
    ·rcases List.mem_append.1 Rj with Rj|Rj
     ·exact h.wfB id c h0 c' (List.mem_of_mem_take Rj) i hi
     ·exact Ep h y i (hr c' Rj i hi)
    ·exact h.wfB id c h0 c' (List.mem_of_mem_drop Rj) i hi
  ·rename_i c h0;obtain⟨hb,hk⟩:=Aj hk;simp only[Bool.and_eq_true,decide_eq_true_eq] at hb;obtain⟨Kd,Z0⟩:=hb;obtain⟨cs,m,hk,N1,BJ,hT,hF,hm,hv⟩:=Pr h hk;obtain⟨Hk,hk⟩:=Aj hk
   have Hk:id ∉ m:=by
    intro hi;have:m.any (Nat.beq id)=true:=List.any_eq_true.2 ⟨id,hi,Nat.beq_refl id⟩;rw[this] at Hk;cases Hk
   obtain⟨_,Apj,L8⟩:=Pd Kd
   have Aki:Ba (Bs w (Cs s.hp β Y) β) (cellsOf (Bu s.tm y)) (a.eval y).cells.toList:=by
    have WK:=Co h y;cases hp:Bu s.tm y with
    |agg ps=>
     rw[hp] at WK;obtain⟨vs,hay,h2⟩:=WK;rw[hay];exact h2
    |sc v=>
     rw[hp] at WK hF
     have SS:(a.eval y).oneCell'=true:=by
      have:=hv m (fun _ hi=>hi) hm [a.eval y] (by rw[hp];exact⟨WK,trivial⟩)
      exact this.2 _ (by simp)
     rw[Ms SS];exact⟨WK,trivial⟩
    |lst z es n cc=>
     rw[hp] at WK hF
     have SS:(a.eval y).oneCell'=true:=by
      have:=hv m (fun _ hi=>hi) hm [a.eval y] (by rw[hp];exact⟨WK,trivial⟩)
      exact this.2 _ (by simp)
     rw[Ms SS];exact⟨WK,trivial⟩
    |view i es oo n=>
     rw[hp] at WK hF
     have SS:(a.eval y).oneCell'=true:=by
      have:=hv m (fun _ hi=>hi) hm [a.eval y] (by rw[hp];exact⟨WK,trivial⟩)
      exact this.2 _ (by simp)
     rw[Ms SS];exact⟨WK,trivial⟩
    |own es n cc=>
     have hx0:=hF (Bu s.tm y) (by rw[hp];exact List.mem_singleton_self _)
     rw[hp] at hx0;exact hx0.elim
    |ptr i cc=>
     have hx0:=hF (Bu s.tm y) (by rw[hp];exact List.mem_singleton_self _)
     rw[hp] at hx0;exact hx0.elim
    |iptr i cc=>
     have hx0:=hF (Bu s.tm y) (by rw[hp];exact List.mem_singleton_self _)
     rw[hp] at hx0;exact hx0.elim
    |pbox cc=>
     have hx0:=hF (Bu s.tm y) (by rw[hp];exact List.mem_singleton_self _)
     rw[hp] at hx0;exact hx0.elim
    |tup cc=>
     have hx0:=hF (Bu s.tm y) (by rw[hp];exact List.mem_singleton_self _)
     rw[hp] at hx0;exact hx0.elim
    |ub=>
     have hx0:=hF (Bu s.tm y) (by rw[hp];exact List.mem_singleton_self _)
     rw[hp] at hx0;exact hx0.elim
    |top=>
     have hx0:=hF (Bu s.tm y) (by rw[hp];exact List.mem_singleton_self _)
     rw[hp] at hx0;exact hx0.elim
   obtain⟨h2,h1⟩:=hv m (fun _ hi=>hi) hm _ Aki
   have Ls:=h2.len;have hf:=h.freeze hm;have h0':Ad s.hp m id=some (.ar false c):=by rw[Bq,if_neg Hk];exact h0
   rcases hf.box id _ h0' with⟨hn,_⟩|⟨b',o',Fh,Kw,LE,_⟩
   ·rw[hβ] at hn;cases hn
   rw[hβ] at Fh;simp at Fh;obtain⟨rfl,rfl⟩:=Fh
   have hcell:∀i,i<(a.eval y).cells.toList.length->(w.cell? ⟨b,ob+off+i,none⟩).isSome=true:=by
    intro i hi;obtain⟨v,hv,_⟩:=Kw (off+i) _ (List.getElem?_eq_getElem (by omega))
    rw[B8] at hv;rw[Nat.add_assoc,hv];rfl
   have Cc:=Zm (P:=P) (t:=t) (w:=w) (b:=b) (j:=ob+off) (v:=a.eval y) (by rw[L8,←Apj,←N1,Ls];simp) hcell (fun i hi=>by
    obtain⟨u,hu⟩:=Option.isSome_iff_exists.1 (hcell i hi);exact LE rfl _ (by omega) (V7 hu)) h1
   refine⟨_,hk,fun next Q hn=>run Cx Cc next Q (hn _ _ β ?_)⟩
   refine hf.write h0' trivial trivial hβ (Bf.setCells b _ _ w) ?_ (fun cells hx=>by cases hx) (fun _ hx=>by cases hx) (fun j hj=>hj) (fun j hj=>by
    refine World.cell?_setCells_out b _ _ w ⟨b,j,none⟩ (fun _ _=>?_)
    have hj:¬(ob<=j):=hj;show j<ob+off∨ob+off+_<=j;omega)
   have Lx:Bw (Cs (Ad s.hp m) β Y) w (w.setCells b (ob+off) (a.eval y).cells.toList):=by
    have hw:=Bf.setCells b (a.eval y).cells.toList (ob+off) w;have hAb:Cs (Ad s.hp m) β Y b:=.inl ⟨id,ob,by rw[h0'];trivial,hβ⟩
    exact⟨by rw[hw.size];exact Nat.le_refl _,fun k _ hk=>hw.other k (fun e=>hk (e ▸ hAb)),fun k _=>hw.grow k⟩
   refine .inr ⟨b,ob,hβ,fun j p hj=>?_,fun _ j hj Nk=>?_,(fun x=>by cases x)⟩
   ·rw[B8];rcases Qo (by omega) hj with⟨h3,h4,h5⟩|⟨h3,h5⟩
    ·obtain⟨u,hu,hcu⟩:=h2.get h5;have Bp:j-off<(a.eval y).cells.toList.length:=by omega
     refine⟨u,?_,h1 u (List.mem_of_getElem? hu),hcu.step Lx (fun _ _ x=>x)⟩
     have:=World.cell?_setCells_in b (a.eval y).cells.toList (ob+off) w hcell (j-off) Bp;rw[show ob+j=ob+off+(j-off) from by omega,this]
     rw[List.getElem?_eq_getElem Bp] at hu;exact hu
    ·obtain⟨v,hv,h6,Zo⟩:=Kw j p h5;rw[B8] at hv;refine⟨v,?_,h6,Zo.step Lx (fun _ _ x=>x)⟩
     rw[World.cell?_setCells_out b _ _ w ⟨b,ob+j,none⟩ (fun _ _=>by show ob+j<ob+off∨ob+off+_<=ob+j;omega)]
     exact hv
   ·rw[(Bf.setCells b _ _ w).bs] at Nk;rw[(Bf.setCells b _ _ w).frz];exact LE rfl j hj Nk
  ·cases hk
 ·cases hk
end
open Go.RowKit
theorem H4:∀{l l':List Nat},Du (l++l')=true->Du l=true∧Du l'=true∧∀i∈l,i ∉ l'
 |[],l',h=>⟨rfl,h,by simp⟩
 |a::l,l',h=>by
  simp only[List.cons_append,Du,Bool.and_eq_true,Bool.not_eq_true'] at h;obtain⟨h1,h2⟩:=h;obtain⟨h3,h4,h5⟩:=H4 h2
  have hn:∀i∈l++l',a≠i:=by
   rintro i hi rfl
   have:(l++l').any (Nat.beq a)=true:=List.any_eq_true.2 ⟨a,hi,Nat.beq_refl a⟩;rw[this] at h1;cases h1
  refine⟨?_,h4,fun i hi=>?_⟩
  ·simp only[Du,Bool.and_eq_true,Bool.not_eq_true',h3,and_true];rw[List.any_eq_false];intro i hi e;exact hn i (by simp[hi]) (Nat.eq_of_beq_eq_true e)
  ·rcases List.mem_cons.1 hi with rfl|hi
   ·exact fun hm=>hn i (by simp[hm]) rfl
   ·exact h5 i hi
def F5 (β:Bt)(q:Nat × Nat):Option (Nat × Nat):=(β q.1).map fun p=>(p.1,p.2+q.2)
theorem TQ (β:Bt)(id:Nat):F5 β (id,0)=β id:=by
 unfold F5;cases β id<;>rfl
section
variable {R:Type} {r:R} {P:Program} {N:Nat} {w0:World} {X0:Hm} {Y:Nat->Prop} {β β':Bt} {s:St} {a:Act} {w w':World} {o:Oper} {A:Nat->Prop}
theorem Ng {fz:List Nat}{b:Nat}(h:Cs (Ad s.hp fz) β Y b):Cs s.hp β Y b:=h.imp Pj id
theorem Aeb (h:Cj N w0 X0 Y β s a w){mv:Bool}{t:CT}{p:PV}{K:PV->List Nat->List Nat->Option R}(hk:ZQ mv s.hp t p K=some r):
  ∃c m q,K c m (Option.toList q)=some r∧isA c∧GK p∧(∀id∈m,∃f cc,s.hp id=some (.ar f cc))∧(∀id,q=some id->∃cc,s.hp id=some (.ar false cc)) ∧
   ∀fz:List Nat,(∀id∈m,id∈fz)->(∀id∈fz,∃f cc,s.hp id=some (.ar f cc))->∀v,Bs w (Cs s.hp β Y) β p v->Fz w (Cs (Ad s.hp fz) β Y) (q.bind β) c v:=by
 have frz:∀{t:CT} {p:PV} {K:PV->List Nat->List Nat->Option R},(Ns (I9 s.hp) t p fun c m=>K c m [])=some r->∃c m q,K c m (Option.toList q)=some r∧isA c∧GK p∧(∀id∈m,∃f cc,s.hp id=some (.ar f cc))∧(∀id,q=some id->∃cc,s.hp id=some (.ar false cc)) ∧
   ∀fz:List Nat,(∀id∈m,id∈fz)->(∀id∈fz,∃f cc,s.hp id=some (.ar f cc))->∀v,Bs w (Cs s.hp β Y) β p v->Fz w (Cs (Ad s.hp fz) β Y) (q.bind β) c v:=by
  intro t p K hk;obtain⟨c,m,hk,hT,hF,hm,hv⟩:=EL h hk;exact⟨c,m,none,hk,.inl hT,hF,hm,by simp,fun fz h1 h2 v hc=>Kj hT (hv fz h1 h2 v hc).1⟩
 have tree:∀{t:CT} {p:PV} {K:PV->List Nat->List Nat->Option R},(∀es,t ≠ .sl es)->(Zb t p fun c=>K c [] [])=some r->∃c m q,K c m (Option.toList q)=some r∧isA c∧GK p∧(∀id∈m,∃f cc,s.hp id=some (.ar f cc))∧(∀id,q=some id->∃cc,s.hp id=some (.ar false cc)) ∧
   ∀fz:List Nat,(∀id∈m,id∈fz)->(∀id∈fz,∃f cc,s.hp id=some (.ar f cc))->∀v,Bs w (Cs s.hp β Y) β p v->Fz w (Cs (Ad s.hp fz) β Y) (q.bind β) c v:=by
  intro t p K Hu hk;obtain⟨c,hk,hT,DI,hv⟩:=Md hk;exact⟨c,[],none,hk,.inl hT,Rp DI,by simp,by simp,fun fz h1 h2 v hc=>Kj hT ((hv w _ β v hc).1.step (Bw.refl _ _) (fun b _ hb=>Ng hb))⟩
 unfold ZQ at hk;cases t with
 |sl es=>
  dsimp only at hk;cases mv<;>simp only[cond_true,cond_false] at hk
  ·exact frz hk
  ·split at hk
   ·rename_i id es' off n;split at hk
    ·rename_i c h0;cases hb:(Nat.beq es' es&&Nat.beq off 0)<;>rw[hb] at hk<;>simp only[cond_true,cond_false] at hk
     ·exact frz hk
     ·simp only[Bool.and_eq_true] at hb;have he:=Nat.eq_of_beq_eq_true hb.1;have hof:=Nat.eq_of_beq_eq_true hb.2;subst he hof;obtain⟨hl,hk⟩:=Aj hk;refine⟨_,[],some id,hk,.inr ⟨_,_,_,rfl⟩,trivial,by simp,fun i hi=>by cases hi;exact⟨c,h0⟩,fun fz h1 h2 v hc=>?_⟩
      rcases hc with⟨h3,_,rfl,h4⟩|⟨b,ob,x,cap,h3,h4,hx,h5,h6,h7⟩
      ·exact .inl ⟨h3,rfl,by simp,h4⟩
      ·have hx:x=ob:=by rcases hx with e|⟨_,e⟩<;>omega
       subst hx;rcases h.box id _ h0 with⟨h8,_⟩|⟨b',o',h8,h9,h10,_⟩
       ·rw[h3] at h8;cases h8
       ·rw[h3] at h8;cases h8;refine .inr ⟨b,x,cap,h3,h4,h5,h6,h7,fun j p hj=>?_,h10 rfl⟩
        rw[List.getElem?_take] at hj;split at hj
        ·obtain⟨u,hu,h11,ht⟩:=h9 j p hj;exact⟨u,hu,h11,ht.step (Bw.refl _ _) (fun b _ hb=>Ng hb)⟩
        ·cases hj
    ·exact frz hk
   ·obtain⟨z,n,c,hk,hp⟩:=E6 hk;have hpF:GK p:=by rcases hp with e|⟨e,_⟩<;>(rw[e];trivial)
    cases z<;>simp only[cond_true,cond_false] at hk
    ·refine⟨_,[],none,hk,.inl trivial,hpF,by simp,by simp,fun fz h1 h2 v hc=>?_⟩
     exact Kj trivial ((Vu hp hc).step (Bw.refl _ _) (fun b _ hb=>Ng hb))
    ·refine⟨_,[],none,hk,.inr ⟨_,_,_,rfl⟩,hpF,by simp,by simp,fun fz h1 h2 v hc=>.inl ⟨rfl,rfl,rfl,none,?_⟩⟩
     have:=Vu hp hc;cases this;rfl
 |int k=>exact tree (by simp) hk
 |bool=>exact tree (by simp) hk
 |str=>exact tree (by simp) hk
 |any=>exact tree (by simp) hk
theorem Tm (h:Cj N w0 X0 Y β s a w){mv:Bool}:∀{ts:List CT}{ps:List PV}{K:List PV->List Nat->List Nat->Option R},Z6 mv s.hp ts ps K=some r ->
  ∃cs m x,∃q:Nat->Option Nat,K cs m x=some r∧cs.length=ts.length∧ps.length=ts.length∧(∀c∈cs,isA c)∧(∀p∈ps,GK p)∧(∀id∈m,∃f cc,s.hp id=some (.ar f cc))∧(∀id∈x,∃cc,s.hp id=some (.ar false cc)) ∧
   (∀j id,q j=some id->id∈x)∧(Du x=true->∀j j' id,q j=some id->q j'=some id->j=j') ∧
   ∀fz:List Nat,(∀id∈m,id∈fz)->(∀id∈fz,∃f cc,s.hp id=some (.ar f cc))->∀vs,Ba (Bs w (Cs s.hp β Y) β) ps vs->∀(own:Bt) j0,(∀j,own (j0+j)=(q j).bind β)->Et w (Cs (Ad s.hp fz) β Y) own j0 cs vs
 |[],[],K,hk=>⟨[],[],[],fun _=>none,hk,rfl,rfl,by simp,by simp,by simp,by simp,by simp,by simp,fun fz _ _ vs hv own j0 _=>by
   cases vs with
   |nil=>trivial
   |cons v vs=>exact hv.elim⟩
 |[],_::_,K,hk=>by cases hk
 |_::_,[],K,hk=>by cases hk
 |t::ts,p::ps,K,hk=>by
  unfold Z6 at hk;obtain⟨c,m,q,hk,hA,hF,hm,hq,hv⟩:=Aeb h hk;obtain⟨cs,ms,xs,qs,hk,hl,Jt,hAs,hFs,FF,BD,hqx,hqi,Fq⟩:=Tm h hk;refine⟨c::cs,m++ms,q.toList++xs,fun j=>match j with|0=>q|j+1=>qs j,hk,by simp[hl],by simp[Jt],?_,?_,?_,?_,?_,?_,?_⟩
  ·intro x hx;rcases List.mem_cons.1 hx with rfl|hx
   ·exact hA
   ·exact hAs x hx
  ·intro x hx;rcases List.mem_cons.1 hx with rfl|hx
   ·exact hF
   ·exact hFs x hx
  ·intro i hi;rcases List.mem_append.1 hi with hi|hi
   ·exact hm i hi
   ·exact FF i hi
  ·intro i hi;rcases List.mem_append.1 hi with hi|hi
   ·exact hq i (by simpa using hi)
   ·exact BD i hi
  ·intro j id hj;cases j with
   |zero=>exact List.mem_append.2 (.inl (by simpa using hj))
   |succ j=>exact List.mem_append.2 (.inr (hqx j id hj))
  ·intro hn j j' id hj Nk;obtain⟨_,h2,h3⟩:=H4 hn;cases j with
   |zero=>
    cases j' with
    |zero=>rfl
    |succ j'=>exact absurd (hqx j' id Nk) (h3 id (by simpa using hj))
   |succ j=>
    cases j' with
    |zero=>exact absurd (hqx j id hj) (h3 id (by simpa using Nk))
    |succ j'=>rw[hqi h2 j j' id hj Nk]
  ·intro fz h1 h2 vs h3 own j0 Hl;cases vs with
   |nil=>exact h3.elim
   |cons v vs=>
    refine⟨?_,Fq fz (fun i hi=>h1 i (by simp[hi])) h2 vs h3.2 own (j0+1) fun j=>?_⟩
    ·have:=Hl 0;rw[Nat.add_zero] at this;rw[this];exact hv fz (fun i hi=>h1 i (by simp[hi])) h2 v h3.1
    ·have:=Hl (j+1);rw[show j0+1+j=j0+(j+1) by omega]
     exact this
def LOk (hp:Nat->Option Bk)(q:Option (Nat × Nat)) (p:PV)(x:Gc):Prop:=
 match x with
 |.var id off cts ws=>p=.pbox ws∧q=some (id,off)∧cts.length=ws.length∧∃c,hp id=some (.st c)∧off+ws.length<=c.length
 |.row id=>(∃ps,p=.tup ps)∧q=some (id,0)∧∃c,hp id=some (.ar false c)
 |.none=>(∃ps,p=.tup ps)∧q=none
theorem VX {hp:Nat->Option Bk}{q:Option (Nat × Nat)} {p:PV}{x:Gc}(h:LOk hp q p x):Xu p=true:=by
 cases x with
 |var id off cts ws=>rw[h.1];rfl
 |row id=>obtain⟨⟨_,e⟩,_⟩:=h;rw[e];rfl
 |none=>obtain⟨⟨_,e⟩,_⟩:=h;rw[e];rfl
def Ot (hp:Nat->Option Bk)(src:Nat->Nat->Option (Nat × Nat)):Nat->List PV->List Gc->Prop
 |_,[],l=>l=[]
 |i,p::ps,l=>(Xu p=false∧src i 0=none∧Ot hp src (i+1) ps l)∨∃x l',l=x::l'∧LOk hp (src i 0) p x∧Ot hp src (i+1) ps l'
theorem UC (h:Cj N w0 X0 Y β s a w){C:Gt}{f:FuncId}{i:Nat}{t:TypeId}{x:Operand}{K:PV->List Nat->List Nat->List Gc->Option R}(hk:Ye C P f s.hp i t (Bu s.tm x) K=some r):
  ∃v m y l,∃src:Nat->Option (Nat × Nat),K v m y l=some r∧(∀id∈m,∃f cc,s.hp id=some (.ar f cc))∧(∀id∈y,∃cc,s.hp id=some (.ar false cc)) ∧
   (∀j id off,src (j+1)=some (id,off)->off=0∧id∈y)∧(Du y=true->∀j j' id off off',src (j+1)=some (id,off)->src (j'+1)=some (id,off')->j=j') ∧
   ((l=[]∧Xu v=false∧src 0=none)∨∃x',l=[x']∧LOk s.hp (src 0) v x') ∧
   ∀fz:List Nat,(∀id∈m,id∈fz)->(∀id∈fz,∃f cc,s.hp id=some (.ar f cc))->∀bt:Bt,(∀j,bt j=(src j).bind (F5 β))->FR w (Cs (Ad s.hp fz) β Y) bt v (a.eval x):=by
 have hx:=Co h x
 have M8:∀(q0:Option (Nat × Nat)) (q:Nat->Option Nat),∃src:Nat->Option (Nat × Nat),src 0=q0∧(∀j,src (j+1)=(q j).map fun id=>(id,0)):=
  fun q0 q=>⟨fun j=>match j with|0=>q0|j+1=>(q j).map fun id=>(id,0),rfl,fun _=>rfl⟩
 have OQ:∀{src:Nat->Option (Nat × Nat)} {q:Nat->Option Nat} {y:List Nat},(∀j,src (j+1)=(q j).map fun id=>(id,0))->(∀j id,q j=some id->id∈y)->∀j id off,src (j+1)=some (id,off)->off=0∧id∈y:=by
  intro src q y h1 h2 j id off hj;rw[h1] at hj;cases hq:q j with
  |none=>rw[hq] at hj;cases hj
  |some k=>rw[hq] at hj;cases hj;exact⟨rfl,h2 j _ hq⟩
 have QM:∀{src:Nat->Option (Nat × Nat)} {q:Nat->Option Nat} {y:List Nat},(∀j,src (j+1)=(q j).map fun id=>(id,0))->(Du y=true->∀j j' id,q j=some id->q j'=some id->j=j') ->
   Du y=true->∀j j' id off off',src (j+1)=some (id,off)->src (j'+1)=some (id,off')->j=j':=by
  intro src q y h1 h2 hn j j' id off off' hj Nk;rw[h1] at hj Nk;cases hq:q j with
  |none=>rw[hq] at hj;cases hj
  |some k=>
   cases Fg:q j' with
   |none=>rw[Fg] at Nk;cases Nk
   |some k'=>
    rw[hq] at hj;rw[Fg] at Nk;cases hj;cases Nk;exact h2 hn j j' _ hq Fg
 have Hl:∀{src:Nat->Option (Nat × Nat)} {q:Nat->Option Nat} {bt:Bt},(∀j,src (j+1)=(q j).map fun id=>(id,0))->(∀j,bt j=(src j).bind (F5 β))->∀j,bt (1+j)=(q j).bind β:=by
  intro src q bt h1 h2 j;rw[Nat.add_comm,h2,h1];cases q j with
  |none=>rfl
  |some id=>exact TQ β id
 unfold Ye at hk;split at hk
 ·rename_i e he;split at hk
  ·rename_i id off ep;rw[ep] at hx;split at hk
   ·rename_i c h0;obtain⟨hb,hk⟩:=Aj hk;simp only[Bool.and_eq_true,decide_eq_true_eq] at hb;obtain⟨cs,m,y,q,hk,hl,Jt,hA,hF,hm,hy,FQ,AO,hv⟩:=Tm h hk;obtain⟨src,RZ,hs⟩:=M8 (some (id,off)) q;obtain⟨b,ob,hβ,Cx⟩:=hx;refine⟨_,m,y,_,src,hk,hm,hy,OQ hs FQ,QM hs AO,.inr ⟨_,rfl,rfl,RZ,hl.symm,c,h0,by omega⟩,fun fz h1 h2 bt Vd=>?_⟩
    obtain⟨b',o',Fh,Kw,LE⟩:=h.box id _ h0;rw[hβ] at Fh;cases Fh;have Em:((c.drop off).take (Hq P e).length).length=(Hq P e).length:=by simp;omega
    have Agz:∀j p,((c.drop off).take (Hq P e).length)[j]?=some p->c[off+j]?=some p∧j<(Hq P e).length:=by
     intro j p hj;rw[List.getElem?_take] at hj;split at hj
     ·rw[List.getElem?_drop] at hj;exact⟨hj,by assumption⟩
     ·cases hj
    refine⟨b,ob+off,by rw[Vd,RZ];simp[F5,hβ],Cx,hA,((c.drop off).take (Hq P e).length).mapIdx (fun j _=>(w.cell? ⟨b,ob+off+j,none⟩).getD undef),hv fz h1 h2 _ ?_ bt 1 (Hl hs Vd),?_,fun k hk=>?_⟩
    ·refine Ba.of_at (by simp) fun j p v hp hv=>?_
     obtain⟨hc,_⟩:=Agz j p hp;obtain⟨u,hu,ME⟩:=Kw _ _ hc;rw[List.getElem?_mapIdx,hp,Option.map_some,Nat.add_assoc,hu] at hv;simp at hv;subst hv;exact ME
    ·intro k v hkv;rw[List.getElem?_mapIdx] at hkv;cases hp:((c.drop off).take (Hq P e).length)[k]? with
     |none=>rw[hp] at hkv;cases hkv
     |some p=>
      obtain⟨hc,_⟩:=Agz k p hp;obtain⟨u,hu,ME⟩:=Kw _ _ hc;rw[hp,Option.map_some,Nat.add_assoc,hu] at hkv;simp at hkv;subst hkv;rw[Nat.add_assoc];exact hu
    ·rw[Nat.add_assoc];exact LE _ (by omega)
   ·cases hk
  ·cases hk
 ·cases hln:C.lnd f i<;>rw[hln] at hk<;>simp only[cond_true,cond_false] at hk
  ·cases Fs:Bv P t<;>rw[Fs] at hk<;>simp only[cond_true,cond_false] at hk
   ·obtain⟨cs,m,y,q,hk,hl,Jt,hA,hF,hm,hy,FQ,AO,hv⟩:=Tm h hk;obtain⟨c,t',rfl,hk⟩:=A3 hk;obtain⟨rfl,hk⟩:=C5 hk;obtain⟨src,RZ,hs⟩:=M8 none q;have hAc:=hA c (by simp)
    refine⟨c,m,y,_,src,hk,hm,hy,OQ hs FQ,QM hs AO,.inl ⟨rfl,Akf hAc,RZ⟩,fun fz h1 h2 bt Vd=>?_⟩
    have hFx:=hF _ (List.mem_singleton_self _)
    have hxc:Bs w (Cs s.hp β Y) β (Bu s.tm x) (a.eval x):=by
     cases hp:Bu s.tm x<;>rw[hp] at hx hFx<;>first|exact hx|exact hFx.elim
    have hoc:=(hv fz h1 h2 [a.eval x] ⟨hxc,trivial⟩ bt 1 (Hl hs Vd)).1;rcases hAc with hT|⟨es,n,cc,rfl⟩
    ·cases c<;>first|exact⟨.inl trivial,hoc⟩|exact hT.elim
    ·exact⟨.inr ⟨_,_,_,rfl⟩,hoc⟩
   ·obtain⟨ps,ep,hk⟩:=Gw hk;rw[ep] at hx;obtain⟨vs,Cx,h3⟩:=hx;obtain⟨cs,m,y,q,hk,hl,Jt,hA,hF,hm,hy,FQ,AO,hv⟩:=Tm h hk;obtain⟨src,RZ,hs⟩:=M8 none q;refine⟨_,m,y,_,src,hk,hm,hy,OQ hs FQ,QM hs AO,.inl ⟨rfl,rfl,RZ⟩,fun fz h1 h2 bt Vd=>?_⟩
    exact⟨vs,Cx,hA,hv fz h1 h2 vs h3 bt 1 (Hl hs Vd)⟩
  ·obtain⟨e,he,hk⟩:=B3 hk;unfold Afb at hk;split at hk
   ·rename_i id es' off n ep;rw[ep] at hx;split at hk
    ·rename_i c h0;obtain⟨hb,Ex⟩:=Aj hk;simp only[Bool.and_eq_true] at hb;have he:=Nat.eq_of_beq_eq_true hb.1;have hof:=Nat.eq_of_beq_eq_true hb.2;subst hof;obtain⟨src,RZ,hs⟩:=M8 (some (id,0)) (fun _=>none)
     refine⟨_,[],[],_,src,Ex,by simp,by simp,OQ hs (by simp),QM hs (by simp),.inr ⟨_,rfl,⟨_,rfl⟩,RZ,c,h0⟩,fun fz h1 h2 bt Vd=>⟨_,_,_,rfl,?_⟩⟩
     have PI:bt 0=β id:=by rw[Vd,RZ];exact TQ β id
     rw[PI];rcases hx with⟨h3,_,h4,h5⟩|⟨b,ob,y,cap,h3,h4,hy,h5,h6,h7⟩
     ·refine .inl ⟨h3,h4,?_,h5⟩;rcases h.box id _ h0 with⟨_,h8⟩|⟨_,_,h8,_⟩
      ·exact h8
      ·rw[h3] at h8;cases h8
     ·have hy:y=ob:=by rcases hy with e|⟨_,e⟩<;>omega
      subst hy;rcases h.box id _ h0 with⟨h8,_⟩|⟨b',o',h8,h9,h10,_⟩
      ·rw[h3] at h8;cases h8
      ·rw[h3] at h8;cases h8;exact .inr ⟨b,y,cap,h3,h4,h5,by rw[←he];exact h6,h7,h9.weak (fun b _ hb=>Ng hb),h10 rfl⟩
    ·cases hk
   ·obtain⟨z,n,c,hk,hp⟩:=E6 hk;obtain⟨hz,hk⟩:=Aj hk;subst hz;obtain⟨src,RZ,hs⟩:=M8 none (fun _=>none)
    have hu:a.eval x=.slice none 0 0:=by
     have hF:Bs w (Cs s.hp β Y) β (Bu s.tm x) (a.eval x):=by rcases hp with e|⟨e,_⟩<;>rw[e] at hx ⊢ <;> exact hx
     have:=Vu hp hF;generalize a.eval x=u at this;cases this;rfl
    refine⟨_,[],[],_,src,hk,by simp,by simp,OQ hs (by simp),QM hs (by simp),.inr ⟨_,rfl,⟨_,rfl⟩,RZ⟩,fun fz h1 h2 bt Vd=>⟨_,_,_,rfl,.inl ⟨by rw[Vd,RZ];rfl,rfl,rfl,none,hu⟩⟩⟩
structure Brc (i0 n:Nat) (src:Nat->Nat->Option (Nat × Nat)) (ids x:List Nat):Prop where
 dom:∀i j q,src i j=some q->i0<=i∧i<i0+n
 lent:∀i id off,src i 0=some (id,off)->id∈ids
 mvd:∀i j id off,src i (j+1)=some (id,off)->off=0∧id∈x
 inj0:Du ids=true->∀i i' id off off',src i 0=some (id,off)->src i' 0=some (id,off')->i=i'
 inj1:Du x=true->∀i i' j j' id off off',src i (j+1)=some (id,off)->src i' (j'+1)=some (id,off')->i=i'∧j=j'
theorem Vs {hp:Nat->Option Bk}{src src':Nat->Nat->Option (Nat × Nat)}:∀{ps:List PV}{i:Nat}{l:List Gc},(∀k,i<=k->src' k=src k)->Ot hp src i ps l->Ot hp src' i ps l
 |[],_,_,_,h=>h
 |p::ps,i,l,hs,h=>by
  rcases h with⟨h1,h2,h3⟩|⟨x,l',rfl,h2,h3⟩
  ·exact .inl ⟨h1,by rw[hs i (Nat.le_refl _)];exact h2,Vs (fun k hk=>hs k (by omega)) h3⟩
  ·exact .inr ⟨x,l',rfl,by rw[hs i (Nat.le_refl _)];exact h2,Vs (fun k hk=>hs k (by omega)) h3⟩
theorem Z2 {bt bt':V6}:∀{ps:List PV}{us:List Value}{i:Nat},(∀k,i<=k->∀j,bt' k j=bt k j)->K1 w A bt i ps us->K1 w A bt' i ps us
 |[],[],_,_,_=>trivial
 |[],_::_,_,_,h=>h.elim
 |_::_,[],_,_,h=>h.elim
 |_::_,_::_,i,hb,h=>⟨by rw[show bt' i=bt i from funext (hb i (Nat.le_refl _))];exact h.1,Z2 (fun k hk=>hb k (by omega)) h.2⟩
theorem HB (h:Cj N w0 X0 Y β s a w){C:Gt}{f:FuncId}:∀{ts:List TypeId}{xs:List Operand}{i:Nat}{K:List PV->List Nat->List Nat->List Gc->Option R},HV C P f s.hp i ts (xs.map (Bu s.tm)) K=some r ->
  ∃vs m y l,∃src:Nat->Nat->Option (Nat × Nat),K vs m y l=some r∧(∀id∈m,∃f cc,s.hp id=some (.ar f cc))∧(∀id∈y,∃cc,s.hp id=some (.ar false cc)) ∧
   Brc i xs.length src (l.flatMap Gc.ids) y∧Ot s.hp src i vs l ∧
   ∀fz:List Nat,(∀id∈m,id∈fz)->(∀id∈fz,∃f cc,s.hp id=some (.ar f cc))->∀bt:V6,(∀i j,bt i j=(src i j).bind (F5 β))->K1 w (Cs (Ad s.hp fz) β Y) bt i vs (xs.map a.eval)
 |[],[],i,K,hk=>⟨[],[],[],[],fun _ _=>none,hk,by simp,by simp,⟨by simp,by simp,by simp,by simp,by simp⟩,rfl,fun _ _ _ _ _=>trivial⟩
 |[],_::_,i,K,hk=>by cases hk
 |_::_,[],i,K,hk=>by cases hk
 |t::ts,x::xs,i,K,hk=>by
  simp only[List.map_cons] at hk;unfold HV at hk;obtain⟨v,m,y,l,src,hk,hm,hy,hs1,hs2,hl,hv⟩:=UC h hk;obtain⟨vs,ms,ys,ls,srcs,hk,FF,hys,hS,hL,Fq⟩:=HB h hk;have M8:∃sr:Nat->Nat->Option (Nat × Nat),sr i=src∧∀k,k≠i->sr k=srcs k:=⟨fun k=>if k=i then src else srcs k,by simp,fun k hk=>by simp[hk]⟩
  obtain⟨sr,hsi,WP⟩:=M8
  have GX:∀id off,src 0=some (id,off)->id∈l.flatMap Gc.ids:=by
   intro id off e;rcases hl with⟨_,_,h3⟩|⟨x',rfl,h3⟩
   ·rw[h3] at e;cases e
   ·cases x' with
    |var id' off' cts ws=>rw[h3.2.1] at e;cases e;simp[Gc.ids]
    |row id'=>rw[h3.2.1] at e;cases e;simp[Gc.ids]
    |none=>rw[h3.2] at e;cases e
  refine⟨v::vs,m++ms,y++ys,l++ls,sr,hk,?_,?_,⟨?_,?_,?_,?_,?_⟩,?_,fun fz h1 h2 bt Vd=>⟨?_,?_⟩⟩
  ·intro i hi;rcases List.mem_append.1 hi with hi|hi
   ·exact hm i hi
   ·exact FF i hi
  ·intro i hi;rcases List.mem_append.1 hi with hi|hi
   ·exact hy i hi
   ·exact hys i hi
  ·intro k j q hq;simp only[List.length_cons];by_cases e:k=i
   ·subst e;omega
   ·rw[WP k e] at hq;have:=hS.dom k j q hq;omega
  ·intro k id off hq;rw[List.flatMap_append];by_cases e:k=i
   ·subst e;rw[hsi] at hq;exact List.mem_append.2 (.inl (GX id off hq))
   ·rw[WP k e] at hq;exact List.mem_append.2 (.inr (hS.lent k id off hq))
  ·intro k j id off hq;by_cases e:k=i
   ·subst e;rw[hsi] at hq;exact⟨(hs1 j id off hq).1,List.mem_append.2 (.inl (hs1 j id off hq).2)⟩
   ·rw[WP k e] at hq;exact⟨(hS.mvd k j id off hq).1,List.mem_append.2 (.inr (hS.mvd k j id off hq).2)⟩
  ·intro hn k k' id off off' hq Fg;rw[List.flatMap_append] at hn;obtain⟨_,h4,h5⟩:=H4 hn;by_cases e:k=i
   ·by_cases e':k'=i
    ·omega
    ·rw[WP k' e'] at Fg;subst e;rw[hsi] at hq;exact absurd (hS.lent k' id off' Fg) (h5 id (GX id off hq))
   ·rw[WP k e] at hq;by_cases e':k'=i
    ·subst e';rw[hsi] at Fg;exact absurd (hS.lent k id off hq) (h5 id (GX id off' Fg))
    ·rw[WP k' e'] at Fg;exact hS.inj0 h4 k k' id off off' hq Fg
  ·intro hn k k' j j' id off off' hq Fg;obtain⟨h3,h4,h5⟩:=H4 hn;by_cases e:k=i
   ·by_cases e':k'=i
    ·subst e;subst e';rw[hsi] at hq Fg;exact⟨rfl,hs2 h3 j j' id off off' hq Fg⟩
    ·rw[WP k' e'] at Fg;subst e;rw[hsi] at hq;exact absurd (hS.mvd k' j' id off' Fg).2 (h5 id (hs1 j id off hq).2)
   ·rw[WP k e] at hq;by_cases e':k'=i
    ·subst e';rw[hsi] at Fg;exact absurd (hS.mvd k j id off hq).2 (h5 id (hs1 j' id off' Fg).2)
    ·rw[WP k' e'] at Fg;exact hS.inj1 h4 k k' j j' id off off' hq Fg
  ·have Uq:Ot s.hp sr (i+1) vs ls:=Vs (fun k hk=>WP k (by omega)) hL
   rcases hl with⟨rfl,hnp,h3⟩|⟨x',rfl,h3⟩
   ·exact .inl ⟨hnp,by rw[hsi];exact h3,Uq⟩
   ·exact .inr ⟨x',ls,rfl,by rw[hsi];exact h3,Uq⟩
  ·exact hv fz (fun i hi=>h1 i (by simp[hi])) h2 (bt i) (fun j=>by rw[Vd,hsi])
  ·refine Fq fz (fun i hi=>h1 i (by simp[hi])) h2 (fun k j=>(srcs k j).bind (F5 β)) (fun _ _=>rfl) |> Z2 fun k hk j=>?_
   rw[Vd,WP k (by omega)]
end
open Go.RowKit
section
variable {R:Type} {r:R} {P:Program} {N:Nat} {w0:World} {X0:Hm} {Y:Nat->Prop} {β β':Bt} {s:St} {a:Act} {w w':World} {o:Oper} {A:Nat->Prop}
theorem Afh {p:PV}{u:Value}(h:As w A p u):Bs w A β p u:=by
 have h0:=h;cases h<;>exact h0
theorem Ae1 {t:Nat}{ct:CT}{was p:PV}{K:Nat->PV->List (Nat × Bk)->Option R} (hk:Aah N t ct was p K=some r):
  (∃c,K t c []=some r∧M0 c∧∀w A q u,Fz w A q p u->As w A c u)∨∃es n cc,p=.own es n cc∧K (t+1) (.view (RR N t) es 0 n) [(RR N t,.ar false cc)]=some r:=by
 have tree:∀t',(Zb t' p fun c=>K t c [])=some r->∃c,K t c []=some r∧M0 c∧∀w A q u,Fz w A q p u->As w A c u:=by
  intro t' hk;obtain⟨c,hk,hT,DI,hv⟩:=Md hk;refine⟨c,hk,hT,fun w A q u h=>(hv w A (fun _=>none) u ?_).1⟩
  cases p<;>first|exact h|exact DI.elim
 unfold Aah at hk;cases ct with
 |sl es=>
  dsimp only at hk;split at hk
  ·unfold Kc at hk;split at hk
   ·rename_i es' n c;cases hb:Nat.beq es' es<;>rw[hb] at hk
    ·cases hk
    ·have:=Nat.eq_of_beq_eq_true hb;subst this;exact .inr ⟨_,_,_,rfl,hk⟩
   ·cases hk
  ·have h2:(Zb (.sl es) p fun c=>(match c with | .lst _ es n c=>K t (.lst false es n c) []|_=>none))=some r:=hk
   obtain⟨c,hk,hT,DI,hv⟩:=Md h2;split at hk
   ·refine .inl ⟨_,hk,hT,fun w A q u h=>As.unz (hv w A (fun _=>none) u ?_).1⟩
    cases p<;>first|exact h|exact DI.elim
   ·cases hk
 |int k=>exact .inl (tree _ hk)
 |bool=>exact .inl (tree _ hk)
 |str=>exact .inl (tree _ hk)
 |any=>exact .inl (tree _ hk)
theorem Yv:∀{cts:List CT}{ws ps:List PV}{t:Nat}{K:Nat->List PV->List (Nat × Bk)->Option R},HC N t cts ws ps K=some r ->
  ∃t' cs bs,∃qs:List (Nat × Nat),K t' cs bs=some r∧cs.length=ps.length∧ps.length=ws.length∧bs.map (·.1)=qs.map (·.1)∧(∀q∈qs,(∃k,q.1=RR N k)∧q.2<ps.length)∧(∀q∈qs,∀q'∈qs,q.2=q'.2->q.1=q'.1) ∧
   (∀i bx,(i,bx)∈bs->∃c,bx=.ar false c)∧(∀c∈cs,∀i∈Ao c,∃bx,(i,bx)∈bs) ∧
   ∀(w:World) (A:Nat->Prop) (own β':Bt) (j0:Nat) (us:List Value),(∀q∈qs,β' q.1=own (j0+q.2))->Et w A own j0 ps us->Ba (Bs w A β') cs us∧∀i bx,(i,bx)∈bs->Qv w A β' i bx
 |[],[],ps,t,K,hk=>by
  obtain⟨rfl,hk⟩:=C5 hk;refine⟨t,[],[],[],hk,rfl,rfl,rfl,by simp,by simp,by simp,by simp,fun w A own β' j0 us _ h=>⟨?_,by simp⟩⟩
  cases us with
  |nil=>trivial
  |cons u us=>exact h.elim
 |[],_::_,_,_,_,hk=>by cases hk
 |_::_,[],_,_,_,hk=>by cases hk
 |ct::cts,x::ws,ps,t,K,hk=>by
  unfold HC at hk;obtain⟨p,ps',FK,Dw⟩:=A3 hk;subst FK;rcases Ae1 Dw with⟨c,Ex,hT,hv⟩|⟨es,n,cc,rfl,Ex⟩
  ·obtain⟨t',cs,bs,qs,Qh,hl,Jt,hb,FQ,AO,Fh,Kw,Fq⟩:=Yv Ex;refine⟨t',c::cs,bs,qs.map (fun q=>(q.1,q.2+1)),Qh,by simp[hl],by simp[Jt],by rw[hb];simp,?_,?_,Fh,?_,fun w A own β' j0 us hβ ho=>?_⟩
   ·intro q hq;obtain⟨q0,Vx,rfl⟩:=List.mem_map.1 hq;exact⟨(FQ q0 Vx).1,by have:=(FQ q0 Vx).2;simp only[List.length_cons];omega⟩
   ·intro q hq q' Fg e;obtain⟨q0,Vx,rfl⟩:=List.mem_map.1 hq;obtain⟨q1,Jm,rfl⟩:=List.mem_map.1 Fg;exact AO q0 Vx q1 Jm (by simp only at e;omega)
   ·intro y hy i hi;rcases List.mem_cons.1 hy with rfl|hy
    ·rw[Ha hT] at hi;cases hi
    ·exact Kw y hy i hi
   ·cases us with
    |nil=>exact ho.elim
    |cons u us=>
     obtain⟨h1,h2⟩:=Fq w A own β' (j0+1) us (fun q hq=>by rw[hβ _ (List.mem_map_of_mem hq)];congr 1;simp only;omega) ho.2
     exact⟨⟨Afh (hv w A _ u ho.1),h1⟩,h2⟩
  ·obtain⟨t',cs,bs,qs,Qh,hl,Jt,hb,FQ,AO,Fh,Kw,Fq⟩:=Yv Ex;refine⟨t',_::cs,(RR N t,.ar false cc)::bs,(RR N t,0)::qs.map (fun q=>(q.1,q.2+1)),Qh,by simp[hl],by simp[Jt],by simp only[List.map_cons,hb];simp,?_,?_,?_,?_,fun w A own β' j0 us hβ ho=>?_⟩
   ·intro q hq;rcases List.mem_cons.1 hq with rfl|hq
    ·exact⟨⟨t,rfl⟩,by simp⟩
    ·obtain⟨q0,Vx,rfl⟩:=List.mem_map.1 hq;exact⟨(FQ q0 Vx).1,by have:=(FQ q0 Vx).2;simp only[List.length_cons];omega⟩
   ·intro q hq q' Fg e;rcases List.mem_cons.1 hq with rfl|hq
    ·rcases List.mem_cons.1 Fg with rfl|Fg
     ·rfl
     ·obtain⟨q0,Vx,rfl⟩:=List.mem_map.1 Fg;simp only at e;omega
    ·obtain⟨q0,Vx,rfl⟩:=List.mem_map.1 hq;rcases List.mem_cons.1 Fg with rfl|Fg
     ·simp only at e;omega
     ·obtain⟨q1,Jm,rfl⟩:=List.mem_map.1 Fg;exact AO q0 Vx q1 Jm (by simp only at e;omega)
   ·intro i bx hm;rcases List.mem_cons.1 hm with e|hm
    ·cases e;exact⟨cc,rfl⟩
    ·exact Fh i bx hm
   ·intro y hy i hi;rcases List.mem_cons.1 hy with rfl|hy
    ·simp only[Ao,List.mem_singleton] at hi;subst hi;exact⟨_,List.mem_cons_self⟩
    ·obtain⟨bx,Lm⟩:=Kw y hy i hi;exact⟨bx,List.mem_cons_of_mem _ Lm⟩
   ·cases us with
    |nil=>exact ho.elim
    |cons u us=>
     obtain⟨h1,h2⟩:=Fq w A own β' (j0+1) us (fun q hq=>by rw[hβ _ (List.mem_cons_of_mem _ (List.mem_map_of_mem hq))];congr 1;simp only;omega) ho.2
     have h0:=hβ (RR N t,0) List.mem_cons_self;simp only[Nat.add_zero] at h0;refine⟨⟨?_,h1⟩,fun i bx hm=>?_⟩
     ·rcases ho.1 with⟨h3,rfl,_,h5⟩|⟨b,ob,cap,h3,h4,h5,h6,h7,_⟩
      ·exact .inl ⟨h0.trans h3,rfl,rfl,h5⟩
      ·exact .inr ⟨b,ob,ob,cap,h0.trans h3,h4,.inl rfl,h5,h6,h7⟩
     ·rcases List.mem_cons.1 hm with e|hm
      ·cases e;exact Ws ho.1 h0
      ·exact h2 i bx hm
def VE (hp Ck:Nat->Option Bk)(bs:List (Nat × Bk)) (x:Gc):Prop:=
 match x with
 |.var id off _ ws=>∃c cs,hp id=some (.st c)∧Ck id=some (.st (Bl c cs off))∧cs.length=ws.length∧off+cs.length<=c.length∧∀p∈cs,∀i∈Ao p,∃bx,(i,bx)∈bs
 |.row id=>∃c cs,hp id=some (.ar false c)∧Ck id=some (.ar false cs)
 |.none=>True
def Adt (β β':Bt)(w':World)(A:Nat->Prop)(hp Ck:Nat->Option Bk)(x:Gc):Prop:=
 match x with
 |.var id off _ ws=>∃c cs,hp id=some (.st c)∧Ck id=some (.st (Bl c cs off))∧cs.length=ws.length∧off+cs.length<=c.length ∧
   ∀b o,β id=some (b,o)->(∀(j:Nat) p,cs[j]?=some p->∃v,w'.cell? ⟨b,o+off+j,none⟩=some v∧Bs w' A β' p v)∧∀j,j<cs.length->w'.frozen? ⟨b,o+off+j,none⟩=false
 |.row id=>∃cs,Ck id=some (.ar false cs)∧((β id=none∧cs=[])∨∃b o,β id=some (b,o)∧Wv w' A ⟨b,o,none⟩ cs∧∀j,o<=j->j<bsz w' b->w'.frozen? ⟨b,j,none⟩=false)
 |.none=>True
theorem Wa {hp Dd Ck:Nat->Option Bk}{bs bs1:List (Nat × Bk)} {x:Gc}(h1:∀i∈x.ids,Dd i=hp i)(hb:∀q∈bs,q∈bs1)(h:VE Dd Ck bs x):VE hp Ck bs1 x:=by
 cases x with
 |var id off cts ws=>
  obtain⟨c,cs,h2,h3,h4,h5,h6⟩:=h;refine⟨c,cs,by rw[←h1 id (by simp[Gc.ids])];exact h2,h3,h4,h5,fun p hp i hi=>?_⟩
  obtain⟨bx,Lm⟩:=h6 p hp i hi;exact⟨bx,hb _ Lm⟩
 |row id=>
  obtain⟨c,cs,h2,h3⟩:=h;exact⟨c,cs,by rw[←h1 id (by simp[Gc.ids])];exact h2,h3⟩
 |none=>trivial
theorem AD {hp Dd Ck:Nat->Option Bk}{x:Gc}(h1:∀i∈x.ids,Dd i=hp i)(h:Adt β β' w' A Dd Ck x):Adt β β' w' A hp Ck x:=by
 cases x with
 |var id off cts ws=>
  obtain⟨c,cs,h2,h3⟩:=h;exact⟨c,cs,by rw[←h1 id (by simp[Gc.ids])];exact h2,h3⟩
 |row id=>exact h
 |none=>trivial
theorem Aag {hp Dd:Nat->Option Bk}{q:Option (Nat × Nat)} {p:PV}{x:Gc}(h1:∀i∈x.ids,Dd i=hp i)(h:LOk hp q p x):LOk Dd q p x:=by
 cases x with
 |var id off cts ws'=>
  obtain⟨h2,h3,h5,c,h6,h7⟩:=h;exact⟨h2,h3,h5,c,by rw[h1 id (by simp[Gc.ids])];exact h6,h7⟩
 |row id=>
  obtain⟨h2,h3,c,h4⟩:=h;exact⟨h2,h3,c,by rw[h1 id (by simp[Gc.ids])];exact h4⟩
 |none=>exact h
theorem Wq {hp Dd:Nat->Option Bk}{src:Nat->Nat->Option (Nat × Nat)}:∀{ps:List PV}{i:Nat}{l:List Gc},(∀i∈l.flatMap Gc.ids,Dd i=hp i)->Ot hp src i ps l->Ot Dd src i ps l
 |[],_,_,_,h=>h
 |p::ps,i,l,hs,h=>by
  rcases h with⟨h1,h2,h3⟩|⟨x,l',rfl,h2,h3⟩
  ·exact .inl ⟨h1,h2,Wq hs h3⟩
  ·exact .inr ⟨x,l',rfl,Aag (fun k hk=>hs k (by simp only[List.flatMap_cons,List.mem_append];exact .inl hk)) h2,Wq (fun k hk=>hs k (by simp only[List.flatMap_cons,List.mem_append];exact .inr hk)) h3⟩
theorem SO {own:Bt}{bt:V6}{j i:Nat}{p:PV}{zs:List PV}{r:List (List PV)} (hp:Xu p=false)(h:Gz w A own bt j i (p::zs) r):Gz w A own bt j (i+1) zs r:=by
 cases p<;>first|exact h|cases hp
theorem S5 {src:Nat->Nat->Option (Nat × Nat)} {β:Bt}:∀{zs:List PV}{l:List Gc}{ro:List (List PV)} {i j t:Nat}{hp:Nat->Option Bk}{K:(Nat->Option Bk)->List (Nat × Bk)->Option R},
  U8 N t l ro hp K=some r->Ot hp src i zs l->Du (l.flatMap Gc.ids)=true ->
  ∃Ck bs,∃qs:List (Nat × Nat),K Ck bs=some r∧bs.map (·.1)=qs.map (·.1)∧(∀q∈qs,(∃k,q.1=RR N k)∧j<=q.2)∧(∀q∈qs,∀q'∈qs,q.2=q'.2->q.1=q'.1)∧(∀i bx,(i,bx)∈bs->∃c,bx=.ar false c) ∧
   (∀i,i ∉ l.flatMap Gc.ids->Ck i=hp i)∧(∀x∈l,VE hp Ck bs x) ∧
   ∀(w':World) (A:Nat->Prop) (own β':Bt) (bt:V6),(∀q∈qs,β' q.1=own q.2)->(∀i,bt i 0=(src i 0).bind (F5 β))->Gz w' A own bt j i zs ro ->
    (∀i bx,(i,bx)∈bs->Qv w' A β' i bx)∧∀x∈l,Adt β β' w' A hp Ck x
 |[],l,ro,i,j,t,hp,K,hk,hL,hn=>by
  have hL:l=[]:=hL;subst hL;unfold U8 at hk;obtain⟨rfl,hk⟩:=C5 hk;exact⟨hp,[],[],hk,rfl,by simp,by simp,by simp,fun _ _=>rfl,by simp,fun w' A own β' bt _ _ _=>⟨by simp,by simp⟩⟩
 |p::zs,l0,ro,i,j,t,hp,K,hk,hL0,hn=>by
  rcases hL0 with⟨BJ,_,hL⟩|⟨x,l,rfl,Kd,hL⟩
  rotate_left
  ··simp only[List.flatMap_cons] at hn;obtain⟨CR,RX,hn3⟩:=H4 hn;cases x with
    |var id off cts ws'=>
     obtain⟨rfl,M8,N1,c,hc,Z0⟩:=Kd;unfold U8 at hk;obtain⟨cs,ro',hro,Dw⟩:=A3 hk;subst hro;obtain⟨t',cs',bs,qs,Ex,CI,NG,hb,FQ,AO,Fh,Kw,hv⟩:=Yv Dw;rw[hc] at Ex;simp only at Ex;change U8 N t' l ro' (Cb hp id (some (.st (Bl c cs' off)))) (fun Ck bs'=>K Ck (bs++bs'))=some r at Ex
     have SN:id ∉ l.flatMap Gc.ids:=hn3 id (by simp[Gc.ids])
     have hL':Ot (Cb hp id (some (.st (Bl c cs' off)))) src (i+1) zs l:=Wq (fun k hkm=>Ah _ _ (fun e=>SN (e ▸ hkm))) hL
     obtain⟨Ck,bs',qs',Qh,Hh,Jm,TZ,UA,Le,hsh,LT⟩:=S5 (β:=β) (j:=j+cs.length) Ex hL' RX;have Ag2:Ck id=some (.st (Bl c cs' off)):=by rw[Le id SN,Al]
     have EG:∀x∈l,∀k∈x.ids,Cb hp id (some (.st (Bl c cs' off))) k=hp k:=fun x hx k hkm=>Ah _ _ (fun e=>SN (e ▸ List.mem_flatMap.2 ⟨x,hx,hkm⟩))
     refine⟨Ck,bs++bs',qs.map (fun q=>(q.1,j+q.2))++qs',Qh,by simp only[List.map_append,hb,Hh];simp,?_,?_,?_,?_,?_,fun w' A own β' bt hβ Vd ho=>?_⟩
     ·intro q hq;rcases List.mem_append.1 hq with hq|hq
      ·obtain⟨q0,Vx,rfl⟩:=List.mem_map.1 hq;exact⟨(FQ q0 Vx).1,by simp only;omega⟩
      ·exact⟨(Jm q hq).1,by have:=(Jm q hq).2;omega⟩
     ·intro q hq q' Fg e;rcases List.mem_append.1 hq with hq|hq
      ·obtain⟨q0,Vx,rfl⟩:=List.mem_map.1 hq;have:=(FQ q0 Vx).2;rcases List.mem_append.1 Fg with Fg|Fg
       ·obtain⟨q1,Jm,rfl⟩:=List.mem_map.1 Fg;exact AO q0 Vx q1 Jm (by simp only at e;omega)
       ·have:=(Jm q' Fg).2;simp only at e;omega
      ·have h5:=(Jm q hq).2;rcases List.mem_append.1 Fg with Fg|Fg
       ·obtain⟨q1,Azo,rfl⟩:=List.mem_map.1 Fg;have:=(FQ q1 Azo).2;simp only at e;omega
       ·exact TZ q hq q' Fg e
     ·intro k bx hm;rcases List.mem_append.1 hm with hm|hm
      ·exact Fh k bx hm
      ·exact UA k bx hm
     ·intro k hk;simp only[List.flatMap_cons,List.mem_append,not_or] at hk;rw[Le k hk.2];exact Ah _ _ (by rintro rfl;exact hk.1 (by simp[Gc.ids]))
     ·intro x hx;rcases List.mem_cons.1 hx with rfl|hx
      ·refine⟨c,cs',hc,Ag2,by omega,by omega,fun p hp k hk=>?_⟩
       obtain⟨bx,Lm⟩:=Kw p hp k hk;exact⟨bx,List.mem_append.2 (.inl Lm)⟩
      ·exact Wa (EG x hx) (fun q hq=>List.mem_append.2 (.inr hq)) (hsh x hx)
     ·obtain⟨⟨b,ob,PI,Em,vs,hov,hcell,hfr⟩,ho⟩:=ho
      ·obtain⟨h1,h2⟩:=hv w' A own β' j vs (fun q hq=>hβ _ (List.mem_append.2 (.inl (List.mem_map_of_mem hq)))) hov
       obtain⟨h3,h4⟩:=LT w' A own β' bt (fun q hq=>hβ q (List.mem_append.2 (.inr hq))) Vd ho
       refine⟨fun k bx hm=>?_,fun x hx=>?_⟩
       ·rcases List.mem_append.1 hm with hm|hm
        ·exact h2 k bx hm
        ·exact h3 k bx hm
       ·rcases List.mem_cons.1 hx with rfl|hx
        ·refine⟨c,cs',hc,Ag2,by omega,by omega,fun b1 o1 hβ1=>?_⟩
         have Kw:=Vd i;rw[PI,M8] at Kw;simp only[Option.bind_some,F5,hβ1,Option.map_some,Option.some.injEq,Prod.mk.injEq] at Kw;obtain⟨rfl,rfl⟩:=Kw;refine⟨fun k p hp=>?_,fun k hk=>hfr k (by omega)⟩
         obtain⟨v,hv,ME⟩:=h1.get hp;exact⟨v,hcell k v hv,ME⟩
        ·exact AD (EG x hx) (h4 x hx)
    |row id=>
     obtain⟨⟨pz,rfl⟩,M8,c,hc⟩:=Kd;unfold U8 at hk;obtain⟨cs,ro',hro,Ex⟩:=A3 hk;subst hro;have SN:id ∉ l.flatMap Gc.ids:=hn3 id (by simp[Gc.ids])
     have hL':Ot (Cb hp id (some (.ar false cs))) src (i+1) zs l:=Wq (fun k hkm=>Ah _ _ (fun e=>SN (e ▸ hkm))) hL
     obtain⟨Ck,bs',qs',Qh,Hh,Jm,TZ,UA,Le,hsh,LT⟩:=S5 (β:=β) (j:=j) Ex hL' RX;have Ag2:Ck id=some (.ar false cs):=by rw[Le id SN,Al]
     have EG:∀x∈l,∀k∈x.ids,Cb hp id (some (.ar false cs)) k=hp k:=fun x hx k hkm=>Ah _ _ (fun e=>SN (e ▸ List.mem_flatMap.2 ⟨x,hx,hkm⟩))
     refine⟨Ck,bs',qs',Qh,Hh,Jm,TZ,UA,?_,?_,fun w' A own β' bt hβ Vd ho=>?_⟩
     ·intro k hk;simp only[List.flatMap_cons,List.mem_append,not_or] at hk;rw[Le k hk.2];exact Ah _ _ (by rintro rfl;exact hk.1 (by simp[Gc.ids]))
     ·intro x hx;rcases List.mem_cons.1 hx with rfl|hx
      ·exact⟨c,cs,hc,Ag2⟩
      ·exact Wa (EG x hx) (fun q hq=>hq) (hsh x hx)
     ·obtain⟨Aa1,ho⟩:=ho
      ·obtain⟨h3,h4⟩:=LT w' A own β' bt hβ Vd ho;refine⟨h3,fun x hx=>?_⟩
       rcases List.mem_cons.1 hx with rfl|hx
       ·refine⟨cs,Ag2,?_⟩;have Kw:=Vd i;rw[M8] at Kw;simp only[Option.bind_some,TQ] at Kw;rw[Kw] at Aa1;exact Aa1
       ·exact AD (EG x hx) (h4 x hx)
    |none=>
     obtain⟨⟨pz,rfl⟩,M8⟩:=Kd;unfold U8 at hk;obtain⟨cs,ro',hro,Ex⟩:=A3 hk;subst hro;obtain⟨Ck,bs',qs',Qh,Hh,Jm,TZ,UA,Le,hsh,LT⟩:=S5 (β:=β) (j:=j) Ex hL RX;refine⟨Ck,bs',qs',Qh,Hh,Jm,TZ,UA,?_,?_,fun w' A own β' bt hβ Vd ho=>?_⟩
     ·intro k hk;simp only[List.flatMap_cons,List.mem_append,not_or] at hk;exact Le k hk.2
     ·intro x hx;rcases List.mem_cons.1 hx with rfl|hx
      ·trivial
      ·exact hsh x hx
     ·obtain⟨Aa1,ho⟩:=ho
      ·obtain⟨h3,h4⟩:=LT w' A own β' bt hβ Vd ho;refine⟨h3,fun x hx=>?_⟩
       rcases List.mem_cons.1 hx with rfl|hx
       ·trivial
       ·exact h4 x hx
  ·obtain⟨Ck,bs',qs',Qh,Hh,Jm,TZ,UA,Le,hsh,LT⟩:=S5 (β:=β) (j:=j) hk hL hn;exact⟨Ck,bs',qs',Qh,Hh,Jm,TZ,UA,Le,hsh,fun w' A own β' bt hβ Vd ho=>LT w' A own β' bt hβ Vd (SO BJ ho)⟩
end
open Go.RowKit
theorem Fp (hp:Nat->Option Bk)(ids:List Nat)(i:Nat):Sp hp ids i=if i∈ids then (hp i).map (fun _=>Bk.mv) else hp i:=by
 unfold Sp;by_cases hi:i∈ids
 ·have:ids.any (Nat.beq i)=true:=List.any_eq_true.2 ⟨i,hi,Nat.beq_refl i⟩;rw[this,if_pos hi];rfl
 ·have:ids.any (Nat.beq i)=false:=by
   cases hb:ids.any (Nat.beq i)
   ·rfl
   ·obtain⟨j,hj,e⟩:=List.any_eq_true.1 hb;exact absurd (Nat.eq_of_beq_eq_true e ▸ hj) hi
  rw[this,if_neg hi];rfl
theorem Rb:∀{nw:List (Nat × Bk)} {hp:Nat->Option Bk},Bn hp nw=true->(nw.map (·.1)).Nodup
 |[],_,_=>List.nodup_nil
 |(i,b)::r,hp,h=>by
  simp only[Bn,Bool.and_eq_true,Option.isNone_iff_eq_none,Bool.not_eq_true'] at h;simp only[List.map_cons,List.nodup_cons];refine⟨fun hm=>?_,Rb h.2⟩
  obtain⟨q,hq,e⟩:=List.mem_map.1 hm;have:r.any (fun q=>Nat.beq q.1 i)=true:=List.any_eq_true.2 ⟨q,hq,by rw[e];exact Nat.beq_refl i⟩
  rw[this] at h;cases h.1.2
theorem Adh:∀{l:List (Nat × Nat)},(l.map (·.1)).Nodup->∀q∈l,Uh l q.1=some q.2
 |[],_,_,h=>by cases h
 |(j,b)::r,hn,q,hq=>by
  simp only[List.map_cons,List.nodup_cons] at hn;unfold Uh;rcases List.mem_cons.1 hq with rfl|hq
  ·simp only[Nat.beq_refl,cond_true]
  ·have:Nat.beq q.1 j=false:=by
    cases hb:Nat.beq q.1 j
    ·rfl
    ·exact absurd (Nat.eq_of_beq_eq_true hb ▸ List.mem_map_of_mem hq) hn.1
   simp only[this,cond_false];exact Adh hn.2 q hq
theorem PA:∀{l:List (Nat × Nat)} {i:Nat},i ∉ l.map (·.1)->Uh l i=none
 |[],_,_=>rfl
 |(j,b)::r,i,h=>by
  simp only[List.map_cons,List.mem_cons,not_or] at h;unfold Uh
  have:Nat.beq i j=false:=by
   cases hb:Nat.beq i j
   ·rfl
   ·exact absurd (Nat.eq_of_beq_eq_true hb) h.1
  simp only[this,cond_false];exact PA h.2
section
variable {R:Type} {r:R} {P:Program} {N:Nat} {w0:World} {X0:Hm} {Y:Nat->Prop} {β β':Bt} {s:St} {a:Act} {w w':World} {o:Oper} {A A':Nat->Prop}
theorem Fz.weak (hA:∀b,b<w.heap.size->A' b->A b){q:Option (Nat × Nat)} {p:PV}{u:Value}(h:Fz w A q p u):Fz w A' q p u:=by
 have tr:∀{p:PV},As w A p u->As w A' p u:=fun h=>h.step (Bw.refl _ _) hA
 cases p with
 |own es n c=>
  rcases h with h|⟨b,ob,cap,h1,h2,h3,h4,h5,h6,h7⟩
  ·exact .inl h
  ·exact .inr ⟨b,ob,cap,h1,h2,h3,h4,h5,h6.weak hA,h7⟩
 |_=>exact tr h
theorem Et.weak (hA:∀b,b<w.heap.size->A' b->A b){own:Bt}:∀{ps:List PV}{us:List Value}{j:Nat},Et w A own j ps us->Et w A' own j ps us
 |[],[],_,_=>trivial
 |[],_::_,_,h=>h.elim
 |_::_,[],_,h=>h.elim
 |_::_,_::_,_,h=>⟨h.1.weak hA,Et.weak hA h.2⟩
theorem FR.weak (hA:∀b,b<w.heap.size->A' b->A b){bt:Bt}{p:PV}{u:Value}(h:FR w A bt p u):FR w A' bt p u:=by
 cases p with
 |pbox ps=>
  obtain⟨b,ob,h1,h2,h3,vs,h4,h5⟩:=h;exact⟨b,ob,h1,h2,h3,vs,h4.weak hA,h5⟩
 |tup ps=>
  obtain⟨es,n,c,h1,h2⟩:=h;exact⟨es,n,c,h1,h2.weak hA⟩
 |agg cs=>
  obtain⟨vs,h1,h2,h3⟩:=h;exact⟨vs,h1,h2,h3.weak hA⟩
 |_=>exact⟨h.1,h.2.weak hA⟩
theorem K1.weak (hA:∀b,b<w.heap.size->A' b->A b){bt:V6}:∀{ps:List PV}{us:List Value}{i:Nat},K1 w A bt i ps us->K1 w A' bt i ps us
 |[],[],_,_=>trivial
 |[],_::_,_,h=>h.elim
 |_::_,[],_,h=>h.elim
 |_::_,_::_,_,h=>⟨h.1.weak hA,K1.weak hA h.2⟩
theorem Xd {bt:V6}(k:Bool):∀{xs:List Operand}{ps:List PV}{i:Nat},K1 w A bt i ps (xs.map a.eval)->K1 w A bt i (I8 k xs ps) (xs.map a.eval)
 |[],[],_,h=>h
 |[],_::_,_,h=>h
 |_::_,[],_,h=>h
 |x::xs,p::ps,i,h=>by
  simp only[List.map_cons] at h ⊢;refine⟨?_,Xd k h.2⟩;split
  ·exact⟨.inl trivial,As.lnil _ _⟩
  ·exact h.1
theorem KE (k:Bool)(x:Operand)(xs:List Operand)(p:PV)(ps:List PV):∃p',I8 k (x::xs) (p::ps)=p'::I8 k xs ps∧Xu p'=Xu p∧(Xu p=true->p'=p):=by
 refine⟨_,rfl,?_,fun h=>?_⟩
 ·split
  ·rfl
  ·rfl
 ·split
  ·cases h
  ·rfl
theorem Rc {hp:Nat->Option Bk}{src:Nat->Nat->Option (Nat × Nat)} (k:Bool):∀{xs:List Operand}{ps:List PV}{i:Nat}{l:List Gc},Ot hp src i ps l->Ot hp src i (I8 k xs ps) l
 |[],[],_,_,h=>h
 |[],_::_,_,_,h=>h
 |_::_,[],_,_,h=>h
 |x::xs,p::ps,i,l,h=>by
  obtain⟨p',e,h1,h2⟩:=KE k x xs p ps;rw[e];rcases h with⟨h3,h4,h5⟩|⟨y,l',rfl,h4,h5⟩
  ·exact .inl ⟨by rw[h1];exact h3,h4,Rc k h5⟩
  ·exact .inr ⟨y,l',rfl,by rw[h2 (VX h4)];exact h4,Rc k h5⟩
theorem EC {hp:Nat->Option Bk}{src:Nat->Nat->Option (Nat × Nat)}:∀{ps:List PV}{i:Nat}{l:List Gc},Ot hp src i ps l->∀id∈l.flatMap Gc.ids,Cu (hp id)∧∃k off,src k 0=some (id,off)
 |[],_,_,h,id,Bb=>by
  have h:_=[]:=h;rw[h] at Bb;cases Bb
 |p::ps,i,l,h,id,Bb=>by
  rcases h with⟨_,_,h3⟩|⟨x,l',rfl,h2,h3⟩
  ·exact EC h3 id Bb
  ·simp only[List.flatMap_cons,List.mem_append] at Bb;rcases Bb with Bb|Bb
   ·cases x with
    |var id' off cts ws=>
     simp only[Gc.ids,List.mem_singleton] at Bb;subst Bb;obtain⟨_,h4,_,c,h5,_⟩:=h2;exact⟨by rw[h5];trivial,i,_,h4⟩
    |row id'=>
     simp only[Gc.ids,List.mem_singleton] at Bb;subst Bb;obtain⟨_,h4,c,h5⟩:=h2;exact⟨by rw[h5];trivial,i,_,h4⟩
    |none=>simp[Gc.ids] at Bb
   ·exact EC h3 id Bb
theorem Afk {hp:Nat->Option Bk}{src:Nat->Nat->Option (Nat × Nat)}:∀{ps:List PV}{i:Nat}{l:List Gc},Ot hp src i ps l->∀k p id off,ps[k]?=some p->src (i+k) 0=some (id,off) ->
   (∃c ws,hp id=some (.st c)∧p=.pbox ws∧off+ws.length<=c.length)∨((∃c,hp id=some (.ar false c))∧off=0∧∃ws,p=.tup ws)
 |[],_,_,_,k,p,id,off,hp,_=>by simp at hp
 |p::ps,i,l,h,k,p',id,off,Ck,hs=>by
  have Uq:∃l',Ot hp src (i+1) ps l':=by
   rcases h with⟨_,_,h3⟩|⟨x,l',_,_,h3⟩<;>exact⟨_,h3⟩
  cases k with
  |succ k=>
   obtain⟨l',h'⟩:=Uq;exact Afk h' k p' id off (by simpa using Ck) (by rw[show i+1+k=i+(k+1) by omega];exact hs)
  |zero=>
   simp only[List.getElem?_cons_zero,Option.some.injEq] at Ck;subst Ck;rw[Nat.add_zero] at hs;rcases h with⟨_,h2,_⟩|⟨x,l',_,h2,_⟩
   ·rw[hs] at h2;cases h2
   ·cases x with
    |var id' off' cts ws=>
     obtain⟨h3,h4,_,c,h5,h6⟩:=h2;rw[hs] at h4;cases h4;exact .inl ⟨c,ws,h5,h3,h6⟩
    |row id'=>
     obtain⟨h3,h4,c,h5⟩:=h2;rw[hs] at h4;cases h4;exact .inr ⟨⟨c,h5⟩,rfl,h3⟩
    |none=>
     have:=h2.2;rw[hs] at this;cases this
theorem PM {hp : Nat -> Option Bk} {src : Nat -> Nat -> Option (Nat × Nat)} {id off : Nat} {cts : List CT} {ws : List PV} : ∀ {ps : List PV} {i : Nat} {l : List Gc}, Ot hp src i ps l -> Gc.var id off cts ws ∈ l ->
      ∃ k, ps[k]? = some (.pbox ws) ∧ src (i + k) 0 = some (id, off)
  | [], _, _, h, hm => by
    have h : _ = [] := h
    rw[h] at hm; cases hm
  | p :: ps, i, l, h, hm => by
    have next : ∀ {l'}, Ot hp src (i + 1) ps l' -> Gc.var id off cts ws ∈ l' -> ∃ k, (p :: ps)[k]? = some (.pbox ws) ∧ src (i + k) 0 = some (id, off) := by
      intro l' h' Mj
      obtain⟨k, h1, h2⟩ := PM h' Mj
      exact⟨k + 1, by simpa using h1, by rw[show i + (k + 1) = i + 1 + k by omega]; exact h2⟩
    rcases h with⟨_, _, h3⟩ | ⟨x, l', rfl, h2, h3⟩
    · exact next h3 hm
    · rcases List.mem_cons.1 hm with e | hm
      · subst e
        obtain⟨h1, h4, _⟩ := h2
        subst h1
        exact⟨0, rfl, h4⟩
      · exact next h3 hm
theorem QX {hp:Nat->Option Bk}{src:Nat->Nat->Option (Nat × Nat)}:∀{ps:List PV}{i:Nat}{l:List Gc},Ot hp src i ps l->∀k id off,i<=k->src k 0=some (id,off)->k<i+ps.length->∃p,ps[k-i]?=some p∧Xu p=true
 |[],i,_,_,k,id,off,h1,_,h3=>by simp at h3;omega
 |p::ps,i,l,h,k,id,off,h1,h2,h3=>by
  by_cases e:k=i
  ·subst e;rcases h with⟨_,h4,_⟩|⟨x,l',_,h4,_⟩
   ·rw[h2] at h4;cases h4
   ·exact⟨p,by simp,VX h4⟩
  ·have Uq:∃l',Ot hp src (i+1) ps l':=by
    rcases h with⟨_,_,h3⟩|⟨x,l',_,_,h3⟩<;>exact⟨_,h3⟩
   obtain⟨l',h'⟩:=Uq;obtain⟨q,h5,h6⟩:=QX h' k id off (by omega) h2 (by simp at h3;omega)
   refine⟨q,?_,h6⟩;rw[show k-i=(k-(i+1))+1 by omega]
   simpa using h5
theorem K1.len {bt:V6}:∀{ps:List PV}{us:List Value}{i:Nat},K1 w A bt i ps us->ps.length=us.length
 |[],[],_,_=>rfl
 |[],_::_,_,h=>h.elim
 |_::_,[],_,h=>h.elim
 |_::_,_::_,_,h=>by simp[K1.len h.2]
theorem RD (h:Cj N w0 X0 Y β s a w){G:Glo}(J1:QR P G w0 X0){C:Gt}{call:Ai}(Dr:∀f args res,call f args=some res->Do G P f args res){c:Call}{f:FuncId}(ho:o.op=.call c)(hc:c.callee=.value (.func f))
  {K:St->Option R} (hk:Zf C P N call s o f c K=some r):
  ∃s',K s'=some r∧∀(next:Act->World->Prop) (Q:Exit->Act->World->Prop),(∀a' w' β',Cj N w0 X0 Y β' s' a' w'->next a' w')->o.wp P a w next Q:=by
 unfold Zf at hk;obtain⟨vs0,m,x,l,src,Dw,hm,hx,hS,hL,Eg⟩:=HB h hk;obtain⟨hb,Ex⟩:=Aj Dw;simp only[Bool.and_eq_true] at hb;obtain⟨⟨⟨hnd,Apm⟩,hN⟩,YQ⟩:=hb;have hN:0<N:=Nat.lt_of_succ_le (Nat.le_of_ble_eq_true hN);obtain⟨CZ,hnx,hlx⟩:=H4 hnd
 have hml:∀i∈m,i ∉ l.flatMap Gc.ids∧i ∉ x:=by
  intro i hi;have:=List.all_eq_true.1 Apm i hi
  have hn:∀k∈l.flatMap Gc.ids++x,i≠k:=by
   rintro k hk rfl
   have h2:(l.flatMap Gc.ids++x).any (Nat.beq i)=true:=List.any_eq_true.2 ⟨i,hk,Nat.beq_refl i⟩;rw[h2] at this;cases this
  exact⟨fun hq=>hn i (by simp only[List.mem_append];exact .inl hq) rfl,fun hq=>hn i (by simp only[List.mem_append];exact .inr hq) rfl⟩
 replace hL:=Rc (C.kz f) (xs:=c.args.toList) hL
 replace Eg:=fun fz h1 h2 bt Vd=>Xd (a:=a) (C.kz f) (Eg fz h1 h2 bt Vd)
 generalize I8 (C.kz f) c.args.toList vs0=vs at Ex Eg hL;obtain⟨rv,ro,N1,Qh⟩:=GZ Ex;obtain⟨ws,bs,Yq,hwl,SU,RF,hrs,TH,hws⟩:=Yw (C.shr f) N Qh;obtain⟨Pp,hk5⟩:=Aj Yq;obtain⟨lids,GX⟩:∃lids,l.flatMap Gc.ids=lids:=⟨_,rfl⟩;rw[GX] at hS CZ hlx hml;have A3e:∀i,i ∉ x->Sp (Ad s.hp m) x i=Ad s.hp m i:=fun i hi=>by rw[Fp,if_neg hi]
 have XI:∀i,i∈lids->Sp (Ad s.hp m) x i=s.hp i:=fun i hi=>by
  rw[A3e i (hlx i hi),Bq,if_neg (fun hq=>(hml i hq).1 hi)]
 have hLM:Ot (Sp (Ad s.hp m) x) src 0 vs l:=Wq (fun i hi=>XI i (GX ▸ hi)) hL
 obtain⟨Ck,bs',qs,hk6,hbq,FQ,AO,Fh,Le,hsh,LT⟩:=S5 (β:=β) (j:=Jd rv) hk5 hLM (by rw[GX];exact CZ)
 obtain⟨O1,hk7⟩:=Aj hk6;refine⟨_,hk7,fun next Q hn=>?_⟩
 clear hk Dw Ex Qh Yq hk5 hk6 hk7;rw[GX] at Le;obtain⟨⟨fn,hfn,hfb⟩,Te⟩:=Dr f vs _ N1;have hf:=h.freeze hm;have Abk:=EC hL;rw[GX] at Abk
 have JB:∀i,i∈lids∨i∈x->Ad s.hp m i=s.hp i:=by
  intro i hi;rw[Bq,if_neg];intro hq;rcases hi with hi|hi
  ·exact (hml i hq).1 hi
  ·exact (hml i hq).2 hi
 have We:∀i,i∈lids∨i∈x->Cu (s.hp i):=by
  intro i hi;rcases hi with hi|hi
  ·exact (Abk i hi).1
  ·obtain⟨cc,hcc⟩:=hx i hi;rw[hcc];trivial
 have At2:∀i j id off,src i j=some (id,off)->id∈lids∨id∈x:=by
  intro i j id off hs;cases j with
  |zero=>exact .inl (hS.lent i id off hs)
  |succ j=>exact .inr (hS.mvd i j id off hs).2
 obtain⟨bt,Vd⟩:∃bt:V6,∀i j,bt i j=(src i j).bind (F5 β):=⟨_,fun _ _=>rfl⟩
 have btS:∀{i j b ob},bt i j=some (b,ob)->∃id off o',src i j=some (id,off)∧β id=some (b,o')∧ob=o'+off∧(id∈lids∨id∈x):=by
  intro i j b ob hb;rw[Vd] at hb;cases hs:src i j with
  |none=>rw[hs] at hb;cases hb
  |some q=>
   rw[hs] at hb;obtain⟨id,off⟩:=q;simp only[Option.bind_some,F5] at hb;cases hβ:β id with
   |none=>rw[hβ] at hb;cases hb
   |some p=>
    rw[hβ] at hb;obtain⟨b',o'⟩:=p;simp only[Option.map_some,Option.some.injEq,Prod.mk.injEq] at hb;obtain⟨rfl,rfl⟩:=hb;exact⟨id,off,o',rfl,hβ,rfl,At2 i j id off hs⟩
 have btX:∀{b},BtX bt b->∃id o',β id=some (b,o')∧(id∈lids∨id∈x):=by
  rintro b ⟨i,j,ob,hb⟩
  obtain⟨id,off,o',_,h2,_,h4⟩:=btS hb;exact⟨id,o',h2,h4⟩
 have hBA:∀b,BtX bt b->LX s.hp β b:=fun b hb=>by
  obtain⟨id,o',h1,h2⟩:=btX hb;exact⟨id,o',We id h2,h1⟩
 obtain⟨Yc,hYc⟩:∃Yc:Nat->Prop,∀b,Yc b↔((∃id ob,Cu (Ad s.hp m id)∧β id=some (b,ob)∧id ∉ lids∧id ∉ x)∨Y b):=⟨_,fun _=>Iff.rfl⟩
 have Em:vs.length=c.args.toList.length:=by
  have:=(Eg m (fun _ hi=>hi) hm bt Vd).len
  simpa using this
 have Ajr:Ins w Yc bt vs (c.args.toList.map a.eval):=by
  refine⟨fun b hb=>?_,fun b hb hB=>?_,fun b hB=>?_,fun i j i' j' b ob ob' hb Hh=>?_,fun i q hq=>?_,?_⟩
  ·rcases (hYc b).1 hb with⟨id,ob,hl,hβ,_⟩|hY
   ·exact hf.blt id b ob (Cl hl) hβ
   ·exact Nat.lt_of_lt_of_le (h.Ylt b hY) h.fr.step.size
  ·obtain⟨id',o',h1,h2⟩:=btX hB;rcases (hYc b).1 hb with⟨id,ob,hl,hβ,h3,h4⟩|hY
   ·have:=hf.inj id id' b ob o' hl (by show Cu (Ad s.hp m id');rw[JB id' h2];exact We id' h2) hβ h1
    subst this;rcases h2 with h2|h2
    ·exact h3 h2
    ·exact h4 h2
   ·exact h.Yx b hY ⟨id',o',We id' h2,h1⟩
  ·obtain⟨id',o',h1,h2⟩:=btX hB;exact h.blt id' b o' (Cl (We id' h2)) h1
  ·obtain⟨id,off,o1,h1,h2,_,h4⟩:=btS hb;obtain⟨id',off',o1',Tj,RP,_,h4'⟩:=btS Hh;have:=h.inj id id' b o1 o1' (We id h4) (We id' h4') h2 RP;subst this;cases j with
   |zero=>
    cases j' with
    |zero=>exact⟨hS.inj0 CZ i i' id off off' h1 Tj,rfl⟩
    |succ j'=>exact absurd (hS.mvd i' j' id off' Tj).2 (hlx id (hS.lent i id off h1))
   |succ j=>
    cases j' with
    |zero=>exact absurd (hS.mvd i j id off h1).2 (hlx id (hS.lent i' id off' Tj))
    |succ j'=>
     obtain⟨h5,h6⟩:=hS.inj1 hnx i i' j j' id off off' h1 Tj;exact⟨h5,by rw[h6]⟩
  ·obtain⟨b,ob⟩:=q;obtain⟨id,off,o',h1,_⟩:=btS hq;obtain⟨p,hp,h2⟩:=QX hL i id off (Nat.zero_le _) h1 (by have:=hS.dom i 0 _ h1;rw[Em];exact this.2)
   exact⟨p,by simpa using hp,h2⟩
  ·refine (Eg m (fun _ hi=>hi) hm bt Vd).weak fun b _ hb=>?_
   rcases hb with hb|hb
   ·obtain⟨id',o',h1,h2⟩:=btX hb;exact .inl ⟨id',o',by rw[JB id' h2];exact We id' h2,h1⟩
   ·rcases (hYc b).1 hb with⟨id,ob,hl,hβ,_⟩|hY
    ·exact .inl ⟨id,ob,hl,hβ⟩
    ·exact .inr hY
 unfold Oper.wp;rw[DV ho hc J1.ng hfn hfb];show Calls P f _ w _;have hca:c.args.map a.eval=(c.args.toList.map a.eval).toArray:=by rw[←List.map_toArray,Array.toArray_toList]
 rw[hca];refine (Te w Yc bt _ Ajr (J1.fr w h.fr) (fun b x=>⟨Nat.lt_of_lt_of_le (J1.y b x).1 h.fr.step.size,fun hB=>(h.ownd b (hBA b hB)).elim (J1.y b x).2 (fun Z0=>absurd (J1.y b x).1 (Nat.not_lt.2 Z0))⟩)).mono ?_
 rintro e w' ⟨us,own,rfl,out⟩
 obtain⟨ha1,ha2⟩:=Bg O1;obtain⟨hg1,hg2⟩:=D3 (hp:=Ck) ha2;have TV:=Rb O1;rw[List.map_append,List.nodup_append] at TV;obtain⟨Bz4,A4z,Bc0⟩:=TV;rw[hbq] at A4z
 obtain⟨β1,hβ1,hβ2⟩:∃β1:Bt,(∀i,(∃bx,(i,bx)∈bs)->β1 i=own ((i-o.dst.getD N) / N))∧∀i,(¬∃bx,(i,bx)∈bs)->β1 i=match Uh qs i with|some j=>own j|none=>β i:=by
  refine⟨fun i=>if (bs.any fun q=>Nat.beq q.1 i)=true then own ((i-o.dst.getD N) / N) else match Uh qs i with|some j=>own j|none=>β i,fun i hi=>?_,fun i hi=>?_⟩
  ·show (if _ then _ else _)=_
   rw[if_pos (MW.2 hi)]
  ·show (if _ then _ else _)=_
   rw[if_neg (fun hq=>hi (MW.1 hq))]
 have hβbs:∀j,(∃bx,(o.dst.getD N+N*j,bx)∈bs)->β1 (o.dst.getD N+N*j)=own (0+j):=by
  intro j hj;rw[hβ1 _ hj,Nat.add_sub_cancel_left,Nat.mul_div_cancel_left _ hN,Nat.zero_add]
 have hqb:∀q∈qs,∃bx,(q.1,bx)∈bs':=by
  intro q hq;have:q.1∈bs'.map (·.1):=by rw[hbq];exact List.mem_map_of_mem hq
  obtain⟨⟨i,bx⟩,hm,e⟩:=List.mem_map.1 this;exact⟨bx,e ▸ hm⟩
 have Bjy:∀i bx,(i,bx)∈bs'->∃j,(i,j)∈qs:=by
  intro i bx hm;have:i∈qs.map (·.1):=by rw[←hbq];exact List.mem_map.2 ⟨_,hm,rfl⟩
  obtain⟨⟨i',j⟩,hm,e⟩:=List.mem_map.1 this;exact⟨j,e ▸ hm⟩
 have hbb:∀i,(∃bx,(i,bx)∈bs')->¬∃bx,(i,bx)∈bs:=by
  rintro i ⟨bx,hm⟩ ⟨bx',Mj⟩
  exact Bc0 i (List.mem_map.2 ⟨_,Mj,rfl⟩) i (List.mem_map.2 ⟨_,hm,rfl⟩) rfl
 have hβqs:∀q∈qs,β1 q.1=own q.2:=by
  intro q hq;rw[hβ2 q.1 (hbb q.1 (hqb q hq)),Adh A4z q hq]
 have hβold:∀i,Ck i≠none->β1 i=β i:=by
  intro i hi
  have CR:¬∃bx,(i,bx)∈bs:=by
   rintro⟨bx,hm⟩
   exact hi (ha1 i bx (List.mem_append.2 (.inl hm)))
  rw[hβ2 i CR,PA];intro hm;obtain⟨q,hq,e⟩:=List.mem_map.1 hm;obtain⟨bx,Lm⟩:=hqb q hq;exact hi (ha1 i bx (List.mem_append.2 (.inr (e ▸ Lm))))
 obtain⟨Fq,hba⟩:=hws w' _ own β1 w.heap.size 0 us hβbs out.vals;obtain⟨Bf7,A1q⟩:=LT w' _ own β1 bt hβqs (fun i=>Vd i 0) out.outs
 have Al2:∀id∈lids,∃y∈l,id∈y.ids:=by
  intro id Bb;rw[←GX] at Bb;exact List.mem_flatMap.1 Bb
 have Aii:∀id∈lids,(∃off c cs,s.hp id=some (.st c)∧Ck id=some (.st (Bl c cs off))∧off+cs.length<=c.length∧(∀p∈cs,∀i∈Ao p,∃bx,(i,bx)∈bs'))∨∃c cs,s.hp id=some (.ar false c)∧Ck id=some (.ar false cs):=by
  intro id Bb;obtain⟨y,hy,hyi⟩:=Al2 id Bb;have h1:=hsh y hy;cases y with
  |var id' off cts ws'=>
   simp only[Gc.ids,List.mem_singleton] at hyi;subst hyi;obtain⟨c1,cs,h2,h3,h4,h5,h6⟩:=h1;rw[XI id Bb] at h2;exact .inl ⟨off,c1,cs,h2,h3,h5,h6⟩
  |row id'=>
   simp only[Gc.ids,List.mem_singleton] at hyi;subst hyi;obtain⟨c1,cs,h2,h3⟩:=h1;rw[XI id Bb] at h2;exact .inr ⟨c1,cs,h2,h3⟩
  |none=>simp[Gc.ids] at hyi
 have Bs5:∀id∈lids,Ck id≠none:=by
  intro id Bb;rcases Aii id Bb with⟨_,_,_,_,h2,_⟩|⟨_,_,_,h2⟩<;>rw[h2]<;>simp
 have hpK:∀id,id ∉ lids->Ck id=Sp (Ad s.hp m) x id:=fun id Bb=>Le id Bb
 have Dy:∀i,s.hp i≠none->Ck i≠none:=by
  intro i hi;by_cases hl:i∈lids
  ·exact Bs5 i hl
  ·rw[hpK i hl,Fp];have h1:Ad s.hp m i≠none:=fun e=>hi (Dq.1 e)
   split
   ·cases hq:Ad s.hp m i with
    |none=>exact absurd hq h1
    |some b=>simp
   ·exact h1
 have Ajt:∀i,(s.hp i≠none∨∃bx,(i,bx)∈bs++bs')->Aq Ck (bs++bs') i≠none:=by
  rintro i (hi|⟨bx,hm⟩)
  ·have h1:=Dy i hi;rw[hg2 i (fun bx hm=>h1 (ha1 i bx hm))]
   exact h1
  ·rw[hg1 i bx hm];simp
 have G2:∀id,(∃bx,(id,bx)∈bs++bs')∨Aq Ck (bs++bs') id=Ck id:=fun id=>by
  by_cases hx:∃bx,(id,bx)∈bs++bs'
  ·exact .inl hx
  ·exact .inr (hg2 id fun bx hb=>hx ⟨bx,hb⟩)
 have hold:∀id bx,Ck id=some bx->Cu (some bx)->Cu (s.hp id)∧id ∉ x∧(id∈lids∨(id ∉ lids∧Ad s.hp m id=some bx)):=by
  intro id bx hb hl;by_cases Bb:id∈lids
  ·exact⟨We id (.inl Bb),hlx id Bb,.inl Bb⟩
  ·rw[hpK id Bb,Fp] at hb;split at hb
   ·cases hq:Ad s.hp m id with
    |none=>rw[hq] at hb;cases hb
    |some b=>rw[hq] at hb;simp at hb;subst hb;exact hl.elim
   ·rename_i hxn;exact⟨by rw[Is hb hl];exact hl,hxn,.inr ⟨Bb,hb⟩⟩
 have Va:∀i bx,(i,bx)∈bs++bs'->∃j,β1 i=own j∧((i=o.dst.getD N+N*j∧j<Jd rv)∨((i,j)∈qs∧Jd rv<=j)):=by
  intro i bx hm;rcases List.mem_append.1 hm with hm|hm
  ·obtain⟨⟨j,rfl,hj⟩,_⟩:=hba i bx hm;exact⟨j,by rw[hβbs j ⟨bx,hm⟩,Nat.zero_add],.inl ⟨rfl,hj⟩⟩
  ·obtain⟨j,hj⟩:=Bjy i bx hm;exact⟨j,hβqs _ hj,.inr ⟨hj,(FQ _ hj).2⟩⟩
 have Ald:∀i bx,(i,bx)∈bs++bs'->Cu (some bx)∧Qv w' (Nn bt own Yc) β1 i bx∧∀cs,bx=.st cs->∀b ob,β1 i=some (b,ob)->w.heap.size<=b:=by
  intro i bx hm;rcases List.mem_append.1 hm with hm|hm
  ·exact (hba i bx hm).2
  ·obtain⟨cc,rfl⟩:=Fh i bx hm;exact⟨trivial,Bf7 i _ hm,fun cs e=>by cases e⟩
 have Anj:∀b,(∃i k o',bt i (k+1)=some (b,o'))->∃id o',id∈x∧β id=some (b,o'):=by
  rintro b ⟨i,k,o',hb⟩
  obtain⟨id,off,o1,h1,h2,_,_⟩:=btS hb;exact⟨id,o1,(hS.mvd i k id off h1).2,h2⟩
 have hX:∀b,b<w.heap.size->LX (Aq Ck (bs++bs')) β1 b->LX s.hp β b:=by
  rintro b hb ⟨id,ob,hl,hβ⟩
  rcases G2 id with⟨bx,hm⟩|e
  ·obtain⟨j,hj,_⟩:=Va id bx hm;rw[hj] at hβ;obtain⟨id',o',h1,h2⟩:=Anj b ((out.fresh j b ob hβ).2 hb).1;exact⟨id',o',We id' (.inr h1),h2⟩
  ·rw[e] at hl;cases hq:Ck id with
   |none=>rw[hq] at hl;exact hl.elim
   |some bx=>
    rw[hq] at hl;exact⟨id,ob,(hold id bx hq hl).1,by rw[←hβold id (by rw[hq];simp)];exact hβ⟩
 have hAo:∀b,b<w.heap.size->Cs (Aq Ck (bs++bs')) β1 Y b->Cs s.hp β Y b:=fun b hb hA=>hA.imp (hX b hb) id
 have hAO:∀b,Cs (Aq Ck (bs++bs')) β1 Y b->Nn bt own Yc b:=by
  rintro b (⟨id,ob,hl,hβ⟩|hY)
  ·rcases G2 id with⟨bx,hm⟩|e
   ·obtain⟨j,hj,_⟩:=Va id bx hm;rw[hj] at hβ;exact .inl ⟨j,ob,hβ⟩
   ·rw[e] at hl;cases hq:Ck id with
    |none=>rw[hq] at hl;exact hl.elim
    |some bx=>
     rw[hq] at hl;rw[hβold id (by rw[hq];simp)] at hβ
     obtain⟨h1,h2,h3⟩:=hold id bx hq hl;rcases h3 with h3|⟨h3,h4⟩
     ·obtain⟨_,i,off,hs⟩:=Abk id h3;exact .inr (.inl ⟨i,ob+off,by rw[Vd,hs];simp[F5,hβ]⟩)
     ·exact .inr (.inr ((hYc b).2 (.inl ⟨id,ob,by rw[h4];exact hl,hβ,h3,h2⟩)))
  ·exact .inr (.inr ((hYc b).2 (.inr hY)))
 have Lx:Bw (Cs s.hp β Y) w w':=out.ext.weaken (fun b _ hb=>.inl (hBA b hb))
 have Ajn:∀i,s.hp i≠none->β1 i=β i:=fun i hi=>hβold i (Dy i hi)
 have hCL:∀b j,CF bt vs b j->∃id o' bx,s.hp id=some bx∧Cu (some bx)∧β id=some (b,o')∧BR bx o' j:=by
  rintro b j ⟨i,p,hp,⟨k,ob,hb,Z0⟩|⟨ob,ps,hb,Z0,BJ⟩⟩
  ·obtain⟨id,off,o',h1,h2,h3,_⟩:=btS hb;obtain⟨h5,h6⟩:=hS.mvd i k id off h1;obtain⟨cc,hcc⟩:=hx id h6;exact⟨id,o',_,hcc,trivial,h2,show o'<=j by omega⟩
  ·obtain⟨id,off,o',h1,h2,h3,_⟩:=btS hb;rcases Afk hL i p id off hp (by rw[Nat.zero_add];exact h1) with⟨c1,wz,h5,h6,h7⟩|⟨⟨c1,h5⟩,_⟩
   ·rcases BJ with⟨h8,h9⟩|h8
    ·rw[h6] at h8;cases h8;exact⟨id,o',_,h5,trivial,h2,show o'<=j∧j<o'+c1.length by omega⟩
    ·rw[h6] at h8;cases h8
   ·exact⟨id,o',_,h5,trivial,h2,show o'<=j by omega⟩
 have hnL:∀id off cts wz,Gc.var id off cts wz∈l->id∈lids->∀b ob,β id=some (b,ob)->∀j,(j<off∨off+wz.length<=j)->(∃c1,s.hp id=some (.st c1))->¬CF bt vs b (ob+j):=by
  rintro id off cts wz hy Bb b ob hβ j hj ⟨c1,Z9⟩ ⟨i,p,hp,⟨k,ob',hb,Z0⟩|⟨ob',ps,hb,Z0,BJ⟩⟩
  ·obtain⟨id',off',o',h1,h2,h3,h4⟩:=btS hb;have:=h.inj id id' b ob o' (We id (.inl Bb)) (We id' h4) hβ h2;subst this;exact hlx id Bb (hS.mvd i k id off' h1).2
  ·obtain⟨id',off',o',h1,h2,h3,h4⟩:=btS hb;have:=h.inj id id' b ob o' (We id (.inl Bb)) (We id' h4) hβ h2;subst this;rw[hβ] at h2;cases h2;obtain⟨k,Dw,Ex⟩:=PM hL hy;rw[Nat.zero_add] at Ex;have hik:=hS.inj0 CZ i k id off' off h1 Ex;subst hik;rw[h1] at Ex;cases Ex;rw[hp] at Dw;cases Dw;rcases BJ with⟨h8,h9⟩|h8
   ·cases h8;omega
   ·cases h8
 have hval:D6 w' (Cs (Aq Ck (bs++bs')) β1 Y) β1 (Nf ws (Nw P o.type)) (Eo us):=by
  have L7:Ba (Hf w' (Cs (Aq Ck (bs++bs')) β1 Y) β1) ws us:=Fq.mono fun v u hvu=>hvu.step (Bw.refl _ _) (fun b _=>hAO b) (fun _ _=>rfl)
  have Em:=L7.len;cases hT:Nw P o.type
  ·rw[hT] at Pp;have h1:ws.length=1:=Nat.eq_of_beq_eq_true Pp
   match ws,us,h1,Em with
   |[v],[u],_,_=>
    exact (N9 (SU v (by simp))).2 L7.1
  ·rw[hT] at Pp
   have h1:¬ws.length=1:=by
    intro e;rw[e] at Pp;cases Pp
   have hr:Eo us=.tuple ⟨us⟩:=by
    unfold Eo;split
    ·simp at Em;omega
    ·rfl
   rw[hr];exact⟨us,rfl,L7⟩
 have hvr:∀i∈Bo (Nf ws (Nw P o.type)),∃bx,(i,bx)∈bs:=by
  intro i hi;cases hT:Nw P o.type
  ·rw[hT] at Pp hi;have h1:ws.length=1:=Nat.eq_of_beq_eq_true Pp
   match ws,h1 with
   |[v],_=>
    refine hrs v (by simp) i ?_
    have:Bo v=B4 v:=by
     have hn:=SU v (by simp)
     cases v<;>first|rfl|exact absurd rfl (hn _)
    rw[←this];exact hi
  ·rw[hT] at hi;obtain⟨v,hv,hi⟩:=List.mem_flatMap.1 (show i∈ws.flatMap B4 from hi)
   exact hrs v hv i hi
 refine hn _ w' β1 ?_;refine⟨by rw[Q4];exact h.dfr,by rw[Xk];exact h.tsz,LV YQ h.tmo,?_,?_,?_,?_,?_,?_,?_,?_,?_,?_,?_,h.Ylt,?_⟩
 ·refine N2 (Q:=fun _ p u=>D6 w' (Cs (Aq Ck (bs++bs')) β1 Y) β1 p u) h.tsz YQ (fun i hi=>?_) (fun _=>hval)
  exact (h.tms i hi).step Lx hAo fun id Bb=>Ajn id (h.wfT i hi id Bb)
 ·intro id bx hb;simp only at hb;rcases G2 id with⟨bx',Mj⟩|e
  ·rw[hg1 id bx' Mj] at hb;cases hb;exact (Ald id _ Mj).2.1.step' hAO
  ·rw[e] at hb;have hβ:=hβold id (by rw[hb];simp)
   by_cases Bb:id∈lids
   ·obtain⟨y,hy,hyi⟩:=Al2 id Bb;have h1:=A1q y hy;cases y with
    |var id' off cts wz=>
     simp only[Gc.ids,List.mem_singleton] at hyi;subst hyi;obtain⟨c1,cs,h2,h3,h4,h5,h6⟩:=h1;rw[XI id Bb] at h2;rw[h3] at hb;cases hb;obtain⟨b,ob,h7,h8,h9⟩:=h.box id _ h2;obtain⟨h10,h11⟩:=h6 b ob h7;have Bp:=h.blt id b ob (by rw[h2];simp) h7
     have Zv:∀j,(j<off∨off+wz.length<=j)->w'.cell? ⟨b,ob+j,none⟩=w.cell? ⟨b,ob+j,none⟩∧w'.frozen? ⟨b,ob+j,none⟩=w.frozen? ⟨b,ob+j,none⟩:=
      fun j hj=>out.rng b (ob+j) Bp (hnL id off cts wz hy Bb b ob h7 j hj ⟨c1,h2⟩)
     refine⟨b,ob,hβ.trans h7,fun j p hj=>?_,fun j hj=>?_⟩
     ·rcases Qo (by omega) hj with⟨h12,h13,h14⟩|⟨h12,h14⟩
      ·obtain⟨v,hv,ME⟩:=h10 _ _ h14;refine⟨v,?_,ME.step (Bw.refl _ _) (fun b _=>hAO b) (fun _ _=>rfl)⟩
       rw[show ob+j=ob+off+(j-off) by omega]
       exact hv
      ·obtain⟨v,hv,ME⟩:=h8 _ _ h14;refine⟨v,by rw[(Zv j (by omega)).1];exact hv,ME.step Lx hAo fun i hi=>Ajn i (h.wfB id c1 h2 p (List.mem_of_getElem? h14) i hi)⟩
     ·rw[Rl (by omega)] at hj
      by_cases U0:off<=j∧j<off+cs.length
      ·have:=h11 (j-off) (by omega)
       rw[show ob+off+(j-off)=ob+j by omega] at this
       exact this
      ·rw[(Zv j (by omega)).2]
       exact h9 j hj
    |row id'=>
     simp only[Gc.ids,List.mem_singleton] at hyi;subst hyi;obtain⟨cs,h3,h4⟩:=h1;rw[h3] at hb;cases hb;rcases h4 with⟨h5,h6⟩|⟨b,ob,h5,h6,h7⟩
     ·exact .inl ⟨hβ.trans h5,h6⟩
     ·exact .inr ⟨b,ob,hβ.trans h5,h6.weak (fun b _=>hAO b),fun _=>h7,(fun q=>by cases q)⟩
    |none=>simp[Gc.ids] at hyi
   ·rw[hpK id Bb,Fp] at hb;split at hb
    ·cases hq:Ad s.hp m id with
     |none=>rw[hq] at hb;cases hb
     |some b0=>rw[hq] at hb;simp at hb;subst hb;trivial
    ·rename_i hxn;have Lm:=hf.box id bx hb
     have Ab5:∀b ob,β id=some (b,ob)->bx ≠ .mv->b<w.heap.size∧w'.heap[b]?=w.heap[b]?:=by
      intro b ob PI hmv;have Bp:=hf.blt id b ob (by show Ad s.hp m id≠none;rw[hb];simp) PI
      refine⟨Bp,out.ext.keep b Bp fun hB=>?_⟩
      obtain⟨id',o',h1,h2⟩:=btX hB;have Jt:Cu (Ad s.hp m id'):=by rw[JB id' h2];exact We id' h2
      have QD:id≠id':=by
       rintro rfl
       rcases h2 with h2|h2
       ·exact Bb h2
       ·exact hxn h2
      cases bx with
      |st cc=>exact QD (hf.inj id id' b ob o' (by show Cu (Ad s.hp m id);rw[hb];trivial) Jt PI h1)
      |ar fz cc=>
       cases fz with
       |false=>exact QD (hf.inj id id' b ob o' (by show Cu (Ad s.hp m id);rw[hb];trivial) Jt PI h1)
       |true=>
        rcases Lm with⟨h3,_⟩|⟨b2,o2,h3,_,_,h4⟩
        ·rw[PI] at h3;cases h3
        ·rw[PI] at h3;cases h3;exact h4 rfl (.inl ⟨id',o',Jt,h1⟩)
      |mv=>exact hmv rfl
     have hAoF:∀b,b<w.heap.size->Cs (Aq Ck (bs++bs')) β1 Y b->Cs (Ad s.hp m) β Y b:=by
      intro b Fh hA;rcases hA with⟨i,ob,hl,hβi⟩|hY
      ·rcases G2 i with⟨bx1,GL⟩|e1
       ·obtain⟨j,hj,_⟩:=Va i bx1 GL;rw[hj] at hβi;obtain⟨id',o',h1,h2⟩:=Anj b ((out.fresh j b ob hβi).2 Fh).1;exact .inl ⟨id',o',by rw[JB id' (.inr h1)];exact We id' (.inr h1),h2⟩
       ·rw[e1] at hl;cases hq:Ck i with
        |none=>rw[hq] at hl;exact hl.elim
        |some bx1=>
         rw[hq] at hl;rw[hβold i (by rw[hq];simp)] at hβi
         obtain⟨h1,h2,h3⟩:=hold i bx1 hq hl;rcases h3 with h3|⟨h3,h4⟩
         ·exact .inl ⟨i,ob,by rw[JB i (.inl h3)];exact h1,hβi⟩
         ·exact .inl ⟨i,ob,by rw[h4];exact hl,hβi⟩
      ·exact .inr hY
     have A6a:Bw (Cs (Ad s.hp m) β Y) w w':=out.ext.weaken (fun b _ hB=>by
      obtain⟨id',o',h1,h2⟩:=btX hB;exact .inl ⟨id',o',by rw[JB id' h2];exact We id' h2,h1⟩)
     cases bx with
     |st cc=>
      obtain⟨b,ob,h1,h2,h3⟩:=Lm;obtain⟨Bp,Vq⟩:=Ab5 b ob h1 (by simp)
      refine⟨b,ob,hβ.trans h1,fun j p hj=>?_,fun j hj=>?_⟩
      ·obtain⟨v,hv,ME⟩:=h2 j p hj;refine⟨v,by rw[World.cell?_of_block (w:=w) Vq];exact hv,ME.step A6a hAoF fun i hi=>?_⟩
       refine Ajn i (fun e1=>?_)
       exact hf.wfB id cc hb p (List.mem_of_getElem? hj) i hi (Dq.2 e1)
      ·rw[World.frozen?_of_block (w:=w) Vq];exact h3 j hj
     |ar fz cc=>
      rcases Lm with⟨h1,h2⟩|⟨b,ob,h1,h2,h3,h4⟩
      ·exact .inl ⟨hβ.trans h1,h2⟩
      ·obtain⟨Bp,Vq⟩:=Ab5 b ob h1 (by simp)
       have Z8:bsz w' b=bsz w b:=by unfold bsz;rw[Vq]
       refine .inr ⟨b,ob,hβ.trans h1,fun j p hj=>?_,fun e1 j hj Nk=>?_,fun e1 q=>h4 e1 (hAoF b Bp q)⟩
       ·obtain⟨v,hv,h5,Z9⟩:=h2 j p hj;exact⟨v,by rw[World.cell?_of_block (w:=w) (by rw[E4];exact Vq)];exact hv,h5,Z9.step A6a hAoF⟩
       ·rw[World.frozen?_of_block (w:=w) Vq];exact h3 e1 j hj (by rw[←Z8];exact Nk)
     |mv=>trivial
 ·intro id id' b ob ob' hl Jt hb Hh;simp only at hl Jt
  have mixed:∀i bx i' k z,(i,bx)∈bs++bs'->β1 i=some (k,z)->Ck i'≠none->Cu (Ck i')->∀z',β1 i'=some (k,z')->False:=by
   intro i bx i' k z GL hz CR CI z' hz';obtain⟨j,hj,_⟩:=Va i bx GL;rw[hj] at hz;rw[hβold i' CR] at hz';cases hq:Ck i' with
   |none=>exact CR hq
   |some bx1=>
    rw[hq] at CI;obtain⟨h1,h2,h3⟩:=hold i' bx1 hq CI;have Bp:=h.blt i' k z' (Cl h1) hz';obtain⟨id2,o2,h4,h5⟩:=Anj k ((out.fresh j k z hz).2 Bp).1;have:=h.inj i' id2 k z' o2 h1 (We id2 (.inr h4)) hz' h5;subst this;exact h2 h4
  rcases G2 id with⟨bx,GL⟩|e1
  ·rcases G2 id' with⟨bx',hm2⟩|e2
   ·obtain⟨j,hj,BJ⟩:=Va id bx GL;obtain⟨j',Nk,Ax0⟩:=Va id' bx' hm2;rw[hj] at hb;rw[Nk] at Hh;have:=out.inj j j' b ob ob' hb Hh;subst this;rcases BJ with⟨h1,h2⟩|⟨h1,h2⟩
    ·rcases Ax0 with⟨h3,_⟩|⟨_,h4⟩
     ·rw[h1,h3]
     ·omega
    ·rcases Ax0 with⟨_,h4⟩|⟨h3,_⟩
     ·omega
     ·exact AO _ h1 _ h3 rfl
   ·rw[e2] at Jt;exact (mixed id bx id' b ob GL hb (Cl Jt) Jt ob' Hh).elim
  ·rw[e1] at hl;rcases G2 id' with⟨bx',hm2⟩|e2
   ·exact (mixed id' bx' id b ob' hm2 Hh (Cl hl) hl ob hb).elim
   ·rw[e2] at Jt
    have g:∀i,Cu (Ck i)->Cu (s.hp i)∧β1 i=β i:=by
     intro i hli;cases hq:Ck i with
     |none=>rw[hq] at hli;exact hli.elim
     |some bx1=>exact⟨(hold i bx1 hq (by rw[←hq];exact hli)).1,hβold i (by rw[hq];simp)⟩
    rw[(g id hl).2] at hb;rw[(g id' Jt).2] at Hh;exact h.inj id id' b ob ob' (g id hl).1 (g id' Jt).1 hb Hh
 ·intro id b ob CR hb;simp only at CR;rcases G2 id with⟨bx,GL⟩|e1
  ·obtain⟨j,hj,_⟩:=Va id bx GL;rw[hj] at hb;exact (out.fresh j b ob hb).1
  ·rw[e1] at CR;rw[hβold id CR] at hb
   have RX:s.hp id≠none:=by
    by_cases Bb:id∈lids
    ·exact Cl (We id (.inl Bb))
    ·rw[hpK id Bb,Fp] at CR;intro e2;have h1:Ad s.hp m id=none:=Dq.2 e2;rw[h1] at CR;split at CR<;>exact CR rfl
   exact Nat.lt_of_lt_of_le (h.blt id b ob RX hb) out.ext.size
 ·have:=N2 (Q:=fun _ p _=>∀id∈Bo p,Aq Ck (bs++bs') id≠none) (val:=Eo us) (d:=o.dst) (v:=Nf ws (Nw P o.type)) h.tsz YQ (fun i hi id Bb=>Ajt id (.inl (h.wfT i hi id Bb))) (fun _ id Bb=>Ajt id (.inr (by
   obtain⟨bx,hb⟩:=hvr id Bb;exact⟨bx,List.mem_append.2 (.inl hb)⟩)))
  exact this
 ·intro id cells LG p hp i hi;simp only at LG;refine Ajt i ?_;rcases G2 id with⟨bx,GL⟩|e1
  ·rw[hg1 id bx GL] at LG;cases LG;rcases List.mem_append.1 GL with GL|GL
   ·obtain⟨bx1,hb⟩:=TH id cells GL p hp i hi;exact .inr ⟨bx1,List.mem_append.2 (.inl hb)⟩
   ·obtain⟨cc,e2⟩:=Fh id _ GL;cases e2
  ·rw[e1] at LG;by_cases Bb:id∈lids
   ·rcases Aii id Bb with⟨off,c1,cs,h1,h2,h3,h4⟩|⟨c1,cs,h1,h2⟩
    ·rw[h2] at LG;cases LG;unfold Bl at hp;rcases List.mem_append.1 hp with hp|hp
     ·rcases List.mem_append.1 hp with hp|hp
      ·exact .inl (h.wfB id c1 h1 p (List.mem_of_mem_take hp) i hi)
      ·obtain⟨bx1,hb⟩:=h4 p hp i hi;exact .inr ⟨bx1,List.mem_append.2 (.inr hb)⟩
     ·exact .inl (h.wfB id c1 h1 p (List.mem_of_mem_drop hp) i hi)
    ·rw[h2] at LG;cases LG
   ·obtain⟨_,_,h3⟩:=hold id _ LG trivial;rcases h3 with h3|⟨_,h3⟩
    ·exact absurd h3 Bb
    ·exact .inl (h.wfB id cells (Is h3 trivial) p hp i hi)
 ·rintro b ⟨id,ob,hl,hβ⟩
  rcases Nat.lt_or_ge b w.heap.size with Bp|hge
  ·exact h.ownd b (hX b Bp ⟨id,ob,hl,hβ⟩)
  ·exact .inr (Nat.le_trans h.fr.step.size hge)
 ·intro id bx b ob hb hl hβ Bp j hj;simp only at hb;have hlw:=Nat.lt_of_lt_of_le Bp h.fr.step.size;rcases G2 id with⟨bx',GL⟩|e1
  ·rw[hg1 id bx' GL] at hb;cases hb;obtain⟨k,hk,_⟩:=Va id bx GL;rw[hk] at hβ
   have Z0:ob<=j:=by
    cases bx with
    |st cc=>exact hj.1
    |ar fz cc=>exact hj
    |mv=>exact hl.elim
   obtain⟨id2,o2,bx2,h1,h2,h3,h4⟩:=hCL b j (((out.fresh k b ob hβ).2 hlw).2 j Z0);exact h.rngB id2 bx2 b o2 h1 h2 h3 Bp j h4
  ·rw[e1] at hb;rw[hβold id (by rw[hb];simp)] at hβ
   obtain⟨h1,h2,h3⟩:=hold id bx hb hl;rcases h3 with h3|⟨h3,h4⟩
   ·rcases Aii id h3 with⟨off,c1,cs,h5,h6,h7,_⟩|⟨c1,cs,h5,h6⟩
    ·rw[h6] at hb;cases hb;have hj:ob<=j∧j<ob+(Bl c1 cs off).length:=hj;rw[Rl (by omega)] at hj
     exact h.rngB id _ b ob h5 trivial hβ Bp j hj
    ·rw[h6] at hb;cases hb;exact h.rngB id _ b ob h5 trivial hβ Bp j hj
   ·exact h.rngB id bx b ob (Is h4 hl) hl hβ Bp j hj
 ·intro i hi;obtain⟨h1,h2⟩:=h.pin i hi;exact⟨Ajt _ (.inl h1),by rw[Ajn _ h1];exact h2⟩
 ·intro id cc b ob hb hβ Bp;simp only at hb;have hlw:=Nat.lt_of_lt_of_le Bp h.fr.step.size;rcases G2 id with⟨bx',GL⟩|e1
  ·rw[hg1 id bx' GL] at hb;cases hb;have:=(Ald id _ GL).2.2 cc rfl b ob hβ;omega
  ·rw[e1] at hb;rw[hβold id (by rw[hb];simp)] at hβ
   obtain⟨h1,h2,h3⟩:=hold id _ hb trivial;rcases h3 with h3|⟨h3,h4⟩
   ·rcases Aii id h3 with⟨off,c1,cs,h5,h6,h7,_⟩|⟨c1,cs,h5,h6⟩
    ·exact h.stp id c1 b ob h5 hβ Bp
    ·rw[h6] at hb;cases hb
   ·exact h.stp id cc b ob (Is h4 trivial) hβ Bp
 ·intro b hY hXb;exact h.Yx b hY (hX b (Nat.lt_of_lt_of_le (h.Ylt b hY) h.fr.step.size) hXb)
 ·refine⟨out.os.trans h.fr.os,out.tape.trans h.fr.tape,out.output.trans h.fr.output,⟨Nat.le_trans h.fr.step.size out.ext.size,fun b hb hnX=>?_,fun b hb=>(h.fr.step.bs b hb).trans (out.ext.bs b (Nat.lt_of_lt_of_le hb h.fr.step.size))⟩,fun b j hb hnL=>?_⟩
  ·rw[out.ext.keep b (Nat.lt_of_lt_of_le hb h.fr.step.size) ?_]
   ·exact h.fr.step.keep b hb hnX
   ·intro hB;rcases h.ownd b (hBA b hB) with hq|hq
    ·exact hnX hq
    ·omega
  ·have QD:¬CF bt vs b j:=by
    intro hq;obtain⟨id2,o2,bx2,h1,h2,h3,h4⟩:=hCL b j hq;exact hnL (h.rngB id2 bx2 b o2 h1 h2 h3 hb j h4)
   obtain⟨h1,h2⟩:=out.rng b j (Nat.lt_of_lt_of_le hb h.fr.step.size) QD;rw[h1,h2];exact h.fr.rng b j hb hnL
end
open Go.RowKit
section
variable {R:Type} {r:R} {P:Program} {N:Nat} {w0:World} {X0:Hm} {Y:Nat->Prop} {β β':Bt} {s:St} {a:Act} {w w':World} {o:Oper} {A:Nat->Prop}
theorem MQ (h:Cj N w0 X0 Y β s a w){c:Call}(ho:o.op=.call c)(hc:c.callee=.builtin .append){d:Nat}(YQ:o.dst=some d){b x:Operand}(Eg:c.args.toList=[b,x]) {t tx:TypeId}{ts:List TypeId}(AX:c.argTypes.toList=t::tx::ts)
  {K:St->Option R} (hk:Oo P N s d t tx (Bu s.tm b) (Bu s.tm x) K=some r):
  ∃s',K s'=some r∧∀(next:Act->World->Prop) (Q:Exit->Act->World->Prop),(∀a' w' β',Cj N w0 X0 Y β' s' a' w'->next a' w')->o.wp P a w next Q:=by
 have DD:c.args = #[b,x]:=by
  have:c.args=([b,x]:List Operand).toArray:=by rw[←Eg]
  exact this
 have QJ:c.argTypes=(t::tx::ts).toArray:=by rw[←AX]
 have run:∀{v:Value} {w1:World},(Builtin.append_ (t::tx::ts).toArray o.type #[a.eval b,a.eval x]).run P w=.ok v w1->∀(next:Act->World->Prop) (Q:Exit->Act->World->Prop),next (a.put (some d) v) w1->o.wp P a w next Q:=by
  intro v w1 hr next Q hn;unfold Oper.wp execOp;rw[ho];simp only[resolve,hc,invoke,builtin,Sem.run_bind,Sem.run_pure,Result.andThen_ok,DD,QJ];have:(#[b,x]:Array Operand).map a.eval = #[a.eval b,a.eval x]:=by simp
  rw[this,hr];show next (a.put o.dst v) w1;rw[YQ];exact hn
 have hbv:=Co h b;have NE:=Ep h b;unfold Oo at hk;split at hk
 ·rename_i e hu;obtain⟨hzi,hk⟩:=Aj hk;obtain⟨i,z,hi,hz,Nt,L8⟩:=EU hzi;cases hit:Xa P tx
  rotate_left
  ·rw[hit] at hk;simp only[cond_true] at hk
   obtain⟨ki,YR⟩:∃k,P.underlying tx=some (.int k):=by
    unfold Xa at hit;split at hit
    ·exact⟨_,by assumption⟩
    ·cases hit
   unfold R9 at hk;obtain⟨kx,n,hx,hk⟩:=C2 hk;obtain⟨zz,n',c',hk,hp⟩:=E6 hk;obtain⟨hb,hk⟩:=Aj hk;simp only[Bool.and_eq_true,decide_eq_true_eq] at hb;obtain⟨⟨⟨⟨⟨hzz,hdN⟩,Vz⟩,MZ⟩,hby⟩,Hk⟩:=hb;have hdN:d<N:=Nat.lt_of_succ_le (Nat.le_of_ble_eq_true hdN);have Vz:s.hp d=none:=by simpa using Vz
   have UY:F0 N (some d)=true:=by simp[F0,Nat.blt];omega
   have Sx:((P.info? e).map (·.bytes)).getD 0=i.bytes:=by rw[hi];rfl
   rw[Sx] at hby;rw[L8] at hk;have Cx:=B1 h hx;rcases F1 hp hbv with⟨O1,_⟩|⟨_,_,_,CH,_⟩|⟨_,_,_,CH,_⟩
   ·refine⟨_,hk,fun next Q hn=>?_⟩
    by_cases hm0:n=0
    ·subst hm0;have hr:=Y4 (P:=P) (w:=w) (t:=t) (tx:=tx) (ty:=o.type) (ts:=ts) (kx:=kx) hu YR hi;rw[←O1,←Cx] at hr;refine run hr next Q (hn _ _ (Cb β d none) ?_);rw[O1];refine h.stepR (d:=some d) (nw:=[(d,.ar false [])]) (β':=Cb β d none) UY (by simp[Bn,Vz]) ⟨rfl,rfl,rfl,Bw.refl _ _,fun j hj=>Ah _ _ (by rintro rfl;exact hj Vz),?_,?_,?_,?_,?_,.inl ⟨Al _ _ _,rfl,rfl,none,rfl⟩,?_⟩
     ·intro j bx hm;simp at hm;rw[hm.2];trivial
     ·intro j bx hm;simp at hm;obtain⟨rfl,rfl⟩:=hm;exact .inl ⟨Al _ _ _,rfl⟩
     ·intro j bx k q hm hq;simp at hm;obtain⟨rfl,rfl⟩:=hm;rw[Al] at hq;cases hq
     ·intro j bx j' bx' k q q' hm Mj _ _;simp at hm Mj;rw[hm.1,Mj.1]
     ·intro j cells hm;simp at hm
     ·intro j hj;simp[Bo,B4,Ao] at hj;subst hj;exact .inr ⟨.ar false [],by simp⟩
    ·have hr:=AW (P:=P) (w:=w) (t:=t) (tx:=tx) (ty:=o.type) (ts:=ts) (kx:=kx) hu YR hi hz (n:=n) (by omega) hby Hk
     rw[←O1,←Cx] at hr;refine run hr next Q (hn _ _ (Cb β d (some (w.heap.size,0))) ?_);have hge:n.toNat<=grownCap w n.toNat 0 e:=grownCap_ge w n.toNat 0 e;generalize Te:((if n.toNat*i.size=0 then #[] else Builtin.zeroCells z.cells n.toNat)++Builtin.zeroCells z.cells (grownCap w n.toNat 0 e-n.toNat))=cs
     have U9:Dl w (w.drew.alloc (.cells cs e)) cs e:=
      ⟨rfl,rfl,rfl,fun k hk=>Below.heap_alloc w.drew _ k hk,by show (w.heap.push _).size=_;simp,(0,0),by show (w.heap.push _)[w.heap.size]?=_;simp,.inl rfl⟩
     have UZ:cs.size=grownCap w n.toNat 0 e*i.size:=by
      rw[←Te];by_cases RZ:n.toNat*i.size=0
      ·rw[if_pos RZ]
       have T0:i.size=0:=by
        rcases Nat.mul_eq_zero.1 RZ with h|h
        ·omega
        ·exact h
       simp[size_zeroCells,Nt,T0]
      ·rw[if_neg RZ];simp only[Array.size_append,size_zeroCells,Nt,←Nat.add_mul]
       congr 1
       omega
     refine h.stepR (d:=some d) (nw:=[(d,.ar false [])]) UY (by simp[Bn,Vz]) (Qd U9 Vz trivial ?_ (fun cells hx=>by cases hx) ?_ (by intro j hj;simp[Bo,B4,Ao] at hj;exact .inr hj))
     ·refine .inr ⟨w.heap.size,0,Al _ _ _,fun j p hj=>by simp at hj,fun _ j _ hj=>?_,(fun q=>by cases q)⟩
      rw[U9.bsz] at hj;exact U9.frozen hj
     ·refine .inr ⟨w.heap.size,0,0,grownCap w n.toNat 0 e,Al _ _ _,rfl,.inl rfl,hge,?_,by rw[U9.size];omega⟩
      exact⟨by rw[U9.bsz,UZ];omega,.inr (Kh w.drew _ e)⟩
   ·rw[CH] at hzz;cases hzz
   ·rw[CH] at hzz;cases hzz
  rw[hit] at hk;simp only[cond_false] at hk;have Sx:((P.info? e).map (·.bytes)).getD 0=i.bytes:=by rw[hi];rfl
  obtain⟨⟨dx,hdx,OL⟩,m,new,news,hk,hs⟩:=ET h hk (by
   intro m new hk;split at hk
   ·split at hk
    ·obtain⟨hb,_⟩:=Aj hk;simp only[Bool.and_eq_true,decide_eq_true_eq] at hb;have he:=Nat.eq_of_beq_eq_true hb.1.1.1.1.1.1.1;rw[←he];exact hb.1.1.2
    ·cases hk
   ·obtain⟨zz,n',c',hk,_⟩:=E6 hk;obtain⟨hb,_⟩:=Aj hk;simp only[Bool.and_eq_true,decide_eq_true_eq] at hb;exact hb.1.1.2)
  rw[L8] at hs;have CZ:new.length=news.length:=hs.rep.len;split at hk
  ·rename_i id es off n eb;rw[eb] at hbv NE;split at hk
   ·rename_i cc h0;obtain⟨hb,Ex⟩:=Aj hk;simp only[Bool.and_eq_true,decide_eq_true_eq] at hb;obtain⟨⟨⟨⟨⟨⟨⟨Vy,Ou⟩,hdN⟩,Vz⟩,Bbj⟩,VP⟩,hby⟩,Hk⟩:=hb;have Vy:=Nat.eq_of_beq_eq_true Vy;have Ou:=Nat.eq_of_beq_eq_true Ou;have hdN:d<N:=Nat.lt_of_succ_le (Nat.le_of_ble_eq_true hdN);have Vz:s.hp d=none:=by simpa using Vz
    subst Ou;rw[L8] at Vy;subst Vy;rw[Sx] at hby;have Zr:news.length=m*i.size:=by omega
    have Byn:s.hp id≠none:=by rw[h0];simp
    have Aal:=h.box id _ h0;refine⟨_,Ex,fun next Q hn=>?_⟩
    have grow:∀(ad:Option Addr) (cap:Nat) (olds:List Value),a.eval b=.slice ad n cap->Ba (As w (Cs s.hp β Y)) (cc.take (n*i.size)) olds->(∀u∈olds,u.oneCell'=true)->olds.length=n*i.size ->
      ((ad=none∧olds=[])∨∃p,ad=some p∧olds.length=n*i.size∧∀(j:Nat) v,olds[j]?=some v->w.cell? (p.add j)=some v)->cap<n+m->o.wp P a w next Q:=by
     intro ad cap olds O1 holds h1 hol hold Uj;have hr:=append_grow_run (P:=P) (w:=w) (t:=t) (tx:=tx) (ty:=o.type) (ts:=ts) hu hdx OL hi hz hs hold Uj hby Hk;rw[←O1] at hr;refine run hr next Q (hn _ _ (Cb β d (some (w.heap.size,0))) ?_);have hge:n+m<=grownCap w (n+m) cap e:=grownCap_ge w (n+m) cap e
     have U9:Dl w (w.drew.alloc (.cells (olds.toArray++news.toArray++Builtin.zeroCells z.cells (grownCap w (n+m) cap e-(n+m))) e)) (olds.toArray++news.toArray++Builtin.zeroCells z.cells (grownCap w (n+m) cap e-(n+m))) e:=
      ⟨rfl,rfl,rfl,fun k hk=>Below.heap_alloc w.drew _ k hk,by show (w.heap.push _).size=_;simp,(0,0),by show (w.heap.push _)[w.heap.size]?=_;simp,.inl rfl⟩
     have UZ:(olds.toArray++news.toArray++Builtin.zeroCells z.cells (grownCap w (n+m) cap e-(n+m))).size=grownCap w (n+m) cap e*i.size:=by
      simp only[Array.size_append,List.size_toArray,size_zeroCells,Nt,hol,Zr,←Nat.add_mul]
      congr 1
      omega
     have MM:∀k y,some (w.heap.size,0)=some (k,y)->w.heap.size<=k∨∃q,β id=some (k,q):=by
      intro k y hh;simp at hh;exact .inl (by omega)
     refine h.move h0 Vz hdN rfl rfl rfl (by rw[U9.size];omega) (fun k hk _=>U9.old k hk) U9.step.bs (fun k y hh=>⟨by simp at hh;rw[U9.size];omega,MM k y hh⟩) (fun k y hh Bp=>by simp at hh;omega)
      (fun k y _ Bp j _=>⟨World.cell?_of_block (w:=w) (U9.old k Bp),World.frozen?_of_block (w:=w) (U9.old k Bp)⟩) ?_ ?_ (by intro j hj;simpa [Bo,B4,Ao] using hj)
     ·refine .inr ⟨w.heap.size,0,Al _ _ _,ER U9 (SZ h0 Vz MM) holds hs.rep h1 hs.one,fun _ j _ hj=>?_,(fun q=>by cases q)⟩
      rw[U9.bsz] at hj;exact U9.frozen hj
     ·refine .inr ⟨w.heap.size,0,0,grownCap w (n+m) cap e,Al _ _ _,rfl,.inl rfl,hge,?_,by rw[U9.size];omega⟩
      exact⟨by rw[U9.bsz,UZ];omega,.inr (Kh w.drew _ e)⟩
    rcases hbv with⟨hβ,_,rfl,ad,O1⟩|⟨bb,ob,y,cap,hβ,O1,hy,VZ,Uj,Aem⟩
    ·rcases Aal with⟨_,rfl⟩|⟨b',o',Fh,_⟩
     ·by_cases hm0:m=0
      ·subst hm0;have hr:=Lr (P:=P) (w:=w) (t:=t) (tx:=tx) (ty:=o.type) (ts:=ts) (ad:=ad) hu hdx OL hi hs (List.eq_nil_of_length_eq_zero (by omega))
       rw[←O1] at hr;have PK:new=[]:=List.eq_nil_of_length_eq_zero (by omega)
       subst PK;refine run hr next Q (hn _ _ (Cb β d none) ?_);rw[O1];refine h.move h0 Vz hdN rfl rfl rfl (Nat.le_refl _) (fun _ _ _=>rfl) (fun _ _=>Hw.refl _ _) (fun k q hh=>by cases hh) (fun k q hh=>by cases hh) (fun _ _ _ _ _ _=>⟨rfl,rfl⟩) ?_ ?_ (by intro j hj;simpa [Bo,B4,Ao] using hj)
       ·exact .inl ⟨Al _ _ _,by simp⟩
       ·exact .inl ⟨Al _ _ _,rfl,rfl,ad,rfl⟩
      ·exact grow ad 0 [] O1 (by simp[Ba]) (by simp) (by simp) (by cases ad with
        |none=>exact .inl ⟨rfl,rfl⟩
        |some p=>exact .inr ⟨p,rfl,by simp,fun j v hj=>by simp at hj⟩) (by omega)
     ·rw[hβ] at Fh;cases Fh
    ·rcases Aal with⟨Fh,_⟩|⟨b',o',Fh,Kw,LE,_⟩
     ·rw[hβ] at Fh;cases Fh
     rw[hβ] at Fh;simp at Fh;obtain⟨rfl,rfl⟩:=Fh;have hy:y=ob:=by rcases hy with hy|⟨_,hq⟩<;>omega
     subst hy;by_cases Lf:n+m<=cap
     ·have Aji:y+n*i.size+news.length<=bsz w bb:=by
       have h5:n*i.size+m*i.size<=cap*i.size:=by rw[←Nat.add_mul];exact Nat.mul_le_mul_right _ Lf
       have:=Uj.1;omega
      have hcell:∀k,k<news.length->(w.cell? ⟨bb,y+n*i.size+k,none⟩).isSome=true:=fun k hk=>F4 (by omega)
      have hr:=append_room_run (P:=P) (w:=w) (t:=t) (tx:=tx) (ty:=o.type) (ts:=ts) (b:=bb) (ob:=y) (n:=n) (cap:=cap) hu hdx OL hi hs Zr hcell (fun k hk=>LE rfl _ (by omega) (by omega)) Lf
      rw[←O1] at hr;have hw:=Bf.setCells bb news (y+n*i.size) w
      have MM:∀k q,some (bb,y)=some (k,q)->w.heap.size<=k∨∃q',β id=some (k,q'):=by
       intro k q hh;simp at hh;obtain⟨rfl,rfl⟩:=hh;exact .inr ⟨_,hβ⟩
      refine run hr next Q (hn _ _ (Cb β d (some (bb,y))) ?_)
      have Lx:Bw (Cs s.hp β Y) w (w.setCells bb (y+n*i.size) news):=by
       have hAb:Cs s.hp β Y bb:=.inl ⟨id,y,by rw[h0];trivial,hβ⟩
       exact⟨by rw[hw.size];exact Nat.le_refl _,fun k _ hk=>hw.other k (fun e=>hk (e ▸ hAb)),fun k _=>hw.grow k⟩
      refine h.move h0 Vz hdN hw.os hw.tape hw.output (by rw[hw.size];exact Nat.le_refl _) (fun k _ hq=>hw.other k (by rintro rfl;exact hq _ hβ)) Lx.bs (fun k q hh=>⟨by simp at hh;rw[hw.size];omega,MM k q hh⟩) (fun k q hh _=>by rw[hβ];exact hh)
       (fun k q hh _ j hj=>by
        rw[hβ] at hh;cases hh;exact⟨World.cell?_setCells_out bb _ _ w ⟨bb,j,none⟩ (fun _ _=>by show j<y+n*i.size∨y+n*i.size+_<=j;omega),hw.frz j⟩) ?_ ?_ (by intro j hj;simpa [Bo,B4,Ao] using hj)
      ·refine .inr ⟨bb,y,Al _ _ _,fun j p hj=>?_,fun _ j hj Nk=>?_,(fun q=>by cases q)⟩
       ·rw[B8];by_cases hjn:j<n*i.size
        ·rw[List.getElem?_append_left (by rw[List.length_take];omega),List.getElem?_take_of_lt hjn] at hj
         obtain⟨u,I1,h5,ht⟩:=Kw j p hj;rw[B8] at I1;refine⟨u,?_,h5,ht.step Lx (SZ h0 Vz MM)⟩;rw[World.cell?_setCells_out bb _ _ w ⟨bb,y+j,none⟩ (fun _ _=>by show y+j<y+n*i.size∨y+n*i.size+_<=y+j;omega)]
         exact I1
        ·rw[List.getElem?_append_right (by rw[List.length_take];omega),List.length_take,Nat.min_eq_left Bbj] at hj
         obtain⟨u,I1,ht⟩:=hs.rep.get hj
         have Bp:j-n*i.size<news.length:=by
          rcases Nat.lt_or_ge (j-n*i.size) news.length with h|h
          ·exact h
          ·rw[List.getElem?_eq_none h] at I1;cases I1
         refine⟨u,?_,hs.one u (List.mem_of_getElem? I1),ht.step Lx (SZ h0 Vz MM)⟩;have:=World.cell?_setCells_in bb news (y+n*i.size) w hcell (j-n*i.size) Bp;rw[show y+j=y+n*i.size+(j-n*i.size) from by omega,this]
         rw[List.getElem?_eq_getElem Bp] at I1;exact I1
       ·rw[hw.bs] at Nk;rw[hw.frz];exact LE rfl j hj Nk
      ·exact .inr ⟨bb,y,y,cap,Al _ _ _,rfl,.inl rfl,Lf,Uj.step (hw.grow bb),by rw[hw.size];exact Aem⟩
     ·-- the old cells
      have hob:∀(j:Nat) p,(cc.take (n*i.size))[j]?=some p->∃v,w.cell? ⟨bb,y+j,none⟩=some v∧v.oneCell'=true∧As w (Cs s.hp β Y) p v:=by
       intro j p hj;rw[List.getElem?_take] at hj;split at hj
       ·obtain⟨v,hv,h5,ht⟩:=Kw j p hj;rw[B8] at hv;exact⟨v,hv,h5,ht⟩
       ·cases hj
      have Em:(cc.take (n*i.size)).length=n*i.size:=by rw[List.length_take];omega
      refine grow _ cap ((cc.take (n*i.size)).mapIdx fun j _=>(w.cell? ⟨bb,y+j,none⟩).getD undef) O1 ?_ ?_ (by simp only[List.length_mapIdx];exact Em) (.inr ⟨_,rfl,by simp only[List.length_mapIdx];exact Em,fun j v hj=>?_⟩) (by omega)
      ·refine Ba.of_at (by simp) fun j p v hp hv=>?_
       obtain⟨u,I1,_,ht⟩:=hob j p hp;rw[List.getElem?_mapIdx,hp,Option.map_some,I1] at hv;simp at hv;subst hv;exact ht
      ·intro v hv;obtain⟨j,hj⟩:=List.mem_iff_getElem?.1 hv;rw[List.getElem?_mapIdx] at hj;cases hp:(cc.take (n*i.size))[j]? with
       |none=>rw[hp] at hj;cases hj
       |some p=>
        obtain⟨u,I1,h5,_⟩:=hob j p hp;rw[hp,Option.map_some,I1] at hj;simp at hj;subst hj;exact h5
      ·rw[List.getElem?_mapIdx] at hj;cases hp:(cc.take (n*i.size))[j]? with
       |none=>rw[hp] at hj;cases hj
       |some p=>
        obtain⟨u,I1,h5,_⟩:=hob j p hp;rw[hp,Option.map_some,I1] at hj;simp at hj;subst hj;rw[B8];exact I1
   ·cases hk
  ·obtain⟨zz,n',c',hk,hp⟩:=E6 hk;obtain⟨hb,hk⟩:=Aj hk;simp only[Bool.and_eq_true,decide_eq_true_eq] at hb;obtain⟨⟨⟨⟨⟨hzz,hdN⟩,Vz⟩,VP⟩,hby⟩,Hk⟩:=hb;have hdN:d<N:=Nat.lt_of_succ_le (Nat.le_of_ble_eq_true hdN);have Vz:s.hp d=none:=by simpa using Vz
   have UY:F0 N (some d)=true:=by simp[F0,Nat.blt];omega
   rw[L8] at VP hk;rw[Sx] at hby;have Zr:news.length=m*i.size:=by omega
   rcases F1 hp hbv with⟨O1,_⟩|⟨_,_,_,CH,_⟩|⟨_,_,_,CH,_⟩
   ·refine⟨_,hk,fun next Q hn=>?_⟩
    by_cases hm0:m=0
    ·subst hm0;have hr:=Lr (P:=P) (w:=w) (t:=t) (tx:=tx) (ty:=o.type) (ts:=ts) (ad:=none) hu hdx OL hi hs (List.eq_nil_of_length_eq_zero (by omega))
     rw[←O1] at hr;have PK:new=[]:=List.eq_nil_of_length_eq_zero (by omega)
     subst PK;refine run hr next Q (hn _ _ (Cb β d none) ?_);rw[O1];refine h.stepR (d:=some d) (nw:=[(d,.ar false [])]) (β':=Cb β d none) UY (by simp[Bn,Vz]) ⟨rfl,rfl,rfl,Bw.refl _ _,fun j hj=>Ah _ _ (by rintro rfl;exact hj Vz),?_,?_,?_,?_,?_,.inl ⟨Al _ _ _,rfl,rfl,none,rfl⟩,?_⟩
     ·intro j bx hm;simp at hm;rw[hm.2];trivial
     ·intro j bx hm;simp at hm;obtain⟨rfl,rfl⟩:=hm;exact .inl ⟨Al _ _ _,rfl⟩
     ·intro j bx k q hm hq;simp at hm;obtain⟨rfl,rfl⟩:=hm;rw[Al] at hq;cases hq
     ·intro j bx j' bx' k q q' hm Mj _ _;simp at hm Mj;rw[hm.1,Mj.1]
     ·intro j cells hm;simp at hm
     ·intro j hj;simp[Bo,B4,Ao] at hj;subst hj;exact .inr ⟨.ar false [],by simp⟩
    ·have hr:=append_grow_run (P:=P) (w:=w) (t:=t) (tx:=tx) (ty:=o.type) (ts:=ts) (ad:=none) (n:=0) (cap:=0) (olds:=[]) hu hdx OL hi hz hs (.inl ⟨rfl,rfl⟩) (by omega) (by rw[Nat.zero_add];exact hby) (by omega)
     rw[←O1] at hr;refine run hr next Q (hn _ _ (Cb β d (some (w.heap.size,0))) ?_);have hge:0+m<=grownCap w (0+m) 0 e:=grownCap_ge w (0+m) 0 e
     have U9:Dl w (w.drew.alloc (.cells (([]:List Value).toArray++news.toArray++Builtin.zeroCells z.cells (grownCap w (0+m) 0 e-(0+m))) e)) (([]:List Value).toArray++news.toArray++Builtin.zeroCells z.cells (grownCap w (0+m) 0 e-(0+m))) e:=
      ⟨rfl,rfl,rfl,fun k hk=>Below.heap_alloc w.drew _ k hk,by show (w.heap.push _).size=_;simp,(0,0),by show (w.heap.push _)[w.heap.size]?=_;simp,.inl rfl⟩
     have UZ:(([]:List Value).toArray++news.toArray++Builtin.zeroCells z.cells (grownCap w (0+m) 0 e-(0+m))).size=grownCap w (0+m) 0 e*i.size:=by
      simp only[Array.size_append,List.size_toArray,size_zeroCells,Nt,Zr,List.length_nil,←Nat.add_mul];rw[Nat.zero_add (m*i.size),←Nat.add_mul]
      congr 1
      omega
     refine h.stepR (d:=some d) (nw:=[(d,.ar false new)]) UY (by simp[Bn,Vz]) (Qd U9 Vz trivial ?_ (fun cells hx=>by cases hx) ?_ (by intro j hj;simp[Bo,B4,Ao] at hj;exact .inr hj))
     ·refine .inr ⟨w.heap.size,0,Al _ _ _,?_,fun _ j _ hj=>?_,(fun q=>by cases q)⟩
      ·exact ER (pre:=[]) U9 (WQ Vz) trivial hs.rep (by simp) hs.one
      ·rw[U9.bsz] at hj;exact U9.frozen hj
     ·refine .inr ⟨w.heap.size,0,0,grownCap w (0+m) 0 e,Al _ _ _,by rw[Nat.zero_add],.inl rfl,by omega,?_,by rw[U9.size];omega⟩
      exact⟨by rw[U9.bsz,UZ];omega,.inr (Kh w.drew _ e)⟩
   ·rw[CH] at hzz;cases hzz
   ·rw[CH] at hzz;cases hzz
 ·cases hk
theorem VA (h:Cj N w0 X0 Y β s a w){c:Call}(ho:o.op=.call c)(hc:c.callee=.builtin .copy){b x:Operand}(Eg:c.args.toList=[b,x]) {t tx:TypeId}{ts:List TypeId}(AX:c.argTypes.toList=t::tx::ts)
  {K:St->Option R} (hk:HM P N s o.dst t tx (Bu s.tm b) (Bu s.tm x) K=some r):
  ∃s',K s'=some r∧∀(next:Act->World->Prop) (Q:Exit->Act->World->Prop),(∀a' w' β',Cj N w0 X0 Y β' s' a' w'->next a' w')->o.wp P a w next Q:=by
 have DD:c.args = #[b,x]:=by
  have:c.args=([b,x]:List Operand).toArray:=by rw[←Eg]
  exact this
 have QJ:c.argTypes=(t::tx::ts).toArray:=by rw[←AX]
 have run:∀{v:Value} {w1:World},(Builtin.copy_ (t::tx::ts).toArray o.type #[a.eval b,a.eval x]).run P w=.ok v w1->∀(next:Act->World->Prop) (Q:Exit->Act->World->Prop),next (a.put o.dst v) w1->o.wp P a w next Q:=by
  intro v w1 hr next Q hn;unfold Oper.wp execOp;rw[ho];simp only[resolve,hc,invoke,builtin,Sem.run_bind,Sem.run_pure,Result.andThen_ok,DD,QJ];have:(#[b,x]:Array Operand).map a.eval = #[a.eval b,a.eval x]:=by simp
  rw[this,hr];exact hn
 have hbv:=Co h b;unfold HM at hk;split at hk
 ·rename_i e hu;obtain⟨hzi,hk⟩:=Aj hk;simp only[Bool.and_eq_true] at hzi;obtain⟨Oy,UY⟩:=hzi;obtain⟨i,hi⟩:∃i,P.info? e=some i:=Option.isSome_iff_exists.1 Oy;have L8:A4 P e=i.size:=by unfold A4;rw[hi];rfl
  have h1c:∀(m:Nat) (new:List PV),(match Bu s.tm b with
    |.view id es off n=>
     match s.hp id with
     |some (.ar false c)=>An (Nat.beq es (A4 P e)&&decide (off+n*es<=c.length)&&decide (new.length=m*es))
       (Ab (min m n) fun k=>Ab (Bl c (new.take (k*es)) off) fun c=>K ⟨Bj s.tm o.dst (.sc (.int .i64 k)),Cb s.hp id (some (.ar false c))⟩)
     |_=>none
    |_=>none)=some r->new.length=m*A4 P e:=by
   intro m new hk;split at hk
   ·split at hk
    ·obtain⟨hb,_⟩:=Aj hk;simp only[Bool.and_eq_true,decide_eq_true_eq] at hb;rw[←Nat.eq_of_beq_eq_true hb.1.1];exact hb.2
    ·cases hk
   ·cases hk
  obtain⟨_,m,new,news,hk,hs⟩:=ET h hk h1c;split at hk
  ·rename_i id es off n hb;rw[hb] at hbv;split at hk
   ·rename_i cc h0;obtain⟨hb,hk⟩:=Aj hk;simp only[Bool.and_eq_true,decide_eq_true_eq] at hb;obtain⟨⟨Vy,Z0⟩,CZ⟩:=hb;have Vy:=Nat.eq_of_beq_eq_true Vy;subst Vy;rw[L8] at hk hs Z0 CZ hbv;have Zr:news.length=m*i.size:=by rw[←hs.rep.len];exact CZ
    have hkm:min m n*i.size<=m*i.size:=Nat.mul_le_mul_right _ (Nat.min_le_left _ _);have hkn:min m n*i.size<=n*i.size:=Nat.mul_le_mul_right _ (Nat.min_le_right _ _);have Jo:K ⟨Bj s.tm o.dst (.sc (.int .i64 ((min m n:Nat):Int))),Cb s.hp id (some (.ar false (Bl cc (new.take (min m n*i.size)) off)))⟩=some r:=hk;refine⟨_,Jo,fun next Q hn=>?_⟩
    have Aj9:∀{β':Bt} {Ck:Nat->Option Bk} {w':World},Cj N w0 X0 Y β' ⟨s.tm,Ck⟩ a w'->Cj N w0 X0 Y β' ⟨Bj s.tm o.dst (.sc (.int .i64 ((min m n:Nat):Int))),Ck⟩ (a.put o.dst (goInt ((min m n:Nat):Int))) w':=
     fun hh=>hh.put UY (As.sc _) (fun _ hx=>by cases hx)
    have Adr:new.take (min m n*i.size)=[]->Cb s.hp id (some (.ar false (Bl cc (new.take (min m n*i.size)) off)))=s.hp:=by
     intro e;rw[e];refine Xr _ ?_;rw[h0];simp[Bl]
    have nothing:min m n*i.size=0->∀(ad:Option Addr) (cap:Nat),a.eval b=.slice ad n cap->o.wp P a w next Q:=by
     intro e ad cap O1;have hr:=RA (P:=P) (w:=w) (w1:=w) (t:=t) (ty:=o.type) (ts:=tx::ts) (ad:=ad) (n:=n) (cap:=cap) hu hi hs (by rw[e];cases ad<;>simp[storeCells])
     rw[←O1] at hr;refine run hr next Q (hn _ _ β (Aj9 ?_));rw[Adr (by rw[e,List.take_zero])]
     exact h
    rcases hbv with⟨hβ,_,rfl,ad,O1⟩|⟨bb,ob,y,cap,hβ,O1,hy,VZ,Uj,Aem⟩
    ·exact nothing (by simp) ad 0 O1
    ·by_cases hm0:min m n*i.size=0
     ·exact nothing hm0 _ _ O1
     rcases h.box id _ h0 with⟨Fh,_⟩|⟨b',o',Fh,Kw,LE,_⟩
     ·rw[hβ] at Fh;cases Fh
     rw[hβ] at Fh;simp at Fh;obtain⟨rfl,rfl⟩:=Fh;have MZ:n≠0:=by rintro rfl;simp at hm0
     have hy:y=ob+off:=by rcases hy with hy|⟨hq,_⟩<;>first|exact absurd hq MZ|exact hy
     subst hy;have Bp:(news.take (min m n*i.size)).length=min m n*i.size:=by rw[List.length_take,Zr];omega
     have hcell:∀k,k<(news.take (min m n*i.size)).length->(w.cell? ⟨bb,ob+off+k,none⟩).isSome=true:=by
      intro k hk;obtain⟨v,hv,_⟩:=Kw (off+k) _ (List.getElem?_eq_getElem (by omega))
      rw[B8] at hv;rw[Nat.add_assoc,hv];rfl
     have hfr:∀k,k<(news.take (min m n*i.size)).length->w.frozen? ⟨bb,ob+off+k,none⟩=false:=fun k hk=>by
      obtain⟨u,hu⟩:=Option.isSome_iff_exists.1 (hcell k hk);exact LE rfl _ (by omega) (V7 hu)
     have h1:∀u∈news.take (min m n*i.size),u.oneCell'=true:=fun u hu=>hs.one u (List.mem_of_mem_take hu)
     have h3:=run_storeCells_cells (P:=P) bb (ob+off) (news.take (min m n*i.size)) 0 w (fun k hk=>by simpa using hcell k hk) (fun k hk=>by simpa using hfr k hk) h1
     have hr:=RA (P:=P) (w:=w) (t:=t) (ty:=o.type) (ts:=tx::ts) (ad:=some ⟨bb,ob+off,none⟩) (n:=n) (cap:=cap) hu hi hs h3;rw[←O1] at hr;simp only[Nat.add_zero] at hr;refine run hr next Q (hn _ _ β (Aj9 ?_))
     refine h.write h0 trivial trivial hβ (Bf.setCells bb _ _ w) ?_ (fun cells hx=>by cases hx) (fun _ hx=>by cases hx) (fun j hj=>hj) (fun j hj=>by
      refine World.cell?_setCells_out bb _ _ w ⟨bb,j,none⟩ (fun _ _=>?_)
      have hj:¬(ob<=j):=hj;show j<ob+off∨ob+off+_<=j;omega)
     have Lx:Bw (Cs s.hp β Y) w (w.setCells bb (ob+off) (news.take (min m n*i.size))):=by
      have hw:=Bf.setCells bb (news.take (min m n*i.size)) (ob+off) w;have hAb:Cs s.hp β Y bb:=.inl ⟨id,ob,by rw[h0];trivial,hβ⟩
      exact⟨by rw[hw.size];exact Nat.le_refl _,fun k _ hk=>hw.other k (fun e=>hk (e ▸ hAb)),fun k _=>hw.grow k⟩
     have NR:(new.take (min m n*i.size)).length=min m n*i.size:=by rw[List.length_take,CZ];omega
     refine .inr ⟨bb,ob,hβ,fun j p hj=>?_,fun _ j hj Nk=>?_,(fun x=>by cases x)⟩
     ·rw[B8];rcases Qo (by omega) hj with⟨h3,h4,h5⟩|⟨h3,h5⟩
      ·have A2d:j-off<min m n*i.size:=by omega
       rw[List.getElem?_take_of_lt A2d] at h5;obtain⟨u,hu,hcu⟩:=hs.rep.get h5;have MB:j-off<(news.take (min m n*i.size)).length:=by omega
       refine⟨u,?_,hs.one u (List.mem_of_getElem? hu),hcu.step Lx (fun _ _ x=>x)⟩
       have:=World.cell?_setCells_in bb (news.take (min m n*i.size)) (ob+off) w hcell (j-off) MB;rw[show ob+j=ob+off+(j-off) from by omega,this]
       rw[←List.getElem?_eq_getElem MB,List.getElem?_take_of_lt A2d];exact hu
      ·obtain⟨v,hv,h6,Zo⟩:=Kw j p h5;rw[B8] at hv;refine⟨v,?_,h6,Zo.step Lx (fun _ _ x=>x)⟩
       rw[World.cell?_setCells_out bb _ _ w ⟨bb,ob+j,none⟩ (fun _ _=>by show ob+j<ob+off∨ob+off+_<=ob+j;omega)]
       exact hv
     ·rw[(Bf.setCells bb _ _ w).bs] at Nk;rw[(Bf.setCells bb _ _ w).frz];exact LE rfl j hj Nk
   ·cases hk
  ·cases hk
 ·cases hk
theorem UG (h:Cj N w0 X0 Y β s a w){G:Glo}(J1:QR P G w0 X0){C:Gt}{call:Ai}(Dr:∀f args res,call f args=some res->Do G P f args res){K:St->Option R}(hk:Ui C P N call s o K=some r):
  ∃s',K s'=some r∧∀(next:Act->World->Prop) (Q:Exit->Act->World->Prop),(∀a' w' β',Cj N w0 X0 Y β' s' a' w'->next a' w')->o.wp P a w next Q:=by
 unfold Ui at hk;split at hk
 ·rename_i t x y ho;obtain⟨hd,hk⟩:=Aj hk;exact PJ h ho (by simpa using hd) hk
 ·rename_i c ho;split at hk
  ·rename_i hc;obtain⟨d,hd,Dw⟩:=B3 hk;obtain⟨b,xs,BD,Ex⟩:=A3 Dw;obtain⟨x,ys,hys,Qh⟩:=A3 Ex;obtain⟨Vn,Yq⟩:=C5 Qh;obtain⟨t,us,WW,hk5⟩:=A3 Yq;obtain⟨tx,vs,Fq,hk6⟩:=A3 hk5;rw[hys,Vn] at BD;rw[Fq] at WW;exact MQ h ho hc hd BD WW hk6
  ·rename_i hc;obtain⟨b,xs,BD,Ex⟩:=A3 hk;obtain⟨x,ys,hys,Qh⟩:=A3 Ex;obtain⟨Vn,Yq⟩:=C5 Qh;obtain⟨t,us,WW,hk5⟩:=A3 Yq;obtain⟨tx,vs,Fq,hk6⟩:=A3 hk5;rw[hys,Vn] at BD;rw[Fq] at WW;exact VA h ho hc BD WW hk6
  ·rename_i f hc;exact RD h J1 Dr ho hc hk
  ·cases hk
 ·cases hk
theorem SP (h:Cj N w0 X0 Y β s a w){G:Glo}(J1:QR P G w0 X0){C:Gt}{call:Ai}(Dr:∀f args res,call f args=some res->Do G P f args res){K:St->Option R}(hk:PP C P N call o s K=some r):
  ∃s',K s'=some r∧∀(next:Act->World->Prop) (Q:Exit->Act->World->Prop),(∀a' w' β',Cj N w0 X0 Y β' s' a' w'->next a' w')->o.wp P a w next Q:=by
 unfold PP at hk;cases hm:Qi C P o.op
 ·rw[hm] at hk;exact ST h J1 Dr hk
 ·rw[hm] at hk;exact UG h J1 Dr hk
end
end
end Go.Proofs.Ytcgfahlefkfghaa.Pv
