/-
  The proof of DataBaseBack, part 2.
-/
import Derived.Test.YtodnjibebeghjaaDoorKA
import Derived.Laws.Append
import Derived.IntWalk
import Derived.Laws.AppendOwn
import Derived.Laws.IdiomCopy
set_option linter.unusedSimpArgs false
set_option linter.unusedVariables false
namespace Go.Proofs.YtodnjibebeghjaaDoor.Pv
section
open Go.RowKit
def E6 (w:World)(A:Nat->Prop)(own:Option (Nat × Nat)) (p:PV)(u:Value):Prop:=
 match p with
 |.own es n c=>(own=none∧n=0∧c=[]∧∃ad,u=.slice ad 0 0) ∨
   ∃b o cap,own=some (b,o)∧u=.slice (some ⟨b,o,none⟩) n cap∧n<=cap∧Fit w es b (o+cap*es)∧b<w.heap.size∧KL w A ⟨b,o,none⟩ c∧∀j,o<=j->j<bsz w b->w.frozen? ⟨b,j,none⟩=false
 |p=>Aq w A p u
def D2 (w:World)(A:Nat->Prop)(own:Bt):Nat->List PV->List Value->Prop
 |_,[],[]=>True
 |j,p::ps,u::us=>E6 w A (own j) p u∧D2 w A own (j+1) ps us
 |_,_,_=>False
def WN (w:World)(A:Nat->Prop)(own:Bt)(j b o:Nat)(cs:List PV):Prop:=
 ∃vs,D2 w A own j cs vs∧(∀(k:Nat) v,vs[k]?=some v->w.cell? ⟨b,o+k,none⟩=some v)∧∀k,k<cs.length->w.frozen? ⟨b,o+k,none⟩=false
def Ad4 (w:World)(A:Nat->Prop)(own:Bt)(z j:Nat)(p:PV)(u:Value):Prop:=
 match p with
 |.agg cs=>∃vs,u=.agg ⟨vs⟩∧D2 w A own j cs vs
 |.pbox cs=>∃b o,own j=some (b,o)∧z<=b∧u=.pointer (some ⟨b,o,none⟩)∧WN w A own (j+1) b o cs
 |p=>E6 w A (own j) p u
def QQ:PV->Nat
 |.pbox cs=>1+cs.length
 |p=>(cellsOf p).length
def Z7 (w:World)(A:Nat->Prop)(own:Bt)(z:Nat):Nat->List PV->List Value->Prop
 |_,[],[]=>True
 |j,p::ps,u::us=>Ad4 w A own z j p u∧Z7 w A own z (j+QQ p) ps us
 |_,_,_=>False
abbrev Ss:=Nat->Nat->Option (Nat × Nat)
def RN (bt:Ss)(b:Nat):Prop:=∃i j o,bt i j=some (b,o)
def isA (p:PV):Prop:=Ps p∨∃es n c,p=.own es n c
def Su (p:PV):Bool:=
 match p with
 |.pbox _=>true
 |.tup _=>true
 |_=>false
theorem Adz {p:PV}(h:isA p):Su p=false:=by
 rcases h with h|⟨_,_,_,rfl⟩
 ·cases p<;>first|rfl|exact h.elim
 ·rfl
def JT (w:World)(A:Nat->Prop)(bt:Bt)(p:PV)(u:Value):Prop:=
 match p with
 |.pbox ps=>∃b o,bt 0=some (b,o)∧u=.pointer (some ⟨b,o,none⟩)∧(∀p∈ps,isA p)∧WN w A bt 1 b o ps
 |.tup ps=>∃es n c,ps=[.own es n c]∧E6 w A (bt 0) (.own es n c) u
 |.agg cs=>∃vs,u=.agg ⟨vs⟩∧(∀p∈cs,isA p)∧D2 w A bt 1 cs vs
 |p=>isA p∧E6 w A (bt 1) p u
def Ie (w:World)(A:Nat->Prop)(bt:Ss):Nat->List PV->List Value->Prop
 |_,[],[]=>True
 |i,p::ps,u::us=>JT w A (bt i) p u∧Ie w A bt (i+1) ps us
 |_,_,_=>False
def Ajs (bt:Bt)(p:PV)(b j:Nat):Prop:=
 (∃k o,bt (k+1)=some (b,o)∧o<=j)∨∃o ps,bt 0=some (b,o)∧o<=j∧((p=.pbox ps∧j<o+ps.length)∨p=.tup ps)
def Wu (bt:Ss)(args:List PV)(b j:Nat):Prop:=∃i p,args[i]?=some p∧Ajs (bt i) p b j
def Px (w:World)(A:Nat->Prop)(own:Bt)(bt:Ss):Nat->Nat->List PV->List (List PV)->Prop
 |_,_,[],r=>r=[]
 |j,i,p::zs,r=>
  match p with
  |.pbox ps=>
   match r with
   |[]=>False
   |cs::r=>(∃b o,bt i 0=some (b,o)∧cs.length=ps.length∧WN w A own j b o cs)∧Px w A own bt (j+cs.length) (i+1) zs r
  |.tup _=>
   match r with
   |[]=>False
   |cs::r=>((bt i 0=none∧cs=[])∨∃b o,bt i 0=some (b,o)∧KL w A ⟨b,o,none⟩ cs∧∀k,o<=k->k<bsz w b->w.frozen? ⟨b,k,none⟩=false)∧Px w A own bt j (i+1) zs r
  |_=>Px w A own bt j (i+1) zs r
def Xo (bt:Ss)(own:Bt)(Y:Nat->Prop)(b:Nat):Prop:=(∃j o,own j=some (b,o))∨(∃i o,bt i 0=some (b,o))∨Y b
def Iz (vals:List PV):Nat:=(vals.map QQ).sum
structure Out (w w':World) (Y:Nat->Prop) (bt:Ss) (args:List PV) (own:Bt) (r:A4) (vs:List Value):Prop where
 os:w'.os=w.os
 tape:w'.tape=w.tape
 output:w'.output=w.output
 ext:B1 (RN bt) w w'
 rng:∀b j,b<w.heap.size->¬Wu bt args b j->w'.cell? ⟨b,j,none⟩=w.cell? ⟨b,j,none⟩∧w'.frozen? ⟨b,j,none⟩=w.frozen? ⟨b,j,none⟩
 vals:Z7 w' (Xo bt own Y) own w.heap.size 0 r.vals vs
 outs:Px w' (Xo bt own Y) own bt (Iz r.vals) 0 args r.outs
 fresh:∀j b o,own j=some (b,o)->b<w'.heap.size∧(b<w.heap.size->(∃i k o',bt i (k+1)=some (b,o'))∧∀x,o<=x->Wu bt args b x)
 inj:∀j j' b o o',own j=some (b,o)->own j'=some (b,o')->j=j'
def Gc (us:List Value):Value:=match us with|[u]=>u|us=>.tuple ⟨us⟩
def L6 (w:World)(Y:Nat->Prop)(p:PV)(u:Value):Prop:=
 match p with
 |.agg cs=>∃vs,u=.agg ⟨vs⟩∧Bc (fun c v=>Ps c∧Aq w Y c v) cs vs
 |p=>Ps p∧Aq w Y p u
structure Ins (w:World) (Y:Nat->Prop) (bt:Ss) (args:List PV) (us:List Value):Prop where
 Ylt:∀b,Y b->b<w.heap.size
 Yx:∀b,Y b->¬RN bt b
 lt:∀b,RN bt b->b<w.heap.size
 inj:∀i j i' j' b o o',bt i j=some (b,o)->bt i' j'=some (b,o')->i=i'∧j=j'
 l0:∀i q,bt i 0=some q->∃p,args[i]?=some p∧Su p=true
 args:Ie w (fun b=>RN bt b∨Y b) bt 0 args us
structure Qi where
 bl:Nat->Prop
 ok:World->Prop
 stable:∀w w':World,(∀b,bl b->b<w.heap.size->w'.heap[b]?=w.heap[b]?)->ok w->ok w'
def Cx (G:Qi)(P:Program)(f:FuncId)(args:List PV)(r:A4):Prop:=
 (∃fn,P.funcs[f]?=some fn∧fn.body.isSome=true)∧∀(w:World)(Y:Nat->Prop)(bt:Ss)(us:List Value),Ins w Y bt args us->G.ok w->(∀b,G.bl b->b<w.heap.size∧¬RN bt b) ->
  Calls P f us.toArray w fun e w'=>∃vs own,e=.returned (Gc vs)∧Out w w' Y bt args own r vs
def HE:Ss:=fun _ _=>none
theorem Lu (b:Nat):¬RN HE b:=by rintro⟨_,_,_,h⟩;cases h
theorem Hv {w:World}{A:Nat->Prop}{q:Option (Nat × Nat)} {p:PV}{u:Value}(hp:Ps p)(h:Aq w A p u):E6 w A q p u:=by
 cases p<;>first|exact h|exact hp.elim
theorem Uo {w:World}{A:Nat->Prop}{own:Bt}:∀{cs:List PV}{vs:List Value}{j:Nat},Bc (fun c v=>Ps c∧Aq w A c v) cs vs->D2 w A own j cs vs
 |[],[],_,_=>trivial
 |_::_,_::_,_,h=>⟨Hv h.1.1 h.1.2,Uo h.2⟩
 |[],_::_,_,h=>h.elim
 |_::_,[],_,h=>h.elim
theorem RB {w:World}{A:Nat->Prop}{bt:Bt}{p:PV}{u:Value}(h:L6 w A p u):JT w A bt p u:=by
 cases p with
 |agg cs=>
  obtain⟨vs,h1,h2⟩:=h;refine⟨vs,h1,fun p hp=>.inl ?_,Uo h2⟩
  obtain⟨j,hj⟩:=List.mem_iff_getElem?.1 hp;obtain⟨v,_,hv⟩:=h2.get hj;exact hv.1
 |sc v=>exact⟨.inl trivial,h.2⟩
 |lst z es n c=>exact⟨.inl trivial,h.2⟩
 |_=>exact h.1.elim
theorem Xz {w:World}{A:Nat->Prop}{bt:Ss}:∀{ps:List PV}{us:List Value}{i:Nat},Bc (L6 w A) ps us->Ie w A bt i ps us
 |[],[],_,_=>trivial
 |_::_,_::_,_,h=>⟨RB h.1,Xz h.2⟩
 |[],_::_,_,h=>h.elim
 |_::_,[],_,h=>h.elim
theorem SA {w:World}{A A':Nat->Prop}(hA:∀b,b<w.heap.size->A' b->A b){p:PV}{v:Value}(h:L6 w A p v):L6 w A' p v:=by
 cases p with
 |agg cs=>
  obtain⟨vs,rfl,h2⟩:=h;exact⟨vs,rfl,h2.mono fun c v hc=>⟨hc.1,hc.2.step (B1.refl _ _) hA⟩⟩
 |sc v=>exact⟨h.1,h.2.step (B1.refl _ _) hA⟩
 |lst z es n c=>exact⟨h.1,h.2.step (B1.refl _ _) hA⟩
 |_=>exact h.1.elim
theorem JL {w:World}{Y:Nat->Prop}{args:List PV}{us:List Value}(hY:∀b,Y b->b<w.heap.size)(h:Bc (L6 w Y) args us):Ins w Y HE args us:=
 ⟨hY,fun b _=>Lu b,fun b h=>absurd h (Lu b),(fun _ _ _ _ _ _ _ h=>by cases h),(fun _ _ h=>by cases h),Xz (h.mono fun _ _ hx=>SA (fun b _ hb=>hb.elim (fun q=>absurd q (Lu b)) id) hx)⟩
def NoNG (P:Program):Prop:=∀(f:FuncId) (fn:Func),P.funcs[f]?=some fn->(fn.name == "runtime.NumGoroutine")=false
structure JH (P:Program) (G:Qi) (w0:World) (X0:Gg):Prop where
 ng:NoNG P
 fr:∀w,Fr X0 w0 w->G.ok w
 y:∀b,G.bl b->b<w0.heap.size∧¬X0.X b
section
variable {R:Type} {r:R} {P:Program} {N:Nat} {w0:World} {X0:Gg} {Y:Nat->Prop} {β β':Bt} {s:St} {a:Act} {w w':World} {o:Oper} {A:Nat->Prop}
def Xr (P:Program)(a:Act)(w:World)(o:Oper)(Y:Nat->Prop)(β:Bt)(s:St)(v:PV)(fz:List Nat)(nw:List (Nat × Bk)):Prop:=
 (∀id∈fz,∃f c,s.hp id=some (.ar f c))∧∀(next:Act->World->Prop)(Q:Exit->Act->World->Prop),
  (∀val w',(Bn s.hp nw=true->∃β',CF Y β ⟨s.tm,Ae s.hp fz⟩ w v nw val w' β')->next (a.put o.dst val) w')->o.wp P a w next Q
theorem Yg {v:PV}{fz:List Nat}{nw:List (Nat × Bk)} (h:Dq P a w o Y β s v fz nw):Xr P a w o Y β s v fz nw:=by
 obtain⟨h1,val,w',hr,hs⟩:=h;refine⟨h1,fun next Q hn=>?_⟩
 unfold Oper.wp;rw[hr];exact hn val w' hs
theorem YJ (h:Cj N w0 X0 Y β s a w){t:TypeId}{x:PV}{u:Value}(hx:Dt w (Cu s.hp β Y) β x u) {K:PV->List Nat->Option R}(hk:NB P (Hb s.hp) t x K=some r):
  ∃p m,K p m=some r∧(∀id∈m,∃f cc,s.hp id=some (.ar f cc))∧(cellsOf p).length=(Gi P t).length∧∀fz:List Nat,(∀id∈m,id∈fz)->(∀id∈fz,∃f cc,s.hp id=some (.ar f cc))->L6 w (Cu (Ae s.hp fz) β Y) p u:=by
 unfold NB at hk;cases Ep:Bw P t
 ·rw[Ep] at hk;obtain⟨cs,m,hk,hl,Hw,hT,hF,hm,hv⟩:=Ll h (show J2 _ _ _ _=some r from hk)
  obtain⟨c,t',rfl,hk⟩:=A5 hk;obtain⟨rfl,hk⟩:=C7 hk;have hcT:=hT c (by simp)
  refine⟨c,m,hk,hm,?_,fun fz h1 h2=>?_⟩
  ·have:cellsOf c=[c]:=by cases c<;>first|rfl|exact hcT.elim
   rw[this];exact hl
  have hF':=hF _ (List.mem_singleton_self _)
  have hc:Bs w (Cu s.hp β Y) β x u:=by
   cases x<;>first|exact hx|exact hF'.elim
  have h3:=(hv fz h1 h2 [u] ⟨hc,trivial⟩).1.1;cases c<;>first|exact⟨trivial,h3⟩|exact hcT.elim
 ·rw[Ep] at hk;obtain⟨ps,hp,hk⟩:=F2 (show Gw _ _=some r from hk)
  rw[hp] at hx;obtain⟨cs,m,hk,hl,Hw,hT,hF,hm,hv⟩:=Ll h hk;obtain⟨vs,Cw,h2⟩:=hx;refine⟨.agg cs,m,hk,hm,hl,fun fz h1 h3=>⟨vs,Cw,?_⟩⟩
  exact (hv fz h1 h3 vs h2).1.mono_mem fun c hc v Uk=>⟨hT c hc,Uk⟩
theorem XW (h:Cj N w0 X0 Y β s a w){t:TypeId}{x:Operand}{K:PV->List Nat->Option R}(hk:NB P (Hb s.hp) t (Bu s.tm x) K=some r):
  ∃p m,K p m=some r∧(∀id∈m,∃f cc,s.hp id=some (.ar f cc))∧∀fz:List Nat,(∀id∈m,id∈fz)->(∀id∈fz,∃f cc,s.hp id=some (.ar f cc))->L6 w (Cu (Ae s.hp fz) β Y) p (a.eval x):=by
 obtain⟨p,m,h1,h2,_,h3⟩:=YJ h (Cm h x) hk;exact⟨p,m,h1,h2,h3⟩
theorem BQ (h:Cj N w0 X0 Y β s a w):∀{ts:List TypeId}{xs:List Operand}{K:List PV->List Nat->Option R},X4 P (Hb s.hp) ts (xs.map (Bu s.tm)) K=some r ->
  ∃ps m,K ps m=some r∧(∀id∈m,∃f cc,s.hp id=some (.ar f cc))∧∀fz:List Nat,(∀id∈m,id∈fz)->(∀id∈fz,∃f cc,s.hp id=some (.ar f cc))->Bc (L6 w (Cu (Ae s.hp fz) β Y)) ps (xs.map a.eval)
 |[],[],K,hk=>⟨[],[],hk,by simp,fun _ _ _=>trivial⟩
 |[],_::_,K,hk=>by cases hk
 |_::_,[],K,hk=>by cases hk
 |t::ts,x::xs,K,hk=>by
  simp only[List.map_cons] at hk;unfold X4 at hk;obtain⟨p,m,hk,hm,hv⟩:=XW h hk;obtain⟨ps,ms,hk,Yk,M3⟩:=BQ h hk;refine⟨p::ps,m++ms,hk,?_,fun fz h1 h2=>⟨hv fz (fun i hi=>h1 i (by simp[hi])) h2,M3 fz (fun i hi=>h1 i (by simp[hi])) h2⟩⟩
  intro i hi;rcases List.mem_append.1 hi with hi|hi
  ·exact hm i hi
  ·exact Yk i hi
theorem L6.weaken {A':Nat->Prop}(hA:∀b,b<w.heap.size->A' b->A b){p:PV}{v:Value}(h:L6 w A p v):L6 w A' p v:=by
 have one:Ps p->Ps p∧Aq w A p v->L6 w A' p v:=by
  intro hp h;cases p<;>first|exact⟨h.1,h.2.step (B1.refl _ _) hA⟩|exact hp.elim
 cases p with
 |agg cs=>
  obtain⟨vs,rfl,h2⟩:=h;exact⟨vs,rfl,h2.mono fun c v hc=>⟨hc.1,hc.2.step (B1.refl _ _) hA⟩⟩
 |_=>exact one h.1 h
theorem XY {t:CT}{p:PV}{K:PV->Option R}(h:Tk t p K=some r):
  ∃c,K c=some r∧Ps c∧Ps p∧(∀(w:World) (A:Nat->Prop) (β:Nat->Option (Nat × Nat)) (v:Value),Bs w A β p v->Aq w A c v∧v.oneCell'=true)∧((∀es,t ≠ .sl es)->∃v,c=.sc v):=by
 obtain⟨c,hk,hT,Wz,hv⟩:=Jf h;cases t with
 |sl es=>exact⟨c,hk,hT,Wz,hv,fun D8=>absurd rfl (D8 es)⟩
 |int k=>obtain⟨n,rfl,h2⟩:=Du h;exact⟨_,h2,trivial,trivial,fun w A β v hv=>⟨hv,by have:=Aq.val (w:=w) (A:=A) hv;subst this;rfl⟩,fun _=>⟨_,rfl⟩⟩
 |bool=>obtain⟨n,rfl,h2⟩:=Dc h;exact⟨_,h2,trivial,trivial,fun w A β v hv=>⟨hv,by have:=Aq.val (w:=w) (A:=A) hv;subst this;rfl⟩,fun _=>⟨_,rfl⟩⟩
 |str=>obtain⟨n,rfl,h2⟩:=C6 h;exact⟨_,h2,trivial,trivial,fun w A β v hv=>⟨hv,by have:=Aq.val (w:=w) (A:=A) hv;subst this;rfl⟩,fun _=>⟨_,rfl⟩⟩
 |any=>
  obtain⟨u,rfl,h1,h2⟩:=OO (show SK p (fun v=>K (.sc v))=some r from h)
  exact⟨_,h2,trivial,trivial,fun w A β v hv=>⟨hv,by have:=Aq.val (w:=w) (A:=A) hv;subst this;exact h1⟩,fun _=>⟨_,rfl⟩⟩
theorem Oq (shr:Bool)(N:Nat):∀{ts:List CT}{ps:List PV}{id:Nat}{K:List PV->List (Nat × Bk)->Option R},Lx shr N id ts ps K=some r ->
  ∃cs bs,K cs bs=some r∧ps.length=ts.length∧(∀p∈ps,∀x,p ≠ .agg x∧p ≠ .pbox x)∧(∀c∈cs,Zy c)∧((∀es,CT.sl es ∉ ts)->bs=[]∧∀c∈cs,∃v,c=.sc v) ∧
   (∀i bx,(i,bx)∈bs->∃j es n c,ps[j]?=some (.own es n c)∧i=id+N*j∧bx=.ar false c) ∧
   (∀c∈cs,∀i∈Al c,∃bx,(i,bx)∈bs) ∧
   ∀(w:World) (A:Nat->Prop) (own β':Bt) (j0:Nat) (us:List Value),(∀j,(∃bx,(id+N*j,bx)∈bs)->β' (id+N*j)=own (j0+j))->D2 w A own j0 ps us->Bc (Bs w A β') cs us
 |[],ps,id,K,hk=>by
  obtain⟨rfl,hk⟩:=C7 hk;refine⟨[],[],hk,rfl,by simp,by simp,by simp,by simp,by simp,fun w A own β' j0 us _ h=>?_⟩
  cases us with
  |nil=>trivial
  |cons u us=>exact h.elim
 |t::ts,ps,id,K,hk=>by
  unfold Lx at hk;obtain⟨p,ps',Va,Dn⟩:=A5 hk;subst Va;clear hk
  have main:∃c b,(Lx shr N (id+N) ts ps' fun cs bs=>K (c::cs) (b++bs))=some r∧(∀x,p ≠ .agg x∧p ≠ .pbox x)∧Zy c∧((∀es,t≠CT.sl es)->b=[]∧∃v,c=.sc v)∧(∀i bx,(i,bx)∈b->∃es n cc,p=.own es n cc∧i=id∧bx=.ar false cc)∧(∀i∈Al c,∃bx,(i,bx)∈b) ∧
    ∀(w:World) (A:Nat->Prop) (own:Option (Nat × Nat)) (β':Bt) (u:Value),((∃bx,(id,bx)∈b)->β' id=own)->E6 w A own p u->Bs w A β' c u:=by
   have tree:∀t',t'=t->(Tk t' p fun c=>Lx shr N (id+N) ts ps' fun cs bs=>K (c::cs) ([]++bs))=some r->∃c b,(Lx shr N (id+N) ts ps' fun cs bs=>K (c::cs) (b++bs))=some r∧(∀x,p ≠ .agg x∧p ≠ .pbox x)∧Zy c∧((∀es,t≠CT.sl es)->b=[]∧∃v,c=.sc v)∧(∀i bx,(i,bx)∈b->∃es n cc,p=.own es n cc∧i=id∧bx=.ar false cc)∧(∀i∈Al c,∃bx,(i,bx)∈b) ∧
     ∀(w:World) (A:Nat->Prop) (own:Option (Nat × Nat)) (β':Bt) (u:Value),((∃bx,(id,bx)∈b)->β' id=own)->E6 w A own p u->Bs w A β' c u:=by
    intro t' ht' hk;have KK:=XY hk;obtain⟨c,hk,hT,Wz,hv,KK⟩:=KK;refine⟨c,[],hk,fun x=>⟨Sd Wz x,by rintro rfl;exact Wz⟩,Ma hT,fun D8=>⟨rfl,KK (fun es e=>D8 es (ht'.symm.trans e))⟩,by simp,by rw[F5 hT];simp,fun w A own β' u _ hc=>?_⟩
    have Mi:Bs w A β' p u:=by cases p<;>first|exact hc|exact Wz.elim
    exact (Id hT).2 (hv w A β' u Mi).1
   unfold YW at Dn;cases t with
   |sl es=>
    dsimp only at Dn;cases shr
    ·unfold FM at Dn;simp only[cond_false] at Dn;split at Dn
     ·rename_i es' n c;cases hb:Nat.beq es' es
      ·rw[hb] at Dn;cases Dn
      ·rw[hb] at Dn;have:=Nat.eq_of_beq_eq_true hb;subst this;refine⟨_,_,Dn,by simp,trivial,fun D8=>absurd rfl (D8 _),?_,?_,fun w A own β' u hβ hc=>?_⟩
       ·intro i bx hm;simp at hm;exact⟨_,_,_,rfl,hm.1,hm.2⟩
       ·intro i hi;simp[Al] at hi;subst hi;exact⟨.ar false c,by simp⟩
       ·have hβ':=hβ ⟨.ar false c,by simp⟩
        clear hβ;rcases hc with⟨h1,rfl,rfl,h4⟩|⟨b,ob,cap,h1,h2,h3,h4,h5,_⟩
        ·exact .inl ⟨hβ'.trans h1,rfl,rfl,h4⟩
        ·exact .inr ⟨b,ob,ob,cap,hβ'.trans h1,h2,.inl rfl,h3,h4,h5⟩
     ·cases Dn
    ·obtain⟨c,hk,hT,Wz,hv,_⟩:=XY (t:=.sl es) (p:=p) (K:=fun c=>Lx true N (id+N) ts ps' fun cs bs=>K (ET c::cs) ([]++bs)) Dn
     have hU:Ps (ET c):=by cases c<;>exact hT
     refine⟨ET c,[],hk,fun x=>⟨Sd Wz x,by rintro rfl;exact Wz⟩,Ma hU,fun D8=>absurd rfl (D8 _),by simp,by rw[F5 hU];simp,fun w A own β' u _ hc=>?_⟩
     have Mi:Bs w A β' p u:=by cases p<;>first|exact hc|exact Wz.elim
     refine (Id hU).2 ?_;have:=(hv w A β' u Mi).1;cases c with
     |lst z es n c=>exact Aq.unz this
     |_=>exact this
   |int k=>exact tree (.int k) rfl Dn
   |bool=>exact tree .bool rfl Dn
   |str=>exact tree .str rfl Dn
   |any=>exact tree .any rfl Dn
  obtain⟨c,b,hk,hpa,hF,JA,Eb,Gl,Uk⟩:=main;obtain⟨cs,bs,hk,hl,Att,hFs,Af8,Avl,A13,A10⟩:=Oq shr N hk;refine⟨c::cs,b++bs,hk,by simp[hl],?_,?_,?_,?_,?_,fun w A own β' j0 us hβ hoc=>?_⟩
  ·intro x hx;rcases List.mem_cons.1 hx with rfl|hx
   ·exact hpa
   ·exact Att x hx
  ·intro x hx;rcases List.mem_cons.1 hx with rfl|hx
   ·exact hF
   ·exact hFs x hx
  ·intro D8;obtain⟨h1,v,h2⟩:=JA (fun es e=>D8 es (by rw[e];simp))
   obtain⟨h3,h4⟩:=Af8 (fun es hm=>D8 es (by simp[hm]))
   refine⟨by rw[h1,h3];rfl,fun x hx=>?_⟩
   rcases List.mem_cons.1 hx with rfl|hx
   ·exact⟨v,h2⟩
   ·exact h4 x hx
  ·intro i bx hm;rcases List.mem_append.1 hm with hm|hm
   ·obtain⟨es,n,cc,rfl,rfl,rfl⟩:=Eb i bx hm;exact⟨0,es,n,cc,rfl,by simp,rfl⟩
   ·obtain⟨j,es,n,cc,h1,rfl,h3⟩:=Avl i bx hm;exact⟨j+1,es,n,cc,by simpa using h1,by rw[Nat.mul_add];omega,h3⟩
  ·intro x hx i hi;rcases List.mem_cons.1 hx with rfl|hx
   ·obtain⟨bx,hm⟩:=Gl i hi;exact⟨bx,by simp[hm]⟩
   ·obtain⟨bx,hm⟩:=A13 x hx i hi;exact⟨bx,by simp[hm]⟩
  ·cases us with
   |nil=>exact hoc.elim
   |cons u us=>
    refine⟨Uk w A (own j0) β' u (fun ⟨bx,hm⟩=>by have:=hβ 0 ⟨bx,by simp[hm]⟩;simpa using this) hoc.1,?_⟩
    refine A10 w A own β' (j0+1) us (fun j ⟨bx,hm⟩=>?_) hoc.2
    have e:id+N+N*j=id+N*(j+1):=by rw[Nat.mul_add];omega
    have:=hβ (j+1) ⟨bx,by rw[←e];simp[hm]⟩
    rw[e,this]
    congr 1
    omega
end
open Go.RowKit
section
variable {R:Type} {r:R} {P:Program} {N:Nat} {w0:World} {X0:Gg} {Y:Nat->Prop} {β β':Bt} {s:St} {a:Act} {w w':World} {o:Oper} {A:Nat->Prop}
theorem D2.len:∀{j:Nat}{own:Bt}{ps:List PV}{us:List Value},D2 w A own j ps us->ps.length=us.length
 |_,_,[],[],_=>rfl
 |_,_,_::_,_::_,h=>by simp[D2.len h.2]
 |_,_,[],_::_,h=>h.elim
 |_,_,_::_,[],h=>h.elim
theorem D2.at_:∀{j:Nat}{own:Bt}{ps:List PV}{us:List Value},D2 w A own j ps us->∀{i:Nat} {p},ps[i]?=some p->∃u,us[i]?=some u∧E6 w A (own (j+i)) p u
 |_,_,[],[],_,i,p,h=>by simp at h
 |j,own,_::_,u::_,h,0,p,hp=>by simp at hp;subst hp;exact⟨u,rfl,h.1⟩
 |j,own,_::_,_::_,h,i+1,p,hp=>by
  simp at hp;obtain⟨u,hu,hc⟩:=D2.at_ h.2 hp;exact⟨u,by simpa using hu,by rw[show j+(i+1)=j+1+i from by omega];exact hc⟩
 |_,_,[],_::_,h,_,_,_=>h.elim
 |_,_,_::_,[],h,_,_,_=>h.elim
def WL (N id:Nat)(β':Bt)(w:World)(A:Nat->Prop)(z n:Nat)(bs:List (Nat × Bk)):Prop:=
 ∀i bx,(i,bx)∈bs->(∃j,i=id+N*j∧j<n)∧Ct (some bx)∧Mr w A β' i bx∧∀cs,bx=.st cs->∀b o,β' i=some (b,o)->z<=b
def Ti (bs:List (Nat × Bk)):Prop:=∀i cells,(i,.st cells)∈bs->∀c∈cells,∀i'∈Al c,∃bx,(i',bx)∈bs
theorem R8 {q:Option (Nat × Nat)} {es n i:Nat}{c:List PV}{u:Value}(h:E6 w A q (.own es n c) u) (hβ:β' i=q):Mr w A β' i (.ar false c):=by
 rcases h with⟨h1,_,h2,_⟩|⟨b,o,cap,h1,_,_,_,_,h6,h7⟩
 ·exact .inl ⟨hβ.trans h1,h2⟩
 ·exact .inr ⟨b,o,hβ.trans h1,h6,fun _=>h7,(fun x=>by cases x)⟩
theorem Tb {t:TypeId}(h:Hh P [t]=false):Sk P t=none∧∀es,CT.sl es ∉ Gi P t:=by
 simp only[Hh,List.any_cons,List.any_nil,Bool.or_false,Bool.or_eq_false_iff] at h;refine⟨by simpa using h.1,fun es hm=>?_⟩
 have:=List.any_eq_false.1 h.2 _ hm;simp at this
theorem VW (shr:Bool)(N:Nat){t:TypeId}{p:PV}{id:Nat}{K:PV->List (Nat × Bk)->Option R} (hk:SG P shr N id t p K=some r):
  ∃v bs,K v bs=some r∧QQ p=HO P t∧(∀x,v ≠ .tup x)∧(Hh P [t]=false->bs=[]∧∀c∈cellsOf v,∃u,c=.sc u)∧(∀i∈B5 v,∃bx,(i,bx)∈bs)∧Ti bs ∧
   ∀(w:World) (A:Nat->Prop) (own β':Bt) (z j0:Nat) (u:Value),(∀j,(∃bx,(id+N*j,bx)∈bs)->β' (id+N*j)=own (j0+j))->Ad4 w A own z j0 p u->F9 w A β' v u∧WL N id β' w A z (QQ p) bs:=by
 have boxes:∀{bs:List (Nat × Bk)} {ps:List PV} {id:Nat},(∀i bx,(i,bx)∈bs->∃j es n c,ps[j]?=some (.own es n c)∧i=id+N*j∧bx=.ar false c) ->
   Ti bs∧∀(w:World) (A:Nat->Prop) (own β':Bt) (j0:Nat) (us:List Value),(∀j,(∃bx,(id+N*j,bx)∈bs)->β' (id+N*j)=own (j0+j))->D2 w A own j0 ps us->∀z,WL N id β' w A z ps.length bs:=by
  intro bs ps id Eb;refine⟨fun i cells hm=>?_,fun w A own β' j0 us hβ ho z i bx hm=>?_⟩
  ·obtain⟨_,_,_,_,_,_,h3⟩:=Eb i _ hm;cases h3
  ·obtain⟨j,es,n,cc,h1,h2,h3⟩:=Eb i bx hm;obtain⟨u,hu,hoc⟩:=ho.at_ h1;subst h3;refine⟨⟨j,h2,?_⟩,trivial,R8 hoc ?_,fun _ e=>by cases e⟩
   ·rcases Nat.lt_or_ge j ps.length with h|h
    ·exact h
    ·rw[List.getElem?_eq_none h] at h1;cases h1
   ·rw[h2];exact hβ j ⟨_,h2 ▸ hm⟩
 unfold SG at hk;split at hk
 ·rename_i e he;obtain⟨ps,rfl,hk⟩:=BW hk;obtain⟨cs,bs,hk,hl,Abf,hF,JA,Eb,Gl,Uk⟩:=Oq shr N hk;obtain⟨MJ,Ir⟩:=boxes Eb;refine⟨.ptr id 0,_,hk,by simp only[QQ,HO,he,hl],by simp,fun h=>?_,fun i hi=>?_,fun i cells hm c hc i' KG=>?_,fun w A own β' z j0 u hβ ho=>?_⟩
  ·have:=(Tb h).1;rw[he] at this;cases this
  ·simp only[B5,Al,List.mem_singleton] at hi;subst hi;exact⟨_,List.mem_cons_self⟩
  ·rcases List.mem_cons.1 hm with e|hm
   ·cases e;obtain⟨bx,hb⟩:=Gl c hc i' KG;exact⟨bx,List.mem_cons_of_mem _ hb⟩
   ·obtain⟨bx,hb⟩:=MJ i cells hm c hc i' KG;exact⟨bx,List.mem_cons_of_mem _ hb⟩
  ·obtain⟨b,o,h1,hz,rfl,vs,h3,h4,h5⟩:=ho;have h0:=hβ 0 ⟨_,by rw[Nat.mul_zero,Nat.add_zero];exact List.mem_cons_self⟩
   rw[Nat.mul_zero,Nat.add_zero,Nat.add_zero,h1] at h0;have Bf:∀j,id+N+N*j=id+N*(j+1):=fun j=>by rw[Nat.mul_add];omega
   have hβ1:∀j,(∃bx,(id+N+N*j,bx)∈bs)->β' (id+N+N*j)=own (j0+1+j):=fun j ⟨bx,hm⟩=>by
    rw[Bf,hβ (j+1) ⟨bx,by rw[←Bf];exact List.mem_cons_of_mem _ hm⟩]
    congr 1;omega
   have hc2:=Uk w A own β' (j0+1) vs hβ1 h3;have Qr:=Ir w A own β' (j0+1) vs hβ1 h3 z;have Dd:cs.length=ps.length:=by rw[hc2.len,←h3.len]
   refine⟨⟨b,o,h0,by simp⟩,fun i bx hm=>?_⟩
   rcases List.mem_cons.1 hm with e|hm
   ·cases e;refine⟨⟨0,by simp,by simp only[QQ];omega⟩,trivial,⟨b,o,h0,fun k c hk=>?_,fun k hk=>h5 k (by omega)⟩,fun _ _ b' o' Gh=>?_⟩
    ·obtain⟨v,hv,FP⟩:=hc2.get hk;exact⟨v,h4 k v hv,FP⟩
    ·rw[h0] at Gh;cases Gh;exact hz
   ·obtain⟨⟨j,hj,hjn⟩,h6,h7⟩:=Qr i bx hm;exact⟨⟨j+1,by rw[hj,Bf],by simp only[QQ];omega⟩,h6,h7⟩
 ·rename_i hnp;have Q0:HO P t=(Gi P t).length:=by simp only[HO,hnp]
  cases Ep:Bw P t
  ·rw[Ep] at hk;obtain⟨cs,bs,hk,hl,Abf,hF,JA,Eb,Gl,Uk⟩:=Oq shr N (show Lx _ _ _ _ _ _=some r from hk)
   obtain⟨c,t',rfl,hk⟩:=A5 hk;obtain⟨rfl,hk⟩:=C7 hk;have hFc:=hF c (by simp)
   have An6:∀x,p ≠ .pbox x:=fun x=>(Abf p (by simp) x).2
   have Aj8:∀x,c ≠ .agg x:=by rintro x rfl;exact hFc
   have Avb:∀x,c ≠ .tup x:=by rintro x rfl;exact hFc
   have Y1:B5 c=Al c:=by cases c<;>first|rfl|exact absurd rfl (Aj8 _)
   have hpa:∀x,p ≠ .agg x:=fun x=>(Abf p (by simp) x).1
   obtain⟨MJ,Ir⟩:=boxes Eb;have Cn:cellsOf p=[p]:=by cases p<;>first|rfl|exact absurd rfl (hpa _)
   have Ao2:QQ p=1:=by cases p<;>first|rfl|exact absurd rfl (hpa _)|exact absurd rfl (An6 _)
   have WH:cellsOf c=[c]:=by cases c<;>first|rfl|exact absurd rfl (Aj8 _)
   refine⟨c,bs,hk,by rw[Ao2,Q0];exact hl,Avb,fun D8=>by rw[WH];exact JA (Tb D8).2,fun i hi=>Gl c (by simp) i (by rw[←Y1];exact hi),MJ,fun w A own β' z j0 u hβ ho=>?_⟩
   have FZ:E6 w A (own j0) p u:=by cases p<;>first|exact ho|exact absurd rfl (hpa _)|exact absurd rfl (An6 _)
   exact⟨(Rz Aj8).2 (Uk w A own β' j0 [u] hβ ⟨FZ,trivial⟩).1,by rw[Ao2];exact Ir w A own β' j0 [u] hβ ⟨FZ,trivial⟩ z⟩
  ·rw[Ep] at hk;obtain⟨ps,rfl,hk⟩:=F2 (show Gw _ _=some r from hk)
   obtain⟨cs,bs,hk,hl,Abf,hF,JA,Eb,Gl,Uk⟩:=Oq shr N hk;obtain⟨MJ,Ir⟩:=boxes Eb;refine⟨.agg cs,bs,hk,by rw[Q0];exact hl,by simp,fun D8=>JA (Tb D8).2,fun i hi=>?_,MJ,fun w A own β' z j0 u hβ ho=>?_⟩
   ·obtain⟨c,hc,hi⟩:=List.mem_flatMap.1 (show i∈cs.flatMap Al from hi)
    exact Gl c hc i hi
   ·obtain⟨vs,rfl,ho⟩:=ho;exact⟨⟨vs,rfl,Uk w A own β' j0 vs hβ ho⟩,Ir w A own β' j0 vs hβ ho z⟩
theorem Th (shr:Bool)(N:Nat):∀{ts:List TypeId}{ps:List PV}{id:Nat}{K:List PV->List (Nat × Bk)->Option R},Ur P shr N id ts ps K=some r ->
  ∃vs bs,K vs bs=some r∧vs.length=ps.length∧(∀v∈vs,∀x,v ≠ .tup x)∧(Hh P ts=false->bs=[]∧∀v∈vs,∀c∈cellsOf v,∃u,c=.sc u)∧(∀v∈vs,∀i∈B5 v,∃bx,(i,bx)∈bs)∧Ti bs ∧
   ∀(w:World) (A:Nat->Prop) (own β':Bt) (z j0:Nat) (us:List Value),(∀j,(∃bx,(id+N*j,bx)∈bs)->β' (id+N*j)=own (j0+j))->Z7 w A own z j0 ps us->Bc (F9 w A β') vs us∧WL N id β' w A z (Iz ps) bs
 |[],ps,id,K,hk=>by
  obtain⟨rfl,hk⟩:=C7 hk;refine⟨[],[],hk,rfl,by simp,by simp,by simp,(by intro i cells hm;cases hm),fun w A own β' z j0 us _ h=>?_⟩
  cases us with
  |nil=>exact⟨trivial,by intro i bx hm;cases hm⟩
  |cons u us=>exact h.elim
 |t::ts,ps,id,K,hk=>by
  unfold Ur at hk;obtain⟨p,ps',Va,Dn⟩:=A5 hk;subst Va;clear hk;obtain⟨v,bs,hk,hl,LP,JA,Y1,MJ,hv⟩:=VW shr N Dn;obtain⟨vs,bs',hk,hvl,Az9,Af8,hrs,A0l,M3⟩:=Th shr N hk;refine⟨v::vs,bs++bs',hk,by simp[hvl],?_,?_,?_,?_,fun w A own β' z j0 us hβ ho=>?_⟩
  ·intro x hx;rcases List.mem_cons.1 hx with rfl|hx
   ·exact LP
   ·exact Az9 x hx
  ·intro D8;simp only[Hh,List.any_cons,Bool.or_eq_false_iff] at D8;obtain⟨h1,h2⟩:=JA (by simp only[Hh,List.any_cons,List.any_nil,Bool.or_false,Bool.or_eq_false_iff];exact D8.1)
   obtain⟨h3,h4⟩:=Af8 (by simp only[Hh];exact D8.2)
   refine⟨by rw[h1,h3];rfl,fun x hx=>?_⟩
   rcases List.mem_cons.1 hx with rfl|hx
   ·exact h2
   ·exact h4 x hx
  ·intro x hx i hi;rcases List.mem_cons.1 hx with rfl|hx
   ·obtain⟨bx,hm⟩:=Y1 i hi;exact⟨bx,by simp[hm]⟩
   ·obtain⟨bx,hm⟩:=hrs x hx i hi;exact⟨bx,by simp[hm]⟩
  ·intro i cells hm c hc i' KG;rcases List.mem_append.1 hm with hm|hm
   ·obtain⟨bx,hb⟩:=MJ i cells hm c hc i' KG;exact⟨bx,by simp[hb]⟩
   ·obtain⟨bx,hb⟩:=A0l i cells hm c hc i' KG;exact⟨bx,by simp[hb]⟩
  ·cases us with
   |nil=>exact ho.elim
   |cons u us=>
    obtain⟨h1,Eb⟩:=hv w A own β' z j0 u (fun j ⟨bx,hm⟩=>hβ j ⟨bx,by simp[hm]⟩) ho.1
    have Bf:∀j,id+N*HO P t+N*j=id+N*(HO P t+j):=fun j=>by rw[Nat.mul_add];omega
    obtain⟨h2,Gl⟩:=M3 w A own β' z (j0+QQ p) us (fun j ⟨bx,hm⟩=>by rw[Bf,hβ _ ⟨bx,by rw[←Bf];simp[hm]⟩,hl];congr 1;omega) ho.2
    refine⟨⟨h1,h2⟩,fun i bx hm=>?_⟩
    rcases List.mem_append.1 hm with hm|hm
    ·obtain⟨⟨j,hj,hjn⟩,h4,h5⟩:=Eb i bx hm;exact⟨⟨j,hj,by simp only[Iz,List.map_cons,List.sum_cons];omega⟩,h4,h5⟩
    ·obtain⟨⟨j,hj,hjn⟩,h4,h5⟩:=Gl i bx hm;refine⟨⟨_,by rw[hj,Bf],?_⟩,h4,h5⟩
     simp only[Iz,List.map_cons,List.sum_cons] at hjn ⊢;omega
def U9 (N d:Nat)(bs:List (Nat × Bk)) (own β:Bt):Bt:=fun i=>if (bs.any fun q=>Nat.beq q.1 i)=true then own ((i-d) / N) else β i
theorem EP {bs:List (Nat × Bk)} {i:Nat}:(bs.any fun q=>Nat.beq q.1 i)=true↔∃bx,(i,bx)∈bs:=by
 rw[List.any_eq_true];constructor
 ·rintro⟨⟨j,bx⟩,hm,e⟩
  have:=Nat.eq_of_beq_eq_true e;subst this;exact⟨bx,hm⟩
 ·rintro⟨bx,hm⟩
  exact⟨_,hm,Nat.beq_refl i⟩
theorem OZ {N d j:Nat}(hN:0<N){bs:List (Nat × Bk)} {own β:Bt}(h:∃bx,(d+N*j,bx)∈bs):U9 N d bs own β (d+N*j)=own j:=by
 unfold U9;rw[if_pos (EP.2 h),Nat.add_sub_cancel_left,Nat.mul_div_cancel_left _ hN]
theorem FW {c:Call}{f:FuncId}(ho:o.op=.call c)(hc:c.callee=.value (.func f)) (H7:NoNG P){fn:Func}(hf:P.funcs[f]?=some fn) (hb:fn.body.isSome=true):
  (execOp a.eval o).run P w=.ok (.enter f (c.args.map a.eval)) w:=by
 unfold execOp;rw[ho]
 have hn:¬fn.body=none:=by
  intro h;rw[h] at hb;cases hb
 have D8:¬fn.name = "runtime.NumGoroutine" :=by simpa using H7 f fn hf
 simp[resolve,hc,Act.eval,Deferred.ofValue,invoke,callFunc,hf,D8,hn]
theorem RQ {c:Call}{t:Nat}{f:FuncId}(ho:o.op=.call c)(hc:c.callee=.value (.tmp t)) (ht:a.eval (.tmp t)=.func (.func f) #[] #[]) (H7:NoNG P){fn:Func}(hf:P.funcs[f]?=some fn) (hb:fn.body.isSome=true):
  (execOp a.eval o).run P w=.ok (.enter f (c.args.map a.eval)) w:=by
 unfold execOp;rw[ho]
 have hn:¬fn.body=none:=by
  intro h;rw[h] at hb;cases hb
 have D8:¬fn.name = "runtime.NumGoroutine" :=by simpa using H7 f fn hf
 simp[resolve,hc,ht,Deferred.ofValue,invoke,callFunc,hf,D8,hn]
theorem Uy {A':Nat->Prop}(k:Bool):∀{xs:List Operand}{ps:List PV},Bc (L6 w A') ps (xs.map a.eval)->Bc (L6 w A') (G6 k xs ps) (xs.map a.eval)
 |[],[],h=>h
 |[],_::_,h=>h
 |_::_,[],h=>h
 |x::xs,p::ps,h=>by
  simp only[List.map_cons] at h ⊢;refine⟨?_,Uy k h.2⟩;split
  ·exact⟨trivial,Aq.lnil _ _⟩
  ·exact h.1
theorem Wg (h : Cj N w0 X0 Y β s a w) {G : Qi} (H7 : JH P G w0 X0) {C : Fk} {call : A7} (Df : ∀ f args res, call f args = some res -> Cx G P f args res) {c : Call} {f : FuncId} (Cf : ∀ {fn : Func}, P.funcs[f]? = some fn -> fn.body.isSome = true -> (execOp a.eval o).run P w = .ok (.enter f (c.args.map a.eval)) w)
    {K : PV -> List Nat -> List (Nat × Bk) -> Option R}
    (hk : (X4 P (Hb s.hp) (Xj P f c) (c.args.toList.map (Bu s.tm)) fun vs m =>
          Aj (call f (G6 (C.kz f) c.args.toList vs)) fun rv ro => Ad ro (Bl (Nat.blt 0 N) <| Ur P (C.shr f) N (o.dst.getD 0) (Kc P o.type) rv fun ws bs =>
            Bl (bif Ky P o.type then !Nat.beq ws.length 1 else Nat.beq ws.length 1) <| K (Ju ws (Ky P o.type)) (bif Hh P (Kc P o.type) then m else []) bs)) = some r) : ∃ v fz nw, K v fz nw = some r ∧ Xr P a w o Y β s v fz nw := by
  obtain⟨ps, m, hk, hm, Ea⟩ := BQ h hk
  replace Ea := fun fz h1 h2 => Uy (a := a) (C.kz f) (Ea fz h1 h2)
  generalize G6 (C.kz f) c.args.toList ps = ps at hk Ea
  obtain⟨rv, ro, Jp, hk⟩ := BX hk
  obtain⟨rfl, hk⟩ := C7 hk
  obtain⟨hN, hk⟩ := Ai hk
  have hN : 0 < N := Nat.lt_of_succ_le (Nat.le_of_ble_eq_true hN)
  obtain⟨ws, bs, hk, hwl, LP, JA, hrs, MJ, hws⟩ := Th (C.shr f) N hk
  obtain⟨L2, hk⟩ := Ai hk
  obtain⟨⟨fn, hfn, hfb⟩, Vq⟩ := Df f ps _ Jp
  obtain⟨fz, Tc, hfm⟩ : ∃ fz : List Nat, fz = (bif Hh P (Kc P o.type) then m else []) ∧ ∀ id ∈ fz, ∃ f c, s.hp id = some (.ar f c) := by
    refine⟨_, rfl, fun id Bf => ?_⟩
    cases hh : Hh P (Kc P o.type) <;> rw[hh] at Bf
    · cases Bf
    · exact hm id Bf
  rw[← Tc] at hk
  refine⟨_, _, _, hk, hfm, fun next Q hn => ?_⟩
  have hf := h.freeze hfm
  have hYc : ∃ Yc : Nat -> Prop, (∀ b, Yc b -> b < w.heap.size) ∧ Bc (L6 w Yc) ps (c.args.toList.map a.eval) ∧ ((∀ b, Cu (Ae s.hp fz) β Y b -> Yc b) ∨ Hh P (Kc P o.type) = false) := by
    have Ko := Ea m (fun _ hi => hi) hm
    cases hh : Hh P (Kc P o.type)
    · exact⟨fun _ => False, fun _ x => x.elim, Ko.mono fun _ _ hx => hx.weaken (fun _ _ x => x.elim), .inr rfl⟩
    · rw[hh] at Tc
      have Tc : fz = m := Tc
      subst Tc
      refine⟨Cu (Ae s.hp fz) β Y, fun b hb => ?_, Ko, .inl fun _ x => x⟩
      rcases hb with⟨id, ob, hl, hβ⟩ | hY
      · exact hf.blt id b ob (Cl hl) hβ
      · exact Nat.lt_of_lt_of_le (h.Ylt b hY) h.fr.step.size
  obtain⟨Yc, Arm, hYargs, hYA⟩ := hYc
  unfold Oper.wp
  rw[Cf hfn hfb]
  show Calls P f _ w _
  have hca : c.args.map a.eval = (c.args.toList.map a.eval).toArray := by rw[← List.map_toArray, Array.toArray_toList]
  rw[hca]
  refine (Vq w Yc HE _ (JL Arm hYargs) (H7.fr w h.fr) (fun b x => ⟨Nat.lt_of_lt_of_le (H7.y b x).1 h.fr.step.size, Lu b⟩)).mono ?_
  rintro e w' ⟨vs, own, rfl, Qt⟩
  refine hn (Gc vs) w' fun K8 => ⟨U9 N (o.dst.getD 0) bs own β, ?_⟩
  obtain⟨ha1, Hz⟩ := Bg K8
  have WO : ∀ i bx, (i, bx) ∈ bs -> Ae s.hp fz i = none := fun i bx hm => Dm.2 (ha1 i bx hm)
  obtain⟨UC, hg2⟩ := Dr (hp := Ae s.hp fz) Hz
  have hold : ∀ i, Ae s.hp fz i ≠ none -> U9 N (o.dst.getD 0) bs own β i = β i := by
    intro i hi
    unfold U9
    rw[if_neg]
    intro hx
    obtain⟨bx, hm⟩ := EP.1 hx
    exact hi (WO i bx hm)
  obtain⟨M3, hba⟩ := hws w' _ own (U9 N (o.dst.getD 0) bs own β) w.heap.size 0 vs (fun j hj => by rw[OZ hN hj, Nat.zero_add]) Qt.vals
  have Qe : ∀ i bx, (i, bx) ∈ bs -> ∃ j, i = o.dst.getD 0 + N * j ∧ U9 N (o.dst.getD 0) bs own β i = own j := by
    intro i bx hm
    obtain⟨⟨j, rfl, _⟩, _, _⟩ := hba i bx hm
    exact⟨j, rfl, OZ hN ⟨bx, hm⟩⟩
  have hAA : Hh P (Kc P o.type) = false ∨ ∀ b, Cu (Am (Ae s.hp fz) bs) (U9 N (o.dst.getD 0) bs own β) Y b -> Xo HE own Yc b := by
    rcases hYA with hYA | hYA
    · refine .inr fun b hb => ?_
      rcases hb with⟨i, ob, hl, hβ⟩ | hY
      · by_cases hi : ∃ bx, (i, bx) ∈ bs
        · obtain⟨bx, hm⟩ := hi
          obtain⟨j, _, h3⟩ := Qe i bx hm
          rw[h3] at hβ
          exact .inl ⟨j, ob, hβ⟩
        · rw[hg2 i (fun bx hm => hi ⟨bx, hm⟩)] at hl
          rw[hold i (Cl hl)] at hβ
          exact .inr (.inr (hYA b (.inl ⟨i, ob, hl, hβ⟩)))
      · exact .inr (.inr (hYA b (.inr hY)))
    · exact .inl hYA
  have hval : Dt w' (Cu (Am (Ae s.hp fz) bs) (U9 N (o.dst.getD 0) bs own β) Y) (U9 N (o.dst.getD 0) bs own β) (Ju ws (Ky P o.type)) (Gc vs) := by
    have Ko : Bc (F9 w' (Cu (Am (Ae s.hp fz) bs) (U9 N (o.dst.getD 0) bs own β) Y) (U9 N (o.dst.getD 0) bs own β)) ws vs := by
      rcases hAA with CQ | hAA
      · obtain⟨_, KK⟩ := JA CQ
        refine M3.mono_mem fun v hv u hvu => ?_
        have KK := KK v hv
        cases v with
        | agg cs =>
          obtain⟨xs, rfl, Y4⟩ := hvu
          refine⟨xs, rfl, Y4.mono_mem fun cc WH x hx => ?_⟩
          obtain⟨y, rfl⟩ := KK cc WH
          have := Aq.val (w := w') hx
          subst this
          exact Aq.sc _
        | sc y =>
          have := Aq.val (w := w') hvu
          subst this
          exact Aq.sc _
        | lst z es n cc => obtain⟨y, hy⟩ := KK _ (List.mem_singleton_self _); cases hy
        | own es n cc => obtain⟨y, hy⟩ := KK _ (List.mem_singleton_self _); cases hy
        | view i es n cc => obtain⟨y, hy⟩ := KK _ (List.mem_singleton_self _); cases hy
        | ptr i cc => obtain⟨y, hy⟩ := KK _ (List.mem_singleton_self _); cases hy
        | iptr i cc => obtain⟨y, hy⟩ := KK _ (List.mem_singleton_self _); cases hy
        | pbox cc => obtain⟨y, hy⟩ := KK _ (List.mem_singleton_self _); cases hy
        | tup cc => obtain⟨y, hy⟩ := KK _ (List.mem_singleton_self _); cases hy
        | top => obtain⟨y, hy⟩ := KK _ (List.mem_singleton_self _); cases hy
        | ub => obtain⟨y, hy⟩ := KK _ (List.mem_singleton_self _); cases hy
      · exact M3.mono fun v u hvu => hvu.step (B1.refl _ _) (fun b _ => hAA b) (fun _ _ => rfl)
    have Dd := Ko.len
    cases hT : Ky P o.type
    · rw[hT] at L2
      have h1 : ws.length = 1 := Nat.eq_of_beq_eq_true L2
      match ws, vs, h1, Dd with
      | [v], [u], _, _ =>
        exact (Kx (LP v (by simp))).2 Ko.1
    · rw[hT] at L2
      have h1 : ¬ ws.length = 1 := by
        intro e
        rw[e] at L2
        cases L2
      have hr : Gc vs = .tuple ⟨vs⟩ := by
        unfold Gc
        split
        · simp at Dd; omega
        · rfl
      rw[hr]
      exact⟨vs, rfl, Ko⟩
  refine⟨Qt.os, Qt.tape, Qt.output, Qt.ext.weaken (fun b _ hb => Lu b hb), hold, ?_, ?_, ?_, ?_, ?_, hval, ?_⟩
  · intro i bx hm
    exact (hba i bx hm).2.1
  · intro i bx hm
    rcases hAA with CQ | hAA
    · rw[(JA CQ).1] at hm; cases hm
    · exact (hba i bx hm).2.2.1.step' hAA
  · intro i bx b ob hm hβ
    obtain⟨j, _, h3⟩ := Qe i bx hm
    rw[h3] at hβ
    obtain⟨h4, h5⟩ := Qt.fresh j b ob hβ
    refine⟨?_, h4⟩
    rcases Nat.lt_or_ge b w.heap.size with h | h
    · obtain⟨⟨_, _, _, h6⟩, _⟩ := h5 h
      cases h6
    · exact h
  · intro i bx i' bx' b ob ob' hm Hn hβ hβ'
    obtain⟨j, h1, h3⟩ := Qe i bx hm
    obtain⟨j', EY, h3'⟩ := Qe i' bx' Hn
    rw[h3] at hβ
    rw[h3'] at hβ'
    rw[h1, EY, Qt.inj j j' b ob ob' hβ hβ']
  · intro i cells hm c hc i' KG
    exact .inr (MJ i cells hm c hc i' KG)
  · intro i hi
    right
    cases hT : Ky P o.type
    · rw[hT] at L2 hi
      have h1 : ws.length = 1 := Nat.eq_of_beq_eq_true L2
      match ws, h1 with
      | [v], _ =>
        refine hrs v (by simp) i ?_
        have : Bq v = B5 v := by
          have hn := LP v (by simp)
          cases v <;> first | rfl | exact absurd rfl (hn _)
        rw[← this]
        exact hi
    · rw[hT] at hi
      obtain⟨v, hv, hi⟩ := List.mem_flatMap.1 (show i ∈ ws.flatMap B5 from hi)
      exact hrs v hv i hi
end
open Go.RowKit
section
variable {R:Type} {r:R} {P:Program} {N:Nat} {w0:World} {X0:Gg} {Y:Nat->Prop} {β β':Bt} {s:St} {a:Act} {w w':World} {o:Oper} {A:Nat->Prop}
theorem Cj.move (h:Cj N w0 X0 Y β s a w){id d:Nat}{c cells:List PV}{bo:Option (Nat × Nat)} {v:PV}{val:Value}(h0:s.hp id=some (.ar false c)) (hd:s.hp d=none)(UG:d<N)
  (hos:w'.os=w.os)(htp:w'.tape=w.tape)(Qt:w'.output=w.output)(GU:w.heap.size<=w'.heap.size)
  (Ib:∀k,k<w.heap.size->(∀x,β id≠some (k,x))->w'.heap[k]?=w.heap[k]?) (Zu:∀k,k<w.heap.size->Fz w w' k)
  (CU:∀k x,bo=some (k,x)->k<w'.heap.size∧(w.heap.size<=k∨∃y,β id=some (k,y)))
  (FK:∀k x,bo=some (k,x)->k<w.heap.size->β id=some (k,x))
  (hO:∀k y,β id=some (k,y)->k<w.heap.size->∀j,j<y->w'.cell? ⟨k,j,none⟩=w.cell? ⟨k,j,none⟩∧w'.frozen? ⟨k,j,none⟩=w.frozen? ⟨k,j,none⟩)
  (Ir:Mr w' (Cu (Cg (Cg s.hp id (some .mv)) d (some (.ar false cells))) (Cg β d bo) Y) (Cg β d bo) d (.ar false cells))
  (hv:Dt w' (Cu (Cg (Cg s.hp id (some .mv)) d (some (.ar false cells))) (Cg β d bo) Y) (Cg β d bo) v val) (hr:∀i∈Bq v,i=d):
  Cj N w0 X0 Y (Cg β d bo) ⟨Cg s.tm d v,Cg (Cg s.hp id (some .mv)) d (some (.ar false cells))⟩ (a.put (some d) val) w':=by
 have D8:id≠d:=by rintro rfl;rw[h0] at hd;cases hd
 have GB:∀i,i≠id->i≠d->Cg (Cg s.hp id (some Bk.mv)) d (some (.ar false cells)) i=s.hp i:=fun i h1 h2=>by rw[Ah _ _ h2,Ah _ _ h1]
 have Abb:Cg (Cg s.hp id (some Bk.mv)) d (some (.ar false cells)) id=some .mv:=by rw[Ah _ _ D8,Ak]
 have hgd:Cg (Cg s.hp id (some Bk.mv)) d (some (.ar false cells)) d=some (.ar false cells):=Ak _ _ _
 have Pj:∀i,s.hp i≠none->Cg (Cg s.hp id (some Bk.mv)) d (some (.ar false cells)) i≠none:=by
  intro i hi;by_cases e:i=id
  ·subst e;rw[Abb];simp
  ·by_cases e':i=d
   ·subst e';rw[hgd];simp
   ·rw[GB i e e'];exact hi
 have hβo:∀i,s.hp i≠none->Cg β d bo i=β i:=fun i hi=>Ah _ _ (by rintro rfl;exact hi hd)
 have HD:Ct (s.hp id):=by rw[h0];trivial
 have Fc:∀i,Ct (Cg (Cg s.hp id (some Bk.mv)) d (some (.ar false cells)) i)->i=d∨(i≠id∧i≠d∧Ct (s.hp i)):=by
  intro i hi;by_cases e':i=d
  ·exact .inl e'
  ·by_cases e:i=id
   ·subst e;rw[Abb] at hi;exact hi.elim
   ·rw[GB i e e'] at hi;exact .inr ⟨e,e',hi⟩
 have hX:∀k,k<w.heap.size->EF (Cg (Cg s.hp id (some .mv)) d (some (.ar false cells))) (Cg β d bo) k->EF s.hp β k:=by
  rintro k hk ⟨i,x,hl,hβ⟩
  rcases Fc i hl with rfl|⟨e,e',hl⟩
  ·rw[Ak] at hβ;rcases (CU k x hβ).2 with Iy|⟨y,hy⟩
   ·omega
   ·exact⟨id,y,HD,hy⟩
  ·rw[Ah _ _ e'] at hβ;exact⟨i,x,hl,hβ⟩
 have hAo:∀k,k<w.heap.size->Cu (Cg (Cg s.hp id (some .mv)) d (some (.ar false cells))) (Cg β d bo) Y k->Cu s.hp β Y k:=fun k hk hx=>hx.imp (hX k hk) (fun y=>y)
 have Ey:B1 (Cu s.hp β Y) w w':=⟨GU,fun k hk hn=>Ib k hk fun x hx=>hn (.inl ⟨id,x,HD,hx⟩),Zu⟩
 have ZZ:∀i k x,i≠id->i≠d->(∃b,s.hp i=some b∧b ≠ .mv)->β i=some (k,x)->k<w.heap.size∧w'.heap[k]?=w.heap[k]?:=by
  rintro i k x e e' ⟨b,hb,hmv⟩ hβ
  have hk:=h.blt i k x (by rw[hb];simp) hβ
  refine⟨hk,Ib k hk fun y hy=>?_⟩
  have RF:=h.box i b hb;cases b with
  |st cc=>exact e (h.inj i id k x y (by rw[hb];trivial) HD hβ hy)
  |ar fz cc=>
   cases fz with
   |false=>exact e (h.inj i id k x y (by rw[hb];trivial) HD hβ hy)
   |true=>
    rcases RF with⟨h1,_⟩|⟨k',x',h1,_,_,h4⟩
    ·rw[hβ] at h1;cases h1
    ·rw[hβ] at h1;simp at h1;obtain⟨rfl,rfl⟩:=h1
     exact h4 rfl (.inl ⟨id,y,HD,hy⟩)
  |mv=>exact absurd rfl hmv
 refine⟨by rw[Mf];exact h.dfr,by rw[Ra];exact h.tsz,?_,?_,?_,?_,?_,?_,?_,?_,?_,?_,?_,?_,h.Ylt,?_⟩
 ·intro i hi;show Cg s.tm d v i=_;rw[Ah _ _ (by omega)]
  exact h.tmo i hi
 ·refine Kw (d:=some d) (Q:=fun _ p u=>Dt w' (Cu (Cg (Cg s.hp id (some .mv)) d (some (.ar false cells))) (Cg β d bo) Y) (Cg β d bo) p u) h.tsz (by simp[E4,Nat.blt];omega) (fun i hi=>?_) (fun _=>hv)
  exact (h.tms i hi).step Ey hAo fun j hj=>hβo j (h.wfT i hi j hj)
 ·intro i bi hb;simp only at hb;by_cases e':i=d
  ·subst e';rw[hgd] at hb;cases hb;exact Ir
  ·by_cases e:i=id
   ·subst e;rw[Abb] at hb;cases hb;trivial
   ·rw[GB i e e'] at hb;have hβi:=hβo i (by rw[hb];simp)
    have U7:=h.box i bi hb;cases bi with
    |st cc=>
     obtain⟨k,x,h1,h2,h3⟩:=U7;obtain⟨hk,Mk⟩:=ZZ i k x e e' ⟨_,hb,by simp⟩ h1
     refine⟨k,x,by rw[hβi];exact h1,fun j p hj=>?_,fun j hj=>?_⟩
     ·obtain⟨u,hu,hc⟩:=h2 j p hj;exact⟨u,by rw[World.cell?_of_block (w:=w) Mk];exact hu,hc.step Ey hAo fun q hq=>hβo q (h.wfB i cc hb p (List.mem_of_getElem? hj) q hq)⟩
     ·rw[World.frozen?_of_block (w:=w) Mk];exact h3 j hj
    |ar fz cc=>
     rcases U7 with⟨h1,h2⟩|⟨k,x,h1,h2,h3,h4⟩
     ·exact .inl ⟨by rw[hβi];exact h1,h2⟩
     ·obtain⟨hk,Mk⟩:=ZZ i k x e e' ⟨_,hb,by simp⟩ h1
      refine .inr ⟨k,x,by rw[hβi];exact h1,fun j p hj=>?_,fun ef j hj M8=>?_,fun ef hx=>h4 ef (hAo k hk hx)⟩
      ·obtain⟨u,hu,h5,hc⟩:=h2 j p hj;exact⟨u,by rw[World.cell?_of_block (w:=w) (by rw[D6];exact Mk)];exact hu,h5,hc.step Ey hAo⟩
      ·rw[World.frozen?_of_block (w:=w) Mk];refine h3 ef j hj ?_;unfold bsz at M8 ⊢;rw[Mk] at M8;exact M8
    |mv=>trivial
 ·intro i i' k x y hl Hw hb Gh;simp only at hl Hw
  have key:∀j z,j≠id->j≠d->Ct (s.hp j)->β j=some (k,z)->bo=some (k,y)∨bo=some (k,x)->False:=by
   intro j z e e' hlj hβj hbk;have hk:=h.blt j k z (Cl hlj) hβj;have:∃t,bo=some (k,t):=by rcases hbk with q|q<;>exact⟨_,q⟩
   obtain⟨t,ht⟩:=this;rcases (CU k t ht).2 with Iy|⟨q,hq⟩
   ·omega
   ·exact e (h.inj j id k z q hlj HD hβj hq)
  rcases Fc i hl with rfl|⟨e,e',XQ⟩
  ·rcases Fc i' Hw with rfl|⟨e2,e2',Ak1⟩
   ·rfl
   ·rw[Ak] at hb;rw[Ah _ _ e2'] at Gh;exact (key i' y e2 e2' Ak1 Gh (.inr hb)).elim
  ·rcases Fc i' Hw with rfl|⟨e2,e2',Ak1⟩
   ·rw[Ak] at Gh;rw[Ah _ _ e'] at hb;exact (key i x e e' XQ hb (.inl Gh)).elim
   ·rw[Ah _ _ e'] at hb;rw[Ah _ _ e2'] at Gh;exact h.inj i i' k x y XQ Ak1 hb Gh
 ·intro i k x hi hb;simp only at hi;by_cases e':i=d
  ·subst e';rw[Ak] at hb;exact (CU k x hb).1
  ·rw[Ah _ _ e'] at hb
   have KG:s.hp i≠none:=by
    by_cases e:i=id
    ·subst e;rw[h0];simp
    ·rw[GB i e e'] at hi;exact hi
   exact Nat.lt_of_lt_of_le (h.blt i k x KG hb) GU
 ·have:=Kw (d:=some d) (Q:=fun _ p _=>∀j∈Bq p,Cg (Cg s.hp id (some Bk.mv)) d (some (.ar false cells)) j≠none) (val:=val) (v:=v) h.tsz (by simp[E4,Nat.blt];omega) (fun i hi j hj=>Pj j (h.wfT i hi j hj)) (fun _ j hj=>by
   rw[hr j hj,hgd];simp)
  exact this
 ·intro i cc hc p hp j hj;simp only at hc;by_cases e':i=d
  ·subst e';rw[hgd] at hc;cases hc
  ·by_cases e:i=id
   ·subst e;rw[Abb] at hc;cases hc
   ·rw[GB i e e'] at hc;exact Pj j (h.wfB i cc hc p hp j hj)
 ·rintro k ⟨i,x,hl,hβ⟩
  rcases Fc i hl with rfl|⟨e,e',hl⟩
  ·rw[Ak] at hβ;rcases (CU k x hβ).2 with Iy|⟨y,hy⟩
   ·exact .inr (Nat.le_trans h.fr.step.size Iy)
   ·exact h.ownd k ⟨id,y,HD,hy⟩
  ·rw[Ah _ _ e'] at hβ;exact h.ownd k ⟨i,x,hl,hβ⟩
 ·intro i bi k x U7 hli hβ B2 j hj;simp only at U7;rcases Fc i (by rw[U7];exact hli) with rfl|⟨e,e',hl⟩
  ·rw[Ak] at hβ;rw[hgd] at U7;cases U7;have:=FK k x hβ (Nat.lt_of_lt_of_le B2 h.fr.step.size);exact h.rngB id (.ar false c) k x h0 trivial this B2 j hj
  ·rw[GB i e e'] at U7;rw[Ah _ _ e'] at hβ;exact h.rngB i bi k x U7 hli hβ B2 j hj
 ·intro i hi;exact⟨Pj _ (h.pin i hi).1,by rw[hβo _ (h.pin i hi).1];exact (h.pin i hi).2⟩
 ·intro i cc k x U7 hβ B2;simp only at U7;rcases Fc i (by rw[U7];trivial) with rfl|⟨e,e',hl⟩
  ·rw[hgd] at U7;cases U7
  ·rw[GB i e e'] at U7;rw[Ah _ _ e'] at hβ;exact h.stp i cc k x U7 hβ B2
 ·intro k hY hx;exact h.Yx k hY (hX k (Nat.lt_of_lt_of_le (h.Ylt k hY) h.fr.step.size) hx)
 ·refine⟨hos.trans h.fr.os,htp.trans h.fr.tape,Qt.trans h.fr.output,⟨Nat.le_trans h.fr.step.size GU,fun k hk hnk=>?_,fun k hk=>(h.fr.step.bs k hk).trans (Zu k (Nat.lt_of_lt_of_le hk h.fr.step.size))⟩,fun k j hk hL=>?_⟩
  ·rw[Ib k (Nat.lt_of_lt_of_le hk h.fr.step.size) ?_]
   ·exact h.fr.step.keep k hk hnk
   ·intro x hx;rcases h.ownd k ⟨id,x,HD,hx⟩ with hq|hq
    ·exact hnk hq
    ·omega
  ·have hkw:=Nat.lt_of_lt_of_le hk h.fr.step.size
   have Uj:w'.cell? ⟨k,j,none⟩=w.cell? ⟨k,j,none⟩∧w'.frozen? ⟨k,j,none⟩=w.frozen? ⟨k,j,none⟩:=by
    by_cases e:∃y,β id=some (k,y)
    ·obtain⟨y,hy⟩:=e;refine hO k y hy hkw j ?_;rcases Nat.lt_or_ge j y with q|q
     ·exact q
     ·exact absurd (h.rngB id (.ar false c) k y h0 trivial hy hk j q) hL
    ·have Mk:=Ib k hkw (fun x hx=>e ⟨x,hx⟩)
     exact⟨World.cell?_of_block (w:=w) Mk,World.frozen?_of_block (w:=w) Mk⟩
   rw[Uj.1,Uj.2];exact h.fr.rng k j hk hL
end
open Go.RowKit
section
variable {R:Type} {r:R} {P:Program} {N:Nat} {w0:World} {X0:Gg} {Y:Nat->Prop} {β β':Bt} {s:St} {a:Act} {w w':World} {o:Oper} {A:Nat->Prop}
structure Src (P:Program) (w:World) (A:Nat->Prop) (size:Nat) (xv:Value) (m:Nat) (new:List PV) (news:List Value):Prop where
 len:∀w':World,(Builtin.lenOf xv).run P w'=.ok m w'
 cells:∀w':World,(∀b,b<w.heap.size->w'.heap[b]?=w.heap[b]?)->(Builtin.firstCells size m xv).run P w'=.ok news.toArray w'
 part:∀k,k<=m->(Builtin.firstCells size k xv).run P w=.ok (news.take (k*size)).toArray w
 one:∀u∈news,u.oneCell'=true
 rep:Bc (Aq w A) new news
theorem Xb (h:Cj N w0 X0 Y β s a w){e tx:TypeId}{x:Operand}{K:Nat->List PV->Option R}(hk:LD P s (A6 P e) tx (Bu s.tm x) K=some r)
  (h1c:∀m new,K m new=some r->new.length=m*A6 P e):
  (∃d,P.underlying tx=some d∧(∀k,d ≠ .int k))∧∃m new news,K m new=some r∧Src P w (Cu s.hp β Y) (A6 P e) (a.eval x) m new news:=by
 unfold LD MG at hk;split at hk
 ·rename_i hu;obtain⟨Pf,hk⟩:=Ai hk;have Pf:=Nat.eq_of_beq_eq_true Pf;obtain⟨b,hx,hk⟩:=C6 hk;have Cw:=B0 h hx;refine⟨⟨_,hu,by simp⟩,b.size,L0 b,b.data.toList.map (fun y=>Value.int .u8 y.toNat),hk,?_,?_,?_,?_,?_⟩
  ·intro w';rw[Cw];rfl
  ·intro w' _;rw[Cw]
   have hx:b.data.extract 0 b.size=b.data:=by
    have:b.size=b.data.size:=rfl;rw[this,Array.extract_size]
   have hd:(b.extract 0 b.size).data=b.data:=by
    rw[ByteArray.extract_zero_size]
   simp only[Builtin.firstCells,hd];rw[←Array.toList_map,Array.toArray_toList];rfl
  ·intro k Iy;rw[Cw,Pf,Nat.mul_one];have hd:(b.extract 0 k).data=b.data.extract 0 k:=ByteArray.data_extract
   have e1:(b.data.extract 0 k).map (fun y=>Value.int .u8 y.toNat)=((b.data.toList.map fun y=>Value.int .u8 y.toNat).take k).toArray:=by
    apply Array.toList_inj.1;simp[List.map_take]
   simp only[Builtin.firstCells,hd];rw[e1];rfl
  ·intro u hu;simp at hu;obtain⟨y,_,rfl⟩:=hu;rfl
  ·unfold L0;generalize b.data.toList=l
   induction l with
   |nil=>trivial
   |cons y l ih=>exact⟨Aq.sc _,ih⟩
 ·rename_i e' hu;refine⟨⟨_,hu,by simp⟩,?_⟩
  obtain⟨m,new,hk,hc⟩:=Xi h hk;have Dd:=h1c m new hk;rcases hc with⟨⟨ad,Cw⟩,rfl,rfl⟩|⟨ad,cap,Cw,hn,B2,UF⟩
  ·have f0:∀w':World,(Builtin.firstCells (A6 P e) 0 (.slice ad 0 0)).run P w'=.ok #[] w':=fun w'=>by
    cases ad with
    |none=>rfl
    |some p=>exact run_firstCells_some (P:=P) w' (A6 P e) 0 p 0 0 [] (by simp) (fun j v hj=>by simp at hj)
   exact⟨0,[],[],hk,fun w'=>by rw[Cw];rfl,fun w' _=>by rw[Cw];exact f0 w',fun k Iy=>by rw[Cw,Nat.le_zero.1 Iy,List.take_nil];exact f0 w,by simp,trivial⟩
  ·refine⟨m,new,new.mapIdx (fun j _=>(w.cell? (ad.add j)).getD undef),hk,fun w'=>by rw[Cw];rfl,fun w' hw=>?_,fun k Iy=>?_,?_,?_⟩
   ·rw[Cw];refine run_firstCells_some (P:=P) w' (A6 P e) m ad m cap _ (by simp[Dd]) fun j v hj=>?_
    rw[List.getElem?_mapIdx] at hj;cases hc:new[j]? with
    |none=>rw[hc] at hj;cases hj
    |some c=>
     rw[hc] at hj;simp at hj;obtain⟨u,hu,_⟩:=UF j c hc;rw[hu] at hj;simp at hj;subst hj;have B2:ad.block<w.heap.size:=by rcases B2 with rfl|B2<;>first|exact B2|simp at hc
     rw[World.cell?_of_block (w:=w) (by rw[D6];exact hw _ B2)]
     exact hu
   ·rw[Cw];have hkm:k*A6 P e<=m*A6 P e:=Nat.mul_le_mul_right _ Iy;refine run_firstCells_some (P:=P) w (A6 P e) k ad m cap _ (by rw[List.length_take,List.length_mapIdx,Dd];omega) fun j v hj=>?_
    rw[List.getElem?_take] at hj;split at hj
    ·rw[List.getElem?_mapIdx] at hj;cases hc:new[j]? with
     |none=>rw[hc] at hj;cases hj
     |some c=>
      rw[hc] at hj;simp at hj;obtain⟨u,hu,_⟩:=UF j c hc;rw[hu] at hj;simp at hj;subst hj;exact hu
    ·cases hj
   ·intro u hu;obtain⟨j,hj⟩:=List.mem_iff_getElem?.1 hu;rw[List.getElem?_mapIdx] at hj;cases hc:new[j]? with
    |none=>rw[hc] at hj;cases hj
    |some c=>
     rw[hc] at hj;simp at hj;obtain⟨v,hv,h2,ht⟩:=UF j c hc;rw[hv] at hj;simp at hj;subst hj;exact h2
   ·refine Bc.of_at (by simp) fun j c v hc hj=>?_
    rw[List.getElem?_mapIdx,hc] at hj;simp at hj;obtain⟨u,hu,_,ht⟩:=UF j c hc;rw[hu] at hj;simp at hj;subst hj;exact ht
 ·cases hk
theorem X9 {e:TypeId}(h:DL P e=true):∃i z,P.info? e=some i∧i.zero=some z∧z.cells.size=i.size∧A6 P e=i.size:=by
 unfold DL at h;split at h
 ·rename_i i hi;split at h
  ·rename_i z hz;exact⟨i,z,hi,hz,Nat.eq_of_beq_eq_true h,by simp[A6,hi]⟩
  ·cases h
 ·cases h
theorem Vb {es n cap:Nat}{ad:Option Addr}{olds:List Value}(h:(ad=none∧olds=[])∨∃p,ad=some p∧olds.length=n*es∧∀(j:Nat) v,olds[j]?=some v->w.cell? (p.add j)=some v):
  (Builtin.firstCells es n (.slice ad n cap)).run P w=.ok olds.toArray w:=by
 rcases h with⟨rfl,rfl⟩|⟨p,rfl,hl,hc⟩
 ·rfl
 ·exact run_firstCells_some (P:=P) w es n p n cap olds hl hc
theorem It {t tx ty e:TypeId}{i:TypeInfo}{z:Value}{d:TypeDesc}{ts:List TypeId}(ht:P.underlying t=some (.slice e)) (SD:P.underlying tx=some d)(hd:∀k,d ≠ .int k)(hi:P.info? e=some i)(hz:i.zero=some z)
  {ad:Option Addr} {n cap m:Nat} {xv:Value} {olds news:List Value} {A:Nat->Prop} {new:List PV} (hs:Src P w A i.size xv m new news)
  (hold:(ad=none∧olds=[])∨∃p,ad=some p∧olds.length=n*i.size∧∀(j:Nat) v,olds[j]?=some v->w.cell? (p.add j)=some v)
  (hg:cap<n+m)(hb:(n+m)*i.bytes<=1099511627776) (h63:n+m<=1099511627776):
  (Builtin.append_ (t::tx::ts).toArray ty #[.slice ad n cap,xv]).run P w =
   .ok (.slice (some ⟨w.heap.size,0,none⟩) (n+m) (grownCap w (n+m) cap e)) (w.drew.alloc (.cells (olds.toArray++news.toArray++Builtin.zeroCells z.cells (grownCap w (n+m) cap e-(n+m))) e)):=by
 have h1:=hs.len w;have h2:(Builtin.firstCells i.size m xv).run P w.drew=.ok news.toArray w.drew:=hs.cells w.drew (fun _ _=>rfl)
 have h3:(Builtin.firstCells i.size n (.slice ad n cap)).run P w.drew=.ok olds.toArray w.drew:=Vb (w:=w.drew) (by
  rcases hold with hh|⟨p,hp,hl,hc⟩
  ·exact .inl hh
  ·exact .inr ⟨p,hp,hl,fun j v hj=>hc j v hj⟩)
 have Apz:=growslice_fits (need:=n+m) (old:=cap) (bytes:=i.bytes) hg (by omega)
 have hn:¬(n+m<=cap):=by omega
 have Adi:¬(9223372036854775807<((n:Int)+(m:Int))):=by omega
 have Acu:¬(281474976710656<Builtin.nextslicecap (n+m) cap*i.bytes):=by omega
 have Yv:(match d with | .int _=>true|_=>false)=false:=by cases d<;>first|rfl|exact absurd rfl (hd _)
 simp[Builtin.append_,run_underlying ht,run_underlying SD,Yv,sizeOf,typeInfo,zeroValue,hi,hz,h1,hn,Adi,Acu,Question.forced,h2,h3,newRow,grownCap]
 congr 2
 apply Array.ext';simp[List.append_assoc]
theorem Vg {t tx ty e:TypeId}{i:TypeInfo}{d:TypeDesc}{ts:List TypeId}(ht:P.underlying t=some (.slice e)) (SD:P.underlying tx=some d)(hd:∀k,d ≠ .int k)(hi:P.info? e=some i)
  {b ob n cap m:Nat} {xv:Value} {news:List Value} {A:Nat->Prop} {new:List PV} (hs:Src P w A i.size xv m new news) (hl:news.length=m*i.size)
  (Cn:∀k,k<news.length->(w.cell? ⟨b,ob+n*i.size+k,none⟩).isSome=true) (UI:∀k,k<news.length->w.frozen? ⟨b,ob+n*i.size+k,none⟩=false)(hg:n+m<=cap):
  (Builtin.append_ (t::tx::ts).toArray ty #[.slice (some ⟨b,ob,none⟩) n cap,xv]).run P w=.ok (.slice (some ⟨b,ob,none⟩) (n+m) cap) (w.setCells b (ob+n*i.size) news):=by
 have h1:=hs.len w;have h2:(Builtin.firstCells i.size m xv).run P w=.ok news.toArray w:=hs.cells w (fun _ _=>rfl)
 have h3:=run_storeCells_cells (P:=P) b (ob+n*i.size) news 0 w (fun k hk=>by simpa using Cn k hk) (fun k hk=>by simpa using UI k hk) hs.one
 have Yv:(match d with | .int _=>true|_=>false)=false:=by cases d<;>first|rfl|exact absurd rfl (hd _)
 have _:=hl;simp[Builtin.append_,run_underlying ht,run_underlying SD,Yv,sizeOf,typeInfo,hi,h1,hg,h2,Dy];rw[h3];simp
theorem GW {t ty e:TypeId}{i:TypeInfo}{ts:List TypeId}(ht:P.underlying t=some (.slice e)) (hi:P.info? e=some i)
  {ad:Option Addr} {n cap m:Nat} {xv:Value} {news:List Value} {A:Nat->Prop} {new:List PV} (hs:Src P w A i.size xv m new news)
  {w1:World} (Ey:(match ad with|some p=>storeCells p (news.take (min m n*i.size)) 0|none=>pure ()).run P w=.ok () w1):
  (Builtin.copy_ (t::ts).toArray ty #[.slice ad n cap,xv]).run P w=.ok (goInt ((min m n:Nat):Int)) w1:=by
 have h1:=hs.len w;have h2:=hs.part (min m n) (Nat.min_le_left _ _);have e:Nat.min m n=min m n:=rfl;generalize min m n=k at *
 cases ad with
 |none=>
  simp only at Ey;simp[Builtin.copy_,run_underlying ht,sizeOf,typeInfo,hi,h1,h2,e]
  simpa using Ey
 |some p=>
  simp only at Ey;simp[Builtin.copy_,run_underlying ht,sizeOf,typeInfo,hi,h1,h2,e,Ey]
theorem S2 {t tx ty e:TypeId}{i:TypeInfo}{k kx:IntKind}{ts:List TypeId}(ht:P.underlying t=some (.slice e)) (SD:P.underlying tx=some (.int k)) (hi:P.info? e=some i):
  (Builtin.append_ (t::tx::ts).toArray ty #[.slice none 0 0,.int kx 0]).run P w=.ok (.slice none 0 0) w:=by
 have hw:IntKind.i64.wrap 0=0:=by decide
 simp[Builtin.append_,run_underlying ht,run_underlying SD,sizeOf,typeInfo,hi,asInt,asIntOf,hw]
theorem Vf {t tx ty e:TypeId}{i:TypeInfo}{z:Value}{k kx:IntKind}{ts:List TypeId}(ht:P.underlying t=some (.slice e)) (SD:P.underlying tx=some (.int k)) (hi:P.info? e=some i)(hz:i.zero=some z)
  {n:Int} (h0:0<n) (hb:n.toNat*i.bytes<=1099511627776) (hn:n<=1099511627776):
  (Builtin.append_ (t::tx::ts).toArray ty #[.slice none 0 0,.int kx n]).run P w =
   .ok (.slice (some ⟨w.heap.size,0,none⟩) n.toNat (grownCap w n.toNat 0 e)) (w.drew.alloc (.cells ((if n.toNat*i.size=0 then #[] else Builtin.zeroCells z.cells n.toNat)++Builtin.zeroCells z.cells (grownCap w n.toNat 0 e-n.toNat)) e)):=by
 have hw:IntKind.i64.wrap n=n:=IntWalk.i64_in n (by omega)
 have Apz:=growslice_fits (need:=n.toNat) (old:=0) (bytes:=i.bytes) (by omega) (by omega)
 have Sq:¬n<0:=by omega
 have Pj:¬(281474976710656<n*(i.bytes:Int)):=by
  have:n*(i.bytes:Int)=((n.toNat*i.bytes:Nat):Int):=by
   rw[Int.natCast_mul,Int.toNat_of_nonneg (by omega)]
  omega
 have Fo:¬(n.toNat=0):=by omega
 have Adi:¬(9223372036854775807<(n.toNat:Int)):=by omega
 have Acu:¬(281474976710656<Builtin.nextslicecap n.toNat 0*i.bytes):=by omega
 have Vl:¬n<=0:=by omega
 have hmx:¬(9223372036854775807<max n 0):=by omega
 by_cases hs:n.toNat*i.size=0
 ·simp[Builtin.append_,run_underlying ht,run_underlying SD,sizeOf,typeInfo,zeroValue,hi,hz,asInt,asIntOf,hw,Sq,Pj,Fo,Vl,hmx,Adi,Acu,Question.forced,hs,newRow,grownCap,Builtin.firstCells]
 ·simp[Builtin.append_,run_underlying ht,run_underlying SD,sizeOf,typeInfo,zeroValue,hi,hz,asInt,asIntOf,hw,Sq,Pj,Fo,Vl,hmx,Adi,Acu,Question.forced,hs,newRow,grownCap,Builtin.firstCells]
theorem Iu {t tx ty e:TypeId}{i:TypeInfo}{d:TypeDesc}{ts:List TypeId}(ht:P.underlying t=some (.slice e)) (SD:P.underlying tx=some d)(hd:∀k,d ≠ .int k)(hi:P.info? e=some i)
  {ad:Option Addr} {xv:Value} {news:List Value} {A:Nat->Prop} {new:List PV} (hs:Src P w A i.size xv 0 new news) (h0:news=[]):
  (Builtin.append_ (t::tx::ts).toArray ty #[.slice ad 0 0,xv]).run P w=.ok (.slice ad 0 0) w:=by
 subst h0;have h1:=hs.len w;have h2:(Builtin.firstCells i.size 0 xv).run P w=.ok ([]:List Value).toArray w:=hs.cells w (fun _ _=>rfl)
 have Yv:(match d with | .int _=>true|_=>false)=false:=by cases d<;>first|rfl|exact absurd rfl (hd _)
 cases ad<;>simp[Builtin.append_,run_underlying ht,run_underlying SD,Yv,sizeOf,typeInfo,hi,h1,h2,storeCells]
end
open Go.RowKit
section
variable {R:Type} {r:R} {P:Program} {N:Nat} {w0:World} {X0:Gg} {Y:Nat->Prop} {β β':Bt} {s:St} {a:Act} {w w':World} {o:Oper} {A:Nat->Prop}
theorem XC {b j:Nat}(h:j<bsz w b):(w.cell? ⟨b,j,none⟩).isSome=true:=by
 unfold bsz at h;unfold World.cell?;split at h
 ·rename_i c e fz hb;simp[hb,h]
 ·omega
theorem MQ {id d:Nat}{c cells:List PV}{bo:Option (Nat × Nat)} (h0:s.hp id=some (.ar false c)) (hd:s.hp d=none)
  (CU:∀k x,bo=some (k,x)->w.heap.size<=k∨∃y,β id=some (k,y)):
  ∀k,k<w.heap.size->Cu (Cg (Cg s.hp id (some .mv)) d (some (.ar false cells))) (Cg β d bo) Y k->Cu s.hp β Y k:=by
 rintro k hk (⟨i,x,hl,hβ⟩|hY)
 ·by_cases e':i=d
  ·subst e';rw[Ak] at hβ;rcases CU k x hβ with h|⟨y,hy⟩
   ·omega
   ·exact .inl ⟨id,y,by rw[h0];trivial,hy⟩
  ·rw[Ah _ _ e'] at hl hβ;by_cases e:i=id
   ·subst e;rw[Ak] at hl;exact hl.elim
   ·rw[Ah _ _ e] at hl;exact .inl ⟨i,x,hl,hβ⟩
 ·exact .inr hY
theorem Wf {pre new:List PV}{olds news:List Value}{zs:Array Value}{e:TypeId}{A':Nat->Prop}(hg:E3 w w' (olds.toArray++news.toArray++zs) e) (hA:∀b,b<w.heap.size->A' b->A b)
  (h1:Bc (Aq w A) pre olds) (h2:Bc (Aq w A) new news) (ho:∀u∈olds,u.oneCell'=true)(hn:∀u∈news,u.oneCell'=true):KL w' A' ⟨w.heap.size,0,none⟩ (pre++new):=by
 refine OY hg hA fun j p hj=>?_
 obtain⟨v,hv,ht⟩:=(h1.app h2).get hj;refine⟨v,?_,?_,ht⟩
 ·have B2:j<(olds++news).length:=by
   rcases Nat.lt_or_ge j (olds++news).length with h|h
   ·exact h
   ·rw[List.getElem?_eq_none h] at hv;cases hv
  rw[Array.getElem?_append_left (by simpa using B2)]
  simpa using hv
 ·rcases List.mem_append.1 (List.mem_of_getElem? hv) with hm|hm
  ·exact ho v hm
  ·exact hn v hm
theorem FE (h:Cj N w0 X0 Y β s a w){c:Call}(ho:o.op=.call c)(hc:c.callee=.builtin .append)(hnb:Re c=true){d:Nat}(QW:o.dst=some d){b x:Operand}(Ea:c.args.toList=[b,x]) {t tx:TypeId}{ts:List TypeId}(Vd:c.argTypes.toList=t::tx::ts)
  {K:PV->List (Nat × Bk)->Option R} (hk:Om P (Hb s.hp) d t tx (Bu s.tm x) K=some r):∃v nw,K v nw=some r∧Dq P a w o Y β s v [] nw:=by
 have hb:b=.const (.slice none 0 0):=by
  unfold Re at hnb;rw[Ea] at hnb;split at hnb
  ·rename_i e;injection e
  ·cases hnb
 have Yo:c.args = #[b,x]:=by
  have:c.args=([b,x]:List Operand).toArray:=by rw[←Ea]
  exact this
 have JM:c.argTypes=(t::tx::ts).toArray:=by rw[←Vd]
 have K8:a.eval b=.slice none 0 0:=by rw[hb];rfl
 have run:∀{v:Value} {w1:World},(Builtin.append_ (t::tx::ts).toArray o.type #[a.eval b,a.eval x]).run P w=.ok v w1->(execOp a.eval o).run P w=.ok (.value v) w1:=by
  intro v w1 hr;unfold execOp;rw[ho];simp only[resolve,hc,invoke,builtin,Sem.run_bind,Sem.run_pure,Result.andThen_ok,Yo,JM];have:(#[b,x]:Array Operand).map a.eval = #[a.eval b,a.eval x]:=by simp
  rw[this,hr];rfl
 unfold Om at hk;split at hk
 ·rename_i e hu;obtain⟨TK,hk⟩:=Ai hk;obtain⟨i,z,hi,hz,hzs,Kj⟩:=X9 TK;have Na:((P.info? e).map (·.bytes)).getD 0=i.bytes:=by rw[hi];rfl
  obtain⟨⟨dx,hdx,HY⟩,m,new,news,hk,hs⟩:=Xb (s:=s) h hk (fun m new Iy=>by
   obtain⟨hb,_⟩:=Ai Iy;simp only[Bool.and_eq_true,decide_eq_true_eq] at hb;exact hb.1.1)
  obtain⟨Gh,hk⟩:=Ai hk;simp only[Bool.and_eq_true,decide_eq_true_eq] at Gh;obtain⟨⟨PA,SF⟩,Zs⟩:=Gh;have ZU:new.length=news.length:=hs.rep.len;rw[Kj] at PA hk hs;rw[Na] at SF;have Un:news.length=m*i.size:=by omega
  refine⟨_,_,hk,by simp,?_⟩
  by_cases hm0:m=0
  ·subst hm0;have hr:=Iu (P:=P) (w:=w) (t:=t) (tx:=tx) (ty:=o.type) (ts:=ts) (ad:=none) hu hdx HY hi hs (List.eq_nil_of_length_eq_zero (by omega))
   rw[←K8] at hr;have HH:new=[]:=List.eq_nil_of_length_eq_zero (by omega)
   subst HH;refine⟨_,_,run hr,fun Aah=>⟨Cg β d none,?_⟩⟩
   have Q1:s.hp d=none:=(Bg Aah).1 d _ (List.mem_singleton_self _);rw[K8];refine⟨rfl,rfl,rfl,B1.refl _ _,fun j hj=>Ah _ _ (by rintro rfl;exact hj Q1),?_,?_,?_,?_,?_,.inl ⟨Ak _ _ _,rfl,rfl,none,rfl⟩,?_⟩
   ·intro j bx hm;simp at hm;rw[hm.2];trivial
   ·intro j bx hm;simp at hm;obtain⟨rfl,rfl⟩:=hm;exact .inl ⟨Ak _ _ _,rfl⟩
   ·intro j bx k q hm hq;simp at hm;obtain⟨rfl,rfl⟩:=hm;rw[Ak] at hq;cases hq
   ·intro j bx j' bx' k q q' hm Hn _ _;simp at hm Hn;rw[hm.1,Hn.1]
   ·intro j cells hm;simp at hm
   ·intro j hj;simp[Bq,B5,Al] at hj;subst hj;exact .inr ⟨.ar false [],by simp⟩
  ·have hr:=It (P:=P) (w:=w) (t:=t) (tx:=tx) (ty:=o.type) (ts:=ts) (ad:=none) (n:=0) (cap:=0) (olds:=[]) hu hdx HY hi hz hs (.inl ⟨rfl,rfl⟩) (by omega) (by rw[Nat.zero_add];exact SF) (by omega)
   rw[←K8] at hr;refine⟨_,_,run hr,fun Aah=>⟨Cg β d (some (w.heap.size,0)),?_⟩⟩
   have Q1:s.hp d=none:=(Bg Aah).1 d _ (List.mem_singleton_self _);have UL:0+m<=grownCap w (0+m) 0 e:=grownCap_ge w (0+m) 0 e
   have P8:E3 w (w.drew.alloc (.cells (([]:List Value).toArray++news.toArray++Builtin.zeroCells z.cells (grownCap w (0+m) 0 e-(0+m))) e)) (([]:List Value).toArray++news.toArray++Builtin.zeroCells z.cells (grownCap w (0+m) 0 e-(0+m))) e:=
    ⟨rfl,rfl,rfl,fun k hk=>Below.heap_alloc w.drew _ k hk,by show (w.heap.push _).size=_;simp,(0,0),by show (w.heap.push _)[w.heap.size]?=_;simp,.inl rfl⟩
   have NG:(([]:List Value).toArray++news.toArray++Builtin.zeroCells z.cells (grownCap w (0+m) 0 e-(0+m))).size=grownCap w (0+m) 0 e*i.size:=by
    simp only[Array.size_append,List.size_toArray,size_zeroCells,hzs,Un,List.length_nil,←Nat.add_mul];rw[Nat.zero_add (m*i.size),←Nat.add_mul]
    congr 1
    omega
   refine Lj (s:=⟨s.tm,Ae s.hp []⟩) P8 Q1 trivial ?_ (fun cells hx=>by cases hx) ?_ (by intro j hj;simp[Bq,B5,Al] at hj;exact .inr hj)
   ·refine .inr ⟨w.heap.size,0,Ak _ _ _,?_,fun _ j _ hj=>?_,(fun q=>by cases q)⟩
    ·exact Wf (pre:=[]) P8 (PJ (s:=⟨s.tm,Ae s.hp []⟩) Q1) trivial hs.rep (by simp) hs.one
    ·rw[P8.bsz] at hj;exact P8.frozen hj
   ·refine .inr ⟨w.heap.size,0,0,grownCap w (0+m) 0 e,Ak _ _ _,by rw[Nat.zero_add],.inl rfl,by omega,?_,by rw[P8.size];omega⟩
    exact⟨by rw[P8.bsz,NG];omega,.inr (H6 w.drew _ e)⟩
 ·cases hk
theorem ID {lo hi:Option Operand}{y3:Operand}{k3:IntKind}{len cap l u m:Nat}(hl:(lo=none∧l=0)∨∃y k,lo=some y∧a.eval y=.int k (l:Int))
  (hu:∃y k,hi=some y∧a.eval y=.int k (u:Int)) (hm:a.eval y3=.int k3 (m:Int)) (h1:l<=u)(h2:u<=m)(h3:m<=cap):
  (Instr.sliceBounds true len cap (lo.map a.eval) (hi.map a.eval) (some (a.eval y3))).run P w=.ok (l,u,m) w:=by
 obtain⟨y,k,rfl,hy⟩:=hu;rcases hl with⟨rfl,rfl⟩|⟨y',k',rfl,hy'⟩
 ·simp[Instr.sliceBounds,Instr.sliceBound,asIntOf,hy,hm,h2,h3]
 ·simp[Instr.sliceBounds,Instr.sliceBound,asIntOf,hy,hy',hm,h1,h2,h3]
theorem EK (h:Cj N w0 X0 Y β s a w){t:TypeId}{x m:Operand}{lo hi:Option Operand}(ho:o.op=.slice t x lo hi (some m)) {d:Nat}{K:PV->List (Nat × Bk)->Option R}
  (hk:Oi P d t (Bu s.tm x) (lo.map (Bu s.tm)) (hi.map (Bu s.tm)) (some (Bu s.tm m)) K=some r):∃v nw,K v nw=some r∧Dq P a w o Y β s v [] nw:=by
 have hx:=Cm h x;unfold Oi at hk;split at hk
 ·rename_i e hu;obtain⟨hb,hk⟩:=Ai hk;simp only[Bool.and_eq_true] at hb;obtain⟨K6,hhi⟩:=hb
  obtain⟨yh,rfl⟩:∃y,hi=some y:=by
   cases hi with
   |none=>simp at hhi
   |some y=>exact⟨y,rfl⟩
  have fin:∀{ad:Option Addr} {n cap l u q:Nat},a.eval x=.slice ad n cap->n<=cap->((lo=none∧l=0)∨∃y k,lo=some y∧a.eval y=.int k (l:Int))->((some yh=none∧u=n)∨∃y k,some yh=some y∧a.eval y=.int k (u:Int))->(((some m:Option Operand)=none∧q=n)∨∃y k,(some m:Option Operand)=some y∧a.eval y=.int k (q:Int)) ->
    (Nat.beq l q&&Nat.beq u q&&decide (q<=n))=true->Dq P a w o Y β s (.view d (A6 P e) 0 0) [] [(d,.ar false [])]:=by
   intro ad n cap l u q Cw hn hl G5 hq hb;simp only[Bool.and_eq_true,decide_eq_true_eq] at hb;obtain⟨⟨b1,b2⟩,b3⟩:=hb;have b1:=Nat.eq_of_beq_eq_true b1;have b2:=Nat.eq_of_beq_eq_true b2;subst b1 b2
   have hu2:∃y k,(some yh:Option Operand)=some y∧a.eval y=.int k (u:Int):=by
    rcases G5 with⟨e,_⟩|e
    ·cases e
    ·exact e
   obtain⟨k3,hm3⟩:∃k,a.eval m=.int k (u:Int):=by
    rcases hq with⟨e,_⟩|⟨y,k,e,q⟩
    ·cases e
    ·cases e;exact⟨k,q⟩
   have FK:=ID (P:=P) (w:=w) (len:=n) (cap:=cap) hl hu2 hm3 (Nat.le_refl _) (Nat.le_refl _) (by omega)
   have Cf:∃ad',(execOp a.eval o).run P w=.ok (.value (.slice ad' 0 0)) w:=by
    unfold execOp;rw[ho];cases ad with
    |none=>exact⟨none,by simp[Instr.sliceAt,Instr.slice,run_underlying hu,Cw,FK,Ci K6] at FK ⊢⟩
    |some p=>exact⟨some p,by simp[Instr.sliceAt,Instr.slice,run_underlying hu,Cw,FK,Ci K6] at FK ⊢⟩
   obtain⟨ad',Cf⟩:=Cf;refine⟨by simp,_,_,Cf,fun Aah=>⟨Cg β d none,?_⟩⟩
   have Q1:s.hp d=none:=(Bg Aah).1 d _ (List.mem_singleton_self _);refine⟨rfl,rfl,rfl,B1.refl _ _,fun j hj=>Ah _ _ (by rintro rfl;exact hj Q1),?_,?_,?_,?_,?_,.inl ⟨Ak _ _ _,rfl,rfl,ad',rfl⟩,?_⟩
   ·intro j bx hm;simp at hm;rw[hm.2];trivial
   ·intro j bx hm;simp at hm;obtain⟨rfl,rfl⟩:=hm;exact .inl ⟨Ak _ _ _,rfl⟩
   ·intro j bx k q hm hq;simp at hm;obtain⟨rfl,rfl⟩:=hm;rw[Ak] at hq;cases hq
   ·intro j bx j' bx' k q q' hm Hn _ _;simp at hm Hn;rw[hm.1,Hn.1]
   ·intro j cells hm;simp at hm
   ·intro j hj;simp[Bq,B5,Al] at hj;subst hj;exact .inr ⟨.ar false [],by simp⟩
  split at hk
  ·rename_i id es off n e';rw[e'] at hx;obtain⟨Pf,hk⟩:=Ai hk;obtain⟨l,hk,hl⟩:=Dh h hk;obtain⟨u,hk,G5⟩:=Dh h hk;obtain⟨q,hk,hq⟩:=Dh (x:=some m) h hk;obtain⟨hb,hk⟩:=Ai hk;refine⟨_,_,hk,?_⟩;rcases hx with⟨hβ,_,rfl,ad,Cw⟩|⟨b,ob,y,cap,hβ,Cw,hy,hn,Qw,B2⟩
   ·exact fin Cw (Nat.le_refl _) hl G5 hq hb
   ·exact fin Cw hn hl G5 hq hb
  ·obtain⟨z,n,c,hk,hp⟩:=Eh hk;obtain⟨l,hk,hl⟩:=Dh h hk;obtain⟨u,hk,G5⟩:=Dh h hk;obtain⟨q,hk,hq⟩:=Dh (x:=some m) h hk;obtain⟨hb,hk⟩:=Ai hk;refine⟨_,_,hk,?_⟩;rcases E9 hp hx with⟨Cw,rfl,rfl⟩|⟨ad,cap,Cw,_,hn,_⟩|⟨ad,cap,Cw,_,rfl,rfl⟩
   ·exact fin Cw (Nat.le_refl _) hl G5 hq hb
   ·exact fin Cw hn hl G5 hq hb
   ·exact fin Cw (Nat.zero_le _) hl G5 hq hb
 ·cases hk
end
open Go.RowKit
section
variable {R:Type} {r:R} {P:Program} {N:Nat} {w0:World} {X0:Gg} {Y:Nat->Prop} {β β':Bt} {s:St} {a:Act} {w w':World} {o:Oper} {A:Nat->Prop}
theorem YP (h:Cj N w0 X0 Y β s a w){G:Qi}(H7:JH P G w0 X0){C:Fk}{call:A7}(Df:∀f args res,call f args=some res->Cx G P f args res){K:PV->List Nat->List (Nat × Bk)->Option R}
  (hk:Yr C P N call s.tm (rd s.hp) (Hb s.hp) o K=some r):∃v fz nw,K v fz nw=some r∧Xr P a w o Y β s v fz nw:=by
 have one:∀{K':PV->Option R},(∀v,K' v=some r->K v [] []=some r)->(∃v,K' v=some r∧Dq P a w o Y β s v [] [])->∃v fz nw,K v fz nw=some r∧Xr P a w o Y β s v fz nw:=
  fun hK ⟨v,h1,h2⟩=>⟨v,[],[],hK v h1,Yg h2⟩
 have many:(∃v fz nw,K v fz nw=some r∧Dq P a w o Y β s v fz nw)->∃v fz nw,K v fz nw=some r∧Xr P a w o Y β s v fz nw:=
  fun ⟨v,fz,nw,h1,h2⟩=>⟨v,fz,nw,h1,Yg h2⟩
 unfold Yr at hk;split at hk
 ·rename_i x ho;exact one (fun _ h=>h) (So (K:=fun p=>K p [] []) h (QX ho) hk)
 ·rename_i x ho;exact one (fun _ h=>h) (So (K:=fun p=>K p [] []) h (HP ho) hk)
 ·rename_i c x y ho;exact one (fun _ h=>h) (NV (K:=fun p=>K p [] []) h ho hk)
 ·rename_i t ho;obtain⟨d,hd,hk⟩:=B3 hk;exact many (IH ho hk)
 ·rename_i t x ho;obtain⟨d,hd,hk⟩:=B3 hk;exact many (TA h ho hk)
 ·rename_i t ps ho;exact one (fun _ h=>h) (JI (K:=fun p=>K p [] []) h ho hk)
 ·rename_i t n ps ho;obtain⟨d,hd,hk⟩:=B3 hk;exact many (Tx h ho hk)
 ·rename_i t x ho;exact one (fun _ h=>h) (LV (K:=fun p=>K p [] []) h ho hk)
 ·rename_i x ho;exact one (fun _ h=>h) (X5 (K:=fun p=>K p [] []) h ho hk)
 ·rename_i op t x y ty ho;exact one (fun _ h=>h) (HA (K:=fun p=>K p [] []) h ho hk)
 ·rename_i op t x ho;exact one (fun _ h=>h) (LF (K:=fun p=>K p [] []) h ho hk)
 ·rename_i src dst x ho;obtain⟨v,nw,hk,hg⟩:=LS h ho hk;obtain⟨d,hd,hk⟩:=B3 hk;exact⟨v,[],nw,hk,Yg hg⟩
 ·rename_i t x y ho;obtain⟨d,hd,hk⟩:=B3 hk;exact many (MN h ho hk)
 ·rename_i t x lo hi mx ho;split at hk
  ·exact one (fun _ h=>h) (GE (K:=fun p=>K p [] []) h ho hk)
  ·obtain⟨d,hd,hk⟩:=B3 hk;obtain⟨v,nw,h1,h2⟩:=EK h ho hk;exact⟨v,[],nw,h1,Yg h2⟩
 ·rename_i t x f ho;exact one (fun _ h=>h) (Vi (K:=fun p=>K p [] []) h ho hk)
 ·rename_i t x f ho;exact one (fun _ h=>h) (GO (K:=fun p=>K p [] []) h ho hk)
 ·rename_i t x i ho;exact one (fun _ h=>h) (Vc (K:=fun p=>K p [] []) h ho hk)
 ·rename_i t x i ho;exact one (fun _ h=>h) (GD (K:=fun p=>K p [] []) h ho hk)
 ·rename_i t x k ok ho;exact one (fun _ h=>h) (EX (K:=fun p=>K p [] []) h ho hk)
 ·rename_i x i ho;exact one (fun _ h=>h) (Zl (K:=fun p=>K p [] []) h ho hk)
 ·rename_i c ho;split at hk
  ·rename_i hc;exact one (fun _ h=>h) (RH (K:=fun p=>K p [] []) h ho hc hk)
  ·rename_i hc;exact one (fun _ h=>h) (QM (K:=fun p=>K p [] []) h ho hc hk)
  ·rename_i hc;exact one (fun _ h=>h) (RO (K:=fun p=>K p [] []) h ho hc hk)
  ·rename_i hc;exact one (fun _ h=>h) (TB (K:=fun p=>K p [] []) h ho hc hk)
  ·rename_i hc;obtain⟨hnb,hk⟩:=Ai hk;obtain⟨d,hd,Dn⟩:=B3 hk;obtain⟨b,xs,Y4,D3⟩:=A5 Dn;obtain⟨x,ys,hys,Iq⟩:=A5 D3;obtain⟨T8,O7⟩:=C7 Iq;obtain⟨t,us,UP,NS⟩:=A5 O7;obtain⟨tx,vs,M3,hk6⟩:=A5 NS;rw[hys,T8] at Y4;rw[M3] at UP;obtain⟨v,nw,h1,h2⟩:=FE h ho hc hnb hd Y4 UP hk6;exact⟨v,[],nw,h1,Yg h2⟩
  ·rename_i f hc;exact Wg h H7 Df (fun hf hb=>FW ho hc H7.ng hf hb) hk
  ·rename_i t hc;obtain⟨f,hf0,Dn⟩:=Abu hk;have ht:a.eval (.tmp t)=.func (.func f) #[] #[]:=B0 h (x:=.tmp t) hf0;exact Wg h H7 Df (fun hf hb=>RQ ho hc ht H7.ng hf hb) Dn
  ·cases hk
 ·cases hk
theorem LK (h:Cj N w0 X0 Y β s a w){G:Qi}(H7:JH P G w0 X0){C:Fk}{call:A7}(Df:∀f args res,call f args=some res->Cx G P f args res){K:St->Option R}
  (hk:(Yr C P N call s.tm (rd s.hp) (Hb s.hp) o fun v fz nw=>Tl N s o.dst v fz nw K)=some r):
  ∃s',K s'=some r∧∀(next:Act->World->Prop) (Q:Exit->Act->World->Prop),(∀a' w' β',Cj N w0 X0 Y β' s' a' w'->next a' w')->o.wp P a w next Q:=by
 obtain⟨v,fz,nw,hk,Tc,hg⟩:=YP h H7 Df hk;unfold Tl at hk;obtain⟨hb,hk⟩:=Ai hk;simp only[Bool.and_eq_true] at hb;refine⟨_,hk,fun next Q hn=>hg next Q fun val w' Ey=>?_⟩
 obtain⟨β',st⟩:=Ey hb.2
 have K8:Bn (Ae s.hp fz) nw=true:=by
  have:∀nw,Bn s.hp nw=true->Bn (Ae s.hp fz) nw=true:=by
   intro nw
   induction nw with
   |nil=>intro _;rfl
   |cons q nw ih=>
    obtain⟨i,b⟩:=q;intro hq;simp only[Bn,Bool.and_eq_true,Option.isNone_iff_eq_none] at hq ⊢;exact⟨⟨Dm.2 hq.1.1,hq.1.2⟩,ih hq.2⟩
  exact this nw hb.2
 exact hn _ _ β' ((h.freeze Tc).stepR hb.1 K8 st)
end
open Go.RowKit
section
variable {R:Type} {r:R} {P:Program} {N:Nat} {w0:World} {X0:Gg} {Y:Nat->Prop} {β β':Bt} {s:St} {a:Act} {w w':World} {o:Oper} {A:Nat->Prop}
structure De (b:Nat) (w w':World):Prop where
 os:w'.os=w.os
 tape:w'.tape=w.tape
 output:w'.output=w.output
 size:w'.heap.size=w.heap.size
 other:∀k,k≠b->w'.heap[k]?=w.heap[k]?
 bs:bsz w' b=bsz w b
 frz:∀j,w'.frozen? ⟨b,j,none⟩=w.frozen? ⟨b,j,none⟩
theorem De.grow {b:Nat}(h:De b w w')(k:Nat):Fz w w' k:=by
 by_cases e:k=b
 ·subst e;refine⟨by rw[h.bs];exact Nat.le_refl _,fun q=>?_⟩
  unfold KB at q ⊢;rw[h.bs,h.frz];exact q
 ·exact Fz.same (h.other k e)
theorem De.refl (b:Nat)(w:World):De b w w:=⟨rfl,rfl,rfl,rfl,fun _ _=>rfl,rfl,fun _=>rfl⟩
theorem De.setCell (b j:Nat)(v:Value)(w:World):De b w (w.setCell ⟨b,j,none⟩ v):=by
 refine⟨rfl,rfl,rfl,by simp[World.setCell],fun k hk=>Below.heap_setCell w ⟨b,j,none⟩ v k hk,?_,fun i=>?_⟩
 ·simp only[bsz,World.setCell,Array.getElem?_modify];simp only[if_true];cases h:w.heap[b]? with
  |none=>simp
  |some x=>cases x<;>simp
 ·simp only[World.frozen?,World.setCell,Array.getElem?_modify,if_true];cases h:w.heap[b]? with
  |none=>simp
  |some x=>cases x<;>simp
theorem De.trans {b:Nat}{w'':World}(h:De b w w')(h':De b w' w''):De b w w'':=
 ⟨h'.os.trans h.os,h'.tape.trans h.tape,h'.output.trans h.output,h'.size.trans h.size,fun k hk=>(h'.other k hk).trans (h.other k hk),h'.bs.trans h.bs,fun j=>(h'.frz j).trans (h.frz j)⟩
theorem De.setCells (b:Nat):∀(vs:List Value)(j:Nat)(w:World),De b w (w.setCells b j vs)
 |[],_,w=>De.refl b w
 |v::vs,j,w=>(De.setCell b j v w).trans (De.setCells b vs (j+1) _)
theorem Anz {hp:Nat->Option Bk}{id:Nat}{bx bx':Bk}(h0:hp id=some bx)(hl:Ct (some bx)) (Hw:Ct (some bx')) (b:Nat):EF (Cg hp id (some bx')) β b↔EF hp β b:=by
 constructor
 ·rintro⟨i,o,h1,h2⟩
  by_cases e:i=id
  ·subst e;exact⟨i,o,by rw[h0];exact hl,h2⟩
  ·rw[Ah _ _ e] at h1;exact⟨i,o,h1,h2⟩
 ·rintro⟨i,o,h1,h2⟩
  by_cases e:i=id
  ·subst e;exact⟨i,o,by rw[Ak];exact Hw,h2⟩
  ·exact⟨i,o,by rw[Ah _ _ e];exact h1,h2⟩
theorem Cj.write (h:Cj N w0 X0 Y β s a w){id b ob:Nat}{bx bx':Bk}(h0:s.hp id=some bx)(hl:Ct (some bx)) (Hw:Ct (some bx')) (hβ:β id=some (b,ob)) (hw:De b w w')
  (Ir:Mr w' (Cu s.hp β Y) β id bx') (hr:∀cells,bx'=.st cells->∀c∈cells,∀i∈Al c,s.hp i≠none)
  (hK:∀c',bx'=.st c'->∃c,bx=.st c)(hR:∀j,BR bx' ob j->BR bx ob j)(hO:∀j,¬BR bx ob j->w'.cell? ⟨b,j,none⟩=w.cell? ⟨b,j,none⟩):Cj N w0 X0 Y β ⟨s.tm,Cg s.hp id (some bx')⟩ a w':=by
 have hX:=Anz (β:=β) h0 hl Hw;have hA:∀k,Cu (Cg s.hp id (some bx')) β Y k↔Cu s.hp β Y k:=fun k=>⟨fun x=>x.imp (hX k).1 (fun y=>y),fun x=>x.imp (hX k).2 (fun y=>y)⟩
 have hAb:Cu s.hp β Y b:=.inl ⟨id,ob,by rw[h0];exact hl,hβ⟩
 have Ey:B1 (Cu s.hp β Y) w w':=⟨by rw[hw.size];exact Nat.le_refl _,fun k _ hk=>hw.other k (fun e=>hk (e ▸ hAb)),fun k _=>hw.grow k⟩
 have Pj:∀i,Cg s.hp id (some bx') i≠none↔s.hp i≠none:=by
  intro i;by_cases e:i=id
  ·subst e;rw[Ak,h0];simp
  ·rw[Ah _ _ e]
 have hAe:Cu (Cg s.hp id (some bx')) β Y=Cu s.hp β Y:=funext fun k=>propext (hA k)
 have Rl:∀i,Ct (Cg s.hp id (some bx') i)->Ct (s.hp i):=by
  intro i hi;by_cases e:i=id
  ·subst e;rw[h0];exact hl
  ·rw[Ah _ _ e] at hi;exact hi
 refine⟨h.dfr,h.tsz,h.tmo,fun i hi=>?_,fun i bi hb=>?_,fun i i' k x y h1 h2=>h.inj i i' k x y (Rl i h1) (Rl i' h2),fun i k x hi hk=>?_,fun i hi j hj=>(Pj j).2 (h.wfT i hi j hj),
  fun i cells hc c JD j hj=>(Pj j).2 ?_,fun k hk=>h.ownd k ((hX k).1 hk),fun i bi k x U7 hli hk B2 j hj=>?_,fun i hi=>⟨(Pj _).2 (h.pin i hi).1,(h.pin i hi).2⟩,fun i c k x hc hk B2=>?_,fun k hk x=>h.Yx k hk ((hX k).1 x),h.Ylt,?_⟩
 ·rw[hAe];exact (h.tms i hi).step Ey (fun _ _ x=>x) (fun _ _=>rfl)
 ·rw[hAe];simp only at hb;by_cases e:i=id
  ·subst e;rw[Ak] at hb;cases hb;exact Ir
  ·rw[Ah _ _ e] at hb;have U7:=h.box i bi hb;cases bi with
   |st c=>
    obtain⟨k,x,h1,h2,h3⟩:=U7
    have hk:k≠b:=by
     rintro rfl
     exact e (h.inj i id k x ob (by rw[hb];trivial) (by rw[h0];exact hl) h1 hβ)
    refine⟨k,x,h1,fun j c hj=>?_,fun j hj=>?_⟩
    ·obtain⟨v,hv,hc⟩:=h2 j c hj;exact⟨v,by rw[World.cell?_of_block (w:=w) (hw.other k hk)];exact hv,hc.step Ey (fun _ _ x=>x) (fun _ _=>rfl)⟩
    ·rw[World.frozen?_of_block (w:=w) (hw.other k hk)];exact h3 j hj
   |ar fz c=>
    rcases U7 with hn|⟨k,x,h1,h2,h3,h4⟩
    ·exact .inl hn
    ·have hk:k≠b:=by
      rintro rfl
      cases fz with
      |true=>exact h4 rfl hAb
      |false=>exact e (h.inj i id k x ob (by rw[hb];trivial) (by rw[h0];exact hl) h1 hβ)
     refine .inr ⟨k,x,h1,fun j c hj=>?_,fun ef j hj M8=>?_,h4⟩
     ·obtain⟨v,hv,h5,hc⟩:=h2 j c hj;exact⟨v,by rw[World.cell?_of_block (w:=w) (by rw[D6];exact hw.other k hk)];exact hv,h5,hc.step Ey (fun _ _ x=>x)⟩
     ·rw[World.frozen?_of_block (w:=w) (hw.other k hk)];refine h3 ef j hj ?_;unfold bsz at M8 ⊢;rw[hw.other k hk] at M8;exact M8
   |mv=>trivial
 ·rw[hw.size];exact h.blt i k x ((Pj i).1 hi) hk
 ·simp only at hc;by_cases e:i=id
  ·subst e;rw[Ak] at hc;injection hc with hc;exact hr cells hc c JD j hj
  ·rw[Ah _ _ e] at hc;exact h.wfB i cells hc c JD j hj
 ·simp only at U7;by_cases e:i=id
  ·subst e;rw[Ak] at U7;cases U7;rw[hβ] at hk;cases hk;exact h.rngB i bx b ob h0 hl hβ B2 j (hR j hj)
  ·rw[Ah _ _ e] at U7;exact h.rngB i bi k x U7 hli hk B2 j hj
 ·simp only at hc;by_cases e:i=id
  ·subst e;rw[Ak] at hc;injection hc with hc;obtain⟨c0,rfl⟩:=hK c hc;exact h.stp i c0 k x h0 hk B2
  ·rw[Ah _ _ e] at hc;exact h.stp i c k x hc hk B2
 ·refine⟨hw.os.trans h.fr.os,hw.tape.trans h.fr.tape,hw.output.trans h.fr.output,?_,fun k j hk hL=>?_⟩
  ·refine⟨by rw[hw.size];exact h.fr.step.size,fun k hk hnk=>?_,fun k hk=>(h.fr.step.bs k hk).trans (Ey.bs k (Nat.lt_of_lt_of_le hk h.fr.step.size))⟩
   rw[hw.other k ?_]
   ·exact h.fr.step.keep k hk hnk
   ·rintro rfl
    rcases h.ownd k ⟨id,ob,by rw[h0];exact hl,hβ⟩ with hx|hx
    ·exact hnk hx
    ·omega
  ·by_cases e:k=b
   ·subst e;rw[hO j (fun hj=>hL (h.rngB id bx k ob h0 hl hβ hk j hj)),hw.frz]
    exact h.fr.rng k j hk hL
   ·have hc:w'.cell? ⟨k,j,none⟩=w.cell? ⟨k,j,none⟩:=World.cell?_of_block (w:=w) (hw.other k e);have hf:w'.frozen? ⟨k,j,none⟩=w.frozen? ⟨k,j,none⟩:=World.frozen?_of_block (w:=w) (hw.other k e);rw[hc,hf];exact h.fr.rng k j hk hL
theorem Mm {c cs:List PV}{off j:Nat}{p:PV}(Vl:off+cs.length<=c.length)(h:(Co c cs off)[j]?=some p):
  (off<=j∧j<off+cs.length∧cs[j-off]?=some p)∨((j<off∨off+cs.length<=j)∧c[j]?=some p):=by
 unfold Co at h;by_cases h1:j<off
 ·rw[List.append_assoc,List.getElem?_append_left (by simp;omega),List.getElem?_take_of_lt h1] at h
  exact .inr ⟨.inl h1,h⟩
 ·by_cases h2:j<off+cs.length
  ·rw[List.getElem?_append_left (by simp;omega),List.getElem?_append_right (by simp;omega)] at h
   simp only[List.length_take,Nat.min_eq_left (by omega:off<=c.length)] at h
   exact .inl ⟨by omega,h2,h⟩
  ·rw[List.getElem?_append_right (by simp;omega)] at h
   simp only[List.length_append,List.length_take,Nat.min_eq_left (by omega:off<=c.length),List.getElem?_drop] at h
   rw[show off+cs.length+(j-(off+cs.length))=j from by omega] at h
   exact .inr ⟨.inr (by omega),h⟩
theorem Mn {c cs:List PV}{off:Nat}(Vl:off+cs.length<=c.length):(Co c cs off).length=c.length:=by
 simp[Co];omega
theorem Uf {t:TypeId}{b j:Nat}{v:Value}(Kj:(P.info? t).map (·.size)=some v.cells.size) (hc:∀i,i<v.cells.toList.length->(w.cell? ⟨b,j+i,none⟩).isSome=true)
  (hf:∀i,i<v.cells.toList.length->w.frozen? ⟨b,j+i,none⟩=false)(h1:∀u∈v.cells.toList,u.oneCell'=true):(Instr.storeAt t (.pointer (some ⟨b,j,none⟩)) v).run P w=.ok () (w.setCells b j v.cells.toList):=by
 have:=run_storeCells_cells (P:=P) b j v.cells.toList 0 w (fun i hi=>by simpa using hc i hi) (fun i hi=>by simpa using hf i hi) h1
 simp only[Instr.storeAt,Instr.sureAddr,storeVar,Sem.run_bind,Sem.run_pure,Result.andThen_ok,H2 Kj]
 simpa using this
theorem HI (h:Cj N w0 X0 Y β s a w){t:TypeId}{x y:Operand}(ho:o.op=.store t x y)(hd:o.dst=none){K:St->Option R}(hk:Tn P s t (Bu s.tm x) (Bu s.tm y) K=some r):
  ∃s',K s'=some r∧∀(next:Act->World->Prop) (Q:Exit->Act->World->Prop),(∀a' w' β',Cj N w0 X0 Y β' s' a' w'->next a' w')->o.wp P a w next Q:=by
 have hx:=Cm h x;have Y0:=D9 h x
 have run:∀{b j:Nat},a.eval x=.pointer (some ⟨b,j,none⟩)->(Instr.storeAt t (.pointer (some ⟨b,j,none⟩)) (a.eval y)).run P w=.ok () (w.setCells b j (a.eval y).cells.toList) ->
   ∀(next:Act->World->Prop) (Q:Exit->Act->World->Prop),next a (w.setCells b j (a.eval y).cells.toList)->o.wp P a w next Q:=by
  intro b j Cw hr next Q hn;unfold Oper.wp execOp;rw[ho];simp only[Sem.run_bind,Cw,hr,Result.andThen_ok,Sem.run_pure];show next (a.put o.dst undef) _;rw[hd];exact hn
 unfold Tn at hk;split at hk
 ·rename_i id off e;rw[e] at hx Y0;obtain⟨b,ob,hβ,Cw⟩:=hx;split at hk
  ·rename_i c h0;obtain⟨hb,hk⟩:=Ai hk;simp only[Bool.and_eq_true,decide_eq_true_eq] at hb;obtain⟨⟨hok,hl⟩,Vl⟩:=hb;have hl:=Nat.eq_of_beq_eq_true hl;obtain⟨cs,hk,Jp,h2,h1,hr,_⟩:=PQ (Cm h y) hl hk;obtain⟨_,Aho,Kj⟩:=L1 hok;have hvl:=h2.len;obtain⟨b',o',Eb,Gl,Qr⟩:=h.box id _ h0;rw[hβ] at Eb;simp at Eb;obtain⟨rfl,rfl⟩:=Eb
   have Cn:∀i,i<(a.eval y).cells.toList.length->(w.cell? ⟨b,ob+off+i,none⟩).isSome=true:=by
    intro i hi;obtain⟨v,hv,_⟩:=Gl (off+i) _ (List.getElem?_eq_getElem (by omega))
    rw[Nat.add_assoc,hv];rfl
   have Cf:=Uf (P:=P) (t:=t) (w:=w) (b:=b) (j:=ob+off) (v:=a.eval y) (by rw[Kj,←Aho,←Jp,hvl];simp) Cn (fun i hi=>by rw[Nat.add_assoc];exact Qr _ (by omega)) h1
   refine⟨_,hk,fun next Q hn=>run Cw Cf next Q (hn _ _ β ?_)⟩
   refine h.write h0 trivial trivial hβ (De.setCells b _ _ w) ?_ ?_ (fun _ _=>⟨_,rfl⟩) (fun j hj=>by
    have hj:ob<=j∧j<ob+(Co c cs off).length:=hj;rw[Mn (by omega)] at hj
    exact hj) (fun j hj=>by
    refine World.cell?_setCells_out b _ _ w ⟨b,j,none⟩ (fun _ _=>?_)
    have hj:¬(ob<=j∧j<ob+c.length):=hj;show j<ob+off∨ob+off+_<=j;omega)
   ·have Ey:B1 (Cu s.hp β Y) w (w.setCells b (ob+off) (a.eval y).cells.toList):=by
     have hw:=De.setCells b (a.eval y).cells.toList (ob+off) w;have hAb:Cu s.hp β Y b:=.inl ⟨id,ob,by rw[h0];trivial,hβ⟩
     exact⟨by rw[hw.size];exact Nat.le_refl _,fun k _ hk=>hw.other k (fun e=>hk (e ▸ hAb)),fun k _=>hw.grow k⟩
    refine⟨b,ob,hβ,fun j p hj=>?_,fun j hj=>?_⟩
    ·rcases Mm (by omega) hj with⟨h3,h4,h5⟩|⟨h3,h5⟩
     ·obtain⟨u,hu,hcu⟩:=h2.get h5;have B2:j-off<(a.eval y).cells.toList.length:=by omega
      refine⟨u,?_,hcu.step Ey (fun _ _ x=>x) (fun _ _=>rfl)⟩
      have:=World.cell?_setCells_in b (a.eval y).cells.toList (ob+off) w Cn (j-off) B2;rw[show ob+j=ob+off+(j-off) from by omega,this]
      rw[List.getElem?_eq_getElem B2] at hu;exact hu
     ·obtain⟨v,hv,Uk⟩:=Gl j p h5;refine⟨v,?_,Uk.step Ey (fun _ _ x=>x) (fun _ _=>rfl)⟩
      rw[World.cell?_setCells_out b _ _ w ⟨b,ob+j,none⟩ (fun _ _=>by show ob+j<ob+off∨ob+off+_<=ob+j;omega)]
      exact hv
    ·rw[Mn (by omega)] at hj
     rw[(De.setCells b _ _ w).frz];exact Qr j hj
   ·intro cells hx c' Mi i hi;injection hx with hx;subst hx;unfold Co at Mi;rcases List.mem_append.1 Mi with Mi|Mi
    ·rcases List.mem_append.1 Mi with Mi|Mi
     ·exact h.wfB id c h0 c' (List.mem_of_mem_take Mi) i hi
     ·exact D9 h y i (hr c' Mi i hi)
    ·exact h.wfB id c h0 c' (List.mem_of_mem_drop Mi) i hi
  ·rename_i c h0;obtain⟨hb,hk⟩:=Ai hk;simp only[Bool.and_eq_true,decide_eq_true_eq] at hb;obtain⟨hok,Vl⟩:=hb;obtain⟨cs,m,hk,Jp,Q0,hT,hF,hm,hv⟩:=Ll h hk;obtain⟨Zs,hk⟩:=Ai hk
   have Zs:id ∉ m:=by
    intro hi;have:m.any (Nat.beq id)=true:=List.any_eq_true.2 ⟨id,hi,Nat.beq_refl id⟩;rw[this] at Zs;cases Zs
   obtain⟨_,Aho,Kj⟩:=L1 hok
   have Acp:Bc (Bs w (Cu s.hp β Y) β) (cellsOf (Bu s.tm y)) (a.eval y).cells.toList:=by
    have PU:=Cm h y;cases hp:Bu s.tm y with
    |agg ps=>
     rw[hp] at PU;obtain⟨vs,hay,h2⟩:=PU;rw[hay];exact h2
    |sc v=>
     rw[hp] at PU hF
     have XU:(a.eval y).oneCell'=true:=by
      have:=hv m (fun _ hi=>hi) hm [a.eval y] (by rw[hp];exact⟨PU,trivial⟩)
      exact this.2 _ (by simp)
     rw[Js XU];exact⟨PU,trivial⟩
    |lst z es n cc=>
     rw[hp] at PU hF
     have XU:(a.eval y).oneCell'=true:=by
      have:=hv m (fun _ hi=>hi) hm [a.eval y] (by rw[hp];exact⟨PU,trivial⟩)
      exact this.2 _ (by simp)
     rw[Js XU];exact⟨PU,trivial⟩
    |view i es oo n=>
     rw[hp] at PU hF
     have XU:(a.eval y).oneCell'=true:=by
      have:=hv m (fun _ hi=>hi) hm [a.eval y] (by rw[hp];exact⟨PU,trivial⟩)
      exact this.2 _ (by simp)
     rw[Js XU];exact⟨PU,trivial⟩
    |own es n cc=>
     have hx0:=hF (Bu s.tm y) (by rw[hp];exact List.mem_singleton_self _)
     rw[hp] at hx0;exact hx0.elim
    |ptr i cc=>
     have hx0:=hF (Bu s.tm y) (by rw[hp];exact List.mem_singleton_self _)
     rw[hp] at hx0;exact hx0.elim
    |iptr i cc=>
     have hx0:=hF (Bu s.tm y) (by rw[hp];exact List.mem_singleton_self _)
     rw[hp] at hx0;exact hx0.elim
    |pbox cc=>
     have hx0:=hF (Bu s.tm y) (by rw[hp];exact List.mem_singleton_self _)
     rw[hp] at hx0;exact hx0.elim
    |tup cc=>
     have hx0:=hF (Bu s.tm y) (by rw[hp];exact List.mem_singleton_self _)
     rw[hp] at hx0;exact hx0.elim
    |ub=>
     have hx0:=hF (Bu s.tm y) (by rw[hp];exact List.mem_singleton_self _)
     rw[hp] at hx0;exact hx0.elim
    |top=>
     have hx0:=hF (Bu s.tm y) (by rw[hp];exact List.mem_singleton_self _)
     rw[hp] at hx0;exact hx0.elim
   obtain⟨h2,h1⟩:=hv m (fun _ hi=>hi) hm _ Acp
   have hvl:=h2.len;have hf:=h.freeze hm;have h0':Ae s.hp m id=some (.ar false c):=by rw[Br,if_neg Zs];exact h0
   rcases hf.box id _ h0' with⟨hn,_⟩|⟨b',o',Eb,Gl,Qr,_⟩
   ·rw[hβ] at hn;cases hn
   rw[hβ] at Eb;simp at Eb;obtain⟨rfl,rfl⟩:=Eb
   have Cn:∀i,i<(a.eval y).cells.toList.length->(w.cell? ⟨b,ob+off+i,none⟩).isSome=true:=by
    intro i hi;obtain⟨v,hv,_⟩:=Gl (off+i) _ (List.getElem?_eq_getElem (by omega))
    rw[Dy] at hv;rw[Nat.add_assoc,hv];rfl
   have Cf:=Uf (P:=P) (t:=t) (w:=w) (b:=b) (j:=ob+off) (v:=a.eval y) (by rw[Kj,←Aho,←Jp,hvl];simp) Cn (fun i hi=>by
    obtain⟨u,hu⟩:=Option.isSome_iff_exists.1 (Cn i hi);exact Qr rfl _ (by omega) (Yy hu)) h1
   refine⟨_,hk,fun next Q hn=>run Cw Cf next Q (hn _ _ β ?_)⟩
   refine hf.write h0' trivial trivial hβ (De.setCells b _ _ w) ?_ (fun cells hx=>by cases hx) (fun _ hx=>by cases hx) (fun j hj=>hj) (fun j hj=>by
    refine World.cell?_setCells_out b _ _ w ⟨b,j,none⟩ (fun _ _=>?_)
    have hj:¬(ob<=j):=hj;show j<ob+off∨ob+off+_<=j;omega)
   have Ey:B1 (Cu (Ae s.hp m) β Y) w (w.setCells b (ob+off) (a.eval y).cells.toList):=by
    have hw:=De.setCells b (a.eval y).cells.toList (ob+off) w;have hAb:Cu (Ae s.hp m) β Y b:=.inl ⟨id,ob,by rw[h0'];trivial,hβ⟩
    exact⟨by rw[hw.size];exact Nat.le_refl _,fun k _ hk=>hw.other k (fun e=>hk (e ▸ hAb)),fun k _=>hw.grow k⟩
   refine .inr ⟨b,ob,hβ,fun j p hj=>?_,fun _ j hj M8=>?_,(fun x=>by cases x)⟩
   ·rw[Dy];rcases Mm (by omega) hj with⟨h3,h4,h5⟩|⟨h3,h5⟩
    ·obtain⟨u,hu,hcu⟩:=h2.get h5;have B2:j-off<(a.eval y).cells.toList.length:=by omega
     refine⟨u,?_,h1 u (List.mem_of_getElem? hu),hcu.step Ey (fun _ _ x=>x)⟩
     have:=World.cell?_setCells_in b (a.eval y).cells.toList (ob+off) w Cn (j-off) B2;rw[show ob+j=ob+off+(j-off) from by omega,this]
     rw[List.getElem?_eq_getElem B2] at hu;exact hu
    ·obtain⟨v,hv,h6,Uk⟩:=Gl j p h5;rw[Dy] at hv;refine⟨v,?_,h6,Uk.step Ey (fun _ _ x=>x)⟩
     rw[World.cell?_setCells_out b _ _ w ⟨b,ob+j,none⟩ (fun _ _=>by show ob+j<ob+off∨ob+off+_<=ob+j;omega)]
     exact hv
   ·rw[(De.setCells b _ _ w).bs] at M8;rw[(De.setCells b _ _ w).frz];exact Qr rfl j hj M8
  ·cases hk
 ·cases hk
end
open Go.RowKit
theorem Gv:∀{l l':List Nat},Do (l++l')=true->Do l=true∧Do l'=true∧∀i∈l,i ∉ l'
 |[],l',h=>⟨rfl,h,by simp⟩
 |a::l,l',h=>by
  simp only[List.cons_append,Do,Bool.and_eq_true,Bool.not_eq_true'] at h;obtain⟨h1,h2⟩:=h;obtain⟨h3,h4,h5⟩:=Gv h2
  have hn:∀i∈l++l',a≠i:=by
   rintro i hi rfl
   have:(l++l').any (Nat.beq a)=true:=List.any_eq_true.2 ⟨a,hi,Nat.beq_refl a⟩;rw[this] at h1;cases h1
  refine⟨?_,h4,fun i hi=>?_⟩
  ·simp only[Do,Bool.and_eq_true,Bool.not_eq_true',h3,and_true];rw[List.any_eq_false];intro i hi e;exact hn i (by simp[hi]) (Nat.eq_of_beq_eq_true e)
  ·rcases List.mem_cons.1 hi with rfl|hi
   ·exact fun hm=>hn i (by simp[hm]) rfl
   ·exact h5 i hi
def Fl (β:Bt)(q:Nat × Nat):Option (Nat × Nat):=(β q.1).map fun p=>(p.1,p.2+q.2)
theorem LN (β:Bt)(id:Nat):Fl β (id,0)=β id:=by
 unfold Fl;cases β id<;>rfl
section
variable {R:Type} {r:R} {P:Program} {N:Nat} {w0:World} {X0:Gg} {Y:Nat->Prop} {β β':Bt} {s:St} {a:Act} {w w':World} {o:Oper} {A:Nat->Prop}
theorem Jw {fz:List Nat}{b:Nat}(h:Cu (Ae s.hp fz) β Y b):Cu s.hp β Y b:=h.imp Lg id
theorem VF (h:Cj N w0 X0 Y β s a w){mv:Bool}{t:CT}{p:PV}{K:PV->List Nat->List Nat->Option R}(hk:RA mv s.hp t p K=some r):
  ∃c m q,K c m (Option.toList q)=some r∧isA c∧Zy p∧(∀id∈m,∃f cc,s.hp id=some (.ar f cc))∧(∀id,q=some id->∃cc,s.hp id=some (.ar false cc)) ∧
   ∀fz:List Nat,(∀id∈m,id∈fz)->(∀id∈fz,∃f cc,s.hp id=some (.ar f cc))->∀v,Bs w (Cu s.hp β Y) β p v->E6 w (Cu (Ae s.hp fz) β Y) (q.bind β) c v:=by
 have frz:∀{t:CT} {p:PV} {K:PV->List Nat->List Nat->Option R},(Kl (Hb s.hp) t p fun c m=>K c m [])=some r->∃c m q,K c m (Option.toList q)=some r∧isA c∧Zy p∧(∀id∈m,∃f cc,s.hp id=some (.ar f cc))∧(∀id,q=some id->∃cc,s.hp id=some (.ar false cc)) ∧
   ∀fz:List Nat,(∀id∈m,id∈fz)->(∀id∈fz,∃f cc,s.hp id=some (.ar f cc))->∀v,Bs w (Cu s.hp β Y) β p v->E6 w (Cu (Ae s.hp fz) β Y) (q.bind β) c v:=by
  intro t p K hk;obtain⟨c,m,hk,hT,hF,hm,hv⟩:=Yp h hk;exact⟨c,m,none,hk,.inl hT,hF,hm,by simp,fun fz h1 h2 v hc=>Hv hT (hv fz h1 h2 v hc).1⟩
 have tree:∀{t:CT} {p:PV} {K:PV->List Nat->List Nat->Option R},(∀es,t ≠ .sl es)->(Tk t p fun c=>K c [] [])=some r->∃c m q,K c m (Option.toList q)=some r∧isA c∧Zy p∧(∀id∈m,∃f cc,s.hp id=some (.ar f cc))∧(∀id,q=some id->∃cc,s.hp id=some (.ar false cc)) ∧
   ∀fz:List Nat,(∀id∈m,id∈fz)->(∀id∈fz,∃f cc,s.hp id=some (.ar f cc))->∀v,Bs w (Cu s.hp β Y) β p v->E6 w (Cu (Ae s.hp fz) β Y) (q.bind β) c v:=by
  intro t p K D8 hk;obtain⟨c,hk,hT,Wz,hv⟩:=Jf hk;exact⟨c,[],none,hk,.inl hT,Ma Wz,by simp,by simp,fun fz h1 h2 v hc=>Hv hT ((hv w _ β v hc).1.step (B1.refl _ _) (fun b _ hb=>Jw hb))⟩
 unfold RA at hk;cases t with
 |sl es=>
  dsimp only at hk;cases mv<;>simp only[cond_true,cond_false] at hk
  ·exact frz hk
  ·split at hk
   ·rename_i id es' off n;split at hk
    ·rename_i c h0;cases hb:(Nat.beq es' es&&Nat.beq off 0)<;>rw[hb] at hk<;>simp only[cond_true,cond_false] at hk
     ·exact frz hk
     ·simp only[Bool.and_eq_true] at hb;have he:=Nat.eq_of_beq_eq_true hb.1;have hof:=Nat.eq_of_beq_eq_true hb.2;subst he hof;obtain⟨hl,hk⟩:=Ai hk;refine⟨_,[],some id,hk,.inr ⟨_,_,_,rfl⟩,trivial,by simp,fun i hi=>by cases hi;exact⟨c,h0⟩,fun fz h1 h2 v hc=>?_⟩
      rcases hc with⟨h3,_,rfl,h4⟩|⟨b,ob,x,cap,h3,h4,hx,h5,h6,h7⟩
      ·exact .inl ⟨h3,rfl,by simp,h4⟩
      ·have hx:x=ob:=by rcases hx with e|⟨_,e⟩<;>omega
       subst hx;rcases h.box id _ h0 with⟨h8,_⟩|⟨b',o',h8,h9,h10,_⟩
       ·rw[h3] at h8;cases h8
       ·rw[h3] at h8;cases h8;refine .inr ⟨b,x,cap,h3,h4,h5,h6,h7,fun j p hj=>?_,h10 rfl⟩
        rw[List.getElem?_take] at hj;split at hj
        ·obtain⟨u,hu,h11,ht⟩:=h9 j p hj;exact⟨u,hu,h11,ht.step (B1.refl _ _) (fun b _ hb=>Jw hb)⟩
        ·cases hj
    ·exact frz hk
   ·obtain⟨z,n,c,hk,hp⟩:=Eh hk;have hpF:Zy p:=by rcases hp with e|⟨e,_⟩<;>(rw[e];trivial)
    cases z<;>simp only[cond_true,cond_false] at hk
    ·refine⟨_,[],none,hk,.inl trivial,hpF,by simp,by simp,fun fz h1 h2 v hc=>?_⟩
     exact Hv trivial ((Py hp hc).step (B1.refl _ _) (fun b _ hb=>Jw hb))
    ·refine⟨_,[],none,hk,.inr ⟨_,_,_,rfl⟩,hpF,by simp,by simp,fun fz h1 h2 v hc=>.inl ⟨rfl,rfl,rfl,none,?_⟩⟩
     have:=Py hp hc;cases this;rfl
 |int k=>exact tree (by simp) hk
 |bool=>exact tree (by simp) hk
 |str=>exact tree (by simp) hk
 |any=>exact tree (by simp) hk
theorem Ob (h:Cj N w0 X0 Y β s a w){mv:Bool}:∀{ts:List CT}{ps:List PV}{K:List PV->List Nat->List Nat->Option R},Us mv s.hp ts ps K=some r ->
  ∃cs m x,∃q:Nat->Option Nat,K cs m x=some r∧cs.length=ts.length∧ps.length=ts.length∧(∀c∈cs,isA c)∧(∀p∈ps,Zy p)∧(∀id∈m,∃f cc,s.hp id=some (.ar f cc))∧(∀id∈x,∃cc,s.hp id=some (.ar false cc)) ∧
   (∀j id,q j=some id->id∈x)∧(Do x=true->∀j j' id,q j=some id->q j'=some id->j=j') ∧
   ∀fz:List Nat,(∀id∈m,id∈fz)->(∀id∈fz,∃f cc,s.hp id=some (.ar f cc))->∀vs,Bc (Bs w (Cu s.hp β Y) β) ps vs->∀(own:Bt) j0,(∀j,own (j0+j)=(q j).bind β)->D2 w (Cu (Ae s.hp fz) β Y) own j0 cs vs
 |[],[],K,hk=>⟨[],[],[],fun _=>none,hk,rfl,rfl,by simp,by simp,by simp,by simp,by simp,by simp,fun fz _ _ vs hv own j0 _=>by
   cases vs with
   |nil=>trivial
   |cons v vs=>exact hv.elim⟩
 |[],_::_,K,hk=>by cases hk
 |_::_,[],K,hk=>by cases hk
 |t::ts,p::ps,K,hk=>by
  unfold Us at hk;obtain⟨c,m,q,hk,hA,hF,hm,hq,hv⟩:=VF h hk;obtain⟨cs,ms,xs,qs,hk,hl,Hw,hAs,hFs,Yk,Y4,hqx,hqi,M3⟩:=Ob h hk;refine⟨c::cs,m++ms,q.toList++xs,fun j=>match j with|0=>q|j+1=>qs j,hk,by simp[hl],by simp[Hw],?_,?_,?_,?_,?_,?_,?_⟩
  ·intro x hx;rcases List.mem_cons.1 hx with rfl|hx
   ·exact hA
   ·exact hAs x hx
  ·intro x hx;rcases List.mem_cons.1 hx with rfl|hx
   ·exact hF
   ·exact hFs x hx
  ·intro i hi;rcases List.mem_append.1 hi with hi|hi
   ·exact hm i hi
   ·exact Yk i hi
  ·intro i hi;rcases List.mem_append.1 hi with hi|hi
   ·exact hq i (by simpa using hi)
   ·exact Y4 i hi
  ·intro j id hj;cases j with
   |zero=>exact List.mem_append.2 (.inl (by simpa using hj))
   |succ j=>exact List.mem_append.2 (.inr (hqx j id hj))
  ·intro hn j j' id hj M8;obtain⟨_,h2,h3⟩:=Gv hn;cases j with
   |zero=>
    cases j' with
    |zero=>rfl
    |succ j'=>exact absurd (hqx j' id M8) (h3 id (by simpa using hj))
   |succ j=>
    cases j' with
    |zero=>exact absurd (hqx j id hj) (h3 id (by simpa using M8))
    |succ j'=>rw[hqi h2 j j' id hj M8]
  ·intro fz h1 h2 vs h3 own j0 E2;cases vs with
   |nil=>exact h3.elim
   |cons v vs=>
    refine⟨?_,M3 fz (fun i hi=>h1 i (by simp[hi])) h2 vs h3.2 own (j0+1) fun j=>?_⟩
    ·have:=E2 0;rw[Nat.add_zero] at this;rw[this];exact hv fz (fun i hi=>h1 i (by simp[hi])) h2 v h3.1
    ·have:=E2 (j+1);rw[show j0+1+j=j0+(j+1) by omega]
     exact this
def LOk (hp:Nat->Option Bk)(q:Option (Nat × Nat)) (p:PV)(x:Fe):Prop:=
 match x with
 |.var id off cts ws=>p=.pbox ws∧q=some (id,off)∧cts.length=ws.length∧∃c,hp id=some (.st c)∧off+ws.length<=c.length
 |.row id=>(∃ps,p=.tup ps)∧q=some (id,0)∧∃c,hp id=some (.ar false c)
 |.none=>(∃ps,p=.tup ps)∧q=none
theorem PW {hp:Nat->Option Bk}{q:Option (Nat × Nat)} {p:PV}{x:Fe}(h:LOk hp q p x):Su p=true:=by
 cases x with
 |var id off cts ws=>rw[h.1];rfl
 |row id=>obtain⟨⟨_,e⟩,_⟩:=h;rw[e];rfl
 |none=>obtain⟨⟨_,e⟩,_⟩:=h;rw[e];rfl
def K9 (hp:Nat->Option Bk)(src:Nat->Nat->Option (Nat × Nat)):Nat->List PV->List Fe->Prop
 |_,[],l=>l=[]
 |i,p::ps,l=>(Su p=false∧src i 0=none∧K9 hp src (i+1) ps l)∨∃x l',l=x::l'∧LOk hp (src i 0) p x∧K9 hp src (i+1) ps l'
theorem KR (h:Cj N w0 X0 Y β s a w){C:Fk}{f:FuncId}{i:Nat}{t:TypeId}{x:Operand}{K:PV->List Nat->List Nat->List Fe->Option R}(hk:Tr C P f s.hp i t (Bu s.tm x) K=some r):
  ∃v m y l,∃src:Nat->Option (Nat × Nat),K v m y l=some r∧(∀id∈m,∃f cc,s.hp id=some (.ar f cc))∧(∀id∈y,∃cc,s.hp id=some (.ar false cc)) ∧
   (∀j id off,src (j+1)=some (id,off)->off=0∧id∈y)∧(Do y=true->∀j j' id off off',src (j+1)=some (id,off)->src (j'+1)=some (id,off')->j=j') ∧
   ((l=[]∧Su v=false∧src 0=none)∨∃x',l=[x']∧LOk s.hp (src 0) v x') ∧
   ∀fz:List Nat,(∀id∈m,id∈fz)->(∀id∈fz,∃f cc,s.hp id=some (.ar f cc))->∀bt:Bt,(∀j,bt j=(src j).bind (Fl β))->JT w (Cu (Ae s.hp fz) β Y) bt v (a.eval x):=by
 have hx:=Cm h x
 have R6:∀(q0:Option (Nat × Nat)) (q:Nat->Option Nat),∃src:Nat->Option (Nat × Nat),src 0=q0∧(∀j,src (j+1)=(q j).map fun id=>(id,0)):=
  fun q0 q=>⟨fun j=>match j with|0=>q0|j+1=>(q j).map fun id=>(id,0),rfl,fun _=>rfl⟩
 have GF:∀{src:Nat->Option (Nat × Nat)} {q:Nat->Option Nat} {y:List Nat},(∀j,src (j+1)=(q j).map fun id=>(id,0))->(∀j id,q j=some id->id∈y)->∀j id off,src (j+1)=some (id,off)->off=0∧id∈y:=by
  intro src q y h1 h2 j id off hj;rw[h1] at hj;cases hq:q j with
  |none=>rw[hq] at hj;cases hj
  |some k=>rw[hq] at hj;cases hj;exact⟨rfl,h2 j _ hq⟩
 have HQ:∀{src:Nat->Option (Nat × Nat)} {q:Nat->Option Nat} {y:List Nat},(∀j,src (j+1)=(q j).map fun id=>(id,0))->(Do y=true->∀j j' id,q j=some id->q j'=some id->j=j') ->
   Do y=true->∀j j' id off off',src (j+1)=some (id,off)->src (j'+1)=some (id,off')->j=j':=by
  intro src q y h1 h2 hn j j' id off off' hj M8;rw[h1] at hj M8;cases hq:q j with
  |none=>rw[hq] at hj;cases hj
  |some k=>
   cases En:q j' with
   |none=>rw[En] at M8;cases M8
   |some k'=>
    rw[hq] at hj;rw[En] at M8;cases hj;cases M8;exact h2 hn j j' _ hq En
 have E2:∀{src:Nat->Option (Nat × Nat)} {q:Nat->Option Nat} {bt:Bt},(∀j,src (j+1)=(q j).map fun id=>(id,0))->(∀j,bt j=(src j).bind (Fl β))->∀j,bt (1+j)=(q j).bind β:=by
  intro src q bt h1 h2 j;rw[Nat.add_comm,h2,h1];cases q j with
  |none=>rfl
  |some id=>exact LN β id
 unfold Tr at hk;split at hk
 ·rename_i e he;split at hk
  ·rename_i id off ep;rw[ep] at hx;split at hk
   ·rename_i c h0;obtain⟨hb,hk⟩:=Ai hk;simp only[Bool.and_eq_true,decide_eq_true_eq] at hb;obtain⟨cs,m,y,q,hk,hl,Hw,hA,hF,hm,hy,Pc,Jt,hv⟩:=Ob h hk;obtain⟨src,KD,hs⟩:=R6 (some (id,off)) q;obtain⟨b,ob,hβ,Cw⟩:=hx;refine⟨_,m,y,_,src,hk,hm,hy,GF hs Pc,HQ hs Jt,.inr ⟨_,rfl,rfl,KD,hl.symm,c,h0,by omega⟩,fun fz h1 h2 bt Qa=>?_⟩
    obtain⟨b',o',Eb,Gl,Qr⟩:=h.box id _ h0;rw[hβ] at Eb;cases Eb;have Dd:((c.drop off).take (Gi P e).length).length=(Gi P e).length:=by simp;omega
    have VM:∀j p,((c.drop off).take (Gi P e).length)[j]?=some p->c[off+j]?=some p∧j<(Gi P e).length:=by
     intro j p hj;rw[List.getElem?_take] at hj;split at hj
     ·rw[List.getElem?_drop] at hj;exact⟨hj,by assumption⟩
     ·cases hj
    refine⟨b,ob+off,by rw[Qa,KD];simp[Fl,hβ],Cw,hA,((c.drop off).take (Gi P e).length).mapIdx (fun j _=>(w.cell? ⟨b,ob+off+j,none⟩).getD undef),hv fz h1 h2 _ ?_ bt 1 (E2 hs Qa),?_,fun k hk=>?_⟩
    ·refine Bc.of_at (by simp) fun j p v hp hv=>?_
     obtain⟨hc,_⟩:=VM j p hp;obtain⟨u,hu,FP⟩:=Gl _ _ hc;rw[List.getElem?_mapIdx,hp,Option.map_some,Nat.add_assoc,hu] at hv;simp at hv;subst hv;exact FP
    ·intro k v ST;rw[List.getElem?_mapIdx] at ST;cases hp:((c.drop off).take (Gi P e).length)[k]? with
     |none=>rw[hp] at ST;cases ST
     |some p=>
      obtain⟨hc,_⟩:=VM k p hp;obtain⟨u,hu,FP⟩:=Gl _ _ hc;rw[hp,Option.map_some,Nat.add_assoc,hu] at ST;simp at ST;subst ST;rw[Nat.add_assoc];exact hu
    ·rw[Nat.add_assoc];exact Qr _ (by omega)
   ·cases hk
  ·cases hk
 ·cases hln:C.lnd f i<;>rw[hln] at hk<;>simp only[cond_true,cond_false] at hk
  ·cases Ep:Bw P t<;>rw[Ep] at hk<;>simp only[cond_true,cond_false] at hk
   ·obtain⟨cs,m,y,q,hk,hl,Hw,hA,hF,hm,hy,Pc,Jt,hv⟩:=Ob h hk;obtain⟨c,t',rfl,hk⟩:=A5 hk;obtain⟨rfl,hk⟩:=C7 hk;obtain⟨src,KD,hs⟩:=R6 none q;have hAc:=hA c (by simp)
    refine⟨c,m,y,_,src,hk,hm,hy,GF hs Pc,HQ hs Jt,.inl ⟨rfl,Adz hAc,KD⟩,fun fz h1 h2 bt Qa=>?_⟩
    have hFx:=hF _ (List.mem_singleton_self _)
    have hxc:Bs w (Cu s.hp β Y) β (Bu s.tm x) (a.eval x):=by
     cases hp:Bu s.tm x<;>rw[hp] at hx hFx<;>first|exact hx|exact hFx.elim
    have hoc:=(hv fz h1 h2 [a.eval x] ⟨hxc,trivial⟩ bt 1 (E2 hs Qa)).1;rcases hAc with hT|⟨es,n,cc,rfl⟩
    ·cases c<;>first|exact⟨.inl trivial,hoc⟩|exact hT.elim
    ·exact⟨.inr ⟨_,_,_,rfl⟩,hoc⟩
   ·obtain⟨ps,ep,hk⟩:=F2 hk;rw[ep] at hx;obtain⟨vs,Cw,h3⟩:=hx;obtain⟨cs,m,y,q,hk,hl,Hw,hA,hF,hm,hy,Pc,Jt,hv⟩:=Ob h hk;obtain⟨src,KD,hs⟩:=R6 none q;refine⟨_,m,y,_,src,hk,hm,hy,GF hs Pc,HQ hs Jt,.inl ⟨rfl,rfl,KD⟩,fun fz h1 h2 bt Qa=>?_⟩
    exact⟨vs,Cw,hA,hv fz h1 h2 vs h3 bt 1 (E2 hs Qa)⟩
  ·obtain⟨e,he,hk⟩:=B3 hk;unfold VE at hk;split at hk
   ·rename_i id es' off n ep;rw[ep] at hx;split at hk
    ·rename_i c h0;obtain⟨hb,D3⟩:=Ai hk;simp only[Bool.and_eq_true] at hb;have he:=Nat.eq_of_beq_eq_true hb.1;have hof:=Nat.eq_of_beq_eq_true hb.2;subst hof;obtain⟨src,KD,hs⟩:=R6 (some (id,0)) (fun _=>none)
     refine⟨_,[],[],_,src,D3,by simp,by simp,GF hs (by simp),HQ hs (by simp),.inr ⟨_,rfl,⟨_,rfl⟩,KD,c,h0⟩,fun fz h1 h2 bt Qa=>⟨_,_,_,rfl,?_⟩⟩
     have Zj:bt 0=β id:=by rw[Qa,KD];exact LN β id
     rw[Zj];rcases hx with⟨h3,_,h4,h5⟩|⟨b,ob,y,cap,h3,h4,hy,h5,h6,h7⟩
     ·refine .inl ⟨h3,h4,?_,h5⟩;rcases h.box id _ h0 with⟨_,h8⟩|⟨_,_,h8,_⟩
      ·exact h8
      ·rw[h3] at h8;cases h8
     ·have hy:y=ob:=by rcases hy with e|⟨_,e⟩<;>omega
      subst hy;rcases h.box id _ h0 with⟨h8,_⟩|⟨b',o',h8,h9,h10,_⟩
      ·rw[h3] at h8;cases h8
      ·rw[h3] at h8;cases h8;exact .inr ⟨b,y,cap,h3,h4,h5,by rw[←he];exact h6,h7,h9.weak (fun b _ hb=>Jw hb),h10 rfl⟩
    ·cases hk
   ·obtain⟨z,n,c,hk,hp⟩:=Eh hk;obtain⟨hz,hk⟩:=Ai hk;subst hz;obtain⟨src,KD,hs⟩:=R6 none (fun _=>none)
    have hu:a.eval x=.slice none 0 0:=by
     have hF:Bs w (Cu s.hp β Y) β (Bu s.tm x) (a.eval x):=by rcases hp with e|⟨e,_⟩<;>rw[e] at hx ⊢ <;> exact hx
     have:=Py hp hF;generalize a.eval x=u at this;cases this;rfl
    refine⟨_,[],[],_,src,hk,by simp,by simp,GF hs (by simp),HQ hs (by simp),.inr ⟨_,rfl,⟨_,rfl⟩,KD⟩,fun fz h1 h2 bt Qa=>⟨_,_,_,rfl,.inl ⟨by rw[Qa,KD];rfl,rfl,rfl,none,hu⟩⟩⟩
structure Au7 (i0 n:Nat) (src:Nat->Nat->Option (Nat × Nat)) (ids x:List Nat):Prop where
 dom:∀i j q,src i j=some q->i0<=i∧i<i0+n
 lent:∀i id off,src i 0=some (id,off)->id∈ids
 mvd:∀i j id off,src i (j+1)=some (id,off)->off=0∧id∈x
 inj0:Do ids=true->∀i i' id off off',src i 0=some (id,off)->src i' 0=some (id,off')->i=i'
 inj1:Do x=true->∀i i' j j' id off off',src i (j+1)=some (id,off)->src i' (j'+1)=some (id,off')->i=i'∧j=j'
theorem Qj {hp:Nat->Option Bk}{src src':Nat->Nat->Option (Nat × Nat)}:∀{ps:List PV}{i:Nat}{l:List Fe},(∀k,i<=k->src' k=src k)->K9 hp src i ps l->K9 hp src' i ps l
 |[],_,_,_,h=>h
 |p::ps,i,l,hs,h=>by
  rcases h with⟨h1,h2,h3⟩|⟨x,l',rfl,h2,h3⟩
  ·exact .inl ⟨h1,by rw[hs i (Nat.le_refl _)];exact h2,Qj (fun k hk=>hs k (by omega)) h3⟩
  ·exact .inr ⟨x,l',rfl,by rw[hs i (Nat.le_refl _)];exact h2,Qj (fun k hk=>hs k (by omega)) h3⟩
theorem Ud {bt bt':Ss}:∀{ps:List PV}{us:List Value}{i:Nat},(∀k,i<=k->∀j,bt' k j=bt k j)->Ie w A bt i ps us->Ie w A bt' i ps us
 |[],[],_,_,_=>trivial
 |[],_::_,_,_,h=>h.elim
 |_::_,[],_,_,h=>h.elim
 |_::_,_::_,i,hb,h=>⟨by rw[show bt' i=bt i from funext (hb i (Nat.le_refl _))];exact h.1,Ud (fun k hk=>hb k (by omega)) h.2⟩
theorem AU (h:Cj N w0 X0 Y β s a w){C:Fk}{f:FuncId}:∀{ts:List TypeId}{xs:List Operand}{i:Nat}{K:List PV->List Nat->List Nat->List Fe->Option R},BC C P f s.hp i ts (xs.map (Bu s.tm)) K=some r ->
  ∃vs m y l,∃src:Nat->Nat->Option (Nat × Nat),K vs m y l=some r∧(∀id∈m,∃f cc,s.hp id=some (.ar f cc))∧(∀id∈y,∃cc,s.hp id=some (.ar false cc)) ∧
   Au7 i xs.length src (l.flatMap Fe.ids) y∧K9 s.hp src i vs l ∧
   ∀fz:List Nat,(∀id∈m,id∈fz)->(∀id∈fz,∃f cc,s.hp id=some (.ar f cc))->∀bt:Ss,(∀i j,bt i j=(src i j).bind (Fl β))->Ie w (Cu (Ae s.hp fz) β Y) bt i vs (xs.map a.eval)
 |[],[],i,K,hk=>⟨[],[],[],[],fun _ _=>none,hk,by simp,by simp,⟨by simp,by simp,by simp,by simp,by simp⟩,rfl,fun _ _ _ _ _=>trivial⟩
 |[],_::_,i,K,hk=>by cases hk
 |_::_,[],i,K,hk=>by cases hk
 |t::ts,x::xs,i,K,hk=>by
  simp only[List.map_cons] at hk;unfold BC at hk;obtain⟨v,m,y,l,src,hk,hm,hy,UD,Po,hl,hv⟩:=KR h hk;obtain⟨vs,ms,ys,ls,srcs,hk,Yk,hys,hS,hL,M3⟩:=AU h hk;have R6:∃sr:Nat->Nat->Option (Nat × Nat),sr i=src∧∀k,k≠i->sr k=srcs k:=⟨fun k=>if k=i then src else srcs k,by simp,fun k hk=>by simp[hk]⟩
  obtain⟨sr,hsi,OK⟩:=R6
  have Zd:∀id off,src 0=some (id,off)->id∈l.flatMap Fe.ids:=by
   intro id off e;rcases hl with⟨_,_,h3⟩|⟨x',rfl,h3⟩
   ·rw[h3] at e;cases e
   ·cases x' with
    |var id' off' cts ws=>rw[h3.2.1] at e;cases e;simp[Fe.ids]
    |row id'=>rw[h3.2.1] at e;cases e;simp[Fe.ids]
    |none=>rw[h3.2] at e;cases e
  refine⟨v::vs,m++ms,y++ys,l++ls,sr,hk,?_,?_,⟨?_,?_,?_,?_,?_⟩,?_,fun fz h1 h2 bt Qa=>⟨?_,?_⟩⟩
  ·intro i hi;rcases List.mem_append.1 hi with hi|hi
   ·exact hm i hi
   ·exact Yk i hi
  ·intro i hi;rcases List.mem_append.1 hi with hi|hi
   ·exact hy i hi
   ·exact hys i hi
  ·intro k j q hq;simp only[List.length_cons];by_cases e:k=i
   ·subst e;omega
   ·rw[OK k e] at hq;have:=hS.dom k j q hq;omega
  ·intro k id off hq;rw[List.flatMap_append];by_cases e:k=i
   ·subst e;rw[hsi] at hq;exact List.mem_append.2 (.inl (Zd id off hq))
   ·rw[OK k e] at hq;exact List.mem_append.2 (.inr (hS.lent k id off hq))
  ·intro k j id off hq;by_cases e:k=i
   ·subst e;rw[hsi] at hq;exact⟨(UD j id off hq).1,List.mem_append.2 (.inl (UD j id off hq).2)⟩
   ·rw[OK k e] at hq;exact⟨(hS.mvd k j id off hq).1,List.mem_append.2 (.inr (hS.mvd k j id off hq).2)⟩
  ·intro hn k k' id off off' hq En;rw[List.flatMap_append] at hn;obtain⟨_,h4,h5⟩:=Gv hn;by_cases e:k=i
   ·by_cases e':k'=i
    ·omega
    ·rw[OK k' e'] at En;subst e;rw[hsi] at hq;exact absurd (hS.lent k' id off' En) (h5 id (Zd id off hq))
   ·rw[OK k e] at hq;by_cases e':k'=i
    ·subst e';rw[hsi] at En;exact absurd (hS.lent k id off hq) (h5 id (Zd id off' En))
    ·rw[OK k' e'] at En;exact hS.inj0 h4 k k' id off off' hq En
  ·intro hn k k' j j' id off off' hq En;obtain⟨h3,h4,h5⟩:=Gv hn;by_cases e:k=i
   ·by_cases e':k'=i
    ·subst e;subst e';rw[hsi] at hq En;exact⟨rfl,Po h3 j j' id off off' hq En⟩
    ·rw[OK k' e'] at En;subst e;rw[hsi] at hq;exact absurd (hS.mvd k' j' id off' En).2 (h5 id (UD j id off hq).2)
   ·rw[OK k e] at hq;by_cases e':k'=i
    ·subst e';rw[hsi] at En;exact absurd (hS.mvd k j id off hq).2 (h5 id (UD j' id off' En).2)
    ·rw[OK k' e'] at En;exact hS.inj1 h4 k k' j j' id off off' hq En
  ·have Pg:K9 s.hp sr (i+1) vs ls:=Qj (fun k hk=>OK k (by omega)) hL
   rcases hl with⟨rfl,hnp,h3⟩|⟨x',rfl,h3⟩
   ·exact .inl ⟨hnp,by rw[hsi];exact h3,Pg⟩
   ·exact .inr ⟨x',ls,rfl,by rw[hsi];exact h3,Pg⟩
  ·exact hv fz (fun i hi=>h1 i (by simp[hi])) h2 (bt i) (fun j=>by rw[Qa,hsi])
  ·refine M3 fz (fun i hi=>h1 i (by simp[hi])) h2 (fun k j=>(srcs k j).bind (Fl β)) (fun _ _=>rfl) |> Ud fun k hk j=>?_
   rw[Qa,OK k (by omega)]
end
open Go.RowKit
section
variable {R:Type} {r:R} {P:Program} {N:Nat} {w0:World} {X0:Gg} {Y:Nat->Prop} {β β':Bt} {s:St} {a:Act} {w w':World} {o:Oper} {A:Nat->Prop}
theorem ZI {p:PV}{u:Value}(h:Aq w A p u):Bs w A β p u:=by
 have h0:=h;cases h<;>exact h0
theorem ZT {t:Nat}{ct:CT}{was p:PV}{K:Nat->PV->List (Nat × Bk)->Option R} (hk:QT N t ct was p K=some r):
  (∃c,K t c []=some r∧Ps c∧∀w A q u,E6 w A q p u->Aq w A c u)∨∃es n cc,p=.own es n cc∧K (t+1) (.view (KI N t) es 0 n) [(KI N t,.ar false cc)]=some r:=by
 have tree:∀t',(Tk t' p fun c=>K t c [])=some r->∃c,K t c []=some r∧Ps c∧∀w A q u,E6 w A q p u->Aq w A c u:=by
  intro t' hk;obtain⟨c,hk,hT,Wz,hv⟩:=Jf hk;refine⟨c,hk,hT,fun w A q u h=>(hv w A (fun _=>none) u ?_).1⟩
  cases p<;>first|exact h|exact Wz.elim
 unfold QT at hk;cases ct with
 |sl es=>
  dsimp only at hk;split at hk
  ·unfold FM at hk;split at hk
   ·rename_i es' n c;cases hb:Nat.beq es' es<;>rw[hb] at hk
    ·cases hk
    ·have:=Nat.eq_of_beq_eq_true hb;subst this;exact .inr ⟨_,_,_,rfl,hk⟩
   ·cases hk
  ·have h2:(Tk (.sl es) p fun c=>(match c with | .lst _ es n c=>K t (.lst false es n c) []|_=>none))=some r:=hk
   obtain⟨c,hk,hT,Wz,hv⟩:=Jf h2;split at hk
   ·refine .inl ⟨_,hk,hT,fun w A q u h=>Aq.unz (hv w A (fun _=>none) u ?_).1⟩
    cases p<;>first|exact h|exact Wz.elim
   ·cases hk
 |int k=>exact .inl (tree _ hk)
 |bool=>exact .inl (tree _ hk)
 |str=>exact .inl (tree _ hk)
 |any=>exact .inl (tree _ hk)
theorem Td:∀{cts:List CT}{ws ps:List PV}{t:Nat}{K:Nat->List PV->List (Nat × Bk)->Option R},BK N t cts ws ps K=some r ->
  ∃t' cs bs,∃qs:List (Nat × Nat),K t' cs bs=some r∧cs.length=ps.length∧ps.length=ws.length∧bs.map (·.1)=qs.map (·.1)∧(∀q∈qs,(∃k,q.1=KI N k)∧q.2<ps.length)∧(∀q∈qs,∀q'∈qs,q.2=q'.2->q.1=q'.1) ∧
   (∀i bx,(i,bx)∈bs->∃c,bx=.ar false c)∧(∀c∈cs,∀i∈Al c,∃bx,(i,bx)∈bs) ∧
   ∀(w:World) (A:Nat->Prop) (own β':Bt) (j0:Nat) (us:List Value),(∀q∈qs,β' q.1=own (j0+q.2))->D2 w A own j0 ps us->Bc (Bs w A β') cs us∧∀i bx,(i,bx)∈bs->Mr w A β' i bx
 |[],[],ps,t,K,hk=>by
  obtain⟨rfl,hk⟩:=C7 hk;refine⟨t,[],[],[],hk,rfl,rfl,rfl,by simp,by simp,by simp,by simp,fun w A own β' j0 us _ h=>⟨?_,by simp⟩⟩
  cases us with
  |nil=>trivial
  |cons u us=>exact h.elim
 |[],_::_,_,_,_,hk=>by cases hk
 |_::_,[],_,_,_,hk=>by cases hk
 |ct::cts,x::ws,ps,t,K,hk=>by
  unfold BK at hk;obtain⟨p,ps',Va,Dn⟩:=A5 hk;subst Va;rcases ZT Dn with⟨c,D3,hT,hv⟩|⟨es,n,cc,rfl,D3⟩
  ·obtain⟨t',cs,bs,qs,Iq,hl,Hw,hb,Pc,Jt,Eb,Gl,M3⟩:=Td D3;refine⟨t',c::cs,bs,qs.map (fun q=>(q.1,q.2+1)),Iq,by simp[hl],by simp[Hw],by rw[hb];simp,?_,?_,Eb,?_,fun w A own β' j0 us hβ ho=>?_⟩
   ·intro q hq;obtain⟨q0,O3,rfl⟩:=List.mem_map.1 hq;exact⟨(Pc q0 O3).1,by have:=(Pc q0 O3).2;simp only[List.length_cons];omega⟩
   ·intro q hq q' En e;obtain⟨q0,O3,rfl⟩:=List.mem_map.1 hq;obtain⟨q1,Hf,rfl⟩:=List.mem_map.1 En;exact Jt q0 O3 q1 Hf (by simp only at e;omega)
   ·intro y hy i hi;rcases List.mem_cons.1 hy with rfl|hy
    ·rw[F5 hT] at hi;cases hi
    ·exact Gl y hy i hi
   ·cases us with
    |nil=>exact ho.elim
    |cons u us=>
     obtain⟨h1,h2⟩:=M3 w A own β' (j0+1) us (fun q hq=>by rw[hβ _ (List.mem_map_of_mem hq)];congr 1;simp only;omega) ho.2
     exact⟨⟨ZI (hv w A _ u ho.1),h1⟩,h2⟩
  ·obtain⟨t',cs,bs,qs,Iq,hl,Hw,hb,Pc,Jt,Eb,Gl,M3⟩:=Td D3;refine⟨t',_::cs,(KI N t,.ar false cc)::bs,(KI N t,0)::qs.map (fun q=>(q.1,q.2+1)),Iq,by simp[hl],by simp[Hw],by simp only[List.map_cons,hb];simp,?_,?_,?_,?_,fun w A own β' j0 us hβ ho=>?_⟩
   ·intro q hq;rcases List.mem_cons.1 hq with rfl|hq
    ·exact⟨⟨t,rfl⟩,by simp⟩
    ·obtain⟨q0,O3,rfl⟩:=List.mem_map.1 hq;exact⟨(Pc q0 O3).1,by have:=(Pc q0 O3).2;simp only[List.length_cons];omega⟩
   ·intro q hq q' En e;rcases List.mem_cons.1 hq with rfl|hq
    ·rcases List.mem_cons.1 En with rfl|En
     ·rfl
     ·obtain⟨q0,O3,rfl⟩:=List.mem_map.1 En;simp only at e;omega
    ·obtain⟨q0,O3,rfl⟩:=List.mem_map.1 hq;rcases List.mem_cons.1 En with rfl|En
     ·simp only at e;omega
     ·obtain⟨q1,Hf,rfl⟩:=List.mem_map.1 En;exact Jt q0 O3 q1 Hf (by simp only at e;omega)
   ·intro i bx hm;rcases List.mem_cons.1 hm with e|hm
    ·cases e;exact⟨cc,rfl⟩
    ·exact Eb i bx hm
   ·intro y hy i hi;rcases List.mem_cons.1 hy with rfl|hy
    ·simp only[Al,List.mem_singleton] at hi;subst hi;exact⟨_,List.mem_cons_self⟩
    ·obtain⟨bx,Ir⟩:=Gl y hy i hi;exact⟨bx,List.mem_cons_of_mem _ Ir⟩
   ·cases us with
    |nil=>exact ho.elim
    |cons u us=>
     obtain⟨h1,h2⟩:=M3 w A own β' (j0+1) us (fun q hq=>by rw[hβ _ (List.mem_cons_of_mem _ (List.mem_map_of_mem hq))];congr 1;simp only;omega) ho.2
     have h0:=hβ (KI N t,0) List.mem_cons_self;simp only[Nat.add_zero] at h0;refine⟨⟨?_,h1⟩,fun i bx hm=>?_⟩
     ·rcases ho.1 with⟨h3,rfl,_,h5⟩|⟨b,ob,cap,h3,h4,h5,h6,h7,_⟩
      ·exact .inl ⟨h0.trans h3,rfl,rfl,h5⟩
      ·exact .inr ⟨b,ob,ob,cap,h0.trans h3,h4,.inl rfl,h5,h6,h7⟩
     ·rcases List.mem_cons.1 hm with e|hm
      ·cases e;exact R8 ho.1 h0
      ·exact h2 i bx hm
def MX (hp Ck:Nat->Option Bk)(bs:List (Nat × Bk)) (x:Fe):Prop:=
 match x with
 |.var id off _ ws=>∃c cs,hp id=some (.st c)∧Ck id=some (.st (Co c cs off))∧cs.length=ws.length∧off+cs.length<=c.length∧∀p∈cs,∀i∈Al p,∃bx,(i,bx)∈bs
 |.row id=>∃c cs,hp id=some (.ar false c)∧Ck id=some (.ar false cs)
 |.none=>True
def YA (β β':Bt)(w':World)(A:Nat->Prop)(hp Ck:Nat->Option Bk)(x:Fe):Prop:=
 match x with
 |.var id off _ ws=>∃c cs,hp id=some (.st c)∧Ck id=some (.st (Co c cs off))∧cs.length=ws.length∧off+cs.length<=c.length ∧
   ∀b o,β id=some (b,o)->(∀(j:Nat) p,cs[j]?=some p->∃v,w'.cell? ⟨b,o+off+j,none⟩=some v∧Bs w' A β' p v)∧∀j,j<cs.length->w'.frozen? ⟨b,o+off+j,none⟩=false
 |.row id=>∃cs,Ck id=some (.ar false cs)∧((β id=none∧cs=[])∨∃b o,β id=some (b,o)∧KL w' A ⟨b,o,none⟩ cs∧∀j,o<=j->j<bsz w' b->w'.frozen? ⟨b,j,none⟩=false)
 |.none=>True
theorem Rf {hp Ca Ck:Nat->Option Bk}{bs bs1:List (Nat × Bk)} {x:Fe}(h1:∀i∈x.ids,Ca i=hp i)(hb:∀q∈bs,q∈bs1)(h:MX Ca Ck bs x):MX hp Ck bs1 x:=by
 cases x with
 |var id off cts ws=>
  obtain⟨c,cs,h2,h3,h4,h5,h6⟩:=h;refine⟨c,cs,by rw[←h1 id (by simp[Fe.ids])];exact h2,h3,h4,h5,fun p hp i hi=>?_⟩
  obtain⟨bx,Ir⟩:=h6 p hp i hi;exact⟨bx,hb _ Ir⟩
 |row id=>
  obtain⟨c,cs,h2,h3⟩:=h;exact⟨c,cs,by rw[←h1 id (by simp[Fe.ids])];exact h2,h3⟩
 |none=>trivial
theorem Up {hp Ca Ck:Nat->Option Bk}{x:Fe}(h1:∀i∈x.ids,Ca i=hp i)(h:YA β β' w' A Ca Ck x):YA β β' w' A hp Ck x:=by
 cases x with
 |var id off cts ws=>
  obtain⟨c,cs,h2,h3⟩:=h;exact⟨c,cs,by rw[←h1 id (by simp[Fe.ids])];exact h2,h3⟩
 |row id=>exact h
 |none=>trivial
theorem TO {hp Ca:Nat->Option Bk}{q:Option (Nat × Nat)} {p:PV}{x:Fe}(h1:∀i∈x.ids,Ca i=hp i)(h:LOk hp q p x):LOk Ca q p x:=by
 cases x with
 |var id off cts ws'=>
  obtain⟨h2,h3,h5,c,h6,h7⟩:=h;exact⟨h2,h3,h5,c,by rw[h1 id (by simp[Fe.ids])];exact h6,h7⟩
 |row id=>
  obtain⟨h2,h3,c,h4⟩:=h;exact⟨h2,h3,c,by rw[h1 id (by simp[Fe.ids])];exact h4⟩
 |none=>exact h
theorem R1 {hp Ca:Nat->Option Bk}{src:Nat->Nat->Option (Nat × Nat)}:∀{ps:List PV}{i:Nat}{l:List Fe},(∀i∈l.flatMap Fe.ids,Ca i=hp i)->K9 hp src i ps l->K9 Ca src i ps l
 |[],_,_,_,h=>h
 |p::ps,i,l,hs,h=>by
  rcases h with⟨h1,h2,h3⟩|⟨x,l',rfl,h2,h3⟩
  ·exact .inl ⟨h1,h2,R1 hs h3⟩
  ·exact .inr ⟨x,l',rfl,TO (fun k hk=>hs k (by simp only[List.flatMap_cons,List.mem_append];exact .inl hk)) h2,R1 (fun k hk=>hs k (by simp only[List.flatMap_cons,List.mem_append];exact .inr hk)) h3⟩
theorem OD {own:Bt}{bt:Ss}{j i:Nat}{p:PV}{zs:List PV}{r:List (List PV)} (hp:Su p=false)(h:Px w A own bt j i (p::zs) r):Px w A own bt j (i+1) zs r:=by
 cases p<;>first|exact h|cases hp
theorem Nu {src:Nat->Nat->Option (Nat × Nat)} {β:Bt}:∀{zs:List PV}{l:List Fe}{ro:List (List PV)} {i j t:Nat}{hp:Nat->Option Bk}{K:(Nat->Option Bk)->List (Nat × Bk)->Option R},
  Qp N t l ro hp K=some r->K9 hp src i zs l->Do (l.flatMap Fe.ids)=true ->
  ∃Ck bs,∃qs:List (Nat × Nat),K Ck bs=some r∧bs.map (·.1)=qs.map (·.1)∧(∀q∈qs,(∃k,q.1=KI N k)∧j<=q.2)∧(∀q∈qs,∀q'∈qs,q.2=q'.2->q.1=q'.1)∧(∀i bx,(i,bx)∈bs->∃c,bx=.ar false c) ∧
   (∀i,i ∉ l.flatMap Fe.ids->Ck i=hp i)∧(∀x∈l,MX hp Ck bs x) ∧
   ∀(w':World) (A:Nat->Prop) (own β':Bt) (bt:Ss),(∀q∈qs,β' q.1=own q.2)->(∀i,bt i 0=(src i 0).bind (Fl β))->Px w' A own bt j i zs ro ->
    (∀i bx,(i,bx)∈bs->Mr w' A β' i bx)∧∀x∈l,YA β β' w' A hp Ck x
 |[],l,ro,i,j,t,hp,K,hk,hL,hn=>by
  have hL:l=[]:=hL;subst hL;unfold Qp at hk;obtain⟨rfl,hk⟩:=C7 hk;exact⟨hp,[],[],hk,rfl,by simp,by simp,by simp,fun _ _=>rfl,by simp,fun w' A own β' bt _ _ _=>⟨by simp,by simp⟩⟩
 |p::zs,l0,ro,i,j,t,hp,K,hk,hL0,hn=>by
  rcases hL0 with⟨Q0,_,hL⟩|⟨x,l,rfl,hok,hL⟩
  rotate_left
  ··simp only[List.flatMap_cons] at hn;obtain⟨GQ,WP,hn3⟩:=Gv hn;cases x with
    |var id off cts ws'=>
     obtain⟨rfl,R6,Jp,c,hc,Vl⟩:=hok;unfold Qp at hk;obtain⟨cs,ro',hro,Dn⟩:=A5 hk;subst hro;obtain⟨t',cs',bs,qs,D3,Yl,M6,hb,Pc,Jt,Eb,Gl,hv⟩:=Td Dn;rw[hc] at D3;simp only at D3;change Qp N t' l ro' (Cg hp id (some (.st (Co c cs' off)))) (fun Ck bs'=>K Ck (bs++bs'))=some r at D3
     have LH:id ∉ l.flatMap Fe.ids:=hn3 id (by simp[Fe.ids])
     have TN:K9 (Cg hp id (some (.st (Co c cs' off)))) src (i+1) zs l:=R1 (fun k hkm=>Ah _ _ (fun e=>LH (e ▸ hkm))) hL
     obtain⟨Ck,bs',qs',Iq,Gh,Hf,NI,KP,Ib,hsh,EQ⟩:=Nu (β:=β) (j:=j+cs.length) D3 TN WP;have XD:Ck id=some (.st (Co c cs' off)):=by rw[Ib id LH,Ak]
     have V8:∀x∈l,∀k∈x.ids,Cg hp id (some (.st (Co c cs' off))) k=hp k:=fun x hx k hkm=>Ah _ _ (fun e=>LH (e ▸ List.mem_flatMap.2 ⟨x,hx,hkm⟩))
     refine⟨Ck,bs++bs',qs.map (fun q=>(q.1,j+q.2))++qs',Iq,by simp only[List.map_append,hb,Gh];simp,?_,?_,?_,?_,?_,fun w' A own β' bt hβ Qa ho=>?_⟩
     ·intro q hq;rcases List.mem_append.1 hq with hq|hq
      ·obtain⟨q0,O3,rfl⟩:=List.mem_map.1 hq;exact⟨(Pc q0 O3).1,by simp only;omega⟩
      ·exact⟨(Hf q hq).1,by have:=(Hf q hq).2;omega⟩
     ·intro q hq q' En e;rcases List.mem_append.1 hq with hq|hq
      ·obtain⟨q0,O3,rfl⟩:=List.mem_map.1 hq;have:=(Pc q0 O3).2;rcases List.mem_append.1 En with En|En
       ·obtain⟨q1,Hf,rfl⟩:=List.mem_map.1 En;exact Jt q0 O3 q1 Hf (by simp only at e;omega)
       ·have:=(Hf q' En).2;simp only at e;omega
      ·have h5:=(Hf q hq).2;rcases List.mem_append.1 En with En|En
       ·obtain⟨q1,Amr,rfl⟩:=List.mem_map.1 En;have:=(Pc q1 Amr).2;simp only at e;omega
       ·exact NI q hq q' En e
     ·intro k bx hm;rcases List.mem_append.1 hm with hm|hm
      ·exact Eb k bx hm
      ·exact KP k bx hm
     ·intro k hk;simp only[List.flatMap_cons,List.mem_append,not_or] at hk;rw[Ib k hk.2];exact Ah _ _ (by rintro rfl;exact hk.1 (by simp[Fe.ids]))
     ·intro x hx;rcases List.mem_cons.1 hx with rfl|hx
      ·refine⟨c,cs',hc,XD,by omega,by omega,fun p hp k hk=>?_⟩
       obtain⟨bx,Ir⟩:=Gl p hp k hk;exact⟨bx,List.mem_append.2 (.inl Ir)⟩
      ·exact Rf (V8 x hx) (fun q hq=>List.mem_append.2 (.inr hq)) (hsh x hx)
     ·obtain⟨⟨b,ob,Zj,Dd,vs,hov,Cn,UI⟩,ho⟩:=ho
      ·obtain⟨h1,h2⟩:=hv w' A own β' j vs (fun q hq=>hβ _ (List.mem_append.2 (.inl (List.mem_map_of_mem hq)))) hov
       obtain⟨h3,h4⟩:=EQ w' A own β' bt (fun q hq=>hβ q (List.mem_append.2 (.inr hq))) Qa ho
       refine⟨fun k bx hm=>?_,fun x hx=>?_⟩
       ·rcases List.mem_append.1 hm with hm|hm
        ·exact h2 k bx hm
        ·exact h3 k bx hm
       ·rcases List.mem_cons.1 hx with rfl|hx
        ·refine⟨c,cs',hc,XD,by omega,by omega,fun b1 o1 hβ1=>?_⟩
         have Gl:=Qa i;rw[Zj,R6] at Gl;simp only[Option.bind_some,Fl,hβ1,Option.map_some,Option.some.injEq,Prod.mk.injEq] at Gl;obtain⟨rfl,rfl⟩:=Gl;refine⟨fun k p hp=>?_,fun k hk=>UI k (by omega)⟩
         obtain⟨v,hv,FP⟩:=h1.get hp;exact⟨v,Cn k v hv,FP⟩
        ·exact Up (V8 x hx) (h4 x hx)
    |row id=>
     obtain⟨⟨pz,rfl⟩,R6,c,hc⟩:=hok;unfold Qp at hk;obtain⟨cs,ro',hro,D3⟩:=A5 hk;subst hro;have LH:id ∉ l.flatMap Fe.ids:=hn3 id (by simp[Fe.ids])
     have TN:K9 (Cg hp id (some (.ar false cs))) src (i+1) zs l:=R1 (fun k hkm=>Ah _ _ (fun e=>LH (e ▸ hkm))) hL
     obtain⟨Ck,bs',qs',Iq,Gh,Hf,NI,KP,Ib,hsh,EQ⟩:=Nu (β:=β) (j:=j) D3 TN WP;have XD:Ck id=some (.ar false cs):=by rw[Ib id LH,Ak]
     have V8:∀x∈l,∀k∈x.ids,Cg hp id (some (.ar false cs)) k=hp k:=fun x hx k hkm=>Ah _ _ (fun e=>LH (e ▸ List.mem_flatMap.2 ⟨x,hx,hkm⟩))
     refine⟨Ck,bs',qs',Iq,Gh,Hf,NI,KP,?_,?_,fun w' A own β' bt hβ Qa ho=>?_⟩
     ·intro k hk;simp only[List.flatMap_cons,List.mem_append,not_or] at hk;rw[Ib k hk.2];exact Ah _ _ (by rintro rfl;exact hk.1 (by simp[Fe.ids]))
     ·intro x hx;rcases List.mem_cons.1 hx with rfl|hx
      ·exact⟨c,cs,hc,XD⟩
      ·exact Rf (V8 x hx) (fun q hq=>hq) (hsh x hx)
     ·obtain⟨SB,ho⟩:=ho
      ·obtain⟨h3,h4⟩:=EQ w' A own β' bt hβ Qa ho;refine⟨h3,fun x hx=>?_⟩
       rcases List.mem_cons.1 hx with rfl|hx
       ·refine⟨cs,XD,?_⟩;have Gl:=Qa i;rw[R6] at Gl;simp only[Option.bind_some,LN] at Gl;rw[Gl] at SB;exact SB
       ·exact Up (V8 x hx) (h4 x hx)
    |none=>
     obtain⟨⟨pz,rfl⟩,R6⟩:=hok;unfold Qp at hk;obtain⟨cs,ro',hro,D3⟩:=A5 hk;subst hro;obtain⟨Ck,bs',qs',Iq,Gh,Hf,NI,KP,Ib,hsh,EQ⟩:=Nu (β:=β) (j:=j) D3 hL WP;refine⟨Ck,bs',qs',Iq,Gh,Hf,NI,KP,?_,?_,fun w' A own β' bt hβ Qa ho=>?_⟩
     ·intro k hk;simp only[List.flatMap_cons,List.mem_append,not_or] at hk;exact Ib k hk.2
     ·intro x hx;rcases List.mem_cons.1 hx with rfl|hx
      ·trivial
      ·exact hsh x hx
     ·obtain⟨SB,ho⟩:=ho
      ·obtain⟨h3,h4⟩:=EQ w' A own β' bt hβ Qa ho;refine⟨h3,fun x hx=>?_⟩
       rcases List.mem_cons.1 hx with rfl|hx
       ·trivial
       ·exact h4 x hx
  ·obtain⟨Ck,bs',qs',Iq,Gh,Hf,NI,KP,Ib,hsh,EQ⟩:=Nu (β:=β) (j:=j) hk hL hn;exact⟨Ck,bs',qs',Iq,Gh,Hf,NI,KP,Ib,hsh,fun w' A own β' bt hβ Qa ho=>EQ w' A own β' bt hβ Qa (OD Q0 ho)⟩
end
open Go.RowKit
theorem Es (hp:Nat->Option Bk)(ids:List Nat)(i:Nat):N3 hp ids i=if i∈ids then (hp i).map (fun _=>Bk.mv) else hp i:=by
 unfold N3;by_cases hi:i∈ids
 ·have:ids.any (Nat.beq i)=true:=List.any_eq_true.2 ⟨i,hi,Nat.beq_refl i⟩;rw[this,if_pos hi];rfl
 ·have:ids.any (Nat.beq i)=false:=by
   cases hb:ids.any (Nat.beq i)
   ·rfl
   ·obtain⟨j,hj,e⟩:=List.any_eq_true.1 hb;exact absurd (Nat.eq_of_beq_eq_true e ▸ hj) hi
  rw[this,if_neg hi];rfl
theorem Mj:∀{nw:List (Nat × Bk)} {hp:Nat->Option Bk},Bn hp nw=true->(nw.map (·.1)).Nodup
 |[],_,_=>List.nodup_nil
 |(i,b)::r,hp,h=>by
  simp only[Bn,Bool.and_eq_true,Option.isNone_iff_eq_none,Bool.not_eq_true'] at h;simp only[List.map_cons,List.nodup_cons];refine⟨fun hm=>?_,Mj h.2⟩
  obtain⟨q,hq,e⟩:=List.mem_map.1 hm;have:r.any (fun q=>Nat.beq q.1 i)=true:=List.any_eq_true.2 ⟨q,hq,by rw[e];exact Nat.beq_refl i⟩
  rw[this] at h;cases h.1.2
theorem XB:∀{l:List (Nat × Nat)},(l.map (·.1)).Nodup->∀q∈l,O8 l q.1=some q.2
 |[],_,_,h=>by cases h
 |(j,b)::r,hn,q,hq=>by
  simp only[List.map_cons,List.nodup_cons] at hn;unfold O8;rcases List.mem_cons.1 hq with rfl|hq
  ·simp only[Nat.beq_refl,cond_true]
  ·have:Nat.beq q.1 j=false:=by
    cases hb:Nat.beq q.1 j
    ·rfl
    ·exact absurd (Nat.eq_of_beq_eq_true hb ▸ List.mem_map_of_mem hq) hn.1
   simp only[this,cond_false];exact XB hn.2 q hq
theorem IM:∀{l:List (Nat × Nat)} {i:Nat},i ∉ l.map (·.1)->O8 l i=none
 |[],_,_=>rfl
 |(j,b)::r,i,h=>by
  simp only[List.map_cons,List.mem_cons,not_or] at h;unfold O8
  have:Nat.beq i j=false:=by
   cases hb:Nat.beq i j
   ·rfl
   ·exact absurd (Nat.eq_of_beq_eq_true hb) h.1
  simp only[this,cond_false];exact IM h.2
section
variable {R:Type} {r:R} {P:Program} {N:Nat} {w0:World} {X0:Gg} {Y:Nat->Prop} {β β':Bt} {s:St} {a:Act} {w w':World} {o:Oper} {A A':Nat->Prop}
theorem E6.weak (hA:∀b,b<w.heap.size->A' b->A b){q:Option (Nat × Nat)} {p:PV}{u:Value}(h:E6 w A q p u):E6 w A' q p u:=by
 have tr:∀{p:PV},Aq w A p u->Aq w A' p u:=fun h=>h.step (B1.refl _ _) hA
 cases p with
 |own es n c=>
  rcases h with h|⟨b,ob,cap,h1,h2,h3,h4,h5,h6,h7⟩
  ·exact .inl h
  ·exact .inr ⟨b,ob,cap,h1,h2,h3,h4,h5,h6.weak hA,h7⟩
 |_=>exact tr h
theorem D2.weak (hA:∀b,b<w.heap.size->A' b->A b){own:Bt}:∀{ps:List PV}{us:List Value}{j:Nat},D2 w A own j ps us->D2 w A' own j ps us
 |[],[],_,_=>trivial
 |[],_::_,_,h=>h.elim
 |_::_,[],_,h=>h.elim
 |_::_,_::_,_,h=>⟨h.1.weak hA,D2.weak hA h.2⟩
theorem JT.weak (hA:∀b,b<w.heap.size->A' b->A b){bt:Bt}{p:PV}{u:Value}(h:JT w A bt p u):JT w A' bt p u:=by
 cases p with
 |pbox ps=>
  obtain⟨b,ob,h1,h2,h3,vs,h4,h5⟩:=h;exact⟨b,ob,h1,h2,h3,vs,h4.weak hA,h5⟩
 |tup ps=>
  obtain⟨es,n,c,h1,h2⟩:=h;exact⟨es,n,c,h1,h2.weak hA⟩
 |agg cs=>
  obtain⟨vs,h1,h2,h3⟩:=h;exact⟨vs,h1,h2,h3.weak hA⟩
 |_=>exact⟨h.1,h.2.weak hA⟩
theorem Ie.weak (hA:∀b,b<w.heap.size->A' b->A b){bt:Ss}:∀{ps:List PV}{us:List Value}{i:Nat},Ie w A bt i ps us->Ie w A' bt i ps us
 |[],[],_,_=>trivial
 |[],_::_,_,h=>h.elim
 |_::_,[],_,h=>h.elim
 |_::_,_::_,_,h=>⟨h.1.weak hA,Ie.weak hA h.2⟩
theorem Q3 {bt:Ss}(k:Bool):∀{xs:List Operand}{ps:List PV}{i:Nat},Ie w A bt i ps (xs.map a.eval)->Ie w A bt i (G6 k xs ps) (xs.map a.eval)
 |[],[],_,h=>h
 |[],_::_,_,h=>h
 |_::_,[],_,h=>h
 |x::xs,p::ps,i,h=>by
  simp only[List.map_cons] at h ⊢;refine⟨?_,Q3 k h.2⟩;split
  ·exact⟨.inl trivial,Aq.lnil _ _⟩
  ·exact h.1
theorem EZ (k:Bool)(x:Operand)(xs:List Operand)(p:PV)(ps:List PV):∃p',G6 k (x::xs) (p::ps)=p'::G6 k xs ps∧Su p'=Su p∧(Su p=true->p'=p):=by
 refine⟨_,rfl,?_,fun h=>?_⟩
 ·split
  ·rfl
  ·rfl
 ·split
  ·cases h
  ·rfl
theorem Ms {hp:Nat->Option Bk}{src:Nat->Nat->Option (Nat × Nat)} (k:Bool):∀{xs:List Operand}{ps:List PV}{i:Nat}{l:List Fe},K9 hp src i ps l->K9 hp src i (G6 k xs ps) l
 |[],[],_,_,h=>h
 |[],_::_,_,_,h=>h
 |_::_,[],_,_,h=>h
 |x::xs,p::ps,i,l,h=>by
  obtain⟨p',e,h1,h2⟩:=EZ k x xs p ps;rw[e];rcases h with⟨h3,h4,h5⟩|⟨y,l',rfl,h4,h5⟩
  ·exact .inl ⟨by rw[h1];exact h3,h4,Ms k h5⟩
  ·exact .inr ⟨y,l',rfl,by rw[h2 (PW h4)];exact h4,Ms k h5⟩
theorem Yi {hp:Nat->Option Bk}{src:Nat->Nat->Option (Nat × Nat)}:∀{ps:List PV}{i:Nat}{l:List Fe},K9 hp src i ps l->∀id∈l.flatMap Fe.ids,Ct (hp id)∧∃k off,src k 0=some (id,off)
 |[],_,_,h,id,Bf=>by
  have h:_=[]:=h;rw[h] at Bf;cases Bf
 |p::ps,i,l,h,id,Bf=>by
  rcases h with⟨_,_,h3⟩|⟨x,l',rfl,h2,h3⟩
  ·exact Yi h3 id Bf
  ·simp only[List.flatMap_cons,List.mem_append] at Bf;rcases Bf with Bf|Bf
   ·cases x with
    |var id' off cts ws=>
     simp only[Fe.ids,List.mem_singleton] at Bf;subst Bf;obtain⟨_,h4,_,c,h5,_⟩:=h2;exact⟨by rw[h5];trivial,i,_,h4⟩
    |row id'=>
     simp only[Fe.ids,List.mem_singleton] at Bf;subst Bf;obtain⟨_,h4,c,h5⟩:=h2;exact⟨by rw[h5];trivial,i,_,h4⟩
    |none=>simp[Fe.ids] at Bf
   ·exact Yi h3 id Bf
theorem WQ {hp:Nat->Option Bk}{src:Nat->Nat->Option (Nat × Nat)}:∀{ps:List PV}{i:Nat}{l:List Fe},K9 hp src i ps l->∀k p id off,ps[k]?=some p->src (i+k) 0=some (id,off) ->
   (∃c ws,hp id=some (.st c)∧p=.pbox ws∧off+ws.length<=c.length)∨((∃c,hp id=some (.ar false c))∧off=0∧∃ws,p=.tup ws)
 |[],_,_,_,k,p,id,off,hp,_=>by simp at hp
 |p::ps,i,l,h,k,p',id,off,Ck,hs=>by
  have Pg:∃l',K9 hp src (i+1) ps l':=by
   rcases h with⟨_,_,h3⟩|⟨x,l',_,_,h3⟩<;>exact⟨_,h3⟩
  cases k with
  |succ k=>
   obtain⟨l',h'⟩:=Pg;exact WQ h' k p' id off (by simpa using Ck) (by rw[show i+1+k=i+(k+1) by omega];exact hs)
  |zero=>
   simp only[List.getElem?_cons_zero,Option.some.injEq] at Ck;subst Ck;rw[Nat.add_zero] at hs;rcases h with⟨_,h2,_⟩|⟨x,l',_,h2,_⟩
   ·rw[hs] at h2;cases h2
   ·cases x with
    |var id' off' cts ws=>
     obtain⟨h3,h4,_,c,h5,h6⟩:=h2;rw[hs] at h4;cases h4;exact .inl ⟨c,ws,h5,h3,h6⟩
    |row id'=>
     obtain⟨h3,h4,c,h5⟩:=h2;rw[hs] at h4;cases h4;exact .inr ⟨⟨c,h5⟩,rfl,h3⟩
    |none=>
     have:=h2.2;rw[hs] at this;cases this
theorem IE {hp : Nat -> Option Bk} {src : Nat -> Nat -> Option (Nat × Nat)} {id off : Nat} {cts : List CT} {ws : List PV} : ∀ {ps : List PV} {i : Nat} {l : List Fe}, K9 hp src i ps l -> Fe.var id off cts ws ∈ l ->
      ∃ k, ps[k]? = some (.pbox ws) ∧ src (i + k) 0 = some (id, off)
  | [], _, _, h, hm => by
    have h : _ = [] := h
    rw[h] at hm; cases hm
  | p :: ps, i, l, h, hm => by
    have next : ∀ {l'}, K9 hp src (i + 1) ps l' -> Fe.var id off cts ws ∈ l' -> ∃ k, (p :: ps)[k]? = some (.pbox ws) ∧ src (i + k) 0 = some (id, off) := by
      intro l' h' Hn
      obtain⟨k, h1, h2⟩ := IE h' Hn
      exact⟨k + 1, by simpa using h1, by rw[show i + (k + 1) = i + 1 + k by omega]; exact h2⟩
    rcases h with⟨_, _, h3⟩ | ⟨x, l', rfl, h2, h3⟩
    · exact next h3 hm
    · rcases List.mem_cons.1 hm with e | hm
      · subst e
        obtain⟨h1, h4, _⟩ := h2
        subst h1
        exact⟨0, rfl, h4⟩
      · exact next h3 hm
theorem HX {hp:Nat->Option Bk}{src:Nat->Nat->Option (Nat × Nat)}:∀{ps:List PV}{i:Nat}{l:List Fe},K9 hp src i ps l->∀k id off,i<=k->src k 0=some (id,off)->k<i+ps.length->∃p,ps[k-i]?=some p∧Su p=true
 |[],i,_,_,k,id,off,h1,_,h3=>by simp at h3;omega
 |p::ps,i,l,h,k,id,off,h1,h2,h3=>by
  by_cases e:k=i
  ·subst e;rcases h with⟨_,h4,_⟩|⟨x,l',_,h4,_⟩
   ·rw[h2] at h4;cases h4
   ·exact⟨p,by simp,PW h4⟩
  ·have Pg:∃l',K9 hp src (i+1) ps l':=by
    rcases h with⟨_,_,h3⟩|⟨x,l',_,_,h3⟩<;>exact⟨_,h3⟩
   obtain⟨l',h'⟩:=Pg;obtain⟨q,h5,h6⟩:=HX h' k id off (by omega) h2 (by simp at h3;omega)
   refine⟨q,?_,h6⟩;rw[show k-i=(k-(i+1))+1 by omega]
   simpa using h5
theorem Ie.len {bt:Ss}:∀{ps:List PV}{us:List Value}{i:Nat},Ie w A bt i ps us->ps.length=us.length
 |[],[],_,_=>rfl
 |[],_::_,_,h=>h.elim
 |_::_,[],_,h=>h.elim
 |_::_,_::_,_,h=>by simp[Ie.len h.2]
theorem IJ (h:Cj N w0 X0 Y β s a w){G:Qi}(H7:JH P G w0 X0){C:Fk}{call:A7}(Df:∀f args res,call f args=some res->Cx G P f args res){c:Call}{f:FuncId}(ho:o.op=.call c)(hc:c.callee=.value (.func f))
  {K:St->Option R} (hk:S8 C P N call s o f c K=some r):
  ∃s',K s'=some r∧∀(next:Act->World->Prop) (Q:Exit->Act->World->Prop),(∀a' w' β',Cj N w0 X0 Y β' s' a' w'->next a' w')->o.wp P a w next Q:=by
 unfold S8 at hk;obtain⟨vs0,m,x,l,src,Dn,hm,hx,hS,hL,Ea⟩:=AU h hk;obtain⟨hb,D3⟩:=Ai Dn;simp only[Bool.and_eq_true] at hb;obtain⟨⟨⟨hnd,Aka⟩,hN⟩,QW⟩:=hb;have hN:0<N:=Nat.lt_of_succ_le (Nat.le_of_ble_eq_true hN);obtain⟨ZU,hnx,hlx⟩:=Gv hnd
 have hml:∀i∈m,i ∉ l.flatMap Fe.ids∧i ∉ x:=by
  intro i hi;have:=List.all_eq_true.1 Aka i hi
  have hn:∀k∈l.flatMap Fe.ids++x,i≠k:=by
   rintro k hk rfl
   have h2:(l.flatMap Fe.ids++x).any (Nat.beq i)=true:=List.any_eq_true.2 ⟨i,hk,Nat.beq_refl i⟩;rw[h2] at this;cases this
  exact⟨fun hq=>hn i (by simp only[List.mem_append];exact .inl hq) rfl,fun hq=>hn i (by simp only[List.mem_append];exact .inr hq) rfl⟩
 replace hL:=Ms (C.kz f) (xs:=c.args.toList) hL
 replace Ea:=fun fz h1 h2 bt Qa=>Q3 (a:=a) (C.kz f) (Ea fz h1 h2 bt Qa)
 generalize G6 (C.kz f) c.args.toList vs0=vs at D3 Ea hL;obtain⟨rv,ro,Jp,Iq⟩:=BX D3;obtain⟨ws,bs,O7,hwl,LP,JA,hrs,MJ,hws⟩:=Th (C.shr f) N Iq;obtain⟨L2,NS⟩:=Ai O7;obtain⟨lids,Zd⟩:∃lids,l.flatMap Fe.ids=lids:=⟨_,rfl⟩;rw[Zd] at hS ZU hlx hml;have Apm:∀i,i ∉ x->N3 (Ae s.hp m) x i=Ae s.hp m i:=fun i hi=>by rw[Es,if_neg hi]
 have QB:∀i,i∈lids->N3 (Ae s.hp m) x i=s.hp i:=fun i hi=>by
  rw[Apm i (hlx i hi),Br,if_neg (fun hq=>(hml i hq).1 hi)]
 have hLM:K9 (N3 (Ae s.hp m) x) src 0 vs l:=R1 (fun i hi=>QB i (Zd ▸ hi)) hL
 obtain⟨Ck,bs',qs,hk6,hbq,Pc,Jt,Eb,Ib,hsh,EQ⟩:=Nu (β:=β) (j:=Iz rv) NS hLM (by rw[Zd];exact ZU)
 obtain⟨K8,hk7⟩:=Ai hk6;refine⟨_,hk7,fun next Q hn=>?_⟩
 clear hk Dn D3 Iq O7 NS hk6 hk7;rw[Zd] at Ib;obtain⟨⟨fn,hfn,hfb⟩,Vq⟩:=Df f vs _ Jp;have hf:=h.freeze hm;have SC:=Yi hL;rw[Zd] at SC
 have AX:∀i,i∈lids∨i∈x->Ae s.hp m i=s.hp i:=by
  intro i hi;rw[Br,if_neg];intro hq;rcases hi with hi|hi
  ·exact (hml i hq).1 hi
  ·exact (hml i hq).2 hi
 have Rl:∀i,i∈lids∨i∈x->Ct (s.hp i):=by
  intro i hi;rcases hi with hi|hi
  ·exact (SC i hi).1
  ·obtain⟨cc,WH⟩:=hx i hi;rw[WH];trivial
 have Aod:∀i j id off,src i j=some (id,off)->id∈lids∨id∈x:=by
  intro i j id off hs;cases j with
  |zero=>exact .inl (hS.lent i id off hs)
  |succ j=>exact .inr (hS.mvd i j id off hs).2
 obtain⟨bt,Qa⟩:∃bt:Ss,∀i j,bt i j=(src i j).bind (Fl β):=⟨_,fun _ _=>rfl⟩
 have btS:∀{i j b ob},bt i j=some (b,ob)->∃id off o',src i j=some (id,off)∧β id=some (b,o')∧ob=o'+off∧(id∈lids∨id∈x):=by
  intro i j b ob hb;rw[Qa] at hb;cases hs:src i j with
  |none=>rw[hs] at hb;cases hb
  |some q=>
   rw[hs] at hb;obtain⟨id,off⟩:=q;simp only[Option.bind_some,Fl] at hb;cases hβ:β id with
   |none=>rw[hβ] at hb;cases hb
   |some p=>
    rw[hβ] at hb;obtain⟨b',o'⟩:=p;simp only[Option.map_some,Option.some.injEq,Prod.mk.injEq] at hb;obtain⟨rfl,rfl⟩:=hb;exact⟨id,off,o',rfl,hβ,rfl,Aod i j id off hs⟩
 have btX:∀{b},RN bt b->∃id o',β id=some (b,o')∧(id∈lids∨id∈x):=by
  rintro b ⟨i,j,ob,hb⟩
  obtain⟨id,off,o',_,h2,_,h4⟩:=btS hb;exact⟨id,o',h2,h4⟩
 have hBA:∀b,RN bt b->EF s.hp β b:=fun b hb=>by
  obtain⟨id,o',h1,h2⟩:=btX hb;exact⟨id,o',Rl id h2,h1⟩
 obtain⟨Yc,hYc⟩:∃Yc:Nat->Prop,∀b,Yc b↔((∃id ob,Ct (Ae s.hp m id)∧β id=some (b,ob)∧id ∉ lids∧id ∉ x)∨Y b):=⟨_,fun _=>Iff.rfl⟩
 have Dd:vs.length=c.args.toList.length:=by
  have:=(Ea m (fun _ hi=>hi) hm bt Qa).len
  simpa using this
 have A14:Ins w Yc bt vs (c.args.toList.map a.eval):=by
  refine⟨fun b hb=>?_,fun b hb hB=>?_,fun b hB=>?_,fun i j i' j' b ob ob' hb Gh=>?_,fun i q hq=>?_,?_⟩
  ·rcases (hYc b).1 hb with⟨id,ob,hl,hβ,_⟩|hY
   ·exact hf.blt id b ob (Cl hl) hβ
   ·exact Nat.lt_of_lt_of_le (h.Ylt b hY) h.fr.step.size
  ·obtain⟨id',o',h1,h2⟩:=btX hB;rcases (hYc b).1 hb with⟨id,ob,hl,hβ,h3,h4⟩|hY
   ·have:=hf.inj id id' b ob o' hl (by show Ct (Ae s.hp m id');rw[AX id' h2];exact Rl id' h2) hβ h1
    subst this;rcases h2 with h2|h2
    ·exact h3 h2
    ·exact h4 h2
   ·exact h.Yx b hY ⟨id',o',Rl id' h2,h1⟩
  ·obtain⟨id',o',h1,h2⟩:=btX hB;exact h.blt id' b o' (Cl (Rl id' h2)) h1
  ·obtain⟨id,off,o1,h1,h2,_,h4⟩:=btS hb;obtain⟨id',off',o1',EY,h2',_,h4'⟩:=btS Gh;have:=h.inj id id' b o1 o1' (Rl id h4) (Rl id' h4') h2 h2';subst this;cases j with
   |zero=>
    cases j' with
    |zero=>exact⟨hS.inj0 ZU i i' id off off' h1 EY,rfl⟩
    |succ j'=>exact absurd (hS.mvd i' j' id off' EY).2 (hlx id (hS.lent i id off h1))
   |succ j=>
    cases j' with
    |zero=>exact absurd (hS.mvd i j id off h1).2 (hlx id (hS.lent i' id off' EY))
    |succ j'=>
     obtain⟨h5,h6⟩:=hS.inj1 hnx i i' j j' id off off' h1 EY;exact⟨h5,by rw[h6]⟩
  ·obtain⟨b,ob⟩:=q;obtain⟨id,off,o',h1,_⟩:=btS hq;obtain⟨p,hp,h2⟩:=HX hL i id off (Nat.zero_le _) h1 (by have:=hS.dom i 0 _ h1;rw[Dd];exact this.2)
   exact⟨p,by simpa using hp,h2⟩
  ·refine (Ea m (fun _ hi=>hi) hm bt Qa).weak fun b _ hb=>?_
   rcases hb with hb|hb
   ·obtain⟨id',o',h1,h2⟩:=btX hb;exact .inl ⟨id',o',by rw[AX id' h2];exact Rl id' h2,h1⟩
   ·rcases (hYc b).1 hb with⟨id,ob,hl,hβ,_⟩|hY
    ·exact .inl ⟨id,ob,hl,hβ⟩
    ·exact .inr hY
 unfold Oper.wp;rw[FW ho hc H7.ng hfn hfb];show Calls P f _ w _;have hca:c.args.map a.eval=(c.args.toList.map a.eval).toArray:=by rw[←List.map_toArray,Array.toArray_toList]
 rw[hca];refine (Vq w Yc bt _ A14 (H7.fr w h.fr) (fun b x=>⟨Nat.lt_of_lt_of_le (H7.y b x).1 h.fr.step.size,fun hB=>(h.ownd b (hBA b hB)).elim (H7.y b x).2 (fun Vl=>absurd (H7.y b x).1 (Nat.not_lt.2 Vl))⟩)).mono ?_
 rintro e w' ⟨us,own,rfl,out⟩
 obtain⟨ha1,Hz⟩:=Bg K8;obtain⟨UC,hg2⟩:=Dr (hp:=Ck) Hz;have LC:=Mj K8;rw[List.map_append,List.nodup_append] at LC;obtain⟨A5v,Aoi,Aye⟩:=LC;rw[hbq] at Aoi
 obtain⟨β1,hβ1,hβ2⟩:∃β1:Bt,(∀i,(∃bx,(i,bx)∈bs)->β1 i=own ((i-o.dst.getD N) / N))∧∀i,(¬∃bx,(i,bx)∈bs)->β1 i=match O8 qs i with|some j=>own j|none=>β i:=by
  refine⟨fun i=>if (bs.any fun q=>Nat.beq q.1 i)=true then own ((i-o.dst.getD N) / N) else match O8 qs i with|some j=>own j|none=>β i,fun i hi=>?_,fun i hi=>?_⟩
  ·show (if _ then _ else _)=_
   rw[if_pos (EP.2 hi)]
  ·show (if _ then _ else _)=_
   rw[if_neg (fun hq=>hi (EP.1 hq))]
 have hβbs:∀j,(∃bx,(o.dst.getD N+N*j,bx)∈bs)->β1 (o.dst.getD N+N*j)=own (0+j):=by
  intro j hj;rw[hβ1 _ hj,Nat.add_sub_cancel_left,Nat.mul_div_cancel_left _ hN,Nat.zero_add]
 have hqb:∀q∈qs,∃bx,(q.1,bx)∈bs':=by
  intro q hq;have:q.1∈bs'.map (·.1):=by rw[hbq];exact List.mem_map_of_mem hq
  obtain⟨⟨i,bx⟩,hm,e⟩:=List.mem_map.1 this;exact⟨bx,e ▸ hm⟩
 have Aw5:∀i bx,(i,bx)∈bs'->∃j,(i,j)∈qs:=by
  intro i bx hm;have:i∈qs.map (·.1):=by rw[←hbq];exact List.mem_map.2 ⟨_,hm,rfl⟩
  obtain⟨⟨i',j⟩,hm,e⟩:=List.mem_map.1 this;exact⟨j,e ▸ hm⟩
 have hbb:∀i,(∃bx,(i,bx)∈bs')->¬∃bx,(i,bx)∈bs:=by
  rintro i ⟨bx,hm⟩ ⟨bx',Hn⟩
  exact Aye i (List.mem_map.2 ⟨_,Hn,rfl⟩) i (List.mem_map.2 ⟨_,hm,rfl⟩) rfl
 have hβqs:∀q∈qs,β1 q.1=own q.2:=by
  intro q hq;rw[hβ2 q.1 (hbb q.1 (hqb q hq)),XB Aoi q hq]
 have hβold:∀i,Ck i≠none->β1 i=β i:=by
  intro i hi
  have GQ:¬∃bx,(i,bx)∈bs:=by
   rintro⟨bx,hm⟩
   exact hi (ha1 i bx (List.mem_append.2 (.inl hm)))
  rw[hβ2 i GQ,IM];intro hm;obtain⟨q,hq,e⟩:=List.mem_map.1 hm;obtain⟨bx,Ir⟩:=hqb q hq;exact hi (ha1 i bx (List.mem_append.2 (.inr (e ▸ Ir))))
 obtain⟨M3,hba⟩:=hws w' _ own β1 w.heap.size 0 us hβbs out.vals;obtain⟨Ay3,Ao9⟩:=EQ w' _ own β1 bt hβqs (fun i=>Qa i 0) out.outs
 have Ae1:∀id∈lids,∃y∈l,id∈y.ids:=by
  intro id Bf;rw[←Zd] at Bf;exact List.mem_flatMap.1 Bf
 have Adr:∀id∈lids,(∃off c cs,s.hp id=some (.st c)∧Ck id=some (.st (Co c cs off))∧off+cs.length<=c.length∧(∀p∈cs,∀i∈Al p,∃bx,(i,bx)∈bs'))∨∃c cs,s.hp id=some (.ar false c)∧Ck id=some (.ar false cs):=by
  intro id Bf;obtain⟨y,hy,VZ⟩:=Ae1 id Bf;have h1:=hsh y hy;cases y with
  |var id' off cts ws'=>
   simp only[Fe.ids,List.mem_singleton] at VZ;subst VZ;obtain⟨c1,cs,h2,h3,h4,h5,h6⟩:=h1;rw[QB id Bf] at h2;exact .inl ⟨off,c1,cs,h2,h3,h5,h6⟩
  |row id'=>
   simp only[Fe.ids,List.mem_singleton] at VZ;subst VZ;obtain⟨c1,cs,h2,h3⟩:=h1;rw[QB id Bf] at h2;exact .inr ⟨c1,cs,h2,h3⟩
  |none=>simp[Fe.ids] at VZ
 have Ay7:∀id∈lids,Ck id≠none:=by
  intro id Bf;rcases Adr id Bf with⟨_,_,_,_,h2,_⟩|⟨_,_,_,h2⟩<;>rw[h2]<;>simp
 have hpK:∀id,id ∉ lids->Ck id=N3 (Ae s.hp m) x id:=fun id Bf=>Ib id Bf
 have Pj:∀i,s.hp i≠none->Ck i≠none:=by
  intro i hi;by_cases hl:i∈lids
  ·exact Ay7 i hl
  ·rw[hpK i hl,Es];have h1:Ae s.hp m i≠none:=fun e=>hi (Dm.1 e)
   split
   ·cases hq:Ae s.hp m i with
    |none=>exact absurd hq h1
    |some b=>simp
   ·exact h1
 have Ac9:∀i,(s.hp i≠none∨∃bx,(i,bx)∈bs++bs')->Am Ck (bs++bs') i≠none:=by
  rintro i (hi|⟨bx,hm⟩)
  ·have h1:=Pj i hi;rw[hg2 i (fun bx hm=>h1 (ha1 i bx hm))]
   exact h1
  ·rw[UC i bx hm];simp
 have Ft:∀id,(∃bx,(id,bx)∈bs++bs')∨Am Ck (bs++bs') id=Ck id:=fun id=>by
  by_cases hx:∃bx,(id,bx)∈bs++bs'
  ·exact .inl hx
  ·exact .inr (hg2 id fun bx hb=>hx ⟨bx,hb⟩)
 have hold:∀id bx,Ck id=some bx->Ct (some bx)->Ct (s.hp id)∧id ∉ x∧(id∈lids∨(id ∉ lids∧Ae s.hp m id=some bx)):=by
  intro id bx hb hl;by_cases Bf:id∈lids
  ·exact⟨Rl id (.inl Bf),hlx id Bf,.inl Bf⟩
  ·rw[hpK id Bf,Es] at hb;split at hb
   ·cases hq:Ae s.hp m id with
    |none=>rw[hq] at hb;cases hb
    |some b=>rw[hq] at hb;simp at hb;subst hb;exact hl.elim
   ·rename_i hxn;exact⟨by rw[G3 hb hl];exact hl,hxn,.inr ⟨Bf,hb⟩⟩
 have Qe:∀i bx,(i,bx)∈bs++bs'->∃j,β1 i=own j∧((i=o.dst.getD N+N*j∧j<Iz rv)∨((i,j)∈qs∧Iz rv<=j)):=by
  intro i bx hm;rcases List.mem_append.1 hm with hm|hm
  ·obtain⟨⟨j,rfl,hj⟩,_⟩:=hba i bx hm;exact⟨j,by rw[hβbs j ⟨bx,hm⟩,Nat.zero_add],.inl ⟨rfl,hj⟩⟩
  ·obtain⟨j,hj⟩:=Aw5 i bx hm;exact⟨j,hβqs _ hj,.inr ⟨hj,(Pc _ hj).2⟩⟩
 have Afl:∀i bx,(i,bx)∈bs++bs'->Ct (some bx)∧Mr w' (Xo bt own Yc) β1 i bx∧∀cs,bx=.st cs->∀b ob,β1 i=some (b,ob)->w.heap.size<=b:=by
  intro i bx hm;rcases List.mem_append.1 hm with hm|hm
  ·exact (hba i bx hm).2
  ·obtain⟨cc,rfl⟩:=Eb i bx hm;exact⟨trivial,Ay3 i _ hm,fun cs e=>by cases e⟩
 have Akn:∀b,(∃i k o',bt i (k+1)=some (b,o'))->∃id o',id∈x∧β id=some (b,o'):=by
  rintro b ⟨i,k,o',hb⟩
  obtain⟨id,off,o1,h1,h2,_,_⟩:=btS hb;exact⟨id,o1,(hS.mvd i k id off h1).2,h2⟩
 have hX:∀b,b<w.heap.size->EF (Am Ck (bs++bs')) β1 b->EF s.hp β b:=by
  rintro b hb ⟨id,ob,hl,hβ⟩
  rcases Ft id with⟨bx,hm⟩|e
  ·obtain⟨j,hj,_⟩:=Qe id bx hm;rw[hj] at hβ;obtain⟨id',o',h1,h2⟩:=Akn b ((out.fresh j b ob hβ).2 hb).1;exact⟨id',o',Rl id' (.inr h1),h2⟩
  ·rw[e] at hl;cases hq:Ck id with
   |none=>rw[hq] at hl;exact hl.elim
   |some bx=>
    rw[hq] at hl;exact⟨id,ob,(hold id bx hq hl).1,by rw[←hβold id (by rw[hq];simp)];exact hβ⟩
 have hAo:∀b,b<w.heap.size->Cu (Am Ck (bs++bs')) β1 Y b->Cu s.hp β Y b:=fun b hb hA=>hA.imp (hX b hb) id
 have hAO:∀b,Cu (Am Ck (bs++bs')) β1 Y b->Xo bt own Yc b:=by
  rintro b (⟨id,ob,hl,hβ⟩|hY)
  ·rcases Ft id with⟨bx,hm⟩|e
   ·obtain⟨j,hj,_⟩:=Qe id bx hm;rw[hj] at hβ;exact .inl ⟨j,ob,hβ⟩
   ·rw[e] at hl;cases hq:Ck id with
    |none=>rw[hq] at hl;exact hl.elim
    |some bx=>
     rw[hq] at hl;rw[hβold id (by rw[hq];simp)] at hβ
     obtain⟨h1,h2,h3⟩:=hold id bx hq hl;rcases h3 with h3|⟨h3,h4⟩
     ·obtain⟨_,i,off,hs⟩:=SC id h3;exact .inr (.inl ⟨i,ob+off,by rw[Qa,hs];simp[Fl,hβ]⟩)
     ·exact .inr (.inr ((hYc b).2 (.inl ⟨id,ob,by rw[h4];exact hl,hβ,h3,h2⟩)))
  ·exact .inr (.inr ((hYc b).2 (.inr hY)))
 have Ey:B1 (Cu s.hp β Y) w w':=out.ext.weaken (fun b _ hb=>.inl (hBA b hb))
 have Abd:∀i,s.hp i≠none->β1 i=β i:=fun i hi=>hβold i (Pj i hi)
 have hCL:∀b j,Wu bt vs b j->∃id o' bx,s.hp id=some bx∧Ct (some bx)∧β id=some (b,o')∧BR bx o' j:=by
  rintro b j ⟨i,p,hp,⟨k,ob,hb,Vl⟩|⟨ob,ps,hb,Vl,Q0⟩⟩
  ·obtain⟨id,off,o',h1,h2,h3,_⟩:=btS hb;obtain⟨h5,h6⟩:=hS.mvd i k id off h1;obtain⟨cc,WH⟩:=hx id h6;exact⟨id,o',_,WH,trivial,h2,show o'<=j by omega⟩
  ·obtain⟨id,off,o',h1,h2,h3,_⟩:=btS hb;rcases WQ hL i p id off hp (by rw[Nat.zero_add];exact h1) with⟨c1,wz,h5,h6,h7⟩|⟨⟨c1,h5⟩,_⟩
   ·rcases Q0 with⟨h8,h9⟩|h8
    ·rw[h6] at h8;cases h8;exact⟨id,o',_,h5,trivial,h2,show o'<=j∧j<o'+c1.length by omega⟩
    ·rw[h6] at h8;cases h8
   ·exact⟨id,o',_,h5,trivial,h2,show o'<=j by omega⟩
 have ZO:∀id off cts wz,Fe.var id off cts wz∈l->id∈lids->∀b ob,β id=some (b,ob)->∀j,(j<off∨off+wz.length<=j)->(∃c1,s.hp id=some (.st c1))->¬Wu bt vs b (ob+j):=by
  rintro id off cts wz hy Bf b ob hβ j hj ⟨c1,Y6⟩ ⟨i,p,hp,⟨k,ob',hb,Vl⟩|⟨ob',ps,hb,Vl,Q0⟩⟩
  ·obtain⟨id',off',o',h1,h2,h3,h4⟩:=btS hb;have:=h.inj id id' b ob o' (Rl id (.inl Bf)) (Rl id' h4) hβ h2;subst this;exact hlx id Bf (hS.mvd i k id off' h1).2
  ·obtain⟨id',off',o',h1,h2,h3,h4⟩:=btS hb;have:=h.inj id id' b ob o' (Rl id (.inl Bf)) (Rl id' h4) hβ h2;subst this;rw[hβ] at h2;cases h2;obtain⟨k,Dn,D3⟩:=IE hL hy;rw[Nat.zero_add] at D3;have hik:=hS.inj0 ZU i k id off' off h1 D3;subst hik;rw[h1] at D3;cases D3;rw[hp] at Dn;cases Dn;rcases Q0 with⟨h8,h9⟩|h8
   ·cases h8;omega
   ·cases h8
 have hval:Dt w' (Cu (Am Ck (bs++bs')) β1 Y) β1 (Ju ws (Ky P o.type)) (Gc us):=by
  have Ko:Bc (F9 w' (Cu (Am Ck (bs++bs')) β1 Y) β1) ws us:=M3.mono fun v u hvu=>hvu.step (B1.refl _ _) (fun b _=>hAO b) (fun _ _=>rfl)
  have Dd:=Ko.len;cases hT:Ky P o.type
  ·rw[hT] at L2;have h1:ws.length=1:=Nat.eq_of_beq_eq_true L2
   match ws,us,h1,Dd with
   |[v],[u],_,_=>
    exact (Kx (LP v (by simp))).2 Ko.1
  ·rw[hT] at L2
   have h1:¬ws.length=1:=by
    intro e;rw[e] at L2;cases L2
   have hr:Gc us=.tuple ⟨us⟩:=by
    unfold Gc;split
    ·simp at Dd;omega
    ·rfl
   rw[hr];exact⟨us,rfl,Ko⟩
 have hvr:∀i∈Bq (Ju ws (Ky P o.type)),∃bx,(i,bx)∈bs:=by
  intro i hi;cases hT:Ky P o.type
  ·rw[hT] at L2 hi;have h1:ws.length=1:=Nat.eq_of_beq_eq_true L2
   match ws,h1 with
   |[v],_=>
    refine hrs v (by simp) i ?_
    have:Bq v=B5 v:=by
     have hn:=LP v (by simp)
     cases v<;>first|rfl|exact absurd rfl (hn _)
    rw[←this];exact hi
  ·rw[hT] at hi;obtain⟨v,hv,hi⟩:=List.mem_flatMap.1 (show i∈ws.flatMap B5 from hi)
   exact hrs v hv i hi
 refine hn _ w' β1 ?_;refine⟨by rw[Mf];exact h.dfr,by rw[Ra];exact h.tsz,EJ QW h.tmo,?_,?_,?_,?_,?_,?_,?_,?_,?_,?_,?_,h.Ylt,?_⟩
 ·refine Kw (Q:=fun _ p u=>Dt w' (Cu (Am Ck (bs++bs')) β1 Y) β1 p u) h.tsz QW (fun i hi=>?_) (fun _=>hval)
  exact (h.tms i hi).step Ey hAo fun id Bf=>Abd id (h.wfT i hi id Bf)
 ·intro id bx hb;simp only at hb;rcases Ft id with⟨bx',Hn⟩|e
  ·rw[UC id bx' Hn] at hb;cases hb;exact (Afl id _ Hn).2.1.step' hAO
  ·rw[e] at hb;have hβ:=hβold id (by rw[hb];simp)
   by_cases Bf:id∈lids
   ·obtain⟨y,hy,VZ⟩:=Ae1 id Bf;have h1:=Ao9 y hy;cases y with
    |var id' off cts wz=>
     simp only[Fe.ids,List.mem_singleton] at VZ;subst VZ;obtain⟨c1,cs,h2,h3,h4,h5,h6⟩:=h1;rw[QB id Bf] at h2;rw[h3] at hb;cases hb;obtain⟨b,ob,h7,h8,h9⟩:=h.box id _ h2;obtain⟨h10,h11⟩:=h6 b ob h7;have B2:=h.blt id b ob (by rw[h2];simp) h7
     have Uj:∀j,(j<off∨off+wz.length<=j)->w'.cell? ⟨b,ob+j,none⟩=w.cell? ⟨b,ob+j,none⟩∧w'.frozen? ⟨b,ob+j,none⟩=w.frozen? ⟨b,ob+j,none⟩:=
      fun j hj=>out.rng b (ob+j) B2 (ZO id off cts wz hy Bf b ob h7 j hj ⟨c1,h2⟩)
     refine⟨b,ob,hβ.trans h7,fun j p hj=>?_,fun j hj=>?_⟩
     ·rcases Mm (by omega) hj with⟨h12,h13,h14⟩|⟨h12,h14⟩
      ·obtain⟨v,hv,FP⟩:=h10 _ _ h14;refine⟨v,?_,FP.step (B1.refl _ _) (fun b _=>hAO b) (fun _ _=>rfl)⟩
       rw[show ob+j=ob+off+(j-off) by omega]
       exact hv
      ·obtain⟨v,hv,FP⟩:=h8 _ _ h14;refine⟨v,by rw[(Uj j (by omega)).1];exact hv,FP.step Ey hAo fun i hi=>Abd i (h.wfB id c1 h2 p (List.mem_of_getElem? h14) i hi)⟩
     ·rw[Mn (by omega)] at hj
      by_cases Xe:off<=j∧j<off+cs.length
      ·have:=h11 (j-off) (by omega)
       rw[show ob+off+(j-off)=ob+j by omega] at this
       exact this
      ·rw[(Uj j (by omega)).2]
       exact h9 j hj
    |row id'=>
     simp only[Fe.ids,List.mem_singleton] at VZ;subst VZ;obtain⟨cs,h3,h4⟩:=h1;rw[h3] at hb;cases hb;rcases h4 with⟨h5,h6⟩|⟨b,ob,h5,h6,h7⟩
     ·exact .inl ⟨hβ.trans h5,h6⟩
     ·exact .inr ⟨b,ob,hβ.trans h5,h6.weak (fun b _=>hAO b),fun _=>h7,(fun q=>by cases q)⟩
    |none=>simp[Fe.ids] at VZ
   ·rw[hpK id Bf,Es] at hb;split at hb
    ·cases hq:Ae s.hp m id with
     |none=>rw[hq] at hb;cases hb
     |some b0=>rw[hq] at hb;simp at hb;subst hb;trivial
    ·rename_i hxn;have Ir:=hf.box id bx hb
     have ZZ:∀b ob,β id=some (b,ob)->bx ≠ .mv->b<w.heap.size∧w'.heap[b]?=w.heap[b]?:=by
      intro b ob Zj hmv;have B2:=hf.blt id b ob (by show Ae s.hp m id≠none;rw[hb];simp) Zj
      refine⟨B2,out.ext.keep b B2 fun hB=>?_⟩
      obtain⟨id',o',h1,h2⟩:=btX hB;have Hw:Ct (Ae s.hp m id'):=by rw[AX id' h2];exact Rl id' h2
      have CQ:id≠id':=by
       rintro rfl
       rcases h2 with h2|h2
       ·exact Bf h2
       ·exact hxn h2
      cases bx with
      |st cc=>exact CQ (hf.inj id id' b ob o' (by show Ct (Ae s.hp m id);rw[hb];trivial) Hw Zj h1)
      |ar fz cc=>
       cases fz with
       |false=>exact CQ (hf.inj id id' b ob o' (by show Ct (Ae s.hp m id);rw[hb];trivial) Hw Zj h1)
       |true=>
        rcases Ir with⟨h3,_⟩|⟨b2,o2,h3,_,_,h4⟩
        ·rw[Zj] at h3;cases h3
        ·rw[Zj] at h3;cases h3;exact h4 rfl (.inl ⟨id',o',Hw,h1⟩)
      |mv=>exact hmv rfl
     have hAoF:∀b,b<w.heap.size->Cu (Am Ck (bs++bs')) β1 Y b->Cu (Ae s.hp m) β Y b:=by
      intro b Eb hA;rcases hA with⟨i,ob,hl,hβi⟩|hY
      ·rcases Ft i with⟨bx1,Zn⟩|e1
       ·obtain⟨j,hj,_⟩:=Qe i bx1 Zn;rw[hj] at hβi;obtain⟨id',o',h1,h2⟩:=Akn b ((out.fresh j b ob hβi).2 Eb).1;exact .inl ⟨id',o',by rw[AX id' (.inr h1)];exact Rl id' (.inr h1),h2⟩
       ·rw[e1] at hl;cases hq:Ck i with
        |none=>rw[hq] at hl;exact hl.elim
        |some bx1=>
         rw[hq] at hl;rw[hβold i (by rw[hq];simp)] at hβi
         obtain⟨h1,h2,h3⟩:=hold i bx1 hq hl;rcases h3 with h3|⟨h3,h4⟩
         ·exact .inl ⟨i,ob,by rw[AX i (.inl h3)];exact h1,hβi⟩
         ·exact .inl ⟨i,ob,by rw[h4];exact hl,hβi⟩
      ·exact .inr hY
     have Anf:B1 (Cu (Ae s.hp m) β Y) w w':=out.ext.weaken (fun b _ hB=>by
      obtain⟨id',o',h1,h2⟩:=btX hB;exact .inl ⟨id',o',by rw[AX id' h2];exact Rl id' h2,h1⟩)
     cases bx with
     |st cc=>
      obtain⟨b,ob,h1,h2,h3⟩:=Ir;obtain⟨B2,Mk⟩:=ZZ b ob h1 (by simp)
      refine⟨b,ob,hβ.trans h1,fun j p hj=>?_,fun j hj=>?_⟩
      ·obtain⟨v,hv,FP⟩:=h2 j p hj;refine⟨v,by rw[World.cell?_of_block (w:=w) Mk];exact hv,FP.step Anf hAoF fun i hi=>?_⟩
       refine Abd i (fun e1=>?_)
       exact hf.wfB id cc hb p (List.mem_of_getElem? hj) i hi (Dm.2 e1)
      ·rw[World.frozen?_of_block (w:=w) Mk];exact h3 j hj
     |ar fz cc=>
      rcases Ir with⟨h1,h2⟩|⟨b,ob,h1,h2,h3,h4⟩
      ·exact .inl ⟨hβ.trans h1,h2⟩
      ·obtain⟨B2,Mk⟩:=ZZ b ob h1 (by simp)
       have Zu:bsz w' b=bsz w b:=by unfold bsz;rw[Mk]
       refine .inr ⟨b,ob,hβ.trans h1,fun j p hj=>?_,fun e1 j hj M8=>?_,fun e1 q=>h4 e1 (hAoF b B2 q)⟩
       ·obtain⟨v,hv,h5,Y6⟩:=h2 j p hj;exact⟨v,by rw[World.cell?_of_block (w:=w) (by rw[D6];exact Mk)];exact hv,h5,Y6.step Anf hAoF⟩
       ·rw[World.frozen?_of_block (w:=w) Mk];exact h3 e1 j hj (by rw[←Zu];exact M8)
     |mv=>trivial
 ·intro id id' b ob ob' hl Hw hb Gh;simp only at hl Hw
  have mixed:∀i bx i' k z,(i,bx)∈bs++bs'->β1 i=some (k,z)->Ck i'≠none->Ct (Ck i')->∀z',β1 i'=some (k,z')->False:=by
   intro i bx i' k z Zn hz GQ Yl z' RY;obtain⟨j,hj,_⟩:=Qe i bx Zn;rw[hj] at hz;rw[hβold i' GQ] at RY;cases hq:Ck i' with
   |none=>exact GQ hq
   |some bx1=>
    rw[hq] at Yl;obtain⟨h1,h2,h3⟩:=hold i' bx1 hq Yl;have B2:=h.blt i' k z' (Cl h1) RY;obtain⟨id2,o2,h4,h5⟩:=Akn k ((out.fresh j k z hz).2 B2).1;have:=h.inj i' id2 k z' o2 h1 (Rl id2 (.inr h4)) RY h5;subst this;exact h2 h4
  rcases Ft id with⟨bx,Zn⟩|e1
  ·rcases Ft id' with⟨bx',hm2⟩|e2
   ·obtain⟨j,hj,Q0⟩:=Qe id bx Zn;obtain⟨j',M8,Am2⟩:=Qe id' bx' hm2;rw[hj] at hb;rw[M8] at Gh;have:=out.inj j j' b ob ob' hb Gh;subst this;rcases Q0 with⟨h1,h2⟩|⟨h1,h2⟩
    ·rcases Am2 with⟨h3,_⟩|⟨_,h4⟩
     ·rw[h1,h3]
     ·omega
    ·rcases Am2 with⟨_,h4⟩|⟨h3,_⟩
     ·omega
     ·exact Jt _ h1 _ h3 rfl
   ·rw[e2] at Hw;exact (mixed id bx id' b ob Zn hb (Cl Hw) Hw ob' Gh).elim
  ·rw[e1] at hl;rcases Ft id' with⟨bx',hm2⟩|e2
   ·exact (mixed id' bx' id b ob' hm2 Gh (Cl hl) hl ob hb).elim
   ·rw[e2] at Hw
    have g:∀i,Ct (Ck i)->Ct (s.hp i)∧β1 i=β i:=by
     intro i hli;cases hq:Ck i with
     |none=>rw[hq] at hli;exact hli.elim
     |some bx1=>exact⟨(hold i bx1 hq (by rw[←hq];exact hli)).1,hβold i (by rw[hq];simp)⟩
    rw[(g id hl).2] at hb;rw[(g id' Hw).2] at Gh;exact h.inj id id' b ob ob' (g id hl).1 (g id' Hw).1 hb Gh
 ·intro id b ob GQ hb;simp only at GQ;rcases Ft id with⟨bx,Zn⟩|e1
  ·obtain⟨j,hj,_⟩:=Qe id bx Zn;rw[hj] at hb;exact (out.fresh j b ob hb).1
  ·rw[e1] at GQ;rw[hβold id GQ] at hb
   have WP:s.hp id≠none:=by
    by_cases Bf:id∈lids
    ·exact Cl (Rl id (.inl Bf))
    ·rw[hpK id Bf,Es] at GQ;intro e2;have h1:Ae s.hp m id=none:=Dm.2 e2;rw[h1] at GQ;split at GQ<;>exact GQ rfl
   exact Nat.lt_of_lt_of_le (h.blt id b ob WP hb) out.ext.size
 ·have:=Kw (Q:=fun _ p _=>∀id∈Bq p,Am Ck (bs++bs') id≠none) (val:=Gc us) (d:=o.dst) (v:=Ju ws (Ky P o.type)) h.tsz QW (fun i hi id Bf=>Ac9 id (.inl (h.wfT i hi id Bf))) (fun _ id Bf=>Ac9 id (.inr (by
   obtain⟨bx,hb⟩:=hvr id Bf;exact⟨bx,List.mem_append.2 (.inl hb)⟩)))
  exact this
 ·intro id cells DZ p hp i hi;simp only at DZ;refine Ac9 i ?_;rcases Ft id with⟨bx,Zn⟩|e1
  ·rw[UC id bx Zn] at DZ;cases DZ;rcases List.mem_append.1 Zn with Zn|Zn
   ·obtain⟨bx1,hb⟩:=MJ id cells Zn p hp i hi;exact .inr ⟨bx1,List.mem_append.2 (.inl hb)⟩
   ·obtain⟨cc,e2⟩:=Eb id _ Zn;cases e2
  ·rw[e1] at DZ;by_cases Bf:id∈lids
   ·rcases Adr id Bf with⟨off,c1,cs,h1,h2,h3,h4⟩|⟨c1,cs,h1,h2⟩
    ·rw[h2] at DZ;cases DZ;unfold Co at hp;rcases List.mem_append.1 hp with hp|hp
     ·rcases List.mem_append.1 hp with hp|hp
      ·exact .inl (h.wfB id c1 h1 p (List.mem_of_mem_take hp) i hi)
      ·obtain⟨bx1,hb⟩:=h4 p hp i hi;exact .inr ⟨bx1,List.mem_append.2 (.inr hb)⟩
     ·exact .inl (h.wfB id c1 h1 p (List.mem_of_mem_drop hp) i hi)
    ·rw[h2] at DZ;cases DZ
   ·obtain⟨_,_,h3⟩:=hold id _ DZ trivial;rcases h3 with h3|⟨_,h3⟩
    ·exact absurd h3 Bf
    ·exact .inl (h.wfB id cells (G3 h3 trivial) p hp i hi)
 ·rintro b ⟨id,ob,hl,hβ⟩
  rcases Nat.lt_or_ge b w.heap.size with B2|UL
  ·exact h.ownd b (hX b B2 ⟨id,ob,hl,hβ⟩)
  ·exact .inr (Nat.le_trans h.fr.step.size UL)
 ·intro id bx b ob hb hl hβ B2 j hj;simp only at hb;have hlw:=Nat.lt_of_lt_of_le B2 h.fr.step.size;rcases Ft id with⟨bx',Zn⟩|e1
  ·rw[UC id bx' Zn] at hb;cases hb;obtain⟨k,hk,_⟩:=Qe id bx Zn;rw[hk] at hβ
   have Vl:ob<=j:=by
    cases bx with
    |st cc=>exact hj.1
    |ar fz cc=>exact hj
    |mv=>exact hl.elim
   obtain⟨id2,o2,bx2,h1,h2,h3,h4⟩:=hCL b j (((out.fresh k b ob hβ).2 hlw).2 j Vl);exact h.rngB id2 bx2 b o2 h1 h2 h3 B2 j h4
  ·rw[e1] at hb;rw[hβold id (by rw[hb];simp)] at hβ
   obtain⟨h1,h2,h3⟩:=hold id bx hb hl;rcases h3 with h3|⟨h3,h4⟩
   ·rcases Adr id h3 with⟨off,c1,cs,h5,h6,h7,_⟩|⟨c1,cs,h5,h6⟩
    ·rw[h6] at hb;cases hb;have hj:ob<=j∧j<ob+(Co c1 cs off).length:=hj;rw[Mn (by omega)] at hj
     exact h.rngB id _ b ob h5 trivial hβ B2 j hj
    ·rw[h6] at hb;cases hb;exact h.rngB id _ b ob h5 trivial hβ B2 j hj
   ·exact h.rngB id bx b ob (G3 h4 hl) hl hβ B2 j hj
 ·intro i hi;obtain⟨h1,h2⟩:=h.pin i hi;exact⟨Ac9 _ (.inl h1),by rw[Abd _ h1];exact h2⟩
 ·intro id cc b ob hb hβ B2;simp only at hb;have hlw:=Nat.lt_of_lt_of_le B2 h.fr.step.size;rcases Ft id with⟨bx',Zn⟩|e1
  ·rw[UC id bx' Zn] at hb;cases hb;have:=(Afl id _ Zn).2.2 cc rfl b ob hβ;omega
  ·rw[e1] at hb;rw[hβold id (by rw[hb];simp)] at hβ
   obtain⟨h1,h2,h3⟩:=hold id _ hb trivial;rcases h3 with h3|⟨h3,h4⟩
   ·rcases Adr id h3 with⟨off,c1,cs,h5,h6,h7,_⟩|⟨c1,cs,h5,h6⟩
    ·exact h.stp id c1 b ob h5 hβ B2
    ·rw[h6] at hb;cases hb
   ·exact h.stp id cc b ob (G3 h4 trivial) hβ B2
 ·intro b hY hXb;exact h.Yx b hY (hX b (Nat.lt_of_lt_of_le (h.Ylt b hY) h.fr.step.size) hXb)
 ·refine⟨out.os.trans h.fr.os,out.tape.trans h.fr.tape,out.output.trans h.fr.output,⟨Nat.le_trans h.fr.step.size out.ext.size,fun b hb hnX=>?_,fun b hb=>(h.fr.step.bs b hb).trans (out.ext.bs b (Nat.lt_of_lt_of_le hb h.fr.step.size))⟩,fun b j hb ZO=>?_⟩
  ·rw[out.ext.keep b (Nat.lt_of_lt_of_le hb h.fr.step.size) ?_]
   ·exact h.fr.step.keep b hb hnX
   ·intro hB;rcases h.ownd b (hBA b hB) with hq|hq
    ·exact hnX hq
    ·omega
  ·have CQ:¬Wu bt vs b j:=by
    intro hq;obtain⟨id2,o2,bx2,h1,h2,h3,h4⟩:=hCL b j hq;exact ZO (h.rngB id2 bx2 b o2 h1 h2 h3 hb j h4)
   obtain⟨h1,h2⟩:=out.rng b j (Nat.lt_of_lt_of_le hb h.fr.step.size) CQ;rw[h1,h2];exact h.fr.rng b j hb ZO
end
open Go.RowKit
section
variable {R:Type} {r:R} {P:Program} {N:Nat} {w0:World} {X0:Gg} {Y:Nat->Prop} {β β':Bt} {s:St} {a:Act} {w w':World} {o:Oper} {A:Nat->Prop}
theorem DN (h:Cj N w0 X0 Y β s a w){c:Call}(ho:o.op=.call c)(hc:c.callee=.builtin .append){d:Nat}(QW:o.dst=some d){b x:Operand}(Ea:c.args.toList=[b,x]) {t tx:TypeId}{ts:List TypeId}(Vd:c.argTypes.toList=t::tx::ts)
  {K:St->Option R} (hk:Kz P N s d t tx (Bu s.tm b) (Bu s.tm x) K=some r):
  ∃s',K s'=some r∧∀(next:Act->World->Prop) (Q:Exit->Act->World->Prop),(∀a' w' β',Cj N w0 X0 Y β' s' a' w'->next a' w')->o.wp P a w next Q:=by
 have Yo:c.args = #[b,x]:=by
  have:c.args=([b,x]:List Operand).toArray:=by rw[←Ea]
  exact this
 have JM:c.argTypes=(t::tx::ts).toArray:=by rw[←Vd]
 have run:∀{v:Value} {w1:World},(Builtin.append_ (t::tx::ts).toArray o.type #[a.eval b,a.eval x]).run P w=.ok v w1->∀(next:Act->World->Prop) (Q:Exit->Act->World->Prop),next (a.put (some d) v) w1->o.wp P a w next Q:=by
  intro v w1 hr next Q hn;unfold Oper.wp execOp;rw[ho];simp only[resolve,hc,invoke,builtin,Sem.run_bind,Sem.run_pure,Result.andThen_ok,Yo,JM];have:(#[b,x]:Array Operand).map a.eval = #[a.eval b,a.eval x]:=by simp
  rw[this,hr];show next (a.put o.dst v) w1;rw[QW];exact hn
 have hbv:=Cm h b;have FK:=D9 h b;unfold Kz at hk;split at hk
 ·rename_i e hu;obtain⟨TK,hk⟩:=Ai hk;obtain⟨i,z,hi,hz,hzs,Kj⟩:=X9 TK;cases hit:Rc P tx
  rotate_left
  ·rw[hit] at hk;simp only[cond_true] at hk
   obtain⟨ki,SD⟩:∃k,P.underlying tx=some (.int k):=by
    unfold Rc at hit;split at hit
    ·exact⟨_,by assumption⟩
    ·cases hit
   unfold Nm at hk;obtain⟨kx,n,hx,hk⟩:=C4 hk;obtain⟨zz,n',c',hk,hp⟩:=Eh hk;obtain⟨hb,hk⟩:=Ai hk;simp only[Bool.and_eq_true,decide_eq_true_eq] at hb;obtain⟨⟨⟨⟨⟨hzz,UG⟩,Q1⟩,Sq⟩,SF⟩,Zs⟩:=hb;have UG:d<N:=Nat.lt_of_succ_le (Nat.le_of_ble_eq_true UG);have Q1:s.hp d=none:=by simpa using Q1
   have LR:E4 N (some d)=true:=by simp[E4,Nat.blt];omega
   have Na:((P.info? e).map (·.bytes)).getD 0=i.bytes:=by rw[hi];rfl
   rw[Na] at SF;rw[Kj] at hk;have Cw:=B0 h hx;rcases E9 hp hbv with⟨K8,_⟩|⟨_,_,_,Yv,_⟩|⟨_,_,_,Yv,_⟩
   ·refine⟨_,hk,fun next Q hn=>?_⟩
    by_cases hm0:n=0
    ·subst hm0;have hr:=S2 (P:=P) (w:=w) (t:=t) (tx:=tx) (ty:=o.type) (ts:=ts) (kx:=kx) hu SD hi;rw[←K8,←Cw] at hr;refine run hr next Q (hn _ _ (Cg β d none) ?_);rw[K8];refine h.stepR (d:=some d) (nw:=[(d,.ar false [])]) (β':=Cg β d none) LR (by simp[Bn,Q1]) ⟨rfl,rfl,rfl,B1.refl _ _,fun j hj=>Ah _ _ (by rintro rfl;exact hj Q1),?_,?_,?_,?_,?_,.inl ⟨Ak _ _ _,rfl,rfl,none,rfl⟩,?_⟩
     ·intro j bx hm;simp at hm;rw[hm.2];trivial
     ·intro j bx hm;simp at hm;obtain⟨rfl,rfl⟩:=hm;exact .inl ⟨Ak _ _ _,rfl⟩
     ·intro j bx k q hm hq;simp at hm;obtain⟨rfl,rfl⟩:=hm;rw[Ak] at hq;cases hq
     ·intro j bx j' bx' k q q' hm Hn _ _;simp at hm Hn;rw[hm.1,Hn.1]
     ·intro j cells hm;simp at hm
     ·intro j hj;simp[Bq,B5,Al] at hj;subst hj;exact .inr ⟨.ar false [],by simp⟩
    ·have hr:=Vf (P:=P) (w:=w) (t:=t) (tx:=tx) (ty:=o.type) (ts:=ts) (kx:=kx) hu SD hi hz (n:=n) (by omega) SF Zs
     rw[←K8,←Cw] at hr;refine run hr next Q (hn _ _ (Cg β d (some (w.heap.size,0))) ?_);have UL:n.toNat<=grownCap w n.toNat 0 e:=grownCap_ge w n.toNat 0 e;generalize Vq:((if n.toNat*i.size=0 then #[] else Builtin.zeroCells z.cells n.toNat)++Builtin.zeroCells z.cells (grownCap w n.toNat 0 e-n.toNat))=cs
     have P8:E3 w (w.drew.alloc (.cells cs e)) cs e:=
      ⟨rfl,rfl,rfl,fun k hk=>Below.heap_alloc w.drew _ k hk,by show (w.heap.push _).size=_;simp,(0,0),by show (w.heap.push _)[w.heap.size]?=_;simp,.inl rfl⟩
     have NG:cs.size=grownCap w n.toNat 0 e*i.size:=by
      rw[←Vq];by_cases KD:n.toNat*i.size=0
      ·rw[if_pos KD]
       have hi0:i.size=0:=by
        rcases Nat.mul_eq_zero.1 KD with h|h
        ·omega
        ·exact h
       simp[size_zeroCells,hzs,hi0]
      ·rw[if_neg KD];simp only[Array.size_append,size_zeroCells,hzs,←Nat.add_mul]
       congr 1
       omega
     refine h.stepR (d:=some d) (nw:=[(d,.ar false [])]) LR (by simp[Bn,Q1]) (Lj P8 Q1 trivial ?_ (fun cells hx=>by cases hx) ?_ (by intro j hj;simp[Bq,B5,Al] at hj;exact .inr hj))
     ·refine .inr ⟨w.heap.size,0,Ak _ _ _,fun j p hj=>by simp at hj,fun _ j _ hj=>?_,(fun q=>by cases q)⟩
      rw[P8.bsz] at hj;exact P8.frozen hj
     ·refine .inr ⟨w.heap.size,0,0,grownCap w n.toNat 0 e,Ak _ _ _,rfl,.inl rfl,UL,?_,by rw[P8.size];omega⟩
      exact⟨by rw[P8.bsz,NG];omega,.inr (H6 w.drew _ e)⟩
   ·rw[Yv] at hzz;cases hzz
   ·rw[Yv] at hzz;cases hzz
  rw[hit] at hk;simp only[cond_false] at hk;have Na:((P.info? e).map (·.bytes)).getD 0=i.bytes:=by rw[hi];rfl
  obtain⟨⟨dx,hdx,HY⟩,m,new,news,hk,hs⟩:=Xb h hk (by
   intro m new hk;split at hk
   ·split at hk
    ·obtain⟨hb,_⟩:=Ai hk;simp only[Bool.and_eq_true,decide_eq_true_eq] at hb;have he:=Nat.eq_of_beq_eq_true hb.1.1.1.1.1.1.1;rw[←he];exact hb.1.1.2
    ·cases hk
   ·obtain⟨zz,n',c',hk,_⟩:=Eh hk;obtain⟨hb,_⟩:=Ai hk;simp only[Bool.and_eq_true,decide_eq_true_eq] at hb;exact hb.1.1.2)
  rw[Kj] at hs;have ZU:new.length=news.length:=hs.rep.len;split at hk
  ·rename_i id es off n eb;rw[eb] at hbv FK;split at hk
   ·rename_i cc h0;obtain⟨hb,D3⟩:=Ai hk;simp only[Bool.and_eq_true,decide_eq_true_eq] at hb;obtain⟨⟨⟨⟨⟨⟨⟨Pf,K5⟩,UG⟩,Q1⟩,Ass⟩,PA⟩,SF⟩,Zs⟩:=hb;have Pf:=Nat.eq_of_beq_eq_true Pf;have K5:=Nat.eq_of_beq_eq_true K5;have UG:d<N:=Nat.lt_of_succ_le (Nat.le_of_ble_eq_true UG);have Q1:s.hp d=none:=by simpa using Q1
    subst K5;rw[Kj] at Pf;subst Pf;rw[Na] at SF;have Un:news.length=m*i.size:=by omega
    have A5h:s.hp id≠none:=by rw[h0];simp
    have RF:=h.box id _ h0;refine⟨_,D3,fun next Q hn=>?_⟩
    have grow:∀(ad:Option Addr) (cap:Nat) (olds:List Value),a.eval b=.slice ad n cap->Bc (Aq w (Cu s.hp β Y)) (cc.take (n*i.size)) olds->(∀u∈olds,u.oneCell'=true)->olds.length=n*i.size ->
      ((ad=none∧olds=[])∨∃p,ad=some p∧olds.length=n*i.size∧∀(j:Nat) v,olds[j]?=some v->w.cell? (p.add j)=some v)->cap<n+m->o.wp P a w next Q:=by
     intro ad cap olds K8 holds h1 hol hold Qw;have hr:=It (P:=P) (w:=w) (t:=t) (tx:=tx) (ty:=o.type) (ts:=ts) hu hdx HY hi hz hs hold Qw SF Zs;rw[←K8] at hr;refine run hr next Q (hn _ _ (Cg β d (some (w.heap.size,0))) ?_);have UL:n+m<=grownCap w (n+m) cap e:=grownCap_ge w (n+m) cap e
     have P8:E3 w (w.drew.alloc (.cells (olds.toArray++news.toArray++Builtin.zeroCells z.cells (grownCap w (n+m) cap e-(n+m))) e)) (olds.toArray++news.toArray++Builtin.zeroCells z.cells (grownCap w (n+m) cap e-(n+m))) e:=
      ⟨rfl,rfl,rfl,fun k hk=>Below.heap_alloc w.drew _ k hk,by show (w.heap.push _).size=_;simp,(0,0),by show (w.heap.push _)[w.heap.size]?=_;simp,.inl rfl⟩
     have NG:(olds.toArray++news.toArray++Builtin.zeroCells z.cells (grownCap w (n+m) cap e-(n+m))).size=grownCap w (n+m) cap e*i.size:=by
      simp only[Array.size_append,List.size_toArray,size_zeroCells,hzs,hol,Un,←Nat.add_mul]
      congr 1
      omega
     have CU:∀k y,some (w.heap.size,0)=some (k,y)->w.heap.size<=k∨∃q,β id=some (k,q):=by
      intro k y hh;simp at hh;exact .inl (by omega)
     refine h.move h0 Q1 UG rfl rfl rfl (by rw[P8.size];omega) (fun k hk _=>P8.old k hk) P8.step.bs (fun k y hh=>⟨by simp at hh;rw[P8.size];omega,CU k y hh⟩) (fun k y hh B2=>by simp at hh;omega)
      (fun k y _ B2 j _=>⟨World.cell?_of_block (w:=w) (P8.old k B2),World.frozen?_of_block (w:=w) (P8.old k B2)⟩) ?_ ?_ (by intro j hj;simpa [Bq,B5,Al] using hj)
     ·refine .inr ⟨w.heap.size,0,Ak _ _ _,Wf P8 (MQ h0 Q1 CU) holds hs.rep h1 hs.one,fun _ j _ hj=>?_,(fun q=>by cases q)⟩
      rw[P8.bsz] at hj;exact P8.frozen hj
     ·refine .inr ⟨w.heap.size,0,0,grownCap w (n+m) cap e,Ak _ _ _,rfl,.inl rfl,UL,?_,by rw[P8.size];omega⟩
      exact⟨by rw[P8.bsz,NG];omega,.inr (H6 w.drew _ e)⟩
    rcases hbv with⟨hβ,_,rfl,ad,K8⟩|⟨bb,ob,y,cap,hβ,K8,hy,Amm,Qw,Aoe⟩
    ·rcases RF with⟨_,rfl⟩|⟨b',o',Eb,_⟩
     ·by_cases hm0:m=0
      ·subst hm0;have hr:=Iu (P:=P) (w:=w) (t:=t) (tx:=tx) (ty:=o.type) (ts:=ts) (ad:=ad) hu hdx HY hi hs (List.eq_nil_of_length_eq_zero (by omega))
       rw[←K8] at hr;have HH:new=[]:=List.eq_nil_of_length_eq_zero (by omega)
       subst HH;refine run hr next Q (hn _ _ (Cg β d none) ?_);rw[K8];refine h.move h0 Q1 UG rfl rfl rfl (Nat.le_refl _) (fun _ _ _=>rfl) (fun _ _=>Fz.refl _ _) (fun k q hh=>by cases hh) (fun k q hh=>by cases hh) (fun _ _ _ _ _ _=>⟨rfl,rfl⟩) ?_ ?_ (by intro j hj;simpa [Bq,B5,Al] using hj)
       ·exact .inl ⟨Ak _ _ _,by simp⟩
       ·exact .inl ⟨Ak _ _ _,rfl,rfl,ad,rfl⟩
      ·exact grow ad 0 [] K8 (by simp[Bc]) (by simp) (by simp) (by cases ad with
        |none=>exact .inl ⟨rfl,rfl⟩
        |some p=>exact .inr ⟨p,rfl,by simp,fun j v hj=>by simp at hj⟩) (by omega)
     ·rw[hβ] at Eb;cases Eb
    ·rcases RF with⟨Eb,_⟩|⟨b',o',Eb,Gl,Qr,_⟩
     ·rw[hβ] at Eb;cases Eb
     rw[hβ] at Eb;simp at Eb;obtain⟨rfl,rfl⟩:=Eb;have hy:y=ob:=by rcases hy with hy|⟨_,hq⟩<;>omega
     subst hy;by_cases XH:n+m<=cap
     ·have Apz:y+n*i.size+news.length<=bsz w bb:=by
       have h5:n*i.size+m*i.size<=cap*i.size:=by rw[←Nat.add_mul];exact Nat.mul_le_mul_right _ XH
       have:=Qw.1;omega
      have Cn:∀k,k<news.length->(w.cell? ⟨bb,y+n*i.size+k,none⟩).isSome=true:=fun k hk=>XC (by omega)
      have hr:=Vg (P:=P) (w:=w) (t:=t) (tx:=tx) (ty:=o.type) (ts:=ts) (b:=bb) (ob:=y) (n:=n) (cap:=cap) hu hdx HY hi hs Un Cn (fun k hk=>Qr rfl _ (by omega) (by omega)) XH
      rw[←K8] at hr;have hw:=De.setCells bb news (y+n*i.size) w
      have CU:∀k q,some (bb,y)=some (k,q)->w.heap.size<=k∨∃q',β id=some (k,q'):=by
       intro k q hh;simp at hh;obtain⟨rfl,rfl⟩:=hh;exact .inr ⟨_,hβ⟩
      refine run hr next Q (hn _ _ (Cg β d (some (bb,y))) ?_)
      have Ey:B1 (Cu s.hp β Y) w (w.setCells bb (y+n*i.size) news):=by
       have hAb:Cu s.hp β Y bb:=.inl ⟨id,y,by rw[h0];trivial,hβ⟩
       exact⟨by rw[hw.size];exact Nat.le_refl _,fun k _ hk=>hw.other k (fun e=>hk (e ▸ hAb)),fun k _=>hw.grow k⟩
      refine h.move h0 Q1 UG hw.os hw.tape hw.output (by rw[hw.size];exact Nat.le_refl _) (fun k _ hq=>hw.other k (by rintro rfl;exact hq _ hβ)) Ey.bs (fun k q hh=>⟨by simp at hh;rw[hw.size];omega,CU k q hh⟩) (fun k q hh _=>by rw[hβ];exact hh)
       (fun k q hh _ j hj=>by
        rw[hβ] at hh;cases hh;exact⟨World.cell?_setCells_out bb _ _ w ⟨bb,j,none⟩ (fun _ _=>by show j<y+n*i.size∨y+n*i.size+_<=j;omega),hw.frz j⟩) ?_ ?_ (by intro j hj;simpa [Bq,B5,Al] using hj)
      ·refine .inr ⟨bb,y,Ak _ _ _,fun j p hj=>?_,fun _ j hj M8=>?_,(fun q=>by cases q)⟩
       ·rw[Dy];by_cases hjn:j<n*i.size
        ·rw[List.getElem?_append_left (by rw[List.length_take];omega),List.getElem?_take_of_lt hjn] at hj
         obtain⟨u,G5,h5,ht⟩:=Gl j p hj;rw[Dy] at G5;refine⟨u,?_,h5,ht.step Ey (MQ h0 Q1 CU)⟩;rw[World.cell?_setCells_out bb _ _ w ⟨bb,y+j,none⟩ (fun _ _=>by show y+j<y+n*i.size∨y+n*i.size+_<=y+j;omega)]
         exact G5
        ·rw[List.getElem?_append_right (by rw[List.length_take];omega),List.length_take,Nat.min_eq_left Ass] at hj
         obtain⟨u,G5,ht⟩:=hs.rep.get hj
         have B2:j-n*i.size<news.length:=by
          rcases Nat.lt_or_ge (j-n*i.size) news.length with h|h
          ·exact h
          ·rw[List.getElem?_eq_none h] at G5;cases G5
         refine⟨u,?_,hs.one u (List.mem_of_getElem? G5),ht.step Ey (MQ h0 Q1 CU)⟩;have:=World.cell?_setCells_in bb news (y+n*i.size) w Cn (j-n*i.size) B2;rw[show y+j=y+n*i.size+(j-n*i.size) from by omega,this]
         rw[List.getElem?_eq_getElem B2] at G5;exact G5
       ·rw[hw.bs] at M8;rw[hw.frz];exact Qr rfl j hj M8
      ·exact .inr ⟨bb,y,y,cap,Ak _ _ _,rfl,.inl rfl,XH,Qw.step (hw.grow bb),by rw[hw.size];exact Aoe⟩
     ·-- the old cells
      have hob:∀(j:Nat) p,(cc.take (n*i.size))[j]?=some p->∃v,w.cell? ⟨bb,y+j,none⟩=some v∧v.oneCell'=true∧Aq w (Cu s.hp β Y) p v:=by
       intro j p hj;rw[List.getElem?_take] at hj;split at hj
       ·obtain⟨v,hv,h5,ht⟩:=Gl j p hj;rw[Dy] at hv;exact⟨v,hv,h5,ht⟩
       ·cases hj
      have Dd:(cc.take (n*i.size)).length=n*i.size:=by rw[List.length_take];omega
      refine grow _ cap ((cc.take (n*i.size)).mapIdx fun j _=>(w.cell? ⟨bb,y+j,none⟩).getD undef) K8 ?_ ?_ (by simp only[List.length_mapIdx];exact Dd) (.inr ⟨_,rfl,by simp only[List.length_mapIdx];exact Dd,fun j v hj=>?_⟩) (by omega)
      ·refine Bc.of_at (by simp) fun j p v hp hv=>?_
       obtain⟨u,G5,_,ht⟩:=hob j p hp;rw[List.getElem?_mapIdx,hp,Option.map_some,G5] at hv;simp at hv;subst hv;exact ht
      ·intro v hv;obtain⟨j,hj⟩:=List.mem_iff_getElem?.1 hv;rw[List.getElem?_mapIdx] at hj;cases hp:(cc.take (n*i.size))[j]? with
       |none=>rw[hp] at hj;cases hj
       |some p=>
        obtain⟨u,G5,h5,_⟩:=hob j p hp;rw[hp,Option.map_some,G5] at hj;simp at hj;subst hj;exact h5
      ·rw[List.getElem?_mapIdx] at hj;cases hp:(cc.take (n*i.size))[j]? with
       |none=>rw[hp] at hj;cases hj
       |some p=>
        obtain⟨u,G5,h5,_⟩:=hob j p hp;rw[hp,Option.map_some,G5] at hj;simp at hj;subst hj;rw[Dy];exact G5
   ·cases hk
  ·obtain⟨zz,n',c',hk,hp⟩:=Eh hk;obtain⟨hb,hk⟩:=Ai hk;simp only[Bool.and_eq_true,decide_eq_true_eq] at hb;obtain⟨⟨⟨⟨⟨hzz,UG⟩,Q1⟩,PA⟩,SF⟩,Zs⟩:=hb;have UG:d<N:=Nat.lt_of_succ_le (Nat.le_of_ble_eq_true UG);have Q1:s.hp d=none:=by simpa using Q1
   have LR:E4 N (some d)=true:=by simp[E4,Nat.blt];omega
   rw[Kj] at PA hk;rw[Na] at SF;have Un:news.length=m*i.size:=by omega
   rcases E9 hp hbv with⟨K8,_⟩|⟨_,_,_,Yv,_⟩|⟨_,_,_,Yv,_⟩
   ·refine⟨_,hk,fun next Q hn=>?_⟩
    by_cases hm0:m=0
    ·subst hm0;have hr:=Iu (P:=P) (w:=w) (t:=t) (tx:=tx) (ty:=o.type) (ts:=ts) (ad:=none) hu hdx HY hi hs (List.eq_nil_of_length_eq_zero (by omega))
     rw[←K8] at hr;have HH:new=[]:=List.eq_nil_of_length_eq_zero (by omega)
     subst HH;refine run hr next Q (hn _ _ (Cg β d none) ?_);rw[K8];refine h.stepR (d:=some d) (nw:=[(d,.ar false [])]) (β':=Cg β d none) LR (by simp[Bn,Q1]) ⟨rfl,rfl,rfl,B1.refl _ _,fun j hj=>Ah _ _ (by rintro rfl;exact hj Q1),?_,?_,?_,?_,?_,.inl ⟨Ak _ _ _,rfl,rfl,none,rfl⟩,?_⟩
     ·intro j bx hm;simp at hm;rw[hm.2];trivial
     ·intro j bx hm;simp at hm;obtain⟨rfl,rfl⟩:=hm;exact .inl ⟨Ak _ _ _,rfl⟩
     ·intro j bx k q hm hq;simp at hm;obtain⟨rfl,rfl⟩:=hm;rw[Ak] at hq;cases hq
     ·intro j bx j' bx' k q q' hm Hn _ _;simp at hm Hn;rw[hm.1,Hn.1]
     ·intro j cells hm;simp at hm
     ·intro j hj;simp[Bq,B5,Al] at hj;subst hj;exact .inr ⟨.ar false [],by simp⟩
    ·have hr:=It (P:=P) (w:=w) (t:=t) (tx:=tx) (ty:=o.type) (ts:=ts) (ad:=none) (n:=0) (cap:=0) (olds:=[]) hu hdx HY hi hz hs (.inl ⟨rfl,rfl⟩) (by omega) (by rw[Nat.zero_add];exact SF) (by omega)
     rw[←K8] at hr;refine run hr next Q (hn _ _ (Cg β d (some (w.heap.size,0))) ?_);have UL:0+m<=grownCap w (0+m) 0 e:=grownCap_ge w (0+m) 0 e
     have P8:E3 w (w.drew.alloc (.cells (([]:List Value).toArray++news.toArray++Builtin.zeroCells z.cells (grownCap w (0+m) 0 e-(0+m))) e)) (([]:List Value).toArray++news.toArray++Builtin.zeroCells z.cells (grownCap w (0+m) 0 e-(0+m))) e:=
      ⟨rfl,rfl,rfl,fun k hk=>Below.heap_alloc w.drew _ k hk,by show (w.heap.push _).size=_;simp,(0,0),by show (w.heap.push _)[w.heap.size]?=_;simp,.inl rfl⟩
     have NG:(([]:List Value).toArray++news.toArray++Builtin.zeroCells z.cells (grownCap w (0+m) 0 e-(0+m))).size=grownCap w (0+m) 0 e*i.size:=by
      simp only[Array.size_append,List.size_toArray,size_zeroCells,hzs,Un,List.length_nil,←Nat.add_mul];rw[Nat.zero_add (m*i.size),←Nat.add_mul]
      congr 1
      omega
     refine h.stepR (d:=some d) (nw:=[(d,.ar false new)]) LR (by simp[Bn,Q1]) (Lj P8 Q1 trivial ?_ (fun cells hx=>by cases hx) ?_ (by intro j hj;simp[Bq,B5,Al] at hj;exact .inr hj))
     ·refine .inr ⟨w.heap.size,0,Ak _ _ _,?_,fun _ j _ hj=>?_,(fun q=>by cases q)⟩
      ·exact Wf (pre:=[]) P8 (PJ Q1) trivial hs.rep (by simp) hs.one
      ·rw[P8.bsz] at hj;exact P8.frozen hj
     ·refine .inr ⟨w.heap.size,0,0,grownCap w (0+m) 0 e,Ak _ _ _,by rw[Nat.zero_add],.inl rfl,by omega,?_,by rw[P8.size];omega⟩
      exact⟨by rw[P8.bsz,NG];omega,.inr (H6 w.drew _ e)⟩
   ·rw[Yv] at hzz;cases hzz
   ·rw[Yv] at hzz;cases hzz
 ·cases hk
theorem KY (h:Cj N w0 X0 Y β s a w){c:Call}(ho:o.op=.call c)(hc:c.callee=.builtin .copy){b x:Operand}(Ea:c.args.toList=[b,x]) {t tx:TypeId}{ts:List TypeId}(Vd:c.argTypes.toList=t::tx::ts)
  {K:St->Option R} (hk:AL P N s o.dst t tx (Bu s.tm b) (Bu s.tm x) K=some r):
  ∃s',K s'=some r∧∀(next:Act->World->Prop) (Q:Exit->Act->World->Prop),(∀a' w' β',Cj N w0 X0 Y β' s' a' w'->next a' w')->o.wp P a w next Q:=by
 have Yo:c.args = #[b,x]:=by
  have:c.args=([b,x]:List Operand).toArray:=by rw[←Ea]
  exact this
 have JM:c.argTypes=(t::tx::ts).toArray:=by rw[←Vd]
 have run:∀{v:Value} {w1:World},(Builtin.copy_ (t::tx::ts).toArray o.type #[a.eval b,a.eval x]).run P w=.ok v w1->∀(next:Act->World->Prop) (Q:Exit->Act->World->Prop),next (a.put o.dst v) w1->o.wp P a w next Q:=by
  intro v w1 hr next Q hn;unfold Oper.wp execOp;rw[ho];simp only[resolve,hc,invoke,builtin,Sem.run_bind,Sem.run_pure,Result.andThen_ok,Yo,JM];have:(#[b,x]:Array Operand).map a.eval = #[a.eval b,a.eval x]:=by simp
  rw[this,hr];exact hn
 have hbv:=Cm h b;unfold AL at hk;split at hk
 ·rename_i e hu;obtain⟨TK,hk⟩:=Ai hk;simp only[Bool.and_eq_true] at TK;obtain⟨K6,LR⟩:=TK;obtain⟨i,hi⟩:∃i,P.info? e=some i:=Option.isSome_iff_exists.1 K6;have Kj:A6 P e=i.size:=by unfold A6;rw[hi];rfl
  have h1c:∀(m:Nat) (new:List PV),(match Bu s.tm b with
    |.view id es off n=>
     match s.hp id with
     |some (.ar false c)=>Bl (Nat.beq es (A6 P e)&&decide (off+n*es<=c.length)&&decide (new.length=m*es))
       (Ac (min m n) fun k=>Ac (Co c (new.take (k*es)) off) fun c=>K ⟨Bh s.tm o.dst (.sc (.int .i64 k)),Cg s.hp id (some (.ar false c))⟩)
     |_=>none
    |_=>none)=some r->new.length=m*A6 P e:=by
   intro m new hk;split at hk
   ·split at hk
    ·obtain⟨hb,_⟩:=Ai hk;simp only[Bool.and_eq_true,decide_eq_true_eq] at hb;rw[←Nat.eq_of_beq_eq_true hb.1.1];exact hb.2
    ·cases hk
   ·cases hk
  obtain⟨_,m,new,news,hk,hs⟩:=Xb h hk h1c;split at hk
  ·rename_i id es off n hb;rw[hb] at hbv;split at hk
   ·rename_i cc h0;obtain⟨hb,hk⟩:=Ai hk;simp only[Bool.and_eq_true,decide_eq_true_eq] at hb;obtain⟨⟨Pf,Vl⟩,ZU⟩:=hb;have Pf:=Nat.eq_of_beq_eq_true Pf;subst Pf;rw[Kj] at hk hs Vl ZU hbv;have Un:news.length=m*i.size:=by rw[←hs.rep.len];exact ZU
    have hkm:min m n*i.size<=m*i.size:=Nat.mul_le_mul_right _ (Nat.min_le_left _ _);have hkn:min m n*i.size<=n*i.size:=Nat.mul_le_mul_right _ (Nat.min_le_right _ _);have Iy:K ⟨Bh s.tm o.dst (.sc (.int .i64 ((min m n:Nat):Int))),Cg s.hp id (some (.ar false (Co cc (new.take (min m n*i.size)) off)))⟩=some r:=hk;refine⟨_,Iy,fun next Q hn=>?_⟩
    have Aa6:∀{β':Bt} {Ck:Nat->Option Bk} {w':World},Cj N w0 X0 Y β' ⟨s.tm,Ck⟩ a w'->Cj N w0 X0 Y β' ⟨Bh s.tm o.dst (.sc (.int .i64 ((min m n:Nat):Int))),Ck⟩ (a.put o.dst (goInt ((min m n:Nat):Int))) w':=
     fun hh=>hh.put LR (Aq.sc _) (fun _ hx=>by cases hx)
    have WO:new.take (min m n*i.size)=[]->Cg s.hp id (some (.ar false (Co cc (new.take (min m n*i.size)) off)))=s.hp:=by
     intro e;rw[e];refine Rj _ ?_;rw[h0];simp[Co]
    have nothing:min m n*i.size=0->∀(ad:Option Addr) (cap:Nat),a.eval b=.slice ad n cap->o.wp P a w next Q:=by
     intro e ad cap K8;have hr:=GW (P:=P) (w:=w) (w1:=w) (t:=t) (ty:=o.type) (ts:=tx::ts) (ad:=ad) (n:=n) (cap:=cap) hu hi hs (by rw[e];cases ad<;>simp[storeCells])
     rw[←K8] at hr;refine run hr next Q (hn _ _ β (Aa6 ?_));rw[WO (by rw[e,List.take_zero])]
     exact h
    rcases hbv with⟨hβ,_,rfl,ad,K8⟩|⟨bb,ob,y,cap,hβ,K8,hy,Amm,Qw,Aoe⟩
    ·exact nothing (by simp) ad 0 K8
    ·by_cases hm0:min m n*i.size=0
     ·exact nothing hm0 _ _ K8
     rcases h.box id _ h0 with⟨Eb,_⟩|⟨b',o',Eb,Gl,Qr,_⟩
     ·rw[hβ] at Eb;cases Eb
     rw[hβ] at Eb;simp at Eb;obtain⟨rfl,rfl⟩:=Eb;have Sq:n≠0:=by rintro rfl;simp at hm0
     have hy:y=ob+off:=by rcases hy with hy|⟨hq,_⟩<;>first|exact absurd hq Sq|exact hy
     subst hy;have B2:(news.take (min m n*i.size)).length=min m n*i.size:=by rw[List.length_take,Un];omega
     have Cn:∀k,k<(news.take (min m n*i.size)).length->(w.cell? ⟨bb,ob+off+k,none⟩).isSome=true:=by
      intro k hk;obtain⟨v,hv,_⟩:=Gl (off+k) _ (List.getElem?_eq_getElem (by omega))
      rw[Dy] at hv;rw[Nat.add_assoc,hv];rfl
     have UI:∀k,k<(news.take (min m n*i.size)).length->w.frozen? ⟨bb,ob+off+k,none⟩=false:=fun k hk=>by
      obtain⟨u,hu⟩:=Option.isSome_iff_exists.1 (Cn k hk);exact Qr rfl _ (by omega) (Yy hu)
     have h1:∀u∈news.take (min m n*i.size),u.oneCell'=true:=fun u hu=>hs.one u (List.mem_of_mem_take hu)
     have h3:=run_storeCells_cells (P:=P) bb (ob+off) (news.take (min m n*i.size)) 0 w (fun k hk=>by simpa using Cn k hk) (fun k hk=>by simpa using UI k hk) h1
     have hr:=GW (P:=P) (w:=w) (t:=t) (ty:=o.type) (ts:=tx::ts) (ad:=some ⟨bb,ob+off,none⟩) (n:=n) (cap:=cap) hu hi hs h3;rw[←K8] at hr;simp only[Nat.add_zero] at hr;refine run hr next Q (hn _ _ β (Aa6 ?_))
     refine h.write h0 trivial trivial hβ (De.setCells bb _ _ w) ?_ (fun cells hx=>by cases hx) (fun _ hx=>by cases hx) (fun j hj=>hj) (fun j hj=>by
      refine World.cell?_setCells_out bb _ _ w ⟨bb,j,none⟩ (fun _ _=>?_)
      have hj:¬(ob<=j):=hj;show j<ob+off∨ob+off+_<=j;omega)
     have Ey:B1 (Cu s.hp β Y) w (w.setCells bb (ob+off) (news.take (min m n*i.size))):=by
      have hw:=De.setCells bb (news.take (min m n*i.size)) (ob+off) w;have hAb:Cu s.hp β Y bb:=.inl ⟨id,ob,by rw[h0];trivial,hβ⟩
      exact⟨by rw[hw.size];exact Nat.le_refl _,fun k _ hk=>hw.other k (fun e=>hk (e ▸ hAb)),fun k _=>hw.grow k⟩
     have hll:(new.take (min m n*i.size)).length=min m n*i.size:=by rw[List.length_take,ZU];omega
     refine .inr ⟨bb,ob,hβ,fun j p hj=>?_,fun _ j hj M8=>?_,(fun x=>by cases x)⟩
     ·rw[Dy];rcases Mm (by omega) hj with⟨h3,h4,h5⟩|⟨h3,h5⟩
      ·have Ann:j-off<min m n*i.size:=by omega
       rw[List.getElem?_take_of_lt Ann] at h5;obtain⟨u,hu,hcu⟩:=hs.rep.get h5;have ZC:j-off<(news.take (min m n*i.size)).length:=by omega
       refine⟨u,?_,hs.one u (List.mem_of_getElem? hu),hcu.step Ey (fun _ _ x=>x)⟩
       have:=World.cell?_setCells_in bb (news.take (min m n*i.size)) (ob+off) w Cn (j-off) ZC;rw[show ob+j=ob+off+(j-off) from by omega,this]
       rw[←List.getElem?_eq_getElem ZC,List.getElem?_take_of_lt Ann];exact hu
      ·obtain⟨v,hv,h6,Uk⟩:=Gl j p h5;rw[Dy] at hv;refine⟨v,?_,h6,Uk.step Ey (fun _ _ x=>x)⟩
       rw[World.cell?_setCells_out bb _ _ w ⟨bb,ob+j,none⟩ (fun _ _=>by show ob+j<ob+off∨ob+off+_<=ob+j;omega)]
       exact hv
     ·rw[(De.setCells bb _ _ w).bs] at M8;rw[(De.setCells bb _ _ w).frz];exact Qr rfl j hj M8
   ·cases hk
  ·cases hk
 ·cases hk
theorem ND (h:Cj N w0 X0 Y β s a w){G:Qi}(H7:JH P G w0 X0){C:Fk}{call:A7}(Df:∀f args res,call f args=some res->Cx G P f args res){K:St->Option R}(hk:Oy C P N call s o K=some r):
  ∃s',K s'=some r∧∀(next:Act->World->Prop) (Q:Exit->Act->World->Prop),(∀a' w' β',Cj N w0 X0 Y β' s' a' w'->next a' w')->o.wp P a w next Q:=by
 unfold Oy at hk;split at hk
 ·rename_i t x y ho;obtain⟨hd,hk⟩:=Ai hk;exact HI h ho (by simpa using hd) hk
 ·rename_i c ho;split at hk
  ·rename_i hc;obtain⟨d,hd,Dn⟩:=B3 hk;obtain⟨b,xs,Y4,D3⟩:=A5 Dn;obtain⟨x,ys,hys,Iq⟩:=A5 D3;obtain⟨T8,O7⟩:=C7 Iq;obtain⟨t,us,UP,NS⟩:=A5 O7;obtain⟨tx,vs,M3,hk6⟩:=A5 NS;rw[hys,T8] at Y4;rw[M3] at UP;exact DN h ho hc hd Y4 UP hk6
  ·rename_i hc;obtain⟨b,xs,Y4,D3⟩:=A5 hk;obtain⟨x,ys,hys,Iq⟩:=A5 D3;obtain⟨T8,O7⟩:=C7 Iq;obtain⟨t,us,UP,NS⟩:=A5 O7;obtain⟨tx,vs,M3,hk6⟩:=A5 NS;rw[hys,T8] at Y4;rw[M3] at UP;exact KY h ho hc Y4 UP hk6
  ·rename_i f hc;exact IJ h H7 Df ho hc hk
  ·cases hk
 ·cases hk
theorem LX (h:Cj N w0 X0 Y β s a w){G:Qi}(H7:JH P G w0 X0){C:Fk}{call:A7}(Df:∀f args res,call f args=some res->Cx G P f args res){K:St->Option R}(hk:GM C P N call o s K=some r):
  ∃s',K s'=some r∧∀(next:Act->World->Prop) (Q:Exit->Act->World->Prop),(∀a' w' β',Cj N w0 X0 Y β' s' a' w'->next a' w')->o.wp P a w next Q:=by
 unfold GM at hk;cases hm:Mc C P o.op
 ·rw[hm] at hk;exact LK h H7 Df hk
 ·rw[hm] at hk;exact ND h H7 Df hk
end
end
end Go.Proofs.YtodnjibebeghjaaDoor.Pv
