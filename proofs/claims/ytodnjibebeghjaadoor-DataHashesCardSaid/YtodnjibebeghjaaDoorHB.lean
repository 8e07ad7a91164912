/-
  The proof of DataHashes, part 2.
-/
import Derived.Test.YtodnjibebeghjaaDoorHA
import Derived.Laws.Append
import Derived.IntWalk
import Derived.Laws.AppendOwn
import Derived.Laws.IdiomCopy
set_option linter.unusedSimpArgs false
set_option linter.unusedVariables false
namespace Go.Proofs.YtodnjibebeghjaaDoor.Pv
section
open Go.RowKit
def Fd (w:World)(A:Nat->Prop)(own:Option (Nat × Nat)) (p:PV)(u:Value):Prop:=
 match p with
 |.own es n c=>(own=none∧n=0∧c=[]∧∃ad,u=.slice ad 0 0) ∨
   ∃b o cap,own=some (b,o)∧u=.slice (some ⟨b,o,none⟩) n cap∧n<=cap∧Fit w es b (o+cap*es)∧b<w.heap.size∧NT w A ⟨b,o,none⟩ c∧∀j,o<=j->j<bsz w b->w.frozen? ⟨b,j,none⟩=false
 |p=>Ar w A p u
def D6 (w:World)(A:Nat->Prop)(own:Bt):Nat->List PV->List Value->Prop
 |_,[],[]=>True
 |j,p::ps,u::us=>Fd w A (own j) p u∧D6 w A own (j+1) ps us
 |_,_,_=>False
def Aag (w:World)(A:Nat->Prop)(own:Bt)(j b o:Nat)(cs:List PV):Prop:=
 ∃vs,D6 w A own j cs vs∧(∀(k:Nat) v,vs[k]?=some v->w.cell? ⟨b,o+k,none⟩=some v)∧∀k,k<cs.length->w.frozen? ⟨b,o+k,none⟩=false
def Agm (w:World)(A:Nat->Prop)(own:Bt)(z j:Nat)(p:PV)(u:Value):Prop:=
 match p with
 |.agg cs=>∃vs,u=.agg ⟨vs⟩∧D6 w A own j cs vs
 |.pbox cs=>∃b o,own j=some (b,o)∧z<=b∧u=.pointer (some ⟨b,o,none⟩)∧Aag w A own (j+1) b o cs
 |p=>Fd w A (own j) p u
def UE:PV->Nat
 |.pbox cs=>1+cs.length
 |p=>(cellsOf p).length
def DV (w:World)(A:Nat->Prop)(own:Bt)(z:Nat):Nat->List PV->List Value->Prop
 |_,[],[]=>True
 |j,p::ps,u::us=>Agm w A own z j p u∧DV w A own z (j+UE p) ps us
 |_,_,_=>False
abbrev Ud:=Nat->Nat->Option (Nat × Nat)
def UR (bt:Ud)(b:Nat):Prop:=∃i j o,bt i j=some (b,o)
def isA (p:PV):Prop:=Q6 p∨∃es n c,p=.own es n c
def Uc (p:PV):Bool:=
 match p with
 |.pbox _=>true
 |.tup _=>true
 |_=>false
theorem Af3 {p:PV}(h:isA p):Uc p=false:=by
 rcases h with h|⟨_,_,_,rfl⟩
 ·cases p<;>first|rfl|exact h.elim
 ·rfl
def NP (w:World)(A:Nat->Prop)(bt:Bt)(p:PV)(u:Value):Prop:=
 match p with
 |.pbox ps=>∃b o,bt 0=some (b,o)∧u=.pointer (some ⟨b,o,none⟩)∧(∀p∈ps,isA p)∧Aag w A bt 1 b o ps
 |.tup ps=>∃es n c,ps=[.own es n c]∧Fd w A (bt 0) (.own es n c) u
 |.agg cs=>∃vs,u=.agg ⟨vs⟩∧(∀p∈cs,isA p)∧D6 w A bt 1 cs vs
 |p=>isA p∧Fd w A (bt 1) p u
def Il (w:World)(A:Nat->Prop)(bt:Ud):Nat->List PV->List Value->Prop
 |_,[],[]=>True
 |i,p::ps,u::us=>NP w A (bt i) p u∧Il w A bt (i+1) ps us
 |_,_,_=>False
def Akd (bt:Bt)(p:PV)(b j:Nat):Prop:=
 (∃k o,bt (k+1)=some (b,o)∧o<=j)∨∃o ps,bt 0=some (b,o)∧o<=j∧((p=.pbox ps∧j<o+ps.length)∨p=.tup ps)
def Yr (bt:Ud)(args:List PV)(b j:Nat):Prop:=∃i p,args[i]?=some p∧Akd (bt i) p b j
def Q1 (w:World)(A:Nat->Prop)(own:Bt)(bt:Ud):Nat->Nat->List PV->List (List PV)->Prop
 |_,_,[],r=>r=[]
 |j,i,p::zs,r=>
  match p with
  |.pbox ps=>
   match r with
   |[]=>False
   |cs::r=>(∃b o,bt i 0=some (b,o)∧cs.length=ps.length∧Aag w A own j b o cs)∧Q1 w A own bt (j+cs.length) (i+1) zs r
  |.tup _=>
   match r with
   |[]=>False
   |cs::r=>((bt i 0=none∧cs=[])∨∃b o,bt i 0=some (b,o)∧NT w A ⟨b,o,none⟩ cs∧∀k,o<=k->k<bsz w b->w.frozen? ⟨b,k,none⟩=false)∧Q1 w A own bt j (i+1) zs r
  |_=>Q1 w A own bt j (i+1) zs r
def Zr (bt:Ud)(own:Bt)(Y:Nat->Prop)(b:Nat):Prop:=(∃j o,own j=some (b,o))∨(∃i o,bt i 0=some (b,o))∨Y b
def I6 (vals:List PV):Nat:=(vals.map UE).sum
structure Out (w w':World) (Y:Nat->Prop) (bt:Ud) (args:List PV) (own:Bt) (r:Ay) (vs:List Value):Prop where
 os:w'.os=w.os
 tape:w'.tape=w.tape
 output:w'.output=w.output
 ext:B2 (UR bt) w w'
 rng:∀b j,b<w.heap.size->¬Yr bt args b j->w'.cell? ⟨b,j,none⟩=w.cell? ⟨b,j,none⟩∧w'.frozen? ⟨b,j,none⟩=w.frozen? ⟨b,j,none⟩
 vals:DV w' (Zr bt own Y) own w.heap.size 0 r.vals vs
 outs:Q1 w' (Zr bt own Y) own bt (I6 r.vals) 0 args r.outs
 fresh:∀j b o,own j=some (b,o)->b<w'.heap.size∧(b<w.heap.size->(∃i k o',bt i (k+1)=some (b,o'))∧∀x,o<=x->Yr bt args b x)
 inj:∀j j' b o o',own j=some (b,o)->own j'=some (b,o')->j=j'
def Gn (us:List Value):Value:=match us with|[u]=>u|us=>.tuple ⟨us⟩
def Nk (w:World)(Y:Nat->Prop)(p:PV)(u:Value):Prop:=
 match p with
 |.agg cs=>∃vs,u=.agg ⟨vs⟩∧Bb (fun c v=>Q6 c∧Ar w Y c v) cs vs
 |p=>Q6 p∧Ar w Y p u
structure Ins (w:World) (Y:Nat->Prop) (bt:Ud) (args:List PV) (us:List Value):Prop where
 Ylt:∀b,Y b->b<w.heap.size
 Yx:∀b,Y b->¬UR bt b
 lt:∀b,UR bt b->b<w.heap.size
 inj:∀i j i' j' b o o',bt i j=some (b,o)->bt i' j'=some (b,o')->i=i'∧j=j'
 l0:∀i q,bt i 0=some q->∃p,args[i]?=some p∧Uc p=true
 args:Il w (fun b=>UR bt b∨Y b) bt 0 args us
structure Rx where
 bl:Nat->Prop
 ok:World->Prop
 stable:∀w w':World,(∀b,bl b->b<w.heap.size->w'.heap[b]?=w.heap[b]?)->ok w->ok w'
def Cw (G:Rx)(P:Program)(f:FuncId)(args:List PV)(r:Ay):Prop:=
 (∃fn,P.funcs[f]?=some fn∧fn.body.isSome=true)∧∀(w:World)(Y:Nat->Prop)(bt:Ud)(us:List Value),Ins w Y bt args us->G.ok w->(∀b,G.bl b->b<w.heap.size∧¬UR bt b) ->
  Calls P f us.toArray w fun e w'=>∃vs own,e=.returned (Gn vs)∧Out w w' Y bt args own r vs
def NB:Ud:=fun _ _=>none
theorem Ma (b:Nat):¬UR NB b:=by rintro⟨_,_,_,h⟩;cases h
theorem H7 {w:World}{A:Nat->Prop}{q:Option (Nat × Nat)} {p:PV}{u:Value}(hp:Q6 p)(h:Ar w A p u):Fd w A q p u:=by
 cases p<;>first|exact h|exact hp.elim
theorem Vq {w:World}{A:Nat->Prop}{own:Bt}:∀{cs:List PV}{vs:List Value}{j:Nat},Bb (fun c v=>Q6 c∧Ar w A c v) cs vs->D6 w A own j cs vs
 |[],[],_,_=>trivial
 |_::_,_::_,_,h=>⟨H7 h.1.1 h.1.2,Vq h.2⟩
 |[],_::_,_,h=>h.elim
 |_::_,[],_,h=>h.elim
theorem VL {w:World}{A:Nat->Prop}{bt:Bt}{p:PV}{u:Value}(h:Nk w A p u):NP w A bt p u:=by
 cases p with
 |agg cs=>
  obtain⟨vs,h1,h2⟩:=h;refine⟨vs,h1,fun p hp=>.inl ?_,Vq h2⟩
  obtain⟨j,hj⟩:=List.mem_iff_getElem?.1 hp;obtain⟨v,_,hv⟩:=h2.get hj;exact hv.1
 |sc v=>exact⟨.inl trivial,h.2⟩
 |lst z es n c=>exact⟨.inl trivial,h.2⟩
 |_=>exact h.1.elim
theorem Zd {w:World}{A:Nat->Prop}{bt:Ud}:∀{ps:List PV}{us:List Value}{i:Nat},Bb (Nk w A) ps us->Il w A bt i ps us
 |[],[],_,_=>trivial
 |_::_,_::_,_,h=>⟨VL h.1,Zd h.2⟩
 |[],_::_,_,h=>h.elim
 |_::_,[],_,h=>h.elim
theorem TZ {w:World}{A A':Nat->Prop}(hA:∀b,b<w.heap.size->A' b->A b){p:PV}{v:Value}(h:Nk w A p v):Nk w A' p v:=by
 cases p with
 |agg cs=>
  obtain⟨vs,rfl,h2⟩:=h;exact⟨vs,rfl,h2.mono fun c v hc=>⟨hc.1,hc.2.step (B2.refl _ _) hA⟩⟩
 |sc v=>exact⟨h.1,h.2.step (B2.refl _ _) hA⟩
 |lst z es n c=>exact⟨h.1,h.2.step (B2.refl _ _) hA⟩
 |_=>exact h.1.elim
theorem NA {w:World}{Y:Nat->Prop}{args:List PV}{us:List Value}(hY:∀b,Y b->b<w.heap.size)(h:Bb (Nk w Y) args us):Ins w Y NB args us:=
 ⟨hY,fun b _=>Ma b,fun b h=>absurd h (Ma b),(fun _ _ _ _ _ _ _ h=>by cases h),(fun _ _ h=>by cases h),Zd (h.mono fun _ _ hx=>TZ (fun b _ hb=>hb.elim (fun q=>absurd q (Ma b)) id) hx)⟩
def NoNG (P:Program):Prop:=∀(f:FuncId) (fn:Func),P.funcs[f]?=some fn->(fn.name == "runtime.NumGoroutine")=false
structure MZ (P:Program) (G:Rx) (w0:World) (X0:Gq):Prop where
 ng:NoNG P
 fr:∀w,Fr X0 w0 w->G.ok w
 y:∀b,G.bl b->b<w0.heap.size∧¬X0.X b
section
variable {R:Type} {r:R} {P:Program} {N:Nat} {w0:World} {X0:Gq} {Y:Nat->Prop} {β β':Bt} {s:St} {a:Act} {w w':World} {o:Oper} {A:Nat->Prop}
def Y5 (P:Program)(a:Act)(w:World)(o:Oper)(Y:Nat->Prop)(β:Bt)(s:St)(v:PV)(fz:List Nat)(nw:List (Nat × Bk)):Prop:=
 (∀id∈fz,∃f c,s.hp id=some (.ar f c))∧∀(next:Act->World->Prop)(Q:Exit->Act->World->Prop),
  (∀val w',(Bn s.hp nw=true->∃β',DX Y β ⟨s.tm,Af s.hp fz⟩ w v nw val w' β')->next (a.put o.dst val) w')->o.wp P a w next Q
theorem Zi {v:PV}{fz:List Nat}{nw:List (Nat × Bk)} (h:Dt P a w o Y β s v fz nw):Y5 P a w o Y β s v fz nw:=by
 obtain⟨h1,val,w',hr,hs⟩:=h;refine⟨h1,fun next Q hn=>?_⟩
 unfold Oper.wp;rw[hr];exact hn val w' hs
theorem Abo (h:Cj N w0 X0 Y β s a w){t:TypeId}{x:PV}{u:Value}(hx:Dx w (Ct s.hp β Y) β x u) {K:PV->List Nat->Option R}(hk:PW P (Hl s.hp) t x K=some r):
  ∃p m,K p m=some r∧(∀id∈m,∃f cc,s.hp id=some (.ar f cc))∧(cellsOf p).length=(Gr P t).length∧∀fz:List Nat,(∀id∈m,id∈fz)->(∀id∈fz,∃f cc,s.hp id=some (.ar f cc))->Nk w (Ct (Af s.hp fz) β Y) p u:=by
 unfold PW at hk;cases E6:B0 P t
 ·rw[E6] at hk;obtain⟨cs,m,hk,hl,Ib,hT,hF,hm,hv⟩:=Mh h (show Kf _ _ _ _=some r from hk)
  obtain⟨c,t',rfl,hk⟩:=A6 hk;obtain⟨rfl,hk⟩:=C6 hk;have hcT:=hT c (by simp)
  refine⟨c,m,hk,hm,?_,fun fz h1 h2=>?_⟩
  ·have:cellsOf c=[c]:=by cases c<;>first|rfl|exact hcT.elim
   rw[this];exact hl
  have hF':=hF _ (List.mem_singleton_self _)
  have hc:Bu w (Ct s.hp β Y) β x u:=by
   cases x<;>first|exact hx|exact hF'.elim
  have h3:=(hv fz h1 h2 [u] ⟨hc,trivial⟩).1.1;cases c<;>first|exact⟨trivial,h3⟩|exact hcT.elim
 ·rw[E6] at hk;obtain⟨ps,hp,hk⟩:=F2 (show Fo _ _=some r from hk)
  rw[hp] at hx;obtain⟨cs,m,hk,hl,Ib,hT,hF,hm,hv⟩:=Mh h hk;obtain⟨vs,Cv,h2⟩:=hx;refine⟨.agg cs,m,hk,hm,hl,fun fz h1 h3=>⟨vs,Cv,?_⟩⟩
  exact (hv fz h1 h3 vs h2).1.mono_mem fun c hc v We=>⟨hT c hc,We⟩
theorem Aa5 (h:Cj N w0 X0 Y β s a w){t:TypeId}{x:Operand}{K:PV->List Nat->Option R}(hk:PW P (Hl s.hp) t (Bv s.tm x) K=some r):
  ∃p m,K p m=some r∧(∀id∈m,∃f cc,s.hp id=some (.ar f cc))∧∀fz:List Nat,(∀id∈m,id∈fz)->(∀id∈fz,∃f cc,s.hp id=some (.ar f cc))->Nk w (Ct (Af s.hp fz) β Y) p (a.eval x):=by
 obtain⟨p,m,h1,h2,_,h3⟩:=Abo h (Cn h x) hk;exact⟨p,m,h1,h2,h3⟩
theorem EE (h:Cj N w0 X0 Y β s a w):∀{ts:List TypeId}{xs:List Operand}{K:List PV->List Nat->Option R},X9 P (Hl s.hp) ts (xs.map (Bv s.tm)) K=some r ->
  ∃ps m,K ps m=some r∧(∀id∈m,∃f cc,s.hp id=some (.ar f cc))∧∀fz:List Nat,(∀id∈m,id∈fz)->(∀id∈fz,∃f cc,s.hp id=some (.ar f cc))->Bb (Nk w (Ct (Af s.hp fz) β Y)) ps (xs.map a.eval)
 |[],[],K,hk=>⟨[],[],hk,by simp,fun _ _ _=>trivial⟩
 |[],_::_,K,hk=>by cases hk
 |_::_,[],K,hk=>by cases hk
 |t::ts,x::xs,K,hk=>by
  simp only[List.map_cons] at hk;unfold X9 at hk;obtain⟨p,m,hk,hm,hv⟩:=Aa5 h hk;obtain⟨ps,ms,hk,Z9,Of⟩:=EE h hk;refine⟨p::ps,m++ms,hk,?_,fun fz h1 h2=>⟨hv fz (fun i hi=>h1 i (by simp[hi])) h2,Of fz (fun i hi=>h1 i (by simp[hi])) h2⟩⟩
  intro i hi;rcases List.mem_append.1 hi with hi|hi
  ·exact hm i hi
  ·exact Z9 i hi
theorem Nk.weaken {A':Nat->Prop}(hA:∀b,b<w.heap.size->A' b->A b){p:PV}{v:Value}(h:Nk w A p v):Nk w A' p v:=by
 have one:Q6 p->Q6 p∧Ar w A p v->Nk w A' p v:=by
  intro hp h;cases p<;>first|exact⟨h.1,h.2.step (B2.refl _ _) hA⟩|exact hp.elim
 cases p with
 |agg cs=>
  obtain⟨vs,rfl,h2⟩:=h;exact⟨vs,rfl,h2.mono fun c v hc=>⟨hc.1,hc.2.step (B2.refl _ _) hA⟩⟩
 |_=>exact one h.1 h
theorem Aa9 {t:CT}{p:PV}{K:PV->Option R}(h:Uh t p K=some r):
  ∃c,K c=some r∧Q6 c∧Q6 p∧(∀(w:World) (A:Nat->Prop) (β:Nat->Option (Nat × Nat)) (v:Value),Bu w A β p v->Ar w A c v∧v.oneCell'=true)∧((∀es,t ≠ .sl es)->∃v,c=.sc v):=by
 obtain⟨c,hk,hT,Ze,hv⟩:=J0 h;cases t with
 |sl es=>exact⟨c,hk,hT,Ze,hv,fun Ec=>absurd rfl (Ec es)⟩
 |int k=>obtain⟨n,rfl,h2⟩:=Dv h;exact⟨_,h2,trivial,trivial,fun w A β v hv=>⟨hv,by have:=Ar.val (w:=w) (A:=A) hv;subst this;rfl⟩,fun _=>⟨_,rfl⟩⟩
 |bool=>obtain⟨n,rfl,h2⟩:=Dd h;exact⟨_,h2,trivial,trivial,fun w A β v hv=>⟨hv,by have:=Ar.val (w:=w) (A:=A) hv;subst this;rfl⟩,fun _=>⟨_,rfl⟩⟩
 |str=>obtain⟨n,rfl,h2⟩:=C7 h;exact⟨_,h2,trivial,trivial,fun w A β v hv=>⟨hv,by have:=Ar.val (w:=w) (A:=A) hv;subst this;rfl⟩,fun _=>⟨_,rfl⟩⟩
 |any=>
  obtain⟨u,rfl,h1,h2⟩:=TE (show WV p (fun v=>K (.sc v))=some r from h)
  exact⟨_,h2,trivial,trivial,fun w A β v hv=>⟨hv,by have:=Ar.val (w:=w) (A:=A) hv;subst this;exact h1⟩,fun _=>⟨_,rfl⟩⟩
theorem Qb (shr:Bool)(N:Nat):∀{ts:List CT}{ps:List PV}{id:Nat}{K:List PV->List (Nat × Bk)->Option R},Mz shr N id ts ps K=some r ->
  ∃cs bs,K cs bs=some r∧ps.length=ts.length∧(∀p∈ps,∀x,p ≠ .agg x∧p ≠ .pbox x)∧(∀c∈cs,BM c)∧((∀es,CT.sl es ∉ ts)->bs=[]∧∀c∈cs,∃v,c=.sc v) ∧
   (∀i bx,(i,bx)∈bs->∃j es n c,ps[j]?=some (.own es n c)∧i=id+N*j∧bx=.ar false c) ∧
   (∀c∈cs,∀i∈Am c,∃bx,(i,bx)∈bs) ∧
   ∀(w:World) (A:Nat->Prop) (own β':Bt) (j0:Nat) (us:List Value),(∀j,(∃bx,(id+N*j,bx)∈bs)->β' (id+N*j)=own (j0+j))->D6 w A own j0 ps us->Bb (Bu w A β') cs us
 |[],ps,id,K,hk=>by
  obtain⟨rfl,hk⟩:=C6 hk;refine⟨[],[],hk,rfl,by simp,by simp,by simp,by simp,by simp,fun w A own β' j0 us _ h=>?_⟩
  cases us with
  |nil=>trivial
  |cons u us=>exact h.elim
 |t::ts,ps,id,K,hk=>by
  unfold Mz at hk;obtain⟨p,ps',Wx,Dn⟩:=A6 hk;subst Wx;clear hk
  have main:∃c b,(Mz shr N (id+N) ts ps' fun cs bs=>K (c::cs) (b++bs))=some r∧(∀x,p ≠ .agg x∧p ≠ .pbox x)∧BM c∧((∀es,t≠CT.sl es)->b=[]∧∃v,c=.sc v)∧(∀i bx,(i,bx)∈b->∃es n cc,p=.own es n cc∧i=id∧bx=.ar false cc)∧(∀i∈Am c,∃bx,(i,bx)∈b) ∧
    ∀(w:World) (A:Nat->Prop) (own:Option (Nat × Nat)) (β':Bt) (u:Value),((∃bx,(id,bx)∈b)->β' id=own)->Fd w A own p u->Bu w A β' c u:=by
   have tree:∀t',t'=t->(Uh t' p fun c=>Mz shr N (id+N) ts ps' fun cs bs=>K (c::cs) ([]++bs))=some r->∃c b,(Mz shr N (id+N) ts ps' fun cs bs=>K (c::cs) (b++bs))=some r∧(∀x,p ≠ .agg x∧p ≠ .pbox x)∧BM c∧((∀es,t≠CT.sl es)->b=[]∧∃v,c=.sc v)∧(∀i bx,(i,bx)∈b->∃es n cc,p=.own es n cc∧i=id∧bx=.ar false cc)∧(∀i∈Am c,∃bx,(i,bx)∈b) ∧
     ∀(w:World) (A:Nat->Prop) (own:Option (Nat × Nat)) (β':Bt) (u:Value),((∃bx,(id,bx)∈b)->β' id=own)->Fd w A own p u->Bu w A β' c u:=by
    intro t' ht' hk;have OB:=Aa9 hk;obtain⟨c,hk,hT,Ze,hv,OB⟩:=OB;refine⟨c,[],hk,fun x=>⟨S5 Ze x,by rintro rfl;exact Ze⟩,Nu hT,fun Ec=>⟨rfl,OB (fun es e=>Ec es (ht'.symm.trans e))⟩,by simp,by rw[Gd hT];simp,fun w A own β' u _ hc=>?_⟩
    have Nn:Bu w A β' p u:=by cases p<;>first|exact hc|exact Ze.elim
    exact (Iv hT).2 (hv w A β' u Nn).1
   unfold Aa4 at Dn;cases t with
   |sl es=>
    dsimp only at Dn;cases shr
    ·unfold OC at Dn;simp only[cond_false] at Dn;split at Dn
     ·rename_i es' n c;cases hb:Nat.beq es' es
      ·rw[hb] at Dn;cases Dn
      ·rw[hb] at Dn;have:=Nat.eq_of_beq_eq_true hb;subst this;refine⟨_,_,Dn,by simp,trivial,fun Ec=>absurd rfl (Ec _),?_,?_,fun w A own β' u hβ hc=>?_⟩
       ·intro i bx hm;simp at hm;exact⟨_,_,_,rfl,hm.1,hm.2⟩
       ·intro i hi;simp[Am] at hi;subst hi;exact⟨.ar false c,by simp⟩
       ·have hβ':=hβ ⟨.ar false c,by simp⟩
        clear hβ;rcases hc with⟨h1,rfl,rfl,h4⟩|⟨b,ob,cap,h1,h2,h3,h4,h5,_⟩
        ·exact .inl ⟨hβ'.trans h1,rfl,rfl,h4⟩
        ·exact .inr ⟨b,ob,ob,cap,hβ'.trans h1,h2,.inl rfl,h3,h4,h5⟩
     ·cases Dn
    ·obtain⟨c,hk,hT,Ze,hv,_⟩:=Aa9 (t:=.sl es) (p:=p) (K:=fun c=>Mz true N (id+N) ts ps' fun cs bs=>K (II c::cs) ([]++bs)) Dn
     have hU:Q6 (II c):=by cases c<;>exact hT
     refine⟨II c,[],hk,fun x=>⟨S5 Ze x,by rintro rfl;exact Ze⟩,Nu hU,fun Ec=>absurd rfl (Ec _),by simp,by rw[Gd hU];simp,fun w A own β' u _ hc=>?_⟩
     have Nn:Bu w A β' p u:=by cases p<;>first|exact hc|exact Ze.elim
     refine (Iv hU).2 ?_;have:=(hv w A β' u Nn).1;cases c with
     |lst z es n c=>exact Ar.unz this
     |_=>exact this
   |int k=>exact tree (.int k) rfl Dn
   |bool=>exact tree .bool rfl Dn
   |str=>exact tree .str rfl Dn
   |any=>exact tree .any rfl Dn
  obtain⟨c,b,hk,hpa,hF,NH,Ee,Gw,We⟩:=main;obtain⟨cs,bs,hk,hl,Axb,hFs,Amj,A1d,Avp,A1e⟩:=Qb shr N hk;refine⟨c::cs,b++bs,hk,by simp[hl],?_,?_,?_,?_,?_,fun w A own β' j0 us hβ hoc=>?_⟩
  ·intro x hx;rcases List.mem_cons.1 hx with rfl|hx
   ·exact hpa
   ·exact Axb x hx
  ·intro x hx;rcases List.mem_cons.1 hx with rfl|hx
   ·exact hF
   ·exact hFs x hx
  ·intro Ec;obtain⟨h1,v,h2⟩:=NH (fun es e=>Ec es (by rw[e];simp))
   obtain⟨h3,h4⟩:=Amj (fun es hm=>Ec es (by simp[hm]))
   refine⟨by rw[h1,h3];rfl,fun x hx=>?_⟩
   rcases List.mem_cons.1 hx with rfl|hx
   ·exact⟨v,h2⟩
   ·exact h4 x hx
  ·intro i bx hm;rcases List.mem_append.1 hm with hm|hm
   ·obtain⟨es,n,cc,rfl,rfl,rfl⟩:=Ee i bx hm;exact⟨0,es,n,cc,rfl,by simp,rfl⟩
   ·obtain⟨j,es,n,cc,h1,rfl,h3⟩:=A1d i bx hm;exact⟨j+1,es,n,cc,by simpa using h1,by rw[Nat.mul_add];omega,h3⟩
  ·intro x hx i hi;rcases List.mem_cons.1 hx with rfl|hx
   ·obtain⟨bx,hm⟩:=Gw i hi;exact⟨bx,by simp[hm]⟩
   ·obtain⟨bx,hm⟩:=Avp x hx i hi;exact⟨bx,by simp[hm]⟩
  ·cases us with
   |nil=>exact hoc.elim
   |cons u us=>
    refine⟨We w A (own j0) β' u (fun ⟨bx,hm⟩=>by have:=hβ 0 ⟨bx,by simp[hm]⟩;simpa using this) hoc.1,?_⟩
    refine A1e w A own β' (j0+1) us (fun j ⟨bx,hm⟩=>?_) hoc.2
    have e:id+N+N*j=id+N*(j+1):=by rw[Nat.mul_add];omega
    have:=hβ (j+1) ⟨bx,by rw[←e];simp[hm]⟩
    rw[e,this]
    congr 1
    omega
end
open Go.RowKit
section
variable {R:Type} {r:R} {P:Program} {N:Nat} {w0:World} {X0:Gq} {Y:Nat->Prop} {β β':Bt} {s:St} {a:Act} {w w':World} {o:Oper} {A:Nat->Prop}
theorem D6.len:∀{j:Nat}{own:Bt}{ps:List PV}{us:List Value},D6 w A own j ps us->ps.length=us.length
 |_,_,[],[],_=>rfl
 |_,_,_::_,_::_,h=>by simp[D6.len h.2]
 |_,_,[],_::_,h=>h.elim
 |_,_,_::_,[],h=>h.elim
theorem D6.at_:∀{j:Nat}{own:Bt}{ps:List PV}{us:List Value},D6 w A own j ps us->∀{i:Nat} {p},ps[i]?=some p->∃u,us[i]?=some u∧Fd w A (own (j+i)) p u
 |_,_,[],[],_,i,p,h=>by simp at h
 |j,own,_::_,u::_,h,0,p,hp=>by simp at hp;subst hp;exact⟨u,rfl,h.1⟩
 |j,own,_::_,_::_,h,i+1,p,hp=>by
  simp at hp;obtain⟨u,hu,hc⟩:=D6.at_ h.2 hp;exact⟨u,by simpa using hu,by rw[show j+(i+1)=j+1+i from by omega];exact hc⟩
 |_,_,[],_::_,h,_,_,_=>h.elim
 |_,_,_::_,[],h,_,_,_=>h.elim
def Abb (N id:Nat)(β':Bt)(w:World)(A:Nat->Prop)(z n:Nat)(bs:List (Nat × Bk)):Prop:=
 ∀i bx,(i,bx)∈bs->(∃j,i=id+N*j∧j<n)∧Cu (some bx)∧Nf w A β' i bx∧∀cs,bx=.st cs->∀b o,β' i=some (b,o)->z<=b
def Uo (bs:List (Nat × Bk)):Prop:=∀i cells,(i,.st cells)∈bs->∀c∈cells,∀i'∈Am c,∃bx,(i',bx)∈bs
theorem S1 {q:Option (Nat × Nat)} {es n i:Nat}{c:List PV}{u:Value}(h:Fd w A q (.own es n c) u) (hβ:β' i=q):Nf w A β' i (.ar false c):=by
 rcases h with⟨h1,_,h2,_⟩|⟨b,o,cap,h1,_,_,_,_,h6,h7⟩
 ·exact .inl ⟨hβ.trans h1,h2⟩
 ·exact .inr ⟨b,o,hβ.trans h1,h6,fun _=>h7,(fun x=>by cases x)⟩
theorem Ui {t:TypeId}(h:Hh P [t]=false):Sz P t=none∧∀es,CT.sl es ∉ Gr P t:=by
 simp only[Hh,List.any_cons,List.any_nil,Bool.or_false,Bool.or_eq_false_iff] at h;refine⟨by simpa using h.1,fun es hm=>?_⟩
 have:=List.any_eq_false.1 h.2 _ hm;simp at this
theorem Acl (shr:Bool)(N:Nat){t:TypeId}{p:PV}{id:Nat}{K:PV->List (Nat × Bk)->Option R} (hk:WO P shr N id t p K=some r):
  ∃v bs,K v bs=some r∧UE p=LG P t∧(∀x,v ≠ .tup x)∧(Hh P [t]=false->bs=[]∧∀c∈cellsOf v,∃u,c=.sc u)∧(∀i∈B6 v,∃bx,(i,bx)∈bs)∧Uo bs ∧
   ∀(w:World) (A:Nat->Prop) (own β':Bt) (z j0:Nat) (u:Value),(∀j,(∃bx,(id+N*j,bx)∈bs)->β' (id+N*j)=own (j0+j))->Agm w A own z j0 p u->Gk w A β' v u∧Abb N id β' w A z (UE p) bs:=by
 have boxes:∀{bs:List (Nat × Bk)} {ps:List PV} {id:Nat},(∀i bx,(i,bx)∈bs->∃j es n c,ps[j]?=some (.own es n c)∧i=id+N*j∧bx=.ar false c) ->
   Uo bs∧∀(w:World) (A:Nat->Prop) (own β':Bt) (j0:Nat) (us:List Value),(∀j,(∃bx,(id+N*j,bx)∈bs)->β' (id+N*j)=own (j0+j))->D6 w A own j0 ps us->∀z,Abb N id β' w A z ps.length bs:=by
  intro bs ps id Ee;refine⟨fun i cells hm=>?_,fun w A own β' j0 us hβ ho z i bx hm=>?_⟩
  ·obtain⟨_,_,_,_,_,_,h3⟩:=Ee i _ hm;cases h3
  ·obtain⟨j,es,n,cc,h1,h2,h3⟩:=Ee i bx hm;obtain⟨u,hu,hoc⟩:=ho.at_ h1;subst h3;refine⟨⟨j,h2,?_⟩,trivial,S1 hoc ?_,fun _ e=>by cases e⟩
   ·rcases Nat.lt_or_ge j ps.length with h|h
    ·exact h
    ·rw[List.getElem?_eq_none h] at h1;cases h1
   ·rw[h2];exact hβ j ⟨_,h2 ▸ hm⟩
 unfold WO at hk;split at hk
 ·rename_i e he;obtain⟨ps,rfl,hk⟩:=EW hk;obtain⟨cs,bs,hk,hl,Afg,hF,NH,Ee,Gw,We⟩:=Qb shr N hk;obtain⟨PI,I2⟩:=boxes Ee;refine⟨.ptr id 0,_,hk,by simp only[UE,LG,he,hl],by simp,fun h=>?_,fun i hi=>?_,fun i cells hm c hc i' NU=>?_,fun w A own β' z j0 u hβ ho=>?_⟩
  ·have:=(Ui h).1;rw[he] at this;cases this
  ·simp only[B6,Am,List.mem_singleton] at hi;subst hi;exact⟨_,List.mem_cons_self⟩
  ·rcases List.mem_cons.1 hm with e|hm
   ·cases e;obtain⟨bx,hb⟩:=Gw c hc i' NU;exact⟨bx,List.mem_cons_of_mem _ hb⟩
   ·obtain⟨bx,hb⟩:=PI i cells hm c hc i' NU;exact⟨bx,List.mem_cons_of_mem _ hb⟩
  ·obtain⟨b,o,h1,hz,rfl,vs,h3,h4,h5⟩:=ho;have h0:=hβ 0 ⟨_,by rw[Nat.mul_zero,Nat.add_zero];exact List.mem_cons_self⟩
   rw[Nat.mul_zero,Nat.add_zero,Nat.add_zero,h1] at h0;have Bf:∀j,id+N+N*j=id+N*(j+1):=fun j=>by rw[Nat.mul_add];omega
   have hβ1:∀j,(∃bx,(id+N+N*j,bx)∈bs)->β' (id+N+N*j)=own (j0+1+j):=fun j ⟨bx,hm⟩=>by
    rw[Bf,hβ (j+1) ⟨bx,by rw[←Bf];exact List.mem_cons_of_mem _ hm⟩]
    congr 1;omega
   have hc2:=We w A own β' (j0+1) vs hβ1 h3;have Rv:=I2 w A own β' (j0+1) vs hβ1 h3 z;have Dc:cs.length=ps.length:=by rw[hc2.len,←h3.len]
   refine⟨⟨b,o,h0,by simp⟩,fun i bx hm=>?_⟩
   rcases List.mem_cons.1 hm with e|hm
   ·cases e;refine⟨⟨0,by simp,by simp only[UE];omega⟩,trivial,⟨b,o,h0,fun k c hk=>?_,fun k hk=>h5 k (by omega)⟩,fun _ _ b' o' Gi=>?_⟩
    ·obtain⟨v,hv,LK⟩:=hc2.get hk;exact⟨v,h4 k v hv,LK⟩
    ·rw[h0] at Gi;cases Gi;exact hz
   ·obtain⟨⟨j,hj,hjn⟩,h6,h7⟩:=Rv i bx hm;exact⟨⟨j+1,by rw[hj,Bf],by simp only[UE];omega⟩,h6,h7⟩
 ·rename_i hnp;have Sd:LG P t=(Gr P t).length:=by simp only[LG,hnp]
  cases E6:B0 P t
  ·rw[E6] at hk;obtain⟨cs,bs,hk,hl,Afg,hF,NH,Ee,Gw,We⟩:=Qb shr N (show Mz _ _ _ _ _ _=some r from hk)
   obtain⟨c,t',rfl,hk⟩:=A6 hk;obtain⟨rfl,hk⟩:=C6 hk;have hFc:=hF c (by simp)
   have Apm:∀x,p ≠ .pbox x:=fun x=>(Afg p (by simp) x).2
   have Ak7:∀x,c ≠ .agg x:=by rintro x rfl;exact hFc
   have A1t:∀x,c ≠ .tup x:=by rintro x rfl;exact hFc
   have AX:B6 c=Am c:=by cases c<;>first|rfl|exact absurd rfl (Ak7 _)
   have hpa:∀x,p ≠ .agg x:=fun x=>(Afg p (by simp) x).1
   obtain⟨PI,I2⟩:=boxes Ee;have Cm:cellsOf p=[p]:=by cases p<;>first|rfl|exact absurd rfl (hpa _)
   have Ao6:UE p=1:=by cases p<;>first|rfl|exact absurd rfl (hpa _)|exact absurd rfl (Apm _)
   have hcc:cellsOf c=[c]:=by cases c<;>first|rfl|exact absurd rfl (Ak7 _)
   refine⟨c,bs,hk,by rw[Ao6,Sd];exact hl,A1t,fun Ec=>by rw[hcc];exact NH (Ui Ec).2,fun i hi=>Gw c (by simp) i (by rw[←AX];exact hi),PI,fun w A own β' z j0 u hβ ho=>?_⟩
   have MU:Fd w A (own j0) p u:=by cases p<;>first|exact ho|exact absurd rfl (hpa _)|exact absurd rfl (Apm _)
   exact⟨(Tq Ak7).2 (We w A own β' j0 [u] hβ ⟨MU,trivial⟩).1,by rw[Ao6];exact I2 w A own β' j0 [u] hβ ⟨MU,trivial⟩ z⟩
  ·rw[E6] at hk;obtain⟨ps,rfl,hk⟩:=F2 (show Fo _ _=some r from hk)
   obtain⟨cs,bs,hk,hl,Afg,hF,NH,Ee,Gw,We⟩:=Qb shr N hk;obtain⟨PI,I2⟩:=boxes Ee;refine⟨.agg cs,bs,hk,by rw[Sd];exact hl,by simp,fun Ec=>NH (Ui Ec).2,fun i hi=>?_,PI,fun w A own β' z j0 u hβ ho=>?_⟩
   ·obtain⟨c,hc,hi⟩:=List.mem_flatMap.1 (show i∈cs.flatMap Am from hi)
    exact Gw c hc i hi
   ·obtain⟨vs,rfl,ho⟩:=ho;exact⟨⟨vs,rfl,We w A own β' j0 vs hβ ho⟩,I2 w A own β' j0 vs hβ ho z⟩
theorem Vb (shr:Bool)(N:Nat):∀{ts:List TypeId}{ps:List PV}{id:Nat}{K:List PV->List (Nat × Bk)->Option R},Vt P shr N id ts ps K=some r ->
  ∃vs bs,K vs bs=some r∧vs.length=ps.length∧(∀v∈vs,∀x,v ≠ .tup x)∧(Hh P ts=false->bs=[]∧∀v∈vs,∀c∈cellsOf v,∃u,c=.sc u)∧(∀v∈vs,∀i∈B6 v,∃bx,(i,bx)∈bs)∧Uo bs ∧
   ∀(w:World) (A:Nat->Prop) (own β':Bt) (z j0:Nat) (us:List Value),(∀j,(∃bx,(id+N*j,bx)∈bs)->β' (id+N*j)=own (j0+j))->DV w A own z j0 ps us->Bb (Gk w A β') vs us∧Abb N id β' w A z (I6 ps) bs
 |[],ps,id,K,hk=>by
  obtain⟨rfl,hk⟩:=C6 hk;refine⟨[],[],hk,rfl,by simp,by simp,by simp,(by intro i cells hm;cases hm),fun w A own β' z j0 us _ h=>?_⟩
  cases us with
  |nil=>exact⟨trivial,by intro i bx hm;cases hm⟩
  |cons u us=>exact h.elim
 |t::ts,ps,id,K,hk=>by
  unfold Vt at hk;obtain⟨p,ps',Wx,Dn⟩:=A6 hk;subst Wx;clear hk;obtain⟨v,bs,hk,hl,PQ,NH,AX,PI,hv⟩:=Acl shr N Dn;obtain⟨vs,bs',hk,hvl,A2x,Amj,hrs,A1n,Of⟩:=Vb shr N hk;refine⟨v::vs,bs++bs',hk,by simp[hvl],?_,?_,?_,?_,fun w A own β' z j0 us hβ ho=>?_⟩
  ·intro x hx;rcases List.mem_cons.1 hx with rfl|hx
   ·exact PQ
   ·exact A2x x hx
  ·intro Ec;simp only[Hh,List.any_cons,Bool.or_eq_false_iff] at Ec;obtain⟨h1,h2⟩:=NH (by simp only[Hh,List.any_cons,List.any_nil,Bool.or_false,Bool.or_eq_false_iff];exact Ec.1)
   obtain⟨h3,h4⟩:=Amj (by simp only[Hh];exact Ec.2)
   refine⟨by rw[h1,h3];rfl,fun x hx=>?_⟩
   rcases List.mem_cons.1 hx with rfl|hx
   ·exact h2
   ·exact h4 x hx
  ·intro x hx i hi;rcases List.mem_cons.1 hx with rfl|hx
   ·obtain⟨bx,hm⟩:=AX i hi;exact⟨bx,by simp[hm]⟩
   ·obtain⟨bx,hm⟩:=hrs x hx i hi;exact⟨bx,by simp[hm]⟩
  ·intro i cells hm c hc i' NU;rcases List.mem_append.1 hm with hm|hm
   ·obtain⟨bx,hb⟩:=PI i cells hm c hc i' NU;exact⟨bx,by simp[hb]⟩
   ·obtain⟨bx,hb⟩:=A1n i cells hm c hc i' NU;exact⟨bx,by simp[hb]⟩
  ·cases us with
   |nil=>exact ho.elim
   |cons u us=>
    obtain⟨h1,Ee⟩:=hv w A own β' z j0 u (fun j ⟨bx,hm⟩=>hβ j ⟨bx,by simp[hm]⟩) ho.1
    have Bf:∀j,id+N*LG P t+N*j=id+N*(LG P t+j):=fun j=>by rw[Nat.mul_add];omega
    obtain⟨h2,Gw⟩:=Of w A own β' z (j0+UE p) us (fun j ⟨bx,hm⟩=>by rw[Bf,hβ _ ⟨bx,by rw[←Bf];simp[hm]⟩,hl];congr 1;omega) ho.2
    refine⟨⟨h1,h2⟩,fun i bx hm=>?_⟩
    rcases List.mem_append.1 hm with hm|hm
    ·obtain⟨⟨j,hj,hjn⟩,h4,h5⟩:=Ee i bx hm;exact⟨⟨j,hj,by simp only[I6,List.map_cons,List.sum_cons];omega⟩,h4,h5⟩
    ·obtain⟨⟨j,hj,hjn⟩,h4,h5⟩:=Gw i bx hm;refine⟨⟨_,by rw[hj,Bf],?_⟩,h4,h5⟩
     simp only[I6,List.map_cons,List.sum_cons] at hjn ⊢;omega
def Wr (N d:Nat)(bs:List (Nat × Bk)) (own β:Bt):Bt:=fun i=>if (bs.any fun q=>Nat.beq q.1 i)=true then own ((i-d) / N) else β i
theorem HJ {bs:List (Nat × Bk)} {i:Nat}:(bs.any fun q=>Nat.beq q.1 i)=true↔∃bx,(i,bx)∈bs:=by
 rw[List.any_eq_true];constructor
 ·rintro⟨⟨j,bx⟩,hm,e⟩
  have:=Nat.eq_of_beq_eq_true e;subst this;exact⟨bx,hm⟩
 ·rintro⟨bx,hm⟩
  exact⟨_,hm,Nat.beq_refl i⟩
theorem RP {N d j:Nat}(hN:0<N){bs:List (Nat × Bk)} {own β:Bt}(h:∃bx,(d+N*j,bx)∈bs):Wr N d bs own β (d+N*j)=own j:=by
 unfold Wr;rw[if_pos (HJ.2 h),Nat.add_sub_cancel_left,Nat.mul_div_cancel_left _ hN]
theorem KC {c:Call}{f:FuncId}(ho:o.op=.call c)(hc:c.callee=.value (.func f)) (Ie:NoNG P){fn:Func}(hf:P.funcs[f]?=some fn) (hb:fn.body.isSome=true):
  (execOp a.eval o).run P w=.ok (.enter f (c.args.map a.eval)) w:=by
 unfold execOp;rw[ho]
 have hn:¬fn.body=none:=by
  intro h;rw[h] at hb;cases hb
 have Ec:¬fn.name = "runtime.NumGoroutine" :=by simpa using Ie f fn hf
 simp[resolve,hc,Act.eval,Deferred.ofValue,invoke,callFunc,hf,Ec,hn]
theorem UX {c:Call}{t:Nat}{f:FuncId}(ho:o.op=.call c)(hc:c.callee=.value (.tmp t)) (ht:a.eval (.tmp t)=.func (.func f) #[] #[]) (Ie:NoNG P){fn:Func}(hf:P.funcs[f]?=some fn) (hb:fn.body.isSome=true):
  (execOp a.eval o).run P w=.ok (.enter f (c.args.map a.eval)) w:=by
 unfold execOp;rw[ho]
 have hn:¬fn.body=none:=by
  intro h;rw[h] at hb;cases hb
 have Ec:¬fn.name = "runtime.NumGoroutine" :=by simpa using Ie f fn hf
 simp[resolve,hc,ht,Deferred.ofValue,invoke,callFunc,hf,Ec,hn]
theorem V1 {A':Nat->Prop}(k:Bool):∀{xs:List Operand}{ps:List PV},Bb (Nk w A') ps (xs.map a.eval)->Bb (Nk w A') (Hm k xs ps) (xs.map a.eval)
 |[],[],h=>h
 |[],_::_,h=>h
 |_::_,[],h=>h
 |x::xs,p::ps,h=>by
  simp only[List.map_cons] at h ⊢;refine⟨?_,V1 k h.2⟩;split
  ·exact⟨trivial,Ar.lnil _ _⟩
  ·exact h.1
theorem Zs (h : Cj N w0 X0 Y β s a w) {G : Rx} (Ie : MZ P G w0 X0) {C : Fu} {call : Ax} (Df : ∀ f args res, call f args = some res -> Cw G P f args res) {c : Call} {f : FuncId} (Ch : ∀ {fn : Func}, P.funcs[f]? = some fn -> fn.body.isSome = true -> (execOp a.eval o).run P w = .ok (.enter f (c.args.map a.eval)) w)
    {K : PV -> List Nat -> List (Nat × Bk) -> Option R}
    (hk : (X9 P (Hl s.hp) (AG P f c) (c.args.toList.map (Bv s.tm)) fun vs m =>
          Ah (call f (Hm (C.kz f) c.args.toList vs)) fun rv ro => Ad ro (Bi (Nat.blt 0 N) <| Vt P (C.shr f) N (o.dst.getD 0) (Kx P o.type) rv fun ws bs =>
            Bi (bif Lm P o.type then !Nat.beq ws.length 1 else Nat.beq ws.length 1) <| K (Kl ws (Lm P o.type)) (bif Hh P (Kx P o.type) then m else []) bs)) = some r) : ∃ v fz nw, K v fz nw = some r ∧ Y5 P a w o Y β s v fz nw := by
  obtain⟨ps, m, hk, hm, Eh⟩ := EE h hk
  replace Eh := fun fz h1 h2 => V1 (a := a) (C.kz f) (Eh fz h1 h2)
  generalize Hm (C.kz f) c.args.toList ps = ps at hk Eh
  obtain⟨rv, ro, J6, hk⟩ := DM hk
  obtain⟨rfl, hk⟩ := C6 hk
  obtain⟨hN, hk⟩ := Aj hk
  have hN : 0 < N := Nat.lt_of_succ_le (Nat.le_of_ble_eq_true hN)
  obtain⟨ws, bs, hk, hwl, PQ, NH, hrs, PI, hws⟩ := Vb (C.shr f) N hk
  obtain⟨L7, hk⟩ := Aj hk
  obtain⟨⟨fn, hfn, hfb⟩, Xt⟩ := Df f ps _ J6
  obtain⟨fz, Ur, hfm⟩ : ∃ fz : List Nat, fz = (bif Hh P (Kx P o.type) then m else []) ∧ ∀ id ∈ fz, ∃ f c, s.hp id = some (.ar f c) := by
    refine⟨_, rfl, fun id Bf => ?_⟩
    cases hh : Hh P (Kx P o.type) <;> rw[hh] at Bf
    · cases Bf
    · exact hm id Bf
  rw[← Ur] at hk
  refine⟨_, _, _, hk, hfm, fun next Q hn => ?_⟩
  have hf := h.freeze hfm
  have hYc : ∃ Yc : Nat -> Prop, (∀ b, Yc b -> b < w.heap.size) ∧ Bb (Nk w Yc) ps (c.args.toList.map a.eval) ∧ ((∀ b, Ct (Af s.hp fz) β Y b -> Yc b) ∨ Hh P (Kx P o.type) = false) := by
    have K6 := Eh m (fun _ hi => hi) hm
    cases hh : Hh P (Kx P o.type)
    · exact⟨fun _ => False, fun _ x => x.elim, K6.mono fun _ _ hx => hx.weaken (fun _ _ x => x.elim), .inr rfl⟩
    · rw[hh] at Ur
      have Ur : fz = m := Ur
      subst Ur
      refine⟨Ct (Af s.hp fz) β Y, fun b hb => ?_, K6, .inl fun _ x => x⟩
      rcases hb with⟨id, ob, hl, hβ⟩ | hY
      · exact hf.blt id b ob (Cl hl) hβ
      · exact Nat.lt_of_lt_of_le (h.Ylt b hY) h.fr.step.size
  obtain⟨Yc, Av1, hYargs, hYA⟩ := hYc
  unfold Oper.wp
  rw[Ch hfn hfb]
  show Calls P f _ w _
  have hca : c.args.map a.eval = (c.args.toList.map a.eval).toArray := by rw[← List.map_toArray, Array.toArray_toList]
  rw[hca]
  refine (Xt w Yc NB _ (NA Av1 hYargs) (Ie.fr w h.fr) (fun b x => ⟨Nat.lt_of_lt_of_le (Ie.y b x).1 h.fr.step.size, Ma b⟩)).mono ?_
  rintro e w' ⟨vs, own, rfl, Rf⟩
  refine hn (Gn vs) w' fun Lw => ⟨Wr N (o.dst.getD 0) bs own β, ?_⟩
  obtain⟨ha1, H6⟩ := Bg Lw
  have ZF : ∀ i bx, (i, bx) ∈ bs -> Af s.hp fz i = none := fun i bx hm => Dl.2 (ha1 i bx hm)
  obtain⟨YE, hg2⟩ := Du (hp := Af s.hp fz) H6
  have hold : ∀ i, Af s.hp fz i ≠ none -> Wr N (o.dst.getD 0) bs own β i = β i := by
    intro i hi
    unfold Wr
    rw[if_neg]
    intro hx
    obtain⟨bx, hm⟩ := HJ.1 hx
    exact hi (ZF i bx hm)
  obtain⟨Of, hba⟩ := hws w' _ own (Wr N (o.dst.getD 0) bs own β) w.heap.size 0 vs (fun j hj => by rw[RP hN hj, Nat.zero_add]) Rf.vals
  have Sa : ∀ i bx, (i, bx) ∈ bs -> ∃ j, i = o.dst.getD 0 + N * j ∧ Wr N (o.dst.getD 0) bs own β i = own j := by
    intro i bx hm
    obtain⟨⟨j, rfl, _⟩, _, _⟩ := hba i bx hm
    exact⟨j, rfl, RP hN ⟨bx, hm⟩⟩
  have hAA : Hh P (Kx P o.type) = false ∨ ∀ b, Ct (An (Af s.hp fz) bs) (Wr N (o.dst.getD 0) bs own β) Y b -> Zr NB own Yc b := by
    rcases hYA with hYA | hYA
    · refine .inr fun b hb => ?_
      rcases hb with⟨i, ob, hl, hβ⟩ | hY
      · by_cases hi : ∃ bx, (i, bx) ∈ bs
        · obtain⟨bx, hm⟩ := hi
          obtain⟨j, _, h3⟩ := Sa i bx hm
          rw[h3] at hβ
          exact .inl ⟨j, ob, hβ⟩
        · rw[hg2 i (fun bx hm => hi ⟨bx, hm⟩)] at hl
          rw[hold i (Cl hl)] at hβ
          exact .inr (.inr (hYA b (.inl ⟨i, ob, hl, hβ⟩)))
      · exact .inr (.inr (hYA b (.inr hY)))
    · exact .inl hYA
  have hval : Dx w' (Ct (An (Af s.hp fz) bs) (Wr N (o.dst.getD 0) bs own β) Y) (Wr N (o.dst.getD 0) bs own β) (Kl ws (Lm P o.type)) (Gn vs) := by
    have K6 : Bb (Gk w' (Ct (An (Af s.hp fz) bs) (Wr N (o.dst.getD 0) bs own β) Y) (Wr N (o.dst.getD 0) bs own β)) ws vs := by
      rcases hAA with GT | hAA
      · obtain⟨_, OB⟩ := NH GT
        refine Of.mono_mem fun v hv u hvu => ?_
        have OB := OB v hv
        cases v with
        | agg cs =>
          obtain⟨xs, rfl, BB⟩ := hvu
          refine⟨xs, rfl, BB.mono_mem fun cc hcc x hx => ?_⟩
          obtain⟨y, rfl⟩ := OB cc hcc
          have := Ar.val (w := w') hx
          subst this
          exact Ar.sc _
        | sc y =>
          have := Ar.val (w := w') hvu
          subst this
          exact Ar.sc _
        | lst z es n cc => obtain⟨y, hy⟩ := OB _ (List.mem_singleton_self _); cases hy
        | own es n cc => obtain⟨y, hy⟩ := OB _ (List.mem_singleton_self _); cases hy
        | view i es n cc => obtain⟨y, hy⟩ := OB _ (List.mem_singleton_self _); cases hy
        | ptr i cc => obtain⟨y, hy⟩ := OB _ (List.mem_singleton_self _); cases hy
        | iptr i cc => obtain⟨y, hy⟩ := OB _ (List.mem_singleton_self _); cases hy
        | pbox cc => obtain⟨y, hy⟩ := OB _ (List.mem_singleton_self _); cases hy
        | tup cc => obtain⟨y, hy⟩ := OB _ (List.mem_singleton_self _); cases hy
        | top => obtain⟨y, hy⟩ := OB _ (List.mem_singleton_self _); cases hy
        | ub => obtain⟨y, hy⟩ := OB _ (List.mem_singleton_self _); cases hy
      · exact Of.mono fun v u hvu => hvu.step (B2.refl _ _) (fun b _ => hAA b) (fun _ _ => rfl)
    have Dc := K6.len
    cases hT : Lm P o.type
    · rw[hT] at L7
      have h1 : ws.length = 1 := Nat.eq_of_beq_eq_true L7
      match ws, vs, h1, Dc with
      | [v], [u], _, _ =>
        exact (Lg (PQ v (by simp))).2 K6.1
    · rw[hT] at L7
      have h1 : ¬ ws.length = 1 := by
        intro e
        rw[e] at L7
        cases L7
      have hr : Gn vs = .tuple ⟨vs⟩ := by
        unfold Gn
        split
        · simp at Dc; omega
        · rfl
      rw[hr]
      exact⟨vs, rfl, K6⟩
  refine⟨Rf.os, Rf.tape, Rf.output, Rf.ext.weaken (fun b _ hb => Ma b hb), hold, ?_, ?_, ?_, ?_, ?_, hval, ?_⟩
  · intro i bx hm
    exact (hba i bx hm).2.1
  · intro i bx hm
    rcases hAA with GT | hAA
    · rw[(NH GT).1] at hm; cases hm
    · exact (hba i bx hm).2.2.1.step' hAA
  · intro i bx b ob hm hβ
    obtain⟨j, _, h3⟩ := Sa i bx hm
    rw[h3] at hβ
    obtain⟨h4, h5⟩ := Rf.fresh j b ob hβ
    refine⟨?_, h4⟩
    rcases Nat.lt_or_ge b w.heap.size with h | h
    · obtain⟨⟨_, _, _, h6⟩, _⟩ := h5 h
      cases h6
    · exact h
  · intro i bx i' bx' b ob ob' hm Hw hβ hβ'
    obtain⟨j, h1, h3⟩ := Sa i bx hm
    obtain⟨j', GU, h3'⟩ := Sa i' bx' Hw
    rw[h3] at hβ
    rw[h3'] at hβ'
    rw[h1, GU, Rf.inj j j' b ob ob' hβ hβ']
  · intro i cells hm c hc i' NU
    exact .inr (PI i cells hm c hc i' NU)
  · intro i hi
    right
    cases hT : Lm P o.type
    · rw[hT] at L7 hi
      have h1 : ws.length = 1 := Nat.eq_of_beq_eq_true L7
      match ws, h1 with
      | [v], _ =>
        refine hrs v (by simp) i ?_
        have : Bo v = B6 v := by
          have hn := PQ v (by simp)
          cases v <;> first | rfl | exact absurd rfl (hn _)
        rw[← this]
        exact hi
    · rw[hT] at hi
      obtain⟨v, hv, hi⟩ := List.mem_flatMap.1 (show i ∈ ws.flatMap B6 from hi)
      exact hrs v hv i hi
end
open Go.RowKit
section
variable {R:Type} {r:R} {P:Program} {N:Nat} {w0:World} {X0:Gq} {Y:Nat->Prop} {β β':Bt} {s:St} {a:Act} {w w':World} {o:Oper} {A:Nat->Prop}
theorem Cj.move (h:Cj N w0 X0 Y β s a w){id d:Nat}{c cells:List PV}{bo:Option (Nat × Nat)} {v:PV}{val:Value}(h0:s.hp id=some (.ar false c)) (hd:s.hp d=none)(XU:d<N)
  (hos:w'.os=w.os)(htp:w'.tape=w.tape)(Rf:w'.output=w.output)(KQ:w.heap.size<=w'.heap.size)
  (Ix:∀k,k<w.heap.size->(∀x,β id≠some (k,x))->w'.heap[k]?=w.heap[k]?) (CS:∀k,k<w.heap.size->F1 w w' k)
  (GK:∀k x,bo=some (k,x)->k<w'.heap.size∧(w.heap.size<=k∨∃y,β id=some (k,y)))
  (JP:∀k x,bo=some (k,x)->k<w.heap.size->β id=some (k,x))
  (hO:∀k y,β id=some (k,y)->k<w.heap.size->∀j,j<y->w'.cell? ⟨k,j,none⟩=w.cell? ⟨k,j,none⟩∧w'.frozen? ⟨k,j,none⟩=w.frozen? ⟨k,j,none⟩)
  (I2:Nf w' (Ct (Cg (Cg s.hp id (some .mv)) d (some (.ar false cells))) (Cg β d bo) Y) (Cg β d bo) d (.ar false cells))
  (hv:Dx w' (Ct (Cg (Cg s.hp id (some .mv)) d (some (.ar false cells))) (Cg β d bo) Y) (Cg β d bo) v val) (hr:∀i∈Bo v,i=d):
  Cj N w0 X0 Y (Cg β d bo) ⟨Cg s.tm d v,Cg (Cg s.hp id (some .mv)) d (some (.ar false cells))⟩ (a.put (some d) val) w':=by
 have Ec:id≠d:=by rintro rfl;rw[h0] at hd;cases hd
 have NN:∀i,i≠id->i≠d->Cg (Cg s.hp id (some Bk.mv)) d (some (.ar false cells)) i=s.hp i:=fun i h1 h2=>by rw[Ai _ _ h2,Ai _ _ h1]
 have Aeb:Cg (Cg s.hp id (some Bk.mv)) d (some (.ar false cells)) id=some .mv:=by rw[Ai _ _ Ec,Al]
 have hgd:Cg (Cg s.hp id (some Bk.mv)) d (some (.ar false cells)) d=some (.ar false cells):=Al _ _ _
 have Rb:∀i,s.hp i≠none->Cg (Cg s.hp id (some Bk.mv)) d (some (.ar false cells)) i≠none:=by
  intro i hi;by_cases e:i=id
  ·subst e;rw[Aeb];simp
  ·by_cases e':i=d
   ·subst e';rw[hgd];simp
   ·rw[NN i e e'];exact hi
 have hβo:∀i,s.hp i≠none->Cg β d bo i=β i:=fun i hi=>Ai _ _ (by rintro rfl;exact hi hd)
 have KA:Cu (s.hp id):=by rw[h0];trivial
 have Fj:∀i,Cu (Cg (Cg s.hp id (some Bk.mv)) d (some (.ar false cells)) i)->i=d∨(i≠id∧i≠d∧Cu (s.hp i)):=by
  intro i hi;by_cases e':i=d
  ·exact .inl e'
  ·by_cases e:i=id
   ·subst e;rw[Aeb] at hi;exact hi.elim
   ·rw[NN i e e'] at hi;exact .inr ⟨e,e',hi⟩
 have hX:∀k,k<w.heap.size->HW (Cg (Cg s.hp id (some .mv)) d (some (.ar false cells))) (Cg β d bo) k->HW s.hp β k:=by
  rintro k hk ⟨i,x,hl,hβ⟩
  rcases Fj i hl with rfl|⟨e,e',hl⟩
  ·rw[Al] at hβ;rcases (GK k x hβ).2 with I3|⟨y,hy⟩
   ·omega
   ·exact⟨id,y,KA,hy⟩
  ·rw[Ai _ _ e'] at hβ;exact⟨i,x,hl,hβ⟩
 have hAo:∀k,k<w.heap.size->Ct (Cg (Cg s.hp id (some .mv)) d (some (.ar false cells))) (Cg β d bo) Y k->Ct s.hp β Y k:=fun k hk hx=>hx.imp (hX k hk) (fun y=>y)
 have E8:B2 (Ct s.hp β Y) w w':=⟨KQ,fun k hk hn=>Ix k hk fun x hx=>hn (.inl ⟨id,x,KA,hx⟩),CS⟩
 have Acu:∀i k x,i≠id->i≠d->(∃b,s.hp i=some b∧b ≠ .mv)->β i=some (k,x)->k<w.heap.size∧w'.heap[k]?=w.heap[k]?:=by
  rintro i k x e e' ⟨b,hb,hmv⟩ hβ
  have hk:=h.blt i k x (by rw[hb];simp) hβ
  refine⟨hk,Ix k hk fun y hy=>?_⟩
  have VA:=h.box i b hb;cases b with
  |st cc=>exact e (h.inj i id k x y (by rw[hb];trivial) KA hβ hy)
  |ar fz cc=>
   cases fz with
   |false=>exact e (h.inj i id k x y (by rw[hb];trivial) KA hβ hy)
   |true=>
    rcases VA with⟨h1,_⟩|⟨k',x',h1,_,_,h4⟩
    ·rw[hβ] at h1;cases h1
    ·rw[hβ] at h1;simp at h1;obtain⟨rfl,rfl⟩:=h1
     exact h4 rfl (.inl ⟨id,y,KA,hy⟩)
  |mv=>exact absurd rfl hmv
 refine⟨by rw[Nj];exact h.dfr,by rw[Td];exact h.tsz,?_,?_,?_,?_,?_,?_,?_,?_,?_,?_,?_,?_,h.Ylt,?_⟩
 ·intro i hi;show Cg s.tm d v i=_;rw[Ai _ _ (by omega)]
  exact h.tmo i hi
 ·refine Li (d:=some d) (Q:=fun _ p u=>Dx w' (Ct (Cg (Cg s.hp id (some .mv)) d (some (.ar false cells))) (Cg β d bo) Y) (Cg β d bo) p u) h.tsz (by simp[Fe,Nat.blt];omega) (fun i hi=>?_) (fun _=>hv)
  exact (h.tms i hi).step E8 hAo fun j hj=>hβo j (h.wfT i hi j hj)
 ·intro i bi hb;simp only at hb;by_cases e':i=d
  ·subst e';rw[hgd] at hb;cases hb;exact I2
  ·by_cases e:i=id
   ·subst e;rw[Aeb] at hb;cases hb;trivial
   ·rw[NN i e e'] at hb;have hβi:=hβo i (by rw[hb];simp)
    have Ww:=h.box i bi hb;cases bi with
    |st cc=>
     obtain⟨k,x,h1,h2,h3⟩:=Ww;obtain⟨hk,Ng⟩:=Acu i k x e e' ⟨_,hb,by simp⟩ h1
     refine⟨k,x,by rw[hβi];exact h1,fun j p hj=>?_,fun j hj=>?_⟩
     ·obtain⟨u,hu,hc⟩:=h2 j p hj;exact⟨u,by rw[World.cell?_of_block (w:=w) Ng];exact hu,hc.step E8 hAo fun q hq=>hβo q (h.wfB i cc hb p (List.mem_of_getElem? hj) q hq)⟩
     ·rw[World.frozen?_of_block (w:=w) Ng];exact h3 j hj
    |ar fz cc=>
     rcases Ww with⟨h1,h2⟩|⟨k,x,h1,h2,h3,h4⟩
     ·exact .inl ⟨by rw[hβi];exact h1,h2⟩
     ·obtain⟨hk,Ng⟩:=Acu i k x e e' ⟨_,hb,by simp⟩ h1
      refine .inr ⟨k,x,by rw[hβi];exact h1,fun j p hj=>?_,fun ef j hj Om=>?_,fun ef hx=>h4 ef (hAo k hk hx)⟩
      ·obtain⟨u,hu,h5,hc⟩:=h2 j p hj;exact⟨u,by rw[World.cell?_of_block (w:=w) (by rw[Eb];exact Ng)];exact hu,h5,hc.step E8 hAo⟩
      ·rw[World.frozen?_of_block (w:=w) Ng];refine h3 ef j hj ?_;unfold bsz at Om ⊢;rw[Ng] at Om;exact Om
    |mv=>trivial
 ·intro i i' k x y hl Ib hb Gi;simp only at hl Ib
  have key:∀j z,j≠id->j≠d->Cu (s.hp j)->β j=some (k,z)->bo=some (k,y)∨bo=some (k,x)->False:=by
   intro j z e e' hlj hβj hbk;have hk:=h.blt j k z (Cl hlj) hβj;have:∃t,bo=some (k,t):=by rcases hbk with q|q<;>exact⟨_,q⟩
   obtain⟨t,ht⟩:=this;rcases (GK k t ht).2 with I3|⟨q,hq⟩
   ·omega
   ·exact e (h.inj j id k z q hlj KA hβj hq)
  rcases Fj i hl with rfl|⟨e,e',hl0⟩
  ·rcases Fj i' Ib with rfl|⟨e2,e2',Akx⟩
   ·rfl
   ·rw[Al] at hb;rw[Ai _ _ e2'] at Gi;exact (key i' y e2 e2' Akx Gi (.inr hb)).elim
  ·rcases Fj i' Ib with rfl|⟨e2,e2',Akx⟩
   ·rw[Al] at Gi;rw[Ai _ _ e'] at hb;exact (key i x e e' hl0 hb (.inl Gi)).elim
   ·rw[Ai _ _ e'] at hb;rw[Ai _ _ e2'] at Gi;exact h.inj i i' k x y hl0 Akx hb Gi
 ·intro i k x hi hb;simp only at hi;by_cases e':i=d
  ·subst e';rw[Al] at hb;exact (GK k x hb).1
  ·rw[Ai _ _ e'] at hb
   have NU:s.hp i≠none:=by
    by_cases e:i=id
    ·subst e;rw[h0];simp
    ·rw[NN i e e'] at hi;exact hi
   exact Nat.lt_of_lt_of_le (h.blt i k x NU hb) KQ
 ·have:=Li (d:=some d) (Q:=fun _ p _=>∀j∈Bo p,Cg (Cg s.hp id (some Bk.mv)) d (some (.ar false cells)) j≠none) (val:=val) (v:=v) h.tsz (by simp[Fe,Nat.blt];omega) (fun i hi j hj=>Rb j (h.wfT i hi j hj)) (fun _ j hj=>by
   rw[hr j hj,hgd];simp)
  exact this
 ·intro i cc hc p hp j hj;simp only at hc;by_cases e':i=d
  ·subst e';rw[hgd] at hc;cases hc
  ·by_cases e:i=id
   ·subst e;rw[Aeb] at hc;cases hc
   ·rw[NN i e e'] at hc;exact Rb j (h.wfB i cc hc p hp j hj)
 ·rintro k ⟨i,x,hl,hβ⟩
  rcases Fj i hl with rfl|⟨e,e',hl⟩
  ·rw[Al] at hβ;rcases (GK k x hβ).2 with I3|⟨y,hy⟩
   ·exact .inr (Nat.le_trans h.fr.step.size I3)
   ·exact h.ownd k ⟨id,y,KA,hy⟩
  ·rw[Ai _ _ e'] at hβ;exact h.ownd k ⟨i,x,hl,hβ⟩
 ·intro i bi k x Ww hli hβ B4 j hj;simp only at Ww;rcases Fj i (by rw[Ww];exact hli) with rfl|⟨e,e',hl⟩
  ·rw[Al] at hβ;rw[hgd] at Ww;cases Ww;have:=JP k x hβ (Nat.lt_of_lt_of_le B4 h.fr.step.size);exact h.rngB id (.ar false c) k x h0 trivial this B4 j hj
  ·rw[NN i e e'] at Ww;rw[Ai _ _ e'] at hβ;exact h.rngB i bi k x Ww hli hβ B4 j hj
 ·intro i hi;exact⟨Rb _ (h.pin i hi).1,by rw[hβo _ (h.pin i hi).1];exact (h.pin i hi).2⟩
 ·intro i cc k x Ww hβ B4;simp only at Ww;rcases Fj i (by rw[Ww];trivial) with rfl|⟨e,e',hl⟩
  ·rw[hgd] at Ww;cases Ww
  ·rw[NN i e e'] at Ww;rw[Ai _ _ e'] at hβ;exact h.stp i cc k x Ww hβ B4
 ·intro k hY hx;exact h.Yx k hY (hX k (Nat.lt_of_lt_of_le (h.Ylt k hY) h.fr.step.size) hx)
 ·refine⟨hos.trans h.fr.os,htp.trans h.fr.tape,Rf.trans h.fr.output,⟨Nat.le_trans h.fr.step.size KQ,fun k hk hnk=>?_,fun k hk=>(h.fr.step.bs k hk).trans (CS k (Nat.lt_of_lt_of_le hk h.fr.step.size))⟩,fun k j hk hL=>?_⟩
  ·rw[Ix k (Nat.lt_of_lt_of_le hk h.fr.step.size) ?_]
   ·exact h.fr.step.keep k hk hnk
   ·intro x hx;rcases h.ownd k ⟨id,x,KA,hx⟩ with hq|hq
    ·exact hnk hq
    ·omega
  ·have hkw:=Nat.lt_of_lt_of_le hk h.fr.step.size
   have V0:w'.cell? ⟨k,j,none⟩=w.cell? ⟨k,j,none⟩∧w'.frozen? ⟨k,j,none⟩=w.frozen? ⟨k,j,none⟩:=by
    by_cases e:∃y,β id=some (k,y)
    ·obtain⟨y,hy⟩:=e;refine hO k y hy hkw j ?_;rcases Nat.lt_or_ge j y with q|q
     ·exact q
     ·exact absurd (h.rngB id (.ar false c) k y h0 trivial hy hk j q) hL
    ·have Ng:=Ix k hkw (fun x hx=>e ⟨x,hx⟩)
     exact⟨World.cell?_of_block (w:=w) Ng,World.frozen?_of_block (w:=w) Ng⟩
   rw[V0.1,V0.2];exact h.fr.rng k j hk hL
end
open Go.RowKit
section
variable {R:Type} {r:R} {P:Program} {N:Nat} {w0:World} {X0:Gq} {Y:Nat->Prop} {β β':Bt} {s:St} {a:Act} {w w':World} {o:Oper} {A:Nat->Prop}
structure Src (P:Program) (w:World) (A:Nat->Prop) (size:Nat) (xv:Value) (m:Nat) (new:List PV) (news:List Value):Prop where
 len:∀w':World,(Builtin.lenOf xv).run P w'=.ok m w'
 cells:∀w':World,(∀b,b<w.heap.size->w'.heap[b]?=w.heap[b]?)->(Builtin.firstCells size m xv).run P w'=.ok news.toArray w'
 part:∀k,k<=m->(Builtin.firstCells size k xv).run P w=.ok (news.take (k*size)).toArray w
 one:∀u∈news,u.oneCell'=true
 rep:Bb (Ar w A) new news
theorem AN (h:Cj N w0 X0 Y β s a w){e tx:TypeId}{x:Operand}{K:Nat->List PV->Option R}(hk:QD P s (A7 P e) tx (Bv s.tm x) K=some r)
  (h1c:∀m new,K m new=some r->new.length=m*A7 P e):
  (∃d,P.underlying tx=some d∧(∀k,d ≠ .int k))∧∃m new news,K m new=some r∧Src P w (Ct s.hp β Y) (A7 P e) (a.eval x) m new news:=by
 unfold QD RJ at hk;split at hk
 ·rename_i hu;obtain⟨Qp,hk⟩:=Aj hk;have Qp:=Nat.eq_of_beq_eq_true Qp;obtain⟨b,hx,hk⟩:=C7 hk;have Cv:=B1 h hx;refine⟨⟨_,hu,by simp⟩,b.size,Es b,b.data.toList.map (fun y=>Value.int .u8 y.toNat),hk,?_,?_,?_,?_,?_⟩
  ·intro w';rw[Cv];rfl
  ·intro w' _;rw[Cv]
   have hx:b.data.extract 0 b.size=b.data:=by
    have:b.size=b.data.size:=rfl;rw[this,Array.extract_size]
   have hd:(b.extract 0 b.size).data=b.data:=by
    rw[ByteArray.extract_zero_size]
   simp only[Builtin.firstCells,hd];rw[←Array.toList_map,Array.toArray_toList];rfl
  ·intro k I3;rw[Cv,Qp,Nat.mul_one];have hd:(b.extract 0 k).data=b.data.extract 0 k:=ByteArray.data_extract
   have e1:(b.data.extract 0 k).map (fun y=>Value.int .u8 y.toNat)=((b.data.toList.map fun y=>Value.int .u8 y.toNat).take k).toArray:=by
    apply Array.toList_inj.1;simp[List.map_take]
   simp only[Builtin.firstCells,hd];rw[e1];rfl
  ·intro u hu;simp at hu;obtain⟨y,_,rfl⟩:=hu;rfl
  ·unfold Es;generalize b.data.toList=l
   induction l with
   |nil=>trivial
   |cons y l ih=>exact⟨Ar.sc _,ih⟩
 ·rename_i e' hu;refine⟨⟨_,hu,by simp⟩,?_⟩
  obtain⟨m,new,hk,hc⟩:=X6 h hk;have Dc:=h1c m new hk;rcases hc with⟨⟨ad,Cv⟩,rfl,rfl⟩|⟨ad,cap,Cv,hn,B4,XY⟩
  ·have f0:∀w':World,(Builtin.firstCells (A7 P e) 0 (.slice ad 0 0)).run P w'=.ok #[] w':=fun w'=>by
    cases ad with
    |none=>rfl
    |some p=>exact run_firstCells_some (P:=P) w' (A7 P e) 0 p 0 0 [] (by simp) (fun j v hj=>by simp at hj)
   exact⟨0,[],[],hk,fun w'=>by rw[Cv];rfl,fun w' _=>by rw[Cv];exact f0 w',fun k I3=>by rw[Cv,Nat.le_zero.1 I3,List.take_nil];exact f0 w,by simp,trivial⟩
  ·refine⟨m,new,new.mapIdx (fun j _=>(w.cell? (ad.add j)).getD undef),hk,fun w'=>by rw[Cv];rfl,fun w' hw=>?_,fun k I3=>?_,?_,?_⟩
   ·rw[Cv];refine run_firstCells_some (P:=P) w' (A7 P e) m ad m cap _ (by simp[Dc]) fun j v hj=>?_
    rw[List.getElem?_mapIdx] at hj;cases hc:new[j]? with
    |none=>rw[hc] at hj;cases hj
    |some c=>
     rw[hc] at hj;simp at hj;obtain⟨u,hu,_⟩:=XY j c hc;rw[hu] at hj;simp at hj;subst hj;have B4:ad.block<w.heap.size:=by rcases B4 with rfl|B4<;>first|exact B4|simp at hc
     rw[World.cell?_of_block (w:=w) (by rw[Eb];exact hw _ B4)]
     exact hu
   ·rw[Cv];have hkm:k*A7 P e<=m*A7 P e:=Nat.mul_le_mul_right _ I3;refine run_firstCells_some (P:=P) w (A7 P e) k ad m cap _ (by rw[List.length_take,List.length_mapIdx,Dc];omega) fun j v hj=>?_
    rw[List.getElem?_take] at hj;split at hj
    ·rw[List.getElem?_mapIdx] at hj;cases hc:new[j]? with
     |none=>rw[hc] at hj;cases hj
     |some c=>
      rw[hc] at hj;simp at hj;obtain⟨u,hu,_⟩:=XY j c hc;rw[hu] at hj;simp at hj;subst hj;exact hu
    ·cases hj
   ·intro u hu;obtain⟨j,hj⟩:=List.mem_iff_getElem?.1 hu;rw[List.getElem?_mapIdx] at hj;cases hc:new[j]? with
    |none=>rw[hc] at hj;cases hj
    |some c=>
     rw[hc] at hj;simp at hj;obtain⟨v,hv,h2,ht⟩:=XY j c hc;rw[hv] at hj;simp at hj;subst hj;exact h2
   ·refine Bb.of_at (by simp) fun j c v hc hj=>?_
    rw[List.getElem?_mapIdx,hc] at hj;simp at hj;obtain⟨u,hu,_,ht⟩:=XY j c hc;rw[hu] at hj;simp at hj;subst hj;exact ht
 ·cases hk
theorem Zq {e:TypeId}(h:JA P e=true):∃i z,P.info? e=some i∧i.zero=some z∧z.cells.size=i.size∧A7 P e=i.size:=by
 unfold JA at h;split at h
 ·rename_i i hi;split at h
  ·rename_i z hz;exact⟨i,z,hi,hz,Nat.eq_of_beq_eq_true h,by simp[A7,hi]⟩
  ·cases h
 ·cases h
theorem Wl {es n cap:Nat}{ad:Option Addr}{olds:List Value}(h:(ad=none∧olds=[])∨∃p,ad=some p∧olds.length=n*es∧∀(j:Nat) v,olds[j]?=some v->w.cell? (p.add j)=some v):
  (Builtin.firstCells es n (.slice ad n cap)).run P w=.ok olds.toArray w:=by
 rcases h with⟨rfl,rfl⟩|⟨p,rfl,hl,hc⟩
 ·rfl
 ·exact run_firstCells_some (P:=P) w es n p n cap olds hl hc
theorem I4 {t tx ty e:TypeId}{i:TypeInfo}{z:Value}{d:TypeDesc}{ts:List TypeId}(ht:P.underlying t=some (.slice e)) (WU:P.underlying tx=some d)(hd:∀k,d ≠ .int k)(hi:P.info? e=some i)(hz:i.zero=some z)
  {ad:Option Addr} {n cap m:Nat} {xv:Value} {olds news:List Value} {A:Nat->Prop} {new:List PV} (hs:Src P w A i.size xv m new news)
  (hold:(ad=none∧olds=[])∨∃p,ad=some p∧olds.length=n*i.size∧∀(j:Nat) v,olds[j]?=some v->w.cell? (p.add j)=some v)
  (hg:cap<n+m)(hb:(n+m)*i.bytes<=1099511627776) (h63:n+m<=1099511627776):
  (Builtin.append_ (t::tx::ts).toArray ty #[.slice ad n cap,xv]).run P w =
   .ok (.slice (some ⟨w.heap.size,0,none⟩) (n+m) (grownCap w (n+m) cap e)) (w.drew.alloc (.cells (olds.toArray++news.toArray++Builtin.zeroCells z.cells (grownCap w (n+m) cap e-(n+m))) e)):=by
 have h1:=hs.len w;have h2:(Builtin.firstCells i.size m xv).run P w.drew=.ok news.toArray w.drew:=hs.cells w.drew (fun _ _=>rfl)
 have h3:(Builtin.firstCells i.size n (.slice ad n cap)).run P w.drew=.ok olds.toArray w.drew:=Wl (w:=w.drew) (by
  rcases hold with hh|⟨p,hp,hl,hc⟩
  ·exact .inl hh
  ·exact .inr ⟨p,hp,hl,fun j v hj=>hc j v hj⟩)
 have Aq7:=growslice_fits (need:=n+m) (old:=cap) (bytes:=i.bytes) hg (by omega)
 have hn:¬(n+m<=cap):=by omega
 have Ad7:¬(9223372036854775807<((n:Int)+(m:Int))):=by omega
 have Aeo:¬(281474976710656<Builtin.nextslicecap (n+m) cap*i.bytes):=by omega
 have Ys:(match d with | .int _=>true|_=>false)=false:=by cases d<;>first|rfl|exact absurd rfl (hd _)
 simp[Builtin.append_,run_underlying ht,run_underlying WU,Ys,sizeOf,typeInfo,zeroValue,hi,hz,h1,hn,Ad7,Aeo,Question.forced,h2,h3,newRow,grownCap]
 congr 2
 apply Array.ext';simp[List.append_assoc]
theorem Wu {t tx ty e:TypeId}{i:TypeInfo}{d:TypeDesc}{ts:List TypeId}(ht:P.underlying t=some (.slice e)) (WU:P.underlying tx=some d)(hd:∀k,d ≠ .int k)(hi:P.info? e=some i)
  {b ob n cap m:Nat} {xv:Value} {news:List Value} {A:Nat->Prop} {new:List PV} (hs:Src P w A i.size xv m new news) (hl:news.length=m*i.size)
  (Cm:∀k,k<news.length->(w.cell? ⟨b,ob+n*i.size+k,none⟩).isSome=true) (XZ:∀k,k<news.length->w.frozen? ⟨b,ob+n*i.size+k,none⟩=false)(hg:n+m<=cap):
  (Builtin.append_ (t::tx::ts).toArray ty #[.slice (some ⟨b,ob,none⟩) n cap,xv]).run P w=.ok (.slice (some ⟨b,ob,none⟩) (n+m) cap) (w.setCells b (ob+n*i.size) news):=by
 have h1:=hs.len w;have h2:(Builtin.firstCells i.size m xv).run P w=.ok news.toArray w:=hs.cells w (fun _ _=>rfl)
 have h3:=run_storeCells_cells (P:=P) b (ob+n*i.size) news 0 w (fun k hk=>by simpa using Cm k hk) (fun k hk=>by simpa using XZ k hk) hs.one
 have Ys:(match d with | .int _=>true|_=>false)=false:=by cases d<;>first|rfl|exact absurd rfl (hd _)
 have _:=hl;simp[Builtin.append_,run_underlying ht,run_underlying WU,Ys,sizeOf,typeInfo,hi,h1,hg,h2,D4];rw[h3];simp
theorem MF {t ty e:TypeId}{i:TypeInfo}{ts:List TypeId}(ht:P.underlying t=some (.slice e)) (hi:P.info? e=some i)
  {ad:Option Addr} {n cap m:Nat} {xv:Value} {news:List Value} {A:Nat->Prop} {new:List PV} (hs:Src P w A i.size xv m new news)
  {w1:World} (E8:(match ad with|some p=>storeCells p (news.take (min m n*i.size)) 0|none=>pure ()).run P w=.ok () w1):
  (Builtin.copy_ (t::ts).toArray ty #[.slice ad n cap,xv]).run P w=.ok (goInt ((min m n:Nat):Int)) w1:=by
 have h1:=hs.len w;have h2:=hs.part (min m n) (Nat.min_le_left _ _);have e:Nat.min m n=min m n:=rfl;generalize min m n=k at *
 cases ad with
 |none=>
  simp only at E8;simp[Builtin.copy_,run_underlying ht,sizeOf,typeInfo,hi,h1,h2,e]
  simpa using E8
 |some p=>
  simp only at E8;simp[Builtin.copy_,run_underlying ht,sizeOf,typeInfo,hi,h1,h2,e,E8]
theorem U7 {t tx ty e:TypeId}{i:TypeInfo}{k kx:IntKind}{ts:List TypeId}(ht:P.underlying t=some (.slice e)) (WU:P.underlying tx=some (.int k)) (hi:P.info? e=some i):
  (Builtin.append_ (t::tx::ts).toArray ty #[.slice none 0 0,.int kx 0]).run P w=.ok (.slice none 0 0) w:=by
 have hw:IntKind.i64.wrap 0=0:=by decide
 simp[Builtin.append_,run_underlying ht,run_underlying WU,sizeOf,typeInfo,hi,asInt,asIntOf,hw]
theorem Wv {t tx ty e:TypeId}{i:TypeInfo}{z:Value}{k kx:IntKind}{ts:List TypeId}(ht:P.underlying t=some (.slice e)) (WU:P.underlying tx=some (.int k)) (hi:P.info? e=some i)(hz:i.zero=some z)
  {n:Int} (h0:0<n) (hb:n.toNat*i.bytes<=1099511627776) (hn:n<=1099511627776):
  (Builtin.append_ (t::tx::ts).toArray ty #[.slice none 0 0,.int kx n]).run P w =
   .ok (.slice (some ⟨w.heap.size,0,none⟩) n.toNat (grownCap w n.toNat 0 e)) (w.drew.alloc (.cells ((if n.toNat*i.size=0 then #[] else Builtin.zeroCells z.cells n.toNat)++Builtin.zeroCells z.cells (grownCap w n.toNat 0 e-n.toNat)) e)):=by
 have hw:IntKind.i64.wrap n=n:=IntWalk.i64_in n (by omega)
 have Aq7:=growslice_fits (need:=n.toNat) (old:=0) (bytes:=i.bytes) (by omega) (by omega)
 have Ub:¬n<0:=by omega
 have Rb:¬(281474976710656<n*(i.bytes:Int)):=by
  have:n*(i.bytes:Int)=((n.toNat*i.bytes:Nat):Int):=by
   rw[Int.natCast_mul,Int.toNat_of_nonneg (by omega)]
  omega
 have Fx:¬(n.toNat=0):=by omega
 have Ad7:¬(9223372036854775807<(n.toNat:Int)):=by omega
 have Aeo:¬(281474976710656<Builtin.nextslicecap n.toNat 0*i.bytes):=by omega
 have Xc:¬n<=0:=by omega
 have hmx:¬(9223372036854775807<max n 0):=by omega
 by_cases hs:n.toNat*i.size=0
 ·simp[Builtin.append_,run_underlying ht,run_underlying WU,sizeOf,typeInfo,zeroValue,hi,hz,asInt,asIntOf,hw,Ub,Rb,Fx,Xc,hmx,Ad7,Aeo,Question.forced,hs,newRow,grownCap,Builtin.firstCells]
 ·simp[Builtin.append_,run_underlying ht,run_underlying WU,sizeOf,typeInfo,zeroValue,hi,hz,asInt,asIntOf,hw,Ub,Rb,Fx,Xc,hmx,Ad7,Aeo,Question.forced,hs,newRow,grownCap,Builtin.firstCells]
theorem Jd {t tx ty e:TypeId}{i:TypeInfo}{d:TypeDesc}{ts:List TypeId}(ht:P.underlying t=some (.slice e)) (WU:P.underlying tx=some d)(hd:∀k,d ≠ .int k)(hi:P.info? e=some i)
  {ad:Option Addr} {xv:Value} {news:List Value} {A:Nat->Prop} {new:List PV} (hs:Src P w A i.size xv 0 new news) (h0:news=[]):
  (Builtin.append_ (t::tx::ts).toArray ty #[.slice ad 0 0,xv]).run P w=.ok (.slice ad 0 0) w:=by
 subst h0;have h1:=hs.len w;have h2:(Builtin.firstCells i.size 0 xv).run P w=.ok ([]:List Value).toArray w:=hs.cells w (fun _ _=>rfl)
 have Ys:(match d with | .int _=>true|_=>false)=false:=by cases d<;>first|rfl|exact absurd rfl (hd _)
 cases ad<;>simp[Builtin.append_,run_underlying ht,run_underlying WU,Ys,sizeOf,typeInfo,hi,h1,h2,storeCells]
end
open Go.RowKit
section
variable {R:Type} {r:R} {P:Program} {N:Nat} {w0:World} {X0:Gq} {Y:Nat->Prop} {β β':Bt} {s:St} {a:Act} {w w':World} {o:Oper} {A:Nat->Prop}
theorem Abh {b j:Nat}(h:j<bsz w b):(w.cell? ⟨b,j,none⟩).isSome=true:=by
 unfold bsz at h;unfold World.cell?;split at h
 ·rename_i c e fz hb;simp[hb,h]
 ·omega
theorem RB {id d:Nat}{c cells:List PV}{bo:Option (Nat × Nat)} (h0:s.hp id=some (.ar false c)) (hd:s.hp d=none)
  (GK:∀k x,bo=some (k,x)->w.heap.size<=k∨∃y,β id=some (k,y)):
  ∀k,k<w.heap.size->Ct (Cg (Cg s.hp id (some .mv)) d (some (.ar false cells))) (Cg β d bo) Y k->Ct s.hp β Y k:=by
 rintro k hk (⟨i,x,hl,hβ⟩|hY)
 ·by_cases e':i=d
  ·subst e';rw[Al] at hβ;rcases GK k x hβ with h|⟨y,hy⟩
   ·omega
   ·exact .inl ⟨id,y,by rw[h0];trivial,hy⟩
  ·rw[Ai _ _ e'] at hl hβ;by_cases e:i=id
   ·subst e;rw[Al] at hl;exact hl.elim
   ·rw[Ai _ _ e] at hl;exact .inl ⟨i,x,hl,hβ⟩
 ·exact .inr hY
theorem Y7 {pre new:List PV}{olds news:List Value}{zs:Array Value}{e:TypeId}{A':Nat->Prop}(hg:Ff w w' (olds.toArray++news.toArray++zs) e) (hA:∀b,b<w.heap.size->A' b->A b)
  (h1:Bb (Ar w A) pre olds) (h2:Bb (Ar w A) new news) (ho:∀u∈olds,u.oneCell'=true)(hn:∀u∈news,u.oneCell'=true):NT w' A' ⟨w.heap.size,0,none⟩ (pre++new):=by
 refine TM hg hA fun j p hj=>?_
 obtain⟨v,hv,ht⟩:=(h1.app h2).get hj;refine⟨v,?_,?_,ht⟩
 ·have B4:j<(olds++news).length:=by
   rcases Nat.lt_or_ge j (olds++news).length with h|h
   ·exact h
   ·rw[List.getElem?_eq_none h] at hv;cases hv
  rw[Array.getElem?_append_left (by simpa using B4)]
  simpa using hv
 ·rcases List.mem_append.1 (List.mem_of_getElem? hv) with hm|hm
  ·exact ho v hm
  ·exact hn v hm
theorem GV (h:Cj N w0 X0 Y β s a w){c:Call}(ho:o.op=.call c)(hc:c.callee=.builtin .append)(hnb:S0 c=true){d:Nat}(VG:o.dst=some d){b x:Operand}(Eh:c.args.toList=[b,x]) {t tx:TypeId}{ts:List TypeId}(Xb:c.argTypes.toList=t::tx::ts)
  {K:PV->List (Nat × Bk)->Option R} (hk:Qg P (Hl s.hp) d t tx (Bv s.tm x) K=some r):∃v nw,K v nw=some r∧Dt P a w o Y β s v [] nw:=by
 have hb:b=.const (.slice none 0 0):=by
  unfold S0 at hnb;rw[Eh] at hnb;split at hnb
  ·rename_i e;injection e
  ·cases hnb
 have AK:c.args = #[b,x]:=by
  have:c.args=([b,x]:List Operand).toArray:=by rw[←Eh]
  exact this
 have NO:c.argTypes=(t::tx::ts).toArray:=by rw[←Xb]
 have Lw:a.eval b=.slice none 0 0:=by rw[hb];rfl
 have run:∀{v:Value} {w1:World},(Builtin.append_ (t::tx::ts).toArray o.type #[a.eval b,a.eval x]).run P w=.ok v w1->(execOp a.eval o).run P w=.ok (.value v) w1:=by
  intro v w1 hr;unfold execOp;rw[ho];simp only[resolve,hc,invoke,builtin,Sem.run_bind,Sem.run_pure,Result.andThen_ok,AK,NO];have:(#[b,x]:Array Operand).map a.eval = #[a.eval b,a.eval x]:=by simp
  rw[this,hr];rfl
 unfold Qg at hk;split at hk
 ·rename_i e hu;obtain⟨TY,hk⟩:=Aj hk;obtain⟨i,z,hi,hz,hzs,K1⟩:=Zq TY;have Ps:((P.info? e).map (·.bytes)).getD 0=i.bytes:=by rw[hi];rfl
  obtain⟨⟨dx,hdx,KW⟩,m,new,news,hk,hs⟩:=AN (s:=s) h hk (fun m new I3=>by
   obtain⟨hb,_⟩:=Aj I3;simp only[Bool.and_eq_true,decide_eq_true_eq] at hb;exact hb.1.1)
  obtain⟨Gi,hk⟩:=Aj hk;simp only[Bool.and_eq_true,decide_eq_true_eq] at Gi;obtain⟨⟨SF,XE⟩,CY⟩:=Gi;have ZQ:new.length=news.length:=hs.rep.len;rw[K1] at SF hk hs;rw[Ps] at XE;have V5:news.length=m*i.size:=by omega
  refine⟨_,_,hk,by simp,?_⟩
  by_cases hm0:m=0
  ·subst hm0;have hr:=Jd (P:=P) (w:=w) (t:=t) (tx:=tx) (ty:=o.type) (ts:=ts) (ad:=none) hu hdx KW hi hs (List.eq_nil_of_length_eq_zero (by omega))
   rw[←Lw] at hr;have NK:new=[]:=List.eq_nil_of_length_eq_zero (by omega)
   subst NK;refine⟨_,_,run hr,fun YY=>⟨Cg β d none,?_⟩⟩
   have Sc:s.hp d=none:=(Bg YY).1 d _ (List.mem_singleton_self _);rw[Lw];refine⟨rfl,rfl,rfl,B2.refl _ _,fun j hj=>Ai _ _ (by rintro rfl;exact hj Sc),?_,?_,?_,?_,?_,.inl ⟨Al _ _ _,rfl,rfl,none,rfl⟩,?_⟩
   ·intro j bx hm;simp at hm;rw[hm.2];trivial
   ·intro j bx hm;simp at hm;obtain⟨rfl,rfl⟩:=hm;exact .inl ⟨Al _ _ _,rfl⟩
   ·intro j bx k q hm hq;simp at hm;obtain⟨rfl,rfl⟩:=hm;rw[Al] at hq;cases hq
   ·intro j bx j' bx' k q q' hm Hw _ _;simp at hm Hw;rw[hm.1,Hw.1]
   ·intro j cells hm;simp at hm
   ·intro j hj;simp[Bo,B6,Am] at hj;subst hj;exact .inr ⟨.ar false [],by simp⟩
  ·have hr:=I4 (P:=P) (w:=w) (t:=t) (tx:=tx) (ty:=o.type) (ts:=ts) (ad:=none) (n:=0) (cap:=0) (olds:=[]) hu hdx KW hi hz hs (.inl ⟨rfl,rfl⟩) (by omega) (by rw[Nat.zero_add];exact XE) (by omega)
   rw[←Lw] at hr;refine⟨_,_,run hr,fun YY=>⟨Cg β d (some (w.heap.size,0)),?_⟩⟩
   have Sc:s.hp d=none:=(Bg YY).1 d _ (List.mem_singleton_self _);have XW:0+m<=grownCap w (0+m) 0 e:=grownCap_ge w (0+m) 0 e
   have Rt:Ff w (w.drew.alloc (.cells (([]:List Value).toArray++news.toArray++Builtin.zeroCells z.cells (grownCap w (0+m) 0 e-(0+m))) e)) (([]:List Value).toArray++news.toArray++Builtin.zeroCells z.cells (grownCap w (0+m) 0 e-(0+m))) e:=
    ⟨rfl,rfl,rfl,fun k hk=>Below.heap_alloc w.drew _ k hk,by show (w.heap.push _).size=_;simp,(0,0),by show (w.heap.push _)[w.heap.size]?=_;simp,.inl rfl⟩
   have OV:(([]:List Value).toArray++news.toArray++Builtin.zeroCells z.cells (grownCap w (0+m) 0 e-(0+m))).size=grownCap w (0+m) 0 e*i.size:=by
    simp only[Array.size_append,List.size_toArray,size_zeroCells,hzs,V5,List.length_nil,←Nat.add_mul];rw[Nat.zero_add (m*i.size),←Nat.add_mul]
    congr 1
    omega
   refine M1 (s:=⟨s.tm,Af s.hp []⟩) Rt Sc trivial ?_ (fun cells hx=>by cases hx) ?_ (by intro j hj;simp[Bo,B6,Am] at hj;exact .inr hj)
   ·refine .inr ⟨w.heap.size,0,Al _ _ _,?_,fun _ j _ hj=>?_,(fun q=>by cases q)⟩
    ·exact Y7 (pre:=[]) Rt (SQ (s:=⟨s.tm,Af s.hp []⟩) Sc) trivial hs.rep (by simp) hs.one
    ·rw[Rt.bsz] at hj;exact Rt.frozen hj
   ·refine .inr ⟨w.heap.size,0,0,grownCap w (0+m) 0 e,Al _ _ _,by rw[Nat.zero_add],.inl rfl,by omega,?_,by rw[Rt.size];omega⟩
    exact⟨by rw[Rt.bsz,OV];omega,.inr (Hz w.drew _ e)⟩
 ·cases hk
theorem NJ {lo hi:Option Operand}{y3:Operand}{k3:IntKind}{len cap l u m:Nat}(hl:(lo=none∧l=0)∨∃y k,lo=some y∧a.eval y=.int k (l:Int))
  (hu:∃y k,hi=some y∧a.eval y=.int k (u:Int)) (hm:a.eval y3=.int k3 (m:Int)) (h1:l<=u)(h2:u<=m)(h3:m<=cap):
  (Instr.sliceBounds true len cap (lo.map a.eval) (hi.map a.eval) (some (a.eval y3))).run P w=.ok (l,u,m) w:=by
 obtain⟨y,k,rfl,hy⟩:=hu;rcases hl with⟨rfl,rfl⟩|⟨y',k',rfl,hy'⟩
 ·simp[Instr.sliceBounds,Instr.sliceBound,asIntOf,hy,hm,h2,h3]
 ·simp[Instr.sliceBounds,Instr.sliceBound,asIntOf,hy,hy',hm,h1,h2,h3]
theorem FW (h:Cj N w0 X0 Y β s a w){t:TypeId}{x m:Operand}{lo hi:Option Operand}(ho:o.op=.slice t x lo hi (some m)) {d:Nat}{K:PV->List (Nat × Bk)->Option R}
  (hk:Pz P d t (Bv s.tm x) (lo.map (Bv s.tm)) (hi.map (Bv s.tm)) (some (Bv s.tm m)) K=some r):∃v nw,K v nw=some r∧Dt P a w o Y β s v [] nw:=by
 have hx:=Cn h x;unfold Pz at hk;split at hk
 ·rename_i e hu;obtain⟨hb,hk⟩:=Aj hk;simp only[Bool.and_eq_true] at hb;obtain⟨Lz,hhi⟩:=hb
  obtain⟨yh,rfl⟩:∃y,hi=some y:=by
   cases hi with
   |none=>simp at hhi
   |some y=>exact⟨y,rfl⟩
  have fin:∀{ad:Option Addr} {n cap l u q:Nat},a.eval x=.slice ad n cap->n<=cap->((lo=none∧l=0)∨∃y k,lo=some y∧a.eval y=.int k (l:Int))->((some yh=none∧u=n)∨∃y k,some yh=some y∧a.eval y=.int k (u:Int))->(((some m:Option Operand)=none∧q=n)∨∃y k,(some m:Option Operand)=some y∧a.eval y=.int k (q:Int)) ->
    (Nat.beq l q&&Nat.beq u q&&decide (q<=n))=true->Dt P a w o Y β s (.view d (A7 P e) 0 0) [] [(d,.ar false [])]:=by
   intro ad n cap l u q Cv hn hl Hc hq hb;simp only[Bool.and_eq_true,decide_eq_true_eq] at hb;obtain⟨⟨b1,b2⟩,b3⟩:=hb;have b1:=Nat.eq_of_beq_eq_true b1;have b2:=Nat.eq_of_beq_eq_true b2;subst b1 b2
   have hu2:∃y k,(some yh:Option Operand)=some y∧a.eval y=.int k (u:Int):=by
    rcases Hc with⟨e,_⟩|e
    ·cases e
    ·exact e
   obtain⟨k3,hm3⟩:∃k,a.eval m=.int k (u:Int):=by
    rcases hq with⟨e,_⟩|⟨y,k,e,q⟩
    ·cases e
    ·cases e;exact⟨k,q⟩
   have JP:=NJ (P:=P) (w:=w) (len:=n) (cap:=cap) hl hu2 hm3 (Nat.le_refl _) (Nat.le_refl _) (by omega)
   have Ch:∃ad',(execOp a.eval o).run P w=.ok (.value (.slice ad' 0 0)) w:=by
    unfold execOp;rw[ho];cases ad with
    |none=>exact⟨none,by simp[Instr.sliceAt,Instr.slice,run_underlying hu,Cv,JP,Ci Lz] at JP ⊢⟩
    |some p=>exact⟨some p,by simp[Instr.sliceAt,Instr.slice,run_underlying hu,Cv,JP,Ci Lz] at JP ⊢⟩
   obtain⟨ad',Ch⟩:=Ch;refine⟨by simp,_,_,Ch,fun YY=>⟨Cg β d none,?_⟩⟩
   have Sc:s.hp d=none:=(Bg YY).1 d _ (List.mem_singleton_self _);refine⟨rfl,rfl,rfl,B2.refl _ _,fun j hj=>Ai _ _ (by rintro rfl;exact hj Sc),?_,?_,?_,?_,?_,.inl ⟨Al _ _ _,rfl,rfl,ad',rfl⟩,?_⟩
   ·intro j bx hm;simp at hm;rw[hm.2];trivial
   ·intro j bx hm;simp at hm;obtain⟨rfl,rfl⟩:=hm;exact .inl ⟨Al _ _ _,rfl⟩
   ·intro j bx k q hm hq;simp at hm;obtain⟨rfl,rfl⟩:=hm;rw[Al] at hq;cases hq
   ·intro j bx j' bx' k q q' hm Hw _ _;simp at hm Hw;rw[hm.1,Hw.1]
   ·intro j cells hm;simp at hm
   ·intro j hj;simp[Bo,B6,Am] at hj;subst hj;exact .inr ⟨.ar false [],by simp⟩
  split at hk
  ·rename_i id es off n e';rw[e'] at hx;obtain⟨Qp,hk⟩:=Aj hk;obtain⟨l,hk,hl⟩:=Dh h hk;obtain⟨u,hk,Hc⟩:=Dh h hk;obtain⟨q,hk,hq⟩:=Dh (x:=some m) h hk;obtain⟨hb,hk⟩:=Aj hk;refine⟨_,_,hk,?_⟩;rcases hx with⟨hβ,_,rfl,ad,Cv⟩|⟨b,ob,y,cap,hβ,Cv,hy,hn,Ru,B4⟩
   ·exact fin Cv (Nat.le_refl _) hl Hc hq hb
   ·exact fin Cv hn hl Hc hq hb
  ·obtain⟨z,n,c,hk,hp⟩:=Ep hk;obtain⟨l,hk,hl⟩:=Dh h hk;obtain⟨u,hk,Hc⟩:=Dh h hk;obtain⟨q,hk,hq⟩:=Dh (x:=some m) h hk;obtain⟨hb,hk⟩:=Aj hk;refine⟨_,_,hk,?_⟩;rcases Fh hp hx with⟨Cv,rfl,rfl⟩|⟨ad,cap,Cv,_,hn,_⟩|⟨ad,cap,Cv,_,rfl,rfl⟩
   ·exact fin Cv (Nat.le_refl _) hl Hc hq hb
   ·exact fin Cv hn hl Hc hq hb
   ·exact fin Cv (Nat.zero_le _) hl Hc hq hb
 ·cases hk
end
open Go.RowKit
section
variable {R:Type} {r:R} {P:Program} {N:Nat} {w0:World} {X0:Gq} {Y:Nat->Prop} {β β':Bt} {s:St} {a:Act} {w w':World} {o:Oper} {A:Nat->Prop}
theorem YT (h:Cj N w0 X0 Y β s a w){G:Rx}(Ie:MZ P G w0 X0){C:Fu}{call:Ax}(Df:∀f args res,call f args=some res->Cw G P f args res){K:PV->List Nat->List (Nat × Bk)->Option R}
  (hk:Yk C P N call s.tm (rd s.hp) (Hl s.hp) o K=some r):∃v fz nw,K v fz nw=some r∧Y5 P a w o Y β s v fz nw:=by
 have one:∀{K':PV->Option R},(∀v,K' v=some r->K v [] []=some r)->(∃v,K' v=some r∧Dt P a w o Y β s v [] [])->∃v fz nw,K v fz nw=some r∧Y5 P a w o Y β s v fz nw:=
  fun hK ⟨v,h1,h2⟩=>⟨v,[],[],hK v h1,Zi h2⟩
 have many:(∃v fz nw,K v fz nw=some r∧Dt P a w o Y β s v fz nw)->∃v fz nw,K v fz nw=some r∧Y5 P a w o Y β s v fz nw:=
  fun ⟨v,fz,nw,h1,h2⟩=>⟨v,fz,nw,h1,Zi h2⟩
 unfold Yk at hk;split at hk
 ·rename_i x ho;exact one (fun _ h=>h) (T9 (K:=fun p=>K p [] []) h (XK ho) hk)
 ·rename_i x ho;exact one (fun _ h=>h) (T9 (K:=fun p=>K p [] []) h (JY ho) hk)
 ·rename_i c x y ho;exact one (fun _ h=>h) (RD (K:=fun p=>K p [] []) h ho hk)
 ·rename_i t ho;obtain⟨d,hd,hk⟩:=B3 hk;exact many (KP ho hk)
 ·rename_i t x ho;obtain⟨d,hd,hk⟩:=B3 hk;exact many (VX h ho hk)
 ·rename_i t ps ho;exact one (fun _ h=>h) (NC (K:=fun p=>K p [] []) h ho hk)
 ·rename_i t n ps ho;obtain⟨d,hd,hk⟩:=B3 hk;exact many (Vg h ho hk)
 ·rename_i t x ho;exact one (fun _ h=>h) (QJ (K:=fun p=>K p [] []) h ho hk)
 ·rename_i x ho;exact one (fun _ h=>h) (Zt (K:=fun p=>K p [] []) h ho hk)
 ·rename_i op t x y ty ho;exact one (fun _ h=>h) (MB (K:=fun p=>K p [] []) h ho hk)
 ·rename_i op t x ho;exact one (fun _ h=>h) (PT (K:=fun p=>K p [] []) h ho hk)
 ·rename_i src dst x ho;obtain⟨v,nw,hk,hg⟩:=OP h ho hk;obtain⟨d,hd,hk⟩:=B3 hk;exact⟨v,[],nw,hk,Zi hg⟩
 ·rename_i t x y ho;obtain⟨d,hd,hk⟩:=B3 hk;exact many (PZ h ho hk)
 ·rename_i t x lo hi mx ho;split at hk
  ·exact one (fun _ h=>h) (KE (K:=fun p=>K p [] []) h ho hk)
  ·obtain⟨d,hd,hk⟩:=B3 hk;obtain⟨v,nw,h1,h2⟩:=FW h ho hk;exact⟨v,[],nw,h1,Zi h2⟩
 ·rename_i t x f ho;exact one (fun _ h=>h) (Wj (K:=fun p=>K p [] []) h ho hk)
 ·rename_i t x f ho;exact one (fun _ h=>h) (NQ (K:=fun p=>K p [] []) h ho hk)
 ·rename_i t x i ho;exact one (fun _ h=>h) (Wm (K:=fun p=>K p [] []) h ho hk)
 ·rename_i t x i ho;exact one (fun _ h=>h) (ME (K:=fun p=>K p [] []) h ho hk)
 ·rename_i t x k ok ho;exact one (fun _ h=>h) (GQ (K:=fun p=>K p [] []) h ho hk)
 ·rename_i x i ho;exact one (fun _ h=>h) (CG (K:=fun p=>K p [] []) h ho hk)
 ·rename_i c ho;split at hk
  ·rename_i hc;exact one (fun _ h=>h) (VU (K:=fun p=>K p [] []) h ho hc hk)
  ·rename_i hc;exact one (fun _ h=>h) (WK (K:=fun p=>K p [] []) h ho hc hk)
  ·rename_i hc;exact one (fun _ h=>h) (XJ (K:=fun p=>K p [] []) h ho hc hk)
  ·rename_i hc;exact one (fun _ h=>h) (XH (K:=fun p=>K p [] []) h ho hc hk)
  ·rename_i hc;obtain⟨hnb,hk⟩:=Aj hk;obtain⟨d,hd,Dn⟩:=B3 hk;obtain⟨b,xs,BB,D8⟩:=A6 Dn;obtain⟨x,ys,hys,I1⟩:=A6 D8;obtain⟨Ut,Qy⟩:=C6 I1;obtain⟨t,us,XT,PH⟩:=A6 Qy;obtain⟨tx,vs,Of,hk6⟩:=A6 PH;rw[hys,Ut] at BB;rw[Of] at XT;obtain⟨v,nw,h1,h2⟩:=GV h ho hc hnb hd BB XT hk6;exact⟨v,[],nw,h1,Zi h2⟩
  ·rename_i f hc;exact Zs h Ie Df (fun hf hb=>KC ho hc Ie.ng hf hb) hk
  ·rename_i t hc;obtain⟨f,hf0,Dn⟩:=Aea hk;have ht:a.eval (.tmp t)=.func (.func f) #[] #[]:=B1 h (x:=.tmp t) hf0;exact Zs h Ie Df (fun hf hb=>UX ho hc ht Ie.ng hf hb) Dn
  ·cases hk
 ·cases hk
theorem OT (h:Cj N w0 X0 Y β s a w){G:Rx}(Ie:MZ P G w0 X0){C:Fu}{call:Ax}(Df:∀f args res,call f args=some res->Cw G P f args res){K:St->Option R}
  (hk:(Yk C P N call s.tm (rd s.hp) (Hl s.hp) o fun v fz nw=>Up N s o.dst v fz nw K)=some r):
  ∃s',K s'=some r∧∀(next:Act->World->Prop) (Q:Exit->Act->World->Prop),(∀a' w' β',Cj N w0 X0 Y β' s' a' w'->next a' w')->o.wp P a w next Q:=by
 obtain⟨v,fz,nw,hk,Ur,hg⟩:=YT h Ie Df hk;unfold Up at hk;obtain⟨hb,hk⟩:=Aj hk;simp only[Bool.and_eq_true] at hb;refine⟨_,hk,fun next Q hn=>hg next Q fun val w' E8=>?_⟩
 obtain⟨β',st⟩:=E8 hb.2
 have Lw:Bn (Af s.hp fz) nw=true:=by
  have:∀nw,Bn s.hp nw=true->Bn (Af s.hp fz) nw=true:=by
   intro nw
   induction nw with
   |nil=>intro _;rfl
   |cons q nw ih=>
    obtain⟨i,b⟩:=q;intro hq;simp only[Bn,Bool.and_eq_true,Option.isNone_iff_eq_none] at hq ⊢;exact⟨⟨Dl.2 hq.1.1,hq.1.2⟩,ih hq.2⟩
  exact this nw hb.2
 exact hn _ _ β' ((h.freeze Ur).stepR hb.1 Lw st)
end
open Go.RowKit
section
variable {R:Type} {r:R} {P:Program} {N:Nat} {w0:World} {X0:Gq} {Y:Nat->Prop} {β β':Bt} {s:St} {a:Act} {w w':World} {o:Oper} {A:Nat->Prop}
structure De (b:Nat) (w w':World):Prop where
 os:w'.os=w.os
 tape:w'.tape=w.tape
 output:w'.output=w.output
 size:w'.heap.size=w.heap.size
 other:∀k,k≠b->w'.heap[k]?=w.heap[k]?
 bs:bsz w' b=bsz w b
 frz:∀j,w'.frozen? ⟨b,j,none⟩=w.frozen? ⟨b,j,none⟩
theorem De.grow {b:Nat}(h:De b w w')(k:Nat):F1 w w' k:=by
 by_cases e:k=b
 ·subst e;refine⟨by rw[h.bs];exact Nat.le_refl _,fun q=>?_⟩
  unfold MC at q ⊢;rw[h.bs,h.frz];exact q
 ·exact F1.same (h.other k e)
theorem De.refl (b:Nat)(w:World):De b w w:=⟨rfl,rfl,rfl,rfl,fun _ _=>rfl,rfl,fun _=>rfl⟩
theorem De.setCell (b j:Nat)(v:Value)(w:World):De b w (w.setCell ⟨b,j,none⟩ v):=by
 refine⟨rfl,rfl,rfl,by simp[World.setCell],fun k hk=>Below.heap_setCell w ⟨b,j,none⟩ v k hk,?_,fun i=>?_⟩
 ·simp only[bsz,World.setCell,Array.getElem?_modify];simp only[if_true];cases h:w.heap[b]? with
  |none=>simp
  |some x=>cases x<;>simp
 ·simp only[World.frozen?,World.setCell,Array.getElem?_modify,if_true];cases h:w.heap[b]? with
  |none=>simp
  |some x=>cases x<;>simp
theorem De.trans {b:Nat}{w'':World}(h:De b w w')(h':De b w' w''):De b w w'':=
 ⟨h'.os.trans h.os,h'.tape.trans h.tape,h'.output.trans h.output,h'.size.trans h.size,fun k hk=>(h'.other k hk).trans (h.other k hk),h'.bs.trans h.bs,fun j=>(h'.frz j).trans (h.frz j)⟩
theorem De.setCells (b:Nat):∀(vs:List Value)(j:Nat)(w:World),De b w (w.setCells b j vs)
 |[],_,w=>De.refl b w
 |v::vs,j,w=>(De.setCell b j v w).trans (De.setCells b vs (j+1) _)
theorem Asn {hp:Nat->Option Bk}{id:Nat}{bx bx':Bk}(h0:hp id=some bx)(hl:Cu (some bx)) (Ib:Cu (some bx')) (b:Nat):HW (Cg hp id (some bx')) β b↔HW hp β b:=by
 constructor
 ·rintro⟨i,o,h1,h2⟩
  by_cases e:i=id
  ·subst e;exact⟨i,o,by rw[h0];exact hl,h2⟩
  ·rw[Ai _ _ e] at h1;exact⟨i,o,h1,h2⟩
 ·rintro⟨i,o,h1,h2⟩
  by_cases e:i=id
  ·subst e;exact⟨i,o,by rw[Al];exact Ib,h2⟩
  ·exact⟨i,o,by rw[Ai _ _ e];exact h1,h2⟩
theorem Cj.write (h:Cj N w0 X0 Y β s a w){id b ob:Nat}{bx bx':Bk}(h0:s.hp id=some bx)(hl:Cu (some bx)) (Ib:Cu (some bx')) (hβ:β id=some (b,ob)) (hw:De b w w')
  (I2:Nf w' (Ct s.hp β Y) β id bx') (hr:∀cells,bx'=.st cells->∀c∈cells,∀i∈Am c,s.hp i≠none)
  (hK:∀c',bx'=.st c'->∃c,bx=.st c)(hR:∀j,BR bx' ob j->BR bx ob j)(hO:∀j,¬BR bx ob j->w'.cell? ⟨b,j,none⟩=w.cell? ⟨b,j,none⟩):Cj N w0 X0 Y β ⟨s.tm,Cg s.hp id (some bx')⟩ a w':=by
 have hX:=Asn (β:=β) h0 hl Ib;have hA:∀k,Ct (Cg s.hp id (some bx')) β Y k↔Ct s.hp β Y k:=fun k=>⟨fun x=>x.imp (hX k).1 (fun y=>y),fun x=>x.imp (hX k).2 (fun y=>y)⟩
 have hAb:Ct s.hp β Y b:=.inl ⟨id,ob,by rw[h0];exact hl,hβ⟩
 have E8:B2 (Ct s.hp β Y) w w':=⟨by rw[hw.size];exact Nat.le_refl _,fun k _ hk=>hw.other k (fun e=>hk (e ▸ hAb)),fun k _=>hw.grow k⟩
 have Rb:∀i,Cg s.hp id (some bx') i≠none↔s.hp i≠none:=by
  intro i;by_cases e:i=id
  ·subst e;rw[Al,h0];simp
  ·rw[Ai _ _ e]
 have hAe:Ct (Cg s.hp id (some bx')) β Y=Ct s.hp β Y:=funext fun k=>propext (hA k)
 have Tj:∀i,Cu (Cg s.hp id (some bx') i)->Cu (s.hp i):=by
  intro i hi;by_cases e:i=id
  ·subst e;rw[h0];exact hl
  ·rw[Ai _ _ e] at hi;exact hi
 refine⟨h.dfr,h.tsz,h.tmo,fun i hi=>?_,fun i bi hb=>?_,fun i i' k x y h1 h2=>h.inj i i' k x y (Tj i h1) (Tj i' h2),fun i k x hi hk=>?_,fun i hi j hj=>(Rb j).2 (h.wfT i hi j hj),
  fun i cells hc c MN j hj=>(Rb j).2 ?_,fun k hk=>h.ownd k ((hX k).1 hk),fun i bi k x Ww hli hk B4 j hj=>?_,fun i hi=>⟨(Rb _).2 (h.pin i hi).1,(h.pin i hi).2⟩,fun i c k x hc hk B4=>?_,fun k hk x=>h.Yx k hk ((hX k).1 x),h.Ylt,?_⟩
 ·rw[hAe];exact (h.tms i hi).step E8 (fun _ _ x=>x) (fun _ _=>rfl)
 ·rw[hAe];simp only at hb;by_cases e:i=id
  ·subst e;rw[Al] at hb;cases hb;exact I2
  ·rw[Ai _ _ e] at hb;have Ww:=h.box i bi hb;cases bi with
   |st c=>
    obtain⟨k,x,h1,h2,h3⟩:=Ww
    have hk:k≠b:=by
     rintro rfl
     exact e (h.inj i id k x ob (by rw[hb];trivial) (by rw[h0];exact hl) h1 hβ)
    refine⟨k,x,h1,fun j c hj=>?_,fun j hj=>?_⟩
    ·obtain⟨v,hv,hc⟩:=h2 j c hj;exact⟨v,by rw[World.cell?_of_block (w:=w) (hw.other k hk)];exact hv,hc.step E8 (fun _ _ x=>x) (fun _ _=>rfl)⟩
    ·rw[World.frozen?_of_block (w:=w) (hw.other k hk)];exact h3 j hj
   |ar fz c=>
    rcases Ww with hn|⟨k,x,h1,h2,h3,h4⟩
    ·exact .inl hn
    ·have hk:k≠b:=by
      rintro rfl
      cases fz with
      |true=>exact h4 rfl hAb
      |false=>exact e (h.inj i id k x ob (by rw[hb];trivial) (by rw[h0];exact hl) h1 hβ)
     refine .inr ⟨k,x,h1,fun j c hj=>?_,fun ef j hj Om=>?_,h4⟩
     ·obtain⟨v,hv,h5,hc⟩:=h2 j c hj;exact⟨v,by rw[World.cell?_of_block (w:=w) (by rw[Eb];exact hw.other k hk)];exact hv,h5,hc.step E8 (fun _ _ x=>x)⟩
     ·rw[World.frozen?_of_block (w:=w) (hw.other k hk)];refine h3 ef j hj ?_;unfold bsz at Om ⊢;rw[hw.other k hk] at Om;exact Om
   |mv=>trivial
 ·rw[hw.size];exact h.blt i k x ((Rb i).1 hi) hk
 ·simp only at hc;by_cases e:i=id
  ·subst e;rw[Al] at hc;injection hc with hc;exact hr cells hc c MN j hj
  ·rw[Ai _ _ e] at hc;exact h.wfB i cells hc c MN j hj
 ·simp only at Ww;by_cases e:i=id
  ·subst e;rw[Al] at Ww;cases Ww;rw[hβ] at hk;cases hk;exact h.rngB i bx b ob h0 hl hβ B4 j (hR j hj)
  ·rw[Ai _ _ e] at Ww;exact h.rngB i bi k x Ww hli hk B4 j hj
 ·simp only at hc;by_cases e:i=id
  ·subst e;rw[Al] at hc;injection hc with hc;obtain⟨c0,rfl⟩:=hK c hc;exact h.stp i c0 k x h0 hk B4
  ·rw[Ai _ _ e] at hc;exact h.stp i c k x hc hk B4
 ·refine⟨hw.os.trans h.fr.os,hw.tape.trans h.fr.tape,hw.output.trans h.fr.output,?_,fun k j hk hL=>?_⟩
  ·refine⟨by rw[hw.size];exact h.fr.step.size,fun k hk hnk=>?_,fun k hk=>(h.fr.step.bs k hk).trans (E8.bs k (Nat.lt_of_lt_of_le hk h.fr.step.size))⟩
   rw[hw.other k ?_]
   ·exact h.fr.step.keep k hk hnk
   ·rintro rfl
    rcases h.ownd k ⟨id,ob,by rw[h0];exact hl,hβ⟩ with hx|hx
    ·exact hnk hx
    ·omega
  ·by_cases e:k=b
   ·subst e;rw[hO j (fun hj=>hL (h.rngB id bx k ob h0 hl hβ hk j hj)),hw.frz]
    exact h.fr.rng k j hk hL
   ·have hc:w'.cell? ⟨k,j,none⟩=w.cell? ⟨k,j,none⟩:=World.cell?_of_block (w:=w) (hw.other k e);have hf:w'.frozen? ⟨k,j,none⟩=w.frozen? ⟨k,j,none⟩:=World.frozen?_of_block (w:=w) (hw.other k e);rw[hc,hf];exact h.fr.rng k j hk hL
theorem Nt {c cs:List PV}{off j:Nat}{p:PV}(Xc:off+cs.length<=c.length)(h:(B8 c cs off)[j]?=some p):
  (off<=j∧j<off+cs.length∧cs[j-off]?=some p)∨((j<off∨off+cs.length<=j)∧c[j]?=some p):=by
 unfold B8 at h;by_cases h1:j<off
 ·rw[List.append_assoc,List.getElem?_append_left (by simp;omega),List.getElem?_take_of_lt h1] at h
  exact .inr ⟨.inl h1,h⟩
 ·by_cases h2:j<off+cs.length
  ·rw[List.getElem?_append_left (by simp;omega),List.getElem?_append_right (by simp;omega)] at h
   simp only[List.length_take,Nat.min_eq_left (by omega:off<=c.length)] at h
   exact .inl ⟨by omega,h2,h⟩
  ·rw[List.getElem?_append_right (by simp;omega)] at h
   simp only[List.length_append,List.length_take,Nat.min_eq_left (by omega:off<=c.length),List.getElem?_drop] at h
   rw[show off+cs.length+(j-(off+cs.length))=j from by omega] at h
   exact .inr ⟨.inr (by omega),h⟩
theorem Nv {c cs:List PV}{off:Nat}(Xc:off+cs.length<=c.length):(B8 c cs off).length=c.length:=by
 simp[B8];omega
theorem Wc {t:TypeId}{b j:Nat}{v:Value}(K1:(P.info? t).map (·.size)=some v.cells.size) (hc:∀i,i<v.cells.toList.length->(w.cell? ⟨b,j+i,none⟩).isSome=true)
  (hf:∀i,i<v.cells.toList.length->w.frozen? ⟨b,j+i,none⟩=false)(h1:∀u∈v.cells.toList,u.oneCell'=true):(Instr.storeAt t (.pointer (some ⟨b,j,none⟩)) v).run P w=.ok () (w.setCells b j v.cells.toList):=by
 have:=run_storeCells_cells (P:=P) b j v.cells.toList 0 w (fun i hi=>by simpa using hc i hi) (fun i hi=>by simpa using hf i hi) h1
 simp only[Instr.storeAt,Instr.sureAddr,storeVar,Sem.run_bind,Sem.run_pure,Result.andThen_ok,H3 K1]
 simpa using this
theorem KD (h:Cj N w0 X0 Y β s a w){t:TypeId}{x y:Operand}(ho:o.op=.store t x y)(hd:o.dst=none){K:St->Option R}(hk:Uw P s t (Bv s.tm x) (Bv s.tm y) K=some r):
  ∃s',K s'=some r∧∀(next:Act->World->Prop) (Q:Exit->Act->World->Prop),(∀a' w' β',Cj N w0 X0 Y β' s' a' w'->next a' w')->o.wp P a w next Q:=by
 have hx:=Cn h x;have AZ:=Eg h x
 have run:∀{b j:Nat},a.eval x=.pointer (some ⟨b,j,none⟩)->(Instr.storeAt t (.pointer (some ⟨b,j,none⟩)) (a.eval y)).run P w=.ok () (w.setCells b j (a.eval y).cells.toList) ->
   ∀(next:Act->World->Prop) (Q:Exit->Act->World->Prop),next a (w.setCells b j (a.eval y).cells.toList)->o.wp P a w next Q:=by
  intro b j Cv hr next Q hn;unfold Oper.wp execOp;rw[ho];simp only[Sem.run_bind,Cv,hr,Result.andThen_ok,Sem.run_pure];show next (a.put o.dst undef) _;rw[hd];exact hn
 unfold Uw at hk;split at hk
 ·rename_i id off e;rw[e] at hx AZ;obtain⟨b,ob,hβ,Cv⟩:=hx;split at hk
  ·rename_i c h0;obtain⟨hb,hk⟩:=Aj hk;simp only[Bool.and_eq_true,decide_eq_true_eq] at hb;obtain⟨⟨hok,hl⟩,Xc⟩:=hb;have hl:=Nat.eq_of_beq_eq_true hl;obtain⟨cs,hk,J6,h2,h1,hr,_⟩:=TL (Cn h y) hl hk;obtain⟨_,Ajw,K1⟩:=M0 hok;have hvl:=h2.len;obtain⟨b',o',Ee,Gw,Rv⟩:=h.box id _ h0;rw[hβ] at Ee;simp at Ee;obtain⟨rfl,rfl⟩:=Ee
   have Cm:∀i,i<(a.eval y).cells.toList.length->(w.cell? ⟨b,ob+off+i,none⟩).isSome=true:=by
    intro i hi;obtain⟨v,hv,_⟩:=Gw (off+i) _ (List.getElem?_eq_getElem (by omega))
    rw[Nat.add_assoc,hv];rfl
   have Ch:=Wc (P:=P) (t:=t) (w:=w) (b:=b) (j:=ob+off) (v:=a.eval y) (by rw[K1,←Ajw,←J6,hvl];simp) Cm (fun i hi=>by rw[Nat.add_assoc];exact Rv _ (by omega)) h1
   refine⟨_,hk,fun next Q hn=>run Cv Ch next Q (hn _ _ β ?_)⟩
   refine h.write h0 trivial trivial hβ (De.setCells b _ _ w) ?_ ?_ (fun _ _=>⟨_,rfl⟩) (fun j hj=>by
    have hj:ob<=j∧j<ob+(B8 c cs off).length:=hj;rw[Nv (by omega)] at hj
    exact hj) (fun j hj=>by
    refine World.cell?_setCells_out b _ _ w ⟨b,j,none⟩ (fun _ _=>?_)
    have hj:¬(ob<=j∧j<ob+c.length):=hj;show j<ob+off∨ob+off+_<=j;omega)
   ·have E8:B2 (Ct s.hp β Y) w (w.setCells b (ob+off) (a.eval y).cells.toList):=by
     have hw:=De.setCells b (a.eval y).cells.toList (ob+off) w;have hAb:Ct s.hp β Y b:=.inl ⟨id,ob,by rw[h0];trivial,hβ⟩
     exact⟨by rw[hw.size];exact Nat.le_refl _,fun k _ hk=>hw.other k (fun e=>hk (e ▸ hAb)),fun k _=>hw.grow k⟩
    refine⟨b,ob,hβ,fun j p hj=>?_,fun j hj=>?_⟩
    ·rcases Nt (by omega) hj with⟨h3,h4,h5⟩|⟨h3,h5⟩
     ·obtain⟨u,hu,hcu⟩:=h2.get h5;have B4:j-off<(a.eval y).cells.toList.length:=by omega
      refine⟨u,?_,hcu.step E8 (fun _ _ x=>x) (fun _ _=>rfl)⟩
      have:=World.cell?_setCells_in b (a.eval y).cells.toList (ob+off) w Cm (j-off) B4;rw[show ob+j=ob+off+(j-off) from by omega,this]
      rw[List.getElem?_eq_getElem B4] at hu;exact hu
     ·obtain⟨v,hv,We⟩:=Gw j p h5;refine⟨v,?_,We.step E8 (fun _ _ x=>x) (fun _ _=>rfl)⟩
      rw[World.cell?_setCells_out b _ _ w ⟨b,ob+j,none⟩ (fun _ _=>by show ob+j<ob+off∨ob+off+_<=ob+j;omega)]
      exact hv
    ·rw[Nv (by omega)] at hj
     rw[(De.setCells b _ _ w).frz];exact Rv j hj
   ·intro cells hx c' Nn i hi;injection hx with hx;subst hx;unfold B8 at Nn;rcases List.mem_append.1 Nn with Nn|Nn
    ·rcases List.mem_append.1 Nn with Nn|Nn
     ·exact h.wfB id c h0 c' (List.mem_of_mem_take Nn) i hi
     ·exact Eg h y i (hr c' Nn i hi)
    ·exact h.wfB id c h0 c' (List.mem_of_mem_drop Nn) i hi
  ·rename_i c h0;obtain⟨hb,hk⟩:=Aj hk;simp only[Bool.and_eq_true,decide_eq_true_eq] at hb;obtain⟨hok,Xc⟩:=hb;obtain⟨cs,m,hk,J6,Sd,hT,hF,hm,hv⟩:=Mh h hk;obtain⟨CY,hk⟩:=Aj hk
   have CY:id ∉ m:=by
    intro hi;have:m.any (Nat.beq id)=true:=List.any_eq_true.2 ⟨id,hi,Nat.beq_refl id⟩;rw[this] at CY;cases CY
   obtain⟨_,Ajw,K1⟩:=M0 hok
   have Agd:Bb (Bu w (Ct s.hp β Y) β) (cellsOf (Bv s.tm y)) (a.eval y).cells.toList:=by
    have RU:=Cn h y;cases hp:Bv s.tm y with
    |agg ps=>
     rw[hp] at RU;obtain⟨vs,hay,h2⟩:=RU;rw[hay];exact h2
    |sc v=>
     rw[hp] at RU hF
     have Aar:(a.eval y).oneCell'=true:=by
      have:=hv m (fun _ hi=>hi) hm [a.eval y] (by rw[hp];exact⟨RU,trivial⟩)
      exact this.2 _ (by simp)
     rw[J8 Aar];exact⟨RU,trivial⟩
    |lst z es n cc=>
     rw[hp] at RU hF
     have Aar:(a.eval y).oneCell'=true:=by
      have:=hv m (fun _ hi=>hi) hm [a.eval y] (by rw[hp];exact⟨RU,trivial⟩)
      exact this.2 _ (by simp)
     rw[J8 Aar];exact⟨RU,trivial⟩
    |view i es oo n=>
     rw[hp] at RU hF
     have Aar:(a.eval y).oneCell'=true:=by
      have:=hv m (fun _ hi=>hi) hm [a.eval y] (by rw[hp];exact⟨RU,trivial⟩)
      exact this.2 _ (by simp)
     rw[J8 Aar];exact⟨RU,trivial⟩
    |own es n cc=>
     have hx0:=hF (Bv s.tm y) (by rw[hp];exact List.mem_singleton_self _)
     rw[hp] at hx0;exact hx0.elim
    |ptr i cc=>
     have hx0:=hF (Bv s.tm y) (by rw[hp];exact List.mem_singleton_self _)
     rw[hp] at hx0;exact hx0.elim
    |iptr i cc=>
     have hx0:=hF (Bv s.tm y) (by rw[hp];exact List.mem_singleton_self _)
     rw[hp] at hx0;exact hx0.elim
    |pbox cc=>
     have hx0:=hF (Bv s.tm y) (by rw[hp];exact List.mem_singleton_self _)
     rw[hp] at hx0;exact hx0.elim
    |tup cc=>
     have hx0:=hF (Bv s.tm y) (by rw[hp];exact List.mem_singleton_self _)
     rw[hp] at hx0;exact hx0.elim
    |ub=>
     have hx0:=hF (Bv s.tm y) (by rw[hp];exact List.mem_singleton_self _)
     rw[hp] at hx0;exact hx0.elim
    |top=>
     have hx0:=hF (Bv s.tm y) (by rw[hp];exact List.mem_singleton_self _)
     rw[hp] at hx0;exact hx0.elim
   obtain⟨h2,h1⟩:=hv m (fun _ hi=>hi) hm _ Agd
   have hvl:=h2.len;have hf:=h.freeze hm;have h0':Af s.hp m id=some (.ar false c):=by rw[Bq,if_neg CY];exact h0
   rcases hf.box id _ h0' with⟨hn,_⟩|⟨b',o',Ee,Gw,Rv,_⟩
   ·rw[hβ] at hn;cases hn
   rw[hβ] at Ee;simp at Ee;obtain⟨rfl,rfl⟩:=Ee
   have Cm:∀i,i<(a.eval y).cells.toList.length->(w.cell? ⟨b,ob+off+i,none⟩).isSome=true:=by
    intro i hi;obtain⟨v,hv,_⟩:=Gw (off+i) _ (List.getElem?_eq_getElem (by omega))
    rw[D4] at hv;rw[Nat.add_assoc,hv];rfl
   have Ch:=Wc (P:=P) (t:=t) (w:=w) (b:=b) (j:=ob+off) (v:=a.eval y) (by rw[K1,←Ajw,←J6,hvl];simp) Cm (fun i hi=>by
    obtain⟨u,hu⟩:=Option.isSome_iff_exists.1 (Cm i hi);exact Rv rfl _ (by omega) (Zl hu)) h1
   refine⟨_,hk,fun next Q hn=>run Cv Ch next Q (hn _ _ β ?_)⟩
   refine hf.write h0' trivial trivial hβ (De.setCells b _ _ w) ?_ (fun cells hx=>by cases hx) (fun _ hx=>by cases hx) (fun j hj=>hj) (fun j hj=>by
    refine World.cell?_setCells_out b _ _ w ⟨b,j,none⟩ (fun _ _=>?_)
    have hj:¬(ob<=j):=hj;show j<ob+off∨ob+off+_<=j;omega)
   have E8:B2 (Ct (Af s.hp m) β Y) w (w.setCells b (ob+off) (a.eval y).cells.toList):=by
    have hw:=De.setCells b (a.eval y).cells.toList (ob+off) w;have hAb:Ct (Af s.hp m) β Y b:=.inl ⟨id,ob,by rw[h0'];trivial,hβ⟩
    exact⟨by rw[hw.size];exact Nat.le_refl _,fun k _ hk=>hw.other k (fun e=>hk (e ▸ hAb)),fun k _=>hw.grow k⟩
   refine .inr ⟨b,ob,hβ,fun j p hj=>?_,fun _ j hj Om=>?_,(fun x=>by cases x)⟩
   ·rw[D4];rcases Nt (by omega) hj with⟨h3,h4,h5⟩|⟨h3,h5⟩
    ·obtain⟨u,hu,hcu⟩:=h2.get h5;have B4:j-off<(a.eval y).cells.toList.length:=by omega
     refine⟨u,?_,h1 u (List.mem_of_getElem? hu),hcu.step E8 (fun _ _ x=>x)⟩
     have:=World.cell?_setCells_in b (a.eval y).cells.toList (ob+off) w Cm (j-off) B4;rw[show ob+j=ob+off+(j-off) from by omega,this]
     rw[List.getElem?_eq_getElem B4] at hu;exact hu
    ·obtain⟨v,hv,h6,We⟩:=Gw j p h5;rw[D4] at hv;refine⟨v,?_,h6,We.step E8 (fun _ _ x=>x)⟩
     rw[World.cell?_setCells_out b _ _ w ⟨b,ob+j,none⟩ (fun _ _=>by show ob+j<ob+off∨ob+off+_<=ob+j;omega)]
     exact hv
   ·rw[(De.setCells b _ _ w).bs] at Om;rw[(De.setCells b _ _ w).frz];exact Rv rfl j hj Om
  ·cases hk
 ·cases hk
end
open Go.RowKit
theorem G2:∀{l l':List Nat},Dq (l++l')=true->Dq l=true∧Dq l'=true∧∀i∈l,i ∉ l'
 |[],l',h=>⟨rfl,h,by simp⟩
 |a::l,l',h=>by
  simp only[List.cons_append,Dq,Bool.and_eq_true,Bool.not_eq_true'] at h;obtain⟨h1,h2⟩:=h;obtain⟨h3,h4,h5⟩:=G2 h2
  have hn:∀i∈l++l',a≠i:=by
   rintro i hi rfl
   have:(l++l').any (Nat.beq a)=true:=List.any_eq_true.2 ⟨a,hi,Nat.beq_refl a⟩;rw[this] at h1;cases h1
  refine⟨?_,h4,fun i hi=>?_⟩
  ·simp only[Dq,Bool.and_eq_true,Bool.not_eq_true',h3,and_true];rw[List.any_eq_false];intro i hi e;exact hn i (by simp[hi]) (Nat.eq_of_beq_eq_true e)
  ·rcases List.mem_cons.1 hi with rfl|hi
   ·exact fun hm=>hn i (by simp[hm]) rfl
   ·exact h5 i hi
def Fy (β:Bt)(q:Nat × Nat):Option (Nat × Nat):=(β q.1).map fun p=>(p.1,p.2+q.2)
theorem OL (β:Bt)(id:Nat):Fy β (id,0)=β id:=by
 unfold Fy;cases β id<;>rfl
section
variable {R:Type} {r:R} {P:Program} {N:Nat} {w0:World} {X0:Gq} {Y:Nat->Prop} {β β':Bt} {s:St} {a:Act} {w w':World} {o:Oper} {A:Nat->Prop}
theorem Kj {fz:List Nat}{b:Nat}(h:Ct (Af s.hp fz) β Y b):Ct s.hp β Y b:=h.imp Mg id
theorem Aa7 (h:Cj N w0 X0 Y β s a w){mv:Bool}{t:CT}{p:PV}{K:PV->List Nat->List Nat->Option R}(hk:VI mv s.hp t p K=some r):
  ∃c m q,K c m (Option.toList q)=some r∧isA c∧BM p∧(∀id∈m,∃f cc,s.hp id=some (.ar f cc))∧(∀id,q=some id->∃cc,s.hp id=some (.ar false cc)) ∧
   ∀fz:List Nat,(∀id∈m,id∈fz)->(∀id∈fz,∃f cc,s.hp id=some (.ar f cc))->∀v,Bu w (Ct s.hp β Y) β p v->Fd w (Ct (Af s.hp fz) β Y) (q.bind β) c v:=by
 have frz:∀{t:CT} {p:PV} {K:PV->List Nat->List Nat->Option R},(K9 (Hl s.hp) t p fun c m=>K c m [])=some r->∃c m q,K c m (Option.toList q)=some r∧isA c∧BM p∧(∀id∈m,∃f cc,s.hp id=some (.ar f cc))∧(∀id,q=some id->∃cc,s.hp id=some (.ar false cc)) ∧
   ∀fz:List Nat,(∀id∈m,id∈fz)->(∀id∈fz,∃f cc,s.hp id=some (.ar f cc))->∀v,Bu w (Ct s.hp β Y) β p v->Fd w (Ct (Af s.hp fz) β Y) (q.bind β) c v:=by
  intro t p K hk;obtain⟨c,m,hk,hT,hF,hm,hv⟩:=Yi h hk;exact⟨c,m,none,hk,.inl hT,hF,hm,by simp,fun fz h1 h2 v hc=>H7 hT (hv fz h1 h2 v hc).1⟩
 have tree:∀{t:CT} {p:PV} {K:PV->List Nat->List Nat->Option R},(∀es,t ≠ .sl es)->(Uh t p fun c=>K c [] [])=some r->∃c m q,K c m (Option.toList q)=some r∧isA c∧BM p∧(∀id∈m,∃f cc,s.hp id=some (.ar f cc))∧(∀id,q=some id->∃cc,s.hp id=some (.ar false cc)) ∧
   ∀fz:List Nat,(∀id∈m,id∈fz)->(∀id∈fz,∃f cc,s.hp id=some (.ar f cc))->∀v,Bu w (Ct s.hp β Y) β p v->Fd w (Ct (Af s.hp fz) β Y) (q.bind β) c v:=by
  intro t p K Ec hk;obtain⟨c,hk,hT,Ze,hv⟩:=J0 hk;exact⟨c,[],none,hk,.inl hT,Nu Ze,by simp,by simp,fun fz h1 h2 v hc=>H7 hT ((hv w _ β v hc).1.step (B2.refl _ _) (fun b _ hb=>Kj hb))⟩
 unfold VI at hk;cases t with
 |sl es=>
  dsimp only at hk;cases mv<;>simp only[cond_true,cond_false] at hk
  ·exact frz hk
  ·split at hk
   ·rename_i id es' off n;split at hk
    ·rename_i c h0;cases hb:(Nat.beq es' es&&Nat.beq off 0)<;>rw[hb] at hk<;>simp only[cond_true,cond_false] at hk
     ·exact frz hk
     ·simp only[Bool.and_eq_true] at hb;have he:=Nat.eq_of_beq_eq_true hb.1;have hof:=Nat.eq_of_beq_eq_true hb.2;subst he hof;obtain⟨hl,hk⟩:=Aj hk;refine⟨_,[],some id,hk,.inr ⟨_,_,_,rfl⟩,trivial,by simp,fun i hi=>by cases hi;exact⟨c,h0⟩,fun fz h1 h2 v hc=>?_⟩
      rcases hc with⟨h3,_,rfl,h4⟩|⟨b,ob,x,cap,h3,h4,hx,h5,h6,h7⟩
      ·exact .inl ⟨h3,rfl,by simp,h4⟩
      ·have hx:x=ob:=by rcases hx with e|⟨_,e⟩<;>omega
       subst hx;rcases h.box id _ h0 with⟨h8,_⟩|⟨b',o',h8,h9,h10,_⟩
       ·rw[h3] at h8;cases h8
       ·rw[h3] at h8;cases h8;refine .inr ⟨b,x,cap,h3,h4,h5,h6,h7,fun j p hj=>?_,h10 rfl⟩
        rw[List.getElem?_take] at hj;split at hj
        ·obtain⟨u,hu,h11,ht⟩:=h9 j p hj;exact⟨u,hu,h11,ht.step (B2.refl _ _) (fun b _ hb=>Kj hb)⟩
        ·cases hj
    ·exact frz hk
   ·obtain⟨z,n,c,hk,hp⟩:=Ep hk;have hpF:BM p:=by rcases hp with e|⟨e,_⟩<;>(rw[e];trivial)
    cases z<;>simp only[cond_true,cond_false] at hk
    ·refine⟨_,[],none,hk,.inl trivial,hpF,by simp,by simp,fun fz h1 h2 v hc=>?_⟩
     exact H7 trivial ((Rg hp hc).step (B2.refl _ _) (fun b _ hb=>Kj hb))
    ·refine⟨_,[],none,hk,.inr ⟨_,_,_,rfl⟩,hpF,by simp,by simp,fun fz h1 h2 v hc=>.inl ⟨rfl,rfl,rfl,none,?_⟩⟩
     have:=Rg hp hc;cases this;rfl
 |int k=>exact tree (by simp) hk
 |bool=>exact tree (by simp) hk
 |str=>exact tree (by simp) hk
 |any=>exact tree (by simp) hk
theorem Qf (h:Cj N w0 X0 Y β s a w){mv:Bool}:∀{ts:List CT}{ps:List PV}{K:List PV->List Nat->List Nat->Option R},Vu mv s.hp ts ps K=some r ->
  ∃cs m x,∃q:Nat->Option Nat,K cs m x=some r∧cs.length=ts.length∧ps.length=ts.length∧(∀c∈cs,isA c)∧(∀p∈ps,BM p)∧(∀id∈m,∃f cc,s.hp id=some (.ar f cc))∧(∀id∈x,∃cc,s.hp id=some (.ar false cc)) ∧
   (∀j id,q j=some id->id∈x)∧(Dq x=true->∀j j' id,q j=some id->q j'=some id->j=j') ∧
   ∀fz:List Nat,(∀id∈m,id∈fz)->(∀id∈fz,∃f cc,s.hp id=some (.ar f cc))->∀vs,Bb (Bu w (Ct s.hp β Y) β) ps vs->∀(own:Bt) j0,(∀j,own (j0+j)=(q j).bind β)->D6 w (Ct (Af s.hp fz) β Y) own j0 cs vs
 |[],[],K,hk=>⟨[],[],[],fun _=>none,hk,rfl,rfl,by simp,by simp,by simp,by simp,by simp,by simp,fun fz _ _ vs hv own j0 _=>by
   cases vs with
   |nil=>trivial
   |cons v vs=>exact hv.elim⟩
 |[],_::_,K,hk=>by cases hk
 |_::_,[],K,hk=>by cases hk
 |t::ts,p::ps,K,hk=>by
  unfold Vu at hk;obtain⟨c,m,q,hk,hA,hF,hm,hq,hv⟩:=Aa7 h hk;obtain⟨cs,ms,xs,qs,hk,hl,Ib,hAs,hFs,Z9,BB,hqx,hqi,Of⟩:=Qf h hk;refine⟨c::cs,m++ms,q.toList++xs,fun j=>match j with|0=>q|j+1=>qs j,hk,by simp[hl],by simp[Ib],?_,?_,?_,?_,?_,?_,?_⟩
  ·intro x hx;rcases List.mem_cons.1 hx with rfl|hx
   ·exact hA
   ·exact hAs x hx
  ·intro x hx;rcases List.mem_cons.1 hx with rfl|hx
   ·exact hF
   ·exact hFs x hx
  ·intro i hi;rcases List.mem_append.1 hi with hi|hi
   ·exact hm i hi
   ·exact Z9 i hi
  ·intro i hi;rcases List.mem_append.1 hi with hi|hi
   ·exact hq i (by simpa using hi)
   ·exact BB i hi
  ·intro j id hj;cases j with
   |zero=>exact List.mem_append.2 (.inl (by simpa using hj))
   |succ j=>exact List.mem_append.2 (.inr (hqx j id hj))
  ·intro hn j j' id hj Om;obtain⟨_,h2,h3⟩:=G2 hn;cases j with
   |zero=>
    cases j' with
    |zero=>rfl
    |succ j'=>exact absurd (hqx j' id Om) (h3 id (by simpa using hj))
   |succ j=>
    cases j' with
    |zero=>exact absurd (hqx j id hj) (h3 id (by simpa using Om))
    |succ j'=>rw[hqi h2 j j' id hj Om]
  ·intro fz h1 h2 vs h3 own j0 Fa;cases vs with
   |nil=>exact h3.elim
   |cons v vs=>
    refine⟨?_,Of fz (fun i hi=>h1 i (by simp[hi])) h2 vs h3.2 own (j0+1) fun j=>?_⟩
    ·have:=Fa 0;rw[Nat.add_zero] at this;rw[this];exact hv fz (fun i hi=>h1 i (by simp[hi])) h2 v h3.1
    ·have:=Fa (j+1);rw[show j0+1+j=j0+(j+1) by omega]
     exact this
def LOk (hp:Nat->Option Bk)(q:Option (Nat × Nat)) (p:PV)(x:Fl):Prop:=
 match x with
 |.var id off cts ws=>p=.pbox ws∧q=some (id,off)∧cts.length=ws.length∧∃c,hp id=some (.st c)∧off+ws.length<=c.length
 |.row id=>(∃ps,p=.tup ps)∧q=some (id,0)∧∃c,hp id=some (.ar false c)
 |.none=>(∃ps,p=.tup ps)∧q=none
theorem TJ {hp:Nat->Option Bk}{q:Option (Nat × Nat)} {p:PV}{x:Fl}(h:LOk hp q p x):Uc p=true:=by
 cases x with
 |var id off cts ws=>rw[h.1];rfl
 |row id=>obtain⟨⟨_,e⟩,_⟩:=h;rw[e];rfl
 |none=>obtain⟨⟨_,e⟩,_⟩:=h;rw[e];rfl
def Lv (hp:Nat->Option Bk)(src:Nat->Nat->Option (Nat × Nat)):Nat->List PV->List Fl->Prop
 |_,[],l=>l=[]
 |i,p::ps,l=>(Uc p=false∧src i 0=none∧Lv hp src (i+1) ps l)∨∃x l',l=x::l'∧LOk hp (src i 0) p x∧Lv hp src (i+1) ps l'
theorem PN (h:Cj N w0 X0 Y β s a w){C:Fu}{f:FuncId}{i:Nat}{t:TypeId}{x:Operand}{K:PV->List Nat->List Nat->List Fl->Option R}(hk:Ue C P f s.hp i t (Bv s.tm x) K=some r):
  ∃v m y l,∃src:Nat->Option (Nat × Nat),K v m y l=some r∧(∀id∈m,∃f cc,s.hp id=some (.ar f cc))∧(∀id∈y,∃cc,s.hp id=some (.ar false cc)) ∧
   (∀j id off,src (j+1)=some (id,off)->off=0∧id∈y)∧(Dq y=true->∀j j' id off off',src (j+1)=some (id,off)->src (j'+1)=some (id,off')->j=j') ∧
   ((l=[]∧Uc v=false∧src 0=none)∨∃x',l=[x']∧LOk s.hp (src 0) v x') ∧
   ∀fz:List Nat,(∀id∈m,id∈fz)->(∀id∈fz,∃f cc,s.hp id=some (.ar f cc))->∀bt:Bt,(∀j,bt j=(src j).bind (Fy β))->NP w (Ct (Af s.hp fz) β Y) bt v (a.eval x):=by
 have hx:=Cn h x
 have Sj:∀(q0:Option (Nat × Nat)) (q:Nat->Option Nat),∃src:Nat->Option (Nat × Nat),src 0=q0∧(∀j,src (j+1)=(q j).map fun id=>(id,0)):=
  fun q0 q=>⟨fun j=>match j with|0=>q0|j+1=>(q j).map fun id=>(id,0),rfl,fun _=>rfl⟩
 have JW:∀{src:Nat->Option (Nat × Nat)} {q:Nat->Option Nat} {y:List Nat},(∀j,src (j+1)=(q j).map fun id=>(id,0))->(∀j id,q j=some id->id∈y)->∀j id off,src (j+1)=some (id,off)->off=0∧id∈y:=by
  intro src q y h1 h2 j id off hj;rw[h1] at hj;cases hq:q j with
  |none=>rw[hq] at hj;cases hj
  |some k=>rw[hq] at hj;cases hj;exact⟨rfl,h2 j _ hq⟩
 have MJ:∀{src:Nat->Option (Nat × Nat)} {q:Nat->Option Nat} {y:List Nat},(∀j,src (j+1)=(q j).map fun id=>(id,0))->(Dq y=true->∀j j' id,q j=some id->q j'=some id->j=j') ->
   Dq y=true->∀j j' id off off',src (j+1)=some (id,off)->src (j'+1)=some (id,off')->j=j':=by
  intro src q y h1 h2 hn j j' id off off' hj Om;rw[h1] at hj Om;cases hq:q j with
  |none=>rw[hq] at hj;cases hj
  |some k=>
   cases Ex:q j' with
   |none=>rw[Ex] at Om;cases Om
   |some k'=>
    rw[hq] at hj;rw[Ex] at Om;cases hj;cases Om;exact h2 hn j j' _ hq Ex
 have Fa:∀{src:Nat->Option (Nat × Nat)} {q:Nat->Option Nat} {bt:Bt},(∀j,src (j+1)=(q j).map fun id=>(id,0))->(∀j,bt j=(src j).bind (Fy β))->∀j,bt (1+j)=(q j).bind β:=by
  intro src q bt h1 h2 j;rw[Nat.add_comm,h2,h1];cases q j with
  |none=>rfl
  |some id=>exact OL β id
 unfold Ue at hk;split at hk
 ·rename_i e he;split at hk
  ·rename_i id off ep;rw[ep] at hx;split at hk
   ·rename_i c h0;obtain⟨hb,hk⟩:=Aj hk;simp only[Bool.and_eq_true,decide_eq_true_eq] at hb;obtain⟨cs,m,y,q,hk,hl,Ib,hA,hF,hm,hy,Qw,J5,hv⟩:=Qf h hk;obtain⟨src,NZ,hs⟩:=Sj (some (id,off)) q;obtain⟨b,ob,hβ,Cv⟩:=hx;refine⟨_,m,y,_,src,hk,hm,hy,JW hs Qw,MJ hs J5,.inr ⟨_,rfl,rfl,NZ,hl.symm,c,h0,by omega⟩,fun fz h1 h2 bt Rl=>?_⟩
    obtain⟨b',o',Ee,Gw,Rv⟩:=h.box id _ h0;rw[hβ] at Ee;cases Ee;have Dc:((c.drop off).take (Gr P e).length).length=(Gr P e).length:=by simp;omega
    have Acv:∀j p,((c.drop off).take (Gr P e).length)[j]?=some p->c[off+j]?=some p∧j<(Gr P e).length:=by
     intro j p hj;rw[List.getElem?_take] at hj;split at hj
     ·rw[List.getElem?_drop] at hj;exact⟨hj,by assumption⟩
     ·cases hj
    refine⟨b,ob+off,by rw[Rl,NZ];simp[Fy,hβ],Cv,hA,((c.drop off).take (Gr P e).length).mapIdx (fun j _=>(w.cell? ⟨b,ob+off+j,none⟩).getD undef),hv fz h1 h2 _ ?_ bt 1 (Fa hs Rl),?_,fun k hk=>?_⟩
    ·refine Bb.of_at (by simp) fun j p v hp hv=>?_
     obtain⟨hc,_⟩:=Acv j p hp;obtain⟨u,hu,LK⟩:=Gw _ _ hc;rw[List.getElem?_mapIdx,hp,Option.map_some,Nat.add_assoc,hu] at hv;simp at hv;subst hv;exact LK
    ·intro k v TX;rw[List.getElem?_mapIdx] at TX;cases hp:((c.drop off).take (Gr P e).length)[k]? with
     |none=>rw[hp] at TX;cases TX
     |some p=>
      obtain⟨hc,_⟩:=Acv k p hp;obtain⟨u,hu,LK⟩:=Gw _ _ hc;rw[hp,Option.map_some,Nat.add_assoc,hu] at TX;simp at TX;subst TX;rw[Nat.add_assoc];exact hu
    ·rw[Nat.add_assoc];exact Rv _ (by omega)
   ·cases hk
  ·cases hk
 ·cases hln:C.lnd f i<;>rw[hln] at hk<;>simp only[cond_true,cond_false] at hk
  ·cases E6:B0 P t<;>rw[E6] at hk<;>simp only[cond_true,cond_false] at hk
   ·obtain⟨cs,m,y,q,hk,hl,Ib,hA,hF,hm,hy,Qw,J5,hv⟩:=Qf h hk;obtain⟨c,t',rfl,hk⟩:=A6 hk;obtain⟨rfl,hk⟩:=C6 hk;obtain⟨src,NZ,hs⟩:=Sj none q;have hAc:=hA c (by simp)
    refine⟨c,m,y,_,src,hk,hm,hy,JW hs Qw,MJ hs J5,.inl ⟨rfl,Af3 hAc,NZ⟩,fun fz h1 h2 bt Rl=>?_⟩
    have hFx:=hF _ (List.mem_singleton_self _)
    have hxc:Bu w (Ct s.hp β Y) β (Bv s.tm x) (a.eval x):=by
     cases hp:Bv s.tm x<;>rw[hp] at hx hFx<;>first|exact hx|exact hFx.elim
    have hoc:=(hv fz h1 h2 [a.eval x] ⟨hxc,trivial⟩ bt 1 (Fa hs Rl)).1;rcases hAc with hT|⟨es,n,cc,rfl⟩
    ·cases c<;>first|exact⟨.inl trivial,hoc⟩|exact hT.elim
    ·exact⟨.inr ⟨_,_,_,rfl⟩,hoc⟩
   ·obtain⟨ps,ep,hk⟩:=F2 hk;rw[ep] at hx;obtain⟨vs,Cv,h3⟩:=hx;obtain⟨cs,m,y,q,hk,hl,Ib,hA,hF,hm,hy,Qw,J5,hv⟩:=Qf h hk;obtain⟨src,NZ,hs⟩:=Sj none q;refine⟨_,m,y,_,src,hk,hm,hy,JW hs Qw,MJ hs J5,.inl ⟨rfl,rfl,NZ⟩,fun fz h1 h2 bt Rl=>?_⟩
    exact⟨vs,Cv,hA,hv fz h1 h2 vs h3 bt 1 (Fa hs Rl)⟩
  ·obtain⟨e,he,hk⟩:=B3 hk;unfold Aay at hk;split at hk
   ·rename_i id es' off n ep;rw[ep] at hx;split at hk
    ·rename_i c h0;obtain⟨hb,D8⟩:=Aj hk;simp only[Bool.and_eq_true] at hb;have he:=Nat.eq_of_beq_eq_true hb.1;have hof:=Nat.eq_of_beq_eq_true hb.2;subst hof;obtain⟨src,NZ,hs⟩:=Sj (some (id,0)) (fun _=>none)
     refine⟨_,[],[],_,src,D8,by simp,by simp,JW hs (by simp),MJ hs (by simp),.inr ⟨_,rfl,⟨_,rfl⟩,NZ,c,h0⟩,fun fz h1 h2 bt Rl=>⟨_,_,_,rfl,?_⟩⟩
     have BU:bt 0=β id:=by rw[Rl,NZ];exact OL β id
     rw[BU];rcases hx with⟨h3,_,h4,h5⟩|⟨b,ob,y,cap,h3,h4,hy,h5,h6,h7⟩
     ·refine .inl ⟨h3,h4,?_,h5⟩;rcases h.box id _ h0 with⟨_,h8⟩|⟨_,_,h8,_⟩
      ·exact h8
      ·rw[h3] at h8;cases h8
     ·have hy:y=ob:=by rcases hy with e|⟨_,e⟩<;>omega
      subst hy;rcases h.box id _ h0 with⟨h8,_⟩|⟨b',o',h8,h9,h10,_⟩
      ·rw[h3] at h8;cases h8
      ·rw[h3] at h8;cases h8;exact .inr ⟨b,y,cap,h3,h4,h5,by rw[←he];exact h6,h7,h9.weak (fun b _ hb=>Kj hb),h10 rfl⟩
    ·cases hk
   ·obtain⟨z,n,c,hk,hp⟩:=Ep hk;obtain⟨hz,hk⟩:=Aj hk;subst hz;obtain⟨src,NZ,hs⟩:=Sj none (fun _=>none)
    have hu:a.eval x=.slice none 0 0:=by
     have hF:Bu w (Ct s.hp β Y) β (Bv s.tm x) (a.eval x):=by rcases hp with e|⟨e,_⟩<;>rw[e] at hx ⊢ <;> exact hx
     have:=Rg hp hF;generalize a.eval x=u at this;cases this;rfl
    refine⟨_,[],[],_,src,hk,by simp,by simp,JW hs (by simp),MJ hs (by simp),.inr ⟨_,rfl,⟨_,rfl⟩,NZ⟩,fun fz h1 h2 bt Rl=>⟨_,_,_,rfl,.inl ⟨by rw[Rl,NZ];rfl,rfl,rfl,none,hu⟩⟩⟩
structure A0r (i0 n:Nat) (src:Nat->Nat->Option (Nat × Nat)) (ids x:List Nat):Prop where
 dom:∀i j q,src i j=some q->i0<=i∧i<i0+n
 lent:∀i id off,src i 0=some (id,off)->id∈ids
 mvd:∀i j id off,src i (j+1)=some (id,off)->off=0∧id∈x
 inj0:Dq ids=true->∀i i' id off off',src i 0=some (id,off)->src i' 0=some (id,off')->i=i'
 inj1:Dq x=true->∀i i' j j' id off off',src i (j+1)=some (id,off)->src i' (j'+1)=some (id,off')->i=i'∧j=j'
theorem R9 {hp:Nat->Option Bk}{src src':Nat->Nat->Option (Nat × Nat)}:∀{ps:List PV}{i:Nat}{l:List Fl},(∀k,i<=k->src' k=src k)->Lv hp src i ps l->Lv hp src' i ps l
 |[],_,_,_,h=>h
 |p::ps,i,l,hs,h=>by
  rcases h with⟨h1,h2,h3⟩|⟨x,l',rfl,h2,h3⟩
  ·exact .inl ⟨h1,by rw[hs i (Nat.le_refl _)];exact h2,R9 (fun k hk=>hs k (by omega)) h3⟩
  ·exact .inr ⟨x,l',rfl,by rw[hs i (Nat.le_refl _)];exact h2,R9 (fun k hk=>hs k (by omega)) h3⟩
theorem V6 {bt bt':Ud}:∀{ps:List PV}{us:List Value}{i:Nat},(∀k,i<=k->∀j,bt' k j=bt k j)->Il w A bt i ps us->Il w A bt' i ps us
 |[],[],_,_,_=>trivial
 |[],_::_,_,_,h=>h.elim
 |_::_,[],_,_,h=>h.elim
 |_::_,_::_,i,hb,h=>⟨by rw[show bt' i=bt i from funext (hb i (Nat.le_refl _))];exact h.1,V6 (fun k hk=>hb k (by omega)) h.2⟩
theorem DF (h:Cj N w0 X0 Y β s a w){C:Fu}{f:FuncId}:∀{ts:List TypeId}{xs:List Operand}{i:Nat}{K:List PV->List Nat->List Nat->List Fl->Option R},DH C P f s.hp i ts (xs.map (Bv s.tm)) K=some r ->
  ∃vs m y l,∃src:Nat->Nat->Option (Nat × Nat),K vs m y l=some r∧(∀id∈m,∃f cc,s.hp id=some (.ar f cc))∧(∀id∈y,∃cc,s.hp id=some (.ar false cc)) ∧
   A0r i xs.length src (l.flatMap Fl.ids) y∧Lv s.hp src i vs l ∧
   ∀fz:List Nat,(∀id∈m,id∈fz)->(∀id∈fz,∃f cc,s.hp id=some (.ar f cc))->∀bt:Ud,(∀i j,bt i j=(src i j).bind (Fy β))->Il w (Ct (Af s.hp fz) β Y) bt i vs (xs.map a.eval)
 |[],[],i,K,hk=>⟨[],[],[],[],fun _ _=>none,hk,by simp,by simp,⟨by simp,by simp,by simp,by simp,by simp⟩,rfl,fun _ _ _ _ _=>trivial⟩
 |[],_::_,i,K,hk=>by cases hk
 |_::_,[],i,K,hk=>by cases hk
 |t::ts,x::xs,i,K,hk=>by
  simp only[List.map_cons] at hk;unfold DH at hk;obtain⟨v,m,y,l,src,hk,hm,hy,XQ,Q9,hl,hv⟩:=PN h hk;obtain⟨vs,ms,ys,ls,srcs,hk,Z9,hys,hS,hL,Of⟩:=DF h hk;have Sj:∃sr:Nat->Nat->Option (Nat × Nat),sr i=src∧∀k,k≠i->sr k=srcs k:=⟨fun k=>if k=i then src else srcs k,by simp,fun k hk=>by simp[hk]⟩
  obtain⟨sr,hsi,SK⟩:=Sj
  have BN:∀id off,src 0=some (id,off)->id∈l.flatMap Fl.ids:=by
   intro id off e;rcases hl with⟨_,_,h3⟩|⟨x',rfl,h3⟩
   ·rw[h3] at e;cases e
   ·cases x' with
    |var id' off' cts ws=>rw[h3.2.1] at e;cases e;simp[Fl.ids]
    |row id'=>rw[h3.2.1] at e;cases e;simp[Fl.ids]
    |none=>rw[h3.2] at e;cases e
  refine⟨v::vs,m++ms,y++ys,l++ls,sr,hk,?_,?_,⟨?_,?_,?_,?_,?_⟩,?_,fun fz h1 h2 bt Rl=>⟨?_,?_⟩⟩
  ·intro i hi;rcases List.mem_append.1 hi with hi|hi
   ·exact hm i hi
   ·exact Z9 i hi
  ·intro i hi;rcases List.mem_append.1 hi with hi|hi
   ·exact hy i hi
   ·exact hys i hi
  ·intro k j q hq;simp only[List.length_cons];by_cases e:k=i
   ·subst e;omega
   ·rw[SK k e] at hq;have:=hS.dom k j q hq;omega
  ·intro k id off hq;rw[List.flatMap_append];by_cases e:k=i
   ·subst e;rw[hsi] at hq;exact List.mem_append.2 (.inl (BN id off hq))
   ·rw[SK k e] at hq;exact List.mem_append.2 (.inr (hS.lent k id off hq))
  ·intro k j id off hq;by_cases e:k=i
   ·subst e;rw[hsi] at hq;exact⟨(XQ j id off hq).1,List.mem_append.2 (.inl (XQ j id off hq).2)⟩
   ·rw[SK k e] at hq;exact⟨(hS.mvd k j id off hq).1,List.mem_append.2 (.inr (hS.mvd k j id off hq).2)⟩
  ·intro hn k k' id off off' hq Ex;rw[List.flatMap_append] at hn;obtain⟨_,h4,h5⟩:=G2 hn;by_cases e:k=i
   ·by_cases e':k'=i
    ·omega
    ·rw[SK k' e'] at Ex;subst e;rw[hsi] at hq;exact absurd (hS.lent k' id off' Ex) (h5 id (BN id off hq))
   ·rw[SK k e] at hq;by_cases e':k'=i
    ·subst e';rw[hsi] at Ex;exact absurd (hS.lent k id off hq) (h5 id (BN id off' Ex))
    ·rw[SK k' e'] at Ex;exact hS.inj0 h4 k k' id off off' hq Ex
  ·intro hn k k' j j' id off off' hq Ex;obtain⟨h3,h4,h5⟩:=G2 hn;by_cases e:k=i
   ·by_cases e':k'=i
    ·subst e;subst e';rw[hsi] at hq Ex;exact⟨rfl,Q9 h3 j j' id off off' hq Ex⟩
    ·rw[SK k' e'] at Ex;subst e;rw[hsi] at hq;exact absurd (hS.mvd k' j' id off' Ex).2 (h5 id (XQ j id off hq).2)
   ·rw[SK k e] at hq;by_cases e':k'=i
    ·subst e';rw[hsi] at Ex;exact absurd (hS.mvd k j id off hq).2 (h5 id (XQ j' id off' Ex).2)
    ·rw[SK k' e'] at Ex;exact hS.inj1 h4 k k' j j' id off off' hq Ex
  ·have Rc:Lv s.hp sr (i+1) vs ls:=R9 (fun k hk=>SK k (by omega)) hL
   rcases hl with⟨rfl,hnp,h3⟩|⟨x',rfl,h3⟩
   ·exact .inl ⟨hnp,by rw[hsi];exact h3,Rc⟩
   ·exact .inr ⟨x',ls,rfl,by rw[hsi];exact h3,Rc⟩
  ·exact hv fz (fun i hi=>h1 i (by simp[hi])) h2 (bt i) (fun j=>by rw[Rl,hsi])
  ·refine Of fz (fun i hi=>h1 i (by simp[hi])) h2 (fun k j=>(srcs k j).bind (Fy β)) (fun _ _=>rfl) |> V6 fun k hk j=>?_
   rw[Rl,SK k (by omega)]
end
open Go.RowKit
section
variable {R:Type} {r:R} {P:Program} {N:Nat} {w0:World} {X0:Gq} {Y:Nat->Prop} {β β':Bt} {s:St} {a:Act} {w w':World} {o:Oper} {A:Nat->Prop}
theorem Abs {p:PV}{u:Value}(h:Ar w A p u):Bu w A β p u:=by
 have h0:=h;cases h<;>exact h0
theorem Abl {t:Nat}{ct:CT}{was p:PV}{K:Nat->PV->List (Nat × Bk)->Option R} (hk:WR N t ct was p K=some r):
  (∃c,K t c []=some r∧Q6 c∧∀w A q u,Fd w A q p u->Ar w A c u)∨∃es n cc,p=.own es n cc∧K (t+1) (.view (OE N t) es 0 n) [(OE N t,.ar false cc)]=some r:=by
 have tree:∀t',(Uh t' p fun c=>K t c [])=some r->∃c,K t c []=some r∧Q6 c∧∀w A q u,Fd w A q p u->Ar w A c u:=by
  intro t' hk;obtain⟨c,hk,hT,Ze,hv⟩:=J0 hk;refine⟨c,hk,hT,fun w A q u h=>(hv w A (fun _=>none) u ?_).1⟩
  cases p<;>first|exact h|exact Ze.elim
 unfold WR at hk;cases ct with
 |sl es=>
  dsimp only at hk;split at hk
  ·unfold OC at hk;split at hk
   ·rename_i es' n c;cases hb:Nat.beq es' es<;>rw[hb] at hk
    ·cases hk
    ·have:=Nat.eq_of_beq_eq_true hb;subst this;exact .inr ⟨_,_,_,rfl,hk⟩
   ·cases hk
  ·have h2:(Uh (.sl es) p fun c=>(match c with | .lst _ es n c=>K t (.lst false es n c) []|_=>none))=some r:=hk
   obtain⟨c,hk,hT,Ze,hv⟩:=J0 h2;split at hk
   ·refine .inl ⟨_,hk,hT,fun w A q u h=>Ar.unz (hv w A (fun _=>none) u ?_).1⟩
    cases p<;>first|exact h|exact Ze.elim
   ·cases hk
 |int k=>exact .inl (tree _ hk)
 |bool=>exact .inl (tree _ hk)
 |str=>exact .inl (tree _ hk)
 |any=>exact .inl (tree _ hk)
theorem Um:∀{cts:List CT}{ws ps:List PV}{t:Nat}{K:Nat->List PV->List (Nat × Bk)->Option R},EL N t cts ws ps K=some r ->
  ∃t' cs bs,∃qs:List (Nat × Nat),K t' cs bs=some r∧cs.length=ps.length∧ps.length=ws.length∧bs.map (·.1)=qs.map (·.1)∧(∀q∈qs,(∃k,q.1=OE N k)∧q.2<ps.length)∧(∀q∈qs,∀q'∈qs,q.2=q'.2->q.1=q'.1) ∧
   (∀i bx,(i,bx)∈bs->∃c,bx=.ar false c)∧(∀c∈cs,∀i∈Am c,∃bx,(i,bx)∈bs) ∧
   ∀(w:World) (A:Nat->Prop) (own β':Bt) (j0:Nat) (us:List Value),(∀q∈qs,β' q.1=own (j0+q.2))->D6 w A own j0 ps us->Bb (Bu w A β') cs us∧∀i bx,(i,bx)∈bs->Nf w A β' i bx
 |[],[],ps,t,K,hk=>by
  obtain⟨rfl,hk⟩:=C6 hk;refine⟨t,[],[],[],hk,rfl,rfl,rfl,by simp,by simp,by simp,by simp,fun w A own β' j0 us _ h=>⟨?_,by simp⟩⟩
  cases us with
  |nil=>trivial
  |cons u us=>exact h.elim
 |[],_::_,_,_,_,hk=>by cases hk
 |_::_,[],_,_,_,hk=>by cases hk
 |ct::cts,x::ws,ps,t,K,hk=>by
  unfold EL at hk;obtain⟨p,ps',Wx,Dn⟩:=A6 hk;subst Wx;rcases Abl Dn with⟨c,D8,hT,hv⟩|⟨es,n,cc,rfl,D8⟩
  ·obtain⟨t',cs,bs,qs,I1,hl,Ib,hb,Qw,J5,Ee,Gw,Of⟩:=Um D8;refine⟨t',c::cs,bs,qs.map (fun q=>(q.1,q.2+1)),I1,by simp[hl],by simp[Ib],by rw[hb];simp,?_,?_,Ee,?_,fun w A own β' j0 us hβ ho=>?_⟩
   ·intro q hq;obtain⟨q0,Qq,rfl⟩:=List.mem_map.1 hq;exact⟨(Qw q0 Qq).1,by have:=(Qw q0 Qq).2;simp only[List.length_cons];omega⟩
   ·intro q hq q' Ex e;obtain⟨q0,Qq,rfl⟩:=List.mem_map.1 hq;obtain⟨q1,Hg,rfl⟩:=List.mem_map.1 Ex;exact J5 q0 Qq q1 Hg (by simp only at e;omega)
   ·intro y hy i hi;rcases List.mem_cons.1 hy with rfl|hy
    ·rw[Gd hT] at hi;cases hi
    ·exact Gw y hy i hi
   ·cases us with
    |nil=>exact ho.elim
    |cons u us=>
     obtain⟨h1,h2⟩:=Of w A own β' (j0+1) us (fun q hq=>by rw[hβ _ (List.mem_map_of_mem hq)];congr 1;simp only;omega) ho.2
     exact⟨⟨Abs (hv w A _ u ho.1),h1⟩,h2⟩
  ·obtain⟨t',cs,bs,qs,I1,hl,Ib,hb,Qw,J5,Ee,Gw,Of⟩:=Um D8;refine⟨t',_::cs,(OE N t,.ar false cc)::bs,(OE N t,0)::qs.map (fun q=>(q.1,q.2+1)),I1,by simp[hl],by simp[Ib],by simp only[List.map_cons,hb];simp,?_,?_,?_,?_,fun w A own β' j0 us hβ ho=>?_⟩
   ·intro q hq;rcases List.mem_cons.1 hq with rfl|hq
    ·exact⟨⟨t,rfl⟩,by simp⟩
    ·obtain⟨q0,Qq,rfl⟩:=List.mem_map.1 hq;exact⟨(Qw q0 Qq).1,by have:=(Qw q0 Qq).2;simp only[List.length_cons];omega⟩
   ·intro q hq q' Ex e;rcases List.mem_cons.1 hq with rfl|hq
    ·rcases List.mem_cons.1 Ex with rfl|Ex
     ·rfl
     ·obtain⟨q0,Qq,rfl⟩:=List.mem_map.1 Ex;simp only at e;omega
    ·obtain⟨q0,Qq,rfl⟩:=List.mem_map.1 hq;rcases List.mem_cons.1 Ex with rfl|Ex
     ·simp only at e;omega
     ·obtain⟨q1,Hg,rfl⟩:=List.mem_map.1 Ex;exact J5 q0 Qq q1 Hg (by simp only at e;omega)
   ·intro i bx hm;rcases List.mem_cons.1 hm with e|hm
    ·cases e;exact⟨cc,rfl⟩
    ·exact Ee i bx hm
   ·intro y hy i hi;rcases List.mem_cons.1 hy with rfl|hy
    ·simp only[Am,List.mem_singleton] at hi;subst hi;exact⟨_,List.mem_cons_self⟩
    ·obtain⟨bx,I2⟩:=Gw y hy i hi;exact⟨bx,List.mem_cons_of_mem _ I2⟩
   ·cases us with
    |nil=>exact ho.elim
    |cons u us=>
     obtain⟨h1,h2⟩:=Of w A own β' (j0+1) us (fun q hq=>by rw[hβ _ (List.mem_cons_of_mem _ (List.mem_map_of_mem hq))];congr 1;simp only;omega) ho.2
     have h0:=hβ (OE N t,0) List.mem_cons_self;simp only[Nat.add_zero] at h0;refine⟨⟨?_,h1⟩,fun i bx hm=>?_⟩
     ·rcases ho.1 with⟨h3,rfl,_,h5⟩|⟨b,ob,cap,h3,h4,h5,h6,h7,_⟩
      ·exact .inl ⟨h0.trans h3,rfl,rfl,h5⟩
      ·exact .inr ⟨b,ob,ob,cap,h0.trans h3,h4,.inl rfl,h5,h6,h7⟩
     ·rcases List.mem_cons.1 hm with e|hm
      ·cases e;exact S1 ho.1 h0
      ·exact h2 i bx hm
def RG (hp Ck:Nat->Option Bk)(bs:List (Nat × Bk)) (x:Fl):Prop:=
 match x with
 |.var id off _ ws=>∃c cs,hp id=some (.st c)∧Ck id=some (.st (B8 c cs off))∧cs.length=ws.length∧off+cs.length<=c.length∧∀p∈cs,∀i∈Am p,∃bx,(i,bx)∈bs
 |.row id=>∃c cs,hp id=some (.ar false c)∧Ck id=some (.ar false cs)
 |.none=>True
def Ack (β β':Bt)(w':World)(A:Nat->Prop)(hp Ck:Nat->Option Bk)(x:Fl):Prop:=
 match x with
 |.var id off _ ws=>∃c cs,hp id=some (.st c)∧Ck id=some (.st (B8 c cs off))∧cs.length=ws.length∧off+cs.length<=c.length ∧
   ∀b o,β id=some (b,o)->(∀(j:Nat) p,cs[j]?=some p->∃v,w'.cell? ⟨b,o+off+j,none⟩=some v∧Bu w' A β' p v)∧∀j,j<cs.length->w'.frozen? ⟨b,o+off+j,none⟩=false
 |.row id=>∃cs,Ck id=some (.ar false cs)∧((β id=none∧cs=[])∨∃b o,β id=some (b,o)∧NT w' A ⟨b,o,none⟩ cs∧∀j,o<=j->j<bsz w' b->w'.frozen? ⟨b,j,none⟩=false)
 |.none=>True
theorem Ts {hp Cb Ck:Nat->Option Bk}{bs bs1:List (Nat × Bk)} {x:Fl}(h1:∀i∈x.ids,Cb i=hp i)(hb:∀q∈bs,q∈bs1)(h:RG Cb Ck bs x):RG hp Ck bs1 x:=by
 cases x with
 |var id off cts ws=>
  obtain⟨c,cs,h2,h3,h4,h5,h6⟩:=h;refine⟨c,cs,by rw[←h1 id (by simp[Fl.ids])];exact h2,h3,h4,h5,fun p hp i hi=>?_⟩
  obtain⟨bx,I2⟩:=h6 p hp i hi;exact⟨bx,hb _ I2⟩
 |row id=>
  obtain⟨c,cs,h2,h3⟩:=h;exact⟨c,cs,by rw[←h1 id (by simp[Fl.ids])];exact h2,h3⟩
 |none=>trivial
theorem Vr {hp Cb Ck:Nat->Option Bk}{x:Fl}(h1:∀i∈x.ids,Cb i=hp i)(h:Ack β β' w' A Cb Ck x):Ack β β' w' A hp Ck x:=by
 cases x with
 |var id off cts ws=>
  obtain⟨c,cs,h2,h3⟩:=h;exact⟨c,cs,by rw[←h1 id (by simp[Fl.ids])];exact h2,h3⟩
 |row id=>exact h
 |none=>trivial
theorem WS {hp Cb:Nat->Option Bk}{q:Option (Nat × Nat)} {p:PV}{x:Fl}(h1:∀i∈x.ids,Cb i=hp i)(h:LOk hp q p x):LOk Cb q p x:=by
 cases x with
 |var id off cts ws'=>
  obtain⟨h2,h3,h5,c,h6,h7⟩:=h;exact⟨h2,h3,h5,c,by rw[h1 id (by simp[Fl.ids])];exact h6,h7⟩
 |row id=>
  obtain⟨h2,h3,c,h4⟩:=h;exact⟨h2,h3,c,by rw[h1 id (by simp[Fl.ids])];exact h4⟩
 |none=>exact h
theorem Sw {hp Cb:Nat->Option Bk}{src:Nat->Nat->Option (Nat × Nat)}:∀{ps:List PV}{i:Nat}{l:List Fl},(∀i∈l.flatMap Fl.ids,Cb i=hp i)->Lv hp src i ps l->Lv Cb src i ps l
 |[],_,_,_,h=>h
 |p::ps,i,l,hs,h=>by
  rcases h with⟨h1,h2,h3⟩|⟨x,l',rfl,h2,h3⟩
  ·exact .inl ⟨h1,h2,Sw hs h3⟩
  ·exact .inr ⟨x,l',rfl,WS (fun k hk=>hs k (by simp only[List.flatMap_cons,List.mem_append];exact .inl hk)) h2,Sw (fun k hk=>hs k (by simp only[List.flatMap_cons,List.mem_append];exact .inr hk)) h3⟩
theorem OW {own:Bt}{bt:Ud}{j i:Nat}{p:PV}{zs:List PV}{r:List (List PV)} (hp:Uc p=false)(h:Q1 w A own bt j i (p::zs) r):Q1 w A own bt j (i+1) zs r:=by
 cases p<;>first|exact h|cases hp
theorem O6 {src:Nat->Nat->Option (Nat × Nat)} {β:Bt}:∀{zs:List PV}{l:List Fl}{ro:List (List PV)} {i j t:Nat}{hp:Nat->Option Bk}{K:(Nat->Option Bk)->List (Nat × Bk)->Option R},
  R7 N t l ro hp K=some r->Lv hp src i zs l->Dq (l.flatMap Fl.ids)=true ->
  ∃Ck bs,∃qs:List (Nat × Nat),K Ck bs=some r∧bs.map (·.1)=qs.map (·.1)∧(∀q∈qs,(∃k,q.1=OE N k)∧j<=q.2)∧(∀q∈qs,∀q'∈qs,q.2=q'.2->q.1=q'.1)∧(∀i bx,(i,bx)∈bs->∃c,bx=.ar false c) ∧
   (∀i,i ∉ l.flatMap Fl.ids->Ck i=hp i)∧(∀x∈l,RG hp Ck bs x) ∧
   ∀(w':World) (A:Nat->Prop) (own β':Bt) (bt:Ud),(∀q∈qs,β' q.1=own q.2)->(∀i,bt i 0=(src i 0).bind (Fy β))->Q1 w' A own bt j i zs ro ->
    (∀i bx,(i,bx)∈bs->Nf w' A β' i bx)∧∀x∈l,Ack β β' w' A hp Ck x
 |[],l,ro,i,j,t,hp,K,hk,hL,hn=>by
  have hL:l=[]:=hL;subst hL;unfold R7 at hk;obtain⟨rfl,hk⟩:=C6 hk;exact⟨hp,[],[],hk,rfl,by simp,by simp,by simp,fun _ _=>rfl,by simp,fun w' A own β' bt _ _ _=>⟨by simp,by simp⟩⟩
 |p::zs,l0,ro,i,j,t,hp,K,hk,hL0,hn=>by
  rcases hL0 with⟨Sd,_,hL⟩|⟨x,l,rfl,hok,hL⟩
  rotate_left
  ··simp only[List.flatMap_cons] at hn;obtain⟨KH,hn2,hn3⟩:=G2 hn;cases x with
    |var id off cts ws'=>
     obtain⟨rfl,Sj,J6,c,hc,Xc⟩:=hok;unfold R7 at hk;obtain⟨cs,ro',hro,Dn⟩:=A6 hk;subst hro;obtain⟨t',cs',bs,qs,D8,Ya,On,hb,Qw,J5,Ee,Gw,hv⟩:=Um Dn;rw[hc] at D8;simp only at D8;change R7 N t' l ro' (Cg hp id (some (.st (B8 c cs' off)))) (fun Ck bs'=>K Ck (bs++bs'))=some r at D8
     have RL:id ∉ l.flatMap Fl.ids:=hn3 id (by simp[Fl.ids])
     have VH:Lv (Cg hp id (some (.st (B8 c cs' off)))) src (i+1) zs l:=Sw (fun k hkm=>Ai _ _ (fun e=>RL (e ▸ hkm))) hL
     obtain⟨Ck,bs',qs',I1,Gi,Hg,OR,OY,Ix,hsh,IW⟩:=O6 (β:=β) (j:=j+cs.length) D8 VH hn2;have Aco:Ck id=some (.st (B8 c cs' off)):=by rw[Ix id RL,Al]
     have Zh:∀x∈l,∀k∈x.ids,Cg hp id (some (.st (B8 c cs' off))) k=hp k:=fun x hx k hkm=>Ai _ _ (fun e=>RL (e ▸ List.mem_flatMap.2 ⟨x,hx,hkm⟩))
     refine⟨Ck,bs++bs',qs.map (fun q=>(q.1,j+q.2))++qs',I1,by simp only[List.map_append,hb,Gi];simp,?_,?_,?_,?_,?_,fun w' A own β' bt hβ Rl ho=>?_⟩
     ·intro q hq;rcases List.mem_append.1 hq with hq|hq
      ·obtain⟨q0,Qq,rfl⟩:=List.mem_map.1 hq;exact⟨(Qw q0 Qq).1,by simp only;omega⟩
      ·exact⟨(Hg q hq).1,by have:=(Hg q hq).2;omega⟩
     ·intro q hq q' Ex e;rcases List.mem_append.1 hq with hq|hq
      ·obtain⟨q0,Qq,rfl⟩:=List.mem_map.1 hq;have:=(Qw q0 Qq).2;rcases List.mem_append.1 Ex with Ex|Ex
       ·obtain⟨q1,Hg,rfl⟩:=List.mem_map.1 Ex;exact J5 q0 Qq q1 Hg (by simp only at e;omega)
       ·have:=(Hg q' Ex).2;simp only at e;omega
      ·have h5:=(Hg q hq).2;rcases List.mem_append.1 Ex with Ex|Ex
       ·obtain⟨q1,Ap8,rfl⟩:=List.mem_map.1 Ex;have:=(Qw q1 Ap8).2;simp only at e;omega
       ·exact OR q hq q' Ex e
     ·intro k bx hm;rcases List.mem_append.1 hm with hm|hm
      ·exact Ee k bx hm
      ·exact OY k bx hm
     ·intro k hk;simp only[List.flatMap_cons,List.mem_append,not_or] at hk;rw[Ix k hk.2];exact Ai _ _ (by rintro rfl;exact hk.1 (by simp[Fl.ids]))
     ·intro x hx;rcases List.mem_cons.1 hx with rfl|hx
      ·refine⟨c,cs',hc,Aco,by omega,by omega,fun p hp k hk=>?_⟩
       obtain⟨bx,I2⟩:=Gw p hp k hk;exact⟨bx,List.mem_append.2 (.inl I2)⟩
      ·exact Ts (Zh x hx) (fun q hq=>List.mem_append.2 (.inr hq)) (hsh x hx)
     ·obtain⟨⟨b,ob,BU,Dc,vs,hov,Cm,XZ⟩,ho⟩:=ho
      ·obtain⟨h1,h2⟩:=hv w' A own β' j vs (fun q hq=>hβ _ (List.mem_append.2 (.inl (List.mem_map_of_mem hq)))) hov
       obtain⟨h3,h4⟩:=IW w' A own β' bt (fun q hq=>hβ q (List.mem_append.2 (.inr hq))) Rl ho
       refine⟨fun k bx hm=>?_,fun x hx=>?_⟩
       ·rcases List.mem_append.1 hm with hm|hm
        ·exact h2 k bx hm
        ·exact h3 k bx hm
       ·rcases List.mem_cons.1 hx with rfl|hx
        ·refine⟨c,cs',hc,Aco,by omega,by omega,fun b1 o1 hβ1=>?_⟩
         have Gw:=Rl i;rw[BU,Sj] at Gw;simp only[Option.bind_some,Fy,hβ1,Option.map_some,Option.some.injEq,Prod.mk.injEq] at Gw;obtain⟨rfl,rfl⟩:=Gw;refine⟨fun k p hp=>?_,fun k hk=>XZ k (by omega)⟩
         obtain⟨v,hv,LK⟩:=h1.get hp;exact⟨v,Cm k v hv,LK⟩
        ·exact Vr (Zh x hx) (h4 x hx)
    |row id=>
     obtain⟨⟨pz,rfl⟩,Sj,c,hc⟩:=hok;unfold R7 at hk;obtain⟨cs,ro',hro,D8⟩:=A6 hk;subst hro;have RL:id ∉ l.flatMap Fl.ids:=hn3 id (by simp[Fl.ids])
     have VH:Lv (Cg hp id (some (.ar false cs))) src (i+1) zs l:=Sw (fun k hkm=>Ai _ _ (fun e=>RL (e ▸ hkm))) hL
     obtain⟨Ck,bs',qs',I1,Gi,Hg,OR,OY,Ix,hsh,IW⟩:=O6 (β:=β) (j:=j) D8 VH hn2;have Aco:Ck id=some (.ar false cs):=by rw[Ix id RL,Al]
     have Zh:∀x∈l,∀k∈x.ids,Cg hp id (some (.ar false cs)) k=hp k:=fun x hx k hkm=>Ai _ _ (fun e=>RL (e ▸ List.mem_flatMap.2 ⟨x,hx,hkm⟩))
     refine⟨Ck,bs',qs',I1,Gi,Hg,OR,OY,?_,?_,fun w' A own β' bt hβ Rl ho=>?_⟩
     ·intro k hk;simp only[List.flatMap_cons,List.mem_append,not_or] at hk;rw[Ix k hk.2];exact Ai _ _ (by rintro rfl;exact hk.1 (by simp[Fl.ids]))
     ·intro x hx;rcases List.mem_cons.1 hx with rfl|hx
      ·exact⟨c,cs,hc,Aco⟩
      ·exact Ts (Zh x hx) (fun q hq=>hq) (hsh x hx)
     ·obtain⟨UQ,ho⟩:=ho
      ·obtain⟨h3,h4⟩:=IW w' A own β' bt hβ Rl ho;refine⟨h3,fun x hx=>?_⟩
       rcases List.mem_cons.1 hx with rfl|hx
       ·refine⟨cs,Aco,?_⟩;have Gw:=Rl i;rw[Sj] at Gw;simp only[Option.bind_some,OL] at Gw;rw[Gw] at UQ;exact UQ
       ·exact Vr (Zh x hx) (h4 x hx)
    |none=>
     obtain⟨⟨pz,rfl⟩,Sj⟩:=hok;unfold R7 at hk;obtain⟨cs,ro',hro,D8⟩:=A6 hk;subst hro;obtain⟨Ck,bs',qs',I1,Gi,Hg,OR,OY,Ix,hsh,IW⟩:=O6 (β:=β) (j:=j) D8 hL hn2;refine⟨Ck,bs',qs',I1,Gi,Hg,OR,OY,?_,?_,fun w' A own β' bt hβ Rl ho=>?_⟩
     ·intro k hk;simp only[List.flatMap_cons,List.mem_append,not_or] at hk;exact Ix k hk.2
     ·intro x hx;rcases List.mem_cons.1 hx with rfl|hx
      ·trivial
      ·exact hsh x hx
     ·obtain⟨UQ,ho⟩:=ho
      ·obtain⟨h3,h4⟩:=IW w' A own β' bt hβ Rl ho;refine⟨h3,fun x hx=>?_⟩
       rcases List.mem_cons.1 hx with rfl|hx
       ·trivial
       ·exact h4 x hx
  ·obtain⟨Ck,bs',qs',I1,Gi,Hg,OR,OY,Ix,hsh,IW⟩:=O6 (β:=β) (j:=j) hk hL hn;exact⟨Ck,bs',qs',I1,Gi,Hg,OR,OY,Ix,hsh,fun w' A own β' bt hβ Rl ho=>IW w' A own β' bt hβ Rl (OW Sd ho)⟩
end
open Go.RowKit
theorem E4 (hp:Nat->Option Bk)(ids:List Nat)(i:Nat):Ox hp ids i=if i∈ids then (hp i).map (fun _=>Bk.mv) else hp i:=by
 unfold Ox;by_cases hi:i∈ids
 ·have:ids.any (Nat.beq i)=true:=List.any_eq_true.2 ⟨i,hi,Nat.beq_refl i⟩;rw[this,if_pos hi];rfl
 ·have:ids.any (Nat.beq i)=false:=by
   cases hb:ids.any (Nat.beq i)
   ·rfl
   ·obtain⟨j,hj,e⟩:=List.any_eq_true.1 hb;exact absurd (Nat.eq_of_beq_eq_true e ▸ hj) hi
  rw[this,if_neg hi];rfl
theorem Ny:∀{nw:List (Nat × Bk)} {hp:Nat->Option Bk},Bn hp nw=true->(nw.map (·.1)).Nodup
 |[],_,_=>List.nodup_nil
 |(i,b)::r,hp,h=>by
  simp only[Bn,Bool.and_eq_true,Option.isNone_iff_eq_none,Bool.not_eq_true'] at h;simp only[List.map_cons,List.nodup_cons];refine⟨fun hm=>?_,Ny h.2⟩
  obtain⟨q,hq,e⟩:=List.mem_map.1 hm;have:r.any (fun q=>Nat.beq q.1 i)=true:=List.any_eq_true.2 ⟨q,hq,by rw[e];exact Nat.beq_refl i⟩
  rw[this] at h;cases h.1.2
theorem Ace:∀{l:List (Nat × Nat)},(l.map (·.1)).Nodup->∀q∈l,Qu l q.1=some q.2
 |[],_,_,h=>by cases h
 |(j,b)::r,hn,q,hq=>by
  simp only[List.map_cons,List.nodup_cons] at hn;unfold Qu;rcases List.mem_cons.1 hq with rfl|hq
  ·simp only[Nat.beq_refl,cond_true]
  ·have:Nat.beq q.1 j=false:=by
    cases hb:Nat.beq q.1 j
    ·rfl
    ·exact absurd (Nat.eq_of_beq_eq_true hb ▸ List.mem_map_of_mem hq) hn.1
   simp only[this,cond_false];exact Ace hn.2 q hq
theorem KG:∀{l:List (Nat × Nat)} {i:Nat},i ∉ l.map (·.1)->Qu l i=none
 |[],_,_=>rfl
 |(j,b)::r,i,h=>by
  simp only[List.map_cons,List.mem_cons,not_or] at h;unfold Qu
  have:Nat.beq i j=false:=by
   cases hb:Nat.beq i j
   ·rfl
   ·exact absurd (Nat.eq_of_beq_eq_true hb) h.1
  simp only[this,cond_false];exact KG h.2
section
variable {R:Type} {r:R} {P:Program} {N:Nat} {w0:World} {X0:Gq} {Y:Nat->Prop} {β β':Bt} {s:St} {a:Act} {w w':World} {o:Oper} {A A':Nat->Prop}
theorem Fd.weak (hA:∀b,b<w.heap.size->A' b->A b){q:Option (Nat × Nat)} {p:PV}{u:Value}(h:Fd w A q p u):Fd w A' q p u:=by
 have tr:∀{p:PV},Ar w A p u->Ar w A' p u:=fun h=>h.step (B2.refl _ _) hA
 cases p with
 |own es n c=>
  rcases h with h|⟨b,ob,cap,h1,h2,h3,h4,h5,h6,h7⟩
  ·exact .inl h
  ·exact .inr ⟨b,ob,cap,h1,h2,h3,h4,h5,h6.weak hA,h7⟩
 |_=>exact tr h
theorem D6.weak (hA:∀b,b<w.heap.size->A' b->A b){own:Bt}:∀{ps:List PV}{us:List Value}{j:Nat},D6 w A own j ps us->D6 w A' own j ps us
 |[],[],_,_=>trivial
 |[],_::_,_,h=>h.elim
 |_::_,[],_,h=>h.elim
 |_::_,_::_,_,h=>⟨h.1.weak hA,D6.weak hA h.2⟩
theorem NP.weak (hA:∀b,b<w.heap.size->A' b->A b){bt:Bt}{p:PV}{u:Value}(h:NP w A bt p u):NP w A' bt p u:=by
 cases p with
 |pbox ps=>
  obtain⟨b,ob,h1,h2,h3,vs,h4,h5⟩:=h;exact⟨b,ob,h1,h2,h3,vs,h4.weak hA,h5⟩
 |tup ps=>
  obtain⟨es,n,c,h1,h2⟩:=h;exact⟨es,n,c,h1,h2.weak hA⟩
 |agg cs=>
  obtain⟨vs,h1,h2,h3⟩:=h;exact⟨vs,h1,h2,h3.weak hA⟩
 |_=>exact⟨h.1,h.2.weak hA⟩
theorem Il.weak (hA:∀b,b<w.heap.size->A' b->A b){bt:Ud}:∀{ps:List PV}{us:List Value}{i:Nat},Il w A bt i ps us->Il w A' bt i ps us
 |[],[],_,_=>trivial
 |[],_::_,_,h=>h.elim
 |_::_,[],_,h=>h.elim
 |_::_,_::_,_,h=>⟨h.1.weak hA,Il.weak hA h.2⟩
theorem Tf {bt:Ud}(k:Bool):∀{xs:List Operand}{ps:List PV}{i:Nat},Il w A bt i ps (xs.map a.eval)->Il w A bt i (Hm k xs ps) (xs.map a.eval)
 |[],[],_,h=>h
 |[],_::_,_,h=>h
 |_::_,[],_,h=>h
 |x::xs,p::ps,i,h=>by
  simp only[List.map_cons] at h ⊢;refine⟨?_,Tf k h.2⟩;split
  ·exact⟨.inl trivial,Ar.lnil _ _⟩
  ·exact h.1
theorem IX (k:Bool)(x:Operand)(xs:List Operand)(p:PV)(ps:List PV):∃p',Hm k (x::xs) (p::ps)=p'::Hm k xs ps∧Uc p'=Uc p∧(Uc p=true->p'=p):=by
 refine⟨_,rfl,?_,fun h=>?_⟩
 ·split
  ·rfl
  ·rfl
 ·split
  ·cases h
  ·rfl
theorem Nr {hp:Nat->Option Bk}{src:Nat->Nat->Option (Nat × Nat)} (k:Bool):∀{xs:List Operand}{ps:List PV}{i:Nat}{l:List Fl},Lv hp src i ps l->Lv hp src i (Hm k xs ps) l
 |[],[],_,_,h=>h
 |[],_::_,_,_,h=>h
 |_::_,[],_,_,h=>h
 |x::xs,p::ps,i,l,h=>by
  obtain⟨p',e,h1,h2⟩:=IX k x xs p ps;rw[e];rcases h with⟨h3,h4,h5⟩|⟨y,l',rfl,h4,h5⟩
  ·exact .inl ⟨by rw[h1];exact h3,h4,Nr k h5⟩
  ·exact .inr ⟨y,l',rfl,by rw[h2 (TJ h4)];exact h4,Nr k h5⟩
theorem AD {hp:Nat->Option Bk}{src:Nat->Nat->Option (Nat × Nat)}:∀{ps:List PV}{i:Nat}{l:List Fl},Lv hp src i ps l->∀id∈l.flatMap Fl.ids,Cu (hp id)∧∃k off,src k 0=some (id,off)
 |[],_,_,h,id,Bf=>by
  have h:_=[]:=h;rw[h] at Bf;cases Bf
 |p::ps,i,l,h,id,Bf=>by
  rcases h with⟨_,_,h3⟩|⟨x,l',rfl,h2,h3⟩
  ·exact AD h3 id Bf
  ·simp only[List.flatMap_cons,List.mem_append] at Bf;rcases Bf with Bf|Bf
   ·cases x with
    |var id' off cts ws=>
     simp only[Fl.ids,List.mem_singleton] at Bf;subst Bf;obtain⟨_,h4,_,c,h5,_⟩:=h2;exact⟨by rw[h5];trivial,i,_,h4⟩
    |row id'=>
     simp only[Fl.ids,List.mem_singleton] at Bf;subst Bf;obtain⟨_,h4,c,h5⟩:=h2;exact⟨by rw[h5];trivial,i,_,h4⟩
    |none=>simp[Fl.ids] at Bf
   ·exact AD h3 id Bf
theorem Aaf {hp:Nat->Option Bk}{src:Nat->Nat->Option (Nat × Nat)}:∀{ps:List PV}{i:Nat}{l:List Fl},Lv hp src i ps l->∀k p id off,ps[k]?=some p->src (i+k) 0=some (id,off) ->
   (∃c ws,hp id=some (.st c)∧p=.pbox ws∧off+ws.length<=c.length)∨((∃c,hp id=some (.ar false c))∧off=0∧∃ws,p=.tup ws)
 |[],_,_,_,k,p,id,off,hp,_=>by simp at hp
 |p::ps,i,l,h,k,p',id,off,Ck,hs=>by
  have Rc:∃l',Lv hp src (i+1) ps l':=by
   rcases h with⟨_,_,h3⟩|⟨x,l',_,_,h3⟩<;>exact⟨_,h3⟩
  cases k with
  |succ k=>
   obtain⟨l',h'⟩:=Rc;exact Aaf h' k p' id off (by simpa using Ck) (by rw[show i+1+k=i+(k+1) by omega];exact hs)
  |zero=>
   simp only[List.getElem?_cons_zero,Option.some.injEq] at Ck;subst Ck;rw[Nat.add_zero] at hs;rcases h with⟨_,h2,_⟩|⟨x,l',_,h2,_⟩
   ·rw[hs] at h2;cases h2
   ·cases x with
    |var id' off' cts ws=>
     obtain⟨h3,h4,_,c,h5,h6⟩:=h2;rw[hs] at h4;cases h4;exact .inl ⟨c,ws,h5,h3,h6⟩
    |row id'=>
     obtain⟨h3,h4,c,h5⟩:=h2;rw[hs] at h4;cases h4;exact .inr ⟨⟨c,h5⟩,rfl,h3⟩
    |none=>
     have:=h2.2;rw[hs] at this;cases this
theorem KU {hp : Nat -> Option Bk} {src : Nat -> Nat -> Option (Nat × Nat)} {id off : Nat} {cts : List CT} {ws : List PV} : ∀ {ps : List PV} {i : Nat} {l : List Fl}, Lv hp src i ps l -> Fl.var id off cts ws ∈ l ->
      ∃ k, ps[k]? = some (.pbox ws) ∧ src (i + k) 0 = some (id, off)
  | [], _, _, h, hm => by
    have h : _ = [] := h
    rw[h] at hm; cases hm
  | p :: ps, i, l, h, hm => by
    have next : ∀ {l'}, Lv hp src (i + 1) ps l' -> Fl.var id off cts ws ∈ l' -> ∃ k, (p :: ps)[k]? = some (.pbox ws) ∧ src (i + k) 0 = some (id, off) := by
      intro l' h' Hw
      obtain⟨k, h1, h2⟩ := KU h' Hw
      exact⟨k + 1, by simpa using h1, by rw[show i + (k + 1) = i + 1 + k by omega]; exact h2⟩
    rcases h with⟨_, _, h3⟩ | ⟨x, l', rfl, h2, h3⟩
    · exact next h3 hm
    · rcases List.mem_cons.1 hm with e | hm
      · subst e
        obtain⟨h1, h4, _⟩ := h2
        subst h1
        exact⟨0, rfl, h4⟩
      · exact next h3 hm
theorem KO {hp:Nat->Option Bk}{src:Nat->Nat->Option (Nat × Nat)}:∀{ps:List PV}{i:Nat}{l:List Fl},Lv hp src i ps l->∀k id off,i<=k->src k 0=some (id,off)->k<i+ps.length->∃p,ps[k-i]?=some p∧Uc p=true
 |[],i,_,_,k,id,off,h1,_,h3=>by simp at h3;omega
 |p::ps,i,l,h,k,id,off,h1,h2,h3=>by
  by_cases e:k=i
  ·subst e;rcases h with⟨_,h4,_⟩|⟨x,l',_,h4,_⟩
   ·rw[h2] at h4;cases h4
   ·exact⟨p,by simp,TJ h4⟩
  ·have Rc:∃l',Lv hp src (i+1) ps l':=by
    rcases h with⟨_,_,h3⟩|⟨x,l',_,_,h3⟩<;>exact⟨_,h3⟩
   obtain⟨l',h'⟩:=Rc;obtain⟨q,h5,h6⟩:=KO h' k id off (by omega) h2 (by simp at h3;omega)
   refine⟨q,?_,h6⟩;rw[show k-i=(k-(i+1))+1 by omega]
   simpa using h5
theorem Il.len {bt:Ud}:∀{ps:List PV}{us:List Value}{i:Nat},Il w A bt i ps us->ps.length=us.length
 |[],[],_,_=>rfl
 |[],_::_,_,h=>h.elim
 |_::_,[],_,h=>h.elim
 |_::_,_::_,_,h=>by simp[Il.len h.2]
theorem LS (h:Cj N w0 X0 Y β s a w){G:Rx}(Ie:MZ P G w0 X0){C:Fu}{call:Ax}(Df:∀f args res,call f args=some res->Cw G P f args res){c:Call}{f:FuncId}(ho:o.op=.call c)(hc:c.callee=.value (.func f))
  {K:St->Option R} (hk:Vn C P N call s o f c K=some r):
  ∃s',K s'=some r∧∀(next:Act->World->Prop) (Q:Exit->Act->World->Prop),(∀a' w' β',Cj N w0 X0 Y β' s' a' w'->next a' w')->o.wp P a w next Q:=by
 unfold Vn at hk;obtain⟨vs0,m,x,l,src,Dn,hm,hx,hS,hL,Eh⟩:=DF h hk;obtain⟨hb,D8⟩:=Aj Dn;simp only[Bool.and_eq_true] at hb;obtain⟨⟨⟨hnd,Amt⟩,hN⟩,VG⟩:=hb;have hN:0<N:=Nat.lt_of_succ_le (Nat.le_of_ble_eq_true hN);obtain⟨ZQ,hnx,hlx⟩:=G2 hnd
 have hml:∀i∈m,i ∉ l.flatMap Fl.ids∧i ∉ x:=by
  intro i hi;have:=List.all_eq_true.1 Amt i hi
  have hn:∀k∈l.flatMap Fl.ids++x,i≠k:=by
   rintro k hk rfl
   have h2:(l.flatMap Fl.ids++x).any (Nat.beq i)=true:=List.any_eq_true.2 ⟨i,hk,Nat.beq_refl i⟩;rw[h2] at this;cases this
  exact⟨fun hq=>hn i (by simp only[List.mem_append];exact .inl hq) rfl,fun hq=>hn i (by simp only[List.mem_append];exact .inr hq) rfl⟩
 replace hL:=Nr (C.kz f) (xs:=c.args.toList) hL
 replace Eh:=fun fz h1 h2 bt Rl=>Tf (a:=a) (C.kz f) (Eh fz h1 h2 bt Rl)
 generalize Hm (C.kz f) c.args.toList vs0=vs at D8 Eh hL;obtain⟨rv,ro,J6,I1⟩:=DM D8;obtain⟨ws,bs,Qy,hwl,PQ,NH,hrs,PI,hws⟩:=Vb (C.shr f) N I1;obtain⟨L7,PH⟩:=Aj Qy;obtain⟨lids,BN⟩:∃lids,l.flatMap Fl.ids=lids:=⟨_,rfl⟩;rw[BN] at hS ZQ hlx hml;have Asr:∀i,i ∉ x->Ox (Af s.hp m) x i=Af s.hp m i:=fun i hi=>by rw[E4,if_neg hi]
 have SL:∀i,i∈lids->Ox (Af s.hp m) x i=s.hp i:=fun i hi=>by
  rw[Asr i (hlx i hi),Bq,if_neg (fun hq=>(hml i hq).1 hi)]
 have hLM:Lv (Ox (Af s.hp m) x) src 0 vs l:=Sw (fun i hi=>SL i (BN ▸ hi)) hL
 obtain⟨Ck,bs',qs,hk6,hbq,Qw,J5,Ee,Ix,hsh,IW⟩:=O6 (β:=β) (j:=I6 rv) PH hLM (by rw[BN];exact ZQ)
 obtain⟨Lw,hk7⟩:=Aj hk6;refine⟨_,hk7,fun next Q hn=>?_⟩
 clear hk Dn D8 I1 Qy PH hk6 hk7;rw[BN] at Ix;obtain⟨⟨fn,hfn,hfb⟩,Xt⟩:=Df f vs _ J6;have hf:=h.freeze hm;have VT:=AD hL;rw[BN] at VT
 have ER:∀i,i∈lids∨i∈x->Af s.hp m i=s.hp i:=by
  intro i hi;rw[Bq,if_neg];intro hq;rcases hi with hi|hi
  ·exact (hml i hq).1 hi
  ·exact (hml i hq).2 hi
 have Tj:∀i,i∈lids∨i∈x->Cu (s.hp i):=by
  intro i hi;rcases hi with hi|hi
  ·exact (VT i hi).1
  ·obtain⟨cc,hcc⟩:=hx i hi;rw[hcc];trivial
 have Arc:∀i j id off,src i j=some (id,off)->id∈lids∨id∈x:=by
  intro i j id off hs;cases j with
  |zero=>exact .inl (hS.lent i id off hs)
  |succ j=>exact .inr (hS.mvd i j id off hs).2
 obtain⟨bt,Rl⟩:∃bt:Ud,∀i j,bt i j=(src i j).bind (Fy β):=⟨_,fun _ _=>rfl⟩
 have btS:∀{i j b ob},bt i j=some (b,ob)->∃id off o',src i j=some (id,off)∧β id=some (b,o')∧ob=o'+off∧(id∈lids∨id∈x):=by
  intro i j b ob hb;rw[Rl] at hb;cases hs:src i j with
  |none=>rw[hs] at hb;cases hb
  |some q=>
   rw[hs] at hb;obtain⟨id,off⟩:=q;simp only[Option.bind_some,Fy] at hb;cases hβ:β id with
   |none=>rw[hβ] at hb;cases hb
   |some p=>
    rw[hβ] at hb;obtain⟨b',o'⟩:=p;simp only[Option.map_some,Option.some.injEq,Prod.mk.injEq] at hb;obtain⟨rfl,rfl⟩:=hb;exact⟨id,off,o',rfl,hβ,rfl,Arc i j id off hs⟩
 have btX:∀{b},UR bt b->∃id o',β id=some (b,o')∧(id∈lids∨id∈x):=by
  rintro b ⟨i,j,ob,hb⟩
  obtain⟨id,off,o',_,h2,_,h4⟩:=btS hb;exact⟨id,o',h2,h4⟩
 have hBA:∀b,UR bt b->HW s.hp β b:=fun b hb=>by
  obtain⟨id,o',h1,h2⟩:=btX hb;exact⟨id,o',Tj id h2,h1⟩
 obtain⟨Yc,hYc⟩:∃Yc:Nat->Prop,∀b,Yc b↔((∃id ob,Cu (Af s.hp m id)∧β id=some (b,ob)∧id ∉ lids∧id ∉ x)∨Y b):=⟨_,fun _=>Iff.rfl⟩
 have Dc:vs.length=c.args.toList.length:=by
  have:=(Eh m (fun _ hi=>hi) hm bt Rl).len
  simpa using this
 have Azz:Ins w Yc bt vs (c.args.toList.map a.eval):=by
  refine⟨fun b hb=>?_,fun b hb hB=>?_,fun b hB=>?_,fun i j i' j' b ob ob' hb Gi=>?_,fun i q hq=>?_,?_⟩
  ·rcases (hYc b).1 hb with⟨id,ob,hl,hβ,_⟩|hY
   ·exact hf.blt id b ob (Cl hl) hβ
   ·exact Nat.lt_of_lt_of_le (h.Ylt b hY) h.fr.step.size
  ·obtain⟨id',o',h1,h2⟩:=btX hB;rcases (hYc b).1 hb with⟨id,ob,hl,hβ,h3,h4⟩|hY
   ·have:=hf.inj id id' b ob o' hl (by show Cu (Af s.hp m id');rw[ER id' h2];exact Tj id' h2) hβ h1
    subst this;rcases h2 with h2|h2
    ·exact h3 h2
    ·exact h4 h2
   ·exact h.Yx b hY ⟨id',o',Tj id' h2,h1⟩
  ·obtain⟨id',o',h1,h2⟩:=btX hB;exact h.blt id' b o' (Cl (Tj id' h2)) h1
  ·obtain⟨id,off,o1,h1,h2,_,h4⟩:=btS hb;obtain⟨id',off',o1',GU,h2',_,h4'⟩:=btS Gi;have:=h.inj id id' b o1 o1' (Tj id h4) (Tj id' h4') h2 h2';subst this;cases j with
   |zero=>
    cases j' with
    |zero=>exact⟨hS.inj0 ZQ i i' id off off' h1 GU,rfl⟩
    |succ j'=>exact absurd (hS.mvd i' j' id off' GU).2 (hlx id (hS.lent i id off h1))
   |succ j=>
    cases j' with
    |zero=>exact absurd (hS.mvd i j id off h1).2 (hlx id (hS.lent i' id off' GU))
    |succ j'=>
     obtain⟨h5,h6⟩:=hS.inj1 hnx i i' j j' id off off' h1 GU;exact⟨h5,by rw[h6]⟩
  ·obtain⟨b,ob⟩:=q;obtain⟨id,off,o',h1,_⟩:=btS hq;obtain⟨p,hp,h2⟩:=KO hL i id off (Nat.zero_le _) h1 (by have:=hS.dom i 0 _ h1;rw[Dc];exact this.2)
   exact⟨p,by simpa using hp,h2⟩
  ·refine (Eh m (fun _ hi=>hi) hm bt Rl).weak fun b _ hb=>?_
   rcases hb with hb|hb
   ·obtain⟨id',o',h1,h2⟩:=btX hb;exact .inl ⟨id',o',by rw[ER id' h2];exact Tj id' h2,h1⟩
   ·rcases (hYc b).1 hb with⟨id,ob,hl,hβ,_⟩|hY
    ·exact .inl ⟨id,ob,hl,hβ⟩
    ·exact .inr hY
 unfold Oper.wp;rw[KC ho hc Ie.ng hfn hfb];show Calls P f _ w _;have hca:c.args.map a.eval=(c.args.toList.map a.eval).toArray:=by rw[←List.map_toArray,Array.toArray_toList]
 rw[hca];refine (Xt w Yc bt _ Azz (Ie.fr w h.fr) (fun b x=>⟨Nat.lt_of_lt_of_le (Ie.y b x).1 h.fr.step.size,fun hB=>(h.ownd b (hBA b hB)).elim (Ie.y b x).2 (fun Xc=>absurd (Ie.y b x).1 (Nat.not_lt.2 Xc))⟩)).mono ?_
 rintro e w' ⟨us,own,rfl,out⟩
 obtain⟨ha1,H6⟩:=Bg Lw;obtain⟨YE,hg2⟩:=Du (hp:=Ck) H6;have OQ:=Ny Lw;rw[List.map_append,List.nodup_append] at OQ;obtain⟨A7v,Aps,Avm⟩:=OQ;rw[hbq] at Aps
 obtain⟨β1,hβ1,hβ2⟩:∃β1:Bt,(∀i,(∃bx,(i,bx)∈bs)->β1 i=own ((i-o.dst.getD N) / N))∧∀i,(¬∃bx,(i,bx)∈bs)->β1 i=match Qu qs i with|some j=>own j|none=>β i:=by
  refine⟨fun i=>if (bs.any fun q=>Nat.beq q.1 i)=true then own ((i-o.dst.getD N) / N) else match Qu qs i with|some j=>own j|none=>β i,fun i hi=>?_,fun i hi=>?_⟩
  ·show (if _ then _ else _)=_
   rw[if_pos (HJ.2 hi)]
  ·show (if _ then _ else _)=_
   rw[if_neg (fun hq=>hi (HJ.1 hq))]
 have hβbs:∀j,(∃bx,(o.dst.getD N+N*j,bx)∈bs)->β1 (o.dst.getD N+N*j)=own (0+j):=by
  intro j hj;rw[hβ1 _ hj,Nat.add_sub_cancel_left,Nat.mul_div_cancel_left _ hN,Nat.zero_add]
 have hqb:∀q∈qs,∃bx,(q.1,bx)∈bs':=by
  intro q hq;have:q.1∈bs'.map (·.1):=by rw[hbq];exact List.mem_map_of_mem hq
  obtain⟨⟨i,bx⟩,hm,e⟩:=List.mem_map.1 this;exact⟨bx,e ▸ hm⟩
 have Atr:∀i bx,(i,bx)∈bs'->∃j,(i,j)∈qs:=by
  intro i bx hm;have:i∈qs.map (·.1):=by rw[←hbq];exact List.mem_map.2 ⟨_,hm,rfl⟩
  obtain⟨⟨i',j⟩,hm,e⟩:=List.mem_map.1 this;exact⟨j,e ▸ hm⟩
 have TC:∀i,(∃bx,(i,bx)∈bs')->¬∃bx,(i,bx)∈bs:=by
  rintro i ⟨bx,hm⟩ ⟨bx',Hw⟩
  exact Avm i (List.mem_map.2 ⟨_,Hw,rfl⟩) i (List.mem_map.2 ⟨_,hm,rfl⟩) rfl
 have hβqs:∀q∈qs,β1 q.1=own q.2:=by
  intro q hq;rw[hβ2 q.1 (TC q.1 (hqb q hq)),Ace Aps q hq]
 have hβold:∀i,Ck i≠none->β1 i=β i:=by
  intro i hi
  have KH:¬∃bx,(i,bx)∈bs:=by
   rintro⟨bx,hm⟩
   exact hi (ha1 i bx (List.mem_append.2 (.inl hm)))
  rw[hβ2 i KH,KG];intro hm;obtain⟨q,hq,e⟩:=List.mem_map.1 hm;obtain⟨bx,I2⟩:=hqb q hq;exact hi (ha1 i bx (List.mem_append.2 (.inr (e ▸ I2))))
 obtain⟨Of,hba⟩:=hws w' _ own β1 w.heap.size 0 us hβbs out.vals;obtain⟨A05,Ar6⟩:=IW w' _ own β1 bt hβqs (fun i=>Rl i 0) out.outs
 have Ahb:∀id∈lids,∃y∈l,id∈y.ids:=by
  intro id Bf;rw[←BN] at Bf;exact List.mem_flatMap.1 Bf
 have Adq:∀id∈lids,(∃off c cs,s.hp id=some (.st c)∧Ck id=some (.st (B8 c cs off))∧off+cs.length<=c.length∧(∀p∈cs,∀i∈Am p,∃bx,(i,bx)∈bs'))∨∃c cs,s.hp id=some (.ar false c)∧Ck id=some (.ar false cs):=by
  intro id Bf;obtain⟨y,hy,hyi⟩:=Ahb id Bf;have h1:=hsh y hy;cases y with
  |var id' off cts ws'=>
   simp only[Fl.ids,List.mem_singleton] at hyi;subst hyi;obtain⟨c1,cs,h2,h3,h4,h5,h6⟩:=h1;rw[SL id Bf] at h2;exact .inl ⟨off,c1,cs,h2,h3,h5,h6⟩
  |row id'=>
   simp only[Fl.ids,List.mem_singleton] at hyi;subst hyi;obtain⟨c1,cs,h2,h3⟩:=h1;rw[SL id Bf] at h2;exact .inr ⟨c1,cs,h2,h3⟩
  |none=>simp[Fl.ids] at hyi
 have A2o:∀id∈lids,Ck id≠none:=by
  intro id Bf;rcases Adq id Bf with⟨_,_,_,_,h2,_⟩|⟨_,_,_,h2⟩<;>rw[h2]<;>simp
 have hpK:∀id,id ∉ lids->Ck id=Ox (Af s.hp m) x id:=fun id Bf=>Ix id Bf
 have Rb:∀i,s.hp i≠none->Ck i≠none:=by
  intro i hi;by_cases hl:i∈lids
  ·exact A2o i hl
  ·rw[hpK i hl,E4];have h1:Af s.hp m i≠none:=fun e=>hi (Dl.1 e)
   split
   ·cases hq:Af s.hp m i with
    |none=>exact absurd hq h1
    |some b=>simp
   ·exact h1
 have Ac9:∀i,(s.hp i≠none∨∃bx,(i,bx)∈bs++bs')->An Ck (bs++bs') i≠none:=by
  rintro i (hi|⟨bx,hm⟩)
  ·have h1:=Rb i hi;rw[hg2 i (fun bx hm=>h1 (ha1 i bx hm))]
   exact h1
  ·rw[YE i bx hm];simp
 have F7:∀id,(∃bx,(id,bx)∈bs++bs')∨An Ck (bs++bs') id=Ck id:=fun id=>by
  by_cases hx:∃bx,(id,bx)∈bs++bs'
  ·exact .inl hx
  ·exact .inr (hg2 id fun bx hb=>hx ⟨bx,hb⟩)
 have hold:∀id bx,Ck id=some bx->Cu (some bx)->Cu (s.hp id)∧id ∉ x∧(id∈lids∨(id ∉ lids∧Af s.hp m id=some bx)):=by
  intro id bx hb hl;by_cases Bf:id∈lids
  ·exact⟨Tj id (.inl Bf),hlx id Bf,.inl Bf⟩
  ·rw[hpK id Bf,E4] at hb;split at hb
   ·cases hq:Af s.hp m id with
    |none=>rw[hq] at hb;cases hb
    |some b=>rw[hq] at hb;simp at hb;subst hb;exact hl.elim
   ·rename_i hxn;exact⟨by rw[G3 hb hl];exact hl,hxn,.inr ⟨Bf,hb⟩⟩
 have Sa:∀i bx,(i,bx)∈bs++bs'->∃j,β1 i=own j∧((i=o.dst.getD N+N*j∧j<I6 rv)∨((i,j)∈qs∧I6 rv<=j)):=by
  intro i bx hm;rcases List.mem_append.1 hm with hm|hm
  ·obtain⟨⟨j,rfl,hj⟩,_⟩:=hba i bx hm;exact⟨j,by rw[hβbs j ⟨bx,hm⟩,Nat.zero_add],.inl ⟨rfl,hj⟩⟩
  ·obtain⟨j,hj⟩:=Atr i bx hm;exact⟨j,hβqs _ hj,.inr ⟨hj,(Qw _ hj).2⟩⟩
 have Ag1:∀i bx,(i,bx)∈bs++bs'->Cu (some bx)∧Nf w' (Zr bt own Yc) β1 i bx∧∀cs,bx=.st cs->∀b ob,β1 i=some (b,ob)->w.heap.size<=b:=by
  intro i bx hm;rcases List.mem_append.1 hm with hm|hm
  ·exact (hba i bx hm).2
  ·obtain⟨cc,rfl⟩:=Ee i bx hm;exact⟨trivial,A05 i _ hm,fun cs e=>by cases e⟩
 have Aic:∀b,(∃i k o',bt i (k+1)=some (b,o'))->∃id o',id∈x∧β id=some (b,o'):=by
  rintro b ⟨i,k,o',hb⟩
  obtain⟨id,off,o1,h1,h2,_,_⟩:=btS hb;exact⟨id,o1,(hS.mvd i k id off h1).2,h2⟩
 have hX:∀b,b<w.heap.size->HW (An Ck (bs++bs')) β1 b->HW s.hp β b:=by
  rintro b hb ⟨id,ob,hl,hβ⟩
  rcases F7 id with⟨bx,hm⟩|e
  ·obtain⟨j,hj,_⟩:=Sa id bx hm;rw[hj] at hβ;obtain⟨id',o',h1,h2⟩:=Aic b ((out.fresh j b ob hβ).2 hb).1;exact⟨id',o',Tj id' (.inr h1),h2⟩
  ·rw[e] at hl;cases hq:Ck id with
   |none=>rw[hq] at hl;exact hl.elim
   |some bx=>
    rw[hq] at hl;exact⟨id,ob,(hold id bx hq hl).1,by rw[←hβold id (by rw[hq];simp)];exact hβ⟩
 have hAo:∀b,b<w.heap.size->Ct (An Ck (bs++bs')) β1 Y b->Ct s.hp β Y b:=fun b hb hA=>hA.imp (hX b hb) id
 have hAO:∀b,Ct (An Ck (bs++bs')) β1 Y b->Zr bt own Yc b:=by
  rintro b (⟨id,ob,hl,hβ⟩|hY)
  ·rcases F7 id with⟨bx,hm⟩|e
   ·obtain⟨j,hj,_⟩:=Sa id bx hm;rw[hj] at hβ;exact .inl ⟨j,ob,hβ⟩
   ·rw[e] at hl;cases hq:Ck id with
    |none=>rw[hq] at hl;exact hl.elim
    |some bx=>
     rw[hq] at hl;rw[hβold id (by rw[hq];simp)] at hβ
     obtain⟨h1,h2,h3⟩:=hold id bx hq hl;rcases h3 with h3|⟨h3,h4⟩
     ·obtain⟨_,i,off,hs⟩:=VT id h3;exact .inr (.inl ⟨i,ob+off,by rw[Rl,hs];simp[Fy,hβ]⟩)
     ·exact .inr (.inr ((hYc b).2 (.inl ⟨id,ob,by rw[h4];exact hl,hβ,h3,h2⟩)))
  ·exact .inr (.inr ((hYc b).2 (.inr hY)))
 have E8:B2 (Ct s.hp β Y) w w':=out.ext.weaken (fun b _ hb=>.inl (hBA b hb))
 have Aee:∀i,s.hp i≠none->β1 i=β i:=fun i hi=>hβold i (Rb i hi)
 have hCL:∀b j,Yr bt vs b j->∃id o' bx,s.hp id=some bx∧Cu (some bx)∧β id=some (b,o')∧BR bx o' j:=by
  rintro b j ⟨i,p,hp,⟨k,ob,hb,Xc⟩|⟨ob,ps,hb,Xc,Sd⟩⟩
  ·obtain⟨id,off,o',h1,h2,h3,_⟩:=btS hb;obtain⟨h5,h6⟩:=hS.mvd i k id off h1;obtain⟨cc,hcc⟩:=hx id h6;exact⟨id,o',_,hcc,trivial,h2,show o'<=j by omega⟩
  ·obtain⟨id,off,o',h1,h2,h3,_⟩:=btS hb;rcases Aaf hL i p id off hp (by rw[Nat.zero_add];exact h1) with⟨c1,wz,h5,h6,h7⟩|⟨⟨c1,h5⟩,_⟩
   ·rcases Sd with⟨h8,h9⟩|h8
    ·rw[h6] at h8;cases h8;exact⟨id,o',_,h5,trivial,h2,show o'<=j∧j<o'+c1.length by omega⟩
    ·rw[h6] at h8;cases h8
   ·exact⟨id,o',_,h5,trivial,h2,show o'<=j by omega⟩
 have hnL:∀id off cts wz,Fl.var id off cts wz∈l->id∈lids->∀b ob,β id=some (b,ob)->∀j,(j<off∨off+wz.length<=j)->(∃c1,s.hp id=some (.st c1))->¬Yr bt vs b (ob+j):=by
  rintro id off cts wz hy Bf b ob hβ j hj ⟨c1,AU⟩ ⟨i,p,hp,⟨k,ob',hb,Xc⟩|⟨ob',ps,hb,Xc,Sd⟩⟩
  ·obtain⟨id',off',o',h1,h2,h3,h4⟩:=btS hb;have:=h.inj id id' b ob o' (Tj id (.inl Bf)) (Tj id' h4) hβ h2;subst this;exact hlx id Bf (hS.mvd i k id off' h1).2
  ·obtain⟨id',off',o',h1,h2,h3,h4⟩:=btS hb;have:=h.inj id id' b ob o' (Tj id (.inl Bf)) (Tj id' h4) hβ h2;subst this;rw[hβ] at h2;cases h2;obtain⟨k,Dn,D8⟩:=KU hL hy;rw[Nat.zero_add] at D8;have hik:=hS.inj0 ZQ i k id off' off h1 D8;subst hik;rw[h1] at D8;cases D8;rw[hp] at Dn;cases Dn;rcases Sd with⟨h8,h9⟩|h8
   ·cases h8;omega
   ·cases h8
 have hval:Dx w' (Ct (An Ck (bs++bs')) β1 Y) β1 (Kl ws (Lm P o.type)) (Gn us):=by
  have K6:Bb (Gk w' (Ct (An Ck (bs++bs')) β1 Y) β1) ws us:=Of.mono fun v u hvu=>hvu.step (B2.refl _ _) (fun b _=>hAO b) (fun _ _=>rfl)
  have Dc:=K6.len;cases hT:Lm P o.type
  ·rw[hT] at L7;have h1:ws.length=1:=Nat.eq_of_beq_eq_true L7
   match ws,us,h1,Dc with
   |[v],[u],_,_=>
    exact (Lg (PQ v (by simp))).2 K6.1
  ·rw[hT] at L7
   have h1:¬ws.length=1:=by
    intro e;rw[e] at L7;cases L7
   have hr:Gn us=.tuple ⟨us⟩:=by
    unfold Gn;split
    ·simp at Dc;omega
    ·rfl
   rw[hr];exact⟨us,rfl,K6⟩
 have hvr:∀i∈Bo (Kl ws (Lm P o.type)),∃bx,(i,bx)∈bs:=by
  intro i hi;cases hT:Lm P o.type
  ·rw[hT] at L7 hi;have h1:ws.length=1:=Nat.eq_of_beq_eq_true L7
   match ws,h1 with
   |[v],_=>
    refine hrs v (by simp) i ?_
    have:Bo v=B6 v:=by
     have hn:=PQ v (by simp)
     cases v<;>first|rfl|exact absurd rfl (hn _)
    rw[←this];exact hi
  ·rw[hT] at hi;obtain⟨v,hv,hi⟩:=List.mem_flatMap.1 (show i∈ws.flatMap B6 from hi)
   exact hrs v hv i hi
 refine hn _ w' β1 ?_;refine⟨by rw[Nj];exact h.dfr,by rw[Td];exact h.tsz,JF VG h.tmo,?_,?_,?_,?_,?_,?_,?_,?_,?_,?_,?_,h.Ylt,?_⟩
 ·refine Li (Q:=fun _ p u=>Dx w' (Ct (An Ck (bs++bs')) β1 Y) β1 p u) h.tsz VG (fun i hi=>?_) (fun _=>hval)
  exact (h.tms i hi).step E8 hAo fun id Bf=>Aee id (h.wfT i hi id Bf)
 ·intro id bx hb;simp only at hb;rcases F7 id with⟨bx',Hw⟩|e
  ·rw[YE id bx' Hw] at hb;cases hb;exact (Ag1 id _ Hw).2.1.step' hAO
  ·rw[e] at hb;have hβ:=hβold id (by rw[hb];simp)
   by_cases Bf:id∈lids
   ·obtain⟨y,hy,hyi⟩:=Ahb id Bf;have h1:=Ar6 y hy;cases y with
    |var id' off cts wz=>
     simp only[Fl.ids,List.mem_singleton] at hyi;subst hyi;obtain⟨c1,cs,h2,h3,h4,h5,h6⟩:=h1;rw[SL id Bf] at h2;rw[h3] at hb;cases hb;obtain⟨b,ob,h7,h8,h9⟩:=h.box id _ h2;obtain⟨h10,h11⟩:=h6 b ob h7;have B4:=h.blt id b ob (by rw[h2];simp) h7
     have V0:∀j,(j<off∨off+wz.length<=j)->w'.cell? ⟨b,ob+j,none⟩=w.cell? ⟨b,ob+j,none⟩∧w'.frozen? ⟨b,ob+j,none⟩=w.frozen? ⟨b,ob+j,none⟩:=
      fun j hj=>out.rng b (ob+j) B4 (hnL id off cts wz hy Bf b ob h7 j hj ⟨c1,h2⟩)
     refine⟨b,ob,hβ.trans h7,fun j p hj=>?_,fun j hj=>?_⟩
     ·rcases Nt (by omega) hj with⟨h12,h13,h14⟩|⟨h12,h14⟩
      ·obtain⟨v,hv,LK⟩:=h10 _ _ h14;refine⟨v,?_,LK.step (B2.refl _ _) (fun b _=>hAO b) (fun _ _=>rfl)⟩
       rw[show ob+j=ob+off+(j-off) by omega]
       exact hv
      ·obtain⟨v,hv,LK⟩:=h8 _ _ h14;refine⟨v,by rw[(V0 j (by omega)).1];exact hv,LK.step E8 hAo fun i hi=>Aee i (h.wfB id c1 h2 p (List.mem_of_getElem? h14) i hi)⟩
     ·rw[Nv (by omega)] at hj
      by_cases Y1:off<=j∧j<off+cs.length
      ·have:=h11 (j-off) (by omega)
       rw[show ob+off+(j-off)=ob+j by omega] at this
       exact this
      ·rw[(V0 j (by omega)).2]
       exact h9 j hj
    |row id'=>
     simp only[Fl.ids,List.mem_singleton] at hyi;subst hyi;obtain⟨cs,h3,h4⟩:=h1;rw[h3] at hb;cases hb;rcases h4 with⟨h5,h6⟩|⟨b,ob,h5,h6,h7⟩
     ·exact .inl ⟨hβ.trans h5,h6⟩
     ·exact .inr ⟨b,ob,hβ.trans h5,h6.weak (fun b _=>hAO b),fun _=>h7,(fun q=>by cases q)⟩
    |none=>simp[Fl.ids] at hyi
   ·rw[hpK id Bf,E4] at hb;split at hb
    ·cases hq:Af s.hp m id with
     |none=>rw[hq] at hb;cases hb
     |some b0=>rw[hq] at hb;simp at hb;subst hb;trivial
    ·rename_i hxn;have I2:=hf.box id bx hb
     have Acu:∀b ob,β id=some (b,ob)->bx ≠ .mv->b<w.heap.size∧w'.heap[b]?=w.heap[b]?:=by
      intro b ob BU hmv;have B4:=hf.blt id b ob (by show Af s.hp m id≠none;rw[hb];simp) BU
      refine⟨B4,out.ext.keep b B4 fun hB=>?_⟩
      obtain⟨id',o',h1,h2⟩:=btX hB;have Ib:Cu (Af s.hp m id'):=by rw[ER id' h2];exact Tj id' h2
      have GT:id≠id':=by
       rintro rfl
       rcases h2 with h2|h2
       ·exact Bf h2
       ·exact hxn h2
      cases bx with
      |st cc=>exact GT (hf.inj id id' b ob o' (by show Cu (Af s.hp m id);rw[hb];trivial) Ib BU h1)
      |ar fz cc=>
       cases fz with
       |false=>exact GT (hf.inj id id' b ob o' (by show Cu (Af s.hp m id);rw[hb];trivial) Ib BU h1)
       |true=>
        rcases I2 with⟨h3,_⟩|⟨b2,o2,h3,_,_,h4⟩
        ·rw[BU] at h3;cases h3
        ·rw[BU] at h3;cases h3;exact h4 rfl (.inl ⟨id',o',Ib,h1⟩)
      |mv=>exact hmv rfl
     have hAoF:∀b,b<w.heap.size->Ct (An Ck (bs++bs')) β1 Y b->Ct (Af s.hp m) β Y b:=by
      intro b Ee hA;rcases hA with⟨i,ob,hl,hβi⟩|hY
      ·rcases F7 i with⟨bx1,BT⟩|e1
       ·obtain⟨j,hj,_⟩:=Sa i bx1 BT;rw[hj] at hβi;obtain⟨id',o',h1,h2⟩:=Aic b ((out.fresh j b ob hβi).2 Ee).1;exact .inl ⟨id',o',by rw[ER id' (.inr h1)];exact Tj id' (.inr h1),h2⟩
       ·rw[e1] at hl;cases hq:Ck i with
        |none=>rw[hq] at hl;exact hl.elim
        |some bx1=>
         rw[hq] at hl;rw[hβold i (by rw[hq];simp)] at hβi
         obtain⟨h1,h2,h3⟩:=hold i bx1 hq hl;rcases h3 with h3|⟨h3,h4⟩
         ·exact .inl ⟨i,ob,by rw[ER i (.inl h3)];exact h1,hβi⟩
         ·exact .inl ⟨i,ob,by rw[h4];exact hl,hβi⟩
      ·exact .inr hY
     have Ap4:B2 (Ct (Af s.hp m) β Y) w w':=out.ext.weaken (fun b _ hB=>by
      obtain⟨id',o',h1,h2⟩:=btX hB;exact .inl ⟨id',o',by rw[ER id' h2];exact Tj id' h2,h1⟩)
     cases bx with
     |st cc=>
      obtain⟨b,ob,h1,h2,h3⟩:=I2;obtain⟨B4,Ng⟩:=Acu b ob h1 (by simp)
      refine⟨b,ob,hβ.trans h1,fun j p hj=>?_,fun j hj=>?_⟩
      ·obtain⟨v,hv,LK⟩:=h2 j p hj;refine⟨v,by rw[World.cell?_of_block (w:=w) Ng];exact hv,LK.step Ap4 hAoF fun i hi=>?_⟩
       refine Aee i (fun e1=>?_)
       exact hf.wfB id cc hb p (List.mem_of_getElem? hj) i hi (Dl.2 e1)
      ·rw[World.frozen?_of_block (w:=w) Ng];exact h3 j hj
     |ar fz cc=>
      rcases I2 with⟨h1,h2⟩|⟨b,ob,h1,h2,h3,h4⟩
      ·exact .inl ⟨hβ.trans h1,h2⟩
      ·obtain⟨B4,Ng⟩:=Acu b ob h1 (by simp)
       have CS:bsz w' b=bsz w b:=by unfold bsz;rw[Ng]
       refine .inr ⟨b,ob,hβ.trans h1,fun j p hj=>?_,fun e1 j hj Om=>?_,fun e1 q=>h4 e1 (hAoF b B4 q)⟩
       ·obtain⟨v,hv,h5,AU⟩:=h2 j p hj;exact⟨v,by rw[World.cell?_of_block (w:=w) (by rw[Eb];exact Ng)];exact hv,h5,AU.step Ap4 hAoF⟩
       ·rw[World.frozen?_of_block (w:=w) Ng];exact h3 e1 j hj (by rw[←CS];exact Om)
     |mv=>trivial
 ·intro id id' b ob ob' hl Ib hb Gi;simp only at hl Ib
  have mixed:∀i bx i' k z,(i,bx)∈bs++bs'->β1 i=some (k,z)->Ck i'≠none->Cu (Ck i')->∀z',β1 i'=some (k,z')->False:=by
   intro i bx i' k z BT hz KH Ya z' WB;obtain⟨j,hj,_⟩:=Sa i bx BT;rw[hj] at hz;rw[hβold i' KH] at WB;cases hq:Ck i' with
   |none=>exact KH hq
   |some bx1=>
    rw[hq] at Ya;obtain⟨h1,h2,h3⟩:=hold i' bx1 hq Ya;have B4:=h.blt i' k z' (Cl h1) WB;obtain⟨id2,o2,h4,h5⟩:=Aic k ((out.fresh j k z hz).2 B4).1;have:=h.inj i' id2 k z' o2 h1 (Tj id2 (.inr h4)) WB h5;subst this;exact h2 h4
  rcases F7 id with⟨bx,BT⟩|e1
  ·rcases F7 id' with⟨bx',hm2⟩|e2
   ·obtain⟨j,hj,Sd⟩:=Sa id bx BT;obtain⟨j',Om,Aow⟩:=Sa id' bx' hm2;rw[hj] at hb;rw[Om] at Gi;have:=out.inj j j' b ob ob' hb Gi;subst this;rcases Sd with⟨h1,h2⟩|⟨h1,h2⟩
    ·rcases Aow with⟨h3,_⟩|⟨_,h4⟩
     ·rw[h1,h3]
     ·omega
    ·rcases Aow with⟨_,h4⟩|⟨h3,_⟩
     ·omega
     ·exact J5 _ h1 _ h3 rfl
   ·rw[e2] at Ib;exact (mixed id bx id' b ob BT hb (Cl Ib) Ib ob' Gi).elim
  ·rw[e1] at hl;rcases F7 id' with⟨bx',hm2⟩|e2
   ·exact (mixed id' bx' id b ob' hm2 Gi (Cl hl) hl ob hb).elim
   ·rw[e2] at Ib
    have g:∀i,Cu (Ck i)->Cu (s.hp i)∧β1 i=β i:=by
     intro i hli;cases hq:Ck i with
     |none=>rw[hq] at hli;exact hli.elim
     |some bx1=>exact⟨(hold i bx1 hq (by rw[←hq];exact hli)).1,hβold i (by rw[hq];simp)⟩
    rw[(g id hl).2] at hb;rw[(g id' Ib).2] at Gi;exact h.inj id id' b ob ob' (g id hl).1 (g id' Ib).1 hb Gi
 ·intro id b ob KH hb;simp only at KH;rcases F7 id with⟨bx,BT⟩|e1
  ·obtain⟨j,hj,_⟩:=Sa id bx BT;rw[hj] at hb;exact (out.fresh j b ob hb).1
  ·rw[e1] at KH;rw[hβold id KH] at hb
   have hn2:s.hp id≠none:=by
    by_cases Bf:id∈lids
    ·exact Cl (Tj id (.inl Bf))
    ·rw[hpK id Bf,E4] at KH;intro e2;have h1:Af s.hp m id=none:=Dl.2 e2;rw[h1] at KH;split at KH<;>exact KH rfl
   exact Nat.lt_of_lt_of_le (h.blt id b ob hn2 hb) out.ext.size
 ·have:=Li (Q:=fun _ p _=>∀id∈Bo p,An Ck (bs++bs') id≠none) (val:=Gn us) (d:=o.dst) (v:=Kl ws (Lm P o.type)) h.tsz VG (fun i hi id Bf=>Ac9 id (.inl (h.wfT i hi id Bf))) (fun _ id Bf=>Ac9 id (.inr (by
   obtain⟨bx,hb⟩:=hvr id Bf;exact⟨bx,List.mem_append.2 (.inl hb)⟩)))
  exact this
 ·intro id cells HK p hp i hi;simp only at HK;refine Ac9 i ?_;rcases F7 id with⟨bx,BT⟩|e1
  ·rw[YE id bx BT] at HK;cases HK;rcases List.mem_append.1 BT with BT|BT
   ·obtain⟨bx1,hb⟩:=PI id cells BT p hp i hi;exact .inr ⟨bx1,List.mem_append.2 (.inl hb)⟩
   ·obtain⟨cc,e2⟩:=Ee id _ BT;cases e2
  ·rw[e1] at HK;by_cases Bf:id∈lids
   ·rcases Adq id Bf with⟨off,c1,cs,h1,h2,h3,h4⟩|⟨c1,cs,h1,h2⟩
    ·rw[h2] at HK;cases HK;unfold B8 at hp;rcases List.mem_append.1 hp with hp|hp
     ·rcases List.mem_append.1 hp with hp|hp
      ·exact .inl (h.wfB id c1 h1 p (List.mem_of_mem_take hp) i hi)
      ·obtain⟨bx1,hb⟩:=h4 p hp i hi;exact .inr ⟨bx1,List.mem_append.2 (.inr hb)⟩
     ·exact .inl (h.wfB id c1 h1 p (List.mem_of_mem_drop hp) i hi)
    ·rw[h2] at HK;cases HK
   ·obtain⟨_,_,h3⟩:=hold id _ HK trivial;rcases h3 with h3|⟨_,h3⟩
    ·exact absurd h3 Bf
    ·exact .inl (h.wfB id cells (G3 h3 trivial) p hp i hi)
 ·rintro b ⟨id,ob,hl,hβ⟩
  rcases Nat.lt_or_ge b w.heap.size with B4|XW
  ·exact h.ownd b (hX b B4 ⟨id,ob,hl,hβ⟩)
  ·exact .inr (Nat.le_trans h.fr.step.size XW)
 ·intro id bx b ob hb hl hβ B4 j hj;simp only at hb;have hlw:=Nat.lt_of_lt_of_le B4 h.fr.step.size;rcases F7 id with⟨bx',BT⟩|e1
  ·rw[YE id bx' BT] at hb;cases hb;obtain⟨k,hk,_⟩:=Sa id bx BT;rw[hk] at hβ
   have Xc:ob<=j:=by
    cases bx with
    |st cc=>exact hj.1
    |ar fz cc=>exact hj
    |mv=>exact hl.elim
   obtain⟨id2,o2,bx2,h1,h2,h3,h4⟩:=hCL b j (((out.fresh k b ob hβ).2 hlw).2 j Xc);exact h.rngB id2 bx2 b o2 h1 h2 h3 B4 j h4
  ·rw[e1] at hb;rw[hβold id (by rw[hb];simp)] at hβ
   obtain⟨h1,h2,h3⟩:=hold id bx hb hl;rcases h3 with h3|⟨h3,h4⟩
   ·rcases Adq id h3 with⟨off,c1,cs,h5,h6,h7,_⟩|⟨c1,cs,h5,h6⟩
    ·rw[h6] at hb;cases hb;have hj:ob<=j∧j<ob+(B8 c1 cs off).length:=hj;rw[Nv (by omega)] at hj
     exact h.rngB id _ b ob h5 trivial hβ B4 j hj
    ·rw[h6] at hb;cases hb;exact h.rngB id _ b ob h5 trivial hβ B4 j hj
   ·exact h.rngB id bx b ob (G3 h4 hl) hl hβ B4 j hj
 ·intro i hi;obtain⟨h1,h2⟩:=h.pin i hi;exact⟨Ac9 _ (.inl h1),by rw[Aee _ h1];exact h2⟩
 ·intro id cc b ob hb hβ B4;simp only at hb;have hlw:=Nat.lt_of_lt_of_le B4 h.fr.step.size;rcases F7 id with⟨bx',BT⟩|e1
  ·rw[YE id bx' BT] at hb;cases hb;have:=(Ag1 id _ BT).2.2 cc rfl b ob hβ;omega
  ·rw[e1] at hb;rw[hβold id (by rw[hb];simp)] at hβ
   obtain⟨h1,h2,h3⟩:=hold id _ hb trivial;rcases h3 with h3|⟨h3,h4⟩
   ·rcases Adq id h3 with⟨off,c1,cs,h5,h6,h7,_⟩|⟨c1,cs,h5,h6⟩
    ·exact h.stp id c1 b ob h5 hβ B4
    ·rw[h6] at hb;cases hb
   ·exact h.stp id cc b ob (G3 h4 trivial) hβ B4
 ·intro b hY hXb;exact h.Yx b hY (hX b (Nat.lt_of_lt_of_le (h.Ylt b hY) h.fr.step.size) hXb)
 ·refine⟨out.os.trans h.fr.os,out.tape.trans h.fr.tape,out.output.trans h.fr.output,⟨Nat.le_trans h.fr.step.size out.ext.size,fun b hb hnX=>?_,fun b hb=>(h.fr.step.bs b hb).trans (out.ext.bs b (Nat.lt_of_lt_of_le hb h.fr.step.size))⟩,fun b j hb hnL=>?_⟩
  ·rw[out.ext.keep b (Nat.lt_of_lt_of_le hb h.fr.step.size) ?_]
   ·exact h.fr.step.keep b hb hnX
   ·intro hB;rcases h.ownd b (hBA b hB) with hq|hq
    ·exact hnX hq
    ·omega
  ·have GT:¬Yr bt vs b j:=by
    intro hq;obtain⟨id2,o2,bx2,h1,h2,h3,h4⟩:=hCL b j hq;exact hnL (h.rngB id2 bx2 b o2 h1 h2 h3 hb j h4)
   obtain⟨h1,h2⟩:=out.rng b j (Nat.lt_of_lt_of_le hb h.fr.step.size) GT;rw[h1,h2];exact h.fr.rng b j hb hnL
end
open Go.RowKit
section
variable {R:Type} {r:R} {P:Program} {N:Nat} {w0:World} {X0:Gq} {Y:Nat->Prop} {β β':Bt} {s:St} {a:Act} {w w':World} {o:Oper} {A:Nat->Prop}
theorem HD (h:Cj N w0 X0 Y β s a w){c:Call}(ho:o.op=.call c)(hc:c.callee=.builtin .append){d:Nat}(VG:o.dst=some d){b x:Operand}(Eh:c.args.toList=[b,x]) {t tx:TypeId}{ts:List TypeId}(Xb:c.argTypes.toList=t::tx::ts)
  {K:St->Option R} (hk:Le P N s d t tx (Bv s.tm b) (Bv s.tm x) K=some r):
  ∃s',K s'=some r∧∀(next:Act->World->Prop) (Q:Exit->Act->World->Prop),(∀a' w' β',Cj N w0 X0 Y β' s' a' w'->next a' w')->o.wp P a w next Q:=by
 have AK:c.args = #[b,x]:=by
  have:c.args=([b,x]:List Operand).toArray:=by rw[←Eh]
  exact this
 have NO:c.argTypes=(t::tx::ts).toArray:=by rw[←Xb]
 have run:∀{v:Value} {w1:World},(Builtin.append_ (t::tx::ts).toArray o.type #[a.eval b,a.eval x]).run P w=.ok v w1->∀(next:Act->World->Prop) (Q:Exit->Act->World->Prop),next (a.put (some d) v) w1->o.wp P a w next Q:=by
  intro v w1 hr next Q hn;unfold Oper.wp execOp;rw[ho];simp only[resolve,hc,invoke,builtin,Sem.run_bind,Sem.run_pure,Result.andThen_ok,AK,NO];have:(#[b,x]:Array Operand).map a.eval = #[a.eval b,a.eval x]:=by simp
  rw[this,hr];show next (a.put o.dst v) w1;rw[VG];exact hn
 have hbv:=Cn h b;have JP:=Eg h b;unfold Le at hk;split at hk
 ·rename_i e hu;obtain⟨TY,hk⟩:=Aj hk;obtain⟨i,z,hi,hz,hzs,K1⟩:=Zq TY;cases hit:So P tx
  rotate_left
  ·rw[hit] at hk;simp only[cond_true] at hk
   obtain⟨ki,WU⟩:∃k,P.underlying tx=some (.int k):=by
    unfold So at hit;split at hit
    ·exact⟨_,by assumption⟩
    ·cases hit
   unfold O7 at hk;obtain⟨kx,n,hx,hk⟩:=C3 hk;obtain⟨zz,n',c',hk,hp⟩:=Ep hk;obtain⟨hb,hk⟩:=Aj hk;simp only[Bool.and_eq_true,decide_eq_true_eq] at hb;obtain⟨⟨⟨⟨⟨hzz,XU⟩,Sc⟩,Ub⟩,XE⟩,CY⟩:=hb;have XU:d<N:=Nat.lt_of_succ_le (Nat.le_of_ble_eq_true XU);have Sc:s.hp d=none:=by simpa using Sc
   have QC:Fe N (some d)=true:=by simp[Fe,Nat.blt];omega
   have Ps:((P.info? e).map (·.bytes)).getD 0=i.bytes:=by rw[hi];rfl
   rw[Ps] at XE;rw[K1] at hk;have Cv:=B1 h hx;rcases Fh hp hbv with⟨Lw,_⟩|⟨_,_,_,Ys,_⟩|⟨_,_,_,Ys,_⟩
   ·refine⟨_,hk,fun next Q hn=>?_⟩
    by_cases hm0:n=0
    ·subst hm0;have hr:=U7 (P:=P) (w:=w) (t:=t) (tx:=tx) (ty:=o.type) (ts:=ts) (kx:=kx) hu WU hi;rw[←Lw,←Cv] at hr;refine run hr next Q (hn _ _ (Cg β d none) ?_);rw[Lw];refine h.stepR (d:=some d) (nw:=[(d,.ar false [])]) (β':=Cg β d none) QC (by simp[Bn,Sc]) ⟨rfl,rfl,rfl,B2.refl _ _,fun j hj=>Ai _ _ (by rintro rfl;exact hj Sc),?_,?_,?_,?_,?_,.inl ⟨Al _ _ _,rfl,rfl,none,rfl⟩,?_⟩
     ·intro j bx hm;simp at hm;rw[hm.2];trivial
     ·intro j bx hm;simp at hm;obtain⟨rfl,rfl⟩:=hm;exact .inl ⟨Al _ _ _,rfl⟩
     ·intro j bx k q hm hq;simp at hm;obtain⟨rfl,rfl⟩:=hm;rw[Al] at hq;cases hq
     ·intro j bx j' bx' k q q' hm Hw _ _;simp at hm Hw;rw[hm.1,Hw.1]
     ·intro j cells hm;simp at hm
     ·intro j hj;simp[Bo,B6,Am] at hj;subst hj;exact .inr ⟨.ar false [],by simp⟩
    ·have hr:=Wv (P:=P) (w:=w) (t:=t) (tx:=tx) (ty:=o.type) (ts:=ts) (kx:=kx) hu WU hi hz (n:=n) (by omega) XE CY
     rw[←Lw,←Cv] at hr;refine run hr next Q (hn _ _ (Cg β d (some (w.heap.size,0))) ?_);have XW:n.toNat<=grownCap w n.toNat 0 e:=grownCap_ge w n.toNat 0 e;generalize Xt:((if n.toNat*i.size=0 then #[] else Builtin.zeroCells z.cells n.toNat)++Builtin.zeroCells z.cells (grownCap w n.toNat 0 e-n.toNat))=cs
     have Rt:Ff w (w.drew.alloc (.cells cs e)) cs e:=
      ⟨rfl,rfl,rfl,fun k hk=>Below.heap_alloc w.drew _ k hk,by show (w.heap.push _).size=_;simp,(0,0),by show (w.heap.push _)[w.heap.size]?=_;simp,.inl rfl⟩
     have OV:cs.size=grownCap w n.toNat 0 e*i.size:=by
      rw[←Xt];by_cases NZ:n.toNat*i.size=0
      ·rw[if_pos NZ]
       have hi0:i.size=0:=by
        rcases Nat.mul_eq_zero.1 NZ with h|h
        ·omega
        ·exact h
       simp[size_zeroCells,hzs,hi0]
      ·rw[if_neg NZ];simp only[Array.size_append,size_zeroCells,hzs,←Nat.add_mul]
       congr 1
       omega
     refine h.stepR (d:=some d) (nw:=[(d,.ar false [])]) QC (by simp[Bn,Sc]) (M1 Rt Sc trivial ?_ (fun cells hx=>by cases hx) ?_ (by intro j hj;simp[Bo,B6,Am] at hj;exact .inr hj))
     ·refine .inr ⟨w.heap.size,0,Al _ _ _,fun j p hj=>by simp at hj,fun _ j _ hj=>?_,(fun q=>by cases q)⟩
      rw[Rt.bsz] at hj;exact Rt.frozen hj
     ·refine .inr ⟨w.heap.size,0,0,grownCap w n.toNat 0 e,Al _ _ _,rfl,.inl rfl,XW,?_,by rw[Rt.size];omega⟩
      exact⟨by rw[Rt.bsz,OV];omega,.inr (Hz w.drew _ e)⟩
   ·rw[Ys] at hzz;cases hzz
   ·rw[Ys] at hzz;cases hzz
  rw[hit] at hk;simp only[cond_false] at hk;have Ps:((P.info? e).map (·.bytes)).getD 0=i.bytes:=by rw[hi];rfl
  obtain⟨⟨dx,hdx,KW⟩,m,new,news,hk,hs⟩:=AN h hk (by
   intro m new hk;split at hk
   ·split at hk
    ·obtain⟨hb,_⟩:=Aj hk;simp only[Bool.and_eq_true,decide_eq_true_eq] at hb;have he:=Nat.eq_of_beq_eq_true hb.1.1.1.1.1.1.1;rw[←he];exact hb.1.1.2
    ·cases hk
   ·obtain⟨zz,n',c',hk,_⟩:=Ep hk;obtain⟨hb,_⟩:=Aj hk;simp only[Bool.and_eq_true,decide_eq_true_eq] at hb;exact hb.1.1.2)
  rw[K1] at hs;have ZQ:new.length=news.length:=hs.rep.len;split at hk
  ·rename_i id es off n eb;rw[eb] at hbv JP;split at hk
   ·rename_i cc h0;obtain⟨hb,D8⟩:=Aj hk;simp only[Bool.and_eq_true,decide_eq_true_eq] at hb;obtain⟨⟨⟨⟨⟨⟨⟨Qp,Ls⟩,XU⟩,Sc⟩,A3n⟩,SF⟩,XE⟩,CY⟩:=hb;have Qp:=Nat.eq_of_beq_eq_true Qp;have Ls:=Nat.eq_of_beq_eq_true Ls;have XU:d<N:=Nat.lt_of_succ_le (Nat.le_of_ble_eq_true XU);have Sc:s.hp d=none:=by simpa using Sc
    subst Ls;rw[K1] at Qp;subst Qp;rw[Ps] at XE;have V5:news.length=m*i.size:=by omega
    have A7g:s.hp id≠none:=by rw[h0];simp
    have VA:=h.box id _ h0;refine⟨_,D8,fun next Q hn=>?_⟩
    have grow:∀(ad:Option Addr) (cap:Nat) (olds:List Value),a.eval b=.slice ad n cap->Bb (Ar w (Ct s.hp β Y)) (cc.take (n*i.size)) olds->(∀u∈olds,u.oneCell'=true)->olds.length=n*i.size ->
      ((ad=none∧olds=[])∨∃p,ad=some p∧olds.length=n*i.size∧∀(j:Nat) v,olds[j]?=some v->w.cell? (p.add j)=some v)->cap<n+m->o.wp P a w next Q:=by
     intro ad cap olds Lw holds h1 hol hold Ru;have hr:=I4 (P:=P) (w:=w) (t:=t) (tx:=tx) (ty:=o.type) (ts:=ts) hu hdx KW hi hz hs hold Ru XE CY;rw[←Lw] at hr;refine run hr next Q (hn _ _ (Cg β d (some (w.heap.size,0))) ?_);have XW:n+m<=grownCap w (n+m) cap e:=grownCap_ge w (n+m) cap e
     have Rt:Ff w (w.drew.alloc (.cells (olds.toArray++news.toArray++Builtin.zeroCells z.cells (grownCap w (n+m) cap e-(n+m))) e)) (olds.toArray++news.toArray++Builtin.zeroCells z.cells (grownCap w (n+m) cap e-(n+m))) e:=
      ⟨rfl,rfl,rfl,fun k hk=>Below.heap_alloc w.drew _ k hk,by show (w.heap.push _).size=_;simp,(0,0),by show (w.heap.push _)[w.heap.size]?=_;simp,.inl rfl⟩
     have OV:(olds.toArray++news.toArray++Builtin.zeroCells z.cells (grownCap w (n+m) cap e-(n+m))).size=grownCap w (n+m) cap e*i.size:=by
      simp only[Array.size_append,List.size_toArray,size_zeroCells,hzs,hol,V5,←Nat.add_mul]
      congr 1
      omega
     have GK:∀k y,some (w.heap.size,0)=some (k,y)->w.heap.size<=k∨∃q,β id=some (k,q):=by
      intro k y hh;simp at hh;exact .inl (by omega)
     refine h.move h0 Sc XU rfl rfl rfl (by rw[Rt.size];omega) (fun k hk _=>Rt.old k hk) Rt.step.bs (fun k y hh=>⟨by simp at hh;rw[Rt.size];omega,GK k y hh⟩) (fun k y hh B4=>by simp at hh;omega)
      (fun k y _ B4 j _=>⟨World.cell?_of_block (w:=w) (Rt.old k B4),World.frozen?_of_block (w:=w) (Rt.old k B4)⟩) ?_ ?_ (by intro j hj;simpa [Bo,B6,Am] using hj)
     ·refine .inr ⟨w.heap.size,0,Al _ _ _,Y7 Rt (RB h0 Sc GK) holds hs.rep h1 hs.one,fun _ j _ hj=>?_,(fun q=>by cases q)⟩
      rw[Rt.bsz] at hj;exact Rt.frozen hj
     ·refine .inr ⟨w.heap.size,0,0,grownCap w (n+m) cap e,Al _ _ _,rfl,.inl rfl,XW,?_,by rw[Rt.size];omega⟩
      exact⟨by rw[Rt.bsz,OV];omega,.inr (Hz w.drew _ e)⟩
    rcases hbv with⟨hβ,_,rfl,ad,Lw⟩|⟨bb,ob,y,cap,hβ,Lw,hy,Apc,Ru,Arh⟩
    ·rcases VA with⟨_,rfl⟩|⟨b',o',Ee,_⟩
     ·by_cases hm0:m=0
      ·subst hm0;have hr:=Jd (P:=P) (w:=w) (t:=t) (tx:=tx) (ty:=o.type) (ts:=ts) (ad:=ad) hu hdx KW hi hs (List.eq_nil_of_length_eq_zero (by omega))
       rw[←Lw] at hr;have NK:new=[]:=List.eq_nil_of_length_eq_zero (by omega)
       subst NK;refine run hr next Q (hn _ _ (Cg β d none) ?_);rw[Lw];refine h.move h0 Sc XU rfl rfl rfl (Nat.le_refl _) (fun _ _ _=>rfl) (fun _ _=>F1.refl _ _) (fun k q hh=>by cases hh) (fun k q hh=>by cases hh) (fun _ _ _ _ _ _=>⟨rfl,rfl⟩) ?_ ?_ (by intro j hj;simpa [Bo,B6,Am] using hj)
       ·exact .inl ⟨Al _ _ _,by simp⟩
       ·exact .inl ⟨Al _ _ _,rfl,rfl,ad,rfl⟩
      ·exact grow ad 0 [] Lw (by simp[Bb]) (by simp) (by simp) (by cases ad with
        |none=>exact .inl ⟨rfl,rfl⟩
        |some p=>exact .inr ⟨p,rfl,by simp,fun j v hj=>by simp at hj⟩) (by omega)
     ·rw[hβ] at Ee;cases Ee
    ·rcases VA with⟨Ee,_⟩|⟨b',o',Ee,Gw,Rv,_⟩
     ·rw[hβ] at Ee;cases Ee
     rw[hβ] at Ee;simp at Ee;obtain⟨rfl,rfl⟩:=Ee;have hy:y=ob:=by rcases hy with hy|⟨_,hq⟩<;>omega
     subst hy;by_cases Ab3:n+m<=cap
     ·have Aq7:y+n*i.size+news.length<=bsz w bb:=by
       have h5:n*i.size+m*i.size<=cap*i.size:=by rw[←Nat.add_mul];exact Nat.mul_le_mul_right _ Ab3
       have:=Ru.1;omega
      have Cm:∀k,k<news.length->(w.cell? ⟨bb,y+n*i.size+k,none⟩).isSome=true:=fun k hk=>Abh (by omega)
      have hr:=Wu (P:=P) (w:=w) (t:=t) (tx:=tx) (ty:=o.type) (ts:=ts) (b:=bb) (ob:=y) (n:=n) (cap:=cap) hu hdx KW hi hs V5 Cm (fun k hk=>Rv rfl _ (by omega) (by omega)) Ab3
      rw[←Lw] at hr;have hw:=De.setCells bb news (y+n*i.size) w
      have GK:∀k q,some (bb,y)=some (k,q)->w.heap.size<=k∨∃q',β id=some (k,q'):=by
       intro k q hh;simp at hh;obtain⟨rfl,rfl⟩:=hh;exact .inr ⟨_,hβ⟩
      refine run hr next Q (hn _ _ (Cg β d (some (bb,y))) ?_)
      have E8:B2 (Ct s.hp β Y) w (w.setCells bb (y+n*i.size) news):=by
       have hAb:Ct s.hp β Y bb:=.inl ⟨id,y,by rw[h0];trivial,hβ⟩
       exact⟨by rw[hw.size];exact Nat.le_refl _,fun k _ hk=>hw.other k (fun e=>hk (e ▸ hAb)),fun k _=>hw.grow k⟩
      refine h.move h0 Sc XU hw.os hw.tape hw.output (by rw[hw.size];exact Nat.le_refl _) (fun k _ hq=>hw.other k (by rintro rfl;exact hq _ hβ)) E8.bs (fun k q hh=>⟨by simp at hh;rw[hw.size];omega,GK k q hh⟩) (fun k q hh _=>by rw[hβ];exact hh)
       (fun k q hh _ j hj=>by
        rw[hβ] at hh;cases hh;exact⟨World.cell?_setCells_out bb _ _ w ⟨bb,j,none⟩ (fun _ _=>by show j<y+n*i.size∨y+n*i.size+_<=j;omega),hw.frz j⟩) ?_ ?_ (by intro j hj;simpa [Bo,B6,Am] using hj)
      ·refine .inr ⟨bb,y,Al _ _ _,fun j p hj=>?_,fun _ j hj Om=>?_,(fun q=>by cases q)⟩
       ·rw[D4];by_cases hjn:j<n*i.size
        ·rw[List.getElem?_append_left (by rw[List.length_take];omega),List.getElem?_take_of_lt hjn] at hj
         obtain⟨u,Hc,h5,ht⟩:=Gw j p hj;rw[D4] at Hc;refine⟨u,?_,h5,ht.step E8 (RB h0 Sc GK)⟩;rw[World.cell?_setCells_out bb _ _ w ⟨bb,y+j,none⟩ (fun _ _=>by show y+j<y+n*i.size∨y+n*i.size+_<=y+j;omega)]
         exact Hc
        ·rw[List.getElem?_append_right (by rw[List.length_take];omega),List.length_take,Nat.min_eq_left A3n] at hj
         obtain⟨u,Hc,ht⟩:=hs.rep.get hj
         have B4:j-n*i.size<news.length:=by
          rcases Nat.lt_or_ge (j-n*i.size) news.length with h|h
          ·exact h
          ·rw[List.getElem?_eq_none h] at Hc;cases Hc
         refine⟨u,?_,hs.one u (List.mem_of_getElem? Hc),ht.step E8 (RB h0 Sc GK)⟩;have:=World.cell?_setCells_in bb news (y+n*i.size) w Cm (j-n*i.size) B4;rw[show y+j=y+n*i.size+(j-n*i.size) from by omega,this]
         rw[List.getElem?_eq_getElem B4] at Hc;exact Hc
       ·rw[hw.bs] at Om;rw[hw.frz];exact Rv rfl j hj Om
      ·exact .inr ⟨bb,y,y,cap,Al _ _ _,rfl,.inl rfl,Ab3,Ru.step (hw.grow bb),by rw[hw.size];exact Arh⟩
     ·-- the old cells
      have hob:∀(j:Nat) p,(cc.take (n*i.size))[j]?=some p->∃v,w.cell? ⟨bb,y+j,none⟩=some v∧v.oneCell'=true∧Ar w (Ct s.hp β Y) p v:=by
       intro j p hj;rw[List.getElem?_take] at hj;split at hj
       ·obtain⟨v,hv,h5,ht⟩:=Gw j p hj;rw[D4] at hv;exact⟨v,hv,h5,ht⟩
       ·cases hj
      have Dc:(cc.take (n*i.size)).length=n*i.size:=by rw[List.length_take];omega
      refine grow _ cap ((cc.take (n*i.size)).mapIdx fun j _=>(w.cell? ⟨bb,y+j,none⟩).getD undef) Lw ?_ ?_ (by simp only[List.length_mapIdx];exact Dc) (.inr ⟨_,rfl,by simp only[List.length_mapIdx];exact Dc,fun j v hj=>?_⟩) (by omega)
      ·refine Bb.of_at (by simp) fun j p v hp hv=>?_
       obtain⟨u,Hc,_,ht⟩:=hob j p hp;rw[List.getElem?_mapIdx,hp,Option.map_some,Hc] at hv;simp at hv;subst hv;exact ht
      ·intro v hv;obtain⟨j,hj⟩:=List.mem_iff_getElem?.1 hv;rw[List.getElem?_mapIdx] at hj;cases hp:(cc.take (n*i.size))[j]? with
       |none=>rw[hp] at hj;cases hj
       |some p=>
        obtain⟨u,Hc,h5,_⟩:=hob j p hp;rw[hp,Option.map_some,Hc] at hj;simp at hj;subst hj;exact h5
      ·rw[List.getElem?_mapIdx] at hj;cases hp:(cc.take (n*i.size))[j]? with
       |none=>rw[hp] at hj;cases hj
       |some p=>
        obtain⟨u,Hc,h5,_⟩:=hob j p hp;rw[hp,Option.map_some,Hc] at hj;simp at hj;subst hj;rw[D4];exact Hc
   ·cases hk
  ·obtain⟨zz,n',c',hk,hp⟩:=Ep hk;obtain⟨hb,hk⟩:=Aj hk;simp only[Bool.and_eq_true,decide_eq_true_eq] at hb;obtain⟨⟨⟨⟨⟨hzz,XU⟩,Sc⟩,SF⟩,XE⟩,CY⟩:=hb;have XU:d<N:=Nat.lt_of_succ_le (Nat.le_of_ble_eq_true XU);have Sc:s.hp d=none:=by simpa using Sc
   have QC:Fe N (some d)=true:=by simp[Fe,Nat.blt];omega
   rw[K1] at SF hk;rw[Ps] at XE;have V5:news.length=m*i.size:=by omega
   rcases Fh hp hbv with⟨Lw,_⟩|⟨_,_,_,Ys,_⟩|⟨_,_,_,Ys,_⟩
   ·refine⟨_,hk,fun next Q hn=>?_⟩
    by_cases hm0:m=0
    ·subst hm0;have hr:=Jd (P:=P) (w:=w) (t:=t) (tx:=tx) (ty:=o.type) (ts:=ts) (ad:=none) hu hdx KW hi hs (List.eq_nil_of_length_eq_zero (by omega))
     rw[←Lw] at hr;have NK:new=[]:=List.eq_nil_of_length_eq_zero (by omega)
     subst NK;refine run hr next Q (hn _ _ (Cg β d none) ?_);rw[Lw];refine h.stepR (d:=some d) (nw:=[(d,.ar false [])]) (β':=Cg β d none) QC (by simp[Bn,Sc]) ⟨rfl,rfl,rfl,B2.refl _ _,fun j hj=>Ai _ _ (by rintro rfl;exact hj Sc),?_,?_,?_,?_,?_,.inl ⟨Al _ _ _,rfl,rfl,none,rfl⟩,?_⟩
     ·intro j bx hm;simp at hm;rw[hm.2];trivial
     ·intro j bx hm;simp at hm;obtain⟨rfl,rfl⟩:=hm;exact .inl ⟨Al _ _ _,rfl⟩
     ·intro j bx k q hm hq;simp at hm;obtain⟨rfl,rfl⟩:=hm;rw[Al] at hq;cases hq
     ·intro j bx j' bx' k q q' hm Hw _ _;simp at hm Hw;rw[hm.1,Hw.1]
     ·intro j cells hm;simp at hm
     ·intro j hj;simp[Bo,B6,Am] at hj;subst hj;exact .inr ⟨.ar false [],by simp⟩
    ·have hr:=I4 (P:=P) (w:=w) (t:=t) (tx:=tx) (ty:=o.type) (ts:=ts) (ad:=none) (n:=0) (cap:=0) (olds:=[]) hu hdx KW hi hz hs (.inl ⟨rfl,rfl⟩) (by omega) (by rw[Nat.zero_add];exact XE) (by omega)
     rw[←Lw] at hr;refine run hr next Q (hn _ _ (Cg β d (some (w.heap.size,0))) ?_);have XW:0+m<=grownCap w (0+m) 0 e:=grownCap_ge w (0+m) 0 e
     have Rt:Ff w (w.drew.alloc (.cells (([]:List Value).toArray++news.toArray++Builtin.zeroCells z.cells (grownCap w (0+m) 0 e-(0+m))) e)) (([]:List Value).toArray++news.toArray++Builtin.zeroCells z.cells (grownCap w (0+m) 0 e-(0+m))) e:=
      ⟨rfl,rfl,rfl,fun k hk=>Below.heap_alloc w.drew _ k hk,by show (w.heap.push _).size=_;simp,(0,0),by show (w.heap.push _)[w.heap.size]?=_;simp,.inl rfl⟩
     have OV:(([]:List Value).toArray++news.toArray++Builtin.zeroCells z.cells (grownCap w (0+m) 0 e-(0+m))).size=grownCap w (0+m) 0 e*i.size:=by
      simp only[Array.size_append,List.size_toArray,size_zeroCells,hzs,V5,List.length_nil,←Nat.add_mul];rw[Nat.zero_add (m*i.size),←Nat.add_mul]
      congr 1
      omega
     refine h.stepR (d:=some d) (nw:=[(d,.ar false new)]) QC (by simp[Bn,Sc]) (M1 Rt Sc trivial ?_ (fun cells hx=>by cases hx) ?_ (by intro j hj;simp[Bo,B6,Am] at hj;exact .inr hj))
     ·refine .inr ⟨w.heap.size,0,Al _ _ _,?_,fun _ j _ hj=>?_,(fun q=>by cases q)⟩
      ·exact Y7 (pre:=[]) Rt (SQ Sc) trivial hs.rep (by simp) hs.one
      ·rw[Rt.bsz] at hj;exact Rt.frozen hj
     ·refine .inr ⟨w.heap.size,0,0,grownCap w (0+m) 0 e,Al _ _ _,by rw[Nat.zero_add],.inl rfl,by omega,?_,by rw[Rt.size];omega⟩
      exact⟨by rw[Rt.bsz,OV];omega,.inr (Hz w.drew _ e)⟩
   ·rw[Ys] at hzz;cases hzz
   ·rw[Ys] at hzz;cases hzz
 ·cases hk
theorem PF (h:Cj N w0 X0 Y β s a w){c:Call}(ho:o.op=.call c)(hc:c.callee=.builtin .copy){b x:Operand}(Eh:c.args.toList=[b,x]) {t tx:TypeId}{ts:List TypeId}(Xb:c.argTypes.toList=t::tx::ts)
  {K:St->Option R} (hk:EO P N s o.dst t tx (Bv s.tm b) (Bv s.tm x) K=some r):
  ∃s',K s'=some r∧∀(next:Act->World->Prop) (Q:Exit->Act->World->Prop),(∀a' w' β',Cj N w0 X0 Y β' s' a' w'->next a' w')->o.wp P a w next Q:=by
 have AK:c.args = #[b,x]:=by
  have:c.args=([b,x]:List Operand).toArray:=by rw[←Eh]
  exact this
 have NO:c.argTypes=(t::tx::ts).toArray:=by rw[←Xb]
 have run:∀{v:Value} {w1:World},(Builtin.copy_ (t::tx::ts).toArray o.type #[a.eval b,a.eval x]).run P w=.ok v w1->∀(next:Act->World->Prop) (Q:Exit->Act->World->Prop),next (a.put o.dst v) w1->o.wp P a w next Q:=by
  intro v w1 hr next Q hn;unfold Oper.wp execOp;rw[ho];simp only[resolve,hc,invoke,builtin,Sem.run_bind,Sem.run_pure,Result.andThen_ok,AK,NO];have:(#[b,x]:Array Operand).map a.eval = #[a.eval b,a.eval x]:=by simp
  rw[this,hr];exact hn
 have hbv:=Cn h b;unfold EO at hk;split at hk
 ·rename_i e hu;obtain⟨TY,hk⟩:=Aj hk;simp only[Bool.and_eq_true] at TY;obtain⟨Lz,QC⟩:=TY;obtain⟨i,hi⟩:∃i,P.info? e=some i:=Option.isSome_iff_exists.1 Lz;have K1:A7 P e=i.size:=by unfold A7;rw[hi];rfl
  have h1c:∀(m:Nat) (new:List PV),(match Bv s.tm b with
    |.view id es off n=>
     match s.hp id with
     |some (.ar false c)=>Bi (Nat.beq es (A7 P e)&&decide (off+n*es<=c.length)&&decide (new.length=m*es))
       (Ab (min m n) fun k=>Ab (B8 c (new.take (k*es)) off) fun c=>K ⟨Bj s.tm o.dst (.sc (.int .i64 k)),Cg s.hp id (some (.ar false c))⟩)
     |_=>none
    |_=>none)=some r->new.length=m*A7 P e:=by
   intro m new hk;split at hk
   ·split at hk
    ·obtain⟨hb,_⟩:=Aj hk;simp only[Bool.and_eq_true,decide_eq_true_eq] at hb;rw[←Nat.eq_of_beq_eq_true hb.1.1];exact hb.2
    ·cases hk
   ·cases hk
  obtain⟨_,m,new,news,hk,hs⟩:=AN h hk h1c;split at hk
  ·rename_i id es off n hb;rw[hb] at hbv;split at hk
   ·rename_i cc h0;obtain⟨hb,hk⟩:=Aj hk;simp only[Bool.and_eq_true,decide_eq_true_eq] at hb;obtain⟨⟨Qp,Xc⟩,ZQ⟩:=hb;have Qp:=Nat.eq_of_beq_eq_true Qp;subst Qp;rw[K1] at hk hs Xc ZQ hbv;have V5:news.length=m*i.size:=by rw[←hs.rep.len];exact ZQ
    have hkm:min m n*i.size<=m*i.size:=Nat.mul_le_mul_right _ (Nat.min_le_left _ _);have hkn:min m n*i.size<=n*i.size:=Nat.mul_le_mul_right _ (Nat.min_le_right _ _);have I3:K ⟨Bj s.tm o.dst (.sc (.int .i64 ((min m n:Nat):Int))),Cg s.hp id (some (.ar false (B8 cc (new.take (min m n*i.size)) off)))⟩=some r:=hk;refine⟨_,I3,fun next Q hn=>?_⟩
    have Adf:∀{β':Bt} {Ck:Nat->Option Bk} {w':World},Cj N w0 X0 Y β' ⟨s.tm,Ck⟩ a w'->Cj N w0 X0 Y β' ⟨Bj s.tm o.dst (.sc (.int .i64 ((min m n:Nat):Int))),Ck⟩ (a.put o.dst (goInt ((min m n:Nat):Int))) w':=
     fun hh=>hh.put QC (Ar.sc _) (fun _ hx=>by cases hx)
    have ZF:new.take (min m n*i.size)=[]->Cg s.hp id (some (.ar false (B8 cc (new.take (min m n*i.size)) off)))=s.hp:=by
     intro e;rw[e];refine Sf _ ?_;rw[h0];simp[B8]
    have nothing:min m n*i.size=0->∀(ad:Option Addr) (cap:Nat),a.eval b=.slice ad n cap->o.wp P a w next Q:=by
     intro e ad cap Lw;have hr:=MF (P:=P) (w:=w) (w1:=w) (t:=t) (ty:=o.type) (ts:=tx::ts) (ad:=ad) (n:=n) (cap:=cap) hu hi hs (by rw[e];cases ad<;>simp[storeCells])
     rw[←Lw] at hr;refine run hr next Q (hn _ _ β (Adf ?_));rw[ZF (by rw[e,List.take_zero])]
     exact h
    rcases hbv with⟨hβ,_,rfl,ad,Lw⟩|⟨bb,ob,y,cap,hβ,Lw,hy,Apc,Ru,Arh⟩
    ·exact nothing (by simp) ad 0 Lw
    ·by_cases hm0:min m n*i.size=0
     ·exact nothing hm0 _ _ Lw
     rcases h.box id _ h0 with⟨Ee,_⟩|⟨b',o',Ee,Gw,Rv,_⟩
     ·rw[hβ] at Ee;cases Ee
     rw[hβ] at Ee;simp at Ee;obtain⟨rfl,rfl⟩:=Ee;have Ub:n≠0:=by rintro rfl;simp at hm0
     have hy:y=ob+off:=by rcases hy with hy|⟨hq,_⟩<;>first|exact absurd hq Ub|exact hy
     subst hy;have B4:(news.take (min m n*i.size)).length=min m n*i.size:=by rw[List.length_take,V5];omega
     have Cm:∀k,k<(news.take (min m n*i.size)).length->(w.cell? ⟨bb,ob+off+k,none⟩).isSome=true:=by
      intro k hk;obtain⟨v,hv,_⟩:=Gw (off+k) _ (List.getElem?_eq_getElem (by omega))
      rw[D4] at hv;rw[Nat.add_assoc,hv];rfl
     have XZ:∀k,k<(news.take (min m n*i.size)).length->w.frozen? ⟨bb,ob+off+k,none⟩=false:=fun k hk=>by
      obtain⟨u,hu⟩:=Option.isSome_iff_exists.1 (Cm k hk);exact Rv rfl _ (by omega) (Zl hu)
     have h1:∀u∈news.take (min m n*i.size),u.oneCell'=true:=fun u hu=>hs.one u (List.mem_of_mem_take hu)
     have h3:=run_storeCells_cells (P:=P) bb (ob+off) (news.take (min m n*i.size)) 0 w (fun k hk=>by simpa using Cm k hk) (fun k hk=>by simpa using XZ k hk) h1
     have hr:=MF (P:=P) (w:=w) (t:=t) (ty:=o.type) (ts:=tx::ts) (ad:=some ⟨bb,ob+off,none⟩) (n:=n) (cap:=cap) hu hi hs h3;rw[←Lw] at hr;simp only[Nat.add_zero] at hr;refine run hr next Q (hn _ _ β (Adf ?_))
     refine h.write h0 trivial trivial hβ (De.setCells bb _ _ w) ?_ (fun cells hx=>by cases hx) (fun _ hx=>by cases hx) (fun j hj=>hj) (fun j hj=>by
      refine World.cell?_setCells_out bb _ _ w ⟨bb,j,none⟩ (fun _ _=>?_)
      have hj:¬(ob<=j):=hj;show j<ob+off∨ob+off+_<=j;omega)
     have E8:B2 (Ct s.hp β Y) w (w.setCells bb (ob+off) (news.take (min m n*i.size))):=by
      have hw:=De.setCells bb (news.take (min m n*i.size)) (ob+off) w;have hAb:Ct s.hp β Y bb:=.inl ⟨id,ob,by rw[h0];trivial,hβ⟩
      exact⟨by rw[hw.size];exact Nat.le_refl _,fun k _ hk=>hw.other k (fun e=>hk (e ▸ hAb)),fun k _=>hw.grow k⟩
     have hll:(new.take (min m n*i.size)).length=min m n*i.size:=by rw[List.length_take,ZQ];omega
     refine .inr ⟨bb,ob,hβ,fun j p hj=>?_,fun _ j hj Om=>?_,(fun x=>by cases x)⟩
     ·rw[D4];rcases Nt (by omega) hj with⟨h3,h4,h5⟩|⟨h3,h5⟩
      ·have Aq8:j-off<min m n*i.size:=by omega
       rw[List.getElem?_take_of_lt Aq8] at h5;obtain⟨u,hu,hcu⟩:=hs.rep.get h5;have ZV:j-off<(news.take (min m n*i.size)).length:=by omega
       refine⟨u,?_,hs.one u (List.mem_of_getElem? hu),hcu.step E8 (fun _ _ x=>x)⟩
       have:=World.cell?_setCells_in bb (news.take (min m n*i.size)) (ob+off) w Cm (j-off) ZV;rw[show ob+j=ob+off+(j-off) from by omega,this]
       rw[←List.getElem?_eq_getElem ZV,List.getElem?_take_of_lt Aq8];exact hu
      ·obtain⟨v,hv,h6,We⟩:=Gw j p h5;rw[D4] at hv;refine⟨v,?_,h6,We.step E8 (fun _ _ x=>x)⟩
       rw[World.cell?_setCells_out bb _ _ w ⟨bb,ob+j,none⟩ (fun _ _=>by show ob+j<ob+off∨ob+off+_<=ob+j;omega)]
       exact hv
     ·rw[(De.setCells bb _ _ w).bs] at Om;rw[(De.setCells bb _ _ w).frz];exact Rv rfl j hj Om
   ·cases hk
  ·cases hk
 ·cases hk
theorem QH (h:Cj N w0 X0 Y β s a w){G:Rx}(Ie:MZ P G w0 X0){C:Fu}{call:Ax}(Df:∀f args res,call f args=some res->Cw G P f args res){K:St->Option R}(hk:Qv C P N call s o K=some r):
  ∃s',K s'=some r∧∀(next:Act->World->Prop) (Q:Exit->Act->World->Prop),(∀a' w' β',Cj N w0 X0 Y β' s' a' w'->next a' w')->o.wp P a w next Q:=by
 unfold Qv at hk;split at hk
 ·rename_i t x y ho;obtain⟨hd,hk⟩:=Aj hk;exact KD h ho (by simpa using hd) hk
 ·rename_i c ho;split at hk
  ·rename_i hc;obtain⟨d,hd,Dn⟩:=B3 hk;obtain⟨b,xs,BB,D8⟩:=A6 Dn;obtain⟨x,ys,hys,I1⟩:=A6 D8;obtain⟨Ut,Qy⟩:=C6 I1;obtain⟨t,us,XT,PH⟩:=A6 Qy;obtain⟨tx,vs,Of,hk6⟩:=A6 PH;rw[hys,Ut] at BB;rw[Of] at XT;exact HD h ho hc hd BB XT hk6
  ·rename_i hc;obtain⟨b,xs,BB,D8⟩:=A6 hk;obtain⟨x,ys,hys,I1⟩:=A6 D8;obtain⟨Ut,Qy⟩:=C6 I1;obtain⟨t,us,XT,PH⟩:=A6 Qy;obtain⟨tx,vs,Of,hk6⟩:=A6 PH;rw[hys,Ut] at BB;rw[Of] at XT;exact PF h ho hc BB XT hk6
  ·rename_i f hc;exact LS h Ie Df ho hc hk
  ·cases hk
 ·cases hk
theorem RM (h:Cj N w0 X0 Y β s a w){G:Rx}(Ie:MZ P G w0 X0){C:Fu}{call:Ax}(Df:∀f args res,call f args=some res->Cw G P f args res){K:St->Option R}(hk:KF C P N call o s K=some r):
  ∃s',K s'=some r∧∀(next:Act->World->Prop) (Q:Exit->Act->World->Prop),(∀a' w' β',Cj N w0 X0 Y β' s' a' w'->next a' w')->o.wp P a w next Q:=by
 unfold KF at hk;cases hm:Nc C P o.op
 ·rw[hm] at hk;exact OT h Ie Df hk
 ·rw[hm] at hk;exact QH h Ie Df hk
end
end
end Go.Proofs.YtodnjibebeghjaaDoor.Pv
