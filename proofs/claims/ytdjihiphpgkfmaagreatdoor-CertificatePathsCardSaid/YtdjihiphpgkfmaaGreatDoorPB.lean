/-
  The proof of CertificatePaths, part 2.
-/
import Derived.Test.YtdjihiphpgkfmaaGreatDoorPA
import Derived.Laws.Append
import Derived.IntWalk
import Derived.Laws.AppendOwn
import Derived.Laws.IdiomCopy
set_option linter.unusedSimpArgs false
set_option linter.unusedVariables false
namespace Go.Proofs.YtdjihiphpgkfmaaGreatDoor.Pv
section
open Go.RowKit
def Hz (w:World)(A:Nat->Prop)(own:Option (Nat × Nat)) (p:PV)(u:Value):Prop:=
 match p with
 |.own es n c=>(own=none∧n=0∧c=[]∧u=.slice none 0 0) ∨
   ∃b o cap,own=some (b,o)∧u=.slice (some ⟨b,o,none⟩) n cap∧n<=cap∧o+cap*es<=bsz w b∧b<w.heap.size∧QC w A ⟨b,o,none⟩ c∧∀j,o<=j->j<bsz w b->w.frozen? ⟨b,j,none⟩=false
 |p=>A7 w A p u
def F7 (w:World)(A:Nat->Prop)(own:Bt):Nat->List PV->List Value->Prop
 |_,[],[]=>True
 |j,p::ps,u::us=>Hz w A (own j) p u∧F7 w A own (j+1) ps us
 |_,_,_=>False
def Al0 (w:World)(A:Nat->Prop)(own:Bt)(j b o:Nat)(cs:List PV):Prop:=
 ∃vs,F7 w A own j cs vs∧(∀(k:Nat) v,vs[k]?=some v->w.cell? ⟨b,o+k,none⟩=some v)∧∀k,k<cs.length->w.frozen? ⟨b,o+k,none⟩=false
def Akv (w:World)(A:Nat->Prop)(own:Bt)(z j:Nat)(p:PV)(u:Value):Prop:=
 match p with
 |.agg cs=>∃vs,u=.agg ⟨vs⟩∧F7 w A own j cs vs
 |.pbox cs=>∃b o,own j=some (b,o)∧z<=b∧u=.pointer (some ⟨b,o,none⟩)∧Al0 w A own (j+1) b o cs
 |p=>Hz w A (own j) p u
def plc:PV->Nat
 |.pbox cs=>1+cs.length
 |p=>(cellsOf p).length
def Acz (w:World)(A:Nat->Prop)(own:Bt)(z:Nat):Nat->List PV->List Value->Prop
 |_,[],[]=>True
 |j,p::ps,u::us=>Akv w A own z j p u∧Acz w A own z (j+plc p) ps us
 |_,_,_=>False
abbrev IV:=Nat->Nat->Option (Nat × Nat)
def BtX (bt:IV)(b:Nat):Prop:=∃i j o,bt i j=some (b,o)
def isA (p:PV):Prop:=Zc p∨∃es n c,p=.own es n c
def EH (p:PV):Bool:=
 match p with
 |.pbox _=>true
 |.tup _=>true
 |_=>false
theorem Ala {p:PV}(h:isA p):EH p=false:=by
 rcases h with h|⟨_,_,_,rfl⟩
 ·cases p<;>first|rfl|exact h.elim
 ·rfl
def VH (w:World)(A:Nat->Prop)(bt:Bt)(p:PV)(u:Value):Prop:=
 match p with
 |.pbox ps=>∃b o,bt 0=some (b,o)∧u=.pointer (some ⟨b,o,none⟩)∧(∀p∈ps,isA p)∧Al0 w A bt 1 b o ps
 |.tup ps=>∃es n c,ps=[.own es n c]∧Hz w A (bt 0) (.own es n c) u
 |.agg cs=>∃vs,u=.agg ⟨vs⟩∧(∀p∈cs,isA p)∧F7 w A bt 1 cs vs
 |p=>isA p∧Hz w A (bt 1) p u
def Ow (w:World)(A:Nat->Prop)(bt:IV):Nat->List PV->List Value->Prop
 |_,[],[]=>True
 |i,p::ps,u::us=>VH w A (bt i) p u∧Ow w A bt (i+1) ps us
 |_,_,_=>False
def Apn (bt:Bt)(p:PV)(b j:Nat):Prop:=
 (∃k o,bt (k+1)=some (b,o)∧o<=j)∨∃o ps,bt 0=some (b,o)∧o<=j∧((p=.pbox ps∧j<o+ps.length)∨p=.tup ps)
def QB (bt:IV)(args:List PV)(b j:Nat):Prop:=∃i p,args[i]?=some p∧Apn (bt i) p b j
def CD (w:World)(A:Nat->Prop)(own:Bt)(bt:IV):Nat->Nat->List PV->List (List PV)->Prop
 |_,_,[],r=>r=[]
 |j,i,p::zs,r=>
  match p with
  |.pbox ps=>
   match r with
   |[]=>False
   |cs::r=>(∃b o,bt i 0=some (b,o)∧cs.length=ps.length∧Al0 w A own j b o cs)∧CD w A own bt (j+cs.length) (i+1) zs r
  |.tup _=>
   match r with
   |[]=>False
   |cs::r=>((bt i 0=none∧cs=[])∨∃b o,bt i 0=some (b,o)∧QC w A ⟨b,o,none⟩ cs∧∀k,o<=k->k<bsz w b->w.frozen? ⟨b,k,none⟩=false)∧CD w A own bt j (i+1) zs r
  |_=>CD w A own bt j (i+1) zs r
def SK (bt:IV)(own:Bt)(Y:Nat->Prop)(b:Nat):Prop:=(∃j o,own j=some (b,o))∨(∃i o,bt i 0=some (b,o))∨Y b
def Ru (vals:List PV):Nat:=(vals.map plc).sum
structure Out (w w':World) (Y:Nat->Prop) (bt:IV) (args:List PV) (own:Bt) (r:A0) (vs:List Value):Prop where
 os:w'.os=w.os
 tape:w'.tape=w.tape
 output:w'.output=w.output
 ext:Cb (BtX bt) w w'
 rng:∀b j,b<w.heap.size->¬QB bt args b j->w'.cell? ⟨b,j,none⟩=w.cell? ⟨b,j,none⟩∧w'.frozen? ⟨b,j,none⟩=w.frozen? ⟨b,j,none⟩
 vals:Acz w' (SK bt own Y) own w.heap.size 0 r.vals vs
 outs:CD w' (SK bt own Y) own bt (Ru r.vals) 0 args r.outs
 fresh:∀j b o,own j=some (b,o)->b<w'.heap.size∧(b<w.heap.size->(∃i k o',bt i (k+1)=some (b,o'))∧∀x,o<=x->QB bt args b x)
 inj:∀j j' b o o',own j=some (b,o)->own j'=some (b,o')->j=j'
def Mj (us:List Value):Value:=match us with|[u]=>u|us=>.tuple ⟨us⟩
def Uq (w:World)(Y:Nat->Prop)(p:PV)(u:Value):Prop:=
 match p with
 |.agg cs=>∃vs,u=.agg ⟨vs⟩∧Bk (fun c v=>Zc c∧A7 w Y c v) cs vs
 |p=>Zc p∧A7 w Y p u
structure Ins (w:World) (Y:Nat->Prop) (bt:IV) (args:List PV) (us:List Value):Prop where
 Ylt:∀b,Y b->b<w.heap.size
 Yx:∀b,Y b->¬BtX bt b
 lt:∀b,BtX bt b->b<w.heap.size
 inj:∀i j i' j' b o o',bt i j=some (b,o)->bt i' j'=some (b,o')->i=i'∧j=j'
 l0:∀i q,bt i 0=some q->∃p,args[i]?=some p∧EH p=true
 args:Ow w (fun b=>BtX bt b∨Y b) bt 0 args us
structure Vq where
 bl:Nat->Prop
 ok:World->Prop
 stable:∀w w':World,(∀b,bl b->b<w.heap.size->w'.heap[b]?=w.heap[b]?)->ok w->ok w'
def C9 (G:Vq)(P:Program)(f:FuncId)(args:List PV)(r:A0):Prop:=
 (∃fn,P.funcs[f]?=some fn∧fn.body.isSome=true)∧∀(w:World)(Y:Nat->Prop)(bt:IV)(us:List Value),Ins w Y bt args us->G.ok w->(∀b,G.bl b->b<w.heap.size∧¬BtX bt b) ->
  Calls P f us.toArray w fun e w'=>∃vs own,e=.returned (Mj vs)∧Out w w' Y bt args own r vs
def OD:IV:=fun _ _=>none
theorem Wt (b:Nat):¬BtX OD b:=by rintro ⟨_,_,_,h⟩;cases h
theorem Ml {w:World}{A:Nat->Prop}{q:Option (Nat × Nat)} {p:PV}{u:Value}(hp:Zc p)(h:A7 w A p u):Hz w A q p u:=by
 cases p<;>first|exact h|exact hp.elim
theorem GF {w:World}{A:Nat->Prop}{own:Bt}:∀{cs:List PV}{vs:List Value}{j:Nat},Bk (fun c v=>Zc c∧A7 w A c v) cs vs->F7 w A own j cs vs
 |[],[],_,_=>trivial
 |_::_,_::_,_,h=>⟨Ml h.1.1 h.1.2,GF h.2⟩
 |[],_::_,_,h=>h.elim
 |_::_,[],_,h=>h.elim
theorem Ae5 {w:World}{A:Nat->Prop}{bt:Bt}{p:PV}{u:Value}(h:Uq w A p u):VH w A bt p u:=by
 cases p with
 |agg cs=>
  obtain ⟨vs,h1,h2⟩:=h;refine ⟨vs,h1,fun p hp=>.inl ?_,GF h2⟩
  obtain ⟨j,hj⟩:=List.mem_iff_getElem?.1 hp;obtain ⟨v,_,hv⟩:=h2.get hj;exact hv.1
 |sc v=>exact ⟨.inl trivial,h.2⟩
 |lst z es n c=>exact ⟨.inl trivial,h.2⟩
 |_=>exact h.1.elim
theorem KN {w:World}{A:Nat->Prop}{bt:IV}:∀{ps:List PV}{us:List Value}{i:Nat},Bk (Uq w A) ps us->Ow w A bt i ps us
 |[],[],_,_=>trivial
 |_::_,_::_,_,h=>⟨Ae5 h.1,KN h.2⟩
 |[],_::_,_,h=>h.elim
 |_::_,[],_,h=>h.elim
theorem Aed {w:World}{A A':Nat->Prop}(hA:∀b,b<w.heap.size->A' b->A b){p:PV}{v:Value}(h:Uq w A p v):Uq w A' p v:=by
 cases p with
 |agg cs=>
  obtain ⟨vs,rfl,h2⟩:=h;exact ⟨vs,rfl,h2.mono fun c v hc=>⟨hc.1,hc.2.step (Cb.refl _ _) hA⟩⟩
 |sc v=>exact ⟨h.1,h.2.step (Cb.refl _ _) hA⟩
 |lst z es n c=>exact ⟨h.1,h.2.step (Cb.refl _ _) hA⟩
 |_=>exact h.1.elim
theorem XR {w:World}{Y:Nat->Prop}{args:List PV}{us:List Value}(hY:∀b,Y b->b<w.heap.size)(h:Bk (Uq w Y) args us):Ins w Y OD args us:=
 ⟨hY,fun b _=>Wt b,fun b h=>absurd h (Wt b),(fun _ _ _ _ _ _ _ h=>by cases h),(fun _ _ h=>by cases h),KN (h.mono fun _ _ hx=>Aed (fun b _ hb=>hb.elim (fun q=>absurd q (Wt b)) id) hx)⟩
def NoNG (P:Program):Prop:=∀(f:FuncId) (fn:Func),P.funcs[f]?=some fn->(fn.name == "runtime.NumGoroutine")=false
structure IM (P:Program) (G:Vq) (w0:World) (X0:Fh):Prop where
 ng:NoNG P
 fr:∀w,Fr X0 w0 w->G.ok w
 y:∀b,G.bl b->b<w0.heap.size∧¬X0.X b
section
variable {R:Type} {r:R} {P:Program} {N:Nat} {w0:World} {X0:Fh} {Y:Nat->Prop} {β β':Bt} {s:St} {a:Act} {w w':World} {o:Oper} {A:Nat->Prop}
def MC (P:Program)(a:Act)(w:World)(o:Oper)(Y:Nat->Prop)(β:Bt)(s:St)(v:PV)(fz:List Nat)(nw:List (Nat × Bn)):Prop:=
 (∀id∈fz,∃f c,s.hp id=some (.ar f c))∧∀(next:Act->World->Prop)(Q:Exit->Act->World->Prop),
  (∀val w',(B9 s.hp nw=true->∃β',OY Y β ⟨s.tm,Ai s.hp fz⟩ w v nw val w' β')->next (a.put o.dst val) w')->o.wp P a w next Q
theorem UT {v:PV}{fz:List Nat}{nw:List (Nat × Bn)} (h:Fi P a w o Y β s v fz nw):MC P a w o Y β s v fz nw:=by
 obtain ⟨h1,val,w',hr,hs⟩:=h;refine ⟨h1,fun next Q hn=>?_⟩
 unfold Oper.wp;rw [hr];exact hn val w' hs
theorem Ahh (h:B4 N w0 X0 Y β s a w){t:TypeId}{x:PV}{u:Value}(hx:Dx w (C1 s.hp β Y) β x u) {K:PV->List Nat->Option R}(hk:Abe P (Kz s.hp) t x K=some r):
  ∃p m,K p m=some r∧(∀id∈m,∃f cc,s.hp id=some (.ar f cc))∧(cellsOf p).length=(Iz P t).length∧∀fz:List Nat,(∀id∈m,id∈fz)->(∀id∈fz,∃f cc,s.hp id=some (.ar f cc))->Uq w (C1 (Ai s.hp fz) β Y) p u:=by
 unfold Abe at hk;cases hagg:Cv P t
 ·rw [hagg] at hk;obtain ⟨cs,m,hk,hl,hl',hT,hF,hm,hv⟩:=Sx h (show Po _ _ _ _=some r from hk)
  obtain ⟨c,t',rfl,hk⟩:=Be hk;obtain ⟨rfl,hk⟩:=Dt hk;have hcT:=hT c (by simp)
  refine ⟨c,m,hk,hm,?_,fun fz h1 h2=>?_⟩
  ·have:cellsOf c=[c]:=by cases c<;>first|rfl|exact hcT.elim
   rw [this];exact hl
  have hF':=hF _ (List.mem_singleton_self _)
  have hc:Cc w (C1 s.hp β Y) β x u:=by
   cases x<;>first|exact hx|exact hF'.elim
  have h3:=(hv fz h1 h2 [u] ⟨hc,trivial⟩).1.1;cases c<;>first|exact ⟨trivial,h3⟩|exact hcT.elim
 ·rw [hagg] at hk;obtain ⟨ps,hp,hk⟩:=Id (show C4 _ _=some r from hk)
  rw [hp] at hx;obtain ⟨cs,m,hk,hl,hl',hT,hF,hm,hv⟩:=Sx h hk;obtain ⟨vs,hax,h2⟩:=hx;refine ⟨.agg cs,m,hk,hm,hl,fun fz h1 h3=>⟨vs,hax,?_⟩⟩
  exact (hv fz h1 h3 vs h2).1.mono_mem fun c hc v hcv=>⟨hT c hc,hcv⟩
theorem Ai3 (h:B4 N w0 X0 Y β s a w){t:TypeId}{x:Operand}{K:PV->List Nat->Option R}(hk:Abe P (Kz s.hp) t (Cm s.tm x) K=some r):
  ∃p m,K p m=some r∧(∀id∈m,∃f cc,s.hp id=some (.ar f cc))∧∀fz:List Nat,(∀id∈m,id∈fz)->(∀id∈fz,∃f cc,s.hp id=some (.ar f cc))->Uq w (C1 (Ai s.hp fz) β Y) p (a.eval x):=by
 obtain ⟨p,m,h1,h2,_,h3⟩:=Ahh h (Df h x) hk;exact ⟨p,m,h1,h2,h3⟩
theorem RJ (h:B4 N w0 X0 Y β s a w):∀{ts:List TypeId}{xs:List Operand}{K:List PV->List Nat->Option R},KA P (Kz s.hp) ts (xs.map (Cm s.tm)) K=some r ->
  ∃ps m,K ps m=some r∧(∀id∈m,∃f cc,s.hp id=some (.ar f cc))∧∀fz:List Nat,(∀id∈m,id∈fz)->(∀id∈fz,∃f cc,s.hp id=some (.ar f cc))->Bk (Uq w (C1 (Ai s.hp fz) β Y)) ps (xs.map a.eval)
 |[],[],K,hk=>⟨[],[],hk,by simp,fun _ _ _=>trivial⟩
 |[],_::_,K,hk=>by cases hk
 |_::_,[],K,hk=>by cases hk
 |t::ts,x::xs,K,hk=>by
  simp only [List.map_cons] at hk;unfold KA at hk;obtain ⟨p,m,hk,hm,hv⟩:=Ai3 h hk;obtain ⟨ps,ms,hk,hms,hvs⟩:=RJ h hk;refine ⟨p::ps,m++ms,hk,?_,fun fz h1 h2=>⟨hv fz (fun i hi=>h1 i (by simp [hi])) h2,hvs fz (fun i hi=>h1 i (by simp [hi])) h2⟩⟩
  intro i hi;rcases List.mem_append.1 hi with hi|hi
  ·exact hm i hi
  ·exact hms i hi
theorem Uq.weaken {A':Nat->Prop}(hA:∀b,b<w.heap.size->A' b->A b){p:PV}{v:Value}(h:Uq w A p v):Uq w A' p v:=by
 have one:Zc p->Zc p∧A7 w A p v->Uq w A' p v:=by
  intro hp h;cases p<;>first|exact ⟨h.1,h.2.step (Cb.refl _ _) hA⟩|exact hp.elim
 cases p with
 |agg cs=>
  obtain ⟨vs,rfl,h2⟩:=h;exact ⟨vs,rfl,h2.mono fun c v hc=>⟨hc.1,hc.2.step (Cb.refl _ _) hA⟩⟩
 |_=>exact one h.1 h
theorem Ajb {t:CT}{p:PV}{K:PV->Option R}(h:FK t p K=some r):
  ∃c,K c=some r∧Zc c∧Zc p∧(∀(w:World) (A:Nat->Prop) (β:Nat->Option (Nat × Nat)) (v:Value),Cc w A β p v->A7 w A c v∧v.oneCell'=true)∧((∀es,t ≠ .sl es)->∃v,c=.sc v):=by
 obtain ⟨c,hk,hT,hpT,hv⟩:=Pc h;cases t with
 |sl es=>exact ⟨c,hk,hT,hpT,hv,fun hne=>absurd rfl (hne es)⟩
 |int k=>obtain ⟨n,rfl,h2⟩:=H8 h;exact ⟨_,h2,trivial,trivial,fun w A β v hv=>⟨hv,by have:=A7.val (w:=w) (A:=A) hv;subst this;rfl⟩,fun _=>⟨_,rfl⟩⟩
 |bool=>obtain ⟨n,rfl,h2⟩:=G0 h;exact ⟨_,h2,trivial,trivial,fun w A β v hv=>⟨hv,by have:=A7.val (w:=w) (A:=A) hv;subst this;rfl⟩,fun _=>⟨_,rfl⟩⟩
 |str=>obtain ⟨n,rfl,h2⟩:=Gb h;exact ⟨_,h2,trivial,trivial,fun w A β v hv=>⟨hv,by have:=A7.val (w:=w) (A:=A) hv;subst this;rfl⟩,fun _=>⟨_,rfl⟩⟩
 |any=>
  obtain ⟨f,a,b,rfl,h2⟩:=UH (show fnK p (fun v=>K (.sc v))=some r from h)
  exact ⟨_,h2,trivial,trivial,fun w A β v hv=>⟨hv,by have:=A7.val (w:=w) (A:=A) hv;subst this;rfl⟩,fun _=>⟨_,rfl⟩⟩
theorem Xd (shr:Bool)(N:Nat):∀{ts:List CT}{ps:List PV}{id:Nat}{K:List PV->List (Nat × Bn)->Option R},Ss shr N id ts ps K=some r ->
  ∃cs bs,K cs bs=some r∧ps.length=ts.length∧(∀p∈ps,∀x,p ≠ .agg x∧p ≠ .pbox x)∧(∀c∈cs,OO c)∧((∀es,CT.sl es ∉ ts)->bs=[]∧∀c∈cs,∃v,c=.sc v) ∧
   (∀i bx,(i,bx)∈bs->∃j es n c,ps[j]?=some (.own es n c)∧i=id+N*j∧bx=.ar false c) ∧
   (∀c∈cs,∀i∈Ay c,∃bx,(i,bx)∈bs) ∧
   ∀(w:World) (A:Nat->Prop) (own β':Bt) (j0:Nat) (us:List Value),(∀j,(∃bx,(id+N*j,bx)∈bs)->β' (id+N*j)=own (j0+j))->F7 w A own j0 ps us->Bk (Cc w A β') cs us
 |[],ps,id,K,hk=>by
  obtain ⟨rfl,hk⟩:=Dt hk;refine ⟨[],[],hk,rfl,by simp,by simp,by simp,by simp,by simp,fun w A own β' j0 us _ h=>?_⟩
  cases us with
  |nil=>trivial
  |cons u us=>exact h.elim
 |t::ts,ps,id,K,hk=>by
  unfold Ss at hk;obtain ⟨p,ps',hps,hk1⟩:=Be hk;subst hps;clear hk
  have main:∃c b,(Ss shr N (id+N) ts ps' fun cs bs=>K (c::cs) (b++bs))=some r∧(∀x,p ≠ .agg x∧p ≠ .pbox x)∧OO c∧((∀es,t≠CT.sl es)->b=[]∧∃v,c=.sc v)∧(∀i bx,(i,bx)∈b->∃es n cc,p=.own es n cc∧i=id∧bx=.ar false cc)∧(∀i∈Ay c,∃bx,(i,bx)∈b) ∧
    ∀(w:World) (A:Nat->Prop) (own:Option (Nat × Nat)) (β':Bt) (u:Value),((∃bx,(id,bx)∈b)->β' id=own)->Hz w A own p u->Cc w A β' c u:=by
   have tree:∀t',t'=t->(FK t' p fun c=>Ss shr N (id+N) ts ps' fun cs bs=>K (c::cs) ([]++bs))=some r->∃c b,(Ss shr N (id+N) ts ps' fun cs bs=>K (c::cs) (b++bs))=some r∧(∀x,p ≠ .agg x∧p ≠ .pbox x)∧OO c∧((∀es,t≠CT.sl es)->b=[]∧∃v,c=.sc v)∧(∀i bx,(i,bx)∈b->∃es n cc,p=.own es n cc∧i=id∧bx=.ar false cc)∧(∀i∈Ay c,∃bx,(i,bx)∈b) ∧
     ∀(w:World) (A:Nat->Prop) (own:Option (Nat × Nat)) (β':Bt) (u:Value),((∃bx,(id,bx)∈b)->β' id=own)->Hz w A own p u->Cc w A β' c u:=by
    intro t' ht' hk;have hsc:=Ajb hk;obtain ⟨c,hk,hT,hpT,hv,hsc⟩:=hsc;refine ⟨c,[],hk,fun x=>⟨DT hpT x,by rintro rfl;exact hpT⟩,Uv hT,fun hne=>⟨rfl,hsc (fun es e=>hne es (ht'.symm.trans e))⟩,by simp,by rw [Ik hT];simp,fun w A own β' u _ hc=>?_⟩
    have hc':Cc w A β' p u:=by cases p<;>first|exact hc|exact hpT.elim
    exact (Ng hT).2 (hv w A β' u hc').1
   unfold Ag9 at hk1;cases t with
   |sl es=>
    dsimp only at hk1;cases shr
    ·unfold Es at hk1;simp only [cond_false] at hk1;split at hk1
     ·rename_i es' n c;cases hb:Nat.beq es' es
      ·rw [hb] at hk1;cases hk1
      ·rw [hb] at hk1;have:=Nat.eq_of_beq_eq_true hb;subst this;refine ⟨_,_,hk1,by simp,trivial,fun hne=>absurd rfl (hne _),?_,?_,fun w A own β' u hβ hc=>?_⟩
       ·intro i bx hm;simp at hm;exact ⟨_,_,_,rfl,hm.1,hm.2⟩
       ·intro i hi;simp [Ay] at hi;subst hi;exact ⟨.ar false c,by simp⟩
       ·have hβ':=hβ ⟨.ar false c,by simp⟩
        clear hβ;rcases hc with ⟨h1,rfl,rfl,h4⟩|⟨b,ob,cap,h1,h2,h3,h4,h5,_⟩
        ·exact .inl ⟨hβ'.trans h1,rfl,rfl,h4⟩
        ·exact .inr ⟨b,ob,ob,cap,hβ'.trans h1,h2,.inl rfl,h3,h4,h5⟩
     ·cases hk1
    ·obtain ⟨c,hk,hT,hpT,hv,_⟩:=Ajb (t:=.sl es) (p:=p) (K:=fun c=>Ss true N (id+N) ts ps' fun cs bs=>K (SZ c::cs) ([]++bs)) hk1
     have hU:Zc (SZ c):=by cases c<;>exact hT
     refine ⟨SZ c,[],hk,fun x=>⟨DT hpT x,by rintro rfl;exact hpT⟩,Uv hU,fun hne=>absurd rfl (hne _),by simp,by rw [Ik hU];simp,fun w A own β' u _ hc=>?_⟩
     have hc':Cc w A β' p u:=by cases p<;>first|exact hc|exact hpT.elim
     refine (Ng hU).2 ?_;have:=(hv w A β' u hc').1;cases c with
     |lst z es n c=>exact A7.unz this
     |_=>exact this
   |int k=>exact tree (.int k) rfl hk1
   |bool=>exact tree .bool rfl hk1
   |str=>exact tree .str rfl hk1
   |any=>exact tree .any rfl hk1
  obtain ⟨c,b,hk,hpa,hF,hsl,hb1,hb2,hcv⟩:=main;obtain ⟨cs,bs,hk,hl,hpas,hFs,hsls,hbs1,hbs2,hcvs⟩:=Xd shr N hk;refine ⟨c::cs,b++bs,hk,by simp [hl],?_,?_,?_,?_,?_,fun w A own β' j0 us hβ hoc=>?_⟩
  ·intro x hx;rcases List.mem_cons.1 hx with rfl|hx
   ·exact hpa
   ·exact hpas x hx
  ·intro x hx;rcases List.mem_cons.1 hx with rfl|hx
   ·exact hF
   ·exact hFs x hx
  ·intro hne;obtain ⟨h1,v,h2⟩:=hsl (fun es e=>hne es (by rw [e];simp))
   obtain ⟨h3,h4⟩:=hsls (fun es hm=>hne es (by simp [hm]))
   refine ⟨by rw [h1,h3];rfl,fun x hx=>?_⟩
   rcases List.mem_cons.1 hx with rfl|hx
   ·exact ⟨v,h2⟩
   ·exact h4 x hx
  ·intro i bx hm;rcases List.mem_append.1 hm with hm|hm
   ·obtain ⟨es,n,cc,rfl,rfl,rfl⟩:=hb1 i bx hm;exact ⟨0,es,n,cc,rfl,by simp,rfl⟩
   ·obtain ⟨j,es,n,cc,h1,rfl,h3⟩:=hbs1 i bx hm;exact ⟨j+1,es,n,cc,by simpa using h1,by rw [Nat.mul_add];omega,h3⟩
  ·intro x hx i hi;rcases List.mem_cons.1 hx with rfl|hx
   ·obtain ⟨bx,hm⟩:=hb2 i hi;exact ⟨bx,by simp [hm]⟩
   ·obtain ⟨bx,hm⟩:=hbs2 x hx i hi;exact ⟨bx,by simp [hm]⟩
  ·cases us with
   |nil=>exact hoc.elim
   |cons u us=>
    refine ⟨hcv w A (own j0) β' u (fun ⟨bx,hm⟩=>by have:=hβ 0 ⟨bx,by simp [hm]⟩;simpa using this) hoc.1,?_⟩
    refine hcvs w A own β' (j0+1) us (fun j ⟨bx,hm⟩=>?_) hoc.2
    have e:id+N+N*j=id+N*(j+1):=by rw [Nat.mul_add];omega
    have:=hβ (j+1) ⟨bx,by rw [←e];simp [hm]⟩
    rw [e,this]
    congr 1
    omega
end
open Go.RowKit
section
variable {R:Type} {r:R} {P:Program} {N:Nat} {w0:World} {X0:Fh} {Y:Nat->Prop} {β β':Bt} {s:St} {a:Act} {w w':World} {o:Oper} {A:Nat->Prop}
theorem F7.len:∀{j:Nat}{own:Bt}{ps:List PV}{us:List Value},F7 w A own j ps us->ps.length=us.length
 |_,_,[],[],_=>rfl
 |_,_,_::_,_::_,h=>by simp [F7.len h.2]
 |_,_,[],_::_,h=>h.elim
 |_,_,_::_,[],h=>h.elim
theorem F7.at_:∀{j:Nat}{own:Bt}{ps:List PV}{us:List Value},F7 w A own j ps us->∀{i:Nat} {p},ps[i]?=some p->∃u,us[i]?=some u∧Hz w A (own (j+i)) p u
 |_,_,[],[],_,i,p,h=>by simp at h
 |j,own,_::_,u::_,h,0,p,hp=>by simp at hp;subst hp;exact ⟨u,rfl,h.1⟩
 |j,own,_::_,_::_,h,i+1,p,hp=>by
  simp at hp;obtain ⟨u,hu,hc⟩:=F7.at_ h.2 hp;exact ⟨u,by simpa using hu,by rw [show j+(i+1)=j+1+i from by omega];exact hc⟩
 |_,_,[],_::_,h,_,_,_=>h.elim
 |_,_,_::_,[],h,_,_,_=>h.elim
def Ah1 (N id:Nat)(β':Bt)(w:World)(A:Nat->Prop)(z n:Nat)(bs:List (Nat × Bn)):Prop:=
 ∀i bx,(i,bx)∈bs->(∃j,i=id+N*j∧j<n)∧Cg (some bx)∧Sz w A β' i bx∧∀cs,bx=.st cs->∀b o,β' i=some (b,o)->z<=b
def FZ (bs:List (Nat × Bn)):Prop:=∀i cells,(i,.st cells)∈bs->∀c∈cells,∀i'∈Ay c,∃bx,(i',bx)∈bs
theorem DF {q:Option (Nat × Nat)} {es n i:Nat}{c:List PV}{u:Value}(h:Hz w A q (.own es n c) u) (hβ:β' i=q):Sz w A β' i (.ar false c):=by
 rcases h with ⟨h1,_,h2,_⟩|⟨b,o,cap,h1,_,_,_,_,h6,h7⟩
 ·exact .inl ⟨hβ.trans h1,h2⟩
 ·exact .inr ⟨b,o,hβ.trans h1,h6,fun _=>h7,(fun x=>by cases x)⟩
theorem GA {t:TypeId}(h:Kt P [t]=false):CL P t=none∧∀es,CT.sl es ∉ Iz P t:=by
 simp only [Kt,List.any_cons,List.any_nil,Bool.or_false,Bool.or_eq_false_iff] at h;refine ⟨by simpa using h.1,fun es hm=>?_⟩
 have:=List.any_eq_false.1 h.2 _ hm;simp at this
theorem Ag0 (shr:Bool)(N:Nat){t:TypeId}{p:PV}{id:Nat}{K:PV->List (Nat × Bn)->Option R} (hk:Agc P shr N id t p K=some r):
  ∃v bs,K v bs=some r∧plc p=XT P t∧(∀x,v ≠ .tup x)∧(Kt P [t]=false->bs=[]∧∀c∈cellsOf v,∃u,c=.sc u)∧(∀i∈Cf v,∃bx,(i,bx)∈bs)∧FZ bs ∧
   ∀(w:World) (A:Nat->Prop) (own β':Bt) (z j0:Nat) (u:Value),(∀j,(∃bx,(id+N*j,bx)∈bs)->β' (id+N*j)=own (j0+j))->Akv w A own z j0 p u->G9 w A β' v u∧Ah1 N id β' w A z (plc p) bs:=by
 have boxes:∀{bs:List (Nat × Bn)} {ps:List PV} {id:Nat},(∀i bx,(i,bx)∈bs->∃j es n c,ps[j]?=some (.own es n c)∧i=id+N*j∧bx=.ar false c) ->
   FZ bs∧∀(w:World) (A:Nat->Prop) (own β':Bt) (j0:Nat) (us:List Value),(∀j,(∃bx,(id+N*j,bx)∈bs)->β' (id+N*j)=own (j0+j))->F7 w A own j0 ps us->∀z,Ah1 N id β' w A z ps.length bs:=by
  intro bs ps id hb1;refine ⟨fun i cells hm=>?_,fun w A own β' j0 us hβ ho z i bx hm=>?_⟩
  ·obtain ⟨_,_,_,_,_,_,h3⟩:=hb1 i _ hm;cases h3
  ·obtain ⟨j,es,n,cc,h1,h2,h3⟩:=hb1 i bx hm;obtain ⟨u,hu,hoc⟩:=ho.at_ h1;subst h3;refine ⟨⟨j,h2,?_⟩,trivial,DF hoc ?_,fun _ e=>by cases e⟩
   ·rcases Nat.lt_or_ge j ps.length with h|h
    ·exact h
    ·rw [List.getElem?_eq_none h] at h1;cases h1
   ·rw [h2];exact hβ j ⟨_,h2 ▸ hm⟩
 unfold Agc at hk;split at hk
 ·rename_i e he;obtain ⟨ps,rfl,hk⟩:=RS hk;obtain ⟨cs,bs,hk,hl,hpag,hF,hsl,hb1,hb2,hcv⟩:=Xd shr N hk;obtain ⟨hri,hbx⟩:=boxes hb1;refine ⟨.ptr id 0,_,hk,by simp only [plc,XT,he,hl],by simp,fun h=>?_,fun i hi=>?_,fun i cells hm c hc i' hi'=>?_,fun w A own β' z j0 u hβ ho=>?_⟩
  ·have:=(GA h).1;rw [he] at this;cases this
  ·simp only [Cf,Ay,List.mem_singleton] at hi;subst hi;exact ⟨_,List.mem_cons_self⟩
  ·rcases List.mem_cons.1 hm with e|hm
   ·cases e;obtain ⟨bx,hb⟩:=hb2 c hc i' hi';exact ⟨bx,List.mem_cons_of_mem _ hb⟩
   ·obtain ⟨bx,hb⟩:=hri i cells hm c hc i' hi';exact ⟨bx,List.mem_cons_of_mem _ hb⟩
  ·obtain ⟨b,o,h1,hz,rfl,vs,h3,h4,h5⟩:=ho;have h0:=hβ 0 ⟨_,by rw [Nat.mul_zero,Nat.add_zero];exact List.mem_cons_self⟩
   rw [Nat.mul_zero,Nat.add_zero,Nat.add_zero,h1] at h0;have hid:∀j,id+N+N*j=id+N*(j+1):=fun j=>by rw [Nat.mul_add];omega
   have hβ1:∀j,(∃bx,(id+N+N*j,bx)∈bs)->β' (id+N+N*j)=own (j0+1+j):=fun j ⟨bx,hm⟩=>by
    rw [hid,hβ (j+1) ⟨bx,by rw [←hid];exact List.mem_cons_of_mem _ hm⟩]
    congr 1;omega
   have hc2:=hcv w A own β' (j0+1) vs hβ1 h3;have hb3:=hbx w A own β' (j0+1) vs hβ1 h3 z;have hlen:cs.length=ps.length:=by rw [hc2.len,←h3.len]
   refine ⟨⟨b,o,h0,by simp⟩,fun i bx hm=>?_⟩
   rcases List.mem_cons.1 hm with e|hm
   ·cases e;refine ⟨⟨0,by simp,by simp only [plc];omega⟩,trivial,⟨b,o,h0,fun k c hk=>?_,fun k hk=>h5 k (by omega)⟩,fun _ _ b' o' hb'=>?_⟩
    ·obtain ⟨v,hv,hcr⟩:=hc2.get hk;exact ⟨v,h4 k v hv,hcr⟩
    ·rw [h0] at hb';cases hb';exact hz
   ·obtain ⟨⟨j,hj,hjn⟩,h6,h7⟩:=hb3 i bx hm;exact ⟨⟨j+1,by rw [hj,hid],by simp only [plc];omega⟩,h6,h7⟩
 ·rename_i hnp;have hpl:XT P t=(Iz P t).length:=by simp only [XT,hnp]
  cases hagg:Cv P t
  ·rw [hagg] at hk;obtain ⟨cs,bs,hk,hl,hpag,hF,hsl,hb1,hb2,hcv⟩:=Xd shr N (show Ss _ _ _ _ _ _=some r from hk)
   obtain ⟨c,t',rfl,hk⟩:=Be hk;obtain ⟨rfl,hk⟩:=Dt hk;have hFc:=hF c (by simp)
   have hnpb:∀x,p ≠ .pbox x:=fun x=>(hpag p (by simp) x).2
   have hnag:∀x,c ≠ .agg x:=by rintro x rfl;exact hFc
   have hntu:∀x,c ≠ .tup x:=by rintro x rfl;exact hFc
   have hr1:Cf c=Ay c:=by cases c<;>first|rfl|exact absurd rfl (hnag _)
   have hpa:∀x,p ≠ .agg x:=fun x=>(hpag p (by simp) x).1
   obtain ⟨hri,hbx⟩:=boxes hb1;have hcell:cellsOf p=[p]:=by cases p<;>first|rfl|exact absurd rfl (hpa _)
   have hplc:plc p=1:=by cases p<;>first|rfl|exact absurd rfl (hpa _)|exact absurd rfl (hnpb _)
   have hcc:cellsOf c=[c]:=by cases c<;>first|rfl|exact absurd rfl (hnag _)
   refine ⟨c,bs,hk,by rw [hplc,hpl];exact hl,hntu,fun hne=>by rw [hcc];exact hsl (GA hne).2,fun i hi=>hb2 c (by simp) i (by rw [←hr1];exact hi),hri,fun w A own β' z j0 u hβ ho=>?_⟩
   have ho':Hz w A (own j0) p u:=by cases p<;>first|exact ho|exact absurd rfl (hpa _)|exact absurd rfl (hnpb _)
   exact ⟨(Uu hnag).2 (hcv w A own β' j0 [u] hβ ⟨ho',trivial⟩).1,by rw [hplc];exact hbx w A own β' j0 [u] hβ ⟨ho',trivial⟩ z⟩
  ·rw [hagg] at hk;obtain ⟨ps,rfl,hk⟩:=Id (show C4 _ _=some r from hk)
   obtain ⟨cs,bs,hk,hl,hpag,hF,hsl,hb1,hb2,hcv⟩:=Xd shr N hk;obtain ⟨hri,hbx⟩:=boxes hb1;refine ⟨.agg cs,bs,hk,by rw [hpl];exact hl,by simp,fun hne=>hsl (GA hne).2,fun i hi=>?_,hri,fun w A own β' z j0 u hβ ho=>?_⟩
   ·obtain ⟨c,hc,hi⟩:=List.mem_flatMap.1 (show i∈cs.flatMap Ay from hi)
    exact hb2 c hc i hi
   ·obtain ⟨vs,rfl,ho⟩:=ho;exact ⟨⟨vs,rfl,hcv w A own β' j0 vs hβ ho⟩,hbx w A own β' j0 vs hβ ho z⟩
theorem EY (shr:Bool)(N:Nat):∀{ts:List TypeId}{ps:List PV}{id:Nat}{K:List PV->List (Nat × Bn)->Option R},HB P shr N id ts ps K=some r ->
  ∃vs bs,K vs bs=some r∧vs.length=ps.length∧(∀v∈vs,∀x,v ≠ .tup x)∧(Kt P ts=false->bs=[]∧∀v∈vs,∀c∈cellsOf v,∃u,c=.sc u)∧(∀v∈vs,∀i∈Cf v,∃bx,(i,bx)∈bs)∧FZ bs ∧
   ∀(w:World) (A:Nat->Prop) (own β':Bt) (z j0:Nat) (us:List Value),(∀j,(∃bx,(id+N*j,bx)∈bs)->β' (id+N*j)=own (j0+j))->Acz w A own z j0 ps us->Bk (G9 w A β') vs us∧Ah1 N id β' w A z (Ru ps) bs
 |[],ps,id,K,hk=>by
  obtain ⟨rfl,hk⟩:=Dt hk;refine ⟨[],[],hk,rfl,by simp,by simp,by simp,(by intro i cells hm;cases hm),fun w A own β' z j0 us _ h=>?_⟩
  cases us with
  |nil=>exact ⟨trivial,by intro i bx hm;cases hm⟩
  |cons u us=>exact h.elim
 |t::ts,ps,id,K,hk=>by
  unfold HB at hk;obtain ⟨p,ps',hps,hk1⟩:=Be hk;subst hps;clear hk;obtain ⟨v,bs,hk,hl,hnt,hsl,hr1,hri,hv⟩:=Ag0 shr N hk1;obtain ⟨vs,bs',hk,hvl,hnts,hsls,hrs,hris,hvs⟩:=EY shr N hk;refine ⟨v::vs,bs++bs',hk,by simp [hvl],?_,?_,?_,?_,fun w A own β' z j0 us hβ ho=>?_⟩
  ·intro x hx;rcases List.mem_cons.1 hx with rfl|hx
   ·exact hnt
   ·exact hnts x hx
  ·intro hne;simp only [Kt,List.any_cons,Bool.or_eq_false_iff] at hne;obtain ⟨h1,h2⟩:=hsl (by simp only [Kt,List.any_cons,List.any_nil,Bool.or_false,Bool.or_eq_false_iff];exact hne.1)
   obtain ⟨h3,h4⟩:=hsls (by simp only [Kt];exact hne.2)
   refine ⟨by rw [h1,h3];rfl,fun x hx=>?_⟩
   rcases List.mem_cons.1 hx with rfl|hx
   ·exact h2
   ·exact h4 x hx
  ·intro x hx i hi;rcases List.mem_cons.1 hx with rfl|hx
   ·obtain ⟨bx,hm⟩:=hr1 i hi;exact ⟨bx,by simp [hm]⟩
   ·obtain ⟨bx,hm⟩:=hrs x hx i hi;exact ⟨bx,by simp [hm]⟩
  ·intro i cells hm c hc i' hi';rcases List.mem_append.1 hm with hm|hm
   ·obtain ⟨bx,hb⟩:=hri i cells hm c hc i' hi';exact ⟨bx,by simp [hb]⟩
   ·obtain ⟨bx,hb⟩:=hris i cells hm c hc i' hi';exact ⟨bx,by simp [hb]⟩
  ·cases us with
   |nil=>exact ho.elim
   |cons u us=>
    obtain ⟨h1,hb1⟩:=hv w A own β' z j0 u (fun j ⟨bx,hm⟩=>hβ j ⟨bx,by simp [hm]⟩) ho.1
    have hid:∀j,id+N*XT P t+N*j=id+N*(XT P t+j):=fun j=>by rw [Nat.mul_add];omega
    obtain ⟨h2,hb2⟩:=hvs w A own β' z (j0+plc p) us (fun j ⟨bx,hm⟩=>by rw [hid,hβ _ ⟨bx,by rw [←hid];simp [hm]⟩,hl];congr 1;omega) ho.2
    refine ⟨⟨h1,h2⟩,fun i bx hm=>?_⟩
    rcases List.mem_append.1 hm with hm|hm
    ·obtain ⟨⟨j,hj,hjn⟩,h4,h5⟩:=hb1 i bx hm;exact ⟨⟨j,hj,by simp only [Ru,List.map_cons,List.sum_cons];omega⟩,h4,h5⟩
    ·obtain ⟨⟨j,hj,hjn⟩,h4,h5⟩:=hb2 i bx hm;refine ⟨⟨_,by rw [hj,hid],?_⟩,h4,h5⟩
     simp only [Ru,List.map_cons,List.sum_cons] at hjn ⊢;omega
def IH (N d:Nat)(bs:List (Nat × Bn)) (own β:Bt):Bt:=fun i=>if (bs.any fun q=>Nat.beq q.1 i)=true then own ((i-d) / N) else β i
theorem SB {bs:List (Nat × Bn)} {i:Nat}:(bs.any fun q=>Nat.beq q.1 i)=true↔∃bx,(i,bx)∈bs:=by
 rw [List.any_eq_true];constructor
 ·rintro ⟨⟨j,bx⟩,hm,e⟩
  have:=Nat.eq_of_beq_eq_true e;subst this;exact ⟨bx,hm⟩
 ·rintro ⟨bx,hm⟩
  exact ⟨_,hm,Nat.beq_refl i⟩
theorem Adw {N d j:Nat}(hN:0<N){bs:List (Nat × Bn)} {own β:Bt}(h:∃bx,(d+N*j,bx)∈bs):IH N d bs own β (d+N*j)=own j:=by
 unfold IH;rw [if_pos (SB.2 h),Nat.add_sub_cancel_left,Nat.mul_div_cancel_left _ hN]
theorem MZ {c:Call}{f:FuncId}(ho:o.op=.call c)(hc:c.callee=.value (.func f)) (hNG:NoNG P){fn:Func}(hf:P.funcs[f]?=some fn) (hb:fn.body.isSome=true):
  (execOp a.eval o).run P w=.ok (.enter f (c.args.map a.eval)) w:=by
 unfold execOp;rw [ho]
 have hn:¬fn.body=none:=by
  intro h;rw [h] at hb;cases hb
 have hne:¬fn.name = "runtime.NumGoroutine" :=by simpa using hNG f fn hf
 simp [resolve,hc,Act.eval,Deferred.ofValue,invoke,callFunc,hf,hne,hn]
theorem Afq {c:Call}{t:Nat}{f:FuncId}(ho:o.op=.call c)(hc:c.callee=.value (.tmp t)) (ht:a.eval (.tmp t)=.func (.func f) #[] #[]) (hNG:NoNG P){fn:Func}(hf:P.funcs[f]?=some fn) (hb:fn.body.isSome=true):
  (execOp a.eval o).run P w=.ok (.enter f (c.args.map a.eval)) w:=by
 unfold execOp;rw [ho]
 have hn:¬fn.body=none:=by
  intro h;rw [h] at hb;cases hb
 have hne:¬fn.name = "runtime.NumGoroutine" :=by simpa using hNG f fn hf
 simp [resolve,hc,ht,Deferred.ofValue,invoke,callFunc,hf,hne,hn]
theorem HP {A':Nat->Prop}(k:Bool):∀{xs:List Operand}{ps:List PV},Bk (Uq w A') ps (xs.map a.eval)->Bk (Uq w A') (Ko k xs ps) (xs.map a.eval)
 |[],[],h=>h
 |[],_::_,h=>h
 |_::_,[],h=>h
 |x::xs,p::ps,h=>by
  simp only [List.map_cons] at h ⊢;refine ⟨?_,HP k h.2⟩;split
  ·exact ⟨trivial,A7.lnil _ _⟩
  ·exact h.1
theorem MU (h : B4 N w0 X0 Y β s a w) {G : Vq} (hNG : IM P G w0 X0) {C : Hs} {call : Ah} (hcall : ∀ f args res, call f args = some res -> C9 G P f args res) {c : Call} {f : FuncId} (hrun : ∀ {fn : Func}, P.funcs[f]? = some fn -> fn.body.isSome = true -> (execOp a.eval o).run P w = .ok (.enter f (c.args.map a.eval)) w)
    {K : PV -> List Nat -> List (Nat × Bn) -> Option R}
    (hk : (KA P (Kz s.hp) (LL P f c) (c.args.toList.map (Cm s.tm)) fun vs m =>
          Ag (call f (Ko (C.kz f) c.args.toList vs)) fun rv ro => Ac ro (Au (Nat.blt 0 N) <| HB P (C.shr f) N (o.dst.getD 0) (P9 P o.type) rv fun ws bs =>
            Au (bif Q9 P o.type then !Nat.beq ws.length 1 else Nat.beq ws.length 1) <| K (P0 ws (Q9 P o.type)) (bif Kt P (P9 P o.type) then m else []) bs)) = some r) : ∃ v fz nw, K v fz nw = some r ∧ MC P a w o Y β s v fz nw := by
  obtain ⟨ps, m, hk, hm, hargs⟩ := RJ h hk
  replace hargs := fun fz h1 h2 => HP (a := a) (C.kz f) (hargs fz h1 h2)
  generalize Ko (C.kz f) c.args.toList ps = ps at hk hargs
  obtain ⟨rv, ro, hcl, hk⟩ := PH hk
  obtain ⟨rfl, hk⟩ := Dt hk
  obtain ⟨hN, hk⟩ := Ax hk
  have hN : 0 < N := Nat.lt_of_succ_le (Nat.le_of_ble_eq_true hN)
  obtain ⟨ws, bs, hk, hwl, hnt, hsl, hrs, hri, hws⟩ := EY (C.shr f) N hk
  obtain ⟨htup, hk⟩ := Ax hk
  obtain ⟨⟨fn, hfn, hfb⟩, hcs⟩ := hcall f ps _ hcl
  obtain ⟨fz, hfz, hfm⟩ : ∃ fz : List Nat, fz = (bif Kt P (P9 P o.type) then m else []) ∧ ∀ id ∈ fz, ∃ f c, s.hp id = some (.ar f c) := by
    refine ⟨_, rfl, fun id hid => ?_⟩
    cases hh : Kt P (P9 P o.type) <;> rw [hh] at hid
    · cases hid
    · exact hm id hid
  rw [← hfz] at hk
  refine ⟨_, _, _, hk, hfm, fun next Q hn => ?_⟩
  have hf := h.freeze hfm
  have hYc : ∃ Yc : Nat -> Prop, (∀ b, Yc b -> b < w.heap.size) ∧ Bk (Uq w Yc) ps (c.args.toList.map a.eval) ∧ ((∀ b, C1 (Ai s.hp fz) β Y b -> Yc b) ∨ Kt P (P9 P o.type) = false) := by
    have hall := hargs m (fun _ hi => hi) hm
    cases hh : Kt P (P9 P o.type)
    · exact ⟨fun _ => False, fun _ x => x.elim, hall.mono fun _ _ hx => hx.weaken (fun _ _ x => x.elim), .inr rfl⟩
    · rw [hh] at hfz
      have hfz : fz = m := hfz
      subst hfz
      refine ⟨C1 (Ai s.hp fz) β Y, fun b hb => ?_, hall, .inl fun _ x => x⟩
      rcases hb with ⟨id, ob, hl, hβ⟩ | hY
      · exact hf.blt id b ob (C2 hl) hβ
      · exact Nat.lt_of_lt_of_le (h.Ylt b hY) h.fr.step.size
  obtain ⟨Yc, hYlt, hYargs, hYA⟩ := hYc
  unfold Oper.wp
  rw [hrun hfn hfb]
  show Calls P f _ w _
  have hca : c.args.map a.eval = (c.args.toList.map a.eval).toArray := by rw [← List.map_toArray, Array.toArray_toList]
  rw [hca]
  refine (hcs w Yc OD _ (XR hYlt hYargs) (hNG.fr w h.fr) (fun b x => ⟨Nat.lt_of_lt_of_le (hNG.y b x).1 h.fr.step.size, Wt b⟩)).mono ?_
  rintro e w' ⟨vs, own, rfl, hout⟩
  refine hn (Mj vs) w' fun hab => ⟨IH N (o.dst.getD 0) bs own β, ?_⟩
  obtain ⟨ha1, ha2⟩ := Bq hab
  have hnone : ∀ i bx, (i, bx) ∈ bs -> Ai s.hp fz i = none := fun i bx hm => Ef.2 (ha1 i bx hm)
  obtain ⟨hg1, hg2⟩ := Ew (hp := Ai s.hp fz) ha2
  have hold : ∀ i, Ai s.hp fz i ≠ none -> IH N (o.dst.getD 0) bs own β i = β i := by
    intro i hi
    unfold IH
    rw [if_neg]
    intro hx
    obtain ⟨bx, hm⟩ := SB.1 hx
    exact hi (hnone i bx hm)
  obtain ⟨hvs, hba⟩ := hws w' _ own (IH N (o.dst.getD 0) bs own β) w.heap.size 0 vs (fun j hj => by rw [Adw hN hj, Nat.zero_add]) hout.vals
  have hnew : ∀ i bx, (i, bx) ∈ bs -> ∃ j, i = o.dst.getD 0 + N * j ∧ IH N (o.dst.getD 0) bs own β i = own j := by
    intro i bx hm
    obtain ⟨⟨j, rfl, _⟩, _, _⟩ := hba i bx hm
    exact ⟨j, rfl, Adw hN ⟨bx, hm⟩⟩
  have hAA : Kt P (P9 P o.type) = false ∨ ∀ b, C1 (A3 (Ai s.hp fz) bs) (IH N (o.dst.getD 0) bs own β) Y b -> SK OD own Yc b := by
    rcases hYA with hYA | hYA
    · refine .inr fun b hb => ?_
      rcases hb with ⟨i, ob, hl, hβ⟩ | hY
      · by_cases hi : ∃ bx, (i, bx) ∈ bs
        · obtain ⟨bx, hm⟩ := hi
          obtain ⟨j, _, h3⟩ := hnew i bx hm
          rw [h3] at hβ
          exact .inl ⟨j, ob, hβ⟩
        · rw [hg2 i (fun bx hm => hi ⟨bx, hm⟩)] at hl
          rw [hold i (C2 hl)] at hβ
          exact .inr (.inr (hYA b (.inl ⟨i, ob, hl, hβ⟩)))
      · exact .inr (.inr (hYA b (.inr hY)))
    · exact .inl hYA
  have hval : Dx w' (C1 (A3 (Ai s.hp fz) bs) (IH N (o.dst.getD 0) bs own β) Y) (IH N (o.dst.getD 0) bs own β) (P0 ws (Q9 P o.type)) (Mj vs) := by
    have hall : Bk (G9 w' (C1 (A3 (Ai s.hp fz) bs) (IH N (o.dst.getD 0) bs own β) Y) (IH N (o.dst.getD 0) bs own β)) ws vs := by
      rcases hAA with hno | hAA
      · obtain ⟨_, hsc⟩ := hsl hno
        refine hvs.mono_mem fun v hv u hvu => ?_
        have hsc := hsc v hv
        cases v with
        | agg cs =>
          obtain ⟨xs, rfl, hxs⟩ := hvu
          refine ⟨xs, rfl, hxs.mono_mem fun cc hcc x hx => ?_⟩
          obtain ⟨y, rfl⟩ := hsc cc hcc
          have := A7.val (w := w') hx
          subst this
          exact A7.sc _
        | sc y =>
          have := A7.val (w := w') hvu
          subst this
          exact A7.sc _
        | lst z es n cc => obtain ⟨y, hy⟩ := hsc _ (List.mem_singleton_self _); cases hy
        | own es n cc => obtain ⟨y, hy⟩ := hsc _ (List.mem_singleton_self _); cases hy
        | view i es n cc => obtain ⟨y, hy⟩ := hsc _ (List.mem_singleton_self _); cases hy
        | ptr i cc => obtain ⟨y, hy⟩ := hsc _ (List.mem_singleton_self _); cases hy
        | iptr i cc => obtain ⟨y, hy⟩ := hsc _ (List.mem_singleton_self _); cases hy
        | pbox cc => obtain ⟨y, hy⟩ := hsc _ (List.mem_singleton_self _); cases hy
        | tup cc => obtain ⟨y, hy⟩ := hsc _ (List.mem_singleton_self _); cases hy
        | top => obtain ⟨y, hy⟩ := hsc _ (List.mem_singleton_self _); cases hy
        | ub => obtain ⟨y, hy⟩ := hsc _ (List.mem_singleton_self _); cases hy
      · exact hvs.mono fun v u hvu => hvu.step (Cb.refl _ _) (fun b _ => hAA b) (fun _ _ => rfl)
    have hlen := hall.len
    cases hT : Q9 P o.type
    · rw [hT] at htup
      have h1 : ws.length = 1 := Nat.eq_of_beq_eq_true htup
      match ws, vs, h1, hlen with
      | [v], [u], _, _ =>
        exact (Pb (hnt v (by simp))).2 hall.1
    · rw [hT] at htup
      have h1 : ¬ ws.length = 1 := by
        intro e
        rw [e] at htup
        cases htup
      have hr : Mj vs = .tuple ⟨vs⟩ := by
        unfold Mj
        split
        · simp at hlen; omega
        · rfl
      rw [hr]
      exact ⟨vs, rfl, hall⟩
  refine ⟨hout.os, hout.tape, hout.output, hout.ext.weaken (fun b _ hb => Wt b hb), hold, ?_, ?_, ?_, ?_, ?_, hval, ?_⟩
  · intro i bx hm
    exact (hba i bx hm).2.1
  · intro i bx hm
    rcases hAA with hno | hAA
    · rw [(hsl hno).1] at hm; cases hm
    · exact (hba i bx hm).2.2.1.step' hAA
  · intro i bx b ob hm hβ
    obtain ⟨j, _, h3⟩ := hnew i bx hm
    rw [h3] at hβ
    obtain ⟨h4, h5⟩ := hout.fresh j b ob hβ
    refine ⟨?_, h4⟩
    rcases Nat.lt_or_ge b w.heap.size with h | h
    · obtain ⟨⟨_, _, _, h6⟩, _⟩ := h5 h
      cases h6
    · exact h
  · intro i bx i' bx' b ob ob' hm hm' hβ hβ'
    obtain ⟨j, h1, h3⟩ := hnew i bx hm
    obtain ⟨j', h1', h3'⟩ := hnew i' bx' hm'
    rw [h3] at hβ
    rw [h3'] at hβ'
    rw [h1, h1', hout.inj j j' b ob ob' hβ hβ']
  · intro i cells hm c hc i' hi'
    exact .inr (hri i cells hm c hc i' hi')
  · intro i hi
    right
    cases hT : Q9 P o.type
    · rw [hT] at htup hi
      have h1 : ws.length = 1 := Nat.eq_of_beq_eq_true htup
      match ws, h1 with
      | [v], _ =>
        refine hrs v (by simp) i ?_
        have : Bx v = Cf v := by
          have hn := hnt v (by simp)
          cases v <;> first | rfl | exact absurd rfl (hn _)
        rw [← this]
        exact hi
    · rw [hT] at hi
      obtain ⟨v, hv, hi⟩ := List.mem_flatMap.1 (show i ∈ ws.flatMap Cf from hi)
      exact hrs v hv i hi
end
open Go.RowKit
section
variable {R:Type} {r:R} {P:Program} {N:Nat} {w0:World} {X0:Fh} {Y:Nat->Prop} {β β':Bt} {s:St} {a:Act} {w w':World} {o:Oper} {A:Nat->Prop}
theorem B4.move (h:B4 N w0 X0 Y β s a w){id d:Nat}{c cells:List PV}{bo:Option (Nat × Nat)} {v:PV}{val:Value}(h0:s.hp id=some (.ar false c)) (hd:s.hp d=none)(hdN:d<N)
  (hos:w'.os=w.os)(htp:w'.tape=w.tape)(hout:w'.output=w.output)(hsize:w.heap.size<=w'.heap.size)
  (hkeep:∀k,k<w.heap.size->(∀x,β id≠some (k,x))->w'.heap[k]?=w.heap[k]?) (hbs:∀k,k<w.heap.size->bsz w k<=bsz w' k)
  (hbo:∀k x,bo=some (k,x)->k<w'.heap.size∧(w.heap.size<=k∨∃y,β id=some (k,y)))
  (hbr:∀k x,bo=some (k,x)->k<w.heap.size->β id=some (k,x))
  (hO:∀k y,β id=some (k,y)->k<w.heap.size->∀j,j<y->w'.cell? ⟨k,j,none⟩=w.cell? ⟨k,j,none⟩∧w'.frozen? ⟨k,j,none⟩=w.frozen? ⟨k,j,none⟩)
  (hbx:Sz w' (C1 (Cz (Cz s.hp id (some .mv)) d (some (.ar false cells))) (Cz β d bo) Y) (Cz β d bo) d (.ar false cells))
  (hv:Dx w' (C1 (Cz (Cz s.hp id (some .mv)) d (some (.ar false cells))) (Cz β d bo) Y) (Cz β d bo) v val) (hr:∀i∈Bx v,i=d):
  B4 N w0 X0 Y (Cz β d bo) ⟨Cz s.tm d v,Cz (Cz s.hp id (some .mv)) d (some (.ar false cells))⟩ (a.put (some d) val) w':=by
 have hne:id≠d:=by rintro rfl;rw [h0] at hd;cases hd
 have hget:∀i,i≠id->i≠d->Cz (Cz s.hp id (some Bn.mv)) d (some (.ar false cells)) i=s.hp i:=fun i h1 h2=>by rw [Av _ _ h2,Av _ _ h1]
 have hgid:Cz (Cz s.hp id (some Bn.mv)) d (some (.ar false cells)) id=some .mv:=by rw [Av _ _ hne,Az]
 have hgd:Cz (Cz s.hp id (some Bn.mv)) d (some (.ar false cells)) d=some (.ar false cells):=Az _ _ _
 have hnn:∀i,s.hp i≠none->Cz (Cz s.hp id (some Bn.mv)) d (some (.ar false cells)) i≠none:=by
  intro i hi;by_cases e:i=id
  ·subst e;rw [hgid];simp
  ·by_cases e':i=d
   ·subst e';rw [hgd];simp
   ·rw [hget i e e'];exact hi
 have hβo:∀i,s.hp i≠none->Cz β d bo i=β i:=fun i hi=>Av _ _ (by rintro rfl;exact hi hd)
 have hidl:Cg (s.hp id):=by rw [h0];trivial
 have hlive:∀i,Cg (Cz (Cz s.hp id (some Bn.mv)) d (some (.ar false cells)) i)->i=d∨(i≠id∧i≠d∧Cg (s.hp i)):=by
  intro i hi;by_cases e':i=d
  ·exact .inl e'
  ·by_cases e:i=id
   ·subst e;rw [hgid] at hi;exact hi.elim
   ·rw [hget i e e'] at hi;exact .inr ⟨e,e',hi⟩
 have hX:∀k,k<w.heap.size->BV (Cz (Cz s.hp id (some .mv)) d (some (.ar false cells))) (Cz β d bo) k->BV s.hp β k:=by
  rintro k hk ⟨i,x,hl,hβ⟩
  rcases hlive i hl with rfl|⟨e,e',hl⟩
  ·rw [Az] at hβ;rcases (hbo k x hβ).2 with hk'|⟨y,hy⟩
   ·omega
   ·exact ⟨id,y,hidl,hy⟩
  ·rw [Av _ _ e'] at hβ;exact ⟨i,x,hl,hβ⟩
 have hAo:∀k,k<w.heap.size->C1 (Cz (Cz s.hp id (some .mv)) d (some (.ar false cells))) (Cz β d bo) Y k->C1 s.hp β Y k:=fun k hk hx=>hx.imp (hX k hk) (fun y=>y)
 have hst:Cb (C1 s.hp β Y) w w':=⟨hsize,fun k hk hn=>hkeep k hk fun x hx=>hn (.inl ⟨id,x,hidl,hx⟩),hbs⟩
 have hblk:∀i k x,i≠id->i≠d->(∃b,s.hp i=some b∧b ≠ .mv)->β i=some (k,x)->k<w.heap.size∧w'.heap[k]?=w.heap[k]?:=by
  rintro i k x e e' ⟨b,hb,hmv⟩ hβ
  have hk:=h.blt i k x (by rw [hb];simp) hβ
  refine ⟨hk,hkeep k hk fun y hy=>?_⟩
  have hbox:=h.box i b hb;cases b with
  |st cc=>exact e (h.inj i id k x y (by rw [hb];trivial) hidl hβ hy)
  |ar fz cc=>
   cases fz with
   |false=>exact e (h.inj i id k x y (by rw [hb];trivial) hidl hβ hy)
   |true=>
    rcases hbox with ⟨h1,_⟩|⟨k',x',h1,_,_,h4⟩
    ·rw [hβ] at h1;cases h1
    ·rw [hβ] at h1;simp at h1;obtain ⟨rfl,rfl⟩:=h1
     exact h4 rfl (.inl ⟨id,y,hidl,hy⟩)
  |mv=>exact absurd rfl hmv
 refine ⟨by rw [Mb];exact h.dfr,by rw [I2];exact h.tsz,?_,?_,?_,?_,?_,?_,?_,?_,?_,?_,?_,?_,h.Ylt,?_⟩
 ·intro i hi;show Cz s.tm d v i=_;rw [Av _ _ (by omega)]
  exact h.tmo i hi
 ·refine Q3 (d:=some d) (Q:=fun _ p u=>Dx w' (C1 (Cz (Cz s.hp id (some .mv)) d (some (.ar false cells))) (Cz β d bo) Y) (Cz β d bo) p u) h.tsz (by simp [He,Nat.blt];omega) (fun i hi=>?_) (fun _=>hv)
  exact (h.tms i hi).step hst hAo fun j hj=>hβo j (h.wfT i hi j hj)
 ·intro i bi hb;simp only at hb;by_cases e':i=d
  ·subst e';rw [hgd] at hb;cases hb;exact hbx
  ·by_cases e:i=id
   ·subst e;rw [hgid] at hb;cases hb;trivial
   ·rw [hget i e e'] at hb;have hβi:=hβo i (by rw [hb];simp)
    have hbi:=h.box i bi hb;cases bi with
    |st cc=>
     obtain ⟨k,x,h1,h2,h3⟩:=hbi;obtain ⟨hk,hbl⟩:=hblk i k x e e' ⟨_,hb,by simp⟩ h1
     refine ⟨k,x,by rw [hβi];exact h1,fun j p hj=>?_,fun j hj=>?_⟩
     ·obtain ⟨u,hu,hc⟩:=h2 j p hj;exact ⟨u,by rw [World.cell?_of_block (w:=w) hbl];exact hu,hc.step hst hAo fun q hq=>hβo q (h.wfB i cc hb p (List.mem_of_getElem? hj) q hq)⟩
     ·rw [World.frozen?_of_block (w:=w) hbl];exact h3 j hj
    |ar fz cc=>
     rcases hbi with ⟨h1,h2⟩|⟨k,x,h1,h2,h3,h4⟩
     ·exact .inl ⟨by rw [hβi];exact h1,h2⟩
     ·obtain ⟨hk,hbl⟩:=hblk i k x e e' ⟨_,hb,by simp⟩ h1
      refine .inr ⟨k,x,by rw [hβi];exact h1,fun j p hj=>?_,fun ef j hj hj'=>?_,fun ef hx=>h4 ef (hAo k hk hx)⟩
      ·obtain ⟨u,hu,h5,hc⟩:=h2 j p hj;exact ⟨u,by rw [World.cell?_of_block (w:=w) (by rw [F8];exact hbl)];exact hu,h5,hc.step hst hAo⟩
      ·rw [World.frozen?_of_block (w:=w) hbl];refine h3 ef j hj ?_;unfold bsz at hj' ⊢;rw [hbl] at hj';exact hj'
    |mv=>trivial
 ·intro i i' k x y hl hl' hb hb';simp only at hl hl'
  have key:∀j z,j≠id->j≠d->Cg (s.hp j)->β j=some (k,z)->bo=some (k,y)∨bo=some (k,x)->False:=by
   intro j z e e' hlj hβj hbk;have hk:=h.blt j k z (C2 hlj) hβj;have:∃t,bo=some (k,t):=by rcases hbk with q|q<;>exact ⟨_,q⟩
   obtain ⟨t,ht⟩:=this;rcases (hbo k t ht).2 with hk'|⟨q,hq⟩
   ·omega
   ·exact e (h.inj j id k z q hlj hidl hβj hq)
  rcases hlive i hl with rfl|⟨e,e',hl0⟩
  ·rcases hlive i' hl' with rfl|⟨e2,e2',hl0'⟩
   ·rfl
   ·rw [Az] at hb;rw [Av _ _ e2'] at hb';exact (key i' y e2 e2' hl0' hb' (.inr hb)).elim
  ·rcases hlive i' hl' with rfl|⟨e2,e2',hl0'⟩
   ·rw [Az] at hb';rw [Av _ _ e'] at hb;exact (key i x e e' hl0 hb (.inl hb')).elim
   ·rw [Av _ _ e'] at hb;rw [Av _ _ e2'] at hb';exact h.inj i i' k x y hl0 hl0' hb hb'
 ·intro i k x hi hb;simp only at hi;by_cases e':i=d
  ·subst e';rw [Az] at hb;exact (hbo k x hb).1
  ·rw [Av _ _ e'] at hb
   have hi':s.hp i≠none:=by
    by_cases e:i=id
    ·subst e;rw [h0];simp
    ·rw [hget i e e'] at hi;exact hi
   exact Nat.lt_of_lt_of_le (h.blt i k x hi' hb) hsize
 ·have:=Q3 (d:=some d) (Q:=fun _ p _=>∀j∈Bx p,Cz (Cz s.hp id (some Bn.mv)) d (some (.ar false cells)) j≠none) (val:=val) (v:=v) h.tsz (by simp [He,Nat.blt];omega) (fun i hi j hj=>hnn j (h.wfT i hi j hj)) (fun _ j hj=>by
   rw [hr j hj,hgd];simp)
  exact this
 ·intro i cc hc p hp j hj;simp only at hc;by_cases e':i=d
  ·subst e';rw [hgd] at hc;cases hc
  ·by_cases e:i=id
   ·subst e;rw [hgid] at hc;cases hc
   ·rw [hget i e e'] at hc;exact hnn j (h.wfB i cc hc p hp j hj)
 ·rintro k ⟨i,x,hl,hβ⟩
  rcases hlive i hl with rfl|⟨e,e',hl⟩
  ·rw [Az] at hβ;rcases (hbo k x hβ).2 with hk'|⟨y,hy⟩
   ·exact .inr (Nat.le_trans h.fr.step.size hk')
   ·exact h.ownd k ⟨id,y,hidl,hy⟩
  ·rw [Av _ _ e'] at hβ;exact h.ownd k ⟨i,x,hl,hβ⟩
 ·intro i bi k x hbi hli hβ hlt j hj;simp only at hbi;rcases hlive i (by rw [hbi];exact hli) with rfl|⟨e,e',hl⟩
  ·rw [Az] at hβ;rw [hgd] at hbi;cases hbi;have:=hbr k x hβ (Nat.lt_of_lt_of_le hlt h.fr.step.size);exact h.rngB id (.ar false c) k x h0 trivial this hlt j hj
  ·rw [hget i e e'] at hbi;rw [Av _ _ e'] at hβ;exact h.rngB i bi k x hbi hli hβ hlt j hj
 ·intro i hi;exact ⟨hnn _ (h.pin i hi).1,by rw [hβo _ (h.pin i hi).1];exact (h.pin i hi).2⟩
 ·intro i cc k x hbi hβ hlt;simp only at hbi;rcases hlive i (by rw [hbi];trivial) with rfl|⟨e,e',hl⟩
  ·rw [hgd] at hbi;cases hbi
  ·rw [hget i e e'] at hbi;rw [Av _ _ e'] at hβ;exact h.stp i cc k x hbi hβ hlt
 ·intro k hY hx;exact h.Yx k hY (hX k (Nat.lt_of_lt_of_le (h.Ylt k hY) h.fr.step.size) hx)
 ·refine ⟨hos.trans h.fr.os,htp.trans h.fr.tape,hout.trans h.fr.output,⟨Nat.le_trans h.fr.step.size hsize,fun k hk hnk=>?_,fun k hk=>Nat.le_trans (h.fr.step.bs k hk) (hbs k (Nat.lt_of_lt_of_le hk h.fr.step.size))⟩,fun k j hk hL=>?_⟩
  ·rw [hkeep k (Nat.lt_of_lt_of_le hk h.fr.step.size) ?_]
   ·exact h.fr.step.keep k hk hnk
   ·intro x hx;rcases h.ownd k ⟨id,x,hidl,hx⟩ with hq|hq
    ·exact hnk hq
    ·omega
  ·have hkw:=Nat.lt_of_lt_of_le hk h.fr.step.size
   have hsame:w'.cell? ⟨k,j,none⟩=w.cell? ⟨k,j,none⟩∧w'.frozen? ⟨k,j,none⟩=w.frozen? ⟨k,j,none⟩:=by
    by_cases e:∃y,β id=some (k,y)
    ·obtain ⟨y,hy⟩:=e;refine hO k y hy hkw j ?_;rcases Nat.lt_or_ge j y with q|q
     ·exact q
     ·exact absurd (h.rngB id (.ar false c) k y h0 trivial hy hk j q) hL
    ·have hbl:=hkeep k hkw (fun x hx=>e ⟨x,hx⟩)
     exact ⟨World.cell?_of_block (w:=w) hbl,World.frozen?_of_block (w:=w) hbl⟩
   rw [hsame.1,hsame.2];exact h.fr.rng k j hk hL
end
open Go.RowKit
section
variable {R:Type} {r:R} {P:Program} {N:Nat} {w0:World} {X0:Fh} {Y:Nat->Prop} {β β':Bt} {s:St} {a:Act} {w w':World} {o:Oper} {A:Nat->Prop}
structure Src (P:Program) (w:World) (A:Nat->Prop) (size:Nat) (xv:Value) (m:Nat) (new:List PV) (news:List Value):Prop where
 len:∀w':World,(Builtin.lenOf xv).run P w'=.ok m w'
 cells:∀w':World,(∀b,b<w.heap.size->w'.heap[b]?=w.heap[b]?)->(Builtin.firstCells size m xv).run P w'=.ok news.toArray w'
 part:∀k,k<=m->(Builtin.firstCells size k xv).run P w=.ok (news.take (k*size)).toArray w
 one:∀u∈news,u.oneCell'=true
 rep:Bk (A7 w A) new news
theorem KC (h : B4 N w0 X0 Y β s a w) {e tx : TypeId} {x : Operand} {K : Nat -> List PV -> Option R} (hk : Abi P s (Bi P e) tx (Cm s.tm x) K = some r)
    (h1c : ∀ m new, K m new = some r -> new.length = m * Bi P e) :
    (∃ d, P.underlying tx = some d ∧ (∀ k, d ≠ .int k)) ∧ ∃ m new news, K m new = some r ∧ Src P w (C1 s.hp β Y) (Bi P e) (a.eval x) m new news := by
  unfold Abi Abm at hk
  split at hk
  · rename_i hu
    obtain ⟨hes, hk⟩ := Ax hk
    have hes := Nat.eq_of_beq_eq_true hes
    obtain ⟨b, hx, hk⟩ := Gb hk
    have hax := Cx h hx
    refine ⟨⟨_, hu, by simp⟩, b.size, Dv b, b.data.toList.map (fun y => Value.int .u8 y.toNat), hk, ?_, ?_, ?_, ?_, ?_⟩
    · intro w'; rw [hax]; rfl
    · intro w' _
      rw [hax]
      have hx : b.data.extract 0 b.size = b.data := by
        have : b.size = b.data.size := rfl
        rw [this, Array.extract_size]
      have hd : (b.extract 0 b.size).data = b.data := by
        rw [ByteArray.extract_zero_size]
      simp only [Builtin.firstCells, hd]
      rw [← Array.toList_map, Array.toArray_toList]
      rfl
    · intro k hk'
      rw [hax, hes, Nat.mul_one]
      have hd : (b.extract 0 k).data = b.data.extract 0 k := ByteArray.data_extract
      have e1 : (b.data.extract 0 k).map (fun y => Value.int .u8 y.toNat) = ((b.data.toList.map fun y => Value.int .u8 y.toNat).take k).toArray := by
        apply Array.toList_inj.1
        simp [List.map_take]
      simp only [Builtin.firstCells, hd]
      rw [e1]
      rfl
    · intro u hu; simp at hu; obtain ⟨y, _, rfl⟩ := hu; rfl
    · unfold Dv
      generalize b.data.toList = l
      induction l with
      | nil => trivial
      | cons y l ih => exact ⟨A7.sc _, ih⟩
  · rename_i e' hu
    refine ⟨⟨_, hu, by simp⟩, ?_⟩
    obtain ⟨m, new, hk, hc⟩ := VW h hk
    have hlen := h1c m new hk
    rcases hc with ⟨hax, rfl, rfl⟩ | ⟨ad, cap, hax, hn, hlt, hrd⟩
    · exact ⟨0, [], [], hk, fun w' => by rw [hax]; rfl, fun w' _ => by rw [hax]; rfl, fun k _ => by rw [hax]; simp [Builtin.firstCells], by simp, trivial⟩
    · refine ⟨m, new, new.mapIdx (fun j _ => (w.cell? (ad.add j)).getD undef), hk, fun w' => by rw [hax]; rfl, fun w' hw => ?_, fun k hk' => ?_, ?_, ?_⟩
      · rw [hax]
        refine run_firstCells_some (P := P) w' (Bi P e) m ad m cap _ (by simp [hlen]) fun j v hj => ?_
        rw [List.getElem?_mapIdx] at hj
        cases hc : new[j]? with
        | none => rw [hc] at hj; cases hj
        | some c =>
          rw [hc] at hj
          simp at hj
          obtain ⟨u, hu, _⟩ := hrd j c hc
          rw [hu] at hj
          simp at hj
          subst hj
          have hlt : ad.block < w.heap.size := by rcases hlt with rfl | hlt; · simp at hc
                                                  · exact hlt
          rw [World.cell?_of_block (w := w) (by rw [F8]; exact hw _ hlt)]
          exact hu
      · rw [hax]
        have hkm : k * Bi P e <= m * Bi P e := Nat.mul_le_mul_right _ hk'
        refine run_firstCells_some (P := P) w (Bi P e) k ad m cap _ (by rw [List.length_take, List.length_mapIdx, hlen]; omega) fun j v hj => ?_
        rw [List.getElem?_take] at hj
        split at hj
        · rw [List.getElem?_mapIdx] at hj
          cases hc : new[j]? with
          | none => rw [hc] at hj; cases hj
          | some c =>
            rw [hc] at hj
            simp at hj
            obtain ⟨u, hu, _⟩ := hrd j c hc
            rw [hu] at hj
            simp at hj
            subst hj
            exact hu
        · cases hj
      · intro u hu
        obtain ⟨j, hj⟩ := List.mem_iff_getElem?.1 hu
        rw [List.getElem?_mapIdx] at hj
        cases hc : new[j]? with
        | none => rw [hc] at hj; cases hj
        | some c =>
          rw [hc] at hj
          simp at hj
          obtain ⟨v, hv, h2, ht⟩ := hrd j c hc
          rw [hv] at hj
          simp at hj
          subst hj
          exact h2
      · refine Bk.of_at (by simp) fun j c v hc hj => ?_
        rw [List.getElem?_mapIdx, hc] at hj
        simp at hj
        obtain ⟨u, hu, _, ht⟩ := hrd j c hc
        rw [hu] at hj
        simp at hj
        subst hj
        exact ht
  · cases hk
theorem MN {e:TypeId}(h:SI P e=true):∃i z,P.info? e=some i∧i.zero=some z∧z.cells.size=i.size∧Bi P e=i.size:=by
 unfold SI at h;split at h
 ·rename_i i hi;split at h
  ·rename_i z hz;exact ⟨i,z,hi,hz,Nat.eq_of_beq_eq_true h,by simp [Bi,hi]⟩
  ·cases h
 ·cases h
theorem IE {es n cap:Nat}{ad:Option Addr}{olds:List Value}(h:(ad=none∧olds=[])∨∃p,ad=some p∧olds.length=n*es∧∀(j:Nat) v,olds[j]?=some v->w.cell? (p.add j)=some v):
  (Builtin.firstCells es n (.slice ad n cap)).run P w=.ok olds.toArray w:=by
 rcases h with ⟨rfl,rfl⟩|⟨p,rfl,hl,hc⟩
 ·rfl
 ·exact run_firstCells_some (P:=P) w es n p n cap olds hl hc
theorem Nr {t tx ty e:TypeId}{i:TypeInfo}{z:Value}{d:TypeDesc}{ts:List TypeId}(ht:P.underlying t=some (.slice e)) (htx:P.underlying tx=some d)(hd:∀k,d ≠ .int k)(hi:P.info? e=some i)(hz:i.zero=some z)
  {ad:Option Addr} {n cap m:Nat} {xv:Value} {olds news:List Value} {A:Nat->Prop} {new:List PV} (hs:Src P w A i.size xv m new news)
  (hold:(ad=none∧olds=[])∨∃p,ad=some p∧olds.length=n*i.size∧∀(j:Nat) v,olds[j]?=some v->w.cell? (p.add j)=some v)
  (hg:cap<n+m)(hb:(n+m)*i.bytes<=1099511627776) (h63:n+m<=1099511627776):
  (Builtin.append_ (t::tx::ts).toArray ty #[.slice ad n cap,xv]).run P w =
   .ok (.slice (some ⟨w.heap.size,0,none⟩) (n+m) (grownCap w (n+m) cap e)) (w.drew.alloc (.cells (olds.toArray++news.toArray++Builtin.zeroCells z.cells (grownCap w (n+m) cap e-(n+m))) e)):=by
 have h1:=hs.len w;have h2:(Builtin.firstCells i.size m xv).run P w.drew=.ok news.toArray w.drew:=hs.cells w.drew (fun _ _=>rfl)
 have h3:(Builtin.firstCells i.size n (.slice ad n cap)).run P w.drew=.ok olds.toArray w.drew:=IE (w:=w.drew) (by
  rcases hold with hh|⟨p,hp,hl,hc⟩
  ·exact .inl hh
  ·exact .inr ⟨p,hp,hl,fun j v hj=>hc j v hj⟩)
 have hfit:=growslice_fits (need:=n+m) (old:=cap) (bytes:=i.bytes) hg (by omega)
 have hn:¬(n+m<=cap):=by omega
 have h63':¬(9223372036854775807<((n:Int)+(m:Int))):=by omega
 have h48':¬(281474976710656<Builtin.nextslicecap (n+m) cap*i.bytes):=by omega
 have hzf:(match d with | .int _=>true|_=>false)=false:=by cases d<;>first|rfl|exact absurd rfl (hd _)
 simp [Builtin.append_,run_underlying ht,run_underlying htx,hzf,sizeOf,typeInfo,zeroValue,hi,hz,h1,hn,h63',h48',Question.forced,h2,h3,newRow,grownCap]
 congr 2
 apply Array.ext';simp [List.append_assoc]
theorem IB {t tx ty e:TypeId}{i:TypeInfo}{d:TypeDesc}{ts:List TypeId}(ht:P.underlying t=some (.slice e)) (htx:P.underlying tx=some d)(hd:∀k,d ≠ .int k)(hi:P.info? e=some i)
  {b ob n cap m:Nat} {xv:Value} {news:List Value} {A:Nat->Prop} {new:List PV} (hs:Src P w A i.size xv m new news) (hl:news.length=m*i.size)
  (hcell:∀k,k<news.length->(w.cell? ⟨b,ob+n*i.size+k,none⟩).isSome=true) (hfr:∀k,k<news.length->w.frozen? ⟨b,ob+n*i.size+k,none⟩=false)(hg:n+m<=cap):
  (Builtin.append_ (t::tx::ts).toArray ty #[.slice (some ⟨b,ob,none⟩) n cap,xv]).run P w=.ok (.slice (some ⟨b,ob,none⟩) (n+m) cap) (w.setCells b (ob+n*i.size) news):=by
 have h1:=hs.len w;have h2:(Builtin.firstCells i.size m xv).run P w=.ok news.toArray w:=hs.cells w (fun _ _=>rfl)
 have h3:=run_storeCells_cells (P:=P) b (ob+n*i.size) news 0 w (fun k hk=>by simpa using hcell k hk) (fun k hk=>by simpa using hfr k hk) hs.one
 have hzf:(match d with | .int _=>true|_=>false)=false:=by cases d<;>first|rfl|exact absurd rfl (hd _)
 have _:=hl;simp [Builtin.append_,run_underlying ht,run_underlying htx,hzf,sizeOf,typeInfo,hi,h1,hg,h2,D6];rw [h3];simp
theorem XH {t ty e:TypeId}{i:TypeInfo}{ts:List TypeId}(ht:P.underlying t=some (.slice e)) (hi:P.info? e=some i)
  {ad:Option Addr} {n cap m:Nat} {xv:Value} {news:List Value} {A:Nat->Prop} {new:List PV} (hs:Src P w A i.size xv m new news)
  {w1:World} (hst:(match ad with|some p=>storeCells p (news.take (min m n*i.size)) 0|none=>pure ()).run P w=.ok () w1):
  (Builtin.copy_ (t::ts).toArray ty #[.slice ad n cap,xv]).run P w=.ok (goInt ((min m n:Nat):Int)) w1:=by
 have h1:=hs.len w;have h2:=hs.part (min m n) (Nat.min_le_left _ _);have e:Nat.min m n=min m n:=rfl;generalize min m n=k at *
 cases ad with
 |none=>
  simp only at hst;simp [Builtin.copy_,run_underlying ht,sizeOf,typeInfo,hi,h1,h2,e]
  simpa using hst
 |some p=>
  simp only at hst;simp [Builtin.copy_,run_underlying ht,sizeOf,typeInfo,hi,h1,h2,e,hst]
theorem EV {t tx ty e:TypeId}{i:TypeInfo}{k kx:IntKind}{ts:List TypeId}(ht:P.underlying t=some (.slice e)) (htx:P.underlying tx=some (.int k)) (hi:P.info? e=some i):
  (Builtin.append_ (t::tx::ts).toArray ty #[.slice none 0 0,.int kx 0]).run P w=.ok (.slice none 0 0) w:=by
 have hw:IntKind.i64.wrap 0=0:=by decide
 simp [Builtin.append_,run_underlying ht,run_underlying htx,sizeOf,typeInfo,hi,asInt,asIntOf,hw]
theorem IJ {t tx ty e:TypeId}{i:TypeInfo}{z:Value}{k kx:IntKind}{ts:List TypeId}(ht:P.underlying t=some (.slice e)) (htx:P.underlying tx=some (.int k)) (hi:P.info? e=some i)(hz:i.zero=some z)
  {n:Int} (h0:0<n) (hb:n.toNat*i.bytes<=1099511627776) (hn:n<=1099511627776):
  (Builtin.append_ (t::tx::ts).toArray ty #[.slice none 0 0,.int kx n]).run P w =
   .ok (.slice (some ⟨w.heap.size,0,none⟩) n.toNat (grownCap w n.toNat 0 e)) (w.drew.alloc (.cells ((if n.toNat*i.size=0 then #[] else Builtin.zeroCells z.cells n.toNat)++Builtin.zeroCells z.cells (grownCap w n.toNat 0 e-n.toNat)) e)):=by
 have hw:IntKind.i64.wrap n=n:=IntWalk.i64_in n (by omega)
 have hfit:=growslice_fits (need:=n.toNat) (old:=0) (bytes:=i.bytes) (by omega) (by omega)
 have hn0:¬n<0:=by omega
 have hnn:¬(281474976710656<n*(i.bytes:Int)):=by
  have:n*(i.bytes:Int)=((n.toNat*i.bytes:Nat):Int):=by
   rw [Int.natCast_mul,Int.toNat_of_nonneg (by omega)]
  omega
 have hz0:¬(n.toNat=0):=by omega
 have h63':¬(9223372036854775807<(n.toNat:Int)):=by omega
 have h48':¬(281474976710656<Builtin.nextslicecap n.toNat 0*i.bytes):=by omega
 have hle:¬n<=0:=by omega
 have hmx:¬(9223372036854775807<max n 0):=by omega
 by_cases hs:n.toNat*i.size=0
 ·simp [Builtin.append_,run_underlying ht,run_underlying htx,sizeOf,typeInfo,zeroValue,hi,hz,asInt,asIntOf,hw,hn0,hnn,hz0,hle,hmx,h63',h48',Question.forced,hs,newRow,grownCap,Builtin.firstCells]
 ·simp [Builtin.append_,run_underlying ht,run_underlying htx,sizeOf,typeInfo,zeroValue,hi,hz,asInt,asIntOf,hw,hn0,hnn,hz0,hle,hmx,h63',h48',Question.forced,hs,newRow,grownCap,Builtin.firstCells]
theorem Nq {t tx ty e:TypeId}{i:TypeInfo}{d:TypeDesc}{ts:List TypeId}(ht:P.underlying t=some (.slice e)) (htx:P.underlying tx=some d)(hd:∀k,d ≠ .int k)(hi:P.info? e=some i)
  {xv:Value} {news:List Value} {A:Nat->Prop} {new:List PV} (hs:Src P w A i.size xv 0 new news):
  (Builtin.append_ (t::tx::ts).toArray ty #[.slice none 0 0,xv]).run P w=.ok (.slice none 0 0) w:=by
 have h1:=hs.len w;have h2:(Builtin.firstCells i.size 0 xv).run P w=.ok news.toArray w:=hs.cells w (fun _ _=>rfl)
 have hzf:(match d with | .int _=>true|_=>false)=false:=by cases d<;>first|rfl|exact absurd rfl (hd _)
 simp [Builtin.append_,run_underlying ht,run_underlying htx,hzf,sizeOf,typeInfo,hi,h1,h2]
end
open Go.RowKit
section
variable {R:Type} {r:R} {P:Program} {N:Nat} {w0:World} {X0:Fh} {Y:Nat->Prop} {β β':Bt} {s:St} {a:Act} {w w':World} {o:Oper} {A:Nat->Prop}
theorem Ahp {b j:Nat}(h:j<bsz w b):(w.cell? ⟨b,j,none⟩).isSome=true:=by
 unfold bsz at h;unfold World.cell?;split at h
 ·rename_i c e fz hb;simp [hb,h]
 ·omega
theorem Abd {id d:Nat}{c cells:List PV}{bo:Option (Nat × Nat)} (h0:s.hp id=some (.ar false c)) (hd:s.hp d=none)
  (hbo:∀k x,bo=some (k,x)->w.heap.size<=k∨∃y,β id=some (k,y)):
  ∀k,k<w.heap.size->C1 (Cz (Cz s.hp id (some .mv)) d (some (.ar false cells))) (Cz β d bo) Y k->C1 s.hp β Y k:=by
 rintro k hk (⟨i,x,hl,hβ⟩|hY)
 ·by_cases e':i=d
  ·subst e';rw [Az] at hβ;rcases hbo k x hβ with h|⟨y,hy⟩
   ·omega
   ·exact .inl ⟨id,y,by rw [h0];trivial,hy⟩
  ·rw [Av _ _ e'] at hl hβ;by_cases e:i=id
   ·subst e;rw [Az] at hl;exact hl.elim
   ·rw [Av _ _ e] at hl;exact .inl ⟨i,x,hl,hβ⟩
 ·exact .inr hY
theorem MX {pre new:List PV}{olds news:List Value}{zs:Array Value}{e:TypeId}{A':Nat->Prop}(hg:Hg w w' (olds.toArray++news.toArray++zs) e) (hA:∀b,b<w.heap.size->A' b->A b)
  (h1:Bk (A7 w A) pre olds) (h2:Bk (A7 w A) new news) (ho:∀u∈olds,u.oneCell'=true)(hn:∀u∈news,u.oneCell'=true):QC w' A' ⟨w.heap.size,0,none⟩ (pre++new):=by
 refine Adu hg hA fun j p hj=>?_
 obtain ⟨v,hv,ht⟩:=(h1.app h2).get hj;refine ⟨v,?_,?_,ht⟩
 ·have hlt:j<(olds++news).length:=by
   rcases Nat.lt_or_ge j (olds++news).length with h|h
   ·exact h
   ·rw [List.getElem?_eq_none h] at hv;cases hv
  rw [Array.getElem?_append_left (by simpa using hlt)]
  simpa using hv
 ·rcases List.mem_append.1 (List.mem_of_getElem? hv) with hm|hm
  ·exact ho v hm
  ·exact hn v hm
theorem TN (h:B4 N w0 X0 Y β s a w){c:Call}(ho:o.op=.call c)(hc:c.callee=.builtin .append)(hnb:DP c=true){d:Nat}(hdst:o.dst=some d){b x:Operand}(hargs:c.args.toList=[b,x]) {t tx:TypeId}{ts:List TypeId}(htys:c.argTypes.toList=t::tx::ts)
  {K:PV->List (Nat × Bn)->Option R} (hk:Xp P (Kz s.hp) d t tx (Cm s.tm x) K=some r):∃v nw,K v nw=some r∧Fi P a w o Y β s v [] nw:=by
 have hb:b=.const (.slice none 0 0):=by
  unfold DP at hnb;rw [hargs] at hnb;split at hnb
  ·rename_i e;injection e
  ·cases hnb
 have hcargs:c.args = #[b,x]:=by
  have:c.args=([b,x]:List Operand).toArray:=by rw [←hargs]
  exact this
 have hctys:c.argTypes=(t::tx::ts).toArray:=by rw [←htys]
 have hab:a.eval b=.slice none 0 0:=by rw [hb];rfl
 have run:∀{v:Value} {w1:World},(Builtin.append_ (t::tx::ts).toArray o.type #[a.eval b,a.eval x]).run P w=.ok v w1->(execOp a.eval o).run P w=.ok (.value v) w1:=by
  intro v w1 hr;unfold execOp;rw [ho];simp only [resolve,hc,invoke,builtin,Sem.run_bind,Sem.run_pure,Result.andThen_ok,hcargs,hctys];have:(#[b,x]:Array Operand).map a.eval = #[a.eval b,a.eval x]:=by simp
  rw [this,hr];rfl
 unfold Xp at hk;split at hk
 ·rename_i e hu;obtain ⟨hzi,hk⟩:=Ax hk;obtain ⟨i,z,hi,hz,hzs,hsz⟩:=MN hzi;have hbytes:((P.info? e).map (·.bytes)).getD 0=i.bytes:=by rw [hi];rfl
  obtain ⟨⟨dx,hdx,hdxi⟩,m,new,news,hk,hs⟩:=KC (s:=s) h hk (fun m new hk'=>by
   obtain ⟨hb,_⟩:=Ax hk';simp only [Bool.and_eq_true,decide_eq_true_eq] at hb;exact hb.1.1)
  obtain ⟨hb',hk⟩:=Ax hk;simp only [Bool.and_eq_true,decide_eq_true_eq] at hb';obtain ⟨⟨hnewl,hby⟩,hnm⟩:=hb';have hnl:new.length=news.length:=hs.rep.len;rw [hsz] at hnewl hk hs;rw [hbytes] at hby;have hnews:news.length=m*i.size:=by omega
  refine ⟨_,_,hk,by simp,?_⟩
  by_cases hm0:m=0
  ·subst hm0;have hr:=Nq (P:=P) (w:=w) (t:=t) (tx:=tx) (ty:=o.type) (ts:=ts) hu hdx hdxi hi hs;rw [←hab] at hr;have hnew0:new=[]:=List.eq_nil_of_length_eq_zero (by omega)
   subst hnew0;refine ⟨_,_,run hr,fun habs=>⟨Cz β d none,?_⟩⟩
   have hdn:s.hp d=none:=(Bq habs).1 d _ (List.mem_singleton_self _);rw [hab];refine ⟨rfl,rfl,rfl,Cb.refl _ _,fun j hj=>Av _ _ (by rintro rfl;exact hj hdn),?_,?_,?_,?_,?_,.inl ⟨Az _ _ _,rfl,rfl,rfl⟩,?_⟩
   ·intro j bx hm;simp at hm;rw [hm.2];trivial
   ·intro j bx hm;simp at hm;obtain ⟨rfl,rfl⟩:=hm;exact .inl ⟨Az _ _ _,rfl⟩
   ·intro j bx k q hm hq;simp at hm;obtain ⟨rfl,rfl⟩:=hm;rw [Az] at hq;cases hq
   ·intro j bx j' bx' k q q' hm hm' _ _;simp at hm hm';rw [hm.1,hm'.1]
   ·intro j cells hm;simp at hm
   ·intro j hj;simp [Bx,Cf,Ay] at hj;subst hj;exact .inr ⟨.ar false [],by simp⟩
  ·have hr:=Nr (P:=P) (w:=w) (t:=t) (tx:=tx) (ty:=o.type) (ts:=ts) (ad:=none) (n:=0) (cap:=0) (olds:=[]) hu hdx hdxi hi hz hs (.inl ⟨rfl,rfl⟩) (by omega) (by rw [Nat.zero_add];exact hby) (by omega)
   rw [←hab] at hr;refine ⟨_,_,run hr,fun habs=>⟨Cz β d (some (w.heap.size,0)),?_⟩⟩
   have hdn:s.hp d=none:=(Bq habs).1 d _ (List.mem_singleton_self _);have hge:0+m<=grownCap w (0+m) 0 e:=grownCap_ge w (0+m) 0 e
   have hgb:Hg w (w.drew.alloc (.cells (([]:List Value).toArray++news.toArray++Builtin.zeroCells z.cells (grownCap w (0+m) 0 e-(0+m))) e)) (([]:List Value).toArray++news.toArray++Builtin.zeroCells z.cells (grownCap w (0+m) 0 e-(0+m))) e:=
    ⟨rfl,rfl,rfl,fun k hk=>Below.heap_alloc w.drew _ k hk,by show (w.heap.push _).size=_;simp,(0,0),by show (w.heap.push _)[w.heap.size]?=_;simp,.inl rfl⟩
   have hasz:(([]:List Value).toArray++news.toArray++Builtin.zeroCells z.cells (grownCap w (0+m) 0 e-(0+m))).size=grownCap w (0+m) 0 e*i.size:=by
    simp only [Array.size_append,List.size_toArray,size_zeroCells,hzs,hnews,List.length_nil,←Nat.add_mul];rw [Nat.zero_add (m*i.size),←Nat.add_mul]
    congr 1
    omega
   refine Sn (s:=⟨s.tm,Ai s.hp []⟩) hgb hdn trivial ?_ (fun cells hx=>by cases hx) ?_ (by intro j hj;simp [Bx,Cf,Ay] at hj;exact .inr hj)
   ·refine .inr ⟨w.heap.size,0,Az _ _ _,?_,fun _ j _ hj=>?_,(fun q=>by cases q)⟩
    ·exact MX (pre:=[]) hgb (Adq (s:=⟨s.tm,Ai s.hp []⟩) hdn) trivial hs.rep (by simp) hs.one
    ·rw [hgb.bsz] at hj;exact hgb.frozen hj
   ·refine .inr ⟨w.heap.size,0,0,grownCap w (0+m) 0 e,Az _ _ _,by rw [Nat.zero_add],.inl rfl,by omega,?_,by rw [hgb.size];omega⟩
    rw [hgb.bsz,hasz];omega
 ·cases hk
end
open Go.RowKit
section
variable {R:Type} {r:R} {P:Program} {N:Nat} {w0:World} {X0:Fh} {Y:Nat->Prop} {β β':Bt} {s:St} {a:Act} {w w':World} {o:Oper} {A:Nat->Prop}
theorem Ajs (h:B4 N w0 X0 Y β s a w){G:Vq}(hNG:IM P G w0 X0){C:Hs}{call:Ah}(hcall:∀f args res,call f args=some res->C9 G P f args res){K:PV->List Nat->List (Nat × Bn)->Option R}
  (hk:MH C P N call s.tm (rd s.hp) (Kz s.hp) o K=some r):∃v fz nw,K v fz nw=some r∧MC P a w o Y β s v fz nw:=by
 have one:∀{K':PV->Option R},(∀v,K' v=some r->K v [] []=some r)->(∃v,K' v=some r∧Fi P a w o Y β s v [] [])->∃v fz nw,K v fz nw=some r∧MC P a w o Y β s v fz nw:=
  fun hK ⟨v,h1,h2⟩=>⟨v,[],[],hK v h1,UT h2⟩
 have many:(∃v fz nw,K v fz nw=some r∧Fi P a w o Y β s v fz nw)->∃v fz nw,K v fz nw=some r∧MC P a w o Y β s v fz nw:=
  fun ⟨v,fz,nw,h1,h2⟩=>⟨v,fz,nw,h1,UT h2⟩
 unfold MH at hk;split at hk
 ·rename_i x ho;exact one (fun _ h=>h) (BU (K:=fun p=>K p [] []) h (Agf ho) hk)
 ·rename_i x ho;exact one (fun _ h=>h) (BU (K:=fun p=>K p [] []) h (XD ho) hk)
 ·rename_i c x y ho;exact one (fun _ h=>h) (ZZ (K:=fun p=>K p [] []) h ho hk)
 ·rename_i t ho;obtain ⟨d,hd,hk⟩:=Dd hk;exact many (XS ho hk)
 ·rename_i t x ho;obtain ⟨d,hd,hk⟩:=Dd hk;exact many (Af2 h ho hk)
 ·rename_i t ps ho;exact one (fun _ h=>h) (YO (K:=fun p=>K p [] []) h ho hk)
 ·rename_i t n ps ho;obtain ⟨d,hd,hk⟩:=Dd hk;exact many (GB h ho hk)
 ·rename_i t x ho;exact one (fun _ h=>h) (Abb (K:=fun p=>K p [] []) h ho hk)
 ·rename_i x ho;exact one (fun _ h=>h) (LH (K:=fun p=>K p [] []) h ho hk)
 ·rename_i op t x y ty ho;exact one (fun _ h=>h) (VF (K:=fun p=>K p [] []) h ho hk)
 ·rename_i op t x ho;exact one (fun _ h=>h) (Abz (K:=fun p=>K p [] []) h ho hk)
 ·rename_i src dst x ho;obtain ⟨v,nw,hk,hg⟩:=Aag h ho hk;obtain ⟨d,hd,hk⟩:=Dd hk;exact ⟨v,[],nw,hk,UT hg⟩
 ·rename_i t x y ho;obtain ⟨d,hd,hk⟩:=Dd hk;exact many (Aaa h ho hk)
 ·rename_i t x lo hi mx ho;split at hk
  ·exact one (fun _ h=>h) (XA (K:=fun p=>K p [] []) h ho hk)
  ·cases hk
 ·rename_i t x f ho;exact one (fun _ h=>h) (HX (K:=fun p=>K p [] []) h ho hk)
 ·rename_i t x f ho;exact one (fun _ h=>h) (WL (K:=fun p=>K p [] []) h ho hk)
 ·rename_i t x i ho;exact one (fun _ h=>h) (HZ (K:=fun p=>K p [] []) h ho hk)
 ·rename_i t x i ho;exact one (fun _ h=>h) (XW (K:=fun p=>K p [] []) h ho hk)
 ·rename_i x i ho;exact one (fun _ h=>h) (OC (K:=fun p=>K p [] []) h ho hk)
 ·rename_i c ho;split at hk
  ·rename_i hc;exact one (fun _ h=>h) (Ae2 (K:=fun p=>K p [] []) h ho hc hk)
  ·rename_i hc;exact one (fun _ h=>h) (Afo (K:=fun p=>K p [] []) h ho hc hk)
  ·rename_i hc;exact one (fun _ h=>h) (Aec (K:=fun p=>K p [] []) h ho hc hk)
  ·rename_i hc;exact one (fun _ h=>h) (Aen (K:=fun p=>K p [] []) h ho hc hk)
  ·rename_i hc;obtain ⟨hnb,hk⟩:=Ax hk;obtain ⟨d,hd,hk1⟩:=Dd hk;obtain ⟨b,xs,hxs,hk2⟩:=Be hk1;obtain ⟨x,ys,hys,hk3⟩:=Be hk2;obtain ⟨hnil,hk4⟩:=Dt hk3;obtain ⟨t,us,hus,hk5⟩:=Be hk4;obtain ⟨tx,vs,hvs,hk6⟩:=Be hk5;rw [hys,hnil] at hxs;rw [hvs] at hus;obtain ⟨v,nw,h1,h2⟩:=TN h ho hc hnb hd hxs hus hk6;exact ⟨v,[],nw,h1,UT h2⟩
  ·rename_i f hc;exact MU h hNG hcall (fun hf hb=>MZ ho hc hNG.ng hf hb) hk
  ·rename_i t hc;obtain ⟨f,hf0,hk1⟩:=Alp hk;have ht:a.eval (.tmp t)=.func (.func f) #[] #[]:=Cx h (x:=.tmp t) hf0;exact MU h hNG hcall (fun hf hb=>Afq ho hc ht hNG.ng hf hb) hk1
  ·cases hk
 ·cases hk
theorem Aap (h:B4 N w0 X0 Y β s a w){G:Vq}(hNG:IM P G w0 X0){C:Hs}{call:Ah}(hcall:∀f args res,call f args=some res->C9 G P f args res){K:St->Option R}
  (hk:(MH C P N call s.tm (rd s.hp) (Kz s.hp) o fun v fz nw=>FO N s o.dst v fz nw K)=some r):
  ∃s',K s'=some r∧∀(next:Act->World->Prop) (Q:Exit->Act->World->Prop),(∀a' w' β',B4 N w0 X0 Y β' s' a' w'->next a' w')->o.wp P a w next Q:=by
 obtain ⟨v,fz,nw,hk,hfz,hg⟩:=Ajs h hNG hcall hk;unfold FO at hk;obtain ⟨hb,hk⟩:=Ax hk;simp only [Bool.and_eq_true] at hb;refine ⟨_,hk,fun next Q hn=>hg next Q fun val w' hst=>?_⟩
 obtain ⟨β',st⟩:=hst hb.2
 have hab:B9 (Ai s.hp fz) nw=true:=by
  have:∀nw,B9 s.hp nw=true->B9 (Ai s.hp fz) nw=true:=by
   intro nw
   induction nw with
   |nil=>intro _;rfl
   |cons q nw ih=>
    obtain ⟨i,b⟩:=q;intro hq;simp only [B9,Bool.and_eq_true,Option.isNone_iff_eq_none] at hq ⊢;exact ⟨⟨Ef.2 hq.1.1,hq.1.2⟩,ih hq.2⟩
  exact this nw hb.2
 exact hn _ _ β' ((h.freeze hfz).stepR hb.1 hab st)
end
open Go.RowKit
section
variable {R:Type} {r:R} {P:Program} {N:Nat} {w0:World} {X0:Fh} {Y:Nat->Prop} {β β':Bt} {s:St} {a:Act} {w w':World} {o:Oper} {A:Nat->Prop}
structure Ex (b:Nat) (w w':World):Prop where
 os:w'.os=w.os
 tape:w'.tape=w.tape
 output:w'.output=w.output
 size:w'.heap.size=w.heap.size
 other:∀k,k≠b->w'.heap[k]?=w.heap[k]?
 bs:bsz w' b=bsz w b
 frz:∀j,w'.frozen? ⟨b,j,none⟩=w.frozen? ⟨b,j,none⟩
theorem Ex.refl (b:Nat)(w:World):Ex b w w:=⟨rfl,rfl,rfl,rfl,fun _ _=>rfl,rfl,fun _=>rfl⟩
theorem Ex.setCell (b j:Nat)(v:Value)(w:World):Ex b w (w.setCell ⟨b,j,none⟩ v):=by
 refine ⟨rfl,rfl,rfl,by simp [World.setCell],fun k hk=>Below.heap_setCell w ⟨b,j,none⟩ v k hk,?_,fun i=>?_⟩
 ·simp only [bsz,World.setCell,Array.getElem?_modify];simp only [if_true];cases h:w.heap[b]? with
  |none=>simp
  |some x=>cases x<;>simp
 ·simp only [World.frozen?,World.setCell,Array.getElem?_modify,if_true];cases h:w.heap[b]? with
  |none=>simp
  |some x=>cases x<;>simp
theorem Ex.trans {b:Nat}{w'':World}(h:Ex b w w')(h':Ex b w' w''):Ex b w w'':=
 ⟨h'.os.trans h.os,h'.tape.trans h.tape,h'.output.trans h.output,h'.size.trans h.size,fun k hk=>(h'.other k hk).trans (h.other k hk),h'.bs.trans h.bs,fun j=>(h'.frz j).trans (h.frz j)⟩
theorem Ex.setCells (b:Nat):∀(vs:List Value)(j:Nat)(w:World),Ex b w (w.setCells b j vs)
 |[],_,w=>Ex.refl b w
 |v::vs,j,w=>(Ex.setCell b j v w).trans (Ex.setCells b vs (j+1) _)
theorem Atn {hp:Nat->Option Bn}{id:Nat}{bx bx':Bn}(h0:hp id=some bx)(hl:Cg (some bx)) (hl':Cg (some bx')) (b:Nat):BV (Cz hp id (some bx')) β b↔BV hp β b:=by
 constructor
 ·rintro ⟨i,o,h1,h2⟩
  by_cases e:i=id
  ·subst e;exact ⟨i,o,by rw [h0];exact hl,h2⟩
  ·rw [Av _ _ e] at h1;exact ⟨i,o,h1,h2⟩
 ·rintro ⟨i,o,h1,h2⟩
  by_cases e:i=id
  ·subst e;exact ⟨i,o,by rw [Az];exact hl',h2⟩
  ·exact ⟨i,o,by rw [Av _ _ e];exact h1,h2⟩
theorem B4.write (h:B4 N w0 X0 Y β s a w){id b ob:Nat}{bx bx':Bn}(h0:s.hp id=some bx)(hl:Cg (some bx)) (hl':Cg (some bx')) (hβ:β id=some (b,ob)) (hw:Ex b w w')
  (hbx:Sz w' (C1 s.hp β Y) β id bx') (hr:∀cells,bx'=.st cells->∀c∈cells,∀i∈Ay c,s.hp i≠none)
  (hK:∀c',bx'=.st c'->∃c,bx=.st c)(hR:∀j,BR bx' ob j->BR bx ob j)(hO:∀j,¬BR bx ob j->w'.cell? ⟨b,j,none⟩=w.cell? ⟨b,j,none⟩):B4 N w0 X0 Y β ⟨s.tm,Cz s.hp id (some bx')⟩ a w':=by
 have hX:=Atn (β:=β) h0 hl hl';have hA:∀k,C1 (Cz s.hp id (some bx')) β Y k↔C1 s.hp β Y k:=fun k=>⟨fun x=>x.imp (hX k).1 (fun y=>y),fun x=>x.imp (hX k).2 (fun y=>y)⟩
 have hAb:C1 s.hp β Y b:=.inl ⟨id,ob,by rw [h0];exact hl,hβ⟩
 have hst:Cb (C1 s.hp β Y) w w':=⟨by rw [hw.size];exact Nat.le_refl _,fun k _ hk=>hw.other k (fun e=>hk (e ▸ hAb)),fun k _=>by
  by_cases e:k=b
  ·subst e;rw [hw.bs];exact Nat.le_refl _
  ·unfold bsz;rw [hw.other k e];exact Nat.le_refl _⟩
 have hnn:∀i,Cz s.hp id (some bx') i≠none↔s.hp i≠none:=by
  intro i;by_cases e:i=id
  ·subst e;rw [Az,h0];simp
  ·rw [Av _ _ e]
 have hAe:C1 (Cz s.hp id (some bx')) β Y=C1 s.hp β Y:=funext fun k=>propext (hA k)
 have hlv:∀i,Cg (Cz s.hp id (some bx') i)->Cg (s.hp i):=by
  intro i hi;by_cases e:i=id
  ·subst e;rw [h0];exact hl
  ·rw [Av _ _ e] at hi;exact hi
 refine ⟨h.dfr,h.tsz,h.tmo,fun i hi=>?_,fun i bi hb=>?_,fun i i' k x y h1 h2=>h.inj i i' k x y (hlv i h1) (hlv i' h2),fun i k x hi hk=>?_,fun i hi j hj=>(hnn j).2 (h.wfT i hi j hj),
  fun i cells hc c hcm j hj=>(hnn j).2 ?_,fun k hk=>h.ownd k ((hX k).1 hk),fun i bi k x hbi hli hk hlt j hj=>?_,fun i hi=>⟨(hnn _).2 (h.pin i hi).1,(h.pin i hi).2⟩,fun i c k x hc hk hlt=>?_,fun k hk x=>h.Yx k hk ((hX k).1 x),h.Ylt,?_⟩
 ·rw [hAe];exact (h.tms i hi).step hst (fun _ _ x=>x) (fun _ _=>rfl)
 ·rw [hAe];simp only at hb;by_cases e:i=id
  ·subst e;rw [Az] at hb;cases hb;exact hbx
  ·rw [Av _ _ e] at hb;have hbi:=h.box i bi hb;cases bi with
   |st c=>
    obtain ⟨k,x,h1,h2,h3⟩:=hbi
    have hk:k≠b:=by
     rintro rfl
     exact e (h.inj i id k x ob (by rw [hb];trivial) (by rw [h0];exact hl) h1 hβ)
    refine ⟨k,x,h1,fun j c hj=>?_,fun j hj=>?_⟩
    ·obtain ⟨v,hv,hc⟩:=h2 j c hj;exact ⟨v,by rw [World.cell?_of_block (w:=w) (hw.other k hk)];exact hv,hc.step hst (fun _ _ x=>x) (fun _ _=>rfl)⟩
    ·rw [World.frozen?_of_block (w:=w) (hw.other k hk)];exact h3 j hj
   |ar fz c=>
    rcases hbi with hn|⟨k,x,h1,h2,h3,h4⟩
    ·exact .inl hn
    ·have hk:k≠b:=by
      rintro rfl
      cases fz with
      |true=>exact h4 rfl hAb
      |false=>exact e (h.inj i id k x ob (by rw [hb];trivial) (by rw [h0];exact hl) h1 hβ)
     refine .inr ⟨k,x,h1,fun j c hj=>?_,fun ef j hj hj'=>?_,h4⟩
     ·obtain ⟨v,hv,h5,hc⟩:=h2 j c hj;exact ⟨v,by rw [World.cell?_of_block (w:=w) (by rw [F8];exact hw.other k hk)];exact hv,h5,hc.step hst (fun _ _ x=>x)⟩
     ·rw [World.frozen?_of_block (w:=w) (hw.other k hk)];refine h3 ef j hj ?_;unfold bsz at hj' ⊢;rw [hw.other k hk] at hj';exact hj'
   |mv=>trivial
 ·rw [hw.size];exact h.blt i k x ((hnn i).1 hi) hk
 ·simp only at hc;by_cases e:i=id
  ·subst e;rw [Az] at hc;injection hc with hc;exact hr cells hc c hcm j hj
  ·rw [Av _ _ e] at hc;exact h.wfB i cells hc c hcm j hj
 ·simp only at hbi;by_cases e:i=id
  ·subst e;rw [Az] at hbi;cases hbi;rw [hβ] at hk;cases hk;exact h.rngB i bx b ob h0 hl hβ hlt j (hR j hj)
  ·rw [Av _ _ e] at hbi;exact h.rngB i bi k x hbi hli hk hlt j hj
 ·simp only at hc;by_cases e:i=id
  ·subst e;rw [Az] at hc;injection hc with hc;obtain ⟨c0,rfl⟩:=hK c hc;exact h.stp i c0 k x h0 hk hlt
  ·rw [Av _ _ e] at hc;exact h.stp i c k x hc hk hlt
 ·refine ⟨hw.os.trans h.fr.os,hw.tape.trans h.fr.tape,hw.output.trans h.fr.output,?_,fun k j hk hL=>?_⟩
  ·refine ⟨by rw [hw.size];exact h.fr.step.size,fun k hk hnk=>?_,fun k hk=>Nat.le_trans (h.fr.step.bs k hk) (hst.bs k (Nat.lt_of_lt_of_le hk h.fr.step.size))⟩
   rw [hw.other k ?_]
   ·exact h.fr.step.keep k hk hnk
   ·rintro rfl
    rcases h.ownd k ⟨id,ob,by rw [h0];exact hl,hβ⟩ with hx|hx
    ·exact hnk hx
    ·omega
  ·by_cases e:k=b
   ·subst e;rw [hO j (fun hj=>hL (h.rngB id bx k ob h0 hl hβ hk j hj)),hw.frz]
    exact h.fr.rng k j hk hL
   ·have hc:w'.cell? ⟨k,j,none⟩=w.cell? ⟨k,j,none⟩:=World.cell?_of_block (w:=w) (hw.other k e);have hf:w'.frozen? ⟨k,j,none⟩=w.frozen? ⟨k,j,none⟩:=World.frozen?_of_block (w:=w) (hw.other k e);rw [hc,hf];exact h.fr.rng k j hk hL
theorem Uc {c cs:List PV}{off j:Nat}{p:PV}(hle:off+cs.length<=c.length)(h:(Bd c cs off)[j]?=some p):
  (off<=j∧j<off+cs.length∧cs[j-off]?=some p)∨((j<off∨off+cs.length<=j)∧c[j]?=some p):=by
 unfold Bd at h;by_cases h1:j<off
 ·rw [List.append_assoc,List.getElem?_append_left (by simp;omega),List.getElem?_take_of_lt h1] at h
  exact .inr ⟨.inl h1,h⟩
 ·by_cases h2:j<off+cs.length
  ·rw [List.getElem?_append_left (by simp;omega),List.getElem?_append_right (by simp;omega)] at h
   simp only [List.length_take,Nat.min_eq_left (by omega:off<=c.length)] at h
   exact .inl ⟨by omega,h2,h⟩
  ·rw [List.getElem?_append_right (by simp;omega)] at h
   simp only [List.length_append,List.length_take,Nat.min_eq_left (by omega:off<=c.length),List.getElem?_drop] at h
   rw [show off+cs.length+(j-(off+cs.length))=j from by omega] at h
   exact .inr ⟨.inr (by omega),h⟩
theorem Ur {c cs:List PV}{off:Nat}(hle:off+cs.length<=c.length):(Bd c cs off).length=c.length:=by
 simp [Bd];omega
theorem HS {t:TypeId}{b j:Nat}{v:Value}(hsz:(P.info? t).map (·.size)=some v.cells.size) (hc:∀i,i<v.cells.toList.length->(w.cell? ⟨b,j+i,none⟩).isSome=true)
  (hf:∀i,i<v.cells.toList.length->w.frozen? ⟨b,j+i,none⟩=false)(h1:∀u∈v.cells.toList,u.oneCell'=true):(Instr.storeAt t (.pointer (some ⟨b,j,none⟩)) v).run P w=.ok () (w.setCells b j v.cells.toList):=by
 have:=run_storeCells_cells (P:=P) b j v.cells.toList 0 w (fun i hi=>by simpa using hc i hi) (fun i hi=>by simpa using hf i hi) h1
 simp only [Instr.storeAt,Instr.sureAddr,storeVar,Sem.run_bind,Sem.run_pure,Result.andThen_ok,Md hsz]
 simpa using this
theorem YJ (h:B4 N w0 X0 Y β s a w){t:TypeId}{x y:Operand}(ho:o.op=.store t x y)(hd:o.dst=none){K:St->Option R}(hk:EM P s t (Cm s.tm x) (Cm s.tm y) K=some r):
  ∃s',K s'=some r∧∀(next:Act->World->Prop) (Q:Exit->Act->World->Prop),(∀a' w' β',B4 N w0 X0 Y β' s' a' w'->next a' w')->o.wp P a w next Q:=by
 have hx:=Df h x;have hxr:=Fu h x
 have run:∀{b j:Nat},a.eval x=.pointer (some ⟨b,j,none⟩)->(Instr.storeAt t (.pointer (some ⟨b,j,none⟩)) (a.eval y)).run P w=.ok () (w.setCells b j (a.eval y).cells.toList) ->
   ∀(next:Act->World->Prop) (Q:Exit->Act->World->Prop),next a (w.setCells b j (a.eval y).cells.toList)->o.wp P a w next Q:=by
  intro b j hax hr next Q hn;unfold Oper.wp execOp;rw [ho];simp only [Sem.run_bind,hax,hr,Result.andThen_ok,Sem.run_pure];show next (a.put o.dst undef) _;rw [hd];exact hn
 unfold EM at hk;split at hk
 ·rename_i id off e;rw [e] at hx hxr;obtain ⟨b,ob,hβ,hax⟩:=hx;split at hk
  ·rename_i c h0;obtain ⟨hb,hk⟩:=Ax hk;simp only [Bool.and_eq_true,decide_eq_true_eq] at hb;obtain ⟨⟨hok,hl⟩,hle⟩:=hb;have hl:=Nat.eq_of_beq_eq_true hl;obtain ⟨cs,hk,hcl,h2,h1,hr,_⟩:=Acy (Df h y) hl hk;obtain ⟨_,hcl2,hsz⟩:=Th hok;have hvl:=h2.len;obtain ⟨b',o',hb1,hb2,hb3⟩:=h.box id _ h0;rw [hβ] at hb1;simp at hb1;obtain ⟨rfl,rfl⟩:=hb1
   have hcell:∀i,i<(a.eval y).cells.toList.length->(w.cell? ⟨b,ob+off+i,none⟩).isSome=true:=by
    intro i hi;obtain ⟨v,hv,_⟩:=hb2 (off+i) _ (List.getElem?_eq_getElem (by omega))
    rw [Nat.add_assoc,hv];rfl
   have hrun:=HS (P:=P) (t:=t) (w:=w) (b:=b) (j:=ob+off) (v:=a.eval y) (by rw [hsz,←hcl2,←hcl,hvl];simp) hcell (fun i hi=>by rw [Nat.add_assoc];exact hb3 _ (by omega)) h1
   refine ⟨_,hk,fun next Q hn=>run hax hrun next Q (hn _ _ β ?_)⟩
   refine h.write h0 trivial trivial hβ (Ex.setCells b _ _ w) ?_ ?_ (fun _ _=>⟨_,rfl⟩) (fun j hj=>by
    have hj:ob<=j∧j<ob+(Bd c cs off).length:=hj;rw [Ur (by omega)] at hj
    exact hj) (fun j hj=>by
    refine World.cell?_setCells_out b _ _ w ⟨b,j,none⟩ (fun _ _=>?_)
    have hj:¬(ob<=j∧j<ob+c.length):=hj;show j<ob+off∨ob+off+_<=j;omega)
   ·have hst:Cb (C1 s.hp β Y) w (w.setCells b (ob+off) (a.eval y).cells.toList):=by
     have hw:=Ex.setCells b (a.eval y).cells.toList (ob+off) w;have hAb:C1 s.hp β Y b:=.inl ⟨id,ob,by rw [h0];trivial,hβ⟩
     exact ⟨by rw [hw.size];exact Nat.le_refl _,fun k _ hk=>hw.other k (fun e=>hk (e ▸ hAb)),fun k _=>by
      by_cases e:k=b
      ·subst e;rw [hw.bs];exact Nat.le_refl _
      ·unfold bsz;rw [hw.other k e];exact Nat.le_refl _⟩
    refine ⟨b,ob,hβ,fun j p hj=>?_,fun j hj=>?_⟩
    ·rcases Uc (by omega) hj with ⟨h3,h4,h5⟩|⟨h3,h5⟩
     ·obtain ⟨u,hu,hcu⟩:=h2.get h5;have hlt:j-off<(a.eval y).cells.toList.length:=by omega
      refine ⟨u,?_,hcu.step hst (fun _ _ x=>x) (fun _ _=>rfl)⟩
      have:=World.cell?_setCells_in b (a.eval y).cells.toList (ob+off) w hcell (j-off) hlt;rw [show ob+j=ob+off+(j-off) from by omega,this]
      rw [List.getElem?_eq_getElem hlt] at hu;exact hu
     ·obtain ⟨v,hv,hcv⟩:=hb2 j p h5;refine ⟨v,?_,hcv.step hst (fun _ _ x=>x) (fun _ _=>rfl)⟩
      rw [World.cell?_setCells_out b _ _ w ⟨b,ob+j,none⟩ (fun _ _=>by show ob+j<ob+off∨ob+off+_<=ob+j;omega)]
      exact hv
    ·rw [Ur (by omega)] at hj
     rw [(Ex.setCells b _ _ w).frz];exact hb3 j hj
   ·intro cells hx c' hc' i hi;injection hx with hx;subst hx;unfold Bd at hc';rcases List.mem_append.1 hc' with hc'|hc'
    ·rcases List.mem_append.1 hc' with hc'|hc'
     ·exact h.wfB id c h0 c' (List.mem_of_mem_take hc') i hi
     ·exact Fu h y i (hr c' hc' i hi)
    ·exact h.wfB id c h0 c' (List.mem_of_mem_drop hc') i hi
  ·rename_i c h0;obtain ⟨hb,hk⟩:=Ax hk;simp only [Bool.and_eq_true,decide_eq_true_eq] at hb;obtain ⟨hok,hle⟩:=hb;obtain ⟨cs,m,hk,hcl,hpl,hT,hF,hm,hv⟩:=Sx h hk;obtain ⟨hnm,hk⟩:=Ax hk
   have hnm:id ∉ m:=by
    intro hi;have:m.any (Nat.beq id)=true:=List.any_eq_true.2 ⟨id,hi,Nat.beq_refl id⟩;rw [this] at hnm;cases hnm
   obtain ⟨_,hcl2,hsz⟩:=Th hok
   have hycells:Bk (Cc w (C1 s.hp β Y) β) (cellsOf (Cm s.tm y)) (a.eval y).cells.toList:=by
    have hyv:=Df h y;cases hp:Cm s.tm y with
    |agg ps=>
     rw [hp] at hyv;obtain ⟨vs,hay,h2⟩:=hyv;rw [hay];exact h2
    |sc v=>
     rw [hp] at hyv hF
     have hone:(a.eval y).oneCell'=true:=by
      have:=hv m (fun _ hi=>hi) hm [a.eval y] (by rw [hp];exact ⟨hyv,trivial⟩)
      exact this.2 _ (by simp)
     rw [Pd hone];exact ⟨hyv,trivial⟩
    |lst z es n cc=>
     rw [hp] at hyv hF
     have hone:(a.eval y).oneCell'=true:=by
      have:=hv m (fun _ hi=>hi) hm [a.eval y] (by rw [hp];exact ⟨hyv,trivial⟩)
      exact this.2 _ (by simp)
     rw [Pd hone];exact ⟨hyv,trivial⟩
    |view i es oo n=>
     rw [hp] at hyv hF
     have hone:(a.eval y).oneCell'=true:=by
      have:=hv m (fun _ hi=>hi) hm [a.eval y] (by rw [hp];exact ⟨hyv,trivial⟩)
      exact this.2 _ (by simp)
     rw [Pd hone];exact ⟨hyv,trivial⟩
    |own es n cc=>
     have hx0:=hF (Cm s.tm y) (by rw [hp];exact List.mem_singleton_self _)
     rw [hp] at hx0;exact hx0.elim
    |ptr i cc=>
     have hx0:=hF (Cm s.tm y) (by rw [hp];exact List.mem_singleton_self _)
     rw [hp] at hx0;exact hx0.elim
    |iptr i cc=>
     have hx0:=hF (Cm s.tm y) (by rw [hp];exact List.mem_singleton_self _)
     rw [hp] at hx0;exact hx0.elim
    |pbox cc=>
     have hx0:=hF (Cm s.tm y) (by rw [hp];exact List.mem_singleton_self _)
     rw [hp] at hx0;exact hx0.elim
    |tup cc=>
     have hx0:=hF (Cm s.tm y) (by rw [hp];exact List.mem_singleton_self _)
     rw [hp] at hx0;exact hx0.elim
    |ub=>
     have hx0:=hF (Cm s.tm y) (by rw [hp];exact List.mem_singleton_self _)
     rw [hp] at hx0;exact hx0.elim
    |top=>
     have hx0:=hF (Cm s.tm y) (by rw [hp];exact List.mem_singleton_self _)
     rw [hp] at hx0;exact hx0.elim
   obtain ⟨h2,h1⟩:=hv m (fun _ hi=>hi) hm _ hycells
   have hvl:=h2.len;have hf:=h.freeze hm;have h0':Ai s.hp m id=some (.ar false c):=by rw [Ca,if_neg hnm];exact h0
   rcases hf.box id _ h0' with ⟨hn,_⟩|⟨b',o',hb1,hb2,hb3,_⟩
   ·rw [hβ] at hn;cases hn
   rw [hβ] at hb1;simp at hb1;obtain ⟨rfl,rfl⟩:=hb1
   have hcell:∀i,i<(a.eval y).cells.toList.length->(w.cell? ⟨b,ob+off+i,none⟩).isSome=true:=by
    intro i hi;obtain ⟨v,hv,_⟩:=hb2 (off+i) _ (List.getElem?_eq_getElem (by omega))
    rw [D6] at hv;rw [Nat.add_assoc,hv];rfl
   have hrun:=HS (P:=P) (t:=t) (w:=w) (b:=b) (j:=ob+off) (v:=a.eval y) (by rw [hsz,←hcl2,←hcl,hvl];simp) hcell (fun i hi=>by
    obtain ⟨u,hu⟩:=Option.isSome_iff_exists.1 (hcell i hi);exact hb3 rfl _ (by omega) (KZ hu)) h1
   refine ⟨_,hk,fun next Q hn=>run hax hrun next Q (hn _ _ β ?_)⟩
   refine hf.write h0' trivial trivial hβ (Ex.setCells b _ _ w) ?_ (fun cells hx=>by cases hx) (fun _ hx=>by cases hx) (fun j hj=>hj) (fun j hj=>by
    refine World.cell?_setCells_out b _ _ w ⟨b,j,none⟩ (fun _ _=>?_)
    have hj:¬(ob<=j):=hj;show j<ob+off∨ob+off+_<=j;omega)
   have hst:Cb (C1 (Ai s.hp m) β Y) w (w.setCells b (ob+off) (a.eval y).cells.toList):=by
    have hw:=Ex.setCells b (a.eval y).cells.toList (ob+off) w;have hAb:C1 (Ai s.hp m) β Y b:=.inl ⟨id,ob,by rw [h0'];trivial,hβ⟩
    exact ⟨by rw [hw.size];exact Nat.le_refl _,fun k _ hk=>hw.other k (fun e=>hk (e ▸ hAb)),fun k _=>by
     by_cases e:k=b
     ·subst e;rw [hw.bs];exact Nat.le_refl _
     ·unfold bsz;rw [hw.other k e];exact Nat.le_refl _⟩
   refine .inr ⟨b,ob,hβ,fun j p hj=>?_,fun _ j hj hj'=>?_,(fun x=>by cases x)⟩
   ·rw [D6];rcases Uc (by omega) hj with ⟨h3,h4,h5⟩|⟨h3,h5⟩
    ·obtain ⟨u,hu,hcu⟩:=h2.get h5;have hlt:j-off<(a.eval y).cells.toList.length:=by omega
     refine ⟨u,?_,h1 u (List.mem_of_getElem? hu),hcu.step hst (fun _ _ x=>x)⟩
     have:=World.cell?_setCells_in b (a.eval y).cells.toList (ob+off) w hcell (j-off) hlt;rw [show ob+j=ob+off+(j-off) from by omega,this]
     rw [List.getElem?_eq_getElem hlt] at hu;exact hu
    ·obtain ⟨v,hv,h6,hcv⟩:=hb2 j p h5;rw [D6] at hv;refine ⟨v,?_,h6,hcv.step hst (fun _ _ x=>x)⟩
     rw [World.cell?_setCells_out b _ _ w ⟨b,ob+j,none⟩ (fun _ _=>by show ob+j<ob+off∨ob+off+_<=ob+j;omega)]
     exact hv
   ·rw [(Ex.setCells b _ _ w).bs] at hj';rw [(Ex.setCells b _ _ w).frz];exact hb3 rfl j hj hj'
  ·cases hk
 ·cases hk
end
open Go.RowKit
theorem Jl:∀{l l':List Nat},Ej (l++l')=true->Ej l=true∧Ej l'=true∧∀i∈l,i ∉ l'
 |[],l',h=>⟨rfl,h,by simp⟩
 |a::l,l',h=>by
  simp only [List.cons_append,Ej,Bool.and_eq_true,Bool.not_eq_true'] at h;obtain ⟨h1,h2⟩:=h;obtain ⟨h3,h4,h5⟩:=Jl h2
  have hn:∀i∈l++l',a≠i:=by
   rintro i hi rfl
   have:(l++l').any (Nat.beq a)=true:=List.any_eq_true.2 ⟨a,hi,Nat.beq_refl a⟩;rw [this] at h1;cases h1
  refine ⟨?_,h4,fun i hi=>?_⟩
  ·simp only [Ej,Bool.and_eq_true,Bool.not_eq_true',h3,and_true];rw [List.any_eq_false];intro i hi e;exact hn i (by simp [hi]) (Nat.eq_of_beq_eq_true e)
  ·rcases List.mem_cons.1 hi with rfl|hi
   ·exact fun hm=>hn i (by simp [hm]) rfl
   ·exact h5 i hi
def Hy (β:Bt)(q:Nat × Nat):Option (Nat × Nat):=(β q.1).map fun p=>(p.1,p.2+q.2)
theorem Abu (β:Bt)(id:Nat):Hy β (id,0)=β id:=by
 unfold Hy;cases β id<;>rfl
section
variable {R:Type} {r:R} {P:Program} {N:Nat} {w0:World} {X0:Fh} {Y:Nat->Prop} {β β':Bt} {s:St} {a:Act} {w w':World} {o:Oper} {A:Nat->Prop}
theorem P6 {fz:List Nat}{b:Nat}(h:C1 (Ai s.hp fz) β Y b):C1 s.hp β Y b:=h.imp Sh id
theorem Aiu (h:B4 N w0 X0 Y β s a w){mv:Bool}{t:CT}{p:PV}{K:PV->List Nat->List Nat->Option R}(hk:Af7 mv s.hp t p K=some r):
  ∃c m q,K c m (Option.toList q)=some r∧isA c∧OO p∧(∀id∈m,∃f cc,s.hp id=some (.ar f cc))∧(∀id,q=some id->∃cc,s.hp id=some (.ar false cc)) ∧
   ∀fz:List Nat,(∀id∈m,id∈fz)->(∀id∈fz,∃f cc,s.hp id=some (.ar f cc))->∀v,Cc w (C1 s.hp β Y) β p v->Hz w (C1 (Ai s.hp fz) β Y) (q.bind β) c v:=by
 have frz:∀{t:CT} {p:PV} {K:PV->List Nat->List Nat->Option R},(Qy (Kz s.hp) t p fun c m=>K c m [])=some r->∃c m q,K c m (Option.toList q)=some r∧isA c∧OO p∧(∀id∈m,∃f cc,s.hp id=some (.ar f cc))∧(∀id,q=some id->∃cc,s.hp id=some (.ar false cc)) ∧
   ∀fz:List Nat,(∀id∈m,id∈fz)->(∀id∈fz,∃f cc,s.hp id=some (.ar f cc))->∀v,Cc w (C1 s.hp β Y) β p v->Hz w (C1 (Ai s.hp fz) β Y) (q.bind β) c v:=by
  intro t p K hk;obtain ⟨c,m,hk,hT,hF,hm,hv⟩:=MR h hk;exact ⟨c,m,none,hk,.inl hT,hF,hm,by simp,fun fz h1 h2 v hc=>Ml hT (hv fz h1 h2 v hc).1⟩
 have tree:∀{t:CT} {p:PV} {K:PV->List Nat->List Nat->Option R},(∀es,t ≠ .sl es)->(FK t p fun c=>K c [] [])=some r->∃c m q,K c m (Option.toList q)=some r∧isA c∧OO p∧(∀id∈m,∃f cc,s.hp id=some (.ar f cc))∧(∀id,q=some id->∃cc,s.hp id=some (.ar false cc)) ∧
   ∀fz:List Nat,(∀id∈m,id∈fz)->(∀id∈fz,∃f cc,s.hp id=some (.ar f cc))->∀v,Cc w (C1 s.hp β Y) β p v->Hz w (C1 (Ai s.hp fz) β Y) (q.bind β) c v:=by
  intro t p K hne hk;obtain ⟨c,hk,hT,hpT,hv⟩:=Pc hk;exact ⟨c,[],none,hk,.inl hT,Uv hpT,by simp,by simp,fun fz h1 h2 v hc=>Ml hT ((hv w _ β v hc).1.step (Cb.refl _ _) (fun b _ hb=>P6 hb))⟩
 unfold Af7 at hk;cases t with
 |sl es=>
  dsimp only at hk;cases mv<;>simp only [cond_true,cond_false] at hk
  ·exact frz hk
  ·split at hk
   ·rename_i id es' off n;split at hk
    ·rename_i c h0;cases hb:(Nat.beq es' es&&Nat.beq off 0)<;>rw [hb] at hk<;>simp only [cond_true,cond_false] at hk
     ·exact frz hk
     ·simp only [Bool.and_eq_true] at hb;have he:=Nat.eq_of_beq_eq_true hb.1;have hof:=Nat.eq_of_beq_eq_true hb.2;subst he hof;obtain ⟨hl,hk⟩:=Ax hk;refine ⟨_,[],some id,hk,.inr ⟨_,_,_,rfl⟩,trivial,by simp,fun i hi=>by cases hi;exact ⟨c,h0⟩,fun fz h1 h2 v hc=>?_⟩
      rcases hc with ⟨h3,_,rfl,h4⟩|⟨b,ob,x,cap,h3,h4,hx,h5,h6,h7⟩
      ·exact .inl ⟨h3,rfl,by simp,h4⟩
      ·have hx:x=ob:=by rcases hx with e|⟨_,e⟩<;>omega
       subst hx;rcases h.box id _ h0 with ⟨h8,_⟩|⟨b',o',h8,h9,h10,_⟩
       ·rw [h3] at h8;cases h8
       ·rw [h3] at h8;cases h8;refine .inr ⟨b,x,cap,h3,h4,h5,h6,h7,fun j p hj=>?_,h10 rfl⟩
        rw [List.getElem?_take] at hj;split at hj
        ·obtain ⟨u,hu,h11,ht⟩:=h9 j p hj;exact ⟨u,hu,h11,ht.step (Cb.refl _ _) (fun b _ hb=>P6 hb)⟩
        ·cases hj
    ·exact frz hk
   ·obtain ⟨z,n,c,hk,hp⟩:=Gt hk;have hpF:OO p:=by rcases hp with e|⟨e,_⟩<;>(rw [e];trivial)
    cases z<;>simp only [cond_true,cond_false] at hk
    ·refine ⟨_,[],none,hk,.inl trivial,hpF,by simp,by simp,fun fz h1 h2 v hc=>?_⟩
     exact Ml trivial ((Zv hp hc).step (Cb.refl _ _) (fun b _ hb=>P6 hb))
    ·refine ⟨_,[],none,hk,.inr ⟨_,_,_,rfl⟩,hpF,by simp,by simp,fun fz h1 h2 v hc=>.inl ⟨rfl,rfl,rfl,?_⟩⟩
     have:=Zv hp hc;cases this;rfl
 |int k=>exact tree (by simp) hk
 |bool=>exact tree (by simp) hk
 |str=>exact tree (by simp) hk
 |any=>exact tree (by simp) hk
theorem Xo (h:B4 N w0 X0 Y β s a w){mv:Bool}:∀{ts:List CT}{ps:List PV}{K:List PV->List Nat->List Nat->Option R},HA mv s.hp ts ps K=some r ->
  ∃cs m x,∃q:Nat->Option Nat,K cs m x=some r∧cs.length=ts.length∧ps.length=ts.length∧(∀c∈cs,isA c)∧(∀p∈ps,OO p)∧(∀id∈m,∃f cc,s.hp id=some (.ar f cc))∧(∀id∈x,∃cc,s.hp id=some (.ar false cc)) ∧
   (∀j id,q j=some id->id∈x)∧(Ej x=true->∀j j' id,q j=some id->q j'=some id->j=j') ∧
   ∀fz:List Nat,(∀id∈m,id∈fz)->(∀id∈fz,∃f cc,s.hp id=some (.ar f cc))->∀vs,Bk (Cc w (C1 s.hp β Y) β) ps vs->∀(own:Bt) j0,(∀j,own (j0+j)=(q j).bind β)->F7 w (C1 (Ai s.hp fz) β Y) own j0 cs vs
 |[],[],K,hk=>⟨[],[],[],fun _=>none,hk,rfl,rfl,by simp,by simp,by simp,by simp,by simp,by simp,fun fz _ _ vs hv own j0 _=>by
   cases vs with
   |nil=>trivial
   |cons v vs=>exact hv.elim⟩
 |[],_::_,K,hk=>by cases hk
 |_::_,[],K,hk=>by cases hk
 |t::ts,p::ps,K,hk=>by
  unfold HA at hk;obtain ⟨c,m,q,hk,hA,hF,hm,hq,hv⟩:=Aiu h hk;obtain ⟨cs,ms,xs,qs,hk,hl,hl',hAs,hFs,hms,hxs,hqx,hqi,hvs⟩:=Xo h hk;refine ⟨c::cs,m++ms,q.toList++xs,fun j=>match j with|0=>q|j+1=>qs j,hk,by simp [hl],by simp [hl'],?_,?_,?_,?_,?_,?_,?_⟩
  ·intro x hx;rcases List.mem_cons.1 hx with rfl|hx
   ·exact hA
   ·exact hAs x hx
  ·intro x hx;rcases List.mem_cons.1 hx with rfl|hx
   ·exact hF
   ·exact hFs x hx
  ·intro i hi;rcases List.mem_append.1 hi with hi|hi
   ·exact hm i hi
   ·exact hms i hi
  ·intro i hi;rcases List.mem_append.1 hi with hi|hi
   ·exact hq i (by simpa using hi)
   ·exact hxs i hi
  ·intro j id hj;cases j with
   |zero=>exact List.mem_append.2 (.inl (by simpa using hj))
   |succ j=>exact List.mem_append.2 (.inr (hqx j id hj))
  ·intro hn j j' id hj hj';obtain ⟨_,h2,h3⟩:=Jl hn;cases j with
   |zero=>
    cases j' with
    |zero=>rfl
    |succ j'=>exact absurd (hqx j' id hj') (h3 id (by simpa using hj))
   |succ j=>
    cases j' with
    |zero=>exact absurd (hqx j id hj) (h3 id (by simpa using hj'))
    |succ j'=>rw [hqi h2 j j' id hj hj']
  ·intro fz h1 h2 vs h3 own j0 hown;cases vs with
   |nil=>exact h3.elim
   |cons v vs=>
    refine ⟨?_,hvs fz (fun i hi=>h1 i (by simp [hi])) h2 vs h3.2 own (j0+1) fun j=>?_⟩
    ·have:=hown 0;rw [Nat.add_zero] at this;rw [this];exact hv fz (fun i hi=>h1 i (by simp [hi])) h2 v h3.1
    ·have:=hown (j+1);rw [show j0+1+j=j0+(j+1) by omega]
     exact this
def LOk (hp:Nat->Option Bn)(q:Option (Nat × Nat)) (p:PV)(x:Hq):Prop:=
 match x with
 |.var id off cts ws=>p=.pbox ws∧q=some (id,off)∧cts.length=ws.length∧∃c,hp id=some (.st c)∧off+ws.length<=c.length
 |.row id=>(∃ps,p=.tup ps)∧q=some (id,0)∧∃c,hp id=some (.ar false c)
 |.none=>(∃ps,p=.tup ps)∧q=none
theorem Adc {hp:Nat->Option Bn}{q:Option (Nat × Nat)} {p:PV}{x:Hq}(h:LOk hp q p x):EH p=true:=by
 cases x with
 |var id off cts ws=>rw [h.1];rfl
 |row id=>obtain ⟨⟨_,e⟩,_⟩:=h;rw [e];rfl
 |none=>obtain ⟨⟨_,e⟩,_⟩:=h;rw [e];rfl
def Rt (hp:Nat->Option Bn)(src:Nat->Nat->Option (Nat × Nat)):Nat->List PV->List Hq->Prop
 |_,[],l=>l=[]
 |i,p::ps,l=>(EH p=false∧src i 0=none∧Rt hp src (i+1) ps l)∨∃x l',l=x::l'∧LOk hp (src i 0) p x∧Rt hp src (i+1) ps l'
theorem ZT (h:B4 N w0 X0 Y β s a w){C:Hs}{f:FuncId}{i:Nat}{t:TypeId}{x:Operand}{K:PV->List Nat->List Nat->List Hq->Option R}(hk:FE C P f s.hp i t (Cm s.tm x) K=some r):
  ∃v m y l,∃src:Nat->Option (Nat × Nat),K v m y l=some r∧(∀id∈m,∃f cc,s.hp id=some (.ar f cc))∧(∀id∈y,∃cc,s.hp id=some (.ar false cc)) ∧
   (∀j id off,src (j+1)=some (id,off)->off=0∧id∈y)∧(Ej y=true->∀j j' id off off',src (j+1)=some (id,off)->src (j'+1)=some (id,off')->j=j') ∧
   ((l=[]∧EH v=false∧src 0=none)∨∃x',l=[x']∧LOk s.hp (src 0) v x') ∧
   ∀fz:List Nat,(∀id∈m,id∈fz)->(∀id∈fz,∃f cc,s.hp id=some (.ar f cc))->∀bt:Bt,(∀j,bt j=(src j).bind (Hy β))->VH w (C1 (Ai s.hp fz) β Y) bt v (a.eval x):=by
 have hx:=Df h x
 have hsrc:∀(q0:Option (Nat × Nat)) (q:Nat->Option Nat),∃src:Nat->Option (Nat × Nat),src 0=q0∧(∀j,src (j+1)=(q j).map fun id=>(id,0)):=
  fun q0 q=>⟨fun j=>match j with|0=>q0|j+1=>(q j).map fun id=>(id,0),rfl,fun _=>rfl⟩
 have hsrc1:∀{src:Nat->Option (Nat × Nat)} {q:Nat->Option Nat} {y:List Nat},(∀j,src (j+1)=(q j).map fun id=>(id,0))->(∀j id,q j=some id->id∈y)->∀j id off,src (j+1)=some (id,off)->off=0∧id∈y:=by
  intro src q y h1 h2 j id off hj;rw [h1] at hj;cases hq:q j with
  |none=>rw [hq] at hj;cases hj
  |some k=>rw [hq] at hj;cases hj;exact ⟨rfl,h2 j _ hq⟩
 have hsrc2:∀{src:Nat->Option (Nat × Nat)} {q:Nat->Option Nat} {y:List Nat},(∀j,src (j+1)=(q j).map fun id=>(id,0))->(Ej y=true->∀j j' id,q j=some id->q j'=some id->j=j') ->
   Ej y=true->∀j j' id off off',src (j+1)=some (id,off)->src (j'+1)=some (id,off')->j=j':=by
  intro src q y h1 h2 hn j j' id off off' hj hj';rw [h1] at hj hj';cases hq:q j with
  |none=>rw [hq] at hj;cases hj
  |some k=>
   cases hq':q j' with
   |none=>rw [hq'] at hj';cases hj'
   |some k'=>
    rw [hq] at hj;rw [hq'] at hj';cases hj;cases hj';exact h2 hn j j' _ hq hq'
 have hown:∀{src:Nat->Option (Nat × Nat)} {q:Nat->Option Nat} {bt:Bt},(∀j,src (j+1)=(q j).map fun id=>(id,0))->(∀j,bt j=(src j).bind (Hy β))->∀j,bt (1+j)=(q j).bind β:=by
  intro src q bt h1 h2 j;rw [Nat.add_comm,h2,h1];cases q j with
  |none=>rfl
  |some id=>exact Abu β id
 unfold FE at hk;split at hk
 ·rename_i e he;split at hk
  ·rename_i id off ep;rw [ep] at hx;split at hk
   ·rename_i c h0;obtain ⟨hb,hk⟩:=Ax hk;simp only [Bool.and_eq_true,decide_eq_true_eq] at hb;obtain ⟨cs,m,y,q,hk,hl,hl',hA,hF,hm,hy,hq1,hq2,hv⟩:=Xo h hk;obtain ⟨src,hs0,hs⟩:=hsrc (some (id,off)) q;obtain ⟨b,ob,hβ,hax⟩:=hx;refine ⟨_,m,y,_,src,hk,hm,hy,hsrc1 hs hq1,hsrc2 hs hq2,.inr ⟨_,rfl,rfl,hs0,hl.symm,c,h0,by omega⟩,fun fz h1 h2 bt hbt=>?_⟩
    obtain ⟨b',o',hb1,hb2,hb3⟩:=h.box id _ h0;rw [hβ] at hb1;cases hb1;have hlen:((c.drop off).take (Iz P e).length).length=(Iz P e).length:=by simp;omega
    have hcells:∀j p,((c.drop off).take (Iz P e).length)[j]?=some p->c[off+j]?=some p∧j<(Iz P e).length:=by
     intro j p hj;rw [List.getElem?_take] at hj;split at hj
     ·rw [List.getElem?_drop] at hj;exact ⟨hj,by assumption⟩
     ·cases hj
    refine ⟨b,ob+off,by rw [hbt,hs0];simp [Hy,hβ],hax,hA,((c.drop off).take (Iz P e).length).mapIdx (fun j _=>(w.cell? ⟨b,ob+off+j,none⟩).getD undef),hv fz h1 h2 _ ?_ bt 1 (hown hs hbt),?_,fun k hk=>?_⟩
    ·refine Bk.of_at (by simp) fun j p v hp hv=>?_
     obtain ⟨hc,_⟩:=hcells j p hp;obtain ⟨u,hu,hcr⟩:=hb2 _ _ hc;rw [List.getElem?_mapIdx,hp,Option.map_some,Nat.add_assoc,hu] at hv;simp at hv;subst hv;exact hcr
    ·intro k v hkv;rw [List.getElem?_mapIdx] at hkv;cases hp:((c.drop off).take (Iz P e).length)[k]? with
     |none=>rw [hp] at hkv;cases hkv
     |some p=>
      obtain ⟨hc,_⟩:=hcells k p hp;obtain ⟨u,hu,hcr⟩:=hb2 _ _ hc;rw [hp,Option.map_some,Nat.add_assoc,hu] at hkv;simp at hkv;subst hkv;rw [Nat.add_assoc];exact hu
    ·rw [Nat.add_assoc];exact hb3 _ (by omega)
   ·cases hk
  ·cases hk
 ·cases hln:C.lnd f i<;>rw [hln] at hk<;>simp only [cond_true,cond_false] at hk
  ·cases hagg:Cv P t<;>rw [hagg] at hk<;>simp only [cond_true,cond_false] at hk
   ·obtain ⟨cs,m,y,q,hk,hl,hl',hA,hF,hm,hy,hq1,hq2,hv⟩:=Xo h hk;obtain ⟨c,t',rfl,hk⟩:=Be hk;obtain ⟨rfl,hk⟩:=Dt hk;obtain ⟨src,hs0,hs⟩:=hsrc none q;have hAc:=hA c (by simp)
    refine ⟨c,m,y,_,src,hk,hm,hy,hsrc1 hs hq1,hsrc2 hs hq2,.inl ⟨rfl,Ala hAc,hs0⟩,fun fz h1 h2 bt hbt=>?_⟩
    have hFx:=hF _ (List.mem_singleton_self _)
    have hxc:Cc w (C1 s.hp β Y) β (Cm s.tm x) (a.eval x):=by
     cases hp:Cm s.tm x<;>rw [hp] at hx hFx<;>first|exact hx|exact hFx.elim
    have hoc:=(hv fz h1 h2 [a.eval x] ⟨hxc,trivial⟩ bt 1 (hown hs hbt)).1;rcases hAc with hT|⟨es,n,cc,rfl⟩
    ·cases c<;>first|exact ⟨.inl trivial,hoc⟩|exact hT.elim
    ·exact ⟨.inr ⟨_,_,_,rfl⟩,hoc⟩
   ·obtain ⟨ps,ep,hk⟩:=Id hk;rw [ep] at hx;obtain ⟨vs,hax,h3⟩:=hx;obtain ⟨cs,m,y,q,hk,hl,hl',hA,hF,hm,hy,hq1,hq2,hv⟩:=Xo h hk;obtain ⟨src,hs0,hs⟩:=hsrc none q;refine ⟨_,m,y,_,src,hk,hm,hy,hsrc1 hs hq1,hsrc2 hs hq2,.inl ⟨rfl,rfl,hs0⟩,fun fz h1 h2 bt hbt=>?_⟩
    exact ⟨vs,hax,hA,hv fz h1 h2 vs h3 bt 1 (hown hs hbt)⟩
  ·obtain ⟨e,he,hk⟩:=Dd hk;unfold Agx at hk;split at hk
   ·rename_i id es' off n ep;rw [ep] at hx;split at hk
    ·rename_i c h0;obtain ⟨hb,hk2⟩:=Ax hk;simp only [Bool.and_eq_true] at hb;have he:=Nat.eq_of_beq_eq_true hb.1;have hof:=Nat.eq_of_beq_eq_true hb.2;subst hof;obtain ⟨src,hs0,hs⟩:=hsrc (some (id,0)) (fun _=>none)
     refine ⟨_,[],[],_,src,hk2,by simp,by simp,hsrc1 hs (by simp),hsrc2 hs (by simp),.inr ⟨_,rfl,⟨_,rfl⟩,hs0,c,h0⟩,fun fz h1 h2 bt hbt=>⟨_,_,_,rfl,?_⟩⟩
     have hb0:bt 0=β id:=by rw [hbt,hs0];exact Abu β id
     rw [hb0];rcases hx with ⟨h3,_,h4,h5⟩|⟨b,ob,y,cap,h3,h4,hy,h5,h6,h7⟩
     ·refine .inl ⟨h3,h4,?_,h5⟩;rcases h.box id _ h0 with ⟨_,h8⟩|⟨_,_,h8,_⟩
      ·exact h8
      ·rw [h3] at h8;cases h8
     ·have hy:y=ob:=by rcases hy with e|⟨_,e⟩<;>omega
      subst hy;rcases h.box id _ h0 with ⟨h8,_⟩|⟨b',o',h8,h9,h10,_⟩
      ·rw [h3] at h8;cases h8
      ·rw [h3] at h8;cases h8;exact .inr ⟨b,y,cap,h3,h4,h5,by rw [←he];exact h6,h7,h9.weak (fun b _ hb=>P6 hb),h10 rfl⟩
    ·cases hk
   ·obtain ⟨z,n,c,hk,hp⟩:=Gt hk;obtain ⟨hz,hk⟩:=Ax hk;subst hz;obtain ⟨src,hs0,hs⟩:=hsrc none (fun _=>none)
    have hu:a.eval x=.slice none 0 0:=by
     have hF:Cc w (C1 s.hp β Y) β (Cm s.tm x) (a.eval x):=by rcases hp with e|⟨e,_⟩<;>rw [e] at hx ⊢ <;> exact hx
     have:=Zv hp hF;generalize a.eval x=u at this;cases this;rfl
    refine ⟨_,[],[],_,src,hk,by simp,by simp,hsrc1 hs (by simp),hsrc2 hs (by simp),.inr ⟨_,rfl,⟨_,rfl⟩,hs0⟩,fun fz h1 h2 bt hbt=>⟨_,_,_,rfl,.inl ⟨by rw [hbt,hs0];rfl,rfl,rfl,hu⟩⟩⟩
structure Azi (i0 n:Nat) (src:Nat->Nat->Option (Nat × Nat)) (ids x:List Nat):Prop where
 dom:∀i j q,src i j=some q->i0<=i∧i<i0+n
 lent:∀i id off,src i 0=some (id,off)->id∈ids
 mvd:∀i j id off,src i (j+1)=some (id,off)->off=0∧id∈x
 inj0:Ej ids=true->∀i i' id off off',src i 0=some (id,off)->src i' 0=some (id,off')->i=i'
 inj1:Ej x=true->∀i i' j j' id off off',src i (j+1)=some (id,off)->src i' (j'+1)=some (id,off')->i=i'∧j=j'
theorem AQ {hp:Nat->Option Bn}{src src':Nat->Nat->Option (Nat × Nat)}:∀{ps:List PV}{i:Nat}{l:List Hq},(∀k,i<=k->src' k=src k)->Rt hp src i ps l->Rt hp src' i ps l
 |[],_,_,_,h=>h
 |p::ps,i,l,hs,h=>by
  rcases h with ⟨h1,h2,h3⟩|⟨x,l',rfl,h2,h3⟩
  ·exact .inl ⟨h1,by rw [hs i (Nat.le_refl _)];exact h2,AQ (fun k hk=>hs k (by omega)) h3⟩
  ·exact .inr ⟨x,l',rfl,by rw [hs i (Nat.le_refl _)];exact h2,AQ (fun k hk=>hs k (by omega)) h3⟩
theorem GH {bt bt':IV}:∀{ps:List PV}{us:List Value}{i:Nat},(∀k,i<=k->∀j,bt' k j=bt k j)->Ow w A bt i ps us->Ow w A bt' i ps us
 |[],[],_,_,_=>trivial
 |[],_::_,_,_,h=>h.elim
 |_::_,[],_,_,h=>h.elim
 |_::_,_::_,i,hb,h=>⟨by rw [show bt' i=bt i from funext (hb i (Nat.le_refl _))];exact h.1,GH (fun k hk=>hb k (by omega)) h.2⟩
theorem QK (h:B4 N w0 X0 Y β s a w){C:Hs}{f:FuncId}:∀{ts:List TypeId}{xs:List Operand}{i:Nat}{K:List PV->List Nat->List Nat->List Hq->Option R},PW C P f s.hp i ts (xs.map (Cm s.tm)) K=some r ->
  ∃vs m y l,∃src:Nat->Nat->Option (Nat × Nat),K vs m y l=some r∧(∀id∈m,∃f cc,s.hp id=some (.ar f cc))∧(∀id∈y,∃cc,s.hp id=some (.ar false cc)) ∧
   Azi i xs.length src (l.flatMap Hq.ids) y∧Rt s.hp src i vs l ∧
   ∀fz:List Nat,(∀id∈m,id∈fz)->(∀id∈fz,∃f cc,s.hp id=some (.ar f cc))->∀bt:IV,(∀i j,bt i j=(src i j).bind (Hy β))->Ow w (C1 (Ai s.hp fz) β Y) bt i vs (xs.map a.eval)
 |[],[],i,K,hk=>⟨[],[],[],[],fun _ _=>none,hk,by simp,by simp,⟨by simp,by simp,by simp,by simp,by simp⟩,rfl,fun _ _ _ _ _=>trivial⟩
 |[],_::_,i,K,hk=>by cases hk
 |_::_,[],i,K,hk=>by cases hk
 |t::ts,x::xs,i,K,hk=>by
  simp only [List.map_cons] at hk;unfold PW at hk;obtain ⟨v,m,y,l,src,hk,hm,hy,hs1,hs2,hl,hv⟩:=ZT h hk;obtain ⟨vs,ms,ys,ls,srcs,hk,hms,hys,hS,hL,hvs⟩:=QK h hk;have hsrc:∃sr:Nat->Nat->Option (Nat × Nat),sr i=src∧∀k,k≠i->sr k=srcs k:=⟨fun k=>if k=i then src else srcs k,by simp,fun k hk=>by simp [hk]⟩
  obtain ⟨sr,hsi,hso⟩:=hsrc
  have hlid:∀id off,src 0=some (id,off)->id∈l.flatMap Hq.ids:=by
   intro id off e;rcases hl with ⟨_,_,h3⟩|⟨x',rfl,h3⟩
   ·rw [h3] at e;cases e
   ·cases x' with
    |var id' off' cts ws=>rw [h3.2.1] at e;cases e;simp [Hq.ids]
    |row id'=>rw [h3.2.1] at e;cases e;simp [Hq.ids]
    |none=>rw [h3.2] at e;cases e
  refine ⟨v::vs,m++ms,y++ys,l++ls,sr,hk,?_,?_,⟨?_,?_,?_,?_,?_⟩,?_,fun fz h1 h2 bt hbt=>⟨?_,?_⟩⟩
  ·intro i hi;rcases List.mem_append.1 hi with hi|hi
   ·exact hm i hi
   ·exact hms i hi
  ·intro i hi;rcases List.mem_append.1 hi with hi|hi
   ·exact hy i hi
   ·exact hys i hi
  ·intro k j q hq;simp only [List.length_cons];by_cases e:k=i
   ·subst e;omega
   ·rw [hso k e] at hq;have:=hS.dom k j q hq;omega
  ·intro k id off hq;rw [List.flatMap_append];by_cases e:k=i
   ·subst e;rw [hsi] at hq;exact List.mem_append.2 (.inl (hlid id off hq))
   ·rw [hso k e] at hq;exact List.mem_append.2 (.inr (hS.lent k id off hq))
  ·intro k j id off hq;by_cases e:k=i
   ·subst e;rw [hsi] at hq;exact ⟨(hs1 j id off hq).1,List.mem_append.2 (.inl (hs1 j id off hq).2)⟩
   ·rw [hso k e] at hq;exact ⟨(hS.mvd k j id off hq).1,List.mem_append.2 (.inr (hS.mvd k j id off hq).2)⟩
  ·intro hn k k' id off off' hq hq';rw [List.flatMap_append] at hn;obtain ⟨_,h4,h5⟩:=Jl hn;by_cases e:k=i
   ·by_cases e':k'=i
    ·omega
    ·rw [hso k' e'] at hq';subst e;rw [hsi] at hq;exact absurd (hS.lent k' id off' hq') (h5 id (hlid id off hq))
   ·rw [hso k e] at hq;by_cases e':k'=i
    ·subst e';rw [hsi] at hq';exact absurd (hS.lent k id off hq) (h5 id (hlid id off' hq'))
    ·rw [hso k' e'] at hq';exact hS.inj0 h4 k k' id off off' hq hq'
  ·intro hn k k' j j' id off off' hq hq';obtain ⟨h3,h4,h5⟩:=Jl hn;by_cases e:k=i
   ·by_cases e':k'=i
    ·subst e;subst e';rw [hsi] at hq hq';exact ⟨rfl,hs2 h3 j j' id off off' hq hq'⟩
    ·rw [hso k' e'] at hq';subst e;rw [hsi] at hq;exact absurd (hS.mvd k' j' id off' hq').2 (h5 id (hs1 j id off hq).2)
   ·rw [hso k e] at hq;by_cases e':k'=i
    ·subst e';rw [hsi] at hq';exact absurd (hS.mvd k j id off hq).2 (h5 id (hs1 j' id off' hq').2)
    ·rw [hso k' e'] at hq';exact hS.inj1 h4 k k' j j' id off off' hq hq'
  ·have hrest:Rt s.hp sr (i+1) vs ls:=AQ (fun k hk=>hso k (by omega)) hL
   rcases hl with ⟨rfl,hnp,h3⟩|⟨x',rfl,h3⟩
   ·exact .inl ⟨hnp,by rw [hsi];exact h3,hrest⟩
   ·exact .inr ⟨x',ls,rfl,by rw [hsi];exact h3,hrest⟩
  ·exact hv fz (fun i hi=>h1 i (by simp [hi])) h2 (bt i) (fun j=>by rw [hbt,hsi])
  ·refine hvs fz (fun i hi=>h1 i (by simp [hi])) h2 (fun k j=>(srcs k j).bind (Hy β)) (fun _ _=>rfl) |> GH fun k hk j=>?_
   rw [hbt,hso k (by omega)]
end
open Go.RowKit
section
variable {R:Type} {r:R} {P:Program} {N:Nat} {w0:World} {X0:Fh} {Y:Nat->Prop} {β β':Bt} {s:St} {a:Act} {w w':World} {o:Oper} {A:Nat->Prop}
theorem Agy {p:PV}{u:Value}(h:A7 w A p u):Cc w A β p u:=by
 have h0:=h;cases h<;>exact h0
theorem Agq {t:Nat}{ct:CT}{was p:PV}{K:Nat->PV->List (Nat × Bn)->Option R} (hk:Afw N t ct was p K=some r):
  (∃c,K t c []=some r∧Zc c∧∀w A q u,Hz w A q p u->A7 w A c u)∨∃es n cc,p=.own es n cc∧K (t+1) (.view (ZI N t) es 0 n) [(ZI N t,.ar false cc)]=some r:=by
 have tree:∀t',(FK t' p fun c=>K t c [])=some r->∃c,K t c []=some r∧Zc c∧∀w A q u,Hz w A q p u->A7 w A c u:=by
  intro t' hk;obtain ⟨c,hk,hT,hpT,hv⟩:=Pc hk;refine ⟨c,hk,hT,fun w A q u h=>(hv w A (fun _=>none) u ?_).1⟩
  cases p<;>first|exact h|exact hpT.elim
 unfold Afw at hk;cases ct with
 |sl es=>
  dsimp only at hk;split at hk
  ·unfold Es at hk;split at hk
   ·rename_i es' n c;cases hb:Nat.beq es' es<;>rw [hb] at hk
    ·cases hk
    ·have:=Nat.eq_of_beq_eq_true hb;subst this;exact .inr ⟨_,_,_,rfl,hk⟩
   ·cases hk
  ·have h2:(FK (.sl es) p fun c=>(match c with | .lst _ es n c=>K t (.lst false es n c) []|_=>none))=some r:=hk
   obtain ⟨c,hk,hT,hpT,hv⟩:=Pc h2;split at hk
   ·refine .inl ⟨_,hk,hT,fun w A q u h=>A7.unz (hv w A (fun _=>none) u ?_).1⟩
    cases p<;>first|exact h|exact hpT.elim
   ·cases hk
 |int k=>exact .inl (tree _ hk)
 |bool=>exact .inl (tree _ hk)
 |str=>exact .inl (tree _ hk)
 |any=>exact .inl (tree _ hk)
theorem FT:∀{cts:List CT}{ws ps:List PV}{t:Nat}{K:Nat->List PV->List (Nat × Bn)->Option R},QS N t cts ws ps K=some r ->
  ∃t' cs bs,∃qs:List (Nat × Nat),K t' cs bs=some r∧cs.length=ps.length∧ps.length=ws.length∧bs.map (·.1)=qs.map (·.1)∧(∀q∈qs,(∃k,q.1=ZI N k)∧q.2<ps.length)∧(∀q∈qs,∀q'∈qs,q.2=q'.2->q.1=q'.1) ∧
   (∀i bx,(i,bx)∈bs->∃c,bx=.ar false c)∧(∀c∈cs,∀i∈Ay c,∃bx,(i,bx)∈bs) ∧
   ∀(w:World) (A:Nat->Prop) (own β':Bt) (j0:Nat) (us:List Value),(∀q∈qs,β' q.1=own (j0+q.2))->F7 w A own j0 ps us->Bk (Cc w A β') cs us∧∀i bx,(i,bx)∈bs->Sz w A β' i bx
 |[],[],ps,t,K,hk=>by
  obtain ⟨rfl,hk⟩:=Dt hk;refine ⟨t,[],[],[],hk,rfl,rfl,rfl,by simp,by simp,by simp,by simp,fun w A own β' j0 us _ h=>⟨?_,by simp⟩⟩
  cases us with
  |nil=>trivial
  |cons u us=>exact h.elim
 |[],_::_,_,_,_,hk=>by cases hk
 |_::_,[],_,_,_,hk=>by cases hk
 |ct::cts,x::ws,ps,t,K,hk=>by
  unfold QS at hk;obtain ⟨p,ps',hps,hk1⟩:=Be hk;subst hps;rcases Agq hk1 with ⟨c,hk2,hT,hv⟩|⟨es,n,cc,rfl,hk2⟩
  ·obtain ⟨t',cs,bs,qs,hk3,hl,hl',hb,hq1,hq2,hb1,hb2,hvs⟩:=FT hk2;refine ⟨t',c::cs,bs,qs.map (fun q=>(q.1,q.2+1)),hk3,by simp [hl],by simp [hl'],by rw [hb];simp,?_,?_,hb1,?_,fun w A own β' j0 us hβ ho=>?_⟩
   ·intro q hq;obtain ⟨q0,hq0,rfl⟩:=List.mem_map.1 hq;exact ⟨(hq1 q0 hq0).1,by have:=(hq1 q0 hq0).2;simp only [List.length_cons];omega⟩
   ·intro q hq q' hq' e;obtain ⟨q0,hq0,rfl⟩:=List.mem_map.1 hq;obtain ⟨q1,hq1',rfl⟩:=List.mem_map.1 hq';exact hq2 q0 hq0 q1 hq1' (by simp only at e;omega)
   ·intro y hy i hi;rcases List.mem_cons.1 hy with rfl|hy
    ·rw [Ik hT] at hi;cases hi
    ·exact hb2 y hy i hi
   ·cases us with
    |nil=>exact ho.elim
    |cons u us=>
     obtain ⟨h1,h2⟩:=hvs w A own β' (j0+1) us (fun q hq=>by rw [hβ _ (List.mem_map_of_mem hq)];congr 1;simp only;omega) ho.2
     exact ⟨⟨Agy (hv w A _ u ho.1),h1⟩,h2⟩
  ·obtain ⟨t',cs,bs,qs,hk3,hl,hl',hb,hq1,hq2,hb1,hb2,hvs⟩:=FT hk2;refine ⟨t',_::cs,(ZI N t,.ar false cc)::bs,(ZI N t,0)::qs.map (fun q=>(q.1,q.2+1)),hk3,by simp [hl],by simp [hl'],by simp only [List.map_cons,hb];simp,?_,?_,?_,?_,fun w A own β' j0 us hβ ho=>?_⟩
   ·intro q hq;rcases List.mem_cons.1 hq with rfl|hq
    ·exact ⟨⟨t,rfl⟩,by simp⟩
    ·obtain ⟨q0,hq0,rfl⟩:=List.mem_map.1 hq;exact ⟨(hq1 q0 hq0).1,by have:=(hq1 q0 hq0).2;simp only [List.length_cons];omega⟩
   ·intro q hq q' hq' e;rcases List.mem_cons.1 hq with rfl|hq
    ·rcases List.mem_cons.1 hq' with rfl|hq'
     ·rfl
     ·obtain ⟨q0,hq0,rfl⟩:=List.mem_map.1 hq';simp only at e;omega
    ·obtain ⟨q0,hq0,rfl⟩:=List.mem_map.1 hq;rcases List.mem_cons.1 hq' with rfl|hq'
     ·simp only at e;omega
     ·obtain ⟨q1,hq1',rfl⟩:=List.mem_map.1 hq';exact hq2 q0 hq0 q1 hq1' (by simp only at e;omega)
   ·intro i bx hm;rcases List.mem_cons.1 hm with e|hm
    ·cases e;exact ⟨cc,rfl⟩
    ·exact hb1 i bx hm
   ·intro y hy i hi;rcases List.mem_cons.1 hy with rfl|hy
    ·simp only [Ay,List.mem_singleton] at hi;subst hi;exact ⟨_,List.mem_cons_self⟩
    ·obtain ⟨bx,hbx⟩:=hb2 y hy i hi;exact ⟨bx,List.mem_cons_of_mem _ hbx⟩
   ·cases us with
    |nil=>exact ho.elim
    |cons u us=>
     obtain ⟨h1,h2⟩:=hvs w A own β' (j0+1) us (fun q hq=>by rw [hβ _ (List.mem_cons_of_mem _ (List.mem_map_of_mem hq))];congr 1;simp only;omega) ho.2
     have h0:=hβ (ZI N t,0) List.mem_cons_self;simp only [Nat.add_zero] at h0;refine ⟨⟨?_,h1⟩,fun i bx hm=>?_⟩
     ·rcases ho.1 with ⟨h3,rfl,_,h5⟩|⟨b,ob,cap,h3,h4,h5,h6,h7,_⟩
      ·exact .inl ⟨h0.trans h3,rfl,rfl,h5⟩
      ·exact .inr ⟨b,ob,ob,cap,h0.trans h3,h4,.inl rfl,h5,h6,h7⟩
     ·rcases List.mem_cons.1 hm with e|hm
      ·cases e;exact DF ho.1 h0
      ·exact h2 i bx hm
def Ab5 (hp hp':Nat->Option Bn)(bs:List (Nat × Bn)) (x:Hq):Prop:=
 match x with
 |.var id off _ ws=>∃c cs,hp id=some (.st c)∧hp' id=some (.st (Bd c cs off))∧cs.length=ws.length∧off+cs.length<=c.length∧∀p∈cs,∀i∈Ay p,∃bx,(i,bx)∈bs
 |.row id=>∃c cs,hp id=some (.ar false c)∧hp' id=some (.ar false cs)
 |.none=>True
def Ajk (β β':Bt)(w':World)(A:Nat->Prop)(hp hp':Nat->Option Bn)(x:Hq):Prop:=
 match x with
 |.var id off _ ws=>∃c cs,hp id=some (.st c)∧hp' id=some (.st (Bd c cs off))∧cs.length=ws.length∧off+cs.length<=c.length ∧
   ∀b o,β id=some (b,o)->(∀(j:Nat) p,cs[j]?=some p->∃v,w'.cell? ⟨b,o+off+j,none⟩=some v∧Cc w' A β' p v)∧∀j,j<cs.length->w'.frozen? ⟨b,o+off+j,none⟩=false
 |.row id=>∃cs,hp' id=some (.ar false cs)∧((β id=none∧cs=[])∨∃b o,β id=some (b,o)∧QC w' A ⟨b,o,none⟩ cs∧∀j,o<=j->j<bsz w' b->w'.frozen? ⟨b,j,none⟩=false)
 |.none=>True
theorem BT {hp hp1 hp':Nat->Option Bn}{bs bs1:List (Nat × Bn)} {x:Hq}(h1:∀i∈x.ids,hp1 i=hp i)(hb:∀q∈bs,q∈bs1)(h:Ab5 hp1 hp' bs x):Ab5 hp hp' bs1 x:=by
 cases x with
 |var id off cts ws=>
  obtain ⟨c,cs,h2,h3,h4,h5,h6⟩:=h;refine ⟨c,cs,by rw [←h1 id (by simp [Hq.ids])];exact h2,h3,h4,h5,fun p hp i hi=>?_⟩
  obtain ⟨bx,hbx⟩:=h6 p hp i hi;exact ⟨bx,hb _ hbx⟩
 |row id=>
  obtain ⟨c,cs,h2,h3⟩:=h;exact ⟨c,cs,by rw [←h1 id (by simp [Hq.ids])];exact h2,h3⟩
 |none=>trivial
theorem GI {hp hp1 hp':Nat->Option Bn}{x:Hq}(h1:∀i∈x.ids,hp1 i=hp i)(h:Ajk β β' w' A hp1 hp' x):Ajk β β' w' A hp hp' x:=by
 cases x with
 |var id off cts ws=>
  obtain ⟨c,cs,h2,h3⟩:=h;exact ⟨c,cs,by rw [←h1 id (by simp [Hq.ids])];exact h2,h3⟩
 |row id=>exact h
 |none=>trivial
theorem Aet {hp hp1:Nat->Option Bn}{q:Option (Nat × Nat)} {p:PV}{x:Hq}(h1:∀i∈x.ids,hp1 i=hp i)(h:LOk hp q p x):LOk hp1 q p x:=by
 cases x with
 |var id off cts ws'=>
  obtain ⟨h2,h3,h5,c,h6,h7⟩:=h;exact ⟨h2,h3,h5,c,by rw [h1 id (by simp [Hq.ids])];exact h6,h7⟩
 |row id=>
  obtain ⟨h2,h3,c,h4⟩:=h;exact ⟨h2,h3,c,by rw [h1 id (by simp [Hq.ids])];exact h4⟩
 |none=>exact h
theorem EA {hp hp1:Nat->Option Bn}{src:Nat->Nat->Option (Nat × Nat)}:∀{ps:List PV}{i:Nat}{l:List Hq},(∀i∈l.flatMap Hq.ids,hp1 i=hp i)->Rt hp src i ps l->Rt hp1 src i ps l
 |[],_,_,_,h=>h
 |p::ps,i,l,hs,h=>by
  rcases h with ⟨h1,h2,h3⟩|⟨x,l',rfl,h2,h3⟩
  ·exact .inl ⟨h1,h2,EA hs h3⟩
  ·exact .inr ⟨x,l',rfl,Aet (fun k hk=>hs k (by simp only [List.flatMap_cons,List.mem_append];exact .inl hk)) h2,EA (fun k hk=>hs k (by simp only [List.flatMap_cons,List.mem_append];exact .inr hk)) h3⟩
theorem Abh {own:Bt}{bt:IV}{j i:Nat}{p:PV}{zs:List PV}{r:List (List PV)} (hp:EH p=false)(h:CD w A own bt j i (p::zs) r):CD w A own bt j (i+1) zs r:=by
 cases p<;>first|exact h|cases hp
theorem Wm {src:Nat->Nat->Option (Nat × Nat)} {β:Bt}:∀{zs:List PV}{l:List Hq}{ro:List (List PV)} {i j t:Nat}{hp:Nat->Option Bn}{K:(Nat->Option Bn)->List (Nat × Bn)->Option R},
  AK N t l ro hp K=some r->Rt hp src i zs l->Ej (l.flatMap Hq.ids)=true ->
  ∃hp' bs,∃qs:List (Nat × Nat),K hp' bs=some r∧bs.map (·.1)=qs.map (·.1)∧(∀q∈qs,(∃k,q.1=ZI N k)∧j<=q.2)∧(∀q∈qs,∀q'∈qs,q.2=q'.2->q.1=q'.1)∧(∀i bx,(i,bx)∈bs->∃c,bx=.ar false c) ∧
   (∀i,i ∉ l.flatMap Hq.ids->hp' i=hp i)∧(∀x∈l,Ab5 hp hp' bs x) ∧
   ∀(w':World) (A:Nat->Prop) (own β':Bt) (bt:IV),(∀q∈qs,β' q.1=own q.2)->(∀i,bt i 0=(src i 0).bind (Hy β))->CD w' A own bt j i zs ro ->
    (∀i bx,(i,bx)∈bs->Sz w' A β' i bx)∧∀x∈l,Ajk β β' w' A hp hp' x
 |[],l,ro,i,j,t,hp,K,hk,hL,hn=>by
  have hL:l=[]:=hL;subst hL;unfold AK at hk;obtain ⟨rfl,hk⟩:=Dt hk;exact ⟨hp,[],[],hk,rfl,by simp,by simp,by simp,fun _ _=>rfl,by simp,fun w' A own β' bt _ _ _=>⟨by simp,by simp⟩⟩
 |p::zs,l0,ro,i,j,t,hp,K,hk,hL0,hn=>by
  rcases hL0 with ⟨hpl,_,hL⟩|⟨x,l,rfl,hok,hL⟩
  rotate_left
  ··simp only [List.flatMap_cons] at hn;obtain ⟨hn1,hn2,hn3⟩:=Jl hn;cases x with
    |var id off cts ws'=>
     obtain ⟨rfl,hsrc,hcl,c,hc,hle⟩:=hok;unfold AK at hk;obtain ⟨cs,ro',hro,hk1⟩:=Be hk;subst hro;obtain ⟨t',cs',bs,qs,hk2,hl1,hl2,hb,hq1,hq2,hb1,hb2,hv⟩:=FT hk1;rw [hc] at hk2;simp only at hk2;change AK N t' l ro' (Cz hp id (some (.st (Bd c cs' off)))) (fun hp' bs'=>K hp' (bs++bs'))=some r at hk2
     have hidn:id ∉ l.flatMap Hq.ids:=hn3 id (by simp [Hq.ids])
     have hL':Rt (Cz hp id (some (.st (Bd c cs' off)))) src (i+1) zs l:=EA (fun k hkm=>Av _ _ (fun e=>hidn (e ▸ hkm))) hL
     obtain ⟨hp',bs',qs',hk3,hb',hq1',hq2',hb1',hkeep,hsh,hsem⟩:=Wm (β:=β) (j:=j+cs.length) hk2 hL' hn2;have hid':hp' id=some (.st (Bd c cs' off)):=by rw [hkeep id hidn,Az]
     have hother:∀x∈l,∀k∈x.ids,Cz hp id (some (.st (Bd c cs' off))) k=hp k:=fun x hx k hkm=>Av _ _ (fun e=>hidn (e ▸ List.mem_flatMap.2 ⟨x,hx,hkm⟩))
     refine ⟨hp',bs++bs',qs.map (fun q=>(q.1,j+q.2))++qs',hk3,by simp only [List.map_append,hb,hb'];simp,?_,?_,?_,?_,?_,fun w' A own β' bt hβ hbt ho=>?_⟩
     ·intro q hq;rcases List.mem_append.1 hq with hq|hq
      ·obtain ⟨q0,hq0,rfl⟩:=List.mem_map.1 hq;exact ⟨(hq1 q0 hq0).1,by simp only;omega⟩
      ·exact ⟨(hq1' q hq).1,by have:=(hq1' q hq).2;omega⟩
     ·intro q hq q' hq' e;rcases List.mem_append.1 hq with hq|hq
      ·obtain ⟨q0,hq0,rfl⟩:=List.mem_map.1 hq;have:=(hq1 q0 hq0).2;rcases List.mem_append.1 hq' with hq'|hq'
       ·obtain ⟨q1,hq1',rfl⟩:=List.mem_map.1 hq';exact hq2 q0 hq0 q1 hq1' (by simp only at e;omega)
       ·have:=(hq1' q' hq').2;simp only at e;omega
      ·have h5:=(hq1' q hq).2;rcases List.mem_append.1 hq' with hq'|hq'
       ·obtain ⟨q1,hq1'',rfl⟩:=List.mem_map.1 hq';have:=(hq1 q1 hq1'').2;simp only at e;omega
       ·exact hq2' q hq q' hq' e
     ·intro k bx hm;rcases List.mem_append.1 hm with hm|hm
      ·exact hb1 k bx hm
      ·exact hb1' k bx hm
     ·intro k hk;simp only [List.flatMap_cons,List.mem_append,not_or] at hk;rw [hkeep k hk.2];exact Av _ _ (by rintro rfl;exact hk.1 (by simp [Hq.ids]))
     ·intro x hx;rcases List.mem_cons.1 hx with rfl|hx
      ·refine ⟨c,cs',hc,hid',by omega,by omega,fun p hp k hk=>?_⟩
       obtain ⟨bx,hbx⟩:=hb2 p hp k hk;exact ⟨bx,List.mem_append.2 (.inl hbx)⟩
      ·exact BT (hother x hx) (fun q hq=>List.mem_append.2 (.inr hq)) (hsh x hx)
     ·obtain ⟨⟨b,ob,hb0,hlen,vs,hov,hcell,hfr⟩,ho⟩:=ho
      ·obtain ⟨h1,h2⟩:=hv w' A own β' j vs (fun q hq=>hβ _ (List.mem_append.2 (.inl (List.mem_map_of_mem hq)))) hov
       obtain ⟨h3,h4⟩:=hsem w' A own β' bt (fun q hq=>hβ q (List.mem_append.2 (.inr hq))) hbt ho
       refine ⟨fun k bx hm=>?_,fun x hx=>?_⟩
       ·rcases List.mem_append.1 hm with hm|hm
        ·exact h2 k bx hm
        ·exact h3 k bx hm
       ·rcases List.mem_cons.1 hx with rfl|hx
        ·refine ⟨c,cs',hc,hid',by omega,by omega,fun b1 o1 hβ1=>?_⟩
         have hb2:=hbt i;rw [hb0,hsrc] at hb2;simp only [Option.bind_some,Hy,hβ1,Option.map_some,Option.some.injEq,Prod.mk.injEq] at hb2;obtain ⟨rfl,rfl⟩:=hb2;refine ⟨fun k p hp=>?_,fun k hk=>hfr k (by omega)⟩
         obtain ⟨v,hv,hcr⟩:=h1.get hp;exact ⟨v,hcell k v hv,hcr⟩
        ·exact GI (hother x hx) (h4 x hx)
    |row id=>
     obtain ⟨⟨pz,rfl⟩,hsrc,c,hc⟩:=hok;unfold AK at hk;obtain ⟨cs,ro',hro,hk2⟩:=Be hk;subst hro;have hidn:id ∉ l.flatMap Hq.ids:=hn3 id (by simp [Hq.ids])
     have hL':Rt (Cz hp id (some (.ar false cs))) src (i+1) zs l:=EA (fun k hkm=>Av _ _ (fun e=>hidn (e ▸ hkm))) hL
     obtain ⟨hp',bs',qs',hk3,hb',hq1',hq2',hb1',hkeep,hsh,hsem⟩:=Wm (β:=β) (j:=j) hk2 hL' hn2;have hid':hp' id=some (.ar false cs):=by rw [hkeep id hidn,Az]
     have hother:∀x∈l,∀k∈x.ids,Cz hp id (some (.ar false cs)) k=hp k:=fun x hx k hkm=>Av _ _ (fun e=>hidn (e ▸ List.mem_flatMap.2 ⟨x,hx,hkm⟩))
     refine ⟨hp',bs',qs',hk3,hb',hq1',hq2',hb1',?_,?_,fun w' A own β' bt hβ hbt ho=>?_⟩
     ·intro k hk;simp only [List.flatMap_cons,List.mem_append,not_or] at hk;rw [hkeep k hk.2];exact Av _ _ (by rintro rfl;exact hk.1 (by simp [Hq.ids]))
     ·intro x hx;rcases List.mem_cons.1 hx with rfl|hx
      ·exact ⟨c,cs,hc,hid'⟩
      ·exact BT (hother x hx) (fun q hq=>hq) (hsh x hx)
     ·obtain ⟨hrow,ho⟩:=ho
      ·obtain ⟨h3,h4⟩:=hsem w' A own β' bt hβ hbt ho;refine ⟨h3,fun x hx=>?_⟩
       rcases List.mem_cons.1 hx with rfl|hx
       ·refine ⟨cs,hid',?_⟩;have hb2:=hbt i;rw [hsrc] at hb2;simp only [Option.bind_some,Abu] at hb2;rw [hb2] at hrow;exact hrow
       ·exact GI (hother x hx) (h4 x hx)
    |none=>
     obtain ⟨⟨pz,rfl⟩,hsrc⟩:=hok;unfold AK at hk;obtain ⟨cs,ro',hro,hk2⟩:=Be hk;subst hro;obtain ⟨hp',bs',qs',hk3,hb',hq1',hq2',hb1',hkeep,hsh,hsem⟩:=Wm (β:=β) (j:=j) hk2 hL hn2;refine ⟨hp',bs',qs',hk3,hb',hq1',hq2',hb1',?_,?_,fun w' A own β' bt hβ hbt ho=>?_⟩
     ·intro k hk;simp only [List.flatMap_cons,List.mem_append,not_or] at hk;exact hkeep k hk.2
     ·intro x hx;rcases List.mem_cons.1 hx with rfl|hx
      ·trivial
      ·exact hsh x hx
     ·obtain ⟨hrow,ho⟩:=ho
      ·obtain ⟨h3,h4⟩:=hsem w' A own β' bt hβ hbt ho;refine ⟨h3,fun x hx=>?_⟩
       rcases List.mem_cons.1 hx with rfl|hx
       ·trivial
       ·exact h4 x hx
  ·obtain ⟨hp',bs',qs',hk3,hb',hq1',hq2',hb1',hkeep,hsh,hsem⟩:=Wm (β:=β) (j:=j) hk hL hn;exact ⟨hp',bs',qs',hk3,hb',hq1',hq2',hb1',hkeep,hsh,fun w' A own β' bt hβ hbt ho=>hsem w' A own β' bt hβ hbt (Abh hpl ho)⟩
end
open Go.RowKit
theorem G3 (hp:Nat->Option Bn)(ids:List Nat)(i:Nat):Vv hp ids i=if i∈ids then (hp i).map (fun _=>Bn.mv) else hp i:=by
 unfold Vv;by_cases hi:i∈ids
 ·have:ids.any (Nat.beq i)=true:=List.any_eq_true.2 ⟨i,hi,Nat.beq_refl i⟩;rw [this,if_pos hi];rfl
 ·have:ids.any (Nat.beq i)=false:=by
   cases hb:ids.any (Nat.beq i)
   ·rfl
   ·obtain ⟨j,hj,e⟩:=List.any_eq_true.1 hb;exact absurd (Nat.eq_of_beq_eq_true e ▸ hj) hi
  rw [this,if_neg hi];rfl
theorem Uf:∀{nw:List (Nat × Bn)} {hp:Nat->Option Bn},B9 hp nw=true->(nw.map (·.1)).Nodup
 |[],_,_=>List.nodup_nil
 |(i,b)::r,hp,h=>by
  simp only [B9,Bool.and_eq_true,Option.isNone_iff_eq_none,Bool.not_eq_true'] at h;simp only [List.map_cons,List.nodup_cons];refine ⟨fun hm=>?_,Uf h.2⟩
  obtain ⟨q,hq,e⟩:=List.mem_map.1 hm;have:r.any (fun q=>Nat.beq q.1 i)=true:=List.any_eq_true.2 ⟨q,hq,by rw [e];exact Nat.beq_refl i⟩
  rw [this] at h;cases h.1.2
theorem Aic:∀{l:List (Nat × Nat)},(l.map (·.1)).Nodup->∀q∈l,Yg l q.1=some q.2
 |[],_,_,h=>by cases h
 |(j,b)::r,hn,q,hq=>by
  simp only [List.map_cons,List.nodup_cons] at hn;unfold Yg;rcases List.mem_cons.1 hq with rfl|hq
  ·simp only [Nat.beq_refl,cond_true]
  ·have:Nat.beq q.1 j=false:=by
    cases hb:Nat.beq q.1 j
    ·rfl
    ·exact absurd (Nat.eq_of_beq_eq_true hb ▸ List.mem_map_of_mem hq) hn.1
   simp only [this,cond_false];exact Aic hn.2 q hq
theorem XQ:∀{l:List (Nat × Nat)} {i:Nat},i ∉ l.map (·.1)->Yg l i=none
 |[],_,_=>rfl
 |(j,b)::r,i,h=>by
  simp only [List.map_cons,List.mem_cons,not_or] at h;unfold Yg
  have:Nat.beq i j=false:=by
   cases hb:Nat.beq i j
   ·rfl
   ·exact absurd (Nat.eq_of_beq_eq_true hb) h.1
  simp only [this,cond_false];exact XQ h.2
section
variable {R:Type} {r:R} {P:Program} {N:Nat} {w0:World} {X0:Fh} {Y:Nat->Prop} {β β':Bt} {s:St} {a:Act} {w w':World} {o:Oper} {A A':Nat->Prop}
theorem Hz.weak (hA:∀b,b<w.heap.size->A' b->A b){q:Option (Nat × Nat)} {p:PV}{u:Value}(h:Hz w A q p u):Hz w A' q p u:=by
 have tr:∀{p:PV},A7 w A p u->A7 w A' p u:=fun h=>h.step (Cb.refl _ _) hA
 cases p with
 |own es n c=>
  rcases h with h|⟨b,ob,cap,h1,h2,h3,h4,h5,h6,h7⟩
  ·exact .inl h
  ·exact .inr ⟨b,ob,cap,h1,h2,h3,h4,h5,h6.weak hA,h7⟩
 |_=>exact tr h
theorem F7.weak (hA:∀b,b<w.heap.size->A' b->A b){own:Bt}:∀{ps:List PV}{us:List Value}{j:Nat},F7 w A own j ps us->F7 w A' own j ps us
 |[],[],_,_=>trivial
 |[],_::_,_,h=>h.elim
 |_::_,[],_,h=>h.elim
 |_::_,_::_,_,h=>⟨h.1.weak hA,F7.weak hA h.2⟩
theorem VH.weak (hA:∀b,b<w.heap.size->A' b->A b){bt:Bt}{p:PV}{u:Value}(h:VH w A bt p u):VH w A' bt p u:=by
 cases p with
 |pbox ps=>
  obtain ⟨b,ob,h1,h2,h3,vs,h4,h5⟩:=h;exact ⟨b,ob,h1,h2,h3,vs,h4.weak hA,h5⟩
 |tup ps=>
  obtain ⟨es,n,c,h1,h2⟩:=h;exact ⟨es,n,c,h1,h2.weak hA⟩
 |agg cs=>
  obtain ⟨vs,h1,h2,h3⟩:=h;exact ⟨vs,h1,h2,h3.weak hA⟩
 |_=>exact ⟨h.1,h.2.weak hA⟩
theorem Ow.weak (hA:∀b,b<w.heap.size->A' b->A b){bt:IV}:∀{ps:List PV}{us:List Value}{i:Nat},Ow w A bt i ps us->Ow w A' bt i ps us
 |[],[],_,_=>trivial
 |[],_::_,_,h=>h.elim
 |_::_,[],_,h=>h.elim
 |_::_,_::_,_,h=>⟨h.1.weak hA,Ow.weak hA h.2⟩
theorem DQ {bt:IV}(k:Bool):∀{xs:List Operand}{ps:List PV}{i:Nat},Ow w A bt i ps (xs.map a.eval)->Ow w A bt i (Ko k xs ps) (xs.map a.eval)
 |[],[],_,h=>h
 |[],_::_,_,h=>h
 |_::_,[],_,h=>h
 |x::xs,p::ps,i,h=>by
  simp only [List.map_cons] at h ⊢;refine ⟨?_,DQ k h.2⟩;split
  ·exact ⟨.inl trivial,A7.lnil _ _⟩
  ·exact h.1
theorem TK (k:Bool)(x:Operand)(xs:List Operand)(p:PV)(ps:List PV):∃p',Ko k (x::xs) (p::ps)=p'::Ko k xs ps∧EH p'=EH p∧(EH p=true->p'=p):=by
 refine ⟨_,rfl,?_,fun h=>?_⟩
 ·split
  ·rfl
  ·rfl
 ·split
  ·cases h
  ·rfl
theorem Uh {hp:Nat->Option Bn}{src:Nat->Nat->Option (Nat × Nat)} (k:Bool):∀{xs:List Operand}{ps:List PV}{i:Nat}{l:List Hq},Rt hp src i ps l->Rt hp src i (Ko k xs ps) l
 |[],[],_,_,h=>h
 |[],_::_,_,_,h=>h
 |_::_,[],_,_,h=>h
 |x::xs,p::ps,i,l,h=>by
  obtain ⟨p',e,h1,h2⟩:=TK k x xs p ps;rw [e];rcases h with ⟨h3,h4,h5⟩|⟨y,l',rfl,h4,h5⟩
  ·exact .inl ⟨by rw [h1];exact h3,h4,Uh k h5⟩
  ·exact .inr ⟨y,l',rfl,by rw [h2 (Adc h4)];exact h4,Uh k h5⟩
theorem LM {hp:Nat->Option Bn}{src:Nat->Nat->Option (Nat × Nat)}:∀{ps:List PV}{i:Nat}{l:List Hq},Rt hp src i ps l->∀id∈l.flatMap Hq.ids,Cg (hp id)∧∃k off,src k 0=some (id,off)
 |[],_,_,h,id,hid=>by
  have h:_=[]:=h;rw [h] at hid;cases hid
 |p::ps,i,l,h,id,hid=>by
  rcases h with ⟨_,_,h3⟩|⟨x,l',rfl,h2,h3⟩
  ·exact LM h3 id hid
  ·simp only [List.flatMap_cons,List.mem_append] at hid;rcases hid with hid|hid
   ·cases x with
    |var id' off cts ws=>
     simp only [Hq.ids,List.mem_singleton] at hid;subst hid;obtain ⟨_,h4,_,c,h5,_⟩:=h2;exact ⟨by rw [h5];trivial,i,_,h4⟩
    |row id'=>
     simp only [Hq.ids,List.mem_singleton] at hid;subst hid;obtain ⟨_,h4,c,h5⟩:=h2;exact ⟨by rw [h5];trivial,i,_,h4⟩
    |none=>simp [Hq.ids] at hid
   ·exact LM h3 id hid
theorem Aj7 {hp:Nat->Option Bn}{src:Nat->Nat->Option (Nat × Nat)}:∀{ps:List PV}{i:Nat}{l:List Hq},Rt hp src i ps l->∀k p id off,ps[k]?=some p->src (i+k) 0=some (id,off) ->
   (∃c ws,hp id=some (.st c)∧p=.pbox ws∧off+ws.length<=c.length)∨((∃c,hp id=some (.ar false c))∧off=0∧∃ws,p=.tup ws)
 |[],_,_,_,k,p,id,off,hp,_=>by simp at hp
 |p::ps,i,l,h,k,p',id,off,hp',hs=>by
  have hrest:∃l',Rt hp src (i+1) ps l':=by
   rcases h with ⟨_,_,h3⟩|⟨x,l',_,_,h3⟩<;>exact ⟨_,h3⟩
  cases k with
  |succ k=>
   obtain ⟨l',h'⟩:=hrest;exact Aj7 h' k p' id off (by simpa using hp') (by rw [show i+1+k=i+(k+1) by omega];exact hs)
  |zero=>
   simp only [List.getElem?_cons_zero,Option.some.injEq] at hp';subst hp';rw [Nat.add_zero] at hs;rcases h with ⟨_,h2,_⟩|⟨x,l',_,h2,_⟩
   ·rw [hs] at h2;cases h2
   ·cases x with
    |var id' off' cts ws=>
     obtain ⟨h3,h4,_,c,h5,h6⟩:=h2;rw [hs] at h4;cases h4;exact .inl ⟨c,ws,h5,h3,h6⟩
    |row id'=>
     obtain ⟨h3,h4,c,h5⟩:=h2;rw [hs] at h4;cases h4;exact .inr ⟨⟨c,h5⟩,rfl,h3⟩
    |none=>
     have:=h2.2;rw [hs] at this;cases this
theorem YQ {hp : Nat -> Option Bn} {src : Nat -> Nat -> Option (Nat × Nat)} {id off : Nat} {cts : List CT} {ws : List PV} : ∀ {ps : List PV} {i : Nat} {l : List Hq}, Rt hp src i ps l -> Hq.var id off cts ws ∈ l ->
      ∃ k, ps[k]? = some (.pbox ws) ∧ src (i + k) 0 = some (id, off)
  | [], _, _, h, hm => by
    have h : _ = [] := h
    rw [h] at hm; cases hm
  | p :: ps, i, l, h, hm => by
    have next : ∀ {l'}, Rt hp src (i + 1) ps l' -> Hq.var id off cts ws ∈ l' -> ∃ k, (p :: ps)[k]? = some (.pbox ws) ∧ src (i + k) 0 = some (id, off) := by
      intro l' h' hm'
      obtain ⟨k, h1, h2⟩ := YQ h' hm'
      exact ⟨k + 1, by simpa using h1, by rw [show i + (k + 1) = i + 1 + k by omega]; exact h2⟩
    rcases h with ⟨_, _, h3⟩ | ⟨x, l', rfl, h2, h3⟩
    · exact next h3 hm
    · rcases List.mem_cons.1 hm with e | hm
      · subst e
        obtain ⟨h1, h4, _⟩ := h2
        subst h1
        exact ⟨0, rfl, h4⟩
      · exact next h3 hm
theorem WY {hp:Nat->Option Bn}{src:Nat->Nat->Option (Nat × Nat)}:∀{ps:List PV}{i:Nat}{l:List Hq},Rt hp src i ps l->∀k id off,i<=k->src k 0=some (id,off)->k<i+ps.length->∃p,ps[k-i]?=some p∧EH p=true
 |[],i,_,_,k,id,off,h1,_,h3=>by simp at h3;omega
 |p::ps,i,l,h,k,id,off,h1,h2,h3=>by
  by_cases e:k=i
  ·subst e;rcases h with ⟨_,h4,_⟩|⟨x,l',_,h4,_⟩
   ·rw [h2] at h4;cases h4
   ·exact ⟨p,by simp,Adc h4⟩
  ·have hrest:∃l',Rt hp src (i+1) ps l':=by
    rcases h with ⟨_,_,h3⟩|⟨x,l',_,_,h3⟩<;>exact ⟨_,h3⟩
   obtain ⟨l',h'⟩:=hrest;obtain ⟨q,h5,h6⟩:=WY h' k id off (by omega) h2 (by simp at h3;omega)
   refine ⟨q,?_,h6⟩;rw [show k-i=(k-(i+1))+1 by omega]
   simpa using h5
theorem Ow.len {bt:IV}:∀{ps:List PV}{us:List Value}{i:Nat},Ow w A bt i ps us->ps.length=us.length
 |[],[],_,_=>rfl
 |[],_::_,_,h=>h.elim
 |_::_,[],_,h=>h.elim
 |_::_,_::_,_,h=>by simp [Ow.len h.2]
theorem YD (h:B4 N w0 X0 Y β s a w){G:Vq}(hNG:IM P G w0 X0){C:Hs}{call:Ah}(hcall:∀f args res,call f args=some res->C9 G P f args res){c:Call}{f:FuncId}(ho:o.op=.call c)(hc:c.callee=.value (.func f))
  {K:St->Option R} (hk:FX C P N call s o f c K=some r):
  ∃s',K s'=some r∧∀(next:Act->World->Prop) (Q:Exit->Act->World->Prop),(∀a' w' β',B4 N w0 X0 Y β' s' a' w'->next a' w')->o.wp P a w next Q:=by
 unfold FX at hk;obtain ⟨vs0,m,x,l,src,hk1,hm,hx,hS,hL,hargs⟩:=QK h hk;obtain ⟨hb,hk2⟩:=Ax hk1;simp only [Bool.and_eq_true] at hb;obtain ⟨⟨⟨hnd,hdis⟩,hN⟩,hdst⟩:=hb;have hN:0<N:=Nat.lt_of_succ_le (Nat.le_of_ble_eq_true hN);obtain ⟨hnl,hnx,hlx⟩:=Jl hnd
 have hml:∀i∈m,i ∉ l.flatMap Hq.ids∧i ∉ x:=by
  intro i hi;have:=List.all_eq_true.1 hdis i hi
  have hn:∀k∈l.flatMap Hq.ids++x,i≠k:=by
   rintro k hk rfl
   have h2:(l.flatMap Hq.ids++x).any (Nat.beq i)=true:=List.any_eq_true.2 ⟨i,hk,Nat.beq_refl i⟩;rw [h2] at this;cases this
  exact ⟨fun hq=>hn i (by simp only [List.mem_append];exact .inl hq) rfl,fun hq=>hn i (by simp only [List.mem_append];exact .inr hq) rfl⟩
 replace hL:=Uh (C.kz f) (xs:=c.args.toList) hL
 replace hargs:=fun fz h1 h2 bt hbt=>DQ (a:=a) (C.kz f) (hargs fz h1 h2 bt hbt)
 generalize Ko (C.kz f) c.args.toList vs0=vs at hk2 hargs hL;obtain ⟨rv,ro,hcl,hk3⟩:=PH hk2;obtain ⟨ws,bs,hk4,hwl,hnt,hsl,hrs,hri,hws⟩:=EY (C.shr f) N hk3;obtain ⟨htup,hk5⟩:=Ax hk4;obtain ⟨lids,hlid⟩:∃lids,l.flatMap Hq.ids=lids:=⟨_,rfl⟩;rw [hlid] at hS hnl hlx hml;have hgetM:∀i,i ∉ x->Vv (Ai s.hp m) x i=Ai s.hp m i:=fun i hi=>by rw [G3,if_neg hi]
 have hgetL:∀i,i∈lids->Vv (Ai s.hp m) x i=s.hp i:=fun i hi=>by
  rw [hgetM i (hlx i hi),Ca,if_neg (fun hq=>(hml i hq).1 hi)]
 have hLM:Rt (Vv (Ai s.hp m) x) src 0 vs l:=EA (fun i hi=>hgetL i (hlid ▸ hi)) hL
 obtain ⟨hp',bs',qs,hk6,hbq,hq1,hq2,hb1,hkeep,hsh,hsem⟩:=Wm (β:=β) (j:=Ru rv) hk5 hLM (by rw [hlid];exact hnl)
 obtain ⟨hab,hk7⟩:=Ax hk6;refine ⟨_,hk7,fun next Q hn=>?_⟩
 clear hk hk1 hk2 hk3 hk4 hk5 hk6 hk7;rw [hlid] at hkeep;obtain ⟨⟨fn,hfn,hfb⟩,hcs⟩:=hcall f vs _ hcl;have hf:=h.freeze hm;have hids:=LM hL;rw [hlid] at hids
 have hgetF:∀i,i∈lids∨i∈x->Ai s.hp m i=s.hp i:=by
  intro i hi;rw [Ca,if_neg];intro hq;rcases hi with hi|hi
  ·exact (hml i hq).1 hi
  ·exact (hml i hq).2 hi
 have hlv:∀i,i∈lids∨i∈x->Cg (s.hp i):=by
  intro i hi;rcases hi with hi|hi
  ·exact (hids i hi).1
  ·obtain ⟨cc,hcc⟩:=hx i hi;rw [hcc];trivial
 have hsrcI:∀i j id off,src i j=some (id,off)->id∈lids∨id∈x:=by
  intro i j id off hs;cases j with
  |zero=>exact .inl (hS.lent i id off hs)
  |succ j=>exact .inr (hS.mvd i j id off hs).2
 obtain ⟨bt,hbt⟩:∃bt:IV,∀i j,bt i j=(src i j).bind (Hy β):=⟨_,fun _ _=>rfl⟩
 have btS:∀{i j b ob},bt i j=some (b,ob)->∃id off o',src i j=some (id,off)∧β id=some (b,o')∧ob=o'+off∧(id∈lids∨id∈x):=by
  intro i j b ob hb;rw [hbt] at hb;cases hs:src i j with
  |none=>rw [hs] at hb;cases hb
  |some q=>
   rw [hs] at hb;obtain ⟨id,off⟩:=q;simp only [Option.bind_some,Hy] at hb;cases hβ:β id with
   |none=>rw [hβ] at hb;cases hb
   |some p=>
    rw [hβ] at hb;obtain ⟨b',o'⟩:=p;simp only [Option.map_some,Option.some.injEq,Prod.mk.injEq] at hb;obtain ⟨rfl,rfl⟩:=hb;exact ⟨id,off,o',rfl,hβ,rfl,hsrcI i j id off hs⟩
 have btX:∀{b},BtX bt b->∃id o',β id=some (b,o')∧(id∈lids∨id∈x):=by
  rintro b ⟨i,j,ob,hb⟩
  obtain ⟨id,off,o',_,h2,_,h4⟩:=btS hb;exact ⟨id,o',h2,h4⟩
 have hBA:∀b,BtX bt b->BV s.hp β b:=fun b hb=>by
  obtain ⟨id,o',h1,h2⟩:=btX hb;exact ⟨id,o',hlv id h2,h1⟩
 obtain ⟨Yc,hYc⟩:∃Yc:Nat->Prop,∀b,Yc b↔((∃id ob,Cg (Ai s.hp m id)∧β id=some (b,ob)∧id ∉ lids∧id ∉ x)∨Y b):=⟨_,fun _=>Iff.rfl⟩
 have hlen:vs.length=c.args.toList.length:=by
  have:=(hargs m (fun _ hi=>hi) hm bt hbt).len
  simpa using this
 have hins:Ins w Yc bt vs (c.args.toList.map a.eval):=by
  refine ⟨fun b hb=>?_,fun b hb hB=>?_,fun b hB=>?_,fun i j i' j' b ob ob' hb hb'=>?_,fun i q hq=>?_,?_⟩
  ·rcases (hYc b).1 hb with ⟨id,ob,hl,hβ,_⟩|hY
   ·exact hf.blt id b ob (C2 hl) hβ
   ·exact Nat.lt_of_lt_of_le (h.Ylt b hY) h.fr.step.size
  ·obtain ⟨id',o',h1,h2⟩:=btX hB;rcases (hYc b).1 hb with ⟨id,ob,hl,hβ,h3,h4⟩|hY
   ·have:=hf.inj id id' b ob o' hl (by show Cg (Ai s.hp m id');rw [hgetF id' h2];exact hlv id' h2) hβ h1
    subst this;rcases h2 with h2|h2
    ·exact h3 h2
    ·exact h4 h2
   ·exact h.Yx b hY ⟨id',o',hlv id' h2,h1⟩
  ·obtain ⟨id',o',h1,h2⟩:=btX hB;exact h.blt id' b o' (C2 (hlv id' h2)) h1
  ·obtain ⟨id,off,o1,h1,h2,_,h4⟩:=btS hb;obtain ⟨id',off',o1',h1',h2',_,h4'⟩:=btS hb';have:=h.inj id id' b o1 o1' (hlv id h4) (hlv id' h4') h2 h2';subst this;cases j with
   |zero=>
    cases j' with
    |zero=>exact ⟨hS.inj0 hnl i i' id off off' h1 h1',rfl⟩
    |succ j'=>exact absurd (hS.mvd i' j' id off' h1').2 (hlx id (hS.lent i id off h1))
   |succ j=>
    cases j' with
    |zero=>exact absurd (hS.mvd i j id off h1).2 (hlx id (hS.lent i' id off' h1'))
    |succ j'=>
     obtain ⟨h5,h6⟩:=hS.inj1 hnx i i' j j' id off off' h1 h1';exact ⟨h5,by rw [h6]⟩
  ·obtain ⟨b,ob⟩:=q;obtain ⟨id,off,o',h1,_⟩:=btS hq;obtain ⟨p,hp,h2⟩:=WY hL i id off (Nat.zero_le _) h1 (by have:=hS.dom i 0 _ h1;rw [hlen];exact this.2)
   exact ⟨p,by simpa using hp,h2⟩
  ·refine (hargs m (fun _ hi=>hi) hm bt hbt).weak fun b _ hb=>?_
   rcases hb with hb|hb
   ·obtain ⟨id',o',h1,h2⟩:=btX hb;exact .inl ⟨id',o',by rw [hgetF id' h2];exact hlv id' h2,h1⟩
   ·rcases (hYc b).1 hb with ⟨id,ob,hl,hβ,_⟩|hY
    ·exact .inl ⟨id,ob,hl,hβ⟩
    ·exact .inr hY
 unfold Oper.wp;rw [MZ ho hc hNG.ng hfn hfb];show Calls P f _ w _;have hca:c.args.map a.eval=(c.args.toList.map a.eval).toArray:=by rw [←List.map_toArray,Array.toArray_toList]
 rw [hca];refine (hcs w Yc bt _ hins (hNG.fr w h.fr) (fun b x=>⟨Nat.lt_of_lt_of_le (hNG.y b x).1 h.fr.step.size,fun hB=>(h.ownd b (hBA b hB)).elim (hNG.y b x).2 (fun hle=>absurd (hNG.y b x).1 (Nat.not_lt.2 hle))⟩)).mono ?_
 rintro e w' ⟨us,own,rfl,out⟩
 obtain ⟨ha1,ha2⟩:=Bq hab;obtain ⟨hg1,hg2⟩:=Ew (hp:=hp') ha2;have hnod:=Uf hab;rw [List.map_append,List.nodup_append] at hnod;obtain ⟨hnd1,hnd2,hnd3⟩:=hnod;rw [hbq] at hnd2
 obtain ⟨β1,hβ1,hβ2⟩:∃β1:Bt,(∀i,(∃bx,(i,bx)∈bs)->β1 i=own ((i-o.dst.getD N) / N))∧∀i,(¬∃bx,(i,bx)∈bs)->β1 i=match Yg qs i with|some j=>own j|none=>β i:=by
  refine ⟨fun i=>if (bs.any fun q=>Nat.beq q.1 i)=true then own ((i-o.dst.getD N) / N) else match Yg qs i with|some j=>own j|none=>β i,fun i hi=>?_,fun i hi=>?_⟩
  ·show (if _ then _ else _)=_
   rw [if_pos (SB.2 hi)]
  ·show (if _ then _ else _)=_
   rw [if_neg (fun hq=>hi (SB.1 hq))]
 have hβbs:∀j,(∃bx,(o.dst.getD N+N*j,bx)∈bs)->β1 (o.dst.getD N+N*j)=own (0+j):=by
  intro j hj;rw [hβ1 _ hj,Nat.add_sub_cancel_left,Nat.mul_div_cancel_left _ hN,Nat.zero_add]
 have hqb:∀q∈qs,∃bx,(q.1,bx)∈bs':=by
  intro q hq;have:q.1∈bs'.map (·.1):=by rw [hbq];exact List.mem_map_of_mem hq
  obtain ⟨⟨i,bx⟩,hm,e⟩:=List.mem_map.1 this;exact ⟨bx,e ▸ hm⟩
 have hbqm:∀i bx,(i,bx)∈bs'->∃j,(i,j)∈qs:=by
  intro i bx hm;have:i∈qs.map (·.1):=by rw [←hbq];exact List.mem_map.2 ⟨_,hm,rfl⟩
  obtain ⟨⟨i',j⟩,hm,e⟩:=List.mem_map.1 this;exact ⟨j,e ▸ hm⟩
 have hbb:∀i,(∃bx,(i,bx)∈bs')->¬∃bx,(i,bx)∈bs:=by
  rintro i ⟨bx,hm⟩ ⟨bx',hm'⟩
  exact hnd3 i (List.mem_map.2 ⟨_,hm',rfl⟩) i (List.mem_map.2 ⟨_,hm,rfl⟩) rfl
 have hβqs:∀q∈qs,β1 q.1=own q.2:=by
  intro q hq;rw [hβ2 q.1 (hbb q.1 (hqb q hq)),Aic hnd2 q hq]
 have hβold:∀i,hp' i≠none->β1 i=β i:=by
  intro i hi
  have hn1:¬∃bx,(i,bx)∈bs:=by
   rintro ⟨bx,hm⟩
   exact hi (ha1 i bx (List.mem_append.2 (.inl hm)))
  rw [hβ2 i hn1,XQ];intro hm;obtain ⟨q,hq,e⟩:=List.mem_map.1 hm;obtain ⟨bx,hbx⟩:=hqb q hq;exact hi (ha1 i bx (List.mem_append.2 (.inr (e ▸ hbx))))
 obtain ⟨hvs,hba⟩:=hws w' _ own β1 w.heap.size 0 us hβbs out.vals;obtain ⟨hbr',hpost⟩:=hsem w' _ own β1 bt hβqs (fun i=>hbt i 0) out.outs
 have hlbox:∀id∈lids,∃y∈l,id∈y.ids:=by
  intro id hid;rw [←hlid] at hid;exact List.mem_flatMap.1 hid
 have hlsh:∀id∈lids,(∃off c cs,s.hp id=some (.st c)∧hp' id=some (.st (Bd c cs off))∧off+cs.length<=c.length∧(∀p∈cs,∀i∈Ay p,∃bx,(i,bx)∈bs'))∨∃c cs,s.hp id=some (.ar false c)∧hp' id=some (.ar false cs):=by
  intro id hid;obtain ⟨y,hy,hyi⟩:=hlbox id hid;have h1:=hsh y hy;cases y with
  |var id' off cts ws'=>
   simp only [Hq.ids,List.mem_singleton] at hyi;subst hyi;obtain ⟨c1,cs,h2,h3,h4,h5,h6⟩:=h1;rw [hgetL id hid] at h2;exact .inl ⟨off,c1,cs,h2,h3,h5,h6⟩
  |row id'=>
   simp only [Hq.ids,List.mem_singleton] at hyi;subst hyi;obtain ⟨c1,cs,h2,h3⟩:=h1;rw [hgetL id hid] at h2;exact .inr ⟨c1,cs,h2,h3⟩
  |none=>simp [Hq.ids] at hyi
 have hnnL:∀id∈lids,hp' id≠none:=by
  intro id hid;rcases hlsh id hid with ⟨_,_,_,_,h2,_⟩|⟨_,_,_,h2⟩<;>rw [h2]<;>simp
 have hpK:∀id,id ∉ lids->hp' id=Vv (Ai s.hp m) x id:=fun id hid=>hkeep id hid
 have hnn:∀i,s.hp i≠none->hp' i≠none:=by
  intro i hi;by_cases hl:i∈lids
  ·exact hnnL i hl
  ·rw [hpK i hl,G3];have h1:Ai s.hp m i≠none:=fun e=>hi (Ef.1 e)
   split
   ·cases hq:Ai s.hp m i with
    |none=>exact absurd hq h1
    |some b=>simp
   ·exact h1
 have hnn4:∀i,(s.hp i≠none∨∃bx,(i,bx)∈bs++bs')->A3 hp' (bs++bs') i≠none:=by
  rintro i (hi|⟨bx,hm⟩)
  ·have h1:=hnn i hi;rw [hg2 i (fun bx hm=>h1 (ha1 i bx hm))]
   exact h1
  ·rw [hg1 i bx hm];simp
 have hcase:∀id,(∃bx,(id,bx)∈bs++bs')∨A3 hp' (bs++bs') id=hp' id:=fun id=>by
  by_cases hx:∃bx,(id,bx)∈bs++bs'
  ·exact .inl hx
  ·exact .inr (hg2 id fun bx hb=>hx ⟨bx,hb⟩)
 have hold:∀id bx,hp' id=some bx->Cg (some bx)->Cg (s.hp id)∧id ∉ x∧(id∈lids∨(id ∉ lids∧Ai s.hp m id=some bx)):=by
  intro id bx hb hl;by_cases hid:id∈lids
  ·exact ⟨hlv id (.inl hid),hlx id hid,.inl hid⟩
  ·rw [hpK id hid,G3] at hb;split at hb
   ·cases hq:Ai s.hp m id with
    |none=>rw [hq] at hb;cases hb
    |some b=>rw [hq] at hb;simp at hb;subst hb;exact hl.elim
   ·rename_i hxn;exact ⟨by rw [Js hb hl];exact hl,hxn,.inr ⟨hid,hb⟩⟩
 have hnew:∀i bx,(i,bx)∈bs++bs'->∃j,β1 i=own j∧((i=o.dst.getD N+N*j∧j<Ru rv)∨((i,j)∈qs∧Ru rv<=j)):=by
  intro i bx hm;rcases List.mem_append.1 hm with hm|hm
  ·obtain ⟨⟨j,rfl,hj⟩,_⟩:=hba i bx hm;exact ⟨j,by rw [hβbs j ⟨bx,hm⟩,Nat.zero_add],.inl ⟨rfl,hj⟩⟩
  ·obtain ⟨j,hj⟩:=hbqm i bx hm;exact ⟨j,hβqs _ hj,.inr ⟨hj,(hq1 _ hj).2⟩⟩
 have hnewB:∀i bx,(i,bx)∈bs++bs'->Cg (some bx)∧Sz w' (SK bt own Yc) β1 i bx∧∀cs,bx=.st cs->∀b ob,β1 i=some (b,ob)->w.heap.size<=b:=by
  intro i bx hm;rcases List.mem_append.1 hm with hm|hm
  ·exact (hba i bx hm).2
  ·obtain ⟨cc,rfl⟩:=hb1 i bx hm;exact ⟨trivial,hbr' i _ hm,fun cs e=>by cases e⟩
 have hmvd:∀b,(∃i k o',bt i (k+1)=some (b,o'))->∃id o',id∈x∧β id=some (b,o'):=by
  rintro b ⟨i,k,o',hb⟩
  obtain ⟨id,off,o1,h1,h2,_,_⟩:=btS hb;exact ⟨id,o1,(hS.mvd i k id off h1).2,h2⟩
 have hX:∀b,b<w.heap.size->BV (A3 hp' (bs++bs')) β1 b->BV s.hp β b:=by
  rintro b hb ⟨id,ob,hl,hβ⟩
  rcases hcase id with ⟨bx,hm⟩|e
  ·obtain ⟨j,hj,_⟩:=hnew id bx hm;rw [hj] at hβ;obtain ⟨id',o',h1,h2⟩:=hmvd b ((out.fresh j b ob hβ).2 hb).1;exact ⟨id',o',hlv id' (.inr h1),h2⟩
  ·rw [e] at hl;cases hq:hp' id with
   |none=>rw [hq] at hl;exact hl.elim
   |some bx=>
    rw [hq] at hl;exact ⟨id,ob,(hold id bx hq hl).1,by rw [←hβold id (by rw [hq];simp)];exact hβ⟩
 have hAo:∀b,b<w.heap.size->C1 (A3 hp' (bs++bs')) β1 Y b->C1 s.hp β Y b:=fun b hb hA=>hA.imp (hX b hb) id
 have hAO:∀b,C1 (A3 hp' (bs++bs')) β1 Y b->SK bt own Yc b:=by
  rintro b (⟨id,ob,hl,hβ⟩|hY)
  ·rcases hcase id with ⟨bx,hm⟩|e
   ·obtain ⟨j,hj,_⟩:=hnew id bx hm;rw [hj] at hβ;exact .inl ⟨j,ob,hβ⟩
   ·rw [e] at hl;cases hq:hp' id with
    |none=>rw [hq] at hl;exact hl.elim
    |some bx=>
     rw [hq] at hl;rw [hβold id (by rw [hq];simp)] at hβ
     obtain ⟨h1,h2,h3⟩:=hold id bx hq hl;rcases h3 with h3|⟨h3,h4⟩
     ·obtain ⟨_,i,off,hs⟩:=hids id h3;exact .inr (.inl ⟨i,ob+off,by rw [hbt,hs];simp [Hy,hβ]⟩)
     ·exact .inr (.inr ((hYc b).2 (.inl ⟨id,ob,by rw [h4];exact hl,hβ,h3,h2⟩)))
  ·exact .inr (.inr ((hYc b).2 (.inr hY)))
 have hst:Cb (C1 s.hp β Y) w w':=out.ext.weaken (fun b _ hb=>.inl (hBA b hb))
 have hwf4:∀i,s.hp i≠none->β1 i=β i:=fun i hi=>hβold i (hnn i hi)
 have hCL:∀b j,QB bt vs b j->∃id o' bx,s.hp id=some bx∧Cg (some bx)∧β id=some (b,o')∧BR bx o' j:=by
  rintro b j ⟨i,p,hp,⟨k,ob,hb,hle⟩|⟨ob,ps,hb,hle,hpl⟩⟩
  ·obtain ⟨id,off,o',h1,h2,h3,_⟩:=btS hb;obtain ⟨h5,h6⟩:=hS.mvd i k id off h1;obtain ⟨cc,hcc⟩:=hx id h6;exact ⟨id,o',_,hcc,trivial,h2,show o'<=j by omega⟩
  ·obtain ⟨id,off,o',h1,h2,h3,_⟩:=btS hb;rcases Aj7 hL i p id off hp (by rw [Nat.zero_add];exact h1) with ⟨c1,wz,h5,h6,h7⟩|⟨⟨c1,h5⟩,_⟩
   ·rcases hpl with ⟨h8,h9⟩|h8
    ·rw [h6] at h8;cases h8;exact ⟨id,o',_,h5,trivial,h2,show o'<=j∧j<o'+c1.length by omega⟩
    ·rw [h6] at h8;cases h8
   ·exact ⟨id,o',_,h5,trivial,h2,show o'<=j by omega⟩
 have hnL:∀id off cts wz,Hq.var id off cts wz∈l->id∈lids->∀b ob,β id=some (b,ob)->∀j,(j<off∨off+wz.length<=j)->(∃c1,s.hp id=some (.st c1))->¬QB bt vs b (ob+j):=by
  rintro id off cts wz hy hid b ob hβ j hj ⟨c1,hc1⟩ ⟨i,p,hp,⟨k,ob',hb,hle⟩|⟨ob',ps,hb,hle,hpl⟩⟩
  ·obtain ⟨id',off',o',h1,h2,h3,h4⟩:=btS hb;have:=h.inj id id' b ob o' (hlv id (.inl hid)) (hlv id' h4) hβ h2;subst this;exact hlx id hid (hS.mvd i k id off' h1).2
  ·obtain ⟨id',off',o',h1,h2,h3,h4⟩:=btS hb;have:=h.inj id id' b ob o' (hlv id (.inl hid)) (hlv id' h4) hβ h2;subst this;rw [hβ] at h2;cases h2;obtain ⟨k,hk1,hk2⟩:=YQ hL hy;rw [Nat.zero_add] at hk2;have hik:=hS.inj0 hnl i k id off' off h1 hk2;subst hik;rw [h1] at hk2;cases hk2;rw [hp] at hk1;cases hk1;rcases hpl with ⟨h8,h9⟩|h8
   ·cases h8;omega
   ·cases h8
 have hval:Dx w' (C1 (A3 hp' (bs++bs')) β1 Y) β1 (P0 ws (Q9 P o.type)) (Mj us):=by
  have hall:Bk (G9 w' (C1 (A3 hp' (bs++bs')) β1 Y) β1) ws us:=hvs.mono fun v u hvu=>hvu.step (Cb.refl _ _) (fun b _=>hAO b) (fun _ _=>rfl)
  have hlen:=hall.len;cases hT:Q9 P o.type
  ·rw [hT] at htup;have h1:ws.length=1:=Nat.eq_of_beq_eq_true htup
   match ws,us,h1,hlen with
   |[v],[u],_,_=>
    exact (Pb (hnt v (by simp))).2 hall.1
  ·rw [hT] at htup
   have h1:¬ws.length=1:=by
    intro e;rw [e] at htup;cases htup
   have hr:Mj us=.tuple ⟨us⟩:=by
    unfold Mj;split
    ·simp at hlen;omega
    ·rfl
   rw [hr];exact ⟨us,rfl,hall⟩
 have hvr:∀i∈Bx (P0 ws (Q9 P o.type)),∃bx,(i,bx)∈bs:=by
  intro i hi;cases hT:Q9 P o.type
  ·rw [hT] at htup hi;have h1:ws.length=1:=Nat.eq_of_beq_eq_true htup
   match ws,h1 with
   |[v],_=>
    refine hrs v (by simp) i ?_
    have:Bx v=Cf v:=by
     have hn:=hnt v (by simp)
     cases v<;>first|rfl|exact absurd rfl (hn _)
    rw [←this];exact hi
  ·rw [hT] at hi;obtain ⟨v,hv,hi⟩:=List.mem_flatMap.1 (show i∈ws.flatMap Cf from hi)
   exact hrs v hv i hi
 refine hn _ w' β1 ?_;refine ⟨by rw [Mb];exact h.dfr,by rw [I2];exact h.tsz,SO hdst h.tmo,?_,?_,?_,?_,?_,?_,?_,?_,?_,?_,?_,h.Ylt,?_⟩
 ·refine Q3 (Q:=fun _ p u=>Dx w' (C1 (A3 hp' (bs++bs')) β1 Y) β1 p u) h.tsz hdst (fun i hi=>?_) (fun _=>hval)
  exact (h.tms i hi).step hst hAo fun id hid=>hwf4 id (h.wfT i hi id hid)
 ·intro id bx hb;simp only at hb;rcases hcase id with ⟨bx',hm'⟩|e
  ·rw [hg1 id bx' hm'] at hb;cases hb;exact (hnewB id _ hm').2.1.step' hAO
  ·rw [e] at hb;have hβ:=hβold id (by rw [hb];simp)
   by_cases hid:id∈lids
   ·obtain ⟨y,hy,hyi⟩:=hlbox id hid;have h1:=hpost y hy;cases y with
    |var id' off cts wz=>
     simp only [Hq.ids,List.mem_singleton] at hyi;subst hyi;obtain ⟨c1,cs,h2,h3,h4,h5,h6⟩:=h1;rw [hgetL id hid] at h2;rw [h3] at hb;cases hb;obtain ⟨b,ob,h7,h8,h9⟩:=h.box id _ h2;obtain ⟨h10,h11⟩:=h6 b ob h7;have hlt:=h.blt id b ob (by rw [h2];simp) h7
     have hsame:∀j,(j<off∨off+wz.length<=j)->w'.cell? ⟨b,ob+j,none⟩=w.cell? ⟨b,ob+j,none⟩∧w'.frozen? ⟨b,ob+j,none⟩=w.frozen? ⟨b,ob+j,none⟩:=
      fun j hj=>out.rng b (ob+j) hlt (hnL id off cts wz hy hid b ob h7 j hj ⟨c1,h2⟩)
     refine ⟨b,ob,hβ.trans h7,fun j p hj=>?_,fun j hj=>?_⟩
     ·rcases Uc (by omega) hj with ⟨h12,h13,h14⟩|⟨h12,h14⟩
      ·obtain ⟨v,hv,hcr⟩:=h10 _ _ h14;refine ⟨v,?_,hcr.step (Cb.refl _ _) (fun b _=>hAO b) (fun _ _=>rfl)⟩
       rw [show ob+j=ob+off+(j-off) by omega]
       exact hv
      ·obtain ⟨v,hv,hcr⟩:=h8 _ _ h14;refine ⟨v,by rw [(hsame j (by omega)).1];exact hv,hcr.step hst hAo fun i hi=>hwf4 i (h.wfB id c1 h2 p (List.mem_of_getElem? h14) i hi)⟩
     ·rw [Ur (by omega)] at hj
      by_cases hin:off<=j∧j<off+cs.length
      ·have:=h11 (j-off) (by omega)
       rw [show ob+off+(j-off)=ob+j by omega] at this
       exact this
      ·rw [(hsame j (by omega)).2]
       exact h9 j hj
    |row id'=>
     simp only [Hq.ids,List.mem_singleton] at hyi;subst hyi;obtain ⟨cs,h3,h4⟩:=h1;rw [h3] at hb;cases hb;rcases h4 with ⟨h5,h6⟩|⟨b,ob,h5,h6,h7⟩
     ·exact .inl ⟨hβ.trans h5,h6⟩
     ·exact .inr ⟨b,ob,hβ.trans h5,h6.weak (fun b _=>hAO b),fun _=>h7,(fun q=>by cases q)⟩
    |none=>simp [Hq.ids] at hyi
   ·rw [hpK id hid,G3] at hb;split at hb
    ·cases hq:Ai s.hp m id with
     |none=>rw [hq] at hb;cases hb
     |some b0=>rw [hq] at hb;simp at hb;subst hb;trivial
    ·rename_i hxn;have hbx:=hf.box id bx hb
     have hblk:∀b ob,β id=some (b,ob)->bx ≠ .mv->b<w.heap.size∧w'.heap[b]?=w.heap[b]?:=by
      intro b ob hb0 hmv;have hlt:=hf.blt id b ob (by show Ai s.hp m id≠none;rw [hb];simp) hb0
      refine ⟨hlt,out.ext.keep b hlt fun hB=>?_⟩
      obtain ⟨id',o',h1,h2⟩:=btX hB;have hl':Cg (Ai s.hp m id'):=by rw [hgetF id' h2];exact hlv id' h2
      have hno:id≠id':=by
       rintro rfl
       rcases h2 with h2|h2
       ·exact hid h2
       ·exact hxn h2
      cases bx with
      |st cc=>exact hno (hf.inj id id' b ob o' (by show Cg (Ai s.hp m id);rw [hb];trivial) hl' hb0 h1)
      |ar fz cc=>
       cases fz with
       |false=>exact hno (hf.inj id id' b ob o' (by show Cg (Ai s.hp m id);rw [hb];trivial) hl' hb0 h1)
       |true=>
        rcases hbx with ⟨h3,_⟩|⟨b2,o2,h3,_,_,h4⟩
        ·rw [hb0] at h3;cases h3
        ·rw [hb0] at h3;cases h3;exact h4 rfl (.inl ⟨id',o',hl',h1⟩)
      |mv=>exact hmv rfl
     have hAoF:∀b,b<w.heap.size->C1 (A3 hp' (bs++bs')) β1 Y b->C1 (Ai s.hp m) β Y b:=by
      intro b hb1 hA;rcases hA with ⟨i,ob,hl,hβi⟩|hY
      ·rcases hcase i with ⟨bx1,hm1⟩|e1
       ·obtain ⟨j,hj,_⟩:=hnew i bx1 hm1;rw [hj] at hβi;obtain ⟨id',o',h1,h2⟩:=hmvd b ((out.fresh j b ob hβi).2 hb1).1;exact .inl ⟨id',o',by rw [hgetF id' (.inr h1)];exact hlv id' (.inr h1),h2⟩
       ·rw [e1] at hl;cases hq:hp' i with
        |none=>rw [hq] at hl;exact hl.elim
        |some bx1=>
         rw [hq] at hl;rw [hβold i (by rw [hq];simp)] at hβi
         obtain ⟨h1,h2,h3⟩:=hold i bx1 hq hl;rcases h3 with h3|⟨h3,h4⟩
         ·exact .inl ⟨i,ob,by rw [hgetF i (.inl h3)];exact h1,hβi⟩
         ·exact .inl ⟨i,ob,by rw [h4];exact hl,hβi⟩
      ·exact .inr hY
     have hstF:Cb (C1 (Ai s.hp m) β Y) w w':=out.ext.weaken (fun b _ hB=>by
      obtain ⟨id',o',h1,h2⟩:=btX hB;exact .inl ⟨id',o',by rw [hgetF id' h2];exact hlv id' h2,h1⟩)
     cases bx with
     |st cc=>
      obtain ⟨b,ob,h1,h2,h3⟩:=hbx;obtain ⟨hlt,hbl⟩:=hblk b ob h1 (by simp)
      refine ⟨b,ob,hβ.trans h1,fun j p hj=>?_,fun j hj=>?_⟩
      ·obtain ⟨v,hv,hcr⟩:=h2 j p hj;refine ⟨v,by rw [World.cell?_of_block (w:=w) hbl];exact hv,hcr.step hstF hAoF fun i hi=>?_⟩
       refine hwf4 i (fun e1=>?_)
       exact hf.wfB id cc hb p (List.mem_of_getElem? hj) i hi (Ef.2 e1)
      ·rw [World.frozen?_of_block (w:=w) hbl];exact h3 j hj
     |ar fz cc=>
      rcases hbx with ⟨h1,h2⟩|⟨b,ob,h1,h2,h3,h4⟩
      ·exact .inl ⟨hβ.trans h1,h2⟩
      ·obtain ⟨hlt,hbl⟩:=hblk b ob h1 (by simp)
       have hbs:bsz w' b=bsz w b:=by unfold bsz;rw [hbl]
       refine .inr ⟨b,ob,hβ.trans h1,fun j p hj=>?_,fun e1 j hj hj'=>?_,fun e1 q=>h4 e1 (hAoF b hlt q)⟩
       ·obtain ⟨v,hv,h5,hc1⟩:=h2 j p hj;exact ⟨v,by rw [World.cell?_of_block (w:=w) (by rw [F8];exact hbl)];exact hv,h5,hc1.step hstF hAoF⟩
       ·rw [World.frozen?_of_block (w:=w) hbl];exact h3 e1 j hj (by rw [←hbs];exact hj')
     |mv=>trivial
 ·intro id id' b ob ob' hl hl' hb hb';simp only at hl hl'
  have mixed:∀i bx i' k z,(i,bx)∈bs++bs'->β1 i=some (k,z)->hp' i'≠none->Cg (hp' i')->∀z',β1 i'=some (k,z')->False:=by
   intro i bx i' k z hm1 hz hn1 hl1 z' hz';obtain ⟨j,hj,_⟩:=hnew i bx hm1;rw [hj] at hz;rw [hβold i' hn1] at hz';cases hq:hp' i' with
   |none=>exact hn1 hq
   |some bx1=>
    rw [hq] at hl1;obtain ⟨h1,h2,h3⟩:=hold i' bx1 hq hl1;have hlt:=h.blt i' k z' (C2 h1) hz';obtain ⟨id2,o2,h4,h5⟩:=hmvd k ((out.fresh j k z hz).2 hlt).1;have:=h.inj i' id2 k z' o2 h1 (hlv id2 (.inr h4)) hz' h5;subst this;exact h2 h4
  rcases hcase id with ⟨bx,hm1⟩|e1
  ·rcases hcase id' with ⟨bx',hm2⟩|e2
   ·obtain ⟨j,hj,hpl⟩:=hnew id bx hm1;obtain ⟨j',hj',hpl'⟩:=hnew id' bx' hm2;rw [hj] at hb;rw [hj'] at hb';have:=out.inj j j' b ob ob' hb hb';subst this;rcases hpl with ⟨h1,h2⟩|⟨h1,h2⟩
    ·rcases hpl' with ⟨h3,_⟩|⟨_,h4⟩
     ·rw [h1,h3]
     ·omega
    ·rcases hpl' with ⟨_,h4⟩|⟨h3,_⟩
     ·omega
     ·exact hq2 _ h1 _ h3 rfl
   ·rw [e2] at hl';exact (mixed id bx id' b ob hm1 hb (C2 hl') hl' ob' hb').elim
  ·rw [e1] at hl;rcases hcase id' with ⟨bx',hm2⟩|e2
   ·exact (mixed id' bx' id b ob' hm2 hb' (C2 hl) hl ob hb).elim
   ·rw [e2] at hl'
    have g:∀i,Cg (hp' i)->Cg (s.hp i)∧β1 i=β i:=by
     intro i hli;cases hq:hp' i with
     |none=>rw [hq] at hli;exact hli.elim
     |some bx1=>exact ⟨(hold i bx1 hq (by rw [←hq];exact hli)).1,hβold i (by rw [hq];simp)⟩
    rw [(g id hl).2] at hb;rw [(g id' hl').2] at hb';exact h.inj id id' b ob ob' (g id hl).1 (g id' hl').1 hb hb'
 ·intro id b ob hn1 hb;simp only at hn1;rcases hcase id with ⟨bx,hm1⟩|e1
  ·obtain ⟨j,hj,_⟩:=hnew id bx hm1;rw [hj] at hb;exact (out.fresh j b ob hb).1
  ·rw [e1] at hn1;rw [hβold id hn1] at hb
   have hn2:s.hp id≠none:=by
    by_cases hid:id∈lids
    ·exact C2 (hlv id (.inl hid))
    ·rw [hpK id hid,G3] at hn1;intro e2;have h1:Ai s.hp m id=none:=Ef.2 e2;rw [h1] at hn1;split at hn1<;>exact hn1 rfl
   exact Nat.lt_of_lt_of_le (h.blt id b ob hn2 hb) out.ext.size
 ·have:=Q3 (Q:=fun _ p _=>∀id∈Bx p,A3 hp' (bs++bs') id≠none) (val:=Mj us) (d:=o.dst) (v:=P0 ws (Q9 P o.type)) h.tsz hdst (fun i hi id hid=>hnn4 id (.inl (h.wfT i hi id hid))) (fun _ id hid=>hnn4 id (.inr (by
   obtain ⟨bx,hb⟩:=hvr id hid;exact ⟨bx,List.mem_append.2 (.inl hb)⟩)))
  exact this
 ·intro id cells hcl1 p hp i hi;simp only at hcl1;refine hnn4 i ?_;rcases hcase id with ⟨bx,hm1⟩|e1
  ·rw [hg1 id bx hm1] at hcl1;cases hcl1;rcases List.mem_append.1 hm1 with hm1|hm1
   ·obtain ⟨bx1,hb⟩:=hri id cells hm1 p hp i hi;exact .inr ⟨bx1,List.mem_append.2 (.inl hb)⟩
   ·obtain ⟨cc,e2⟩:=hb1 id _ hm1;cases e2
  ·rw [e1] at hcl1;by_cases hid:id∈lids
   ·rcases hlsh id hid with ⟨off,c1,cs,h1,h2,h3,h4⟩|⟨c1,cs,h1,h2⟩
    ·rw [h2] at hcl1;cases hcl1;unfold Bd at hp;rcases List.mem_append.1 hp with hp|hp
     ·rcases List.mem_append.1 hp with hp|hp
      ·exact .inl (h.wfB id c1 h1 p (List.mem_of_mem_take hp) i hi)
      ·obtain ⟨bx1,hb⟩:=h4 p hp i hi;exact .inr ⟨bx1,List.mem_append.2 (.inr hb)⟩
     ·exact .inl (h.wfB id c1 h1 p (List.mem_of_mem_drop hp) i hi)
    ·rw [h2] at hcl1;cases hcl1
   ·obtain ⟨_,_,h3⟩:=hold id _ hcl1 trivial;rcases h3 with h3|⟨_,h3⟩
    ·exact absurd h3 hid
    ·exact .inl (h.wfB id cells (Js h3 trivial) p hp i hi)
 ·rintro b ⟨id,ob,hl,hβ⟩
  rcases Nat.lt_or_ge b w.heap.size with hlt|hge
  ·exact h.ownd b (hX b hlt ⟨id,ob,hl,hβ⟩)
  ·exact .inr (Nat.le_trans h.fr.step.size hge)
 ·intro id bx b ob hb hl hβ hlt j hj;simp only at hb;have hlw:=Nat.lt_of_lt_of_le hlt h.fr.step.size;rcases hcase id with ⟨bx',hm1⟩|e1
  ·rw [hg1 id bx' hm1] at hb;cases hb;obtain ⟨k,hk,_⟩:=hnew id bx hm1;rw [hk] at hβ
   have hle:ob<=j:=by
    cases bx with
    |st cc=>exact hj.1
    |ar fz cc=>exact hj
    |mv=>exact hl.elim
   obtain ⟨id2,o2,bx2,h1,h2,h3,h4⟩:=hCL b j (((out.fresh k b ob hβ).2 hlw).2 j hle);exact h.rngB id2 bx2 b o2 h1 h2 h3 hlt j h4
  ·rw [e1] at hb;rw [hβold id (by rw [hb];simp)] at hβ
   obtain ⟨h1,h2,h3⟩:=hold id bx hb hl;rcases h3 with h3|⟨h3,h4⟩
   ·rcases hlsh id h3 with ⟨off,c1,cs,h5,h6,h7,_⟩|⟨c1,cs,h5,h6⟩
    ·rw [h6] at hb;cases hb;have hj:ob<=j∧j<ob+(Bd c1 cs off).length:=hj;rw [Ur (by omega)] at hj
     exact h.rngB id _ b ob h5 trivial hβ hlt j hj
    ·rw [h6] at hb;cases hb;exact h.rngB id _ b ob h5 trivial hβ hlt j hj
   ·exact h.rngB id bx b ob (Js h4 hl) hl hβ hlt j hj
 ·intro i hi;obtain ⟨h1,h2⟩:=h.pin i hi;exact ⟨hnn4 _ (.inl h1),by rw [hwf4 _ h1];exact h2⟩
 ·intro id cc b ob hb hβ hlt;simp only at hb;have hlw:=Nat.lt_of_lt_of_le hlt h.fr.step.size;rcases hcase id with ⟨bx',hm1⟩|e1
  ·rw [hg1 id bx' hm1] at hb;cases hb;have:=(hnewB id _ hm1).2.2 cc rfl b ob hβ;omega
  ·rw [e1] at hb;rw [hβold id (by rw [hb];simp)] at hβ
   obtain ⟨h1,h2,h3⟩:=hold id _ hb trivial;rcases h3 with h3|⟨h3,h4⟩
   ·rcases hlsh id h3 with ⟨off,c1,cs,h5,h6,h7,_⟩|⟨c1,cs,h5,h6⟩
    ·exact h.stp id c1 b ob h5 hβ hlt
    ·rw [h6] at hb;cases hb
   ·exact h.stp id cc b ob (Js h4 trivial) hβ hlt
 ·intro b hY hXb;exact h.Yx b hY (hX b (Nat.lt_of_lt_of_le (h.Ylt b hY) h.fr.step.size) hXb)
 ·refine ⟨out.os.trans h.fr.os,out.tape.trans h.fr.tape,out.output.trans h.fr.output,⟨Nat.le_trans h.fr.step.size out.ext.size,fun b hb hnX=>?_,fun b hb=>Nat.le_trans (h.fr.step.bs b hb) (out.ext.bs b (Nat.lt_of_lt_of_le hb h.fr.step.size))⟩,fun b j hb hnL=>?_⟩
  ·rw [out.ext.keep b (Nat.lt_of_lt_of_le hb h.fr.step.size) ?_]
   ·exact h.fr.step.keep b hb hnX
   ·intro hB;rcases h.ownd b (hBA b hB) with hq|hq
    ·exact hnX hq
    ·omega
  ·have hno:¬QB bt vs b j:=by
    intro hq;obtain ⟨id2,o2,bx2,h1,h2,h3,h4⟩:=hCL b j hq;exact hnL (h.rngB id2 bx2 b o2 h1 h2 h3 hb j h4)
   obtain ⟨h1,h2⟩:=out.rng b j (Nat.lt_of_lt_of_le hb h.fr.step.size) hno;rw [h1,h2];exact h.fr.rng b j hb hnL
end
open Go.RowKit
section
variable {R:Type} {r:R} {P:Program} {N:Nat} {w0:World} {X0:Fh} {Y:Nat->Prop} {β β':Bt} {s:St} {a:Act} {w w':World} {o:Oper} {A:Nat->Prop}
theorem SY (h:B4 N w0 X0 Y β s a w){c:Call}(ho:o.op=.call c)(hc:c.callee=.builtin .append){d:Nat}(hdst:o.dst=some d){b x:Operand}(hargs:c.args.toList=[b,x]) {t tx:TypeId}{ts:List TypeId}(htys:c.argTypes.toList=t::tx::ts)
  {K:St->Option R} (hk:Rg P N s d t tx (Cm s.tm b) (Cm s.tm x) K=some r):
  ∃s',K s'=some r∧∀(next:Act->World->Prop) (Q:Exit->Act->World->Prop),(∀a' w' β',B4 N w0 X0 Y β' s' a' w'->next a' w')->o.wp P a w next Q:=by
 have hcargs:c.args = #[b,x]:=by
  have:c.args=([b,x]:List Operand).toArray:=by rw [←hargs]
  exact this
 have hctys:c.argTypes=(t::tx::ts).toArray:=by rw [←htys]
 have run:∀{v:Value} {w1:World},(Builtin.append_ (t::tx::ts).toArray o.type #[a.eval b,a.eval x]).run P w=.ok v w1->∀(next:Act->World->Prop) (Q:Exit->Act->World->Prop),next (a.put (some d) v) w1->o.wp P a w next Q:=by
  intro v w1 hr next Q hn;unfold Oper.wp execOp;rw [ho];simp only [resolve,hc,invoke,builtin,Sem.run_bind,Sem.run_pure,Result.andThen_ok,hcargs,hctys];have:(#[b,x]:Array Operand).map a.eval = #[a.eval b,a.eval x]:=by simp
  rw [this,hr];show next (a.put o.dst v) w1;rw [hdst];exact hn
 have hbv:=Df h b;have hbr:=Fu h b;unfold Rg at hk;split at hk
 ·rename_i e hu;obtain ⟨hzi,hk⟩:=Ax hk;obtain ⟨i,z,hi,hz,hzs,hsz⟩:=MN hzi;cases hit:BP P tx
  rotate_left
  ·rw [hit] at hk;simp only [cond_true] at hk
   obtain ⟨ki,htx⟩:∃k,P.underlying tx=some (.int k):=by
    unfold BP at hit;split at hit
    ·exact ⟨_,by assumption⟩
    ·cases hit
   unfold V3 at hk;obtain ⟨kx,n,hx,hk⟩:=Dp hk;obtain ⟨zz,n',c',hk,hp⟩:=Gt hk;obtain ⟨hb,hk⟩:=Ax hk;simp only [Bool.and_eq_true,decide_eq_true_eq] at hb;obtain ⟨⟨⟨⟨⟨hzz,hdN⟩,hdn⟩,hn0⟩,hby⟩,hnm⟩:=hb;have hdN:d<N:=Nat.lt_of_succ_le (Nat.le_of_ble_eq_true hdN);have hdn:s.hp d=none:=by simpa using hdn
   have hdOk:He N (some d)=true:=by simp [He,Nat.blt];omega
   have hbytes:((P.info? e).map (·.bytes)).getD 0=i.bytes:=by rw [hi];rfl
   rw [hbytes] at hby;rw [hsz] at hk;have hax:=Cx h hx;rcases Ia hp hbv with ⟨hab,_⟩|⟨_,_,_,hzf,_⟩|⟨_,_,_,hzf,_⟩
   ·refine ⟨_,hk,fun next Q hn=>?_⟩
    by_cases hm0:n=0
    ·subst hm0;have hr:=EV (P:=P) (w:=w) (t:=t) (tx:=tx) (ty:=o.type) (ts:=ts) (kx:=kx) hu htx hi;rw [←hab,←hax] at hr;refine run hr next Q (hn _ _ (Cz β d none) ?_);rw [hab];refine h.stepR (d:=some d) (nw:=[(d,.ar false [])]) (β':=Cz β d none) hdOk (by simp [B9,hdn]) ⟨rfl,rfl,rfl,Cb.refl _ _,fun j hj=>Av _ _ (by rintro rfl;exact hj hdn),?_,?_,?_,?_,?_,.inl ⟨Az _ _ _,rfl,rfl,rfl⟩,?_⟩
     ·intro j bx hm;simp at hm;rw [hm.2];trivial
     ·intro j bx hm;simp at hm;obtain ⟨rfl,rfl⟩:=hm;exact .inl ⟨Az _ _ _,rfl⟩
     ·intro j bx k q hm hq;simp at hm;obtain ⟨rfl,rfl⟩:=hm;rw [Az] at hq;cases hq
     ·intro j bx j' bx' k q q' hm hm' _ _;simp at hm hm';rw [hm.1,hm'.1]
     ·intro j cells hm;simp at hm
     ·intro j hj;simp [Bx,Cf,Ay] at hj;subst hj;exact .inr ⟨.ar false [],by simp⟩
    ·have hr:=IJ (P:=P) (w:=w) (t:=t) (tx:=tx) (ty:=o.type) (ts:=ts) (kx:=kx) hu htx hi hz (n:=n) (by omega) hby hnm
     rw [←hab,←hax] at hr;refine run hr next Q (hn _ _ (Cz β d (some (w.heap.size,0))) ?_);have hge:n.toNat<=grownCap w n.toNat 0 e:=grownCap_ge w n.toNat 0 e;generalize hcs:((if n.toNat*i.size=0 then #[] else Builtin.zeroCells z.cells n.toNat)++Builtin.zeroCells z.cells (grownCap w n.toNat 0 e-n.toNat))=cs
     have hgb:Hg w (w.drew.alloc (.cells cs e)) cs e:=
      ⟨rfl,rfl,rfl,fun k hk=>Below.heap_alloc w.drew _ k hk,by show (w.heap.push _).size=_;simp,(0,0),by show (w.heap.push _)[w.heap.size]?=_;simp,.inl rfl⟩
     have hasz:cs.size=grownCap w n.toNat 0 e*i.size:=by
      rw [←hcs];by_cases hs0:n.toNat*i.size=0
      ·rw [if_pos hs0]
       have hi0:i.size=0:=by
        rcases Nat.mul_eq_zero.1 hs0 with h|h
        ·omega
        ·exact h
       simp [size_zeroCells,hzs,hi0]
      ·rw [if_neg hs0];simp only [Array.size_append,size_zeroCells,hzs,←Nat.add_mul]
       congr 1
       omega
     refine h.stepR (d:=some d) (nw:=[(d,.ar false [])]) hdOk (by simp [B9,hdn]) (Sn hgb hdn trivial ?_ (fun cells hx=>by cases hx) ?_ (by intro j hj;simp [Bx,Cf,Ay] at hj;exact .inr hj))
     ·refine .inr ⟨w.heap.size,0,Az _ _ _,fun j p hj=>by simp at hj,fun _ j _ hj=>?_,(fun q=>by cases q)⟩
      rw [hgb.bsz] at hj;exact hgb.frozen hj
     ·refine .inr ⟨w.heap.size,0,0,grownCap w n.toNat 0 e,Az _ _ _,rfl,.inl rfl,hge,?_,by rw [hgb.size];omega⟩
      rw [hgb.bsz,hasz];omega
   ·rw [hzf] at hzz;cases hzz
   ·rw [hzf] at hzz;cases hzz
  rw [hit] at hk;simp only [cond_false] at hk;have hbytes:((P.info? e).map (·.bytes)).getD 0=i.bytes:=by rw [hi];rfl
  obtain ⟨⟨dx,hdx,hdxi⟩,m,new,news,hk,hs⟩:=KC h hk (by
   intro m new hk;split at hk
   ·split at hk
    ·obtain ⟨hb,_⟩:=Ax hk;simp only [Bool.and_eq_true,decide_eq_true_eq] at hb;have he:=Nat.eq_of_beq_eq_true hb.1.1.1.1.1.1.1;rw [←he];exact hb.1.1.2
    ·cases hk
   ·obtain ⟨zz,n',c',hk,_⟩:=Gt hk;obtain ⟨hb,_⟩:=Ax hk;simp only [Bool.and_eq_true,decide_eq_true_eq] at hb;exact hb.1.1.2)
  rw [hsz] at hs;have hnl:new.length=news.length:=hs.rep.len;split at hk
  ·rename_i id es off n eb;rw [eb] at hbv hbr;split at hk
   ·rename_i cc h0;obtain ⟨hb,hk2⟩:=Ax hk;simp only [Bool.and_eq_true,decide_eq_true_eq] at hb;obtain ⟨⟨⟨⟨⟨⟨⟨hes,hoff⟩,hdN⟩,hdn⟩,hncl⟩,hnewl⟩,hby⟩,hnm⟩:=hb;have hes:=Nat.eq_of_beq_eq_true hes;have hoff:=Nat.eq_of_beq_eq_true hoff;have hdN:d<N:=Nat.lt_of_succ_le (Nat.le_of_ble_eq_true hdN);have hdn:s.hp d=none:=by simpa using hdn
    subst hoff;rw [hsz] at hes;subst hes;rw [hbytes] at hby;have hnews:news.length=m*i.size:=by omega
    have hidp:s.hp id≠none:=by rw [h0];simp
    have hbox:=h.box id _ h0;refine ⟨_,hk2,fun next Q hn=>?_⟩
    have grow:∀(ad:Option Addr) (cap:Nat) (olds:List Value),a.eval b=.slice ad n cap->Bk (A7 w (C1 s.hp β Y)) (cc.take (n*i.size)) olds->(∀u∈olds,u.oneCell'=true)->olds.length=n*i.size ->
      ((ad=none∧olds=[])∨∃p,ad=some p∧olds.length=n*i.size∧∀(j:Nat) v,olds[j]?=some v->w.cell? (p.add j)=some v)->cap<n+m->o.wp P a w next Q:=by
     intro ad cap olds hab holds h1 hol hold hcap;have hr:=Nr (P:=P) (w:=w) (t:=t) (tx:=tx) (ty:=o.type) (ts:=ts) hu hdx hdxi hi hz hs hold hcap hby hnm;rw [←hab] at hr;refine run hr next Q (hn _ _ (Cz β d (some (w.heap.size,0))) ?_);have hge:n+m<=grownCap w (n+m) cap e:=grownCap_ge w (n+m) cap e
     have hgb:Hg w (w.drew.alloc (.cells (olds.toArray++news.toArray++Builtin.zeroCells z.cells (grownCap w (n+m) cap e-(n+m))) e)) (olds.toArray++news.toArray++Builtin.zeroCells z.cells (grownCap w (n+m) cap e-(n+m))) e:=
      ⟨rfl,rfl,rfl,fun k hk=>Below.heap_alloc w.drew _ k hk,by show (w.heap.push _).size=_;simp,(0,0),by show (w.heap.push _)[w.heap.size]?=_;simp,.inl rfl⟩
     have hasz:(olds.toArray++news.toArray++Builtin.zeroCells z.cells (grownCap w (n+m) cap e-(n+m))).size=grownCap w (n+m) cap e*i.size:=by
      simp only [Array.size_append,List.size_toArray,size_zeroCells,hzs,hol,hnews,←Nat.add_mul]
      congr 1
      omega
     have hbo:∀k y,some (w.heap.size,0)=some (k,y)->w.heap.size<=k∨∃q,β id=some (k,q):=by
      intro k y hh;simp at hh;exact .inl (by omega)
     refine h.move h0 hdn hdN rfl rfl rfl (by rw [hgb.size];omega) (fun k hk _=>hgb.old k hk) hgb.step.bs (fun k y hh=>⟨by simp at hh;rw [hgb.size];omega,hbo k y hh⟩) (fun k y hh hlt=>by simp at hh;omega)
      (fun k y _ hlt j _=>⟨World.cell?_of_block (w:=w) (hgb.old k hlt),World.frozen?_of_block (w:=w) (hgb.old k hlt)⟩) ?_ ?_ (by intro j hj;simpa [Bx,Cf,Ay] using hj)
     ·refine .inr ⟨w.heap.size,0,Az _ _ _,MX hgb (Abd h0 hdn hbo) holds hs.rep h1 hs.one,fun _ j _ hj=>?_,(fun q=>by cases q)⟩
      rw [hgb.bsz] at hj;exact hgb.frozen hj
     ·refine .inr ⟨w.heap.size,0,0,grownCap w (n+m) cap e,Az _ _ _,rfl,.inl rfl,hge,?_,by rw [hgb.size];omega⟩
      rw [hgb.bsz,hasz];omega
    rcases hbv with ⟨hβ,_,rfl,hab⟩|⟨bb,ob,y,cap,hβ,hab,hy,hncap,hcap,hblt⟩
    ·rcases hbox with ⟨_,rfl⟩|⟨b',o',hb1,_⟩
     ·by_cases hm0:m=0
      ·subst hm0;have hr:=Nq (P:=P) (w:=w) (t:=t) (tx:=tx) (ty:=o.type) (ts:=ts) hu hdx hdxi hi hs;rw [←hab] at hr;have hnew0:new=[]:=List.eq_nil_of_length_eq_zero (by omega)
       subst hnew0;refine run hr next Q (hn _ _ (Cz β d none) ?_);rw [hab];refine h.move h0 hdn hdN rfl rfl rfl (Nat.le_refl _) (fun _ _ _=>rfl) (fun _ _=>Nat.le_refl _) (fun k q hh=>by cases hh) (fun k q hh=>by cases hh) (fun _ _ _ _ _ _=>⟨rfl,rfl⟩) ?_ ?_ (by intro j hj;simpa [Bx,Cf,Ay] using hj)
       ·exact .inl ⟨Az _ _ _,by simp⟩
       ·exact .inl ⟨Az _ _ _,rfl,rfl,rfl⟩
      ·exact grow none 0 [] hab (by simp [Bk]) (by simp) (by simp) (.inl ⟨rfl,rfl⟩) (by omega)
     ·rw [hβ] at hb1;cases hb1
    ·rcases hbox with ⟨hb1,_⟩|⟨b',o',hb1,hb2,hb3,_⟩
     ·rw [hβ] at hb1;cases hb1
     rw [hβ] at hb1;simp at hb1;obtain ⟨rfl,rfl⟩:=hb1;have hy:y=ob:=by rcases hy with hy|⟨_,hq⟩<;>omega
     subst hy;by_cases hroom:n+m<=cap
     ·have hfit:y+n*i.size+news.length<=bsz w bb:=by
       have h5:n*i.size+m*i.size<=cap*i.size:=by rw [←Nat.add_mul];exact Nat.mul_le_mul_right _ hroom
       omega
      have hcell:∀k,k<news.length->(w.cell? ⟨bb,y+n*i.size+k,none⟩).isSome=true:=fun k hk=>Ahp (by omega)
      have hr:=IB (P:=P) (w:=w) (t:=t) (tx:=tx) (ty:=o.type) (ts:=ts) (b:=bb) (ob:=y) (n:=n) (cap:=cap) hu hdx hdxi hi hs hnews hcell (fun k hk=>hb3 rfl _ (by omega) (by omega)) hroom
      rw [←hab] at hr;have hw:=Ex.setCells bb news (y+n*i.size) w
      have hbo:∀k q,some (bb,y)=some (k,q)->w.heap.size<=k∨∃q',β id=some (k,q'):=by
       intro k q hh;simp at hh;obtain ⟨rfl,rfl⟩:=hh;exact .inr ⟨_,hβ⟩
      refine run hr next Q (hn _ _ (Cz β d (some (bb,y))) ?_)
      have hst:Cb (C1 s.hp β Y) w (w.setCells bb (y+n*i.size) news):=by
       have hAb:C1 s.hp β Y bb:=.inl ⟨id,y,by rw [h0];trivial,hβ⟩
       exact ⟨by rw [hw.size];exact Nat.le_refl _,fun k _ hk=>hw.other k (fun e=>hk (e ▸ hAb)),fun k _=>by
        by_cases e:k=bb
        ·subst e;rw [hw.bs];exact Nat.le_refl _
        ·unfold bsz;rw [hw.other k e];exact Nat.le_refl _⟩
      refine h.move h0 hdn hdN hw.os hw.tape hw.output (by rw [hw.size];exact Nat.le_refl _) (fun k _ hq=>hw.other k (by rintro rfl;exact hq _ hβ)) hst.bs (fun k q hh=>⟨by simp at hh;rw [hw.size];omega,hbo k q hh⟩) (fun k q hh _=>by rw [hβ];exact hh)
       (fun k q hh _ j hj=>by
        rw [hβ] at hh;cases hh;exact ⟨World.cell?_setCells_out bb _ _ w ⟨bb,j,none⟩ (fun _ _=>by show j<y+n*i.size∨y+n*i.size+_<=j;omega),hw.frz j⟩) ?_ ?_ (by intro j hj;simpa [Bx,Cf,Ay] using hj)
      ·refine .inr ⟨bb,y,Az _ _ _,fun j p hj=>?_,fun _ j hj hj'=>?_,(fun q=>by cases q)⟩
       ·rw [D6];by_cases hjn:j<n*i.size
        ·rw [List.getElem?_append_left (by rw [List.length_take];omega),List.getElem?_take_of_lt hjn] at hj
         obtain ⟨u,hu',h5,ht⟩:=hb2 j p hj;rw [D6] at hu';refine ⟨u,?_,h5,ht.step hst (Abd h0 hdn hbo)⟩;rw [World.cell?_setCells_out bb _ _ w ⟨bb,y+j,none⟩ (fun _ _=>by show y+j<y+n*i.size∨y+n*i.size+_<=y+j;omega)]
         exact hu'
        ·rw [List.getElem?_append_right (by rw [List.length_take];omega),List.length_take,Nat.min_eq_left hncl] at hj
         obtain ⟨u,hu',ht⟩:=hs.rep.get hj
         have hlt:j-n*i.size<news.length:=by
          rcases Nat.lt_or_ge (j-n*i.size) news.length with h|h
          ·exact h
          ·rw [List.getElem?_eq_none h] at hu';cases hu'
         refine ⟨u,?_,hs.one u (List.mem_of_getElem? hu'),ht.step hst (Abd h0 hdn hbo)⟩;have:=World.cell?_setCells_in bb news (y+n*i.size) w hcell (j-n*i.size) hlt;rw [show y+j=y+n*i.size+(j-n*i.size) from by omega,this]
         rw [List.getElem?_eq_getElem hlt] at hu';exact hu'
       ·rw [hw.bs] at hj';rw [hw.frz];exact hb3 rfl j hj hj'
      ·exact .inr ⟨bb,y,y,cap,Az _ _ _,rfl,.inl rfl,hroom,by rw [hw.bs];omega,by rw [hw.size];exact hblt⟩
     ·-- the old cells
      have hob:∀(j:Nat) p,(cc.take (n*i.size))[j]?=some p->∃v,w.cell? ⟨bb,y+j,none⟩=some v∧v.oneCell'=true∧A7 w (C1 s.hp β Y) p v:=by
       intro j p hj;rw [List.getElem?_take] at hj;split at hj
       ·obtain ⟨v,hv,h5,ht⟩:=hb2 j p hj;rw [D6] at hv;exact ⟨v,hv,h5,ht⟩
       ·cases hj
      have hlen:(cc.take (n*i.size)).length=n*i.size:=by rw [List.length_take];omega
      refine grow _ cap ((cc.take (n*i.size)).mapIdx fun j _=>(w.cell? ⟨bb,y+j,none⟩).getD undef) hab ?_ ?_ (by simp only [List.length_mapIdx];exact hlen) (.inr ⟨_,rfl,by simp only [List.length_mapIdx];exact hlen,fun j v hj=>?_⟩) (by omega)
      ·refine Bk.of_at (by simp) fun j p v hp hv=>?_
       obtain ⟨u,hu',_,ht⟩:=hob j p hp;rw [List.getElem?_mapIdx,hp,Option.map_some,hu'] at hv;simp at hv;subst hv;exact ht
      ·intro v hv;obtain ⟨j,hj⟩:=List.mem_iff_getElem?.1 hv;rw [List.getElem?_mapIdx] at hj;cases hp:(cc.take (n*i.size))[j]? with
       |none=>rw [hp] at hj;cases hj
       |some p=>
        obtain ⟨u,hu',h5,_⟩:=hob j p hp;rw [hp,Option.map_some,hu'] at hj;simp at hj;subst hj;exact h5
      ·rw [List.getElem?_mapIdx] at hj;cases hp:(cc.take (n*i.size))[j]? with
       |none=>rw [hp] at hj;cases hj
       |some p=>
        obtain ⟨u,hu',h5,_⟩:=hob j p hp;rw [hp,Option.map_some,hu'] at hj;simp at hj;subst hj;rw [D6];exact hu'
   ·cases hk
  ·obtain ⟨zz,n',c',hk,hp⟩:=Gt hk;obtain ⟨hb,hk⟩:=Ax hk;simp only [Bool.and_eq_true,decide_eq_true_eq] at hb;obtain ⟨⟨⟨⟨⟨hzz,hdN⟩,hdn⟩,hnewl⟩,hby⟩,hnm⟩:=hb;have hdN:d<N:=Nat.lt_of_succ_le (Nat.le_of_ble_eq_true hdN);have hdn:s.hp d=none:=by simpa using hdn
   have hdOk:He N (some d)=true:=by simp [He,Nat.blt];omega
   rw [hsz] at hnewl hk;rw [hbytes] at hby;have hnews:news.length=m*i.size:=by omega
   rcases Ia hp hbv with ⟨hab,_⟩|⟨_,_,_,hzf,_⟩|⟨_,_,_,hzf,_⟩
   ·refine ⟨_,hk,fun next Q hn=>?_⟩
    by_cases hm0:m=0
    ·subst hm0;have hr:=Nq (P:=P) (w:=w) (t:=t) (tx:=tx) (ty:=o.type) (ts:=ts) hu hdx hdxi hi hs;rw [←hab] at hr;have hnew0:new=[]:=List.eq_nil_of_length_eq_zero (by omega)
     subst hnew0;refine run hr next Q (hn _ _ (Cz β d none) ?_);rw [hab];refine h.stepR (d:=some d) (nw:=[(d,.ar false [])]) (β':=Cz β d none) hdOk (by simp [B9,hdn]) ⟨rfl,rfl,rfl,Cb.refl _ _,fun j hj=>Av _ _ (by rintro rfl;exact hj hdn),?_,?_,?_,?_,?_,.inl ⟨Az _ _ _,rfl,rfl,rfl⟩,?_⟩
     ·intro j bx hm;simp at hm;rw [hm.2];trivial
     ·intro j bx hm;simp at hm;obtain ⟨rfl,rfl⟩:=hm;exact .inl ⟨Az _ _ _,rfl⟩
     ·intro j bx k q hm hq;simp at hm;obtain ⟨rfl,rfl⟩:=hm;rw [Az] at hq;cases hq
     ·intro j bx j' bx' k q q' hm hm' _ _;simp at hm hm';rw [hm.1,hm'.1]
     ·intro j cells hm;simp at hm
     ·intro j hj;simp [Bx,Cf,Ay] at hj;subst hj;exact .inr ⟨.ar false [],by simp⟩
    ·have hr:=Nr (P:=P) (w:=w) (t:=t) (tx:=tx) (ty:=o.type) (ts:=ts) (ad:=none) (n:=0) (cap:=0) (olds:=[]) hu hdx hdxi hi hz hs (.inl ⟨rfl,rfl⟩) (by omega) (by rw [Nat.zero_add];exact hby) (by omega)
     rw [←hab] at hr;refine run hr next Q (hn _ _ (Cz β d (some (w.heap.size,0))) ?_);have hge:0+m<=grownCap w (0+m) 0 e:=grownCap_ge w (0+m) 0 e
     have hgb:Hg w (w.drew.alloc (.cells (([]:List Value).toArray++news.toArray++Builtin.zeroCells z.cells (grownCap w (0+m) 0 e-(0+m))) e)) (([]:List Value).toArray++news.toArray++Builtin.zeroCells z.cells (grownCap w (0+m) 0 e-(0+m))) e:=
      ⟨rfl,rfl,rfl,fun k hk=>Below.heap_alloc w.drew _ k hk,by show (w.heap.push _).size=_;simp,(0,0),by show (w.heap.push _)[w.heap.size]?=_;simp,.inl rfl⟩
     have hasz:(([]:List Value).toArray++news.toArray++Builtin.zeroCells z.cells (grownCap w (0+m) 0 e-(0+m))).size=grownCap w (0+m) 0 e*i.size:=by
      simp only [Array.size_append,List.size_toArray,size_zeroCells,hzs,hnews,List.length_nil,←Nat.add_mul];rw [Nat.zero_add (m*i.size),←Nat.add_mul]
      congr 1
      omega
     refine h.stepR (d:=some d) (nw:=[(d,.ar false new)]) hdOk (by simp [B9,hdn]) (Sn hgb hdn trivial ?_ (fun cells hx=>by cases hx) ?_ (by intro j hj;simp [Bx,Cf,Ay] at hj;exact .inr hj))
     ·refine .inr ⟨w.heap.size,0,Az _ _ _,?_,fun _ j _ hj=>?_,(fun q=>by cases q)⟩
      ·exact MX (pre:=[]) hgb (Adq hdn) trivial hs.rep (by simp) hs.one
      ·rw [hgb.bsz] at hj;exact hgb.frozen hj
     ·refine .inr ⟨w.heap.size,0,0,grownCap w (0+m) 0 e,Az _ _ _,by rw [Nat.zero_add],.inl rfl,by omega,?_,by rw [hgb.size];omega⟩
      rw [hgb.bsz,hasz];omega
   ·rw [hzf] at hzz;cases hzz
   ·rw [hzf] at hzz;cases hzz
 ·cases hk
theorem Aba (h : B4 N w0 X0 Y β s a w) {c : Call} (ho : o.op = .call c) (hc : c.callee = .builtin .copy) {b x : Operand} (hargs : c.args.toList = [b, x]) {t tx : TypeId} {ts : List TypeId} (htys : c.argTypes.toList = t :: tx :: ts)
    {K : St -> Option R} (hk : QF P N s o.dst t tx (Cm s.tm b) (Cm s.tm x) K = some r) :
    ∃ s', K s' = some r ∧ ∀ (next : Act -> World -> Prop) (Q : Exit -> Act -> World -> Prop), (∀ a' w' β', B4 N w0 X0 Y β' s' a' w' -> next a' w') -> o.wp P a w next Q := by
  have hcargs : c.args = #[b, x] := by
    have : c.args = ([b, x] : List Operand).toArray := by rw [← hargs]
    exact this
  have hctys : c.argTypes = (t :: tx :: ts).toArray := by rw [← htys]
  have run : ∀ {v : Value} {w1 : World}, (Builtin.copy_ (t :: tx :: ts).toArray o.type #[a.eval b, a.eval x]).run P w = .ok v w1 -> ∀ (next : Act -> World -> Prop) (Q : Exit -> Act -> World -> Prop), next (a.put o.dst v) w1 -> o.wp P a w next Q := by
    intro v w1 hr next Q hn
    unfold Oper.wp execOp
    rw [ho]
    simp only [resolve, hc, invoke, builtin, Sem.run_bind, Sem.run_pure, Result.andThen_ok, hcargs, hctys]
    have : (#[b, x] : Array Operand).map a.eval = #[a.eval b, a.eval x] := by simp
    rw [this, hr]
    exact hn
  have hbv := Df h b
  unfold QF at hk
  split at hk
  · rename_i e hu
    obtain ⟨hzi, hk⟩ := Ax hk
    simp only [Bool.and_eq_true] at hzi
    obtain ⟨hinf, hdOk⟩ := hzi
    obtain ⟨i, hi⟩ : ∃ i, P.info? e = some i := Option.isSome_iff_exists.1 hinf
    have hsz : Bi P e = i.size := by unfold Bi; rw [hi]; rfl
    have h1c : ∀ (m : Nat) (new : List PV), (match Cm s.tm b with
        | .view id es off n =>
          match s.hp id with
          | some (.ar false c) => Au (Nat.beq es (Bi P e) && decide (off + n * es <= c.length) && decide (new.length = m * es))
              (Aa (min m n) fun k => Aa (Bd c (new.take (k * es)) off) fun c => K ⟨Bp s.tm o.dst (.sc (.int .i64 k)), Cz s.hp id (some (.ar false c))⟩)
          | _ => none
        | _ => none) = some r -> new.length = m * Bi P e := by
      intro m new hk
      split at hk
      · split at hk
        · obtain ⟨hb, _⟩ := Ax hk
          simp only [Bool.and_eq_true, decide_eq_true_eq] at hb
          rw [← Nat.eq_of_beq_eq_true hb.1.1]; exact hb.2
        · cases hk
      · cases hk
    obtain ⟨_, m, new, news, hk, hs⟩ := KC h hk h1c
    split at hk
    · rename_i id es off n hb
      rw [hb] at hbv
      split at hk
      · rename_i cc h0
        obtain ⟨hb, hk⟩ := Ax hk
        simp only [Bool.and_eq_true, decide_eq_true_eq] at hb
        obtain ⟨⟨hes, hle⟩, hnl⟩ := hb
        have hes := Nat.eq_of_beq_eq_true hes
        subst hes
        rw [hsz] at hk hs hle hnl hbv
        have hnews : news.length = m * i.size := by rw [← hs.rep.len]; exact hnl
        have hkm : min m n * i.size <= m * i.size := Nat.mul_le_mul_right _ (Nat.min_le_left _ _)
        have hkn : min m n * i.size <= n * i.size := Nat.mul_le_mul_right _ (Nat.min_le_right _ _)
        have hk' : K ⟨Bp s.tm o.dst (.sc (.int .i64 ((min m n : Nat) : Int))), Cz s.hp id (some (.ar false (Bd cc (new.take (min m n * i.size)) off)))⟩ = some r := hk
        refine ⟨_, hk', fun next Q hn => ?_⟩
        have hput : ∀ {β' : Bt} {hp' : Nat -> Option Bn} {w' : World}, B4 N w0 X0 Y β' ⟨s.tm, hp'⟩ a w' -> B4 N w0 X0 Y β' ⟨Bp s.tm o.dst (.sc (.int .i64 ((min m n : Nat) : Int))), hp'⟩ (a.put o.dst (goInt ((min m n : Nat) : Int))) w' :=
          fun hh => hh.put hdOk (A7.sc _) (fun _ hx => by cases hx)
        have hnone : new.take (min m n * i.size) = [] -> Cz s.hp id (some (.ar false (Bd cc (new.take (min m n * i.size)) off))) = s.hp := by
          intro e
          rw [e]
          refine CY _ ?_
          rw [h0]
          simp [Bd]
        have nothing : min m n * i.size = 0 -> ∀ (ad : Option Addr) (cap : Nat), a.eval b = .slice ad n cap -> o.wp P a w next Q := by
          intro e ad cap hab
          have hr := XH (P := P) (w := w) (w1 := w) (t := t) (ty := o.type) (ts := tx :: ts) (ad := ad) (n := n) (cap := cap) hu hi hs (by rw [e]; cases ad <;> simp [storeCells])
          rw [← hab] at hr
          refine run hr next Q (hn _ _ β (hput ?_))
          rw [hnone (by rw [e, List.take_zero])]
          exact h
        rcases hbv with ⟨hβ, _, rfl, hab⟩ | ⟨bb, ob, y, cap, hβ, hab, hy, hncap, hcap, hblt⟩
        · exact nothing (by simp) none 0 hab
        · by_cases hm0 : min m n * i.size = 0
          · exact nothing hm0 _ _ hab
          rcases h.box id _ h0 with ⟨hb1, _⟩ | ⟨b', o', hb1, hb2, hb3, _⟩
          · rw [hβ] at hb1; cases hb1
          rw [hβ] at hb1
          simp at hb1
          obtain ⟨rfl, rfl⟩ := hb1
          have hn0 : n ≠ 0 := by rintro rfl; simp at hm0
          have hy : y = ob + off := by rcases hy with hy | ⟨hq, _⟩; · exact hy
                                       · exact absurd hq hn0
          subst hy
          have hlt : (news.take (min m n * i.size)).length = min m n * i.size := by rw [List.length_take, hnews]; omega
          have hcell : ∀ k, k < (news.take (min m n * i.size)).length -> (w.cell? ⟨bb, ob + off + k, none⟩).isSome = true := by
            intro k hk
            obtain ⟨v, hv, _⟩ := hb2 (off + k) _ (List.getElem?_eq_getElem (by omega))
            rw [D6] at hv
            rw [Nat.add_assoc, hv]; rfl
          have hfr : ∀ k, k < (news.take (min m n * i.size)).length -> w.frozen? ⟨bb, ob + off + k, none⟩ = false := fun k hk => by
            obtain ⟨u, hu⟩ := Option.isSome_iff_exists.1 (hcell k hk)
            exact hb3 rfl _ (by omega) (KZ hu)
          have h1 : ∀ u ∈ news.take (min m n * i.size), u.oneCell' = true := fun u hu => hs.one u (List.mem_of_mem_take hu)
          have h3 := run_storeCells_cells (P := P) bb (ob + off) (news.take (min m n * i.size)) 0 w (fun k hk => by simpa using hcell k hk) (fun k hk => by simpa using hfr k hk) h1
          have hr := XH (P := P) (w := w) (t := t) (ty := o.type) (ts := tx :: ts) (ad := some ⟨bb, ob + off, none⟩) (n := n) (cap := cap) hu hi hs h3
          rw [← hab] at hr
          simp only [Nat.add_zero] at hr
          refine run hr next Q (hn _ _ β (hput ?_))
          refine h.write h0 trivial trivial hβ (Ex.setCells bb _ _ w) ?_ (fun cells hx => by cases hx) (fun _ hx => by cases hx) (fun j hj => hj) (fun j hj => by
            refine World.cell?_setCells_out bb _ _ w ⟨bb, j, none⟩ (fun _ _ => ?_)
            have hj : ¬ (ob <= j) := hj
            show j < ob + off ∨ ob + off + _ <= j
            omega)
          have hst : Cb (C1 s.hp β Y) w (w.setCells bb (ob + off) (news.take (min m n * i.size))) := by
            have hw := Ex.setCells bb (news.take (min m n * i.size)) (ob + off) w
            have hAb : C1 s.hp β Y bb := .inl ⟨id, ob, by rw [h0]; trivial, hβ⟩
            exact ⟨by rw [hw.size]; exact Nat.le_refl _, fun k _ hk => hw.other k (fun e => hk (e ▸ hAb)), fun k _ => by
              by_cases e : k = bb
              · subst e; rw [hw.bs]; exact Nat.le_refl _
              · unfold bsz; rw [hw.other k e]; exact Nat.le_refl _⟩
          have hll : (new.take (min m n * i.size)).length = min m n * i.size := by rw [List.length_take, hnl]; omega
          refine .inr ⟨bb, ob, hβ, fun j p hj => ?_, fun _ j hj hj' => ?_, (fun x => by cases x)⟩
          · rw [D6]
            rcases Uc (by omega) hj with ⟨h3, h4, h5⟩ | ⟨h3, h5⟩
            · have hlt2 : j - off < min m n * i.size := by omega
              rw [List.getElem?_take_of_lt hlt2] at h5
              obtain ⟨u, hu, hcu⟩ := hs.rep.get h5
              have hlt' : j - off < (news.take (min m n * i.size)).length := by omega
              refine ⟨u, ?_, hs.one u (List.mem_of_getElem? hu), hcu.step hst (fun _ _ x => x)⟩
              have := World.cell?_setCells_in bb (news.take (min m n * i.size)) (ob + off) w hcell (j - off) hlt'
              rw [show ob + j = ob + off + (j - off) from by omega, this]
              rw [← List.getElem?_eq_getElem hlt', List.getElem?_take_of_lt hlt2]
              exact hu
            · obtain ⟨v, hv, h6, hcv⟩ := hb2 j p h5
              rw [D6] at hv
              refine ⟨v, ?_, h6, hcv.step hst (fun _ _ x => x)⟩
              rw [World.cell?_setCells_out bb _ _ w ⟨bb, ob + j, none⟩ (fun _ _ => by show ob + j < ob + off ∨ ob + off + _ <= ob + j; omega)]
              exact hv
          · rw [(Ex.setCells bb _ _ w).bs] at hj'
            rw [(Ex.setCells bb _ _ w).frz]
            exact hb3 rfl j hj hj'
      · cases hk
    · cases hk
  · cases hk
theorem Aa6 (h:B4 N w0 X0 Y β s a w){G:Vq}(hNG:IM P G w0 X0){C:Hs}{call:Ah}(hcall:∀f args res,call f args=some res->C9 G P f args res){K:St->Option R}(hk:X1 C P N call s o K=some r):
  ∃s',K s'=some r∧∀(next:Act->World->Prop) (Q:Exit->Act->World->Prop),(∀a' w' β',B4 N w0 X0 Y β' s' a' w'->next a' w')->o.wp P a w next Q:=by
 unfold X1 at hk;split at hk
 ·rename_i t x y ho;obtain ⟨hd,hk⟩:=Ax hk;exact YJ h ho (by simpa using hd) hk
 ·rename_i c ho;split at hk
  ·rename_i hc;obtain ⟨d,hd,hk1⟩:=Dd hk;obtain ⟨b,xs,hxs,hk2⟩:=Be hk1;obtain ⟨x,ys,hys,hk3⟩:=Be hk2;obtain ⟨hnil,hk4⟩:=Dt hk3;obtain ⟨t,us,hus,hk5⟩:=Be hk4;obtain ⟨tx,vs,hvs,hk6⟩:=Be hk5;rw [hys,hnil] at hxs;rw [hvs] at hus;exact SY h ho hc hd hxs hus hk6
  ·rename_i hc;obtain ⟨b,xs,hxs,hk2⟩:=Be hk;obtain ⟨x,ys,hys,hk3⟩:=Be hk2;obtain ⟨hnil,hk4⟩:=Dt hk3;obtain ⟨t,us,hus,hk5⟩:=Be hk4;obtain ⟨tx,vs,hvs,hk6⟩:=Be hk5;rw [hys,hnil] at hxs;rw [hvs] at hus;exact Aba h ho hc hxs hus hk6
  ·rename_i f hc;exact YD h hNG hcall ho hc hk
  ·cases hk
 ·cases hk
theorem KM (h:B4 N w0 X0 Y β s a w){G:Vq}(hNG:IM P G w0 X0){C:Hs}{call:Ah}(hcall:∀f args res,call f args=some res->C9 G P f args res){K:St->Option R}(hk:YU C P N call o s K=some r):
  ∃s',K s'=some r∧∀(next:Act->World->Prop) (Q:Exit->Act->World->Prop),(∀a' w' β',B4 N w0 X0 Y β' s' a' w'->next a' w')->o.wp P a w next Q:=by
 unfold YU at hk;cases hm:Ul C P o.op
 ·rw [hm] at hk;exact Aap h hNG hcall hk
 ·rw [hm] at hk;exact Aa6 h hNG hcall hk
end
end
end Go.Proofs.YtdjihiphpgkfmaaGreatDoor.Pv
