/-
  The proof of MetadataForward, part 2.
-/
import Derived.Test.YtpogefhpiaaliaaDoorFA
import Derived.Laws.Append
import Derived.IntWalk
import Derived.Laws.AppendOwn
import Derived.Laws.IdiomCopy
set_option linter.unusedSimpArgs false
set_option linter.unusedVariables false
namespace Go.Proofs.YtpogefhpiaaliaaDoor.Pv
section
open Go.RowKit
def Jf (w:World)(A:Nat->Prop)(own:Option (Nat × Nat)) (p:PV)(u:Value):Prop:=
 match p with
 |.own es n c=>(own=none∧n=0∧c=[]∧∃ad,u=.slice ad 0 0) ∨
   ∃b o cap,own=some (b,o)∧u=.slice (some ⟨b,o,none⟩) n cap∧n<=cap∧o+cap*es<=bsz w b∧b<w.heap.size∧TN w A ⟨b,o,none⟩ c∧∀j,o<=j->j<bsz w b->w.frozen? ⟨b,j,none⟩=false
 |p=>Aw w A p u
def G6 (w:World)(A:Nat->Prop)(own:Bt):Nat->List PV->List Value->Prop
 |_,[],[]=>True
 |j,p::ps,u::us=>Jf w A (own j) p u∧G6 w A own (j+1) ps us
 |_,_,_=>False
def Ave (w:World)(A:Nat->Prop)(own:Bt)(j b o:Nat)(cs:List PV):Prop:=
 ∃vs,G6 w A own j cs vs∧(∀(k:Nat) v,vs[k]?=some v->w.cell? ⟨b,o+k,none⟩=some v)∧∀k,k<cs.length->w.frozen? ⟨b,o+k,none⟩=false
def Ati (w:World)(A:Nat->Prop)(own:Bt)(z j:Nat)(p:PV)(u:Value):Prop:=
 match p with
 |.agg cs=>∃vs,u=.agg ⟨vs⟩∧G6 w A own j cs vs
 |.pbox cs=>∃b o,own j=some (b,o)∧z<=b∧u=.pointer (some ⟨b,o,none⟩)∧Ave w A own (j+1) b o cs
 |p=>Jf w A (own j) p u
def plc:PV->Nat
 |.pbox cs=>1+cs.length
 |p=>(cellsOf p).length
def Ahb (w:World)(A:Nat->Prop)(own:Bt)(z:Nat):Nat->List PV->List Value->Prop
 |_,[],[]=>True
 |j,p::ps,u::us=>Ati w A own z j p u∧Ahb w A own z (j+plc p) ps us
 |_,_,_=>False
abbrev JI:=Nat->Nat->Option (Nat × Nat)
def BtX (bt:JI)(b:Nat):Prop:=∃i j o,bt i j=some (b,o)
def isA (p:PV):Prop:=AC p∨∃es n c,p=.own es n c
def GH (p:PV):Bool:=
 match p with
 |.pbox _=>true
 |.tup _=>true
 |_=>false
theorem Avi {p:PV}(h:isA p):GH p=false:=by
 rcases h with h|⟨_,_,_,rfl⟩
 ·cases p<;>first|rfl|exact h.elim
 ·rfl
def Ad7 (w:World)(A:Nat->Prop)(bt:Bt)(p:PV)(u:Value):Prop:=
 match p with
 |.pbox ps=>∃b o,bt 0=some (b,o)∧u=.pointer (some ⟨b,o,none⟩)∧(∀p∈ps,isA p)∧Ave w A bt 1 b o ps
 |.tup ps=>∃es n c,ps=[.own es n c]∧Jf w A (bt 0) (.own es n c) u
 |.agg cs=>∃vs,u=.agg ⟨vs⟩∧(∀p∈cs,isA p)∧G6 w A bt 1 cs vs
 |p=>isA p∧Jf w A (bt 1) p u
def Oq (w:World)(A:Nat->Prop)(bt:JI):Nat->List PV->List Value->Prop
 |_,[],[]=>True
 |i,p::ps,u::us=>Ad7 w A (bt i) p u∧Oq w A bt (i+1) ps us
 |_,_,_=>False
def A0e (bt:Bt)(p:PV)(b j:Nat):Prop:=
 (∃k o,bt (k+1)=some (b,o)∧o<=j)∨∃o ps,bt 0=some (b,o)∧o<=j∧((p=.pbox ps∧j<o+ps.length)∨p=.tup ps)
def WR (bt:JI)(args:List PV)(b j:Nat):Prop:=∃i p,args[i]?=some p∧A0e (bt i) p b j
def AK (w:World)(A:Nat->Prop)(own:Bt)(bt:JI):Nat->Nat->List PV->List (List PV)->Prop
 |_,_,[],r=>r=[]
 |j,i,p::zs,r=>
  match p with
  |.pbox ps=>
   match r with
   |[]=>False
   |cs::r=>(∃b o,bt i 0=some (b,o)∧cs.length=ps.length∧Ave w A own j b o cs)∧AK w A own bt (j+cs.length) (i+1) zs r
  |.tup _=>
   match r with
   |[]=>False
   |cs::r=>((bt i 0=none∧cs=[])∨∃b o,bt i 0=some (b,o)∧TN w A ⟨b,o,none⟩ cs∧∀k,o<=k->k<bsz w b->w.frozen? ⟨b,k,none⟩=false)∧AK w A own bt j (i+1) zs r
  |_=>AK w A own bt j (i+1) zs r
def RE (bt:JI)(own:Bt)(Y:Nat->Prop)(b:Nat):Prop:=(∃j o,own j=some (b,o))∨(∃i o,bt i 0=some (b,o))∨Y b
def Rv (vals:List PV):Nat:=(vals.map plc).sum
structure Out (w w':World) (Y:Nat->Prop) (bt:JI) (args:List PV) (own:Bt) (r:A5) (vs:List Value):Prop where
 os:w'.os=w.os
 tape:w'.tape=w.tape
 output:w'.output=w.output
 ext:Co (BtX bt) w w'
 rng:∀b j,b<w.heap.size->¬WR bt args b j->w'.cell? ⟨b,j,none⟩=w.cell? ⟨b,j,none⟩∧w'.frozen? ⟨b,j,none⟩=w.frozen? ⟨b,j,none⟩
 vals:Ahb w' (RE bt own Y) own w.heap.size 0 r.vals vs
 outs:AK w' (RE bt own Y) own bt (Rv r.vals) 0 args r.outs
 fresh:∀j b o,own j=some (b,o)->b<w'.heap.size∧(b<w.heap.size->(∃i k o',bt i (k+1)=some (b,o'))∧∀x,o<=x->WR bt args b x)
 inj:∀j j' b o o',own j=some (b,o)->own j'=some (b,o')->j=j'
def K5 (us:List Value):Value:=match us with|[u]=>u|us=>.tuple ⟨us⟩
def Ue (w:World)(Y:Nat->Prop)(p:PV)(u:Value):Prop:=
 match p with
 |.agg cs=>∃vs,u=.agg ⟨vs⟩∧Bw (fun c v=>AC c∧Aw w Y c v) cs vs
 |p=>AC p∧Aw w Y p u
structure Ins (w:World) (Y:Nat->Prop) (bt:JI) (args:List PV) (us:List Value):Prop where
 Ylt:∀b,Y b->b<w.heap.size
 Yx:∀b,Y b->¬BtX bt b
 lt:∀b,BtX bt b->b<w.heap.size
 inj:∀i j i' j' b o o',bt i j=some (b,o)->bt i' j'=some (b,o')->i=i'∧j=j'
 l0:∀i q,bt i 0=some q->∃p,args[i]?=some p∧GH p=true
 args:Oq w (fun b=>BtX bt b∨Y b) bt 0 args us
structure Us where
 bl:Nat->Prop
 ok:World->Prop
 stable:∀w w':World,(∀b,bl b->b<w.heap.size->w'.heap[b]?=w.heap[b]?)->ok w->ok w'
def C7 (G:Us)(P:Program)(f:FuncId)(args:List PV)(r:A5):Prop:=
 (∃fn,P.funcs[f]?=some fn∧fn.body.isSome=true)∧∀(w:World)(Y:Nat->Prop)(bt:JI)(us:List Value),Ins w Y bt args us->G.ok w->(∀b,G.bl b->b<w.heap.size∧¬BtX bt b) ->
  Calls P f us.toArray w fun e w'=>∃vs own,e=.returned (K5 vs)∧Out w w' Y bt args own r vs
def Xj:JI:=fun _ _=>none
theorem Pk (b:Nat):¬BtX Xj b:=by rintro⟨_,_,_,h⟩;cases h
theorem Nk {w:World}{A:Nat->Prop}{q:Option (Nat × Nat)} {p:PV}{u:Value}(hp:AC p)(h:Aw w A p u):Jf w A q p u:=by
 cases p<;>first|exact h|exact hp.elim
theorem JG {w:World}{A:Nat->Prop}{own:Bt}:∀{cs:List PV}{vs:List Value}{j:Nat},Bw (fun c v=>AC c∧Aw w A c v) cs vs->G6 w A own j cs vs
 |[],[],_,_=>trivial
 |_::_,_::_,_,h=>⟨Nk h.1.1 h.1.2,JG h.2⟩
 |[],_::_,_,h=>h.elim
 |_::_,[],_,h=>h.elim
theorem Alu {w:World}{A:Nat->Prop}{bt:Bt}{p:PV}{u:Value}(h:Ue w A p u):Ad7 w A bt p u:=by
 cases p with
 |agg cs=>
  obtain⟨vs,h1,h2⟩:=h;refine⟨vs,h1,fun p hp=>.inl ?_,JG h2⟩
  obtain⟨j,hj⟩:=List.mem_iff_getElem?.1 hp;obtain⟨v,_,hv⟩:=h2.get hj;exact hv.1
 |sc v=>exact⟨.inl trivial,h.2⟩
 |lst z es n c=>exact⟨.inl trivial,h.2⟩
 |_=>exact h.1.elim
theorem CV {w:World}{A:Nat->Prop}{bt:JI}:∀{ps:List PV}{us:List Value}{i:Nat},Bw (Ue w A) ps us->Oq w A bt i ps us
 |[],[],_,_=>trivial
 |_::_,_::_,_,h=>⟨Alu h.1,CV h.2⟩
 |[],_::_,_,h=>h.elim
 |_::_,[],_,h=>h.elim
theorem WI {w:World}{A A':Nat->Prop}(hA:∀b,b<w.heap.size->A' b->A b){p:PV}{v:Value}(h:Ue w A p v):Ue w A' p v:=by
 cases p with
 |agg cs=>
  obtain⟨vs,rfl,h2⟩:=h;exact⟨vs,rfl,h2.mono fun c v hc=>⟨hc.1,hc.2.step (Co.refl _ _) hA⟩⟩
 |sc v=>exact⟨h.1,h.2.step (Co.refl _ _) hA⟩
 |lst z es n c=>exact⟨h.1,h.2.step (Co.refl _ _) hA⟩
 |_=>exact h.1.elim
theorem Adx {w:World}{Y:Nat->Prop}{args:List PV}{us:List Value}(hY:∀b,Y b->b<w.heap.size)(h:Bw (Ue w Y) args us):Ins w Y Xj args us:=
 ⟨hY,fun b _=>Pk b,fun b h=>absurd h (Pk b),(fun _ _ _ _ _ _ _ h=>by cases h),(fun _ _ h=>by cases h),CV (h.mono fun _ _ hx=>WI (fun b _ hb=>hb.elim (fun q=>absurd q (Pk b)) id) hx)⟩
def NoNG (P:Program):Prop:=∀(f:FuncId) (fn:Func),P.funcs[f]?=some fn->(fn.name == "runtime.NumGoroutine")=false
structure JJ (P:Program) (G:Us) (w0:World) (X0:Fp):Prop where
 ng:NoNG P
 fr:∀w,Fr X0 w0 w->G.ok w
 y:∀b,G.bl b->b<w0.heap.size∧¬X0.X b
section
variable {R:Type} {r:R} {P:Program} {N:Nat} {w0:World} {X0:Fp} {Y:Nat->Prop} {β β':Bt} {s:St} {a:Act} {w w':World} {o:Oper} {A:Nat->Prop}
def QX (P:Program)(a:Act)(w:World)(o:Oper)(Y:Nat->Prop)(β:Bt)(s:St)(v:PV)(fz:List Nat)(nw:List (Nat × Bx)):Prop:=
 (∀id∈fz,∃f c,s.hp id=some (.ar f c))∧∀(next:Act->World->Prop)(Q:Exit->Act->World->Prop),
  (∀val w',(Ck s.hp nw=true->∃β',UH Y β ⟨s.tm,Ag s.hp fz⟩ w v nw val w' β')->next (a.put o.dst val) w')->o.wp P a w next Q
theorem RB {v:PV}{fz:List Nat}{nw:List (Nat × Bx)} (h:F3 P a w o Y β s v fz nw):QX P a w o Y β s v fz nw:=by
 obtain⟨h1,val,w',hr,hs⟩:=h;refine⟨h1,fun next Q hn=>?_⟩
 unfold Oper.wp;rw[hr];exact hn val w' hs
theorem Arr (h:B4 N w0 X0 Y β s a w){t:TypeId}{x:PV}{u:Value}(hx:Ed w (Db s.hp β Y) β x u) {K:PV->List Nat->Option R}(hk:Ag0 P (M4 s.hp) t x K=some r):
  ∃p m,K p m=some r∧(∀id∈m,∃f cc,s.hp id=some (.ar f cc))∧(cellsOf p).length=(Kh P t).length∧∀fz:List Nat,(∀id∈m,id∈fz)->(∀id∈fz,∃f cc,s.hp id=some (.ar f cc))->Ue w (Db (Ag s.hp fz) β Y) p u:=by
 unfold Ag0 at hk;cases H6:Cr P t
 ·rw[H6] at hk;obtain⟨cs,m,hk,hl,Nj,hT,hF,hm,hv⟩:=U0 h (show Ro _ _ _ _=some r from hk)
  obtain⟨c,t',rfl,hk⟩:=Bk hk;obtain⟨rfl,hk⟩:=Ec hk;have hcT:=hT c (by simp)
  refine⟨c,m,hk,hm,?_,fun fz h1 h2=>?_⟩
  ·have:cellsOf c=[c]:=by cases c<;>first|rfl|exact hcT.elim
   rw[this];exact hl
  have hF':=hF _ (List.mem_singleton_self _)
  have hc:Ci w (Db s.hp β Y) β x u:=by
   cases x<;>first|exact hx|exact hF'.elim
  have h3:=(hv fz h1 h2 [u] ⟨hc,trivial⟩).1.1;cases c<;>first|exact⟨trivial,h3⟩|exact hcT.elim
 ·rw[H6] at hk;obtain⟨ps,hp,hk⟩:=Jy (show Fm _ _=some r from hk)
  rw[hp] at hx;obtain⟨cs,m,hk,hl,Nj,hT,hF,hm,hv⟩:=U0 h hk;obtain⟨vs,D3,h2⟩:=hx;refine⟨.agg cs,m,hk,hm,hl,fun fz h1 h3=>⟨vs,D3,?_⟩⟩
  exact (hv fz h1 h3 vs h2).1.mono_mem fun c hc v JZ=>⟨hT c hc,JZ⟩
theorem An9 (h:B4 N w0 X0 Y β s a w){t:TypeId}{x:Operand}{K:PV->List Nat->Option R}(hk:Ag0 P (M4 s.hp) t (Ct s.tm x) K=some r):
  ∃p m,K p m=some r∧(∀id∈m,∃f cc,s.hp id=some (.ar f cc))∧∀fz:List Nat,(∀id∈m,id∈fz)->(∀id∈fz,∃f cc,s.hp id=some (.ar f cc))->Ue w (Db (Ag s.hp fz) β Y) p (a.eval x):=by
 obtain⟨p,m,h1,h2,_,h3⟩:=Arr h (Dw h x) hk;exact⟨p,m,h1,h2,h3⟩
theorem VZ (h:B4 N w0 X0 Y β s a w):∀{ts:List TypeId}{xs:List Operand}{K:List PV->List Nat->Option R},QO P (M4 s.hp) ts (xs.map (Ct s.tm)) K=some r ->
  ∃ps m,K ps m=some r∧(∀id∈m,∃f cc,s.hp id=some (.ar f cc))∧∀fz:List Nat,(∀id∈m,id∈fz)->(∀id∈fz,∃f cc,s.hp id=some (.ar f cc))->Bw (Ue w (Db (Ag s.hp fz) β Y)) ps (xs.map a.eval)
 |[],[],K,hk=>⟨[],[],hk,by simp,fun _ _ _=>trivial⟩
 |[],_::_,K,hk=>by cases hk
 |_::_,[],K,hk=>by cases hk
 |t::ts,x::xs,K,hk=>by
  simp only[List.map_cons] at hk;unfold QO at hk;obtain⟨p,m,hk,hm,hv⟩:=An9 h hk;obtain⟨ps,ms,hk,OK,Ti⟩:=VZ h hk;refine⟨p::ps,m++ms,hk,?_,fun fz h1 h2=>⟨hv fz (fun i hi=>h1 i (by simp[hi])) h2,Ti fz (fun i hi=>h1 i (by simp[hi])) h2⟩⟩
  intro i hi;rcases List.mem_append.1 hi with hi|hi
  ·exact hm i hi
  ·exact OK i hi
theorem Ue.weaken {A':Nat->Prop}(hA:∀b,b<w.heap.size->A' b->A b){p:PV}{v:Value}(h:Ue w A p v):Ue w A' p v:=by
 have one:AC p->AC p∧Aw w A p v->Ue w A' p v:=by
  intro hp h;cases p<;>first|exact⟨h.1,h.2.step (Co.refl _ _) hA⟩|exact hp.elim
 cases p with
 |agg cs=>
  obtain⟨vs,rfl,h2⟩:=h;exact⟨vs,rfl,h2.mono fun c v hc=>⟨hc.1,hc.2.step (Co.refl _ _) hA⟩⟩
 |_=>exact one h.1 h
theorem Ao0 {t:CT}{p:PV}{K:PV->Option R}(h:HJ t p K=some r):
  ∃c,K c=some r∧AC c∧AC p∧(∀(w:World) (A:Nat->Prop) (β:Nat->Option (Nat × Nat)) (v:Value),Ci w A β p v->Aw w A c v∧v.oneCell'=true)∧((∀es,t ≠ .sl es)->∃v,c=.sc v):=by
 obtain⟨c,hk,hT,PI,hv⟩:=P5 h;cases t with
 |sl es=>exact⟨c,hk,hT,PI,hv,fun F9=>absurd rfl (F9 es)⟩
 |int k=>obtain⟨n,rfl,h2⟩:=F5 h;exact⟨_,h2,trivial,trivial,fun w A β v hv=>⟨hv,by have:=Aw.val (w:=w) (A:=A) hv;subst this;rfl⟩,fun _=>⟨_,rfl⟩⟩
 |bool=>obtain⟨n,rfl,h2⟩:=Ek h;exact⟨_,h2,trivial,trivial,fun w A β v hv=>⟨hv,by have:=Aw.val (w:=w) (A:=A) hv;subst this;rfl⟩,fun _=>⟨_,rfl⟩⟩
 |str=>obtain⟨n,rfl,h2⟩:=El h;exact⟨_,h2,trivial,trivial,fun w A β v hv=>⟨hv,by have:=Aw.val (w:=w) (A:=A) hv;subst this;rfl⟩,fun _=>⟨_,rfl⟩⟩
 |any=>
  obtain⟨f,a,b,rfl,h2⟩:=YO (show fnK p (fun v=>K (.sc v))=some r from h)
  exact⟨_,h2,trivial,trivial,fun w A β v hv=>⟨hv,by have:=Aw.val (w:=w) (A:=A) hv;subst this;rfl⟩,fun _=>⟨_,rfl⟩⟩
theorem Zb (shr:Bool)(N:Nat):∀{ts:List CT}{ps:List PV}{id:Nat}{K:List PV->List (Nat × Bx)->Option R},Ty shr N id ts ps K=some r ->
  ∃cs bs,K cs bs=some r∧ps.length=ts.length∧(∀p∈ps,∀x,p ≠ .agg x∧p ≠ .pbox x)∧(∀c∈cs,SM c)∧((∀es,CT.sl es ∉ ts)->bs=[]∧∀c∈cs,∃v,c=.sc v) ∧
   (∀i bx,(i,bx)∈bs->∃j es n c,ps[j]?=some (.own es n c)∧i=id+N*j∧bx=.ar false c) ∧
   (∀c∈cs,∀i∈Av c,∃bx,(i,bx)∈bs) ∧
   ∀(w:World) (A:Nat->Prop) (own β':Bt) (j0:Nat) (us:List Value),(∀j,(∃bx,(id+N*j,bx)∈bs)->β' (id+N*j)=own (j0+j))->G6 w A own j0 ps us->Bw (Ci w A β') cs us
 |[],ps,id,K,hk=>by
  obtain⟨rfl,hk⟩:=Ec hk;refine⟨[],[],hk,rfl,by simp,by simp,by simp,by simp,by simp,fun w A own β' j0 us _ h=>?_⟩
  cases us with
  |nil=>trivial
  |cons u us=>exact h.elim
 |t::ts,ps,id,K,hk=>by
  unfold Ty at hk;obtain⟨p,ps',KX,D4⟩:=Bk hk;subst KX;clear hk
  have main:∃c b,(Ty shr N (id+N) ts ps' fun cs bs=>K (c::cs) (b++bs))=some r∧(∀x,p ≠ .agg x∧p ≠ .pbox x)∧SM c∧((∀es,t≠CT.sl es)->b=[]∧∃v,c=.sc v)∧(∀i bx,(i,bx)∈b->∃es n cc,p=.own es n cc∧i=id∧bx=.ar false cc)∧(∀i∈Av c,∃bx,(i,bx)∈b) ∧
    ∀(w:World) (A:Nat->Prop) (own:Option (Nat × Nat)) (β':Bt) (u:Value),((∃bx,(id,bx)∈b)->β' id=own)->Jf w A own p u->Ci w A β' c u:=by
   have tree:∀t',t'=t->(HJ t' p fun c=>Ty shr N (id+N) ts ps' fun cs bs=>K (c::cs) ([]++bs))=some r->∃c b,(Ty shr N (id+N) ts ps' fun cs bs=>K (c::cs) (b++bs))=some r∧(∀x,p ≠ .agg x∧p ≠ .pbox x)∧SM c∧((∀es,t≠CT.sl es)->b=[]∧∃v,c=.sc v)∧(∀i bx,(i,bx)∈b->∃es n cc,p=.own es n cc∧i=id∧bx=.ar false cc)∧(∀i∈Av c,∃bx,(i,bx)∈b) ∧
     ∀(w:World) (A:Nat->Prop) (own:Option (Nat × Nat)) (β':Bt) (u:Value),((∃bx,(id,bx)∈b)->β' id=own)->Jf w A own p u->Ci w A β' c u:=by
    intro t' ht' hk;have hsc:=Ao0 hk;obtain⟨c,hk,hT,PI,hv,hsc⟩:=hsc;refine⟨c,[],hk,fun x=>⟨DP PI x,by rintro rfl;exact PI⟩,Vu hT,fun F9=>⟨rfl,hsc (fun es e=>F9 es (ht'.symm.trans e))⟩,by simp,by rw[J2 hT];simp,fun w A own β' u _ hc=>?_⟩
    have Vo:Ci w A β' p u:=by cases p<;>first|exact hc|exact PI.elim
    exact (O4 hT).2 (hv w A β' u Vo).1
   unfold Am9 at D4;cases t with
   |sl es=>
    dsimp only at D4;cases shr
    ·unfold Gl at D4;simp only[cond_false] at D4;split at D4
     ·rename_i es' n c;cases hb:Nat.beq es' es
      ·rw[hb] at D4;cases D4
      ·rw[hb] at D4;have:=Nat.eq_of_beq_eq_true hb;subst this;refine⟨_,_,D4,by simp,trivial,fun F9=>absurd rfl (F9 _),?_,?_,fun w A own β' u hβ hc=>?_⟩
       ·intro i bx hm;simp at hm;exact⟨_,_,_,rfl,hm.1,hm.2⟩
       ·intro i hi;simp[Av] at hi;subst hi;exact⟨.ar false c,by simp⟩
       ·have hβ':=hβ ⟨.ar false c,by simp⟩
        clear hβ;rcases hc with⟨h1,rfl,rfl,h4⟩|⟨b,ob,cap,h1,h2,h3,h4,h5,_⟩
        ·exact .inl ⟨hβ'.trans h1,rfl,rfl,h4⟩
        ·exact .inr ⟨b,ob,ob,cap,hβ'.trans h1,h2,.inl rfl,h3,h4,h5⟩
     ·cases D4
    ·obtain⟨c,hk,hT,PI,hv,_⟩:=Ao0 (t:=.sl es) (p:=p) (K:=fun c=>Ty true N (id+N) ts ps' fun cs bs=>K (XI c::cs) ([]++bs)) D4
     have hU:AC (XI c):=by cases c<;>exact hT
     refine⟨XI c,[],hk,fun x=>⟨DP PI x,by rintro rfl;exact PI⟩,Vu hU,fun F9=>absurd rfl (F9 _),by simp,by rw[J2 hU];simp,fun w A own β' u _ hc=>?_⟩
     have Vo:Ci w A β' p u:=by cases p<;>first|exact hc|exact PI.elim
     refine (O4 hU).2 ?_;have:=(hv w A β' u Vo).1;cases c with
     |lst z es n c=>exact Aw.unz this
     |_=>exact this
   |int k=>exact tree (.int k) rfl D4
   |bool=>exact tree .bool rfl D4
   |str=>exact tree .str rfl D4
   |any=>exact tree .any rfl D4
  obtain⟨c,b,hk,hpa,hF,NN,H3,Nv,JZ⟩:=main;obtain⟨cs,bs,hk,hl,A5o,hFs,Ayn,A9p,A9g,A6g⟩:=Zb shr N hk;refine⟨c::cs,b++bs,hk,by simp[hl],?_,?_,?_,?_,?_,fun w A own β' j0 us hβ hoc=>?_⟩
  ·intro x hx;rcases List.mem_cons.1 hx with rfl|hx
   ·exact hpa
   ·exact A5o x hx
  ·intro x hx;rcases List.mem_cons.1 hx with rfl|hx
   ·exact hF
   ·exact hFs x hx
  ·intro F9;obtain⟨h1,v,h2⟩:=NN (fun es e=>F9 es (by rw[e];simp))
   obtain⟨h3,h4⟩:=Ayn (fun es hm=>F9 es (by simp[hm]))
   refine⟨by rw[h1,h3];rfl,fun x hx=>?_⟩
   rcases List.mem_cons.1 hx with rfl|hx
   ·exact⟨v,h2⟩
   ·exact h4 x hx
  ·intro i bx hm;rcases List.mem_append.1 hm with hm|hm
   ·obtain⟨es,n,cc,rfl,rfl,rfl⟩:=H3 i bx hm;exact⟨0,es,n,cc,rfl,by simp,rfl⟩
   ·obtain⟨j,es,n,cc,h1,rfl,h3⟩:=A9p i bx hm;exact⟨j+1,es,n,cc,by simpa using h1,by rw[Nat.mul_add];omega,h3⟩
  ·intro x hx i hi;rcases List.mem_cons.1 hx with rfl|hx
   ·obtain⟨bx,hm⟩:=Nv i hi;exact⟨bx,by simp[hm]⟩
   ·obtain⟨bx,hm⟩:=A9g x hx i hi;exact⟨bx,by simp[hm]⟩
  ·cases us with
   |nil=>exact hoc.elim
   |cons u us=>
    refine⟨JZ w A (own j0) β' u (fun ⟨bx,hm⟩=>by have:=hβ 0 ⟨bx,by simp[hm]⟩;simpa using this) hoc.1,?_⟩
    refine A6g w A own β' (j0+1) us (fun j ⟨bx,hm⟩=>?_) hoc.2
    have e:id+N+N*j=id+N*(j+1):=by rw[Nat.mul_add];omega
    have:=hβ (j+1) ⟨bx,by rw[←e];simp[hm]⟩
    rw[e,this]
    congr 1
    omega
end
open Go.RowKit
section
variable {R:Type} {r:R} {P:Program} {N:Nat} {w0:World} {X0:Fp} {Y:Nat->Prop} {β β':Bt} {s:St} {a:Act} {w w':World} {o:Oper} {A:Nat->Prop}
theorem G6.len:∀{j:Nat}{own:Bt}{ps:List PV}{us:List Value},G6 w A own j ps us->ps.length=us.length
 |_,_,[],[],_=>rfl
 |_,_,_::_,_::_,h=>by simp[G6.len h.2]
 |_,_,[],_::_,h=>h.elim
 |_,_,_::_,[],h=>h.elim
theorem G6.at_:∀{j:Nat}{own:Bt}{ps:List PV}{us:List Value},G6 w A own j ps us->∀{i:Nat} {p},ps[i]?=some p->∃u,us[i]?=some u∧Jf w A (own (j+i)) p u
 |_,_,[],[],_,i,p,h=>by simp at h
 |j,own,_::_,u::_,h,0,p,hp=>by simp at hp;subst hp;exact⟨u,rfl,h.1⟩
 |j,own,_::_,_::_,h,i+1,p,hp=>by
  simp at hp;obtain⟨u,hu,hc⟩:=G6.at_ h.2 hp;exact⟨u,by simpa using hu,by rw[show j+(i+1)=j+1+i from by omega];exact hc⟩
 |_,_,[],_::_,h,_,_,_=>h.elim
 |_,_,_::_,[],h,_,_,_=>h.elim
def Amm (N id:Nat)(β':Bt)(w:World)(A:Nat->Prop)(z n:Nat)(bs:List (Nat × Bx)):Prop:=
 ∀i bx,(i,bx)∈bs->(∃j,i=id+N*j∧j<n)∧Cs (some bx)∧Tv w A β' i bx∧∀cs,bx=.st cs->∀b o,β' i=some (b,o)->z<=b
def HW (bs:List (Nat × Bx)):Prop:=∀i cells,(i,.st cells)∈bs->∀c∈cells,∀i'∈Av c,∃bx,(i',bx)∈bs
theorem GI {q:Option (Nat × Nat)} {es n i:Nat}{c:List PV}{u:Value}(h:Jf w A q (.own es n c) u) (hβ:β' i=q):Tv w A β' i (.ar false c):=by
 rcases h with⟨h1,_,h2,_⟩|⟨b,o,cap,h1,_,_,_,_,h6,h7⟩
 ·exact .inl ⟨hβ.trans h1,h2⟩
 ·exact .inr ⟨b,o,hβ.trans h1,h6,fun _=>h7,(fun x=>by cases x)⟩
theorem HC {t:TypeId}(h:Mn P [t]=false):EC P t=none∧∀es,CT.sl es ∉ Kh P t:=by
 simp only[Mn,List.any_cons,List.any_nil,Bool.or_false,Bool.or_eq_false_iff] at h;refine⟨by simpa using h.1,fun es hm=>?_⟩
 have:=List.any_eq_false.1 h.2 _ hm;simp at this
theorem Amg (shr:Bool)(N:Nat){t:TypeId}{p:PV}{id:Nat}{K:PV->List (Nat × Bx)->Option R} (hk:Aka P shr N id t p K=some r):
  ∃v bs,K v bs=some r∧plc p=Adl P t∧(∀x,v ≠ .tup x)∧(Mn P [t]=false->bs=[]∧∀c∈cellsOf v,∃u,c=.sc u)∧(∀i∈Cj v,∃bx,(i,bx)∈bs)∧HW bs ∧
   ∀(w:World) (A:Nat->Prop) (own β':Bt) (z j0:Nat) (u:Value),(∀j,(∃bx,(id+N*j,bx)∈bs)->β' (id+N*j)=own (j0+j))->Ati w A own z j0 p u->H2 w A β' v u∧Amm N id β' w A z (plc p) bs:=by
 have boxes:∀{bs:List (Nat × Bx)} {ps:List PV} {id:Nat},(∀i bx,(i,bx)∈bs->∃j es n c,ps[j]?=some (.own es n c)∧i=id+N*j∧bx=.ar false c) ->
   HW bs∧∀(w:World) (A:Nat->Prop) (own β':Bt) (j0:Nat) (us:List Value),(∀j,(∃bx,(id+N*j,bx)∈bs)->β' (id+N*j)=own (j0+j))->G6 w A own j0 ps us->∀z,Amm N id β' w A z ps.length bs:=by
  intro bs ps id H3;refine⟨fun i cells hm=>?_,fun w A own β' j0 us hβ ho z i bx hm=>?_⟩
  ·obtain⟨_,_,_,_,_,_,h3⟩:=H3 i _ hm;cases h3
  ·obtain⟨j,es,n,cc,h1,h2,h3⟩:=H3 i bx hm;obtain⟨u,hu,hoc⟩:=ho.at_ h1;subst h3;refine⟨⟨j,h2,?_⟩,trivial,GI hoc ?_,fun _ e=>by cases e⟩
   ·rcases Nat.lt_or_ge j ps.length with h|h
    ·exact h
    ·rw[List.getElem?_eq_none h] at h1;cases h1
   ·rw[h2];exact hβ j ⟨_,h2 ▸ hm⟩
 unfold Aka at hk;split at hk
 ·rename_i e he;obtain⟨ps,rfl,hk⟩:=WK hk;obtain⟨cs,bs,hk,hl,Atp,hF,NN,H3,Nv,JZ⟩:=Zb shr N hk;obtain⟨hri,Mx⟩:=boxes H3;refine⟨.ptr id 0,_,hk,by simp only[plc,Adl,he,hl],by simp,fun h=>?_,fun i hi=>?_,fun i cells hm c hc i' hi'=>?_,fun w A own β' z j0 u hβ ho=>?_⟩
  ·have:=(HC h).1;rw[he] at this;cases this
  ·simp only[Cj,Av,List.mem_singleton] at hi;subst hi;exact⟨_,List.mem_cons_self⟩
  ·rcases List.mem_cons.1 hm with e|hm
   ·cases e;obtain⟨bx,hb⟩:=Nv c hc i' hi';exact⟨bx,List.mem_cons_of_mem _ hb⟩
   ·obtain⟨bx,hb⟩:=hri i cells hm c hc i' hi';exact⟨bx,List.mem_cons_of_mem _ hb⟩
  ·obtain⟨b,o,h1,hz,rfl,vs,h3,h4,h5⟩:=ho;have h0:=hβ 0 ⟨_,by rw[Nat.mul_zero,Nat.add_zero];exact List.mem_cons_self⟩
   rw[Nat.mul_zero,Nat.add_zero,Nat.add_zero,h1] at h0;have Bo:∀j,id+N+N*j=id+N*(j+1):=fun j=>by rw[Nat.mul_add];omega
   have hβ1:∀j,(∃bx,(id+N+N*j,bx)∈bs)->β' (id+N+N*j)=own (j0+1+j):=fun j ⟨bx,hm⟩=>by
    rw[Bo,hβ (j+1) ⟨bx,by rw[←Bo];exact List.mem_cons_of_mem _ hm⟩]
    congr 1;omega
   have hc2:=JZ w A own β' (j0+1) vs hβ1 h3;have hb3:=Mx w A own β' (j0+1) vs hβ1 h3 z;have Gv:cs.length=ps.length:=by rw[hc2.len,←h3.len]
   refine⟨⟨b,o,h0,by simp⟩,fun i bx hm=>?_⟩
   rcases List.mem_cons.1 hm with e|hm
   ·cases e;refine⟨⟨0,by simp,by simp only[plc];omega⟩,trivial,⟨b,o,h0,fun k c hk=>?_,fun k hk=>h5 k (by omega)⟩,fun _ _ b' o' Ip=>?_⟩
    ·obtain⟨v,hv,hcr⟩:=hc2.get hk;exact⟨v,h4 k v hv,hcr⟩
    ·rw[h0] at Ip;cases Ip;exact hz
   ·obtain⟨⟨j,hj,hjn⟩,h6,h7⟩:=hb3 i bx hm;exact⟨⟨j+1,by rw[hj,Bo],by simp only[plc];omega⟩,h6,h7⟩
 ·rename_i hnp;have LF:Adl P t=(Kh P t).length:=by simp only[Adl,hnp]
  cases H6:Cr P t
  ·rw[H6] at hk;obtain⟨cs,bs,hk,hl,Atp,hF,NN,H3,Nv,JZ⟩:=Zb shr N (show Ty _ _ _ _ _ _=some r from hk)
   obtain⟨c,t',rfl,hk⟩:=Bk hk;obtain⟨rfl,hk⟩:=Ec hk;have hFc:=hF c (by simp)
   have A13:∀x,p ≠ .pbox x:=fun x=>(Atp p (by simp) x).2
   have Azg:∀x,c ≠ .agg x:=by rintro x rfl;exact hFc
   have A6c:∀x,c ≠ .tup x:=by rintro x rfl;exact hFc
   have hr1:Cj c=Av c:=by cases c<;>first|rfl|exact absurd rfl (Azg _)
   have hpa:∀x,p ≠ .agg x:=fun x=>(Atp p (by simp) x).1
   obtain⟨hri,Mx⟩:=boxes H3;have hcell:cellsOf p=[p]:=by cases p<;>first|rfl|exact absurd rfl (hpa _)
   have A1n:plc p=1:=by cases p<;>first|rfl|exact absurd rfl (hpa _)|exact absurd rfl (A13 _)
   have hcc:cellsOf c=[c]:=by cases c<;>first|rfl|exact absurd rfl (Azg _)
   refine⟨c,bs,hk,by rw[A1n,LF];exact hl,A6c,fun F9=>by rw[hcc];exact NN (HC F9).2,fun i hi=>Nv c (by simp) i (by rw[←hr1];exact hi),hri,fun w A own β' z j0 u hβ ho=>?_⟩
   have ho':Jf w A (own j0) p u:=by cases p<;>first|exact ho|exact absurd rfl (hpa _)|exact absurd rfl (A13 _)
   exact⟨(V6 Azg).2 (JZ w A own β' j0 [u] hβ ⟨ho',trivial⟩).1,by rw[A1n];exact Mx w A own β' j0 [u] hβ ⟨ho',trivial⟩ z⟩
  ·rw[H6] at hk;obtain⟨ps,rfl,hk⟩:=Jy (show Fm _ _=some r from hk)
   obtain⟨cs,bs,hk,hl,Atp,hF,NN,H3,Nv,JZ⟩:=Zb shr N hk;obtain⟨hri,Mx⟩:=boxes H3;refine⟨.agg cs,bs,hk,by rw[LF];exact hl,by simp,fun F9=>NN (HC F9).2,fun i hi=>?_,hri,fun w A own β' z j0 u hβ ho=>?_⟩
   ·obtain⟨c,hc,hi⟩:=List.mem_flatMap.1 (show i∈cs.flatMap Av from hi)
    exact Nv c hc i hi
   ·obtain⟨vs,rfl,ho⟩:=ho;exact⟨⟨vs,rfl,JZ w A own β' j0 vs hβ ho⟩,Mx w A own β' j0 vs hβ ho z⟩
theorem HZ (shr:Bool)(N:Nat):∀{ts:List TypeId}{ps:List PV}{id:Nat}{K:List PV->List (Nat × Bx)->Option R},JS P shr N id ts ps K=some r ->
  ∃vs bs,K vs bs=some r∧vs.length=ps.length∧(∀v∈vs,∀x,v ≠ .tup x)∧(Mn P ts=false->bs=[]∧∀v∈vs,∀c∈cellsOf v,∃u,c=.sc u)∧(∀v∈vs,∀i∈Cj v,∃bx,(i,bx)∈bs)∧HW bs ∧
   ∀(w:World) (A:Nat->Prop) (own β':Bt) (z j0:Nat) (us:List Value),(∀j,(∃bx,(id+N*j,bx)∈bs)->β' (id+N*j)=own (j0+j))->Ahb w A own z j0 ps us->Bw (H2 w A β') vs us∧Amm N id β' w A z (Rv ps) bs
 |[],ps,id,K,hk=>by
  obtain⟨rfl,hk⟩:=Ec hk;refine⟨[],[],hk,rfl,by simp,by simp,by simp,(by intro i cells hm;cases hm),fun w A own β' z j0 us _ h=>?_⟩
  cases us with
  |nil=>exact⟨trivial,by intro i bx hm;cases hm⟩
  |cons u us=>exact h.elim
 |t::ts,ps,id,K,hk=>by
  unfold JS at hk;obtain⟨p,ps',KX,D4⟩:=Bk hk;subst KX;clear hk;obtain⟨v,bs,hk,hl,hnt,NN,hr1,hri,hv⟩:=Amg shr N D4;obtain⟨vs,bs',hk,hvl,A7f,Ayn,hrs,A69,Ti⟩:=HZ shr N hk;refine⟨v::vs,bs++bs',hk,by simp[hvl],?_,?_,?_,?_,fun w A own β' z j0 us hβ ho=>?_⟩
  ·intro x hx;rcases List.mem_cons.1 hx with rfl|hx
   ·exact hnt
   ·exact A7f x hx
  ·intro F9;simp only[Mn,List.any_cons,Bool.or_eq_false_iff] at F9;obtain⟨h1,h2⟩:=NN (by simp only[Mn,List.any_cons,List.any_nil,Bool.or_false,Bool.or_eq_false_iff];exact F9.1)
   obtain⟨h3,h4⟩:=Ayn (by simp only[Mn];exact F9.2)
   refine⟨by rw[h1,h3];rfl,fun x hx=>?_⟩
   rcases List.mem_cons.1 hx with rfl|hx
   ·exact h2
   ·exact h4 x hx
  ·intro x hx i hi;rcases List.mem_cons.1 hx with rfl|hx
   ·obtain⟨bx,hm⟩:=hr1 i hi;exact⟨bx,by simp[hm]⟩
   ·obtain⟨bx,hm⟩:=hrs x hx i hi;exact⟨bx,by simp[hm]⟩
  ·intro i cells hm c hc i' hi';rcases List.mem_append.1 hm with hm|hm
   ·obtain⟨bx,hb⟩:=hri i cells hm c hc i' hi';exact⟨bx,by simp[hb]⟩
   ·obtain⟨bx,hb⟩:=A69 i cells hm c hc i' hi';exact⟨bx,by simp[hb]⟩
  ·cases us with
   |nil=>exact ho.elim
   |cons u us=>
    obtain⟨h1,H3⟩:=hv w A own β' z j0 u (fun j ⟨bx,hm⟩=>hβ j ⟨bx,by simp[hm]⟩) ho.1
    have Bo:∀j,id+N*Adl P t+N*j=id+N*(Adl P t+j):=fun j=>by rw[Nat.mul_add];omega
    obtain⟨h2,Nv⟩:=Ti w A own β' z (j0+plc p) us (fun j ⟨bx,hm⟩=>by rw[Bo,hβ _ ⟨bx,by rw[←Bo];simp[hm]⟩,hl];congr 1;omega) ho.2
    refine⟨⟨h1,h2⟩,fun i bx hm=>?_⟩
    rcases List.mem_append.1 hm with hm|hm
    ·obtain⟨⟨j,hj,hjn⟩,h4,h5⟩:=H3 i bx hm;exact⟨⟨j,hj,by simp only[Rv,List.map_cons,List.sum_cons];omega⟩,h4,h5⟩
    ·obtain⟨⟨j,hj,hjn⟩,h4,h5⟩:=Nv i bx hm;refine⟨⟨_,by rw[hj,Bo],?_⟩,h4,h5⟩
     simp only[Rv,List.map_cons,List.sum_cons] at hjn ⊢;omega
def MM (N d:Nat)(bs:List (Nat × Bx)) (own β:Bt):Bt:=fun i=>if (bs.any fun q=>Nat.beq q.1 i)=true then own ((i-d) / N) else β i
theorem ZG {bs:List (Nat × Bx)} {i:Nat}:(bs.any fun q=>Nat.beq q.1 i)=true↔∃bx,(i,bx)∈bs:=by
 rw[List.any_eq_true];constructor
 ·rintro⟨⟨j,bx⟩,hm,e⟩
  have:=Nat.eq_of_beq_eq_true e;subst this;exact⟨bx,hm⟩
 ·rintro⟨bx,hm⟩
  exact⟨_,hm,Nat.beq_refl i⟩
theorem Ag9 {N d j:Nat}(hN:0<N){bs:List (Nat × Bx)} {own β:Bt}(h:∃bx,(d+N*j,bx)∈bs):MM N d bs own β (d+N*j)=own j:=by
 unfold MM;rw[if_pos (ZG.2 h),Nat.add_sub_cancel_left,Nat.mul_div_cancel_left _ hN]
theorem FY {c:Call}{f:FuncId}(ho:o.op=.call c)(hc:c.callee=.value (.func f)) (Ja:NoNG P){fn:Func}(hf:P.funcs[f]?=some fn) (hb:fn.body.isSome=true):
  (execOp a.eval o).run P w=.ok (.enter f (c.args.map a.eval)) w:=by
 unfold execOp;rw[ho]
 have hn:¬fn.body=none:=by
  intro h;rw[h] at hb;cases hb
 have F9:¬fn.name = "runtime.NumGoroutine" :=by simpa using Ja f fn hf
 simp[resolve,hc,Act.eval,Deferred.ofValue,invoke,callFunc,hf,F9,hn]
theorem Ajk {c:Call}{t:Nat}{f:FuncId}(ho:o.op=.call c)(hc:c.callee=.value (.tmp t)) (ht:a.eval (.tmp t)=.func (.func f) #[] #[]) (Ja:NoNG P){fn:Func}(hf:P.funcs[f]?=some fn) (hb:fn.body.isSome=true):
  (execOp a.eval o).run P w=.ok (.enter f (c.args.map a.eval)) w:=by
 unfold execOp;rw[ho]
 have hn:¬fn.body=none:=by
  intro h;rw[h] at hb;cases hb
 have F9:¬fn.name = "runtime.NumGoroutine" :=by simpa using Ja f fn hf
 simp[resolve,hc,ht,Deferred.ofValue,invoke,callFunc,hf,F9,hn]
theorem KI {A':Nat->Prop}(k:Bool):∀{xs:List Operand}{ps:List PV},Bw (Ue w A') ps (xs.map a.eval)->Bw (Ue w A') (Lx k xs ps) (xs.map a.eval)
 |[],[],h=>h
 |[],_::_,h=>h
 |_::_,[],h=>h
 |x::xs,p::ps,h=>by
  simp only[List.map_cons] at h ⊢;refine⟨?_,KI k h.2⟩;split
  ·exact⟨trivial,Aw.lnil _ _⟩
  ·exact h.1
theorem QP (h : B4 N w0 X0 Y β s a w) {G : Us} (Ja : JJ P G w0 X0) {C : I3} {call : Ah} (C4 : ∀ f args res, call f args = some res -> C7 G P f args res) {c : Call} {f : FuncId} (Di : ∀ {fn : Func}, P.funcs[f]? = some fn -> fn.body.isSome = true -> (execOp a.eval o).run P w = .ok (.enter f (c.args.map a.eval)) w)
    {K : PV -> List Nat -> List (Nat × Bx) -> Option R}
    (hk : (QO P (M4 s.hp) (QB P f c) (c.args.toList.map (Ct s.tm)) fun vs m =>
          Ai (call f (Lx (C.kz f) c.args.toList vs)) fun rv ro => Ac ro (Ar (Nat.blt 0 N) <| JS P (C.shr f) N (o.dst.getD 0) (Ru P o.type) rv fun ws bs =>
            Ar (bif Si P o.type then !Nat.beq ws.length 1 else Nat.beq ws.length 1) <| K (Qx ws (Si P o.type)) (bif Mn P (Ru P o.type) then m else []) bs)) = some r) : ∃ v fz nw, K v fz nw = some r ∧ QX P a w o Y β s v fz nw := by
  obtain⟨ps, m, hk, hm, Es⟩ := VZ h hk
  replace Es := fun fz h1 h2 => KI (a := a) (C.kz f) (Es fz h1 h2)
  generalize Lx (C.kz f) c.args.toList ps = ps at hk Es
  obtain⟨rv, ro, W9, hk⟩ := UU hk
  obtain⟨rfl, hk⟩ := Ec hk
  obtain⟨hN, hk⟩ := As hk
  have hN : 0 < N := Nat.lt_of_succ_le (Nat.le_of_ble_eq_true hN)
  obtain⟨ws, bs, hk, hwl, hnt, NN, hrs, hri, hws⟩ := HZ (C.shr f) N hk
  obtain⟨T9, hk⟩ := As hk
  obtain⟨⟨fn, hfn, hfb⟩, WX⟩ := C4 f ps _ W9
  obtain⟨fz, HO, hfm⟩ : ∃ fz : List Nat, fz = (bif Mn P (Ru P o.type) then m else []) ∧ ∀ id ∈ fz, ∃ f c, s.hp id = some (.ar f c) := by
    refine⟨_, rfl, fun id Bo => ?_⟩
    cases hh : Mn P (Ru P o.type) <;> rw[hh] at Bo
    · cases Bo
    · exact hm id Bo
  rw[← HO] at hk
  refine⟨_, _, _, hk, hfm, fun next Q hn => ?_⟩
  have hf := h.freeze hfm
  have hYc : ∃ Yc : Nat -> Prop, (∀ b, Yc b -> b < w.heap.size) ∧ Bw (Ue w Yc) ps (c.args.toList.map a.eval) ∧ ((∀ b, Db (Ag s.hp fz) β Y b -> Yc b) ∨ Mn P (Ru P o.type) = false) := by
    have Vi := Es m (fun _ hi => hi) hm
    cases hh : Mn P (Ru P o.type)
    · exact⟨fun _ => False, fun _ x => x.elim, Vi.mono fun _ _ hx => hx.weaken (fun _ _ x => x.elim), .inr rfl⟩
    · rw[hh] at HO
      have HO : fz = m := HO
      subst HO
      refine⟨Db (Ag s.hp fz) β Y, fun b hb => ?_, Vi, .inl fun _ x => x⟩
      rcases hb with⟨id, ob, hl, hβ⟩ | hY
      · exact hf.blt id b ob (Dg hl) hβ
      · exact Nat.lt_of_lt_of_le (h.Ylt b hY) h.fr.step.size
  obtain⟨Yc, Ax9, hYargs, hYA⟩ := hYc
  unfold Oper.wp
  rw[Di hfn hfb]
  show Calls P f _ w _
  have hca : c.args.map a.eval = (c.args.toList.map a.eval).toArray := by rw[← List.map_toArray, Array.toArray_toList]
  rw[hca]
  refine (WX w Yc Xj _ (Adx Ax9 hYargs) (Ja.fr w h.fr) (fun b x => ⟨Nat.lt_of_lt_of_le (Ja.y b x).1 h.fr.step.size, Pk b⟩)).mono ?_
  rintro e w' ⟨vs, own, rfl, YR⟩
  refine hn (K5 vs) w' fun Tp => ⟨MM N (o.dst.getD 0) bs own β, ?_⟩
  obtain⟨ha1, ha2⟩ := B5 Tp
  have Aoe : ∀ i bx, (i, bx) ∈ bs -> Ag s.hp fz i = none := fun i bx hm => Ff.2 (ha1 i bx hm)
  obtain⟨hg1, hg2⟩ := Fy (hp := Ag s.hp fz) ha2
  have hold : ∀ i, Ag s.hp fz i ≠ none -> MM N (o.dst.getD 0) bs own β i = β i := by
    intro i hi
    unfold MM
    rw[if_neg]
    intro hx
    obtain⟨bx, hm⟩ := ZG.1 hx
    exact hi (Aoe i bx hm)
  obtain⟨Ti, hba⟩ := hws w' _ own (MM N (o.dst.getD 0) bs own β) w.heap.size 0 vs (fun j hj => by rw[Ag9 hN hj, Nat.zero_add]) YR.vals
  have CF : ∀ i bx, (i, bx) ∈ bs -> ∃ j, i = o.dst.getD 0 + N * j ∧ MM N (o.dst.getD 0) bs own β i = own j := by
    intro i bx hm
    obtain⟨⟨j, rfl, _⟩, _, _⟩ := hba i bx hm
    exact⟨j, rfl, Ag9 hN ⟨bx, hm⟩⟩
  have hAA : Mn P (Ru P o.type) = false ∨ ∀ b, Db (A6 (Ag s.hp fz) bs) (MM N (o.dst.getD 0) bs own β) Y b -> RE Xj own Yc b := by
    rcases hYA with hYA | hYA
    · refine .inr fun b hb => ?_
      rcases hb with⟨i, ob, hl, hβ⟩ | hY
      · by_cases hi : ∃ bx, (i, bx) ∈ bs
        · obtain⟨bx, hm⟩ := hi
          obtain⟨j, _, h3⟩ := CF i bx hm
          rw[h3] at hβ
          exact .inl ⟨j, ob, hβ⟩
        · rw[hg2 i (fun bx hm => hi ⟨bx, hm⟩)] at hl
          rw[hold i (Dg hl)] at hβ
          exact .inr (.inr (hYA b (.inl ⟨i, ob, hl, hβ⟩)))
      · exact .inr (.inr (hYA b (.inr hY)))
    · exact .inl hYA
  have hval : Ed w' (Db (A6 (Ag s.hp fz) bs) (MM N (o.dst.getD 0) bs own β) Y) (MM N (o.dst.getD 0) bs own β) (Qx ws (Si P o.type)) (K5 vs) := by
    have Vi : Bw (H2 w' (Db (A6 (Ag s.hp fz) bs) (MM N (o.dst.getD 0) bs own β) Y) (MM N (o.dst.getD 0) bs own β)) ws vs := by
      rcases hAA with hno | hAA
      · obtain⟨_, hsc⟩ := NN hno
        refine Ti.mono_mem fun v hv u hvu => ?_
        have hsc := hsc v hv
        cases v with
        | agg cs =>
          obtain⟨xs, rfl, RY⟩ := hvu
          refine⟨xs, rfl, RY.mono_mem fun cc hcc x hx => ?_⟩
          obtain⟨y, rfl⟩ := hsc cc hcc
          have := Aw.val (w := w') hx
          subst this
          exact Aw.sc _
        | sc y =>
          have := Aw.val (w := w') hvu
          subst this
          exact Aw.sc _
        | lst z es n cc => obtain⟨y, hy⟩ := hsc _ (List.mem_singleton_self _); cases hy
        | own es n cc => obtain⟨y, hy⟩ := hsc _ (List.mem_singleton_self _); cases hy
        | view i es n cc => obtain⟨y, hy⟩ := hsc _ (List.mem_singleton_self _); cases hy
        | ptr i cc => obtain⟨y, hy⟩ := hsc _ (List.mem_singleton_self _); cases hy
        | iptr i cc => obtain⟨y, hy⟩ := hsc _ (List.mem_singleton_self _); cases hy
        | pbox cc => obtain⟨y, hy⟩ := hsc _ (List.mem_singleton_self _); cases hy
        | tup cc => obtain⟨y, hy⟩ := hsc _ (List.mem_singleton_self _); cases hy
        | top => obtain⟨y, hy⟩ := hsc _ (List.mem_singleton_self _); cases hy
        | ub => obtain⟨y, hy⟩ := hsc _ (List.mem_singleton_self _); cases hy
      · exact Ti.mono fun v u hvu => hvu.step (Co.refl _ _) (fun b _ => hAA b) (fun _ _ => rfl)
    have Gv := Vi.len
    cases hT : Si P o.type
    · rw[hT] at T9
      have h1 : ws.length = 1 := Nat.eq_of_beq_eq_true T9
      match ws, vs, h1, Gv with
      | [v], [u], _, _ =>
        exact (Qc (hnt v (by simp))).2 Vi.1
    · rw[hT] at T9
      have h1 : ¬ ws.length = 1 := by
        intro e
        rw[e] at T9
        cases T9
      have hr : K5 vs = .tuple ⟨vs⟩ := by
        unfold K5
        split
        · simp at Gv; omega
        · rfl
      rw[hr]
      exact⟨vs, rfl, Vi⟩
  refine⟨YR.os, YR.tape, YR.output, YR.ext.weaken (fun b _ hb => Pk b hb), hold, ?_, ?_, ?_, ?_, ?_, hval, ?_⟩
  · intro i bx hm
    exact (hba i bx hm).2.1
  · intro i bx hm
    rcases hAA with hno | hAA
    · rw[(NN hno).1] at hm; cases hm
    · exact (hba i bx hm).2.2.1.step' hAA
  · intro i bx b ob hm hβ
    obtain⟨j, _, h3⟩ := CF i bx hm
    rw[h3] at hβ
    obtain⟨h4, h5⟩ := YR.fresh j b ob hβ
    refine⟨?_, h4⟩
    rcases Nat.lt_or_ge b w.heap.size with h | h
    · obtain⟨⟨_, _, _, h6⟩, _⟩ := h5 h
      cases h6
    · exact h
  · intro i bx i' bx' b ob ob' hm Qf hβ hβ'
    obtain⟨j, h1, h3⟩ := CF i bx hm
    obtain⟨j', VE, h3'⟩ := CF i' bx' Qf
    rw[h3] at hβ
    rw[h3'] at hβ'
    rw[h1, VE, YR.inj j j' b ob ob' hβ hβ']
  · intro i cells hm c hc i' hi'
    exact .inr (hri i cells hm c hc i' hi')
  · intro i hi
    right
    cases hT : Si P o.type
    · rw[hT] at T9 hi
      have h1 : ws.length = 1 := Nat.eq_of_beq_eq_true T9
      match ws, h1 with
      | [v], _ =>
        refine hrs v (by simp) i ?_
        have : B7 v = Cj v := by
          have hn := hnt v (by simp)
          cases v <;> first | rfl | exact absurd rfl (hn _)
        rw[← this]
        exact hi
    · rw[hT] at hi
      obtain⟨v, hv, hi⟩ := List.mem_flatMap.1 (show i ∈ ws.flatMap Cj from hi)
      exact hrs v hv i hi
end
open Go.RowKit
section
variable {R:Type} {r:R} {P:Program} {N:Nat} {w0:World} {X0:Fp} {Y:Nat->Prop} {β β':Bt} {s:St} {a:Act} {w w':World} {o:Oper} {A:Nat->Prop}
theorem B4.move (h:B4 N w0 X0 Y β s a w){id d:Nat}{c cells:List PV}{bo:Option (Nat × Nat)} {v:PV}{val:Value}(h0:s.hp id=some (.ar false c)) (hd:s.hp d=none)(hdN:d<N)
  (hos:w'.os=w.os)(htp:w'.tape=w.tape)(YR:w'.output=w.output)(Acd:w.heap.size<=w'.heap.size)
  (Ou:∀k,k<w.heap.size->(∀x,β id≠some (k,x))->w'.heap[k]?=w.heap[k]?) (OL:∀k,k<w.heap.size->bsz w k<=bsz w' k)
  (YC:∀k x,bo=some (k,x)->k<w'.heap.size∧(w.heap.size<=k∨∃y,β id=some (k,y)))
  (hbr:∀k x,bo=some (k,x)->k<w.heap.size->β id=some (k,x))
  (hO:∀k y,β id=some (k,y)->k<w.heap.size->∀j,j<y->w'.cell? ⟨k,j,none⟩=w.cell? ⟨k,j,none⟩∧w'.frozen? ⟨k,j,none⟩=w.frozen? ⟨k,j,none⟩)
  (Mx:Tv w' (Db (Da (Da s.hp id (some .mv)) d (some (.ar false cells))) (Da β d bo) Y) (Da β d bo) d (.ar false cells))
  (hv:Ed w' (Db (Da (Da s.hp id (some .mv)) d (some (.ar false cells))) (Da β d bo) Y) (Da β d bo) v val) (hr:∀i∈B7 v,i=d):
  B4 N w0 X0 Y (Da β d bo) ⟨Da s.tm d v,Da (Da s.hp id (some .mv)) d (some (.ar false cells))⟩ (a.put (some d) val) w':=by
 have F9:id≠d:=by rintro rfl;rw[h0] at hd;cases hd
 have Agl:∀i,i≠id->i≠d->Da (Da s.hp id (some Bx.mv)) d (some (.ar false cells)) i=s.hp i:=fun i h1 h2=>by rw[Am _ _ h2,Am _ _ h1]
 have At4:Da (Da s.hp id (some Bx.mv)) d (some (.ar false cells)) id=some .mv:=by rw[Am _ _ F9,Au]
 have hgd:Da (Da s.hp id (some Bx.mv)) d (some (.ar false cells)) d=some (.ar false cells):=Au _ _ _
 have U7:∀i,s.hp i≠none->Da (Da s.hp id (some Bx.mv)) d (some (.ar false cells)) i≠none:=by
  intro i hi;by_cases e:i=id
  ·subst e;rw[At4];simp
  ·by_cases e':i=d
   ·subst e';rw[hgd];simp
   ·rw[Agl i e e'];exact hi
 have hβo:∀i,s.hp i≠none->Da β d bo i=β i:=fun i hi=>Am _ _ (by rintro rfl;exact hi hd)
 have Add:Cs (s.hp id):=by rw[h0];trivial
 have Iv:∀i,Cs (Da (Da s.hp id (some Bx.mv)) d (some (.ar false cells)) i)->i=d∨(i≠id∧i≠d∧Cs (s.hp i)):=by
  intro i hi;by_cases e':i=d
  ·exact .inl e'
  ·by_cases e:i=id
   ·subst e;rw[At4] at hi;exact hi.elim
   ·rw[Agl i e e'] at hi;exact .inr ⟨e,e',hi⟩
 have hX:∀k,k<w.heap.size->BZ (Da (Da s.hp id (some .mv)) d (some (.ar false cells))) (Da β d bo) k->BZ s.hp β k:=by
  rintro k hk ⟨i,x,hl,hβ⟩
  rcases Iv i hl with rfl|⟨e,e',hl⟩
  ·rw[Au] at hβ;rcases (YC k x hβ).2 with Iu|⟨y,hy⟩
   ·omega
   ·exact⟨id,y,Add,hy⟩
  ·rw[Am _ _ e'] at hβ;exact⟨i,x,hl,hβ⟩
 have hAo:∀k,k<w.heap.size->Db (Da (Da s.hp id (some .mv)) d (some (.ar false cells))) (Da β d bo) Y k->Db s.hp β Y k:=fun k hk hx=>hx.imp (hX k hk) (fun y=>y)
 have Gk:Co (Db s.hp β Y) w w':=⟨Acd,fun k hk hn=>Ou k hk fun x hx=>hn (.inl ⟨id,x,Add,hx⟩),OL⟩
 have Aro:∀i k x,i≠id->i≠d->(∃b,s.hp i=some b∧b ≠ .mv)->β i=some (k,x)->k<w.heap.size∧w'.heap[k]?=w.heap[k]?:=by
  rintro i k x e e' ⟨b,hb,hmv⟩ hβ
  have hk:=h.blt i k x (by rw[hb];simp) hβ
  refine⟨hk,Ou k hk fun y hy=>?_⟩
  have Ak9:=h.box i b hb;cases b with
  |st cc=>exact e (h.inj i id k x y (by rw[hb];trivial) Add hβ hy)
  |ar fz cc=>
   cases fz with
   |false=>exact e (h.inj i id k x y (by rw[hb];trivial) Add hβ hy)
   |true=>
    rcases Ak9 with⟨h1,_⟩|⟨k',x',h1,_,_,h4⟩
    ·rw[hβ] at h1;cases h1
    ·rw[hβ] at h1;simp at h1;obtain⟨rfl,rfl⟩:=h1
     exact h4 rfl (.inl ⟨id,y,Add,hy⟩)
  |mv=>exact absurd rfl hmv
 refine⟨by rw[Jn];exact h.dfr,by rw[Hc];exact h.tsz,?_,?_,?_,?_,?_,?_,?_,?_,?_,?_,?_,?_,h.Ylt,?_⟩
 ·intro i hi;show Da s.tm d v i=_;rw[Am _ _ (by omega)]
  exact h.tmo i hi
 ·refine Sf (d:=some d) (Q:=fun _ p u=>Ed w' (Db (Da (Da s.hp id (some .mv)) d (some (.ar false cells))) (Da β d bo) Y) (Da β d bo) p u) h.tsz (by simp[Ih,Nat.blt];omega) (fun i hi=>?_) (fun _=>hv)
  exact (h.tms i hi).step Gk hAo fun j hj=>hβo j (h.wfT i hi j hj)
 ·intro i bi hb;simp only at hb;by_cases e':i=d
  ·subst e';rw[hgd] at hb;cases hb;exact Mx
  ·by_cases e:i=id
   ·subst e;rw[At4] at hb;cases hb;trivial
   ·rw[Agl i e e'] at hb;have hβi:=hβo i (by rw[hb];simp)
    have MS:=h.box i bi hb;cases bi with
    |st cc=>
     obtain⟨k,x,h1,h2,h3⟩:=MS;obtain⟨hk,CP⟩:=Aro i k x e e' ⟨_,hb,by simp⟩ h1
     refine⟨k,x,by rw[hβi];exact h1,fun j p hj=>?_,fun j hj=>?_⟩
     ·obtain⟨u,hu,hc⟩:=h2 j p hj;exact⟨u,by rw[World.cell?_of_block (w:=w) CP];exact hu,hc.step Gk hAo fun q hq=>hβo q (h.wfB i cc hb p (List.mem_of_getElem? hj) q hq)⟩
     ·rw[World.frozen?_of_block (w:=w) CP];exact h3 j hj
    |ar fz cc=>
     rcases MS with⟨h1,h2⟩|⟨k,x,h1,h2,h3,h4⟩
     ·exact .inl ⟨by rw[hβi];exact h1,h2⟩
     ·obtain⟨hk,CP⟩:=Aro i k x e e' ⟨_,hb,by simp⟩ h1
      refine .inr ⟨k,x,by rw[hβi];exact h1,fun j p hj=>?_,fun ef j hj Xe=>?_,fun ef hx=>h4 ef (hAo k hk hx)⟩
      ·obtain⟨u,hu,h5,hc⟩:=h2 j p hj;exact⟨u,by rw[World.cell?_of_block (w:=w) (by rw[G9];exact CP)];exact hu,h5,hc.step Gk hAo⟩
      ·rw[World.frozen?_of_block (w:=w) CP];refine h3 ef j hj ?_;unfold bsz at Xe ⊢;rw[CP] at Xe;exact Xe
    |mv=>trivial
 ·intro i i' k x y hl Nj hb Ip;simp only at hl Nj
  have key:∀j z,j≠id->j≠d->Cs (s.hp j)->β j=some (k,z)->bo=some (k,y)∨bo=some (k,x)->False:=by
   intro j z e e' hlj hβj hbk;have hk:=h.blt j k z (Dg hlj) hβj;have:∃t,bo=some (k,t):=by rcases hbk with q|q<;>exact⟨_,q⟩
   obtain⟨t,ht⟩:=this;rcases (YC k t ht).2 with Iu|⟨q,hq⟩
   ·omega
   ·exact e (h.inj j id k z q hlj Add hβj hq)
  rcases Iv i hl with rfl|⟨e,e',Vc⟩
  ·rcases Iv i' Nj with rfl|⟨e2,e2',Azj⟩
   ·rfl
   ·rw[Au] at hb;rw[Am _ _ e2'] at Ip;exact (key i' y e2 e2' Azj Ip (.inr hb)).elim
  ·rcases Iv i' Nj with rfl|⟨e2,e2',Azj⟩
   ·rw[Au] at Ip;rw[Am _ _ e'] at hb;exact (key i x e e' Vc hb (.inl Ip)).elim
   ·rw[Am _ _ e'] at hb;rw[Am _ _ e2'] at Ip;exact h.inj i i' k x y Vc Azj hb Ip
 ·intro i k x hi hb;simp only at hi;by_cases e':i=d
  ·subst e';rw[Au] at hb;exact (YC k x hb).1
  ·rw[Am _ _ e'] at hb
   have hi':s.hp i≠none:=by
    by_cases e:i=id
    ·subst e;rw[h0];simp
    ·rw[Agl i e e'] at hi;exact hi
   exact Nat.lt_of_lt_of_le (h.blt i k x hi' hb) Acd
 ·have:=Sf (d:=some d) (Q:=fun _ p _=>∀j∈B7 p,Da (Da s.hp id (some Bx.mv)) d (some (.ar false cells)) j≠none) (val:=val) (v:=v) h.tsz (by simp[Ih,Nat.blt];omega) (fun i hi j hj=>U7 j (h.wfT i hi j hj)) (fun _ j hj=>by
   rw[hr j hj,hgd];simp)
  exact this
 ·intro i cc hc p hp j hj;simp only at hc;by_cases e':i=d
  ·subst e';rw[hgd] at hc;cases hc
  ·by_cases e:i=id
   ·subst e;rw[At4] at hc;cases hc
   ·rw[Agl i e e'] at hc;exact U7 j (h.wfB i cc hc p hp j hj)
 ·rintro k ⟨i,x,hl,hβ⟩
  rcases Iv i hl with rfl|⟨e,e',hl⟩
  ·rw[Au] at hβ;rcases (YC k x hβ).2 with Iu|⟨y,hy⟩
   ·exact .inr (Nat.le_trans h.fr.step.size Iu)
   ·exact h.ownd k ⟨id,y,Add,hy⟩
  ·rw[Am _ _ e'] at hβ;exact h.ownd k ⟨i,x,hl,hβ⟩
 ·intro i bi k x MS hli hβ Cd j hj;simp only at MS;rcases Iv i (by rw[MS];exact hli) with rfl|⟨e,e',hl⟩
  ·rw[Au] at hβ;rw[hgd] at MS;cases MS;have:=hbr k x hβ (Nat.lt_of_lt_of_le Cd h.fr.step.size);exact h.rngB id (.ar false c) k x h0 trivial this Cd j hj
  ·rw[Agl i e e'] at MS;rw[Am _ _ e'] at hβ;exact h.rngB i bi k x MS hli hβ Cd j hj
 ·intro i hi;exact⟨U7 _ (h.pin i hi).1,by rw[hβo _ (h.pin i hi).1];exact (h.pin i hi).2⟩
 ·intro i cc k x MS hβ Cd;simp only at MS;rcases Iv i (by rw[MS];trivial) with rfl|⟨e,e',hl⟩
  ·rw[hgd] at MS;cases MS
  ·rw[Agl i e e'] at MS;rw[Am _ _ e'] at hβ;exact h.stp i cc k x MS hβ Cd
 ·intro k hY hx;exact h.Yx k hY (hX k (Nat.lt_of_lt_of_le (h.Ylt k hY) h.fr.step.size) hx)
 ·refine⟨hos.trans h.fr.os,htp.trans h.fr.tape,YR.trans h.fr.output,⟨Nat.le_trans h.fr.step.size Acd,fun k hk hnk=>?_,fun k hk=>Nat.le_trans (h.fr.step.bs k hk) (OL k (Nat.lt_of_lt_of_le hk h.fr.step.size))⟩,fun k j hk hL=>?_⟩
  ·rw[Ou k (Nat.lt_of_lt_of_le hk h.fr.step.size) ?_]
   ·exact h.fr.step.keep k hk hnk
   ·intro x hx;rcases h.ownd k ⟨id,x,Add,hx⟩ with hq|hq
    ·exact hnk hq
    ·omega
  ·have hkw:=Nat.lt_of_lt_of_le hk h.fr.step.size
   have Wi:w'.cell? ⟨k,j,none⟩=w.cell? ⟨k,j,none⟩∧w'.frozen? ⟨k,j,none⟩=w.frozen? ⟨k,j,none⟩:=by
    by_cases e:∃y,β id=some (k,y)
    ·obtain⟨y,hy⟩:=e;refine hO k y hy hkw j ?_;rcases Nat.lt_or_ge j y with q|q
     ·exact q
     ·exact absurd (h.rngB id (.ar false c) k y h0 trivial hy hk j q) hL
    ·have CP:=Ou k hkw (fun x hx=>e ⟨x,hx⟩)
     exact⟨World.cell?_of_block (w:=w) CP,World.frozen?_of_block (w:=w) CP⟩
   rw[Wi.1,Wi.2];exact h.fr.rng k j hk hL
end
open Go.RowKit
section
variable {R:Type} {r:R} {P:Program} {N:Nat} {w0:World} {X0:Fp} {Y:Nat->Prop} {β β':Bt} {s:St} {a:Act} {w w':World} {o:Oper} {A:Nat->Prop}
structure Src (P:Program) (w:World) (A:Nat->Prop) (size:Nat) (xv:Value) (m:Nat) (new:List PV) (news:List Value):Prop where
 len:∀w':World,(Builtin.lenOf xv).run P w'=.ok m w'
 cells:∀w':World,(∀b,b<w.heap.size->w'.heap[b]?=w.heap[b]?)->(Builtin.firstCells size m xv).run P w'=.ok news.toArray w'
 part:∀k,k<=m->(Builtin.firstCells size k xv).run P w=.ok (news.take (k*size)).toArray w
 one:∀u∈news,u.oneCell'=true
 rep:Bw (Aw w A) new news
theorem PS (h:B4 N w0 X0 Y β s a w){e tx:TypeId}{x:Operand}{K:Nat->List PV->Option R}(hk:Afo P s (Bl P e) tx (Ct s.tm x) K=some r)
  (h1c:∀m new,K m new=some r->new.length=m*Bl P e):
  (∃d,P.underlying tx=some d∧(∀k,d ≠ .int k))∧∃m new news,K m new=some r∧Src P w (Db s.hp β Y) (Bl P e) (a.eval x) m new news:=by
 unfold Afo Af3 at hk;split at hk
 ·rename_i hu;obtain⟨KE,hk⟩:=As hk;have KE:=Nat.eq_of_beq_eq_true KE;obtain⟨b,hx,hk⟩:=El hk;have D3:=Dc h hx;refine⟨⟨_,hu,by simp⟩,b.size,Fo b,b.data.toList.map (fun y=>Value.int .u8 y.toNat),hk,?_,?_,?_,?_,?_⟩
  ·intro w';rw[D3];rfl
  ·intro w' _;rw[D3]
   have hx:b.data.extract 0 b.size=b.data:=by
    have:b.size=b.data.size:=rfl;rw[this,Array.extract_size]
   have hd:(b.extract 0 b.size).data=b.data:=by
    rw[ByteArray.extract_zero_size]
   simp only[Builtin.firstCells,hd];rw[←Array.toList_map,Array.toArray_toList];rfl
  ·intro k Iu;rw[D3,KE,Nat.mul_one];have hd:(b.extract 0 k).data=b.data.extract 0 k:=ByteArray.data_extract
   have e1:(b.data.extract 0 k).map (fun y=>Value.int .u8 y.toNat)=((b.data.toList.map fun y=>Value.int .u8 y.toNat).take k).toArray:=by
    apply Array.toList_inj.1;simp[List.map_take]
   simp only[Builtin.firstCells,hd];rw[e1];rfl
  ·intro u hu;simp at hu;obtain⟨y,_,rfl⟩:=hu;rfl
  ·unfold Fo;generalize b.data.toList=l
   induction l with
   |nil=>trivial
   |cons y l ih=>exact⟨Aw.sc _,ih⟩
 ·rename_i e' hu;refine⟨⟨_,hu,by simp⟩,?_⟩
  obtain⟨m,new,hk,hc⟩:=Aay h hk;have Gv:=h1c m new hk;rcases hc with⟨⟨ad,D3⟩,rfl,rfl⟩|⟨ad,cap,D3,hn,Cd,hrd⟩
  ·have f0:∀w':World,(Builtin.firstCells (Bl P e) 0 (.slice ad 0 0)).run P w'=.ok #[] w':=fun w'=>by
    cases ad with
    |none=>rfl
    |some p=>exact run_firstCells_some (P:=P) w' (Bl P e) 0 p 0 0 [] (by simp) (fun j v hj=>by simp at hj)
   exact⟨0,[],[],hk,fun w'=>by rw[D3];rfl,fun w' _=>by rw[D3];exact f0 w',fun k Iu=>by rw[D3,Nat.le_zero.1 Iu,List.take_nil];exact f0 w,by simp,trivial⟩
  ·refine⟨m,new,new.mapIdx (fun j _=>(w.cell? (ad.add j)).getD undef),hk,fun w'=>by rw[D3];rfl,fun w' hw=>?_,fun k Iu=>?_,?_,?_⟩
   ·rw[D3];refine run_firstCells_some (P:=P) w' (Bl P e) m ad m cap _ (by simp[Gv]) fun j v hj=>?_
    rw[List.getElem?_mapIdx] at hj;cases hc:new[j]? with
    |none=>rw[hc] at hj;cases hj
    |some c=>
     rw[hc] at hj;simp at hj;obtain⟨u,hu,_⟩:=hrd j c hc;rw[hu] at hj;simp at hj;subst hj;have Cd:ad.block<w.heap.size:=by rcases Cd with rfl|Cd<;>first|exact Cd|simp at hc
     rw[World.cell?_of_block (w:=w) (by rw[G9];exact hw _ Cd)]
     exact hu
   ·rw[D3];have hkm:k*Bl P e<=m*Bl P e:=Nat.mul_le_mul_right _ Iu;refine run_firstCells_some (P:=P) w (Bl P e) k ad m cap _ (by rw[List.length_take,List.length_mapIdx,Gv];omega) fun j v hj=>?_
    rw[List.getElem?_take] at hj;split at hj
    ·rw[List.getElem?_mapIdx] at hj;cases hc:new[j]? with
     |none=>rw[hc] at hj;cases hj
     |some c=>
      rw[hc] at hj;simp at hj;obtain⟨u,hu,_⟩:=hrd j c hc;rw[hu] at hj;simp at hj;subst hj;exact hu
    ·cases hj
   ·intro u hu;obtain⟨j,hj⟩:=List.mem_iff_getElem?.1 hu;rw[List.getElem?_mapIdx] at hj;cases hc:new[j]? with
    |none=>rw[hc] at hj;cases hj
    |some c=>
     rw[hc] at hj;simp at hj;obtain⟨v,hv,h2,ht⟩:=hrd j c hc;rw[hv] at hj;simp at hj;subst hj;exact h2
   ·refine Bw.of_at (by simp) fun j c v hc hj=>?_
    rw[List.getElem?_mapIdx,hc] at hj;simp at hj;obtain⟨u,hu,_,ht⟩:=hrd j c hc;rw[hu] at hj;simp at hj;subst hj;exact ht
 ·cases hk
theorem QI {e:TypeId}(h:ZY P e=true):∃i z,P.info? e=some i∧i.zero=some z∧z.cells.size=i.size∧Bl P e=i.size:=by
 unfold ZY at h;split at h
 ·rename_i i hi;split at h
  ·rename_i z hz;exact⟨i,z,hi,hz,Nat.eq_of_beq_eq_true h,by simp[Bl,hi]⟩
  ·cases h
 ·cases h
theorem LJ {es n cap:Nat}{ad:Option Addr}{olds:List Value}(h:(ad=none∧olds=[])∨∃p,ad=some p∧olds.length=n*es∧∀(j:Nat) v,olds[j]?=some v->w.cell? (p.add j)=some v):
  (Builtin.firstCells es n (.slice ad n cap)).run P w=.ok olds.toArray w:=by
 rcases h with⟨rfl,rfl⟩|⟨p,rfl,hl,hc⟩
 ·rfl
 ·exact run_firstCells_some (P:=P) w es n p n cap olds hl hc
theorem Pa {t tx ty e:TypeId}{i:TypeInfo}{z:Value}{d:TypeDesc}{ts:List TypeId}(ht:P.underlying t=some (.slice e)) (htx:P.underlying tx=some d)(hd:∀k,d ≠ .int k)(hi:P.info? e=some i)(hz:i.zero=some z)
  {ad:Option Addr} {n cap m:Nat} {xv:Value} {olds news:List Value} {A:Nat->Prop} {new:List PV} (hs:Src P w A i.size xv m new news)
  (hold:(ad=none∧olds=[])∨∃p,ad=some p∧olds.length=n*i.size∧∀(j:Nat) v,olds[j]?=some v->w.cell? (p.add j)=some v)
  (hg:cap<n+m)(hb:(n+m)*i.bytes<=1099511627776) (h63:n+m<=1099511627776):
  (Builtin.append_ (t::tx::ts).toArray ty #[.slice ad n cap,xv]).run P w =
   .ok (.slice (some ⟨w.heap.size,0,none⟩) (n+m) (grownCap w (n+m) cap e)) (w.drew.alloc (.cells (olds.toArray++news.toArray++Builtin.zeroCells z.cells (grownCap w (n+m) cap e-(n+m))) e)):=by
 have h1:=hs.len w;have h2:(Builtin.firstCells i.size m xv).run P w.drew=.ok news.toArray w.drew:=hs.cells w.drew (fun _ _=>rfl)
 have h3:(Builtin.firstCells i.size n (.slice ad n cap)).run P w.drew=.ok olds.toArray w.drew:=LJ (w:=w.drew) (by
  rcases hold with hh|⟨p,hp,hl,hc⟩
  ·exact .inl hh
  ·exact .inr ⟨p,hp,hl,fun j v hj=>hc j v hj⟩)
 have Alw:=growslice_fits (need:=n+m) (old:=cap) (bytes:=i.bytes) hg (by omega)
 have hn:¬(n+m<=cap):=by omega
 have At8:¬(9223372036854775807<((n:Int)+(m:Int))):=by omega
 have Asp:¬(281474976710656<Builtin.nextslicecap (n+m) cap*i.bytes):=by omega
 have OY:(match d with | .int _=>true|_=>false)=false:=by cases d<;>first|rfl|exact absurd rfl (hd _)
 simp[Builtin.append_,run_underlying ht,run_underlying htx,OY,sizeOf,typeInfo,zeroValue,hi,hz,h1,hn,At8,Asp,Question.forced,h2,h3,newRow,grownCap]
 congr 2
 apply Array.ext';simp[List.append_assoc]
theorem LH {t tx ty e:TypeId}{i:TypeInfo}{d:TypeDesc}{ts:List TypeId}(ht:P.underlying t=some (.slice e)) (htx:P.underlying tx=some d)(hd:∀k,d ≠ .int k)(hi:P.info? e=some i)
  {b ob n cap m:Nat} {xv:Value} {news:List Value} {A:Nat->Prop} {new:List PV} (hs:Src P w A i.size xv m new news) (hl:news.length=m*i.size)
  (hcell:∀k,k<news.length->(w.cell? ⟨b,ob+n*i.size+k,none⟩).isSome=true) (TJ:∀k,k<news.length->w.frozen? ⟨b,ob+n*i.size+k,none⟩=false)(hg:n+m<=cap):
  (Builtin.append_ (t::tx::ts).toArray ty #[.slice (some ⟨b,ob,none⟩) n cap,xv]).run P w=.ok (.slice (some ⟨b,ob,none⟩) (n+m) cap) (w.setCells b (ob+n*i.size) news):=by
 have h1:=hs.len w;have h2:(Builtin.firstCells i.size m xv).run P w=.ok news.toArray w:=hs.cells w (fun _ _=>rfl)
 have h3:=run_storeCells_cells (P:=P) b (ob+n*i.size) news 0 w (fun k hk=>by simpa using hcell k hk) (fun k hk=>by simpa using TJ k hk) hs.one
 have OY:(match d with | .int _=>true|_=>false)=false:=by cases d<;>first|rfl|exact absurd rfl (hd _)
 have _:=hl;simp[Builtin.append_,run_underlying ht,run_underlying htx,OY,sizeOf,typeInfo,hi,h1,hg,h2,Er];rw[h3];simp
theorem Ac6 {t ty e:TypeId}{i:TypeInfo}{ts:List TypeId}(ht:P.underlying t=some (.slice e)) (hi:P.info? e=some i)
  {ad:Option Addr} {n cap m:Nat} {xv:Value} {news:List Value} {A:Nat->Prop} {new:List PV} (hs:Src P w A i.size xv m new news)
  {w1:World} (Gk:(match ad with|some p=>storeCells p (news.take (min m n*i.size)) 0|none=>pure ()).run P w=.ok () w1):
  (Builtin.copy_ (t::ts).toArray ty #[.slice ad n cap,xv]).run P w=.ok (goInt ((min m n:Nat):Int)) w1:=by
 have h1:=hs.len w;have h2:=hs.part (min m n) (Nat.min_le_left _ _);have e:Nat.min m n=min m n:=rfl;generalize min m n=k at *
 cases ad with
 |none=>
  simp only at Gk;simp[Builtin.copy_,run_underlying ht,sizeOf,typeInfo,hi,h1,h2,e]
  simpa using Gk
 |some p=>
  simp only at Gk;simp[Builtin.copy_,run_underlying ht,sizeOf,typeInfo,hi,h1,h2,e,Gk]
theorem IC {t tx ty e:TypeId}{i:TypeInfo}{k kx:IntKind}{ts:List TypeId}(ht:P.underlying t=some (.slice e)) (htx:P.underlying tx=some (.int k)) (hi:P.info? e=some i):
  (Builtin.append_ (t::tx::ts).toArray ty #[.slice none 0 0,.int kx 0]).run P w=.ok (.slice none 0 0) w:=by
 have hw:IntKind.i64.wrap 0=0:=by decide
 simp[Builtin.append_,run_underlying ht,run_underlying htx,sizeOf,typeInfo,hi,asInt,asIntOf,hw]
theorem MQ {t tx ty e:TypeId}{i:TypeInfo}{z:Value}{k kx:IntKind}{ts:List TypeId}(ht:P.underlying t=some (.slice e)) (htx:P.underlying tx=some (.int k)) (hi:P.info? e=some i)(hz:i.zero=some z)
  {n:Int} (h0:0<n) (hb:n.toNat*i.bytes<=1099511627776) (hn:n<=1099511627776):
  (Builtin.append_ (t::tx::ts).toArray ty #[.slice none 0 0,.int kx n]).run P w =
   .ok (.slice (some ⟨w.heap.size,0,none⟩) n.toNat (grownCap w n.toNat 0 e)) (w.drew.alloc (.cells ((if n.toNat*i.size=0 then #[] else Builtin.zeroCells z.cells n.toNat)++Builtin.zeroCells z.cells (grownCap w n.toNat 0 e-n.toNat)) e)):=by
 have hw:IntKind.i64.wrap n=n:=IntWalk.i64_in n (by omega)
 have Alw:=growslice_fits (need:=n.toNat) (old:=0) (bytes:=i.bytes) (by omega) (by omega)
 have NC:¬n<0:=by omega
 have U7:¬(281474976710656<n*(i.bytes:Int)):=by
  have:n*(i.bytes:Int)=((n.toNat*i.bytes:Nat):Int):=by
   rw[Int.natCast_mul,Int.toNat_of_nonneg (by omega)]
  omega
 have hz0:¬(n.toNat=0):=by omega
 have At8:¬(9223372036854775807<(n.toNat:Int)):=by omega
 have Asp:¬(281474976710656<Builtin.nextslicecap n.toNat 0*i.bytes):=by omega
 have Xa:¬n<=0:=by omega
 have hmx:¬(9223372036854775807<max n 0):=by omega
 by_cases hs:n.toNat*i.size=0
 ·simp[Builtin.append_,run_underlying ht,run_underlying htx,sizeOf,typeInfo,zeroValue,hi,hz,asInt,asIntOf,hw,NC,U7,hz0,Xa,hmx,At8,Asp,Question.forced,hs,newRow,grownCap,Builtin.firstCells]
 ·simp[Builtin.append_,run_underlying ht,run_underlying htx,sizeOf,typeInfo,zeroValue,hi,hz,asInt,asIntOf,hw,NC,U7,hz0,Xa,hmx,At8,Asp,Question.forced,hs,newRow,grownCap,Builtin.firstCells]
theorem Pe {t tx ty e:TypeId}{i:TypeInfo}{d:TypeDesc}{ts:List TypeId}(ht:P.underlying t=some (.slice e)) (htx:P.underlying tx=some d)(hd:∀k,d ≠ .int k)(hi:P.info? e=some i)
  {ad:Option Addr} {xv:Value} {news:List Value} {A:Nat->Prop} {new:List PV} (hs:Src P w A i.size xv 0 new news) (h0:news=[]):
  (Builtin.append_ (t::tx::ts).toArray ty #[.slice ad 0 0,xv]).run P w=.ok (.slice ad 0 0) w:=by
 subst h0;have h1:=hs.len w;have h2:(Builtin.firstCells i.size 0 xv).run P w=.ok ([]:List Value).toArray w:=hs.cells w (fun _ _=>rfl)
 have OY:(match d with | .int _=>true|_=>false)=false:=by cases d<;>first|rfl|exact absurd rfl (hd _)
 cases ad<;>simp[Builtin.append_,run_underlying ht,run_underlying htx,OY,sizeOf,typeInfo,hi,h1,h2,storeCells]
end
open Go.RowKit
section
variable {R:Type} {r:R} {P:Program} {N:Nat} {w0:World} {X0:Fp} {Y:Nat->Prop} {β β':Bt} {s:St} {a:Act} {w w':World} {o:Oper} {A:Nat->Prop}
theorem An7 {b j:Nat}(h:j<bsz w b):(w.cell? ⟨b,j,none⟩).isSome=true:=by
 unfold bsz at h;unfold World.cell?;split at h
 ·rename_i c e fz hb;simp[hb,h]
 ·omega
theorem Ae4 {id d:Nat}{c cells:List PV}{bo:Option (Nat × Nat)} (h0:s.hp id=some (.ar false c)) (hd:s.hp d=none)
  (YC:∀k x,bo=some (k,x)->w.heap.size<=k∨∃y,β id=some (k,y)):
  ∀k,k<w.heap.size->Db (Da (Da s.hp id (some .mv)) d (some (.ar false cells))) (Da β d bo) Y k->Db s.hp β Y k:=by
 rintro k hk (⟨i,x,hl,hβ⟩|hY)
 ·by_cases e':i=d
  ·subst e';rw[Au] at hβ;rcases YC k x hβ with h|⟨y,hy⟩
   ·omega
   ·exact .inl ⟨id,y,by rw[h0];trivial,hy⟩
  ·rw[Am _ _ e'] at hl hβ;by_cases e:i=id
   ·subst e;rw[Au] at hl;exact hl.elim
   ·rw[Am _ _ e] at hl;exact .inl ⟨i,x,hl,hβ⟩
 ·exact .inr hY
theorem PG {pre new:List PV}{olds news:List Value}{zs:Array Value}{e:TypeId}{A':Nat->Prop}(hg:Id w w' (olds.toArray++news.toArray++zs) e) (hA:∀b,b<w.heap.size->A' b->A b)
  (h1:Bw (Aw w A) pre olds) (h2:Bw (Aw w A) new news) (ho:∀u∈olds,u.oneCell'=true)(hn:∀u∈news,u.oneCell'=true):TN w' A' ⟨w.heap.size,0,none⟩ (pre++new):=by
 refine Ahv hg hA fun j p hj=>?_
 obtain⟨v,hv,ht⟩:=(h1.app h2).get hj;refine⟨v,?_,?_,ht⟩
 ·have Cd:j<(olds++news).length:=by
   rcases Nat.lt_or_ge j (olds++news).length with h|h
   ·exact h
   ·rw[List.getElem?_eq_none h] at hv;cases hv
  rw[Array.getElem?_append_left (by simpa using Cd)]
  simpa using hv
 ·rcases List.mem_append.1 (List.mem_of_getElem? hv) with hm|hm
  ·exact ho v hm
  ·exact hn v hm
theorem YI (h:B4 N w0 X0 Y β s a w){c:Call}(ho:o.op=.call c)(hc:c.callee=.builtin .append)(hnb:EG c=true){d:Nat}(Akq:o.dst=some d){b x:Operand}(Es:c.args.toList=[b,x]) {t tx:TypeId}{ts:List TypeId}(LQ:c.argTypes.toList=t::tx::ts)
  {K:PV->List (Nat × Bx)->Option R} (hk:Y8 P (M4 s.hp) d t tx (Ct s.tm x) K=some r):∃v nw,K v nw=some r∧F3 P a w o Y β s v [] nw:=by
 have hb:b=.const (.slice none 0 0):=by
  unfold EG at hnb;rw[Es] at hnb;split at hnb
  ·rename_i e;injection e
  ·cases hnb
 have NY:c.args = #[b,x]:=by
  have:c.args=([b,x]:List Operand).toArray:=by rw[←Es]
  exact this
 have Aaw:c.argTypes=(t::tx::ts).toArray:=by rw[←LQ]
 have Tp:a.eval b=.slice none 0 0:=by rw[hb];rfl
 have run:∀{v:Value} {w1:World},(Builtin.append_ (t::tx::ts).toArray o.type #[a.eval b,a.eval x]).run P w=.ok v w1->(execOp a.eval o).run P w=.ok (.value v) w1:=by
  intro v w1 hr;unfold execOp;rw[ho];simp only[resolve,hc,invoke,builtin,Sem.run_bind,Sem.run_pure,Result.andThen_ok,NY,Aaw];have:(#[b,x]:Array Operand).map a.eval = #[a.eval b,a.eval x]:=by simp
  rw[this,hr];rfl
 unfold Y8 at hk;split at hk
 ·rename_i e hu;obtain⟨hzi,hk⟩:=As hk;obtain⟨i,z,hi,hz,hzs,Ku⟩:=QI hzi;have Xu:((P.info? e).map (·.bytes)).getD 0=i.bytes:=by rw[hi];rfl
  obtain⟨⟨dx,hdx,Ads⟩,m,new,news,hk,hs⟩:=PS (s:=s) h hk (fun m new Iu=>by
   obtain⟨hb,_⟩:=As Iu;simp only[Bool.and_eq_true,decide_eq_true_eq] at hb;exact hb.1.1)
  obtain⟨Ip,hk⟩:=As hk;simp only[Bool.and_eq_true,decide_eq_true_eq] at Ip;obtain⟨⟨Aiw,hby⟩,hnm⟩:=Ip;have hnl:new.length=news.length:=hs.rep.len;rw[Ku] at Aiw hk hs;rw[Xu] at hby;have JC:news.length=m*i.size:=by omega
  refine⟨_,_,hk,by simp,?_⟩
  by_cases hm0:m=0
  ·subst hm0;have hr:=Pe (P:=P) (w:=w) (t:=t) (tx:=tx) (ty:=o.type) (ts:=ts) (ad:=none) hu hdx Ads hi hs (List.eq_nil_of_length_eq_zero (by omega))
   rw[←Tp] at hr;have Abh:new=[]:=List.eq_nil_of_length_eq_zero (by omega)
   subst Abh;refine⟨_,_,run hr,fun Ao5=>⟨Da β d none,?_⟩⟩
   have DI:s.hp d=none:=(B5 Ao5).1 d _ (List.mem_singleton_self _);rw[Tp];refine⟨rfl,rfl,rfl,Co.refl _ _,fun j hj=>Am _ _ (by rintro rfl;exact hj DI),?_,?_,?_,?_,?_,.inl ⟨Au _ _ _,rfl,rfl,none,rfl⟩,?_⟩
   ·intro j bx hm;simp at hm;rw[hm.2];trivial
   ·intro j bx hm;simp at hm;obtain⟨rfl,rfl⟩:=hm;exact .inl ⟨Au _ _ _,rfl⟩
   ·intro j bx k q hm hq;simp at hm;obtain⟨rfl,rfl⟩:=hm;rw[Au] at hq;cases hq
   ·intro j bx j' bx' k q q' hm Qf _ _;simp at hm Qf;rw[hm.1,Qf.1]
   ·intro j cells hm;simp at hm
   ·intro j hj;simp[B7,Cj,Av] at hj;subst hj;exact .inr ⟨.ar false [],by simp⟩
  ·have hr:=Pa (P:=P) (w:=w) (t:=t) (tx:=tx) (ty:=o.type) (ts:=ts) (ad:=none) (n:=0) (cap:=0) (olds:=[]) hu hdx Ads hi hz hs (.inl ⟨rfl,rfl⟩) (by omega) (by rw[Nat.zero_add];exact hby) (by omega)
   rw[←Tp] at hr;refine⟨_,_,run hr,fun Ao5=>⟨Da β d (some (w.heap.size,0)),?_⟩⟩
   have DI:s.hp d=none:=(B5 Ao5).1 d _ (List.mem_singleton_self _);have hge:0+m<=grownCap w (0+m) 0 e:=grownCap_ge w (0+m) 0 e
   have BS:Id w (w.drew.alloc (.cells (([]:List Value).toArray++news.toArray++Builtin.zeroCells z.cells (grownCap w (0+m) 0 e-(0+m))) e)) (([]:List Value).toArray++news.toArray++Builtin.zeroCells z.cells (grownCap w (0+m) 0 e-(0+m))) e:=
    ⟨rfl,rfl,rfl,fun k hk=>Below.heap_alloc w.drew _ k hk,by show (w.heap.push _).size=_;simp,(0,0),by show (w.heap.push _)[w.heap.size]?=_;simp,.inl rfl⟩
   have Afv:(([]:List Value).toArray++news.toArray++Builtin.zeroCells z.cells (grownCap w (0+m) 0 e-(0+m))).size=grownCap w (0+m) 0 e*i.size:=by
    simp only[Array.size_append,List.size_toArray,size_zeroCells,hzs,JC,List.length_nil,←Nat.add_mul];rw[Nat.zero_add (m*i.size),←Nat.add_mul]
    congr 1
    omega
   refine Ur (s:=⟨s.tm,Ag s.hp []⟩) BS DI trivial ?_ (fun cells hx=>by cases hx) ?_ (by intro j hj;simp[B7,Cj,Av] at hj;exact .inr hj)
   ·refine .inr ⟨w.heap.size,0,Au _ _ _,?_,fun _ j _ hj=>?_,(fun q=>by cases q)⟩
    ·exact PG (pre:=[]) BS (Ah8 (s:=⟨s.tm,Ag s.hp []⟩) DI) trivial hs.rep (by simp) hs.one
    ·rw[BS.bsz] at hj;exact BS.frozen hj
   ·refine .inr ⟨w.heap.size,0,0,grownCap w (0+m) 0 e,Au _ _ _,by rw[Nat.zero_add],.inl rfl,by omega,?_,by rw[BS.size];omega⟩
    rw[BS.bsz,Afv];omega
 ·cases hk
theorem Aeb {lo hi:Option Operand}{y3:Operand}{k3:IntKind}{len cap l u m:Nat}(hl:(lo=none∧l=0)∨∃y k,lo=some y∧a.eval y=.int k (l:Int))
  (hu:∃y k,hi=some y∧a.eval y=.int k (u:Int)) (hm:a.eval y3=.int k3 (m:Int)) (h1:l<=u)(h2:u<=m)(h3:m<=cap):
  (Instr.sliceBounds true len cap (lo.map a.eval) (hi.map a.eval) (some (a.eval y3))).run P w=.ok (l,u,m) w:=by
 obtain⟨y,k,rfl,hy⟩:=hu;rcases hl with⟨rfl,rfl⟩|⟨y',k',rfl,hy'⟩
 ·simp[Instr.sliceBounds,Instr.sliceBound,asIntOf,hy,hm,h2,h3]
 ·simp[Instr.sliceBounds,Instr.sliceBound,asIntOf,hy,hy',hm,h1,h2,h3]
theorem XT (h:B4 N w0 X0 Y β s a w){t:TypeId}{x m:Operand}{lo hi:Option Operand}(ho:o.op=.slice t x lo hi (some m)) {d:Nat}{K:PV->List (Nat × Bx)->Option R}
  (hk:Zf P d t (Ct s.tm x) (lo.map (Ct s.tm)) (hi.map (Ct s.tm)) (some (Ct s.tm m)) K=some r):∃v nw,K v nw=some r∧F3 P a w o Y β s v [] nw:=by
 have hx:=Dw h x;unfold Zf at hk;split at hk
 ·rename_i e hu;obtain⟨hb,hk⟩:=As hk;simp only[Bool.and_eq_true] at hb;obtain⟨Tb,hhi⟩:=hb
  obtain⟨yh,rfl⟩:∃y,hi=some y:=by
   cases hi with
   |none=>simp at hhi
   |some y=>exact⟨y,rfl⟩
  have fin:∀{ad:Option Addr} {n cap l u q:Nat},a.eval x=.slice ad n cap->n<=cap->((lo=none∧l=0)∨∃y k,lo=some y∧a.eval y=.int k (l:Int))->((some yh=none∧u=n)∨∃y k,some yh=some y∧a.eval y=.int k (u:Int))->(((some m:Option Operand)=none∧q=n)∨∃y k,(some m:Option Operand)=some y∧a.eval y=.int k (q:Int)) ->
    (Nat.beq l q&&Nat.beq u q&&decide (q<=n))=true->F3 P a w o Y β s (.view d (Bl P e) 0 0) [] [(d,.ar false [])]:=by
   intro ad n cap l u q D3 hn hl Lq hq hb;simp only[Bool.and_eq_true,decide_eq_true_eq] at hb;obtain⟨⟨b1,b2⟩,b3⟩:=hb;have b1:=Nat.eq_of_beq_eq_true b1;have b2:=Nat.eq_of_beq_eq_true b2;subst b1 b2
   have hu2:∃y k,(some yh:Option Operand)=some y∧a.eval y=.int k (u:Int):=by
    rcases Lq with⟨e,_⟩|e
    ·cases e
    ·exact e
   obtain⟨k3,hm3⟩:∃k,a.eval m=.int k (u:Int):=by
    rcases hq with⟨e,_⟩|⟨y,k,e,q⟩
    ·cases e
    ·cases e;exact⟨k,q⟩
   have hbr:=Aeb (P:=P) (w:=w) (len:=n) (cap:=cap) hl hu2 hm3 (Nat.le_refl _) (Nat.le_refl _) (by omega)
   have Di:∃ad',(execOp a.eval o).run P w=.ok (.value (.slice ad' 0 0)) w:=by
    unfold execOp;rw[ho];cases ad with
    |none=>exact⟨none,by simp[Instr.sliceAt,Instr.slice,run_underlying hu,D3,hbr,Dj Tb] at hbr ⊢⟩
    |some p=>exact⟨some p,by simp[Instr.sliceAt,Instr.slice,run_underlying hu,D3,hbr,Dj Tb] at hbr ⊢⟩
   obtain⟨ad',Di⟩:=Di;refine⟨by simp,_,_,Di,fun Ao5=>⟨Da β d none,?_⟩⟩
   have DI:s.hp d=none:=(B5 Ao5).1 d _ (List.mem_singleton_self _);refine⟨rfl,rfl,rfl,Co.refl _ _,fun j hj=>Am _ _ (by rintro rfl;exact hj DI),?_,?_,?_,?_,?_,.inl ⟨Au _ _ _,rfl,rfl,ad',rfl⟩,?_⟩
   ·intro j bx hm;simp at hm;rw[hm.2];trivial
   ·intro j bx hm;simp at hm;obtain⟨rfl,rfl⟩:=hm;exact .inl ⟨Au _ _ _,rfl⟩
   ·intro j bx k q hm hq;simp at hm;obtain⟨rfl,rfl⟩:=hm;rw[Au] at hq;cases hq
   ·intro j bx j' bx' k q q' hm Qf _ _;simp at hm Qf;rw[hm.1,Qf.1]
   ·intro j cells hm;simp at hm
   ·intro j hj;simp[B7,Cj,Av] at hj;subst hj;exact .inr ⟨.ar false [],by simp⟩
  split at hk
  ·rename_i id es off n e';rw[e'] at hx;obtain⟨KE,hk⟩:=As hk;obtain⟨l,hk,hl⟩:=Ex h hk;obtain⟨u,hk,Lq⟩:=Ex h hk;obtain⟨q,hk,hq⟩:=Ex (x:=some m) h hk;obtain⟨hb,hk⟩:=As hk;refine⟨_,_,hk,?_⟩;rcases hx with⟨hβ,_,rfl,ad,D3⟩|⟨b,ob,y,cap,hβ,D3,hy,hn,LO,Cd⟩
   ·exact fin D3 (Nat.le_refl _) hl Lq hq hb
   ·exact fin D3 hn hl Lq hq hb
  ·obtain⟨z,n,c,hk,hp⟩:=Hg hk;obtain⟨l,hk,hl⟩:=Ex h hk;obtain⟨u,hk,Lq⟩:=Ex h hk;obtain⟨q,hk,hq⟩:=Ex (x:=some m) h hk;obtain⟨hb,hk⟩:=As hk;refine⟨_,_,hk,?_⟩;rcases slice_form hp hx with⟨D3,rfl,rfl⟩|⟨ad,cap,D3,_,hn,_⟩|⟨ad,cap,D3,_,rfl,rfl⟩
   ·exact fin D3 (Nat.le_refl _) hl Lq hq hb
   ·exact fin D3 hn hl Lq hq hb
   ·exact fin D3 (Nat.zero_le _) hl Lq hq hb
 ·cases hk
end
open Go.RowKit
section
variable {R:Type} {r:R} {P:Program} {N:Nat} {w0:World} {X0:Fp} {Y:Nat->Prop} {β β':Bt} {s:St} {a:Act} {w w':World} {o:Oper} {A:Nat->Prop}
theorem Apl (h:B4 N w0 X0 Y β s a w){G:Us}(Ja:JJ P G w0 X0){C:I3}{call:Ah}(C4:∀f args res,call f args=some res->C7 G P f args res){K:PV->List Nat->List (Nat × Bx)->Option R}
  (hk:PK C P N call s.tm (rd s.hp) (M4 s.hp) o K=some r):∃v fz nw,K v fz nw=some r∧QX P a w o Y β s v fz nw:=by
 have one:∀{K':PV->Option R},(∀v,K' v=some r->K v [] []=some r)->(∃v,K' v=some r∧F3 P a w o Y β s v [] [])->∃v fz nw,K v fz nw=some r∧QX P a w o Y β s v fz nw:=
  fun hK ⟨v,h1,h2⟩=>⟨v,[],[],hK v h1,RB h2⟩
 have many:(∃v fz nw,K v fz nw=some r∧F3 P a w o Y β s v fz nw)->∃v fz nw,K v fz nw=some r∧QX P a w o Y β s v fz nw:=
  fun ⟨v,fz,nw,h1,h2⟩=>⟨v,fz,nw,h1,RB h2⟩
 unfold PK at hk;split at hk
 ·rename_i x ho;exact one (fun _ h=>h) (GG (K:=fun p=>K p [] []) h (Akr ho) hk)
 ·rename_i x ho;exact one (fun _ h=>h) (GG (K:=fun p=>K p [] []) h (Aby ho) hk)
 ·rename_i c x y ho;exact one (fun _ h=>h) (Afd (K:=fun p=>K p [] []) h ho hk)
 ·rename_i t ho;obtain⟨d,hd,hk⟩:=Dl hk;exact many (Abz ho hk)
 ·rename_i t x ho;obtain⟨d,hd,hk⟩:=Dl hk;exact many (Alb h ho hk)
 ·rename_i t ps ho;exact one (fun _ h=>h) (Ad1 (K:=fun p=>K p [] []) h ho hk)
 ·rename_i t n ps ho;obtain⟨d,hd,hk⟩:=Dl hk;exact many (HV h ho hk)
 ·rename_i t x ho;exact one (fun _ h=>h) (Afy (K:=fun p=>K p [] []) h ho hk)
 ·rename_i x ho;exact one (fun _ h=>h) (QF (K:=fun p=>K p [] []) h ho hk)
 ·rename_i op t x y ty ho;exact one (fun _ h=>h) (Acf (K:=fun p=>K p [] []) h ho hk)
 ·rename_i op t x ho;exact one (fun _ h=>h) (Af6 (K:=fun p=>K p [] []) h ho hk)
 ·rename_i src dst x ho;obtain⟨v,nw,hk,hg⟩:=Afl h ho hk;obtain⟨d,hd,hk⟩:=Dl hk;exact⟨v,[],nw,hk,RB hg⟩
 ·rename_i t x y ho;obtain⟨d,hd,hk⟩:=Dl hk;exact many (Ae3 h ho hk)
 ·rename_i t x lo hi mx ho;split at hk
  ·exact one (fun _ h=>h) (Acm (K:=fun p=>K p [] []) h ho hk)
  ·obtain⟨d,hd,hk⟩:=Dl hk;obtain⟨v,nw,h1,h2⟩:=XT h ho hk;exact⟨v,[],nw,h1,RB h2⟩
 ·rename_i t x f ho;exact one (fun _ h=>h) (MG (K:=fun p=>K p [] []) h ho hk)
 ·rename_i t x f ho;exact one (fun _ h=>h) (Aee (K:=fun p=>K p [] []) h ho hk)
 ·rename_i t x i ho;exact one (fun _ h=>h) (MR (K:=fun p=>K p [] []) h ho hk)
 ·rename_i t x i ho;exact one (fun _ h=>h) (Aa1 (K:=fun p=>K p [] []) h ho hk)
 ·rename_i x i ho;exact one (fun _ h=>h) (SL (K:=fun p=>K p [] []) h ho hk)
 ·rename_i c ho;split at hk
  ·rename_i hc;exact one (fun _ h=>h) (Akg (K:=fun p=>K p [] []) h ho hc hk)
  ·rename_i hc;exact one (fun _ h=>h) (Aks (K:=fun p=>K p [] []) h ho hc hk)
  ·rename_i hc;exact one (fun _ h=>h) (Ajl (K:=fun p=>K p [] []) h ho hc hk)
  ·rename_i hc;exact one (fun _ h=>h) (Ajz (K:=fun p=>K p [] []) h ho hc hk)
  ·rename_i hc;obtain⟨hnb,hk⟩:=As hk;obtain⟨d,hd,D4⟩:=Dl hk;obtain⟨b,xs,RY,Gc⟩:=Bk D4;obtain⟨x,ys,hys,Tn⟩:=Bk Gc;obtain⟨ML,Tc⟩:=Ec Tn;obtain⟨t,us,hus,VL⟩:=Bk Tc;obtain⟨tx,vs,Ti,hk6⟩:=Bk VL;rw[hys,ML] at RY;rw[Ti] at hus;obtain⟨v,nw,h1,h2⟩:=YI h ho hc hnb hd RY hus hk6;exact⟨v,[],nw,h1,RB h2⟩
  ·rename_i f hc;exact QP h Ja C4 (fun hf hb=>FY ho hc Ja.ng hf hb) hk
  ·rename_i t hc;obtain⟨f,hf0,D4⟩:=Aus hk;have ht:a.eval (.tmp t)=.func (.func f) #[] #[]:=Dc h (x:=.tmp t) hf0;exact QP h Ja C4 (fun hf hb=>Ajk ho hc ht Ja.ng hf hb) D4
  ·cases hk
 ·cases hk
theorem Ag6 (h:B4 N w0 X0 Y β s a w){G:Us}(Ja:JJ P G w0 X0){C:I3}{call:Ah}(C4:∀f args res,call f args=some res->C7 G P f args res){K:St->Option R}
  (hk:(PK C P N call s.tm (rd s.hp) (M4 s.hp) o fun v fz nw=>HK N s o.dst v fz nw K)=some r):
  ∃s',K s'=some r∧∀(next:Act->World->Prop) (Q:Exit->Act->World->Prop),(∀a' w' β',B4 N w0 X0 Y β' s' a' w'->next a' w')->o.wp P a w next Q:=by
 obtain⟨v,fz,nw,hk,HO,hg⟩:=Apl h Ja C4 hk;unfold HK at hk;obtain⟨hb,hk⟩:=As hk;simp only[Bool.and_eq_true] at hb;refine⟨_,hk,fun next Q hn=>hg next Q fun val w' Gk=>?_⟩
 obtain⟨β',st⟩:=Gk hb.2
 have Tp:Ck (Ag s.hp fz) nw=true:=by
  have:∀nw,Ck s.hp nw=true->Ck (Ag s.hp fz) nw=true:=by
   intro nw
   induction nw with
   |nil=>intro _;rfl
   |cons q nw ih=>
    obtain⟨i,b⟩:=q;intro hq;simp only[Ck,Bool.and_eq_true,Option.isNone_iff_eq_none] at hq ⊢;exact⟨⟨Ff.2 hq.1.1,hq.1.2⟩,ih hq.2⟩
  exact this nw hb.2
 exact hn _ _ β' ((h.freeze HO).stepR hb.1 Tp st)
end
open Go.RowKit
section
variable {R:Type} {r:R} {P:Program} {N:Nat} {w0:World} {X0:Fp} {Y:Nat->Prop} {β β':Bt} {s:St} {a:Act} {w w':World} {o:Oper} {A:Nat->Prop}
structure F4 (b:Nat) (w w':World):Prop where
 os:w'.os=w.os
 tape:w'.tape=w.tape
 output:w'.output=w.output
 size:w'.heap.size=w.heap.size
 other:∀k,k≠b->w'.heap[k]?=w.heap[k]?
 bs:bsz w' b=bsz w b
 frz:∀j,w'.frozen? ⟨b,j,none⟩=w.frozen? ⟨b,j,none⟩
theorem F4.refl (b:Nat)(w:World):F4 b w w:=⟨rfl,rfl,rfl,rfl,fun _ _=>rfl,rfl,fun _=>rfl⟩
theorem F4.setCell (b j:Nat)(v:Value)(w:World):F4 b w (w.setCell ⟨b,j,none⟩ v):=by
 refine⟨rfl,rfl,rfl,by simp[World.setCell],fun k hk=>Below.heap_setCell w ⟨b,j,none⟩ v k hk,?_,fun i=>?_⟩
 ·simp only[bsz,World.setCell,Array.getElem?_modify];simp only[if_true];cases h:w.heap[b]? with
  |none=>simp
  |some x=>cases x<;>simp
 ·simp only[World.frozen?,World.setCell,Array.getElem?_modify,if_true];cases h:w.heap[b]? with
  |none=>simp
  |some x=>cases x<;>simp
theorem F4.trans {b:Nat}{w'':World}(h:F4 b w w')(h':F4 b w' w''):F4 b w w'':=
 ⟨h'.os.trans h.os,h'.tape.trans h.tape,h'.output.trans h.output,h'.size.trans h.size,fun k hk=>(h'.other k hk).trans (h.other k hk),h'.bs.trans h.bs,fun j=>(h'.frz j).trans (h.frz j)⟩
theorem F4.setCells (b:Nat):∀(vs:List Value)(j:Nat)(w:World),F4 b w (w.setCells b j vs)
 |[],_,w=>F4.refl b w
 |v::vs,j,w=>(F4.setCell b j v w).trans (F4.setCells b vs (j+1) _)
theorem A18 {hp:Nat->Option Bx}{id:Nat}{bx bx':Bx}(h0:hp id=some bx)(hl:Cs (some bx)) (Nj:Cs (some bx')) (b:Nat):BZ (Da hp id (some bx')) β b↔BZ hp β b:=by
 constructor
 ·rintro⟨i,o,h1,h2⟩
  by_cases e:i=id
  ·subst e;exact⟨i,o,by rw[h0];exact hl,h2⟩
  ·rw[Am _ _ e] at h1;exact⟨i,o,h1,h2⟩
 ·rintro⟨i,o,h1,h2⟩
  by_cases e:i=id
  ·subst e;exact⟨i,o,by rw[Au];exact Nj,h2⟩
  ·exact⟨i,o,by rw[Am _ _ e];exact h1,h2⟩
theorem B4.write (h:B4 N w0 X0 Y β s a w){id b ob:Nat}{bx bx':Bx}(h0:s.hp id=some bx)(hl:Cs (some bx)) (Nj:Cs (some bx')) (hβ:β id=some (b,ob)) (hw:F4 b w w')
  (Mx:Tv w' (Db s.hp β Y) β id bx') (hr:∀cells,bx'=.st cells->∀c∈cells,∀i∈Av c,s.hp i≠none)
  (hK:∀c',bx'=.st c'->∃c,bx=.st c)(hR:∀j,BR bx' ob j->BR bx ob j)(hO:∀j,¬BR bx ob j->w'.cell? ⟨b,j,none⟩=w.cell? ⟨b,j,none⟩):B4 N w0 X0 Y β ⟨s.tm,Da s.hp id (some bx')⟩ a w':=by
 have hX:=A18 (β:=β) h0 hl Nj;have hA:∀k,Db (Da s.hp id (some bx')) β Y k↔Db s.hp β Y k:=fun k=>⟨fun x=>x.imp (hX k).1 (fun y=>y),fun x=>x.imp (hX k).2 (fun y=>y)⟩
 have hAb:Db s.hp β Y b:=.inl ⟨id,ob,by rw[h0];exact hl,hβ⟩
 have Gk:Co (Db s.hp β Y) w w':=⟨by rw[hw.size];exact Nat.le_refl _,fun k _ hk=>hw.other k (fun e=>hk (e ▸ hAb)),fun k _=>by
  by_cases e:k=b
  ·subst e;rw[hw.bs];exact Nat.le_refl _
  ·unfold bsz;rw[hw.other k e];exact Nat.le_refl _⟩
 have U7:∀i,Da s.hp id (some bx') i≠none↔s.hp i≠none:=by
  intro i;by_cases e:i=id
  ·subst e;rw[Au,h0];simp
  ·rw[Am _ _ e]
 have hAe:Db (Da s.hp id (some bx')) β Y=Db s.hp β Y:=funext fun k=>propext (hA k)
 have EE:∀i,Cs (Da s.hp id (some bx') i)->Cs (s.hp i):=by
  intro i hi;by_cases e:i=id
  ·subst e;rw[h0];exact hl
  ·rw[Am _ _ e] at hi;exact hi
 refine⟨h.dfr,h.tsz,h.tmo,fun i hi=>?_,fun i bi hb=>?_,fun i i' k x y h1 h2=>h.inj i i' k x y (EE i h1) (EE i' h2),fun i k x hi hk=>?_,fun i hi j hj=>(U7 j).2 (h.wfT i hi j hj),
  fun i cells hc c hcm j hj=>(U7 j).2 ?_,fun k hk=>h.ownd k ((hX k).1 hk),fun i bi k x MS hli hk Cd j hj=>?_,fun i hi=>⟨(U7 _).2 (h.pin i hi).1,(h.pin i hi).2⟩,fun i c k x hc hk Cd=>?_,fun k hk x=>h.Yx k hk ((hX k).1 x),h.Ylt,?_⟩
 ·rw[hAe];exact (h.tms i hi).step Gk (fun _ _ x=>x) (fun _ _=>rfl)
 ·rw[hAe];simp only at hb;by_cases e:i=id
  ·subst e;rw[Au] at hb;cases hb;exact Mx
  ·rw[Am _ _ e] at hb;have MS:=h.box i bi hb;cases bi with
   |st c=>
    obtain⟨k,x,h1,h2,h3⟩:=MS
    have hk:k≠b:=by
     rintro rfl
     exact e (h.inj i id k x ob (by rw[hb];trivial) (by rw[h0];exact hl) h1 hβ)
    refine⟨k,x,h1,fun j c hj=>?_,fun j hj=>?_⟩
    ·obtain⟨v,hv,hc⟩:=h2 j c hj;exact⟨v,by rw[World.cell?_of_block (w:=w) (hw.other k hk)];exact hv,hc.step Gk (fun _ _ x=>x) (fun _ _=>rfl)⟩
    ·rw[World.frozen?_of_block (w:=w) (hw.other k hk)];exact h3 j hj
   |ar fz c=>
    rcases MS with hn|⟨k,x,h1,h2,h3,h4⟩
    ·exact .inl hn
    ·have hk:k≠b:=by
      rintro rfl
      cases fz with
      |true=>exact h4 rfl hAb
      |false=>exact e (h.inj i id k x ob (by rw[hb];trivial) (by rw[h0];exact hl) h1 hβ)
     refine .inr ⟨k,x,h1,fun j c hj=>?_,fun ef j hj Xe=>?_,h4⟩
     ·obtain⟨v,hv,h5,hc⟩:=h2 j c hj;exact⟨v,by rw[World.cell?_of_block (w:=w) (by rw[G9];exact hw.other k hk)];exact hv,h5,hc.step Gk (fun _ _ x=>x)⟩
     ·rw[World.frozen?_of_block (w:=w) (hw.other k hk)];refine h3 ef j hj ?_;unfold bsz at Xe ⊢;rw[hw.other k hk] at Xe;exact Xe
   |mv=>trivial
 ·rw[hw.size];exact h.blt i k x ((U7 i).1 hi) hk
 ·simp only at hc;by_cases e:i=id
  ·subst e;rw[Au] at hc;injection hc with hc;exact hr cells hc c hcm j hj
  ·rw[Am _ _ e] at hc;exact h.wfB i cells hc c hcm j hj
 ·simp only at MS;by_cases e:i=id
  ·subst e;rw[Au] at MS;cases MS;rw[hβ] at hk;cases hk;exact h.rngB i bx b ob h0 hl hβ Cd j (hR j hj)
  ·rw[Am _ _ e] at MS;exact h.rngB i bi k x MS hli hk Cd j hj
 ·simp only at hc;by_cases e:i=id
  ·subst e;rw[Au] at hc;injection hc with hc;obtain⟨c0,rfl⟩:=hK c hc;exact h.stp i c0 k x h0 hk Cd
  ·rw[Am _ _ e] at hc;exact h.stp i c k x hc hk Cd
 ·refine⟨hw.os.trans h.fr.os,hw.tape.trans h.fr.tape,hw.output.trans h.fr.output,?_,fun k j hk hL=>?_⟩
  ·refine⟨by rw[hw.size];exact h.fr.step.size,fun k hk hnk=>?_,fun k hk=>Nat.le_trans (h.fr.step.bs k hk) (Gk.bs k (Nat.lt_of_lt_of_le hk h.fr.step.size))⟩
   rw[hw.other k ?_]
   ·exact h.fr.step.keep k hk hnk
   ·rintro rfl
    rcases h.ownd k ⟨id,ob,by rw[h0];exact hl,hβ⟩ with hx|hx
    ·exact hnk hx
    ·omega
  ·by_cases e:k=b
   ·subst e;rw[hO j (fun hj=>hL (h.rngB id bx k ob h0 hl hβ hk j hj)),hw.frz]
    exact h.fr.rng k j hk hL
   ·have hc:w'.cell? ⟨k,j,none⟩=w.cell? ⟨k,j,none⟩:=World.cell?_of_block (w:=w) (hw.other k e);have hf:w'.frozen? ⟨k,j,none⟩=w.frozen? ⟨k,j,none⟩:=World.frozen?_of_block (w:=w) (hw.other k e);rw[hc,hf];exact h.fr.rng k j hk hL
theorem V3 {c cs:List PV}{off j:Nat}{p:PV}(Xa:off+cs.length<=c.length)(h:(Bn c cs off)[j]?=some p):
  (off<=j∧j<off+cs.length∧cs[j-off]?=some p)∨((j<off∨off+cs.length<=j)∧c[j]?=some p):=by
 unfold Bn at h;by_cases h1:j<off
 ·rw[List.append_assoc,List.getElem?_append_left (by simp;omega),List.getElem?_take_of_lt h1] at h
  exact .inr ⟨.inl h1,h⟩
 ·by_cases h2:j<off+cs.length
  ·rw[List.getElem?_append_left (by simp;omega),List.getElem?_append_right (by simp;omega)] at h
   simp only[List.length_take,Nat.min_eq_left (by omega:off<=c.length)] at h
   exact .inl ⟨by omega,h2,h⟩
  ·rw[List.getElem?_append_right (by simp;omega)] at h
   simp only[List.length_append,List.length_take,Nat.min_eq_left (by omega:off<=c.length),List.getElem?_drop] at h
   rw[show off+cs.length+(j-(off+cs.length))=j from by omega] at h
   exact .inr ⟨.inr (by omega),h⟩
theorem Vz {c cs:List PV}{off:Nat}(Xa:off+cs.length<=c.length):(Bn c cs off).length=c.length:=by
 simp[Bn];omega
theorem JP {t:TypeId}{b j:Nat}{v:Value}(Ku:(P.info? t).map (·.size)=some v.cells.size) (hc:∀i,i<v.cells.toList.length->(w.cell? ⟨b,j+i,none⟩).isSome=true)
  (hf:∀i,i<v.cells.toList.length->w.frozen? ⟨b,j+i,none⟩=false)(h1:∀u∈v.cells.toList,u.oneCell'=true):(Instr.storeAt t (.pointer (some ⟨b,j,none⟩)) v).run P w=.ok () (w.setCells b j v.cells.toList):=by
 have:=run_storeCells_cells (P:=P) b j v.cells.toList 0 w (fun i hi=>by simpa using hc i hi) (fun i hi=>by simpa using hf i hi) h1
 simp only[Instr.storeAt,Instr.sureAddr,storeVar,Sem.run_bind,Sem.run_pure,Result.andThen_ok,Nl Ku]
 simpa using this
theorem Aec (h:B4 N w0 X0 Y β s a w){t:TypeId}{x y:Operand}(ho:o.op=.store t x y)(hd:o.dst=none){K:St->Option R}(hk:IR P s t (Ct s.tm x) (Ct s.tm y) K=some r):
  ∃s',K s'=some r∧∀(next:Act->World->Prop) (Q:Exit->Act->World->Prop),(∀a' w' β',B4 N w0 X0 Y β' s' a' w'->next a' w')->o.wp P a w next Q:=by
 have hx:=Dw h x;have RU:=Gq h x
 have run:∀{b j:Nat},a.eval x=.pointer (some ⟨b,j,none⟩)->(Instr.storeAt t (.pointer (some ⟨b,j,none⟩)) (a.eval y)).run P w=.ok () (w.setCells b j (a.eval y).cells.toList) ->
   ∀(next:Act->World->Prop) (Q:Exit->Act->World->Prop),next a (w.setCells b j (a.eval y).cells.toList)->o.wp P a w next Q:=by
  intro b j D3 hr next Q hn;unfold Oper.wp execOp;rw[ho];simp only[Sem.run_bind,D3,hr,Result.andThen_ok,Sem.run_pure];show next (a.put o.dst undef) _;rw[hd];exact hn
 unfold IR at hk;split at hk
 ·rename_i id off e;rw[e] at hx RU;obtain⟨b,ob,hβ,D3⟩:=hx;split at hk
  ·rename_i c h0;obtain⟨hb,hk⟩:=As hk;simp only[Bool.and_eq_true,decide_eq_true_eq] at hb;obtain⟨⟨hok,hl⟩,Xa⟩:=hb;have hl:=Nat.eq_of_beq_eq_true hl;obtain⟨cs,hk,W9,h2,h1,hr,_⟩:=Ah5 (Dw h y) hl hk;obtain⟨_,Az4,Ku⟩:=Uf hok;have hvl:=h2.len;obtain⟨b',o',H3,Nv,hb3⟩:=h.box id _ h0;rw[hβ] at H3;simp at H3;obtain⟨rfl,rfl⟩:=H3
   have hcell:∀i,i<(a.eval y).cells.toList.length->(w.cell? ⟨b,ob+off+i,none⟩).isSome=true:=by
    intro i hi;obtain⟨v,hv,_⟩:=Nv (off+i) _ (List.getElem?_eq_getElem (by omega))
    rw[Nat.add_assoc,hv];rfl
   have Di:=JP (P:=P) (t:=t) (w:=w) (b:=b) (j:=ob+off) (v:=a.eval y) (by rw[Ku,←Az4,←W9,hvl];simp) hcell (fun i hi=>by rw[Nat.add_assoc];exact hb3 _ (by omega)) h1
   refine⟨_,hk,fun next Q hn=>run D3 Di next Q (hn _ _ β ?_)⟩
   refine h.write h0 trivial trivial hβ (F4.setCells b _ _ w) ?_ ?_ (fun _ _=>⟨_,rfl⟩) (fun j hj=>by
    have hj:ob<=j∧j<ob+(Bn c cs off).length:=hj;rw[Vz (by omega)] at hj
    exact hj) (fun j hj=>by
    refine World.cell?_setCells_out b _ _ w ⟨b,j,none⟩ (fun _ _=>?_)
    have hj:¬(ob<=j∧j<ob+c.length):=hj;show j<ob+off∨ob+off+_<=j;omega)
   ·have Gk:Co (Db s.hp β Y) w (w.setCells b (ob+off) (a.eval y).cells.toList):=by
     have hw:=F4.setCells b (a.eval y).cells.toList (ob+off) w;have hAb:Db s.hp β Y b:=.inl ⟨id,ob,by rw[h0];trivial,hβ⟩
     exact⟨by rw[hw.size];exact Nat.le_refl _,fun k _ hk=>hw.other k (fun e=>hk (e ▸ hAb)),fun k _=>by
      by_cases e:k=b
      ·subst e;rw[hw.bs];exact Nat.le_refl _
      ·unfold bsz;rw[hw.other k e];exact Nat.le_refl _⟩
    refine⟨b,ob,hβ,fun j p hj=>?_,fun j hj=>?_⟩
    ·rcases V3 (by omega) hj with⟨h3,h4,h5⟩|⟨h3,h5⟩
     ·obtain⟨u,hu,hcu⟩:=h2.get h5;have Cd:j-off<(a.eval y).cells.toList.length:=by omega
      refine⟨u,?_,hcu.step Gk (fun _ _ x=>x) (fun _ _=>rfl)⟩
      have:=World.cell?_setCells_in b (a.eval y).cells.toList (ob+off) w hcell (j-off) Cd;rw[show ob+j=ob+off+(j-off) from by omega,this]
      rw[List.getElem?_eq_getElem Cd] at hu;exact hu
     ·obtain⟨v,hv,JZ⟩:=Nv j p h5;refine⟨v,?_,JZ.step Gk (fun _ _ x=>x) (fun _ _=>rfl)⟩
      rw[World.cell?_setCells_out b _ _ w ⟨b,ob+j,none⟩ (fun _ _=>by show ob+j<ob+off∨ob+off+_<=ob+j;omega)]
      exact hv
    ·rw[Vz (by omega)] at hj
     rw[(F4.setCells b _ _ w).frz];exact hb3 j hj
   ·intro cells hx c' Vo i hi;injection hx with hx;subst hx;unfold Bn at Vo;rcases List.mem_append.1 Vo with Vo|Vo
    ·rcases List.mem_append.1 Vo with Vo|Vo
     ·exact h.wfB id c h0 c' (List.mem_of_mem_take Vo) i hi
     ·exact Gq h y i (hr c' Vo i hi)
    ·exact h.wfB id c h0 c' (List.mem_of_mem_drop Vo) i hi
  ·rename_i c h0;obtain⟨hb,hk⟩:=As hk;simp only[Bool.and_eq_true,decide_eq_true_eq] at hb;obtain⟨hok,Xa⟩:=hb;obtain⟨cs,m,hk,W9,LF,hT,hF,hm,hv⟩:=U0 h hk;obtain⟨hnm,hk⟩:=As hk
   have hnm:id ∉ m:=by
    intro hi;have:m.any (Nat.beq id)=true:=List.any_eq_true.2 ⟨id,hi,Nat.beq_refl id⟩;rw[this] at hnm;cases hnm
   obtain⟨_,Az4,Ku⟩:=Uf hok
   have Att:Bw (Ci w (Db s.hp β Y) β) (cellsOf (Ct s.tm y)) (a.eval y).cells.toList:=by
    have hyv:=Dw h y;cases hp:Ct s.tm y with
    |agg ps=>
     rw[hp] at hyv;obtain⟨vs,hay,h2⟩:=hyv;rw[hay];exact h2
    |sc v=>
     rw[hp] at hyv hF
     have Aqc:(a.eval y).oneCell'=true:=by
      have:=hv m (fun _ hi=>hi) hm [a.eval y] (by rw[hp];exact⟨hyv,trivial⟩)
      exact this.2 _ (by simp)
     rw[Qk Aqc];exact⟨hyv,trivial⟩
    |lst z es n cc=>
     rw[hp] at hyv hF
     have Aqc:(a.eval y).oneCell'=true:=by
      have:=hv m (fun _ hi=>hi) hm [a.eval y] (by rw[hp];exact⟨hyv,trivial⟩)
      exact this.2 _ (by simp)
     rw[Qk Aqc];exact⟨hyv,trivial⟩
    |view i es oo n=>
     rw[hp] at hyv hF
     have Aqc:(a.eval y).oneCell'=true:=by
      have:=hv m (fun _ hi=>hi) hm [a.eval y] (by rw[hp];exact⟨hyv,trivial⟩)
      exact this.2 _ (by simp)
     rw[Qk Aqc];exact⟨hyv,trivial⟩
    |own es n cc=>
     have hx0:=hF (Ct s.tm y) (by rw[hp];exact List.mem_singleton_self _)
     rw[hp] at hx0;exact hx0.elim
    |ptr i cc=>
     have hx0:=hF (Ct s.tm y) (by rw[hp];exact List.mem_singleton_self _)
     rw[hp] at hx0;exact hx0.elim
    |iptr i cc=>
     have hx0:=hF (Ct s.tm y) (by rw[hp];exact List.mem_singleton_self _)
     rw[hp] at hx0;exact hx0.elim
    |pbox cc=>
     have hx0:=hF (Ct s.tm y) (by rw[hp];exact List.mem_singleton_self _)
     rw[hp] at hx0;exact hx0.elim
    |tup cc=>
     have hx0:=hF (Ct s.tm y) (by rw[hp];exact List.mem_singleton_self _)
     rw[hp] at hx0;exact hx0.elim
    |ub=>
     have hx0:=hF (Ct s.tm y) (by rw[hp];exact List.mem_singleton_self _)
     rw[hp] at hx0;exact hx0.elim
    |top=>
     have hx0:=hF (Ct s.tm y) (by rw[hp];exact List.mem_singleton_self _)
     rw[hp] at hx0;exact hx0.elim
   obtain⟨h2,h1⟩:=hv m (fun _ hi=>hi) hm _ Att
   have hvl:=h2.len;have hf:=h.freeze hm;have h0':Ag s.hp m id=some (.ar false c):=by rw[Cn,if_neg hnm];exact h0
   rcases hf.box id _ h0' with⟨hn,_⟩|⟨b',o',H3,Nv,hb3,_⟩
   ·rw[hβ] at hn;cases hn
   rw[hβ] at H3;simp at H3;obtain⟨rfl,rfl⟩:=H3
   have hcell:∀i,i<(a.eval y).cells.toList.length->(w.cell? ⟨b,ob+off+i,none⟩).isSome=true:=by
    intro i hi;obtain⟨v,hv,_⟩:=Nv (off+i) _ (List.getElem?_eq_getElem (by omega))
    rw[Er] at hv;rw[Nat.add_assoc,hv];rfl
   have Di:=JP (P:=P) (t:=t) (w:=w) (b:=b) (j:=ob+off) (v:=a.eval y) (by rw[Ku,←Az4,←W9,hvl];simp) hcell (fun i hi=>by
    obtain⟨u,hu⟩:=Option.isSome_iff_exists.1 (hcell i hi);exact hb3 rfl _ (by omega) (OR hu)) h1
   refine⟨_,hk,fun next Q hn=>run D3 Di next Q (hn _ _ β ?_)⟩
   refine hf.write h0' trivial trivial hβ (F4.setCells b _ _ w) ?_ (fun cells hx=>by cases hx) (fun _ hx=>by cases hx) (fun j hj=>hj) (fun j hj=>by
    refine World.cell?_setCells_out b _ _ w ⟨b,j,none⟩ (fun _ _=>?_)
    have hj:¬(ob<=j):=hj;show j<ob+off∨ob+off+_<=j;omega)
   have Gk:Co (Db (Ag s.hp m) β Y) w (w.setCells b (ob+off) (a.eval y).cells.toList):=by
    have hw:=F4.setCells b (a.eval y).cells.toList (ob+off) w;have hAb:Db (Ag s.hp m) β Y b:=.inl ⟨id,ob,by rw[h0'];trivial,hβ⟩
    exact⟨by rw[hw.size];exact Nat.le_refl _,fun k _ hk=>hw.other k (fun e=>hk (e ▸ hAb)),fun k _=>by
     by_cases e:k=b
     ·subst e;rw[hw.bs];exact Nat.le_refl _
     ·unfold bsz;rw[hw.other k e];exact Nat.le_refl _⟩
   refine .inr ⟨b,ob,hβ,fun j p hj=>?_,fun _ j hj Xe=>?_,(fun x=>by cases x)⟩
   ·rw[Er];rcases V3 (by omega) hj with⟨h3,h4,h5⟩|⟨h3,h5⟩
    ·obtain⟨u,hu,hcu⟩:=h2.get h5;have Cd:j-off<(a.eval y).cells.toList.length:=by omega
     refine⟨u,?_,h1 u (List.mem_of_getElem? hu),hcu.step Gk (fun _ _ x=>x)⟩
     have:=World.cell?_setCells_in b (a.eval y).cells.toList (ob+off) w hcell (j-off) Cd;rw[show ob+j=ob+off+(j-off) from by omega,this]
     rw[List.getElem?_eq_getElem Cd] at hu;exact hu
    ·obtain⟨v,hv,h6,JZ⟩:=Nv j p h5;rw[Er] at hv;refine⟨v,?_,h6,JZ.step Gk (fun _ _ x=>x)⟩
     rw[World.cell?_setCells_out b _ _ w ⟨b,ob+j,none⟩ (fun _ _=>by show ob+j<ob+off∨ob+off+_<=ob+j;omega)]
     exact hv
   ·rw[(F4.setCells b _ _ w).bs] at Xe;rw[(F4.setCells b _ _ w).frz];exact hb3 rfl j hj Xe
  ·cases hk
 ·cases hk
end
open Go.RowKit
theorem K0:∀{l l':List Nat},Fh (l++l')=true->Fh l=true∧Fh l'=true∧∀i∈l,i ∉ l'
 |[],l',h=>⟨rfl,h,by simp⟩
 |a::l,l',h=>by
  simp only[List.cons_append,Fh,Bool.and_eq_true,Bool.not_eq_true'] at h;obtain⟨h1,h2⟩:=h;obtain⟨h3,h4,h5⟩:=K0 h2
  have hn:∀i∈l++l',a≠i:=by
   rintro i hi rfl
   have:(l++l').any (Nat.beq a)=true:=List.any_eq_true.2 ⟨a,hi,Nat.beq_refl a⟩;rw[this] at h1;cases h1
  refine⟨?_,h4,fun i hi=>?_⟩
  ·simp only[Fh,Bool.and_eq_true,Bool.not_eq_true',h3,and_true];rw[List.any_eq_false];intro i hi e;exact hn i (by simp[hi]) (Nat.eq_of_beq_eq_true e)
  ·rcases List.mem_cons.1 hi with rfl|hi
   ·exact fun hm=>hn i (by simp[hm]) rfl
   ·exact h5 i hi
def Ji (β:Bt)(q:Nat × Nat):Option (Nat × Nat):=(β q.1).map fun p=>(p.1,p.2+q.2)
theorem Aep (β:Bt)(id:Nat):Ji β (id,0)=β id:=by
 unfold Ji;cases β id<;>rfl
section
variable {R:Type} {r:R} {P:Program} {N:Nat} {w0:World} {X0:Fp} {Y:Nat->Prop} {β β':Bt} {s:St} {a:Act} {w w':World} {o:Oper} {A:Nat->Prop}
theorem Rt {fz:List Nat}{b:Nat}(h:Db (Ag s.hp fz) β Y b):Db s.hp β Y b:=h.imp Uh id
theorem Aqa (h:B4 N w0 X0 Y β s a w){mv:Bool}{t:CT}{p:PV}{K:PV->List Nat->List Nat->Option R}(hk:Aje mv s.hp t p K=some r):
  ∃c m q,K c m (Option.toList q)=some r∧isA c∧SM p∧(∀id∈m,∃f cc,s.hp id=some (.ar f cc))∧(∀id,q=some id->∃cc,s.hp id=some (.ar false cc)) ∧
   ∀fz:List Nat,(∀id∈m,id∈fz)->(∀id∈fz,∃f cc,s.hp id=some (.ar f cc))->∀v,Ci w (Db s.hp β Y) β p v->Jf w (Db (Ag s.hp fz) β Y) (q.bind β) c v:=by
 have frz:∀{t:CT} {p:PV} {K:PV->List Nat->List Nat->Option R},(R2 (M4 s.hp) t p fun c m=>K c m [])=some r->∃c m q,K c m (Option.toList q)=some r∧isA c∧SM p∧(∀id∈m,∃f cc,s.hp id=some (.ar f cc))∧(∀id,q=some id->∃cc,s.hp id=some (.ar false cc)) ∧
   ∀fz:List Nat,(∀id∈m,id∈fz)->(∀id∈fz,∃f cc,s.hp id=some (.ar f cc))->∀v,Ci w (Db s.hp β Y) β p v->Jf w (Db (Ag s.hp fz) β Y) (q.bind β) c v:=by
  intro t p K hk;obtain⟨c,m,hk,hT,hF,hm,hv⟩:=QG h hk;exact⟨c,m,none,hk,.inl hT,hF,hm,by simp,fun fz h1 h2 v hc=>Nk hT (hv fz h1 h2 v hc).1⟩
 have tree:∀{t:CT} {p:PV} {K:PV->List Nat->List Nat->Option R},(∀es,t ≠ .sl es)->(HJ t p fun c=>K c [] [])=some r->∃c m q,K c m (Option.toList q)=some r∧isA c∧SM p∧(∀id∈m,∃f cc,s.hp id=some (.ar f cc))∧(∀id,q=some id->∃cc,s.hp id=some (.ar false cc)) ∧
   ∀fz:List Nat,(∀id∈m,id∈fz)->(∀id∈fz,∃f cc,s.hp id=some (.ar f cc))->∀v,Ci w (Db s.hp β Y) β p v->Jf w (Db (Ag s.hp fz) β Y) (q.bind β) c v:=by
  intro t p K F9 hk;obtain⟨c,hk,hT,PI,hv⟩:=P5 hk;exact⟨c,[],none,hk,.inl hT,Vu PI,by simp,by simp,fun fz h1 h2 v hc=>Nk hT ((hv w _ β v hc).1.step (Co.refl _ _) (fun b _ hb=>Rt hb))⟩
 unfold Aje at hk;cases t with
 |sl es=>
  dsimp only at hk;cases mv<;>simp only[cond_true,cond_false] at hk
  ·exact frz hk
  ·split at hk
   ·rename_i id es' off n;split at hk
    ·rename_i c h0;cases hb:(Nat.beq es' es&&Nat.beq off 0)<;>rw[hb] at hk<;>simp only[cond_true,cond_false] at hk
     ·exact frz hk
     ·simp only[Bool.and_eq_true] at hb;have he:=Nat.eq_of_beq_eq_true hb.1;have hof:=Nat.eq_of_beq_eq_true hb.2;subst he hof;obtain⟨hl,hk⟩:=As hk;refine⟨_,[],some id,hk,.inr ⟨_,_,_,rfl⟩,trivial,by simp,fun i hi=>by cases hi;exact⟨c,h0⟩,fun fz h1 h2 v hc=>?_⟩
      rcases hc with⟨h3,_,rfl,h4⟩|⟨b,ob,x,cap,h3,h4,hx,h5,h6,h7⟩
      ·exact .inl ⟨h3,rfl,by simp,h4⟩
      ·have hx:x=ob:=by rcases hx with e|⟨_,e⟩<;>omega
       subst hx;rcases h.box id _ h0 with⟨h8,_⟩|⟨b',o',h8,h9,h10,_⟩
       ·rw[h3] at h8;cases h8
       ·rw[h3] at h8;cases h8;refine .inr ⟨b,x,cap,h3,h4,h5,h6,h7,fun j p hj=>?_,h10 rfl⟩
        rw[List.getElem?_take] at hj;split at hj
        ·obtain⟨u,hu,h11,ht⟩:=h9 j p hj;exact⟨u,hu,h11,ht.step (Co.refl _ _) (fun b _ hb=>Rt hb)⟩
        ·cases hj
    ·exact frz hk
   ·obtain⟨z,n,c,hk,hp⟩:=Hg hk;have hpF:SM p:=by rcases hp with e|⟨e,_⟩<;>(rw[e];trivial)
    cases z<;>simp only[cond_true,cond_false] at hk
    ·refine⟨_,[],none,hk,.inl trivial,hpF,by simp,by simp,fun fz h1 h2 v hc=>?_⟩
     exact Nk trivial ((BH hp hc).step (Co.refl _ _) (fun b _ hb=>Rt hb))
    ·refine⟨_,[],none,hk,.inr ⟨_,_,_,rfl⟩,hpF,by simp,by simp,fun fz h1 h2 v hc=>.inl ⟨rfl,rfl,rfl,none,?_⟩⟩
     have:=BH hp hc;cases this;rfl
 |int k=>exact tree (by simp) hk
 |bool=>exact tree (by simp) hk
 |str=>exact tree (by simp) hk
 |any=>exact tree (by simp) hk
theorem Yw (h:B4 N w0 X0 Y β s a w){mv:Bool}:∀{ts:List CT}{ps:List PV}{K:List PV->List Nat->List Nat->Option R},KJ mv s.hp ts ps K=some r ->
  ∃cs m x,∃q:Nat->Option Nat,K cs m x=some r∧cs.length=ts.length∧ps.length=ts.length∧(∀c∈cs,isA c)∧(∀p∈ps,SM p)∧(∀id∈m,∃f cc,s.hp id=some (.ar f cc))∧(∀id∈x,∃cc,s.hp id=some (.ar false cc)) ∧
   (∀j id,q j=some id->id∈x)∧(Fh x=true->∀j j' id,q j=some id->q j'=some id->j=j') ∧
   ∀fz:List Nat,(∀id∈m,id∈fz)->(∀id∈fz,∃f cc,s.hp id=some (.ar f cc))->∀vs,Bw (Ci w (Db s.hp β Y) β) ps vs->∀(own:Bt) j0,(∀j,own (j0+j)=(q j).bind β)->G6 w (Db (Ag s.hp fz) β Y) own j0 cs vs
 |[],[],K,hk=>⟨[],[],[],fun _=>none,hk,rfl,rfl,by simp,by simp,by simp,by simp,by simp,by simp,fun fz _ _ vs hv own j0 _=>by
   cases vs with
   |nil=>trivial
   |cons v vs=>exact hv.elim⟩
 |[],_::_,K,hk=>by cases hk
 |_::_,[],K,hk=>by cases hk
 |t::ts,p::ps,K,hk=>by
  unfold KJ at hk;obtain⟨c,m,q,hk,hA,hF,hm,hq,hv⟩:=Aqa h hk;obtain⟨cs,ms,xs,qs,hk,hl,Nj,hAs,hFs,OK,RY,hqx,hqi,Ti⟩:=Yw h hk;refine⟨c::cs,m++ms,q.toList++xs,fun j=>match j with|0=>q|j+1=>qs j,hk,by simp[hl],by simp[Nj],?_,?_,?_,?_,?_,?_,?_⟩
  ·intro x hx;rcases List.mem_cons.1 hx with rfl|hx
   ·exact hA
   ·exact hAs x hx
  ·intro x hx;rcases List.mem_cons.1 hx with rfl|hx
   ·exact hF
   ·exact hFs x hx
  ·intro i hi;rcases List.mem_append.1 hi with hi|hi
   ·exact hm i hi
   ·exact OK i hi
  ·intro i hi;rcases List.mem_append.1 hi with hi|hi
   ·exact hq i (by simpa using hi)
   ·exact RY i hi
  ·intro j id hj;cases j with
   |zero=>exact List.mem_append.2 (.inl (by simpa using hj))
   |succ j=>exact List.mem_append.2 (.inr (hqx j id hj))
  ·intro hn j j' id hj Xe;obtain⟨_,h2,h3⟩:=K0 hn;cases j with
   |zero=>
    cases j' with
    |zero=>rfl
    |succ j'=>exact absurd (hqx j' id Xe) (h3 id (by simpa using hj))
   |succ j=>
    cases j' with
    |zero=>exact absurd (hqx j id hj) (h3 id (by simpa using Xe))
    |succ j'=>rw[hqi h2 j j' id hj Xe]
  ·intro fz h1 h2 vs h3 own j0 Gx;cases vs with
   |nil=>exact h3.elim
   |cons v vs=>
    refine⟨?_,Ti fz (fun i hi=>h1 i (by simp[hi])) h2 vs h3.2 own (j0+1) fun j=>?_⟩
    ·have:=Gx 0;rw[Nat.add_zero] at this;rw[this];exact hv fz (fun i hi=>h1 i (by simp[hi])) h2 v h3.1
    ·have:=Gx (j+1);rw[show j0+1+j=j0+(j+1) by omega]
     exact this
def LOk (hp:Nat->Option Bx)(q:Option (Nat × Nat)) (p:PV)(x:I1):Prop:=
 match x with
 |.var id off cts ws=>p=.pbox ws∧q=some (id,off)∧cts.length=ws.length∧∃c,hp id=some (.st c)∧off+ws.length<=c.length
 |.row id=>(∃ps,p=.tup ps)∧q=some (id,0)∧∃c,hp id=some (.ar false c)
 |.none=>(∃ps,p=.tup ps)∧q=none
theorem Ahi {hp:Nat->Option Bx}{q:Option (Nat × Nat)} {p:PV}{x:I1}(h:LOk hp q p x):GH p=true:=by
 cases x with
 |var id off cts ws=>rw[h.1];rfl
 |row id=>obtain⟨⟨_,e⟩,_⟩:=h;rw[e];rfl
 |none=>obtain⟨⟨_,e⟩,_⟩:=h;rw[e];rfl
def S9 (hp:Nat->Option Bx)(src:Nat->Nat->Option (Nat × Nat)):Nat->List PV->List I1->Prop
 |_,[],l=>l=[]
 |i,p::ps,l=>(GH p=false∧src i 0=none∧S9 hp src (i+1) ps l)∨∃x l',l=x::l'∧LOk hp (src i 0) p x∧S9 hp src (i+1) ps l'
theorem Agj (h:B4 N w0 X0 Y β s a w){C:I3}{f:FuncId}{i:Nat}{t:TypeId}{x:Operand}{K:PV->List Nat->List Nat->List I1->Option R}(hk:GX C P f s.hp i t (Ct s.tm x) K=some r):
  ∃v m y l,∃src:Nat->Option (Nat × Nat),K v m y l=some r∧(∀id∈m,∃f cc,s.hp id=some (.ar f cc))∧(∀id∈y,∃cc,s.hp id=some (.ar false cc)) ∧
   (∀j id off,src (j+1)=some (id,off)->off=0∧id∈y)∧(Fh y=true->∀j j' id off off',src (j+1)=some (id,off)->src (j'+1)=some (id,off')->j=j') ∧
   ((l=[]∧GH v=false∧src 0=none)∨∃x',l=[x']∧LOk s.hp (src 0) v x') ∧
   ∀fz:List Nat,(∀id∈m,id∈fz)->(∀id∈fz,∃f cc,s.hp id=some (.ar f cc))->∀bt:Bt,(∀j,bt j=(src j).bind (Ji β))->Ad7 w (Db (Ag s.hp fz) β Y) bt v (a.eval x):=by
 have hx:=Dw h x
 have LL:∀(q0:Option (Nat × Nat)) (q:Nat->Option Nat),∃src:Nat->Option (Nat × Nat),src 0=q0∧(∀j,src (j+1)=(q j).map fun id=>(id,0)):=
  fun q0 q=>⟨fun j=>match j with|0=>q0|j+1=>(q j).map fun id=>(id,0),rfl,fun _=>rfl⟩
 have Abq:∀{src:Nat->Option (Nat × Nat)} {q:Nat->Option Nat} {y:List Nat},(∀j,src (j+1)=(q j).map fun id=>(id,0))->(∀j id,q j=some id->id∈y)->∀j id off,src (j+1)=some (id,off)->off=0∧id∈y:=by
  intro src q y h1 h2 j id off hj;rw[h1] at hj;cases hq:q j with
  |none=>rw[hq] at hj;cases hj
  |some k=>rw[hq] at hj;cases hj;exact⟨rfl,h2 j _ hq⟩
 have Adz:∀{src:Nat->Option (Nat × Nat)} {q:Nat->Option Nat} {y:List Nat},(∀j,src (j+1)=(q j).map fun id=>(id,0))->(Fh y=true->∀j j' id,q j=some id->q j'=some id->j=j') ->
   Fh y=true->∀j j' id off off',src (j+1)=some (id,off)->src (j'+1)=some (id,off')->j=j':=by
  intro src q y h1 h2 hn j j' id off off' hj Xe;rw[h1] at hj Xe;cases hq:q j with
  |none=>rw[hq] at hj;cases hj
  |some k=>
   cases Ht:q j' with
   |none=>rw[Ht] at Xe;cases Xe
   |some k'=>
    rw[hq] at hj;rw[Ht] at Xe;cases hj;cases Xe;exact h2 hn j j' _ hq Ht
 have Gx:∀{src:Nat->Option (Nat × Nat)} {q:Nat->Option Nat} {bt:Bt},(∀j,src (j+1)=(q j).map fun id=>(id,0))->(∀j,bt j=(src j).bind (Ji β))->∀j,bt (1+j)=(q j).bind β:=by
  intro src q bt h1 h2 j;rw[Nat.add_comm,h2,h1];cases q j with
  |none=>rfl
  |some id=>exact Aep β id
 unfold GX at hk;split at hk
 ·rename_i e he;split at hk
  ·rename_i id off ep;rw[ep] at hx;split at hk
   ·rename_i c h0;obtain⟨hb,hk⟩:=As hk;simp only[Bool.and_eq_true,decide_eq_true_eq] at hb;obtain⟨cs,m,y,q,hk,hl,Nj,hA,hF,hm,hy,VG,NG,hv⟩:=Yw h hk;obtain⟨src,RX,hs⟩:=LL (some (id,off)) q;obtain⟨b,ob,hβ,D3⟩:=hx;refine⟨_,m,y,_,src,hk,hm,hy,Abq hs VG,Adz hs NG,.inr ⟨_,rfl,rfl,RX,hl.symm,c,h0,by omega⟩,fun fz h1 h2 bt BN=>?_⟩
    obtain⟨b',o',H3,Nv,hb3⟩:=h.box id _ h0;rw[hβ] at H3;cases H3;have Gv:((c.drop off).take (Kh P e).length).length=(Kh P e).length:=by simp;omega
    have Apw:∀j p,((c.drop off).take (Kh P e).length)[j]?=some p->c[off+j]?=some p∧j<(Kh P e).length:=by
     intro j p hj;rw[List.getElem?_take] at hj;split at hj
     ·rw[List.getElem?_drop] at hj;exact⟨hj,by assumption⟩
     ·cases hj
    refine⟨b,ob+off,by rw[BN,RX];simp[Ji,hβ],D3,hA,((c.drop off).take (Kh P e).length).mapIdx (fun j _=>(w.cell? ⟨b,ob+off+j,none⟩).getD undef),hv fz h1 h2 _ ?_ bt 1 (Gx hs BN),?_,fun k hk=>?_⟩
    ·refine Bw.of_at (by simp) fun j p v hp hv=>?_
     obtain⟨hc,_⟩:=Apw j p hp;obtain⟨u,hu,hcr⟩:=Nv _ _ hc;rw[List.getElem?_mapIdx,hp,Option.map_some,Nat.add_assoc,hu] at hv;simp at hv;subst hv;exact hcr
    ·intro k v hkv;rw[List.getElem?_mapIdx] at hkv;cases hp:((c.drop off).take (Kh P e).length)[k]? with
     |none=>rw[hp] at hkv;cases hkv
     |some p=>
      obtain⟨hc,_⟩:=Apw k p hp;obtain⟨u,hu,hcr⟩:=Nv _ _ hc;rw[hp,Option.map_some,Nat.add_assoc,hu] at hkv;simp at hkv;subst hkv;rw[Nat.add_assoc];exact hu
    ·rw[Nat.add_assoc];exact hb3 _ (by omega)
   ·cases hk
  ·cases hk
 ·cases hln:C.lnd f i<;>rw[hln] at hk<;>simp only[cond_true,cond_false] at hk
  ·cases H6:Cr P t<;>rw[H6] at hk<;>simp only[cond_true,cond_false] at hk
   ·obtain⟨cs,m,y,q,hk,hl,Nj,hA,hF,hm,hy,VG,NG,hv⟩:=Yw h hk;obtain⟨c,t',rfl,hk⟩:=Bk hk;obtain⟨rfl,hk⟩:=Ec hk;obtain⟨src,RX,hs⟩:=LL none q;have hAc:=hA c (by simp)
    refine⟨c,m,y,_,src,hk,hm,hy,Abq hs VG,Adz hs NG,.inl ⟨rfl,Avi hAc,RX⟩,fun fz h1 h2 bt BN=>?_⟩
    have hFx:=hF _ (List.mem_singleton_self _)
    have hxc:Ci w (Db s.hp β Y) β (Ct s.tm x) (a.eval x):=by
     cases hp:Ct s.tm x<;>rw[hp] at hx hFx<;>first|exact hx|exact hFx.elim
    have hoc:=(hv fz h1 h2 [a.eval x] ⟨hxc,trivial⟩ bt 1 (Gx hs BN)).1;rcases hAc with hT|⟨es,n,cc,rfl⟩
    ·cases c<;>first|exact⟨.inl trivial,hoc⟩|exact hT.elim
    ·exact⟨.inr ⟨_,_,_,rfl⟩,hoc⟩
   ·obtain⟨ps,ep,hk⟩:=Jy hk;rw[ep] at hx;obtain⟨vs,D3,h3⟩:=hx;obtain⟨cs,m,y,q,hk,hl,Nj,hA,hF,hm,hy,VG,NG,hv⟩:=Yw h hk;obtain⟨src,RX,hs⟩:=LL none q;refine⟨_,m,y,_,src,hk,hm,hy,Abq hs VG,Adz hs NG,.inl ⟨rfl,rfl,RX⟩,fun fz h1 h2 bt BN=>?_⟩
    exact⟨vs,D3,hA,hv fz h1 h2 vs h3 bt 1 (Gx hs BN)⟩
  ·obtain⟨e,he,hk⟩:=Dl hk;unfold Arm at hk;split at hk
   ·rename_i id es' off n ep;rw[ep] at hx;split at hk
    ·rename_i c h0;obtain⟨hb,Gc⟩:=As hk;simp only[Bool.and_eq_true] at hb;have he:=Nat.eq_of_beq_eq_true hb.1;have hof:=Nat.eq_of_beq_eq_true hb.2;subst hof;obtain⟨src,RX,hs⟩:=LL (some (id,0)) (fun _=>none)
     refine⟨_,[],[],_,src,Gc,by simp,by simp,Abq hs (by simp),Adz hs (by simp),.inr ⟨_,rfl,⟨_,rfl⟩,RX,c,h0⟩,fun fz h1 h2 bt BN=>⟨_,_,_,rfl,?_⟩⟩
     have RW:bt 0=β id:=by rw[BN,RX];exact Aep β id
     rw[RW];rcases hx with⟨h3,_,h4,h5⟩|⟨b,ob,y,cap,h3,h4,hy,h5,h6,h7⟩
     ·refine .inl ⟨h3,h4,?_,h5⟩;rcases h.box id _ h0 with⟨_,h8⟩|⟨_,_,h8,_⟩
      ·exact h8
      ·rw[h3] at h8;cases h8
     ·have hy:y=ob:=by rcases hy with e|⟨_,e⟩<;>omega
      subst hy;rcases h.box id _ h0 with⟨h8,_⟩|⟨b',o',h8,h9,h10,_⟩
      ·rw[h3] at h8;cases h8
      ·rw[h3] at h8;cases h8;exact .inr ⟨b,y,cap,h3,h4,h5,by rw[←he];exact h6,h7,h9.weak (fun b _ hb=>Rt hb),h10 rfl⟩
    ·cases hk
   ·obtain⟨z,n,c,hk,hp⟩:=Hg hk;obtain⟨hz,hk⟩:=As hk;subst hz;obtain⟨src,RX,hs⟩:=LL none (fun _=>none)
    have hu:a.eval x=.slice none 0 0:=by
     have hF:Ci w (Db s.hp β Y) β (Ct s.tm x) (a.eval x):=by rcases hp with e|⟨e,_⟩<;>rw[e] at hx ⊢ <;> exact hx
     have:=BH hp hF;generalize a.eval x=u at this;cases this;rfl
    refine⟨_,[],[],_,src,hk,by simp,by simp,Abq hs (by simp),Adz hs (by simp),.inr ⟨_,rfl,⟨_,rfl⟩,RX⟩,fun fz h1 h2 bt BN=>⟨_,_,_,rfl,.inl ⟨by rw[BN,RX];rfl,rfl,rfl,none,hu⟩⟩⟩
structure A7l (i0 n:Nat) (src:Nat->Nat->Option (Nat × Nat)) (ids x:List Nat):Prop where
 dom:∀i j q,src i j=some q->i0<=i∧i<i0+n
 lent:∀i id off,src i 0=some (id,off)->id∈ids
 mvd:∀i j id off,src i (j+1)=some (id,off)->off=0∧id∈x
 inj0:Fh ids=true->∀i i' id off off',src i 0=some (id,off)->src i' 0=some (id,off')->i=i'
 inj1:Fh x=true->∀i i' j j' id off off',src i (j+1)=some (id,off)->src i' (j'+1)=some (id,off')->i=i'∧j=j'
theorem AY {hp:Nat->Option Bx}{src src':Nat->Nat->Option (Nat × Nat)}:∀{ps:List PV}{i:Nat}{l:List I1},(∀k,i<=k->src' k=src k)->S9 hp src i ps l->S9 hp src' i ps l
 |[],_,_,_,h=>h
 |p::ps,i,l,hs,h=>by
  rcases h with⟨h1,h2,h3⟩|⟨x,l',rfl,h2,h3⟩
  ·exact .inl ⟨h1,by rw[hs i (Nat.le_refl _)];exact h2,AY (fun k hk=>hs k (by omega)) h3⟩
  ·exact .inr ⟨x,l',rfl,by rw[hs i (Nat.le_refl _)];exact h2,AY (fun k hk=>hs k (by omega)) h3⟩
theorem KN {bt bt':JI}:∀{ps:List PV}{us:List Value}{i:Nat},(∀k,i<=k->∀j,bt' k j=bt k j)->Oq w A bt i ps us->Oq w A bt' i ps us
 |[],[],_,_,_=>trivial
 |[],_::_,_,_,h=>h.elim
 |_::_,[],_,_,h=>h.elim
 |_::_,_::_,i,hb,h=>⟨by rw[show bt' i=bt i from funext (hb i (Nat.le_refl _))];exact h.1,KN (fun k hk=>hb k (by omega)) h.2⟩
theorem UG (h:B4 N w0 X0 Y β s a w){C:I3}{f:FuncId}:∀{ts:List TypeId}{xs:List Operand}{i:Nat}{K:List PV->List Nat->List Nat->List I1->Option R},UY C P f s.hp i ts (xs.map (Ct s.tm)) K=some r ->
  ∃vs m y l,∃src:Nat->Nat->Option (Nat × Nat),K vs m y l=some r∧(∀id∈m,∃f cc,s.hp id=some (.ar f cc))∧(∀id∈y,∃cc,s.hp id=some (.ar false cc)) ∧
   A7l i xs.length src (l.flatMap I1.ids) y∧S9 s.hp src i vs l ∧
   ∀fz:List Nat,(∀id∈m,id∈fz)->(∀id∈fz,∃f cc,s.hp id=some (.ar f cc))->∀bt:JI,(∀i j,bt i j=(src i j).bind (Ji β))->Oq w (Db (Ag s.hp fz) β Y) bt i vs (xs.map a.eval)
 |[],[],i,K,hk=>⟨[],[],[],[],fun _ _=>none,hk,by simp,by simp,⟨by simp,by simp,by simp,by simp,by simp⟩,rfl,fun _ _ _ _ _=>trivial⟩
 |[],_::_,i,K,hk=>by cases hk
 |_::_,[],i,K,hk=>by cases hk
 |t::ts,x::xs,i,K,hk=>by
  simp only[List.map_cons] at hk;unfold UY at hk;obtain⟨v,m,y,l,src,hk,hm,hy,JA,PF,hl,hv⟩:=Agj h hk;obtain⟨vs,ms,ys,ls,srcs,hk,OK,hys,hS,hL,Ti⟩:=UG h hk;have LL:∃sr:Nat->Nat->Option (Nat × Nat),sr i=src∧∀k,k≠i->sr k=srcs k:=⟨fun k=>if k=i then src else srcs k,by simp,fun k hk=>by simp[hk]⟩
  obtain⟨sr,hsi,hso⟩:=LL
  have TQ:∀id off,src 0=some (id,off)->id∈l.flatMap I1.ids:=by
   intro id off e;rcases hl with⟨_,_,h3⟩|⟨x',rfl,h3⟩
   ·rw[h3] at e;cases e
   ·cases x' with
    |var id' off' cts ws=>rw[h3.2.1] at e;cases e;simp[I1.ids]
    |row id'=>rw[h3.2.1] at e;cases e;simp[I1.ids]
    |none=>rw[h3.2] at e;cases e
  refine⟨v::vs,m++ms,y++ys,l++ls,sr,hk,?_,?_,⟨?_,?_,?_,?_,?_⟩,?_,fun fz h1 h2 bt BN=>⟨?_,?_⟩⟩
  ·intro i hi;rcases List.mem_append.1 hi with hi|hi
   ·exact hm i hi
   ·exact OK i hi
  ·intro i hi;rcases List.mem_append.1 hi with hi|hi
   ·exact hy i hi
   ·exact hys i hi
  ·intro k j q hq;simp only[List.length_cons];by_cases e:k=i
   ·subst e;omega
   ·rw[hso k e] at hq;have:=hS.dom k j q hq;omega
  ·intro k id off hq;rw[List.flatMap_append];by_cases e:k=i
   ·subst e;rw[hsi] at hq;exact List.mem_append.2 (.inl (TQ id off hq))
   ·rw[hso k e] at hq;exact List.mem_append.2 (.inr (hS.lent k id off hq))
  ·intro k j id off hq;by_cases e:k=i
   ·subst e;rw[hsi] at hq;exact⟨(JA j id off hq).1,List.mem_append.2 (.inl (JA j id off hq).2)⟩
   ·rw[hso k e] at hq;exact⟨(hS.mvd k j id off hq).1,List.mem_append.2 (.inr (hS.mvd k j id off hq).2)⟩
  ·intro hn k k' id off off' hq Ht;rw[List.flatMap_append] at hn;obtain⟨_,h4,h5⟩:=K0 hn;by_cases e:k=i
   ·by_cases e':k'=i
    ·omega
    ·rw[hso k' e'] at Ht;subst e;rw[hsi] at hq;exact absurd (hS.lent k' id off' Ht) (h5 id (TQ id off hq))
   ·rw[hso k e] at hq;by_cases e':k'=i
    ·subst e';rw[hsi] at Ht;exact absurd (hS.lent k id off hq) (h5 id (TQ id off' Ht))
    ·rw[hso k' e'] at Ht;exact hS.inj0 h4 k k' id off off' hq Ht
  ·intro hn k k' j j' id off off' hq Ht;obtain⟨h3,h4,h5⟩:=K0 hn;by_cases e:k=i
   ·by_cases e':k'=i
    ·subst e;subst e';rw[hsi] at hq Ht;exact⟨rfl,PF h3 j j' id off off' hq Ht⟩
    ·rw[hso k' e'] at Ht;subst e;rw[hsi] at hq;exact absurd (hS.mvd k' j' id off' Ht).2 (h5 id (JA j id off hq).2)
   ·rw[hso k e] at hq;by_cases e':k'=i
    ·subst e';rw[hsi] at Ht;exact absurd (hS.mvd k j id off hq).2 (h5 id (JA j' id off' Ht).2)
    ·rw[hso k' e'] at Ht;exact hS.inj1 h4 k k' j j' id off off' hq Ht
  ·have AM:S9 s.hp sr (i+1) vs ls:=AY (fun k hk=>hso k (by omega)) hL
   rcases hl with⟨rfl,hnp,h3⟩|⟨x',rfl,h3⟩
   ·exact .inl ⟨hnp,by rw[hsi];exact h3,AM⟩
   ·exact .inr ⟨x',ls,rfl,by rw[hsi];exact h3,AM⟩
  ·exact hv fz (fun i hi=>h1 i (by simp[hi])) h2 (bt i) (fun j=>by rw[BN,hsi])
  ·refine Ti fz (fun i hi=>h1 i (by simp[hi])) h2 (fun k j=>(srcs k j).bind (Ji β)) (fun _ _=>rfl) |> KN fun k hk j=>?_
   rw[BN,hso k (by omega)]
end
open Go.RowKit
section
variable {R:Type} {r:R} {P:Program} {N:Nat} {w0:World} {X0:Fp} {Y:Nat->Prop} {β β':Bt} {s:St} {a:Act} {w w':World} {o:Oper} {A:Nat->Prop}
theorem Am2 {p:PV}{u:Value}(h:Aw w A p u):Ci w A β p u:=by
 have h0:=h;cases h<;>exact h0
theorem Aqq {t:Nat}{ct:CT}{was p:PV}{K:Nat->PV->List (Nat × Bx)->Option R} (hk:All N t ct was p K=some r):
  (∃c,K t c []=some r∧AC c∧∀w A q u,Jf w A q p u->Aw w A c u)∨∃es n cc,p=.own es n cc∧K (t+1) (.view (nid N t) es 0 n) [(nid N t,.ar false cc)]=some r:=by
 have tree:∀t',(HJ t' p fun c=>K t c [])=some r->∃c,K t c []=some r∧AC c∧∀w A q u,Jf w A q p u->Aw w A c u:=by
  intro t' hk;obtain⟨c,hk,hT,PI,hv⟩:=P5 hk;refine⟨c,hk,hT,fun w A q u h=>(hv w A (fun _=>none) u ?_).1⟩
  cases p<;>first|exact h|exact PI.elim
 unfold All at hk;cases ct with
 |sl es=>
  dsimp only at hk;split at hk
  ·unfold Gl at hk;split at hk
   ·rename_i es' n c;cases hb:Nat.beq es' es<;>rw[hb] at hk
    ·cases hk
    ·have:=Nat.eq_of_beq_eq_true hb;subst this;exact .inr ⟨_,_,_,rfl,hk⟩
   ·cases hk
  ·have h2:(HJ (.sl es) p fun c=>(match c with | .lst _ es n c=>K t (.lst false es n c) []|_=>none))=some r:=hk
   obtain⟨c,hk,hT,PI,hv⟩:=P5 h2;split at hk
   ·refine .inl ⟨_,hk,hT,fun w A q u h=>Aw.unz (hv w A (fun _=>none) u ?_).1⟩
    cases p<;>first|exact h|exact PI.elim
   ·cases hk
 |int k=>exact .inl (tree _ hk)
 |bool=>exact .inl (tree _ hk)
 |str=>exact .inl (tree _ hk)
 |any=>exact .inl (tree _ hk)
theorem IH:∀{cts:List CT}{ws ps:List PV}{t:Nat}{K:Nat->List PV->List (Nat × Bx)->Option R},XG N t cts ws ps K=some r ->
  ∃t' cs bs,∃qs:List (Nat × Nat),K t' cs bs=some r∧cs.length=ps.length∧ps.length=ws.length∧bs.map (·.1)=qs.map (·.1)∧(∀q∈qs,(∃k,q.1=nid N k)∧q.2<ps.length)∧(∀q∈qs,∀q'∈qs,q.2=q'.2->q.1=q'.1) ∧
   (∀i bx,(i,bx)∈bs->∃c,bx=.ar false c)∧(∀c∈cs,∀i∈Av c,∃bx,(i,bx)∈bs) ∧
   ∀(w:World) (A:Nat->Prop) (own β':Bt) (j0:Nat) (us:List Value),(∀q∈qs,β' q.1=own (j0+q.2))->G6 w A own j0 ps us->Bw (Ci w A β') cs us∧∀i bx,(i,bx)∈bs->Tv w A β' i bx
 |[],[],ps,t,K,hk=>by
  obtain⟨rfl,hk⟩:=Ec hk;refine⟨t,[],[],[],hk,rfl,rfl,rfl,by simp,by simp,by simp,by simp,fun w A own β' j0 us _ h=>⟨?_,by simp⟩⟩
  cases us with
  |nil=>trivial
  |cons u us=>exact h.elim
 |[],_::_,_,_,_,hk=>by cases hk
 |_::_,[],_,_,_,hk=>by cases hk
 |ct::cts,x::ws,ps,t,K,hk=>by
  unfold XG at hk;obtain⟨p,ps',KX,D4⟩:=Bk hk;subst KX;rcases Aqq D4 with⟨c,Gc,hT,hv⟩|⟨es,n,cc,rfl,Gc⟩
  ·obtain⟨t',cs,bs,qs,Tn,hl,Nj,hb,VG,NG,H3,Nv,Ti⟩:=IH Gc;refine⟨t',c::cs,bs,qs.map (fun q=>(q.1,q.2+1)),Tn,by simp[hl],by simp[Nj],by rw[hb];simp,?_,?_,H3,?_,fun w A own β' j0 us hβ ho=>?_⟩
   ·intro q hq;obtain⟨q0,BL,rfl⟩:=List.mem_map.1 hq;exact⟨(VG q0 BL).1,by have:=(VG q0 BL).2;simp only[List.length_cons];omega⟩
   ·intro q hq q' Ht e;obtain⟨q0,BL,rfl⟩:=List.mem_map.1 hq;obtain⟨q1,Lw,rfl⟩:=List.mem_map.1 Ht;exact NG q0 BL q1 Lw (by simp only at e;omega)
   ·intro y hy i hi;rcases List.mem_cons.1 hy with rfl|hy
    ·rw[J2 hT] at hi;cases hi
    ·exact Nv y hy i hi
   ·cases us with
    |nil=>exact ho.elim
    |cons u us=>
     obtain⟨h1,h2⟩:=Ti w A own β' (j0+1) us (fun q hq=>by rw[hβ _ (List.mem_map_of_mem hq)];congr 1;simp only;omega) ho.2
     exact⟨⟨Am2 (hv w A _ u ho.1),h1⟩,h2⟩
  ·obtain⟨t',cs,bs,qs,Tn,hl,Nj,hb,VG,NG,H3,Nv,Ti⟩:=IH Gc;refine⟨t',_::cs,(nid N t,.ar false cc)::bs,(nid N t,0)::qs.map (fun q=>(q.1,q.2+1)),Tn,by simp[hl],by simp[Nj],by simp only[List.map_cons,hb];simp,?_,?_,?_,?_,fun w A own β' j0 us hβ ho=>?_⟩
   ·intro q hq;rcases List.mem_cons.1 hq with rfl|hq
    ·exact⟨⟨t,rfl⟩,by simp⟩
    ·obtain⟨q0,BL,rfl⟩:=List.mem_map.1 hq;exact⟨(VG q0 BL).1,by have:=(VG q0 BL).2;simp only[List.length_cons];omega⟩
   ·intro q hq q' Ht e;rcases List.mem_cons.1 hq with rfl|hq
    ·rcases List.mem_cons.1 Ht with rfl|Ht
     ·rfl
     ·obtain⟨q0,BL,rfl⟩:=List.mem_map.1 Ht;simp only at e;omega
    ·obtain⟨q0,BL,rfl⟩:=List.mem_map.1 hq;rcases List.mem_cons.1 Ht with rfl|Ht
     ·simp only at e;omega
     ·obtain⟨q1,Lw,rfl⟩:=List.mem_map.1 Ht;exact NG q0 BL q1 Lw (by simp only at e;omega)
   ·intro i bx hm;rcases List.mem_cons.1 hm with e|hm
    ·cases e;exact⟨cc,rfl⟩
    ·exact H3 i bx hm
   ·intro y hy i hi;rcases List.mem_cons.1 hy with rfl|hy
    ·simp only[Av,List.mem_singleton] at hi;subst hi;exact⟨_,List.mem_cons_self⟩
    ·obtain⟨bx,Mx⟩:=Nv y hy i hi;exact⟨bx,List.mem_cons_of_mem _ Mx⟩
   ·cases us with
    |nil=>exact ho.elim
    |cons u us=>
     obtain⟨h1,h2⟩:=Ti w A own β' (j0+1) us (fun q hq=>by rw[hβ _ (List.mem_cons_of_mem _ (List.mem_map_of_mem hq))];congr 1;simp only;omega) ho.2
     have h0:=hβ (nid N t,0) List.mem_cons_self;simp only[Nat.add_zero] at h0;refine⟨⟨?_,h1⟩,fun i bx hm=>?_⟩
     ·rcases ho.1 with⟨h3,rfl,_,h5⟩|⟨b,ob,cap,h3,h4,h5,h6,h7,_⟩
      ·exact .inl ⟨h0.trans h3,rfl,rfl,h5⟩
      ·exact .inr ⟨b,ob,ob,cap,h0.trans h3,h4,.inl rfl,h5,h6,h7⟩
     ·rcases List.mem_cons.1 hm with e|hm
      ·cases e;exact GI ho.1 h0
      ·exact h2 i bx hm
def Age (hp C1:Nat->Option Bx)(bs:List (Nat × Bx)) (x:I1):Prop:=
 match x with
 |.var id off _ ws=>∃c cs,hp id=some (.st c)∧C1 id=some (.st (Bn c cs off))∧cs.length=ws.length∧off+cs.length<=c.length∧∀p∈cs,∀i∈Av p,∃bx,(i,bx)∈bs
 |.row id=>∃c cs,hp id=some (.ar false c)∧C1 id=some (.ar false cs)
 |.none=>True
def Amp (β β':Bt)(w':World)(A:Nat->Prop)(hp C1:Nat->Option Bx)(x:I1):Prop:=
 match x with
 |.var id off _ ws=>∃c cs,hp id=some (.st c)∧C1 id=some (.st (Bn c cs off))∧cs.length=ws.length∧off+cs.length<=c.length ∧
   ∀b o,β id=some (b,o)->(∀(j:Nat) p,cs[j]?=some p->∃v,w'.cell? ⟨b,o+off+j,none⟩=some v∧Ci w' A β' p v)∧∀j,j<cs.length->w'.frozen? ⟨b,o+off+j,none⟩=false
 |.row id=>∃cs,C1 id=some (.ar false cs)∧((β id=none∧cs=[])∨∃b o,β id=some (b,o)∧TN w' A ⟨b,o,none⟩ cs∧∀j,o<=j->j<bsz w' b->w'.frozen? ⟨b,j,none⟩=false)
 |.none=>True
theorem EU {hp Ej C1:Nat->Option Bx}{bs bs1:List (Nat × Bx)} {x:I1}(h1:∀i∈x.ids,Ej i=hp i)(hb:∀q∈bs,q∈bs1)(h:Age Ej C1 bs x):Age hp C1 bs1 x:=by
 cases x with
 |var id off cts ws=>
  obtain⟨c,cs,h2,h3,h4,h5,h6⟩:=h;refine⟨c,cs,by rw[←h1 id (by simp[I1.ids])];exact h2,h3,h4,h5,fun p hp i hi=>?_⟩
  obtain⟨bx,Mx⟩:=h6 p hp i hi;exact⟨bx,hb _ Mx⟩
 |row id=>
  obtain⟨c,cs,h2,h3⟩:=h;exact⟨c,cs,by rw[←h1 id (by simp[I1.ids])];exact h2,h3⟩
 |none=>trivial
theorem JE {hp Ej C1:Nat->Option Bx}{x:I1}(h1:∀i∈x.ids,Ej i=hp i)(h:Amp β β' w' A Ej C1 x):Amp β β' w' A hp C1 x:=by
 cases x with
 |var id off cts ws=>
  obtain⟨c,cs,h2,h3⟩:=h;exact⟨c,cs,by rw[←h1 id (by simp[I1.ids])];exact h2,h3⟩
 |row id=>exact h
 |none=>trivial
theorem Aly {hp Ej:Nat->Option Bx}{q:Option (Nat × Nat)} {p:PV}{x:I1}(h1:∀i∈x.ids,Ej i=hp i)(h:LOk hp q p x):LOk Ej q p x:=by
 cases x with
 |var id off cts ws'=>
  obtain⟨h2,h3,h5,c,h6,h7⟩:=h;exact⟨h2,h3,h5,c,by rw[h1 id (by simp[I1.ids])];exact h6,h7⟩
 |row id=>
  obtain⟨h2,h3,c,h4⟩:=h;exact⟨h2,h3,c,by rw[h1 id (by simp[I1.ids])];exact h4⟩
 |none=>exact h
theorem DR {hp Ej:Nat->Option Bx}{src:Nat->Nat->Option (Nat × Nat)}:∀{ps:List PV}{i:Nat}{l:List I1},(∀i∈l.flatMap I1.ids,Ej i=hp i)->S9 hp src i ps l->S9 Ej src i ps l
 |[],_,_,_,h=>h
 |p::ps,i,l,hs,h=>by
  rcases h with⟨h1,h2,h3⟩|⟨x,l',rfl,h2,h3⟩
  ·exact .inl ⟨h1,h2,DR hs h3⟩
  ·exact .inr ⟨x,l',rfl,Aly (fun k hk=>hs k (by simp only[List.flatMap_cons,List.mem_append];exact .inl hk)) h2,DR (fun k hk=>hs k (by simp only[List.flatMap_cons,List.mem_append];exact .inr hk)) h3⟩
theorem Ag1 {own:Bt}{bt:JI}{j i:Nat}{p:PV}{zs:List PV}{r:List (List PV)} (hp:GH p=false)(h:AK w A own bt j i (p::zs) r):AK w A own bt j (i+1) zs r:=by
 cases p<;>first|exact h|cases hp
theorem Xx {src:Nat->Nat->Option (Nat × Nat)} {β:Bt}:∀{zs:List PV}{l:List I1}{ro:List (List PV)} {i j t:Nat}{hp:Nat->Option Bx}{K:(Nat->Option Bx)->List (Nat × Bx)->Option R},
  BM N t l ro hp K=some r->S9 hp src i zs l->Fh (l.flatMap I1.ids)=true ->
  ∃C1 bs,∃qs:List (Nat × Nat),K C1 bs=some r∧bs.map (·.1)=qs.map (·.1)∧(∀q∈qs,(∃k,q.1=nid N k)∧j<=q.2)∧(∀q∈qs,∀q'∈qs,q.2=q'.2->q.1=q'.1)∧(∀i bx,(i,bx)∈bs->∃c,bx=.ar false c) ∧
   (∀i,i ∉ l.flatMap I1.ids->C1 i=hp i)∧(∀x∈l,Age hp C1 bs x) ∧
   ∀(w':World) (A:Nat->Prop) (own β':Bt) (bt:JI),(∀q∈qs,β' q.1=own q.2)->(∀i,bt i 0=(src i 0).bind (Ji β))->AK w' A own bt j i zs ro ->
    (∀i bx,(i,bx)∈bs->Tv w' A β' i bx)∧∀x∈l,Amp β β' w' A hp C1 x
 |[],l,ro,i,j,t,hp,K,hk,hL,hn=>by
  have hL:l=[]:=hL;subst hL;unfold BM at hk;obtain⟨rfl,hk⟩:=Ec hk;exact⟨hp,[],[],hk,rfl,by simp,by simp,by simp,fun _ _=>rfl,by simp,fun w' A own β' bt _ _ _=>⟨by simp,by simp⟩⟩
 |p::zs,l0,ro,i,j,t,hp,K,hk,hL0,hn=>by
  rcases hL0 with⟨LF,_,hL⟩|⟨x,l,rfl,hok,hL⟩
  rotate_left
  ··simp only[List.flatMap_cons] at hn;obtain⟨hn1,hn2,hn3⟩:=K0 hn;cases x with
    |var id off cts ws'=>
     obtain⟨rfl,LL,W9,c,hc,Xa⟩:=hok;unfold BM at hk;obtain⟨cs,ro',hro,D4⟩:=Bk hk;subst hro;obtain⟨t',cs',bs,qs,Gc,GT,LZ,hb,VG,NG,H3,Nv,hv⟩:=IH D4;rw[hc] at Gc;simp only at Gc;change BM N t' l ro' (Da hp id (some (.st (Bn c cs' off)))) (fun C1 bs'=>K C1 (bs++bs'))=some r at Gc
     have Aew:id ∉ l.flatMap I1.ids:=hn3 id (by simp[I1.ids])
     have hL':S9 (Da hp id (some (.st (Bn c cs' off)))) src (i+1) zs l:=DR (fun k hkm=>Am _ _ (fun e=>Aew (e ▸ hkm))) hL
     obtain⟨C1,bs',qs',Tn,Ip,Lw,Ag5,Aes,Ou,hsh,YS⟩:=Xx (β:=β) (j:=j+cs.length) Gc hL' hn2;have Aqw:C1 id=some (.st (Bn c cs' off)):=by rw[Ou id Aew,Au]
     have QS:∀x∈l,∀k∈x.ids,Da hp id (some (.st (Bn c cs' off))) k=hp k:=fun x hx k hkm=>Am _ _ (fun e=>Aew (e ▸ List.mem_flatMap.2 ⟨x,hx,hkm⟩))
     refine⟨C1,bs++bs',qs.map (fun q=>(q.1,j+q.2))++qs',Tn,by simp only[List.map_append,hb,Ip];simp,?_,?_,?_,?_,?_,fun w' A own β' bt hβ BN ho=>?_⟩
     ·intro q hq;rcases List.mem_append.1 hq with hq|hq
      ·obtain⟨q0,BL,rfl⟩:=List.mem_map.1 hq;exact⟨(VG q0 BL).1,by simp only;omega⟩
      ·exact⟨(Lw q hq).1,by have:=(Lw q hq).2;omega⟩
     ·intro q hq q' Ht e;rcases List.mem_append.1 hq with hq|hq
      ·obtain⟨q0,BL,rfl⟩:=List.mem_map.1 hq;have:=(VG q0 BL).2;rcases List.mem_append.1 Ht with Ht|Ht
       ·obtain⟨q1,Lw,rfl⟩:=List.mem_map.1 Ht;exact NG q0 BL q1 Lw (by simp only at e;omega)
       ·have:=(Lw q' Ht).2;simp only at e;omega
      ·have h5:=(Lw q hq).2;rcases List.mem_append.1 Ht with Ht|Ht
       ·obtain⟨q1,A31,rfl⟩:=List.mem_map.1 Ht;have:=(VG q1 A31).2;simp only at e;omega
       ·exact Ag5 q hq q' Ht e
     ·intro k bx hm;rcases List.mem_append.1 hm with hm|hm
      ·exact H3 k bx hm
      ·exact Aes k bx hm
     ·intro k hk;simp only[List.flatMap_cons,List.mem_append,not_or] at hk;rw[Ou k hk.2];exact Am _ _ (by rintro rfl;exact hk.1 (by simp[I1.ids]))
     ·intro x hx;rcases List.mem_cons.1 hx with rfl|hx
      ·refine⟨c,cs',hc,Aqw,by omega,by omega,fun p hp k hk=>?_⟩
       obtain⟨bx,Mx⟩:=Nv p hp k hk;exact⟨bx,List.mem_append.2 (.inl Mx)⟩
      ·exact EU (QS x hx) (fun q hq=>List.mem_append.2 (.inr hq)) (hsh x hx)
     ·obtain⟨⟨b,ob,RW,Gv,vs,hov,hcell,TJ⟩,ho⟩:=ho
      ·obtain⟨h1,h2⟩:=hv w' A own β' j vs (fun q hq=>hβ _ (List.mem_append.2 (.inl (List.mem_map_of_mem hq)))) hov
       obtain⟨h3,h4⟩:=YS w' A own β' bt (fun q hq=>hβ q (List.mem_append.2 (.inr hq))) BN ho
       refine⟨fun k bx hm=>?_,fun x hx=>?_⟩
       ·rcases List.mem_append.1 hm with hm|hm
        ·exact h2 k bx hm
        ·exact h3 k bx hm
       ·rcases List.mem_cons.1 hx with rfl|hx
        ·refine⟨c,cs',hc,Aqw,by omega,by omega,fun b1 o1 hβ1=>?_⟩
         have Nv:=BN i;rw[RW,LL] at Nv;simp only[Option.bind_some,Ji,hβ1,Option.map_some,Option.some.injEq,Prod.mk.injEq] at Nv;obtain⟨rfl,rfl⟩:=Nv;refine⟨fun k p hp=>?_,fun k hk=>TJ k (by omega)⟩
         obtain⟨v,hv,hcr⟩:=h1.get hp;exact⟨v,hcell k v hv,hcr⟩
        ·exact JE (QS x hx) (h4 x hx)
    |row id=>
     obtain⟨⟨pz,rfl⟩,LL,c,hc⟩:=hok;unfold BM at hk;obtain⟨cs,ro',hro,Gc⟩:=Bk hk;subst hro;have Aew:id ∉ l.flatMap I1.ids:=hn3 id (by simp[I1.ids])
     have hL':S9 (Da hp id (some (.ar false cs))) src (i+1) zs l:=DR (fun k hkm=>Am _ _ (fun e=>Aew (e ▸ hkm))) hL
     obtain⟨C1,bs',qs',Tn,Ip,Lw,Ag5,Aes,Ou,hsh,YS⟩:=Xx (β:=β) (j:=j) Gc hL' hn2;have Aqw:C1 id=some (.ar false cs):=by rw[Ou id Aew,Au]
     have QS:∀x∈l,∀k∈x.ids,Da hp id (some (.ar false cs)) k=hp k:=fun x hx k hkm=>Am _ _ (fun e=>Aew (e ▸ List.mem_flatMap.2 ⟨x,hx,hkm⟩))
     refine⟨C1,bs',qs',Tn,Ip,Lw,Ag5,Aes,?_,?_,fun w' A own β' bt hβ BN ho=>?_⟩
     ·intro k hk;simp only[List.flatMap_cons,List.mem_append,not_or] at hk;rw[Ou k hk.2];exact Am _ _ (by rintro rfl;exact hk.1 (by simp[I1.ids]))
     ·intro x hx;rcases List.mem_cons.1 hx with rfl|hx
      ·exact⟨c,cs,hc,Aqw⟩
      ·exact EU (QS x hx) (fun q hq=>hq) (hsh x hx)
     ·obtain⟨Alj,ho⟩:=ho
      ·obtain⟨h3,h4⟩:=YS w' A own β' bt hβ BN ho;refine⟨h3,fun x hx=>?_⟩
       rcases List.mem_cons.1 hx with rfl|hx
       ·refine⟨cs,Aqw,?_⟩;have Nv:=BN i;rw[LL] at Nv;simp only[Option.bind_some,Aep] at Nv;rw[Nv] at Alj;exact Alj
       ·exact JE (QS x hx) (h4 x hx)
    |none=>
     obtain⟨⟨pz,rfl⟩,LL⟩:=hok;unfold BM at hk;obtain⟨cs,ro',hro,Gc⟩:=Bk hk;subst hro;obtain⟨C1,bs',qs',Tn,Ip,Lw,Ag5,Aes,Ou,hsh,YS⟩:=Xx (β:=β) (j:=j) Gc hL hn2;refine⟨C1,bs',qs',Tn,Ip,Lw,Ag5,Aes,?_,?_,fun w' A own β' bt hβ BN ho=>?_⟩
     ·intro k hk;simp only[List.flatMap_cons,List.mem_append,not_or] at hk;exact Ou k hk.2
     ·intro x hx;rcases List.mem_cons.1 hx with rfl|hx
      ·trivial
      ·exact hsh x hx
     ·obtain⟨Alj,ho⟩:=ho
      ·obtain⟨h3,h4⟩:=YS w' A own β' bt hβ BN ho;refine⟨h3,fun x hx=>?_⟩
       rcases List.mem_cons.1 hx with rfl|hx
       ·trivial
       ·exact h4 x hx
  ·obtain⟨C1,bs',qs',Tn,Ip,Lw,Ag5,Aes,Ou,hsh,YS⟩:=Xx (β:=β) (j:=j) hk hL hn;exact⟨C1,bs',qs',Tn,Ip,Lw,Ag5,Aes,Ou,hsh,fun w' A own β' bt hβ BN ho=>YS w' A own β' bt hβ BN (Ag1 LF ho)⟩
end
open Go.RowKit
theorem H9 (hp:Nat->Option Bx)(ids:List Nat)(i:Nat):X3 hp ids i=if i∈ids then (hp i).map (fun _=>Bx.mv) else hp i:=by
 unfold X3;by_cases hi:i∈ids
 ·have:ids.any (Nat.beq i)=true:=List.any_eq_true.2 ⟨i,hi,Nat.beq_refl i⟩;rw[this,if_pos hi];rfl
 ·have:ids.any (Nat.beq i)=false:=by
   cases hb:ids.any (Nat.beq i)
   ·rfl
   ·obtain⟨j,hj,e⟩:=List.any_eq_true.1 hb;exact absurd (Nat.eq_of_beq_eq_true e ▸ hj) hi
  rw[this,if_neg hi];rfl
theorem Vv:∀{nw:List (Nat × Bx)} {hp:Nat->Option Bx},Ck hp nw=true->(nw.map (·.1)).Nodup
 |[],_,_=>List.nodup_nil
 |(i,b)::r,hp,h=>by
  simp only[Ck,Bool.and_eq_true,Option.isNone_iff_eq_none,Bool.not_eq_true'] at h;simp only[List.map_cons,List.nodup_cons];refine⟨fun hm=>?_,Vv h.2⟩
  obtain⟨q,hq,e⟩:=List.mem_map.1 hm;have:r.any (fun q=>Nat.beq q.1 i)=true:=List.any_eq_true.2 ⟨q,hq,by rw[e];exact Nat.beq_refl i⟩
  rw[this] at h;cases h.1.2
theorem Are:∀{l:List (Nat × Nat)},(l.map (·.1)).Nodup->∀q∈l,Zj l q.1=some q.2
 |[],_,_,h=>by cases h
 |(j,b)::r,hn,q,hq=>by
  simp only[List.map_cons,List.nodup_cons] at hn;unfold Zj;rcases List.mem_cons.1 hq with rfl|hq
  ·simp only[Nat.beq_refl,cond_true]
  ·have:Nat.beq q.1 j=false:=by
    cases hb:Nat.beq q.1 j
    ·rfl
    ·exact absurd (Nat.eq_of_beq_eq_true hb ▸ List.mem_map_of_mem hq) hn.1
   simp only[this,cond_false];exact Are hn.2 q hq
theorem Abi:∀{l:List (Nat × Nat)} {i:Nat},i ∉ l.map (·.1)->Zj l i=none
 |[],_,_=>rfl
 |(j,b)::r,i,h=>by
  simp only[List.map_cons,List.mem_cons,not_or] at h;unfold Zj
  have:Nat.beq i j=false:=by
   cases hb:Nat.beq i j
   ·rfl
   ·exact absurd (Nat.eq_of_beq_eq_true hb) h.1
  simp only[this,cond_false];exact Abi h.2
section
variable {R:Type} {r:R} {P:Program} {N:Nat} {w0:World} {X0:Fp} {Y:Nat->Prop} {β β':Bt} {s:St} {a:Act} {w w':World} {o:Oper} {A A':Nat->Prop}
theorem Jf.weak (hA:∀b,b<w.heap.size->A' b->A b){q:Option (Nat × Nat)} {p:PV}{u:Value}(h:Jf w A q p u):Jf w A' q p u:=by
 have tr:∀{p:PV},Aw w A p u->Aw w A' p u:=fun h=>h.step (Co.refl _ _) hA
 cases p with
 |own es n c=>
  rcases h with h|⟨b,ob,cap,h1,h2,h3,h4,h5,h6,h7⟩
  ·exact .inl h
  ·exact .inr ⟨b,ob,cap,h1,h2,h3,h4,h5,h6.weak hA,h7⟩
 |_=>exact tr h
theorem G6.weak (hA:∀b,b<w.heap.size->A' b->A b){own:Bt}:∀{ps:List PV}{us:List Value}{j:Nat},G6 w A own j ps us->G6 w A' own j ps us
 |[],[],_,_=>trivial
 |[],_::_,_,h=>h.elim
 |_::_,[],_,h=>h.elim
 |_::_,_::_,_,h=>⟨h.1.weak hA,G6.weak hA h.2⟩
theorem Ad7.weak (hA:∀b,b<w.heap.size->A' b->A b){bt:Bt}{p:PV}{u:Value}(h:Ad7 w A bt p u):Ad7 w A' bt p u:=by
 cases p with
 |pbox ps=>
  obtain⟨b,ob,h1,h2,h3,vs,h4,h5⟩:=h;exact⟨b,ob,h1,h2,h3,vs,h4.weak hA,h5⟩
 |tup ps=>
  obtain⟨es,n,c,h1,h2⟩:=h;exact⟨es,n,c,h1,h2.weak hA⟩
 |agg cs=>
  obtain⟨vs,h1,h2,h3⟩:=h;exact⟨vs,h1,h2,h3.weak hA⟩
 |_=>exact⟨h.1,h.2.weak hA⟩
theorem Oq.weak (hA:∀b,b<w.heap.size->A' b->A b){bt:JI}:∀{ps:List PV}{us:List Value}{i:Nat},Oq w A bt i ps us->Oq w A' bt i ps us
 |[],[],_,_=>trivial
 |[],_::_,_,h=>h.elim
 |_::_,[],_,h=>h.elim
 |_::_,_::_,_,h=>⟨h.1.weak hA,Oq.weak hA h.2⟩
theorem FM {bt:JI}(k:Bool):∀{xs:List Operand}{ps:List PV}{i:Nat},Oq w A bt i ps (xs.map a.eval)->Oq w A bt i (Lx k xs ps) (xs.map a.eval)
 |[],[],_,h=>h
 |[],_::_,_,h=>h
 |_::_,[],_,h=>h
 |x::xs,p::ps,i,h=>by
  simp only[List.map_cons] at h ⊢;refine⟨?_,FM k h.2⟩;split
  ·exact⟨.inl trivial,Aw.lnil _ _⟩
  ·exact h.1
theorem ZT (k:Bool)(x:Operand)(xs:List Operand)(p:PV)(ps:List PV):∃p',Lx k (x::xs) (p::ps)=p'::Lx k xs ps∧GH p'=GH p∧(GH p=true->p'=p):=by
 refine⟨_,rfl,?_,fun h=>?_⟩
 ·split
  ·rfl
  ·rfl
 ·split
  ·cases h
  ·rfl
theorem Vp {hp:Nat->Option Bx}{src:Nat->Nat->Option (Nat × Nat)} (k:Bool):∀{xs:List Operand}{ps:List PV}{i:Nat}{l:List I1},S9 hp src i ps l->S9 hp src i (Lx k xs ps) l
 |[],[],_,_,h=>h
 |[],_::_,_,_,h=>h
 |_::_,[],_,_,h=>h
 |x::xs,p::ps,i,l,h=>by
  obtain⟨p',e,h1,h2⟩:=ZT k x xs p ps;rw[e];rcases h with⟨h3,h4,h5⟩|⟨y,l',rfl,h4,h5⟩
  ·exact .inl ⟨by rw[h1];exact h3,h4,Vp k h5⟩
  ·exact .inr ⟨y,l',rfl,by rw[h2 (Ahi h4)];exact h4,Vp k h5⟩
theorem NW {hp:Nat->Option Bx}{src:Nat->Nat->Option (Nat × Nat)}:∀{ps:List PV}{i:Nat}{l:List I1},S9 hp src i ps l->∀id∈l.flatMap I1.ids,Cs (hp id)∧∃k off,src k 0=some (id,off)
 |[],_,_,h,id,Bo=>by
  have h:_=[]:=h;rw[h] at Bo;cases Bo
 |p::ps,i,l,h,id,Bo=>by
  rcases h with⟨_,_,h3⟩|⟨x,l',rfl,h2,h3⟩
  ·exact NW h3 id Bo
  ·simp only[List.flatMap_cons,List.mem_append] at Bo;rcases Bo with Bo|Bo
   ·cases x with
    |var id' off cts ws=>
     simp only[I1.ids,List.mem_singleton] at Bo;subst Bo;obtain⟨_,h4,_,c,h5,_⟩:=h2;exact⟨by rw[h5];trivial,i,_,h4⟩
    |row id'=>
     simp only[I1.ids,List.mem_singleton] at Bo;subst Bo;obtain⟨_,h4,c,h5⟩:=h2;exact⟨by rw[h5];trivial,i,_,h4⟩
    |none=>simp[I1.ids] at Bo
   ·exact NW h3 id Bo
theorem Aq9 {hp:Nat->Option Bx}{src:Nat->Nat->Option (Nat × Nat)}:∀{ps:List PV}{i:Nat}{l:List I1},S9 hp src i ps l->∀k p id off,ps[k]?=some p->src (i+k) 0=some (id,off) ->
   (∃c ws,hp id=some (.st c)∧p=.pbox ws∧off+ws.length<=c.length)∨((∃c,hp id=some (.ar false c))∧off=0∧∃ws,p=.tup ws)
 |[],_,_,_,k,p,id,off,hp,_=>by simp at hp
 |p::ps,i,l,h,k,p',id,off,C1,hs=>by
  have AM:∃l',S9 hp src (i+1) ps l':=by
   rcases h with⟨_,_,h3⟩|⟨x,l',_,_,h3⟩<;>exact⟨_,h3⟩
  cases k with
  |succ k=>
   obtain⟨l',h'⟩:=AM;exact Aq9 h' k p' id off (by simpa using C1) (by rw[show i+1+k=i+(k+1) by omega];exact hs)
  |zero=>
   simp only[List.getElem?_cons_zero,Option.some.injEq] at C1;subst C1;rw[Nat.add_zero] at hs;rcases h with⟨_,h2,_⟩|⟨x,l',_,h2,_⟩
   ·rw[hs] at h2;cases h2
   ·cases x with
    |var id' off' cts ws=>
     obtain⟨h3,h4,_,c,h5,h6⟩:=h2;rw[hs] at h4;cases h4;exact .inl ⟨c,ws,h5,h3,h6⟩
    |row id'=>
     obtain⟨h3,h4,c,h5⟩:=h2;rw[hs] at h4;cases h4;exact .inr ⟨⟨c,h5⟩,rfl,h3⟩
    |none=>
     have:=h2.2;rw[hs] at this;cases this
theorem Aa0 {hp : Nat -> Option Bx} {src : Nat -> Nat -> Option (Nat × Nat)} {id off : Nat} {cts : List CT} {ws : List PV} : ∀ {ps : List PV} {i : Nat} {l : List I1}, S9 hp src i ps l -> I1.var id off cts ws ∈ l ->
      ∃ k, ps[k]? = some (.pbox ws) ∧ src (i + k) 0 = some (id, off)
  | [], _, _, h, hm => by
    have h : _ = [] := h
    rw[h] at hm; cases hm
  | p :: ps, i, l, h, hm => by
    have next : ∀ {l'}, S9 hp src (i + 1) ps l' -> I1.var id off cts ws ∈ l' -> ∃ k, (p :: ps)[k]? = some (.pbox ws) ∧ src (i + k) 0 = some (id, off) := by
      intro l' h' Qf
      obtain⟨k, h1, h2⟩ := Aa0 h' Qf
      exact⟨k + 1, by simpa using h1, by rw[show i + (k + 1) = i + 1 + k by omega]; exact h2⟩
    rcases h with⟨_, _, h3⟩ | ⟨x, l', rfl, h2, h3⟩
    · exact next h3 hm
    · rcases List.mem_cons.1 hm with e | hm
      · subst e
        obtain⟨h1, h4, _⟩ := h2
        subst h1
        exact⟨0, rfl, h4⟩
      · exact next h3 hm
theorem Aed {hp:Nat->Option Bx}{src:Nat->Nat->Option (Nat × Nat)}:∀{ps:List PV}{i:Nat}{l:List I1},S9 hp src i ps l->∀k id off,i<=k->src k 0=some (id,off)->k<i+ps.length->∃p,ps[k-i]?=some p∧GH p=true
 |[],i,_,_,k,id,off,h1,_,h3=>by simp at h3;omega
 |p::ps,i,l,h,k,id,off,h1,h2,h3=>by
  by_cases e:k=i
  ·subst e;rcases h with⟨_,h4,_⟩|⟨x,l',_,h4,_⟩
   ·rw[h2] at h4;cases h4
   ·exact⟨p,by simp,Ahi h4⟩
  ·have AM:∃l',S9 hp src (i+1) ps l':=by
    rcases h with⟨_,_,h3⟩|⟨x,l',_,_,h3⟩<;>exact⟨_,h3⟩
   obtain⟨l',h'⟩:=AM;obtain⟨q,h5,h6⟩:=Aed h' k id off (by omega) h2 (by simp at h3;omega)
   refine⟨q,?_,h6⟩;rw[show k-i=(k-(i+1))+1 by omega]
   simpa using h5
theorem Oq.len {bt:JI}:∀{ps:List PV}{us:List Value}{i:Nat},Oq w A bt i ps us->ps.length=us.length
 |[],[],_,_=>rfl
 |[],_::_,_,h=>h.elim
 |_::_,[],_,h=>h.elim
 |_::_,_::_,_,h=>by simp[Oq.len h.2]
theorem Ac2 (h:B4 N w0 X0 Y β s a w){G:Us}(Ja:JJ P G w0 X0){C:I3}{call:Ah}(C4:∀f args res,call f args=some res->C7 G P f args res){c:Call}{f:FuncId}(ho:o.op=.call c)(hc:c.callee=.value (.func f))
  {K:St->Option R} (hk:IU C P N call s o f c K=some r):
  ∃s',K s'=some r∧∀(next:Act->World->Prop) (Q:Exit->Act->World->Prop),(∀a' w' β',B4 N w0 X0 Y β' s' a' w'->next a' w')->o.wp P a w next Q:=by
 unfold IU at hk;obtain⟨vs0,m,x,l,src,D4,hm,hx,hS,hL,Es⟩:=UG h hk;obtain⟨hb,Gc⟩:=As D4;simp only[Bool.and_eq_true] at hb;obtain⟨⟨⟨SA,Axu⟩,hN⟩,Akq⟩:=hb;have hN:0<N:=Nat.lt_of_succ_le (Nat.le_of_ble_eq_true hN);obtain⟨hnl,hnx,hlx⟩:=K0 SA
 have hml:∀i∈m,i ∉ l.flatMap I1.ids∧i ∉ x:=by
  intro i hi;have:=List.all_eq_true.1 Axu i hi
  have hn:∀k∈l.flatMap I1.ids++x,i≠k:=by
   rintro k hk rfl
   have h2:(l.flatMap I1.ids++x).any (Nat.beq i)=true:=List.any_eq_true.2 ⟨i,hk,Nat.beq_refl i⟩;rw[h2] at this;cases this
  exact⟨fun hq=>hn i (by simp only[List.mem_append];exact .inl hq) rfl,fun hq=>hn i (by simp only[List.mem_append];exact .inr hq) rfl⟩
 replace hL:=Vp (C.kz f) (xs:=c.args.toList) hL
 replace Es:=fun fz h1 h2 bt BN=>FM (a:=a) (C.kz f) (Es fz h1 h2 bt BN)
 generalize Lx (C.kz f) c.args.toList vs0=vs at Gc Es hL;obtain⟨rv,ro,W9,Tn⟩:=UU Gc;obtain⟨ws,bs,Tc,hwl,hnt,NN,hrs,hri,hws⟩:=HZ (C.shr f) N Tn;obtain⟨T9,VL⟩:=As Tc;obtain⟨lids,TQ⟩:∃lids,l.flatMap I1.ids=lids:=⟨_,rfl⟩;rw[TQ] at hS hnl hlx hml;have A2d:∀i,i ∉ x->X3 (Ag s.hp m) x i=Ag s.hp m i:=fun i hi=>by rw[H9,if_neg hi]
 have Ah7:∀i,i∈lids->X3 (Ag s.hp m) x i=s.hp i:=fun i hi=>by
  rw[A2d i (hlx i hi),Cn,if_neg (fun hq=>(hml i hq).1 hi)]
 have hLM:S9 (X3 (Ag s.hp m) x) src 0 vs l:=DR (fun i hi=>Ah7 i (TQ ▸ hi)) hL
 obtain⟨C1,bs',qs,hk6,hbq,VG,NG,H3,Ou,hsh,YS⟩:=Xx (β:=β) (j:=Rv rv) VL hLM (by rw[TQ];exact hnl)
 obtain⟨Tp,hk7⟩:=As hk6;refine⟨_,hk7,fun next Q hn=>?_⟩
 clear hk D4 Gc Tn Tc VL hk6 hk7;rw[TQ] at Ou;obtain⟨⟨fn,hfn,hfb⟩,WX⟩:=C4 f vs _ W9;have hf:=h.freeze hm;have Aj9:=NW hL;rw[TQ] at Aj9
 have WB:∀i,i∈lids∨i∈x->Ag s.hp m i=s.hp i:=by
  intro i hi;rw[Cn,if_neg];intro hq;rcases hi with hi|hi
  ·exact (hml i hq).1 hi
  ·exact (hml i hq).2 hi
 have EE:∀i,i∈lids∨i∈x->Cs (s.hp i):=by
  intro i hi;rcases hi with hi|hi
  ·exact (Aj9 i hi).1
  ·obtain⟨cc,hcc⟩:=hx i hi;rw[hcc];trivial
 have A2j:∀i j id off,src i j=some (id,off)->id∈lids∨id∈x:=by
  intro i j id off hs;cases j with
  |zero=>exact .inl (hS.lent i id off hs)
  |succ j=>exact .inr (hS.mvd i j id off hs).2
 obtain⟨bt,BN⟩:∃bt:JI,∀i j,bt i j=(src i j).bind (Ji β):=⟨_,fun _ _=>rfl⟩
 have btS:∀{i j b ob},bt i j=some (b,ob)->∃id off o',src i j=some (id,off)∧β id=some (b,o')∧ob=o'+off∧(id∈lids∨id∈x):=by
  intro i j b ob hb;rw[BN] at hb;cases hs:src i j with
  |none=>rw[hs] at hb;cases hb
  |some q=>
   rw[hs] at hb;obtain⟨id,off⟩:=q;simp only[Option.bind_some,Ji] at hb;cases hβ:β id with
   |none=>rw[hβ] at hb;cases hb
   |some p=>
    rw[hβ] at hb;obtain⟨b',o'⟩:=p;simp only[Option.map_some,Option.some.injEq,Prod.mk.injEq] at hb;obtain⟨rfl,rfl⟩:=hb;exact⟨id,off,o',rfl,hβ,rfl,A2j i j id off hs⟩
 have btX:∀{b},BtX bt b->∃id o',β id=some (b,o')∧(id∈lids∨id∈x):=by
  rintro b ⟨i,j,ob,hb⟩
  obtain⟨id,off,o',_,h2,_,h4⟩:=btS hb;exact⟨id,o',h2,h4⟩
 have hBA:∀b,BtX bt b->BZ s.hp β b:=fun b hb=>by
  obtain⟨id,o',h1,h2⟩:=btX hb;exact⟨id,o',EE id h2,h1⟩
 obtain⟨Yc,hYc⟩:∃Yc:Nat->Prop,∀b,Yc b↔((∃id ob,Cs (Ag s.hp m id)∧β id=some (b,ob)∧id ∉ lids∧id ∉ x)∨Y b):=⟨_,fun _=>Iff.rfl⟩
 have Gv:vs.length=c.args.toList.length:=by
  have:=(Es m (fun _ hi=>hi) hm bt BN).len
  simpa using this
 have A66:Ins w Yc bt vs (c.args.toList.map a.eval):=by
  refine⟨fun b hb=>?_,fun b hb hB=>?_,fun b hB=>?_,fun i j i' j' b ob ob' hb Ip=>?_,fun i q hq=>?_,?_⟩
  ·rcases (hYc b).1 hb with⟨id,ob,hl,hβ,_⟩|hY
   ·exact hf.blt id b ob (Dg hl) hβ
   ·exact Nat.lt_of_lt_of_le (h.Ylt b hY) h.fr.step.size
  ·obtain⟨id',o',h1,h2⟩:=btX hB;rcases (hYc b).1 hb with⟨id,ob,hl,hβ,h3,h4⟩|hY
   ·have:=hf.inj id id' b ob o' hl (by show Cs (Ag s.hp m id');rw[WB id' h2];exact EE id' h2) hβ h1
    subst this;rcases h2 with h2|h2
    ·exact h3 h2
    ·exact h4 h2
   ·exact h.Yx b hY ⟨id',o',EE id' h2,h1⟩
  ·obtain⟨id',o',h1,h2⟩:=btX hB;exact h.blt id' b o' (Dg (EE id' h2)) h1
  ·obtain⟨id,off,o1,h1,h2,_,h4⟩:=btS hb;obtain⟨id',off',o1',VE,h2',_,h4'⟩:=btS Ip;have:=h.inj id id' b o1 o1' (EE id h4) (EE id' h4') h2 h2';subst this;cases j with
   |zero=>
    cases j' with
    |zero=>exact⟨hS.inj0 hnl i i' id off off' h1 VE,rfl⟩
    |succ j'=>exact absurd (hS.mvd i' j' id off' VE).2 (hlx id (hS.lent i id off h1))
   |succ j=>
    cases j' with
    |zero=>exact absurd (hS.mvd i j id off h1).2 (hlx id (hS.lent i' id off' VE))
    |succ j'=>
     obtain⟨h5,h6⟩:=hS.inj1 hnx i i' j j' id off off' h1 VE;exact⟨h5,by rw[h6]⟩
  ·obtain⟨b,ob⟩:=q;obtain⟨id,off,o',h1,_⟩:=btS hq;obtain⟨p,hp,h2⟩:=Aed hL i id off (Nat.zero_le _) h1 (by have:=hS.dom i 0 _ h1;rw[Gv];exact this.2)
   exact⟨p,by simpa using hp,h2⟩
  ·refine (Es m (fun _ hi=>hi) hm bt BN).weak fun b _ hb=>?_
   rcases hb with hb|hb
   ·obtain⟨id',o',h1,h2⟩:=btX hb;exact .inl ⟨id',o',by rw[WB id' h2];exact EE id' h2,h1⟩
   ·rcases (hYc b).1 hb with⟨id,ob,hl,hβ,_⟩|hY
    ·exact .inl ⟨id,ob,hl,hβ⟩
    ·exact .inr hY
 unfold Oper.wp;rw[FY ho hc Ja.ng hfn hfb];show Calls P f _ w _;have hca:c.args.map a.eval=(c.args.toList.map a.eval).toArray:=by rw[←List.map_toArray,Array.toArray_toList]
 rw[hca];refine (WX w Yc bt _ A66 (Ja.fr w h.fr) (fun b x=>⟨Nat.lt_of_lt_of_le (Ja.y b x).1 h.fr.step.size,fun hB=>(h.ownd b (hBA b hB)).elim (Ja.y b x).2 (fun Xa=>absurd (Ja.y b x).1 (Nat.not_lt.2 Xa))⟩)).mono ?_
 rintro e w' ⟨us,own,rfl,out⟩
 obtain⟨ha1,ha2⟩:=B5 Tp;obtain⟨hg1,hg2⟩:=Fy (hp:=C1) ha2;have Ae9:=Vv Tp;rw[List.map_append,List.nodup_append] at Ae9;obtain⟨Bc8,A34,A6t⟩:=Ae9;rw[hbq] at A34
 obtain⟨β1,hβ1,hβ2⟩:∃β1:Bt,(∀i,(∃bx,(i,bx)∈bs)->β1 i=own ((i-o.dst.getD N) / N))∧∀i,(¬∃bx,(i,bx)∈bs)->β1 i=match Zj qs i with|some j=>own j|none=>β i:=by
  refine⟨fun i=>if (bs.any fun q=>Nat.beq q.1 i)=true then own ((i-o.dst.getD N) / N) else match Zj qs i with|some j=>own j|none=>β i,fun i hi=>?_,fun i hi=>?_⟩
  ·show (if _ then _ else _)=_
   rw[if_pos (ZG.2 hi)]
  ·show (if _ then _ else _)=_
   rw[if_neg (fun hq=>hi (ZG.1 hq))]
 have hβbs:∀j,(∃bx,(o.dst.getD N+N*j,bx)∈bs)->β1 (o.dst.getD N+N*j)=own (0+j):=by
  intro j hj;rw[hβ1 _ hj,Nat.add_sub_cancel_left,Nat.mul_div_cancel_left _ hN,Nat.zero_add]
 have hqb:∀q∈qs,∃bx,(q.1,bx)∈bs':=by
  intro q hq;have:q.1∈bs'.map (·.1):=by rw[hbq];exact List.mem_map_of_mem hq
  obtain⟨⟨i,bx⟩,hm,e⟩:=List.mem_map.1 this;exact⟨bx,e ▸ hm⟩
 have A7k:∀i bx,(i,bx)∈bs'->∃j,(i,j)∈qs:=by
  intro i bx hm;have:i∈qs.map (·.1):=by rw[←hbq];exact List.mem_map.2 ⟨_,hm,rfl⟩
  obtain⟨⟨i',j⟩,hm,e⟩:=List.mem_map.1 this;exact⟨j,e ▸ hm⟩
 have hbb:∀i,(∃bx,(i,bx)∈bs')->¬∃bx,(i,bx)∈bs:=by
  rintro i ⟨bx,hm⟩ ⟨bx',Qf⟩
  exact A6t i (List.mem_map.2 ⟨_,Qf,rfl⟩) i (List.mem_map.2 ⟨_,hm,rfl⟩) rfl
 have hβqs:∀q∈qs,β1 q.1=own q.2:=by
  intro q hq;rw[hβ2 q.1 (hbb q.1 (hqb q hq)),Are A34 q hq]
 have hβold:∀i,C1 i≠none->β1 i=β i:=by
  intro i hi
  have hn1:¬∃bx,(i,bx)∈bs:=by
   rintro⟨bx,hm⟩
   exact hi (ha1 i bx (List.mem_append.2 (.inl hm)))
  rw[hβ2 i hn1,Abi];intro hm;obtain⟨q,hq,e⟩:=List.mem_map.1 hm;obtain⟨bx,Mx⟩:=hqb q hq;exact hi (ha1 i bx (List.mem_append.2 (.inr (e ▸ Mx))))
 obtain⟨Ti,hba⟩:=hws w' _ own β1 w.heap.size 0 us hβbs out.vals;obtain⟨A7e,A2b⟩:=YS w' _ own β1 bt hβqs (fun i=>BN i 0) out.outs
 have Aww:∀id∈lids,∃y∈l,id∈y.ids:=by
  intro id Bo;rw[←TQ] at Bo;exact List.mem_flatMap.1 Bo
 have Ar9:∀id∈lids,(∃off c cs,s.hp id=some (.st c)∧C1 id=some (.st (Bn c cs off))∧off+cs.length<=c.length∧(∀p∈cs,∀i∈Av p,∃bx,(i,bx)∈bs'))∨∃c cs,s.hp id=some (.ar false c)∧C1 id=some (.ar false cs):=by
  intro id Bo;obtain⟨y,hy,hyi⟩:=Aww id Bo;have h1:=hsh y hy;cases y with
  |var id' off cts ws'=>
   simp only[I1.ids,List.mem_singleton] at hyi;subst hyi;obtain⟨c1,cs,h2,h3,h4,h5,h6⟩:=h1;rw[Ah7 id Bo] at h2;exact .inl ⟨off,c1,cs,h2,h3,h5,h6⟩
  |row id'=>
   simp only[I1.ids,List.mem_singleton] at hyi;subst hyi;obtain⟨c1,cs,h2,h3⟩:=h1;rw[Ah7 id Bo] at h2;exact .inr ⟨c1,cs,h2,h3⟩
  |none=>simp[I1.ids] at hyi
 have A6j:∀id∈lids,C1 id≠none:=by
  intro id Bo;rcases Ar9 id Bo with⟨_,_,_,_,h2,_⟩|⟨_,_,_,h2⟩<;>rw[h2]<;>simp
 have hpK:∀id,id ∉ lids->C1 id=X3 (Ag s.hp m) x id:=fun id Bo=>Ou id Bo
 have U7:∀i,s.hp i≠none->C1 i≠none:=by
  intro i hi;by_cases hl:i∈lids
  ·exact A6j i hl
  ·rw[hpK i hl,H9];have h1:Ag s.hp m i≠none:=fun e=>hi (Ff.1 e)
   split
   ·cases hq:Ag s.hp m i with
    |none=>exact absurd hq h1
    |some b=>simp
   ·exact h1
 have Atd:∀i,(s.hp i≠none∨∃bx,(i,bx)∈bs++bs')->A6 C1 (bs++bs') i≠none:=by
  rintro i (hi|⟨bx,hm⟩)
  ·have h1:=U7 i hi;rw[hg2 i (fun bx hm=>h1 (ha1 i bx hm))]
   exact h1
  ·rw[hg1 i bx hm];simp
 have Jw:∀id,(∃bx,(id,bx)∈bs++bs')∨A6 C1 (bs++bs') id=C1 id:=fun id=>by
  by_cases hx:∃bx,(id,bx)∈bs++bs'
  ·exact .inl hx
  ·exact .inr (hg2 id fun bx hb=>hx ⟨bx,hb⟩)
 have hold:∀id bx,C1 id=some bx->Cs (some bx)->Cs (s.hp id)∧id ∉ x∧(id∈lids∨(id ∉ lids∧Ag s.hp m id=some bx)):=by
  intro id bx hb hl;by_cases Bo:id∈lids
  ·exact⟨EE id (.inl Bo),hlx id Bo,.inl Bo⟩
  ·rw[hpK id Bo,H9] at hb;split at hb
   ·cases hq:Ag s.hp m id with
    |none=>rw[hq] at hb;cases hb
    |some b=>rw[hq] at hb;simp at hb;subst hb;exact hl.elim
   ·rename_i hxn;exact⟨by rw[Lg hb hl];exact hl,hxn,.inr ⟨Bo,hb⟩⟩
 have CF:∀i bx,(i,bx)∈bs++bs'->∃j,β1 i=own j∧((i=o.dst.getD N+N*j∧j<Rv rv)∨((i,j)∈qs∧Rv rv<=j)):=by
  intro i bx hm;rcases List.mem_append.1 hm with hm|hm
  ·obtain⟨⟨j,rfl,hj⟩,_⟩:=hba i bx hm;exact⟨j,by rw[hβbs j ⟨bx,hm⟩,Nat.zero_add],.inl ⟨rfl,hj⟩⟩
  ·obtain⟨j,hj⟩:=A7k i bx hm;exact⟨j,hβqs _ hj,.inr ⟨hj,(VG _ hj).2⟩⟩
 have Avt:∀i bx,(i,bx)∈bs++bs'->Cs (some bx)∧Tv w' (RE bt own Yc) β1 i bx∧∀cs,bx=.st cs->∀b ob,β1 i=some (b,ob)->w.heap.size<=b:=by
  intro i bx hm;rcases List.mem_append.1 hm with hm|hm
  ·exact (hba i bx hm).2
  ·obtain⟨cc,rfl⟩:=H3 i bx hm;exact⟨trivial,A7e i _ hm,fun cs e=>by cases e⟩
 have Ayu:∀b,(∃i k o',bt i (k+1)=some (b,o'))->∃id o',id∈x∧β id=some (b,o'):=by
  rintro b ⟨i,k,o',hb⟩
  obtain⟨id,off,o1,h1,h2,_,_⟩:=btS hb;exact⟨id,o1,(hS.mvd i k id off h1).2,h2⟩
 have hX:∀b,b<w.heap.size->BZ (A6 C1 (bs++bs')) β1 b->BZ s.hp β b:=by
  rintro b hb ⟨id,ob,hl,hβ⟩
  rcases Jw id with⟨bx,hm⟩|e
  ·obtain⟨j,hj,_⟩:=CF id bx hm;rw[hj] at hβ;obtain⟨id',o',h1,h2⟩:=Ayu b ((out.fresh j b ob hβ).2 hb).1;exact⟨id',o',EE id' (.inr h1),h2⟩
  ·rw[e] at hl;cases hq:C1 id with
   |none=>rw[hq] at hl;exact hl.elim
   |some bx=>
    rw[hq] at hl;exact⟨id,ob,(hold id bx hq hl).1,by rw[←hβold id (by rw[hq];simp)];exact hβ⟩
 have hAo:∀b,b<w.heap.size->Db (A6 C1 (bs++bs')) β1 Y b->Db s.hp β Y b:=fun b hb hA=>hA.imp (hX b hb) id
 have hAO:∀b,Db (A6 C1 (bs++bs')) β1 Y b->RE bt own Yc b:=by
  rintro b (⟨id,ob,hl,hβ⟩|hY)
  ·rcases Jw id with⟨bx,hm⟩|e
   ·obtain⟨j,hj,_⟩:=CF id bx hm;rw[hj] at hβ;exact .inl ⟨j,ob,hβ⟩
   ·rw[e] at hl;cases hq:C1 id with
    |none=>rw[hq] at hl;exact hl.elim
    |some bx=>
     rw[hq] at hl;rw[hβold id (by rw[hq];simp)] at hβ
     obtain⟨h1,h2,h3⟩:=hold id bx hq hl;rcases h3 with h3|⟨h3,h4⟩
     ·obtain⟨_,i,off,hs⟩:=Aj9 id h3;exact .inr (.inl ⟨i,ob+off,by rw[BN,hs];simp[Ji,hβ]⟩)
     ·exact .inr (.inr ((hYc b).2 (.inl ⟨id,ob,by rw[h4];exact hl,hβ,h3,h2⟩)))
  ·exact .inr (.inr ((hYc b).2 (.inr hY)))
 have Gk:Co (Db s.hp β Y) w w':=out.ext.weaken (fun b _ hb=>.inl (hBA b hb))
 have Atq:∀i,s.hp i≠none->β1 i=β i:=fun i hi=>hβold i (U7 i hi)
 have hCL:∀b j,WR bt vs b j->∃id o' bx,s.hp id=some bx∧Cs (some bx)∧β id=some (b,o')∧BR bx o' j:=by
  rintro b j ⟨i,p,hp,⟨k,ob,hb,Xa⟩|⟨ob,ps,hb,Xa,LF⟩⟩
  ·obtain⟨id,off,o',h1,h2,h3,_⟩:=btS hb;obtain⟨h5,h6⟩:=hS.mvd i k id off h1;obtain⟨cc,hcc⟩:=hx id h6;exact⟨id,o',_,hcc,trivial,h2,show o'<=j by omega⟩
  ·obtain⟨id,off,o',h1,h2,h3,_⟩:=btS hb;rcases Aq9 hL i p id off hp (by rw[Nat.zero_add];exact h1) with⟨c1,wz,h5,h6,h7⟩|⟨⟨c1,h5⟩,_⟩
   ·rcases LF with⟨h8,h9⟩|h8
    ·rw[h6] at h8;cases h8;exact⟨id,o',_,h5,trivial,h2,show o'<=j∧j<o'+c1.length by omega⟩
    ·rw[h6] at h8;cases h8
   ·exact⟨id,o',_,h5,trivial,h2,show o'<=j by omega⟩
 have hnL:∀id off cts wz,I1.var id off cts wz∈l->id∈lids->∀b ob,β id=some (b,ob)->∀j,(j<off∨off+wz.length<=j)->(∃c1,s.hp id=some (.st c1))->¬WR bt vs b (ob+j):=by
  rintro id off cts wz hy Bo b ob hβ j hj ⟨c1,hc1⟩ ⟨i,p,hp,⟨k,ob',hb,Xa⟩|⟨ob',ps,hb,Xa,LF⟩⟩
  ·obtain⟨id',off',o',h1,h2,h3,h4⟩:=btS hb;have:=h.inj id id' b ob o' (EE id (.inl Bo)) (EE id' h4) hβ h2;subst this;exact hlx id Bo (hS.mvd i k id off' h1).2
  ·obtain⟨id',off',o',h1,h2,h3,h4⟩:=btS hb;have:=h.inj id id' b ob o' (EE id (.inl Bo)) (EE id' h4) hβ h2;subst this;rw[hβ] at h2;cases h2;obtain⟨k,D4,Gc⟩:=Aa0 hL hy;rw[Nat.zero_add] at Gc;have hik:=hS.inj0 hnl i k id off' off h1 Gc;subst hik;rw[h1] at Gc;cases Gc;rw[hp] at D4;cases D4;rcases LF with⟨h8,h9⟩|h8
   ·cases h8;omega
   ·cases h8
 have hval:Ed w' (Db (A6 C1 (bs++bs')) β1 Y) β1 (Qx ws (Si P o.type)) (K5 us):=by
  have Vi:Bw (H2 w' (Db (A6 C1 (bs++bs')) β1 Y) β1) ws us:=Ti.mono fun v u hvu=>hvu.step (Co.refl _ _) (fun b _=>hAO b) (fun _ _=>rfl)
  have Gv:=Vi.len;cases hT:Si P o.type
  ·rw[hT] at T9;have h1:ws.length=1:=Nat.eq_of_beq_eq_true T9
   match ws,us,h1,Gv with
   |[v],[u],_,_=>
    exact (Qc (hnt v (by simp))).2 Vi.1
  ·rw[hT] at T9
   have h1:¬ws.length=1:=by
    intro e;rw[e] at T9;cases T9
   have hr:K5 us=.tuple ⟨us⟩:=by
    unfold K5;split
    ·simp at Gv;omega
    ·rfl
   rw[hr];exact⟨us,rfl,Vi⟩
 have hvr:∀i∈B7 (Qx ws (Si P o.type)),∃bx,(i,bx)∈bs:=by
  intro i hi;cases hT:Si P o.type
  ·rw[hT] at T9 hi;have h1:ws.length=1:=Nat.eq_of_beq_eq_true T9
   match ws,h1 with
   |[v],_=>
    refine hrs v (by simp) i ?_
    have:B7 v=Cj v:=by
     have hn:=hnt v (by simp)
     cases v<;>first|rfl|exact absurd rfl (hn _)
    rw[←this];exact hi
  ·rw[hT] at hi;obtain⟨v,hv,hi⟩:=List.mem_flatMap.1 (show i∈ws.flatMap Cj from hi)
   exact hrs v hv i hi
 refine hn _ w' β1 ?_;refine⟨by rw[Jn];exact h.dfr,by rw[Hc];exact h.tsz,ZK Akq h.tmo,?_,?_,?_,?_,?_,?_,?_,?_,?_,?_,?_,h.Ylt,?_⟩
 ·refine Sf (Q:=fun _ p u=>Ed w' (Db (A6 C1 (bs++bs')) β1 Y) β1 p u) h.tsz Akq (fun i hi=>?_) (fun _=>hval)
  exact (h.tms i hi).step Gk hAo fun id Bo=>Atq id (h.wfT i hi id Bo)
 ·intro id bx hb;simp only at hb;rcases Jw id with⟨bx',Qf⟩|e
  ·rw[hg1 id bx' Qf] at hb;cases hb;exact (Avt id _ Qf).2.1.step' hAO
  ·rw[e] at hb;have hβ:=hβold id (by rw[hb];simp)
   by_cases Bo:id∈lids
   ·obtain⟨y,hy,hyi⟩:=Aww id Bo;have h1:=A2b y hy;cases y with
    |var id' off cts wz=>
     simp only[I1.ids,List.mem_singleton] at hyi;subst hyi;obtain⟨c1,cs,h2,h3,h4,h5,h6⟩:=h1;rw[Ah7 id Bo] at h2;rw[h3] at hb;cases hb;obtain⟨b,ob,h7,h8,h9⟩:=h.box id _ h2;obtain⟨h10,h11⟩:=h6 b ob h7;have Cd:=h.blt id b ob (by rw[h2];simp) h7
     have Wi:∀j,(j<off∨off+wz.length<=j)->w'.cell? ⟨b,ob+j,none⟩=w.cell? ⟨b,ob+j,none⟩∧w'.frozen? ⟨b,ob+j,none⟩=w.frozen? ⟨b,ob+j,none⟩:=
      fun j hj=>out.rng b (ob+j) Cd (hnL id off cts wz hy Bo b ob h7 j hj ⟨c1,h2⟩)
     refine⟨b,ob,hβ.trans h7,fun j p hj=>?_,fun j hj=>?_⟩
     ·rcases V3 (by omega) hj with⟨h12,h13,h14⟩|⟨h12,h14⟩
      ·obtain⟨v,hv,hcr⟩:=h10 _ _ h14;refine⟨v,?_,hcr.step (Co.refl _ _) (fun b _=>hAO b) (fun _ _=>rfl)⟩
       rw[show ob+j=ob+off+(j-off) by omega]
       exact hv
      ·obtain⟨v,hv,hcr⟩:=h8 _ _ h14;refine⟨v,by rw[(Wi j (by omega)).1];exact hv,hcr.step Gk hAo fun i hi=>Atq i (h.wfB id c1 h2 p (List.mem_of_getElem? h14) i hi)⟩
     ·rw[Vz (by omega)] at hj
      by_cases Y7:off<=j∧j<off+cs.length
      ·have:=h11 (j-off) (by omega)
       rw[show ob+off+(j-off)=ob+j by omega] at this
       exact this
      ·rw[(Wi j (by omega)).2]
       exact h9 j hj
    |row id'=>
     simp only[I1.ids,List.mem_singleton] at hyi;subst hyi;obtain⟨cs,h3,h4⟩:=h1;rw[h3] at hb;cases hb;rcases h4 with⟨h5,h6⟩|⟨b,ob,h5,h6,h7⟩
     ·exact .inl ⟨hβ.trans h5,h6⟩
     ·exact .inr ⟨b,ob,hβ.trans h5,h6.weak (fun b _=>hAO b),fun _=>h7,(fun q=>by cases q)⟩
    |none=>simp[I1.ids] at hyi
   ·rw[hpK id Bo,H9] at hb;split at hb
    ·cases hq:Ag s.hp m id with
     |none=>rw[hq] at hb;cases hb
     |some b0=>rw[hq] at hb;simp at hb;subst hb;trivial
    ·rename_i hxn;have Mx:=hf.box id bx hb
     have Aro:∀b ob,β id=some (b,ob)->bx ≠ .mv->b<w.heap.size∧w'.heap[b]?=w.heap[b]?:=by
      intro b ob RW hmv;have Cd:=hf.blt id b ob (by show Ag s.hp m id≠none;rw[hb];simp) RW
      refine⟨Cd,out.ext.keep b Cd fun hB=>?_⟩
      obtain⟨id',o',h1,h2⟩:=btX hB;have Nj:Cs (Ag s.hp m id'):=by rw[WB id' h2];exact EE id' h2
      have hno:id≠id':=by
       rintro rfl
       rcases h2 with h2|h2
       ·exact Bo h2
       ·exact hxn h2
      cases bx with
      |st cc=>exact hno (hf.inj id id' b ob o' (by show Cs (Ag s.hp m id);rw[hb];trivial) Nj RW h1)
      |ar fz cc=>
       cases fz with
       |false=>exact hno (hf.inj id id' b ob o' (by show Cs (Ag s.hp m id);rw[hb];trivial) Nj RW h1)
       |true=>
        rcases Mx with⟨h3,_⟩|⟨b2,o2,h3,_,_,h4⟩
        ·rw[RW] at h3;cases h3
        ·rw[RW] at h3;cases h3;exact h4 rfl (.inl ⟨id',o',Nj,h1⟩)
      |mv=>exact hmv rfl
     have hAoF:∀b,b<w.heap.size->Db (A6 C1 (bs++bs')) β1 Y b->Db (Ag s.hp m) β Y b:=by
      intro b H3 hA;rcases hA with⟨i,ob,hl,hβi⟩|hY
      ·rcases Jw i with⟨bx1,RA⟩|e1
       ·obtain⟨j,hj,_⟩:=CF i bx1 RA;rw[hj] at hβi;obtain⟨id',o',h1,h2⟩:=Ayu b ((out.fresh j b ob hβi).2 H3).1;exact .inl ⟨id',o',by rw[WB id' (.inr h1)];exact EE id' (.inr h1),h2⟩
       ·rw[e1] at hl;cases hq:C1 i with
        |none=>rw[hq] at hl;exact hl.elim
        |some bx1=>
         rw[hq] at hl;rw[hβold i (by rw[hq];simp)] at hβi
         obtain⟨h1,h2,h3⟩:=hold i bx1 hq hl;rcases h3 with h3|⟨h3,h4⟩
         ·exact .inl ⟨i,ob,by rw[WB i (.inl h3)];exact h1,hβi⟩
         ·exact .inl ⟨i,ob,by rw[h4];exact hl,hβi⟩
      ·exact .inr hY
     have A3a:Co (Db (Ag s.hp m) β Y) w w':=out.ext.weaken (fun b _ hB=>by
      obtain⟨id',o',h1,h2⟩:=btX hB;exact .inl ⟨id',o',by rw[WB id' h2];exact EE id' h2,h1⟩)
     cases bx with
     |st cc=>
      obtain⟨b,ob,h1,h2,h3⟩:=Mx;obtain⟨Cd,CP⟩:=Aro b ob h1 (by simp)
      refine⟨b,ob,hβ.trans h1,fun j p hj=>?_,fun j hj=>?_⟩
      ·obtain⟨v,hv,hcr⟩:=h2 j p hj;refine⟨v,by rw[World.cell?_of_block (w:=w) CP];exact hv,hcr.step A3a hAoF fun i hi=>?_⟩
       refine Atq i (fun e1=>?_)
       exact hf.wfB id cc hb p (List.mem_of_getElem? hj) i hi (Ff.2 e1)
      ·rw[World.frozen?_of_block (w:=w) CP];exact h3 j hj
     |ar fz cc=>
      rcases Mx with⟨h1,h2⟩|⟨b,ob,h1,h2,h3,h4⟩
      ·exact .inl ⟨hβ.trans h1,h2⟩
      ·obtain⟨Cd,CP⟩:=Aro b ob h1 (by simp)
       have OL:bsz w' b=bsz w b:=by unfold bsz;rw[CP]
       refine .inr ⟨b,ob,hβ.trans h1,fun j p hj=>?_,fun e1 j hj Xe=>?_,fun e1 q=>h4 e1 (hAoF b Cd q)⟩
       ·obtain⟨v,hv,h5,hc1⟩:=h2 j p hj;exact⟨v,by rw[World.cell?_of_block (w:=w) (by rw[G9];exact CP)];exact hv,h5,hc1.step A3a hAoF⟩
       ·rw[World.frozen?_of_block (w:=w) CP];exact h3 e1 j hj (by rw[←OL];exact Xe)
     |mv=>trivial
 ·intro id id' b ob ob' hl Nj hb Ip;simp only at hl Nj
  have mixed:∀i bx i' k z,(i,bx)∈bs++bs'->β1 i=some (k,z)->C1 i'≠none->Cs (C1 i')->∀z',β1 i'=some (k,z')->False:=by
   intro i bx i' k z RA hz hn1 GT z' hz';obtain⟨j,hj,_⟩:=CF i bx RA;rw[hj] at hz;rw[hβold i' hn1] at hz';cases hq:C1 i' with
   |none=>exact hn1 hq
   |some bx1=>
    rw[hq] at GT;obtain⟨h1,h2,h3⟩:=hold i' bx1 hq GT;have Cd:=h.blt i' k z' (Dg h1) hz';obtain⟨id2,o2,h4,h5⟩:=Ayu k ((out.fresh j k z hz).2 Cd).1;have:=h.inj i' id2 k z' o2 h1 (EE id2 (.inr h4)) hz' h5;subst this;exact h2 h4
  rcases Jw id with⟨bx,RA⟩|e1
  ·rcases Jw id' with⟨bx',hm2⟩|e2
   ·obtain⟨j,hj,LF⟩:=CF id bx RA;obtain⟨j',Xe,A2v⟩:=CF id' bx' hm2;rw[hj] at hb;rw[Xe] at Ip;have:=out.inj j j' b ob ob' hb Ip;subst this;rcases LF with⟨h1,h2⟩|⟨h1,h2⟩
    ·rcases A2v with⟨h3,_⟩|⟨_,h4⟩
     ·rw[h1,h3]
     ·omega
    ·rcases A2v with⟨_,h4⟩|⟨h3,_⟩
     ·omega
     ·exact NG _ h1 _ h3 rfl
   ·rw[e2] at Nj;exact (mixed id bx id' b ob RA hb (Dg Nj) Nj ob' Ip).elim
  ·rw[e1] at hl;rcases Jw id' with⟨bx',hm2⟩|e2
   ·exact (mixed id' bx' id b ob' hm2 Ip (Dg hl) hl ob hb).elim
   ·rw[e2] at Nj
    have g:∀i,Cs (C1 i)->Cs (s.hp i)∧β1 i=β i:=by
     intro i hli;cases hq:C1 i with
     |none=>rw[hq] at hli;exact hli.elim
     |some bx1=>exact⟨(hold i bx1 hq (by rw[←hq];exact hli)).1,hβold i (by rw[hq];simp)⟩
    rw[(g id hl).2] at hb;rw[(g id' Nj).2] at Ip;exact h.inj id id' b ob ob' (g id hl).1 (g id' Nj).1 hb Ip
 ·intro id b ob hn1 hb;simp only at hn1;rcases Jw id with⟨bx,RA⟩|e1
  ·obtain⟨j,hj,_⟩:=CF id bx RA;rw[hj] at hb;exact (out.fresh j b ob hb).1
  ·rw[e1] at hn1;rw[hβold id hn1] at hb
   have hn2:s.hp id≠none:=by
    by_cases Bo:id∈lids
    ·exact Dg (EE id (.inl Bo))
    ·rw[hpK id Bo,H9] at hn1;intro e2;have h1:Ag s.hp m id=none:=Ff.2 e2;rw[h1] at hn1;split at hn1<;>exact hn1 rfl
   exact Nat.lt_of_lt_of_le (h.blt id b ob hn2 hb) out.ext.size
 ·have:=Sf (Q:=fun _ p _=>∀id∈B7 p,A6 C1 (bs++bs') id≠none) (val:=K5 us) (d:=o.dst) (v:=Qx ws (Si P o.type)) h.tsz Akq (fun i hi id Bo=>Atd id (.inl (h.wfT i hi id Bo))) (fun _ id Bo=>Atd id (.inr (by
   obtain⟨bx,hb⟩:=hvr id Bo;exact⟨bx,List.mem_append.2 (.inl hb)⟩)))
  exact this
 ·intro id cells YP p hp i hi;simp only at YP;refine Atd i ?_;rcases Jw id with⟨bx,RA⟩|e1
  ·rw[hg1 id bx RA] at YP;cases YP;rcases List.mem_append.1 RA with RA|RA
   ·obtain⟨bx1,hb⟩:=hri id cells RA p hp i hi;exact .inr ⟨bx1,List.mem_append.2 (.inl hb)⟩
   ·obtain⟨cc,e2⟩:=H3 id _ RA;cases e2
  ·rw[e1] at YP;by_cases Bo:id∈lids
   ·rcases Ar9 id Bo with⟨off,c1,cs,h1,h2,h3,h4⟩|⟨c1,cs,h1,h2⟩
    ·rw[h2] at YP;cases YP;unfold Bn at hp;rcases List.mem_append.1 hp with hp|hp
     ·rcases List.mem_append.1 hp with hp|hp
      ·exact .inl (h.wfB id c1 h1 p (List.mem_of_mem_take hp) i hi)
      ·obtain⟨bx1,hb⟩:=h4 p hp i hi;exact .inr ⟨bx1,List.mem_append.2 (.inr hb)⟩
     ·exact .inl (h.wfB id c1 h1 p (List.mem_of_mem_drop hp) i hi)
    ·rw[h2] at YP;cases YP
   ·obtain⟨_,_,h3⟩:=hold id _ YP trivial;rcases h3 with h3|⟨_,h3⟩
    ·exact absurd h3 Bo
    ·exact .inl (h.wfB id cells (Lg h3 trivial) p hp i hi)
 ·rintro b ⟨id,ob,hl,hβ⟩
  rcases Nat.lt_or_ge b w.heap.size with Cd|hge
  ·exact h.ownd b (hX b Cd ⟨id,ob,hl,hβ⟩)
  ·exact .inr (Nat.le_trans h.fr.step.size hge)
 ·intro id bx b ob hb hl hβ Cd j hj;simp only at hb;have hlw:=Nat.lt_of_lt_of_le Cd h.fr.step.size;rcases Jw id with⟨bx',RA⟩|e1
  ·rw[hg1 id bx' RA] at hb;cases hb;obtain⟨k,hk,_⟩:=CF id bx RA;rw[hk] at hβ
   have Xa:ob<=j:=by
    cases bx with
    |st cc=>exact hj.1
    |ar fz cc=>exact hj
    |mv=>exact hl.elim
   obtain⟨id2,o2,bx2,h1,h2,h3,h4⟩:=hCL b j (((out.fresh k b ob hβ).2 hlw).2 j Xa);exact h.rngB id2 bx2 b o2 h1 h2 h3 Cd j h4
  ·rw[e1] at hb;rw[hβold id (by rw[hb];simp)] at hβ
   obtain⟨h1,h2,h3⟩:=hold id bx hb hl;rcases h3 with h3|⟨h3,h4⟩
   ·rcases Ar9 id h3 with⟨off,c1,cs,h5,h6,h7,_⟩|⟨c1,cs,h5,h6⟩
    ·rw[h6] at hb;cases hb;have hj:ob<=j∧j<ob+(Bn c1 cs off).length:=hj;rw[Vz (by omega)] at hj
     exact h.rngB id _ b ob h5 trivial hβ Cd j hj
    ·rw[h6] at hb;cases hb;exact h.rngB id _ b ob h5 trivial hβ Cd j hj
   ·exact h.rngB id bx b ob (Lg h4 hl) hl hβ Cd j hj
 ·intro i hi;obtain⟨h1,h2⟩:=h.pin i hi;exact⟨Atd _ (.inl h1),by rw[Atq _ h1];exact h2⟩
 ·intro id cc b ob hb hβ Cd;simp only at hb;have hlw:=Nat.lt_of_lt_of_le Cd h.fr.step.size;rcases Jw id with⟨bx',RA⟩|e1
  ·rw[hg1 id bx' RA] at hb;cases hb;have:=(Avt id _ RA).2.2 cc rfl b ob hβ;omega
  ·rw[e1] at hb;rw[hβold id (by rw[hb];simp)] at hβ
   obtain⟨h1,h2,h3⟩:=hold id _ hb trivial;rcases h3 with h3|⟨h3,h4⟩
   ·rcases Ar9 id h3 with⟨off,c1,cs,h5,h6,h7,_⟩|⟨c1,cs,h5,h6⟩
    ·exact h.stp id c1 b ob h5 hβ Cd
    ·rw[h6] at hb;cases hb
   ·exact h.stp id cc b ob (Lg h4 trivial) hβ Cd
 ·intro b hY hXb;exact h.Yx b hY (hX b (Nat.lt_of_lt_of_le (h.Ylt b hY) h.fr.step.size) hXb)
 ·refine⟨out.os.trans h.fr.os,out.tape.trans h.fr.tape,out.output.trans h.fr.output,⟨Nat.le_trans h.fr.step.size out.ext.size,fun b hb hnX=>?_,fun b hb=>Nat.le_trans (h.fr.step.bs b hb) (out.ext.bs b (Nat.lt_of_lt_of_le hb h.fr.step.size))⟩,fun b j hb hnL=>?_⟩
  ·rw[out.ext.keep b (Nat.lt_of_lt_of_le hb h.fr.step.size) ?_]
   ·exact h.fr.step.keep b hb hnX
   ·intro hB;rcases h.ownd b (hBA b hB) with hq|hq
    ·exact hnX hq
    ·omega
  ·have hno:¬WR bt vs b j:=by
    intro hq;obtain⟨id2,o2,bx2,h1,h2,h3,h4⟩:=hCL b j hq;exact hnL (h.rngB id2 bx2 b o2 h1 h2 h3 hb j h4)
   obtain⟨h1,h2⟩:=out.rng b j (Nat.lt_of_lt_of_le hb h.fr.step.size) hno;rw[h1,h2];exact h.fr.rng b j hb hnL
end
open Go.RowKit
section
variable {R:Type} {r:R} {P:Program} {N:Nat} {w0:World} {X0:Fp} {Y:Nat->Prop} {β β':Bt} {s:St} {a:Act} {w w':World} {o:Oper} {A:Nat->Prop}
theorem XL (h:B4 N w0 X0 Y β s a w){c:Call}(ho:o.op=.call c)(hc:c.callee=.builtin .append){d:Nat}(Akq:o.dst=some d){b x:Operand}(Es:c.args.toList=[b,x]) {t tx:TypeId}{ts:List TypeId}(LQ:c.argTypes.toList=t::tx::ts)
  {K:St->Option R} (hk:S3 P N s d t tx (Ct s.tm b) (Ct s.tm x) K=some r):
  ∃s',K s'=some r∧∀(next:Act->World->Prop) (Q:Exit->Act->World->Prop),(∀a' w' β',B4 N w0 X0 Y β' s' a' w'->next a' w')->o.wp P a w next Q:=by
 have NY:c.args = #[b,x]:=by
  have:c.args=([b,x]:List Operand).toArray:=by rw[←Es]
  exact this
 have Aaw:c.argTypes=(t::tx::ts).toArray:=by rw[←LQ]
 have run:∀{v:Value} {w1:World},(Builtin.append_ (t::tx::ts).toArray o.type #[a.eval b,a.eval x]).run P w=.ok v w1->∀(next:Act->World->Prop) (Q:Exit->Act->World->Prop),next (a.put (some d) v) w1->o.wp P a w next Q:=by
  intro v w1 hr next Q hn;unfold Oper.wp execOp;rw[ho];simp only[resolve,hc,invoke,builtin,Sem.run_bind,Sem.run_pure,Result.andThen_ok,NY,Aaw];have:(#[b,x]:Array Operand).map a.eval = #[a.eval b,a.eval x]:=by simp
  rw[this,hr];show next (a.put o.dst v) w1;rw[Akq];exact hn
 have hbv:=Dw h b;have hbr:=Gq h b;unfold S3 at hk;split at hk
 ·rename_i e hu;obtain⟨hzi,hk⟩:=As hk;obtain⟨i,z,hi,hz,hzs,Ku⟩:=QI hzi;cases hit:ED P tx
  rotate_left
  ·rw[hit] at hk;simp only[cond_true] at hk
   obtain⟨ki,htx⟩:∃k,P.underlying tx=some (.int k):=by
    unfold ED at hit;split at hit
    ·exact⟨_,by assumption⟩
    ·cases hit
   unfold Yh at hk;obtain⟨kx,n,hx,hk⟩:=D5 hk;obtain⟨zz,n',c',hk,hp⟩:=Hg hk;obtain⟨hb,hk⟩:=As hk;simp only[Bool.and_eq_true,decide_eq_true_eq] at hb;obtain⟨⟨⟨⟨⟨hzz,hdN⟩,DI⟩,NC⟩,hby⟩,hnm⟩:=hb;have hdN:d<N:=Nat.lt_of_succ_le (Nat.le_of_ble_eq_true hdN);have DI:s.hp d=none:=by simpa using DI
   have Ae6:Ih N (some d)=true:=by simp[Ih,Nat.blt];omega
   have Xu:((P.info? e).map (·.bytes)).getD 0=i.bytes:=by rw[hi];rfl
   rw[Xu] at hby;rw[Ku] at hk;have D3:=Dc h hx;rcases slice_form hp hbv with⟨Tp,_⟩|⟨_,_,_,OY,_⟩|⟨_,_,_,OY,_⟩
   ·refine⟨_,hk,fun next Q hn=>?_⟩
    by_cases hm0:n=0
    ·subst hm0;have hr:=IC (P:=P) (w:=w) (t:=t) (tx:=tx) (ty:=o.type) (ts:=ts) (kx:=kx) hu htx hi;rw[←Tp,←D3] at hr;refine run hr next Q (hn _ _ (Da β d none) ?_);rw[Tp];refine h.stepR (d:=some d) (nw:=[(d,.ar false [])]) (β':=Da β d none) Ae6 (by simp[Ck,DI]) ⟨rfl,rfl,rfl,Co.refl _ _,fun j hj=>Am _ _ (by rintro rfl;exact hj DI),?_,?_,?_,?_,?_,.inl ⟨Au _ _ _,rfl,rfl,none,rfl⟩,?_⟩
     ·intro j bx hm;simp at hm;rw[hm.2];trivial
     ·intro j bx hm;simp at hm;obtain⟨rfl,rfl⟩:=hm;exact .inl ⟨Au _ _ _,rfl⟩
     ·intro j bx k q hm hq;simp at hm;obtain⟨rfl,rfl⟩:=hm;rw[Au] at hq;cases hq
     ·intro j bx j' bx' k q q' hm Qf _ _;simp at hm Qf;rw[hm.1,Qf.1]
     ·intro j cells hm;simp at hm
     ·intro j hj;simp[B7,Cj,Av] at hj;subst hj;exact .inr ⟨.ar false [],by simp⟩
    ·have hr:=MQ (P:=P) (w:=w) (t:=t) (tx:=tx) (ty:=o.type) (ts:=ts) (kx:=kx) hu htx hi hz (n:=n) (by omega) hby hnm
     rw[←Tp,←D3] at hr;refine run hr next Q (hn _ _ (Da β d (some (w.heap.size,0))) ?_);have hge:n.toNat<=grownCap w n.toNat 0 e:=grownCap_ge w n.toNat 0 e;generalize WX:((if n.toNat*i.size=0 then #[] else Builtin.zeroCells z.cells n.toNat)++Builtin.zeroCells z.cells (grownCap w n.toNat 0 e-n.toNat))=cs
     have BS:Id w (w.drew.alloc (.cells cs e)) cs e:=
      ⟨rfl,rfl,rfl,fun k hk=>Below.heap_alloc w.drew _ k hk,by show (w.heap.push _).size=_;simp,(0,0),by show (w.heap.push _)[w.heap.size]?=_;simp,.inl rfl⟩
     have Afv:cs.size=grownCap w n.toNat 0 e*i.size:=by
      rw[←WX];by_cases RX:n.toNat*i.size=0
      ·rw[if_pos RX]
       have hi0:i.size=0:=by
        rcases Nat.mul_eq_zero.1 RX with h|h
        ·omega
        ·exact h
       simp[size_zeroCells,hzs,hi0]
      ·rw[if_neg RX];simp only[Array.size_append,size_zeroCells,hzs,←Nat.add_mul]
       congr 1
       omega
     refine h.stepR (d:=some d) (nw:=[(d,.ar false [])]) Ae6 (by simp[Ck,DI]) (Ur BS DI trivial ?_ (fun cells hx=>by cases hx) ?_ (by intro j hj;simp[B7,Cj,Av] at hj;exact .inr hj))
     ·refine .inr ⟨w.heap.size,0,Au _ _ _,fun j p hj=>by simp at hj,fun _ j _ hj=>?_,(fun q=>by cases q)⟩
      rw[BS.bsz] at hj;exact BS.frozen hj
     ·refine .inr ⟨w.heap.size,0,0,grownCap w n.toNat 0 e,Au _ _ _,rfl,.inl rfl,hge,?_,by rw[BS.size];omega⟩
      rw[BS.bsz,Afv];omega
   ·rw[OY] at hzz;cases hzz
   ·rw[OY] at hzz;cases hzz
  rw[hit] at hk;simp only[cond_false] at hk;have Xu:((P.info? e).map (·.bytes)).getD 0=i.bytes:=by rw[hi];rfl
  obtain⟨⟨dx,hdx,Ads⟩,m,new,news,hk,hs⟩:=PS h hk (by
   intro m new hk;split at hk
   ·split at hk
    ·obtain⟨hb,_⟩:=As hk;simp only[Bool.and_eq_true,decide_eq_true_eq] at hb;have he:=Nat.eq_of_beq_eq_true hb.1.1.1.1.1.1.1;rw[←he];exact hb.1.1.2
    ·cases hk
   ·obtain⟨zz,n',c',hk,_⟩:=Hg hk;obtain⟨hb,_⟩:=As hk;simp only[Bool.and_eq_true,decide_eq_true_eq] at hb;exact hb.1.1.2)
  rw[Ku] at hs;have hnl:new.length=news.length:=hs.rep.len;split at hk
  ·rename_i id es off n eb;rw[eb] at hbv hbr;split at hk
   ·rename_i cc h0;obtain⟨hb,Gc⟩:=As hk;simp only[Bool.and_eq_true,decide_eq_true_eq] at hb;obtain⟨⟨⟨⟨⟨⟨⟨KE,Tk⟩,hdN⟩,DI⟩,A99⟩,Aiw⟩,hby⟩,hnm⟩:=hb;have KE:=Nat.eq_of_beq_eq_true KE;have Tk:=Nat.eq_of_beq_eq_true Tk;have hdN:d<N:=Nat.lt_of_succ_le (Nat.le_of_ble_eq_true hdN);have DI:s.hp d=none:=by simpa using DI
    subst Tk;rw[Ku] at KE;subst KE;rw[Xu] at hby;have JC:news.length=m*i.size:=by omega
    have Bdv:s.hp id≠none:=by rw[h0];simp
    have Ak9:=h.box id _ h0;refine⟨_,Gc,fun next Q hn=>?_⟩
    have grow:∀(ad:Option Addr) (cap:Nat) (olds:List Value),a.eval b=.slice ad n cap->Bw (Aw w (Db s.hp β Y)) (cc.take (n*i.size)) olds->(∀u∈olds,u.oneCell'=true)->olds.length=n*i.size ->
      ((ad=none∧olds=[])∨∃p,ad=some p∧olds.length=n*i.size∧∀(j:Nat) v,olds[j]?=some v->w.cell? (p.add j)=some v)->cap<n+m->o.wp P a w next Q:=by
     intro ad cap olds Tp holds h1 hol hold LO;have hr:=Pa (P:=P) (w:=w) (t:=t) (tx:=tx) (ty:=o.type) (ts:=ts) hu hdx Ads hi hz hs hold LO hby hnm;rw[←Tp] at hr;refine run hr next Q (hn _ _ (Da β d (some (w.heap.size,0))) ?_);have hge:n+m<=grownCap w (n+m) cap e:=grownCap_ge w (n+m) cap e
     have BS:Id w (w.drew.alloc (.cells (olds.toArray++news.toArray++Builtin.zeroCells z.cells (grownCap w (n+m) cap e-(n+m))) e)) (olds.toArray++news.toArray++Builtin.zeroCells z.cells (grownCap w (n+m) cap e-(n+m))) e:=
      ⟨rfl,rfl,rfl,fun k hk=>Below.heap_alloc w.drew _ k hk,by show (w.heap.push _).size=_;simp,(0,0),by show (w.heap.push _)[w.heap.size]?=_;simp,.inl rfl⟩
     have Afv:(olds.toArray++news.toArray++Builtin.zeroCells z.cells (grownCap w (n+m) cap e-(n+m))).size=grownCap w (n+m) cap e*i.size:=by
      simp only[Array.size_append,List.size_toArray,size_zeroCells,hzs,hol,JC,←Nat.add_mul]
      congr 1
      omega
     have YC:∀k y,some (w.heap.size,0)=some (k,y)->w.heap.size<=k∨∃q,β id=some (k,q):=by
      intro k y hh;simp at hh;exact .inl (by omega)
     refine h.move h0 DI hdN rfl rfl rfl (by rw[BS.size];omega) (fun k hk _=>BS.old k hk) BS.step.bs (fun k y hh=>⟨by simp at hh;rw[BS.size];omega,YC k y hh⟩) (fun k y hh Cd=>by simp at hh;omega)
      (fun k y _ Cd j _=>⟨World.cell?_of_block (w:=w) (BS.old k Cd),World.frozen?_of_block (w:=w) (BS.old k Cd)⟩) ?_ ?_ (by intro j hj;simpa [B7,Cj,Av] using hj)
     ·refine .inr ⟨w.heap.size,0,Au _ _ _,PG BS (Ae4 h0 DI YC) holds hs.rep h1 hs.one,fun _ j _ hj=>?_,(fun q=>by cases q)⟩
      rw[BS.bsz] at hj;exact BS.frozen hj
     ·refine .inr ⟨w.heap.size,0,0,grownCap w (n+m) cap e,Au _ _ _,rfl,.inl rfl,hge,?_,by rw[BS.size];omega⟩
      rw[BS.bsz,Afv];omega
    rcases hbv with⟨hβ,_,rfl,ad,Tp⟩|⟨bb,ob,y,cap,hβ,Tp,hy,A1p,LO,A3u⟩
    ·rcases Ak9 with⟨_,rfl⟩|⟨b',o',H3,_⟩
     ·by_cases hm0:m=0
      ·subst hm0;have hr:=Pe (P:=P) (w:=w) (t:=t) (tx:=tx) (ty:=o.type) (ts:=ts) (ad:=ad) hu hdx Ads hi hs (List.eq_nil_of_length_eq_zero (by omega))
       rw[←Tp] at hr;have Abh:new=[]:=List.eq_nil_of_length_eq_zero (by omega)
       subst Abh;refine run hr next Q (hn _ _ (Da β d none) ?_);rw[Tp];refine h.move h0 DI hdN rfl rfl rfl (Nat.le_refl _) (fun _ _ _=>rfl) (fun _ _=>Nat.le_refl _) (fun k q hh=>by cases hh) (fun k q hh=>by cases hh) (fun _ _ _ _ _ _=>⟨rfl,rfl⟩) ?_ ?_ (by intro j hj;simpa [B7,Cj,Av] using hj)
       ·exact .inl ⟨Au _ _ _,by simp⟩
       ·exact .inl ⟨Au _ _ _,rfl,rfl,ad,rfl⟩
      ·exact grow ad 0 [] Tp (by simp[Bw]) (by simp) (by simp) (by cases ad with
        |none=>exact .inl ⟨rfl,rfl⟩
        |some p=>exact .inr ⟨p,rfl,by simp,fun j v hj=>by simp at hj⟩) (by omega)
     ·rw[hβ] at H3;cases H3
    ·rcases Ak9 with⟨H3,_⟩|⟨b',o',H3,Nv,hb3,_⟩
     ·rw[hβ] at H3;cases H3
     rw[hβ] at H3;simp at H3;obtain⟨rfl,rfl⟩:=H3;have hy:y=ob:=by rcases hy with hy|⟨_,hq⟩<;>omega
     subst hy;by_cases Anu:n+m<=cap
     ·have Alw:y+n*i.size+news.length<=bsz w bb:=by
       have h5:n*i.size+m*i.size<=cap*i.size:=by rw[←Nat.add_mul];exact Nat.mul_le_mul_right _ Anu
       omega
      have hcell:∀k,k<news.length->(w.cell? ⟨bb,y+n*i.size+k,none⟩).isSome=true:=fun k hk=>An7 (by omega)
      have hr:=LH (P:=P) (w:=w) (t:=t) (tx:=tx) (ty:=o.type) (ts:=ts) (b:=bb) (ob:=y) (n:=n) (cap:=cap) hu hdx Ads hi hs JC hcell (fun k hk=>hb3 rfl _ (by omega) (by omega)) Anu
      rw[←Tp] at hr;have hw:=F4.setCells bb news (y+n*i.size) w
      have YC:∀k q,some (bb,y)=some (k,q)->w.heap.size<=k∨∃q',β id=some (k,q'):=by
       intro k q hh;simp at hh;obtain⟨rfl,rfl⟩:=hh;exact .inr ⟨_,hβ⟩
      refine run hr next Q (hn _ _ (Da β d (some (bb,y))) ?_)
      have Gk:Co (Db s.hp β Y) w (w.setCells bb (y+n*i.size) news):=by
       have hAb:Db s.hp β Y bb:=.inl ⟨id,y,by rw[h0];trivial,hβ⟩
       exact⟨by rw[hw.size];exact Nat.le_refl _,fun k _ hk=>hw.other k (fun e=>hk (e ▸ hAb)),fun k _=>by
        by_cases e:k=bb
        ·subst e;rw[hw.bs];exact Nat.le_refl _
        ·unfold bsz;rw[hw.other k e];exact Nat.le_refl _⟩
      refine h.move h0 DI hdN hw.os hw.tape hw.output (by rw[hw.size];exact Nat.le_refl _) (fun k _ hq=>hw.other k (by rintro rfl;exact hq _ hβ)) Gk.bs (fun k q hh=>⟨by simp at hh;rw[hw.size];omega,YC k q hh⟩) (fun k q hh _=>by rw[hβ];exact hh)
       (fun k q hh _ j hj=>by
        rw[hβ] at hh;cases hh;exact⟨World.cell?_setCells_out bb _ _ w ⟨bb,j,none⟩ (fun _ _=>by show j<y+n*i.size∨y+n*i.size+_<=j;omega),hw.frz j⟩) ?_ ?_ (by intro j hj;simpa [B7,Cj,Av] using hj)
      ·refine .inr ⟨bb,y,Au _ _ _,fun j p hj=>?_,fun _ j hj Xe=>?_,(fun q=>by cases q)⟩
       ·rw[Er];by_cases hjn:j<n*i.size
        ·rw[List.getElem?_append_left (by rw[List.length_take];omega),List.getElem?_take_of_lt hjn] at hj
         obtain⟨u,Lq,h5,ht⟩:=Nv j p hj;rw[Er] at Lq;refine⟨u,?_,h5,ht.step Gk (Ae4 h0 DI YC)⟩;rw[World.cell?_setCells_out bb _ _ w ⟨bb,y+j,none⟩ (fun _ _=>by show y+j<y+n*i.size∨y+n*i.size+_<=y+j;omega)]
         exact Lq
        ·rw[List.getElem?_append_right (by rw[List.length_take];omega),List.length_take,Nat.min_eq_left A99] at hj
         obtain⟨u,Lq,ht⟩:=hs.rep.get hj
         have Cd:j-n*i.size<news.length:=by
          rcases Nat.lt_or_ge (j-n*i.size) news.length with h|h
          ·exact h
          ·rw[List.getElem?_eq_none h] at Lq;cases Lq
         refine⟨u,?_,hs.one u (List.mem_of_getElem? Lq),ht.step Gk (Ae4 h0 DI YC)⟩;have:=World.cell?_setCells_in bb news (y+n*i.size) w hcell (j-n*i.size) Cd;rw[show y+j=y+n*i.size+(j-n*i.size) from by omega,this]
         rw[List.getElem?_eq_getElem Cd] at Lq;exact Lq
       ·rw[hw.bs] at Xe;rw[hw.frz];exact hb3 rfl j hj Xe
      ·exact .inr ⟨bb,y,y,cap,Au _ _ _,rfl,.inl rfl,Anu,by rw[hw.bs];omega,by rw[hw.size];exact A3u⟩
     ·-- the old cells
      have hob:∀(j:Nat) p,(cc.take (n*i.size))[j]?=some p->∃v,w.cell? ⟨bb,y+j,none⟩=some v∧v.oneCell'=true∧Aw w (Db s.hp β Y) p v:=by
       intro j p hj;rw[List.getElem?_take] at hj;split at hj
       ·obtain⟨v,hv,h5,ht⟩:=Nv j p hj;rw[Er] at hv;exact⟨v,hv,h5,ht⟩
       ·cases hj
      have Gv:(cc.take (n*i.size)).length=n*i.size:=by rw[List.length_take];omega
      refine grow _ cap ((cc.take (n*i.size)).mapIdx fun j _=>(w.cell? ⟨bb,y+j,none⟩).getD undef) Tp ?_ ?_ (by simp only[List.length_mapIdx];exact Gv) (.inr ⟨_,rfl,by simp only[List.length_mapIdx];exact Gv,fun j v hj=>?_⟩) (by omega)
      ·refine Bw.of_at (by simp) fun j p v hp hv=>?_
       obtain⟨u,Lq,_,ht⟩:=hob j p hp;rw[List.getElem?_mapIdx,hp,Option.map_some,Lq] at hv;simp at hv;subst hv;exact ht
      ·intro v hv;obtain⟨j,hj⟩:=List.mem_iff_getElem?.1 hv;rw[List.getElem?_mapIdx] at hj;cases hp:(cc.take (n*i.size))[j]? with
       |none=>rw[hp] at hj;cases hj
       |some p=>
        obtain⟨u,Lq,h5,_⟩:=hob j p hp;rw[hp,Option.map_some,Lq] at hj;simp at hj;subst hj;exact h5
      ·rw[List.getElem?_mapIdx] at hj;cases hp:(cc.take (n*i.size))[j]? with
       |none=>rw[hp] at hj;cases hj
       |some p=>
        obtain⟨u,Lq,h5,_⟩:=hob j p hp;rw[hp,Option.map_some,Lq] at hj;simp at hj;subst hj;rw[Er];exact Lq
   ·cases hk
  ·obtain⟨zz,n',c',hk,hp⟩:=Hg hk;obtain⟨hb,hk⟩:=As hk;simp only[Bool.and_eq_true,decide_eq_true_eq] at hb;obtain⟨⟨⟨⟨⟨hzz,hdN⟩,DI⟩,Aiw⟩,hby⟩,hnm⟩:=hb;have hdN:d<N:=Nat.lt_of_succ_le (Nat.le_of_ble_eq_true hdN);have DI:s.hp d=none:=by simpa using DI
   have Ae6:Ih N (some d)=true:=by simp[Ih,Nat.blt];omega
   rw[Ku] at Aiw hk;rw[Xu] at hby;have JC:news.length=m*i.size:=by omega
   rcases slice_form hp hbv with⟨Tp,_⟩|⟨_,_,_,OY,_⟩|⟨_,_,_,OY,_⟩
   ·refine⟨_,hk,fun next Q hn=>?_⟩
    by_cases hm0:m=0
    ·subst hm0;have hr:=Pe (P:=P) (w:=w) (t:=t) (tx:=tx) (ty:=o.type) (ts:=ts) (ad:=none) hu hdx Ads hi hs (List.eq_nil_of_length_eq_zero (by omega))
     rw[←Tp] at hr;have Abh:new=[]:=List.eq_nil_of_length_eq_zero (by omega)
     subst Abh;refine run hr next Q (hn _ _ (Da β d none) ?_);rw[Tp];refine h.stepR (d:=some d) (nw:=[(d,.ar false [])]) (β':=Da β d none) Ae6 (by simp[Ck,DI]) ⟨rfl,rfl,rfl,Co.refl _ _,fun j hj=>Am _ _ (by rintro rfl;exact hj DI),?_,?_,?_,?_,?_,.inl ⟨Au _ _ _,rfl,rfl,none,rfl⟩,?_⟩
     ·intro j bx hm;simp at hm;rw[hm.2];trivial
     ·intro j bx hm;simp at hm;obtain⟨rfl,rfl⟩:=hm;exact .inl ⟨Au _ _ _,rfl⟩
     ·intro j bx k q hm hq;simp at hm;obtain⟨rfl,rfl⟩:=hm;rw[Au] at hq;cases hq
     ·intro j bx j' bx' k q q' hm Qf _ _;simp at hm Qf;rw[hm.1,Qf.1]
     ·intro j cells hm;simp at hm
     ·intro j hj;simp[B7,Cj,Av] at hj;subst hj;exact .inr ⟨.ar false [],by simp⟩
    ·have hr:=Pa (P:=P) (w:=w) (t:=t) (tx:=tx) (ty:=o.type) (ts:=ts) (ad:=none) (n:=0) (cap:=0) (olds:=[]) hu hdx Ads hi hz hs (.inl ⟨rfl,rfl⟩) (by omega) (by rw[Nat.zero_add];exact hby) (by omega)
     rw[←Tp] at hr;refine run hr next Q (hn _ _ (Da β d (some (w.heap.size,0))) ?_);have hge:0+m<=grownCap w (0+m) 0 e:=grownCap_ge w (0+m) 0 e
     have BS:Id w (w.drew.alloc (.cells (([]:List Value).toArray++news.toArray++Builtin.zeroCells z.cells (grownCap w (0+m) 0 e-(0+m))) e)) (([]:List Value).toArray++news.toArray++Builtin.zeroCells z.cells (grownCap w (0+m) 0 e-(0+m))) e:=
      ⟨rfl,rfl,rfl,fun k hk=>Below.heap_alloc w.drew _ k hk,by show (w.heap.push _).size=_;simp,(0,0),by show (w.heap.push _)[w.heap.size]?=_;simp,.inl rfl⟩
     have Afv:(([]:List Value).toArray++news.toArray++Builtin.zeroCells z.cells (grownCap w (0+m) 0 e-(0+m))).size=grownCap w (0+m) 0 e*i.size:=by
      simp only[Array.size_append,List.size_toArray,size_zeroCells,hzs,JC,List.length_nil,←Nat.add_mul];rw[Nat.zero_add (m*i.size),←Nat.add_mul]
      congr 1
      omega
     refine h.stepR (d:=some d) (nw:=[(d,.ar false new)]) Ae6 (by simp[Ck,DI]) (Ur BS DI trivial ?_ (fun cells hx=>by cases hx) ?_ (by intro j hj;simp[B7,Cj,Av] at hj;exact .inr hj))
     ·refine .inr ⟨w.heap.size,0,Au _ _ _,?_,fun _ j _ hj=>?_,(fun q=>by cases q)⟩
      ·exact PG (pre:=[]) BS (Ah8 DI) trivial hs.rep (by simp) hs.one
      ·rw[BS.bsz] at hj;exact BS.frozen hj
     ·refine .inr ⟨w.heap.size,0,0,grownCap w (0+m) 0 e,Au _ _ _,by rw[Nat.zero_add],.inl rfl,by omega,?_,by rw[BS.size];omega⟩
      rw[BS.bsz,Afv];omega
   ·rw[OY] at hzz;cases hzz
   ·rw[OY] at hzz;cases hzz
 ·cases hk
theorem Aer (h:B4 N w0 X0 Y β s a w){c:Call}(ho:o.op=.call c)(hc:c.callee=.builtin .copy){b x:Operand}(Es:c.args.toList=[b,x]) {t tx:TypeId}{ts:List TypeId}(LQ:c.argTypes.toList=t::tx::ts)
  {K:St->Option R} (hk:UJ P N s o.dst t tx (Ct s.tm b) (Ct s.tm x) K=some r):
  ∃s',K s'=some r∧∀(next:Act->World->Prop) (Q:Exit->Act->World->Prop),(∀a' w' β',B4 N w0 X0 Y β' s' a' w'->next a' w')->o.wp P a w next Q:=by
 have NY:c.args = #[b,x]:=by
  have:c.args=([b,x]:List Operand).toArray:=by rw[←Es]
  exact this
 have Aaw:c.argTypes=(t::tx::ts).toArray:=by rw[←LQ]
 have run:∀{v:Value} {w1:World},(Builtin.copy_ (t::tx::ts).toArray o.type #[a.eval b,a.eval x]).run P w=.ok v w1->∀(next:Act->World->Prop) (Q:Exit->Act->World->Prop),next (a.put o.dst v) w1->o.wp P a w next Q:=by
  intro v w1 hr next Q hn;unfold Oper.wp execOp;rw[ho];simp only[resolve,hc,invoke,builtin,Sem.run_bind,Sem.run_pure,Result.andThen_ok,NY,Aaw];have:(#[b,x]:Array Operand).map a.eval = #[a.eval b,a.eval x]:=by simp
  rw[this,hr];exact hn
 have hbv:=Dw h b;unfold UJ at hk;split at hk
 ·rename_i e hu;obtain⟨hzi,hk⟩:=As hk;simp only[Bool.and_eq_true] at hzi;obtain⟨Tb,Ae6⟩:=hzi;obtain⟨i,hi⟩:∃i,P.info? e=some i:=Option.isSome_iff_exists.1 Tb;have Ku:Bl P e=i.size:=by unfold Bl;rw[hi];rfl
  have h1c:∀(m:Nat) (new:List PV),(match Ct s.tm b with
    |.view id es off n=>
     match s.hp id with
     |some (.ar false c)=>Ar (Nat.beq es (Bl P e)&&decide (off+n*es<=c.length)&&decide (new.length=m*es))
       (Aa (min m n) fun k=>Aa (Bn c (new.take (k*es)) off) fun c=>K ⟨B8 s.tm o.dst (.sc (.int .i64 k)),Da s.hp id (some (.ar false c))⟩)
     |_=>none
    |_=>none)=some r->new.length=m*Bl P e:=by
   intro m new hk;split at hk
   ·split at hk
    ·obtain⟨hb,_⟩:=As hk;simp only[Bool.and_eq_true,decide_eq_true_eq] at hb;rw[←Nat.eq_of_beq_eq_true hb.1.1];exact hb.2
    ·cases hk
   ·cases hk
  obtain⟨_,m,new,news,hk,hs⟩:=PS h hk h1c;split at hk
  ·rename_i id es off n hb;rw[hb] at hbv;split at hk
   ·rename_i cc h0;obtain⟨hb,hk⟩:=As hk;simp only[Bool.and_eq_true,decide_eq_true_eq] at hb;obtain⟨⟨KE,Xa⟩,hnl⟩:=hb;have KE:=Nat.eq_of_beq_eq_true KE;subst KE;rw[Ku] at hk hs Xa hnl hbv;have JC:news.length=m*i.size:=by rw[←hs.rep.len];exact hnl
    have hkm:min m n*i.size<=m*i.size:=Nat.mul_le_mul_right _ (Nat.min_le_left _ _);have hkn:min m n*i.size<=n*i.size:=Nat.mul_le_mul_right _ (Nat.min_le_right _ _);have Iu:K ⟨B8 s.tm o.dst (.sc (.int .i64 ((min m n:Nat):Int))),Da s.hp id (some (.ar false (Bn cc (new.take (min m n*i.size)) off)))⟩=some r:=hk;refine⟨_,Iu,fun next Q hn=>?_⟩
    have As9:∀{β':Bt} {C1:Nat->Option Bx} {w':World},B4 N w0 X0 Y β' ⟨s.tm,C1⟩ a w'->B4 N w0 X0 Y β' ⟨B8 s.tm o.dst (.sc (.int .i64 ((min m n:Nat):Int))),C1⟩ (a.put o.dst (goInt ((min m n:Nat):Int))) w':=
     fun hh=>hh.put Ae6 (Aw.sc _) (fun _ hx=>by cases hx)
    have Aoe:new.take (min m n*i.size)=[]->Da s.hp id (some (.ar false (Bn cc (new.take (min m n*i.size)) off)))=s.hp:=by
     intro e;rw[e];refine FQ _ ?_;rw[h0];simp[Bn]
    have nothing:min m n*i.size=0->∀(ad:Option Addr) (cap:Nat),a.eval b=.slice ad n cap->o.wp P a w next Q:=by
     intro e ad cap Tp;have hr:=Ac6 (P:=P) (w:=w) (w1:=w) (t:=t) (ty:=o.type) (ts:=tx::ts) (ad:=ad) (n:=n) (cap:=cap) hu hi hs (by rw[e];cases ad<;>simp[storeCells])
     rw[←Tp] at hr;refine run hr next Q (hn _ _ β (As9 ?_));rw[Aoe (by rw[e,List.take_zero])]
     exact h
    rcases hbv with⟨hβ,_,rfl,ad,Tp⟩|⟨bb,ob,y,cap,hβ,Tp,hy,A1p,LO,A3u⟩
    ·exact nothing (by simp) ad 0 Tp
    ·by_cases hm0:min m n*i.size=0
     ·exact nothing hm0 _ _ Tp
     rcases h.box id _ h0 with⟨H3,_⟩|⟨b',o',H3,Nv,hb3,_⟩
     ·rw[hβ] at H3;cases H3
     rw[hβ] at H3;simp at H3;obtain⟨rfl,rfl⟩:=H3;have NC:n≠0:=by rintro rfl;simp at hm0
     have hy:y=ob+off:=by rcases hy with hy|⟨hq,_⟩<;>first|exact absurd hq NC|exact hy
     subst hy;have Cd:(news.take (min m n*i.size)).length=min m n*i.size:=by rw[List.length_take,JC];omega
     have hcell:∀k,k<(news.take (min m n*i.size)).length->(w.cell? ⟨bb,ob+off+k,none⟩).isSome=true:=by
      intro k hk;obtain⟨v,hv,_⟩:=Nv (off+k) _ (List.getElem?_eq_getElem (by omega))
      rw[Er] at hv;rw[Nat.add_assoc,hv];rfl
     have TJ:∀k,k<(news.take (min m n*i.size)).length->w.frozen? ⟨bb,ob+off+k,none⟩=false:=fun k hk=>by
      obtain⟨u,hu⟩:=Option.isSome_iff_exists.1 (hcell k hk);exact hb3 rfl _ (by omega) (OR hu)
     have h1:∀u∈news.take (min m n*i.size),u.oneCell'=true:=fun u hu=>hs.one u (List.mem_of_mem_take hu)
     have h3:=run_storeCells_cells (P:=P) bb (ob+off) (news.take (min m n*i.size)) 0 w (fun k hk=>by simpa using hcell k hk) (fun k hk=>by simpa using TJ k hk) h1
     have hr:=Ac6 (P:=P) (w:=w) (t:=t) (ty:=o.type) (ts:=tx::ts) (ad:=some ⟨bb,ob+off,none⟩) (n:=n) (cap:=cap) hu hi hs h3;rw[←Tp] at hr;simp only[Nat.add_zero] at hr;refine run hr next Q (hn _ _ β (As9 ?_))
     refine h.write h0 trivial trivial hβ (F4.setCells bb _ _ w) ?_ (fun cells hx=>by cases hx) (fun _ hx=>by cases hx) (fun j hj=>hj) (fun j hj=>by
      refine World.cell?_setCells_out bb _ _ w ⟨bb,j,none⟩ (fun _ _=>?_)
      have hj:¬(ob<=j):=hj;show j<ob+off∨ob+off+_<=j;omega)
     have Gk:Co (Db s.hp β Y) w (w.setCells bb (ob+off) (news.take (min m n*i.size))):=by
      have hw:=F4.setCells bb (news.take (min m n*i.size)) (ob+off) w;have hAb:Db s.hp β Y bb:=.inl ⟨id,ob,by rw[h0];trivial,hβ⟩
      exact⟨by rw[hw.size];exact Nat.le_refl _,fun k _ hk=>hw.other k (fun e=>hk (e ▸ hAb)),fun k _=>by
       by_cases e:k=bb
       ·subst e;rw[hw.bs];exact Nat.le_refl _
       ·unfold bsz;rw[hw.other k e];exact Nat.le_refl _⟩
     have hll:(new.take (min m n*i.size)).length=min m n*i.size:=by rw[List.length_take,hnl];omega
     refine .inr ⟨bb,ob,hβ,fun j p hj=>?_,fun _ j hj Xe=>?_,(fun x=>by cases x)⟩
     ·rw[Er];rcases V3 (by omega) hj with⟨h3,h4,h5⟩|⟨h3,h5⟩
      ·have A2a:j-off<min m n*i.size:=by omega
       rw[List.getElem?_take_of_lt A2a] at h5;obtain⟨u,hu,hcu⟩:=hs.rep.get h5;have Ad5:j-off<(news.take (min m n*i.size)).length:=by omega
       refine⟨u,?_,hs.one u (List.mem_of_getElem? hu),hcu.step Gk (fun _ _ x=>x)⟩
       have:=World.cell?_setCells_in bb (news.take (min m n*i.size)) (ob+off) w hcell (j-off) Ad5;rw[show ob+j=ob+off+(j-off) from by omega,this]
       rw[←List.getElem?_eq_getElem Ad5,List.getElem?_take_of_lt A2a];exact hu
      ·obtain⟨v,hv,h6,JZ⟩:=Nv j p h5;rw[Er] at hv;refine⟨v,?_,h6,JZ.step Gk (fun _ _ x=>x)⟩
       rw[World.cell?_setCells_out bb _ _ w ⟨bb,ob+j,none⟩ (fun _ _=>by show ob+j<ob+off∨ob+off+_<=ob+j;omega)]
       exact hv
     ·rw[(F4.setCells bb _ _ w).bs] at Xe;rw[(F4.setCells bb _ _ w).frz];exact hb3 rfl j hj Xe
   ·cases hk
  ·cases hk
 ·cases hk
theorem Af7 (h:B4 N w0 X0 Y β s a w){G:Us}(Ja:JJ P G w0 X0){C:I3}{call:Ah}(C4:∀f args res,call f args=some res->C7 G P f args res){K:St->Option R}(hk:Zu C P N call s o K=some r):
  ∃s',K s'=some r∧∀(next:Act->World->Prop) (Q:Exit->Act->World->Prop),(∀a' w' β',B4 N w0 X0 Y β' s' a' w'->next a' w')->o.wp P a w next Q:=by
 unfold Zu at hk;split at hk
 ·rename_i t x y ho;obtain⟨hd,hk⟩:=As hk;exact Aec h ho (by simpa using hd) hk
 ·rename_i c ho;split at hk
  ·rename_i hc;obtain⟨d,hd,D4⟩:=Dl hk;obtain⟨b,xs,RY,Gc⟩:=Bk D4;obtain⟨x,ys,hys,Tn⟩:=Bk Gc;obtain⟨ML,Tc⟩:=Ec Tn;obtain⟨t,us,hus,VL⟩:=Bk Tc;obtain⟨tx,vs,Ti,hk6⟩:=Bk VL;rw[hys,ML] at RY;rw[Ti] at hus;exact XL h ho hc hd RY hus hk6
  ·rename_i hc;obtain⟨b,xs,RY,Gc⟩:=Bk hk;obtain⟨x,ys,hys,Tn⟩:=Bk Gc;obtain⟨ML,Tc⟩:=Ec Tn;obtain⟨t,us,hus,VL⟩:=Bk Tc;obtain⟨tx,vs,Ti,hk6⟩:=Bk VL;rw[hys,ML] at RY;rw[Ti] at hus;exact Aer h ho hc RY hus hk6
  ·rename_i f hc;exact Ac2 h Ja C4 ho hc hk
  ·cases hk
 ·cases hk
theorem OO (h:B4 N w0 X0 Y β s a w){G:Us}(Ja:JJ P G w0 X0){C:I3}{call:Ah}(C4:∀f args res,call f args=some res->C7 G P f args res){K:St->Option R}(hk:Adt C P N call o s K=some r):
  ∃s',K s'=some r∧∀(next:Act->World->Prop) (Q:Exit->Act->World->Prop),(∀a' w' β',B4 N w0 X0 Y β' s' a' w'->next a' w')->o.wp P a w next Q:=by
 unfold Adt at hk;cases hm:Vl C P o.op
 ·rw[hm] at hk;exact Ag6 h Ja C4 hk
 ·rw[hm] at hk;exact Af7 h Ja C4 hk
end
end
end Go.Proofs.YtpogefhpiaaliaaDoor.Pv
