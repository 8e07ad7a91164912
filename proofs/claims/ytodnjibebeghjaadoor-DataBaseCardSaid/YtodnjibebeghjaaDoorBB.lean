/-
  The proof of DataBase, part 2.
-/
import Derived.Test.YtodnjibebeghjaaDoorBA
import Derived.Laws.Append
import Derived.IntWalk
import Derived.Laws.AppendOwn
import Derived.Laws.IdiomCopy
set_option linter.unusedSimpArgs false
set_option linter.unusedVariables false
namespace Go.Proofs.YtodnjibebeghjaaDoor.Pv
section
open Go.RowKit
def Fh (w:World)(A:Nat->Prop)(own:Option (Nat × Nat)) (p:PV)(u:Value):Prop:=
 match p with
 |.own es n c=>(own=none∧n=0∧c=[]∧∃ad,u=.slice ad 0 0) ∨
   ∃b o cap,own=some (b,o)∧u=.slice (some ⟨b,o,none⟩) n cap∧n<=cap∧Fit w es b (o+cap*es)∧b<w.heap.size∧MT w A ⟨b,o,none⟩ c∧∀j,o<=j->j<bsz w b->w.frozen? ⟨b,j,none⟩=false
 |p=>Ar w A p u
def Ec (w:World)(A:Nat->Prop)(own:Bt):Nat->List PV->List Value->Prop
 |_,[],[]=>True
 |j,p::ps,u::us=>Fh w A (own j) p u∧Ec w A own (j+1) ps us
 |_,_,_=>False
def Abt (w:World)(A:Nat->Prop)(own:Bt)(j b o:Nat)(cs:List PV):Prop:=
 ∃vs,Ec w A own j cs vs∧(∀(k:Nat) v,vs[k]?=some v->w.cell? ⟨b,o+k,none⟩=some v)∧∀k,k<cs.length->w.frozen? ⟨b,o+k,none⟩=false
def Adj (w:World)(A:Nat->Prop)(own:Bt)(z j:Nat)(p:PV)(u:Value):Prop:=
 match p with
 |.agg cs=>∃vs,u=.agg ⟨vs⟩∧Ec w A own j cs vs
 |.pbox cs=>∃b o,own j=some (b,o)∧z<=b∧u=.pointer (some ⟨b,o,none⟩)∧Abt w A own (j+1) b o cs
 |p=>Fh w A (own j) p u
def SZ:PV->Nat
 |.pbox cs=>1+cs.length
 |p=>(cellsOf p).length
def CK (w:World)(A:Nat->Prop)(own:Bt)(z:Nat):Nat->List PV->List Value->Prop
 |_,[],[]=>True
 |j,p::ps,u::us=>Adj w A own z j p u∧CK w A own z (j+SZ p) ps us
 |_,_,_=>False
abbrev Tv:=Nat->Nat->Option (Nat × Nat)
def WG (bt:Tv)(b:Nat):Prop:=∃i j o,bt i j=some (b,o)
def isA (p:PV):Prop:=Qs p∨∃es n c,p=.own es n c
def Tt (p:PV):Bool:=
 match p with
 |.pbox _=>true
 |.tup _=>true
 |_=>false
theorem Af7 {p:PV}(h:isA p):Tt p=false:=by
 rcases h with h|⟨_,_,_,rfl⟩
 ·cases p<;>first|rfl|exact h.elim
 ·rfl
def MH (w:World)(A:Nat->Prop)(bt:Bt)(p:PV)(u:Value):Prop:=
 match p with
 |.pbox ps=>∃b o,bt 0=some (b,o)∧u=.pointer (some ⟨b,o,none⟩)∧(∀p∈ps,isA p)∧Abt w A bt 1 b o ps
 |.tup ps=>∃es n c,ps=[.own es n c]∧Fh w A (bt 0) (.own es n c) u
 |.agg cs=>∃vs,u=.agg ⟨vs⟩∧(∀p∈cs,isA p)∧Ec w A bt 1 cs vs
 |p=>isA p∧Fh w A (bt 1) p u
def Iy (w:World)(A:Nat->Prop)(bt:Tv):Nat->List PV->List Value->Prop
 |_,[],[]=>True
 |i,p::ps,u::us=>MH w A (bt i) p u∧Iy w A bt (i+1) ps us
 |_,_,_=>False
def Ak3 (bt:Bt)(p:PV)(b j:Nat):Prop:=
 (∃k o,bt (k+1)=some (b,o)∧o<=j)∨∃o ps,bt 0=some (b,o)∧o<=j∧((p=.pbox ps∧j<o+ps.length)∨p=.tup ps)
def Xi (bt:Tv)(args:List PV)(b j:Nat):Prop:=∃i p,args[i]?=some p∧Ak3 (bt i) p b j
def Qt (w:World)(A:Nat->Prop)(own:Bt)(bt:Tv):Nat->Nat->List PV->List (List PV)->Prop
 |_,_,[],r=>r=[]
 |j,i,p::zs,r=>
  match p with
  |.pbox ps=>
   match r with
   |[]=>False
   |cs::r=>(∃b o,bt i 0=some (b,o)∧cs.length=ps.length∧Abt w A own j b o cs)∧Qt w A own bt (j+cs.length) (i+1) zs r
  |.tup _=>
   match r with
   |[]=>False
   |cs::r=>((bt i 0=none∧cs=[])∨∃b o,bt i 0=some (b,o)∧MT w A ⟨b,o,none⟩ cs∧∀k,o<=k->k<bsz w b->w.frozen? ⟨b,k,none⟩=false)∧Qt w A own bt j (i+1) zs r
  |_=>Qt w A own bt j (i+1) zs r
def Yw (bt:Tv)(own:Bt)(Y:Nat->Prop)(b:Nat):Prop:=(∃j o,own j=some (b,o))∨(∃i o,bt i 0=some (b,o))∨Y b
def Jm (vals:List PV):Nat:=(vals.map SZ).sum
structure Out (w w':World) (Y:Nat->Prop) (bt:Tv) (args:List PV) (own:Bt) (r:Ay) (vs:List Value):Prop where
 os:w'.os=w.os
 tape:w'.tape=w.tape
 output:w'.output=w.output
 ext:B4 (WG bt) w w'
 rng:∀b j,b<w.heap.size->¬Xi bt args b j->w'.cell? ⟨b,j,none⟩=w.cell? ⟨b,j,none⟩∧w'.frozen? ⟨b,j,none⟩=w.frozen? ⟨b,j,none⟩
 vals:CK w' (Yw bt own Y) own w.heap.size 0 r.vals vs
 outs:Qt w' (Yw bt own Y) own bt (Jm r.vals) 0 args r.outs
 fresh:∀j b o,own j=some (b,o)->b<w'.heap.size∧(b<w.heap.size->(∃i k o',bt i (k+1)=some (b,o'))∧∀x,o<=x->Xi bt args b x)
 inj:∀j j' b o o',own j=some (b,o)->own j'=some (b,o')->j=j'
def Gx (us:List Value):Value:=match us with|[u]=>u|us=>.tuple ⟨us⟩
def Nl (w:World)(Y:Nat->Prop)(p:PV)(u:Value):Prop:=
 match p with
 |.agg cs=>∃vs,u=.agg ⟨vs⟩∧Bd (fun c v=>Qs c∧Ar w Y c v) cs vs
 |p=>Qs p∧Ar w Y p u
structure Ins (w:World) (Y:Nat->Prop) (bt:Tv) (args:List PV) (us:List Value):Prop where
 Ylt:∀b,Y b->b<w.heap.size
 Yx:∀b,Y b->¬WG bt b
 lt:∀b,WG bt b->b<w.heap.size
 inj:∀i j i' j' b o o',bt i j=some (b,o)->bt i' j'=some (b,o')->i=i'∧j=j'
 l0:∀i q,bt i 0=some q->∃p,args[i]?=some p∧Tt p=true
 args:Iy w (fun b=>WG bt b∨Y b) bt 0 args us
structure Rs where
 bl:Nat->Prop
 ok:World->Prop
 stable:∀w w':World,(∀b,bl b->b<w.heap.size->w'.heap[b]?=w.heap[b]?)->ok w->ok w'
def C6 (G:Rs)(P:Program)(f:FuncId)(args:List PV)(r:Ay):Prop:=
 (∃fn,P.funcs[f]?=some fn∧fn.body.isSome=true)∧∀(w:World)(Y:Nat->Prop)(bt:Tv)(us:List Value),Ins w Y bt args us->G.ok w->(∀b,G.bl b->b<w.heap.size∧¬WG bt b) ->
  Calls P f us.toArray w fun e w'=>∃vs own,e=.returned (Gx vs)∧Out w w' Y bt args own r vs
def LY:Tv:=fun _ _=>none
theorem Mz (b:Nat):¬WG LY b:=by rintro⟨_,_,_,h⟩;cases h
theorem Id {w:World}{A:Nat->Prop}{q:Option (Nat × Nat)} {p:PV}{u:Value}(hp:Qs p)(h:Ar w A p u):Fh w A q p u:=by
 cases p<;>first|exact h|exact hp.elim
theorem Ve {w:World}{A:Nat->Prop}{own:Bt}:∀{cs:List PV}{vs:List Value}{j:Nat},Bd (fun c v=>Qs c∧Ar w A c v) cs vs->Ec w A own j cs vs
 |[],[],_,_=>trivial
 |_::_,_::_,_,h=>⟨Id h.1.1 h.1.2,Ve h.2⟩
 |[],_::_,_,h=>h.elim
 |_::_,[],_,h=>h.elim
theorem WL {w:World}{A:Nat->Prop}{bt:Bt}{p:PV}{u:Value}(h:Nl w A p u):MH w A bt p u:=by
 cases p with
 |agg cs=>
  obtain⟨vs,h1,h2⟩:=h;refine⟨vs,h1,fun p hp=>.inl ?_,Ve h2⟩
  obtain⟨j,hj⟩:=List.mem_iff_getElem?.1 hp;obtain⟨v,_,hv⟩:=h2.get hj;exact hv.1
 |sc v=>exact⟨.inl trivial,h.2⟩
 |lst z es n c=>exact⟨.inl trivial,h.2⟩
 |_=>exact h.1.elim
theorem Ys {w:World}{A:Nat->Prop}{bt:Tv}:∀{ps:List PV}{us:List Value}{i:Nat},Bd (Nl w A) ps us->Iy w A bt i ps us
 |[],[],_,_=>trivial
 |_::_,_::_,_,h=>⟨WL h.1,Ys h.2⟩
 |[],_::_,_,h=>h.elim
 |_::_,[],_,h=>h.elim
theorem WF {w:World}{A A':Nat->Prop}(hA:∀b,b<w.heap.size->A' b->A b){p:PV}{v:Value}(h:Nl w A p v):Nl w A' p v:=by
 cases p with
 |agg cs=>
  obtain⟨vs,rfl,h2⟩:=h;exact⟨vs,rfl,h2.mono fun c v hc=>⟨hc.1,hc.2.step (B4.refl _ _) hA⟩⟩
 |sc v=>exact⟨h.1,h.2.step (B4.refl _ _) hA⟩
 |lst z es n c=>exact⟨h.1,h.2.step (B4.refl _ _) hA⟩
 |_=>exact h.1.elim
theorem JW {w:World}{Y:Nat->Prop}{args:List PV}{us:List Value}(hY:∀b,Y b->b<w.heap.size)(h:Bd (Nl w Y) args us):Ins w Y LY args us:=
 ⟨hY,fun b _=>Mz b,fun b h=>absurd h (Mz b),(fun _ _ _ _ _ _ _ h=>by cases h),(fun _ _ h=>by cases h),Ys (h.mono fun _ _ hx=>WF (fun b _ hb=>hb.elim (fun q=>absurd q (Mz b)) id) hx)⟩
def NoNG (P:Program):Prop:=∀(f:FuncId) (fn:Func),P.funcs[f]?=some fn->(fn.name == "runtime.NumGoroutine")=false
structure JT (P:Program) (G:Rs) (w0:World) (X0:Gv):Prop where
 ng:NoNG P
 fr:∀w,Fr X0 w0 w->G.ok w
 y:∀b,G.bl b->b<w0.heap.size∧¬X0.X b
section
variable {R:Type} {r:R} {P:Program} {N:Nat} {w0:World} {X0:Gv} {Y:Nat->Prop} {β β':Bt} {s:St} {a:Act} {w w':World} {o:Oper} {A:Nat->Prop}
def Z7 (P:Program)(a:Act)(w:World)(o:Oper)(Y:Nat->Prop)(β:Bt)(s:St)(v:PV)(fz:List Nat)(nw:List (Nat × Bm)):Prop:=
 (∀id∈fz,∃f c,s.hp id=some (.ar f c))∧∀(next:Act->World->Prop)(Q:Exit->Act->World->Prop),
  (∀val w',(Bo s.hp nw=true->∃β',CM Y β ⟨s.tm,Af s.hp fz⟩ w v nw val w' β')->next (a.put o.dst val) w')->o.wp P a w next Q
theorem Xw {v:PV}{fz:List Nat}{nw:List (Nat × Bm)} (h:Dw P a w o Y β s v fz nw):Z7 P a w o Y β s v fz nw:=by
 obtain⟨h1,val,w',hr,hs⟩:=h;refine⟨h1,fun next Q hn=>?_⟩
 unfold Oper.wp;rw[hr];exact hn val w' hs
theorem XR (h:Cl N w0 X0 Y β s a w){t:TypeId}{x:PV}{u:Value}(hx:D1 w (Cy s.hp β Y) β x u) {K:PV->List Nat->Option R}(hk:OZ P (Hx s.hp) t x K=some r):
  ∃p m,K p m=some r∧(∀id∈m,∃f cc,s.hp id=some (.ar f cc))∧(cellsOf p).length=(G0 P t).length∧∀fz:List Nat,(∀id∈m,id∈fz)->(∀id∈fz,∃f cc,s.hp id=some (.ar f cc))->Nl w (Cy (Af s.hp fz) β Y) p u:=by
 unfold OZ at hk;cases Fb:Bx P t
 ·rw[Fb] at hk;obtain⟨cs,m,hk,hl,Ib,hT,hF,hm,hv⟩:=Ms h (show Ky _ _ _ _=some r from hk)
  obtain⟨c,t',rfl,hk⟩:=A7 hk;obtain⟨rfl,hk⟩:=Dd hk;have hcT:=hT c (by simp)
  refine⟨c,m,hk,hm,?_,fun fz h1 h2=>?_⟩
  ·have:cellsOf c=[c]:=by cases c<;>first|rfl|exact hcT.elim
   rw[this];exact hl
  have hF':=hF _ (List.mem_singleton_self _)
  have hc:Bs w (Cy s.hp β Y) β x u:=by
   cases x<;>first|exact hx|exact hF'.elim
  have h3:=(hv fz h1 h2 [u] ⟨hc,trivial⟩).1.1;cases c<;>first|exact⟨trivial,h3⟩|exact hcT.elim
 ·rw[Fb] at hk;obtain⟨ps,hp,hk⟩:=Gf (show G7 _ _=some r from hk)
  rw[hp] at hx;obtain⟨cs,m,hk,hl,Ib,hT,hF,hm,hv⟩:=Ms h hk;obtain⟨vs,C4,h2⟩:=hx;refine⟨.agg cs,m,hk,hm,hl,fun fz h1 h3=>⟨vs,C4,?_⟩⟩
  exact (hv fz h1 h3 vs h2).1.mono_mem fun c hc v Vt=>⟨hT c hc,Vt⟩
theorem ZY (h:Cl N w0 X0 Y β s a w){t:TypeId}{x:Operand}{K:PV->List Nat->Option R}(hk:OZ P (Hx s.hp) t (Bw s.tm x) K=some r):
  ∃p m,K p m=some r∧(∀id∈m,∃f cc,s.hp id=some (.ar f cc))∧∀fz:List Nat,(∀id∈m,id∈fz)->(∀id∈fz,∃f cc,s.hp id=some (.ar f cc))->Nl w (Cy (Af s.hp fz) β Y) p (a.eval x):=by
 obtain⟨p,m,h1,h2,_,h3⟩:=XR h (Cp h x) hk;exact⟨p,m,h1,h2,h3⟩
theorem BS (h:Cl N w0 X0 Y β s a w):∀{ts:List TypeId}{xs:List Operand}{K:List PV->List Nat->Option R},Ze P (Hx s.hp) ts (xs.map (Bw s.tm)) K=some r ->
  ∃ps m,K ps m=some r∧(∀id∈m,∃f cc,s.hp id=some (.ar f cc))∧∀fz:List Nat,(∀id∈m,id∈fz)->(∀id∈fz,∃f cc,s.hp id=some (.ar f cc))->Bd (Nl w (Cy (Af s.hp fz) β Y)) ps (xs.map a.eval)
 |[],[],K,hk=>⟨[],[],hk,by simp,fun _ _ _=>trivial⟩
 |[],_::_,K,hk=>by cases hk
 |_::_,[],K,hk=>by cases hk
 |t::ts,x::xs,K,hk=>by
  simp only[List.map_cons] at hk;unfold Ze at hk;obtain⟨p,m,hk,hm,hv⟩:=ZY h hk;obtain⟨ps,ms,hk,Xv,Ob⟩:=BS h hk;refine⟨p::ps,m++ms,hk,?_,fun fz h1 h2=>⟨hv fz (fun i hi=>h1 i (by simp[hi])) h2,Ob fz (fun i hi=>h1 i (by simp[hi])) h2⟩⟩
  intro i hi;rcases List.mem_append.1 hi with hi|hi
  ·exact hm i hi
  ·exact Xv i hi
theorem Nl.weaken {A':Nat->Prop}(hA:∀b,b<w.heap.size->A' b->A b){p:PV}{v:Value}(h:Nl w A p v):Nl w A' p v:=by
 have one:Qs p->Qs p∧Ar w A p v->Nl w A' p v:=by
  intro hp h;cases p<;>first|exact⟨h.1,h.2.step (B4.refl _ _) hA⟩|exact hp.elim
 cases p with
 |agg cs=>
  obtain⟨vs,rfl,h2⟩:=h;exact⟨vs,rfl,h2.mono fun c v hc=>⟨hc.1,hc.2.step (B4.refl _ _) hA⟩⟩
 |_=>exact one h.1 h
theorem YV {t:CT}{p:PV}{K:PV->Option R}(h:Uu t p K=some r):
  ∃c,K c=some r∧Qs c∧Qs p∧(∀(w:World) (A:Nat->Prop) (β:Nat->Option (Nat × Nat)) (v:Value),Bs w A β p v->Ar w A c v∧v.oneCell'=true)∧((∀es,t ≠ .sl es)->∃v,c=.sc v):=by
 obtain⟨c,hk,hT,Xj,hv⟩:=J4 h;cases t with
 |sl es=>exact⟨c,hk,hT,Xj,hv,fun Ek=>absurd rfl (Ek es)⟩
 |int k=>obtain⟨n,rfl,h2⟩:=D2 h;exact⟨_,h2,trivial,trivial,fun w A β v hv=>⟨hv,by have:=Ar.val (w:=w) (A:=A) hv;subst this;rfl⟩,fun _=>⟨_,rfl⟩⟩
 |bool=>obtain⟨n,rfl,h2⟩:=Di h;exact⟨_,h2,trivial,trivial,fun w A β v hv=>⟨hv,by have:=Ar.val (w:=w) (A:=A) hv;subst this;rfl⟩,fun _=>⟨_,rfl⟩⟩
 |str=>obtain⟨n,rfl,h2⟩:=Dc h;exact⟨_,h2,trivial,trivial,fun w A β v hv=>⟨hv,by have:=Ar.val (w:=w) (A:=A) hv;subst this;rfl⟩,fun _=>⟨_,rfl⟩⟩
 |any=>
  obtain⟨u,rfl,h1,h2⟩:=SQ (show WH p (fun v=>K (.sc v))=some r from h)
  exact⟨_,h2,trivial,trivial,fun w A β v hv=>⟨hv,by have:=Ar.val (w:=w) (A:=A) hv;subst this;exact h1⟩,fun _=>⟨_,rfl⟩⟩
theorem P5 (shr:Bool)(N:Nat):∀{ts:List CT}{ps:List PV}{id:Nat}{K:List PV->List (Nat × Bm)->Option R},My shr N id ts ps K=some r ->
  ∃cs bs,K cs bs=some r∧ps.length=ts.length∧(∀p∈ps,∀x,p ≠ .agg x∧p ≠ .pbox x)∧(∀c∈cs,BC c)∧((∀es,CT.sl es ∉ ts)->bs=[]∧∀c∈cs,∃v,c=.sc v) ∧
   (∀i bx,(i,bx)∈bs->∃j es n c,ps[j]?=some (.own es n c)∧i=id+N*j∧bx=.ar false c) ∧
   (∀c∈cs,∀i∈Al c,∃bx,(i,bx)∈bs) ∧
   ∀(w:World) (A:Nat->Prop) (own β':Bt) (j0:Nat) (us:List Value),(∀j,(∃bx,(id+N*j,bx)∈bs)->β' (id+N*j)=own (j0+j))->Ec w A own j0 ps us->Bd (Bs w A β') cs us
 |[],ps,id,K,hk=>by
  obtain⟨rfl,hk⟩:=Dd hk;refine⟨[],[],hk,rfl,by simp,by simp,by simp,by simp,by simp,fun w A own β' j0 us _ h=>?_⟩
  cases us with
  |nil=>trivial
  |cons u us=>exact h.elim
 |t::ts,ps,id,K,hk=>by
  unfold My at hk;obtain⟨p,ps',We,Du⟩:=A7 hk;subst We;clear hk
  have main:∃c b,(My shr N (id+N) ts ps' fun cs bs=>K (c::cs) (b++bs))=some r∧(∀x,p ≠ .agg x∧p ≠ .pbox x)∧BC c∧((∀es,t≠CT.sl es)->b=[]∧∃v,c=.sc v)∧(∀i bx,(i,bx)∈b->∃es n cc,p=.own es n cc∧i=id∧bx=.ar false cc)∧(∀i∈Al c,∃bx,(i,bx)∈b) ∧
    ∀(w:World) (A:Nat->Prop) (own:Option (Nat × Nat)) (β':Bt) (u:Value),((∃bx,(id,bx)∈b)->β' id=own)->Fh w A own p u->Bs w A β' c u:=by
   have tree:∀t',t'=t->(Uu t' p fun c=>My shr N (id+N) ts ps' fun cs bs=>K (c::cs) ([]++bs))=some r->∃c b,(My shr N (id+N) ts ps' fun cs bs=>K (c::cs) (b++bs))=some r∧(∀x,p ≠ .agg x∧p ≠ .pbox x)∧BC c∧((∀es,t≠CT.sl es)->b=[]∧∃v,c=.sc v)∧(∀i bx,(i,bx)∈b->∃es n cc,p=.own es n cc∧i=id∧bx=.ar false cc)∧(∀i∈Al c,∃bx,(i,bx)∈b) ∧
     ∀(w:World) (A:Nat->Prop) (own:Option (Nat × Nat)) (β':Bt) (u:Value),((∃bx,(id,bx)∈b)->β' id=own)->Fh w A own p u->Bs w A β' c u:=by
    intro t' ht' hk;have MQ:=YV hk;obtain⟨c,hk,hT,Xj,hv,MQ⟩:=MQ;refine⟨c,[],hk,fun x=>⟨R7 Xj x,by rintro rfl;exact Xj⟩,Nk hT,fun Ek=>⟨rfl,MQ (fun es e=>Ek es (ht'.symm.trans e))⟩,by simp,by rw[Gl hT];simp,fun w A own β' u _ hc=>?_⟩
    have M6:Bs w A β' p u:=by cases p<;>first|exact hc|exact Xj.elim
    exact (I4 hT).2 (hv w A β' u M6).1
   unfold YY at Du;cases t with
   |sl es=>
    dsimp only at Du;cases shr
    ·unfold HR at Du;simp only[cond_false] at Du;split at Du
     ·rename_i es' n c;cases hb:Nat.beq es' es
      ·rw[hb] at Du;cases Du
      ·rw[hb] at Du;have:=Nat.eq_of_beq_eq_true hb;subst this;refine⟨_,_,Du,by simp,trivial,fun Ek=>absurd rfl (Ek _),?_,?_,fun w A own β' u hβ hc=>?_⟩
       ·intro i bx hm;simp at hm;exact⟨_,_,_,rfl,hm.1,hm.2⟩
       ·intro i hi;simp[Al] at hi;subst hi;exact⟨.ar false c,by simp⟩
       ·have hβ':=hβ ⟨.ar false c,by simp⟩
        clear hβ;rcases hc with⟨h1,rfl,rfl,h4⟩|⟨b,ob,cap,h1,h2,h3,h4,h5,_⟩
        ·exact .inl ⟨hβ'.trans h1,rfl,rfl,h4⟩
        ·exact .inr ⟨b,ob,ob,cap,hβ'.trans h1,h2,.inl rfl,h3,h4,h5⟩
     ·cases Du
    ·obtain⟨c,hk,hT,Xj,hv,_⟩:=YV (t:=.sl es) (p:=p) (K:=fun c=>My true N (id+N) ts ps' fun cs bs=>K (GA c::cs) ([]++bs)) Du
     have hU:Qs (GA c):=by cases c<;>exact hT
     refine⟨GA c,[],hk,fun x=>⟨R7 Xj x,by rintro rfl;exact Xj⟩,Nk hU,fun Ek=>absurd rfl (Ek _),by simp,by rw[Gl hU];simp,fun w A own β' u _ hc=>?_⟩
     have M6:Bs w A β' p u:=by cases p<;>first|exact hc|exact Xj.elim
     refine (I4 hU).2 ?_;have:=(hv w A β' u M6).1;cases c with
     |lst z es n c=>exact Ar.unz this
     |_=>exact this
   |int k=>exact tree (.int k) rfl Du
   |bool=>exact tree .bool rfl Du
   |str=>exact tree .str rfl Du
   |any=>exact tree .any rfl Du
  obtain⟨c,b,hk,hpa,hF,LD,Eg,G5,Vt⟩:=main;obtain⟨cs,bs,hk,hl,Ats,hFs,Ajd,Awj,Ay7,Ax4⟩:=P5 shr N hk;refine⟨c::cs,b++bs,hk,by simp[hl],?_,?_,?_,?_,?_,fun w A own β' j0 us hβ hoc=>?_⟩
  ·intro x hx;rcases List.mem_cons.1 hx with rfl|hx
   ·exact hpa
   ·exact Ats x hx
  ·intro x hx;rcases List.mem_cons.1 hx with rfl|hx
   ·exact hF
   ·exact hFs x hx
  ·intro Ek;obtain⟨h1,v,h2⟩:=LD (fun es e=>Ek es (by rw[e];simp))
   obtain⟨h3,h4⟩:=Ajd (fun es hm=>Ek es (by simp[hm]))
   refine⟨by rw[h1,h3];rfl,fun x hx=>?_⟩
   rcases List.mem_cons.1 hx with rfl|hx
   ·exact⟨v,h2⟩
   ·exact h4 x hx
  ·intro i bx hm;rcases List.mem_append.1 hm with hm|hm
   ·obtain⟨es,n,cc,rfl,rfl,rfl⟩:=Eg i bx hm;exact⟨0,es,n,cc,rfl,by simp,rfl⟩
   ·obtain⟨j,es,n,cc,h1,rfl,h3⟩:=Awj i bx hm;exact⟨j+1,es,n,cc,by simpa using h1,by rw[Nat.mul_add];omega,h3⟩
  ·intro x hx i hi;rcases List.mem_cons.1 hx with rfl|hx
   ·obtain⟨bx,hm⟩:=G5 i hi;exact⟨bx,by simp[hm]⟩
   ·obtain⟨bx,hm⟩:=Ay7 x hx i hi;exact⟨bx,by simp[hm]⟩
  ·cases us with
   |nil=>exact hoc.elim
   |cons u us=>
    refine⟨Vt w A (own j0) β' u (fun ⟨bx,hm⟩=>by have:=hβ 0 ⟨bx,by simp[hm]⟩;simpa using this) hoc.1,?_⟩
    refine Ax4 w A own β' (j0+1) us (fun j ⟨bx,hm⟩=>?_) hoc.2
    have e:id+N+N*j=id+N*(j+1):=by rw[Nat.mul_add];omega
    have:=hβ (j+1) ⟨bx,by rw[←e];simp[hm]⟩
    rw[e,this]
    congr 1
    omega
end
open Go.RowKit
section
variable {R:Type} {r:R} {P:Program} {N:Nat} {w0:World} {X0:Gv} {Y:Nat->Prop} {β β':Bt} {s:St} {a:Act} {w w':World} {o:Oper} {A:Nat->Prop}
theorem Ec.len:∀{j:Nat}{own:Bt}{ps:List PV}{us:List Value},Ec w A own j ps us->ps.length=us.length
 |_,_,[],[],_=>rfl
 |_,_,_::_,_::_,h=>by simp[Ec.len h.2]
 |_,_,[],_::_,h=>h.elim
 |_,_,_::_,[],h=>h.elim
theorem Ec.at_:∀{j:Nat}{own:Bt}{ps:List PV}{us:List Value},Ec w A own j ps us->∀{i:Nat} {p},ps[i]?=some p->∃u,us[i]?=some u∧Fh w A (own (j+i)) p u
 |_,_,[],[],_,i,p,h=>by simp at h
 |j,own,_::_,u::_,h,0,p,hp=>by simp at hp;subst hp;exact⟨u,rfl,h.1⟩
 |j,own,_::_,_::_,h,i+1,p,hp=>by
  simp at hp;obtain⟨u,hu,hc⟩:=Ec.at_ h.2 hp;exact⟨u,by simpa using hu,by rw[show j+(i+1)=j+1+i from by omega];exact hc⟩
 |_,_,[],_::_,h,_,_,_=>h.elim
 |_,_,_::_,[],h,_,_,_=>h.elim
def Aaq (N id:Nat)(β':Bt)(w:World)(A:Nat->Prop)(z n:Nat)(bs:List (Nat × Bm)):Prop:=
 ∀i bx,(i,bx)∈bs->(∃j,i=id+N*j∧j<n)∧Cx (some bx)∧Nv w A β' i bx∧∀cs,bx=.st cs->∀b o,β' i=some (b,o)->z<=b
def T9 (bs:List (Nat × Bm)):Prop:=∀i cells,(i,.st cells)∈bs->∀c∈cells,∀i'∈Al c,∃bx,(i',bx)∈bs
theorem Sh {q:Option (Nat × Nat)} {es n i:Nat}{c:List PV}{u:Value}(h:Fh w A q (.own es n c) u) (hβ:β' i=q):Nv w A β' i (.ar false c):=by
 rcases h with⟨h1,_,h2,_⟩|⟨b,o,cap,h1,_,_,_,_,h6,h7⟩
 ·exact .inl ⟨hβ.trans h1,h2⟩
 ·exact .inr ⟨b,o,hβ.trans h1,h6,fun _=>h7,(fun x=>by cases x)⟩
theorem Ut {t:TypeId}(h:Hz P [t]=false):Si P t=none∧∀es,CT.sl es ∉ G0 P t:=by
 simp only[Hz,List.any_cons,List.any_nil,Bool.or_false,Bool.or_eq_false_iff] at h;refine⟨by simpa using h.1,fun es hm=>?_⟩
 have:=List.any_eq_false.1 h.2 _ hm;simp at this
theorem Abm (shr:Bool)(N:Nat){t:TypeId}{p:PV}{id:Nat}{K:PV->List (Nat × Bm)->Option R} (hk:VW P shr N id t p K=some r):
  ∃v bs,K v bs=some r∧SZ p=IP P t∧(∀x,v ≠ .tup x)∧(Hz P [t]=false->bs=[]∧∀c∈cellsOf v,∃u,c=.sc u)∧(∀i∈B8 v,∃bx,(i,bx)∈bs)∧T9 bs ∧
   ∀(w:World) (A:Nat->Prop) (own β':Bt) (z j0:Nat) (u:Value),(∀j,(∃bx,(id+N*j,bx)∈bs)->β' (id+N*j)=own (j0+j))->Adj w A own z j0 p u->Gs w A β' v u∧Aaq N id β' w A z (SZ p) bs:=by
 have boxes:∀{bs:List (Nat × Bm)} {ps:List PV} {id:Nat},(∀i bx,(i,bx)∈bs->∃j es n c,ps[j]?=some (.own es n c)∧i=id+N*j∧bx=.ar false c) ->
   T9 bs∧∀(w:World) (A:Nat->Prop) (own β':Bt) (j0:Nat) (us:List Value),(∀j,(∃bx,(id+N*j,bx)∈bs)->β' (id+N*j)=own (j0+j))->Ec w A own j0 ps us->∀z,Aaq N id β' w A z ps.length bs:=by
  intro bs ps id Eg;refine⟨fun i cells hm=>?_,fun w A own β' j0 us hβ ho z i bx hm=>?_⟩
  ·obtain⟨_,_,_,_,_,_,h3⟩:=Eg i _ hm;cases h3
  ·obtain⟨j,es,n,cc,h1,h2,h3⟩:=Eg i bx hm;obtain⟨u,hu,hoc⟩:=ho.at_ h1;subst h3;refine⟨⟨j,h2,?_⟩,trivial,Sh hoc ?_,fun _ e=>by cases e⟩
   ·rcases Nat.lt_or_ge j ps.length with h|h
    ·exact h
    ·rw[List.getElem?_eq_none h] at h1;cases h1
   ·rw[h2];exact hβ j ⟨_,h2 ▸ hm⟩
 unfold VW at hk;split at hk
 ·rename_i e he;obtain⟨ps,rfl,hk⟩:=BO hk;obtain⟨cs,bs,hk,hl,Afq,hF,LD,Eg,G5,Vt⟩:=P5 shr N hk;obtain⟨OU,Jh⟩:=boxes Eg;refine⟨.ptr id 0,_,hk,by simp only[SZ,IP,he,hl],by simp,fun h=>?_,fun i hi=>?_,fun i cells hm c hc i' MO=>?_,fun w A own β' z j0 u hβ ho=>?_⟩
  ·have:=(Ut h).1;rw[he] at this;cases this
  ·simp only[B8,Al,List.mem_singleton] at hi;subst hi;exact⟨_,List.mem_cons_self⟩
  ·rcases List.mem_cons.1 hm with e|hm
   ·cases e;obtain⟨bx,hb⟩:=G5 c hc i' MO;exact⟨bx,List.mem_cons_of_mem _ hb⟩
   ·obtain⟨bx,hb⟩:=OU i cells hm c hc i' MO;exact⟨bx,List.mem_cons_of_mem _ hb⟩
  ·obtain⟨b,o,h1,hz,rfl,vs,h3,h4,h5⟩:=ho;have h0:=hβ 0 ⟨_,by rw[Nat.mul_zero,Nat.add_zero];exact List.mem_cons_self⟩
   rw[Nat.mul_zero,Nat.add_zero,Nat.add_zero,h1] at h0;have Bi:∀j,id+N+N*j=id+N*(j+1):=fun j=>by rw[Nat.mul_add];omega
   have hβ1:∀j,(∃bx,(id+N+N*j,bx)∈bs)->β' (id+N+N*j)=own (j0+1+j):=fun j ⟨bx,hm⟩=>by
    rw[Bi,hβ (j+1) ⟨bx,by rw[←Bi];exact List.mem_cons_of_mem _ hm⟩]
    congr 1;omega
   have hc2:=Vt w A own β' (j0+1) vs hβ1 h3;have Rk:=Jh w A own β' (j0+1) vs hβ1 h3 z;have Db:cs.length=ps.length:=by rw[hc2.len,←h3.len]
   refine⟨⟨b,o,h0,by simp⟩,fun i bx hm=>?_⟩
   rcases List.mem_cons.1 hm with e|hm
   ·cases e;refine⟨⟨0,by simp,by simp only[SZ];omega⟩,trivial,⟨b,o,h0,fun k c hk=>?_,fun k hk=>h5 k (by omega)⟩,fun _ _ b' o' G1=>?_⟩
    ·obtain⟨v,hv,IC⟩:=hc2.get hk;exact⟨v,h4 k v hv,IC⟩
    ·rw[h0] at G1;cases G1;exact hz
   ·obtain⟨⟨j,hj,hjn⟩,h6,h7⟩:=Rk i bx hm;exact⟨⟨j+1,by rw[hj,Bi],by simp only[SZ];omega⟩,h6,h7⟩
 ·rename_i hnp;have R2:IP P t=(G0 P t).length:=by simp only[IP,hnp]
  cases Fb:Bx P t
  ·rw[Fb] at hk;obtain⟨cs,bs,hk,hl,Afq,hF,LD,Eg,G5,Vt⟩:=P5 shr N (show My _ _ _ _ _ _=some r from hk)
   obtain⟨c,t',rfl,hk⟩:=A7 hk;obtain⟨rfl,hk⟩:=Dd hk;have hFc:=hF c (by simp)
   have Aq0:∀x,p ≠ .pbox x:=fun x=>(Afq p (by simp) x).2
   have Amk:∀x,c ≠ .agg x:=by rintro x rfl;exact hFc
   have Ayz:∀x,c ≠ .tup x:=by rintro x rfl;exact hFc
   have AC:B8 c=Al c:=by cases c<;>first|rfl|exact absurd rfl (Amk _)
   have hpa:∀x,p ≠ .agg x:=fun x=>(Afq p (by simp) x).1
   obtain⟨OU,Jh⟩:=boxes Eg;have Cr:cellsOf p=[p]:=by cases p<;>first|rfl|exact absurd rfl (hpa _)
   have Ao5:SZ p=1:=by cases p<;>first|rfl|exact absurd rfl (hpa _)|exact absurd rfl (Aq0 _)
   have hcc:cellsOf c=[c]:=by cases c<;>first|rfl|exact absurd rfl (Amk _)
   refine⟨c,bs,hk,by rw[Ao5,R2];exact hl,Ayz,fun Ek=>by rw[hcc];exact LD (Ut Ek).2,fun i hi=>G5 c (by simp) i (by rw[←AC];exact hi),OU,fun w A own β' z j0 u hβ ho=>?_⟩
   have KD:Fh w A (own j0) p u:=by cases p<;>first|exact ho|exact absurd rfl (hpa _)|exact absurd rfl (Aq0 _)
   exact⟨(Tk Amk).2 (Vt w A own β' j0 [u] hβ ⟨KD,trivial⟩).1,by rw[Ao5];exact Jh w A own β' j0 [u] hβ ⟨KD,trivial⟩ z⟩
  ·rw[Fb] at hk;obtain⟨ps,rfl,hk⟩:=Gf (show G7 _ _=some r from hk)
   obtain⟨cs,bs,hk,hl,Afq,hF,LD,Eg,G5,Vt⟩:=P5 shr N hk;obtain⟨OU,Jh⟩:=boxes Eg;refine⟨.agg cs,bs,hk,by rw[R2];exact hl,by simp,fun Ek=>LD (Ut Ek).2,fun i hi=>?_,OU,fun w A own β' z j0 u hβ ho=>?_⟩
   ·obtain⟨c,hc,hi⟩:=List.mem_flatMap.1 (show i∈cs.flatMap Al from hi)
    exact G5 c hc i hi
   ·obtain⟨vs,rfl,ho⟩:=ho;exact⟨⟨vs,rfl,Vt w A own β' j0 vs hβ ho⟩,Jh w A own β' j0 vs hβ ho z⟩
theorem Tx (shr:Bool)(N:Nat):∀{ts:List TypeId}{ps:List PV}{id:Nat}{K:List PV->List (Nat × Bm)->Option R},Vh P shr N id ts ps K=some r ->
  ∃vs bs,K vs bs=some r∧vs.length=ps.length∧(∀v∈vs,∀x,v ≠ .tup x)∧(Hz P ts=false->bs=[]∧∀v∈vs,∀c∈cellsOf v,∃u,c=.sc u)∧(∀v∈vs,∀i∈B8 v,∃bx,(i,bx)∈bs)∧T9 bs ∧
   ∀(w:World) (A:Nat->Prop) (own β':Bt) (z j0:Nat) (us:List Value),(∀j,(∃bx,(id+N*j,bx)∈bs)->β' (id+N*j)=own (j0+j))->CK w A own z j0 ps us->Bd (Gs w A β') vs us∧Aaq N id β' w A z (Jm ps) bs
 |[],ps,id,K,hk=>by
  obtain⟨rfl,hk⟩:=Dd hk;refine⟨[],[],hk,rfl,by simp,by simp,by simp,(by intro i cells hm;cases hm),fun w A own β' z j0 us _ h=>?_⟩
  cases us with
  |nil=>exact⟨trivial,by intro i bx hm;cases hm⟩
  |cons u us=>exact h.elim
 |t::ts,ps,id,K,hk=>by
  unfold Vh at hk;obtain⟨p,ps',We,Du⟩:=A7 hk;subst We;clear hk;obtain⟨v,bs,hk,hl,PJ,LD,AC,OU,hv⟩:=Abm shr N Du;obtain⟨vs,bs',hk,hvl,As5,Ajd,hrs,A38,Ob⟩:=Tx shr N hk;refine⟨v::vs,bs++bs',hk,by simp[hvl],?_,?_,?_,?_,fun w A own β' z j0 us hβ ho=>?_⟩
  ·intro x hx;rcases List.mem_cons.1 hx with rfl|hx
   ·exact PJ
   ·exact As5 x hx
  ·intro Ek;simp only[Hz,List.any_cons,Bool.or_eq_false_iff] at Ek;obtain⟨h1,h2⟩:=LD (by simp only[Hz,List.any_cons,List.any_nil,Bool.or_false,Bool.or_eq_false_iff];exact Ek.1)
   obtain⟨h3,h4⟩:=Ajd (by simp only[Hz];exact Ek.2)
   refine⟨by rw[h1,h3];rfl,fun x hx=>?_⟩
   rcases List.mem_cons.1 hx with rfl|hx
   ·exact h2
   ·exact h4 x hx
  ·intro x hx i hi;rcases List.mem_cons.1 hx with rfl|hx
   ·obtain⟨bx,hm⟩:=AC i hi;exact⟨bx,by simp[hm]⟩
   ·obtain⟨bx,hm⟩:=hrs x hx i hi;exact⟨bx,by simp[hm]⟩
  ·intro i cells hm c hc i' MO;rcases List.mem_append.1 hm with hm|hm
   ·obtain⟨bx,hb⟩:=OU i cells hm c hc i' MO;exact⟨bx,by simp[hb]⟩
   ·obtain⟨bx,hb⟩:=A38 i cells hm c hc i' MO;exact⟨bx,by simp[hb]⟩
  ·cases us with
   |nil=>exact ho.elim
   |cons u us=>
    obtain⟨h1,Eg⟩:=hv w A own β' z j0 u (fun j ⟨bx,hm⟩=>hβ j ⟨bx,by simp[hm]⟩) ho.1
    have Bi:∀j,id+N*IP P t+N*j=id+N*(IP P t+j):=fun j=>by rw[Nat.mul_add];omega
    obtain⟨h2,G5⟩:=Ob w A own β' z (j0+SZ p) us (fun j ⟨bx,hm⟩=>by rw[Bi,hβ _ ⟨bx,by rw[←Bi];simp[hm]⟩,hl];congr 1;omega) ho.2
    refine⟨⟨h1,h2⟩,fun i bx hm=>?_⟩
    rcases List.mem_append.1 hm with hm|hm
    ·obtain⟨⟨j,hj,hjn⟩,h4,h5⟩:=Eg i bx hm;exact⟨⟨j,hj,by simp only[Jm,List.map_cons,List.sum_cons];omega⟩,h4,h5⟩
    ·obtain⟨⟨j,hj,hjn⟩,h4,h5⟩:=G5 i bx hm;refine⟨⟨_,by rw[hj,Bi],?_⟩,h4,h5⟩
     simp only[Jm,List.map_cons,List.sum_cons] at hjn ⊢;omega
def Wa (N d:Nat)(bs:List (Nat × Bm)) (own β:Bt):Bt:=fun i=>if (bs.any fun q=>Nat.beq q.1 i)=true then own ((i-d) / N) else β i
theorem GY {bs:List (Nat × Bm)} {i:Nat}:(bs.any fun q=>Nat.beq q.1 i)=true↔∃bx,(i,bx)∈bs:=by
 rw[List.any_eq_true];constructor
 ·rintro⟨⟨j,bx⟩,hm,e⟩
  have:=Nat.eq_of_beq_eq_true e;subst this;exact⟨bx,hm⟩
 ·rintro⟨bx,hm⟩
  exact⟨_,hm,Nat.beq_refl i⟩
theorem RP {N d j:Nat}(hN:0<N){bs:List (Nat × Bm)} {own β:Bt}(h:∃bx,(d+N*j,bx)∈bs):Wa N d bs own β (d+N*j)=own j:=by
 unfold Wa;rw[if_pos (GY.2 h),Nat.add_sub_cancel_left,Nat.mul_div_cancel_left _ hN]
theorem KT {c:Call}{f:FuncId}(ho:o.op=.call c)(hc:c.callee=.value (.func f)) (Iw:NoNG P){fn:Func}(hf:P.funcs[f]?=some fn) (hb:fn.body.isSome=true):
  (execOp a.eval o).run P w=.ok (.enter f (c.args.map a.eval)) w:=by
 unfold execOp;rw[ho]
 have hn:¬fn.body=none:=by
  intro h;rw[h] at hb;cases hb
 have Ek:¬fn.name = "runtime.NumGoroutine" :=by simpa using Iw f fn hf
 simp[resolve,hc,Act.eval,Deferred.ofValue,invoke,callFunc,hf,Ek,hn]
theorem UV {c:Call}{t:Nat}{f:FuncId}(ho:o.op=.call c)(hc:c.callee=.value (.tmp t)) (ht:a.eval (.tmp t)=.func (.func f) #[] #[]) (Iw:NoNG P){fn:Func}(hf:P.funcs[f]?=some fn) (hb:fn.body.isSome=true):
  (execOp a.eval o).run P w=.ok (.enter f (c.args.map a.eval)) w:=by
 unfold execOp;rw[ho]
 have hn:¬fn.body=none:=by
  intro h;rw[h] at hb;cases hb
 have Ek:¬fn.name = "runtime.NumGoroutine" :=by simpa using Iw f fn hf
 simp[resolve,hc,ht,Deferred.ofValue,invoke,callFunc,hf,Ek,hn]
theorem Vk {A':Nat->Prop}(k:Bool):∀{xs:List Operand}{ps:List PV},Bd (Nl w A') ps (xs.map a.eval)->Bd (Nl w A') (Hy k xs ps) (xs.map a.eval)
 |[],[],h=>h
 |[],_::_,h=>h
 |_::_,[],h=>h
 |x::xs,p::ps,h=>by
  simp only[List.map_cons] at h ⊢;refine⟨?_,Vk k h.2⟩;split
  ·exact⟨trivial,Ar.lnil _ _⟩
  ·exact h.1
theorem Zj (h : Cl N w0 X0 Y β s a w) {G : Rs} (Iw : JT P G w0 X0) {C : F3} {call : Ax} (Dk : ∀ f args res, call f args = some res -> C6 G P f args res) {c : Call} {f : FuncId} (Ch : ∀ {fn : Func}, P.funcs[f]? = some fn -> fn.body.isSome = true -> (execOp a.eval o).run P w = .ok (.enter f (c.args.map a.eval)) w)
    {K : PV -> List Nat -> List (Nat × Bm) -> Option R}
    (hk : (Ze P (Hx s.hp) (Yo P f c) (c.args.toList.map (Bw s.tm)) fun vs m =>
          Ai (call f (Hy (C.kz f) c.args.toList vs)) fun rv ro => Ad ro (Bj (Nat.blt 0 N) <| Vh P (C.shr f) N (o.dst.getD 0) (K3 P o.type) rv fun ws bs =>
            Bj (bif Lu P o.type then !Nat.beq ws.length 1 else Nat.beq ws.length 1) <| K (Km ws (Lu P o.type)) (bif Hz P (K3 P o.type) then m else []) bs)) = some r) : ∃ v fz nw, K v fz nw = some r ∧ Z7 P a w o Y β s v fz nw := by
  obtain⟨ps, m, hk, hm, Eh⟩ := BS h hk
  replace Eh := fun fz h1 h2 => Vk (a := a) (C.kz f) (Eh fz h1 h2)
  generalize Hy (C.kz f) c.args.toList ps = ps at hk Eh
  obtain⟨rv, ro, Kg, hk⟩ := CQ hk
  obtain⟨rfl, hk⟩ := Dd hk
  obtain⟨hN, hk⟩ := Aj hk
  have hN : 0 < N := Nat.lt_of_succ_le (Nat.le_of_ble_eq_true hN)
  obtain⟨ws, bs, hk, hwl, PJ, LD, hrs, OU, hws⟩ := Tx (C.shr f) N hk
  obtain⟨Mg, hk⟩ := Aj hk
  obtain⟨⟨fn, hfn, hfb⟩, Xd⟩ := Dk f ps _ Kg
  obtain⟨fz, U8, hfm⟩ : ∃ fz : List Nat, fz = (bif Hz P (K3 P o.type) then m else []) ∧ ∀ id ∈ fz, ∃ f c, s.hp id = some (.ar f c) := by
    refine⟨_, rfl, fun id Bi => ?_⟩
    cases hh : Hz P (K3 P o.type) <;> rw[hh] at Bi
    · cases Bi
    · exact hm id Bi
  rw[← U8] at hk
  refine⟨_, _, _, hk, hfm, fun next Q hn => ?_⟩
  have hf := h.freeze hfm
  have hYc : ∃ Yc : Nat -> Prop, (∀ b, Yc b -> b < w.heap.size) ∧ Bd (Nl w Yc) ps (c.args.toList.map a.eval) ∧ ((∀ b, Cy (Af s.hp fz) β Y b -> Yc b) ∨ Hz P (K3 P o.type) = false) := by
    have Lh := Eh m (fun _ hi => hi) hm
    cases hh : Hz P (K3 P o.type)
    · exact⟨fun _ => False, fun _ x => x.elim, Lh.mono fun _ _ hx => hx.weaken (fun _ _ x => x.elim), .inr rfl⟩
    · rw[hh] at U8
      have U8 : fz = m := U8
      subst U8
      refine⟨Cy (Af s.hp fz) β Y, fun b hb => ?_, Lh, .inl fun _ x => x⟩
      rcases hb with⟨id, ob, hl, hβ⟩ | hY
      · exact hf.blt id b ob (Co hl) hβ
      · exact Nat.lt_of_lt_of_le (h.Ylt b hY) h.fr.step.size
  obtain⟨Yc, Axx, hYargs, hYA⟩ := hYc
  unfold Oper.wp
  rw[Ch hfn hfb]
  show Calls P f _ w _
  have hca : c.args.map a.eval = (c.args.toList.map a.eval).toArray := by rw[← List.map_toArray, Array.toArray_toList]
  rw[hca]
  refine (Xd w Yc LY _ (JW Axx hYargs) (Iw.fr w h.fr) (fun b x => ⟨Nat.lt_of_lt_of_le (Iw.y b x).1 h.fr.step.size, Mz b⟩)).mono ?_
  rintro e w' ⟨vs, own, rfl, Rh⟩
  refine hn (Gx vs) w' fun L5 => ⟨Wa N (o.dst.getD 0) bs own β, ?_⟩
  obtain⟨ha1, Io⟩ := Bk L5
  have ZK : ∀ i bx, (i, bx) ∈ bs -> Af s.hp fz i = none := fun i bx hm => Dq.2 (ha1 i bx hm)
  obtain⟨XD, hg2⟩ := Dx (hp := Af s.hp fz) Io
  have hold : ∀ i, Af s.hp fz i ≠ none -> Wa N (o.dst.getD 0) bs own β i = β i := by
    intro i hi
    unfold Wa
    rw[if_neg]
    intro hx
    obtain⟨bx, hm⟩ := GY.1 hx
    exact hi (ZK i bx hm)
  obtain⟨Ob, hba⟩ := hws w' _ own (Wa N (o.dst.getD 0) bs own β) w.heap.size 0 vs (fun j hj => by rw[RP hN hj, Nat.zero_add]) Rh.vals
  have Rb : ∀ i bx, (i, bx) ∈ bs -> ∃ j, i = o.dst.getD 0 + N * j ∧ Wa N (o.dst.getD 0) bs own β i = own j := by
    intro i bx hm
    obtain⟨⟨j, rfl, _⟩, _, _⟩ := hba i bx hm
    exact⟨j, rfl, RP hN ⟨bx, hm⟩⟩
  have hAA : Hz P (K3 P o.type) = false ∨ ∀ b, Cy (Ao (Af s.hp fz) bs) (Wa N (o.dst.getD 0) bs own β) Y b -> Yw LY own Yc b := by
    rcases hYA with hYA | hYA
    · refine .inr fun b hb => ?_
      rcases hb with⟨i, ob, hl, hβ⟩ | hY
      · by_cases hi : ∃ bx, (i, bx) ∈ bs
        · obtain⟨bx, hm⟩ := hi
          obtain⟨j, _, h3⟩ := Rb i bx hm
          rw[h3] at hβ
          exact .inl ⟨j, ob, hβ⟩
        · rw[hg2 i (fun bx hm => hi ⟨bx, hm⟩)] at hl
          rw[hold i (Co hl)] at hβ
          exact .inr (.inr (hYA b (.inl ⟨i, ob, hl, hβ⟩)))
      · exact .inr (.inr (hYA b (.inr hY)))
    · exact .inl hYA
  have hval : D1 w' (Cy (Ao (Af s.hp fz) bs) (Wa N (o.dst.getD 0) bs own β) Y) (Wa N (o.dst.getD 0) bs own β) (Km ws (Lu P o.type)) (Gx vs) := by
    have Lh : Bd (Gs w' (Cy (Ao (Af s.hp fz) bs) (Wa N (o.dst.getD 0) bs own β) Y) (Wa N (o.dst.getD 0) bs own β)) ws vs := by
      rcases hAA with GC | hAA
      · obtain⟨_, MQ⟩ := LD GC
        refine Ob.mono_mem fun v hv u hvu => ?_
        have MQ := MQ v hv
        cases v with
        | agg cs =>
          obtain⟨xs, rfl, Z8⟩ := hvu
          refine⟨xs, rfl, Z8.mono_mem fun cc hcc x hx => ?_⟩
          obtain⟨y, rfl⟩ := MQ cc hcc
          have := Ar.val (w := w') hx
          subst this
          exact Ar.sc _
        | sc y =>
          have := Ar.val (w := w') hvu
          subst this
          exact Ar.sc _
        | lst z es n cc => obtain⟨y, hy⟩ := MQ _ (List.mem_singleton_self _); cases hy
        | own es n cc => obtain⟨y, hy⟩ := MQ _ (List.mem_singleton_self _); cases hy
        | view i es n cc => obtain⟨y, hy⟩ := MQ _ (List.mem_singleton_self _); cases hy
        | ptr i cc => obtain⟨y, hy⟩ := MQ _ (List.mem_singleton_self _); cases hy
        | iptr i cc => obtain⟨y, hy⟩ := MQ _ (List.mem_singleton_self _); cases hy
        | pbox cc => obtain⟨y, hy⟩ := MQ _ (List.mem_singleton_self _); cases hy
        | tup cc => obtain⟨y, hy⟩ := MQ _ (List.mem_singleton_self _); cases hy
        | top => obtain⟨y, hy⟩ := MQ _ (List.mem_singleton_self _); cases hy
        | ub => obtain⟨y, hy⟩ := MQ _ (List.mem_singleton_self _); cases hy
      · exact Ob.mono fun v u hvu => hvu.step (B4.refl _ _) (fun b _ => hAA b) (fun _ _ => rfl)
    have Db := Lh.len
    cases hT : Lu P o.type
    · rw[hT] at Mg
      have h1 : ws.length = 1 := Nat.eq_of_beq_eq_true Mg
      match ws, vs, h1, Db with
      | [v], [u], _, _ =>
        exact (Lv (PJ v (by simp))).2 Lh.1
    · rw[hT] at Mg
      have h1 : ¬ ws.length = 1 := by
        intro e
        rw[e] at Mg
        cases Mg
      have hr : Gx vs = .tuple ⟨vs⟩ := by
        unfold Gx
        split
        · simp at Db; omega
        · rfl
      rw[hr]
      exact⟨vs, rfl, Lh⟩
  refine⟨Rh.os, Rh.tape, Rh.output, Rh.ext.weaken (fun b _ hb => Mz b hb), hold, ?_, ?_, ?_, ?_, ?_, hval, ?_⟩
  · intro i bx hm
    exact (hba i bx hm).2.1
  · intro i bx hm
    rcases hAA with GC | hAA
    · rw[(LD GC).1] at hm; cases hm
    · exact (hba i bx hm).2.2.1.step' hAA
  · intro i bx b ob hm hβ
    obtain⟨j, _, h3⟩ := Rb i bx hm
    rw[h3] at hβ
    obtain⟨h4, h5⟩ := Rh.fresh j b ob hβ
    refine⟨?_, h4⟩
    rcases Nat.lt_or_ge b w.heap.size with h | h
    · obtain⟨⟨_, _, _, h6⟩, _⟩ := h5 h
      cases h6
    · exact h
  · intro i bx i' bx' b ob ob' hm H8 hβ hβ'
    obtain⟨j, h1, h3⟩ := Rb i bx hm
    obtain⟨j', FK, h3'⟩ := Rb i' bx' H8
    rw[h3] at hβ
    rw[h3'] at hβ'
    rw[h1, FK, Rh.inj j j' b ob ob' hβ hβ']
  · intro i cells hm c hc i' MO
    exact .inr (OU i cells hm c hc i' MO)
  · intro i hi
    right
    cases hT : Lu P o.type
    · rw[hT] at Mg hi
      have h1 : ws.length = 1 := Nat.eq_of_beq_eq_true Mg
      match ws, h1 with
      | [v], _ =>
        refine hrs v (by simp) i ?_
        have : Bq v = B8 v := by
          have hn := PJ v (by simp)
          cases v <;> first | rfl | exact absurd rfl (hn _)
        rw[← this]
        exact hi
    · rw[hT] at hi
      obtain⟨v, hv, hi⟩ := List.mem_flatMap.1 (show i ∈ ws.flatMap B8 from hi)
      exact hrs v hv i hi
end
open Go.RowKit
section
variable {R:Type} {r:R} {P:Program} {N:Nat} {w0:World} {X0:Gv} {Y:Nat->Prop} {β β':Bt} {s:St} {a:Act} {w w':World} {o:Oper} {A:Nat->Prop}
theorem Cl.move (h:Cl N w0 X0 Y β s a w){id d:Nat}{c cells:List PV}{bo:Option (Nat × Nat)} {v:PV}{val:Value}(h0:s.hp id=some (.ar false c)) (hd:s.hp d=none)(XI:d<N)
  (hos:w'.os=w.os)(htp:w'.tape=w.tape)(Rh:w'.output=w.output)(IK:w.heap.size<=w'.heap.size)
  (I9:∀k,k<w.heap.size->(∀x,β id≠some (k,x))->w'.heap[k]?=w.heap[k]?) (AF:∀k,k<w.heap.size->Gi w w' k)
  (EQ:∀k x,bo=some (k,x)->k<w'.heap.size∧(w.heap.size<=k∨∃y,β id=some (k,y)))
  (HZ:∀k x,bo=some (k,x)->k<w.heap.size->β id=some (k,x))
  (hO:∀k y,β id=some (k,y)->k<w.heap.size->∀j,j<y->w'.cell? ⟨k,j,none⟩=w.cell? ⟨k,j,none⟩∧w'.frozen? ⟨k,j,none⟩=w.frozen? ⟨k,j,none⟩)
  (Jh:Nv w' (Cy (Ci (Ci s.hp id (some .mv)) d (some (.ar false cells))) (Ci β d bo) Y) (Ci β d bo) d (.ar false cells))
  (hv:D1 w' (Cy (Ci (Ci s.hp id (some .mv)) d (some (.ar false cells))) (Ci β d bo) Y) (Ci β d bo) v val) (hr:∀i∈Bq v,i=d):
  Cl N w0 X0 Y (Ci β d bo) ⟨Ci s.tm d v,Ci (Ci s.hp id (some .mv)) d (some (.ar false cells))⟩ (a.put (some d) val) w':=by
 have Ek:id≠d:=by rintro rfl;rw[h0] at hd;cases hd
 have JM:∀i,i≠id->i≠d->Ci (Ci s.hp id (some Bm.mv)) d (some (.ar false cells)) i=s.hp i:=fun i h1 h2=>by rw[Ah _ _ h2,Ah _ _ h1]
 have Adf:Ci (Ci s.hp id (some Bm.mv)) d (some (.ar false cells)) id=some .mv:=by rw[Ah _ _ Ek,Ak]
 have hgd:Ci (Ci s.hp id (some Bm.mv)) d (some (.ar false cells)) d=some (.ar false cells):=Ak _ _ _
 have Lj:∀i,s.hp i≠none->Ci (Ci s.hp id (some Bm.mv)) d (some (.ar false cells)) i≠none:=by
  intro i hi;by_cases e:i=id
  ·subst e;rw[Adf];simp
  ·by_cases e':i=d
   ·subst e';rw[hgd];simp
   ·rw[JM i e e'];exact hi
 have hβo:∀i,s.hp i≠none->Ci β d bo i=β i:=fun i hi=>Ah _ _ (by rintro rfl;exact hi hd)
 have IH:Cx (s.hp id):=by rw[h0];trivial
 have Fq:∀i,Cx (Ci (Ci s.hp id (some Bm.mv)) d (some (.ar false cells)) i)->i=d∨(i≠id∧i≠d∧Cx (s.hp i)):=by
  intro i hi;by_cases e':i=d
  ·exact .inl e'
  ·by_cases e:i=id
   ·subst e;rw[Adf] at hi;exact hi.elim
   ·rw[JM i e e'] at hi;exact .inr ⟨e,e',hi⟩
 have hX:∀k,k<w.heap.size->HA (Ci (Ci s.hp id (some .mv)) d (some (.ar false cells))) (Ci β d bo) k->HA s.hp β k:=by
  rintro k hk ⟨i,x,hl,hβ⟩
  rcases Fq i hl with rfl|⟨e,e',hl⟩
  ·rw[Ak] at hβ;rcases (EQ k x hβ).2 with Jf|⟨y,hy⟩
   ·omega
   ·exact⟨id,y,IH,hy⟩
  ·rw[Ah _ _ e'] at hβ;exact⟨i,x,hl,hβ⟩
 have hAo:∀k,k<w.heap.size->Cy (Ci (Ci s.hp id (some .mv)) d (some (.ar false cells))) (Ci β d bo) Y k->Cy s.hp β Y k:=fun k hk hx=>hx.imp (hX k hk) (fun y=>y)
 have Fd:B4 (Cy s.hp β Y) w w':=⟨IK,fun k hk hn=>I9 k hk fun x hx=>hn (.inl ⟨id,x,IH,hx⟩),AF⟩
 have Aah:∀i k x,i≠id->i≠d->(∃b,s.hp i=some b∧b ≠ .mv)->β i=some (k,x)->k<w.heap.size∧w'.heap[k]?=w.heap[k]?:=by
  rintro i k x e e' ⟨b,hb,hmv⟩ hβ
  have hk:=h.blt i k x (by rw[hb];simp) hβ
  refine⟨hk,I9 k hk fun y hy=>?_⟩
  have VI:=h.box i b hb;cases b with
  |st cc=>exact e (h.inj i id k x y (by rw[hb];trivial) IH hβ hy)
  |ar fz cc=>
   cases fz with
   |false=>exact e (h.inj i id k x y (by rw[hb];trivial) IH hβ hy)
   |true=>
    rcases VI with⟨h1,_⟩|⟨k',x',h1,_,_,h4⟩
    ·rw[hβ] at h1;cases h1
    ·rw[hβ] at h1;simp at h1;obtain⟨rfl,rfl⟩:=h1
     exact h4 rfl (.inl ⟨id,y,IH,hy⟩)
  |mv=>exact absurd rfl hmv
 refine⟨by rw[Nc];exact h.dfr,by rw[Sb];exact h.tsz,?_,?_,?_,?_,?_,?_,?_,?_,?_,?_,?_,?_,h.Ylt,?_⟩
 ·intro i hi;show Ci s.tm d v i=_;rw[Ah _ _ (by omega)]
  exact h.tmo i hi
 ·refine Ly (d:=some d) (Q:=fun _ p u=>D1 w' (Cy (Ci (Ci s.hp id (some .mv)) d (some (.ar false cells))) (Ci β d bo) Y) (Ci β d bo) p u) h.tsz (by simp[Fi,Nat.blt];omega) (fun i hi=>?_) (fun _=>hv)
  exact (h.tms i hi).step Fd hAo fun j hj=>hβo j (h.wfT i hi j hj)
 ·intro i bi hb;simp only at hb;by_cases e':i=d
  ·subst e';rw[hgd] at hb;cases hb;exact Jh
  ·by_cases e:i=id
   ·subst e;rw[Adf] at hb;cases hb;trivial
   ·rw[JM i e e'] at hb;have hβi:=hβo i (by rw[hb];simp)
    have Wd:=h.box i bi hb;cases bi with
    |st cc=>
     obtain⟨k,x,h1,h2,h3⟩:=Wd;obtain⟨hk,Nf⟩:=Aah i k x e e' ⟨_,hb,by simp⟩ h1
     refine⟨k,x,by rw[hβi];exact h1,fun j p hj=>?_,fun j hj=>?_⟩
     ·obtain⟨u,hu,hc⟩:=h2 j p hj;exact⟨u,by rw[World.cell?_of_block (w:=w) Nf];exact hu,hc.step Fd hAo fun q hq=>hβo q (h.wfB i cc hb p (List.mem_of_getElem? hj) q hq)⟩
     ·rw[World.frozen?_of_block (w:=w) Nf];exact h3 j hj
    |ar fz cc=>
     rcases Wd with⟨h1,h2⟩|⟨k,x,h1,h2,h3,h4⟩
     ·exact .inl ⟨by rw[hβi];exact h1,h2⟩
     ·obtain⟨hk,Nf⟩:=Aah i k x e e' ⟨_,hb,by simp⟩ h1
      refine .inr ⟨k,x,by rw[hβi];exact h1,fun j p hj=>?_,fun ef j hj Og=>?_,fun ef hx=>h4 ef (hAo k hk hx)⟩
      ·obtain⟨u,hu,h5,hc⟩:=h2 j p hj;exact⟨u,by rw[World.cell?_of_block (w:=w) (by rw[Ef];exact Nf)];exact hu,h5,hc.step Fd hAo⟩
      ·rw[World.frozen?_of_block (w:=w) Nf];refine h3 ef j hj ?_;unfold bsz at Og ⊢;rw[Nf] at Og;exact Og
    |mv=>trivial
 ·intro i i' k x y hl Ib hb G1;simp only at hl Ib
  have key:∀j z,j≠id->j≠d->Cx (s.hp j)->β j=some (k,z)->bo=some (k,y)∨bo=some (k,x)->False:=by
   intro j z e e' hlj hβj hbk;have hk:=h.blt j k z (Co hlj) hβj;have:∃t,bo=some (k,t):=by rcases hbk with q|q<;>exact⟨_,q⟩
   obtain⟨t,ht⟩:=this;rcases (EQ k t ht).2 with Jf|⟨q,hq⟩
   ·omega
   ·exact e (h.inj j id k z q hlj IH hβj hq)
  rcases Fq i hl with rfl|⟨e,e',YA⟩
  ·rcases Fq i' Ib with rfl|⟨e2,e2',Aiq⟩
   ·rfl
   ·rw[Ak] at hb;rw[Ah _ _ e2'] at G1;exact (key i' y e2 e2' Aiq G1 (.inr hb)).elim
  ·rcases Fq i' Ib with rfl|⟨e2,e2',Aiq⟩
   ·rw[Ak] at G1;rw[Ah _ _ e'] at hb;exact (key i x e e' YA hb (.inl G1)).elim
   ·rw[Ah _ _ e'] at hb;rw[Ah _ _ e2'] at G1;exact h.inj i i' k x y YA Aiq hb G1
 ·intro i k x hi hb;simp only at hi;by_cases e':i=d
  ·subst e';rw[Ak] at hb;exact (EQ k x hb).1
  ·rw[Ah _ _ e'] at hb
   have MO:s.hp i≠none:=by
    by_cases e:i=id
    ·subst e;rw[h0];simp
    ·rw[JM i e e'] at hi;exact hi
   exact Nat.lt_of_lt_of_le (h.blt i k x MO hb) IK
 ·have:=Ly (d:=some d) (Q:=fun _ p _=>∀j∈Bq p,Ci (Ci s.hp id (some Bm.mv)) d (some (.ar false cells)) j≠none) (val:=val) (v:=v) h.tsz (by simp[Fi,Nat.blt];omega) (fun i hi j hj=>Lj j (h.wfT i hi j hj)) (fun _ j hj=>by
   rw[hr j hj,hgd];simp)
  exact this
 ·intro i cc hc p hp j hj;simp only at hc;by_cases e':i=d
  ·subst e';rw[hgd] at hc;cases hc
  ·by_cases e:i=id
   ·subst e;rw[Adf] at hc;cases hc
   ·rw[JM i e e'] at hc;exact Lj j (h.wfB i cc hc p hp j hj)
 ·rintro k ⟨i,x,hl,hβ⟩
  rcases Fq i hl with rfl|⟨e,e',hl⟩
  ·rw[Ak] at hβ;rcases (EQ k x hβ).2 with Jf|⟨y,hy⟩
   ·exact .inr (Nat.le_trans h.fr.step.size Jf)
   ·exact h.ownd k ⟨id,y,IH,hy⟩
  ·rw[Ah _ _ e'] at hβ;exact h.ownd k ⟨i,x,hl,hβ⟩
 ·intro i bi k x Wd hli hβ B6 j hj;simp only at Wd;rcases Fq i (by rw[Wd];exact hli) with rfl|⟨e,e',hl⟩
  ·rw[Ak] at hβ;rw[hgd] at Wd;cases Wd;have:=HZ k x hβ (Nat.lt_of_lt_of_le B6 h.fr.step.size);exact h.rngB id (.ar false c) k x h0 trivial this B6 j hj
  ·rw[JM i e e'] at Wd;rw[Ah _ _ e'] at hβ;exact h.rngB i bi k x Wd hli hβ B6 j hj
 ·intro i hi;exact⟨Lj _ (h.pin i hi).1,by rw[hβo _ (h.pin i hi).1];exact (h.pin i hi).2⟩
 ·intro i cc k x Wd hβ B6;simp only at Wd;rcases Fq i (by rw[Wd];trivial) with rfl|⟨e,e',hl⟩
  ·rw[hgd] at Wd;cases Wd
  ·rw[JM i e e'] at Wd;rw[Ah _ _ e'] at hβ;exact h.stp i cc k x Wd hβ B6
 ·intro k hY hx;exact h.Yx k hY (hX k (Nat.lt_of_lt_of_le (h.Ylt k hY) h.fr.step.size) hx)
 ·refine⟨hos.trans h.fr.os,htp.trans h.fr.tape,Rh.trans h.fr.output,⟨Nat.le_trans h.fr.step.size IK,fun k hk hnk=>?_,fun k hk=>(h.fr.step.bs k hk).trans (AF k (Nat.lt_of_lt_of_le hk h.fr.step.size))⟩,fun k j hk hL=>?_⟩
  ·rw[I9 k (Nat.lt_of_lt_of_le hk h.fr.step.size) ?_]
   ·exact h.fr.step.keep k hk hnk
   ·intro x hx;rcases h.ownd k ⟨id,x,IH,hx⟩ with hq|hq
    ·exact hnk hq
    ·omega
  ·have hkw:=Nat.lt_of_lt_of_le hk h.fr.step.size
   have Vp:w'.cell? ⟨k,j,none⟩=w.cell? ⟨k,j,none⟩∧w'.frozen? ⟨k,j,none⟩=w.frozen? ⟨k,j,none⟩:=by
    by_cases e:∃y,β id=some (k,y)
    ·obtain⟨y,hy⟩:=e;refine hO k y hy hkw j ?_;rcases Nat.lt_or_ge j y with q|q
     ·exact q
     ·exact absurd (h.rngB id (.ar false c) k y h0 trivial hy hk j q) hL
    ·have Nf:=I9 k hkw (fun x hx=>e ⟨x,hx⟩)
     exact⟨World.cell?_of_block (w:=w) Nf,World.frozen?_of_block (w:=w) Nf⟩
   rw[Vp.1,Vp.2];exact h.fr.rng k j hk hL
end
open Go.RowKit
section
variable {R:Type} {r:R} {P:Program} {N:Nat} {w0:World} {X0:Gv} {Y:Nat->Prop} {β β':Bt} {s:St} {a:Act} {w w':World} {o:Oper} {A:Nat->Prop}
structure Src (P:Program) (w:World) (A:Nat->Prop) (size:Nat) (xv:Value) (m:Nat) (new:List PV) (news:List Value):Prop where
 len:∀w':World,(Builtin.lenOf xv).run P w'=.ok m w'
 cells:∀w':World,(∀b,b<w.heap.size->w'.heap[b]?=w.heap[b]?)->(Builtin.firstCells size m xv).run P w'=.ok news.toArray w'
 part:∀k,k<=m->(Builtin.firstCells size k xv).run P w=.ok (news.take (k*size)).toArray w
 one:∀u∈news,u.oneCell'=true
 rep:Bd (Ar w A) new news
theorem Zv (h:Cl N w0 X0 Y β s a w){e tx:TypeId}{x:Operand}{K:Nat->List PV->Option R}(hk:OO P s (A8 P e) tx (Bw s.tm x) K=some r)
  (h1c:∀m new,K m new=some r->new.length=m*A8 P e):
  (∃d,P.underlying tx=some d∧(∀k,d ≠ .int k))∧∃m new news,K m new=some r∧Src P w (Cy s.hp β Y) (A8 P e) (a.eval x) m new news:=by
 unfold OO OH at hk;split at hk
 ·rename_i hu;obtain⟨Qn,hk⟩:=Aj hk;have Qn:=Nat.eq_of_beq_eq_true Qn;obtain⟨b,hx,hk⟩:=Dc hk;have C4:=B2 h hx;refine⟨⟨_,hu,by simp⟩,b.size,Mr b,b.data.toList.map (fun y=>Value.int .u8 y.toNat),hk,?_,?_,?_,?_,?_⟩
  ·intro w';rw[C4];rfl
  ·intro w' _;rw[C4]
   have hx:b.data.extract 0 b.size=b.data:=by
    have:b.size=b.data.size:=rfl;rw[this,Array.extract_size]
   have hd:(b.extract 0 b.size).data=b.data:=by
    rw[ByteArray.extract_zero_size]
   simp only[Builtin.firstCells,hd];rw[←Array.toList_map,Array.toArray_toList];rfl
  ·intro k Jf;rw[C4,Qn,Nat.mul_one];have hd:(b.extract 0 k).data=b.data.extract 0 k:=ByteArray.data_extract
   have e1:(b.data.extract 0 k).map (fun y=>Value.int .u8 y.toNat)=((b.data.toList.map fun y=>Value.int .u8 y.toNat).take k).toArray:=by
    apply Array.toList_inj.1;simp[List.map_take]
   simp only[Builtin.firstCells,hd];rw[e1];rfl
  ·intro u hu;simp at hu;obtain⟨y,_,rfl⟩:=hu;rfl
  ·unfold Mr;generalize b.data.toList=l
   induction l with
   |nil=>trivial
   |cons y l ih=>exact⟨Ar.sc _,ih⟩
 ·rename_i e' hu;refine⟨⟨_,hu,by simp⟩,?_⟩
  obtain⟨m,new,hk,hc⟩:=Xr h hk;have Db:=h1c m new hk;rcases hc with⟨⟨ad,C4⟩,rfl,rfl⟩|⟨ad,cap,C4,hn,B6,XG⟩
  ·have f0:∀w':World,(Builtin.firstCells (A8 P e) 0 (.slice ad 0 0)).run P w'=.ok #[] w':=fun w'=>by
    cases ad with
    |none=>rfl
    |some p=>exact run_firstCells_some (P:=P) w' (A8 P e) 0 p 0 0 [] (by simp) (fun j v hj=>by simp at hj)
   exact⟨0,[],[],hk,fun w'=>by rw[C4];rfl,fun w' _=>by rw[C4];exact f0 w',fun k Jf=>by rw[C4,Nat.le_zero.1 Jf,List.take_nil];exact f0 w,by simp,trivial⟩
  ·refine⟨m,new,new.mapIdx (fun j _=>(w.cell? (ad.add j)).getD undef),hk,fun w'=>by rw[C4];rfl,fun w' hw=>?_,fun k Jf=>?_,?_,?_⟩
   ·rw[C4];refine run_firstCells_some (P:=P) w' (A8 P e) m ad m cap _ (by simp[Db]) fun j v hj=>?_
    rw[List.getElem?_mapIdx] at hj;cases hc:new[j]? with
    |none=>rw[hc] at hj;cases hj
    |some c=>
     rw[hc] at hj;simp at hj;obtain⟨u,hu,_⟩:=XG j c hc;rw[hu] at hj;simp at hj;subst hj;have B6:ad.block<w.heap.size:=by rcases B6 with rfl|B6<;>first|exact B6|simp at hc
     rw[World.cell?_of_block (w:=w) (by rw[Ef];exact hw _ B6)]
     exact hu
   ·rw[C4];have hkm:k*A8 P e<=m*A8 P e:=Nat.mul_le_mul_right _ Jf;refine run_firstCells_some (P:=P) w (A8 P e) k ad m cap _ (by rw[List.length_take,List.length_mapIdx,Db];omega) fun j v hj=>?_
    rw[List.getElem?_take] at hj;split at hj
    ·rw[List.getElem?_mapIdx] at hj;cases hc:new[j]? with
     |none=>rw[hc] at hj;cases hj
     |some c=>
      rw[hc] at hj;simp at hj;obtain⟨u,hu,_⟩:=XG j c hc;rw[hu] at hj;simp at hj;subst hj;exact hu
    ·cases hj
   ·intro u hu;obtain⟨j,hj⟩:=List.mem_iff_getElem?.1 hu;rw[List.getElem?_mapIdx] at hj;cases hc:new[j]? with
    |none=>rw[hc] at hj;cases hj
    |some c=>
     rw[hc] at hj;simp at hj;obtain⟨v,hv,h2,ht⟩:=XG j c hc;rw[hv] at hj;simp at hj;subst hj;exact h2
   ·refine Bd.of_at (by simp) fun j c v hc hj=>?_
    rw[List.getElem?_mapIdx,hc] at hj;simp at hj;obtain⟨u,hu,_,ht⟩:=XG j c hc;rw[hu] at hj;simp at hj;subst hj;exact ht
 ·cases hk
theorem Z6 {e:TypeId}(h:EV P e=true):∃i z,P.info? e=some i∧i.zero=some z∧z.cells.size=i.size∧A8 P e=i.size:=by
 unfold EV at h;split at h
 ·rename_i i hi;split at h
  ·rename_i z hz;exact⟨i,z,hi,hz,Nat.eq_of_beq_eq_true h,by simp[A8,hi]⟩
  ·cases h
 ·cases h
theorem Wf {es n cap:Nat}{ad:Option Addr}{olds:List Value}(h:(ad=none∧olds=[])∨∃p,ad=some p∧olds.length=n*es∧∀(j:Nat) v,olds[j]?=some v->w.cell? (p.add j)=some v):
  (Builtin.firstCells es n (.slice ad n cap)).run P w=.ok olds.toArray w:=by
 rcases h with⟨rfl,rfl⟩|⟨p,rfl,hl,hc⟩
 ·rfl
 ·exact run_firstCells_some (P:=P) w es n p n cap olds hl hc
theorem Jk {t tx ty e:TypeId}{i:TypeInfo}{z:Value}{d:TypeDesc}{ts:List TypeId}(ht:P.underlying t=some (.slice e)) (TF:P.underlying tx=some d)(hd:∀k,d ≠ .int k)(hi:P.info? e=some i)(hz:i.zero=some z)
  {ad:Option Addr} {n cap m:Nat} {xv:Value} {olds news:List Value} {A:Nat->Prop} {new:List PV} (hs:Src P w A i.size xv m new news)
  (hold:(ad=none∧olds=[])∨∃p,ad=some p∧olds.length=n*i.size∧∀(j:Nat) v,olds[j]?=some v->w.cell? (p.add j)=some v)
  (hg:cap<n+m)(hb:(n+m)*i.bytes<=1099511627776) (h63:n+m<=1099511627776):
  (Builtin.append_ (t::tx::ts).toArray ty #[.slice ad n cap,xv]).run P w =
   .ok (.slice (some ⟨w.heap.size,0,none⟩) (n+m) (grownCap w (n+m) cap e)) (w.drew.alloc (.cells (olds.toArray++news.toArray++Builtin.zeroCells z.cells (grownCap w (n+m) cap e-(n+m))) e)):=by
 have h1:=hs.len w;have h2:(Builtin.firstCells i.size m xv).run P w.drew=.ok news.toArray w.drew:=hs.cells w.drew (fun _ _=>rfl)
 have h3:(Builtin.firstCells i.size n (.slice ad n cap)).run P w.drew=.ok olds.toArray w.drew:=Wf (w:=w.drew) (by
  rcases hold with hh|⟨p,hp,hl,hc⟩
  ·exact .inl hh
  ·exact .inr ⟨p,hp,hl,fun j v hj=>hc j v hj⟩)
 have Aq6:=growslice_fits (need:=n+m) (old:=cap) (bytes:=i.bytes) hg (by omega)
 have hn:¬(n+m<=cap):=by omega
 have Ae1:¬(9223372036854775807<((n:Int)+(m:Int))):=by omega
 have Ac7:¬(281474976710656<Builtin.nextslicecap (n+m) cap*i.bytes):=by omega
 have Yb:(match d with | .int _=>true|_=>false)=false:=by cases d<;>first|rfl|exact absurd rfl (hd _)
 simp[Builtin.append_,run_underlying ht,run_underlying TF,Yb,sizeOf,typeInfo,zeroValue,hi,hz,h1,hn,Ae1,Ac7,Question.forced,h2,h3,newRow,grownCap]
 congr 2
 apply Array.ext';simp[List.append_assoc]
theorem Wm {t tx ty e:TypeId}{i:TypeInfo}{d:TypeDesc}{ts:List TypeId}(ht:P.underlying t=some (.slice e)) (TF:P.underlying tx=some d)(hd:∀k,d ≠ .int k)(hi:P.info? e=some i)
  {b ob n cap m:Nat} {xv:Value} {news:List Value} {A:Nat->Prop} {new:List PV} (hs:Src P w A i.size xv m new news) (hl:news.length=m*i.size)
  (Cr:∀k,k<news.length->(w.cell? ⟨b,ob+n*i.size+k,none⟩).isSome=true) (XB:∀k,k<news.length->w.frozen? ⟨b,ob+n*i.size+k,none⟩=false)(hg:n+m<=cap):
  (Builtin.append_ (t::tx::ts).toArray ty #[.slice (some ⟨b,ob,none⟩) n cap,xv]).run P w=.ok (.slice (some ⟨b,ob,none⟩) (n+m) cap) (w.setCells b (ob+n*i.size) news):=by
 have h1:=hs.len w;have h2:(Builtin.firstCells i.size m xv).run P w=.ok news.toArray w:=hs.cells w (fun _ _=>rfl)
 have h3:=run_storeCells_cells (P:=P) b (ob+n*i.size) news 0 w (fun k hk=>by simpa using Cr k hk) (fun k hk=>by simpa using XB k hk) hs.one
 have Yb:(match d with | .int _=>true|_=>false)=false:=by cases d<;>first|rfl|exact absurd rfl (hd _)
 have _:=hl;simp[Builtin.append_,run_underlying ht,run_underlying TF,Yb,sizeOf,typeInfo,hi,h1,hg,h2,D5];rw[h3];simp
theorem MA {t ty e:TypeId}{i:TypeInfo}{ts:List TypeId}(ht:P.underlying t=some (.slice e)) (hi:P.info? e=some i)
  {ad:Option Addr} {n cap m:Nat} {xv:Value} {news:List Value} {A:Nat->Prop} {new:List PV} (hs:Src P w A i.size xv m new news)
  {w1:World} (Fd:(match ad with|some p=>storeCells p (news.take (min m n*i.size)) 0|none=>pure ()).run P w=.ok () w1):
  (Builtin.copy_ (t::ts).toArray ty #[.slice ad n cap,xv]).run P w=.ok (goInt ((min m n:Nat):Int)) w1:=by
 have h1:=hs.len w;have h2:=hs.part (min m n) (Nat.min_le_left _ _);have e:Nat.min m n=min m n:=rfl;generalize min m n=k at *
 cases ad with
 |none=>
  simp only at Fd;simp[Builtin.copy_,run_underlying ht,sizeOf,typeInfo,hi,h1,h2,e]
  simpa using Fd
 |some p=>
  simp only at Fd;simp[Builtin.copy_,run_underlying ht,sizeOf,typeInfo,hi,h1,h2,e,Fd]
theorem Un {t tx ty e:TypeId}{i:TypeInfo}{k kx:IntKind}{ts:List TypeId}(ht:P.underlying t=some (.slice e)) (TF:P.underlying tx=some (.int k)) (hi:P.info? e=some i):
  (Builtin.append_ (t::tx::ts).toArray ty #[.slice none 0 0,.int kx 0]).run P w=.ok (.slice none 0 0) w:=by
 have hw:IntKind.i64.wrap 0=0:=by decide
 simp[Builtin.append_,run_underlying ht,run_underlying TF,sizeOf,typeInfo,hi,asInt,asIntOf,hw]
theorem Wp {t tx ty e:TypeId}{i:TypeInfo}{z:Value}{k kx:IntKind}{ts:List TypeId}(ht:P.underlying t=some (.slice e)) (TF:P.underlying tx=some (.int k)) (hi:P.info? e=some i)(hz:i.zero=some z)
  {n:Int} (h0:0<n) (hb:n.toNat*i.bytes<=1099511627776) (hn:n<=1099511627776):
  (Builtin.append_ (t::tx::ts).toArray ty #[.slice none 0 0,.int kx n]).run P w =
   .ok (.slice (some ⟨w.heap.size,0,none⟩) n.toNat (grownCap w n.toNat 0 e)) (w.drew.alloc (.cells ((if n.toNat*i.size=0 then #[] else Builtin.zeroCells z.cells n.toNat)++Builtin.zeroCells z.cells (grownCap w n.toNat 0 e-n.toNat)) e)):=by
 have hw:IntKind.i64.wrap n=n:=IntWalk.i64_in n (by omega)
 have Aq6:=growslice_fits (need:=n.toNat) (old:=0) (bytes:=i.bytes) (by omega) (by omega)
 have Tu:¬n<0:=by omega
 have Lj:¬(281474976710656<n*(i.bytes:Int)):=by
  have:n*(i.bytes:Int)=((n.toNat*i.bytes:Nat):Int):=by
   rw[Int.natCast_mul,Int.toNat_of_nonneg (by omega)]
  omega
 have Fz:¬(n.toNat=0):=by omega
 have Ae1:¬(9223372036854775807<(n.toNat:Int)):=by omega
 have Ac7:¬(281474976710656<Builtin.nextslicecap n.toNat 0*i.bytes):=by omega
 have Wg:¬n<=0:=by omega
 have hmx:¬(9223372036854775807<max n 0):=by omega
 by_cases hs:n.toNat*i.size=0
 ·simp[Builtin.append_,run_underlying ht,run_underlying TF,sizeOf,typeInfo,zeroValue,hi,hz,asInt,asIntOf,hw,Tu,Lj,Fz,Wg,hmx,Ae1,Ac7,Question.forced,hs,newRow,grownCap,Builtin.firstCells]
 ·simp[Builtin.append_,run_underlying ht,run_underlying TF,sizeOf,typeInfo,zeroValue,hi,hz,asInt,asIntOf,hw,Tu,Lj,Fz,Wg,hmx,Ae1,Ac7,Question.forced,hs,newRow,grownCap,Builtin.firstCells]
theorem Jp {t tx ty e:TypeId}{i:TypeInfo}{d:TypeDesc}{ts:List TypeId}(ht:P.underlying t=some (.slice e)) (TF:P.underlying tx=some d)(hd:∀k,d ≠ .int k)(hi:P.info? e=some i)
  {ad:Option Addr} {xv:Value} {news:List Value} {A:Nat->Prop} {new:List PV} (hs:Src P w A i.size xv 0 new news) (h0:news=[]):
  (Builtin.append_ (t::tx::ts).toArray ty #[.slice ad 0 0,xv]).run P w=.ok (.slice ad 0 0) w:=by
 subst h0;have h1:=hs.len w;have h2:(Builtin.firstCells i.size 0 xv).run P w=.ok ([]:List Value).toArray w:=hs.cells w (fun _ _=>rfl)
 have Yb:(match d with | .int _=>true|_=>false)=false:=by cases d<;>first|rfl|exact absurd rfl (hd _)
 cases ad<;>simp[Builtin.append_,run_underlying ht,run_underlying TF,Yb,sizeOf,typeInfo,hi,h1,h2,storeCells]
end
open Go.RowKit
section
variable {R:Type} {r:R} {P:Program} {N:Nat} {w0:World} {X0:Gv} {Y:Nat->Prop} {β β':Bt} {s:St} {a:Act} {w w':World} {o:Oper} {A:Nat->Prop}
theorem ZP {b j:Nat}(h:j<bsz w b):(w.cell? ⟨b,j,none⟩).isSome=true:=by
 unfold bsz at h;unfold World.cell?;split at h
 ·rename_i c e fz hb;simp[hb,h]
 ·omega
theorem OK {id d:Nat}{c cells:List PV}{bo:Option (Nat × Nat)} (h0:s.hp id=some (.ar false c)) (hd:s.hp d=none)
  (EQ:∀k x,bo=some (k,x)->w.heap.size<=k∨∃y,β id=some (k,y)):
  ∀k,k<w.heap.size->Cy (Ci (Ci s.hp id (some .mv)) d (some (.ar false cells))) (Ci β d bo) Y k->Cy s.hp β Y k:=by
 rintro k hk (⟨i,x,hl,hβ⟩|hY)
 ·by_cases e':i=d
  ·subst e';rw[Ak] at hβ;rcases EQ k x hβ with h|⟨y,hy⟩
   ·omega
   ·exact .inl ⟨id,y,by rw[h0];trivial,hy⟩
  ·rw[Ah _ _ e'] at hl hβ;by_cases e:i=id
   ·subst e;rw[Ak] at hl;exact hl.elim
   ·rw[Ah _ _ e] at hl;exact .inl ⟨i,x,hl,hβ⟩
 ·exact .inr hY
theorem Zg {pre new:List PV}{olds news:List Value}{zs:Array Value}{e:TypeId}{A':Nat->Prop}(hg:Fj w w' (olds.toArray++news.toArray++zs) e) (hA:∀b,b<w.heap.size->A' b->A b)
  (h1:Bd (Ar w A) pre olds) (h2:Bd (Ar w A) new news) (ho:∀u∈olds,u.oneCell'=true)(hn:∀u∈news,u.oneCell'=true):MT w' A' ⟨w.heap.size,0,none⟩ (pre++new):=by
 refine QK hg hA fun j p hj=>?_
 obtain⟨v,hv,ht⟩:=(h1.app h2).get hj;refine⟨v,?_,?_,ht⟩
 ·have B6:j<(olds++news).length:=by
   rcases Nat.lt_or_ge j (olds++news).length with h|h
   ·exact h
   ·rw[List.getElem?_eq_none h] at hv;cases hv
  rw[Array.getElem?_append_left (by simpa using B6)]
  simpa using hv
 ·rcases List.mem_append.1 (List.mem_of_getElem? hv) with hm|hm
  ·exact ho v hm
  ·exact hn v hm
theorem FA (h:Cl N w0 X0 Y β s a w){c:Call}(ho:o.op=.call c)(hc:c.callee=.builtin .append)(hnb:Ts c=true){d:Nat}(TW:o.dst=some d){b x:Operand}(Eh:c.args.toList=[b,x]) {t tx:TypeId}{ts:List TypeId}(Wk:c.argTypes.toList=t::tx::ts)
  {K:PV->List (Nat × Bm)->Option R} (hk:P4 P (Hx s.hp) d t tx (Bw s.tm x) K=some r):∃v nw,K v nw=some r∧Dw P a w o Y β s v [] nw:=by
 have hb:b=.const (.slice none 0 0):=by
  unfold Ts at hnb;rw[Eh] at hnb;split at hnb
  ·rename_i e;injection e
  ·cases hnb
 have Y1:c.args = #[b,x]:=by
  have:c.args=([b,x]:List Operand).toArray:=by rw[←Eh]
  exact this
 have JQ:c.argTypes=(t::tx::ts).toArray:=by rw[←Wk]
 have L5:a.eval b=.slice none 0 0:=by rw[hb];rfl
 have run:∀{v:Value} {w1:World},(Builtin.append_ (t::tx::ts).toArray o.type #[a.eval b,a.eval x]).run P w=.ok v w1->(execOp a.eval o).run P w=.ok (.value v) w1:=by
  intro v w1 hr;unfold execOp;rw[ho];simp only[resolve,hc,invoke,builtin,Sem.run_bind,Sem.run_pure,Result.andThen_ok,Y1,JQ];have:(#[b,x]:Array Operand).map a.eval = #[a.eval b,a.eval x]:=by simp
  rw[this,hr];rfl
 unfold P4 at hk;split at hk
 ·rename_i e hu;obtain⟨VH,hk⟩:=Aj hk;obtain⟨i,z,hi,hz,hzs,La⟩:=Z6 VH;have Oy:((P.info? e).map (·.bytes)).getD 0=i.bytes:=by rw[hi];rfl
  obtain⟨⟨dx,hdx,KJ⟩,m,new,news,hk,hs⟩:=Zv (s:=s) h hk (fun m new Jf=>by
   obtain⟨hb,_⟩:=Aj Jf;simp only[Bool.and_eq_true,decide_eq_true_eq] at hb;exact hb.1.1)
  obtain⟨G1,hk⟩:=Aj hk;simp only[Bool.and_eq_true,decide_eq_true_eq] at G1;obtain⟨⟨RV,VM⟩,AX⟩:=G1;have ZQ:new.length=news.length:=hs.rep.len;rw[La] at RV hk hs;rw[Oy] at VM;have V0:news.length=m*i.size:=by omega
  refine⟨_,_,hk,by simp,?_⟩
  by_cases hm0:m=0
  ·subst hm0;have hr:=Jp (P:=P) (w:=w) (t:=t) (tx:=tx) (ty:=o.type) (ts:=ts) (ad:=none) hu hdx KJ hi hs (List.eq_nil_of_length_eq_zero (by omega))
   rw[←L5] at hr;have JC:new=[]:=List.eq_nil_of_length_eq_zero (by omega)
   subst JC;refine⟨_,_,run hr,fun ZO=>⟨Ci β d none,?_⟩⟩
   have R3:s.hp d=none:=(Bk ZO).1 d _ (List.mem_singleton_self _);rw[L5];refine⟨rfl,rfl,rfl,B4.refl _ _,fun j hj=>Ah _ _ (by rintro rfl;exact hj R3),?_,?_,?_,?_,?_,.inl ⟨Ak _ _ _,rfl,rfl,none,rfl⟩,?_⟩
   ·intro j bx hm;simp at hm;rw[hm.2];trivial
   ·intro j bx hm;simp at hm;obtain⟨rfl,rfl⟩:=hm;exact .inl ⟨Ak _ _ _,rfl⟩
   ·intro j bx k q hm hq;simp at hm;obtain⟨rfl,rfl⟩:=hm;rw[Ak] at hq;cases hq
   ·intro j bx j' bx' k q q' hm H8 _ _;simp at hm H8;rw[hm.1,H8.1]
   ·intro j cells hm;simp at hm
   ·intro j hj;simp[Bq,B8,Al] at hj;subst hj;exact .inr ⟨.ar false [],by simp⟩
  ·have hr:=Jk (P:=P) (w:=w) (t:=t) (tx:=tx) (ty:=o.type) (ts:=ts) (ad:=none) (n:=0) (cap:=0) (olds:=[]) hu hdx KJ hi hz hs (.inl ⟨rfl,rfl⟩) (by omega) (by rw[Nat.zero_add];exact VM) (by omega)
   rw[←L5] at hr;refine⟨_,_,run hr,fun ZO=>⟨Ci β d (some (w.heap.size,0)),?_⟩⟩
   have R3:s.hp d=none:=(Bk ZO).1 d _ (List.mem_singleton_self _);have XE:0+m<=grownCap w (0+m) 0 e:=grownCap_ge w (0+m) 0 e
   have Rj:Fj w (w.drew.alloc (.cells (([]:List Value).toArray++news.toArray++Builtin.zeroCells z.cells (grownCap w (0+m) 0 e-(0+m))) e)) (([]:List Value).toArray++news.toArray++Builtin.zeroCells z.cells (grownCap w (0+m) 0 e-(0+m))) e:=
    ⟨rfl,rfl,rfl,fun k hk=>Below.heap_alloc w.drew _ k hk,by show (w.heap.push _).size=_;simp,(0,0),by show (w.heap.push _)[w.heap.size]?=_;simp,.inl rfl⟩
   have OM:(([]:List Value).toArray++news.toArray++Builtin.zeroCells z.cells (grownCap w (0+m) 0 e-(0+m))).size=grownCap w (0+m) 0 e*i.size:=by
    simp only[Array.size_append,List.size_toArray,size_zeroCells,hzs,V0,List.length_nil,←Nat.add_mul];rw[Nat.zero_add (m*i.size),←Nat.add_mul]
    congr 1
    omega
   refine Mo (s:=⟨s.tm,Af s.hp []⟩) Rj R3 trivial ?_ (fun cells hx=>by cases hx) ?_ (by intro j hj;simp[Bq,B8,Al] at hj;exact .inr hj)
   ·refine .inr ⟨w.heap.size,0,Ak _ _ _,?_,fun _ j _ hj=>?_,(fun q=>by cases q)⟩
    ·exact Zg (pre:=[]) Rj (RK (s:=⟨s.tm,Af s.hp []⟩) R3) trivial hs.rep (by simp) hs.one
    ·rw[Rj.bsz] at hj;exact Rj.frozen hj
   ·refine .inr ⟨w.heap.size,0,0,grownCap w (0+m) 0 e,Ak _ _ _,by rw[Nat.zero_add],.inl rfl,by omega,?_,by rw[Rj.size];omega⟩
    exact⟨by rw[Rj.bsz,OM];omega,.inr (Ip w.drew _ e)⟩
 ·cases hk
theorem LE {lo hi:Option Operand}{y3:Operand}{k3:IntKind}{len cap l u m:Nat}(hl:(lo=none∧l=0)∨∃y k,lo=some y∧a.eval y=.int k (l:Int))
  (hu:∃y k,hi=some y∧a.eval y=.int k (u:Int)) (hm:a.eval y3=.int k3 (m:Int)) (h1:l<=u)(h2:u<=m)(h3:m<=cap):
  (Instr.sliceBounds true len cap (lo.map a.eval) (hi.map a.eval) (some (a.eval y3))).run P w=.ok (l,u,m) w:=by
 obtain⟨y,k,rfl,hy⟩:=hu;rcases hl with⟨rfl,rfl⟩|⟨y',k',rfl,hy'⟩
 ·simp[Instr.sliceBounds,Instr.sliceBound,asIntOf,hy,hm,h2,h3]
 ·simp[Instr.sliceBounds,Instr.sliceBound,asIntOf,hy,hy',hm,h1,h2,h3]
theorem FU (h:Cl N w0 X0 Y β s a w){t:TypeId}{x m:Operand}{lo hi:Option Operand}(ho:o.op=.slice t x lo hi (some m)) {d:Nat}{K:PV->List (Nat × Bm)->Option R}
  (hk:P6 P d t (Bw s.tm x) (lo.map (Bw s.tm)) (hi.map (Bw s.tm)) (some (Bw s.tm m)) K=some r):∃v nw,K v nw=some r∧Dw P a w o Y β s v [] nw:=by
 have hx:=Cp h x;unfold P6 at hk;split at hk
 ·rename_i e hu;obtain⟨hb,hk⟩:=Aj hk;simp only[Bool.and_eq_true] at hb;obtain⟨L2,hhi⟩:=hb
  obtain⟨yh,rfl⟩:∃y,hi=some y:=by
   cases hi with
   |none=>simp at hhi
   |some y=>exact⟨y,rfl⟩
  have fin:∀{ad:Option Addr} {n cap l u q:Nat},a.eval x=.slice ad n cap->n<=cap->((lo=none∧l=0)∨∃y k,lo=some y∧a.eval y=.int k (l:Int))->((some yh=none∧u=n)∨∃y k,some yh=some y∧a.eval y=.int k (u:Int))->(((some m:Option Operand)=none∧q=n)∨∃y k,(some m:Option Operand)=some y∧a.eval y=.int k (q:Int)) ->
    (Nat.beq l q&&Nat.beq u q&&decide (q<=n))=true->Dw P a w o Y β s (.view d (A8 P e) 0 0) [] [(d,.ar false [])]:=by
   intro ad n cap l u q C4 hn hl Hp hq hb;simp only[Bool.and_eq_true,decide_eq_true_eq] at hb;obtain⟨⟨b1,b2⟩,b3⟩:=hb;have b1:=Nat.eq_of_beq_eq_true b1;have b2:=Nat.eq_of_beq_eq_true b2;subst b1 b2
   have hu2:∃y k,(some yh:Option Operand)=some y∧a.eval y=.int k (u:Int):=by
    rcases Hp with⟨e,_⟩|e
    ·cases e
    ·exact e
   obtain⟨k3,hm3⟩:∃k,a.eval m=.int k (u:Int):=by
    rcases hq with⟨e,_⟩|⟨y,k,e,q⟩
    ·cases e
    ·cases e;exact⟨k,q⟩
   have HZ:=LE (P:=P) (w:=w) (len:=n) (cap:=cap) hl hu2 hm3 (Nat.le_refl _) (Nat.le_refl _) (by omega)
   have Ch:∃ad',(execOp a.eval o).run P w=.ok (.value (.slice ad' 0 0)) w:=by
    unfold execOp;rw[ho];cases ad with
    |none=>exact⟨none,by simp[Instr.sliceAt,Instr.slice,run_underlying hu,C4,HZ,Cm L2] at HZ ⊢⟩
    |some p=>exact⟨some p,by simp[Instr.sliceAt,Instr.slice,run_underlying hu,C4,HZ,Cm L2] at HZ ⊢⟩
   obtain⟨ad',Ch⟩:=Ch;refine⟨by simp,_,_,Ch,fun ZO=>⟨Ci β d none,?_⟩⟩
   have R3:s.hp d=none:=(Bk ZO).1 d _ (List.mem_singleton_self _);refine⟨rfl,rfl,rfl,B4.refl _ _,fun j hj=>Ah _ _ (by rintro rfl;exact hj R3),?_,?_,?_,?_,?_,.inl ⟨Ak _ _ _,rfl,rfl,ad',rfl⟩,?_⟩
   ·intro j bx hm;simp at hm;rw[hm.2];trivial
   ·intro j bx hm;simp at hm;obtain⟨rfl,rfl⟩:=hm;exact .inl ⟨Ak _ _ _,rfl⟩
   ·intro j bx k q hm hq;simp at hm;obtain⟨rfl,rfl⟩:=hm;rw[Ak] at hq;cases hq
   ·intro j bx j' bx' k q q' hm H8 _ _;simp at hm H8;rw[hm.1,H8.1]
   ·intro j cells hm;simp at hm
   ·intro j hj;simp[Bq,B8,Al] at hj;subst hj;exact .inr ⟨.ar false [],by simp⟩
  split at hk
  ·rename_i id es off n e';rw[e'] at hx;obtain⟨Qn,hk⟩:=Aj hk;obtain⟨l,hk,hl⟩:=Do h hk;obtain⟨u,hk,Hp⟩:=Do h hk;obtain⟨q,hk,hq⟩:=Do (x:=some m) h hk;obtain⟨hb,hk⟩:=Aj hk;refine⟨_,_,hk,?_⟩;rcases hx with⟨hβ,_,rfl,ad,C4⟩|⟨b,ob,y,cap,hβ,C4,hy,hn,Q9,B6⟩
   ·exact fin C4 (Nat.le_refl _) hl Hp hq hb
   ·exact fin C4 hn hl Hp hq hb
  ·obtain⟨z,n,c,hk,hp⟩:=Eu hk;obtain⟨l,hk,hl⟩:=Do h hk;obtain⟨u,hk,Hp⟩:=Do h hk;obtain⟨q,hk,hq⟩:=Do (x:=some m) h hk;obtain⟨hb,hk⟩:=Aj hk;refine⟨_,_,hk,?_⟩;rcases Fm hp hx with⟨C4,rfl,rfl⟩|⟨ad,cap,C4,_,hn,_⟩|⟨ad,cap,C4,_,rfl,rfl⟩
   ·exact fin C4 (Nat.le_refl _) hl Hp hq hb
   ·exact fin C4 hn hl Hp hq hb
   ·exact fin C4 (Nat.zero_le _) hl Hp hq hb
 ·cases hk
end
open Go.RowKit
section
variable {R:Type} {r:R} {P:Program} {N:Nat} {w0:World} {X0:Gv} {Y:Nat->Prop} {β β':Bt} {s:St} {a:Act} {w w':World} {o:Oper} {A:Nat->Prop}
theorem Aci (h:Cl N w0 X0 Y β s a w){G:Rs}(Iw:JT P G w0 X0){C:F3}{call:Ax}(Dk:∀f args res,call f args=some res->C6 G P f args res){K:PV->List Nat->List (Nat × Bm)->Option R}
  (hk:Xx C P N call s.tm (rd s.hp) (Hx s.hp) o K=some r):∃v fz nw,K v fz nw=some r∧Z7 P a w o Y β s v fz nw:=by
 have one:∀{K':PV->Option R},(∀v,K' v=some r->K v [] []=some r)->(∃v,K' v=some r∧Dw P a w o Y β s v [] [])->∃v fz nw,K v fz nw=some r∧Z7 P a w o Y β s v fz nw:=
  fun hK ⟨v,h1,h2⟩=>⟨v,[],[],hK v h1,Xw h2⟩
 have many:(∃v fz nw,K v fz nw=some r∧Dw P a w o Y β s v fz nw)->∃v fz nw,K v fz nw=some r∧Z7 P a w o Y β s v fz nw:=
  fun ⟨v,fz,nw,h1,h2⟩=>⟨v,fz,nw,h1,Xw h2⟩
 unfold Xx at hk;split at hk
 ·rename_i x ho;exact one (fun _ h=>h) (S6 (K:=fun p=>K p [] []) h (SW ho) hk)
 ·rename_i x ho;exact one (fun _ h=>h) (S6 (K:=fun p=>K p [] []) h (JA ho) hk)
 ·rename_i c x y ho;exact one (fun _ h=>h) (PH (K:=fun p=>K p [] []) h ho hk)
 ·rename_i t ho;obtain⟨d,hd,hk⟩:=B5 hk;exact many (LX ho hk)
 ·rename_i t x ho;obtain⟨d,hd,hk⟩:=B5 hk;exact many (TY h ho hk)
 ·rename_i t ps ho;exact one (fun _ h=>h) (KA (K:=fun p=>K p [] []) h ho hk)
 ·rename_i t n ps ho;obtain⟨d,hd,hk⟩:=B5 hk;exact many (U5 h ho hk)
 ·rename_i t x ho;exact one (fun _ h=>h) (OB (K:=fun p=>K p [] []) h ho hk)
 ·rename_i x ho;exact one (fun _ h=>h) (Y0 (K:=fun p=>K p [] []) h ho hk)
 ·rename_i op t x y ty ho;exact one (fun _ h=>h) (IZ (K:=fun p=>K p [] []) h ho hk)
 ·rename_i op t x ho;exact one (fun _ h=>h) (PA (K:=fun p=>K p [] []) h ho hk)
 ·rename_i src dst x ho;obtain⟨v,nw,hk,hg⟩:=NC h ho hk;obtain⟨d,hd,hk⟩:=B5 hk;exact⟨v,[],nw,hk,Xw hg⟩
 ·rename_i t x y ho;obtain⟨d,hd,hk⟩:=B5 hk;exact many (PC h ho hk)
 ·rename_i t x lo hi mx ho;split at hk
  ·exact one (fun _ h=>h) (IQ (K:=fun p=>K p [] []) h ho hk)
  ·obtain⟨d,hd,hk⟩:=B5 hk;obtain⟨v,nw,h1,h2⟩:=FU h ho hk;exact⟨v,[],nw,h1,Xw h2⟩
 ·rename_i t x f ho;exact one (fun _ h=>h) (V6 (K:=fun p=>K p [] []) h ho hk)
 ·rename_i t x f ho;exact one (fun _ h=>h) (MB (K:=fun p=>K p [] []) h ho hk)
 ·rename_i t x i ho;exact one (fun _ h=>h) (V8 (K:=fun p=>K p [] []) h ho hk)
 ·rename_i t x i ho;exact one (fun _ h=>h) (MM (K:=fun p=>K p [] []) h ho hk)
 ·rename_i t x k ok ho;exact one (fun _ h=>h) (GS (K:=fun p=>K p [] []) h ho hk)
 ·rename_i x i ho;exact one (fun _ h=>h) (AZ (K:=fun p=>K p [] []) h ho hk)
 ·rename_i c ho;split at hk
  ·rename_i hc;exact one (fun _ h=>h) (WD (K:=fun p=>K p [] []) h ho hc hk)
  ·rename_i hc;exact one (fun _ h=>h) (VA (K:=fun p=>K p [] []) h ho hc hk)
  ·rename_i hc;exact one (fun _ h=>h) (VT (K:=fun p=>K p [] []) h ho hc hk)
  ·rename_i hc;exact one (fun _ h=>h) (UN (K:=fun p=>K p [] []) h ho hc hk)
  ·rename_i hc;obtain⟨hnb,hk⟩:=Aj hk;obtain⟨d,hd,Du⟩:=B5 hk;obtain⟨b,xs,Z8,Eb⟩:=A7 Du;obtain⟨x,ys,hys,Jg⟩:=A7 Eb;obtain⟨Uv,Qd⟩:=Dd Jg;obtain⟨t,us,WY,NR⟩:=A7 Qd;obtain⟨tx,vs,Ob,hk6⟩:=A7 NR;rw[hys,Uv] at Z8;rw[Ob] at WY;obtain⟨v,nw,h1,h2⟩:=FA h ho hc hnb hd Z8 WY hk6;exact⟨v,[],nw,h1,Xw h2⟩
  ·rename_i f hc;exact Zj h Iw Dk (fun hf hb=>KT ho hc Iw.ng hf hb) hk
  ·rename_i t hc;obtain⟨f,hf0,Du⟩:=Aea hk;have ht:a.eval (.tmp t)=.func (.func f) #[] #[]:=B2 h (x:=.tmp t) hf0;exact Zj h Iw Dk (fun hf hb=>UV ho hc ht Iw.ng hf hb) Du
  ·cases hk
 ·cases hk
theorem OG (h:Cl N w0 X0 Y β s a w){G:Rs}(Iw:JT P G w0 X0){C:F3}{call:Ax}(Dk:∀f args res,call f args=some res->C6 G P f args res){K:St->Option R}
  (hk:(Xx C P N call s.tm (rd s.hp) (Hx s.hp) o fun v fz nw=>Uq N s o.dst v fz nw K)=some r):
  ∃s',K s'=some r∧∀(next:Act->World->Prop) (Q:Exit->Act->World->Prop),(∀a' w' β',Cl N w0 X0 Y β' s' a' w'->next a' w')->o.wp P a w next Q:=by
 obtain⟨v,fz,nw,hk,U8,hg⟩:=Aci h Iw Dk hk;unfold Uq at hk;obtain⟨hb,hk⟩:=Aj hk;simp only[Bool.and_eq_true] at hb;refine⟨_,hk,fun next Q hn=>hg next Q fun val w' Fd=>?_⟩
 obtain⟨β',st⟩:=Fd hb.2
 have L5:Bo (Af s.hp fz) nw=true:=by
  have:∀nw,Bo s.hp nw=true->Bo (Af s.hp fz) nw=true:=by
   intro nw
   induction nw with
   |nil=>intro _;rfl
   |cons q nw ih=>
    obtain⟨i,b⟩:=q;intro hq;simp only[Bo,Bool.and_eq_true,Option.isNone_iff_eq_none] at hq ⊢;exact⟨⟨Dq.2 hq.1.1,hq.1.2⟩,ih hq.2⟩
  exact this nw hb.2
 exact hn _ _ β' ((h.freeze U8).stepR hb.1 L5 st)
end
open Go.RowKit
section
variable {R:Type} {r:R} {P:Program} {N:Nat} {w0:World} {X0:Gv} {Y:Nat->Prop} {β β':Bt} {s:St} {a:Act} {w w':World} {o:Oper} {A:Nat->Prop}
structure Dj (b:Nat) (w w':World):Prop where
 os:w'.os=w.os
 tape:w'.tape=w.tape
 output:w'.output=w.output
 size:w'.heap.size=w.heap.size
 other:∀k,k≠b->w'.heap[k]?=w.heap[k]?
 bs:bsz w' b=bsz w b
 frz:∀j,w'.frozen? ⟨b,j,none⟩=w.frozen? ⟨b,j,none⟩
theorem Dj.grow {b:Nat}(h:Dj b w w')(k:Nat):Gi w w' k:=by
 by_cases e:k=b
 ·subst e;refine⟨by rw[h.bs];exact Nat.le_refl _,fun q=>?_⟩
  unfold MJ at q ⊢;rw[h.bs,h.frz];exact q
 ·exact Gi.same (h.other k e)
theorem Dj.refl (b:Nat)(w:World):Dj b w w:=⟨rfl,rfl,rfl,rfl,fun _ _=>rfl,rfl,fun _=>rfl⟩
theorem Dj.setCell (b j:Nat)(v:Value)(w:World):Dj b w (w.setCell ⟨b,j,none⟩ v):=by
 refine⟨rfl,rfl,rfl,by simp[World.setCell],fun k hk=>Below.heap_setCell w ⟨b,j,none⟩ v k hk,?_,fun i=>?_⟩
 ·simp only[bsz,World.setCell,Array.getElem?_modify];simp only[if_true];cases h:w.heap[b]? with
  |none=>simp
  |some x=>cases x<;>simp
 ·simp only[World.frozen?,World.setCell,Array.getElem?_modify,if_true];cases h:w.heap[b]? with
  |none=>simp
  |some x=>cases x<;>simp
theorem Dj.trans {b:Nat}{w'':World}(h:Dj b w w')(h':Dj b w' w''):Dj b w w'':=
 ⟨h'.os.trans h.os,h'.tape.trans h.tape,h'.output.trans h.output,h'.size.trans h.size,fun k hk=>(h'.other k hk).trans (h.other k hk),h'.bs.trans h.bs,fun j=>(h'.frz j).trans (h.frz j)⟩
theorem Dj.setCells (b:Nat):∀(vs:List Value)(j:Nat)(w:World),Dj b w (w.setCells b j vs)
 |[],_,w=>Dj.refl b w
 |v::vs,j,w=>(Dj.setCell b j v w).trans (Dj.setCells b vs (j+1) _)
theorem Aqo {hp:Nat->Option Bm}{id:Nat}{bx bx':Bm}(h0:hp id=some bx)(hl:Cx (some bx)) (Ib:Cx (some bx')) (b:Nat):HA (Ci hp id (some bx')) β b↔HA hp β b:=by
 constructor
 ·rintro⟨i,o,h1,h2⟩
  by_cases e:i=id
  ·subst e;exact⟨i,o,by rw[h0];exact hl,h2⟩
  ·rw[Ah _ _ e] at h1;exact⟨i,o,h1,h2⟩
 ·rintro⟨i,o,h1,h2⟩
  by_cases e:i=id
  ·subst e;exact⟨i,o,by rw[Ak];exact Ib,h2⟩
  ·exact⟨i,o,by rw[Ah _ _ e];exact h1,h2⟩
theorem Cl.write (h:Cl N w0 X0 Y β s a w){id b ob:Nat}{bx bx':Bm}(h0:s.hp id=some bx)(hl:Cx (some bx)) (Ib:Cx (some bx')) (hβ:β id=some (b,ob)) (hw:Dj b w w')
  (Jh:Nv w' (Cy s.hp β Y) β id bx') (hr:∀cells,bx'=.st cells->∀c∈cells,∀i∈Al c,s.hp i≠none)
  (hK:∀c',bx'=.st c'->∃c,bx=.st c)(hR:∀j,BR bx' ob j->BR bx ob j)(hO:∀j,¬BR bx ob j->w'.cell? ⟨b,j,none⟩=w.cell? ⟨b,j,none⟩):Cl N w0 X0 Y β ⟨s.tm,Ci s.hp id (some bx')⟩ a w':=by
 have hX:=Aqo (β:=β) h0 hl Ib;have hA:∀k,Cy (Ci s.hp id (some bx')) β Y k↔Cy s.hp β Y k:=fun k=>⟨fun x=>x.imp (hX k).1 (fun y=>y),fun x=>x.imp (hX k).2 (fun y=>y)⟩
 have hAb:Cy s.hp β Y b:=.inl ⟨id,ob,by rw[h0];exact hl,hβ⟩
 have Fd:B4 (Cy s.hp β Y) w w':=⟨by rw[hw.size];exact Nat.le_refl _,fun k _ hk=>hw.other k (fun e=>hk (e ▸ hAb)),fun k _=>hw.grow k⟩
 have Lj:∀i,Ci s.hp id (some bx') i≠none↔s.hp i≠none:=by
  intro i;by_cases e:i=id
  ·subst e;rw[Ak,h0];simp
  ·rw[Ah _ _ e]
 have hAe:Cy (Ci s.hp id (some bx')) β Y=Cy s.hp β Y:=funext fun k=>propext (hA k)
 have Sn:∀i,Cx (Ci s.hp id (some bx') i)->Cx (s.hp i):=by
  intro i hi;by_cases e:i=id
  ·subst e;rw[h0];exact hl
  ·rw[Ah _ _ e] at hi;exact hi
 refine⟨h.dfr,h.tsz,h.tmo,fun i hi=>?_,fun i bi hb=>?_,fun i i' k x y h1 h2=>h.inj i i' k x y (Sn i h1) (Sn i' h2),fun i k x hi hk=>?_,fun i hi j hj=>(Lj j).2 (h.wfT i hi j hj),
  fun i cells hc c ME j hj=>(Lj j).2 ?_,fun k hk=>h.ownd k ((hX k).1 hk),fun i bi k x Wd hli hk B6 j hj=>?_,fun i hi=>⟨(Lj _).2 (h.pin i hi).1,(h.pin i hi).2⟩,fun i c k x hc hk B6=>?_,fun k hk x=>h.Yx k hk ((hX k).1 x),h.Ylt,?_⟩
 ·rw[hAe];exact (h.tms i hi).step Fd (fun _ _ x=>x) (fun _ _=>rfl)
 ·rw[hAe];simp only at hb;by_cases e:i=id
  ·subst e;rw[Ak] at hb;cases hb;exact Jh
  ·rw[Ah _ _ e] at hb;have Wd:=h.box i bi hb;cases bi with
   |st c=>
    obtain⟨k,x,h1,h2,h3⟩:=Wd
    have hk:k≠b:=by
     rintro rfl
     exact e (h.inj i id k x ob (by rw[hb];trivial) (by rw[h0];exact hl) h1 hβ)
    refine⟨k,x,h1,fun j c hj=>?_,fun j hj=>?_⟩
    ·obtain⟨v,hv,hc⟩:=h2 j c hj;exact⟨v,by rw[World.cell?_of_block (w:=w) (hw.other k hk)];exact hv,hc.step Fd (fun _ _ x=>x) (fun _ _=>rfl)⟩
    ·rw[World.frozen?_of_block (w:=w) (hw.other k hk)];exact h3 j hj
   |ar fz c=>
    rcases Wd with hn|⟨k,x,h1,h2,h3,h4⟩
    ·exact .inl hn
    ·have hk:k≠b:=by
      rintro rfl
      cases fz with
      |true=>exact h4 rfl hAb
      |false=>exact e (h.inj i id k x ob (by rw[hb];trivial) (by rw[h0];exact hl) h1 hβ)
     refine .inr ⟨k,x,h1,fun j c hj=>?_,fun ef j hj Og=>?_,h4⟩
     ·obtain⟨v,hv,h5,hc⟩:=h2 j c hj;exact⟨v,by rw[World.cell?_of_block (w:=w) (by rw[Ef];exact hw.other k hk)];exact hv,h5,hc.step Fd (fun _ _ x=>x)⟩
     ·rw[World.frozen?_of_block (w:=w) (hw.other k hk)];refine h3 ef j hj ?_;unfold bsz at Og ⊢;rw[hw.other k hk] at Og;exact Og
   |mv=>trivial
 ·rw[hw.size];exact h.blt i k x ((Lj i).1 hi) hk
 ·simp only at hc;by_cases e:i=id
  ·subst e;rw[Ak] at hc;injection hc with hc;exact hr cells hc c ME j hj
  ·rw[Ah _ _ e] at hc;exact h.wfB i cells hc c ME j hj
 ·simp only at Wd;by_cases e:i=id
  ·subst e;rw[Ak] at Wd;cases Wd;rw[hβ] at hk;cases hk;exact h.rngB i bx b ob h0 hl hβ B6 j (hR j hj)
  ·rw[Ah _ _ e] at Wd;exact h.rngB i bi k x Wd hli hk B6 j hj
 ·simp only at hc;by_cases e:i=id
  ·subst e;rw[Ak] at hc;injection hc with hc;obtain⟨c0,rfl⟩:=hK c hc;exact h.stp i c0 k x h0 hk B6
  ·rw[Ah _ _ e] at hc;exact h.stp i c k x hc hk B6
 ·refine⟨hw.os.trans h.fr.os,hw.tape.trans h.fr.tape,hw.output.trans h.fr.output,?_,fun k j hk hL=>?_⟩
  ·refine⟨by rw[hw.size];exact h.fr.step.size,fun k hk hnk=>?_,fun k hk=>(h.fr.step.bs k hk).trans (Fd.bs k (Nat.lt_of_lt_of_le hk h.fr.step.size))⟩
   rw[hw.other k ?_]
   ·exact h.fr.step.keep k hk hnk
   ·rintro rfl
    rcases h.ownd k ⟨id,ob,by rw[h0];exact hl,hβ⟩ with hx|hx
    ·exact hnk hx
    ·omega
  ·by_cases e:k=b
   ·subst e;rw[hO j (fun hj=>hL (h.rngB id bx k ob h0 hl hβ hk j hj)),hw.frz]
    exact h.fr.rng k j hk hL
   ·have hc:w'.cell? ⟨k,j,none⟩=w.cell? ⟨k,j,none⟩:=World.cell?_of_block (w:=w) (hw.other k e);have hf:w'.frozen? ⟨k,j,none⟩=w.frozen? ⟨k,j,none⟩:=World.frozen?_of_block (w:=w) (hw.other k e);rw[hc,hf];exact h.fr.rng k j hk hL
theorem Nq {c cs:List PV}{off j:Nat}{p:PV}(Wg:off+cs.length<=c.length)(h:(Cs c cs off)[j]?=some p):
  (off<=j∧j<off+cs.length∧cs[j-off]?=some p)∨((j<off∨off+cs.length<=j)∧c[j]?=some p):=by
 unfold Cs at h;by_cases h1:j<off
 ·rw[List.append_assoc,List.getElem?_append_left (by simp;omega),List.getElem?_take_of_lt h1] at h
  exact .inr ⟨.inl h1,h⟩
 ·by_cases h2:j<off+cs.length
  ·rw[List.getElem?_append_left (by simp;omega),List.getElem?_append_right (by simp;omega)] at h
   simp only[List.length_take,Nat.min_eq_left (by omega:off<=c.length)] at h
   exact .inl ⟨by omega,h2,h⟩
  ·rw[List.getElem?_append_right (by simp;omega)] at h
   simp only[List.length_append,List.length_take,Nat.min_eq_left (by omega:off<=c.length),List.getElem?_drop] at h
   rw[show off+cs.length+(j-(off+cs.length))=j from by omega] at h
   exact .inr ⟨.inr (by omega),h⟩
theorem Nu {c cs:List PV}{off:Nat}(Wg:off+cs.length<=c.length):(Cs c cs off).length=c.length:=by
 simp[Cs];omega
theorem Vz {t:TypeId}{b j:Nat}{v:Value}(La:(P.info? t).map (·.size)=some v.cells.size) (hc:∀i,i<v.cells.toList.length->(w.cell? ⟨b,j+i,none⟩).isSome=true)
  (hf:∀i,i<v.cells.toList.length->w.frozen? ⟨b,j+i,none⟩=false)(h1:∀u∈v.cells.toList,u.oneCell'=true):(Instr.storeAt t (.pointer (some ⟨b,j,none⟩)) v).run P w=.ok () (w.setCells b j v.cells.toList):=by
 have:=run_storeCells_cells (P:=P) b j v.cells.toList 0 w (fun i hi=>by simpa using hc i hi) (fun i hi=>by simpa using hf i hi) h1
 simp only[Instr.storeAt,Instr.sureAddr,storeVar,Sem.run_bind,Sem.run_pure,Result.andThen_ok,Iu La]
 simpa using this
theorem KM (h:Cl N w0 X0 Y β s a w){t:TypeId}{x y:Operand}(ho:o.op=.store t x y)(hd:o.dst=none){K:St->Option R}(hk:Uo P s t (Bw s.tm x) (Bw s.tm y) K=some r):
  ∃s',K s'=some r∧∀(next:Act->World->Prop) (Q:Exit->Act->World->Prop),(∀a' w' β',Cl N w0 X0 Y β' s' a' w'->next a' w')->o.wp P a w next Q:=by
 have hx:=Cp h x;have Z9:=Ej h x
 have run:∀{b j:Nat},a.eval x=.pointer (some ⟨b,j,none⟩)->(Instr.storeAt t (.pointer (some ⟨b,j,none⟩)) (a.eval y)).run P w=.ok () (w.setCells b j (a.eval y).cells.toList) ->
   ∀(next:Act->World->Prop) (Q:Exit->Act->World->Prop),next a (w.setCells b j (a.eval y).cells.toList)->o.wp P a w next Q:=by
  intro b j C4 hr next Q hn;unfold Oper.wp execOp;rw[ho];simp only[Sem.run_bind,C4,hr,Result.andThen_ok,Sem.run_pure];show next (a.put o.dst undef) _;rw[hd];exact hn
 unfold Uo at hk;split at hk
 ·rename_i id off e;rw[e] at hx Z9;obtain⟨b,ob,hβ,C4⟩:=hx;split at hk
  ·rename_i c h0;obtain⟨hb,hk⟩:=Aj hk;simp only[Bool.and_eq_true,decide_eq_true_eq] at hb;obtain⟨⟨hok,hl⟩,Wg⟩:=hb;have hl:=Nat.eq_of_beq_eq_true hl;obtain⟨cs,hk,Kg,h2,h1,hr,_⟩:=SK (Cp h y) hl hk;obtain⟨_,Alo,La⟩:=M0 hok;have hvl:=h2.len;obtain⟨b',o',Eg,G5,Rk⟩:=h.box id _ h0;rw[hβ] at Eg;simp at Eg;obtain⟨rfl,rfl⟩:=Eg
   have Cr:∀i,i<(a.eval y).cells.toList.length->(w.cell? ⟨b,ob+off+i,none⟩).isSome=true:=by
    intro i hi;obtain⟨v,hv,_⟩:=G5 (off+i) _ (List.getElem?_eq_getElem (by omega))
    rw[Nat.add_assoc,hv];rfl
   have Ch:=Vz (P:=P) (t:=t) (w:=w) (b:=b) (j:=ob+off) (v:=a.eval y) (by rw[La,←Alo,←Kg,hvl];simp) Cr (fun i hi=>by rw[Nat.add_assoc];exact Rk _ (by omega)) h1
   refine⟨_,hk,fun next Q hn=>run C4 Ch next Q (hn _ _ β ?_)⟩
   refine h.write h0 trivial trivial hβ (Dj.setCells b _ _ w) ?_ ?_ (fun _ _=>⟨_,rfl⟩) (fun j hj=>by
    have hj:ob<=j∧j<ob+(Cs c cs off).length:=hj;rw[Nu (by omega)] at hj
    exact hj) (fun j hj=>by
    refine World.cell?_setCells_out b _ _ w ⟨b,j,none⟩ (fun _ _=>?_)
    have hj:¬(ob<=j∧j<ob+c.length):=hj;show j<ob+off∨ob+off+_<=j;omega)
   ·have Fd:B4 (Cy s.hp β Y) w (w.setCells b (ob+off) (a.eval y).cells.toList):=by
     have hw:=Dj.setCells b (a.eval y).cells.toList (ob+off) w;have hAb:Cy s.hp β Y b:=.inl ⟨id,ob,by rw[h0];trivial,hβ⟩
     exact⟨by rw[hw.size];exact Nat.le_refl _,fun k _ hk=>hw.other k (fun e=>hk (e ▸ hAb)),fun k _=>hw.grow k⟩
    refine⟨b,ob,hβ,fun j p hj=>?_,fun j hj=>?_⟩
    ·rcases Nq (by omega) hj with⟨h3,h4,h5⟩|⟨h3,h5⟩
     ·obtain⟨u,hu,hcu⟩:=h2.get h5;have B6:j-off<(a.eval y).cells.toList.length:=by omega
      refine⟨u,?_,hcu.step Fd (fun _ _ x=>x) (fun _ _=>rfl)⟩
      have:=World.cell?_setCells_in b (a.eval y).cells.toList (ob+off) w Cr (j-off) B6;rw[show ob+j=ob+off+(j-off) from by omega,this]
      rw[List.getElem?_eq_getElem B6] at hu;exact hu
     ·obtain⟨v,hv,Vt⟩:=G5 j p h5;refine⟨v,?_,Vt.step Fd (fun _ _ x=>x) (fun _ _=>rfl)⟩
      rw[World.cell?_setCells_out b _ _ w ⟨b,ob+j,none⟩ (fun _ _=>by show ob+j<ob+off∨ob+off+_<=ob+j;omega)]
      exact hv
    ·rw[Nu (by omega)] at hj
     rw[(Dj.setCells b _ _ w).frz];exact Rk j hj
   ·intro cells hx c' M6 i hi;injection hx with hx;subst hx;unfold Cs at M6;rcases List.mem_append.1 M6 with M6|M6
    ·rcases List.mem_append.1 M6 with M6|M6
     ·exact h.wfB id c h0 c' (List.mem_of_mem_take M6) i hi
     ·exact Ej h y i (hr c' M6 i hi)
    ·exact h.wfB id c h0 c' (List.mem_of_mem_drop M6) i hi
  ·rename_i c h0;obtain⟨hb,hk⟩:=Aj hk;simp only[Bool.and_eq_true,decide_eq_true_eq] at hb;obtain⟨hok,Wg⟩:=hb;obtain⟨cs,m,hk,Kg,R2,hT,hF,hm,hv⟩:=Ms h hk;obtain⟨AX,hk⟩:=Aj hk
   have AX:id ∉ m:=by
    intro hi;have:m.any (Nat.beq id)=true:=List.any_eq_true.2 ⟨id,hi,Nat.beq_refl id⟩;rw[this] at AX;cases AX
   obtain⟨_,Alo,La⟩:=M0 hok
   have Afp:Bd (Bs w (Cy s.hp β Y) β) (cellsOf (Bw s.tm y)) (a.eval y).cells.toList:=by
    have RA:=Cp h y;cases hp:Bw s.tm y with
    |agg ps=>
     rw[hp] at RA;obtain⟨vs,hay,h2⟩:=RA;rw[hay];exact h2
    |sc v=>
     rw[hp] at RA hF
     have XL:(a.eval y).oneCell'=true:=by
      have:=hv m (fun _ hi=>hi) hm [a.eval y] (by rw[hp];exact⟨RA,trivial⟩)
      exact this.2 _ (by simp)
     rw[Kf XL];exact⟨RA,trivial⟩
    |lst z es n cc=>
     rw[hp] at RA hF
     have XL:(a.eval y).oneCell'=true:=by
      have:=hv m (fun _ hi=>hi) hm [a.eval y] (by rw[hp];exact⟨RA,trivial⟩)
      exact this.2 _ (by simp)
     rw[Kf XL];exact⟨RA,trivial⟩
    |view i es oo n=>
     rw[hp] at RA hF
     have XL:(a.eval y).oneCell'=true:=by
      have:=hv m (fun _ hi=>hi) hm [a.eval y] (by rw[hp];exact⟨RA,trivial⟩)
      exact this.2 _ (by simp)
     rw[Kf XL];exact⟨RA,trivial⟩
    |own es n cc=>
     have hx0:=hF (Bw s.tm y) (by rw[hp];exact List.mem_singleton_self _)
     rw[hp] at hx0;exact hx0.elim
    |ptr i cc=>
     have hx0:=hF (Bw s.tm y) (by rw[hp];exact List.mem_singleton_self _)
     rw[hp] at hx0;exact hx0.elim
    |iptr i cc=>
     have hx0:=hF (Bw s.tm y) (by rw[hp];exact List.mem_singleton_self _)
     rw[hp] at hx0;exact hx0.elim
    |pbox cc=>
     have hx0:=hF (Bw s.tm y) (by rw[hp];exact List.mem_singleton_self _)
     rw[hp] at hx0;exact hx0.elim
    |tup cc=>
     have hx0:=hF (Bw s.tm y) (by rw[hp];exact List.mem_singleton_self _)
     rw[hp] at hx0;exact hx0.elim
    |ub=>
     have hx0:=hF (Bw s.tm y) (by rw[hp];exact List.mem_singleton_self _)
     rw[hp] at hx0;exact hx0.elim
    |top=>
     have hx0:=hF (Bw s.tm y) (by rw[hp];exact List.mem_singleton_self _)
     rw[hp] at hx0;exact hx0.elim
   obtain⟨h2,h1⟩:=hv m (fun _ hi=>hi) hm _ Afp
   have hvl:=h2.len;have hf:=h.freeze hm;have h0':Af s.hp m id=some (.ar false c):=by rw[Br,if_neg AX];exact h0
   rcases hf.box id _ h0' with⟨hn,_⟩|⟨b',o',Eg,G5,Rk,_⟩
   ·rw[hβ] at hn;cases hn
   rw[hβ] at Eg;simp at Eg;obtain⟨rfl,rfl⟩:=Eg
   have Cr:∀i,i<(a.eval y).cells.toList.length->(w.cell? ⟨b,ob+off+i,none⟩).isSome=true:=by
    intro i hi;obtain⟨v,hv,_⟩:=G5 (off+i) _ (List.getElem?_eq_getElem (by omega))
    rw[D5] at hv;rw[Nat.add_assoc,hv];rfl
   have Ch:=Vz (P:=P) (t:=t) (w:=w) (b:=b) (j:=ob+off) (v:=a.eval y) (by rw[La,←Alo,←Kg,hvl];simp) Cr (fun i hi=>by
    obtain⟨u,hu⟩:=Option.isSome_iff_exists.1 (Cr i hi);exact Rk rfl _ (by omega) (Yh hu)) h1
   refine⟨_,hk,fun next Q hn=>run C4 Ch next Q (hn _ _ β ?_)⟩
   refine hf.write h0' trivial trivial hβ (Dj.setCells b _ _ w) ?_ (fun cells hx=>by cases hx) (fun _ hx=>by cases hx) (fun j hj=>hj) (fun j hj=>by
    refine World.cell?_setCells_out b _ _ w ⟨b,j,none⟩ (fun _ _=>?_)
    have hj:¬(ob<=j):=hj;show j<ob+off∨ob+off+_<=j;omega)
   have Fd:B4 (Cy (Af s.hp m) β Y) w (w.setCells b (ob+off) (a.eval y).cells.toList):=by
    have hw:=Dj.setCells b (a.eval y).cells.toList (ob+off) w;have hAb:Cy (Af s.hp m) β Y b:=.inl ⟨id,ob,by rw[h0'];trivial,hβ⟩
    exact⟨by rw[hw.size];exact Nat.le_refl _,fun k _ hk=>hw.other k (fun e=>hk (e ▸ hAb)),fun k _=>hw.grow k⟩
   refine .inr ⟨b,ob,hβ,fun j p hj=>?_,fun _ j hj Og=>?_,(fun x=>by cases x)⟩
   ·rw[D5];rcases Nq (by omega) hj with⟨h3,h4,h5⟩|⟨h3,h5⟩
    ·obtain⟨u,hu,hcu⟩:=h2.get h5;have B6:j-off<(a.eval y).cells.toList.length:=by omega
     refine⟨u,?_,h1 u (List.mem_of_getElem? hu),hcu.step Fd (fun _ _ x=>x)⟩
     have:=World.cell?_setCells_in b (a.eval y).cells.toList (ob+off) w Cr (j-off) B6;rw[show ob+j=ob+off+(j-off) from by omega,this]
     rw[List.getElem?_eq_getElem B6] at hu;exact hu
    ·obtain⟨v,hv,h6,Vt⟩:=G5 j p h5;rw[D5] at hv;refine⟨v,?_,h6,Vt.step Fd (fun _ _ x=>x)⟩
     rw[World.cell?_setCells_out b _ _ w ⟨b,ob+j,none⟩ (fun _ _=>by show ob+j<ob+off∨ob+off+_<=ob+j;omega)]
     exact hv
   ·rw[(Dj.setCells b _ _ w).bs] at Og;rw[(Dj.setCells b _ _ w).frz];exact Rk rfl j hj Og
  ·cases hk
 ·cases hk
end
open Go.RowKit
theorem G9:∀{l l':List Nat},Dt (l++l')=true->Dt l=true∧Dt l'=true∧∀i∈l,i ∉ l'
 |[],l',h=>⟨rfl,h,by simp⟩
 |a::l,l',h=>by
  simp only[List.cons_append,Dt,Bool.and_eq_true,Bool.not_eq_true'] at h;obtain⟨h1,h2⟩:=h;obtain⟨h3,h4,h5⟩:=G9 h2
  have hn:∀i∈l++l',a≠i:=by
   rintro i hi rfl
   have:(l++l').any (Nat.beq a)=true:=List.any_eq_true.2 ⟨a,hi,Nat.beq_refl a⟩;rw[this] at h1;cases h1
  refine⟨?_,h4,fun i hi=>?_⟩
  ·simp only[Dt,Bool.and_eq_true,Bool.not_eq_true',h3,and_true];rw[List.any_eq_false];intro i hi e;exact hn i (by simp[hi]) (Nat.eq_of_beq_eq_true e)
  ·rcases List.mem_cons.1 hi with rfl|hi
   ·exact fun hm=>hn i (by simp[hm]) rfl
   ·exact h5 i hi
def F5 (β:Bt)(q:Nat × Nat):Option (Nat × Nat):=(β q.1).map fun p=>(p.1,p.2+q.2)
theorem NU (β:Bt)(id:Nat):F5 β (id,0)=β id:=by
 unfold F5;cases β id<;>rfl
section
variable {R:Type} {r:R} {P:Program} {N:Nat} {w0:World} {X0:Gv} {Y:Nat->Prop} {β β':Bt} {s:St} {a:Act} {w w':World} {o:Oper} {A:Nat->Prop}
theorem K2 {fz:List Nat}{b:Nat}(h:Cy (Af s.hp fz) β Y b):Cy s.hp β Y b:=h.imp Mj id
theorem YE (h:Cl N w0 X0 Y β s a w){mv:Bool}{t:CT}{p:PV}{K:PV->List Nat->List Nat->Option R}(hk:UP mv s.hp t p K=some r):
  ∃c m q,K c m (Option.toList q)=some r∧isA c∧BC p∧(∀id∈m,∃f cc,s.hp id=some (.ar f cc))∧(∀id,q=some id->∃cc,s.hp id=some (.ar false cc)) ∧
   ∀fz:List Nat,(∀id∈m,id∈fz)->(∀id∈fz,∃f cc,s.hp id=some (.ar f cc))->∀v,Bs w (Cy s.hp β Y) β p v->Fh w (Cy (Af s.hp fz) β Y) (q.bind β) c v:=by
 have frz:∀{t:CT} {p:PV} {K:PV->List Nat->List Nat->Option R},(Lc (Hx s.hp) t p fun c m=>K c m [])=some r->∃c m q,K c m (Option.toList q)=some r∧isA c∧BC p∧(∀id∈m,∃f cc,s.hp id=some (.ar f cc))∧(∀id,q=some id->∃cc,s.hp id=some (.ar false cc)) ∧
   ∀fz:List Nat,(∀id∈m,id∈fz)->(∀id∈fz,∃f cc,s.hp id=some (.ar f cc))->∀v,Bs w (Cy s.hp β Y) β p v->Fh w (Cy (Af s.hp fz) β Y) (q.bind β) c v:=by
  intro t p K hk;obtain⟨c,m,hk,hT,hF,hm,hv⟩:=X3 h hk;exact⟨c,m,none,hk,.inl hT,hF,hm,by simp,fun fz h1 h2 v hc=>Id hT (hv fz h1 h2 v hc).1⟩
 have tree:∀{t:CT} {p:PV} {K:PV->List Nat->List Nat->Option R},(∀es,t ≠ .sl es)->(Uu t p fun c=>K c [] [])=some r->∃c m q,K c m (Option.toList q)=some r∧isA c∧BC p∧(∀id∈m,∃f cc,s.hp id=some (.ar f cc))∧(∀id,q=some id->∃cc,s.hp id=some (.ar false cc)) ∧
   ∀fz:List Nat,(∀id∈m,id∈fz)->(∀id∈fz,∃f cc,s.hp id=some (.ar f cc))->∀v,Bs w (Cy s.hp β Y) β p v->Fh w (Cy (Af s.hp fz) β Y) (q.bind β) c v:=by
  intro t p K Ek hk;obtain⟨c,hk,hT,Xj,hv⟩:=J4 hk;exact⟨c,[],none,hk,.inl hT,Nk Xj,by simp,by simp,fun fz h1 h2 v hc=>Id hT ((hv w _ β v hc).1.step (B4.refl _ _) (fun b _ hb=>K2 hb))⟩
 unfold UP at hk;cases t with
 |sl es=>
  dsimp only at hk;cases mv<;>simp only[cond_true,cond_false] at hk
  ·exact frz hk
  ·split at hk
   ·rename_i id es' off n;split at hk
    ·rename_i c h0;cases hb:(Nat.beq es' es&&Nat.beq off 0)<;>rw[hb] at hk<;>simp only[cond_true,cond_false] at hk
     ·exact frz hk
     ·simp only[Bool.and_eq_true] at hb;have he:=Nat.eq_of_beq_eq_true hb.1;have hof:=Nat.eq_of_beq_eq_true hb.2;subst he hof;obtain⟨hl,hk⟩:=Aj hk;refine⟨_,[],some id,hk,.inr ⟨_,_,_,rfl⟩,trivial,by simp,fun i hi=>by cases hi;exact⟨c,h0⟩,fun fz h1 h2 v hc=>?_⟩
      rcases hc with⟨h3,_,rfl,h4⟩|⟨b,ob,x,cap,h3,h4,hx,h5,h6,h7⟩
      ·exact .inl ⟨h3,rfl,by simp,h4⟩
      ·have hx:x=ob:=by rcases hx with e|⟨_,e⟩<;>omega
       subst hx;rcases h.box id _ h0 with⟨h8,_⟩|⟨b',o',h8,h9,h10,_⟩
       ·rw[h3] at h8;cases h8
       ·rw[h3] at h8;cases h8;refine .inr ⟨b,x,cap,h3,h4,h5,h6,h7,fun j p hj=>?_,h10 rfl⟩
        rw[List.getElem?_take] at hj;split at hj
        ·obtain⟨u,hu,h11,ht⟩:=h9 j p hj;exact⟨u,hu,h11,ht.step (B4.refl _ _) (fun b _ hb=>K2 hb)⟩
        ·cases hj
    ·exact frz hk
   ·obtain⟨z,n,c,hk,hp⟩:=Eu hk;have hpF:BC p:=by rcases hp with e|⟨e,_⟩<;>(rw[e];trivial)
    cases z<;>simp only[cond_true,cond_false] at hk
    ·refine⟨_,[],none,hk,.inl trivial,hpF,by simp,by simp,fun fz h1 h2 v hc=>?_⟩
     exact Id trivial ((Rf hp hc).step (B4.refl _ _) (fun b _ hb=>K2 hb))
    ·refine⟨_,[],none,hk,.inr ⟨_,_,_,rfl⟩,hpF,by simp,by simp,fun fz h1 h2 v hc=>.inl ⟨rfl,rfl,rfl,none,?_⟩⟩
     have:=Rf hp hc;cases this;rfl
 |int k=>exact tree (by simp) hk
 |bool=>exact tree (by simp) hk
 |str=>exact tree (by simp) hk
 |any=>exact tree (by simp) hk
theorem Ps (h:Cl N w0 X0 Y β s a w){mv:Bool}:∀{ts:List CT}{ps:List PV}{K:List PV->List Nat->List Nat->Option R},Vx mv s.hp ts ps K=some r ->
  ∃cs m x,∃q:Nat->Option Nat,K cs m x=some r∧cs.length=ts.length∧ps.length=ts.length∧(∀c∈cs,isA c)∧(∀p∈ps,BC p)∧(∀id∈m,∃f cc,s.hp id=some (.ar f cc))∧(∀id∈x,∃cc,s.hp id=some (.ar false cc)) ∧
   (∀j id,q j=some id->id∈x)∧(Dt x=true->∀j j' id,q j=some id->q j'=some id->j=j') ∧
   ∀fz:List Nat,(∀id∈m,id∈fz)->(∀id∈fz,∃f cc,s.hp id=some (.ar f cc))->∀vs,Bd (Bs w (Cy s.hp β Y) β) ps vs->∀(own:Bt) j0,(∀j,own (j0+j)=(q j).bind β)->Ec w (Cy (Af s.hp fz) β Y) own j0 cs vs
 |[],[],K,hk=>⟨[],[],[],fun _=>none,hk,rfl,rfl,by simp,by simp,by simp,by simp,by simp,by simp,fun fz _ _ vs hv own j0 _=>by
   cases vs with
   |nil=>trivial
   |cons v vs=>exact hv.elim⟩
 |[],_::_,K,hk=>by cases hk
 |_::_,[],K,hk=>by cases hk
 |t::ts,p::ps,K,hk=>by
  unfold Vx at hk;obtain⟨c,m,q,hk,hA,hF,hm,hq,hv⟩:=YE h hk;obtain⟨cs,ms,xs,qs,hk,hl,Ib,hAs,hFs,Xv,Z8,hqx,hqi,Ob⟩:=Ps h hk;refine⟨c::cs,m++ms,q.toList++xs,fun j=>match j with|0=>q|j+1=>qs j,hk,by simp[hl],by simp[Ib],?_,?_,?_,?_,?_,?_,?_⟩
  ·intro x hx;rcases List.mem_cons.1 hx with rfl|hx
   ·exact hA
   ·exact hAs x hx
  ·intro x hx;rcases List.mem_cons.1 hx with rfl|hx
   ·exact hF
   ·exact hFs x hx
  ·intro i hi;rcases List.mem_append.1 hi with hi|hi
   ·exact hm i hi
   ·exact Xv i hi
  ·intro i hi;rcases List.mem_append.1 hi with hi|hi
   ·exact hq i (by simpa using hi)
   ·exact Z8 i hi
  ·intro j id hj;cases j with
   |zero=>exact List.mem_append.2 (.inl (by simpa using hj))
   |succ j=>exact List.mem_append.2 (.inr (hqx j id hj))
  ·intro hn j j' id hj Og;obtain⟨_,h2,h3⟩:=G9 hn;cases j with
   |zero=>
    cases j' with
    |zero=>rfl
    |succ j'=>exact absurd (hqx j' id Og) (h3 id (by simpa using hj))
   |succ j=>
    cases j' with
    |zero=>exact absurd (hqx j id hj) (h3 id (by simpa using Og))
    |succ j'=>rw[hqi h2 j j' id hj Og]
  ·intro fz h1 h2 vs h3 own j0 Fe;cases vs with
   |nil=>exact h3.elim
   |cons v vs=>
    refine⟨?_,Ob fz (fun i hi=>h1 i (by simp[hi])) h2 vs h3.2 own (j0+1) fun j=>?_⟩
    ·have:=Fe 0;rw[Nat.add_zero] at this;rw[this];exact hv fz (fun i hi=>h1 i (by simp[hi])) h2 v h3.1
    ·have:=Fe (j+1);rw[show j0+1+j=j0+(j+1) by omega]
     exact this
def LOk (hp:Nat->Option Bm)(q:Option (Nat × Nat)) (p:PV)(x:Fu):Prop:=
 match x with
 |.var id off cts ws=>p=.pbox ws∧q=some (id,off)∧cts.length=ws.length∧∃c,hp id=some (.st c)∧off+ws.length<=c.length
 |.row id=>(∃ps,p=.tup ps)∧q=some (id,0)∧∃c,hp id=some (.ar false c)
 |.none=>(∃ps,p=.tup ps)∧q=none
theorem QT {hp:Nat->Option Bm}{q:Option (Nat × Nat)} {p:PV}{x:Fu}(h:LOk hp q p x):Tt p=true:=by
 cases x with
 |var id off cts ws=>rw[h.1];rfl
 |row id=>obtain⟨⟨_,e⟩,_⟩:=h;rw[e];rfl
 |none=>obtain⟨⟨_,e⟩,_⟩:=h;rw[e];rfl
def L0 (hp:Nat->Option Bm)(src:Nat->Nat->Option (Nat × Nat)):Nat->List PV->List Fu->Prop
 |_,[],l=>l=[]
 |i,p::ps,l=>(Tt p=false∧src i 0=none∧L0 hp src (i+1) ps l)∨∃x l',l=x::l'∧LOk hp (src i 0) p x∧L0 hp src (i+1) ps l'
theorem OS (h:Cl N w0 X0 Y β s a w){C:F3}{f:FuncId}{i:Nat}{t:TypeId}{x:Operand}{K:PV->List Nat->List Nat->List Fu->Option R}(hk:Vb C P f s.hp i t (Bw s.tm x) K=some r):
  ∃v m y l,∃src:Nat->Option (Nat × Nat),K v m y l=some r∧(∀id∈m,∃f cc,s.hp id=some (.ar f cc))∧(∀id∈y,∃cc,s.hp id=some (.ar false cc)) ∧
   (∀j id off,src (j+1)=some (id,off)->off=0∧id∈y)∧(Dt y=true->∀j j' id off off',src (j+1)=some (id,off)->src (j'+1)=some (id,off')->j=j') ∧
   ((l=[]∧Tt v=false∧src 0=none)∨∃x',l=[x']∧LOk s.hp (src 0) v x') ∧
   ∀fz:List Nat,(∀id∈m,id∈fz)->(∀id∈fz,∃f cc,s.hp id=some (.ar f cc))->∀bt:Bt,(∀j,bt j=(src j).bind (F5 β))->MH w (Cy (Af s.hp fz) β Y) bt v (a.eval x):=by
 have hx:=Cp h x
 have Sg:∀(q0:Option (Nat × Nat)) (q:Nat->Option Nat),∃src:Nat->Option (Nat × Nat),src 0=q0∧(∀j,src (j+1)=(q j).map fun id=>(id,0)):=
  fun q0 q=>⟨fun j=>match j with|0=>q0|j+1=>(q j).map fun id=>(id,0),rfl,fun _=>rfl⟩
 have JH:∀{src:Nat->Option (Nat × Nat)} {q:Nat->Option Nat} {y:List Nat},(∀j,src (j+1)=(q j).map fun id=>(id,0))->(∀j id,q j=some id->id∈y)->∀j id off,src (j+1)=some (id,off)->off=0∧id∈y:=by
  intro src q y h1 h2 j id off hj;rw[h1] at hj;cases hq:q j with
  |none=>rw[hq] at hj;cases hj
  |some k=>rw[hq] at hj;cases hj;exact⟨rfl,h2 j _ hq⟩
 have JE:∀{src:Nat->Option (Nat × Nat)} {q:Nat->Option Nat} {y:List Nat},(∀j,src (j+1)=(q j).map fun id=>(id,0))->(Dt y=true->∀j j' id,q j=some id->q j'=some id->j=j') ->
   Dt y=true->∀j j' id off off',src (j+1)=some (id,off)->src (j'+1)=some (id,off')->j=j':=by
  intro src q y h1 h2 hn j j' id off off' hj Og;rw[h1] at hj Og;cases hq:q j with
  |none=>rw[hq] at hj;cases hj
  |some k=>
   cases E2:q j' with
   |none=>rw[E2] at Og;cases Og
   |some k'=>
    rw[hq] at hj;rw[E2] at Og;cases hj;cases Og;exact h2 hn j j' _ hq E2
 have Fe:∀{src:Nat->Option (Nat × Nat)} {q:Nat->Option Nat} {bt:Bt},(∀j,src (j+1)=(q j).map fun id=>(id,0))->(∀j,bt j=(src j).bind (F5 β))->∀j,bt (1+j)=(q j).bind β:=by
  intro src q bt h1 h2 j;rw[Nat.add_comm,h2,h1];cases q j with
  |none=>rfl
  |some id=>exact NU β id
 unfold Vb at hk;split at hk
 ·rename_i e he;split at hk
  ·rename_i id off ep;rw[ep] at hx;split at hk
   ·rename_i c h0;obtain⟨hb,hk⟩:=Aj hk;simp only[Bool.and_eq_true,decide_eq_true_eq] at hb;obtain⟨cs,m,y,q,hk,hl,Ib,hA,hF,hm,hy,Qp,Ia,hv⟩:=Ps h hk;obtain⟨src,MR,hs⟩:=Sg (some (id,off)) q;obtain⟨b,ob,hβ,C4⟩:=hx;refine⟨_,m,y,_,src,hk,hm,hy,JH hs Qp,JE hs Ia,.inr ⟨_,rfl,rfl,MR,hl.symm,c,h0,by omega⟩,fun fz h1 h2 bt Re=>?_⟩
    obtain⟨b',o',Eg,G5,Rk⟩:=h.box id _ h0;rw[hβ] at Eg;cases Eg;have Db:((c.drop off).take (G0 P e).length).length=(G0 P e).length:=by simp;omega
    have Ach:∀j p,((c.drop off).take (G0 P e).length)[j]?=some p->c[off+j]?=some p∧j<(G0 P e).length:=by
     intro j p hj;rw[List.getElem?_take] at hj;split at hj
     ·rw[List.getElem?_drop] at hj;exact⟨hj,by assumption⟩
     ·cases hj
    refine⟨b,ob+off,by rw[Re,MR];simp[F5,hβ],C4,hA,((c.drop off).take (G0 P e).length).mapIdx (fun j _=>(w.cell? ⟨b,ob+off+j,none⟩).getD undef),hv fz h1 h2 _ ?_ bt 1 (Fe hs Re),?_,fun k hk=>?_⟩
    ·refine Bd.of_at (by simp) fun j p v hp hv=>?_
     obtain⟨hc,_⟩:=Ach j p hp;obtain⟨u,hu,IC⟩:=G5 _ _ hc;rw[List.getElem?_mapIdx,hp,Option.map_some,Nat.add_assoc,hu] at hv;simp at hv;subst hv;exact IC
    ·intro k v VO;rw[List.getElem?_mapIdx] at VO;cases hp:((c.drop off).take (G0 P e).length)[k]? with
     |none=>rw[hp] at VO;cases VO
     |some p=>
      obtain⟨hc,_⟩:=Ach k p hp;obtain⟨u,hu,IC⟩:=G5 _ _ hc;rw[hp,Option.map_some,Nat.add_assoc,hu] at VO;simp at VO;subst VO;rw[Nat.add_assoc];exact hu
    ·rw[Nat.add_assoc];exact Rk _ (by omega)
   ·cases hk
  ·cases hk
 ·cases hln:C.lnd f i<;>rw[hln] at hk<;>simp only[cond_true,cond_false] at hk
  ·cases Fb:Bx P t<;>rw[Fb] at hk<;>simp only[cond_true,cond_false] at hk
   ·obtain⟨cs,m,y,q,hk,hl,Ib,hA,hF,hm,hy,Qp,Ia,hv⟩:=Ps h hk;obtain⟨c,t',rfl,hk⟩:=A7 hk;obtain⟨rfl,hk⟩:=Dd hk;obtain⟨src,MR,hs⟩:=Sg none q;have hAc:=hA c (by simp)
    refine⟨c,m,y,_,src,hk,hm,hy,JH hs Qp,JE hs Ia,.inl ⟨rfl,Af7 hAc,MR⟩,fun fz h1 h2 bt Re=>?_⟩
    have hFx:=hF _ (List.mem_singleton_self _)
    have hxc:Bs w (Cy s.hp β Y) β (Bw s.tm x) (a.eval x):=by
     cases hp:Bw s.tm x<;>rw[hp] at hx hFx<;>first|exact hx|exact hFx.elim
    have hoc:=(hv fz h1 h2 [a.eval x] ⟨hxc,trivial⟩ bt 1 (Fe hs Re)).1;rcases hAc with hT|⟨es,n,cc,rfl⟩
    ·cases c<;>first|exact⟨.inl trivial,hoc⟩|exact hT.elim
    ·exact⟨.inr ⟨_,_,_,rfl⟩,hoc⟩
   ·obtain⟨ps,ep,hk⟩:=Gf hk;rw[ep] at hx;obtain⟨vs,C4,h3⟩:=hx;obtain⟨cs,m,y,q,hk,hl,Ib,hA,hF,hm,hy,Qp,Ia,hv⟩:=Ps h hk;obtain⟨src,MR,hs⟩:=Sg none q;refine⟨_,m,y,_,src,hk,hm,hy,JH hs Qp,JE hs Ia,.inl ⟨rfl,rfl,MR⟩,fun fz h1 h2 bt Re=>?_⟩
    exact⟨vs,C4,hA,hv fz h1 h2 vs h3 bt 1 (Fe hs Re)⟩
  ·obtain⟨e,he,hk⟩:=B5 hk;unfold ZU at hk;split at hk
   ·rename_i id es' off n ep;rw[ep] at hx;split at hk
    ·rename_i c h0;obtain⟨hb,Eb⟩:=Aj hk;simp only[Bool.and_eq_true] at hb;have he:=Nat.eq_of_beq_eq_true hb.1;have hof:=Nat.eq_of_beq_eq_true hb.2;subst hof;obtain⟨src,MR,hs⟩:=Sg (some (id,0)) (fun _=>none)
     refine⟨_,[],[],_,src,Eb,by simp,by simp,JH hs (by simp),JE hs (by simp),.inr ⟨_,rfl,⟨_,rfl⟩,MR,c,h0⟩,fun fz h1 h2 bt Re=>⟨_,_,_,rfl,?_⟩⟩
     have AP:bt 0=β id:=by rw[Re,MR];exact NU β id
     rw[AP];rcases hx with⟨h3,_,h4,h5⟩|⟨b,ob,y,cap,h3,h4,hy,h5,h6,h7⟩
     ·refine .inl ⟨h3,h4,?_,h5⟩;rcases h.box id _ h0 with⟨_,h8⟩|⟨_,_,h8,_⟩
      ·exact h8
      ·rw[h3] at h8;cases h8
     ·have hy:y=ob:=by rcases hy with e|⟨_,e⟩<;>omega
      subst hy;rcases h.box id _ h0 with⟨h8,_⟩|⟨b',o',h8,h9,h10,_⟩
      ·rw[h3] at h8;cases h8
      ·rw[h3] at h8;cases h8;exact .inr ⟨b,y,cap,h3,h4,h5,by rw[←he];exact h6,h7,h9.weak (fun b _ hb=>K2 hb),h10 rfl⟩
    ·cases hk
   ·obtain⟨z,n,c,hk,hp⟩:=Eu hk;obtain⟨hz,hk⟩:=Aj hk;subst hz;obtain⟨src,MR,hs⟩:=Sg none (fun _=>none)
    have hu:a.eval x=.slice none 0 0:=by
     have hF:Bs w (Cy s.hp β Y) β (Bw s.tm x) (a.eval x):=by rcases hp with e|⟨e,_⟩<;>rw[e] at hx ⊢ <;> exact hx
     have:=Rf hp hF;generalize a.eval x=u at this;cases this;rfl
    refine⟨_,[],[],_,src,hk,by simp,by simp,JH hs (by simp),JE hs (by simp),.inr ⟨_,rfl,⟨_,rfl⟩,MR⟩,fun fz h1 h2 bt Re=>⟨_,_,_,rfl,.inl ⟨by rw[Re,MR];rfl,rfl,rfl,none,hu⟩⟩⟩
structure Au2 (i0 n:Nat) (src:Nat->Nat->Option (Nat × Nat)) (ids x:List Nat):Prop where
 dom:∀i j q,src i j=some q->i0<=i∧i<i0+n
 lent:∀i id off,src i 0=some (id,off)->id∈ids
 mvd:∀i j id off,src i (j+1)=some (id,off)->off=0∧id∈x
 inj0:Dt ids=true->∀i i' id off off',src i 0=some (id,off)->src i' 0=some (id,off')->i=i'
 inj1:Dt x=true->∀i i' j j' id off off',src i (j+1)=some (id,off)->src i' (j'+1)=some (id,off')->i=i'∧j=j'
theorem R0 {hp:Nat->Option Bm}{src src':Nat->Nat->Option (Nat × Nat)}:∀{ps:List PV}{i:Nat}{l:List Fu},(∀k,i<=k->src' k=src k)->L0 hp src i ps l->L0 hp src' i ps l
 |[],_,_,_,h=>h
 |p::ps,i,l,hs,h=>by
  rcases h with⟨h1,h2,h3⟩|⟨x,l',rfl,h2,h3⟩
  ·exact .inl ⟨h1,by rw[hs i (Nat.le_refl _)];exact h2,R0 (fun k hk=>hs k (by omega)) h3⟩
  ·exact .inr ⟨x,l',rfl,by rw[hs i (Nat.le_refl _)];exact h2,R0 (fun k hk=>hs k (by omega)) h3⟩
theorem Vq {bt bt':Tv}:∀{ps:List PV}{us:List Value}{i:Nat},(∀k,i<=k->∀j,bt' k j=bt k j)->Iy w A bt i ps us->Iy w A bt' i ps us
 |[],[],_,_,_=>trivial
 |[],_::_,_,_,h=>h.elim
 |_::_,[],_,_,h=>h.elim
 |_::_,_::_,i,hb,h=>⟨by rw[show bt' i=bt i from funext (hb i (Nat.le_refl _))];exact h.1,Vq (fun k hk=>hb k (by omega)) h.2⟩
theorem EG (h:Cl N w0 X0 Y β s a w){C:F3}{f:FuncId}:∀{ts:List TypeId}{xs:List Operand}{i:Nat}{K:List PV->List Nat->List Nat->List Fu->Option R},DV C P f s.hp i ts (xs.map (Bw s.tm)) K=some r ->
  ∃vs m y l,∃src:Nat->Nat->Option (Nat × Nat),K vs m y l=some r∧(∀id∈m,∃f cc,s.hp id=some (.ar f cc))∧(∀id∈y,∃cc,s.hp id=some (.ar false cc)) ∧
   Au2 i xs.length src (l.flatMap Fu.ids) y∧L0 s.hp src i vs l ∧
   ∀fz:List Nat,(∀id∈m,id∈fz)->(∀id∈fz,∃f cc,s.hp id=some (.ar f cc))->∀bt:Tv,(∀i j,bt i j=(src i j).bind (F5 β))->Iy w (Cy (Af s.hp fz) β Y) bt i vs (xs.map a.eval)
 |[],[],i,K,hk=>⟨[],[],[],[],fun _ _=>none,hk,by simp,by simp,⟨by simp,by simp,by simp,by simp,by simp⟩,rfl,fun _ _ _ _ _=>trivial⟩
 |[],_::_,i,K,hk=>by cases hk
 |_::_,[],i,K,hk=>by cases hk
 |t::ts,x::xs,i,K,hk=>by
  simp only[List.map_cons] at hk;unfold DV at hk;obtain⟨v,m,y,l,src,hk,hm,hy,WV,Q3,hl,hv⟩:=OS h hk;obtain⟨vs,ms,ys,ls,srcs,hk,Xv,hys,hS,hL,Ob⟩:=EG h hk;have Sg:∃sr:Nat->Nat->Option (Nat × Nat),sr i=src∧∀k,k≠i->sr k=srcs k:=⟨fun k=>if k=i then src else srcs k,by simp,fun k hk=>by simp[hk]⟩
  obtain⟨sr,hsi,QQ⟩:=Sg
  have BG:∀id off,src 0=some (id,off)->id∈l.flatMap Fu.ids:=by
   intro id off e;rcases hl with⟨_,_,h3⟩|⟨x',rfl,h3⟩
   ·rw[h3] at e;cases e
   ·cases x' with
    |var id' off' cts ws=>rw[h3.2.1] at e;cases e;simp[Fu.ids]
    |row id'=>rw[h3.2.1] at e;cases e;simp[Fu.ids]
    |none=>rw[h3.2] at e;cases e
  refine⟨v::vs,m++ms,y++ys,l++ls,sr,hk,?_,?_,⟨?_,?_,?_,?_,?_⟩,?_,fun fz h1 h2 bt Re=>⟨?_,?_⟩⟩
  ·intro i hi;rcases List.mem_append.1 hi with hi|hi
   ·exact hm i hi
   ·exact Xv i hi
  ·intro i hi;rcases List.mem_append.1 hi with hi|hi
   ·exact hy i hi
   ·exact hys i hi
  ·intro k j q hq;simp only[List.length_cons];by_cases e:k=i
   ·subst e;omega
   ·rw[QQ k e] at hq;have:=hS.dom k j q hq;omega
  ·intro k id off hq;rw[List.flatMap_append];by_cases e:k=i
   ·subst e;rw[hsi] at hq;exact List.mem_append.2 (.inl (BG id off hq))
   ·rw[QQ k e] at hq;exact List.mem_append.2 (.inr (hS.lent k id off hq))
  ·intro k j id off hq;by_cases e:k=i
   ·subst e;rw[hsi] at hq;exact⟨(WV j id off hq).1,List.mem_append.2 (.inl (WV j id off hq).2)⟩
   ·rw[QQ k e] at hq;exact⟨(hS.mvd k j id off hq).1,List.mem_append.2 (.inr (hS.mvd k j id off hq).2)⟩
  ·intro hn k k' id off off' hq E2;rw[List.flatMap_append] at hn;obtain⟨_,h4,h5⟩:=G9 hn;by_cases e:k=i
   ·by_cases e':k'=i
    ·omega
    ·rw[QQ k' e'] at E2;subst e;rw[hsi] at hq;exact absurd (hS.lent k' id off' E2) (h5 id (BG id off hq))
   ·rw[QQ k e] at hq;by_cases e':k'=i
    ·subst e';rw[hsi] at E2;exact absurd (hS.lent k id off hq) (h5 id (BG id off' E2))
    ·rw[QQ k' e'] at E2;exact hS.inj0 h4 k k' id off off' hq E2
  ·intro hn k k' j j' id off off' hq E2;obtain⟨h3,h4,h5⟩:=G9 hn;by_cases e:k=i
   ·by_cases e':k'=i
    ·subst e;subst e';rw[hsi] at hq E2;exact⟨rfl,Q3 h3 j j' id off off' hq E2⟩
    ·rw[QQ k' e'] at E2;subst e;rw[hsi] at hq;exact absurd (hS.mvd k' j' id off' E2).2 (h5 id (WV j id off hq).2)
   ·rw[QQ k e] at hq;by_cases e':k'=i
    ·subst e';rw[hsi] at E2;exact absurd (hS.mvd k j id off hq).2 (h5 id (WV j' id off' E2).2)
    ·rw[QQ k' e'] at E2;exact hS.inj1 h4 k k' j j' id off off' hq E2
  ·have Qu:L0 s.hp sr (i+1) vs ls:=R0 (fun k hk=>QQ k (by omega)) hL
   rcases hl with⟨rfl,hnp,h3⟩|⟨x',rfl,h3⟩
   ·exact .inl ⟨hnp,by rw[hsi];exact h3,Qu⟩
   ·exact .inr ⟨x',ls,rfl,by rw[hsi];exact h3,Qu⟩
  ·exact hv fz (fun i hi=>h1 i (by simp[hi])) h2 (bt i) (fun j=>by rw[Re,hsi])
  ·refine Ob fz (fun i hi=>h1 i (by simp[hi])) h2 (fun k j=>(srcs k j).bind (F5 β)) (fun _ _=>rfl) |> Vq fun k hk j=>?_
   rw[Re,QQ k (by omega)]
end
open Go.RowKit
section
variable {R:Type} {r:R} {P:Program} {N:Nat} {w0:World} {X0:Gv} {Y:Nat->Prop} {β β':Bt} {s:St} {a:Act} {w w':World} {o:Oper} {A:Nat->Prop}
theorem Abr {p:PV}{u:Value}(h:Ar w A p u):Bs w A β p u:=by
 have h0:=h;cases h<;>exact h0
theorem Aav {t:Nat}{ct:CT}{was p:PV}{K:Nat->PV->List (Nat × Bm)->Option R} (hk:SV N t ct was p K=some r):
  (∃c,K t c []=some r∧Qs c∧∀w A q u,Fh w A q p u->Ar w A c u)∨∃es n cc,p=.own es n cc∧K (t+1) (.view (MU N t) es 0 n) [(MU N t,.ar false cc)]=some r:=by
 have tree:∀t',(Uu t' p fun c=>K t c [])=some r->∃c,K t c []=some r∧Qs c∧∀w A q u,Fh w A q p u->Ar w A c u:=by
  intro t' hk;obtain⟨c,hk,hT,Xj,hv⟩:=J4 hk;refine⟨c,hk,hT,fun w A q u h=>(hv w A (fun _=>none) u ?_).1⟩
  cases p<;>first|exact h|exact Xj.elim
 unfold SV at hk;cases ct with
 |sl es=>
  dsimp only at hk;split at hk
  ·unfold HR at hk;split at hk
   ·rename_i es' n c;cases hb:Nat.beq es' es<;>rw[hb] at hk
    ·cases hk
    ·have:=Nat.eq_of_beq_eq_true hb;subst this;exact .inr ⟨_,_,_,rfl,hk⟩
   ·cases hk
  ·have h2:(Uu (.sl es) p fun c=>(match c with | .lst _ es n c=>K t (.lst false es n c) []|_=>none))=some r:=hk
   obtain⟨c,hk,hT,Xj,hv⟩:=J4 h2;split at hk
   ·refine .inl ⟨_,hk,hT,fun w A q u h=>Ar.unz (hv w A (fun _=>none) u ?_).1⟩
    cases p<;>first|exact h|exact Xj.elim
   ·cases hk
 |int k=>exact .inl (tree _ hk)
 |bool=>exact .inl (tree _ hk)
 |str=>exact .inl (tree _ hk)
 |any=>exact .inl (tree _ hk)
theorem Um:∀{cts:List CT}{ws ps:List PV}{t:Nat}{K:Nat->List PV->List (Nat × Bm)->Option R},DD N t cts ws ps K=some r ->
  ∃t' cs bs,∃qs:List (Nat × Nat),K t' cs bs=some r∧cs.length=ps.length∧ps.length=ws.length∧bs.map (·.1)=qs.map (·.1)∧(∀q∈qs,(∃k,q.1=MU N k)∧q.2<ps.length)∧(∀q∈qs,∀q'∈qs,q.2=q'.2->q.1=q'.1) ∧
   (∀i bx,(i,bx)∈bs->∃c,bx=.ar false c)∧(∀c∈cs,∀i∈Al c,∃bx,(i,bx)∈bs) ∧
   ∀(w:World) (A:Nat->Prop) (own β':Bt) (j0:Nat) (us:List Value),(∀q∈qs,β' q.1=own (j0+q.2))->Ec w A own j0 ps us->Bd (Bs w A β') cs us∧∀i bx,(i,bx)∈bs->Nv w A β' i bx
 |[],[],ps,t,K,hk=>by
  obtain⟨rfl,hk⟩:=Dd hk;refine⟨t,[],[],[],hk,rfl,rfl,rfl,by simp,by simp,by simp,by simp,fun w A own β' j0 us _ h=>⟨?_,by simp⟩⟩
  cases us with
  |nil=>trivial
  |cons u us=>exact h.elim
 |[],_::_,_,_,_,hk=>by cases hk
 |_::_,[],_,_,_,hk=>by cases hk
 |ct::cts,x::ws,ps,t,K,hk=>by
  unfold DD at hk;obtain⟨p,ps',We,Du⟩:=A7 hk;subst We;rcases Aav Du with⟨c,Eb,hT,hv⟩|⟨es,n,cc,rfl,Eb⟩
  ·obtain⟨t',cs,bs,qs,Jg,hl,Ib,hb,Qp,Ia,Eg,G5,Ob⟩:=Um Eb;refine⟨t',c::cs,bs,qs.map (fun q=>(q.1,q.2+1)),Jg,by simp[hl],by simp[Ib],by rw[hb];simp,?_,?_,Eg,?_,fun w A own β' j0 us hβ ho=>?_⟩
   ·intro q hq;obtain⟨q0,Qf,rfl⟩:=List.mem_map.1 hq;exact⟨(Qp q0 Qf).1,by have:=(Qp q0 Qf).2;simp only[List.length_cons];omega⟩
   ·intro q hq q' E2 e;obtain⟨q0,Qf,rfl⟩:=List.mem_map.1 hq;obtain⟨q1,H2,rfl⟩:=List.mem_map.1 E2;exact Ia q0 Qf q1 H2 (by simp only at e;omega)
   ·intro y hy i hi;rcases List.mem_cons.1 hy with rfl|hy
    ·rw[Gl hT] at hi;cases hi
    ·exact G5 y hy i hi
   ·cases us with
    |nil=>exact ho.elim
    |cons u us=>
     obtain⟨h1,h2⟩:=Ob w A own β' (j0+1) us (fun q hq=>by rw[hβ _ (List.mem_map_of_mem hq)];congr 1;simp only;omega) ho.2
     exact⟨⟨Abr (hv w A _ u ho.1),h1⟩,h2⟩
  ·obtain⟨t',cs,bs,qs,Jg,hl,Ib,hb,Qp,Ia,Eg,G5,Ob⟩:=Um Eb;refine⟨t',_::cs,(MU N t,.ar false cc)::bs,(MU N t,0)::qs.map (fun q=>(q.1,q.2+1)),Jg,by simp[hl],by simp[Ib],by simp only[List.map_cons,hb];simp,?_,?_,?_,?_,fun w A own β' j0 us hβ ho=>?_⟩
   ·intro q hq;rcases List.mem_cons.1 hq with rfl|hq
    ·exact⟨⟨t,rfl⟩,by simp⟩
    ·obtain⟨q0,Qf,rfl⟩:=List.mem_map.1 hq;exact⟨(Qp q0 Qf).1,by have:=(Qp q0 Qf).2;simp only[List.length_cons];omega⟩
   ·intro q hq q' E2 e;rcases List.mem_cons.1 hq with rfl|hq
    ·rcases List.mem_cons.1 E2 with rfl|E2
     ·rfl
     ·obtain⟨q0,Qf,rfl⟩:=List.mem_map.1 E2;simp only at e;omega
    ·obtain⟨q0,Qf,rfl⟩:=List.mem_map.1 hq;rcases List.mem_cons.1 E2 with rfl|E2
     ·simp only at e;omega
     ·obtain⟨q1,H2,rfl⟩:=List.mem_map.1 E2;exact Ia q0 Qf q1 H2 (by simp only at e;omega)
   ·intro i bx hm;rcases List.mem_cons.1 hm with e|hm
    ·cases e;exact⟨cc,rfl⟩
    ·exact Eg i bx hm
   ·intro y hy i hi;rcases List.mem_cons.1 hy with rfl|hy
    ·simp only[Al,List.mem_singleton] at hi;subst hi;exact⟨_,List.mem_cons_self⟩
    ·obtain⟨bx,Jh⟩:=G5 y hy i hi;exact⟨bx,List.mem_cons_of_mem _ Jh⟩
   ·cases us with
    |nil=>exact ho.elim
    |cons u us=>
     obtain⟨h1,h2⟩:=Ob w A own β' (j0+1) us (fun q hq=>by rw[hβ _ (List.mem_cons_of_mem _ (List.mem_map_of_mem hq))];congr 1;simp only;omega) ho.2
     have h0:=hβ (MU N t,0) List.mem_cons_self;simp only[Nat.add_zero] at h0;refine⟨⟨?_,h1⟩,fun i bx hm=>?_⟩
     ·rcases ho.1 with⟨h3,rfl,_,h5⟩|⟨b,ob,cap,h3,h4,h5,h6,h7,_⟩
      ·exact .inl ⟨h0.trans h3,rfl,rfl,h5⟩
      ·exact .inr ⟨b,ob,ob,cap,h0.trans h3,h4,.inl rfl,h5,h6,h7⟩
     ·rcases List.mem_cons.1 hm with e|hm
      ·cases e;exact Sh ho.1 h0
      ·exact h2 i bx hm
def PU (hp Cn:Nat->Option Bm)(bs:List (Nat × Bm)) (x:Fu):Prop:=
 match x with
 |.var id off _ ws=>∃c cs,hp id=some (.st c)∧Cn id=some (.st (Cs c cs off))∧cs.length=ws.length∧off+cs.length<=c.length∧∀p∈cs,∀i∈Al p,∃bx,(i,bx)∈bs
 |.row id=>∃c cs,hp id=some (.ar false c)∧Cn id=some (.ar false cs)
 |.none=>True
def XS (β β':Bt)(w':World)(A:Nat->Prop)(hp Cn:Nat->Option Bm)(x:Fu):Prop:=
 match x with
 |.var id off _ ws=>∃c cs,hp id=some (.st c)∧Cn id=some (.st (Cs c cs off))∧cs.length=ws.length∧off+cs.length<=c.length ∧
   ∀b o,β id=some (b,o)->(∀(j:Nat) p,cs[j]?=some p->∃v,w'.cell? ⟨b,o+off+j,none⟩=some v∧Bs w' A β' p v)∧∀j,j<cs.length->w'.frozen? ⟨b,o+off+j,none⟩=false
 |.row id=>∃cs,Cn id=some (.ar false cs)∧((β id=none∧cs=[])∨∃b o,β id=some (b,o)∧MT w' A ⟨b,o,none⟩ cs∧∀j,o<=j->j<bsz w' b->w'.frozen? ⟨b,j,none⟩=false)
 |.none=>True
theorem Sw {hp Cc Cn:Nat->Option Bm}{bs bs1:List (Nat × Bm)} {x:Fu}(h1:∀i∈x.ids,Cc i=hp i)(hb:∀q∈bs,q∈bs1)(h:PU Cc Cn bs x):PU hp Cn bs1 x:=by
 cases x with
 |var id off cts ws=>
  obtain⟨c,cs,h2,h3,h4,h5,h6⟩:=h;refine⟨c,cs,by rw[←h1 id (by simp[Fu.ids])];exact h2,h3,h4,h5,fun p hp i hi=>?_⟩
  obtain⟨bx,Jh⟩:=h6 p hp i hi;exact⟨bx,hb _ Jh⟩
 |row id=>
  obtain⟨c,cs,h2,h3⟩:=h;exact⟨c,cs,by rw[←h1 id (by simp[Fu.ids])];exact h2,h3⟩
 |none=>trivial
theorem Vg {hp Cc Cn:Nat->Option Bm}{x:Fu}(h1:∀i∈x.ids,Cc i=hp i)(h:XS β β' w' A Cc Cn x):XS β β' w' A hp Cn x:=by
 cases x with
 |var id off cts ws=>
  obtain⟨c,cs,h2,h3⟩:=h;exact⟨c,cs,by rw[←h1 id (by simp[Fu.ids])];exact h2,h3⟩
 |row id=>exact h
 |none=>trivial
theorem TC {hp Cc:Nat->Option Bm}{q:Option (Nat × Nat)} {p:PV}{x:Fu}(h1:∀i∈x.ids,Cc i=hp i)(h:LOk hp q p x):LOk Cc q p x:=by
 cases x with
 |var id off cts ws'=>
  obtain⟨h2,h3,h5,c,h6,h7⟩:=h;exact⟨h2,h3,h5,c,by rw[h1 id (by simp[Fu.ids])];exact h6,h7⟩
 |row id=>
  obtain⟨h2,h3,c,h4⟩:=h;exact⟨h2,h3,c,by rw[h1 id (by simp[Fu.ids])];exact h4⟩
 |none=>exact h
theorem Sz {hp Cc:Nat->Option Bm}{src:Nat->Nat->Option (Nat × Nat)}:∀{ps:List PV}{i:Nat}{l:List Fu},(∀i∈l.flatMap Fu.ids,Cc i=hp i)->L0 hp src i ps l->L0 Cc src i ps l
 |[],_,_,_,h=>h
 |p::ps,i,l,hs,h=>by
  rcases h with⟨h1,h2,h3⟩|⟨x,l',rfl,h2,h3⟩
  ·exact .inl ⟨h1,h2,Sz hs h3⟩
  ·exact .inr ⟨x,l',rfl,TC (fun k hk=>hs k (by simp only[List.flatMap_cons,List.mem_append];exact .inl hk)) h2,Sz (fun k hk=>hs k (by simp only[List.flatMap_cons,List.mem_append];exact .inr hk)) h3⟩
theorem NP {own:Bt}{bt:Tv}{j i:Nat}{p:PV}{zs:List PV}{r:List (List PV)} (hp:Tt p=false)(h:Qt w A own bt j i (p::zs) r):Qt w A own bt j (i+1) zs r:=by
 cases p<;>first|exact h|cases hp
theorem Pc {src:Nat->Nat->Option (Nat × Nat)} {β:Bt}:∀{zs:List PV}{l:List Fu}{ro:List (List PV)} {i j t:Nat}{hp:Nat->Option Bm}{K:(Nat->Option Bm)->List (Nat × Bm)->Option R},
  Q5 N t l ro hp K=some r->L0 hp src i zs l->Dt (l.flatMap Fu.ids)=true ->
  ∃Cn bs,∃qs:List (Nat × Nat),K Cn bs=some r∧bs.map (·.1)=qs.map (·.1)∧(∀q∈qs,(∃k,q.1=MU N k)∧j<=q.2)∧(∀q∈qs,∀q'∈qs,q.2=q'.2->q.1=q'.1)∧(∀i bx,(i,bx)∈bs->∃c,bx=.ar false c) ∧
   (∀i,i ∉ l.flatMap Fu.ids->Cn i=hp i)∧(∀x∈l,PU hp Cn bs x) ∧
   ∀(w':World) (A:Nat->Prop) (own β':Bt) (bt:Tv),(∀q∈qs,β' q.1=own q.2)->(∀i,bt i 0=(src i 0).bind (F5 β))->Qt w' A own bt j i zs ro ->
    (∀i bx,(i,bx)∈bs->Nv w' A β' i bx)∧∀x∈l,XS β β' w' A hp Cn x
 |[],l,ro,i,j,t,hp,K,hk,hL,hn=>by
  have hL:l=[]:=hL;subst hL;unfold Q5 at hk;obtain⟨rfl,hk⟩:=Dd hk;exact⟨hp,[],[],hk,rfl,by simp,by simp,by simp,fun _ _=>rfl,by simp,fun w' A own β' bt _ _ _=>⟨by simp,by simp⟩⟩
 |p::zs,l0,ro,i,j,t,hp,K,hk,hL0,hn=>by
  rcases hL0 with⟨R2,_,hL⟩|⟨x,l,rfl,hok,hL⟩
  rotate_left
  ··simp only[List.flatMap_cons] at hn;obtain⟨JZ,hn2,hn3⟩:=G9 hn;cases x with
    |var id off cts ws'=>
     obtain⟨rfl,Sg,Kg,c,hc,Wg⟩:=hok;unfold Q5 at hk;obtain⟨cs,ro',hro,Du⟩:=A7 hk;subst hro;obtain⟨t',cs',bs,qs,Eb,Yy,Of,hb,Qp,Ia,Eg,G5,hv⟩:=Um Du;rw[hc] at Eb;simp only at Eb;change Q5 N t' l ro' (Ci hp id (some (.st (Cs c cs' off)))) (fun Cn bs'=>K Cn (bs++bs'))=some r at Eb
     have OP:id ∉ l.flatMap Fu.ids:=hn3 id (by simp[Fu.ids])
     have UQ:L0 (Ci hp id (some (.st (Cs c cs' off)))) src (i+1) zs l:=Sz (fun k hkm=>Ah _ _ (fun e=>OP (e ▸ hkm))) hL
     obtain⟨Cn,bs',qs',Jg,G1,H2,PZ,PS,I9,hsh,FQ⟩:=Pc (β:=β) (j:=j+cs.length) Eb UQ hn2;have Aby:Cn id=some (.st (Cs c cs' off)):=by rw[I9 id OP,Ak]
     have Yg:∀x∈l,∀k∈x.ids,Ci hp id (some (.st (Cs c cs' off))) k=hp k:=fun x hx k hkm=>Ah _ _ (fun e=>OP (e ▸ List.mem_flatMap.2 ⟨x,hx,hkm⟩))
     refine⟨Cn,bs++bs',qs.map (fun q=>(q.1,j+q.2))++qs',Jg,by simp only[List.map_append,hb,G1];simp,?_,?_,?_,?_,?_,fun w' A own β' bt hβ Re ho=>?_⟩
     ·intro q hq;rcases List.mem_append.1 hq with hq|hq
      ·obtain⟨q0,Qf,rfl⟩:=List.mem_map.1 hq;exact⟨(Qp q0 Qf).1,by simp only;omega⟩
      ·exact⟨(H2 q hq).1,by have:=(H2 q hq).2;omega⟩
     ·intro q hq q' E2 e;rcases List.mem_append.1 hq with hq|hq
      ·obtain⟨q0,Qf,rfl⟩:=List.mem_map.1 hq;have:=(Qp q0 Qf).2;rcases List.mem_append.1 E2 with E2|E2
       ·obtain⟨q1,H2,rfl⟩:=List.mem_map.1 E2;exact Ia q0 Qf q1 H2 (by simp only at e;omega)
       ·have:=(H2 q' E2).2;simp only at e;omega
      ·have h5:=(H2 q hq).2;rcases List.mem_append.1 E2 with E2|E2
       ·obtain⟨q1,Aq9,rfl⟩:=List.mem_map.1 E2;have:=(Qp q1 Aq9).2;simp only at e;omega
       ·exact PZ q hq q' E2 e
     ·intro k bx hm;rcases List.mem_append.1 hm with hm|hm
      ·exact Eg k bx hm
      ·exact PS k bx hm
     ·intro k hk;simp only[List.flatMap_cons,List.mem_append,not_or] at hk;rw[I9 k hk.2];exact Ah _ _ (by rintro rfl;exact hk.1 (by simp[Fu.ids]))
     ·intro x hx;rcases List.mem_cons.1 hx with rfl|hx
      ·refine⟨c,cs',hc,Aby,by omega,by omega,fun p hp k hk=>?_⟩
       obtain⟨bx,Jh⟩:=G5 p hp k hk;exact⟨bx,List.mem_append.2 (.inl Jh)⟩
      ·exact Sw (Yg x hx) (fun q hq=>List.mem_append.2 (.inr hq)) (hsh x hx)
     ·obtain⟨⟨b,ob,AP,Db,vs,hov,Cr,XB⟩,ho⟩:=ho
      ·obtain⟨h1,h2⟩:=hv w' A own β' j vs (fun q hq=>hβ _ (List.mem_append.2 (.inl (List.mem_map_of_mem hq)))) hov
       obtain⟨h3,h4⟩:=FQ w' A own β' bt (fun q hq=>hβ q (List.mem_append.2 (.inr hq))) Re ho
       refine⟨fun k bx hm=>?_,fun x hx=>?_⟩
       ·rcases List.mem_append.1 hm with hm|hm
        ·exact h2 k bx hm
        ·exact h3 k bx hm
       ·rcases List.mem_cons.1 hx with rfl|hx
        ·refine⟨c,cs',hc,Aby,by omega,by omega,fun b1 o1 hβ1=>?_⟩
         have G5:=Re i;rw[AP,Sg] at G5;simp only[Option.bind_some,F5,hβ1,Option.map_some,Option.some.injEq,Prod.mk.injEq] at G5;obtain⟨rfl,rfl⟩:=G5;refine⟨fun k p hp=>?_,fun k hk=>XB k (by omega)⟩
         obtain⟨v,hv,IC⟩:=h1.get hp;exact⟨v,Cr k v hv,IC⟩
        ·exact Vg (Yg x hx) (h4 x hx)
    |row id=>
     obtain⟨⟨pz,rfl⟩,Sg,c,hc⟩:=hok;unfold Q5 at hk;obtain⟨cs,ro',hro,Eb⟩:=A7 hk;subst hro;have OP:id ∉ l.flatMap Fu.ids:=hn3 id (by simp[Fu.ids])
     have UQ:L0 (Ci hp id (some (.ar false cs))) src (i+1) zs l:=Sz (fun k hkm=>Ah _ _ (fun e=>OP (e ▸ hkm))) hL
     obtain⟨Cn,bs',qs',Jg,G1,H2,PZ,PS,I9,hsh,FQ⟩:=Pc (β:=β) (j:=j) Eb UQ hn2;have Aby:Cn id=some (.ar false cs):=by rw[I9 id OP,Ak]
     have Yg:∀x∈l,∀k∈x.ids,Ci hp id (some (.ar false cs)) k=hp k:=fun x hx k hkm=>Ah _ _ (fun e=>OP (e ▸ List.mem_flatMap.2 ⟨x,hx,hkm⟩))
     refine⟨Cn,bs',qs',Jg,G1,H2,PZ,PS,?_,?_,fun w' A own β' bt hβ Re ho=>?_⟩
     ·intro k hk;simp only[List.flatMap_cons,List.mem_append,not_or] at hk;rw[I9 k hk.2];exact Ah _ _ (by rintro rfl;exact hk.1 (by simp[Fu.ids]))
     ·intro x hx;rcases List.mem_cons.1 hx with rfl|hx
      ·exact⟨c,cs,hc,Aby⟩
      ·exact Sw (Yg x hx) (fun q hq=>hq) (hsh x hx)
     ·obtain⟨TE,ho⟩:=ho
      ·obtain⟨h3,h4⟩:=FQ w' A own β' bt hβ Re ho;refine⟨h3,fun x hx=>?_⟩
       rcases List.mem_cons.1 hx with rfl|hx
       ·refine⟨cs,Aby,?_⟩;have G5:=Re i;rw[Sg] at G5;simp only[Option.bind_some,NU] at G5;rw[G5] at TE;exact TE
       ·exact Vg (Yg x hx) (h4 x hx)
    |none=>
     obtain⟨⟨pz,rfl⟩,Sg⟩:=hok;unfold Q5 at hk;obtain⟨cs,ro',hro,Eb⟩:=A7 hk;subst hro;obtain⟨Cn,bs',qs',Jg,G1,H2,PZ,PS,I9,hsh,FQ⟩:=Pc (β:=β) (j:=j) Eb hL hn2;refine⟨Cn,bs',qs',Jg,G1,H2,PZ,PS,?_,?_,fun w' A own β' bt hβ Re ho=>?_⟩
     ·intro k hk;simp only[List.flatMap_cons,List.mem_append,not_or] at hk;exact I9 k hk.2
     ·intro x hx;rcases List.mem_cons.1 hx with rfl|hx
      ·trivial
      ·exact hsh x hx
     ·obtain⟨TE,ho⟩:=ho
      ·obtain⟨h3,h4⟩:=FQ w' A own β' bt hβ Re ho;refine⟨h3,fun x hx=>?_⟩
       rcases List.mem_cons.1 hx with rfl|hx
       ·trivial
       ·exact h4 x hx
  ·obtain⟨Cn,bs',qs',Jg,G1,H2,PZ,PS,I9,hsh,FQ⟩:=Pc (β:=β) (j:=j) hk hL hn;exact⟨Cn,bs',qs',Jg,G1,H2,PZ,PS,I9,hsh,fun w' A own β' bt hβ Re ho=>FQ w' A own β' bt hβ Re (NP R2 ho)⟩
end
open Go.RowKit
theorem E9 (hp:Nat->Option Bm)(ids:List Nat)(i:Nat):On hp ids i=if i∈ids then (hp i).map (fun _=>Bm.mv) else hp i:=by
 unfold On;by_cases hi:i∈ids
 ·have:ids.any (Nat.beq i)=true:=List.any_eq_true.2 ⟨i,hi,Nat.beq_refl i⟩;rw[this,if_pos hi];rfl
 ·have:ids.any (Nat.beq i)=false:=by
   cases hb:ids.any (Nat.beq i)
   ·rfl
   ·obtain⟨j,hj,e⟩:=List.any_eq_true.1 hb;exact absurd (Nat.eq_of_beq_eq_true e ▸ hj) hi
  rw[this,if_neg hi];rfl
theorem Na:∀{nw:List (Nat × Bm)} {hp:Nat->Option Bm},Bo hp nw=true->(nw.map (·.1)).Nodup
 |[],_,_=>List.nodup_nil
 |(i,b)::r,hp,h=>by
  simp only[Bo,Bool.and_eq_true,Option.isNone_iff_eq_none,Bool.not_eq_true'] at h;simp only[List.map_cons,List.nodup_cons];refine⟨fun hm=>?_,Na h.2⟩
  obtain⟨q,hq,e⟩:=List.mem_map.1 hm;have:r.any (fun q=>Nat.beq q.1 i)=true:=List.any_eq_true.2 ⟨q,hq,by rw[e];exact Nat.beq_refl i⟩
  rw[this] at h;cases h.1.2
theorem YO:∀{l:List (Nat × Nat)},(l.map (·.1)).Nodup->∀q∈l,Qh l q.1=some q.2
 |[],_,_,h=>by cases h
 |(j,b)::r,hn,q,hq=>by
  simp only[List.map_cons,List.nodup_cons] at hn;unfold Qh;rcases List.mem_cons.1 hq with rfl|hq
  ·simp only[Nat.beq_refl,cond_true]
  ·have:Nat.beq q.1 j=false:=by
    cases hb:Nat.beq q.1 j
    ·rfl
    ·exact absurd (Nat.eq_of_beq_eq_true hb ▸ List.mem_map_of_mem hq) hn.1
   simp only[this,cond_false];exact YO hn.2 q hq
theorem JF:∀{l:List (Nat × Nat)} {i:Nat},i ∉ l.map (·.1)->Qh l i=none
 |[],_,_=>rfl
 |(j,b)::r,i,h=>by
  simp only[List.map_cons,List.mem_cons,not_or] at h;unfold Qh
  have:Nat.beq i j=false:=by
   cases hb:Nat.beq i j
   ·rfl
   ·exact absurd (Nat.eq_of_beq_eq_true hb) h.1
  simp only[this,cond_false];exact JF h.2
section
variable {R:Type} {r:R} {P:Program} {N:Nat} {w0:World} {X0:Gv} {Y:Nat->Prop} {β β':Bt} {s:St} {a:Act} {w w':World} {o:Oper} {A A':Nat->Prop}
theorem Fh.weak (hA:∀b,b<w.heap.size->A' b->A b){q:Option (Nat × Nat)} {p:PV}{u:Value}(h:Fh w A q p u):Fh w A' q p u:=by
 have tr:∀{p:PV},Ar w A p u->Ar w A' p u:=fun h=>h.step (B4.refl _ _) hA
 cases p with
 |own es n c=>
  rcases h with h|⟨b,ob,cap,h1,h2,h3,h4,h5,h6,h7⟩
  ·exact .inl h
  ·exact .inr ⟨b,ob,cap,h1,h2,h3,h4,h5,h6.weak hA,h7⟩
 |_=>exact tr h
theorem Ec.weak (hA:∀b,b<w.heap.size->A' b->A b){own:Bt}:∀{ps:List PV}{us:List Value}{j:Nat},Ec w A own j ps us->Ec w A' own j ps us
 |[],[],_,_=>trivial
 |[],_::_,_,h=>h.elim
 |_::_,[],_,h=>h.elim
 |_::_,_::_,_,h=>⟨h.1.weak hA,Ec.weak hA h.2⟩
theorem MH.weak (hA:∀b,b<w.heap.size->A' b->A b){bt:Bt}{p:PV}{u:Value}(h:MH w A bt p u):MH w A' bt p u:=by
 cases p with
 |pbox ps=>
  obtain⟨b,ob,h1,h2,h3,vs,h4,h5⟩:=h;exact⟨b,ob,h1,h2,h3,vs,h4.weak hA,h5⟩
 |tup ps=>
  obtain⟨es,n,c,h1,h2⟩:=h;exact⟨es,n,c,h1,h2.weak hA⟩
 |agg cs=>
  obtain⟨vs,h1,h2,h3⟩:=h;exact⟨vs,h1,h2,h3.weak hA⟩
 |_=>exact⟨h.1,h.2.weak hA⟩
theorem Iy.weak (hA:∀b,b<w.heap.size->A' b->A b){bt:Tv}:∀{ps:List PV}{us:List Value}{i:Nat},Iy w A bt i ps us->Iy w A' bt i ps us
 |[],[],_,_=>trivial
 |[],_::_,_,h=>h.elim
 |_::_,[],_,h=>h.elim
 |_::_,_::_,_,h=>⟨h.1.weak hA,Iy.weak hA h.2⟩
theorem Sc {bt:Tv}(k:Bool):∀{xs:List Operand}{ps:List PV}{i:Nat},Iy w A bt i ps (xs.map a.eval)->Iy w A bt i (Hy k xs ps) (xs.map a.eval)
 |[],[],_,h=>h
 |[],_::_,_,h=>h
 |_::_,[],_,h=>h
 |x::xs,p::ps,i,h=>by
  simp only[List.map_cons] at h ⊢;refine⟨?_,Sc k h.2⟩;split
  ·exact⟨.inl trivial,Ar.lnil _ _⟩
  ·exact h.1
theorem ES (k:Bool)(x:Operand)(xs:List Operand)(p:PV)(ps:List PV):∃p',Hy k (x::xs) (p::ps)=p'::Hy k xs ps∧Tt p'=Tt p∧(Tt p=true->p'=p):=by
 refine⟨_,rfl,?_,fun h=>?_⟩
 ·split
  ·rfl
  ·rfl
 ·split
  ·cases h
  ·rfl
theorem Nt {hp:Nat->Option Bm}{src:Nat->Nat->Option (Nat × Nat)} (k:Bool):∀{xs:List Operand}{ps:List PV}{i:Nat}{l:List Fu},L0 hp src i ps l->L0 hp src i (Hy k xs ps) l
 |[],[],_,_,h=>h
 |[],_::_,_,_,h=>h
 |_::_,[],_,_,h=>h
 |x::xs,p::ps,i,l,h=>by
  obtain⟨p',e,h1,h2⟩:=ES k x xs p ps;rw[e];rcases h with⟨h3,h4,h5⟩|⟨y,l',rfl,h4,h5⟩
  ·exact .inl ⟨by rw[h1];exact h3,h4,Nt k h5⟩
  ·exact .inr ⟨y,l',rfl,by rw[h2 (QT h4)];exact h4,Nt k h5⟩
theorem X4 {hp:Nat->Option Bm}{src:Nat->Nat->Option (Nat × Nat)}:∀{ps:List PV}{i:Nat}{l:List Fu},L0 hp src i ps l->∀id∈l.flatMap Fu.ids,Cx (hp id)∧∃k off,src k 0=some (id,off)
 |[],_,_,h,id,Bi=>by
  have h:_=[]:=h;rw[h] at Bi;cases Bi
 |p::ps,i,l,h,id,Bi=>by
  rcases h with⟨_,_,h3⟩|⟨x,l',rfl,h2,h3⟩
  ·exact X4 h3 id Bi
  ·simp only[List.flatMap_cons,List.mem_append] at Bi;rcases Bi with Bi|Bi
   ·cases x with
    |var id' off cts ws=>
     simp only[Fu.ids,List.mem_singleton] at Bi;subst Bi;obtain⟨_,h4,_,c,h5,_⟩:=h2;exact⟨by rw[h5];trivial,i,_,h4⟩
    |row id'=>
     simp only[Fu.ids,List.mem_singleton] at Bi;subst Bi;obtain⟨_,h4,c,h5⟩:=h2;exact⟨by rw[h5];trivial,i,_,h4⟩
    |none=>simp[Fu.ids] at Bi
   ·exact X4 h3 id Bi
theorem Aaw {hp:Nat->Option Bm}{src:Nat->Nat->Option (Nat × Nat)}:∀{ps:List PV}{i:Nat}{l:List Fu},L0 hp src i ps l->∀k p id off,ps[k]?=some p->src (i+k) 0=some (id,off) ->
   (∃c ws,hp id=some (.st c)∧p=.pbox ws∧off+ws.length<=c.length)∨((∃c,hp id=some (.ar false c))∧off=0∧∃ws,p=.tup ws)
 |[],_,_,_,k,p,id,off,hp,_=>by simp at hp
 |p::ps,i,l,h,k,p',id,off,Cn,hs=>by
  have Qu:∃l',L0 hp src (i+1) ps l':=by
   rcases h with⟨_,_,h3⟩|⟨x,l',_,_,h3⟩<;>exact⟨_,h3⟩
  cases k with
  |succ k=>
   obtain⟨l',h'⟩:=Qu;exact Aaw h' k p' id off (by simpa using Cn) (by rw[show i+1+k=i+(k+1) by omega];exact hs)
  |zero=>
   simp only[List.getElem?_cons_zero,Option.some.injEq] at Cn;subst Cn;rw[Nat.add_zero] at hs;rcases h with⟨_,h2,_⟩|⟨x,l',_,h2,_⟩
   ·rw[hs] at h2;cases h2
   ·cases x with
    |var id' off' cts ws=>
     obtain⟨h3,h4,_,c,h5,h6⟩:=h2;rw[hs] at h4;cases h4;exact .inl ⟨c,ws,h5,h3,h6⟩
    |row id'=>
     obtain⟨h3,h4,c,h5⟩:=h2;rw[hs] at h4;cases h4;exact .inr ⟨⟨c,h5⟩,rfl,h3⟩
    |none=>
     have:=h2.2;rw[hs] at this;cases this
theorem KH {hp : Nat -> Option Bm} {src : Nat -> Nat -> Option (Nat × Nat)} {id off : Nat} {cts : List CT} {ws : List PV} : ∀ {ps : List PV} {i : Nat} {l : List Fu}, L0 hp src i ps l -> Fu.var id off cts ws ∈ l ->
      ∃ k, ps[k]? = some (.pbox ws) ∧ src (i + k) 0 = some (id, off)
  | [], _, _, h, hm => by
    have h : _ = [] := h
    rw[h] at hm; cases hm
  | p :: ps, i, l, h, hm => by
    have next : ∀ {l'}, L0 hp src (i + 1) ps l' -> Fu.var id off cts ws ∈ l' -> ∃ k, (p :: ps)[k]? = some (.pbox ws) ∧ src (i + k) 0 = some (id, off) := by
      intro l' h' H8
      obtain⟨k, h1, h2⟩ := KH h' H8
      exact⟨k + 1, by simpa using h1, by rw[show i + (k + 1) = i + 1 + k by omega]; exact h2⟩
    rcases h with⟨_, _, h3⟩ | ⟨x, l', rfl, h2, h3⟩
    · exact next h3 hm
    · rcases List.mem_cons.1 hm with e | hm
      · subst e
        obtain⟨h1, h4, _⟩ := h2
        subst h1
        exact⟨0, rfl, h4⟩
      · exact next h3 hm
theorem MI {hp:Nat->Option Bm}{src:Nat->Nat->Option (Nat × Nat)}:∀{ps:List PV}{i:Nat}{l:List Fu},L0 hp src i ps l->∀k id off,i<=k->src k 0=some (id,off)->k<i+ps.length->∃p,ps[k-i]?=some p∧Tt p=true
 |[],i,_,_,k,id,off,h1,_,h3=>by simp at h3;omega
 |p::ps,i,l,h,k,id,off,h1,h2,h3=>by
  by_cases e:k=i
  ·subst e;rcases h with⟨_,h4,_⟩|⟨x,l',_,h4,_⟩
   ·rw[h2] at h4;cases h4
   ·exact⟨p,by simp,QT h4⟩
  ·have Qu:∃l',L0 hp src (i+1) ps l':=by
    rcases h with⟨_,_,h3⟩|⟨x,l',_,_,h3⟩<;>exact⟨_,h3⟩
   obtain⟨l',h'⟩:=Qu;obtain⟨q,h5,h6⟩:=MI h' k id off (by omega) h2 (by simp at h3;omega)
   refine⟨q,?_,h6⟩;rw[show k-i=(k-(i+1))+1 by omega]
   simpa using h5
theorem Iy.len {bt:Tv}:∀{ps:List PV}{us:List Value}{i:Nat},Iy w A bt i ps us->ps.length=us.length
 |[],[],_,_=>rfl
 |[],_::_,_,h=>h.elim
 |_::_,[],_,h=>h.elim
 |_::_,_::_,_,h=>by simp[Iy.len h.2]
theorem MC (h:Cl N w0 X0 Y β s a w){G:Rs}(Iw:JT P G w0 X0){C:F3}{call:Ax}(Dk:∀f args res,call f args=some res->C6 G P f args res){c:Call}{f:FuncId}(ho:o.op=.call c)(hc:c.callee=.value (.func f))
  {K:St->Option R} (hk:Ty C P N call s o f c K=some r):
  ∃s',K s'=some r∧∀(next:Act->World->Prop) (Q:Exit->Act->World->Prop),(∀a' w' β',Cl N w0 X0 Y β' s' a' w'->next a' w')->o.wp P a w next Q:=by
 unfold Ty at hk;obtain⟨vs0,m,x,l,src,Du,hm,hx,hS,hL,Eh⟩:=EG h hk;obtain⟨hb,Eb⟩:=Aj Du;simp only[Bool.and_eq_true] at hb;obtain⟨⟨⟨hnd,Aj3⟩,hN⟩,TW⟩:=hb;have hN:0<N:=Nat.lt_of_succ_le (Nat.le_of_ble_eq_true hN);obtain⟨ZQ,hnx,hlx⟩:=G9 hnd
 have hml:∀i∈m,i ∉ l.flatMap Fu.ids∧i ∉ x:=by
  intro i hi;have:=List.all_eq_true.1 Aj3 i hi
  have hn:∀k∈l.flatMap Fu.ids++x,i≠k:=by
   rintro k hk rfl
   have h2:(l.flatMap Fu.ids++x).any (Nat.beq i)=true:=List.any_eq_true.2 ⟨i,hk,Nat.beq_refl i⟩;rw[h2] at this;cases this
  exact⟨fun hq=>hn i (by simp only[List.mem_append];exact .inl hq) rfl,fun hq=>hn i (by simp only[List.mem_append];exact .inr hq) rfl⟩
 replace hL:=Nt (C.kz f) (xs:=c.args.toList) hL
 replace Eh:=fun fz h1 h2 bt Re=>Sc (a:=a) (C.kz f) (Eh fz h1 h2 bt Re)
 generalize Hy (C.kz f) c.args.toList vs0=vs at Eb Eh hL;obtain⟨rv,ro,Kg,Jg⟩:=CQ Eb;obtain⟨ws,bs,Qd,hwl,PJ,LD,hrs,OU,hws⟩:=Tx (C.shr f) N Jg;obtain⟨Mg,NR⟩:=Aj Qd;obtain⟨lids,BG⟩:∃lids,l.flatMap Fu.ids=lids:=⟨_,rfl⟩;rw[BG] at hS ZQ hlx hml;have Aqq:∀i,i ∉ x->On (Af s.hp m) x i=Af s.hp m i:=fun i hi=>by rw[E9,if_neg hi]
 have RN:∀i,i∈lids->On (Af s.hp m) x i=s.hp i:=fun i hi=>by
  rw[Aqq i (hlx i hi),Br,if_neg (fun hq=>(hml i hq).1 hi)]
 have hLM:L0 (On (Af s.hp m) x) src 0 vs l:=Sz (fun i hi=>RN i (BG ▸ hi)) hL
 obtain⟨Cn,bs',qs,hk6,hbq,Qp,Ia,Eg,I9,hsh,FQ⟩:=Pc (β:=β) (j:=Jm rv) NR hLM (by rw[BG];exact ZQ)
 obtain⟨L5,hk7⟩:=Aj hk6;refine⟨_,hk7,fun next Q hn=>?_⟩
 clear hk Du Eb Jg Qd NR hk6 hk7;rw[BG] at I9;obtain⟨⟨fn,hfn,hfb⟩,Xd⟩:=Dk f vs _ Kg;have hf:=h.freeze hm;have VE:=X4 hL;rw[BG] at VE
 have CY:∀i,i∈lids∨i∈x->Af s.hp m i=s.hp i:=by
  intro i hi;rw[Br,if_neg];intro hq;rcases hi with hi|hi
  ·exact (hml i hq).1 hi
  ·exact (hml i hq).2 hi
 have Sn:∀i,i∈lids∨i∈x->Cx (s.hp i):=by
  intro i hi;rcases hi with hi|hi
  ·exact (VE i hi).1
  ·obtain⟨cc,hcc⟩:=hx i hi;rw[hcc];trivial
 have Arf:∀i j id off,src i j=some (id,off)->id∈lids∨id∈x:=by
  intro i j id off hs;cases j with
  |zero=>exact .inl (hS.lent i id off hs)
  |succ j=>exact .inr (hS.mvd i j id off hs).2
 obtain⟨bt,Re⟩:∃bt:Tv,∀i j,bt i j=(src i j).bind (F5 β):=⟨_,fun _ _=>rfl⟩
 have btS:∀{i j b ob},bt i j=some (b,ob)->∃id off o',src i j=some (id,off)∧β id=some (b,o')∧ob=o'+off∧(id∈lids∨id∈x):=by
  intro i j b ob hb;rw[Re] at hb;cases hs:src i j with
  |none=>rw[hs] at hb;cases hb
  |some q=>
   rw[hs] at hb;obtain⟨id,off⟩:=q;simp only[Option.bind_some,F5] at hb;cases hβ:β id with
   |none=>rw[hβ] at hb;cases hb
   |some p=>
    rw[hβ] at hb;obtain⟨b',o'⟩:=p;simp only[Option.map_some,Option.some.injEq,Prod.mk.injEq] at hb;obtain⟨rfl,rfl⟩:=hb;exact⟨id,off,o',rfl,hβ,rfl,Arf i j id off hs⟩
 have btX:∀{b},WG bt b->∃id o',β id=some (b,o')∧(id∈lids∨id∈x):=by
  rintro b ⟨i,j,ob,hb⟩
  obtain⟨id,off,o',_,h2,_,h4⟩:=btS hb;exact⟨id,o',h2,h4⟩
 have hBA:∀b,WG bt b->HA s.hp β b:=fun b hb=>by
  obtain⟨id,o',h1,h2⟩:=btX hb;exact⟨id,o',Sn id h2,h1⟩
 obtain⟨Yc,hYc⟩:∃Yc:Nat->Prop,∀b,Yc b↔((∃id ob,Cx (Af s.hp m id)∧β id=some (b,ob)∧id ∉ lids∧id ∉ x)∨Y b):=⟨_,fun _=>Iff.rfl⟩
 have Db:vs.length=c.args.toList.length:=by
  have:=(Eh m (fun _ hi=>hi) hm bt Re).len
  simpa using this
 have Atb:Ins w Yc bt vs (c.args.toList.map a.eval):=by
  refine⟨fun b hb=>?_,fun b hb hB=>?_,fun b hB=>?_,fun i j i' j' b ob ob' hb G1=>?_,fun i q hq=>?_,?_⟩
  ·rcases (hYc b).1 hb with⟨id,ob,hl,hβ,_⟩|hY
   ·exact hf.blt id b ob (Co hl) hβ
   ·exact Nat.lt_of_lt_of_le (h.Ylt b hY) h.fr.step.size
  ·obtain⟨id',o',h1,h2⟩:=btX hB;rcases (hYc b).1 hb with⟨id,ob,hl,hβ,h3,h4⟩|hY
   ·have:=hf.inj id id' b ob o' hl (by show Cx (Af s.hp m id');rw[CY id' h2];exact Sn id' h2) hβ h1
    subst this;rcases h2 with h2|h2
    ·exact h3 h2
    ·exact h4 h2
   ·exact h.Yx b hY ⟨id',o',Sn id' h2,h1⟩
  ·obtain⟨id',o',h1,h2⟩:=btX hB;exact h.blt id' b o' (Co (Sn id' h2)) h1
  ·obtain⟨id,off,o1,h1,h2,_,h4⟩:=btS hb;obtain⟨id',off',o1',FK,h2',_,h4'⟩:=btS G1;have:=h.inj id id' b o1 o1' (Sn id h4) (Sn id' h4') h2 h2';subst this;cases j with
   |zero=>
    cases j' with
    |zero=>exact⟨hS.inj0 ZQ i i' id off off' h1 FK,rfl⟩
    |succ j'=>exact absurd (hS.mvd i' j' id off' FK).2 (hlx id (hS.lent i id off h1))
   |succ j=>
    cases j' with
    |zero=>exact absurd (hS.mvd i j id off h1).2 (hlx id (hS.lent i' id off' FK))
    |succ j'=>
     obtain⟨h5,h6⟩:=hS.inj1 hnx i i' j j' id off off' h1 FK;exact⟨h5,by rw[h6]⟩
  ·obtain⟨b,ob⟩:=q;obtain⟨id,off,o',h1,_⟩:=btS hq;obtain⟨p,hp,h2⟩:=MI hL i id off (Nat.zero_le _) h1 (by have:=hS.dom i 0 _ h1;rw[Db];exact this.2)
   exact⟨p,by simpa using hp,h2⟩
  ·refine (Eh m (fun _ hi=>hi) hm bt Re).weak fun b _ hb=>?_
   rcases hb with hb|hb
   ·obtain⟨id',o',h1,h2⟩:=btX hb;exact .inl ⟨id',o',by rw[CY id' h2];exact Sn id' h2,h1⟩
   ·rcases (hYc b).1 hb with⟨id,ob,hl,hβ,_⟩|hY
    ·exact .inl ⟨id,ob,hl,hβ⟩
    ·exact .inr hY
 unfold Oper.wp;rw[KT ho hc Iw.ng hfn hfb];show Calls P f _ w _;have hca:c.args.map a.eval=(c.args.toList.map a.eval).toArray:=by rw[←List.map_toArray,Array.toArray_toList]
 rw[hca];refine (Xd w Yc bt _ Atb (Iw.fr w h.fr) (fun b x=>⟨Nat.lt_of_lt_of_le (Iw.y b x).1 h.fr.step.size,fun hB=>(h.ownd b (hBA b hB)).elim (Iw.y b x).2 (fun Wg=>absurd (Iw.y b x).1 (Nat.not_lt.2 Wg))⟩)).mono ?_
 rintro e w' ⟨us,own,rfl,out⟩
 obtain⟨ha1,Io⟩:=Bk L5;obtain⟨XD,hg2⟩:=Dx (hp:=Cn) Io;have OT:=Na L5;rw[List.map_append,List.nodup_append] at OT;obtain⟨A7i,Aqh,A0v⟩:=OT;rw[hbq] at Aqh
 obtain⟨β1,hβ1,hβ2⟩:∃β1:Bt,(∀i,(∃bx,(i,bx)∈bs)->β1 i=own ((i-o.dst.getD N) / N))∧∀i,(¬∃bx,(i,bx)∈bs)->β1 i=match Qh qs i with|some j=>own j|none=>β i:=by
  refine⟨fun i=>if (bs.any fun q=>Nat.beq q.1 i)=true then own ((i-o.dst.getD N) / N) else match Qh qs i with|some j=>own j|none=>β i,fun i hi=>?_,fun i hi=>?_⟩
  ·show (if _ then _ else _)=_
   rw[if_pos (GY.2 hi)]
  ·show (if _ then _ else _)=_
   rw[if_neg (fun hq=>hi (GY.1 hq))]
 have hβbs:∀j,(∃bx,(o.dst.getD N+N*j,bx)∈bs)->β1 (o.dst.getD N+N*j)=own (0+j):=by
  intro j hj;rw[hβ1 _ hj,Nat.add_sub_cancel_left,Nat.mul_div_cancel_left _ hN,Nat.zero_add]
 have hqb:∀q∈qs,∃bx,(q.1,bx)∈bs':=by
  intro q hq;have:q.1∈bs'.map (·.1):=by rw[hbq];exact List.mem_map_of_mem hq
  obtain⟨⟨i,bx⟩,hm,e⟩:=List.mem_map.1 this;exact⟨bx,e ▸ hm⟩
 have A1h:∀i bx,(i,bx)∈bs'->∃j,(i,j)∈qs:=by
  intro i bx hm;have:i∈qs.map (·.1):=by rw[←hbq];exact List.mem_map.2 ⟨_,hm,rfl⟩
  obtain⟨⟨i',j⟩,hm,e⟩:=List.mem_map.1 this;exact⟨j,e ▸ hm⟩
 have hbb:∀i,(∃bx,(i,bx)∈bs')->¬∃bx,(i,bx)∈bs:=by
  rintro i ⟨bx,hm⟩ ⟨bx',H8⟩
  exact A0v i (List.mem_map.2 ⟨_,H8,rfl⟩) i (List.mem_map.2 ⟨_,hm,rfl⟩) rfl
 have hβqs:∀q∈qs,β1 q.1=own q.2:=by
  intro q hq;rw[hβ2 q.1 (hbb q.1 (hqb q hq)),YO Aqh q hq]
 have hβold:∀i,Cn i≠none->β1 i=β i:=by
  intro i hi
  have JZ:¬∃bx,(i,bx)∈bs:=by
   rintro⟨bx,hm⟩
   exact hi (ha1 i bx (List.mem_append.2 (.inl hm)))
  rw[hβ2 i JZ,JF];intro hm;obtain⟨q,hq,e⟩:=List.mem_map.1 hm;obtain⟨bx,Jh⟩:=hqb q hq;exact hi (ha1 i bx (List.mem_append.2 (.inr (e ▸ Jh))))
 obtain⟨Ob,hba⟩:=hws w' _ own β1 w.heap.size 0 us hβbs out.vals;obtain⟨Ay4,Aoe⟩:=FQ w' _ own β1 bt hβqs (fun i=>Re i 0) out.outs
 have Agj:∀id∈lids,∃y∈l,id∈y.ids:=by
  intro id Bi;rw[←BG] at Bi;exact List.mem_flatMap.1 Bi
 have Ae2:∀id∈lids,(∃off c cs,s.hp id=some (.st c)∧Cn id=some (.st (Cs c cs off))∧off+cs.length<=c.length∧(∀p∈cs,∀i∈Al p,∃bx,(i,bx)∈bs'))∨∃c cs,s.hp id=some (.ar false c)∧Cn id=some (.ar false cs):=by
  intro id Bi;obtain⟨y,hy,hyi⟩:=Agj id Bi;have h1:=hsh y hy;cases y with
  |var id' off cts ws'=>
   simp only[Fu.ids,List.mem_singleton] at hyi;subst hyi;obtain⟨c1,cs,h2,h3,h4,h5,h6⟩:=h1;rw[RN id Bi] at h2;exact .inl ⟨off,c1,cs,h2,h3,h5,h6⟩
  |row id'=>
   simp only[Fu.ids,List.mem_singleton] at hyi;subst hyi;obtain⟨c1,cs,h2,h3⟩:=h1;rw[RN id Bi] at h2;exact .inr ⟨c1,cs,h2,h3⟩
  |none=>simp[Fu.ids] at hyi
 have At2:∀id∈lids,Cn id≠none:=by
  intro id Bi;rcases Ae2 id Bi with⟨_,_,_,_,h2,_⟩|⟨_,_,_,h2⟩<;>rw[h2]<;>simp
 have hpK:∀id,id ∉ lids->Cn id=On (Af s.hp m) x id:=fun id Bi=>I9 id Bi
 have Lj:∀i,s.hp i≠none->Cn i≠none:=by
  intro i hi;by_cases hl:i∈lids
  ·exact At2 i hl
  ·rw[hpK i hl,E9];have h1:Af s.hp m i≠none:=fun e=>hi (Dq.1 e)
   split
   ·cases hq:Af s.hp m i with
    |none=>exact absurd hq h1
    |some b=>simp
   ·exact h1
 have Adu:∀i,(s.hp i≠none∨∃bx,(i,bx)∈bs++bs')->Ao Cn (bs++bs') i≠none:=by
  rintro i (hi|⟨bx,hm⟩)
  ·have h1:=Lj i hi;rw[hg2 i (fun bx hm=>h1 (ha1 i bx hm))]
   exact h1
  ·rw[XD i bx hm];simp
 have F9:∀id,(∃bx,(id,bx)∈bs++bs')∨Ao Cn (bs++bs') id=Cn id:=fun id=>by
  by_cases hx:∃bx,(id,bx)∈bs++bs'
  ·exact .inl hx
  ·exact .inr (hg2 id fun bx hb=>hx ⟨bx,hb⟩)
 have hold:∀id bx,Cn id=some bx->Cx (some bx)->Cx (s.hp id)∧id ∉ x∧(id∈lids∨(id ∉ lids∧Af s.hp m id=some bx)):=by
  intro id bx hb hl;by_cases Bi:id∈lids
  ·exact⟨Sn id (.inl Bi),hlx id Bi,.inl Bi⟩
  ·rw[hpK id Bi,E9] at hb;split at hb
   ·cases hq:Af s.hp m id with
    |none=>rw[hq] at hb;cases hb
    |some b=>rw[hq] at hb;simp at hb;subst hb;exact hl.elim
   ·rename_i hxn;exact⟨by rw[He hb hl];exact hl,hxn,.inr ⟨Bi,hb⟩⟩
 have Rb:∀i bx,(i,bx)∈bs++bs'->∃j,β1 i=own j∧((i=o.dst.getD N+N*j∧j<Jm rv)∨((i,j)∈qs∧Jm rv<=j)):=by
  intro i bx hm;rcases List.mem_append.1 hm with hm|hm
  ·obtain⟨⟨j,rfl,hj⟩,_⟩:=hba i bx hm;exact⟨j,by rw[hβbs j ⟨bx,hm⟩,Nat.zero_add],.inl ⟨rfl,hj⟩⟩
  ·obtain⟨j,hj⟩:=A1h i bx hm;exact⟨j,hβqs _ hj,.inr ⟨hj,(Qp _ hj).2⟩⟩
 have Ahh:∀i bx,(i,bx)∈bs++bs'->Cx (some bx)∧Nv w' (Yw bt own Yc) β1 i bx∧∀cs,bx=.st cs->∀b ob,β1 i=some (b,ob)->w.heap.size<=b:=by
  intro i bx hm;rcases List.mem_append.1 hm with hm|hm
  ·exact (hba i bx hm).2
  ·obtain⟨cc,rfl⟩:=Eg i bx hm;exact⟨trivial,Ay4 i _ hm,fun cs e=>by cases e⟩
 have Ala:∀b,(∃i k o',bt i (k+1)=some (b,o'))->∃id o',id∈x∧β id=some (b,o'):=by
  rintro b ⟨i,k,o',hb⟩
  obtain⟨id,off,o1,h1,h2,_,_⟩:=btS hb;exact⟨id,o1,(hS.mvd i k id off h1).2,h2⟩
 have hX:∀b,b<w.heap.size->HA (Ao Cn (bs++bs')) β1 b->HA s.hp β b:=by
  rintro b hb ⟨id,ob,hl,hβ⟩
  rcases F9 id with⟨bx,hm⟩|e
  ·obtain⟨j,hj,_⟩:=Rb id bx hm;rw[hj] at hβ;obtain⟨id',o',h1,h2⟩:=Ala b ((out.fresh j b ob hβ).2 hb).1;exact⟨id',o',Sn id' (.inr h1),h2⟩
  ·rw[e] at hl;cases hq:Cn id with
   |none=>rw[hq] at hl;exact hl.elim
   |some bx=>
    rw[hq] at hl;exact⟨id,ob,(hold id bx hq hl).1,by rw[←hβold id (by rw[hq];simp)];exact hβ⟩
 have hAo:∀b,b<w.heap.size->Cy (Ao Cn (bs++bs')) β1 Y b->Cy s.hp β Y b:=fun b hb hA=>hA.imp (hX b hb) id
 have hAO:∀b,Cy (Ao Cn (bs++bs')) β1 Y b->Yw bt own Yc b:=by
  rintro b (⟨id,ob,hl,hβ⟩|hY)
  ·rcases F9 id with⟨bx,hm⟩|e
   ·obtain⟨j,hj,_⟩:=Rb id bx hm;rw[hj] at hβ;exact .inl ⟨j,ob,hβ⟩
   ·rw[e] at hl;cases hq:Cn id with
    |none=>rw[hq] at hl;exact hl.elim
    |some bx=>
     rw[hq] at hl;rw[hβold id (by rw[hq];simp)] at hβ
     obtain⟨h1,h2,h3⟩:=hold id bx hq hl;rcases h3 with h3|⟨h3,h4⟩
     ·obtain⟨_,i,off,hs⟩:=VE id h3;exact .inr (.inl ⟨i,ob+off,by rw[Re,hs];simp[F5,hβ]⟩)
     ·exact .inr (.inr ((hYc b).2 (.inl ⟨id,ob,by rw[h4];exact hl,hβ,h3,h2⟩)))
  ·exact .inr (.inr ((hYc b).2 (.inr hY)))
 have Fd:B4 (Cy s.hp β Y) w w':=out.ext.weaken (fun b _ hb=>.inl (hBA b hb))
 have Afi:∀i,s.hp i≠none->β1 i=β i:=fun i hi=>hβold i (Lj i hi)
 have hCL:∀b j,Xi bt vs b j->∃id o' bx,s.hp id=some bx∧Cx (some bx)∧β id=some (b,o')∧BR bx o' j:=by
  rintro b j ⟨i,p,hp,⟨k,ob,hb,Wg⟩|⟨ob,ps,hb,Wg,R2⟩⟩
  ·obtain⟨id,off,o',h1,h2,h3,_⟩:=btS hb;obtain⟨h5,h6⟩:=hS.mvd i k id off h1;obtain⟨cc,hcc⟩:=hx id h6;exact⟨id,o',_,hcc,trivial,h2,show o'<=j by omega⟩
  ·obtain⟨id,off,o',h1,h2,h3,_⟩:=btS hb;rcases Aaw hL i p id off hp (by rw[Nat.zero_add];exact h1) with⟨c1,wz,h5,h6,h7⟩|⟨⟨c1,h5⟩,_⟩
   ·rcases R2 with⟨h8,h9⟩|h8
    ·rw[h6] at h8;cases h8;exact⟨id,o',_,h5,trivial,h2,show o'<=j∧j<o'+c1.length by omega⟩
    ·rw[h6] at h8;cases h8
   ·exact⟨id,o',_,h5,trivial,h2,show o'<=j by omega⟩
 have hnL:∀id off cts wz,Fu.var id off cts wz∈l->id∈lids->∀b ob,β id=some (b,ob)->∀j,(j<off∨off+wz.length<=j)->(∃c1,s.hp id=some (.st c1))->¬Xi bt vs b (ob+j):=by
  rintro id off cts wz hy Bi b ob hβ j hj ⟨c1,AE⟩ ⟨i,p,hp,⟨k,ob',hb,Wg⟩|⟨ob',ps,hb,Wg,R2⟩⟩
  ·obtain⟨id',off',o',h1,h2,h3,h4⟩:=btS hb;have:=h.inj id id' b ob o' (Sn id (.inl Bi)) (Sn id' h4) hβ h2;subst this;exact hlx id Bi (hS.mvd i k id off' h1).2
  ·obtain⟨id',off',o',h1,h2,h3,h4⟩:=btS hb;have:=h.inj id id' b ob o' (Sn id (.inl Bi)) (Sn id' h4) hβ h2;subst this;rw[hβ] at h2;cases h2;obtain⟨k,Du,Eb⟩:=KH hL hy;rw[Nat.zero_add] at Eb;have hik:=hS.inj0 ZQ i k id off' off h1 Eb;subst hik;rw[h1] at Eb;cases Eb;rw[hp] at Du;cases Du;rcases R2 with⟨h8,h9⟩|h8
   ·cases h8;omega
   ·cases h8
 have hval:D1 w' (Cy (Ao Cn (bs++bs')) β1 Y) β1 (Km ws (Lu P o.type)) (Gx us):=by
  have Lh:Bd (Gs w' (Cy (Ao Cn (bs++bs')) β1 Y) β1) ws us:=Ob.mono fun v u hvu=>hvu.step (B4.refl _ _) (fun b _=>hAO b) (fun _ _=>rfl)
  have Db:=Lh.len;cases hT:Lu P o.type
  ·rw[hT] at Mg;have h1:ws.length=1:=Nat.eq_of_beq_eq_true Mg
   match ws,us,h1,Db with
   |[v],[u],_,_=>
    exact (Lv (PJ v (by simp))).2 Lh.1
  ·rw[hT] at Mg
   have h1:¬ws.length=1:=by
    intro e;rw[e] at Mg;cases Mg
   have hr:Gx us=.tuple ⟨us⟩:=by
    unfold Gx;split
    ·simp at Db;omega
    ·rfl
   rw[hr];exact⟨us,rfl,Lh⟩
 have hvr:∀i∈Bq (Km ws (Lu P o.type)),∃bx,(i,bx)∈bs:=by
  intro i hi;cases hT:Lu P o.type
  ·rw[hT] at Mg hi;have h1:ws.length=1:=Nat.eq_of_beq_eq_true Mg
   match ws,h1 with
   |[v],_=>
    refine hrs v (by simp) i ?_
    have:Bq v=B8 v:=by
     have hn:=PJ v (by simp)
     cases v<;>first|rfl|exact absurd rfl (hn _)
    rw[←this];exact hi
  ·rw[hT] at hi;obtain⟨v,hv,hi⟩:=List.mem_flatMap.1 (show i∈ws.flatMap B8 from hi)
   exact hrs v hv i hi
 refine hn _ w' β1 ?_;refine⟨by rw[Nc];exact h.dfr,by rw[Sb];exact h.tsz,FD TW h.tmo,?_,?_,?_,?_,?_,?_,?_,?_,?_,?_,?_,h.Ylt,?_⟩
 ·refine Ly (Q:=fun _ p u=>D1 w' (Cy (Ao Cn (bs++bs')) β1 Y) β1 p u) h.tsz TW (fun i hi=>?_) (fun _=>hval)
  exact (h.tms i hi).step Fd hAo fun id Bi=>Afi id (h.wfT i hi id Bi)
 ·intro id bx hb;simp only at hb;rcases F9 id with⟨bx',H8⟩|e
  ·rw[XD id bx' H8] at hb;cases hb;exact (Ahh id _ H8).2.1.step' hAO
  ·rw[e] at hb;have hβ:=hβold id (by rw[hb];simp)
   by_cases Bi:id∈lids
   ·obtain⟨y,hy,hyi⟩:=Agj id Bi;have h1:=Aoe y hy;cases y with
    |var id' off cts wz=>
     simp only[Fu.ids,List.mem_singleton] at hyi;subst hyi;obtain⟨c1,cs,h2,h3,h4,h5,h6⟩:=h1;rw[RN id Bi] at h2;rw[h3] at hb;cases hb;obtain⟨b,ob,h7,h8,h9⟩:=h.box id _ h2;obtain⟨h10,h11⟩:=h6 b ob h7;have B6:=h.blt id b ob (by rw[h2];simp) h7
     have Vp:∀j,(j<off∨off+wz.length<=j)->w'.cell? ⟨b,ob+j,none⟩=w.cell? ⟨b,ob+j,none⟩∧w'.frozen? ⟨b,ob+j,none⟩=w.frozen? ⟨b,ob+j,none⟩:=
      fun j hj=>out.rng b (ob+j) B6 (hnL id off cts wz hy Bi b ob h7 j hj ⟨c1,h2⟩)
     refine⟨b,ob,hβ.trans h7,fun j p hj=>?_,fun j hj=>?_⟩
     ·rcases Nq (by omega) hj with⟨h12,h13,h14⟩|⟨h12,h14⟩
      ·obtain⟨v,hv,IC⟩:=h10 _ _ h14;refine⟨v,?_,IC.step (B4.refl _ _) (fun b _=>hAO b) (fun _ _=>rfl)⟩
       rw[show ob+j=ob+off+(j-off) by omega]
       exact hv
      ·obtain⟨v,hv,IC⟩:=h8 _ _ h14;refine⟨v,by rw[(Vp j (by omega)).1];exact hv,IC.step Fd hAo fun i hi=>Afi i (h.wfB id c1 h2 p (List.mem_of_getElem? h14) i hi)⟩
     ·rw[Nu (by omega)] at hj
      by_cases Qw:off<=j∧j<off+cs.length
      ·have:=h11 (j-off) (by omega)
       rw[show ob+off+(j-off)=ob+j by omega] at this
       exact this
      ·rw[(Vp j (by omega)).2]
       exact h9 j hj
    |row id'=>
     simp only[Fu.ids,List.mem_singleton] at hyi;subst hyi;obtain⟨cs,h3,h4⟩:=h1;rw[h3] at hb;cases hb;rcases h4 with⟨h5,h6⟩|⟨b,ob,h5,h6,h7⟩
     ·exact .inl ⟨hβ.trans h5,h6⟩
     ·exact .inr ⟨b,ob,hβ.trans h5,h6.weak (fun b _=>hAO b),fun _=>h7,(fun q=>by cases q)⟩
    |none=>simp[Fu.ids] at hyi
   ·rw[hpK id Bi,E9] at hb;split at hb
    ·cases hq:Af s.hp m id with
     |none=>rw[hq] at hb;cases hb
     |some b0=>rw[hq] at hb;simp at hb;subst hb;trivial
    ·rename_i hxn;have Jh:=hf.box id bx hb
     have Aah:∀b ob,β id=some (b,ob)->bx ≠ .mv->b<w.heap.size∧w'.heap[b]?=w.heap[b]?:=by
      intro b ob AP hmv;have B6:=hf.blt id b ob (by show Af s.hp m id≠none;rw[hb];simp) AP
      refine⟨B6,out.ext.keep b B6 fun hB=>?_⟩
      obtain⟨id',o',h1,h2⟩:=btX hB;have Ib:Cx (Af s.hp m id'):=by rw[CY id' h2];exact Sn id' h2
      have GC:id≠id':=by
       rintro rfl
       rcases h2 with h2|h2
       ·exact Bi h2
       ·exact hxn h2
      cases bx with
      |st cc=>exact GC (hf.inj id id' b ob o' (by show Cx (Af s.hp m id);rw[hb];trivial) Ib AP h1)
      |ar fz cc=>
       cases fz with
       |false=>exact GC (hf.inj id id' b ob o' (by show Cx (Af s.hp m id);rw[hb];trivial) Ib AP h1)
       |true=>
        rcases Jh with⟨h3,_⟩|⟨b2,o2,h3,_,_,h4⟩
        ·rw[AP] at h3;cases h3
        ·rw[AP] at h3;cases h3;exact h4 rfl (.inl ⟨id',o',Ib,h1⟩)
      |mv=>exact hmv rfl
     have hAoF:∀b,b<w.heap.size->Cy (Ao Cn (bs++bs')) β1 Y b->Cy (Af s.hp m) β Y b:=by
      intro b Eg hA;rcases hA with⟨i,ob,hl,hβi⟩|hY
      ·rcases F9 i with⟨bx1,BJ⟩|e1
       ·obtain⟨j,hj,_⟩:=Rb i bx1 BJ;rw[hj] at hβi;obtain⟨id',o',h1,h2⟩:=Ala b ((out.fresh j b ob hβi).2 Eg).1;exact .inl ⟨id',o',by rw[CY id' (.inr h1)];exact Sn id' (.inr h1),h2⟩
       ·rw[e1] at hl;cases hq:Cn i with
        |none=>rw[hq] at hl;exact hl.elim
        |some bx1=>
         rw[hq] at hl;rw[hβold i (by rw[hq];simp)] at hβi
         obtain⟨h1,h2,h3⟩:=hold i bx1 hq hl;rcases h3 with h3|⟨h3,h4⟩
         ·exact .inl ⟨i,ob,by rw[CY i (.inl h3)];exact h1,hβi⟩
         ·exact .inl ⟨i,ob,by rw[h4];exact hl,hβi⟩
      ·exact .inr hY
     have Apv:B4 (Cy (Af s.hp m) β Y) w w':=out.ext.weaken (fun b _ hB=>by
      obtain⟨id',o',h1,h2⟩:=btX hB;exact .inl ⟨id',o',by rw[CY id' h2];exact Sn id' h2,h1⟩)
     cases bx with
     |st cc=>
      obtain⟨b,ob,h1,h2,h3⟩:=Jh;obtain⟨B6,Nf⟩:=Aah b ob h1 (by simp)
      refine⟨b,ob,hβ.trans h1,fun j p hj=>?_,fun j hj=>?_⟩
      ·obtain⟨v,hv,IC⟩:=h2 j p hj;refine⟨v,by rw[World.cell?_of_block (w:=w) Nf];exact hv,IC.step Apv hAoF fun i hi=>?_⟩
       refine Afi i (fun e1=>?_)
       exact hf.wfB id cc hb p (List.mem_of_getElem? hj) i hi (Dq.2 e1)
      ·rw[World.frozen?_of_block (w:=w) Nf];exact h3 j hj
     |ar fz cc=>
      rcases Jh with⟨h1,h2⟩|⟨b,ob,h1,h2,h3,h4⟩
      ·exact .inl ⟨hβ.trans h1,h2⟩
      ·obtain⟨B6,Nf⟩:=Aah b ob h1 (by simp)
       have AF:bsz w' b=bsz w b:=by unfold bsz;rw[Nf]
       refine .inr ⟨b,ob,hβ.trans h1,fun j p hj=>?_,fun e1 j hj Og=>?_,fun e1 q=>h4 e1 (hAoF b B6 q)⟩
       ·obtain⟨v,hv,h5,AE⟩:=h2 j p hj;exact⟨v,by rw[World.cell?_of_block (w:=w) (by rw[Ef];exact Nf)];exact hv,h5,AE.step Apv hAoF⟩
       ·rw[World.frozen?_of_block (w:=w) Nf];exact h3 e1 j hj (by rw[←AF];exact Og)
     |mv=>trivial
 ·intro id id' b ob ob' hl Ib hb G1;simp only at hl Ib
  have mixed:∀i bx i' k z,(i,bx)∈bs++bs'->β1 i=some (k,z)->Cn i'≠none->Cx (Cn i')->∀z',β1 i'=some (k,z')->False:=by
   intro i bx i' k z BJ hz JZ Yy z' TT;obtain⟨j,hj,_⟩:=Rb i bx BJ;rw[hj] at hz;rw[hβold i' JZ] at TT;cases hq:Cn i' with
   |none=>exact JZ hq
   |some bx1=>
    rw[hq] at Yy;obtain⟨h1,h2,h3⟩:=hold i' bx1 hq Yy;have B6:=h.blt i' k z' (Co h1) TT;obtain⟨id2,o2,h4,h5⟩:=Ala k ((out.fresh j k z hz).2 B6).1;have:=h.inj i' id2 k z' o2 h1 (Sn id2 (.inr h4)) TT h5;subst this;exact h2 h4
  rcases F9 id with⟨bx,BJ⟩|e1
  ·rcases F9 id' with⟨bx',hm2⟩|e2
   ·obtain⟨j,hj,R2⟩:=Rb id bx BJ;obtain⟨j',Og,Aq5⟩:=Rb id' bx' hm2;rw[hj] at hb;rw[Og] at G1;have:=out.inj j j' b ob ob' hb G1;subst this;rcases R2 with⟨h1,h2⟩|⟨h1,h2⟩
    ·rcases Aq5 with⟨h3,_⟩|⟨_,h4⟩
     ·rw[h1,h3]
     ·omega
    ·rcases Aq5 with⟨_,h4⟩|⟨h3,_⟩
     ·omega
     ·exact Ia _ h1 _ h3 rfl
   ·rw[e2] at Ib;exact (mixed id bx id' b ob BJ hb (Co Ib) Ib ob' G1).elim
  ·rw[e1] at hl;rcases F9 id' with⟨bx',hm2⟩|e2
   ·exact (mixed id' bx' id b ob' hm2 G1 (Co hl) hl ob hb).elim
   ·rw[e2] at Ib
    have g:∀i,Cx (Cn i)->Cx (s.hp i)∧β1 i=β i:=by
     intro i hli;cases hq:Cn i with
     |none=>rw[hq] at hli;exact hli.elim
     |some bx1=>exact⟨(hold i bx1 hq (by rw[←hq];exact hli)).1,hβold i (by rw[hq];simp)⟩
    rw[(g id hl).2] at hb;rw[(g id' Ib).2] at G1;exact h.inj id id' b ob ob' (g id hl).1 (g id' Ib).1 hb G1
 ·intro id b ob JZ hb;simp only at JZ;rcases F9 id with⟨bx,BJ⟩|e1
  ·obtain⟨j,hj,_⟩:=Rb id bx BJ;rw[hj] at hb;exact (out.fresh j b ob hb).1
  ·rw[e1] at JZ;rw[hβold id JZ] at hb
   have hn2:s.hp id≠none:=by
    by_cases Bi:id∈lids
    ·exact Co (Sn id (.inl Bi))
    ·rw[hpK id Bi,E9] at JZ;intro e2;have h1:Af s.hp m id=none:=Dq.2 e2;rw[h1] at JZ;split at JZ<;>exact JZ rfl
   exact Nat.lt_of_lt_of_le (h.blt id b ob hn2 hb) out.ext.size
 ·have:=Ly (Q:=fun _ p _=>∀id∈Bq p,Ao Cn (bs++bs') id≠none) (val:=Gx us) (d:=o.dst) (v:=Km ws (Lu P o.type)) h.tsz TW (fun i hi id Bi=>Adu id (.inl (h.wfT i hi id Bi))) (fun _ id Bi=>Adu id (.inr (by
   obtain⟨bx,hb⟩:=hvr id Bi;exact⟨bx,List.mem_append.2 (.inl hb)⟩)))
  exact this
 ·intro id cells EU p hp i hi;simp only at EU;refine Adu i ?_;rcases F9 id with⟨bx,BJ⟩|e1
  ·rw[XD id bx BJ] at EU;cases EU;rcases List.mem_append.1 BJ with BJ|BJ
   ·obtain⟨bx1,hb⟩:=OU id cells BJ p hp i hi;exact .inr ⟨bx1,List.mem_append.2 (.inl hb)⟩
   ·obtain⟨cc,e2⟩:=Eg id _ BJ;cases e2
  ·rw[e1] at EU;by_cases Bi:id∈lids
   ·rcases Ae2 id Bi with⟨off,c1,cs,h1,h2,h3,h4⟩|⟨c1,cs,h1,h2⟩
    ·rw[h2] at EU;cases EU;unfold Cs at hp;rcases List.mem_append.1 hp with hp|hp
     ·rcases List.mem_append.1 hp with hp|hp
      ·exact .inl (h.wfB id c1 h1 p (List.mem_of_mem_take hp) i hi)
      ·obtain⟨bx1,hb⟩:=h4 p hp i hi;exact .inr ⟨bx1,List.mem_append.2 (.inr hb)⟩
     ·exact .inl (h.wfB id c1 h1 p (List.mem_of_mem_drop hp) i hi)
    ·rw[h2] at EU;cases EU
   ·obtain⟨_,_,h3⟩:=hold id _ EU trivial;rcases h3 with h3|⟨_,h3⟩
    ·exact absurd h3 Bi
    ·exact .inl (h.wfB id cells (He h3 trivial) p hp i hi)
 ·rintro b ⟨id,ob,hl,hβ⟩
  rcases Nat.lt_or_ge b w.heap.size with B6|XE
  ·exact h.ownd b (hX b B6 ⟨id,ob,hl,hβ⟩)
  ·exact .inr (Nat.le_trans h.fr.step.size XE)
 ·intro id bx b ob hb hl hβ B6 j hj;simp only at hb;have hlw:=Nat.lt_of_lt_of_le B6 h.fr.step.size;rcases F9 id with⟨bx',BJ⟩|e1
  ·rw[XD id bx' BJ] at hb;cases hb;obtain⟨k,hk,_⟩:=Rb id bx BJ;rw[hk] at hβ
   have Wg:ob<=j:=by
    cases bx with
    |st cc=>exact hj.1
    |ar fz cc=>exact hj
    |mv=>exact hl.elim
   obtain⟨id2,o2,bx2,h1,h2,h3,h4⟩:=hCL b j (((out.fresh k b ob hβ).2 hlw).2 j Wg);exact h.rngB id2 bx2 b o2 h1 h2 h3 B6 j h4
  ·rw[e1] at hb;rw[hβold id (by rw[hb];simp)] at hβ
   obtain⟨h1,h2,h3⟩:=hold id bx hb hl;rcases h3 with h3|⟨h3,h4⟩
   ·rcases Ae2 id h3 with⟨off,c1,cs,h5,h6,h7,_⟩|⟨c1,cs,h5,h6⟩
    ·rw[h6] at hb;cases hb;have hj:ob<=j∧j<ob+(Cs c1 cs off).length:=hj;rw[Nu (by omega)] at hj
     exact h.rngB id _ b ob h5 trivial hβ B6 j hj
    ·rw[h6] at hb;cases hb;exact h.rngB id _ b ob h5 trivial hβ B6 j hj
   ·exact h.rngB id bx b ob (He h4 hl) hl hβ B6 j hj
 ·intro i hi;obtain⟨h1,h2⟩:=h.pin i hi;exact⟨Adu _ (.inl h1),by rw[Afi _ h1];exact h2⟩
 ·intro id cc b ob hb hβ B6;simp only at hb;have hlw:=Nat.lt_of_lt_of_le B6 h.fr.step.size;rcases F9 id with⟨bx',BJ⟩|e1
  ·rw[XD id bx' BJ] at hb;cases hb;have:=(Ahh id _ BJ).2.2 cc rfl b ob hβ;omega
  ·rw[e1] at hb;rw[hβold id (by rw[hb];simp)] at hβ
   obtain⟨h1,h2,h3⟩:=hold id _ hb trivial;rcases h3 with h3|⟨h3,h4⟩
   ·rcases Ae2 id h3 with⟨off,c1,cs,h5,h6,h7,_⟩|⟨c1,cs,h5,h6⟩
    ·exact h.stp id c1 b ob h5 hβ B6
    ·rw[h6] at hb;cases hb
   ·exact h.stp id cc b ob (He h4 trivial) hβ B6
 ·intro b hY hXb;exact h.Yx b hY (hX b (Nat.lt_of_lt_of_le (h.Ylt b hY) h.fr.step.size) hXb)
 ·refine⟨out.os.trans h.fr.os,out.tape.trans h.fr.tape,out.output.trans h.fr.output,⟨Nat.le_trans h.fr.step.size out.ext.size,fun b hb hnX=>?_,fun b hb=>(h.fr.step.bs b hb).trans (out.ext.bs b (Nat.lt_of_lt_of_le hb h.fr.step.size))⟩,fun b j hb hnL=>?_⟩
  ·rw[out.ext.keep b (Nat.lt_of_lt_of_le hb h.fr.step.size) ?_]
   ·exact h.fr.step.keep b hb hnX
   ·intro hB;rcases h.ownd b (hBA b hB) with hq|hq
    ·exact hnX hq
    ·omega
  ·have GC:¬Xi bt vs b j:=by
    intro hq;obtain⟨id2,o2,bx2,h1,h2,h3,h4⟩:=hCL b j hq;exact hnL (h.rngB id2 bx2 b o2 h1 h2 h3 hb j h4)
   obtain⟨h1,h2⟩:=out.rng b j (Nat.lt_of_lt_of_le hb h.fr.step.size) GC;rw[h1,h2];exact h.fr.rng b j hb hnL
end
open Go.RowKit
section
variable {R:Type} {r:R} {P:Program} {N:Nat} {w0:World} {X0:Gv} {Y:Nat->Prop} {β β':Bt} {s:St} {a:Act} {w w':World} {o:Oper} {A:Nat->Prop}
theorem FL (h:Cl N w0 X0 Y β s a w){c:Call}(ho:o.op=.call c)(hc:c.callee=.builtin .append){d:Nat}(TW:o.dst=some d){b x:Operand}(Eh:c.args.toList=[b,x]) {t tx:TypeId}{ts:List TypeId}(Wk:c.argTypes.toList=t::tx::ts)
  {K:St->Option R} (hk:Ls P N s d t tx (Bw s.tm b) (Bw s.tm x) K=some r):
  ∃s',K s'=some r∧∀(next:Act->World->Prop) (Q:Exit->Act->World->Prop),(∀a' w' β',Cl N w0 X0 Y β' s' a' w'->next a' w')->o.wp P a w next Q:=by
 have Y1:c.args = #[b,x]:=by
  have:c.args=([b,x]:List Operand).toArray:=by rw[←Eh]
  exact this
 have JQ:c.argTypes=(t::tx::ts).toArray:=by rw[←Wk]
 have run:∀{v:Value} {w1:World},(Builtin.append_ (t::tx::ts).toArray o.type #[a.eval b,a.eval x]).run P w=.ok v w1->∀(next:Act->World->Prop) (Q:Exit->Act->World->Prop),next (a.put (some d) v) w1->o.wp P a w next Q:=by
  intro v w1 hr next Q hn;unfold Oper.wp execOp;rw[ho];simp only[resolve,hc,invoke,builtin,Sem.run_bind,Sem.run_pure,Result.andThen_ok,Y1,JQ];have:(#[b,x]:Array Operand).map a.eval = #[a.eval b,a.eval x]:=by simp
  rw[this,hr];show next (a.put o.dst v) w1;rw[TW];exact hn
 have hbv:=Cp h b;have HZ:=Ej h b;unfold Ls at hk;split at hk
 ·rename_i e hu;obtain⟨VH,hk⟩:=Aj hk;obtain⟨i,z,hi,hz,hzs,La⟩:=Z6 VH;cases hit:Se P tx
  rotate_left
  ·rw[hit] at hk;simp only[cond_true] at hk
   obtain⟨ki,TF⟩:∃k,P.underlying tx=some (.int k):=by
    unfold Se at hit;split at hit
    ·exact⟨_,by assumption⟩
    ·cases hit
   unfold Pn at hk;obtain⟨kx,n,hx,hk⟩:=Da hk;obtain⟨zz,n',c',hk,hp⟩:=Eu hk;obtain⟨hb,hk⟩:=Aj hk;simp only[Bool.and_eq_true,decide_eq_true_eq] at hb;obtain⟨⟨⟨⟨⟨hzz,XI⟩,R3⟩,Tu⟩,VM⟩,AX⟩:=hb;have XI:d<N:=Nat.lt_of_succ_le (Nat.le_of_ble_eq_true XI);have R3:s.hp d=none:=by simpa using R3
   have OD:Fi N (some d)=true:=by simp[Fi,Nat.blt];omega
   have Oy:((P.info? e).map (·.bytes)).getD 0=i.bytes:=by rw[hi];rfl
   rw[Oy] at VM;rw[La] at hk;have C4:=B2 h hx;rcases Fm hp hbv with⟨L5,_⟩|⟨_,_,_,Yb,_⟩|⟨_,_,_,Yb,_⟩
   ·refine⟨_,hk,fun next Q hn=>?_⟩
    by_cases hm0:n=0
    ·subst hm0;have hr:=Un (P:=P) (w:=w) (t:=t) (tx:=tx) (ty:=o.type) (ts:=ts) (kx:=kx) hu TF hi;rw[←L5,←C4] at hr;refine run hr next Q (hn _ _ (Ci β d none) ?_);rw[L5];refine h.stepR (d:=some d) (nw:=[(d,.ar false [])]) (β':=Ci β d none) OD (by simp[Bo,R3]) ⟨rfl,rfl,rfl,B4.refl _ _,fun j hj=>Ah _ _ (by rintro rfl;exact hj R3),?_,?_,?_,?_,?_,.inl ⟨Ak _ _ _,rfl,rfl,none,rfl⟩,?_⟩
     ·intro j bx hm;simp at hm;rw[hm.2];trivial
     ·intro j bx hm;simp at hm;obtain⟨rfl,rfl⟩:=hm;exact .inl ⟨Ak _ _ _,rfl⟩
     ·intro j bx k q hm hq;simp at hm;obtain⟨rfl,rfl⟩:=hm;rw[Ak] at hq;cases hq
     ·intro j bx j' bx' k q q' hm H8 _ _;simp at hm H8;rw[hm.1,H8.1]
     ·intro j cells hm;simp at hm
     ·intro j hj;simp[Bq,B8,Al] at hj;subst hj;exact .inr ⟨.ar false [],by simp⟩
    ·have hr:=Wp (P:=P) (w:=w) (t:=t) (tx:=tx) (ty:=o.type) (ts:=ts) (kx:=kx) hu TF hi hz (n:=n) (by omega) VM AX
     rw[←L5,←C4] at hr;refine run hr next Q (hn _ _ (Ci β d (some (w.heap.size,0))) ?_);have XE:n.toNat<=grownCap w n.toNat 0 e:=grownCap_ge w n.toNat 0 e;generalize Xd:((if n.toNat*i.size=0 then #[] else Builtin.zeroCells z.cells n.toNat)++Builtin.zeroCells z.cells (grownCap w n.toNat 0 e-n.toNat))=cs
     have Rj:Fj w (w.drew.alloc (.cells cs e)) cs e:=
      ⟨rfl,rfl,rfl,fun k hk=>Below.heap_alloc w.drew _ k hk,by show (w.heap.push _).size=_;simp,(0,0),by show (w.heap.push _)[w.heap.size]?=_;simp,.inl rfl⟩
     have OM:cs.size=grownCap w n.toNat 0 e*i.size:=by
      rw[←Xd];by_cases MR:n.toNat*i.size=0
      ·rw[if_pos MR]
       have hi0:i.size=0:=by
        rcases Nat.mul_eq_zero.1 MR with h|h
        ·omega
        ·exact h
       simp[size_zeroCells,hzs,hi0]
      ·rw[if_neg MR];simp only[Array.size_append,size_zeroCells,hzs,←Nat.add_mul]
       congr 1
       omega
     refine h.stepR (d:=some d) (nw:=[(d,.ar false [])]) OD (by simp[Bo,R3]) (Mo Rj R3 trivial ?_ (fun cells hx=>by cases hx) ?_ (by intro j hj;simp[Bq,B8,Al] at hj;exact .inr hj))
     ·refine .inr ⟨w.heap.size,0,Ak _ _ _,fun j p hj=>by simp at hj,fun _ j _ hj=>?_,(fun q=>by cases q)⟩
      rw[Rj.bsz] at hj;exact Rj.frozen hj
     ·refine .inr ⟨w.heap.size,0,0,grownCap w n.toNat 0 e,Ak _ _ _,rfl,.inl rfl,XE,?_,by rw[Rj.size];omega⟩
      exact⟨by rw[Rj.bsz,OM];omega,.inr (Ip w.drew _ e)⟩
   ·rw[Yb] at hzz;cases hzz
   ·rw[Yb] at hzz;cases hzz
  rw[hit] at hk;simp only[cond_false] at hk;have Oy:((P.info? e).map (·.bytes)).getD 0=i.bytes:=by rw[hi];rfl
  obtain⟨⟨dx,hdx,KJ⟩,m,new,news,hk,hs⟩:=Zv h hk (by
   intro m new hk;split at hk
   ·split at hk
    ·obtain⟨hb,_⟩:=Aj hk;simp only[Bool.and_eq_true,decide_eq_true_eq] at hb;have he:=Nat.eq_of_beq_eq_true hb.1.1.1.1.1.1.1;rw[←he];exact hb.1.1.2
    ·cases hk
   ·obtain⟨zz,n',c',hk,_⟩:=Eu hk;obtain⟨hb,_⟩:=Aj hk;simp only[Bool.and_eq_true,decide_eq_true_eq] at hb;exact hb.1.1.2)
  rw[La] at hs;have ZQ:new.length=news.length:=hs.rep.len;split at hk
  ·rename_i id es off n eb;rw[eb] at hbv HZ;split at hk
   ·rename_i cc h0;obtain⟨hb,Eb⟩:=Aj hk;simp only[Bool.and_eq_true,decide_eq_true_eq] at hb;obtain⟨⟨⟨⟨⟨⟨⟨Qn,L7⟩,XI⟩,R3⟩,Axt⟩,RV⟩,VM⟩,AX⟩:=hb;have Qn:=Nat.eq_of_beq_eq_true Qn;have L7:=Nat.eq_of_beq_eq_true L7;have XI:d<N:=Nat.lt_of_succ_le (Nat.le_of_ble_eq_true XI);have R3:s.hp d=none:=by simpa using R3
    subst L7;rw[La] at Qn;subst Qn;rw[Oy] at VM;have V0:news.length=m*i.size:=by omega
    have A69:s.hp id≠none:=by rw[h0];simp
    have VI:=h.box id _ h0;refine⟨_,Eb,fun next Q hn=>?_⟩
    have grow:∀(ad:Option Addr) (cap:Nat) (olds:List Value),a.eval b=.slice ad n cap->Bd (Ar w (Cy s.hp β Y)) (cc.take (n*i.size)) olds->(∀u∈olds,u.oneCell'=true)->olds.length=n*i.size ->
      ((ad=none∧olds=[])∨∃p,ad=some p∧olds.length=n*i.size∧∀(j:Nat) v,olds[j]?=some v->w.cell? (p.add j)=some v)->cap<n+m->o.wp P a w next Q:=by
     intro ad cap olds L5 holds h1 hol hold Q9;have hr:=Jk (P:=P) (w:=w) (t:=t) (tx:=tx) (ty:=o.type) (ts:=ts) hu hdx KJ hi hz hs hold Q9 VM AX;rw[←L5] at hr;refine run hr next Q (hn _ _ (Ci β d (some (w.heap.size,0))) ?_);have XE:n+m<=grownCap w (n+m) cap e:=grownCap_ge w (n+m) cap e
     have Rj:Fj w (w.drew.alloc (.cells (olds.toArray++news.toArray++Builtin.zeroCells z.cells (grownCap w (n+m) cap e-(n+m))) e)) (olds.toArray++news.toArray++Builtin.zeroCells z.cells (grownCap w (n+m) cap e-(n+m))) e:=
      ⟨rfl,rfl,rfl,fun k hk=>Below.heap_alloc w.drew _ k hk,by show (w.heap.push _).size=_;simp,(0,0),by show (w.heap.push _)[w.heap.size]?=_;simp,.inl rfl⟩
     have OM:(olds.toArray++news.toArray++Builtin.zeroCells z.cells (grownCap w (n+m) cap e-(n+m))).size=grownCap w (n+m) cap e*i.size:=by
      simp only[Array.size_append,List.size_toArray,size_zeroCells,hzs,hol,V0,←Nat.add_mul]
      congr 1
      omega
     have EQ:∀k y,some (w.heap.size,0)=some (k,y)->w.heap.size<=k∨∃q,β id=some (k,q):=by
      intro k y hh;simp at hh;exact .inl (by omega)
     refine h.move h0 R3 XI rfl rfl rfl (by rw[Rj.size];omega) (fun k hk _=>Rj.old k hk) Rj.step.bs (fun k y hh=>⟨by simp at hh;rw[Rj.size];omega,EQ k y hh⟩) (fun k y hh B6=>by simp at hh;omega)
      (fun k y _ B6 j _=>⟨World.cell?_of_block (w:=w) (Rj.old k B6),World.frozen?_of_block (w:=w) (Rj.old k B6)⟩) ?_ ?_ (by intro j hj;simpa [Bq,B8,Al] using hj)
     ·refine .inr ⟨w.heap.size,0,Ak _ _ _,Zg Rj (OK h0 R3 EQ) holds hs.rep h1 hs.one,fun _ j _ hj=>?_,(fun q=>by cases q)⟩
      rw[Rj.bsz] at hj;exact Rj.frozen hj
     ·refine .inr ⟨w.heap.size,0,0,grownCap w (n+m) cap e,Ak _ _ _,rfl,.inl rfl,XE,?_,by rw[Rj.size];omega⟩
      exact⟨by rw[Rj.bsz,OM];omega,.inr (Ip w.drew _ e)⟩
    rcases hbv with⟨hβ,_,rfl,ad,L5⟩|⟨bb,ob,y,cap,hβ,L5,hy,Ar3,Q9,Aqx⟩
    ·rcases VI with⟨_,rfl⟩|⟨b',o',Eg,_⟩
     ·by_cases hm0:m=0
      ·subst hm0;have hr:=Jp (P:=P) (w:=w) (t:=t) (tx:=tx) (ty:=o.type) (ts:=ts) (ad:=ad) hu hdx KJ hi hs (List.eq_nil_of_length_eq_zero (by omega))
       rw[←L5] at hr;have JC:new=[]:=List.eq_nil_of_length_eq_zero (by omega)
       subst JC;refine run hr next Q (hn _ _ (Ci β d none) ?_);rw[L5];refine h.move h0 R3 XI rfl rfl rfl (Nat.le_refl _) (fun _ _ _=>rfl) (fun _ _=>Gi.refl _ _) (fun k q hh=>by cases hh) (fun k q hh=>by cases hh) (fun _ _ _ _ _ _=>⟨rfl,rfl⟩) ?_ ?_ (by intro j hj;simpa [Bq,B8,Al] using hj)
       ·exact .inl ⟨Ak _ _ _,by simp⟩
       ·exact .inl ⟨Ak _ _ _,rfl,rfl,ad,rfl⟩
      ·exact grow ad 0 [] L5 (by simp[Bd]) (by simp) (by simp) (by cases ad with
        |none=>exact .inl ⟨rfl,rfl⟩
        |some p=>exact .inr ⟨p,rfl,by simp,fun j v hj=>by simp at hj⟩) (by omega)
     ·rw[hβ] at Eg;cases Eg
    ·rcases VI with⟨Eg,_⟩|⟨b',o',Eg,G5,Rk,_⟩
     ·rw[hβ] at Eg;cases Eg
     rw[hβ] at Eg;simp at Eg;obtain⟨rfl,rfl⟩:=Eg;have hy:y=ob:=by rcases hy with hy|⟨_,hq⟩<;>omega
     subst hy;by_cases Acf:n+m<=cap
     ·have Aq6:y+n*i.size+news.length<=bsz w bb:=by
       have h5:n*i.size+m*i.size<=cap*i.size:=by rw[←Nat.add_mul];exact Nat.mul_le_mul_right _ Acf
       have:=Q9.1;omega
      have Cr:∀k,k<news.length->(w.cell? ⟨bb,y+n*i.size+k,none⟩).isSome=true:=fun k hk=>ZP (by omega)
      have hr:=Wm (P:=P) (w:=w) (t:=t) (tx:=tx) (ty:=o.type) (ts:=ts) (b:=bb) (ob:=y) (n:=n) (cap:=cap) hu hdx KJ hi hs V0 Cr (fun k hk=>Rk rfl _ (by omega) (by omega)) Acf
      rw[←L5] at hr;have hw:=Dj.setCells bb news (y+n*i.size) w
      have EQ:∀k q,some (bb,y)=some (k,q)->w.heap.size<=k∨∃q',β id=some (k,q'):=by
       intro k q hh;simp at hh;obtain⟨rfl,rfl⟩:=hh;exact .inr ⟨_,hβ⟩
      refine run hr next Q (hn _ _ (Ci β d (some (bb,y))) ?_)
      have Fd:B4 (Cy s.hp β Y) w (w.setCells bb (y+n*i.size) news):=by
       have hAb:Cy s.hp β Y bb:=.inl ⟨id,y,by rw[h0];trivial,hβ⟩
       exact⟨by rw[hw.size];exact Nat.le_refl _,fun k _ hk=>hw.other k (fun e=>hk (e ▸ hAb)),fun k _=>hw.grow k⟩
      refine h.move h0 R3 XI hw.os hw.tape hw.output (by rw[hw.size];exact Nat.le_refl _) (fun k _ hq=>hw.other k (by rintro rfl;exact hq _ hβ)) Fd.bs (fun k q hh=>⟨by simp at hh;rw[hw.size];omega,EQ k q hh⟩) (fun k q hh _=>by rw[hβ];exact hh)
       (fun k q hh _ j hj=>by
        rw[hβ] at hh;cases hh;exact⟨World.cell?_setCells_out bb _ _ w ⟨bb,j,none⟩ (fun _ _=>by show j<y+n*i.size∨y+n*i.size+_<=j;omega),hw.frz j⟩) ?_ ?_ (by intro j hj;simpa [Bq,B8,Al] using hj)
      ·refine .inr ⟨bb,y,Ak _ _ _,fun j p hj=>?_,fun _ j hj Og=>?_,(fun q=>by cases q)⟩
       ·rw[D5];by_cases hjn:j<n*i.size
        ·rw[List.getElem?_append_left (by rw[List.length_take];omega),List.getElem?_take_of_lt hjn] at hj
         obtain⟨u,Hp,h5,ht⟩:=G5 j p hj;rw[D5] at Hp;refine⟨u,?_,h5,ht.step Fd (OK h0 R3 EQ)⟩;rw[World.cell?_setCells_out bb _ _ w ⟨bb,y+j,none⟩ (fun _ _=>by show y+j<y+n*i.size∨y+n*i.size+_<=y+j;omega)]
         exact Hp
        ·rw[List.getElem?_append_right (by rw[List.length_take];omega),List.length_take,Nat.min_eq_left Axt] at hj
         obtain⟨u,Hp,ht⟩:=hs.rep.get hj
         have B6:j-n*i.size<news.length:=by
          rcases Nat.lt_or_ge (j-n*i.size) news.length with h|h
          ·exact h
          ·rw[List.getElem?_eq_none h] at Hp;cases Hp
         refine⟨u,?_,hs.one u (List.mem_of_getElem? Hp),ht.step Fd (OK h0 R3 EQ)⟩;have:=World.cell?_setCells_in bb news (y+n*i.size) w Cr (j-n*i.size) B6;rw[show y+j=y+n*i.size+(j-n*i.size) from by omega,this]
         rw[List.getElem?_eq_getElem B6] at Hp;exact Hp
       ·rw[hw.bs] at Og;rw[hw.frz];exact Rk rfl j hj Og
      ·exact .inr ⟨bb,y,y,cap,Ak _ _ _,rfl,.inl rfl,Acf,Q9.step (hw.grow bb),by rw[hw.size];exact Aqx⟩
     ·-- the old cells
      have hob:∀(j:Nat) p,(cc.take (n*i.size))[j]?=some p->∃v,w.cell? ⟨bb,y+j,none⟩=some v∧v.oneCell'=true∧Ar w (Cy s.hp β Y) p v:=by
       intro j p hj;rw[List.getElem?_take] at hj;split at hj
       ·obtain⟨v,hv,h5,ht⟩:=G5 j p hj;rw[D5] at hv;exact⟨v,hv,h5,ht⟩
       ·cases hj
      have Db:(cc.take (n*i.size)).length=n*i.size:=by rw[List.length_take];omega
      refine grow _ cap ((cc.take (n*i.size)).mapIdx fun j _=>(w.cell? ⟨bb,y+j,none⟩).getD undef) L5 ?_ ?_ (by simp only[List.length_mapIdx];exact Db) (.inr ⟨_,rfl,by simp only[List.length_mapIdx];exact Db,fun j v hj=>?_⟩) (by omega)
      ·refine Bd.of_at (by simp) fun j p v hp hv=>?_
       obtain⟨u,Hp,_,ht⟩:=hob j p hp;rw[List.getElem?_mapIdx,hp,Option.map_some,Hp] at hv;simp at hv;subst hv;exact ht
      ·intro v hv;obtain⟨j,hj⟩:=List.mem_iff_getElem?.1 hv;rw[List.getElem?_mapIdx] at hj;cases hp:(cc.take (n*i.size))[j]? with
       |none=>rw[hp] at hj;cases hj
       |some p=>
        obtain⟨u,Hp,h5,_⟩:=hob j p hp;rw[hp,Option.map_some,Hp] at hj;simp at hj;subst hj;exact h5
      ·rw[List.getElem?_mapIdx] at hj;cases hp:(cc.take (n*i.size))[j]? with
       |none=>rw[hp] at hj;cases hj
       |some p=>
        obtain⟨u,Hp,h5,_⟩:=hob j p hp;rw[hp,Option.map_some,Hp] at hj;simp at hj;subst hj;rw[D5];exact Hp
   ·cases hk
  ·obtain⟨zz,n',c',hk,hp⟩:=Eu hk;obtain⟨hb,hk⟩:=Aj hk;simp only[Bool.and_eq_true,decide_eq_true_eq] at hb;obtain⟨⟨⟨⟨⟨hzz,XI⟩,R3⟩,RV⟩,VM⟩,AX⟩:=hb;have XI:d<N:=Nat.lt_of_succ_le (Nat.le_of_ble_eq_true XI);have R3:s.hp d=none:=by simpa using R3
   have OD:Fi N (some d)=true:=by simp[Fi,Nat.blt];omega
   rw[La] at RV hk;rw[Oy] at VM;have V0:news.length=m*i.size:=by omega
   rcases Fm hp hbv with⟨L5,_⟩|⟨_,_,_,Yb,_⟩|⟨_,_,_,Yb,_⟩
   ·refine⟨_,hk,fun next Q hn=>?_⟩
    by_cases hm0:m=0
    ·subst hm0;have hr:=Jp (P:=P) (w:=w) (t:=t) (tx:=tx) (ty:=o.type) (ts:=ts) (ad:=none) hu hdx KJ hi hs (List.eq_nil_of_length_eq_zero (by omega))
     rw[←L5] at hr;have JC:new=[]:=List.eq_nil_of_length_eq_zero (by omega)
     subst JC;refine run hr next Q (hn _ _ (Ci β d none) ?_);rw[L5];refine h.stepR (d:=some d) (nw:=[(d,.ar false [])]) (β':=Ci β d none) OD (by simp[Bo,R3]) ⟨rfl,rfl,rfl,B4.refl _ _,fun j hj=>Ah _ _ (by rintro rfl;exact hj R3),?_,?_,?_,?_,?_,.inl ⟨Ak _ _ _,rfl,rfl,none,rfl⟩,?_⟩
     ·intro j bx hm;simp at hm;rw[hm.2];trivial
     ·intro j bx hm;simp at hm;obtain⟨rfl,rfl⟩:=hm;exact .inl ⟨Ak _ _ _,rfl⟩
     ·intro j bx k q hm hq;simp at hm;obtain⟨rfl,rfl⟩:=hm;rw[Ak] at hq;cases hq
     ·intro j bx j' bx' k q q' hm H8 _ _;simp at hm H8;rw[hm.1,H8.1]
     ·intro j cells hm;simp at hm
     ·intro j hj;simp[Bq,B8,Al] at hj;subst hj;exact .inr ⟨.ar false [],by simp⟩
    ·have hr:=Jk (P:=P) (w:=w) (t:=t) (tx:=tx) (ty:=o.type) (ts:=ts) (ad:=none) (n:=0) (cap:=0) (olds:=[]) hu hdx KJ hi hz hs (.inl ⟨rfl,rfl⟩) (by omega) (by rw[Nat.zero_add];exact VM) (by omega)
     rw[←L5] at hr;refine run hr next Q (hn _ _ (Ci β d (some (w.heap.size,0))) ?_);have XE:0+m<=grownCap w (0+m) 0 e:=grownCap_ge w (0+m) 0 e
     have Rj:Fj w (w.drew.alloc (.cells (([]:List Value).toArray++news.toArray++Builtin.zeroCells z.cells (grownCap w (0+m) 0 e-(0+m))) e)) (([]:List Value).toArray++news.toArray++Builtin.zeroCells z.cells (grownCap w (0+m) 0 e-(0+m))) e:=
      ⟨rfl,rfl,rfl,fun k hk=>Below.heap_alloc w.drew _ k hk,by show (w.heap.push _).size=_;simp,(0,0),by show (w.heap.push _)[w.heap.size]?=_;simp,.inl rfl⟩
     have OM:(([]:List Value).toArray++news.toArray++Builtin.zeroCells z.cells (grownCap w (0+m) 0 e-(0+m))).size=grownCap w (0+m) 0 e*i.size:=by
      simp only[Array.size_append,List.size_toArray,size_zeroCells,hzs,V0,List.length_nil,←Nat.add_mul];rw[Nat.zero_add (m*i.size),←Nat.add_mul]
      congr 1
      omega
     refine h.stepR (d:=some d) (nw:=[(d,.ar false new)]) OD (by simp[Bo,R3]) (Mo Rj R3 trivial ?_ (fun cells hx=>by cases hx) ?_ (by intro j hj;simp[Bq,B8,Al] at hj;exact .inr hj))
     ·refine .inr ⟨w.heap.size,0,Ak _ _ _,?_,fun _ j _ hj=>?_,(fun q=>by cases q)⟩
      ·exact Zg (pre:=[]) Rj (RK R3) trivial hs.rep (by simp) hs.one
      ·rw[Rj.bsz] at hj;exact Rj.frozen hj
     ·refine .inr ⟨w.heap.size,0,0,grownCap w (0+m) 0 e,Ak _ _ _,by rw[Nat.zero_add],.inl rfl,by omega,?_,by rw[Rj.size];omega⟩
      exact⟨by rw[Rj.bsz,OM];omega,.inr (Ip w.drew _ e)⟩
   ·rw[Yb] at hzz;cases hzz
   ·rw[Yb] at hzz;cases hzz
 ·cases hk
theorem NL (h:Cl N w0 X0 Y β s a w){c:Call}(ho:o.op=.call c)(hc:c.callee=.builtin .copy){b x:Operand}(Eh:c.args.toList=[b,x]) {t tx:TypeId}{ts:List TypeId}(Wk:c.argTypes.toList=t::tx::ts)
  {K:St->Option R} (hk:BW P N s o.dst t tx (Bw s.tm b) (Bw s.tm x) K=some r):
  ∃s',K s'=some r∧∀(next:Act->World->Prop) (Q:Exit->Act->World->Prop),(∀a' w' β',Cl N w0 X0 Y β' s' a' w'->next a' w')->o.wp P a w next Q:=by
 have Y1:c.args = #[b,x]:=by
  have:c.args=([b,x]:List Operand).toArray:=by rw[←Eh]
  exact this
 have JQ:c.argTypes=(t::tx::ts).toArray:=by rw[←Wk]
 have run:∀{v:Value} {w1:World},(Builtin.copy_ (t::tx::ts).toArray o.type #[a.eval b,a.eval x]).run P w=.ok v w1->∀(next:Act->World->Prop) (Q:Exit->Act->World->Prop),next (a.put o.dst v) w1->o.wp P a w next Q:=by
  intro v w1 hr next Q hn;unfold Oper.wp execOp;rw[ho];simp only[resolve,hc,invoke,builtin,Sem.run_bind,Sem.run_pure,Result.andThen_ok,Y1,JQ];have:(#[b,x]:Array Operand).map a.eval = #[a.eval b,a.eval x]:=by simp
  rw[this,hr];exact hn
 have hbv:=Cp h b;unfold BW at hk;split at hk
 ·rename_i e hu;obtain⟨VH,hk⟩:=Aj hk;simp only[Bool.and_eq_true] at VH;obtain⟨L2,OD⟩:=VH;obtain⟨i,hi⟩:∃i,P.info? e=some i:=Option.isSome_iff_exists.1 L2;have La:A8 P e=i.size:=by unfold A8;rw[hi];rfl
  have h1c:∀(m:Nat) (new:List PV),(match Bw s.tm b with
    |.view id es off n=>
     match s.hp id with
     |some (.ar false c)=>Bj (Nat.beq es (A8 P e)&&decide (off+n*es<=c.length)&&decide (new.length=m*es))
       (Ac (min m n) fun k=>Ac (Cs c (new.take (k*es)) off) fun c=>K ⟨Bl s.tm o.dst (.sc (.int .i64 k)),Ci s.hp id (some (.ar false c))⟩)
     |_=>none
    |_=>none)=some r->new.length=m*A8 P e:=by
   intro m new hk;split at hk
   ·split at hk
    ·obtain⟨hb,_⟩:=Aj hk;simp only[Bool.and_eq_true,decide_eq_true_eq] at hb;rw[←Nat.eq_of_beq_eq_true hb.1.1];exact hb.2
    ·cases hk
   ·cases hk
  obtain⟨_,m,new,news,hk,hs⟩:=Zv h hk h1c;split at hk
  ·rename_i id es off n hb;rw[hb] at hbv;split at hk
   ·rename_i cc h0;obtain⟨hb,hk⟩:=Aj hk;simp only[Bool.and_eq_true,decide_eq_true_eq] at hb;obtain⟨⟨Qn,Wg⟩,ZQ⟩:=hb;have Qn:=Nat.eq_of_beq_eq_true Qn;subst Qn;rw[La] at hk hs Wg ZQ hbv;have V0:news.length=m*i.size:=by rw[←hs.rep.len];exact ZQ
    have hkm:min m n*i.size<=m*i.size:=Nat.mul_le_mul_right _ (Nat.min_le_left _ _);have hkn:min m n*i.size<=n*i.size:=Nat.mul_le_mul_right _ (Nat.min_le_right _ _);have Jf:K ⟨Bl s.tm o.dst (.sc (.int .i64 ((min m n:Nat):Int))),Ci s.hp id (some (.ar false (Cs cc (new.take (min m n*i.size)) off)))⟩=some r:=hk;refine⟨_,Jf,fun next Q hn=>?_⟩
    have Ada:∀{β':Bt} {Cn:Nat->Option Bm} {w':World},Cl N w0 X0 Y β' ⟨s.tm,Cn⟩ a w'->Cl N w0 X0 Y β' ⟨Bl s.tm o.dst (.sc (.int .i64 ((min m n:Nat):Int))),Cn⟩ (a.put o.dst (goInt ((min m n:Nat):Int))) w':=
     fun hh=>hh.put OD (Ar.sc _) (fun _ hx=>by cases hx)
    have ZK:new.take (min m n*i.size)=[]->Ci s.hp id (some (.ar false (Cs cc (new.take (min m n*i.size)) off)))=s.hp:=by
     intro e;rw[e];refine Td _ ?_;rw[h0];simp[Cs]
    have nothing:min m n*i.size=0->∀(ad:Option Addr) (cap:Nat),a.eval b=.slice ad n cap->o.wp P a w next Q:=by
     intro e ad cap L5;have hr:=MA (P:=P) (w:=w) (w1:=w) (t:=t) (ty:=o.type) (ts:=tx::ts) (ad:=ad) (n:=n) (cap:=cap) hu hi hs (by rw[e];cases ad<;>simp[storeCells])
     rw[←L5] at hr;refine run hr next Q (hn _ _ β (Ada ?_));rw[ZK (by rw[e,List.take_zero])]
     exact h
    rcases hbv with⟨hβ,_,rfl,ad,L5⟩|⟨bb,ob,y,cap,hβ,L5,hy,Ar3,Q9,Aqx⟩
    ·exact nothing (by simp) ad 0 L5
    ·by_cases hm0:min m n*i.size=0
     ·exact nothing hm0 _ _ L5
     rcases h.box id _ h0 with⟨Eg,_⟩|⟨b',o',Eg,G5,Rk,_⟩
     ·rw[hβ] at Eg;cases Eg
     rw[hβ] at Eg;simp at Eg;obtain⟨rfl,rfl⟩:=Eg;have Tu:n≠0:=by rintro rfl;simp at hm0
     have hy:y=ob+off:=by rcases hy with hy|⟨hq,_⟩<;>first|exact absurd hq Tu|exact hy
     subst hy;have B6:(news.take (min m n*i.size)).length=min m n*i.size:=by rw[List.length_take,V0];omega
     have Cr:∀k,k<(news.take (min m n*i.size)).length->(w.cell? ⟨bb,ob+off+k,none⟩).isSome=true:=by
      intro k hk;obtain⟨v,hv,_⟩:=G5 (off+k) _ (List.getElem?_eq_getElem (by omega))
      rw[D5] at hv;rw[Nat.add_assoc,hv];rfl
     have XB:∀k,k<(news.take (min m n*i.size)).length->w.frozen? ⟨bb,ob+off+k,none⟩=false:=fun k hk=>by
      obtain⟨u,hu⟩:=Option.isSome_iff_exists.1 (Cr k hk);exact Rk rfl _ (by omega) (Yh hu)
     have h1:∀u∈news.take (min m n*i.size),u.oneCell'=true:=fun u hu=>hs.one u (List.mem_of_mem_take hu)
     have h3:=run_storeCells_cells (P:=P) bb (ob+off) (news.take (min m n*i.size)) 0 w (fun k hk=>by simpa using Cr k hk) (fun k hk=>by simpa using XB k hk) h1
     have hr:=MA (P:=P) (w:=w) (t:=t) (ty:=o.type) (ts:=tx::ts) (ad:=some ⟨bb,ob+off,none⟩) (n:=n) (cap:=cap) hu hi hs h3;rw[←L5] at hr;simp only[Nat.add_zero] at hr;refine run hr next Q (hn _ _ β (Ada ?_))
     refine h.write h0 trivial trivial hβ (Dj.setCells bb _ _ w) ?_ (fun cells hx=>by cases hx) (fun _ hx=>by cases hx) (fun j hj=>hj) (fun j hj=>by
      refine World.cell?_setCells_out bb _ _ w ⟨bb,j,none⟩ (fun _ _=>?_)
      have hj:¬(ob<=j):=hj;show j<ob+off∨ob+off+_<=j;omega)
     have Fd:B4 (Cy s.hp β Y) w (w.setCells bb (ob+off) (news.take (min m n*i.size))):=by
      have hw:=Dj.setCells bb (news.take (min m n*i.size)) (ob+off) w;have hAb:Cy s.hp β Y bb:=.inl ⟨id,ob,by rw[h0];trivial,hβ⟩
      exact⟨by rw[hw.size];exact Nat.le_refl _,fun k _ hk=>hw.other k (fun e=>hk (e ▸ hAb)),fun k _=>hw.grow k⟩
     have hll:(new.take (min m n*i.size)).length=min m n*i.size:=by rw[List.length_take,ZQ];omega
     refine .inr ⟨bb,ob,hβ,fun j p hj=>?_,fun _ j hj Og=>?_,(fun x=>by cases x)⟩
     ·rw[D5];rcases Nq (by omega) hj with⟨h3,h4,h5⟩|⟨h3,h5⟩
      ·have Apg:j-off<min m n*i.size:=by omega
       rw[List.getElem?_take_of_lt Apg] at h5;obtain⟨u,hu,hcu⟩:=hs.rep.get h5;have YM:j-off<(news.take (min m n*i.size)).length:=by omega
       refine⟨u,?_,hs.one u (List.mem_of_getElem? hu),hcu.step Fd (fun _ _ x=>x)⟩
       have:=World.cell?_setCells_in bb (news.take (min m n*i.size)) (ob+off) w Cr (j-off) YM;rw[show ob+j=ob+off+(j-off) from by omega,this]
       rw[←List.getElem?_eq_getElem YM,List.getElem?_take_of_lt Apg];exact hu
      ·obtain⟨v,hv,h6,Vt⟩:=G5 j p h5;rw[D5] at hv;refine⟨v,?_,h6,Vt.step Fd (fun _ _ x=>x)⟩
       rw[World.cell?_setCells_out bb _ _ w ⟨bb,ob+j,none⟩ (fun _ _=>by show ob+j<ob+off∨ob+off+_<=ob+j;omega)]
       exact hv
     ·rw[(Dj.setCells bb _ _ w).bs] at Og;rw[(Dj.setCells bb _ _ w).frz];exact Rk rfl j hj Og
   ·cases hk
  ·cases hk
 ·cases hk
theorem PI (h:Cl N w0 X0 Y β s a w){G:Rs}(Iw:JT P G w0 X0){C:F3}{call:Ax}(Dk:∀f args res,call f args=some res->C6 G P f args res){K:St->Option R}(hk:Qg C P N call s o K=some r):
  ∃s',K s'=some r∧∀(next:Act->World->Prop) (Q:Exit->Act->World->Prop),(∀a' w' β',Cl N w0 X0 Y β' s' a' w'->next a' w')->o.wp P a w next Q:=by
 unfold Qg at hk;split at hk
 ·rename_i t x y ho;obtain⟨hd,hk⟩:=Aj hk;exact KM h ho (by simpa using hd) hk
 ·rename_i c ho;split at hk
  ·rename_i hc;obtain⟨d,hd,Du⟩:=B5 hk;obtain⟨b,xs,Z8,Eb⟩:=A7 Du;obtain⟨x,ys,hys,Jg⟩:=A7 Eb;obtain⟨Uv,Qd⟩:=Dd Jg;obtain⟨t,us,WY,NR⟩:=A7 Qd;obtain⟨tx,vs,Ob,hk6⟩:=A7 NR;rw[hys,Uv] at Z8;rw[Ob] at WY;exact FL h ho hc hd Z8 WY hk6
  ·rename_i hc;obtain⟨b,xs,Z8,Eb⟩:=A7 hk;obtain⟨x,ys,hys,Jg⟩:=A7 Eb;obtain⟨Uv,Qd⟩:=Dd Jg;obtain⟨t,us,WY,NR⟩:=A7 Qd;obtain⟨tx,vs,Ob,hk6⟩:=A7 NR;rw[hys,Uv] at Z8;rw[Ob] at WY;exact NL h ho hc Z8 WY hk6
  ·rename_i f hc;exact MC h Iw Dk ho hc hk
  ·cases hk
 ·cases hk
theorem NK (h:Cl N w0 X0 Y β s a w){G:Rs}(Iw:JT P G w0 X0){C:F3}{call:Ax}(Dk:∀f args res,call f args=some res->C6 G P f args res){K:St->Option R}(hk:LK C P N call o s K=some r):
  ∃s',K s'=some r∧∀(next:Act->World->Prop) (Q:Exit->Act->World->Prop),(∀a' w' β',Cl N w0 X0 Y β' s' a' w'->next a' w')->o.wp P a w next Q:=by
 unfold LK at hk;cases hm:M7 C P o.op
 ·rw[hm] at hk;exact OG h Iw Dk hk
 ·rw[hm] at hk;exact PI h Iw Dk hk
end
end
end Go.Proofs.YtodnjibebeghjaaDoor.Pv
