/-
  The proof of MetadataBodies, part 2.
-/
import Derived.Test.YtpogefhpiaaliaaGreatDoorBA
import Derived.Laws.Append
import Derived.IntWalk
import Derived.Laws.AppendOwn
import Derived.Laws.IdiomCopy
set_option linter.unusedSimpArgs false
set_option linter.unusedVariables false
namespace Go.Proofs.YtpogefhpiaaliaaGreatDoor.Pv
section
open Go.RowKit
def Kp (w:World)(A:Nat->Prop)(own:Option (Nat × Nat)) (p:PV)(u:Value):Prop:=
 match p with
 |.own es n c=>(own=none∧n=0∧c=[]∧∃ad,u=.slice ad 0 0) ∨
   ∃b o cap,own=some (b,o)∧u=.slice (some ⟨b,o,none⟩) n cap∧n<=cap∧o+cap*es<=bsz w b∧b<w.heap.size∧XP w A ⟨b,o,none⟩ c∧∀j,o<=j->j<bsz w b->w.frozen? ⟨b,j,none⟩=false
 |p=>A8 w A p u
def H4 (w:World)(A:Nat->Prop)(own:Bt):Nat->List PV->List Value->Prop
 |_,[],[]=>True
 |j,p::ps,u::us=>Kp w A (own j) p u∧H4 w A own (j+1) ps us
 |_,_,_=>False
def Azn (w:World)(A:Nat->Prop)(own:Bt)(j b o:Nat)(cs:List PV):Prop:=
 ∃vs,H4 w A own j cs vs∧(∀(k:Nat) v,vs[k]?=some v->w.cell? ⟨b,o+k,none⟩=some v)∧∀k,k<cs.length->w.frozen? ⟨b,o+k,none⟩=false
def Axe (w:World)(A:Nat->Prop)(own:Bt)(z j:Nat)(p:PV)(u:Value):Prop:=
 match p with
 |.agg cs=>∃vs,u=.agg ⟨vs⟩∧H4 w A own j cs vs
 |.pbox cs=>∃b o,own j=some (b,o)∧z<=b∧u=.pointer (some ⟨b,o,none⟩)∧Azn w A own (j+1) b o cs
 |p=>Kp w A (own j) p u
def plc:PV->Nat
 |.pbox cs=>1+cs.length
 |p=>(cellsOf p).length
def Amd (w:World)(A:Nat->Prop)(own:Bt)(z:Nat):Nat->List PV->List Value->Prop
 |_,[],[]=>True
 |j,p::ps,u::us=>Axe w A own z j p u∧Amd w A own z (j+plc p) ps us
 |_,_,_=>False
abbrev OZ:=Nat->Nat->Option (Nat × Nat)
def BtX (bt:OZ)(b:Nat):Prop:=∃i j o,bt i j=some (b,o)
def isA (p:PV):Prop:=FJ p∨∃es n c,p=.own es n c
def JM (p:PV):Bool:=
 match p with
 |.pbox _=>true
 |.tup _=>true
 |_=>false
theorem Aza {p:PV}(h:isA p):JM p=false:=by
 rcases h with h|⟨_,_,_,rfl⟩
 ·cases p<;>first|rfl|exact h.elim
 ·rfl
def Ag6 (w:World)(A:Nat->Prop)(bt:Bt)(p:PV)(u:Value):Prop:=
 match p with
 |.pbox ps=>∃b o,bt 0=some (b,o)∧u=.pointer (some ⟨b,o,none⟩)∧(∀p∈ps,isA p)∧Azn w A bt 1 b o ps
 |.tup ps=>∃es n c,ps=[.own es n c]∧Kp w A (bt 0) (.own es n c) u
 |.agg cs=>∃vs,u=.agg ⟨vs⟩∧(∀p∈cs,isA p)∧H4 w A bt 1 cs vs
 |p=>isA p∧Kp w A (bt 1) p u
def Qm (w:World)(A:Nat->Prop)(bt:OZ):Nat->List PV->List Value->Prop
 |_,[],[]=>True
 |i,p::ps,u::us=>Ag6 w A (bt i) p u∧Qm w A bt (i+1) ps us
 |_,_,_=>False
def A5j (bt:Bt)(p:PV)(b j:Nat):Prop:=
 (∃k o,bt (k+1)=some (b,o)∧o<=j)∨∃o ps,bt 0=some (b,o)∧o<=j∧((p=.pbox ps∧j<o+ps.length)∨p=.tup ps)
def Aab (bt:OZ)(args:List PV)(b j:Nat):Prop:=∃i p,args[i]?=some p∧A5j (bt i) p b j
def FS (w:World)(A:Nat->Prop)(own:Bt)(bt:OZ):Nat->Nat->List PV->List (List PV)->Prop
 |_,_,[],r=>r=[]
 |j,i,p::zs,r=>
  match p with
  |.pbox ps=>
   match r with
   |[]=>False
   |cs::r=>(∃b o,bt i 0=some (b,o)∧cs.length=ps.length∧Azn w A own j b o cs)∧FS w A own bt (j+cs.length) (i+1) zs r
  |.tup _=>
   match r with
   |[]=>False
   |cs::r=>((bt i 0=none∧cs=[])∨∃b o,bt i 0=some (b,o)∧XP w A ⟨b,o,none⟩ cs∧∀k,o<=k->k<bsz w b->w.frozen? ⟨b,k,none⟩=false)∧FS w A own bt j (i+1) zs r
  |_=>FS w A own bt j (i+1) zs r
def TG (bt:OZ)(own:Bt)(Y:Nat->Prop)(b:Nat):Prop:=(∃j o,own j=some (b,o))∨(∃i o,bt i 0=some (b,o))∨Y b
def S9 (vals:List PV):Nat:=(vals.map plc).sum
structure Out (w w':World) (Y:Nat->Prop) (bt:OZ) (args:List PV) (own:Bt) (r:A4) (vs:List Value):Prop where
 os:w'.os=w.os
 tape:w'.tape=w.tape
 output:w'.output=w.output
 ext:C2 (BtX bt) w w'
 rng:∀b j,b<w.heap.size->¬Aab bt args b j->w'.cell? ⟨b,j,none⟩=w.cell? ⟨b,j,none⟩∧w'.frozen? ⟨b,j,none⟩=w.frozen? ⟨b,j,none⟩
 vals:Amd w' (TG bt own Y) own w.heap.size 0 r.vals vs
 outs:FS w' (TG bt own Y) own bt (S9 r.vals) 0 args r.outs
 fresh:∀j b o,own j=some (b,o)->b<w'.heap.size∧(b<w.heap.size->(∃i k o',bt i (k+1)=some (b,o'))∧∀x,o<=x->Aab bt args b x)
 inj:∀j j' b o o',own j=some (b,o)->own j'=some (b,o')->j=j'
def M2 (us:List Value):Value:=match us with|[u]=>u|us=>.tuple ⟨us⟩
def Wh (w:World)(Y:Nat->Prop)(p:PV)(u:Value):Prop:=
 match p with
 |.agg cs=>∃vs,u=.agg ⟨vs⟩∧B8 (fun c v=>FJ c∧A8 w Y c v) cs vs
 |p=>FJ p∧A8 w Y p u
structure Ins (w:World) (Y:Nat->Prop) (bt:OZ) (args:List PV) (us:List Value):Prop where
 Ylt:∀b,Y b->b<w.heap.size
 Yx:∀b,Y b->¬BtX bt b
 lt:∀b,BtX bt b->b<w.heap.size
 inj:∀i j i' j' b o o',bt i j=some (b,o)->bt i' j'=some (b,o')->i=i'∧j=j'
 l0:∀i q,bt i 0=some q->∃p,args[i]?=some p∧JM p=true
 args:Qm w (fun b=>BtX bt b∨Y b) bt 0 args us
structure Xl where
 bl:Nat->Prop
 ok:World->Prop
 stable:∀w w':World,(∀b,bl b->b<w.heap.size->w'.heap[b]?=w.heap[b]?)->ok w->ok w'
def Dl (G:Xl)(P:Program)(f:FuncId)(args:List PV)(r:A4):Prop:=
 (∃fn,P.funcs[f]?=some fn∧fn.body.isSome=true)∧∀(w:World)(Y:Nat->Prop)(bt:OZ)(us:List Value),Ins w Y bt args us->G.ok w->(∀b,G.bl b->b<w.heap.size∧¬BtX bt b) ->
  Calls P f us.toArray w fun e w'=>∃vs own,e=.returned (M2 vs)∧Out w w' Y bt args own r vs
def BA:OZ:=fun _ _=>none
theorem Rr (b:Nat):¬BtX BA b:=by rintro⟨_,_,_,h⟩;cases h
theorem Px {w:World}{A:Nat->Prop}{q:Option (Nat × Nat)} {p:PV}{u:Value}(hp:FJ p)(h:A8 w A p u):Kp w A q p u:=by
 cases p<;>first|exact h|exact hp.elim
theorem OX {w:World}{A:Nat->Prop}{own:Bt}:∀{cs:List PV}{vs:List Value}{j:Nat},B8 (fun c v=>FJ c∧A8 w A c v) cs vs->H4 w A own j cs vs
 |[],[],_,_=>trivial
 |_::_,_::_,_,h=>⟨Px h.1.1 h.1.2,OX h.2⟩
 |[],_::_,_,h=>h.elim
 |_::_,[],_,h=>h.elim
theorem Am3 {w:World}{A:Nat->Prop}{bt:Bt}{p:PV}{u:Value}(h:Wh w A p u):Ag6 w A bt p u:=by
 cases p with
 |agg cs=>
  obtain⟨vs,h1,h2⟩:=h;refine⟨vs,h1,fun p hp=>.inl ?_,OX h2⟩
  obtain⟨j,hj⟩:=List.mem_iff_getElem?.1 hp;obtain⟨v,_,hv⟩:=h2.get hj;exact hv.1
 |sc v=>exact⟨.inl trivial,h.2⟩
 |lst z es n c=>exact⟨.inl trivial,h.2⟩
 |_=>exact h.1.elim
theorem GH {w:World}{A:Nat->Prop}{bt:OZ}:∀{ps:List PV}{us:List Value}{i:Nat},B8 (Wh w A) ps us->Qm w A bt i ps us
 |[],[],_,_=>trivial
 |_::_,_::_,_,h=>⟨Am3 h.1,GH h.2⟩
 |[],_::_,_,h=>h.elim
 |_::_,[],_,h=>h.elim
theorem ZS {w:World}{A A':Nat->Prop}(hA:∀b,b<w.heap.size->A' b->A b){p:PV}{v:Value}(h:Wh w A p v):Wh w A' p v:=by
 cases p with
 |agg cs=>
  obtain⟨vs,rfl,h2⟩:=h;exact⟨vs,rfl,h2.mono fun c v hc=>⟨hc.1,hc.2.step (C2.refl _ _) hA⟩⟩
 |sc v=>exact⟨h.1,h.2.step (C2.refl _ _) hA⟩
 |lst z es n c=>exact⟨h.1,h.2.step (C2.refl _ _) hA⟩
 |_=>exact h.1.elim
theorem Afy {w:World}{Y:Nat->Prop}{args:List PV}{us:List Value}(hY:∀b,Y b->b<w.heap.size)(h:B8 (Wh w Y) args us):Ins w Y BA args us:=
 ⟨hY,fun b _=>Rr b,fun b h=>absurd h (Rr b),(fun _ _ _ _ _ _ _ h=>by cases h),(fun _ _ h=>by cases h),GH (h.mono fun _ _ hx=>ZS (fun b _ hb=>hb.elim (fun q=>absurd q (Rr b)) id) hx)⟩
def NoNG (P:Program):Prop:=∀(f:FuncId) (fn:Func),P.funcs[f]?=some fn->(fn.name == "runtime.NumGoroutine")=false
structure QA (P:Program) (G:Xl) (w0:World) (X0:Gg):Prop where
 ng:NoNG P
 fr:∀w,Fr X0 w0 w->G.ok w
 y:∀b,G.bl b->b<w0.heap.size∧¬X0.X b
section
variable {R:Type} {r:R} {P:Program} {N:Nat} {w0:World} {X0:Gg} {Y:Nat->Prop} {β β':Bt} {s:St} {a:Act} {w w':World} {o:Oper} {A:Nat->Prop}
def TL (P:Program)(a:Act)(w:World)(o:Oper)(Y:Nat->Prop)(β:Bt)(s:St)(v:PV)(fz:List Nat)(nw:List (Nat × Cb)):Prop:=
 (∀id∈fz,∃f c,s.hp id=some (.ar f c))∧∀(next:Act->World->Prop)(Q:Exit->Act->World->Prop),
  (∀val w',(Cx s.hp nw=true->∃β',Abo Y β ⟨s.tm,Ak s.hp fz⟩ w v nw val w' β')->next (a.put o.dst val) w')->o.wp P a w next Q
theorem VG {v:PV}{fz:List Nat}{nw:List (Nat × Cb)} (h:Gu P a w o Y β s v fz nw):TL P a w o Y β s v fz nw:=by
 obtain⟨h1,val,w',hr,hs⟩:=h;refine⟨h1,fun next Q hn=>?_⟩
 unfold Oper.wp;rw[hr];exact hn val w' hs
theorem As5 (h:Ch N w0 X0 Y β s a w){t:TypeId}{x:PV}{u:Value}(hx:Et w (Du s.hp β Y) β x u) {K:PV->List Nat->Option R}(hk:Ai5 P (Oz s.hp) t x K=some r):
  ∃p m,K p m=some r∧(∀id∈m,∃f cc,s.hp id=some (.ar f cc))∧(cellsOf p).length=(L8 P t).length∧∀fz:List Nat,(∀id∈m,id∈fz)->(∀id∈fz,∃f cc,s.hp id=some (.ar f cc))->Wh w (Du (Ak s.hp fz) β Y) p u:=by
 unfold Ai5 at hk;cases Jc:C6 P t
 ·rw[Jc] at hk;obtain⟨cs,m,hk,hl,Pn,hT,hF,hm,hv⟩:=Xw h (show Tz _ _ _ _=some r from hk)
  obtain⟨c,t',rfl,hk⟩:=Bw hk;obtain⟨rfl,hk⟩:=Ex hk;have hcT:=hT c (by simp)
  refine⟨c,m,hk,hm,?_,fun fz h1 h2=>?_⟩
  ·have:cellsOf c=[c]:=by cases c<;>first|rfl|exact hcT.elim
   rw[this];exact hl
  have hF':=hF _ (List.mem_singleton_self _)
  have hc:Cu w (Du s.hp β Y) β x u:=by
   cases x<;>first|exact hx|exact hF'.elim
  have h3:=(hv fz h1 h2 [u] ⟨hc,trivial⟩).1.1;cases c<;>first|exact⟨trivial,h3⟩|exact hcT.elim
 ·rw[Jc] at hk;obtain⟨ps,hp,hk⟩:=Kz (show Ef _ _=some r from hk)
  rw[hp] at hx;obtain⟨cs,m,hk,hl,Pn,hT,hF,hm,hv⟩:=Xw h hk;obtain⟨vs,El,h2⟩:=hx;refine⟨.agg cs,m,hk,hm,hl,fun fz h1 h3=>⟨vs,El,?_⟩⟩
  exact (hv fz h1 h3 vs h2).1.mono_mem fun c hc v PG=>⟨hT c hc,PG⟩
theorem Arx (h:Ch N w0 X0 Y β s a w){t:TypeId}{x:Operand}{K:PV->List Nat->Option R}(hk:Ai5 P (Oz s.hp) t (C8 s.tm x) K=some r):
  ∃p m,K p m=some r∧(∀id∈m,∃f cc,s.hp id=some (.ar f cc))∧∀fz:List Nat,(∀id∈m,id∈fz)->(∀id∈fz,∃f cc,s.hp id=some (.ar f cc))->Wh w (Du (Ak s.hp fz) β Y) p (a.eval x):=by
 obtain⟨p,m,h1,h2,_,h3⟩:=As5 h (Ec h x) hk;exact⟨p,m,h1,h2,h3⟩
theorem Aav (h:Ch N w0 X0 Y β s a w):∀{ts:List TypeId}{xs:List Operand}{K:List PV->List Nat->Option R},XA P (Oz s.hp) ts (xs.map (C8 s.tm)) K=some r ->
  ∃ps m,K ps m=some r∧(∀id∈m,∃f cc,s.hp id=some (.ar f cc))∧∀fz:List Nat,(∀id∈m,id∈fz)->(∀id∈fz,∃f cc,s.hp id=some (.ar f cc))->B8 (Wh w (Du (Ak s.hp fz) β Y)) ps (xs.map a.eval)
 |[],[],K,hk=>⟨[],[],hk,by simp,fun _ _ _=>trivial⟩
 |[],_::_,K,hk=>by cases hk
 |_::_,[],K,hk=>by cases hk
 |t::ts,x::xs,K,hk=>by
  simp only[List.map_cons] at hk;unfold XA at hk;obtain⟨p,m,hk,hm,hv⟩:=Arx h hk;obtain⟨ps,ms,hk,WQ,V4⟩:=Aav h hk;refine⟨p::ps,m++ms,hk,?_,fun fz h1 h2=>⟨hv fz (fun i hi=>h1 i (by simp[hi])) h2,V4 fz (fun i hi=>h1 i (by simp[hi])) h2⟩⟩
  intro i hi;rcases List.mem_append.1 hi with hi|hi
  ·exact hm i hi
  ·exact WQ i hi
theorem Wh.weaken {A':Nat->Prop}(hA:∀b,b<w.heap.size->A' b->A b){p:PV}{v:Value}(h:Wh w A p v):Wh w A' p v:=by
 have one:FJ p->FJ p∧A8 w A p v->Wh w A' p v:=by
  intro hp h;cases p<;>first|exact⟨h.1,h.2.step (C2.refl _ _) hA⟩|exact hp.elim
 cases p with
 |agg cs=>
  obtain⟨vs,rfl,h2⟩:=h;exact⟨vs,rfl,h2.mono fun c v hc=>⟨hc.1,hc.2.step (C2.refl _ _) hA⟩⟩
 |_=>exact one h.1 h
theorem Arf {t:CT}{p:PV}{K:PV->Option R}(h:NI t p K=some r):
  ∃c,K c=some r∧FJ c∧FJ p∧(∀(w:World) (A:Nat->Prop) (β:Nat->Option (Nat × Nat)) (v:Value),Cu w A β p v->A8 w A c v∧v.oneCell'=true)∧((∀es,t ≠ .sl es)->∃v,c=.sc v):=by
 obtain⟨c,hk,hT,SK,hv⟩:=R8 h;cases t with
 |sl es=>exact⟨c,hk,hT,SK,hv,fun Fu=>absurd rfl (Fu es)⟩
 |int k=>obtain⟨n,rfl,h2⟩:=Gv h;exact⟨_,h2,trivial,trivial,fun w A β v hv=>⟨hv,by have:=A8.val (w:=w) (A:=A) hv;subst this;rfl⟩,fun _=>⟨_,rfl⟩⟩
 |bool=>obtain⟨n,rfl,h2⟩:=Fi h;exact⟨_,h2,trivial,trivial,fun w A β v hv=>⟨hv,by have:=A8.val (w:=w) (A:=A) hv;subst this;rfl⟩,fun _=>⟨_,rfl⟩⟩
 |str=>obtain⟨n,rfl,h2⟩:=Ff h;exact⟨_,h2,trivial,trivial,fun w A β v hv=>⟨hv,by have:=A8.val (w:=w) (A:=A) hv;subst this;rfl⟩,fun _=>⟨_,rfl⟩⟩
 |any=>
  obtain⟨f,a,b,rfl,h2⟩:=Adw (show fnK p (fun v=>K (.sc v))=some r from h)
  exact⟨_,h2,trivial,trivial,fun w A β v hv=>⟨hv,by have:=A8.val (w:=w) (A:=A) hv;subst this;rfl⟩,fun _=>⟨_,rfl⟩⟩
theorem DJ (shr:Bool)(N:Nat):∀{ts:List CT}{ps:List PV}{id:Nat}{K:List PV->List (Nat × Cb)->Option R},Xk shr N id ts ps K=some r ->
  ∃cs bs,K cs bs=some r∧ps.length=ts.length∧(∀p∈ps,∀x,p ≠ .agg x∧p ≠ .pbox x)∧(∀c∈cs,XN c)∧((∀es,CT.sl es ∉ ts)->bs=[]∧∀c∈cs,∃v,c=.sc v) ∧
   (∀i bx,(i,bx)∈bs->∃j es n c,ps[j]?=some (.own es n c)∧i=id+N*j∧bx=.ar false c) ∧
   (∀c∈cs,∀i∈A7 c,∃bx,(i,bx)∈bs) ∧
   ∀(w:World) (A:Nat->Prop) (own β':Bt) (j0:Nat) (us:List Value),(∀j,(∃bx,(id+N*j,bx)∈bs)->β' (id+N*j)=own (j0+j))->H4 w A own j0 ps us->B8 (Cu w A β') cs us
 |[],ps,id,K,hk=>by
  obtain⟨rfl,hk⟩:=Ex hk;refine⟨[],[],hk,rfl,by simp,by simp,by simp,by simp,by simp,fun w A own β' j0 us _ h=>?_⟩
  cases us with
  |nil=>trivial
  |cons u us=>exact h.elim
 |t::ts,ps,id,K,hk=>by
  unfold Xk at hk;obtain⟨p,ps',QC,Em⟩:=Bw hk;subst QC;clear hk
  have main:∃c b,(Xk shr N (id+N) ts ps' fun cs bs=>K (c::cs) (b++bs))=some r∧(∀x,p ≠ .agg x∧p ≠ .pbox x)∧XN c∧((∀es,t≠CT.sl es)->b=[]∧∃v,c=.sc v)∧(∀i bx,(i,bx)∈b->∃es n cc,p=.own es n cc∧i=id∧bx=.ar false cc)∧(∀i∈A7 c,∃bx,(i,bx)∈b) ∧
    ∀(w:World) (A:Nat->Prop) (own:Option (Nat × Nat)) (β':Bt) (u:Value),((∃bx,(id,bx)∈b)->β' id=own)->Kp w A own p u->Cu w A β' c u:=by
   have tree:∀t',t'=t->(NI t' p fun c=>Xk shr N (id+N) ts ps' fun cs bs=>K (c::cs) ([]++bs))=some r->∃c b,(Xk shr N (id+N) ts ps' fun cs bs=>K (c::cs) (b++bs))=some r∧(∀x,p ≠ .agg x∧p ≠ .pbox x)∧XN c∧((∀es,t≠CT.sl es)->b=[]∧∃v,c=.sc v)∧(∀i bx,(i,bx)∈b->∃es n cc,p=.own es n cc∧i=id∧bx=.ar false cc)∧(∀i∈A7 c,∃bx,(i,bx)∈b) ∧
     ∀(w:World) (A:Nat->Prop) (own:Option (Nat × Nat)) (β':Bt) (u:Value),((∃bx,(id,bx)∈b)->β' id=own)->Kp w A own p u->Cu w A β' c u:=by
    intro t' ht' hk;have hsc:=Arf hk;obtain⟨c,hk,hT,SK,hv,hsc⟩:=hsc;refine⟨c,[],hk,fun x=>⟨JU SK x,by rintro rfl;exact SK⟩,Y6 hT,fun Fu=>⟨rfl,hsc (fun es e=>Fu es (ht'.symm.trans e))⟩,by simp,by rw[Ll hT];simp,fun w A own β' u _ hc=>?_⟩
    have X4:Cu w A β' p u:=by cases p<;>first|exact hc|exact SK.elim
    exact (Qq hT).2 (hv w A β' u X4).1
   unfold As1 at Em;cases t with
   |sl es=>
    dsimp only at Em;cases shr
    ·unfold F5 at Em;simp only[cond_false] at Em;split at Em
     ·rename_i es' n c;cases hb:Nat.beq es' es
      ·rw[hb] at Em;cases Em
      ·rw[hb] at Em;have:=Nat.eq_of_beq_eq_true hb;subst this;refine⟨_,_,Em,by simp,trivial,fun Fu=>absurd rfl (Fu _),?_,?_,fun w A own β' u hβ hc=>?_⟩
       ·intro i bx hm;simp at hm;exact⟨_,_,_,rfl,hm.1,hm.2⟩
       ·intro i hi;simp[A7] at hi;subst hi;exact⟨.ar false c,by simp⟩
       ·have hβ':=hβ ⟨.ar false c,by simp⟩
        clear hβ;rcases hc with⟨h1,rfl,rfl,h4⟩|⟨b,ob,cap,h1,h2,h3,h4,h5,_⟩
        ·exact .inl ⟨hβ'.trans h1,rfl,rfl,h4⟩
        ·exact .inr ⟨b,ob,ob,cap,hβ'.trans h1,h2,.inl rfl,h3,h4,h5⟩
     ·cases Em
    ·obtain⟨c,hk,hT,SK,hv,_⟩:=Arf (t:=.sl es) (p:=p) (K:=fun c=>Xk true N (id+N) ts ps' fun cs bs=>K (Ace c::cs) ([]++bs)) Em
     have hU:FJ (Ace c):=by cases c<;>exact hT
     refine⟨Ace c,[],hk,fun x=>⟨JU SK x,by rintro rfl;exact SK⟩,Y6 hU,fun Fu=>absurd rfl (Fu _),by simp,by rw[Ll hU];simp,fun w A own β' u _ hc=>?_⟩
     have X4:Cu w A β' p u:=by cases p<;>first|exact hc|exact SK.elim
     refine (Qq hU).2 ?_;have:=(hv w A β' u X4).1;cases c with
     |lst z es n c=>exact A8.unz this
     |_=>exact this
   |int k=>exact tree (.int k) rfl Em
   |bool=>exact tree .bool rfl Em
   |str=>exact tree .str rfl Em
   |any=>exact tree .any rfl Em
  obtain⟨c,b,hk,hpa,hF,RU,I6,Pw,PG⟩:=main;obtain⟨cs,bs,hk,hl,Bbs,hFs,A35,Bdh,Bcs,Ba0⟩:=DJ shr N hk;refine⟨c::cs,b++bs,hk,by simp[hl],?_,?_,?_,?_,?_,fun w A own β' j0 us hβ hoc=>?_⟩
  ·intro x hx;rcases List.mem_cons.1 hx with rfl|hx
   ·exact hpa
   ·exact Bbs x hx
  ·intro x hx;rcases List.mem_cons.1 hx with rfl|hx
   ·exact hF
   ·exact hFs x hx
  ·intro Fu;obtain⟨h1,v,h2⟩:=RU (fun es e=>Fu es (by rw[e];simp))
   obtain⟨h3,h4⟩:=A35 (fun es hm=>Fu es (by simp[hm]))
   refine⟨by rw[h1,h3];rfl,fun x hx=>?_⟩
   rcases List.mem_cons.1 hx with rfl|hx
   ·exact⟨v,h2⟩
   ·exact h4 x hx
  ·intro i bx hm;rcases List.mem_append.1 hm with hm|hm
   ·obtain⟨es,n,cc,rfl,rfl,rfl⟩:=I6 i bx hm;exact⟨0,es,n,cc,rfl,by simp,rfl⟩
   ·obtain⟨j,es,n,cc,h1,rfl,h3⟩:=Bdh i bx hm;exact⟨j+1,es,n,cc,by simpa using h1,by rw[Nat.mul_add];omega,h3⟩
  ·intro x hx i hi;rcases List.mem_cons.1 hx with rfl|hx
   ·obtain⟨bx,hm⟩:=Pw i hi;exact⟨bx,by simp[hm]⟩
   ·obtain⟨bx,hm⟩:=Bcs x hx i hi;exact⟨bx,by simp[hm]⟩
  ·cases us with
   |nil=>exact hoc.elim
   |cons u us=>
    refine⟨PG w A (own j0) β' u (fun ⟨bx,hm⟩=>by have:=hβ 0 ⟨bx,by simp[hm]⟩;simpa using this) hoc.1,?_⟩
    refine Ba0 w A own β' (j0+1) us (fun j ⟨bx,hm⟩=>?_) hoc.2
    have e:id+N+N*j=id+N*(j+1):=by rw[Nat.mul_add];omega
    have:=hβ (j+1) ⟨bx,by rw[←e];simp[hm]⟩
    rw[e,this]
    congr 1
    omega
end
open Go.RowKit
section
variable {R:Type} {r:R} {P:Program} {N:Nat} {w0:World} {X0:Gg} {Y:Nat->Prop} {β β':Bt} {s:St} {a:Act} {w w':World} {o:Oper} {A:Nat->Prop}
theorem H4.len:∀{j:Nat}{own:Bt}{ps:List PV}{us:List Value},H4 w A own j ps us->ps.length=us.length
 |_,_,[],[],_=>rfl
 |_,_,_::_,_::_,h=>by simp[H4.len h.2]
 |_,_,[],_::_,h=>h.elim
 |_,_,_::_,[],h=>h.elim
theorem H4.at_:∀{j:Nat}{own:Bt}{ps:List PV}{us:List Value},H4 w A own j ps us->∀{i:Nat} {p},ps[i]?=some p->∃u,us[i]?=some u∧Kp w A (own (j+i)) p u
 |_,_,[],[],_,i,p,h=>by simp at h
 |j,own,_::_,u::_,h,0,p,hp=>by simp at hp;subst hp;exact⟨u,rfl,h.1⟩
 |j,own,_::_,_::_,h,i+1,p,hp=>by
  simp at hp;obtain⟨u,hu,hc⟩:=H4.at_ h.2 hp;exact⟨u,by simpa using hu,by rw[show j+(i+1)=j+1+i from by omega];exact hc⟩
 |_,_,[],_::_,h,_,_,_=>h.elim
 |_,_,_::_,[],h,_,_,_=>h.elim
def Ard (N id:Nat)(β':Bt)(w:World)(A:Nat->Prop)(z n:Nat)(bs:List (Nat × Cb)):Prop:=
 ∀i bx,(i,bx)∈bs->(∃j,i=id+N*j∧j<n)∧C5 (some bx)∧Wx w A β' i bx∧∀cs,bx=.st cs->∀b o,β' i=some (b,o)->z<=b
def MQ (bs:List (Nat × Cb)):Prop:=∀i cells,(i,.st cells)∈bs->∀c∈cells,∀i'∈A7 c,∃bx,(i',bx)∈bs
theorem JP {q:Option (Nat × Nat)} {es n i:Nat}{c:List PV}{u:Value}(h:Kp w A q (.own es n c) u) (hβ:β' i=q):Wx w A β' i (.ar false c):=by
 rcases h with⟨h1,_,h2,_⟩|⟨b,o,cap,h1,_,_,_,_,h6,h7⟩
 ·exact .inl ⟨hβ.trans h1,h2⟩
 ·exact .inr ⟨b,o,hβ.trans h1,h6,fun _=>h7,(fun x=>by cases x)⟩
theorem NB {t:TypeId}(h:Oq P [t]=false):JE P t=none∧∀es,CT.sl es ∉ L8 P t:=by
 simp only[Oq,List.any_cons,List.any_nil,Bool.or_false,Bool.or_eq_false_iff] at h;refine⟨by simpa using h.1,fun es hm=>?_⟩
 have:=List.any_eq_false.1 h.2 _ hm;simp at this
theorem Auu (shr:Bool)(N:Nat){t:TypeId}{p:PV}{id:Nat}{K:PV->List (Nat × Cb)->Option R} (hk:Aop P shr N id t p K=some r):
  ∃v bs,K v bs=some r∧plc p=Aet P t∧(∀x,v ≠ .tup x)∧(Oq P [t]=false->bs=[]∧∀c∈cellsOf v,∃u,c=.sc u)∧(∀i∈Cw v,∃bx,(i,bx)∈bs)∧MQ bs ∧
   ∀(w:World) (A:Nat->Prop) (own β':Bt) (z j0:Nat) (u:Value),(∀j,(∃bx,(id+N*j,bx)∈bs)->β' (id+N*j)=own (j0+j))->Axe w A own z j0 p u->I7 w A β' v u∧Ard N id β' w A z (plc p) bs:=by
 have boxes:∀{bs:List (Nat × Cb)} {ps:List PV} {id:Nat},(∀i bx,(i,bx)∈bs->∃j es n c,ps[j]?=some (.own es n c)∧i=id+N*j∧bx=.ar false c) ->
   MQ bs∧∀(w:World) (A:Nat->Prop) (own β':Bt) (j0:Nat) (us:List Value),(∀j,(∃bx,(id+N*j,bx)∈bs)->β' (id+N*j)=own (j0+j))->H4 w A own j0 ps us->∀z,Ard N id β' w A z ps.length bs:=by
  intro bs ps id I6;refine⟨fun i cells hm=>?_,fun w A own β' j0 us hβ ho z i bx hm=>?_⟩
  ·obtain⟨_,_,_,_,_,_,h3⟩:=I6 i _ hm;cases h3
  ·obtain⟨j,es,n,cc,h1,h2,h3⟩:=I6 i bx hm;obtain⟨u,hu,hoc⟩:=ho.at_ h1;subst h3;refine⟨⟨j,h2,?_⟩,trivial,JP hoc ?_,fun _ e=>by cases e⟩
   ·rcases Nat.lt_or_ge j ps.length with h|h
    ·exact h
    ·rw[List.getElem?_eq_none h] at h1;cases h1
   ·rw[h2];exact hβ j ⟨_,h2 ▸ hm⟩
 unfold Aop at hk;split at hk
 ·rename_i e he;obtain⟨ps,rfl,hk⟩:=Aa3 hk;obtain⟨cs,bs,hk,hl,Aws,hF,RU,I6,Pw,PG⟩:=DJ shr N hk;obtain⟨hri,Ow⟩:=boxes I6;refine⟨.ptr id 0,_,hk,by simp only[plc,Aet,he,hl],by simp,fun h=>?_,fun i hi=>?_,fun i cells hm c hc i' hi'=>?_,fun w A own β' z j0 u hβ ho=>?_⟩
  ·have:=(NB h).1;rw[he] at this;cases this
  ·simp only[Cw,A7,List.mem_singleton] at hi;subst hi;exact⟨_,List.mem_cons_self⟩
  ·rcases List.mem_cons.1 hm with e|hm
   ·cases e;obtain⟨bx,hb⟩:=Pw c hc i' hi';exact⟨bx,List.mem_cons_of_mem _ hb⟩
   ·obtain⟨bx,hb⟩:=hri i cells hm c hc i' hi';exact⟨bx,List.mem_cons_of_mem _ hb⟩
  ·obtain⟨b,o,h1,hz,rfl,vs,h3,h4,h5⟩:=ho;have h0:=hβ 0 ⟨_,by rw[Nat.mul_zero,Nat.add_zero];exact List.mem_cons_self⟩
   rw[Nat.mul_zero,Nat.add_zero,Nat.add_zero,h1] at h0;have B6:∀j,id+N+N*j=id+N*(j+1):=fun j=>by rw[Nat.mul_add];omega
   have hβ1:∀j,(∃bx,(id+N+N*j,bx)∈bs)->β' (id+N+N*j)=own (j0+1+j):=fun j ⟨bx,hm⟩=>by
    rw[B6,hβ (j+1) ⟨bx,by rw[←B6];exact List.mem_cons_of_mem _ hm⟩]
    congr 1;omega
   have hc2:=PG w A own β' (j0+1) vs hβ1 h3;have hb3:=Ow w A own β' (j0+1) vs hβ1 h3 z;have Hw:cs.length=ps.length:=by rw[hc2.len,←h3.len]
   refine⟨⟨b,o,h0,by simp⟩,fun i bx hm=>?_⟩
   rcases List.mem_cons.1 hm with e|hm
   ·cases e;refine⟨⟨0,by simp,by simp only[plc];omega⟩,trivial,⟨b,o,h0,fun k c hk=>?_,fun k hk=>h5 k (by omega)⟩,fun _ _ b' o' J0=>?_⟩
    ·obtain⟨v,hv,hcr⟩:=hc2.get hk;exact⟨v,h4 k v hv,hcr⟩
    ·rw[h0] at J0;cases J0;exact hz
   ·obtain⟨⟨j,hj,hjn⟩,h6,h7⟩:=hb3 i bx hm;exact⟨⟨j+1,by rw[hj,B6],by simp only[plc];omega⟩,h6,h7⟩
 ·rename_i hnp;have QM:Aet P t=(L8 P t).length:=by simp only[Aet,hnp]
  cases Jc:C6 P t
  ·rw[Jc] at hk;obtain⟨cs,bs,hk,hl,Aws,hF,RU,I6,Pw,PG⟩:=DJ shr N (show Xk _ _ _ _ _ _=some r from hk)
   obtain⟨c,t',rfl,hk⟩:=Bw hk;obtain⟨rfl,hk⟩:=Ex hk;have hFc:=hF c (by simp)
   have A73:∀x,p ≠ .pbox x:=fun x=>(Aws p (by simp) x).2
   have A4r:∀x,c ≠ .agg x:=by rintro x rfl;exact hFc
   have Bas:∀x,c ≠ .tup x:=by rintro x rfl;exact hFc
   have hr1:Cw c=A7 c:=by cases c<;>first|rfl|exact absurd rfl (A4r _)
   have hpa:∀x,p ≠ .agg x:=fun x=>(Aws p (by simp) x).1
   obtain⟨hri,Ow⟩:=boxes I6;have hcell:cellsOf p=[p]:=by cases p<;>first|rfl|exact absurd rfl (hpa _)
   have A6c:plc p=1:=by cases p<;>first|rfl|exact absurd rfl (hpa _)|exact absurd rfl (A73 _)
   have hcc:cellsOf c=[c]:=by cases c<;>first|rfl|exact absurd rfl (A4r _)
   refine⟨c,bs,hk,by rw[A6c,QM];exact hl,Bas,fun Fu=>by rw[hcc];exact RU (NB Fu).2,fun i hi=>Pw c (by simp) i (by rw[←hr1];exact hi),hri,fun w A own β' z j0 u hβ ho=>?_⟩
   have ho':Kp w A (own j0) p u:=by cases p<;>first|exact ho|exact absurd rfl (hpa _)|exact absurd rfl (A73 _)
   exact⟨(Yq A4r).2 (PG w A own β' j0 [u] hβ ⟨ho',trivial⟩).1,by rw[A6c];exact Ow w A own β' j0 [u] hβ ⟨ho',trivial⟩ z⟩
  ·rw[Jc] at hk;obtain⟨ps,rfl,hk⟩:=Kz (show Ef _ _=some r from hk)
   obtain⟨cs,bs,hk,hl,Aws,hF,RU,I6,Pw,PG⟩:=DJ shr N hk;obtain⟨hri,Ow⟩:=boxes I6;refine⟨.agg cs,bs,hk,by rw[QM];exact hl,by simp,fun Fu=>RU (NB Fu).2,fun i hi=>?_,hri,fun w A own β' z j0 u hβ ho=>?_⟩
   ·obtain⟨c,hc,hi⟩:=List.mem_flatMap.1 (show i∈cs.flatMap A7 from hi)
    exact Pw c hc i hi
   ·obtain⟨vs,rfl,ho⟩:=ho;exact⟨⟨vs,rfl,PG w A own β' j0 vs hβ ho⟩,Ow w A own β' j0 vs hβ ho z⟩
theorem OB (shr:Bool)(N:Nat):∀{ts:List TypeId}{ps:List PV}{id:Nat}{K:List PV->List (Nat × Cb)->Option R},PP P shr N id ts ps K=some r ->
  ∃vs bs,K vs bs=some r∧vs.length=ps.length∧(∀v∈vs,∀x,v ≠ .tup x)∧(Oq P ts=false->bs=[]∧∀v∈vs,∀c∈cellsOf v,∃u,c=.sc u)∧(∀v∈vs,∀i∈Cw v,∃bx,(i,bx)∈bs)∧MQ bs ∧
   ∀(w:World) (A:Nat->Prop) (own β':Bt) (z j0:Nat) (us:List Value),(∀j,(∃bx,(id+N*j,bx)∈bs)->β' (id+N*j)=own (j0+j))->Amd w A own z j0 ps us->B8 (I7 w A β') vs us∧Ard N id β' w A z (S9 ps) bs
 |[],ps,id,K,hk=>by
  obtain⟨rfl,hk⟩:=Ex hk;refine⟨[],[],hk,rfl,by simp,by simp,by simp,(by intro i cells hm;cases hm),fun w A own β' z j0 us _ h=>?_⟩
  cases us with
  |nil=>exact⟨trivial,by intro i bx hm;cases hm⟩
  |cons u us=>exact h.elim
 |t::ts,ps,id,K,hk=>by
  unfold PP at hk;obtain⟨p,ps',QC,Em⟩:=Bw hk;subst QC;clear hk;obtain⟨v,bs,hk,hl,hnt,RU,hr1,hri,hv⟩:=Auu shr N Em;obtain⟨vs,bs',hk,hvl,Bb2,A35,hrs,Bad,V4⟩:=OB shr N hk;refine⟨v::vs,bs++bs',hk,by simp[hvl],?_,?_,?_,?_,fun w A own β' z j0 us hβ ho=>?_⟩
  ·intro x hx;rcases List.mem_cons.1 hx with rfl|hx
   ·exact hnt
   ·exact Bb2 x hx
  ·intro Fu;simp only[Oq,List.any_cons,Bool.or_eq_false_iff] at Fu;obtain⟨h1,h2⟩:=RU (by simp only[Oq,List.any_cons,List.any_nil,Bool.or_false,Bool.or_eq_false_iff];exact Fu.1)
   obtain⟨h3,h4⟩:=A35 (by simp only[Oq];exact Fu.2)
   refine⟨by rw[h1,h3];rfl,fun x hx=>?_⟩
   rcases List.mem_cons.1 hx with rfl|hx
   ·exact h2
   ·exact h4 x hx
  ·intro x hx i hi;rcases List.mem_cons.1 hx with rfl|hx
   ·obtain⟨bx,hm⟩:=hr1 i hi;exact⟨bx,by simp[hm]⟩
   ·obtain⟨bx,hm⟩:=hrs x hx i hi;exact⟨bx,by simp[hm]⟩
  ·intro i cells hm c hc i' hi';rcases List.mem_append.1 hm with hm|hm
   ·obtain⟨bx,hb⟩:=hri i cells hm c hc i' hi';exact⟨bx,by simp[hb]⟩
   ·obtain⟨bx,hb⟩:=Bad i cells hm c hc i' hi';exact⟨bx,by simp[hb]⟩
  ·cases us with
   |nil=>exact ho.elim
   |cons u us=>
    obtain⟨h1,I6⟩:=hv w A own β' z j0 u (fun j ⟨bx,hm⟩=>hβ j ⟨bx,by simp[hm]⟩) ho.1
    have B6:∀j,id+N*Aet P t+N*j=id+N*(Aet P t+j):=fun j=>by rw[Nat.mul_add];omega
    obtain⟨h2,Pw⟩:=V4 w A own β' z (j0+plc p) us (fun j ⟨bx,hm⟩=>by rw[B6,hβ _ ⟨bx,by rw[←B6];simp[hm]⟩,hl];congr 1;omega) ho.2
    refine⟨⟨h1,h2⟩,fun i bx hm=>?_⟩
    rcases List.mem_append.1 hm with hm|hm
    ·obtain⟨⟨j,hj,hjn⟩,h4,h5⟩:=I6 i bx hm;exact⟨⟨j,hj,by simp only[S9,List.map_cons,List.sum_cons];omega⟩,h4,h5⟩
    ·obtain⟨⟨j,hj,hjn⟩,h4,h5⟩:=Pw i bx hm;refine⟨⟨_,by rw[hj,B6],?_⟩,h4,h5⟩
     simp only[S9,List.map_cons,List.sum_cons] at hjn ⊢;omega
def RG (N d:Nat)(bs:List (Nat × Cb)) (own β:Bt):Bt:=fun i=>if (bs.any fun q=>Nat.beq q.1 i)=true then own ((i-d) / N) else β i
theorem Ac9 {bs:List (Nat × Cb)} {i:Nat}:(bs.any fun q=>Nat.beq q.1 i)=true↔∃bx,(i,bx)∈bs:=by
 rw[List.any_eq_true];constructor
 ·rintro⟨⟨j,bx⟩,hm,e⟩
  have:=Nat.eq_of_beq_eq_true e;subst this;exact⟨bx,hm⟩
 ·rintro⟨bx,hm⟩
  exact⟨_,hm,Nat.beq_refl i⟩
theorem Amu {N d j:Nat}(hN:0<N){bs:List (Nat × Cb)} {own β:Bt}(h:∃bx,(d+N*j,bx)∈bs):RG N d bs own β (d+N*j)=own j:=by
 unfold RG;rw[if_pos (Ac9.2 h),Nat.add_sub_cancel_left,Nat.mul_div_cancel_left _ hN]
theorem JA {c:Call}{f:FuncId}(ho:o.op=.call c)(hc:c.callee=.value (.func f)) (Kg:NoNG P){fn:Func}(hf:P.funcs[f]?=some fn) (hb:fn.body.isSome=true):
  (execOp a.eval o).run P w=.ok (.enter f (c.args.map a.eval)) w:=by
 unfold execOp;rw[ho]
 have hn:¬fn.body=none:=by
  intro h;rw[h] at hb;cases hb
 have Fu:¬fn.name = "runtime.NumGoroutine" :=by simpa using Kg f fn hf
 simp[resolve,hc,Act.eval,Deferred.ofValue,invoke,callFunc,hf,Fu,hn]
theorem Anq {c:Call}{t:Nat}{f:FuncId}(ho:o.op=.call c)(hc:c.callee=.value (.tmp t)) (ht:a.eval (.tmp t)=.func (.func f) #[] #[]) (Kg:NoNG P){fn:Func}(hf:P.funcs[f]?=some fn) (hb:fn.body.isSome=true):
  (execOp a.eval o).run P w=.ok (.enter f (c.args.map a.eval)) w:=by
 unfold execOp;rw[ho]
 have hn:¬fn.body=none:=by
  intro h;rw[h] at hb;cases hb
 have Fu:¬fn.name = "runtime.NumGoroutine" :=by simpa using Kg f fn hf
 simp[resolve,hc,ht,Deferred.ofValue,invoke,callFunc,hf,Fu,hn]
theorem QB {A':Nat->Prop}(k:Bool):∀{xs:List Operand}{ps:List PV},B8 (Wh w A') ps (xs.map a.eval)->B8 (Wh w A') (N8 k xs ps) (xs.map a.eval)
 |[],[],h=>h
 |[],_::_,h=>h
 |_::_,[],h=>h
 |x::xs,p::ps,h=>by
  simp only[List.map_cons] at h ⊢;refine⟨?_,QB k h.2⟩;split
  ·exact⟨trivial,A8.lnil _ _⟩
  ·exact h.1
theorem UN (h : Ch N w0 X0 Y β s a w) {G : Xl} (Kg : QA P G w0 X0) {C : Kf} {call : Ah} (Dj : ∀ f args res, call f args = some res -> Dl G P f args res) {c : Call} {f : FuncId} (D5 : ∀ {fn : Func}, P.funcs[f]? = some fn -> fn.body.isSome = true -> (execOp a.eval o).run P w = .ok (.enter f (c.args.map a.eval)) w)
    {K : PV -> List Nat -> List (Nat × Cb) -> Option R}
    (hk : (XA P (Oz s.hp) (TJ P f c) (c.args.toList.map (C8 s.tm)) fun vs m =>
          Aj (call f (N8 (C.kz f) c.args.toList vs)) fun rv ro => Ac ro (Aw (Nat.blt 0 N) <| PP P (C.shr f) N (o.dst.getD 0) (Tp P o.type) rv fun ws bs =>
            Aw (bif Vh P o.type then !Nat.beq ws.length 1 else Nat.beq ws.length 1) <| K (Ud ws (Vh P o.type)) (bif Oq P (Tp P o.type) then m else []) bs)) = some r) : ∃ v fz nw, K v fz nw = some r ∧ TL P a w o Y β s v fz nw := by
  obtain⟨ps, m, hk, hm, Fo⟩ := Aav h hk
  replace Fo := fun fz h1 h2 => QB (a := a) (C.kz f) (Fo fz h1 h2)
  generalize N8 (C.kz f) c.args.toList ps = ps at hk Fo
  obtain⟨rv, ro, AK, hk⟩ := Aax hk
  obtain⟨rfl, hk⟩ := Ex hk
  obtain⟨hN, hk⟩ := A3 hk
  have hN : 0 < N := Nat.lt_of_succ_le (Nat.le_of_ble_eq_true hN)
  obtain⟨ws, bs, hk, hwl, hnt, RU, hrs, hri, hws⟩ := OB (C.shr f) N hk
  obtain⟨Xd, hk⟩ := A3 hk
  obtain⟨⟨fn, hfn, hfb⟩, hcs⟩ := Dj f ps _ AK
  obtain⟨fz, NL, hfm⟩ : ∃ fz : List Nat, fz = (bif Oq P (Tp P o.type) then m else []) ∧ ∀ id ∈ fz, ∃ f c, s.hp id = some (.ar f c) := by
    refine⟨_, rfl, fun id B6 => ?_⟩
    cases hh : Oq P (Tp P o.type) <;> rw[hh] at B6
    · cases B6
    · exact hm id B6
  rw[← NL] at hk
  refine⟨_, _, _, hk, hfm, fun next Q hn => ?_⟩
  have hf := h.freeze hfm
  have hYc : ∃ Yc : Nat -> Prop, (∀ b, Yc b -> b < w.heap.size) ∧ B8 (Wh w Yc) ps (c.args.toList.map a.eval) ∧ ((∀ b, Du (Ak s.hp fz) β Y b -> Yc b) ∨ Oq P (Tp P o.type) = false) := by
    have Y9 := Fo m (fun _ hi => hi) hm
    cases hh : Oq P (Tp P o.type)
    · exact⟨fun _ => False, fun _ x => x.elim, Y9.mono fun _ _ hx => hx.weaken (fun _ _ x => x.elim), .inr rfl⟩
    · rw[hh] at NL
      have NL : fz = m := NL
      subst NL
      refine⟨Du (Ak s.hp fz) β Y, fun b hb => ?_, Y9, .inl fun _ x => x⟩
      rcases hb with⟨id, ob, hl, hβ⟩ | hY
      · exact hf.blt id b ob (Dy hl) hβ
      · exact Nat.lt_of_lt_of_le (h.Ylt b hY) h.fr.step.size
  obtain⟨Yc, A5k, hYargs, hYA⟩ := hYc
  unfold Oper.wp
  rw[D5 hfn hfb]
  show Calls P f _ w _
  have hca : c.args.map a.eval = (c.args.toList.map a.eval).toArray := by rw[← List.map_toArray, Array.toArray_toList]
  rw[hca]
  refine (hcs w Yc BA _ (Afy A5k hYargs) (Kg.fr w h.fr) (fun b x => ⟨Nat.lt_of_lt_of_le (Kg.y b x).1 h.fr.step.size, Rr b⟩)).mono ?_
  rintro e w' ⟨vs, own, rfl, Ac2⟩
  refine hn (M2 vs) w' fun V8 => ⟨RG N (o.dst.getD 0) bs own β, ?_⟩
  obtain⟨ha1, ha2⟩ := Ck V8
  have Aqr : ∀ i bx, (i, bx) ∈ bs -> Ak s.hp fz i = none := fun i bx hm => F3.2 (ha1 i bx hm)
  obtain⟨hg1, hg2⟩ := Gp (hp := Ak s.hp fz) ha2
  have hold : ∀ i, Ak s.hp fz i ≠ none -> RG N (o.dst.getD 0) bs own β i = β i := by
    intro i hi
    unfold RG
    rw[if_neg]
    intro hx
    obtain⟨bx, hm⟩ := Ac9.1 hx
    exact hi (Aqr i bx hm)
  obtain⟨V4, hba⟩ := hws w' _ own (RG N (o.dst.getD 0) bs own β) w.heap.size 0 vs (fun j hj => by rw[Amu hN hj, Nat.zero_add]) Ac2.vals
  have HT : ∀ i bx, (i, bx) ∈ bs -> ∃ j, i = o.dst.getD 0 + N * j ∧ RG N (o.dst.getD 0) bs own β i = own j := by
    intro i bx hm
    obtain⟨⟨j, rfl, _⟩, _, _⟩ := hba i bx hm
    exact⟨j, rfl, Amu hN ⟨bx, hm⟩⟩
  have hAA : Oq P (Tp P o.type) = false ∨ ∀ b, Du (Bc (Ak s.hp fz) bs) (RG N (o.dst.getD 0) bs own β) Y b -> TG BA own Yc b := by
    rcases hYA with hYA | hYA
    · refine .inr fun b hb => ?_
      rcases hb with⟨i, ob, hl, hβ⟩ | hY
      · by_cases hi : ∃ bx, (i, bx) ∈ bs
        · obtain⟨bx, hm⟩ := hi
          obtain⟨j, _, h3⟩ := HT i bx hm
          rw[h3] at hβ
          exact .inl ⟨j, ob, hβ⟩
        · rw[hg2 i (fun bx hm => hi ⟨bx, hm⟩)] at hl
          rw[hold i (Dy hl)] at hβ
          exact .inr (.inr (hYA b (.inl ⟨i, ob, hl, hβ⟩)))
      · exact .inr (.inr (hYA b (.inr hY)))
    · exact .inl hYA
  have hval : Et w' (Du (Bc (Ak s.hp fz) bs) (RG N (o.dst.getD 0) bs own β) Y) (RG N (o.dst.getD 0) bs own β) (Ud ws (Vh P o.type)) (M2 vs) := by
    have Y9 : B8 (I7 w' (Du (Bc (Ak s.hp fz) bs) (RG N (o.dst.getD 0) bs own β) Y) (RG N (o.dst.getD 0) bs own β)) ws vs := by
      rcases hAA with hno | hAA
      · obtain⟨_, hsc⟩ := RU hno
        refine V4.mono_mem fun v hv u hvu => ?_
        have hsc := hsc v hv
        cases v with
        | agg cs =>
          obtain⟨xs, rfl, XH⟩ := hvu
          refine⟨xs, rfl, XH.mono_mem fun cc hcc x hx => ?_⟩
          obtain⟨y, rfl⟩ := hsc cc hcc
          have := A8.val (w := w') hx
          subst this
          exact A8.sc _
        | sc y =>
          have := A8.val (w := w') hvu
          subst this
          exact A8.sc _
        | lst z es n cc => obtain⟨y, hy⟩ := hsc _ (List.mem_singleton_self _); cases hy
        | own es n cc => obtain⟨y, hy⟩ := hsc _ (List.mem_singleton_self _); cases hy
        | view i es n cc => obtain⟨y, hy⟩ := hsc _ (List.mem_singleton_self _); cases hy
        | ptr i cc => obtain⟨y, hy⟩ := hsc _ (List.mem_singleton_self _); cases hy
        | iptr i cc => obtain⟨y, hy⟩ := hsc _ (List.mem_singleton_self _); cases hy
        | pbox cc => obtain⟨y, hy⟩ := hsc _ (List.mem_singleton_self _); cases hy
        | tup cc => obtain⟨y, hy⟩ := hsc _ (List.mem_singleton_self _); cases hy
        | top => obtain⟨y, hy⟩ := hsc _ (List.mem_singleton_self _); cases hy
        | ub => obtain⟨y, hy⟩ := hsc _ (List.mem_singleton_self _); cases hy
      · exact V4.mono fun v u hvu => hvu.step (C2.refl _ _) (fun b _ => hAA b) (fun _ _ => rfl)
    have Hw := Y9.len
    cases hT : Vh P o.type
    · rw[hT] at Xd
      have h1 : ws.length = 1 := Nat.eq_of_beq_eq_true Xd
      match ws, vs, h1, Hw with
      | [v], [u], _, _ =>
        exact (Si (hnt v (by simp))).2 Y9.1
    · rw[hT] at Xd
      have h1 : ¬ ws.length = 1 := by
        intro e
        rw[e] at Xd
        cases Xd
      have hr : M2 vs = .tuple ⟨vs⟩ := by
        unfold M2
        split
        · simp at Hw; omega
        · rfl
      rw[hr]
      exact⟨vs, rfl, Y9⟩
  refine⟨Ac2.os, Ac2.tape, Ac2.output, Ac2.ext.weaken (fun b _ hb => Rr b hb), hold, ?_, ?_, ?_, ?_, ?_, hval, ?_⟩
  · intro i bx hm
    exact (hba i bx hm).2.1
  · intro i bx hm
    rcases hAA with hno | hAA
    · rw[(RU hno).1] at hm; cases hm
    · exact (hba i bx hm).2.2.1.step' hAA
  · intro i bx b ob hm hβ
    obtain⟨j, _, h3⟩ := HT i bx hm
    rw[h3] at hβ
    obtain⟨h4, h5⟩ := Ac2.fresh j b ob hβ
    refine⟨?_, h4⟩
    rcases Nat.lt_or_ge b w.heap.size with h | h
    · obtain⟨⟨_, _, _, h6⟩, _⟩ := h5 h
      cases h6
    · exact h
  · intro i bx i' bx' b ob ob' hm Sm hβ hβ'
    obtain⟨j, h1, h3⟩ := HT i bx hm
    obtain⟨j', ZM, h3'⟩ := HT i' bx' Sm
    rw[h3] at hβ
    rw[h3'] at hβ'
    rw[h1, ZM, Ac2.inj j j' b ob ob' hβ hβ']
  · intro i cells hm c hc i' hi'
    exact .inr (hri i cells hm c hc i' hi')
  · intro i hi
    right
    cases hT : Vh P o.type
    · rw[hT] at Xd hi
      have h1 : ws.length = 1 := Nat.eq_of_beq_eq_true Xd
      match ws, h1 with
      | [v], _ =>
        refine hrs v (by simp) i ?_
        have : Cm v = Cw v := by
          have hn := hnt v (by simp)
          cases v <;> first | rfl | exact absurd rfl (hn _)
        rw[← this]
        exact hi
    · rw[hT] at hi
      obtain⟨v, hv, hi⟩ := List.mem_flatMap.1 (show i ∈ ws.flatMap Cw from hi)
      exact hrs v hv i hi
end
open Go.RowKit
section
variable {R:Type} {r:R} {P:Program} {N:Nat} {w0:World} {X0:Gg} {Y:Nat->Prop} {β β':Bt} {s:St} {a:Act} {w w':World} {o:Oper} {A:Nat->Prop}
theorem Ch.move (h:Ch N w0 X0 Y β s a w){id d:Nat}{c cells:List PV}{bo:Option (Nat × Nat)} {v:PV}{val:Value}(h0:s.hp id=some (.ar false c)) (hd:s.hp d=none)(hdN:d<N)
  (hos:w'.os=w.os)(htp:w'.tape=w.tape)(Ac2:w'.output=w.output)(Ahw:w.heap.size<=w'.heap.size)
  (Qh:∀k,k<w.heap.size->(∀x,β id≠some (k,x))->w'.heap[k]?=w.heap[k]?) (UL:∀k,k<w.heap.size->bsz w k<=bsz w' k)
  (hbo:∀k x,bo=some (k,x)->k<w'.heap.size∧(w.heap.size<=k∨∃y,β id=some (k,y)))
  (hbr:∀k x,bo=some (k,x)->k<w.heap.size->β id=some (k,x))
  (hO:∀k y,β id=some (k,y)->k<w.heap.size->∀j,j<y->w'.cell? ⟨k,j,none⟩=w.cell? ⟨k,j,none⟩∧w'.frozen? ⟨k,j,none⟩=w.frozen? ⟨k,j,none⟩)
  (Ow:Wx w' (Du (Ds (Ds s.hp id (some .mv)) d (some (.ar false cells))) (Ds β d bo) Y) (Ds β d bo) d (.ar false cells))
  (hv:Et w' (Du (Ds (Ds s.hp id (some .mv)) d (some (.ar false cells))) (Ds β d bo) Y) (Ds β d bo) v val) (hr:∀i∈Cm v,i=d):
  Ch N w0 X0 Y (Ds β d bo) ⟨Ds s.tm d v,Ds (Ds s.hp id (some .mv)) d (some (.ar false cells))⟩ (a.put (some d) val) w':=by
 have Fu:id≠d:=by rintro rfl;rw[h0] at hd;cases hd
 have Aj5:∀i,i≠id->i≠d->Ds (Ds s.hp id (some Cb.mv)) d (some (.ar false cells)) i=s.hp i:=fun i h1 h2=>by rw[Ax _ _ h2,Ax _ _ h1]
 have Axi:Ds (Ds s.hp id (some Cb.mv)) d (some (.ar false cells)) id=some .mv:=by rw[Ax _ _ Fu,A5]
 have hgd:Ds (Ds s.hp id (some Cb.mv)) d (some (.ar false cells)) d=some (.ar false cells):=A5 _ _ _
 have O6:∀i,s.hp i≠none->Ds (Ds s.hp id (some Cb.mv)) d (some (.ar false cells)) i≠none:=by
  intro i hi;by_cases e:i=id
  ·subst e;rw[Axi];simp
  ·by_cases e':i=d
   ·subst e';rw[hgd];simp
   ·rw[Aj5 i e e'];exact hi
 have hβo:∀i,s.hp i≠none->Ds β d bo i=β i:=fun i hi=>Ax _ _ (by rintro rfl;exact hi hd)
 have Ahk:C5 (s.hp id):=by rw[h0];trivial
 have J2:∀i,C5 (Ds (Ds s.hp id (some Cb.mv)) d (some (.ar false cells)) i)->i=d∨(i≠id∧i≠d∧C5 (s.hp i)):=by
  intro i hi;by_cases e':i=d
  ·exact .inl e'
  ·by_cases e:i=id
   ·subst e;rw[Axi] at hi;exact hi.elim
   ·rw[Aj5 i e e'] at hi;exact .inr ⟨e,e',hi⟩
 have hX:∀k,k<w.heap.size->HZ (Ds (Ds s.hp id (some .mv)) d (some (.ar false cells))) (Ds β d bo) k->HZ s.hp β k:=by
  rintro k hk ⟨i,x,hl,hβ⟩
  rcases J2 i hl with rfl|⟨e,e',hl⟩
  ·rw[A5] at hβ;rcases (hbo k x hβ).2 with J4|⟨y,hy⟩
   ·omega
   ·exact⟨id,y,Ahk,hy⟩
  ·rw[Ax _ _ e'] at hβ;exact⟨i,x,hl,hβ⟩
 have hAo:∀k,k<w.heap.size->Du (Ds (Ds s.hp id (some .mv)) d (some (.ar false cells))) (Ds β d bo) Y k->Du s.hp β Y k:=fun k hk hx=>hx.imp (hX k hk) (fun y=>y)
 have G0:C2 (Du s.hp β Y) w w':=⟨Ahw,fun k hk hn=>Qh k hk fun x hx=>hn (.inl ⟨id,x,Ahk,hx⟩),UL⟩
 have Avt:∀i k x,i≠id->i≠d->(∃b,s.hp i=some b∧b ≠ .mv)->β i=some (k,x)->k<w.heap.size∧w'.heap[k]?=w.heap[k]?:=by
  rintro i k x e e' ⟨b,hb,hmv⟩ hβ
  have hk:=h.blt i k x (by rw[hb];simp) hβ
  refine⟨hk,Qh k hk fun y hy=>?_⟩
  have Apy:=h.box i b hb;cases b with
  |st cc=>exact e (h.inj i id k x y (by rw[hb];trivial) Ahk hβ hy)
  |ar fz cc=>
   cases fz with
   |false=>exact e (h.inj i id k x y (by rw[hb];trivial) Ahk hβ hy)
   |true=>
    rcases Apy with⟨h1,_⟩|⟨k',x',h1,_,_,h4⟩
    ·rw[hβ] at h1;cases h1
    ·rw[hβ] at h1;simp at h1;obtain⟨rfl,rfl⟩:=h1
     exact h4 rfl (.inl ⟨id,y,Ahk,hy⟩)
  |mv=>exact absurd rfl hmv
 refine⟨by rw[K4];exact h.dfr,by rw[Ih];exact h.tsz,?_,?_,?_,?_,?_,?_,?_,?_,?_,?_,?_,?_,h.Ylt,?_⟩
 ·intro i hi;show Ds s.tm d v i=_;rw[Ax _ _ (by omega)]
  exact h.tmo i hi
 ·refine Vo (d:=some d) (Q:=fun _ p u=>Et w' (Du (Ds (Ds s.hp id (some .mv)) d (some (.ar false cells))) (Ds β d bo) Y) (Ds β d bo) p u) h.tsz (by simp[Jh,Nat.blt];omega) (fun i hi=>?_) (fun _=>hv)
  exact (h.tms i hi).step G0 hAo fun j hj=>hβo j (h.wfT i hi j hj)
 ·intro i bi hb;simp only at hb;by_cases e':i=d
  ·subst e';rw[hgd] at hb;cases hb;exact Ow
  ·by_cases e:i=id
   ·subst e;rw[Axi] at hb;cases hb;trivial
   ·rw[Aj5 i e e'] at hb;have hβi:=hβo i (by rw[hb];simp)
    have QX:=h.box i bi hb;cases bi with
    |st cc=>
     obtain⟨k,x,h1,h2,h3⟩:=QX;obtain⟨hk,IE⟩:=Avt i k x e e' ⟨_,hb,by simp⟩ h1
     refine⟨k,x,by rw[hβi];exact h1,fun j p hj=>?_,fun j hj=>?_⟩
     ·obtain⟨u,hu,hc⟩:=h2 j p hj;exact⟨u,by rw[World.cell?_of_block (w:=w) IE];exact hu,hc.step G0 hAo fun q hq=>hβo q (h.wfB i cc hb p (List.mem_of_getElem? hj) q hq)⟩
     ·rw[World.frozen?_of_block (w:=w) IE];exact h3 j hj
    |ar fz cc=>
     rcases QX with⟨h1,h2⟩|⟨k,x,h1,h2,h3,h4⟩
     ·exact .inl ⟨by rw[hβi];exact h1,h2⟩
     ·obtain⟨hk,IE⟩:=Avt i k x e e' ⟨_,hb,by simp⟩ h1
      refine .inr ⟨k,x,by rw[hβi];exact h1,fun j p hj=>?_,fun ef j hj AE=>?_,fun ef hx=>h4 ef (hAo k hk hx)⟩
      ·obtain⟨u,hu,h5,hc⟩:=h2 j p hj;exact⟨u,by rw[World.cell?_of_block (w:=w) (by rw[H6];exact IE)];exact hu,h5,hc.step G0 hAo⟩
      ·rw[World.frozen?_of_block (w:=w) IE];refine h3 ef j hj ?_;unfold bsz at AE ⊢;rw[IE] at AE;exact AE
    |mv=>trivial
 ·intro i i' k x y hl Pn hb J0;simp only at hl Pn
  have key:∀j z,j≠id->j≠d->C5 (s.hp j)->β j=some (k,z)->bo=some (k,y)∨bo=some (k,x)->False:=by
   intro j z e e' hlj hβj hbk;have hk:=h.blt j k z (Dy hlj) hβj;have:∃t,bo=some (k,t):=by rcases hbk with q|q<;>exact⟨_,q⟩
   obtain⟨t,ht⟩:=this;rcases (hbo k t ht).2 with J4|⟨q,hq⟩
   ·omega
   ·exact e (h.inj j id k z q hlj Ahk hβj hq)
  rcases J2 i hl with rfl|⟨e,e',X1⟩
  ·rcases J2 i' Pn with rfl|⟨e2,e2',A39⟩
   ·rfl
   ·rw[A5] at hb;rw[Ax _ _ e2'] at J0;exact (key i' y e2 e2' A39 J0 (.inr hb)).elim
  ·rcases J2 i' Pn with rfl|⟨e2,e2',A39⟩
   ·rw[A5] at J0;rw[Ax _ _ e'] at hb;exact (key i x e e' X1 hb (.inl J0)).elim
   ·rw[Ax _ _ e'] at hb;rw[Ax _ _ e2'] at J0;exact h.inj i i' k x y X1 A39 hb J0
 ·intro i k x hi hb;simp only at hi;by_cases e':i=d
  ·subst e';rw[A5] at hb;exact (hbo k x hb).1
  ·rw[Ax _ _ e'] at hb
   have hi':s.hp i≠none:=by
    by_cases e:i=id
    ·subst e;rw[h0];simp
    ·rw[Aj5 i e e'] at hi;exact hi
   exact Nat.lt_of_lt_of_le (h.blt i k x hi' hb) Ahw
 ·have:=Vo (d:=some d) (Q:=fun _ p _=>∀j∈Cm p,Ds (Ds s.hp id (some Cb.mv)) d (some (.ar false cells)) j≠none) (val:=val) (v:=v) h.tsz (by simp[Jh,Nat.blt];omega) (fun i hi j hj=>O6 j (h.wfT i hi j hj)) (fun _ j hj=>by
   rw[hr j hj,hgd];simp)
  exact this
 ·intro i cc hc p hp j hj;simp only at hc;by_cases e':i=d
  ·subst e';rw[hgd] at hc;cases hc
  ·by_cases e:i=id
   ·subst e;rw[Axi] at hc;cases hc
   ·rw[Aj5 i e e'] at hc;exact O6 j (h.wfB i cc hc p hp j hj)
 ·rintro k ⟨i,x,hl,hβ⟩
  rcases J2 i hl with rfl|⟨e,e',hl⟩
  ·rw[A5] at hβ;rcases (hbo k x hβ).2 with J4|⟨y,hy⟩
   ·exact .inr (Nat.le_trans h.fr.step.size J4)
   ·exact h.ownd k ⟨id,y,Ahk,hy⟩
  ·rw[Ax _ _ e'] at hβ;exact h.ownd k ⟨i,x,hl,hβ⟩
 ·intro i bi k x QX hli hβ Cq j hj;simp only at QX;rcases J2 i (by rw[QX];exact hli) with rfl|⟨e,e',hl⟩
  ·rw[A5] at hβ;rw[hgd] at QX;cases QX;have:=hbr k x hβ (Nat.lt_of_lt_of_le Cq h.fr.step.size);exact h.rngB id (.ar false c) k x h0 trivial this Cq j hj
  ·rw[Aj5 i e e'] at QX;rw[Ax _ _ e'] at hβ;exact h.rngB i bi k x QX hli hβ Cq j hj
 ·intro i hi;exact⟨O6 _ (h.pin i hi).1,by rw[hβo _ (h.pin i hi).1];exact (h.pin i hi).2⟩
 ·intro i cc k x QX hβ Cq;simp only at QX;rcases J2 i (by rw[QX];trivial) with rfl|⟨e,e',hl⟩
  ·rw[hgd] at QX;cases QX
  ·rw[Aj5 i e e'] at QX;rw[Ax _ _ e'] at hβ;exact h.stp i cc k x QX hβ Cq
 ·intro k hY hx;exact h.Yx k hY (hX k (Nat.lt_of_lt_of_le (h.Ylt k hY) h.fr.step.size) hx)
 ·refine⟨hos.trans h.fr.os,htp.trans h.fr.tape,Ac2.trans h.fr.output,⟨Nat.le_trans h.fr.step.size Ahw,fun k hk hnk=>?_,fun k hk=>Nat.le_trans (h.fr.step.bs k hk) (UL k (Nat.lt_of_lt_of_le hk h.fr.step.size))⟩,fun k j hk hL=>?_⟩
  ·rw[Qh k (Nat.lt_of_lt_of_le hk h.fr.step.size) ?_]
   ·exact h.fr.step.keep k hk hnk
   ·intro x hx;rcases h.ownd k ⟨id,x,Ahk,hx⟩ with hq|hq
    ·exact hnk hq
    ·omega
  ·have hkw:=Nat.lt_of_lt_of_le hk h.fr.step.size
   have Zt:w'.cell? ⟨k,j,none⟩=w.cell? ⟨k,j,none⟩∧w'.frozen? ⟨k,j,none⟩=w.frozen? ⟨k,j,none⟩:=by
    by_cases e:∃y,β id=some (k,y)
    ·obtain⟨y,hy⟩:=e;refine hO k y hy hkw j ?_;rcases Nat.lt_or_ge j y with q|q
     ·exact q
     ·exact absurd (h.rngB id (.ar false c) k y h0 trivial hy hk j q) hL
    ·have IE:=Qh k hkw (fun x hx=>e ⟨x,hx⟩)
     exact⟨World.cell?_of_block (w:=w) IE,World.frozen?_of_block (w:=w) IE⟩
   rw[Zt.1,Zt.2];exact h.fr.rng k j hk hL
end
open Go.RowKit
section
variable {R:Type} {r:R} {P:Program} {N:Nat} {w0:World} {X0:Gg} {Y:Nat->Prop} {β β':Bt} {s:St} {a:Act} {w w':World} {o:Oper} {A:Nat->Prop}
structure Src (P:Program) (w:World) (A:Nat->Prop) (size:Nat) (xv:Value) (m:Nat) (new:List PV) (news:List Value):Prop where
 len:∀w':World,(Builtin.lenOf xv).run P w'=.ok m w'
 cells:∀w':World,(∀b,b<w.heap.size->w'.heap[b]?=w.heap[b]?)->(Builtin.firstCells size m xv).run P w'=.ok news.toArray w'
 part:∀k,k<=m->(Builtin.firstCells size k xv).run P w=.ok (news.take (k*size)).toArray w
 one:∀u∈news,u.oneCell'=true
 rep:B8 (A8 w A) new news
theorem SS (h:Ch N w0 X0 Y β s a w){e tx:TypeId}{x:Operand}{K:Nat->List PV->Option R}(hk:Aic P s (Bz P e) tx (C8 s.tm x) K=some r)
  (h1c:∀m new,K m new=some r->new.length=m*Bz P e):
  (∃d,P.underlying tx=some d∧(∀k,d ≠ .int k))∧∃m new news,K m new=some r∧Src P w (Du s.hp β Y) (Bz P e) (a.eval x) m new news:=by
 unfold Aic Aj3 at hk;split at hk
 ·rename_i hu;obtain⟨ON,hk⟩:=A3 hk;have ON:=Nat.eq_of_beq_eq_true ON;obtain⟨b,hx,hk⟩:=Ff hk;have El:=Dv h hx;refine⟨⟨_,hu,by simp⟩,b.size,Ew b,b.data.toList.map (fun y=>Value.int .u8 y.toNat),hk,?_,?_,?_,?_,?_⟩
  ·intro w';rw[El];rfl
  ·intro w' _;rw[El]
   have hx:b.data.extract 0 b.size=b.data:=by
    have:b.size=b.data.size:=rfl;rw[this,Array.extract_size]
   have hd:(b.extract 0 b.size).data=b.data:=by
    rw[ByteArray.extract_zero_size]
   simp only[Builtin.firstCells,hd];rw[←Array.toList_map,Array.toArray_toList];rfl
  ·intro k J4;rw[El,ON,Nat.mul_one];have hd:(b.extract 0 k).data=b.data.extract 0 k:=ByteArray.data_extract
   have e1:(b.data.extract 0 k).map (fun y=>Value.int .u8 y.toNat)=((b.data.toList.map fun y=>Value.int .u8 y.toNat).take k).toArray:=by
    apply Array.toList_inj.1;simp[List.map_take]
   simp only[Builtin.firstCells,hd];rw[e1];rfl
  ·intro u hu;simp at hu;obtain⟨y,_,rfl⟩:=hu;rfl
  ·unfold Ew;generalize b.data.toList=l
   induction l with
   |nil=>trivial
   |cons y l ih=>exact⟨A8.sc _,ih⟩
 ·rename_i e' hu;refine⟨⟨_,hu,by simp⟩,?_⟩
  obtain⟨m,new,hk,hc⟩:=Ahc h hk;have Hw:=h1c m new hk;rcases hc with⟨⟨ad,El⟩,rfl,rfl⟩|⟨ad,cap,El,hn,Cq,hrd⟩
  ·have f0:∀w':World,(Builtin.firstCells (Bz P e) 0 (.slice ad 0 0)).run P w'=.ok #[] w':=fun w'=>by
    cases ad with
    |none=>rfl
    |some p=>exact run_firstCells_some (P:=P) w' (Bz P e) 0 p 0 0 [] (by simp) (fun j v hj=>by simp at hj)
   exact⟨0,[],[],hk,fun w'=>by rw[El];rfl,fun w' _=>by rw[El];exact f0 w',fun k J4=>by rw[El,Nat.le_zero.1 J4,List.take_nil];exact f0 w,by simp,trivial⟩
  ·refine⟨m,new,new.mapIdx (fun j _=>(w.cell? (ad.add j)).getD undef),hk,fun w'=>by rw[El];rfl,fun w' hw=>?_,fun k J4=>?_,?_,?_⟩
   ·rw[El];refine run_firstCells_some (P:=P) w' (Bz P e) m ad m cap _ (by simp[Hw]) fun j v hj=>?_
    rw[List.getElem?_mapIdx] at hj;cases hc:new[j]? with
    |none=>rw[hc] at hj;cases hj
    |some c=>
     rw[hc] at hj;simp at hj;obtain⟨u,hu,_⟩:=hrd j c hc;rw[hu] at hj;simp at hj;subst hj;have Cq:ad.block<w.heap.size:=by rcases Cq with rfl|Cq<;>first|exact Cq|simp at hc
     rw[World.cell?_of_block (w:=w) (by rw[H6];exact hw _ Cq)]
     exact hu
   ·rw[El];have hkm:k*Bz P e<=m*Bz P e:=Nat.mul_le_mul_right _ J4;refine run_firstCells_some (P:=P) w (Bz P e) k ad m cap _ (by rw[List.length_take,List.length_mapIdx,Hw];omega) fun j v hj=>?_
    rw[List.getElem?_take] at hj;split at hj
    ·rw[List.getElem?_mapIdx] at hj;cases hc:new[j]? with
     |none=>rw[hc] at hj;cases hj
     |some c=>
      rw[hc] at hj;simp at hj;obtain⟨u,hu,_⟩:=hrd j c hc;rw[hu] at hj;simp at hj;subst hj;exact hu
    ·cases hj
   ·intro u hu;obtain⟨j,hj⟩:=List.mem_iff_getElem?.1 hu;rw[List.getElem?_mapIdx] at hj;cases hc:new[j]? with
    |none=>rw[hc] at hj;cases hj
    |some c=>
     rw[hc] at hj;simp at hj;obtain⟨v,hv,h2,ht⟩:=hrd j c hc;rw[hv] at hj;simp at hj;subst hj;exact h2
   ·refine B8.of_at (by simp) fun j c v hc hj=>?_
    rw[List.getElem?_mapIdx,hc] at hj;simp at hj;obtain⟨u,hu,_,ht⟩:=hrd j c hc;rw[hu] at hj;simp at hj;subst hj;exact ht
 ·cases hk
theorem UR {e:TypeId}(h:Adl P e=true):∃i z,P.info? e=some i∧i.zero=some z∧z.cells.size=i.size∧Bz P e=i.size:=by
 unfold Adl at h;split at h
 ·rename_i i hi;split at h
  ·rename_i z hz;exact⟨i,z,hi,hz,Nat.eq_of_beq_eq_true h,by simp[Bz,hi]⟩
  ·cases h
 ·cases h
theorem QQ {es n cap:Nat}{ad:Option Addr}{olds:List Value}(h:(ad=none∧olds=[])∨∃p,ad=some p∧olds.length=n*es∧∀(j:Nat) v,olds[j]?=some v->w.cell? (p.add j)=some v):
  (Builtin.firstCells es n (.slice ad n cap)).run P w=.ok olds.toArray w:=by
 rcases h with⟨rfl,rfl⟩|⟨p,rfl,hl,hc⟩
 ·rfl
 ·exact run_firstCells_some (P:=P) w es n p n cap olds hl hc
theorem Ra {t tx ty e:TypeId}{i:TypeInfo}{z:Value}{d:TypeDesc}{ts:List TypeId}(ht:P.underlying t=some (.slice e)) (htx:P.underlying tx=some d)(hd:∀k,d ≠ .int k)(hi:P.info? e=some i)(hz:i.zero=some z)
  {ad:Option Addr} {n cap m:Nat} {xv:Value} {olds news:List Value} {A:Nat->Prop} {new:List PV} (hs:Src P w A i.size xv m new news)
  (hold:(ad=none∧olds=[])∨∃p,ad=some p∧olds.length=n*i.size∧∀(j:Nat) v,olds[j]?=some v->w.cell? (p.add j)=some v)
  (hg:cap<n+m)(hb:(n+m)*i.bytes<=1099511627776) (h63:n+m<=1099511627776):
  (Builtin.append_ (t::tx::ts).toArray ty #[.slice ad n cap,xv]).run P w =
   .ok (.slice (some ⟨w.heap.size,0,none⟩) (n+m) (grownCap w (n+m) cap e)) (w.drew.alloc (.cells (olds.toArray++news.toArray++Builtin.zeroCells z.cells (grownCap w (n+m) cap e-(n+m))) e)):=by
 have h1:=hs.len w;have h2:(Builtin.firstCells i.size m xv).run P w.drew=.ok news.toArray w.drew:=hs.cells w.drew (fun _ _=>rfl)
 have h3:(Builtin.firstCells i.size n (.slice ad n cap)).run P w.drew=.ok olds.toArray w.drew:=QQ (w:=w.drew) (by
  rcases hold with hh|⟨p,hp,hl,hc⟩
  ·exact .inl hh
  ·exact .inr ⟨p,hp,hl,fun j v hj=>hc j v hj⟩)
 have Ao9:=growslice_fits (need:=n+m) (old:=cap) (bytes:=i.bytes) hg (by omega)
 have hn:¬(n+m<=cap):=by omega
 have Ayz:¬(9223372036854775807<((n:Int)+(m:Int))):=by omega
 have Ayn:¬(281474976710656<Builtin.nextslicecap (n+m) cap*i.bytes):=by omega
 have UH:(match d with | .int _=>true|_=>false)=false:=by cases d<;>first|rfl|exact absurd rfl (hd _)
 simp[Builtin.append_,run_underlying ht,run_underlying htx,UH,sizeOf,typeInfo,zeroValue,hi,hz,h1,hn,Ayz,Ayn,Question.forced,h2,h3,newRow,grownCap]
 congr 2
 apply Array.ext';simp[List.append_assoc]
theorem QL {t tx ty e:TypeId}{i:TypeInfo}{d:TypeDesc}{ts:List TypeId}(ht:P.underlying t=some (.slice e)) (htx:P.underlying tx=some d)(hd:∀k,d ≠ .int k)(hi:P.info? e=some i)
  {b ob n cap m:Nat} {xv:Value} {news:List Value} {A:Nat->Prop} {new:List PV} (hs:Src P w A i.size xv m new news) (hl:news.length=m*i.size)
  (hcell:∀k,k<news.length->(w.cell? ⟨b,ob+n*i.size+k,none⟩).isSome=true) (YC:∀k,k<news.length->w.frozen? ⟨b,ob+n*i.size+k,none⟩=false)(hg:n+m<=cap):
  (Builtin.append_ (t::tx::ts).toArray ty #[.slice (some ⟨b,ob,none⟩) n cap,xv]).run P w=.ok (.slice (some ⟨b,ob,none⟩) (n+m) cap) (w.setCells b (ob+n*i.size) news):=by
 have h1:=hs.len w;have h2:(Builtin.firstCells i.size m xv).run P w=.ok news.toArray w:=hs.cells w (fun _ _=>rfl)
 have h3:=run_storeCells_cells (P:=P) b (ob+n*i.size) news 0 w (fun k hk=>by simpa using hcell k hk) (fun k hk=>by simpa using YC k hk) hs.one
 have UH:(match d with | .int _=>true|_=>false)=false:=by cases d<;>first|rfl|exact absurd rfl (hd _)
 have _:=hl;simp[Builtin.append_,run_underlying ht,run_underlying htx,UH,sizeOf,typeInfo,hi,h1,hg,h2,Fn];rw[h3];simp
theorem Af8 {t ty e:TypeId}{i:TypeInfo}{ts:List TypeId}(ht:P.underlying t=some (.slice e)) (hi:P.info? e=some i)
  {ad:Option Addr} {n cap m:Nat} {xv:Value} {news:List Value} {A:Nat->Prop} {new:List PV} (hs:Src P w A i.size xv m new news)
  {w1:World} (G0:(match ad with|some p=>storeCells p (news.take (min m n*i.size)) 0|none=>pure ()).run P w=.ok () w1):
  (Builtin.copy_ (t::ts).toArray ty #[.slice ad n cap,xv]).run P w=.ok (goInt ((min m n:Nat):Int)) w1:=by
 have h1:=hs.len w;have h2:=hs.part (min m n) (Nat.min_le_left _ _);have e:Nat.min m n=min m n:=rfl;generalize min m n=k at *
 cases ad with
 |none=>
  simp only at G0;simp[Builtin.copy_,run_underlying ht,sizeOf,typeInfo,hi,h1,h2,e]
  simpa using G0
 |some p=>
  simp only at G0;simp[Builtin.copy_,run_underlying ht,sizeOf,typeInfo,hi,h1,h2,e,G0]
theorem MS {t tx ty e:TypeId}{i:TypeInfo}{k kx:IntKind}{ts:List TypeId}(ht:P.underlying t=some (.slice e)) (htx:P.underlying tx=some (.int k)) (hi:P.info? e=some i):
  (Builtin.append_ (t::tx::ts).toArray ty #[.slice none 0 0,.int kx 0]).run P w=.ok (.slice none 0 0) w:=by
 have hw:IntKind.i64.wrap 0=0:=by decide
 simp[Builtin.append_,run_underlying ht,run_underlying htx,sizeOf,typeInfo,hi,asInt,asIntOf,hw]
theorem RE {t tx ty e:TypeId}{i:TypeInfo}{z:Value}{k kx:IntKind}{ts:List TypeId}(ht:P.underlying t=some (.slice e)) (htx:P.underlying tx=some (.int k)) (hi:P.info? e=some i)(hz:i.zero=some z)
  {n:Int} (h0:0<n) (hb:n.toNat*i.bytes<=1099511627776) (hn:n<=1099511627776):
  (Builtin.append_ (t::tx::ts).toArray ty #[.slice none 0 0,.int kx n]).run P w =
   .ok (.slice (some ⟨w.heap.size,0,none⟩) n.toNat (grownCap w n.toNat 0 e)) (w.drew.alloc (.cells ((if n.toNat*i.size=0 then #[] else Builtin.zeroCells z.cells n.toNat)++Builtin.zeroCells z.cells (grownCap w n.toNat 0 e-n.toNat)) e)):=by
 have hw:IntKind.i64.wrap n=n:=IntWalk.i64_in n (by omega)
 have Ao9:=growslice_fits (need:=n.toNat) (old:=0) (bytes:=i.bytes) (by omega) (by omega)
 have SA:¬n<0:=by omega
 have O6:¬(281474976710656<n*(i.bytes:Int)):=by
  have:n*(i.bytes:Int)=((n.toNat*i.bytes:Nat):Int):=by
   rw[Int.natCast_mul,Int.toNat_of_nonneg (by omega)]
  omega
 have hz0:¬(n.toNat=0):=by omega
 have Ayz:¬(9223372036854775807<(n.toNat:Int)):=by omega
 have Ayn:¬(281474976710656<Builtin.nextslicecap n.toNat 0*i.bytes):=by omega
 have EU:¬n<=0:=by omega
 have hmx:¬(9223372036854775807<max n 0):=by omega
 by_cases hs:n.toNat*i.size=0
 ·simp[Builtin.append_,run_underlying ht,run_underlying htx,sizeOf,typeInfo,zeroValue,hi,hz,asInt,asIntOf,hw,SA,O6,hz0,EU,hmx,Ayz,Ayn,Question.forced,hs,newRow,grownCap,Builtin.firstCells]
 ·simp[Builtin.append_,run_underlying ht,run_underlying htx,sizeOf,typeInfo,zeroValue,hi,hz,asInt,asIntOf,hw,SA,O6,hz0,EU,hmx,Ayz,Ayn,Question.forced,hs,newRow,grownCap,Builtin.firstCells]
theorem Re {t tx ty e:TypeId}{i:TypeInfo}{d:TypeDesc}{ts:List TypeId}(ht:P.underlying t=some (.slice e)) (htx:P.underlying tx=some d)(hd:∀k,d ≠ .int k)(hi:P.info? e=some i)
  {ad:Option Addr} {xv:Value} {news:List Value} {A:Nat->Prop} {new:List PV} (hs:Src P w A i.size xv 0 new news) (h0:news=[]):
  (Builtin.append_ (t::tx::ts).toArray ty #[.slice ad 0 0,xv]).run P w=.ok (.slice ad 0 0) w:=by
 subst h0;have h1:=hs.len w;have h2:(Builtin.firstCells i.size 0 xv).run P w=.ok ([]:List Value).toArray w:=hs.cells w (fun _ _=>rfl)
 have UH:(match d with | .int _=>true|_=>false)=false:=by cases d<;>first|rfl|exact absurd rfl (hd _)
 cases ad<;>simp[Builtin.append_,run_underlying ht,run_underlying htx,UH,sizeOf,typeInfo,hi,h1,h2,storeCells]
end
open Go.RowKit
section
variable {R:Type} {r:R} {P:Program} {N:Nat} {w0:World} {X0:Gg} {Y:Nat->Prop} {β β':Bt} {s:St} {a:Act} {w w':World} {o:Oper} {A:Nat->Prop}
theorem Asi {b j:Nat}(h:j<bsz w b):(w.cell? ⟨b,j,none⟩).isSome=true:=by
 unfold bsz at h;unfold World.cell?;split at h
 ·rename_i c e fz hb;simp[hb,h]
 ·omega
theorem Aik {id d:Nat}{c cells:List PV}{bo:Option (Nat × Nat)} (h0:s.hp id=some (.ar false c)) (hd:s.hp d=none)
  (hbo:∀k x,bo=some (k,x)->w.heap.size<=k∨∃y,β id=some (k,y)):
  ∀k,k<w.heap.size->Du (Ds (Ds s.hp id (some .mv)) d (some (.ar false cells))) (Ds β d bo) Y k->Du s.hp β Y k:=by
 rintro k hk (⟨i,x,hl,hβ⟩|hY)
 ·by_cases e':i=d
  ·subst e';rw[A5] at hβ;rcases hbo k x hβ with h|⟨y,hy⟩
   ·omega
   ·exact .inl ⟨id,y,by rw[h0];trivial,hy⟩
  ·rw[Ax _ _ e'] at hl hβ;by_cases e:i=id
   ·subst e;rw[A5] at hl;exact hl.elim
   ·rw[Ax _ _ e] at hl;exact .inl ⟨i,x,hl,hβ⟩
 ·exact .inr hY
theorem VC {pre new:List PV}{olds news:List Value}{zs:Array Value}{e:TypeId}{A':Nat->Prop}(hg:Jk w w' (olds.toArray++news.toArray++zs) e) (hA:∀b,b<w.heap.size->A' b->A b)
  (h1:B8 (A8 w A) pre olds) (h2:B8 (A8 w A) new news) (ho:∀u∈olds,u.oneCell'=true)(hn:∀u∈news,u.oneCell'=true):XP w' A' ⟨w.heap.size,0,none⟩ (pre++new):=by
 refine Amg hg hA fun j p hj=>?_
 obtain⟨v,hv,ht⟩:=(h1.app h2).get hj;refine⟨v,?_,?_,ht⟩
 ·have Cq:j<(olds++news).length:=by
   rcases Nat.lt_or_ge j (olds++news).length with h|h
   ·exact h
   ·rw[List.getElem?_eq_none h] at hv;cases hv
  rw[Array.getElem?_append_left (by simpa using Cq)]
  simpa using hv
 ·rcases List.mem_append.1 (List.mem_of_getElem? hv) with hm|hm
  ·exact ho v hm
  ·exact hn v hm
theorem Acn (h:Ch N w0 X0 Y β s a w){c:Call}(ho:o.op=.call c)(hc:c.callee=.builtin .append)(hnb:JD c=true){d:Nat}(Amz:o.dst=some d){b x:Operand}(Fo:c.args.toList=[b,x]) {t tx:TypeId}{ts:List TypeId}(QI:c.argTypes.toList=t::tx::ts)
  {K:PV->List (Nat × Cb)->Option R} (hk:DS P (Oz s.hp) d t tx (C8 s.tm x) K=some r):∃v nw,K v nw=some r∧Gu P a w o Y β s v [] nw:=by
 have hb:b=.const (.slice none 0 0):=by
  unfold JD at hnb;rw[Fo] at hnb;split at hnb
  ·rename_i e;injection e
  ·cases hnb
 have WM:c.args = #[b,x]:=by
  have:c.args=([b,x]:List Operand).toArray:=by rw[←Fo]
  exact this
 have Aeo:c.argTypes=(t::tx::ts).toArray:=by rw[←QI]
 have V8:a.eval b=.slice none 0 0:=by rw[hb];rfl
 have run:∀{v:Value} {w1:World},(Builtin.append_ (t::tx::ts).toArray o.type #[a.eval b,a.eval x]).run P w=.ok v w1->(execOp a.eval o).run P w=.ok (.value v) w1:=by
  intro v w1 hr;unfold execOp;rw[ho];simp only[resolve,hc,invoke,builtin,Sem.run_bind,Sem.run_pure,Result.andThen_ok,WM,Aeo];have:(#[b,x]:Array Operand).map a.eval = #[a.eval b,a.eval x]:=by simp
  rw[this,hr];rfl
 unfold DS at hk;split at hk
 ·rename_i e hu;obtain⟨hzi,hk⟩:=A3 hk;obtain⟨i,z,hi,hz,hzs,Mo⟩:=UR hzi;have BF:((P.info? e).map (·.bytes)).getD 0=i.bytes:=by rw[hi];rfl
  obtain⟨⟨dx,hdx,Ahv⟩,m,new,news,hk,hs⟩:=SS (s:=s) h hk (fun m new J4=>by
   obtain⟨hb,_⟩:=A3 J4;simp only[Bool.and_eq_true,decide_eq_true_eq] at hb;exact hb.1.1)
  obtain⟨J0,hk⟩:=A3 hk;simp only[Bool.and_eq_true,decide_eq_true_eq] at J0;obtain⟨⟨Al2,hby⟩,hnm⟩:=J0;have hnl:new.length=news.length:=hs.rep.len;rw[Mo] at Al2 hk hs;rw[BF] at hby;have OK:news.length=m*i.size:=by omega
  refine⟨_,_,hk,by simp,?_⟩
  by_cases hm0:m=0
  ·subst hm0;have hr:=Re (P:=P) (w:=w) (t:=t) (tx:=tx) (ty:=o.type) (ts:=ts) (ad:=none) hu hdx Ahv hi hs (List.eq_nil_of_length_eq_zero (by omega))
   rw[←V8] at hr;have Agp:new=[]:=List.eq_nil_of_length_eq_zero (by omega)
   subst Agp;refine⟨_,_,run hr,fun As0=>⟨Ds β d none,?_⟩⟩
   have ID:s.hp d=none:=(Ck As0).1 d _ (List.mem_singleton_self _);rw[V8];refine⟨rfl,rfl,rfl,C2.refl _ _,fun j hj=>Ax _ _ (by rintro rfl;exact hj ID),?_,?_,?_,?_,?_,.inl ⟨A5 _ _ _,rfl,rfl,none,rfl⟩,?_⟩
   ·intro j bx hm;simp at hm;rw[hm.2];trivial
   ·intro j bx hm;simp at hm;obtain⟨rfl,rfl⟩:=hm;exact .inl ⟨A5 _ _ _,rfl⟩
   ·intro j bx k q hm hq;simp at hm;obtain⟨rfl,rfl⟩:=hm;rw[A5] at hq;cases hq
   ·intro j bx j' bx' k q q' hm Sm _ _;simp at hm Sm;rw[hm.1,Sm.1]
   ·intro j cells hm;simp at hm
   ·intro j hj;simp[Cm,Cw,A7] at hj;subst hj;exact .inr ⟨.ar false [],by simp⟩
  ·have hr:=Ra (P:=P) (w:=w) (t:=t) (tx:=tx) (ty:=o.type) (ts:=ts) (ad:=none) (n:=0) (cap:=0) (olds:=[]) hu hdx Ahv hi hz hs (.inl ⟨rfl,rfl⟩) (by omega) (by rw[Nat.zero_add];exact hby) (by omega)
   rw[←V8] at hr;refine⟨_,_,run hr,fun As0=>⟨Ds β d (some (w.heap.size,0)),?_⟩⟩
   have ID:s.hp d=none:=(Ck As0).1 d _ (List.mem_singleton_self _);have hge:0+m<=grownCap w (0+m) 0 e:=grownCap_ge w (0+m) 0 e
   have GT:Jk w (w.drew.alloc (.cells (([]:List Value).toArray++news.toArray++Builtin.zeroCells z.cells (grownCap w (0+m) 0 e-(0+m))) e)) (([]:List Value).toArray++news.toArray++Builtin.zeroCells z.cells (grownCap w (0+m) 0 e-(0+m))) e:=
    ⟨rfl,rfl,rfl,fun k hk=>Below.heap_alloc w.drew _ k hk,by show (w.heap.push _).size=_;simp,(0,0),by show (w.heap.push _)[w.heap.size]?=_;simp,.inl rfl⟩
   have Akf:(([]:List Value).toArray++news.toArray++Builtin.zeroCells z.cells (grownCap w (0+m) 0 e-(0+m))).size=grownCap w (0+m) 0 e*i.size:=by
    simp only[Array.size_append,List.size_toArray,size_zeroCells,hzs,OK,List.length_nil,←Nat.add_mul];rw[Nat.zero_add (m*i.size),←Nat.add_mul]
    congr 1
    omega
   refine Wg (s:=⟨s.tm,Ak s.hp []⟩) GT ID trivial ?_ (fun cells hx=>by cases hx) ?_ (by intro j hj;simp[Cm,Cw,A7] at hj;exact .inr hj)
   ·refine .inr ⟨w.heap.size,0,A5 _ _ _,?_,fun _ j _ hj=>?_,(fun q=>by cases q)⟩
    ·exact VC (pre:=[]) GT (Alo (s:=⟨s.tm,Ak s.hp []⟩) ID) trivial hs.rep (by simp) hs.one
    ·rw[GT.bsz] at hj;exact GT.frozen hj
   ·refine .inr ⟨w.heap.size,0,0,grownCap w (0+m) 0 e,A5 _ _ _,by rw[Nat.zero_add],.inl rfl,by omega,?_,by rw[GT.size];omega⟩
    rw[GT.bsz,Akf];omega
 ·cases hk
theorem Agh {lo hi:Option Operand}{y3:Operand}{k3:IntKind}{len cap l u m:Nat}(hl:(lo=none∧l=0)∨∃y k,lo=some y∧a.eval y=.int k (l:Int))
  (hu:∃y k,hi=some y∧a.eval y=.int k (u:Int)) (hm:a.eval y3=.int k3 (m:Int)) (h1:l<=u)(h2:u<=m)(h3:m<=cap):
  (Instr.sliceBounds true len cap (lo.map a.eval) (hi.map a.eval) (some (a.eval y3))).run P w=.ok (l,u,m) w:=by
 obtain⟨y,k,rfl,hy⟩:=hu;rcases hl with⟨rfl,rfl⟩|⟨y',k',rfl,hy'⟩
 ·simp[Instr.sliceBounds,Instr.sliceBound,asIntOf,hy,hm,h2,h3]
 ·simp[Instr.sliceBounds,Instr.sliceBound,asIntOf,hy,hy',hm,h1,h2,h3]
theorem Acs (h:Ch N w0 X0 Y β s a w){t:TypeId}{x m:Operand}{lo hi:Option Operand}(ho:o.op=.slice t x lo hi (some m)) {d:Nat}{K:PV->List (Nat × Cb)->Option R}
  (hk:DO P d t (C8 s.tm x) (lo.map (C8 s.tm)) (hi.map (C8 s.tm)) (some (C8 s.tm m)) K=some r):∃v nw,K v nw=some r∧Gu P a w o Y β s v [] nw:=by
 have hx:=Ec h x;unfold DO at hk;split at hk
 ·rename_i e hu;obtain⟨hb,hk⟩:=A3 hk;simp only[Bool.and_eq_true] at hb;obtain⟨Vu,hhi⟩:=hb
  obtain⟨yh,rfl⟩:∃y,hi=some y:=by
   cases hi with
   |none=>simp at hhi
   |some y=>exact⟨y,rfl⟩
  have fin:∀{ad:Option Addr} {n cap l u q:Nat},a.eval x=.slice ad n cap->n<=cap->((lo=none∧l=0)∨∃y k,lo=some y∧a.eval y=.int k (l:Int))->((some yh=none∧u=n)∨∃y k,some yh=some y∧a.eval y=.int k (u:Int))->(((some m:Option Operand)=none∧q=n)∨∃y k,(some m:Option Operand)=some y∧a.eval y=.int k (q:Int)) ->
    (Nat.beq l q&&Nat.beq u q&&decide (q<=n))=true->Gu P a w o Y β s (.view d (Bz P e) 0 0) [] [(d,.ar false [])]:=by
   intro ad n cap l u q El hn hl Nu hq hb;simp only[Bool.and_eq_true,decide_eq_true_eq] at hb;obtain⟨⟨b1,b2⟩,b3⟩:=hb;have b1:=Nat.eq_of_beq_eq_true b1;have b2:=Nat.eq_of_beq_eq_true b2;subst b1 b2
   have hu2:∃y k,(some yh:Option Operand)=some y∧a.eval y=.int k (u:Int):=by
    rcases Nu with⟨e,_⟩|e
    ·cases e
    ·exact e
   obtain⟨k3,hm3⟩:∃k,a.eval m=.int k (u:Int):=by
    rcases hq with⟨e,_⟩|⟨y,k,e,q⟩
    ·cases e
    ·cases e;exact⟨k,q⟩
   have hbr:=Agh (P:=P) (w:=w) (len:=n) (cap:=cap) hl hu2 hm3 (Nat.le_refl _) (Nat.le_refl _) (by omega)
   have D5:∃ad',(execOp a.eval o).run P w=.ok (.value (.slice ad' 0 0)) w:=by
    unfold execOp;rw[ho];cases ad with
    |none=>exact⟨none,by simp[Instr.sliceAt,Instr.slice,run_underlying hu,El,hbr,D4 Vu] at hbr ⊢⟩
    |some p=>exact⟨some p,by simp[Instr.sliceAt,Instr.slice,run_underlying hu,El,hbr,D4 Vu] at hbr ⊢⟩
   obtain⟨ad',D5⟩:=D5;refine⟨by simp,_,_,D5,fun As0=>⟨Ds β d none,?_⟩⟩
   have ID:s.hp d=none:=(Ck As0).1 d _ (List.mem_singleton_self _);refine⟨rfl,rfl,rfl,C2.refl _ _,fun j hj=>Ax _ _ (by rintro rfl;exact hj ID),?_,?_,?_,?_,?_,.inl ⟨A5 _ _ _,rfl,rfl,ad',rfl⟩,?_⟩
   ·intro j bx hm;simp at hm;rw[hm.2];trivial
   ·intro j bx hm;simp at hm;obtain⟨rfl,rfl⟩:=hm;exact .inl ⟨A5 _ _ _,rfl⟩
   ·intro j bx k q hm hq;simp at hm;obtain⟨rfl,rfl⟩:=hm;rw[A5] at hq;cases hq
   ·intro j bx j' bx' k q q' hm Sm _ _;simp at hm Sm;rw[hm.1,Sm.1]
   ·intro j cells hm;simp at hm
   ·intro j hj;simp[Cm,Cw,A7] at hj;subst hj;exact .inr ⟨.ar false [],by simp⟩
  split at hk
  ·rename_i id es off n e';rw[e'] at hx;obtain⟨ON,hk⟩:=A3 hk;obtain⟨l,hk,hl⟩:=Fy h hk;obtain⟨u,hk,Nu⟩:=Fy h hk;obtain⟨q,hk,hq⟩:=Fy (x:=some m) h hk;obtain⟨hb,hk⟩:=A3 hk;refine⟨_,_,hk,?_⟩;rcases hx with⟨hβ,_,rfl,ad,El⟩|⟨b,ob,y,cap,hβ,El,hy,hn,RM,Cq⟩
   ·exact fin El (Nat.le_refl _) hl Nu hq hb
   ·exact fin El hn hl Nu hq hb
  ·obtain⟨z,n,c,hk,hp⟩:=Ik hk;obtain⟨l,hk,hl⟩:=Fy h hk;obtain⟨u,hk,Nu⟩:=Fy h hk;obtain⟨q,hk,hq⟩:=Fy (x:=some m) h hk;obtain⟨hb,hk⟩:=A3 hk;refine⟨_,_,hk,?_⟩;rcases slice_form hp hx with⟨El,rfl,rfl⟩|⟨ad,cap,El,_,hn,_⟩|⟨ad,cap,El,_,rfl,rfl⟩
   ·exact fin El (Nat.le_refl _) hl Nu hq hb
   ·exact fin El hn hl Nu hq hb
   ·exact fin El (Nat.zero_le _) hl Nu hq hb
 ·cases hk
end
open Go.RowKit
section
variable {R:Type} {r:R} {P:Program} {N:Nat} {w0:World} {X0:Gg} {Y:Nat->Prop} {β β':Bt} {s:St} {a:Act} {w w':World} {o:Oper} {A:Nat->Prop}
theorem At4 (h:Ch N w0 X0 Y β s a w){G:Xl}(Kg:QA P G w0 X0){C:Kf}{call:Ah}(Dj:∀f args res,call f args=some res->Dl G P f args res){K:PV->List Nat->List (Nat × Cb)->Option R}
  (hk:WD C P N call s.tm (rd s.hp) (Oz s.hp) o K=some r):∃v fz nw,K v fz nw=some r∧TL P a w o Y β s v fz nw:=by
 have one:∀{K':PV->Option R},(∀v,K' v=some r->K v [] []=some r)->(∃v,K' v=some r∧Gu P a w o Y β s v [] [])->∃v fz nw,K v fz nw=some r∧TL P a w o Y β s v fz nw:=
  fun hK ⟨v,h1,h2⟩=>⟨v,[],[],hK v h1,VG h2⟩
 have many:(∃v fz nw,K v fz nw=some r∧Gu P a w o Y β s v fz nw)->∃v fz nw,K v fz nw=some r∧TL P a w o Y β s v fz nw:=
  fun ⟨v,fz,nw,h1,h2⟩=>⟨v,fz,nw,h1,VG h2⟩
 unfold WD at hk;split at hk
 ·rename_i x ho;exact one (fun _ h=>h) (JR (K:=fun p=>K p [] []) h (Anb ho) hk)
 ·rename_i x ho;exact one (fun _ h=>h) (JR (K:=fun p=>K p [] []) h (Afv ho) hk)
 ·rename_i c x y ho;exact one (fun _ h=>h) (Aiz (K:=fun p=>K p [] []) h ho hk)
 ·rename_i t ho;obtain⟨d,hd,hk⟩:=D7 hk;exact many (Agw ho hk)
 ·rename_i t x ho;obtain⟨d,hd,hk⟩:=D7 hk;exact many (Aoy h ho hk)
 ·rename_i t ps ho;exact one (fun _ h=>h) (Ae1 (K:=fun p=>K p [] []) h ho hk)
 ·rename_i t n ps ho;obtain⟨d,hd,hk⟩:=D7 hk;exact many (NZ h ho hk)
 ·rename_i t x ho;exact one (fun _ h=>h) (Aja (K:=fun p=>K p [] []) h ho hk)
 ·rename_i x ho;exact one (fun _ h=>h) (UB (K:=fun p=>K p [] []) h ho hk)
 ·rename_i op t x y ty ho;exact one (fun _ h=>h) (Ag9 (K:=fun p=>K p [] []) h ho hk)
 ·rename_i op t x ho;exact one (fun _ h=>h) (Ai8 (K:=fun p=>K p [] []) h ho hk)
 ·rename_i src dst x ho;obtain⟨v,nw,hk,hg⟩:=Akc h ho hk;obtain⟨d,hd,hk⟩:=D7 hk;exact⟨v,[],nw,hk,VG hg⟩
 ·rename_i t x y ho;obtain⟨d,hd,hk⟩:=D7 hk;exact many (Aks h ho hk)
 ·rename_i t x lo hi mx ho;split at hk
  ·exact one (fun _ h=>h) (Agm (K:=fun p=>K p [] []) h ho hk)
  ·obtain⟨d,hd,hk⟩:=D7 hk;obtain⟨v,nw,h1,h2⟩:=Acs h ho hk;exact⟨v,[],nw,h1,VG h2⟩
 ·rename_i t x f ho;exact one (fun _ h=>h) (RL (K:=fun p=>K p [] []) h ho hk)
 ·rename_i t x f ho;exact one (fun _ h=>h) (Ahh (K:=fun p=>K p [] []) h ho hk)
 ·rename_i t x i ho;exact one (fun _ h=>h) (QR (K:=fun p=>K p [] []) h ho hk)
 ·rename_i t x i ho;exact one (fun _ h=>h) (Afl (K:=fun p=>K p [] []) h ho hk)
 ·rename_i x i ho;exact one (fun _ h=>h) (YO (K:=fun p=>K p [] []) h ho hk)
 ·rename_i c ho;split at hk
  ·rename_i hc;exact one (fun _ h=>h) (Anh (K:=fun p=>K p [] []) h ho hc hk)
  ·rename_i hc;exact one (fun _ h=>h) (Aox (K:=fun p=>K p [] []) h ho hc hk)
  ·rename_i hc;exact one (fun _ h=>h) (An6 (K:=fun p=>K p [] []) h ho hc hk)
  ·rename_i hc;exact one (fun _ h=>h) (Aom (K:=fun p=>K p [] []) h ho hc hk)
  ·rename_i hc;obtain⟨hnb,hk⟩:=A3 hk;obtain⟨d,hd,Em⟩:=D7 hk;obtain⟨b,xs,XH,Ha⟩:=Bw Em;obtain⟨x,ys,hys,Wb⟩:=Bw Ha;obtain⟨RF,V5⟩:=Ex Wb;obtain⟨t,us,hus,hk5⟩:=Bw V5;obtain⟨tx,vs,V4,hk6⟩:=Bw hk5;rw[hys,RF] at XH;rw[V4] at hus;obtain⟨v,nw,h1,h2⟩:=Acn h ho hc hnb hd XH hus hk6;exact⟨v,[],nw,h1,VG h2⟩
  ·rename_i f hc;exact UN h Kg Dj (fun hf hb=>JA ho hc Kg.ng hf hb) hk
  ·rename_i t hc;obtain⟨f,hf0,Em⟩:=Ays hk;have ht:a.eval (.tmp t)=.func (.func f) #[] #[]:=Dv h (x:=.tmp t) hf0;exact UN h Kg Dj (fun hf hb=>Anq ho hc ht Kg.ng hf hb) Em
  ·cases hk
 ·cases hk
theorem Aj1 (h:Ch N w0 X0 Y β s a w){G:Xl}(Kg:QA P G w0 X0){C:Kf}{call:Ah}(Dj:∀f args res,call f args=some res->Dl G P f args res){K:St->Option R}
  (hk:(WD C P N call s.tm (rd s.hp) (Oz s.hp) o fun v fz nw=>MF N s o.dst v fz nw K)=some r):
  ∃s',K s'=some r∧∀(next:Act->World->Prop) (Q:Exit->Act->World->Prop),(∀a' w' β',Ch N w0 X0 Y β' s' a' w'->next a' w')->o.wp P a w next Q:=by
 obtain⟨v,fz,nw,hk,NL,hg⟩:=At4 h Kg Dj hk;unfold MF at hk;obtain⟨hb,hk⟩:=A3 hk;simp only[Bool.and_eq_true] at hb;refine⟨_,hk,fun next Q hn=>hg next Q fun val w' G0=>?_⟩
 obtain⟨β',st⟩:=G0 hb.2
 have V8:Cx (Ak s.hp fz) nw=true:=by
  have:∀nw,Cx s.hp nw=true->Cx (Ak s.hp fz) nw=true:=by
   intro nw
   induction nw with
   |nil=>intro _;rfl
   |cons q nw ih=>
    obtain⟨i,b⟩:=q;intro hq;simp only[Cx,Bool.and_eq_true,Option.isNone_iff_eq_none] at hq ⊢;exact⟨⟨F3.2 hq.1.1,hq.1.2⟩,ih hq.2⟩
  exact this nw hb.2
 exact hn _ _ β' ((h.freeze NL).stepR hb.1 V8 st)
end
open Go.RowKit
section
variable {R:Type} {r:R} {P:Program} {N:Nat} {w0:World} {X0:Gg} {Y:Nat->Prop} {β β':Bt} {s:St} {a:Act} {w w':World} {o:Oper} {A:Nat->Prop}
structure Gw (b:Nat) (w w':World):Prop where
 os:w'.os=w.os
 tape:w'.tape=w.tape
 output:w'.output=w.output
 size:w'.heap.size=w.heap.size
 other:∀k,k≠b->w'.heap[k]?=w.heap[k]?
 bs:bsz w' b=bsz w b
 frz:∀j,w'.frozen? ⟨b,j,none⟩=w.frozen? ⟨b,j,none⟩
theorem Gw.refl (b:Nat)(w:World):Gw b w w:=⟨rfl,rfl,rfl,rfl,fun _ _=>rfl,rfl,fun _=>rfl⟩
theorem Gw.setCell (b j:Nat)(v:Value)(w:World):Gw b w (w.setCell ⟨b,j,none⟩ v):=by
 refine⟨rfl,rfl,rfl,by simp[World.setCell],fun k hk=>Below.heap_setCell w ⟨b,j,none⟩ v k hk,?_,fun i=>?_⟩
 ·simp only[bsz,World.setCell,Array.getElem?_modify];simp only[if_true];cases h:w.heap[b]? with
  |none=>simp
  |some x=>cases x<;>simp
 ·simp only[World.frozen?,World.setCell,Array.getElem?_modify,if_true];cases h:w.heap[b]? with
  |none=>simp
  |some x=>cases x<;>simp
theorem Gw.trans {b:Nat}{w'':World}(h:Gw b w w')(h':Gw b w' w''):Gw b w w'':=
 ⟨h'.os.trans h.os,h'.tape.trans h.tape,h'.output.trans h.output,h'.size.trans h.size,fun k hk=>(h'.other k hk).trans (h.other k hk),h'.bs.trans h.bs,fun j=>(h'.frz j).trans (h.frz j)⟩
theorem Gw.setCells (b:Nat):∀(vs:List Value)(j:Nat)(w:World),Gw b w (w.setCells b j vs)
 |[],_,w=>Gw.refl b w
 |v::vs,j,w=>(Gw.setCell b j v w).trans (Gw.setCells b vs (j+1) _)
theorem A6r {hp:Nat->Option Cb}{id:Nat}{bx bx':Cb}(h0:hp id=some bx)(hl:C5 (some bx)) (Pn:C5 (some bx')) (b:Nat):HZ (Ds hp id (some bx')) β b↔HZ hp β b:=by
 constructor
 ·rintro⟨i,o,h1,h2⟩
  by_cases e:i=id
  ·subst e;exact⟨i,o,by rw[h0];exact hl,h2⟩
  ·rw[Ax _ _ e] at h1;exact⟨i,o,h1,h2⟩
 ·rintro⟨i,o,h1,h2⟩
  by_cases e:i=id
  ·subst e;exact⟨i,o,by rw[A5];exact Pn,h2⟩
  ·exact⟨i,o,by rw[Ax _ _ e];exact h1,h2⟩
theorem Ch.write (h:Ch N w0 X0 Y β s a w){id b ob:Nat}{bx bx':Cb}(h0:s.hp id=some bx)(hl:C5 (some bx)) (Pn:C5 (some bx')) (hβ:β id=some (b,ob)) (hw:Gw b w w')
  (Ow:Wx w' (Du s.hp β Y) β id bx') (hr:∀cells,bx'=.st cells->∀c∈cells,∀i∈A7 c,s.hp i≠none)
  (hK:∀c',bx'=.st c'->∃c,bx=.st c)(hR:∀j,BR bx' ob j->BR bx ob j)(hO:∀j,¬BR bx ob j->w'.cell? ⟨b,j,none⟩=w.cell? ⟨b,j,none⟩):Ch N w0 X0 Y β ⟨s.tm,Ds s.hp id (some bx')⟩ a w':=by
 have hX:=A6r (β:=β) h0 hl Pn;have hA:∀k,Du (Ds s.hp id (some bx')) β Y k↔Du s.hp β Y k:=fun k=>⟨fun x=>x.imp (hX k).1 (fun y=>y),fun x=>x.imp (hX k).2 (fun y=>y)⟩
 have hAb:Du s.hp β Y b:=.inl ⟨id,ob,by rw[h0];exact hl,hβ⟩
 have G0:C2 (Du s.hp β Y) w w':=⟨by rw[hw.size];exact Nat.le_refl _,fun k _ hk=>hw.other k (fun e=>hk (e ▸ hAb)),fun k _=>by
  by_cases e:k=b
  ·subst e;rw[hw.bs];exact Nat.le_refl _
  ·unfold bsz;rw[hw.other k e];exact Nat.le_refl _⟩
 have O6:∀i,Ds s.hp id (some bx') i≠none↔s.hp i≠none:=by
  intro i;by_cases e:i=id
  ·subst e;rw[A5,h0];simp
  ·rw[Ax _ _ e]
 have hAe:Du (Ds s.hp id (some bx')) β Y=Du s.hp β Y:=funext fun k=>propext (hA k)
 have KU:∀i,C5 (Ds s.hp id (some bx') i)->C5 (s.hp i):=by
  intro i hi;by_cases e:i=id
  ·subst e;rw[h0];exact hl
  ·rw[Ax _ _ e] at hi;exact hi
 refine⟨h.dfr,h.tsz,h.tmo,fun i hi=>?_,fun i bi hb=>?_,fun i i' k x y h1 h2=>h.inj i i' k x y (KU i h1) (KU i' h2),fun i k x hi hk=>?_,fun i hi j hj=>(O6 j).2 (h.wfT i hi j hj),
  fun i cells hc c hcm j hj=>(O6 j).2 ?_,fun k hk=>h.ownd k ((hX k).1 hk),fun i bi k x QX hli hk Cq j hj=>?_,fun i hi=>⟨(O6 _).2 (h.pin i hi).1,(h.pin i hi).2⟩,fun i c k x hc hk Cq=>?_,fun k hk x=>h.Yx k hk ((hX k).1 x),h.Ylt,?_⟩
 ·rw[hAe];exact (h.tms i hi).step G0 (fun _ _ x=>x) (fun _ _=>rfl)
 ·rw[hAe];simp only at hb;by_cases e:i=id
  ·subst e;rw[A5] at hb;cases hb;exact Ow
  ·rw[Ax _ _ e] at hb;have QX:=h.box i bi hb;cases bi with
   |st c=>
    obtain⟨k,x,h1,h2,h3⟩:=QX
    have hk:k≠b:=by
     rintro rfl
     exact e (h.inj i id k x ob (by rw[hb];trivial) (by rw[h0];exact hl) h1 hβ)
    refine⟨k,x,h1,fun j c hj=>?_,fun j hj=>?_⟩
    ·obtain⟨v,hv,hc⟩:=h2 j c hj;exact⟨v,by rw[World.cell?_of_block (w:=w) (hw.other k hk)];exact hv,hc.step G0 (fun _ _ x=>x) (fun _ _=>rfl)⟩
    ·rw[World.frozen?_of_block (w:=w) (hw.other k hk)];exact h3 j hj
   |ar fz c=>
    rcases QX with hn|⟨k,x,h1,h2,h3,h4⟩
    ·exact .inl hn
    ·have hk:k≠b:=by
      rintro rfl
      cases fz with
      |true=>exact h4 rfl hAb
      |false=>exact e (h.inj i id k x ob (by rw[hb];trivial) (by rw[h0];exact hl) h1 hβ)
     refine .inr ⟨k,x,h1,fun j c hj=>?_,fun ef j hj AE=>?_,h4⟩
     ·obtain⟨v,hv,h5,hc⟩:=h2 j c hj;exact⟨v,by rw[World.cell?_of_block (w:=w) (by rw[H6];exact hw.other k hk)];exact hv,h5,hc.step G0 (fun _ _ x=>x)⟩
     ·rw[World.frozen?_of_block (w:=w) (hw.other k hk)];refine h3 ef j hj ?_;unfold bsz at AE ⊢;rw[hw.other k hk] at AE;exact AE
   |mv=>trivial
 ·rw[hw.size];exact h.blt i k x ((O6 i).1 hi) hk
 ·simp only at hc;by_cases e:i=id
  ·subst e;rw[A5] at hc;injection hc with hc;exact hr cells hc c hcm j hj
  ·rw[Ax _ _ e] at hc;exact h.wfB i cells hc c hcm j hj
 ·simp only at QX;by_cases e:i=id
  ·subst e;rw[A5] at QX;cases QX;rw[hβ] at hk;cases hk;exact h.rngB i bx b ob h0 hl hβ Cq j (hR j hj)
  ·rw[Ax _ _ e] at QX;exact h.rngB i bi k x QX hli hk Cq j hj
 ·simp only at hc;by_cases e:i=id
  ·subst e;rw[A5] at hc;injection hc with hc;obtain⟨c0,rfl⟩:=hK c hc;exact h.stp i c0 k x h0 hk Cq
  ·rw[Ax _ _ e] at hc;exact h.stp i c k x hc hk Cq
 ·refine⟨hw.os.trans h.fr.os,hw.tape.trans h.fr.tape,hw.output.trans h.fr.output,?_,fun k j hk hL=>?_⟩
  ·refine⟨by rw[hw.size];exact h.fr.step.size,fun k hk hnk=>?_,fun k hk=>Nat.le_trans (h.fr.step.bs k hk) (G0.bs k (Nat.lt_of_lt_of_le hk h.fr.step.size))⟩
   rw[hw.other k ?_]
   ·exact h.fr.step.keep k hk hnk
   ·rintro rfl
    rcases h.ownd k ⟨id,ob,by rw[h0];exact hl,hβ⟩ with hx|hx
    ·exact hnk hx
    ·omega
  ·by_cases e:k=b
   ·subst e;rw[hO j (fun hj=>hL (h.rngB id bx k ob h0 hl hβ hk j hj)),hw.frz]
    exact h.fr.rng k j hk hL
   ·have hc:w'.cell? ⟨k,j,none⟩=w.cell? ⟨k,j,none⟩:=World.cell?_of_block (w:=w) (hw.other k e);have hf:w'.frozen? ⟨k,j,none⟩=w.frozen? ⟨k,j,none⟩:=World.frozen?_of_block (w:=w) (hw.other k e);rw[hc,hf];exact h.fr.rng k j hk hL
theorem Yw {c cs:List PV}{off j:Nat}{p:PV}(EU:off+cs.length<=c.length)(h:(B4 c cs off)[j]?=some p):
  (off<=j∧j<off+cs.length∧cs[j-off]?=some p)∨((j<off∨off+cs.length<=j)∧c[j]?=some p):=by
 unfold B4 at h;by_cases h1:j<off
 ·rw[List.append_assoc,List.getElem?_append_left (by simp;omega),List.getElem?_take_of_lt h1] at h
  exact .inr ⟨.inl h1,h⟩
 ·by_cases h2:j<off+cs.length
  ·rw[List.getElem?_append_left (by simp;omega),List.getElem?_append_right (by simp;omega)] at h
   simp only[List.length_take,Nat.min_eq_left (by omega:off<=c.length)] at h
   exact .inl ⟨by omega,h2,h⟩
  ·rw[List.getElem?_append_right (by simp;omega)] at h
   simp only[List.length_append,List.length_take,Nat.min_eq_left (by omega:off<=c.length),List.getElem?_drop] at h
   rw[show off+cs.length+(j-(off+cs.length))=j from by omega] at h
   exact .inr ⟨.inr (by omega),h⟩
theorem X5 {c cs:List PV}{off:Nat}(EU:off+cs.length<=c.length):(B4 c cs off).length=c.length:=by
 simp[B4];omega
theorem OW {t:TypeId}{b j:Nat}{v:Value}(Mo:(P.info? t).map (·.size)=some v.cells.size) (hc:∀i,i<v.cells.toList.length->(w.cell? ⟨b,j+i,none⟩).isSome=true)
  (hf:∀i,i<v.cells.toList.length->w.frozen? ⟨b,j+i,none⟩=false)(h1:∀u∈v.cells.toList,u.oneCell'=true):(Instr.storeAt t (.pointer (some ⟨b,j,none⟩)) v).run P w=.ok () (w.setCells b j v.cells.toList):=by
 have:=run_storeCells_cells (P:=P) b j v.cells.toList 0 w (fun i hi=>by simpa using hc i hi) (fun i hi=>by simpa using hf i hi) h1
 simp only[Instr.storeAt,Instr.sureAddr,storeVar,Sem.run_bind,Sem.run_pure,Result.andThen_ok,P8 Mo]
 simpa using this
theorem Aez (h:Ch N w0 X0 Y β s a w){t:TypeId}{x y:Operand}(ho:o.op=.store t x y)(hd:o.dst=none){K:St->Option R}(hk:NX P s t (C8 s.tm x) (C8 s.tm y) K=some r):
  ∃s',K s'=some r∧∀(next:Act->World->Prop) (Q:Exit->Act->World->Prop),(∀a' w' β',Ch N w0 X0 Y β' s' a' w'->next a' w')->o.wp P a w next Q:=by
 have hx:=Ec h x;have XI:=Hp h x
 have run:∀{b j:Nat},a.eval x=.pointer (some ⟨b,j,none⟩)->(Instr.storeAt t (.pointer (some ⟨b,j,none⟩)) (a.eval y)).run P w=.ok () (w.setCells b j (a.eval y).cells.toList) ->
   ∀(next:Act->World->Prop) (Q:Exit->Act->World->Prop),next a (w.setCells b j (a.eval y).cells.toList)->o.wp P a w next Q:=by
  intro b j El hr next Q hn;unfold Oper.wp execOp;rw[ho];simp only[Sem.run_bind,El,hr,Result.andThen_ok,Sem.run_pure];show next (a.put o.dst undef) _;rw[hd];exact hn
 unfold NX at hk;split at hk
 ·rename_i id off e;rw[e] at hx XI;obtain⟨b,ob,hβ,El⟩:=hx;split at hk
  ·rename_i c h0;obtain⟨hb,hk⟩:=A3 hk;simp only[Bool.and_eq_true,decide_eq_true_eq] at hb;obtain⟨⟨hok,hl⟩,EU⟩:=hb;have hl:=Nat.eq_of_beq_eq_true hl;obtain⟨cs,hk,AK,h2,h1,hr,_⟩:=Alj (Ec h y) hl hk;obtain⟨_,A3r,Mo⟩:=Wm hok;have hvl:=h2.len;obtain⟨b',o',I6,Pw,hb3⟩:=h.box id _ h0;rw[hβ] at I6;simp at I6;obtain⟨rfl,rfl⟩:=I6
   have hcell:∀i,i<(a.eval y).cells.toList.length->(w.cell? ⟨b,ob+off+i,none⟩).isSome=true:=by
    intro i hi;obtain⟨v,hv,_⟩:=Pw (off+i) _ (List.getElem?_eq_getElem (by omega))
    rw[Nat.add_assoc,hv];rfl
   have D5:=OW (P:=P) (t:=t) (w:=w) (b:=b) (j:=ob+off) (v:=a.eval y) (by rw[Mo,←A3r,←AK,hvl];simp) hcell (fun i hi=>by rw[Nat.add_assoc];exact hb3 _ (by omega)) h1
   refine⟨_,hk,fun next Q hn=>run El D5 next Q (hn _ _ β ?_)⟩
   refine h.write h0 trivial trivial hβ (Gw.setCells b _ _ w) ?_ ?_ (fun _ _=>⟨_,rfl⟩) (fun j hj=>by
    have hj:ob<=j∧j<ob+(B4 c cs off).length:=hj;rw[X5 (by omega)] at hj
    exact hj) (fun j hj=>by
    refine World.cell?_setCells_out b _ _ w ⟨b,j,none⟩ (fun _ _=>?_)
    have hj:¬(ob<=j∧j<ob+c.length):=hj;show j<ob+off∨ob+off+_<=j;omega)
   ·have G0:C2 (Du s.hp β Y) w (w.setCells b (ob+off) (a.eval y).cells.toList):=by
     have hw:=Gw.setCells b (a.eval y).cells.toList (ob+off) w;have hAb:Du s.hp β Y b:=.inl ⟨id,ob,by rw[h0];trivial,hβ⟩
     exact⟨by rw[hw.size];exact Nat.le_refl _,fun k _ hk=>hw.other k (fun e=>hk (e ▸ hAb)),fun k _=>by
      by_cases e:k=b
      ·subst e;rw[hw.bs];exact Nat.le_refl _
      ·unfold bsz;rw[hw.other k e];exact Nat.le_refl _⟩
    refine⟨b,ob,hβ,fun j p hj=>?_,fun j hj=>?_⟩
    ·rcases Yw (by omega) hj with⟨h3,h4,h5⟩|⟨h3,h5⟩
     ·obtain⟨u,hu,hcu⟩:=h2.get h5;have Cq:j-off<(a.eval y).cells.toList.length:=by omega
      refine⟨u,?_,hcu.step G0 (fun _ _ x=>x) (fun _ _=>rfl)⟩
      have:=World.cell?_setCells_in b (a.eval y).cells.toList (ob+off) w hcell (j-off) Cq;rw[show ob+j=ob+off+(j-off) from by omega,this]
      rw[List.getElem?_eq_getElem Cq] at hu;exact hu
     ·obtain⟨v,hv,PG⟩:=Pw j p h5;refine⟨v,?_,PG.step G0 (fun _ _ x=>x) (fun _ _=>rfl)⟩
      rw[World.cell?_setCells_out b _ _ w ⟨b,ob+j,none⟩ (fun _ _=>by show ob+j<ob+off∨ob+off+_<=ob+j;omega)]
      exact hv
    ·rw[X5 (by omega)] at hj
     rw[(Gw.setCells b _ _ w).frz];exact hb3 j hj
   ·intro cells hx c' X4 i hi;injection hx with hx;subst hx;unfold B4 at X4;rcases List.mem_append.1 X4 with X4|X4
    ·rcases List.mem_append.1 X4 with X4|X4
     ·exact h.wfB id c h0 c' (List.mem_of_mem_take X4) i hi
     ·exact Hp h y i (hr c' X4 i hi)
    ·exact h.wfB id c h0 c' (List.mem_of_mem_drop X4) i hi
  ·rename_i c h0;obtain⟨hb,hk⟩:=A3 hk;simp only[Bool.and_eq_true,decide_eq_true_eq] at hb;obtain⟨hok,EU⟩:=hb;obtain⟨cs,m,hk,AK,QM,hT,hF,hm,hv⟩:=Xw h hk;obtain⟨hnm,hk⟩:=A3 hk
   have hnm:id ∉ m:=by
    intro hi;have:m.any (Nat.beq id)=true:=List.any_eq_true.2 ⟨id,hi,Nat.beq_refl id⟩;rw[this] at hnm;cases hnm
   obtain⟨_,A3r,Mo⟩:=Wm hok
   have Axp:B8 (Cu w (Du s.hp β Y) β) (cellsOf (C8 s.tm y)) (a.eval y).cells.toList:=by
    have hyv:=Ec h y;cases hp:C8 s.tm y with
    |agg ps=>
     rw[hp] at hyv;obtain⟨vs,hay,h2⟩:=hyv;rw[hay];exact h2
    |sc v=>
     rw[hp] at hyv hF
     have At3:(a.eval y).oneCell'=true:=by
      have:=hv m (fun _ hi=>hi) hm [a.eval y] (by rw[hp];exact⟨hyv,trivial⟩)
      exact this.2 _ (by simp)
     rw[Ss At3];exact⟨hyv,trivial⟩
    |lst z es n cc=>
     rw[hp] at hyv hF
     have At3:(a.eval y).oneCell'=true:=by
      have:=hv m (fun _ hi=>hi) hm [a.eval y] (by rw[hp];exact⟨hyv,trivial⟩)
      exact this.2 _ (by simp)
     rw[Ss At3];exact⟨hyv,trivial⟩
    |view i es oo n=>
     rw[hp] at hyv hF
     have At3:(a.eval y).oneCell'=true:=by
      have:=hv m (fun _ hi=>hi) hm [a.eval y] (by rw[hp];exact⟨hyv,trivial⟩)
      exact this.2 _ (by simp)
     rw[Ss At3];exact⟨hyv,trivial⟩
    |own es n cc=>
     have hx0:=hF (C8 s.tm y) (by rw[hp];exact List.mem_singleton_self _)
     rw[hp] at hx0;exact hx0.elim
    |ptr i cc=>
     have hx0:=hF (C8 s.tm y) (by rw[hp];exact List.mem_singleton_self _)
     rw[hp] at hx0;exact hx0.elim
    |iptr i cc=>
     have hx0:=hF (C8 s.tm y) (by rw[hp];exact List.mem_singleton_self _)
     rw[hp] at hx0;exact hx0.elim
    |pbox cc=>
     have hx0:=hF (C8 s.tm y) (by rw[hp];exact List.mem_singleton_self _)
     rw[hp] at hx0;exact hx0.elim
    |tup cc=>
     have hx0:=hF (C8 s.tm y) (by rw[hp];exact List.mem_singleton_self _)
     rw[hp] at hx0;exact hx0.elim
    |ub=>
     have hx0:=hF (C8 s.tm y) (by rw[hp];exact List.mem_singleton_self _)
     rw[hp] at hx0;exact hx0.elim
    |top=>
     have hx0:=hF (C8 s.tm y) (by rw[hp];exact List.mem_singleton_self _)
     rw[hp] at hx0;exact hx0.elim
   obtain⟨h2,h1⟩:=hv m (fun _ hi=>hi) hm _ Axp
   have hvl:=h2.len;have hf:=h.freeze hm;have h0':Ak s.hp m id=some (.ar false c):=by rw[Cz,if_neg hnm];exact h0
   rcases hf.box id _ h0' with⟨hn,_⟩|⟨b',o',I6,Pw,hb3,_⟩
   ·rw[hβ] at hn;cases hn
   rw[hβ] at I6;simp at I6;obtain⟨rfl,rfl⟩:=I6
   have hcell:∀i,i<(a.eval y).cells.toList.length->(w.cell? ⟨b,ob+off+i,none⟩).isSome=true:=by
    intro i hi;obtain⟨v,hv,_⟩:=Pw (off+i) _ (List.getElem?_eq_getElem (by omega))
    rw[Fn] at hv;rw[Nat.add_assoc,hv];rfl
   have D5:=OW (P:=P) (t:=t) (w:=w) (b:=b) (j:=ob+off) (v:=a.eval y) (by rw[Mo,←A3r,←AK,hvl];simp) hcell (fun i hi=>by
    obtain⟨u,hu⟩:=Option.isSome_iff_exists.1 (hcell i hi);exact hb3 rfl _ (by omega) (UG hu)) h1
   refine⟨_,hk,fun next Q hn=>run El D5 next Q (hn _ _ β ?_)⟩
   refine hf.write h0' trivial trivial hβ (Gw.setCells b _ _ w) ?_ (fun cells hx=>by cases hx) (fun _ hx=>by cases hx) (fun j hj=>hj) (fun j hj=>by
    refine World.cell?_setCells_out b _ _ w ⟨b,j,none⟩ (fun _ _=>?_)
    have hj:¬(ob<=j):=hj;show j<ob+off∨ob+off+_<=j;omega)
   have G0:C2 (Du (Ak s.hp m) β Y) w (w.setCells b (ob+off) (a.eval y).cells.toList):=by
    have hw:=Gw.setCells b (a.eval y).cells.toList (ob+off) w;have hAb:Du (Ak s.hp m) β Y b:=.inl ⟨id,ob,by rw[h0'];trivial,hβ⟩
    exact⟨by rw[hw.size];exact Nat.le_refl _,fun k _ hk=>hw.other k (fun e=>hk (e ▸ hAb)),fun k _=>by
     by_cases e:k=b
     ·subst e;rw[hw.bs];exact Nat.le_refl _
     ·unfold bsz;rw[hw.other k e];exact Nat.le_refl _⟩
   refine .inr ⟨b,ob,hβ,fun j p hj=>?_,fun _ j hj AE=>?_,(fun x=>by cases x)⟩
   ·rw[Fn];rcases Yw (by omega) hj with⟨h3,h4,h5⟩|⟨h3,h5⟩
    ·obtain⟨u,hu,hcu⟩:=h2.get h5;have Cq:j-off<(a.eval y).cells.toList.length:=by omega
     refine⟨u,?_,h1 u (List.mem_of_getElem? hu),hcu.step G0 (fun _ _ x=>x)⟩
     have:=World.cell?_setCells_in b (a.eval y).cells.toList (ob+off) w hcell (j-off) Cq;rw[show ob+j=ob+off+(j-off) from by omega,this]
     rw[List.getElem?_eq_getElem Cq] at hu;exact hu
    ·obtain⟨v,hv,h6,PG⟩:=Pw j p h5;rw[Fn] at hv;refine⟨v,?_,h6,PG.step G0 (fun _ _ x=>x)⟩
     rw[World.cell?_setCells_out b _ _ w ⟨b,ob+j,none⟩ (fun _ _=>by show ob+j<ob+off∨ob+off+_<=ob+j;omega)]
     exact hv
   ·rw[(Gw.setCells b _ _ w).bs] at AE;rw[(Gw.setCells b _ _ w).frz];exact hb3 rfl j hj AE
  ·cases hk
 ·cases hk
end
open Go.RowKit
theorem Mu:∀{l l':List Nat},F7 (l++l')=true->F7 l=true∧F7 l'=true∧∀i∈l,i ∉ l'
 |[],l',h=>⟨rfl,h,by simp⟩
 |a::l,l',h=>by
  simp only[List.cons_append,F7,Bool.and_eq_true,Bool.not_eq_true'] at h;obtain⟨h1,h2⟩:=h;obtain⟨h3,h4,h5⟩:=Mu h2
  have hn:∀i∈l++l',a≠i:=by
   rintro i hi rfl
   have:(l++l').any (Nat.beq a)=true:=List.any_eq_true.2 ⟨a,hi,Nat.beq_refl a⟩;rw[this] at h1;cases h1
  refine⟨?_,h4,fun i hi=>?_⟩
  ·simp only[F7,Bool.and_eq_true,Bool.not_eq_true',h3,and_true];rw[List.any_eq_false];intro i hi e;exact hn i (by simp[hi]) (Nat.eq_of_beq_eq_true e)
  ·rcases List.mem_cons.1 hi with rfl|hi
   ·exact fun hm=>hn i (by simp[hm]) rfl
   ·exact h5 i hi
def Kk (β:Bt)(q:Nat × Nat):Option (Nat × Nat):=(β q.1).map fun p=>(p.1,p.2+q.2)
theorem Aj2 (β:Bt)(id:Nat):Kk β (id,0)=β id:=by
 unfold Kk;cases β id<;>rfl
section
variable {R:Type} {r:R} {P:Program} {N:Nat} {w0:World} {X0:Gg} {Y:Nat->Prop} {β β':Bt} {s:St} {a:Act} {w w':World} {o:Oper} {A:Nat->Prop}
theorem Sx {fz:List Nat}{b:Nat}(h:Du (Ak s.hp fz) β Y b):Du s.hp β Y b:=h.imp Xg id
theorem Atj (h:Ch N w0 X0 Y β s a w){mv:Bool}{t:CT}{p:PV}{K:PV->List Nat->List Nat->Option R}(hk:Ans mv s.hp t p K=some r):
  ∃c m q,K c m (Option.toList q)=some r∧isA c∧XN p∧(∀id∈m,∃f cc,s.hp id=some (.ar f cc))∧(∀id,q=some id->∃cc,s.hp id=some (.ar false cc)) ∧
   ∀fz:List Nat,(∀id∈m,id∈fz)->(∀id∈fz,∃f cc,s.hp id=some (.ar f cc))->∀v,Cu w (Du s.hp β Y) β p v->Kp w (Du (Ak s.hp fz) β Y) (q.bind β) c v:=by
 have frz:∀{t:CT} {p:PV} {K:PV->List Nat->List Nat->Option R},(Ug (Oz s.hp) t p fun c m=>K c m [])=some r->∃c m q,K c m (Option.toList q)=some r∧isA c∧XN p∧(∀id∈m,∃f cc,s.hp id=some (.ar f cc))∧(∀id,q=some id->∃cc,s.hp id=some (.ar false cc)) ∧
   ∀fz:List Nat,(∀id∈m,id∈fz)->(∀id∈fz,∃f cc,s.hp id=some (.ar f cc))->∀v,Cu w (Du s.hp β Y) β p v->Kp w (Du (Ak s.hp fz) β Y) (q.bind β) c v:=by
  intro t p K hk;obtain⟨c,m,hk,hT,hF,hm,hv⟩:=WR h hk;exact⟨c,m,none,hk,.inl hT,hF,hm,by simp,fun fz h1 h2 v hc=>Px hT (hv fz h1 h2 v hc).1⟩
 have tree:∀{t:CT} {p:PV} {K:PV->List Nat->List Nat->Option R},(∀es,t ≠ .sl es)->(NI t p fun c=>K c [] [])=some r->∃c m q,K c m (Option.toList q)=some r∧isA c∧XN p∧(∀id∈m,∃f cc,s.hp id=some (.ar f cc))∧(∀id,q=some id->∃cc,s.hp id=some (.ar false cc)) ∧
   ∀fz:List Nat,(∀id∈m,id∈fz)->(∀id∈fz,∃f cc,s.hp id=some (.ar f cc))->∀v,Cu w (Du s.hp β Y) β p v->Kp w (Du (Ak s.hp fz) β Y) (q.bind β) c v:=by
  intro t p K Fu hk;obtain⟨c,hk,hT,SK,hv⟩:=R8 hk;exact⟨c,[],none,hk,.inl hT,Y6 SK,by simp,by simp,fun fz h1 h2 v hc=>Px hT ((hv w _ β v hc).1.step (C2.refl _ _) (fun b _ hb=>Sx hb))⟩
 unfold Ans at hk;cases t with
 |sl es=>
  dsimp only at hk;cases mv<;>simp only[cond_true,cond_false] at hk
  ·exact frz hk
  ·split at hk
   ·rename_i id es' off n;split at hk
    ·rename_i c h0;cases hb:(Nat.beq es' es&&Nat.beq off 0)<;>rw[hb] at hk<;>simp only[cond_true,cond_false] at hk
     ·exact frz hk
     ·simp only[Bool.and_eq_true] at hb;have he:=Nat.eq_of_beq_eq_true hb.1;have hof:=Nat.eq_of_beq_eq_true hb.2;subst he hof;obtain⟨hl,hk⟩:=A3 hk;refine⟨_,[],some id,hk,.inr ⟨_,_,_,rfl⟩,trivial,by simp,fun i hi=>by cases hi;exact⟨c,h0⟩,fun fz h1 h2 v hc=>?_⟩
      rcases hc with⟨h3,_,rfl,h4⟩|⟨b,ob,x,cap,h3,h4,hx,h5,h6,h7⟩
      ·exact .inl ⟨h3,rfl,by simp,h4⟩
      ·have hx:x=ob:=by rcases hx with e|⟨_,e⟩<;>omega
       subst hx;rcases h.box id _ h0 with⟨h8,_⟩|⟨b',o',h8,h9,h10,_⟩
       ·rw[h3] at h8;cases h8
       ·rw[h3] at h8;cases h8;refine .inr ⟨b,x,cap,h3,h4,h5,h6,h7,fun j p hj=>?_,h10 rfl⟩
        rw[List.getElem?_take] at hj;split at hj
        ·obtain⟨u,hu,h11,ht⟩:=h9 j p hj;exact⟨u,hu,h11,ht.step (C2.refl _ _) (fun b _ hb=>Sx hb)⟩
        ·cases hj
    ·exact frz hk
   ·obtain⟨z,n,c,hk,hp⟩:=Ik hk;have hpF:XN p:=by rcases hp with e|⟨e,_⟩<;>(rw[e];trivial)
    cases z<;>simp only[cond_true,cond_false] at hk
    ·refine⟨_,[],none,hk,.inl trivial,hpF,by simp,by simp,fun fz h1 h2 v hc=>?_⟩
     exact Px trivial ((GP hp hc).step (C2.refl _ _) (fun b _ hb=>Sx hb))
    ·refine⟨_,[],none,hk,.inr ⟨_,_,_,rfl⟩,hpF,by simp,by simp,fun fz h1 h2 v hc=>.inl ⟨rfl,rfl,rfl,none,?_⟩⟩
     have:=GP hp hc;cases this;rfl
 |int k=>exact tree (by simp) hk
 |bool=>exact tree (by simp) hk
 |str=>exact tree (by simp) hk
 |any=>exact tree (by simp) hk
theorem DK (h:Ch N w0 X0 Y β s a w){mv:Bool}:∀{ts:List CT}{ps:List PV}{K:List PV->List Nat->List Nat->Option R},OE mv s.hp ts ps K=some r ->
  ∃cs m x,∃q:Nat->Option Nat,K cs m x=some r∧cs.length=ts.length∧ps.length=ts.length∧(∀c∈cs,isA c)∧(∀p∈ps,XN p)∧(∀id∈m,∃f cc,s.hp id=some (.ar f cc))∧(∀id∈x,∃cc,s.hp id=some (.ar false cc)) ∧
   (∀j id,q j=some id->id∈x)∧(F7 x=true->∀j j' id,q j=some id->q j'=some id->j=j') ∧
   ∀fz:List Nat,(∀id∈m,id∈fz)->(∀id∈fz,∃f cc,s.hp id=some (.ar f cc))->∀vs,B8 (Cu w (Du s.hp β Y) β) ps vs->∀(own:Bt) j0,(∀j,own (j0+j)=(q j).bind β)->H4 w (Du (Ak s.hp fz) β Y) own j0 cs vs
 |[],[],K,hk=>⟨[],[],[],fun _=>none,hk,rfl,rfl,by simp,by simp,by simp,by simp,by simp,by simp,fun fz _ _ vs hv own j0 _=>by
   cases vs with
   |nil=>trivial
   |cons v vs=>exact hv.elim⟩
 |[],_::_,K,hk=>by cases hk
 |_::_,[],K,hk=>by cases hk
 |t::ts,p::ps,K,hk=>by
  unfold OE at hk;obtain⟨c,m,q,hk,hA,hF,hm,hq,hv⟩:=Atj h hk;obtain⟨cs,ms,xs,qs,hk,hl,Pn,hAs,hFs,WQ,XH,hqx,hqi,V4⟩:=DK h hk;refine⟨c::cs,m++ms,q.toList++xs,fun j=>match j with|0=>q|j+1=>qs j,hk,by simp[hl],by simp[Pn],?_,?_,?_,?_,?_,?_,?_⟩
  ·intro x hx;rcases List.mem_cons.1 hx with rfl|hx
   ·exact hA
   ·exact hAs x hx
  ·intro x hx;rcases List.mem_cons.1 hx with rfl|hx
   ·exact hF
   ·exact hFs x hx
  ·intro i hi;rcases List.mem_append.1 hi with hi|hi
   ·exact hm i hi
   ·exact WQ i hi
  ·intro i hi;rcases List.mem_append.1 hi with hi|hi
   ·exact hq i (by simpa using hi)
   ·exact XH i hi
  ·intro j id hj;cases j with
   |zero=>exact List.mem_append.2 (.inl (by simpa using hj))
   |succ j=>exact List.mem_append.2 (.inr (hqx j id hj))
  ·intro hn j j' id hj AE;obtain⟨_,h2,h3⟩:=Mu hn;cases j with
   |zero=>
    cases j' with
    |zero=>rfl
    |succ j'=>exact absurd (hqx j' id AE) (h3 id (by simpa using hj))
   |succ j=>
    cases j' with
    |zero=>exact absurd (hqx j id hj) (h3 id (by simpa using AE))
    |succ j'=>rw[hqi h2 j j' id hj AE]
  ·intro fz h1 h2 vs h3 own j0 Ho;cases vs with
   |nil=>exact h3.elim
   |cons v vs=>
    refine⟨?_,V4 fz (fun i hi=>h1 i (by simp[hi])) h2 vs h3.2 own (j0+1) fun j=>?_⟩
    ·have:=Ho 0;rw[Nat.add_zero] at this;rw[this];exact hv fz (fun i hi=>h1 i (by simp[hi])) h2 v h3.1
    ·have:=Ho (j+1);rw[show j0+1+j=j0+(j+1) by omega]
     exact this
def LOk (hp:Nat->Option Cb)(q:Option (Nat × Nat)) (p:PV)(x:J9):Prop:=
 match x with
 |.var id off cts ws=>p=.pbox ws∧q=some (id,off)∧cts.length=ws.length∧∃c,hp id=some (.st c)∧off+ws.length<=c.length
 |.row id=>(∃ps,p=.tup ps)∧q=some (id,0)∧∃c,hp id=some (.ar false c)
 |.none=>(∃ps,p=.tup ps)∧q=none
theorem Amj {hp:Nat->Option Cb}{q:Option (Nat × Nat)} {p:PV}{x:J9}(h:LOk hp q p x):JM p=true:=by
 cases x with
 |var id off cts ws=>rw[h.1];rfl
 |row id=>obtain⟨⟨_,e⟩,_⟩:=h;rw[e];rfl
 |none=>obtain⟨⟨_,e⟩,_⟩:=h;rw[e];rfl
def V1 (hp:Nat->Option Cb)(src:Nat->Nat->Option (Nat × Nat)):Nat->List PV->List J9->Prop
 |_,[],l=>l=[]
 |i,p::ps,l=>(JM p=false∧src i 0=none∧V1 hp src (i+1) ps l)∨∃x l',l=x::l'∧LOk hp (src i 0) p x∧V1 hp src (i+1) ps l'
theorem Aif (h:Ch N w0 X0 Y β s a w){C:Kf}{f:FuncId}{i:Nat}{t:TypeId}{x:Operand}{K:PV->List Nat->List Nat->List J9->Option R}(hk:NW C P f s.hp i t (C8 s.tm x) K=some r):
  ∃v m y l,∃src:Nat->Option (Nat × Nat),K v m y l=some r∧(∀id∈m,∃f cc,s.hp id=some (.ar f cc))∧(∀id∈y,∃cc,s.hp id=some (.ar false cc)) ∧
   (∀j id off,src (j+1)=some (id,off)->off=0∧id∈y)∧(F7 y=true->∀j j' id off off',src (j+1)=some (id,off)->src (j'+1)=some (id,off')->j=j') ∧
   ((l=[]∧JM v=false∧src 0=none)∨∃x',l=[x']∧LOk s.hp (src 0) v x') ∧
   ∀fz:List Nat,(∀id∈m,id∈fz)->(∀id∈fz,∃f cc,s.hp id=some (.ar f cc))->∀bt:Bt,(∀j,bt j=(src j).bind (Kk β))->Ag6 w (Du (Ak s.hp fz) β Y) bt v (a.eval x):=by
 have hx:=Ec h x
 have QH:∀(q0:Option (Nat × Nat)) (q:Nat->Option Nat),∃src:Nat->Option (Nat × Nat),src 0=q0∧(∀j,src (j+1)=(q j).map fun id=>(id,0)):=
  fun q0 q=>⟨fun j=>match j with|0=>q0|j+1=>(q j).map fun id=>(id,0),rfl,fun _=>rfl⟩
 have Afz:∀{src:Nat->Option (Nat × Nat)} {q:Nat->Option Nat} {y:List Nat},(∀j,src (j+1)=(q j).map fun id=>(id,0))->(∀j id,q j=some id->id∈y)->∀j id off,src (j+1)=some (id,off)->off=0∧id∈y:=by
  intro src q y h1 h2 j id off hj;rw[h1] at hj;cases hq:q j with
  |none=>rw[hq] at hj;cases hj
  |some k=>rw[hq] at hj;cases hj;exact⟨rfl,h2 j _ hq⟩
 have Agk:∀{src:Nat->Option (Nat × Nat)} {q:Nat->Option Nat} {y:List Nat},(∀j,src (j+1)=(q j).map fun id=>(id,0))->(F7 y=true->∀j j' id,q j=some id->q j'=some id->j=j') ->
   F7 y=true->∀j j' id off off',src (j+1)=some (id,off)->src (j'+1)=some (id,off')->j=j':=by
  intro src q y h1 h2 hn j j' id off off' hj AE;rw[h1] at hj AE;cases hq:q j with
  |none=>rw[hq] at hj;cases hj
  |some k=>
   cases Iv:q j' with
   |none=>rw[Iv] at AE;cases AE
   |some k'=>
    rw[hq] at hj;rw[Iv] at AE;cases hj;cases AE;exact h2 hn j j' _ hq Iv
 have Ho:∀{src:Nat->Option (Nat × Nat)} {q:Nat->Option Nat} {bt:Bt},(∀j,src (j+1)=(q j).map fun id=>(id,0))->(∀j,bt j=(src j).bind (Kk β))->∀j,bt (1+j)=(q j).bind β:=by
  intro src q bt h1 h2 j;rw[Nat.add_comm,h2,h1];cases q j with
  |none=>rfl
  |some id=>exact Aj2 β id
 unfold NW at hk;split at hk
 ·rename_i e he;split at hk
  ·rename_i id off ep;rw[ep] at hx;split at hk
   ·rename_i c h0;obtain⟨hb,hk⟩:=A3 hk;simp only[Bool.and_eq_true,decide_eq_true_eq] at hb;obtain⟨cs,m,y,q,hk,hl,Pn,hA,hF,hm,hy,hq1,RT,hv⟩:=DK h hk;obtain⟨src,TH,hs⟩:=QH (some (id,off)) q;obtain⟨b,ob,hβ,El⟩:=hx;refine⟨_,m,y,_,src,hk,hm,hy,Afz hs hq1,Agk hs RT,.inr ⟨_,rfl,rfl,TH,hl.symm,c,h0,by omega⟩,fun fz h1 h2 bt GJ=>?_⟩
    obtain⟨b',o',I6,Pw,hb3⟩:=h.box id _ h0;rw[hβ] at I6;cases I6;have Hw:((c.drop off).take (L8 P e).length).length=(L8 P e).length:=by simp;omega
    have Au9:∀j p,((c.drop off).take (L8 P e).length)[j]?=some p->c[off+j]?=some p∧j<(L8 P e).length:=by
     intro j p hj;rw[List.getElem?_take] at hj;split at hj
     ·rw[List.getElem?_drop] at hj;exact⟨hj,by assumption⟩
     ·cases hj
    refine⟨b,ob+off,by rw[GJ,TH];simp[Kk,hβ],El,hA,((c.drop off).take (L8 P e).length).mapIdx (fun j _=>(w.cell? ⟨b,ob+off+j,none⟩).getD undef),hv fz h1 h2 _ ?_ bt 1 (Ho hs GJ),?_,fun k hk=>?_⟩
    ·refine B8.of_at (by simp) fun j p v hp hv=>?_
     obtain⟨hc,_⟩:=Au9 j p hp;obtain⟨u,hu,hcr⟩:=Pw _ _ hc;rw[List.getElem?_mapIdx,hp,Option.map_some,Nat.add_assoc,hu] at hv;simp at hv;subst hv;exact hcr
    ·intro k v hkv;rw[List.getElem?_mapIdx] at hkv;cases hp:((c.drop off).take (L8 P e).length)[k]? with
     |none=>rw[hp] at hkv;cases hkv
     |some p=>
      obtain⟨hc,_⟩:=Au9 k p hp;obtain⟨u,hu,hcr⟩:=Pw _ _ hc;rw[hp,Option.map_some,Nat.add_assoc,hu] at hkv;simp at hkv;subst hkv;rw[Nat.add_assoc];exact hu
    ·rw[Nat.add_assoc];exact hb3 _ (by omega)
   ·cases hk
  ·cases hk
 ·cases hln:C.lnd f i<;>rw[hln] at hk<;>simp only[cond_true,cond_false] at hk
  ·cases Jc:C6 P t<;>rw[Jc] at hk<;>simp only[cond_true,cond_false] at hk
   ·obtain⟨cs,m,y,q,hk,hl,Pn,hA,hF,hm,hy,hq1,RT,hv⟩:=DK h hk;obtain⟨c,t',rfl,hk⟩:=Bw hk;obtain⟨rfl,hk⟩:=Ex hk;obtain⟨src,TH,hs⟩:=QH none q;have hAc:=hA c (by simp)
    refine⟨c,m,y,_,src,hk,hm,hy,Afz hs hq1,Agk hs RT,.inl ⟨rfl,Aza hAc,TH⟩,fun fz h1 h2 bt GJ=>?_⟩
    have hFx:=hF _ (List.mem_singleton_self _)
    have hxc:Cu w (Du s.hp β Y) β (C8 s.tm x) (a.eval x):=by
     cases hp:C8 s.tm x<;>rw[hp] at hx hFx<;>first|exact hx|exact hFx.elim
    have hoc:=(hv fz h1 h2 [a.eval x] ⟨hxc,trivial⟩ bt 1 (Ho hs GJ)).1;rcases hAc with hT|⟨es,n,cc,rfl⟩
    ·cases c<;>first|exact⟨.inl trivial,hoc⟩|exact hT.elim
    ·exact⟨.inr ⟨_,_,_,rfl⟩,hoc⟩
   ·obtain⟨ps,ep,hk⟩:=Kz hk;rw[ep] at hx;obtain⟨vs,El,h3⟩:=hx;obtain⟨cs,m,y,q,hk,hl,Pn,hA,hF,hm,hy,hq1,RT,hv⟩:=DK h hk;obtain⟨src,TH,hs⟩:=QH none q;refine⟨_,m,y,_,src,hk,hm,hy,Afz hs hq1,Agk hs RT,.inl ⟨rfl,rfl,TH⟩,fun fz h1 h2 bt GJ=>?_⟩
    exact⟨vs,El,hA,hv fz h1 h2 vs h3 bt 1 (Ho hs GJ)⟩
  ·obtain⟨e,he,hk⟩:=D7 hk;unfold Ar9 at hk;split at hk
   ·rename_i id es' off n ep;rw[ep] at hx;split at hk
    ·rename_i c h0;obtain⟨hb,Ha⟩:=A3 hk;simp only[Bool.and_eq_true] at hb;have he:=Nat.eq_of_beq_eq_true hb.1;have hof:=Nat.eq_of_beq_eq_true hb.2;subst hof;obtain⟨src,TH,hs⟩:=QH (some (id,0)) (fun _=>none)
     refine⟨_,[],[],_,src,Ha,by simp,by simp,Afz hs (by simp),Agk hs (by simp),.inr ⟨_,rfl,⟨_,rfl⟩,TH,c,h0⟩,fun fz h1 h2 bt GJ=>⟨_,_,_,rfl,?_⟩⟩
     have XK:bt 0=β id:=by rw[GJ,TH];exact Aj2 β id
     rw[XK];rcases hx with⟨h3,_,h4,h5⟩|⟨b,ob,y,cap,h3,h4,hy,h5,h6,h7⟩
     ·refine .inl ⟨h3,h4,?_,h5⟩;rcases h.box id _ h0 with⟨_,h8⟩|⟨_,_,h8,_⟩
      ·exact h8
      ·rw[h3] at h8;cases h8
     ·have hy:y=ob:=by rcases hy with e|⟨_,e⟩<;>omega
      subst hy;rcases h.box id _ h0 with⟨h8,_⟩|⟨b',o',h8,h9,h10,_⟩
      ·rw[h3] at h8;cases h8
      ·rw[h3] at h8;cases h8;exact .inr ⟨b,y,cap,h3,h4,h5,by rw[←he];exact h6,h7,h9.weak (fun b _ hb=>Sx hb),h10 rfl⟩
    ·cases hk
   ·obtain⟨z,n,c,hk,hp⟩:=Ik hk;obtain⟨hz,hk⟩:=A3 hk;subst hz;obtain⟨src,TH,hs⟩:=QH none (fun _=>none)
    have hu:a.eval x=.slice none 0 0:=by
     have hF:Cu w (Du s.hp β Y) β (C8 s.tm x) (a.eval x):=by rcases hp with e|⟨e,_⟩<;>rw[e] at hx ⊢ <;> exact hx
     have:=GP hp hF;generalize a.eval x=u at this;cases this;rfl
    refine⟨_,[],[],_,src,hk,by simp,by simp,Afz hs (by simp),Agk hs (by simp),.inr ⟨_,rfl,⟨_,rfl⟩,TH⟩,fun fz h1 h2 bt GJ=>⟨_,_,_,rfl,.inl ⟨by rw[GJ,TH];rfl,rfl,rfl,none,hu⟩⟩⟩
structure Bdq (i0 n:Nat) (src:Nat->Nat->Option (Nat × Nat)) (ids x:List Nat):Prop where
 dom:∀i j q,src i j=some q->i0<=i∧i<i0+n
 lent:∀i id off,src i 0=some (id,off)->id∈ids
 mvd:∀i j id off,src i (j+1)=some (id,off)->off=0∧id∈x
 inj0:F7 ids=true->∀i i' id off off',src i 0=some (id,off)->src i' 0=some (id,off')->i=i'
 inj1:F7 x=true->∀i i' j j' id off off',src i (j+1)=some (id,off)->src i' (j'+1)=some (id,off')->i=i'∧j=j'
theorem HX {hp:Nat->Option Cb}{src src':Nat->Nat->Option (Nat × Nat)}:∀{ps:List PV}{i:Nat}{l:List J9},(∀k,i<=k->src' k=src k)->V1 hp src i ps l->V1 hp src' i ps l
 |[],_,_,_,h=>h
 |p::ps,i,l,hs,h=>by
  rcases h with⟨h1,h2,h3⟩|⟨x,l',rfl,h2,h3⟩
  ·exact .inl ⟨h1,by rw[hs i (Nat.le_refl _)];exact h2,HX (fun k hk=>hs k (by omega)) h3⟩
  ·exact .inr ⟨x,l',rfl,by rw[hs i (Nat.le_refl _)];exact h2,HX (fun k hk=>hs k (by omega)) h3⟩
theorem PM {bt bt':OZ}:∀{ps:List PV}{us:List Value}{i:Nat},(∀k,i<=k->∀j,bt' k j=bt k j)->Qm w A bt i ps us->Qm w A bt' i ps us
 |[],[],_,_,_=>trivial
 |[],_::_,_,_,h=>h.elim
 |_::_,[],_,_,h=>h.elim
 |_::_,_::_,i,hb,h=>⟨by rw[show bt' i=bt i from funext (hb i (Nat.le_refl _))];exact h.1,PM (fun k hk=>hb k (by omega)) h.2⟩
theorem Abc (h:Ch N w0 X0 Y β s a w){C:Kf}{f:FuncId}:∀{ts:List TypeId}{xs:List Operand}{i:Nat}{K:List PV->List Nat->List Nat->List J9->Option R},Abn C P f s.hp i ts (xs.map (C8 s.tm)) K=some r ->
  ∃vs m y l,∃src:Nat->Nat->Option (Nat × Nat),K vs m y l=some r∧(∀id∈m,∃f cc,s.hp id=some (.ar f cc))∧(∀id∈y,∃cc,s.hp id=some (.ar false cc)) ∧
   Bdq i xs.length src (l.flatMap J9.ids) y∧V1 s.hp src i vs l ∧
   ∀fz:List Nat,(∀id∈m,id∈fz)->(∀id∈fz,∃f cc,s.hp id=some (.ar f cc))->∀bt:OZ,(∀i j,bt i j=(src i j).bind (Kk β))->Qm w (Du (Ak s.hp fz) β Y) bt i vs (xs.map a.eval)
 |[],[],i,K,hk=>⟨[],[],[],[],fun _ _=>none,hk,by simp,by simp,⟨by simp,by simp,by simp,by simp,by simp⟩,rfl,fun _ _ _ _ _=>trivial⟩
 |[],_::_,i,K,hk=>by cases hk
 |_::_,[],i,K,hk=>by cases hk
 |t::ts,x::xs,i,K,hk=>by
  simp only[List.map_cons] at hk;unfold Abn at hk;obtain⟨v,m,y,l,src,hk,hm,hy,PZ,VY,hl,hv⟩:=Aif h hk;obtain⟨vs,ms,ys,ls,srcs,hk,WQ,hys,hS,hL,V4⟩:=Abc h hk;have QH:∃sr:Nat->Nat->Option (Nat × Nat),sr i=src∧∀k,k≠i->sr k=srcs k:=⟨fun k=>if k=i then src else srcs k,by simp,fun k hk=>by simp[hk]⟩
  obtain⟨sr,hsi,hso⟩:=QH
  have YU:∀id off,src 0=some (id,off)->id∈l.flatMap J9.ids:=by
   intro id off e;rcases hl with⟨_,_,h3⟩|⟨x',rfl,h3⟩
   ·rw[h3] at e;cases e
   ·cases x' with
    |var id' off' cts ws=>rw[h3.2.1] at e;cases e;simp[J9.ids]
    |row id'=>rw[h3.2.1] at e;cases e;simp[J9.ids]
    |none=>rw[h3.2] at e;cases e
  refine⟨v::vs,m++ms,y++ys,l++ls,sr,hk,?_,?_,⟨?_,?_,?_,?_,?_⟩,?_,fun fz h1 h2 bt GJ=>⟨?_,?_⟩⟩
  ·intro i hi;rcases List.mem_append.1 hi with hi|hi
   ·exact hm i hi
   ·exact WQ i hi
  ·intro i hi;rcases List.mem_append.1 hi with hi|hi
   ·exact hy i hi
   ·exact hys i hi
  ·intro k j q hq;simp only[List.length_cons];by_cases e:k=i
   ·subst e;omega
   ·rw[hso k e] at hq;have:=hS.dom k j q hq;omega
  ·intro k id off hq;rw[List.flatMap_append];by_cases e:k=i
   ·subst e;rw[hsi] at hq;exact List.mem_append.2 (.inl (YU id off hq))
   ·rw[hso k e] at hq;exact List.mem_append.2 (.inr (hS.lent k id off hq))
  ·intro k j id off hq;by_cases e:k=i
   ·subst e;rw[hsi] at hq;exact⟨(PZ j id off hq).1,List.mem_append.2 (.inl (PZ j id off hq).2)⟩
   ·rw[hso k e] at hq;exact⟨(hS.mvd k j id off hq).1,List.mem_append.2 (.inr (hS.mvd k j id off hq).2)⟩
  ·intro hn k k' id off off' hq Iv;rw[List.flatMap_append] at hn;obtain⟨_,h4,h5⟩:=Mu hn;by_cases e:k=i
   ·by_cases e':k'=i
    ·omega
    ·rw[hso k' e'] at Iv;subst e;rw[hsi] at hq;exact absurd (hS.lent k' id off' Iv) (h5 id (YU id off hq))
   ·rw[hso k e] at hq;by_cases e':k'=i
    ·subst e';rw[hsi] at Iv;exact absurd (hS.lent k id off hq) (h5 id (YU id off' Iv))
    ·rw[hso k' e'] at Iv;exact hS.inj0 h4 k k' id off off' hq Iv
  ·intro hn k k' j j' id off off' hq Iv;obtain⟨h3,h4,h5⟩:=Mu hn;by_cases e:k=i
   ·by_cases e':k'=i
    ·subst e;subst e';rw[hsi] at hq Iv;exact⟨rfl,VY h3 j j' id off off' hq Iv⟩
    ·rw[hso k' e'] at Iv;subst e;rw[hsi] at hq;exact absurd (hS.mvd k' j' id off' Iv).2 (h5 id (PZ j id off hq).2)
   ·rw[hso k e] at hq;by_cases e':k'=i
    ·subst e';rw[hsi] at Iv;exact absurd (hS.mvd k j id off hq).2 (h5 id (PZ j' id off' Iv).2)
    ·rw[hso k' e'] at Iv;exact hS.inj1 h4 k k' j j' id off off' hq Iv
  ·have FW:V1 s.hp sr (i+1) vs ls:=HX (fun k hk=>hso k (by omega)) hL
   rcases hl with⟨rfl,hnp,h3⟩|⟨x',rfl,h3⟩
   ·exact .inl ⟨hnp,by rw[hsi];exact h3,FW⟩
   ·exact .inr ⟨x',ls,rfl,by rw[hsi];exact h3,FW⟩
  ·exact hv fz (fun i hi=>h1 i (by simp[hi])) h2 (bt i) (fun j=>by rw[GJ,hsi])
  ·refine V4 fz (fun i hi=>h1 i (by simp[hi])) h2 (fun k j=>(srcs k j).bind (Kk β)) (fun _ _=>rfl) |> PM fun k hk j=>?_
   rw[GJ,hso k (by omega)]
end
open Go.RowKit
section
variable {R:Type} {r:R} {P:Program} {N:Nat} {w0:World} {X0:Gg} {Y:Nat->Prop} {β β':Bt} {s:St} {a:Act} {w w':World} {o:Oper} {A:Nat->Prop}
theorem Aq1 {p:PV}{u:Value}(h:A8 w A p u):Cu w A β p u:=by
 have h0:=h;cases h<;>exact h0
theorem Ash {t:Nat}{ct:CT}{was p:PV}{K:Nat->PV->List (Nat × Cb)->Option R} (hk:Ani N t ct was p K=some r):
  (∃c,K t c []=some r∧FJ c∧∀w A q u,Kp w A q p u->A8 w A c u)∨∃es n cc,p=.own es n cc∧K (t+1) (.view (nid N t) es 0 n) [(nid N t,.ar false cc)]=some r:=by
 have tree:∀t',(NI t' p fun c=>K t c [])=some r->∃c,K t c []=some r∧FJ c∧∀w A q u,Kp w A q p u->A8 w A c u:=by
  intro t' hk;obtain⟨c,hk,hT,SK,hv⟩:=R8 hk;refine⟨c,hk,hT,fun w A q u h=>(hv w A (fun _=>none) u ?_).1⟩
  cases p<;>first|exact h|exact SK.elim
 unfold Ani at hk;cases ct with
 |sl es=>
  dsimp only at hk;split at hk
  ·unfold F5 at hk;split at hk
   ·rename_i es' n c;cases hb:Nat.beq es' es<;>rw[hb] at hk
    ·cases hk
    ·have:=Nat.eq_of_beq_eq_true hb;subst this;exact .inr ⟨_,_,_,rfl,hk⟩
   ·cases hk
  ·have h2:(NI (.sl es) p fun c=>(match c with | .lst _ es n c=>K t (.lst false es n c) []|_=>none))=some r:=hk
   obtain⟨c,hk,hT,SK,hv⟩:=R8 h2;split at hk
   ·refine .inl ⟨_,hk,hT,fun w A q u h=>A8.unz (hv w A (fun _=>none) u ?_).1⟩
    cases p<;>first|exact h|exact SK.elim
   ·cases hk
 |int k=>exact .inl (tree _ hk)
 |bool=>exact .inl (tree _ hk)
 |str=>exact .inl (tree _ hk)
 |any=>exact .inl (tree _ hk)
theorem MG:∀{cts:List CT}{ws ps:List PV}{t:Nat}{K:Nat->List PV->List (Nat × Cb)->Option R},ZI N t cts ws ps K=some r ->
  ∃t' cs bs,∃qs:List (Nat × Nat),K t' cs bs=some r∧cs.length=ps.length∧ps.length=ws.length∧bs.map (·.1)=qs.map (·.1)∧(∀q∈qs,(∃k,q.1=nid N k)∧q.2<ps.length)∧(∀q∈qs,∀q'∈qs,q.2=q'.2->q.1=q'.1) ∧
   (∀i bx,(i,bx)∈bs->∃c,bx=.ar false c)∧(∀c∈cs,∀i∈A7 c,∃bx,(i,bx)∈bs) ∧
   ∀(w:World) (A:Nat->Prop) (own β':Bt) (j0:Nat) (us:List Value),(∀q∈qs,β' q.1=own (j0+q.2))->H4 w A own j0 ps us->B8 (Cu w A β') cs us∧∀i bx,(i,bx)∈bs->Wx w A β' i bx
 |[],[],ps,t,K,hk=>by
  obtain⟨rfl,hk⟩:=Ex hk;refine⟨t,[],[],[],hk,rfl,rfl,rfl,by simp,by simp,by simp,by simp,fun w A own β' j0 us _ h=>⟨?_,by simp⟩⟩
  cases us with
  |nil=>trivial
  |cons u us=>exact h.elim
 |[],_::_,_,_,_,hk=>by cases hk
 |_::_,[],_,_,_,hk=>by cases hk
 |ct::cts,x::ws,ps,t,K,hk=>by
  unfold ZI at hk;obtain⟨p,ps',QC,Em⟩:=Bw hk;subst QC;rcases Ash Em with⟨c,Ha,hT,hv⟩|⟨es,n,cc,rfl,Ha⟩
  ·obtain⟨t',cs,bs,qs,Wb,hl,Pn,hb,hq1,RT,I6,Pw,V4⟩:=MG Ha;refine⟨t',c::cs,bs,qs.map (fun q=>(q.1,q.2+1)),Wb,by simp[hl],by simp[Pn],by rw[hb];simp,?_,?_,I6,?_,fun w A own β' j0 us hβ ho=>?_⟩
   ·intro q hq;obtain⟨q0,HH,rfl⟩:=List.mem_map.1 hq;exact⟨(hq1 q0 HH).1,by have:=(hq1 q0 HH).2;simp only[List.length_cons];omega⟩
   ·intro q hq q' Iv e;obtain⟨q0,HH,rfl⟩:=List.mem_map.1 hq;obtain⟨q1,Oa,rfl⟩:=List.mem_map.1 Iv;exact RT q0 HH q1 Oa (by simp only at e;omega)
   ·intro y hy i hi;rcases List.mem_cons.1 hy with rfl|hy
    ·rw[Ll hT] at hi;cases hi
    ·exact Pw y hy i hi
   ·cases us with
    |nil=>exact ho.elim
    |cons u us=>
     obtain⟨h1,h2⟩:=V4 w A own β' (j0+1) us (fun q hq=>by rw[hβ _ (List.mem_map_of_mem hq)];congr 1;simp only;omega) ho.2
     exact⟨⟨Aq1 (hv w A _ u ho.1),h1⟩,h2⟩
  ·obtain⟨t',cs,bs,qs,Wb,hl,Pn,hb,hq1,RT,I6,Pw,V4⟩:=MG Ha;refine⟨t',_::cs,(nid N t,.ar false cc)::bs,(nid N t,0)::qs.map (fun q=>(q.1,q.2+1)),Wb,by simp[hl],by simp[Pn],by simp only[List.map_cons,hb];simp,?_,?_,?_,?_,fun w A own β' j0 us hβ ho=>?_⟩
   ·intro q hq;rcases List.mem_cons.1 hq with rfl|hq
    ·exact⟨⟨t,rfl⟩,by simp⟩
    ·obtain⟨q0,HH,rfl⟩:=List.mem_map.1 hq;exact⟨(hq1 q0 HH).1,by have:=(hq1 q0 HH).2;simp only[List.length_cons];omega⟩
   ·intro q hq q' Iv e;rcases List.mem_cons.1 hq with rfl|hq
    ·rcases List.mem_cons.1 Iv with rfl|Iv
     ·rfl
     ·obtain⟨q0,HH,rfl⟩:=List.mem_map.1 Iv;simp only at e;omega
    ·obtain⟨q0,HH,rfl⟩:=List.mem_map.1 hq;rcases List.mem_cons.1 Iv with rfl|Iv
     ·simp only at e;omega
     ·obtain⟨q1,Oa,rfl⟩:=List.mem_map.1 Iv;exact RT q0 HH q1 Oa (by simp only at e;omega)
   ·intro i bx hm;rcases List.mem_cons.1 hm with e|hm
    ·cases e;exact⟨cc,rfl⟩
    ·exact I6 i bx hm
   ·intro y hy i hi;rcases List.mem_cons.1 hy with rfl|hy
    ·simp only[A7,List.mem_singleton] at hi;subst hi;exact⟨_,List.mem_cons_self⟩
    ·obtain⟨bx,Ow⟩:=Pw y hy i hi;exact⟨bx,List.mem_cons_of_mem _ Ow⟩
   ·cases us with
    |nil=>exact ho.elim
    |cons u us=>
     obtain⟨h1,h2⟩:=V4 w A own β' (j0+1) us (fun q hq=>by rw[hβ _ (List.mem_cons_of_mem _ (List.mem_map_of_mem hq))];congr 1;simp only;omega) ho.2
     have h0:=hβ (nid N t,0) List.mem_cons_self;simp only[Nat.add_zero] at h0;refine⟨⟨?_,h1⟩,fun i bx hm=>?_⟩
     ·rcases ho.1 with⟨h3,rfl,_,h5⟩|⟨b,ob,cap,h3,h4,h5,h6,h7,_⟩
      ·exact .inl ⟨h0.trans h3,rfl,rfl,h5⟩
      ·exact .inr ⟨b,ob,ob,cap,h0.trans h3,h4,.inl rfl,h5,h6,h7⟩
     ·rcases List.mem_cons.1 hm with e|hm
      ·cases e;exact JP ho.1 h0
      ·exact h2 i bx hm
def Akn (hp Di:Nat->Option Cb)(bs:List (Nat × Cb)) (x:J9):Prop:=
 match x with
 |.var id off _ ws=>∃c cs,hp id=some (.st c)∧Di id=some (.st (B4 c cs off))∧cs.length=ws.length∧off+cs.length<=c.length∧∀p∈cs,∀i∈A7 p,∃bx,(i,bx)∈bs
 |.row id=>∃c cs,hp id=some (.ar false c)∧Di id=some (.ar false cs)
 |.none=>True
def At1 (β β':Bt)(w':World)(A:Nat->Prop)(hp Di:Nat->Option Cb)(x:J9):Prop:=
 match x with
 |.var id off _ ws=>∃c cs,hp id=some (.st c)∧Di id=some (.st (B4 c cs off))∧cs.length=ws.length∧off+cs.length<=c.length ∧
   ∀b o,β id=some (b,o)->(∀(j:Nat) p,cs[j]?=some p->∃v,w'.cell? ⟨b,o+off+j,none⟩=some v∧Cu w' A β' p v)∧∀j,j<cs.length->w'.frozen? ⟨b,o+off+j,none⟩=false
 |.row id=>∃cs,Di id=some (.ar false cs)∧((β id=none∧cs=[])∨∃b o,β id=some (b,o)∧XP w' A ⟨b,o,none⟩ cs∧∀j,o<=j->j<bsz w' b->w'.frozen? ⟨b,j,none⟩=false)
 |.none=>True
theorem KC {hp Fd Di:Nat->Option Cb}{bs bs1:List (Nat × Cb)} {x:J9}(h1:∀i∈x.ids,Fd i=hp i)(hb:∀q∈bs,q∈bs1)(h:Akn Fd Di bs x):Akn hp Di bs1 x:=by
 cases x with
 |var id off cts ws=>
  obtain⟨c,cs,h2,h3,h4,h5,h6⟩:=h;refine⟨c,cs,by rw[←h1 id (by simp[J9.ids])];exact h2,h3,h4,h5,fun p hp i hi=>?_⟩
  obtain⟨bx,Ow⟩:=h6 p hp i hi;exact⟨bx,hb _ Ow⟩
 |row id=>
  obtain⟨c,cs,h2,h3⟩:=h;exact⟨c,cs,by rw[←h1 id (by simp[J9.ids])];exact h2,h3⟩
 |none=>trivial
theorem PO {hp Fd Di:Nat->Option Cb}{x:J9}(h1:∀i∈x.ids,Fd i=hp i)(h:At1 β β' w' A Fd Di x):At1 β β' w' A hp Di x:=by
 cases x with
 |var id off cts ws=>
  obtain⟨c,cs,h2,h3⟩:=h;exact⟨c,cs,by rw[←h1 id (by simp[J9.ids])];exact h2,h3⟩
 |row id=>exact h
 |none=>trivial
theorem An4 {hp Fd:Nat->Option Cb}{q:Option (Nat × Nat)} {p:PV}{x:J9}(h1:∀i∈x.ids,Fd i=hp i)(h:LOk hp q p x):LOk Fd q p x:=by
 cases x with
 |var id off cts ws'=>
  obtain⟨h2,h3,h5,c,h6,h7⟩:=h;exact⟨h2,h3,h5,c,by rw[h1 id (by simp[J9.ids])];exact h6,h7⟩
 |row id=>
  obtain⟨h2,h3,c,h4⟩:=h;exact⟨h2,h3,c,by rw[h1 id (by simp[J9.ids])];exact h4⟩
 |none=>exact h
theorem JV {hp Fd:Nat->Option Cb}{src:Nat->Nat->Option (Nat × Nat)}:∀{ps:List PV}{i:Nat}{l:List J9},(∀i∈l.flatMap J9.ids,Fd i=hp i)->V1 hp src i ps l->V1 Fd src i ps l
 |[],_,_,_,h=>h
 |p::ps,i,l,hs,h=>by
  rcases h with⟨h1,h2,h3⟩|⟨x,l',rfl,h2,h3⟩
  ·exact .inl ⟨h1,h2,JV hs h3⟩
  ·exact .inr ⟨x,l',rfl,An4 (fun k hk=>hs k (by simp only[List.flatMap_cons,List.mem_append];exact .inl hk)) h2,JV (fun k hk=>hs k (by simp only[List.flatMap_cons,List.mem_append];exact .inr hk)) h3⟩
theorem Ai2 {own:Bt}{bt:OZ}{j i:Nat}{p:PV}{zs:List PV}{r:List (List PV)} (hp:JM p=false)(h:FS w A own bt j i (p::zs) r):FS w A own bt j (i+1) zs r:=by
 cases p<;>first|exact h|cases hp
theorem BT {src:Nat->Nat->Option (Nat × Nat)} {β:Bt}:∀{zs:List PV}{l:List J9}{ro:List (List PV)} {i j t:Nat}{hp:Nat->Option Cb}{K:(Nat->Option Cb)->List (Nat × Cb)->Option R},
  HW N t l ro hp K=some r->V1 hp src i zs l->F7 (l.flatMap J9.ids)=true ->
  ∃Di bs,∃qs:List (Nat × Nat),K Di bs=some r∧bs.map (·.1)=qs.map (·.1)∧(∀q∈qs,(∃k,q.1=nid N k)∧j<=q.2)∧(∀q∈qs,∀q'∈qs,q.2=q'.2->q.1=q'.1)∧(∀i bx,(i,bx)∈bs->∃c,bx=.ar false c) ∧
   (∀i,i ∉ l.flatMap J9.ids->Di i=hp i)∧(∀x∈l,Akn hp Di bs x) ∧
   ∀(w':World) (A:Nat->Prop) (own β':Bt) (bt:OZ),(∀q∈qs,β' q.1=own q.2)->(∀i,bt i 0=(src i 0).bind (Kk β))->FS w' A own bt j i zs ro ->
    (∀i bx,(i,bx)∈bs->Wx w' A β' i bx)∧∀x∈l,At1 β β' w' A hp Di x
 |[],l,ro,i,j,t,hp,K,hk,hL,hn=>by
  have hL:l=[]:=hL;subst hL;unfold HW at hk;obtain⟨rfl,hk⟩:=Ex hk;exact⟨hp,[],[],hk,rfl,by simp,by simp,by simp,fun _ _=>rfl,by simp,fun w' A own β' bt _ _ _=>⟨by simp,by simp⟩⟩
 |p::zs,l0,ro,i,j,t,hp,K,hk,hL0,hn=>by
  rcases hL0 with⟨QM,_,hL⟩|⟨x,l,rfl,hok,hL⟩
  rotate_left
  ··simp only[List.flatMap_cons] at hn;obtain⟨hn1,hn2,hn3⟩:=Mu hn;cases x with
    |var id off cts ws'=>
     obtain⟨rfl,QH,AK,c,hc,EU⟩:=hok;unfold HW at hk;obtain⟨cs,ro',hro,Em⟩:=Bw hk;subst hro;obtain⟨t',cs',bs,qs,Ha,LW,QN,hb,hq1,RT,I6,Pw,hv⟩:=MG Em;rw[hc] at Ha;simp only at Ha;change HW N t' l ro' (Ds hp id (some (.st (B4 c cs' off)))) (fun Di bs'=>K Di (bs++bs'))=some r at Ha
     have Aij:id ∉ l.flatMap J9.ids:=hn3 id (by simp[J9.ids])
     have hL':V1 (Ds hp id (some (.st (B4 c cs' off)))) src (i+1) zs l:=JV (fun k hkm=>Ax _ _ (fun e=>Aij (e ▸ hkm))) hL
     obtain⟨Di,bs',qs',Wb,J0,Oa,Akk,Ajf,Qh,hsh,Acz⟩:=BT (β:=β) (j:=j+cs.length) Ha hL' hn2;have Auq:Di id=some (.st (B4 c cs' off)):=by rw[Qh id Aij,A5]
     have SH:∀x∈l,∀k∈x.ids,Ds hp id (some (.st (B4 c cs' off))) k=hp k:=fun x hx k hkm=>Ax _ _ (fun e=>Aij (e ▸ List.mem_flatMap.2 ⟨x,hx,hkm⟩))
     refine⟨Di,bs++bs',qs.map (fun q=>(q.1,j+q.2))++qs',Wb,by simp only[List.map_append,hb,J0];simp,?_,?_,?_,?_,?_,fun w' A own β' bt hβ GJ ho=>?_⟩
     ·intro q hq;rcases List.mem_append.1 hq with hq|hq
      ·obtain⟨q0,HH,rfl⟩:=List.mem_map.1 hq;exact⟨(hq1 q0 HH).1,by simp only;omega⟩
      ·exact⟨(Oa q hq).1,by have:=(Oa q hq).2;omega⟩
     ·intro q hq q' Iv e;rcases List.mem_append.1 hq with hq|hq
      ·obtain⟨q0,HH,rfl⟩:=List.mem_map.1 hq;have:=(hq1 q0 HH).2;rcases List.mem_append.1 Iv with Iv|Iv
       ·obtain⟨q1,Oa,rfl⟩:=List.mem_map.1 Iv;exact RT q0 HH q1 Oa (by simp only at e;omega)
       ·have:=(Oa q' Iv).2;simp only at e;omega
      ·have h5:=(Oa q hq).2;rcases List.mem_append.1 Iv with Iv|Iv
       ·obtain⟨q1,A6n,rfl⟩:=List.mem_map.1 Iv;have:=(hq1 q1 A6n).2;simp only at e;omega
       ·exact Akk q hq q' Iv e
     ·intro k bx hm;rcases List.mem_append.1 hm with hm|hm
      ·exact I6 k bx hm
      ·exact Ajf k bx hm
     ·intro k hk;simp only[List.flatMap_cons,List.mem_append,not_or] at hk;rw[Qh k hk.2];exact Ax _ _ (by rintro rfl;exact hk.1 (by simp[J9.ids]))
     ·intro x hx;rcases List.mem_cons.1 hx with rfl|hx
      ·refine⟨c,cs',hc,Auq,by omega,by omega,fun p hp k hk=>?_⟩
       obtain⟨bx,Ow⟩:=Pw p hp k hk;exact⟨bx,List.mem_append.2 (.inl Ow)⟩
      ·exact KC (SH x hx) (fun q hq=>List.mem_append.2 (.inr hq)) (hsh x hx)
     ·obtain⟨⟨b,ob,XK,Hw,vs,hov,hcell,YC⟩,ho⟩:=ho
      ·obtain⟨h1,h2⟩:=hv w' A own β' j vs (fun q hq=>hβ _ (List.mem_append.2 (.inl (List.mem_map_of_mem hq)))) hov
       obtain⟨h3,h4⟩:=Acz w' A own β' bt (fun q hq=>hβ q (List.mem_append.2 (.inr hq))) GJ ho
       refine⟨fun k bx hm=>?_,fun x hx=>?_⟩
       ·rcases List.mem_append.1 hm with hm|hm
        ·exact h2 k bx hm
        ·exact h3 k bx hm
       ·rcases List.mem_cons.1 hx with rfl|hx
        ·refine⟨c,cs',hc,Auq,by omega,by omega,fun b1 o1 hβ1=>?_⟩
         have Pw:=GJ i;rw[XK,QH] at Pw;simp only[Option.bind_some,Kk,hβ1,Option.map_some,Option.some.injEq,Prod.mk.injEq] at Pw;obtain⟨rfl,rfl⟩:=Pw;refine⟨fun k p hp=>?_,fun k hk=>YC k (by omega)⟩
         obtain⟨v,hv,hcr⟩:=h1.get hp;exact⟨v,hcell k v hv,hcr⟩
        ·exact PO (SH x hx) (h4 x hx)
    |row id=>
     obtain⟨⟨pz,rfl⟩,QH,c,hc⟩:=hok;unfold HW at hk;obtain⟨cs,ro',hro,Ha⟩:=Bw hk;subst hro;have Aij:id ∉ l.flatMap J9.ids:=hn3 id (by simp[J9.ids])
     have hL':V1 (Ds hp id (some (.ar false cs))) src (i+1) zs l:=JV (fun k hkm=>Ax _ _ (fun e=>Aij (e ▸ hkm))) hL
     obtain⟨Di,bs',qs',Wb,J0,Oa,Akk,Ajf,Qh,hsh,Acz⟩:=BT (β:=β) (j:=j) Ha hL' hn2;have Auq:Di id=some (.ar false cs):=by rw[Qh id Aij,A5]
     have SH:∀x∈l,∀k∈x.ids,Ds hp id (some (.ar false cs)) k=hp k:=fun x hx k hkm=>Ax _ _ (fun e=>Aij (e ▸ List.mem_flatMap.2 ⟨x,hx,hkm⟩))
     refine⟨Di,bs',qs',Wb,J0,Oa,Akk,Ajf,?_,?_,fun w' A own β' bt hβ GJ ho=>?_⟩
     ·intro k hk;simp only[List.flatMap_cons,List.mem_append,not_or] at hk;rw[Qh k hk.2];exact Ax _ _ (by rintro rfl;exact hk.1 (by simp[J9.ids]))
     ·intro x hx;rcases List.mem_cons.1 hx with rfl|hx
      ·exact⟨c,cs,hc,Auq⟩
      ·exact KC (SH x hx) (fun q hq=>hq) (hsh x hx)
     ·obtain⟨Apm,ho⟩:=ho
      ·obtain⟨h3,h4⟩:=Acz w' A own β' bt hβ GJ ho;refine⟨h3,fun x hx=>?_⟩
       rcases List.mem_cons.1 hx with rfl|hx
       ·refine⟨cs,Auq,?_⟩;have Pw:=GJ i;rw[QH] at Pw;simp only[Option.bind_some,Aj2] at Pw;rw[Pw] at Apm;exact Apm
       ·exact PO (SH x hx) (h4 x hx)
    |none=>
     obtain⟨⟨pz,rfl⟩,QH⟩:=hok;unfold HW at hk;obtain⟨cs,ro',hro,Ha⟩:=Bw hk;subst hro;obtain⟨Di,bs',qs',Wb,J0,Oa,Akk,Ajf,Qh,hsh,Acz⟩:=BT (β:=β) (j:=j) Ha hL hn2;refine⟨Di,bs',qs',Wb,J0,Oa,Akk,Ajf,?_,?_,fun w' A own β' bt hβ GJ ho=>?_⟩
     ·intro k hk;simp only[List.flatMap_cons,List.mem_append,not_or] at hk;exact Qh k hk.2
     ·intro x hx;rcases List.mem_cons.1 hx with rfl|hx
      ·trivial
      ·exact hsh x hx
     ·obtain⟨Apm,ho⟩:=ho
      ·obtain⟨h3,h4⟩:=Acz w' A own β' bt hβ GJ ho;refine⟨h3,fun x hx=>?_⟩
       rcases List.mem_cons.1 hx with rfl|hx
       ·trivial
       ·exact h4 x hx
  ·obtain⟨Di,bs',qs',Wb,J0,Oa,Akk,Ajf,Qh,hsh,Acz⟩:=BT (β:=β) (j:=j) hk hL hn;exact⟨Di,bs',qs',Wb,J0,Oa,Akk,Ajf,Qh,hsh,fun w' A own β' bt hβ GJ ho=>Acz w' A own β' bt hβ GJ (Ai2 QM ho)⟩
end
open Go.RowKit
theorem I5 (hp:Nat->Option Cb)(ids:List Nat)(i:Nat):CN hp ids i=if i∈ids then (hp i).map (fun _=>Cb.mv) else hp i:=by
 unfold CN;by_cases hi:i∈ids
 ·have:ids.any (Nat.beq i)=true:=List.any_eq_true.2 ⟨i,hi,Nat.beq_refl i⟩;rw[this,if_pos hi];rfl
 ·have:ids.any (Nat.beq i)=false:=by
   cases hb:ids.any (Nat.beq i)
   ·rfl
   ·obtain⟨j,hj,e⟩:=List.any_eq_true.1 hb;exact absurd (Nat.eq_of_beq_eq_true e ▸ hj) hi
  rw[this,if_neg hi];rfl
theorem Y0:∀{nw:List (Nat × Cb)} {hp:Nat->Option Cb},Cx hp nw=true->(nw.map (·.1)).Nodup
 |[],_,_=>List.nodup_nil
 |(i,b)::r,hp,h=>by
  simp only[Cx,Bool.and_eq_true,Option.isNone_iff_eq_none,Bool.not_eq_true'] at h;simp only[List.map_cons,List.nodup_cons];refine⟨fun hm=>?_,Y0 h.2⟩
  obtain⟨q,hq,e⟩:=List.mem_map.1 hm;have:r.any (fun q=>Nat.beq q.1 i)=true:=List.any_eq_true.2 ⟨q,hq,by rw[e];exact Nat.beq_refl i⟩
  rw[this] at h;cases h.1.2
theorem Asl:∀{l:List (Nat × Nat)},(l.map (·.1)).Nodup->∀q∈l,EX l q.1=some q.2
 |[],_,_,h=>by cases h
 |(j,b)::r,hn,q,hq=>by
  simp only[List.map_cons,List.nodup_cons] at hn;unfold EX;rcases List.mem_cons.1 hq with rfl|hq
  ·simp only[Nat.beq_refl,cond_true]
  ·have:Nat.beq q.1 j=false:=by
    cases hb:Nat.beq q.1 j
    ·rfl
    ·exact absurd (Nat.eq_of_beq_eq_true hb ▸ List.mem_map_of_mem hq) hn.1
   simp only[this,cond_false];exact Asl hn.2 q hq
theorem Ahj:∀{l:List (Nat × Nat)} {i:Nat},i ∉ l.map (·.1)->EX l i=none
 |[],_,_=>rfl
 |(j,b)::r,i,h=>by
  simp only[List.map_cons,List.mem_cons,not_or] at h;unfold EX
  have:Nat.beq i j=false:=by
   cases hb:Nat.beq i j
   ·rfl
   ·exact absurd (Nat.eq_of_beq_eq_true hb) h.1
  simp only[this,cond_false];exact Ahj h.2
section
variable {R:Type} {r:R} {P:Program} {N:Nat} {w0:World} {X0:Gg} {Y:Nat->Prop} {β β':Bt} {s:St} {a:Act} {w w':World} {o:Oper} {A A':Nat->Prop}
theorem Kp.weak (hA:∀b,b<w.heap.size->A' b->A b){q:Option (Nat × Nat)} {p:PV}{u:Value}(h:Kp w A q p u):Kp w A' q p u:=by
 have tr:∀{p:PV},A8 w A p u->A8 w A' p u:=fun h=>h.step (C2.refl _ _) hA
 cases p with
 |own es n c=>
  rcases h with h|⟨b,ob,cap,h1,h2,h3,h4,h5,h6,h7⟩
  ·exact .inl h
  ·exact .inr ⟨b,ob,cap,h1,h2,h3,h4,h5,h6.weak hA,h7⟩
 |_=>exact tr h
theorem H4.weak (hA:∀b,b<w.heap.size->A' b->A b){own:Bt}:∀{ps:List PV}{us:List Value}{j:Nat},H4 w A own j ps us->H4 w A' own j ps us
 |[],[],_,_=>trivial
 |[],_::_,_,h=>h.elim
 |_::_,[],_,h=>h.elim
 |_::_,_::_,_,h=>⟨h.1.weak hA,H4.weak hA h.2⟩
theorem Ag6.weak (hA:∀b,b<w.heap.size->A' b->A b){bt:Bt}{p:PV}{u:Value}(h:Ag6 w A bt p u):Ag6 w A' bt p u:=by
 cases p with
 |pbox ps=>
  obtain⟨b,ob,h1,h2,h3,vs,h4,h5⟩:=h;exact⟨b,ob,h1,h2,h3,vs,h4.weak hA,h5⟩
 |tup ps=>
  obtain⟨es,n,c,h1,h2⟩:=h;exact⟨es,n,c,h1,h2.weak hA⟩
 |agg cs=>
  obtain⟨vs,h1,h2,h3⟩:=h;exact⟨vs,h1,h2,h3.weak hA⟩
 |_=>exact⟨h.1,h.2.weak hA⟩
theorem Qm.weak (hA:∀b,b<w.heap.size->A' b->A b){bt:OZ}:∀{ps:List PV}{us:List Value}{i:Nat},Qm w A bt i ps us->Qm w A' bt i ps us
 |[],[],_,_=>trivial
 |[],_::_,_,h=>h.elim
 |_::_,[],_,h=>h.elim
 |_::_,_::_,_,h=>⟨h.1.weak hA,Qm.weak hA h.2⟩
theorem KA {bt:OZ}(k:Bool):∀{xs:List Operand}{ps:List PV}{i:Nat},Qm w A bt i ps (xs.map a.eval)->Qm w A bt i (N8 k xs ps) (xs.map a.eval)
 |[],[],_,h=>h
 |[],_::_,_,h=>h
 |_::_,[],_,h=>h
 |x::xs,p::ps,i,h=>by
  simp only[List.map_cons] at h ⊢;refine⟨?_,KA k h.2⟩;split
  ·exact⟨.inl trivial,A8.lnil _ _⟩
  ·exact h.1
theorem Ach (k:Bool)(x:Operand)(xs:List Operand)(p:PV)(ps:List PV):∃p',N8 k (x::xs) (p::ps)=p'::N8 k xs ps∧JM p'=JM p∧(JM p=true->p'=p):=by
 refine⟨_,rfl,?_,fun h=>?_⟩
 ·split
  ·rfl
  ·rfl
 ·split
  ·cases h
  ·rfl
theorem Y7 {hp:Nat->Option Cb}{src:Nat->Nat->Option (Nat × Nat)} (k:Bool):∀{xs:List Operand}{ps:List PV}{i:Nat}{l:List J9},V1 hp src i ps l->V1 hp src i (N8 k xs ps) l
 |[],[],_,_,h=>h
 |[],_::_,_,_,h=>h
 |_::_,[],_,_,h=>h
 |x::xs,p::ps,i,l,h=>by
  obtain⟨p',e,h1,h2⟩:=Ach k x xs p ps;rw[e];rcases h with⟨h3,h4,h5⟩|⟨y,l',rfl,h4,h5⟩
  ·exact .inl ⟨by rw[h1];exact h3,h4,Y7 k h5⟩
  ·exact .inr ⟨y,l',rfl,by rw[h2 (Amj h4)];exact h4,Y7 k h5⟩
theorem SY {hp:Nat->Option Cb}{src:Nat->Nat->Option (Nat × Nat)}:∀{ps:List PV}{i:Nat}{l:List J9},V1 hp src i ps l->∀id∈l.flatMap J9.ids,C5 (hp id)∧∃k off,src k 0=some (id,off)
 |[],_,_,h,id,B6=>by
  have h:_=[]:=h;rw[h] at B6;cases B6
 |p::ps,i,l,h,id,B6=>by
  rcases h with⟨_,_,h3⟩|⟨x,l',rfl,h2,h3⟩
  ·exact SY h3 id B6
  ·simp only[List.flatMap_cons,List.mem_append] at B6;rcases B6 with B6|B6
   ·cases x with
    |var id' off cts ws=>
     simp only[J9.ids,List.mem_singleton] at B6;subst B6;obtain⟨_,h4,_,c,h5,_⟩:=h2;exact⟨by rw[h5];trivial,i,_,h4⟩
    |row id'=>
     simp only[J9.ids,List.mem_singleton] at B6;subst B6;obtain⟨_,h4,c,h5⟩:=h2;exact⟨by rw[h5];trivial,i,_,h4⟩
    |none=>simp[J9.ids] at B6
   ·exact SY h3 id B6
theorem Aqk {hp:Nat->Option Cb}{src:Nat->Nat->Option (Nat × Nat)}:∀{ps:List PV}{i:Nat}{l:List J9},V1 hp src i ps l->∀k p id off,ps[k]?=some p->src (i+k) 0=some (id,off) ->
   (∃c ws,hp id=some (.st c)∧p=.pbox ws∧off+ws.length<=c.length)∨((∃c,hp id=some (.ar false c))∧off=0∧∃ws,p=.tup ws)
 |[],_,_,_,k,p,id,off,hp,_=>by simp at hp
 |p::ps,i,l,h,k,p',id,off,Di,hs=>by
  have FW:∃l',V1 hp src (i+1) ps l':=by
   rcases h with⟨_,_,h3⟩|⟨x,l',_,_,h3⟩<;>exact⟨_,h3⟩
  cases k with
  |succ k=>
   obtain⟨l',h'⟩:=FW;exact Aqk h' k p' id off (by simpa using Di) (by rw[show i+1+k=i+(k+1) by omega];exact hs)
  |zero=>
   simp only[List.getElem?_cons_zero,Option.some.injEq] at Di;subst Di;rw[Nat.add_zero] at hs;rcases h with⟨_,h2,_⟩|⟨x,l',_,h2,_⟩
   ·rw[hs] at h2;cases h2
   ·cases x with
    |var id' off' cts ws=>
     obtain⟨h3,h4,_,c,h5,h6⟩:=h2;rw[hs] at h4;cases h4;exact .inl ⟨c,ws,h5,h3,h6⟩
    |row id'=>
     obtain⟨h3,h4,c,h5⟩:=h2;rw[hs] at h4;cases h4;exact .inr ⟨⟨c,h5⟩,rfl,h3⟩
    |none=>
     have:=h2.2;rw[hs] at this;cases this
theorem Ag4 {hp : Nat -> Option Cb} {src : Nat -> Nat -> Option (Nat × Nat)} {id off : Nat} {cts : List CT} {ws : List PV} : ∀ {ps : List PV} {i : Nat} {l : List J9}, V1 hp src i ps l -> J9.var id off cts ws ∈ l ->
      ∃ k, ps[k]? = some (.pbox ws) ∧ src (i + k) 0 = some (id, off)
  | [], _, _, h, hm => by
    have h : _ = [] := h
    rw[h] at hm; cases hm
  | p :: ps, i, l, h, hm => by
    have next : ∀ {l'}, V1 hp src (i + 1) ps l' -> J9.var id off cts ws ∈ l' -> ∃ k, (p :: ps)[k]? = some (.pbox ws) ∧ src (i + k) 0 = some (id, off) := by
      intro l' h' Sm
      obtain⟨k, h1, h2⟩ := Ag4 h' Sm
      exact⟨k + 1, by simpa using h1, by rw[show i + (k + 1) = i + 1 + k by omega]; exact h2⟩
    rcases h with⟨_, _, h3⟩ | ⟨x, l', rfl, h2, h3⟩
    · exact next h3 hm
    · rcases List.mem_cons.1 hm with e | hm
      · subst e
        obtain⟨h1, h4, _⟩ := h2
        subst h1
        exact⟨0, rfl, h4⟩
      · exact next h3 hm
theorem Afc {hp:Nat->Option Cb}{src:Nat->Nat->Option (Nat × Nat)}:∀{ps:List PV}{i:Nat}{l:List J9},V1 hp src i ps l->∀k id off,i<=k->src k 0=some (id,off)->k<i+ps.length->∃p,ps[k-i]?=some p∧JM p=true
 |[],i,_,_,k,id,off,h1,_,h3=>by simp at h3;omega
 |p::ps,i,l,h,k,id,off,h1,h2,h3=>by
  by_cases e:k=i
  ·subst e;rcases h with⟨_,h4,_⟩|⟨x,l',_,h4,_⟩
   ·rw[h2] at h4;cases h4
   ·exact⟨p,by simp,Amj h4⟩
  ·have FW:∃l',V1 hp src (i+1) ps l':=by
    rcases h with⟨_,_,h3⟩|⟨x,l',_,_,h3⟩<;>exact⟨_,h3⟩
   obtain⟨l',h'⟩:=FW;obtain⟨q,h5,h6⟩:=Afc h' k id off (by omega) h2 (by simp at h3;omega)
   refine⟨q,?_,h6⟩;rw[show k-i=(k-(i+1))+1 by omega]
   simpa using h5
theorem Qm.len {bt:OZ}:∀{ps:List PV}{us:List Value}{i:Nat},Qm w A bt i ps us->ps.length=us.length
 |[],[],_,_=>rfl
 |[],_::_,_,h=>h.elim
 |_::_,[],_,h=>h.elim
 |_::_,_::_,_,h=>by simp[Qm.len h.2]
theorem Agf (h:Ch N w0 X0 Y β s a w){G:Xl}(Kg:QA P G w0 X0){C:Kf}{call:Ah}(Dj:∀f args res,call f args=some res->Dl G P f args res){c:Call}{f:FuncId}(ho:o.op=.call c)(hc:c.callee=.value (.func f))
  {K:St->Option R} (hk:MK C P N call s o f c K=some r):
  ∃s',K s'=some r∧∀(next:Act->World->Prop) (Q:Exit->Act->World->Prop),(∀a' w' β',Ch N w0 X0 Y β' s' a' w'->next a' w')->o.wp P a w next Q:=by
 unfold MK at hk;obtain⟨vs0,m,x,l,src,Em,hm,hx,hS,hL,Fo⟩:=Abc h hk;obtain⟨hb,Ha⟩:=A3 Em;simp only[Bool.and_eq_true] at hb;obtain⟨⟨⟨XJ,A3o⟩,hN⟩,Amz⟩:=hb;have hN:0<N:=Nat.lt_of_succ_le (Nat.le_of_ble_eq_true hN);obtain⟨hnl,hnx,hlx⟩:=Mu XJ
 have hml:∀i∈m,i ∉ l.flatMap J9.ids∧i ∉ x:=by
  intro i hi;have:=List.all_eq_true.1 A3o i hi
  have hn:∀k∈l.flatMap J9.ids++x,i≠k:=by
   rintro k hk rfl
   have h2:(l.flatMap J9.ids++x).any (Nat.beq i)=true:=List.any_eq_true.2 ⟨i,hk,Nat.beq_refl i⟩;rw[h2] at this;cases this
  exact⟨fun hq=>hn i (by simp only[List.mem_append];exact .inl hq) rfl,fun hq=>hn i (by simp only[List.mem_append];exact .inr hq) rfl⟩
 replace hL:=Y7 (C.kz f) (xs:=c.args.toList) hL
 replace Fo:=fun fz h1 h2 bt GJ=>KA (a:=a) (C.kz f) (Fo fz h1 h2 bt GJ)
 generalize N8 (C.kz f) c.args.toList vs0=vs at Ha Fo hL;obtain⟨rv,ro,AK,Wb⟩:=Aax Ha;obtain⟨ws,bs,V5,hwl,hnt,RU,hrs,hri,hws⟩:=OB (C.shr f) N Wb;obtain⟨Xd,hk5⟩:=A3 V5;obtain⟨lids,YU⟩:∃lids,l.flatMap J9.ids=lids:=⟨_,rfl⟩;rw[YU] at hS hnl hlx hml;have A6e:∀i,i ∉ x->CN (Ak s.hp m) x i=Ak s.hp m i:=fun i hi=>by rw[I5,if_neg hi]
 have All:∀i,i∈lids->CN (Ak s.hp m) x i=s.hp i:=fun i hi=>by
  rw[A6e i (hlx i hi),Cz,if_neg (fun hq=>(hml i hq).1 hi)]
 have hLM:V1 (CN (Ak s.hp m) x) src 0 vs l:=JV (fun i hi=>All i (YU ▸ hi)) hL
 obtain⟨Di,bs',qs,hk6,hbq,hq1,RT,I6,Qh,hsh,Acz⟩:=BT (β:=β) (j:=S9 rv) hk5 hLM (by rw[YU];exact hnl)
 obtain⟨V8,hk7⟩:=A3 hk6;refine⟨_,hk7,fun next Q hn=>?_⟩
 clear hk Em Ha Wb V5 hk5 hk6 hk7;rw[YU] at Qh;obtain⟨⟨fn,hfn,hfb⟩,hcs⟩:=Dj f vs _ AK;have hf:=h.freeze hm;have Anl:=SY hL;rw[YU] at Anl
 have Abt:∀i,i∈lids∨i∈x->Ak s.hp m i=s.hp i:=by
  intro i hi;rw[Cz,if_neg];intro hq;rcases hi with hi|hi
  ·exact (hml i hq).1 hi
  ·exact (hml i hq).2 hi
 have KU:∀i,i∈lids∨i∈x->C5 (s.hp i):=by
  intro i hi;rcases hi with hi|hi
  ·exact (Anl i hi).1
  ·obtain⟨cc,hcc⟩:=hx i hi;rw[hcc];trivial
 have A8t:∀i j id off,src i j=some (id,off)->id∈lids∨id∈x:=by
  intro i j id off hs;cases j with
  |zero=>exact .inl (hS.lent i id off hs)
  |succ j=>exact .inr (hS.mvd i j id off hs).2
 obtain⟨bt,GJ⟩:∃bt:OZ,∀i j,bt i j=(src i j).bind (Kk β):=⟨_,fun _ _=>rfl⟩
 have btS:∀{i j b ob},bt i j=some (b,ob)->∃id off o',src i j=some (id,off)∧β id=some (b,o')∧ob=o'+off∧(id∈lids∨id∈x):=by
  intro i j b ob hb;rw[GJ] at hb;cases hs:src i j with
  |none=>rw[hs] at hb;cases hb
  |some q=>
   rw[hs] at hb;obtain⟨id,off⟩:=q;simp only[Option.bind_some,Kk] at hb;cases hβ:β id with
   |none=>rw[hβ] at hb;cases hb
   |some p=>
    rw[hβ] at hb;obtain⟨b',o'⟩:=p;simp only[Option.map_some,Option.some.injEq,Prod.mk.injEq] at hb;obtain⟨rfl,rfl⟩:=hb;exact⟨id,off,o',rfl,hβ,rfl,A8t i j id off hs⟩
 have btX:∀{b},BtX bt b->∃id o',β id=some (b,o')∧(id∈lids∨id∈x):=by
  rintro b ⟨i,j,ob,hb⟩
  obtain⟨id,off,o',_,h2,_,h4⟩:=btS hb;exact⟨id,o',h2,h4⟩
 have hBA:∀b,BtX bt b->HZ s.hp β b:=fun b hb=>by
  obtain⟨id,o',h1,h2⟩:=btX hb;exact⟨id,o',KU id h2,h1⟩
 obtain⟨Yc,hYc⟩:∃Yc:Nat->Prop,∀b,Yc b↔((∃id ob,C5 (Ak s.hp m id)∧β id=some (b,ob)∧id ∉ lids∧id ∉ x)∨Y b):=⟨_,fun _=>Iff.rfl⟩
 have Hw:vs.length=c.args.toList.length:=by
  have:=(Fo m (fun _ hi=>hi) hm bt GJ).len
  simpa using this
 have Bdm:Ins w Yc bt vs (c.args.toList.map a.eval):=by
  refine⟨fun b hb=>?_,fun b hb hB=>?_,fun b hB=>?_,fun i j i' j' b ob ob' hb J0=>?_,fun i q hq=>?_,?_⟩
  ·rcases (hYc b).1 hb with⟨id,ob,hl,hβ,_⟩|hY
   ·exact hf.blt id b ob (Dy hl) hβ
   ·exact Nat.lt_of_lt_of_le (h.Ylt b hY) h.fr.step.size
  ·obtain⟨id',o',h1,h2⟩:=btX hB;rcases (hYc b).1 hb with⟨id,ob,hl,hβ,h3,h4⟩|hY
   ·have:=hf.inj id id' b ob o' hl (by show C5 (Ak s.hp m id');rw[Abt id' h2];exact KU id' h2) hβ h1
    subst this;rcases h2 with h2|h2
    ·exact h3 h2
    ·exact h4 h2
   ·exact h.Yx b hY ⟨id',o',KU id' h2,h1⟩
  ·obtain⟨id',o',h1,h2⟩:=btX hB;exact h.blt id' b o' (Dy (KU id' h2)) h1
  ·obtain⟨id,off,o1,h1,h2,_,h4⟩:=btS hb;obtain⟨id',off',o1',ZM,h2',_,h4'⟩:=btS J0;have:=h.inj id id' b o1 o1' (KU id h4) (KU id' h4') h2 h2';subst this;cases j with
   |zero=>
    cases j' with
    |zero=>exact⟨hS.inj0 hnl i i' id off off' h1 ZM,rfl⟩
    |succ j'=>exact absurd (hS.mvd i' j' id off' ZM).2 (hlx id (hS.lent i id off h1))
   |succ j=>
    cases j' with
    |zero=>exact absurd (hS.mvd i j id off h1).2 (hlx id (hS.lent i' id off' ZM))
    |succ j'=>
     obtain⟨h5,h6⟩:=hS.inj1 hnx i i' j j' id off off' h1 ZM;exact⟨h5,by rw[h6]⟩
  ·obtain⟨b,ob⟩:=q;obtain⟨id,off,o',h1,_⟩:=btS hq;obtain⟨p,hp,h2⟩:=Afc hL i id off (Nat.zero_le _) h1 (by have:=hS.dom i 0 _ h1;rw[Hw];exact this.2)
   exact⟨p,by simpa using hp,h2⟩
  ·refine (Fo m (fun _ hi=>hi) hm bt GJ).weak fun b _ hb=>?_
   rcases hb with hb|hb
   ·obtain⟨id',o',h1,h2⟩:=btX hb;exact .inl ⟨id',o',by rw[Abt id' h2];exact KU id' h2,h1⟩
   ·rcases (hYc b).1 hb with⟨id,ob,hl,hβ,_⟩|hY
    ·exact .inl ⟨id,ob,hl,hβ⟩
    ·exact .inr hY
 unfold Oper.wp;rw[JA ho hc Kg.ng hfn hfb];show Calls P f _ w _;have hca:c.args.map a.eval=(c.args.toList.map a.eval).toArray:=by rw[←List.map_toArray,Array.toArray_toList]
 rw[hca];refine (hcs w Yc bt _ Bdm (Kg.fr w h.fr) (fun b x=>⟨Nat.lt_of_lt_of_le (Kg.y b x).1 h.fr.step.size,fun hB=>(h.ownd b (hBA b hB)).elim (Kg.y b x).2 (fun EU=>absurd (Kg.y b x).1 (Nat.not_lt.2 EU))⟩)).mono ?_
 rintro e w' ⟨us,own,rfl,out⟩
 obtain⟨ha1,ha2⟩:=Ck V8;obtain⟨hg1,hg2⟩:=Gp (hp:=Di) ha2;have Ait:=Y0 V8;rw[List.map_append,List.nodup_append] at Ait;obtain⟨Bgk,A6j,Bco⟩:=Ait;rw[hbq] at A6j
 obtain⟨β1,hβ1,hβ2⟩:∃β1:Bt,(∀i,(∃bx,(i,bx)∈bs)->β1 i=own ((i-o.dst.getD N) / N))∧∀i,(¬∃bx,(i,bx)∈bs)->β1 i=match EX qs i with|some j=>own j|none=>β i:=by
  refine⟨fun i=>if (bs.any fun q=>Nat.beq q.1 i)=true then own ((i-o.dst.getD N) / N) else match EX qs i with|some j=>own j|none=>β i,fun i hi=>?_,fun i hi=>?_⟩
  ·show (if _ then _ else _)=_
   rw[if_pos (Ac9.2 hi)]
  ·show (if _ then _ else _)=_
   rw[if_neg (fun hq=>hi (Ac9.1 hq))]
 have hβbs:∀j,(∃bx,(o.dst.getD N+N*j,bx)∈bs)->β1 (o.dst.getD N+N*j)=own (0+j):=by
  intro j hj;rw[hβ1 _ hj,Nat.add_sub_cancel_left,Nat.mul_div_cancel_left _ hN,Nat.zero_add]
 have hqb:∀q∈qs,∃bx,(q.1,bx)∈bs':=by
  intro q hq;have:q.1∈bs'.map (·.1):=by rw[hbq];exact List.mem_map_of_mem hq
  obtain⟨⟨i,bx⟩,hm,e⟩:=List.mem_map.1 this;exact⟨bx,e ▸ hm⟩
 have Bb0:∀i bx,(i,bx)∈bs'->∃j,(i,j)∈qs:=by
  intro i bx hm;have:i∈qs.map (·.1):=by rw[←hbq];exact List.mem_map.2 ⟨_,hm,rfl⟩
  obtain⟨⟨i',j⟩,hm,e⟩:=List.mem_map.1 this;exact⟨j,e ▸ hm⟩
 have hbb:∀i,(∃bx,(i,bx)∈bs')->¬∃bx,(i,bx)∈bs:=by
  rintro i ⟨bx,hm⟩ ⟨bx',Sm⟩
  exact Bco i (List.mem_map.2 ⟨_,Sm,rfl⟩) i (List.mem_map.2 ⟨_,hm,rfl⟩) rfl
 have hβqs:∀q∈qs,β1 q.1=own q.2:=by
  intro q hq;rw[hβ2 q.1 (hbb q.1 (hqb q hq)),Asl A6j q hq]
 have hβold:∀i,Di i≠none->β1 i=β i:=by
  intro i hi
  have hn1:¬∃bx,(i,bx)∈bs:=by
   rintro⟨bx,hm⟩
   exact hi (ha1 i bx (List.mem_append.2 (.inl hm)))
  rw[hβ2 i hn1,Ahj];intro hm;obtain⟨q,hq,e⟩:=List.mem_map.1 hm;obtain⟨bx,Ow⟩:=hqb q hq;exact hi (ha1 i bx (List.mem_append.2 (.inr (e ▸ Ow))))
 obtain⟨V4,hba⟩:=hws w' _ own β1 w.heap.size 0 us hβbs out.vals;obtain⟨Bbq,A7w⟩:=Acz w' _ own β1 bt hβqs (fun i=>GJ i 0) out.outs
 have Az0:∀id∈lids,∃y∈l,id∈y.ids:=by
  intro id B6;rw[←YU] at B6;exact List.mem_flatMap.1 B6
 have Ay6:∀id∈lids,(∃off c cs,s.hp id=some (.st c)∧Di id=some (.st (B4 c cs off))∧off+cs.length<=c.length∧(∀p∈cs,∀i∈A7 p,∃bx,(i,bx)∈bs'))∨∃c cs,s.hp id=some (.ar false c)∧Di id=some (.ar false cs):=by
  intro id B6;obtain⟨y,hy,hyi⟩:=Az0 id B6;have h1:=hsh y hy;cases y with
  |var id' off cts ws'=>
   simp only[J9.ids,List.mem_singleton] at hyi;subst hyi;obtain⟨c1,cs,h2,h3,h4,h5,h6⟩:=h1;rw[All id B6] at h2;exact .inl ⟨off,c1,cs,h2,h3,h5,h6⟩
  |row id'=>
   simp only[J9.ids,List.mem_singleton] at hyi;subst hyi;obtain⟨c1,cs,h2,h3⟩:=h1;rw[All id B6] at h2;exact .inr ⟨c1,cs,h2,h3⟩
  |none=>simp[J9.ids] at hyi
 have Bcn:∀id∈lids,Di id≠none:=by
  intro id B6;rcases Ay6 id B6 with⟨_,_,_,_,h2,_⟩|⟨_,_,_,h2⟩<;>rw[h2]<;>simp
 have hpK:∀id,id ∉ lids->Di id=CN (Ak s.hp m) x id:=fun id B6=>Qh id B6
 have O6:∀i,s.hp i≠none->Di i≠none:=by
  intro i hi;by_cases hl:i∈lids
  ·exact Bcn i hl
  ·rw[hpK i hl,I5];have h1:Ak s.hp m i≠none:=fun e=>hi (F3.1 e)
   split
   ·cases hq:Ak s.hp m i with
    |none=>exact absurd hq h1
    |some b=>simp
   ·exact h1
 have Aw9:∀i,(s.hp i≠none∨∃bx,(i,bx)∈bs++bs')->Bc Di (bs++bs') i≠none:=by
  rintro i (hi|⟨bx,hm⟩)
  ·have h1:=O6 i hi;rw[hg2 i (fun bx hm=>h1 (ha1 i bx hm))]
   exact h1
  ·rw[hg1 i bx hm];simp
 have K0:∀id,(∃bx,(id,bx)∈bs++bs')∨Bc Di (bs++bs') id=Di id:=fun id=>by
  by_cases hx:∃bx,(id,bx)∈bs++bs'
  ·exact .inl hx
  ·exact .inr (hg2 id fun bx hb=>hx ⟨bx,hb⟩)
 have hold:∀id bx,Di id=some bx->C5 (some bx)->C5 (s.hp id)∧id ∉ x∧(id∈lids∨(id ∉ lids∧Ak s.hp m id=some bx)):=by
  intro id bx hb hl;by_cases B6:id∈lids
  ·exact⟨KU id (.inl B6),hlx id B6,.inl B6⟩
  ·rw[hpK id B6,I5] at hb;split at hb
   ·cases hq:Ak s.hp m id with
    |none=>rw[hq] at hb;cases hb
    |some b=>rw[hq] at hb;simp at hb;subst hb;exact hl.elim
   ·rename_i hxn;exact⟨by rw[Nm hb hl];exact hl,hxn,.inr ⟨B6,hb⟩⟩
 have HT:∀i bx,(i,bx)∈bs++bs'->∃j,β1 i=own j∧((i=o.dst.getD N+N*j∧j<S9 rv)∨((i,j)∈qs∧S9 rv<=j)):=by
  intro i bx hm;rcases List.mem_append.1 hm with hm|hm
  ·obtain⟨⟨j,rfl,hj⟩,_⟩:=hba i bx hm;exact⟨j,by rw[hβbs j ⟨bx,hm⟩,Nat.zero_add],.inl ⟨rfl,hj⟩⟩
  ·obtain⟨j,hj⟩:=Bb0 i bx hm;exact⟨j,hβqs _ hj,.inr ⟨hj,(hq1 _ hj).2⟩⟩
 have A1j:∀i bx,(i,bx)∈bs++bs'->C5 (some bx)∧Wx w' (TG bt own Yc) β1 i bx∧∀cs,bx=.st cs->∀b ob,β1 i=some (b,ob)->w.heap.size<=b:=by
  intro i bx hm;rcases List.mem_append.1 hm with hm|hm
  ·exact (hba i bx hm).2
  ·obtain⟨cc,rfl⟩:=I6 i bx hm;exact⟨trivial,Bbq i _ hm,fun cs e=>by cases e⟩
 have A2s:∀b,(∃i k o',bt i (k+1)=some (b,o'))->∃id o',id∈x∧β id=some (b,o'):=by
  rintro b ⟨i,k,o',hb⟩
  obtain⟨id,off,o1,h1,h2,_,_⟩:=btS hb;exact⟨id,o1,(hS.mvd i k id off h1).2,h2⟩
 have hX:∀b,b<w.heap.size->HZ (Bc Di (bs++bs')) β1 b->HZ s.hp β b:=by
  rintro b hb ⟨id,ob,hl,hβ⟩
  rcases K0 id with⟨bx,hm⟩|e
  ·obtain⟨j,hj,_⟩:=HT id bx hm;rw[hj] at hβ;obtain⟨id',o',h1,h2⟩:=A2s b ((out.fresh j b ob hβ).2 hb).1;exact⟨id',o',KU id' (.inr h1),h2⟩
  ·rw[e] at hl;cases hq:Di id with
   |none=>rw[hq] at hl;exact hl.elim
   |some bx=>
    rw[hq] at hl;exact⟨id,ob,(hold id bx hq hl).1,by rw[←hβold id (by rw[hq];simp)];exact hβ⟩
 have hAo:∀b,b<w.heap.size->Du (Bc Di (bs++bs')) β1 Y b->Du s.hp β Y b:=fun b hb hA=>hA.imp (hX b hb) id
 have hAO:∀b,Du (Bc Di (bs++bs')) β1 Y b->TG bt own Yc b:=by
  rintro b (⟨id,ob,hl,hβ⟩|hY)
  ·rcases K0 id with⟨bx,hm⟩|e
   ·obtain⟨j,hj,_⟩:=HT id bx hm;rw[hj] at hβ;exact .inl ⟨j,ob,hβ⟩
   ·rw[e] at hl;cases hq:Di id with
    |none=>rw[hq] at hl;exact hl.elim
    |some bx=>
     rw[hq] at hl;rw[hβold id (by rw[hq];simp)] at hβ
     obtain⟨h1,h2,h3⟩:=hold id bx hq hl;rcases h3 with h3|⟨h3,h4⟩
     ·obtain⟨_,i,off,hs⟩:=Anl id h3;exact .inr (.inl ⟨i,ob+off,by rw[GJ,hs];simp[Kk,hβ]⟩)
     ·exact .inr (.inr ((hYc b).2 (.inl ⟨id,ob,by rw[h4];exact hl,hβ,h3,h2⟩)))
  ·exact .inr (.inr ((hYc b).2 (.inr hY)))
 have G0:C2 (Du s.hp β Y) w w':=out.ext.weaken (fun b _ hb=>.inl (hBA b hb))
 have Azd:∀i,s.hp i≠none->β1 i=β i:=fun i hi=>hβold i (O6 i hi)
 have hCL:∀b j,Aab bt vs b j->∃id o' bx,s.hp id=some bx∧C5 (some bx)∧β id=some (b,o')∧BR bx o' j:=by
  rintro b j ⟨i,p,hp,⟨k,ob,hb,EU⟩|⟨ob,ps,hb,EU,QM⟩⟩
  ·obtain⟨id,off,o',h1,h2,h3,_⟩:=btS hb;obtain⟨h5,h6⟩:=hS.mvd i k id off h1;obtain⟨cc,hcc⟩:=hx id h6;exact⟨id,o',_,hcc,trivial,h2,show o'<=j by omega⟩
  ·obtain⟨id,off,o',h1,h2,h3,_⟩:=btS hb;rcases Aqk hL i p id off hp (by rw[Nat.zero_add];exact h1) with⟨c1,wz,h5,h6,h7⟩|⟨⟨c1,h5⟩,_⟩
   ·rcases QM with⟨h8,h9⟩|h8
    ·rw[h6] at h8;cases h8;exact⟨id,o',_,h5,trivial,h2,show o'<=j∧j<o'+c1.length by omega⟩
    ·rw[h6] at h8;cases h8
   ·exact⟨id,o',_,h5,trivial,h2,show o'<=j by omega⟩
 have hnL:∀id off cts wz,J9.var id off cts wz∈l->id∈lids->∀b ob,β id=some (b,ob)->∀j,(j<off∨off+wz.length<=j)->(∃c1,s.hp id=some (.st c1))->¬Aab bt vs b (ob+j):=by
  rintro id off cts wz hy B6 b ob hβ j hj ⟨c1,hc1⟩ ⟨i,p,hp,⟨k,ob',hb,EU⟩|⟨ob',ps,hb,EU,QM⟩⟩
  ·obtain⟨id',off',o',h1,h2,h3,h4⟩:=btS hb;have:=h.inj id id' b ob o' (KU id (.inl B6)) (KU id' h4) hβ h2;subst this;exact hlx id B6 (hS.mvd i k id off' h1).2
  ·obtain⟨id',off',o',h1,h2,h3,h4⟩:=btS hb;have:=h.inj id id' b ob o' (KU id (.inl B6)) (KU id' h4) hβ h2;subst this;rw[hβ] at h2;cases h2;obtain⟨k,Em,Ha⟩:=Ag4 hL hy;rw[Nat.zero_add] at Ha;have hik:=hS.inj0 hnl i k id off' off h1 Ha;subst hik;rw[h1] at Ha;cases Ha;rw[hp] at Em;cases Em;rcases QM with⟨h8,h9⟩|h8
   ·cases h8;omega
   ·cases h8
 have hval:Et w' (Du (Bc Di (bs++bs')) β1 Y) β1 (Ud ws (Vh P o.type)) (M2 us):=by
  have Y9:B8 (I7 w' (Du (Bc Di (bs++bs')) β1 Y) β1) ws us:=V4.mono fun v u hvu=>hvu.step (C2.refl _ _) (fun b _=>hAO b) (fun _ _=>rfl)
  have Hw:=Y9.len;cases hT:Vh P o.type
  ·rw[hT] at Xd;have h1:ws.length=1:=Nat.eq_of_beq_eq_true Xd
   match ws,us,h1,Hw with
   |[v],[u],_,_=>
    exact (Si (hnt v (by simp))).2 Y9.1
  ·rw[hT] at Xd
   have h1:¬ws.length=1:=by
    intro e;rw[e] at Xd;cases Xd
   have hr:M2 us=.tuple ⟨us⟩:=by
    unfold M2;split
    ·simp at Hw;omega
    ·rfl
   rw[hr];exact⟨us,rfl,Y9⟩
 have hvr:∀i∈Cm (Ud ws (Vh P o.type)),∃bx,(i,bx)∈bs:=by
  intro i hi;cases hT:Vh P o.type
  ·rw[hT] at Xd hi;have h1:ws.length=1:=Nat.eq_of_beq_eq_true Xd
   match ws,h1 with
   |[v],_=>
    refine hrs v (by simp) i ?_
    have:Cm v=Cw v:=by
     have hn:=hnt v (by simp)
     cases v<;>first|rfl|exact absurd rfl (hn _)
    rw[←this];exact hi
  ·rw[hT] at hi;obtain⟨v,hv,hi⟩:=List.mem_flatMap.1 (show i∈ws.flatMap Cw from hi)
   exact hrs v hv i hi
 refine hn _ w' β1 ?_;refine⟨by rw[K4];exact h.dfr,by rw[Ih];exact h.tsz,Ac7 Amz h.tmo,?_,?_,?_,?_,?_,?_,?_,?_,?_,?_,?_,h.Ylt,?_⟩
 ·refine Vo (Q:=fun _ p u=>Et w' (Du (Bc Di (bs++bs')) β1 Y) β1 p u) h.tsz Amz (fun i hi=>?_) (fun _=>hval)
  exact (h.tms i hi).step G0 hAo fun id B6=>Azd id (h.wfT i hi id B6)
 ·intro id bx hb;simp only at hb;rcases K0 id with⟨bx',Sm⟩|e
  ·rw[hg1 id bx' Sm] at hb;cases hb;exact (A1j id _ Sm).2.1.step' hAO
  ·rw[e] at hb;have hβ:=hβold id (by rw[hb];simp)
   by_cases B6:id∈lids
   ·obtain⟨y,hy,hyi⟩:=Az0 id B6;have h1:=A7w y hy;cases y with
    |var id' off cts wz=>
     simp only[J9.ids,List.mem_singleton] at hyi;subst hyi;obtain⟨c1,cs,h2,h3,h4,h5,h6⟩:=h1;rw[All id B6] at h2;rw[h3] at hb;cases hb;obtain⟨b,ob,h7,h8,h9⟩:=h.box id _ h2;obtain⟨h10,h11⟩:=h6 b ob h7;have Cq:=h.blt id b ob (by rw[h2];simp) h7
     have Zt:∀j,(j<off∨off+wz.length<=j)->w'.cell? ⟨b,ob+j,none⟩=w.cell? ⟨b,ob+j,none⟩∧w'.frozen? ⟨b,ob+j,none⟩=w.frozen? ⟨b,ob+j,none⟩:=
      fun j hj=>out.rng b (ob+j) Cq (hnL id off cts wz hy B6 b ob h7 j hj ⟨c1,h2⟩)
     refine⟨b,ob,hβ.trans h7,fun j p hj=>?_,fun j hj=>?_⟩
     ·rcases Yw (by omega) hj with⟨h12,h13,h14⟩|⟨h12,h14⟩
      ·obtain⟨v,hv,hcr⟩:=h10 _ _ h14;refine⟨v,?_,hcr.step (C2.refl _ _) (fun b _=>hAO b) (fun _ _=>rfl)⟩
       rw[show ob+j=ob+off+(j-off) by omega]
       exact hv
      ·obtain⟨v,hv,hcr⟩:=h8 _ _ h14;refine⟨v,by rw[(Zt j (by omega)).1];exact hv,hcr.step G0 hAo fun i hi=>Azd i (h.wfB id c1 h2 p (List.mem_of_getElem? h14) i hi)⟩
     ·rw[X5 (by omega)] at hj
      by_cases DY:off<=j∧j<off+cs.length
      ·have:=h11 (j-off) (by omega)
       rw[show ob+off+(j-off)=ob+j by omega] at this
       exact this
      ·rw[(Zt j (by omega)).2]
       exact h9 j hj
    |row id'=>
     simp only[J9.ids,List.mem_singleton] at hyi;subst hyi;obtain⟨cs,h3,h4⟩:=h1;rw[h3] at hb;cases hb;rcases h4 with⟨h5,h6⟩|⟨b,ob,h5,h6,h7⟩
     ·exact .inl ⟨hβ.trans h5,h6⟩
     ·exact .inr ⟨b,ob,hβ.trans h5,h6.weak (fun b _=>hAO b),fun _=>h7,(fun q=>by cases q)⟩
    |none=>simp[J9.ids] at hyi
   ·rw[hpK id B6,I5] at hb;split at hb
    ·cases hq:Ak s.hp m id with
     |none=>rw[hq] at hb;cases hb
     |some b0=>rw[hq] at hb;simp at hb;subst hb;trivial
    ·rename_i hxn;have Ow:=hf.box id bx hb
     have Avt:∀b ob,β id=some (b,ob)->bx ≠ .mv->b<w.heap.size∧w'.heap[b]?=w.heap[b]?:=by
      intro b ob XK hmv;have Cq:=hf.blt id b ob (by show Ak s.hp m id≠none;rw[hb];simp) XK
      refine⟨Cq,out.ext.keep b Cq fun hB=>?_⟩
      obtain⟨id',o',h1,h2⟩:=btX hB;have Pn:C5 (Ak s.hp m id'):=by rw[Abt id' h2];exact KU id' h2
      have hno:id≠id':=by
       rintro rfl
       rcases h2 with h2|h2
       ·exact B6 h2
       ·exact hxn h2
      cases bx with
      |st cc=>exact hno (hf.inj id id' b ob o' (by show C5 (Ak s.hp m id);rw[hb];trivial) Pn XK h1)
      |ar fz cc=>
       cases fz with
       |false=>exact hno (hf.inj id id' b ob o' (by show C5 (Ak s.hp m id);rw[hb];trivial) Pn XK h1)
       |true=>
        rcases Ow with⟨h3,_⟩|⟨b2,o2,h3,_,_,h4⟩
        ·rw[XK] at h3;cases h3
        ·rw[XK] at h3;cases h3;exact h4 rfl (.inl ⟨id',o',Pn,h1⟩)
      |mv=>exact hmv rfl
     have hAoF:∀b,b<w.heap.size->Du (Bc Di (bs++bs')) β1 Y b->Du (Ak s.hp m) β Y b:=by
      intro b I6 hA;rcases hA with⟨i,ob,hl,hβi⟩|hY
      ·rcases K0 i with⟨bx1,VP⟩|e1
       ·obtain⟨j,hj,_⟩:=HT i bx1 VP;rw[hj] at hβi;obtain⟨id',o',h1,h2⟩:=A2s b ((out.fresh j b ob hβi).2 I6).1;exact .inl ⟨id',o',by rw[Abt id' (.inr h1)];exact KU id' (.inr h1),h2⟩
       ·rw[e1] at hl;cases hq:Di i with
        |none=>rw[hq] at hl;exact hl.elim
        |some bx1=>
         rw[hq] at hl;rw[hβold i (by rw[hq];simp)] at hβi
         obtain⟨h1,h2,h3⟩:=hold i bx1 hq hl;rcases h3 with h3|⟨h3,h4⟩
         ·exact .inl ⟨i,ob,by rw[Abt i (.inl h3)];exact h1,hβi⟩
         ·exact .inl ⟨i,ob,by rw[h4];exact hl,hβi⟩
      ·exact .inr hY
     have A8d:C2 (Du (Ak s.hp m) β Y) w w':=out.ext.weaken (fun b _ hB=>by
      obtain⟨id',o',h1,h2⟩:=btX hB;exact .inl ⟨id',o',by rw[Abt id' h2];exact KU id' h2,h1⟩)
     cases bx with
     |st cc=>
      obtain⟨b,ob,h1,h2,h3⟩:=Ow;obtain⟨Cq,IE⟩:=Avt b ob h1 (by simp)
      refine⟨b,ob,hβ.trans h1,fun j p hj=>?_,fun j hj=>?_⟩
      ·obtain⟨v,hv,hcr⟩:=h2 j p hj;refine⟨v,by rw[World.cell?_of_block (w:=w) IE];exact hv,hcr.step A8d hAoF fun i hi=>?_⟩
       refine Azd i (fun e1=>?_)
       exact hf.wfB id cc hb p (List.mem_of_getElem? hj) i hi (F3.2 e1)
      ·rw[World.frozen?_of_block (w:=w) IE];exact h3 j hj
     |ar fz cc=>
      rcases Ow with⟨h1,h2⟩|⟨b,ob,h1,h2,h3,h4⟩
      ·exact .inl ⟨hβ.trans h1,h2⟩
      ·obtain⟨Cq,IE⟩:=Avt b ob h1 (by simp)
       have UL:bsz w' b=bsz w b:=by unfold bsz;rw[IE]
       refine .inr ⟨b,ob,hβ.trans h1,fun j p hj=>?_,fun e1 j hj AE=>?_,fun e1 q=>h4 e1 (hAoF b Cq q)⟩
       ·obtain⟨v,hv,h5,hc1⟩:=h2 j p hj;exact⟨v,by rw[World.cell?_of_block (w:=w) (by rw[H6];exact IE)];exact hv,h5,hc1.step A8d hAoF⟩
       ·rw[World.frozen?_of_block (w:=w) IE];exact h3 e1 j hj (by rw[←UL];exact AE)
     |mv=>trivial
 ·intro id id' b ob ob' hl Pn hb J0;simp only at hl Pn
  have mixed:∀i bx i' k z,(i,bx)∈bs++bs'->β1 i=some (k,z)->Di i'≠none->C5 (Di i')->∀z',β1 i'=some (k,z')->False:=by
   intro i bx i' k z VP hz hn1 LW z' hz';obtain⟨j,hj,_⟩:=HT i bx VP;rw[hj] at hz;rw[hβold i' hn1] at hz';cases hq:Di i' with
   |none=>exact hn1 hq
   |some bx1=>
    rw[hq] at LW;obtain⟨h1,h2,h3⟩:=hold i' bx1 hq LW;have Cq:=h.blt i' k z' (Dy h1) hz';obtain⟨id2,o2,h4,h5⟩:=A2s k ((out.fresh j k z hz).2 Cq).1;have:=h.inj i' id2 k z' o2 h1 (KU id2 (.inr h4)) hz' h5;subst this;exact h2 h4
  rcases K0 id with⟨bx,VP⟩|e1
  ·rcases K0 id' with⟨bx',hm2⟩|e2
   ·obtain⟨j,hj,QM⟩:=HT id bx VP;obtain⟨j',AE,A75⟩:=HT id' bx' hm2;rw[hj] at hb;rw[AE] at J0;have:=out.inj j j' b ob ob' hb J0;subst this;rcases QM with⟨h1,h2⟩|⟨h1,h2⟩
    ·rcases A75 with⟨h3,_⟩|⟨_,h4⟩
     ·rw[h1,h3]
     ·omega
    ·rcases A75 with⟨_,h4⟩|⟨h3,_⟩
     ·omega
     ·exact RT _ h1 _ h3 rfl
   ·rw[e2] at Pn;exact (mixed id bx id' b ob VP hb (Dy Pn) Pn ob' J0).elim
  ·rw[e1] at hl;rcases K0 id' with⟨bx',hm2⟩|e2
   ·exact (mixed id' bx' id b ob' hm2 J0 (Dy hl) hl ob hb).elim
   ·rw[e2] at Pn
    have g:∀i,C5 (Di i)->C5 (s.hp i)∧β1 i=β i:=by
     intro i hli;cases hq:Di i with
     |none=>rw[hq] at hli;exact hli.elim
     |some bx1=>exact⟨(hold i bx1 hq (by rw[←hq];exact hli)).1,hβold i (by rw[hq];simp)⟩
    rw[(g id hl).2] at hb;rw[(g id' Pn).2] at J0;exact h.inj id id' b ob ob' (g id hl).1 (g id' Pn).1 hb J0
 ·intro id b ob hn1 hb;simp only at hn1;rcases K0 id with⟨bx,VP⟩|e1
  ·obtain⟨j,hj,_⟩:=HT id bx VP;rw[hj] at hb;exact (out.fresh j b ob hb).1
  ·rw[e1] at hn1;rw[hβold id hn1] at hb
   have hn2:s.hp id≠none:=by
    by_cases B6:id∈lids
    ·exact Dy (KU id (.inl B6))
    ·rw[hpK id B6,I5] at hn1;intro e2;have h1:Ak s.hp m id=none:=F3.2 e2;rw[h1] at hn1;split at hn1<;>exact hn1 rfl
   exact Nat.lt_of_lt_of_le (h.blt id b ob hn2 hb) out.ext.size
 ·have:=Vo (Q:=fun _ p _=>∀id∈Cm p,Bc Di (bs++bs') id≠none) (val:=M2 us) (d:=o.dst) (v:=Ud ws (Vh P o.type)) h.tsz Amz (fun i hi id B6=>Aw9 id (.inl (h.wfT i hi id B6))) (fun _ id B6=>Aw9 id (.inr (by
   obtain⟨bx,hb⟩:=hvr id B6;exact⟨bx,List.mem_append.2 (.inl hb)⟩)))
  exact this
 ·intro id cells Acj p hp i hi;simp only at Acj;refine Aw9 i ?_;rcases K0 id with⟨bx,VP⟩|e1
  ·rw[hg1 id bx VP] at Acj;cases Acj;rcases List.mem_append.1 VP with VP|VP
   ·obtain⟨bx1,hb⟩:=hri id cells VP p hp i hi;exact .inr ⟨bx1,List.mem_append.2 (.inl hb)⟩
   ·obtain⟨cc,e2⟩:=I6 id _ VP;cases e2
  ·rw[e1] at Acj;by_cases B6:id∈lids
   ·rcases Ay6 id B6 with⟨off,c1,cs,h1,h2,h3,h4⟩|⟨c1,cs,h1,h2⟩
    ·rw[h2] at Acj;cases Acj;unfold B4 at hp;rcases List.mem_append.1 hp with hp|hp
     ·rcases List.mem_append.1 hp with hp|hp
      ·exact .inl (h.wfB id c1 h1 p (List.mem_of_mem_take hp) i hi)
      ·obtain⟨bx1,hb⟩:=h4 p hp i hi;exact .inr ⟨bx1,List.mem_append.2 (.inr hb)⟩
     ·exact .inl (h.wfB id c1 h1 p (List.mem_of_mem_drop hp) i hi)
    ·rw[h2] at Acj;cases Acj
   ·obtain⟨_,_,h3⟩:=hold id _ Acj trivial;rcases h3 with h3|⟨_,h3⟩
    ·exact absurd h3 B6
    ·exact .inl (h.wfB id cells (Nm h3 trivial) p hp i hi)
 ·rintro b ⟨id,ob,hl,hβ⟩
  rcases Nat.lt_or_ge b w.heap.size with Cq|hge
  ·exact h.ownd b (hX b Cq ⟨id,ob,hl,hβ⟩)
  ·exact .inr (Nat.le_trans h.fr.step.size hge)
 ·intro id bx b ob hb hl hβ Cq j hj;simp only at hb;have hlw:=Nat.lt_of_lt_of_le Cq h.fr.step.size;rcases K0 id with⟨bx',VP⟩|e1
  ·rw[hg1 id bx' VP] at hb;cases hb;obtain⟨k,hk,_⟩:=HT id bx VP;rw[hk] at hβ
   have EU:ob<=j:=by
    cases bx with
    |st cc=>exact hj.1
    |ar fz cc=>exact hj
    |mv=>exact hl.elim
   obtain⟨id2,o2,bx2,h1,h2,h3,h4⟩:=hCL b j (((out.fresh k b ob hβ).2 hlw).2 j EU);exact h.rngB id2 bx2 b o2 h1 h2 h3 Cq j h4
  ·rw[e1] at hb;rw[hβold id (by rw[hb];simp)] at hβ
   obtain⟨h1,h2,h3⟩:=hold id bx hb hl;rcases h3 with h3|⟨h3,h4⟩
   ·rcases Ay6 id h3 with⟨off,c1,cs,h5,h6,h7,_⟩|⟨c1,cs,h5,h6⟩
    ·rw[h6] at hb;cases hb;have hj:ob<=j∧j<ob+(B4 c1 cs off).length:=hj;rw[X5 (by omega)] at hj
     exact h.rngB id _ b ob h5 trivial hβ Cq j hj
    ·rw[h6] at hb;cases hb;exact h.rngB id _ b ob h5 trivial hβ Cq j hj
   ·exact h.rngB id bx b ob (Nm h4 hl) hl hβ Cq j hj
 ·intro i hi;obtain⟨h1,h2⟩:=h.pin i hi;exact⟨Aw9 _ (.inl h1),by rw[Azd _ h1];exact h2⟩
 ·intro id cc b ob hb hβ Cq;simp only at hb;have hlw:=Nat.lt_of_lt_of_le Cq h.fr.step.size;rcases K0 id with⟨bx',VP⟩|e1
  ·rw[hg1 id bx' VP] at hb;cases hb;have:=(A1j id _ VP).2.2 cc rfl b ob hβ;omega
  ·rw[e1] at hb;rw[hβold id (by rw[hb];simp)] at hβ
   obtain⟨h1,h2,h3⟩:=hold id _ hb trivial;rcases h3 with h3|⟨h3,h4⟩
   ·rcases Ay6 id h3 with⟨off,c1,cs,h5,h6,h7,_⟩|⟨c1,cs,h5,h6⟩
    ·exact h.stp id c1 b ob h5 hβ Cq
    ·rw[h6] at hb;cases hb
   ·exact h.stp id cc b ob (Nm h4 trivial) hβ Cq
 ·intro b hY hXb;exact h.Yx b hY (hX b (Nat.lt_of_lt_of_le (h.Ylt b hY) h.fr.step.size) hXb)
 ·refine⟨out.os.trans h.fr.os,out.tape.trans h.fr.tape,out.output.trans h.fr.output,⟨Nat.le_trans h.fr.step.size out.ext.size,fun b hb hnX=>?_,fun b hb=>Nat.le_trans (h.fr.step.bs b hb) (out.ext.bs b (Nat.lt_of_lt_of_le hb h.fr.step.size))⟩,fun b j hb hnL=>?_⟩
  ·rw[out.ext.keep b (Nat.lt_of_lt_of_le hb h.fr.step.size) ?_]
   ·exact h.fr.step.keep b hb hnX
   ·intro hB;rcases h.ownd b (hBA b hB) with hq|hq
    ·exact hnX hq
    ·omega
  ·have hno:¬Aab bt vs b j:=by
    intro hq;obtain⟨id2,o2,bx2,h1,h2,h3,h4⟩:=hCL b j hq;exact hnL (h.rngB id2 bx2 b o2 h1 h2 h3 hb j h4)
   obtain⟨h1,h2⟩:=out.rng b j (Nat.lt_of_lt_of_le hb h.fr.step.size) hno;rw[h1,h2];exact h.fr.rng b j hb hnL
end
open Go.RowKit
section
variable {R:Type} {r:R} {P:Program} {N:Nat} {w0:World} {X0:Gg} {Y:Nat->Prop} {β β':Bt} {s:St} {a:Act} {w w':World} {o:Oper} {A:Nat->Prop}
theorem Acm (h:Ch N w0 X0 Y β s a w){c:Call}(ho:o.op=.call c)(hc:c.callee=.builtin .append){d:Nat}(Amz:o.dst=some d){b x:Operand}(Fo:c.args.toList=[b,x]) {t tx:TypeId}{ts:List TypeId}(QI:c.argTypes.toList=t::tx::ts)
  {K:St->Option R} (hk:Un P N s d t tx (C8 s.tm b) (C8 s.tm x) K=some r):
  ∃s',K s'=some r∧∀(next:Act->World->Prop) (Q:Exit->Act->World->Prop),(∀a' w' β',Ch N w0 X0 Y β' s' a' w'->next a' w')->o.wp P a w next Q:=by
 have WM:c.args = #[b,x]:=by
  have:c.args=([b,x]:List Operand).toArray:=by rw[←Fo]
  exact this
 have Aeo:c.argTypes=(t::tx::ts).toArray:=by rw[←QI]
 have run:∀{v:Value} {w1:World},(Builtin.append_ (t::tx::ts).toArray o.type #[a.eval b,a.eval x]).run P w=.ok v w1->∀(next:Act->World->Prop) (Q:Exit->Act->World->Prop),next (a.put (some d) v) w1->o.wp P a w next Q:=by
  intro v w1 hr next Q hn;unfold Oper.wp execOp;rw[ho];simp only[resolve,hc,invoke,builtin,Sem.run_bind,Sem.run_pure,Result.andThen_ok,WM,Aeo];have:(#[b,x]:Array Operand).map a.eval = #[a.eval b,a.eval x]:=by simp
  rw[this,hr];show next (a.put o.dst v) w1;rw[Amz];exact hn
 have hbv:=Ec h b;have hbr:=Hp h b;unfold Un at hk;split at hk
 ·rename_i e hu;obtain⟨hzi,hk⟩:=A3 hk;obtain⟨i,z,hi,hz,hzs,Mo⟩:=UR hzi;cases hit:LR P tx
  rotate_left
  ·rw[hit] at hk;simp only[cond_true] at hk
   obtain⟨ki,htx⟩:∃k,P.underlying tx=some (.int k):=by
    unfold LR at hit;split at hit
    ·exact⟨_,by assumption⟩
    ·cases hit
   unfold BC at hk;obtain⟨kx,n,hx,hk⟩:=Eo hk;obtain⟨zz,n',c',hk,hp⟩:=Ik hk;obtain⟨hb,hk⟩:=A3 hk;simp only[Bool.and_eq_true,decide_eq_true_eq] at hb;obtain⟨⟨⟨⟨⟨hzz,hdN⟩,ID⟩,SA⟩,hby⟩,hnm⟩:=hb;have hdN:d<N:=Nat.lt_of_succ_le (Nat.le_of_ble_eq_true hdN);have ID:s.hp d=none:=by simpa using ID
   have Aiq:Jh N (some d)=true:=by simp[Jh,Nat.blt];omega
   have BF:((P.info? e).map (·.bytes)).getD 0=i.bytes:=by rw[hi];rfl
   rw[BF] at hby;rw[Mo] at hk;have El:=Dv h hx;rcases slice_form hp hbv with⟨V8,_⟩|⟨_,_,_,UH,_⟩|⟨_,_,_,UH,_⟩
   ·refine⟨_,hk,fun next Q hn=>?_⟩
    by_cases hm0:n=0
    ·subst hm0;have hr:=MS (P:=P) (w:=w) (t:=t) (tx:=tx) (ty:=o.type) (ts:=ts) (kx:=kx) hu htx hi;rw[←V8,←El] at hr;refine run hr next Q (hn _ _ (Ds β d none) ?_);rw[V8];refine h.stepR (d:=some d) (nw:=[(d,.ar false [])]) (β':=Ds β d none) Aiq (by simp[Cx,ID]) ⟨rfl,rfl,rfl,C2.refl _ _,fun j hj=>Ax _ _ (by rintro rfl;exact hj ID),?_,?_,?_,?_,?_,.inl ⟨A5 _ _ _,rfl,rfl,none,rfl⟩,?_⟩
     ·intro j bx hm;simp at hm;rw[hm.2];trivial
     ·intro j bx hm;simp at hm;obtain⟨rfl,rfl⟩:=hm;exact .inl ⟨A5 _ _ _,rfl⟩
     ·intro j bx k q hm hq;simp at hm;obtain⟨rfl,rfl⟩:=hm;rw[A5] at hq;cases hq
     ·intro j bx j' bx' k q q' hm Sm _ _;simp at hm Sm;rw[hm.1,Sm.1]
     ·intro j cells hm;simp at hm
     ·intro j hj;simp[Cm,Cw,A7] at hj;subst hj;exact .inr ⟨.ar false [],by simp⟩
    ·have hr:=RE (P:=P) (w:=w) (t:=t) (tx:=tx) (ty:=o.type) (ts:=ts) (kx:=kx) hu htx hi hz (n:=n) (by omega) hby hnm
     rw[←V8,←El] at hr;refine run hr next Q (hn _ _ (Ds β d (some (w.heap.size,0))) ?_);have hge:n.toNat<=grownCap w n.toNat 0 e:=grownCap_ge w n.toNat 0 e;generalize hcs:((if n.toNat*i.size=0 then #[] else Builtin.zeroCells z.cells n.toNat)++Builtin.zeroCells z.cells (grownCap w n.toNat 0 e-n.toNat))=cs
     have GT:Jk w (w.drew.alloc (.cells cs e)) cs e:=
      ⟨rfl,rfl,rfl,fun k hk=>Below.heap_alloc w.drew _ k hk,by show (w.heap.push _).size=_;simp,(0,0),by show (w.heap.push _)[w.heap.size]?=_;simp,.inl rfl⟩
     have Akf:cs.size=grownCap w n.toNat 0 e*i.size:=by
      rw[←hcs];by_cases TH:n.toNat*i.size=0
      ·rw[if_pos TH]
       have hi0:i.size=0:=by
        rcases Nat.mul_eq_zero.1 TH with h|h
        ·omega
        ·exact h
       simp[size_zeroCells,hzs,hi0]
      ·rw[if_neg TH];simp only[Array.size_append,size_zeroCells,hzs,←Nat.add_mul]
       congr 1
       omega
     refine h.stepR (d:=some d) (nw:=[(d,.ar false [])]) Aiq (by simp[Cx,ID]) (Wg GT ID trivial ?_ (fun cells hx=>by cases hx) ?_ (by intro j hj;simp[Cm,Cw,A7] at hj;exact .inr hj))
     ·refine .inr ⟨w.heap.size,0,A5 _ _ _,fun j p hj=>by simp at hj,fun _ j _ hj=>?_,(fun q=>by cases q)⟩
      rw[GT.bsz] at hj;exact GT.frozen hj
     ·refine .inr ⟨w.heap.size,0,0,grownCap w n.toNat 0 e,A5 _ _ _,rfl,.inl rfl,hge,?_,by rw[GT.size];omega⟩
      rw[GT.bsz,Akf];omega
   ·rw[UH] at hzz;cases hzz
   ·rw[UH] at hzz;cases hzz
  rw[hit] at hk;simp only[cond_false] at hk;have BF:((P.info? e).map (·.bytes)).getD 0=i.bytes:=by rw[hi];rfl
  obtain⟨⟨dx,hdx,Ahv⟩,m,new,news,hk,hs⟩:=SS h hk (by
   intro m new hk;split at hk
   ·split at hk
    ·obtain⟨hb,_⟩:=A3 hk;simp only[Bool.and_eq_true,decide_eq_true_eq] at hb;have he:=Nat.eq_of_beq_eq_true hb.1.1.1.1.1.1.1;rw[←he];exact hb.1.1.2
    ·cases hk
   ·obtain⟨zz,n',c',hk,_⟩:=Ik hk;obtain⟨hb,_⟩:=A3 hk;simp only[Bool.and_eq_true,decide_eq_true_eq] at hb;exact hb.1.1.2)
  rw[Mo] at hs;have hnl:new.length=news.length:=hs.rep.len;split at hk
  ·rename_i id es off n eb;rw[eb] at hbv hbr;split at hk
   ·rename_i cc h0;obtain⟨hb,Ha⟩:=A3 hk;simp only[Bool.and_eq_true,decide_eq_true_eq] at hb;obtain⟨⟨⟨⟨⟨⟨⟨ON,V6⟩,hdN⟩,ID⟩,Bdg⟩,Al2⟩,hby⟩,hnm⟩:=hb;have ON:=Nat.eq_of_beq_eq_true ON;have V6:=Nat.eq_of_beq_eq_true V6;have hdN:d<N:=Nat.lt_of_succ_le (Nat.le_of_ble_eq_true hdN);have ID:s.hp d=none:=by simpa using ID
    subst V6;rw[Mo] at ON;subst ON;rw[BF] at hby;have OK:news.length=m*i.size:=by omega
    have Bgb:s.hp id≠none:=by rw[h0];simp
    have Apy:=h.box id _ h0;refine⟨_,Ha,fun next Q hn=>?_⟩
    have grow:∀(ad:Option Addr) (cap:Nat) (olds:List Value),a.eval b=.slice ad n cap->B8 (A8 w (Du s.hp β Y)) (cc.take (n*i.size)) olds->(∀u∈olds,u.oneCell'=true)->olds.length=n*i.size ->
      ((ad=none∧olds=[])∨∃p,ad=some p∧olds.length=n*i.size∧∀(j:Nat) v,olds[j]?=some v->w.cell? (p.add j)=some v)->cap<n+m->o.wp P a w next Q:=by
     intro ad cap olds V8 holds h1 hol hold RM;have hr:=Ra (P:=P) (w:=w) (t:=t) (tx:=tx) (ty:=o.type) (ts:=ts) hu hdx Ahv hi hz hs hold RM hby hnm;rw[←V8] at hr;refine run hr next Q (hn _ _ (Ds β d (some (w.heap.size,0))) ?_);have hge:n+m<=grownCap w (n+m) cap e:=grownCap_ge w (n+m) cap e
     have GT:Jk w (w.drew.alloc (.cells (olds.toArray++news.toArray++Builtin.zeroCells z.cells (grownCap w (n+m) cap e-(n+m))) e)) (olds.toArray++news.toArray++Builtin.zeroCells z.cells (grownCap w (n+m) cap e-(n+m))) e:=
      ⟨rfl,rfl,rfl,fun k hk=>Below.heap_alloc w.drew _ k hk,by show (w.heap.push _).size=_;simp,(0,0),by show (w.heap.push _)[w.heap.size]?=_;simp,.inl rfl⟩
     have Akf:(olds.toArray++news.toArray++Builtin.zeroCells z.cells (grownCap w (n+m) cap e-(n+m))).size=grownCap w (n+m) cap e*i.size:=by
      simp only[Array.size_append,List.size_toArray,size_zeroCells,hzs,hol,OK,←Nat.add_mul]
      congr 1
      omega
     have hbo:∀k y,some (w.heap.size,0)=some (k,y)->w.heap.size<=k∨∃q,β id=some (k,q):=by
      intro k y hh;simp at hh;exact .inl (by omega)
     refine h.move h0 ID hdN rfl rfl rfl (by rw[GT.size];omega) (fun k hk _=>GT.old k hk) GT.step.bs (fun k y hh=>⟨by simp at hh;rw[GT.size];omega,hbo k y hh⟩) (fun k y hh Cq=>by simp at hh;omega)
      (fun k y _ Cq j _=>⟨World.cell?_of_block (w:=w) (GT.old k Cq),World.frozen?_of_block (w:=w) (GT.old k Cq)⟩) ?_ ?_ (by intro j hj;simpa [Cm,Cw,A7] using hj)
     ·refine .inr ⟨w.heap.size,0,A5 _ _ _,VC GT (Aik h0 ID hbo) holds hs.rep h1 hs.one,fun _ j _ hj=>?_,(fun q=>by cases q)⟩
      rw[GT.bsz] at hj;exact GT.frozen hj
     ·refine .inr ⟨w.heap.size,0,0,grownCap w (n+m) cap e,A5 _ _ _,rfl,.inl rfl,hge,?_,by rw[GT.size];omega⟩
      rw[GT.bsz,Akf];omega
    rcases hbv with⟨hβ,_,rfl,ad,V8⟩|⟨bb,ob,y,cap,hβ,V8,hy,A8k,RM,A78⟩
    ·rcases Apy with⟨_,rfl⟩|⟨b',o',I6,_⟩
     ·by_cases hm0:m=0
      ·subst hm0;have hr:=Re (P:=P) (w:=w) (t:=t) (tx:=tx) (ty:=o.type) (ts:=ts) (ad:=ad) hu hdx Ahv hi hs (List.eq_nil_of_length_eq_zero (by omega))
       rw[←V8] at hr;have Agp:new=[]:=List.eq_nil_of_length_eq_zero (by omega)
       subst Agp;refine run hr next Q (hn _ _ (Ds β d none) ?_);rw[V8];refine h.move h0 ID hdN rfl rfl rfl (Nat.le_refl _) (fun _ _ _=>rfl) (fun _ _=>Nat.le_refl _) (fun k q hh=>by cases hh) (fun k q hh=>by cases hh) (fun _ _ _ _ _ _=>⟨rfl,rfl⟩) ?_ ?_ (by intro j hj;simpa [Cm,Cw,A7] using hj)
       ·exact .inl ⟨A5 _ _ _,by simp⟩
       ·exact .inl ⟨A5 _ _ _,rfl,rfl,ad,rfl⟩
      ·exact grow ad 0 [] V8 (by simp[B8]) (by simp) (by simp) (by cases ad with
        |none=>exact .inl ⟨rfl,rfl⟩
        |some p=>exact .inr ⟨p,rfl,by simp,fun j v hj=>by simp at hj⟩) (by omega)
     ·rw[hβ] at I6;cases I6
    ·rcases Apy with⟨I6,_⟩|⟨b',o',I6,Pw,hb3,_⟩
     ·rw[hβ] at I6;cases I6
     rw[hβ] at I6;simp at I6;obtain⟨rfl,rfl⟩:=I6;have hy:y=ob:=by rcases hy with hy|⟨_,hq⟩<;>omega
     subst hy;by_cases Aug:n+m<=cap
     ·have Ao9:y+n*i.size+news.length<=bsz w bb:=by
       have h5:n*i.size+m*i.size<=cap*i.size:=by rw[←Nat.add_mul];exact Nat.mul_le_mul_right _ Aug
       omega
      have hcell:∀k,k<news.length->(w.cell? ⟨bb,y+n*i.size+k,none⟩).isSome=true:=fun k hk=>Asi (by omega)
      have hr:=QL (P:=P) (w:=w) (t:=t) (tx:=tx) (ty:=o.type) (ts:=ts) (b:=bb) (ob:=y) (n:=n) (cap:=cap) hu hdx Ahv hi hs OK hcell (fun k hk=>hb3 rfl _ (by omega) (by omega)) Aug
      rw[←V8] at hr;have hw:=Gw.setCells bb news (y+n*i.size) w
      have hbo:∀k q,some (bb,y)=some (k,q)->w.heap.size<=k∨∃q',β id=some (k,q'):=by
       intro k q hh;simp at hh;obtain⟨rfl,rfl⟩:=hh;exact .inr ⟨_,hβ⟩
      refine run hr next Q (hn _ _ (Ds β d (some (bb,y))) ?_)
      have G0:C2 (Du s.hp β Y) w (w.setCells bb (y+n*i.size) news):=by
       have hAb:Du s.hp β Y bb:=.inl ⟨id,y,by rw[h0];trivial,hβ⟩
       exact⟨by rw[hw.size];exact Nat.le_refl _,fun k _ hk=>hw.other k (fun e=>hk (e ▸ hAb)),fun k _=>by
        by_cases e:k=bb
        ·subst e;rw[hw.bs];exact Nat.le_refl _
        ·unfold bsz;rw[hw.other k e];exact Nat.le_refl _⟩
      refine h.move h0 ID hdN hw.os hw.tape hw.output (by rw[hw.size];exact Nat.le_refl _) (fun k _ hq=>hw.other k (by rintro rfl;exact hq _ hβ)) G0.bs (fun k q hh=>⟨by simp at hh;rw[hw.size];omega,hbo k q hh⟩) (fun k q hh _=>by rw[hβ];exact hh)
       (fun k q hh _ j hj=>by
        rw[hβ] at hh;cases hh;exact⟨World.cell?_setCells_out bb _ _ w ⟨bb,j,none⟩ (fun _ _=>by show j<y+n*i.size∨y+n*i.size+_<=j;omega),hw.frz j⟩) ?_ ?_ (by intro j hj;simpa [Cm,Cw,A7] using hj)
      ·refine .inr ⟨bb,y,A5 _ _ _,fun j p hj=>?_,fun _ j hj AE=>?_,(fun q=>by cases q)⟩
       ·rw[Fn];by_cases hjn:j<n*i.size
        ·rw[List.getElem?_append_left (by rw[List.length_take];omega),List.getElem?_take_of_lt hjn] at hj
         obtain⟨u,Nu,h5,ht⟩:=Pw j p hj;rw[Fn] at Nu;refine⟨u,?_,h5,ht.step G0 (Aik h0 ID hbo)⟩;rw[World.cell?_setCells_out bb _ _ w ⟨bb,y+j,none⟩ (fun _ _=>by show y+j<y+n*i.size∨y+n*i.size+_<=y+j;omega)]
         exact Nu
        ·rw[List.getElem?_append_right (by rw[List.length_take];omega),List.length_take,Nat.min_eq_left Bdg] at hj
         obtain⟨u,Nu,ht⟩:=hs.rep.get hj
         have Cq:j-n*i.size<news.length:=by
          rcases Nat.lt_or_ge (j-n*i.size) news.length with h|h
          ·exact h
          ·rw[List.getElem?_eq_none h] at Nu;cases Nu
         refine⟨u,?_,hs.one u (List.mem_of_getElem? Nu),ht.step G0 (Aik h0 ID hbo)⟩;have:=World.cell?_setCells_in bb news (y+n*i.size) w hcell (j-n*i.size) Cq;rw[show y+j=y+n*i.size+(j-n*i.size) from by omega,this]
         rw[List.getElem?_eq_getElem Cq] at Nu;exact Nu
       ·rw[hw.bs] at AE;rw[hw.frz];exact hb3 rfl j hj AE
      ·exact .inr ⟨bb,y,y,cap,A5 _ _ _,rfl,.inl rfl,Aug,by rw[hw.bs];omega,by rw[hw.size];exact A78⟩
     ·-- the old cells
      have hob:∀(j:Nat) p,(cc.take (n*i.size))[j]?=some p->∃v,w.cell? ⟨bb,y+j,none⟩=some v∧v.oneCell'=true∧A8 w (Du s.hp β Y) p v:=by
       intro j p hj;rw[List.getElem?_take] at hj;split at hj
       ·obtain⟨v,hv,h5,ht⟩:=Pw j p hj;rw[Fn] at hv;exact⟨v,hv,h5,ht⟩
       ·cases hj
      have Hw:(cc.take (n*i.size)).length=n*i.size:=by rw[List.length_take];omega
      refine grow _ cap ((cc.take (n*i.size)).mapIdx fun j _=>(w.cell? ⟨bb,y+j,none⟩).getD undef) V8 ?_ ?_ (by simp only[List.length_mapIdx];exact Hw) (.inr ⟨_,rfl,by simp only[List.length_mapIdx];exact Hw,fun j v hj=>?_⟩) (by omega)
      ·refine B8.of_at (by simp) fun j p v hp hv=>?_
       obtain⟨u,Nu,_,ht⟩:=hob j p hp;rw[List.getElem?_mapIdx,hp,Option.map_some,Nu] at hv;simp at hv;subst hv;exact ht
      ·intro v hv;obtain⟨j,hj⟩:=List.mem_iff_getElem?.1 hv;rw[List.getElem?_mapIdx] at hj;cases hp:(cc.take (n*i.size))[j]? with
       |none=>rw[hp] at hj;cases hj
       |some p=>
        obtain⟨u,Nu,h5,_⟩:=hob j p hp;rw[hp,Option.map_some,Nu] at hj;simp at hj;subst hj;exact h5
      ·rw[List.getElem?_mapIdx] at hj;cases hp:(cc.take (n*i.size))[j]? with
       |none=>rw[hp] at hj;cases hj
       |some p=>
        obtain⟨u,Nu,h5,_⟩:=hob j p hp;rw[hp,Option.map_some,Nu] at hj;simp at hj;subst hj;rw[Fn];exact Nu
   ·cases hk
  ·obtain⟨zz,n',c',hk,hp⟩:=Ik hk;obtain⟨hb,hk⟩:=A3 hk;simp only[Bool.and_eq_true,decide_eq_true_eq] at hb;obtain⟨⟨⟨⟨⟨hzz,hdN⟩,ID⟩,Al2⟩,hby⟩,hnm⟩:=hb;have hdN:d<N:=Nat.lt_of_succ_le (Nat.le_of_ble_eq_true hdN);have ID:s.hp d=none:=by simpa using ID
   have Aiq:Jh N (some d)=true:=by simp[Jh,Nat.blt];omega
   rw[Mo] at Al2 hk;rw[BF] at hby;have OK:news.length=m*i.size:=by omega
   rcases slice_form hp hbv with⟨V8,_⟩|⟨_,_,_,UH,_⟩|⟨_,_,_,UH,_⟩
   ·refine⟨_,hk,fun next Q hn=>?_⟩
    by_cases hm0:m=0
    ·subst hm0;have hr:=Re (P:=P) (w:=w) (t:=t) (tx:=tx) (ty:=o.type) (ts:=ts) (ad:=none) hu hdx Ahv hi hs (List.eq_nil_of_length_eq_zero (by omega))
     rw[←V8] at hr;have Agp:new=[]:=List.eq_nil_of_length_eq_zero (by omega)
     subst Agp;refine run hr next Q (hn _ _ (Ds β d none) ?_);rw[V8];refine h.stepR (d:=some d) (nw:=[(d,.ar false [])]) (β':=Ds β d none) Aiq (by simp[Cx,ID]) ⟨rfl,rfl,rfl,C2.refl _ _,fun j hj=>Ax _ _ (by rintro rfl;exact hj ID),?_,?_,?_,?_,?_,.inl ⟨A5 _ _ _,rfl,rfl,none,rfl⟩,?_⟩
     ·intro j bx hm;simp at hm;rw[hm.2];trivial
     ·intro j bx hm;simp at hm;obtain⟨rfl,rfl⟩:=hm;exact .inl ⟨A5 _ _ _,rfl⟩
     ·intro j bx k q hm hq;simp at hm;obtain⟨rfl,rfl⟩:=hm;rw[A5] at hq;cases hq
     ·intro j bx j' bx' k q q' hm Sm _ _;simp at hm Sm;rw[hm.1,Sm.1]
     ·intro j cells hm;simp at hm
     ·intro j hj;simp[Cm,Cw,A7] at hj;subst hj;exact .inr ⟨.ar false [],by simp⟩
    ·have hr:=Ra (P:=P) (w:=w) (t:=t) (tx:=tx) (ty:=o.type) (ts:=ts) (ad:=none) (n:=0) (cap:=0) (olds:=[]) hu hdx Ahv hi hz hs (.inl ⟨rfl,rfl⟩) (by omega) (by rw[Nat.zero_add];exact hby) (by omega)
     rw[←V8] at hr;refine run hr next Q (hn _ _ (Ds β d (some (w.heap.size,0))) ?_);have hge:0+m<=grownCap w (0+m) 0 e:=grownCap_ge w (0+m) 0 e
     have GT:Jk w (w.drew.alloc (.cells (([]:List Value).toArray++news.toArray++Builtin.zeroCells z.cells (grownCap w (0+m) 0 e-(0+m))) e)) (([]:List Value).toArray++news.toArray++Builtin.zeroCells z.cells (grownCap w (0+m) 0 e-(0+m))) e:=
      ⟨rfl,rfl,rfl,fun k hk=>Below.heap_alloc w.drew _ k hk,by show (w.heap.push _).size=_;simp,(0,0),by show (w.heap.push _)[w.heap.size]?=_;simp,.inl rfl⟩
     have Akf:(([]:List Value).toArray++news.toArray++Builtin.zeroCells z.cells (grownCap w (0+m) 0 e-(0+m))).size=grownCap w (0+m) 0 e*i.size:=by
      simp only[Array.size_append,List.size_toArray,size_zeroCells,hzs,OK,List.length_nil,←Nat.add_mul];rw[Nat.zero_add (m*i.size),←Nat.add_mul]
      congr 1
      omega
     refine h.stepR (d:=some d) (nw:=[(d,.ar false new)]) Aiq (by simp[Cx,ID]) (Wg GT ID trivial ?_ (fun cells hx=>by cases hx) ?_ (by intro j hj;simp[Cm,Cw,A7] at hj;exact .inr hj))
     ·refine .inr ⟨w.heap.size,0,A5 _ _ _,?_,fun _ j _ hj=>?_,(fun q=>by cases q)⟩
      ·exact VC (pre:=[]) GT (Alo ID) trivial hs.rep (by simp) hs.one
      ·rw[GT.bsz] at hj;exact GT.frozen hj
     ·refine .inr ⟨w.heap.size,0,0,grownCap w (0+m) 0 e,A5 _ _ _,by rw[Nat.zero_add],.inl rfl,by omega,?_,by rw[GT.size];omega⟩
      rw[GT.bsz,Akf];omega
   ·rw[UH] at hzz;cases hzz
   ·rw[UH] at hzz;cases hzz
 ·cases hk
theorem Ajl (h:Ch N w0 X0 Y β s a w){c:Call}(ho:o.op=.call c)(hc:c.callee=.builtin .copy){b x:Operand}(Fo:c.args.toList=[b,x]) {t tx:TypeId}{ts:List TypeId}(QI:c.argTypes.toList=t::tx::ts)
  {K:St->Option R} (hk:ZV P N s o.dst t tx (C8 s.tm b) (C8 s.tm x) K=some r):
  ∃s',K s'=some r∧∀(next:Act->World->Prop) (Q:Exit->Act->World->Prop),(∀a' w' β',Ch N w0 X0 Y β' s' a' w'->next a' w')->o.wp P a w next Q:=by
 have WM:c.args = #[b,x]:=by
  have:c.args=([b,x]:List Operand).toArray:=by rw[←Fo]
  exact this
 have Aeo:c.argTypes=(t::tx::ts).toArray:=by rw[←QI]
 have run:∀{v:Value} {w1:World},(Builtin.copy_ (t::tx::ts).toArray o.type #[a.eval b,a.eval x]).run P w=.ok v w1->∀(next:Act->World->Prop) (Q:Exit->Act->World->Prop),next (a.put o.dst v) w1->o.wp P a w next Q:=by
  intro v w1 hr next Q hn;unfold Oper.wp execOp;rw[ho];simp only[resolve,hc,invoke,builtin,Sem.run_bind,Sem.run_pure,Result.andThen_ok,WM,Aeo];have:(#[b,x]:Array Operand).map a.eval = #[a.eval b,a.eval x]:=by simp
  rw[this,hr];exact hn
 have hbv:=Ec h b;unfold ZV at hk;split at hk
 ·rename_i e hu;obtain⟨hzi,hk⟩:=A3 hk;simp only[Bool.and_eq_true] at hzi;obtain⟨Vu,Aiq⟩:=hzi;obtain⟨i,hi⟩:∃i,P.info? e=some i:=Option.isSome_iff_exists.1 Vu;have Mo:Bz P e=i.size:=by unfold Bz;rw[hi];rfl
  have h1c:∀(m:Nat) (new:List PV),(match C8 s.tm b with
    |.view id es off n=>
     match s.hp id with
     |some (.ar false c)=>Aw (Nat.beq es (Bz P e)&&decide (off+n*es<=c.length)&&decide (new.length=m*es))
       (Aa (min m n) fun k=>Aa (B4 c (new.take (k*es)) off) fun c=>K ⟨Cn s.tm o.dst (.sc (.int .i64 k)),Ds s.hp id (some (.ar false c))⟩)
     |_=>none
    |_=>none)=some r->new.length=m*Bz P e:=by
   intro m new hk;split at hk
   ·split at hk
    ·obtain⟨hb,_⟩:=A3 hk;simp only[Bool.and_eq_true,decide_eq_true_eq] at hb;rw[←Nat.eq_of_beq_eq_true hb.1.1];exact hb.2
    ·cases hk
   ·cases hk
  obtain⟨_,m,new,news,hk,hs⟩:=SS h hk h1c;split at hk
  ·rename_i id es off n hb;rw[hb] at hbv;split at hk
   ·rename_i cc h0;obtain⟨hb,hk⟩:=A3 hk;simp only[Bool.and_eq_true,decide_eq_true_eq] at hb;obtain⟨⟨ON,EU⟩,hnl⟩:=hb;have ON:=Nat.eq_of_beq_eq_true ON;subst ON;rw[Mo] at hk hs EU hnl hbv;have OK:news.length=m*i.size:=by rw[←hs.rep.len];exact hnl
    have hkm:min m n*i.size<=m*i.size:=Nat.mul_le_mul_right _ (Nat.min_le_left _ _);have hkn:min m n*i.size<=n*i.size:=Nat.mul_le_mul_right _ (Nat.min_le_right _ _);have J4:K ⟨Cn s.tm o.dst (.sc (.int .i64 ((min m n:Nat):Int))),Ds s.hp id (some (.ar false (B4 cc (new.take (min m n*i.size)) off)))⟩=some r:=hk;refine⟨_,J4,fun next Q hn=>?_⟩
    have Axk:∀{β':Bt} {Di:Nat->Option Cb} {w':World},Ch N w0 X0 Y β' ⟨s.tm,Di⟩ a w'->Ch N w0 X0 Y β' ⟨Cn s.tm o.dst (.sc (.int .i64 ((min m n:Nat):Int))),Di⟩ (a.put o.dst (goInt ((min m n:Nat):Int))) w':=
     fun hh=>hh.put Aiq (A8.sc _) (fun _ hx=>by cases hx)
    have Aqr:new.take (min m n*i.size)=[]->Ds s.hp id (some (.ar false (B4 cc (new.take (min m n*i.size)) off)))=s.hp:=by
     intro e;rw[e];refine IQ _ ?_;rw[h0];simp[B4]
    have nothing:min m n*i.size=0->∀(ad:Option Addr) (cap:Nat),a.eval b=.slice ad n cap->o.wp P a w next Q:=by
     intro e ad cap V8;have hr:=Af8 (P:=P) (w:=w) (w1:=w) (t:=t) (ty:=o.type) (ts:=tx::ts) (ad:=ad) (n:=n) (cap:=cap) hu hi hs (by rw[e];cases ad<;>simp[storeCells])
     rw[←V8] at hr;refine run hr next Q (hn _ _ β (Axk ?_));rw[Aqr (by rw[e,List.take_zero])]
     exact h
    rcases hbv with⟨hβ,_,rfl,ad,V8⟩|⟨bb,ob,y,cap,hβ,V8,hy,A8k,RM,A78⟩
    ·exact nothing (by simp) ad 0 V8
    ·by_cases hm0:min m n*i.size=0
     ·exact nothing hm0 _ _ V8
     rcases h.box id _ h0 with⟨I6,_⟩|⟨b',o',I6,Pw,hb3,_⟩
     ·rw[hβ] at I6;cases I6
     rw[hβ] at I6;simp at I6;obtain⟨rfl,rfl⟩:=I6;have SA:n≠0:=by rintro rfl;simp at hm0
     have hy:y=ob+off:=by rcases hy with hy|⟨hq,_⟩<;>first|exact absurd hq SA|exact hy
     subst hy;have Cq:(news.take (min m n*i.size)).length=min m n*i.size:=by rw[List.length_take,OK];omega
     have hcell:∀k,k<(news.take (min m n*i.size)).length->(w.cell? ⟨bb,ob+off+k,none⟩).isSome=true:=by
      intro k hk;obtain⟨v,hv,_⟩:=Pw (off+k) _ (List.getElem?_eq_getElem (by omega))
      rw[Fn] at hv;rw[Nat.add_assoc,hv];rfl
     have YC:∀k,k<(news.take (min m n*i.size)).length->w.frozen? ⟨bb,ob+off+k,none⟩=false:=fun k hk=>by
      obtain⟨u,hu⟩:=Option.isSome_iff_exists.1 (hcell k hk);exact hb3 rfl _ (by omega) (UG hu)
     have h1:∀u∈news.take (min m n*i.size),u.oneCell'=true:=fun u hu=>hs.one u (List.mem_of_mem_take hu)
     have h3:=run_storeCells_cells (P:=P) bb (ob+off) (news.take (min m n*i.size)) 0 w (fun k hk=>by simpa using hcell k hk) (fun k hk=>by simpa using YC k hk) h1
     have hr:=Af8 (P:=P) (w:=w) (t:=t) (ty:=o.type) (ts:=tx::ts) (ad:=some ⟨bb,ob+off,none⟩) (n:=n) (cap:=cap) hu hi hs h3;rw[←V8] at hr;simp only[Nat.add_zero] at hr;refine run hr next Q (hn _ _ β (Axk ?_))
     refine h.write h0 trivial trivial hβ (Gw.setCells bb _ _ w) ?_ (fun cells hx=>by cases hx) (fun _ hx=>by cases hx) (fun j hj=>hj) (fun j hj=>by
      refine World.cell?_setCells_out bb _ _ w ⟨bb,j,none⟩ (fun _ _=>?_)
      have hj:¬(ob<=j):=hj;show j<ob+off∨ob+off+_<=j;omega)
     have G0:C2 (Du s.hp β Y) w (w.setCells bb (ob+off) (news.take (min m n*i.size))):=by
      have hw:=Gw.setCells bb (news.take (min m n*i.size)) (ob+off) w;have hAb:Du s.hp β Y bb:=.inl ⟨id,ob,by rw[h0];trivial,hβ⟩
      exact⟨by rw[hw.size];exact Nat.le_refl _,fun k _ hk=>hw.other k (fun e=>hk (e ▸ hAb)),fun k _=>by
       by_cases e:k=bb
       ·subst e;rw[hw.bs];exact Nat.le_refl _
       ·unfold bsz;rw[hw.other k e];exact Nat.le_refl _⟩
     have hll:(new.take (min m n*i.size)).length=min m n*i.size:=by rw[List.length_take,hnl];omega
     refine .inr ⟨bb,ob,hβ,fun j p hj=>?_,fun _ j hj AE=>?_,(fun x=>by cases x)⟩
     ·rw[Fn];rcases Yw (by omega) hj with⟨h3,h4,h5⟩|⟨h3,h5⟩
      ·have A62:j-off<min m n*i.size:=by omega
       rw[List.getElem?_take_of_lt A62] at h5;obtain⟨u,hu,hcu⟩:=hs.rep.get h5;have Agx:j-off<(news.take (min m n*i.size)).length:=by omega
       refine⟨u,?_,hs.one u (List.mem_of_getElem? hu),hcu.step G0 (fun _ _ x=>x)⟩
       have:=World.cell?_setCells_in bb (news.take (min m n*i.size)) (ob+off) w hcell (j-off) Agx;rw[show ob+j=ob+off+(j-off) from by omega,this]
       rw[←List.getElem?_eq_getElem Agx,List.getElem?_take_of_lt A62];exact hu
      ·obtain⟨v,hv,h6,PG⟩:=Pw j p h5;rw[Fn] at hv;refine⟨v,?_,h6,PG.step G0 (fun _ _ x=>x)⟩
       rw[World.cell?_setCells_out bb _ _ w ⟨bb,ob+j,none⟩ (fun _ _=>by show ob+j<ob+off∨ob+off+_<=ob+j;omega)]
       exact hv
     ·rw[(Gw.setCells bb _ _ w).bs] at AE;rw[(Gw.setCells bb _ _ w).frz];exact hb3 rfl j hj AE
   ·cases hk
  ·cases hk
 ·cases hk
theorem Ake (h:Ch N w0 X0 Y β s a w){G:Xl}(Kg:QA P G w0 X0){C:Kf}{call:Ah}(Dj:∀f args res,call f args=some res->Dl G P f args res){K:St->Option R}(hk:ER C P N call s o K=some r):
  ∃s',K s'=some r∧∀(next:Act->World->Prop) (Q:Exit->Act->World->Prop),(∀a' w' β',Ch N w0 X0 Y β' s' a' w'->next a' w')->o.wp P a w next Q:=by
 unfold ER at hk;split at hk
 ·rename_i t x y ho;obtain⟨hd,hk⟩:=A3 hk;exact Aez h ho (by simpa using hd) hk
 ·rename_i c ho;split at hk
  ·rename_i hc;obtain⟨d,hd,Em⟩:=D7 hk;obtain⟨b,xs,XH,Ha⟩:=Bw Em;obtain⟨x,ys,hys,Wb⟩:=Bw Ha;obtain⟨RF,V5⟩:=Ex Wb;obtain⟨t,us,hus,hk5⟩:=Bw V5;obtain⟨tx,vs,V4,hk6⟩:=Bw hk5;rw[hys,RF] at XH;rw[V4] at hus;exact Acm h ho hc hd XH hus hk6
  ·rename_i hc;obtain⟨b,xs,XH,Ha⟩:=Bw hk;obtain⟨x,ys,hys,Wb⟩:=Bw Ha;obtain⟨RF,V5⟩:=Ex Wb;obtain⟨t,us,hus,hk5⟩:=Bw V5;obtain⟨tx,vs,V4,hk6⟩:=Bw hk5;rw[hys,RF] at XH;rw[V4] at hus;exact Ajl h ho hc XH hus hk6
  ·rename_i f hc;exact Agf h Kg Dj ho hc hk
  ·cases hk
 ·cases hk
theorem VU (h:Ch N w0 X0 Y β s a w){G:Xl}(Kg:QA P G w0 X0){C:Kf}{call:Ah}(Dj:∀f args res,call f args=some res->Dl G P f args res){K:St->Option R}(hk:Af5 C P N call o s K=some r):
  ∃s',K s'=some r∧∀(next:Act->World->Prop) (Q:Exit->Act->World->Prop),(∀a' w' β',Ch N w0 X0 Y β' s' a' w'->next a' w')->o.wp P a w next Q:=by
 unfold Af5 at hk;cases hm:Zd C P o.op
 ·rw[hm] at hk;exact Aj1 h Kg Dj hk
 ·rw[hm] at hk;exact Ake h Kg Dj hk
end
end
end Go.Proofs.YtpogefhpiaaliaaGreatDoor.Pv
