/-
  The proof of SigninBinds, part 2.
-/
import Derived.Test.YtohcncipgljdkaaGreatDoorEA
import Derived.Laws.Append
import Derived.IntWalk
import Derived.Laws.AppendOwn
import Derived.Laws.IdiomCopy
set_option linter.unusedSimpArgs false
set_option linter.unusedVariables false
namespace Go.Proofs.YtohcncipgljdkaaGreatDoor.Pv
set_option maxRecDepth 1000000
noncomputable section
section
open Go.RowKit
def H8(w:World)(A:Nat->Prop)(own:Option (Nat × Nat))(p:PV)(u:Value):Prop:=
 match p with
 |.own es n c=>(own=none/\n=0/\c=[]/\∃ad,u=.slice ad 0 0) \/
   ∃b o cap,own=some (b,o)/\u=.slice (some ⟨b,o,none⟩) n cap/\n<=cap/\Fit w es b (o+cap*es)/\b<w.heap.size/\VV w A ⟨b,o,none⟩ c/\∀j,o<=j->j<bsz w b->w.frozen? ⟨b,j,none⟩=false
 |p=>Av w A p u
def F6(w:World)(A:Nat->Prop)(own:Bt):Nat->Ae->List Value->Prop
 |_,[],[]=>True
 |j,p::ps,u::us=>H8 w A (own j) p u/\F6 w A own (j+1) ps us
 |_,_,_=>False
def Atf(w:World)(A:Nat->Prop)(own:Bt)(j b o:Nat)(cs:Ae):Prop:=
 ∃vs,F6 w A own j cs vs/\(∀(k:Nat) v,vs[k]?=some v->w.cell? ⟨b,o+k,none⟩=some v)/\∀k,k<cs.length->w.frozen? ⟨b,o+k,none⟩=false
def Azn(w:World)(A:Nat->Prop)(own:Bt)(z j:Nat)(p:PV)(u:Value):Prop:=
 match p with
 |.agg cs=>∃vs,u=.agg ⟨vs⟩/\F6 w A own j cs vs
 |.pbox cs=>∃b o,own j=some (b,o)/\z<=b/\u=.pointer (some ⟨b,o,none⟩)/\Atf w A own (j+1) b o cs
 |p=>H8 w A (own j) p u
def plc:PV->Nat
 |.pbox cs=>1+cs.length
 |p=>(cellsOf p).length
def Aah(w:World)(A:Nat->Prop)(own:Bt)(z:Nat):Nat->Ae->List Value->Prop
 |_,[],[]=>True
 |j,p::ps,u::us=>Azn w A own z j p u/\Aah w A own z (j+plc p) ps us
 |_,_,_=>False
abbrev FK:=Nat->Nat->Option (Nat × Nat)
def BtX(bt:FK)(b:Nat):Prop:=∃i j o,bt i j=some (b,o)
def isA(p:PV):Prop:=FE p\/∃es n c,p=.own es n c
def IE(p:PV):Bool:=
 match p with
 |.pbox _=>true
 |.tup _=>true
 |_=>false
theorem Ax5{p:PV}(h:isA p):IE p=false:=by
 rcases h with h|⟨_,_,_,rfl⟩
 ·cases p<;>first|rfl|exact h.elim
 ·rfl
def Ajg(w:World)(A:Nat->Prop)(bt:Bt)(p:PV)(u:Value):Prop:=
 match p with
 |.pbox ps=>∃b o,bt 0=some (b,o)/\u=.pointer (some ⟨b,o,none⟩)/\(∀p∈ps,isA p)/\Atf w A bt 1 b o ps
 |.tup ps=>∃es n c,ps=[.own es n c]/\H8 w A (bt 0) (.own es n c) u
 |.agg cs=>∃vs,u=.agg ⟨vs⟩/\(∀p∈cs,isA p)/\F6 w A bt 1 cs vs
 |p=>isA p/\H8 w A (bt 1) p u
def Nr(w:World)(A:Nat->Prop)(bt:FK):Nat->Ae->List Value->Prop
 |_,[],[]=>True
 |i,p::ps,u::us=>Ajg w A (bt i) p u/\Nr w A bt (i+1) ps us
 |_,_,_=>False
def A57(bt:Bt)(p:PV)(b j:Nat):Prop:=
 (∃k o,bt (k+1)=some (b,o)/\o<=j)\/∃o ps,bt 0=some (b,o)/\o<=j/\((p=.pbox ps/\j<o+ps.length)\/p=.tup ps)
def SK(bt:FK)(args:Ae)(b j:Nat):Prop:=∃i p,args[i]?=some p/\A57 (bt i) p b j
def Kv(w:World)(A:Nat->Prop)(own:Bt)(bt:FK):Nat->Nat->Ae->List Ae->Prop
 |_,_,[],r=>r=[]
 |j,i,p::zs,r=>
  match p with
  |.pbox ps=>
   match r with
   |[]=>False
   |cs::r=>(∃b o,bt i 0=some (b,o)/\cs.length=ps.length/\Atf w A own j b o cs)/\Kv w A own bt (j+cs.length) (i+1) zs r
  |.tup _=>
   match r with
   |[]=>False
   |cs::r=>((bt i 0=none/\cs=[])\/∃b o,bt i 0=some (b,o)/\VV w A ⟨b,o,none⟩ cs/\∀k,o<=k->k<bsz w b->w.frozen? ⟨b,k,none⟩=false)/\Kv w A own bt j (i+1) zs r
  |_=>Kv w A own bt j (i+1) zs r
def Yr(bt:FK)(own:Bt)(Y:Nat->Prop)(b:Nat):Prop:=(∃j o,own j=some (b,o))\/(∃i o,bt i 0=some (b,o))\/Y b
def N6(vals:Ae):Nat:=(vals.map plc).sum
structure Out(w w':World)(Y:Nat->Prop)(bt:FK)(args:Ae)(own:Bt)(r:Bv)(vs:List Value):Prop where
 os:w'.os=w.os
 tape:w'.tape=w.tape
 output:w'.output=w.output
 ext:Cw (BtX bt) w w'
 rng:∀b j,b<w.heap.size->¬SK bt args b j->w'.cell? ⟨b,j,none⟩=w.cell? ⟨b,j,none⟩/\w'.frozen? ⟨b,j,none⟩=w.frozen? ⟨b,j,none⟩
 vals:Aah w' (Yr bt own Y) own w.heap.size 0 r.vals vs
 outs:Kv w' (Yr bt own Y) own bt (N6 r.vals) 0 args r.outs
 fresh:∀j b o,own j=some (b,o)->b<w'.heap.size/\(b<w.heap.size->(∃i k o',bt i (k+1)=some (b,o'))/\∀x,o<=x->SK bt args b x)
 inj:∀j j' b o o',own j=some (b,o)->own j'=some (b,o')->j=j'
def G8(us:List Value):Value:=match us with|[u]=>u|us=>.tuple ⟨us⟩
def Vx(w:World)(Y:Nat->Prop)(p:PV)(u:Value):Prop:=
 match p with
 |.agg cs=>∃vs,u=.agg ⟨vs⟩/\Bx (fun c v=>FE c/\Av w Y c v) cs vs
 |p=>FE p/\Av w Y p u
structure Ins(w:World)(Y:Nat->Prop)(bt:FK)(args:Ae)(us:List Value):Prop where
 Ylt:∀b,Y b->b<w.heap.size
 Yx:∀b,Y b->¬BtX bt b
 lt:∀b,BtX bt b->b<w.heap.size
 inj:∀i j i' j' b o o',bt i j=some (b,o)->bt i' j'=some (b,o')->i=i'/\j=j'
 l0:∀i q,bt i 0=some q->∃p,args[i]?=some p/\IE p=true
 args:Nr w (fun b=>BtX bt b\/Y b) bt 0 args us
structure Vg where
 bl:Nat->Prop
 ok:World->Prop
 stable:∀w w':World,(∀b,bl b->b<w.heap.size->w'.heap[b]?=w.heap[b]?)->ok w->ok w'
def C9(G:Vg)(P:Program)(f:FuncId)(args:Ae)(r:Bv):Prop:=
 (∃fn,P.funcs[f]?=some fn/\fn.body.isSome=true)/\∀(w:World)(Y:Nat->Prop)(bt:FK)(us:List Value),Ins w Y bt args us->G.ok w->(∀b,G.bl b->b<w.heap.size/\¬BtX bt b) ->
  Calls P f us.toArray w fun e w'=>∃vs own,e=.returned (G8 vs)/\Out w w' Y bt args own r vs
def FJ:FK:=fun _ _=>none
theorem Ng(b:Nat):¬BtX FJ b:=by rintro⟨_,_,_,h⟩;cases h
theorem Om{w:World}{A:Nat->Prop}{q:Option (Nat × Nat)}{p:PV}{u:Value}(hp:FE p)(h:Av w A p u):H8 w A q p u:=by cases p<;>first|exact h|exact hp.elim
theorem NP{w:World}{A:Nat->Prop}{own:Bt}:∀{cs:Ae}{vs:List Value}{j:Nat},Bx (fun c v=>FE c/\Av w A c v) cs vs->F6 w A own j cs vs
 |[],[],_,_=>trivial
 |_::_,_::_,_,h=>⟨Om h.1.1 h.1.2,NP h.2⟩
 |[],_::_,_,h=>h.elim
 |_::_,[],_,h=>h.elim
theorem Aoe{w:World}{A:Nat->Prop}{bt:Bt}{p:PV}{u:Value}(h:Vx w A p u):Ajg w A bt p u:=by
 cases p with
 |agg cs=>
  obtain⟨vs,h1,h2⟩:=h;refine⟨vs,h1,fun p hp=>.inl ?_,NP h2⟩;obtain⟨j,hj⟩:=List.mem_iff_getElem?.1 hp;obtain⟨v,_,hv⟩:=h2.get hj;exact hv.1
 |sc v=>exact⟨.inl trivial,h.2⟩
 |lst z es n c=>exact⟨.inl trivial,h.2⟩
 |_=>exact h.1.elim
theorem GG{w:World}{A:Nat->Prop}{bt:FK}:∀{ps:Ae}{us:List Value}{i:Nat},Bx (Vx w A) ps us->Nr w A bt i ps us
 |[],[],_,_=>trivial
 |_::_,_::_,_,h=>⟨Aoe h.1,GG h.2⟩
 |[],_::_,_,h=>h.elim
 |_::_,[],_,h=>h.elim
theorem ZD{w:World}{A A':Nat->Prop}(hA:∀b,b<w.heap.size->A' b->A b){p:PV}{v:Value}(h:Vx w A p v):Vx w A' p v:=by
 cases p with
 |agg cs=>
  obtain⟨vs,rfl,h2⟩:=h;exact⟨vs,rfl,h2.mono fun c v hc=>⟨hc.1,hc.2.step (Cw.refl _ _) hA⟩⟩
 |sc v=>exact⟨h.1,h.2.step (Cw.refl _ _) hA⟩
 |lst z es n c=>exact⟨h.1,h.2.step (Cw.refl _ _) hA⟩
 |_=>exact h.1.elim
theorem Agg{w:World}{Y:Nat->Prop}{args:Ae}{us:List Value}(hY:∀b,Y b->b<w.heap.size)(h:Bx (Vx w Y) args us):Ins w Y FJ args us:=
 ⟨hY,fun b _=>Ng b,fun b h=>absurd h (Ng b),(fun _ _ _ _ _ _ _ h=>by cases h),(fun _ _ h=>by cases h),GG (h.mono fun _ _ hx=>ZD (fun b _ hb=>hb.elim (fun q=>absurd q (Ng b)) id) hx)⟩
def NoNG(P:Program):Prop:=∀(f:FuncId) (fn:Func),P.funcs[f]?=some fn->(fn.name == "runtime.NumGoroutine")=false
structure NT(P:Program)(G:Vg)(w0:World)(X0:F3):Prop where
 ng:NoNG P
 fr:∀w,Fr X0 w0 w->G.ok w
 y:∀b,G.bl b->b<w0.heap.size/\¬X0.X b
section
variable {R:Type}{r:R}{P:Program}{N:Nat}{w0:World}{X0:F3}{Y:Nat->Prop}{β β':Bt}{s:St}{a:Act}{w w':World}{o:Oper}{A:Nat->Prop}
def VC(P:Program)(a:Act)(w:World)(o:Oper)(Y:Nat->Prop)(β:Bt)(s:St)(v:PV)(fz:B9)(nw:List (Nat × Cc)):Prop:=
 (∀id∈fz,∃f c,s.hp id=some (.ar f c))/\∀(next:Act->World->Prop)(Q:Exit->Act->World->Prop),
  (∀val w',(Co s.hp nw=true->∃β',YC Y β ⟨s.tm,Ah s.hp fz⟩ w v nw val w' β')->next (a.put o.dst val) w')->o.wp P a w next Q
theorem RD{v:PV}{fz:B9}{nw:List (Nat × Cc)}(h:Fh P a w o Y β s v fz nw):VC P a w o Y β s v fz nw:=by obtain⟨h1,val,w',hr,hs⟩:=h;refine⟨h1,fun next Q hn=>?_⟩;unfold Oper.wp;rw[hr];exact hn val w' hs
theorem Are(h:Cj N w0 X0 Y β s a w){t:TypeId}{x:PV}{u:Value}(hx:Ex w (Dv s.hp β Y) β x u){K:PV->B9->Option R}(hk:Aih P (Mh s.hp) t x K=some r):
  ∃p m,K p m=some r/\(∀id∈m,∃f cc,s.hp id=some (.ar f cc))/\(cellsOf p).length=(Kn P t).length/\∀fz:B9,(∀id∈m,id∈fz)->(∀id∈fz,∃f cc,s.hp id=some (.ar f cc))->Vx w (Dv (Ah s.hp fz) β Y) p u:=by
 unfold Aih at hk;cases Hs:C5 P t
 ·rw[Hs] at hk;obtain⟨cs,m,hk,hl,Oo,hT,hF,hm,hv⟩:=Wp h (show Sl _ _ _ _=some r from hk);obtain⟨c,t',rfl,hk⟩:=Bo hk;obtain⟨rfl,hk⟩:=Em hk;have hcT:=hT c (by simp);refine⟨c,m,hk,hm,?_,fun fz h1 h2=>?_⟩
  ·have:cellsOf c=[c]:=by cases c<;>first|rfl|exact hcT.elim
   rw[this];exact hl
  have hF':=hF _ (Vv _)
  have hc:Cm w (Dv s.hp β Y) β x u:=by
   cases x<;>first|exact hx|exact hF'.elim
  have h3:=(hv fz h1 h2 [u] ⟨hc,trivial⟩).1.1;cases c<;>first|exact⟨trivial,h3⟩|exact hcT.elim
 ·rw[Hs] at hk;obtain⟨ps,hp,hk⟩:=Jj (show Di _ _=some r from hk);rw[hp] at hx;obtain⟨cs,m,hk,hl,Oo,hT,hF,hm,hv⟩:=Wp h hk;obtain⟨vs,Ee,h2⟩:=hx;refine⟨.agg cs,m,hk,hm,hl,fun fz h1 h3=>⟨vs,Ee,?_⟩⟩;exact (hv fz h1 h3 vs h2).1.mono_mem fun c hc v OC=>⟨hT c hc,OC⟩
theorem Ar2(h:Cj N w0 X0 Y β s a w){t:TypeId}{x:Operand}{K:PV->B9->Option R}(hk:Aih P (Mh s.hp) t (Cx s.tm x) K=some r):
  ∃p m,K p m=some r/\(∀id∈m,∃f cc,s.hp id=some (.ar f cc))/\∀fz:B9,(∀id∈m,id∈fz)->(∀id∈fz,∃f cc,s.hp id=some (.ar f cc))->Vx w (Dv (Ah s.hp fz) β Y) p (a.eval x):=by
 obtain⟨p,m,h1,h2,_,h3⟩:=Are h (D7 h x) hk;exact⟨p,m,h1,h2,h3⟩
theorem ZR(h:Cj N w0 X0 Y β s a w):∀{ts:List TypeId}{xs:List Operand}{K:Ae->B9->Option R},TU P (Mh s.hp) ts (xs.map (Cx s.tm)) K=some r ->
  ∃ps m,K ps m=some r/\(∀id∈m,∃f cc,s.hp id=some (.ar f cc))/\∀fz:B9,(∀id∈m,id∈fz)->(∀id∈fz,∃f cc,s.hp id=some (.ar f cc))->Bx (Vx w (Dv (Ah s.hp fz) β Y)) ps (xs.map a.eval)
 |[],[],K,hk=>⟨[],[],hk,by simp,fun _ _ _=>trivial⟩
 |[],_::_,K,hk=>by cases hk
 |_::_,[],K,hk=>by cases hk
 |t::ts,x::xs,K,hk=>by
  simp only[X4] at hk;unfold TU at hk;obtain⟨p,m,hk,hm,hv⟩:=Ar2 h hk;obtain⟨ps,ms,hk,RZ,Ma⟩:=ZR h hk;refine⟨p::ps,m++ms,hk,?_,fun fz h1 h2=>⟨hv fz (fun i hi=>h1 i (by simp[hi])) h2,Ma fz (fun i hi=>h1 i (by simp[hi])) h2⟩⟩;intro i hi;rcases B5.1 hi with hi|hi
  ·exact hm i hi
  ·exact RZ i hi
theorem Vx.weaken{A':Nat->Prop}(hA:∀b,b<w.heap.size->A' b->A b){p:PV}{v:Value}(h:Vx w A p v):Vx w A' p v:=by
 have one:FE p->FE p/\Av w A p v->Vx w A' p v:=by
  intro hp h;cases p<;>first|exact⟨h.1,h.2.step (Cw.refl _ _) hA⟩|exact hp.elim
 cases p with
 |agg cs=>
  obtain⟨vs,rfl,h2⟩:=h;exact⟨vs,rfl,h2.mono fun c v hc=>⟨hc.1,hc.2.step (Cw.refl _ _) hA⟩⟩
 |_=>exact one h.1 h
theorem Aqs{t:CT}{p:PV}{K:PV->Option R}(h:MB t p K=some r):
  ∃c,K c=some r/\FE c/\FE p/\(∀(w:World) (A:Nat->Prop) (β:Nat->Option (Nat × Nat)) (v:Value),Cm w A β p v->Av w A c v/\v.oneCell'=true)/\((∀es,t ≠ .sl es)->∃v,c=.sc v):=by
 obtain⟨c,hk,hT,RN,hv⟩:=Rb h;cases t with
 |sl es=>exact⟨c,hk,hT,RN,hv,fun Gh=>absurd rfl (Gh es)⟩
 |int k=>obtain⟨n,rfl,h2⟩:=Fp h;exact⟨_,h2,trivial,trivial,fun w A β v hv=>⟨hv,by have:=Av.val (w:=w) (A:=A) hv;subst this;rfl⟩,fun _=>⟨_,rfl⟩⟩
 |bool=>obtain⟨n,rfl,h2⟩:=Ey h;exact⟨_,h2,trivial,trivial,fun w A β v hv=>⟨hv,by have:=Av.val (w:=w) (A:=A) hv;subst this;rfl⟩,fun _=>⟨_,rfl⟩⟩
 |str=>obtain⟨n,rfl,h2⟩:=El h;exact⟨_,h2,trivial,trivial,fun w A β v hv=>⟨hv,by have:=Av.val (w:=w) (A:=A) hv;subst this;rfl⟩,fun _=>⟨_,rfl⟩⟩
 |any=>
  obtain⟨u,rfl,h1,h2⟩:=Al7 (show fnK p (fun v=>K (.sc v))=some r from h);exact⟨_,h2,trivial,trivial,fun w A β v hv=>⟨hv,by have:=Av.val (w:=w) (A:=A) hv;subst this;exact h1⟩,fun _=>⟨_,rfl⟩⟩
theorem DK(shr:Bool)(N:Nat):∀{ts:List CT}{ps:Ae}{id:Nat}{K:Ae->List (Nat × Cc)->Option R},Wm shr N id ts ps K=some r ->
  ∃cs bs,K cs bs=some r/\ps.length=ts.length/\(∀p∈ps,∀x,p ≠ .agg x/\p ≠ .pbox x)/\(∀c∈cs,XG c)/\((∀es,CT.sl es ∉ ts)->bs=[]/\∀c∈cs,∃v,c=.sc v) /\
   (∀i bx,(i,bx)∈bs->∃j es n c,ps[j]?=some (.own es n c)/\i=id+N*j/\bx=.ar false c) /\
   (∀c∈cs,∀i∈Au c,∃bx,(i,bx)∈bs) /\
   ∀(w:World) (A:Nat->Prop) (own β':Bt) (j0:Nat) (us:List Value),(∀j,(∃bx,(id+N*j,bx)∈bs)->β' (id+N*j)=own (j0+j))->F6 w A own j0 ps us->Bx (Cm w A β') cs us
 |[],ps,id,K,hk=>by
  obtain⟨rfl,hk⟩:=Em hk;refine⟨[],[],hk,rfl,by simp,by simp,by simp,by simp,by simp,fun w A own β' j0 us _ h=>?_⟩;cases us with
  |nil=>trivial
  |cons u us=>exact h.elim
 |t::ts,ps,id,K,hk=>by
  unfold Wm at hk;obtain⟨p,ps',MS,Er⟩:=Bo hk;subst MS;clear hk
  have main:∃c b,(Wm shr N (id+N) ts ps' fun cs bs=>K (c::cs) (b++bs))=some r/\(∀x,p ≠ .agg x/\p ≠ .pbox x)/\XG c/\((∀es,t≠CT.sl es)->b=[]/\∃v,c=.sc v)/\(∀i bx,(i,bx)∈b->∃es n cc,p=.own es n cc/\i=id/\bx=.ar false cc)/\(∀i∈Au c,∃bx,(i,bx)∈b) /\
    ∀(w:World) (A:Nat->Prop) (own:Option (Nat × Nat)) (β':Bt) (u:Value),((∃bx,(id,bx)∈b)->β' id=own)->H8 w A own p u->Cm w A β' c u:=by
   have tree:∀t',t'=t->(MB t' p fun c=>Wm shr N (id+N) ts ps' fun cs bs=>K (c::cs) ([]++bs))=some r->∃c b,(Wm shr N (id+N) ts ps' fun cs bs=>K (c::cs) (b++bs))=some r/\(∀x,p ≠ .agg x/\p ≠ .pbox x)/\XG c/\((∀es,t≠CT.sl es)->b=[]/\∃v,c=.sc v)/\(∀i bx,(i,bx)∈b->∃es n cc,p=.own es n cc/\i=id/\bx=.ar false cc)/\(∀i∈Au c,∃bx,(i,bx)∈b) /\
     ∀(w:World) (A:Nat->Prop) (own:Option (Nat × Nat)) (β':Bt) (u:Value),((∃bx,(id,bx)∈b)->β' id=own)->H8 w A own p u->Cm w A β' c u:=by
    intro t' ht' hk;have hsc:=Aqs hk;obtain⟨c,hk,hT,RN,hv,hsc⟩:=hsc;refine⟨c,[],hk,fun x=>⟨IQ RN x,by rintro rfl;exact RN⟩,Yl hT,fun Gh=>⟨rfl,hsc (fun es e=>Gh es (ht'.symm.trans e))⟩,by simp,by rw[J2 hT];simp,fun w A own β' u _ hc=>?_⟩
    have X8:Cm w A β' p u:=by cases p<;>first|exact hc|exact RN.elim
    exact (Qa hT).2 (hv w A β' u X8).1
   unfold Aqn at Er;cases t with
   |sl es=>
    dsimp only at Er;cases shr
    ·unfold Kf at Er;simp only[cond_false] at Er;split at Er
     ·rename_i es' n c;cases hb:Nat.beq es' es
      ·rw[hb] at Er;cases Er
      ·rw[hb] at Er;have:=Dx hb;subst this;refine⟨_,_,Er,by simp,trivial,fun Gh=>absurd rfl (Gh _),?_,?_,fun w A own β' u hβ hc=>?_⟩
       ·intro i bx hm;simp at hm;exact⟨_,_,_,rfl,hm.1,hm.2⟩
       ·intro i hi;simp[Au] at hi;subst hi;exact⟨.ar false c,by simp⟩
       ·have hβ':=hβ ⟨.ar false c,by simp⟩;clear hβ;rcases hc with⟨h1,rfl,rfl,h4⟩|⟨b,ob,cap,h1,h2,h3,h4,h5,_⟩
        ·exact .inl ⟨hβ'.trans h1,rfl,rfl,h4⟩
        ·exact .inr ⟨b,ob,ob,cap,hβ'.trans h1,h2,.inl rfl,h3,h4,h5⟩
     ·cases Er
    ·obtain⟨c,hk,hT,RN,hv,_⟩:=Aqs (t:=.sl es) (p:=p) (K:=fun c=>Wm true N (id+N) ts ps' fun cs bs=>K (Abe c::cs) ([]++bs)) Er;have hU:FE (Abe c):=by cases c<;>exact hT
     refine⟨Abe c,[],hk,fun x=>⟨IQ RN x,by rintro rfl;exact RN⟩,Yl hU,fun Gh=>absurd rfl (Gh _),by simp,by rw[J2 hU];simp,fun w A own β' u _ hc=>?_⟩
     have X8:Cm w A β' p u:=by cases p<;>first|exact hc|exact RN.elim
     refine (Qa hU).2 ?_;have:=(hv w A β' u X8).1;cases c with
     |lst z es n c=>exact Av.unz this
     |_=>exact this
   |int k=>exact tree (.int k) rfl Er
   |bool=>exact tree .bool rfl Er
   |str=>exact tree .str rfl Er
   |any=>exact tree .any rfl Er
  obtain⟨c,b,hk,hpa,hF,XW,F4,Ko,OC⟩:=main;obtain⟨cs,bs,hk,hl,Blx,hFs,A2z,Bgi,Bfe,Bfx⟩:=DK shr N hk;refine⟨c::cs,b++bs,hk,by simp[hl],?_,?_,?_,?_,?_,fun w A own β' j0 us hβ hoc=>?_⟩
  ·intro x hx;rcases Ch.1 hx with rfl|hx
   ·exact hpa
   ·exact Blx x hx
  ·intro x hx;rcases Ch.1 hx with rfl|hx
   ·exact hF
   ·exact hFs x hx
  ·intro Gh;obtain⟨h1,v,h2⟩:=XW (fun es e=>Gh es (by rw[e];simp))
   obtain⟨h3,h4⟩:=A2z (fun es hm=>Gh es (by simp[hm]));refine⟨by rw[h1,h3];rfl,fun x hx=>?_⟩
   rcases Ch.1 hx with rfl|hx
   ·exact⟨v,h2⟩
   ·exact h4 x hx
  ·intro i bx hm;rcases B5.1 hm with hm|hm
   ·obtain⟨es,n,cc,rfl,rfl,rfl⟩:=F4 i bx hm;exact⟨0,es,n,cc,rfl,by simp,rfl⟩
   ·obtain⟨j,es,n,cc,h1,rfl,h3⟩:=Bgi i bx hm;exact⟨j+1,es,n,cc,by simpa using h1,by rw[Nat.mul_add];omega,h3⟩
  ·intro x hx i hi;rcases Ch.1 hx with rfl|hx
   ·obtain⟨bx,hm⟩:=Ko i hi;exact⟨bx,by simp[hm]⟩
   ·obtain⟨bx,hm⟩:=Bfe x hx i hi;exact⟨bx,by simp[hm]⟩
  ·cases us with
   |nil=>exact hoc.elim
   |cons u us=>
    refine⟨OC w A (own j0) β' u (fun ⟨bx,hm⟩=>by have:=hβ 0 ⟨bx,by simp[hm]⟩;simpa using this) hoc.1,?_⟩
    refine Bfx w A own β' (j0+1) us (fun j ⟨bx,hm⟩=>?_) hoc.2;have e:id+N+N*j=id+N*(j+1):=by rw[Nat.mul_add];omega
    have:=hβ (j+1) ⟨bx,by rw[<-e];simp[hm]⟩
    rw[e,this]
    congr 1
    omega
end
open Go.RowKit
section
variable {R:Type}{r:R}{P:Program}{N:Nat}{w0:World}{X0:F3}{Y:Nat->Prop}{β β':Bt}{s:St}{a:Act}{w w':World}{o:Oper}{A:Nat->Prop}
theorem F6.len:∀{j:Nat}{own:Bt}{ps:Ae}{us:List Value},F6 w A own j ps us->ps.length=us.length
 |_,_,[],[],_=>rfl
 |_,_,_::_,_::_,h=>by simp[F6.len h.2]
 |_,_,[],_::_,h=>h.elim
 |_,_,_::_,[],h=>h.elim
theorem F6.at_:∀{j:Nat}{own:Bt}{ps:Ae}{us:List Value},F6 w A own j ps us->∀{i:Nat} {p},ps[i]?=some p->∃u,us[i]?=some u/\H8 w A (own (j+i)) p u
 |_,_,[],[],_,i,p,h=>by simp at h
 |j,own,_::_,u::_,h,0,p,hp=>by simp at hp;subst hp;exact⟨u,rfl,h.1⟩
 |j,own,_::_,_::_,h,i+1,p,hp=>by
  simp at hp;obtain⟨u,hu,hc⟩:=F6.at_ h.2 hp;exact⟨u,by simpa using hu,by rw[show j+(i+1)=j+1+i from by omega];exact hc⟩
 |_,_,[],_::_,h,_,_,_=>h.elim
 |_,_,_::_,[],h,_,_,_=>h.elim
def Arp(N id:Nat)(β':Bt)(w:World)(A:Nat->Prop)(z n:Nat)(bs:List (Nat × Cc)):Prop:=
 ∀i bx,(i,bx)∈bs->(∃j,i=id+N*j/\j<n)/\Dj (some bx)/\Wq w A β' i bx/\∀cs,bx=.st cs->∀b o,β' i=some (b,o)->z<=b
def NF(bs:List (Nat × Cc)):Prop:=∀i cells,(i,.st cells)∈bs->∀c∈cells,∀i'∈Au c,∃bx,(i',bx)∈bs
theorem JE{q:Option (Nat × Nat)}{es n i:Nat}{c:Ae}{u:Value}(h:H8 w A q (.own es n c) u)(hβ:β' i=q):Wq w A β' i (.ar false c):=by
 rcases h with⟨h1,_,h2,_⟩|⟨b,o,cap,h1,_,_,_,_,h6,h7⟩
 ·exact .inl ⟨hβ.trans h1,h2⟩
 ·exact .inr ⟨b,o,hβ.trans h1,h6,fun _=>h7,(fun x=>by cases x)⟩
theorem LQ{t:TypeId}(h:Mg P [t]=false):KG P t=none/\∀es,CT.sl es ∉ Kn P t:=by simp only[Mg,List.any_cons,List.any_nil,Bool.or_false,Bool.or_eq_false_iff] at h;refine⟨by simpa using h.1,fun es hm=>?_⟩;have:=List.any_eq_false.1 h.2 _ hm;simp at this
theorem Aum(shr:Bool)(N:Nat){t:TypeId}{p:PV}{id:Nat}{K:PV->List (Nat × Cc)->Option R}(hk:Anx P shr N id t p K=some r):
  ∃v bs,K v bs=some r/\plc p=Af5 P t/\(∀x,v ≠ .tup x)/\(Mg P [t]=false->bs=[]/\∀c∈cellsOf v,∃u,c=.sc u)/\(∀i∈Ct v,∃bx,(i,bx)∈bs)/\NF bs /\
   ∀(w:World) (A:Nat->Prop) (own β':Bt) (z j0:Nat) (u:Value),(∀j,(∃bx,(id+N*j,bx)∈bs)->β' (id+N*j)=own (j0+j))->Azn w A own z j0 p u->Hq w A β' v u/\Arp N id β' w A z (plc p) bs:=by
 have boxes:∀{bs:List (Nat × Cc)} {ps:Ae} {id:Nat},(∀i bx,(i,bx)∈bs->∃j es n c,ps[j]?=some (.own es n c)/\i=id+N*j/\bx=.ar false c) ->
   NF bs/\∀(w:World) (A:Nat->Prop) (own β':Bt) (j0:Nat) (us:List Value),(∀j,(∃bx,(id+N*j,bx)∈bs)->β' (id+N*j)=own (j0+j))->F6 w A own j0 ps us->∀z,Arp N id β' w A z ps.length bs:=by
  intro bs ps id F4;refine⟨fun i cells hm=>?_,fun w A own β' j0 us hβ ho z i bx hm=>?_⟩
  ·obtain⟨_,_,_,_,_,_,h3⟩:=F4 i _ hm;cases h3
  ·obtain⟨j,es,n,cc,h1,h2,h3⟩:=F4 i bx hm;obtain⟨u,hu,hoc⟩:=ho.at_ h1;subst h3;refine⟨⟨j,h2,?_⟩,trivial,JE hoc ?_,fun _ e=>by cases e⟩
   ·rcases Ig j ps.length with h|h
    ·exact h
    ·rw[List.getElem?_eq_none h] at h1;cases h1
   ·rw[h2];exact hβ j ⟨_,h2 ▸ hm⟩
 unfold Anx at hk;split at hk
 ·rename_i e he;obtain⟨ps,rfl,hk⟩:=YE hk;obtain⟨cs,bs,hk,hl,Azr,hF,XW,F4,Ko,OC⟩:=DK shr N hk;obtain⟨hri,Mz⟩:=boxes F4;refine⟨.ptr id 0,_,hk,by simp only[plc,Af5,he,hl],by simp,fun h=>?_,fun i hi=>?_,fun i cells hm c hc i' hi'=>?_,fun w A own β' z j0 u hβ ho=>?_⟩
  ·have:=(LQ h).1;rw[he] at this;cases this
  ·simp only[Ct,Au,Qi] at hi;subst hi;exact⟨_,FR⟩
  ·rcases Ch.1 hm with e|hm
   ·cases e;obtain⟨bx,hb⟩:=Ko c hc i' hi';exact⟨bx,Tz _ hb⟩
   ·obtain⟨bx,hb⟩:=hri i cells hm c hc i' hi';exact⟨bx,Tz _ hb⟩
  ·obtain⟨b,o,h1,hz,rfl,vs,h3,h4,h5⟩:=ho;have h0:=hβ 0 ⟨_,by rw[Nat.mul_zero,ZW];exact FR⟩
   rw[Nat.mul_zero,ZW,ZW,h1] at h0;have B4:∀j,id+N+N*j=id+N*(j+1):=fun j=>by rw[Nat.mul_add];omega
   have hβ1:∀j,(∃bx,(id+N+N*j,bx)∈bs)->β' (id+N+N*j)=own (j0+1+j):=fun j ⟨bx,hm⟩=>by
    rw[B4,hβ (j+1) ⟨bx,by rw[<-B4];exact Tz _ hm⟩]
    congr 1;omega
   have hc2:=OC w A own β' (j0+1) vs hβ1 h3;have DQ:=Mz w A own β' (j0+1) vs hβ1 h3 z;have Ek:cs.length=ps.length:=by rw[hc2.len,<-h3.len]
   refine⟨⟨b,o,h0,by simp⟩,fun i bx hm=>?_⟩;rcases Ch.1 hm with e|hm
   ·cases e;refine⟨⟨0,by simp,by simp only[plc];omega⟩,trivial,⟨b,o,h0,fun k c hk=>?_,fun k hk=>h5 k (by omega)⟩,fun _ _ b' o' Iq=>?_⟩
    ·obtain⟨v,hv,hcr⟩:=hc2.get hk;exact⟨v,h4 k v hv,hcr⟩
    ·rw[h0] at Iq;cases Iq;exact hz
   ·obtain⟨⟨j,hj,hjn⟩,h6,h7⟩:=DQ i bx hm;exact⟨⟨j+1,by rw[hj,B4],by simp only[plc];omega⟩,h6,h7⟩
 ·rename_i hnp;have Xl:Af5 P t=(Kn P t).length:=by simp only[Af5,hnp]
  cases Hs:C5 P t
  ·rw[Hs] at hk;obtain⟨cs,bs,hk,hl,Azr,hF,XW,F4,Ko,OC⟩:=DK shr N (show Wm _ _ _ _ _ _=some r from hk);obtain⟨c,t',rfl,hk⟩:=Bo hk;obtain⟨rfl,hk⟩:=Em hk;have hFc:=hF c (by simp);have Bcs:∀x,p ≠ .pbox x:=fun x=>(Azr p (by simp) x).2;have A56:∀x,c ≠ .agg x:=by rintro x rfl;exact hFc
   have Bmj:∀x,c ≠ .tup x:=by rintro x rfl;exact hFc
   have VU:Ct c=Au c:=by cases c<;>first|rfl|exact absurd rfl (A56 _)
   have hpa:∀x,p ≠ .agg x:=fun x=>(Azr p (by simp) x).1;obtain⟨hri,Mz⟩:=boxes F4;have Ev:cellsOf p=[p]:=by cases p<;>first|rfl|exact absurd rfl (hpa _)
   have A90:plc p=1:=by cases p<;>first|rfl|exact absurd rfl (hpa _)|exact absurd rfl (Bcs _)
   have hcc:cellsOf c=[c]:=by cases c<;>first|rfl|exact absurd rfl (A56 _)
   refine⟨c,bs,hk,by rw[A90,Xl];exact hl,Bmj,fun Gh=>by rw[hcc];exact XW (LQ Gh).2,fun i hi=>Ko c (by simp) i (by rw[<-VU];exact hi),hri,fun w A own β' z j0 u hβ ho=>?_⟩
   have ho':H8 w A (own j0) p u:=by cases p<;>first|exact ho|exact absurd rfl (hpa _)|exact absurd rfl (Bcs _)
   exact⟨(Yn A56).2 (OC w A own β' j0 [u] hβ ⟨ho',trivial⟩).1,by rw[A90];exact Mz w A own β' j0 [u] hβ ⟨ho',trivial⟩ z⟩
  ·rw[Hs] at hk;obtain⟨ps,rfl,hk⟩:=Jj (show Di _ _=some r from hk);obtain⟨cs,bs,hk,hl,Azr,hF,XW,F4,Ko,OC⟩:=DK shr N hk;obtain⟨hri,Mz⟩:=boxes F4;refine⟨.agg cs,bs,hk,by rw[Xl];exact hl,by simp,fun Gh=>XW (LQ Gh).2,fun i hi=>?_,hri,fun w A own β' z j0 u hβ ho=>?_⟩
   ·obtain⟨c,hc,hi⟩:=List.mem_flatMap.1 (show i∈cs.flatMap Au from hi);exact Ko c hc i hi
   ·obtain⟨vs,rfl,ho⟩:=ho;exact⟨⟨vs,rfl,OC w A own β' j0 vs hβ ho⟩,Mz w A own β' j0 vs hβ ho z⟩
theorem LW(shr:Bool)(N:Nat):∀{ts:List TypeId}{ps:Ae}{id:Nat}{K:Ae->List (Nat × Cc)->Option R},NN P shr N id ts ps K=some r ->
  ∃vs bs,K vs bs=some r/\vs.length=ps.length/\(∀v∈vs,∀x,v ≠ .tup x)/\(Mg P ts=false->bs=[]/\∀v∈vs,∀c∈cellsOf v,∃u,c=.sc u)/\(∀v∈vs,∀i∈Ct v,∃bx,(i,bx)∈bs)/\NF bs /\
   ∀(w:World) (A:Nat->Prop) (own β':Bt) (z j0:Nat) (us:List Value),(∀j,(∃bx,(id+N*j,bx)∈bs)->β' (id+N*j)=own (j0+j))->Aah w A own z j0 ps us->Bx (Hq w A β') vs us/\Arp N id β' w A z (N6 ps) bs
 |[],ps,id,K,hk=>by
  obtain⟨rfl,hk⟩:=Em hk;refine⟨[],[],hk,rfl,by simp,by simp,by simp,(by intro i cells hm;cases hm),fun w A own β' z j0 us _ h=>?_⟩
  cases us with
  |nil=>exact⟨trivial,by intro i bx hm;cases hm⟩
  |cons u us=>exact h.elim
 |t::ts,ps,id,K,hk=>by
  unfold NN at hk;obtain⟨p,ps',MS,Er⟩:=Bo hk;subst MS;clear hk;obtain⟨v,bs,hk,hl,hnt,XW,VU,hri,hv⟩:=Aum shr N Er;obtain⟨vs,bs',hk,IP,Bln,A2z,hrs,Bhf,Ma⟩:=LW shr N hk;refine⟨v::vs,bs++bs',hk,by simp[IP],?_,?_,?_,?_,fun w A own β' z j0 us hβ ho=>?_⟩
  ·intro x hx;rcases Ch.1 hx with rfl|hx
   ·exact hnt
   ·exact Bln x hx
  ·intro Gh;simp only[Mg,List.any_cons,Bool.or_eq_false_iff] at Gh;obtain⟨h1,h2⟩:=XW (by simp only[Mg,List.any_cons,List.any_nil,Bool.or_false,Bool.or_eq_false_iff];exact Gh.1)
   obtain⟨h3,h4⟩:=A2z (by simp only[Mg];exact Gh.2)
   refine⟨by rw[h1,h3];rfl,fun x hx=>?_⟩
   rcases Ch.1 hx with rfl|hx
   ·exact h2
   ·exact h4 x hx
  ·intro x hx i hi;rcases Ch.1 hx with rfl|hx
   ·obtain⟨bx,hm⟩:=VU i hi;exact⟨bx,by simp[hm]⟩
   ·obtain⟨bx,hm⟩:=hrs x hx i hi;exact⟨bx,by simp[hm]⟩
  ·intro i cells hm c hc i' hi';rcases B5.1 hm with hm|hm
   ·obtain⟨bx,hb⟩:=hri i cells hm c hc i' hi';exact⟨bx,by simp[hb]⟩
   ·obtain⟨bx,hb⟩:=Bhf i cells hm c hc i' hi';exact⟨bx,by simp[hb]⟩
  ·cases us with
   |nil=>exact ho.elim
   |cons u us=>
    obtain⟨h1,F4⟩:=hv w A own β' z j0 u (fun j ⟨bx,hm⟩=>hβ j ⟨bx,by simp[hm]⟩) ho.1;have B4:∀j,id+N*Af5 P t+N*j=id+N*(Af5 P t+j):=fun j=>by rw[Nat.mul_add];omega
    obtain⟨h2,Ko⟩:=Ma w A own β' z (j0+plc p) us (fun j ⟨bx,hm⟩=>by rw[B4,hβ _ ⟨bx,by rw[<-B4];simp[hm]⟩,hl];congr 1;omega) ho.2
    refine⟨⟨h1,h2⟩,fun i bx hm=>?_⟩;rcases B5.1 hm with hm|hm
    ·obtain⟨⟨j,hj,hjn⟩,h4,h5⟩:=F4 i bx hm;exact⟨⟨j,hj,by simp only[N6,X4,List.sum_cons];omega⟩,h4,h5⟩
    ·obtain⟨⟨j,hj,hjn⟩,h4,h5⟩:=Ko i bx hm;refine⟨⟨_,by rw[hj,B4],?_⟩,h4,h5⟩;simp only[N6,X4,List.sum_cons] at hjn ⊢;omega
def PH(N d:Nat)(bs:List (Nat × Cc))(own β:Bt):Bt:=fun i=>if (bs.any fun q=>Nat.beq q.1 i)=true then own ((i-d) / N) else β i
theorem Acr{bs:List (Nat × Cc)}{i:Nat}:(bs.any fun q=>Nat.beq q.1 i)=true↔∃bx,(i,bx)∈bs:=by
 rw[List.any_eq_true];constructor
 ·rintro⟨⟨j,bx⟩,hm,e⟩
  have:=Dx e;subst this;exact⟨bx,hm⟩
 ·rintro⟨bx,hm⟩
  exact⟨_,hm,Og i⟩
theorem Amn{N d j:Nat}(hN:0<N){bs:List (Nat × Cc)}{own β:Bt}(h:∃bx,(d+N*j,bx)∈bs):PH N d bs own β (d+N*j)=own j:=by unfold PH;rw[Cr (Acr.2 h),Nat.add_sub_cancel_left,Nat.mul_div_cancel_left _ hN]
theorem TA{c:Call}{f:FuncId}(ho:o.op=.call c)(hc:c.callee=.value (.func f))(I7:NoNG P){fn:Func}(hf:P.funcs[f]?=some fn)(hb:fn.body.isSome=true):
  (execOp a.eval o).run P w=.ok (.enter f (c.args.map a.eval)) w:=by
 unfold execOp;rw[ho]
 have hn:¬fn.body=none:=by
  intro h;rw[h] at hb;cases hb
 have Gh:¬fn.name = "runtime.NumGoroutine" :=by simpa using I7 f fn hf
 simp[resolve,hc,Act.eval,Deferred.ofValue,invoke,callFunc,hf,Gh,hn]
theorem Aoi{c:Call}{t:Nat}{f:FuncId}(ho:o.op=.call c)(hc:c.callee=.value (.tmp t))(ht:a.eval (.tmp t)=.func (.func f) #[] #[])(I7:NoNG P){fn:Func}(hf:P.funcs[f]?=some fn)(hb:fn.body.isSome=true):
  (execOp a.eval o).run P w=.ok (.enter f (c.args.map a.eval)) w:=by
 unfold execOp;rw[ho]
 have hn:¬fn.body=none:=by
  intro h;rw[h] at hb;cases hb
 have Gh:¬fn.name = "runtime.NumGoroutine" :=by simpa using I7 f fn hf
 simp[resolve,hc,ht,Deferred.ofValue,invoke,callFunc,hf,Gh,hn]
theorem OI{A':Nat->Prop}(k:Bool):∀{xs:List Operand}{ps:Ae},Bx (Vx w A') ps (xs.map a.eval)->Bx (Vx w A') (Mw k xs ps) (xs.map a.eval)
 |[],[],h=>h
 |[],_::_,h=>h
 |_::_,[],h=>h
 |x::xs,p::ps,h=>by
  simp only[X4] at h ⊢;refine⟨?_,OI k h.2⟩;split
  ·exact⟨trivial,Av.lnil _ _⟩
  ·exact h.1
theorem VQ(h : Cj N w0 X0 Y β s a w){G : Vg}(I7 : NT P G w0 X0){C : Ih}{call : Ap}(Dc : ∀ f args res, call f args = some res -> C9 G P f args res){c : Call}{f : FuncId}(Ds : ∀ {fn : Func}, P.funcs[f]? = some fn -> fn.body.isSome = true -> (execOp a.eval o).run P w = .ok (.enter f (c.args.map a.eval)) w){K : PV -> B9 -> List (Nat × Cc) -> Option R}(hk : (TU P (Mh s.hp) (SG P f c) (c.args.toList.map (Cx s.tm)) fun vs m =>
          A9 (call f (Mw (C.kz f) c.args.toList vs)) fun rv ro => Ak ro (As (Nat.blt 0 N) <| NN P (C.shr f) N (o.dst.getD 0) (Sb P o.type) rv fun ws bs =>
            As (bif Uc P o.type then !Nat.beq ws.length 1 else Nat.beq ws.length 1) <| K (Su ws (Uc P o.type)) (bif Mg P (Sb P o.type) then m else []) bs)) = some r): ∃ v fz nw, K v fz nw = some r /\ VC P a w o Y β s v fz nw := by
  obtain⟨ps, m, hk, hm, F0⟩ := ZR h hk
  replace F0 := fun fz h1 h2 => OI (a := a) (C.kz f) (F0 fz h1 h2)
  generalize Mw (C.kz f) c.args.toList ps = ps at hk F0
  obtain⟨rv, ro, M9, hk⟩ := ZX hk
  obtain⟨rfl, hk⟩ := Em hk
  obtain⟨hN, hk⟩ := Aq hk
  have hN : 0 < N := Nat.lt_of_succ_le (R5 hN)
  obtain⟨ws, bs, hk, hwl, hnt, XW, hrs, hri, hws⟩ := LW (C.shr f) N hk
  obtain⟨V6, hk⟩ := Aq hk
  obtain⟨⟨fn, hfn, hfb⟩, Z5⟩ := Dc f ps _ M9
  obtain⟨fz, Y5, hfm⟩ : ∃ fz : B9, fz = (bif Mg P (Sb P o.type) then m else []) /\ ∀ id ∈ fz, ∃ f c, s.hp id = some (.ar f c) := by
    refine⟨_, rfl, fun id B4 => ?_⟩
    cases hh : Mg P (Sb P o.type) <;> rw[hh] at B4
    · cases B4
    · exact hm id B4
  rw[<- Y5] at hk
  refine⟨_, _, _, hk, hfm, fun next Q hn => ?_⟩
  have hf := h.freeze hfm
  have hYc : ∃ Yc : Nat -> Prop, (∀ b, Yc b -> b < w.heap.size) /\ Bx (Vx w Yc) ps (c.args.toList.map a.eval) /\ ((∀ b, Dv (Ah s.hp fz) β Y b -> Yc b) \/ Mg P (Sb P o.type) = false) := by
    have Qn := F0 m (fun _ hi => hi) hm
    cases hh : Mg P (Sb P o.type)
    · exact⟨fun _ => False, fun _ x => x.elim, Qn.mono fun _ _ hx => hx.weaken (fun _ _ x => x.elim), .inr rfl⟩
    · rw[hh] at Y5
      have Y5 : fz = m := Y5
      subst Y5
      refine⟨Dv (Ah s.hp fz) β Y, fun b hb => ?_, Qn, .inl fun _ x => x⟩
      rcases hb with⟨id, ob, hl, hβ⟩ | hY
      · exact hf.blt id b ob (Dw hl) hβ
      · exact Ft (h.Ylt b hY) h.fr.step.size
  obtain⟨Yc, A2b, hYargs, hYA⟩ := hYc
  unfold Oper.wp
  rw[Ds hfn hfb]
  show Calls P f _ w _
  have hca : c.args.map a.eval = (c.args.toList.map a.eval).toArray := by rw[<- List.map_toArray, Array.toArray_toList]
  rw[hca]
  refine (Z5 w Yc FJ _ (Agg A2b hYargs) (I7.fr w h.fr) (fun b x => ⟨Ft (I7.y b x).1 h.fr.step.size, Ng b⟩)).mono ?_
  rintro e w' ⟨vs, own, rfl, PM⟩
  refine hn (G8 vs) w' fun Vj => ⟨PH N (o.dst.getD 0) bs own β, ?_⟩
  obtain⟨ha1, Xk⟩ := Cb Vj
  have Avz : ∀ i bx, (i, bx) ∈ bs -> Ah s.hp fz i = none := fun i bx hm => E8.2 (ha1 i bx hm)
  obtain⟨hg1, hg2⟩ := Fk (hp := Ah s.hp fz) Xk
  have hold : ∀ i, Ah s.hp fz i ≠ none -> PH N (o.dst.getD 0) bs own β i = β i := by
    intro i hi
    unfold PH
    rw[B3]
    intro hx
    obtain⟨bx, hm⟩ := Acr.1 hx
    exact hi (Avz i bx hm)
  obtain⟨Ma, hba⟩ := hws w' _ own (PH N (o.dst.getD 0) bs own β) w.heap.size 0 vs (fun j hj => by rw[Amn hN hj, Ie]) PM.vals
  have FG : ∀ i bx, (i, bx) ∈ bs -> ∃ j, i = o.dst.getD 0 + N * j /\ PH N (o.dst.getD 0) bs own β i = own j := by
    intro i bx hm
    obtain⟨⟨j, rfl, _⟩, _, _⟩ := hba i bx hm
    exact⟨j, rfl, Amn hN ⟨bx, hm⟩⟩
  have hAA : Mg P (Sb P o.type) = false \/ ∀ b, Dv (A6 (Ah s.hp fz) bs) (PH N (o.dst.getD 0) bs own β) Y b -> Yr FJ own Yc b := by
    rcases hYA with hYA | hYA
    · refine .inr fun b hb => ?_
      rcases hb with⟨i, ob, hl, hβ⟩ | hY
      · by_cases hi : ∃ bx, (i, bx) ∈ bs
        · obtain⟨bx, hm⟩ := hi
          obtain⟨j, _, h3⟩ := FG i bx hm
          rw[h3] at hβ
          exact .inl ⟨j, ob, hβ⟩
        · rw[hg2 i (fun bx hm => hi ⟨bx, hm⟩)] at hl
          rw[hold i (Dw hl)] at hβ
          exact .inr (.inr (hYA b (.inl ⟨i, ob, hl, hβ⟩)))
      · exact .inr (.inr (hYA b (.inr hY)))
    · exact .inl hYA
  have hval : Ex w' (Dv (A6 (Ah s.hp fz) bs) (PH N (o.dst.getD 0) bs own β) Y) (PH N (o.dst.getD 0) bs own β) (Su ws (Uc P o.type)) (G8 vs) := by
    have Qn : Bx (Hq w' (Dv (A6 (Ah s.hp fz) bs) (PH N (o.dst.getD 0) bs own β) Y) (PH N (o.dst.getD 0) bs own β)) ws vs := by
      rcases hAA with hno | hAA
      · obtain⟨_, hsc⟩ := XW hno
        refine Ma.mono_mem fun v hv u hvu => ?_
        have hsc := hsc v hv
        cases v with
        | agg cs =>
          obtain⟨xs, rfl, VZ⟩ := hvu
          refine⟨xs, rfl, VZ.mono_mem fun cc hcc x hx => ?_⟩
          obtain⟨y, rfl⟩ := hsc cc hcc
          have := Av.val (w := w') hx
          subst this
          exact Av.sc _
        | sc y =>
          have := Av.val (w := w') hvu
          subst this
          exact Av.sc _
        | lst z es n cc => obtain⟨y, hy⟩ := hsc _ (Vv _); cases hy
        | own es n cc => obtain⟨y, hy⟩ := hsc _ (Vv _); cases hy
        | view i es n cc => obtain⟨y, hy⟩ := hsc _ (Vv _); cases hy
        | ptr i cc => obtain⟨y, hy⟩ := hsc _ (Vv _); cases hy
        | iptr i cc => obtain⟨y, hy⟩ := hsc _ (Vv _); cases hy
        | pbox cc => obtain⟨y, hy⟩ := hsc _ (Vv _); cases hy
        | tup cc => obtain⟨y, hy⟩ := hsc _ (Vv _); cases hy
        | top => obtain⟨y, hy⟩ := hsc _ (Vv _); cases hy
        | ub => obtain⟨y, hy⟩ := hsc _ (Vv _); cases hy
      · exact Ma.mono fun v u hvu => hvu.step (Cw.refl _ _) (fun b _ => hAA b) (fun _ _ => rfl)
    have Ek := Qn.len
    cases hT : Uc P o.type
    · rw[hT] at V6
      have h1 : ws.length = 1 := Dx V6
      match ws, vs, h1, Ek with
      | [v], [u], _, _ =>
        exact (Oy (hnt v (by simp))).2 Qn.1
    · rw[hT] at V6
      have h1 : ¬ ws.length = 1 := by
        intro e
        rw[e] at V6
        cases V6
      have hr : G8 vs = .tuple ⟨vs⟩ := by
        unfold G8
        split
        · simp at Ek; omega
        · rfl
      rw[hr]
      exact⟨vs, rfl, Qn⟩
  refine⟨PM.os, PM.tape, PM.output, PM.ext.weaken (fun b _ hb => Ng b hb), hold, ?_, ?_, ?_, ?_, ?_, hval, ?_⟩
  · intro i bx hm
    exact (hba i bx hm).2.1
  · intro i bx hm
    rcases hAA with hno | hAA
    · rw[(XW hno).1] at hm; cases hm
    · exact (hba i bx hm).2.2.1.step' hAA
  · intro i bx b ob hm hβ
    obtain⟨j, _, h3⟩ := FG i bx hm
    rw[h3] at hβ
    obtain⟨h4, h5⟩ := PM.fresh j b ob hβ
    refine⟨?_, h4⟩
    rcases Ig b w.heap.size with h | h
    · obtain⟨⟨_, _, _, h6⟩, _⟩ := h5 h
      cases h6
    · exact h
  · intro i bx i' bx' b ob ob' hm N0 hβ hβ'
    obtain⟨j, h1, h3⟩ := FG i bx hm
    obtain⟨j', h1', h3'⟩ := FG i' bx' N0
    rw[h3] at hβ
    rw[h3'] at hβ'
    rw[h1, h1', PM.inj j j' b ob ob' hβ hβ']
  · intro i cells hm c hc i' hi'
    exact .inr (hri i cells hm c hc i' hi')
  · intro i hi
    right
    cases hT : Uc P o.type
    · rw[hT] at V6 hi
      have h1 : ws.length = 1 := Dx V6
      match ws, h1 with
      | [v], _ =>
        refine hrs v (by simp) i ?_
        have : Cd v = Ct v := by
          have hn := hnt v (by simp)
          cases v <;> first | rfl | exact absurd rfl (hn _)
        rw[<- this]
        exact hi
    · rw[hT] at hi
      obtain⟨v, hv, hi⟩ := List.mem_flatMap.1 (show i ∈ ws.flatMap Ct from hi)
      exact hrs v hv i hi
end
open Go.RowKit
section
variable {R:Type}{r:R}{P:Program}{N:Nat}{w0:World}{X0:F3}{Y:Nat->Prop}{β β':Bt}{s:St}{a:Act}{w w':World}{o:Oper}{A:Nat->Prop}
theorem Cj.move(h:Cj N w0 X0 Y β s a w){id d:Nat}{c cells:Ae}{bo:Option (Nat × Nat)}{v:PV}{val:Value}(h0:s.hp id=some (.ar false c))(hd:s.hp d=none)(hdN:d<N)(hos:w'.os=w.os)(htp:w'.tape=w.tape)(PM:w'.output=w.output)(Aeg:w.heap.size<=w'.heap.size)(Qb:∀k,k<w.heap.size->(∀x,β id≠some (k,x))->w'.heap[k]?=w.heap[k]?)(PZ:∀k,k<w.heap.size->Fi w w' k)(hbo:∀k x,bo=some (k,x)->k<w'.heap.size/\(w.heap.size<=k\/∃y,β id=some (k,y)))(hbr:∀k x,bo=some (k,x)->k<w.heap.size->β id=some (k,x))(hO:∀k y,β id=some (k,y)->k<w.heap.size->∀j,j<y->w'.cell? ⟨k,j,none⟩=w.cell? ⟨k,j,none⟩/\w'.frozen? ⟨k,j,none⟩=w.frozen? ⟨k,j,none⟩)(Mz:Wq w' (Dv (Dt (Dt s.hp id (some .mv)) d (some (.ar false cells))) (Dt β d bo) Y) (Dt β d bo) d (.ar false cells))(hv:Ex w' (Dv (Dt (Dt s.hp id (some .mv)) d (some (.ar false cells))) (Dt β d bo) Y) (Dt β d bo) v val)(hr:∀i∈Cd v,i=d):
  Cj N w0 X0 Y (Dt β d bo) ⟨Dt s.tm d v,Dt (Dt s.hp id (some .mv)) d (some (.ar false cells))⟩ (a.put (some d) val) w':=by
 have Gh:id≠d:=by rintro rfl;rw[h0] at hd;cases hd
 have LX:∀i,i≠id->i≠d->Dt (Dt s.hp id (some Cc.mv)) d (some (.ar false cells)) i=s.hp i:=fun i h1 h2=>by rw[Ao _ _ h2,Ao _ _ h1]
 have Axz:Dt (Dt s.hp id (some Cc.mv)) d (some (.ar false cells)) id=some .mv:=by rw[Ao _ _ Gh,At]
 have hgd:Dt (Dt s.hp id (some Cc.mv)) d (some (.ar false cells)) d=some (.ar false cells):=At _ _ _
 have Gc:∀i,s.hp i≠none->Dt (Dt s.hp id (some Cc.mv)) d (some (.ar false cells)) i≠none:=by
  intro i hi;by_cases e:i=id
  ·subst e;rw[Axz];simp
  ·by_cases e':i=d
   ·subst e';rw[hgd];simp
   ·rw[LX i e e'];exact hi
 have hβo:∀i,s.hp i≠none->Dt β d bo i=β i:=fun i hi=>Ao _ _ (by rintro rfl;exact hi hd)
 have Afc:Dj (s.hp id):=by rw[h0];trivial
 have Il:∀i,Dj (Dt (Dt s.hp id (some Cc.mv)) d (some (.ar false cells)) i)->i=d\/(i≠id/\i≠d/\Dj (s.hp i)):=by
  intro i hi;by_cases e':i=d
  ·exact .inl e'
  ·by_cases e:i=id
   ·subst e;rw[Axz] at hi;exact hi.elim
   ·rw[LX i e e'] at hi;exact .inr ⟨e,e',hi⟩
 have hX:∀k,k<w.heap.size->II (Dt (Dt s.hp id (some .mv)) d (some (.ar false cells))) (Dt β d bo) k->II s.hp β k:=by
  rintro k hk ⟨i,x,hl,hβ⟩
  rcases Il i hl with rfl|⟨e,e',hl⟩
  ·rw[At] at hβ;rcases (hbo k x hβ).2 with H4|⟨y,hy⟩
   ·omega
   ·exact⟨id,y,Afc,hy⟩
  ·rw[Ao _ _ e'] at hβ;exact⟨i,x,hl,hβ⟩
 have hAo:∀k,k<w.heap.size->Dv (Dt (Dt s.hp id (some .mv)) d (some (.ar false cells))) (Dt β d bo) Y k->Dv s.hp β Y k:=fun k hk hx=>hx.imp (hX k hk) (fun y=>y);have Fn:Cw (Dv s.hp β Y) w w':=⟨Aeg,fun k hk hn=>Qb k hk fun x hx=>hn (.inl ⟨id,x,Afc,hx⟩),PZ⟩
 have Au3:∀i k x,i≠id->i≠d->(∃b,s.hp i=some b/\b ≠ .mv)->β i=some (k,x)->k<w.heap.size/\w'.heap[k]?=w.heap[k]?:=by
  rintro i k x e e' ⟨b,hb,hmv⟩ hβ
  have hk:=h.blt i k x (by rw[hb];simp) hβ
  refine⟨hk,Qb k hk fun y hy=>?_⟩;have Apv:=h.box i b hb;cases b with
  |st cc=>exact e (h.inj i id k x y (by rw[hb];trivial) Afc hβ hy)
  |ar fz cc=>
   cases fz with
   |false=>exact e (h.inj i id k x y (by rw[hb];trivial) Afc hβ hy)
   |true=>
    rcases Apv with⟨h1,_⟩|⟨k',x',h1,_,_,h4⟩
    ·rw[hβ] at h1;cases h1
    ·rw[hβ] at h1;simp at h1;obtain⟨rfl,rfl⟩:=h1
     exact h4 rfl (.inl ⟨id,y,Afc,hy⟩)
  |mv=>exact absurd rfl hmv
 refine⟨by rw[Oj];exact h.dfr,by rw[Pj];exact h.tsz,?_,?_,?_,?_,?_,?_,?_,?_,?_,?_,?_,?_,h.Ylt,?_⟩
 ·intro i hi;show Dt s.tm d v i=_;rw[Ao _ _ (by omega)];exact h.tmo i hi
 ·refine Ul (d:=some d) (Q:=fun _ p u=>Ex w' (Dv (Dt (Dt s.hp id (some .mv)) d (some (.ar false cells))) (Dt β d bo) Y) (Dt β d bo) p u) h.tsz (by simp[H9,Nat.blt];omega) (fun i hi=>?_) (fun _=>hv)
  exact (h.tms i hi).step Fn hAo fun j hj=>hβo j (h.wfT i hi j hj)
 ·intro i bi hb;simp only at hb;by_cases e':i=d
  ·subst e';rw[hgd] at hb;cases hb;exact Mz
  ·by_cases e:i=id
   ·subst e;rw[Axz] at hb;cases hb;trivial
   ·rw[LX i e e'] at hb;have hβi:=hβo i (by rw[hb];simp)
    have PS:=h.box i bi hb;cases bi with
    |st cc=>
     obtain⟨k,x,h1,h2,h3⟩:=PS;obtain⟨hk,Tl⟩:=Au3 i k x e e' ⟨_,hb,by simp⟩ h1;refine⟨k,x,by rw[hβi];exact h1,fun j p hj=>?_,fun j hj=>?_⟩
     ·obtain⟨u,hu,hc⟩:=h2 j p hj;exact⟨u,by rw[World.cell?_of_block (w:=w) Tl];exact hu,hc.step Fn hAo fun q hq=>hβo q (h.wfB i cc hb p (List.mem_of_getElem? hj) q hq)⟩
     ·rw[World.frozen?_of_block (w:=w) Tl];exact h3 j hj
    |ar fz cc=>
     rcases PS with⟨h1,h2⟩|⟨k,x,h1,h2,h3,h4⟩
     ·exact .inl ⟨by rw[hβi];exact h1,h2⟩
     ·obtain⟨hk,Tl⟩:=Au3 i k x e e' ⟨_,hb,by simp⟩ h1;refine .inr ⟨k,x,by rw[hβi];exact h1,fun j p hj=>?_,fun ef j hj Tq=>?_,fun ef hx=>h4 ef (hAo k hk hx)⟩
      ·obtain⟨u,hu,h5,hc⟩:=h2 j p hj;exact⟨u,by rw[World.cell?_of_block (w:=w) (by rw[Fv];exact Tl)];exact hu,h5,hc.step Fn hAo⟩
      ·rw[World.frozen?_of_block (w:=w) Tl];refine h3 ef j hj ?_;unfold bsz at Tq ⊢;rw[Tl] at Tq;exact Tq
    |mv=>trivial
 ·intro i i' k x y hl Oo hb Iq;simp only at hl Oo
  have key:∀j z,j≠id->j≠d->Dj (s.hp j)->β j=some (k,z)->bo=some (k,y)\/bo=some (k,x)->False:=by
   intro j z e e' hlj hβj hbk;have hk:=h.blt j k z (Dw hlj) hβj;have:∃t,bo=some (k,t):=by rcases hbk with q|q<;>exact⟨_,q⟩
   obtain⟨t,ht⟩:=this;rcases (hbo k t ht).2 with H4|⟨q,hq⟩
   ·omega
   ·exact e (h.inj j id k z q hlj Afc hβj hq)
  rcases Il i hl with rfl|⟨e,e',WP⟩
  ·rcases Il i' Oo with rfl|⟨e2,e2',A29⟩
   ·rfl
   ·rw[At] at hb;rw[Ao _ _ e2'] at Iq;exact (key i' y e2 e2' A29 Iq (.inr hb)).elim
  ·rcases Il i' Oo with rfl|⟨e2,e2',A29⟩
   ·rw[At] at Iq;rw[Ao _ _ e'] at hb;exact (key i x e e' WP hb (.inl Iq)).elim
   ·rw[Ao _ _ e'] at hb;rw[Ao _ _ e2'] at Iq;exact h.inj i i' k x y WP A29 hb Iq
 ·intro i k x hi hb;simp only at hi;by_cases e':i=d
  ·subst e';rw[At] at hb;exact (hbo k x hb).1
  ·rw[Ao _ _ e'] at hb
   have hi':s.hp i≠none:=by
    by_cases e:i=id
    ·subst e;rw[h0];simp
    ·rw[LX i e e'] at hi;exact hi
   exact Ft (h.blt i k x hi' hb) Aeg
 ·have:=Ul (d:=some d) (Q:=fun _ p _=>∀j∈Cd p,Dt (Dt s.hp id (some Cc.mv)) d (some (.ar false cells)) j≠none) (val:=val) (v:=v) h.tsz (by simp[H9,Nat.blt];omega) (fun i hi j hj=>Gc j (h.wfT i hi j hj)) (fun _ j hj=>by
   rw[hr j hj,hgd];simp)
  exact this
 ·intro i cc hc p hp j hj;simp only at hc;by_cases e':i=d
  ·subst e';rw[hgd] at hc;cases hc
  ·by_cases e:i=id
   ·subst e;rw[Axz] at hc;cases hc
   ·rw[LX i e e'] at hc;exact Gc j (h.wfB i cc hc p hp j hj)
 ·rintro k ⟨i,x,hl,hβ⟩
  rcases Il i hl with rfl|⟨e,e',hl⟩
  ·rw[At] at hβ;rcases (hbo k x hβ).2 with H4|⟨y,hy⟩
   ·exact .inr (Nat.le_trans h.fr.step.size H4)
   ·exact h.ownd k ⟨id,y,Afc,hy⟩
  ·rw[Ao _ _ e'] at hβ;exact h.ownd k ⟨i,x,hl,hβ⟩
 ·intro i bi k x PS hli hβ Ck j hj;simp only at PS;rcases Il i (by rw[PS];exact hli) with rfl|⟨e,e',hl⟩
  ·rw[At] at hβ;rw[hgd] at PS;cases PS;have:=hbr k x hβ (Ft Ck h.fr.step.size);exact h.rngB id (.ar false c) k x h0 trivial this Ck j hj
  ·rw[LX i e e'] at PS;rw[Ao _ _ e'] at hβ;exact h.rngB i bi k x PS hli hβ Ck j hj
 ·intro i hi;exact⟨Gc _ (h.pin i hi).1,by rw[hβo _ (h.pin i hi).1];exact (h.pin i hi).2⟩
 ·intro i cc k x PS hβ Ck;simp only at PS;rcases Il i (by rw[PS];trivial) with rfl|⟨e,e',hl⟩
  ·rw[hgd] at PS;cases PS
  ·rw[LX i e e'] at PS;rw[Ao _ _ e'] at hβ;exact h.stp i cc k x PS hβ Ck
 ·intro k hY hx;exact h.Yx k hY (hX k (Ft (h.Ylt k hY) h.fr.step.size) hx)
 ·refine⟨hos.trans h.fr.os,htp.trans h.fr.tape,PM.trans h.fr.output,⟨Nat.le_trans h.fr.step.size Aeg,fun k hk hnk=>?_,fun k hk=>(h.fr.step.bs k hk).trans (PZ k (Ft hk h.fr.step.size))⟩,fun k j hk hL=>?_⟩
  ·rw[Qb k (Ft hk h.fr.step.size) ?_]
   ·exact h.fr.step.keep k hk hnk
   ·intro x hx;rcases h.ownd k ⟨id,x,Afc,hx⟩ with hq|hq
    ·exact hnk hq
    ·omega
  ·have hkw:=Ft hk h.fr.step.size
   have FD:w'.cell? ⟨k,j,none⟩=w.cell? ⟨k,j,none⟩/\w'.frozen? ⟨k,j,none⟩=w.frozen? ⟨k,j,none⟩:=by
    by_cases e:∃y,β id=some (k,y)
    ·obtain⟨y,hy⟩:=e;refine hO k y hy hkw j ?_;rcases Ig j y with q|q
     ·exact q
     ·exact absurd (h.rngB id (.ar false c) k y h0 trivial hy hk j q) hL
    ·have Tl:=Qb k hkw (fun x hx=>e ⟨x,hx⟩);exact⟨World.cell?_of_block (w:=w) Tl,World.frozen?_of_block (w:=w) Tl⟩
   rw[FD.1,FD.2];exact h.fr.rng k j hk hL
end
open Go.RowKit
section
variable {R:Type}{r:R}{P:Program}{N:Nat}{w0:World}{X0:F3}{Y:Nat->Prop}{β β':Bt}{s:St}{a:Act}{w w':World}{o:Oper}{A:Nat->Prop}
structure Src(P:Program)(w:World)(A:Nat->Prop)(size:Nat)(xv:Value)(m:Nat)(new:Ae)(news:List Value):Prop where
 len:∀w':World,(Builtin.lenOf xv).run P w'=.ok m w'
 cells:∀w':World,(∀b,b<w.heap.size->w'.heap[b]?=w.heap[b]?)->(Builtin.firstCells size m xv).run P w'=.ok news.toArray w'
 part:∀k,k<=m->(Builtin.firstCells size k xv).run P w=.ok (news.take (k*size)).toArray w
 one:∀u∈news,u.oneCell'=true
 rep:Bx (Av w A) new news
theorem UP(h:Cj N w0 X0 Y β s a w){e tx:TypeId}{x:Operand}{K:Nat->Ae->Option R}(hk:Aho P s (Bp P e) tx (Cx s.tm x) K=some r)(h1c:∀m new,K m new=some r->new.length=m*Bp P e):
  (∃d,P.underlying tx=some d/\(∀k,d ≠ .int k))/\∃m new news,K m new=some r/\Src P w (Dv s.hp β Y) (Bp P e) (a.eval x) m new news:=by
 unfold Aho Aig at hk;split at hk
 ·rename_i hu;obtain⟨DV,hk⟩:=Aq hk;have DV:=Dx DV;obtain⟨b,hx,hk⟩:=El hk;have Ee:=Da h hx;refine⟨⟨_,hu,by simp⟩,b.size,D3 b,b.data.toList.map (fun y=>Value.int .u8 y.toNat),hk,?_,?_,?_,?_,?_⟩
  ·intro w';rw[Ee];rfl
  ·intro w' _;rw[Ee]
   have hx:b.data.extract 0 b.size=b.data:=by
    have:b.size=b.data.size:=rfl;rw[this,Array.extract_size]
   have hd:(b.extract 0 b.size).data=b.data:=by
    rw[ByteArray.extract_zero_size]
   simp only[Builtin.firstCells,hd];rw[<-Array.toList_map,Array.toArray_toList];rfl
  ·intro k H4;rw[Ee,DV,J1];have hd:(b.extract 0 k).data=b.data.extract 0 k:=ByteArray.data_extract
   have e1:(b.data.extract 0 k).map (fun y=>Value.int .u8 y.toNat)=((b.data.toList.map fun y=>Value.int .u8 y.toNat).take k).toArray:=by
    apply Array.toList_inj.1;simp[List.map_take]
   simp only[Builtin.firstCells,hd];rw[e1];rfl
  ·intro u hu;simp at hu;obtain⟨y,_,rfl⟩:=hu;rfl
  ·unfold D3;generalize b.data.toList=l
   induction l with
   |nil=>trivial
   |cons y l ih=>exact⟨Av.sc _,ih⟩
 ·rename_i e' hu;refine⟨⟨_,hu,by simp⟩,?_⟩;obtain⟨m,new,hk,hc⟩:=RH h hk;have Ek:=h1c m new hk;rcases hc with⟨⟨ad,Ee⟩,rfl,rfl⟩|⟨ad,cap,Ee,hn,Ck,hrd⟩
  ·have f0:∀w':World,(Builtin.firstCells (Bp P e) 0 (.slice ad 0 0)).run P w'=.ok #[] w':=fun w'=>by
    cases ad with
    |none=>rfl
    |some p=>exact run_firstCells_some (P:=P) w' (Bp P e) 0 p 0 0 [] (by simp) (fun j v hj=>by simp at hj)
   exact⟨0,[],[],hk,fun w'=>by rw[Ee];rfl,fun w' _=>by rw[Ee];exact f0 w',fun k H4=>by rw[Ee,Nat.le_zero.1 H4,List.take_nil];exact f0 w,by simp,trivial⟩
  ·refine⟨m,new,new.mapIdx (fun j _=>(w.cell? (ad.add j)).getD undef),hk,fun w'=>by rw[Ee];rfl,fun w' hw=>?_,fun k H4=>?_,?_,?_⟩
   ·rw[Ee];refine run_firstCells_some (P:=P) w' (Bp P e) m ad m cap _ (by simp[Ek]) fun j v hj=>?_;rw[List.getElem?_mapIdx] at hj;cases hc:new[j]? with
    |none=>rw[hc] at hj;cases hj
    |some c=>
     rw[hc] at hj;simp at hj;obtain⟨u,hu,_⟩:=hrd j c hc;rw[hu] at hj;simp at hj;subst hj;have Ck:ad.block<w.heap.size:=by rcases Ck with rfl|Ck<;>first|exact Ck|simp at hc
     rw[World.cell?_of_block (w:=w) (by rw[Fv];exact hw _ Ck)]
     exact hu
   ·rw[Ee];have hkm:k*Bp P e<=m*Bp P e:=Nat.mul_le_mul_right _ H4;refine run_firstCells_some (P:=P) w (Bp P e) k ad m cap _ (by rw[List.length_take,List.length_mapIdx,Ek];omega) fun j v hj=>?_
    rw[List.getElem?_take] at hj;split at hj
    ·rw[List.getElem?_mapIdx] at hj;cases hc:new[j]? with
     |none=>rw[hc] at hj;cases hj
     |some c=>
      rw[hc] at hj;simp at hj;obtain⟨u,hu,_⟩:=hrd j c hc;rw[hu] at hj;simp at hj;subst hj;exact hu
    ·cases hj
   ·intro u hu;obtain⟨j,hj⟩:=List.mem_iff_getElem?.1 hu;rw[List.getElem?_mapIdx] at hj;cases hc:new[j]? with
    |none=>rw[hc] at hj;cases hj
    |some c=>
     rw[hc] at hj;simp at hj;obtain⟨v,hv,h2,ht⟩:=hrd j c hc;rw[hv] at hj;simp at hj;subst hj;exact h2
   ·refine Bx.of_at (by simp) fun j c v hc hj=>?_;rw[List.getElem?_mapIdx,hc] at hj;simp at hj;obtain⟨u,hu,_,ht⟩:=hrd j c hc;rw[hu] at hj;simp at hj;subst hj;exact ht
 ·cases hk
theorem RU{e:TypeId}(h:Ace P e=true):∃i z,P.info? e=some i/\i.zero=some z/\z.cells.size=i.size/\Bp P e=i.size:=by
 unfold Ace at h;split at h
 ·rename_i i hi;split at h
  ·rename_i z hz;exact⟨i,z,hi,hz,Dx h,by simp[Bp,hi]⟩
  ·cases h
 ·cases h
theorem run_first_slice{es n cap:Nat}{ad:Option Addr}{olds:List Value}(h:(ad=none/\olds=[])\/∃p,ad=some p/\olds.length=n*es/\∀(j:Nat) v,olds[j]?=some v->w.cell? (p.add j)=some v):
  (Builtin.firstCells es n (.slice ad n cap)).run P w=.ok olds.toArray w:=by
 rcases h with⟨rfl,rfl⟩|⟨p,rfl,hl,hc⟩
 ·rfl
 ·exact run_firstCells_some (P:=P) w es n p n cap olds hl hc
theorem append_grow_run{t tx ty e:TypeId}{i:TypeInfo}{z:Value}{d:TypeDesc}{ts:List TypeId}(ht:P.underlying t=some (.slice e))(htx:P.underlying tx=some d)(hd:∀k,d ≠ .int k)(hi:P.info? e=some i)(hz:i.zero=some z){ad:Option Addr}{n cap m:Nat}{xv:Value}{olds news:List Value}{A:Nat->Prop}{new:Ae}(hs:Src P w A i.size xv m new news)(hold:(ad=none/\olds=[])\/∃p,ad=some p/\olds.length=n*i.size/\∀(j:Nat) v,olds[j]?=some v->w.cell? (p.add j)=some v)(hg:cap<n+m)(hb:(n+m)*i.bytes<=1099511627776)(h63:n+m<=1099511627776):
  (Builtin.append_ (t::tx::ts).toArray ty #[.slice ad n cap,xv]).run P w =
   .ok (.slice (some ⟨w.heap.size,0,none⟩) (n+m) (grownCap w (n+m) cap e)) (w.drew.alloc (.cells (olds.toArray++news.toArray++Builtin.zeroCells z.cells (grownCap w (n+m) cap e-(n+m))) e)):=by
 have h1:=hs.len w;have h2:(Builtin.firstCells i.size m xv).run P w.drew=.ok news.toArray w.drew:=hs.cells w.drew (fun _ _=>rfl)
 have h3:(Builtin.firstCells i.size n (.slice ad n cap)).run P w.drew=.ok olds.toArray w.drew:=run_first_slice (w:=w.drew) (by
  rcases hold with hh|⟨p,hp,hl,hc⟩
  ·exact .inl hh
  ·exact .inr ⟨p,hp,hl,fun j v hj=>hc j v hj⟩)
 have An4:=growslice_fits (need:=n+m) (old:=cap) (bytes:=i.bytes) hg (by omega);have hn:¬(n+m<=cap):=by omega
 have Axl:¬(9223372036854775807<((n:Int)+(m:Int))):=by omega
 have Awx:¬(281474976710656<Builtin.nextslicecap (n+m) cap*i.bytes):=by omega
 have TB:(match d with | .int _=>true|_=>false)=false:=by cases d<;>first|rfl|exact absurd rfl (hd _)
 simp[Builtin.append_,run_underlying ht,run_underlying htx,TB,sizeOf,typeInfo,zeroValue,hi,hz,h1,hn,Axl,Awx,Question.forced,h2,h3,newRow,grownCap]
 congr 2
 apply Array.ext';simp[Zzv]
theorem append_room_run{t tx ty e:TypeId}{i:TypeInfo}{d:TypeDesc}{ts:List TypeId}(ht:P.underlying t=some (.slice e))(htx:P.underlying tx=some d)(hd:∀k,d ≠ .int k)(hi:P.info? e=some i){b ob n cap m:Nat}{xv:Value}{news:List Value}{A:Nat->Prop}{new:Ae}(hs:Src P w A i.size xv m new news)(hl:news.length=m*i.size)(Ev:∀k,k<news.length->(w.cell? ⟨b,ob+n*i.size+k,none⟩).isSome=true)(XF:∀k,k<news.length->w.frozen? ⟨b,ob+n*i.size+k,none⟩=false)(hg:n+m<=cap):
  (Builtin.append_ (t::tx::ts).toArray ty #[.slice (some ⟨b,ob,none⟩) n cap,xv]).run P w=.ok (.slice (some ⟨b,ob,none⟩) (n+m) cap) (w.setCells b (ob+n*i.size) news):=by
 have h1:=hs.len w;have h2:(Builtin.firstCells i.size m xv).run P w=.ok news.toArray w:=hs.cells w (fun _ _=>rfl);have h3:=run_storeCells_cells (P:=P) b (ob+n*i.size) news 0 w (fun k hk=>by simpa using Ev k hk) (fun k hk=>by simpa using XF k hk) hs.one;have TB:(match d with | .int _=>true|_=>false)=false:=by cases d<;>first|rfl|exact absurd rfl (hd _)
 have _:=hl;simp[Builtin.append_,run_underlying ht,run_underlying htx,TB,sizeOf,typeInfo,hi,h1,hg,h2,Ep];rw[h3];simp
theorem Agt{t ty e:TypeId}{i:TypeInfo}{ts:List TypeId}(ht:P.underlying t=some (.slice e))(hi:P.info? e=some i){ad:Option Addr}{n cap m:Nat}{xv:Value}{news:List Value}{A:Nat->Prop}{new:Ae}(hs:Src P w A i.size xv m new news){w1:World}(Fn:(match ad with|some p=>storeCells p (news.take (min m n*i.size)) 0|none=>pure ()).run P w=.ok () w1):
  (Builtin.copy_ (t::ts).toArray ty #[.slice ad n cap,xv]).run P w=.ok (goInt ((min m n:Nat):Int)) w1:=by
 have h1:=hs.len w;have h2:=hs.part (min m n) (Nat.min_le_left _ _);have e:Nat.min m n=min m n:=rfl;generalize min m n=k at *
 cases ad with
 |none=>
  simp only at Fn;simp[Builtin.copy_,run_underlying ht,sizeOf,typeInfo,hi,h1,h2,e]
  simpa using Fn
 |some p=>
  simp only at Fn;simp[Builtin.copy_,run_underlying ht,sizeOf,typeInfo,hi,h1,h2,e,Fn]
theorem NA{t tx ty e:TypeId}{i:TypeInfo}{k kx:IntKind}{ts:List TypeId}(ht:P.underlying t=some (.slice e))(htx:P.underlying tx=some (.int k))(hi:P.info? e=some i):
  (Builtin.append_ (t::tx::ts).toArray ty #[.slice none 0 0,.int kx 0]).run P w=.ok (.slice none 0 0) w:=by
 have hw:IntKind.i64.wrap 0=0:=by decide
 simp[Builtin.append_,run_underlying ht,run_underlying htx,sizeOf,typeInfo,hi,asInt,asIntOf,hw]
theorem PJ{t tx ty e:TypeId}{i:TypeInfo}{z:Value}{k kx:IntKind}{ts:List TypeId}(ht:P.underlying t=some (.slice e))(htx:P.underlying tx=some (.int k))(hi:P.info? e=some i)(hz:i.zero=some z){n:Int}(h0:0<n)(hb:n.toNat*i.bytes<=1099511627776)(hn:n<=1099511627776):
  (Builtin.append_ (t::tx::ts).toArray ty #[.slice none 0 0,.int kx n]).run P w =
   .ok (.slice (some ⟨w.heap.size,0,none⟩) n.toNat (grownCap w n.toNat 0 e)) (w.drew.alloc (.cells ((if n.toNat*i.size=0 then #[] else Builtin.zeroCells z.cells n.toNat)++Builtin.zeroCells z.cells (grownCap w n.toNat 0 e-n.toNat)) e)):=by
 have hw:IntKind.i64.wrap n=n:=IntWalk.i64_in n (by omega);have An4:=growslice_fits (need:=n.toNat) (old:=0) (bytes:=i.bytes) (by omega) (by omega);have LH:¬n<0:=by omega
 have Gc:¬(281474976710656<n*(i.bytes:Int)):=by
  have:n*(i.bytes:Int)=((n.toNat*i.bytes:Nat):Int):=by
   rw[Int.natCast_mul,Int.toNat_of_nonneg (by omega)]
  omega
 have Mb:¬(n.toNat=0):=by omega
 have Axl:¬(9223372036854775807<(n.toNat:Int)):=by omega
 have Awx:¬(281474976710656<Builtin.nextslicecap n.toNat 0*i.bytes):=by omega
 have Zi:¬n<=0:=by omega
 have hmx:¬(9223372036854775807<max n 0):=by omega
 by_cases hs:n.toNat*i.size=0
 ·simp[Builtin.append_,run_underlying ht,run_underlying htx,sizeOf,typeInfo,zeroValue,hi,hz,asInt,asIntOf,hw,LH,Gc,Mb,Zi,hmx,Axl,Awx,Question.forced,hs,newRow,grownCap,Builtin.firstCells]
 ·simp[Builtin.append_,run_underlying ht,run_underlying htx,sizeOf,typeInfo,zeroValue,hi,hz,asInt,asIntOf,hw,LH,Gc,Mb,Zi,hmx,Axl,Awx,Question.forced,hs,newRow,grownCap,Builtin.firstCells]
theorem Ql{t tx ty e:TypeId}{i:TypeInfo}{d:TypeDesc}{ts:List TypeId}(ht:P.underlying t=some (.slice e))(htx:P.underlying tx=some d)(hd:∀k,d ≠ .int k)(hi:P.info? e=some i){ad:Option Addr}{xv:Value}{news:List Value}{A:Nat->Prop}{new:Ae}(hs:Src P w A i.size xv 0 new news)(h0:news=[]):
  (Builtin.append_ (t::tx::ts).toArray ty #[.slice ad 0 0,xv]).run P w=.ok (.slice ad 0 0) w:=by
 subst h0;have h1:=hs.len w;have h2:(Builtin.firstCells i.size 0 xv).run P w=.ok ([]:List Value).toArray w:=hs.cells w (fun _ _=>rfl);have TB:(match d with | .int _=>true|_=>false)=false:=by cases d<;>first|rfl|exact absurd rfl (hd _)
 cases ad<;>simp[Builtin.append_,run_underlying ht,run_underlying htx,TB,sizeOf,typeInfo,hi,h1,h2,storeCells]
end
open Go.RowKit
section
variable {R:Type}{r:R}{P:Program}{N:Nat}{w0:World}{X0:F3}{Y:Nat->Prop}{β β':Bt}{s:St}{a:Act}{w w':World}{o:Oper}{A:Nat->Prop}
theorem BF{b j:Nat}(h:j<bsz w b):(w.cell? ⟨b,j,none⟩).isSome=true:=by
 unfold bsz at h;unfold World.cell?;split at h
 ·rename_i c e fz hb;simp[hb,h]
 ·omega
theorem Aiw{id d:Nat}{c cells:Ae}{bo:Option (Nat × Nat)}(h0:s.hp id=some (.ar false c))(hd:s.hp d=none)(hbo:∀k x,bo=some (k,x)->w.heap.size<=k\/∃y,β id=some (k,y)):
  ∀k,k<w.heap.size->Dv (Dt (Dt s.hp id (some .mv)) d (some (.ar false cells))) (Dt β d bo) Y k->Dv s.hp β Y k:=by
 rintro k hk (⟨i,x,hl,hβ⟩|hY)
 ·by_cases e':i=d
  ·subst e';rw[At] at hβ;rcases hbo k x hβ with h|⟨y,hy⟩
   ·omega
   ·exact .inl ⟨id,y,by rw[h0];trivial,hy⟩
  ·rw[Ao _ _ e'] at hl hβ;by_cases e:i=id
   ·subst e;rw[At] at hl;exact hl.elim
   ·rw[Ao _ _ e] at hl;exact .inl ⟨i,x,hl,hβ⟩
 ·exact .inr hY
theorem RK{pre new:Ae}{olds news:List Value}{zs:Array Value}{e:TypeId}{A':Nat->Prop}(hg:Gx w w' (olds.toArray++news.toArray++zs) e)(hA:∀b,b<w.heap.size->A' b->A b)(h1:Bx (Av w A) pre olds)(h2:Bx (Av w A) new news)(ho:∀u∈olds,u.oneCell'=true)(hn:∀u∈news,u.oneCell'=true):VV w' A' ⟨w.heap.size,0,none⟩ (pre++new):=by
 refine Alz hg hA fun j p hj=>?_;obtain⟨v,hv,ht⟩:=(h1.app h2).get hj;refine⟨v,?_,?_,ht⟩
 ·have Ck:j<(olds++news).length:=by
   rcases Ig j (olds++news).length with h|h
   ·exact h
   ·rw[List.getElem?_eq_none h] at hv;cases hv
  rw[Array.getElem?_append_left (by simpa using Ck)]
  simpa using hv
 ·rcases B5.1 (List.mem_of_getElem? hv) with hm|hm
  ·exact ho v hm
  ·exact hn v hm
theorem Abr(h:Cj N w0 X0 Y β s a w){c:Call}(ho:o.op=.call c)(hc:c.callee=.builtin .append)(hnb:LD c=true){d:Nat}(Ang:o.dst=some d){b x:Operand}(F0:c.args.toList=[b,x]){t tx:TypeId}{ts:List TypeId}(PT:c.argTypes.toList=t::tx::ts){K:PV->List (Nat × Cc)->Option R}(hk:DD P (Mh s.hp) d t tx (Cx s.tm x) K=some r):∃v nw,K v nw=some r/\Fh P a w o Y β s v [] nw:=by
 have hb:b=.const (.slice none 0 0):=by
  unfold LD at hnb;rw[F0] at hnb;split at hnb
  ·rename_i e;injection e
  ·cases hnb
 have TS:c.args = #[b,x]:=by
  have:c.args=([b,x]:List Operand).toArray:=by rw[<-F0]
  exact this
 have Adz:c.argTypes=(t::tx::ts).toArray:=by rw[<-PT]
 have Vj:a.eval b=.slice none 0 0:=by rw[hb];rfl
 have run:∀{v:Value} {w1:World},(Builtin.append_ (t::tx::ts).toArray o.type #[a.eval b,a.eval x]).run P w=.ok v w1->(execOp a.eval o).run P w=.ok (.value v) w1:=by
  intro v w1 hr;unfold execOp;rw[ho];simp only[resolve,hc,invoke,builtin,Sem.run_bind,Sem.run_pure,Result.andThen_ok,TS,Adz];have:(#[b,x]:Array Operand).map a.eval = #[a.eval b,a.eval x]:=by simp
  rw[this,hr];rfl
 unfold DD at hk;split at hk
 ·rename_i e hu;obtain⟨hzi,hk⟩:=Aq hk;obtain⟨i,z,hi,hz,RP,Km⟩:=RU hzi;have AR:((P.info? e).map (·.bytes)).getD 0=i.bytes:=by rw[hi];rfl
  obtain⟨⟨dx,hdx,Afe⟩,m,new,news,hk,hs⟩:=UP (s:=s) h hk (fun m new H4=>by
   obtain⟨hb,_⟩:=Aq H4;simp only[Fc,GF] at hb;exact hb.1.1)
  obtain⟨Iq,hk⟩:=Aq hk;simp only[Fc,GF] at Iq;obtain⟨⟨Ak2,hby⟩,QS⟩:=Iq;have hnl:new.length=news.length:=hs.rep.len;rw[Km] at Ak2 hk hs;rw[AR] at hby;have OH:news.length=m*i.size:=by omega
  refine⟨_,_,hk,by simp,?_⟩;by_cases hm0:m=0
  ·subst hm0;have hr:=Ql (P:=P) (w:=w) (t:=t) (tx:=tx) (ty:=o.type) (ts:=ts) (ad:=none) hu hdx Afe hi hs (List.eq_nil_of_length_eq_zero (by omega));rw[<-Vj] at hr;have Ad8:new=[]:=List.eq_nil_of_length_eq_zero (by omega);subst Ad8;refine⟨_,_,run hr,fun Arx=>⟨Dt β d none,?_⟩⟩;have EB:s.hp d=none:=(Cb Arx).1 d _ (Vv _);rw[Vj];refine⟨rfl,rfl,rfl,Cw.refl _ _,fun j hj=>Ao _ _ (by rintro rfl;exact hj EB),?_,?_,?_,?_,?_,.inl ⟨At _ _ _,rfl,rfl,none,rfl⟩,?_⟩
   ·intro j bx hm;simp at hm;rw[hm.2];trivial
   ·intro j bx hm;simp at hm;obtain⟨rfl,rfl⟩:=hm;exact .inl ⟨At _ _ _,rfl⟩
   ·intro j bx k q hm hq;simp at hm;obtain⟨rfl,rfl⟩:=hm;rw[At] at hq;cases hq
   ·intro j bx j' bx' k q q' hm N0 _ _;simp at hm N0;rw[hm.1,N0.1]
   ·intro j cells hm;simp at hm
   ·intro j hj;simp[Cd,Ct,Au] at hj;subst hj;exact .inr ⟨.ar false [],by simp⟩
  ·have hr:=append_grow_run (P:=P) (w:=w) (t:=t) (tx:=tx) (ty:=o.type) (ts:=ts) (ad:=none) (n:=0) (cap:=0) (olds:=[]) hu hdx Afe hi hz hs (.inl ⟨rfl,rfl⟩) (by omega) (by rw[Ie];exact hby) (by omega)
   rw[<-Vj] at hr;refine⟨_,_,run hr,fun Arx=>⟨Dt β d (some (w.heap.size,0)),?_⟩⟩;have EB:s.hp d=none:=(Cb Arx).1 d _ (Vv _);have hge:0+m<=grownCap w (0+m) 0 e:=grownCap_ge w (0+m) 0 e
   have GM:Gx w (w.drew.alloc (.cells (([]:List Value).toArray++news.toArray++Builtin.zeroCells z.cells (grownCap w (0+m) 0 e-(0+m))) e)) (([]:List Value).toArray++news.toArray++Builtin.zeroCells z.cells (grownCap w (0+m) 0 e-(0+m))) e:=
    ⟨rfl,rfl,rfl,fun k hk=>Below.heap_alloc w.drew _ k hk,by show (w.heap.push _).size=_;simp,(0,0),by show (w.heap.push _)[w.heap.size]?=_;simp,.inl rfl⟩
   have Ahw:(([]:List Value).toArray++news.toArray++Builtin.zeroCells z.cells (grownCap w (0+m) 0 e-(0+m))).size=grownCap w (0+m) 0 e*i.size:=by
    simp only[Array.size_append,List.size_toArray,size_zeroCells,RP,OH,WG,<-Nat.add_mul];rw[Ie (m*i.size),<-Nat.add_mul]
    congr 1
    omega
   refine Xa (s:=⟨s.tm,Ah s.hp []⟩) GM EB trivial ?_ (fun cells hx=>by cases hx) ?_ (by intro j hj;simp[Cd,Ct,Au] at hj;exact .inr hj)
   ·refine .inr ⟨w.heap.size,0,At _ _ _,?_,fun _ j _ hj=>?_,(fun q=>by cases q)⟩
    ·exact RK (pre:=[]) GM (Al2 (s:=⟨s.tm,Ah s.hp []⟩) EB) trivial hs.rep (by simp) hs.one
    ·rw[GM.bsz] at hj;exact GM.frozen hj
   ·refine .inr ⟨w.heap.size,0,0,grownCap w (0+m) 0 e,At _ _ _,by rw[Ie],.inl rfl,by omega,?_,by rw[GM.size];omega⟩
    exact⟨by rw[GM.bsz,Ahw];omega,.inr (Oa w.drew _ e)⟩
 ·cases hk
theorem Afl{lo hi:Option Operand}{y3:Operand}{k3:IntKind}{len cap l u m:Nat}(hl:(lo=none/\l=0)\/∃y k,lo=some y/\a.eval y=.int k (l:Int))(hu:∃y k,hi=some y/\a.eval y=.int k (u:Int))(hm:a.eval y3=.int k3 (m:Int))(h1:l<=u)(h2:u<=m)(h3:m<=cap):
  (Instr.sliceBounds true len cap (lo.map a.eval) (hi.map a.eval) (some (a.eval y3))).run P w=.ok (l,u,m) w:=by
 obtain⟨y,k,rfl,hy⟩:=hu;rcases hl with⟨rfl,rfl⟩|⟨y',k',rfl,hy'⟩
 ·simp[Instr.sliceBounds,Instr.sliceBound,asIntOf,hy,hm,h2,h3]
 ·simp[Instr.sliceBounds,Instr.sliceBound,asIntOf,hy,hy',hm,h1,h2,h3]
theorem Abo(h:Cj N w0 X0 Y β s a w){t:TypeId}{x m:Operand}{lo hi:Option Operand}(ho:o.op=.slice t x lo hi (some m)){d:Nat}{K:PV->List (Nat × Cc)->Option R}(hk:CQ P d t (Cx s.tm x) (lo.map (Cx s.tm)) (hi.map (Cx s.tm)) (some (Cx s.tm m)) K=some r):∃v nw,K v nw=some r/\Fh P a w o Y β s v [] nw:=by
 have hx:=D7 h x;unfold CQ at hk;split at hk
 ·rename_i e hu;obtain⟨hb,hk⟩:=Aq hk;simp only[Fc] at hb;obtain⟨Vp,hhi⟩:=hb
  obtain⟨yh,rfl⟩:∃y,hi=some y:=by
   cases hi with
   |none=>simp at hhi
   |some y=>exact⟨y,rfl⟩
  have fin:∀{ad:Option Addr} {n cap l u q:Nat},a.eval x=.slice ad n cap->n<=cap->((lo=none/\l=0)\/∃y k,lo=some y/\a.eval y=.int k (l:Int))->((some yh=none/\u=n)\/∃y k,some yh=some y/\a.eval y=.int k (u:Int))->(((some m:Option Operand)=none/\q=n)\/∃y k,(some m:Option Operand)=some y/\a.eval y=.int k (q:Int)) ->
    (Nat.beq l q&&Nat.beq u q&&decide (q<=n))=true->Fh P a w o Y β s (.view d (Bp P e) 0 0) [] [(d,.ar false [])]:=by
   intro ad n cap l u q Ee hn hl Mc hq hb;simp only[Fc,GF] at hb;obtain⟨⟨b1,b2⟩,b3⟩:=hb;have b1:=Dx b1;have b2:=Dx b2;subst b1 b2
   have hu2:∃y k,(some yh:Option Operand)=some y/\a.eval y=.int k (u:Int):=by
    rcases Mc with⟨e,_⟩|e
    ·cases e
    ·exact e
   obtain⟨k3,hm3⟩:∃k,a.eval m=.int k (u:Int):=by
    rcases hq with⟨e,_⟩|⟨y,k,e,q⟩
    ·cases e
    ·cases e;exact⟨k,q⟩
   have hbr:=Afl (P:=P) (w:=w) (len:=n) (cap:=cap) hl hu2 hm3 (Ci _) (Ci _) (by omega)
   have Ds:∃ad',(execOp a.eval o).run P w=.ok (.value (.slice ad' 0 0)) w:=by
    unfold execOp;rw[ho];cases ad with
    |none=>exact⟨none,by simp[Instr.sliceAt,Instr.slice,run_underlying hu,Ee,hbr,Dy Vp] at hbr ⊢⟩
    |some p=>exact⟨some p,by simp[Instr.sliceAt,Instr.slice,run_underlying hu,Ee,hbr,Dy Vp] at hbr ⊢⟩
   obtain⟨ad',Ds⟩:=Ds;refine⟨by simp,_,_,Ds,fun Arx=>⟨Dt β d none,?_⟩⟩;have EB:s.hp d=none:=(Cb Arx).1 d _ (Vv _);refine⟨rfl,rfl,rfl,Cw.refl _ _,fun j hj=>Ao _ _ (by rintro rfl;exact hj EB),?_,?_,?_,?_,?_,.inl ⟨At _ _ _,rfl,rfl,ad',rfl⟩,?_⟩
   ·intro j bx hm;simp at hm;rw[hm.2];trivial
   ·intro j bx hm;simp at hm;obtain⟨rfl,rfl⟩:=hm;exact .inl ⟨At _ _ _,rfl⟩
   ·intro j bx k q hm hq;simp at hm;obtain⟨rfl,rfl⟩:=hm;rw[At] at hq;cases hq
   ·intro j bx j' bx' k q q' hm N0 _ _;simp at hm N0;rw[hm.1,N0.1]
   ·intro j cells hm;simp at hm
   ·intro j hj;simp[Cd,Ct,Au] at hj;subst hj;exact .inr ⟨.ar false [],by simp⟩
  split at hk
  ·rename_i id es off n e';rw[e'] at hx;obtain⟨DV,hk⟩:=Aq hk;obtain⟨l,hk,hl⟩:=E6 h hk;obtain⟨u,hk,Mc⟩:=E6 h hk;obtain⟨q,hk,hq⟩:=E6 (x:=some m) h hk;obtain⟨hb,hk⟩:=Aq hk;refine⟨_,_,hk,?_⟩;rcases hx with⟨hβ,_,rfl,ad,Ee⟩|⟨b,ob,y,cap,hβ,Ee,hy,hn,DT,Ck⟩
   ·exact fin Ee (Ci _) hl Mc hq hb
   ·exact fin Ee hn hl Mc hq hb
  ·obtain⟨z,n,c,hk,hp⟩:=G0 hk;obtain⟨l,hk,hl⟩:=E6 h hk;obtain⟨u,hk,Mc⟩:=E6 h hk;obtain⟨q,hk,hq⟩:=E6 (x:=some m) h hk;obtain⟨hb,hk⟩:=Aq hk;refine⟨_,_,hk,?_⟩;rcases slice_form hp hx with⟨Ee,rfl,rfl⟩|⟨ad,cap,Ee,_,hn,_⟩|⟨ad,cap,Ee,_,rfl,rfl⟩
   ·exact fin Ee (Ci _) hl Mc hq hb
   ·exact fin Ee hn hl Mc hq hb
   ·exact fin Ee (Nat.zero_le _) hl Mc hq hb
 ·cases hk
end
open Go.RowKit
section
variable {R:Type}{r:R}{P:Program}{N:Nat}{w0:World}{X0:F3}{Y:Nat->Prop}{β β':Bt}{s:St}{a:Act}{w w':World}{o:Oper}{A:Nat->Prop}
theorem Aqr(h:Cj N w0 X0 Y β s a w){G:Vg}(I7:NT P G w0 X0){C:Ih}{call:Ap}(Dc:∀f args res,call f args=some res->C9 G P f args res){K:PV->B9->List (Nat × Cc)->Option R}(hk:SF C P N call s.tm (rd s.hp) (Mh s.hp) o K=some r):∃v fz nw,K v fz nw=some r/\VC P a w o Y β s v fz nw:=by
 have one:∀{K':PV->Option R},(∀v,K' v=some r->K v [] []=some r)->(∃v,K' v=some r/\Fh P a w o Y β s v [] [])->∃v fz nw,K v fz nw=some r/\VC P a w o Y β s v fz nw:=
  fun hK ⟨v,h1,h2⟩=>⟨v,[],[],hK v h1,RD h2⟩
 have many:(∃v fz nw,K v fz nw=some r/\Fh P a w o Y β s v fz nw)->∃v fz nw,K v fz nw=some r/\VC P a w o Y β s v fz nw:=
  fun ⟨v,fz,nw,h1,h2⟩=>⟨v,fz,nw,h1,RD h2⟩
 unfold SF at hk;split at hk
 ·rename_i x ho;exact one (fun _ h=>h) (KR (K:=fun p=>K p [] []) h (Ano ho) hk)
 ·rename_i x ho;exact one (fun _ h=>h) (KR (K:=fun p=>K p [] []) h (Ae1 ho) hk)
 ·rename_i c x y ho;exact one (fun _ h=>h) (Aj8 (K:=fun p=>K p [] []) h ho hk)
 ·rename_i t ho;obtain⟨d,hd,hk⟩:=Dd hk;exact many (Afq ho hk)
 ·rename_i t x ho;obtain⟨d,hd,hk⟩:=Dd hk;exact many (Am7 h ho hk)
 ·rename_i t ps ho;exact one (fun _ h=>h) (Afm (K:=fun p=>K p [] []) h ho hk)
 ·rename_i t n ps ho;obtain⟨d,hd,hk⟩:=Dd hk;exact many (MW h ho hk)
 ·rename_i t x ho;exact one (fun _ h=>h) (Aip (K:=fun p=>K p [] []) h ho hk)
 ·rename_i x ho;exact one (fun _ h=>h) (RQ (K:=fun p=>K p [] []) h ho hk)
 ·rename_i op t x y ty ho;exact one (fun _ h=>h) (Ae5 (K:=fun p=>K p [] []) h ho hk)
 ·rename_i op t x ho;exact one (fun _ h=>h) (Ajp (K:=fun p=>K p [] []) h ho hk)
 ·rename_i src dst x ho;obtain⟨v,nw,hk,hg⟩:=Ait h ho hk;obtain⟨d,hd,hk⟩:=Dd hk;exact⟨v,[],nw,hk,RD hg⟩
 ·rename_i t x y ho;obtain⟨d,hd,hk⟩:=Dd hk;exact many (Ajh h ho hk)
 ·rename_i t x lo hi mx ho;split at hk
  ·exact one (fun _ h=>h) (Afp (K:=fun p=>K p [] []) h ho hk)
  ·obtain⟨d,hd,hk⟩:=Dd hk;obtain⟨v,nw,h1,h2⟩:=Abo h ho hk;exact⟨v,[],nw,h1,RD h2⟩
 ·rename_i t x f ho;exact one (fun _ h=>h) (PP (K:=fun p=>K p [] []) h ho hk)
 ·rename_i t x f ho;exact one (fun _ h=>h) (Aed (K:=fun p=>K p [] []) h ho hk)
 ·rename_i t x i ho;exact one (fun _ h=>h) (PN (K:=fun p=>K p [] []) h ho hk)
 ·rename_i t x i ho;exact one (fun _ h=>h) (Aey (K:=fun p=>K p [] []) h ho hk)
 ·rename_i t x k ok ho;exact one (fun _ h=>h) (Ab3 (K:=fun p=>K p [] []) h ho hk)
 ·rename_i x i ho;exact one (fun _ h=>h) (WJ (K:=fun p=>K p [] []) h ho hk)
 ·rename_i c ho;split at hk
  ·rename_i hc;exact one (fun _ h=>h) (An6 (K:=fun p=>K p [] []) h ho hc hk)
  ·rename_i hc;exact one (fun _ h=>h) (Aoc (K:=fun p=>K p [] []) h ho hc hk)
  ·rename_i hc;exact one (fun _ h=>h) (Apa (K:=fun p=>K p [] []) h ho hc hk)
  ·rename_i hc;exact one (fun _ h=>h) (Ap3 (K:=fun p=>K p [] []) h ho hc hk)
  ·rename_i hc;obtain⟨hnb,hk⟩:=Aq hk;obtain⟨d,hd,Er⟩:=Dd hk;obtain⟨b,xs,VZ,Fz⟩:=Bo Er;obtain⟨x,ys,hys,Ox⟩:=Bo Fz;obtain⟨GD,Ug⟩:=Em Ox;obtain⟨t,us,hus,WM⟩:=Bo Ug;obtain⟨tx,vs,Ma,hk6⟩:=Bo WM;rw[hys,GD] at VZ;rw[Ma] at hus;obtain⟨v,nw,h1,h2⟩:=Abr h ho hc hnb hd VZ hus hk6;exact⟨v,[],nw,h1,RD h2⟩
  ·rename_i f hc;exact VQ h I7 Dc (fun hf hb=>TA ho hc I7.ng hf hb) hk
  ·rename_i t hc;obtain⟨f,hf0,Er⟩:=Axw hk;have ht:a.eval (.tmp t)=.func (.func f) #[] #[]:=Da h (x:=.tmp t) hf0;exact VQ h I7 Dc (fun hf hb=>Aoi ho hc ht I7.ng hf hb) Er
  ·cases hk
 ·cases hk
theorem Ais(h:Cj N w0 X0 Y β s a w){G:Vg}(I7:NT P G w0 X0){C:Ih}{call:Ap}(Dc:∀f args res,call f args=some res->C9 G P f args res){K:St->Option R}(hk:(SF C P N call s.tm (rd s.hp) (Mh s.hp) o fun v fz nw=>MA N s o.dst v fz nw K)=some r):
  ∃s',K s'=some r/\∀(next:Act->World->Prop) (Q:Exit->Act->World->Prop),(∀a' w' β',Cj N w0 X0 Y β' s' a' w'->next a' w')->o.wp P a w next Q:=by
 obtain⟨v,fz,nw,hk,Y5,hg⟩:=Aqr h I7 Dc hk;unfold MA at hk;obtain⟨hb,hk⟩:=Aq hk;simp only[Fc] at hb;refine⟨_,hk,fun next Q hn=>hg next Q fun val w' Fn=>?_⟩;obtain⟨β',st⟩:=Fn hb.2
 have Vj:Co (Ah s.hp fz) nw=true:=by
  have:∀nw,Co s.hp nw=true->Co (Ah s.hp fz) nw=true:=by
   intro nw
   induction nw with
   |nil=>intro _;rfl
   |cons q nw ih=>
    obtain⟨i,b⟩:=q;intro hq;simp only[Co,Fc,Option.isNone_iff_eq_none] at hq ⊢;exact⟨⟨E8.2 hq.1.1,hq.1.2⟩,ih hq.2⟩
  exact this nw hb.2
 exact hn _ _ β' ((h.freeze Y5).stepR hb.1 Vj st)
end
open Go.RowKit
section
variable {R:Type}{r:R}{P:Program}{N:Nat}{w0:World}{X0:F3}{Y:Nat->Prop}{β β':Bt}{s:St}{a:Act}{w w':World}{o:Oper}{A:Nat->Prop}
structure Db(b:Nat)(w w':World):Prop where
 os:w'.os=w.os
 tape:w'.tape=w.tape
 output:w'.output=w.output
 size:w'.heap.size=w.heap.size
 other:∀k,k≠b->w'.heap[k]?=w.heap[k]?
 bs:bsz w' b=bsz w b
 frz:∀j,w'.frozen? ⟨b,j,none⟩=w.frozen? ⟨b,j,none⟩
theorem Db.grow{b:Nat}(h:Db b w w')(k:Nat):Fi w w' k:=by
 by_cases e:k=b
 ·subst e;refine⟨by rw[h.bs];exact Ci _,fun q=>?_⟩
  unfold endF at q ⊢;rw[h.bs,h.frz];exact q
 ·exact Fi.same (h.other k e)
theorem Db.refl(b:Nat)(w:World):Db b w w:=⟨rfl,rfl,rfl,rfl,fun _ _=>rfl,rfl,fun _=>rfl⟩
theorem Db.setCell(b j:Nat)(v:Value)(w:World):Db b w (w.setCell ⟨b,j,none⟩ v):=by
 refine⟨rfl,rfl,rfl,by simp[World.setCell],fun k hk=>Below.heap_setCell w ⟨b,j,none⟩ v k hk,?_,fun i=>?_⟩
 ·simp only[bsz,World.setCell,Array.getElem?_modify];simp only[if_true];cases h:w.heap[b]? with
  |none=>simp
  |some x=>cases x<;>simp
 ·simp only[World.frozen?,World.setCell,Array.getElem?_modify,if_true];cases h:w.heap[b]? with
  |none=>simp
  |some x=>cases x<;>simp
theorem Db.trans{b:Nat}{w'':World}(h:Db b w w')(h':Db b w' w''):Db b w w'':=
 ⟨h'.os.trans h.os,h'.tape.trans h.tape,h'.output.trans h.output,h'.size.trans h.size,fun k hk=>(h'.other k hk).trans (h.other k hk),h'.bs.trans h.bs,fun j=>(h'.frz j).trans (h.frz j)⟩
theorem Db.setCells(b:Nat):∀(vs:List Value)(j:Nat)(w:World),Db b w (w.setCells b j vs)
 |[],_,w=>Db.refl b w
 |v::vs,j,w=>(Db.setCell b j v w).trans (Db.setCells b vs (j+1) _)
theorem A7q{hp:Nat->Option Cc}{id:Nat}{bx bx':Cc}(h0:hp id=some bx)(hl:Dj (some bx))(Oo:Dj (some bx'))(b:Nat):II (Dt hp id (some bx')) β b↔II hp β b:=by
 constructor
 ·rintro⟨i,o,h1,h2⟩
  by_cases e:i=id
  ·subst e;exact⟨i,o,by rw[h0];exact hl,h2⟩
  ·rw[Ao _ _ e] at h1;exact⟨i,o,h1,h2⟩
 ·rintro⟨i,o,h1,h2⟩
  by_cases e:i=id
  ·subst e;exact⟨i,o,by rw[At];exact Oo,h2⟩
  ·exact⟨i,o,by rw[Ao _ _ e];exact h1,h2⟩
theorem Cj.write(h:Cj N w0 X0 Y β s a w){id b ob:Nat}{bx bx':Cc}(h0:s.hp id=some bx)(hl:Dj (some bx))(Oo:Dj (some bx'))(hβ:β id=some (b,ob))(hw:Db b w w')(Mz:Wq w' (Dv s.hp β Y) β id bx')(hr:∀cells,bx'=.st cells->∀c∈cells,∀i∈Au c,s.hp i≠none)(hK:∀c',bx'=.st c'->∃c,bx=.st c)(hR:∀j,BR bx' ob j->BR bx ob j)(hO:∀j,¬BR bx ob j->w'.cell? ⟨b,j,none⟩=w.cell? ⟨b,j,none⟩):Cj N w0 X0 Y β ⟨s.tm,Dt s.hp id (some bx')⟩ a w':=by
 have hX:=A7q (β:=β) h0 hl Oo;have hA:∀k,Dv (Dt s.hp id (some bx')) β Y k↔Dv s.hp β Y k:=fun k=>⟨fun x=>x.imp (hX k).1 (fun y=>y),fun x=>x.imp (hX k).2 (fun y=>y)⟩;have hAb:Dv s.hp β Y b:=.inl ⟨id,ob,by rw[h0];exact hl,hβ⟩
 have Fn:Cw (Dv s.hp β Y) w w':=⟨by rw[hw.size];exact Ci _,fun k _ hk=>hw.other k (fun e=>hk (e ▸ hAb)),fun k _=>hw.grow k⟩
 have Gc:∀i,Dt s.hp id (some bx') i≠none↔s.hp i≠none:=by
  intro i;by_cases e:i=id
  ·subst e;rw[At,h0];simp
  ·rw[Ao _ _ e]
 have hAe:Dv (Dt s.hp id (some bx')) β Y=Dv s.hp β Y:=funext fun k=>propext (hA k)
 have JG:∀i,Dj (Dt s.hp id (some bx') i)->Dj (s.hp i):=by
  intro i hi;by_cases e:i=id
  ·subst e;rw[h0];exact hl
  ·rw[Ao _ _ e] at hi;exact hi
 refine⟨h.dfr,h.tsz,h.tmo,fun i hi=>?_,fun i bi hb=>?_,fun i i' k x y h1 h2=>h.inj i i' k x y (JG i h1) (JG i' h2),fun i k x hi hk=>?_,fun i hi j hj=>(Gc j).2 (h.wfT i hi j hj),
  fun i cells hc c hcm j hj=>(Gc j).2 ?_,fun k hk=>h.ownd k ((hX k).1 hk),fun i bi k x PS hli hk Ck j hj=>?_,fun i hi=>⟨(Gc _).2 (h.pin i hi).1,(h.pin i hi).2⟩,fun i c k x hc hk Ck=>?_,fun k hk x=>h.Yx k hk ((hX k).1 x),h.Ylt,?_⟩
 ·rw[hAe];exact (h.tms i hi).step Fn (fun _ _ x=>x) (fun _ _=>rfl)
 ·rw[hAe];simp only at hb;by_cases e:i=id
  ·subst e;rw[At] at hb;cases hb;exact Mz
  ·rw[Ao _ _ e] at hb;have PS:=h.box i bi hb;cases bi with
   |st c=>
    obtain⟨k,x,h1,h2,h3⟩:=PS
    have hk:k≠b:=by
     rintro rfl
     exact e (h.inj i id k x ob (by rw[hb];trivial) (by rw[h0];exact hl) h1 hβ)
    refine⟨k,x,h1,fun j c hj=>?_,fun j hj=>?_⟩
    ·obtain⟨v,hv,hc⟩:=h2 j c hj;exact⟨v,by rw[World.cell?_of_block (w:=w) (hw.other k hk)];exact hv,hc.step Fn (fun _ _ x=>x) (fun _ _=>rfl)⟩
    ·rw[World.frozen?_of_block (w:=w) (hw.other k hk)];exact h3 j hj
   |ar fz c=>
    rcases PS with hn|⟨k,x,h1,h2,h3,h4⟩
    ·exact .inl hn
    ·have hk:k≠b:=by
      rintro rfl
      cases fz with
      |true=>exact h4 rfl hAb
      |false=>exact e (h.inj i id k x ob (by rw[hb];trivial) (by rw[h0];exact hl) h1 hβ)
     refine .inr ⟨k,x,h1,fun j c hj=>?_,fun ef j hj Tq=>?_,h4⟩
     ·obtain⟨v,hv,h5,hc⟩:=h2 j c hj;exact⟨v,by rw[World.cell?_of_block (w:=w) (by rw[Fv];exact hw.other k hk)];exact hv,h5,hc.step Fn (fun _ _ x=>x)⟩
     ·rw[World.frozen?_of_block (w:=w) (hw.other k hk)];refine h3 ef j hj ?_;unfold bsz at Tq ⊢;rw[hw.other k hk] at Tq;exact Tq
   |mv=>trivial
 ·rw[hw.size];exact h.blt i k x ((Gc i).1 hi) hk
 ·simp only at hc;by_cases e:i=id
  ·subst e;rw[At] at hc;injection hc with hc;exact hr cells hc c hcm j hj
  ·rw[Ao _ _ e] at hc;exact h.wfB i cells hc c hcm j hj
 ·simp only at PS;by_cases e:i=id
  ·subst e;rw[At] at PS;cases PS;rw[hβ] at hk;cases hk;exact h.rngB i bx b ob h0 hl hβ Ck j (hR j hj)
  ·rw[Ao _ _ e] at PS;exact h.rngB i bi k x PS hli hk Ck j hj
 ·simp only at hc;by_cases e:i=id
  ·subst e;rw[At] at hc;injection hc with hc;obtain⟨c0,rfl⟩:=hK c hc;exact h.stp i c0 k x h0 hk Ck
  ·rw[Ao _ _ e] at hc;exact h.stp i c k x hc hk Ck
 ·refine⟨hw.os.trans h.fr.os,hw.tape.trans h.fr.tape,hw.output.trans h.fr.output,?_,fun k j hk hL=>?_⟩
  ·refine⟨by rw[hw.size];exact h.fr.step.size,fun k hk hnk=>?_,fun k hk=>(h.fr.step.bs k hk).trans (Fn.bs k (Ft hk h.fr.step.size))⟩
   rw[hw.other k ?_]
   ·exact h.fr.step.keep k hk hnk
   ·rintro rfl
    rcases h.ownd k ⟨id,ob,by rw[h0];exact hl,hβ⟩ with hx|hx
    ·exact hnk hx
    ·omega
  ·by_cases e:k=b
   ·subst e;rw[hO j (fun hj=>hL (h.rngB id bx k ob h0 hl hβ hk j hj)),hw.frz];exact h.fr.rng k j hk hL
   ·have hc:w'.cell? ⟨k,j,none⟩=w.cell? ⟨k,j,none⟩:=World.cell?_of_block (w:=w) (hw.other k e);have hf:w'.frozen? ⟨k,j,none⟩=w.frozen? ⟨k,j,none⟩:=World.frozen?_of_block (w:=w) (hw.other k e);rw[hc,hf];exact h.fr.rng k j hk hL
theorem Yu{c cs:Ae}{off j:Nat}{p:PV}(Zi:off+cs.length<=c.length)(h:(B6 c cs off)[j]?=some p):
  (off<=j/\j<off+cs.length/\cs[j-off]?=some p)\/((j<off\/off+cs.length<=j)/\c[j]?=some p):=by
 unfold B6 at h;by_cases h1:j<off
 ·rw[Zzv,List.getElem?_append_left (by simp;omega),List.getElem?_take_of_lt h1] at h
  exact .inr ⟨.inl h1,h⟩
 ·by_cases h2:j<off+cs.length
  ·rw[List.getElem?_append_left (by simp;omega),List.getElem?_append_right (by simp;omega)] at h
   simp only[List.length_take,Nat.min_eq_left (by omega:off<=c.length)] at h;exact .inl ⟨by omega,h2,h⟩
  ·rw[List.getElem?_append_right (by simp;omega)] at h
   simp only[Wy,List.length_take,Nat.min_eq_left (by omega:off<=c.length),List.getElem?_drop] at h;rw[show off+cs.length+(j-(off+cs.length))=j from by omega] at h;exact .inr ⟨.inr (by omega),h⟩
theorem Xv{c cs:Ae}{off:Nat}(Zi:off+cs.length<=c.length):(B6 c cs off).length=c.length:=by simp[B6];omega
theorem PC{t:TypeId}{b j:Nat}{v:Value}(Km:(P.info? t).map (·.size)=some v.cells.size)(hc:∀i,i<v.cells.toList.length->(w.cell? ⟨b,j+i,none⟩).isSome=true)(hf:∀i,i<v.cells.toList.length->w.frozen? ⟨b,j+i,none⟩=false)(h1:∀u∈v.cells.toList,u.oneCell'=true):(Instr.storeAt t (.pointer (some ⟨b,j,none⟩)) v).run P w=.ok () (w.setCells b j v.cells.toList):=by
 have:=run_storeCells_cells (P:=P) b j v.cells.toList 0 w (fun i hi=>by simpa using hc i hi) (fun i hi=>by simpa using hf i hi) h1;simp only[Instr.storeAt,Instr.sureAddr,storeVar,Sem.run_bind,Sem.run_pure,Result.andThen_ok,Ob Km]
 simpa using this
theorem Ag4(h:Cj N w0 X0 Y β s a w){t:TypeId}{x y:Operand}(ho:o.op=.store t x y)(hd:o.dst=none){K:St->Option R}(hk:NJ P s t (Cx s.tm x) (Cx s.tm y) K=some r):
  ∃s',K s'=some r/\∀(next:Act->World->Prop) (Q:Exit->Act->World->Prop),(∀a' w' β',Cj N w0 X0 Y β' s' a' w'->next a' w')->o.wp P a w next Q:=by
 have hx:=D7 h x;have VX:=Gl h x
 have run:∀{b j:Nat},a.eval x=.pointer (some ⟨b,j,none⟩)->(Instr.storeAt t (.pointer (some ⟨b,j,none⟩)) (a.eval y)).run P w=.ok () (w.setCells b j (a.eval y).cells.toList) ->
   ∀(next:Act->World->Prop) (Q:Exit->Act->World->Prop),next a (w.setCells b j (a.eval y).cells.toList)->o.wp P a w next Q:=by
  intro b j Ee hr next Q hn;unfold Oper.wp execOp;rw[ho];simp only[Sem.run_bind,Ee,hr,Result.andThen_ok,Sem.run_pure];show next (a.put o.dst undef) _;rw[hd];exact hn
 unfold NJ at hk;split at hk
 ·rename_i id off e;rw[e] at hx VX;obtain⟨b,ob,hβ,Ee⟩:=hx;split at hk
  ·rename_i c h0;obtain⟨hb,hk⟩:=Aq hk;simp only[Fc,GF] at hb;obtain⟨⟨hok,hl⟩,Zi⟩:=hb;have hl:=Dx hl;obtain⟨cs,hk,M9,h2,h1,hr,_⟩:=Amp (D7 h y) hl hk;obtain⟨_,A53,Km⟩:=Wd hok;have IP:=h2.len;obtain⟨b',o',F4,Ko,DQ⟩:=h.box id _ h0;rw[hβ] at F4;simp at F4;obtain⟨rfl,rfl⟩:=F4
   have Ev:∀i,i<(a.eval y).cells.toList.length->(w.cell? ⟨b,ob+off+i,none⟩).isSome=true:=by
    intro i hi;obtain⟨v,hv,_⟩:=Ko (off+i) _ (List.getElem?_eq_getElem (by omega));rw[Jc,hv];rfl
   have Ds:=PC (P:=P) (t:=t) (w:=w) (b:=b) (j:=ob+off) (v:=a.eval y) (by rw[Km,<-A53,<-M9,IP];simp) Ev (fun i hi=>by rw[Jc];exact DQ _ (by omega)) h1
   refine⟨_,hk,fun next Q hn=>run Ee Ds next Q (hn _ _ β ?_)⟩
   refine h.write h0 trivial trivial hβ (Db.setCells b _ _ w) ?_ ?_ (fun _ _=>⟨_,rfl⟩) (fun j hj=>by
    have hj:ob<=j/\j<ob+(B6 c cs off).length:=hj;rw[Xv (by omega)] at hj;exact hj) (fun j hj=>by
    refine World.cell?_setCells_out b _ _ w ⟨b,j,none⟩ (fun _ _=>?_);have hj:¬(ob<=j/\j<ob+c.length):=hj;show j<ob+off\/ob+off+_<=j;omega)
   ·have Fn:Cw (Dv s.hp β Y) w (w.setCells b (ob+off) (a.eval y).cells.toList):=by
     have hw:=Db.setCells b (a.eval y).cells.toList (ob+off) w;have hAb:Dv s.hp β Y b:=.inl ⟨id,ob,by rw[h0];trivial,hβ⟩
     exact⟨by rw[hw.size];exact Ci _,fun k _ hk=>hw.other k (fun e=>hk (e ▸ hAb)),fun k _=>hw.grow k⟩
    refine⟨b,ob,hβ,fun j p hj=>?_,fun j hj=>?_⟩
    ·rcases Yu (by omega) hj with⟨h3,h4,h5⟩|⟨h3,h5⟩
     ·obtain⟨u,hu,hcu⟩:=h2.get h5;have Ck:j-off<(a.eval y).cells.toList.length:=by omega
      refine⟨u,?_,hcu.step Fn (fun _ _ x=>x) (fun _ _=>rfl)⟩;have:=World.cell?_setCells_in b (a.eval y).cells.toList (ob+off) w Ev (j-off) Ck;rw[show ob+j=ob+off+(j-off) from by omega,this];rw[List.getElem?_eq_getElem Ck] at hu;exact hu
     ·obtain⟨v,hv,OC⟩:=Ko j p h5;refine⟨v,?_,OC.step Fn (fun _ _ x=>x) (fun _ _=>rfl)⟩;rw[World.cell?_setCells_out b _ _ w ⟨b,ob+j,none⟩ (fun _ _=>by show ob+j<ob+off\/ob+off+_<=ob+j;omega)]
      exact hv
    ·rw[Xv (by omega)] at hj;rw[(Db.setCells b _ _ w).frz];exact DQ j hj
   ·intro cells hx c' X8 i hi;injection hx with hx;subst hx;unfold B6 at X8;rcases B5.1 X8 with X8|X8
    ·rcases B5.1 X8 with X8|X8
     ·exact h.wfB id c h0 c' (List.mem_of_mem_take X8) i hi
     ·exact Gl h y i (hr c' X8 i hi)
    ·exact h.wfB id c h0 c' (List.mem_of_mem_drop X8) i hi
  ·rename_i c h0;obtain⟨hb,hk⟩:=Aq hk;simp only[Fc,GF] at hb;obtain⟨hok,Zi⟩:=hb;obtain⟨cs,m,hk,M9,Xl,hT,hF,hm,hv⟩:=Wp h hk;obtain⟨QS,hk⟩:=Aq hk
   have QS:id ∉ m:=by
    intro hi;have:m.any (Nat.beq id)=true:=List.any_eq_true.2 ⟨id,hi,Og id⟩;rw[this] at QS;cases QS
   obtain⟨_,A53,Km⟩:=Wd hok
   have Ay9:Bx (Cm w (Dv s.hp β Y) β) (cellsOf (Cx s.tm y)) (a.eval y).cells.toList:=by
    have hyv:=D7 h y;cases hp:Cx s.tm y with
    |agg ps=>
     rw[hp] at hyv;obtain⟨vs,hay,h2⟩:=hyv;rw[hay];exact h2
    |sc v=>
     rw[hp] at hyv hF
     have Ai0:(a.eval y).oneCell'=true:=by
      have:=hv m (fun _ hi=>hi) hm [a.eval y] (by rw[hp];exact⟨hyv,trivial⟩)
      exact this.2 _ (by simp)
     rw[Rz Ai0];exact⟨hyv,trivial⟩
    |lst z es n cc=>
     rw[hp] at hyv hF
     have Ai0:(a.eval y).oneCell'=true:=by
      have:=hv m (fun _ hi=>hi) hm [a.eval y] (by rw[hp];exact⟨hyv,trivial⟩)
      exact this.2 _ (by simp)
     rw[Rz Ai0];exact⟨hyv,trivial⟩
    |view i es oo n=>
     rw[hp] at hyv hF
     have Ai0:(a.eval y).oneCell'=true:=by
      have:=hv m (fun _ hi=>hi) hm [a.eval y] (by rw[hp];exact⟨hyv,trivial⟩)
      exact this.2 _ (by simp)
     rw[Rz Ai0];exact⟨hyv,trivial⟩
    |own es n cc=>
     have hx0:=hF (Cx s.tm y) (by rw[hp];exact Vv _)
     rw[hp] at hx0;exact hx0.elim
    |ptr i cc=>
     have hx0:=hF (Cx s.tm y) (by rw[hp];exact Vv _)
     rw[hp] at hx0;exact hx0.elim
    |iptr i cc=>
     have hx0:=hF (Cx s.tm y) (by rw[hp];exact Vv _)
     rw[hp] at hx0;exact hx0.elim
    |pbox cc=>
     have hx0:=hF (Cx s.tm y) (by rw[hp];exact Vv _)
     rw[hp] at hx0;exact hx0.elim
    |tup cc=>
     have hx0:=hF (Cx s.tm y) (by rw[hp];exact Vv _)
     rw[hp] at hx0;exact hx0.elim
    |ub=>
     have hx0:=hF (Cx s.tm y) (by rw[hp];exact Vv _)
     rw[hp] at hx0;exact hx0.elim
    |top=>
     have hx0:=hF (Cx s.tm y) (by rw[hp];exact Vv _)
     rw[hp] at hx0;exact hx0.elim
   obtain⟨h2,h1⟩:=hv m (fun _ hi=>hi) hm _ Ay9;have IP:=h2.len;have hf:=h.freeze hm;have h0':Ah s.hp m id=some (.ar false c):=by rw[Cu,B3 QS];exact h0
   rcases hf.box id _ h0' with⟨hn,_⟩|⟨b',o',F4,Ko,DQ,_⟩
   ·rw[hβ] at hn;cases hn
   rw[hβ] at F4;simp at F4;obtain⟨rfl,rfl⟩:=F4
   have Ev:∀i,i<(a.eval y).cells.toList.length->(w.cell? ⟨b,ob+off+i,none⟩).isSome=true:=by
    intro i hi;obtain⟨v,hv,_⟩:=Ko (off+i) _ (List.getElem?_eq_getElem (by omega));rw[Ep] at hv;rw[Jc,hv];rfl
   have Ds:=PC (P:=P) (t:=t) (w:=w) (b:=b) (j:=ob+off) (v:=a.eval y) (by rw[Km,<-A53,<-M9,IP];simp) Ev (fun i hi=>by
    obtain⟨u,hu⟩:=Option.isSome_iff_exists.1 (Ev i hi);exact DQ rfl _ (by omega) (KN hu)) h1
   refine⟨_,hk,fun next Q hn=>run Ee Ds next Q (hn _ _ β ?_)⟩
   refine hf.write h0' trivial trivial hβ (Db.setCells b _ _ w) ?_ (fun cells hx=>by cases hx) (fun _ hx=>by cases hx) (fun j hj=>hj) (fun j hj=>by
    refine World.cell?_setCells_out b _ _ w ⟨b,j,none⟩ (fun _ _=>?_);have hj:¬(ob<=j):=hj;show j<ob+off\/ob+off+_<=j;omega)
   have Fn:Cw (Dv (Ah s.hp m) β Y) w (w.setCells b (ob+off) (a.eval y).cells.toList):=by
    have hw:=Db.setCells b (a.eval y).cells.toList (ob+off) w;have hAb:Dv (Ah s.hp m) β Y b:=.inl ⟨id,ob,by rw[h0'];trivial,hβ⟩
    exact⟨by rw[hw.size];exact Ci _,fun k _ hk=>hw.other k (fun e=>hk (e ▸ hAb)),fun k _=>hw.grow k⟩
   refine .inr ⟨b,ob,hβ,fun j p hj=>?_,fun _ j hj Tq=>?_,(fun x=>by cases x)⟩
   ·rw[Ep];rcases Yu (by omega) hj with⟨h3,h4,h5⟩|⟨h3,h5⟩
    ·obtain⟨u,hu,hcu⟩:=h2.get h5;have Ck:j-off<(a.eval y).cells.toList.length:=by omega
     refine⟨u,?_,h1 u (List.mem_of_getElem? hu),hcu.step Fn (fun _ _ x=>x)⟩;have:=World.cell?_setCells_in b (a.eval y).cells.toList (ob+off) w Ev (j-off) Ck;rw[show ob+j=ob+off+(j-off) from by omega,this];rw[List.getElem?_eq_getElem Ck] at hu;exact hu
    ·obtain⟨v,hv,h6,OC⟩:=Ko j p h5;rw[Ep] at hv;refine⟨v,?_,h6,OC.step Fn (fun _ _ x=>x)⟩;rw[World.cell?_setCells_out b _ _ w ⟨b,ob+j,none⟩ (fun _ _=>by show ob+j<ob+off\/ob+off+_<=ob+j;omega)]
     exact hv
   ·rw[(Db.setCells b _ _ w).bs] at Tq;rw[(Db.setCells b _ _ w).frz];exact DQ rfl j hj Tq
  ·cases hk
 ·cases hk
end
open Go.RowKit
theorem Lg:∀{l l':B9},Fa (l++l')=true->Fa l=true/\Fa l'=true/\∀i∈l,i ∉ l'
 |[],l',h=>⟨rfl,h,by simp⟩
 |a::l,l',h=>by
  simp only[Zzp,Fa,Fc,Bool.not_eq_true'] at h;obtain⟨h1,h2⟩:=h;obtain⟨h3,h4,h5⟩:=Lg h2
  have hn:∀i∈l++l',a≠i:=by
   rintro i hi rfl
   have:(l++l').any (Nat.beq a)=true:=List.any_eq_true.2 ⟨a,hi,Og a⟩;rw[this] at h1;cases h1
  refine⟨?_,h4,fun i hi=>?_⟩
  ·simp only[Fa,Fc,Bool.not_eq_true',h3,and_true];rw[List.any_eq_false];intro i hi e;exact hn i (by simp[hi]) (Dx e)
  ·rcases Ch.1 hi with rfl|hi
   ·exact fun hm=>hn i (by simp[hm]) rfl
   ·exact h5 i hi
def Ik(β:Bt)(q:Nat × Nat):Option (Nat × Nat):=(β q.1).map fun p=>(p.1,p.2+q.2)
theorem Ajo(β:Bt)(id:Nat):Ik β (id,0)=β id:=by unfold Ik;cases β id<;>rfl
section
variable {R:Type}{r:R}{P:Program}{N:Nat}{w0:World}{X0:F3}{Y:Nat->Prop}{β β':Bt}{s:St}{a:Act}{w w':World}{o:Oper}{A:Nat->Prop}
theorem S5{fz:B9}{b:Nat}(h:Dv (Ah s.hp fz) β Y b):Dv s.hp β Y b:=h.imp Vz id
theorem As0(h:Cj N w0 X0 Y β s a w){mv:Bool}{t:CT}{p:PV}{K:PV->B9->B9->Option R}(hk:Anv mv s.hp t p K=some r):
  ∃c m q,K c m (Option.toList q)=some r/\isA c/\XG p/\(∀id∈m,∃f cc,s.hp id=some (.ar f cc))/\(∀id,q=some id->∃cc,s.hp id=some (.ar false cc)) /\
   ∀fz:B9,(∀id∈m,id∈fz)->(∀id∈fz,∃f cc,s.hp id=some (.ar f cc))->∀v,Cm w (Dv s.hp β Y) β p v->H8 w (Dv (Ah s.hp fz) β Y) (q.bind β) c v:=by
 have frz:∀{t:CT} {p:PV} {K:PV->B9->B9->Option R},(Tr (Mh s.hp) t p fun c m=>K c m [])=some r->∃c m q,K c m (Option.toList q)=some r/\isA c/\XG p/\(∀id∈m,∃f cc,s.hp id=some (.ar f cc))/\(∀id,q=some id->∃cc,s.hp id=some (.ar false cc)) /\
   ∀fz:B9,(∀id∈m,id∈fz)->(∀id∈fz,∃f cc,s.hp id=some (.ar f cc))->∀v,Cm w (Dv s.hp β Y) β p v->H8 w (Dv (Ah s.hp fz) β Y) (q.bind β) c v:=by
  intro t p K hk;obtain⟨c,m,hk,hT,hF,hm,hv⟩:=UT h hk;exact⟨c,m,none,hk,.inl hT,hF,hm,by simp,fun fz h1 h2 v hc=>Om hT (hv fz h1 h2 v hc).1⟩
 have tree:∀{t:CT} {p:PV} {K:PV->B9->B9->Option R},(∀es,t ≠ .sl es)->(MB t p fun c=>K c [] [])=some r->∃c m q,K c m (Option.toList q)=some r/\isA c/\XG p/\(∀id∈m,∃f cc,s.hp id=some (.ar f cc))/\(∀id,q=some id->∃cc,s.hp id=some (.ar false cc)) /\
   ∀fz:B9,(∀id∈m,id∈fz)->(∀id∈fz,∃f cc,s.hp id=some (.ar f cc))->∀v,Cm w (Dv s.hp β Y) β p v->H8 w (Dv (Ah s.hp fz) β Y) (q.bind β) c v:=by
  intro t p K Gh hk;obtain⟨c,hk,hT,RN,hv⟩:=Rb hk;exact⟨c,[],none,hk,.inl hT,Yl RN,by simp,by simp,fun fz h1 h2 v hc=>Om hT ((hv w _ β v hc).1.step (Cw.refl _ _) (fun b _ hb=>S5 hb))⟩
 unfold Anv at hk;cases t with
 |sl es=>
  dsimp only at hk;cases mv<;>simp only[cond_true,cond_false] at hk
  ·exact frz hk
  ·split at hk
   ·rename_i id es' off n;split at hk
    ·rename_i c h0;cases hb:(Nat.beq es' es&&Nat.beq off 0)<;>rw[hb] at hk<;>simp only[cond_true,cond_false] at hk
     ·exact frz hk
     ·simp only[Fc] at hb;have he:=Dx hb.1;have hof:=Dx hb.2;subst he hof;obtain⟨hl,hk⟩:=Aq hk;refine⟨_,[],some id,hk,.inr ⟨_,_,_,rfl⟩,trivial,by simp,fun i hi=>by cases hi;exact⟨c,h0⟩,fun fz h1 h2 v hc=>?_⟩
      rcases hc with⟨h3,_,rfl,h4⟩|⟨b,ob,x,cap,h3,h4,hx,h5,h6,h7⟩
      ·exact .inl ⟨h3,rfl,by simp,h4⟩
      ·have hx:x=ob:=by rcases hx with e|⟨_,e⟩<;>omega
       subst hx;rcases h.box id _ h0 with⟨h8,_⟩|⟨b',o',h8,h9,h10,_⟩
       ·rw[h3] at h8;cases h8
       ·rw[h3] at h8;cases h8;refine .inr ⟨b,x,cap,h3,h4,h5,h6,h7,fun j p hj=>?_,h10 rfl⟩;rw[List.getElem?_take] at hj;split at hj
        ·obtain⟨u,hu,h11,ht⟩:=h9 j p hj;exact⟨u,hu,h11,ht.step (Cw.refl _ _) (fun b _ hb=>S5 hb)⟩
        ·cases hj
    ·exact frz hk
   ·obtain⟨z,n,c,hk,hp⟩:=G0 hk;have hpF:XG p:=by rcases hp with e|⟨e,_⟩<;>(rw[e];trivial)
    cases z<;>simp only[cond_true,cond_false] at hk
    ·refine⟨_,[],none,hk,.inl trivial,hpF,by simp,by simp,fun fz h1 h2 v hc=>?_⟩;exact Om trivial ((FH hp hc).step (Cw.refl _ _) (fun b _ hb=>S5 hb))
    ·refine⟨_,[],none,hk,.inr ⟨_,_,_,rfl⟩,hpF,by simp,by simp,fun fz h1 h2 v hc=>.inl ⟨rfl,rfl,rfl,none,?_⟩⟩;have:=FH hp hc;cases this;rfl
 |int k=>exact tree (by simp) hk
 |bool=>exact tree (by simp) hk
 |str=>exact tree (by simp) hk
 |any=>exact tree (by simp) hk
theorem DF(h:Cj N w0 X0 Y β s a w){mv:Bool}:∀{ts:List CT}{ps:Ae}{K:Ae->B9->B9->Option R},PB mv s.hp ts ps K=some r ->
  ∃cs m x,∃q:Nat->Option Nat,K cs m x=some r/\cs.length=ts.length/\ps.length=ts.length/\(∀c∈cs,isA c)/\(∀p∈ps,XG p)/\(∀id∈m,∃f cc,s.hp id=some (.ar f cc))/\(∀id∈x,∃cc,s.hp id=some (.ar false cc)) /\
   (∀j id,q j=some id->id∈x)/\(Fa x=true->∀j j' id,q j=some id->q j'=some id->j=j') /\
   ∀fz:B9,(∀id∈m,id∈fz)->(∀id∈fz,∃f cc,s.hp id=some (.ar f cc))->∀vs,Bx (Cm w (Dv s.hp β Y) β) ps vs->∀(own:Bt) j0,(∀j,own (j0+j)=(q j).bind β)->F6 w (Dv (Ah s.hp fz) β Y) own j0 cs vs
 |[],[],K,hk=>⟨[],[],[],fun _=>none,hk,rfl,rfl,by simp,by simp,by simp,by simp,by simp,by simp,fun fz _ _ vs hv own j0 _=>by
   cases vs with
   |nil=>trivial
   |cons v vs=>exact hv.elim⟩
 |[],_::_,K,hk=>by cases hk
 |_::_,[],K,hk=>by cases hk
 |t::ts,p::ps,K,hk=>by
  unfold PB at hk;obtain⟨c,m,q,hk,hA,hF,hm,hq,hv⟩:=As0 h hk;obtain⟨cs,ms,xs,qs,hk,hl,Oo,hAs,hFs,RZ,VZ,hqx,hqi,Ma⟩:=DF h hk;refine⟨c::cs,m++ms,q.toList++xs,fun j=>match j with|0=>q|j+1=>qs j,hk,by simp[hl],by simp[Oo],?_,?_,?_,?_,?_,?_,?_⟩
  ·intro x hx;rcases Ch.1 hx with rfl|hx
   ·exact hA
   ·exact hAs x hx
  ·intro x hx;rcases Ch.1 hx with rfl|hx
   ·exact hF
   ·exact hFs x hx
  ·intro i hi;rcases B5.1 hi with hi|hi
   ·exact hm i hi
   ·exact RZ i hi
  ·intro i hi;rcases B5.1 hi with hi|hi
   ·exact hq i (by simpa using hi)
   ·exact VZ i hi
  ·intro j id hj;cases j with
   |zero=>exact B5.2 (.inl (by simpa using hj))
   |succ j=>exact B5.2 (.inr (hqx j id hj))
  ·intro hn j j' id hj Tq;obtain⟨_,h2,h3⟩:=Lg hn;cases j with
   |zero=>
    cases j' with
    |zero=>rfl
    |succ j'=>exact absurd (hqx j' id Tq) (h3 id (by simpa using hj))
   |succ j=>
    cases j' with
    |zero=>exact absurd (hqx j id hj) (h3 id (by simpa using Tq))
    |succ j'=>rw[hqi h2 j j' id hj Tq]
  ·intro fz h1 h2 vs h3 own j0 Hf;cases vs with
   |nil=>exact h3.elim
   |cons v vs=>
    refine⟨?_,Ma fz (fun i hi=>h1 i (by simp[hi])) h2 vs h3.2 own (j0+1) fun j=>?_⟩
    ·have:=Hf 0;rw[ZW] at this;rw[this];exact hv fz (fun i hi=>h1 i (by simp[hi])) h2 v h3.1
    ·have:=Hf (j+1);rw[show j0+1+j=j0+(j+1) by omega];exact this
def LOk(hp:Nat->Option Cc)(q:Option (Nat × Nat))(p:PV)(x:Ip):Prop:=
 match x with
 |.var id off cts ws=>p=.pbox ws/\q=some (id,off)/\cts.length=ws.length/\∃c,hp id=some (.st c)/\off+ws.length<=c.length
 |.row id=>(∃ps,p=.tup ps)/\q=some (id,0)/\∃c,hp id=some (.ar false c)
 |.none=>(∃ps,p=.tup ps)/\q=none
theorem Amr{hp:Nat->Option Cc}{q:Option (Nat × Nat)}{p:PV}{x:Ip}(h:LOk hp q p x):IE p=true:=by
 cases x with
 |var id off cts ws=>rw[h.1];rfl
 |row id=>obtain⟨⟨_,e⟩,_⟩:=h;rw[e];rfl
 |none=>obtain⟨⟨_,e⟩,_⟩:=h;rw[e];rfl
def Vr(hp:Nat->Option Cc)(src:Nat->Nat->Option (Nat × Nat)):Nat->Ae->List Ip->Prop
 |_,[],l=>l=[]
 |i,p::ps,l=>(IE p=false/\src i 0=none/\Vr hp src (i+1) ps l)\/∃x l',l=x::l'/\LOk hp (src i 0) p x/\Vr hp src (i+1) ps l'
theorem Ajn(h:Cj N w0 X0 Y β s a w){C:Ih}{f:FuncId}{i:Nat}{t:TypeId}{x:Operand}{K:PV->B9->B9->List Ip->Option R}(hk:MF C P f s.hp i t (Cx s.tm x) K=some r):
  ∃v m y l,∃src:Nat->Option (Nat × Nat),K v m y l=some r/\(∀id∈m,∃f cc,s.hp id=some (.ar f cc))/\(∀id∈y,∃cc,s.hp id=some (.ar false cc)) /\
   (∀j id off,src (j+1)=some (id,off)->off=0/\id∈y)/\(Fa y=true->∀j j' id off off',src (j+1)=some (id,off)->src (j'+1)=some (id,off')->j=j') /\
   ((l=[]/\IE v=false/\src 0=none)\/∃x',l=[x']/\LOk s.hp (src 0) v x') /\
   ∀fz:B9,(∀id∈m,id∈fz)->(∀id∈fz,∃f cc,s.hp id=some (.ar f cc))->∀bt:Bt,(∀j,bt j=(src j).bind (Ik β))->Ajg w (Dv (Ah s.hp fz) β Y) bt v (a.eval x):=by
 have hx:=D7 h x
 have Wj:∀(q0:Option (Nat × Nat)) (q:Nat->Option Nat),∃src:Nat->Option (Nat × Nat),src 0=q0/\(∀j,src (j+1)=(q j).map fun id=>(id,0)):=
  fun q0 q=>⟨fun j=>match j with|0=>q0|j+1=>(q j).map fun id=>(id,0),rfl,fun _=>rfl⟩
 have Agf:∀{src:Nat->Option (Nat × Nat)} {q:Nat->Option Nat} {y:B9},(∀j,src (j+1)=(q j).map fun id=>(id,0))->(∀j id,q j=some id->id∈y)->∀j id off,src (j+1)=some (id,off)->off=0/\id∈y:=by
  intro src q y h1 h2 j id off hj;rw[h1] at hj;cases hq:q j with
  |none=>rw[hq] at hj;cases hj
  |some k=>rw[hq] at hj;cases hj;exact⟨rfl,h2 j _ hq⟩
 have Agh:∀{src:Nat->Option (Nat × Nat)} {q:Nat->Option Nat} {y:B9},(∀j,src (j+1)=(q j).map fun id=>(id,0))->(Fa y=true->∀j j' id,q j=some id->q j'=some id->j=j') ->
   Fa y=true->∀j j' id off off',src (j+1)=some (id,off)->src (j'+1)=some (id,off')->j=j':=by
  intro src q y h1 h2 hn j j' id off off' hj Tq;rw[h1] at hj Tq;cases hq:q j with
  |none=>rw[hq] at hj;cases hj
  |some k=>
   cases Hb:q j' with
   |none=>rw[Hb] at Tq;cases Tq
   |some k'=>
    rw[hq] at hj;rw[Hb] at Tq;cases hj;cases Tq;exact h2 hn j j' _ hq Hb
 have Hf:∀{src:Nat->Option (Nat × Nat)} {q:Nat->Option Nat} {bt:Bt},(∀j,src (j+1)=(q j).map fun id=>(id,0))->(∀j,bt j=(src j).bind (Ik β))->∀j,bt (1+j)=(q j).bind β:=by
  intro src q bt h1 h2 j;rw[Nat.add_comm,h2,h1];cases q j with
  |none=>rfl
  |some id=>exact Ajo β id
 unfold MF at hk;split at hk
 ·rename_i e he;split at hk
  ·rename_i id off ep;rw[ep] at hx;split at hk
   ·rename_i c h0;obtain⟨hb,hk⟩:=Aq hk;simp only[Fc,GF] at hb;obtain⟨cs,m,y,q,hk,hl,Oo,hA,hF,hm,hy,FX,Nl,hv⟩:=DF h hk;obtain⟨src,hs0,hs⟩:=Wj (some (id,off)) q;obtain⟨b,ob,hβ,Ee⟩:=hx;refine⟨_,m,y,_,src,hk,hm,hy,Agf hs FX,Agh hs Nl,.inr ⟨_,rfl,rfl,hs0,hl.symm,c,h0,by omega⟩,fun fz h1 h2 bt FP=>?_⟩;obtain⟨b',o',F4,Ko,DQ⟩:=h.box id _ h0;rw[hβ] at F4;cases F4;have Ek:((c.drop off).take (Kn P e).length).length=(Kn P e).length:=by simp;omega
    have Ats:∀j p,((c.drop off).take (Kn P e).length)[j]?=some p->c[off+j]?=some p/\j<(Kn P e).length:=by
     intro j p hj;rw[List.getElem?_take] at hj;split at hj
     ·rw[List.getElem?_drop] at hj;exact⟨hj,by assumption⟩
     ·cases hj
    refine⟨b,ob+off,by rw[FP,hs0];simp[Ik,hβ],Ee,hA,((c.drop off).take (Kn P e).length).mapIdx (fun j _=>(w.cell? ⟨b,ob+off+j,none⟩).getD undef),hv fz h1 h2 _ ?_ bt 1 (Hf hs FP),?_,fun k hk=>?_⟩
    ·refine Bx.of_at (by simp) fun j p v hp hv=>?_;obtain⟨hc,_⟩:=Ats j p hp;obtain⟨u,hu,hcr⟩:=Ko _ _ hc;rw[List.getElem?_mapIdx,hp,Option.map_some,Jc,hu] at hv;simp at hv;subst hv;exact hcr
    ·intro k v hkv;rw[List.getElem?_mapIdx] at hkv;cases hp:((c.drop off).take (Kn P e).length)[k]? with
     |none=>rw[hp] at hkv;cases hkv
     |some p=>
      obtain⟨hc,_⟩:=Ats k p hp;obtain⟨u,hu,hcr⟩:=Ko _ _ hc;rw[hp,Option.map_some,Jc,hu] at hkv;simp at hkv;subst hkv;rw[Jc];exact hu
    ·rw[Jc];exact DQ _ (by omega)
   ·cases hk
  ·cases hk
 ·cases hln:C.lnd f i<;>rw[hln] at hk<;>simp only[cond_true,cond_false] at hk
  ·cases Hs:C5 P t<;>rw[Hs] at hk<;>simp only[cond_true,cond_false] at hk
   ·obtain⟨cs,m,y,q,hk,hl,Oo,hA,hF,hm,hy,FX,Nl,hv⟩:=DF h hk;obtain⟨c,t',rfl,hk⟩:=Bo hk;obtain⟨rfl,hk⟩:=Em hk;obtain⟨src,hs0,hs⟩:=Wj none q;have hAc:=hA c (by simp);refine⟨c,m,y,_,src,hk,hm,hy,Agf hs FX,Agh hs Nl,.inl ⟨rfl,Ax5 hAc,hs0⟩,fun fz h1 h2 bt FP=>?_⟩;have hFx:=hF _ (Vv _)
    have hxc:Cm w (Dv s.hp β Y) β (Cx s.tm x) (a.eval x):=by
     cases hp:Cx s.tm x<;>rw[hp] at hx hFx<;>first|exact hx|exact hFx.elim
    have hoc:=(hv fz h1 h2 [a.eval x] ⟨hxc,trivial⟩ bt 1 (Hf hs FP)).1;rcases hAc with hT|⟨es,n,cc,rfl⟩
    ·cases c<;>first|exact⟨.inl trivial,hoc⟩|exact hT.elim
    ·exact⟨.inr ⟨_,_,_,rfl⟩,hoc⟩
   ·obtain⟨ps,ep,hk⟩:=Jj hk;rw[ep] at hx;obtain⟨vs,Ee,h3⟩:=hx;obtain⟨cs,m,y,q,hk,hl,Oo,hA,hF,hm,hy,FX,Nl,hv⟩:=DF h hk;obtain⟨src,hs0,hs⟩:=Wj none q;refine⟨_,m,y,_,src,hk,hm,hy,Agf hs FX,Agh hs Nl,.inl ⟨rfl,rfl,hs0⟩,fun fz h1 h2 bt FP=>?_⟩;exact⟨vs,Ee,hA,hv fz h1 h2 vs h3 bt 1 (Hf hs FP)⟩
  ·obtain⟨e,he,hk⟩:=Dd hk;unfold Ar7 at hk;split at hk
   ·rename_i id es' off n ep;rw[ep] at hx;split at hk
    ·rename_i c h0;obtain⟨hb,Fz⟩:=Aq hk;simp only[Fc] at hb;have he:=Dx hb.1;have hof:=Dx hb.2;subst hof;obtain⟨src,hs0,hs⟩:=Wj (some (id,0)) (fun _=>none);refine⟨_,[],[],_,src,Fz,by simp,by simp,Agf hs (by simp),Agh hs (by simp),.inr ⟨_,rfl,⟨_,rfl⟩,hs0,c,h0⟩,fun fz h1 h2 bt FP=>⟨_,_,_,rfl,?_⟩⟩;have QQ:bt 0=β id:=by rw[FP,hs0];exact Ajo β id
     rw[QQ];rcases hx with⟨h3,_,h4,h5⟩|⟨b,ob,y,cap,h3,h4,hy,h5,h6,h7⟩
     ·refine .inl ⟨h3,h4,?_,h5⟩;rcases h.box id _ h0 with⟨_,h8⟩|⟨_,_,h8,_⟩
      ·exact h8
      ·rw[h3] at h8;cases h8
     ·have hy:y=ob:=by rcases hy with e|⟨_,e⟩<;>omega
      subst hy;rcases h.box id _ h0 with⟨h8,_⟩|⟨b',o',h8,h9,h10,_⟩
      ·rw[h3] at h8;cases h8
      ·rw[h3] at h8;cases h8;exact .inr ⟨b,y,cap,h3,h4,h5,by rw[<-he];exact h6,h7,h9.weak (fun b _ hb=>S5 hb),h10 rfl⟩
    ·cases hk
   ·obtain⟨z,n,c,hk,hp⟩:=G0 hk;obtain⟨hz,hk⟩:=Aq hk;subst hz;obtain⟨src,hs0,hs⟩:=Wj none (fun _=>none)
    have hu:a.eval x=.slice none 0 0:=by
     have hF:Cm w (Dv s.hp β Y) β (Cx s.tm x) (a.eval x):=by rcases hp with e|⟨e,_⟩<;>rw[e] at hx ⊢ <;> exact hx
     have:=FH hp hF;generalize a.eval x=u at this;cases this;rfl
    refine⟨_,[],[],_,src,hk,by simp,by simp,Agf hs (by simp),Agh hs (by simp),.inr ⟨_,rfl,⟨_,rfl⟩,hs0⟩,fun fz h1 h2 bt FP=>⟨_,_,_,rfl,.inl ⟨by rw[FP,hs0];rfl,rfl,rfl,none,hu⟩⟩⟩
structure Bk3(i0 n:Nat)(src:Nat->Nat->Option (Nat × Nat))(ids x:B9):Prop where
 dom:∀i j q,src i j=some q->i0<=i/\i<i0+n
 lent:∀i id off,src i 0=some (id,off)->id∈ids
 mvd:∀i j id off,src i (j+1)=some (id,off)->off=0/\id∈x
 inj0:Fa ids=true->∀i i' id off off',src i 0=some (id,off)->src i' 0=some (id,off')->i=i'
 inj1:Fa x=true->∀i i' j j' id off off',src i (j+1)=some (id,off)->src i' (j'+1)=some (id,off')->i=i'/\j=j'
theorem GE{hp:Nat->Option Cc}{src src':Nat->Nat->Option (Nat × Nat)}:∀{ps:Ae}{i:Nat}{l:List Ip},(∀k,i<=k->src' k=src k)->Vr hp src i ps l->Vr hp src' i ps l
 |[],_,_,_,h=>h
 |p::ps,i,l,hs,h=>by
  rcases h with⟨h1,h2,h3⟩|⟨x,l',rfl,h2,h3⟩
  ·exact .inl ⟨h1,by rw[hs i (Ci _)];exact h2,GE (fun k hk=>hs k (by omega)) h3⟩
  ·exact .inr ⟨x,l',rfl,by rw[hs i (Ci _)];exact h2,GE (fun k hk=>hs k (by omega)) h3⟩
theorem NW{bt bt':FK}:∀{ps:Ae}{us:List Value}{i:Nat},(∀k,i<=k->∀j,bt' k j=bt k j)->Nr w A bt i ps us->Nr w A bt' i ps us
 |[],[],_,_,_=>trivial
 |[],_::_,_,_,h=>h.elim
 |_::_,[],_,_,h=>h.elim
 |_::_,_::_,i,hb,h=>⟨by rw[show bt' i=bt i from funext (hb i (Ci _))];exact h.1,NW (fun k hk=>hb k (by omega)) h.2⟩
theorem Aad(h:Cj N w0 X0 Y β s a w){C:Ih}{f:FuncId}:∀{ts:List TypeId}{xs:List Operand}{i:Nat}{K:Ae->B9->B9->List Ip->Option R},YM C P f s.hp i ts (xs.map (Cx s.tm)) K=some r ->
  ∃vs m y l,∃src:Nat->Nat->Option (Nat × Nat),K vs m y l=some r/\(∀id∈m,∃f cc,s.hp id=some (.ar f cc))/\(∀id∈y,∃cc,s.hp id=some (.ar false cc)) /\
   Bk3 i xs.length src (l.flatMap Ip.ids) y/\Vr s.hp src i vs l /\
   ∀fz:B9,(∀id∈m,id∈fz)->(∀id∈fz,∃f cc,s.hp id=some (.ar f cc))->∀bt:FK,(∀i j,bt i j=(src i j).bind (Ik β))->Nr w (Dv (Ah s.hp fz) β Y) bt i vs (xs.map a.eval)
 |[],[],i,K,hk=>⟨[],[],[],[],fun _ _=>none,hk,by simp,by simp,⟨by simp,by simp,by simp,by simp,by simp⟩,rfl,fun _ _ _ _ _=>trivial⟩
 |[],_::_,i,K,hk=>by cases hk
 |_::_,[],i,K,hk=>by cases hk
 |t::ts,x::xs,i,K,hk=>by
  simp only[X4] at hk;unfold YM at hk;obtain⟨v,m,y,l,src,hk,hm,hy,RB,HK,hl,hv⟩:=Ajn h hk;obtain⟨vs,ms,ys,ls,srcs,hk,RZ,hys,hS,hL,Ma⟩:=Aad h hk;have Wj:∃sr:Nat->Nat->Option (Nat × Nat),sr i=src/\∀k,k≠i->sr k=srcs k:=⟨fun k=>if k=i then src else srcs k,by simp,fun k hk=>by simp[hk]⟩
  obtain⟨sr,hsi,hso⟩:=Wj
  have WX:∀id off,src 0=some (id,off)->id∈l.flatMap Ip.ids:=by
   intro id off e;rcases hl with⟨_,_,h3⟩|⟨x',rfl,h3⟩
   ·rw[h3] at e;cases e
   ·cases x' with
    |var id' off' cts ws=>rw[h3.2.1] at e;cases e;simp[Ip.ids]
    |row id'=>rw[h3.2.1] at e;cases e;simp[Ip.ids]
    |none=>rw[h3.2] at e;cases e
  refine⟨v::vs,m++ms,y++ys,l++ls,sr,hk,?_,?_,⟨?_,?_,?_,?_,?_⟩,?_,fun fz h1 h2 bt FP=>⟨?_,?_⟩⟩
  ·intro i hi;rcases B5.1 hi with hi|hi
   ·exact hm i hi
   ·exact RZ i hi
  ·intro i hi;rcases B5.1 hi with hi|hi
   ·exact hy i hi
   ·exact hys i hi
  ·intro k j q hq;simp only[Tm];by_cases e:k=i
   ·subst e;omega
   ·rw[hso k e] at hq;have:=hS.dom k j q hq;omega
  ·intro k id off hq;rw[List.flatMap_append];by_cases e:k=i
   ·subst e;rw[hsi] at hq;exact B5.2 (.inl (WX id off hq))
   ·rw[hso k e] at hq;exact B5.2 (.inr (hS.lent k id off hq))
  ·intro k j id off hq;by_cases e:k=i
   ·subst e;rw[hsi] at hq;exact⟨(RB j id off hq).1,B5.2 (.inl (RB j id off hq).2)⟩
   ·rw[hso k e] at hq;exact⟨(hS.mvd k j id off hq).1,B5.2 (.inr (hS.mvd k j id off hq).2)⟩
  ·intro hn k k' id off off' hq Hb;rw[List.flatMap_append] at hn;obtain⟨_,h4,h5⟩:=Lg hn;by_cases e:k=i
   ·by_cases e':k'=i
    ·omega
    ·rw[hso k' e'] at Hb;subst e;rw[hsi] at hq;exact absurd (hS.lent k' id off' Hb) (h5 id (WX id off hq))
   ·rw[hso k e] at hq;by_cases e':k'=i
    ·subst e';rw[hsi] at Hb;exact absurd (hS.lent k id off hq) (h5 id (WX id off' Hb))
    ·rw[hso k' e'] at Hb;exact hS.inj0 h4 k k' id off off' hq Hb
  ·intro hn k k' j j' id off off' hq Hb;obtain⟨h3,h4,h5⟩:=Lg hn;by_cases e:k=i
   ·by_cases e':k'=i
    ·subst e;subst e';rw[hsi] at hq Hb;exact⟨rfl,HK h3 j j' id off off' hq Hb⟩
    ·rw[hso k' e'] at Hb;subst e;rw[hsi] at hq;exact absurd (hS.mvd k' j' id off' Hb).2 (h5 id (RB j id off hq).2)
   ·rw[hso k e] at hq;by_cases e':k'=i
    ·subst e';rw[hsi] at Hb;exact absurd (hS.mvd k j id off hq).2 (h5 id (RB j' id off' Hb).2)
    ·rw[hso k' e'] at Hb;exact hS.inj1 h4 k k' j j' id off off' hq Hb
  ·have EU:Vr s.hp sr (i+1) vs ls:=GE (fun k hk=>hso k (by omega)) hL;rcases hl with⟨rfl,hnp,h3⟩|⟨x',rfl,h3⟩
   ·exact .inl ⟨hnp,by rw[hsi];exact h3,EU⟩
   ·exact .inr ⟨x',ls,rfl,by rw[hsi];exact h3,EU⟩
  ·exact hv fz (fun i hi=>h1 i (by simp[hi])) h2 (bt i) (fun j=>by rw[FP,hsi])
  ·refine Ma fz (fun i hi=>h1 i (by simp[hi])) h2 (fun k j=>(srcs k j).bind (Ik β)) (fun _ _=>rfl) |> NW fun k hk j=>?_
   rw[FP,hso k (by omega)]
end
open Go.RowKit
section
variable {R:Type}{r:R}{P:Program}{N:Nat}{w0:World}{X0:F3}{Y:Nat->Prop}{β β':Bt}{s:St}{a:Act}{w w':World}{o:Oper}{A:Nat->Prop}
theorem As3{p:PV}{u:Value}(h:Av w A p u):Cm w A β p u:=by have h0:=h;cases h<;>exact h0
theorem At4{t:Nat}{ct:CT}{was p:PV}{K:Nat->PV->List (Nat × Cc)->Option R}(hk:Apu N t ct was p K=some r):
  (∃c,K t c []=some r/\FE c/\∀w A q u,H8 w A q p u->Av w A c u)\/∃es n cc,p=.own es n cc/\K (t+1) (.view (nid N t) es 0 n) [(nid N t,.ar false cc)]=some r:=by
 have tree:∀t',(MB t' p fun c=>K t c [])=some r->∃c,K t c []=some r/\FE c/\∀w A q u,H8 w A q p u->Av w A c u:=by
  intro t' hk;obtain⟨c,hk,hT,RN,hv⟩:=Rb hk;refine⟨c,hk,hT,fun w A q u h=>(hv w A (fun _=>none) u ?_).1⟩;cases p<;>first|exact h|exact RN.elim
 unfold Apu at hk;cases ct with
 |sl es=>
  dsimp only at hk;split at hk
  ·unfold Kf at hk;split at hk
   ·rename_i es' n c;cases hb:Nat.beq es' es<;>rw[hb] at hk
    ·cases hk
    ·have:=Dx hb;subst this;exact .inr ⟨_,_,_,rfl,hk⟩
   ·cases hk
  ·have h2:(MB (.sl es) p fun c=>(match c with | .lst _ es n c=>K t (.lst false es n c) []|_=>none))=some r:=hk;obtain⟨c,hk,hT,RN,hv⟩:=Rb h2;split at hk
   ·refine .inl ⟨_,hk,hT,fun w A q u h=>Av.unz (hv w A (fun _=>none) u ?_).1⟩;cases p<;>first|exact h|exact RN.elim
   ·cases hk
 |int k=>exact .inl (tree _ hk)
 |bool=>exact .inl (tree _ hk)
 |str=>exact .inl (tree _ hk)
 |any=>exact .inl (tree _ hk)
theorem NB:∀{cts:List CT}{ws ps:Ae}{t:Nat}{K:Nat->Ae->List (Nat × Cc)->Option R},Aaa N t cts ws ps K=some r ->
  ∃t' cs bs,∃qs:List (Nat × Nat),K t' cs bs=some r/\cs.length=ps.length/\ps.length=ws.length/\bs.map (·.1)=qs.map (·.1)/\(∀q∈qs,(∃k,q.1=nid N k)/\q.2<ps.length)/\(∀q∈qs,∀q'∈qs,q.2=q'.2->q.1=q'.1) /\
   (∀i bx,(i,bx)∈bs->∃c,bx=.ar false c)/\(∀c∈cs,∀i∈Au c,∃bx,(i,bx)∈bs) /\
   ∀(w:World) (A:Nat->Prop) (own β':Bt) (j0:Nat) (us:List Value),(∀q∈qs,β' q.1=own (j0+q.2))->F6 w A own j0 ps us->Bx (Cm w A β') cs us/\∀i bx,(i,bx)∈bs->Wq w A β' i bx
 |[],[],ps,t,K,hk=>by
  obtain⟨rfl,hk⟩:=Em hk;refine⟨t,[],[],[],hk,rfl,rfl,rfl,by simp,by simp,by simp,by simp,fun w A own β' j0 us _ h=>⟨?_,by simp⟩⟩;cases us with
  |nil=>trivial
  |cons u us=>exact h.elim
 |[],_::_,_,_,_,hk=>by cases hk
 |_::_,[],_,_,_,hk=>by cases hk
 |ct::cts,x::ws,ps,t,K,hk=>by
  unfold Aaa at hk;obtain⟨p,ps',MS,Er⟩:=Bo hk;subst MS;rcases At4 Er with⟨c,Fz,hT,hv⟩|⟨es,n,cc,rfl,Fz⟩
  ·obtain⟨t',cs,bs,qs,Ox,hl,Oo,hb,FX,Nl,F4,Ko,Ma⟩:=NB Fz;refine⟨t',c::cs,bs,qs.map (fun q=>(q.1,q.2+1)),Ox,by simp[hl],by simp[Oo],by rw[hb];simp,?_,?_,F4,?_,fun w A own β' j0 us hβ ho=>?_⟩
   ·intro q hq;obtain⟨q0,GK,rfl⟩:=List.mem_map.1 hq;exact⟨(FX q0 GK).1,by have:=(FX q0 GK).2;simp only[Tm];omega⟩
   ·intro q hq q' Hb e;obtain⟨q0,GK,rfl⟩:=List.mem_map.1 hq;obtain⟨q1,M0,rfl⟩:=List.mem_map.1 Hb;exact Nl q0 GK q1 M0 (by simp only at e;omega)
   ·intro y hy i hi;rcases Ch.1 hy with rfl|hy
    ·rw[J2 hT] at hi;cases hi
    ·exact Ko y hy i hi
   ·cases us with
    |nil=>exact ho.elim
    |cons u us=>
     obtain⟨h1,h2⟩:=Ma w A own β' (j0+1) us (fun q hq=>by rw[hβ _ (List.mem_map_of_mem hq)];congr 1;simp only;omega) ho.2
     exact⟨⟨As3 (hv w A _ u ho.1),h1⟩,h2⟩
  ·obtain⟨t',cs,bs,qs,Ox,hl,Oo,hb,FX,Nl,F4,Ko,Ma⟩:=NB Fz;refine⟨t',_::cs,(nid N t,.ar false cc)::bs,(nid N t,0)::qs.map (fun q=>(q.1,q.2+1)),Ox,by simp[hl],by simp[Oo],by simp only[X4,hb];simp,?_,?_,?_,?_,fun w A own β' j0 us hβ ho=>?_⟩
   ·intro q hq;rcases Ch.1 hq with rfl|hq
    ·exact⟨⟨t,rfl⟩,by simp⟩
    ·obtain⟨q0,GK,rfl⟩:=List.mem_map.1 hq;exact⟨(FX q0 GK).1,by have:=(FX q0 GK).2;simp only[Tm];omega⟩
   ·intro q hq q' Hb e;rcases Ch.1 hq with rfl|hq
    ·rcases Ch.1 Hb with rfl|Hb
     ·rfl
     ·obtain⟨q0,GK,rfl⟩:=List.mem_map.1 Hb;simp only at e;omega
    ·obtain⟨q0,GK,rfl⟩:=List.mem_map.1 hq;rcases Ch.1 Hb with rfl|Hb
     ·simp only at e;omega
     ·obtain⟨q1,M0,rfl⟩:=List.mem_map.1 Hb;exact Nl q0 GK q1 M0 (by simp only at e;omega)
   ·intro i bx hm;rcases Ch.1 hm with e|hm
    ·cases e;exact⟨cc,rfl⟩
    ·exact F4 i bx hm
   ·intro y hy i hi;rcases Ch.1 hy with rfl|hy
    ·simp only[Au,Qi] at hi;subst hi;exact⟨_,FR⟩
    ·obtain⟨bx,Mz⟩:=Ko y hy i hi;exact⟨bx,Tz _ Mz⟩
   ·cases us with
    |nil=>exact ho.elim
    |cons u us=>
     obtain⟨h1,h2⟩:=Ma w A own β' (j0+1) us (fun q hq=>by rw[hβ _ (Tz _ (List.mem_map_of_mem hq))];congr 1;simp only;omega) ho.2
     have h0:=hβ (nid N t,0) FR;simp only[ZW] at h0;refine⟨⟨?_,h1⟩,fun i bx hm=>?_⟩
     ·rcases ho.1 with⟨h3,rfl,_,h5⟩|⟨b,ob,cap,h3,h4,h5,h6,h7,_⟩
      ·exact .inl ⟨h0.trans h3,rfl,rfl,h5⟩
      ·exact .inr ⟨b,ob,ob,cap,h0.trans h3,h4,.inl rfl,h5,h6,h7⟩
     ·rcases Ch.1 hm with e|hm
      ·cases e;exact JE ho.1 h0
      ·exact h2 i bx hm
def Aiy(hp Do:Nat->Option Cc)(bs:List (Nat × Cc))(x:Ip):Prop:=
 match x with
 |.var id off _ ws=>∃c cs,hp id=some (.st c)/\Do id=some (.st (B6 c cs off))/\cs.length=ws.length/\off+cs.length<=c.length/\∀p∈cs,∀i∈Au p,∃bx,(i,bx)∈bs
 |.row id=>∃c cs,hp id=some (.ar false c)/\Do id=some (.ar false cs)
 |.none=>True
def Ash(β β':Bt)(w':World)(A:Nat->Prop)(hp Do:Nat->Option Cc)(x:Ip):Prop:=
 match x with
 |.var id off _ ws=>∃c cs,hp id=some (.st c)/\Do id=some (.st (B6 c cs off))/\cs.length=ws.length/\off+cs.length<=c.length /\
   ∀b o,β id=some (b,o)->(∀(j:Nat) p,cs[j]?=some p->∃v,w'.cell? ⟨b,o+off+j,none⟩=some v/\Cm w' A β' p v)/\∀j,j<cs.length->w'.frozen? ⟨b,o+off+j,none⟩=false
 |.row id=>∃cs,Do id=some (.ar false cs)/\((β id=none/\cs=[])\/∃b o,β id=some (b,o)/\VV w' A ⟨b,o,none⟩ cs/\∀j,o<=j->j<bsz w' b->w'.frozen? ⟨b,j,none⟩=false)
 |.none=>True
theorem IV{hp Dr Do:Nat->Option Cc}{bs bs1:List (Nat × Cc)}{x:Ip}(h1:∀i∈x.ids,Dr i=hp i)(hb:∀q∈bs,q∈bs1)(h:Aiy Dr Do bs x):Aiy hp Do bs1 x:=by
 cases x with
 |var id off cts ws=>
  obtain⟨c,cs,h2,h3,h4,h5,h6⟩:=h;refine⟨c,cs,by rw[<-h1 id (by simp[Ip.ids])];exact h2,h3,h4,h5,fun p hp i hi=>?_⟩
  obtain⟨bx,Mz⟩:=h6 p hp i hi;exact⟨bx,hb _ Mz⟩
 |row id=>
  obtain⟨c,cs,h2,h3⟩:=h;exact⟨c,cs,by rw[<-h1 id (by simp[Ip.ids])];exact h2,h3⟩
 |none=>trivial
theorem OX{hp Dr Do:Nat->Option Cc}{x:Ip}(h1:∀i∈x.ids,Dr i=hp i)(h:Ash β β' w' A Dr Do x):Ash β β' w' A hp Do x:=by
 cases x with
 |var id off cts ws=>
  obtain⟨c,cs,h2,h3⟩:=h;exact⟨c,cs,by rw[<-h1 id (by simp[Ip.ids])];exact h2,h3⟩
 |row id=>exact h
 |none=>trivial
theorem Amv{hp Dr:Nat->Option Cc}{q:Option (Nat × Nat)}{p:PV}{x:Ip}(h1:∀i∈x.ids,Dr i=hp i)(h:LOk hp q p x):LOk Dr q p x:=by
 cases x with
 |var id off cts ws'=>
  obtain⟨h2,h3,h5,c,h6,h7⟩:=h;exact⟨h2,h3,h5,c,by rw[h1 id (by simp[Ip.ids])];exact h6,h7⟩
 |row id=>
  obtain⟨h2,h3,c,h4⟩:=h;exact⟨h2,h3,c,by rw[h1 id (by simp[Ip.ids])];exact h4⟩
 |none=>exact h
theorem IA{hp Dr:Nat->Option Cc}{src:Nat->Nat->Option (Nat × Nat)}:∀{ps:Ae}{i:Nat}{l:List Ip},(∀i∈l.flatMap Ip.ids,Dr i=hp i)->Vr hp src i ps l->Vr Dr src i ps l
 |[],_,_,_,h=>h
 |p::ps,i,l,hs,h=>by
  rcases h with⟨h1,h2,h3⟩|⟨x,l',rfl,h2,h3⟩
  ·exact .inl ⟨h1,h2,IA hs h3⟩
  ·exact .inr ⟨x,l',rfl,Amv (fun k hk=>hs k (by simp only[Ji,B5];exact .inl hk)) h2,IA (fun k hk=>hs k (by simp only[Ji,B5];exact .inr hk)) h3⟩
theorem Aij{own:Bt}{bt:FK}{j i:Nat}{p:PV}{zs:Ae}{r:List Ae}(hp:IE p=false)(h:Kv w A own bt j i (p::zs) r):Kv w A own bt j (i+1) zs r:=by cases p<;>first|exact h|cases hp
theorem BV{src:Nat->Nat->Option (Nat × Nat)}{β:Bt}:∀{zs:Ae}{l:List Ip}{ro:List Ae} {i j t:Nat}{hp:Nat->Option Cc}{K:(Nat->Option Cc)->List (Nat × Cc)->Option R},
  GW N t l ro hp K=some r->Vr hp src i zs l->Fa (l.flatMap Ip.ids)=true ->
  ∃Do bs,∃qs:List (Nat × Nat),K Do bs=some r/\bs.map (·.1)=qs.map (·.1)/\(∀q∈qs,(∃k,q.1=nid N k)/\j<=q.2)/\(∀q∈qs,∀q'∈qs,q.2=q'.2->q.1=q'.1)/\(∀i bx,(i,bx)∈bs->∃c,bx=.ar false c) /\
   (∀i,i ∉ l.flatMap Ip.ids->Do i=hp i)/\(∀x∈l,Aiy hp Do bs x) /\
   ∀(w':World) (A:Nat->Prop) (own β':Bt) (bt:FK),(∀q∈qs,β' q.1=own q.2)->(∀i,bt i 0=(src i 0).bind (Ik β))->Kv w' A own bt j i zs ro ->
    (∀i bx,(i,bx)∈bs->Wq w' A β' i bx)/\∀x∈l,Ash β β' w' A hp Do x
 |[],l,ro,i,j,t,hp,K,hk,hL,hn=>by
  have hL:l=[]:=hL;subst hL;unfold GW at hk;obtain⟨rfl,hk⟩:=Em hk;exact⟨hp,[],[],hk,rfl,by simp,by simp,by simp,fun _ _=>rfl,by simp,fun w' A own β' bt _ _ _=>⟨by simp,by simp⟩⟩
 |p::zs,l0,ro,i,j,t,hp,K,hk,hL0,hn=>by
  rcases hL0 with⟨Xl,_,hL⟩|⟨x,l,rfl,hok,hL⟩
  rotate_left
  ··simp only[Ji] at hn;obtain⟨hn1,hn2,hn3⟩:=Lg hn;cases x with
    |var id off cts ws'=>
     obtain⟨rfl,Wj,M9,c,hc,Zi⟩:=hok;unfold GW at hk;obtain⟨cs,ro',hro,Er⟩:=Bo hk;subst hro;obtain⟨t',cs',bs,qs,Fz,VP,Ws,hb,FX,Nl,F4,Ko,hv⟩:=NB Er;rw[hc] at Fz;simp only at Fz;change GW N t' l ro' (Dt hp id (some (.st (B6 c cs' off)))) (fun Do bs'=>K Do (bs++bs'))=some r at Fz;have Ah1:id ∉ l.flatMap Ip.ids:=hn3 id (by simp[Ip.ids]);have hL':Vr (Dt hp id (some (.st (B6 c cs' off)))) src (i+1) zs l:=IA (fun k hkm=>Ao _ _ (fun e=>Ah1 (e ▸ hkm))) hL;obtain⟨Do,bs',qs',Ox,Iq,M0,Aka,Ajt,Qb,hsh,Ac7⟩:=BV (β:=β) (j:=j+cs.length) Fz hL' hn2;have Avc:Do id=some (.st (B6 c cs' off)):=by rw[Qb id Ah1,At]
     have SH:∀x∈l,∀k∈x.ids,Dt hp id (some (.st (B6 c cs' off))) k=hp k:=fun x hx k hkm=>Ao _ _ (fun e=>Ah1 (e ▸ List.mem_flatMap.2 ⟨x,hx,hkm⟩));refine⟨Do,bs++bs',qs.map (fun q=>(q.1,j+q.2))++qs',Ox,by simp only[List.map_append,hb,Iq];simp,?_,?_,?_,?_,?_,fun w' A own β' bt hβ FP ho=>?_⟩
     ·intro q hq;rcases B5.1 hq with hq|hq
      ·obtain⟨q0,GK,rfl⟩:=List.mem_map.1 hq;exact⟨(FX q0 GK).1,by simp only;omega⟩
      ·exact⟨(M0 q hq).1,by have:=(M0 q hq).2;omega⟩
     ·intro q hq q' Hb e;rcases B5.1 hq with hq|hq
      ·obtain⟨q0,GK,rfl⟩:=List.mem_map.1 hq;have:=(FX q0 GK).2;rcases B5.1 Hb with Hb|Hb
       ·obtain⟨q1,M0,rfl⟩:=List.mem_map.1 Hb;exact Nl q0 GK q1 M0 (by simp only at e;omega)
       ·have:=(M0 q' Hb).2;simp only at e;omega
      ·have h5:=(M0 q hq).2;rcases B5.1 Hb with Hb|Hb
       ·obtain⟨q1,Bcv,rfl⟩:=List.mem_map.1 Hb;have:=(FX q1 Bcv).2;simp only at e;omega
       ·exact Aka q hq q' Hb e
     ·intro k bx hm;rcases B5.1 hm with hm|hm
      ·exact F4 k bx hm
      ·exact Ajt k bx hm
     ·intro k hk;simp only[Ji,B5,not_or] at hk;rw[Qb k hk.2];exact Ao _ _ (by rintro rfl;exact hk.1 (by simp[Ip.ids]))
     ·intro x hx;rcases Ch.1 hx with rfl|hx
      ·refine⟨c,cs',hc,Avc,by omega,by omega,fun p hp k hk=>?_⟩;obtain⟨bx,Mz⟩:=Ko p hp k hk;exact⟨bx,B5.2 (.inl Mz)⟩
      ·exact IV (SH x hx) (fun q hq=>B5.2 (.inr hq)) (hsh x hx)
     ·obtain⟨⟨b,ob,QQ,Ek,vs,hov,Ev,XF⟩,ho⟩:=ho
      ·obtain⟨h1,h2⟩:=hv w' A own β' j vs (fun q hq=>hβ _ (B5.2 (.inl (List.mem_map_of_mem hq)))) hov;obtain⟨h3,h4⟩:=Ac7 w' A own β' bt (fun q hq=>hβ q (B5.2 (.inr hq))) FP ho;refine⟨fun k bx hm=>?_,fun x hx=>?_⟩
       ·rcases B5.1 hm with hm|hm
        ·exact h2 k bx hm
        ·exact h3 k bx hm
       ·rcases Ch.1 hx with rfl|hx
        ·refine⟨c,cs',hc,Avc,by omega,by omega,fun b1 o1 hβ1=>?_⟩;have Ko:=FP i;rw[QQ,Wj] at Ko;simp only[Option.bind_some,Ik,hβ1,Option.map_some,Option.some.injEq,Prod.mk.injEq] at Ko;obtain⟨rfl,rfl⟩:=Ko;refine⟨fun k p hp=>?_,fun k hk=>XF k (by omega)⟩;obtain⟨v,hv,hcr⟩:=h1.get hp;exact⟨v,Ev k v hv,hcr⟩
        ·exact OX (SH x hx) (h4 x hx)
    |row id=>
     obtain⟨⟨pz,rfl⟩,Wj,c,hc⟩:=hok;unfold GW at hk;obtain⟨cs,ro',hro,Fz⟩:=Bo hk;subst hro;have Ah1:id ∉ l.flatMap Ip.ids:=hn3 id (by simp[Ip.ids]);have hL':Vr (Dt hp id (some (.ar false cs))) src (i+1) zs l:=IA (fun k hkm=>Ao _ _ (fun e=>Ah1 (e ▸ hkm))) hL;obtain⟨Do,bs',qs',Ox,Iq,M0,Aka,Ajt,Qb,hsh,Ac7⟩:=BV (β:=β) (j:=j) Fz hL' hn2;have Avc:Do id=some (.ar false cs):=by rw[Qb id Ah1,At]
     have SH:∀x∈l,∀k∈x.ids,Dt hp id (some (.ar false cs)) k=hp k:=fun x hx k hkm=>Ao _ _ (fun e=>Ah1 (e ▸ List.mem_flatMap.2 ⟨x,hx,hkm⟩));refine⟨Do,bs',qs',Ox,Iq,M0,Aka,Ajt,?_,?_,fun w' A own β' bt hβ FP ho=>?_⟩
     ·intro k hk;simp only[Ji,B5,not_or] at hk;rw[Qb k hk.2];exact Ao _ _ (by rintro rfl;exact hk.1 (by simp[Ip.ids]))
     ·intro x hx;rcases Ch.1 hx with rfl|hx
      ·exact⟨c,cs,hc,Avc⟩
      ·exact IV (SH x hx) (fun q hq=>hq) (hsh x hx)
     ·obtain⟨App,ho⟩:=ho
      ·obtain⟨h3,h4⟩:=Ac7 w' A own β' bt hβ FP ho;refine⟨h3,fun x hx=>?_⟩;rcases Ch.1 hx with rfl|hx
       ·refine⟨cs,Avc,?_⟩;have Ko:=FP i;rw[Wj] at Ko;simp only[Option.bind_some,Ajo] at Ko;rw[Ko] at App;exact App
       ·exact OX (SH x hx) (h4 x hx)
    |none=>
     obtain⟨⟨pz,rfl⟩,Wj⟩:=hok;unfold GW at hk;obtain⟨cs,ro',hro,Fz⟩:=Bo hk;subst hro;obtain⟨Do,bs',qs',Ox,Iq,M0,Aka,Ajt,Qb,hsh,Ac7⟩:=BV (β:=β) (j:=j) Fz hL hn2;refine⟨Do,bs',qs',Ox,Iq,M0,Aka,Ajt,?_,?_,fun w' A own β' bt hβ FP ho=>?_⟩
     ·intro k hk;simp only[Ji,B5,not_or] at hk;exact Qb k hk.2
     ·intro x hx;rcases Ch.1 hx with rfl|hx
      ·trivial
      ·exact hsh x hx
     ·obtain⟨App,ho⟩:=ho
      ·obtain⟨h3,h4⟩:=Ac7 w' A own β' bt hβ FP ho;refine⟨h3,fun x hx=>?_⟩;rcases Ch.1 hx with rfl|hx
       ·trivial
       ·exact h4 x hx
  ·obtain⟨Do,bs',qs',Ox,Iq,M0,Aka,Ajt,Qb,hsh,Ac7⟩:=BV (β:=β) (j:=j) hk hL hn;exact⟨Do,bs',qs',Ox,Iq,M0,Aka,Ajt,Qb,hsh,fun w' A own β' bt hβ FP ho=>Ac7 w' A own β' bt hβ FP (Aij Xl ho)⟩
end
open Go.RowKit
theorem Hv(hp:Nat->Option Cc)(ids:B9)(i:Nat):BC hp ids i=if i∈ids then (hp i).map (fun _=>Cc.mv) else hp i:=by
 unfold BC;by_cases hi:i∈ids
 ·have:ids.any (Nat.beq i)=true:=List.any_eq_true.2 ⟨i,hi,Og i⟩;rw[this,Cr hi];rfl
 ·have:ids.any (Nat.beq i)=false:=by
   cases hb:ids.any (Nat.beq i)
   ·rfl
   ·obtain⟨j,hj,e⟩:=List.any_eq_true.1 hb;exact absurd (Dx e ▸ hj) hi
  rw[this,B3 hi];rfl
theorem Xx:∀{nw:List (Nat × Cc)} {hp:Nat->Option Cc},Co hp nw=true->(nw.map (·.1)).Nodup
 |[],_,_=>List.nodup_nil
 |(i,b)::r,hp,h=>by
  simp only[Co,Fc,Option.isNone_iff_eq_none,Bool.not_eq_true'] at h;simp only[X4,List.nodup_cons];refine⟨fun hm=>?_,Xx h.2⟩;obtain⟨q,hq,e⟩:=List.mem_map.1 hm;have:r.any (fun q=>Nat.beq q.1 i)=true:=List.any_eq_true.2 ⟨q,hq,by rw[e];exact Og i⟩
  rw[this] at h;cases h.1.2
theorem At0:∀{l:List (Nat × Nat)},(l.map (·.1)).Nodup->∀q∈l,EH l q.1=some q.2
 |[],_,_,h=>by cases h
 |(j,b)::r,hn,q,hq=>by
  simp only[X4,List.nodup_cons] at hn;unfold EH;rcases Ch.1 hq with rfl|hq
  ·simp only[Og,cond_true]
  ·have:Nat.beq q.1 j=false:=by
    cases hb:Nat.beq q.1 j
    ·rfl
    ·exact absurd (Dx hb ▸ List.mem_map_of_mem hq) hn.1
   simp only[this,cond_false];exact At0 hn.2 q hq
theorem Ae6:∀{l:List (Nat × Nat)} {i:Nat},i ∉ l.map (·.1)->EH l i=none
 |[],_,_=>rfl
 |(j,b)::r,i,h=>by
  simp only[X4,Ch,not_or] at h;unfold EH
  have:Nat.beq i j=false:=by
   cases hb:Nat.beq i j
   ·rfl
   ·exact absurd (Dx hb) h.1
  simp only[this,cond_false];exact Ae6 h.2
section
variable {R:Type}{r:R}{P:Program}{N:Nat}{w0:World}{X0:F3}{Y:Nat->Prop}{β β':Bt}{s:St}{a:Act}{w w':World}{o:Oper}{A A':Nat->Prop}
theorem H8.weak(hA:∀b,b<w.heap.size->A' b->A b){q:Option (Nat × Nat)}{p:PV}{u:Value}(h:H8 w A q p u):H8 w A' q p u:=by
 have tr:∀{p:PV},Av w A p u->Av w A' p u:=fun h=>h.step (Cw.refl _ _) hA;cases p with
 |own es n c=>
  rcases h with h|⟨b,ob,cap,h1,h2,h3,h4,h5,h6,h7⟩
  ·exact .inl h
  ·exact .inr ⟨b,ob,cap,h1,h2,h3,h4,h5,h6.weak hA,h7⟩
 |_=>exact tr h
theorem F6.weak(hA:∀b,b<w.heap.size->A' b->A b){own:Bt}:∀{ps:Ae}{us:List Value}{j:Nat},F6 w A own j ps us->F6 w A' own j ps us
 |[],[],_,_=>trivial
 |[],_::_,_,h=>h.elim
 |_::_,[],_,h=>h.elim
 |_::_,_::_,_,h=>⟨h.1.weak hA,F6.weak hA h.2⟩
theorem Ajg.weak(hA:∀b,b<w.heap.size->A' b->A b){bt:Bt}{p:PV}{u:Value}(h:Ajg w A bt p u):Ajg w A' bt p u:=by
 cases p with
 |pbox ps=>
  obtain⟨b,ob,h1,h2,h3,vs,h4,h5⟩:=h;exact⟨b,ob,h1,h2,h3,vs,h4.weak hA,h5⟩
 |tup ps=>
  obtain⟨es,n,c,h1,h2⟩:=h;exact⟨es,n,c,h1,h2.weak hA⟩
 |agg cs=>
  obtain⟨vs,h1,h2,h3⟩:=h;exact⟨vs,h1,h2,h3.weak hA⟩
 |_=>exact⟨h.1,h.2.weak hA⟩
theorem Nr.weak(hA:∀b,b<w.heap.size->A' b->A b){bt:FK}:∀{ps:Ae}{us:List Value}{i:Nat},Nr w A bt i ps us->Nr w A' bt i ps us
 |[],[],_,_=>trivial
 |[],_::_,_,h=>h.elim
 |_::_,[],_,h=>h.elim
 |_::_,_::_,_,h=>⟨h.1.weak hA,Nr.weak hA h.2⟩
theorem HS{bt:FK}(k:Bool):∀{xs:List Operand}{ps:Ae}{i:Nat},Nr w A bt i ps (xs.map a.eval)->Nr w A bt i (Mw k xs ps) (xs.map a.eval)
 |[],[],_,h=>h
 |[],_::_,_,h=>h
 |_::_,[],_,h=>h
 |x::xs,p::ps,i,h=>by
  simp only[X4] at h ⊢;refine⟨?_,HS k h.2⟩;split
  ·exact⟨.inl trivial,Av.lnil _ _⟩
  ·exact h.1
theorem Adf(k:Bool)(x:Operand)(xs:List Operand)(p:PV)(ps:Ae):∃p',Mw k (x::xs) (p::ps)=p'::Mw k xs ps/\IE p'=IE p/\(IE p=true->p'=p):=by
 refine⟨_,rfl,?_,fun h=>?_⟩
 ·split
  ·rfl
  ·rfl
 ·split
  ·cases h
  ·rfl
theorem X3{hp:Nat->Option Cc}{src:Nat->Nat->Option (Nat × Nat)}(k:Bool):∀{xs:List Operand}{ps:Ae}{i:Nat}{l:List Ip},Vr hp src i ps l->Vr hp src i (Mw k xs ps) l
 |[],[],_,_,h=>h
 |[],_::_,_,_,h=>h
 |_::_,[],_,_,h=>h
 |x::xs,p::ps,i,l,h=>by
  obtain⟨p',e,h1,h2⟩:=Adf k x xs p ps;rw[e];rcases h with⟨h3,h4,h5⟩|⟨y,l',rfl,h4,h5⟩
  ·exact .inl ⟨by rw[h1];exact h3,h4,X3 k h5⟩
  ·exact .inr ⟨y,l',rfl,by rw[h2 (Amr h4)];exact h4,X3 k h5⟩
theorem RG{hp:Nat->Option Cc}{src:Nat->Nat->Option (Nat × Nat)}:∀{ps:Ae}{i:Nat}{l:List Ip},Vr hp src i ps l->∀id∈l.flatMap Ip.ids,Dj (hp id)/\∃k off,src k 0=some (id,off)
 |[],_,_,h,id,B4=>by
  have h:_=[]:=h;rw[h] at B4;cases B4
 |p::ps,i,l,h,id,B4=>by
  rcases h with⟨_,_,h3⟩|⟨x,l',rfl,h2,h3⟩
  ·exact RG h3 id B4
  ·simp only[Ji,B5] at B4;rcases B4 with B4|B4
   ·cases x with
    |var id' off cts ws=>
     simp only[Ip.ids,Qi] at B4;subst B4;obtain⟨_,h4,_,c,h5,_⟩:=h2;exact⟨by rw[h5];trivial,i,_,h4⟩
    |row id'=>
     simp only[Ip.ids,Qi] at B4;subst B4;obtain⟨_,h4,c,h5⟩:=h2;exact⟨by rw[h5];trivial,i,_,h4⟩
    |none=>simp[Ip.ids] at B4
   ·exact RG h3 id B4
theorem Aug{hp:Nat->Option Cc}{src:Nat->Nat->Option (Nat × Nat)}:∀{ps:Ae}{i:Nat}{l:List Ip},Vr hp src i ps l->∀k p id off,ps[k]?=some p->src (i+k) 0=some (id,off) ->
   (∃c ws,hp id=some (.st c)/\p=.pbox ws/\off+ws.length<=c.length)\/((∃c,hp id=some (.ar false c))/\off=0/\∃ws,p=.tup ws)
 |[],_,_,_,k,p,id,off,hp,_=>by simp at hp
 |p::ps,i,l,h,k,p',id,off,Do,hs=>by
  have EU:∃l',Vr hp src (i+1) ps l':=by
   rcases h with⟨_,_,h3⟩|⟨x,l',_,_,h3⟩<;>exact⟨_,h3⟩
  cases k with
  |succ k=>
   obtain⟨l',h'⟩:=EU;exact Aug h' k p' id off (by simpa using Do) (by rw[show i+1+k=i+(k+1) by omega];exact hs)
  |zero=>
   simp only[List.getElem?_cons_zero,Option.some.injEq] at Do;subst Do;rw[ZW] at hs;rcases h with⟨_,h2,_⟩|⟨x,l',_,h2,_⟩
   ·rw[hs] at h2;cases h2
   ·cases x with
    |var id' off' cts ws=>
     obtain⟨h3,h4,_,c,h5,h6⟩:=h2;rw[hs] at h4;cases h4;exact .inl ⟨c,ws,h5,h3,h6⟩
    |row id'=>
     obtain⟨h3,h4,c,h5⟩:=h2;rw[hs] at h4;cases h4;exact .inr ⟨⟨c,h5⟩,rfl,h3⟩
    |none=>
     have:=h2.2;rw[hs] at this;cases this
theorem Agd{hp : Nat -> Option Cc}{src : Nat -> Nat -> Option (Nat × Nat)}{id off : Nat}{cts : List CT}{ws : Ae}: ∀ {ps : Ae} {i : Nat} {l : List Ip}, Vr hp src i ps l -> Ip.var id off cts ws ∈ l ->
      ∃ k, ps[k]? = some (.pbox ws) /\ src (i + k) 0 = some (id, off)
  | [], _, _, h, hm => by
    have h : _ = [] := h
    rw[h] at hm; cases hm
  | p :: ps, i, l, h, hm => by
    have next : ∀ {l'}, Vr hp src (i + 1) ps l' -> Ip.var id off cts ws ∈ l' -> ∃ k, (p :: ps)[k]? = some (.pbox ws) /\ src (i + k) 0 = some (id, off) := by
      intro l' h' N0
      obtain⟨k, h1, h2⟩ := Agd h' N0
      exact⟨k + 1, by simpa using h1, by rw[show i + (k + 1) = i + 1 + k by omega]; exact h2⟩
    rcases h with⟨_, _, h3⟩ | ⟨x, l', rfl, h2, h3⟩
    · exact next h3 hm
    · rcases Ch.1 hm with e | hm
      · subst e
        obtain⟨h1, h4, _⟩ := h2
        subst h1
        exact⟨0, rfl, h4⟩
      · exact next h3 hm
theorem Af6{hp:Nat->Option Cc}{src:Nat->Nat->Option (Nat × Nat)}:∀{ps:Ae}{i:Nat}{l:List Ip},Vr hp src i ps l->∀k id off,i<=k->src k 0=some (id,off)->k<i+ps.length->∃p,ps[k-i]?=some p/\IE p=true
 |[],i,_,_,k,id,off,h1,_,h3=>by simp at h3;omega
 |p::ps,i,l,h,k,id,off,h1,h2,h3=>by
  by_cases e:k=i
  ·subst e;rcases h with⟨_,h4,_⟩|⟨x,l',_,h4,_⟩
   ·rw[h2] at h4;cases h4
   ·exact⟨p,by simp,Amr h4⟩
  ·have EU:∃l',Vr hp src (i+1) ps l':=by
    rcases h with⟨_,_,h3⟩|⟨x,l',_,_,h3⟩<;>exact⟨_,h3⟩
   obtain⟨l',h'⟩:=EU;obtain⟨q,h5,h6⟩:=Af6 h' k id off (by omega) h2 (by simp at h3;omega)
   refine⟨q,?_,h6⟩;rw[show k-i=(k-(i+1))+1 by omega]
   simpa using h5
theorem Nr.len{bt:FK}:∀{ps:Ae}{us:List Value}{i:Nat},Nr w A bt i ps us->ps.length=us.length
 |[],[],_,_=>rfl
 |[],_::_,_,h=>h.elim
 |_::_,[],_,h=>h.elim
 |_::_,_::_,_,h=>by simp[Nr.len h.2]
theorem Aew(h:Cj N w0 X0 Y β s a w){G:Vg}(I7:NT P G w0 X0){C:Ih}{call:Ap}(Dc:∀f args res,call f args=some res->C9 G P f args res){c:Call}{f:FuncId}(ho:o.op=.call c)(hc:c.callee=.value (.func f)){K:St->Option R}(hk:MO C P N call s o f c K=some r):
  ∃s',K s'=some r/\∀(next:Act->World->Prop) (Q:Exit->Act->World->Prop),(∀a' w' β',Cj N w0 X0 Y β' s' a' w'->next a' w')->o.wp P a w next Q:=by
 unfold MO at hk;obtain⟨vs0,m,x,l,src,Er,hm,hx,hS,hL,F0⟩:=Aad h hk;obtain⟨hb,Fz⟩:=Aq Er;simp only[Fc] at hb;obtain⟨⟨⟨WA,A3q⟩,hN⟩,Ang⟩:=hb;have hN:0<N:=Nat.lt_of_succ_le (R5 hN);obtain⟨hnl,hnx,hlx⟩:=Lg WA
 have hml:∀i∈m,i ∉ l.flatMap Ip.ids/\i ∉ x:=by
  intro i hi;have:=List.all_eq_true.1 A3q i hi
  have hn:∀k∈l.flatMap Ip.ids++x,i≠k:=by
   rintro k hk rfl
   have h2:(l.flatMap Ip.ids++x).any (Nat.beq i)=true:=List.any_eq_true.2 ⟨i,hk,Og i⟩;rw[h2] at this;cases this
  exact⟨fun hq=>hn i (by simp only[B5];exact .inl hq) rfl,fun hq=>hn i (by simp only[B5];exact .inr hq) rfl⟩
 replace hL:=X3 (C.kz f) (xs:=c.args.toList) hL
 replace F0:=fun fz h1 h2 bt FP=>HS (a:=a) (C.kz f) (F0 fz h1 h2 bt FP)
 generalize Mw (C.kz f) c.args.toList vs0=vs at Fz F0 hL;obtain⟨rv,ro,M9,Ox⟩:=ZX Fz;obtain⟨ws,bs,Ug,hwl,hnt,XW,hrs,hri,hws⟩:=LW (C.shr f) N Ox;obtain⟨V6,WM⟩:=Aq Ug;obtain⟨lids,WX⟩:∃lids,l.flatMap Ip.ids=lids:=⟨_,rfl⟩
 rw[WX] at hS hnl hlx hml;have A9q:∀i,i ∉ x->BC (Ah s.hp m) x i=Ah s.hp m i:=fun i hi=>by rw[Hv,B3 hi]
 have Als:∀i,i∈lids->BC (Ah s.hp m) x i=s.hp i:=fun i hi=>by
  rw[A9q i (hlx i hi),Cu,B3 (fun hq=>(hml i hq).1 hi)]
 have hLM:Vr (BC (Ah s.hp m) x) src 0 vs l:=IA (fun i hi=>Als i (WX ▸ hi)) hL;obtain⟨Do,bs',qs,hk6,hbq,FX,Nl,F4,Qb,hsh,Ac7⟩:=BV (β:=β) (j:=N6 rv) WM hLM (by rw[WX];exact hnl)
 obtain⟨Vj,hk7⟩:=Aq hk6;refine⟨_,hk7,fun next Q hn=>?_⟩;clear hk Er Fz Ox Ug WM hk6 hk7;rw[WX] at Qb;obtain⟨⟨fn,hfn,hfb⟩,Z5⟩:=Dc f vs _ M9;have hf:=h.freeze hm;have Ap2:=RG hL;rw[WX] at Ap2
 have YX:∀i,i∈lids\/i∈x->Ah s.hp m i=s.hp i:=by
  intro i hi;rw[Cu,B3];intro hq;rcases hi with hi|hi
  ·exact (hml i hq).1 hi
  ·exact (hml i hq).2 hi
 have JG:∀i,i∈lids\/i∈x->Dj (s.hp i):=by
  intro i hi;rcases hi with hi|hi
  ·exact (Ap2 i hi).1
  ·obtain⟨cc,hcc⟩:=hx i hi;rw[hcc];trivial
 have A7s:∀i j id off,src i j=some (id,off)->id∈lids\/id∈x:=by
  intro i j id off hs;cases j with
  |zero=>exact .inl (hS.lent i id off hs)
  |succ j=>exact .inr (hS.mvd i j id off hs).2
 obtain⟨bt,FP⟩:∃bt:FK,∀i j,bt i j=(src i j).bind (Ik β):=⟨_,fun _ _=>rfl⟩
 have btS:∀{i j b ob},bt i j=some (b,ob)->∃id off o',src i j=some (id,off)/\β id=some (b,o')/\ob=o'+off/\(id∈lids\/id∈x):=by
  intro i j b ob hb;rw[FP] at hb;cases hs:src i j with
  |none=>rw[hs] at hb;cases hb
  |some q=>
   rw[hs] at hb;obtain⟨id,off⟩:=q;simp only[Option.bind_some,Ik] at hb;cases hβ:β id with
   |none=>rw[hβ] at hb;cases hb
   |some p=>
    rw[hβ] at hb;obtain⟨b',o'⟩:=p;simp only[Option.map_some,Option.some.injEq,Prod.mk.injEq] at hb;obtain⟨rfl,rfl⟩:=hb;exact⟨id,off,o',rfl,hβ,rfl,A7s i j id off hs⟩
 have btX:∀{b},BtX bt b->∃id o',β id=some (b,o')/\(id∈lids\/id∈x):=by
  rintro b ⟨i,j,ob,hb⟩
  obtain⟨id,off,o',_,h2,_,h4⟩:=btS hb;exact⟨id,o',h2,h4⟩
 have hBA:∀b,BtX bt b->II s.hp β b:=fun b hb=>by
  obtain⟨id,o',h1,h2⟩:=btX hb;exact⟨id,o',JG id h2,h1⟩
 obtain⟨Yc,hYc⟩:∃Yc:Nat->Prop,∀b,Yc b↔((∃id ob,Dj (Ah s.hp m id)/\β id=some (b,ob)/\id ∉ lids/\id ∉ x)\/Y b):=⟨_,fun _=>Iff.rfl⟩
 have Ek:vs.length=c.args.toList.length:=by
  have:=(F0 m (fun _ hi=>hi) hm bt FP).len
  simpa using this
 have Azm:Ins w Yc bt vs (c.args.toList.map a.eval):=by
  refine⟨fun b hb=>?_,fun b hb hB=>?_,fun b hB=>?_,fun i j i' j' b ob ob' hb Iq=>?_,fun i q hq=>?_,?_⟩
  ·rcases (hYc b).1 hb with⟨id,ob,hl,hβ,_⟩|hY
   ·exact hf.blt id b ob (Dw hl) hβ
   ·exact Ft (h.Ylt b hY) h.fr.step.size
  ·obtain⟨id',o',h1,h2⟩:=btX hB;rcases (hYc b).1 hb with⟨id,ob,hl,hβ,h3,h4⟩|hY
   ·have:=hf.inj id id' b ob o' hl (by show Dj (Ah s.hp m id');rw[YX id' h2];exact JG id' h2) hβ h1
    subst this;rcases h2 with h2|h2
    ·exact h3 h2
    ·exact h4 h2
   ·exact h.Yx b hY ⟨id',o',JG id' h2,h1⟩
  ·obtain⟨id',o',h1,h2⟩:=btX hB;exact h.blt id' b o' (Dw (JG id' h2)) h1
  ·obtain⟨id,off,o1,h1,h2,_,h4⟩:=btS hb;obtain⟨id',off',o1',h1',h2',_,h4'⟩:=btS Iq;have:=h.inj id id' b o1 o1' (JG id h4) (JG id' h4') h2 h2';subst this;cases j with
   |zero=>
    cases j' with
    |zero=>exact⟨hS.inj0 hnl i i' id off off' h1 h1',rfl⟩
    |succ j'=>exact absurd (hS.mvd i' j' id off' h1').2 (hlx id (hS.lent i id off h1))
   |succ j=>
    cases j' with
    |zero=>exact absurd (hS.mvd i j id off h1).2 (hlx id (hS.lent i' id off' h1'))
    |succ j'=>
     obtain⟨h5,h6⟩:=hS.inj1 hnx i i' j j' id off off' h1 h1';exact⟨h5,by rw[h6]⟩
  ·obtain⟨b,ob⟩:=q;obtain⟨id,off,o',h1,_⟩:=btS hq;obtain⟨p,hp,h2⟩:=Af6 hL i id off (Nat.zero_le _) h1 (by have:=hS.dom i 0 _ h1;rw[Ek];exact this.2)
   exact⟨p,by simpa using hp,h2⟩
  ·refine (F0 m (fun _ hi=>hi) hm bt FP).weak fun b _ hb=>?_;rcases hb with hb|hb
   ·obtain⟨id',o',h1,h2⟩:=btX hb;exact .inl ⟨id',o',by rw[YX id' h2];exact JG id' h2,h1⟩
   ·rcases (hYc b).1 hb with⟨id,ob,hl,hβ,_⟩|hY
    ·exact .inl ⟨id,ob,hl,hβ⟩
    ·exact .inr hY
 unfold Oper.wp;rw[TA ho hc I7.ng hfn hfb];show Calls P f _ w _;have hca:c.args.map a.eval=(c.args.toList.map a.eval).toArray:=by rw[<-List.map_toArray,Array.toArray_toList]
 rw[hca];refine (Z5 w Yc bt _ Azm (I7.fr w h.fr) (fun b x=>⟨Ft (I7.y b x).1 h.fr.step.size,fun hB=>(h.ownd b (hBA b hB)).elim (I7.y b x).2 (fun Zi=>absurd (I7.y b x).1 (Nat.not_lt.2 Zi))⟩)).mono ?_
 rintro e w' ⟨us,own,rfl,out⟩
 obtain⟨ha1,Xk⟩:=Cb Vj;obtain⟨hg1,hg2⟩:=Fk (hp:=Do) Xk;have Ah2:=Xx Vj;rw[List.map_append,List.nodup_append] at Ah2;obtain⟨Brl,Bc9,Bn4⟩:=Ah2;rw[hbq] at Bc9
 obtain⟨β1,hβ1,hβ2⟩:∃β1:Bt,(∀i,(∃bx,(i,bx)∈bs)->β1 i=own ((i-o.dst.getD N) / N))/\∀i,(¬∃bx,(i,bx)∈bs)->β1 i=match EH qs i with|some j=>own j|none=>β i:=by
  refine⟨fun i=>if (bs.any fun q=>Nat.beq q.1 i)=true then own ((i-o.dst.getD N) / N) else match EH qs i with|some j=>own j|none=>β i,fun i hi=>?_,fun i hi=>?_⟩
  ·show (if _ then _ else _)=_;rw[Cr (Acr.2 hi)]
  ·show (if _ then _ else _)=_;rw[B3 (fun hq=>hi (Acr.1 hq))]
 have hβbs:∀j,(∃bx,(o.dst.getD N+N*j,bx)∈bs)->β1 (o.dst.getD N+N*j)=own (0+j):=by
  intro j hj;rw[hβ1 _ hj,Nat.add_sub_cancel_left,Nat.mul_div_cancel_left _ hN,Ie]
 have hqb:∀q∈qs,∃bx,(q.1,bx)∈bs':=by
  intro q hq;have:q.1∈bs'.map (·.1):=by rw[hbq];exact List.mem_map_of_mem hq
  obtain⟨⟨i,bx⟩,hm,e⟩:=List.mem_map.1 this;exact⟨bx,e ▸ hm⟩
 have Blt:∀i bx,(i,bx)∈bs'->∃j,(i,j)∈qs:=by
  intro i bx hm;have:i∈qs.map (·.1):=by rw[<-hbq];exact List.mem_map.2 ⟨_,hm,rfl⟩
  obtain⟨⟨i',j⟩,hm,e⟩:=List.mem_map.1 this;exact⟨j,e ▸ hm⟩
 have hbb:∀i,(∃bx,(i,bx)∈bs')->¬∃bx,(i,bx)∈bs:=by
  rintro i ⟨bx,hm⟩ ⟨bx',N0⟩
  exact Bn4 i (List.mem_map.2 ⟨_,N0,rfl⟩) i (List.mem_map.2 ⟨_,hm,rfl⟩) rfl
 have hβqs:∀q∈qs,β1 q.1=own q.2:=by
  intro q hq;rw[hβ2 q.1 (hbb q.1 (hqb q hq)),At0 Bc9 q hq]
 have hβold:∀i,Do i≠none->β1 i=β i:=by
  intro i hi
  have hn1:¬∃bx,(i,bx)∈bs:=by
   rintro⟨bx,hm⟩
   exact hi (ha1 i bx (B5.2 (.inl hm)))
  rw[hβ2 i hn1,Ae6];intro hm;obtain⟨q,hq,e⟩:=List.mem_map.1 hm;obtain⟨bx,Mz⟩:=hqb q hq;exact hi (ha1 i bx (B5.2 (.inr (e ▸ Mz))))
 obtain⟨Ma,hba⟩:=hws w' _ own β1 w.heap.size 0 us hβbs out.vals;obtain⟨Bkh,Bam⟩:=Ac7 w' _ own β1 bt hβqs (fun i=>FP i 0) out.outs
 have A1k:∀id∈lids,∃y∈l,id∈y.ids:=by
  intro id B4;rw[<-WX] at B4;exact List.mem_flatMap.1 B4
 have Awf:∀id∈lids,(∃off c cs,s.hp id=some (.st c)/\Do id=some (.st (B6 c cs off))/\off+cs.length<=c.length/\(∀p∈cs,∀i∈Au p,∃bx,(i,bx)∈bs'))\/∃c cs,s.hp id=some (.ar false c)/\Do id=some (.ar false cs):=by
  intro id B4;obtain⟨y,hy,hyi⟩:=A1k id B4;have h1:=hsh y hy;cases y with
  |var id' off cts ws'=>
   simp only[Ip.ids,Qi] at hyi;subst hyi;obtain⟨c1,cs,h2,h3,h4,h5,h6⟩:=h1;rw[Als id B4] at h2;exact .inl ⟨off,c1,cs,h2,h3,h5,h6⟩
  |row id'=>
   simp only[Ip.ids,Qi] at hyi;subst hyi;obtain⟨c1,cs,h2,h3⟩:=h1;rw[Als id B4] at h2;exact .inr ⟨c1,cs,h2,h3⟩
  |none=>simp[Ip.ids] at hyi
 have Bff:∀id∈lids,Do id≠none:=by
  intro id B4;rcases Awf id B4 with⟨_,_,_,_,h2,_⟩|⟨_,_,_,h2⟩<;>rw[h2]<;>simp
 have hpK:∀id,id ∉ lids->Do id=BC (Ah s.hp m) x id:=fun id B4=>Qb id B4
 have Gc:∀i,s.hp i≠none->Do i≠none:=by
  intro i hi;by_cases hl:i∈lids
  ·exact Bff i hl
  ·rw[hpK i hl,Hv];have h1:Ah s.hp m i≠none:=fun e=>hi (E8.1 e);split
   ·cases hq:Ah s.hp m i with
    |none=>exact absurd hq h1
    |some b=>simp
   ·exact h1
 have Ax0:∀i,(s.hp i≠none\/∃bx,(i,bx)∈bs++bs')->A6 Do (bs++bs') i≠none:=by
  rintro i (hi|⟨bx,hm⟩)
  ·have h1:=Gc i hi;rw[hg2 i (fun bx hm=>h1 (ha1 i bx hm))];exact h1
  ·rw[hg1 i bx hm];simp
 have Ju:∀id,(∃bx,(id,bx)∈bs++bs')\/A6 Do (bs++bs') id=Do id:=fun id=>by
  by_cases hx:∃bx,(id,bx)∈bs++bs'
  ·exact .inl hx
  ·exact .inr (hg2 id fun bx hb=>hx ⟨bx,hb⟩)
 have hold:∀id bx,Do id=some bx->Dj (some bx)->Dj (s.hp id)/\id ∉ x/\(id∈lids\/(id ∉ lids/\Ah s.hp m id=some bx)):=by
  intro id bx hb hl;by_cases B4:id∈lids
  ·exact⟨JG id (.inl B4),hlx id B4,.inl B4⟩
  ·rw[hpK id B4,Hv] at hb;split at hb
   ·cases hq:Ah s.hp m id with
    |none=>rw[hq] at hb;cases hb
    |some b=>rw[hq] at hb;simp at hb;subst hb;exact hl.elim
   ·rename_i hxn;exact⟨by rw[Lx hb hl];exact hl,hxn,.inr ⟨B4,hb⟩⟩
 have FG:∀i bx,(i,bx)∈bs++bs'->∃j,β1 i=own j/\((i=o.dst.getD N+N*j/\j<N6 rv)\/((i,j)∈qs/\N6 rv<=j)):=by
  intro i bx hm;rcases B5.1 hm with hm|hm
  ·obtain⟨⟨j,rfl,hj⟩,_⟩:=hba i bx hm;exact⟨j,by rw[hβbs j ⟨bx,hm⟩,Ie],.inl ⟨rfl,hj⟩⟩
  ·obtain⟨j,hj⟩:=Blt i bx hm;exact⟨j,hβqs _ hj,.inr ⟨hj,(FX _ hj).2⟩⟩
 have A0z:∀i bx,(i,bx)∈bs++bs'->Dj (some bx)/\Wq w' (Yr bt own Yc) β1 i bx/\∀cs,bx=.st cs->∀b ob,β1 i=some (b,ob)->w.heap.size<=b:=by
  intro i bx hm;rcases B5.1 hm with hm|hm
  ·exact (hba i bx hm).2
  ·obtain⟨cc,rfl⟩:=F4 i bx hm;exact⟨trivial,Bkh i _ hm,fun cs e=>by cases e⟩
 have A3w:∀b,(∃i k o',bt i (k+1)=some (b,o'))->∃id o',id∈x/\β id=some (b,o'):=by
  rintro b ⟨i,k,o',hb⟩
  obtain⟨id,off,o1,h1,h2,_,_⟩:=btS hb;exact⟨id,o1,(hS.mvd i k id off h1).2,h2⟩
 have hX:∀b,b<w.heap.size->II (A6 Do (bs++bs')) β1 b->II s.hp β b:=by
  rintro b hb ⟨id,ob,hl,hβ⟩
  rcases Ju id with⟨bx,hm⟩|e
  ·obtain⟨j,hj,_⟩:=FG id bx hm;rw[hj] at hβ;obtain⟨id',o',h1,h2⟩:=A3w b ((out.fresh j b ob hβ).2 hb).1;exact⟨id',o',JG id' (.inr h1),h2⟩
  ·rw[e] at hl;cases hq:Do id with
   |none=>rw[hq] at hl;exact hl.elim
   |some bx=>
    rw[hq] at hl;exact⟨id,ob,(hold id bx hq hl).1,by rw[<-hβold id (by rw[hq];simp)];exact hβ⟩
 have hAo:∀b,b<w.heap.size->Dv (A6 Do (bs++bs')) β1 Y b->Dv s.hp β Y b:=fun b hb hA=>hA.imp (hX b hb) id
 have hAO:∀b,Dv (A6 Do (bs++bs')) β1 Y b->Yr bt own Yc b:=by
  rintro b (⟨id,ob,hl,hβ⟩|hY)
  ·rcases Ju id with⟨bx,hm⟩|e
   ·obtain⟨j,hj,_⟩:=FG id bx hm;rw[hj] at hβ;exact .inl ⟨j,ob,hβ⟩
   ·rw[e] at hl;cases hq:Do id with
    |none=>rw[hq] at hl;exact hl.elim
    |some bx=>
     rw[hq] at hl;rw[hβold id (by rw[hq];simp)] at hβ
     obtain⟨h1,h2,h3⟩:=hold id bx hq hl;rcases h3 with h3|⟨h3,h4⟩
     ·obtain⟨_,i,off,hs⟩:=Ap2 id h3;exact .inr (.inl ⟨i,ob+off,by rw[FP,hs];simp[Ik,hβ]⟩)
     ·exact .inr (.inr ((hYc b).2 (.inl ⟨id,ob,by rw[h4];exact hl,hβ,h3,h2⟩)))
  ·exact .inr (.inr ((hYc b).2 (.inr hY)))
 have Fn:Cw (Dv s.hp β Y) w w':=out.ext.weaken (fun b _ hb=>.inl (hBA b hb));have Axq:∀i,s.hp i≠none->β1 i=β i:=fun i hi=>hβold i (Gc i hi)
 have hCL:∀b j,SK bt vs b j->∃id o' bx,s.hp id=some bx/\Dj (some bx)/\β id=some (b,o')/\BR bx o' j:=by
  rintro b j ⟨i,p,hp,⟨k,ob,hb,Zi⟩|⟨ob,ps,hb,Zi,Xl⟩⟩
  ·obtain⟨id,off,o',h1,h2,h3,_⟩:=btS hb;obtain⟨h5,h6⟩:=hS.mvd i k id off h1;obtain⟨cc,hcc⟩:=hx id h6;exact⟨id,o',_,hcc,trivial,h2,show o'<=j by omega⟩
  ·obtain⟨id,off,o',h1,h2,h3,_⟩:=btS hb;rcases Aug hL i p id off hp (by rw[Ie];exact h1) with⟨c1,wz,h5,h6,h7⟩|⟨⟨c1,h5⟩,_⟩
   ·rcases Xl with⟨h8,h9⟩|h8
    ·rw[h6] at h8;cases h8;exact⟨id,o',_,h5,trivial,h2,show o'<=j/\j<o'+c1.length by omega⟩
    ·rw[h6] at h8;cases h8
   ·exact⟨id,o',_,h5,trivial,h2,show o'<=j by omega⟩
 have hnL:∀id off cts wz,Ip.var id off cts wz∈l->id∈lids->∀b ob,β id=some (b,ob)->∀j,(j<off\/off+wz.length<=j)->(∃c1,s.hp id=some (.st c1))->¬SK bt vs b (ob+j):=by
  rintro id off cts wz hy B4 b ob hβ j hj ⟨c1,DZ⟩ ⟨i,p,hp,⟨k,ob',hb,Zi⟩|⟨ob',ps,hb,Zi,Xl⟩⟩
  ·obtain⟨id',off',o',h1,h2,h3,h4⟩:=btS hb;have:=h.inj id id' b ob o' (JG id (.inl B4)) (JG id' h4) hβ h2;subst this;exact hlx id B4 (hS.mvd i k id off' h1).2
  ·obtain⟨id',off',o',h1,h2,h3,h4⟩:=btS hb;have:=h.inj id id' b ob o' (JG id (.inl B4)) (JG id' h4) hβ h2;subst this;rw[hβ] at h2;cases h2;obtain⟨k,Er,Fz⟩:=Agd hL hy;rw[Ie] at Fz;have hik:=hS.inj0 hnl i k id off' off h1 Fz;subst hik;rw[h1] at Fz;cases Fz;rw[hp] at Er;cases Er;rcases Xl with⟨h8,h9⟩|h8
   ·cases h8;omega
   ·cases h8
 have hval:Ex w' (Dv (A6 Do (bs++bs')) β1 Y) β1 (Su ws (Uc P o.type)) (G8 us):=by
  have Qn:Bx (Hq w' (Dv (A6 Do (bs++bs')) β1 Y) β1) ws us:=Ma.mono fun v u hvu=>hvu.step (Cw.refl _ _) (fun b _=>hAO b) (fun _ _=>rfl);have Ek:=Qn.len;cases hT:Uc P o.type
  ·rw[hT] at V6;have h1:ws.length=1:=Dx V6
   match ws,us,h1,Ek with
   |[v],[u],_,_=>
    exact (Oy (hnt v (by simp))).2 Qn.1
  ·rw[hT] at V6
   have h1:¬ws.length=1:=by
    intro e;rw[e] at V6;cases V6
   have hr:G8 us=.tuple ⟨us⟩:=by
    unfold G8;split
    ·simp at Ek;omega
    ·rfl
   rw[hr];exact⟨us,rfl,Qn⟩
 have hvr:∀i∈Cd (Su ws (Uc P o.type)),∃bx,(i,bx)∈bs:=by
  intro i hi;cases hT:Uc P o.type
  ·rw[hT] at V6 hi;have h1:ws.length=1:=Dx V6
   match ws,h1 with
   |[v],_=>
    refine hrs v (by simp) i ?_
    have:Cd v=Ct v:=by
     have hn:=hnt v (by simp);cases v<;>first|rfl|exact absurd rfl (hn _)
    rw[<-this];exact hi
  ·rw[hT] at hi;obtain⟨v,hv,hi⟩:=List.mem_flatMap.1 (show i∈ws.flatMap Ct from hi);exact hrs v hv i hi
 refine hn _ w' β1 ?_;refine⟨by rw[Oj];exact h.dfr,by rw[Pj];exact h.tsz,Add Ang h.tmo,?_,?_,?_,?_,?_,?_,?_,?_,?_,?_,?_,h.Ylt,?_⟩
 ·refine Ul (Q:=fun _ p u=>Ex w' (Dv (A6 Do (bs++bs')) β1 Y) β1 p u) h.tsz Ang (fun i hi=>?_) (fun _=>hval);exact (h.tms i hi).step Fn hAo fun id B4=>Axq id (h.wfT i hi id B4)
 ·intro id bx hb;simp only at hb;rcases Ju id with⟨bx',N0⟩|e
  ·rw[hg1 id bx' N0] at hb;cases hb;exact (A0z id _ N0).2.1.step' hAO
  ·rw[e] at hb;have hβ:=hβold id (by rw[hb];simp)
   by_cases B4:id∈lids
   ·obtain⟨y,hy,hyi⟩:=A1k id B4;have h1:=Bam y hy;cases y with
    |var id' off cts wz=>
     simp only[Ip.ids,Qi] at hyi;subst hyi;obtain⟨c1,cs,h2,h3,h4,h5,h6⟩:=h1;rw[Als id B4] at h2;rw[h3] at hb;cases hb;obtain⟨b,ob,h7,h8,h9⟩:=h.box id _ h2;obtain⟨h10,h11⟩:=h6 b ob h7;have Ck:=h.blt id b ob (by rw[h2];simp) h7
     have FD:∀j,(j<off\/off+wz.length<=j)->w'.cell? ⟨b,ob+j,none⟩=w.cell? ⟨b,ob+j,none⟩/\w'.frozen? ⟨b,ob+j,none⟩=w.frozen? ⟨b,ob+j,none⟩:=
      fun j hj=>out.rng b (ob+j) Ck (hnL id off cts wz hy B4 b ob h7 j hj ⟨c1,h2⟩)
     refine⟨b,ob,hβ.trans h7,fun j p hj=>?_,fun j hj=>?_⟩
     ·rcases Yu (by omega) hj with⟨h12,h13,h14⟩|⟨h12,h14⟩
      ·obtain⟨v,hv,hcr⟩:=h10 _ _ h14;refine⟨v,?_,hcr.step (Cw.refl _ _) (fun b _=>hAO b) (fun _ _=>rfl)⟩;rw[show ob+j=ob+off+(j-off) by omega];exact hv
      ·obtain⟨v,hv,hcr⟩:=h8 _ _ h14;refine⟨v,by rw[(FD j (by omega)).1];exact hv,hcr.step Fn hAo fun i hi=>Axq i (h.wfB id c1 h2 p (List.mem_of_getElem? h14) i hi)⟩
     ·rw[Xv (by omega)] at hj;by_cases Rs:off<=j/\j<off+cs.length
      ·have:=h11 (j-off) (by omega);rw[show ob+off+(j-off)=ob+j by omega] at this;exact this
      ·rw[(FD j (by omega)).2];exact h9 j hj
    |row id'=>
     simp only[Ip.ids,Qi] at hyi;subst hyi;obtain⟨cs,h3,h4⟩:=h1;rw[h3] at hb;cases hb;rcases h4 with⟨h5,h6⟩|⟨b,ob,h5,h6,h7⟩
     ·exact .inl ⟨hβ.trans h5,h6⟩
     ·exact .inr ⟨b,ob,hβ.trans h5,h6.weak (fun b _=>hAO b),fun _=>h7,(fun q=>by cases q)⟩
    |none=>simp[Ip.ids] at hyi
   ·rw[hpK id B4,Hv] at hb;split at hb
    ·cases hq:Ah s.hp m id with
     |none=>rw[hq] at hb;cases hb
     |some b0=>rw[hq] at hb;simp at hb;subst hb;trivial
    ·rename_i hxn;have Mz:=hf.box id bx hb
     have Au3:∀b ob,β id=some (b,ob)->bx ≠ .mv->b<w.heap.size/\w'.heap[b]?=w.heap[b]?:=by
      intro b ob QQ hmv;have Ck:=hf.blt id b ob (by show Ah s.hp m id≠none;rw[hb];simp) QQ
      refine⟨Ck,out.ext.keep b Ck fun hB=>?_⟩;obtain⟨id',o',h1,h2⟩:=btX hB;have Oo:Dj (Ah s.hp m id'):=by rw[YX id' h2];exact JG id' h2
      have hno:id≠id':=by
       rintro rfl
       rcases h2 with h2|h2
       ·exact B4 h2
       ·exact hxn h2
      cases bx with
      |st cc=>exact hno (hf.inj id id' b ob o' (by show Dj (Ah s.hp m id);rw[hb];trivial) Oo QQ h1)
      |ar fz cc=>
       cases fz with
       |false=>exact hno (hf.inj id id' b ob o' (by show Dj (Ah s.hp m id);rw[hb];trivial) Oo QQ h1)
       |true=>
        rcases Mz with⟨h3,_⟩|⟨b2,o2,h3,_,_,h4⟩
        ·rw[QQ] at h3;cases h3
        ·rw[QQ] at h3;cases h3;exact h4 rfl (.inl ⟨id',o',Oo,h1⟩)
      |mv=>exact hmv rfl
     have hAoF:∀b,b<w.heap.size->Dv (A6 Do (bs++bs')) β1 Y b->Dv (Ah s.hp m) β Y b:=by
      intro b F4 hA;rcases hA with⟨i,ob,hl,hβi⟩|hY
      ·rcases Ju i with⟨bx1,VI⟩|e1
       ·obtain⟨j,hj,_⟩:=FG i bx1 VI;rw[hj] at hβi;obtain⟨id',o',h1,h2⟩:=A3w b ((out.fresh j b ob hβi).2 F4).1;exact .inl ⟨id',o',by rw[YX id' (.inr h1)];exact JG id' (.inr h1),h2⟩
       ·rw[e1] at hl;cases hq:Do i with
        |none=>rw[hq] at hl;exact hl.elim
        |some bx1=>
         rw[hq] at hl;rw[hβold i (by rw[hq];simp)] at hβi
         obtain⟨h1,h2,h3⟩:=hold i bx1 hq hl;rcases h3 with h3|⟨h3,h4⟩
         ·exact .inl ⟨i,ob,by rw[YX i (.inl h3)];exact h1,hβi⟩
         ·exact .inl ⟨i,ob,by rw[h4];exact hl,hβi⟩
      ·exact .inr hY
     have Bb4:Cw (Dv (Ah s.hp m) β Y) w w':=out.ext.weaken (fun b _ hB=>by
      obtain⟨id',o',h1,h2⟩:=btX hB;exact .inl ⟨id',o',by rw[YX id' h2];exact JG id' h2,h1⟩)
     cases bx with
     |st cc=>
      obtain⟨b,ob,h1,h2,h3⟩:=Mz;obtain⟨Ck,Tl⟩:=Au3 b ob h1 (by simp);refine⟨b,ob,hβ.trans h1,fun j p hj=>?_,fun j hj=>?_⟩
      ·obtain⟨v,hv,hcr⟩:=h2 j p hj;refine⟨v,by rw[World.cell?_of_block (w:=w) Tl];exact hv,hcr.step Bb4 hAoF fun i hi=>?_⟩
       refine Axq i (fun e1=>?_);exact hf.wfB id cc hb p (List.mem_of_getElem? hj) i hi (E8.2 e1)
      ·rw[World.frozen?_of_block (w:=w) Tl];exact h3 j hj
     |ar fz cc=>
      rcases Mz with⟨h1,h2⟩|⟨b,ob,h1,h2,h3,h4⟩
      ·exact .inl ⟨hβ.trans h1,h2⟩
      ·obtain⟨Ck,Tl⟩:=Au3 b ob h1 (by simp);have PZ:bsz w' b=bsz w b:=by unfold bsz;rw[Tl]
       refine .inr ⟨b,ob,hβ.trans h1,fun j p hj=>?_,fun e1 j hj Tq=>?_,fun e1 q=>h4 e1 (hAoF b Ck q)⟩
       ·obtain⟨v,hv,h5,DZ⟩:=h2 j p hj;exact⟨v,by rw[World.cell?_of_block (w:=w) (by rw[Fv];exact Tl)];exact hv,h5,DZ.step Bb4 hAoF⟩
       ·rw[World.frozen?_of_block (w:=w) Tl];exact h3 e1 j hj (by rw[<-PZ];exact Tq)
     |mv=>trivial
 ·intro id id' b ob ob' hl Oo hb Iq;simp only at hl Oo
  have mixed:∀i bx i' k z,(i,bx)∈bs++bs'->β1 i=some (k,z)->Do i'≠none->Dj (Do i')->∀z',β1 i'=some (k,z')->False:=by
   intro i bx i' k z VI hz hn1 VP z' hz';obtain⟨j,hj,_⟩:=FG i bx VI;rw[hj] at hz;rw[hβold i' hn1] at hz';cases hq:Do i' with
   |none=>exact hn1 hq
   |some bx1=>
    rw[hq] at VP;obtain⟨h1,h2,h3⟩:=hold i' bx1 hq VP;have Ck:=h.blt i' k z' (Dw h1) hz';obtain⟨id2,o2,h4,h5⟩:=A3w k ((out.fresh j k z hz).2 Ck).1;have:=h.inj i' id2 k z' o2 h1 (JG id2 (.inr h4)) hz' h5;subst this;exact h2 h4
  rcases Ju id with⟨bx,VI⟩|e1
  ·rcases Ju id' with⟨bx',hm2⟩|e2
   ·obtain⟨j,hj,Xl⟩:=FG id bx VI;obtain⟨j',Tq,A9a⟩:=FG id' bx' hm2;rw[hj] at hb;rw[Tq] at Iq;have:=out.inj j j' b ob ob' hb Iq;subst this;rcases Xl with⟨h1,h2⟩|⟨h1,h2⟩
    ·rcases A9a with⟨h3,_⟩|⟨_,h4⟩
     ·rw[h1,h3]
     ·omega
    ·rcases A9a with⟨_,h4⟩|⟨h3,_⟩
     ·omega
     ·exact Nl _ h1 _ h3 rfl
   ·rw[e2] at Oo;exact (mixed id bx id' b ob VI hb (Dw Oo) Oo ob' Iq).elim
  ·rw[e1] at hl;rcases Ju id' with⟨bx',hm2⟩|e2
   ·exact (mixed id' bx' id b ob' hm2 Iq (Dw hl) hl ob hb).elim
   ·rw[e2] at Oo
    have g:∀i,Dj (Do i)->Dj (s.hp i)/\β1 i=β i:=by
     intro i hli;cases hq:Do i with
     |none=>rw[hq] at hli;exact hli.elim
     |some bx1=>exact⟨(hold i bx1 hq (by rw[<-hq];exact hli)).1,hβold i (by rw[hq];simp)⟩
    rw[(g id hl).2] at hb;rw[(g id' Oo).2] at Iq;exact h.inj id id' b ob ob' (g id hl).1 (g id' Oo).1 hb Iq
 ·intro id b ob hn1 hb;simp only at hn1;rcases Ju id with⟨bx,VI⟩|e1
  ·obtain⟨j,hj,_⟩:=FG id bx VI;rw[hj] at hb;exact (out.fresh j b ob hb).1
  ·rw[e1] at hn1;rw[hβold id hn1] at hb
   have hn2:s.hp id≠none:=by
    by_cases B4:id∈lids
    ·exact Dw (JG id (.inl B4))
    ·rw[hpK id B4,Hv] at hn1;intro e2;have h1:Ah s.hp m id=none:=E8.2 e2;rw[h1] at hn1;split at hn1<;>exact hn1 rfl
   exact Ft (h.blt id b ob hn2 hb) out.ext.size
 ·have:=Ul (Q:=fun _ p _=>∀id∈Cd p,A6 Do (bs++bs') id≠none) (val:=G8 us) (d:=o.dst) (v:=Su ws (Uc P o.type)) h.tsz Ang (fun i hi id B4=>Ax0 id (.inl (h.wfT i hi id B4))) (fun _ id B4=>Ax0 id (.inr (by
   obtain⟨bx,hb⟩:=hvr id B4;exact⟨bx,B5.2 (.inl hb)⟩)))
  exact this
 ·intro id cells Adj p hp i hi;simp only at Adj;refine Ax0 i ?_;rcases Ju id with⟨bx,VI⟩|e1
  ·rw[hg1 id bx VI] at Adj;cases Adj;rcases B5.1 VI with VI|VI
   ·obtain⟨bx1,hb⟩:=hri id cells VI p hp i hi;exact .inr ⟨bx1,B5.2 (.inl hb)⟩
   ·obtain⟨cc,e2⟩:=F4 id _ VI;cases e2
  ·rw[e1] at Adj;by_cases B4:id∈lids
   ·rcases Awf id B4 with⟨off,c1,cs,h1,h2,h3,h4⟩|⟨c1,cs,h1,h2⟩
    ·rw[h2] at Adj;cases Adj;unfold B6 at hp;rcases B5.1 hp with hp|hp
     ·rcases B5.1 hp with hp|hp
      ·exact .inl (h.wfB id c1 h1 p (List.mem_of_mem_take hp) i hi)
      ·obtain⟨bx1,hb⟩:=h4 p hp i hi;exact .inr ⟨bx1,B5.2 (.inr hb)⟩
     ·exact .inl (h.wfB id c1 h1 p (List.mem_of_mem_drop hp) i hi)
    ·rw[h2] at Adj;cases Adj
   ·obtain⟨_,_,h3⟩:=hold id _ Adj trivial;rcases h3 with h3|⟨_,h3⟩
    ·exact absurd h3 B4
    ·exact .inl (h.wfB id cells (Lx h3 trivial) p hp i hi)
 ·rintro b ⟨id,ob,hl,hβ⟩
  rcases Ig b w.heap.size with Ck|hge
  ·exact h.ownd b (hX b Ck ⟨id,ob,hl,hβ⟩)
  ·exact .inr (Nat.le_trans h.fr.step.size hge)
 ·intro id bx b ob hb hl hβ Ck j hj;simp only at hb;have hlw:=Ft Ck h.fr.step.size;rcases Ju id with⟨bx',VI⟩|e1
  ·rw[hg1 id bx' VI] at hb;cases hb;obtain⟨k,hk,_⟩:=FG id bx VI;rw[hk] at hβ
   have Zi:ob<=j:=by
    cases bx with
    |st cc=>exact hj.1
    |ar fz cc=>exact hj
    |mv=>exact hl.elim
   obtain⟨id2,o2,bx2,h1,h2,h3,h4⟩:=hCL b j (((out.fresh k b ob hβ).2 hlw).2 j Zi);exact h.rngB id2 bx2 b o2 h1 h2 h3 Ck j h4
  ·rw[e1] at hb;rw[hβold id (by rw[hb];simp)] at hβ
   obtain⟨h1,h2,h3⟩:=hold id bx hb hl;rcases h3 with h3|⟨h3,h4⟩
   ·rcases Awf id h3 with⟨off,c1,cs,h5,h6,h7,_⟩|⟨c1,cs,h5,h6⟩
    ·rw[h6] at hb;cases hb;have hj:ob<=j/\j<ob+(B6 c1 cs off).length:=hj;rw[Xv (by omega)] at hj;exact h.rngB id _ b ob h5 trivial hβ Ck j hj
    ·rw[h6] at hb;cases hb;exact h.rngB id _ b ob h5 trivial hβ Ck j hj
   ·exact h.rngB id bx b ob (Lx h4 hl) hl hβ Ck j hj
 ·intro i hi;obtain⟨h1,h2⟩:=h.pin i hi;exact⟨Ax0 _ (.inl h1),by rw[Axq _ h1];exact h2⟩
 ·intro id cc b ob hb hβ Ck;simp only at hb;have hlw:=Ft Ck h.fr.step.size;rcases Ju id with⟨bx',VI⟩|e1
  ·rw[hg1 id bx' VI] at hb;cases hb;have:=(A0z id _ VI).2.2 cc rfl b ob hβ;omega
  ·rw[e1] at hb;rw[hβold id (by rw[hb];simp)] at hβ
   obtain⟨h1,h2,h3⟩:=hold id _ hb trivial;rcases h3 with h3|⟨h3,h4⟩
   ·rcases Awf id h3 with⟨off,c1,cs,h5,h6,h7,_⟩|⟨c1,cs,h5,h6⟩
    ·exact h.stp id c1 b ob h5 hβ Ck
    ·rw[h6] at hb;cases hb
   ·exact h.stp id cc b ob (Lx h4 trivial) hβ Ck
 ·intro b hY hXb;exact h.Yx b hY (hX b (Ft (h.Ylt b hY) h.fr.step.size) hXb)
 ·refine⟨out.os.trans h.fr.os,out.tape.trans h.fr.tape,out.output.trans h.fr.output,⟨Nat.le_trans h.fr.step.size out.ext.size,fun b hb hnX=>?_,fun b hb=>(h.fr.step.bs b hb).trans (out.ext.bs b (Ft hb h.fr.step.size))⟩,fun b j hb hnL=>?_⟩
  ·rw[out.ext.keep b (Ft hb h.fr.step.size) ?_]
   ·exact h.fr.step.keep b hb hnX
   ·intro hB;rcases h.ownd b (hBA b hB) with hq|hq
    ·exact hnX hq
    ·omega
  ·have hno:¬SK bt vs b j:=by
    intro hq;obtain⟨id2,o2,bx2,h1,h2,h3,h4⟩:=hCL b j hq;exact hnL (h.rngB id2 bx2 b o2 h1 h2 h3 hb j h4)
   obtain⟨h1,h2⟩:=out.rng b j (Ft hb h.fr.step.size) hno;rw[h1,h2];exact h.fr.rng b j hb hnL
end
open Go.RowKit
section
variable {R:Type}{r:R}{P:Program}{N:Nat}{w0:World}{X0:F3}{Y:Nat->Prop}{β β':Bt}{s:St}{a:Act}{w w':World}{o:Oper}{A:Nat->Prop}
theorem Acz(h:Cj N w0 X0 Y β s a w){c:Call}(ho:o.op=.call c)(hc:c.callee=.builtin .append){d:Nat}(Ang:o.dst=some d){b x:Operand}(F0:c.args.toList=[b,x]){t tx:TypeId}{ts:List TypeId}(PT:c.argTypes.toList=t::tx::ts){K:St->Option R}(hk:Ur P N s d t tx (Cx s.tm b) (Cx s.tm x) K=some r):
  ∃s',K s'=some r/\∀(next:Act->World->Prop) (Q:Exit->Act->World->Prop),(∀a' w' β',Cj N w0 X0 Y β' s' a' w'->next a' w')->o.wp P a w next Q:=by
 have TS:c.args = #[b,x]:=by
  have:c.args=([b,x]:List Operand).toArray:=by rw[<-F0]
  exact this
 have Adz:c.argTypes=(t::tx::ts).toArray:=by rw[<-PT]
 have run:∀{v:Value} {w1:World},(Builtin.append_ (t::tx::ts).toArray o.type #[a.eval b,a.eval x]).run P w=.ok v w1->∀(next:Act->World->Prop) (Q:Exit->Act->World->Prop),next (a.put (some d) v) w1->o.wp P a w next Q:=by
  intro v w1 hr next Q hn;unfold Oper.wp execOp;rw[ho];simp only[resolve,hc,invoke,builtin,Sem.run_bind,Sem.run_pure,Result.andThen_ok,TS,Adz];have:(#[b,x]:Array Operand).map a.eval = #[a.eval b,a.eval x]:=by simp
  rw[this,hr];show next (a.put o.dst v) w1;rw[Ang];exact hn
 have hbv:=D7 h b;have hbr:=Gl h b;unfold Ur at hk;split at hk
 ·rename_i e hu;obtain⟨hzi,hk⟩:=Aq hk;obtain⟨i,z,hi,hz,RP,Km⟩:=RU hzi;cases hit:HT P tx
  rotate_left
  ·rw[hit] at hk;simp only[cond_true] at hk
   obtain⟨ki,htx⟩:∃k,P.underlying tx=some (.int k):=by
    unfold HT at hit;split at hit
    ·exact⟨_,by assumption⟩
    ·cases hit
   unfold AG at hk;obtain⟨kx,n,hx,hk⟩:=Ei hk;obtain⟨zz,n',c',hk,hp⟩:=G0 hk;obtain⟨hb,hk⟩:=Aq hk;simp only[Fc,GF] at hb;obtain⟨⟨⟨⟨⟨hzz,hdN⟩,EB⟩,LH⟩,hby⟩,QS⟩:=hb;have hdN:d<N:=Nat.lt_of_succ_le (R5 hdN);have EB:s.hp d=none:=by simpa using EB
   have Ai1:H9 N (some d)=true:=by simp[H9,Nat.blt];omega
   have AR:((P.info? e).map (·.bytes)).getD 0=i.bytes:=by rw[hi];rfl
   rw[AR] at hby;rw[Km] at hk;have Ee:=Da h hx;rcases slice_form hp hbv with⟨Vj,_⟩|⟨_,_,_,TB,_⟩|⟨_,_,_,TB,_⟩
   ·refine⟨_,hk,fun next Q hn=>?_⟩;by_cases hm0:n=0
    ·subst hm0;have hr:=NA (P:=P) (w:=w) (t:=t) (tx:=tx) (ty:=o.type) (ts:=ts) (kx:=kx) hu htx hi;rw[<-Vj,<-Ee] at hr;refine run hr next Q (hn _ _ (Dt β d none) ?_);rw[Vj];refine h.stepR (d:=some d) (nw:=[(d,.ar false [])]) (β':=Dt β d none) Ai1 (by simp[Co,EB]) ⟨rfl,rfl,rfl,Cw.refl _ _,fun j hj=>Ao _ _ (by rintro rfl;exact hj EB),?_,?_,?_,?_,?_,.inl ⟨At _ _ _,rfl,rfl,none,rfl⟩,?_⟩
     ·intro j bx hm;simp at hm;rw[hm.2];trivial
     ·intro j bx hm;simp at hm;obtain⟨rfl,rfl⟩:=hm;exact .inl ⟨At _ _ _,rfl⟩
     ·intro j bx k q hm hq;simp at hm;obtain⟨rfl,rfl⟩:=hm;rw[At] at hq;cases hq
     ·intro j bx j' bx' k q q' hm N0 _ _;simp at hm N0;rw[hm.1,N0.1]
     ·intro j cells hm;simp at hm
     ·intro j hj;simp[Cd,Ct,Au] at hj;subst hj;exact .inr ⟨.ar false [],by simp⟩
    ·have hr:=PJ (P:=P) (w:=w) (t:=t) (tx:=tx) (ty:=o.type) (ts:=ts) (kx:=kx) hu htx hi hz (n:=n) (by omega) hby QS;rw[<-Vj,<-Ee] at hr;refine run hr next Q (hn _ _ (Dt β d (some (w.heap.size,0))) ?_);have hge:n.toNat<=grownCap w n.toNat 0 e:=grownCap_ge w n.toNat 0 e;generalize Z5:((if n.toNat*i.size=0 then #[] else Builtin.zeroCells z.cells n.toNat)++Builtin.zeroCells z.cells (grownCap w n.toNat 0 e-n.toNat))=cs
     have GM:Gx w (w.drew.alloc (.cells cs e)) cs e:=
      ⟨rfl,rfl,rfl,fun k hk=>Below.heap_alloc w.drew _ k hk,by show (w.heap.push _).size=_;simp,(0,0),by show (w.heap.push _)[w.heap.size]?=_;simp,.inl rfl⟩
     have Ahw:cs.size=grownCap w n.toNat 0 e*i.size:=by
      rw[<-Z5];by_cases hs0:n.toNat*i.size=0
      ·rw[Cr hs0]
       have hi0:i.size=0:=by
        rcases Nat.mul_eq_zero.1 hs0 with h|h
        ·omega
        ·exact h
       simp[size_zeroCells,RP,hi0]
      ·rw[B3 hs0];simp only[Array.size_append,size_zeroCells,RP,<-Nat.add_mul]
       congr 1
       omega
     refine h.stepR (d:=some d) (nw:=[(d,.ar false [])]) Ai1 (by simp[Co,EB]) (Xa GM EB trivial ?_ (fun cells hx=>by cases hx) ?_ (by intro j hj;simp[Cd,Ct,Au] at hj;exact .inr hj))
     ·refine .inr ⟨w.heap.size,0,At _ _ _,fun j p hj=>by simp at hj,fun _ j _ hj=>?_,(fun q=>by cases q)⟩;rw[GM.bsz] at hj;exact GM.frozen hj
     ·refine .inr ⟨w.heap.size,0,0,grownCap w n.toNat 0 e,At _ _ _,rfl,.inl rfl,hge,?_,by rw[GM.size];omega⟩
      exact⟨by rw[GM.bsz,Ahw];omega,.inr (Oa w.drew _ e)⟩
   ·rw[TB] at hzz;cases hzz
   ·rw[TB] at hzz;cases hzz
  rw[hit] at hk;simp only[cond_false] at hk;have AR:((P.info? e).map (·.bytes)).getD 0=i.bytes:=by rw[hi];rfl
  obtain⟨⟨dx,hdx,Afe⟩,m,new,news,hk,hs⟩:=UP h hk (by
   intro m new hk;split at hk
   ·split at hk
    ·obtain⟨hb,_⟩:=Aq hk;simp only[Fc,GF] at hb;have he:=Dx hb.1.1.1.1.1.1.1;rw[<-he];exact hb.1.1.2
    ·cases hk
   ·obtain⟨zz,n',c',hk,_⟩:=G0 hk;obtain⟨hb,_⟩:=Aq hk;simp only[Fc,GF] at hb;exact hb.1.1.2)
  rw[Km] at hs;have hnl:new.length=news.length:=hs.rep.len;split at hk
  ·rename_i id es off n eb;rw[eb] at hbv hbr;split at hk
   ·rename_i cc h0;obtain⟨hb,Fz⟩:=Aq hk;simp only[Fc,GF] at hb;obtain⟨⟨⟨⟨⟨⟨⟨DV,Vl⟩,hdN⟩,EB⟩,Bfb⟩,Ak2⟩,hby⟩,QS⟩:=hb;have DV:=Dx DV;have Vl:=Dx Vl;have hdN:d<N:=Nat.lt_of_succ_le (R5 hdN);have EB:s.hp d=none:=by simpa using EB
    subst Vl;rw[Km] at DV;subst DV;rw[AR] at hby;have OH:news.length=m*i.size:=by omega
    have Bsn:s.hp id≠none:=by rw[h0];simp
    have Apv:=h.box id _ h0;refine⟨_,Fz,fun next Q hn=>?_⟩
    have grow:∀(ad:Option Addr) (cap:Nat) (olds:List Value),a.eval b=.slice ad n cap->Bx (Av w (Dv s.hp β Y)) (cc.take (n*i.size)) olds->(∀u∈olds,u.oneCell'=true)->olds.length=n*i.size ->
      ((ad=none/\olds=[])\/∃p,ad=some p/\olds.length=n*i.size/\∀(j:Nat) v,olds[j]?=some v->w.cell? (p.add j)=some v)->cap<n+m->o.wp P a w next Q:=by
     intro ad cap olds Vj holds h1 XX hold DT;have hr:=append_grow_run (P:=P) (w:=w) (t:=t) (tx:=tx) (ty:=o.type) (ts:=ts) hu hdx Afe hi hz hs hold DT hby QS;rw[<-Vj] at hr;refine run hr next Q (hn _ _ (Dt β d (some (w.heap.size,0))) ?_);have hge:n+m<=grownCap w (n+m) cap e:=grownCap_ge w (n+m) cap e
     have GM:Gx w (w.drew.alloc (.cells (olds.toArray++news.toArray++Builtin.zeroCells z.cells (grownCap w (n+m) cap e-(n+m))) e)) (olds.toArray++news.toArray++Builtin.zeroCells z.cells (grownCap w (n+m) cap e-(n+m))) e:=
      ⟨rfl,rfl,rfl,fun k hk=>Below.heap_alloc w.drew _ k hk,by show (w.heap.push _).size=_;simp,(0,0),by show (w.heap.push _)[w.heap.size]?=_;simp,.inl rfl⟩
     have Ahw:(olds.toArray++news.toArray++Builtin.zeroCells z.cells (grownCap w (n+m) cap e-(n+m))).size=grownCap w (n+m) cap e*i.size:=by
      simp only[Array.size_append,List.size_toArray,size_zeroCells,RP,XX,OH,<-Nat.add_mul]
      congr 1
      omega
     have hbo:∀k y,some (w.heap.size,0)=some (k,y)->w.heap.size<=k\/∃q,β id=some (k,q):=by
      intro k y hh;simp at hh;exact .inl (by omega)
     refine h.move h0 EB hdN rfl rfl rfl (by rw[GM.size];omega) (fun k hk _=>GM.old k hk) GM.step.bs (fun k y hh=>⟨by simp at hh;rw[GM.size];omega,hbo k y hh⟩) (fun k y hh Ck=>by simp at hh;omega)
      (fun k y _ Ck j _=>⟨World.cell?_of_block (w:=w) (GM.old k Ck),World.frozen?_of_block (w:=w) (GM.old k Ck)⟩) ?_ ?_ (by intro j hj;simpa [Cd,Ct,Au] using hj)
     ·refine .inr ⟨w.heap.size,0,At _ _ _,RK GM (Aiw h0 EB hbo) holds hs.rep h1 hs.one,fun _ j _ hj=>?_,(fun q=>by cases q)⟩;rw[GM.bsz] at hj;exact GM.frozen hj
     ·refine .inr ⟨w.heap.size,0,0,grownCap w (n+m) cap e,At _ _ _,rfl,.inl rfl,hge,?_,by rw[GM.size];omega⟩
      exact⟨by rw[GM.bsz,Ahw];omega,.inr (Oa w.drew _ e)⟩
    rcases hbv with⟨hβ,_,rfl,ad,Vj⟩|⟨bb,ob,y,cap,hβ,Vj,hy,Al6,DT,Aqv⟩
    ·rcases Apv with⟨_,rfl⟩|⟨b',o',F4,_⟩
     ·by_cases hm0:m=0
      ·subst hm0;have hr:=Ql (P:=P) (w:=w) (t:=t) (tx:=tx) (ty:=o.type) (ts:=ts) (ad:=ad) hu hdx Afe hi hs (List.eq_nil_of_length_eq_zero (by omega));rw[<-Vj] at hr;have Ad8:new=[]:=List.eq_nil_of_length_eq_zero (by omega);subst Ad8;refine run hr next Q (hn _ _ (Dt β d none) ?_);rw[Vj];refine h.move h0 EB hdN rfl rfl rfl (Ci _) (fun _ _ _=>rfl) (fun _ _=>Fi.refl _ _) (fun k q hh=>by cases hh) (fun k q hh=>by cases hh) (fun _ _ _ _ _ _=>⟨rfl,rfl⟩) ?_ ?_ (by intro j hj;simpa [Cd,Ct,Au] using hj)
       ·exact .inl ⟨At _ _ _,by simp⟩
       ·exact .inl ⟨At _ _ _,rfl,rfl,ad,rfl⟩
      ·exact grow ad 0 [] Vj (by simp[Bx]) (by simp) (by simp) (by cases ad with
        |none=>exact .inl ⟨rfl,rfl⟩
        |some p=>exact .inr ⟨p,rfl,by simp,fun j v hj=>by simp at hj⟩) (by omega)
     ·rw[hβ] at F4;cases F4
    ·rcases Apv with⟨F4,_⟩|⟨b',o',F4,Ko,DQ,_⟩
     ·rw[hβ] at F4;cases F4
     rw[hβ] at F4;simp at F4;obtain⟨rfl,rfl⟩:=F4;have hy:y=ob:=by rcases hy with hy|⟨_,hq⟩<;>omega
     subst hy;by_cases Uv:n+m<=cap
     ·have An4:y+n*i.size+news.length<=bsz w bb:=by
       have h5:n*i.size+m*i.size<=cap*i.size:=by rw[<-Nat.add_mul];exact Nat.mul_le_mul_right _ Uv
       have:=DT.1;omega
      have Ev:∀k,k<news.length->(w.cell? ⟨bb,y+n*i.size+k,none⟩).isSome=true:=fun k hk=>BF (by omega);have hr:=append_room_run (P:=P) (w:=w) (t:=t) (tx:=tx) (ty:=o.type) (ts:=ts) (b:=bb) (ob:=y) (n:=n) (cap:=cap) hu hdx Afe hi hs OH Ev (fun k hk=>DQ rfl _ (by omega) (by omega)) Uv;rw[<-Vj] at hr;have hw:=Db.setCells bb news (y+n*i.size) w
      have hbo:∀k q,some (bb,y)=some (k,q)->w.heap.size<=k\/∃q',β id=some (k,q'):=by
       intro k q hh;simp at hh;obtain⟨rfl,rfl⟩:=hh;exact .inr ⟨_,hβ⟩
      refine run hr next Q (hn _ _ (Dt β d (some (bb,y))) ?_)
      have Fn:Cw (Dv s.hp β Y) w (w.setCells bb (y+n*i.size) news):=by
       have hAb:Dv s.hp β Y bb:=.inl ⟨id,y,by rw[h0];trivial,hβ⟩
       exact⟨by rw[hw.size];exact Ci _,fun k _ hk=>hw.other k (fun e=>hk (e ▸ hAb)),fun k _=>hw.grow k⟩
      refine h.move h0 EB hdN hw.os hw.tape hw.output (by rw[hw.size];exact Ci _) (fun k _ hq=>hw.other k (by rintro rfl;exact hq _ hβ)) Fn.bs (fun k q hh=>⟨by simp at hh;rw[hw.size];omega,hbo k q hh⟩) (fun k q hh _=>by rw[hβ];exact hh)
       (fun k q hh _ j hj=>by
        rw[hβ] at hh;cases hh;exact⟨World.cell?_setCells_out bb _ _ w ⟨bb,j,none⟩ (fun _ _=>by show j<y+n*i.size\/y+n*i.size+_<=j;omega),hw.frz j⟩) ?_ ?_ (by intro j hj;simpa [Cd,Ct,Au] using hj)
      ·refine .inr ⟨bb,y,At _ _ _,fun j p hj=>?_,fun _ j hj Tq=>?_,(fun q=>by cases q)⟩
       ·rw[Ep];by_cases hjn:j<n*i.size
        ·rw[List.getElem?_append_left (by rw[List.length_take];omega),List.getElem?_take_of_lt hjn] at hj
         obtain⟨u,Mc,h5,ht⟩:=Ko j p hj;rw[Ep] at Mc;refine⟨u,?_,h5,ht.step Fn (Aiw h0 EB hbo)⟩;rw[World.cell?_setCells_out bb _ _ w ⟨bb,y+j,none⟩ (fun _ _=>by show y+j<y+n*i.size\/y+n*i.size+_<=y+j;omega)]
         exact Mc
        ·rw[List.getElem?_append_right (by rw[List.length_take];omega),List.length_take,Nat.min_eq_left Bfb] at hj
         obtain⟨u,Mc,ht⟩:=hs.rep.get hj
         have Ck:j-n*i.size<news.length:=by
          rcases Ig (j-n*i.size) news.length with h|h
          ·exact h
          ·rw[List.getElem?_eq_none h] at Mc;cases Mc
         refine⟨u,?_,hs.one u (List.mem_of_getElem? Mc),ht.step Fn (Aiw h0 EB hbo)⟩;have:=World.cell?_setCells_in bb news (y+n*i.size) w Ev (j-n*i.size) Ck;rw[show y+j=y+n*i.size+(j-n*i.size) from by omega,this];rw[List.getElem?_eq_getElem Ck] at Mc;exact Mc
       ·rw[hw.bs] at Tq;rw[hw.frz];exact DQ rfl j hj Tq
      ·exact .inr ⟨bb,y,y,cap,At _ _ _,rfl,.inl rfl,Uv,DT.step (hw.grow bb),by rw[hw.size];exact Aqv⟩
     ·-- the old cells
      have hob:∀(j:Nat) p,(cc.take (n*i.size))[j]?=some p->∃v,w.cell? ⟨bb,y+j,none⟩=some v/\v.oneCell'=true/\Av w (Dv s.hp β Y) p v:=by
       intro j p hj;rw[List.getElem?_take] at hj;split at hj
       ·obtain⟨v,hv,h5,ht⟩:=Ko j p hj;rw[Ep] at hv;exact⟨v,hv,h5,ht⟩
       ·cases hj
      have Ek:(cc.take (n*i.size)).length=n*i.size:=by rw[List.length_take];omega
      refine grow _ cap ((cc.take (n*i.size)).mapIdx fun j _=>(w.cell? ⟨bb,y+j,none⟩).getD undef) Vj ?_ ?_ (by simp only[List.length_mapIdx];exact Ek) (.inr ⟨_,rfl,by simp only[List.length_mapIdx];exact Ek,fun j v hj=>?_⟩) (by omega)
      ·refine Bx.of_at (by simp) fun j p v hp hv=>?_;obtain⟨u,Mc,_,ht⟩:=hob j p hp;rw[List.getElem?_mapIdx,hp,Option.map_some,Mc] at hv;simp at hv;subst hv;exact ht
      ·intro v hv;obtain⟨j,hj⟩:=List.mem_iff_getElem?.1 hv;rw[List.getElem?_mapIdx] at hj;cases hp:(cc.take (n*i.size))[j]? with
       |none=>rw[hp] at hj;cases hj
       |some p=>
        obtain⟨u,Mc,h5,_⟩:=hob j p hp;rw[hp,Option.map_some,Mc] at hj;simp at hj;subst hj;exact h5
      ·rw[List.getElem?_mapIdx] at hj;cases hp:(cc.take (n*i.size))[j]? with
       |none=>rw[hp] at hj;cases hj
       |some p=>
        obtain⟨u,Mc,h5,_⟩:=hob j p hp;rw[hp,Option.map_some,Mc] at hj;simp at hj;subst hj;rw[Ep];exact Mc
   ·cases hk
  ·obtain⟨zz,n',c',hk,hp⟩:=G0 hk;obtain⟨hb,hk⟩:=Aq hk;simp only[Fc,GF] at hb;obtain⟨⟨⟨⟨⟨hzz,hdN⟩,EB⟩,Ak2⟩,hby⟩,QS⟩:=hb;have hdN:d<N:=Nat.lt_of_succ_le (R5 hdN);have EB:s.hp d=none:=by simpa using EB
   have Ai1:H9 N (some d)=true:=by simp[H9,Nat.blt];omega
   rw[Km] at Ak2 hk;rw[AR] at hby;have OH:news.length=m*i.size:=by omega
   rcases slice_form hp hbv with⟨Vj,_⟩|⟨_,_,_,TB,_⟩|⟨_,_,_,TB,_⟩
   ·refine⟨_,hk,fun next Q hn=>?_⟩;by_cases hm0:m=0
    ·subst hm0;have hr:=Ql (P:=P) (w:=w) (t:=t) (tx:=tx) (ty:=o.type) (ts:=ts) (ad:=none) hu hdx Afe hi hs (List.eq_nil_of_length_eq_zero (by omega));rw[<-Vj] at hr;have Ad8:new=[]:=List.eq_nil_of_length_eq_zero (by omega);subst Ad8;refine run hr next Q (hn _ _ (Dt β d none) ?_);rw[Vj];refine h.stepR (d:=some d) (nw:=[(d,.ar false [])]) (β':=Dt β d none) Ai1 (by simp[Co,EB]) ⟨rfl,rfl,rfl,Cw.refl _ _,fun j hj=>Ao _ _ (by rintro rfl;exact hj EB),?_,?_,?_,?_,?_,.inl ⟨At _ _ _,rfl,rfl,none,rfl⟩,?_⟩
     ·intro j bx hm;simp at hm;rw[hm.2];trivial
     ·intro j bx hm;simp at hm;obtain⟨rfl,rfl⟩:=hm;exact .inl ⟨At _ _ _,rfl⟩
     ·intro j bx k q hm hq;simp at hm;obtain⟨rfl,rfl⟩:=hm;rw[At] at hq;cases hq
     ·intro j bx j' bx' k q q' hm N0 _ _;simp at hm N0;rw[hm.1,N0.1]
     ·intro j cells hm;simp at hm
     ·intro j hj;simp[Cd,Ct,Au] at hj;subst hj;exact .inr ⟨.ar false [],by simp⟩
    ·have hr:=append_grow_run (P:=P) (w:=w) (t:=t) (tx:=tx) (ty:=o.type) (ts:=ts) (ad:=none) (n:=0) (cap:=0) (olds:=[]) hu hdx Afe hi hz hs (.inl ⟨rfl,rfl⟩) (by omega) (by rw[Ie];exact hby) (by omega)
     rw[<-Vj] at hr;refine run hr next Q (hn _ _ (Dt β d (some (w.heap.size,0))) ?_);have hge:0+m<=grownCap w (0+m) 0 e:=grownCap_ge w (0+m) 0 e
     have GM:Gx w (w.drew.alloc (.cells (([]:List Value).toArray++news.toArray++Builtin.zeroCells z.cells (grownCap w (0+m) 0 e-(0+m))) e)) (([]:List Value).toArray++news.toArray++Builtin.zeroCells z.cells (grownCap w (0+m) 0 e-(0+m))) e:=
      ⟨rfl,rfl,rfl,fun k hk=>Below.heap_alloc w.drew _ k hk,by show (w.heap.push _).size=_;simp,(0,0),by show (w.heap.push _)[w.heap.size]?=_;simp,.inl rfl⟩
     have Ahw:(([]:List Value).toArray++news.toArray++Builtin.zeroCells z.cells (grownCap w (0+m) 0 e-(0+m))).size=grownCap w (0+m) 0 e*i.size:=by
      simp only[Array.size_append,List.size_toArray,size_zeroCells,RP,OH,WG,<-Nat.add_mul];rw[Ie (m*i.size),<-Nat.add_mul]
      congr 1
      omega
     refine h.stepR (d:=some d) (nw:=[(d,.ar false new)]) Ai1 (by simp[Co,EB]) (Xa GM EB trivial ?_ (fun cells hx=>by cases hx) ?_ (by intro j hj;simp[Cd,Ct,Au] at hj;exact .inr hj))
     ·refine .inr ⟨w.heap.size,0,At _ _ _,?_,fun _ j _ hj=>?_,(fun q=>by cases q)⟩
      ·exact RK (pre:=[]) GM (Al2 EB) trivial hs.rep (by simp) hs.one
      ·rw[GM.bsz] at hj;exact GM.frozen hj
     ·refine .inr ⟨w.heap.size,0,0,grownCap w (0+m) 0 e,At _ _ _,by rw[Ie],.inl rfl,by omega,?_,by rw[GM.size];omega⟩
      exact⟨by rw[GM.bsz,Ahw];omega,.inr (Oa w.drew _ e)⟩
   ·rw[TB] at hzz;cases hzz
   ·rw[TB] at hzz;cases hzz
 ·cases hk
theorem Ah6(h:Cj N w0 X0 Y β s a w){c:Call}(ho:o.op=.call c)(hc:c.callee=.builtin .copy){b x:Operand}(F0:c.args.toList=[b,x]){t tx:TypeId}{ts:List TypeId}(PT:c.argTypes.toList=t::tx::ts){K:St->Option R}(hk:YW P N s o.dst t tx (Cx s.tm b) (Cx s.tm x) K=some r):
  ∃s',K s'=some r/\∀(next:Act->World->Prop) (Q:Exit->Act->World->Prop),(∀a' w' β',Cj N w0 X0 Y β' s' a' w'->next a' w')->o.wp P a w next Q:=by
 have TS:c.args = #[b,x]:=by
  have:c.args=([b,x]:List Operand).toArray:=by rw[<-F0]
  exact this
 have Adz:c.argTypes=(t::tx::ts).toArray:=by rw[<-PT]
 have run:∀{v:Value} {w1:World},(Builtin.copy_ (t::tx::ts).toArray o.type #[a.eval b,a.eval x]).run P w=.ok v w1->∀(next:Act->World->Prop) (Q:Exit->Act->World->Prop),next (a.put o.dst v) w1->o.wp P a w next Q:=by
  intro v w1 hr next Q hn;unfold Oper.wp execOp;rw[ho];simp only[resolve,hc,invoke,builtin,Sem.run_bind,Sem.run_pure,Result.andThen_ok,TS,Adz];have:(#[b,x]:Array Operand).map a.eval = #[a.eval b,a.eval x]:=by simp
  rw[this,hr];exact hn
 have hbv:=D7 h b;unfold YW at hk;split at hk
 ·rename_i e hu;obtain⟨hzi,hk⟩:=Aq hk;simp only[Fc] at hzi;obtain⟨Vp,Ai1⟩:=hzi;obtain⟨i,hi⟩:∃i,P.info? e=some i:=Option.isSome_iff_exists.1 Vp;have Km:Bp P e=i.size:=by unfold Bp;rw[hi];rfl
  have h1c:∀(m:Nat) (new:Ae),(match Cx s.tm b with
    |.view id es off n=>
     match s.hp id with
     |some (.ar false c)=>As (Nat.beq es (Bp P e)&&decide (off+n*es<=c.length)&&decide (new.length=m*es))
       (Aa (min m n) fun k=>Aa (B6 c (new.take (k*es)) off) fun c=>K ⟨Ce s.tm o.dst (.sc (.int .i64 k)),Dt s.hp id (some (.ar false c))⟩)
     |_=>none
    |_=>none)=some r->new.length=m*Bp P e:=by
   intro m new hk;split at hk
   ·split at hk
    ·obtain⟨hb,_⟩:=Aq hk;simp only[Fc,GF] at hb;rw[<-Dx hb.1.1];exact hb.2
    ·cases hk
   ·cases hk
  obtain⟨_,m,new,news,hk,hs⟩:=UP h hk h1c;split at hk
  ·rename_i id es off n hb;rw[hb] at hbv;split at hk
   ·rename_i cc h0;obtain⟨hb,hk⟩:=Aq hk;simp only[Fc,GF] at hb;obtain⟨⟨DV,Zi⟩,hnl⟩:=hb;have DV:=Dx DV;subst DV;rw[Km] at hk hs Zi hnl hbv;have OH:news.length=m*i.size:=by rw[<-hs.rep.len];exact hnl
    have hkm:min m n*i.size<=m*i.size:=Nat.mul_le_mul_right _ (Nat.min_le_left _ _);have hkn:min m n*i.size<=n*i.size:=Nat.mul_le_mul_right _ (Nat.min_le_right _ _);have H4:K ⟨Ce s.tm o.dst (.sc (.int .i64 ((min m n:Nat):Int))),Dt s.hp id (some (.ar false (B6 cc (new.take (min m n*i.size)) off)))⟩=some r:=hk;refine⟨_,H4,fun next Q hn=>?_⟩
    have Awy:∀{β':Bt} {Do:Nat->Option Cc} {w':World},Cj N w0 X0 Y β' ⟨s.tm,Do⟩ a w'->Cj N w0 X0 Y β' ⟨Ce s.tm o.dst (.sc (.int .i64 ((min m n:Nat):Int))),Do⟩ (a.put o.dst (goInt ((min m n:Nat):Int))) w':=
     fun hh=>hh.put Ai1 (Av.sc _) (fun _ hx=>by cases hx)
    have Avz:new.take (min m n*i.size)=[]->Dt s.hp id (some (.ar false (B6 cc (new.take (min m n*i.size)) off)))=s.hp:=by
     intro e;rw[e];refine KE _ ?_;rw[h0];simp[B6]
    have nothing:min m n*i.size=0->∀(ad:Option Addr) (cap:Nat),a.eval b=.slice ad n cap->o.wp P a w next Q:=by
     intro e ad cap Vj;have hr:=Agt (P:=P) (w:=w) (w1:=w) (t:=t) (ty:=o.type) (ts:=tx::ts) (ad:=ad) (n:=n) (cap:=cap) hu hi hs (by rw[e];cases ad<;>simp[storeCells])
     rw[<-Vj] at hr;refine run hr next Q (hn _ _ β (Awy ?_));rw[Avz (by rw[e,List.take_zero])];exact h
    rcases hbv with⟨hβ,_,rfl,ad,Vj⟩|⟨bb,ob,y,cap,hβ,Vj,hy,Al6,DT,Aqv⟩
    ·exact nothing (by simp) ad 0 Vj
    ·by_cases hm0:min m n*i.size=0
     ·exact nothing hm0 _ _ Vj
     rcases h.box id _ h0 with⟨F4,_⟩|⟨b',o',F4,Ko,DQ,_⟩
     ·rw[hβ] at F4;cases F4
     rw[hβ] at F4;simp at F4;obtain⟨rfl,rfl⟩:=F4;have LH:n≠0:=by rintro rfl;simp at hm0
     have hy:y=ob+off:=by rcases hy with hy|⟨hq,_⟩<;>first|exact absurd hq LH|exact hy
     subst hy;have Ck:(news.take (min m n*i.size)).length=min m n*i.size:=by rw[List.length_take,OH];omega
     have Ev:∀k,k<(news.take (min m n*i.size)).length->(w.cell? ⟨bb,ob+off+k,none⟩).isSome=true:=by
      intro k hk;obtain⟨v,hv,_⟩:=Ko (off+k) _ (List.getElem?_eq_getElem (by omega));rw[Ep] at hv;rw[Jc,hv];rfl
     have XF:∀k,k<(news.take (min m n*i.size)).length->w.frozen? ⟨bb,ob+off+k,none⟩=false:=fun k hk=>by
      obtain⟨u,hu⟩:=Option.isSome_iff_exists.1 (Ev k hk);exact DQ rfl _ (by omega) (KN hu)
     have h1:∀u∈news.take (min m n*i.size),u.oneCell'=true:=fun u hu=>hs.one u (List.mem_of_mem_take hu);have h3:=run_storeCells_cells (P:=P) bb (ob+off) (news.take (min m n*i.size)) 0 w (fun k hk=>by simpa using Ev k hk) (fun k hk=>by simpa using XF k hk) h1;have hr:=Agt (P:=P) (w:=w) (t:=t) (ty:=o.type) (ts:=tx::ts) (ad:=some ⟨bb,ob+off,none⟩) (n:=n) (cap:=cap) hu hi hs h3;rw[<-Vj] at hr;simp only[ZW] at hr;refine run hr next Q (hn _ _ β (Awy ?_))
     refine h.write h0 trivial trivial hβ (Db.setCells bb _ _ w) ?_ (fun cells hx=>by cases hx) (fun _ hx=>by cases hx) (fun j hj=>hj) (fun j hj=>by
      refine World.cell?_setCells_out bb _ _ w ⟨bb,j,none⟩ (fun _ _=>?_);have hj:¬(ob<=j):=hj;show j<ob+off\/ob+off+_<=j;omega)
     have Fn:Cw (Dv s.hp β Y) w (w.setCells bb (ob+off) (news.take (min m n*i.size))):=by
      have hw:=Db.setCells bb (news.take (min m n*i.size)) (ob+off) w;have hAb:Dv s.hp β Y bb:=.inl ⟨id,ob,by rw[h0];trivial,hβ⟩
      exact⟨by rw[hw.size];exact Ci _,fun k _ hk=>hw.other k (fun e=>hk (e ▸ hAb)),fun k _=>hw.grow k⟩
     have hll:(new.take (min m n*i.size)).length=min m n*i.size:=by rw[List.length_take,hnl];omega
     refine .inr ⟨bb,ob,hβ,fun j p hj=>?_,fun _ j hj Tq=>?_,(fun x=>by cases x)⟩
     ·rw[Ep];rcases Yu (by omega) hj with⟨h3,h4,h5⟩|⟨h3,h5⟩
      ·have Bbi:j-off<min m n*i.size:=by omega
       rw[List.getElem?_take_of_lt Bbi] at h5;obtain⟨u,hu,hcu⟩:=hs.rep.get h5;have Aq1:j-off<(news.take (min m n*i.size)).length:=by omega
       refine⟨u,?_,hs.one u (List.mem_of_getElem? hu),hcu.step Fn (fun _ _ x=>x)⟩;have:=World.cell?_setCells_in bb (news.take (min m n*i.size)) (ob+off) w Ev (j-off) Aq1;rw[show ob+j=ob+off+(j-off) from by omega,this];rw[<-List.getElem?_eq_getElem Aq1,List.getElem?_take_of_lt Bbi];exact hu
      ·obtain⟨v,hv,h6,OC⟩:=Ko j p h5;rw[Ep] at hv;refine⟨v,?_,h6,OC.step Fn (fun _ _ x=>x)⟩;rw[World.cell?_setCells_out bb _ _ w ⟨bb,ob+j,none⟩ (fun _ _=>by show ob+j<ob+off\/ob+off+_<=ob+j;omega)]
       exact hv
     ·rw[(Db.setCells bb _ _ w).bs] at Tq;rw[(Db.setCells bb _ _ w).frz];exact DQ rfl j hj Tq
   ·cases hk
  ·cases hk
 ·cases hk
theorem Akc(h:Cj N w0 X0 Y β s a w){G:Vg}(I7:NT P G w0 X0){C:Ih}{call:Ap}(Dc:∀f args res,call f args=some res->C9 G P f args res){K:St->Option R}(hk:EL C P N call s o K=some r):
  ∃s',K s'=some r/\∀(next:Act->World->Prop) (Q:Exit->Act->World->Prop),(∀a' w' β',Cj N w0 X0 Y β' s' a' w'->next a' w')->o.wp P a w next Q:=by
 unfold EL at hk;split at hk
 ·rename_i t x y ho;obtain⟨hd,hk⟩:=Aq hk;exact Ag4 h ho (by simpa using hd) hk
 ·rename_i c ho;split at hk
  ·rename_i hc;obtain⟨d,hd,Er⟩:=Dd hk;obtain⟨b,xs,VZ,Fz⟩:=Bo Er;obtain⟨x,ys,hys,Ox⟩:=Bo Fz;obtain⟨GD,Ug⟩:=Em Ox;obtain⟨t,us,hus,WM⟩:=Bo Ug;obtain⟨tx,vs,Ma,hk6⟩:=Bo WM;rw[hys,GD] at VZ;rw[Ma] at hus;exact Acz h ho hc hd VZ hus hk6
  ·rename_i hc;obtain⟨b,xs,VZ,Fz⟩:=Bo hk;obtain⟨x,ys,hys,Ox⟩:=Bo Fz;obtain⟨GD,Ug⟩:=Em Ox;obtain⟨t,us,hus,WM⟩:=Bo Ug;obtain⟨tx,vs,Ma,hk6⟩:=Bo WM;rw[hys,GD] at VZ;rw[Ma] at hus;exact Ah6 h ho hc VZ hus hk6
  ·rename_i f hc;exact Aew h I7 Dc ho hc hk
  ·cases hk
 ·cases hk
theorem TI(h:Cj N w0 X0 Y β s a w){G:Vg}(I7:NT P G w0 X0){C:Ih}{call:Ap}(Dc:∀f args res,call f args=some res->C9 G P f args res){K:St->Option R}(hk:Ae8 C P N call o s K=some r):
  ∃s',K s'=some r/\∀(next:Act->World->Prop) (Q:Exit->Act->World->Prop),(∀a' w' β',Cj N w0 X0 Y β' s' a' w'->next a' w')->o.wp P a w next Q:=by
 unfold Ae8 at hk;cases hm:Xt C P o.op
 ·rw[hm] at hk;exact Ais h I7 Dc hk
 ·rw[hm] at hk;exact Akc h I7 Dc hk
end
end
end
end Go.Proofs.YtohcncipgljdkaaGreatDoor.Pv
