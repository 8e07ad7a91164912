/-
  The proof of DataParses, part 2.
-/
import Derived.Test.YtkopiepmdppifaaGreatDoorZA
import Derived.Laws.Append
import Derived.IntWalk
import Derived.Laws.AppendOwn
import Derived.Laws.IdiomCopy
set_option linter.unusedSimpArgs false
set_option linter.unusedVariables false
namespace Go.Proofs.YtkopiepmdppifaaGreatDoor.Pv
set_option maxRecDepth 1000000
noncomputable section
section
open Go.RowKit
def Hn(w:World)(A:Nat->Prop)(own:Option (Nat × Nat))(p:PV)(u:Value):Prop:=
 match p with
 |.own es n c=>(own=none/\n=0/\c=[]/\∃ad,u=.slice ad 0 0) \/
   ∃b o cap,own=some (b,o)/\u=.slice (some ⟨b,o,none⟩) n cap/\n<=cap/\Fit w es b (o+cap*es)/\b<w.heap.size/\WD w A ⟨b,o,none⟩ c/\∀j,o<=j->j<bsz w b->w.frozen? ⟨b,j,none⟩=false
 |p=>A3 w A p u
def F1(w:World)(A:Nat->Prop)(own:Bt):Nat->Al->List Value->Prop
 |_,[],[]=>True
 |j,p::ps,u::us=>Hn w A (own j) p u/\F1 w A own (j+1) ps us
 |_,_,_=>False
def Ajc(w:World)(A:Nat->Prop)(own:Bt)(j b o:Nat)(cs:Al):Prop:=
 ∃vs,F1 w A own j cs vs/\(∀(k:Nat) v,vs[k]?=some v->w.cell? ⟨b,o+k,none⟩=some v)/\∀k,k<cs.length->w.frozen? ⟨b,o+k,none⟩=false
def An0(w:World)(A:Nat->Prop)(own:Bt)(z j:Nat)(p:PV)(u:Value):Prop:=
 match p with
 |.agg cs=>∃vs,u=.agg ⟨vs⟩/\F1 w A own j cs vs
 |.pbox cs=>∃b o,own j=some (b,o)/\z<=b/\u=.pointer (some ⟨b,o,none⟩)/\Ajc w A own (j+1) b o cs
 |p=>Hn w A (own j) p u
def plc:PV->Nat
 |.pbox cs=>1+cs.length
 |p=>(cellsOf p).length
def MJ(w:World)(A:Nat->Prop)(own:Bt)(z:Nat):Nat->Al->List Value->Prop
 |_,[],[]=>True
 |j,p::ps,u::us=>An0 w A own z j p u/\MJ w A own z (j+plc p) ps us
 |_,_,_=>False
abbrev AO:=Nat->Nat->Option (Nat × Nat)
def BtX(bt:AO)(b:Nat):Prop:=∃i j o,bt i j=some (b,o)
def isA(p:PV):Prop:=Xl p\/∃es n c,p=.own es n c
def AQ(p:PV):Bool:=
 match p with
 |.pbox _=>true
 |.tup _=>true
 |_=>false
theorem Akt{p:PV}(h:isA p):AQ p=false:=by
 rcases h with h|⟨_,_,_,rfl⟩
 ·cases p<;>first|rfl|exact h.elim
 ·rfl
def SQ(w:World)(A:Nat->Prop)(bt:Bt)(p:PV)(u:Value):Prop:=
 match p with
 |.pbox ps=>∃b o,bt 0=some (b,o)/\u=.pointer (some ⟨b,o,none⟩)/\(∀p∈ps,isA p)/\Ajc w A bt 1 b o ps
 |.tup ps=>∃es n c,ps=[.own es n c]/\Hn w A (bt 0) (.own es n c) u
 |.agg cs=>∃vs,u=.agg ⟨vs⟩/\(∀p∈cs,isA p)/\F1 w A bt 1 cs vs
 |p=>isA p/\Hn w A (bt 1) p u
def Ma(w:World)(A:Nat->Prop)(bt:AO):Nat->Al->List Value->Prop
 |_,[],[]=>True
 |i,p::ps,u::us=>SQ w A (bt i) p u/\Ma w A bt (i+1) ps us
 |_,_,_=>False
def Aro(bt:Bt)(p:PV)(b j:Nat):Prop:=
 (∃k o,bt (k+1)=some (b,o)/\o<=j)\/∃o ps,bt 0=some (b,o)/\o<=j/\((p=.pbox ps/\j<o+ps.length)\/p=.tup ps)
def GJ(bt:AO)(args:Al)(b j:Nat):Prop:=∃i p,args[i]?=some p/\Aro (bt i) p b j
def Xe(w:World)(A:Nat->Prop)(own:Bt)(bt:AO):Nat->Nat->Al->List Al->Prop
 |_,_,[],r=>r=[]
 |j,i,p::zs,r=>
  match p with
  |.pbox ps=>
   match r with
   |[]=>False
   |cs::r=>(∃b o,bt i 0=some (b,o)/\cs.length=ps.length/\Ajc w A own j b o cs)/\Xe w A own bt (j+cs.length) (i+1) zs r
  |.tup _=>
   match r with
   |[]=>False
   |cs::r=>((bt i 0=none/\cs=[])\/∃b o,bt i 0=some (b,o)/\WD w A ⟨b,o,none⟩ cs/\∀k,o<=k->k<bsz w b->w.frozen? ⟨b,k,none⟩=false)/\Xe w A own bt j (i+1) zs r
  |_=>Xe w A own bt j (i+1) zs r
def FY(bt:AO)(own:Bt)(Y:Nat->Prop)(b:Nat):Prop:=(∃j o,own j=some (b,o))\/(∃i o,bt i 0=some (b,o))\/Y b
def M1(vals:Al):Nat:=(vals.map plc).sum
structure Out(w w':World)(Y:Nat->Prop)(bt:AO)(args:Al)(own:Bt)(r:Bz)(vs:List Value):Prop where
 os:w'.os=w.os
 tape:w'.tape=w.tape
 output:w'.output=w.output
 ext:Cy (BtX bt) w w'
 rng:∀b j,b<w.heap.size->¬GJ bt args b j->w'.cell? ⟨b,j,none⟩=w.cell? ⟨b,j,none⟩/\w'.frozen? ⟨b,j,none⟩=w.frozen? ⟨b,j,none⟩
 vals:MJ w' (FY bt own Y) own w.heap.size 0 r.vals vs
 outs:Xe w' (FY bt own Y) own bt (M1 r.vals) 0 args r.outs
 fresh:∀j b o,own j=some (b,o)->b<w'.heap.size/\(b<w.heap.size->(∃i k o',bt i (k+1)=some (b,o'))/\∀x,o<=x->GJ bt args b x)
 inj:∀j j' b o o',own j=some (b,o)->own j'=some (b,o')->j=j'
def Jc(us:List Value):Value:=match us with|[u]=>u|us=>.tuple ⟨us⟩
def Tl(w:World)(Y:Nat->Prop)(p:PV)(u:Value):Prop:=
 match p with
 |.agg cs=>∃vs,u=.agg ⟨vs⟩/\Bo (fun c v=>Xl c/\A3 w Y c v) cs vs
 |p=>Xl p/\A3 w Y p u
structure Ins(w:World)(Y:Nat->Prop)(bt:AO)(args:Al)(us:List Value):Prop where
 Ylt:∀b,Y b->b<w.heap.size
 Yx:∀b,Y b->¬BtX bt b
 lt:∀b,BtX bt b->b<w.heap.size
 inj:∀i j i' j' b o o',bt i j=some (b,o)->bt i' j'=some (b,o')->i=i'/\j=j'
 l0:∀i q,bt i 0=some q->∃p,args[i]?=some p/\AQ p=true
 args:Ma w (fun b=>BtX bt b\/Y b) bt 0 args us
structure Yl where
 bl:Nat->Prop
 ok:World->Prop
 stable:∀w w':World,(∀b,bl b->b<w.heap.size->w'.heap[b]?=w.heap[b]?)->ok w->ok w'
def Eb(G:Yl)(P:Program)(f:FuncId)(args:Al)(r:Bz):Prop:=
 (∃fn,P.funcs[f]?=some fn/\fn.body.isSome=true)/\∀(w:World)(Y:Nat->Prop)(bt:AO)(us:List Value),Ins w Y bt args us->G.ok w->(∀b,G.bl b->b<w.heap.size/\¬BtX bt b) ->
  Calls P f us.toArray w fun e w'=>∃vs own,e=.returned (Jc vs)/\Out w w' Y bt args own r vs
def VO:AO:=fun _ _=>none
theorem Rl(b:Nat):¬BtX VO b:=by rintro⟨_,_,_,h⟩;cases h
theorem Lg{w:World}{A:Nat->Prop}{q:Option (Nat × Nat)}{p:PV}{u:Value}(hp:Xl p)(h:A3 w A p u):Hn w A q p u:=by cases p<;>first|exact h|exact hp.elim
theorem DE{w:World}{A:Nat->Prop}{own:Bt}:∀{cs:Al}{vs:List Value}{j:Nat},Bo (fun c v=>Xl c/\A3 w A c v) cs vs->F1 w A own j cs vs
 |[],[],_,_=>trivial
 |_::_,_::_,_,h=>⟨Lg h.1.1 h.1.2,DE h.2⟩
 |[],_::_,_,h=>h.elim
 |_::_,[],_,h=>h.elim
theorem Adr{w:World}{A:Nat->Prop}{bt:Bt}{p:PV}{u:Value}(h:Tl w A p u):SQ w A bt p u:=by
 cases p with
 |agg cs=>
  obtain⟨vs,h1,h2⟩:=h;refine⟨vs,h1,fun p hp=>.inl ?_,DE h2⟩;obtain⟨j,hj⟩:=List.mem_iff_getElem?.1 hp;obtain⟨v,_,hv⟩:=h2.get hj;exact hv.1
 |sc v=>exact⟨.inl trivial,h.2⟩
 |lst z es n c=>exact⟨.inl trivial,h.2⟩
 |_=>exact h.1.elim
theorem JD{w:World}{A:Nat->Prop}{bt:AO}:∀{ps:Al}{us:List Value}{i:Nat},Bo (Tl w A) ps us->Ma w A bt i ps us
 |[],[],_,_=>trivial
 |_::_,_::_,_,h=>⟨Adr h.1,JD h.2⟩
 |[],_::_,_,h=>h.elim
 |_::_,[],_,h=>h.elim
theorem Acu{w:World}{A A':Nat->Prop}(hA:∀b,b<w.heap.size->A' b->A b){p:PV}{v:Value}(h:Tl w A p v):Tl w A' p v:=by
 cases p with
 |agg cs=>
  obtain⟨vs,rfl,h2⟩:=h;exact⟨vs,rfl,h2.mono fun c v hc=>⟨hc.1,hc.2.step (Cy.refl _ _) hA⟩⟩
 |sc v=>exact⟨h.1,h.2.step (Cy.refl _ _) hA⟩
 |lst z es n c=>exact⟨h.1,h.2.step (Cy.refl _ _) hA⟩
 |_=>exact h.1.elim
theorem UZ{w:World}{Y:Nat->Prop}{args:Al}{us:List Value}(hY:∀b,Y b->b<w.heap.size)(h:Bo (Tl w Y) args us):Ins w Y VO args us:=
 ⟨hY,fun b _=>Rl b,fun b h=>absurd h (Rl b),(fun _ _ _ _ _ _ _ h=>by cases h),(fun _ _ h=>by cases h),JD (h.mono fun _ _ hx=>Acu (fun b _ hb=>hb.elim (fun q=>absurd q (Rl b)) id) hx)⟩
def NoNG(P:Program):Prop:=∀(f:FuncId) (fn:Func),P.funcs[f]?=some fn->(fn.name == "runtime.NumGoroutine")=false
structure SK(P:Program)(G:Yl)(w0:World)(X0:Jb):Prop where
 ng:NoNG P
 fr:∀w,Fr X0 w0 w->G.ok w
 y:∀b,G.bl b->b<w0.heap.size/\¬X0.X b
section
variable {R:Type}{r:R}{P:Program}{N:Nat}{w0:World}{X0:Jb}{Y:Nat->Prop}{β β':Bt}{s:St}{a:Act}{w w':World}{o:Oper}{A:Nat->Prop}
def HP(P:Program)(a:Act)(w:World)(o:Oper)(Y:Nat->Prop)(β:Bt)(s:St)(v:PV)(fz:B8)(nw:List (Nat × Cd)):Prop:=
 (∀id∈fz,∃f c,s.hp id=some (.ar f c))/\∀(next:Act->World->Prop)(Q:Exit->Act->World->Prop),
  (∀val w',(Cf s.hp nw=true->∃β',MA Y β ⟨s.tm,Aj s.hp fz⟩ w v nw val w' β')->next (a.put o.dst val) w')->o.wp P a w next Q
theorem JH{v:PV}{fz:B8}{nw:List (Nat × Cd)}(h:Ff P a w o Y β s v fz nw):HP P a w o Y β s v fz nw:=by obtain⟨h1,val,w',hr,hs⟩:=h;refine⟨h1,fun next Q hn=>?_⟩;unfold Oper.wp;rw[hr];exact hn val w' hs
theorem Agy(h:Dl N w0 X0 Y β s a w){t:TypeId}{x:PV}{u:Value}(hx:Fk w (D2 s.hp β Y) β x u){K:PV->B8->Option R}(hk:YL P (Kq s.hp) t x K=some r):
  ∃p m,K p m=some r/\(∀id∈m,∃f cc,s.hp id=some (.ar f cc))/\(cellsOf p).length=(Jj P t).length/\∀fz:B8,(∀id∈m,id∈fz)->(∀id∈fz,∃f cc,s.hp id=some (.ar f cc))->Tl w (D2 (Aj s.hp fz) β Y) p u:=by
 unfold YL at hk;cases G4:Cp P t
 ·rw[G4] at hk;obtain⟨cs,m,hk,hl,Lp,hT,hF,hm,hv⟩:=Sc h (show Pn _ _ _ _=some r from hk);obtain⟨c,t',rfl,hk⟩:=Bh hk;obtain⟨rfl,hk⟩:=Ej hk;have hcT:=hT c (by simp);refine⟨c,m,hk,hm,?_,fun fz h1 h2=>?_⟩
  ·have:cellsOf c=[c]:=by cases c<;>first|rfl|exact hcT.elim
   rw[this];exact hl
  have hF':=hF _ (Qw _)
  have hc:Cn w (D2 s.hp β Y) β x u:=by
   cases x<;>first|exact hx|exact hF'.elim
  have h3:=(hv fz h1 h2 [u] ⟨hc,trivial⟩).1.1;cases c<;>first|exact⟨trivial,h3⟩|exact hcT.elim
 ·rw[G4] at hk;obtain⟨ps,hp,hk⟩:=Iv (show Fo _ _=some r from hk);rw[hp] at hx;obtain⟨cs,m,hk,hl,Lp,hT,hF,hm,hv⟩:=Sc h hk;obtain⟨vs,D7,h2⟩:=hx;refine⟨.agg cs,m,hk,hm,hl,fun fz h1 h3=>⟨vs,D7,?_⟩⟩;exact (hv fz h1 h3 vs h2).1.mono_mem fun c hc v DL=>⟨hT c hc,DL⟩
theorem Agg(h:Dl N w0 X0 Y β s a w){t:TypeId}{x:Operand}{K:PV->B8->Option R}(hk:YL P (Kq s.hp) t (Cm s.tm x) K=some r):
  ∃p m,K p m=some r/\(∀id∈m,∃f cc,s.hp id=some (.ar f cc))/\∀fz:B8,(∀id∈m,id∈fz)->(∀id∈fz,∃f cc,s.hp id=some (.ar f cc))->Tl w (D2 (Aj s.hp fz) β Y) p (a.eval x):=by
 obtain⟨p,m,h1,h2,_,h3⟩:=Agy h (Dt h x) hk;exact⟨p,m,h1,h2,h3⟩
theorem MI(h:Dl N w0 X0 Y β s a w):∀{ts:List TypeId}{xs:List Operand}{K:Al->B8->Option R},GD P (Kq s.hp) ts (xs.map (Cm s.tm)) K=some r ->
  ∃ps m,K ps m=some r/\(∀id∈m,∃f cc,s.hp id=some (.ar f cc))/\∀fz:B8,(∀id∈m,id∈fz)->(∀id∈fz,∃f cc,s.hp id=some (.ar f cc))->Bo (Tl w (D2 (Aj s.hp fz) β Y)) ps (xs.map a.eval)
 |[],[],K,hk=>⟨[],[],hk,by simp,fun _ _ _=>trivial⟩
 |[],_::_,K,hk=>by cases hk
 |_::_,[],K,hk=>by cases hk
 |t::ts,x::xs,K,hk=>by
  simp only[Xy] at hk;unfold GD at hk;obtain⟨p,m,hk,hm,hv⟩:=Agg h hk;obtain⟨ps,ms,hk,GE,T8⟩:=MI h hk;refine⟨p::ps,m++ms,hk,?_,fun fz h1 h2=>⟨hv fz (fun i hi=>h1 i (by simp[hi])) h2,T8 fz (fun i hi=>h1 i (by simp[hi])) h2⟩⟩;intro i hi;rcases Bu.1 hi with hi|hi
  ·exact hm i hi
  ·exact GE i hi
theorem Tl.weaken{A':Nat->Prop}(hA:∀b,b<w.heap.size->A' b->A b){p:PV}{v:Value}(h:Tl w A p v):Tl w A' p v:=by
 have one:Xl p->Xl p/\A3 w A p v->Tl w A' p v:=by
  intro hp h;cases p<;>first|exact⟨h.1,h.2.step (Cy.refl _ _) hA⟩|exact hp.elim
 cases p with
 |agg cs=>
  obtain⟨vs,rfl,h2⟩:=h;exact⟨vs,rfl,h2.mono fun c v hc=>⟨hc.1,hc.2.step (Cy.refl _ _) hA⟩⟩
 |_=>exact one h.1 h
theorem Ahz{t:CT}{p:PV}{K:PV->Option R}(h:CU t p K=some r):
  ∃c,K c=some r/\Xl c/\Xl p/\(∀(w:World) (A:Nat->Prop) (β:Nat->Option (Nat × Nat)) (v:Value),Cn w A β p v->A3 w A c v/\v.oneCell'=true)/\((∀es,t ≠ .sl es)->∃v,c=.sc v):=by
 obtain⟨c,hk,hT,GK,hv⟩:=N1 h;cases t with
 |sl es=>exact⟨c,hk,hT,GK,hv,fun Er=>absurd rfl (Er es)⟩
 |int k=>obtain⟨n,rfl,h2⟩:=Fm h;exact⟨_,h2,trivial,trivial,fun w A β v hv=>⟨hv,by have:=A3.val (w:=w) (A:=A) hv;subst this;rfl⟩,fun _=>⟨_,rfl⟩⟩
 |bool=>obtain⟨n,rfl,h2⟩:=En h;exact⟨_,h2,trivial,trivial,fun w A β v hv=>⟨hv,by have:=A3.val (w:=w) (A:=A) hv;subst this;rfl⟩,fun _=>⟨_,rfl⟩⟩
 |str=>obtain⟨n,rfl,h2⟩:=Eg h;exact⟨_,h2,trivial,trivial,fun w A β v hv=>⟨hv,by have:=A3.val (w:=w) (A:=A) hv;subst this;rfl⟩,fun _=>⟨_,rfl⟩⟩
 |any=>
  obtain⟨u,rfl,h1,h2⟩:=Aaz (show fnK p (fun v=>K (.sc v))=some r from h);exact⟨_,h2,trivial,trivial,fun w A β v hv=>⟨hv,by have:=A3.val (w:=w) (A:=A) hv;subst this;exact h1⟩,fun _=>⟨_,rfl⟩⟩
theorem Wc(shr:Bool)(N:Nat):∀{ts:List CT}{ps:Al}{id:Nat}{K:Al->List (Nat × Cd)->Option R},R9 shr N id ts ps K=some r ->
  ∃cs bs,K cs bs=some r/\ps.length=ts.length/\(∀p∈ps,∀x,p ≠ .agg x/\p ≠ .pbox x)/\(∀c∈cs,KQ c)/\((∀es,CT.sl es ∉ ts)->bs=[]/\∀c∈cs,∃v,c=.sc v) /\
   (∀i bx,(i,bx)∈bs->∃j es n c,ps[j]?=some (.own es n c)/\i=id+N*j/\bx=.ar false c) /\
   (∀c∈cs,∀i∈Aw c,∃bx,(i,bx)∈bs) /\
   ∀(w:World) (A:Nat->Prop) (own β':Bt) (j0:Nat) (us:List Value),(∀j,(∃bx,(id+N*j,bx)∈bs)->β' (id+N*j)=own (j0+j))->F1 w A own j0 ps us->Bo (Cn w A β') cs us
 |[],ps,id,K,hk=>by
  obtain⟨rfl,hk⟩:=Ej hk;refine⟨[],[],hk,rfl,by simp,by simp,by simp,by simp,by simp,fun w A own β' j0 us _ h=>?_⟩;cases us with
  |nil=>trivial
  |cons u us=>exact h.elim
 |t::ts,ps,id,K,hk=>by
  unfold R9 at hk;obtain⟨p,ps',EQ,E6⟩:=Bh hk;subst EQ;clear hk
  have main:∃c b,(R9 shr N (id+N) ts ps' fun cs bs=>K (c::cs) (b++bs))=some r/\(∀x,p ≠ .agg x/\p ≠ .pbox x)/\KQ c/\((∀es,t≠CT.sl es)->b=[]/\∃v,c=.sc v)/\(∀i bx,(i,bx)∈b->∃es n cc,p=.own es n cc/\i=id/\bx=.ar false cc)/\(∀i∈Aw c,∃bx,(i,bx)∈b) /\
    ∀(w:World) (A:Nat->Prop) (own:Option (Nat × Nat)) (β':Bt) (u:Value),((∃bx,(id,bx)∈b)->β' id=own)->Hn w A own p u->Cn w A β' c u:=by
   have tree:∀t',t'=t->(CU t' p fun c=>R9 shr N (id+N) ts ps' fun cs bs=>K (c::cs) ([]++bs))=some r->∃c b,(R9 shr N (id+N) ts ps' fun cs bs=>K (c::cs) (b++bs))=some r/\(∀x,p ≠ .agg x/\p ≠ .pbox x)/\KQ c/\((∀es,t≠CT.sl es)->b=[]/\∃v,c=.sc v)/\(∀i bx,(i,bx)∈b->∃es n cc,p=.own es n cc/\i=id/\bx=.ar false cc)/\(∀i∈Aw c,∃bx,(i,bx)∈b) /\
     ∀(w:World) (A:Nat->Prop) (own:Option (Nat × Nat)) (β':Bt) (u:Value),((∃bx,(id,bx)∈b)->β' id=own)->Hn w A own p u->Cn w A β' c u:=by
    intro t' ht' hk;have VY:=Ahz hk;obtain⟨c,hk,hT,GK,hv,VY⟩:=VY;refine⟨c,[],hk,fun x=>⟨Y9 GK x,by rintro rfl;exact GK⟩,Sy hT,fun Er=>⟨rfl,VY (fun es e=>Er es (ht'.symm.trans e))⟩,by simp,by rw[I1 hT];simp,fun w A own β' u _ hc=>?_⟩
    have Tf:Cn w A β' p u:=by cases p<;>first|exact hc|exact GK.elim
    exact (Md hT).2 (hv w A β' u Tf).1
   unfold Afa at E6;cases t with
   |sl es=>
    dsimp only at E6;cases shr
    ·unfold FJ at E6;simp only[cond_false] at E6;split at E6
     ·rename_i es' n c;cases hb:Nat.beq es' es
      ·rw[hb] at E6;cases E6
      ·rw[hb] at E6;have:=D9 hb;subst this;refine⟨_,_,E6,by simp,trivial,fun Er=>absurd rfl (Er _),?_,?_,fun w A own β' u hβ hc=>?_⟩
       ·intro i bx hm;simp at hm;exact⟨_,_,_,rfl,hm.1,hm.2⟩
       ·intro i hi;simp[Aw] at hi;subst hi;exact⟨.ar false c,by simp⟩
       ·have hβ':=hβ ⟨.ar false c,by simp⟩;clear hβ;rcases hc with⟨h1,rfl,rfl,h4⟩|⟨b,ob,cap,h1,h2,h3,h4,h5,_⟩
        ·exact .inl ⟨hβ'.trans h1,rfl,rfl,h4⟩
        ·exact .inr ⟨b,ob,ob,cap,hβ'.trans h1,h2,.inl rfl,h3,h4,h5⟩
     ·cases E6
    ·obtain⟨c,hk,hT,GK,hv,_⟩:=Ahz (t:=.sl es) (p:=p) (K:=fun c=>R9 true N (id+N) ts ps' fun cs bs=>K (PO c::cs) ([]++bs)) E6;have hU:Xl (PO c):=by cases c<;>exact hT
     refine⟨PO c,[],hk,fun x=>⟨Y9 GK x,by rintro rfl;exact GK⟩,Sy hU,fun Er=>absurd rfl (Er _),by simp,by rw[I1 hU];simp,fun w A own β' u _ hc=>?_⟩
     have Tf:Cn w A β' p u:=by cases p<;>first|exact hc|exact GK.elim
     refine (Md hU).2 ?_;have:=(hv w A β' u Tf).1;cases c with
     |lst z es n c=>exact A3.unz this
     |_=>exact this
   |int k=>exact tree (.int k) rfl E6
   |bool=>exact tree .bool rfl E6
   |str=>exact tree .str rfl E6
   |any=>exact tree .any rfl E6
  obtain⟨c,b,hk,hpa,hF,DV,Fy,It,DL⟩:=main;obtain⟨cs,bs,hk,hl,A0n,hFs,Asb,A3w,A4b,A0v⟩:=Wc shr N hk;refine⟨c::cs,b++bs,hk,by simp[hl],?_,?_,?_,?_,?_,fun w A own β' j0 us hβ hoc=>?_⟩
  ·intro x hx;rcases List.mem_cons.1 hx with rfl|hx
   ·exact hpa
   ·exact A0n x hx
  ·intro x hx;rcases List.mem_cons.1 hx with rfl|hx
   ·exact hF
   ·exact hFs x hx
  ·intro Er;obtain⟨h1,v,h2⟩:=DV (fun es e=>Er es (by rw[e];simp))
   obtain⟨h3,h4⟩:=Asb (fun es hm=>Er es (by simp[hm]));refine⟨by rw[h1,h3];rfl,fun x hx=>?_⟩
   rcases List.mem_cons.1 hx with rfl|hx
   ·exact⟨v,h2⟩
   ·exact h4 x hx
  ·intro i bx hm;rcases Bu.1 hm with hm|hm
   ·obtain⟨es,n,cc,rfl,rfl,rfl⟩:=Fy i bx hm;exact⟨0,es,n,cc,rfl,by simp,rfl⟩
   ·obtain⟨j,es,n,cc,h1,rfl,h3⟩:=A3w i bx hm;exact⟨j+1,es,n,cc,by simpa using h1,by rw[Nat.mul_add];omega,h3⟩
  ·intro x hx i hi;rcases List.mem_cons.1 hx with rfl|hx
   ·obtain⟨bx,hm⟩:=It i hi;exact⟨bx,by simp[hm]⟩
   ·obtain⟨bx,hm⟩:=A4b x hx i hi;exact⟨bx,by simp[hm]⟩
  ·cases us with
   |nil=>exact hoc.elim
   |cons u us=>
    refine⟨DL w A (own j0) β' u (fun ⟨bx,hm⟩=>by have:=hβ 0 ⟨bx,by simp[hm]⟩;simpa using this) hoc.1,?_⟩
    refine A0v w A own β' (j0+1) us (fun j ⟨bx,hm⟩=>?_) hoc.2;have e:id+N+N*j=id+N*(j+1):=by rw[Nat.mul_add];omega
    have:=hβ (j+1) ⟨bx,by rw[<-e];simp[hm]⟩
    rw[e,this]
    congr 1
    omega
end
open Go.RowKit
section
variable {R:Type}{r:R}{P:Program}{N:Nat}{w0:World}{X0:Jb}{Y:Nat->Prop}{β β':Bt}{s:St}{a:Act}{w w':World}{o:Oper}{A:Nat->Prop}
theorem F1.len:∀{j:Nat}{own:Bt}{ps:Al}{us:List Value},F1 w A own j ps us->ps.length=us.length
 |_,_,[],[],_=>rfl
 |_,_,_::_,_::_,h=>by simp[F1.len h.2]
 |_,_,[],_::_,h=>h.elim
 |_,_,_::_,[],h=>h.elim
theorem F1.at_:∀{j:Nat}{own:Bt}{ps:Al}{us:List Value},F1 w A own j ps us->∀{i:Nat} {p},ps[i]?=some p->∃u,us[i]?=some u/\Hn w A (own (j+i)) p u
 |_,_,[],[],_,i,p,h=>by simp at h
 |j,own,_::_,u::_,h,0,p,hp=>by simp at hp;subst hp;exact⟨u,rfl,h.1⟩
 |j,own,_::_,_::_,h,i+1,p,hp=>by
  simp at hp;obtain⟨u,hu,hc⟩:=F1.at_ h.2 hp;exact⟨u,by simpa using hu,by rw[show j+(i+1)=j+1+i from by omega];exact hc⟩
 |_,_,[],_::_,h,_,_,_=>h.elim
 |_,_,_::_,[],h,_,_,_=>h.elim
def Ahd(N id:Nat)(β':Bt)(w:World)(A:Nat->Prop)(z n:Nat)(bs:List (Nat × Cd)):Prop:=
 ∀i bx,(i,bx)∈bs->(∃j,i=id+N*j/\j<n)/\D1 (some bx)/\Tg w A β' i bx/\∀cs,bx=.st cs->∀b o,β' i=some (b,o)->z<=b
def AY(bs:List (Nat × Cd)):Prop:=∀i cells,(i,.st cells)∈bs->∀c∈cells,∀i'∈Aw c,∃bx,(i',bx)∈bs
theorem Y8{q:Option (Nat × Nat)}{es n i:Nat}{c:Al}{u:Value}(h:Hn w A q (.own es n c) u)(hβ:β' i=q):Tg w A β' i (.ar false c):=by
 rcases h with⟨h1,_,h2,_⟩|⟨b,o,cap,h1,_,_,_,_,h6,h7⟩
 ·exact .inl ⟨hβ.trans h1,h2⟩
 ·exact .inr ⟨b,o,hβ.trans h1,h6,fun _=>h7,(fun x=>by cases x)⟩
theorem CM{t:TypeId}(h:Ku P [t]=false):AJ P t=none/\∀es,CT.sl es ∉ Jj P t:=by simp only[Ku,List.any_cons,List.any_nil,Bool.or_false,Bool.or_eq_false_iff] at h;refine⟨by simpa using h.1,fun es hm=>?_⟩;have:=List.any_eq_false.1 h.2 _ hm;simp at this
theorem Aih(shr:Bool)(N:Nat){t:TypeId}{p:PV}{id:Nat}{K:PV->List (Nat × Cd)->Option R}(hk:Add P shr N id t p K=some r):
  ∃v bs,K v bs=some r/\plc p=RW P t/\(∀x,v ≠ .tup x)/\(Ku P [t]=false->bs=[]/\∀c∈cellsOf v,∃u,c=.sc u)/\(∀i∈C5 v,∃bx,(i,bx)∈bs)/\AY bs /\
   ∀(w:World) (A:Nat->Prop) (own β':Bt) (z j0:Nat) (u:Value),(∀j,(∃bx,(id+N*j,bx)∈bs)->β' (id+N*j)=own (j0+j))->An0 w A own z j0 p u->I6 w A β' v u/\Ahd N id β' w A z (plc p) bs:=by
 have boxes:∀{bs:List (Nat × Cd)} {ps:Al} {id:Nat},(∀i bx,(i,bx)∈bs->∃j es n c,ps[j]?=some (.own es n c)/\i=id+N*j/\bx=.ar false c) ->
   AY bs/\∀(w:World) (A:Nat->Prop) (own β':Bt) (j0:Nat) (us:List Value),(∀j,(∃bx,(id+N*j,bx)∈bs)->β' (id+N*j)=own (j0+j))->F1 w A own j0 ps us->∀z,Ahd N id β' w A z ps.length bs:=by
  intro bs ps id Fy;refine⟨fun i cells hm=>?_,fun w A own β' j0 us hβ ho z i bx hm=>?_⟩
  ·obtain⟨_,_,_,_,_,_,h3⟩:=Fy i _ hm;cases h3
  ·obtain⟨j,es,n,cc,h1,h2,h3⟩:=Fy i bx hm;obtain⟨u,hu,hoc⟩:=ho.at_ h1;subst h3;refine⟨⟨j,h2,?_⟩,trivial,Y8 hoc ?_,fun _ e=>by cases e⟩
   ·rcases Ht j ps.length with h|h
    ·exact h
    ·rw[List.getElem?_eq_none h] at h1;cases h1
   ·rw[h2];exact hβ j ⟨_,h2 ▸ hm⟩
 unfold Add at hk;split at hk
 ·rename_i e he;obtain⟨ps,rfl,hk⟩:=MK hk;obtain⟨cs,bs,hk,hl,Amc,hF,DV,Fy,It,DL⟩:=Wc shr N hk;obtain⟨ZB,My⟩:=boxes Fy;refine⟨.ptr id 0,_,hk,by simp only[plc,RW,he,hl],by simp,fun h=>?_,fun i hi=>?_,fun i cells hm c hc i' WF=>?_,fun w A own β' z j0 u hβ ho=>?_⟩
  ·have:=(CM h).1;rw[he] at this;cases this
  ·simp only[C5,Aw,P7] at hi;subst hi;exact⟨_,Yd⟩
  ·rcases List.mem_cons.1 hm with e|hm
   ·cases e;obtain⟨bx,hb⟩:=It c hc i' WF;exact⟨bx,Su _ hb⟩
   ·obtain⟨bx,hb⟩:=ZB i cells hm c hc i' WF;exact⟨bx,Su _ hb⟩
  ·obtain⟨b,o,h1,hz,rfl,vs,h3,h4,h5⟩:=ho;have h0:=hβ 0 ⟨_,by rw[Nat.mul_zero,KT];exact Yd⟩
   rw[Nat.mul_zero,KT,KT,h1] at h0;have B1:∀j,id+N+N*j=id+N*(j+1):=fun j=>by rw[Nat.mul_add];omega
   have hβ1:∀j,(∃bx,(id+N+N*j,bx)∈bs)->β' (id+N+N*j)=own (j0+1+j):=fun j ⟨bx,hm⟩=>by
    rw[B1,hβ (j+1) ⟨bx,by rw[<-B1];exact Su _ hm⟩]
    congr 1;omega
   have hc2:=DL w A own β' (j0+1) vs hβ1 h3;have X9:=My w A own β' (j0+1) vs hβ1 h3 z;have Do:cs.length=ps.length:=by rw[hc2.len,<-h3.len]
   refine⟨⟨b,o,h0,by simp⟩,fun i bx hm=>?_⟩;rcases List.mem_cons.1 hm with e|hm
   ·cases e;refine⟨⟨0,by simp,by simp only[plc];omega⟩,trivial,⟨b,o,h0,fun k c hk=>?_,fun k hk=>h5 k (by omega)⟩,fun _ _ b' o' Jf=>?_⟩
    ·obtain⟨v,hv,RN⟩:=hc2.get hk;exact⟨v,h4 k v hv,RN⟩
    ·rw[h0] at Jf;cases Jf;exact hz
   ·obtain⟨⟨j,hj,hjn⟩,h6,h7⟩:=X9 i bx hm;exact⟨⟨j+1,by rw[hj,B1],by simp only[plc];omega⟩,h6,h7⟩
 ·rename_i hnp;have Sl:RW P t=(Jj P t).length:=by simp only[RW,hnp]
  cases G4:Cp P t
  ·rw[G4] at hk;obtain⟨cs,bs,hk,hl,Amc,hF,DV,Fy,It,DL⟩:=Wc shr N (show R9 _ _ _ _ _ _=some r from hk);obtain⟨c,t',rfl,hk⟩:=Bh hk;obtain⟨rfl,hk⟩:=Ej hk;have hFc:=hF c (by simp);have Avy:∀x,p ≠ .pbox x:=fun x=>(Amc p (by simp) x).2;have Asm:∀x,c ≠ .agg x:=by rintro x rfl;exact hFc
   have A4c:∀x,c ≠ .tup x:=by rintro x rfl;exact hFc
   have KF:C5 c=Aw c:=by cases c<;>first|rfl|exact absurd rfl (Asm _)
   have hpa:∀x,p ≠ .agg x:=fun x=>(Amc p (by simp) x).1;obtain⟨ZB,My⟩:=boxes Fy;have Dv:cellsOf p=[p]:=by cases p<;>first|rfl|exact absurd rfl (hpa _)
   have Axa:plc p=1:=by cases p<;>first|rfl|exact absurd rfl (hpa _)|exact absurd rfl (Avy _)
   have ZT:cellsOf c=[c]:=by cases c<;>first|rfl|exact absurd rfl (Asm _)
   refine⟨c,bs,hk,by rw[Axa,Sl];exact hl,A4c,fun Er=>by rw[ZT];exact DV (CM Er).2,fun i hi=>It c (by simp) i (by rw[<-KF];exact hi),ZB,fun w A own β' z j0 u hβ ho=>?_⟩
   have OY:Hn w A (own j0) p u:=by cases p<;>first|exact ho|exact absurd rfl (hpa _)|exact absurd rfl (Avy _)
   exact⟨(Zt Asm).2 (DL w A own β' j0 [u] hβ ⟨OY,trivial⟩).1,by rw[Axa];exact My w A own β' j0 [u] hβ ⟨OY,trivial⟩ z⟩
  ·rw[G4] at hk;obtain⟨ps,rfl,hk⟩:=Iv (show Fo _ _=some r from hk);obtain⟨cs,bs,hk,hl,Amc,hF,DV,Fy,It,DL⟩:=Wc shr N hk;obtain⟨ZB,My⟩:=boxes Fy;refine⟨.agg cs,bs,hk,by rw[Sl];exact hl,by simp,fun Er=>DV (CM Er).2,fun i hi=>?_,ZB,fun w A own β' z j0 u hβ ho=>?_⟩
   ·obtain⟨c,hc,hi⟩:=List.mem_flatMap.1 (show i∈cs.flatMap Aw from hi);exact It c hc i hi
   ·obtain⟨vs,rfl,ho⟩:=ho;exact⟨⟨vs,rfl,DL w A own β' j0 vs hβ ho⟩,My w A own β' j0 vs hβ ho z⟩
theorem BL(shr:Bool)(N:Nat):∀{ts:List TypeId}{ps:Al}{id:Nat}{K:Al->List (Nat × Cd)->Option R},DR P shr N id ts ps K=some r ->
  ∃vs bs,K vs bs=some r/\vs.length=ps.length/\(∀v∈vs,∀x,v ≠ .tup x)/\(Ku P ts=false->bs=[]/\∀v∈vs,∀c∈cellsOf v,∃u,c=.sc u)/\(∀v∈vs,∀i∈C5 v,∃bx,(i,bx)∈bs)/\AY bs /\
   ∀(w:World) (A:Nat->Prop) (own β':Bt) (z j0:Nat) (us:List Value),(∀j,(∃bx,(id+N*j,bx)∈bs)->β' (id+N*j)=own (j0+j))->MJ w A own z j0 ps us->Bo (I6 w A β') vs us/\Ahd N id β' w A z (M1 ps) bs
 |[],ps,id,K,hk=>by
  obtain⟨rfl,hk⟩:=Ej hk;refine⟨[],[],hk,rfl,by simp,by simp,by simp,(by intro i cells hm;cases hm),fun w A own β' z j0 us _ h=>?_⟩
  cases us with
  |nil=>exact⟨trivial,by intro i bx hm;cases hm⟩
  |cons u us=>exact h.elim
 |t::ts,ps,id,K,hk=>by
  unfold DR at hk;obtain⟨p,ps',EQ,E6⟩:=Bh hk;subst EQ;clear hk;obtain⟨v,bs,hk,hl,YP,DV,KF,ZB,hv⟩:=Aih shr N E6;obtain⟨vs,bs',hk,hvl,A2v,Asb,hrs,A5w,T8⟩:=BL shr N hk;refine⟨v::vs,bs++bs',hk,by simp[hvl],?_,?_,?_,?_,fun w A own β' z j0 us hβ ho=>?_⟩
  ·intro x hx;rcases List.mem_cons.1 hx with rfl|hx
   ·exact YP
   ·exact A2v x hx
  ·intro Er;simp only[Ku,List.any_cons,Bool.or_eq_false_iff] at Er;obtain⟨h1,h2⟩:=DV (by simp only[Ku,List.any_cons,List.any_nil,Bool.or_false,Bool.or_eq_false_iff];exact Er.1)
   obtain⟨h3,h4⟩:=Asb (by simp only[Ku];exact Er.2)
   refine⟨by rw[h1,h3];rfl,fun x hx=>?_⟩
   rcases List.mem_cons.1 hx with rfl|hx
   ·exact h2
   ·exact h4 x hx
  ·intro x hx i hi;rcases List.mem_cons.1 hx with rfl|hx
   ·obtain⟨bx,hm⟩:=KF i hi;exact⟨bx,by simp[hm]⟩
   ·obtain⟨bx,hm⟩:=hrs x hx i hi;exact⟨bx,by simp[hm]⟩
  ·intro i cells hm c hc i' WF;rcases Bu.1 hm with hm|hm
   ·obtain⟨bx,hb⟩:=ZB i cells hm c hc i' WF;exact⟨bx,by simp[hb]⟩
   ·obtain⟨bx,hb⟩:=A5w i cells hm c hc i' WF;exact⟨bx,by simp[hb]⟩
  ·cases us with
   |nil=>exact ho.elim
   |cons u us=>
    obtain⟨h1,Fy⟩:=hv w A own β' z j0 u (fun j ⟨bx,hm⟩=>hβ j ⟨bx,by simp[hm]⟩) ho.1;have B1:∀j,id+N*RW P t+N*j=id+N*(RW P t+j):=fun j=>by rw[Nat.mul_add];omega
    obtain⟨h2,It⟩:=T8 w A own β' z (j0+plc p) us (fun j ⟨bx,hm⟩=>by rw[B1,hβ _ ⟨bx,by rw[<-B1];simp[hm]⟩,hl];congr 1;omega) ho.2
    refine⟨⟨h1,h2⟩,fun i bx hm=>?_⟩;rcases Bu.1 hm with hm|hm
    ·obtain⟨⟨j,hj,hjn⟩,h4,h5⟩:=Fy i bx hm;exact⟨⟨j,hj,by simp only[M1,Xy,List.sum_cons];omega⟩,h4,h5⟩
    ·obtain⟨⟨j,hj,hjn⟩,h4,h5⟩:=It i bx hm;refine⟨⟨_,by rw[hj,B1],?_⟩,h4,h5⟩;simp only[M1,Xy,List.sum_cons] at hjn ⊢;omega
def EX(N d:Nat)(bs:List (Nat × Cd))(own β:Bt):Bt:=fun i=>if (bs.any fun q=>Nat.beq q.1 i)=true then own ((i-d) / N) else β i
theorem QR{bs:List (Nat × Cd)}{i:Nat}:(bs.any fun q=>Nat.beq q.1 i)=true↔∃bx,(i,bx)∈bs:=by
 rw[List.any_eq_true];constructor
 ·rintro⟨⟨j,bx⟩,hm,e⟩
  have:=D9 e;subst this;exact⟨bx,hm⟩
 ·rintro⟨bx,hm⟩
  exact⟨_,hm,Pz i⟩
theorem Aap{N d j:Nat}(hN:0<N){bs:List (Nat × Cd)}{own β:Bt}(h:∃bx,(d+N*j,bx)∈bs):EX N d bs own β (d+N*j)=own j:=by unfold EX;rw[Bq (QR.2 h),Nat.add_sub_cancel_left,Nat.mul_div_cancel_left _ hN]
theorem TM{c:Call}{f:FuncId}(ho:o.op=.call c)(hc:c.callee=.value (.func f))(L0:NoNG P){fn:Func}(hf:P.funcs[f]?=some fn)(hb:fn.body.isSome=true):
  (execOp a.eval o).run P w=.ok (.enter f (c.args.map a.eval)) w:=by
 unfold execOp;rw[ho]
 have hn:¬fn.body=none:=by
  intro h;rw[h] at hb;cases hb
 have Er:¬fn.name = "runtime.NumGoroutine" :=by simpa using L0 f fn hf
 simp[resolve,hc,Act.eval,Deferred.ofValue,invoke,callFunc,hf,Er,hn]
theorem Acr{c:Call}{t:Nat}{f:FuncId}(ho:o.op=.call c)(hc:c.callee=.value (.tmp t))(ht:a.eval (.tmp t)=.func (.func f) #[] #[])(L0:NoNG P){fn:Func}(hf:P.funcs[f]?=some fn)(hb:fn.body.isSome=true):
  (execOp a.eval o).run P w=.ok (.enter f (c.args.map a.eval)) w:=by
 unfold execOp;rw[ho]
 have hn:¬fn.body=none:=by
  intro h;rw[h] at hb;cases hb
 have Er:¬fn.name = "runtime.NumGoroutine" :=by simpa using L0 f fn hf
 simp[resolve,hc,ht,Deferred.ofValue,invoke,callFunc,hf,Er,hn]
theorem DZ{A':Nat->Prop}(k:Bool):∀{xs:List Operand}{ps:Al},Bo (Tl w A') ps (xs.map a.eval)->Bo (Tl w A') (Kp k xs ps) (xs.map a.eval)
 |[],[],h=>h
 |[],_::_,h=>h
 |_::_,[],h=>h
 |x::xs,p::ps,h=>by
  simp only[Xy] at h ⊢;refine⟨?_,DZ k h.2⟩;split
  ·exact⟨trivial,A3.lnil _ _⟩
  ·exact h.1
theorem IR(h : Dl N w0 X0 Y β s a w){G : Yl}(L0 : SK P G w0 X0){C : H2}{call : A7}(Es : ∀ f args res, call f args = some res -> Eb G P f args res){c : Call}{f : FuncId}(Dh : ∀ {fn : Func}, P.funcs[f]? = some fn -> fn.body.isSome = true -> (execOp a.eval o).run P w = .ok (.enter f (c.args.map a.eval)) w){K : PV -> B8 -> List (Nat × Cd) -> Option R}(hk : (GD P (Kq s.hp) (IW P f c) (c.args.toList.map (Cm s.tm)) fun vs m =>
          Ah (call f (Kp (C.kz f) c.args.toList vs)) fun rv ro => Af ro (A6 (Nat.blt 0 N) <| DR P (C.shr f) N (o.dst.getD 0) (Pr P o.type) rv fun ws bs =>
            A6 (bif Qi P o.type then !Nat.beq ws.length 1 else Nat.beq ws.length 1) <| K (Oj ws (Qi P o.type)) (bif Ku P (Pr P o.type) then m else []) bs)) = some r): ∃ v fz nw, K v fz nw = some r /\ HP P a w o Y β s v fz nw := by
  obtain⟨ps, m, hk, hm, Ga⟩ := MI h hk
  replace Ga := fun fz h1 h2 => DZ (a := a) (C.kz f) (Ga fz h1 h2)
  generalize Kp (C.kz f) c.args.toList ps = ps at hk Ga
  obtain⟨rv, ro, Mz, hk⟩ := NM hk
  obtain⟨rfl, hk⟩ := Ej hk
  obtain⟨hN, hk⟩ := Aq hk
  have hN : 0 < N := Nat.lt_of_succ_le (Rc hN)
  obtain⟨ws, bs, hk, QT, YP, DV, hrs, ZB, hws⟩ := BL (C.shr f) N hk
  obtain⟨Rm, hk⟩ := Aq hk
  obtain⟨⟨fn, hfn, hfb⟩, EV⟩ := Es f ps _ Mz
  obtain⟨fz, CY, hfm⟩ : ∃ fz : B8, fz = (bif Ku P (Pr P o.type) then m else []) /\ ∀ id ∈ fz, ∃ f c, s.hp id = some (.ar f c) := by
    refine⟨_, rfl, fun id B1 => ?_⟩
    cases hh : Ku P (Pr P o.type) <;> rw[hh] at B1
    · cases B1
    · exact hm id B1
  rw[<- CY] at hk
  refine⟨_, _, _, hk, hfm, fun next Q hn => ?_⟩
  have hf := h.freeze hfm
  have hYc : ∃ Yc : Nat -> Prop, (∀ b, Yc b -> b < w.heap.size) /\ Bo (Tl w Yc) ps (c.args.toList.map a.eval) /\ ((∀ b, D2 (Aj s.hp fz) β Y b -> Yc b) \/ Ku P (Pr P o.type) = false) := by
    have M9 := Ga m (fun _ hi => hi) hm
    cases hh : Ku P (Pr P o.type)
    · exact⟨fun _ => False, fun _ x => x.elim, M9.mono fun _ _ hx => hx.weaken (fun _ _ x => x.elim), .inr rfl⟩
    · rw[hh] at CY
      have CY : fz = m := CY
      subst CY
      refine⟨D2 (Aj s.hp fz) β Y, fun b hb => ?_, M9, .inl fun _ x => x⟩
      rcases hb with⟨id, ob, hl, hβ⟩ | hY
      · exact hf.blt id b ob (Dr hl) hβ
      · exact Gy (h.Ylt b hY) h.fr.step.size
  obtain⟨Yc, Ayw, hYargs, hYA⟩ := hYc
  unfold Oper.wp
  rw[Dh hfn hfb]
  show Calls P f _ w _
  have hca : c.args.map a.eval = (c.args.toList.map a.eval).toArray := by rw[<- List.map_toArray, Array.toArray_toList]
  rw[hca]
  refine (EV w Yc VO _ (UZ Ayw hYargs) (L0.fr w h.fr) (fun b x => ⟨Gy (L0.y b x).1 h.fr.step.size, Rl b⟩)).mono ?_
  rintro e w' ⟨vs, own, rfl, Ys⟩
  refine hn (Jc vs) w' fun Rh => ⟨EX N (o.dst.getD 0) bs own β, ?_⟩
  obtain⟨ha1, Sm⟩ := B2 Rh
  have Af2 : ∀ i bx, (i, bx) ∈ bs -> Aj s.hp fz i = none := fun i bx hm => E2.2 (ha1 i bx hm)
  obtain⟨hg1, hg2⟩ := Fh (hp := Aj s.hp fz) Sm
  have hold : ∀ i, Aj s.hp fz i ≠ none -> EX N (o.dst.getD 0) bs own β i = β i := by
    intro i hi
    unfold EX
    rw[Bg]
    intro hx
    obtain⟨bx, hm⟩ := QR.1 hx
    exact hi (Af2 i bx hm)
  obtain⟨T8, hba⟩ := hws w' _ own (EX N (o.dst.getD 0) bs own β) w.heap.size 0 vs (fun j hj => by rw[Aap hN hj, Ob]) Ys.vals
  have Xu : ∀ i bx, (i, bx) ∈ bs -> ∃ j, i = o.dst.getD 0 + N * j /\ EX N (o.dst.getD 0) bs own β i = own j := by
    intro i bx hm
    obtain⟨⟨j, rfl, _⟩, _, _⟩ := hba i bx hm
    exact⟨j, rfl, Aap hN ⟨bx, hm⟩⟩
  have hAA : Ku P (Pr P o.type) = false \/ ∀ b, D2 (Ax (Aj s.hp fz) bs) (EX N (o.dst.getD 0) bs own β) Y b -> FY VO own Yc b := by
    rcases hYA with hYA | hYA
    · refine .inr fun b hb => ?_
      rcases hb with⟨i, ob, hl, hβ⟩ | hY
      · by_cases hi : ∃ bx, (i, bx) ∈ bs
        · obtain⟨bx, hm⟩ := hi
          obtain⟨j, _, h3⟩ := Xu i bx hm
          rw[h3] at hβ
          exact .inl ⟨j, ob, hβ⟩
        · rw[hg2 i (fun bx hm => hi ⟨bx, hm⟩)] at hl
          rw[hold i (Dr hl)] at hβ
          exact .inr (.inr (hYA b (.inl ⟨i, ob, hl, hβ⟩)))
      · exact .inr (.inr (hYA b (.inr hY)))
    · exact .inl hYA
  have hval : Fk w' (D2 (Ax (Aj s.hp fz) bs) (EX N (o.dst.getD 0) bs own β) Y) (EX N (o.dst.getD 0) bs own β) (Oj ws (Qi P o.type)) (Jc vs) := by
    have M9 : Bo (I6 w' (D2 (Ax (Aj s.hp fz) bs) (EX N (o.dst.getD 0) bs own β) Y) (EX N (o.dst.getD 0) bs own β)) ws vs := by
      rcases hAA with PC | hAA
      · obtain⟨_, VY⟩ := DV PC
        refine T8.mono_mem fun v hv u hvu => ?_
        have VY := VY v hv
        cases v with
        | agg cs =>
          obtain⟨xs, rfl, KH⟩ := hvu
          refine⟨xs, rfl, KH.mono_mem fun cc ZT x hx => ?_⟩
          obtain⟨y, rfl⟩ := VY cc ZT
          have := A3.val (w := w') hx
          subst this
          exact A3.sc _
        | sc y =>
          have := A3.val (w := w') hvu
          subst this
          exact A3.sc _
        | lst z es n cc => obtain⟨y, hy⟩ := VY _ (Qw _); cases hy
        | own es n cc => obtain⟨y, hy⟩ := VY _ (Qw _); cases hy
        | view i es n cc => obtain⟨y, hy⟩ := VY _ (Qw _); cases hy
        | ptr i cc => obtain⟨y, hy⟩ := VY _ (Qw _); cases hy
        | iptr i cc => obtain⟨y, hy⟩ := VY _ (Qw _); cases hy
        | pbox cc => obtain⟨y, hy⟩ := VY _ (Qw _); cases hy
        | tup cc => obtain⟨y, hy⟩ := VY _ (Qw _); cases hy
        | top => obtain⟨y, hy⟩ := VY _ (Qw _); cases hy
        | ub => obtain⟨y, hy⟩ := VY _ (Qw _); cases hy
      · exact T8.mono fun v u hvu => hvu.step (Cy.refl _ _) (fun b _ => hAA b) (fun _ _ => rfl)
    have Do := M9.len
    cases hT : Qi P o.type
    · rw[hT] at Rm
      have h1 : ws.length = 1 := D9 Rm
      match ws, vs, h1, Do with
      | [v], [u], _, _ =>
        exact (Qf (YP v (by simp))).2 M9.1
    · rw[hT] at Rm
      have h1 : ¬ ws.length = 1 := by
        intro e
        rw[e] at Rm
        cases Rm
      have hr : Jc vs = .tuple ⟨vs⟩ := by
        unfold Jc
        split
        · simp at Do; omega
        · rfl
      rw[hr]
      exact⟨vs, rfl, M9⟩
  refine⟨Ys.os, Ys.tape, Ys.output, Ys.ext.weaken (fun b _ hb => Rl b hb), hold, ?_, ?_, ?_, ?_, ?_, hval, ?_⟩
  · intro i bx hm
    exact (hba i bx hm).2.1
  · intro i bx hm
    rcases hAA with PC | hAA
    · rw[(DV PC).1] at hm; cases hm
    · exact (hba i bx hm).2.2.1.step' hAA
  · intro i bx b ob hm hβ
    obtain⟨j, _, h3⟩ := Xu i bx hm
    rw[h3] at hβ
    obtain⟨h4, h5⟩ := Ys.fresh j b ob hβ
    refine⟨?_, h4⟩
    rcases Ht b w.heap.size with h | h
    · obtain⟨⟨_, _, _, h6⟩, _⟩ := h5 h
      cases h6
    · exact h
  · intro i bx i' bx' b ob ob' hm Jw hβ hβ'
    obtain⟨j, h1, h3⟩ := Xu i bx hm
    obtain⟨j', OO, h3'⟩ := Xu i' bx' Jw
    rw[h3] at hβ
    rw[h3'] at hβ'
    rw[h1, OO, Ys.inj j j' b ob ob' hβ hβ']
  · intro i cells hm c hc i' WF
    exact .inr (ZB i cells hm c hc i' WF)
  · intro i hi
    right
    cases hT : Qi P o.type
    · rw[hT] at Rm hi
      have h1 : ws.length = 1 := D9 Rm
      match ws, h1 with
      | [v], _ =>
        refine hrs v (by simp) i ?_
        have : Ch v = C5 v := by
          have hn := YP v (by simp)
          cases v <;> first | rfl | exact absurd rfl (hn _)
        rw[<- this]
        exact hi
    · rw[hT] at hi
      obtain⟨v, hv, hi⟩ := List.mem_flatMap.1 (show i ∈ ws.flatMap C5 from hi)
      exact hrs v hv i hi
end
open Go.RowKit
section
variable {R:Type}{r:R}{P:Program}{N:Nat}{w0:World}{X0:Jb}{Y:Nat->Prop}{β β':Bt}{s:St}{a:Act}{w w':World}{o:Oper}{A:Nat->Prop}
theorem Dl.move(h:Dl N w0 X0 Y β s a w){id d:Nat}{c cells:Al}{bo:Option (Nat × Nat)}{v:PV}{val:Value}(h0:s.hp id=some (.ar false c))(hd:s.hp d=none)(hdN:d<N)(hos:w'.os=w.os)(htp:w'.tape=w.tape)(Ys:w'.output=w.output)(TE:w.heap.size<=w'.heap.size)(Ml:∀k,k<w.heap.size->(∀x,β id≠some (k,x))->w'.heap[k]?=w.heap[k]?)(KM:∀k,k<w.heap.size->Iw w w' k)(OQ:∀k x,bo=some (k,x)->k<w'.heap.size/\(w.heap.size<=k\/∃y,β id=some (k,y)))(RK:∀k x,bo=some (k,x)->k<w.heap.size->β id=some (k,x))(hO:∀k y,β id=some (k,y)->k<w.heap.size->∀j,j<y->w'.cell? ⟨k,j,none⟩=w.cell? ⟨k,j,none⟩/\w'.frozen? ⟨k,j,none⟩=w.frozen? ⟨k,j,none⟩)(My:Tg w' (D2 (Di (Di s.hp id (some .mv)) d (some (.ar false cells))) (Di β d bo) Y) (Di β d bo) d (.ar false cells))(hv:Fk w' (D2 (Di (Di s.hp id (some .mv)) d (some (.ar false cells))) (Di β d bo) Y) (Di β d bo) v val)(hr:∀i∈Ch v,i=d):
  Dl N w0 X0 Y (Di β d bo) ⟨Di s.tm d v,Di (Di s.hp id (some .mv)) d (some (.ar false cells))⟩ (a.put (some d) val) w':=by
 have Er:id≠d:=by rintro rfl;rw[h0] at hd;cases hd
 have RX:∀i,i≠id->i≠d->Di (Di s.hp id (some Cd.mv)) d (some (.ar false cells)) i=s.hp i:=fun i h1 h2=>by rw[Ap _ _ h2,Ap _ _ h1]
 have Ak1:Di (Di s.hp id (some Cd.mv)) d (some (.ar false cells)) id=some .mv:=by rw[Ap _ _ Er,At]
 have hgd:Di (Di s.hp id (some Cd.mv)) d (some (.ar false cells)) d=some (.ar false cells):=At _ _ _
 have Jo:∀i,s.hp i≠none->Di (Di s.hp id (some Cd.mv)) d (some (.ar false cells)) i≠none:=by
  intro i hi;by_cases e:i=id
  ·subst e;rw[Ak1];simp
  ·by_cases e':i=d
   ·subst e';rw[hgd];simp
   ·rw[RX i e e'];exact hi
 have hβo:∀i,s.hp i≠none->Di β d bo i=β i:=fun i hi=>Ap _ _ (by rintro rfl;exact hi hd)
 have VG:D1 (s.hp id):=by rw[h0];trivial
 have Hu:∀i,D1 (Di (Di s.hp id (some Cd.mv)) d (some (.ar false cells)) i)->i=d\/(i≠id/\i≠d/\D1 (s.hp i)):=by
  intro i hi;by_cases e':i=d
  ·exact .inl e'
  ·by_cases e:i=id
   ·subst e;rw[Ak1] at hi;exact hi.elim
   ·rw[RX i e e'] at hi;exact .inr ⟨e,e',hi⟩
 have hX:∀k,k<w.heap.size->OT (Di (Di s.hp id (some .mv)) d (some (.ar false cells))) (Di β d bo) k->OT s.hp β k:=by
  rintro k hk ⟨i,x,hl,hβ⟩
  rcases Hu i hl with rfl|⟨e,e',hl⟩
  ·rw[At] at hβ;rcases (OQ k x hβ).2 with M0|⟨y,hy⟩
   ·omega
   ·exact⟨id,y,VG,hy⟩
  ·rw[Ap _ _ e'] at hβ;exact⟨i,x,hl,hβ⟩
 have hAo:∀k,k<w.heap.size->D2 (Di (Di s.hp id (some .mv)) d (some (.ar false cells))) (Di β d bo) Y k->D2 s.hp β Y k:=fun k hk hx=>hx.imp (hX k hk) (fun y=>y);have Hf:Cy (D2 s.hp β Y) w w':=⟨TE,fun k hk hn=>Ml k hk fun x hx=>hn (.inl ⟨id,x,VG,hx⟩),KM⟩
 have Afj:∀i k x,i≠id->i≠d->(∃b,s.hp i=some b/\b ≠ .mv)->β i=some (k,x)->k<w.heap.size/\w'.heap[k]?=w.heap[k]?:=by
  rintro i k x e e' ⟨b,hb,hmv⟩ hβ
  have hk:=h.blt i k x (by rw[hb];simp) hβ
  refine⟨hk,Ml k hk fun y hy=>?_⟩;have Aby:=h.box i b hb;cases b with
  |st cc=>exact e (h.inj i id k x y (by rw[hb];trivial) VG hβ hy)
  |ar fz cc=>
   cases fz with
   |false=>exact e (h.inj i id k x y (by rw[hb];trivial) VG hβ hy)
   |true=>
    rcases Aby with⟨h1,_⟩|⟨k',x',h1,_,_,h4⟩
    ·rw[hβ] at h1;cases h1
    ·rw[hβ] at h1;simp at h1;obtain⟨rfl,rfl⟩:=h1
     exact h4 rfl (.inl ⟨id,y,VG,hy⟩)
  |mv=>exact absurd rfl hmv
 refine⟨by rw[S5];exact h.dfr,by rw[Zq];exact h.tsz,?_,?_,?_,?_,?_,?_,?_,?_,?_,?_,?_,?_,h.Ylt,?_⟩
 ·intro i hi;show Di s.tm d v i=_;rw[Ap _ _ (by omega)];exact h.tmo i hi
 ·refine Qb (d:=some d) (Q:=fun _ p u=>Fk w' (D2 (Di (Di s.hp id (some .mv)) d (some (.ar false cells))) (Di β d bo) Y) (Di β d bo) p u) h.tsz (by simp[Hm,Nat.blt];omega) (fun i hi=>?_) (fun _=>hv)
  exact (h.tms i hi).step Hf hAo fun j hj=>hβo j (h.wfT i hi j hj)
 ·intro i bi hb;simp only at hb;by_cases e':i=d
  ·subst e';rw[hgd] at hb;cases hb;exact My
  ·by_cases e:i=id
   ·subst e;rw[Ak1] at hb;cases hb;trivial
   ·rw[RX i e e'] at hb;have hβi:=hβo i (by rw[hb];simp)
    have FA:=h.box i bi hb;cases bi with
    |st cc=>
     obtain⟨k,x,h1,h2,h3⟩:=FA;obtain⟨hk,Rj⟩:=Afj i k x e e' ⟨_,hb,by simp⟩ h1;refine⟨k,x,by rw[hβi];exact h1,fun j p hj=>?_,fun j hj=>?_⟩
     ·obtain⟨u,hu,hc⟩:=h2 j p hj;exact⟨u,by rw[World.cell?_of_block (w:=w) Rj];exact hu,hc.step Hf hAo fun q hq=>hβo q (h.wfB i cc hb p (List.mem_of_getElem? hj) q hq)⟩
     ·rw[World.frozen?_of_block (w:=w) Rj];exact h3 j hj
    |ar fz cc=>
     rcases FA with⟨h1,h2⟩|⟨k,x,h1,h2,h3,h4⟩
     ·exact .inl ⟨by rw[hβi];exact h1,h2⟩
     ·obtain⟨hk,Rj⟩:=Afj i k x e e' ⟨_,hb,by simp⟩ h1;refine .inr ⟨k,x,by rw[hβi];exact h1,fun j p hj=>?_,fun ef j hj Uf=>?_,fun ef hx=>h4 ef (hAo k hk hx)⟩
      ·obtain⟨u,hu,h5,hc⟩:=h2 j p hj;exact⟨u,by rw[World.cell?_of_block (w:=w) (by rw[F6];exact Rj)];exact hu,h5,hc.step Hf hAo⟩
      ·rw[World.frozen?_of_block (w:=w) Rj];refine h3 ef j hj ?_;unfold bsz at Uf ⊢;rw[Rj] at Uf;exact Uf
    |mv=>trivial
 ·intro i i' k x y hl Lp hb Jf;simp only at hl Lp
  have key:∀j z,j≠id->j≠d->D1 (s.hp j)->β j=some (k,z)->bo=some (k,y)\/bo=some (k,x)->False:=by
   intro j z e e' hlj hβj hbk;have hk:=h.blt j k z (Dr hlj) hβj;have:∃t,bo=some (k,t):=by rcases hbk with q|q<;>exact⟨_,q⟩
   obtain⟨t,ht⟩:=this;rcases (OQ k t ht).2 with M0|⟨q,hq⟩
   ·omega
   ·exact e (h.inj j id k z q hlj VG hβj hq)
  rcases Hu i hl with rfl|⟨e,e',hl0⟩
  ·rcases Hu i' Lp with rfl|⟨e2,e2',Ard⟩
   ·rfl
   ·rw[At] at hb;rw[Ap _ _ e2'] at Jf;exact (key i' y e2 e2' Ard Jf (.inr hb)).elim
  ·rcases Hu i' Lp with rfl|⟨e2,e2',Ard⟩
   ·rw[At] at Jf;rw[Ap _ _ e'] at hb;exact (key i x e e' hl0 hb (.inl Jf)).elim
   ·rw[Ap _ _ e'] at hb;rw[Ap _ _ e2'] at Jf;exact h.inj i i' k x y hl0 Ard hb Jf
 ·intro i k x hi hb;simp only at hi;by_cases e':i=d
  ·subst e';rw[At] at hb;exact (OQ k x hb).1
  ·rw[Ap _ _ e'] at hb
   have WF:s.hp i≠none:=by
    by_cases e:i=id
    ·subst e;rw[h0];simp
    ·rw[RX i e e'] at hi;exact hi
   exact Gy (h.blt i k x WF hb) TE
 ·have:=Qb (d:=some d) (Q:=fun _ p _=>∀j∈Ch p,Di (Di s.hp id (some Cd.mv)) d (some (.ar false cells)) j≠none) (val:=val) (v:=v) h.tsz (by simp[Hm,Nat.blt];omega) (fun i hi j hj=>Jo j (h.wfT i hi j hj)) (fun _ j hj=>by
   rw[hr j hj,hgd];simp)
  exact this
 ·intro i cc hc p hp j hj;simp only at hc;by_cases e':i=d
  ·subst e';rw[hgd] at hc;cases hc
  ·by_cases e:i=id
   ·subst e;rw[Ak1] at hc;cases hc
   ·rw[RX i e e'] at hc;exact Jo j (h.wfB i cc hc p hp j hj)
 ·rintro k ⟨i,x,hl,hβ⟩
  rcases Hu i hl with rfl|⟨e,e',hl⟩
  ·rw[At] at hβ;rcases (OQ k x hβ).2 with M0|⟨y,hy⟩
   ·exact .inr (Nat.le_trans h.fr.step.size M0)
   ·exact h.ownd k ⟨id,y,VG,hy⟩
  ·rw[Ap _ _ e'] at hβ;exact h.ownd k ⟨i,x,hl,hβ⟩
 ·intro i bi k x FA hli hβ Cx j hj;simp only at FA;rcases Hu i (by rw[FA];exact hli) with rfl|⟨e,e',hl⟩
  ·rw[At] at hβ;rw[hgd] at FA;cases FA;have:=RK k x hβ (Gy Cx h.fr.step.size);exact h.rngB id (.ar false c) k x h0 trivial this Cx j hj
  ·rw[RX i e e'] at FA;rw[Ap _ _ e'] at hβ;exact h.rngB i bi k x FA hli hβ Cx j hj
 ·intro i hi;exact⟨Jo _ (h.pin i hi).1,by rw[hβo _ (h.pin i hi).1];exact (h.pin i hi).2⟩
 ·intro i cc k x FA hβ Cx;simp only at FA;rcases Hu i (by rw[FA];trivial) with rfl|⟨e,e',hl⟩
  ·rw[hgd] at FA;cases FA
  ·rw[RX i e e'] at FA;rw[Ap _ _ e'] at hβ;exact h.stp i cc k x FA hβ Cx
 ·intro k hY hx;exact h.Yx k hY (hX k (Gy (h.Ylt k hY) h.fr.step.size) hx)
 ·refine⟨hos.trans h.fr.os,htp.trans h.fr.tape,Ys.trans h.fr.output,⟨Nat.le_trans h.fr.step.size TE,fun k hk hnk=>?_,fun k hk=>(h.fr.step.bs k hk).trans (KM k (Gy hk h.fr.step.size))⟩,fun k j hk hL=>?_⟩
  ·rw[Ml k (Gy hk h.fr.step.size) ?_]
   ·exact h.fr.step.keep k hk hnk
   ·intro x hx;rcases h.ownd k ⟨id,x,VG,hx⟩ with hq|hq
    ·exact hnk hq
    ·omega
  ·have hkw:=Gy hk h.fr.step.size
   have EE:w'.cell? ⟨k,j,none⟩=w.cell? ⟨k,j,none⟩/\w'.frozen? ⟨k,j,none⟩=w.frozen? ⟨k,j,none⟩:=by
    by_cases e:∃y,β id=some (k,y)
    ·obtain⟨y,hy⟩:=e;refine hO k y hy hkw j ?_;rcases Ht j y with q|q
     ·exact q
     ·exact absurd (h.rngB id (.ar false c) k y h0 trivial hy hk j q) hL
    ·have Rj:=Ml k hkw (fun x hx=>e ⟨x,hx⟩);exact⟨World.cell?_of_block (w:=w) Rj,World.frozen?_of_block (w:=w) Rj⟩
   rw[EE.1,EE.2];exact h.fr.rng k j hk hL
end
open Go.RowKit
section
variable {R:Type}{r:R}{P:Program}{N:Nat}{w0:World}{X0:Jb}{Y:Nat->Prop}{β β':Bt}{s:St}{a:Act}{w w':World}{o:Oper}{A:Nat->Prop}
structure Src(P:Program)(w:World)(A:Nat->Prop)(size:Nat)(xv:Value)(m:Nat)(new:Al)(news:List Value):Prop where
 len:∀w':World,(Builtin.lenOf xv).run P w'=.ok m w'
 cells:∀w':World,(∀b,b<w.heap.size->w'.heap[b]?=w.heap[b]?)->(Builtin.firstCells size m xv).run P w'=.ok news.toArray w'
 part:∀k,k<=m->(Builtin.firstCells size k xv).run P w=.ok (news.take (k*size)).toArray w
 one:∀u∈news,u.oneCell'=true
 rep:Bo (A3 w A) new news
theorem HH(h:Dl N w0 X0 Y β s a w){e tx:TypeId}{x:Operand}{K:Nat->Al->Option R}(hk:XL P s (Bj P e) tx (Cm s.tm x) K=some r)(h1c:∀m new,K m new=some r->new.length=m*Bj P e):
  (∃d,P.underlying tx=some d/\(∀k,d ≠ .int k))/\∃m new news,K m new=some r/\Src P w (D2 s.hp β Y) (Bj P e) (a.eval x) m new news:=by
 unfold XL XN at hk;split at hk
 ·rename_i hu;obtain⟨Tr,hk⟩:=Aq hk;have Tr:=D9 Tr;obtain⟨b,hx,hk⟩:=Eg hk;have D7:=Cv h hx;refine⟨⟨_,hu,by simp⟩,b.size,Ro b,b.data.toList.map (fun y=>Value.int .u8 y.toNat),hk,?_,?_,?_,?_,?_⟩
  ·intro w';rw[D7];rfl
  ·intro w' _;rw[D7]
   have hx:b.data.extract 0 b.size=b.data:=by
    have:b.size=b.data.size:=rfl;rw[this,Array.extract_size]
   have hd:(b.extract 0 b.size).data=b.data:=by
    rw[ByteArray.extract_zero_size]
   simp only[Builtin.firstCells,hd];rw[<-Array.toList_map,Array.toArray_toList];rfl
  ·intro k M0;rw[D7,Tr,KJ];have hd:(b.extract 0 k).data=b.data.extract 0 k:=ByteArray.data_extract
   have e1:(b.data.extract 0 k).map (fun y=>Value.int .u8 y.toNat)=((b.data.toList.map fun y=>Value.int .u8 y.toNat).take k).toArray:=by
    apply Array.toList_inj.1;simp[List.map_take]
   simp only[Builtin.firstCells,hd];rw[e1];rfl
  ·intro u hu;simp at hu;obtain⟨y,_,rfl⟩:=hu;rfl
  ·unfold Ro;generalize b.data.toList=l
   induction l with
   |nil=>trivial
   |cons y l ih=>exact⟨A3.sc _,ih⟩
 ·rename_i e' hu;refine⟨⟨_,hu,by simp⟩,?_⟩;obtain⟨m,new,hk,hc⟩:=JJ h hk;have Do:=h1c m new hk;rcases hc with⟨⟨ad,D7⟩,rfl,rfl⟩|⟨ad,cap,D7,hn,Cx,hrd⟩
  ·have f0:∀w':World,(Builtin.firstCells (Bj P e) 0 (.slice ad 0 0)).run P w'=.ok #[] w':=fun w'=>by
    cases ad with
    |none=>rfl
    |some p=>exact run_firstCells_some (P:=P) w' (Bj P e) 0 p 0 0 [] (by simp) (fun j v hj=>by simp at hj)
   exact⟨0,[],[],hk,fun w'=>by rw[D7];rfl,fun w' _=>by rw[D7];exact f0 w',fun k M0=>by rw[D7,Nat.le_zero.1 M0,List.take_nil];exact f0 w,by simp,trivial⟩
  ·refine⟨m,new,new.mapIdx (fun j _=>(w.cell? (ad.add j)).getD undef),hk,fun w'=>by rw[D7];rfl,fun w' hw=>?_,fun k M0=>?_,?_,?_⟩
   ·rw[D7];refine run_firstCells_some (P:=P) w' (Bj P e) m ad m cap _ (by simp[Do]) fun j v hj=>?_;rw[List.getElem?_mapIdx] at hj;cases hc:new[j]? with
    |none=>rw[hc] at hj;cases hj
    |some c=>
     rw[hc] at hj;simp at hj;obtain⟨u,hu,_⟩:=hrd j c hc;rw[hu] at hj;simp at hj;subst hj;have Cx:ad.block<w.heap.size:=by rcases Cx with rfl|Cx<;>first|exact Cx|simp at hc
     rw[World.cell?_of_block (w:=w) (by rw[F6];exact hw _ Cx)]
     exact hu
   ·rw[D7];have hkm:k*Bj P e<=m*Bj P e:=Nat.mul_le_mul_right _ M0;refine run_firstCells_some (P:=P) w (Bj P e) k ad m cap _ (by rw[List.length_take,List.length_mapIdx,Do];omega) fun j v hj=>?_
    rw[List.getElem?_take] at hj;split at hj
    ·rw[List.getElem?_mapIdx] at hj;cases hc:new[j]? with
     |none=>rw[hc] at hj;cases hj
     |some c=>
      rw[hc] at hj;simp at hj;obtain⟨u,hu,_⟩:=hrd j c hc;rw[hu] at hj;simp at hj;subst hj;exact hu
    ·cases hj
   ·intro u hu;obtain⟨j,hj⟩:=List.mem_iff_getElem?.1 hu;rw[List.getElem?_mapIdx] at hj;cases hc:new[j]? with
    |none=>rw[hc] at hj;cases hj
    |some c=>
     rw[hc] at hj;simp at hj;obtain⟨v,hv,h2,ht⟩:=hrd j c hc;rw[hv] at hj;simp at hj;subst hj;exact h2
   ·refine Bo.of_at (by simp) fun j c v hc hj=>?_;rw[List.getElem?_mapIdx,hc] at hj;simp at hj;obtain⟨u,hu,_,ht⟩:=hrd j c hc;rw[hu] at hj;simp at hj;subst hj;exact ht
 ·cases hk
theorem HC{e:TypeId}(h:PD P e=true):∃i z,P.info? e=some i/\i.zero=some z/\z.cells.size=i.size/\Bj P e=i.size:=by
 unfold PD at h;split at h
 ·rename_i i hi;split at h
  ·rename_i z hz;exact⟨i,z,hi,hz,D9 h,by simp[Bj,hi]⟩
  ·cases h
 ·cases h
theorem EM{es n cap:Nat}{ad:Option Addr}{olds:List Value}(h:(ad=none/\olds=[])\/∃p,ad=some p/\olds.length=n*es/\∀(j:Nat) v,olds[j]?=some v->w.cell? (p.add j)=some v):
  (Builtin.firstCells es n (.slice ad n cap)).run P w=.ok olds.toArray w:=by
 rcases h with⟨rfl,rfl⟩|⟨p,rfl,hl,hc⟩
 ·rfl
 ·exact run_firstCells_some (P:=P) w es n p n cap olds hl hc
theorem M5{t tx ty e:TypeId}{i:TypeInfo}{z:Value}{d:TypeDesc}{ts:List TypeId}(ht:P.underlying t=some (.slice e))(htx:P.underlying tx=some d)(hd:∀k,d ≠ .int k)(hi:P.info? e=some i)(hz:i.zero=some z){ad:Option Addr}{n cap m:Nat}{xv:Value}{olds news:List Value}{A:Nat->Prop}{new:Al}(hs:Src P w A i.size xv m new news)(hold:(ad=none/\olds=[])\/∃p,ad=some p/\olds.length=n*i.size/\∀(j:Nat) v,olds[j]?=some v->w.cell? (p.add j)=some v)(hg:cap<n+m)(hb:(n+m)*i.bytes<=1099511627776)(h63:n+m<=1099511627776):
  (Builtin.append_ (t::tx::ts).toArray ty #[.slice ad n cap,xv]).run P w =
   .ok (.slice (some ⟨w.heap.size,0,none⟩) (n+m) (grownCap w (n+m) cap e)) (w.drew.alloc (.cells (olds.toArray++news.toArray++Builtin.zeroCells z.cells (grownCap w (n+m) cap e-(n+m))) e)):=by
 have h1:=hs.len w;have h2:(Builtin.firstCells i.size m xv).run P w.drew=.ok news.toArray w.drew:=hs.cells w.drew (fun _ _=>rfl)
 have h3:(Builtin.firstCells i.size n (.slice ad n cap)).run P w.drew=.ok olds.toArray w.drew:=EM (w:=w.drew) (by
  rcases hold with hh|⟨p,hp,hl,hc⟩
  ·exact .inl hh
  ·exact .inr ⟨p,hp,hl,fun j v hj=>hc j v hj⟩)
 have Awr:=growslice_fits (need:=n+m) (old:=cap) (bytes:=i.bytes) hg (by omega);have hn:¬(n+m<=cap):=by omega
 have Ak3:¬(9223372036854775807<((n:Int)+(m:Int))):=by omega
 have Al5:¬(281474976710656<Builtin.nextslicecap (n+m) cap*i.bytes):=by omega
 have HR:(match d with | .int _=>true|_=>false)=false:=by cases d<;>first|rfl|exact absurd rfl (hd _)
 simp[Builtin.append_,run_underlying ht,run_underlying htx,HR,sizeOf,typeInfo,zeroValue,hi,hz,h1,hn,Ak3,Al5,Question.forced,h2,h3,newRow,grownCap]
 congr 2
 apply Array.ext';simp[Zzv]
theorem FC{t tx ty e:TypeId}{i:TypeInfo}{d:TypeDesc}{ts:List TypeId}(ht:P.underlying t=some (.slice e))(htx:P.underlying tx=some d)(hd:∀k,d ≠ .int k)(hi:P.info? e=some i){b ob n cap m:Nat}{xv:Value}{news:List Value}{A:Nat->Prop}{new:Al}(hs:Src P w A i.size xv m new news)(hl:news.length=m*i.size)(Dv:∀k,k<news.length->(w.cell? ⟨b,ob+n*i.size+k,none⟩).isSome=true)(hfr:∀k,k<news.length->w.frozen? ⟨b,ob+n*i.size+k,none⟩=false)(hg:n+m<=cap):
  (Builtin.append_ (t::tx::ts).toArray ty #[.slice (some ⟨b,ob,none⟩) n cap,xv]).run P w=.ok (.slice (some ⟨b,ob,none⟩) (n+m) cap) (w.setCells b (ob+n*i.size) news):=by
 have h1:=hs.len w;have h2:(Builtin.firstCells i.size m xv).run P w=.ok news.toArray w:=hs.cells w (fun _ _=>rfl);have h3:=run_storeCells_cells (P:=P) b (ob+n*i.size) news 0 w (fun k hk=>by simpa using Dv k hk) (fun k hk=>by simpa using hfr k hk) hs.one;have HR:(match d with | .int _=>true|_=>false)=false:=by cases d<;>first|rfl|exact absurd rfl (hd _)
 have _:=hl;simp[Builtin.append_,run_underlying ht,run_underlying htx,HR,sizeOf,typeInfo,hi,h1,hg,h2,Ft];rw[h3];simp
theorem VA{t ty e:TypeId}{i:TypeInfo}{ts:List TypeId}(ht:P.underlying t=some (.slice e))(hi:P.info? e=some i){ad:Option Addr}{n cap m:Nat}{xv:Value}{news:List Value}{A:Nat->Prop}{new:Al}(hs:Src P w A i.size xv m new news){w1:World}(Hf:(match ad with|some p=>storeCells p (news.take (min m n*i.size)) 0|none=>pure ()).run P w=.ok () w1):
  (Builtin.copy_ (t::ts).toArray ty #[.slice ad n cap,xv]).run P w=.ok (goInt ((min m n:Nat):Int)) w1:=by
 have h1:=hs.len w;have h2:=hs.part (min m n) (Nat.min_le_left _ _);have e:Nat.min m n=min m n:=rfl;generalize min m n=k at *
 cases ad with
 |none=>
  simp only at Hf;simp[Builtin.copy_,run_underlying ht,sizeOf,typeInfo,hi,h1,h2,e]
  simpa using Hf
 |some p=>
  simp only at Hf;simp[Builtin.copy_,run_underlying ht,sizeOf,typeInfo,hi,h1,h2,e,Hf]
theorem BC{t tx ty e:TypeId}{i:TypeInfo}{k kx:IntKind}{ts:List TypeId}(ht:P.underlying t=some (.slice e))(htx:P.underlying tx=some (.int k))(hi:P.info? e=some i):
  (Builtin.append_ (t::tx::ts).toArray ty #[.slice none 0 0,.int kx 0]).run P w=.ok (.slice none 0 0) w:=by
 have hw:IntKind.i64.wrap 0=0:=by decide
 simp[Builtin.append_,run_underlying ht,run_underlying htx,sizeOf,typeInfo,hi,asInt,asIntOf,hw]
theorem EJ{t tx ty e:TypeId}{i:TypeInfo}{z:Value}{k kx:IntKind}{ts:List TypeId}(ht:P.underlying t=some (.slice e))(htx:P.underlying tx=some (.int k))(hi:P.info? e=some i)(hz:i.zero=some z){n:Int}(h0:0<n)(hb:n.toNat*i.bytes<=1099511627776)(hn:n<=1099511627776):
  (Builtin.append_ (t::tx::ts).toArray ty #[.slice none 0 0,.int kx n]).run P w =
   .ok (.slice (some ⟨w.heap.size,0,none⟩) n.toNat (grownCap w n.toNat 0 e)) (w.drew.alloc (.cells ((if n.toNat*i.size=0 then #[] else Builtin.zeroCells z.cells n.toNat)++Builtin.zeroCells z.cells (grownCap w n.toNat 0 e-n.toNat)) e)):=by
 have hw:IntKind.i64.wrap n=n:=IntWalk.i64_in n (by omega);have Awr:=growslice_fits (need:=n.toNat) (old:=0) (bytes:=i.bytes) (by omega) (by omega);have AR:¬n<0:=by omega
 have Jo:¬(281474976710656<n*(i.bytes:Int)):=by
  have:n*(i.bytes:Int)=((n.toNat*i.bytes:Nat):Int):=by
   rw[Int.natCast_mul,Int.toNat_of_nonneg (by omega)]
  omega
 have M6:¬(n.toNat=0):=by omega
 have Ak3:¬(9223372036854775807<(n.toNat:Int)):=by omega
 have Al5:¬(281474976710656<Builtin.nextslicecap n.toNat 0*i.bytes):=by omega
 have BU:¬n<=0:=by omega
 have hmx:¬(9223372036854775807<max n 0):=by omega
 by_cases hs:n.toNat*i.size=0
 ·simp[Builtin.append_,run_underlying ht,run_underlying htx,sizeOf,typeInfo,zeroValue,hi,hz,asInt,asIntOf,hw,AR,Jo,M6,BU,hmx,Ak3,Al5,Question.forced,hs,newRow,grownCap,Builtin.firstCells]
 ·simp[Builtin.append_,run_underlying ht,run_underlying htx,sizeOf,typeInfo,zeroValue,hi,hz,asInt,asIntOf,hw,AR,Jo,M6,BU,hmx,Ak3,Al5,Question.forced,hs,newRow,grownCap,Builtin.firstCells]
theorem M7{t tx ty e:TypeId}{i:TypeInfo}{d:TypeDesc}{ts:List TypeId}(ht:P.underlying t=some (.slice e))(htx:P.underlying tx=some d)(hd:∀k,d ≠ .int k)(hi:P.info? e=some i){ad:Option Addr}{xv:Value}{news:List Value}{A:Nat->Prop}{new:Al}(hs:Src P w A i.size xv 0 new news)(h0:news=[]):
  (Builtin.append_ (t::tx::ts).toArray ty #[.slice ad 0 0,xv]).run P w=.ok (.slice ad 0 0) w:=by
 subst h0;have h1:=hs.len w;have h2:(Builtin.firstCells i.size 0 xv).run P w=.ok ([]:List Value).toArray w:=hs.cells w (fun _ _=>rfl);have HR:(match d with | .int _=>true|_=>false)=false:=by cases d<;>first|rfl|exact absurd rfl (hd _)
 cases ad<;>simp[Builtin.append_,run_underlying ht,run_underlying htx,HR,sizeOf,typeInfo,hi,h1,h2,storeCells]
end
open Go.RowKit
section
variable {R:Type}{r:R}{P:Program}{N:Nat}{w0:World}{X0:Jb}{Y:Nat->Prop}{β β':Bt}{s:St}{a:Act}{w w':World}{o:Oper}{A:Nat->Prop}
theorem Ais{b j:Nat}(h:j<bsz w b):(w.cell? ⟨b,j,none⟩).isSome=true:=by
 unfold bsz at h;unfold World.cell?;split at h
 ·rename_i c e fz hb;simp[hb,h]
 ·omega
theorem XE{id d:Nat}{c cells:Al}{bo:Option (Nat × Nat)}(h0:s.hp id=some (.ar false c))(hd:s.hp d=none)(OQ:∀k x,bo=some (k,x)->w.heap.size<=k\/∃y,β id=some (k,y)):
  ∀k,k<w.heap.size->D2 (Di (Di s.hp id (some .mv)) d (some (.ar false cells))) (Di β d bo) Y k->D2 s.hp β Y k:=by
 rintro k hk (⟨i,x,hl,hβ⟩|hY)
 ·by_cases e':i=d
  ·subst e';rw[At] at hβ;rcases OQ k x hβ with h|⟨y,hy⟩
   ·omega
   ·exact .inl ⟨id,y,by rw[h0];trivial,hy⟩
  ·rw[Ap _ _ e'] at hl hβ;by_cases e:i=id
   ·subst e;rw[At] at hl;exact hl.elim
   ·rw[Ap _ _ e] at hl;exact .inl ⟨i,x,hl,hβ⟩
 ·exact .inr hY
theorem HZ{pre new:Al}{olds news:List Value}{zs:Array Value}{e:TypeId}{A':Nat->Prop}(hg:Hk w w' (olds.toArray++news.toArray++zs) e)(hA:∀b,b<w.heap.size->A' b->A b)(h1:Bo (A3 w A) pre olds)(h2:Bo (A3 w A) new news)(ho:∀u∈olds,u.oneCell'=true)(hn:∀u∈news,u.oneCell'=true):WD w' A' ⟨w.heap.size,0,none⟩ (pre++new):=by
 refine Aaw hg hA fun j p hj=>?_;obtain⟨v,hv,ht⟩:=(h1.app h2).get hj;refine⟨v,?_,?_,ht⟩
 ·have Cx:j<(olds++news).length:=by
   rcases Ht j (olds++news).length with h|h
   ·exact h
   ·rw[List.getElem?_eq_none h] at hv;cases hv
  rw[Array.getElem?_append_left (by simpa using Cx)]
  simpa using hv
 ·rcases Bu.1 (List.mem_of_getElem? hv) with hm|hm
  ·exact ho v hm
  ·exact hn v hm
theorem PU(h:Dl N w0 X0 Y β s a w){c:Call}(ho:o.op=.call c)(hc:c.callee=.builtin .append)(hnb:Zw c=true){d:Nat}(Adx:o.dst=some d){b x:Operand}(Ga:c.args.toList=[b,x]){t tx:TypeId}{ts:List TypeId}(EN:c.argTypes.toList=t::tx::ts){K:PV->List (Nat × Cd)->Option R}(hk:V6 P (Kq s.hp) d t tx (Cm s.tm x) K=some r):∃v nw,K v nw=some r/\Ff P a w o Y β s v [] nw:=by
 have hb:b=.const (.slice none 0 0):=by
  unfold Zw at hnb;rw[Ga] at hnb;split at hnb
  ·rename_i e;injection e
  ·cases hnb
 have IY:c.args = #[b,x]:=by
  have:c.args=([b,x]:List Operand).toArray:=by rw[<-Ga]
  exact this
 have RU:c.argTypes=(t::tx::ts).toArray:=by rw[<-EN]
 have Rh:a.eval b=.slice none 0 0:=by rw[hb];rfl
 have run:∀{v:Value} {w1:World},(Builtin.append_ (t::tx::ts).toArray o.type #[a.eval b,a.eval x]).run P w=.ok v w1->(execOp a.eval o).run P w=.ok (.value v) w1:=by
  intro v w1 hr;unfold execOp;rw[ho];simp only[resolve,hc,invoke,builtin,Sem.run_bind,Sem.run_pure,Result.andThen_ok,IY,RU];have:(#[b,x]:Array Operand).map a.eval = #[a.eval b,a.eval x]:=by simp
  rw[this,hr];rfl
 unfold V6 at hk;split at hk
 ·rename_i e hu;obtain⟨hzi,hk⟩:=Aq hk;obtain⟨i,z,hi,hz,hzs,Oa⟩:=HC hzi;have Vu:((P.info? e).map (·.bytes)).getD 0=i.bytes:=by rw[hi];rfl
  obtain⟨⟨dx,hdx,UO⟩,m,new,news,hk,hs⟩:=HH (s:=s) h hk (fun m new M0=>by
   obtain⟨hb,_⟩:=Aq M0;simp only[Fb,AM] at hb;exact hb.1.1)
  obtain⟨Jf,hk⟩:=Aq hk;simp only[Fb,AM] at Jf;obtain⟨⟨Abe,hby⟩,EW⟩:=Jf;have hnl:new.length=news.length:=hs.rep.len;rw[Oa] at Abe hk hs;rw[Vu] at hby;have EG:news.length=m*i.size:=by omega
  refine⟨_,_,hk,by simp,?_⟩;by_cases hm0:m=0
  ·subst hm0;have hr:=M7 (P:=P) (w:=w) (t:=t) (tx:=tx) (ty:=o.type) (ts:=ts) (ad:=none) hu hdx UO hi hs (List.eq_nil_of_length_eq_zero (by omega));rw[<-Rh] at hr;have VM:new=[]:=List.eq_nil_of_length_eq_zero (by omega);subst VM;refine⟨_,_,run hr,fun Aht=>⟨Di β d none,?_⟩⟩;have Wv:s.hp d=none:=(B2 Aht).1 d _ (Qw _);rw[Rh];refine⟨rfl,rfl,rfl,Cy.refl _ _,fun j hj=>Ap _ _ (by rintro rfl;exact hj Wv),?_,?_,?_,?_,?_,.inl ⟨At _ _ _,rfl,rfl,none,rfl⟩,?_⟩
   ·intro j bx hm;simp at hm;rw[hm.2];trivial
   ·intro j bx hm;simp at hm;obtain⟨rfl,rfl⟩:=hm;exact .inl ⟨At _ _ _,rfl⟩
   ·intro j bx k q hm hq;simp at hm;obtain⟨rfl,rfl⟩:=hm;rw[At] at hq;cases hq
   ·intro j bx j' bx' k q q' hm Jw _ _;simp at hm Jw;rw[hm.1,Jw.1]
   ·intro j cells hm;simp at hm
   ·intro j hj;simp[Ch,C5,Aw] at hj;subst hj;exact .inr ⟨.ar false [],by simp⟩
  ·have hr:=M5 (P:=P) (w:=w) (t:=t) (tx:=tx) (ty:=o.type) (ts:=ts) (ad:=none) (n:=0) (cap:=0) (olds:=[]) hu hdx UO hi hz hs (.inl ⟨rfl,rfl⟩) (by omega) (by rw[Ob];exact hby) (by omega)
   rw[<-Rh] at hr;refine⟨_,_,run hr,fun Aht=>⟨Di β d (some (w.heap.size,0)),?_⟩⟩;have Wv:s.hp d=none:=(B2 Aht).1 d _ (Qw _);have hge:0+m<=grownCap w (0+m) 0 e:=grownCap_ge w (0+m) 0 e
   have Ym:Hk w (w.drew.alloc (.cells (([]:List Value).toArray++news.toArray++Builtin.zeroCells z.cells (grownCap w (0+m) 0 e-(0+m))) e)) (([]:List Value).toArray++news.toArray++Builtin.zeroCells z.cells (grownCap w (0+m) 0 e-(0+m))) e:=
    ⟨rfl,rfl,rfl,fun k hk=>Below.heap_alloc w.drew _ k hk,by show (w.heap.push _).size=_;simp,(0,0),by show (w.heap.push _)[w.heap.size]?=_;simp,.inl rfl⟩
   have XY:(([]:List Value).toArray++news.toArray++Builtin.zeroCells z.cells (grownCap w (0+m) 0 e-(0+m))).size=grownCap w (0+m) 0 e*i.size:=by
    simp only[Array.size_append,List.size_toArray,size_zeroCells,hzs,EG,Zzh,<-Nat.add_mul];rw[Ob (m*i.size),<-Nat.add_mul]
    congr 1
    omega
   refine R5 (s:=⟨s.tm,Aj s.hp []⟩) Ym Wv trivial ?_ (fun cells hx=>by cases hx) ?_ (by intro j hj;simp[Ch,C5,Aw] at hj;exact .inr hj)
   ·refine .inr ⟨w.heap.size,0,At _ _ _,?_,fun _ j _ hj=>?_,(fun q=>by cases q)⟩
    ·exact HZ (pre:=[]) Ym (Aaj (s:=⟨s.tm,Aj s.hp []⟩) Wv) trivial hs.rep (by simp) hs.one
    ·rw[Ym.bsz] at hj;exact Ym.frozen hj
   ·refine .inr ⟨w.heap.size,0,0,grownCap w (0+m) 0 e,At _ _ _,by rw[Ob],.inl rfl,by omega,?_,by rw[Ym.size];omega⟩
    exact⟨by rw[Ym.bsz,XY];omega,.inr (Lh w.drew _ e)⟩
 ·cases hk
theorem VW{lo hi:Option Operand}{y3:Operand}{k3:IntKind}{len cap l u m:Nat}(hl:(lo=none/\l=0)\/∃y k,lo=some y/\a.eval y=.int k (l:Int))(hu:∃y k,hi=some y/\a.eval y=.int k (u:Int))(hm:a.eval y3=.int k3 (m:Int))(h1:l<=u)(h2:u<=m)(h3:m<=cap):
  (Instr.sliceBounds true len cap (lo.map a.eval) (hi.map a.eval) (some (a.eval y3))).run P w=.ok (l,u,m) w:=by
 obtain⟨y,k,rfl,hy⟩:=hu;rcases hl with⟨rfl,rfl⟩|⟨y',k',rfl,hy'⟩
 ·simp[Instr.sliceBounds,Instr.sliceBound,asIntOf,hy,hm,h2,h3]
 ·simp[Instr.sliceBounds,Instr.sliceBound,asIntOf,hy,hy',hm,h1,h2,h3]
theorem OL(h:Dl N w0 X0 Y β s a w){t:TypeId}{x m:Operand}{lo hi:Option Operand}(ho:o.op=.slice t x lo hi (some m)){d:Nat}{K:PV->List (Nat × Cd)->Option R}(hk:Vv P d t (Cm s.tm x) (lo.map (Cm s.tm)) (hi.map (Cm s.tm)) (some (Cm s.tm m)) K=some r):∃v nw,K v nw=some r/\Ff P a w o Y β s v [] nw:=by
 have hx:=Dt h x;unfold Vv at hk;split at hk
 ·rename_i e hu;obtain⟨hb,hk⟩:=Aq hk;simp only[Fb] at hb;obtain⟨Rg,hhi⟩:=hb
  obtain⟨yh,rfl⟩:∃y,hi=some y:=by
   cases hi with
   |none=>simp at hhi
   |some y=>exact⟨y,rfl⟩
  have fin:∀{ad:Option Addr} {n cap l u q:Nat},a.eval x=.slice ad n cap->n<=cap->((lo=none/\l=0)\/∃y k,lo=some y/\a.eval y=.int k (l:Int))->((some yh=none/\u=n)\/∃y k,some yh=some y/\a.eval y=.int k (u:Int))->(((some m:Option Operand)=none/\q=n)\/∃y k,(some m:Option Operand)=some y/\a.eval y=.int k (q:Int)) ->
    (Nat.beq l q&&Nat.beq u q&&decide (q<=n))=true->Ff P a w o Y β s (.view d (Bj P e) 0 0) [] [(d,.ar false [])]:=by
   intro ad n cap l u q D7 hn hl Kj hq hb;simp only[Fb,AM] at hb;obtain⟨⟨b1,b2⟩,b3⟩:=hb;have b1:=D9 b1;have b2:=D9 b2;subst b1 b2
   have hu2:∃y k,(some yh:Option Operand)=some y/\a.eval y=.int k (u:Int):=by
    rcases Kj with⟨e,_⟩|e
    ·cases e
    ·exact e
   obtain⟨k3,hm3⟩:∃k,a.eval m=.int k (u:Int):=by
    rcases hq with⟨e,_⟩|⟨y,k,e,q⟩
    ·cases e
    ·cases e;exact⟨k,q⟩
   have RK:=VW (P:=P) (w:=w) (len:=n) (cap:=cap) hl hu2 hm3 (Cc _) (Cc _) (by omega)
   have Dh:∃ad',(execOp a.eval o).run P w=.ok (.value (.slice ad' 0 0)) w:=by
    unfold execOp;rw[ho];cases ad with
    |none=>exact⟨none,by simp[Instr.sliceAt,Instr.slice,run_underlying hu,D7,RK,Dm Rg] at RK ⊢⟩
    |some p=>exact⟨some p,by simp[Instr.sliceAt,Instr.slice,run_underlying hu,D7,RK,Dm Rg] at RK ⊢⟩
   obtain⟨ad',Dh⟩:=Dh;refine⟨by simp,_,_,Dh,fun Aht=>⟨Di β d none,?_⟩⟩;have Wv:s.hp d=none:=(B2 Aht).1 d _ (Qw _);refine⟨rfl,rfl,rfl,Cy.refl _ _,fun j hj=>Ap _ _ (by rintro rfl;exact hj Wv),?_,?_,?_,?_,?_,.inl ⟨At _ _ _,rfl,rfl,ad',rfl⟩,?_⟩
   ·intro j bx hm;simp at hm;rw[hm.2];trivial
   ·intro j bx hm;simp at hm;obtain⟨rfl,rfl⟩:=hm;exact .inl ⟨At _ _ _,rfl⟩
   ·intro j bx k q hm hq;simp at hm;obtain⟨rfl,rfl⟩:=hm;rw[At] at hq;cases hq
   ·intro j bx j' bx' k q q' hm Jw _ _;simp at hm Jw;rw[hm.1,Jw.1]
   ·intro j cells hm;simp at hm
   ·intro j hj;simp[Ch,C5,Aw] at hj;subst hj;exact .inr ⟨.ar false [],by simp⟩
  split at hk
  ·rename_i id es off n e';rw[e'] at hx;obtain⟨Tr,hk⟩:=Aq hk;obtain⟨l,hk,hl⟩:=Et h hk;obtain⟨u,hk,Kj⟩:=Et h hk;obtain⟨q,hk,hq⟩:=Et (x:=some m) h hk;obtain⟨hb,hk⟩:=Aq hk;refine⟨_,_,hk,?_⟩;rcases hx with⟨hβ,_,rfl,ad,D7⟩|⟨b,ob,y,cap,hβ,D7,hy,hn,Yf,Cx⟩
   ·exact fin D7 (Cc _) hl Kj hq hb
   ·exact fin D7 hn hl Kj hq hb
  ·obtain⟨z,n,c,hk,hp⟩:=Gq hk;obtain⟨l,hk,hl⟩:=Et h hk;obtain⟨u,hk,Kj⟩:=Et h hk;obtain⟨q,hk,hq⟩:=Et (x:=some m) h hk;obtain⟨hb,hk⟩:=Aq hk;refine⟨_,_,hk,?_⟩;rcases Hp hp hx with⟨D7,rfl,rfl⟩|⟨ad,cap,D7,_,hn,_⟩|⟨ad,cap,D7,_,rfl,rfl⟩
   ·exact fin D7 (Cc _) hl Kj hq hb
   ·exact fin D7 hn hl Kj hq hb
   ·exact fin D7 (Nat.zero_le _) hl Kj hq hb
 ·cases hk
end
open Go.RowKit
section
variable {R:Type}{r:R}{P:Program}{N:Nat}{w0:World}{X0:Jb}{Y:Nat->Prop}{β β':Bt}{s:St}{a:Act}{w w':World}{o:Oper}{A:Nat->Prop}
theorem Afo(h:Dl N w0 X0 Y β s a w){G:Yl}(L0:SK P G w0 X0){C:H2}{call:A7}(Es:∀f args res,call f args=some res->Eb G P f args res){K:PV->B8->List (Nat × Cd)->Option R}(hk:JU C P N call s.tm (rd s.hp) (Kq s.hp) o K=some r):∃v fz nw,K v fz nw=some r/\HP P a w o Y β s v fz nw:=by
 have one:∀{K':PV->Option R},(∀v,K' v=some r->K v [] []=some r)->(∃v,K' v=some r/\Ff P a w o Y β s v [] [])->∃v fz nw,K v fz nw=some r/\HP P a w o Y β s v fz nw:=
  fun hK ⟨v,h1,h2⟩=>⟨v,[],[],hK v h1,JH h2⟩
 have many:(∃v fz nw,K v fz nw=some r/\Ff P a w o Y β s v fz nw)->∃v fz nw,K v fz nw=some r/\HP P a w o Y β s v fz nw:=
  fun ⟨v,fz,nw,h1,h2⟩=>⟨v,fz,nw,h1,JH h2⟩
 unfold JU at hk;split at hk
 ·rename_i x ho;exact one (fun _ h=>h) (AD (K:=fun p=>K p [] []) h (Abw ho) hk)
 ·rename_i x ho;exact one (fun _ h=>h) (AD (K:=fun p=>K p [] []) h (SO ho) hk)
 ·rename_i c x y ho;exact one (fun _ h=>h) (WV (K:=fun p=>K p [] []) h ho hk)
 ·rename_i t ho;obtain⟨d,hd,hk⟩:=Cz hk;exact many (SY ho hk)
 ·rename_i t x ho;obtain⟨d,hd,hk⟩:=Cz hk;exact many (Ad1 h ho hk)
 ·rename_i t ps ho;exact one (fun _ h=>h) (RY (K:=fun p=>K p [] []) h ho hk)
 ·rename_i t n ps ho;obtain⟨d,hd,hk⟩:=Cz hk;exact many (CF h ho hk)
 ·rename_i t x ho;exact one (fun _ h=>h) (WO (K:=fun p=>K p [] []) h ho hk)
 ·rename_i x ho;exact one (fun _ h=>h) (GX (K:=fun p=>K p [] []) h ho hk)
 ·rename_i op t x y ty ho;exact one (fun _ h=>h) (VV (K:=fun p=>K p [] []) h ho hk)
 ·rename_i op t x ho;exact one (fun _ h=>h) (YW (K:=fun p=>K p [] []) h ho hk)
 ·rename_i src dst x ho;obtain⟨v,nw,hk,hg⟩:=ZC h ho hk;obtain⟨d,hd,hk⟩:=Cz hk;exact⟨v,[],nw,hk,JH hg⟩
 ·rename_i t x y ho;obtain⟨d,hd,hk⟩:=Cz hk;exact many (XK h ho hk)
 ·rename_i t x lo hi mx ho;split at hk
  ·exact one (fun _ h=>h) (VS (K:=fun p=>K p [] []) h ho hk)
  ·obtain⟨d,hd,hk⟩:=Cz hk;obtain⟨v,nw,h1,h2⟩:=OL h ho hk;exact⟨v,[],nw,h1,JH h2⟩
 ·rename_i t x f ho;exact one (fun _ h=>h) (EZ (K:=fun p=>K p [] []) h ho hk)
 ·rename_i t x f ho;exact one (fun _ h=>h) (UI (K:=fun p=>K p [] []) h ho hk)
 ·rename_i t x i ho;exact one (fun _ h=>h) (EY (K:=fun p=>K p [] []) h ho hk)
 ·rename_i t x i ho;exact one (fun _ h=>h) (UD (K:=fun p=>K p [] []) h ho hk)
 ·rename_i t x k ok ho;exact one (fun _ h=>h) (QL (K:=fun p=>K p [] []) h ho hk)
 ·rename_i x i ho;exact one (fun _ h=>h) (KU (K:=fun p=>K p [] []) h ho hk)
 ·rename_i c ho;split at hk
  ·rename_i hc;exact one (fun _ h=>h) (Ac4 (K:=fun p=>K p [] []) h ho hc hk)
  ·rename_i hc;exact one (fun _ h=>h) (Abu (K:=fun p=>K p [] []) h ho hc hk)
  ·rename_i hc;exact one (fun _ h=>h) (Ael (K:=fun p=>K p [] []) h ho hc hk)
  ·rename_i hc;exact one (fun _ h=>h) (Adi (K:=fun p=>K p [] []) h ho hc hk)
  ·rename_i hc;obtain⟨hnb,hk⟩:=Aq hk;obtain⟨d,hd,E6⟩:=Cz hk;obtain⟨b,xs,KH,F3⟩:=Bh E6;obtain⟨x,ys,hys,Mx⟩:=Bh F3;obtain⟨AU,V3⟩:=Ej Mx;obtain⟨t,us,hus,YH⟩:=Bh V3;obtain⟨tx,vs,T8,hk6⟩:=Bh YH;rw[hys,AU] at KH;rw[T8] at hus;obtain⟨v,nw,h1,h2⟩:=PU h ho hc hnb hd KH hus hk6;exact⟨v,[],nw,h1,JH h2⟩
  ·rename_i f hc;exact IR h L0 Es (fun hf hb=>TM ho hc L0.ng hf hb) hk
  ·rename_i t hc;obtain⟨f,hf0,E6⟩:=Alb hk;have ht:a.eval (.tmp t)=.func (.func f) #[] #[]:=Cv h (x:=.tmp t) hf0;exact IR h L0 Es (fun hf hb=>Acr ho hc ht L0.ng hf hb) E6
  ·cases hk
 ·cases hk
theorem WK(h:Dl N w0 X0 Y β s a w){G:Yl}(L0:SK P G w0 X0){C:H2}{call:A7}(Es:∀f args res,call f args=some res->Eb G P f args res){K:St->Option R}(hk:(JU C P N call s.tm (rd s.hp) (Kq s.hp) o fun v fz nw=>CV N s o.dst v fz nw K)=some r):
  ∃s',K s'=some r/\∀(next:Act->World->Prop) (Q:Exit->Act->World->Prop),(∀a' w' β',Dl N w0 X0 Y β' s' a' w'->next a' w')->o.wp P a w next Q:=by
 obtain⟨v,fz,nw,hk,CY,hg⟩:=Afo h L0 Es hk;unfold CV at hk;obtain⟨hb,hk⟩:=Aq hk;simp only[Fb] at hb;refine⟨_,hk,fun next Q hn=>hg next Q fun val w' Hf=>?_⟩;obtain⟨β',st⟩:=Hf hb.2
 have Rh:Cf (Aj s.hp fz) nw=true:=by
  have:∀nw,Cf s.hp nw=true->Cf (Aj s.hp fz) nw=true:=by
   intro nw
   induction nw with
   |nil=>intro _;rfl
   |cons q nw ih=>
    obtain⟨i,b⟩:=q;intro hq;simp only[Cf,Fb,Option.isNone_iff_eq_none] at hq ⊢;exact⟨⟨E2.2 hq.1.1,hq.1.2⟩,ih hq.2⟩
  exact this nw hb.2
 exact hn _ _ β' ((h.freeze CY).stepR hb.1 Rh st)
end
open Go.RowKit
section
variable {R:Type}{r:R}{P:Program}{N:Nat}{w0:World}{X0:Jb}{Y:Nat->Prop}{β β':Bt}{s:St}{a:Act}{w w':World}{o:Oper}{A:Nat->Prop}
structure Ep(b:Nat)(w w':World):Prop where
 os:w'.os=w.os
 tape:w'.tape=w.tape
 output:w'.output=w.output
 size:w'.heap.size=w.heap.size
 other:∀k,k≠b->w'.heap[k]?=w.heap[k]?
 bs:bsz w' b=bsz w b
 frz:∀j,w'.frozen? ⟨b,j,none⟩=w.frozen? ⟨b,j,none⟩
theorem Ep.grow{b:Nat}(h:Ep b w w')(k:Nat):Iw w w' k:=by
 by_cases e:k=b
 ·subst e;refine⟨by rw[h.bs];exact Cc _,fun q=>?_⟩
  unfold VD at q ⊢;rw[h.bs,h.frz];exact q
 ·exact Iw.same (h.other k e)
theorem Ep.refl(b:Nat)(w:World):Ep b w w:=⟨rfl,rfl,rfl,rfl,fun _ _=>rfl,rfl,fun _=>rfl⟩
theorem Ep.setCell(b j:Nat)(v:Value)(w:World):Ep b w (w.setCell ⟨b,j,none⟩ v):=by
 refine⟨rfl,rfl,rfl,by simp[World.setCell],fun k hk=>Below.heap_setCell w ⟨b,j,none⟩ v k hk,?_,fun i=>?_⟩
 ·simp only[bsz,World.setCell,Array.getElem?_modify];simp only[if_true];cases h:w.heap[b]? with
  |none=>simp
  |some x=>cases x<;>simp
 ·simp only[World.frozen?,World.setCell,Array.getElem?_modify,if_true];cases h:w.heap[b]? with
  |none=>simp
  |some x=>cases x<;>simp
theorem Ep.trans{b:Nat}{w'':World}(h:Ep b w w')(h':Ep b w' w''):Ep b w w'':=
 ⟨h'.os.trans h.os,h'.tape.trans h.tape,h'.output.trans h.output,h'.size.trans h.size,fun k hk=>(h'.other k hk).trans (h.other k hk),h'.bs.trans h.bs,fun j=>(h'.frz j).trans (h.frz j)⟩
theorem Ep.setCells(b:Nat):∀(vs:List Value)(j:Nat)(w:World),Ep b w (w.setCells b j vs)
 |[],_,w=>Ep.refl b w
 |v::vs,j,w=>(Ep.setCell b j v w).trans (Ep.setCells b vs (j+1) _)
theorem Aw7{hp:Nat->Option Cd}{id:Nat}{bx bx':Cd}(h0:hp id=some bx)(hl:D1 (some bx))(Lp:D1 (some bx'))(b:Nat):OT (Di hp id (some bx')) β b↔OT hp β b:=by
 constructor
 ·rintro⟨i,o,h1,h2⟩
  by_cases e:i=id
  ·subst e;exact⟨i,o,by rw[h0];exact hl,h2⟩
  ·rw[Ap _ _ e] at h1;exact⟨i,o,h1,h2⟩
 ·rintro⟨i,o,h1,h2⟩
  by_cases e:i=id
  ·subst e;exact⟨i,o,by rw[At];exact Lp,h2⟩
  ·exact⟨i,o,by rw[Ap _ _ e];exact h1,h2⟩
theorem Dl.write(h:Dl N w0 X0 Y β s a w){id b ob:Nat}{bx bx':Cd}(h0:s.hp id=some bx)(hl:D1 (some bx))(Lp:D1 (some bx'))(hβ:β id=some (b,ob))(hw:Ep b w w')(My:Tg w' (D2 s.hp β Y) β id bx')(hr:∀cells,bx'=.st cells->∀c∈cells,∀i∈Aw c,s.hp i≠none)(hK:∀c',bx'=.st c'->∃c,bx=.st c)(hR:∀j,BR bx' ob j->BR bx ob j)(hO:∀j,¬BR bx ob j->w'.cell? ⟨b,j,none⟩=w.cell? ⟨b,j,none⟩):Dl N w0 X0 Y β ⟨s.tm,Di s.hp id (some bx')⟩ a w':=by
 have hX:=Aw7 (β:=β) h0 hl Lp;have hA:∀k,D2 (Di s.hp id (some bx')) β Y k↔D2 s.hp β Y k:=fun k=>⟨fun x=>x.imp (hX k).1 (fun y=>y),fun x=>x.imp (hX k).2 (fun y=>y)⟩;have hAb:D2 s.hp β Y b:=.inl ⟨id,ob,by rw[h0];exact hl,hβ⟩
 have Hf:Cy (D2 s.hp β Y) w w':=⟨by rw[hw.size];exact Cc _,fun k _ hk=>hw.other k (fun e=>hk (e ▸ hAb)),fun k _=>hw.grow k⟩
 have Jo:∀i,Di s.hp id (some bx') i≠none↔s.hp i≠none:=by
  intro i;by_cases e:i=id
  ·subst e;rw[At,h0];simp
  ·rw[Ap _ _ e]
 have hAe:D2 (Di s.hp id (some bx')) β Y=D2 s.hp β Y:=funext fun k=>propext (hA k)
 have Y7:∀i,D1 (Di s.hp id (some bx') i)->D1 (s.hp i):=by
  intro i hi;by_cases e:i=id
  ·subst e;rw[h0];exact hl
  ·rw[Ap _ _ e] at hi;exact hi
 refine⟨h.dfr,h.tsz,h.tmo,fun i hi=>?_,fun i bi hb=>?_,fun i i' k x y h1 h2=>h.inj i i' k x y (Y7 i h1) (Y7 i' h2),fun i k x hi hk=>?_,fun i hi j hj=>(Jo j).2 (h.wfT i hi j hj),
  fun i cells hc c VI j hj=>(Jo j).2 ?_,fun k hk=>h.ownd k ((hX k).1 hk),fun i bi k x FA hli hk Cx j hj=>?_,fun i hi=>⟨(Jo _).2 (h.pin i hi).1,(h.pin i hi).2⟩,fun i c k x hc hk Cx=>?_,fun k hk x=>h.Yx k hk ((hX k).1 x),h.Ylt,?_⟩
 ·rw[hAe];exact (h.tms i hi).step Hf (fun _ _ x=>x) (fun _ _=>rfl)
 ·rw[hAe];simp only at hb;by_cases e:i=id
  ·subst e;rw[At] at hb;cases hb;exact My
  ·rw[Ap _ _ e] at hb;have FA:=h.box i bi hb;cases bi with
   |st c=>
    obtain⟨k,x,h1,h2,h3⟩:=FA
    have hk:k≠b:=by
     rintro rfl
     exact e (h.inj i id k x ob (by rw[hb];trivial) (by rw[h0];exact hl) h1 hβ)
    refine⟨k,x,h1,fun j c hj=>?_,fun j hj=>?_⟩
    ·obtain⟨v,hv,hc⟩:=h2 j c hj;exact⟨v,by rw[World.cell?_of_block (w:=w) (hw.other k hk)];exact hv,hc.step Hf (fun _ _ x=>x) (fun _ _=>rfl)⟩
    ·rw[World.frozen?_of_block (w:=w) (hw.other k hk)];exact h3 j hj
   |ar fz c=>
    rcases FA with hn|⟨k,x,h1,h2,h3,h4⟩
    ·exact .inl hn
    ·have hk:k≠b:=by
      rintro rfl
      cases fz with
      |true=>exact h4 rfl hAb
      |false=>exact e (h.inj i id k x ob (by rw[hb];trivial) (by rw[h0];exact hl) h1 hβ)
     refine .inr ⟨k,x,h1,fun j c hj=>?_,fun ef j hj Uf=>?_,h4⟩
     ·obtain⟨v,hv,h5,hc⟩:=h2 j c hj;exact⟨v,by rw[World.cell?_of_block (w:=w) (by rw[F6];exact hw.other k hk)];exact hv,h5,hc.step Hf (fun _ _ x=>x)⟩
     ·rw[World.frozen?_of_block (w:=w) (hw.other k hk)];refine h3 ef j hj ?_;unfold bsz at Uf ⊢;rw[hw.other k hk] at Uf;exact Uf
   |mv=>trivial
 ·rw[hw.size];exact h.blt i k x ((Jo i).1 hi) hk
 ·simp only at hc;by_cases e:i=id
  ·subst e;rw[At] at hc;injection hc with hc;exact hr cells hc c VI j hj
  ·rw[Ap _ _ e] at hc;exact h.wfB i cells hc c VI j hj
 ·simp only at FA;by_cases e:i=id
  ·subst e;rw[At] at FA;cases FA;rw[hβ] at hk;cases hk;exact h.rngB i bx b ob h0 hl hβ Cx j (hR j hj)
  ·rw[Ap _ _ e] at FA;exact h.rngB i bi k x FA hli hk Cx j hj
 ·simp only at hc;by_cases e:i=id
  ·subst e;rw[At] at hc;injection hc with hc;obtain⟨c0,rfl⟩:=hK c hc;exact h.stp i c0 k x h0 hk Cx
  ·rw[Ap _ _ e] at hc;exact h.stp i c k x hc hk Cx
 ·refine⟨hw.os.trans h.fr.os,hw.tape.trans h.fr.tape,hw.output.trans h.fr.output,?_,fun k j hk hL=>?_⟩
  ·refine⟨by rw[hw.size];exact h.fr.step.size,fun k hk hnk=>?_,fun k hk=>(h.fr.step.bs k hk).trans (Hf.bs k (Gy hk h.fr.step.size))⟩
   rw[hw.other k ?_]
   ·exact h.fr.step.keep k hk hnk
   ·rintro rfl
    rcases h.ownd k ⟨id,ob,by rw[h0];exact hl,hβ⟩ with hx|hx
    ·exact hnk hx
    ·omega
  ·by_cases e:k=b
   ·subst e;rw[hO j (fun hj=>hL (h.rngB id bx k ob h0 hl hβ hk j hj)),hw.frz];exact h.fr.rng k j hk hL
   ·have hc:w'.cell? ⟨k,j,none⟩=w.cell? ⟨k,j,none⟩:=World.cell?_of_block (w:=w) (hw.other k e);have hf:w'.frozen? ⟨k,j,none⟩=w.frozen? ⟨k,j,none⟩:=World.frozen?_of_block (w:=w) (hw.other k e);rw[hc,hf];exact h.fr.rng k j hk hL
theorem S9{c cs:Al}{off j:Nat}{p:PV}(BU:off+cs.length<=c.length)(h:(Cw c cs off)[j]?=some p):
  (off<=j/\j<off+cs.length/\cs[j-off]?=some p)\/((j<off\/off+cs.length<=j)/\c[j]?=some p):=by
 unfold Cw at h;by_cases h1:j<off
 ·rw[Zzv,List.getElem?_append_left (by simp;omega),List.getElem?_take_of_lt h1] at h
  exact .inr ⟨.inl h1,h⟩
 ·by_cases h2:j<off+cs.length
  ·rw[List.getElem?_append_left (by simp;omega),List.getElem?_append_right (by simp;omega)] at h
   simp only[List.length_take,Nat.min_eq_left (by omega:off<=c.length)] at h;exact .inl ⟨by omega,h2,h⟩
  ·rw[List.getElem?_append_right (by simp;omega)] at h
   simp only[LG,List.length_take,Nat.min_eq_left (by omega:off<=c.length),List.getElem?_drop] at h;rw[show off+cs.length+(j-(off+cs.length))=j from by omega] at h;exact .inr ⟨.inr (by omega),h⟩
theorem Td{c cs:Al}{off:Nat}(BU:off+cs.length<=c.length):(Cw c cs off).length=c.length:=by simp[Cw];omega
theorem DM{t:TypeId}{b j:Nat}{v:Value}(Oa:(P.info? t).map (·.size)=some v.cells.size)(hc:∀i,i<v.cells.toList.length->(w.cell? ⟨b,j+i,none⟩).isSome=true)(hf:∀i,i<v.cells.toList.length->w.frozen? ⟨b,j+i,none⟩=false)(h1:∀u∈v.cells.toList,u.oneCell'=true):(Instr.storeAt t (.pointer (some ⟨b,j,none⟩)) v).run P w=.ok () (w.setCells b j v.cells.toList):=by
 have:=run_storeCells_cells (P:=P) b j v.cells.toList 0 w (fun i hi=>by simpa using hc i hi) (fun i hi=>by simpa using hf i hi) h1;simp only[Instr.storeAt,Instr.sureAddr,storeVar,Sem.run_bind,Sem.run_pure,Result.andThen_ok,Lw Oa]
 simpa using this
theorem VK(h:Dl N w0 X0 Y β s a w){t:TypeId}{x y:Operand}(ho:o.op=.store t x y)(hd:o.dst=none){K:St->Option R}(hk:BX P s t (Cm s.tm x) (Cm s.tm y) K=some r):
  ∃s',K s'=some r/\∀(next:Act->World->Prop) (Q:Exit->Act->World->Prop),(∀a' w' β',Dl N w0 X0 Y β' s' a' w'->next a' w')->o.wp P a w next Q:=by
 have hx:=Dt h x;have KE:=Gb h x
 have run:∀{b j:Nat},a.eval x=.pointer (some ⟨b,j,none⟩)->(Instr.storeAt t (.pointer (some ⟨b,j,none⟩)) (a.eval y)).run P w=.ok () (w.setCells b j (a.eval y).cells.toList) ->
   ∀(next:Act->World->Prop) (Q:Exit->Act->World->Prop),next a (w.setCells b j (a.eval y).cells.toList)->o.wp P a w next Q:=by
  intro b j D7 hr next Q hn;unfold Oper.wp execOp;rw[ho];simp only[Sem.run_bind,D7,hr,Result.andThen_ok,Sem.run_pure];show next (a.put o.dst undef) _;rw[hd];exact hn
 unfold BX at hk;split at hk
 ·rename_i id off e;rw[e] at hx KE;obtain⟨b,ob,hβ,D7⟩:=hx;split at hk
  ·rename_i c h0;obtain⟨hb,hk⟩:=Aq hk;simp only[Fb,AM] at hb;obtain⟨⟨hok,hl⟩,BU⟩:=hb;have hl:=D9 hl;obtain⟨cs,hk,Mz,h2,h1,hr,_⟩:=Aaa (Dt h y) hl hk;obtain⟨_,Ap6,Oa⟩:=Rx hok;have hvl:=h2.len;obtain⟨b',o',Fy,It,X9⟩:=h.box id _ h0;rw[hβ] at Fy;simp at Fy;obtain⟨rfl,rfl⟩:=Fy
   have Dv:∀i,i<(a.eval y).cells.toList.length->(w.cell? ⟨b,ob+off+i,none⟩).isSome=true:=by
    intro i hi;obtain⟨v,hv,_⟩:=It (off+i) _ (List.getElem?_eq_getElem (by omega));rw[Mu,hv];rfl
   have Dh:=DM (P:=P) (t:=t) (w:=w) (b:=b) (j:=ob+off) (v:=a.eval y) (by rw[Oa,<-Ap6,<-Mz,hvl];simp) Dv (fun i hi=>by rw[Mu];exact X9 _ (by omega)) h1
   refine⟨_,hk,fun next Q hn=>run D7 Dh next Q (hn _ _ β ?_)⟩
   refine h.write h0 trivial trivial hβ (Ep.setCells b _ _ w) ?_ ?_ (fun _ _=>⟨_,rfl⟩) (fun j hj=>by
    have hj:ob<=j/\j<ob+(Cw c cs off).length:=hj;rw[Td (by omega)] at hj;exact hj) (fun j hj=>by
    refine World.cell?_setCells_out b _ _ w ⟨b,j,none⟩ (fun _ _=>?_);have hj:¬(ob<=j/\j<ob+c.length):=hj;show j<ob+off\/ob+off+_<=j;omega)
   ·have Hf:Cy (D2 s.hp β Y) w (w.setCells b (ob+off) (a.eval y).cells.toList):=by
     have hw:=Ep.setCells b (a.eval y).cells.toList (ob+off) w;have hAb:D2 s.hp β Y b:=.inl ⟨id,ob,by rw[h0];trivial,hβ⟩
     exact⟨by rw[hw.size];exact Cc _,fun k _ hk=>hw.other k (fun e=>hk (e ▸ hAb)),fun k _=>hw.grow k⟩
    refine⟨b,ob,hβ,fun j p hj=>?_,fun j hj=>?_⟩
    ·rcases S9 (by omega) hj with⟨h3,h4,h5⟩|⟨h3,h5⟩
     ·obtain⟨u,hu,hcu⟩:=h2.get h5;have Cx:j-off<(a.eval y).cells.toList.length:=by omega
      refine⟨u,?_,hcu.step Hf (fun _ _ x=>x) (fun _ _=>rfl)⟩;have:=World.cell?_setCells_in b (a.eval y).cells.toList (ob+off) w Dv (j-off) Cx;rw[show ob+j=ob+off+(j-off) from by omega,this];rw[List.getElem?_eq_getElem Cx] at hu;exact hu
     ·obtain⟨v,hv,DL⟩:=It j p h5;refine⟨v,?_,DL.step Hf (fun _ _ x=>x) (fun _ _=>rfl)⟩;rw[World.cell?_setCells_out b _ _ w ⟨b,ob+j,none⟩ (fun _ _=>by show ob+j<ob+off\/ob+off+_<=ob+j;omega)]
      exact hv
    ·rw[Td (by omega)] at hj;rw[(Ep.setCells b _ _ w).frz];exact X9 j hj
   ·intro cells hx c' Tf i hi;injection hx with hx;subst hx;unfold Cw at Tf;rcases Bu.1 Tf with Tf|Tf
    ·rcases Bu.1 Tf with Tf|Tf
     ·exact h.wfB id c h0 c' (List.mem_of_mem_take Tf) i hi
     ·exact Gb h y i (hr c' Tf i hi)
    ·exact h.wfB id c h0 c' (List.mem_of_mem_drop Tf) i hi
  ·rename_i c h0;obtain⟨hb,hk⟩:=Aq hk;simp only[Fb,AM] at hb;obtain⟨hok,BU⟩:=hb;obtain⟨cs,m,hk,Mz,Sl,hT,hF,hm,hv⟩:=Sc h hk;obtain⟨EW,hk⟩:=Aq hk
   have EW:id ∉ m:=by
    intro hi;have:m.any (Nat.beq id)=true:=List.any_eq_true.2 ⟨id,hi,Pz id⟩;rw[this] at EW;cases EW
   obtain⟨_,Ap6,Oa⟩:=Rx hok
   have Al2:Bo (Cn w (D2 s.hp β Y) β) (cellsOf (Cm s.tm y)) (a.eval y).cells.toList:=by
    have hyv:=Dt h y;cases hp:Cm s.tm y with
    |agg ps=>
     rw[hp] at hyv;obtain⟨vs,hay,h2⟩:=hyv;rw[hay];exact h2
    |sc v=>
     rw[hp] at hyv hF
     have Af6:(a.eval y).oneCell'=true:=by
      have:=hv m (fun _ hi=>hi) hm [a.eval y] (by rw[hp];exact⟨hyv,trivial⟩)
      exact this.2 _ (by simp)
     rw[Oh Af6];exact⟨hyv,trivial⟩
    |lst z es n cc=>
     rw[hp] at hyv hF
     have Af6:(a.eval y).oneCell'=true:=by
      have:=hv m (fun _ hi=>hi) hm [a.eval y] (by rw[hp];exact⟨hyv,trivial⟩)
      exact this.2 _ (by simp)
     rw[Oh Af6];exact⟨hyv,trivial⟩
    |view i es oo n=>
     rw[hp] at hyv hF
     have Af6:(a.eval y).oneCell'=true:=by
      have:=hv m (fun _ hi=>hi) hm [a.eval y] (by rw[hp];exact⟨hyv,trivial⟩)
      exact this.2 _ (by simp)
     rw[Oh Af6];exact⟨hyv,trivial⟩
    |own es n cc=>
     have hx0:=hF (Cm s.tm y) (by rw[hp];exact Qw _)
     rw[hp] at hx0;exact hx0.elim
    |ptr i cc=>
     have hx0:=hF (Cm s.tm y) (by rw[hp];exact Qw _)
     rw[hp] at hx0;exact hx0.elim
    |iptr i cc=>
     have hx0:=hF (Cm s.tm y) (by rw[hp];exact Qw _)
     rw[hp] at hx0;exact hx0.elim
    |pbox cc=>
     have hx0:=hF (Cm s.tm y) (by rw[hp];exact Qw _)
     rw[hp] at hx0;exact hx0.elim
    |tup cc=>
     have hx0:=hF (Cm s.tm y) (by rw[hp];exact Qw _)
     rw[hp] at hx0;exact hx0.elim
    |ub=>
     have hx0:=hF (Cm s.tm y) (by rw[hp];exact Qw _)
     rw[hp] at hx0;exact hx0.elim
    |top=>
     have hx0:=hF (Cm s.tm y) (by rw[hp];exact Qw _)
     rw[hp] at hx0;exact hx0.elim
   obtain⟨h2,h1⟩:=hv m (fun _ hi=>hi) hm _ Al2;have hvl:=h2.len;have hf:=h.freeze hm;have h0':Aj s.hp m id=some (.ar false c):=by rw[Ci,Bg EW];exact h0
   rcases hf.box id _ h0' with⟨hn,_⟩|⟨b',o',Fy,It,X9,_⟩
   ·rw[hβ] at hn;cases hn
   rw[hβ] at Fy;simp at Fy;obtain⟨rfl,rfl⟩:=Fy
   have Dv:∀i,i<(a.eval y).cells.toList.length->(w.cell? ⟨b,ob+off+i,none⟩).isSome=true:=by
    intro i hi;obtain⟨v,hv,_⟩:=It (off+i) _ (List.getElem?_eq_getElem (by omega));rw[Ft] at hv;rw[Mu,hv];rfl
   have Dh:=DM (P:=P) (t:=t) (w:=w) (b:=b) (j:=ob+off) (v:=a.eval y) (by rw[Oa,<-Ap6,<-Mz,hvl];simp) Dv (fun i hi=>by
    obtain⟨u,hu⟩:=Option.isSome_iff_exists.1 (Dv i hi);exact X9 rfl _ (by omega) (GG hu)) h1
   refine⟨_,hk,fun next Q hn=>run D7 Dh next Q (hn _ _ β ?_)⟩
   refine hf.write h0' trivial trivial hβ (Ep.setCells b _ _ w) ?_ (fun cells hx=>by cases hx) (fun _ hx=>by cases hx) (fun j hj=>hj) (fun j hj=>by
    refine World.cell?_setCells_out b _ _ w ⟨b,j,none⟩ (fun _ _=>?_);have hj:¬(ob<=j):=hj;show j<ob+off\/ob+off+_<=j;omega)
   have Hf:Cy (D2 (Aj s.hp m) β Y) w (w.setCells b (ob+off) (a.eval y).cells.toList):=by
    have hw:=Ep.setCells b (a.eval y).cells.toList (ob+off) w;have hAb:D2 (Aj s.hp m) β Y b:=.inl ⟨id,ob,by rw[h0'];trivial,hβ⟩
    exact⟨by rw[hw.size];exact Cc _,fun k _ hk=>hw.other k (fun e=>hk (e ▸ hAb)),fun k _=>hw.grow k⟩
   refine .inr ⟨b,ob,hβ,fun j p hj=>?_,fun _ j hj Uf=>?_,(fun x=>by cases x)⟩
   ·rw[Ft];rcases S9 (by omega) hj with⟨h3,h4,h5⟩|⟨h3,h5⟩
    ·obtain⟨u,hu,hcu⟩:=h2.get h5;have Cx:j-off<(a.eval y).cells.toList.length:=by omega
     refine⟨u,?_,h1 u (List.mem_of_getElem? hu),hcu.step Hf (fun _ _ x=>x)⟩;have:=World.cell?_setCells_in b (a.eval y).cells.toList (ob+off) w Dv (j-off) Cx;rw[show ob+j=ob+off+(j-off) from by omega,this];rw[List.getElem?_eq_getElem Cx] at hu;exact hu
    ·obtain⟨v,hv,h6,DL⟩:=It j p h5;rw[Ft] at hv;refine⟨v,?_,h6,DL.step Hf (fun _ _ x=>x)⟩;rw[World.cell?_setCells_out b _ _ w ⟨b,ob+j,none⟩ (fun _ _=>by show ob+j<ob+off\/ob+off+_<=ob+j;omega)]
     exact hv
   ·rw[(Ep.setCells b _ _ w).bs] at Uf;rw[(Ep.setCells b _ _ w).frz];exact X9 rfl j hj Uf
  ·cases hk
 ·cases hk
end
open Go.RowKit
theorem Ju:∀{l l':B8},E5 (l++l')=true->E5 l=true/\E5 l'=true/\∀i∈l,i ∉ l'
 |[],l',h=>⟨rfl,h,by simp⟩
 |a::l,l',h=>by
  simp only[WM,E5,Fb,Bool.not_eq_true'] at h;obtain⟨h1,h2⟩:=h;obtain⟨h3,h4,h5⟩:=Ju h2
  have hn:∀i∈l++l',a≠i:=by
   rintro i hi rfl
   have:(l++l').any (Nat.beq a)=true:=List.any_eq_true.2 ⟨a,hi,Pz a⟩;rw[this] at h1;cases h1
  refine⟨?_,h4,fun i hi=>?_⟩
  ·simp only[E5,Fb,Bool.not_eq_true',h3,and_true];rw[List.any_eq_false];intro i hi e;exact hn i (by simp[hi]) (D9 e)
  ·rcases List.mem_cons.1 hi with rfl|hi
   ·exact fun hm=>hn i (by simp[hm]) rfl
   ·exact h5 i hi
def Ib(β:Bt)(q:Nat × Nat):Option (Nat × Nat):=(β q.1).map fun p=>(p.1,p.2+q.2)
theorem YD(β:Bt)(id:Nat):Ib β (id,0)=β id:=by unfold Ib;cases β id<;>rfl
section
variable {R:Type}{r:R}{P:Program}{N:Nat}{w0:World}{X0:Jb}{Y:Nat->Prop}{β β':Bt}{s:St}{a:Act}{w w':World}{o:Oper}{A:Nat->Prop}
theorem Pa{fz:B8}{b:Nat}(h:D2 (Aj s.hp fz) β Y b):D2 s.hp β Y b:=h.imp Si id
theorem Ahf(h:Dl N w0 X0 Y β s a w){mv:Bool}{t:CT}{p:PV}{K:PV->B8->B8->Option R}(hk:Ac8 mv s.hp t p K=some r):
  ∃c m q,K c m (Option.toList q)=some r/\isA c/\KQ p/\(∀id∈m,∃f cc,s.hp id=some (.ar f cc))/\(∀id,q=some id->∃cc,s.hp id=some (.ar false cc)) /\
   ∀fz:B8,(∀id∈m,id∈fz)->(∀id∈fz,∃f cc,s.hp id=some (.ar f cc))->∀v,Cn w (D2 s.hp β Y) β p v->Hn w (D2 (Aj s.hp fz) β Y) (q.bind β) c v:=by
 have frz:∀{t:CT} {p:PV} {K:PV->B8->B8->Option R},(P5 (Kq s.hp) t p fun c m=>K c m [])=some r->∃c m q,K c m (Option.toList q)=some r/\isA c/\KQ p/\(∀id∈m,∃f cc,s.hp id=some (.ar f cc))/\(∀id,q=some id->∃cc,s.hp id=some (.ar false cc)) /\
   ∀fz:B8,(∀id∈m,id∈fz)->(∀id∈fz,∃f cc,s.hp id=some (.ar f cc))->∀v,Cn w (D2 s.hp β Y) β p v->Hn w (D2 (Aj s.hp fz) β Y) (q.bind β) c v:=by
  intro t p K hk;obtain⟨c,m,hk,hT,hF,hm,hv⟩:=HW h hk;exact⟨c,m,none,hk,.inl hT,hF,hm,by simp,fun fz h1 h2 v hc=>Lg hT (hv fz h1 h2 v hc).1⟩
 have tree:∀{t:CT} {p:PV} {K:PV->B8->B8->Option R},(∀es,t ≠ .sl es)->(CU t p fun c=>K c [] [])=some r->∃c m q,K c m (Option.toList q)=some r/\isA c/\KQ p/\(∀id∈m,∃f cc,s.hp id=some (.ar f cc))/\(∀id,q=some id->∃cc,s.hp id=some (.ar false cc)) /\
   ∀fz:B8,(∀id∈m,id∈fz)->(∀id∈fz,∃f cc,s.hp id=some (.ar f cc))->∀v,Cn w (D2 s.hp β Y) β p v->Hn w (D2 (Aj s.hp fz) β Y) (q.bind β) c v:=by
  intro t p K Er hk;obtain⟨c,hk,hT,GK,hv⟩:=N1 hk;exact⟨c,[],none,hk,.inl hT,Sy GK,by simp,by simp,fun fz h1 h2 v hc=>Lg hT ((hv w _ β v hc).1.step (Cy.refl _ _) (fun b _ hb=>Pa hb))⟩
 unfold Ac8 at hk;cases t with
 |sl es=>
  dsimp only at hk;cases mv<;>simp only[cond_true,cond_false] at hk
  ·exact frz hk
  ·split at hk
   ·rename_i id es' off n;split at hk
    ·rename_i c h0;cases hb:(Nat.beq es' es&&Nat.beq off 0)<;>rw[hb] at hk<;>simp only[cond_true,cond_false] at hk
     ·exact frz hk
     ·simp only[Fb] at hb;have he:=D9 hb.1;have hof:=D9 hb.2;subst he hof;obtain⟨hl,hk⟩:=Aq hk;refine⟨_,[],some id,hk,.inr ⟨_,_,_,rfl⟩,trivial,by simp,fun i hi=>by cases hi;exact⟨c,h0⟩,fun fz h1 h2 v hc=>?_⟩
      rcases hc with⟨h3,_,rfl,h4⟩|⟨b,ob,x,cap,h3,h4,hx,h5,h6,h7⟩
      ·exact .inl ⟨h3,rfl,by simp,h4⟩
      ·have hx:x=ob:=by rcases hx with e|⟨_,e⟩<;>omega
       subst hx;rcases h.box id _ h0 with⟨h8,_⟩|⟨b',o',h8,h9,h10,_⟩
       ·rw[h3] at h8;cases h8
       ·rw[h3] at h8;cases h8;refine .inr ⟨b,x,cap,h3,h4,h5,h6,h7,fun j p hj=>?_,h10 rfl⟩;rw[List.getElem?_take] at hj;split at hj
        ·obtain⟨u,hu,h11,ht⟩:=h9 j p hj;exact⟨u,hu,h11,ht.step (Cy.refl _ _) (fun b _ hb=>Pa hb)⟩
        ·cases hj
    ·exact frz hk
   ·obtain⟨z,n,c,hk,hp⟩:=Gq hk;have hpF:KQ p:=by rcases hp with e|⟨e,_⟩<;>(rw[e];trivial)
    cases z<;>simp only[cond_true,cond_false] at hk
    ·refine⟨_,[],none,hk,.inl trivial,hpF,by simp,by simp,fun fz h1 h2 v hc=>?_⟩;exact Lg trivial ((Xr hp hc).step (Cy.refl _ _) (fun b _ hb=>Pa hb))
    ·refine⟨_,[],none,hk,.inr ⟨_,_,_,rfl⟩,hpF,by simp,by simp,fun fz h1 h2 v hc=>.inl ⟨rfl,rfl,rfl,none,?_⟩⟩;have:=Xr hp hc;cases this;rfl
 |int k=>exact tree (by simp) hk
 |bool=>exact tree (by simp) hk
 |str=>exact tree (by simp) hk
 |any=>exact tree (by simp) hk
theorem V2(h:Dl N w0 X0 Y β s a w){mv:Bool}:∀{ts:List CT}{ps:Al}{K:Al->B8->B8->Option R},DW mv s.hp ts ps K=some r ->
  ∃cs m x,∃q:Nat->Option Nat,K cs m x=some r/\cs.length=ts.length/\ps.length=ts.length/\(∀c∈cs,isA c)/\(∀p∈ps,KQ p)/\(∀id∈m,∃f cc,s.hp id=some (.ar f cc))/\(∀id∈x,∃cc,s.hp id=some (.ar false cc)) /\
   (∀j id,q j=some id->id∈x)/\(E5 x=true->∀j j' id,q j=some id->q j'=some id->j=j') /\
   ∀fz:B8,(∀id∈m,id∈fz)->(∀id∈fz,∃f cc,s.hp id=some (.ar f cc))->∀vs,Bo (Cn w (D2 s.hp β Y) β) ps vs->∀(own:Bt) j0,(∀j,own (j0+j)=(q j).bind β)->F1 w (D2 (Aj s.hp fz) β Y) own j0 cs vs
 |[],[],K,hk=>⟨[],[],[],fun _=>none,hk,rfl,rfl,by simp,by simp,by simp,by simp,by simp,by simp,fun fz _ _ vs hv own j0 _=>by
   cases vs with
   |nil=>trivial
   |cons v vs=>exact hv.elim⟩
 |[],_::_,K,hk=>by cases hk
 |_::_,[],K,hk=>by cases hk
 |t::ts,p::ps,K,hk=>by
  unfold DW at hk;obtain⟨c,m,q,hk,hA,hF,hm,hq,hv⟩:=Ahf h hk;obtain⟨cs,ms,xs,qs,hk,hl,Lp,hAs,hFs,GE,KH,hqx,hqi,T8⟩:=V2 h hk;refine⟨c::cs,m++ms,q.toList++xs,fun j=>match j with|0=>q|j+1=>qs j,hk,by simp[hl],by simp[Lp],?_,?_,?_,?_,?_,?_,?_⟩
  ·intro x hx;rcases List.mem_cons.1 hx with rfl|hx
   ·exact hA
   ·exact hAs x hx
  ·intro x hx;rcases List.mem_cons.1 hx with rfl|hx
   ·exact hF
   ·exact hFs x hx
  ·intro i hi;rcases Bu.1 hi with hi|hi
   ·exact hm i hi
   ·exact GE i hi
  ·intro i hi;rcases Bu.1 hi with hi|hi
   ·exact hq i (by simpa using hi)
   ·exact KH i hi
  ·intro j id hj;cases j with
   |zero=>exact Bu.2 (.inl (by simpa using hj))
   |succ j=>exact Bu.2 (.inr (hqx j id hj))
  ·intro hn j j' id hj Uf;obtain⟨_,h2,h3⟩:=Ju hn;cases j with
   |zero=>
    cases j' with
    |zero=>rfl
    |succ j'=>exact absurd (hqx j' id Uf) (h3 id (by simpa using hj))
   |succ j=>
    cases j' with
    |zero=>exact absurd (hqx j id hj) (h3 id (by simpa using Uf))
    |succ j'=>rw[hqi h2 j j' id hj Uf]
  ·intro fz h1 h2 vs h3 own j0 Hg;cases vs with
   |nil=>exact h3.elim
   |cons v vs=>
    refine⟨?_,T8 fz (fun i hi=>h1 i (by simp[hi])) h2 vs h3.2 own (j0+1) fun j=>?_⟩
    ·have:=Hg 0;rw[KT] at this;rw[this];exact hv fz (fun i hi=>h1 i (by simp[hi])) h2 v h3.1
    ·have:=Hg (j+1);rw[show j0+1+j=j0+(j+1) by omega];exact this
def LOk(hp:Nat->Option Cd)(q:Option (Nat × Nat))(p:PV)(x:H0):Prop:=
 match x with
 |.var id off cts ws=>p=.pbox ws/\q=some (id,off)/\cts.length=ws.length/\∃c,hp id=some (.st c)/\off+ws.length<=c.length
 |.row id=>(∃ps,p=.tup ps)/\q=some (id,0)/\∃c,hp id=some (.ar false c)
 |.none=>(∃ps,p=.tup ps)/\q=none
theorem Aaf{hp:Nat->Option Cd}{q:Option (Nat × Nat)}{p:PV}{x:H0}(h:LOk hp q p x):AQ p=true:=by
 cases x with
 |var id off cts ws=>rw[h.1];rfl
 |row id=>obtain⟨⟨_,e⟩,_⟩:=h;rw[e];rfl
 |none=>obtain⟨⟨_,e⟩,_⟩:=h;rw[e];rfl
def Q4(hp:Nat->Option Cd)(src:Nat->Nat->Option (Nat × Nat)):Nat->Al->List H0->Prop
 |_,[],l=>l=[]
 |i,p::ps,l=>(AQ p=false/\src i 0=none/\Q4 hp src (i+1) ps l)\/∃x l',l=x::l'/\LOk hp (src i 0) p x/\Q4 hp src (i+1) ps l'
theorem XA(h:Dl N w0 X0 Y β s a w){C:H2}{f:FuncId}{i:Nat}{t:TypeId}{x:Operand}{K:PV->B8->B8->List H0->Option R}(hk:AW C P f s.hp i t (Cm s.tm x) K=some r):
  ∃v m y l,∃src:Nat->Option (Nat × Nat),K v m y l=some r/\(∀id∈m,∃f cc,s.hp id=some (.ar f cc))/\(∀id∈y,∃cc,s.hp id=some (.ar false cc)) /\
   (∀j id off,src (j+1)=some (id,off)->off=0/\id∈y)/\(E5 y=true->∀j j' id off off',src (j+1)=some (id,off)->src (j'+1)=some (id,off')->j=j') /\
   ((l=[]/\AQ v=false/\src 0=none)\/∃x',l=[x']/\LOk s.hp (src 0) v x') /\
   ∀fz:B8,(∀id∈m,id∈fz)->(∀id∈fz,∃f cc,s.hp id=some (.ar f cc))->∀bt:Bt,(∀j,bt j=(src j).bind (Ib β))->SQ w (D2 (Aj s.hp fz) β Y) bt v (a.eval x):=by
 have hx:=Dt h x
 have Y2:∀(q0:Option (Nat × Nat)) (q:Nat->Option Nat),∃src:Nat->Option (Nat × Nat),src 0=q0/\(∀j,src (j+1)=(q j).map fun id=>(id,0)):=
  fun q0 q=>⟨fun j=>match j with|0=>q0|j+1=>(q j).map fun id=>(id,0),rfl,fun _=>rfl⟩
 have UY:∀{src:Nat->Option (Nat × Nat)} {q:Nat->Option Nat} {y:B8},(∀j,src (j+1)=(q j).map fun id=>(id,0))->(∀j id,q j=some id->id∈y)->∀j id off,src (j+1)=some (id,off)->off=0/\id∈y:=by
  intro src q y h1 h2 j id off hj;rw[h1] at hj;cases hq:q j with
  |none=>rw[hq] at hj;cases hj
  |some k=>rw[hq] at hj;cases hj;exact⟨rfl,h2 j _ hq⟩
 have UM:∀{src:Nat->Option (Nat × Nat)} {q:Nat->Option Nat} {y:B8},(∀j,src (j+1)=(q j).map fun id=>(id,0))->(E5 y=true->∀j j' id,q j=some id->q j'=some id->j=j') ->
   E5 y=true->∀j j' id off off',src (j+1)=some (id,off)->src (j'+1)=some (id,off')->j=j':=by
  intro src q y h1 h2 hn j j' id off off' hj Uf;rw[h1] at hj Uf;cases hq:q j with
  |none=>rw[hq] at hj;cases hj
  |some k=>
   cases Gz:q j' with
   |none=>rw[Gz] at Uf;cases Uf
   |some k'=>
    rw[hq] at hj;rw[Gz] at Uf;cases hj;cases Uf;exact h2 hn j j' _ hq Gz
 have Hg:∀{src:Nat->Option (Nat × Nat)} {q:Nat->Option Nat} {bt:Bt},(∀j,src (j+1)=(q j).map fun id=>(id,0))->(∀j,bt j=(src j).bind (Ib β))->∀j,bt (1+j)=(q j).bind β:=by
  intro src q bt h1 h2 j;rw[Nat.add_comm,h2,h1];cases q j with
  |none=>rfl
  |some id=>exact YD β id
 unfold AW at hk;split at hk
 ·rename_i e he;split at hk
  ·rename_i id off ep;rw[ep] at hx;split at hk
   ·rename_i c h0;obtain⟨hb,hk⟩:=Aq hk;simp only[Fb,AM] at hb;obtain⟨cs,m,y,q,hk,hl,Lp,hA,hF,hm,hy,V8,K7,hv⟩:=V2 h hk;obtain⟨src,WB,hs⟩:=Y2 (some (id,off)) q;obtain⟨b,ob,hβ,D7⟩:=hx;refine⟨_,m,y,_,src,hk,hm,hy,UY hs V8,UM hs K7,.inr ⟨_,rfl,rfl,WB,hl.symm,c,h0,by omega⟩,fun fz h1 h2 bt X8=>?_⟩;obtain⟨b',o',Fy,It,X9⟩:=h.box id _ h0;rw[hβ] at Fy;cases Fy;have Do:((c.drop off).take (Jj P e).length).length=(Jj P e).length:=by simp;omega
    have Ai5:∀j p,((c.drop off).take (Jj P e).length)[j]?=some p->c[off+j]?=some p/\j<(Jj P e).length:=by
     intro j p hj;rw[List.getElem?_take] at hj;split at hj
     ·rw[List.getElem?_drop] at hj;exact⟨hj,by assumption⟩
     ·cases hj
    refine⟨b,ob+off,by rw[X8,WB];simp[Ib,hβ],D7,hA,((c.drop off).take (Jj P e).length).mapIdx (fun j _=>(w.cell? ⟨b,ob+off+j,none⟩).getD undef),hv fz h1 h2 _ ?_ bt 1 (Hg hs X8),?_,fun k hk=>?_⟩
    ·refine Bo.of_at (by simp) fun j p v hp hv=>?_;obtain⟨hc,_⟩:=Ai5 j p hp;obtain⟨u,hu,RN⟩:=It _ _ hc;rw[List.getElem?_mapIdx,hp,Option.map_some,Mu,hu] at hv;simp at hv;subst hv;exact RN
    ·intro k v hkv;rw[List.getElem?_mapIdx] at hkv;cases hp:((c.drop off).take (Jj P e).length)[k]? with
     |none=>rw[hp] at hkv;cases hkv
     |some p=>
      obtain⟨hc,_⟩:=Ai5 k p hp;obtain⟨u,hu,RN⟩:=It _ _ hc;rw[hp,Option.map_some,Mu,hu] at hkv;simp at hkv;subst hkv;rw[Mu];exact hu
    ·rw[Mu];exact X9 _ (by omega)
   ·cases hk
  ·cases hk
 ·cases hln:C.lnd f i<;>rw[hln] at hk<;>simp only[cond_true,cond_false] at hk
  ·cases G4:Cp P t<;>rw[G4] at hk<;>simp only[cond_true,cond_false] at hk
   ·obtain⟨cs,m,y,q,hk,hl,Lp,hA,hF,hm,hy,V8,K7,hv⟩:=V2 h hk;obtain⟨c,t',rfl,hk⟩:=Bh hk;obtain⟨rfl,hk⟩:=Ej hk;obtain⟨src,WB,hs⟩:=Y2 none q;have hAc:=hA c (by simp);refine⟨c,m,y,_,src,hk,hm,hy,UY hs V8,UM hs K7,.inl ⟨rfl,Akt hAc,WB⟩,fun fz h1 h2 bt X8=>?_⟩;have hFx:=hF _ (Qw _)
    have hxc:Cn w (D2 s.hp β Y) β (Cm s.tm x) (a.eval x):=by
     cases hp:Cm s.tm x<;>rw[hp] at hx hFx<;>first|exact hx|exact hFx.elim
    have hoc:=(hv fz h1 h2 [a.eval x] ⟨hxc,trivial⟩ bt 1 (Hg hs X8)).1;rcases hAc with hT|⟨es,n,cc,rfl⟩
    ·cases c<;>first|exact⟨.inl trivial,hoc⟩|exact hT.elim
    ·exact⟨.inr ⟨_,_,_,rfl⟩,hoc⟩
   ·obtain⟨ps,ep,hk⟩:=Iv hk;rw[ep] at hx;obtain⟨vs,D7,h3⟩:=hx;obtain⟨cs,m,y,q,hk,hl,Lp,hA,hF,hm,hy,V8,K7,hv⟩:=V2 h hk;obtain⟨src,WB,hs⟩:=Y2 none q;refine⟨_,m,y,_,src,hk,hm,hy,UY hs V8,UM hs K7,.inl ⟨rfl,rfl,WB⟩,fun fz h1 h2 bt X8=>?_⟩;exact⟨vs,D7,hA,hv fz h1 h2 vs h3 bt 1 (Hg hs X8)⟩
  ·obtain⟨e,he,hk⟩:=Cz hk;unfold Afl at hk;split at hk
   ·rename_i id es' off n ep;rw[ep] at hx;split at hk
    ·rename_i c h0;obtain⟨hb,F3⟩:=Aq hk;simp only[Fb] at hb;have he:=D9 hb.1;have hof:=D9 hb.2;subst hof;obtain⟨src,WB,hs⟩:=Y2 (some (id,0)) (fun _=>none);refine⟨_,[],[],_,src,F3,by simp,by simp,UY hs (by simp),UM hs (by simp),.inr ⟨_,rfl,⟨_,rfl⟩,WB,c,h0⟩,fun fz h1 h2 bt X8=>⟨_,_,_,rfl,?_⟩⟩;have KZ:bt 0=β id:=by rw[X8,WB];exact YD β id
     rw[KZ];rcases hx with⟨h3,_,h4,h5⟩|⟨b,ob,y,cap,h3,h4,hy,h5,h6,h7⟩
     ·refine .inl ⟨h3,h4,?_,h5⟩;rcases h.box id _ h0 with⟨_,h8⟩|⟨_,_,h8,_⟩
      ·exact h8
      ·rw[h3] at h8;cases h8
     ·have hy:y=ob:=by rcases hy with e|⟨_,e⟩<;>omega
      subst hy;rcases h.box id _ h0 with⟨h8,_⟩|⟨b',o',h8,h9,h10,_⟩
      ·rw[h3] at h8;cases h8
      ·rw[h3] at h8;cases h8;exact .inr ⟨b,y,cap,h3,h4,h5,by rw[<-he];exact h6,h7,h9.weak (fun b _ hb=>Pa hb),h10 rfl⟩
    ·cases hk
   ·obtain⟨z,n,c,hk,hp⟩:=Gq hk;obtain⟨hz,hk⟩:=Aq hk;subst hz;obtain⟨src,WB,hs⟩:=Y2 none (fun _=>none)
    have hu:a.eval x=.slice none 0 0:=by
     have hF:Cn w (D2 s.hp β Y) β (Cm s.tm x) (a.eval x):=by rcases hp with e|⟨e,_⟩<;>rw[e] at hx ⊢ <;> exact hx
     have:=Xr hp hF;generalize a.eval x=u at this;cases this;rfl
    refine⟨_,[],[],_,src,hk,by simp,by simp,UY hs (by simp),UM hs (by simp),.inr ⟨_,rfl,⟨_,rfl⟩,WB⟩,fun fz h1 h2 bt X8=>⟨_,_,_,rfl,.inl ⟨by rw[X8,WB];rfl,rfl,rfl,none,hu⟩⟩⟩
structure A0d(i0 n:Nat)(src:Nat->Nat->Option (Nat × Nat))(ids x:B8):Prop where
 dom:∀i j q,src i j=some q->i0<=i/\i<i0+n
 lent:∀i id off,src i 0=some (id,off)->id∈ids
 mvd:∀i j id off,src i (j+1)=some (id,off)->off=0/\id∈x
 inj0:E5 ids=true->∀i i' id off off',src i 0=some (id,off)->src i' 0=some (id,off')->i=i'
 inj1:E5 x=true->∀i i' j j' id off off',src i (j+1)=some (id,off)->src i' (j'+1)=some (id,off')->i=i'/\j=j'
theorem Yp{hp:Nat->Option Cd}{src src':Nat->Nat->Option (Nat × Nat)}:∀{ps:Al}{i:Nat}{l:List H0},(∀k,i<=k->src' k=src k)->Q4 hp src i ps l->Q4 hp src' i ps l
 |[],_,_,_,h=>h
 |p::ps,i,l,hs,h=>by
  rcases h with⟨h1,h2,h3⟩|⟨x,l',rfl,h2,h3⟩
  ·exact .inl ⟨h1,by rw[hs i (Cc _)];exact h2,Yp (fun k hk=>hs k (by omega)) h3⟩
  ·exact .inr ⟨x,l',rfl,by rw[hs i (Cc _)];exact h2,Yp (fun k hk=>hs k (by omega)) h3⟩
theorem DQ{bt bt':AO}:∀{ps:Al}{us:List Value}{i:Nat},(∀k,i<=k->∀j,bt' k j=bt k j)->Ma w A bt i ps us->Ma w A bt' i ps us
 |[],[],_,_,_=>trivial
 |[],_::_,_,_,h=>h.elim
 |_::_,[],_,_,h=>h.elim
 |_::_,_::_,i,hb,h=>⟨by rw[show bt' i=bt i from funext (hb i (Cc _))];exact h.1,DQ (fun k hk=>hb k (by omega)) h.2⟩
theorem NN(h:Dl N w0 X0 Y β s a w){C:H2}{f:FuncId}:∀{ts:List TypeId}{xs:List Operand}{i:Nat}{K:Al->B8->B8->List H0->Option R},NX C P f s.hp i ts (xs.map (Cm s.tm)) K=some r ->
  ∃vs m y l,∃src:Nat->Nat->Option (Nat × Nat),K vs m y l=some r/\(∀id∈m,∃f cc,s.hp id=some (.ar f cc))/\(∀id∈y,∃cc,s.hp id=some (.ar false cc)) /\
   A0d i xs.length src (l.flatMap H0.ids) y/\Q4 s.hp src i vs l /\
   ∀fz:B8,(∀id∈m,id∈fz)->(∀id∈fz,∃f cc,s.hp id=some (.ar f cc))->∀bt:AO,(∀i j,bt i j=(src i j).bind (Ib β))->Ma w (D2 (Aj s.hp fz) β Y) bt i vs (xs.map a.eval)
 |[],[],i,K,hk=>⟨[],[],[],[],fun _ _=>none,hk,by simp,by simp,⟨by simp,by simp,by simp,by simp,by simp⟩,rfl,fun _ _ _ _ _=>trivial⟩
 |[],_::_,i,K,hk=>by cases hk
 |_::_,[],i,K,hk=>by cases hk
 |t::ts,x::xs,i,K,hk=>by
  simp only[Xy] at hk;unfold NX at hk;obtain⟨v,m,y,l,src,hk,hm,hy,hs1,FI,hl,hv⟩:=XA h hk;obtain⟨vs,ms,ys,ls,srcs,hk,GE,hys,hS,hL,T8⟩:=NN h hk;have Y2:∃sr:Nat->Nat->Option (Nat × Nat),sr i=src/\∀k,k≠i->sr k=srcs k:=⟨fun k=>if k=i then src else srcs k,by simp,fun k hk=>by simp[hk]⟩
  obtain⟨sr,hsi,ZL⟩:=Y2
  have KW:∀id off,src 0=some (id,off)->id∈l.flatMap H0.ids:=by
   intro id off e;rcases hl with⟨_,_,h3⟩|⟨x',rfl,h3⟩
   ·rw[h3] at e;cases e
   ·cases x' with
    |var id' off' cts ws=>rw[h3.2.1] at e;cases e;simp[H0.ids]
    |row id'=>rw[h3.2.1] at e;cases e;simp[H0.ids]
    |none=>rw[h3.2] at e;cases e
  refine⟨v::vs,m++ms,y++ys,l++ls,sr,hk,?_,?_,⟨?_,?_,?_,?_,?_⟩,?_,fun fz h1 h2 bt X8=>⟨?_,?_⟩⟩
  ·intro i hi;rcases Bu.1 hi with hi|hi
   ·exact hm i hi
   ·exact GE i hi
  ·intro i hi;rcases Bu.1 hi with hi|hi
   ·exact hy i hi
   ·exact hys i hi
  ·intro k j q hq;simp only[Ub];by_cases e:k=i
   ·subst e;omega
   ·rw[ZL k e] at hq;have:=hS.dom k j q hq;omega
  ·intro k id off hq;rw[List.flatMap_append];by_cases e:k=i
   ·subst e;rw[hsi] at hq;exact Bu.2 (.inl (KW id off hq))
   ·rw[ZL k e] at hq;exact Bu.2 (.inr (hS.lent k id off hq))
  ·intro k j id off hq;by_cases e:k=i
   ·subst e;rw[hsi] at hq;exact⟨(hs1 j id off hq).1,Bu.2 (.inl (hs1 j id off hq).2)⟩
   ·rw[ZL k e] at hq;exact⟨(hS.mvd k j id off hq).1,Bu.2 (.inr (hS.mvd k j id off hq).2)⟩
  ·intro hn k k' id off off' hq Gz;rw[List.flatMap_append] at hn;obtain⟨_,h4,h5⟩:=Ju hn;by_cases e:k=i
   ·by_cases e':k'=i
    ·omega
    ·rw[ZL k' e'] at Gz;subst e;rw[hsi] at hq;exact absurd (hS.lent k' id off' Gz) (h5 id (KW id off hq))
   ·rw[ZL k e] at hq;by_cases e':k'=i
    ·subst e';rw[hsi] at Gz;exact absurd (hS.lent k id off hq) (h5 id (KW id off' Gz))
    ·rw[ZL k' e'] at Gz;exact hS.inj0 h4 k k' id off off' hq Gz
  ·intro hn k k' j j' id off off' hq Gz;obtain⟨h3,h4,h5⟩:=Ju hn;by_cases e:k=i
   ·by_cases e':k'=i
    ·subst e;subst e';rw[hsi] at hq Gz;exact⟨rfl,FI h3 j j' id off off' hq Gz⟩
    ·rw[ZL k' e'] at Gz;subst e;rw[hsi] at hq;exact absurd (hS.mvd k' j' id off' Gz).2 (h5 id (hs1 j id off hq).2)
   ·rw[ZL k e] at hq;by_cases e':k'=i
    ·subst e';rw[hsi] at Gz;exact absurd (hS.mvd k j id off hq).2 (h5 id (hs1 j' id off' Gz).2)
    ·rw[ZL k' e'] at Gz;exact hS.inj1 h4 k k' j j' id off off' hq Gz
  ·have Xi:Q4 s.hp sr (i+1) vs ls:=Yp (fun k hk=>ZL k (by omega)) hL;rcases hl with⟨rfl,hnp,h3⟩|⟨x',rfl,h3⟩
   ·exact .inl ⟨hnp,by rw[hsi];exact h3,Xi⟩
   ·exact .inr ⟨x',ls,rfl,by rw[hsi];exact h3,Xi⟩
  ·exact hv fz (fun i hi=>h1 i (by simp[hi])) h2 (bt i) (fun j=>by rw[X8,hsi])
  ·refine T8 fz (fun i hi=>h1 i (by simp[hi])) h2 (fun k j=>(srcs k j).bind (Ib β)) (fun _ _=>rfl) |> DQ fun k hk j=>?_
   rw[X8,ZL k (by omega)]
end
open Go.RowKit
section
variable {R:Type}{r:R}{P:Program}{N:Nat}{w0:World}{X0:Jb}{Y:Nat->Prop}{β β':Bt}{s:St}{a:Act}{w w':World}{o:Oper}{A:Nat->Prop}
theorem Ahp{p:PV}{u:Value}(h:A3 w A p u):Cn w A β p u:=by have h0:=h;cases h<;>exact h0
theorem Aiv{t:Nat}{ct:CT}{was p:PV}{K:Nat->PV->List (Nat × Cd)->Option R}(hk:Aea N t ct was p K=some r):
  (∃c,K t c []=some r/\Xl c/\∀w A q u,Hn w A q p u->A3 w A c u)\/∃es n cc,p=.own es n cc/\K (t+1) (.view (WE N t) es 0 n) [(WE N t,.ar false cc)]=some r:=by
 have tree:∀t',(CU t' p fun c=>K t c [])=some r->∃c,K t c []=some r/\Xl c/\∀w A q u,Hn w A q p u->A3 w A c u:=by
  intro t' hk;obtain⟨c,hk,hT,GK,hv⟩:=N1 hk;refine⟨c,hk,hT,fun w A q u h=>(hv w A (fun _=>none) u ?_).1⟩;cases p<;>first|exact h|exact GK.elim
 unfold Aea at hk;cases ct with
 |sl es=>
  dsimp only at hk;split at hk
  ·unfold FJ at hk;split at hk
   ·rename_i es' n c;cases hb:Nat.beq es' es<;>rw[hb] at hk
    ·cases hk
    ·have:=D9 hb;subst this;exact .inr ⟨_,_,_,rfl,hk⟩
   ·cases hk
  ·have h2:(CU (.sl es) p fun c=>(match c with | .lst _ es n c=>K t (.lst false es n c) []|_=>none))=some r:=hk;obtain⟨c,hk,hT,GK,hv⟩:=N1 h2;split at hk
   ·refine .inl ⟨_,hk,hT,fun w A q u h=>A3.unz (hv w A (fun _=>none) u ?_).1⟩;cases p<;>first|exact h|exact GK.elim
   ·cases hk
 |int k=>exact .inl (tree _ hk)
 |bool=>exact .inl (tree _ hk)
 |str=>exact .inl (tree _ hk)
 |any=>exact .inl (tree _ hk)
theorem BD:∀{cts:List CT}{ws ps:Al}{t:Nat}{K:Nat->Al->List (Nat × Cd)->Option R},NS N t cts ws ps K=some r ->
  ∃t' cs bs,∃qs:List (Nat × Nat),K t' cs bs=some r/\cs.length=ps.length/\ps.length=ws.length/\bs.map (·.1)=qs.map (·.1)/\(∀q∈qs,(∃k,q.1=WE N k)/\q.2<ps.length)/\(∀q∈qs,∀q'∈qs,q.2=q'.2->q.1=q'.1) /\
   (∀i bx,(i,bx)∈bs->∃c,bx=.ar false c)/\(∀c∈cs,∀i∈Aw c,∃bx,(i,bx)∈bs) /\
   ∀(w:World) (A:Nat->Prop) (own β':Bt) (j0:Nat) (us:List Value),(∀q∈qs,β' q.1=own (j0+q.2))->F1 w A own j0 ps us->Bo (Cn w A β') cs us/\∀i bx,(i,bx)∈bs->Tg w A β' i bx
 |[],[],ps,t,K,hk=>by
  obtain⟨rfl,hk⟩:=Ej hk;refine⟨t,[],[],[],hk,rfl,rfl,rfl,by simp,by simp,by simp,by simp,fun w A own β' j0 us _ h=>⟨?_,by simp⟩⟩;cases us with
  |nil=>trivial
  |cons u us=>exact h.elim
 |[],_::_,_,_,_,hk=>by cases hk
 |_::_,[],_,_,_,hk=>by cases hk
 |ct::cts,x::ws,ps,t,K,hk=>by
  unfold NS at hk;obtain⟨p,ps',EQ,E6⟩:=Bh hk;subst EQ;rcases Aiv E6 with⟨c,F3,hT,hv⟩|⟨es,n,cc,rfl,F3⟩
  ·obtain⟨t',cs,bs,qs,Mx,hl,Lp,hb,V8,K7,Fy,It,T8⟩:=BD F3;refine⟨t',c::cs,bs,qs.map (fun q=>(q.1,q.2+1)),Mx,by simp[hl],by simp[Lp],by rw[hb];simp,?_,?_,Fy,?_,fun w A own β' j0 us hβ ho=>?_⟩
   ·intro q hq;obtain⟨q0,Wm,rfl⟩:=List.mem_map.1 hq;exact⟨(V8 q0 Wm).1,by have:=(V8 q0 Wm).2;simp only[Ub];omega⟩
   ·intro q hq q' Gz e;obtain⟨q0,Wm,rfl⟩:=List.mem_map.1 hq;obtain⟨q1,Kx,rfl⟩:=List.mem_map.1 Gz;exact K7 q0 Wm q1 Kx (by simp only at e;omega)
   ·intro y hy i hi;rcases List.mem_cons.1 hy with rfl|hy
    ·rw[I1 hT] at hi;cases hi
    ·exact It y hy i hi
   ·cases us with
    |nil=>exact ho.elim
    |cons u us=>
     obtain⟨h1,h2⟩:=T8 w A own β' (j0+1) us (fun q hq=>by rw[hβ _ (List.mem_map_of_mem hq)];congr 1;simp only;omega) ho.2
     exact⟨⟨Ahp (hv w A _ u ho.1),h1⟩,h2⟩
  ·obtain⟨t',cs,bs,qs,Mx,hl,Lp,hb,V8,K7,Fy,It,T8⟩:=BD F3;refine⟨t',_::cs,(WE N t,.ar false cc)::bs,(WE N t,0)::qs.map (fun q=>(q.1,q.2+1)),Mx,by simp[hl],by simp[Lp],by simp only[Xy,hb];simp,?_,?_,?_,?_,fun w A own β' j0 us hβ ho=>?_⟩
   ·intro q hq;rcases List.mem_cons.1 hq with rfl|hq
    ·exact⟨⟨t,rfl⟩,by simp⟩
    ·obtain⟨q0,Wm,rfl⟩:=List.mem_map.1 hq;exact⟨(V8 q0 Wm).1,by have:=(V8 q0 Wm).2;simp only[Ub];omega⟩
   ·intro q hq q' Gz e;rcases List.mem_cons.1 hq with rfl|hq
    ·rcases List.mem_cons.1 Gz with rfl|Gz
     ·rfl
     ·obtain⟨q0,Wm,rfl⟩:=List.mem_map.1 Gz;simp only at e;omega
    ·obtain⟨q0,Wm,rfl⟩:=List.mem_map.1 hq;rcases List.mem_cons.1 Gz with rfl|Gz
     ·simp only at e;omega
     ·obtain⟨q1,Kx,rfl⟩:=List.mem_map.1 Gz;exact K7 q0 Wm q1 Kx (by simp only at e;omega)
   ·intro i bx hm;rcases List.mem_cons.1 hm with e|hm
    ·cases e;exact⟨cc,rfl⟩
    ·exact Fy i bx hm
   ·intro y hy i hi;rcases List.mem_cons.1 hy with rfl|hy
    ·simp only[Aw,P7] at hi;subst hi;exact⟨_,Yd⟩
    ·obtain⟨bx,My⟩:=It y hy i hi;exact⟨bx,Su _ My⟩
   ·cases us with
    |nil=>exact ho.elim
    |cons u us=>
     obtain⟨h1,h2⟩:=T8 w A own β' (j0+1) us (fun q hq=>by rw[hβ _ (Su _ (List.mem_map_of_mem hq))];congr 1;simp only;omega) ho.2
     have h0:=hβ (WE N t,0) Yd;simp only[KT] at h0;refine⟨⟨?_,h1⟩,fun i bx hm=>?_⟩
     ·rcases ho.1 with⟨h3,rfl,_,h5⟩|⟨b,ob,cap,h3,h4,h5,h6,h7,_⟩
      ·exact .inl ⟨h0.trans h3,rfl,rfl,h5⟩
      ·exact .inr ⟨b,ob,ob,cap,h0.trans h3,h4,.inl rfl,h5,h6,h7⟩
     ·rcases List.mem_cons.1 hm with e|hm
      ·cases e;exact Y8 ho.1 h0
      ·exact h2 i bx hm
def XH(hp Dn:Nat->Option Cd)(bs:List (Nat × Cd))(x:H0):Prop:=
 match x with
 |.var id off _ ws=>∃c cs,hp id=some (.st c)/\Dn id=some (.st (Cw c cs off))/\cs.length=ws.length/\off+cs.length<=c.length/\∀p∈cs,∀i∈Aw p,∃bx,(i,bx)∈bs
 |.row id=>∃c cs,hp id=some (.ar false c)/\Dn id=some (.ar false cs)
 |.none=>True
def Afq(β β':Bt)(w':World)(A:Nat->Prop)(hp Dn:Nat->Option Cd)(x:H0):Prop:=
 match x with
 |.var id off _ ws=>∃c cs,hp id=some (.st c)/\Dn id=some (.st (Cw c cs off))/\cs.length=ws.length/\off+cs.length<=c.length /\
   ∀b o,β id=some (b,o)->(∀(j:Nat) p,cs[j]?=some p->∃v,w'.cell? ⟨b,o+off+j,none⟩=some v/\Cn w' A β' p v)/\∀j,j<cs.length->w'.frozen? ⟨b,o+off+j,none⟩=false
 |.row id=>∃cs,Dn id=some (.ar false cs)/\((β id=none/\cs=[])\/∃b o,β id=some (b,o)/\WD w' A ⟨b,o,none⟩ cs/\∀j,o<=j->j<bsz w' b->w'.frozen? ⟨b,j,none⟩=false)
 |.none=>True
theorem AC{hp Da Dn:Nat->Option Cd}{bs bs1:List (Nat × Cd)}{x:H0}(h1:∀i∈x.ids,Da i=hp i)(hb:∀q∈bs,q∈bs1)(h:XH Da Dn bs x):XH hp Dn bs1 x:=by
 cases x with
 |var id off cts ws=>
  obtain⟨c,cs,h2,h3,h4,h5,h6⟩:=h;refine⟨c,cs,by rw[<-h1 id (by simp[H0.ids])];exact h2,h3,h4,h5,fun p hp i hi=>?_⟩
  obtain⟨bx,My⟩:=h6 p hp i hi;exact⟨bx,hb _ My⟩
 |row id=>
  obtain⟨c,cs,h2,h3⟩:=h;exact⟨c,cs,by rw[<-h1 id (by simp[H0.ids])];exact h2,h3⟩
 |none=>trivial
theorem DG{hp Da Dn:Nat->Option Cd}{x:H0}(h1:∀i∈x.ids,Da i=hp i)(h:Afq β β' w' A Da Dn x):Afq β β' w' A hp Dn x:=by
 cases x with
 |var id off cts ws=>
  obtain⟨c,cs,h2,h3⟩:=h;exact⟨c,cs,by rw[<-h1 id (by simp[H0.ids])];exact h2,h3⟩
 |row id=>exact h
 |none=>trivial
theorem Adu{hp Da:Nat->Option Cd}{q:Option (Nat × Nat)}{p:PV}{x:H0}(h1:∀i∈x.ids,Da i=hp i)(h:LOk hp q p x):LOk Da q p x:=by
 cases x with
 |var id off cts ws'=>
  obtain⟨h2,h3,h5,c,h6,h7⟩:=h;exact⟨h2,h3,h5,c,by rw[h1 id (by simp[H0.ids])];exact h6,h7⟩
 |row id=>
  obtain⟨h2,h3,c,h4⟩:=h;exact⟨h2,h3,c,by rw[h1 id (by simp[H0.ids])];exact h4⟩
 |none=>exact h
theorem Zj{hp Da:Nat->Option Cd}{src:Nat->Nat->Option (Nat × Nat)}:∀{ps:Al}{i:Nat}{l:List H0},(∀i∈l.flatMap H0.ids,Da i=hp i)->Q4 hp src i ps l->Q4 Da src i ps l
 |[],_,_,_,h=>h
 |p::ps,i,l,hs,h=>by
  rcases h with⟨h1,h2,h3⟩|⟨x,l',rfl,h2,h3⟩
  ·exact .inl ⟨h1,h2,Zj hs h3⟩
  ·exact .inr ⟨x,l',rfl,Adu (fun k hk=>hs k (by simp only[Kg,Bu];exact .inl hk)) h2,Zj (fun k hk=>hs k (by simp only[Kg,Bu];exact .inr hk)) h3⟩
theorem XX{own:Bt}{bt:AO}{j i:Nat}{p:PV}{zs:Al}{r:List Al}(hp:AQ p=false)(h:Xe w A own bt j i (p::zs) r):Xe w A own bt j (i+1) zs r:=by cases p<;>first|exact h|cases hp
theorem Ul{src:Nat->Nat->Option (Nat × Nat)}{β:Bt}:∀{zs:Al}{l:List H0}{ro:List Al} {i j t:Nat}{hp:Nat->Option Cd}{K:(Nat->Option Cd)->List (Nat × Cd)->Option R},
  Xs N t l ro hp K=some r->Q4 hp src i zs l->E5 (l.flatMap H0.ids)=true ->
  ∃Dn bs,∃qs:List (Nat × Nat),K Dn bs=some r/\bs.map (·.1)=qs.map (·.1)/\(∀q∈qs,(∃k,q.1=WE N k)/\j<=q.2)/\(∀q∈qs,∀q'∈qs,q.2=q'.2->q.1=q'.1)/\(∀i bx,(i,bx)∈bs->∃c,bx=.ar false c) /\
   (∀i,i ∉ l.flatMap H0.ids->Dn i=hp i)/\(∀x∈l,XH hp Dn bs x) /\
   ∀(w':World) (A:Nat->Prop) (own β':Bt) (bt:AO),(∀q∈qs,β' q.1=own q.2)->(∀i,bt i 0=(src i 0).bind (Ib β))->Xe w' A own bt j i zs ro ->
    (∀i bx,(i,bx)∈bs->Tg w' A β' i bx)/\∀x∈l,Afq β β' w' A hp Dn x
 |[],l,ro,i,j,t,hp,K,hk,hL,hn=>by
  have hL:l=[]:=hL;subst hL;unfold Xs at hk;obtain⟨rfl,hk⟩:=Ej hk;exact⟨hp,[],[],hk,rfl,by simp,by simp,by simp,fun _ _=>rfl,by simp,fun w' A own β' bt _ _ _=>⟨by simp,by simp⟩⟩
 |p::zs,l0,ro,i,j,t,hp,K,hk,hL0,hn=>by
  rcases hL0 with⟨Sl,_,hL⟩|⟨x,l,rfl,hok,hL⟩
  rotate_left
  ··simp only[Kg] at hn;obtain⟨TL,hn2,hn3⟩:=Ju hn;cases x with
    |var id off cts ws'=>
     obtain⟨rfl,Y2,Mz,c,hc,BU⟩:=hok;unfold Xs at hk;obtain⟨cs,ro',hro,E6⟩:=Bh hk;subst hro;obtain⟨t',cs',bs,qs,F3,HS,Pu,hb,V8,K7,Fy,It,hv⟩:=BD E6;rw[hc] at F3;simp only at F3;change Xs N t' l ro' (Di hp id (some (.st (Cw c cs' off)))) (fun Dn bs'=>K Dn (bs++bs'))=some r at F3;have YC:id ∉ l.flatMap H0.ids:=hn3 id (by simp[H0.ids]);have hL':Q4 (Di hp id (some (.st (Cw c cs' off)))) src (i+1) zs l:=Zj (fun k hkm=>Ap _ _ (fun e=>YC (e ▸ hkm))) hL;obtain⟨Dn,bs',qs',Mx,Jf,Kx,XF,WX,Ml,hsh,PS⟩:=Ul (β:=β) (j:=j+cs.length) F3 hL' hn2;have Agx:Dn id=some (.st (Cw c cs' off)):=by rw[Ml id YC,At]
     have IU:∀x∈l,∀k∈x.ids,Di hp id (some (.st (Cw c cs' off))) k=hp k:=fun x hx k hkm=>Ap _ _ (fun e=>YC (e ▸ List.mem_flatMap.2 ⟨x,hx,hkm⟩));refine⟨Dn,bs++bs',qs.map (fun q=>(q.1,j+q.2))++qs',Mx,by simp only[List.map_append,hb,Jf];simp,?_,?_,?_,?_,?_,fun w' A own β' bt hβ X8 ho=>?_⟩
     ·intro q hq;rcases Bu.1 hq with hq|hq
      ·obtain⟨q0,Wm,rfl⟩:=List.mem_map.1 hq;exact⟨(V8 q0 Wm).1,by simp only;omega⟩
      ·exact⟨(Kx q hq).1,by have:=(Kx q hq).2;omega⟩
     ·intro q hq q' Gz e;rcases Bu.1 hq with hq|hq
      ·obtain⟨q0,Wm,rfl⟩:=List.mem_map.1 hq;have:=(V8 q0 Wm).2;rcases Bu.1 Gz with Gz|Gz
       ·obtain⟨q1,Kx,rfl⟩:=List.mem_map.1 Gz;exact K7 q0 Wm q1 Kx (by simp only at e;omega)
       ·have:=(Kx q' Gz).2;simp only at e;omega
      ·have h5:=(Kx q hq).2;rcases Bu.1 Gz with Gz|Gz
       ·obtain⟨q1,Au1,rfl⟩:=List.mem_map.1 Gz;have:=(V8 q1 Au1).2;simp only at e;omega
       ·exact XF q hq q' Gz e
     ·intro k bx hm;rcases Bu.1 hm with hm|hm
      ·exact Fy k bx hm
      ·exact WX k bx hm
     ·intro k hk;simp only[Kg,Bu,not_or] at hk;rw[Ml k hk.2];exact Ap _ _ (by rintro rfl;exact hk.1 (by simp[H0.ids]))
     ·intro x hx;rcases List.mem_cons.1 hx with rfl|hx
      ·refine⟨c,cs',hc,Agx,by omega,by omega,fun p hp k hk=>?_⟩;obtain⟨bx,My⟩:=It p hp k hk;exact⟨bx,Bu.2 (.inl My)⟩
      ·exact AC (IU x hx) (fun q hq=>Bu.2 (.inr hq)) (hsh x hx)
     ·obtain⟨⟨b,ob,KZ,Do,vs,hov,Dv,hfr⟩,ho⟩:=ho
      ·obtain⟨h1,h2⟩:=hv w' A own β' j vs (fun q hq=>hβ _ (Bu.2 (.inl (List.mem_map_of_mem hq)))) hov;obtain⟨h3,h4⟩:=PS w' A own β' bt (fun q hq=>hβ q (Bu.2 (.inr hq))) X8 ho;refine⟨fun k bx hm=>?_,fun x hx=>?_⟩
       ·rcases Bu.1 hm with hm|hm
        ·exact h2 k bx hm
        ·exact h3 k bx hm
       ·rcases List.mem_cons.1 hx with rfl|hx
        ·refine⟨c,cs',hc,Agx,by omega,by omega,fun b1 o1 hβ1=>?_⟩;have It:=X8 i;rw[KZ,Y2] at It;simp only[Option.bind_some,Ib,hβ1,Option.map_some,Option.some.injEq,Prod.mk.injEq] at It;obtain⟨rfl,rfl⟩:=It;refine⟨fun k p hp=>?_,fun k hk=>hfr k (by omega)⟩;obtain⟨v,hv,RN⟩:=h1.get hp;exact⟨v,Dv k v hv,RN⟩
        ·exact DG (IU x hx) (h4 x hx)
    |row id=>
     obtain⟨⟨pz,rfl⟩,Y2,c,hc⟩:=hok;unfold Xs at hk;obtain⟨cs,ro',hro,F3⟩:=Bh hk;subst hro;have YC:id ∉ l.flatMap H0.ids:=hn3 id (by simp[H0.ids]);have hL':Q4 (Di hp id (some (.ar false cs))) src (i+1) zs l:=Zj (fun k hkm=>Ap _ _ (fun e=>YC (e ▸ hkm))) hL;obtain⟨Dn,bs',qs',Mx,Jf,Kx,XF,WX,Ml,hsh,PS⟩:=Ul (β:=β) (j:=j) F3 hL' hn2;have Agx:Dn id=some (.ar false cs):=by rw[Ml id YC,At]
     have IU:∀x∈l,∀k∈x.ids,Di hp id (some (.ar false cs)) k=hp k:=fun x hx k hkm=>Ap _ _ (fun e=>YC (e ▸ List.mem_flatMap.2 ⟨x,hx,hkm⟩));refine⟨Dn,bs',qs',Mx,Jf,Kx,XF,WX,?_,?_,fun w' A own β' bt hβ X8 ho=>?_⟩
     ·intro k hk;simp only[Kg,Bu,not_or] at hk;rw[Ml k hk.2];exact Ap _ _ (by rintro rfl;exact hk.1 (by simp[H0.ids]))
     ·intro x hx;rcases List.mem_cons.1 hx with rfl|hx
      ·exact⟨c,cs,hc,Agx⟩
      ·exact AC (IU x hx) (fun q hq=>hq) (hsh x hx)
     ·obtain⟨Ad8,ho⟩:=ho
      ·obtain⟨h3,h4⟩:=PS w' A own β' bt hβ X8 ho;refine⟨h3,fun x hx=>?_⟩;rcases List.mem_cons.1 hx with rfl|hx
       ·refine⟨cs,Agx,?_⟩;have It:=X8 i;rw[Y2] at It;simp only[Option.bind_some,YD] at It;rw[It] at Ad8;exact Ad8
       ·exact DG (IU x hx) (h4 x hx)
    |none=>
     obtain⟨⟨pz,rfl⟩,Y2⟩:=hok;unfold Xs at hk;obtain⟨cs,ro',hro,F3⟩:=Bh hk;subst hro;obtain⟨Dn,bs',qs',Mx,Jf,Kx,XF,WX,Ml,hsh,PS⟩:=Ul (β:=β) (j:=j) F3 hL hn2;refine⟨Dn,bs',qs',Mx,Jf,Kx,XF,WX,?_,?_,fun w' A own β' bt hβ X8 ho=>?_⟩
     ·intro k hk;simp only[Kg,Bu,not_or] at hk;exact Ml k hk.2
     ·intro x hx;rcases List.mem_cons.1 hx with rfl|hx
      ·trivial
      ·exact hsh x hx
     ·obtain⟨Ad8,ho⟩:=ho
      ·obtain⟨h3,h4⟩:=PS w' A own β' bt hβ X8 ho;refine⟨h3,fun x hx=>?_⟩;rcases List.mem_cons.1 hx with rfl|hx
       ·trivial
       ·exact h4 x hx
  ·obtain⟨Dn,bs',qs',Mx,Jf,Kx,XF,WX,Ml,hsh,PS⟩:=Ul (β:=β) (j:=j) hk hL hn;exact⟨Dn,bs',qs',Mx,Jf,Kx,XF,WX,Ml,hsh,fun w' A own β' bt hβ X8 ho=>PS w' A own β' bt hβ X8 (XX Sl ho)⟩
end
open Go.RowKit
theorem G7(hp:Nat->Option Cd)(ids:B8)(i:Nat):Vm hp ids i=if i∈ids then (hp i).map (fun _=>Cd.mv) else hp i:=by
 unfold Vm;by_cases hi:i∈ids
 ·have:ids.any (Nat.beq i)=true:=List.any_eq_true.2 ⟨i,hi,Pz i⟩;rw[this,Bq hi];rfl
 ·have:ids.any (Nat.beq i)=false:=by
   cases hb:ids.any (Nat.beq i)
   ·rfl
   ·obtain⟨j,hj,e⟩:=List.any_eq_true.1 hb;exact absurd (D9 e ▸ hj) hi
  rw[this,Bg hi];rfl
theorem Sn:∀{nw:List (Nat × Cd)} {hp:Nat->Option Cd},Cf hp nw=true->(nw.map (·.1)).Nodup
 |[],_,_=>List.nodup_nil
 |(i,b)::r,hp,h=>by
  simp only[Cf,Fb,Option.isNone_iff_eq_none,Bool.not_eq_true'] at h;simp only[Xy,List.nodup_cons];refine⟨fun hm=>?_,Sn h.2⟩;obtain⟨q,hq,e⟩:=List.mem_map.1 hm;have:r.any (fun q=>Nat.beq q.1 i)=true:=List.any_eq_true.2 ⟨q,hq,by rw[e];exact Pz i⟩
  rw[this] at h;cases h.1.2
theorem Aj3:∀{l:List (Nat × Nat)},(l.map (·.1)).Nodup->∀q∈l,Wl l q.1=some q.2
 |[],_,_,h=>by cases h
 |(j,b)::r,hn,q,hq=>by
  simp only[Xy,List.nodup_cons] at hn;unfold Wl;rcases List.mem_cons.1 hq with rfl|hq
  ·simp only[Pz,cond_true]
  ·have:Nat.beq q.1 j=false:=by
    cases hb:Nat.beq q.1 j
    ·rfl
    ·exact absurd (D9 hb ▸ List.mem_map_of_mem hq) hn.1
   simp only[this,cond_false];exact Aj3 hn.2 q hq
theorem RR:∀{l:List (Nat × Nat)} {i:Nat},i ∉ l.map (·.1)->Wl l i=none
 |[],_,_=>rfl
 |(j,b)::r,i,h=>by
  simp only[Xy,List.mem_cons,not_or] at h;unfold Wl
  have:Nat.beq i j=false:=by
   cases hb:Nat.beq i j
   ·rfl
   ·exact absurd (D9 hb) h.1
  simp only[this,cond_false];exact RR h.2
section
variable {R:Type}{r:R}{P:Program}{N:Nat}{w0:World}{X0:Jb}{Y:Nat->Prop}{β β':Bt}{s:St}{a:Act}{w w':World}{o:Oper}{A A':Nat->Prop}
theorem Hn.weak(hA:∀b,b<w.heap.size->A' b->A b){q:Option (Nat × Nat)}{p:PV}{u:Value}(h:Hn w A q p u):Hn w A' q p u:=by
 have tr:∀{p:PV},A3 w A p u->A3 w A' p u:=fun h=>h.step (Cy.refl _ _) hA;cases p with
 |own es n c=>
  rcases h with h|⟨b,ob,cap,h1,h2,h3,h4,h5,h6,h7⟩
  ·exact .inl h
  ·exact .inr ⟨b,ob,cap,h1,h2,h3,h4,h5,h6.weak hA,h7⟩
 |_=>exact tr h
theorem F1.weak(hA:∀b,b<w.heap.size->A' b->A b){own:Bt}:∀{ps:Al}{us:List Value}{j:Nat},F1 w A own j ps us->F1 w A' own j ps us
 |[],[],_,_=>trivial
 |[],_::_,_,h=>h.elim
 |_::_,[],_,h=>h.elim
 |_::_,_::_,_,h=>⟨h.1.weak hA,F1.weak hA h.2⟩
theorem SQ.weak(hA:∀b,b<w.heap.size->A' b->A b){bt:Bt}{p:PV}{u:Value}(h:SQ w A bt p u):SQ w A' bt p u:=by
 cases p with
 |pbox ps=>
  obtain⟨b,ob,h1,h2,h3,vs,h4,h5⟩:=h;exact⟨b,ob,h1,h2,h3,vs,h4.weak hA,h5⟩
 |tup ps=>
  obtain⟨es,n,c,h1,h2⟩:=h;exact⟨es,n,c,h1,h2.weak hA⟩
 |agg cs=>
  obtain⟨vs,h1,h2,h3⟩:=h;exact⟨vs,h1,h2,h3.weak hA⟩
 |_=>exact⟨h.1,h.2.weak hA⟩
theorem Ma.weak(hA:∀b,b<w.heap.size->A' b->A b){bt:AO}:∀{ps:Al}{us:List Value}{i:Nat},Ma w A bt i ps us->Ma w A' bt i ps us
 |[],[],_,_=>trivial
 |[],_::_,_,h=>h.elim
 |_::_,[],_,h=>h.elim
 |_::_,_::_,_,h=>⟨h.1.weak hA,Ma.weak hA h.2⟩
theorem AF{bt:AO}(k:Bool):∀{xs:List Operand}{ps:Al}{i:Nat},Ma w A bt i ps (xs.map a.eval)->Ma w A bt i (Kp k xs ps) (xs.map a.eval)
 |[],[],_,h=>h
 |[],_::_,_,h=>h
 |_::_,[],_,h=>h
 |x::xs,p::ps,i,h=>by
  simp only[Xy] at h ⊢;refine⟨?_,AF k h.2⟩;split
  ·exact⟨.inl trivial,A3.lnil _ _⟩
  ·exact h.1
theorem RD(k:Bool)(x:Operand)(xs:List Operand)(p:PV)(ps:Al):∃p',Kp k (x::xs) (p::ps)=p'::Kp k xs ps/\AQ p'=AQ p/\(AQ p=true->p'=p):=by
 refine⟨_,rfl,?_,fun h=>?_⟩
 ·split
  ·rfl
  ·rfl
 ·split
  ·cases h
  ·rfl
theorem S1{hp:Nat->Option Cd}{src:Nat->Nat->Option (Nat × Nat)}(k:Bool):∀{xs:List Operand}{ps:Al}{i:Nat}{l:List H0},Q4 hp src i ps l->Q4 hp src i (Kp k xs ps) l
 |[],[],_,_,h=>h
 |[],_::_,_,_,h=>h
 |_::_,[],_,_,h=>h
 |x::xs,p::ps,i,l,h=>by
  obtain⟨p',e,h1,h2⟩:=RD k x xs p ps;rw[e];rcases h with⟨h3,h4,h5⟩|⟨y,l',rfl,h4,h5⟩
  ·exact .inl ⟨by rw[h1];exact h3,h4,S1 k h5⟩
  ·exact .inr ⟨y,l',rfl,by rw[h2 (Aaf h4)];exact h4,S1 k h5⟩
theorem HT{hp:Nat->Option Cd}{src:Nat->Nat->Option (Nat × Nat)}:∀{ps:Al}{i:Nat}{l:List H0},Q4 hp src i ps l->∀id∈l.flatMap H0.ids,D1 (hp id)/\∃k off,src k 0=some (id,off)
 |[],_,_,h,id,B1=>by
  have h:_=[]:=h;rw[h] at B1;cases B1
 |p::ps,i,l,h,id,B1=>by
  rcases h with⟨_,_,h3⟩|⟨x,l',rfl,h2,h3⟩
  ·exact HT h3 id B1
  ·simp only[Kg,Bu] at B1;rcases B1 with B1|B1
   ·cases x with
    |var id' off cts ws=>
     simp only[H0.ids,P7] at B1;subst B1;obtain⟨_,h4,_,c,h5,_⟩:=h2;exact⟨by rw[h5];trivial,i,_,h4⟩
    |row id'=>
     simp only[H0.ids,P7] at B1;subst B1;obtain⟨_,h4,c,h5⟩:=h2;exact⟨by rw[h5];trivial,i,_,h4⟩
    |none=>simp[H0.ids] at B1
   ·exact HT h3 id B1
theorem Ahs{hp:Nat->Option Cd}{src:Nat->Nat->Option (Nat × Nat)}:∀{ps:Al}{i:Nat}{l:List H0},Q4 hp src i ps l->∀k p id off,ps[k]?=some p->src (i+k) 0=some (id,off) ->
   (∃c ws,hp id=some (.st c)/\p=.pbox ws/\off+ws.length<=c.length)\/((∃c,hp id=some (.ar false c))/\off=0/\∃ws,p=.tup ws)
 |[],_,_,_,k,p,id,off,hp,_=>by simp at hp
 |p::ps,i,l,h,k,p',id,off,Dn,hs=>by
  have Xi:∃l',Q4 hp src (i+1) ps l':=by
   rcases h with⟨_,_,h3⟩|⟨x,l',_,_,h3⟩<;>exact⟨_,h3⟩
  cases k with
  |succ k=>
   obtain⟨l',h'⟩:=Xi;exact Ahs h' k p' id off (by simpa using Dn) (by rw[show i+1+k=i+(k+1) by omega];exact hs)
  |zero=>
   simp only[List.getElem?_cons_zero,Option.some.injEq] at Dn;subst Dn;rw[KT] at hs;rcases h with⟨_,h2,_⟩|⟨x,l',_,h2,_⟩
   ·rw[hs] at h2;cases h2
   ·cases x with
    |var id' off' cts ws=>
     obtain⟨h3,h4,_,c,h5,h6⟩:=h2;rw[hs] at h4;cases h4;exact .inl ⟨c,ws,h5,h3,h6⟩
    |row id'=>
     obtain⟨h3,h4,c,h5⟩:=h2;rw[hs] at h4;cases h4;exact .inr ⟨⟨c,h5⟩,rfl,h3⟩
    |none=>
     have:=h2.2;rw[hs] at this;cases this
theorem TN{hp : Nat -> Option Cd}{src : Nat -> Nat -> Option (Nat × Nat)}{id off : Nat}{cts : List CT}{ws : Al}: ∀ {ps : Al} {i : Nat} {l : List H0}, Q4 hp src i ps l -> H0.var id off cts ws ∈ l ->
      ∃ k, ps[k]? = some (.pbox ws) /\ src (i + k) 0 = some (id, off)
  | [], _, _, h, hm => by
    have h : _ = [] := h
    rw[h] at hm; cases hm
  | p :: ps, i, l, h, hm => by
    have next : ∀ {l'}, Q4 hp src (i + 1) ps l' -> H0.var id off cts ws ∈ l' -> ∃ k, (p :: ps)[k]? = some (.pbox ws) /\ src (i + k) 0 = some (id, off) := by
      intro l' h' Jw
      obtain⟨k, h1, h2⟩ := TN h' Jw
      exact⟨k + 1, by simpa using h1, by rw[show i + (k + 1) = i + 1 + k by omega]; exact h2⟩
    rcases h with⟨_, _, h3⟩ | ⟨x, l', rfl, h2, h3⟩
    · exact next h3 hm
    · rcases List.mem_cons.1 hm with e | hm
      · subst e
        obtain⟨h1, h4, _⟩ := h2
        subst h1
        exact⟨0, rfl, h4⟩
      · exact next h3 hm
theorem UQ{hp:Nat->Option Cd}{src:Nat->Nat->Option (Nat × Nat)}:∀{ps:Al}{i:Nat}{l:List H0},Q4 hp src i ps l->∀k id off,i<=k->src k 0=some (id,off)->k<i+ps.length->∃p,ps[k-i]?=some p/\AQ p=true
 |[],i,_,_,k,id,off,h1,_,h3=>by simp at h3;omega
 |p::ps,i,l,h,k,id,off,h1,h2,h3=>by
  by_cases e:k=i
  ·subst e;rcases h with⟨_,h4,_⟩|⟨x,l',_,h4,_⟩
   ·rw[h2] at h4;cases h4
   ·exact⟨p,by simp,Aaf h4⟩
  ·have Xi:∃l',Q4 hp src (i+1) ps l':=by
    rcases h with⟨_,_,h3⟩|⟨x,l',_,_,h3⟩<;>exact⟨_,h3⟩
   obtain⟨l',h'⟩:=Xi;obtain⟨q,h5,h6⟩:=UQ h' k id off (by omega) h2 (by simp at h3;omega)
   refine⟨q,?_,h6⟩;rw[show k-i=(k-(i+1))+1 by omega]
   simpa using h5
theorem Ma.len{bt:AO}:∀{ps:Al}{us:List Value}{i:Nat},Ma w A bt i ps us->ps.length=us.length
 |[],[],_,_=>rfl
 |[],_::_,_,h=>h.elim
 |_::_,[],_,h=>h.elim
 |_::_,_::_,_,h=>by simp[Ma.len h.2]
theorem TX(h:Dl N w0 X0 Y β s a w){G:Yl}(L0:SK P G w0 X0){C:H2}{call:A7}(Es:∀f args res,call f args=some res->Eb G P f args res){c:Call}{f:FuncId}(ho:o.op=.call c)(hc:c.callee=.value (.func f)){K:St->Option R}(hk:CC C P N call s o f c K=some r):
  ∃s',K s'=some r/\∀(next:Act->World->Prop) (Q:Exit->Act->World->Prop),(∀a' w' β',Dl N w0 X0 Y β' s' a' w'->next a' w')->o.wp P a w next Q:=by
 unfold CC at hk;obtain⟨vs0,m,x,l,src,E6,hm,hx,hS,hL,Ga⟩:=NN h hk;obtain⟨hb,F3⟩:=Aq E6;simp only[Fb] at hb;obtain⟨⟨⟨hnd,Aqk⟩,hN⟩,Adx⟩:=hb;have hN:0<N:=Nat.lt_of_succ_le (Rc hN);obtain⟨hnl,hnx,hlx⟩:=Ju hnd
 have hml:∀i∈m,i ∉ l.flatMap H0.ids/\i ∉ x:=by
  intro i hi;have:=List.all_eq_true.1 Aqk i hi
  have hn:∀k∈l.flatMap H0.ids++x,i≠k:=by
   rintro k hk rfl
   have h2:(l.flatMap H0.ids++x).any (Nat.beq i)=true:=List.any_eq_true.2 ⟨i,hk,Pz i⟩;rw[h2] at this;cases this
  exact⟨fun hq=>hn i (by simp only[Bu];exact .inl hq) rfl,fun hq=>hn i (by simp only[Bu];exact .inr hq) rfl⟩
 replace hL:=S1 (C.kz f) (xs:=c.args.toList) hL
 replace Ga:=fun fz h1 h2 bt X8=>AF (a:=a) (C.kz f) (Ga fz h1 h2 bt X8)
 generalize Kp (C.kz f) c.args.toList vs0=vs at F3 Ga hL;obtain⟨rv,ro,Mz,Mx⟩:=NM F3;obtain⟨ws,bs,V3,QT,YP,DV,hrs,ZB,hws⟩:=BL (C.shr f) N Mx;obtain⟨Rm,YH⟩:=Aq V3;obtain⟨lids,KW⟩:∃lids,l.flatMap H0.ids=lids:=⟨_,rfl⟩
 rw[KW] at hS hnl hlx hml;have Aum:∀i,i ∉ x->Vm (Aj s.hp m) x i=Aj s.hp m i:=fun i hi=>by rw[G7,Bg hi]
 have Aa1:∀i,i∈lids->Vm (Aj s.hp m) x i=s.hp i:=fun i hi=>by
  rw[Aum i (hlx i hi),Ci,Bg (fun hq=>(hml i hq).1 hi)]
 have hLM:Q4 (Vm (Aj s.hp m) x) src 0 vs l:=Zj (fun i hi=>Aa1 i (KW ▸ hi)) hL;obtain⟨Dn,bs',qs,hk6,hbq,V8,K7,Fy,Ml,hsh,PS⟩:=Ul (β:=β) (j:=M1 rv) YH hLM (by rw[KW];exact hnl)
 obtain⟨Rh,hk7⟩:=Aq hk6;refine⟨_,hk7,fun next Q hn=>?_⟩;clear hk E6 F3 Mx V3 YH hk6 hk7;rw[KW] at Ml;obtain⟨⟨fn,hfn,hfb⟩,EV⟩:=Es f vs _ Mz;have hf:=h.freeze hm;have Acz:=HT hL;rw[KW] at Acz
 have MY:∀i,i∈lids\/i∈x->Aj s.hp m i=s.hp i:=by
  intro i hi;rw[Ci,Bg];intro hq;rcases hi with hi|hi
  ·exact (hml i hq).1 hi
  ·exact (hml i hq).2 hi
 have Y7:∀i,i∈lids\/i∈x->D1 (s.hp i):=by
  intro i hi;rcases hi with hi|hi
  ·exact (Acz i hi).1
  ·obtain⟨cc,ZT⟩:=hx i hi;rw[ZT];trivial
 have Au9:∀i j id off,src i j=some (id,off)->id∈lids\/id∈x:=by
  intro i j id off hs;cases j with
  |zero=>exact .inl (hS.lent i id off hs)
  |succ j=>exact .inr (hS.mvd i j id off hs).2
 obtain⟨bt,X8⟩:∃bt:AO,∀i j,bt i j=(src i j).bind (Ib β):=⟨_,fun _ _=>rfl⟩
 have btS:∀{i j b ob},bt i j=some (b,ob)->∃id off o',src i j=some (id,off)/\β id=some (b,o')/\ob=o'+off/\(id∈lids\/id∈x):=by
  intro i j b ob hb;rw[X8] at hb;cases hs:src i j with
  |none=>rw[hs] at hb;cases hb
  |some q=>
   rw[hs] at hb;obtain⟨id,off⟩:=q;simp only[Option.bind_some,Ib] at hb;cases hβ:β id with
   |none=>rw[hβ] at hb;cases hb
   |some p=>
    rw[hβ] at hb;obtain⟨b',o'⟩:=p;simp only[Option.map_some,Option.some.injEq,Prod.mk.injEq] at hb;obtain⟨rfl,rfl⟩:=hb;exact⟨id,off,o',rfl,hβ,rfl,Au9 i j id off hs⟩
 have btX:∀{b},BtX bt b->∃id o',β id=some (b,o')/\(id∈lids\/id∈x):=by
  rintro b ⟨i,j,ob,hb⟩
  obtain⟨id,off,o',_,h2,_,h4⟩:=btS hb;exact⟨id,o',h2,h4⟩
 have hBA:∀b,BtX bt b->OT s.hp β b:=fun b hb=>by
  obtain⟨id,o',h1,h2⟩:=btX hb;exact⟨id,o',Y7 id h2,h1⟩
 obtain⟨Yc,hYc⟩:∃Yc:Nat->Prop,∀b,Yc b↔((∃id ob,D1 (Aj s.hp m id)/\β id=some (b,ob)/\id ∉ lids/\id ∉ x)\/Y b):=⟨_,fun _=>Iff.rfl⟩
 have Do:vs.length=c.args.toList.length:=by
  have:=(Ga m (fun _ hi=>hi) hm bt X8).len
  simpa using this
 have A5t:Ins w Yc bt vs (c.args.toList.map a.eval):=by
  refine⟨fun b hb=>?_,fun b hb hB=>?_,fun b hB=>?_,fun i j i' j' b ob ob' hb Jf=>?_,fun i q hq=>?_,?_⟩
  ·rcases (hYc b).1 hb with⟨id,ob,hl,hβ,_⟩|hY
   ·exact hf.blt id b ob (Dr hl) hβ
   ·exact Gy (h.Ylt b hY) h.fr.step.size
  ·obtain⟨id',o',h1,h2⟩:=btX hB;rcases (hYc b).1 hb with⟨id,ob,hl,hβ,h3,h4⟩|hY
   ·have:=hf.inj id id' b ob o' hl (by show D1 (Aj s.hp m id');rw[MY id' h2];exact Y7 id' h2) hβ h1
    subst this;rcases h2 with h2|h2
    ·exact h3 h2
    ·exact h4 h2
   ·exact h.Yx b hY ⟨id',o',Y7 id' h2,h1⟩
  ·obtain⟨id',o',h1,h2⟩:=btX hB;exact h.blt id' b o' (Dr (Y7 id' h2)) h1
  ·obtain⟨id,off,o1,h1,h2,_,h4⟩:=btS hb;obtain⟨id',off',o1',OO,h2',_,h4'⟩:=btS Jf;have:=h.inj id id' b o1 o1' (Y7 id h4) (Y7 id' h4') h2 h2';subst this;cases j with
   |zero=>
    cases j' with
    |zero=>exact⟨hS.inj0 hnl i i' id off off' h1 OO,rfl⟩
    |succ j'=>exact absurd (hS.mvd i' j' id off' OO).2 (hlx id (hS.lent i id off h1))
   |succ j=>
    cases j' with
    |zero=>exact absurd (hS.mvd i j id off h1).2 (hlx id (hS.lent i' id off' OO))
    |succ j'=>
     obtain⟨h5,h6⟩:=hS.inj1 hnx i i' j j' id off off' h1 OO;exact⟨h5,by rw[h6]⟩
  ·obtain⟨b,ob⟩:=q;obtain⟨id,off,o',h1,_⟩:=btS hq;obtain⟨p,hp,h2⟩:=UQ hL i id off (Nat.zero_le _) h1 (by have:=hS.dom i 0 _ h1;rw[Do];exact this.2)
   exact⟨p,by simpa using hp,h2⟩
  ·refine (Ga m (fun _ hi=>hi) hm bt X8).weak fun b _ hb=>?_;rcases hb with hb|hb
   ·obtain⟨id',o',h1,h2⟩:=btX hb;exact .inl ⟨id',o',by rw[MY id' h2];exact Y7 id' h2,h1⟩
   ·rcases (hYc b).1 hb with⟨id,ob,hl,hβ,_⟩|hY
    ·exact .inl ⟨id,ob,hl,hβ⟩
    ·exact .inr hY
 unfold Oper.wp;rw[TM ho hc L0.ng hfn hfb];show Calls P f _ w _;have hca:c.args.map a.eval=(c.args.toList.map a.eval).toArray:=by rw[<-List.map_toArray,Array.toArray_toList]
 rw[hca];refine (EV w Yc bt _ A5t (L0.fr w h.fr) (fun b x=>⟨Gy (L0.y b x).1 h.fr.step.size,fun hB=>(h.ownd b (hBA b hB)).elim (L0.y b x).2 (fun BU=>absurd (L0.y b x).1 (Nat.not_lt.2 BU))⟩)).mono ?_
 rintro e w' ⟨us,own,rfl,out⟩
 obtain⟨ha1,Sm⟩:=B2 Rh;obtain⟨hg1,hg2⟩:=Fh (hp:=Dn) Sm;have ZF:=Sn Rh;rw[List.map_append,List.nodup_append] at ZF;obtain⟨Baa,Avg,A09⟩:=ZF;rw[hbq] at Avg
 obtain⟨β1,hβ1,hβ2⟩:∃β1:Bt,(∀i,(∃bx,(i,bx)∈bs)->β1 i=own ((i-o.dst.getD N) / N))/\∀i,(¬∃bx,(i,bx)∈bs)->β1 i=match Wl qs i with|some j=>own j|none=>β i:=by
  refine⟨fun i=>if (bs.any fun q=>Nat.beq q.1 i)=true then own ((i-o.dst.getD N) / N) else match Wl qs i with|some j=>own j|none=>β i,fun i hi=>?_,fun i hi=>?_⟩
  ·show (if _ then _ else _)=_;rw[Bq (QR.2 hi)]
  ·show (if _ then _ else _)=_;rw[Bg (fun hq=>hi (QR.1 hq))]
 have hβbs:∀j,(∃bx,(o.dst.getD N+N*j,bx)∈bs)->β1 (o.dst.getD N+N*j)=own (0+j):=by
  intro j hj;rw[hβ1 _ hj,Nat.add_sub_cancel_left,Nat.mul_div_cancel_left _ hN,Ob]
 have hqb:∀q∈qs,∃bx,(q.1,bx)∈bs':=by
  intro q hq;have:q.1∈bs'.map (·.1):=by rw[hbq];exact List.mem_map_of_mem hq
  obtain⟨⟨i,bx⟩,hm,e⟩:=List.mem_map.1 this;exact⟨bx,e ▸ hm⟩
 have Az2:∀i bx,(i,bx)∈bs'->∃j,(i,j)∈qs:=by
  intro i bx hm;have:i∈qs.map (·.1):=by rw[<-hbq];exact List.mem_map.2 ⟨_,hm,rfl⟩
  obtain⟨⟨i',j⟩,hm,e⟩:=List.mem_map.1 this;exact⟨j,e ▸ hm⟩
 have hbb:∀i,(∃bx,(i,bx)∈bs')->¬∃bx,(i,bx)∈bs:=by
  rintro i ⟨bx,hm⟩ ⟨bx',Jw⟩
  exact A09 i (List.mem_map.2 ⟨_,Jw,rfl⟩) i (List.mem_map.2 ⟨_,hm,rfl⟩) rfl
 have hβqs:∀q∈qs,β1 q.1=own q.2:=by
  intro q hq;rw[hβ2 q.1 (hbb q.1 (hqb q hq)),Aj3 Avg q hq]
 have hβold:∀i,Dn i≠none->β1 i=β i:=by
  intro i hi
  have TL:¬∃bx,(i,bx)∈bs:=by
   rintro⟨bx,hm⟩
   exact hi (ha1 i bx (Bu.2 (.inl hm)))
  rw[hβ2 i TL,RR];intro hm;obtain⟨q,hq,e⟩:=List.mem_map.1 hm;obtain⟨bx,My⟩:=hqb q hq;exact hi (ha1 i bx (Bu.2 (.inr (e ▸ My))))
 obtain⟨T8,hba⟩:=hws w' _ own β1 w.heap.size 0 us hβbs out.vals;obtain⟨Ay6,Avp⟩:=PS w' _ own β1 bt hβqs (fun i=>X8 i 0) out.outs
 have Aoc:∀id∈lids,∃y∈l,id∈y.ids:=by
  intro id B1;rw[<-KW] at B1;exact List.mem_flatMap.1 B1
 have An2:∀id∈lids,(∃off c cs,s.hp id=some (.st c)/\Dn id=some (.st (Cw c cs off))/\off+cs.length<=c.length/\(∀p∈cs,∀i∈Aw p,∃bx,(i,bx)∈bs'))\/∃c cs,s.hp id=some (.ar false c)/\Dn id=some (.ar false cs):=by
  intro id B1;obtain⟨y,hy,hyi⟩:=Aoc id B1;have h1:=hsh y hy;cases y with
  |var id' off cts ws'=>
   simp only[H0.ids,P7] at hyi;subst hyi;obtain⟨c1,cs,h2,h3,h4,h5,h6⟩:=h1;rw[Aa1 id B1] at h2;exact .inl ⟨off,c1,cs,h2,h3,h5,h6⟩
  |row id'=>
   simp only[H0.ids,P7] at hyi;subst hyi;obtain⟨c1,cs,h2,h3⟩:=h1;rw[Aa1 id B1] at h2;exact .inr ⟨c1,cs,h2,h3⟩
  |none=>simp[H0.ids] at hyi
 have Azf:∀id∈lids,Dn id≠none:=by
  intro id B1;rcases An2 id B1 with⟨_,_,_,_,h2,_⟩|⟨_,_,_,h2⟩<;>rw[h2]<;>simp
 have hpK:∀id,id ∉ lids->Dn id=Vm (Aj s.hp m) x id:=fun id B1=>Ml id B1
 have Jo:∀i,s.hp i≠none->Dn i≠none:=by
  intro i hi;by_cases hl:i∈lids
  ·exact Azf i hl
  ·rw[hpK i hl,G7];have h1:Aj s.hp m i≠none:=fun e=>hi (E2.1 e);split
   ·cases hq:Aj s.hp m i with
    |none=>exact absurd hq h1
    |some b=>simp
   ·exact h1
 have An7:∀i,(s.hp i≠none\/∃bx,(i,bx)∈bs++bs')->Ax Dn (bs++bs') i≠none:=by
  rintro i (hi|⟨bx,hm⟩)
  ·have h1:=Jo i hi;rw[hg2 i (fun bx hm=>h1 (ha1 i bx hm))];exact h1
  ·rw[hg1 i bx hm];simp
 have Iq:∀id,(∃bx,(id,bx)∈bs++bs')\/Ax Dn (bs++bs') id=Dn id:=fun id=>by
  by_cases hx:∃bx,(id,bx)∈bs++bs'
  ·exact .inl hx
  ·exact .inr (hg2 id fun bx hb=>hx ⟨bx,hb⟩)
 have hold:∀id bx,Dn id=some bx->D1 (some bx)->D1 (s.hp id)/\id ∉ x/\(id∈lids\/(id ∉ lids/\Aj s.hp m id=some bx)):=by
  intro id bx hb hl;by_cases B1:id∈lids
  ·exact⟨Y7 id (.inl B1),hlx id B1,.inl B1⟩
  ·rw[hpK id B1,G7] at hb;split at hb
   ·cases hq:Aj s.hp m id with
    |none=>rw[hq] at hb;cases hb
    |some b=>rw[hq] at hb;simp at hb;subst hb;exact hl.elim
   ·rename_i hxn;exact⟨by rw[J7 hb hl];exact hl,hxn,.inr ⟨B1,hb⟩⟩
 have Xu:∀i bx,(i,bx)∈bs++bs'->∃j,β1 i=own j/\((i=o.dst.getD N+N*j/\j<M1 rv)\/((i,j)∈qs/\M1 rv<=j)):=by
  intro i bx hm;rcases Bu.1 hm with hm|hm
  ·obtain⟨⟨j,rfl,hj⟩,_⟩:=hba i bx hm;exact⟨j,by rw[hβbs j ⟨bx,hm⟩,Ob],.inl ⟨rfl,hj⟩⟩
  ·obtain⟨j,hj⟩:=Az2 i bx hm;exact⟨j,hβqs _ hj,.inr ⟨hj,(V8 _ hj).2⟩⟩
 have Apd:∀i bx,(i,bx)∈bs++bs'->D1 (some bx)/\Tg w' (FY bt own Yc) β1 i bx/\∀cs,bx=.st cs->∀b ob,β1 i=some (b,ob)->w.heap.size<=b:=by
  intro i bx hm;rcases Bu.1 hm with hm|hm
  ·exact (hba i bx hm).2
  ·obtain⟨cc,rfl⟩:=Fy i bx hm;exact⟨trivial,Ay6 i _ hm,fun cs e=>by cases e⟩
 have As6:∀b,(∃i k o',bt i (k+1)=some (b,o'))->∃id o',id∈x/\β id=some (b,o'):=by
  rintro b ⟨i,k,o',hb⟩
  obtain⟨id,off,o1,h1,h2,_,_⟩:=btS hb;exact⟨id,o1,(hS.mvd i k id off h1).2,h2⟩
 have hX:∀b,b<w.heap.size->OT (Ax Dn (bs++bs')) β1 b->OT s.hp β b:=by
  rintro b hb ⟨id,ob,hl,hβ⟩
  rcases Iq id with⟨bx,hm⟩|e
  ·obtain⟨j,hj,_⟩:=Xu id bx hm;rw[hj] at hβ;obtain⟨id',o',h1,h2⟩:=As6 b ((out.fresh j b ob hβ).2 hb).1;exact⟨id',o',Y7 id' (.inr h1),h2⟩
  ·rw[e] at hl;cases hq:Dn id with
   |none=>rw[hq] at hl;exact hl.elim
   |some bx=>
    rw[hq] at hl;exact⟨id,ob,(hold id bx hq hl).1,by rw[<-hβold id (by rw[hq];simp)];exact hβ⟩
 have hAo:∀b,b<w.heap.size->D2 (Ax Dn (bs++bs')) β1 Y b->D2 s.hp β Y b:=fun b hb hA=>hA.imp (hX b hb) id
 have hAO:∀b,D2 (Ax Dn (bs++bs')) β1 Y b->FY bt own Yc b:=by
  rintro b (⟨id,ob,hl,hβ⟩|hY)
  ·rcases Iq id with⟨bx,hm⟩|e
   ·obtain⟨j,hj,_⟩:=Xu id bx hm;rw[hj] at hβ;exact .inl ⟨j,ob,hβ⟩
   ·rw[e] at hl;cases hq:Dn id with
    |none=>rw[hq] at hl;exact hl.elim
    |some bx=>
     rw[hq] at hl;rw[hβold id (by rw[hq];simp)] at hβ
     obtain⟨h1,h2,h3⟩:=hold id bx hq hl;rcases h3 with h3|⟨h3,h4⟩
     ·obtain⟨_,i,off,hs⟩:=Acz id h3;exact .inr (.inl ⟨i,ob+off,by rw[X8,hs];simp[Ib,hβ]⟩)
     ·exact .inr (.inr ((hYc b).2 (.inl ⟨id,ob,by rw[h4];exact hl,hβ,h3,h2⟩)))
  ·exact .inr (.inr ((hYc b).2 (.inr hY)))
 have Hf:Cy (D2 s.hp β Y) w w':=out.ext.weaken (fun b _ hb=>.inl (hBA b hb));have Akv:∀i,s.hp i≠none->β1 i=β i:=fun i hi=>hβold i (Jo i hi)
 have hCL:∀b j,GJ bt vs b j->∃id o' bx,s.hp id=some bx/\D1 (some bx)/\β id=some (b,o')/\BR bx o' j:=by
  rintro b j ⟨i,p,hp,⟨k,ob,hb,BU⟩|⟨ob,ps,hb,BU,Sl⟩⟩
  ·obtain⟨id,off,o',h1,h2,h3,_⟩:=btS hb;obtain⟨h5,h6⟩:=hS.mvd i k id off h1;obtain⟨cc,ZT⟩:=hx id h6;exact⟨id,o',_,ZT,trivial,h2,show o'<=j by omega⟩
  ·obtain⟨id,off,o',h1,h2,h3,_⟩:=btS hb;rcases Ahs hL i p id off hp (by rw[Ob];exact h1) with⟨c1,wz,h5,h6,h7⟩|⟨⟨c1,h5⟩,_⟩
   ·rcases Sl with⟨h8,h9⟩|h8
    ·rw[h6] at h8;cases h8;exact⟨id,o',_,h5,trivial,h2,show o'<=j/\j<o'+c1.length by omega⟩
    ·rw[h6] at h8;cases h8
   ·exact⟨id,o',_,h5,trivial,h2,show o'<=j by omega⟩
 have hnL:∀id off cts wz,H0.var id off cts wz∈l->id∈lids->∀b ob,β id=some (b,ob)->∀j,(j<off\/off+wz.length<=j)->(∃c1,s.hp id=some (.st c1))->¬GJ bt vs b (ob+j):=by
  rintro id off cts wz hy B1 b ob hβ j hj ⟨c1,KI⟩ ⟨i,p,hp,⟨k,ob',hb,BU⟩|⟨ob',ps,hb,BU,Sl⟩⟩
  ·obtain⟨id',off',o',h1,h2,h3,h4⟩:=btS hb;have:=h.inj id id' b ob o' (Y7 id (.inl B1)) (Y7 id' h4) hβ h2;subst this;exact hlx id B1 (hS.mvd i k id off' h1).2
  ·obtain⟨id',off',o',h1,h2,h3,h4⟩:=btS hb;have:=h.inj id id' b ob o' (Y7 id (.inl B1)) (Y7 id' h4) hβ h2;subst this;rw[hβ] at h2;cases h2;obtain⟨k,E6,F3⟩:=TN hL hy;rw[Ob] at F3;have hik:=hS.inj0 hnl i k id off' off h1 F3;subst hik;rw[h1] at F3;cases F3;rw[hp] at E6;cases E6;rcases Sl with⟨h8,h9⟩|h8
   ·cases h8;omega
   ·cases h8
 have hval:Fk w' (D2 (Ax Dn (bs++bs')) β1 Y) β1 (Oj ws (Qi P o.type)) (Jc us):=by
  have M9:Bo (I6 w' (D2 (Ax Dn (bs++bs')) β1 Y) β1) ws us:=T8.mono fun v u hvu=>hvu.step (Cy.refl _ _) (fun b _=>hAO b) (fun _ _=>rfl);have Do:=M9.len;cases hT:Qi P o.type
  ·rw[hT] at Rm;have h1:ws.length=1:=D9 Rm
   match ws,us,h1,Do with
   |[v],[u],_,_=>
    exact (Qf (YP v (by simp))).2 M9.1
  ·rw[hT] at Rm
   have h1:¬ws.length=1:=by
    intro e;rw[e] at Rm;cases Rm
   have hr:Jc us=.tuple ⟨us⟩:=by
    unfold Jc;split
    ·simp at Do;omega
    ·rfl
   rw[hr];exact⟨us,rfl,M9⟩
 have hvr:∀i∈Ch (Oj ws (Qi P o.type)),∃bx,(i,bx)∈bs:=by
  intro i hi;cases hT:Qi P o.type
  ·rw[hT] at Rm hi;have h1:ws.length=1:=D9 Rm
   match ws,h1 with
   |[v],_=>
    refine hrs v (by simp) i ?_
    have:Ch v=C5 v:=by
     have hn:=YP v (by simp);cases v<;>first|rfl|exact absurd rfl (hn _)
    rw[<-this];exact hi
  ·rw[hT] at hi;obtain⟨v,hv,hi⟩:=List.mem_flatMap.1 (show i∈ws.flatMap C5 from hi);exact hrs v hv i hi
 refine hn _ w' β1 ?_;refine⟨by rw[S5];exact h.dfr,by rw[Zq];exact h.tsz,QO Adx h.tmo,?_,?_,?_,?_,?_,?_,?_,?_,?_,?_,?_,h.Ylt,?_⟩
 ·refine Qb (Q:=fun _ p u=>Fk w' (D2 (Ax Dn (bs++bs')) β1 Y) β1 p u) h.tsz Adx (fun i hi=>?_) (fun _=>hval);exact (h.tms i hi).step Hf hAo fun id B1=>Akv id (h.wfT i hi id B1)
 ·intro id bx hb;simp only at hb;rcases Iq id with⟨bx',Jw⟩|e
  ·rw[hg1 id bx' Jw] at hb;cases hb;exact (Apd id _ Jw).2.1.step' hAO
  ·rw[e] at hb;have hβ:=hβold id (by rw[hb];simp)
   by_cases B1:id∈lids
   ·obtain⟨y,hy,hyi⟩:=Aoc id B1;have h1:=Avp y hy;cases y with
    |var id' off cts wz=>
     simp only[H0.ids,P7] at hyi;subst hyi;obtain⟨c1,cs,h2,h3,h4,h5,h6⟩:=h1;rw[Aa1 id B1] at h2;rw[h3] at hb;cases hb;obtain⟨b,ob,h7,h8,h9⟩:=h.box id _ h2;obtain⟨h10,h11⟩:=h6 b ob h7;have Cx:=h.blt id b ob (by rw[h2];simp) h7
     have EE:∀j,(j<off\/off+wz.length<=j)->w'.cell? ⟨b,ob+j,none⟩=w.cell? ⟨b,ob+j,none⟩/\w'.frozen? ⟨b,ob+j,none⟩=w.frozen? ⟨b,ob+j,none⟩:=
      fun j hj=>out.rng b (ob+j) Cx (hnL id off cts wz hy B1 b ob h7 j hj ⟨c1,h2⟩)
     refine⟨b,ob,hβ.trans h7,fun j p hj=>?_,fun j hj=>?_⟩
     ·rcases S9 (by omega) hj with⟨h12,h13,h14⟩|⟨h12,h14⟩
      ·obtain⟨v,hv,RN⟩:=h10 _ _ h14;refine⟨v,?_,RN.step (Cy.refl _ _) (fun b _=>hAO b) (fun _ _=>rfl)⟩;rw[show ob+j=ob+off+(j-off) by omega];exact hv
      ·obtain⟨v,hv,RN⟩:=h8 _ _ h14;refine⟨v,by rw[(EE j (by omega)).1];exact hv,RN.step Hf hAo fun i hi=>Akv i (h.wfB id c1 h2 p (List.mem_of_getElem? h14) i hi)⟩
     ·rw[Td (by omega)] at hj;by_cases Xg:off<=j/\j<off+cs.length
      ·have:=h11 (j-off) (by omega);rw[show ob+off+(j-off)=ob+j by omega] at this;exact this
      ·rw[(EE j (by omega)).2];exact h9 j hj
    |row id'=>
     simp only[H0.ids,P7] at hyi;subst hyi;obtain⟨cs,h3,h4⟩:=h1;rw[h3] at hb;cases hb;rcases h4 with⟨h5,h6⟩|⟨b,ob,h5,h6,h7⟩
     ·exact .inl ⟨hβ.trans h5,h6⟩
     ·exact .inr ⟨b,ob,hβ.trans h5,h6.weak (fun b _=>hAO b),fun _=>h7,(fun q=>by cases q)⟩
    |none=>simp[H0.ids] at hyi
   ·rw[hpK id B1,G7] at hb;split at hb
    ·cases hq:Aj s.hp m id with
     |none=>rw[hq] at hb;cases hb
     |some b0=>rw[hq] at hb;simp at hb;subst hb;trivial
    ·rename_i hxn;have My:=hf.box id bx hb
     have Afj:∀b ob,β id=some (b,ob)->bx ≠ .mv->b<w.heap.size/\w'.heap[b]?=w.heap[b]?:=by
      intro b ob KZ hmv;have Cx:=hf.blt id b ob (by show Aj s.hp m id≠none;rw[hb];simp) KZ
      refine⟨Cx,out.ext.keep b Cx fun hB=>?_⟩;obtain⟨id',o',h1,h2⟩:=btX hB;have Lp:D1 (Aj s.hp m id'):=by rw[MY id' h2];exact Y7 id' h2
      have PC:id≠id':=by
       rintro rfl
       rcases h2 with h2|h2
       ·exact B1 h2
       ·exact hxn h2
      cases bx with
      |st cc=>exact PC (hf.inj id id' b ob o' (by show D1 (Aj s.hp m id);rw[hb];trivial) Lp KZ h1)
      |ar fz cc=>
       cases fz with
       |false=>exact PC (hf.inj id id' b ob o' (by show D1 (Aj s.hp m id);rw[hb];trivial) Lp KZ h1)
       |true=>
        rcases My with⟨h3,_⟩|⟨b2,o2,h3,_,_,h4⟩
        ·rw[KZ] at h3;cases h3
        ·rw[KZ] at h3;cases h3;exact h4 rfl (.inl ⟨id',o',Lp,h1⟩)
      |mv=>exact hmv rfl
     have hAoF:∀b,b<w.heap.size->D2 (Ax Dn (bs++bs')) β1 Y b->D2 (Aj s.hp m) β Y b:=by
      intro b Fy hA;rcases hA with⟨i,ob,hl,hβi⟩|hY
      ·rcases Iq i with⟨bx1,LD⟩|e1
       ·obtain⟨j,hj,_⟩:=Xu i bx1 LD;rw[hj] at hβi;obtain⟨id',o',h1,h2⟩:=As6 b ((out.fresh j b ob hβi).2 Fy).1;exact .inl ⟨id',o',by rw[MY id' (.inr h1)];exact Y7 id' (.inr h1),h2⟩
       ·rw[e1] at hl;cases hq:Dn i with
        |none=>rw[hq] at hl;exact hl.elim
        |some bx1=>
         rw[hq] at hl;rw[hβold i (by rw[hq];simp)] at hβi
         obtain⟨h1,h2,h3⟩:=hold i bx1 hq hl;rcases h3 with h3|⟨h3,h4⟩
         ·exact .inl ⟨i,ob,by rw[MY i (.inl h3)];exact h1,hβi⟩
         ·exact .inl ⟨i,ob,by rw[h4];exact hl,hβi⟩
      ·exact .inr hY
     have Av9:Cy (D2 (Aj s.hp m) β Y) w w':=out.ext.weaken (fun b _ hB=>by
      obtain⟨id',o',h1,h2⟩:=btX hB;exact .inl ⟨id',o',by rw[MY id' h2];exact Y7 id' h2,h1⟩)
     cases bx with
     |st cc=>
      obtain⟨b,ob,h1,h2,h3⟩:=My;obtain⟨Cx,Rj⟩:=Afj b ob h1 (by simp);refine⟨b,ob,hβ.trans h1,fun j p hj=>?_,fun j hj=>?_⟩
      ·obtain⟨v,hv,RN⟩:=h2 j p hj;refine⟨v,by rw[World.cell?_of_block (w:=w) Rj];exact hv,RN.step Av9 hAoF fun i hi=>?_⟩
       refine Akv i (fun e1=>?_);exact hf.wfB id cc hb p (List.mem_of_getElem? hj) i hi (E2.2 e1)
      ·rw[World.frozen?_of_block (w:=w) Rj];exact h3 j hj
     |ar fz cc=>
      rcases My with⟨h1,h2⟩|⟨b,ob,h1,h2,h3,h4⟩
      ·exact .inl ⟨hβ.trans h1,h2⟩
      ·obtain⟨Cx,Rj⟩:=Afj b ob h1 (by simp);have KM:bsz w' b=bsz w b:=by unfold bsz;rw[Rj]
       refine .inr ⟨b,ob,hβ.trans h1,fun j p hj=>?_,fun e1 j hj Uf=>?_,fun e1 q=>h4 e1 (hAoF b Cx q)⟩
       ·obtain⟨v,hv,h5,KI⟩:=h2 j p hj;exact⟨v,by rw[World.cell?_of_block (w:=w) (by rw[F6];exact Rj)];exact hv,h5,KI.step Av9 hAoF⟩
       ·rw[World.frozen?_of_block (w:=w) Rj];exact h3 e1 j hj (by rw[<-KM];exact Uf)
     |mv=>trivial
 ·intro id id' b ob ob' hl Lp hb Jf;simp only at hl Lp
  have mixed:∀i bx i' k z,(i,bx)∈bs++bs'->β1 i=some (k,z)->Dn i'≠none->D1 (Dn i')->∀z',β1 i'=some (k,z')->False:=by
   intro i bx i' k z LD hz TL HS z' hz';obtain⟨j,hj,_⟩:=Xu i bx LD;rw[hj] at hz;rw[hβold i' TL] at hz';cases hq:Dn i' with
   |none=>exact TL hq
   |some bx1=>
    rw[hq] at HS;obtain⟨h1,h2,h3⟩:=hold i' bx1 hq HS;have Cx:=h.blt i' k z' (Dr h1) hz';obtain⟨id2,o2,h4,h5⟩:=As6 k ((out.fresh j k z hz).2 Cx).1;have:=h.inj i' id2 k z' o2 h1 (Y7 id2 (.inr h4)) hz' h5;subst this;exact h2 h4
  rcases Iq id with⟨bx,LD⟩|e1
  ·rcases Iq id' with⟨bx',hm2⟩|e2
   ·obtain⟨j,hj,Sl⟩:=Xu id bx LD;obtain⟨j',Uf,Aw6⟩:=Xu id' bx' hm2;rw[hj] at hb;rw[Uf] at Jf;have:=out.inj j j' b ob ob' hb Jf;subst this;rcases Sl with⟨h1,h2⟩|⟨h1,h2⟩
    ·rcases Aw6 with⟨h3,_⟩|⟨_,h4⟩
     ·rw[h1,h3]
     ·omega
    ·rcases Aw6 with⟨_,h4⟩|⟨h3,_⟩
     ·omega
     ·exact K7 _ h1 _ h3 rfl
   ·rw[e2] at Lp;exact (mixed id bx id' b ob LD hb (Dr Lp) Lp ob' Jf).elim
  ·rw[e1] at hl;rcases Iq id' with⟨bx',hm2⟩|e2
   ·exact (mixed id' bx' id b ob' hm2 Jf (Dr hl) hl ob hb).elim
   ·rw[e2] at Lp
    have g:∀i,D1 (Dn i)->D1 (s.hp i)/\β1 i=β i:=by
     intro i hli;cases hq:Dn i with
     |none=>rw[hq] at hli;exact hli.elim
     |some bx1=>exact⟨(hold i bx1 hq (by rw[<-hq];exact hli)).1,hβold i (by rw[hq];simp)⟩
    rw[(g id hl).2] at hb;rw[(g id' Lp).2] at Jf;exact h.inj id id' b ob ob' (g id hl).1 (g id' Lp).1 hb Jf
 ·intro id b ob TL hb;simp only at TL;rcases Iq id with⟨bx,LD⟩|e1
  ·obtain⟨j,hj,_⟩:=Xu id bx LD;rw[hj] at hb;exact (out.fresh j b ob hb).1
  ·rw[e1] at TL;rw[hβold id TL] at hb
   have hn2:s.hp id≠none:=by
    by_cases B1:id∈lids
    ·exact Dr (Y7 id (.inl B1))
    ·rw[hpK id B1,G7] at TL;intro e2;have h1:Aj s.hp m id=none:=E2.2 e2;rw[h1] at TL;split at TL<;>exact TL rfl
   exact Gy (h.blt id b ob hn2 hb) out.ext.size
 ·have:=Qb (Q:=fun _ p _=>∀id∈Ch p,Ax Dn (bs++bs') id≠none) (val:=Jc us) (d:=o.dst) (v:=Oj ws (Qi P o.type)) h.tsz Adx (fun i hi id B1=>An7 id (.inl (h.wfT i hi id B1))) (fun _ id B1=>An7 id (.inr (by
   obtain⟨bx,hb⟩:=hvr id B1;exact⟨bx,Bu.2 (.inl hb)⟩)))
  exact this
 ·intro id cells OH p hp i hi;simp only at OH;refine An7 i ?_;rcases Iq id with⟨bx,LD⟩|e1
  ·rw[hg1 id bx LD] at OH;cases OH;rcases Bu.1 LD with LD|LD
   ·obtain⟨bx1,hb⟩:=ZB id cells LD p hp i hi;exact .inr ⟨bx1,Bu.2 (.inl hb)⟩
   ·obtain⟨cc,e2⟩:=Fy id _ LD;cases e2
  ·rw[e1] at OH;by_cases B1:id∈lids
   ·rcases An2 id B1 with⟨off,c1,cs,h1,h2,h3,h4⟩|⟨c1,cs,h1,h2⟩
    ·rw[h2] at OH;cases OH;unfold Cw at hp;rcases Bu.1 hp with hp|hp
     ·rcases Bu.1 hp with hp|hp
      ·exact .inl (h.wfB id c1 h1 p (List.mem_of_mem_take hp) i hi)
      ·obtain⟨bx1,hb⟩:=h4 p hp i hi;exact .inr ⟨bx1,Bu.2 (.inr hb)⟩
     ·exact .inl (h.wfB id c1 h1 p (List.mem_of_mem_drop hp) i hi)
    ·rw[h2] at OH;cases OH
   ·obtain⟨_,_,h3⟩:=hold id _ OH trivial;rcases h3 with h3|⟨_,h3⟩
    ·exact absurd h3 B1
    ·exact .inl (h.wfB id cells (J7 h3 trivial) p hp i hi)
 ·rintro b ⟨id,ob,hl,hβ⟩
  rcases Ht b w.heap.size with Cx|hge
  ·exact h.ownd b (hX b Cx ⟨id,ob,hl,hβ⟩)
  ·exact .inr (Nat.le_trans h.fr.step.size hge)
 ·intro id bx b ob hb hl hβ Cx j hj;simp only at hb;have hlw:=Gy Cx h.fr.step.size;rcases Iq id with⟨bx',LD⟩|e1
  ·rw[hg1 id bx' LD] at hb;cases hb;obtain⟨k,hk,_⟩:=Xu id bx LD;rw[hk] at hβ
   have BU:ob<=j:=by
    cases bx with
    |st cc=>exact hj.1
    |ar fz cc=>exact hj
    |mv=>exact hl.elim
   obtain⟨id2,o2,bx2,h1,h2,h3,h4⟩:=hCL b j (((out.fresh k b ob hβ).2 hlw).2 j BU);exact h.rngB id2 bx2 b o2 h1 h2 h3 Cx j h4
  ·rw[e1] at hb;rw[hβold id (by rw[hb];simp)] at hβ
   obtain⟨h1,h2,h3⟩:=hold id bx hb hl;rcases h3 with h3|⟨h3,h4⟩
   ·rcases An2 id h3 with⟨off,c1,cs,h5,h6,h7,_⟩|⟨c1,cs,h5,h6⟩
    ·rw[h6] at hb;cases hb;have hj:ob<=j/\j<ob+(Cw c1 cs off).length:=hj;rw[Td (by omega)] at hj;exact h.rngB id _ b ob h5 trivial hβ Cx j hj
    ·rw[h6] at hb;cases hb;exact h.rngB id _ b ob h5 trivial hβ Cx j hj
   ·exact h.rngB id bx b ob (J7 h4 hl) hl hβ Cx j hj
 ·intro i hi;obtain⟨h1,h2⟩:=h.pin i hi;exact⟨An7 _ (.inl h1),by rw[Akv _ h1];exact h2⟩
 ·intro id cc b ob hb hβ Cx;simp only at hb;have hlw:=Gy Cx h.fr.step.size;rcases Iq id with⟨bx',LD⟩|e1
  ·rw[hg1 id bx' LD] at hb;cases hb;have:=(Apd id _ LD).2.2 cc rfl b ob hβ;omega
  ·rw[e1] at hb;rw[hβold id (by rw[hb];simp)] at hβ
   obtain⟨h1,h2,h3⟩:=hold id _ hb trivial;rcases h3 with h3|⟨h3,h4⟩
   ·rcases An2 id h3 with⟨off,c1,cs,h5,h6,h7,_⟩|⟨c1,cs,h5,h6⟩
    ·exact h.stp id c1 b ob h5 hβ Cx
    ·rw[h6] at hb;cases hb
   ·exact h.stp id cc b ob (J7 h4 trivial) hβ Cx
 ·intro b hY hXb;exact h.Yx b hY (hX b (Gy (h.Ylt b hY) h.fr.step.size) hXb)
 ·refine⟨out.os.trans h.fr.os,out.tape.trans h.fr.tape,out.output.trans h.fr.output,⟨Nat.le_trans h.fr.step.size out.ext.size,fun b hb hnX=>?_,fun b hb=>(h.fr.step.bs b hb).trans (out.ext.bs b (Gy hb h.fr.step.size))⟩,fun b j hb hnL=>?_⟩
  ·rw[out.ext.keep b (Gy hb h.fr.step.size) ?_]
   ·exact h.fr.step.keep b hb hnX
   ·intro hB;rcases h.ownd b (hBA b hB) with hq|hq
    ·exact hnX hq
    ·omega
  ·have PC:¬GJ bt vs b j:=by
    intro hq;obtain⟨id2,o2,bx2,h1,h2,h3,h4⟩:=hCL b j hq;exact hnL (h.rngB id2 bx2 b o2 h1 h2 h3 hb j h4)
   obtain⟨h1,h2⟩:=out.rng b j (Gy hb h.fr.step.size) PC;rw[h1,h2];exact h.fr.rng b j hb hnL
end
open Go.RowKit
section
variable {R:Type}{r:R}{P:Program}{N:Nat}{w0:World}{X0:Jb}{Y:Nat->Prop}{β β':Bt}{s:St}{a:Act}{w w':World}{o:Oper}{A:Nat->Prop}
theorem PM(h:Dl N w0 X0 Y β s a w){c:Call}(ho:o.op=.call c)(hc:c.callee=.builtin .append){d:Nat}(Adx:o.dst=some d){b x:Operand}(Ga:c.args.toList=[b,x]){t tx:TypeId}{ts:List TypeId}(EN:c.argTypes.toList=t::tx::ts){K:St->Option R}(hk:Qm P N s d t tx (Cm s.tm b) (Cm s.tm x) K=some r):
  ∃s',K s'=some r/\∀(next:Act->World->Prop) (Q:Exit->Act->World->Prop),(∀a' w' β',Dl N w0 X0 Y β' s' a' w'->next a' w')->o.wp P a w next Q:=by
 have IY:c.args = #[b,x]:=by
  have:c.args=([b,x]:List Operand).toArray:=by rw[<-Ga]
  exact this
 have RU:c.argTypes=(t::tx::ts).toArray:=by rw[<-EN]
 have run:∀{v:Value} {w1:World},(Builtin.append_ (t::tx::ts).toArray o.type #[a.eval b,a.eval x]).run P w=.ok v w1->∀(next:Act->World->Prop) (Q:Exit->Act->World->Prop),next (a.put (some d) v) w1->o.wp P a w next Q:=by
  intro v w1 hr next Q hn;unfold Oper.wp execOp;rw[ho];simp only[resolve,hc,invoke,builtin,Sem.run_bind,Sem.run_pure,Result.andThen_ok,IY,RU];have:(#[b,x]:Array Operand).map a.eval = #[a.eval b,a.eval x]:=by simp
  rw[this,hr];show next (a.put o.dst v) w1;rw[Adx];exact hn
 have hbv:=Dt h b;have RK:=Gb h b;unfold Qm at hk;split at hk
 ·rename_i e hu;obtain⟨hzi,hk⟩:=Aq hk;obtain⟨i,z,hi,hz,hzs,Oa⟩:=HC hzi;cases hit:Z9 P tx
  rotate_left
  ·rw[hit] at hk;simp only[cond_true] at hk
   obtain⟨ki,htx⟩:∃k,P.underlying tx=some (.int k):=by
    unfold Z9 at hit;split at hit
    ·exact⟨_,by assumption⟩
    ·cases hit
   unfold Uh at hk;obtain⟨kx,n,hx,hk⟩:=Ef hk;obtain⟨zz,n',c',hk,hp⟩:=Gq hk;obtain⟨hb,hk⟩:=Aq hk;simp only[Fb,AM] at hb;obtain⟨⟨⟨⟨⟨hzz,hdN⟩,Wv⟩,AR⟩,hby⟩,EW⟩:=hb;have hdN:d<N:=Nat.lt_of_succ_le (Rc hdN);have Wv:s.hp d=none:=by simpa using Wv
   have WZ:Hm N (some d)=true:=by simp[Hm,Nat.blt];omega
   have Vu:((P.info? e).map (·.bytes)).getD 0=i.bytes:=by rw[hi];rfl
   rw[Vu] at hby;rw[Oa] at hk;have D7:=Cv h hx;rcases Hp hp hbv with⟨Rh,_⟩|⟨_,_,_,HR,_⟩|⟨_,_,_,HR,_⟩
   ·refine⟨_,hk,fun next Q hn=>?_⟩;by_cases hm0:n=0
    ·subst hm0;have hr:=BC (P:=P) (w:=w) (t:=t) (tx:=tx) (ty:=o.type) (ts:=ts) (kx:=kx) hu htx hi;rw[<-Rh,<-D7] at hr;refine run hr next Q (hn _ _ (Di β d none) ?_);rw[Rh];refine h.stepR (d:=some d) (nw:=[(d,.ar false [])]) (β':=Di β d none) WZ (by simp[Cf,Wv]) ⟨rfl,rfl,rfl,Cy.refl _ _,fun j hj=>Ap _ _ (by rintro rfl;exact hj Wv),?_,?_,?_,?_,?_,.inl ⟨At _ _ _,rfl,rfl,none,rfl⟩,?_⟩
     ·intro j bx hm;simp at hm;rw[hm.2];trivial
     ·intro j bx hm;simp at hm;obtain⟨rfl,rfl⟩:=hm;exact .inl ⟨At _ _ _,rfl⟩
     ·intro j bx k q hm hq;simp at hm;obtain⟨rfl,rfl⟩:=hm;rw[At] at hq;cases hq
     ·intro j bx j' bx' k q q' hm Jw _ _;simp at hm Jw;rw[hm.1,Jw.1]
     ·intro j cells hm;simp at hm
     ·intro j hj;simp[Ch,C5,Aw] at hj;subst hj;exact .inr ⟨.ar false [],by simp⟩
    ·have hr:=EJ (P:=P) (w:=w) (t:=t) (tx:=tx) (ty:=o.type) (ts:=ts) (kx:=kx) hu htx hi hz (n:=n) (by omega) hby EW;rw[<-Rh,<-D7] at hr;refine run hr next Q (hn _ _ (Di β d (some (w.heap.size,0))) ?_);have hge:n.toNat<=grownCap w n.toNat 0 e:=grownCap_ge w n.toNat 0 e;generalize EV:((if n.toNat*i.size=0 then #[] else Builtin.zeroCells z.cells n.toNat)++Builtin.zeroCells z.cells (grownCap w n.toNat 0 e-n.toNat))=cs
     have Ym:Hk w (w.drew.alloc (.cells cs e)) cs e:=
      ⟨rfl,rfl,rfl,fun k hk=>Below.heap_alloc w.drew _ k hk,by show (w.heap.push _).size=_;simp,(0,0),by show (w.heap.push _)[w.heap.size]?=_;simp,.inl rfl⟩
     have XY:cs.size=grownCap w n.toNat 0 e*i.size:=by
      rw[<-EV];by_cases WB:n.toNat*i.size=0
      ·rw[Bq WB]
       have hi0:i.size=0:=by
        rcases Nat.mul_eq_zero.1 WB with h|h
        ·omega
        ·exact h
       simp[size_zeroCells,hzs,hi0]
      ·rw[Bg WB];simp only[Array.size_append,size_zeroCells,hzs,<-Nat.add_mul]
       congr 1
       omega
     refine h.stepR (d:=some d) (nw:=[(d,.ar false [])]) WZ (by simp[Cf,Wv]) (R5 Ym Wv trivial ?_ (fun cells hx=>by cases hx) ?_ (by intro j hj;simp[Ch,C5,Aw] at hj;exact .inr hj))
     ·refine .inr ⟨w.heap.size,0,At _ _ _,fun j p hj=>by simp at hj,fun _ j _ hj=>?_,(fun q=>by cases q)⟩;rw[Ym.bsz] at hj;exact Ym.frozen hj
     ·refine .inr ⟨w.heap.size,0,0,grownCap w n.toNat 0 e,At _ _ _,rfl,.inl rfl,hge,?_,by rw[Ym.size];omega⟩
      exact⟨by rw[Ym.bsz,XY];omega,.inr (Lh w.drew _ e)⟩
   ·rw[HR] at hzz;cases hzz
   ·rw[HR] at hzz;cases hzz
  rw[hit] at hk;simp only[cond_false] at hk;have Vu:((P.info? e).map (·.bytes)).getD 0=i.bytes:=by rw[hi];rfl
  obtain⟨⟨dx,hdx,UO⟩,m,new,news,hk,hs⟩:=HH h hk (by
   intro m new hk;split at hk
   ·split at hk
    ·obtain⟨hb,_⟩:=Aq hk;simp only[Fb,AM] at hb;have he:=D9 hb.1.1.1.1.1.1.1;rw[<-he];exact hb.1.1.2
    ·cases hk
   ·obtain⟨zz,n',c',hk,_⟩:=Gq hk;obtain⟨hb,_⟩:=Aq hk;simp only[Fb,AM] at hb;exact hb.1.1.2)
  rw[Oa] at hs;have hnl:new.length=news.length:=hs.rep.len;split at hk
  ·rename_i id es off n eb;rw[eb] at hbv RK;split at hk
   ·rename_i cc h0;obtain⟨hb,F3⟩:=Aq hk;simp only[Fb,AM] at hb;obtain⟨⟨⟨⟨⟨⟨⟨Tr,Q3⟩,hdN⟩,Wv⟩,A3s⟩,Abe⟩,hby⟩,EW⟩:=hb;have Tr:=D9 Tr;have Q3:=D9 Q3;have hdN:d<N:=Nat.lt_of_succ_le (Rc hdN);have Wv:s.hp d=none:=by simpa using Wv
    subst Q3;rw[Oa] at Tr;subst Tr;rw[Vu] at hby;have EG:news.length=m*i.size:=by omega
    have A8t:s.hp id≠none:=by rw[h0];simp
    have Aby:=h.box id _ h0;refine⟨_,F3,fun next Q hn=>?_⟩
    have grow:∀(ad:Option Addr) (cap:Nat) (olds:List Value),a.eval b=.slice ad n cap->Bo (A3 w (D2 s.hp β Y)) (cc.take (n*i.size)) olds->(∀u∈olds,u.oneCell'=true)->olds.length=n*i.size ->
      ((ad=none/\olds=[])\/∃p,ad=some p/\olds.length=n*i.size/\∀(j:Nat) v,olds[j]?=some v->w.cell? (p.add j)=some v)->cap<n+m->o.wp P a w next Q:=by
     intro ad cap olds Rh holds h1 hol hold Yf;have hr:=M5 (P:=P) (w:=w) (t:=t) (tx:=tx) (ty:=o.type) (ts:=ts) hu hdx UO hi hz hs hold Yf hby EW;rw[<-Rh] at hr;refine run hr next Q (hn _ _ (Di β d (some (w.heap.size,0))) ?_);have hge:n+m<=grownCap w (n+m) cap e:=grownCap_ge w (n+m) cap e
     have Ym:Hk w (w.drew.alloc (.cells (olds.toArray++news.toArray++Builtin.zeroCells z.cells (grownCap w (n+m) cap e-(n+m))) e)) (olds.toArray++news.toArray++Builtin.zeroCells z.cells (grownCap w (n+m) cap e-(n+m))) e:=
      ⟨rfl,rfl,rfl,fun k hk=>Below.heap_alloc w.drew _ k hk,by show (w.heap.push _).size=_;simp,(0,0),by show (w.heap.push _)[w.heap.size]?=_;simp,.inl rfl⟩
     have XY:(olds.toArray++news.toArray++Builtin.zeroCells z.cells (grownCap w (n+m) cap e-(n+m))).size=grownCap w (n+m) cap e*i.size:=by
      simp only[Array.size_append,List.size_toArray,size_zeroCells,hzs,hol,EG,<-Nat.add_mul]
      congr 1
      omega
     have OQ:∀k y,some (w.heap.size,0)=some (k,y)->w.heap.size<=k\/∃q,β id=some (k,q):=by
      intro k y hh;simp at hh;exact .inl (by omega)
     refine h.move h0 Wv hdN rfl rfl rfl (by rw[Ym.size];omega) (fun k hk _=>Ym.old k hk) Ym.step.bs (fun k y hh=>⟨by simp at hh;rw[Ym.size];omega,OQ k y hh⟩) (fun k y hh Cx=>by simp at hh;omega)
      (fun k y _ Cx j _=>⟨World.cell?_of_block (w:=w) (Ym.old k Cx),World.frozen?_of_block (w:=w) (Ym.old k Cx)⟩) ?_ ?_ (by intro j hj;simpa [Ch,C5,Aw] using hj)
     ·refine .inr ⟨w.heap.size,0,At _ _ _,HZ Ym (XE h0 Wv OQ) holds hs.rep h1 hs.one,fun _ j _ hj=>?_,(fun q=>by cases q)⟩;rw[Ym.bsz] at hj;exact Ym.frozen hj
     ·refine .inr ⟨w.heap.size,0,0,grownCap w (n+m) cap e,At _ _ _,rfl,.inl rfl,hge,?_,by rw[Ym.size];omega⟩
      exact⟨by rw[Ym.bsz,XY];omega,.inr (Lh w.drew _ e)⟩
    rcases hbv with⟨hβ,_,rfl,ad,Rh⟩|⟨bb,ob,y,cap,hβ,Rh,hy,Axi,Yf,Aur⟩
    ·rcases Aby with⟨_,rfl⟩|⟨b',o',Fy,_⟩
     ·by_cases hm0:m=0
      ·subst hm0;have hr:=M7 (P:=P) (w:=w) (t:=t) (tx:=tx) (ty:=o.type) (ts:=ts) (ad:=ad) hu hdx UO hi hs (List.eq_nil_of_length_eq_zero (by omega));rw[<-Rh] at hr;have VM:new=[]:=List.eq_nil_of_length_eq_zero (by omega);subst VM;refine run hr next Q (hn _ _ (Di β d none) ?_);rw[Rh];refine h.move h0 Wv hdN rfl rfl rfl (Cc _) (fun _ _ _=>rfl) (fun _ _=>Iw.refl _ _) (fun k q hh=>by cases hh) (fun k q hh=>by cases hh) (fun _ _ _ _ _ _=>⟨rfl,rfl⟩) ?_ ?_ (by intro j hj;simpa [Ch,C5,Aw] using hj)
       ·exact .inl ⟨At _ _ _,by simp⟩
       ·exact .inl ⟨At _ _ _,rfl,rfl,ad,rfl⟩
      ·exact grow ad 0 [] Rh (by simp[Bo]) (by simp) (by simp) (by cases ad with
        |none=>exact .inl ⟨rfl,rfl⟩
        |some p=>exact .inr ⟨p,rfl,by simp,fun j v hj=>by simp at hj⟩) (by omega)
     ·rw[hβ] at Fy;cases Fy
    ·rcases Aby with⟨Fy,_⟩|⟨b',o',Fy,It,X9,_⟩
     ·rw[hβ] at Fy;cases Fy
     rw[hβ] at Fy;simp at Fy;obtain⟨rfl,rfl⟩:=Fy;have hy:y=ob:=by rcases hy with hy|⟨_,hq⟩<;>omega
     subst hy;by_cases Afx:n+m<=cap
     ·have Awr:y+n*i.size+news.length<=bsz w bb:=by
       have h5:n*i.size+m*i.size<=cap*i.size:=by rw[<-Nat.add_mul];exact Nat.mul_le_mul_right _ Afx
       have:=Yf.1;omega
      have Dv:∀k,k<news.length->(w.cell? ⟨bb,y+n*i.size+k,none⟩).isSome=true:=fun k hk=>Ais (by omega);have hr:=FC (P:=P) (w:=w) (t:=t) (tx:=tx) (ty:=o.type) (ts:=ts) (b:=bb) (ob:=y) (n:=n) (cap:=cap) hu hdx UO hi hs EG Dv (fun k hk=>X9 rfl _ (by omega) (by omega)) Afx;rw[<-Rh] at hr;have hw:=Ep.setCells bb news (y+n*i.size) w
      have OQ:∀k q,some (bb,y)=some (k,q)->w.heap.size<=k\/∃q',β id=some (k,q'):=by
       intro k q hh;simp at hh;obtain⟨rfl,rfl⟩:=hh;exact .inr ⟨_,hβ⟩
      refine run hr next Q (hn _ _ (Di β d (some (bb,y))) ?_)
      have Hf:Cy (D2 s.hp β Y) w (w.setCells bb (y+n*i.size) news):=by
       have hAb:D2 s.hp β Y bb:=.inl ⟨id,y,by rw[h0];trivial,hβ⟩
       exact⟨by rw[hw.size];exact Cc _,fun k _ hk=>hw.other k (fun e=>hk (e ▸ hAb)),fun k _=>hw.grow k⟩
      refine h.move h0 Wv hdN hw.os hw.tape hw.output (by rw[hw.size];exact Cc _) (fun k _ hq=>hw.other k (by rintro rfl;exact hq _ hβ)) Hf.bs (fun k q hh=>⟨by simp at hh;rw[hw.size];omega,OQ k q hh⟩) (fun k q hh _=>by rw[hβ];exact hh)
       (fun k q hh _ j hj=>by
        rw[hβ] at hh;cases hh;exact⟨World.cell?_setCells_out bb _ _ w ⟨bb,j,none⟩ (fun _ _=>by show j<y+n*i.size\/y+n*i.size+_<=j;omega),hw.frz j⟩) ?_ ?_ (by intro j hj;simpa [Ch,C5,Aw] using hj)
      ·refine .inr ⟨bb,y,At _ _ _,fun j p hj=>?_,fun _ j hj Uf=>?_,(fun q=>by cases q)⟩
       ·rw[Ft];by_cases hjn:j<n*i.size
        ·rw[List.getElem?_append_left (by rw[List.length_take];omega),List.getElem?_take_of_lt hjn] at hj
         obtain⟨u,Kj,h5,ht⟩:=It j p hj;rw[Ft] at Kj;refine⟨u,?_,h5,ht.step Hf (XE h0 Wv OQ)⟩;rw[World.cell?_setCells_out bb _ _ w ⟨bb,y+j,none⟩ (fun _ _=>by show y+j<y+n*i.size\/y+n*i.size+_<=y+j;omega)]
         exact Kj
        ·rw[List.getElem?_append_right (by rw[List.length_take];omega),List.length_take,Nat.min_eq_left A3s] at hj
         obtain⟨u,Kj,ht⟩:=hs.rep.get hj
         have Cx:j-n*i.size<news.length:=by
          rcases Ht (j-n*i.size) news.length with h|h
          ·exact h
          ·rw[List.getElem?_eq_none h] at Kj;cases Kj
         refine⟨u,?_,hs.one u (List.mem_of_getElem? Kj),ht.step Hf (XE h0 Wv OQ)⟩;have:=World.cell?_setCells_in bb news (y+n*i.size) w Dv (j-n*i.size) Cx;rw[show y+j=y+n*i.size+(j-n*i.size) from by omega,this];rw[List.getElem?_eq_getElem Cx] at Kj;exact Kj
       ·rw[hw.bs] at Uf;rw[hw.frz];exact X9 rfl j hj Uf
      ·exact .inr ⟨bb,y,y,cap,At _ _ _,rfl,.inl rfl,Afx,Yf.step (hw.grow bb),by rw[hw.size];exact Aur⟩
     ·-- the old cells
      have hob:∀(j:Nat) p,(cc.take (n*i.size))[j]?=some p->∃v,w.cell? ⟨bb,y+j,none⟩=some v/\v.oneCell'=true/\A3 w (D2 s.hp β Y) p v:=by
       intro j p hj;rw[List.getElem?_take] at hj;split at hj
       ·obtain⟨v,hv,h5,ht⟩:=It j p hj;rw[Ft] at hv;exact⟨v,hv,h5,ht⟩
       ·cases hj
      have Do:(cc.take (n*i.size)).length=n*i.size:=by rw[List.length_take];omega
      refine grow _ cap ((cc.take (n*i.size)).mapIdx fun j _=>(w.cell? ⟨bb,y+j,none⟩).getD undef) Rh ?_ ?_ (by simp only[List.length_mapIdx];exact Do) (.inr ⟨_,rfl,by simp only[List.length_mapIdx];exact Do,fun j v hj=>?_⟩) (by omega)
      ·refine Bo.of_at (by simp) fun j p v hp hv=>?_;obtain⟨u,Kj,_,ht⟩:=hob j p hp;rw[List.getElem?_mapIdx,hp,Option.map_some,Kj] at hv;simp at hv;subst hv;exact ht
      ·intro v hv;obtain⟨j,hj⟩:=List.mem_iff_getElem?.1 hv;rw[List.getElem?_mapIdx] at hj;cases hp:(cc.take (n*i.size))[j]? with
       |none=>rw[hp] at hj;cases hj
       |some p=>
        obtain⟨u,Kj,h5,_⟩:=hob j p hp;rw[hp,Option.map_some,Kj] at hj;simp at hj;subst hj;exact h5
      ·rw[List.getElem?_mapIdx] at hj;cases hp:(cc.take (n*i.size))[j]? with
       |none=>rw[hp] at hj;cases hj
       |some p=>
        obtain⟨u,Kj,h5,_⟩:=hob j p hp;rw[hp,Option.map_some,Kj] at hj;simp at hj;subst hj;rw[Ft];exact Kj
   ·cases hk
  ·obtain⟨zz,n',c',hk,hp⟩:=Gq hk;obtain⟨hb,hk⟩:=Aq hk;simp only[Fb,AM] at hb;obtain⟨⟨⟨⟨⟨hzz,hdN⟩,Wv⟩,Abe⟩,hby⟩,EW⟩:=hb;have hdN:d<N:=Nat.lt_of_succ_le (Rc hdN);have Wv:s.hp d=none:=by simpa using Wv
   have WZ:Hm N (some d)=true:=by simp[Hm,Nat.blt];omega
   rw[Oa] at Abe hk;rw[Vu] at hby;have EG:news.length=m*i.size:=by omega
   rcases Hp hp hbv with⟨Rh,_⟩|⟨_,_,_,HR,_⟩|⟨_,_,_,HR,_⟩
   ·refine⟨_,hk,fun next Q hn=>?_⟩;by_cases hm0:m=0
    ·subst hm0;have hr:=M7 (P:=P) (w:=w) (t:=t) (tx:=tx) (ty:=o.type) (ts:=ts) (ad:=none) hu hdx UO hi hs (List.eq_nil_of_length_eq_zero (by omega));rw[<-Rh] at hr;have VM:new=[]:=List.eq_nil_of_length_eq_zero (by omega);subst VM;refine run hr next Q (hn _ _ (Di β d none) ?_);rw[Rh];refine h.stepR (d:=some d) (nw:=[(d,.ar false [])]) (β':=Di β d none) WZ (by simp[Cf,Wv]) ⟨rfl,rfl,rfl,Cy.refl _ _,fun j hj=>Ap _ _ (by rintro rfl;exact hj Wv),?_,?_,?_,?_,?_,.inl ⟨At _ _ _,rfl,rfl,none,rfl⟩,?_⟩
     ·intro j bx hm;simp at hm;rw[hm.2];trivial
     ·intro j bx hm;simp at hm;obtain⟨rfl,rfl⟩:=hm;exact .inl ⟨At _ _ _,rfl⟩
     ·intro j bx k q hm hq;simp at hm;obtain⟨rfl,rfl⟩:=hm;rw[At] at hq;cases hq
     ·intro j bx j' bx' k q q' hm Jw _ _;simp at hm Jw;rw[hm.1,Jw.1]
     ·intro j cells hm;simp at hm
     ·intro j hj;simp[Ch,C5,Aw] at hj;subst hj;exact .inr ⟨.ar false [],by simp⟩
    ·have hr:=M5 (P:=P) (w:=w) (t:=t) (tx:=tx) (ty:=o.type) (ts:=ts) (ad:=none) (n:=0) (cap:=0) (olds:=[]) hu hdx UO hi hz hs (.inl ⟨rfl,rfl⟩) (by omega) (by rw[Ob];exact hby) (by omega)
     rw[<-Rh] at hr;refine run hr next Q (hn _ _ (Di β d (some (w.heap.size,0))) ?_);have hge:0+m<=grownCap w (0+m) 0 e:=grownCap_ge w (0+m) 0 e
     have Ym:Hk w (w.drew.alloc (.cells (([]:List Value).toArray++news.toArray++Builtin.zeroCells z.cells (grownCap w (0+m) 0 e-(0+m))) e)) (([]:List Value).toArray++news.toArray++Builtin.zeroCells z.cells (grownCap w (0+m) 0 e-(0+m))) e:=
      ⟨rfl,rfl,rfl,fun k hk=>Below.heap_alloc w.drew _ k hk,by show (w.heap.push _).size=_;simp,(0,0),by show (w.heap.push _)[w.heap.size]?=_;simp,.inl rfl⟩
     have XY:(([]:List Value).toArray++news.toArray++Builtin.zeroCells z.cells (grownCap w (0+m) 0 e-(0+m))).size=grownCap w (0+m) 0 e*i.size:=by
      simp only[Array.size_append,List.size_toArray,size_zeroCells,hzs,EG,Zzh,<-Nat.add_mul];rw[Ob (m*i.size),<-Nat.add_mul]
      congr 1
      omega
     refine h.stepR (d:=some d) (nw:=[(d,.ar false new)]) WZ (by simp[Cf,Wv]) (R5 Ym Wv trivial ?_ (fun cells hx=>by cases hx) ?_ (by intro j hj;simp[Ch,C5,Aw] at hj;exact .inr hj))
     ·refine .inr ⟨w.heap.size,0,At _ _ _,?_,fun _ j _ hj=>?_,(fun q=>by cases q)⟩
      ·exact HZ (pre:=[]) Ym (Aaj Wv) trivial hs.rep (by simp) hs.one
      ·rw[Ym.bsz] at hj;exact Ym.frozen hj
     ·refine .inr ⟨w.heap.size,0,0,grownCap w (0+m) 0 e,At _ _ _,by rw[Ob],.inl rfl,by omega,?_,by rw[Ym.size];omega⟩
      exact⟨by rw[Ym.bsz,XY];omega,.inr (Lh w.drew _ e)⟩
   ·rw[HR] at hzz;cases hzz
   ·rw[HR] at hzz;cases hzz
 ·cases hk
theorem WR(h:Dl N w0 X0 Y β s a w){c:Call}(ho:o.op=.call c)(hc:c.callee=.builtin .copy){b x:Operand}(Ga:c.args.toList=[b,x]){t tx:TypeId}{ts:List TypeId}(EN:c.argTypes.toList=t::tx::ts){K:St->Option R}(hk:LI P N s o.dst t tx (Cm s.tm b) (Cm s.tm x) K=some r):
  ∃s',K s'=some r/\∀(next:Act->World->Prop) (Q:Exit->Act->World->Prop),(∀a' w' β',Dl N w0 X0 Y β' s' a' w'->next a' w')->o.wp P a w next Q:=by
 have IY:c.args = #[b,x]:=by
  have:c.args=([b,x]:List Operand).toArray:=by rw[<-Ga]
  exact this
 have RU:c.argTypes=(t::tx::ts).toArray:=by rw[<-EN]
 have run:∀{v:Value} {w1:World},(Builtin.copy_ (t::tx::ts).toArray o.type #[a.eval b,a.eval x]).run P w=.ok v w1->∀(next:Act->World->Prop) (Q:Exit->Act->World->Prop),next (a.put o.dst v) w1->o.wp P a w next Q:=by
  intro v w1 hr next Q hn;unfold Oper.wp execOp;rw[ho];simp only[resolve,hc,invoke,builtin,Sem.run_bind,Sem.run_pure,Result.andThen_ok,IY,RU];have:(#[b,x]:Array Operand).map a.eval = #[a.eval b,a.eval x]:=by simp
  rw[this,hr];exact hn
 have hbv:=Dt h b;unfold LI at hk;split at hk
 ·rename_i e hu;obtain⟨hzi,hk⟩:=Aq hk;simp only[Fb] at hzi;obtain⟨Rg,WZ⟩:=hzi;obtain⟨i,hi⟩:∃i,P.info? e=some i:=Option.isSome_iff_exists.1 Rg;have Oa:Bj P e=i.size:=by unfold Bj;rw[hi];rfl
  have h1c:∀(m:Nat) (new:Al),(match Cm s.tm b with
    |.view id es off n=>
     match s.hp id with
     |some (.ar false c)=>A6 (Nat.beq es (Bj P e)&&decide (off+n*es<=c.length)&&decide (new.length=m*es))
       (Ab (min m n) fun k=>Ab (Cw c (new.take (k*es)) off) fun c=>K ⟨B7 s.tm o.dst (.sc (.int .i64 k)),Di s.hp id (some (.ar false c))⟩)
     |_=>none
    |_=>none)=some r->new.length=m*Bj P e:=by
   intro m new hk;split at hk
   ·split at hk
    ·obtain⟨hb,_⟩:=Aq hk;simp only[Fb,AM] at hb;rw[<-D9 hb.1.1];exact hb.2
    ·cases hk
   ·cases hk
  obtain⟨_,m,new,news,hk,hs⟩:=HH h hk h1c;split at hk
  ·rename_i id es off n hb;rw[hb] at hbv;split at hk
   ·rename_i cc h0;obtain⟨hb,hk⟩:=Aq hk;simp only[Fb,AM] at hb;obtain⟨⟨Tr,BU⟩,hnl⟩:=hb;have Tr:=D9 Tr;subst Tr;rw[Oa] at hk hs BU hnl hbv;have EG:news.length=m*i.size:=by rw[<-hs.rep.len];exact hnl
    have hkm:min m n*i.size<=m*i.size:=Nat.mul_le_mul_right _ (Nat.min_le_left _ _);have hkn:min m n*i.size<=n*i.size:=Nat.mul_le_mul_right _ (Nat.min_le_right _ _);have M0:K ⟨B7 s.tm o.dst (.sc (.int .i64 ((min m n:Nat):Int))),Di s.hp id (some (.ar false (Cw cc (new.take (min m n*i.size)) off)))⟩=some r:=hk;refine⟨_,M0,fun next Q hn=>?_⟩
    have Anc:∀{β':Bt} {Dn:Nat->Option Cd} {w':World},Dl N w0 X0 Y β' ⟨s.tm,Dn⟩ a w'->Dl N w0 X0 Y β' ⟨B7 s.tm o.dst (.sc (.int .i64 ((min m n:Nat):Int))),Dn⟩ (a.put o.dst (goInt ((min m n:Nat):Int))) w':=
     fun hh=>hh.put WZ (A3.sc _) (fun _ hx=>by cases hx)
    have Af2:new.take (min m n*i.size)=[]->Di s.hp id (some (.ar false (Cw cc (new.take (min m n*i.size)) off)))=s.hp:=by
     intro e;rw[e];refine Zg _ ?_;rw[h0];simp[Cw]
    have nothing:min m n*i.size=0->∀(ad:Option Addr) (cap:Nat),a.eval b=.slice ad n cap->o.wp P a w next Q:=by
     intro e ad cap Rh;have hr:=VA (P:=P) (w:=w) (w1:=w) (t:=t) (ty:=o.type) (ts:=tx::ts) (ad:=ad) (n:=n) (cap:=cap) hu hi hs (by rw[e];cases ad<;>simp[storeCells])
     rw[<-Rh] at hr;refine run hr next Q (hn _ _ β (Anc ?_));rw[Af2 (by rw[e,List.take_zero])];exact h
    rcases hbv with⟨hβ,_,rfl,ad,Rh⟩|⟨bb,ob,y,cap,hβ,Rh,hy,Axi,Yf,Aur⟩
    ·exact nothing (by simp) ad 0 Rh
    ·by_cases hm0:min m n*i.size=0
     ·exact nothing hm0 _ _ Rh
     rcases h.box id _ h0 with⟨Fy,_⟩|⟨b',o',Fy,It,X9,_⟩
     ·rw[hβ] at Fy;cases Fy
     rw[hβ] at Fy;simp at Fy;obtain⟨rfl,rfl⟩:=Fy;have AR:n≠0:=by rintro rfl;simp at hm0
     have hy:y=ob+off:=by rcases hy with hy|⟨hq,_⟩<;>first|exact absurd hq AR|exact hy
     subst hy;have Cx:(news.take (min m n*i.size)).length=min m n*i.size:=by rw[List.length_take,EG];omega
     have Dv:∀k,k<(news.take (min m n*i.size)).length->(w.cell? ⟨bb,ob+off+k,none⟩).isSome=true:=by
      intro k hk;obtain⟨v,hv,_⟩:=It (off+k) _ (List.getElem?_eq_getElem (by omega));rw[Ft] at hv;rw[Mu,hv];rfl
     have hfr:∀k,k<(news.take (min m n*i.size)).length->w.frozen? ⟨bb,ob+off+k,none⟩=false:=fun k hk=>by
      obtain⟨u,hu⟩:=Option.isSome_iff_exists.1 (Dv k hk);exact X9 rfl _ (by omega) (GG hu)
     have h1:∀u∈news.take (min m n*i.size),u.oneCell'=true:=fun u hu=>hs.one u (List.mem_of_mem_take hu);have h3:=run_storeCells_cells (P:=P) bb (ob+off) (news.take (min m n*i.size)) 0 w (fun k hk=>by simpa using Dv k hk) (fun k hk=>by simpa using hfr k hk) h1;have hr:=VA (P:=P) (w:=w) (t:=t) (ty:=o.type) (ts:=tx::ts) (ad:=some ⟨bb,ob+off,none⟩) (n:=n) (cap:=cap) hu hi hs h3;rw[<-Rh] at hr;simp only[KT] at hr;refine run hr next Q (hn _ _ β (Anc ?_))
     refine h.write h0 trivial trivial hβ (Ep.setCells bb _ _ w) ?_ (fun cells hx=>by cases hx) (fun _ hx=>by cases hx) (fun j hj=>hj) (fun j hj=>by
      refine World.cell?_setCells_out bb _ _ w ⟨bb,j,none⟩ (fun _ _=>?_);have hj:¬(ob<=j):=hj;show j<ob+off\/ob+off+_<=j;omega)
     have Hf:Cy (D2 s.hp β Y) w (w.setCells bb (ob+off) (news.take (min m n*i.size))):=by
      have hw:=Ep.setCells bb (news.take (min m n*i.size)) (ob+off) w;have hAb:D2 s.hp β Y bb:=.inl ⟨id,ob,by rw[h0];trivial,hβ⟩
      exact⟨by rw[hw.size];exact Cc _,fun k _ hk=>hw.other k (fun e=>hk (e ▸ hAb)),fun k _=>hw.grow k⟩
     have hll:(new.take (min m n*i.size)).length=min m n*i.size:=by rw[List.length_take,hnl];omega
     refine .inr ⟨bb,ob,hβ,fun j p hj=>?_,fun _ j hj Uf=>?_,(fun x=>by cases x)⟩
     ·rw[Ft];rcases S9 (by omega) hj with⟨h3,h4,h5⟩|⟨h3,h5⟩
      ·have Av5:j-off<min m n*i.size:=by omega
       rw[List.getElem?_take_of_lt Av5] at h5;obtain⟨u,hu,hcu⟩:=hs.rep.get h5;have Ahu:j-off<(news.take (min m n*i.size)).length:=by omega
       refine⟨u,?_,hs.one u (List.mem_of_getElem? hu),hcu.step Hf (fun _ _ x=>x)⟩;have:=World.cell?_setCells_in bb (news.take (min m n*i.size)) (ob+off) w Dv (j-off) Ahu;rw[show ob+j=ob+off+(j-off) from by omega,this];rw[<-List.getElem?_eq_getElem Ahu,List.getElem?_take_of_lt Av5];exact hu
      ·obtain⟨v,hv,h6,DL⟩:=It j p h5;rw[Ft] at hv;refine⟨v,?_,h6,DL.step Hf (fun _ _ x=>x)⟩;rw[World.cell?_setCells_out bb _ _ w ⟨bb,ob+j,none⟩ (fun _ _=>by show ob+j<ob+off\/ob+off+_<=ob+j;omega)]
       exact hv
     ·rw[(Ep.setCells bb _ _ w).bs] at Uf;rw[(Ep.setCells bb _ _ w).frz];exact X9 rfl j hj Uf
   ·cases hk
  ·cases hk
 ·cases hk
theorem ZD(h:Dl N w0 X0 Y β s a w){G:Yl}(L0:SK P G w0 X0){C:H2}{call:A7}(Es:∀f args res,call f args=some res->Eb G P f args res){K:St->Option R}(hk:Wp C P N call s o K=some r):
  ∃s',K s'=some r/\∀(next:Act->World->Prop) (Q:Exit->Act->World->Prop),(∀a' w' β',Dl N w0 X0 Y β' s' a' w'->next a' w')->o.wp P a w next Q:=by
 unfold Wp at hk;split at hk
 ·rename_i t x y ho;obtain⟨hd,hk⟩:=Aq hk;exact VK h ho (by simpa using hd) hk
 ·rename_i c ho;split at hk
  ·rename_i hc;obtain⟨d,hd,E6⟩:=Cz hk;obtain⟨b,xs,KH,F3⟩:=Bh E6;obtain⟨x,ys,hys,Mx⟩:=Bh F3;obtain⟨AU,V3⟩:=Ej Mx;obtain⟨t,us,hus,YH⟩:=Bh V3;obtain⟨tx,vs,T8,hk6⟩:=Bh YH;rw[hys,AU] at KH;rw[T8] at hus;exact PM h ho hc hd KH hus hk6
  ·rename_i hc;obtain⟨b,xs,KH,F3⟩:=Bh hk;obtain⟨x,ys,hys,Mx⟩:=Bh F3;obtain⟨AU,V3⟩:=Ej Mx;obtain⟨t,us,hus,YH⟩:=Bh V3;obtain⟨tx,vs,T8,hk6⟩:=Bh YH;rw[hys,AU] at KH;rw[T8] at hus;exact WR h ho hc KH hus hk6
  ·rename_i f hc;exact TX h L0 Es ho hc hk
  ·cases hk
 ·cases hk
theorem YB(h:Dl N w0 X0 Y β s a w){G:Yl}(L0:SK P G w0 X0){C:H2}{call:A7}(Es:∀f args res,call f args=some res->Eb G P f args res){K:St->Option R}(hk:TS C P N call o s K=some r):
  ∃s',K s'=some r/\∀(next:Act->World->Prop) (Q:Exit->Act->World->Prop),(∀a' w' β',Dl N w0 X0 Y β' s' a' w'->next a' w')->o.wp P a w next Q:=by
 unfold TS at hk;cases hm:So C P o.op
 ·rw[hm] at hk;exact WK h L0 Es hk
 ·rw[hm] at hk;exact ZD h L0 Es hk
end
end
end
end Go.Proofs.YtkopiepmdppifaaGreatDoor.Pv
