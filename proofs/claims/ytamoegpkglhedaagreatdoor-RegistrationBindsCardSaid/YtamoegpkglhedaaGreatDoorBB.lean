/-
  The proof of RegistrationBinds, part 2.
-/
import Derived.Test.YtamoegpkglhedaaGreatDoorBA
import Derived.Laws.Append
import Derived.IntWalk
import Derived.Laws.AppendOwn
import Derived.Laws.IdiomCopy
set_option linter.unusedSimpArgs false
set_option linter.unusedVariables false
namespace Go.Proofs.YtamoegpkglhedaaGreatDoor.Pv
set_option maxRecDepth 1000000
noncomputable section
section
open Go.RowKit
def Hs(w:World)(A:Nat->Prop)(own:Option (Nat × Nat))(p:PV)(u:Value):Prop:=
 match p with
 |.own es n c=>(own=none/\n=0/\c=[]/\∃ad,u=.slice ad 0 0) \/
   ∃b o cap,own=some (b,o)/\u=.slice (some ⟨b,o,none⟩) n cap/\n<=cap/\Fit w es b (o+cap*es)/\b<w.heap.size/\RdT w A ⟨b,o,none⟩ c/\∀j,o<=j->j<bsz w b->w.frozen? ⟨b,j,none⟩=false
 |p=>Au w A p u
def F0(w:World)(A:Nat->Prop)(own:Bt):Nat->Ae->List Value->Prop
 |_,[],[]=>True
 |j,p::ps,u::us=>Hs w A (own j) p u/\F0 w A own (j+1) ps us
 |_,_,_=>False
def Ao6(w:World)(A:Nat->Prop)(own:Bt)(j b o:Nat)(cs:Ae):Prop:=
 ∃vs,F0 w A own j cs vs/\(∀(k:Nat) v,vs[k]?=some v->w.cell? ⟨b,o+k,none⟩=some v)/\∀k,k<cs.length->w.frozen? ⟨b,o+k,none⟩=false
def Ayj(w:World)(A:Nat->Prop)(own:Bt)(z j:Nat)(p:PV)(u:Value):Prop:=
 match p with
 |.agg cs=>∃vs,u=.agg ⟨vs⟩/\F0 w A own j cs vs
 |.pbox cs=>∃b o,own j=some (b,o)/\z<=b/\u=.pointer (some ⟨b,o,none⟩)/\Ao6 w A own (j+1) b o cs
 |p=>Hs w A (own j) p u
def plc:PV->Nat
 |.pbox cs=>1+cs.length
 |p=>(cellsOf p).length
def XI(w:World)(A:Nat->Prop)(own:Bt)(z:Nat):Nat->Ae->List Value->Prop
 |_,[],[]=>True
 |j,p::ps,u::us=>Ayj w A own z j p u/\XI w A own z (j+plc p) ps us
 |_,_,_=>False
abbrev HW:=Nat->Nat->Option (Nat × Nat)
def BtX(bt:HW)(b:Nat):Prop:=∃i j o,bt i j=some (b,o)
def isA(p:PV):Prop:=CJ p\/∃es n c,p=.own es n c
def HU(p:PV):Bool:=
 match p with
 |.pbox _=>true
 |.tup _=>true
 |_=>false
theorem Axg{p:PV}(h:isA p):HU p=false:=by
 rcases h with h|⟨_,_,_,rfl⟩
 ·cases p<;>first|rfl|exact h.elim
 ·rfl
def Aff(w:World)(A:Nat->Prop)(bt:Bt)(p:PV)(u:Value):Prop:=
 match p with
 |.pbox ps=>∃b o,bt 0=some (b,o)/\u=.pointer (some ⟨b,o,none⟩)/\(∀p∈ps,isA p)/\Ao6 w A bt 1 b o ps
 |.tup ps=>∃es n c,ps=[.own es n c]/\Hs w A (bt 0) (.own es n c) u
 |.agg cs=>∃vs,u=.agg ⟨vs⟩/\(∀p∈cs,isA p)/\F0 w A bt 1 cs vs
 |p=>isA p/\Hs w A (bt 1) p u
def O4(w:World)(A:Nat->Prop)(bt:HW):Nat->Ae->List Value->Prop
 |_,[],[]=>True
 |i,p::ps,u::us=>Aff w A (bt i) p u/\O4 w A bt (i+1) ps us
 |_,_,_=>False
def A2y(bt:Bt)(p:PV)(b j:Nat):Prop:=
 (∃k o,bt (k+1)=some (b,o)/\o<=j)\/∃o ps,bt 0=some (b,o)/\o<=j/\((p=.pbox ps/\j<o+ps.length)\/p=.tup ps)
def PY(bt:HW)(args:Ae)(b j:Nat):Prop:=∃i p,args[i]?=some p/\A2y (bt i) p b j
def CM(w:World)(A:Nat->Prop)(own:Bt)(bt:HW):Nat->Nat->Ae->List Ae->Prop
 |_,_,[],r=>r=[]
 |j,i,p::zs,r=>
  match p with
  |.pbox ps=>
   match r with
   |[]=>False
   |cs::r=>(∃b o,bt i 0=some (b,o)/\cs.length=ps.length/\Ao6 w A own j b o cs)/\CM w A own bt (j+cs.length) (i+1) zs r
  |.tup _=>
   match r with
   |[]=>False
   |cs::r=>((bt i 0=none/\cs=[])\/∃b o,bt i 0=some (b,o)/\RdT w A ⟨b,o,none⟩ cs/\∀k,o<=k->k<bsz w b->w.frozen? ⟨b,k,none⟩=false)/\CM w A own bt j (i+1) zs r
  |_=>CM w A own bt j (i+1) zs r
def QQ(bt:HW)(own:Bt)(Y:Nat->Prop)(b:Nat):Prop:=(∃j o,own j=some (b,o))\/(∃i o,bt i 0=some (b,o))\/Y b
def Pq(vals:Ae):Nat:=(vals.map plc).sum
structure Out(w w':World)(Y:Nat->Prop)(bt:HW)(args:Ae)(own:Bt)(r:A4)(vs:List Value):Prop where
 os:w'.os=w.os
 tape:w'.tape=w.tape
 output:w'.output=w.output
 ext:Ct (BtX bt) w w'
 rng:∀b j,b<w.heap.size->¬PY bt args b j->w'.cell? ⟨b,j,none⟩=w.cell? ⟨b,j,none⟩/\w'.frozen? ⟨b,j,none⟩=w.frozen? ⟨b,j,none⟩
 vals:XI w' (QQ bt own Y) own w.heap.size 0 r.vals vs
 outs:CM w' (QQ bt own Y) own bt (Pq r.vals) 0 args r.outs
 fresh:∀j b o,own j=some (b,o)->b<w'.heap.size/\(b<w.heap.size->(∃i k o',bt i (k+1)=some (b,o'))/\∀x,o<=x->PY bt args b x)
 inj:∀j j' b o o',own j=some (b,o)->own j'=some (b,o')->j=j'
def J9(us:List Value):Value:=match us with|[u]=>u|us=>.tuple ⟨us⟩
def V7(w:World)(Y:Nat->Prop)(p:PV)(u:Value):Prop:=
 match p with
 |.agg cs=>∃vs,u=.agg ⟨vs⟩/\Bj (fun c v=>CJ c/\Au w Y c v) cs vs
 |p=>CJ p/\Au w Y p u
structure Ins(w:World)(Y:Nat->Prop)(bt:HW)(args:Ae)(us:List Value):Prop where
 Ylt:∀b,Y b->b<w.heap.size
 Yx:∀b,Y b->¬BtX bt b
 lt:∀b,BtX bt b->b<w.heap.size
 inj:∀i j i' j' b o o',bt i j=some (b,o)->bt i' j'=some (b,o')->i=i'/\j=j'
 l0:∀i q,bt i 0=some q->∃p,args[i]?=some p/\HU p=true
 args:O4 w (fun b=>BtX bt b\/Y b) bt 0 args us
structure CK where
 bl:Nat->Prop
 ok:World->Prop
 stable:∀w w':World,(∀b,bl b->b<w.heap.size->w'.heap[b]?=w.heap[b]?)->ok w->ok w'
def C6(G:CK)(P:Program)(f:FuncId)(args:Ae)(r:A4):Prop:=
 (∃fn,P.funcs[f]?=some fn/\fn.body.isSome=true)/\∀(w:World)(Y:Nat->Prop)(bt:HW)(us:List Value),Ins w Y bt args us->G.ok w->(∀b,G.bl b->b<w.heap.size/\¬BtX bt b) ->
  Calls P f us.toArray w fun e w'=>∃vs own,e=.returned (J9 vs)/\Out w w' Y bt args own r vs
def Abd:HW:=fun _ _=>none
theorem Tp(b:Nat):¬BtX Abd b:=by rintro⟨_,_,_,h⟩;cases h
theorem N8{w:World}{A:Nat->Prop}{q:Option (Nat × Nat)}{p:PV}{u:Value}(hp:CJ p)(h:Au w A p u):Hs w A q p u:=by cases p<;>first|exact h|exact hp.elim
theorem KK{w:World}{A:Nat->Prop}{own:Bt}:∀{cs:Ae}{vs:List Value}{j:Nat},Bj (fun c v=>CJ c/\Au w A c v) cs vs->F0 w A own j cs vs
 |[],[],_,_=>trivial
 |_::_,_::_,_,h=>⟨N8 h.1.1 h.1.2,KK h.2⟩
 |[],_::_,_,h=>h.elim
 |_::_,[],_,h=>h.elim
theorem Ana{w:World}{A:Nat->Prop}{bt:Bt}{p:PV}{u:Value}(h:V7 w A p u):Aff w A bt p u:=by
 cases p with
 |agg cs=>
  obtain⟨vs,h1,h2⟩:=h;refine⟨vs,h1,fun p hp=>.inl ?_,KK h2⟩;obtain⟨j,hj⟩:=List.mem_iff_getElem?.1 hp;obtain⟨v,_,hv⟩:=h2.get hj;exact hv.1
 |sc v=>exact⟨.inl trivial,h.2⟩
 |lst z es n c=>exact⟨.inl trivial,h.2⟩
 |_=>exact h.1.elim
theorem QT{w:World}{A:Nat->Prop}{bt:HW}:∀{ps:Ae}{us:List Value}{i:Nat},Bj (V7 w A) ps us->O4 w A bt i ps us
 |[],[],_,_=>trivial
 |_::_,_::_,_,h=>⟨Ana h.1,QT h.2⟩
 |[],_::_,_,h=>h.elim
 |_::_,[],_,h=>h.elim
theorem Alu{w:World}{A A':Nat->Prop}(hA:∀b,b<w.heap.size->A' b->A b){p:PV}{v:Value}(h:V7 w A p v):V7 w A' p v:=by
 cases p with
 |agg cs=>
  obtain⟨vs,rfl,h2⟩:=h;exact⟨vs,rfl,h2.mono fun c v hc=>⟨hc.1,hc.2.step (Ct.refl _ _) hA⟩⟩
 |sc v=>exact⟨h.1,h.2.step (Ct.refl _ _) hA⟩
 |lst z es n c=>exact⟨h.1,h.2.step (Ct.refl _ _) hA⟩
 |_=>exact h.1.elim
theorem OU{w:World}{Y:Nat->Prop}{args:Ae}{us:List Value}(hY:∀b,Y b->b<w.heap.size)(h:Bj (V7 w Y) args us):Ins w Y Abd args us:=
 ⟨hY,fun b _=>Tp b,fun b h=>absurd h (Tp b),(fun _ _ _ _ _ _ _ h=>by cases h),(fun _ _ h=>by cases h),QT (h.mono fun _ _ hx=>Alu (fun b _ hb=>hb.elim (fun q=>absurd q (Tp b)) id) hx)⟩
def NoNG(P:Program):Prop:=∀(f:FuncId) (fn:Func),P.funcs[f]?=some fn->(fn.name == "runtime.NumGoroutine")=false
structure Env(P:Program)(G:CK)(w0:World)(X0:J8):Prop where
 ng:NoNG P
 fr:∀w,Fr X0 w0 w->G.ok w
 y:∀b,G.bl b->b<w0.heap.size/\¬X0.X b
section
variable {R:Type}{r:R}{P:Program}{N:Nat}{w0:World}{X0:J8}{Y:Nat->Prop}{β β':Bt}{s:St}{a:Act}{w w':World}{o:Oper}{A:Nat->Prop}
def RP(P:Program)(a:Act)(w:World)(o:Oper)(Y:Nat->Prop)(β:Bt)(s:St)(v:PV)(fz:B2)(nw:List (Nat × B7)):Prop:=
 (∀id∈fz,∃f c,s.hp id=some (.ar f c))/\∀(next:Act->World->Prop)(Q:Exit->Act->World->Prop),
  (∀val w',(Ca s.hp nw=true->∃β',WO Y β ⟨s.tm,Af s.hp fz⟩ w v nw val w' β')->next (a.put o.dst val) w')->o.wp P a w next Q
theorem PX{v:PV}{fz:B2}{nw:List (Nat × B7)}(h:Fg P a w o Y β s v fz nw):RP P a w o Y β s v fz nw:=by obtain⟨h1,val,w',hr,hs⟩:=h;refine⟨h1,fun next Q hn=>?_⟩;unfold Oper.wp;rw[hr];exact hn val w' hs
theorem Aud(h:Di N w0 X0 Y β s a w){t:TypeId}{x:PV}{u:Value}(hx:Fn w (D2 s.hp β Y) β x u){K:PV->B2->Option R}(hk:Aik P (Mh s.hp) t x K=some r):
  ∃p m,K p m=some r/\(∀id∈m,∃f cc,s.hp id=some (.ar f cc))/\(cellsOf p).length=(Kc P t).length/\∀fz:B2,(∀id∈m,id∈fz)->(∀id∈fz,∃f cc,s.hp id=some (.ar f cc))->V7 w (D2 (Af s.hp fz) β Y) p u:=by
 unfold Aik at hk;cases Hj:Ch P t
 ·rw[Hj] at hk;obtain⟨cs,m,hk,hl,N2,hT,hF,hm,hv⟩:=Vg h (show Rr _ _ _ _=some r from hk);obtain⟨c,t',rfl,hk⟩:=Bn hk;obtain⟨rfl,hk⟩:=Em hk;have hcT:=hT c (by simp);refine⟨c,m,hk,hm,?_,fun fz h1 h2=>?_⟩
  ·have:cellsOf c=[c]:=by cases c<;>first|rfl|exact hcT.elim
   rw[this];exact hl
  have hF':=hF _ (Ub _)
  have hc:Cj w (D2 s.hp β Y) β x u:=by
   cases x<;>first|exact hx|exact hF'.elim
  have h3:=(hv fz h1 h2 [u] ⟨hc,trivial⟩).1.1;cases c<;>first|exact⟨trivial,h3⟩|exact hcT.elim
 ·rw[Hj] at hk;obtain⟨ps,hp,hk⟩:=Jb (show Ef _ _=some r from hk);rw[hp] at hx;obtain⟨cs,m,hk,hl,N2,hT,hF,hm,hv⟩:=Vg h hk;obtain⟨vs,Ed,h2⟩:=hx;refine⟨.agg cs,m,hk,hm,hl,fun fz h1 h3=>⟨vs,Ed,?_⟩⟩;exact (hv fz h1 h3 vs h2).1.mono_mem fun c hc v LQ=>⟨hT c hc,LQ⟩
theorem Aua(h:Di N w0 X0 Y β s a w){t:TypeId}{x:Operand}{K:PV->B2->Option R}(hk:Aik P (Mh s.hp) t (Cp s.tm x) K=some r):
  ∃p m,K p m=some r/\(∀id∈m,∃f cc,s.hp id=some (.ar f cc))/\∀fz:B2,(∀id∈m,id∈fz)->(∀id∈fz,∃f cc,s.hp id=some (.ar f cc))->V7 w (D2 (Af s.hp fz) β Y) p (a.eval x):=by
 obtain⟨p,m,h1,h2,_,h3⟩:=Aud h (Dr h x) hk;exact⟨p,m,h1,h2,h3⟩
theorem WY(h:Di N w0 X0 Y β s a w):∀{ts:List TypeId}{xs:List Operand}{K:Ae->B2->Option R},RI P (Mh s.hp) ts (xs.map (Cp s.tm)) K=some r ->
  ∃ps m,K ps m=some r/\(∀id∈m,∃f cc,s.hp id=some (.ar f cc))/\∀fz:B2,(∀id∈m,id∈fz)->(∀id∈fz,∃f cc,s.hp id=some (.ar f cc))->Bj (V7 w (D2 (Af s.hp fz) β Y)) ps (xs.map a.eval)
 |[],[],K,hk=>⟨[],[],hk,by simp,fun _ _ _=>trivial⟩
 |[],_::_,K,hk=>by cases hk
 |_::_,[],K,hk=>by cases hk
 |t::ts,x::xs,K,hk=>by
  simp only[Vv] at hk;unfold RI at hk;obtain⟨p,m,hk,hm,hv⟩:=Aua h hk;obtain⟨ps,ms,hk,OZ,X5⟩:=WY h hk;refine⟨p::ps,m++ms,hk,?_,fun fz h1 h2=>⟨hv fz (fun i hi=>h1 i (by simp[hi])) h2,X5 fz (fun i hi=>h1 i (by simp[hi])) h2⟩⟩;intro i hi;rcases Bx.1 hi with hi|hi
  ·exact hm i hi
  ·exact OZ i hi
theorem V7.weaken{A':Nat->Prop}(hA:∀b,b<w.heap.size->A' b->A b){p:PV}{v:Value}(h:V7 w A p v):V7 w A' p v:=by
 have one:CJ p->CJ p/\Au w A p v->V7 w A' p v:=by
  intro hp h;cases p<;>first|exact⟨h.1,h.2.step (Ct.refl _ _) hA⟩|exact hp.elim
 cases p with
 |agg cs=>
  obtain⟨vs,rfl,h2⟩:=h;exact⟨vs,rfl,h2.mono fun c v hc=>⟨hc.1,hc.2.step (Ct.refl _ _) hA⟩⟩
 |_=>exact one h.1 h
theorem Aqq{t:CT}{p:PV}{K:PV->Option R}(h:IB t p K=some r):
  ∃c,K c=some r/\CJ c/\CJ p/\(∀(w:World) (A:Nat->Prop) (β:Nat->Option (Nat × Nat)) (v:Value),Cj w A β p v->Au w A c v/\v.oneCell'=true)/\((∀es,t ≠ .sl es)->∃v,c=.sc v):=by
 obtain⟨c,hk,hT,RQ,hv⟩:=Qs h;cases t with
 |sl es=>exact⟨c,hk,hT,RQ,hv,fun Hp=>absurd rfl (Hp es)⟩
 |int k=>obtain⟨n,rfl,h2⟩:=Fl h;exact⟨_,h2,trivial,trivial,fun w A β v hv=>⟨hv,by have:=Au.val (w:=w) (A:=A) hv;subst this;rfl⟩,fun _=>⟨_,rfl⟩⟩
 |bool=>obtain⟨n,rfl,h2⟩:=Eo h;exact⟨_,h2,trivial,trivial,fun w A β v hv=>⟨hv,by have:=Au.val (w:=w) (A:=A) hv;subst this;rfl⟩,fun _=>⟨_,rfl⟩⟩
 |str=>obtain⟨n,rfl,h2⟩:=Eg h;exact⟨_,h2,trivial,trivial,fun w A β v hv=>⟨hv,by have:=Au.val (w:=w) (A:=A) hv;subst this;rfl⟩,fun _=>⟨_,rfl⟩⟩
 |any=>
  obtain⟨u,rfl,h1,h2⟩:=Akn (show fnK p (fun v=>K (.sc v))=some r from h);exact⟨_,h2,trivial,trivial,fun w A β v hv=>⟨hv,by have:=Au.val (w:=w) (A:=A) hv;subst this;exact h1⟩,fun _=>⟨_,rfl⟩⟩
theorem AL(shr:Bool)(N:Nat):∀{ts:List CT}{ps:Ae}{id:Nat}{K:Ae->List (Nat × B7)->Option R},Ux shr N id ts ps K=some r ->
  ∃cs bs,K cs bs=some r/\ps.length=ts.length/\(∀p∈ps,∀x,p ≠ .agg x/\p ≠ .pbox x)/\(∀c∈cs,UC c)/\((∀es,CT.sl es ∉ ts)->bs=[]/\∀c∈cs,∃v,c=.sc v) /\
   (∀i bx,(i,bx)∈bs->∃j es n c,ps[j]?=some (.own es n c)/\i=id+N*j/\bx=.ar false c) /\
   (∀c∈cs,∀i∈At c,∃bx,(i,bx)∈bs) /\
   ∀(w:World) (A:Nat->Prop) (own β':Bt) (j0:Nat) (us:List Value),(∀j,(∃bx,(id+N*j,bx)∈bs)->β' (id+N*j)=own (j0+j))->F0 w A own j0 ps us->Bj (Cj w A β') cs us
 |[],ps,id,K,hk=>by
  obtain⟨rfl,hk⟩:=Em hk;refine⟨[],[],hk,rfl,by simp,by simp,by simp,by simp,by simp,fun w A own β' j0 us _ h=>?_⟩;cases us with
  |nil=>trivial
  |cons u us=>exact h.elim
 |t::ts,ps,id,K,hk=>by
  unfold Ux at hk;obtain⟨p,ps',ME,E8⟩:=Bn hk;subst ME;clear hk
  have main:∃c b,(Ux shr N (id+N) ts ps' fun cs bs=>K (c::cs) (b++bs))=some r/\(∀x,p ≠ .agg x/\p ≠ .pbox x)/\UC c/\((∀es,t≠CT.sl es)->b=[]/\∃v,c=.sc v)/\(∀i bx,(i,bx)∈b->∃es n cc,p=.own es n cc/\i=id/\bx=.ar false cc)/\(∀i∈At c,∃bx,(i,bx)∈b) /\
    ∀(w:World) (A:Nat->Prop) (own:Option (Nat × Nat)) (β':Bt) (u:Value),((∃bx,(id,bx)∈b)->β' id=own)->Hs w A own p u->Cj w A β' c u:=by
   have tree:∀t',t'=t->(IB t' p fun c=>Ux shr N (id+N) ts ps' fun cs bs=>K (c::cs) ([]++bs))=some r->∃c b,(Ux shr N (id+N) ts ps' fun cs bs=>K (c::cs) (b++bs))=some r/\(∀x,p ≠ .agg x/\p ≠ .pbox x)/\UC c/\((∀es,t≠CT.sl es)->b=[]/\∃v,c=.sc v)/\(∀i bx,(i,bx)∈b->∃es n cc,p=.own es n cc/\i=id/\bx=.ar false cc)/\(∀i∈At c,∃bx,(i,bx)∈b) /\
     ∀(w:World) (A:Nat->Prop) (own:Option (Nat × Nat)) (β':Bt) (u:Value),((∃bx,(id,bx)∈b)->β' id=own)->Hs w A own p u->Cj w A β' c u:=by
    intro t' ht' hk;have hsc:=Aqq hk;obtain⟨c,hk,hT,RQ,hv,hsc⟩:=hsc;refine⟨c,[],hk,fun x=>⟨EY RQ x,by rintro rfl;exact RQ⟩,Wg hT,fun Hp=>⟨rfl,hsc (fun es e=>Hp es (ht'.symm.trans e))⟩,by simp,by rw[Jk hT];simp,fun w A own β' u _ hc=>?_⟩
    have Rd:Cj w A β' p u:=by cases p<;>first|exact hc|exact RQ.elim
    exact (Pd hT).2 (hv w A β' u Rd).1
   unfold Arb at E8;cases t with
   |sl es=>
    dsimp only at E8;cases shr
    ·unfold Lg at E8;simp only[cond_false] at E8;split at E8
     ·rename_i es' n c;cases hb:Nat.beq es' es
      ·rw[hb] at E8;cases E8
      ·rw[hb] at E8;have:=Dc hb;subst this;refine⟨_,_,E8,by simp,trivial,fun Hp=>absurd rfl (Hp _),?_,?_,fun w A own β' u hβ hc=>?_⟩
       ·intro i bx hm;simp at hm;exact⟨_,_,_,rfl,hm.1,hm.2⟩
       ·intro i hi;simp[At] at hi;subst hi;exact⟨.ar false c,by simp⟩
       ·have hβ':=hβ ⟨.ar false c,by simp⟩;clear hβ;rcases hc with⟨h1,rfl,rfl,h4⟩|⟨b,ob,cap,h1,h2,h3,h4,h5,_⟩
        ·exact .inl ⟨hβ'.trans h1,rfl,rfl,h4⟩
        ·exact .inr ⟨b,ob,ob,cap,hβ'.trans h1,h2,.inl rfl,h3,h4,h5⟩
     ·cases E8
    ·obtain⟨c,hk,hT,RQ,hv,_⟩:=Aqq (t:=.sl es) (p:=p) (K:=fun c=>Ux true N (id+N) ts ps' fun cs bs=>K (ZL c::cs) ([]++bs)) E8;have hU:CJ (ZL c):=by cases c<;>exact hT
     refine⟨ZL c,[],hk,fun x=>⟨EY RQ x,by rintro rfl;exact RQ⟩,Wg hU,fun Hp=>absurd rfl (Hp _),by simp,by rw[Jk hU];simp,fun w A own β' u _ hc=>?_⟩
     have Rd:Cj w A β' p u:=by cases p<;>first|exact hc|exact RQ.elim
     refine (Pd hU).2 ?_;have:=(hv w A β' u Rd).1;cases c with
     |lst z es n c=>exact Au.unz this
     |_=>exact this
   |int k=>exact tree (.int k) rfl E8
   |bool=>exact tree .bool rfl E8
   |str=>exact tree .str rfl E8
   |any=>exact tree .any rfl E8
  obtain⟨c,b,hk,hpa,hF,hsl,F3,Iy,LQ⟩:=main;obtain⟨cs,bs,hk,hl,Bdg,hFs,A27,Bgi,Bea,Bgn⟩:=AL shr N hk;refine⟨c::cs,b++bs,hk,by simp[hl],?_,?_,?_,?_,?_,fun w A own β' j0 us hβ hoc=>?_⟩
  ·intro x hx;rcases List.mem_cons.1 hx with rfl|hx
   ·exact hpa
   ·exact Bdg x hx
  ·intro x hx;rcases List.mem_cons.1 hx with rfl|hx
   ·exact hF
   ·exact hFs x hx
  ·intro Hp;obtain⟨h1,v,h2⟩:=hsl (fun es e=>Hp es (by rw[e];simp))
   obtain⟨h3,h4⟩:=A27 (fun es hm=>Hp es (by simp[hm]));refine⟨by rw[h1,h3];rfl,fun x hx=>?_⟩
   rcases List.mem_cons.1 hx with rfl|hx
   ·exact⟨v,h2⟩
   ·exact h4 x hx
  ·intro i bx hm;rcases Bx.1 hm with hm|hm
   ·obtain⟨es,n,cc,rfl,rfl,rfl⟩:=F3 i bx hm;exact⟨0,es,n,cc,rfl,by simp,rfl⟩
   ·obtain⟨j,es,n,cc,h1,rfl,h3⟩:=Bgi i bx hm;exact⟨j+1,es,n,cc,by simpa using h1,by rw[Nat.mul_add];omega,h3⟩
  ·intro x hx i hi;rcases List.mem_cons.1 hx with rfl|hx
   ·obtain⟨bx,hm⟩:=Iy i hi;exact⟨bx,by simp[hm]⟩
   ·obtain⟨bx,hm⟩:=Bea x hx i hi;exact⟨bx,by simp[hm]⟩
  ·cases us with
   |nil=>exact hoc.elim
   |cons u us=>
    refine⟨LQ w A (own j0) β' u (fun ⟨bx,hm⟩=>by have:=hβ 0 ⟨bx,by simp[hm]⟩;simpa using this) hoc.1,?_⟩
    refine Bgn w A own β' (j0+1) us (fun j ⟨bx,hm⟩=>?_) hoc.2;have e:id+N+N*j=id+N*(j+1):=by rw[Nat.mul_add];omega
    have:=hβ (j+1) ⟨bx,by rw[<-e];simp[hm]⟩
    rw[e,this]
    congr 1
    omega
end
open Go.RowKit
section
variable {R:Type}{r:R}{P:Program}{N:Nat}{w0:World}{X0:J8}{Y:Nat->Prop}{β β':Bt}{s:St}{a:Act}{w w':World}{o:Oper}{A:Nat->Prop}
theorem F0.len:∀{j:Nat}{own:Bt}{ps:Ae}{us:List Value},F0 w A own j ps us->ps.length=us.length
 |_,_,[],[],_=>rfl
 |_,_,_::_,_::_,h=>by simp[F0.len h.2]
 |_,_,[],_::_,h=>h.elim
 |_,_,_::_,[],h=>h.elim
theorem F0.at_:∀{j:Nat}{own:Bt}{ps:Ae}{us:List Value},F0 w A own j ps us->∀{i:Nat} {p},ps[i]?=some p->∃u,us[i]?=some u/\Hs w A (own (j+i)) p u
 |_,_,[],[],_,i,p,h=>by simp at h
 |j,own,_::_,u::_,h,0,p,hp=>by simp at hp;subst hp;exact⟨u,rfl,h.1⟩
 |j,own,_::_,_::_,h,i+1,p,hp=>by
  simp at hp;obtain⟨u,hu,hc⟩:=F0.at_ h.2 hp;exact⟨u,by simpa using hu,by rw[show j+(i+1)=j+1+i from by omega];exact hc⟩
 |_,_,[],_::_,h,_,_,_=>h.elim
 |_,_,_::_,[],h,_,_,_=>h.elim
def Ard(N id:Nat)(β':Bt)(w:World)(A:Nat->Prop)(z n:Nat)(bs:List (Nat × B7)):Prop:=
 ∀i bx,(i,bx)∈bs->(∃j,i=id+N*j/\j<n)/\D3 (some bx)/\V3 w A β' i bx/\∀cs,bx=.st cs->∀b o,β' i=some (b,o)->z<=b
def KF(bs:List (Nat × B7)):Prop:=∀i cells,(i,.st cells)∈bs->∀c∈cells,∀i'∈At c,∃bx,(i',bx)∈bs
theorem HB{q:Option (Nat × Nat)}{es n i:Nat}{c:Ae}{u:Value}(h:Hs w A q (.own es n c) u)(hβ:β' i=q):V3 w A β' i (.ar false c):=by
 rcases h with⟨h1,_,h2,_⟩|⟨b,o,cap,h1,_,_,_,_,h6,h7⟩
 ·exact .inl ⟨hβ.trans h1,h2⟩
 ·exact .inr ⟨b,o,hβ.trans h1,h6,fun _=>h7,(fun x=>by cases x)⟩
theorem IP{t:TypeId}(h:Mv P [t]=false):HT P t=none/\∀es,CT.sl es ∉ Kc P t:=by simp only[Mv,List.any_cons,List.any_nil,Bool.or_false,Bool.or_eq_false_iff] at h;refine⟨by simpa using h.1,fun es hm=>?_⟩;have:=List.any_eq_false.1 h.2 _ hm;simp at this
theorem Asa(shr:Bool)(N:Nat){t:TypeId}{p:PV}{id:Nat}{K:PV->List (Nat × B7)->Option R}(hk:Amw P shr N id t p K=some r):
  ∃v bs,K v bs=some r/\plc p=Adg P t/\(∀x,v ≠ .tup x)/\(Mv P [t]=false->bs=[]/\∀c∈cellsOf v,∃u,c=.sc u)/\(∀i∈Cy v,∃bx,(i,bx)∈bs)/\KF bs /\
   ∀(w:World) (A:Nat->Prop) (own β':Bt) (z j0:Nat) (u:Value),(∀j,(∃bx,(id+N*j,bx)∈bs)->β' (id+N*j)=own (j0+j))->Ayj w A own z j0 p u->Ju w A β' v u/\Ard N id β' w A z (plc p) bs:=by
 have boxes:∀{bs:List (Nat × B7)} {ps:Ae} {id:Nat},(∀i bx,(i,bx)∈bs->∃j es n c,ps[j]?=some (.own es n c)/\i=id+N*j/\bx=.ar false c) ->
   KF bs/\∀(w:World) (A:Nat->Prop) (own β':Bt) (j0:Nat) (us:List Value),(∀j,(∃bx,(id+N*j,bx)∈bs)->β' (id+N*j)=own (j0+j))->F0 w A own j0 ps us->∀z,Ard N id β' w A z ps.length bs:=by
  intro bs ps id F3;refine⟨fun i cells hm=>?_,fun w A own β' j0 us hβ ho z i bx hm=>?_⟩
  ·obtain⟨_,_,_,_,_,_,h3⟩:=F3 i _ hm;cases h3
  ·obtain⟨j,es,n,cc,h1,h2,h3⟩:=F3 i bx hm;obtain⟨u,hu,hoc⟩:=ho.at_ h1;subst h3;refine⟨⟨j,h2,?_⟩,trivial,HB hoc ?_,fun _ e=>by cases e⟩
   ·rcases Ik j ps.length with h|h
    ·exact h
    ·rw[List.getElem?_eq_none h] at h1;cases h1
   ·rw[h2];exact hβ j ⟨_,h2 ▸ hm⟩
 unfold Amw at hk;split at hk
 ·rename_i e he;obtain⟨ps,rfl,hk⟩:=XM hk;obtain⟨cs,bs,hk,hl,Avx,hF,hsl,F3,Iy,LQ⟩:=AL shr N hk;obtain⟨hri,Pm⟩:=boxes F3;refine⟨.ptr id 0,_,hk,by simp only[plc,Adg,he,hl],by simp,fun h=>?_,fun i hi=>?_,fun i cells hm c hc i' hi'=>?_,fun w A own β' z j0 u hβ ho=>?_⟩
  ·have:=(IP h).1;rw[he] at this;cases this
  ·simp only[Cy,At,R8] at hi;subst hi;exact⟨_,DW⟩
  ·rcases List.mem_cons.1 hm with e|hm
   ·cases e;obtain⟨bx,hb⟩:=Iy c hc i' hi';exact⟨bx,Ut _ hb⟩
   ·obtain⟨bx,hb⟩:=hri i cells hm c hc i' hi';exact⟨bx,Ut _ hb⟩
  ·obtain⟨b,o,h1,hz,rfl,vs,h3,h4,h5⟩:=ho;have h0:=hβ 0 ⟨_,by rw[Nat.mul_zero,ZG];exact DW⟩
   rw[Nat.mul_zero,ZG,ZG,h1] at h0;have B1:∀j,id+N+N*j=id+N*(j+1):=fun j=>by rw[Nat.mul_add];omega
   have hβ1:∀j,(∃bx,(id+N+N*j,bx)∈bs)->β' (id+N+N*j)=own (j0+1+j):=fun j ⟨bx,hm⟩=>by
    rw[B1,hβ (j+1) ⟨bx,by rw[<-B1];exact Ut _ hm⟩]
    congr 1;omega
   have hc2:=LQ w A own β' (j0+1) vs hβ1 h3;have LB:=Pm w A own β' (j0+1) vs hβ1 h3 z;have Eh:cs.length=ps.length:=by rw[hc2.len,<-h3.len]
   refine⟨⟨b,o,h0,by simp⟩,fun i bx hm=>?_⟩;rcases List.mem_cons.1 hm with e|hm
   ·cases e;refine⟨⟨0,by simp,by simp only[plc];omega⟩,trivial,⟨b,o,h0,fun k c hk=>?_,fun k hk=>h5 k (by omega)⟩,fun _ _ b' o' Jz=>?_⟩
    ·obtain⟨v,hv,hcr⟩:=hc2.get hk;exact⟨v,h4 k v hv,hcr⟩
    ·rw[h0] at Jz;cases Jz;exact hz
   ·obtain⟨⟨j,hj,hjn⟩,h6,h7⟩:=LB i bx hm;exact⟨⟨j+1,by rw[hj,B1],by simp only[plc];omega⟩,h6,h7⟩
 ·rename_i hnp;have Vm:Adg P t=(Kc P t).length:=by simp only[Adg,hnp]
  cases Hj:Ch P t
  ·rw[Hj] at hk;obtain⟨cs,bs,hk,hl,Avx,hF,hsl,F3,Iy,LQ⟩:=AL shr N (show Ux _ _ _ _ _ _=some r from hk);obtain⟨c,t',rfl,hk⟩:=Bn hk;obtain⟨rfl,hk⟩:=Em hk;have hFc:=hF c (by simp);have A7y:∀x,p ≠ .pbox x:=fun x=>(Avx p (by simp) x).2;have A4j:∀x,c ≠ .agg x:=by rintro x rfl;exact hFc
   have Bf0:∀x,c ≠ .tup x:=by rintro x rfl;exact hFc
   have TE:Cy c=At c:=by cases c<;>first|rfl|exact absurd rfl (A4j _)
   have hpa:∀x,p ≠ .agg x:=fun x=>(Avx p (by simp) x).1;obtain⟨hri,Pm⟩:=boxes F3;have hcell:cellsOf p=[p]:=by cases p<;>first|rfl|exact absurd rfl (hpa _)
   have A8o:plc p=1:=by cases p<;>first|rfl|exact absurd rfl (hpa _)|exact absurd rfl (A7y _)
   have hcc:cellsOf c=[c]:=by cases c<;>first|rfl|exact absurd rfl (A4j _)
   refine⟨c,bs,hk,by rw[A8o,Vm];exact hl,Bf0,fun Hp=>by rw[hcc];exact hsl (IP Hp).2,fun i hi=>Iy c (by simp) i (by rw[<-TE];exact hi),hri,fun w A own β' z j0 u hβ ho=>?_⟩
   have ho':Hs w A (own j0) p u:=by cases p<;>first|exact ho|exact absurd rfl (hpa _)|exact absurd rfl (A7y _)
   exact⟨(GO A4j).2 (LQ w A own β' j0 [u] hβ ⟨ho',trivial⟩).1,by rw[A8o];exact Pm w A own β' j0 [u] hβ ⟨ho',trivial⟩ z⟩
  ·rw[Hj] at hk;obtain⟨ps,rfl,hk⟩:=Jb (show Ef _ _=some r from hk);obtain⟨cs,bs,hk,hl,Avx,hF,hsl,F3,Iy,LQ⟩:=AL shr N hk;obtain⟨hri,Pm⟩:=boxes F3;refine⟨.agg cs,bs,hk,by rw[Vm];exact hl,by simp,fun Hp=>hsl (IP Hp).2,fun i hi=>?_,hri,fun w A own β' z j0 u hβ ho=>?_⟩
   ·obtain⟨c,hc,hi⟩:=List.mem_flatMap.1 (show i∈cs.flatMap At from hi);exact Iy c hc i hi
   ·obtain⟨vs,rfl,ho⟩:=ho;exact⟨⟨vs,rfl,LQ w A own β' j0 vs hβ ho⟩,Pm w A own β' j0 vs hβ ho z⟩
theorem IW(shr:Bool)(N:Nat):∀{ts:List TypeId}{ps:Ae}{id:Nat}{K:Ae->List (Nat × B7)->Option R},LF P shr N id ts ps K=some r ->
  ∃vs bs,K vs bs=some r/\vs.length=ps.length/\(∀v∈vs,∀x,v ≠ .tup x)/\(Mv P ts=false->bs=[]/\∀v∈vs,∀c∈cellsOf v,∃u,c=.sc u)/\(∀v∈vs,∀i∈Cy v,∃bx,(i,bx)∈bs)/\KF bs /\
   ∀(w:World) (A:Nat->Prop) (own β':Bt) (z j0:Nat) (us:List Value),(∀j,(∃bx,(id+N*j,bx)∈bs)->β' (id+N*j)=own (j0+j))->XI w A own z j0 ps us->Bj (Ju w A β') vs us/\Ard N id β' w A z (Pq ps) bs
 |[],ps,id,K,hk=>by
  obtain⟨rfl,hk⟩:=Em hk;refine⟨[],[],hk,rfl,by simp,by simp,by simp,(by intro i cells hm;cases hm),fun w A own β' z j0 us _ h=>?_⟩
  cases us with
  |nil=>exact⟨trivial,by intro i bx hm;cases hm⟩
  |cons u us=>exact h.elim
 |t::ts,ps,id,K,hk=>by
  unfold LF at hk;obtain⟨p,ps',ME,E8⟩:=Bn hk;subst ME;clear hk;obtain⟨v,bs,hk,hl,hnt,hsl,TE,hri,hv⟩:=Asa shr N E8;obtain⟨vs,bs',hk,hvl,Bdq,A27,hrs,Beo,X5⟩:=IW shr N hk;refine⟨v::vs,bs++bs',hk,by simp[hvl],?_,?_,?_,?_,fun w A own β' z j0 us hβ ho=>?_⟩
  ·intro x hx;rcases List.mem_cons.1 hx with rfl|hx
   ·exact hnt
   ·exact Bdq x hx
  ·intro Hp;simp only[Mv,List.any_cons,Bool.or_eq_false_iff] at Hp;obtain⟨h1,h2⟩:=hsl (by simp only[Mv,List.any_cons,List.any_nil,Bool.or_false,Bool.or_eq_false_iff];exact Hp.1)
   obtain⟨h3,h4⟩:=A27 (by simp only[Mv];exact Hp.2)
   refine⟨by rw[h1,h3];rfl,fun x hx=>?_⟩
   rcases List.mem_cons.1 hx with rfl|hx
   ·exact h2
   ·exact h4 x hx
  ·intro x hx i hi;rcases List.mem_cons.1 hx with rfl|hx
   ·obtain⟨bx,hm⟩:=TE i hi;exact⟨bx,by simp[hm]⟩
   ·obtain⟨bx,hm⟩:=hrs x hx i hi;exact⟨bx,by simp[hm]⟩
  ·intro i cells hm c hc i' hi';rcases Bx.1 hm with hm|hm
   ·obtain⟨bx,hb⟩:=hri i cells hm c hc i' hi';exact⟨bx,by simp[hb]⟩
   ·obtain⟨bx,hb⟩:=Beo i cells hm c hc i' hi';exact⟨bx,by simp[hb]⟩
  ·cases us with
   |nil=>exact ho.elim
   |cons u us=>
    obtain⟨h1,F3⟩:=hv w A own β' z j0 u (fun j ⟨bx,hm⟩=>hβ j ⟨bx,by simp[hm]⟩) ho.1;have B1:∀j,id+N*Adg P t+N*j=id+N*(Adg P t+j):=fun j=>by rw[Nat.mul_add];omega
    obtain⟨h2,Iy⟩:=X5 w A own β' z (j0+plc p) us (fun j ⟨bx,hm⟩=>by rw[B1,hβ _ ⟨bx,by rw[<-B1];simp[hm]⟩,hl];congr 1;omega) ho.2
    refine⟨⟨h1,h2⟩,fun i bx hm=>?_⟩;rcases Bx.1 hm with hm|hm
    ·obtain⟨⟨j,hj,hjn⟩,h4,h5⟩:=F3 i bx hm;exact⟨⟨j,hj,by simp only[Pq,Vv,List.sum_cons];omega⟩,h4,h5⟩
    ·obtain⟨⟨j,hj,hjn⟩,h4,h5⟩:=Iy i bx hm;refine⟨⟨_,by rw[hj,B1],?_⟩,h4,h5⟩;simp only[Pq,Vv,List.sum_cons] at hjn ⊢;omega
def MJ(N d:Nat)(bs:List (Nat × B7))(own β:Bt):Bt:=fun i=>if (bs.any fun q=>Nat.beq q.1 i)=true then own ((i-d) / N) else β i
theorem Aaq{bs:List (Nat × B7)}{i:Nat}:(bs.any fun q=>Nat.beq q.1 i)=true↔∃bx,(i,bx)∈bs:=by
 rw[List.any_eq_true];constructor
 ·rintro⟨⟨j,bx⟩,hm,e⟩
  have:=Dc e;subst this;exact⟨bx,hm⟩
 ·rintro⟨bx,hm⟩
  exact⟨_,hm,Qq i⟩
theorem Ajv{N d j:Nat}(hN:0<N){bs:List (Nat × B7)}{own β:Bt}(h:∃bx,(d+N*j,bx)∈bs):MJ N d bs own β (d+N*j)=own j:=by unfold MJ;rw[Cx (Aaq.2 h),Nat.add_sub_cancel_left,Nat.mul_div_cancel_left _ hN]
theorem Aey{c:Call}{f:FuncId}(ho:o.op=.call c)(hc:c.callee=.value (.func f))(Oc:NoNG P){fn:Func}(hf:P.funcs[f]?=some fn)(hb:fn.body.isSome=true):
  (execOp a.eval o).run P w=.ok (.enter f (c.args.map a.eval)) w:=by
 unfold execOp;rw[ho]
 have hn:¬fn.body=none:=by
  intro h;rw[h] at hb;cases hb
 have Hp:¬fn.name = "runtime.NumGoroutine" :=by simpa using Oc f fn hf
 simp[resolve,hc,Act.eval,Deferred.ofValue,invoke,callFunc,hf,Hp,hn]
theorem Ang{c:Call}{t:Nat}{f:FuncId}(ho:o.op=.call c)(hc:c.callee=.value (.tmp t))(ht:a.eval (.tmp t)=.func (.func f) #[] #[])(Oc:NoNG P){fn:Func}(hf:P.funcs[f]?=some fn)(hb:fn.body.isSome=true):
  (execOp a.eval o).run P w=.ok (.enter f (c.args.map a.eval)) w:=by
 unfold execOp;rw[ho]
 have hn:¬fn.body=none:=by
  intro h;rw[h] at hb;cases hb
 have Hp:¬fn.name = "runtime.NumGoroutine" :=by simpa using Oc f fn hf
 simp[resolve,hc,ht,Deferred.ofValue,invoke,callFunc,hf,Hp,hn]
theorem KL{A':Nat->Prop}(k:Bool):∀{xs:List Operand}{ps:Ae},Bj (V7 w A') ps (xs.map a.eval)->Bj (V7 w A') (Mj k xs ps) (xs.map a.eval)
 |[],[],h=>h
 |[],_::_,h=>h
 |_::_,[],h=>h
 |x::xs,p::ps,h=>by
  simp only[Vv] at h ⊢;refine⟨?_,KL k h.2⟩;split
  ·exact⟨trivial,Au.lnil _ _⟩
  ·exact h.1
theorem RW(h : Di N w0 X0 Y β s a w){G : CK}(Oc : Env P G w0 X0){C : G3}{call : Aq}(Ez : ∀ f args res, call f args = some res -> C6 G P f args res){c : Call}{f : FuncId}(Dh : ∀ {fn : Func}, P.funcs[f]? = some fn -> fn.body.isSome = true -> (execOp a.eval o).run P w = .ok (.enter f (c.args.map a.eval)) w){K : PV -> B2 -> List (Nat × B7) -> Option R}(hk : (RI P (Mh s.hp) (RH P f c) (c.args.toList.map (Cp s.tm)) fun vs m =>
          Bv (call f (Mj (C.kz f) c.args.toList vs)) fun rv ro => Ao ro (Ar (Nat.blt 0 N) <| LF P (C.shr f) N (o.dst.getD 0) (Sa P o.type) rv fun ws bs =>
            Ar (bif Tr P o.type then !Nat.beq ws.length 1 else Nat.beq ws.length 1) <| K (Rw ws (Tr P o.type)) (bif Mv P (Sa P o.type) then m else []) bs)) = some r): ∃ v fz nw, K v fz nw = some r /\ RP P a w o Y β s v fz nw := by
  obtain⟨ps, m, hk, hm, F6⟩ := WY h hk
  replace F6 := fun fz h1 h2 => KL (a := a) (C.kz f) (F6 fz h1 h2)
  generalize Mj (C.kz f) c.args.toList ps = ps at hk F6
  obtain⟨rv, ro, Se, hk⟩ := WV hk
  obtain⟨rfl, hk⟩ := Em hk
  obtain⟨hN, hk⟩ := Am hk
  have hN : 0 < N := Nat.lt_of_succ_le (Pf hN)
  obtain⟨ws, bs, hk, hwl, hnt, hsl, hrs, hri, hws⟩ := IW (C.shr f) N hk
  obtain⟨U8, hk⟩ := Am hk
  obtain⟨⟨fn, hfn, hfb⟩, LI⟩ := Ez f ps _ Se
  obtain⟨fz, JP, hfm⟩ : ∃ fz : B2, fz = (bif Mv P (Sa P o.type) then m else []) /\ ∀ id ∈ fz, ∃ f c, s.hp id = some (.ar f c) := by
    refine⟨_, rfl, fun id B1 => ?_⟩
    cases hh : Mv P (Sa P o.type) <;> rw[hh] at B1
    · cases B1
    · exact hm id B1
  rw[<- JP] at hk
  refine⟨_, _, _, hk, hfm, fun next Q hn => ?_⟩
  have hf := h.freeze hfm
  have hYc : ∃ Yc : Nat -> Prop, (∀ b, Yc b -> b < w.heap.size) /\ Bj (V7 w Yc) ps (c.args.toList.map a.eval) /\ ((∀ b, D2 (Af s.hp fz) β Y b -> Yc b) \/ Mv P (Sa P o.type) = false) := by
    have Sv := F6 m (fun _ hi => hi) hm
    cases hh : Mv P (Sa P o.type)
    · exact⟨fun _ => False, fun _ x => x.elim, Sv.mono fun _ _ hx => hx.weaken (fun _ _ x => x.elim), .inr rfl⟩
    · rw[hh] at JP
      have JP : fz = m := JP
      subst JP
      refine⟨D2 (Af s.hp fz) β Y, fun b hb => ?_, Sv, .inl fun _ x => x⟩
      rcases hb with⟨id, ob, hl, hβ⟩ | hY
      · exact hf.blt id b ob (Dp hl) hβ
      · exact Gf (h.Ylt b hY) h.fr.step.size
  obtain⟨Yc, Beq, hYargs, hYA⟩ := hYc
  unfold Oper.wp
  rw[Dh hfn hfb]
  show Calls P f _ w _
  have hca : c.args.map a.eval = (c.args.toList.map a.eval).toArray := by rw[<- List.map_toArray, Array.toArray_toList]
  rw[hca]
  refine (LI w Yc Abd _ (OU Beq hYargs) (Oc.fr w h.fr) (fun b x => ⟨Gf (Oc.y b x).1 h.fr.step.size, Tp b⟩)).mono ?_
  rintro e w' ⟨vs, own, rfl, ML⟩
  refine hn (J9 vs) w' fun Ui => ⟨MJ N (o.dst.getD 0) bs own β, ?_⟩
  obtain⟨ha1, Vp⟩ := B3 Ui
  have Aqr : ∀ i bx, (i, bx) ∈ bs -> Af s.hp fz i = none := fun i bx hm => E7.2 (ha1 i bx hm)
  obtain⟨hg1, hg2⟩ := Fi (hp := Af s.hp fz) Vp
  have hold : ∀ i, Af s.hp fz i ≠ none -> MJ N (o.dst.getD 0) bs own β i = β i := by
    intro i hi
    unfold MJ
    rw[Br]
    intro hx
    obtain⟨bx, hm⟩ := Aaq.1 hx
    exact hi (Aqr i bx hm)
  obtain⟨X5, hba⟩ := hws w' _ own (MJ N (o.dst.getD 0) bs own β) w.heap.size 0 vs (fun j hj => by rw[Ajv hN hj, Ip]) ML.vals
  have DF : ∀ i bx, (i, bx) ∈ bs -> ∃ j, i = o.dst.getD 0 + N * j /\ MJ N (o.dst.getD 0) bs own β i = own j := by
    intro i bx hm
    obtain⟨⟨j, rfl, _⟩, _, _⟩ := hba i bx hm
    exact⟨j, rfl, Ajv hN ⟨bx, hm⟩⟩
  have hAA : Mv P (Sa P o.type) = false \/ ∀ b, D2 (Av (Af s.hp fz) bs) (MJ N (o.dst.getD 0) bs own β) Y b -> QQ Abd own Yc b := by
    rcases hYA with hYA | hYA
    · refine .inr fun b hb => ?_
      rcases hb with⟨i, ob, hl, hβ⟩ | hY
      · by_cases hi : ∃ bx, (i, bx) ∈ bs
        · obtain⟨bx, hm⟩ := hi
          obtain⟨j, _, h3⟩ := DF i bx hm
          rw[h3] at hβ
          exact .inl ⟨j, ob, hβ⟩
        · rw[hg2 i (fun bx hm => hi ⟨bx, hm⟩)] at hl
          rw[hold i (Dp hl)] at hβ
          exact .inr (.inr (hYA b (.inl ⟨i, ob, hl, hβ⟩)))
      · exact .inr (.inr (hYA b (.inr hY)))
    · exact .inl hYA
  have hval : Fn w' (D2 (Av (Af s.hp fz) bs) (MJ N (o.dst.getD 0) bs own β) Y) (MJ N (o.dst.getD 0) bs own β) (Rw ws (Tr P o.type)) (J9 vs) := by
    have Sv : Bj (Ju w' (D2 (Av (Af s.hp fz) bs) (MJ N (o.dst.getD 0) bs own β) Y) (MJ N (o.dst.getD 0) bs own β)) ws vs := by
      rcases hAA with ZW | hAA
      · obtain⟨_, hsc⟩ := hsl ZW
        refine X5.mono_mem fun v hv u hvu => ?_
        have hsc := hsc v hv
        cases v with
        | agg cs =>
          obtain⟨xs, rfl, TA⟩ := hvu
          refine⟨xs, rfl, TA.mono_mem fun cc hcc x hx => ?_⟩
          obtain⟨y, rfl⟩ := hsc cc hcc
          have := Au.val (w := w') hx
          subst this
          exact Au.sc _
        | sc y =>
          have := Au.val (w := w') hvu
          subst this
          exact Au.sc _
        | lst z es n cc => obtain⟨y, hy⟩ := hsc _ (Ub _); cases hy
        | own es n cc => obtain⟨y, hy⟩ := hsc _ (Ub _); cases hy
        | view i es n cc => obtain⟨y, hy⟩ := hsc _ (Ub _); cases hy
        | ptr i cc => obtain⟨y, hy⟩ := hsc _ (Ub _); cases hy
        | iptr i cc => obtain⟨y, hy⟩ := hsc _ (Ub _); cases hy
        | pbox cc => obtain⟨y, hy⟩ := hsc _ (Ub _); cases hy
        | tup cc => obtain⟨y, hy⟩ := hsc _ (Ub _); cases hy
        | top => obtain⟨y, hy⟩ := hsc _ (Ub _); cases hy
        | ub => obtain⟨y, hy⟩ := hsc _ (Ub _); cases hy
      · exact X5.mono fun v u hvu => hvu.step (Ct.refl _ _) (fun b _ => hAA b) (fun _ _ => rfl)
    have Eh := Sv.len
    cases hT : Tr P o.type
    · rw[hT] at U8
      have h1 : ws.length = 1 := Dc U8
      match ws, vs, h1, Eh with
      | [v], [u], _, _ =>
        exact (Sz (hnt v (by simp))).2 Sv.1
    · rw[hT] at U8
      have h1 : ¬ ws.length = 1 := by
        intro e
        rw[e] at U8
        cases U8
      have hr : J9 vs = .tuple ⟨vs⟩ := by
        unfold J9
        split
        · simp at Eh; omega
        · rfl
      rw[hr]
      exact⟨vs, rfl, Sv⟩
  refine⟨ML.os, ML.tape, ML.output, ML.ext.weaken (fun b _ hb => Tp b hb), hold, ?_, ?_, ?_, ?_, ?_, hval, ?_⟩
  · intro i bx hm
    exact (hba i bx hm).2.1
  · intro i bx hm
    rcases hAA with ZW | hAA
    · rw[(hsl ZW).1] at hm; cases hm
    · exact (hba i bx hm).2.2.1.step' hAA
  · intro i bx b ob hm hβ
    obtain⟨j, _, h3⟩ := DF i bx hm
    rw[h3] at hβ
    obtain⟨h4, h5⟩ := ML.fresh j b ob hβ
    refine⟨?_, h4⟩
    rcases Ik b w.heap.size with h | h
    · obtain⟨⟨_, _, _, h6⟩, _⟩ := h5 h
      cases h6
    · exact h
  · intro i bx i' bx' b ob ob' hm M8 hβ hβ'
    obtain⟨j, h1, h3⟩ := DF i bx hm
    obtain⟨j', h1', h3'⟩ := DF i' bx' M8
    rw[h3] at hβ
    rw[h3'] at hβ'
    rw[h1, h1', ML.inj j j' b ob ob' hβ hβ']
  · intro i cells hm c hc i' hi'
    exact .inr (hri i cells hm c hc i' hi')
  · intro i hi
    right
    cases hT : Tr P o.type
    · rw[hT] at U8 hi
      have h1 : ws.length = 1 := Dc U8
      match ws, h1 with
      | [v], _ =>
        refine hrs v (by simp) i ?_
        have : Ci v = Cy v := by
          have hn := hnt v (by simp)
          cases v <;> first | rfl | exact absurd rfl (hn _)
        rw[<- this]
        exact hi
    · rw[hT] at hi
      obtain⟨v, hv, hi⟩ := List.mem_flatMap.1 (show i ∈ ws.flatMap Cy from hi)
      exact hrs v hv i hi
end
open Go.RowKit
section
variable {R:Type}{r:R}{P:Program}{N:Nat}{w0:World}{X0:J8}{Y:Nat->Prop}{β β':Bt}{s:St}{a:Act}{w w':World}{o:Oper}{A:Nat->Prop}
theorem Di.move(h:Di N w0 X0 Y β s a w){id d:Nat}{c cells:Ae}{bo:Option (Nat × Nat)}{v:PV}{val:Value}(h0:s.hp id=some (.ar false c))(hd:s.hp d=none)(hdN:d<N)(hos:w'.os=w.os)(htp:w'.tape=w.tape)(ML:w'.output=w.output)(Aep:w.heap.size<=w'.heap.size)(O5:∀k,k<w.heap.size->(∀x,β id≠some (k,x))->w'.heap[k]?=w.heap[k]?)(hbs:∀k,k<w.heap.size->Io w w' k)(ZA:∀k x,bo=some (k,x)->k<w'.heap.size/\(w.heap.size<=k\/∃y,β id=some (k,y)))(hbr:∀k x,bo=some (k,x)->k<w.heap.size->β id=some (k,x))(hO:∀k y,β id=some (k,y)->k<w.heap.size->∀j,j<y->w'.cell? ⟨k,j,none⟩=w.cell? ⟨k,j,none⟩/\w'.frozen? ⟨k,j,none⟩=w.frozen? ⟨k,j,none⟩)(Pm:V3 w' (D2 (Db (Db s.hp id (some .mv)) d (some (.ar false cells))) (Db β d bo) Y) (Db β d bo) d (.ar false cells))(hv:Fn w' (D2 (Db (Db s.hp id (some .mv)) d (some (.ar false cells))) (Db β d bo) Y) (Db β d bo) v val)(hr:∀i∈Ci v,i=d):
  Di N w0 X0 Y (Db β d bo) ⟨Db s.tm d v,Db (Db s.hp id (some .mv)) d (some (.ar false cells))⟩ (a.put (some d) val) w':=by
 have Hp:id≠d:=by rintro rfl;rw[h0] at hd;cases hd
 have Aei:∀i,i≠id->i≠d->Db (Db s.hp id (some B7.mv)) d (some (.ar false cells)) i=s.hp i:=fun i h1 h2=>by rw[Al _ _ h2,Al _ _ h1]
 have Avu:Db (Db s.hp id (some B7.mv)) d (some (.ar false cells)) id=some .mv:=by rw[Al _ _ Hp,An]
 have hgd:Db (Db s.hp id (some B7.mv)) d (some (.ar false cells)) d=some (.ar false cells):=An _ _ _
 have Gz:∀i,s.hp i≠none->Db (Db s.hp id (some B7.mv)) d (some (.ar false cells)) i≠none:=by
  intro i hi;by_cases e:i=id
  ·subst e;rw[Avu];simp
  ·by_cases e':i=d
   ·subst e';rw[hgd];simp
   ·rw[Aei i e e'];exact hi
 have hβo:∀i,s.hp i≠none->Db β d bo i=β i:=fun i hi=>Al _ _ (by rintro rfl;exact hi hd)
 have Acp:D3 (s.hp id):=by rw[h0];trivial
 have Ia:∀i,D3 (Db (Db s.hp id (some B7.mv)) d (some (.ar false cells)) i)->i=d\/(i≠id/\i≠d/\D3 (s.hp i)):=by
  intro i hi;by_cases e':i=d
  ·exact .inl e'
  ·by_cases e:i=id
   ·subst e;rw[Avu] at hi;exact hi.elim
   ·rw[Aei i e e'] at hi;exact .inr ⟨e,e',hi⟩
 have hX:∀k,k<w.heap.size->ZF (Db (Db s.hp id (some .mv)) d (some (.ar false cells))) (Db β d bo) k->ZF s.hp β k:=by
  rintro k hk ⟨i,x,hl,hβ⟩
  rcases Ia i hl with rfl|⟨e,e',hl⟩
  ·rw[An] at hβ;rcases (ZA k x hβ).2 with Pk|⟨y,hy⟩
   ·omega
   ·exact⟨id,y,Acp,hy⟩
  ·rw[Al _ _ e'] at hβ;exact⟨i,x,hl,hβ⟩
 have hAo:∀k,k<w.heap.size->D2 (Db (Db s.hp id (some .mv)) d (some (.ar false cells))) (Db β d bo) Y k->D2 s.hp β Y k:=fun k hk hx=>hx.imp (hX k hk) (fun y=>y);have Hr:Ct (D2 s.hp β Y) w w':=⟨Aep,fun k hk hn=>O5 k hk fun x hx=>hn (.inl ⟨id,x,Acp,hx⟩),hbs⟩
 have Auf:∀i k x,i≠id->i≠d->(∃b,s.hp i=some b/\b ≠ .mv)->β i=some (k,x)->k<w.heap.size/\w'.heap[k]?=w.heap[k]?:=by
  rintro i k x e e' ⟨b,hb,hmv⟩ hβ
  have hk:=h.blt i k x (by rw[hb];simp) hβ
  refine⟨hk,O5 k hk fun y hy=>?_⟩;have Al3:=h.box i b hb;cases b with
  |st cc=>exact e (h.inj i id k x y (by rw[hb];trivial) Acp hβ hy)
  |ar fz cc=>
   cases fz with
   |false=>exact e (h.inj i id k x y (by rw[hb];trivial) Acp hβ hy)
   |true=>
    rcases Al3 with⟨h1,_⟩|⟨k',x',h1,_,_,h4⟩
    ·rw[hβ] at h1;cases h1
    ·rw[hβ] at h1;simp at h1;obtain⟨rfl,rfl⟩:=h1
     exact h4 rfl (.inl ⟨id,y,Acp,hy⟩)
  |mv=>exact absurd rfl hmv
 refine⟨by rw[Wa];exact h.dfr,by rw[EI];exact h.tsz,?_,?_,?_,?_,?_,?_,?_,?_,?_,?_,?_,?_,h.Ylt,?_⟩
 ·intro i hi;show Db s.tm d v i=_;rw[Al _ _ (by omega)];exact h.tmo i hi
 ·refine S5 (d:=some d) (Q:=fun _ p u=>Fn w' (D2 (Db (Db s.hp id (some .mv)) d (some (.ar false cells))) (Db β d bo) Y) (Db β d bo) p u) h.tsz (by simp[Hx,Nat.blt];omega) (fun i hi=>?_) (fun _=>hv)
  exact (h.tms i hi).step Hr hAo fun j hj=>hβo j (h.wfT i hi j hj)
 ·intro i bi hb;simp only at hb;by_cases e':i=d
  ·subst e';rw[hgd] at hb;cases hb;exact Pm
  ·by_cases e:i=id
   ·subst e;rw[Avu] at hb;cases hb;trivial
   ·rw[Aei i e e'] at hb;have hβi:=hβo i (by rw[hb];simp)
    have MQ:=h.box i bi hb;cases bi with
    |st cc=>
     obtain⟨k,x,h1,h2,h3⟩:=MQ;obtain⟨hk,Wn⟩:=Auf i k x e e' ⟨_,hb,by simp⟩ h1;refine⟨k,x,by rw[hβi];exact h1,fun j p hj=>?_,fun j hj=>?_⟩
     ·obtain⟨u,hu,hc⟩:=h2 j p hj;exact⟨u,by rw[World.cell?_of_block (w:=w) Wn];exact hu,hc.step Hr hAo fun q hq=>hβo q (h.wfB i cc hb p (List.mem_of_getElem? hj) q hq)⟩
     ·rw[World.frozen?_of_block (w:=w) Wn];exact h3 j hj
    |ar fz cc=>
     rcases MQ with⟨h1,h2⟩|⟨k,x,h1,h2,h3,h4⟩
     ·exact .inl ⟨by rw[hβi];exact h1,h2⟩
     ·obtain⟨hk,Wn⟩:=Auf i k x e e' ⟨_,hb,by simp⟩ h1;refine .inr ⟨k,x,by rw[hβi];exact h1,fun j p hj=>?_,fun ef j hj Ya=>?_,fun ef hx=>h4 ef (hAo k hk hx)⟩
      ·obtain⟨u,hu,h5,hc⟩:=h2 j p hj;exact⟨u,by rw[World.cell?_of_block (w:=w) (by rw[F4];exact Wn)];exact hu,h5,hc.step Hr hAo⟩
      ·rw[World.frozen?_of_block (w:=w) Wn];refine h3 ef j hj ?_;unfold bsz at Ya ⊢;rw[Wn] at Ya;exact Ya
    |mv=>trivial
 ·intro i i' k x y hl N2 hb Jz;simp only at hl N2
  have key:∀j z,j≠id->j≠d->D3 (s.hp j)->β j=some (k,z)->bo=some (k,y)\/bo=some (k,x)->False:=by
   intro j z e e' hlj hβj hbk;have hk:=h.blt j k z (Dp hlj) hβj;have:∃t,bo=some (k,t):=by rcases hbk with q|q<;>exact⟨_,q⟩
   obtain⟨t,ht⟩:=this;rcases (ZA k t ht).2 with Pk|⟨q,hq⟩
   ·omega
   ·exact e (h.inj j id k z q hlj Acp hβj hq)
  rcases Ia i hl with rfl|⟨e,e',hl0⟩
  ·rcases Ia i' N2 with rfl|⟨e2,e2',A11⟩
   ·rfl
   ·rw[An] at hb;rw[Al _ _ e2'] at Jz;exact (key i' y e2 e2' A11 Jz (.inr hb)).elim
  ·rcases Ia i' N2 with rfl|⟨e2,e2',A11⟩
   ·rw[An] at Jz;rw[Al _ _ e'] at hb;exact (key i x e e' hl0 hb (.inl Jz)).elim
   ·rw[Al _ _ e'] at hb;rw[Al _ _ e2'] at Jz;exact h.inj i i' k x y hl0 A11 hb Jz
 ·intro i k x hi hb;simp only at hi;by_cases e':i=d
  ·subst e';rw[An] at hb;exact (ZA k x hb).1
  ·rw[Al _ _ e'] at hb
   have hi':s.hp i≠none:=by
    by_cases e:i=id
    ·subst e;rw[h0];simp
    ·rw[Aei i e e'] at hi;exact hi
   exact Gf (h.blt i k x hi' hb) Aep
 ·have:=S5 (d:=some d) (Q:=fun _ p _=>∀j∈Ci p,Db (Db s.hp id (some B7.mv)) d (some (.ar false cells)) j≠none) (val:=val) (v:=v) h.tsz (by simp[Hx,Nat.blt];omega) (fun i hi j hj=>Gz j (h.wfT i hi j hj)) (fun _ j hj=>by
   rw[hr j hj,hgd];simp)
  exact this
 ·intro i cc hc p hp j hj;simp only at hc;by_cases e':i=d
  ·subst e';rw[hgd] at hc;cases hc
  ·by_cases e:i=id
   ·subst e;rw[Avu] at hc;cases hc
   ·rw[Aei i e e'] at hc;exact Gz j (h.wfB i cc hc p hp j hj)
 ·rintro k ⟨i,x,hl,hβ⟩
  rcases Ia i hl with rfl|⟨e,e',hl⟩
  ·rw[An] at hβ;rcases (ZA k x hβ).2 with Pk|⟨y,hy⟩
   ·exact .inr (Nat.le_trans h.fr.step.size Pk)
   ·exact h.ownd k ⟨id,y,Acp,hy⟩
  ·rw[Al _ _ e'] at hβ;exact h.ownd k ⟨i,x,hl,hβ⟩
 ·intro i bi k x MQ hli hβ Cq j hj;simp only at MQ;rcases Ia i (by rw[MQ];exact hli) with rfl|⟨e,e',hl⟩
  ·rw[An] at hβ;rw[hgd] at MQ;cases MQ;have:=hbr k x hβ (Gf Cq h.fr.step.size);exact h.rngB id (.ar false c) k x h0 trivial this Cq j hj
  ·rw[Aei i e e'] at MQ;rw[Al _ _ e'] at hβ;exact h.rngB i bi k x MQ hli hβ Cq j hj
 ·intro i hi;exact⟨Gz _ (h.pin i hi).1,by rw[hβo _ (h.pin i hi).1];exact (h.pin i hi).2⟩
 ·intro i cc k x MQ hβ Cq;simp only at MQ;rcases Ia i (by rw[MQ];trivial) with rfl|⟨e,e',hl⟩
  ·rw[hgd] at MQ;cases MQ
  ·rw[Aei i e e'] at MQ;rw[Al _ _ e'] at hβ;exact h.stp i cc k x MQ hβ Cq
 ·intro k hY hx;exact h.Yx k hY (hX k (Gf (h.Ylt k hY) h.fr.step.size) hx)
 ·refine⟨hos.trans h.fr.os,htp.trans h.fr.tape,ML.trans h.fr.output,⟨Nat.le_trans h.fr.step.size Aep,fun k hk hnk=>?_,fun k hk=>(h.fr.step.bs k hk).trans (hbs k (Gf hk h.fr.step.size))⟩,fun k j hk hL=>?_⟩
  ·rw[O5 k (Gf hk h.fr.step.size) ?_]
   ·exact h.fr.step.keep k hk hnk
   ·intro x hx;rcases h.ownd k ⟨id,x,Acp,hx⟩ with hq|hq
    ·exact hnk hq
    ·omega
  ·have hkw:=Gf hk h.fr.step.size
   have LJ:w'.cell? ⟨k,j,none⟩=w.cell? ⟨k,j,none⟩/\w'.frozen? ⟨k,j,none⟩=w.frozen? ⟨k,j,none⟩:=by
    by_cases e:∃y,β id=some (k,y)
    ·obtain⟨y,hy⟩:=e;refine hO k y hy hkw j ?_;rcases Ik j y with q|q
     ·exact q
     ·exact absurd (h.rngB id (.ar false c) k y h0 trivial hy hk j q) hL
    ·have Wn:=O5 k hkw (fun x hx=>e ⟨x,hx⟩);exact⟨World.cell?_of_block (w:=w) Wn,World.frozen?_of_block (w:=w) Wn⟩
   rw[LJ.1,LJ.2];exact h.fr.rng k j hk hL
end
open Go.RowKit
section
variable {R:Type}{r:R}{P:Program}{N:Nat}{w0:World}{X0:J8}{Y:Nat->Prop}{β β':Bt}{s:St}{a:Act}{w w':World}{o:Oper}{A:Nat->Prop}
structure Src(P:Program)(w:World)(A:Nat->Prop)(size:Nat)(xv:Value)(m:Nat)(new:Ae)(news:List Value):Prop where
 len:∀w':World,(Builtin.lenOf xv).run P w'=.ok m w'
 cells:∀w':World,(∀b,b<w.heap.size->w'.heap[b]?=w.heap[b]?)->(Builtin.firstCells size m xv).run P w'=.ok news.toArray w'
 part:∀k,k<=m->(Builtin.firstCells size k xv).run P w=.ok (news.take (k*size)).toArray w
 one:∀u∈news,u.oneCell'=true
 rep:Bj (Au w A) new news
theorem QM(h:Di N w0 X0 Y β s a w){e tx:TypeId}{x:Operand}{K:Nat->Ae->Option R}(hk:Agf P s (A9 P e) tx (Cp s.tm x) K=some r)(h1c:∀m new,K m new=some r->new.length=m*A9 P e):
  (∃d,P.underlying tx=some d/\(∀k,d ≠ .int k))/\∃m new news,K m new=some r/\Src P w (D2 s.hp β Y) (A9 P e) (a.eval x) m new news:=by
 unfold Agf Ain at hk;split at hk
 ·rename_i hu;obtain⟨BH,hk⟩:=Am hk;have BH:=Dc BH;obtain⟨b,hx,hk⟩:=Eg hk;have Ed:=Co h hx;refine⟨⟨_,hu,by simp⟩,b.size,Dq b,b.data.toList.map (fun y=>Value.int .u8 y.toNat),hk,?_,?_,?_,?_,?_⟩
  ·intro w';rw[Ed];rfl
  ·intro w' _;rw[Ed]
   have hx:b.data.extract 0 b.size=b.data:=by
    have:b.size=b.data.size:=rfl;rw[this,Array.extract_size]
   have hd:(b.extract 0 b.size).data=b.data:=by
    rw[ByteArray.extract_zero_size]
   simp only[Builtin.firstCells,hd];rw[<-Array.toList_map,Array.toArray_toList];rfl
  ·intro k Pk;rw[Ed,BH,Kb];have hd:(b.extract 0 k).data=b.data.extract 0 k:=ByteArray.data_extract
   have e1:(b.data.extract 0 k).map (fun y=>Value.int .u8 y.toNat)=((b.data.toList.map fun y=>Value.int .u8 y.toNat).take k).toArray:=by
    apply Array.toList_inj.1;simp[List.map_take]
   simp only[Builtin.firstCells,hd];rw[e1];rfl
  ·intro u hu;simp at hu;obtain⟨y,_,rfl⟩:=hu;rfl
  ·unfold Dq;generalize b.data.toList=l
   induction l with
   |nil=>trivial
   |cons y l ih=>exact⟨Au.sc _,ih⟩
 ·rename_i e' hu;refine⟨⟨_,hu,by simp⟩,?_⟩;obtain⟨m,new,hk,hc⟩:=OG h hk;have Eh:=h1c m new hk;rcases hc with⟨⟨ad,Ed⟩,rfl,rfl⟩|⟨ad,cap,Ed,hn,Cq,hrd⟩
  ·have f0:∀w':World,(Builtin.firstCells (A9 P e) 0 (.slice ad 0 0)).run P w'=.ok #[] w':=fun w'=>by
    cases ad with
    |none=>rfl
    |some p=>exact run_firstCells_some (P:=P) w' (A9 P e) 0 p 0 0 [] (by simp) (fun j v hj=>by simp at hj)
   exact⟨0,[],[],hk,fun w'=>by rw[Ed];rfl,fun w' _=>by rw[Ed];exact f0 w',fun k Pk=>by rw[Ed,Nat.le_zero.1 Pk,List.take_nil];exact f0 w,by simp,trivial⟩
  ·refine⟨m,new,new.mapIdx (fun j _=>(w.cell? (ad.add j)).getD undef),hk,fun w'=>by rw[Ed];rfl,fun w' hw=>?_,fun k Pk=>?_,?_,?_⟩
   ·rw[Ed];refine run_firstCells_some (P:=P) w' (A9 P e) m ad m cap _ (by simp[Eh]) fun j v hj=>?_;rw[List.getElem?_mapIdx] at hj;cases hc:new[j]? with
    |none=>rw[hc] at hj;cases hj
    |some c=>
     rw[hc] at hj;simp at hj;obtain⟨u,hu,_⟩:=hrd j c hc;rw[hu] at hj;simp at hj;subst hj;have Cq:ad.block<w.heap.size:=by rcases Cq with rfl|Cq<;>first|exact Cq|simp at hc
     rw[World.cell?_of_block (w:=w) (by rw[F4];exact hw _ Cq)]
     exact hu
   ·rw[Ed];have hkm:k*A9 P e<=m*A9 P e:=Nat.mul_le_mul_right _ Pk;refine run_firstCells_some (P:=P) w (A9 P e) k ad m cap _ (by rw[List.length_take,List.length_mapIdx,Eh];omega) fun j v hj=>?_
    rw[List.getElem?_take] at hj;split at hj
    ·rw[List.getElem?_mapIdx] at hj;cases hc:new[j]? with
     |none=>rw[hc] at hj;cases hj
     |some c=>
      rw[hc] at hj;simp at hj;obtain⟨u,hu,_⟩:=hrd j c hc;rw[hu] at hj;simp at hj;subst hj;exact hu
    ·cases hj
   ·intro u hu;obtain⟨j,hj⟩:=List.mem_iff_getElem?.1 hu;rw[List.getElem?_mapIdx] at hj;cases hc:new[j]? with
    |none=>rw[hc] at hj;cases hj
    |some c=>
     rw[hc] at hj;simp at hj;obtain⟨v,hv,h2,ht⟩:=hrd j c hc;rw[hv] at hj;simp at hj;subst hj;exact h2
   ·refine Bj.of_at (by simp) fun j c v hc hj=>?_;rw[List.getElem?_mapIdx,hc] at hj;simp at hj;obtain⟨u,hu,_,ht⟩:=hrd j c hc;rw[hu] at hj;simp at hj;subst hj;exact ht
 ·cases hk
theorem RJ{e:TypeId}(h:Aab P e=true):∃i z,P.info? e=some i/\i.zero=some z/\z.cells.size=i.size/\A9 P e=i.size:=by
 unfold Aab at h;split at h
 ·rename_i i hi;split at h
  ·rename_i z hz;exact⟨i,z,hi,hz,Dc h,by simp[A9,hi]⟩
  ·cases h
 ·cases h
theorem MC{es n cap:Nat}{ad:Option Addr}{olds:List Value}(h:(ad=none/\olds=[])\/∃p,ad=some p/\olds.length=n*es/\∀(j:Nat) v,olds[j]?=some v->w.cell? (p.add j)=some v):
  (Builtin.firstCells es n (.slice ad n cap)).run P w=.ok olds.toArray w:=by
 rcases h with⟨rfl,rfl⟩|⟨p,rfl,hl,hc⟩
 ·rfl
 ·exact run_firstCells_some (P:=P) w es n p n cap olds hl hc
theorem Pu{t tx ty e:TypeId}{i:TypeInfo}{z:Value}{d:TypeDesc}{ts:List TypeId}(ht:P.underlying t=some (.slice e))(htx:P.underlying tx=some d)(hd:∀k,d ≠ .int k)(hi:P.info? e=some i)(hz:i.zero=some z){ad:Option Addr}{n cap m:Nat}{xv:Value}{olds news:List Value}{A:Nat->Prop}{new:Ae}(hs:Src P w A i.size xv m new news)(hold:(ad=none/\olds=[])\/∃p,ad=some p/\olds.length=n*i.size/\∀(j:Nat) v,olds[j]?=some v->w.cell? (p.add j)=some v)(hg:cap<n+m)(hb:(n+m)*i.bytes<=1099511627776)(h63:n+m<=1099511627776):
  (Builtin.append_ (t::tx::ts).toArray ty #[.slice ad n cap,xv]).run P w =
   .ok (.slice (some ⟨w.heap.size,0,none⟩) (n+m) (grownCap w (n+m) cap e)) (w.drew.alloc (.cells (olds.toArray++news.toArray++Builtin.zeroCells z.cells (grownCap w (n+m) cap e-(n+m))) e)):=by
 have h1:=hs.len w;have h2:(Builtin.firstCells i.size m xv).run P w.drew=.ok news.toArray w.drew:=hs.cells w.drew (fun _ _=>rfl)
 have h3:(Builtin.firstCells i.size n (.slice ad n cap)).run P w.drew=.ok olds.toArray w.drew:=MC (w:=w.drew) (by
  rcases hold with hh|⟨p,hp,hl,hc⟩
  ·exact .inl hh
  ·exact .inr ⟨p,hp,hl,fun j v hj=>hc j v hj⟩)
 have Al1:=growslice_fits (need:=n+m) (old:=cap) (bytes:=i.bytes) hg (by omega);have hn:¬(n+m<=cap):=by omega
 have Avp:¬(9223372036854775807<((n:Int)+(m:Int))):=by omega
 have Ax2:¬(281474976710656<Builtin.nextslicecap (n+m) cap*i.bytes):=by omega
 have PS:(match d with | .int _=>true|_=>false)=false:=by cases d<;>first|rfl|exact absurd rfl (hd _)
 simp[Builtin.append_,run_underlying ht,run_underlying htx,PS,sizeOf,typeInfo,zeroValue,hi,hz,h1,hn,Avp,Ax2,Question.forced,h2,h3,newRow,grownCap]
 congr 2
 apply Array.ext';simp[Zzv]
theorem MY{t tx ty e:TypeId}{i:TypeInfo}{d:TypeDesc}{ts:List TypeId}(ht:P.underlying t=some (.slice e))(htx:P.underlying tx=some d)(hd:∀k,d ≠ .int k)(hi:P.info? e=some i){b ob n cap m:Nat}{xv:Value}{news:List Value}{A:Nat->Prop}{new:Ae}(hs:Src P w A i.size xv m new news)(hl:news.length=m*i.size)(hcell:∀k,k<news.length->(w.cell? ⟨b,ob+n*i.size+k,none⟩).isSome=true)(hfr:∀k,k<news.length->w.frozen? ⟨b,ob+n*i.size+k,none⟩=false)(hg:n+m<=cap):
  (Builtin.append_ (t::tx::ts).toArray ty #[.slice (some ⟨b,ob,none⟩) n cap,xv]).run P w=.ok (.slice (some ⟨b,ob,none⟩) (n+m) cap) (w.setCells b (ob+n*i.size) news):=by
 have h1:=hs.len w;have h2:(Builtin.firstCells i.size m xv).run P w=.ok news.toArray w:=hs.cells w (fun _ _=>rfl);have h3:=run_storeCells_cells (P:=P) b (ob+n*i.size) news 0 w (fun k hk=>by simpa using hcell k hk) (fun k hk=>by simpa using hfr k hk) hs.one;have PS:(match d with | .int _=>true|_=>false)=false:=by cases d<;>first|rfl|exact absurd rfl (hd _)
 have _:=hl;simp[Builtin.append_,run_underlying ht,run_underlying htx,PS,sizeOf,typeInfo,hi,h1,hg,h2,Fo];rw[h3];simp
theorem Acu{t ty e:TypeId}{i:TypeInfo}{ts:List TypeId}(ht:P.underlying t=some (.slice e))(hi:P.info? e=some i){ad:Option Addr}{n cap m:Nat}{xv:Value}{news:List Value}{A:Nat->Prop}{new:Ae}(hs:Src P w A i.size xv m new news){w1:World}(Hr:(match ad with|some p=>storeCells p (news.take (min m n*i.size)) 0|none=>pure ()).run P w=.ok () w1):
  (Builtin.copy_ (t::ts).toArray ty #[.slice ad n cap,xv]).run P w=.ok (goInt ((min m n:Nat):Int)) w1:=by
 have h1:=hs.len w;have h2:=hs.part (min m n) (Nat.min_le_left _ _);have e:Nat.min m n=min m n:=rfl;generalize min m n=k at *
 cases ad with
 |none=>
  simp only at Hr;simp[Builtin.copy_,run_underlying ht,sizeOf,typeInfo,hi,h1,h2,e]
  simpa using Hr
 |some p=>
  simp only at Hr;simp[Builtin.copy_,run_underlying ht,sizeOf,typeInfo,hi,h1,h2,e,Hr]
theorem IX{t tx ty e:TypeId}{i:TypeInfo}{k kx:IntKind}{ts:List TypeId}(ht:P.underlying t=some (.slice e))(htx:P.underlying tx=some (.int k))(hi:P.info? e=some i):
  (Builtin.append_ (t::tx::ts).toArray ty #[.slice none 0 0,.int kx 0]).run P w=.ok (.slice none 0 0) w:=by
 have hw:IntKind.i64.wrap 0=0:=by decide
 simp[Builtin.append_,run_underlying ht,run_underlying htx,sizeOf,typeInfo,hi,asInt,asIntOf,hw]
theorem MW{t tx ty e:TypeId}{i:TypeInfo}{z:Value}{k kx:IntKind}{ts:List TypeId}(ht:P.underlying t=some (.slice e))(htx:P.underlying tx=some (.int k))(hi:P.info? e=some i)(hz:i.zero=some z){n:Int}(h0:0<n)(hb:n.toNat*i.bytes<=1099511627776)(hn:n<=1099511627776):
  (Builtin.append_ (t::tx::ts).toArray ty #[.slice none 0 0,.int kx n]).run P w =
   .ok (.slice (some ⟨w.heap.size,0,none⟩) n.toNat (grownCap w n.toNat 0 e)) (w.drew.alloc (.cells ((if n.toNat*i.size=0 then #[] else Builtin.zeroCells z.cells n.toNat)++Builtin.zeroCells z.cells (grownCap w n.toNat 0 e-n.toNat)) e)):=by
 have hw:IntKind.i64.wrap n=n:=IntWalk.i64_in n (by omega);have Al1:=growslice_fits (need:=n.toNat) (old:=0) (bytes:=i.bytes) (by omega) (by omega);have IA:¬n<0:=by omega
 have Gz:¬(281474976710656<n*(i.bytes:Int)):=by
  have:n*(i.bytes:Int)=((n.toNat*i.bytes:Nat):Int):=by
   rw[Int.natCast_mul,Int.toNat_of_nonneg (by omega)]
  omega
 have hz0:¬(n.toNat=0):=by omega
 have Avp:¬(9223372036854775807<(n.toNat:Int)):=by omega
 have Ax2:¬(281474976710656<Builtin.nextslicecap n.toNat 0*i.bytes):=by omega
 have ET:¬n<=0:=by omega
 have hmx:¬(9223372036854775807<max n 0):=by omega
 by_cases hs:n.toNat*i.size=0
 ·simp[Builtin.append_,run_underlying ht,run_underlying htx,sizeOf,typeInfo,zeroValue,hi,hz,asInt,asIntOf,hw,IA,Gz,hz0,ET,hmx,Avp,Ax2,Question.forced,hs,newRow,grownCap,Builtin.firstCells]
 ·simp[Builtin.append_,run_underlying ht,run_underlying htx,sizeOf,typeInfo,zeroValue,hi,hz,asInt,asIntOf,hw,IA,Gz,hz0,ET,hmx,Avp,Ax2,Question.forced,hs,newRow,grownCap,Builtin.firstCells]
theorem Py{t tx ty e:TypeId}{i:TypeInfo}{d:TypeDesc}{ts:List TypeId}(ht:P.underlying t=some (.slice e))(htx:P.underlying tx=some d)(hd:∀k,d ≠ .int k)(hi:P.info? e=some i){ad:Option Addr}{xv:Value}{news:List Value}{A:Nat->Prop}{new:Ae}(hs:Src P w A i.size xv 0 new news)(h0:news=[]):
  (Builtin.append_ (t::tx::ts).toArray ty #[.slice ad 0 0,xv]).run P w=.ok (.slice ad 0 0) w:=by
 subst h0;have h1:=hs.len w;have h2:(Builtin.firstCells i.size 0 xv).run P w=.ok ([]:List Value).toArray w:=hs.cells w (fun _ _=>rfl);have PS:(match d with | .int _=>true|_=>false)=false:=by cases d<;>first|rfl|exact absurd rfl (hd _)
 cases ad<;>simp[Builtin.append_,run_underlying ht,run_underlying htx,PS,sizeOf,typeInfo,hi,h1,h2,storeCells]
end
open Go.RowKit
section
variable {R:Type}{r:R}{P:Program}{N:Nat}{w0:World}{X0:J8}{Y:Nat->Prop}{β β':Bt}{s:St}{a:Act}{w w':World}{o:Oper}{A:Nat->Prop}
theorem Ao9{b j:Nat}(h:j<bsz w b):(w.cell? ⟨b,j,none⟩).isSome=true:=by
 unfold bsz at h;unfold World.cell?;split at h
 ·rename_i c e fz hb;simp[hb,h]
 ·omega
theorem Ahz{id d:Nat}{c cells:Ae}{bo:Option (Nat × Nat)}(h0:s.hp id=some (.ar false c))(hd:s.hp d=none)(ZA:∀k x,bo=some (k,x)->w.heap.size<=k\/∃y,β id=some (k,y)):
  ∀k,k<w.heap.size->D2 (Db (Db s.hp id (some .mv)) d (some (.ar false cells))) (Db β d bo) Y k->D2 s.hp β Y k:=by
 rintro k hk (⟨i,x,hl,hβ⟩|hY)
 ·by_cases e':i=d
  ·subst e';rw[An] at hβ;rcases ZA k x hβ with h|⟨y,hy⟩
   ·omega
   ·exact .inl ⟨id,y,by rw[h0];trivial,hy⟩
  ·rw[Al _ _ e'] at hl hβ;by_cases e:i=id
   ·subst e;rw[An] at hl;exact hl.elim
   ·rw[Al _ _ e] at hl;exact .inl ⟨i,x,hl,hβ⟩
 ·exact .inr hY
theorem QV{pre new:Ae}{olds news:List Value}{zs:Array Value}{e:TypeId}{A':Nat->Prop}(hg:Ht w w' (olds.toArray++news.toArray++zs) e)(hA:∀b,b<w.heap.size->A' b->A b)(h1:Bj (Au w A) pre olds)(h2:Bj (Au w A) new news)(ho:∀u∈olds,u.oneCell'=true)(hn:∀u∈news,u.oneCell'=true):RdT w' A' ⟨w.heap.size,0,none⟩ (pre++new):=by
 refine Akr hg hA fun j p hj=>?_;obtain⟨v,hv,ht⟩:=(h1.app h2).get hj;refine⟨v,?_,?_,ht⟩
 ·have Cq:j<(olds++news).length:=by
   rcases Ik j (olds++news).length with h|h
   ·exact h
   ·rw[List.getElem?_eq_none h] at hv;cases hv
  rw[Array.getElem?_append_left (by simpa using Cq)]
  simpa using hv
 ·rcases Bx.1 (List.mem_of_getElem? hv) with hm|hm
  ·exact ho v hm
  ·exact hn v hm
theorem Aa0(h:Di N w0 X0 Y β s a w){c:Call}(ho:o.op=.call c)(hc:c.callee=.builtin .append)(hnb:GH c=true){d:Nat}(Alr:o.dst=some d){b x:Operand}(F6:c.args.toList=[b,x]){t tx:TypeId}{ts:List TypeId}(LX:c.argTypes.toList=t::tx::ts){K:PV->List (Nat × B7)->Option R}(hk:AM P (Mh s.hp) d t tx (Cp s.tm x) K=some r):∃v nw,K v nw=some r/\Fg P a w o Y β s v [] nw:=by
 have hb:b=.const (.slice none 0 0):=by
  unfold GH at hnb;rw[F6] at hnb;split at hnb
  ·rename_i e;injection e
  ·cases hnb
 have OS:c.args = #[b,x]:=by
  have:c.args=([b,x]:List Operand).toArray:=by rw[<-F6]
  exact this
 have Ae6:c.argTypes=(t::tx::ts).toArray:=by rw[<-LX]
 have Ui:a.eval b=.slice none 0 0:=by rw[hb];rfl
 have run:∀{v:Value} {w1:World},(Builtin.append_ (t::tx::ts).toArray o.type #[a.eval b,a.eval x]).run P w=.ok v w1->(execOp a.eval o).run P w=.ok (.value v) w1:=by
  intro v w1 hr;unfold execOp;rw[ho];simp only[resolve,hc,invoke,builtin,Sem.run_bind,Sem.run_pure,Result.andThen_ok,OS,Ae6];have:(#[b,x]:Array Operand).map a.eval = #[a.eval b,a.eval x]:=by simp
  rw[this,hr];rfl
 unfold AM at hk;split at hk
 ·rename_i e hu;obtain⟨hzi,hk⟩:=Am hk;obtain⟨i,z,hi,hz,hzs,Tq⟩:=RJ hzi;have Zt:((P.info? e).map (·.bytes)).getD 0=i.bytes:=by rw[hi];rfl
  obtain⟨⟨dx,hdx,Ae4⟩,m,new,news,hk,hs⟩:=QM (s:=s) h hk (fun m new Pk=>by
   obtain⟨hb,_⟩:=Am Pk;simp only[E0,Yd] at hb;exact hb.1.1)
  obtain⟨Jz,hk⟩:=Am hk;simp only[E0,Yd] at Jz;obtain⟨⟨Ajo,hby⟩,TS⟩:=Jz;have hnl:new.length=news.length:=hs.rep.len;rw[Tq] at Ajo hk hs;rw[Zt] at hby;have KU:news.length=m*i.size:=by omega
  refine⟨_,_,hk,by simp,?_⟩;by_cases hm0:m=0
  ·subst hm0;have hr:=Py (P:=P) (w:=w) (t:=t) (tx:=tx) (ty:=o.type) (ts:=ts) (ad:=none) hu hdx Ae4 hi hs (List.eq_nil_of_length_eq_zero (by omega));rw[<-Ui] at hr;have Aem:new=[]:=List.eq_nil_of_length_eq_zero (by omega);subst Aem;refine⟨_,_,run hr,fun Ass=>⟨Db β d none,?_⟩⟩;have BA:s.hp d=none:=(B3 Ass).1 d _ (Ub _);rw[Ui];refine⟨rfl,rfl,rfl,Ct.refl _ _,fun j hj=>Al _ _ (by rintro rfl;exact hj BA),?_,?_,?_,?_,?_,.inl ⟨An _ _ _,rfl,rfl,none,rfl⟩,?_⟩
   ·intro j bx hm;simp at hm;rw[hm.2];trivial
   ·intro j bx hm;simp at hm;obtain⟨rfl,rfl⟩:=hm;exact .inl ⟨An _ _ _,rfl⟩
   ·intro j bx k q hm hq;simp at hm;obtain⟨rfl,rfl⟩:=hm;rw[An] at hq;cases hq
   ·intro j bx j' bx' k q q' hm M8 _ _;simp at hm M8;rw[hm.1,M8.1]
   ·intro j cells hm;simp at hm
   ·intro j hj;simp[Ci,Cy,At] at hj;subst hj;exact .inr ⟨.ar false [],by simp⟩
  ·have hr:=Pu (P:=P) (w:=w) (t:=t) (tx:=tx) (ty:=o.type) (ts:=ts) (ad:=none) (n:=0) (cap:=0) (olds:=[]) hu hdx Ae4 hi hz hs (.inl ⟨rfl,rfl⟩) (by omega) (by rw[Ip];exact hby) (by omega)
   rw[<-Ui] at hr;refine⟨_,_,run hr,fun Ass=>⟨Db β d (some (w.heap.size,0)),?_⟩⟩;have BA:s.hp d=none:=(B3 Ass).1 d _ (Ub _);have hge:0+m<=grownCap w (0+m) 0 e:=grownCap_ge w (0+m) 0 e
   have DP:Ht w (w.drew.alloc (.cells (([]:List Value).toArray++news.toArray++Builtin.zeroCells z.cells (grownCap w (0+m) 0 e-(0+m))) e)) (([]:List Value).toArray++news.toArray++Builtin.zeroCells z.cells (grownCap w (0+m) 0 e-(0+m))) e:=
    ⟨rfl,rfl,rfl,fun k hk=>Below.heap_alloc w.drew _ k hk,by show (w.heap.push _).size=_;simp,(0,0),by show (w.heap.push _)[w.heap.size]?=_;simp,.inl rfl⟩
   have Ahx:(([]:List Value).toArray++news.toArray++Builtin.zeroCells z.cells (grownCap w (0+m) 0 e-(0+m))).size=grownCap w (0+m) 0 e*i.size:=by
    simp only[Array.size_append,List.size_toArray,size_zeroCells,hzs,KU,NS,<-Nat.add_mul];rw[Ip (m*i.size),<-Nat.add_mul]
    congr 1
    omega
   refine Vh (s:=⟨s.tm,Af s.hp []⟩) DP BA trivial ?_ (fun cells hx=>by cases hx) ?_ (by intro j hj;simp[Ci,Cy,At] at hj;exact .inr hj)
   ·refine .inr ⟨w.heap.size,0,An _ _ _,?_,fun _ j _ hj=>?_,(fun q=>by cases q)⟩
    ·exact QV (pre:=[]) DP (Ajn (s:=⟨s.tm,Af s.hp []⟩) BA) trivial hs.rep (by simp) hs.one
    ·rw[DP.bsz] at hj;exact DP.frozen hj
   ·refine .inr ⟨w.heap.size,0,0,grownCap w (0+m) 0 e,An _ _ _,by rw[Ip],.inl rfl,by omega,?_,by rw[DP.size];omega⟩
    exact⟨by rw[DP.bsz,Ahx];omega,.inr (N6 w.drew _ e)⟩
 ·cases hk
theorem Adp{lo hi:Option Operand}{y3:Operand}{k3:IntKind}{len cap l u m:Nat}(hl:(lo=none/\l=0)\/∃y k,lo=some y/\a.eval y=.int k (l:Int))(hu:∃y k,hi=some y/\a.eval y=.int k (u:Int))(hm:a.eval y3=.int k3 (m:Int))(h1:l<=u)(h2:u<=m)(h3:m<=cap):
  (Instr.sliceBounds true len cap (lo.map a.eval) (hi.map a.eval) (some (a.eval y3))).run P w=.ok (l,u,m) w:=by
 obtain⟨y,k,rfl,hy⟩:=hu;rcases hl with⟨rfl,rfl⟩|⟨y',k',rfl,hy'⟩
 ·simp[Instr.sliceBounds,Instr.sliceBound,asIntOf,hy,hm,h2,h3]
 ·simp[Instr.sliceBounds,Instr.sliceBound,asIntOf,hy,hy',hm,h1,h2,h3]
theorem Aa7(h:Di N w0 X0 Y β s a w){t:TypeId}{x m:Operand}{lo hi:Option Operand}(ho:o.op=.slice t x lo hi (some m)){d:Nat}{K:PV->List (Nat × B7)->Option R}(hk:Z9 P d t (Cp s.tm x) (lo.map (Cp s.tm)) (hi.map (Cp s.tm)) (some (Cp s.tm m)) K=some r):∃v nw,K v nw=some r/\Fg P a w o Y β s v [] nw:=by
 have hx:=Dr h x;unfold Z9 at hk;split at hk
 ·rename_i e hu;obtain⟨hb,hk⟩:=Am hk;simp only[E0] at hb;obtain⟨Uc,hhi⟩:=hb
  obtain⟨yh,rfl⟩:∃y,hi=some y:=by
   cases hi with
   |none=>simp at hhi
   |some y=>exact⟨y,rfl⟩
  have fin:∀{ad:Option Addr} {n cap l u q:Nat},a.eval x=.slice ad n cap->n<=cap->((lo=none/\l=0)\/∃y k,lo=some y/\a.eval y=.int k (l:Int))->((some yh=none/\u=n)\/∃y k,some yh=some y/\a.eval y=.int k (u:Int))->(((some m:Option Operand)=none/\q=n)\/∃y k,(some m:Option Operand)=some y/\a.eval y=.int k (q:Int)) ->
    (Nat.beq l q&&Nat.beq u q&&decide (q<=n))=true->Fg P a w o Y β s (.view d (A9 P e) 0 0) [] [(d,.ar false [])]:=by
   intro ad n cap l u q Ed hn hl Lz hq hb;simp only[E0,Yd] at hb;obtain⟨⟨b1,b2⟩,b3⟩:=hb;have b1:=Dc b1;have b2:=Dc b2;subst b1 b2
   have hu2:∃y k,(some yh:Option Operand)=some y/\a.eval y=.int k (u:Int):=by
    rcases Lz with⟨e,_⟩|e
    ·cases e
    ·exact e
   obtain⟨k3,hm3⟩:∃k,a.eval m=.int k (u:Int):=by
    rcases hq with⟨e,_⟩|⟨y,k,e,q⟩
    ·cases e
    ·cases e;exact⟨k,q⟩
   have hbr:=Adp (P:=P) (w:=w) (len:=n) (cap:=cap) hl hu2 hm3 (Cs _) (Cs _) (by omega)
   have Dh:∃ad',(execOp a.eval o).run P w=.ok (.value (.slice ad' 0 0)) w:=by
    unfold execOp;rw[ho];cases ad with
    |none=>exact⟨none,by simp[Instr.sliceAt,Instr.slice,run_underlying hu,Ed,hbr,Dk Uc] at hbr ⊢⟩
    |some p=>exact⟨some p,by simp[Instr.sliceAt,Instr.slice,run_underlying hu,Ed,hbr,Dk Uc] at hbr ⊢⟩
   obtain⟨ad',Dh⟩:=Dh;refine⟨by simp,_,_,Dh,fun Ass=>⟨Db β d none,?_⟩⟩;have BA:s.hp d=none:=(B3 Ass).1 d _ (Ub _);refine⟨rfl,rfl,rfl,Ct.refl _ _,fun j hj=>Al _ _ (by rintro rfl;exact hj BA),?_,?_,?_,?_,?_,.inl ⟨An _ _ _,rfl,rfl,ad',rfl⟩,?_⟩
   ·intro j bx hm;simp at hm;rw[hm.2];trivial
   ·intro j bx hm;simp at hm;obtain⟨rfl,rfl⟩:=hm;exact .inl ⟨An _ _ _,rfl⟩
   ·intro j bx k q hm hq;simp at hm;obtain⟨rfl,rfl⟩:=hm;rw[An] at hq;cases hq
   ·intro j bx j' bx' k q q' hm M8 _ _;simp at hm M8;rw[hm.1,M8.1]
   ·intro j cells hm;simp at hm
   ·intro j hj;simp[Ci,Cy,At] at hj;subst hj;exact .inr ⟨.ar false [],by simp⟩
  split at hk
  ·rename_i id es off n e';rw[e'] at hx;obtain⟨BH,hk⟩:=Am hk;obtain⟨l,hk,hl⟩:=E1 h hk;obtain⟨u,hk,Lz⟩:=E1 h hk;obtain⟨q,hk,hq⟩:=E1 (x:=some m) h hk;obtain⟨hb,hk⟩:=Am hk;refine⟨_,_,hk,?_⟩;rcases hx with⟨hβ,_,rfl,ad,Ed⟩|⟨b,ob,y,cap,hβ,Ed,hy,hn,DH,Cq⟩
   ·exact fin Ed (Cs _) hl Lz hq hb
   ·exact fin Ed hn hl Lz hq hb
  ·obtain⟨z,n,c,hk,hp⟩:=H4 hk;obtain⟨l,hk,hl⟩:=E1 h hk;obtain⟨u,hk,Lz⟩:=E1 h hk;obtain⟨q,hk,hq⟩:=E1 (x:=some m) h hk;obtain⟨hb,hk⟩:=Am hk;refine⟨_,_,hk,?_⟩;rcases H1 hp hx with⟨Ed,rfl,rfl⟩|⟨ad,cap,Ed,_,hn,_⟩|⟨ad,cap,Ed,_,rfl,rfl⟩
   ·exact fin Ed (Cs _) hl Lz hq hb
   ·exact fin Ed hn hl Lz hq hb
   ·exact fin Ed (Nat.zero_le _) hl Lz hq hb
 ·cases hk
end
open Go.RowKit
section
variable {R:Type}{r:R}{P:Program}{N:Nat}{w0:World}{X0:J8}{Y:Nat->Prop}{β β':Bt}{s:St}{a:Act}{w w':World}{o:Oper}{A:Nat->Prop}
theorem At1(h:Di N w0 X0 Y β s a w){G:CK}(Oc:Env P G w0 X0){C:G3}{call:Aq}(Ez:∀f args res,call f args=some res->C6 G P f args res){K:PV->B2->List (Nat × B7)->Option R}(hk:QA C P N call s.tm (rd s.hp) (Mh s.hp) o K=some r):∃v fz nw,K v fz nw=some r/\RP P a w o Y β s v fz nw:=by
 have one:∀{K':PV->Option R},(∀v,K' v=some r->K v [] []=some r)->(∃v,K' v=some r/\Fg P a w o Y β s v [] [])->∃v fz nw,K v fz nw=some r/\RP P a w o Y β s v fz nw:=
  fun hK ⟨v,h1,h2⟩=>⟨v,[],[],hK v h1,PX h2⟩
 have many:(∃v fz nw,K v fz nw=some r/\Fg P a w o Y β s v fz nw)->∃v fz nw,K v fz nw=some r/\RP P a w o Y β s v fz nw:=
  fun ⟨v,fz,nw,h1,h2⟩=>⟨v,fz,nw,h1,PX h2⟩
 unfold QA at hk;split at hk
 ·rename_i x ho;exact one (fun _ h=>h) (ER (K:=fun p=>K p [] []) h (Amc ho) hk)
 ·rename_i x ho;exact one (fun _ h=>h) (ER (K:=fun p=>K p [] []) h (Ab0 ho) hk)
 ·rename_i c x y ho;exact one (fun _ h=>h) (Ah9 (K:=fun p=>K p [] []) h ho hk)
 ·rename_i t ho;obtain⟨d,hd,hk⟩:=Cw hk;exact many (Adl ho hk)
 ·rename_i t x ho;obtain⟨d,hd,hk⟩:=Cw hk;exact many (Alt h ho hk)
 ·rename_i t ps ho;exact one (fun _ h=>h) (Ae8 (K:=fun p=>K p [] []) h ho hk)
 ·rename_i t n ps ho;obtain⟨d,hd,hk⟩:=Cw hk;exact many (KA h ho hk)
 ·rename_i t x ho;exact one (fun _ h=>h) (Ahu (K:=fun p=>K p [] []) h ho hk)
 ·rename_i x ho;exact one (fun _ h=>h) (QP (K:=fun p=>K p [] []) h ho hk)
 ·rename_i op t x y ty ho;exact one (fun _ h=>h) (Aeu (K:=fun p=>K p [] []) h ho hk)
 ·rename_i op t x ho;exact one (fun _ h=>h) (Agg (K:=fun p=>K p [] []) h ho hk)
 ·rename_i src dst x ho;obtain⟨v,nw,hk,hg⟩:=Aip h ho hk;obtain⟨d,hd,hk⟩:=Cw hk;exact⟨v,[],nw,hk,PX hg⟩
 ·rename_i t x y ho;obtain⟨d,hd,hk⟩:=Cw hk;exact many (Ah4 h ho hk)
 ·rename_i t x lo hi mx ho;split at hk
  ·exact one (fun _ h=>h) (Ac2 (K:=fun p=>K p [] []) h ho hk)
  ·obtain⟨d,hd,hk⟩:=Cw hk;obtain⟨v,nw,h1,h2⟩:=Aa7 h ho hk;exact⟨v,[],nw,h1,PX h2⟩
 ·rename_i t x f ho;exact one (fun _ h=>h) (LZ (K:=fun p=>K p [] []) h ho hk)
 ·rename_i t x f ho;exact one (fun _ h=>h) (Adb (K:=fun p=>K p [] []) h ho hk)
 ·rename_i t x i ho;exact one (fun _ h=>h) (LY (K:=fun p=>K p [] []) h ho hk)
 ·rename_i t x i ho;exact one (fun _ h=>h) (Afc (K:=fun p=>K p [] []) h ho hk)
 ·rename_i t x k ok ho;exact one (fun _ h=>h) (Aay (K:=fun p=>K p [] []) h ho hk)
 ·rename_i x i ho;exact one (fun _ h=>h) (TM (K:=fun p=>K p [] []) h ho hk)
 ·rename_i c ho;split at hk
  ·rename_i hc;exact one (fun _ h=>h) (Amp (K:=fun p=>K p [] []) h ho hc hk)
  ·rename_i hc;exact one (fun _ h=>h) (Ams (K:=fun p=>K p [] []) h ho hc hk)
  ·rename_i hc;exact one (fun _ h=>h) (Amx (K:=fun p=>K p [] []) h ho hc hk)
  ·rename_i hc;exact one (fun _ h=>h) (Ak9 (K:=fun p=>K p [] []) h ho hc hk)
  ·rename_i hc;obtain⟨hnb,hk⟩:=Am hk;obtain⟨d,hd,E8⟩:=Cw hk;obtain⟨b,xs,TA,F2⟩:=Bn E8;obtain⟨x,ys,hys,Pp⟩:=Bn F2;obtain⟨IY,AW⟩:=Em Pp;obtain⟨t,us,hus,hk5⟩:=Bn AW;obtain⟨tx,vs,X5,hk6⟩:=Bn hk5;rw[hys,IY] at TA;rw[X5] at hus;obtain⟨v,nw,h1,h2⟩:=Aa0 h ho hc hnb hd TA hus hk6;exact⟨v,[],nw,h1,PX h2⟩
  ·rename_i f hc;exact RW h Oc Ez (fun hf hb=>Aey ho hc Oc.ng hf hb) hk
  ·rename_i t hc;obtain⟨f,hf0,E8⟩:=Ayh hk;have ht:a.eval (.tmp t)=.func (.func f) #[] #[]:=Co h (x:=.tmp t) hf0;exact RW h Oc Ez (fun hf hb=>Ang ho hc ht Oc.ng hf hb) E8
  ·cases hk
 ·cases hk
theorem Ah6(h:Di N w0 X0 Y β s a w){G:CK}(Oc:Env P G w0 X0){C:G3}{call:Aq}(Ez:∀f args res,call f args=some res->C6 G P f args res){K:St->Option R}(hk:(QA C P N call s.tm (rd s.hp) (Mh s.hp) o fun v fz nw=>JZ N s o.dst v fz nw K)=some r):
  ∃s',K s'=some r/\∀(next:Act->World->Prop) (Q:Exit->Act->World->Prop),(∀a' w' β',Di N w0 X0 Y β' s' a' w'->next a' w')->o.wp P a w next Q:=by
 obtain⟨v,fz,nw,hk,JP,hg⟩:=At1 h Oc Ez hk;unfold JZ at hk;obtain⟨hb,hk⟩:=Am hk;simp only[E0] at hb;refine⟨_,hk,fun next Q hn=>hg next Q fun val w' Hr=>?_⟩;obtain⟨β',st⟩:=Hr hb.2
 have Ui:Ca (Af s.hp fz) nw=true:=by
  have:∀nw,Ca s.hp nw=true->Ca (Af s.hp fz) nw=true:=by
   intro nw
   induction nw with
   |nil=>intro _;rfl
   |cons q nw ih=>
    obtain⟨i,b⟩:=q;intro hq;simp only[Ca,E0,Option.isNone_iff_eq_none] at hq ⊢;exact⟨⟨E7.2 hq.1.1,hq.1.2⟩,ih hq.2⟩
  exact this nw hb.2
 exact hn _ _ β' ((h.freeze JP).stepR hb.1 Ui st)
end
open Go.RowKit
section
variable {R:Type}{r:R}{P:Program}{N:Nat}{w0:World}{X0:J8}{Y:Nat->Prop}{β β':Bt}{s:St}{a:Act}{w w':World}{o:Oper}{A:Nat->Prop}
structure Ev(b:Nat)(w w':World):Prop where
 os:w'.os=w.os
 tape:w'.tape=w.tape
 output:w'.output=w.output
 size:w'.heap.size=w.heap.size
 other:∀k,k≠b->w'.heap[k]?=w.heap[k]?
 bs:bsz w' b=bsz w b
 frz:∀j,w'.frozen? ⟨b,j,none⟩=w.frozen? ⟨b,j,none⟩
theorem Ev.grow{b:Nat}(h:Ev b w w')(k:Nat):Io w w' k:=by
 by_cases e:k=b
 ·subst e;refine⟨by rw[h.bs];exact Cs _,fun q=>?_⟩
  unfold Afl at q ⊢;rw[h.bs,h.frz];exact q
 ·exact Io.same (h.other k e)
theorem Ev.refl(b:Nat)(w:World):Ev b w w:=⟨rfl,rfl,rfl,rfl,fun _ _=>rfl,rfl,fun _=>rfl⟩
theorem Ev.setCell(b j:Nat)(v:Value)(w:World):Ev b w (w.setCell ⟨b,j,none⟩ v):=by
 refine⟨rfl,rfl,rfl,by simp[World.setCell],fun k hk=>Below.heap_setCell w ⟨b,j,none⟩ v k hk,?_,fun i=>?_⟩
 ·simp only[bsz,World.setCell,Array.getElem?_modify];simp only[if_true];cases h:w.heap[b]? with
  |none=>simp
  |some x=>cases x<;>simp
 ·simp only[World.frozen?,World.setCell,Array.getElem?_modify,if_true];cases h:w.heap[b]? with
  |none=>simp
  |some x=>cases x<;>simp
theorem Ev.trans{b:Nat}{w'':World}(h:Ev b w w')(h':Ev b w' w''):Ev b w w'':=
 ⟨h'.os.trans h.os,h'.tape.trans h.tape,h'.output.trans h.output,h'.size.trans h.size,fun k hk=>(h'.other k hk).trans (h.other k hk),h'.bs.trans h.bs,fun j=>(h'.frz j).trans (h.frz j)⟩
theorem Ev.setCells(b:Nat):∀(vs:List Value)(j:Nat)(w:World),Ev b w (w.setCells b j vs)
 |[],_,w=>Ev.refl b w
 |v::vs,j,w=>(Ev.setCell b j v w).trans (Ev.setCells b vs (j+1) _)
theorem A8p{hp:Nat->Option B7}{id:Nat}{bx bx':B7}(h0:hp id=some bx)(hl:D3 (some bx))(N2:D3 (some bx'))(b:Nat):ZF (Db hp id (some bx')) β b↔ZF hp β b:=by
 constructor
 ·rintro⟨i,o,h1,h2⟩
  by_cases e:i=id
  ·subst e;exact⟨i,o,by rw[h0];exact hl,h2⟩
  ·rw[Al _ _ e] at h1;exact⟨i,o,h1,h2⟩
 ·rintro⟨i,o,h1,h2⟩
  by_cases e:i=id
  ·subst e;exact⟨i,o,by rw[An];exact N2,h2⟩
  ·exact⟨i,o,by rw[Al _ _ e];exact h1,h2⟩
theorem Di.write(h:Di N w0 X0 Y β s a w){id b ob:Nat}{bx bx':B7}(h0:s.hp id=some bx)(hl:D3 (some bx))(N2:D3 (some bx'))(hβ:β id=some (b,ob))(hw:Ev b w w')(Pm:V3 w' (D2 s.hp β Y) β id bx')(hr:∀cells,bx'=.st cells->∀c∈cells,∀i∈At c,s.hp i≠none)(hK:∀c',bx'=.st c'->∃c,bx=.st c)(hR:∀j,BR bx' ob j->BR bx ob j)(hO:∀j,¬BR bx ob j->w'.cell? ⟨b,j,none⟩=w.cell? ⟨b,j,none⟩):Di N w0 X0 Y β ⟨s.tm,Db s.hp id (some bx')⟩ a w':=by
 have hX:=A8p (β:=β) h0 hl N2;have hA:∀k,D2 (Db s.hp id (some bx')) β Y k↔D2 s.hp β Y k:=fun k=>⟨fun x=>x.imp (hX k).1 (fun y=>y),fun x=>x.imp (hX k).2 (fun y=>y)⟩;have hAb:D2 s.hp β Y b:=.inl ⟨id,ob,by rw[h0];exact hl,hβ⟩
 have Hr:Ct (D2 s.hp β Y) w w':=⟨by rw[hw.size];exact Cs _,fun k _ hk=>hw.other k (fun e=>hk (e ▸ hAb)),fun k _=>hw.grow k⟩
 have Gz:∀i,Db s.hp id (some bx') i≠none↔s.hp i≠none:=by
  intro i;by_cases e:i=id
  ·subst e;rw[An,h0];simp
  ·rw[Al _ _ e]
 have hAe:D2 (Db s.hp id (some bx')) β Y=D2 s.hp β Y:=funext fun k=>propext (hA k)
 have FF:∀i,D3 (Db s.hp id (some bx') i)->D3 (s.hp i):=by
  intro i hi;by_cases e:i=id
  ·subst e;rw[h0];exact hl
  ·rw[Al _ _ e] at hi;exact hi
 refine⟨h.dfr,h.tsz,h.tmo,fun i hi=>?_,fun i bi hb=>?_,fun i i' k x y h1 h2=>h.inj i i' k x y (FF i h1) (FF i' h2),fun i k x hi hk=>?_,fun i hi j hj=>(Gz j).2 (h.wfT i hi j hj),
  fun i cells hc c hcm j hj=>(Gz j).2 ?_,fun k hk=>h.ownd k ((hX k).1 hk),fun i bi k x MQ hli hk Cq j hj=>?_,fun i hi=>⟨(Gz _).2 (h.pin i hi).1,(h.pin i hi).2⟩,fun i c k x hc hk Cq=>?_,fun k hk x=>h.Yx k hk ((hX k).1 x),h.Ylt,?_⟩
 ·rw[hAe];exact (h.tms i hi).step Hr (fun _ _ x=>x) (fun _ _=>rfl)
 ·rw[hAe];simp only at hb;by_cases e:i=id
  ·subst e;rw[An] at hb;cases hb;exact Pm
  ·rw[Al _ _ e] at hb;have MQ:=h.box i bi hb;cases bi with
   |st c=>
    obtain⟨k,x,h1,h2,h3⟩:=MQ
    have hk:k≠b:=by
     rintro rfl
     exact e (h.inj i id k x ob (by rw[hb];trivial) (by rw[h0];exact hl) h1 hβ)
    refine⟨k,x,h1,fun j c hj=>?_,fun j hj=>?_⟩
    ·obtain⟨v,hv,hc⟩:=h2 j c hj;exact⟨v,by rw[World.cell?_of_block (w:=w) (hw.other k hk)];exact hv,hc.step Hr (fun _ _ x=>x) (fun _ _=>rfl)⟩
    ·rw[World.frozen?_of_block (w:=w) (hw.other k hk)];exact h3 j hj
   |ar fz c=>
    rcases MQ with hn|⟨k,x,h1,h2,h3,h4⟩
    ·exact .inl hn
    ·have hk:k≠b:=by
      rintro rfl
      cases fz with
      |true=>exact h4 rfl hAb
      |false=>exact e (h.inj i id k x ob (by rw[hb];trivial) (by rw[h0];exact hl) h1 hβ)
     refine .inr ⟨k,x,h1,fun j c hj=>?_,fun ef j hj Ya=>?_,h4⟩
     ·obtain⟨v,hv,h5,hc⟩:=h2 j c hj;exact⟨v,by rw[World.cell?_of_block (w:=w) (by rw[F4];exact hw.other k hk)];exact hv,h5,hc.step Hr (fun _ _ x=>x)⟩
     ·rw[World.frozen?_of_block (w:=w) (hw.other k hk)];refine h3 ef j hj ?_;unfold bsz at Ya ⊢;rw[hw.other k hk] at Ya;exact Ya
   |mv=>trivial
 ·rw[hw.size];exact h.blt i k x ((Gz i).1 hi) hk
 ·simp only at hc;by_cases e:i=id
  ·subst e;rw[An] at hc;injection hc with hc;exact hr cells hc c hcm j hj
  ·rw[Al _ _ e] at hc;exact h.wfB i cells hc c hcm j hj
 ·simp only at MQ;by_cases e:i=id
  ·subst e;rw[An] at MQ;cases MQ;rw[hβ] at hk;cases hk;exact h.rngB i bx b ob h0 hl hβ Cq j (hR j hj)
  ·rw[Al _ _ e] at MQ;exact h.rngB i bi k x MQ hli hk Cq j hj
 ·simp only at hc;by_cases e:i=id
  ·subst e;rw[An] at hc;injection hc with hc;obtain⟨c0,rfl⟩:=hK c hc;exact h.stp i c0 k x h0 hk Cq
  ·rw[Al _ _ e] at hc;exact h.stp i c k x hc hk Cq
 ·refine⟨hw.os.trans h.fr.os,hw.tape.trans h.fr.tape,hw.output.trans h.fr.output,?_,fun k j hk hL=>?_⟩
  ·refine⟨by rw[hw.size];exact h.fr.step.size,fun k hk hnk=>?_,fun k hk=>(h.fr.step.bs k hk).trans (Hr.bs k (Gf hk h.fr.step.size))⟩
   rw[hw.other k ?_]
   ·exact h.fr.step.keep k hk hnk
   ·rintro rfl
    rcases h.ownd k ⟨id,ob,by rw[h0];exact hl,hβ⟩ with hx|hx
    ·exact hnk hx
    ·omega
  ·by_cases e:k=b
   ·subst e;rw[hO j (fun hj=>hL (h.rngB id bx k ob h0 hl hβ hk j hj)),hw.frz];exact h.fr.rng k j hk hL
   ·have hc:w'.cell? ⟨k,j,none⟩=w.cell? ⟨k,j,none⟩:=World.cell?_of_block (w:=w) (hw.other k e);have hf:w'.frozen? ⟨k,j,none⟩=w.frozen? ⟨k,j,none⟩:=World.frozen?_of_block (w:=w) (hw.other k e);rw[hc,hf];exact h.fr.rng k j hk hL
theorem V8{c cs:Ae}{off j:Nat}{p:PV}(ET:off+cs.length<=c.length)(h:(B5 c cs off)[j]?=some p):
  (off<=j/\j<off+cs.length/\cs[j-off]?=some p)\/((j<off\/off+cs.length<=j)/\c[j]?=some p):=by
 unfold B5 at h;by_cases h1:j<off
 ·rw[Zzv,List.getElem?_append_left (by simp;omega),List.getElem?_take_of_lt h1] at h
  exact .inr ⟨.inl h1,h⟩
 ·by_cases h2:j<off+cs.length
  ·rw[List.getElem?_append_left (by simp;omega),List.getElem?_append_right (by simp;omega)] at h
   simp only[List.length_take,Nat.min_eq_left (by omega:off<=c.length)] at h;exact .inl ⟨by omega,h2,h⟩
  ·rw[List.getElem?_append_right (by simp;omega)] at h
   simp only[Vo,List.length_take,Nat.min_eq_left (by omega:off<=c.length),List.getElem?_drop] at h;rw[show off+cs.length+(j-(off+cs.length))=j from by omega] at h;exact .inr ⟨.inr (by omega),h⟩
theorem Wq{c cs:Ae}{off:Nat}(ET:off+cs.length<=c.length):(B5 c cs off).length=c.length:=by simp[B5];omega
theorem LW{t:TypeId}{b j:Nat}{v:Value}(Tq:(P.info? t).map (·.size)=some v.cells.size)(hc:∀i,i<v.cells.toList.length->(w.cell? ⟨b,j+i,none⟩).isSome=true)(hf:∀i,i<v.cells.toList.length->w.frozen? ⟨b,j+i,none⟩=false)(h1:∀u∈v.cells.toList,u.oneCell'=true):(Instr.storeAt t (.pointer (some ⟨b,j,none⟩)) v).run P w=.ok () (w.setCells b j v.cells.toList):=by
 have:=run_storeCells_cells (P:=P) b j v.cells.toList 0 w (fun i hi=>by simpa using hc i hi) (fun i hi=>by simpa using hf i hi) h1;simp only[Instr.storeAt,Instr.sureAddr,storeVar,Sem.run_bind,Sem.run_pure,Result.andThen_ok,N1 Tq]
 simpa using this
theorem Aeg(h:Di N w0 X0 Y β s a w){t:TypeId}{x y:Operand}(ho:o.op=.store t x y)(hd:o.dst=none){K:St->Option R}(hk:JJ P s t (Cp s.tm x) (Cp s.tm y) K=some r):
  ∃s',K s'=some r/\∀(next:Act->World->Prop) (Q:Exit->Act->World->Prop),(∀a' w' β',Di N w0 X0 Y β' s' a' w'->next a' w')->o.wp P a w next Q:=by
 have hx:=Dr h x;have SX:=F7 h x
 have run:∀{b j:Nat},a.eval x=.pointer (some ⟨b,j,none⟩)->(Instr.storeAt t (.pointer (some ⟨b,j,none⟩)) (a.eval y)).run P w=.ok () (w.setCells b j (a.eval y).cells.toList) ->
   ∀(next:Act->World->Prop) (Q:Exit->Act->World->Prop),next a (w.setCells b j (a.eval y).cells.toList)->o.wp P a w next Q:=by
  intro b j Ed hr next Q hn;unfold Oper.wp execOp;rw[ho];simp only[Sem.run_bind,Ed,hr,Result.andThen_ok,Sem.run_pure];show next (a.put o.dst undef) _;rw[hd];exact hn
 unfold JJ at hk;split at hk
 ·rename_i id off e;rw[e] at hx SX;obtain⟨b,ob,hβ,Ed⟩:=hx;split at hk
  ·rename_i c h0;obtain⟨hb,hk⟩:=Am hk;simp only[E0,Yd] at hb;obtain⟨⟨hok,hl⟩,ET⟩:=hb;have hl:=Dc hl;obtain⟨cs,hk,Se,h2,h1,hr,_⟩:=Akc (Dr h y) hl hk;obtain⟨_,A14,Tq⟩:=Ur hok;have hvl:=h2.len;obtain⟨b',o',F3,Iy,LB⟩:=h.box id _ h0;rw[hβ] at F3;simp at F3;obtain⟨rfl,rfl⟩:=F3
   have hcell:∀i,i<(a.eval y).cells.toList.length->(w.cell? ⟨b,ob+off+i,none⟩).isSome=true:=by
    intro i hi;obtain⟨v,hv,_⟩:=Iy (off+i) _ (List.getElem?_eq_getElem (by omega));rw[Ps,hv];rfl
   have Dh:=LW (P:=P) (t:=t) (w:=w) (b:=b) (j:=ob+off) (v:=a.eval y) (by rw[Tq,<-A14,<-Se,hvl];simp) hcell (fun i hi=>by rw[Ps];exact LB _ (by omega)) h1
   refine⟨_,hk,fun next Q hn=>run Ed Dh next Q (hn _ _ β ?_)⟩
   refine h.write h0 trivial trivial hβ (Ev.setCells b _ _ w) ?_ ?_ (fun _ _=>⟨_,rfl⟩) (fun j hj=>by
    have hj:ob<=j/\j<ob+(B5 c cs off).length:=hj;rw[Wq (by omega)] at hj;exact hj) (fun j hj=>by
    refine World.cell?_setCells_out b _ _ w ⟨b,j,none⟩ (fun _ _=>?_);have hj:¬(ob<=j/\j<ob+c.length):=hj;show j<ob+off\/ob+off+_<=j;omega)
   ·have Hr:Ct (D2 s.hp β Y) w (w.setCells b (ob+off) (a.eval y).cells.toList):=by
     have hw:=Ev.setCells b (a.eval y).cells.toList (ob+off) w;have hAb:D2 s.hp β Y b:=.inl ⟨id,ob,by rw[h0];trivial,hβ⟩
     exact⟨by rw[hw.size];exact Cs _,fun k _ hk=>hw.other k (fun e=>hk (e ▸ hAb)),fun k _=>hw.grow k⟩
    refine⟨b,ob,hβ,fun j p hj=>?_,fun j hj=>?_⟩
    ·rcases V8 (by omega) hj with⟨h3,h4,h5⟩|⟨h3,h5⟩
     ·obtain⟨u,hu,hcu⟩:=h2.get h5;have Cq:j-off<(a.eval y).cells.toList.length:=by omega
      refine⟨u,?_,hcu.step Hr (fun _ _ x=>x) (fun _ _=>rfl)⟩;have:=World.cell?_setCells_in b (a.eval y).cells.toList (ob+off) w hcell (j-off) Cq;rw[show ob+j=ob+off+(j-off) from by omega,this];rw[List.getElem?_eq_getElem Cq] at hu;exact hu
     ·obtain⟨v,hv,LQ⟩:=Iy j p h5;refine⟨v,?_,LQ.step Hr (fun _ _ x=>x) (fun _ _=>rfl)⟩;rw[World.cell?_setCells_out b _ _ w ⟨b,ob+j,none⟩ (fun _ _=>by show ob+j<ob+off\/ob+off+_<=ob+j;omega)]
      exact hv
    ·rw[Wq (by omega)] at hj;rw[(Ev.setCells b _ _ w).frz];exact LB j hj
   ·intro cells hx c' Rd i hi;injection hx with hx;subst hx;unfold B5 at Rd;rcases Bx.1 Rd with Rd|Rd
    ·rcases Bx.1 Rd with Rd|Rd
     ·exact h.wfB id c h0 c' (List.mem_of_mem_take Rd) i hi
     ·exact F7 h y i (hr c' Rd i hi)
    ·exact h.wfB id c h0 c' (List.mem_of_mem_drop Rd) i hi
  ·rename_i c h0;obtain⟨hb,hk⟩:=Am hk;simp only[E0,Yd] at hb;obtain⟨hok,ET⟩:=hb;obtain⟨cs,m,hk,Se,Vm,hT,hF,hm,hv⟩:=Vg h hk;obtain⟨TS,hk⟩:=Am hk
   have TS:id ∉ m:=by
    intro hi;have:m.any (Nat.beq id)=true:=List.any_eq_true.2 ⟨id,hi,Qq id⟩;rw[this] at TS;cases TS
   obtain⟨_,A14,Tq⟩:=Ur hok
   have Awt:Bj (Cj w (D2 s.hp β Y) β) (cellsOf (Cp s.tm y)) (a.eval y).cells.toList:=by
    have hyv:=Dr h y;cases hp:Cp s.tm y with
    |agg ps=>
     rw[hp] at hyv;obtain⟨vs,hay,h2⟩:=hyv;rw[hay];exact h2
    |sc v=>
     rw[hp] at hyv hF
     have Api:(a.eval y).oneCell'=true:=by
      have:=hv m (fun _ hi=>hi) hm [a.eval y] (by rw[hp];exact⟨hyv,trivial⟩)
      exact this.2 _ (by simp)
     rw[Q7 Api];exact⟨hyv,trivial⟩
    |lst z es n cc=>
     rw[hp] at hyv hF
     have Api:(a.eval y).oneCell'=true:=by
      have:=hv m (fun _ hi=>hi) hm [a.eval y] (by rw[hp];exact⟨hyv,trivial⟩)
      exact this.2 _ (by simp)
     rw[Q7 Api];exact⟨hyv,trivial⟩
    |view i es oo n=>
     rw[hp] at hyv hF
     have Api:(a.eval y).oneCell'=true:=by
      have:=hv m (fun _ hi=>hi) hm [a.eval y] (by rw[hp];exact⟨hyv,trivial⟩)
      exact this.2 _ (by simp)
     rw[Q7 Api];exact⟨hyv,trivial⟩
    |own es n cc=>
     have hx0:=hF (Cp s.tm y) (by rw[hp];exact Ub _)
     rw[hp] at hx0;exact hx0.elim
    |ptr i cc=>
     have hx0:=hF (Cp s.tm y) (by rw[hp];exact Ub _)
     rw[hp] at hx0;exact hx0.elim
    |iptr i cc=>
     have hx0:=hF (Cp s.tm y) (by rw[hp];exact Ub _)
     rw[hp] at hx0;exact hx0.elim
    |pbox cc=>
     have hx0:=hF (Cp s.tm y) (by rw[hp];exact Ub _)
     rw[hp] at hx0;exact hx0.elim
    |tup cc=>
     have hx0:=hF (Cp s.tm y) (by rw[hp];exact Ub _)
     rw[hp] at hx0;exact hx0.elim
    |ub=>
     have hx0:=hF (Cp s.tm y) (by rw[hp];exact Ub _)
     rw[hp] at hx0;exact hx0.elim
    |top=>
     have hx0:=hF (Cp s.tm y) (by rw[hp];exact Ub _)
     rw[hp] at hx0;exact hx0.elim
   obtain⟨h2,h1⟩:=hv m (fun _ hi=>hi) hm _ Awt;have hvl:=h2.len;have hf:=h.freeze hm;have h0':Af s.hp m id=some (.ar false c):=by rw[Cg,Br TS];exact h0
   rcases hf.box id _ h0' with⟨hn,_⟩|⟨b',o',F3,Iy,LB,_⟩
   ·rw[hβ] at hn;cases hn
   rw[hβ] at F3;simp at F3;obtain⟨rfl,rfl⟩:=F3
   have hcell:∀i,i<(a.eval y).cells.toList.length->(w.cell? ⟨b,ob+off+i,none⟩).isSome=true:=by
    intro i hi;obtain⟨v,hv,_⟩:=Iy (off+i) _ (List.getElem?_eq_getElem (by omega));rw[Fo] at hv;rw[Ps,hv];rfl
   have Dh:=LW (P:=P) (t:=t) (w:=w) (b:=b) (j:=ob+off) (v:=a.eval y) (by rw[Tq,<-A14,<-Se,hvl];simp) hcell (fun i hi=>by
    obtain⟨u,hu⟩:=Option.isSome_iff_exists.1 (hcell i hi);exact LB rfl _ (by omega) (SQ hu)) h1
   refine⟨_,hk,fun next Q hn=>run Ed Dh next Q (hn _ _ β ?_)⟩
   refine hf.write h0' trivial trivial hβ (Ev.setCells b _ _ w) ?_ (fun cells hx=>by cases hx) (fun _ hx=>by cases hx) (fun j hj=>hj) (fun j hj=>by
    refine World.cell?_setCells_out b _ _ w ⟨b,j,none⟩ (fun _ _=>?_);have hj:¬(ob<=j):=hj;show j<ob+off\/ob+off+_<=j;omega)
   have Hr:Ct (D2 (Af s.hp m) β Y) w (w.setCells b (ob+off) (a.eval y).cells.toList):=by
    have hw:=Ev.setCells b (a.eval y).cells.toList (ob+off) w;have hAb:D2 (Af s.hp m) β Y b:=.inl ⟨id,ob,by rw[h0'];trivial,hβ⟩
    exact⟨by rw[hw.size];exact Cs _,fun k _ hk=>hw.other k (fun e=>hk (e ▸ hAb)),fun k _=>hw.grow k⟩
   refine .inr ⟨b,ob,hβ,fun j p hj=>?_,fun _ j hj Ya=>?_,(fun x=>by cases x)⟩
   ·rw[Fo];rcases V8 (by omega) hj with⟨h3,h4,h5⟩|⟨h3,h5⟩
    ·obtain⟨u,hu,hcu⟩:=h2.get h5;have Cq:j-off<(a.eval y).cells.toList.length:=by omega
     refine⟨u,?_,h1 u (List.mem_of_getElem? hu),hcu.step Hr (fun _ _ x=>x)⟩;have:=World.cell?_setCells_in b (a.eval y).cells.toList (ob+off) w hcell (j-off) Cq;rw[show ob+j=ob+off+(j-off) from by omega,this];rw[List.getElem?_eq_getElem Cq] at hu;exact hu
    ·obtain⟨v,hv,h6,LQ⟩:=Iy j p h5;rw[Fo] at hv;refine⟨v,?_,h6,LQ.step Hr (fun _ _ x=>x)⟩;rw[World.cell?_setCells_out b _ _ w ⟨b,ob+j,none⟩ (fun _ _=>by show ob+j<ob+off\/ob+off+_<=ob+j;omega)]
     exact hv
   ·rw[(Ev.setCells b _ _ w).bs] at Ya;rw[(Ev.setCells b _ _ w).frz];exact LB rfl j hj Ya
  ·cases hk
 ·cases hk
end
open Go.RowKit
theorem K4:∀{l l':B2},Et (l++l')=true->Et l=true/\Et l'=true/\∀i∈l,i ∉ l'
 |[],l',h=>⟨rfl,h,by simp⟩
 |a::l,l',h=>by
  simp only[Zzp,Et,E0,Bool.not_eq_true'] at h;obtain⟨h1,h2⟩:=h;obtain⟨h3,h4,h5⟩:=K4 h2
  have hn:∀i∈l++l',a≠i:=by
   rintro i hi rfl
   have:(l++l').any (Nat.beq a)=true:=List.any_eq_true.2 ⟨a,hi,Qq a⟩;rw[this] at h1;cases h1
  refine⟨?_,h4,fun i hi=>?_⟩
  ·simp only[Et,E0,Bool.not_eq_true',h3,and_true];rw[List.any_eq_false];intro i hi e;exact hn i (by simp[hi]) (Dc e)
  ·rcases List.mem_cons.1 hi with rfl|hi
   ·exact fun hm=>hn i (by simp[hm]) rfl
   ·exact h5 i hi
def Is(β:Bt)(q:Nat × Nat):Option (Nat × Nat):=(β q.1).map fun p=>(p.1,p.2+q.2)
theorem Ahc(β:Bt)(id:Nat):Is β (id,0)=β id:=by unfold Is;cases β id<;>rfl
section
variable {R:Type}{r:R}{P:Program}{N:Nat}{w0:World}{X0:J8}{Y:Nat->Prop}{β β':Bt}{s:St}{a:Act}{w w':World}{o:Oper}{A:Nat->Prop}
theorem R2{fz:B2}{b:Nat}(h:D2 (Af s.hp fz) β Y b):D2 s.hp β Y b:=h.imp Vj id
theorem Asl(h:Di N w0 X0 Y β s a w){mv:Bool}{t:CT}{p:PV}{K:PV->B2->B2->Option R}(hk:Anm mv s.hp t p K=some r):
  ∃c m q,K c m (Option.toList q)=some r/\isA c/\UC p/\(∀id∈m,∃f cc,s.hp id=some (.ar f cc))/\(∀id,q=some id->∃cc,s.hp id=some (.ar false cc)) /\
   ∀fz:B2,(∀id∈m,id∈fz)->(∀id∈fz,∃f cc,s.hp id=some (.ar f cc))->∀v,Cj w (D2 s.hp β Y) β p v->Hs w (D2 (Af s.hp fz) β Y) (q.bind β) c v:=by
 have frz:∀{t:CT} {p:PV} {K:PV->B2->B2->Option R},(Su (Mh s.hp) t p fun c m=>K c m [])=some r->∃c m q,K c m (Option.toList q)=some r/\isA c/\UC p/\(∀id∈m,∃f cc,s.hp id=some (.ar f cc))/\(∀id,q=some id->∃cc,s.hp id=some (.ar false cc)) /\
   ∀fz:B2,(∀id∈m,id∈fz)->(∀id∈fz,∃f cc,s.hp id=some (.ar f cc))->∀v,Cj w (D2 s.hp β Y) β p v->Hs w (D2 (Af s.hp fz) β Y) (q.bind β) c v:=by
  intro t p K hk;obtain⟨c,m,hk,hT,hF,hm,hv⟩:=RR h hk;exact⟨c,m,none,hk,.inl hT,hF,hm,by simp,fun fz h1 h2 v hc=>N8 hT (hv fz h1 h2 v hc).1⟩
 have tree:∀{t:CT} {p:PV} {K:PV->B2->B2->Option R},(∀es,t ≠ .sl es)->(IB t p fun c=>K c [] [])=some r->∃c m q,K c m (Option.toList q)=some r/\isA c/\UC p/\(∀id∈m,∃f cc,s.hp id=some (.ar f cc))/\(∀id,q=some id->∃cc,s.hp id=some (.ar false cc)) /\
   ∀fz:B2,(∀id∈m,id∈fz)->(∀id∈fz,∃f cc,s.hp id=some (.ar f cc))->∀v,Cj w (D2 s.hp β Y) β p v->Hs w (D2 (Af s.hp fz) β Y) (q.bind β) c v:=by
  intro t p K Hp hk;obtain⟨c,hk,hT,RQ,hv⟩:=Qs hk;exact⟨c,[],none,hk,.inl hT,Wg RQ,by simp,by simp,fun fz h1 h2 v hc=>N8 hT ((hv w _ β v hc).1.step (Ct.refl _ _) (fun b _ hb=>R2 hb))⟩
 unfold Anm at hk;cases t with
 |sl es=>
  dsimp only at hk;cases mv<;>simp only[cond_true,cond_false] at hk
  ·exact frz hk
  ·split at hk
   ·rename_i id es' off n;split at hk
    ·rename_i c h0;cases hb:(Nat.beq es' es&&Nat.beq off 0)<;>rw[hb] at hk<;>simp only[cond_true,cond_false] at hk
     ·exact frz hk
     ·simp only[E0] at hb;have he:=Dc hb.1;have hof:=Dc hb.2;subst he hof;obtain⟨hl,hk⟩:=Am hk;refine⟨_,[],some id,hk,.inr ⟨_,_,_,rfl⟩,trivial,by simp,fun i hi=>by cases hi;exact⟨c,h0⟩,fun fz h1 h2 v hc=>?_⟩
      rcases hc with⟨h3,_,rfl,h4⟩|⟨b,ob,x,cap,h3,h4,hx,h5,h6,h7⟩
      ·exact .inl ⟨h3,rfl,by simp,h4⟩
      ·have hx:x=ob:=by rcases hx with e|⟨_,e⟩<;>omega
       subst hx;rcases h.box id _ h0 with⟨h8,_⟩|⟨b',o',h8,h9,h10,_⟩
       ·rw[h3] at h8;cases h8
       ·rw[h3] at h8;cases h8;refine .inr ⟨b,x,cap,h3,h4,h5,h6,h7,fun j p hj=>?_,h10 rfl⟩;rw[List.getElem?_take] at hj;split at hj
        ·obtain⟨u,hu,h11,ht⟩:=h9 j p hj;exact⟨u,hu,h11,ht.step (Ct.refl _ _) (fun b _ hb=>R2 hb)⟩
        ·cases hj
    ·exact frz hk
   ·obtain⟨z,n,c,hk,hp⟩:=H4 hk;have hpF:UC p:=by rcases hp with e|⟨e,_⟩<;>(rw[e];trivial)
    cases z<;>simp only[cond_true,cond_false] at hk
    ·refine⟨_,[],none,hk,.inl trivial,hpF,by simp,by simp,fun fz h1 h2 v hc=>?_⟩;exact N8 trivial ((DB hp hc).step (Ct.refl _ _) (fun b _ hb=>R2 hb))
    ·refine⟨_,[],none,hk,.inr ⟨_,_,_,rfl⟩,hpF,by simp,by simp,fun fz h1 h2 v hc=>.inl ⟨rfl,rfl,rfl,none,?_⟩⟩;have:=DB hp hc;cases this;rfl
 |int k=>exact tree (by simp) hk
 |bool=>exact tree (by simp) hk
 |str=>exact tree (by simp) hk
 |any=>exact tree (by simp) hk
theorem Z4(h:Di N w0 X0 Y β s a w){mv:Bool}:∀{ts:List CT}{ps:Ae}{K:Ae->B2->B2->Option R},KN mv s.hp ts ps K=some r ->
  ∃cs m x,∃q:Nat->Option Nat,K cs m x=some r/\cs.length=ts.length/\ps.length=ts.length/\(∀c∈cs,isA c)/\(∀p∈ps,UC p)/\(∀id∈m,∃f cc,s.hp id=some (.ar f cc))/\(∀id∈x,∃cc,s.hp id=some (.ar false cc)) /\
   (∀j id,q j=some id->id∈x)/\(Et x=true->∀j j' id,q j=some id->q j'=some id->j=j') /\
   ∀fz:B2,(∀id∈m,id∈fz)->(∀id∈fz,∃f cc,s.hp id=some (.ar f cc))->∀vs,Bj (Cj w (D2 s.hp β Y) β) ps vs->∀(own:Bt) j0,(∀j,own (j0+j)=(q j).bind β)->F0 w (D2 (Af s.hp fz) β Y) own j0 cs vs
 |[],[],K,hk=>⟨[],[],[],fun _=>none,hk,rfl,rfl,by simp,by simp,by simp,by simp,by simp,by simp,fun fz _ _ vs hv own j0 _=>by
   cases vs with
   |nil=>trivial
   |cons v vs=>exact hv.elim⟩
 |[],_::_,K,hk=>by cases hk
 |_::_,[],K,hk=>by cases hk
 |t::ts,p::ps,K,hk=>by
  unfold KN at hk;obtain⟨c,m,q,hk,hA,hF,hm,hq,hv⟩:=Asl h hk;obtain⟨cs,ms,xs,qs,hk,hl,N2,hAs,hFs,OZ,TA,hqx,hqi,X5⟩:=Z4 h hk;refine⟨c::cs,m++ms,q.toList++xs,fun j=>match j with|0=>q|j+1=>qs j,hk,by simp[hl],by simp[N2],?_,?_,?_,?_,?_,?_,?_⟩
  ·intro x hx;rcases List.mem_cons.1 hx with rfl|hx
   ·exact hA
   ·exact hAs x hx
  ·intro x hx;rcases List.mem_cons.1 hx with rfl|hx
   ·exact hF
   ·exact hFs x hx
  ·intro i hi;rcases Bx.1 hi with hi|hi
   ·exact hm i hi
   ·exact OZ i hi
  ·intro i hi;rcases Bx.1 hi with hi|hi
   ·exact hq i (by simpa using hi)
   ·exact TA i hi
  ·intro j id hj;cases j with
   |zero=>exact Bx.2 (.inl (by simpa using hj))
   |succ j=>exact Bx.2 (.inr (hqx j id hj))
  ·intro hn j j' id hj Ya;obtain⟨_,h2,h3⟩:=K4 hn;cases j with
   |zero=>
    cases j' with
    |zero=>rfl
    |succ j'=>exact absurd (hqx j' id Ya) (h3 id (by simpa using hj))
   |succ j=>
    cases j' with
    |zero=>exact absurd (hqx j id hj) (h3 id (by simpa using Ya))
    |succ j'=>rw[hqi h2 j j' id hj Ya]
  ·intro fz h1 h2 vs h3 own j0 Ix;cases vs with
   |nil=>exact h3.elim
   |cons v vs=>
    refine⟨?_,X5 fz (fun i hi=>h1 i (by simp[hi])) h2 vs h3.2 own (j0+1) fun j=>?_⟩
    ·have:=Ix 0;rw[ZG] at this;rw[this];exact hv fz (fun i hi=>h1 i (by simp[hi])) h2 v h3.1
    ·have:=Ix (j+1);rw[show j0+1+j=j0+(j+1) by omega];exact this
def LOk(hp:Nat->Option B7)(q:Option (Nat × Nat))(p:PV)(x:Ih):Prop:=
 match x with
 |.var id off cts ws=>p=.pbox ws/\q=some (id,off)/\cts.length=ws.length/\∃c,hp id=some (.st c)/\off+ws.length<=c.length
 |.row id=>(∃ps,p=.tup ps)/\q=some (id,0)/\∃c,hp id=some (.ar false c)
 |.none=>(∃ps,p=.tup ps)/\q=none
theorem Ako{hp:Nat->Option B7}{q:Option (Nat × Nat)}{p:PV}{x:Ih}(h:LOk hp q p x):HU p=true:=by
 cases x with
 |var id off cts ws=>rw[h.1];rfl
 |row id=>obtain⟨⟨_,e⟩,_⟩:=h;rw[e];rfl
 |none=>obtain⟨⟨_,e⟩,_⟩:=h;rw[e];rfl
def T9(hp:Nat->Option B7)(src:Nat->Nat->Option (Nat × Nat)):Nat->Ae->List Ih->Prop
 |_,[],l=>l=[]
 |i,p::ps,l=>(HU p=false/\src i 0=none/\T9 hp src (i+1) ps l)\/∃x l',l=x::l'/\LOk hp (src i 0) p x/\T9 hp src (i+1) ps l'
theorem Ah3(h:Di N w0 X0 Y β s a w){C:G3}{f:FuncId}{i:Nat}{t:TypeId}{x:Operand}{K:PV->B2->B2->List Ih->Option R}(hk:IJ C P f s.hp i t (Cp s.tm x) K=some r):
  ∃v m y l,∃src:Nat->Option (Nat × Nat),K v m y l=some r/\(∀id∈m,∃f cc,s.hp id=some (.ar f cc))/\(∀id∈y,∃cc,s.hp id=some (.ar false cc)) /\
   (∀j id off,src (j+1)=some (id,off)->off=0/\id∈y)/\(Et y=true->∀j j' id off off',src (j+1)=some (id,off)->src (j'+1)=some (id,off')->j=j') /\
   ((l=[]/\HU v=false/\src 0=none)\/∃x',l=[x']/\LOk s.hp (src 0) v x') /\
   ∀fz:B2,(∀id∈m,id∈fz)->(∀id∈fz,∃f cc,s.hp id=some (.ar f cc))->∀bt:Bt,(∀j,bt j=(src j).bind (Is β))->Aff w (D2 (Af s.hp fz) β Y) bt v (a.eval x):=by
 have hx:=Dr h x
 have MV:∀(q0:Option (Nat × Nat)) (q:Nat->Option Nat),∃src:Nat->Option (Nat × Nat),src 0=q0/\(∀j,src (j+1)=(q j).map fun id=>(id,0)):=
  fun q0 q=>⟨fun j=>match j with|0=>q0|j+1=>(q j).map fun id=>(id,0),rfl,fun _=>rfl⟩
 have Ael:∀{src:Nat->Option (Nat × Nat)} {q:Nat->Option Nat} {y:B2},(∀j,src (j+1)=(q j).map fun id=>(id,0))->(∀j id,q j=some id->id∈y)->∀j id off,src (j+1)=some (id,off)->off=0/\id∈y:=by
  intro src q y h1 h2 j id off hj;rw[h1] at hj;cases hq:q j with
  |none=>rw[hq] at hj;cases hj
  |some k=>rw[hq] at hj;cases hj;exact⟨rfl,h2 j _ hq⟩
 have Adf:∀{src:Nat->Option (Nat × Nat)} {q:Nat->Option Nat} {y:B2},(∀j,src (j+1)=(q j).map fun id=>(id,0))->(Et y=true->∀j j' id,q j=some id->q j'=some id->j=j') ->
   Et y=true->∀j j' id off off',src (j+1)=some (id,off)->src (j'+1)=some (id,off')->j=j':=by
  intro src q y h1 h2 hn j j' id off off' hj Ya;rw[h1] at hj Ya;cases hq:q j with
  |none=>rw[hq] at hj;cases hj
  |some k=>
   cases G2:q j' with
   |none=>rw[G2] at Ya;cases Ya
   |some k'=>
    rw[hq] at hj;rw[G2] at Ya;cases hj;cases Ya;exact h2 hn j j' _ hq G2
 have Ix:∀{src:Nat->Option (Nat × Nat)} {q:Nat->Option Nat} {bt:Bt},(∀j,src (j+1)=(q j).map fun id=>(id,0))->(∀j,bt j=(src j).bind (Is β))->∀j,bt (1+j)=(q j).bind β:=by
  intro src q bt h1 h2 j;rw[Nat.add_comm,h2,h1];cases q j with
  |none=>rfl
  |some id=>exact Ahc β id
 unfold IJ at hk;split at hk
 ·rename_i e he;split at hk
  ·rename_i id off ep;rw[ep] at hx;split at hk
   ·rename_i c h0;obtain⟨hb,hk⟩:=Am hk;simp only[E0,Yd] at hb;obtain⟨cs,m,y,q,hk,hl,N2,hA,hF,hm,hy,MR,Ot,hv⟩:=Z4 h hk;obtain⟨src,hs0,hs⟩:=MV (some (id,off)) q;obtain⟨b,ob,hβ,Ed⟩:=hx;refine⟨_,m,y,_,src,hk,hm,hy,Ael hs MR,Adf hs Ot,.inr ⟨_,rfl,rfl,hs0,hl.symm,c,h0,by omega⟩,fun fz h1 h2 bt DX=>?_⟩;obtain⟨b',o',F3,Iy,LB⟩:=h.box id _ h0;rw[hβ] at F3;cases F3;have Eh:((c.drop off).take (Kc P e).length).length=(Kc P e).length:=by simp;omega
    have As8:∀j p,((c.drop off).take (Kc P e).length)[j]?=some p->c[off+j]?=some p/\j<(Kc P e).length:=by
     intro j p hj;rw[List.getElem?_take] at hj;split at hj
     ·rw[List.getElem?_drop] at hj;exact⟨hj,by assumption⟩
     ·cases hj
    refine⟨b,ob+off,by rw[DX,hs0];simp[Is,hβ],Ed,hA,((c.drop off).take (Kc P e).length).mapIdx (fun j _=>(w.cell? ⟨b,ob+off+j,none⟩).getD undef),hv fz h1 h2 _ ?_ bt 1 (Ix hs DX),?_,fun k hk=>?_⟩
    ·refine Bj.of_at (by simp) fun j p v hp hv=>?_;obtain⟨hc,_⟩:=As8 j p hp;obtain⟨u,hu,hcr⟩:=Iy _ _ hc;rw[List.getElem?_mapIdx,hp,Option.map_some,Ps,hu] at hv;simp at hv;subst hv;exact hcr
    ·intro k v hkv;rw[List.getElem?_mapIdx] at hkv;cases hp:((c.drop off).take (Kc P e).length)[k]? with
     |none=>rw[hp] at hkv;cases hkv
     |some p=>
      obtain⟨hc,_⟩:=As8 k p hp;obtain⟨u,hu,hcr⟩:=Iy _ _ hc;rw[hp,Option.map_some,Ps,hu] at hkv;simp at hkv;subst hkv;rw[Ps];exact hu
    ·rw[Ps];exact LB _ (by omega)
   ·cases hk
  ·cases hk
 ·cases hln:C.lnd f i<;>rw[hln] at hk<;>simp only[cond_true,cond_false] at hk
  ·cases Hj:Ch P t<;>rw[Hj] at hk<;>simp only[cond_true,cond_false] at hk
   ·obtain⟨cs,m,y,q,hk,hl,N2,hA,hF,hm,hy,MR,Ot,hv⟩:=Z4 h hk;obtain⟨c,t',rfl,hk⟩:=Bn hk;obtain⟨rfl,hk⟩:=Em hk;obtain⟨src,hs0,hs⟩:=MV none q;have hAc:=hA c (by simp);refine⟨c,m,y,_,src,hk,hm,hy,Ael hs MR,Adf hs Ot,.inl ⟨rfl,Axg hAc,hs0⟩,fun fz h1 h2 bt DX=>?_⟩;have hFx:=hF _ (Ub _)
    have hxc:Cj w (D2 s.hp β Y) β (Cp s.tm x) (a.eval x):=by
     cases hp:Cp s.tm x<;>rw[hp] at hx hFx<;>first|exact hx|exact hFx.elim
    have hoc:=(hv fz h1 h2 [a.eval x] ⟨hxc,trivial⟩ bt 1 (Ix hs DX)).1;rcases hAc with hT|⟨es,n,cc,rfl⟩
    ·cases c<;>first|exact⟨.inl trivial,hoc⟩|exact hT.elim
    ·exact⟨.inr ⟨_,_,_,rfl⟩,hoc⟩
   ·obtain⟨ps,ep,hk⟩:=Jb hk;rw[ep] at hx;obtain⟨vs,Ed,h3⟩:=hx;obtain⟨cs,m,y,q,hk,hl,N2,hA,hF,hm,hy,MR,Ot,hv⟩:=Z4 h hk;obtain⟨src,hs0,hs⟩:=MV none q;refine⟨_,m,y,_,src,hk,hm,hy,Ael hs MR,Adf hs Ot,.inl ⟨rfl,rfl,hs0⟩,fun fz h1 h2 bt DX=>?_⟩;exact⟨vs,Ed,hA,hv fz h1 h2 vs h3 bt 1 (Ix hs DX)⟩
  ·obtain⟨e,he,hk⟩:=Cw hk;unfold Ao1 at hk;split at hk
   ·rename_i id es' off n ep;rw[ep] at hx;split at hk
    ·rename_i c h0;obtain⟨hb,F2⟩:=Am hk;simp only[E0] at hb;have he:=Dc hb.1;have hof:=Dc hb.2;subst hof;obtain⟨src,hs0,hs⟩:=MV (some (id,0)) (fun _=>none);refine⟨_,[],[],_,src,F2,by simp,by simp,Ael hs (by simp),Adf hs (by simp),.inr ⟨_,rfl,⟨_,rfl⟩,hs0,c,h0⟩,fun fz h1 h2 bt DX=>⟨_,_,_,rfl,?_⟩⟩;have ZE:bt 0=β id:=by rw[DX,hs0];exact Ahc β id
     rw[ZE];rcases hx with⟨h3,_,h4,h5⟩|⟨b,ob,y,cap,h3,h4,hy,h5,h6,h7⟩
     ·refine .inl ⟨h3,h4,?_,h5⟩;rcases h.box id _ h0 with⟨_,h8⟩|⟨_,_,h8,_⟩
      ·exact h8
      ·rw[h3] at h8;cases h8
     ·have hy:y=ob:=by rcases hy with e|⟨_,e⟩<;>omega
      subst hy;rcases h.box id _ h0 with⟨h8,_⟩|⟨b',o',h8,h9,h10,_⟩
      ·rw[h3] at h8;cases h8
      ·rw[h3] at h8;cases h8;exact .inr ⟨b,y,cap,h3,h4,h5,by rw[<-he];exact h6,h7,h9.weak (fun b _ hb=>R2 hb),h10 rfl⟩
    ·cases hk
   ·obtain⟨z,n,c,hk,hp⟩:=H4 hk;obtain⟨hz,hk⟩:=Am hk;subst hz;obtain⟨src,hs0,hs⟩:=MV none (fun _=>none)
    have hu:a.eval x=.slice none 0 0:=by
     have hF:Cj w (D2 s.hp β Y) β (Cp s.tm x) (a.eval x):=by rcases hp with e|⟨e,_⟩<;>rw[e] at hx ⊢ <;> exact hx
     have:=DB hp hF;generalize a.eval x=u at this;cases this;rfl
    refine⟨_,[],[],_,src,hk,by simp,by simp,Ael hs (by simp),Adf hs (by simp),.inr ⟨_,rfl,⟨_,rfl⟩,hs0⟩,fun fz h1 h2 bt DX=>⟨_,_,_,rfl,.inl ⟨by rw[DX,hs0];rfl,rfl,rfl,none,hu⟩⟩⟩
structure Bdc(i0 n:Nat)(src:Nat->Nat->Option (Nat × Nat))(ids x:B2):Prop where
 dom:∀i j q,src i j=some q->i0<=i/\i<i0+n
 lent:∀i id off,src i 0=some (id,off)->id∈ids
 mvd:∀i j id off,src i (j+1)=some (id,off)->off=0/\id∈x
 inj0:Et ids=true->∀i i' id off off',src i 0=some (id,off)->src i' 0=some (id,off')->i=i'
 inj1:Et x=true->∀i i' j j' id off off',src i (j+1)=some (id,off)->src i' (j'+1)=some (id,off')->i=i'/\j=j'
theorem DN{hp:Nat->Option B7}{src src':Nat->Nat->Option (Nat × Nat)}:∀{ps:Ae}{i:Nat}{l:List Ih},(∀k,i<=k->src' k=src k)->T9 hp src i ps l->T9 hp src' i ps l
 |[],_,_,_,h=>h
 |p::ps,i,l,hs,h=>by
  rcases h with⟨h1,h2,h3⟩|⟨x,l',rfl,h2,h3⟩
  ·exact .inl ⟨h1,by rw[hs i (Cs _)];exact h2,DN (fun k hk=>hs k (by omega)) h3⟩
  ·exact .inr ⟨x,l',rfl,by rw[hs i (Cs _)];exact h2,DN (fun k hk=>hs k (by omega)) h3⟩
theorem KW{bt bt':HW}:∀{ps:Ae}{us:List Value}{i:Nat},(∀k,i<=k->∀j,bt' k j=bt k j)->O4 w A bt i ps us->O4 w A bt' i ps us
 |[],[],_,_,_=>trivial
 |[],_::_,_,_,h=>h.elim
 |_::_,[],_,_,h=>h.elim
 |_::_,_::_,i,hb,h=>⟨by rw[show bt' i=bt i from funext (hb i (Cs _))];exact h.1,KW (fun k hk=>hb k (by omega)) h.2⟩
theorem WB(h:Di N w0 X0 Y β s a w){C:G3}{f:FuncId}:∀{ts:List TypeId}{xs:List Operand}{i:Nat}{K:Ae->B2->B2->List Ih->Option R},UI C P f s.hp i ts (xs.map (Cp s.tm)) K=some r ->
  ∃vs m y l,∃src:Nat->Nat->Option (Nat × Nat),K vs m y l=some r/\(∀id∈m,∃f cc,s.hp id=some (.ar f cc))/\(∀id∈y,∃cc,s.hp id=some (.ar false cc)) /\
   Bdc i xs.length src (l.flatMap Ih.ids) y/\T9 s.hp src i vs l /\
   ∀fz:B2,(∀id∈m,id∈fz)->(∀id∈fz,∃f cc,s.hp id=some (.ar f cc))->∀bt:HW,(∀i j,bt i j=(src i j).bind (Is β))->O4 w (D2 (Af s.hp fz) β Y) bt i vs (xs.map a.eval)
 |[],[],i,K,hk=>⟨[],[],[],[],fun _ _=>none,hk,by simp,by simp,⟨by simp,by simp,by simp,by simp,by simp⟩,rfl,fun _ _ _ _ _=>trivial⟩
 |[],_::_,i,K,hk=>by cases hk
 |_::_,[],i,K,hk=>by cases hk
 |t::ts,x::xs,i,K,hk=>by
  simp only[Vv] at hk;unfold UI at hk;obtain⟨v,m,y,l,src,hk,hm,hy,hs1,HY,hl,hv⟩:=Ah3 h hk;obtain⟨vs,ms,ys,ls,srcs,hk,OZ,hys,hS,hL,X5⟩:=WB h hk;have MV:∃sr:Nat->Nat->Option (Nat × Nat),sr i=src/\∀k,k≠i->sr k=srcs k:=⟨fun k=>if k=i then src else srcs k,by simp,fun k hk=>by simp[hk]⟩
  obtain⟨sr,hsi,hso⟩:=MV
  have TT:∀id off,src 0=some (id,off)->id∈l.flatMap Ih.ids:=by
   intro id off e;rcases hl with⟨_,_,h3⟩|⟨x',rfl,h3⟩
   ·rw[h3] at e;cases e
   ·cases x' with
    |var id' off' cts ws=>rw[h3.2.1] at e;cases e;simp[Ih.ids]
    |row id'=>rw[h3.2.1] at e;cases e;simp[Ih.ids]
    |none=>rw[h3.2] at e;cases e
  refine⟨v::vs,m++ms,y++ys,l++ls,sr,hk,?_,?_,⟨?_,?_,?_,?_,?_⟩,?_,fun fz h1 h2 bt DX=>⟨?_,?_⟩⟩
  ·intro i hi;rcases Bx.1 hi with hi|hi
   ·exact hm i hi
   ·exact OZ i hi
  ·intro i hi;rcases Bx.1 hi with hi|hi
   ·exact hy i hi
   ·exact hys i hi
  ·intro k j q hq;simp only[Po];by_cases e:k=i
   ·subst e;omega
   ·rw[hso k e] at hq;have:=hS.dom k j q hq;omega
  ·intro k id off hq;rw[List.flatMap_append];by_cases e:k=i
   ·subst e;rw[hsi] at hq;exact Bx.2 (.inl (TT id off hq))
   ·rw[hso k e] at hq;exact Bx.2 (.inr (hS.lent k id off hq))
  ·intro k j id off hq;by_cases e:k=i
   ·subst e;rw[hsi] at hq;exact⟨(hs1 j id off hq).1,Bx.2 (.inl (hs1 j id off hq).2)⟩
   ·rw[hso k e] at hq;exact⟨(hS.mvd k j id off hq).1,Bx.2 (.inr (hS.mvd k j id off hq).2)⟩
  ·intro hn k k' id off off' hq G2;rw[List.flatMap_append] at hn;obtain⟨_,h4,h5⟩:=K4 hn;by_cases e:k=i
   ·by_cases e':k'=i
    ·omega
    ·rw[hso k' e'] at G2;subst e;rw[hsi] at hq;exact absurd (hS.lent k' id off' G2) (h5 id (TT id off hq))
   ·rw[hso k e] at hq;by_cases e':k'=i
    ·subst e';rw[hsi] at G2;exact absurd (hS.lent k id off hq) (h5 id (TT id off' G2))
    ·rw[hso k' e'] at G2;exact hS.inj0 h4 k k' id off off' hq G2
  ·intro hn k k' j j' id off off' hq G2;obtain⟨h3,h4,h5⟩:=K4 hn;by_cases e:k=i
   ·by_cases e':k'=i
    ·subst e;subst e';rw[hsi] at hq G2;exact⟨rfl,HY h3 j j' id off off' hq G2⟩
    ·rw[hso k' e'] at G2;subst e;rw[hsi] at hq;exact absurd (hS.mvd k' j' id off' G2).2 (h5 id (hs1 j id off hq).2)
   ·rw[hso k e] at hq;by_cases e':k'=i
    ·subst e';rw[hsi] at G2;exact absurd (hS.mvd k j id off hq).2 (h5 id (hs1 j' id off' G2).2)
    ·rw[hso k' e'] at G2;exact hS.inj1 h4 k k' j j' id off off' hq G2
  ·have BX:T9 s.hp sr (i+1) vs ls:=DN (fun k hk=>hso k (by omega)) hL;rcases hl with⟨rfl,hnp,h3⟩|⟨x',rfl,h3⟩
   ·exact .inl ⟨hnp,by rw[hsi];exact h3,BX⟩
   ·exact .inr ⟨x',ls,rfl,by rw[hsi];exact h3,BX⟩
  ·exact hv fz (fun i hi=>h1 i (by simp[hi])) h2 (bt i) (fun j=>by rw[DX,hsi])
  ·refine X5 fz (fun i hi=>h1 i (by simp[hi])) h2 (fun k j=>(srcs k j).bind (Is β)) (fun _ _=>rfl) |> KW fun k hk j=>?_
   rw[DX,hso k (by omega)]
end
open Go.RowKit
section
variable {R:Type}{r:R}{P:Program}{N:Nat}{w0:World}{X0:J8}{Y:Nat->Prop}{β β':Bt}{s:St}{a:Act}{w w':World}{o:Oper}{A:Nat->Prop}
theorem Aqa{p:PV}{u:Value}(h:Au w A p u):Cj w A β p u:=by have h0:=h;cases h<;>exact h0
theorem Apx{t:Nat}{ct:CT}{was p:PV}{K:Nat->PV->List (Nat × B7)->Option R}(hk:Amd N t ct was p K=some r):
  (∃c,K t c []=some r/\CJ c/\∀w A q u,Hs w A q p u->Au w A c u)\/∃es n cc,p=.own es n cc/\K (t+1) (.view (nid N t) es 0 n) [(nid N t,.ar false cc)]=some r:=by
 have tree:∀t',(IB t' p fun c=>K t c [])=some r->∃c,K t c []=some r/\CJ c/\∀w A q u,Hs w A q p u->Au w A c u:=by
  intro t' hk;obtain⟨c,hk,hT,RQ,hv⟩:=Qs hk;refine⟨c,hk,hT,fun w A q u h=>(hv w A (fun _=>none) u ?_).1⟩;cases p<;>first|exact h|exact RQ.elim
 unfold Amd at hk;cases ct with
 |sl es=>
  dsimp only at hk;split at hk
  ·unfold Lg at hk;split at hk
   ·rename_i es' n c;cases hb:Nat.beq es' es<;>rw[hb] at hk
    ·cases hk
    ·have:=Dc hb;subst this;exact .inr ⟨_,_,_,rfl,hk⟩
   ·cases hk
  ·have h2:(IB (.sl es) p fun c=>(match c with | .lst _ es n c=>K t (.lst false es n c) []|_=>none))=some r:=hk;obtain⟨c,hk,hT,RQ,hv⟩:=Qs h2;split at hk
   ·refine .inl ⟨_,hk,hT,fun w A q u h=>Au.unz (hv w A (fun _=>none) u ?_).1⟩;cases p<;>first|exact h|exact RQ.elim
   ·cases hk
 |int k=>exact .inl (tree _ hk)
 |bool=>exact .inl (tree _ hk)
 |str=>exact .inl (tree _ hk)
 |any=>exact .inl (tree _ hk)
theorem IK:∀{cts:List CT}{ws ps:Ae}{t:Nat}{K:Nat->Ae->List (Nat × B7)->Option R},UP N t cts ws ps K=some r ->
  ∃t' cs bs,∃qs:List (Nat × Nat),K t' cs bs=some r/\cs.length=ps.length/\ps.length=ws.length/\bs.map (·.1)=qs.map (·.1)/\(∀q∈qs,(∃k,q.1=nid N k)/\q.2<ps.length)/\(∀q∈qs,∀q'∈qs,q.2=q'.2->q.1=q'.1) /\
   (∀i bx,(i,bx)∈bs->∃c,bx=.ar false c)/\(∀c∈cs,∀i∈At c,∃bx,(i,bx)∈bs) /\
   ∀(w:World) (A:Nat->Prop) (own β':Bt) (j0:Nat) (us:List Value),(∀q∈qs,β' q.1=own (j0+q.2))->F0 w A own j0 ps us->Bj (Cj w A β') cs us/\∀i bx,(i,bx)∈bs->V3 w A β' i bx
 |[],[],ps,t,K,hk=>by
  obtain⟨rfl,hk⟩:=Em hk;refine⟨t,[],[],[],hk,rfl,rfl,rfl,by simp,by simp,by simp,by simp,fun w A own β' j0 us _ h=>⟨?_,by simp⟩⟩;cases us with
  |nil=>trivial
  |cons u us=>exact h.elim
 |[],_::_,_,_,_,hk=>by cases hk
 |_::_,[],_,_,_,hk=>by cases hk
 |ct::cts,x::ws,ps,t,K,hk=>by
  unfold UP at hk;obtain⟨p,ps',ME,E8⟩:=Bn hk;subst ME;rcases Apx E8 with⟨c,F2,hT,hv⟩|⟨es,n,cc,rfl,F2⟩
  ·obtain⟨t',cs,bs,qs,Pp,hl,N2,hb,MR,Ot,F3,Iy,X5⟩:=IK F2;refine⟨t',c::cs,bs,qs.map (fun q=>(q.1,q.2+1)),Pp,by simp[hl],by simp[N2],by rw[hb];simp,?_,?_,F3,?_,fun w A own β' j0 us hβ ho=>?_⟩
   ·intro q hq;obtain⟨q0,ED,rfl⟩:=List.mem_map.1 hq;exact⟨(MR q0 ED).1,by have:=(MR q0 ED).2;simp only[Po];omega⟩
   ·intro q hq q' G2 e;obtain⟨q0,ED,rfl⟩:=List.mem_map.1 hq;obtain⟨q1,Mr,rfl⟩:=List.mem_map.1 G2;exact Ot q0 ED q1 Mr (by simp only at e;omega)
   ·intro y hy i hi;rcases List.mem_cons.1 hy with rfl|hy
    ·rw[Jk hT] at hi;cases hi
    ·exact Iy y hy i hi
   ·cases us with
    |nil=>exact ho.elim
    |cons u us=>
     obtain⟨h1,h2⟩:=X5 w A own β' (j0+1) us (fun q hq=>by rw[hβ _ (List.mem_map_of_mem hq)];congr 1;simp only;omega) ho.2
     exact⟨⟨Aqa (hv w A _ u ho.1),h1⟩,h2⟩
  ·obtain⟨t',cs,bs,qs,Pp,hl,N2,hb,MR,Ot,F3,Iy,X5⟩:=IK F2;refine⟨t',_::cs,(nid N t,.ar false cc)::bs,(nid N t,0)::qs.map (fun q=>(q.1,q.2+1)),Pp,by simp[hl],by simp[N2],by simp only[Vv,hb];simp,?_,?_,?_,?_,fun w A own β' j0 us hβ ho=>?_⟩
   ·intro q hq;rcases List.mem_cons.1 hq with rfl|hq
    ·exact⟨⟨t,rfl⟩,by simp⟩
    ·obtain⟨q0,ED,rfl⟩:=List.mem_map.1 hq;exact⟨(MR q0 ED).1,by have:=(MR q0 ED).2;simp only[Po];omega⟩
   ·intro q hq q' G2 e;rcases List.mem_cons.1 hq with rfl|hq
    ·rcases List.mem_cons.1 G2 with rfl|G2
     ·rfl
     ·obtain⟨q0,ED,rfl⟩:=List.mem_map.1 G2;simp only at e;omega
    ·obtain⟨q0,ED,rfl⟩:=List.mem_map.1 hq;rcases List.mem_cons.1 G2 with rfl|G2
     ·simp only at e;omega
     ·obtain⟨q1,Mr,rfl⟩:=List.mem_map.1 G2;exact Ot q0 ED q1 Mr (by simp only at e;omega)
   ·intro i bx hm;rcases List.mem_cons.1 hm with e|hm
    ·cases e;exact⟨cc,rfl⟩
    ·exact F3 i bx hm
   ·intro y hy i hi;rcases List.mem_cons.1 hy with rfl|hy
    ·simp only[At,R8] at hi;subst hi;exact⟨_,DW⟩
    ·obtain⟨bx,Pm⟩:=Iy y hy i hi;exact⟨bx,Ut _ Pm⟩
   ·cases us with
    |nil=>exact ho.elim
    |cons u us=>
     obtain⟨h1,h2⟩:=X5 w A own β' (j0+1) us (fun q hq=>by rw[hβ _ (Ut _ (List.mem_map_of_mem hq))];congr 1;simp only;omega) ho.2
     have h0:=hβ (nid N t,0) DW;simp only[ZG] at h0;refine⟨⟨?_,h1⟩,fun i bx hm=>?_⟩
     ·rcases ho.1 with⟨h3,rfl,_,h5⟩|⟨b,ob,cap,h3,h4,h5,h6,h7,_⟩
      ·exact .inl ⟨h0.trans h3,rfl,rfl,h5⟩
      ·exact .inr ⟨b,ob,ob,cap,h0.trans h3,h4,.inl rfl,h5,h6,h7⟩
     ·rcases List.mem_cons.1 hm with e|hm
      ·cases e;exact HB ho.1 h0
      ·exact h2 i bx hm
def Ag9(hp D1:Nat->Option B7)(bs:List (Nat × B7))(x:Ih):Prop:=
 match x with
 |.var id off _ ws=>∃c cs,hp id=some (.st c)/\D1 id=some (.st (B5 c cs off))/\cs.length=ws.length/\off+cs.length<=c.length/\∀p∈cs,∀i∈At p,∃bx,(i,bx)∈bs
 |.row id=>∃c cs,hp id=some (.ar false c)/\D1 id=some (.ar false cs)
 |.none=>True
def Ato(β β':Bt)(w':World)(A:Nat->Prop)(hp D1:Nat->Option B7)(x:Ih):Prop:=
 match x with
 |.var id off _ ws=>∃c cs,hp id=some (.st c)/\D1 id=some (.st (B5 c cs off))/\cs.length=ws.length/\off+cs.length<=c.length /\
   ∀b o,β id=some (b,o)->(∀(j:Nat) p,cs[j]?=some p->∃v,w'.cell? ⟨b,o+off+j,none⟩=some v/\Cj w' A β' p v)/\∀j,j<cs.length->w'.frozen? ⟨b,o+off+j,none⟩=false
 |.row id=>∃cs,D1 id=some (.ar false cs)/\((β id=none/\cs=[])\/∃b o,β id=some (b,o)/\RdT w' A ⟨b,o,none⟩ cs/\∀j,o<=j->j<bsz w' b->w'.frozen? ⟨b,j,none⟩=false)
 |.none=>True
theorem FG{hp Fb D1:Nat->Option B7}{bs bs1:List (Nat × B7)}{x:Ih}(h1:∀i∈x.ids,Fb i=hp i)(hb:∀q∈bs,q∈bs1)(h:Ag9 Fb D1 bs x):Ag9 hp D1 bs1 x:=by
 cases x with
 |var id off cts ws=>
  obtain⟨c,cs,h2,h3,h4,h5,h6⟩:=h;refine⟨c,cs,by rw[<-h1 id (by simp[Ih.ids])];exact h2,h3,h4,h5,fun p hp i hi=>?_⟩
  obtain⟨bx,Pm⟩:=h6 p hp i hi;exact⟨bx,hb _ Pm⟩
 |row id=>
  obtain⟨c,cs,h2,h3⟩:=h;exact⟨c,cs,by rw[<-h1 id (by simp[Ih.ids])];exact h2,h3⟩
 |none=>trivial
theorem LV{hp Fb D1:Nat->Option B7}{x:Ih}(h1:∀i∈x.ids,Fb i=hp i)(h:Ato β β' w' A Fb D1 x):Ato β β' w' A hp D1 x:=by
 cases x with
 |var id off cts ws=>
  obtain⟨c,cs,h2,h3⟩:=h;exact⟨c,cs,by rw[<-h1 id (by simp[Ih.ids])];exact h2,h3⟩
 |row id=>exact h
 |none=>trivial
theorem Amf{hp Fb:Nat->Option B7}{q:Option (Nat × Nat)}{p:PV}{x:Ih}(h1:∀i∈x.ids,Fb i=hp i)(h:LOk hp q p x):LOk Fb q p x:=by
 cases x with
 |var id off cts ws'=>
  obtain⟨h2,h3,h5,c,h6,h7⟩:=h;exact⟨h2,h3,h5,c,by rw[h1 id (by simp[Ih.ids])];exact h6,h7⟩
 |row id=>
  obtain⟨h2,h3,c,h4⟩:=h;exact⟨h2,h3,c,by rw[h1 id (by simp[Ih.ids])];exact h4⟩
 |none=>exact h
theorem EL{hp Fb:Nat->Option B7}{src:Nat->Nat->Option (Nat × Nat)}:∀{ps:Ae}{i:Nat}{l:List Ih},(∀i∈l.flatMap Ih.ids,Fb i=hp i)->T9 hp src i ps l->T9 Fb src i ps l
 |[],_,_,_,h=>h
 |p::ps,i,l,hs,h=>by
  rcases h with⟨h1,h2,h3⟩|⟨x,l',rfl,h2,h3⟩
  ·exact .inl ⟨h1,h2,EL hs h3⟩
  ·exact .inr ⟨x,l',rfl,Amf (fun k hk=>hs k (by simp only[K8,Bx];exact .inl hk)) h2,EL (fun k hk=>hs k (by simp only[K8,Bx];exact .inr hk)) h3⟩
theorem Aic{own:Bt}{bt:HW}{j i:Nat}{p:PV}{zs:Ae}{r:List Ae}(hp:HU p=false)(h:CM w A own bt j i (p::zs) r):CM w A own bt j (i+1) zs r:=by cases p<;>first|exact h|cases hp
theorem Yp{src:Nat->Nat->Option (Nat × Nat)}{β:Bt}:∀{zs:Ae}{l:List Ih}{ro:List Ae} {i j t:Nat}{hp:Nat->Option B7}{K:(Nat->Option B7)->List (Nat × B7)->Option R},
  EH N t l ro hp K=some r->T9 hp src i zs l->Et (l.flatMap Ih.ids)=true ->
  ∃D1 bs,∃qs:List (Nat × Nat),K D1 bs=some r/\bs.map (·.1)=qs.map (·.1)/\(∀q∈qs,(∃k,q.1=nid N k)/\j<=q.2)/\(∀q∈qs,∀q'∈qs,q.2=q'.2->q.1=q'.1)/\(∀i bx,(i,bx)∈bs->∃c,bx=.ar false c) /\
   (∀i,i ∉ l.flatMap Ih.ids->D1 i=hp i)/\(∀x∈l,Ag9 hp D1 bs x) /\
   ∀(w':World) (A:Nat->Prop) (own β':Bt) (bt:HW),(∀q∈qs,β' q.1=own q.2)->(∀i,bt i 0=(src i 0).bind (Is β))->CM w' A own bt j i zs ro ->
    (∀i bx,(i,bx)∈bs->V3 w' A β' i bx)/\∀x∈l,Ato β β' w' A hp D1 x
 |[],l,ro,i,j,t,hp,K,hk,hL,hn=>by
  have hL:l=[]:=hL;subst hL;unfold EH at hk;obtain⟨rfl,hk⟩:=Em hk;exact⟨hp,[],[],hk,rfl,by simp,by simp,by simp,fun _ _=>rfl,by simp,fun w' A own β' bt _ _ _=>⟨by simp,by simp⟩⟩
 |p::zs,l0,ro,i,j,t,hp,K,hk,hL0,hn=>by
  rcases hL0 with⟨Vm,_,hL⟩|⟨x,l,rfl,hok,hL⟩
  rotate_left
  ··simp only[K8] at hn;obtain⟨hn1,hn2,hn3⟩:=K4 hn;cases x with
    |var id off cts ws'=>
     obtain⟨rfl,MV,Se,c,hc,ET⟩:=hok;unfold EH at hk;obtain⟨cs,ro',hro,E8⟩:=Bn hk;subst hro;obtain⟨t',cs',bs,qs,F2,QF,Ww,hb,MR,Ot,F3,Iy,hv⟩:=IK E8;rw[hc] at F2;simp only at F2;change EH N t' l ro' (Db hp id (some (.st (B5 c cs' off)))) (fun D1 bs'=>K D1 (bs++bs'))=some r at F2;have Ahr:id ∉ l.flatMap Ih.ids:=hn3 id (by simp[Ih.ids]);have hL':T9 (Db hp id (some (.st (B5 c cs' off)))) src (i+1) zs l:=EL (fun k hkm=>Al _ _ (fun e=>Ahr (e ▸ hkm))) hL;obtain⟨D1,bs',qs',Pp,Jz,Mr,Af4,Aid,O5,hsh,ZI⟩:=Yp (β:=β) (j:=j+cs.length) F2 hL' hn2;have At4:D1 id=some (.st (B5 c cs' off)):=by rw[O5 id Ahr,An]
     have SC:∀x∈l,∀k∈x.ids,Db hp id (some (.st (B5 c cs' off))) k=hp k:=fun x hx k hkm=>Al _ _ (fun e=>Ahr (e ▸ List.mem_flatMap.2 ⟨x,hx,hkm⟩));refine⟨D1,bs++bs',qs.map (fun q=>(q.1,j+q.2))++qs',Pp,by simp only[List.map_append,hb,Jz];simp,?_,?_,?_,?_,?_,fun w' A own β' bt hβ DX ho=>?_⟩
     ·intro q hq;rcases Bx.1 hq with hq|hq
      ·obtain⟨q0,ED,rfl⟩:=List.mem_map.1 hq;exact⟨(MR q0 ED).1,by simp only;omega⟩
      ·exact⟨(Mr q hq).1,by have:=(Mr q hq).2;omega⟩
     ·intro q hq q' G2 e;rcases Bx.1 hq with hq|hq
      ·obtain⟨q0,ED,rfl⟩:=List.mem_map.1 hq;have:=(MR q0 ED).2;rcases Bx.1 G2 with G2|G2
       ·obtain⟨q1,Mr,rfl⟩:=List.mem_map.1 G2;exact Ot q0 ED q1 Mr (by simp only at e;omega)
       ·have:=(Mr q' G2).2;simp only at e;omega
      ·have h5:=(Mr q hq).2;rcases Bx.1 G2 with G2|G2
       ·obtain⟨q1,A6h,rfl⟩:=List.mem_map.1 G2;have:=(MR q1 A6h).2;simp only at e;omega
       ·exact Af4 q hq q' G2 e
     ·intro k bx hm;rcases Bx.1 hm with hm|hm
      ·exact F3 k bx hm
      ·exact Aid k bx hm
     ·intro k hk;simp only[K8,Bx,not_or] at hk;rw[O5 k hk.2];exact Al _ _ (by rintro rfl;exact hk.1 (by simp[Ih.ids]))
     ·intro x hx;rcases List.mem_cons.1 hx with rfl|hx
      ·refine⟨c,cs',hc,At4,by omega,by omega,fun p hp k hk=>?_⟩;obtain⟨bx,Pm⟩:=Iy p hp k hk;exact⟨bx,Bx.2 (.inl Pm)⟩
      ·exact FG (SC x hx) (fun q hq=>Bx.2 (.inr hq)) (hsh x hx)
     ·obtain⟨⟨b,ob,ZE,Eh,vs,hov,hcell,hfr⟩,ho⟩:=ho
      ·obtain⟨h1,h2⟩:=hv w' A own β' j vs (fun q hq=>hβ _ (Bx.2 (.inl (List.mem_map_of_mem hq)))) hov;obtain⟨h3,h4⟩:=ZI w' A own β' bt (fun q hq=>hβ q (Bx.2 (.inr hq))) DX ho;refine⟨fun k bx hm=>?_,fun x hx=>?_⟩
       ·rcases Bx.1 hm with hm|hm
        ·exact h2 k bx hm
        ·exact h3 k bx hm
       ·rcases List.mem_cons.1 hx with rfl|hx
        ·refine⟨c,cs',hc,At4,by omega,by omega,fun b1 o1 hβ1=>?_⟩;have Iy:=DX i;rw[ZE,MV] at Iy;simp only[Option.bind_some,Is,hβ1,Option.map_some,Option.some.injEq,Prod.mk.injEq] at Iy;obtain⟨rfl,rfl⟩:=Iy;refine⟨fun k p hp=>?_,fun k hk=>hfr k (by omega)⟩;obtain⟨v,hv,hcr⟩:=h1.get hp;exact⟨v,hcell k v hv,hcr⟩
        ·exact LV (SC x hx) (h4 x hx)
    |row id=>
     obtain⟨⟨pz,rfl⟩,MV,c,hc⟩:=hok;unfold EH at hk;obtain⟨cs,ro',hro,F2⟩:=Bn hk;subst hro;have Ahr:id ∉ l.flatMap Ih.ids:=hn3 id (by simp[Ih.ids]);have hL':T9 (Db hp id (some (.ar false cs))) src (i+1) zs l:=EL (fun k hkm=>Al _ _ (fun e=>Ahr (e ▸ hkm))) hL;obtain⟨D1,bs',qs',Pp,Jz,Mr,Af4,Aid,O5,hsh,ZI⟩:=Yp (β:=β) (j:=j) F2 hL' hn2;have At4:D1 id=some (.ar false cs):=by rw[O5 id Ahr,An]
     have SC:∀x∈l,∀k∈x.ids,Db hp id (some (.ar false cs)) k=hp k:=fun x hx k hkm=>Al _ _ (fun e=>Ahr (e ▸ List.mem_flatMap.2 ⟨x,hx,hkm⟩));refine⟨D1,bs',qs',Pp,Jz,Mr,Af4,Aid,?_,?_,fun w' A own β' bt hβ DX ho=>?_⟩
     ·intro k hk;simp only[K8,Bx,not_or] at hk;rw[O5 k hk.2];exact Al _ _ (by rintro rfl;exact hk.1 (by simp[Ih.ids]))
     ·intro x hx;rcases List.mem_cons.1 hx with rfl|hx
      ·exact⟨c,cs,hc,At4⟩
      ·exact FG (SC x hx) (fun q hq=>hq) (hsh x hx)
     ·obtain⟨Amk,ho⟩:=ho
      ·obtain⟨h3,h4⟩:=ZI w' A own β' bt hβ DX ho;refine⟨h3,fun x hx=>?_⟩;rcases List.mem_cons.1 hx with rfl|hx
       ·refine⟨cs,At4,?_⟩;have Iy:=DX i;rw[MV] at Iy;simp only[Option.bind_some,Ahc] at Iy;rw[Iy] at Amk;exact Amk
       ·exact LV (SC x hx) (h4 x hx)
    |none=>
     obtain⟨⟨pz,rfl⟩,MV⟩:=hok;unfold EH at hk;obtain⟨cs,ro',hro,F2⟩:=Bn hk;subst hro;obtain⟨D1,bs',qs',Pp,Jz,Mr,Af4,Aid,O5,hsh,ZI⟩:=Yp (β:=β) (j:=j) F2 hL hn2;refine⟨D1,bs',qs',Pp,Jz,Mr,Af4,Aid,?_,?_,fun w' A own β' bt hβ DX ho=>?_⟩
     ·intro k hk;simp only[K8,Bx,not_or] at hk;exact O5 k hk.2
     ·intro x hx;rcases List.mem_cons.1 hx with rfl|hx
      ·trivial
      ·exact hsh x hx
     ·obtain⟨Amk,ho⟩:=ho
      ·obtain⟨h3,h4⟩:=ZI w' A own β' bt hβ DX ho;refine⟨h3,fun x hx=>?_⟩;rcases List.mem_cons.1 hx with rfl|hx
       ·trivial
       ·exact h4 x hx
  ·obtain⟨D1,bs',qs',Pp,Jz,Mr,Af4,Aid,O5,hsh,ZI⟩:=Yp (β:=β) (j:=j) hk hL hn;exact⟨D1,bs',qs',Pp,Jz,Mr,Af4,Aid,O5,hsh,fun w' A own β' bt hβ DX ho=>ZI w' A own β' bt hβ DX (Aic Vm ho)⟩
end
open Go.RowKit
theorem Hc(hp:Nat->Option B7)(ids:B2)(i:Nat):Yv hp ids i=if i∈ids then (hp i).map (fun _=>B7.mv) else hp i:=by
 unfold Yv;by_cases hi:i∈ids
 ·have:ids.any (Nat.beq i)=true:=List.any_eq_true.2 ⟨i,hi,Qq i⟩;rw[this,Cx hi];rfl
 ·have:ids.any (Nat.beq i)=false:=by
   cases hb:ids.any (Nat.beq i)
   ·rfl
   ·obtain⟨j,hj,e⟩:=List.any_eq_true.1 hb;exact absurd (Dc e ▸ hj) hi
  rw[this,Br hi];rfl
theorem Ws:∀{nw:List (Nat × B7)} {hp:Nat->Option B7},Ca hp nw=true->(nw.map (·.1)).Nodup
 |[],_,_=>List.nodup_nil
 |(i,b)::r,hp,h=>by
  simp only[Ca,E0,Option.isNone_iff_eq_none,Bool.not_eq_true'] at h;simp only[Vv,List.nodup_cons];refine⟨fun hm=>?_,Ws h.2⟩;obtain⟨q,hq,e⟩:=List.mem_map.1 hm;have:r.any (fun q=>Nat.beq q.1 i)=true:=List.any_eq_true.2 ⟨q,hq,by rw[e];exact Qq i⟩
  rw[this] at h;cases h.1.2
theorem Aqo:∀{l:List (Nat × Nat)},(l.map (·.1)).Nodup->∀q∈l,BQ l q.1=some q.2
 |[],_,_,h=>by cases h
 |(j,b)::r,hn,q,hq=>by
  simp only[Vv,List.nodup_cons] at hn;unfold BQ;rcases List.mem_cons.1 hq with rfl|hq
  ·simp only[Qq,cond_true]
  ·have:Nat.beq q.1 j=false:=by
    cases hb:Nat.beq q.1 j
    ·rfl
    ·exact absurd (Dc hb ▸ List.mem_map_of_mem hq) hn.1
   simp only[this,cond_false];exact Aqo hn.2 q hq
theorem Ads:∀{l:List (Nat × Nat)} {i:Nat},i ∉ l.map (·.1)->BQ l i=none
 |[],_,_=>rfl
 |(j,b)::r,i,h=>by
  simp only[Vv,List.mem_cons,not_or] at h;unfold BQ
  have:Nat.beq i j=false:=by
   cases hb:Nat.beq i j
   ·rfl
   ·exact absurd (Dc hb) h.1
  simp only[this,cond_false];exact Ads h.2
section
variable {R:Type}{r:R}{P:Program}{N:Nat}{w0:World}{X0:J8}{Y:Nat->Prop}{β β':Bt}{s:St}{a:Act}{w w':World}{o:Oper}{A A':Nat->Prop}
theorem Hs.weak(hA:∀b,b<w.heap.size->A' b->A b){q:Option (Nat × Nat)}{p:PV}{u:Value}(h:Hs w A q p u):Hs w A' q p u:=by
 have tr:∀{p:PV},Au w A p u->Au w A' p u:=fun h=>h.step (Ct.refl _ _) hA;cases p with
 |own es n c=>
  rcases h with h|⟨b,ob,cap,h1,h2,h3,h4,h5,h6,h7⟩
  ·exact .inl h
  ·exact .inr ⟨b,ob,cap,h1,h2,h3,h4,h5,h6.weak hA,h7⟩
 |_=>exact tr h
theorem F0.weak(hA:∀b,b<w.heap.size->A' b->A b){own:Bt}:∀{ps:Ae}{us:List Value}{j:Nat},F0 w A own j ps us->F0 w A' own j ps us
 |[],[],_,_=>trivial
 |[],_::_,_,h=>h.elim
 |_::_,[],_,h=>h.elim
 |_::_,_::_,_,h=>⟨h.1.weak hA,F0.weak hA h.2⟩
theorem Aff.weak(hA:∀b,b<w.heap.size->A' b->A b){bt:Bt}{p:PV}{u:Value}(h:Aff w A bt p u):Aff w A' bt p u:=by
 cases p with
 |pbox ps=>
  obtain⟨b,ob,h1,h2,h3,vs,h4,h5⟩:=h;exact⟨b,ob,h1,h2,h3,vs,h4.weak hA,h5⟩
 |tup ps=>
  obtain⟨es,n,c,h1,h2⟩:=h;exact⟨es,n,c,h1,h2.weak hA⟩
 |agg cs=>
  obtain⟨vs,h1,h2,h3⟩:=h;exact⟨vs,h1,h2,h3.weak hA⟩
 |_=>exact⟨h.1,h.2.weak hA⟩
theorem O4.weak(hA:∀b,b<w.heap.size->A' b->A b){bt:HW}:∀{ps:Ae}{us:List Value}{i:Nat},O4 w A bt i ps us->O4 w A' bt i ps us
 |[],[],_,_=>trivial
 |[],_::_,_,h=>h.elim
 |_::_,[],_,h=>h.elim
 |_::_,_::_,_,h=>⟨h.1.weak hA,O4.weak hA h.2⟩
theorem GA{bt:HW}(k:Bool):∀{xs:List Operand}{ps:Ae}{i:Nat},O4 w A bt i ps (xs.map a.eval)->O4 w A bt i (Mj k xs ps) (xs.map a.eval)
 |[],[],_,h=>h
 |[],_::_,_,h=>h
 |_::_,[],_,h=>h
 |x::xs,p::ps,i,h=>by
  simp only[Vv] at h ⊢;refine⟨?_,GA k h.2⟩;split
  ·exact⟨.inl trivial,Au.lnil _ _⟩
  ·exact h.1
theorem YV(k:Bool)(x:Operand)(xs:List Operand)(p:PV)(ps:Ae):∃p',Mj k (x::xs) (p::ps)=p'::Mj k xs ps/\HU p'=HU p/\(HU p=true->p'=p):=by
 refine⟨_,rfl,?_,fun h=>?_⟩
 ·split
  ·rfl
  ·rfl
 ·split
  ·cases h
  ·rfl
theorem Wm{hp:Nat->Option B7}{src:Nat->Nat->Option (Nat × Nat)}(k:Bool):∀{xs:List Operand}{ps:Ae}{i:Nat}{l:List Ih},T9 hp src i ps l->T9 hp src i (Mj k xs ps) l
 |[],[],_,_,h=>h
 |[],_::_,_,_,h=>h
 |_::_,[],_,_,h=>h
 |x::xs,p::ps,i,l,h=>by
  obtain⟨p',e,h1,h2⟩:=YV k x xs p ps;rw[e];rcases h with⟨h3,h4,h5⟩|⟨y,l',rfl,h4,h5⟩
  ·exact .inl ⟨by rw[h1];exact h3,h4,Wm k h5⟩
  ·exact .inr ⟨y,l',rfl,by rw[h2 (Ako h4)];exact h4,Wm k h5⟩
theorem RL{hp:Nat->Option B7}{src:Nat->Nat->Option (Nat × Nat)}:∀{ps:Ae}{i:Nat}{l:List Ih},T9 hp src i ps l->∀id∈l.flatMap Ih.ids,D3 (hp id)/\∃k off,src k 0=some (id,off)
 |[],_,_,h,id,B1=>by
  have h:_=[]:=h;rw[h] at B1;cases B1
 |p::ps,i,l,h,id,B1=>by
  rcases h with⟨_,_,h3⟩|⟨x,l',rfl,h2,h3⟩
  ·exact RL h3 id B1
  ·simp only[K8,Bx] at B1;rcases B1 with B1|B1
   ·cases x with
    |var id' off cts ws=>
     simp only[Ih.ids,R8] at B1;subst B1;obtain⟨_,h4,_,c,h5,_⟩:=h2;exact⟨by rw[h5];trivial,i,_,h4⟩
    |row id'=>
     simp only[Ih.ids,R8] at B1;subst B1;obtain⟨_,h4,c,h5⟩:=h2;exact⟨by rw[h5];trivial,i,_,h4⟩
    |none=>simp[Ih.ids] at B1
   ·exact RL h3 id B1
theorem Aui{hp:Nat->Option B7}{src:Nat->Nat->Option (Nat × Nat)}:∀{ps:Ae}{i:Nat}{l:List Ih},T9 hp src i ps l->∀k p id off,ps[k]?=some p->src (i+k) 0=some (id,off) ->
   (∃c ws,hp id=some (.st c)/\p=.pbox ws/\off+ws.length<=c.length)\/((∃c,hp id=some (.ar false c))/\off=0/\∃ws,p=.tup ws)
 |[],_,_,_,k,p,id,off,hp,_=>by simp at hp
 |p::ps,i,l,h,k,p',id,off,D1,hs=>by
  have BX:∃l',T9 hp src (i+1) ps l':=by
   rcases h with⟨_,_,h3⟩|⟨x,l',_,_,h3⟩<;>exact⟨_,h3⟩
  cases k with
  |succ k=>
   obtain⟨l',h'⟩:=BX;exact Aui h' k p' id off (by simpa using D1) (by rw[show i+1+k=i+(k+1) by omega];exact hs)
  |zero=>
   simp only[List.getElem?_cons_zero,Option.some.injEq] at D1;subst D1;rw[ZG] at hs;rcases h with⟨_,h2,_⟩|⟨x,l',_,h2,_⟩
   ·rw[hs] at h2;cases h2
   ·cases x with
    |var id' off' cts ws=>
     obtain⟨h3,h4,_,c,h5,h6⟩:=h2;rw[hs] at h4;cases h4;exact .inl ⟨c,ws,h5,h3,h6⟩
    |row id'=>
     obtain⟨h3,h4,c,h5⟩:=h2;rw[hs] at h4;cases h4;exact .inr ⟨⟨c,h5⟩,rfl,h3⟩
    |none=>
     have:=h2.2;rw[hs] at this;cases this
theorem Acy{hp : Nat -> Option B7}{src : Nat -> Nat -> Option (Nat × Nat)}{id off : Nat}{cts : List CT}{ws : Ae}: ∀ {ps : Ae} {i : Nat} {l : List Ih}, T9 hp src i ps l -> Ih.var id off cts ws ∈ l ->
      ∃ k, ps[k]? = some (.pbox ws) /\ src (i + k) 0 = some (id, off)
  | [], _, _, h, hm => by
    have h : _ = [] := h
    rw[h] at hm; cases hm
  | p :: ps, i, l, h, hm => by
    have next : ∀ {l'}, T9 hp src (i + 1) ps l' -> Ih.var id off cts ws ∈ l' -> ∃ k, (p :: ps)[k]? = some (.pbox ws) /\ src (i + k) 0 = some (id, off) := by
      intro l' h' M8
      obtain⟨k, h1, h2⟩ := Acy h' M8
      exact⟨k + 1, by simpa using h1, by rw[show i + (k + 1) = i + 1 + k by omega]; exact h2⟩
    rcases h with⟨_, _, h3⟩ | ⟨x, l', rfl, h2, h3⟩
    · exact next h3 hm
    · rcases List.mem_cons.1 hm with e | hm
      · subst e
        obtain⟨h1, h4, _⟩ := h2
        subst h1
        exact⟨0, rfl, h4⟩
      · exact next h3 hm
theorem Adn{hp:Nat->Option B7}{src:Nat->Nat->Option (Nat × Nat)}:∀{ps:Ae}{i:Nat}{l:List Ih},T9 hp src i ps l->∀k id off,i<=k->src k 0=some (id,off)->k<i+ps.length->∃p,ps[k-i]?=some p/\HU p=true
 |[],i,_,_,k,id,off,h1,_,h3=>by simp at h3;omega
 |p::ps,i,l,h,k,id,off,h1,h2,h3=>by
  by_cases e:k=i
  ·subst e;rcases h with⟨_,h4,_⟩|⟨x,l',_,h4,_⟩
   ·rw[h2] at h4;cases h4
   ·exact⟨p,by simp,Ako h4⟩
  ·have BX:∃l',T9 hp src (i+1) ps l':=by
    rcases h with⟨_,_,h3⟩|⟨x,l',_,_,h3⟩<;>exact⟨_,h3⟩
   obtain⟨l',h'⟩:=BX;obtain⟨q,h5,h6⟩:=Adn h' k id off (by omega) h2 (by simp at h3;omega)
   refine⟨q,?_,h6⟩;rw[show k-i=(k-(i+1))+1 by omega]
   simpa using h5
theorem O4.len{bt:HW}:∀{ps:Ae}{us:List Value}{i:Nat},O4 w A bt i ps us->ps.length=us.length
 |[],[],_,_=>rfl
 |[],_::_,_,h=>h.elim
 |_::_,[],_,h=>h.elim
 |_::_,_::_,_,h=>by simp[O4.len h.2]
theorem Adq(h:Di N w0 X0 Y β s a w){G:CK}(Oc:Env P G w0 X0){C:G3}{call:Aq}(Ez:∀f args res,call f args=some res->C6 G P f args res){c:Call}{f:FuncId}(ho:o.op=.call c)(hc:c.callee=.value (.func f)){K:St->Option R}(hk:IV C P N call s o f c K=some r):
  ∃s',K s'=some r/\∀(next:Act->World->Prop) (Q:Exit->Act->World->Prop),(∀a' w' β',Di N w0 X0 Y β' s' a' w'->next a' w')->o.wp P a w next Q:=by
 unfold IV at hk;obtain⟨vs0,m,x,l,src,E8,hm,hx,hS,hL,F6⟩:=WB h hk;obtain⟨hb,F2⟩:=Am E8;simp only[E0] at hb;obtain⟨⟨⟨hnd,A2f⟩,hN⟩,Alr⟩:=hb;have hN:0<N:=Nat.lt_of_succ_le (Pf hN);obtain⟨hnl,hnx,hlx⟩:=K4 hnd
 have hml:∀i∈m,i ∉ l.flatMap Ih.ids/\i ∉ x:=by
  intro i hi;have:=List.all_eq_true.1 A2f i hi
  have hn:∀k∈l.flatMap Ih.ids++x,i≠k:=by
   rintro k hk rfl
   have h2:(l.flatMap Ih.ids++x).any (Nat.beq i)=true:=List.any_eq_true.2 ⟨i,hk,Qq i⟩;rw[h2] at this;cases this
  exact⟨fun hq=>hn i (by simp only[Bx];exact .inl hq) rfl,fun hq=>hn i (by simp only[Bx];exact .inr hq) rfl⟩
 replace hL:=Wm (C.kz f) (xs:=c.args.toList) hL
 replace F6:=fun fz h1 h2 bt DX=>GA (a:=a) (C.kz f) (F6 fz h1 h2 bt DX)
 generalize Mj (C.kz f) c.args.toList vs0=vs at F2 F6 hL;obtain⟨rv,ro,Se,Pp⟩:=WV F2;obtain⟨ws,bs,AW,hwl,hnt,hsl,hrs,hri,hws⟩:=IW (C.shr f) N Pp;obtain⟨U8,hk5⟩:=Am AW;obtain⟨lids,TT⟩:∃lids,l.flatMap Ih.ids=lids:=⟨_,rfl⟩
 rw[TT] at hS hnl hlx hml;have A87:∀i,i ∉ x->Yv (Af s.hp m) x i=Af s.hp m i:=fun i hi=>by rw[Hc,Br hi]
 have Aj7:∀i,i∈lids->Yv (Af s.hp m) x i=s.hp i:=fun i hi=>by
  rw[A87 i (hlx i hi),Cg,Br (fun hq=>(hml i hq).1 hi)]
 have hLM:T9 (Yv (Af s.hp m) x) src 0 vs l:=EL (fun i hi=>Aj7 i (TT ▸ hi)) hL;obtain⟨D1,bs',qs,hk6,hbq,MR,Ot,F3,O5,hsh,ZI⟩:=Yp (β:=β) (j:=Pq rv) hk5 hLM (by rw[TT];exact hnl)
 obtain⟨Ui,hk7⟩:=Am hk6;refine⟨_,hk7,fun next Q hn=>?_⟩;clear hk E8 F2 Pp AW hk5 hk6 hk7;rw[TT] at O5;obtain⟨⟨fn,hfn,hfb⟩,LI⟩:=Ez f vs _ Se;have hf:=h.freeze hm;have An1:=RL hL;rw[TT] at An1
 have UJ:∀i,i∈lids\/i∈x->Af s.hp m i=s.hp i:=by
  intro i hi;rw[Cg,Br];intro hq;rcases hi with hi|hi
  ·exact (hml i hq).1 hi
  ·exact (hml i hq).2 hi
 have FF:∀i,i∈lids\/i∈x->D3 (s.hp i):=by
  intro i hi;rcases hi with hi|hi
  ·exact (An1 i hi).1
  ·obtain⟨cc,hcc⟩:=hx i hi;rw[hcc];trivial
 have A9z:∀i j id off,src i j=some (id,off)->id∈lids\/id∈x:=by
  intro i j id off hs;cases j with
  |zero=>exact .inl (hS.lent i id off hs)
  |succ j=>exact .inr (hS.mvd i j id off hs).2
 obtain⟨bt,DX⟩:∃bt:HW,∀i j,bt i j=(src i j).bind (Is β):=⟨_,fun _ _=>rfl⟩
 have btS:∀{i j b ob},bt i j=some (b,ob)->∃id off o',src i j=some (id,off)/\β id=some (b,o')/\ob=o'+off/\(id∈lids\/id∈x):=by
  intro i j b ob hb;rw[DX] at hb;cases hs:src i j with
  |none=>rw[hs] at hb;cases hb
  |some q=>
   rw[hs] at hb;obtain⟨id,off⟩:=q;simp only[Option.bind_some,Is] at hb;cases hβ:β id with
   |none=>rw[hβ] at hb;cases hb
   |some p=>
    rw[hβ] at hb;obtain⟨b',o'⟩:=p;simp only[Option.map_some,Option.some.injEq,Prod.mk.injEq] at hb;obtain⟨rfl,rfl⟩:=hb;exact⟨id,off,o',rfl,hβ,rfl,A9z i j id off hs⟩
 have btX:∀{b},BtX bt b->∃id o',β id=some (b,o')/\(id∈lids\/id∈x):=by
  rintro b ⟨i,j,ob,hb⟩
  obtain⟨id,off,o',_,h2,_,h4⟩:=btS hb;exact⟨id,o',h2,h4⟩
 have hBA:∀b,BtX bt b->ZF s.hp β b:=fun b hb=>by
  obtain⟨id,o',h1,h2⟩:=btX hb;exact⟨id,o',FF id h2,h1⟩
 obtain⟨Yc,hYc⟩:∃Yc:Nat->Prop,∀b,Yc b↔((∃id ob,D3 (Af s.hp m id)/\β id=some (b,ob)/\id ∉ lids/\id ∉ x)\/Y b):=⟨_,fun _=>Iff.rfl⟩
 have Eh:vs.length=c.args.toList.length:=by
  have:=(F6 m (fun _ hi=>hi) hm bt DX).len
  simpa using this
 have Bce:Ins w Yc bt vs (c.args.toList.map a.eval):=by
  refine⟨fun b hb=>?_,fun b hb hB=>?_,fun b hB=>?_,fun i j i' j' b ob ob' hb Jz=>?_,fun i q hq=>?_,?_⟩
  ·rcases (hYc b).1 hb with⟨id,ob,hl,hβ,_⟩|hY
   ·exact hf.blt id b ob (Dp hl) hβ
   ·exact Gf (h.Ylt b hY) h.fr.step.size
  ·obtain⟨id',o',h1,h2⟩:=btX hB;rcases (hYc b).1 hb with⟨id,ob,hl,hβ,h3,h4⟩|hY
   ·have:=hf.inj id id' b ob o' hl (by show D3 (Af s.hp m id');rw[UJ id' h2];exact FF id' h2) hβ h1
    subst this;rcases h2 with h2|h2
    ·exact h3 h2
    ·exact h4 h2
   ·exact h.Yx b hY ⟨id',o',FF id' h2,h1⟩
  ·obtain⟨id',o',h1,h2⟩:=btX hB;exact h.blt id' b o' (Dp (FF id' h2)) h1
  ·obtain⟨id,off,o1,h1,h2,_,h4⟩:=btS hb;obtain⟨id',off',o1',h1',h2',_,h4'⟩:=btS Jz;have:=h.inj id id' b o1 o1' (FF id h4) (FF id' h4') h2 h2';subst this;cases j with
   |zero=>
    cases j' with
    |zero=>exact⟨hS.inj0 hnl i i' id off off' h1 h1',rfl⟩
    |succ j'=>exact absurd (hS.mvd i' j' id off' h1').2 (hlx id (hS.lent i id off h1))
   |succ j=>
    cases j' with
    |zero=>exact absurd (hS.mvd i j id off h1).2 (hlx id (hS.lent i' id off' h1'))
    |succ j'=>
     obtain⟨h5,h6⟩:=hS.inj1 hnx i i' j j' id off off' h1 h1';exact⟨h5,by rw[h6]⟩
  ·obtain⟨b,ob⟩:=q;obtain⟨id,off,o',h1,_⟩:=btS hq;obtain⟨p,hp,h2⟩:=Adn hL i id off (Nat.zero_le _) h1 (by have:=hS.dom i 0 _ h1;rw[Eh];exact this.2)
   exact⟨p,by simpa using hp,h2⟩
  ·refine (F6 m (fun _ hi=>hi) hm bt DX).weak fun b _ hb=>?_;rcases hb with hb|hb
   ·obtain⟨id',o',h1,h2⟩:=btX hb;exact .inl ⟨id',o',by rw[UJ id' h2];exact FF id' h2,h1⟩
   ·rcases (hYc b).1 hb with⟨id,ob,hl,hβ,_⟩|hY
    ·exact .inl ⟨id,ob,hl,hβ⟩
    ·exact .inr hY
 unfold Oper.wp;rw[Aey ho hc Oc.ng hfn hfb];show Calls P f _ w _;have hca:c.args.map a.eval=(c.args.toList.map a.eval).toArray:=by rw[<-List.map_toArray,Array.toArray_toList]
 rw[hca];refine (LI w Yc bt _ Bce (Oc.fr w h.fr) (fun b x=>⟨Gf (Oc.y b x).1 h.fr.step.size,fun hB=>(h.ownd b (hBA b hB)).elim (Oc.y b x).2 (fun ET=>absurd (Oc.y b x).1 (Nat.not_lt.2 ET))⟩)).mono ?_
 rintro e w' ⟨us,own,rfl,out⟩
 obtain⟨ha1,Vp⟩:=B3 Ui;obtain⟨hg1,hg2⟩:=Fi (hp:=D1) Vp;have Ail:=Ws Ui;rw[List.map_append,List.nodup_append] at Ail;obtain⟨Bjn,A56,Bcg⟩:=Ail;rw[hbq] at A56
 obtain⟨β1,hβ1,hβ2⟩:∃β1:Bt,(∀i,(∃bx,(i,bx)∈bs)->β1 i=own ((i-o.dst.getD N) / N))/\∀i,(¬∃bx,(i,bx)∈bs)->β1 i=match BQ qs i with|some j=>own j|none=>β i:=by
  refine⟨fun i=>if (bs.any fun q=>Nat.beq q.1 i)=true then own ((i-o.dst.getD N) / N) else match BQ qs i with|some j=>own j|none=>β i,fun i hi=>?_,fun i hi=>?_⟩
  ·show (if _ then _ else _)=_;rw[Cx (Aaq.2 hi)]
  ·show (if _ then _ else _)=_;rw[Br (fun hq=>hi (Aaq.1 hq))]
 have hβbs:∀j,(∃bx,(o.dst.getD N+N*j,bx)∈bs)->β1 (o.dst.getD N+N*j)=own (0+j):=by
  intro j hj;rw[hβ1 _ hj,Nat.add_sub_cancel_left,Nat.mul_div_cancel_left _ hN,Ip]
 have hqb:∀q∈qs,∃bx,(q.1,bx)∈bs':=by
  intro q hq;have:q.1∈bs'.map (·.1):=by rw[hbq];exact List.mem_map_of_mem hq
  obtain⟨⟨i,bx⟩,hm,e⟩:=List.mem_map.1 this;exact⟨bx,e ▸ hm⟩
 have Bgo:∀i bx,(i,bx)∈bs'->∃j,(i,j)∈qs:=by
  intro i bx hm;have:i∈qs.map (·.1):=by rw[<-hbq];exact List.mem_map.2 ⟨_,hm,rfl⟩
  obtain⟨⟨i',j⟩,hm,e⟩:=List.mem_map.1 this;exact⟨j,e ▸ hm⟩
 have hbb:∀i,(∃bx,(i,bx)∈bs')->¬∃bx,(i,bx)∈bs:=by
  rintro i ⟨bx,hm⟩ ⟨bx',M8⟩
  exact Bcg i (List.mem_map.2 ⟨_,M8,rfl⟩) i (List.mem_map.2 ⟨_,hm,rfl⟩) rfl
 have hβqs:∀q∈qs,β1 q.1=own q.2:=by
  intro q hq;rw[hβ2 q.1 (hbb q.1 (hqb q hq)),Aqo A56 q hq]
 have hβold:∀i,D1 i≠none->β1 i=β i:=by
  intro i hi
  have hn1:¬∃bx,(i,bx)∈bs:=by
   rintro⟨bx,hm⟩
   exact hi (ha1 i bx (Bx.2 (.inl hm)))
  rw[hβ2 i hn1,Ads];intro hm;obtain⟨q,hq,e⟩:=List.mem_map.1 hm;obtain⟨bx,Pm⟩:=hqb q hq;exact hi (ha1 i bx (Bx.2 (.inr (e ▸ Pm))))
 obtain⟨X5,hba⟩:=hws w' _ own β1 w.heap.size 0 us hβbs out.vals;obtain⟨Bdu,A8n⟩:=ZI w' _ own β1 bt hβqs (fun i=>DX i 0) out.outs
 have A0j:∀id∈lids,∃y∈l,id∈y.ids:=by
  intro id B1;rw[<-TT] at B1;exact List.mem_flatMap.1 B1
 have Av5:∀id∈lids,(∃off c cs,s.hp id=some (.st c)/\D1 id=some (.st (B5 c cs off))/\off+cs.length<=c.length/\(∀p∈cs,∀i∈At p,∃bx,(i,bx)∈bs'))\/∃c cs,s.hp id=some (.ar false c)/\D1 id=some (.ar false cs):=by
  intro id B1;obtain⟨y,hy,hyi⟩:=A0j id B1;have h1:=hsh y hy;cases y with
  |var id' off cts ws'=>
   simp only[Ih.ids,R8] at hyi;subst hyi;obtain⟨c1,cs,h2,h3,h4,h5,h6⟩:=h1;rw[Aj7 id B1] at h2;exact .inl ⟨off,c1,cs,h2,h3,h5,h6⟩
  |row id'=>
   simp only[Ih.ids,R8] at hyi;subst hyi;obtain⟨c1,cs,h2,h3⟩:=h1;rw[Aj7 id B1] at h2;exact .inr ⟨c1,cs,h2,h3⟩
  |none=>simp[Ih.ids] at hyi
 have Bfe:∀id∈lids,D1 id≠none:=by
  intro id B1;rcases Av5 id B1 with⟨_,_,_,_,h2,_⟩|⟨_,_,_,h2⟩<;>rw[h2]<;>simp
 have hpK:∀id,id ∉ lids->D1 id=Yv (Af s.hp m) x id:=fun id B1=>O5 id B1
 have Gz:∀i,s.hp i≠none->D1 i≠none:=by
  intro i hi;by_cases hl:i∈lids
  ·exact Bfe i hl
  ·rw[hpK i hl,Hc];have h1:Af s.hp m i≠none:=fun e=>hi (E7.1 e);split
   ·cases hq:Af s.hp m i with
    |none=>exact absurd hq h1
    |some b=>simp
   ·exact h1
 have Awy:∀i,(s.hp i≠none\/∃bx,(i,bx)∈bs++bs')->Av D1 (bs++bs') i≠none:=by
  rintro i (hi|⟨bx,hm⟩)
  ·have h1:=Gz i hi;rw[hg2 i (fun bx hm=>h1 (ha1 i bx hm))];exact h1
  ·rw[hg1 i bx hm];simp
 have Jf:∀id,(∃bx,(id,bx)∈bs++bs')\/Av D1 (bs++bs') id=D1 id:=fun id=>by
  by_cases hx:∃bx,(id,bx)∈bs++bs'
  ·exact .inl hx
  ·exact .inr (hg2 id fun bx hb=>hx ⟨bx,hb⟩)
 have hold:∀id bx,D1 id=some bx->D3 (some bx)->D3 (s.hp id)/\id ∉ x/\(id∈lids\/(id ∉ lids/\Af s.hp m id=some bx)):=by
  intro id bx hb hl;by_cases B1:id∈lids
  ·exact⟨FF id (.inl B1),hlx id B1,.inl B1⟩
  ·rw[hpK id B1,Hc] at hb;split at hb
   ·cases hq:Af s.hp m id with
    |none=>rw[hq] at hb;cases hb
    |some b=>rw[hq] at hb;simp at hb;subst hb;exact hl.elim
   ·rename_i hxn;exact⟨by rw[Lw hb hl];exact hl,hxn,.inr ⟨B1,hb⟩⟩
 have DF:∀i bx,(i,bx)∈bs++bs'->∃j,β1 i=own j/\((i=o.dst.getD N+N*j/\j<Pq rv)\/((i,j)∈qs/\Pq rv<=j)):=by
  intro i bx hm;rcases Bx.1 hm with hm|hm
  ·obtain⟨⟨j,rfl,hj⟩,_⟩:=hba i bx hm;exact⟨j,by rw[hβbs j ⟨bx,hm⟩,Ip],.inl ⟨rfl,hj⟩⟩
  ·obtain⟨j,hj⟩:=Bgo i bx hm;exact⟨j,hβqs _ hj,.inr ⟨hj,(MR _ hj).2⟩⟩
 have A0u:∀i bx,(i,bx)∈bs++bs'->D3 (some bx)/\V3 w' (QQ bt own Yc) β1 i bx/\∀cs,bx=.st cs->∀b ob,β1 i=some (b,ob)->w.heap.size<=b:=by
  intro i bx hm;rcases Bx.1 hm with hm|hm
  ·exact (hba i bx hm).2
  ·obtain⟨cc,rfl⟩:=F3 i bx hm;exact⟨trivial,Bdu i _ hm,fun cs e=>by cases e⟩
 have A10:∀b,(∃i k o',bt i (k+1)=some (b,o'))->∃id o',id∈x/\β id=some (b,o'):=by
  rintro b ⟨i,k,o',hb⟩
  obtain⟨id,off,o1,h1,h2,_,_⟩:=btS hb;exact⟨id,o1,(hS.mvd i k id off h1).2,h2⟩
 have hX:∀b,b<w.heap.size->ZF (Av D1 (bs++bs')) β1 b->ZF s.hp β b:=by
  rintro b hb ⟨id,ob,hl,hβ⟩
  rcases Jf id with⟨bx,hm⟩|e
  ·obtain⟨j,hj,_⟩:=DF id bx hm;rw[hj] at hβ;obtain⟨id',o',h1,h2⟩:=A10 b ((out.fresh j b ob hβ).2 hb).1;exact⟨id',o',FF id' (.inr h1),h2⟩
  ·rw[e] at hl;cases hq:D1 id with
   |none=>rw[hq] at hl;exact hl.elim
   |some bx=>
    rw[hq] at hl;exact⟨id,ob,(hold id bx hq hl).1,by rw[<-hβold id (by rw[hq];simp)];exact hβ⟩
 have hAo:∀b,b<w.heap.size->D2 (Av D1 (bs++bs')) β1 Y b->D2 s.hp β Y b:=fun b hb hA=>hA.imp (hX b hb) id
 have hAO:∀b,D2 (Av D1 (bs++bs')) β1 Y b->QQ bt own Yc b:=by
  rintro b (⟨id,ob,hl,hβ⟩|hY)
  ·rcases Jf id with⟨bx,hm⟩|e
   ·obtain⟨j,hj,_⟩:=DF id bx hm;rw[hj] at hβ;exact .inl ⟨j,ob,hβ⟩
   ·rw[e] at hl;cases hq:D1 id with
    |none=>rw[hq] at hl;exact hl.elim
    |some bx=>
     rw[hq] at hl;rw[hβold id (by rw[hq];simp)] at hβ
     obtain⟨h1,h2,h3⟩:=hold id bx hq hl;rcases h3 with h3|⟨h3,h4⟩
     ·obtain⟨_,i,off,hs⟩:=An1 id h3;exact .inr (.inl ⟨i,ob+off,by rw[DX,hs];simp[Is,hβ]⟩)
     ·exact .inr (.inr ((hYc b).2 (.inl ⟨id,ob,by rw[h4];exact hl,hβ,h3,h2⟩)))
  ·exact .inr (.inr ((hYc b).2 (.inr hY)))
 have Hr:Ct (D2 s.hp β Y) w w':=out.ext.weaken (fun b _ hb=>.inl (hBA b hb));have Awd:∀i,s.hp i≠none->β1 i=β i:=fun i hi=>hβold i (Gz i hi)
 have hCL:∀b j,PY bt vs b j->∃id o' bx,s.hp id=some bx/\D3 (some bx)/\β id=some (b,o')/\BR bx o' j:=by
  rintro b j ⟨i,p,hp,⟨k,ob,hb,ET⟩|⟨ob,ps,hb,ET,Vm⟩⟩
  ·obtain⟨id,off,o',h1,h2,h3,_⟩:=btS hb;obtain⟨h5,h6⟩:=hS.mvd i k id off h1;obtain⟨cc,hcc⟩:=hx id h6;exact⟨id,o',_,hcc,trivial,h2,show o'<=j by omega⟩
  ·obtain⟨id,off,o',h1,h2,h3,_⟩:=btS hb;rcases Aui hL i p id off hp (by rw[Ip];exact h1) with⟨c1,wz,h5,h6,h7⟩|⟨⟨c1,h5⟩,_⟩
   ·rcases Vm with⟨h8,h9⟩|h8
    ·rw[h6] at h8;cases h8;exact⟨id,o',_,h5,trivial,h2,show o'<=j/\j<o'+c1.length by omega⟩
    ·rw[h6] at h8;cases h8
   ·exact⟨id,o',_,h5,trivial,h2,show o'<=j by omega⟩
 have hnL:∀id off cts wz,Ih.var id off cts wz∈l->id∈lids->∀b ob,β id=some (b,ob)->∀j,(j<off\/off+wz.length<=j)->(∃c1,s.hp id=some (.st c1))->¬PY bt vs b (ob+j):=by
  rintro id off cts wz hy B1 b ob hβ j hj ⟨c1,TB⟩ ⟨i,p,hp,⟨k,ob',hb,ET⟩|⟨ob',ps,hb,ET,Vm⟩⟩
  ·obtain⟨id',off',o',h1,h2,h3,h4⟩:=btS hb;have:=h.inj id id' b ob o' (FF id (.inl B1)) (FF id' h4) hβ h2;subst this;exact hlx id B1 (hS.mvd i k id off' h1).2
  ·obtain⟨id',off',o',h1,h2,h3,h4⟩:=btS hb;have:=h.inj id id' b ob o' (FF id (.inl B1)) (FF id' h4) hβ h2;subst this;rw[hβ] at h2;cases h2;obtain⟨k,E8,F2⟩:=Acy hL hy;rw[Ip] at F2;have hik:=hS.inj0 hnl i k id off' off h1 F2;subst hik;rw[h1] at F2;cases F2;rw[hp] at E8;cases E8;rcases Vm with⟨h8,h9⟩|h8
   ·cases h8;omega
   ·cases h8
 have hval:Fn w' (D2 (Av D1 (bs++bs')) β1 Y) β1 (Rw ws (Tr P o.type)) (J9 us):=by
  have Sv:Bj (Ju w' (D2 (Av D1 (bs++bs')) β1 Y) β1) ws us:=X5.mono fun v u hvu=>hvu.step (Ct.refl _ _) (fun b _=>hAO b) (fun _ _=>rfl);have Eh:=Sv.len;cases hT:Tr P o.type
  ·rw[hT] at U8;have h1:ws.length=1:=Dc U8
   match ws,us,h1,Eh with
   |[v],[u],_,_=>
    exact (Sz (hnt v (by simp))).2 Sv.1
  ·rw[hT] at U8
   have h1:¬ws.length=1:=by
    intro e;rw[e] at U8;cases U8
   have hr:J9 us=.tuple ⟨us⟩:=by
    unfold J9;split
    ·simp at Eh;omega
    ·rfl
   rw[hr];exact⟨us,rfl,Sv⟩
 have hvr:∀i∈Ci (Rw ws (Tr P o.type)),∃bx,(i,bx)∈bs:=by
  intro i hi;cases hT:Tr P o.type
  ·rw[hT] at U8 hi;have h1:ws.length=1:=Dc U8
   match ws,h1 with
   |[v],_=>
    refine hrs v (by simp) i ?_
    have:Ci v=Cy v:=by
     have hn:=hnt v (by simp);cases v<;>first|rfl|exact absurd rfl (hn _)
    rw[<-this];exact hi
  ·rw[hT] at hi;obtain⟨v,hv,hi⟩:=List.mem_flatMap.1 (show i∈ws.flatMap Cy from hi);exact hrs v hv i hi
 refine hn _ w' β1 ?_;refine⟨by rw[Wa];exact h.dfr,by rw[EI];exact h.tsz,Aaf Alr h.tmo,?_,?_,?_,?_,?_,?_,?_,?_,?_,?_,?_,h.Ylt,?_⟩
 ·refine S5 (Q:=fun _ p u=>Fn w' (D2 (Av D1 (bs++bs')) β1 Y) β1 p u) h.tsz Alr (fun i hi=>?_) (fun _=>hval);exact (h.tms i hi).step Hr hAo fun id B1=>Awd id (h.wfT i hi id B1)
 ·intro id bx hb;simp only at hb;rcases Jf id with⟨bx',M8⟩|e
  ·rw[hg1 id bx' M8] at hb;cases hb;exact (A0u id _ M8).2.1.step' hAO
  ·rw[e] at hb;have hβ:=hβold id (by rw[hb];simp)
   by_cases B1:id∈lids
   ·obtain⟨y,hy,hyi⟩:=A0j id B1;have h1:=A8n y hy;cases y with
    |var id' off cts wz=>
     simp only[Ih.ids,R8] at hyi;subst hyi;obtain⟨c1,cs,h2,h3,h4,h5,h6⟩:=h1;rw[Aj7 id B1] at h2;rw[h3] at hb;cases hb;obtain⟨b,ob,h7,h8,h9⟩:=h.box id _ h2;obtain⟨h10,h11⟩:=h6 b ob h7;have Cq:=h.blt id b ob (by rw[h2];simp) h7
     have LJ:∀j,(j<off\/off+wz.length<=j)->w'.cell? ⟨b,ob+j,none⟩=w.cell? ⟨b,ob+j,none⟩/\w'.frozen? ⟨b,ob+j,none⟩=w.frozen? ⟨b,ob+j,none⟩:=
      fun j hj=>out.rng b (ob+j) Cq (hnL id off cts wz hy B1 b ob h7 j hj ⟨c1,h2⟩)
     refine⟨b,ob,hβ.trans h7,fun j p hj=>?_,fun j hj=>?_⟩
     ·rcases V8 (by omega) hj with⟨h12,h13,h14⟩|⟨h12,h14⟩
      ·obtain⟨v,hv,hcr⟩:=h10 _ _ h14;refine⟨v,?_,hcr.step (Ct.refl _ _) (fun b _=>hAO b) (fun _ _=>rfl)⟩;rw[show ob+j=ob+off+(j-off) by omega];exact hv
      ·obtain⟨v,hv,hcr⟩:=h8 _ _ h14;refine⟨v,by rw[(LJ j (by omega)).1];exact hv,hcr.step Hr hAo fun i hi=>Awd i (h.wfB id c1 h2 p (List.mem_of_getElem? h14) i hi)⟩
     ·rw[Wq (by omega)] at hj;by_cases HX:off<=j/\j<off+cs.length
      ·have:=h11 (j-off) (by omega);rw[show ob+off+(j-off)=ob+j by omega] at this;exact this
      ·rw[(LJ j (by omega)).2];exact h9 j hj
    |row id'=>
     simp only[Ih.ids,R8] at hyi;subst hyi;obtain⟨cs,h3,h4⟩:=h1;rw[h3] at hb;cases hb;rcases h4 with⟨h5,h6⟩|⟨b,ob,h5,h6,h7⟩
     ·exact .inl ⟨hβ.trans h5,h6⟩
     ·exact .inr ⟨b,ob,hβ.trans h5,h6.weak (fun b _=>hAO b),fun _=>h7,(fun q=>by cases q)⟩
    |none=>simp[Ih.ids] at hyi
   ·rw[hpK id B1,Hc] at hb;split at hb
    ·cases hq:Af s.hp m id with
     |none=>rw[hq] at hb;cases hb
     |some b0=>rw[hq] at hb;simp at hb;subst hb;trivial
    ·rename_i hxn;have Pm:=hf.box id bx hb
     have Auf:∀b ob,β id=some (b,ob)->bx ≠ .mv->b<w.heap.size/\w'.heap[b]?=w.heap[b]?:=by
      intro b ob ZE hmv;have Cq:=hf.blt id b ob (by show Af s.hp m id≠none;rw[hb];simp) ZE
      refine⟨Cq,out.ext.keep b Cq fun hB=>?_⟩;obtain⟨id',o',h1,h2⟩:=btX hB;have N2:D3 (Af s.hp m id'):=by rw[UJ id' h2];exact FF id' h2
      have ZW:id≠id':=by
       rintro rfl
       rcases h2 with h2|h2
       ·exact B1 h2
       ·exact hxn h2
      cases bx with
      |st cc=>exact ZW (hf.inj id id' b ob o' (by show D3 (Af s.hp m id);rw[hb];trivial) N2 ZE h1)
      |ar fz cc=>
       cases fz with
       |false=>exact ZW (hf.inj id id' b ob o' (by show D3 (Af s.hp m id);rw[hb];trivial) N2 ZE h1)
       |true=>
        rcases Pm with⟨h3,_⟩|⟨b2,o2,h3,_,_,h4⟩
        ·rw[ZE] at h3;cases h3
        ·rw[ZE] at h3;cases h3;exact h4 rfl (.inl ⟨id',o',N2,h1⟩)
      |mv=>exact hmv rfl
     have hAoF:∀b,b<w.heap.size->D2 (Av D1 (bs++bs')) β1 Y b->D2 (Af s.hp m) β Y b:=by
      intro b F3 hA;rcases hA with⟨i,ob,hl,hβi⟩|hY
      ·rcases Jf i with⟨bx1,TY⟩|e1
       ·obtain⟨j,hj,_⟩:=DF i bx1 TY;rw[hj] at hβi;obtain⟨id',o',h1,h2⟩:=A10 b ((out.fresh j b ob hβi).2 F3).1;exact .inl ⟨id',o',by rw[UJ id' (.inr h1)];exact FF id' (.inr h1),h2⟩
       ·rw[e1] at hl;cases hq:D1 i with
        |none=>rw[hq] at hl;exact hl.elim
        |some bx1=>
         rw[hq] at hl;rw[hβold i (by rw[hq];simp)] at hβi
         obtain⟨h1,h2,h3⟩:=hold i bx1 hq hl;rcases h3 with h3|⟨h3,h4⟩
         ·exact .inl ⟨i,ob,by rw[UJ i (.inl h3)];exact h1,hβi⟩
         ·exact .inl ⟨i,ob,by rw[h4];exact hl,hβi⟩
      ·exact .inr hY
     have A8b:Ct (D2 (Af s.hp m) β Y) w w':=out.ext.weaken (fun b _ hB=>by
      obtain⟨id',o',h1,h2⟩:=btX hB;exact .inl ⟨id',o',by rw[UJ id' h2];exact FF id' h2,h1⟩)
     cases bx with
     |st cc=>
      obtain⟨b,ob,h1,h2,h3⟩:=Pm;obtain⟨Cq,Wn⟩:=Auf b ob h1 (by simp);refine⟨b,ob,hβ.trans h1,fun j p hj=>?_,fun j hj=>?_⟩
      ·obtain⟨v,hv,hcr⟩:=h2 j p hj;refine⟨v,by rw[World.cell?_of_block (w:=w) Wn];exact hv,hcr.step A8b hAoF fun i hi=>?_⟩
       refine Awd i (fun e1=>?_);exact hf.wfB id cc hb p (List.mem_of_getElem? hj) i hi (E7.2 e1)
      ·rw[World.frozen?_of_block (w:=w) Wn];exact h3 j hj
     |ar fz cc=>
      rcases Pm with⟨h1,h2⟩|⟨b,ob,h1,h2,h3,h4⟩
      ·exact .inl ⟨hβ.trans h1,h2⟩
      ·obtain⟨Cq,Wn⟩:=Auf b ob h1 (by simp);have hbs:bsz w' b=bsz w b:=by unfold bsz;rw[Wn]
       refine .inr ⟨b,ob,hβ.trans h1,fun j p hj=>?_,fun e1 j hj Ya=>?_,fun e1 q=>h4 e1 (hAoF b Cq q)⟩
       ·obtain⟨v,hv,h5,TB⟩:=h2 j p hj;exact⟨v,by rw[World.cell?_of_block (w:=w) (by rw[F4];exact Wn)];exact hv,h5,TB.step A8b hAoF⟩
       ·rw[World.frozen?_of_block (w:=w) Wn];exact h3 e1 j hj (by rw[<-hbs];exact Ya)
     |mv=>trivial
 ·intro id id' b ob ob' hl N2 hb Jz;simp only at hl N2
  have mixed:∀i bx i' k z,(i,bx)∈bs++bs'->β1 i=some (k,z)->D1 i'≠none->D3 (D1 i')->∀z',β1 i'=some (k,z')->False:=by
   intro i bx i' k z TY hz hn1 QF z' hz';obtain⟨j,hj,_⟩:=DF i bx TY;rw[hj] at hz;rw[hβold i' hn1] at hz';cases hq:D1 i' with
   |none=>exact hn1 hq
   |some bx1=>
    rw[hq] at QF;obtain⟨h1,h2,h3⟩:=hold i' bx1 hq QF;have Cq:=h.blt i' k z' (Dp h1) hz';obtain⟨id2,o2,h4,h5⟩:=A10 k ((out.fresh j k z hz).2 Cq).1;have:=h.inj i' id2 k z' o2 h1 (FF id2 (.inr h4)) hz' h5;subst this;exact h2 h4
  rcases Jf id with⟨bx,TY⟩|e1
  ·rcases Jf id' with⟨bx',hm2⟩|e2
   ·obtain⟨j,hj,Vm⟩:=DF id bx TY;obtain⟨j',Ya,A83⟩:=DF id' bx' hm2;rw[hj] at hb;rw[Ya] at Jz;have:=out.inj j j' b ob ob' hb Jz;subst this;rcases Vm with⟨h1,h2⟩|⟨h1,h2⟩
    ·rcases A83 with⟨h3,_⟩|⟨_,h4⟩
     ·rw[h1,h3]
     ·omega
    ·rcases A83 with⟨_,h4⟩|⟨h3,_⟩
     ·omega
     ·exact Ot _ h1 _ h3 rfl
   ·rw[e2] at N2;exact (mixed id bx id' b ob TY hb (Dp N2) N2 ob' Jz).elim
  ·rw[e1] at hl;rcases Jf id' with⟨bx',hm2⟩|e2
   ·exact (mixed id' bx' id b ob' hm2 Jz (Dp hl) hl ob hb).elim
   ·rw[e2] at N2
    have g:∀i,D3 (D1 i)->D3 (s.hp i)/\β1 i=β i:=by
     intro i hli;cases hq:D1 i with
     |none=>rw[hq] at hli;exact hli.elim
     |some bx1=>exact⟨(hold i bx1 hq (by rw[<-hq];exact hli)).1,hβold i (by rw[hq];simp)⟩
    rw[(g id hl).2] at hb;rw[(g id' N2).2] at Jz;exact h.inj id id' b ob ob' (g id hl).1 (g id' N2).1 hb Jz
 ·intro id b ob hn1 hb;simp only at hn1;rcases Jf id with⟨bx,TY⟩|e1
  ·obtain⟨j,hj,_⟩:=DF id bx TY;rw[hj] at hb;exact (out.fresh j b ob hb).1
  ·rw[e1] at hn1;rw[hβold id hn1] at hb
   have hn2:s.hp id≠none:=by
    by_cases B1:id∈lids
    ·exact Dp (FF id (.inl B1))
    ·rw[hpK id B1,Hc] at hn1;intro e2;have h1:Af s.hp m id=none:=E7.2 e2;rw[h1] at hn1;split at hn1<;>exact hn1 rfl
   exact Gf (h.blt id b ob hn2 hb) out.ext.size
 ·have:=S5 (Q:=fun _ p _=>∀id∈Ci p,Av D1 (bs++bs') id≠none) (val:=J9 us) (d:=o.dst) (v:=Rw ws (Tr P o.type)) h.tsz Alr (fun i hi id B1=>Awy id (.inl (h.wfT i hi id B1))) (fun _ id B1=>Awy id (.inr (by
   obtain⟨bx,hb⟩:=hvr id B1;exact⟨bx,Bx.2 (.inl hb)⟩)))
  exact this
 ·intro id cells Abg p hp i hi;simp only at Abg;refine Awy i ?_;rcases Jf id with⟨bx,TY⟩|e1
  ·rw[hg1 id bx TY] at Abg;cases Abg;rcases Bx.1 TY with TY|TY
   ·obtain⟨bx1,hb⟩:=hri id cells TY p hp i hi;exact .inr ⟨bx1,Bx.2 (.inl hb)⟩
   ·obtain⟨cc,e2⟩:=F3 id _ TY;cases e2
  ·rw[e1] at Abg;by_cases B1:id∈lids
   ·rcases Av5 id B1 with⟨off,c1,cs,h1,h2,h3,h4⟩|⟨c1,cs,h1,h2⟩
    ·rw[h2] at Abg;cases Abg;unfold B5 at hp;rcases Bx.1 hp with hp|hp
     ·rcases Bx.1 hp with hp|hp
      ·exact .inl (h.wfB id c1 h1 p (List.mem_of_mem_take hp) i hi)
      ·obtain⟨bx1,hb⟩:=h4 p hp i hi;exact .inr ⟨bx1,Bx.2 (.inr hb)⟩
     ·exact .inl (h.wfB id c1 h1 p (List.mem_of_mem_drop hp) i hi)
    ·rw[h2] at Abg;cases Abg
   ·obtain⟨_,_,h3⟩:=hold id _ Abg trivial;rcases h3 with h3|⟨_,h3⟩
    ·exact absurd h3 B1
    ·exact .inl (h.wfB id cells (Lw h3 trivial) p hp i hi)
 ·rintro b ⟨id,ob,hl,hβ⟩
  rcases Ik b w.heap.size with Cq|hge
  ·exact h.ownd b (hX b Cq ⟨id,ob,hl,hβ⟩)
  ·exact .inr (Nat.le_trans h.fr.step.size hge)
 ·intro id bx b ob hb hl hβ Cq j hj;simp only at hb;have hlw:=Gf Cq h.fr.step.size;rcases Jf id with⟨bx',TY⟩|e1
  ·rw[hg1 id bx' TY] at hb;cases hb;obtain⟨k,hk,_⟩:=DF id bx TY;rw[hk] at hβ
   have ET:ob<=j:=by
    cases bx with
    |st cc=>exact hj.1
    |ar fz cc=>exact hj
    |mv=>exact hl.elim
   obtain⟨id2,o2,bx2,h1,h2,h3,h4⟩:=hCL b j (((out.fresh k b ob hβ).2 hlw).2 j ET);exact h.rngB id2 bx2 b o2 h1 h2 h3 Cq j h4
  ·rw[e1] at hb;rw[hβold id (by rw[hb];simp)] at hβ
   obtain⟨h1,h2,h3⟩:=hold id bx hb hl;rcases h3 with h3|⟨h3,h4⟩
   ·rcases Av5 id h3 with⟨off,c1,cs,h5,h6,h7,_⟩|⟨c1,cs,h5,h6⟩
    ·rw[h6] at hb;cases hb;have hj:ob<=j/\j<ob+(B5 c1 cs off).length:=hj;rw[Wq (by omega)] at hj;exact h.rngB id _ b ob h5 trivial hβ Cq j hj
    ·rw[h6] at hb;cases hb;exact h.rngB id _ b ob h5 trivial hβ Cq j hj
   ·exact h.rngB id bx b ob (Lw h4 hl) hl hβ Cq j hj
 ·intro i hi;obtain⟨h1,h2⟩:=h.pin i hi;exact⟨Awy _ (.inl h1),by rw[Awd _ h1];exact h2⟩
 ·intro id cc b ob hb hβ Cq;simp only at hb;have hlw:=Gf Cq h.fr.step.size;rcases Jf id with⟨bx',TY⟩|e1
  ·rw[hg1 id bx' TY] at hb;cases hb;have:=(A0u id _ TY).2.2 cc rfl b ob hβ;omega
  ·rw[e1] at hb;rw[hβold id (by rw[hb];simp)] at hβ
   obtain⟨h1,h2,h3⟩:=hold id _ hb trivial;rcases h3 with h3|⟨h3,h4⟩
   ·rcases Av5 id h3 with⟨off,c1,cs,h5,h6,h7,_⟩|⟨c1,cs,h5,h6⟩
    ·exact h.stp id c1 b ob h5 hβ Cq
    ·rw[h6] at hb;cases hb
   ·exact h.stp id cc b ob (Lw h4 trivial) hβ Cq
 ·intro b hY hXb;exact h.Yx b hY (hX b (Gf (h.Ylt b hY) h.fr.step.size) hXb)
 ·refine⟨out.os.trans h.fr.os,out.tape.trans h.fr.tape,out.output.trans h.fr.output,⟨Nat.le_trans h.fr.step.size out.ext.size,fun b hb hnX=>?_,fun b hb=>(h.fr.step.bs b hb).trans (out.ext.bs b (Gf hb h.fr.step.size))⟩,fun b j hb hnL=>?_⟩
  ·rw[out.ext.keep b (Gf hb h.fr.step.size) ?_]
   ·exact h.fr.step.keep b hb hnX
   ·intro hB;rcases h.ownd b (hBA b hB) with hq|hq
    ·exact hnX hq
    ·omega
  ·have ZW:¬PY bt vs b j:=by
    intro hq;obtain⟨id2,o2,bx2,h1,h2,h3,h4⟩:=hCL b j hq;exact hnL (h.rngB id2 bx2 b o2 h1 h2 h3 hb j h4)
   obtain⟨h1,h2⟩:=out.rng b j (Gf hb h.fr.step.size) ZW;rw[h1,h2];exact h.fr.rng b j hb hnL
end
open Go.RowKit
section
variable {R:Type}{r:R}{P:Program}{N:Nat}{w0:World}{X0:J8}{Y:Nat->Prop}{β β':Bt}{s:St}{a:Act}{w w':World}{o:Oper}{A:Nat->Prop}
theorem YP(h:Di N w0 X0 Y β s a w){c:Call}(ho:o.op=.call c)(hc:c.callee=.builtin .append){d:Nat}(Alr:o.dst=some d){b x:Operand}(F6:c.args.toList=[b,x]){t tx:TypeId}{ts:List TypeId}(LX:c.argTypes.toList=t::tx::ts){K:St->Option R}(hk:Z7 P N s d t tx (Cp s.tm b) (Cp s.tm x) K=some r):
  ∃s',K s'=some r/\∀(next:Act->World->Prop) (Q:Exit->Act->World->Prop),(∀a' w' β',Di N w0 X0 Y β' s' a' w'->next a' w')->o.wp P a w next Q:=by
 have OS:c.args = #[b,x]:=by
  have:c.args=([b,x]:List Operand).toArray:=by rw[<-F6]
  exact this
 have Ae6:c.argTypes=(t::tx::ts).toArray:=by rw[<-LX]
 have run:∀{v:Value} {w1:World},(Builtin.append_ (t::tx::ts).toArray o.type #[a.eval b,a.eval x]).run P w=.ok v w1->∀(next:Act->World->Prop) (Q:Exit->Act->World->Prop),next (a.put (some d) v) w1->o.wp P a w next Q:=by
  intro v w1 hr next Q hn;unfold Oper.wp execOp;rw[ho];simp only[resolve,hc,invoke,builtin,Sem.run_bind,Sem.run_pure,Result.andThen_ok,OS,Ae6];have:(#[b,x]:Array Operand).map a.eval = #[a.eval b,a.eval x]:=by simp
  rw[this,hr];show next (a.put o.dst v) w1;rw[Alr];exact hn
 have hbv:=Dr h b;have hbr:=F7 h b;unfold Z7 at hk;split at hk
 ·rename_i e hu;obtain⟨hzi,hk⟩:=Am hk;obtain⟨i,z,hi,hz,hzs,Tq⟩:=RJ hzi;cases hit:NP P tx
  rotate_left
  ·rw[hit] at hk;simp only[cond_true] at hk
   obtain⟨ki,htx⟩:∃k,P.underlying tx=some (.int k):=by
    unfold NP at hit;split at hit
    ·exact⟨_,by assumption⟩
    ·cases hit
   unfold FT at hk;obtain⟨kx,n,hx,hk⟩:=Ep hk;obtain⟨zz,n',c',hk,hp⟩:=H4 hk;obtain⟨hb,hk⟩:=Am hk;simp only[E0,Yd] at hb;obtain⟨⟨⟨⟨⟨hzz,hdN⟩,BA⟩,IA⟩,hby⟩,TS⟩:=hb;have hdN:d<N:=Nat.lt_of_succ_le (Pf hdN);have BA:s.hp d=none:=by simpa using BA
   have Ag4:Hx N (some d)=true:=by simp[Hx,Nat.blt];omega
   have Zt:((P.info? e).map (·.bytes)).getD 0=i.bytes:=by rw[hi];rfl
   rw[Zt] at hby;rw[Tq] at hk;have Ed:=Co h hx;rcases H1 hp hbv with⟨Ui,_⟩|⟨_,_,_,PS,_⟩|⟨_,_,_,PS,_⟩
   ·refine⟨_,hk,fun next Q hn=>?_⟩;by_cases hm0:n=0
    ·subst hm0;have hr:=IX (P:=P) (w:=w) (t:=t) (tx:=tx) (ty:=o.type) (ts:=ts) (kx:=kx) hu htx hi;rw[<-Ui,<-Ed] at hr;refine run hr next Q (hn _ _ (Db β d none) ?_);rw[Ui];refine h.stepR (d:=some d) (nw:=[(d,.ar false [])]) (β':=Db β d none) Ag4 (by simp[Ca,BA]) ⟨rfl,rfl,rfl,Ct.refl _ _,fun j hj=>Al _ _ (by rintro rfl;exact hj BA),?_,?_,?_,?_,?_,.inl ⟨An _ _ _,rfl,rfl,none,rfl⟩,?_⟩
     ·intro j bx hm;simp at hm;rw[hm.2];trivial
     ·intro j bx hm;simp at hm;obtain⟨rfl,rfl⟩:=hm;exact .inl ⟨An _ _ _,rfl⟩
     ·intro j bx k q hm hq;simp at hm;obtain⟨rfl,rfl⟩:=hm;rw[An] at hq;cases hq
     ·intro j bx j' bx' k q q' hm M8 _ _;simp at hm M8;rw[hm.1,M8.1]
     ·intro j cells hm;simp at hm
     ·intro j hj;simp[Ci,Cy,At] at hj;subst hj;exact .inr ⟨.ar false [],by simp⟩
    ·have hr:=MW (P:=P) (w:=w) (t:=t) (tx:=tx) (ty:=o.type) (ts:=ts) (kx:=kx) hu htx hi hz (n:=n) (by omega) hby TS;rw[<-Ui,<-Ed] at hr;refine run hr next Q (hn _ _ (Db β d (some (w.heap.size,0))) ?_);have hge:n.toNat<=grownCap w n.toNat 0 e:=grownCap_ge w n.toNat 0 e;generalize LI:((if n.toNat*i.size=0 then #[] else Builtin.zeroCells z.cells n.toNat)++Builtin.zeroCells z.cells (grownCap w n.toNat 0 e-n.toNat))=cs
     have DP:Ht w (w.drew.alloc (.cells cs e)) cs e:=
      ⟨rfl,rfl,rfl,fun k hk=>Below.heap_alloc w.drew _ k hk,by show (w.heap.push _).size=_;simp,(0,0),by show (w.heap.push _)[w.heap.size]?=_;simp,.inl rfl⟩
     have Ahx:cs.size=grownCap w n.toNat 0 e*i.size:=by
      rw[<-LI];by_cases hs0:n.toNat*i.size=0
      ·rw[Cx hs0]
       have hi0:i.size=0:=by
        rcases Nat.mul_eq_zero.1 hs0 with h|h
        ·omega
        ·exact h
       simp[size_zeroCells,hzs,hi0]
      ·rw[Br hs0];simp only[Array.size_append,size_zeroCells,hzs,<-Nat.add_mul]
       congr 1
       omega
     refine h.stepR (d:=some d) (nw:=[(d,.ar false [])]) Ag4 (by simp[Ca,BA]) (Vh DP BA trivial ?_ (fun cells hx=>by cases hx) ?_ (by intro j hj;simp[Ci,Cy,At] at hj;exact .inr hj))
     ·refine .inr ⟨w.heap.size,0,An _ _ _,fun j p hj=>by simp at hj,fun _ j _ hj=>?_,(fun q=>by cases q)⟩;rw[DP.bsz] at hj;exact DP.frozen hj
     ·refine .inr ⟨w.heap.size,0,0,grownCap w n.toNat 0 e,An _ _ _,rfl,.inl rfl,hge,?_,by rw[DP.size];omega⟩
      exact⟨by rw[DP.bsz,Ahx];omega,.inr (N6 w.drew _ e)⟩
   ·rw[PS] at hzz;cases hzz
   ·rw[PS] at hzz;cases hzz
  rw[hit] at hk;simp only[cond_false] at hk;have Zt:((P.info? e).map (·.bytes)).getD 0=i.bytes:=by rw[hi];rfl
  obtain⟨⟨dx,hdx,Ae4⟩,m,new,news,hk,hs⟩:=QM h hk (by
   intro m new hk;split at hk
   ·split at hk
    ·obtain⟨hb,_⟩:=Am hk;simp only[E0,Yd] at hb;have he:=Dc hb.1.1.1.1.1.1.1;rw[<-he];exact hb.1.1.2
    ·cases hk
   ·obtain⟨zz,n',c',hk,_⟩:=H4 hk;obtain⟨hb,_⟩:=Am hk;simp only[E0,Yd] at hb;exact hb.1.1.2)
  rw[Tq] at hs;have hnl:new.length=news.length:=hs.rep.len;split at hk
  ·rename_i id es off n eb;rw[eb] at hbv hbr;split at hk
   ·rename_i cc h0;obtain⟨hb,F2⟩:=Am hk;simp only[E0,Yd] at hb;obtain⟨⟨⟨⟨⟨⟨⟨BH,Uf⟩,hdN⟩,BA⟩,Bcv⟩,Ajo⟩,hby⟩,TS⟩:=hb;have BH:=Dc BH;have Uf:=Dc Uf;have hdN:d<N:=Nat.lt_of_succ_le (Pf hdN);have BA:s.hp d=none:=by simpa using BA
    subst Uf;rw[Tq] at BH;subst BH;rw[Zt] at hby;have KU:news.length=m*i.size:=by omega
    have Blu:s.hp id≠none:=by rw[h0];simp
    have Al3:=h.box id _ h0;refine⟨_,F2,fun next Q hn=>?_⟩
    have grow:∀(ad:Option Addr) (cap:Nat) (olds:List Value),a.eval b=.slice ad n cap->Bj (Au w (D2 s.hp β Y)) (cc.take (n*i.size)) olds->(∀u∈olds,u.oneCell'=true)->olds.length=n*i.size ->
      ((ad=none/\olds=[])\/∃p,ad=some p/\olds.length=n*i.size/\∀(j:Nat) v,olds[j]?=some v->w.cell? (p.add j)=some v)->cap<n+m->o.wp P a w next Q:=by
     intro ad cap olds Ui holds h1 hol hold DH;have hr:=Pu (P:=P) (w:=w) (t:=t) (tx:=tx) (ty:=o.type) (ts:=ts) hu hdx Ae4 hi hz hs hold DH hby TS;rw[<-Ui] at hr;refine run hr next Q (hn _ _ (Db β d (some (w.heap.size,0))) ?_);have hge:n+m<=grownCap w (n+m) cap e:=grownCap_ge w (n+m) cap e
     have DP:Ht w (w.drew.alloc (.cells (olds.toArray++news.toArray++Builtin.zeroCells z.cells (grownCap w (n+m) cap e-(n+m))) e)) (olds.toArray++news.toArray++Builtin.zeroCells z.cells (grownCap w (n+m) cap e-(n+m))) e:=
      ⟨rfl,rfl,rfl,fun k hk=>Below.heap_alloc w.drew _ k hk,by show (w.heap.push _).size=_;simp,(0,0),by show (w.heap.push _)[w.heap.size]?=_;simp,.inl rfl⟩
     have Ahx:(olds.toArray++news.toArray++Builtin.zeroCells z.cells (grownCap w (n+m) cap e-(n+m))).size=grownCap w (n+m) cap e*i.size:=by
      simp only[Array.size_append,List.size_toArray,size_zeroCells,hzs,hol,KU,<-Nat.add_mul]
      congr 1
      omega
     have ZA:∀k y,some (w.heap.size,0)=some (k,y)->w.heap.size<=k\/∃q,β id=some (k,q):=by
      intro k y hh;simp at hh;exact .inl (by omega)
     refine h.move h0 BA hdN rfl rfl rfl (by rw[DP.size];omega) (fun k hk _=>DP.old k hk) DP.step.bs (fun k y hh=>⟨by simp at hh;rw[DP.size];omega,ZA k y hh⟩) (fun k y hh Cq=>by simp at hh;omega)
      (fun k y _ Cq j _=>⟨World.cell?_of_block (w:=w) (DP.old k Cq),World.frozen?_of_block (w:=w) (DP.old k Cq)⟩) ?_ ?_ (by intro j hj;simpa [Ci,Cy,At] using hj)
     ·refine .inr ⟨w.heap.size,0,An _ _ _,QV DP (Ahz h0 BA ZA) holds hs.rep h1 hs.one,fun _ j _ hj=>?_,(fun q=>by cases q)⟩;rw[DP.bsz] at hj;exact DP.frozen hj
     ·refine .inr ⟨w.heap.size,0,0,grownCap w (n+m) cap e,An _ _ _,rfl,.inl rfl,hge,?_,by rw[DP.size];omega⟩
      exact⟨by rw[DP.bsz,Ahx];omega,.inr (N6 w.drew _ e)⟩
    rcases hbv with⟨hβ,_,rfl,ad,Ui⟩|⟨bb,ob,y,cap,hβ,Ui,hy,A57,DH,A61⟩
    ·rcases Al3 with⟨_,rfl⟩|⟨b',o',F3,_⟩
     ·by_cases hm0:m=0
      ·subst hm0;have hr:=Py (P:=P) (w:=w) (t:=t) (tx:=tx) (ty:=o.type) (ts:=ts) (ad:=ad) hu hdx Ae4 hi hs (List.eq_nil_of_length_eq_zero (by omega));rw[<-Ui] at hr;have Aem:new=[]:=List.eq_nil_of_length_eq_zero (by omega);subst Aem;refine run hr next Q (hn _ _ (Db β d none) ?_);rw[Ui];refine h.move h0 BA hdN rfl rfl rfl (Cs _) (fun _ _ _=>rfl) (fun _ _=>Io.refl _ _) (fun k q hh=>by cases hh) (fun k q hh=>by cases hh) (fun _ _ _ _ _ _=>⟨rfl,rfl⟩) ?_ ?_ (by intro j hj;simpa [Ci,Cy,At] using hj)
       ·exact .inl ⟨An _ _ _,by simp⟩
       ·exact .inl ⟨An _ _ _,rfl,rfl,ad,rfl⟩
      ·exact grow ad 0 [] Ui (by simp[Bj]) (by simp) (by simp) (by cases ad with
        |none=>exact .inl ⟨rfl,rfl⟩
        |some p=>exact .inr ⟨p,rfl,by simp,fun j v hj=>by simp at hj⟩) (by omega)
     ·rw[hβ] at F3;cases F3
    ·rcases Al3 with⟨F3,_⟩|⟨b',o',F3,Iy,LB,_⟩
     ·rw[hβ] at F3;cases F3
     rw[hβ] at F3;simp at F3;obtain⟨rfl,rfl⟩:=F3;have hy:y=ob:=by rcases hy with hy|⟨_,hq⟩<;>omega
     subst hy;by_cases Atj:n+m<=cap
     ·have Al1:y+n*i.size+news.length<=bsz w bb:=by
       have h5:n*i.size+m*i.size<=cap*i.size:=by rw[<-Nat.add_mul];exact Nat.mul_le_mul_right _ Atj
       have:=DH.1;omega
      have hcell:∀k,k<news.length->(w.cell? ⟨bb,y+n*i.size+k,none⟩).isSome=true:=fun k hk=>Ao9 (by omega);have hr:=MY (P:=P) (w:=w) (t:=t) (tx:=tx) (ty:=o.type) (ts:=ts) (b:=bb) (ob:=y) (n:=n) (cap:=cap) hu hdx Ae4 hi hs KU hcell (fun k hk=>LB rfl _ (by omega) (by omega)) Atj;rw[<-Ui] at hr;have hw:=Ev.setCells bb news (y+n*i.size) w
      have ZA:∀k q,some (bb,y)=some (k,q)->w.heap.size<=k\/∃q',β id=some (k,q'):=by
       intro k q hh;simp at hh;obtain⟨rfl,rfl⟩:=hh;exact .inr ⟨_,hβ⟩
      refine run hr next Q (hn _ _ (Db β d (some (bb,y))) ?_)
      have Hr:Ct (D2 s.hp β Y) w (w.setCells bb (y+n*i.size) news):=by
       have hAb:D2 s.hp β Y bb:=.inl ⟨id,y,by rw[h0];trivial,hβ⟩
       exact⟨by rw[hw.size];exact Cs _,fun k _ hk=>hw.other k (fun e=>hk (e ▸ hAb)),fun k _=>hw.grow k⟩
      refine h.move h0 BA hdN hw.os hw.tape hw.output (by rw[hw.size];exact Cs _) (fun k _ hq=>hw.other k (by rintro rfl;exact hq _ hβ)) Hr.bs (fun k q hh=>⟨by simp at hh;rw[hw.size];omega,ZA k q hh⟩) (fun k q hh _=>by rw[hβ];exact hh)
       (fun k q hh _ j hj=>by
        rw[hβ] at hh;cases hh;exact⟨World.cell?_setCells_out bb _ _ w ⟨bb,j,none⟩ (fun _ _=>by show j<y+n*i.size\/y+n*i.size+_<=j;omega),hw.frz j⟩) ?_ ?_ (by intro j hj;simpa [Ci,Cy,At] using hj)
      ·refine .inr ⟨bb,y,An _ _ _,fun j p hj=>?_,fun _ j hj Ya=>?_,(fun q=>by cases q)⟩
       ·rw[Fo];by_cases hjn:j<n*i.size
        ·rw[List.getElem?_append_left (by rw[List.length_take];omega),List.getElem?_take_of_lt hjn] at hj
         obtain⟨u,Lz,h5,ht⟩:=Iy j p hj;rw[Fo] at Lz;refine⟨u,?_,h5,ht.step Hr (Ahz h0 BA ZA)⟩;rw[World.cell?_setCells_out bb _ _ w ⟨bb,y+j,none⟩ (fun _ _=>by show y+j<y+n*i.size\/y+n*i.size+_<=y+j;omega)]
         exact Lz
        ·rw[List.getElem?_append_right (by rw[List.length_take];omega),List.length_take,Nat.min_eq_left Bcv] at hj
         obtain⟨u,Lz,ht⟩:=hs.rep.get hj
         have Cq:j-n*i.size<news.length:=by
          rcases Ik (j-n*i.size) news.length with h|h
          ·exact h
          ·rw[List.getElem?_eq_none h] at Lz;cases Lz
         refine⟨u,?_,hs.one u (List.mem_of_getElem? Lz),ht.step Hr (Ahz h0 BA ZA)⟩;have:=World.cell?_setCells_in bb news (y+n*i.size) w hcell (j-n*i.size) Cq;rw[show y+j=y+n*i.size+(j-n*i.size) from by omega,this];rw[List.getElem?_eq_getElem Cq] at Lz;exact Lz
       ·rw[hw.bs] at Ya;rw[hw.frz];exact LB rfl j hj Ya
      ·exact .inr ⟨bb,y,y,cap,An _ _ _,rfl,.inl rfl,Atj,DH.step (hw.grow bb),by rw[hw.size];exact A61⟩
     ·-- the old cells
      have hob:∀(j:Nat) p,(cc.take (n*i.size))[j]?=some p->∃v,w.cell? ⟨bb,y+j,none⟩=some v/\v.oneCell'=true/\Au w (D2 s.hp β Y) p v:=by
       intro j p hj;rw[List.getElem?_take] at hj;split at hj
       ·obtain⟨v,hv,h5,ht⟩:=Iy j p hj;rw[Fo] at hv;exact⟨v,hv,h5,ht⟩
       ·cases hj
      have Eh:(cc.take (n*i.size)).length=n*i.size:=by rw[List.length_take];omega
      refine grow _ cap ((cc.take (n*i.size)).mapIdx fun j _=>(w.cell? ⟨bb,y+j,none⟩).getD undef) Ui ?_ ?_ (by simp only[List.length_mapIdx];exact Eh) (.inr ⟨_,rfl,by simp only[List.length_mapIdx];exact Eh,fun j v hj=>?_⟩) (by omega)
      ·refine Bj.of_at (by simp) fun j p v hp hv=>?_;obtain⟨u,Lz,_,ht⟩:=hob j p hp;rw[List.getElem?_mapIdx,hp,Option.map_some,Lz] at hv;simp at hv;subst hv;exact ht
      ·intro v hv;obtain⟨j,hj⟩:=List.mem_iff_getElem?.1 hv;rw[List.getElem?_mapIdx] at hj;cases hp:(cc.take (n*i.size))[j]? with
       |none=>rw[hp] at hj;cases hj
       |some p=>
        obtain⟨u,Lz,h5,_⟩:=hob j p hp;rw[hp,Option.map_some,Lz] at hj;simp at hj;subst hj;exact h5
      ·rw[List.getElem?_mapIdx] at hj;cases hp:(cc.take (n*i.size))[j]? with
       |none=>rw[hp] at hj;cases hj
       |some p=>
        obtain⟨u,Lz,h5,_⟩:=hob j p hp;rw[hp,Option.map_some,Lz] at hj;simp at hj;subst hj;rw[Fo];exact Lz
   ·cases hk
  ·obtain⟨zz,n',c',hk,hp⟩:=H4 hk;obtain⟨hb,hk⟩:=Am hk;simp only[E0,Yd] at hb;obtain⟨⟨⟨⟨⟨hzz,hdN⟩,BA⟩,Ajo⟩,hby⟩,TS⟩:=hb;have hdN:d<N:=Nat.lt_of_succ_le (Pf hdN);have BA:s.hp d=none:=by simpa using BA
   have Ag4:Hx N (some d)=true:=by simp[Hx,Nat.blt];omega
   rw[Tq] at Ajo hk;rw[Zt] at hby;have KU:news.length=m*i.size:=by omega
   rcases H1 hp hbv with⟨Ui,_⟩|⟨_,_,_,PS,_⟩|⟨_,_,_,PS,_⟩
   ·refine⟨_,hk,fun next Q hn=>?_⟩;by_cases hm0:m=0
    ·subst hm0;have hr:=Py (P:=P) (w:=w) (t:=t) (tx:=tx) (ty:=o.type) (ts:=ts) (ad:=none) hu hdx Ae4 hi hs (List.eq_nil_of_length_eq_zero (by omega));rw[<-Ui] at hr;have Aem:new=[]:=List.eq_nil_of_length_eq_zero (by omega);subst Aem;refine run hr next Q (hn _ _ (Db β d none) ?_);rw[Ui];refine h.stepR (d:=some d) (nw:=[(d,.ar false [])]) (β':=Db β d none) Ag4 (by simp[Ca,BA]) ⟨rfl,rfl,rfl,Ct.refl _ _,fun j hj=>Al _ _ (by rintro rfl;exact hj BA),?_,?_,?_,?_,?_,.inl ⟨An _ _ _,rfl,rfl,none,rfl⟩,?_⟩
     ·intro j bx hm;simp at hm;rw[hm.2];trivial
     ·intro j bx hm;simp at hm;obtain⟨rfl,rfl⟩:=hm;exact .inl ⟨An _ _ _,rfl⟩
     ·intro j bx k q hm hq;simp at hm;obtain⟨rfl,rfl⟩:=hm;rw[An] at hq;cases hq
     ·intro j bx j' bx' k q q' hm M8 _ _;simp at hm M8;rw[hm.1,M8.1]
     ·intro j cells hm;simp at hm
     ·intro j hj;simp[Ci,Cy,At] at hj;subst hj;exact .inr ⟨.ar false [],by simp⟩
    ·have hr:=Pu (P:=P) (w:=w) (t:=t) (tx:=tx) (ty:=o.type) (ts:=ts) (ad:=none) (n:=0) (cap:=0) (olds:=[]) hu hdx Ae4 hi hz hs (.inl ⟨rfl,rfl⟩) (by omega) (by rw[Ip];exact hby) (by omega)
     rw[<-Ui] at hr;refine run hr next Q (hn _ _ (Db β d (some (w.heap.size,0))) ?_);have hge:0+m<=grownCap w (0+m) 0 e:=grownCap_ge w (0+m) 0 e
     have DP:Ht w (w.drew.alloc (.cells (([]:List Value).toArray++news.toArray++Builtin.zeroCells z.cells (grownCap w (0+m) 0 e-(0+m))) e)) (([]:List Value).toArray++news.toArray++Builtin.zeroCells z.cells (grownCap w (0+m) 0 e-(0+m))) e:=
      ⟨rfl,rfl,rfl,fun k hk=>Below.heap_alloc w.drew _ k hk,by show (w.heap.push _).size=_;simp,(0,0),by show (w.heap.push _)[w.heap.size]?=_;simp,.inl rfl⟩
     have Ahx:(([]:List Value).toArray++news.toArray++Builtin.zeroCells z.cells (grownCap w (0+m) 0 e-(0+m))).size=grownCap w (0+m) 0 e*i.size:=by
      simp only[Array.size_append,List.size_toArray,size_zeroCells,hzs,KU,NS,<-Nat.add_mul];rw[Ip (m*i.size),<-Nat.add_mul]
      congr 1
      omega
     refine h.stepR (d:=some d) (nw:=[(d,.ar false new)]) Ag4 (by simp[Ca,BA]) (Vh DP BA trivial ?_ (fun cells hx=>by cases hx) ?_ (by intro j hj;simp[Ci,Cy,At] at hj;exact .inr hj))
     ·refine .inr ⟨w.heap.size,0,An _ _ _,?_,fun _ j _ hj=>?_,(fun q=>by cases q)⟩
      ·exact QV (pre:=[]) DP (Ajn BA) trivial hs.rep (by simp) hs.one
      ·rw[DP.bsz] at hj;exact DP.frozen hj
     ·refine .inr ⟨w.heap.size,0,0,grownCap w (0+m) 0 e,An _ _ _,by rw[Ip],.inl rfl,by omega,?_,by rw[DP.size];omega⟩
      exact⟨by rw[DP.bsz,Ahx];omega,.inr (N6 w.drew _ e)⟩
   ·rw[PS] at hzz;cases hzz
   ·rw[PS] at hzz;cases hzz
 ·cases hk
theorem Ah5(h:Di N w0 X0 Y β s a w){c:Call}(ho:o.op=.call c)(hc:c.callee=.builtin .copy){b x:Operand}(F6:c.args.toList=[b,x]){t tx:TypeId}{ts:List TypeId}(LX:c.argTypes.toList=t::tx::ts){K:St->Option R}(hk:WW P N s o.dst t tx (Cp s.tm b) (Cp s.tm x) K=some r):
  ∃s',K s'=some r/\∀(next:Act->World->Prop) (Q:Exit->Act->World->Prop),(∀a' w' β',Di N w0 X0 Y β' s' a' w'->next a' w')->o.wp P a w next Q:=by
 have OS:c.args = #[b,x]:=by
  have:c.args=([b,x]:List Operand).toArray:=by rw[<-F6]
  exact this
 have Ae6:c.argTypes=(t::tx::ts).toArray:=by rw[<-LX]
 have run:∀{v:Value} {w1:World},(Builtin.copy_ (t::tx::ts).toArray o.type #[a.eval b,a.eval x]).run P w=.ok v w1->∀(next:Act->World->Prop) (Q:Exit->Act->World->Prop),next (a.put o.dst v) w1->o.wp P a w next Q:=by
  intro v w1 hr next Q hn;unfold Oper.wp execOp;rw[ho];simp only[resolve,hc,invoke,builtin,Sem.run_bind,Sem.run_pure,Result.andThen_ok,OS,Ae6];have:(#[b,x]:Array Operand).map a.eval = #[a.eval b,a.eval x]:=by simp
  rw[this,hr];exact hn
 have hbv:=Dr h b;unfold WW at hk;split at hk
 ·rename_i e hu;obtain⟨hzi,hk⟩:=Am hk;simp only[E0] at hzi;obtain⟨Uc,Ag4⟩:=hzi;obtain⟨i,hi⟩:∃i,P.info? e=some i:=Option.isSome_iff_exists.1 Uc;have Tq:A9 P e=i.size:=by unfold A9;rw[hi];rfl
  have h1c:∀(m:Nat) (new:Ae),(match Cp s.tm b with
    |.view id es off n=>
     match s.hp id with
     |some (.ar false c)=>Ar (Nat.beq es (A9 P e)&&decide (off+n*es<=c.length)&&decide (new.length=m*es))
       (Aa (min m n) fun k=>Aa (B5 c (new.take (k*es)) off) fun c=>K ⟨C8 s.tm o.dst (.sc (.int .i64 k)),Db s.hp id (some (.ar false c))⟩)
     |_=>none
    |_=>none)=some r->new.length=m*A9 P e:=by
   intro m new hk;split at hk
   ·split at hk
    ·obtain⟨hb,_⟩:=Am hk;simp only[E0,Yd] at hb;rw[<-Dc hb.1.1];exact hb.2
    ·cases hk
   ·cases hk
  obtain⟨_,m,new,news,hk,hs⟩:=QM h hk h1c;split at hk
  ·rename_i id es off n hb;rw[hb] at hbv;split at hk
   ·rename_i cc h0;obtain⟨hb,hk⟩:=Am hk;simp only[E0,Yd] at hb;obtain⟨⟨BH,ET⟩,hnl⟩:=hb;have BH:=Dc BH;subst BH;rw[Tq] at hk hs ET hnl hbv;have KU:news.length=m*i.size:=by rw[<-hs.rep.len];exact hnl
    have hkm:min m n*i.size<=m*i.size:=Nat.mul_le_mul_right _ (Nat.min_le_left _ _);have hkn:min m n*i.size<=n*i.size:=Nat.mul_le_mul_right _ (Nat.min_le_right _ _);have Pk:K ⟨C8 s.tm o.dst (.sc (.int .i64 ((min m n:Nat):Int))),Db s.hp id (some (.ar false (B5 cc (new.take (min m n*i.size)) off)))⟩=some r:=hk;refine⟨_,Pk,fun next Q hn=>?_⟩
    have Ay1:∀{β':Bt} {D1:Nat->Option B7} {w':World},Di N w0 X0 Y β' ⟨s.tm,D1⟩ a w'->Di N w0 X0 Y β' ⟨C8 s.tm o.dst (.sc (.int .i64 ((min m n:Nat):Int))),D1⟩ (a.put o.dst (goInt ((min m n:Nat):Int))) w':=
     fun hh=>hh.put Ag4 (Au.sc _) (fun _ hx=>by cases hx)
    have Aqr:new.take (min m n*i.size)=[]->Db s.hp id (some (.ar false (B5 cc (new.take (min m n*i.size)) off)))=s.hp:=by
     intro e;rw[e];refine HQ _ ?_;rw[h0];simp[B5]
    have nothing:min m n*i.size=0->∀(ad:Option Addr) (cap:Nat),a.eval b=.slice ad n cap->o.wp P a w next Q:=by
     intro e ad cap Ui;have hr:=Acu (P:=P) (w:=w) (w1:=w) (t:=t) (ty:=o.type) (ts:=tx::ts) (ad:=ad) (n:=n) (cap:=cap) hu hi hs (by rw[e];cases ad<;>simp[storeCells])
     rw[<-Ui] at hr;refine run hr next Q (hn _ _ β (Ay1 ?_));rw[Aqr (by rw[e,List.take_zero])];exact h
    rcases hbv with⟨hβ,_,rfl,ad,Ui⟩|⟨bb,ob,y,cap,hβ,Ui,hy,A57,DH,A61⟩
    ·exact nothing (by simp) ad 0 Ui
    ·by_cases hm0:min m n*i.size=0
     ·exact nothing hm0 _ _ Ui
     rcases h.box id _ h0 with⟨F3,_⟩|⟨b',o',F3,Iy,LB,_⟩
     ·rw[hβ] at F3;cases F3
     rw[hβ] at F3;simp at F3;obtain⟨rfl,rfl⟩:=F3;have IA:n≠0:=by rintro rfl;simp at hm0
     have hy:y=ob+off:=by rcases hy with hy|⟨hq,_⟩<;>first|exact absurd hq IA|exact hy
     subst hy;have Cq:(news.take (min m n*i.size)).length=min m n*i.size:=by rw[List.length_take,KU];omega
     have hcell:∀k,k<(news.take (min m n*i.size)).length->(w.cell? ⟨bb,ob+off+k,none⟩).isSome=true:=by
      intro k hk;obtain⟨v,hv,_⟩:=Iy (off+k) _ (List.getElem?_eq_getElem (by omega));rw[Fo] at hv;rw[Ps,hv];rfl
     have hfr:∀k,k<(news.take (min m n*i.size)).length->w.frozen? ⟨bb,ob+off+k,none⟩=false:=fun k hk=>by
      obtain⟨u,hu⟩:=Option.isSome_iff_exists.1 (hcell k hk);exact LB rfl _ (by omega) (SQ hu)
     have h1:∀u∈news.take (min m n*i.size),u.oneCell'=true:=fun u hu=>hs.one u (List.mem_of_mem_take hu);have h3:=run_storeCells_cells (P:=P) bb (ob+off) (news.take (min m n*i.size)) 0 w (fun k hk=>by simpa using hcell k hk) (fun k hk=>by simpa using hfr k hk) h1;have hr:=Acu (P:=P) (w:=w) (t:=t) (ty:=o.type) (ts:=tx::ts) (ad:=some ⟨bb,ob+off,none⟩) (n:=n) (cap:=cap) hu hi hs h3;rw[<-Ui] at hr;simp only[ZG] at hr;refine run hr next Q (hn _ _ β (Ay1 ?_))
     refine h.write h0 trivial trivial hβ (Ev.setCells bb _ _ w) ?_ (fun cells hx=>by cases hx) (fun _ hx=>by cases hx) (fun j hj=>hj) (fun j hj=>by
      refine World.cell?_setCells_out bb _ _ w ⟨bb,j,none⟩ (fun _ _=>?_);have hj:¬(ob<=j):=hj;show j<ob+off\/ob+off+_<=j;omega)
     have Hr:Ct (D2 s.hp β Y) w (w.setCells bb (ob+off) (news.take (min m n*i.size))):=by
      have hw:=Ev.setCells bb (news.take (min m n*i.size)) (ob+off) w;have hAb:D2 s.hp β Y bb:=.inl ⟨id,ob,by rw[h0];trivial,hβ⟩
      exact⟨by rw[hw.size];exact Cs _,fun k _ hk=>hw.other k (fun e=>hk (e ▸ hAb)),fun k _=>hw.grow k⟩
     have hll:(new.take (min m n*i.size)).length=min m n*i.size:=by rw[List.length_take,hnl];omega
     refine .inr ⟨bb,ob,hβ,fun j p hj=>?_,fun _ j hj Ya=>?_,(fun x=>by cases x)⟩
     ·rw[Fo];rcases V8 (by omega) hj with⟨h3,h4,h5⟩|⟨h3,h5⟩
      ·have A9p:j-off<min m n*i.size:=by omega
       rw[List.getElem?_take_of_lt A9p] at h5;obtain⟨u,hu,hcu⟩:=hs.rep.get h5;have Ark:j-off<(news.take (min m n*i.size)).length:=by omega
       refine⟨u,?_,hs.one u (List.mem_of_getElem? hu),hcu.step Hr (fun _ _ x=>x)⟩;have:=World.cell?_setCells_in bb (news.take (min m n*i.size)) (ob+off) w hcell (j-off) Ark;rw[show ob+j=ob+off+(j-off) from by omega,this];rw[<-List.getElem?_eq_getElem Ark,List.getElem?_take_of_lt A9p];exact hu
      ·obtain⟨v,hv,h6,LQ⟩:=Iy j p h5;rw[Fo] at hv;refine⟨v,?_,h6,LQ.step Hr (fun _ _ x=>x)⟩;rw[World.cell?_setCells_out bb _ _ w ⟨bb,ob+j,none⟩ (fun _ _=>by show ob+j<ob+off\/ob+off+_<=ob+j;omega)]
       exact hv
     ·rw[(Ev.setCells bb _ _ w).bs] at Ya;rw[(Ev.setCells bb _ _ w).frz];exact LB rfl j hj Ya
   ·cases hk
  ·cases hk
 ·cases hk
theorem Ahj(h:Di N w0 X0 Y β s a w){G:CK}(Oc:Env P G w0 X0){C:G3}{call:Aq}(Ez:∀f args res,call f args=some res->C6 G P f args res){K:St->Option R}(hk:YT C P N call s o K=some r):
  ∃s',K s'=some r/\∀(next:Act->World->Prop) (Q:Exit->Act->World->Prop),(∀a' w' β',Di N w0 X0 Y β' s' a' w'->next a' w')->o.wp P a w next Q:=by
 unfold YT at hk;split at hk
 ·rename_i t x y ho;obtain⟨hd,hk⟩:=Am hk;exact Aeg h ho (by simpa using hd) hk
 ·rename_i c ho;split at hk
  ·rename_i hc;obtain⟨d,hd,E8⟩:=Cw hk;obtain⟨b,xs,TA,F2⟩:=Bn E8;obtain⟨x,ys,hys,Pp⟩:=Bn F2;obtain⟨IY,AW⟩:=Em Pp;obtain⟨t,us,hus,hk5⟩:=Bn AW;obtain⟨tx,vs,X5,hk6⟩:=Bn hk5;rw[hys,IY] at TA;rw[X5] at hus;exact YP h ho hc hd TA hus hk6
  ·rename_i hc;obtain⟨b,xs,TA,F2⟩:=Bn hk;obtain⟨x,ys,hys,Pp⟩:=Bn F2;obtain⟨IY,AW⟩:=Em Pp;obtain⟨t,us,hus,hk5⟩:=Bn AW;obtain⟨tx,vs,X5,hk6⟩:=Bn hk5;rw[hys,IY] at TA;rw[X5] at hus;exact Ah5 h ho hc TA hus hk6
  ·rename_i f hc;exact Adq h Oc Ez ho hc hk
  ·cases hk
 ·cases hk
theorem Agn(h:Di N w0 X0 Y β s a w){G:CK}(Oc:Env P G w0 X0){C:G3}{call:Aq}(Ez:∀f args res,call f args=some res->C6 G P f args res){K:St->Option R}(hk:Ad0 C P N call o s K=some r):
  ∃s',K s'=some r/\∀(next:Act->World->Prop) (Q:Exit->Act->World->Prop),(∀a' w' β',Di N w0 X0 Y β' s' a' w'->next a' w')->o.wp P a w next Q:=by
 unfold Ad0 at hk;cases hm:X3 C P o.op
 ·rw[hm] at hk;exact Ah6 h Oc Ez hk
 ·rw[hm] at hk;exact Ahj h Oc Ez hk
end
end
end
end Go.Proofs.YtamoegpkglhedaaGreatDoor.Pv
