/-
  The proof of MetadataAccepts, part 2.
-/
import Derived.Test.YtpogefhpiaaliaaGreatDoorAA
import Derived.Laws.Append
import Derived.IntWalk
import Derived.Laws.AppendOwn
import Derived.Laws.IdiomCopy
set_option linter.unusedSimpArgs false
set_option linter.unusedVariables false
namespace Go.Proofs.YtpogefhpiaaliaaGreatDoor.Pv
set_option maxRecDepth 1000000
noncomputable section
section
open Go.RowKit
def Lf(w:World)(A:Nat->Prop)(own:Option (Nat × Nat))(p:PV)(u:Value):Prop:=
 match p with
 |.own es n c=>(own=none/\n=0/\c=[]/\∃ad,u=.slice ad 0 0) \/
   ∃b o cap,own=some (b,o)/\u=.slice (some ⟨b,o,none⟩) n cap/\n<=cap/\o+cap*es<=bsz w b/\b<w.heap.size/\YL w A ⟨b,o,none⟩ c/\∀j,o<=j->j<bsz w b->w.frozen? ⟨b,j,none⟩=false
 |p=>Bd w A p u
def Iu(w:World)(A:Nat->Prop)(own:Bt):Nat->Ab->List Value->Prop
 |_,[],[]=>True
 |j,p::ps,u::us=>Lf w A (own j) p u/\Iu w A own (j+1) ps us
 |_,_,_=>False
def Ay4(w:World)(A:Nat->Prop)(own:Bt)(j b o:Nat)(cs:Ab):Prop:=
 ∃vs,Iu w A own j cs vs/\(∀(k:Nat) v,vs[k]?=some v->w.cell? ⟨b,o+k,none⟩=some v)/\∀k,k<cs.length->w.frozen? ⟨b,o+k,none⟩=false
def Ay3(w:World)(A:Nat->Prop)(own:Bt)(z j:Nat)(p:PV)(u:Value):Prop:=
 match p with
 |.agg cs=>∃vs,u=.agg ⟨vs⟩/\Iu w A own j cs vs
 |.pbox cs=>∃b o,own j=some (b,o)/\z<=b/\u=.pointer (some ⟨b,o,none⟩)/\Ay4 w A own (j+1) b o cs
 |p=>Lf w A (own j) p u
def plc:PV->Nat
 |.pbox cs=>1+cs.length
 |p=>(cellsOf p).length
def Ano(w:World)(A:Nat->Prop)(own:Bt)(z:Nat):Nat->Ab->List Value->Prop
 |_,[],[]=>True
 |j,p::ps,u::us=>Ay3 w A own z j p u/\Ano w A own z (j+plc p) ps us
 |_,_,_=>False
abbrev QS:=Nat->Nat->Option (Nat × Nat)
def BtX(bt:QS)(b:Nat):Prop:=∃i j o,bt i j=some (b,o)
def isA(p:PV):Prop:=GT p\/∃es n c,p=.own es n c
def KM(p:PV):Bool:=
 match p with
 |.pbox _=>true
 |.tup _=>true
 |_=>false
theorem Aw2{p:PV}(h:isA p):KM p=false:=by
 rcases h with h|⟨_,_,_,rfl⟩
 ·cases p<;>first|rfl|exact h.elim
 ·rfl
def Aim(w:World)(A:Nat->Prop)(bt:Bt)(p:PV)(u:Value):Prop:=
 match p with
 |.pbox ps=>∃b o,bt 0=some (b,o)/\u=.pointer (some ⟨b,o,none⟩)/\(∀p∈ps,isA p)/\Ay4 w A bt 1 b o ps
 |.tup ps=>∃es n c,ps=[.own es n c]/\Lf w A (bt 0) (.own es n c) u
 |.agg cs=>∃vs,u=.agg ⟨vs⟩/\(∀p∈cs,isA p)/\Iu w A bt 1 cs vs
 |p=>isA p/\Lf w A (bt 1) p u
def Sl(w:World)(A:Nat->Prop)(bt:QS):Nat->Ab->List Value->Prop
 |_,[],[]=>True
 |i,p::ps,u::us=>Aim w A (bt i) p u/\Sl w A bt (i+1) ps us
 |_,_,_=>False
def A4g(bt:Bt)(p:PV)(b j:Nat):Prop:=
 (∃k o,bt (k+1)=some (b,o)/\o<=j)\/∃o ps,bt 0=some (b,o)/\o<=j/\((p=.pbox ps/\j<o+ps.length)\/p=.tup ps)
def Aan(bt:QS)(args:Ab)(b j:Nat):Prop:=∃i p,args[i]?=some p/\A4g (bt i) p b j
def GZ(w:World)(A:Nat->Prop)(own:Bt)(bt:QS):Nat->Nat->Ab->List Ab->Prop
 |_,_,[],r=>r=[]
 |j,i,p::zs,r=>
  match p with
  |.pbox ps=>
   match r with
   |[]=>False
   |cs::r=>(∃b o,bt i 0=some (b,o)/\cs.length=ps.length/\Ay4 w A own j b o cs)/\GZ w A own bt (j+cs.length) (i+1) zs r
  |.tup _=>
   match r with
   |[]=>False
   |cs::r=>((bt i 0=none/\cs=[])\/∃b o,bt i 0=some (b,o)/\YL w A ⟨b,o,none⟩ cs/\∀k,o<=k->k<bsz w b->w.frozen? ⟨b,k,none⟩=false)/\GZ w A own bt j (i+1) zs r
  |_=>GZ w A own bt j (i+1) zs r
def TK(bt:QS)(own:Bt)(Y:Nat->Prop)(b:Nat):Prop:=(∃j o,own j=some (b,o))\/(∃i o,bt i 0=some (b,o))\/Y b
def V4(vals:Ab):Nat:=(vals.map plc).sum
structure Out(w w':World)(Y:Nat->Prop)(bt:QS)(args:Ab)(own:Bt)(r:Dt)(vs:List Value):Prop where
 os:w'.os=w.os
 tape:w'.tape=w.tape
 output:w'.output=w.output
 ext:C6 (BtX bt) w w'
 rng:∀b j,b<w.heap.size->¬Aan bt args b j->w'.cell? ⟨b,j,none⟩=w.cell? ⟨b,j,none⟩/\w'.frozen? ⟨b,j,none⟩=w.frozen? ⟨b,j,none⟩
 vals:Ano w' (TK bt own Y) own w.heap.size 0 r.vals vs
 outs:GZ w' (TK bt own Y) own bt (V4 r.vals) 0 args r.outs
 fresh:∀j b o,own j=some (b,o)->b<w'.heap.size/\(b<w.heap.size->(∃i k o',bt i (k+1)=some (b,o'))/\∀x,o<=x->Aan bt args b x)
 inj:∀j j' b o o',own j=some (b,o)->own j'=some (b,o')->j=j'
def Nv(us:List Value):Value:=match us with|[u]=>u|us=>.tuple ⟨us⟩
def Zg(w:World)(Y:Nat->Prop)(p:PV)(u:Value):Prop:=
 match p with
 |.agg cs=>∃vs,u=.agg ⟨vs⟩/\Ca (fun c v=>GT c/\Bd w Y c v) cs vs
 |p=>GT p/\Bd w Y p u
structure Ins(w:World)(Y:Nat->Prop)(bt:QS)(args:Ab)(us:List Value):Prop where
 Ylt:∀b,Y b->b<w.heap.size
 Yx:∀b,Y b->¬BtX bt b
 lt:∀b,BtX bt b->b<w.heap.size
 inj:∀i j i' j' b o o',bt i j=some (b,o)->bt i' j'=some (b,o')->i=i'/\j=j'
 l0:∀i q,bt i 0=some q->∃p,args[i]?=some p/\KM p=true
 args:Sl w (fun b=>BtX bt b\/Y b) bt 0 args us
structure Ze where
 bl:Nat->Prop
 ok:World->Prop
 stable:∀w w':World,(∀b,bl b->b<w.heap.size->w'.heap[b]?=w.heap[b]?)->ok w->ok w'
def Dr(G:Ze)(P:Program)(f:FuncId)(args:Ab)(r:Dt):Prop:=
 (∃fn,P.funcs[f]?=some fn/\fn.body.isSome=true)/\∀(w:World)(Y:Nat->Prop)(bt:QS)(us:List Value),Ins w Y bt args us->G.ok w->(∀b,G.bl b->b<w.heap.size/\¬BtX bt b) ->
  Calls P f us.toArray w fun e w'=>∃vs own,e=.returned (Nv vs)/\Out w w' Y bt args own r vs
def EO:QS:=fun _ _=>none
theorem Ti(b:Nat):¬BtX EO b:=by rintro⟨_,_,_,h⟩;cases h
theorem Qr{w:World}{A:Nat->Prop}{q:Option (Nat × Nat)}{p:PV}{u:Value}(hp:GT p)(h:Bd w A p u):Lf w A q p u:=by cases p<;>first|exact h|exact hp.elim
theorem RJ{w:World}{A:Nat->Prop}{own:Bt}:∀{cs:Ab}{vs:List Value}{j:Nat},Ca (fun c v=>GT c/\Bd w A c v) cs vs->Iu w A own j cs vs
 |[],[],_,_=>trivial
 |_::_,_::_,_,h=>⟨Qr h.1.1 h.1.2,RJ h.2⟩
 |[],_::_,_,h=>h.elim
 |_::_,[],_,h=>h.elim
theorem Aqa{w:World}{A:Nat->Prop}{bt:Bt}{p:PV}{u:Value}(h:Zg w A p u):Aim w A bt p u:=by
 cases p with
 |agg cs=>
  obtain⟨vs,h1,h2⟩:=h;refine⟨vs,h1,fun p hp=>.inl ?_,RJ h2⟩;obtain⟨j,hj⟩:=List.mem_iff_getElem?.1 hp;obtain⟨v,_,hv⟩:=h2.get hj;exact hv.1
 |sc v=>exact⟨.inl trivial,h.2⟩
 |lst z es n c=>exact⟨.inl trivial,h.2⟩
 |_=>exact h.1.elim
theorem JC{w:World}{A:Nat->Prop}{bt:QS}:∀{ps:Ab}{us:List Value}{i:Nat},Ca (Zg w A) ps us->Sl w A bt i ps us
 |[],[],_,_=>trivial
 |_::_,_::_,_,h=>⟨Aqa h.1,JC h.2⟩
 |[],_::_,_,h=>h.elim
 |_::_,[],_,h=>h.elim
theorem Abq{w:World}{A A':Nat->Prop}(hA:∀b,b<w.heap.size->A' b->A b){p:PV}{v:Value}(h:Zg w A p v):Zg w A' p v:=by
 cases p with
 |agg cs=>
  obtain⟨vs,rfl,h2⟩:=h;exact⟨vs,rfl,h2.mono fun c v hc=>⟨hc.1,hc.2.step (C6.refl _ _) hA⟩⟩
 |sc v=>exact⟨h.1,h.2.step (C6.refl _ _) hA⟩
 |lst z es n c=>exact⟨h.1,h.2.step (C6.refl _ _) hA⟩
 |_=>exact h.1.elim
theorem Agj{w:World}{Y:Nat->Prop}{args:Ab}{us:List Value}(hY:∀b,Y b->b<w.heap.size)(h:Ca (Zg w Y) args us):Ins w Y EO args us:=
 ⟨hY,fun b _=>Ti b,fun b h=>absurd h (Ti b),(fun _ _ _ _ _ _ _ h=>by cases h),(fun _ _ h=>by cases h),JC (h.mono fun _ _ hx=>Abq (fun b _ hb=>hb.elim (fun q=>absurd q (Ti b)) id) hx)⟩
def NoNG(P:Program):Prop:=∀(f:FuncId) (fn:Func),P.funcs[f]?=some fn->(fn.name == "runtime.NumGoroutine")=false
structure RO(P:Program)(G:Ze)(w0:World)(X0:Gt):Prop where
 ng:NoNG P
 fr:∀w,Fr X0 w0 w->G.ok w
 y:∀b,G.bl b->b<w0.heap.size/\¬X0.X b
section
variable {R:Type}{r:R}{P:Program}{N:Nat}{w0:World}{X0:Gt}{Y:Nat->Prop}{β β':Bt}{s:St}{a:Act}{w w':World}{o:Oper}{A:Nat->Prop}
def WM(P:Program)(a:Act)(w:World)(o:Oper)(Y:Nat->Prop)(β:Bt)(s:St)(v:PV)(fz:Cc)(nw:List (Nat × Cb)):Prop:=
 (∀id∈fz,∃f c,s.hp id=some (.ar f c))/\∀(next:Act->World->Prop)(Q:Exit->Act->World->Prop),
  (∀val w',(C3 s.hp nw=true->∃β',Aa0 Y β ⟨s.tm,Al s.hp fz⟩ w v nw val w' β')->next (a.put o.dst val) w')->o.wp P a w next Q
theorem VX{v:PV}{fz:Cc}{nw:List (Nat × Cb)}(h:G9 P a w o Y β s v fz nw):WM P a w o Y β s v fz nw:=by obtain⟨h1,val,w',hr,hs⟩:=h;refine⟨h1,fun next Q hn=>?_⟩;unfold Oper.wp;rw[hr];exact hn val w' hs
theorem Atk(h:Cj N w0 X0 Y β s a w){t:TypeId}{x:PV}{u:Value}(hx:Fe w (D4 s.hp β Y) β x u){K:PV->Cc->Option R}(hk:Ali P (P7 s.hp) t x K=some r):
  ∃p m,K p m=some r/\(∀id∈m,∃f cc,s.hp id=some (.ar f cc))/\(cellsOf p).length=(M5 P t).length/\∀fz:Cc,(∀id∈m,id∈fz)->(∀id∈fz,∃f cc,s.hp id=some (.ar f cc))->Zg w (D4 (Al s.hp fz) β Y) p u:=by
 unfold Ali at hk;cases Jy:C9 P t
 ·rw[Jy] at hk;obtain⟨cs,m,hk,hl,Q7,hT,hF,hm,hv⟩:=Y9 h (show U0 _ _ _ _=some r from hk);obtain⟨c,t',rfl,hk⟩:=Bv hk;obtain⟨rfl,hk⟩:=Fh hk;have hcT:=hT c (by simp);refine⟨c,m,hk,hm,?_,fun fz h1 h2=>?_⟩
  ·have:cellsOf c=[c]:=by cases c<;>first|rfl|exact hcT.elim
   rw[this];exact hl
  have hF':=hF _ (Xy _)
  have hc:Cz w (D4 s.hp β Y) β x u:=by
   cases x<;>first|exact hx|exact hF'.elim
  have h3:=(hv fz h1 h2 [u] ⟨hc,trivial⟩).1.1;cases c<;>first|exact⟨trivial,h3⟩|exact hcT.elim
 ·rw[Jy] at hk;obtain⟨ps,hp,hk⟩:=Lx (show Dl _ _=some r from hk);rw[hp] at hx;obtain⟨cs,m,hk,hl,Q7,hT,hF,hm,hv⟩:=Y9 h hk;obtain⟨vs,E9,h2⟩:=hx;refine⟨.agg cs,m,hk,hm,hl,fun fz h1 h3=>⟨vs,E9,?_⟩⟩;exact (hv fz h1 h3 vs h2).1.mono_mem fun c hc v QM=>⟨hT c hc,QM⟩
theorem Arp(h:Cj N w0 X0 Y β s a w){t:TypeId}{x:Operand}{K:PV->Cc->Option R}(hk:Ali P (P7 s.hp) t (Dd s.tm x) K=some r):
  ∃p m,K p m=some r/\(∀id∈m,∃f cc,s.hp id=some (.ar f cc))/\∀fz:Cc,(∀id∈m,id∈fz)->(∀id∈fz,∃f cc,s.hp id=some (.ar f cc))->Zg w (D4 (Al s.hp fz) β Y) p (a.eval x):=by
 obtain⟨p,m,h1,h2,_,h3⟩:=Atk h (Ew h x) hk;exact⟨p,m,h1,h2,h3⟩
theorem Aav(h:Cj N w0 X0 Y β s a w):∀{ts:List TypeId}{xs:List Operand}{K:Ab->Cc->Option R},VC P (P7 s.hp) ts (xs.map (Dd s.tm)) K=some r ->
  ∃ps m,K ps m=some r/\(∀id∈m,∃f cc,s.hp id=some (.ar f cc))/\∀fz:Cc,(∀id∈m,id∈fz)->(∀id∈fz,∃f cc,s.hp id=some (.ar f cc))->Ca (Zg w (D4 (Al s.hp fz) β Y)) ps (xs.map a.eval)
 |[],[],K,hk=>⟨[],[],hk,by simp,fun _ _ _=>trivial⟩
 |[],_::_,K,hk=>by cases hk
 |_::_,[],K,hk=>by cases hk
 |t::ts,x::xs,K,hk=>by
  simp only[Sn] at hk;unfold VC at hk;obtain⟨p,m,hk,hm,hv⟩:=Arp h hk;obtain⟨ps,ms,hk,XA,Xt⟩:=Aav h hk;refine⟨p::ps,m++ms,hk,?_,fun fz h1 h2=>⟨hv fz (fun i hi=>h1 i (by simp[hi])) h2,Xt fz (fun i hi=>h1 i (by simp[hi])) h2⟩⟩;intro i hi;rcases B4.1 hi with hi|hi
  ·exact hm i hi
  ·exact XA i hi
theorem Zg.weaken{A':Nat->Prop}(hA:∀b,b<w.heap.size->A' b->A b){p:PV}{v:Value}(h:Zg w A p v):Zg w A' p v:=by
 have one:GT p->GT p/\Bd w A p v->Zg w A' p v:=by
  intro hp h;cases p<;>first|exact⟨h.1,h.2.step (C6.refl _ _) hA⟩|exact hp.elim
 cases p with
 |agg cs=>
  obtain⟨vs,rfl,h2⟩:=h;exact⟨vs,rfl,h2.mono fun c v hc=>⟨hc.1,hc.2.step (C6.refl _ _) hA⟩⟩
 |_=>exact one h.1 h
theorem Atr{t:CT}{p:PV}{K:PV->Option R}(h:NM t p K=some r):
  ∃c,K c=some r/\GT c/\GT p/\(∀(w:World) (A:Nat->Prop) (β:Nat->Option (Nat × Nat)) (v:Value),Cz w A β p v->Bd w A c v/\v.oneCell'=true)/\((∀es,t ≠ .sl es)->∃v,c=.sc v):=by
 obtain⟨c,hk,hT,WN,hv⟩:=To h;cases t with
 |sl es=>exact⟨c,hk,hT,WN,hv,fun Gu=>absurd rfl (Gu es)⟩
 |int k=>obtain⟨n,rfl,h2⟩:=Hb h;exact⟨_,h2,trivial,trivial,fun w A β v hv=>⟨hv,by have:=Bd.val (w:=w) (A:=A) hv;subst this;rfl⟩,fun _=>⟨_,rfl⟩⟩
 |bool=>obtain⟨n,rfl,h2⟩:=Ft h;exact⟨_,h2,trivial,trivial,fun w A β v hv=>⟨hv,by have:=Bd.val (w:=w) (A:=A) hv;subst this;rfl⟩,fun _=>⟨_,rfl⟩⟩
 |str=>obtain⟨n,rfl,h2⟩:=Fq h;exact⟨_,h2,trivial,trivial,fun w A β v hv=>⟨hv,by have:=Bd.val (w:=w) (A:=A) hv;subst this;rfl⟩,fun _=>⟨_,rfl⟩⟩
 |any=>
  obtain⟨f,a,b,rfl,h2⟩:=Ad6 (show fnK p (fun v=>K (.sc v))=some r from h);exact⟨_,h2,trivial,trivial,fun w A β v hv=>⟨hv,by have:=Bd.val (w:=w) (A:=A) hv;subst this;rfl⟩,fun _=>⟨_,rfl⟩⟩
theorem FH(shr:Bool)(N:Nat):∀{ts:List CT}{ps:Ab}{id:Nat}{K:Ab->List (Nat × Cb)->Option R},Yu shr N id ts ps K=some r ->
  ∃cs bs,K cs bs=some r/\ps.length=ts.length/\(∀p∈ps,∀x,p ≠ .agg x/\p ≠ .pbox x)/\(∀c∈cs,YX c)/\((∀es,CT.sl es ∉ ts)->bs=[]/\∀c∈cs,∃v,c=.sc v) /\
   (∀i bx,(i,bx)∈bs->∃j es n c,ps[j]?=some (.own es n c)/\i=id+N*j/\bx=.ar false c) /\
   (∀c∈cs,∀i∈Ba c,∃bx,(i,bx)∈bs) /\
   ∀(w:World) (A:Nat->Prop) (own β':Bt) (j0:Nat) (us:List Value),(∀j,(∃bx,(id+N*j,bx)∈bs)->β' (id+N*j)=own (j0+j))->Iu w A own j0 ps us->Ca (Cz w A β') cs us
 |[],ps,id,K,hk=>by
  obtain⟨rfl,hk⟩:=Fh hk;refine⟨[],[],hk,rfl,by simp,by simp,by simp,by simp,by simp,fun w A own β' j0 us _ h=>?_⟩;cases us with
  |nil=>trivial
  |cons u us=>exact h.elim
 |t::ts,ps,id,K,hk=>by
  unfold Yu at hk;obtain⟨p,ps',QQ,Fc⟩:=Bv hk;subst QQ;clear hk
  have main:∃c b,(Yu shr N (id+N) ts ps' fun cs bs=>K (c::cs) (b++bs))=some r/\(∀x,p ≠ .agg x/\p ≠ .pbox x)/\YX c/\((∀es,t≠CT.sl es)->b=[]/\∃v,c=.sc v)/\(∀i bx,(i,bx)∈b->∃es n cc,p=.own es n cc/\i=id/\bx=.ar false cc)/\(∀i∈Ba c,∃bx,(i,bx)∈b) /\
    ∀(w:World) (A:Nat->Prop) (own:Option (Nat × Nat)) (β':Bt) (u:Value),((∃bx,(id,bx)∈b)->β' id=own)->Lf w A own p u->Cz w A β' c u:=by
   have tree:∀t',t'=t->(NM t' p fun c=>Yu shr N (id+N) ts ps' fun cs bs=>K (c::cs) ([]++bs))=some r->∃c b,(Yu shr N (id+N) ts ps' fun cs bs=>K (c::cs) (b++bs))=some r/\(∀x,p ≠ .agg x/\p ≠ .pbox x)/\YX c/\((∀es,t≠CT.sl es)->b=[]/\∃v,c=.sc v)/\(∀i bx,(i,bx)∈b->∃es n cc,p=.own es n cc/\i=id/\bx=.ar false cc)/\(∀i∈Ba c,∃bx,(i,bx)∈b) /\
     ∀(w:World) (A:Nat->Prop) (own:Option (Nat × Nat)) (β':Bt) (u:Value),((∃bx,(id,bx)∈b)->β' id=own)->Lf w A own p u->Cz w A β' c u:=by
    intro t' ht' hk;have hsc:=Atr hk;obtain⟨c,hk,hT,WN,hv,hsc⟩:=hsc;refine⟨c,[],hk,fun x=>⟨LR WN x,by rintro rfl;exact WN⟩,AV hT,fun Gu=>⟨rfl,hsc (fun es e=>Gu es (ht'.symm.trans e))⟩,by simp,by rw[Ml hT];simp,fun w A own β' u _ hc=>?_⟩
    have AE:Cz w A β' p u:=by cases p<;>first|exact hc|exact WN.elim
    exact (Se hT).2 (hv w A β' u AE).1
   unfold Ath at Fc;cases t with
   |sl es=>
    dsimp only at Fc;cases shr
    ·unfold J0 at Fc;simp only[cond_false] at Fc;split at Fc
     ·rename_i es' n c;cases hb:Nat.beq es' es
      ·rw[hb] at Fc;cases Fc
      ·rw[hb] at Fc;have:=Ez hb;subst this;refine⟨_,_,Fc,by simp,trivial,fun Gu=>absurd rfl (Gu _),?_,?_,fun w A own β' u hβ hc=>?_⟩
       ·intro i bx hm;simp at hm;exact⟨_,_,_,rfl,hm.1,hm.2⟩
       ·intro i hi;simp[Ba] at hi;subst hi;exact⟨.ar false c,by simp⟩
       ·have hβ':=hβ ⟨.ar false c,by simp⟩;clear hβ;rcases hc with⟨h1,rfl,rfl,h4⟩|⟨b,ob,cap,h1,h2,h3,h4,h5,_⟩
        ·exact .inl ⟨hβ'.trans h1,rfl,rfl,h4⟩
        ·exact .inr ⟨b,ob,ob,cap,hβ'.trans h1,h2,.inl rfl,h3,h4,h5⟩
     ·cases Fc
    ·obtain⟨c,hk,hT,WN,hv,_⟩:=Atr (t:=.sl es) (p:=p) (K:=fun c=>Yu true N (id+N) ts ps' fun cs bs=>K (Ad4 c::cs) ([]++bs)) Fc;have hU:GT (Ad4 c):=by cases c<;>exact hT
     refine⟨Ad4 c,[],hk,fun x=>⟨LR WN x,by rintro rfl;exact WN⟩,AV hU,fun Gu=>absurd rfl (Gu _),by simp,by rw[Ml hU];simp,fun w A own β' u _ hc=>?_⟩
     have AE:Cz w A β' p u:=by cases p<;>first|exact hc|exact WN.elim
     refine (Se hU).2 ?_;have:=(hv w A β' u AE).1;cases c with
     |lst z es n c=>exact Bd.unz this
     |_=>exact this
   |int k=>exact tree (.int k) rfl Fc
   |bool=>exact tree .bool rfl Fc
   |str=>exact tree .str rfl Fc
   |any=>exact tree .any rfl Fc
  obtain⟨c,b,hk,hpa,hF,TB,Jt,Q6,QM⟩:=main;obtain⟨cs,bs,hk,hl,Bba,hFs,A21,Bae,Bcw,Bbt⟩:=FH shr N hk;refine⟨c::cs,b++bs,hk,by simp[hl],?_,?_,?_,?_,?_,fun w A own β' j0 us hβ hoc=>?_⟩
  ·intro x hx;rcases B7.1 hx with rfl|hx
   ·exact hpa
   ·exact Bba x hx
  ·intro x hx;rcases B7.1 hx with rfl|hx
   ·exact hF
   ·exact hFs x hx
  ·intro Gu;obtain⟨h1,v,h2⟩:=TB (fun es e=>Gu es (by rw[e];simp))
   obtain⟨h3,h4⟩:=A21 (fun es hm=>Gu es (by simp[hm]));refine⟨by rw[h1,h3];rfl,fun x hx=>?_⟩
   rcases B7.1 hx with rfl|hx
   ·exact⟨v,h2⟩
   ·exact h4 x hx
  ·intro i bx hm;rcases B4.1 hm with hm|hm
   ·obtain⟨es,n,cc,rfl,rfl,rfl⟩:=Jt i bx hm;exact⟨0,es,n,cc,rfl,by simp,rfl⟩
   ·obtain⟨j,es,n,cc,h1,rfl,h3⟩:=Bae i bx hm;exact⟨j+1,es,n,cc,by simpa using h1,by rw[Nat.mul_add];omega,h3⟩
  ·intro x hx i hi;rcases B7.1 hx with rfl|hx
   ·obtain⟨bx,hm⟩:=Q6 i hi;exact⟨bx,by simp[hm]⟩
   ·obtain⟨bx,hm⟩:=Bcw x hx i hi;exact⟨bx,by simp[hm]⟩
  ·cases us with
   |nil=>exact hoc.elim
   |cons u us=>
    refine⟨QM w A (own j0) β' u (fun ⟨bx,hm⟩=>by have:=hβ 0 ⟨bx,by simp[hm]⟩;simpa using this) hoc.1,?_⟩
    refine Bbt w A own β' (j0+1) us (fun j ⟨bx,hm⟩=>?_) hoc.2;have e:id+N+N*j=id+N*(j+1):=by rw[Nat.mul_add];omega
    have:=hβ (j+1) ⟨bx,by rw[<-e];simp[hm]⟩
    rw[e,this]
    congr 1
    omega
end
open Go.RowKit
section
variable {R:Type}{r:R}{P:Program}{N:Nat}{w0:World}{X0:Gt}{Y:Nat->Prop}{β β':Bt}{s:St}{a:Act}{w w':World}{o:Oper}{A:Nat->Prop}
theorem Iu.len:∀{j:Nat}{own:Bt}{ps:Ab}{us:List Value},Iu w A own j ps us->ps.length=us.length
 |_,_,[],[],_=>rfl
 |_,_,_::_,_::_,h=>by simp[Iu.len h.2]
 |_,_,[],_::_,h=>h.elim
 |_,_,_::_,[],h=>h.elim
theorem Iu.at_:∀{j:Nat}{own:Bt}{ps:Ab}{us:List Value},Iu w A own j ps us->∀{i:Nat} {p},ps[i]?=some p->∃u,us[i]?=some u/\Lf w A (own (j+i)) p u
 |_,_,[],[],_,i,p,h=>by simp at h
 |j,own,_::_,u::_,h,0,p,hp=>by simp at hp;subst hp;exact⟨u,rfl,h.1⟩
 |j,own,_::_,_::_,h,i+1,p,hp=>by
  simp at hp;obtain⟨u,hu,hc⟩:=Iu.at_ h.2 hp;exact⟨u,by simpa using hu,by rw[show j+(i+1)=j+1+i from by omega];exact hc⟩
 |_,_,[],_::_,h,_,_,_=>h.elim
 |_,_,_::_,[],h,_,_,_=>h.elim
def Aum(N id:Nat)(β':Bt)(w:World)(A:Nat->Prop)(z n:Nat)(bs:List (Nat × Cb)):Prop:=
 ∀i bx,(i,bx)∈bs->(∃j,i=id+N*j/\j<n)/\Db (some bx)/\Ys w A β' i bx/\∀cs,bx=.st cs->∀b o,β' i=some (b,o)->z<=b
def PM(bs:List (Nat × Cb)):Prop:=∀i cells,(i,.st cells)∈bs->∀c∈cells,∀i'∈Ba c,∃bx,(i',bx)∈bs
theorem KN{q:Option (Nat × Nat)}{es n i:Nat}{c:Ab}{u:Value}(h:Lf w A q (.own es n c) u)(hβ:β' i=q):Ys w A β' i (.ar false c):=by
 rcases h with⟨h1,_,h2,_⟩|⟨b,o,cap,h1,_,_,_,_,h6,h7⟩
 ·exact .inl ⟨hβ.trans h1,h2⟩
 ·exact .inr ⟨b,o,hβ.trans h1,h6,fun _=>h7,(fun x=>by cases x)⟩
theorem NO{t:TypeId}(h:Pj P [t]=false):MQ P t=none/\∀es,CT.sl es ∉ M5 P t:=by simp only[Pj,List.any_cons,List.any_nil,Bool.or_false,Bool.or_eq_false_iff] at h;refine⟨by simpa using h.1,fun es hm=>?_⟩;have:=List.any_eq_false.1 h.2 _ hm;simp at this
theorem As5(shr:Bool)(N:Nat){t:TypeId}{p:PV}{id:Nat}{K:PV->List (Nat × Cb)->Option R}(hk:Ape P shr N id t p K=some r):
  ∃v bs,K v bs=some r/\plc p=Aho P t/\(∀x,v ≠ .tup x)/\(Pj P [t]=false->bs=[]/\∀c∈cellsOf v,∃u,c=.sc u)/\(∀i∈C2 v,∃bx,(i,bx)∈bs)/\PM bs /\
   ∀(w:World) (A:Nat->Prop) (own β':Bt) (z j0:Nat) (u:Value),(∀j,(∃bx,(id+N*j,bx)∈bs)->β' (id+N*j)=own (j0+j))->Ay3 w A own z j0 p u->Jv w A β' v u/\Aum N id β' w A z (plc p) bs:=by
 have boxes:∀{bs:List (Nat × Cb)} {ps:Ab} {id:Nat},(∀i bx,(i,bx)∈bs->∃j es n c,ps[j]?=some (.own es n c)/\i=id+N*j/\bx=.ar false c) ->
   PM bs/\∀(w:World) (A:Nat->Prop) (own β':Bt) (j0:Nat) (us:List Value),(∀j,(∃bx,(id+N*j,bx)∈bs)->β' (id+N*j)=own (j0+j))->Iu w A own j0 ps us->∀z,Aum N id β' w A z ps.length bs:=by
  intro bs ps id Jt;refine⟨fun i cells hm=>?_,fun w A own β' j0 us hβ ho z i bx hm=>?_⟩
  ·obtain⟨_,_,_,_,_,_,h3⟩:=Jt i _ hm;cases h3
  ·obtain⟨j,es,n,cc,h1,h2,h3⟩:=Jt i bx hm;obtain⟨u,hu,hoc⟩:=ho.at_ h1;subst h3;refine⟨⟨j,h2,?_⟩,trivial,KN hoc ?_,fun _ e=>by cases e⟩
   ·rcases Mh j ps.length with h|h
    ·exact h
    ·rw[List.getElem?_eq_none h] at h1;cases h1
   ·rw[h2];exact hβ j ⟨_,h2 ▸ hm⟩
 unfold Ape at hk;split at hk
 ·rename_i e he;obtain⟨ps,rfl,hk⟩:=Abl hk;obtain⟨cs,bs,hk,hl,Ax7,hF,TB,Jt,Q6,QM⟩:=FH shr N hk;obtain⟨hri,P4⟩:=boxes Jt;refine⟨.ptr id 0,_,hk,by simp only[plc,Aho,he,hl],by simp,fun h=>?_,fun i hi=>?_,fun i cells hm c hc i' hi'=>?_,fun w A own β' z j0 u hβ ho=>?_⟩
  ·have:=(NO h).1;rw[he] at this;cases this
  ·simp only[C2,Ba,M0] at hi;subst hi;exact⟨_,KS⟩
  ·rcases B7.1 hm with e|hm
   ·cases e;obtain⟨bx,hb⟩:=Q6 c hc i' hi';exact⟨bx,Sx _ hb⟩
   ·obtain⟨bx,hb⟩:=hri i cells hm c hc i' hi';exact⟨bx,Sx _ hb⟩
  ·obtain⟨b,o,h1,hz,rfl,vs,h3,h4,h5⟩:=ho;have h0:=hβ 0 ⟨_,by rw[Nat.mul_zero,JY];exact KS⟩
   rw[Nat.mul_zero,JY,JY,h1] at h0;have B6:∀j,id+N+N*j=id+N*(j+1):=fun j=>by rw[Nat.mul_add];omega
   have hβ1:∀j,(∃bx,(id+N+N*j,bx)∈bs)->β' (id+N+N*j)=own (j0+1+j):=fun j ⟨bx,hm⟩=>by
    rw[B6,hβ (j+1) ⟨bx,by rw[<-B6];exact Sx _ hm⟩]
    congr 1;omega
   have hc2:=QM w A own β' (j0+1) vs hβ1 h3;have hb3:=P4 w A own β' (j0+1) vs hβ1 h3 z;have H2:cs.length=ps.length:=by rw[hc2.len,<-h3.len]
   refine⟨⟨b,o,h0,by simp⟩,fun i bx hm=>?_⟩;rcases B7.1 hm with e|hm
   ·cases e;refine⟨⟨0,by simp,by simp only[plc];omega⟩,trivial,⟨b,o,h0,fun k c hk=>?_,fun k hk=>h5 k (by omega)⟩,fun _ _ b' o' Kh=>?_⟩
    ·obtain⟨v,hv,hcr⟩:=hc2.get hk;exact⟨v,h4 k v hv,hcr⟩
    ·rw[h0] at Kh;cases Kh;exact hz
   ·obtain⟨⟨j,hj,hjn⟩,h6,h7⟩:=hb3 i bx hm;exact⟨⟨j+1,by rw[hj,B6],by simp only[plc];omega⟩,h6,h7⟩
 ·rename_i hnp;have SO:Aho P t=(M5 P t).length:=by simp only[Aho,hnp]
  cases Jy:C9 P t
  ·rw[Jy] at hk;obtain⟨cs,bs,hk,hl,Ax7,hF,TB,Jt,Q6,QM⟩:=FH shr N (show Yu _ _ _ _ _ _=some r from hk);obtain⟨c,t',rfl,hk⟩:=Bv hk;obtain⟨rfl,hk⟩:=Fh hk;have hFc:=hF c (by simp);have A5u:∀x,p ≠ .pbox x:=fun x=>(Ax7 p (by simp) x).2;have A3t:∀x,c ≠ .agg x:=by rintro x rfl;exact hFc
   have Bbb:∀x,c ≠ .tup x:=by rintro x rfl;exact hFc
   have hr1:C2 c=Ba c:=by cases c<;>first|rfl|exact absurd rfl (A3t _)
   have hpa:∀x,p ≠ .agg x:=fun x=>(Ax7 p (by simp) x).1;obtain⟨hri,P4⟩:=boxes Jt;have hcell:cellsOf p=[p]:=by cases p<;>first|rfl|exact absurd rfl (hpa _)
   have A8a:plc p=1:=by cases p<;>first|rfl|exact absurd rfl (hpa _)|exact absurd rfl (A5u _)
   have hcc:cellsOf c=[c]:=by cases c<;>first|rfl|exact absurd rfl (A3t _)
   refine⟨c,bs,hk,by rw[A8a,SO];exact hl,Bbb,fun Gu=>by rw[hcc];exact TB (NO Gu).2,fun i hi=>Q6 c (by simp) i (by rw[<-hr1];exact hi),hri,fun w A own β' z j0 u hβ ho=>?_⟩
   have ho':Lf w A (own j0) p u:=by cases p<;>first|exact ho|exact absurd rfl (hpa _)|exact absurd rfl (A5u _)
   exact⟨(BI A3t).2 (QM w A own β' j0 [u] hβ ⟨ho',trivial⟩).1,by rw[A8a];exact P4 w A own β' j0 [u] hβ ⟨ho',trivial⟩ z⟩
  ·rw[Jy] at hk;obtain⟨ps,rfl,hk⟩:=Lx (show Dl _ _=some r from hk);obtain⟨cs,bs,hk,hl,Ax7,hF,TB,Jt,Q6,QM⟩:=FH shr N hk;obtain⟨hri,P4⟩:=boxes Jt;refine⟨.agg cs,bs,hk,by rw[SO];exact hl,by simp,fun Gu=>TB (NO Gu).2,fun i hi=>?_,hri,fun w A own β' z j0 u hβ ho=>?_⟩
   ·obtain⟨c,hc,hi⟩:=List.mem_flatMap.1 (show i∈cs.flatMap Ba from hi);exact Q6 c hc i hi
   ·obtain⟨vs,rfl,ho⟩:=ho;exact⟨⟨vs,rfl,QM w A own β' j0 vs hβ ho⟩,P4 w A own β' j0 vs hβ ho z⟩
theorem OZ(shr:Bool)(N:Nat):∀{ts:List TypeId}{ps:Ab}{id:Nat}{K:Ab->List (Nat × Cb)->Option R},QH P shr N id ts ps K=some r ->
  ∃vs bs,K vs bs=some r/\vs.length=ps.length/\(∀v∈vs,∀x,v ≠ .tup x)/\(Pj P ts=false->bs=[]/\∀v∈vs,∀c∈cellsOf v,∃u,c=.sc u)/\(∀v∈vs,∀i∈C2 v,∃bx,(i,bx)∈bs)/\PM bs /\
   ∀(w:World) (A:Nat->Prop) (own β':Bt) (z j0:Nat) (us:List Value),(∀j,(∃bx,(id+N*j,bx)∈bs)->β' (id+N*j)=own (j0+j))->Ano w A own z j0 ps us->Ca (Jv w A β') vs us/\Aum N id β' w A z (V4 ps) bs
 |[],ps,id,K,hk=>by
  obtain⟨rfl,hk⟩:=Fh hk;refine⟨[],[],hk,rfl,by simp,by simp,by simp,(by intro i cells hm;cases hm),fun w A own β' z j0 us _ h=>?_⟩
  cases us with
  |nil=>exact⟨trivial,by intro i bx hm;cases hm⟩
  |cons u us=>exact h.elim
 |t::ts,ps,id,K,hk=>by
  unfold QH at hk;obtain⟨p,ps',QQ,Fc⟩:=Bv hk;subst QQ;clear hk;obtain⟨v,bs,hk,hl,hnt,TB,hr1,hri,hv⟩:=As5 shr N Fc;obtain⟨vs,bs',hk,hvl,Bdd,A21,hrs,A98,Xt⟩:=OZ shr N hk;refine⟨v::vs,bs++bs',hk,by simp[hvl],?_,?_,?_,?_,fun w A own β' z j0 us hβ ho=>?_⟩
  ·intro x hx;rcases B7.1 hx with rfl|hx
   ·exact hnt
   ·exact Bdd x hx
  ·intro Gu;simp only[Pj,List.any_cons,Bool.or_eq_false_iff] at Gu;obtain⟨h1,h2⟩:=TB (by simp only[Pj,List.any_cons,List.any_nil,Bool.or_false,Bool.or_eq_false_iff];exact Gu.1)
   obtain⟨h3,h4⟩:=A21 (by simp only[Pj];exact Gu.2)
   refine⟨by rw[h1,h3];rfl,fun x hx=>?_⟩
   rcases B7.1 hx with rfl|hx
   ·exact h2
   ·exact h4 x hx
  ·intro x hx i hi;rcases B7.1 hx with rfl|hx
   ·obtain⟨bx,hm⟩:=hr1 i hi;exact⟨bx,by simp[hm]⟩
   ·obtain⟨bx,hm⟩:=hrs x hx i hi;exact⟨bx,by simp[hm]⟩
  ·intro i cells hm c hc i' hi';rcases B4.1 hm with hm|hm
   ·obtain⟨bx,hb⟩:=hri i cells hm c hc i' hi';exact⟨bx,by simp[hb]⟩
   ·obtain⟨bx,hb⟩:=A98 i cells hm c hc i' hi';exact⟨bx,by simp[hb]⟩
  ·cases us with
   |nil=>exact ho.elim
   |cons u us=>
    obtain⟨h1,Jt⟩:=hv w A own β' z j0 u (fun j ⟨bx,hm⟩=>hβ j ⟨bx,by simp[hm]⟩) ho.1;have B6:∀j,id+N*Aho P t+N*j=id+N*(Aho P t+j):=fun j=>by rw[Nat.mul_add];omega
    obtain⟨h2,Q6⟩:=Xt w A own β' z (j0+plc p) us (fun j ⟨bx,hm⟩=>by rw[B6,hβ _ ⟨bx,by rw[<-B6];simp[hm]⟩,hl];congr 1;omega) ho.2
    refine⟨⟨h1,h2⟩,fun i bx hm=>?_⟩;rcases B4.1 hm with hm|hm
    ·obtain⟨⟨j,hj,hjn⟩,h4,h5⟩:=Jt i bx hm;exact⟨⟨j,hj,by simp only[V4,Sn,List.sum_cons];omega⟩,h4,h5⟩
    ·obtain⟨⟨j,hj,hjn⟩,h4,h5⟩:=Q6 i bx hm;refine⟨⟨_,by rw[hj,B6],?_⟩,h4,h5⟩;simp only[V4,Sn,List.sum_cons] at hjn ⊢;omega
def SD(N d:Nat)(bs:List (Nat × Cb))(own β:Bt):Bt:=fun i=>if (bs.any fun q=>Nat.beq q.1 i)=true then own ((i-d) / N) else β i
theorem Acf{bs:List (Nat × Cb)}{i:Nat}:(bs.any fun q=>Nat.beq q.1 i)=true↔∃bx,(i,bx)∈bs:=by
 rw[List.any_eq_true];constructor
 ·rintro⟨⟨j,bx⟩,hm,e⟩
  have:=Ez e;subst this;exact⟨bx,hm⟩
 ·rintro⟨bx,hm⟩
  exact⟨_,hm,P6 i⟩
theorem Ana{N d j:Nat}(hN:0<N){bs:List (Nat × Cb)}{own β:Bt}(h:∃bx,(d+N*j,bx)∈bs):SD N d bs own β (d+N*j)=own j:=by unfold SD;rw[Bn (Acf.2 h),Nat.add_sub_cancel_left,Nat.mul_div_cancel_left _ hN]
theorem LG{c:Call}{f:FuncId}(ho:o.op=.call c)(hc:c.callee=.value (.func f))(Lg:NoNG P){fn:Func}(hf:P.funcs[f]?=some fn)(hb:fn.body.isSome=true):
  (execOp a.eval o).run P w=.ok (.enter f (c.args.map a.eval)) w:=by
 unfold execOp;rw[ho]
 have hn:¬fn.body=none:=by
  intro h;rw[h] at hb;cases hb
 have Gu:¬fn.name = "runtime.NumGoroutine" :=by simpa using Lg f fn hf
 simp[resolve,hc,Act.eval,Deferred.ofValue,invoke,callFunc,hf,Gu,hn]
theorem Aox{c:Call}{t:Nat}{f:FuncId}(ho:o.op=.call c)(hc:c.callee=.value (.tmp t))(ht:a.eval (.tmp t)=.func (.func f) #[] #[])(Lg:NoNG P){fn:Func}(hf:P.funcs[f]?=some fn)(hb:fn.body.isSome=true):
  (execOp a.eval o).run P w=.ok (.enter f (c.args.map a.eval)) w:=by
 unfold execOp;rw[ho]
 have hn:¬fn.body=none:=by
  intro h;rw[h] at hb;cases hb
 have Gu:¬fn.name = "runtime.NumGoroutine" :=by simpa using Lg f fn hf
 simp[resolve,hc,ht,Deferred.ofValue,invoke,callFunc,hf,Gu,hn]
theorem RL{A':Nat->Prop}(k:Bool):∀{xs:List Operand}{ps:Ab},Ca (Zg w A') ps (xs.map a.eval)->Ca (Zg w A') (Pd k xs ps) (xs.map a.eval)
 |[],[],h=>h
 |[],_::_,h=>h
 |_::_,[],h=>h
 |x::xs,p::ps,h=>by
  simp only[Sn] at h ⊢;refine⟨?_,RL k h.2⟩;split
  ·exact⟨trivial,Bd.lnil _ _⟩
  ·exact h.1
theorem UC(h : Cj N w0 X0 Y β s a w){G : Ze}(Lg : RO P G w0 X0){C : Kr}{call : Bq}(Dn : ∀ f args res, call f args = some res -> Dr G P f args res){c : Call}{f : FuncId}(Eo : ∀ {fn : Func}, P.funcs[f]? = some fn -> fn.body.isSome = true -> (execOp a.eval o).run P w = .ok (.enter f (c.args.map a.eval)) w){K : PV -> Cc -> List (Nat × Cb) -> Option R}(hk : (VC P (P7 s.hp) (XR P f c) (c.args.toList.map (Dd s.tm)) fun vs m =>
          Bj (call f (Pd (C.kz f) c.args.toList vs)) fun rv ro => Ar ro (As (Nat.blt 0 N) <| QH P (C.shr f) N (o.dst.getD 0) (Um P o.type) rv fun ws bs =>
            As (bif Wy P o.type then !Nat.beq ws.length 1 else Nat.beq ws.length 1) <| K (Ux ws (Wy P o.type)) (bif Pj P (Um P o.type) then m else []) bs)) = some r): ∃ v fz nw, K v fz nw = some r /\ WM P a w o Y β s v fz nw := by
  obtain⟨ps, m, hk, hm, F1⟩ := Aav h hk
  replace F1 := fun fz h1 h2 => RL (a := a) (C.kz f) (F1 fz h1 h2)
  generalize Pd (C.kz f) c.args.toList ps = ps at hk F1
  obtain⟨rv, ro, CN, hk⟩ := Abs hk
  obtain⟨rfl, hk⟩ := Fh hk
  obtain⟨hN, hk⟩ := A5 hk
  have hN : 0 < N := Nat.lt_of_succ_le (Ya hN)
  obtain⟨ws, bs, hk, hwl, hnt, TB, hrs, hri, hws⟩ := OZ (C.shr f) N hk
  obtain⟨Y2, hk⟩ := A5 hk
  obtain⟨⟨fn, hfn, hfb⟩, hcs⟩ := Dn f ps _ CN
  obtain⟨fz, PB, hfm⟩ : ∃ fz : Cc, fz = (bif Pj P (Um P o.type) then m else []) /\ ∀ id ∈ fz, ∃ f c, s.hp id = some (.ar f c) := by
    refine⟨_, rfl, fun id B6 => ?_⟩
    cases hh : Pj P (Um P o.type) <;> rw[hh] at B6
    · cases B6
    · exact hm id B6
  rw[<- PB] at hk
  refine⟨_, _, _, hk, hfm, fun next Q hn => ?_⟩
  have hf := h.freeze hfm
  have hYc : ∃ Yc : Nat -> Prop, (∀ b, Yc b -> b < w.heap.size) /\ Ca (Zg w Yc) ps (c.args.toList.map a.eval) /\ ((∀ b, D4 (Al s.hp fz) β Y b -> Yc b) \/ Pj P (Um P o.type) = false) := by
    have BG := F1 m (fun _ hi => hi) hm
    cases hh : Pj P (Um P o.type)
    · exact⟨fun _ => False, fun _ x => x.elim, BG.mono fun _ _ hx => hx.weaken (fun _ _ x => x.elim), .inr rfl⟩
    · rw[hh] at PB
      have PB : fz = m := PB
      subst PB
      refine⟨D4 (Al s.hp fz) β Y, fun b hb => ?_, BG, .inl fun _ x => x⟩
      rcases hb with⟨id, ob, hl, hβ⟩ | hY
      · exact hf.blt id b ob (Ed hl) hβ
      · exact Jp (h.Ylt b hY) h.fr.step.size
  obtain⟨Yc, A13, hYargs, hYA⟩ := hYc
  unfold Oper.wp
  rw[Eo hfn hfb]
  show Calls P f _ w _
  have hca : c.args.map a.eval = (c.args.toList.map a.eval).toArray := by rw[<- List.map_toArray, Array.toArray_toList]
  rw[hca]
  refine (hcs w Yc EO _ (Agj A13 hYargs) (Lg.fr w h.fr) (fun b x => ⟨Jp (Lg.y b x).1 h.fr.step.size, Ti b⟩)).mono ?_
  rintro e w' ⟨vs, own, rfl, Aea⟩
  refine hn (Nv vs) w' fun X1 => ⟨SD N (o.dst.getD 0) bs own β, ?_⟩
  obtain⟨ha1, ha2⟩ := Cl X1
  have Ava : ∀ i bx, (i, bx) ∈ bs -> Al s.hp fz i = none := fun i bx hm => Gd.2 (ha1 i bx hm)
  obtain⟨hg1, hg2⟩ := G3 (hp := Al s.hp fz) ha2
  have hold : ∀ i, Al s.hp fz i ≠ none -> SD N (o.dst.getD 0) bs own β i = β i := by
    intro i hi
    unfold SD
    rw[A4]
    intro hx
    obtain⟨bx, hm⟩ := Acf.1 hx
    exact hi (Ava i bx hm)
  obtain⟨Xt, hba⟩ := hws w' _ own (SD N (o.dst.getD 0) bs own β) w.heap.size 0 vs (fun j hj => by rw[Ana hN hj, Ck]) Aea.vals
  have JD : ∀ i bx, (i, bx) ∈ bs -> ∃ j, i = o.dst.getD 0 + N * j /\ SD N (o.dst.getD 0) bs own β i = own j := by
    intro i bx hm
    obtain⟨⟨j, rfl, _⟩, _, _⟩ := hba i bx hm
    exact⟨j, rfl, Ana hN ⟨bx, hm⟩⟩
  have hAA : Pj P (Um P o.type) = false \/ ∀ b, D4 (Bf (Al s.hp fz) bs) (SD N (o.dst.getD 0) bs own β) Y b -> TK EO own Yc b := by
    rcases hYA with hYA | hYA
    · refine .inr fun b hb => ?_
      rcases hb with⟨i, ob, hl, hβ⟩ | hY
      · by_cases hi : ∃ bx, (i, bx) ∈ bs
        · obtain⟨bx, hm⟩ := hi
          obtain⟨j, _, h3⟩ := JD i bx hm
          rw[h3] at hβ
          exact .inl ⟨j, ob, hβ⟩
        · rw[hg2 i (fun bx hm => hi ⟨bx, hm⟩)] at hl
          rw[hold i (Ed hl)] at hβ
          exact .inr (.inr (hYA b (.inl ⟨i, ob, hl, hβ⟩)))
      · exact .inr (.inr (hYA b (.inr hY)))
    · exact .inl hYA
  have hval : Fe w' (D4 (Bf (Al s.hp fz) bs) (SD N (o.dst.getD 0) bs own β) Y) (SD N (o.dst.getD 0) bs own β) (Ux ws (Wy P o.type)) (Nv vs) := by
    have BG : Ca (Jv w' (D4 (Bf (Al s.hp fz) bs) (SD N (o.dst.getD 0) bs own β) Y) (SD N (o.dst.getD 0) bs own β)) ws vs := by
      rcases hAA with hno | hAA
      · obtain⟨_, hsc⟩ := TB hno
        refine Xt.mono_mem fun v hv u hvu => ?_
        have hsc := hsc v hv
        cases v with
        | agg cs =>
          obtain⟨xs, rfl, YG⟩ := hvu
          refine⟨xs, rfl, YG.mono_mem fun cc hcc x hx => ?_⟩
          obtain⟨y, rfl⟩ := hsc cc hcc
          have := Bd.val (w := w') hx
          subst this
          exact Bd.sc _
        | sc y =>
          have := Bd.val (w := w') hvu
          subst this
          exact Bd.sc _
        | lst z es n cc => obtain⟨y, hy⟩ := hsc _ (Xy _); cases hy
        | own es n cc => obtain⟨y, hy⟩ := hsc _ (Xy _); cases hy
        | view i es n cc => obtain⟨y, hy⟩ := hsc _ (Xy _); cases hy
        | ptr i cc => obtain⟨y, hy⟩ := hsc _ (Xy _); cases hy
        | iptr i cc => obtain⟨y, hy⟩ := hsc _ (Xy _); cases hy
        | pbox cc => obtain⟨y, hy⟩ := hsc _ (Xy _); cases hy
        | tup cc => obtain⟨y, hy⟩ := hsc _ (Xy _); cases hy
        | top => obtain⟨y, hy⟩ := hsc _ (Xy _); cases hy
        | ub => obtain⟨y, hy⟩ := hsc _ (Xy _); cases hy
      · exact Xt.mono fun v u hvu => hvu.step (C6.refl _ _) (fun b _ => hAA b) (fun _ _ => rfl)
    have H2 := BG.len
    cases hT : Wy P o.type
    · rw[hT] at Y2
      have h1 : ws.length = 1 := Ez Y2
      match ws, vs, h1, H2 with
      | [v], [u], _, _ =>
        exact (Tq (hnt v (by simp))).2 BG.1
    · rw[hT] at Y2
      have h1 : ¬ ws.length = 1 := by
        intro e
        rw[e] at Y2
        cases Y2
      have hr : Nv vs = .tuple ⟨vs⟩ := by
        unfold Nv
        split
        · simp at H2; omega
        · rfl
      rw[hr]
      exact⟨vs, rfl, BG⟩
  refine⟨Aea.os, Aea.tape, Aea.output, Aea.ext.weaken (fun b _ hb => Ti b hb), hold, ?_, ?_, ?_, ?_, ?_, hval, ?_⟩
  · intro i bx hm
    exact (hba i bx hm).2.1
  · intro i bx hm
    rcases hAA with hno | hAA
    · rw[(TB hno).1] at hm; cases hm
    · exact (hba i bx hm).2.2.1.step' hAA
  · intro i bx b ob hm hβ
    obtain⟨j, _, h3⟩ := JD i bx hm
    rw[h3] at hβ
    obtain⟨h4, h5⟩ := Aea.fresh j b ob hβ
    refine⟨?_, h4⟩
    rcases Mh b w.heap.size with h | h
    · obtain⟨⟨_, _, _, h6⟩, _⟩ := h5 h
      cases h6
    · exact h
  · intro i bx i' bx' b ob ob' hm Nh hβ hβ'
    obtain⟨j, h1, h3⟩ := JD i bx hm
    obtain⟨j', h1', h3'⟩ := JD i' bx' Nh
    rw[h3] at hβ
    rw[h3'] at hβ'
    rw[h1, h1', Aea.inj j j' b ob ob' hβ hβ']
  · intro i cells hm c hc i' hi'
    exact .inr (hri i cells hm c hc i' hi')
  · intro i hi
    right
    cases hT : Wy P o.type
    · rw[hT] at Y2 hi
      have h1 : ws.length = 1 := Ez Y2
      match ws, h1 with
      | [v], _ =>
        refine hrs v (by simp) i ?_
        have : Cn v = C2 v := by
          have hn := hnt v (by simp)
          cases v <;> first | rfl | exact absurd rfl (hn _)
        rw[<- this]
        exact hi
    · rw[hT] at hi
      obtain⟨v, hv, hi⟩ := List.mem_flatMap.1 (show i ∈ ws.flatMap C2 from hi)
      exact hrs v hv i hi
end
open Go.RowKit
section
variable {R:Type}{r:R}{P:Program}{N:Nat}{w0:World}{X0:Gt}{Y:Nat->Prop}{β β':Bt}{s:St}{a:Act}{w w':World}{o:Oper}{A:Nat->Prop}
theorem Cj.move(h:Cj N w0 X0 Y β s a w){id d:Nat}{c cells:Ab}{bo:Option (Nat × Nat)}{v:PV}{val:Value}(h0:s.hp id=some (.ar false c))(hd:s.hp d=none)(hdN:d<N)(hos:w'.os=w.os)(htp:w'.tape=w.tape)(Aea:w'.output=w.output)(Agv:w.heap.size<=w'.heap.size)(Rl:∀k,k<w.heap.size->(∀x,β id≠some (k,x))->w'.heap[k]?=w.heap[k]?)(TY:∀k,k<w.heap.size->bsz w k<=bsz w' k)(hbo:∀k x,bo=some (k,x)->k<w'.heap.size/\(w.heap.size<=k\/∃y,β id=some (k,y)))(hbr:∀k x,bo=some (k,x)->k<w.heap.size->β id=some (k,x))(hO:∀k y,β id=some (k,y)->k<w.heap.size->∀j,j<y->w'.cell? ⟨k,j,none⟩=w.cell? ⟨k,j,none⟩/\w'.frozen? ⟨k,j,none⟩=w.frozen? ⟨k,j,none⟩)(P4:Ys w' (D4 (D2 (D2 s.hp id (some .mv)) d (some (.ar false cells))) (D2 β d bo) Y) (D2 β d bo) d (.ar false cells))(hv:Fe w' (D4 (D2 (D2 s.hp id (some .mv)) d (some (.ar false cells))) (D2 β d bo) Y) (D2 β d bo) v val)(hr:∀i∈Cn v,i=d):
  Cj N w0 X0 Y (D2 β d bo) ⟨D2 s.tm d v,D2 (D2 s.hp id (some .mv)) d (some (.ar false cells))⟩ (a.put (some d) val) w':=by
 have Gu:id≠d:=by rintro rfl;rw[h0] at hd;cases hd
 have Akh:∀i,i≠id->i≠d->D2 (D2 s.hp id (some Cb.mv)) d (some (.ar false cells)) i=s.hp i:=fun i h1 h2=>by rw[Ax _ _ h2,Ax _ _ h1]
 have Ayv:D2 (D2 s.hp id (some Cb.mv)) d (some (.ar false cells)) id=some .mv:=by rw[Ax _ _ Gu,A8]
 have hgd:D2 (D2 s.hp id (some Cb.mv)) d (some (.ar false cells)) d=some (.ar false cells):=A8 _ _ _
 have M6:∀i,s.hp i≠none->D2 (D2 s.hp id (some Cb.mv)) d (some (.ar false cells)) i≠none:=by
  intro i hi;by_cases e:i=id
  ·subst e;rw[Ayv];simp
  ·by_cases e':i=d
   ·subst e';rw[hgd];simp
   ·rw[Akh i e e'];exact hi
 have hβo:∀i,s.hp i≠none->D2 β d bo i=β i:=fun i hi=>Ax _ _ (by rintro rfl;exact hi hd)
 have Ae1:Db (s.hp id):=by rw[h0];trivial
 have Kj:∀i,Db (D2 (D2 s.hp id (some Cb.mv)) d (some (.ar false cells)) i)->i=d\/(i≠id/\i≠d/\Db (s.hp i)):=by
  intro i hi;by_cases e':i=d
  ·exact .inl e'
  ·by_cases e:i=id
   ·subst e;rw[Ayv] at hi;exact hi.elim
   ·rw[Akh i e e'] at hi;exact .inr ⟨e,e',hi⟩
 have hX:∀k,k<w.heap.size->JO (D2 (D2 s.hp id (some .mv)) d (some (.ar false cells))) (D2 β d bo) k->JO s.hp β k:=by
  rintro k hk ⟨i,x,hl,hβ⟩
  rcases Kj i hl with rfl|⟨e,e',hl⟩
  ·rw[A8] at hβ;rcases (hbo k x hβ).2 with Kn|⟨y,hy⟩
   ·omega
   ·exact⟨id,y,Ae1,hy⟩
  ·rw[Ax _ _ e'] at hβ;exact⟨i,x,hl,hβ⟩
 have hAo:∀k,k<w.heap.size->D4 (D2 (D2 s.hp id (some .mv)) d (some (.ar false cells))) (D2 β d bo) Y k->D4 s.hp β Y k:=fun k hk hx=>hx.imp (hX k hk) (fun y=>y);have Hm:C6 (D4 s.hp β Y) w w':=⟨Agv,fun k hk hn=>Rl k hk fun x hx=>hn (.inl ⟨id,x,Ae1,hx⟩),TY⟩
 have Aq9:∀i k x,i≠id->i≠d->(∃b,s.hp i=some b/\b ≠ .mv)->β i=some (k,x)->k<w.heap.size/\w'.heap[k]?=w.heap[k]?:=by
  rintro i k x e e' ⟨b,hb,hmv⟩ hβ
  have hk:=h.blt i k x (by rw[hb];simp) hβ
  refine⟨hk,Rl k hk fun y hy=>?_⟩;have Apf:=h.box i b hb;cases b with
  |st cc=>exact e (h.inj i id k x y (by rw[hb];trivial) Ae1 hβ hy)
  |ar fz cc=>
   cases fz with
   |false=>exact e (h.inj i id k x y (by rw[hb];trivial) Ae1 hβ hy)
   |true=>
    rcases Apf with⟨h1,_⟩|⟨k',x',h1,_,_,h4⟩
    ·rw[hβ] at h1;cases h1
    ·rw[hβ] at h1;simp at h1;obtain⟨rfl,rfl⟩:=h1
     exact h4 rfl (.inl ⟨id,y,Ae1,hy⟩)
  |mv=>exact absurd rfl hmv
 refine⟨by rw[Ln];exact h.dfr,by rw[I1];exact h.tsz,?_,?_,?_,?_,?_,?_,?_,?_,?_,?_,?_,?_,h.Ylt,?_⟩
 ·intro i hi;show D2 s.tm d v i=_;rw[Ax _ _ (by omega)];exact h.tmo i hi
 ·refine Wt (d:=some d) (Q:=fun _ p u=>Fe w' (D4 (D2 (D2 s.hp id (some .mv)) d (some (.ar false cells))) (D2 β d bo) Y) (D2 β d bo) p u) h.tsz (by simp[J3,Nat.blt];omega) (fun i hi=>?_) (fun _=>hv)
  exact (h.tms i hi).step Hm hAo fun j hj=>hβo j (h.wfT i hi j hj)
 ·intro i bi hb;simp only at hb;by_cases e':i=d
  ·subst e';rw[hgd] at hb;cases hb;exact P4
  ·by_cases e:i=id
   ·subst e;rw[Ayv] at hb;cases hb;trivial
   ·rw[Akh i e e'] at hb;have hβi:=hβo i (by rw[hb];simp)
    have RR:=h.box i bi hb;cases bi with
    |st cc=>
     obtain⟨k,x,h1,h2,h3⟩:=RR;obtain⟨hk,GQ⟩:=Aq9 i k x e e' ⟨_,hb,by simp⟩ h1;refine⟨k,x,by rw[hβi];exact h1,fun j p hj=>?_,fun j hj=>?_⟩
     ·obtain⟨u,hu,hc⟩:=h2 j p hj;exact⟨u,by rw[World.cell?_of_block (w:=w) GQ];exact hu,hc.step Hm hAo fun q hq=>hβo q (h.wfB i cc hb p (List.mem_of_getElem? hj) q hq)⟩
     ·rw[World.frozen?_of_block (w:=w) GQ];exact h3 j hj
    |ar fz cc=>
     rcases RR with⟨h1,h2⟩|⟨k,x,h1,h2,h3,h4⟩
     ·exact .inl ⟨by rw[hβi];exact h1,h2⟩
     ·obtain⟨hk,GQ⟩:=Aq9 i k x e e' ⟨_,hb,by simp⟩ h1;refine .inr ⟨k,x,by rw[hβi];exact h1,fun j p hj=>?_,fun ef j hj CM=>?_,fun ef hx=>h4 ef (hAo k hk hx)⟩
      ·obtain⟨u,hu,h5,hc⟩:=h2 j p hj;exact⟨u,by rw[World.cell?_of_block (w:=w) (by rw[Iv];exact GQ)];exact hu,h5,hc.step Hm hAo⟩
      ·rw[World.frozen?_of_block (w:=w) GQ];refine h3 ef j hj ?_;unfold bsz at CM ⊢;rw[GQ] at CM;exact CM
    |mv=>trivial
 ·intro i i' k x y hl Q7 hb Kh;simp only at hl Q7
  have key:∀j z,j≠id->j≠d->Db (s.hp j)->β j=some (k,z)->bo=some (k,y)\/bo=some (k,x)->False:=by
   intro j z e e' hlj hβj hbk;have hk:=h.blt j k z (Ed hlj) hβj;have:∃t,bo=some (k,t):=by rcases hbk with q|q<;>exact⟨_,q⟩
   obtain⟨t,ht⟩:=this;rcases (hbo k t ht).2 with Kn|⟨q,hq⟩
   ·omega
   ·exact e (h.inj j id k z q hlj Ae1 hβj hq)
  rcases Kj i hl with rfl|⟨e,e',Zx⟩
  ·rcases Kj i' Q7 with rfl|⟨e2,e2',A16⟩
   ·rfl
   ·rw[A8] at hb;rw[Ax _ _ e2'] at Kh;exact (key i' y e2 e2' A16 Kh (.inr hb)).elim
  ·rcases Kj i' Q7 with rfl|⟨e2,e2',A16⟩
   ·rw[A8] at Kh;rw[Ax _ _ e'] at hb;exact (key i x e e' Zx hb (.inl Kh)).elim
   ·rw[Ax _ _ e'] at hb;rw[Ax _ _ e2'] at Kh;exact h.inj i i' k x y Zx A16 hb Kh
 ·intro i k x hi hb;simp only at hi;by_cases e':i=d
  ·subst e';rw[A8] at hb;exact (hbo k x hb).1
  ·rw[Ax _ _ e'] at hb
   have hi':s.hp i≠none:=by
    by_cases e:i=id
    ·subst e;rw[h0];simp
    ·rw[Akh i e e'] at hi;exact hi
   exact Jp (h.blt i k x hi' hb) Agv
 ·have:=Wt (d:=some d) (Q:=fun _ p _=>∀j∈Cn p,D2 (D2 s.hp id (some Cb.mv)) d (some (.ar false cells)) j≠none) (val:=val) (v:=v) h.tsz (by simp[J3,Nat.blt];omega) (fun i hi j hj=>M6 j (h.wfT i hi j hj)) (fun _ j hj=>by
   rw[hr j hj,hgd];simp)
  exact this
 ·intro i cc hc p hp j hj;simp only at hc;by_cases e':i=d
  ·subst e';rw[hgd] at hc;cases hc
  ·by_cases e:i=id
   ·subst e;rw[Ayv] at hc;cases hc
   ·rw[Akh i e e'] at hc;exact M6 j (h.wfB i cc hc p hp j hj)
 ·rintro k ⟨i,x,hl,hβ⟩
  rcases Kj i hl with rfl|⟨e,e',hl⟩
  ·rw[A8] at hβ;rcases (hbo k x hβ).2 with Kn|⟨y,hy⟩
   ·exact .inr (Nat.le_trans h.fr.step.size Kn)
   ·exact h.ownd k ⟨id,y,Ae1,hy⟩
  ·rw[Ax _ _ e'] at hβ;exact h.ownd k ⟨i,x,hl,hβ⟩
 ·intro i bi k x RR hli hβ Cr j hj;simp only at RR;rcases Kj i (by rw[RR];exact hli) with rfl|⟨e,e',hl⟩
  ·rw[A8] at hβ;rw[hgd] at RR;cases RR;have:=hbr k x hβ (Jp Cr h.fr.step.size);exact h.rngB id (.ar false c) k x h0 trivial this Cr j hj
  ·rw[Akh i e e'] at RR;rw[Ax _ _ e'] at hβ;exact h.rngB i bi k x RR hli hβ Cr j hj
 ·intro i hi;exact⟨M6 _ (h.pin i hi).1,by rw[hβo _ (h.pin i hi).1];exact (h.pin i hi).2⟩
 ·intro i cc k x RR hβ Cr;simp only at RR;rcases Kj i (by rw[RR];trivial) with rfl|⟨e,e',hl⟩
  ·rw[hgd] at RR;cases RR
  ·rw[Akh i e e'] at RR;rw[Ax _ _ e'] at hβ;exact h.stp i cc k x RR hβ Cr
 ·intro k hY hx;exact h.Yx k hY (hX k (Jp (h.Ylt k hY) h.fr.step.size) hx)
 ·refine⟨hos.trans h.fr.os,htp.trans h.fr.tape,Aea.trans h.fr.output,⟨Nat.le_trans h.fr.step.size Agv,fun k hk hnk=>?_,fun k hk=>Nat.le_trans (h.fr.step.bs k hk) (TY k (Jp hk h.fr.step.size))⟩,fun k j hk hL=>?_⟩
  ·rw[Rl k (Jp hk h.fr.step.size) ?_]
   ·exact h.fr.step.keep k hk hnk
   ·intro x hx;rcases h.ownd k ⟨id,x,Ae1,hx⟩ with hq|hq
    ·exact hnk hq
    ·omega
  ·have hkw:=Jp hk h.fr.step.size
   have BX:w'.cell? ⟨k,j,none⟩=w.cell? ⟨k,j,none⟩/\w'.frozen? ⟨k,j,none⟩=w.frozen? ⟨k,j,none⟩:=by
    by_cases e:∃y,β id=some (k,y)
    ·obtain⟨y,hy⟩:=e;refine hO k y hy hkw j ?_;rcases Mh j y with q|q
     ·exact q
     ·exact absurd (h.rngB id (.ar false c) k y h0 trivial hy hk j q) hL
    ·have GQ:=Rl k hkw (fun x hx=>e ⟨x,hx⟩);exact⟨World.cell?_of_block (w:=w) GQ,World.frozen?_of_block (w:=w) GQ⟩
   rw[BX.1,BX.2];exact h.fr.rng k j hk hL
end
open Go.RowKit
section
variable {R:Type}{r:R}{P:Program}{N:Nat}{w0:World}{X0:Gt}{Y:Nat->Prop}{β β':Bt}{s:St}{a:Act}{w w':World}{o:Oper}{A:Nat->Prop}
structure Src(P:Program)(w:World)(A:Nat->Prop)(size:Nat)(xv:Value)(m:Nat)(new:Ab)(news:List Value):Prop where
 len:∀w':World,(Builtin.lenOf xv).run P w'=.ok m w'
 cells:∀w':World,(∀b,b<w.heap.size->w'.heap[b]?=w.heap[b]?)->(Builtin.firstCells size m xv).run P w'=.ok news.toArray w'
 part:∀k,k<=m->(Builtin.firstCells size k xv).run P w=.ok (news.take (k*size)).toArray w
 one:∀u∈news,u.oneCell'=true
 rep:Ca (Bd w A) new news
theorem UI(h:Cj N w0 X0 Y β s a w){e tx:TypeId}{x:Operand}{K:Nat->Ab->Option R}(hk:Ajs P s (Bw P e) tx (Dd s.tm x) K=some r)(h1c:∀m new,K m new=some r->new.length=m*Bw P e):
  (∃d,P.underlying tx=some d/\(∀k,d ≠ .int k))/\∃m new news,K m new=some r/\Src P w (D4 s.hp β Y) (Bw P e) (a.eval x) m new news:=by
 unfold Ajs Ak5 at hk;split at hk
 ·rename_i hu;obtain⟨QV,hk⟩:=A5 hk;have QV:=Ez QV;obtain⟨b,hx,hk⟩:=Fq hk;have E9:=D5 h hx;refine⟨⟨_,hu,by simp⟩,b.size,Ej b,b.data.toList.map (fun y=>Value.int .u8 y.toNat),hk,?_,?_,?_,?_,?_⟩
  ·intro w';rw[E9];rfl
  ·intro w' _;rw[E9]
   have hx:b.data.extract 0 b.size=b.data:=by
    have:b.size=b.data.size:=rfl;rw[this,Array.extract_size]
   have hd:(b.extract 0 b.size).data=b.data:=by
    rw[ByteArray.extract_zero_size]
   simp only[Builtin.firstCells,hd];rw[<-Array.toList_map,Array.toArray_toList];rfl
  ·intro k Kn;rw[E9,QV,De];have hd:(b.extract 0 k).data=b.data.extract 0 k:=ByteArray.data_extract
   have e1:(b.data.extract 0 k).map (fun y=>Value.int .u8 y.toNat)=((b.data.toList.map fun y=>Value.int .u8 y.toNat).take k).toArray:=by
    apply Array.toList_inj.1;simp[List.map_take]
   simp only[Builtin.firstCells,hd];rw[e1];rfl
  ·intro u hu;simp at hu;obtain⟨y,_,rfl⟩:=hu;rfl
  ·unfold Ej;generalize b.data.toList=l
   induction l with
   |nil=>trivial
   |cons y l ih=>exact⟨Bd.sc _,ih⟩
 ·rename_i e' hu;refine⟨⟨_,hu,by simp⟩,?_⟩;obtain⟨m,new,hk,hc⟩:=Ahe h hk;have H2:=h1c m new hk;rcases hc with⟨⟨ad,E9⟩,rfl,rfl⟩|⟨ad,cap,E9,hn,Cr,hrd⟩
  ·have f0:∀w':World,(Builtin.firstCells (Bw P e) 0 (.slice ad 0 0)).run P w'=.ok #[] w':=fun w'=>by
    cases ad with
    |none=>rfl
    |some p=>exact run_firstCells_some (P:=P) w' (Bw P e) 0 p 0 0 [] (by simp) (fun j v hj=>by simp at hj)
   exact⟨0,[],[],hk,fun w'=>by rw[E9];rfl,fun w' _=>by rw[E9];exact f0 w',fun k Kn=>by rw[E9,Nat.le_zero.1 Kn,List.take_nil];exact f0 w,by simp,trivial⟩
  ·refine⟨m,new,new.mapIdx (fun j _=>(w.cell? (ad.add j)).getD undef),hk,fun w'=>by rw[E9];rfl,fun w' hw=>?_,fun k Kn=>?_,?_,?_⟩
   ·rw[E9];refine run_firstCells_some (P:=P) w' (Bw P e) m ad m cap _ (by simp[H2]) fun j v hj=>?_;rw[List.getElem?_mapIdx] at hj;cases hc:new[j]? with
    |none=>rw[hc] at hj;cases hj
    |some c=>
     rw[hc] at hj;simp at hj;obtain⟨u,hu,_⟩:=hrd j c hc;rw[hu] at hj;simp at hj;subst hj;have Cr:ad.block<w.heap.size:=by rcases Cr with rfl|Cr<;>first|exact Cr|simp at hc
     rw[World.cell?_of_block (w:=w) (by rw[Iv];exact hw _ Cr)]
     exact hu
   ·rw[E9];have hkm:k*Bw P e<=m*Bw P e:=Nat.mul_le_mul_right _ Kn;refine run_firstCells_some (P:=P) w (Bw P e) k ad m cap _ (by rw[List.length_take,List.length_mapIdx,H2];omega) fun j v hj=>?_
    rw[List.getElem?_take] at hj;split at hj
    ·rw[List.getElem?_mapIdx] at hj;cases hc:new[j]? with
     |none=>rw[hc] at hj;cases hj
     |some c=>
      rw[hc] at hj;simp at hj;obtain⟨u,hu,_⟩:=hrd j c hc;rw[hu] at hj;simp at hj;subst hj;exact hu
    ·cases hj
   ·intro u hu;obtain⟨j,hj⟩:=List.mem_iff_getElem?.1 hu;rw[List.getElem?_mapIdx] at hj;cases hc:new[j]? with
    |none=>rw[hc] at hj;cases hj
    |some c=>
     rw[hc] at hj;simp at hj;obtain⟨v,hv,h2,ht⟩:=hrd j c hc;rw[hv] at hj;simp at hj;subst hj;exact h2
   ·refine Ca.of_at (by simp) fun j c v hc hj=>?_;rw[List.getElem?_mapIdx,hc] at hj;simp at hj;obtain⟨u,hu,_,ht⟩:=hrd j c hc;rw[hu] at hj;simp at hj;subst hj;exact ht
 ·cases hk
theorem TP{e:TypeId}(h:Aem P e=true):∃i z,P.info? e=some i/\i.zero=some z/\z.cells.size=i.size/\Bw P e=i.size:=by
 unfold Aem at h;split at h
 ·rename_i i hi;split at h
  ·rename_i z hz;exact⟨i,z,hi,hz,Ez h,by simp[Bw,hi]⟩
  ·cases h
 ·cases h
theorem SC{es n cap:Nat}{ad:Option Addr}{olds:List Value}(h:(ad=none/\olds=[])\/∃p,ad=some p/\olds.length=n*es/\∀(j:Nat) v,olds[j]?=some v->w.cell? (p.add j)=some v):
  (Builtin.firstCells es n (.slice ad n cap)).run P w=.ok olds.toArray w:=by
 rcases h with⟨rfl,rfl⟩|⟨p,rfl,hl,hc⟩
 ·rfl
 ·exact run_firstCells_some (P:=P) w es n p n cap olds hl hc
theorem Sy{t tx ty e:TypeId}{i:TypeInfo}{z:Value}{d:TypeDesc}{ts:List TypeId}(ht:P.underlying t=some (.slice e))(htx:P.underlying tx=some d)(hd:∀k,d ≠ .int k)(hi:P.info? e=some i)(hz:i.zero=some z){ad:Option Addr}{n cap m:Nat}{xv:Value}{olds news:List Value}{A:Nat->Prop}{new:Ab}(hs:Src P w A i.size xv m new news)(hold:(ad=none/\olds=[])\/∃p,ad=some p/\olds.length=n*i.size/\∀(j:Nat) v,olds[j]?=some v->w.cell? (p.add j)=some v)(hg:cap<n+m)(hb:(n+m)*i.bytes<=1099511627776)(h63:n+m<=1099511627776):
  (Builtin.append_ (t::tx::ts).toArray ty #[.slice ad n cap,xv]).run P w =
   .ok (.slice (some ⟨w.heap.size,0,none⟩) (n+m) (grownCap w (n+m) cap e)) (w.drew.alloc (.cells (olds.toArray++news.toArray++Builtin.zeroCells z.cells (grownCap w (n+m) cap e-(n+m))) e)):=by
 have h1:=hs.len w;have h2:(Builtin.firstCells i.size m xv).run P w.drew=.ok news.toArray w.drew:=hs.cells w.drew (fun _ _=>rfl)
 have h3:(Builtin.firstCells i.size n (.slice ad n cap)).run P w.drew=.ok olds.toArray w.drew:=SC (w:=w.drew) (by
  rcases hold with hh|⟨p,hp,hl,hc⟩
  ·exact .inl hh
  ·exact .inr ⟨p,hp,hl,fun j v hj=>hc j v hj⟩)
 have Ap7:=growslice_fits (need:=n+m) (old:=cap) (bytes:=i.bytes) hg (by omega);have hn:¬(n+m<=cap):=by omega
 have Aw9:¬(9223372036854775807<((n:Int)+(m:Int))):=by omega
 have Awu:¬(281474976710656<Builtin.nextslicecap (n+m) cap*i.bytes):=by omega
 have VD:(match d with | .int _=>true|_=>false)=false:=by cases d<;>first|rfl|exact absurd rfl (hd _)
 simp[Builtin.append_,run_underlying ht,run_underlying htx,VD,sizeOf,typeInfo,zeroValue,hi,hz,h1,hn,Aw9,Awu,Question.forced,h2,h3,newRow,grownCap]
 congr 2
 apply Array.ext';simp[FX]
theorem SM{t tx ty e:TypeId}{i:TypeInfo}{d:TypeDesc}{ts:List TypeId}(ht:P.underlying t=some (.slice e))(htx:P.underlying tx=some d)(hd:∀k,d ≠ .int k)(hi:P.info? e=some i){b ob n cap m:Nat}{xv:Value}{news:List Value}{A:Nat->Prop}{new:Ab}(hs:Src P w A i.size xv m new news)(hl:news.length=m*i.size)(hcell:∀k,k<news.length->(w.cell? ⟨b,ob+n*i.size+k,none⟩).isSome=true)(YP:∀k,k<news.length->w.frozen? ⟨b,ob+n*i.size+k,none⟩=false)(hg:n+m<=cap):
  (Builtin.append_ (t::tx::ts).toArray ty #[.slice (some ⟨b,ob,none⟩) n cap,xv]).run P w=.ok (.slice (some ⟨b,ob,none⟩) (n+m) cap) (w.setCells b (ob+n*i.size) news):=by
 have h1:=hs.len w;have h2:(Builtin.firstCells i.size m xv).run P w=.ok news.toArray w:=hs.cells w (fun _ _=>rfl);have h3:=run_storeCells_cells (P:=P) b (ob+n*i.size) news 0 w (fun k hk=>by simpa using hcell k hk) (fun k hk=>by simpa using YP k hk) hs.one;have VD:(match d with | .int _=>true|_=>false)=false:=by cases d<;>first|rfl|exact absurd rfl (hd _)
 have _:=hl;simp[Builtin.append_,run_underlying ht,run_underlying htx,VD,sizeOf,typeInfo,hi,h1,hg,h2,Fy];rw[h3];simp
theorem Ag6{t ty e:TypeId}{i:TypeInfo}{ts:List TypeId}(ht:P.underlying t=some (.slice e))(hi:P.info? e=some i){ad:Option Addr}{n cap m:Nat}{xv:Value}{news:List Value}{A:Nat->Prop}{new:Ab}(hs:Src P w A i.size xv m new news){w1:World}(Hm:(match ad with|some p=>storeCells p (news.take (min m n*i.size)) 0|none=>pure ()).run P w=.ok () w1):
  (Builtin.copy_ (t::ts).toArray ty #[.slice ad n cap,xv]).run P w=.ok (goInt ((min m n:Nat):Int)) w1:=by
 have h1:=hs.len w;have h2:=hs.part (min m n) (Nat.min_le_left _ _);have e:Nat.min m n=min m n:=rfl;generalize min m n=k at *
 cases ad with
 |none=>
  simp only at Hm;simp[Builtin.copy_,run_underlying ht,sizeOf,typeInfo,hi,h1,h2,e]
  simpa using Hm
 |some p=>
  simp only at Hm;simp[Builtin.copy_,run_underlying ht,sizeOf,typeInfo,hi,h1,h2,e,Hm]
theorem NS{t tx ty e:TypeId}{i:TypeInfo}{k kx:IntKind}{ts:List TypeId}(ht:P.underlying t=some (.slice e))(htx:P.underlying tx=some (.int k))(hi:P.info? e=some i):
  (Builtin.append_ (t::tx::ts).toArray ty #[.slice none 0 0,.int kx 0]).run P w=.ok (.slice none 0 0) w:=by
 have hw:IntKind.i64.wrap 0=0:=by decide
 simp[Builtin.append_,run_underlying ht,run_underlying htx,sizeOf,typeInfo,hi,asInt,asIntOf,hw]
theorem SG{t tx ty e:TypeId}{i:TypeInfo}{z:Value}{k kx:IntKind}{ts:List TypeId}(ht:P.underlying t=some (.slice e))(htx:P.underlying tx=some (.int k))(hi:P.info? e=some i)(hz:i.zero=some z){n:Int}(h0:0<n)(hb:n.toNat*i.bytes<=1099511627776)(hn:n<=1099511627776):
  (Builtin.append_ (t::tx::ts).toArray ty #[.slice none 0 0,.int kx n]).run P w =
   .ok (.slice (some ⟨w.heap.size,0,none⟩) n.toNat (grownCap w n.toNat 0 e)) (w.drew.alloc (.cells ((if n.toNat*i.size=0 then #[] else Builtin.zeroCells z.cells n.toNat)++Builtin.zeroCells z.cells (grownCap w n.toNat 0 e-n.toNat)) e)):=by
 have hw:IntKind.i64.wrap n=n:=IntWalk.i64_in n (by omega);have Ap7:=growslice_fits (need:=n.toNat) (old:=0) (bytes:=i.bytes) (by omega) (by omega);have ST:¬n<0:=by omega
 have M6:¬(281474976710656<n*(i.bytes:Int)):=by
  have:n*(i.bytes:Int)=((n.toNat*i.bytes:Nat):Int):=by
   rw[Int.natCast_mul,Int.toNat_of_nonneg (by omega)]
  omega
 have hz0:¬(n.toNat=0):=by omega
 have Aw9:¬(9223372036854775807<(n.toNat:Int)):=by omega
 have Awu:¬(281474976710656<Builtin.nextslicecap n.toNat 0*i.bytes):=by omega
 have FC:¬n<=0:=by omega
 have hmx:¬(9223372036854775807<max n 0):=by omega
 by_cases hs:n.toNat*i.size=0
 ·simp[Builtin.append_,run_underlying ht,run_underlying htx,sizeOf,typeInfo,zeroValue,hi,hz,asInt,asIntOf,hw,ST,M6,hz0,FC,hmx,Aw9,Awu,Question.forced,hs,newRow,grownCap,Builtin.firstCells]
 ·simp[Builtin.append_,run_underlying ht,run_underlying htx,sizeOf,typeInfo,zeroValue,hi,hz,asInt,asIntOf,hw,ST,M6,hz0,FC,hmx,Aw9,Awu,Question.forced,hs,newRow,grownCap,Builtin.firstCells]
theorem So{t tx ty e:TypeId}{i:TypeInfo}{d:TypeDesc}{ts:List TypeId}(ht:P.underlying t=some (.slice e))(htx:P.underlying tx=some d)(hd:∀k,d ≠ .int k)(hi:P.info? e=some i){ad:Option Addr}{xv:Value}{news:List Value}{A:Nat->Prop}{new:Ab}(hs:Src P w A i.size xv 0 new news)(h0:news=[]):
  (Builtin.append_ (t::tx::ts).toArray ty #[.slice ad 0 0,xv]).run P w=.ok (.slice ad 0 0) w:=by
 subst h0;have h1:=hs.len w;have h2:(Builtin.firstCells i.size 0 xv).run P w=.ok ([]:List Value).toArray w:=hs.cells w (fun _ _=>rfl);have VD:(match d with | .int _=>true|_=>false)=false:=by cases d<;>first|rfl|exact absurd rfl (hd _)
 cases ad<;>simp[Builtin.append_,run_underlying ht,run_underlying htx,VD,sizeOf,typeInfo,hi,h1,h2,storeCells]
end
open Go.RowKit
section
variable {R:Type}{r:R}{P:Program}{N:Nat}{w0:World}{X0:Gt}{Y:Nat->Prop}{β β':Bt}{s:St}{a:Act}{w w':World}{o:Oper}{A:Nat->Prop}
theorem Au4{b j:Nat}(h:j<bsz w b):(w.cell? ⟨b,j,none⟩).isSome=true:=by
 unfold bsz at h;unfold World.cell?;split at h
 ·rename_i c e fz hb;simp[hb,h]
 ·omega
theorem Ajf{id d:Nat}{c cells:Ab}{bo:Option (Nat × Nat)}(h0:s.hp id=some (.ar false c))(hd:s.hp d=none)(hbo:∀k x,bo=some (k,x)->w.heap.size<=k\/∃y,β id=some (k,y)):
  ∀k,k<w.heap.size->D4 (D2 (D2 s.hp id (some .mv)) d (some (.ar false cells))) (D2 β d bo) Y k->D4 s.hp β Y k:=by
 rintro k hk (⟨i,x,hl,hβ⟩|hY)
 ·by_cases e':i=d
  ·subst e';rw[A8] at hβ;rcases hbo k x hβ with h|⟨y,hy⟩
   ·omega
   ·exact .inl ⟨id,y,by rw[h0];trivial,hy⟩
  ·rw[Ax _ _ e'] at hl hβ;by_cases e:i=id
   ·subst e;rw[A8] at hl;exact hl.elim
   ·rw[Ax _ _ e] at hl;exact .inl ⟨i,x,hl,hβ⟩
 ·exact .inr hY
theorem VO{pre new:Ab}{olds news:List Value}{zs:Array Value}{e:TypeId}{A':Nat->Prop}(hg:J6 w w' (olds.toArray++news.toArray++zs) e)(hA:∀b,b<w.heap.size->A' b->A b)(h1:Ca (Bd w A) pre olds)(h2:Ca (Bd w A) new news)(ho:∀u∈olds,u.oneCell'=true)(hn:∀u∈news,u.oneCell'=true):YL w' A' ⟨w.heap.size,0,none⟩ (pre++new):=by
 refine Am9 hg hA fun j p hj=>?_;obtain⟨v,hv,ht⟩:=(h1.app h2).get hj;refine⟨v,?_,?_,ht⟩
 ·have Cr:j<(olds++news).length:=by
   rcases Mh j (olds++news).length with h|h
   ·exact h
   ·rw[List.getElem?_eq_none h] at hv;cases hv
  rw[Array.getElem?_append_left (by simpa using Cr)]
  simpa using hv
 ·rcases B4.1 (List.mem_of_getElem? hv) with hm|hm
  ·exact ho v hm
  ·exact hn v hm
theorem Aeb(h:Cj N w0 X0 Y β s a w){c:Call}(ho:o.op=.call c)(hc:c.callee=.builtin .append)(hnb:MK c=true){d:Nat}(Aoe:o.dst=some d){b x:Operand}(F1:c.args.toList=[b,x]){t tx:TypeId}{ts:List TypeId}(RX:c.argTypes.toList=t::tx::ts){K:PV->List (Nat × Cb)->Option R}(hk:FO P (P7 s.hp) d t tx (Dd s.tm x) K=some r):∃v nw,K v nw=some r/\G9 P a w o Y β s v [] nw:=by
 have hb:b=.const (.slice none 0 0):=by
  unfold MK at hnb;rw[F1] at hnb;split at hnb
  ·rename_i e;injection e
  ·cases hnb
 have WY:c.args = #[b,x]:=by
  have:c.args=([b,x]:List Operand).toArray:=by rw[<-F1]
  exact this
 have Aiq:c.argTypes=(t::tx::ts).toArray:=by rw[<-RX]
 have X1:a.eval b=.slice none 0 0:=by rw[hb];rfl
 have run:∀{v:Value} {w1:World},(Builtin.append_ (t::tx::ts).toArray o.type #[a.eval b,a.eval x]).run P w=.ok v w1->(execOp a.eval o).run P w=.ok (.value v) w1:=by
  intro v w1 hr;unfold execOp;rw[ho];simp only[resolve,hc,invoke,builtin,Sem.run_bind,Sem.run_pure,Result.andThen_ok,WY,Aiq];have:(#[b,x]:Array Operand).map a.eval = #[a.eval b,a.eval x]:=by simp
  rw[this,hr];rfl
 unfold FO at hk;split at hk
 ·rename_i e hu;obtain⟨hzi,hk⟩:=A5 hk;obtain⟨i,z,hi,hz,hzs,K9⟩:=TP hzi;have EK:((P.info? e).map (·.bytes)).getD 0=i.bytes:=by rw[hi];rfl
  obtain⟨⟨dx,hdx,Ahp⟩,m,new,news,hk,hs⟩:=UI (s:=s) h hk (fun m new Kn=>by
   obtain⟨hb,_⟩:=A5 Kn;simp only[G6,GU] at hb;exact hb.1.1)
  obtain⟨Kh,hk⟩:=A5 hk;simp only[G6,GU] at Kh;obtain⟨⟨Anc,hby⟩,hnm⟩:=Kh;have hnl:new.length=news.length:=hs.rep.len;rw[K9] at Anc hk hs;rw[EK] at hby;have PQ:news.length=m*i.size:=by omega
  refine⟨_,_,hk,by simp,?_⟩;by_cases hm0:m=0
  ·subst hm0;have hr:=So (P:=P) (w:=w) (t:=t) (tx:=tx) (ty:=o.type) (ts:=ts) (ad:=none) hu hdx Ahp hi hs (List.eq_nil_of_length_eq_zero (by omega));rw[<-X1] at hr;have Af6:new=[]:=List.eq_nil_of_length_eq_zero (by omega);subst Af6;refine⟨_,_,run hr,fun As3=>⟨D2 β d none,?_⟩⟩;have JX:s.hp d=none:=(Cl As3).1 d _ (Xy _);rw[X1];refine⟨rfl,rfl,rfl,C6.refl _ _,fun j hj=>Ax _ _ (by rintro rfl;exact hj JX),?_,?_,?_,?_,?_,.inl ⟨A8 _ _ _,rfl,rfl,none,rfl⟩,?_⟩
   ·intro j bx hm;simp at hm;rw[hm.2];trivial
   ·intro j bx hm;simp at hm;obtain⟨rfl,rfl⟩:=hm;exact .inl ⟨A8 _ _ _,rfl⟩
   ·intro j bx k q hm hq;simp at hm;obtain⟨rfl,rfl⟩:=hm;rw[A8] at hq;cases hq
   ·intro j bx j' bx' k q q' hm Nh _ _;simp at hm Nh;rw[hm.1,Nh.1]
   ·intro j cells hm;simp at hm
   ·intro j hj;simp[Cn,C2,Ba] at hj;subst hj;exact .inr ⟨.ar false [],by simp⟩
  ·have hr:=Sy (P:=P) (w:=w) (t:=t) (tx:=tx) (ty:=o.type) (ts:=ts) (ad:=none) (n:=0) (cap:=0) (olds:=[]) hu hdx Ahp hi hz hs (.inl ⟨rfl,rfl⟩) (by omega) (by rw[Ck];exact hby) (by omega)
   rw[<-X1] at hr;refine⟨_,_,run hr,fun As3=>⟨D2 β d (some (w.heap.size,0)),?_⟩⟩;have JX:s.hp d=none:=(Cl As3).1 d _ (Xy _);have hge:0+m<=grownCap w (0+m) 0 e:=grownCap_ge w (0+m) 0 e
   have HW:J6 w (w.drew.alloc (.cells (([]:List Value).toArray++news.toArray++Builtin.zeroCells z.cells (grownCap w (0+m) 0 e-(0+m))) e)) (([]:List Value).toArray++news.toArray++Builtin.zeroCells z.cells (grownCap w (0+m) 0 e-(0+m))) e:=
    ⟨rfl,rfl,rfl,fun k hk=>Below.heap_alloc w.drew _ k hk,by show (w.heap.push _).size=_;simp,(0,0),by show (w.heap.push _)[w.heap.size]?=_;simp,.inl rfl⟩
   have Aj9:(([]:List Value).toArray++news.toArray++Builtin.zeroCells z.cells (grownCap w (0+m) 0 e-(0+m))).size=grownCap w (0+m) 0 e*i.size:=by
    simp only[Array.size_append,List.size_toArray,size_zeroCells,hzs,PQ,Ud,<-Nat.add_mul];rw[Ck (m*i.size),<-Nat.add_mul]
    congr 1
    omega
   refine Zw (s:=⟨s.tm,Al s.hp []⟩) HW JX trivial ?_ (fun cells hx=>by cases hx) ?_ (by intro j hj;simp[Cn,C2,Ba] at hj;exact .inr hj)
   ·refine .inr ⟨w.heap.size,0,A8 _ _ _,?_,fun _ j _ hj=>?_,(fun q=>by cases q)⟩
    ·exact VO (pre:=[]) HW (Al8 (s:=⟨s.tm,Al s.hp []⟩) JX) trivial hs.rep (by simp) hs.one
    ·rw[HW.bsz] at hj;exact HW.frozen hj
   ·refine .inr ⟨w.heap.size,0,0,grownCap w (0+m) 0 e,A8 _ _ _,by rw[Ck],.inl rfl,by omega,?_,by rw[HW.size];omega⟩
    rw[HW.bsz,Aj9];omega
 ·cases hk
theorem Ahs{lo hi:Option Operand}{y3:Operand}{k3:IntKind}{len cap l u m:Nat}(hl:(lo=none/\l=0)\/∃y k,lo=some y/\a.eval y=.int k (l:Int))(hu:∃y k,hi=some y/\a.eval y=.int k (u:Int))(hm:a.eval y3=.int k3 (m:Int))(h1:l<=u)(h2:u<=m)(h3:m<=cap):
  (Instr.sliceBounds true len cap (lo.map a.eval) (hi.map a.eval) (some (a.eval y3))).run P w=.ok (l,u,m) w:=by
 obtain⟨y,k,rfl,hy⟩:=hu;rcases hl with⟨rfl,rfl⟩|⟨y',k',rfl,hy'⟩
 ·simp[Instr.sliceBounds,Instr.sliceBound,asIntOf,hy,hm,h2,h3]
 ·simp[Instr.sliceBounds,Instr.sliceBound,asIntOf,hy,hy',hm,h1,h2,h3]
theorem Ac9(h:Cj N w0 X0 Y β s a w){t:TypeId}{x m:Operand}{lo hi:Option Operand}(ho:o.op=.slice t x lo hi (some m)){d:Nat}{K:PV->List (Nat × Cb)->Option R}(hk:FL P d t (Dd s.tm x) (lo.map (Dd s.tm)) (hi.map (Dd s.tm)) (some (Dd s.tm m)) K=some r):∃v nw,K v nw=some r/\G9 P a w o Y β s v [] nw:=by
 have hx:=Ew h x;unfold FL at hk;split at hk
 ·rename_i e hu;obtain⟨hb,hk⟩:=A5 hk;simp only[G6] at hb;obtain⟨Xq,hhi⟩:=hb
  obtain⟨yh,rfl⟩:∃y,hi=some y:=by
   cases hi with
   |none=>simp at hhi
   |some y=>exact⟨y,rfl⟩
  have fin:∀{ad:Option Addr} {n cap l u q:Nat},a.eval x=.slice ad n cap->n<=cap->((lo=none/\l=0)\/∃y k,lo=some y/\a.eval y=.int k (l:Int))->((some yh=none/\u=n)\/∃y k,some yh=some y/\a.eval y=.int k (u:Int))->(((some m:Option Operand)=none/\q=n)\/∃y k,(some m:Option Operand)=some y/\a.eval y=.int k (q:Int)) ->
    (Nat.beq l q&&Nat.beq u q&&decide (q<=n))=true->G9 P a w o Y β s (.view d (Bw P e) 0 0) [] [(d,.ar false [])]:=by
   intro ad n cap l u q E9 hn hl Oo hq hb;simp only[G6,GU] at hb;obtain⟨⟨b1,b2⟩,b3⟩:=hb;have b1:=Ez b1;have b2:=Ez b2;subst b1 b2
   have hu2:∃y k,(some yh:Option Operand)=some y/\a.eval y=.int k (u:Int):=by
    rcases Oo with⟨e,_⟩|e
    ·cases e
    ·exact e
   obtain⟨k3,hm3⟩:∃k,a.eval m=.int k (u:Int):=by
    rcases hq with⟨e,_⟩|⟨y,k,e,q⟩
    ·cases e
    ·cases e;exact⟨k,q⟩
   have hbr:=Ahs (P:=P) (w:=w) (len:=n) (cap:=cap) hl hu2 hm3 (Da _) (Da _) (by omega)
   have Eo:∃ad',(execOp a.eval o).run P w=.ok (.value (.slice ad' 0 0)) w:=by
    unfold execOp;rw[ho];cases ad with
    |none=>exact⟨none,by simp[Instr.sliceAt,Instr.slice,run_underlying hu,E9,hbr,Em Xq] at hbr ⊢⟩
    |some p=>exact⟨some p,by simp[Instr.sliceAt,Instr.slice,run_underlying hu,E9,hbr,Em Xq] at hbr ⊢⟩
   obtain⟨ad',Eo⟩:=Eo;refine⟨by simp,_,_,Eo,fun As3=>⟨D2 β d none,?_⟩⟩;have JX:s.hp d=none:=(Cl As3).1 d _ (Xy _);refine⟨rfl,rfl,rfl,C6.refl _ _,fun j hj=>Ax _ _ (by rintro rfl;exact hj JX),?_,?_,?_,?_,?_,.inl ⟨A8 _ _ _,rfl,rfl,ad',rfl⟩,?_⟩
   ·intro j bx hm;simp at hm;rw[hm.2];trivial
   ·intro j bx hm;simp at hm;obtain⟨rfl,rfl⟩:=hm;exact .inl ⟨A8 _ _ _,rfl⟩
   ·intro j bx k q hm hq;simp at hm;obtain⟨rfl,rfl⟩:=hm;rw[A8] at hq;cases hq
   ·intro j bx j' bx' k q q' hm Nh _ _;simp at hm Nh;rw[hm.1,Nh.1]
   ·intro j cells hm;simp at hm
   ·intro j hj;simp[Cn,C2,Ba] at hj;subst hj;exact .inr ⟨.ar false [],by simp⟩
  split at hk
  ·rename_i id es off n e';rw[e'] at hx;obtain⟨QV,hk⟩:=A5 hk;obtain⟨l,hk,hl⟩:=F7 h hk;obtain⟨u,hk,Oo⟩:=F7 h hk;obtain⟨q,hk,hq⟩:=F7 (x:=some m) h hk;obtain⟨hb,hk⟩:=A5 hk;refine⟨_,_,hk,?_⟩;rcases hx with⟨hβ,_,rfl,ad,E9⟩|⟨b,ob,y,cap,hβ,E9,hy,hn,SK,Cr⟩
   ·exact fin E9 (Da _) hl Oo hq hb
   ·exact fin E9 hn hl Oo hq hb
  ·obtain⟨z,n,c,hk,hp⟩:=I4 hk;obtain⟨l,hk,hl⟩:=F7 h hk;obtain⟨u,hk,Oo⟩:=F7 h hk;obtain⟨q,hk,hq⟩:=F7 (x:=some m) h hk;obtain⟨hb,hk⟩:=A5 hk;refine⟨_,_,hk,?_⟩;rcases slice_form hp hx with⟨E9,rfl,rfl⟩|⟨ad,cap,E9,_,hn,_⟩|⟨ad,cap,E9,_,rfl,rfl⟩
   ·exact fin E9 (Da _) hl Oo hq hb
   ·exact fin E9 hn hl Oo hq hb
   ·exact fin E9 (Nat.zero_le _) hl Oo hq hb
 ·cases hk
end
open Go.RowKit
section
variable {R:Type}{r:R}{P:Program}{N:Nat}{w0:World}{X0:Gt}{Y:Nat->Prop}{β β':Bt}{s:St}{a:Act}{w w':World}{o:Oper}{A:Nat->Prop}
theorem Auz(h:Cj N w0 X0 Y β s a w){G:Ze}(Lg:RO P G w0 X0){C:Kr}{call:Bq}(Dn:∀f args res,call f args=some res->Dr G P f args res){K:PV->Cc->List (Nat × Cb)->Option R}(hk:UZ C P N call s.tm (rd s.hp) (P7 s.hp) o K=some r):∃v fz nw,K v fz nw=some r/\WM P a w o Y β s v fz nw:=by
 have one:∀{K':PV->Option R},(∀v,K' v=some r->K v [] []=some r)->(∃v,K' v=some r/\G9 P a w o Y β s v [] [])->∃v fz nw,K v fz nw=some r/\WM P a w o Y β s v fz nw:=
  fun hK ⟨v,h1,h2⟩=>⟨v,[],[],hK v h1,VX h2⟩
 have many:(∃v fz nw,K v fz nw=some r/\G9 P a w o Y β s v fz nw)->∃v fz nw,K v fz nw=some r/\WM P a w o Y β s v fz nw:=
  fun ⟨v,fz,nw,h1,h2⟩=>⟨v,fz,nw,h1,VX h2⟩
 unfold UZ at hk;split at hk
 ·rename_i x ho;exact one (fun _ h=>h) (KK (K:=fun p=>K p [] []) h (Aqb ho) hk)
 ·rename_i x ho;exact one (fun _ h=>h) (KK (K:=fun p=>K p [] []) h (Afo ho) hk)
 ·rename_i c x y ho;exact one (fun _ h=>h) (Ajq (K:=fun p=>K p [] []) h ho hk)
 ·rename_i t ho;obtain⟨d,hd,hk⟩:=Eh hk;exact many (Afz ho hk)
 ·rename_i t x ho;obtain⟨d,hd,hk⟩:=Eh hk;exact many (Apm h ho hk)
 ·rename_i t ps ho;exact one (fun _ h=>h) (Afd (K:=fun p=>K p [] []) h ho hk)
 ·rename_i t n ps ho;obtain⟨d,hd,hk⟩:=Eh hk;exact many (PL h ho hk)
 ·rename_i t x ho;exact one (fun _ h=>h) (Aja (K:=fun p=>K p [] []) h ho hk)
 ·rename_i x ho;exact one (fun _ h=>h) (XE (K:=fun p=>K p [] []) h ho hk)
 ·rename_i op t x y ty ho;exact one (fun _ h=>h) (Aic (K:=fun p=>K p [] []) h ho hk)
 ·rename_i op t x ho;exact one (fun _ h=>h) (Ak3 (K:=fun p=>K p [] []) h ho hk)
 ·rename_i src dst x ho;obtain⟨v,nw,hk,hg⟩:=Aj4 h ho hk;obtain⟨d,hd,hk⟩:=Eh hk;exact⟨v,[],nw,hk,VX hg⟩
 ·rename_i t x y ho;obtain⟨d,hd,hk⟩:=Eh hk;exact many (Alh h ho hk)
 ·rename_i t x lo hi mx ho;split at hk
  ·exact one (fun _ h=>h) (Ahu (K:=fun p=>K p [] []) h ho hk)
  ·obtain⟨d,hd,hk⟩:=Eh hk;obtain⟨v,nw,h1,h2⟩:=Ac9 h ho hk;exact⟨v,[],nw,h1,VX h2⟩
 ·rename_i t x f ho;exact one (fun _ h=>h) (SE (K:=fun p=>K p [] []) h ho hk)
 ·rename_i t x f ho;exact one (fun _ h=>h) (Ahm (K:=fun p=>K p [] []) h ho hk)
 ·rename_i t x i ho;exact one (fun _ h=>h) (SJ (K:=fun p=>K p [] []) h ho hk)
 ·rename_i t x i ho;exact one (fun _ h=>h) (Ahw (K:=fun p=>K p [] []) h ho hk)
 ·rename_i x i ho;exact one (fun _ h=>h) (YQ (K:=fun p=>K p [] []) h ho hk)
 ·rename_i c ho;split at hk
  ·rename_i hc;exact one (fun _ h=>h) (Apc (K:=fun p=>K p [] []) h ho hc hk)
  ·rename_i hc;exact one (fun _ h=>h) (An5 (K:=fun p=>K p [] []) h ho hc hk)
  ·rename_i hc;exact one (fun _ h=>h) (Ao3 (K:=fun p=>K p [] []) h ho hc hk)
  ·rename_i hc;exact one (fun _ h=>h) (Aqk (K:=fun p=>K p [] []) h ho hc hk)
  ·rename_i hc;obtain⟨hnb,hk⟩:=A5 hk;obtain⟨d,hd,Fc⟩:=Eh hk;obtain⟨b,xs,YG,Hv⟩:=Bv Fc;obtain⟨x,ys,hys,X3⟩:=Bv Hv;obtain⟨RQ,Xr⟩:=Fh X3;obtain⟨t,us,hus,hk5⟩:=Bv Xr;obtain⟨tx,vs,Xt,hk6⟩:=Bv hk5;rw[hys,RQ] at YG;rw[Xt] at hus;obtain⟨v,nw,h1,h2⟩:=Aeb h ho hc hnb hd YG hus hk6;exact⟨v,[],nw,h1,VX h2⟩
  ·rename_i f hc;exact UC h Lg Dn (fun hf hb=>LG ho hc Lg.ng hf hb) hk
  ·rename_i t hc;obtain⟨f,hf0,Fc⟩:=Awn hk;have ht:a.eval (.tmp t)=.func (.func f) #[] #[]:=D5 h (x:=.tmp t) hf0;exact UC h Lg Dn (fun hf hb=>Aox ho hc ht Lg.ng hf hb) Fc
  ·cases hk
 ·cases hk
theorem Aka(h:Cj N w0 X0 Y β s a w){G:Ze}(Lg:RO P G w0 X0){C:Kr}{call:Bq}(Dn:∀f args res,call f args=some res->Dr G P f args res){K:St->Option R}(hk:(UZ C P N call s.tm (rd s.hp) (P7 s.hp) o fun v fz nw=>OJ N s o.dst v fz nw K)=some r):
  ∃s',K s'=some r/\∀(next:Act->World->Prop) (Q:Exit->Act->World->Prop),(∀a' w' β',Cj N w0 X0 Y β' s' a' w'->next a' w')->o.wp P a w next Q:=by
 obtain⟨v,fz,nw,hk,PB,hg⟩:=Auz h Lg Dn hk;unfold OJ at hk;obtain⟨hb,hk⟩:=A5 hk;simp only[G6] at hb;refine⟨_,hk,fun next Q hn=>hg next Q fun val w' Hm=>?_⟩;obtain⟨β',st⟩:=Hm hb.2
 have X1:C3 (Al s.hp fz) nw=true:=by
  have:∀nw,C3 s.hp nw=true->C3 (Al s.hp fz) nw=true:=by
   intro nw
   induction nw with
   |nil=>intro _;rfl
   |cons q nw ih=>
    obtain⟨i,b⟩:=q;intro hq;simp only[C3,G6,Option.isNone_iff_eq_none] at hq ⊢;exact⟨⟨Gd.2 hq.1.1,hq.1.2⟩,ih hq.2⟩
  exact this nw hb.2
 exact hn _ _ β' ((h.freeze PB).stepR hb.1 X1 st)
end
open Go.RowKit
section
variable {R:Type}{r:R}{P:Program}{N:Nat}{w0:World}{X0:Gt}{Y:Nat->Prop}{β β':Bt}{s:St}{a:Act}{w w':World}{o:Oper}{A:Nat->Prop}
structure G8(b:Nat)(w w':World):Prop where
 os:w'.os=w.os
 tape:w'.tape=w.tape
 output:w'.output=w.output
 size:w'.heap.size=w.heap.size
 other:∀k,k≠b->w'.heap[k]?=w.heap[k]?
 bs:bsz w' b=bsz w b
 frz:∀j,w'.frozen? ⟨b,j,none⟩=w.frozen? ⟨b,j,none⟩
theorem G8.refl(b:Nat)(w:World):G8 b w w:=⟨rfl,rfl,rfl,rfl,fun _ _=>rfl,rfl,fun _=>rfl⟩
theorem G8.setCell(b j:Nat)(v:Value)(w:World):G8 b w (w.setCell ⟨b,j,none⟩ v):=by
 refine⟨rfl,rfl,rfl,by simp[World.setCell],fun k hk=>Below.heap_setCell w ⟨b,j,none⟩ v k hk,?_,fun i=>?_⟩
 ·simp only[bsz,World.setCell,Array.getElem?_modify];simp only[if_true];cases h:w.heap[b]? with
  |none=>simp
  |some x=>cases x<;>simp
 ·simp only[World.frozen?,World.setCell,Array.getElem?_modify,if_true];cases h:w.heap[b]? with
  |none=>simp
  |some x=>cases x<;>simp
theorem G8.trans{b:Nat}{w'':World}(h:G8 b w w')(h':G8 b w' w''):G8 b w w'':=
 ⟨h'.os.trans h.os,h'.tape.trans h.tape,h'.output.trans h.output,h'.size.trans h.size,fun k hk=>(h'.other k hk).trans (h.other k hk),h'.bs.trans h.bs,fun j=>(h'.frz j).trans (h.frz j)⟩
theorem G8.setCells(b:Nat):∀(vs:List Value)(j:Nat)(w:World),G8 b w (w.setCells b j vs)
 |[],_,w=>G8.refl b w
 |v::vs,j,w=>(G8.setCell b j v w).trans (G8.setCells b vs (j+1) _)
theorem A55{hp:Nat->Option Cb}{id:Nat}{bx bx':Cb}(h0:hp id=some bx)(hl:Db (some bx))(Q7:Db (some bx'))(b:Nat):JO (D2 hp id (some bx')) β b↔JO hp β b:=by
 constructor
 ·rintro⟨i,o,h1,h2⟩
  by_cases e:i=id
  ·subst e;exact⟨i,o,by rw[h0];exact hl,h2⟩
  ·rw[Ax _ _ e] at h1;exact⟨i,o,h1,h2⟩
 ·rintro⟨i,o,h1,h2⟩
  by_cases e:i=id
  ·subst e;exact⟨i,o,by rw[A8];exact Q7,h2⟩
  ·exact⟨i,o,by rw[Ax _ _ e];exact h1,h2⟩
theorem Cj.write(h:Cj N w0 X0 Y β s a w){id b ob:Nat}{bx bx':Cb}(h0:s.hp id=some bx)(hl:Db (some bx))(Q7:Db (some bx'))(hβ:β id=some (b,ob))(hw:G8 b w w')(P4:Ys w' (D4 s.hp β Y) β id bx')(hr:∀cells,bx'=.st cells->∀c∈cells,∀i∈Ba c,s.hp i≠none)(hK:∀c',bx'=.st c'->∃c,bx=.st c)(hR:∀j,BR bx' ob j->BR bx ob j)(hO:∀j,¬BR bx ob j->w'.cell? ⟨b,j,none⟩=w.cell? ⟨b,j,none⟩):Cj N w0 X0 Y β ⟨s.tm,D2 s.hp id (some bx')⟩ a w':=by
 have hX:=A55 (β:=β) h0 hl Q7;have hA:∀k,D4 (D2 s.hp id (some bx')) β Y k↔D4 s.hp β Y k:=fun k=>⟨fun x=>x.imp (hX k).1 (fun y=>y),fun x=>x.imp (hX k).2 (fun y=>y)⟩;have hAb:D4 s.hp β Y b:=.inl ⟨id,ob,by rw[h0];exact hl,hβ⟩
 have Hm:C6 (D4 s.hp β Y) w w':=⟨by rw[hw.size];exact Da _,fun k _ hk=>hw.other k (fun e=>hk (e ▸ hAb)),fun k _=>by
  by_cases e:k=b
  ·subst e;rw[hw.bs];exact Da _
  ·unfold bsz;rw[hw.other k e];exact Da _⟩
 have M6:∀i,D2 s.hp id (some bx') i≠none↔s.hp i≠none:=by
  intro i;by_cases e:i=id
  ·subst e;rw[A8,h0];simp
  ·rw[Ax _ _ e]
 have hAe:D4 (D2 s.hp id (some bx')) β Y=D4 s.hp β Y:=funext fun k=>propext (hA k)
 have KF:∀i,Db (D2 s.hp id (some bx') i)->Db (s.hp i):=by
  intro i hi;by_cases e:i=id
  ·subst e;rw[h0];exact hl
  ·rw[Ax _ _ e] at hi;exact hi
 refine⟨h.dfr,h.tsz,h.tmo,fun i hi=>?_,fun i bi hb=>?_,fun i i' k x y h1 h2=>h.inj i i' k x y (KF i h1) (KF i' h2),fun i k x hi hk=>?_,fun i hi j hj=>(M6 j).2 (h.wfT i hi j hj),
  fun i cells hc c hcm j hj=>(M6 j).2 ?_,fun k hk=>h.ownd k ((hX k).1 hk),fun i bi k x RR hli hk Cr j hj=>?_,fun i hi=>⟨(M6 _).2 (h.pin i hi).1,(h.pin i hi).2⟩,fun i c k x hc hk Cr=>?_,fun k hk x=>h.Yx k hk ((hX k).1 x),h.Ylt,?_⟩
 ·rw[hAe];exact (h.tms i hi).step Hm (fun _ _ x=>x) (fun _ _=>rfl)
 ·rw[hAe];simp only at hb;by_cases e:i=id
  ·subst e;rw[A8] at hb;cases hb;exact P4
  ·rw[Ax _ _ e] at hb;have RR:=h.box i bi hb;cases bi with
   |st c=>
    obtain⟨k,x,h1,h2,h3⟩:=RR
    have hk:k≠b:=by
     rintro rfl
     exact e (h.inj i id k x ob (by rw[hb];trivial) (by rw[h0];exact hl) h1 hβ)
    refine⟨k,x,h1,fun j c hj=>?_,fun j hj=>?_⟩
    ·obtain⟨v,hv,hc⟩:=h2 j c hj;exact⟨v,by rw[World.cell?_of_block (w:=w) (hw.other k hk)];exact hv,hc.step Hm (fun _ _ x=>x) (fun _ _=>rfl)⟩
    ·rw[World.frozen?_of_block (w:=w) (hw.other k hk)];exact h3 j hj
   |ar fz c=>
    rcases RR with hn|⟨k,x,h1,h2,h3,h4⟩
    ·exact .inl hn
    ·have hk:k≠b:=by
      rintro rfl
      cases fz with
      |true=>exact h4 rfl hAb
      |false=>exact e (h.inj i id k x ob (by rw[hb];trivial) (by rw[h0];exact hl) h1 hβ)
     refine .inr ⟨k,x,h1,fun j c hj=>?_,fun ef j hj CM=>?_,h4⟩
     ·obtain⟨v,hv,h5,hc⟩:=h2 j c hj;exact⟨v,by rw[World.cell?_of_block (w:=w) (by rw[Iv];exact hw.other k hk)];exact hv,h5,hc.step Hm (fun _ _ x=>x)⟩
     ·rw[World.frozen?_of_block (w:=w) (hw.other k hk)];refine h3 ef j hj ?_;unfold bsz at CM ⊢;rw[hw.other k hk] at CM;exact CM
   |mv=>trivial
 ·rw[hw.size];exact h.blt i k x ((M6 i).1 hi) hk
 ·simp only at hc;by_cases e:i=id
  ·subst e;rw[A8] at hc;injection hc with hc;exact hr cells hc c hcm j hj
  ·rw[Ax _ _ e] at hc;exact h.wfB i cells hc c hcm j hj
 ·simp only at RR;by_cases e:i=id
  ·subst e;rw[A8] at RR;cases RR;rw[hβ] at hk;cases hk;exact h.rngB i bx b ob h0 hl hβ Cr j (hR j hj)
  ·rw[Ax _ _ e] at RR;exact h.rngB i bi k x RR hli hk Cr j hj
 ·simp only at hc;by_cases e:i=id
  ·subst e;rw[A8] at hc;injection hc with hc;obtain⟨c0,rfl⟩:=hK c hc;exact h.stp i c0 k x h0 hk Cr
  ·rw[Ax _ _ e] at hc;exact h.stp i c k x hc hk Cr
 ·refine⟨hw.os.trans h.fr.os,hw.tape.trans h.fr.tape,hw.output.trans h.fr.output,?_,fun k j hk hL=>?_⟩
  ·refine⟨by rw[hw.size];exact h.fr.step.size,fun k hk hnk=>?_,fun k hk=>Nat.le_trans (h.fr.step.bs k hk) (Hm.bs k (Jp hk h.fr.step.size))⟩
   rw[hw.other k ?_]
   ·exact h.fr.step.keep k hk hnk
   ·rintro rfl
    rcases h.ownd k ⟨id,ob,by rw[h0];exact hl,hβ⟩ with hx|hx
    ·exact hnk hx
    ·omega
  ·by_cases e:k=b
   ·subst e;rw[hO j (fun hj=>hL (h.rngB id bx k ob h0 hl hβ hk j hj)),hw.frz];exact h.fr.rng k j hk hL
   ·have hc:w'.cell? ⟨k,j,none⟩=w.cell? ⟨k,j,none⟩:=World.cell?_of_block (w:=w) (hw.other k e);have hf:w'.frozen? ⟨k,j,none⟩=w.frozen? ⟨k,j,none⟩:=World.frozen?_of_block (w:=w) (hw.other k e);rw[hc,hf];exact h.fr.rng k j hk hL
theorem AA{c cs:Ab}{off j:Nat}{p:PV}(FC:off+cs.length<=c.length)(h:(B0 c cs off)[j]?=some p):
  (off<=j/\j<off+cs.length/\cs[j-off]?=some p)\/((j<off\/off+cs.length<=j)/\c[j]?=some p):=by
 unfold B0 at h;by_cases h1:j<off
 ·rw[FX,List.getElem?_append_left (by simp;omega),List.getElem?_take_of_lt h1] at h
  exact .inr ⟨.inl h1,h⟩
 ·by_cases h2:j<off+cs.length
  ·rw[List.getElem?_append_left (by simp;omega),List.getElem?_append_right (by simp;omega)] at h
   simp only[List.length_take,Nat.min_eq_left (by omega:off<=c.length)] at h;exact .inl ⟨by omega,h2,h⟩
  ·rw[List.getElem?_append_right (by simp;omega)] at h
   simp only[F9,List.length_take,Nat.min_eq_left (by omega:off<=c.length),List.getElem?_drop] at h;rw[show off+cs.length+(j-(off+cs.length))=j from by omega] at h;exact .inr ⟨.inr (by omega),h⟩
theorem Z7{c cs:Ab}{off:Nat}(FC:off+cs.length<=c.length):(B0 c cs off).length=c.length:=by simp[B0];omega
theorem QJ{t:TypeId}{b j:Nat}{v:Value}(K9:(P.info? t).map (·.size)=some v.cells.size)(hc:∀i,i<v.cells.toList.length->(w.cell? ⟨b,j+i,none⟩).isSome=true)(hf:∀i,i<v.cells.toList.length->w.frozen? ⟨b,j+i,none⟩=false)(h1:∀u∈v.cells.toList,u.oneCell'=true):(Instr.storeAt t (.pointer (some ⟨b,j,none⟩)) v).run P w=.ok () (w.setCells b j v.cells.toList):=by
 have:=run_storeCells_cells (P:=P) b j v.cells.toList 0 w (fun i hi=>by simpa using hc i hi) (fun i hi=>by simpa using hf i hi) h1;simp only[Instr.storeAt,Instr.sureAddr,storeVar,Sem.run_bind,Sem.run_pure,Result.andThen_ok,Q2 K9]
 simpa using this
theorem Ag5(h:Cj N w0 X0 Y β s a w){t:TypeId}{x y:Operand}(ho:o.op=.store t x y)(hd:o.dst=none){K:St->Option R}(hk:PF P s t (Dd s.tm x) (Dd s.tm y) K=some r):
  ∃s',K s'=some r/\∀(next:Act->World->Prop) (Q:Exit->Act->World->Prop),(∀a' w' β',Cj N w0 X0 Y β' s' a' w'->next a' w')->o.wp P a w next Q:=by
 have hx:=Ew h x;have YE:=H8 h x
 have run:∀{b j:Nat},a.eval x=.pointer (some ⟨b,j,none⟩)->(Instr.storeAt t (.pointer (some ⟨b,j,none⟩)) (a.eval y)).run P w=.ok () (w.setCells b j (a.eval y).cells.toList) ->
   ∀(next:Act->World->Prop) (Q:Exit->Act->World->Prop),next a (w.setCells b j (a.eval y).cells.toList)->o.wp P a w next Q:=by
  intro b j E9 hr next Q hn;unfold Oper.wp execOp;rw[ho];simp only[Sem.run_bind,E9,hr,Result.andThen_ok,Sem.run_pure];show next (a.put o.dst undef) _;rw[hd];exact hn
 unfold PF at hk;split at hk
 ·rename_i id off e;rw[e] at hx YE;obtain⟨b,ob,hβ,E9⟩:=hx;split at hk
  ·rename_i c h0;obtain⟨hb,hk⟩:=A5 hk;simp only[G6,GU] at hb;obtain⟨⟨hok,hl⟩,FC⟩:=hb;have hl:=Ez hl;obtain⟨cs,hk,CN,h2,h1,hr,_⟩:=Amh (Ew h y) hl hk;obtain⟨_,A4d,K9⟩:=Yi hok;have hvl:=h2.len;obtain⟨b',o',Jt,Q6,hb3⟩:=h.box id _ h0;rw[hβ] at Jt;simp at Jt;obtain⟨rfl,rfl⟩:=Jt
   have hcell:∀i,i<(a.eval y).cells.toList.length->(w.cell? ⟨b,ob+off+i,none⟩).isSome=true:=by
    intro i hi;obtain⟨v,hv,_⟩:=Q6 (off+i) _ (List.getElem?_eq_getElem (by omega));rw[Sq,hv];rfl
   have Eo:=QJ (P:=P) (t:=t) (w:=w) (b:=b) (j:=ob+off) (v:=a.eval y) (by rw[K9,<-A4d,<-CN,hvl];simp) hcell (fun i hi=>by rw[Sq];exact hb3 _ (by omega)) h1
   refine⟨_,hk,fun next Q hn=>run E9 Eo next Q (hn _ _ β ?_)⟩
   refine h.write h0 trivial trivial hβ (G8.setCells b _ _ w) ?_ ?_ (fun _ _=>⟨_,rfl⟩) (fun j hj=>by
    have hj:ob<=j/\j<ob+(B0 c cs off).length:=hj;rw[Z7 (by omega)] at hj;exact hj) (fun j hj=>by
    refine World.cell?_setCells_out b _ _ w ⟨b,j,none⟩ (fun _ _=>?_);have hj:¬(ob<=j/\j<ob+c.length):=hj;show j<ob+off\/ob+off+_<=j;omega)
   ·have Hm:C6 (D4 s.hp β Y) w (w.setCells b (ob+off) (a.eval y).cells.toList):=by
     have hw:=G8.setCells b (a.eval y).cells.toList (ob+off) w;have hAb:D4 s.hp β Y b:=.inl ⟨id,ob,by rw[h0];trivial,hβ⟩
     exact⟨by rw[hw.size];exact Da _,fun k _ hk=>hw.other k (fun e=>hk (e ▸ hAb)),fun k _=>by
      by_cases e:k=b
      ·subst e;rw[hw.bs];exact Da _
      ·unfold bsz;rw[hw.other k e];exact Da _⟩
    refine⟨b,ob,hβ,fun j p hj=>?_,fun j hj=>?_⟩
    ·rcases AA (by omega) hj with⟨h3,h4,h5⟩|⟨h3,h5⟩
     ·obtain⟨u,hu,hcu⟩:=h2.get h5;have Cr:j-off<(a.eval y).cells.toList.length:=by omega
      refine⟨u,?_,hcu.step Hm (fun _ _ x=>x) (fun _ _=>rfl)⟩;have:=World.cell?_setCells_in b (a.eval y).cells.toList (ob+off) w hcell (j-off) Cr;rw[show ob+j=ob+off+(j-off) from by omega,this];rw[List.getElem?_eq_getElem Cr] at hu;exact hu
     ·obtain⟨v,hv,QM⟩:=Q6 j p h5;refine⟨v,?_,QM.step Hm (fun _ _ x=>x) (fun _ _=>rfl)⟩;rw[World.cell?_setCells_out b _ _ w ⟨b,ob+j,none⟩ (fun _ _=>by show ob+j<ob+off\/ob+off+_<=ob+j;omega)]
      exact hv
    ·rw[Z7 (by omega)] at hj;rw[(G8.setCells b _ _ w).frz];exact hb3 j hj
   ·intro cells hx c' AE i hi;injection hx with hx;subst hx;unfold B0 at AE;rcases B4.1 AE with AE|AE
    ·rcases B4.1 AE with AE|AE
     ·exact h.wfB id c h0 c' (List.mem_of_mem_take AE) i hi
     ·exact H8 h y i (hr c' AE i hi)
    ·exact h.wfB id c h0 c' (List.mem_of_mem_drop AE) i hi
  ·rename_i c h0;obtain⟨hb,hk⟩:=A5 hk;simp only[G6,GU] at hb;obtain⟨hok,FC⟩:=hb;obtain⟨cs,m,hk,CN,SO,hT,hF,hm,hv⟩:=Y9 h hk;obtain⟨hnm,hk⟩:=A5 hk
   have hnm:id ∉ m:=by
    intro hi;have:m.any (Nat.beq id)=true:=List.any_eq_true.2 ⟨id,hi,P6 id⟩;rw[this] at hnm;cases hnm
   obtain⟨_,A4d,K9⟩:=Yi hok
   have Ayz:Ca (Cz w (D4 s.hp β Y) β) (cellsOf (Dd s.tm y)) (a.eval y).cells.toList:=by
    have hyv:=Ew h y;cases hp:Dd s.tm y with
    |agg ps=>
     rw[hp] at hyv;obtain⟨vs,hay,h2⟩:=hyv;rw[hay];exact h2
    |sc v=>
     rw[hp] at hyv hF
     have Arb:(a.eval y).oneCell'=true:=by
      have:=hv m (fun _ hi=>hi) hm [a.eval y] (by rw[hp];exact⟨hyv,trivial⟩)
      exact this.2 _ (by simp)
     rw[Uh Arb];exact⟨hyv,trivial⟩
    |lst z es n cc=>
     rw[hp] at hyv hF
     have Arb:(a.eval y).oneCell'=true:=by
      have:=hv m (fun _ hi=>hi) hm [a.eval y] (by rw[hp];exact⟨hyv,trivial⟩)
      exact this.2 _ (by simp)
     rw[Uh Arb];exact⟨hyv,trivial⟩
    |view i es oo n=>
     rw[hp] at hyv hF
     have Arb:(a.eval y).oneCell'=true:=by
      have:=hv m (fun _ hi=>hi) hm [a.eval y] (by rw[hp];exact⟨hyv,trivial⟩)
      exact this.2 _ (by simp)
     rw[Uh Arb];exact⟨hyv,trivial⟩
    |own es n cc=>
     have hx0:=hF (Dd s.tm y) (by rw[hp];exact Xy _)
     rw[hp] at hx0;exact hx0.elim
    |ptr i cc=>
     have hx0:=hF (Dd s.tm y) (by rw[hp];exact Xy _)
     rw[hp] at hx0;exact hx0.elim
    |iptr i cc=>
     have hx0:=hF (Dd s.tm y) (by rw[hp];exact Xy _)
     rw[hp] at hx0;exact hx0.elim
    |pbox cc=>
     have hx0:=hF (Dd s.tm y) (by rw[hp];exact Xy _)
     rw[hp] at hx0;exact hx0.elim
    |tup cc=>
     have hx0:=hF (Dd s.tm y) (by rw[hp];exact Xy _)
     rw[hp] at hx0;exact hx0.elim
    |ub=>
     have hx0:=hF (Dd s.tm y) (by rw[hp];exact Xy _)
     rw[hp] at hx0;exact hx0.elim
    |top=>
     have hx0:=hF (Dd s.tm y) (by rw[hp];exact Xy _)
     rw[hp] at hx0;exact hx0.elim
   obtain⟨h2,h1⟩:=hv m (fun _ hi=>hi) hm _ Ayz;have hvl:=h2.len;have hf:=h.freeze hm;have h0':Al s.hp m id=some (.ar false c):=by rw[C5,A4 hnm];exact h0
   rcases hf.box id _ h0' with⟨hn,_⟩|⟨b',o',Jt,Q6,hb3,_⟩
   ·rw[hβ] at hn;cases hn
   rw[hβ] at Jt;simp at Jt;obtain⟨rfl,rfl⟩:=Jt
   have hcell:∀i,i<(a.eval y).cells.toList.length->(w.cell? ⟨b,ob+off+i,none⟩).isSome=true:=by
    intro i hi;obtain⟨v,hv,_⟩:=Q6 (off+i) _ (List.getElem?_eq_getElem (by omega));rw[Fy] at hv;rw[Sq,hv];rfl
   have Eo:=QJ (P:=P) (t:=t) (w:=w) (b:=b) (j:=ob+off) (v:=a.eval y) (by rw[K9,<-A4d,<-CN,hvl];simp) hcell (fun i hi=>by
    obtain⟨u,hu⟩:=Option.isSome_iff_exists.1 (hcell i hi);exact hb3 rfl _ (by omega) (UY hu)) h1
   refine⟨_,hk,fun next Q hn=>run E9 Eo next Q (hn _ _ β ?_)⟩
   refine hf.write h0' trivial trivial hβ (G8.setCells b _ _ w) ?_ (fun cells hx=>by cases hx) (fun _ hx=>by cases hx) (fun j hj=>hj) (fun j hj=>by
    refine World.cell?_setCells_out b _ _ w ⟨b,j,none⟩ (fun _ _=>?_);have hj:¬(ob<=j):=hj;show j<ob+off\/ob+off+_<=j;omega)
   have Hm:C6 (D4 (Al s.hp m) β Y) w (w.setCells b (ob+off) (a.eval y).cells.toList):=by
    have hw:=G8.setCells b (a.eval y).cells.toList (ob+off) w;have hAb:D4 (Al s.hp m) β Y b:=.inl ⟨id,ob,by rw[h0'];trivial,hβ⟩
    exact⟨by rw[hw.size];exact Da _,fun k _ hk=>hw.other k (fun e=>hk (e ▸ hAb)),fun k _=>by
     by_cases e:k=b
     ·subst e;rw[hw.bs];exact Da _
     ·unfold bsz;rw[hw.other k e];exact Da _⟩
   refine .inr ⟨b,ob,hβ,fun j p hj=>?_,fun _ j hj CM=>?_,(fun x=>by cases x)⟩
   ·rw[Fy];rcases AA (by omega) hj with⟨h3,h4,h5⟩|⟨h3,h5⟩
    ·obtain⟨u,hu,hcu⟩:=h2.get h5;have Cr:j-off<(a.eval y).cells.toList.length:=by omega
     refine⟨u,?_,h1 u (List.mem_of_getElem? hu),hcu.step Hm (fun _ _ x=>x)⟩;have:=World.cell?_setCells_in b (a.eval y).cells.toList (ob+off) w hcell (j-off) Cr;rw[show ob+j=ob+off+(j-off) from by omega,this];rw[List.getElem?_eq_getElem Cr] at hu;exact hu
    ·obtain⟨v,hv,h6,QM⟩:=Q6 j p h5;rw[Fy] at hv;refine⟨v,?_,h6,QM.step Hm (fun _ _ x=>x)⟩;rw[World.cell?_setCells_out b _ _ w ⟨b,ob+j,none⟩ (fun _ _=>by show ob+j<ob+off\/ob+off+_<=ob+j;omega)]
     exact hv
   ·rw[(G8.setCells b _ _ w).bs] at CM;rw[(G8.setCells b _ _ w).frz];exact hb3 rfl j hj CM
  ·cases hk
 ·cases hk
end
open Go.RowKit
theorem Ns:∀{l l':Cc},Gf (l++l')=true->Gf l=true/\Gf l'=true/\∀i∈l,i ∉ l'
 |[],l',h=>⟨rfl,h,by simp⟩
 |a::l,l',h=>by
  simp only[Zzp,Gf,G6,Bool.not_eq_true'] at h;obtain⟨h1,h2⟩:=h;obtain⟨h3,h4,h5⟩:=Ns h2
  have hn:∀i∈l++l',a≠i:=by
   rintro i hi rfl
   have:(l++l').any (Nat.beq a)=true:=List.any_eq_true.2 ⟨a,hi,P6 a⟩;rw[this] at h1;cases h1
  refine⟨?_,h4,fun i hi=>?_⟩
  ·simp only[Gf,G6,Bool.not_eq_true',h3,and_true];rw[List.any_eq_false];intro i hi e;exact hn i (by simp[hi]) (Ez e)
  ·rcases B7.1 hi with rfl|hi
   ·exact fun hm=>hn i (by simp[hm]) rfl
   ·exact h5 i hi
def Kx(β:Bt)(q:Nat × Nat):Option (Nat × Nat):=(β q.1).map fun p=>(p.1,p.2+q.2)
theorem Ak7(β:Bt)(id:Nat):Kx β (id,0)=β id:=by unfold Kx;cases β id<;>rfl
section
variable {R:Type}{r:R}{P:Program}{N:Nat}{w0:World}{X0:Gt}{Y:Nat->Prop}{β β':Bt}{s:St}{a:Act}{w w':World}{o:Oper}{A:Nat->Prop}
theorem Uk{fz:Cc}{b:Nat}(h:D4 (Al s.hp fz) β Y b):D4 s.hp β Y b:=h.imp Yp id
theorem Atc(h:Cj N w0 X0 Y β s a w){mv:Bool}{t:CT}{p:PV}{K:PV->Cc->Cc->Option R}(hk:Aoh mv s.hp t p K=some r):
  ∃c m q,K c m (Option.toList q)=some r/\isA c/\YX p/\(∀id∈m,∃f cc,s.hp id=some (.ar f cc))/\(∀id,q=some id->∃cc,s.hp id=some (.ar false cc)) /\
   ∀fz:Cc,(∀id∈m,id∈fz)->(∀id∈fz,∃f cc,s.hp id=some (.ar f cc))->∀v,Cz w (D4 s.hp β Y) β p v->Lf w (D4 (Al s.hp fz) β Y) (q.bind β) c v:=by
 have frz:∀{t:CT} {p:PV} {K:PV->Cc->Cc->Option R},(Wa (P7 s.hp) t p fun c m=>K c m [])=some r->∃c m q,K c m (Option.toList q)=some r/\isA c/\YX p/\(∀id∈m,∃f cc,s.hp id=some (.ar f cc))/\(∀id,q=some id->∃cc,s.hp id=some (.ar false cc)) /\
   ∀fz:Cc,(∀id∈m,id∈fz)->(∀id∈fz,∃f cc,s.hp id=some (.ar f cc))->∀v,Cz w (D4 s.hp β Y) β p v->Lf w (D4 (Al s.hp fz) β Y) (q.bind β) c v:=by
  intro t p K hk;obtain⟨c,m,hk,hT,hF,hm,hv⟩:=UQ h hk;exact⟨c,m,none,hk,.inl hT,hF,hm,by simp,fun fz h1 h2 v hc=>Qr hT (hv fz h1 h2 v hc).1⟩
 have tree:∀{t:CT} {p:PV} {K:PV->Cc->Cc->Option R},(∀es,t ≠ .sl es)->(NM t p fun c=>K c [] [])=some r->∃c m q,K c m (Option.toList q)=some r/\isA c/\YX p/\(∀id∈m,∃f cc,s.hp id=some (.ar f cc))/\(∀id,q=some id->∃cc,s.hp id=some (.ar false cc)) /\
   ∀fz:Cc,(∀id∈m,id∈fz)->(∀id∈fz,∃f cc,s.hp id=some (.ar f cc))->∀v,Cz w (D4 s.hp β Y) β p v->Lf w (D4 (Al s.hp fz) β Y) (q.bind β) c v:=by
  intro t p K Gu hk;obtain⟨c,hk,hT,WN,hv⟩:=To hk;exact⟨c,[],none,hk,.inl hT,AV WN,by simp,by simp,fun fz h1 h2 v hc=>Qr hT ((hv w _ β v hc).1.step (C6.refl _ _) (fun b _ hb=>Uk hb))⟩
 unfold Aoh at hk;cases t with
 |sl es=>
  dsimp only at hk;cases mv<;>simp only[cond_true,cond_false] at hk
  ·exact frz hk
  ·split at hk
   ·rename_i id es' off n;split at hk
    ·rename_i c h0;cases hb:(Nat.beq es' es&&Nat.beq off 0)<;>rw[hb] at hk<;>simp only[cond_true,cond_false] at hk
     ·exact frz hk
     ·simp only[G6] at hb;have he:=Ez hb.1;have hof:=Ez hb.2;subst he hof;obtain⟨hl,hk⟩:=A5 hk;refine⟨_,[],some id,hk,.inr ⟨_,_,_,rfl⟩,trivial,by simp,fun i hi=>by cases hi;exact⟨c,h0⟩,fun fz h1 h2 v hc=>?_⟩
      rcases hc with⟨h3,_,rfl,h4⟩|⟨b,ob,x,cap,h3,h4,hx,h5,h6,h7⟩
      ·exact .inl ⟨h3,rfl,by simp,h4⟩
      ·have hx:x=ob:=by rcases hx with e|⟨_,e⟩<;>omega
       subst hx;rcases h.box id _ h0 with⟨h8,_⟩|⟨b',o',h8,h9,h10,_⟩
       ·rw[h3] at h8;cases h8
       ·rw[h3] at h8;cases h8;refine .inr ⟨b,x,cap,h3,h4,h5,h6,h7,fun j p hj=>?_,h10 rfl⟩;rw[List.getElem?_take] at hj;split at hj
        ·obtain⟨u,hu,h11,ht⟩:=h9 j p hj;exact⟨u,hu,h11,ht.step (C6.refl _ _) (fun b _ hb=>Uk hb)⟩
        ·cases hj
    ·exact frz hk
   ·obtain⟨z,n,c,hk,hp⟩:=I4 hk;have hpF:YX p:=by rcases hp with e|⟨e,_⟩<;>(rw[e];trivial)
    cases z<;>simp only[cond_true,cond_false] at hk
    ·refine⟨_,[],none,hk,.inl trivial,hpF,by simp,by simp,fun fz h1 h2 v hc=>?_⟩;exact Qr trivial ((IM hp hc).step (C6.refl _ _) (fun b _ hb=>Uk hb))
    ·refine⟨_,[],none,hk,.inr ⟨_,_,_,rfl⟩,hpF,by simp,by simp,fun fz h1 h2 v hc=>.inl ⟨rfl,rfl,rfl,none,?_⟩⟩;have:=IM hp hc;cases this;rfl
 |int k=>exact tree (by simp) hk
 |bool=>exact tree (by simp) hk
 |str=>exact tree (by simp) hk
 |any=>exact tree (by simp) hk
theorem EW(h:Cj N w0 X0 Y β s a w){mv:Bool}:∀{ts:List CT}{ps:Ab}{K:Ab->Cc->Cc->Option R},QB mv s.hp ts ps K=some r ->
  ∃cs m x,∃q:Nat->Option Nat,K cs m x=some r/\cs.length=ts.length/\ps.length=ts.length/\(∀c∈cs,isA c)/\(∀p∈ps,YX p)/\(∀id∈m,∃f cc,s.hp id=some (.ar f cc))/\(∀id∈x,∃cc,s.hp id=some (.ar false cc)) /\
   (∀j id,q j=some id->id∈x)/\(Gf x=true->∀j j' id,q j=some id->q j'=some id->j=j') /\
   ∀fz:Cc,(∀id∈m,id∈fz)->(∀id∈fz,∃f cc,s.hp id=some (.ar f cc))->∀vs,Ca (Cz w (D4 s.hp β Y) β) ps vs->∀(own:Bt) j0,(∀j,own (j0+j)=(q j).bind β)->Iu w (D4 (Al s.hp fz) β Y) own j0 cs vs
 |[],[],K,hk=>⟨[],[],[],fun _=>none,hk,rfl,rfl,by simp,by simp,by simp,by simp,by simp,by simp,fun fz _ _ vs hv own j0 _=>by
   cases vs with
   |nil=>trivial
   |cons v vs=>exact hv.elim⟩
 |[],_::_,K,hk=>by cases hk
 |_::_,[],K,hk=>by cases hk
 |t::ts,p::ps,K,hk=>by
  unfold QB at hk;obtain⟨c,m,q,hk,hA,hF,hm,hq,hv⟩:=Atc h hk;obtain⟨cs,ms,xs,qs,hk,hl,Q7,hAs,hFs,XA,YG,hqx,hqi,Xt⟩:=EW h hk;refine⟨c::cs,m++ms,q.toList++xs,fun j=>match j with|0=>q|j+1=>qs j,hk,by simp[hl],by simp[Q7],?_,?_,?_,?_,?_,?_,?_⟩
  ·intro x hx;rcases B7.1 hx with rfl|hx
   ·exact hA
   ·exact hAs x hx
  ·intro x hx;rcases B7.1 hx with rfl|hx
   ·exact hF
   ·exact hFs x hx
  ·intro i hi;rcases B4.1 hi with hi|hi
   ·exact hm i hi
   ·exact XA i hi
  ·intro i hi;rcases B4.1 hi with hi|hi
   ·exact hq i (by simpa using hi)
   ·exact YG i hi
  ·intro j id hj;cases j with
   |zero=>exact B4.2 (.inl (by simpa using hj))
   |succ j=>exact B4.2 (.inr (hqx j id hj))
  ·intro hn j j' id hj CM;obtain⟨_,h2,h3⟩:=Ns hn;cases j with
   |zero=>
    cases j' with
    |zero=>rfl
    |succ j'=>exact absurd (hqx j' id CM) (h3 id (by simpa using hj))
   |succ j=>
    cases j' with
    |zero=>exact absurd (hqx j id hj) (h3 id (by simpa using CM))
    |succ j'=>rw[hqi h2 j j' id hj CM]
  ·intro fz h1 h2 vs h3 own j0 H9;cases vs with
   |nil=>exact h3.elim
   |cons v vs=>
    refine⟨?_,Xt fz (fun i hi=>h1 i (by simp[hi])) h2 vs h3.2 own (j0+1) fun j=>?_⟩
    ·have:=H9 0;rw[JY] at this;rw[this];exact hv fz (fun i hi=>h1 i (by simp[hi])) h2 v h3.1
    ·have:=H9 (j+1);rw[show j0+1+j=j0+(j+1) by omega];exact this
def LOk(hp:Nat->Option Cb)(q:Option (Nat × Nat))(p:PV)(x:Ks):Prop:=
 match x with
 |.var id off cts ws=>p=.pbox ws/\q=some (id,off)/\cts.length=ws.length/\∃c,hp id=some (.st c)/\off+ws.length<=c.length
 |.row id=>(∃ps,p=.tup ps)/\q=some (id,0)/\∃c,hp id=some (.ar false c)
 |.none=>(∃ps,p=.tup ps)/\q=none
theorem Ams{hp:Nat->Option Cb}{q:Option (Nat × Nat)}{p:PV}{x:Ks}(h:LOk hp q p x):KM p=true:=by
 cases x with
 |var id off cts ws=>rw[h.1];rfl
 |row id=>obtain⟨⟨_,e⟩,_⟩:=h;rw[e];rfl
 |none=>obtain⟨⟨_,e⟩,_⟩:=h;rw[e];rfl
def Xv(hp:Nat->Option Cb)(src:Nat->Nat->Option (Nat × Nat)):Nat->Ab->List Ks->Prop
 |_,[],l=>l=[]
 |i,p::ps,l=>(KM p=false/\src i 0=none/\Xv hp src (i+1) ps l)\/∃x l',l=x::l'/\LOk hp (src i 0) p x/\Xv hp src (i+1) ps l'
theorem Akr(h:Cj N w0 X0 Y β s a w){C:Kr}{f:FuncId}{i:Nat}{t:TypeId}{x:Operand}{K:PV->Cc->Cc->List Ks->Option R}(hk:NP C P f s.hp i t (Dd s.tm x) K=some r):
  ∃v m y l,∃src:Nat->Option (Nat × Nat),K v m y l=some r/\(∀id∈m,∃f cc,s.hp id=some (.ar f cc))/\(∀id∈y,∃cc,s.hp id=some (.ar false cc)) /\
   (∀j id off,src (j+1)=some (id,off)->off=0/\id∈y)/\(Gf y=true->∀j j' id off off',src (j+1)=some (id,off)->src (j'+1)=some (id,off')->j=j') /\
   ((l=[]/\KM v=false/\src 0=none)\/∃x',l=[x']/\LOk s.hp (src 0) v x') /\
   ∀fz:Cc,(∀id∈m,id∈fz)->(∀id∈fz,∃f cc,s.hp id=some (.ar f cc))->∀bt:Bt,(∀j,bt j=(src j).bind (Kx β))->Aim w (D4 (Al s.hp fz) β Y) bt v (a.eval x):=by
 have hx:=Ew h x
 have SI:∀(q0:Option (Nat × Nat)) (q:Nat->Option Nat),∃src:Nat->Option (Nat × Nat),src 0=q0/\(∀j,src (j+1)=(q j).map fun id=>(id,0)):=
  fun q0 q=>⟨fun j=>match j with|0=>q0|j+1=>(q j).map fun id=>(id,0),rfl,fun _=>rfl⟩
 have Aip:∀{src:Nat->Option (Nat × Nat)} {q:Nat->Option Nat} {y:Cc},(∀j,src (j+1)=(q j).map fun id=>(id,0))->(∀j id,q j=some id->id∈y)->∀j id off,src (j+1)=some (id,off)->off=0/\id∈y:=by
  intro src q y h1 h2 j id off hj;rw[h1] at hj;cases hq:q j with
  |none=>rw[hq] at hj;cases hj
  |some k=>rw[hq] at hj;cases hj;exact⟨rfl,h2 j _ hq⟩
 have Ag4:∀{src:Nat->Option (Nat × Nat)} {q:Nat->Option Nat} {y:Cc},(∀j,src (j+1)=(q j).map fun id=>(id,0))->(Gf y=true->∀j j' id,q j=some id->q j'=some id->j=j') ->
   Gf y=true->∀j j' id off off',src (j+1)=some (id,off)->src (j'+1)=some (id,off')->j=j':=by
  intro src q y h1 h2 hn j j' id off off' hj CM;rw[h1] at hj CM;cases hq:q j with
  |none=>rw[hq] at hj;cases hj
  |some k=>
   cases Jc:q j' with
   |none=>rw[Jc] at CM;cases CM
   |some k'=>
    rw[hq] at hj;rw[Jc] at CM;cases hj;cases CM;exact h2 hn j j' _ hq Jc
 have H9:∀{src:Nat->Option (Nat × Nat)} {q:Nat->Option Nat} {bt:Bt},(∀j,src (j+1)=(q j).map fun id=>(id,0))->(∀j,bt j=(src j).bind (Kx β))->∀j,bt (1+j)=(q j).bind β:=by
  intro src q bt h1 h2 j;rw[Nat.add_comm,h2,h1];cases q j with
  |none=>rfl
  |some id=>exact Ak7 β id
 unfold NP at hk;split at hk
 ·rename_i e he;split at hk
  ·rename_i id off ep;rw[ep] at hx;split at hk
   ·rename_i c h0;obtain⟨hb,hk⟩:=A5 hk;simp only[G6,GU] at hb;obtain⟨cs,m,y,q,hk,hl,Q7,hA,hF,hm,hy,hq1,TC,hv⟩:=EW h hk;obtain⟨src,UW,hs⟩:=SI (some (id,off)) q;obtain⟨b,ob,hβ,E9⟩:=hx;refine⟨_,m,y,_,src,hk,hm,hy,Aip hs hq1,Ag4 hs TC,.inr ⟨_,rfl,rfl,UW,hl.symm,c,h0,by omega⟩,fun fz h1 h2 bt JT=>?_⟩;obtain⟨b',o',Jt,Q6,hb3⟩:=h.box id _ h0;rw[hβ] at Jt;cases Jt;have H2:((c.drop off).take (M5 P e).length).length=(M5 P e).length:=by simp;omega
    have Ast:∀j p,((c.drop off).take (M5 P e).length)[j]?=some p->c[off+j]?=some p/\j<(M5 P e).length:=by
     intro j p hj;rw[List.getElem?_take] at hj;split at hj
     ·rw[List.getElem?_drop] at hj;exact⟨hj,by assumption⟩
     ·cases hj
    refine⟨b,ob+off,by rw[JT,UW];simp[Kx,hβ],E9,hA,((c.drop off).take (M5 P e).length).mapIdx (fun j _=>(w.cell? ⟨b,ob+off+j,none⟩).getD undef),hv fz h1 h2 _ ?_ bt 1 (H9 hs JT),?_,fun k hk=>?_⟩
    ·refine Ca.of_at (by simp) fun j p v hp hv=>?_;obtain⟨hc,_⟩:=Ast j p hp;obtain⟨u,hu,hcr⟩:=Q6 _ _ hc;rw[List.getElem?_mapIdx,hp,Option.map_some,Sq,hu] at hv;simp at hv;subst hv;exact hcr
    ·intro k v hkv;rw[List.getElem?_mapIdx] at hkv;cases hp:((c.drop off).take (M5 P e).length)[k]? with
     |none=>rw[hp] at hkv;cases hkv
     |some p=>
      obtain⟨hc,_⟩:=Ast k p hp;obtain⟨u,hu,hcr⟩:=Q6 _ _ hc;rw[hp,Option.map_some,Sq,hu] at hkv;simp at hkv;subst hkv;rw[Sq];exact hu
    ·rw[Sq];exact hb3 _ (by omega)
   ·cases hk
  ·cases hk
 ·cases hln:C.lnd f i<;>rw[hln] at hk<;>simp only[cond_true,cond_false] at hk
  ·cases Jy:C9 P t<;>rw[Jy] at hk<;>simp only[cond_true,cond_false] at hk
   ·obtain⟨cs,m,y,q,hk,hl,Q7,hA,hF,hm,hy,hq1,TC,hv⟩:=EW h hk;obtain⟨c,t',rfl,hk⟩:=Bv hk;obtain⟨rfl,hk⟩:=Fh hk;obtain⟨src,UW,hs⟩:=SI none q;have hAc:=hA c (by simp);refine⟨c,m,y,_,src,hk,hm,hy,Aip hs hq1,Ag4 hs TC,.inl ⟨rfl,Aw2 hAc,UW⟩,fun fz h1 h2 bt JT=>?_⟩;have hFx:=hF _ (Xy _)
    have hxc:Cz w (D4 s.hp β Y) β (Dd s.tm x) (a.eval x):=by
     cases hp:Dd s.tm x<;>rw[hp] at hx hFx<;>first|exact hx|exact hFx.elim
    have hoc:=(hv fz h1 h2 [a.eval x] ⟨hxc,trivial⟩ bt 1 (H9 hs JT)).1;rcases hAc with hT|⟨es,n,cc,rfl⟩
    ·cases c<;>first|exact⟨.inl trivial,hoc⟩|exact hT.elim
    ·exact⟨.inr ⟨_,_,_,rfl⟩,hoc⟩
   ·obtain⟨ps,ep,hk⟩:=Lx hk;rw[ep] at hx;obtain⟨vs,E9,h3⟩:=hx;obtain⟨cs,m,y,q,hk,hl,Q7,hA,hF,hm,hy,hq1,TC,hv⟩:=EW h hk;obtain⟨src,UW,hs⟩:=SI none q;refine⟨_,m,y,_,src,hk,hm,hy,Aip hs hq1,Ag4 hs TC,.inl ⟨rfl,rfl,UW⟩,fun fz h1 h2 bt JT=>?_⟩;exact⟨vs,E9,hA,hv fz h1 h2 vs h3 bt 1 (H9 hs JT)⟩
  ·obtain⟨e,he,hk⟩:=Eh hk;unfold Ar5 at hk;split at hk
   ·rename_i id es' off n ep;rw[ep] at hx;split at hk
    ·rename_i c h0;obtain⟨hb,Hv⟩:=A5 hk;simp only[G6] at hb;have he:=Ez hb.1;have hof:=Ez hb.2;subst hof;obtain⟨src,UW,hs⟩:=SI (some (id,0)) (fun _=>none);refine⟨_,[],[],_,src,Hv,by simp,by simp,Aip hs (by simp),Ag4 hs (by simp),.inr ⟨_,rfl,⟨_,rfl⟩,UW,c,h0⟩,fun fz h1 h2 bt JT=>⟨_,_,_,rfl,?_⟩⟩;have YA:bt 0=β id:=by rw[JT,UW];exact Ak7 β id
     rw[YA];rcases hx with⟨h3,_,h4,h5⟩|⟨b,ob,y,cap,h3,h4,hy,h5,h6,h7⟩
     ·refine .inl ⟨h3,h4,?_,h5⟩;rcases h.box id _ h0 with⟨_,h8⟩|⟨_,_,h8,_⟩
      ·exact h8
      ·rw[h3] at h8;cases h8
     ·have hy:y=ob:=by rcases hy with e|⟨_,e⟩<;>omega
      subst hy;rcases h.box id _ h0 with⟨h8,_⟩|⟨b',o',h8,h9,h10,_⟩
      ·rw[h3] at h8;cases h8
      ·rw[h3] at h8;cases h8;exact .inr ⟨b,y,cap,h3,h4,h5,by rw[<-he];exact h6,h7,h9.weak (fun b _ hb=>Uk hb),h10 rfl⟩
    ·cases hk
   ·obtain⟨z,n,c,hk,hp⟩:=I4 hk;obtain⟨hz,hk⟩:=A5 hk;subst hz;obtain⟨src,UW,hs⟩:=SI none (fun _=>none)
    have hu:a.eval x=.slice none 0 0:=by
     have hF:Cz w (D4 s.hp β Y) β (Dd s.tm x) (a.eval x):=by rcases hp with e|⟨e,_⟩<;>rw[e] at hx ⊢ <;> exact hx
     have:=IM hp hF;generalize a.eval x=u at this;cases this;rfl
    refine⟨_,[],[],_,src,hk,by simp,by simp,Aip hs (by simp),Ag4 hs (by simp),.inr ⟨_,rfl,⟨_,rfl⟩,UW⟩,fun fz h1 h2 bt JT=>⟨_,_,_,rfl,.inl ⟨by rw[JT,UW];rfl,rfl,rfl,none,hu⟩⟩⟩
structure Bao(i0 n:Nat)(src:Nat->Nat->Option (Nat × Nat))(ids x:Cc):Prop where
 dom:∀i j q,src i j=some q->i0<=i/\i<i0+n
 lent:∀i id off,src i 0=some (id,off)->id∈ids
 mvd:∀i j id off,src i (j+1)=some (id,off)->off=0/\id∈x
 inj0:Gf ids=true->∀i i' id off off',src i 0=some (id,off)->src i' 0=some (id,off')->i=i'
 inj1:Gf x=true->∀i i' j j' id off off',src i (j+1)=some (id,off)->src i' (j'+1)=some (id,off')->i=i'/\j=j'
theorem JL{hp:Nat->Option Cb}{src src':Nat->Nat->Option (Nat × Nat)}:∀{ps:Ab}{i:Nat}{l:List Ks},(∀k,i<=k->src' k=src k)->Xv hp src i ps l->Xv hp src' i ps l
 |[],_,_,_,h=>h
 |p::ps,i,l,hs,h=>by
  rcases h with⟨h1,h2,h3⟩|⟨x,l',rfl,h2,h3⟩
  ·exact .inl ⟨h1,by rw[hs i (Da _)];exact h2,JL (fun k hk=>hs k (by omega)) h3⟩
  ·exact .inr ⟨x,l',rfl,by rw[hs i (Da _)];exact h2,JL (fun k hk=>hs k (by omega)) h3⟩
theorem RE{bt bt':QS}:∀{ps:Ab}{us:List Value}{i:Nat},(∀k,i<=k->∀j,bt' k j=bt k j)->Sl w A bt i ps us->Sl w A bt' i ps us
 |[],[],_,_,_=>trivial
 |[],_::_,_,_,h=>h.elim
 |_::_,[],_,_,h=>h.elim
 |_::_,_::_,i,hb,h=>⟨by rw[show bt' i=bt i from funext (hb i (Da _))];exact h.1,RE (fun k hk=>hb k (by omega)) h.2⟩
theorem Abz(h:Cj N w0 X0 Y β s a w){C:Kr}{f:FuncId}:∀{ts:List TypeId}{xs:List Operand}{i:Nat}{K:Ab->Cc->Cc->List Ks->Option R},Ab8 C P f s.hp i ts (xs.map (Dd s.tm)) K=some r ->
  ∃vs m y l,∃src:Nat->Nat->Option (Nat × Nat),K vs m y l=some r/\(∀id∈m,∃f cc,s.hp id=some (.ar f cc))/\(∀id∈y,∃cc,s.hp id=some (.ar false cc)) /\
   Bao i xs.length src (l.flatMap Ks.ids) y/\Xv s.hp src i vs l /\
   ∀fz:Cc,(∀id∈m,id∈fz)->(∀id∈fz,∃f cc,s.hp id=some (.ar f cc))->∀bt:QS,(∀i j,bt i j=(src i j).bind (Kx β))->Sl w (D4 (Al s.hp fz) β Y) bt i vs (xs.map a.eval)
 |[],[],i,K,hk=>⟨[],[],[],[],fun _ _=>none,hk,by simp,by simp,⟨by simp,by simp,by simp,by simp,by simp⟩,rfl,fun _ _ _ _ _=>trivial⟩
 |[],_::_,i,K,hk=>by cases hk
 |_::_,[],i,K,hk=>by cases hk
 |t::ts,x::xs,i,K,hk=>by
  simp only[Sn] at hk;unfold Ab8 at hk;obtain⟨v,m,y,l,src,hk,hm,hy,RC,XT,hl,hv⟩:=Akr h hk;obtain⟨vs,ms,ys,ls,srcs,hk,XA,hys,hS,hL,Xt⟩:=Abz h hk;have SI:∃sr:Nat->Nat->Option (Nat × Nat),sr i=src/\∀k,k≠i->sr k=srcs k:=⟨fun k=>if k=i then src else srcs k,by simp,fun k hk=>by simp[hk]⟩
  obtain⟨sr,hsi,hso⟩:=SI
  have ZB:∀id off,src 0=some (id,off)->id∈l.flatMap Ks.ids:=by
   intro id off e;rcases hl with⟨_,_,h3⟩|⟨x',rfl,h3⟩
   ·rw[h3] at e;cases e
   ·cases x' with
    |var id' off' cts ws=>rw[h3.2.1] at e;cases e;simp[Ks.ids]
    |row id'=>rw[h3.2.1] at e;cases e;simp[Ks.ids]
    |none=>rw[h3.2] at e;cases e
  refine⟨v::vs,m++ms,y++ys,l++ls,sr,hk,?_,?_,⟨?_,?_,?_,?_,?_⟩,?_,fun fz h1 h2 bt JT=>⟨?_,?_⟩⟩
  ·intro i hi;rcases B4.1 hi with hi|hi
   ·exact hm i hi
   ·exact XA i hi
  ·intro i hi;rcases B4.1 hi with hi|hi
   ·exact hy i hi
   ·exact hys i hi
  ·intro k j q hq;simp only[He];by_cases e:k=i
   ·subst e;omega
   ·rw[hso k e] at hq;have:=hS.dom k j q hq;omega
  ·intro k id off hq;rw[List.flatMap_append];by_cases e:k=i
   ·subst e;rw[hsi] at hq;exact B4.2 (.inl (ZB id off hq))
   ·rw[hso k e] at hq;exact B4.2 (.inr (hS.lent k id off hq))
  ·intro k j id off hq;by_cases e:k=i
   ·subst e;rw[hsi] at hq;exact⟨(RC j id off hq).1,B4.2 (.inl (RC j id off hq).2)⟩
   ·rw[hso k e] at hq;exact⟨(hS.mvd k j id off hq).1,B4.2 (.inr (hS.mvd k j id off hq).2)⟩
  ·intro hn k k' id off off' hq Jc;rw[List.flatMap_append] at hn;obtain⟨_,h4,h5⟩:=Ns hn;by_cases e:k=i
   ·by_cases e':k'=i
    ·omega
    ·rw[hso k' e'] at Jc;subst e;rw[hsi] at hq;exact absurd (hS.lent k' id off' Jc) (h5 id (ZB id off hq))
   ·rw[hso k e] at hq;by_cases e':k'=i
    ·subst e';rw[hsi] at Jc;exact absurd (hS.lent k id off hq) (h5 id (ZB id off' Jc))
    ·rw[hso k' e'] at Jc;exact hS.inj0 h4 k k' id off off' hq Jc
  ·intro hn k k' j j' id off off' hq Jc;obtain⟨h3,h4,h5⟩:=Ns hn;by_cases e:k=i
   ·by_cases e':k'=i
    ·subst e;subst e';rw[hsi] at hq Jc;exact⟨rfl,XT h3 j j' id off off' hq Jc⟩
    ·rw[hso k' e'] at Jc;subst e;rw[hsi] at hq;exact absurd (hS.mvd k' j' id off' Jc).2 (h5 id (RC j id off hq).2)
   ·rw[hso k e] at hq;by_cases e':k'=i
    ·subst e';rw[hsi] at Jc;exact absurd (hS.mvd k j id off hq).2 (h5 id (RC j' id off' Jc).2)
    ·rw[hso k' e'] at Jc;exact hS.inj1 h4 k k' j j' id off off' hq Jc
  ·have HI:Xv s.hp sr (i+1) vs ls:=JL (fun k hk=>hso k (by omega)) hL;rcases hl with⟨rfl,hnp,h3⟩|⟨x',rfl,h3⟩
   ·exact .inl ⟨hnp,by rw[hsi];exact h3,HI⟩
   ·exact .inr ⟨x',ls,rfl,by rw[hsi];exact h3,HI⟩
  ·exact hv fz (fun i hi=>h1 i (by simp[hi])) h2 (bt i) (fun j=>by rw[JT,hsi])
  ·refine Xt fz (fun i hi=>h1 i (by simp[hi])) h2 (fun k j=>(srcs k j).bind (Kx β)) (fun _ _=>rfl) |> RE fun k hk j=>?_
   rw[JT,hso k (by omega)]
end
open Go.RowKit
section
variable {R:Type}{r:R}{P:Program}{N:Nat}{w0:World}{X0:Gt}{Y:Nat->Prop}{β β':Bt}{s:St}{a:Act}{w w':World}{o:Oper}{A:Nat->Prop}
theorem Aup{p:PV}{u:Value}(h:Bd w A p u):Cz w A β p u:=by have h0:=h;cases h<;>exact h0
theorem As8{t:Nat}{ct:CT}{was p:PV}{K:Nat->PV->List (Nat × Cb)->Option R}(hk:An0 N t ct was p K=some r):
  (∃c,K t c []=some r/\GT c/\∀w A q u,Lf w A q p u->Bd w A c u)\/∃es n cc,p=.own es n cc/\K (t+1) (.view (nid N t) es 0 n) [(nid N t,.ar false cc)]=some r:=by
 have tree:∀t',(NM t' p fun c=>K t c [])=some r->∃c,K t c []=some r/\GT c/\∀w A q u,Lf w A q p u->Bd w A c u:=by
  intro t' hk;obtain⟨c,hk,hT,WN,hv⟩:=To hk;refine⟨c,hk,hT,fun w A q u h=>(hv w A (fun _=>none) u ?_).1⟩;cases p<;>first|exact h|exact WN.elim
 unfold An0 at hk;cases ct with
 |sl es=>
  dsimp only at hk;split at hk
  ·unfold J0 at hk;split at hk
   ·rename_i es' n c;cases hb:Nat.beq es' es<;>rw[hb] at hk
    ·cases hk
    ·have:=Ez hb;subst this;exact .inr ⟨_,_,_,rfl,hk⟩
   ·cases hk
  ·have h2:(NM (.sl es) p fun c=>(match c with | .lst _ es n c=>K t (.lst false es n c) []|_=>none))=some r:=hk;obtain⟨c,hk,hT,WN,hv⟩:=To h2;split at hk
   ·refine .inl ⟨_,hk,hT,fun w A q u h=>Bd.unz (hv w A (fun _=>none) u ?_).1⟩;cases p<;>first|exact h|exact WN.elim
   ·cases hk
 |int k=>exact .inl (tree _ hk)
 |bool=>exact .inl (tree _ hk)
 |str=>exact .inl (tree _ hk)
 |any=>exact .inl (tree _ hk)
theorem OT:∀{cts:List CT}{ws ps:Ab}{t:Nat}{K:Nat->Ab->List (Nat × Cb)->Option R},Aa1 N t cts ws ps K=some r ->
  ∃t' cs bs,∃qs:List (Nat × Nat),K t' cs bs=some r/\cs.length=ps.length/\ps.length=ws.length/\bs.map (·.1)=qs.map (·.1)/\(∀q∈qs,(∃k,q.1=nid N k)/\q.2<ps.length)/\(∀q∈qs,∀q'∈qs,q.2=q'.2->q.1=q'.1) /\
   (∀i bx,(i,bx)∈bs->∃c,bx=.ar false c)/\(∀c∈cs,∀i∈Ba c,∃bx,(i,bx)∈bs) /\
   ∀(w:World) (A:Nat->Prop) (own β':Bt) (j0:Nat) (us:List Value),(∀q∈qs,β' q.1=own (j0+q.2))->Iu w A own j0 ps us->Ca (Cz w A β') cs us/\∀i bx,(i,bx)∈bs->Ys w A β' i bx
 |[],[],ps,t,K,hk=>by
  obtain⟨rfl,hk⟩:=Fh hk;refine⟨t,[],[],[],hk,rfl,rfl,rfl,by simp,by simp,by simp,by simp,fun w A own β' j0 us _ h=>⟨?_,by simp⟩⟩;cases us with
  |nil=>trivial
  |cons u us=>exact h.elim
 |[],_::_,_,_,_,hk=>by cases hk
 |_::_,[],_,_,_,hk=>by cases hk
 |ct::cts,x::ws,ps,t,K,hk=>by
  unfold Aa1 at hk;obtain⟨p,ps',QQ,Fc⟩:=Bv hk;subst QQ;rcases As8 Fc with⟨c,Hv,hT,hv⟩|⟨es,n,cc,rfl,Hv⟩
  ·obtain⟨t',cs,bs,qs,X3,hl,Q7,hb,hq1,TC,Jt,Q6,Xt⟩:=OT Hv;refine⟨t',c::cs,bs,qs.map (fun q=>(q.1,q.2+1)),X3,by simp[hl],by simp[Q7],by rw[hb];simp,?_,?_,Jt,?_,fun w A own β' j0 us hβ ho=>?_⟩
   ·intro q hq;obtain⟨q0,JH,rfl⟩:=List.mem_map.1 hq;exact⟨(hq1 q0 JH).1,by have:=(hq1 q0 JH).2;simp only[He];omega⟩
   ·intro q hq q' Jc e;obtain⟨q0,JH,rfl⟩:=List.mem_map.1 hq;obtain⟨q1,Pn,rfl⟩:=List.mem_map.1 Jc;exact TC q0 JH q1 Pn (by simp only at e;omega)
   ·intro y hy i hi;rcases B7.1 hy with rfl|hy
    ·rw[Ml hT] at hi;cases hi
    ·exact Q6 y hy i hi
   ·cases us with
    |nil=>exact ho.elim
    |cons u us=>
     obtain⟨h1,h2⟩:=Xt w A own β' (j0+1) us (fun q hq=>by rw[hβ _ (List.mem_map_of_mem hq)];congr 1;simp only;omega) ho.2
     exact⟨⟨Aup (hv w A _ u ho.1),h1⟩,h2⟩
  ·obtain⟨t',cs,bs,qs,X3,hl,Q7,hb,hq1,TC,Jt,Q6,Xt⟩:=OT Hv;refine⟨t',_::cs,(nid N t,.ar false cc)::bs,(nid N t,0)::qs.map (fun q=>(q.1,q.2+1)),X3,by simp[hl],by simp[Q7],by simp only[Sn,hb];simp,?_,?_,?_,?_,fun w A own β' j0 us hβ ho=>?_⟩
   ·intro q hq;rcases B7.1 hq with rfl|hq
    ·exact⟨⟨t,rfl⟩,by simp⟩
    ·obtain⟨q0,JH,rfl⟩:=List.mem_map.1 hq;exact⟨(hq1 q0 JH).1,by have:=(hq1 q0 JH).2;simp only[He];omega⟩
   ·intro q hq q' Jc e;rcases B7.1 hq with rfl|hq
    ·rcases B7.1 Jc with rfl|Jc
     ·rfl
     ·obtain⟨q0,JH,rfl⟩:=List.mem_map.1 Jc;simp only at e;omega
    ·obtain⟨q0,JH,rfl⟩:=List.mem_map.1 hq;rcases B7.1 Jc with rfl|Jc
     ·simp only at e;omega
     ·obtain⟨q1,Pn,rfl⟩:=List.mem_map.1 Jc;exact TC q0 JH q1 Pn (by simp only at e;omega)
   ·intro i bx hm;rcases B7.1 hm with e|hm
    ·cases e;exact⟨cc,rfl⟩
    ·exact Jt i bx hm
   ·intro y hy i hi;rcases B7.1 hy with rfl|hy
    ·simp only[Ba,M0] at hi;subst hi;exact⟨_,KS⟩
    ·obtain⟨bx,P4⟩:=Q6 y hy i hi;exact⟨bx,Sx _ P4⟩
   ·cases us with
    |nil=>exact ho.elim
    |cons u us=>
     obtain⟨h1,h2⟩:=Xt w A own β' (j0+1) us (fun q hq=>by rw[hβ _ (Sx _ (List.mem_map_of_mem hq))];congr 1;simp only;omega) ho.2
     have h0:=hβ (nid N t,0) KS;simp only[JY] at h0;refine⟨⟨?_,h1⟩,fun i bx hm=>?_⟩
     ·rcases ho.1 with⟨h3,rfl,_,h5⟩|⟨b,ob,cap,h3,h4,h5,h6,h7,_⟩
      ·exact .inl ⟨h0.trans h3,rfl,rfl,h5⟩
      ·exact .inr ⟨b,ob,ob,cap,h0.trans h3,h4,.inl rfl,h5,h6,h7⟩
     ·rcases B7.1 hm with e|hm
      ·cases e;exact KN ho.1 h0
      ·exact h2 i bx hm
def Ai0(hp Dg:Nat->Option Cb)(bs:List (Nat × Cb))(x:Ks):Prop:=
 match x with
 |.var id off _ ws=>∃c cs,hp id=some (.st c)/\Dg id=some (.st (B0 c cs off))/\cs.length=ws.length/\off+cs.length<=c.length/\∀p∈cs,∀i∈Ba p,∃bx,(i,bx)∈bs
 |.row id=>∃c cs,hp id=some (.ar false c)/\Dg id=some (.ar false cs)
 |.none=>True
def Avn(β β':Bt)(w':World)(A:Nat->Prop)(hp Dg:Nat->Option Cb)(x:Ks):Prop:=
 match x with
 |.var id off _ ws=>∃c cs,hp id=some (.st c)/\Dg id=some (.st (B0 c cs off))/\cs.length=ws.length/\off+cs.length<=c.length /\
   ∀b o,β id=some (b,o)->(∀(j:Nat) p,cs[j]?=some p->∃v,w'.cell? ⟨b,o+off+j,none⟩=some v/\Cz w' A β' p v)/\∀j,j<cs.length->w'.frozen? ⟨b,o+off+j,none⟩=false
 |.row id=>∃cs,Dg id=some (.ar false cs)/\((β id=none/\cs=[])\/∃b o,β id=some (b,o)/\YL w' A ⟨b,o,none⟩ cs/\∀j,o<=j->j<bsz w' b->w'.frozen? ⟨b,j,none⟩=false)
 |.none=>True
theorem LU{hp Fu Dg:Nat->Option Cb}{bs bs1:List (Nat × Cb)}{x:Ks}(h1:∀i∈x.ids,Fu i=hp i)(hb:∀q∈bs,q∈bs1)(h:Ai0 Fu Dg bs x):Ai0 hp Dg bs1 x:=by
 cases x with
 |var id off cts ws=>
  obtain⟨c,cs,h2,h3,h4,h5,h6⟩:=h;refine⟨c,cs,by rw[<-h1 id (by simp[Ks.ids])];exact h2,h3,h4,h5,fun p hp i hi=>?_⟩
  obtain⟨bx,P4⟩:=h6 p hp i hi;exact⟨bx,hb _ P4⟩
 |row id=>
  obtain⟨c,cs,h2,h3⟩:=h;exact⟨c,cs,by rw[<-h1 id (by simp[Ks.ids])];exact h2,h3⟩
 |none=>trivial
theorem RH{hp Fu Dg:Nat->Option Cb}{x:Ks}(h1:∀i∈x.ids,Fu i=hp i)(h:Avn β β' w' A Fu Dg x):Avn β β' w' A hp Dg x:=by
 cases x with
 |var id off cts ws=>
  obtain⟨c,cs,h2,h3⟩:=h;exact⟨c,cs,by rw[<-h1 id (by simp[Ks.ids])];exact h2,h3⟩
 |row id=>exact h
 |none=>trivial
theorem Apn{hp Fu:Nat->Option Cb}{q:Option (Nat × Nat)}{p:PV}{x:Ks}(h1:∀i∈x.ids,Fu i=hp i)(h:LOk hp q p x):LOk Fu q p x:=by
 cases x with
 |var id off cts ws'=>
  obtain⟨h2,h3,h5,c,h6,h7⟩:=h;exact⟨h2,h3,h5,c,by rw[h1 id (by simp[Ks.ids])];exact h6,h7⟩
 |row id=>
  obtain⟨h2,h3,c,h4⟩:=h;exact⟨h2,h3,c,by rw[h1 id (by simp[Ks.ids])];exact h4⟩
 |none=>exact h
theorem NF{hp Fu:Nat->Option Cb}{src:Nat->Nat->Option (Nat × Nat)}:∀{ps:Ab}{i:Nat}{l:List Ks},(∀i∈l.flatMap Ks.ids,Fu i=hp i)->Xv hp src i ps l->Xv Fu src i ps l
 |[],_,_,_,h=>h
 |p::ps,i,l,hs,h=>by
  rcases h with⟨h1,h2,h3⟩|⟨x,l',rfl,h2,h3⟩
  ·exact .inl ⟨h1,h2,NF hs h3⟩
  ·exact .inr ⟨x,l',rfl,Apn (fun k hk=>hs k (by simp only[J1,B4];exact .inl hk)) h2,NF (fun k hk=>hs k (by simp only[J1,B4];exact .inr hk)) h3⟩
theorem Ala{own:Bt}{bt:QS}{j i:Nat}{p:PV}{zs:Ab}{r:List Ab}(hp:KM p=false)(h:GZ w A own bt j i (p::zs) r):GZ w A own bt j (i+1) zs r:=by cases p<;>first|exact h|cases hp
theorem DK{src:Nat->Nat->Option (Nat × Nat)}{β:Bt}:∀{zs:Ab}{l:List Ks}{ro:List Ab} {i j t:Nat}{hp:Nat->Option Cb}{K:(Nat->Option Cb)->List (Nat × Cb)->Option R},
  IC N t l ro hp K=some r->Xv hp src i zs l->Gf (l.flatMap Ks.ids)=true ->
  ∃Dg bs,∃qs:List (Nat × Nat),K Dg bs=some r/\bs.map (·.1)=qs.map (·.1)/\(∀q∈qs,(∃k,q.1=nid N k)/\j<=q.2)/\(∀q∈qs,∀q'∈qs,q.2=q'.2->q.1=q'.1)/\(∀i bx,(i,bx)∈bs->∃c,bx=.ar false c) /\
   (∀i,i ∉ l.flatMap Ks.ids->Dg i=hp i)/\(∀x∈l,Ai0 hp Dg bs x) /\
   ∀(w':World) (A:Nat->Prop) (own β':Bt) (bt:QS),(∀q∈qs,β' q.1=own q.2)->(∀i,bt i 0=(src i 0).bind (Kx β))->GZ w' A own bt j i zs ro ->
    (∀i bx,(i,bx)∈bs->Ys w' A β' i bx)/\∀x∈l,Avn β β' w' A hp Dg x
 |[],l,ro,i,j,t,hp,K,hk,hL,hn=>by
  have hL:l=[]:=hL;subst hL;unfold IC at hk;obtain⟨rfl,hk⟩:=Fh hk;exact⟨hp,[],[],hk,rfl,by simp,by simp,by simp,fun _ _=>rfl,by simp,fun w' A own β' bt _ _ _=>⟨by simp,by simp⟩⟩
 |p::zs,l0,ro,i,j,t,hp,K,hk,hL0,hn=>by
  rcases hL0 with⟨SO,_,hL⟩|⟨x,l,rfl,hok,hL⟩
  rotate_left
  ··simp only[J1] at hn;obtain⟨hn1,hn2,hn3⟩:=Ns hn;cases x with
    |var id off cts ws'=>
     obtain⟨rfl,SI,CN,c,hc,FC⟩:=hok;unfold IC at hk;obtain⟨cs,ro',hro,Fc⟩:=Bv hk;subst hro;obtain⟨t',cs',bs,qs,Hv,NK,SQ,hb,hq1,TC,Jt,Q6,hv⟩:=OT Fc;rw[hc] at Hv;simp only at Hv;change IC N t' l ro' (D2 hp id (some (.st (B0 c cs' off)))) (fun Dg bs'=>K Dg (bs++bs'))=some r at Hv;have Ai6:id ∉ l.flatMap Ks.ids:=hn3 id (by simp[Ks.ids]);have hL':Xv (D2 hp id (some (.st (B0 c cs' off)))) src (i+1) zs l:=NF (fun k hkm=>Ax _ _ (fun e=>Ai6 (e ▸ hkm))) hL;obtain⟨Dg,bs',qs',X3,Kh,Pn,Ajv,Aki,Rl,hsh,Ac7⟩:=DK (β:=β) (j:=j+cs.length) Hv hL' hn2;have Ari:Dg id=some (.st (B0 c cs' off)):=by rw[Rl id Ai6,A8]
     have UO:∀x∈l,∀k∈x.ids,D2 hp id (some (.st (B0 c cs' off))) k=hp k:=fun x hx k hkm=>Ax _ _ (fun e=>Ai6 (e ▸ List.mem_flatMap.2 ⟨x,hx,hkm⟩));refine⟨Dg,bs++bs',qs.map (fun q=>(q.1,j+q.2))++qs',X3,by simp only[List.map_append,hb,Kh];simp,?_,?_,?_,?_,?_,fun w' A own β' bt hβ JT ho=>?_⟩
     ·intro q hq;rcases B4.1 hq with hq|hq
      ·obtain⟨q0,JH,rfl⟩:=List.mem_map.1 hq;exact⟨(hq1 q0 JH).1,by simp only;omega⟩
      ·exact⟨(Pn q hq).1,by have:=(Pn q hq).2;omega⟩
     ·intro q hq q' Jc e;rcases B4.1 hq with hq|hq
      ·obtain⟨q0,JH,rfl⟩:=List.mem_map.1 hq;have:=(hq1 q0 JH).2;rcases B4.1 Jc with Jc|Jc
       ·obtain⟨q1,Pn,rfl⟩:=List.mem_map.1 Jc;exact TC q0 JH q1 Pn (by simp only at e;omega)
       ·have:=(Pn q' Jc).2;simp only at e;omega
      ·have h5:=(Pn q hq).2;rcases B4.1 Jc with Jc|Jc
       ·obtain⟨q1,A8y,rfl⟩:=List.mem_map.1 Jc;have:=(hq1 q1 A8y).2;simp only at e;omega
       ·exact Ajv q hq q' Jc e
     ·intro k bx hm;rcases B4.1 hm with hm|hm
      ·exact Jt k bx hm
      ·exact Aki k bx hm
     ·intro k hk;simp only[J1,B4,not_or] at hk;rw[Rl k hk.2];exact Ax _ _ (by rintro rfl;exact hk.1 (by simp[Ks.ids]))
     ·intro x hx;rcases B7.1 hx with rfl|hx
      ·refine⟨c,cs',hc,Ari,by omega,by omega,fun p hp k hk=>?_⟩;obtain⟨bx,P4⟩:=Q6 p hp k hk;exact⟨bx,B4.2 (.inl P4)⟩
      ·exact LU (UO x hx) (fun q hq=>B4.2 (.inr hq)) (hsh x hx)
     ·obtain⟨⟨b,ob,YA,H2,vs,hov,hcell,YP⟩,ho⟩:=ho
      ·obtain⟨h1,h2⟩:=hv w' A own β' j vs (fun q hq=>hβ _ (B4.2 (.inl (List.mem_map_of_mem hq)))) hov;obtain⟨h3,h4⟩:=Ac7 w' A own β' bt (fun q hq=>hβ q (B4.2 (.inr hq))) JT ho;refine⟨fun k bx hm=>?_,fun x hx=>?_⟩
       ·rcases B4.1 hm with hm|hm
        ·exact h2 k bx hm
        ·exact h3 k bx hm
       ·rcases B7.1 hx with rfl|hx
        ·refine⟨c,cs',hc,Ari,by omega,by omega,fun b1 o1 hβ1=>?_⟩;have Q6:=JT i;rw[YA,SI] at Q6;simp only[Option.bind_some,Kx,hβ1,Option.map_some,Option.some.injEq,Prod.mk.injEq] at Q6;obtain⟨rfl,rfl⟩:=Q6;refine⟨fun k p hp=>?_,fun k hk=>YP k (by omega)⟩;obtain⟨v,hv,hcr⟩:=h1.get hp;exact⟨v,hcell k v hv,hcr⟩
        ·exact RH (UO x hx) (h4 x hx)
    |row id=>
     obtain⟨⟨pz,rfl⟩,SI,c,hc⟩:=hok;unfold IC at hk;obtain⟨cs,ro',hro,Hv⟩:=Bv hk;subst hro;have Ai6:id ∉ l.flatMap Ks.ids:=hn3 id (by simp[Ks.ids]);have hL':Xv (D2 hp id (some (.ar false cs))) src (i+1) zs l:=NF (fun k hkm=>Ax _ _ (fun e=>Ai6 (e ▸ hkm))) hL;obtain⟨Dg,bs',qs',X3,Kh,Pn,Ajv,Aki,Rl,hsh,Ac7⟩:=DK (β:=β) (j:=j) Hv hL' hn2;have Ari:Dg id=some (.ar false cs):=by rw[Rl id Ai6,A8]
     have UO:∀x∈l,∀k∈x.ids,D2 hp id (some (.ar false cs)) k=hp k:=fun x hx k hkm=>Ax _ _ (fun e=>Ai6 (e ▸ List.mem_flatMap.2 ⟨x,hx,hkm⟩));refine⟨Dg,bs',qs',X3,Kh,Pn,Ajv,Aki,?_,?_,fun w' A own β' bt hβ JT ho=>?_⟩
     ·intro k hk;simp only[J1,B4,not_or] at hk;rw[Rl k hk.2];exact Ax _ _ (by rintro rfl;exact hk.1 (by simp[Ks.ids]))
     ·intro x hx;rcases B7.1 hx with rfl|hx
      ·exact⟨c,cs,hc,Ari⟩
      ·exact LU (UO x hx) (fun q hq=>hq) (hsh x hx)
     ·obtain⟨Anr,ho⟩:=ho
      ·obtain⟨h3,h4⟩:=Ac7 w' A own β' bt hβ JT ho;refine⟨h3,fun x hx=>?_⟩;rcases B7.1 hx with rfl|hx
       ·refine⟨cs,Ari,?_⟩;have Q6:=JT i;rw[SI] at Q6;simp only[Option.bind_some,Ak7] at Q6;rw[Q6] at Anr;exact Anr
       ·exact RH (UO x hx) (h4 x hx)
    |none=>
     obtain⟨⟨pz,rfl⟩,SI⟩:=hok;unfold IC at hk;obtain⟨cs,ro',hro,Hv⟩:=Bv hk;subst hro;obtain⟨Dg,bs',qs',X3,Kh,Pn,Ajv,Aki,Rl,hsh,Ac7⟩:=DK (β:=β) (j:=j) Hv hL hn2;refine⟨Dg,bs',qs',X3,Kh,Pn,Ajv,Aki,?_,?_,fun w' A own β' bt hβ JT ho=>?_⟩
     ·intro k hk;simp only[J1,B4,not_or] at hk;exact Rl k hk.2
     ·intro x hx;rcases B7.1 hx with rfl|hx
      ·trivial
      ·exact hsh x hx
     ·obtain⟨Anr,ho⟩:=ho
      ·obtain⟨h3,h4⟩:=Ac7 w' A own β' bt hβ JT ho;refine⟨h3,fun x hx=>?_⟩;rcases B7.1 hx with rfl|hx
       ·trivial
       ·exact h4 x hx
  ·obtain⟨Dg,bs',qs',X3,Kh,Pn,Ajv,Aki,Rl,hsh,Ac7⟩:=DK (β:=β) (j:=j) hk hL hn;exact⟨Dg,bs',qs',X3,Kh,Pn,Ajv,Aki,Rl,hsh,fun w' A own β' bt hβ JT ho=>Ac7 w' A own β' bt hβ JT (Ala SO ho)⟩
end
open Go.RowKit
theorem Js(hp:Nat->Option Cb)(ids:Cc)(i:Nat):DR hp ids i=if i∈ids then (hp i).map (fun _=>Cb.mv) else hp i:=by
 unfold DR;by_cases hi:i∈ids
 ·have:ids.any (Nat.beq i)=true:=List.any_eq_true.2 ⟨i,hi,P6 i⟩;rw[this,Bn hi];rfl
 ·have:ids.any (Nat.beq i)=false:=by
   cases hb:ids.any (Nat.beq i)
   ·rfl
   ·obtain⟨j,hj,e⟩:=List.any_eq_true.1 hb;exact absurd (Ez e ▸ hj) hi
  rw[this,A4 hi];rfl
theorem BC:∀{nw:List (Nat × Cb)} {hp:Nat->Option Cb},C3 hp nw=true->(nw.map (·.1)).Nodup
 |[],_,_=>List.nodup_nil
 |(i,b)::r,hp,h=>by
  simp only[C3,G6,Option.isNone_iff_eq_none,Bool.not_eq_true'] at h;simp only[Sn,List.nodup_cons];refine⟨fun hm=>?_,BC h.2⟩;obtain⟨q,hq,e⟩:=List.mem_map.1 hm;have:r.any (fun q=>Nat.beq q.1 i)=true:=List.any_eq_true.2 ⟨q,hq,by rw[e];exact P6 i⟩
  rw[this] at h;cases h.1.2
theorem Atv:∀{l:List (Nat × Nat)},(l.map (·.1)).Nodup->∀q∈l,GN l q.1=some q.2
 |[],_,_,h=>by cases h
 |(j,b)::r,hn,q,hq=>by
  simp only[Sn,List.nodup_cons] at hn;unfold GN;rcases B7.1 hq with rfl|hq
  ·simp only[P6,cond_true]
  ·have:Nat.beq q.1 j=false:=by
    cases hb:Nat.beq q.1 j
    ·rfl
    ·exact absurd (Ez hb ▸ List.mem_map_of_mem hq) hn.1
   simp only[this,cond_false];exact Atv hn.2 q hq
theorem Af7:∀{l:List (Nat × Nat)} {i:Nat},i ∉ l.map (·.1)->GN l i=none
 |[],_,_=>rfl
 |(j,b)::r,i,h=>by
  simp only[Sn,B7,not_or] at h;unfold GN
  have:Nat.beq i j=false:=by
   cases hb:Nat.beq i j
   ·rfl
   ·exact absurd (Ez hb) h.1
  simp only[this,cond_false];exact Af7 h.2
section
variable {R:Type}{r:R}{P:Program}{N:Nat}{w0:World}{X0:Gt}{Y:Nat->Prop}{β β':Bt}{s:St}{a:Act}{w w':World}{o:Oper}{A A':Nat->Prop}
theorem Lf.weak(hA:∀b,b<w.heap.size->A' b->A b){q:Option (Nat × Nat)}{p:PV}{u:Value}(h:Lf w A q p u):Lf w A' q p u:=by
 have tr:∀{p:PV},Bd w A p u->Bd w A' p u:=fun h=>h.step (C6.refl _ _) hA;cases p with
 |own es n c=>
  rcases h with h|⟨b,ob,cap,h1,h2,h3,h4,h5,h6,h7⟩
  ·exact .inl h
  ·exact .inr ⟨b,ob,cap,h1,h2,h3,h4,h5,h6.weak hA,h7⟩
 |_=>exact tr h
theorem Iu.weak(hA:∀b,b<w.heap.size->A' b->A b){own:Bt}:∀{ps:Ab}{us:List Value}{j:Nat},Iu w A own j ps us->Iu w A' own j ps us
 |[],[],_,_=>trivial
 |[],_::_,_,h=>h.elim
 |_::_,[],_,h=>h.elim
 |_::_,_::_,_,h=>⟨h.1.weak hA,Iu.weak hA h.2⟩
theorem Aim.weak(hA:∀b,b<w.heap.size->A' b->A b){bt:Bt}{p:PV}{u:Value}(h:Aim w A bt p u):Aim w A' bt p u:=by
 cases p with
 |pbox ps=>
  obtain⟨b,ob,h1,h2,h3,vs,h4,h5⟩:=h;exact⟨b,ob,h1,h2,h3,vs,h4.weak hA,h5⟩
 |tup ps=>
  obtain⟨es,n,c,h1,h2⟩:=h;exact⟨es,n,c,h1,h2.weak hA⟩
 |agg cs=>
  obtain⟨vs,h1,h2,h3⟩:=h;exact⟨vs,h1,h2,h3.weak hA⟩
 |_=>exact⟨h.1,h.2.weak hA⟩
theorem Sl.weak(hA:∀b,b<w.heap.size->A' b->A b){bt:QS}:∀{ps:Ab}{us:List Value}{i:Nat},Sl w A bt i ps us->Sl w A' bt i ps us
 |[],[],_,_=>trivial
 |[],_::_,_,h=>h.elim
 |_::_,[],_,h=>h.elim
 |_::_,_::_,_,h=>⟨h.1.weak hA,Sl.weak hA h.2⟩
theorem NG{bt:QS}(k:Bool):∀{xs:List Operand}{ps:Ab}{i:Nat},Sl w A bt i ps (xs.map a.eval)->Sl w A bt i (Pd k xs ps) (xs.map a.eval)
 |[],[],_,h=>h
 |[],_::_,_,h=>h
 |_::_,[],_,h=>h
 |x::xs,p::ps,i,h=>by
  simp only[Sn] at h ⊢;refine⟨?_,NG k h.2⟩;split
  ·exact⟨.inl trivial,Bd.lnil _ _⟩
  ·exact h.1
theorem Acm(k:Bool)(x:Operand)(xs:List Operand)(p:PV)(ps:Ab):∃p',Pd k (x::xs) (p::ps)=p'::Pd k xs ps/\KM p'=KM p/\(KM p=true->p'=p):=by
 refine⟨_,rfl,?_,fun h=>?_⟩
 ·split
  ·rfl
  ·rfl
 ·split
  ·cases h
  ·rfl
theorem AX{hp:Nat->Option Cb}{src:Nat->Nat->Option (Nat × Nat)}(k:Bool):∀{xs:List Operand}{ps:Ab}{i:Nat}{l:List Ks},Xv hp src i ps l->Xv hp src i (Pd k xs ps) l
 |[],[],_,_,h=>h
 |[],_::_,_,_,h=>h
 |_::_,[],_,_,h=>h
 |x::xs,p::ps,i,l,h=>by
  obtain⟨p',e,h1,h2⟩:=Acm k x xs p ps;rw[e];rcases h with⟨h3,h4,h5⟩|⟨y,l',rfl,h4,h5⟩
  ·exact .inl ⟨by rw[h1];exact h3,h4,AX k h5⟩
  ·exact .inr ⟨y,l',rfl,by rw[h2 (Ams h4)];exact h4,AX k h5⟩
theorem VL{hp:Nat->Option Cb}{src:Nat->Nat->Option (Nat × Nat)}:∀{ps:Ab}{i:Nat}{l:List Ks},Xv hp src i ps l->∀id∈l.flatMap Ks.ids,Db (hp id)/\∃k off,src k 0=some (id,off)
 |[],_,_,h,id,B6=>by
  have h:_=[]:=h;rw[h] at B6;cases B6
 |p::ps,i,l,h,id,B6=>by
  rcases h with⟨_,_,h3⟩|⟨x,l',rfl,h2,h3⟩
  ·exact VL h3 id B6
  ·simp only[J1,B4] at B6;rcases B6 with B6|B6
   ·cases x with
    |var id' off cts ws=>
     simp only[Ks.ids,M0] at B6;subst B6;obtain⟨_,h4,_,c,h5,_⟩:=h2;exact⟨by rw[h5];trivial,i,_,h4⟩
    |row id'=>
     simp only[Ks.ids,M0] at B6;subst B6;obtain⟨_,h4,c,h5⟩:=h2;exact⟨by rw[h5];trivial,i,_,h4⟩
    |none=>simp[Ks.ids] at B6
   ·exact VL h3 id B6
theorem Ask{hp:Nat->Option Cb}{src:Nat->Nat->Option (Nat × Nat)}:∀{ps:Ab}{i:Nat}{l:List Ks},Xv hp src i ps l->∀k p id off,ps[k]?=some p->src (i+k) 0=some (id,off) ->
   (∃c ws,hp id=some (.st c)/\p=.pbox ws/\off+ws.length<=c.length)\/((∃c,hp id=some (.ar false c))/\off=0/\∃ws,p=.tup ws)
 |[],_,_,_,k,p,id,off,hp,_=>by simp at hp
 |p::ps,i,l,h,k,p',id,off,Dg,hs=>by
  have HI:∃l',Xv hp src (i+1) ps l':=by
   rcases h with⟨_,_,h3⟩|⟨x,l',_,_,h3⟩<;>exact⟨_,h3⟩
  cases k with
  |succ k=>
   obtain⟨l',h'⟩:=HI;exact Ask h' k p' id off (by simpa using Dg) (by rw[show i+1+k=i+(k+1) by omega];exact hs)
  |zero=>
   simp only[List.getElem?_cons_zero,Option.some.injEq] at Dg;subst Dg;rw[JY] at hs;rcases h with⟨_,h2,_⟩|⟨x,l',_,h2,_⟩
   ·rw[hs] at h2;cases h2
   ·cases x with
    |var id' off' cts ws=>
     obtain⟨h3,h4,_,c,h5,h6⟩:=h2;rw[hs] at h4;cases h4;exact .inl ⟨c,ws,h5,h3,h6⟩
    |row id'=>
     obtain⟨h3,h4,c,h5⟩:=h2;rw[hs] at h4;cases h4;exact .inr ⟨⟨c,h5⟩,rfl,h3⟩
    |none=>
     have:=h2.2;rw[hs] at this;cases this
theorem Agg{hp : Nat -> Option Cb}{src : Nat -> Nat -> Option (Nat × Nat)}{id off : Nat}{cts : List CT}{ws : Ab}: ∀ {ps : Ab} {i : Nat} {l : List Ks}, Xv hp src i ps l -> Ks.var id off cts ws ∈ l ->
      ∃ k, ps[k]? = some (.pbox ws) /\ src (i + k) 0 = some (id, off)
  | [], _, _, h, hm => by
    have h : _ = [] := h
    rw[h] at hm; cases hm
  | p :: ps, i, l, h, hm => by
    have next : ∀ {l'}, Xv hp src (i + 1) ps l' -> Ks.var id off cts ws ∈ l' -> ∃ k, (p :: ps)[k]? = some (.pbox ws) /\ src (i + k) 0 = some (id, off) := by
      intro l' h' Nh
      obtain⟨k, h1, h2⟩ := Agg h' Nh
      exact⟨k + 1, by simpa using h1, by rw[show i + (k + 1) = i + 1 + k by omega]; exact h2⟩
    rcases h with⟨_, _, h3⟩ | ⟨x, l', rfl, h2, h3⟩
    · exact next h3 hm
    · rcases B7.1 hm with e | hm
      · subst e
        obtain⟨h1, h4, _⟩ := h2
        subst h1
        exact⟨0, rfl, h4⟩
      · exact next h3 hm
theorem Afs{hp:Nat->Option Cb}{src:Nat->Nat->Option (Nat × Nat)}:∀{ps:Ab}{i:Nat}{l:List Ks},Xv hp src i ps l->∀k id off,i<=k->src k 0=some (id,off)->k<i+ps.length->∃p,ps[k-i]?=some p/\KM p=true
 |[],i,_,_,k,id,off,h1,_,h3=>by simp at h3;omega
 |p::ps,i,l,h,k,id,off,h1,h2,h3=>by
  by_cases e:k=i
  ·subst e;rcases h with⟨_,h4,_⟩|⟨x,l',_,h4,_⟩
   ·rw[h2] at h4;cases h4
   ·exact⟨p,by simp,Ams h4⟩
  ·have HI:∃l',Xv hp src (i+1) ps l':=by
    rcases h with⟨_,_,h3⟩|⟨x,l',_,_,h3⟩<;>exact⟨_,h3⟩
   obtain⟨l',h'⟩:=HI;obtain⟨q,h5,h6⟩:=Afs h' k id off (by omega) h2 (by simp at h3;omega)
   refine⟨q,?_,h6⟩;rw[show k-i=(k-(i+1))+1 by omega]
   simpa using h5
theorem Sl.len{bt:QS}:∀{ps:Ab}{us:List Value}{i:Nat},Sl w A bt i ps us->ps.length=us.length
 |[],[],_,_=>rfl
 |[],_::_,_,h=>h.elim
 |_::_,[],_,h=>h.elim
 |_::_,_::_,_,h=>by simp[Sl.len h.2]
theorem Agb(h:Cj N w0 X0 Y β s a w){G:Ze}(Lg:RO P G w0 X0){C:Kr}{call:Bq}(Dn:∀f args res,call f args=some res->Dr G P f args res){c:Call}{f:FuncId}(ho:o.op=.call c)(hc:c.callee=.value (.func f)){K:St->Option R}(hk:PG C P N call s o f c K=some r):
  ∃s',K s'=some r/\∀(next:Act->World->Prop) (Q:Exit->Act->World->Prop),(∀a' w' β',Cj N w0 X0 Y β' s' a' w'->next a' w')->o.wp P a w next Q:=by
 unfold PG at hk;obtain⟨vs0,m,x,l,src,Fc,hm,hx,hS,hL,F1⟩:=Abz h hk;obtain⟨hb,Hv⟩:=A5 Fc;simp only[G6] at hb;obtain⟨⟨⟨YC,A1q⟩,hN⟩,Aoe⟩:=hb;have hN:0<N:=Nat.lt_of_succ_le (Ya hN);obtain⟨hnl,hnx,hlx⟩:=Ns YC
 have hml:∀i∈m,i ∉ l.flatMap Ks.ids/\i ∉ x:=by
  intro i hi;have:=List.all_eq_true.1 A1q i hi
  have hn:∀k∈l.flatMap Ks.ids++x,i≠k:=by
   rintro k hk rfl
   have h2:(l.flatMap Ks.ids++x).any (Nat.beq i)=true:=List.any_eq_true.2 ⟨i,hk,P6 i⟩;rw[h2] at this;cases this
  exact⟨fun hq=>hn i (by simp only[B4];exact .inl hq) rfl,fun hq=>hn i (by simp only[B4];exact .inr hq) rfl⟩
 replace hL:=AX (C.kz f) (xs:=c.args.toList) hL
 replace F1:=fun fz h1 h2 bt JT=>NG (a:=a) (C.kz f) (F1 fz h1 h2 bt JT)
 generalize Pd (C.kz f) c.args.toList vs0=vs at Hv F1 hL;obtain⟨rv,ro,CN,X3⟩:=Abs Hv;obtain⟨ws,bs,Xr,hwl,hnt,TB,hrs,hri,hws⟩:=OZ (C.shr f) N X3;obtain⟨Y2,hk5⟩:=A5 Xr;obtain⟨lids,ZB⟩:∃lids,l.flatMap Ks.ids=lids:=⟨_,rfl⟩
 rw[ZB] at hS hnl hlx hml;have A69:∀i,i ∉ x->DR (Al s.hp m) x i=Al s.hp m i:=fun i hi=>by rw[Js,A4 hi]
 have Alu:∀i,i∈lids->DR (Al s.hp m) x i=s.hp i:=fun i hi=>by
  rw[A69 i (hlx i hi),C5,A4 (fun hq=>(hml i hq).1 hi)]
 have hLM:Xv (DR (Al s.hp m) x) src 0 vs l:=NF (fun i hi=>Alu i (ZB ▸ hi)) hL;obtain⟨Dg,bs',qs,hk6,hbq,hq1,TC,Jt,Rl,hsh,Ac7⟩:=DK (β:=β) (j:=V4 rv) hk5 hLM (by rw[ZB];exact hnl)
 obtain⟨X1,hk7⟩:=A5 hk6;refine⟨_,hk7,fun next Q hn=>?_⟩;clear hk Fc Hv X3 Xr hk5 hk6 hk7;rw[ZB] at Rl;obtain⟨⟨fn,hfn,hfb⟩,hcs⟩:=Dn f vs _ CN;have hf:=h.freeze hm;have Apz:=VL hL;rw[ZB] at Apz
 have Aaz:∀i,i∈lids\/i∈x->Al s.hp m i=s.hp i:=by
  intro i hi;rw[C5,A4];intro hq;rcases hi with hi|hi
  ·exact (hml i hq).1 hi
  ·exact (hml i hq).2 hi
 have KF:∀i,i∈lids\/i∈x->Db (s.hp i):=by
  intro i hi;rcases hi with hi|hi
  ·exact (Apz i hi).1
  ·obtain⟨cc,hcc⟩:=hx i hi;rw[hcc];trivial
 have A7e:∀i j id off,src i j=some (id,off)->id∈lids\/id∈x:=by
  intro i j id off hs;cases j with
  |zero=>exact .inl (hS.lent i id off hs)
  |succ j=>exact .inr (hS.mvd i j id off hs).2
 obtain⟨bt,JT⟩:∃bt:QS,∀i j,bt i j=(src i j).bind (Kx β):=⟨_,fun _ _=>rfl⟩
 have btS:∀{i j b ob},bt i j=some (b,ob)->∃id off o',src i j=some (id,off)/\β id=some (b,o')/\ob=o'+off/\(id∈lids\/id∈x):=by
  intro i j b ob hb;rw[JT] at hb;cases hs:src i j with
  |none=>rw[hs] at hb;cases hb
  |some q=>
   rw[hs] at hb;obtain⟨id,off⟩:=q;simp only[Option.bind_some,Kx] at hb;cases hβ:β id with
   |none=>rw[hβ] at hb;cases hb
   |some p=>
    rw[hβ] at hb;obtain⟨b',o'⟩:=p;simp only[Option.map_some,Option.some.injEq,Prod.mk.injEq] at hb;obtain⟨rfl,rfl⟩:=hb;exact⟨id,off,o',rfl,hβ,rfl,A7e i j id off hs⟩
 have btX:∀{b},BtX bt b->∃id o',β id=some (b,o')/\(id∈lids\/id∈x):=by
  rintro b ⟨i,j,ob,hb⟩
  obtain⟨id,off,o',_,h2,_,h4⟩:=btS hb;exact⟨id,o',h2,h4⟩
 have hBA:∀b,BtX bt b->JO s.hp β b:=fun b hb=>by
  obtain⟨id,o',h1,h2⟩:=btX hb;exact⟨id,o',KF id h2,h1⟩
 obtain⟨Yc,hYc⟩:∃Yc:Nat->Prop,∀b,Yc b↔((∃id ob,Db (Al s.hp m id)/\β id=some (b,ob)/\id ∉ lids/\id ∉ x)\/Y b):=⟨_,fun _=>Iff.rfl⟩
 have H2:vs.length=c.args.toList.length:=by
  have:=(F1 m (fun _ hi=>hi) hm bt JT).len
  simpa using this
 have Bbn:Ins w Yc bt vs (c.args.toList.map a.eval):=by
  refine⟨fun b hb=>?_,fun b hb hB=>?_,fun b hB=>?_,fun i j i' j' b ob ob' hb Kh=>?_,fun i q hq=>?_,?_⟩
  ·rcases (hYc b).1 hb with⟨id,ob,hl,hβ,_⟩|hY
   ·exact hf.blt id b ob (Ed hl) hβ
   ·exact Jp (h.Ylt b hY) h.fr.step.size
  ·obtain⟨id',o',h1,h2⟩:=btX hB;rcases (hYc b).1 hb with⟨id,ob,hl,hβ,h3,h4⟩|hY
   ·have:=hf.inj id id' b ob o' hl (by show Db (Al s.hp m id');rw[Aaz id' h2];exact KF id' h2) hβ h1
    subst this;rcases h2 with h2|h2
    ·exact h3 h2
    ·exact h4 h2
   ·exact h.Yx b hY ⟨id',o',KF id' h2,h1⟩
  ·obtain⟨id',o',h1,h2⟩:=btX hB;exact h.blt id' b o' (Ed (KF id' h2)) h1
  ·obtain⟨id,off,o1,h1,h2,_,h4⟩:=btS hb;obtain⟨id',off',o1',h1',h2',_,h4'⟩:=btS Kh;have:=h.inj id id' b o1 o1' (KF id h4) (KF id' h4') h2 h2';subst this;cases j with
   |zero=>
    cases j' with
    |zero=>exact⟨hS.inj0 hnl i i' id off off' h1 h1',rfl⟩
    |succ j'=>exact absurd (hS.mvd i' j' id off' h1').2 (hlx id (hS.lent i id off h1))
   |succ j=>
    cases j' with
    |zero=>exact absurd (hS.mvd i j id off h1).2 (hlx id (hS.lent i' id off' h1'))
    |succ j'=>
     obtain⟨h5,h6⟩:=hS.inj1 hnx i i' j j' id off off' h1 h1';exact⟨h5,by rw[h6]⟩
  ·obtain⟨b,ob⟩:=q;obtain⟨id,off,o',h1,_⟩:=btS hq;obtain⟨p,hp,h2⟩:=Afs hL i id off (Nat.zero_le _) h1 (by have:=hS.dom i 0 _ h1;rw[H2];exact this.2)
   exact⟨p,by simpa using hp,h2⟩
  ·refine (F1 m (fun _ hi=>hi) hm bt JT).weak fun b _ hb=>?_;rcases hb with hb|hb
   ·obtain⟨id',o',h1,h2⟩:=btX hb;exact .inl ⟨id',o',by rw[Aaz id' h2];exact KF id' h2,h1⟩
   ·rcases (hYc b).1 hb with⟨id,ob,hl,hβ,_⟩|hY
    ·exact .inl ⟨id,ob,hl,hβ⟩
    ·exact .inr hY
 unfold Oper.wp;rw[LG ho hc Lg.ng hfn hfb];show Calls P f _ w _;have hca:c.args.map a.eval=(c.args.toList.map a.eval).toArray:=by rw[<-List.map_toArray,Array.toArray_toList]
 rw[hca];refine (hcs w Yc bt _ Bbn (Lg.fr w h.fr) (fun b x=>⟨Jp (Lg.y b x).1 h.fr.step.size,fun hB=>(h.ownd b (hBA b hB)).elim (Lg.y b x).2 (fun FC=>absurd (Lg.y b x).1 (Nat.not_lt.2 FC))⟩)).mono ?_
 rintro e w' ⟨us,own,rfl,out⟩
 obtain⟨ha1,ha2⟩:=Cl X1;obtain⟨hg1,hg2⟩:=G3 (hp:=Dg) ha2;have Akz:=BC X1;rw[List.map_append,List.nodup_append] at Akz;obtain⟨Bfy,A75,Bcy⟩:=Akz;rw[hbq] at A75
 obtain⟨β1,hβ1,hβ2⟩:∃β1:Bt,(∀i,(∃bx,(i,bx)∈bs)->β1 i=own ((i-o.dst.getD N) / N))/\∀i,(¬∃bx,(i,bx)∈bs)->β1 i=match GN qs i with|some j=>own j|none=>β i:=by
  refine⟨fun i=>if (bs.any fun q=>Nat.beq q.1 i)=true then own ((i-o.dst.getD N) / N) else match GN qs i with|some j=>own j|none=>β i,fun i hi=>?_,fun i hi=>?_⟩
  ·show (if _ then _ else _)=_;rw[Bn (Acf.2 hi)]
  ·show (if _ then _ else _)=_;rw[A4 (fun hq=>hi (Acf.1 hq))]
 have hβbs:∀j,(∃bx,(o.dst.getD N+N*j,bx)∈bs)->β1 (o.dst.getD N+N*j)=own (0+j):=by
  intro j hj;rw[hβ1 _ hj,Nat.add_sub_cancel_left,Nat.mul_div_cancel_left _ hN,Ck]
 have hqb:∀q∈qs,∃bx,(q.1,bx)∈bs':=by
  intro q hq;have:q.1∈bs'.map (·.1):=by rw[hbq];exact List.mem_map_of_mem hq
  obtain⟨⟨i,bx⟩,hm,e⟩:=List.mem_map.1 this;exact⟨bx,e ▸ hm⟩
 have A91:∀i bx,(i,bx)∈bs'->∃j,(i,j)∈qs:=by
  intro i bx hm;have:i∈qs.map (·.1):=by rw[<-hbq];exact List.mem_map.2 ⟨_,hm,rfl⟩
  obtain⟨⟨i',j⟩,hm,e⟩:=List.mem_map.1 this;exact⟨j,e ▸ hm⟩
 have hbb:∀i,(∃bx,(i,bx)∈bs')->¬∃bx,(i,bx)∈bs:=by
  rintro i ⟨bx,hm⟩ ⟨bx',Nh⟩
  exact Bcy i (List.mem_map.2 ⟨_,Nh,rfl⟩) i (List.mem_map.2 ⟨_,hm,rfl⟩) rfl
 have hβqs:∀q∈qs,β1 q.1=own q.2:=by
  intro q hq;rw[hβ2 q.1 (hbb q.1 (hqb q hq)),Atv A75 q hq]
 have hβold:∀i,Dg i≠none->β1 i=β i:=by
  intro i hi
  have hn1:¬∃bx,(i,bx)∈bs:=by
   rintro⟨bx,hm⟩
   exact hi (ha1 i bx (B4.2 (.inl hm)))
  rw[hβ2 i hn1,Af7];intro hm;obtain⟨q,hq,e⟩:=List.mem_map.1 hm;obtain⟨bx,P4⟩:=hqb q hq;exact hi (ha1 i bx (B4.2 (.inr (e ▸ P4))))
 obtain⟨Xt,hba⟩:=hws w' _ own β1 w.heap.size 0 us hβbs out.vals;obtain⟨A9z,A6m⟩:=Ac7 w' _ own β1 bt hβqs (fun i=>JT i 0) out.outs
 have Az9:∀id∈lids,∃y∈l,id∈y.ids:=by
  intro id B6;rw[<-ZB] at B6;exact List.mem_flatMap.1 B6
 have Ay9:∀id∈lids,(∃off c cs,s.hp id=some (.st c)/\Dg id=some (.st (B0 c cs off))/\off+cs.length<=c.length/\(∀p∈cs,∀i∈Ba p,∃bx,(i,bx)∈bs'))\/∃c cs,s.hp id=some (.ar false c)/\Dg id=some (.ar false cs):=by
  intro id B6;obtain⟨y,hy,hyi⟩:=Az9 id B6;have h1:=hsh y hy;cases y with
  |var id' off cts ws'=>
   simp only[Ks.ids,M0] at hyi;subst hyi;obtain⟨c1,cs,h2,h3,h4,h5,h6⟩:=h1;rw[Alu id B6] at h2;exact .inl ⟨off,c1,cs,h2,h3,h5,h6⟩
  |row id'=>
   simp only[Ks.ids,M0] at hyi;subst hyi;obtain⟨c1,cs,h2,h3⟩:=h1;rw[Alu id B6] at h2;exact .inr ⟨c1,cs,h2,h3⟩
  |none=>simp[Ks.ids] at hyi
 have Ba9:∀id∈lids,Dg id≠none:=by
  intro id B6;rcases Ay9 id B6 with⟨_,_,_,_,h2,_⟩|⟨_,_,_,h2⟩<;>rw[h2]<;>simp
 have hpK:∀id,id ∉ lids->Dg id=DR (Al s.hp m) x id:=fun id B6=>Rl id B6
 have M6:∀i,s.hp i≠none->Dg i≠none:=by
  intro i hi;by_cases hl:i∈lids
  ·exact Ba9 i hl
  ·rw[hpK i hl,Js];have h1:Al s.hp m i≠none:=fun e=>hi (Gd.1 e);split
   ·cases hq:Al s.hp m i with
    |none=>exact absurd hq h1
    |some b=>simp
   ·exact h1
 have Azo:∀i,(s.hp i≠none\/∃bx,(i,bx)∈bs++bs')->Bf Dg (bs++bs') i≠none:=by
  rintro i (hi|⟨bx,hm⟩)
  ·have h1:=M6 i hi;rw[hg2 i (fun bx hm=>h1 (ha1 i bx hm))];exact h1
  ·rw[hg1 i bx hm];simp
 have Lt:∀id,(∃bx,(id,bx)∈bs++bs')\/Bf Dg (bs++bs') id=Dg id:=fun id=>by
  by_cases hx:∃bx,(id,bx)∈bs++bs'
  ·exact .inl hx
  ·exact .inr (hg2 id fun bx hb=>hx ⟨bx,hb⟩)
 have hold:∀id bx,Dg id=some bx->Db (some bx)->Db (s.hp id)/\id ∉ x/\(id∈lids\/(id ∉ lids/\Al s.hp m id=some bx)):=by
  intro id bx hb hl;by_cases B6:id∈lids
  ·exact⟨KF id (.inl B6),hlx id B6,.inl B6⟩
  ·rw[hpK id B6,Js] at hb;split at hb
   ·cases hq:Al s.hp m id with
    |none=>rw[hq] at hb;cases hb
    |some b=>rw[hq] at hb;simp at hb;subst hb;exact hl.elim
   ·rename_i hxn;exact⟨by rw[N8 hb hl];exact hl,hxn,.inr ⟨B6,hb⟩⟩
 have JD:∀i bx,(i,bx)∈bs++bs'->∃j,β1 i=own j/\((i=o.dst.getD N+N*j/\j<V4 rv)\/((i,j)∈qs/\V4 rv<=j)):=by
  intro i bx hm;rcases B4.1 hm with hm|hm
  ·obtain⟨⟨j,rfl,hj⟩,_⟩:=hba i bx hm;exact⟨j,by rw[hβbs j ⟨bx,hm⟩,Ck],.inl ⟨rfl,hj⟩⟩
  ·obtain⟨j,hj⟩:=A91 i bx hm;exact⟨j,hβqs _ hj,.inr ⟨hj,(hq1 _ hj).2⟩⟩
 have Azz:∀i bx,(i,bx)∈bs++bs'->Db (some bx)/\Ys w' (TK bt own Yc) β1 i bx/\∀cs,bx=.st cs->∀b ob,β1 i=some (b,ob)->w.heap.size<=b:=by
  intro i bx hm;rcases B4.1 hm with hm|hm
  ·exact (hba i bx hm).2
  ·obtain⟨cc,rfl⟩:=Jt i bx hm;exact⟨trivial,A9z i _ hm,fun cs e=>by cases e⟩
 have A3y:∀b,(∃i k o',bt i (k+1)=some (b,o'))->∃id o',id∈x/\β id=some (b,o'):=by
  rintro b ⟨i,k,o',hb⟩
  obtain⟨id,off,o1,h1,h2,_,_⟩:=btS hb;exact⟨id,o1,(hS.mvd i k id off h1).2,h2⟩
 have hX:∀b,b<w.heap.size->JO (Bf Dg (bs++bs')) β1 b->JO s.hp β b:=by
  rintro b hb ⟨id,ob,hl,hβ⟩
  rcases Lt id with⟨bx,hm⟩|e
  ·obtain⟨j,hj,_⟩:=JD id bx hm;rw[hj] at hβ;obtain⟨id',o',h1,h2⟩:=A3y b ((out.fresh j b ob hβ).2 hb).1;exact⟨id',o',KF id' (.inr h1),h2⟩
  ·rw[e] at hl;cases hq:Dg id with
   |none=>rw[hq] at hl;exact hl.elim
   |some bx=>
    rw[hq] at hl;exact⟨id,ob,(hold id bx hq hl).1,by rw[<-hβold id (by rw[hq];simp)];exact hβ⟩
 have hAo:∀b,b<w.heap.size->D4 (Bf Dg (bs++bs')) β1 Y b->D4 s.hp β Y b:=fun b hb hA=>hA.imp (hX b hb) id
 have hAO:∀b,D4 (Bf Dg (bs++bs')) β1 Y b->TK bt own Yc b:=by
  rintro b (⟨id,ob,hl,hβ⟩|hY)
  ·rcases Lt id with⟨bx,hm⟩|e
   ·obtain⟨j,hj,_⟩:=JD id bx hm;rw[hj] at hβ;exact .inl ⟨j,ob,hβ⟩
   ·rw[e] at hl;cases hq:Dg id with
    |none=>rw[hq] at hl;exact hl.elim
    |some bx=>
     rw[hq] at hl;rw[hβold id (by rw[hq];simp)] at hβ
     obtain⟨h1,h2,h3⟩:=hold id bx hq hl;rcases h3 with h3|⟨h3,h4⟩
     ·obtain⟨_,i,off,hs⟩:=Apz id h3;exact .inr (.inl ⟨i,ob+off,by rw[JT,hs];simp[Kx,hβ]⟩)
     ·exact .inr (.inr ((hYc b).2 (.inl ⟨id,ob,by rw[h4];exact hl,hβ,h3,h2⟩)))
  ·exact .inr (.inr ((hYc b).2 (.inr hY)))
 have Hm:C6 (D4 s.hp β Y) w w':=out.ext.weaken (fun b _ hb=>.inl (hBA b hb));have Ayg:∀i,s.hp i≠none->β1 i=β i:=fun i hi=>hβold i (M6 i hi)
 have hCL:∀b j,Aan bt vs b j->∃id o' bx,s.hp id=some bx/\Db (some bx)/\β id=some (b,o')/\BR bx o' j:=by
  rintro b j ⟨i,p,hp,⟨k,ob,hb,FC⟩|⟨ob,ps,hb,FC,SO⟩⟩
  ·obtain⟨id,off,o',h1,h2,h3,_⟩:=btS hb;obtain⟨h5,h6⟩:=hS.mvd i k id off h1;obtain⟨cc,hcc⟩:=hx id h6;exact⟨id,o',_,hcc,trivial,h2,show o'<=j by omega⟩
  ·obtain⟨id,off,o',h1,h2,h3,_⟩:=btS hb;rcases Ask hL i p id off hp (by rw[Ck];exact h1) with⟨c1,wz,h5,h6,h7⟩|⟨⟨c1,h5⟩,_⟩
   ·rcases SO with⟨h8,h9⟩|h8
    ·rw[h6] at h8;cases h8;exact⟨id,o',_,h5,trivial,h2,show o'<=j/\j<o'+c1.length by omega⟩
    ·rw[h6] at h8;cases h8
   ·exact⟨id,o',_,h5,trivial,h2,show o'<=j by omega⟩
 have hnL:∀id off cts wz,Ks.var id off cts wz∈l->id∈lids->∀b ob,β id=some (b,ob)->∀j,(j<off\/off+wz.length<=j)->(∃c1,s.hp id=some (.st c1))->¬Aan bt vs b (ob+j):=by
  rintro id off cts wz hy B6 b ob hβ j hj ⟨c1,hc1⟩ ⟨i,p,hp,⟨k,ob',hb,FC⟩|⟨ob',ps,hb,FC,SO⟩⟩
  ·obtain⟨id',off',o',h1,h2,h3,h4⟩:=btS hb;have:=h.inj id id' b ob o' (KF id (.inl B6)) (KF id' h4) hβ h2;subst this;exact hlx id B6 (hS.mvd i k id off' h1).2
  ·obtain⟨id',off',o',h1,h2,h3,h4⟩:=btS hb;have:=h.inj id id' b ob o' (KF id (.inl B6)) (KF id' h4) hβ h2;subst this;rw[hβ] at h2;cases h2;obtain⟨k,Fc,Hv⟩:=Agg hL hy;rw[Ck] at Hv;have hik:=hS.inj0 hnl i k id off' off h1 Hv;subst hik;rw[h1] at Hv;cases Hv;rw[hp] at Fc;cases Fc;rcases SO with⟨h8,h9⟩|h8
   ·cases h8;omega
   ·cases h8
 have hval:Fe w' (D4 (Bf Dg (bs++bs')) β1 Y) β1 (Ux ws (Wy P o.type)) (Nv us):=by
  have BG:Ca (Jv w' (D4 (Bf Dg (bs++bs')) β1 Y) β1) ws us:=Xt.mono fun v u hvu=>hvu.step (C6.refl _ _) (fun b _=>hAO b) (fun _ _=>rfl);have H2:=BG.len;cases hT:Wy P o.type
  ·rw[hT] at Y2;have h1:ws.length=1:=Ez Y2
   match ws,us,h1,H2 with
   |[v],[u],_,_=>
    exact (Tq (hnt v (by simp))).2 BG.1
  ·rw[hT] at Y2
   have h1:¬ws.length=1:=by
    intro e;rw[e] at Y2;cases Y2
   have hr:Nv us=.tuple ⟨us⟩:=by
    unfold Nv;split
    ·simp at H2;omega
    ·rfl
   rw[hr];exact⟨us,rfl,BG⟩
 have hvr:∀i∈Cn (Ux ws (Wy P o.type)),∃bx,(i,bx)∈bs:=by
  intro i hi;cases hT:Wy P o.type
  ·rw[hT] at Y2 hi;have h1:ws.length=1:=Ez Y2
   match ws,h1 with
   |[v],_=>
    refine hrs v (by simp) i ?_
    have:Cn v=C2 v:=by
     have hn:=hnt v (by simp);cases v<;>first|rfl|exact absurd rfl (hn _)
    rw[<-this];exact hi
  ·rw[hT] at hi;obtain⟨v,hv,hi⟩:=List.mem_flatMap.1 (show i∈ws.flatMap C2 from hi);exact hrs v hv i hi
 refine hn _ w' β1 ?_;refine⟨by rw[Ln];exact h.dfr,by rw[I1];exact h.tsz,Adw Aoe h.tmo,?_,?_,?_,?_,?_,?_,?_,?_,?_,?_,?_,h.Ylt,?_⟩
 ·refine Wt (Q:=fun _ p u=>Fe w' (D4 (Bf Dg (bs++bs')) β1 Y) β1 p u) h.tsz Aoe (fun i hi=>?_) (fun _=>hval);exact (h.tms i hi).step Hm hAo fun id B6=>Ayg id (h.wfT i hi id B6)
 ·intro id bx hb;simp only at hb;rcases Lt id with⟨bx',Nh⟩|e
  ·rw[hg1 id bx' Nh] at hb;cases hb;exact (Azz id _ Nh).2.1.step' hAO
  ·rw[e] at hb;have hβ:=hβold id (by rw[hb];simp)
   by_cases B6:id∈lids
   ·obtain⟨y,hy,hyi⟩:=Az9 id B6;have h1:=A6m y hy;cases y with
    |var id' off cts wz=>
     simp only[Ks.ids,M0] at hyi;subst hyi;obtain⟨c1,cs,h2,h3,h4,h5,h6⟩:=h1;rw[Alu id B6] at h2;rw[h3] at hb;cases hb;obtain⟨b,ob,h7,h8,h9⟩:=h.box id _ h2;obtain⟨h10,h11⟩:=h6 b ob h7;have Cr:=h.blt id b ob (by rw[h2];simp) h7
     have BX:∀j,(j<off\/off+wz.length<=j)->w'.cell? ⟨b,ob+j,none⟩=w.cell? ⟨b,ob+j,none⟩/\w'.frozen? ⟨b,ob+j,none⟩=w.frozen? ⟨b,ob+j,none⟩:=
      fun j hj=>out.rng b (ob+j) Cr (hnL id off cts wz hy B6 b ob h7 j hj ⟨c1,h2⟩)
     refine⟨b,ob,hβ.trans h7,fun j p hj=>?_,fun j hj=>?_⟩
     ·rcases AA (by omega) hj with⟨h12,h13,h14⟩|⟨h12,h14⟩
      ·obtain⟨v,hv,hcr⟩:=h10 _ _ h14;refine⟨v,?_,hcr.step (C6.refl _ _) (fun b _=>hAO b) (fun _ _=>rfl)⟩;rw[show ob+j=ob+off+(j-off) by omega];exact hv
      ·obtain⟨v,hv,hcr⟩:=h8 _ _ h14;refine⟨v,by rw[(BX j (by omega)).1];exact hv,hcr.step Hm hAo fun i hi=>Ayg i (h.wfB id c1 h2 p (List.mem_of_getElem? h14) i hi)⟩
     ·rw[Z7 (by omega)] at hj;by_cases FN:off<=j/\j<off+cs.length
      ·have:=h11 (j-off) (by omega);rw[show ob+off+(j-off)=ob+j by omega] at this;exact this
      ·rw[(BX j (by omega)).2];exact h9 j hj
    |row id'=>
     simp only[Ks.ids,M0] at hyi;subst hyi;obtain⟨cs,h3,h4⟩:=h1;rw[h3] at hb;cases hb;rcases h4 with⟨h5,h6⟩|⟨b,ob,h5,h6,h7⟩
     ·exact .inl ⟨hβ.trans h5,h6⟩
     ·exact .inr ⟨b,ob,hβ.trans h5,h6.weak (fun b _=>hAO b),fun _=>h7,(fun q=>by cases q)⟩
    |none=>simp[Ks.ids] at hyi
   ·rw[hpK id B6,Js] at hb;split at hb
    ·cases hq:Al s.hp m id with
     |none=>rw[hq] at hb;cases hb
     |some b0=>rw[hq] at hb;simp at hb;subst hb;trivial
    ·rename_i hxn;have P4:=hf.box id bx hb
     have Aq9:∀b ob,β id=some (b,ob)->bx ≠ .mv->b<w.heap.size/\w'.heap[b]?=w.heap[b]?:=by
      intro b ob YA hmv;have Cr:=hf.blt id b ob (by show Al s.hp m id≠none;rw[hb];simp) YA
      refine⟨Cr,out.ext.keep b Cr fun hB=>?_⟩;obtain⟨id',o',h1,h2⟩:=btX hB;have Q7:Db (Al s.hp m id'):=by rw[Aaz id' h2];exact KF id' h2
      have hno:id≠id':=by
       rintro rfl
       rcases h2 with h2|h2
       ·exact B6 h2
       ·exact hxn h2
      cases bx with
      |st cc=>exact hno (hf.inj id id' b ob o' (by show Db (Al s.hp m id);rw[hb];trivial) Q7 YA h1)
      |ar fz cc=>
       cases fz with
       |false=>exact hno (hf.inj id id' b ob o' (by show Db (Al s.hp m id);rw[hb];trivial) Q7 YA h1)
       |true=>
        rcases P4 with⟨h3,_⟩|⟨b2,o2,h3,_,_,h4⟩
        ·rw[YA] at h3;cases h3
        ·rw[YA] at h3;cases h3;exact h4 rfl (.inl ⟨id',o',Q7,h1⟩)
      |mv=>exact hmv rfl
     have hAoF:∀b,b<w.heap.size->D4 (Bf Dg (bs++bs')) β1 Y b->D4 (Al s.hp m) β Y b:=by
      intro b Jt hA;rcases hA with⟨i,ob,hl,hβi⟩|hY
      ·rcases Lt i with⟨bx1,WP⟩|e1
       ·obtain⟨j,hj,_⟩:=JD i bx1 WP;rw[hj] at hβi;obtain⟨id',o',h1,h2⟩:=A3y b ((out.fresh j b ob hβi).2 Jt).1;exact .inl ⟨id',o',by rw[Aaz id' (.inr h1)];exact KF id' (.inr h1),h2⟩
       ·rw[e1] at hl;cases hq:Dg i with
        |none=>rw[hq] at hl;exact hl.elim
        |some bx1=>
         rw[hq] at hl;rw[hβold i (by rw[hq];simp)] at hβi
         obtain⟨h1,h2,h3⟩:=hold i bx1 hq hl;rcases h3 with h3|⟨h3,h4⟩
         ·exact .inl ⟨i,ob,by rw[Aaz i (.inl h3)];exact h1,hβi⟩
         ·exact .inl ⟨i,ob,by rw[h4];exact hl,hβi⟩
      ·exact .inr hY
     have A5t:C6 (D4 (Al s.hp m) β Y) w w':=out.ext.weaken (fun b _ hB=>by
      obtain⟨id',o',h1,h2⟩:=btX hB;exact .inl ⟨id',o',by rw[Aaz id' h2];exact KF id' h2,h1⟩)
     cases bx with
     |st cc=>
      obtain⟨b,ob,h1,h2,h3⟩:=P4;obtain⟨Cr,GQ⟩:=Aq9 b ob h1 (by simp);refine⟨b,ob,hβ.trans h1,fun j p hj=>?_,fun j hj=>?_⟩
      ·obtain⟨v,hv,hcr⟩:=h2 j p hj;refine⟨v,by rw[World.cell?_of_block (w:=w) GQ];exact hv,hcr.step A5t hAoF fun i hi=>?_⟩
       refine Ayg i (fun e1=>?_);exact hf.wfB id cc hb p (List.mem_of_getElem? hj) i hi (Gd.2 e1)
      ·rw[World.frozen?_of_block (w:=w) GQ];exact h3 j hj
     |ar fz cc=>
      rcases P4 with⟨h1,h2⟩|⟨b,ob,h1,h2,h3,h4⟩
      ·exact .inl ⟨hβ.trans h1,h2⟩
      ·obtain⟨Cr,GQ⟩:=Aq9 b ob h1 (by simp);have TY:bsz w' b=bsz w b:=by unfold bsz;rw[GQ]
       refine .inr ⟨b,ob,hβ.trans h1,fun j p hj=>?_,fun e1 j hj CM=>?_,fun e1 q=>h4 e1 (hAoF b Cr q)⟩
       ·obtain⟨v,hv,h5,hc1⟩:=h2 j p hj;exact⟨v,by rw[World.cell?_of_block (w:=w) (by rw[Iv];exact GQ)];exact hv,h5,hc1.step A5t hAoF⟩
       ·rw[World.frozen?_of_block (w:=w) GQ];exact h3 e1 j hj (by rw[<-TY];exact CM)
     |mv=>trivial
 ·intro id id' b ob ob' hl Q7 hb Kh;simp only at hl Q7
  have mixed:∀i bx i' k z,(i,bx)∈bs++bs'->β1 i=some (k,z)->Dg i'≠none->Db (Dg i')->∀z',β1 i'=some (k,z')->False:=by
   intro i bx i' k z WP hz hn1 NK z' hz';obtain⟨j,hj,_⟩:=JD i bx WP;rw[hj] at hz;rw[hβold i' hn1] at hz';cases hq:Dg i' with
   |none=>exact hn1 hq
   |some bx1=>
    rw[hq] at NK;obtain⟨h1,h2,h3⟩:=hold i' bx1 hq NK;have Cr:=h.blt i' k z' (Ed h1) hz';obtain⟨id2,o2,h4,h5⟩:=A3y k ((out.fresh j k z hz).2 Cr).1;have:=h.inj i' id2 k z' o2 h1 (KF id2 (.inr h4)) hz' h5;subst this;exact h2 h4
  rcases Lt id with⟨bx,WP⟩|e1
  ·rcases Lt id' with⟨bx',hm2⟩|e2
   ·obtain⟨j,hj,SO⟩:=JD id bx WP;obtain⟨j',CM,A6k⟩:=JD id' bx' hm2;rw[hj] at hb;rw[CM] at Kh;have:=out.inj j j' b ob ob' hb Kh;subst this;rcases SO with⟨h1,h2⟩|⟨h1,h2⟩
    ·rcases A6k with⟨h3,_⟩|⟨_,h4⟩
     ·rw[h1,h3]
     ·omega
    ·rcases A6k with⟨_,h4⟩|⟨h3,_⟩
     ·omega
     ·exact TC _ h1 _ h3 rfl
   ·rw[e2] at Q7;exact (mixed id bx id' b ob WP hb (Ed Q7) Q7 ob' Kh).elim
  ·rw[e1] at hl;rcases Lt id' with⟨bx',hm2⟩|e2
   ·exact (mixed id' bx' id b ob' hm2 Kh (Ed hl) hl ob hb).elim
   ·rw[e2] at Q7
    have g:∀i,Db (Dg i)->Db (s.hp i)/\β1 i=β i:=by
     intro i hli;cases hq:Dg i with
     |none=>rw[hq] at hli;exact hli.elim
     |some bx1=>exact⟨(hold i bx1 hq (by rw[<-hq];exact hli)).1,hβold i (by rw[hq];simp)⟩
    rw[(g id hl).2] at hb;rw[(g id' Q7).2] at Kh;exact h.inj id id' b ob ob' (g id hl).1 (g id' Q7).1 hb Kh
 ·intro id b ob hn1 hb;simp only at hn1;rcases Lt id with⟨bx,WP⟩|e1
  ·obtain⟨j,hj,_⟩:=JD id bx WP;rw[hj] at hb;exact (out.fresh j b ob hb).1
  ·rw[e1] at hn1;rw[hβold id hn1] at hb
   have hn2:s.hp id≠none:=by
    by_cases B6:id∈lids
    ·exact Ed (KF id (.inl B6))
    ·rw[hpK id B6,Js] at hn1;intro e2;have h1:Al s.hp m id=none:=Gd.2 e2;rw[h1] at hn1;split at hn1<;>exact hn1 rfl
   exact Jp (h.blt id b ob hn2 hb) out.ext.size
 ·have:=Wt (Q:=fun _ p _=>∀id∈Cn p,Bf Dg (bs++bs') id≠none) (val:=Nv us) (d:=o.dst) (v:=Ux ws (Wy P o.type)) h.tsz Aoe (fun i hi id B6=>Azo id (.inl (h.wfT i hi id B6))) (fun _ id B6=>Azo id (.inr (by
   obtain⟨bx,hb⟩:=hvr id B6;exact⟨bx,B4.2 (.inl hb)⟩)))
  exact this
 ·intro id cells Aei p hp i hi;simp only at Aei;refine Azo i ?_;rcases Lt id with⟨bx,WP⟩|e1
  ·rw[hg1 id bx WP] at Aei;cases Aei;rcases B4.1 WP with WP|WP
   ·obtain⟨bx1,hb⟩:=hri id cells WP p hp i hi;exact .inr ⟨bx1,B4.2 (.inl hb)⟩
   ·obtain⟨cc,e2⟩:=Jt id _ WP;cases e2
  ·rw[e1] at Aei;by_cases B6:id∈lids
   ·rcases Ay9 id B6 with⟨off,c1,cs,h1,h2,h3,h4⟩|⟨c1,cs,h1,h2⟩
    ·rw[h2] at Aei;cases Aei;unfold B0 at hp;rcases B4.1 hp with hp|hp
     ·rcases B4.1 hp with hp|hp
      ·exact .inl (h.wfB id c1 h1 p (List.mem_of_mem_take hp) i hi)
      ·obtain⟨bx1,hb⟩:=h4 p hp i hi;exact .inr ⟨bx1,B4.2 (.inr hb)⟩
     ·exact .inl (h.wfB id c1 h1 p (List.mem_of_mem_drop hp) i hi)
    ·rw[h2] at Aei;cases Aei
   ·obtain⟨_,_,h3⟩:=hold id _ Aei trivial;rcases h3 with h3|⟨_,h3⟩
    ·exact absurd h3 B6
    ·exact .inl (h.wfB id cells (N8 h3 trivial) p hp i hi)
 ·rintro b ⟨id,ob,hl,hβ⟩
  rcases Mh b w.heap.size with Cr|hge
  ·exact h.ownd b (hX b Cr ⟨id,ob,hl,hβ⟩)
  ·exact .inr (Nat.le_trans h.fr.step.size hge)
 ·intro id bx b ob hb hl hβ Cr j hj;simp only at hb;have hlw:=Jp Cr h.fr.step.size;rcases Lt id with⟨bx',WP⟩|e1
  ·rw[hg1 id bx' WP] at hb;cases hb;obtain⟨k,hk,_⟩:=JD id bx WP;rw[hk] at hβ
   have FC:ob<=j:=by
    cases bx with
    |st cc=>exact hj.1
    |ar fz cc=>exact hj
    |mv=>exact hl.elim
   obtain⟨id2,o2,bx2,h1,h2,h3,h4⟩:=hCL b j (((out.fresh k b ob hβ).2 hlw).2 j FC);exact h.rngB id2 bx2 b o2 h1 h2 h3 Cr j h4
  ·rw[e1] at hb;rw[hβold id (by rw[hb];simp)] at hβ
   obtain⟨h1,h2,h3⟩:=hold id bx hb hl;rcases h3 with h3|⟨h3,h4⟩
   ·rcases Ay9 id h3 with⟨off,c1,cs,h5,h6,h7,_⟩|⟨c1,cs,h5,h6⟩
    ·rw[h6] at hb;cases hb;have hj:ob<=j/\j<ob+(B0 c1 cs off).length:=hj;rw[Z7 (by omega)] at hj;exact h.rngB id _ b ob h5 trivial hβ Cr j hj
    ·rw[h6] at hb;cases hb;exact h.rngB id _ b ob h5 trivial hβ Cr j hj
   ·exact h.rngB id bx b ob (N8 h4 hl) hl hβ Cr j hj
 ·intro i hi;obtain⟨h1,h2⟩:=h.pin i hi;exact⟨Azo _ (.inl h1),by rw[Ayg _ h1];exact h2⟩
 ·intro id cc b ob hb hβ Cr;simp only at hb;have hlw:=Jp Cr h.fr.step.size;rcases Lt id with⟨bx',WP⟩|e1
  ·rw[hg1 id bx' WP] at hb;cases hb;have:=(Azz id _ WP).2.2 cc rfl b ob hβ;omega
  ·rw[e1] at hb;rw[hβold id (by rw[hb];simp)] at hβ
   obtain⟨h1,h2,h3⟩:=hold id _ hb trivial;rcases h3 with h3|⟨h3,h4⟩
   ·rcases Ay9 id h3 with⟨off,c1,cs,h5,h6,h7,_⟩|⟨c1,cs,h5,h6⟩
    ·exact h.stp id c1 b ob h5 hβ Cr
    ·rw[h6] at hb;cases hb
   ·exact h.stp id cc b ob (N8 h4 trivial) hβ Cr
 ·intro b hY hXb;exact h.Yx b hY (hX b (Jp (h.Ylt b hY) h.fr.step.size) hXb)
 ·refine⟨out.os.trans h.fr.os,out.tape.trans h.fr.tape,out.output.trans h.fr.output,⟨Nat.le_trans h.fr.step.size out.ext.size,fun b hb hnX=>?_,fun b hb=>Nat.le_trans (h.fr.step.bs b hb) (out.ext.bs b (Jp hb h.fr.step.size))⟩,fun b j hb hnL=>?_⟩
  ·rw[out.ext.keep b (Jp hb h.fr.step.size) ?_]
   ·exact h.fr.step.keep b hb hnX
   ·intro hB;rcases h.ownd b (hBA b hB) with hq|hq
    ·exact hnX hq
    ·omega
  ·have hno:¬Aan bt vs b j:=by
    intro hq;obtain⟨id2,o2,bx2,h1,h2,h3,h4⟩:=hCL b j hq;exact hnL (h.rngB id2 bx2 b o2 h1 h2 h3 hb j h4)
   obtain⟨h1,h2⟩:=out.rng b j (Jp hb h.fr.step.size) hno;rw[h1,h2];exact h.fr.rng b j hb hnL
end
open Go.RowKit
section
variable {R:Type}{r:R}{P:Program}{N:Nat}{w0:World}{X0:Gt}{Y:Nat->Prop}{β β':Bt}{s:St}{a:Act}{w w':World}{o:Oper}{A:Nat->Prop}
theorem Ady(h:Cj N w0 X0 Y β s a w){c:Call}(ho:o.op=.call c)(hc:c.callee=.builtin .append){d:Nat}(Aoe:o.dst=some d){b x:Operand}(F1:c.args.toList=[b,x]){t tx:TypeId}{ts:List TypeId}(RX:c.argTypes.toList=t::tx::ts){K:St->Option R}(hk:Wp P N s d t tx (Dd s.tm b) (Dd s.tm x) K=some r):
  ∃s',K s'=some r/\∀(next:Act->World->Prop) (Q:Exit->Act->World->Prop),(∀a' w' β',Cj N w0 X0 Y β' s' a' w'->next a' w')->o.wp P a w next Q:=by
 have WY:c.args = #[b,x]:=by
  have:c.args=([b,x]:List Operand).toArray:=by rw[<-F1]
  exact this
 have Aiq:c.argTypes=(t::tx::ts).toArray:=by rw[<-RX]
 have run:∀{v:Value} {w1:World},(Builtin.append_ (t::tx::ts).toArray o.type #[a.eval b,a.eval x]).run P w=.ok v w1->∀(next:Act->World->Prop) (Q:Exit->Act->World->Prop),next (a.put (some d) v) w1->o.wp P a w next Q:=by
  intro v w1 hr next Q hn;unfold Oper.wp execOp;rw[ho];simp only[resolve,hc,invoke,builtin,Sem.run_bind,Sem.run_pure,Result.andThen_ok,WY,Aiq];have:(#[b,x]:Array Operand).map a.eval = #[a.eval b,a.eval x]:=by simp
  rw[this,hr];show next (a.put o.dst v) w1;rw[Aoe];exact hn
 have hbv:=Ew h b;have hbr:=H8 h b;unfold Wp at hk;split at hk
 ·rename_i e hu;obtain⟨hzi,hk⟩:=A5 hk;obtain⟨i,z,hi,hz,hzs,K9⟩:=TP hzi;cases hit:JZ P tx
  rotate_left
  ·rw[hit] at hk;simp only[cond_true] at hk
   obtain⟨ki,htx⟩:∃k,P.underlying tx=some (.int k):=by
    unfold JZ at hit;split at hit
    ·exact⟨_,by assumption⟩
    ·cases hit
   unfold CY at hk;obtain⟨kx,n,hx,hk⟩:=Fb hk;obtain⟨zz,n',c',hk,hp⟩:=I4 hk;obtain⟨hb,hk⟩:=A5 hk;simp only[G6,GU] at hb;obtain⟨⟨⟨⟨⟨hzz,hdN⟩,JX⟩,ST⟩,hby⟩,hnm⟩:=hb;have hdN:d<N:=Nat.lt_of_succ_le (Ya hdN);have JX:s.hp d=none:=by simpa using JX
   have Aj2:J3 N (some d)=true:=by simp[J3,Nat.blt];omega
   have EK:((P.info? e).map (·.bytes)).getD 0=i.bytes:=by rw[hi];rfl
   rw[EK] at hby;rw[K9] at hk;have E9:=D5 h hx;rcases slice_form hp hbv with⟨X1,_⟩|⟨_,_,_,VD,_⟩|⟨_,_,_,VD,_⟩
   ·refine⟨_,hk,fun next Q hn=>?_⟩;by_cases hm0:n=0
    ·subst hm0;have hr:=NS (P:=P) (w:=w) (t:=t) (tx:=tx) (ty:=o.type) (ts:=ts) (kx:=kx) hu htx hi;rw[<-X1,<-E9] at hr;refine run hr next Q (hn _ _ (D2 β d none) ?_);rw[X1];refine h.stepR (d:=some d) (nw:=[(d,.ar false [])]) (β':=D2 β d none) Aj2 (by simp[C3,JX]) ⟨rfl,rfl,rfl,C6.refl _ _,fun j hj=>Ax _ _ (by rintro rfl;exact hj JX),?_,?_,?_,?_,?_,.inl ⟨A8 _ _ _,rfl,rfl,none,rfl⟩,?_⟩
     ·intro j bx hm;simp at hm;rw[hm.2];trivial
     ·intro j bx hm;simp at hm;obtain⟨rfl,rfl⟩:=hm;exact .inl ⟨A8 _ _ _,rfl⟩
     ·intro j bx k q hm hq;simp at hm;obtain⟨rfl,rfl⟩:=hm;rw[A8] at hq;cases hq
     ·intro j bx j' bx' k q q' hm Nh _ _;simp at hm Nh;rw[hm.1,Nh.1]
     ·intro j cells hm;simp at hm
     ·intro j hj;simp[Cn,C2,Ba] at hj;subst hj;exact .inr ⟨.ar false [],by simp⟩
    ·have hr:=SG (P:=P) (w:=w) (t:=t) (tx:=tx) (ty:=o.type) (ts:=ts) (kx:=kx) hu htx hi hz (n:=n) (by omega) hby hnm;rw[<-X1,<-E9] at hr;refine run hr next Q (hn _ _ (D2 β d (some (w.heap.size,0))) ?_);have hge:n.toNat<=grownCap w n.toNat 0 e:=grownCap_ge w n.toNat 0 e;generalize hcs:((if n.toNat*i.size=0 then #[] else Builtin.zeroCells z.cells n.toNat)++Builtin.zeroCells z.cells (grownCap w n.toNat 0 e-n.toNat))=cs
     have HW:J6 w (w.drew.alloc (.cells cs e)) cs e:=
      ⟨rfl,rfl,rfl,fun k hk=>Below.heap_alloc w.drew _ k hk,by show (w.heap.push _).size=_;simp,(0,0),by show (w.heap.push _)[w.heap.size]?=_;simp,.inl rfl⟩
     have Aj9:cs.size=grownCap w n.toNat 0 e*i.size:=by
      rw[<-hcs];by_cases UW:n.toNat*i.size=0
      ·rw[Bn UW]
       have hi0:i.size=0:=by
        rcases Nat.mul_eq_zero.1 UW with h|h
        ·omega
        ·exact h
       simp[size_zeroCells,hzs,hi0]
      ·rw[A4 UW];simp only[Array.size_append,size_zeroCells,hzs,<-Nat.add_mul]
       congr 1
       omega
     refine h.stepR (d:=some d) (nw:=[(d,.ar false [])]) Aj2 (by simp[C3,JX]) (Zw HW JX trivial ?_ (fun cells hx=>by cases hx) ?_ (by intro j hj;simp[Cn,C2,Ba] at hj;exact .inr hj))
     ·refine .inr ⟨w.heap.size,0,A8 _ _ _,fun j p hj=>by simp at hj,fun _ j _ hj=>?_,(fun q=>by cases q)⟩;rw[HW.bsz] at hj;exact HW.frozen hj
     ·refine .inr ⟨w.heap.size,0,0,grownCap w n.toNat 0 e,A8 _ _ _,rfl,.inl rfl,hge,?_,by rw[HW.size];omega⟩
      rw[HW.bsz,Aj9];omega
   ·rw[VD] at hzz;cases hzz
   ·rw[VD] at hzz;cases hzz
  rw[hit] at hk;simp only[cond_false] at hk;have EK:((P.info? e).map (·.bytes)).getD 0=i.bytes:=by rw[hi];rfl
  obtain⟨⟨dx,hdx,Ahp⟩,m,new,news,hk,hs⟩:=UI h hk (by
   intro m new hk;split at hk
   ·split at hk
    ·obtain⟨hb,_⟩:=A5 hk;simp only[G6,GU] at hb;have he:=Ez hb.1.1.1.1.1.1.1;rw[<-he];exact hb.1.1.2
    ·cases hk
   ·obtain⟨zz,n',c',hk,_⟩:=I4 hk;obtain⟨hb,_⟩:=A5 hk;simp only[G6,GU] at hb;exact hb.1.1.2)
  rw[K9] at hs;have hnl:new.length=news.length:=hs.rep.len;split at hk
  ·rename_i id es off n eb;rw[eb] at hbv hbr;split at hk
   ·rename_i cc h0;obtain⟨hb,Hv⟩:=A5 hk;simp only[G6,GU] at hb;obtain⟨⟨⟨⟨⟨⟨⟨QV,Xz⟩,hdN⟩,JX⟩,Bde⟩,Anc⟩,hby⟩,hnm⟩:=hb;have QV:=Ez QV;have Xz:=Ez Xz;have hdN:d<N:=Nat.lt_of_succ_le (Ya hdN);have JX:s.hp d=none:=by simpa using JX
    subst Xz;rw[K9] at QV;subst QV;rw[EK] at hby;have PQ:news.length=m*i.size:=by omega
    have Bgy:s.hp id≠none:=by rw[h0];simp
    have Apf:=h.box id _ h0;refine⟨_,Hv,fun next Q hn=>?_⟩
    have grow:∀(ad:Option Addr) (cap:Nat) (olds:List Value),a.eval b=.slice ad n cap->Ca (Bd w (D4 s.hp β Y)) (cc.take (n*i.size)) olds->(∀u∈olds,u.oneCell'=true)->olds.length=n*i.size ->
      ((ad=none/\olds=[])\/∃p,ad=some p/\olds.length=n*i.size/\∀(j:Nat) v,olds[j]?=some v->w.cell? (p.add j)=some v)->cap<n+m->o.wp P a w next Q:=by
     intro ad cap olds X1 holds h1 hol hold SK;have hr:=Sy (P:=P) (w:=w) (t:=t) (tx:=tx) (ty:=o.type) (ts:=ts) hu hdx Ahp hi hz hs hold SK hby hnm;rw[<-X1] at hr;refine run hr next Q (hn _ _ (D2 β d (some (w.heap.size,0))) ?_);have hge:n+m<=grownCap w (n+m) cap e:=grownCap_ge w (n+m) cap e
     have HW:J6 w (w.drew.alloc (.cells (olds.toArray++news.toArray++Builtin.zeroCells z.cells (grownCap w (n+m) cap e-(n+m))) e)) (olds.toArray++news.toArray++Builtin.zeroCells z.cells (grownCap w (n+m) cap e-(n+m))) e:=
      ⟨rfl,rfl,rfl,fun k hk=>Below.heap_alloc w.drew _ k hk,by show (w.heap.push _).size=_;simp,(0,0),by show (w.heap.push _)[w.heap.size]?=_;simp,.inl rfl⟩
     have Aj9:(olds.toArray++news.toArray++Builtin.zeroCells z.cells (grownCap w (n+m) cap e-(n+m))).size=grownCap w (n+m) cap e*i.size:=by
      simp only[Array.size_append,List.size_toArray,size_zeroCells,hzs,hol,PQ,<-Nat.add_mul]
      congr 1
      omega
     have hbo:∀k y,some (w.heap.size,0)=some (k,y)->w.heap.size<=k\/∃q,β id=some (k,q):=by
      intro k y hh;simp at hh;exact .inl (by omega)
     refine h.move h0 JX hdN rfl rfl rfl (by rw[HW.size];omega) (fun k hk _=>HW.old k hk) HW.step.bs (fun k y hh=>⟨by simp at hh;rw[HW.size];omega,hbo k y hh⟩) (fun k y hh Cr=>by simp at hh;omega)
      (fun k y _ Cr j _=>⟨World.cell?_of_block (w:=w) (HW.old k Cr),World.frozen?_of_block (w:=w) (HW.old k Cr)⟩) ?_ ?_ (by intro j hj;simpa [Cn,C2,Ba] using hj)
     ·refine .inr ⟨w.heap.size,0,A8 _ _ _,VO HW (Ajf h0 JX hbo) holds hs.rep h1 hs.one,fun _ j _ hj=>?_,(fun q=>by cases q)⟩;rw[HW.bsz] at hj;exact HW.frozen hj
     ·refine .inr ⟨w.heap.size,0,0,grownCap w (n+m) cap e,A8 _ _ _,rfl,.inl rfl,hge,?_,by rw[HW.size];omega⟩
      rw[HW.bsz,Aj9];omega
    rcases hbv with⟨hβ,_,rfl,ad,X1⟩|⟨bb,ob,y,cap,hβ,X1,hy,A7f,SK,A6o⟩
    ·rcases Apf with⟨_,rfl⟩|⟨b',o',Jt,_⟩
     ·by_cases hm0:m=0
      ·subst hm0;have hr:=So (P:=P) (w:=w) (t:=t) (tx:=tx) (ty:=o.type) (ts:=ts) (ad:=ad) hu hdx Ahp hi hs (List.eq_nil_of_length_eq_zero (by omega));rw[<-X1] at hr;have Af6:new=[]:=List.eq_nil_of_length_eq_zero (by omega);subst Af6;refine run hr next Q (hn _ _ (D2 β d none) ?_);rw[X1];refine h.move h0 JX hdN rfl rfl rfl (Da _) (fun _ _ _=>rfl) (fun _ _=>Da _) (fun k q hh=>by cases hh) (fun k q hh=>by cases hh) (fun _ _ _ _ _ _=>⟨rfl,rfl⟩) ?_ ?_ (by intro j hj;simpa [Cn,C2,Ba] using hj)
       ·exact .inl ⟨A8 _ _ _,by simp⟩
       ·exact .inl ⟨A8 _ _ _,rfl,rfl,ad,rfl⟩
      ·exact grow ad 0 [] X1 (by simp[Ca]) (by simp) (by simp) (by cases ad with
        |none=>exact .inl ⟨rfl,rfl⟩
        |some p=>exact .inr ⟨p,rfl,by simp,fun j v hj=>by simp at hj⟩) (by omega)
     ·rw[hβ] at Jt;cases Jt
    ·rcases Apf with⟨Jt,_⟩|⟨b',o',Jt,Q6,hb3,_⟩
     ·rw[hβ] at Jt;cases Jt
     rw[hβ] at Jt;simp at Jt;obtain⟨rfl,rfl⟩:=Jt;have hy:y=ob:=by rcases hy with hy|⟨_,hq⟩<;>omega
     subst hy;by_cases Asd:n+m<=cap
     ·have Ap7:y+n*i.size+news.length<=bsz w bb:=by
       have h5:n*i.size+m*i.size<=cap*i.size:=by rw[<-Nat.add_mul];exact Nat.mul_le_mul_right _ Asd
       omega
      have hcell:∀k,k<news.length->(w.cell? ⟨bb,y+n*i.size+k,none⟩).isSome=true:=fun k hk=>Au4 (by omega);have hr:=SM (P:=P) (w:=w) (t:=t) (tx:=tx) (ty:=o.type) (ts:=ts) (b:=bb) (ob:=y) (n:=n) (cap:=cap) hu hdx Ahp hi hs PQ hcell (fun k hk=>hb3 rfl _ (by omega) (by omega)) Asd;rw[<-X1] at hr;have hw:=G8.setCells bb news (y+n*i.size) w
      have hbo:∀k q,some (bb,y)=some (k,q)->w.heap.size<=k\/∃q',β id=some (k,q'):=by
       intro k q hh;simp at hh;obtain⟨rfl,rfl⟩:=hh;exact .inr ⟨_,hβ⟩
      refine run hr next Q (hn _ _ (D2 β d (some (bb,y))) ?_)
      have Hm:C6 (D4 s.hp β Y) w (w.setCells bb (y+n*i.size) news):=by
       have hAb:D4 s.hp β Y bb:=.inl ⟨id,y,by rw[h0];trivial,hβ⟩
       exact⟨by rw[hw.size];exact Da _,fun k _ hk=>hw.other k (fun e=>hk (e ▸ hAb)),fun k _=>by
        by_cases e:k=bb
        ·subst e;rw[hw.bs];exact Da _
        ·unfold bsz;rw[hw.other k e];exact Da _⟩
      refine h.move h0 JX hdN hw.os hw.tape hw.output (by rw[hw.size];exact Da _) (fun k _ hq=>hw.other k (by rintro rfl;exact hq _ hβ)) Hm.bs (fun k q hh=>⟨by simp at hh;rw[hw.size];omega,hbo k q hh⟩) (fun k q hh _=>by rw[hβ];exact hh)
       (fun k q hh _ j hj=>by
        rw[hβ] at hh;cases hh;exact⟨World.cell?_setCells_out bb _ _ w ⟨bb,j,none⟩ (fun _ _=>by show j<y+n*i.size\/y+n*i.size+_<=j;omega),hw.frz j⟩) ?_ ?_ (by intro j hj;simpa [Cn,C2,Ba] using hj)
      ·refine .inr ⟨bb,y,A8 _ _ _,fun j p hj=>?_,fun _ j hj CM=>?_,(fun q=>by cases q)⟩
       ·rw[Fy];by_cases hjn:j<n*i.size
        ·rw[List.getElem?_append_left (by rw[List.length_take];omega),List.getElem?_take_of_lt hjn] at hj
         obtain⟨u,Oo,h5,ht⟩:=Q6 j p hj;rw[Fy] at Oo;refine⟨u,?_,h5,ht.step Hm (Ajf h0 JX hbo)⟩;rw[World.cell?_setCells_out bb _ _ w ⟨bb,y+j,none⟩ (fun _ _=>by show y+j<y+n*i.size\/y+n*i.size+_<=y+j;omega)]
         exact Oo
        ·rw[List.getElem?_append_right (by rw[List.length_take];omega),List.length_take,Nat.min_eq_left Bde] at hj
         obtain⟨u,Oo,ht⟩:=hs.rep.get hj
         have Cr:j-n*i.size<news.length:=by
          rcases Mh (j-n*i.size) news.length with h|h
          ·exact h
          ·rw[List.getElem?_eq_none h] at Oo;cases Oo
         refine⟨u,?_,hs.one u (List.mem_of_getElem? Oo),ht.step Hm (Ajf h0 JX hbo)⟩;have:=World.cell?_setCells_in bb news (y+n*i.size) w hcell (j-n*i.size) Cr;rw[show y+j=y+n*i.size+(j-n*i.size) from by omega,this];rw[List.getElem?_eq_getElem Cr] at Oo;exact Oo
       ·rw[hw.bs] at CM;rw[hw.frz];exact hb3 rfl j hj CM
      ·exact .inr ⟨bb,y,y,cap,A8 _ _ _,rfl,.inl rfl,Asd,by rw[hw.bs];omega,by rw[hw.size];exact A6o⟩
     ·-- the old cells
      have hob:∀(j:Nat) p,(cc.take (n*i.size))[j]?=some p->∃v,w.cell? ⟨bb,y+j,none⟩=some v/\v.oneCell'=true/\Bd w (D4 s.hp β Y) p v:=by
       intro j p hj;rw[List.getElem?_take] at hj;split at hj
       ·obtain⟨v,hv,h5,ht⟩:=Q6 j p hj;rw[Fy] at hv;exact⟨v,hv,h5,ht⟩
       ·cases hj
      have H2:(cc.take (n*i.size)).length=n*i.size:=by rw[List.length_take];omega
      refine grow _ cap ((cc.take (n*i.size)).mapIdx fun j _=>(w.cell? ⟨bb,y+j,none⟩).getD undef) X1 ?_ ?_ (by simp only[List.length_mapIdx];exact H2) (.inr ⟨_,rfl,by simp only[List.length_mapIdx];exact H2,fun j v hj=>?_⟩) (by omega)
      ·refine Ca.of_at (by simp) fun j p v hp hv=>?_;obtain⟨u,Oo,_,ht⟩:=hob j p hp;rw[List.getElem?_mapIdx,hp,Option.map_some,Oo] at hv;simp at hv;subst hv;exact ht
      ·intro v hv;obtain⟨j,hj⟩:=List.mem_iff_getElem?.1 hv;rw[List.getElem?_mapIdx] at hj;cases hp:(cc.take (n*i.size))[j]? with
       |none=>rw[hp] at hj;cases hj
       |some p=>
        obtain⟨u,Oo,h5,_⟩:=hob j p hp;rw[hp,Option.map_some,Oo] at hj;simp at hj;subst hj;exact h5
      ·rw[List.getElem?_mapIdx] at hj;cases hp:(cc.take (n*i.size))[j]? with
       |none=>rw[hp] at hj;cases hj
       |some p=>
        obtain⟨u,Oo,h5,_⟩:=hob j p hp;rw[hp,Option.map_some,Oo] at hj;simp at hj;subst hj;rw[Fy];exact Oo
   ·cases hk
  ·obtain⟨zz,n',c',hk,hp⟩:=I4 hk;obtain⟨hb,hk⟩:=A5 hk;simp only[G6,GU] at hb;obtain⟨⟨⟨⟨⟨hzz,hdN⟩,JX⟩,Anc⟩,hby⟩,hnm⟩:=hb;have hdN:d<N:=Nat.lt_of_succ_le (Ya hdN);have JX:s.hp d=none:=by simpa using JX
   have Aj2:J3 N (some d)=true:=by simp[J3,Nat.blt];omega
   rw[K9] at Anc hk;rw[EK] at hby;have PQ:news.length=m*i.size:=by omega
   rcases slice_form hp hbv with⟨X1,_⟩|⟨_,_,_,VD,_⟩|⟨_,_,_,VD,_⟩
   ·refine⟨_,hk,fun next Q hn=>?_⟩;by_cases hm0:m=0
    ·subst hm0;have hr:=So (P:=P) (w:=w) (t:=t) (tx:=tx) (ty:=o.type) (ts:=ts) (ad:=none) hu hdx Ahp hi hs (List.eq_nil_of_length_eq_zero (by omega));rw[<-X1] at hr;have Af6:new=[]:=List.eq_nil_of_length_eq_zero (by omega);subst Af6;refine run hr next Q (hn _ _ (D2 β d none) ?_);rw[X1];refine h.stepR (d:=some d) (nw:=[(d,.ar false [])]) (β':=D2 β d none) Aj2 (by simp[C3,JX]) ⟨rfl,rfl,rfl,C6.refl _ _,fun j hj=>Ax _ _ (by rintro rfl;exact hj JX),?_,?_,?_,?_,?_,.inl ⟨A8 _ _ _,rfl,rfl,none,rfl⟩,?_⟩
     ·intro j bx hm;simp at hm;rw[hm.2];trivial
     ·intro j bx hm;simp at hm;obtain⟨rfl,rfl⟩:=hm;exact .inl ⟨A8 _ _ _,rfl⟩
     ·intro j bx k q hm hq;simp at hm;obtain⟨rfl,rfl⟩:=hm;rw[A8] at hq;cases hq
     ·intro j bx j' bx' k q q' hm Nh _ _;simp at hm Nh;rw[hm.1,Nh.1]
     ·intro j cells hm;simp at hm
     ·intro j hj;simp[Cn,C2,Ba] at hj;subst hj;exact .inr ⟨.ar false [],by simp⟩
    ·have hr:=Sy (P:=P) (w:=w) (t:=t) (tx:=tx) (ty:=o.type) (ts:=ts) (ad:=none) (n:=0) (cap:=0) (olds:=[]) hu hdx Ahp hi hz hs (.inl ⟨rfl,rfl⟩) (by omega) (by rw[Ck];exact hby) (by omega)
     rw[<-X1] at hr;refine run hr next Q (hn _ _ (D2 β d (some (w.heap.size,0))) ?_);have hge:0+m<=grownCap w (0+m) 0 e:=grownCap_ge w (0+m) 0 e
     have HW:J6 w (w.drew.alloc (.cells (([]:List Value).toArray++news.toArray++Builtin.zeroCells z.cells (grownCap w (0+m) 0 e-(0+m))) e)) (([]:List Value).toArray++news.toArray++Builtin.zeroCells z.cells (grownCap w (0+m) 0 e-(0+m))) e:=
      ⟨rfl,rfl,rfl,fun k hk=>Below.heap_alloc w.drew _ k hk,by show (w.heap.push _).size=_;simp,(0,0),by show (w.heap.push _)[w.heap.size]?=_;simp,.inl rfl⟩
     have Aj9:(([]:List Value).toArray++news.toArray++Builtin.zeroCells z.cells (grownCap w (0+m) 0 e-(0+m))).size=grownCap w (0+m) 0 e*i.size:=by
      simp only[Array.size_append,List.size_toArray,size_zeroCells,hzs,PQ,Ud,<-Nat.add_mul];rw[Ck (m*i.size),<-Nat.add_mul]
      congr 1
      omega
     refine h.stepR (d:=some d) (nw:=[(d,.ar false new)]) Aj2 (by simp[C3,JX]) (Zw HW JX trivial ?_ (fun cells hx=>by cases hx) ?_ (by intro j hj;simp[Cn,C2,Ba] at hj;exact .inr hj))
     ·refine .inr ⟨w.heap.size,0,A8 _ _ _,?_,fun _ j _ hj=>?_,(fun q=>by cases q)⟩
      ·exact VO (pre:=[]) HW (Al8 JX) trivial hs.rep (by simp) hs.one
      ·rw[HW.bsz] at hj;exact HW.frozen hj
     ·refine .inr ⟨w.heap.size,0,0,grownCap w (0+m) 0 e,A8 _ _ _,by rw[Ck],.inl rfl,by omega,?_,by rw[HW.size];omega⟩
      rw[HW.bsz,Aj9];omega
   ·rw[VD] at hzz;cases hzz
   ·rw[VD] at hzz;cases hzz
 ·cases hk
theorem Alb(h:Cj N w0 X0 Y β s a w){c:Call}(ho:o.op=.call c)(hc:c.callee=.builtin .copy){b x:Operand}(F1:c.args.toList=[b,x]){t tx:TypeId}{ts:List TypeId}(RX:c.argTypes.toList=t::tx::ts){K:St->Option R}(hk:Aau P N s o.dst t tx (Dd s.tm b) (Dd s.tm x) K=some r):
  ∃s',K s'=some r/\∀(next:Act->World->Prop) (Q:Exit->Act->World->Prop),(∀a' w' β',Cj N w0 X0 Y β' s' a' w'->next a' w')->o.wp P a w next Q:=by
 have WY:c.args = #[b,x]:=by
  have:c.args=([b,x]:List Operand).toArray:=by rw[<-F1]
  exact this
 have Aiq:c.argTypes=(t::tx::ts).toArray:=by rw[<-RX]
 have run:∀{v:Value} {w1:World},(Builtin.copy_ (t::tx::ts).toArray o.type #[a.eval b,a.eval x]).run P w=.ok v w1->∀(next:Act->World->Prop) (Q:Exit->Act->World->Prop),next (a.put o.dst v) w1->o.wp P a w next Q:=by
  intro v w1 hr next Q hn;unfold Oper.wp execOp;rw[ho];simp only[resolve,hc,invoke,builtin,Sem.run_bind,Sem.run_pure,Result.andThen_ok,WY,Aiq];have:(#[b,x]:Array Operand).map a.eval = #[a.eval b,a.eval x]:=by simp
  rw[this,hr];exact hn
 have hbv:=Ew h b;unfold Aau at hk;split at hk
 ·rename_i e hu;obtain⟨hzi,hk⟩:=A5 hk;simp only[G6] at hzi;obtain⟨Xq,Aj2⟩:=hzi;obtain⟨i,hi⟩:∃i,P.info? e=some i:=Option.isSome_iff_exists.1 Xq;have K9:Bw P e=i.size:=by unfold Bw;rw[hi];rfl
  have h1c:∀(m:Nat) (new:Ab),(match Dd s.tm b with
    |.view id es off n=>
     match s.hp id with
     |some (.ar false c)=>As (Nat.beq es (Bw P e)&&decide (off+n*es<=c.length)&&decide (new.length=m*es))
       (Aa (min m n) fun k=>Aa (B0 c (new.take (k*es)) off) fun c=>K ⟨Co s.tm o.dst (.sc (.int .i64 k)),D2 s.hp id (some (.ar false c))⟩)
     |_=>none
    |_=>none)=some r->new.length=m*Bw P e:=by
   intro m new hk;split at hk
   ·split at hk
    ·obtain⟨hb,_⟩:=A5 hk;simp only[G6,GU] at hb;rw[<-Ez hb.1.1];exact hb.2
    ·cases hk
   ·cases hk
  obtain⟨_,m,new,news,hk,hs⟩:=UI h hk h1c;split at hk
  ·rename_i id es off n hb;rw[hb] at hbv;split at hk
   ·rename_i cc h0;obtain⟨hb,hk⟩:=A5 hk;simp only[G6,GU] at hb;obtain⟨⟨QV,FC⟩,hnl⟩:=hb;have QV:=Ez QV;subst QV;rw[K9] at hk hs FC hnl hbv;have PQ:news.length=m*i.size:=by rw[<-hs.rep.len];exact hnl
    have hkm:min m n*i.size<=m*i.size:=Nat.mul_le_mul_right _ (Nat.min_le_left _ _);have hkn:min m n*i.size<=n*i.size:=Nat.mul_le_mul_right _ (Nat.min_le_right _ _);have Kn:K ⟨Co s.tm o.dst (.sc (.int .i64 ((min m n:Nat):Int))),D2 s.hp id (some (.ar false (B0 cc (new.take (min m n*i.size)) off)))⟩=some r:=hk;refine⟨_,Kn,fun next Q hn=>?_⟩
    have Azf:∀{β':Bt} {Dg:Nat->Option Cb} {w':World},Cj N w0 X0 Y β' ⟨s.tm,Dg⟩ a w'->Cj N w0 X0 Y β' ⟨Co s.tm o.dst (.sc (.int .i64 ((min m n:Nat):Int))),Dg⟩ (a.put o.dst (goInt ((min m n:Nat):Int))) w':=
     fun hh=>hh.put Aj2 (Bd.sc _) (fun _ hx=>by cases hx)
    have Ava:new.take (min m n*i.size)=[]->D2 s.hp id (some (.ar false (B0 cc (new.take (min m n*i.size)) off)))=s.hp:=by
     intro e;rw[e];refine MM _ ?_;rw[h0];simp[B0]
    have nothing:min m n*i.size=0->∀(ad:Option Addr) (cap:Nat),a.eval b=.slice ad n cap->o.wp P a w next Q:=by
     intro e ad cap X1;have hr:=Ag6 (P:=P) (w:=w) (w1:=w) (t:=t) (ty:=o.type) (ts:=tx::ts) (ad:=ad) (n:=n) (cap:=cap) hu hi hs (by rw[e];cases ad<;>simp[storeCells])
     rw[<-X1] at hr;refine run hr next Q (hn _ _ β (Azf ?_));rw[Ava (by rw[e,List.take_zero])];exact h
    rcases hbv with⟨hβ,_,rfl,ad,X1⟩|⟨bb,ob,y,cap,hβ,X1,hy,A7f,SK,A6o⟩
    ·exact nothing (by simp) ad 0 X1
    ·by_cases hm0:min m n*i.size=0
     ·exact nothing hm0 _ _ X1
     rcases h.box id _ h0 with⟨Jt,_⟩|⟨b',o',Jt,Q6,hb3,_⟩
     ·rw[hβ] at Jt;cases Jt
     rw[hβ] at Jt;simp at Jt;obtain⟨rfl,rfl⟩:=Jt;have ST:n≠0:=by rintro rfl;simp at hm0
     have hy:y=ob+off:=by rcases hy with hy|⟨hq,_⟩<;>first|exact absurd hq ST|exact hy
     subst hy;have Cr:(news.take (min m n*i.size)).length=min m n*i.size:=by rw[List.length_take,PQ];omega
     have hcell:∀k,k<(news.take (min m n*i.size)).length->(w.cell? ⟨bb,ob+off+k,none⟩).isSome=true:=by
      intro k hk;obtain⟨v,hv,_⟩:=Q6 (off+k) _ (List.getElem?_eq_getElem (by omega));rw[Fy] at hv;rw[Sq,hv];rfl
     have YP:∀k,k<(news.take (min m n*i.size)).length->w.frozen? ⟨bb,ob+off+k,none⟩=false:=fun k hk=>by
      obtain⟨u,hu⟩:=Option.isSome_iff_exists.1 (hcell k hk);exact hb3 rfl _ (by omega) (UY hu)
     have h1:∀u∈news.take (min m n*i.size),u.oneCell'=true:=fun u hu=>hs.one u (List.mem_of_mem_take hu);have h3:=run_storeCells_cells (P:=P) bb (ob+off) (news.take (min m n*i.size)) 0 w (fun k hk=>by simpa using hcell k hk) (fun k hk=>by simpa using YP k hk) h1;have hr:=Ag6 (P:=P) (w:=w) (t:=t) (ty:=o.type) (ts:=tx::ts) (ad:=some ⟨bb,ob+off,none⟩) (n:=n) (cap:=cap) hu hi hs h3;rw[<-X1] at hr;simp only[JY] at hr;refine run hr next Q (hn _ _ β (Azf ?_))
     refine h.write h0 trivial trivial hβ (G8.setCells bb _ _ w) ?_ (fun cells hx=>by cases hx) (fun _ hx=>by cases hx) (fun j hj=>hj) (fun j hj=>by
      refine World.cell?_setCells_out bb _ _ w ⟨bb,j,none⟩ (fun _ _=>?_);have hj:¬(ob<=j):=hj;show j<ob+off\/ob+off+_<=j;omega)
     have Hm:C6 (D4 s.hp β Y) w (w.setCells bb (ob+off) (news.take (min m n*i.size))):=by
      have hw:=G8.setCells bb (news.take (min m n*i.size)) (ob+off) w;have hAb:D4 s.hp β Y bb:=.inl ⟨id,ob,by rw[h0];trivial,hβ⟩
      exact⟨by rw[hw.size];exact Da _,fun k _ hk=>hw.other k (fun e=>hk (e ▸ hAb)),fun k _=>by
       by_cases e:k=bb
       ·subst e;rw[hw.bs];exact Da _
       ·unfold bsz;rw[hw.other k e];exact Da _⟩
     have hll:(new.take (min m n*i.size)).length=min m n*i.size:=by rw[List.length_take,hnl];omega
     refine .inr ⟨bb,ob,hβ,fun j p hj=>?_,fun _ j hj CM=>?_,(fun x=>by cases x)⟩
     ·rw[Fy];rcases AA (by omega) hj with⟨h3,h4,h5⟩|⟨h3,h5⟩
      ·have A8d:j-off<min m n*i.size:=by omega
       rw[List.getElem?_take_of_lt A8d] at h5;obtain⟨u,hu,hcu⟩:=hs.rep.get h5;have Afn:j-off<(news.take (min m n*i.size)).length:=by omega
       refine⟨u,?_,hs.one u (List.mem_of_getElem? hu),hcu.step Hm (fun _ _ x=>x)⟩;have:=World.cell?_setCells_in bb (news.take (min m n*i.size)) (ob+off) w hcell (j-off) Afn;rw[show ob+j=ob+off+(j-off) from by omega,this];rw[<-List.getElem?_eq_getElem Afn,List.getElem?_take_of_lt A8d];exact hu
      ·obtain⟨v,hv,h6,QM⟩:=Q6 j p h5;rw[Fy] at hv;refine⟨v,?_,h6,QM.step Hm (fun _ _ x=>x)⟩;rw[World.cell?_setCells_out bb _ _ w ⟨bb,ob+j,none⟩ (fun _ _=>by show ob+j<ob+off\/ob+off+_<=ob+j;omega)]
       exact hv
     ·rw[(G8.setCells bb _ _ w).bs] at CM;rw[(G8.setCells bb _ _ w).frz];exact hb3 rfl j hj CM
   ·cases hk
  ·cases hk
 ·cases hk
theorem Ak1(h:Cj N w0 X0 Y β s a w){G:Ze}(Lg:RO P G w0 X0){C:Kr}{call:Bq}(Dn:∀f args res,call f args=some res->Dr G P f args res){K:St->Option R}(hk:GM C P N call s o K=some r):
  ∃s',K s'=some r/\∀(next:Act->World->Prop) (Q:Exit->Act->World->Prop),(∀a' w' β',Cj N w0 X0 Y β' s' a' w'->next a' w')->o.wp P a w next Q:=by
 unfold GM at hk;split at hk
 ·rename_i t x y ho;obtain⟨hd,hk⟩:=A5 hk;exact Ag5 h ho (by simpa using hd) hk
 ·rename_i c ho;split at hk
  ·rename_i hc;obtain⟨d,hd,Fc⟩:=Eh hk;obtain⟨b,xs,YG,Hv⟩:=Bv Fc;obtain⟨x,ys,hys,X3⟩:=Bv Hv;obtain⟨RQ,Xr⟩:=Fh X3;obtain⟨t,us,hus,hk5⟩:=Bv Xr;obtain⟨tx,vs,Xt,hk6⟩:=Bv hk5;rw[hys,RQ] at YG;rw[Xt] at hus;exact Ady h ho hc hd YG hus hk6
  ·rename_i hc;obtain⟨b,xs,YG,Hv⟩:=Bv hk;obtain⟨x,ys,hys,X3⟩:=Bv Hv;obtain⟨RQ,Xr⟩:=Fh X3;obtain⟨t,us,hus,hk5⟩:=Bv Xr;obtain⟨tx,vs,Xt,hk6⟩:=Bv hk5;rw[hys,RQ] at YG;rw[Xt] at hus;exact Alb h ho hc YG hus hk6
  ·rename_i f hc;exact Agb h Lg Dn ho hc hk
  ·cases hk
 ·cases hk
theorem XH(h:Cj N w0 X0 Y β s a w){G:Ze}(Lg:RO P G w0 X0){C:Kr}{call:Bq}(Dn:∀f args res,call f args=some res->Dr G P f args res){K:St->Option R}(hk:Ag1 C P N call o s K=some r):
  ∃s',K s'=some r/\∀(next:Act->World->Prop) (Q:Exit->Act->World->Prop),(∀a' w' β',Cj N w0 X0 Y β' s' a' w'->next a' w')->o.wp P a w next Q:=by
 unfold Ag1 at hk;cases hm:AW C P o.op
 ·rw[hm] at hk;exact Aka h Lg Dn hk
 ·rw[hm] at hk;exact Ak1 h Lg Dn hk
end
end
end
end Go.Proofs.YtpogefhpiaaliaaGreatDoor.Pv
