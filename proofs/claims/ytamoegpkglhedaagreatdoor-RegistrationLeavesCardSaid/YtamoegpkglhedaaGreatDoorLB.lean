/-
  The proof of RegistrationLeaves, part 2.
-/
import Derived.Test.YtamoegpkglhedaaGreatDoorLA
import Derived.Laws.Append
import Derived.IntWalk
import Derived.Laws.AppendOwn
import Derived.Laws.IdiomCopy
set_option linter.unusedSimpArgs false
set_option linter.unusedVariables false
namespace Go.Proofs.YtamoegpkglhedaaGreatDoor.Pv
set_option maxRecDepth 1000000
noncomputable section
section
open Go.RowKit
def Ht(w:World)(A:Nat->Prop)(own:Option (Nat × Nat))(p:PV)(u:Value):Prop:=
 match p with
 |.own es n c=>(own=none/\n=0/\c=[]/\∃ad,u=.slice ad 0 0) \/
   ∃b o cap,own=some (b,o)/\u=.slice (some ⟨b,o,none⟩) n cap/\n<=cap/\Fit w es b (o+cap*es)/\b<w.heap.size/\RdT w A ⟨b,o,none⟩ c/\∀j,o<=j->j<bsz w b->w.frozen? ⟨b,j,none⟩=false
 |p=>At w A p u
def Fs(w:World)(A:Nat->Prop)(own:Bt):Nat->Ad->List Value->Prop
 |_,[],[]=>True
 |j,p::ps,u::us=>Ht w A (own j) p u/\Fs w A own (j+1) ps us
 |_,_,_=>False
def Aqf(w:World)(A:Nat->Prop)(own:Bt)(j b o:Nat)(cs:Ad):Prop:=
 ∃vs,Fs w A own j cs vs/\(∀(k:Nat) v,vs[k]?=some v->w.cell? ⟨b,o+k,none⟩=some v)/\∀k,k<cs.length->w.frozen? ⟨b,o+k,none⟩=false
def Aty(w:World)(A:Nat->Prop)(own:Bt)(z j:Nat)(p:PV)(u:Value):Prop:=
 match p with
 |.agg cs=>∃vs,u=.agg ⟨vs⟩/\Fs w A own j cs vs
 |.pbox cs=>∃b o,own j=some (b,o)/\z<=b/\u=.pointer (some ⟨b,o,none⟩)/\Aqf w A own (j+1) b o cs
 |p=>Ht w A (own j) p u
def plc:PV->Nat
 |.pbox cs=>1+cs.length
 |p=>(cellsOf p).length
def TZ(w:World)(A:Nat->Prop)(own:Bt)(z:Nat):Nat->Ad->List Value->Prop
 |_,[],[]=>True
 |j,p::ps,u::us=>Aty w A own z j p u/\TZ w A own z (j+plc p) ps us
 |_,_,_=>False
abbrev GQ:=Nat->Nat->Option (Nat × Nat)
def BtX(bt:GQ)(b:Nat):Prop:=∃i j o,bt i j=some (b,o)
def isA(p:PV):Prop:=BG p\/∃es n c,p=.own es n c
def GT(p:PV):Bool:=
 match p with
 |.pbox _=>true
 |.tup _=>true
 |_=>false
theorem Avp{p:PV}(h:isA p):GT p=false:=by
 rcases h with h|⟨_,_,_,rfl⟩
 ·cases p<;>first|rfl|exact h.elim
 ·rfl
def Abz(w:World)(A:Nat->Prop)(bt:Bt)(p:PV)(u:Value):Prop:=
 match p with
 |.pbox ps=>∃b o,bt 0=some (b,o)/\u=.pointer (some ⟨b,o,none⟩)/\(∀p∈ps,isA p)/\Aqf w A bt 1 b o ps
 |.tup ps=>∃es n c,ps=[.own es n c]/\Ht w A (bt 0) (.own es n c) u
 |.agg cs=>∃vs,u=.agg ⟨vs⟩/\(∀p∈cs,isA p)/\Fs w A bt 1 cs vs
 |p=>isA p/\Ht w A (bt 1) p u
def N9(w:World)(A:Nat->Prop)(bt:GQ):Nat->Ad->List Value->Prop
 |_,[],[]=>True
 |i,p::ps,u::us=>Abz w A (bt i) p u/\N9 w A bt (i+1) ps us
 |_,_,_=>False
def Azq(bt:Bt)(p:PV)(b j:Nat):Prop:=
 (∃k o,bt (k+1)=some (b,o)/\o<=j)\/∃o ps,bt 0=some (b,o)/\o<=j/\((p=.pbox ps/\j<o+ps.length)\/p=.tup ps)
def QN(bt:GQ)(args:Ad)(b j:Nat):Prop:=∃i p,args[i]?=some p/\Azq (bt i) p b j
def AV(w:World)(A:Nat->Prop)(own:Bt)(bt:GQ):Nat->Nat->Ad->List Ad->Prop
 |_,_,[],r=>r=[]
 |j,i,p::zs,r=>
  match p with
  |.pbox ps=>
   match r with
   |[]=>False
   |cs::r=>(∃b o,bt i 0=some (b,o)/\cs.length=ps.length/\Aqf w A own j b o cs)/\AV w A own bt (j+cs.length) (i+1) zs r
  |.tup _=>
   match r with
   |[]=>False
   |cs::r=>((bt i 0=none/\cs=[])\/∃b o,bt i 0=some (b,o)/\RdT w A ⟨b,o,none⟩ cs/\∀k,o<=k->k<bsz w b->w.frozen? ⟨b,k,none⟩=false)/\AV w A own bt j (i+1) zs r
  |_=>AV w A own bt j (i+1) zs r
def MX(bt:GQ)(own:Bt)(Y:Nat->Prop)(b:Nat):Prop:=(∃j o,own j=some (b,o))\/(∃i o,bt i 0=some (b,o))\/Y b
def Ph(vals:Ad):Nat:=(vals.map plc).sum
structure Out(w w':World)(Y:Nat->Prop)(bt:GQ)(args:Ad)(own:Bt)(r:A1)(vs:List Value):Prop where
 os:w'.os=w.os
 tape:w'.tape=w.tape
 output:w'.output=w.output
 ext:Cq (BtX bt) w w'
 rng:∀b j,b<w.heap.size->¬QN bt args b j->w'.cell? ⟨b,j,none⟩=w.cell? ⟨b,j,none⟩/\w'.frozen? ⟨b,j,none⟩=w.frozen? ⟨b,j,none⟩
 vals:TZ w' (MX bt own Y) own w.heap.size 0 r.vals vs
 outs:AV w' (MX bt own Y) own bt (Ph r.vals) 0 args r.outs
 fresh:∀j b o,own j=some (b,o)->b<w'.heap.size/\(b<w.heap.size->(∃i k o',bt i (k+1)=some (b,o'))/\∀x,o<=x->QN bt args b x)
 inj:∀j j' b o o',own j=some (b,o)->own j'=some (b,o')->j=j'
def J1(us:List Value):Value:=match us with|[u]=>u|us=>.tuple ⟨us⟩
def Vq(w:World)(Y:Nat->Prop)(p:PV)(u:Value):Prop:=
 match p with
 |.agg cs=>∃vs,u=.agg ⟨vs⟩/\Be (fun c v=>BG c/\At w Y c v) cs vs
 |p=>BG p/\At w Y p u
structure Ins(w:World)(Y:Nat->Prop)(bt:GQ)(args:Ad)(us:List Value):Prop where
 Ylt:∀b,Y b->b<w.heap.size
 Yx:∀b,Y b->¬BtX bt b
 lt:∀b,BtX bt b->b<w.heap.size
 inj:∀i j i' j' b o o',bt i j=some (b,o)->bt i' j'=some (b,o')->i=i'/\j=j'
 l0:∀i q,bt i 0=some q->∃p,args[i]?=some p/\GT p=true
 args:N9 w (fun b=>BtX bt b\/Y b) bt 0 args us
structure BE where
 bl:Nat->Prop
 ok:World->Prop
 stable:∀w w':World,(∀b,bl b->b<w.heap.size->w'.heap[b]?=w.heap[b]?)->ok w->ok w'
def Cx(G:BE)(P:Program)(f:FuncId)(args:Ad)(r:A1):Prop:=
 (∃fn,P.funcs[f]?=some fn/\fn.body.isSome=true)/\∀(w:World)(Y:Nat->Prop)(bt:GQ)(us:List Value),Ins w Y bt args us->G.ok w->(∀b,G.bl b->b<w.heap.size/\¬BtX bt b) ->
  Calls P f us.toArray w fun e w'=>∃vs own,e=.returned (J1 vs)/\Out w w' Y bt args own r vs
def YM:GQ:=fun _ _=>none
theorem Sn(b:Nat):¬BtX YM b:=by rintro⟨_,_,_,h⟩;cases h
theorem Nu{w:World}{A:Nat->Prop}{q:Option (Nat × Nat)}{p:PV}{u:Value}(hp:BG p)(h:At w A p u):Ht w A q p u:=by cases p<;>first|exact h|exact hp.elim
theorem KI{w:World}{A:Nat->Prop}{own:Bt}:∀{cs:Ad}{vs:List Value}{j:Nat},Be (fun c v=>BG c/\At w A c v) cs vs->Fs w A own j cs vs
 |[],[],_,_=>trivial
 |_::_,_::_,_,h=>⟨Nu h.1.1 h.1.2,KI h.2⟩
 |[],_::_,_,h=>h.elim
 |_::_,[],_,h=>h.elim
theorem Akw{w:World}{A:Nat->Prop}{bt:Bt}{p:PV}{u:Value}(h:Vq w A p u):Abz w A bt p u:=by
 cases p with
 |agg cs=>
  obtain⟨vs,h1,h2⟩:=h;refine⟨vs,h1,fun p hp=>.inl ?_,KI h2⟩;obtain⟨j,hj⟩:=List.mem_iff_getElem?.1 hp;obtain⟨v,_,hv⟩:=h2.get hj;exact hv.1
 |sc v=>exact⟨.inl trivial,h.2⟩
 |lst z es n c=>exact⟨.inl trivial,h.2⟩
 |_=>exact h.1.elim
theorem OA{w:World}{A:Nat->Prop}{bt:GQ}:∀{ps:Ad}{us:List Value}{i:Nat},Be (Vq w A) ps us->N9 w A bt i ps us
 |[],[],_,_=>trivial
 |_::_,_::_,_,h=>⟨Akw h.1,OA h.2⟩
 |[],_::_,_,h=>h.elim
 |_::_,[],_,h=>h.elim
theorem Amh{w:World}{A A':Nat->Prop}(hA:∀b,b<w.heap.size->A' b->A b){p:PV}{v:Value}(h:Vq w A p v):Vq w A' p v:=by
 cases p with
 |agg cs=>
  obtain⟨vs,rfl,h2⟩:=h;exact⟨vs,rfl,h2.mono fun c v hc=>⟨hc.1,hc.2.step (Cq.refl _ _) hA⟩⟩
 |sc v=>exact⟨h.1,h.2.step (Cq.refl _ _) hA⟩
 |lst z es n c=>exact⟨h.1,h.2.step (Cq.refl _ _) hA⟩
 |_=>exact h.1.elim
theorem QL{w:World}{Y:Nat->Prop}{args:Ad}{us:List Value}(hY:∀b,Y b->b<w.heap.size)(h:Be (Vq w Y) args us):Ins w Y YM args us:=
 ⟨hY,fun b _=>Sn b,fun b h=>absurd h (Sn b),(fun _ _ _ _ _ _ _ h=>by cases h),(fun _ _ h=>by cases h),OA (h.mono fun _ _ hx=>Amh (fun b _ hb=>hb.elim (fun q=>absurd q (Sn b)) id) hx)⟩
def NoNG(P:Program):Prop:=∀(f:FuncId) (fn:Func),P.funcs[f]?=some fn->(fn.name == "runtime.NumGoroutine")=false
structure Env(P:Program)(G:BE)(w0:World)(X0:Jw):Prop where
 ng:NoNG P
 fr:∀w,Fr X0 w0 w->G.ok w
 y:∀b,G.bl b->b<w0.heap.size/\¬X0.X b
section
variable {R:Type}{r:R}{P:Program}{N:Nat}{w0:World}{X0:Jw}{Y:Nat->Prop}{β β':Bt}{s:St}{a:Act}{w w':World}{o:Oper}{A:Nat->Prop}
def OI(P:Program)(a:Act)(w:World)(o:Oper)(Y:Nat->Prop)(β:Bt)(s:St)(v:PV)(fz:Bz)(nw:List (Nat × B2)):Prop:=
 (∀id∈fz,∃f c,s.hp id=some (.ar f c))/\∀(next:Act->World->Prop)(Q:Exit->Act->World->Prop),
  (∀val w',(B6 s.hp nw=true->∃β',UR Y β ⟨s.tm,Af s.hp fz⟩ w v nw val w' β')->next (a.put o.dst val) w')->o.wp P a w next Q
theorem MY{v:PV}{fz:Bz}{nw:List (Nat × B2)}(h:E7 P a w o Y β s v fz nw):OI P a w o Y β s v fz nw:=by obtain⟨h1,val,w',hr,hs⟩:=h;refine⟨h1,fun next Q hn=>?_⟩;unfold Oper.wp;rw[hr];exact hn val w' hs
theorem Anb(h:Df N w0 X0 Y β s a w){t:TypeId}{x:PV}{u:Value}(hx:Fg w (Dt s.hp β Y) β x u){K:PV->Bz->Option R}(hk:Af9 P (Mm s.hp) t x K=some r):
  ∃p m,K p m=some r/\(∀id∈m,∃f cc,s.hp id=some (.ar f cc))/\(cellsOf p).length=(J7 P t).length/\∀fz:Bz,(∀id∈m,id∈fz)->(∀id∈fz,∃f cc,s.hp id=some (.ar f cc))->Vq w (Dt (Af s.hp fz) β Y) p u:=by
 unfold Af9 at hk;cases Hc:Cj P t
 ·rw[Hc] at hk;obtain⟨cs,m,hk,hl,Nj,hT,hF,hm,hv⟩:=Ul h (show Rn _ _ _ _=some r from hk);obtain⟨c,t',rfl,hk⟩:=Bf hk;obtain⟨rfl,hk⟩:=Eg hk;have hcT:=hT c (by simp);refine⟨c,m,hk,hm,?_,fun fz h1 h2=>?_⟩
  ·have:cellsOf c=[c]:=by cases c<;>first|rfl|exact hcT.elim
   rw[this];exact hl
  have hF':=hF _ (Th _)
  have hc:Cd w (Dt s.hp β Y) β x u:=by
   cases x<;>first|exact hx|exact hF'.elim
  have h3:=(hv fz h1 h2 [u] ⟨hc,trivial⟩).1.1;cases c<;>first|exact⟨trivial,h3⟩|exact hcT.elim
 ·rw[Hc] at hk;obtain⟨ps,hp,hk⟩:=Iw (show Ep _ _=some r from hk);rw[hp] at hx;obtain⟨cs,m,hk,hl,Nj,hT,hF,hm,hv⟩:=Ul h hk;obtain⟨vs,D4,h2⟩:=hx;refine⟨.agg cs,m,hk,hm,hl,fun fz h1 h3=>⟨vs,D4,?_⟩⟩;exact (hv fz h1 h3 vs h2).1.mono_mem fun c hc v JA=>⟨hT c hc,JA⟩
theorem Ase(h:Df N w0 X0 Y β s a w){t:TypeId}{x:Operand}{K:PV->Bz->Option R}(hk:Af9 P (Mm s.hp) t (Ck s.tm x) K=some r):
  ∃p m,K p m=some r/\(∀id∈m,∃f cc,s.hp id=some (.ar f cc))/\∀fz:Bz,(∀id∈m,id∈fz)->(∀id∈fz,∃f cc,s.hp id=some (.ar f cc))->Vq w (Dt (Af s.hp fz) β Y) p (a.eval x):=by
 obtain⟨p,m,h1,h2,_,h3⟩:=Anb h (Dj h x) hk;exact⟨p,m,h1,h2,h3⟩
theorem SU(h:Df N w0 X0 Y β s a w):∀{ts:List TypeId}{xs:List Operand}{K:Ad->Bz->Option R},OQ P (Mm s.hp) ts (xs.map (Ck s.tm)) K=some r ->
  ∃ps m,K ps m=some r/\(∀id∈m,∃f cc,s.hp id=some (.ar f cc))/\∀fz:Bz,(∀id∈m,id∈fz)->(∀id∈fz,∃f cc,s.hp id=some (.ar f cc))->Be (Vq w (Dt (Af s.hp fz) β Y)) ps (xs.map a.eval)
 |[],[],K,hk=>⟨[],[],hk,by simp,fun _ _ _=>trivial⟩
 |[],_::_,K,hk=>by cases hk
 |_::_,[],K,hk=>by cases hk
 |t::ts,x::xs,K,hk=>by
  simp only[U7] at hk;unfold OQ at hk;obtain⟨p,m,hk,hm,hv⟩:=Ase h hk;obtain⟨ps,ms,hk,OK,Wx⟩:=SU h hk;refine⟨p::ps,m++ms,hk,?_,fun fz h1 h2=>⟨hv fz (fun i hi=>h1 i (by simp[hi])) h2,Wx fz (fun i hi=>h1 i (by simp[hi])) h2⟩⟩;intro i hi;rcases Bn.1 hi with hi|hi
  ·exact hm i hi
  ·exact OK i hi
theorem Vq.weaken{A':Nat->Prop}(hA:∀b,b<w.heap.size->A' b->A b){p:PV}{v:Value}(h:Vq w A p v):Vq w A' p v:=by
 have one:BG p->BG p/\At w A p v->Vq w A' p v:=by
  intro hp h;cases p<;>first|exact⟨h.1,h.2.step (Cq.refl _ _) hA⟩|exact hp.elim
 cases p with
 |agg cs=>
  obtain⟨vs,rfl,h2⟩:=h;exact⟨vs,rfl,h2.mono fun c v hc=>⟨hc.1,hc.2.step (Cq.refl _ _) hA⟩⟩
 |_=>exact one h.1 h
theorem Ap9{t:CT}{p:PV}{K:PV->Option R}(h:IJ t p K=some r):
  ∃c,K c=some r/\BG c/\BG p/\(∀(w:World) (A:Nat->Prop) (β:Nat->Option (Nat × Nat)) (v:Value),Cd w A β p v->At w A c v/\v.oneCell'=true)/\((∀es,t ≠ .sl es)->∃v,c=.sc v):=by
 obtain⟨c,hk,hT,NV,hv⟩:=Qk h;cases t with
 |sl es=>exact⟨c,hk,hT,NV,hv,fun G6=>absurd rfl (G6 es)⟩
 |int k=>obtain⟨n,rfl,h2⟩:=Fe h;exact⟨_,h2,trivial,trivial,fun w A β v hv=>⟨hv,by have:=At.val (w:=w) (A:=A) hv;subst this;rfl⟩,fun _=>⟨_,rfl⟩⟩
 |bool=>obtain⟨n,rfl,h2⟩:=Eh h;exact⟨_,h2,trivial,trivial,fun w A β v hv=>⟨hv,by have:=At.val (w:=w) (A:=A) hv;subst this;rfl⟩,fun _=>⟨_,rfl⟩⟩
 |str=>obtain⟨n,rfl,h2⟩:=D9 h;exact⟨_,h2,trivial,trivial,fun w A β v hv=>⟨hv,by have:=At.val (w:=w) (A:=A) hv;subst this;rfl⟩,fun _=>⟨_,rfl⟩⟩
 |any=>
  obtain⟨u,rfl,h1,h2⟩:=Ajd (show fnK p (fun v=>K (.sc v))=some r from h);exact⟨_,h2,trivial,trivial,fun w A β v hv=>⟨hv,by have:=At.val (w:=w) (A:=A) hv;subst this;exact h1⟩,fun _=>⟨_,rfl⟩⟩
theorem Zc(shr:Bool)(N:Nat):∀{ts:List CT}{ps:Ad}{id:Nat}{K:Ad->List (Nat × B2)->Option R},Uc shr N id ts ps K=some r ->
  ∃cs bs,K cs bs=some r/\ps.length=ts.length/\(∀p∈ps,∀x,p ≠ .agg x/\p ≠ .pbox x)/\(∀c∈cs,RP c)/\((∀es,CT.sl es ∉ ts)->bs=[]/\∀c∈cs,∃v,c=.sc v) /\
   (∀i bx,(i,bx)∈bs->∃j es n c,ps[j]?=some (.own es n c)/\i=id+N*j/\bx=.ar false c) /\
   (∀c∈cs,∀i∈As c,∃bx,(i,bx)∈bs) /\
   ∀(w:World) (A:Nat->Prop) (own β':Bt) (j0:Nat) (us:List Value),(∀j,(∃bx,(id+N*j,bx)∈bs)->β' (id+N*j)=own (j0+j))->Fs w A own j0 ps us->Be (Cd w A β') cs us
 |[],ps,id,K,hk=>by
  obtain⟨rfl,hk⟩:=Eg hk;refine⟨[],[],hk,rfl,by simp,by simp,by simp,by simp,by simp,fun w A own β' j0 us _ h=>?_⟩;cases us with
  |nil=>trivial
  |cons u us=>exact h.elim
 |t::ts,ps,id,K,hk=>by
  unfold Uc at hk;obtain⟨p,ps',LH,Ez⟩:=Bf hk;subst LH;clear hk
  have main:∃c b,(Uc shr N (id+N) ts ps' fun cs bs=>K (c::cs) (b++bs))=some r/\(∀x,p ≠ .agg x/\p ≠ .pbox x)/\RP c/\((∀es,t≠CT.sl es)->b=[]/\∃v,c=.sc v)/\(∀i bx,(i,bx)∈b->∃es n cc,p=.own es n cc/\i=id/\bx=.ar false cc)/\(∀i∈As c,∃bx,(i,bx)∈b) /\
    ∀(w:World) (A:Nat->Prop) (own:Option (Nat × Nat)) (β':Bt) (u:Value),((∃bx,(id,bx)∈b)->β' id=own)->Ht w A own p u->Cd w A β' c u:=by
   have tree:∀t',t'=t->(IJ t' p fun c=>Uc shr N (id+N) ts ps' fun cs bs=>K (c::cs) ([]++bs))=some r->∃c b,(Uc shr N (id+N) ts ps' fun cs bs=>K (c::cs) (b++bs))=some r/\(∀x,p ≠ .agg x/\p ≠ .pbox x)/\RP c/\((∀es,t≠CT.sl es)->b=[]/\∃v,c=.sc v)/\(∀i bx,(i,bx)∈b->∃es n cc,p=.own es n cc/\i=id/\bx=.ar false cc)/\(∀i∈As c,∃bx,(i,bx)∈b) /\
     ∀(w:World) (A:Nat->Prop) (own:Option (Nat × Nat)) (β':Bt) (u:Value),((∃bx,(id,bx)∈b)->β' id=own)->Ht w A own p u->Cd w A β' c u:=by
    intro t' ht' hk;have hsc:=Ap9 hk;obtain⟨c,hk,hT,NV,hv,hsc⟩:=hsc;refine⟨c,[],hk,fun x=>⟨GB NV x,by rintro rfl;exact NV⟩,Vu hT,fun G6=>⟨rfl,hsc (fun es e=>G6 es (ht'.symm.trans e))⟩,by simp,by rw[Jh hT];simp,fun w A own β' u _ hc=>?_⟩
    have Q1:Cd w A β' p u:=by cases p<;>first|exact hc|exact NV.elim
    exact (Og hT).2 (hv w A β' u Q1).1
   unfold Are at Ez;cases t with
   |sl es=>
    dsimp only at Ez;cases shr
    ·unfold Lg at Ez;simp only[cond_false] at Ez;split at Ez
     ·rename_i es' n c;cases hb:Nat.beq es' es
      ·rw[hb] at Ez;cases Ez
      ·rw[hb] at Ez;have:=C6 hb;subst this;refine⟨_,_,Ez,by simp,trivial,fun G6=>absurd rfl (G6 _),?_,?_,fun w A own β' u hβ hc=>?_⟩
       ·intro i bx hm;simp at hm;exact⟨_,_,_,rfl,hm.1,hm.2⟩
       ·intro i hi;simp[As] at hi;subst hi;exact⟨.ar false c,by simp⟩
       ·have hβ':=hβ ⟨.ar false c,by simp⟩;clear hβ;rcases hc with⟨h1,rfl,rfl,h4⟩|⟨b,ob,cap,h1,h2,h3,h4,h5,_⟩
        ·exact .inl ⟨hβ'.trans h1,rfl,rfl,h4⟩
        ·exact .inr ⟨b,ob,ob,cap,hβ'.trans h1,h2,.inl rfl,h3,h4,h5⟩
     ·cases Ez
    ·obtain⟨c,hk,hT,NV,hv,_⟩:=Ap9 (t:=.sl es) (p:=p) (K:=fun c=>Uc true N (id+N) ts ps' fun cs bs=>K (WY c::cs) ([]++bs)) Ez;have hU:BG (WY c):=by cases c<;>exact hT
     refine⟨WY c,[],hk,fun x=>⟨GB NV x,by rintro rfl;exact NV⟩,Vu hU,fun G6=>absurd rfl (G6 _),by simp,by rw[Jh hU];simp,fun w A own β' u _ hc=>?_⟩
     have Q1:Cd w A β' p u:=by cases p<;>first|exact hc|exact NV.elim
     refine (Og hU).2 ?_;have:=(hv w A β' u Q1).1;cases c with
     |lst z es n c=>exact At.unz this
     |_=>exact this
   |int k=>exact tree (.int k) rfl Ez
   |bool=>exact tree .bool rfl Ez
   |str=>exact tree .str rfl Ez
   |any=>exact tree .any rfl Ez
  obtain⟨c,b,hk,hpa,hF,hsl,Fv,Ir,JA⟩:=main;obtain⟨cs,bs,hk,hl,A9g,hFs,Az0,Ba0,Bao,Ba2⟩:=Zc shr N hk;refine⟨c::cs,b++bs,hk,by simp[hl],?_,?_,?_,?_,?_,fun w A own β' j0 us hβ hoc=>?_⟩
  ·intro x hx;rcases List.mem_cons.1 hx with rfl|hx
   ·exact hpa
   ·exact A9g x hx
  ·intro x hx;rcases List.mem_cons.1 hx with rfl|hx
   ·exact hF
   ·exact hFs x hx
  ·intro G6;obtain⟨h1,v,h2⟩:=hsl (fun es e=>G6 es (by rw[e];simp))
   obtain⟨h3,h4⟩:=Az0 (fun es hm=>G6 es (by simp[hm]));refine⟨by rw[h1,h3];rfl,fun x hx=>?_⟩
   rcases List.mem_cons.1 hx with rfl|hx
   ·exact⟨v,h2⟩
   ·exact h4 x hx
  ·intro i bx hm;rcases Bn.1 hm with hm|hm
   ·obtain⟨es,n,cc,rfl,rfl,rfl⟩:=Fv i bx hm;exact⟨0,es,n,cc,rfl,by simp,rfl⟩
   ·obtain⟨j,es,n,cc,h1,rfl,h3⟩:=Ba0 i bx hm;exact⟨j+1,es,n,cc,by simpa using h1,by rw[Nat.mul_add];omega,h3⟩
  ·intro x hx i hi;rcases List.mem_cons.1 hx with rfl|hx
   ·obtain⟨bx,hm⟩:=Ir i hi;exact⟨bx,by simp[hm]⟩
   ·obtain⟨bx,hm⟩:=Bao x hx i hi;exact⟨bx,by simp[hm]⟩
  ·cases us with
   |nil=>exact hoc.elim
   |cons u us=>
    refine⟨JA w A (own j0) β' u (fun ⟨bx,hm⟩=>by have:=hβ 0 ⟨bx,by simp[hm]⟩;simpa using this) hoc.1,?_⟩
    refine Ba2 w A own β' (j0+1) us (fun j ⟨bx,hm⟩=>?_) hoc.2;have e:id+N+N*j=id+N*(j+1):=by rw[Nat.mul_add];omega
    have:=hβ (j+1) ⟨bx,by rw[<-e];simp[hm]⟩
    rw[e,this]
    congr 1
    omega
end
open Go.RowKit
section
variable {R:Type}{r:R}{P:Program}{N:Nat}{w0:World}{X0:Jw}{Y:Nat->Prop}{β β':Bt}{s:St}{a:Act}{w w':World}{o:Oper}{A:Nat->Prop}
theorem Fs.len:∀{j:Nat}{own:Bt}{ps:Ad}{us:List Value},Fs w A own j ps us->ps.length=us.length
 |_,_,[],[],_=>rfl
 |_,_,_::_,_::_,h=>by simp[Fs.len h.2]
 |_,_,[],_::_,h=>h.elim
 |_,_,_::_,[],h=>h.elim
theorem Fs.at_:∀{j:Nat}{own:Bt}{ps:Ad}{us:List Value},Fs w A own j ps us->∀{i:Nat} {p},ps[i]?=some p->∃u,us[i]?=some u/\Ht w A (own (j+i)) p u
 |_,_,[],[],_,i,p,h=>by simp at h
 |j,own,_::_,u::_,h,0,p,hp=>by simp at hp;subst hp;exact⟨u,rfl,h.1⟩
 |j,own,_::_,_::_,h,i+1,p,hp=>by
  simp at hp;obtain⟨u,hu,hc⟩:=Fs.at_ h.2 hp;exact⟨u,by simpa using hu,by rw[show j+(i+1)=j+1+i from by omega];exact hc⟩
 |_,_,[],_::_,h,_,_,_=>h.elim
 |_,_,_::_,[],h,_,_,_=>h.elim
def Apc(N id:Nat)(β':Bt)(w:World)(A:Nat->Prop)(z n:Nat)(bs:List (Nat × B2)):Prop:=
 ∀i bx,(i,bx)∈bs->(∃j,i=id+N*j/\j<n)/\Du (some bx)/\V2 w A β' i bx/\∀cs,bx=.st cs->∀b o,β' i=some (b,o)->z<=b
def HB(bs:List (Nat × B2)):Prop:=∀i cells,(i,.st cells)∈bs->∀c∈cells,∀i'∈As c,∃bx,(i',bx)∈bs
theorem DX{q:Option (Nat × Nat)}{es n i:Nat}{c:Ad}{u:Value}(h:Ht w A q (.own es n c) u)(hβ:β' i=q):V2 w A β' i (.ar false c):=by
 rcases h with⟨h1,_,h2,_⟩|⟨b,o,cap,h1,_,_,_,_,h6,h7⟩
 ·exact .inl ⟨hβ.trans h1,h2⟩
 ·exact .inr ⟨b,o,hβ.trans h1,h6,fun _=>h7,(fun x=>by cases x)⟩
theorem IU{t:TypeId}(h:Ly P [t]=false):FP P t=none/\∀es,CT.sl es ∉ J7 P t:=by simp only[Ly,List.any_cons,List.any_nil,Bool.or_false,Bool.or_eq_false_iff] at h;refine⟨by simpa using h.1,fun es hm=>?_⟩;have:=List.any_eq_false.1 h.2 _ hm;simp at this
theorem Ann(shr:Bool)(N:Nat){t:TypeId}{p:PV}{id:Nat}{K:PV->List (Nat × B2)->Option R}(hk:Ak0 P shr N id t p K=some r):
  ∃v bs,K v bs=some r/\plc p=Ade P t/\(∀x,v ≠ .tup x)/\(Ly P [t]=false->bs=[]/\∀c∈cellsOf v,∃u,c=.sc u)/\(∀i∈Ct v,∃bx,(i,bx)∈bs)/\HB bs /\
   ∀(w:World) (A:Nat->Prop) (own β':Bt) (z j0:Nat) (u:Value),(∀j,(∃bx,(id+N*j,bx)∈bs)->β' (id+N*j)=own (j0+j))->Aty w A own z j0 p u->Jo w A β' v u/\Apc N id β' w A z (plc p) bs:=by
 have boxes:∀{bs:List (Nat × B2)} {ps:Ad} {id:Nat},(∀i bx,(i,bx)∈bs->∃j es n c,ps[j]?=some (.own es n c)/\i=id+N*j/\bx=.ar false c) ->
   HB bs/\∀(w:World) (A:Nat->Prop) (own β':Bt) (j0:Nat) (us:List Value),(∀j,(∃bx,(id+N*j,bx)∈bs)->β' (id+N*j)=own (j0+j))->Fs w A own j0 ps us->∀z,Apc N id β' w A z ps.length bs:=by
  intro bs ps id Fv;refine⟨fun i cells hm=>?_,fun w A own β' j0 us hβ ho z i bx hm=>?_⟩
  ·obtain⟨_,_,_,_,_,_,h3⟩:=Fv i _ hm;cases h3
  ·obtain⟨j,es,n,cc,h1,h2,h3⟩:=Fv i bx hm;obtain⟨u,hu,hoc⟩:=ho.at_ h1;subst h3;refine⟨⟨j,h2,?_⟩,trivial,DX hoc ?_,fun _ e=>by cases e⟩
   ·rcases Id j ps.length with h|h
    ·exact h
    ·rw[List.getElem?_eq_none h] at h1;cases h1
   ·rw[h2];exact hβ j ⟨_,h2 ▸ hm⟩
 unfold Ak0 at hk;split at hk
 ·rename_i e he;obtain⟨ps,rfl,hk⟩:=VU hk;obtain⟨cs,bs,hk,hl,Auc,hF,hsl,Fv,Ir,JA⟩:=Zc shr N hk;obtain⟨hri,O8⟩:=boxes Fv;refine⟨.ptr id 0,_,hk,by simp only[plc,Ade,he,hl],by simp,fun h=>?_,fun i hi=>?_,fun i cells hm c hc i' hi'=>?_,fun w A own β' z j0 u hβ ho=>?_⟩
  ·have:=(IU h).1;rw[he] at this;cases this
  ·simp only[Ct,As,Sc] at hi;subst hi;exact⟨_,CG⟩
  ·rcases List.mem_cons.1 hm with e|hm
   ·cases e;obtain⟨bx,hb⟩:=Ir c hc i' hi';exact⟨bx,Uf _ hb⟩
   ·obtain⟨bx,hb⟩:=hri i cells hm c hc i' hi';exact⟨bx,Uf _ hb⟩
  ·obtain⟨b,o,h1,hz,rfl,vs,h3,h4,h5⟩:=ho;have h0:=hβ 0 ⟨_,by rw[Nat.mul_zero,YI];exact CG⟩
   rw[Nat.mul_zero,YI,YI,h1] at h0;have Bx:∀j,id+N+N*j=id+N*(j+1):=fun j=>by rw[Nat.mul_add];omega
   have hβ1:∀j,(∃bx,(id+N+N*j,bx)∈bs)->β' (id+N+N*j)=own (j0+1+j):=fun j ⟨bx,hm⟩=>by
    rw[Bx,hβ (j+1) ⟨bx,by rw[<-Bx];exact Uf _ hm⟩]
    congr 1;omega
   have hc2:=JA w A own β' (j0+1) vs hβ1 h3;have JX:=O8 w A own β' (j0+1) vs hβ1 h3 z;have Eb:cs.length=ps.length:=by rw[hc2.len,<-h3.len]
   refine⟨⟨b,o,h0,by simp⟩,fun i bx hm=>?_⟩;rcases List.mem_cons.1 hm with e|hm
   ·cases e;refine⟨⟨0,by simp,by simp only[plc];omega⟩,trivial,⟨b,o,h0,fun k c hk=>?_,fun k hk=>h5 k (by omega)⟩,fun _ _ b' o' Jp=>?_⟩
    ·obtain⟨v,hv,hcr⟩:=hc2.get hk;exact⟨v,h4 k v hv,hcr⟩
    ·rw[h0] at Jp;cases Jp;exact hz
   ·obtain⟨⟨j,hj,hjn⟩,h6,h7⟩:=JX i bx hm;exact⟨⟨j+1,by rw[hj,Bx],by simp only[plc];omega⟩,h6,h7⟩
 ·rename_i hnp;have U5:Ade P t=(J7 P t).length:=by simp only[Ade,hnp]
  cases Hc:Cj P t
  ·rw[Hc] at hk;obtain⟨cs,bs,hk,hl,Auc,hF,hsl,Fv,Ir,JA⟩:=Zc shr N (show Uc _ _ _ _ _ _=some r from hk);obtain⟨c,t',rfl,hk⟩:=Bf hk;obtain⟨rfl,hk⟩:=Eg hk;have hFc:=hF c (by simp);have A3q:∀x,p ≠ .pbox x:=fun x=>(Auc p (by simp) x).2;have A1z:∀x,c ≠ .agg x:=by rintro x rfl;exact hFc
   have Bba:∀x,c ≠ .tup x:=by rintro x rfl;exact hFc
   have RE:Ct c=As c:=by cases c<;>first|rfl|exact absurd rfl (A1z _)
   have hpa:∀x,p ≠ .agg x:=fun x=>(Auc p (by simp) x).1;obtain⟨hri,O8⟩:=boxes Fv;have hcell:cellsOf p=[p]:=by cases p<;>first|rfl|exact absurd rfl (hpa _)
   have A7v:plc p=1:=by cases p<;>first|rfl|exact absurd rfl (hpa _)|exact absurd rfl (A3q _)
   have hcc:cellsOf c=[c]:=by cases c<;>first|rfl|exact absurd rfl (A1z _)
   refine⟨c,bs,hk,by rw[A7v,U5];exact hl,Bba,fun G6=>by rw[hcc];exact hsl (IU G6).2,fun i hi=>Ir c (by simp) i (by rw[<-RE];exact hi),hri,fun w A own β' z j0 u hβ ho=>?_⟩
   have ho':Ht w A (own j0) p u:=by cases p<;>first|exact ho|exact absurd rfl (hpa _)|exact absurd rfl (A3q _)
   exact⟨(EF A1z).2 (JA w A own β' j0 [u] hβ ⟨ho',trivial⟩).1,by rw[A7v];exact O8 w A own β' j0 [u] hβ ⟨ho',trivial⟩ z⟩
  ·rw[Hc] at hk;obtain⟨ps,rfl,hk⟩:=Iw (show Ep _ _=some r from hk);obtain⟨cs,bs,hk,hl,Auc,hF,hsl,Fv,Ir,JA⟩:=Zc shr N hk;obtain⟨hri,O8⟩:=boxes Fv;refine⟨.agg cs,bs,hk,by rw[U5];exact hl,by simp,fun G6=>hsl (IU G6).2,fun i hi=>?_,hri,fun w A own β' z j0 u hβ ho=>?_⟩
   ·obtain⟨c,hc,hi⟩:=List.mem_flatMap.1 (show i∈cs.flatMap As from hi);exact Ir c hc i hi
   ·obtain⟨vs,rfl,ho⟩:=ho;exact⟨⟨vs,rfl,JA w A own β' j0 vs hβ ho⟩,O8 w A own β' j0 vs hβ ho z⟩
theorem GV(shr:Bool)(N:Nat):∀{ts:List TypeId}{ps:Ad}{id:Nat}{K:Ad->List (Nat × B2)->Option R},KG P shr N id ts ps K=some r ->
  ∃vs bs,K vs bs=some r/\vs.length=ps.length/\(∀v∈vs,∀x,v ≠ .tup x)/\(Ly P ts=false->bs=[]/\∀v∈vs,∀c∈cellsOf v,∃u,c=.sc u)/\(∀v∈vs,∀i∈Ct v,∃bx,(i,bx)∈bs)/\HB bs /\
   ∀(w:World) (A:Nat->Prop) (own β':Bt) (z j0:Nat) (us:List Value),(∀j,(∃bx,(id+N*j,bx)∈bs)->β' (id+N*j)=own (j0+j))->TZ w A own z j0 ps us->Be (Jo w A β') vs us/\Apc N id β' w A z (Ph ps) bs
 |[],ps,id,K,hk=>by
  obtain⟨rfl,hk⟩:=Eg hk;refine⟨[],[],hk,rfl,by simp,by simp,by simp,(by intro i cells hm;cases hm),fun w A own β' z j0 us _ h=>?_⟩
  cases us with
  |nil=>exact⟨trivial,by intro i bx hm;cases hm⟩
  |cons u us=>exact h.elim
 |t::ts,ps,id,K,hk=>by
  unfold KG at hk;obtain⟨p,ps',LH,Ez⟩:=Bf hk;subst LH;clear hk;obtain⟨v,bs,hk,hl,hnt,hsl,RE,hri,hv⟩:=Ann shr N Ez;obtain⟨vs,bs',hk,hvl,Bbi,Az0,hrs,Bdp,Wx⟩:=GV shr N hk;refine⟨v::vs,bs++bs',hk,by simp[hvl],?_,?_,?_,?_,fun w A own β' z j0 us hβ ho=>?_⟩
  ·intro x hx;rcases List.mem_cons.1 hx with rfl|hx
   ·exact hnt
   ·exact Bbi x hx
  ·intro G6;simp only[Ly,List.any_cons,Bool.or_eq_false_iff] at G6;obtain⟨h1,h2⟩:=hsl (by simp only[Ly,List.any_cons,List.any_nil,Bool.or_false,Bool.or_eq_false_iff];exact G6.1)
   obtain⟨h3,h4⟩:=Az0 (by simp only[Ly];exact G6.2)
   refine⟨by rw[h1,h3];rfl,fun x hx=>?_⟩
   rcases List.mem_cons.1 hx with rfl|hx
   ·exact h2
   ·exact h4 x hx
  ·intro x hx i hi;rcases List.mem_cons.1 hx with rfl|hx
   ·obtain⟨bx,hm⟩:=RE i hi;exact⟨bx,by simp[hm]⟩
   ·obtain⟨bx,hm⟩:=hrs x hx i hi;exact⟨bx,by simp[hm]⟩
  ·intro i cells hm c hc i' hi';rcases Bn.1 hm with hm|hm
   ·obtain⟨bx,hb⟩:=hri i cells hm c hc i' hi';exact⟨bx,by simp[hb]⟩
   ·obtain⟨bx,hb⟩:=Bdp i cells hm c hc i' hi';exact⟨bx,by simp[hb]⟩
  ·cases us with
   |nil=>exact ho.elim
   |cons u us=>
    obtain⟨h1,Fv⟩:=hv w A own β' z j0 u (fun j ⟨bx,hm⟩=>hβ j ⟨bx,by simp[hm]⟩) ho.1;have Bx:∀j,id+N*Ade P t+N*j=id+N*(Ade P t+j):=fun j=>by rw[Nat.mul_add];omega
    obtain⟨h2,Ir⟩:=Wx w A own β' z (j0+plc p) us (fun j ⟨bx,hm⟩=>by rw[Bx,hβ _ ⟨bx,by rw[<-Bx];simp[hm]⟩,hl];congr 1;omega) ho.2
    refine⟨⟨h1,h2⟩,fun i bx hm=>?_⟩;rcases Bn.1 hm with hm|hm
    ·obtain⟨⟨j,hj,hjn⟩,h4,h5⟩:=Fv i bx hm;exact⟨⟨j,hj,by simp only[Ph,U7,List.sum_cons];omega⟩,h4,h5⟩
    ·obtain⟨⟨j,hj,hjn⟩,h4,h5⟩:=Ir i bx hm;refine⟨⟨_,by rw[hj,Bx],?_⟩,h4,h5⟩;simp only[Ph,U7,List.sum_cons] at hjn ⊢;omega
def LG(N d:Nat)(bs:List (Nat × B2))(own β:Bt):Bt:=fun i=>if (bs.any fun q=>Nat.beq q.1 i)=true then own ((i-d) / N) else β i
theorem ZJ{bs:List (Nat × B2)}{i:Nat}:(bs.any fun q=>Nat.beq q.1 i)=true↔∃bx,(i,bx)∈bs:=by
 rw[List.any_eq_true];constructor
 ·rintro⟨⟨j,bx⟩,hm,e⟩
  have:=C6 e;subst this;exact⟨bx,hm⟩
 ·rintro⟨bx,hm⟩
  exact⟨_,hm,Qi i⟩
theorem Ajg{N d j:Nat}(hN:0<N){bs:List (Nat × B2)}{own β:Bt}(h:∃bx,(d+N*j,bx)∈bs):LG N d bs own β (d+N*j)=own j:=by unfold LG;rw[Cy (ZJ.2 h),Nat.add_sub_cancel_left,Nat.mul_div_cancel_left _ hN]
theorem Adg{c:Call}{f:FuncId}(ho:o.op=.call c)(hc:c.callee=.value (.func f))(Nz:NoNG P){fn:Func}(hf:P.funcs[f]?=some fn)(hb:fn.body.isSome=true):
  (execOp a.eval o).run P w=.ok (.enter f (c.args.map a.eval)) w:=by
 unfold execOp;rw[ho]
 have hn:¬fn.body=none:=by
  intro h;rw[h] at hb;cases hb
 have G6:¬fn.name = "runtime.NumGoroutine" :=by simpa using Nz f fn hf
 simp[resolve,hc,Act.eval,Deferred.ofValue,invoke,callFunc,hf,G6,hn]
theorem Al3{c:Call}{t:Nat}{f:FuncId}(ho:o.op=.call c)(hc:c.callee=.value (.tmp t))(ht:a.eval (.tmp t)=.func (.func f) #[] #[])(Nz:NoNG P){fn:Func}(hf:P.funcs[f]?=some fn)(hb:fn.body.isSome=true):
  (execOp a.eval o).run P w=.ok (.enter f (c.args.map a.eval)) w:=by
 unfold execOp;rw[ho]
 have hn:¬fn.body=none:=by
  intro h;rw[h] at hb;cases hb
 have G6:¬fn.name = "runtime.NumGoroutine" :=by simpa using Nz f fn hf
 simp[resolve,hc,ht,Deferred.ofValue,invoke,callFunc,hf,G6,hn]
theorem KH{A':Nat->Prop}(k:Bool):∀{xs:List Operand}{ps:Ad},Be (Vq w A') ps (xs.map a.eval)->Be (Vq w A') (Mi k xs ps) (xs.map a.eval)
 |[],[],h=>h
 |[],_::_,h=>h
 |_::_,[],h=>h
 |x::xs,p::ps,h=>by
  simp only[U7] at h ⊢;refine⟨?_,KH k h.2⟩;split
  ·exact⟨trivial,At.lnil _ _⟩
  ·exact h.1
theorem NM(h : Df N w0 X0 Y β s a w){G : BE}(Nz : Env P G w0 X0){C : Gw}{call : Aq}(Eo : ∀ f args res, call f args = some res -> Cx G P f args res){c : Call}{f : FuncId}(De : ∀ {fn : Func}, P.funcs[f]? = some fn -> fn.body.isSome = true -> (execOp a.eval o).run P w = .ok (.enter f (c.args.map a.eval)) w){K : PV -> Bz -> List (Nat × B2) -> Option R}(hk : (OQ P (Mm s.hp) (NX P f c) (c.args.toList.map (Ck s.tm)) fun vs m =>
          Bm (call f (Mi (C.kz f) c.args.toList vs)) fun rv ro => Ap ro (Ar (Nat.blt 0 N) <| KG P (C.shr f) N (o.dst.getD 0) (Rh P o.type) rv fun ws bs =>
            Ar (bif Sy P o.type then !Nat.beq ws.length 1 else Nat.beq ws.length 1) <| K (Ra ws (Sy P o.type)) (bif Ly P (Rh P o.type) then m else []) bs)) = some r): ∃ v fz nw, K v fz nw = some r /\ OI P a w o Y β s v fz nw := by
  obtain⟨ps, m, hk, hm, F9⟩ := SU h hk
  replace F9 := fun fz h1 h2 => KH (a := a) (C.kz f) (F9 fz h1 h2)
  generalize Mi (C.kz f) c.args.toList ps = ps at hk F9
  obtain⟨rv, ro, O7, hk⟩ := UD hk
  obtain⟨rfl, hk⟩ := Eg hk
  obtain⟨hN, hk⟩ := Am hk
  have hN : 0 < N := Nat.lt_of_succ_le (Oj hN)
  obtain⟨ws, bs, hk, hwl, hnt, hsl, hrs, hri, hws⟩ := GV (C.shr f) N hk
  obtain⟨Uq, hk⟩ := Am hk
  obtain⟨⟨fn, hfn, hfb⟩, KL⟩ := Eo f ps _ O7
  obtain⟨fz, HO, hfm⟩ : ∃ fz : Bz, fz = (bif Ly P (Rh P o.type) then m else []) /\ ∀ id ∈ fz, ∃ f c, s.hp id = some (.ar f c) := by
    refine⟨_, rfl, fun id Bx => ?_⟩
    cases hh : Ly P (Rh P o.type) <;> rw[hh] at Bx
    · cases Bx
    · exact hm id Bx
  rw[<- HO] at hk
  refine⟨_, _, _, hk, hfm, fun next Q hn => ?_⟩
  have hf := h.freeze hfm
  have hYc : ∃ Yc : Nat -> Prop, (∀ b, Yc b -> b < w.heap.size) /\ Be (Vq w Yc) ps (c.args.toList.map a.eval) /\ ((∀ b, Dt (Af s.hp fz) β Y b -> Yc b) \/ Ly P (Rh P o.type) = false) := by
    have Si := F9 m (fun _ hi => hi) hm
    cases hh : Ly P (Rh P o.type)
    · exact⟨fun _ => False, fun _ x => x.elim, Si.mono fun _ _ hx => hx.weaken (fun _ _ x => x.elim), .inr rfl⟩
    · rw[hh] at HO
      have HO : fz = m := HO
      subst HO
      refine⟨Dt (Af s.hp fz) β Y, fun b hb => ?_, Si, .inl fun _ x => x⟩
      rcases hb with⟨id, ob, hl, hβ⟩ | hY
      · exact hf.blt id b ob (Di hl) hβ
      · exact Gb (h.Ylt b hY) h.fr.step.size
  obtain⟨Yc, Baf, hYargs, hYA⟩ := hYc
  unfold Oper.wp
  rw[De hfn hfb]
  show Calls P f _ w _
  have hca : c.args.map a.eval = (c.args.toList.map a.eval).toArray := by rw[<- List.map_toArray, Array.toArray_toList]
  rw[hca]
  refine (KL w Yc YM _ (QL Baf hYargs) (Nz.fr w h.fr) (fun b x => ⟨Gb (Nz.y b x).1 h.fr.step.size, Sn b⟩)).mono ?_
  rintro e w' ⟨vs, own, rfl, KW⟩
  refine hn (J1 vs) w' fun Tk => ⟨LG N (o.dst.getD 0) bs own β, ?_⟩
  obtain⟨ha1, U0⟩ := B0 Tk
  have Aqc : ∀ i bx, (i, bx) ∈ bs -> Af s.hp fz i = none := fun i bx hm => Ew.2 (ha1 i bx hm)
  obtain⟨hg1, hg2⟩ := E8 (hp := Af s.hp fz) U0
  have hold : ∀ i, Af s.hp fz i ≠ none -> LG N (o.dst.getD 0) bs own β i = β i := by
    intro i hi
    unfold LG
    rw[Bl]
    intro hx
    obtain⟨bx, hm⟩ := ZJ.1 hx
    exact hi (Aqc i bx hm)
  obtain⟨Wx, hba⟩ := hws w' _ own (LG N (o.dst.getD 0) bs own β) w.heap.size 0 vs (fun j hj => by rw[Ajg hN hj, Ig]) KW.vals
  have CN : ∀ i bx, (i, bx) ∈ bs -> ∃ j, i = o.dst.getD 0 + N * j /\ LG N (o.dst.getD 0) bs own β i = own j := by
    intro i bx hm
    obtain⟨⟨j, rfl, _⟩, _, _⟩ := hba i bx hm
    exact⟨j, rfl, Ajg hN ⟨bx, hm⟩⟩
  have hAA : Ly P (Rh P o.type) = false \/ ∀ b, Dt (Au (Af s.hp fz) bs) (LG N (o.dst.getD 0) bs own β) Y b -> MX YM own Yc b := by
    rcases hYA with hYA | hYA
    · refine .inr fun b hb => ?_
      rcases hb with⟨i, ob, hl, hβ⟩ | hY
      · by_cases hi : ∃ bx, (i, bx) ∈ bs
        · obtain⟨bx, hm⟩ := hi
          obtain⟨j, _, h3⟩ := CN i bx hm
          rw[h3] at hβ
          exact .inl ⟨j, ob, hβ⟩
        · rw[hg2 i (fun bx hm => hi ⟨bx, hm⟩)] at hl
          rw[hold i (Di hl)] at hβ
          exact .inr (.inr (hYA b (.inl ⟨i, ob, hl, hβ⟩)))
      · exact .inr (.inr (hYA b (.inr hY)))
    · exact .inl hYA
  have hval : Fg w' (Dt (Au (Af s.hp fz) bs) (LG N (o.dst.getD 0) bs own β) Y) (LG N (o.dst.getD 0) bs own β) (Ra ws (Sy P o.type)) (J1 vs) := by
    have Si : Be (Jo w' (Dt (Au (Af s.hp fz) bs) (LG N (o.dst.getD 0) bs own β) Y) (LG N (o.dst.getD 0) bs own β)) ws vs := by
      rcases hAA with XH | hAA
      · obtain⟨_, hsc⟩ := hsl XH
        refine Wx.mono_mem fun v hv u hvu => ?_
        have hsc := hsc v hv
        cases v with
        | agg cs =>
          obtain⟨xs, rfl, RI⟩ := hvu
          refine⟨xs, rfl, RI.mono_mem fun cc hcc x hx => ?_⟩
          obtain⟨y, rfl⟩ := hsc cc hcc
          have := At.val (w := w') hx
          subst this
          exact At.sc _
        | sc y =>
          have := At.val (w := w') hvu
          subst this
          exact At.sc _
        | lst z es n cc => obtain⟨y, hy⟩ := hsc _ (Th _); cases hy
        | own es n cc => obtain⟨y, hy⟩ := hsc _ (Th _); cases hy
        | view i es n cc => obtain⟨y, hy⟩ := hsc _ (Th _); cases hy
        | ptr i cc => obtain⟨y, hy⟩ := hsc _ (Th _); cases hy
        | iptr i cc => obtain⟨y, hy⟩ := hsc _ (Th _); cases hy
        | pbox cc => obtain⟨y, hy⟩ := hsc _ (Th _); cases hy
        | tup cc => obtain⟨y, hy⟩ := hsc _ (Th _); cases hy
        | top => obtain⟨y, hy⟩ := hsc _ (Th _); cases hy
        | ub => obtain⟨y, hy⟩ := hsc _ (Th _); cases hy
      · exact Wx.mono fun v u hvu => hvu.step (Cq.refl _ _) (fun b _ => hAA b) (fun _ _ => rfl)
    have Eb := Si.len
    cases hT : Sy P o.type
    · rw[hT] at Uq
      have h1 : ws.length = 1 := C6 Uq
      match ws, vs, h1, Eb with
      | [v], [u], _, _ =>
        exact (Sj (hnt v (by simp))).2 Si.1
    · rw[hT] at Uq
      have h1 : ¬ ws.length = 1 := by
        intro e
        rw[e] at Uq
        cases Uq
      have hr : J1 vs = .tuple ⟨vs⟩ := by
        unfold J1
        split
        · simp at Eb; omega
        · rfl
      rw[hr]
      exact⟨vs, rfl, Si⟩
  refine⟨KW.os, KW.tape, KW.output, KW.ext.weaken (fun b _ hb => Sn b hb), hold, ?_, ?_, ?_, ?_, ?_, hval, ?_⟩
  · intro i bx hm
    exact (hba i bx hm).2.1
  · intro i bx hm
    rcases hAA with XH | hAA
    · rw[(hsl XH).1] at hm; cases hm
    · exact (hba i bx hm).2.2.1.step' hAA
  · intro i bx b ob hm hβ
    obtain⟨j, _, h3⟩ := CN i bx hm
    rw[h3] at hβ
    obtain⟨h4, h5⟩ := KW.fresh j b ob hβ
    refine⟨?_, h4⟩
    rcases Id b w.heap.size with h | h
    · obtain⟨⟨_, _, _, h6⟩, _⟩ := h5 h
      cases h6
    · exact h
  · intro i bx i' bx' b ob ob' hm M6 hβ hβ'
    obtain⟨j, h1, h3⟩ := CN i bx hm
    obtain⟨j', XB, h3'⟩ := CN i' bx' M6
    rw[h3] at hβ
    rw[h3'] at hβ'
    rw[h1, XB, KW.inj j j' b ob ob' hβ hβ']
  · intro i cells hm c hc i' hi'
    exact .inr (hri i cells hm c hc i' hi')
  · intro i hi
    right
    cases hT : Sy P o.type
    · rw[hT] at Uq hi
      have h1 : ws.length = 1 := C6 Uq
      match ws, h1 with
      | [v], _ =>
        refine hrs v (by simp) i ?_
        have : Cc v = Ct v := by
          have hn := hnt v (by simp)
          cases v <;> first | rfl | exact absurd rfl (hn _)
        rw[<- this]
        exact hi
    · rw[hT] at hi
      obtain⟨v, hv, hi⟩ := List.mem_flatMap.1 (show i ∈ ws.flatMap Ct from hi)
      exact hrs v hv i hi
end
open Go.RowKit
section
variable {R:Type}{r:R}{P:Program}{N:Nat}{w0:World}{X0:Jw}{Y:Nat->Prop}{β β':Bt}{s:St}{a:Act}{w w':World}{o:Oper}{A:Nat->Prop}
theorem Df.move(h:Df N w0 X0 Y β s a w){id d:Nat}{c cells:Ad}{bo:Option (Nat × Nat)}{v:PV}{val:Value}(h0:s.hp id=some (.ar false c))(hd:s.hp d=none)(hdN:d<N)(hos:w'.os=w.os)(htp:w'.tape=w.tape)(KW:w'.output=w.output)(Ab8:w.heap.size<=w'.heap.size)(O4:∀k,k<w.heap.size->(∀x,β id≠some (k,x))->w'.heap[k]?=w.heap[k]?)(hbs:∀k,k<w.heap.size->Ij w w' k)(YW:∀k x,bo=some (k,x)->k<w'.heap.size/\(w.heap.size<=k\/∃y,β id=some (k,y)))(hbr:∀k x,bo=some (k,x)->k<w.heap.size->β id=some (k,x))(hO:∀k y,β id=some (k,y)->k<w.heap.size->∀j,j<y->w'.cell? ⟨k,j,none⟩=w.cell? ⟨k,j,none⟩/\w'.frozen? ⟨k,j,none⟩=w.frozen? ⟨k,j,none⟩)(O8:V2 w' (Dt (C7 (C7 s.hp id (some .mv)) d (some (.ar false cells))) (C7 β d bo) Y) (C7 β d bo) d (.ar false cells))(hv:Fg w' (Dt (C7 (C7 s.hp id (some .mv)) d (some (.ar false cells))) (C7 β d bo) Y) (C7 β d bo) v val)(hr:∀i∈Cc v,i=d):
  Df N w0 X0 Y (C7 β d bo) ⟨C7 s.tm d v,C7 (C7 s.hp id (some .mv)) d (some (.ar false cells))⟩ (a.put (some d) val) w':=by
 have G6:id≠d:=by rintro rfl;rw[h0] at hd;cases hd
 have Aa9:∀i,i≠id->i≠d->C7 (C7 s.hp id (some B2.mv)) d (some (.ar false cells)) i=s.hp i:=fun i h1 h2=>by rw[Ak _ _ h2,Ak _ _ h1]
 have Atx:C7 (C7 s.hp id (some B2.mv)) d (some (.ar false cells)) id=some .mv:=by rw[Ak _ _ G6,An]
 have hgd:C7 (C7 s.hp id (some B2.mv)) d (some (.ar false cells)) d=some (.ar false cells):=An _ _ _
 have Gy:∀i,s.hp i≠none->C7 (C7 s.hp id (some B2.mv)) d (some (.ar false cells)) i≠none:=by
  intro i hi;by_cases e:i=id
  ·subst e;rw[Atx];simp
  ·by_cases e':i=d
   ·subst e';rw[hgd];simp
   ·rw[Aa9 i e e'];exact hi
 have hβo:∀i,s.hp i≠none->C7 β d bo i=β i:=fun i hi=>Ak _ _ (by rintro rfl;exact hi hd)
 have Acp:Du (s.hp id):=by rw[h0];trivial
 have H0:∀i,Du (C7 (C7 s.hp id (some B2.mv)) d (some (.ar false cells)) i)->i=d\/(i≠id/\i≠d/\Du (s.hp i)):=by
  intro i hi;by_cases e':i=d
  ·exact .inl e'
  ·by_cases e:i=id
   ·subst e;rw[Atx] at hi;exact hi.elim
   ·rw[Aa9 i e e'] at hi;exact .inr ⟨e,e',hi⟩
 have hX:∀k,k<w.heap.size->ZM (C7 (C7 s.hp id (some .mv)) d (some (.ar false cells))) (C7 β d bo) k->ZM s.hp β k:=by
  rintro k hk ⟨i,x,hl,hβ⟩
  rcases H0 i hl with rfl|⟨e,e',hl⟩
  ·rw[An] at hβ;rcases (YW k x hβ).2 with Pb|⟨y,hy⟩
   ·omega
   ·exact⟨id,y,Acp,hy⟩
  ·rw[Ak _ _ e'] at hβ;exact⟨i,x,hl,hβ⟩
 have hAo:∀k,k<w.heap.size->Dt (C7 (C7 s.hp id (some .mv)) d (some (.ar false cells))) (C7 β d bo) Y k->Dt s.hp β Y k:=fun k hk hx=>hx.imp (hX k hk) (fun y=>y);have G0:Cq (Dt s.hp β Y) w w':=⟨Ab8,fun k hk hn=>O4 k hk fun x hx=>hn (.inl ⟨id,x,Acp,hx⟩),hbs⟩
 have Anz:∀i k x,i≠id->i≠d->(∃b,s.hp i=some b/\b ≠ .mv)->β i=some (k,x)->k<w.heap.size/\w'.heap[k]?=w.heap[k]?:=by
  rintro i k x e e' ⟨b,hb,hmv⟩ hβ
  have hk:=h.blt i k x (by rw[hb];simp) hβ
  refine⟨hk,O4 k hk fun y hy=>?_⟩;have Al8:=h.box i b hb;cases b with
  |st cc=>exact e (h.inj i id k x y (by rw[hb];trivial) Acp hβ hy)
  |ar fz cc=>
   cases fz with
   |false=>exact e (h.inj i id k x y (by rw[hb];trivial) Acp hβ hy)
   |true=>
    rcases Al8 with⟨h1,_⟩|⟨k',x',h1,_,_,h4⟩
    ·rw[hβ] at h1;cases h1
    ·rw[hβ] at h1;simp at h1;obtain⟨rfl,rfl⟩:=h1
     exact h4 rfl (.inl ⟨id,y,Acp,hy⟩)
  |mv=>exact absurd rfl hmv
 refine⟨by rw[Vh];exact h.dfr,by rw[EE];exact h.tsz,?_,?_,?_,?_,?_,?_,?_,?_,?_,?_,?_,?_,h.Ylt,?_⟩
 ·intro i hi;show C7 s.tm d v i=_;rw[Ak _ _ (by omega)];exact h.tmo i hi
 ·refine Ta (d:=some d) (Q:=fun _ p u=>Fg w' (Dt (C7 (C7 s.hp id (some .mv)) d (some (.ar false cells))) (C7 β d bo) Y) (C7 β d bo) p u) h.tsz (by simp[Hp,Nat.blt];omega) (fun i hi=>?_) (fun _=>hv)
  exact (h.tms i hi).step G0 hAo fun j hj=>hβo j (h.wfT i hi j hj)
 ·intro i bi hb;simp only at hb;by_cases e':i=d
  ·subst e';rw[hgd] at hb;cases hb;exact O8
  ·by_cases e:i=id
   ·subst e;rw[Atx] at hb;cases hb;trivial
   ·rw[Aa9 i e e'] at hb;have hβi:=hβo i (by rw[hb];simp)
    have LS:=h.box i bi hb;cases bi with
    |st cc=>
     obtain⟨k,x,h1,h2,h3⟩:=LS;obtain⟨hk,Wi⟩:=Anz i k x e e' ⟨_,hb,by simp⟩ h1;refine⟨k,x,by rw[hβi];exact h1,fun j p hj=>?_,fun j hj=>?_⟩
     ·obtain⟨u,hu,hc⟩:=h2 j p hj;exact⟨u,by rw[World.cell?_of_block (w:=w) Wi];exact hu,hc.step G0 hAo fun q hq=>hβo q (h.wfB i cc hb p (List.mem_of_getElem? hj) q hq)⟩
     ·rw[World.frozen?_of_block (w:=w) Wi];exact h3 j hj
    |ar fz cc=>
     rcases LS with⟨h1,h2⟩|⟨k,x,h1,h2,h3,h4⟩
     ·exact .inl ⟨by rw[hβi];exact h1,h2⟩
     ·obtain⟨hk,Wi⟩:=Anz i k x e e' ⟨_,hb,by simp⟩ h1;refine .inr ⟨k,x,by rw[hβi];exact h1,fun j p hj=>?_,fun ef j hj Xj=>?_,fun ef hx=>h4 ef (hAo k hk hx)⟩
      ·obtain⟨u,hu,h5,hc⟩:=h2 j p hj;exact⟨u,by rw[World.cell?_of_block (w:=w) (by rw[Fx];exact Wi)];exact hu,h5,hc.step G0 hAo⟩
      ·rw[World.frozen?_of_block (w:=w) Wi];refine h3 ef j hj ?_;unfold bsz at Xj ⊢;rw[Wi] at Xj;exact Xj
    |mv=>trivial
 ·intro i i' k x y hl Nj hb Jp;simp only at hl Nj
  have key:∀j z,j≠id->j≠d->Du (s.hp j)->β j=some (k,z)->bo=some (k,y)\/bo=some (k,x)->False:=by
   intro j z e e' hlj hβj hbk;have hk:=h.blt j k z (Di hlj) hβj;have:∃t,bo=some (k,t):=by rcases hbk with q|q<;>exact⟨_,q⟩
   obtain⟨t,ht⟩:=this;rcases (YW k t ht).2 with Pb|⟨q,hq⟩
   ·omega
   ·exact e (h.inj j id k z q hlj Acp hβj hq)
  rcases H0 i hl with rfl|⟨e,e',hl0⟩
  ·rcases H0 i' Nj with rfl|⟨e2,e2',Ay0⟩
   ·rfl
   ·rw[An] at hb;rw[Ak _ _ e2'] at Jp;exact (key i' y e2 e2' Ay0 Jp (.inr hb)).elim
  ·rcases H0 i' Nj with rfl|⟨e2,e2',Ay0⟩
   ·rw[An] at Jp;rw[Ak _ _ e'] at hb;exact (key i x e e' hl0 hb (.inl Jp)).elim
   ·rw[Ak _ _ e'] at hb;rw[Ak _ _ e2'] at Jp;exact h.inj i i' k x y hl0 Ay0 hb Jp
 ·intro i k x hi hb;simp only at hi;by_cases e':i=d
  ·subst e';rw[An] at hb;exact (YW k x hb).1
  ·rw[Ak _ _ e'] at hb
   have hi':s.hp i≠none:=by
    by_cases e:i=id
    ·subst e;rw[h0];simp
    ·rw[Aa9 i e e'] at hi;exact hi
   exact Gb (h.blt i k x hi' hb) Ab8
 ·have:=Ta (d:=some d) (Q:=fun _ p _=>∀j∈Cc p,C7 (C7 s.hp id (some B2.mv)) d (some (.ar false cells)) j≠none) (val:=val) (v:=v) h.tsz (by simp[Hp,Nat.blt];omega) (fun i hi j hj=>Gy j (h.wfT i hi j hj)) (fun _ j hj=>by
   rw[hr j hj,hgd];simp)
  exact this
 ·intro i cc hc p hp j hj;simp only at hc;by_cases e':i=d
  ·subst e';rw[hgd] at hc;cases hc
  ·by_cases e:i=id
   ·subst e;rw[Atx] at hc;cases hc
   ·rw[Aa9 i e e'] at hc;exact Gy j (h.wfB i cc hc p hp j hj)
 ·rintro k ⟨i,x,hl,hβ⟩
  rcases H0 i hl with rfl|⟨e,e',hl⟩
  ·rw[An] at hβ;rcases (YW k x hβ).2 with Pb|⟨y,hy⟩
   ·exact .inr (Nat.le_trans h.fr.step.size Pb)
   ·exact h.ownd k ⟨id,y,Acp,hy⟩
  ·rw[Ak _ _ e'] at hβ;exact h.ownd k ⟨i,x,hl,hβ⟩
 ·intro i bi k x LS hli hβ Cm j hj;simp only at LS;rcases H0 i (by rw[LS];exact hli) with rfl|⟨e,e',hl⟩
  ·rw[An] at hβ;rw[hgd] at LS;cases LS;have:=hbr k x hβ (Gb Cm h.fr.step.size);exact h.rngB id (.ar false c) k x h0 trivial this Cm j hj
  ·rw[Aa9 i e e'] at LS;rw[Ak _ _ e'] at hβ;exact h.rngB i bi k x LS hli hβ Cm j hj
 ·intro i hi;exact⟨Gy _ (h.pin i hi).1,by rw[hβo _ (h.pin i hi).1];exact (h.pin i hi).2⟩
 ·intro i cc k x LS hβ Cm;simp only at LS;rcases H0 i (by rw[LS];trivial) with rfl|⟨e,e',hl⟩
  ·rw[hgd] at LS;cases LS
  ·rw[Aa9 i e e'] at LS;rw[Ak _ _ e'] at hβ;exact h.stp i cc k x LS hβ Cm
 ·intro k hY hx;exact h.Yx k hY (hX k (Gb (h.Ylt k hY) h.fr.step.size) hx)
 ·refine⟨hos.trans h.fr.os,htp.trans h.fr.tape,KW.trans h.fr.output,⟨Nat.le_trans h.fr.step.size Ab8,fun k hk hnk=>?_,fun k hk=>(h.fr.step.bs k hk).trans (hbs k (Gb hk h.fr.step.size))⟩,fun k j hk hL=>?_⟩
  ·rw[O4 k (Gb hk h.fr.step.size) ?_]
   ·exact h.fr.step.keep k hk hnk
   ·intro x hx;rcases h.ownd k ⟨id,x,Acp,hx⟩ with hq|hq
    ·exact hnk hq
    ·omega
  ·have hkw:=Gb hk h.fr.step.size
   have JF:w'.cell? ⟨k,j,none⟩=w.cell? ⟨k,j,none⟩/\w'.frozen? ⟨k,j,none⟩=w.frozen? ⟨k,j,none⟩:=by
    by_cases e:∃y,β id=some (k,y)
    ·obtain⟨y,hy⟩:=e;refine hO k y hy hkw j ?_;rcases Id j y with q|q
     ·exact q
     ·exact absurd (h.rngB id (.ar false c) k y h0 trivial hy hk j q) hL
    ·have Wi:=O4 k hkw (fun x hx=>e ⟨x,hx⟩);exact⟨World.cell?_of_block (w:=w) Wi,World.frozen?_of_block (w:=w) Wi⟩
   rw[JF.1,JF.2];exact h.fr.rng k j hk hL
end
open Go.RowKit
section
variable {R:Type}{r:R}{P:Program}{N:Nat}{w0:World}{X0:Jw}{Y:Nat->Prop}{β β':Bt}{s:St}{a:Act}{w w':World}{o:Oper}{A:Nat->Prop}
structure Src(P:Program)(w:World)(A:Nat->Prop)(size:Nat)(xv:Value)(m:Nat)(new:Ad)(news:List Value):Prop where
 len:∀w':World,(Builtin.lenOf xv).run P w'=.ok m w'
 cells:∀w':World,(∀b,b<w.heap.size->w'.heap[b]?=w.heap[b]?)->(Builtin.firstCells size m xv).run P w'=.ok news.toArray w'
 part:∀k,k<=m->(Builtin.firstCells size k xv).run P w=.ok (news.take (k*size)).toArray w
 one:∀u∈news,u.oneCell'=true
 rep:Be (At w A) new news
theorem MP(h:Df N w0 X0 Y β s a w){e tx:TypeId}{x:Operand}{K:Nat->Ad->Option R}(hk:Age P s (A7 P e) tx (Ck s.tm x) K=some r)(h1c:∀m new,K m new=some r->new.length=m*A7 P e):
  (∃d,P.underlying tx=some d/\(∀k,d ≠ .int k))/\∃m new news,K m new=some r/\Src P w (Dt s.hp β Y) (A7 P e) (a.eval x) m new news:=by
 unfold Age Af4 at hk;split at hk
 ·rename_i hu;obtain⟨AB,hk⟩:=Am hk;have AB:=C6 AB;obtain⟨b,hx,hk⟩:=D9 hk;have D4:=Cl h hx;refine⟨⟨_,hu,by simp⟩,b.size,Dl b,b.data.toList.map (fun y=>Value.int .u8 y.toNat),hk,?_,?_,?_,?_,?_⟩
  ·intro w';rw[D4];rfl
  ·intro w' _;rw[D4]
   have hx:b.data.extract 0 b.size=b.data:=by
    have:b.size=b.data.size:=rfl;rw[this,Array.extract_size]
   have hd:(b.extract 0 b.size).data=b.data:=by
    rw[ByteArray.extract_zero_size]
   simp only[Builtin.firstCells,hd];rw[<-Array.toList_map,Array.toArray_toList];rfl
  ·intro k Pb;rw[D4,AB,J6];have hd:(b.extract 0 k).data=b.data.extract 0 k:=ByteArray.data_extract
   have e1:(b.data.extract 0 k).map (fun y=>Value.int .u8 y.toNat)=((b.data.toList.map fun y=>Value.int .u8 y.toNat).take k).toArray:=by
    apply Array.toList_inj.1;simp[List.map_take]
   simp only[Builtin.firstCells,hd];rw[e1];rfl
  ·intro u hu;simp at hu;obtain⟨y,_,rfl⟩:=hu;rfl
  ·unfold Dl;generalize b.data.toList=l
   induction l with
   |nil=>trivial
   |cons y l ih=>exact⟨At.sc _,ih⟩
 ·rename_i e' hu;refine⟨⟨_,hu,by simp⟩,?_⟩;obtain⟨m,new,hk,hc⟩:=NA h hk;have Eb:=h1c m new hk;rcases hc with⟨⟨ad,D4⟩,rfl,rfl⟩|⟨ad,cap,D4,hn,Cm,hrd⟩
  ·have f0:∀w':World,(Builtin.firstCells (A7 P e) 0 (.slice ad 0 0)).run P w'=.ok #[] w':=fun w'=>by
    cases ad with
    |none=>rfl
    |some p=>exact run_firstCells_some (P:=P) w' (A7 P e) 0 p 0 0 [] (by simp) (fun j v hj=>by simp at hj)
   exact⟨0,[],[],hk,fun w'=>by rw[D4];rfl,fun w' _=>by rw[D4];exact f0 w',fun k Pb=>by rw[D4,Nat.le_zero.1 Pb,List.take_nil];exact f0 w,by simp,trivial⟩
  ·refine⟨m,new,new.mapIdx (fun j _=>(w.cell? (ad.add j)).getD undef),hk,fun w'=>by rw[D4];rfl,fun w' hw=>?_,fun k Pb=>?_,?_,?_⟩
   ·rw[D4];refine run_firstCells_some (P:=P) w' (A7 P e) m ad m cap _ (by simp[Eb]) fun j v hj=>?_;rw[List.getElem?_mapIdx] at hj;cases hc:new[j]? with
    |none=>rw[hc] at hj;cases hj
    |some c=>
     rw[hc] at hj;simp at hj;obtain⟨u,hu,_⟩:=hrd j c hc;rw[hu] at hj;simp at hj;subst hj;have Cm:ad.block<w.heap.size:=by rcases Cm with rfl|Cm<;>first|exact Cm|simp at hc
     rw[World.cell?_of_block (w:=w) (by rw[Fx];exact hw _ Cm)]
     exact hu
   ·rw[D4];have hkm:k*A7 P e<=m*A7 P e:=Nat.mul_le_mul_right _ Pb;refine run_firstCells_some (P:=P) w (A7 P e) k ad m cap _ (by rw[List.length_take,List.length_mapIdx,Eb];omega) fun j v hj=>?_
    rw[List.getElem?_take] at hj;split at hj
    ·rw[List.getElem?_mapIdx] at hj;cases hc:new[j]? with
     |none=>rw[hc] at hj;cases hj
     |some c=>
      rw[hc] at hj;simp at hj;obtain⟨u,hu,_⟩:=hrd j c hc;rw[hu] at hj;simp at hj;subst hj;exact hu
    ·cases hj
   ·intro u hu;obtain⟨j,hj⟩:=List.mem_iff_getElem?.1 hu;rw[List.getElem?_mapIdx] at hj;cases hc:new[j]? with
    |none=>rw[hc] at hj;cases hj
    |some c=>
     rw[hc] at hj;simp at hj;obtain⟨v,hv,h2,ht⟩:=hrd j c hc;rw[hv] at hj;simp at hj;subst hj;exact h2
   ·refine Be.of_at (by simp) fun j c v hc hj=>?_;rw[List.getElem?_mapIdx,hc] at hj;simp at hj;obtain⟨u,hu,_,ht⟩:=hrd j c hc;rw[hu] at hj;simp at hj;subst hj;exact ht
 ·cases hk
theorem OC{e:TypeId}(h:XI P e=true):∃i z,P.info? e=some i/\i.zero=some z/\z.cells.size=i.size/\A7 P e=i.size:=by
 unfold XI at h;split at h
 ·rename_i i hi;split at h
  ·rename_i z hz;exact⟨i,z,hi,hz,C6 h,by simp[A7,hi]⟩
  ·cases h
 ·cases h
theorem KO{es n cap:Nat}{ad:Option Addr}{olds:List Value}(h:(ad=none/\olds=[])\/∃p,ad=some p/\olds.length=n*es/\∀(j:Nat) v,olds[j]?=some v->w.cell? (p.add j)=some v):
  (Builtin.firstCells es n (.slice ad n cap)).run P w=.ok olds.toArray w:=by
 rcases h with⟨rfl,rfl⟩|⟨p,rfl,hl,hc⟩
 ·rfl
 ·exact run_firstCells_some (P:=P) w es n p n cap olds hl hc
theorem Pe{t tx ty e:TypeId}{i:TypeInfo}{z:Value}{d:TypeDesc}{ts:List TypeId}(ht:P.underlying t=some (.slice e))(htx:P.underlying tx=some d)(hd:∀k,d ≠ .int k)(hi:P.info? e=some i)(hz:i.zero=some z){ad:Option Addr}{n cap m:Nat}{xv:Value}{olds news:List Value}{A:Nat->Prop}{new:Ad}(hs:Src P w A i.size xv m new news)(hold:(ad=none/\olds=[])\/∃p,ad=some p/\olds.length=n*i.size/\∀(j:Nat) v,olds[j]?=some v->w.cell? (p.add j)=some v)(hg:cap<n+m)(hb:(n+m)*i.bytes<=1099511627776)(h63:n+m<=1099511627776):
  (Builtin.append_ (t::tx::ts).toArray ty #[.slice ad n cap,xv]).run P w =
   .ok (.slice (some ⟨w.heap.size,0,none⟩) (n+m) (grownCap w (n+m) cap e)) (w.drew.alloc (.cells (olds.toArray++news.toArray++Builtin.zeroCells z.cells (grownCap w (n+m) cap e-(n+m))) e)):=by
 have h1:=hs.len w;have h2:(Builtin.firstCells i.size m xv).run P w.drew=.ok news.toArray w.drew:=hs.cells w.drew (fun _ _=>rfl)
 have h3:(Builtin.firstCells i.size n (.slice ad n cap)).run P w.drew=.ok olds.toArray w.drew:=KO (w:=w.drew) (by
  rcases hold with hh|⟨p,hp,hl,hc⟩
  ·exact .inl hh
  ·exact .inr ⟨p,hp,hl,fun j v hj=>hc j v hj⟩)
 have Ajh:=growslice_fits (need:=n+m) (old:=cap) (bytes:=i.bytes) hg (by omega);have hn:¬(n+m<=cap):=by omega
 have Aue:¬(9223372036854775807<((n:Int)+(m:Int))):=by omega
 have Aug:¬(281474976710656<Builtin.nextslicecap (n+m) cap*i.bytes):=by omega
 have PZ:(match d with | .int _=>true|_=>false)=false:=by cases d<;>first|rfl|exact absurd rfl (hd _)
 simp[Builtin.append_,run_underlying ht,run_underlying htx,PZ,sizeOf,typeInfo,zeroValue,hi,hz,h1,hn,Aue,Aug,Question.forced,h2,h3,newRow,grownCap]
 congr 2
 apply Array.ext';simp[Zzv]
theorem LF{t tx ty e:TypeId}{i:TypeInfo}{d:TypeDesc}{ts:List TypeId}(ht:P.underlying t=some (.slice e))(htx:P.underlying tx=some d)(hd:∀k,d ≠ .int k)(hi:P.info? e=some i){b ob n cap m:Nat}{xv:Value}{news:List Value}{A:Nat->Prop}{new:Ad}(hs:Src P w A i.size xv m new news)(hl:news.length=m*i.size)(hcell:∀k,k<news.length->(w.cell? ⟨b,ob+n*i.size+k,none⟩).isSome=true)(hfr:∀k,k<news.length->w.frozen? ⟨b,ob+n*i.size+k,none⟩=false)(hg:n+m<=cap):
  (Builtin.append_ (t::tx::ts).toArray ty #[.slice (some ⟨b,ob,none⟩) n cap,xv]).run P w=.ok (.slice (some ⟨b,ob,none⟩) (n+m) cap) (w.setCells b (ob+n*i.size) news):=by
 have h1:=hs.len w;have h2:(Builtin.firstCells i.size m xv).run P w=.ok news.toArray w:=hs.cells w (fun _ _=>rfl);have h3:=run_storeCells_cells (P:=P) b (ob+n*i.size) news 0 w (fun k hk=>by simpa using hcell k hk) (fun k hk=>by simpa using hfr k hk) hs.one;have PZ:(match d with | .int _=>true|_=>false)=false:=by cases d<;>first|rfl|exact absurd rfl (hd _)
 have _:=hl;simp[Builtin.append_,run_underlying ht,run_underlying htx,PZ,sizeOf,typeInfo,hi,h1,hg,h2,Ff];rw[h3];simp
theorem Adw{t ty e:TypeId}{i:TypeInfo}{ts:List TypeId}(ht:P.underlying t=some (.slice e))(hi:P.info? e=some i){ad:Option Addr}{n cap m:Nat}{xv:Value}{news:List Value}{A:Nat->Prop}{new:Ad}(hs:Src P w A i.size xv m new news){w1:World}(G0:(match ad with|some p=>storeCells p (news.take (min m n*i.size)) 0|none=>pure ()).run P w=.ok () w1):
  (Builtin.copy_ (t::ts).toArray ty #[.slice ad n cap,xv]).run P w=.ok (goInt ((min m n:Nat):Int)) w1:=by
 have h1:=hs.len w;have h2:=hs.part (min m n) (Nat.min_le_left _ _);have e:Nat.min m n=min m n:=rfl;generalize min m n=k at *
 cases ad with
 |none=>
  simp only at G0;simp[Builtin.copy_,run_underlying ht,sizeOf,typeInfo,hi,h1,h2,e]
  simpa using G0
 |some p=>
  simp only at G0;simp[Builtin.copy_,run_underlying ht,sizeOf,typeInfo,hi,h1,h2,e,G0]
theorem HK{t tx ty e:TypeId}{i:TypeInfo}{k kx:IntKind}{ts:List TypeId}(ht:P.underlying t=some (.slice e))(htx:P.underlying tx=some (.int k))(hi:P.info? e=some i):
  (Builtin.append_ (t::tx::ts).toArray ty #[.slice none 0 0,.int kx 0]).run P w=.ok (.slice none 0 0) w:=by
 have hw:IntKind.i64.wrap 0=0:=by decide
 simp[Builtin.append_,run_underlying ht,run_underlying htx,sizeOf,typeInfo,hi,asInt,asIntOf,hw]
theorem LB{t tx ty e:TypeId}{i:TypeInfo}{z:Value}{k kx:IntKind}{ts:List TypeId}(ht:P.underlying t=some (.slice e))(htx:P.underlying tx=some (.int k))(hi:P.info? e=some i)(hz:i.zero=some z){n:Int}(h0:0<n)(hb:n.toNat*i.bytes<=1099511627776)(hn:n<=1099511627776):
  (Builtin.append_ (t::tx::ts).toArray ty #[.slice none 0 0,.int kx n]).run P w =
   .ok (.slice (some ⟨w.heap.size,0,none⟩) n.toNat (grownCap w n.toNat 0 e)) (w.drew.alloc (.cells ((if n.toNat*i.size=0 then #[] else Builtin.zeroCells z.cells n.toNat)++Builtin.zeroCells z.cells (grownCap w n.toNat 0 e-n.toNat)) e)):=by
 have hw:IntKind.i64.wrap n=n:=IntWalk.i64_in n (by omega);have Ajh:=growslice_fits (need:=n.toNat) (old:=0) (bytes:=i.bytes) (by omega) (by omega);have GS:¬n<0:=by omega
 have Gy:¬(281474976710656<n*(i.bytes:Int)):=by
  have:n*(i.bytes:Int)=((n.toNat*i.bytes:Nat):Int):=by
   rw[Int.natCast_mul,Int.toNat_of_nonneg (by omega)]
  omega
 have hz0:¬(n.toNat=0):=by omega
 have Aue:¬(9223372036854775807<(n.toNat:Int)):=by omega
 have Aug:¬(281474976710656<Builtin.nextslicecap n.toNat 0*i.bytes):=by omega
 have FS:¬n<=0:=by omega
 have hmx:¬(9223372036854775807<max n 0):=by omega
 by_cases hs:n.toNat*i.size=0
 ·simp[Builtin.append_,run_underlying ht,run_underlying htx,sizeOf,typeInfo,zeroValue,hi,hz,asInt,asIntOf,hw,GS,Gy,hz0,FS,hmx,Aue,Aug,Question.forced,hs,newRow,grownCap,Builtin.firstCells]
 ·simp[Builtin.append_,run_underlying ht,run_underlying htx,sizeOf,typeInfo,zeroValue,hi,hz,asInt,asIntOf,hw,GS,Gy,hz0,FS,hmx,Aue,Aug,Question.forced,hs,newRow,grownCap,Builtin.firstCells]
theorem Pg{t tx ty e:TypeId}{i:TypeInfo}{d:TypeDesc}{ts:List TypeId}(ht:P.underlying t=some (.slice e))(htx:P.underlying tx=some d)(hd:∀k,d ≠ .int k)(hi:P.info? e=some i){ad:Option Addr}{xv:Value}{news:List Value}{A:Nat->Prop}{new:Ad}(hs:Src P w A i.size xv 0 new news)(h0:news=[]):
  (Builtin.append_ (t::tx::ts).toArray ty #[.slice ad 0 0,xv]).run P w=.ok (.slice ad 0 0) w:=by
 subst h0;have h1:=hs.len w;have h2:(Builtin.firstCells i.size 0 xv).run P w=.ok ([]:List Value).toArray w:=hs.cells w (fun _ _=>rfl);have PZ:(match d with | .int _=>true|_=>false)=false:=by cases d<;>first|rfl|exact absurd rfl (hd _)
 cases ad<;>simp[Builtin.append_,run_underlying ht,run_underlying htx,PZ,sizeOf,typeInfo,hi,h1,h2,storeCells]
end
open Go.RowKit
section
variable {R:Type}{r:R}{P:Program}{N:Nat}{w0:World}{X0:Jw}{Y:Nat->Prop}{β β':Bt}{s:St}{a:Act}{w w':World}{o:Oper}{A:Nat->Prop}
theorem Aq8{b j:Nat}(h:j<bsz w b):(w.cell? ⟨b,j,none⟩).isSome=true:=by
 unfold bsz at h;unfold World.cell?;split at h
 ·rename_i c e fz hb;simp[hb,h]
 ·omega
theorem Aga{id d:Nat}{c cells:Ad}{bo:Option (Nat × Nat)}(h0:s.hp id=some (.ar false c))(hd:s.hp d=none)(YW:∀k x,bo=some (k,x)->w.heap.size<=k\/∃y,β id=some (k,y)):
  ∀k,k<w.heap.size->Dt (C7 (C7 s.hp id (some .mv)) d (some (.ar false cells))) (C7 β d bo) Y k->Dt s.hp β Y k:=by
 rintro k hk (⟨i,x,hl,hβ⟩|hY)
 ·by_cases e':i=d
  ·subst e';rw[An] at hβ;rcases YW k x hβ with h|⟨y,hy⟩
   ·omega
   ·exact .inl ⟨id,y,by rw[h0];trivial,hy⟩
  ·rw[Ak _ _ e'] at hl hβ;by_cases e:i=id
   ·subst e;rw[An] at hl;exact hl.elim
   ·rw[Ak _ _ e] at hl;exact .inl ⟨i,x,hl,hβ⟩
 ·exact .inr hY
theorem OB{pre new:Ad}{olds news:List Value}{zs:Array Value}{e:TypeId}{A':Nat->Prop}(hg:Ho w w' (olds.toArray++news.toArray++zs) e)(hA:∀b,b<w.heap.size->A' b->A b)(h1:Be (At w A) pre olds)(h2:Be (At w A) new news)(ho:∀u∈olds,u.oneCell'=true)(hn:∀u∈news,u.oneCell'=true):RdT w' A' ⟨w.heap.size,0,none⟩ (pre++new):=by
 refine Ais hg hA fun j p hj=>?_;obtain⟨v,hv,ht⟩:=(h1.app h2).get hj;refine⟨v,?_,?_,ht⟩
 ·have Cm:j<(olds++news).length:=by
   rcases Id j (olds++news).length with h|h
   ·exact h
   ·rw[List.getElem?_eq_none h] at hv;cases hv
  rw[Array.getElem?_append_left (by simpa using Cm)]
  simpa using hv
 ·rcases Bn.1 (List.mem_of_getElem? hv) with hm|hm
  ·exact ho v hm
  ·exact hn v hm
theorem ZQ(h:Df N w0 X0 Y β s a w){c:Call}(ho:o.op=.call c)(hc:c.callee=.builtin .append)(hnb:EB c=true){d:Nat}(Ald:o.dst=some d){b x:Operand}(F9:c.args.toList=[b,x]){t tx:TypeId}{ts:List TypeId}(LA:c.argTypes.toList=t::tx::ts){K:PV->List (Nat × B2)->Option R}(hk:Zm P (Mm s.hp) d t tx (Ck s.tm x) K=some r):∃v nw,K v nw=some r/\E7 P a w o Y β s v [] nw:=by
 have hb:b=.const (.slice none 0 0):=by
  unfold EB at hnb;rw[F9] at hnb;split at hnb
  ·rename_i e;injection e
  ·cases hnb
 have RB:c.args = #[b,x]:=by
  have:c.args=([b,x]:List Operand).toArray:=by rw[<-F9]
  exact this
 have Aak:c.argTypes=(t::tx::ts).toArray:=by rw[<-LA]
 have Tk:a.eval b=.slice none 0 0:=by rw[hb];rfl
 have run:∀{v:Value} {w1:World},(Builtin.append_ (t::tx::ts).toArray o.type #[a.eval b,a.eval x]).run P w=.ok v w1->(execOp a.eval o).run P w=.ok (.value v) w1:=by
  intro v w1 hr;unfold execOp;rw[ho];simp only[resolve,hc,invoke,builtin,Sem.run_bind,Sem.run_pure,Result.andThen_ok,RB,Aak];have:(#[b,x]:Array Operand).map a.eval = #[a.eval b,a.eval x]:=by simp
  rw[this,hr];rfl
 unfold Zm at hk;split at hk
 ·rename_i e hu;obtain⟨hzi,hk⟩:=Am hk;obtain⟨i,z,hi,hz,hzs,Sx⟩:=OC hzi;have Yh:((P.info? e).map (·.bytes)).getD 0=i.bytes:=by rw[hi];rfl
  obtain⟨⟨dx,hdx,Ab9⟩,m,new,news,hk,hs⟩:=MP (s:=s) h hk (fun m new Pb=>by
   obtain⟨hb,_⟩:=Am Pb;simp only[Er,Xi] at hb;exact hb.1.1)
  obtain⟨Jp,hk⟩:=Am hk;simp only[Er,Xi] at Jp;obtain⟨⟨Aij,hby⟩,SM⟩:=Jp;have hnl:new.length=news.length:=hs.rep.len;rw[Sx] at Aij hk hs;rw[Yh] at hby;have JD:news.length=m*i.size:=by omega
  refine⟨_,_,hk,by simp,?_⟩;by_cases hm0:m=0
  ·subst hm0;have hr:=Pg (P:=P) (w:=w) (t:=t) (tx:=tx) (ty:=o.type) (ts:=ts) (ad:=none) hu hdx Ab9 hi hs (List.eq_nil_of_length_eq_zero (by omega));rw[<-Tk] at hr;have Abj:new=[]:=List.eq_nil_of_length_eq_zero (by omega);subst Abj;refine⟨_,_,run hr,fun Apl=>⟨C7 β d none,?_⟩⟩;have Z6:s.hp d=none:=(B0 Apl).1 d _ (Th _);rw[Tk];refine⟨rfl,rfl,rfl,Cq.refl _ _,fun j hj=>Ak _ _ (by rintro rfl;exact hj Z6),?_,?_,?_,?_,?_,.inl ⟨An _ _ _,rfl,rfl,none,rfl⟩,?_⟩
   ·intro j bx hm;simp at hm;rw[hm.2];trivial
   ·intro j bx hm;simp at hm;obtain⟨rfl,rfl⟩:=hm;exact .inl ⟨An _ _ _,rfl⟩
   ·intro j bx k q hm hq;simp at hm;obtain⟨rfl,rfl⟩:=hm;rw[An] at hq;cases hq
   ·intro j bx j' bx' k q q' hm M6 _ _;simp at hm M6;rw[hm.1,M6.1]
   ·intro j cells hm;simp at hm
   ·intro j hj;simp[Cc,Ct,As] at hj;subst hj;exact .inr ⟨.ar false [],by simp⟩
  ·have hr:=Pe (P:=P) (w:=w) (t:=t) (tx:=tx) (ty:=o.type) (ts:=ts) (ad:=none) (n:=0) (cap:=0) (olds:=[]) hu hdx Ab9 hi hz hs (.inl ⟨rfl,rfl⟩) (by omega) (by rw[Ig];exact hby) (by omega)
   rw[<-Tk] at hr;refine⟨_,_,run hr,fun Apl=>⟨C7 β d (some (w.heap.size,0)),?_⟩⟩;have Z6:s.hp d=none:=(B0 Apl).1 d _ (Th _);have hge:0+m<=grownCap w (0+m) 0 e:=grownCap_ge w (0+m) 0 e
   have DF:Ho w (w.drew.alloc (.cells (([]:List Value).toArray++news.toArray++Builtin.zeroCells z.cells (grownCap w (0+m) 0 e-(0+m))) e)) (([]:List Value).toArray++news.toArray++Builtin.zeroCells z.cells (grownCap w (0+m) 0 e-(0+m))) e:=
    ⟨rfl,rfl,rfl,fun k hk=>Below.heap_alloc w.drew _ k hk,by show (w.heap.push _).size=_;simp,(0,0),by show (w.heap.push _)[w.heap.size]?=_;simp,.inl rfl⟩
   have Afz:(([]:List Value).toArray++news.toArray++Builtin.zeroCells z.cells (grownCap w (0+m) 0 e-(0+m))).size=grownCap w (0+m) 0 e*i.size:=by
    simp only[Array.size_append,List.size_toArray,size_zeroCells,hzs,JD,LP,<-Nat.add_mul];rw[Ig (m*i.size),<-Nat.add_mul]
    congr 1
    omega
   refine T8 (s:=⟨s.tm,Af s.hp []⟩) DF Z6 trivial ?_ (fun cells hx=>by cases hx) ?_ (by intro j hj;simp[Cc,Ct,As] at hj;exact .inr hj)
   ·refine .inr ⟨w.heap.size,0,An _ _ _,?_,fun _ j _ hj=>?_,(fun q=>by cases q)⟩
    ·exact OB (pre:=[]) DF (Aht (s:=⟨s.tm,Af s.hp []⟩) Z6) trivial hs.rep (by simp) hs.one
    ·rw[DF.bsz] at hj;exact DF.frozen hj
   ·refine .inr ⟨w.heap.size,0,0,grownCap w (0+m) 0 e,An _ _ _,by rw[Ig],.inl rfl,by omega,?_,by rw[DF.size];omega⟩
    exact⟨by rw[DF.bsz,Afz];omega,.inr (Ng w.drew _ e)⟩
 ·cases hk
theorem Aby{lo hi:Option Operand}{y3:Operand}{k3:IntKind}{len cap l u m:Nat}(hl:(lo=none/\l=0)\/∃y k,lo=some y/\a.eval y=.int k (l:Int))(hu:∃y k,hi=some y/\a.eval y=.int k (u:Int))(hm:a.eval y3=.int k3 (m:Int))(h1:l<=u)(h2:u<=m)(h3:m<=cap):
  (Instr.sliceBounds true len cap (lo.map a.eval) (hi.map a.eval) (some (a.eval y3))).run P w=.ok (l,u,m) w:=by
 obtain⟨y,k,rfl,hy⟩:=hu;rcases hl with⟨rfl,rfl⟩|⟨y',k',rfl,hy'⟩
 ·simp[Instr.sliceBounds,Instr.sliceBound,asIntOf,hy,hm,h2,h3]
 ·simp[Instr.sliceBounds,Instr.sliceBound,asIntOf,hy,hy',hm,h1,h2,h3]
theorem YG(h:Df N w0 X0 Y β s a w){t:TypeId}{x m:Operand}{lo hi:Option Operand}(ho:o.op=.slice t x lo hi (some m)){d:Nat}{K:PV->List (Nat × B2)->Option R}(hk:Zz P d t (Ck s.tm x) (lo.map (Ck s.tm)) (hi.map (Ck s.tm)) (some (Ck s.tm m)) K=some r):∃v nw,K v nw=some r/\E7 P a w o Y β s v [] nw:=by
 have hx:=Dj h x;unfold Zz at hk;split at hk
 ·rename_i e hu;obtain⟨hb,hk⟩:=Am hk;simp only[Er] at hb;obtain⟨Ts,hhi⟩:=hb
  obtain⟨yh,rfl⟩:∃y,hi=some y:=by
   cases hi with
   |none=>simp at hhi
   |some y=>exact⟨y,rfl⟩
  have fin:∀{ad:Option Addr} {n cap l u q:Nat},a.eval x=.slice ad n cap->n<=cap->((lo=none/\l=0)\/∃y k,lo=some y/\a.eval y=.int k (l:Int))->((some yh=none/\u=n)\/∃y k,some yh=some y/\a.eval y=.int k (u:Int))->(((some m:Option Operand)=none/\q=n)\/∃y k,(some m:Option Operand)=some y/\a.eval y=.int k (q:Int)) ->
    (Nat.beq l q&&Nat.beq u q&&decide (q<=n))=true->E7 P a w o Y β s (.view d (A7 P e) 0 0) [] [(d,.ar false [])]:=by
   intro ad n cap l u q D4 hn hl Lk hq hb;simp only[Er,Xi] at hb;obtain⟨⟨b1,b2⟩,b3⟩:=hb;have b1:=C6 b1;have b2:=C6 b2;subst b1 b2
   have hu2:∃y k,(some yh:Option Operand)=some y/\a.eval y=.int k (u:Int):=by
    rcases Lk with⟨e,_⟩|e
    ·cases e
    ·exact e
   obtain⟨k3,hm3⟩:∃k,a.eval m=.int k (u:Int):=by
    rcases hq with⟨e,_⟩|⟨y,k,e,q⟩
    ·cases e
    ·cases e;exact⟨k,q⟩
   have hbr:=Aby (P:=P) (w:=w) (len:=n) (cap:=cap) hl hu2 hm3 (Cn _) (Cn _) (by omega)
   have De:∃ad',(execOp a.eval o).run P w=.ok (.value (.slice ad' 0 0)) w:=by
    unfold execOp;rw[ho];cases ad with
    |none=>exact⟨none,by simp[Instr.sliceAt,Instr.slice,run_underlying hu,D4,hbr,Dg Ts] at hbr ⊢⟩
    |some p=>exact⟨some p,by simp[Instr.sliceAt,Instr.slice,run_underlying hu,D4,hbr,Dg Ts] at hbr ⊢⟩
   obtain⟨ad',De⟩:=De;refine⟨by simp,_,_,De,fun Apl=>⟨C7 β d none,?_⟩⟩;have Z6:s.hp d=none:=(B0 Apl).1 d _ (Th _);refine⟨rfl,rfl,rfl,Cq.refl _ _,fun j hj=>Ak _ _ (by rintro rfl;exact hj Z6),?_,?_,?_,?_,?_,.inl ⟨An _ _ _,rfl,rfl,ad',rfl⟩,?_⟩
   ·intro j bx hm;simp at hm;rw[hm.2];trivial
   ·intro j bx hm;simp at hm;obtain⟨rfl,rfl⟩:=hm;exact .inl ⟨An _ _ _,rfl⟩
   ·intro j bx k q hm hq;simp at hm;obtain⟨rfl,rfl⟩:=hm;rw[An] at hq;cases hq
   ·intro j bx j' bx' k q q' hm M6 _ _;simp at hm M6;rw[hm.1,M6.1]
   ·intro j cells hm;simp at hm
   ·intro j hj;simp[Cc,Ct,As] at hj;subst hj;exact .inr ⟨.ar false [],by simp⟩
  split at hk
  ·rename_i id es off n e';rw[e'] at hx;obtain⟨AB,hk⟩:=Am hk;obtain⟨l,hk,hl⟩:=Es h hk;obtain⟨u,hk,Lk⟩:=Es h hk;obtain⟨q,hk,hq⟩:=Es (x:=some m) h hk;obtain⟨hb,hk⟩:=Am hk;refine⟨_,_,hk,?_⟩;rcases hx with⟨hβ,_,rfl,ad,D4⟩|⟨b,ob,y,cap,hβ,D4,hy,hn,CO,Cm⟩
   ·exact fin D4 (Cn _) hl Lk hq hb
   ·exact fin D4 hn hl Lk hq hb
  ·obtain⟨z,n,c,hk,hp⟩:=Hz hk;obtain⟨l,hk,hl⟩:=Es h hk;obtain⟨u,hk,Lk⟩:=Es h hk;obtain⟨q,hk,hq⟩:=Es (x:=some m) h hk;obtain⟨hb,hk⟩:=Am hk;refine⟨_,_,hk,?_⟩;rcases Hx hp hx with⟨D4,rfl,rfl⟩|⟨ad,cap,D4,_,hn,_⟩|⟨ad,cap,D4,_,rfl,rfl⟩
   ·exact fin D4 (Cn _) hl Lk hq hb
   ·exact fin D4 hn hl Lk hq hb
   ·exact fin D4 (Nat.zero_le _) hl Lk hq hb
 ·cases hk
end
open Go.RowKit
section
variable {R:Type}{r:R}{P:Program}{N:Nat}{w0:World}{X0:Jw}{Y:Nat->Prop}{β β':Bt}{s:St}{a:Act}{w w':World}{o:Oper}{A:Nat->Prop}
theorem An5(h:Df N w0 X0 Y β s a w){G:BE}(Nz:Env P G w0 X0){C:Gw}{call:Aq}(Eo:∀f args res,call f args=some res->Cx G P f args res){K:PV->Bz->List (Nat × B2)->Option R}(hk:MQ C P N call s.tm (rd s.hp) (Mm s.hp) o K=some r):∃v fz nw,K v fz nw=some r/\OI P a w o Y β s v fz nw:=by
 have one:∀{K':PV->Option R},(∀v,K' v=some r->K v [] []=some r)->(∃v,K' v=some r/\E7 P a w o Y β s v [] [])->∃v fz nw,K v fz nw=some r/\OI P a w o Y β s v fz nw:=
  fun hK ⟨v,h1,h2⟩=>⟨v,[],[],hK v h1,MY h2⟩
 have many:(∃v fz nw,K v fz nw=some r/\E7 P a w o Y β s v fz nw)->∃v fz nw,K v fz nw=some r/\OI P a w o Y β s v fz nw:=
  fun ⟨v,fz,nw,h1,h2⟩=>⟨v,fz,nw,h1,MY h2⟩
 unfold MQ at hk;split at hk
 ·rename_i x ho;exact one (fun _ h=>h) (EG (K:=fun p=>K p [] []) h (Akb ho) hk)
 ·rename_i x ho;exact one (fun _ h=>h) (EG (K:=fun p=>K p [] []) h (Adp ho) hk)
 ·rename_i c x y ho;exact one (fun _ h=>h) (Af3 (K:=fun p=>K p [] []) h ho hk)
 ·rename_i t ho;obtain⟨d,hd,hk⟩:=Cs hk;exact many (Aah ho hk)
 ·rename_i t x ho;obtain⟨d,hd,hk⟩:=Cs hk;exact many (Aln h ho hk)
 ·rename_i t ps ho;exact one (fun _ h=>h) (Abg (K:=fun p=>K p [] []) h ho hk)
 ·rename_i t n ps ho;obtain⟨d,hd,hk⟩:=Cs hk;exact many (HU h ho hk)
 ·rename_i t x ho;exact one (fun _ h=>h) (Ae3 (K:=fun p=>K p [] []) h ho hk)
 ·rename_i x ho;exact one (fun _ h=>h) (NH (K:=fun p=>K p [] []) h ho hk)
 ·rename_i op t x y ty ho;exact one (fun _ h=>h) (Ac4 (K:=fun p=>K p [] []) h ho hk)
 ·rename_i op t x ho;exact one (fun _ h=>h) (Ag4 (K:=fun p=>K p [] []) h ho hk)
 ·rename_i src dst x ho;obtain⟨v,nw,hk,hg⟩:=Agx h ho hk;obtain⟨d,hd,hk⟩:=Cs hk;exact⟨v,[],nw,hk,MY hg⟩
 ·rename_i t x y ho;obtain⟨d,hd,hk⟩:=Cs hk;exact many (Af2 h ho hk)
 ·rename_i t x lo hi mx ho;split at hk
  ·exact one (fun _ h=>h) (Aam (K:=fun p=>K p [] []) h ho hk)
  ·obtain⟨d,hd,hk⟩:=Cs hk;obtain⟨v,nw,h1,h2⟩:=YG h ho hk;exact⟨v,[],nw,h1,MY h2⟩
 ·rename_i t x f ho;exact one (fun _ h=>h) (LO (K:=fun p=>K p [] []) h ho hk)
 ·rename_i t x f ho;exact one (fun _ h=>h) (Acd (K:=fun p=>K p [] []) h ho hk)
 ·rename_i t x i ho;exact one (fun _ h=>h) (KU (K:=fun p=>K p [] []) h ho hk)
 ·rename_i t x i ho;exact one (fun _ h=>h) (Ab3 (K:=fun p=>K p [] []) h ho hk)
 ·rename_i t x k ok ho;exact one (fun _ h=>h) (ZN (K:=fun p=>K p [] []) h ho hk)
 ·rename_i x i ho;exact one (fun _ h=>h) (RO (K:=fun p=>K p [] []) h ho hk)
 ·rename_i c ho;split at hk
  ·rename_i hc;exact one (fun _ h=>h) (Al6 (K:=fun p=>K p [] []) h ho hc hk)
  ·rename_i hc;exact one (fun _ h=>h) (Akf (K:=fun p=>K p [] []) h ho hc hk)
  ·rename_i hc;exact one (fun _ h=>h) (Alk (K:=fun p=>K p [] []) h ho hc hk)
  ·rename_i hc;exact one (fun _ h=>h) (Ajx (K:=fun p=>K p [] []) h ho hc hk)
  ·rename_i hc;obtain⟨hnb,hk⟩:=Am hk;obtain⟨d,hd,Ez⟩:=Cs hk;obtain⟨b,xs,RI,Fu⟩:=Bf Ez;obtain⟨x,ys,hys,Pa⟩:=Bf Fu;obtain⟨HQ,Zl⟩:=Eg Pa;obtain⟨t,us,hus,hk5⟩:=Bf Zl;obtain⟨tx,vs,Wx,hk6⟩:=Bf hk5;rw[hys,HQ] at RI;rw[Wx] at hus;obtain⟨v,nw,h1,h2⟩:=ZQ h ho hc hnb hd RI hus hk6;exact⟨v,[],nw,h1,MY h2⟩
  ·rename_i f hc;exact NM h Nz Eo (fun hf hb=>Adg ho hc Nz.ng hf hb) hk
  ·rename_i t hc;obtain⟨f,hf0,Ez⟩:=Atk hk;have ht:a.eval (.tmp t)=.func (.func f) #[] #[]:=Cl h (x:=.tmp t) hf0;exact NM h Nz Eo (fun hf hb=>Al3 ho hc ht Nz.ng hf hb) Ez
  ·cases hk
 ·cases hk
theorem Ae6(h:Df N w0 X0 Y β s a w){G:BE}(Nz:Env P G w0 X0){C:Gw}{call:Aq}(Eo:∀f args res,call f args=some res->Cx G P f args res){K:St->Option R}(hk:(MQ C P N call s.tm (rd s.hp) (Mm s.hp) o fun v fz nw=>HG N s o.dst v fz nw K)=some r):
  ∃s',K s'=some r/\∀(next:Act->World->Prop) (Q:Exit->Act->World->Prop),(∀a' w' β',Df N w0 X0 Y β' s' a' w'->next a' w')->o.wp P a w next Q:=by
 obtain⟨v,fz,nw,hk,HO,hg⟩:=An5 h Nz Eo hk;unfold HG at hk;obtain⟨hb,hk⟩:=Am hk;simp only[Er] at hb;refine⟨_,hk,fun next Q hn=>hg next Q fun val w' G0=>?_⟩;obtain⟨β',st⟩:=G0 hb.2
 have Tk:B6 (Af s.hp fz) nw=true:=by
  have:∀nw,B6 s.hp nw=true->B6 (Af s.hp fz) nw=true:=by
   intro nw
   induction nw with
   |nil=>intro _;rfl
   |cons q nw ih=>
    obtain⟨i,b⟩:=q;intro hq;simp only[B6,Er,Option.isNone_iff_eq_none] at hq ⊢;exact⟨⟨Ew.2 hq.1.1,hq.1.2⟩,ih hq.2⟩
  exact this nw hb.2
 exact hn _ _ β' ((h.freeze HO).stepR hb.1 Tk st)
end
open Go.RowKit
section
variable {R:Type}{r:R}{P:Program}{N:Nat}{w0:World}{X0:Jw}{Y:Nat->Prop}{β β':Bt}{s:St}{a:Act}{w w':World}{o:Oper}{A:Nat->Prop}
structure Ei(b:Nat)(w w':World):Prop where
 os:w'.os=w.os
 tape:w'.tape=w.tape
 output:w'.output=w.output
 size:w'.heap.size=w.heap.size
 other:∀k,k≠b->w'.heap[k]?=w.heap[k]?
 bs:bsz w' b=bsz w b
 frz:∀j,w'.frozen? ⟨b,j,none⟩=w.frozen? ⟨b,j,none⟩
theorem Ei.grow{b:Nat}(h:Ei b w w')(k:Nat):Ij w w' k:=by
 by_cases e:k=b
 ·subst e;refine⟨by rw[h.bs];exact Cn _,fun q=>?_⟩
  unfold Ab4 at q ⊢;rw[h.bs,h.frz];exact q
 ·exact Ij.same (h.other k e)
theorem Ei.refl(b:Nat)(w:World):Ei b w w:=⟨rfl,rfl,rfl,rfl,fun _ _=>rfl,rfl,fun _=>rfl⟩
theorem Ei.setCell(b j:Nat)(v:Value)(w:World):Ei b w (w.setCell ⟨b,j,none⟩ v):=by
 refine⟨rfl,rfl,rfl,by simp[World.setCell],fun k hk=>Below.heap_setCell w ⟨b,j,none⟩ v k hk,?_,fun i=>?_⟩
 ·simp only[bsz,World.setCell,Array.getElem?_modify];simp only[if_true];cases h:w.heap[b]? with
  |none=>simp
  |some x=>cases x<;>simp
 ·simp only[World.frozen?,World.setCell,Array.getElem?_modify,if_true];cases h:w.heap[b]? with
  |none=>simp
  |some x=>cases x<;>simp
theorem Ei.trans{b:Nat}{w'':World}(h:Ei b w w')(h':Ei b w' w''):Ei b w w'':=
 ⟨h'.os.trans h.os,h'.tape.trans h.tape,h'.output.trans h.output,h'.size.trans h.size,fun k hk=>(h'.other k hk).trans (h.other k hk),h'.bs.trans h.bs,fun j=>(h'.frz j).trans (h.frz j)⟩
theorem Ei.setCells(b:Nat):∀(vs:List Value)(j:Nat)(w:World),Ei b w (w.setCells b j vs)
 |[],_,w=>Ei.refl b w
 |v::vs,j,w=>(Ei.setCell b j v w).trans (Ei.setCells b vs (j+1) _)
theorem A6v{hp:Nat->Option B2}{id:Nat}{bx bx':B2}(h0:hp id=some bx)(hl:Du (some bx))(Nj:Du (some bx'))(b:Nat):ZM (C7 hp id (some bx')) β b↔ZM hp β b:=by
 constructor
 ·rintro⟨i,o,h1,h2⟩
  by_cases e:i=id
  ·subst e;exact⟨i,o,by rw[h0];exact hl,h2⟩
  ·rw[Ak _ _ e] at h1;exact⟨i,o,h1,h2⟩
 ·rintro⟨i,o,h1,h2⟩
  by_cases e:i=id
  ·subst e;exact⟨i,o,by rw[An];exact Nj,h2⟩
  ·exact⟨i,o,by rw[Ak _ _ e];exact h1,h2⟩
theorem Df.write(h:Df N w0 X0 Y β s a w){id b ob:Nat}{bx bx':B2}(h0:s.hp id=some bx)(hl:Du (some bx))(Nj:Du (some bx'))(hβ:β id=some (b,ob))(hw:Ei b w w')(O8:V2 w' (Dt s.hp β Y) β id bx')(hr:∀cells,bx'=.st cells->∀c∈cells,∀i∈As c,s.hp i≠none)(hK:∀c',bx'=.st c'->∃c,bx=.st c)(hR:∀j,BR bx' ob j->BR bx ob j)(hO:∀j,¬BR bx ob j->w'.cell? ⟨b,j,none⟩=w.cell? ⟨b,j,none⟩):Df N w0 X0 Y β ⟨s.tm,C7 s.hp id (some bx')⟩ a w':=by
 have hX:=A6v (β:=β) h0 hl Nj;have hA:∀k,Dt (C7 s.hp id (some bx')) β Y k↔Dt s.hp β Y k:=fun k=>⟨fun x=>x.imp (hX k).1 (fun y=>y),fun x=>x.imp (hX k).2 (fun y=>y)⟩;have hAb:Dt s.hp β Y b:=.inl ⟨id,ob,by rw[h0];exact hl,hβ⟩
 have G0:Cq (Dt s.hp β Y) w w':=⟨by rw[hw.size];exact Cn _,fun k _ hk=>hw.other k (fun e=>hk (e ▸ hAb)),fun k _=>hw.grow k⟩
 have Gy:∀i,C7 s.hp id (some bx') i≠none↔s.hp i≠none:=by
  intro i;by_cases e:i=id
  ·subst e;rw[An,h0];simp
  ·rw[Ak _ _ e]
 have hAe:Dt (C7 s.hp id (some bx')) β Y=Dt s.hp β Y:=funext fun k=>propext (hA k)
 have EP:∀i,Du (C7 s.hp id (some bx') i)->Du (s.hp i):=by
  intro i hi;by_cases e:i=id
  ·subst e;rw[h0];exact hl
  ·rw[Ak _ _ e] at hi;exact hi
 refine⟨h.dfr,h.tsz,h.tmo,fun i hi=>?_,fun i bi hb=>?_,fun i i' k x y h1 h2=>h.inj i i' k x y (EP i h1) (EP i' h2),fun i k x hi hk=>?_,fun i hi j hj=>(Gy j).2 (h.wfT i hi j hj),
  fun i cells hc c hcm j hj=>(Gy j).2 ?_,fun k hk=>h.ownd k ((hX k).1 hk),fun i bi k x LS hli hk Cm j hj=>?_,fun i hi=>⟨(Gy _).2 (h.pin i hi).1,(h.pin i hi).2⟩,fun i c k x hc hk Cm=>?_,fun k hk x=>h.Yx k hk ((hX k).1 x),h.Ylt,?_⟩
 ·rw[hAe];exact (h.tms i hi).step G0 (fun _ _ x=>x) (fun _ _=>rfl)
 ·rw[hAe];simp only at hb;by_cases e:i=id
  ·subst e;rw[An] at hb;cases hb;exact O8
  ·rw[Ak _ _ e] at hb;have LS:=h.box i bi hb;cases bi with
   |st c=>
    obtain⟨k,x,h1,h2,h3⟩:=LS
    have hk:k≠b:=by
     rintro rfl
     exact e (h.inj i id k x ob (by rw[hb];trivial) (by rw[h0];exact hl) h1 hβ)
    refine⟨k,x,h1,fun j c hj=>?_,fun j hj=>?_⟩
    ·obtain⟨v,hv,hc⟩:=h2 j c hj;exact⟨v,by rw[World.cell?_of_block (w:=w) (hw.other k hk)];exact hv,hc.step G0 (fun _ _ x=>x) (fun _ _=>rfl)⟩
    ·rw[World.frozen?_of_block (w:=w) (hw.other k hk)];exact h3 j hj
   |ar fz c=>
    rcases LS with hn|⟨k,x,h1,h2,h3,h4⟩
    ·exact .inl hn
    ·have hk:k≠b:=by
      rintro rfl
      cases fz with
      |true=>exact h4 rfl hAb
      |false=>exact e (h.inj i id k x ob (by rw[hb];trivial) (by rw[h0];exact hl) h1 hβ)
     refine .inr ⟨k,x,h1,fun j c hj=>?_,fun ef j hj Xj=>?_,h4⟩
     ·obtain⟨v,hv,h5,hc⟩:=h2 j c hj;exact⟨v,by rw[World.cell?_of_block (w:=w) (by rw[Fx];exact hw.other k hk)];exact hv,h5,hc.step G0 (fun _ _ x=>x)⟩
     ·rw[World.frozen?_of_block (w:=w) (hw.other k hk)];refine h3 ef j hj ?_;unfold bsz at Xj ⊢;rw[hw.other k hk] at Xj;exact Xj
   |mv=>trivial
 ·rw[hw.size];exact h.blt i k x ((Gy i).1 hi) hk
 ·simp only at hc;by_cases e:i=id
  ·subst e;rw[An] at hc;injection hc with hc;exact hr cells hc c hcm j hj
  ·rw[Ak _ _ e] at hc;exact h.wfB i cells hc c hcm j hj
 ·simp only at LS;by_cases e:i=id
  ·subst e;rw[An] at LS;cases LS;rw[hβ] at hk;cases hk;exact h.rngB i bx b ob h0 hl hβ Cm j (hR j hj)
  ·rw[Ak _ _ e] at LS;exact h.rngB i bi k x LS hli hk Cm j hj
 ·simp only at hc;by_cases e:i=id
  ·subst e;rw[An] at hc;injection hc with hc;obtain⟨c0,rfl⟩:=hK c hc;exact h.stp i c0 k x h0 hk Cm
  ·rw[Ak _ _ e] at hc;exact h.stp i c k x hc hk Cm
 ·refine⟨hw.os.trans h.fr.os,hw.tape.trans h.fr.tape,hw.output.trans h.fr.output,?_,fun k j hk hL=>?_⟩
  ·refine⟨by rw[hw.size];exact h.fr.step.size,fun k hk hnk=>?_,fun k hk=>(h.fr.step.bs k hk).trans (G0.bs k (Gb hk h.fr.step.size))⟩
   rw[hw.other k ?_]
   ·exact h.fr.step.keep k hk hnk
   ·rintro rfl
    rcases h.ownd k ⟨id,ob,by rw[h0];exact hl,hβ⟩ with hx|hx
    ·exact hnk hx
    ·omega
  ·by_cases e:k=b
   ·subst e;rw[hO j (fun hj=>hL (h.rngB id bx k ob h0 hl hβ hk j hj)),hw.frz];exact h.fr.rng k j hk hL
   ·have hc:w'.cell? ⟨k,j,none⟩=w.cell? ⟨k,j,none⟩:=World.cell?_of_block (w:=w) (hw.other k e);have hf:w'.frozen? ⟨k,j,none⟩=w.frozen? ⟨k,j,none⟩:=World.frozen?_of_block (w:=w) (hw.other k e);rw[hc,hf];exact h.fr.rng k j hk hL
theorem Va{c cs:Ad}{off j:Nat}{p:PV}(FS:off+cs.length<=c.length)(h:(B1 c cs off)[j]?=some p):
  (off<=j/\j<off+cs.length/\cs[j-off]?=some p)\/((j<off\/off+cs.length<=j)/\c[j]?=some p):=by
 unfold B1 at h;by_cases h1:j<off
 ·rw[Zzv,List.getElem?_append_left (by simp;omega),List.getElem?_take_of_lt h1] at h
  exact .inr ⟨.inl h1,h⟩
 ·by_cases h2:j<off+cs.length
  ·rw[List.getElem?_append_left (by simp;omega),List.getElem?_append_right (by simp;omega)] at h
   simp only[List.length_take,Nat.min_eq_left (by omega:off<=c.length)] at h;exact .inl ⟨by omega,h2,h⟩
  ·rw[List.getElem?_append_right (by simp;omega)] at h
   simp only[Xk,List.length_take,Nat.min_eq_left (by omega:off<=c.length),List.getElem?_drop] at h;rw[show off+cs.length+(j-(off+cs.length))=j from by omega] at h;exact .inr ⟨.inr (by omega),h⟩
theorem Vk{c cs:Ad}{off:Nat}(FS:off+cs.length<=c.length):(B1 c cs off).length=c.length:=by simp[B1];omega
theorem JJ{t:TypeId}{b j:Nat}{v:Value}(Sx:(P.info? t).map (·.size)=some v.cells.size)(hc:∀i,i<v.cells.toList.length->(w.cell? ⟨b,j+i,none⟩).isSome=true)(hf:∀i,i<v.cells.toList.length->w.frozen? ⟨b,j+i,none⟩=false)(h1:∀u∈v.cells.toList,u.oneCell'=true):(Instr.storeAt t (.pointer (some ⟨b,j,none⟩)) v).run P w=.ok () (w.setCells b j v.cells.toList):=by
 have:=run_storeCells_cells (P:=P) b j v.cells.toList 0 w (fun i hi=>by simpa using hc i hi) (fun i hi=>by simpa using hf i hi) h1;simp only[Instr.storeAt,Instr.sureAddr,storeVar,Sem.run_bind,Sem.run_pure,Result.andThen_ok,Nd Sx]
 simpa using this
theorem Aav(h:Df N w0 X0 Y β s a w){t:TypeId}{x y:Operand}(ho:o.op=.store t x y)(hd:o.dst=none){K:St->Option R}(hk:IB P s t (Ck s.tm x) (Ck s.tm y) K=some r):
  ∃s',K s'=some r/\∀(next:Act->World->Prop) (Q:Exit->Act->World->Prop),(∀a' w' β',Df N w0 X0 Y β' s' a' w'->next a' w')->o.wp P a w next Q:=by
 have hx:=Dj h x;have RG:=F4 h x
 have run:∀{b j:Nat},a.eval x=.pointer (some ⟨b,j,none⟩)->(Instr.storeAt t (.pointer (some ⟨b,j,none⟩)) (a.eval y)).run P w=.ok () (w.setCells b j (a.eval y).cells.toList) ->
   ∀(next:Act->World->Prop) (Q:Exit->Act->World->Prop),next a (w.setCells b j (a.eval y).cells.toList)->o.wp P a w next Q:=by
  intro b j D4 hr next Q hn;unfold Oper.wp execOp;rw[ho];simp only[Sem.run_bind,D4,hr,Result.andThen_ok,Sem.run_pure];show next (a.put o.dst undef) _;rw[hd];exact hn
 unfold IB at hk;split at hk
 ·rename_i id off e;rw[e] at hx RG;obtain⟨b,ob,hβ,D4⟩:=hx;split at hk
  ·rename_i c h0;obtain⟨hb,hk⟩:=Am hk;simp only[Er,Xi] at hb;obtain⟨⟨hok,hl⟩,FS⟩:=hb;have hl:=C6 hl;obtain⟨cs,hk,O7,h2,h1,hr,_⟩:=Ait (Dj h y) hl hk;obtain⟨_,A13,Sx⟩:=Tz hok;have hvl:=h2.len;obtain⟨b',o',Fv,Ir,JX⟩:=h.box id _ h0;rw[hβ] at Fv;simp at Fv;obtain⟨rfl,rfl⟩:=Fv
   have hcell:∀i,i<(a.eval y).cells.toList.length->(w.cell? ⟨b,ob+off+i,none⟩).isSome=true:=by
    intro i hi;obtain⟨v,hv,_⟩:=Ir (off+i) _ (List.getElem?_eq_getElem (by omega));rw[Pi,hv];rfl
   have De:=JJ (P:=P) (t:=t) (w:=w) (b:=b) (j:=ob+off) (v:=a.eval y) (by rw[Sx,<-A13,<-O7,hvl];simp) hcell (fun i hi=>by rw[Pi];exact JX _ (by omega)) h1
   refine⟨_,hk,fun next Q hn=>run D4 De next Q (hn _ _ β ?_)⟩
   refine h.write h0 trivial trivial hβ (Ei.setCells b _ _ w) ?_ ?_ (fun _ _=>⟨_,rfl⟩) (fun j hj=>by
    have hj:ob<=j/\j<ob+(B1 c cs off).length:=hj;rw[Vk (by omega)] at hj;exact hj) (fun j hj=>by
    refine World.cell?_setCells_out b _ _ w ⟨b,j,none⟩ (fun _ _=>?_);have hj:¬(ob<=j/\j<ob+c.length):=hj;show j<ob+off\/ob+off+_<=j;omega)
   ·have G0:Cq (Dt s.hp β Y) w (w.setCells b (ob+off) (a.eval y).cells.toList):=by
     have hw:=Ei.setCells b (a.eval y).cells.toList (ob+off) w;have hAb:Dt s.hp β Y b:=.inl ⟨id,ob,by rw[h0];trivial,hβ⟩
     exact⟨by rw[hw.size];exact Cn _,fun k _ hk=>hw.other k (fun e=>hk (e ▸ hAb)),fun k _=>hw.grow k⟩
    refine⟨b,ob,hβ,fun j p hj=>?_,fun j hj=>?_⟩
    ·rcases Va (by omega) hj with⟨h3,h4,h5⟩|⟨h3,h5⟩
     ·obtain⟨u,hu,hcu⟩:=h2.get h5;have Cm:j-off<(a.eval y).cells.toList.length:=by omega
      refine⟨u,?_,hcu.step G0 (fun _ _ x=>x) (fun _ _=>rfl)⟩;have:=World.cell?_setCells_in b (a.eval y).cells.toList (ob+off) w hcell (j-off) Cm;rw[show ob+j=ob+off+(j-off) from by omega,this];rw[List.getElem?_eq_getElem Cm] at hu;exact hu
     ·obtain⟨v,hv,JA⟩:=Ir j p h5;refine⟨v,?_,JA.step G0 (fun _ _ x=>x) (fun _ _=>rfl)⟩;rw[World.cell?_setCells_out b _ _ w ⟨b,ob+j,none⟩ (fun _ _=>by show ob+j<ob+off\/ob+off+_<=ob+j;omega)]
      exact hv
    ·rw[Vk (by omega)] at hj;rw[(Ei.setCells b _ _ w).frz];exact JX j hj
   ·intro cells hx c' Q1 i hi;injection hx with hx;subst hx;unfold B1 at Q1;rcases Bn.1 Q1 with Q1|Q1
    ·rcases Bn.1 Q1 with Q1|Q1
     ·exact h.wfB id c h0 c' (List.mem_of_mem_take Q1) i hi
     ·exact F4 h y i (hr c' Q1 i hi)
    ·exact h.wfB id c h0 c' (List.mem_of_mem_drop Q1) i hi
  ·rename_i c h0;obtain⟨hb,hk⟩:=Am hk;simp only[Er,Xi] at hb;obtain⟨hok,FS⟩:=hb;obtain⟨cs,m,hk,O7,U5,hT,hF,hm,hv⟩:=Ul h hk;obtain⟨SM,hk⟩:=Am hk
   have SM:id ∉ m:=by
    intro hi;have:m.any (Nat.beq id)=true:=List.any_eq_true.2 ⟨id,hi,Qi id⟩;rw[this] at SM;cases SM
   obtain⟨_,A13,Sx⟩:=Tz hok
   have Ati:Be (Cd w (Dt s.hp β Y) β) (cellsOf (Ck s.tm y)) (a.eval y).cells.toList:=by
    have hyv:=Dj h y;cases hp:Ck s.tm y with
    |agg ps=>
     rw[hp] at hyv;obtain⟨vs,hay,h2⟩:=hyv;rw[hay];exact h2
    |sc v=>
     rw[hp] at hyv hF
     have Apw:(a.eval y).oneCell'=true:=by
      have:=hv m (fun _ hi=>hi) hm [a.eval y] (by rw[hp];exact⟨hyv,trivial⟩)
      exact this.2 _ (by simp)
     rw[Qr Apw];exact⟨hyv,trivial⟩
    |lst z es n cc=>
     rw[hp] at hyv hF
     have Apw:(a.eval y).oneCell'=true:=by
      have:=hv m (fun _ hi=>hi) hm [a.eval y] (by rw[hp];exact⟨hyv,trivial⟩)
      exact this.2 _ (by simp)
     rw[Qr Apw];exact⟨hyv,trivial⟩
    |view i es oo n=>
     rw[hp] at hyv hF
     have Apw:(a.eval y).oneCell'=true:=by
      have:=hv m (fun _ hi=>hi) hm [a.eval y] (by rw[hp];exact⟨hyv,trivial⟩)
      exact this.2 _ (by simp)
     rw[Qr Apw];exact⟨hyv,trivial⟩
    |own es n cc=>
     have hx0:=hF (Ck s.tm y) (by rw[hp];exact Th _)
     rw[hp] at hx0;exact hx0.elim
    |ptr i cc=>
     have hx0:=hF (Ck s.tm y) (by rw[hp];exact Th _)
     rw[hp] at hx0;exact hx0.elim
    |iptr i cc=>
     have hx0:=hF (Ck s.tm y) (by rw[hp];exact Th _)
     rw[hp] at hx0;exact hx0.elim
    |pbox cc=>
     have hx0:=hF (Ck s.tm y) (by rw[hp];exact Th _)
     rw[hp] at hx0;exact hx0.elim
    |tup cc=>
     have hx0:=hF (Ck s.tm y) (by rw[hp];exact Th _)
     rw[hp] at hx0;exact hx0.elim
    |ub=>
     have hx0:=hF (Ck s.tm y) (by rw[hp];exact Th _)
     rw[hp] at hx0;exact hx0.elim
    |top=>
     have hx0:=hF (Ck s.tm y) (by rw[hp];exact Th _)
     rw[hp] at hx0;exact hx0.elim
   obtain⟨h2,h1⟩:=hv m (fun _ hi=>hi) hm _ Ati;have hvl:=h2.len;have hf:=h.freeze hm;have h0':Af s.hp m id=some (.ar false c):=by rw[Ca,Bl SM];exact h0
   rcases hf.box id _ h0' with⟨hn,_⟩|⟨b',o',Fv,Ir,JX,_⟩
   ·rw[hβ] at hn;cases hn
   rw[hβ] at Fv;simp at Fv;obtain⟨rfl,rfl⟩:=Fv
   have hcell:∀i,i<(a.eval y).cells.toList.length->(w.cell? ⟨b,ob+off+i,none⟩).isSome=true:=by
    intro i hi;obtain⟨v,hv,_⟩:=Ir (off+i) _ (List.getElem?_eq_getElem (by omega));rw[Ff] at hv;rw[Pi,hv];rfl
   have De:=JJ (P:=P) (t:=t) (w:=w) (b:=b) (j:=ob+off) (v:=a.eval y) (by rw[Sx,<-A13,<-O7,hvl];simp) hcell (fun i hi=>by
    obtain⟨u,hu⟩:=Option.isSome_iff_exists.1 (hcell i hi);exact JX rfl _ (by omega) (QF hu)) h1
   refine⟨_,hk,fun next Q hn=>run D4 De next Q (hn _ _ β ?_)⟩
   refine hf.write h0' trivial trivial hβ (Ei.setCells b _ _ w) ?_ (fun cells hx=>by cases hx) (fun _ hx=>by cases hx) (fun j hj=>hj) (fun j hj=>by
    refine World.cell?_setCells_out b _ _ w ⟨b,j,none⟩ (fun _ _=>?_);have hj:¬(ob<=j):=hj;show j<ob+off\/ob+off+_<=j;omega)
   have G0:Cq (Dt (Af s.hp m) β Y) w (w.setCells b (ob+off) (a.eval y).cells.toList):=by
    have hw:=Ei.setCells b (a.eval y).cells.toList (ob+off) w;have hAb:Dt (Af s.hp m) β Y b:=.inl ⟨id,ob,by rw[h0'];trivial,hβ⟩
    exact⟨by rw[hw.size];exact Cn _,fun k _ hk=>hw.other k (fun e=>hk (e ▸ hAb)),fun k _=>hw.grow k⟩
   refine .inr ⟨b,ob,hβ,fun j p hj=>?_,fun _ j hj Xj=>?_,(fun x=>by cases x)⟩
   ·rw[Ff];rcases Va (by omega) hj with⟨h3,h4,h5⟩|⟨h3,h5⟩
    ·obtain⟨u,hu,hcu⟩:=h2.get h5;have Cm:j-off<(a.eval y).cells.toList.length:=by omega
     refine⟨u,?_,h1 u (List.mem_of_getElem? hu),hcu.step G0 (fun _ _ x=>x)⟩;have:=World.cell?_setCells_in b (a.eval y).cells.toList (ob+off) w hcell (j-off) Cm;rw[show ob+j=ob+off+(j-off) from by omega,this];rw[List.getElem?_eq_getElem Cm] at hu;exact hu
    ·obtain⟨v,hv,h6,JA⟩:=Ir j p h5;rw[Ff] at hv;refine⟨v,?_,h6,JA.step G0 (fun _ _ x=>x)⟩;rw[World.cell?_setCells_out b _ _ w ⟨b,ob+j,none⟩ (fun _ _=>by show ob+j<ob+off\/ob+off+_<=ob+j;omega)]
     exact hv
   ·rw[(Ei.setCells b _ _ w).bs] at Xj;rw[(Ei.setCells b _ _ w).frz];exact JX rfl j hj Xj
  ·cases hk
 ·cases hk
end
open Go.RowKit
theorem Kq:∀{l l':Bz},Em (l++l')=true->Em l=true/\Em l'=true/\∀i∈l,i ∉ l'
 |[],l',h=>⟨rfl,h,by simp⟩
 |a::l,l',h=>by
  simp only[Zzp,Em,Er,Bool.not_eq_true'] at h;obtain⟨h1,h2⟩:=h;obtain⟨h3,h4,h5⟩:=Kq h2
  have hn:∀i∈l++l',a≠i:=by
   rintro i hi rfl
   have:(l++l').any (Nat.beq a)=true:=List.any_eq_true.2 ⟨a,hi,Qi a⟩;rw[this] at h1;cases h1
  refine⟨?_,h4,fun i hi=>?_⟩
  ·simp only[Em,Er,Bool.not_eq_true',h3,and_true];rw[List.any_eq_false];intro i hi e;exact hn i (by simp[hi]) (C6 e)
  ·rcases List.mem_cons.1 hi with rfl|hi
   ·exact fun hm=>hn i (by simp[hm]) rfl
   ·exact h5 i hi
def Ii(β:Bt)(q:Nat × Nat):Option (Nat × Nat):=(β q.1).map fun p=>(p.1,p.2+q.2)
theorem Aen(β:Bt)(id:Nat):Ii β (id,0)=β id:=by unfold Ii;cases β id<;>rfl
section
variable {R:Type}{r:R}{P:Program}{N:Nat}{w0:World}{X0:Jw}{Y:Nat->Prop}{β β':Bt}{s:St}{a:Act}{w w':World}{o:Oper}{A:Nat->Prop}
theorem Q5{fz:Bz}{b:Nat}(h:Dt (Af s.hp fz) β Y b):Dt s.hp β Y b:=h.imp Uu id
theorem Ard(h:Df N w0 X0 Y β s a w){mv:Bool}{t:CT}{p:PV}{K:PV->Bz->Bz->Option R}(hk:Aji mv s.hp t p K=some r):
  ∃c m q,K c m (Option.toList q)=some r/\isA c/\RP p/\(∀id∈m,∃f cc,s.hp id=some (.ar f cc))/\(∀id,q=some id->∃cc,s.hp id=some (.ar false cc)) /\
   ∀fz:Bz,(∀id∈m,id∈fz)->(∀id∈fz,∃f cc,s.hp id=some (.ar f cc))->∀v,Cd w (Dt s.hp β Y) β p v->Ht w (Dt (Af s.hp fz) β Y) (q.bind β) c v:=by
 have frz:∀{t:CT} {p:PV} {K:PV->Bz->Bz->Option R},(R6 (Mm s.hp) t p fun c m=>K c m [])=some r->∃c m q,K c m (Option.toList q)=some r/\isA c/\RP p/\(∀id∈m,∃f cc,s.hp id=some (.ar f cc))/\(∀id,q=some id->∃cc,s.hp id=some (.ar false cc)) /\
   ∀fz:Bz,(∀id∈m,id∈fz)->(∀id∈fz,∃f cc,s.hp id=some (.ar f cc))->∀v,Cd w (Dt s.hp β Y) β p v->Ht w (Dt (Af s.hp fz) β Y) (q.bind β) c v:=by
  intro t p K hk;obtain⟨c,m,hk,hT,hF,hm,hv⟩:=MW h hk;exact⟨c,m,none,hk,.inl hT,hF,hm,by simp,fun fz h1 h2 v hc=>Nu hT (hv fz h1 h2 v hc).1⟩
 have tree:∀{t:CT} {p:PV} {K:PV->Bz->Bz->Option R},(∀es,t ≠ .sl es)->(IJ t p fun c=>K c [] [])=some r->∃c m q,K c m (Option.toList q)=some r/\isA c/\RP p/\(∀id∈m,∃f cc,s.hp id=some (.ar f cc))/\(∀id,q=some id->∃cc,s.hp id=some (.ar false cc)) /\
   ∀fz:Bz,(∀id∈m,id∈fz)->(∀id∈fz,∃f cc,s.hp id=some (.ar f cc))->∀v,Cd w (Dt s.hp β Y) β p v->Ht w (Dt (Af s.hp fz) β Y) (q.bind β) c v:=by
  intro t p K G6 hk;obtain⟨c,hk,hT,NV,hv⟩:=Qk hk;exact⟨c,[],none,hk,.inl hT,Vu NV,by simp,by simp,fun fz h1 h2 v hc=>Nu hT ((hv w _ β v hc).1.step (Cq.refl _ _) (fun b _ hb=>Q5 hb))⟩
 unfold Aji at hk;cases t with
 |sl es=>
  dsimp only at hk;cases mv<;>simp only[cond_true,cond_false] at hk
  ·exact frz hk
  ·split at hk
   ·rename_i id es' off n;split at hk
    ·rename_i c h0;cases hb:(Nat.beq es' es&&Nat.beq off 0)<;>rw[hb] at hk<;>simp only[cond_true,cond_false] at hk
     ·exact frz hk
     ·simp only[Er] at hb;have he:=C6 hb.1;have hof:=C6 hb.2;subst he hof;obtain⟨hl,hk⟩:=Am hk;refine⟨_,[],some id,hk,.inr ⟨_,_,_,rfl⟩,trivial,by simp,fun i hi=>by cases hi;exact⟨c,h0⟩,fun fz h1 h2 v hc=>?_⟩
      rcases hc with⟨h3,_,rfl,h4⟩|⟨b,ob,x,cap,h3,h4,hx,h5,h6,h7⟩
      ·exact .inl ⟨h3,rfl,by simp,h4⟩
      ·have hx:x=ob:=by rcases hx with e|⟨_,e⟩<;>omega
       subst hx;rcases h.box id _ h0 with⟨h8,_⟩|⟨b',o',h8,h9,h10,_⟩
       ·rw[h3] at h8;cases h8
       ·rw[h3] at h8;cases h8;refine .inr ⟨b,x,cap,h3,h4,h5,h6,h7,fun j p hj=>?_,h10 rfl⟩;rw[List.getElem?_take] at hj;split at hj
        ·obtain⟨u,hu,h11,ht⟩:=h9 j p hj;exact⟨u,hu,h11,ht.step (Cq.refl _ _) (fun b _ hb=>Q5 hb)⟩
        ·cases hj
    ·exact frz hk
   ·obtain⟨z,n,c,hk,hp⟩:=Hz hk;have hpF:RP p:=by rcases hp with e|⟨e,_⟩<;>(rw[e];trivial)
    cases z<;>simp only[cond_true,cond_false] at hk
    ·refine⟨_,[],none,hk,.inl trivial,hpF,by simp,by simp,fun fz h1 h2 v hc=>?_⟩;exact Nu trivial ((BP hp hc).step (Cq.refl _ _) (fun b _ hb=>Q5 hb))
    ·refine⟨_,[],none,hk,.inr ⟨_,_,_,rfl⟩,hpF,by simp,by simp,fun fz h1 h2 v hc=>.inl ⟨rfl,rfl,rfl,none,?_⟩⟩;have:=BP hp hc;cases this;rfl
 |int k=>exact tree (by simp) hk
 |bool=>exact tree (by simp) hk
 |str=>exact tree (by simp) hk
 |any=>exact tree (by simp) hk
theorem Zj(h:Df N w0 X0 Y β s a w){mv:Bool}:∀{ts:List CT}{ps:Ad}{K:Ad->Bz->Bz->Option R},JI mv s.hp ts ps K=some r ->
  ∃cs m x,∃q:Nat->Option Nat,K cs m x=some r/\cs.length=ts.length/\ps.length=ts.length/\(∀c∈cs,isA c)/\(∀p∈ps,RP p)/\(∀id∈m,∃f cc,s.hp id=some (.ar f cc))/\(∀id∈x,∃cc,s.hp id=some (.ar false cc)) /\
   (∀j id,q j=some id->id∈x)/\(Em x=true->∀j j' id,q j=some id->q j'=some id->j=j') /\
   ∀fz:Bz,(∀id∈m,id∈fz)->(∀id∈fz,∃f cc,s.hp id=some (.ar f cc))->∀vs,Be (Cd w (Dt s.hp β Y) β) ps vs->∀(own:Bt) j0,(∀j,own (j0+j)=(q j).bind β)->Fs w (Dt (Af s.hp fz) β Y) own j0 cs vs
 |[],[],K,hk=>⟨[],[],[],fun _=>none,hk,rfl,rfl,by simp,by simp,by simp,by simp,by simp,by simp,fun fz _ _ vs hv own j0 _=>by
   cases vs with
   |nil=>trivial
   |cons v vs=>exact hv.elim⟩
 |[],_::_,K,hk=>by cases hk
 |_::_,[],K,hk=>by cases hk
 |t::ts,p::ps,K,hk=>by
  unfold JI at hk;obtain⟨c,m,q,hk,hA,hF,hm,hq,hv⟩:=Ard h hk;obtain⟨cs,ms,xs,qs,hk,hl,Nj,hAs,hFs,OK,RI,hqx,hqi,Wx⟩:=Zj h hk;refine⟨c::cs,m++ms,q.toList++xs,fun j=>match j with|0=>q|j+1=>qs j,hk,by simp[hl],by simp[Nj],?_,?_,?_,?_,?_,?_,?_⟩
  ·intro x hx;rcases List.mem_cons.1 hx with rfl|hx
   ·exact hA
   ·exact hAs x hx
  ·intro x hx;rcases List.mem_cons.1 hx with rfl|hx
   ·exact hF
   ·exact hFs x hx
  ·intro i hi;rcases Bn.1 hi with hi|hi
   ·exact hm i hi
   ·exact OK i hi
  ·intro i hi;rcases Bn.1 hi with hi|hi
   ·exact hq i (by simpa using hi)
   ·exact RI i hi
  ·intro j id hj;cases j with
   |zero=>exact Bn.2 (.inl (by simpa using hj))
   |succ j=>exact Bn.2 (.inr (hqx j id hj))
  ·intro hn j j' id hj Xj;obtain⟨_,h2,h3⟩:=Kq hn;cases j with
   |zero=>
    cases j' with
    |zero=>rfl
    |succ j'=>exact absurd (hqx j' id Xj) (h3 id (by simpa using hj))
   |succ j=>
    cases j' with
    |zero=>exact absurd (hqx j id hj) (h3 id (by simpa using Xj))
    |succ j'=>rw[hqi h2 j j' id hj Xj]
  ·intro fz h1 h2 vs h3 own j0 Iq;cases vs with
   |nil=>exact h3.elim
   |cons v vs=>
    refine⟨?_,Wx fz (fun i hi=>h1 i (by simp[hi])) h2 vs h3.2 own (j0+1) fun j=>?_⟩
    ·have:=Iq 0;rw[YI] at this;rw[this];exact hv fz (fun i hi=>h1 i (by simp[hi])) h2 v h3.1
    ·have:=Iq (j+1);rw[show j0+1+j=j0+(j+1) by omega];exact this
def LOk(hp:Nat->Option B2)(q:Option (Nat × Nat))(p:PV)(x:H8):Prop:=
 match x with
 |.var id off cts ws=>p=.pbox ws/\q=some (id,off)/\cts.length=ws.length/\∃c,hp id=some (.st c)/\off+ws.length<=c.length
 |.row id=>(∃ps,p=.tup ps)/\q=some (id,0)/\∃c,hp id=some (.ar false c)
 |.none=>(∃ps,p=.tup ps)/\q=none
theorem Ai1{hp:Nat->Option B2}{q:Option (Nat × Nat)}{p:PV}{x:H8}(h:LOk hp q p x):GT p=true:=by
 cases x with
 |var id off cts ws=>rw[h.1];rfl
 |row id=>obtain⟨⟨_,e⟩,_⟩:=h;rw[e];rfl
 |none=>obtain⟨⟨_,e⟩,_⟩:=h;rw[e];rfl
def Tr(hp:Nat->Option B2)(src:Nat->Nat->Option (Nat × Nat)):Nat->Ad->List H8->Prop
 |_,[],l=>l=[]
 |i,p::ps,l=>(GT p=false/\src i 0=none/\Tr hp src (i+1) ps l)\/∃x l',l=x::l'/\LOk hp (src i 0) p x/\Tr hp src (i+1) ps l'
theorem Ae2(h:Df N w0 X0 Y β s a w){C:Gw}{f:FuncId}{i:Nat}{t:TypeId}{x:Operand}{K:PV->Bz->Bz->List H8->Option R}(hk:HA C P f s.hp i t (Ck s.tm x) K=some r):
  ∃v m y l,∃src:Nat->Option (Nat × Nat),K v m y l=some r/\(∀id∈m,∃f cc,s.hp id=some (.ar f cc))/\(∀id∈y,∃cc,s.hp id=some (.ar false cc)) /\
   (∀j id off,src (j+1)=some (id,off)->off=0/\id∈y)/\(Em y=true->∀j j' id off off',src (j+1)=some (id,off)->src (j'+1)=some (id,off')->j=j') /\
   ((l=[]/\GT v=false/\src 0=none)\/∃x',l=[x']/\LOk s.hp (src 0) v x') /\
   ∀fz:Bz,(∀id∈m,id∈fz)->(∀id∈fz,∃f cc,s.hp id=some (.ar f cc))->∀bt:Bt,(∀j,bt j=(src j).bind (Ii β))->Abz w (Dt (Af s.hp fz) β Y) bt v (a.eval x):=by
 have hx:=Dj h x
 have KR:∀(q0:Option (Nat × Nat)) (q:Nat->Option Nat),∃src:Nat->Option (Nat × Nat),src 0=q0/\(∀j,src (j+1)=(q j).map fun id=>(id,0)):=
  fun q0 q=>⟨fun j=>match j with|0=>q0|j+1=>(q j).map fun id=>(id,0),rfl,fun _=>rfl⟩
 have Ac9:∀{src:Nat->Option (Nat × Nat)} {q:Nat->Option Nat} {y:Bz},(∀j,src (j+1)=(q j).map fun id=>(id,0))->(∀j id,q j=some id->id∈y)->∀j id off,src (j+1)=some (id,off)->off=0/\id∈y:=by
  intro src q y h1 h2 j id off hj;rw[h1] at hj;cases hq:q j with
  |none=>rw[hq] at hj;cases hj
  |some k=>rw[hq] at hj;cases hj;exact⟨rfl,h2 j _ hq⟩
 have Ac1:∀{src:Nat->Option (Nat × Nat)} {q:Nat->Option Nat} {y:Bz},(∀j,src (j+1)=(q j).map fun id=>(id,0))->(Em y=true->∀j j' id,q j=some id->q j'=some id->j=j') ->
   Em y=true->∀j j' id off off',src (j+1)=some (id,off)->src (j'+1)=some (id,off')->j=j':=by
  intro src q y h1 h2 hn j j' id off off' hj Xj;rw[h1] at hj Xj;cases hq:q j with
  |none=>rw[hq] at hj;cases hj
  |some k=>
   cases Gv:q j' with
   |none=>rw[Gv] at Xj;cases Xj
   |some k'=>
    rw[hq] at hj;rw[Gv] at Xj;cases hj;cases Xj;exact h2 hn j j' _ hq Gv
 have Iq:∀{src:Nat->Option (Nat × Nat)} {q:Nat->Option Nat} {bt:Bt},(∀j,src (j+1)=(q j).map fun id=>(id,0))->(∀j,bt j=(src j).bind (Ii β))->∀j,bt (1+j)=(q j).bind β:=by
  intro src q bt h1 h2 j;rw[Nat.add_comm,h2,h1];cases q j with
  |none=>rfl
  |some id=>exact Aen β id
 unfold HA at hk;split at hk
 ·rename_i e he;split at hk
  ·rename_i id off ep;rw[ep] at hx;split at hk
   ·rename_i c h0;obtain⟨hb,hk⟩:=Am hk;simp only[Er,Xi] at hb;obtain⟨cs,m,y,q,hk,hl,Nj,hA,hF,hm,hy,KX,Oc,hv⟩:=Zj h hk;obtain⟨src,hs0,hs⟩:=KR (some (id,off)) q;obtain⟨b,ob,hβ,D4⟩:=hx;refine⟨_,m,y,_,src,hk,hm,hy,Ac9 hs KX,Ac1 hs Oc,.inr ⟨_,rfl,rfl,hs0,hl.symm,c,h0,by omega⟩,fun fz h1 h2 bt DD=>?_⟩;obtain⟨b',o',Fv,Ir,JX⟩:=h.box id _ h0;rw[hβ] at Fv;cases Fv;have Eb:((c.drop off).take (J7 P e).length).length=(J7 P e).length:=by simp;omega
    have Ars:∀j p,((c.drop off).take (J7 P e).length)[j]?=some p->c[off+j]?=some p/\j<(J7 P e).length:=by
     intro j p hj;rw[List.getElem?_take] at hj;split at hj
     ·rw[List.getElem?_drop] at hj;exact⟨hj,by assumption⟩
     ·cases hj
    refine⟨b,ob+off,by rw[DD,hs0];simp[Ii,hβ],D4,hA,((c.drop off).take (J7 P e).length).mapIdx (fun j _=>(w.cell? ⟨b,ob+off+j,none⟩).getD undef),hv fz h1 h2 _ ?_ bt 1 (Iq hs DD),?_,fun k hk=>?_⟩
    ·refine Be.of_at (by simp) fun j p v hp hv=>?_;obtain⟨hc,_⟩:=Ars j p hp;obtain⟨u,hu,hcr⟩:=Ir _ _ hc;rw[List.getElem?_mapIdx,hp,Option.map_some,Pi,hu] at hv;simp at hv;subst hv;exact hcr
    ·intro k v hkv;rw[List.getElem?_mapIdx] at hkv;cases hp:((c.drop off).take (J7 P e).length)[k]? with
     |none=>rw[hp] at hkv;cases hkv
     |some p=>
      obtain⟨hc,_⟩:=Ars k p hp;obtain⟨u,hu,hcr⟩:=Ir _ _ hc;rw[hp,Option.map_some,Pi,hu] at hkv;simp at hkv;subst hkv;rw[Pi];exact hu
    ·rw[Pi];exact JX _ (by omega)
   ·cases hk
  ·cases hk
 ·cases hln:C.lnd f i<;>rw[hln] at hk<;>simp only[cond_true,cond_false] at hk
  ·cases Hc:Cj P t<;>rw[Hc] at hk<;>simp only[cond_true,cond_false] at hk
   ·obtain⟨cs,m,y,q,hk,hl,Nj,hA,hF,hm,hy,KX,Oc,hv⟩:=Zj h hk;obtain⟨c,t',rfl,hk⟩:=Bf hk;obtain⟨rfl,hk⟩:=Eg hk;obtain⟨src,hs0,hs⟩:=KR none q;have hAc:=hA c (by simp);refine⟨c,m,y,_,src,hk,hm,hy,Ac9 hs KX,Ac1 hs Oc,.inl ⟨rfl,Avp hAc,hs0⟩,fun fz h1 h2 bt DD=>?_⟩;have hFx:=hF _ (Th _)
    have hxc:Cd w (Dt s.hp β Y) β (Ck s.tm x) (a.eval x):=by
     cases hp:Ck s.tm x<;>rw[hp] at hx hFx<;>first|exact hx|exact hFx.elim
    have hoc:=(hv fz h1 h2 [a.eval x] ⟨hxc,trivial⟩ bt 1 (Iq hs DD)).1;rcases hAc with hT|⟨es,n,cc,rfl⟩
    ·cases c<;>first|exact⟨.inl trivial,hoc⟩|exact hT.elim
    ·exact⟨.inr ⟨_,_,_,rfl⟩,hoc⟩
   ·obtain⟨ps,ep,hk⟩:=Iw hk;rw[ep] at hx;obtain⟨vs,D4,h3⟩:=hx;obtain⟨cs,m,y,q,hk,hl,Nj,hA,hF,hm,hy,KX,Oc,hv⟩:=Zj h hk;obtain⟨src,hs0,hs⟩:=KR none q;refine⟨_,m,y,_,src,hk,hm,hy,Ac9 hs KX,Ac1 hs Oc,.inl ⟨rfl,rfl,hs0⟩,fun fz h1 h2 bt DD=>?_⟩;exact⟨vs,D4,hA,hv fz h1 h2 vs h3 bt 1 (Iq hs DD)⟩
  ·obtain⟨e,he,hk⟩:=Cs hk;unfold An6 at hk;split at hk
   ·rename_i id es' off n ep;rw[ep] at hx;split at hk
    ·rename_i c h0;obtain⟨hb,Fu⟩:=Am hk;simp only[Er] at hb;have he:=C6 hb.1;have hof:=C6 hb.2;subst hof;obtain⟨src,hs0,hs⟩:=KR (some (id,0)) (fun _=>none);refine⟨_,[],[],_,src,Fu,by simp,by simp,Ac9 hs (by simp),Ac1 hs (by simp),.inr ⟨_,rfl,⟨_,rfl⟩,hs0,c,h0⟩,fun fz h1 h2 bt DD=>⟨_,_,_,rfl,?_⟩⟩;have XR:bt 0=β id:=by rw[DD,hs0];exact Aen β id
     rw[XR];rcases hx with⟨h3,_,h4,h5⟩|⟨b,ob,y,cap,h3,h4,hy,h5,h6,h7⟩
     ·refine .inl ⟨h3,h4,?_,h5⟩;rcases h.box id _ h0 with⟨_,h8⟩|⟨_,_,h8,_⟩
      ·exact h8
      ·rw[h3] at h8;cases h8
     ·have hy:y=ob:=by rcases hy with e|⟨_,e⟩<;>omega
      subst hy;rcases h.box id _ h0 with⟨h8,_⟩|⟨b',o',h8,h9,h10,_⟩
      ·rw[h3] at h8;cases h8
      ·rw[h3] at h8;cases h8;exact .inr ⟨b,y,cap,h3,h4,h5,by rw[<-he];exact h6,h7,h9.weak (fun b _ hb=>Q5 hb),h10 rfl⟩
    ·cases hk
   ·obtain⟨z,n,c,hk,hp⟩:=Hz hk;obtain⟨hz,hk⟩:=Am hk;subst hz;obtain⟨src,hs0,hs⟩:=KR none (fun _=>none)
    have hu:a.eval x=.slice none 0 0:=by
     have hF:Cd w (Dt s.hp β Y) β (Ck s.tm x) (a.eval x):=by rcases hp with e|⟨e,_⟩<;>rw[e] at hx ⊢ <;> exact hx
     have:=BP hp hF;generalize a.eval x=u at this;cases this;rfl
    refine⟨_,[],[],_,src,hk,by simp,by simp,Ac9 hs (by simp),Ac1 hs (by simp),.inr ⟨_,rfl,⟨_,rfl⟩,hs0⟩,fun fz h1 h2 bt DD=>⟨_,_,_,rfl,.inl ⟨by rw[DD,hs0];rfl,rfl,rfl,none,hu⟩⟩⟩
structure Bc3(i0 n:Nat)(src:Nat->Nat->Option (Nat × Nat))(ids x:Bz):Prop where
 dom:∀i j q,src i j=some q->i0<=i/\i<i0+n
 lent:∀i id off,src i 0=some (id,off)->id∈ids
 mvd:∀i j id off,src i (j+1)=some (id,off)->off=0/\id∈x
 inj0:Em ids=true->∀i i' id off off',src i 0=some (id,off)->src i' 0=some (id,off')->i=i'
 inj1:Em x=true->∀i i' j j' id off off',src i (j+1)=some (id,off)->src i' (j'+1)=some (id,off')->i=i'/\j=j'
theorem BO{hp:Nat->Option B2}{src src':Nat->Nat->Option (Nat × Nat)}:∀{ps:Ad}{i:Nat}{l:List H8},(∀k,i<=k->src' k=src k)->Tr hp src i ps l->Tr hp src' i ps l
 |[],_,_,_,h=>h
 |p::ps,i,l,hs,h=>by
  rcases h with⟨h1,h2,h3⟩|⟨x,l',rfl,h2,h3⟩
  ·exact .inl ⟨h1,by rw[hs i (Cn _)];exact h2,BO (fun k hk=>hs k (by omega)) h3⟩
  ·exact .inr ⟨x,l',rfl,by rw[hs i (Cn _)];exact h2,BO (fun k hk=>hs k (by omega)) h3⟩
theorem JN{bt bt':GQ}:∀{ps:Ad}{us:List Value}{i:Nat},(∀k,i<=k->∀j,bt' k j=bt k j)->N9 w A bt i ps us->N9 w A bt' i ps us
 |[],[],_,_,_=>trivial
 |[],_::_,_,_,h=>h.elim
 |_::_,[],_,_,h=>h.elim
 |_::_,_::_,i,hb,h=>⟨by rw[show bt' i=bt i from funext (hb i (Cn _))];exact h.1,JN (fun k hk=>hb k (by omega)) h.2⟩
theorem TO(h:Df N w0 X0 Y β s a w){C:Gw}{f:FuncId}:∀{ts:List TypeId}{xs:List Operand}{i:Nat}{K:Ad->Bz->Bz->List H8->Option R},TA C P f s.hp i ts (xs.map (Ck s.tm)) K=some r ->
  ∃vs m y l,∃src:Nat->Nat->Option (Nat × Nat),K vs m y l=some r/\(∀id∈m,∃f cc,s.hp id=some (.ar f cc))/\(∀id∈y,∃cc,s.hp id=some (.ar false cc)) /\
   Bc3 i xs.length src (l.flatMap H8.ids) y/\Tr s.hp src i vs l /\
   ∀fz:Bz,(∀id∈m,id∈fz)->(∀id∈fz,∃f cc,s.hp id=some (.ar f cc))->∀bt:GQ,(∀i j,bt i j=(src i j).bind (Ii β))->N9 w (Dt (Af s.hp fz) β Y) bt i vs (xs.map a.eval)
 |[],[],i,K,hk=>⟨[],[],[],[],fun _ _=>none,hk,by simp,by simp,⟨by simp,by simp,by simp,by simp,by simp⟩,rfl,fun _ _ _ _ _=>trivial⟩
 |[],_::_,i,K,hk=>by cases hk
 |_::_,[],i,K,hk=>by cases hk
 |t::ts,x::xs,i,K,hk=>by
  simp only[U7] at hk;unfold TA at hk;obtain⟨v,m,y,l,src,hk,hm,hy,hs1,JM,hl,hv⟩:=Ae2 h hk;obtain⟨vs,ms,ys,ls,srcs,hk,OK,hys,hS,hL,Wx⟩:=TO h hk;have KR:∃sr:Nat->Nat->Option (Nat × Nat),sr i=src/\∀k,k≠i->sr k=srcs k:=⟨fun k=>if k=i then src else srcs k,by simp,fun k hk=>by simp[hk]⟩
  obtain⟨sr,hsi,hso⟩:=KR
  have RW:∀id off,src 0=some (id,off)->id∈l.flatMap H8.ids:=by
   intro id off e;rcases hl with⟨_,_,h3⟩|⟨x',rfl,h3⟩
   ·rw[h3] at e;cases e
   ·cases x' with
    |var id' off' cts ws=>rw[h3.2.1] at e;cases e;simp[H8.ids]
    |row id'=>rw[h3.2.1] at e;cases e;simp[H8.ids]
    |none=>rw[h3.2] at e;cases e
  refine⟨v::vs,m++ms,y++ys,l++ls,sr,hk,?_,?_,⟨?_,?_,?_,?_,?_⟩,?_,fun fz h1 h2 bt DD=>⟨?_,?_⟩⟩
  ·intro i hi;rcases Bn.1 hi with hi|hi
   ·exact hm i hi
   ·exact OK i hi
  ·intro i hi;rcases Bn.1 hi with hi|hi
   ·exact hy i hi
   ·exact hys i hi
  ·intro k j q hq;simp only[On];by_cases e:k=i
   ·subst e;omega
   ·rw[hso k e] at hq;have:=hS.dom k j q hq;omega
  ·intro k id off hq;rw[List.flatMap_append];by_cases e:k=i
   ·subst e;rw[hsi] at hq;exact Bn.2 (.inl (RW id off hq))
   ·rw[hso k e] at hq;exact Bn.2 (.inr (hS.lent k id off hq))
  ·intro k j id off hq;by_cases e:k=i
   ·subst e;rw[hsi] at hq;exact⟨(hs1 j id off hq).1,Bn.2 (.inl (hs1 j id off hq).2)⟩
   ·rw[hso k e] at hq;exact⟨(hS.mvd k j id off hq).1,Bn.2 (.inr (hS.mvd k j id off hq).2)⟩
  ·intro hn k k' id off off' hq Gv;rw[List.flatMap_append] at hn;obtain⟨_,h4,h5⟩:=Kq hn;by_cases e:k=i
   ·by_cases e':k'=i
    ·omega
    ·rw[hso k' e'] at Gv;subst e;rw[hsi] at hq;exact absurd (hS.lent k' id off' Gv) (h5 id (RW id off hq))
   ·rw[hso k e] at hq;by_cases e':k'=i
    ·subst e';rw[hsi] at Gv;exact absurd (hS.lent k id off hq) (h5 id (RW id off' Gv))
    ·rw[hso k' e'] at Gv;exact hS.inj0 h4 k k' id off off' hq Gv
  ·intro hn k k' j j' id off off' hq Gv;obtain⟨h3,h4,h5⟩:=Kq hn;by_cases e:k=i
   ·by_cases e':k'=i
    ·subst e;subst e';rw[hsi] at hq Gv;exact⟨rfl,JM h3 j j' id off off' hq Gv⟩
    ·rw[hso k' e'] at Gv;subst e;rw[hsi] at hq;exact absurd (hS.mvd k' j' id off' Gv).2 (h5 id (hs1 j id off hq).2)
   ·rw[hso k e] at hq;by_cases e':k'=i
    ·subst e';rw[hsi] at Gv;exact absurd (hS.mvd k j id off hq).2 (h5 id (hs1 j' id off' Gv).2)
    ·rw[hso k' e'] at Gv;exact hS.inj1 h4 k k' j j' id off off' hq Gv
  ·have AW:Tr s.hp sr (i+1) vs ls:=BO (fun k hk=>hso k (by omega)) hL;rcases hl with⟨rfl,hnp,h3⟩|⟨x',rfl,h3⟩
   ·exact .inl ⟨hnp,by rw[hsi];exact h3,AW⟩
   ·exact .inr ⟨x',ls,rfl,by rw[hsi];exact h3,AW⟩
  ·exact hv fz (fun i hi=>h1 i (by simp[hi])) h2 (bt i) (fun j=>by rw[DD,hsi])
  ·refine Wx fz (fun i hi=>h1 i (by simp[hi])) h2 (fun k j=>(srcs k j).bind (Ii β)) (fun _ _=>rfl) |> JN fun k hk j=>?_
   rw[DD,hso k (by omega)]
end
open Go.RowKit
section
variable {R:Type}{r:R}{P:Program}{N:Nat}{w0:World}{X0:Jw}{Y:Nat->Prop}{β β':Bt}{s:St}{a:Act}{w w':World}{o:Oper}{A:Nat->Prop}
theorem Apb{p:PV}{u:Value}(h:At w A p u):Cd w A β p u:=by have h0:=h;cases h<;>exact h0
theorem Arb{t:Nat}{ct:CT}{was p:PV}{K:Nat->PV->List (Nat × B2)->Option R}(hk:Alt N t ct was p K=some r):
  (∃c,K t c []=some r/\BG c/\∀w A q u,Ht w A q p u->At w A c u)\/∃es n cc,p=.own es n cc/\K (t+1) (.view (nid N t) es 0 n) [(nid N t,.ar false cc)]=some r:=by
 have tree:∀t',(IJ t' p fun c=>K t c [])=some r->∃c,K t c []=some r/\BG c/\∀w A q u,Ht w A q p u->At w A c u:=by
  intro t' hk;obtain⟨c,hk,hT,NV,hv⟩:=Qk hk;refine⟨c,hk,hT,fun w A q u h=>(hv w A (fun _=>none) u ?_).1⟩;cases p<;>first|exact h|exact NV.elim
 unfold Alt at hk;cases ct with
 |sl es=>
  dsimp only at hk;split at hk
  ·unfold Lg at hk;split at hk
   ·rename_i es' n c;cases hb:Nat.beq es' es<;>rw[hb] at hk
    ·cases hk
    ·have:=C6 hb;subst this;exact .inr ⟨_,_,_,rfl,hk⟩
   ·cases hk
  ·have h2:(IJ (.sl es) p fun c=>(match c with | .lst _ es n c=>K t (.lst false es n c) []|_=>none))=some r:=hk;obtain⟨c,hk,hT,NV,hv⟩:=Qk h2;split at hk
   ·refine .inl ⟨_,hk,hT,fun w A q u h=>At.unz (hv w A (fun _=>none) u ?_).1⟩;cases p<;>first|exact h|exact NV.elim
   ·cases hk
 |int k=>exact .inl (tree _ hk)
 |bool=>exact .inl (tree _ hk)
 |str=>exact .inl (tree _ hk)
 |any=>exact .inl (tree _ hk)
theorem IH:∀{cts:List CT}{ws ps:Ad}{t:Nat}{K:Nat->Ad->List (Nat × B2)->Option R},UU N t cts ws ps K=some r ->
  ∃t' cs bs,∃qs:List (Nat × Nat),K t' cs bs=some r/\cs.length=ps.length/\ps.length=ws.length/\bs.map (·.1)=qs.map (·.1)/\(∀q∈qs,(∃k,q.1=nid N k)/\q.2<ps.length)/\(∀q∈qs,∀q'∈qs,q.2=q'.2->q.1=q'.1) /\
   (∀i bx,(i,bx)∈bs->∃c,bx=.ar false c)/\(∀c∈cs,∀i∈As c,∃bx,(i,bx)∈bs) /\
   ∀(w:World) (A:Nat->Prop) (own β':Bt) (j0:Nat) (us:List Value),(∀q∈qs,β' q.1=own (j0+q.2))->Fs w A own j0 ps us->Be (Cd w A β') cs us/\∀i bx,(i,bx)∈bs->V2 w A β' i bx
 |[],[],ps,t,K,hk=>by
  obtain⟨rfl,hk⟩:=Eg hk;refine⟨t,[],[],[],hk,rfl,rfl,rfl,by simp,by simp,by simp,by simp,fun w A own β' j0 us _ h=>⟨?_,by simp⟩⟩;cases us with
  |nil=>trivial
  |cons u us=>exact h.elim
 |[],_::_,_,_,_,hk=>by cases hk
 |_::_,[],_,_,_,hk=>by cases hk
 |ct::cts,x::ws,ps,t,K,hk=>by
  unfold UU at hk;obtain⟨p,ps',LH,Ez⟩:=Bf hk;subst LH;rcases Arb Ez with⟨c,Fu,hT,hv⟩|⟨es,n,cc,rfl,Fu⟩
  ·obtain⟨t',cs,bs,qs,Pa,hl,Nj,hb,KX,Oc,Fv,Ir,Wx⟩:=IH Fu;refine⟨t',c::cs,bs,qs.map (fun q=>(q.1,q.2+1)),Pa,by simp[hl],by simp[Nj],by rw[hb];simp,?_,?_,Fv,?_,fun w A own β' j0 us hβ ho=>?_⟩
   ·intro q hq;obtain⟨q0,BK,rfl⟩:=List.mem_map.1 hq;exact⟨(KX q0 BK).1,by have:=(KX q0 BK).2;simp only[On];omega⟩
   ·intro q hq q' Gv e;obtain⟨q0,BK,rfl⟩:=List.mem_map.1 hq;obtain⟨q1,Lo,rfl⟩:=List.mem_map.1 Gv;exact Oc q0 BK q1 Lo (by simp only at e;omega)
   ·intro y hy i hi;rcases List.mem_cons.1 hy with rfl|hy
    ·rw[Jh hT] at hi;cases hi
    ·exact Ir y hy i hi
   ·cases us with
    |nil=>exact ho.elim
    |cons u us=>
     obtain⟨h1,h2⟩:=Wx w A own β' (j0+1) us (fun q hq=>by rw[hβ _ (List.mem_map_of_mem hq)];congr 1;simp only;omega) ho.2
     exact⟨⟨Apb (hv w A _ u ho.1),h1⟩,h2⟩
  ·obtain⟨t',cs,bs,qs,Pa,hl,Nj,hb,KX,Oc,Fv,Ir,Wx⟩:=IH Fu;refine⟨t',_::cs,(nid N t,.ar false cc)::bs,(nid N t,0)::qs.map (fun q=>(q.1,q.2+1)),Pa,by simp[hl],by simp[Nj],by simp only[U7,hb];simp,?_,?_,?_,?_,fun w A own β' j0 us hβ ho=>?_⟩
   ·intro q hq;rcases List.mem_cons.1 hq with rfl|hq
    ·exact⟨⟨t,rfl⟩,by simp⟩
    ·obtain⟨q0,BK,rfl⟩:=List.mem_map.1 hq;exact⟨(KX q0 BK).1,by have:=(KX q0 BK).2;simp only[On];omega⟩
   ·intro q hq q' Gv e;rcases List.mem_cons.1 hq with rfl|hq
    ·rcases List.mem_cons.1 Gv with rfl|Gv
     ·rfl
     ·obtain⟨q0,BK,rfl⟩:=List.mem_map.1 Gv;simp only at e;omega
    ·obtain⟨q0,BK,rfl⟩:=List.mem_map.1 hq;rcases List.mem_cons.1 Gv with rfl|Gv
     ·simp only at e;omega
     ·obtain⟨q1,Lo,rfl⟩:=List.mem_map.1 Gv;exact Oc q0 BK q1 Lo (by simp only at e;omega)
   ·intro i bx hm;rcases List.mem_cons.1 hm with e|hm
    ·cases e;exact⟨cc,rfl⟩
    ·exact Fv i bx hm
   ·intro y hy i hi;rcases List.mem_cons.1 hy with rfl|hy
    ·simp only[As,Sc] at hi;subst hi;exact⟨_,CG⟩
    ·obtain⟨bx,O8⟩:=Ir y hy i hi;exact⟨bx,Uf _ O8⟩
   ·cases us with
    |nil=>exact ho.elim
    |cons u us=>
     obtain⟨h1,h2⟩:=Wx w A own β' (j0+1) us (fun q hq=>by rw[hβ _ (Uf _ (List.mem_map_of_mem hq))];congr 1;simp only;omega) ho.2
     have h0:=hβ (nid N t,0) CG;simp only[YI] at h0;refine⟨⟨?_,h1⟩,fun i bx hm=>?_⟩
     ·rcases ho.1 with⟨h3,rfl,_,h5⟩|⟨b,ob,cap,h3,h4,h5,h6,h7,_⟩
      ·exact .inl ⟨h0.trans h3,rfl,rfl,h5⟩
      ·exact .inr ⟨b,ob,ob,cap,h0.trans h3,h4,.inl rfl,h5,h6,h7⟩
     ·rcases List.mem_cons.1 hm with e|hm
      ·cases e;exact DX ho.1 h0
      ·exact h2 i bx hm
def Aft(hp Dr:Nat->Option B2)(bs:List (Nat × B2))(x:H8):Prop:=
 match x with
 |.var id off _ ws=>∃c cs,hp id=some (.st c)/\Dr id=some (.st (B1 c cs off))/\cs.length=ws.length/\off+cs.length<=c.length/\∀p∈cs,∀i∈As p,∃bx,(i,bx)∈bs
 |.row id=>∃c cs,hp id=some (.ar false c)/\Dr id=some (.ar false cs)
 |.none=>True
def Aq0(β β':Bt)(w':World)(A:Nat->Prop)(hp Dr:Nat->Option B2)(x:H8):Prop:=
 match x with
 |.var id off _ ws=>∃c cs,hp id=some (.st c)/\Dr id=some (.st (B1 c cs off))/\cs.length=ws.length/\off+cs.length<=c.length /\
   ∀b o,β id=some (b,o)->(∀(j:Nat) p,cs[j]?=some p->∃v,w'.cell? ⟨b,o+off+j,none⟩=some v/\Cd w' A β' p v)/\∀j,j<cs.length->w'.frozen? ⟨b,o+off+j,none⟩=false
 |.row id=>∃cs,Dr id=some (.ar false cs)/\((β id=none/\cs=[])\/∃b o,β id=some (b,o)/\RdT w' A ⟨b,o,none⟩ cs/\∀j,o<=j->j<bsz w' b->w'.frozen? ⟨b,j,none⟩=false)
 |.none=>True
theorem FA{hp E1 Dr:Nat->Option B2}{bs bs1:List (Nat × B2)}{x:H8}(h1:∀i∈x.ids,E1 i=hp i)(hb:∀q∈bs,q∈bs1)(h:Aft E1 Dr bs x):Aft hp Dr bs1 x:=by
 cases x with
 |var id off cts ws=>
  obtain⟨c,cs,h2,h3,h4,h5,h6⟩:=h;refine⟨c,cs,by rw[<-h1 id (by simp[H8.ids])];exact h2,h3,h4,h5,fun p hp i hi=>?_⟩
  obtain⟨bx,O8⟩:=h6 p hp i hi;exact⟨bx,hb _ O8⟩
 |row id=>
  obtain⟨c,cs,h2,h3⟩:=h;exact⟨c,cs,by rw[<-h1 id (by simp[H8.ids])];exact h2,h3⟩
 |none=>trivial
theorem JC{hp E1 Dr:Nat->Option B2}{x:H8}(h1:∀i∈x.ids,E1 i=hp i)(h:Aq0 β β' w' A E1 Dr x):Aq0 β β' w' A hp Dr x:=by
 cases x with
 |var id off cts ws=>
  obtain⟨c,cs,h2,h3⟩:=h;exact⟨c,cs,by rw[<-h1 id (by simp[H8.ids])];exact h2,h3⟩
 |row id=>exact h
 |none=>trivial
theorem Ak5{hp E1:Nat->Option B2}{q:Option (Nat × Nat)}{p:PV}{x:H8}(h1:∀i∈x.ids,E1 i=hp i)(h:LOk hp q p x):LOk E1 q p x:=by
 cases x with
 |var id off cts ws'=>
  obtain⟨h2,h3,h5,c,h6,h7⟩:=h;exact⟨h2,h3,h5,c,by rw[h1 id (by simp[H8.ids])];exact h6,h7⟩
 |row id=>
  obtain⟨h2,h3,c,h4⟩:=h;exact⟨h2,h3,c,by rw[h1 id (by simp[H8.ids])];exact h4⟩
 |none=>exact h
theorem FJ{hp E1:Nat->Option B2}{src:Nat->Nat->Option (Nat × Nat)}:∀{ps:Ad}{i:Nat}{l:List H8},(∀i∈l.flatMap H8.ids,E1 i=hp i)->Tr hp src i ps l->Tr E1 src i ps l
 |[],_,_,_,h=>h
 |p::ps,i,l,hs,h=>by
  rcases h with⟨h1,h2,h3⟩|⟨x,l',rfl,h2,h3⟩
  ·exact .inl ⟨h1,h2,FJ hs h3⟩
  ·exact .inr ⟨x,l',rfl,Ak5 (fun k hk=>hs k (by simp only[Kb,Bn];exact .inl hk)) h2,FJ (fun k hk=>hs k (by simp only[Kb,Bn];exact .inr hk)) h3⟩
theorem Agn{own:Bt}{bt:GQ}{j i:Nat}{p:PV}{zs:Ad}{r:List Ad}(hp:GT p=false)(h:AV w A own bt j i (p::zs) r):AV w A own bt j (i+1) zs r:=by cases p<;>first|exact h|cases hp
theorem Xo{src:Nat->Nat->Option (Nat × Nat)}{β:Bt}:∀{zs:Ad}{l:List H8}{ro:List Ad} {i j t:Nat}{hp:Nat->Option B2}{K:(Nat->Option B2)->List (Nat × B2)->Option R},
  CZ N t l ro hp K=some r->Tr hp src i zs l->Em (l.flatMap H8.ids)=true ->
  ∃Dr bs,∃qs:List (Nat × Nat),K Dr bs=some r/\bs.map (·.1)=qs.map (·.1)/\(∀q∈qs,(∃k,q.1=nid N k)/\j<=q.2)/\(∀q∈qs,∀q'∈qs,q.2=q'.2->q.1=q'.1)/\(∀i bx,(i,bx)∈bs->∃c,bx=.ar false c) /\
   (∀i,i ∉ l.flatMap H8.ids->Dr i=hp i)/\(∀x∈l,Aft hp Dr bs x) /\
   ∀(w':World) (A:Nat->Prop) (own β':Bt) (bt:GQ),(∀q∈qs,β' q.1=own q.2)->(∀i,bt i 0=(src i 0).bind (Ii β))->AV w' A own bt j i zs ro ->
    (∀i bx,(i,bx)∈bs->V2 w' A β' i bx)/\∀x∈l,Aq0 β β' w' A hp Dr x
 |[],l,ro,i,j,t,hp,K,hk,hL,hn=>by
  have hL:l=[]:=hL;subst hL;unfold CZ at hk;obtain⟨rfl,hk⟩:=Eg hk;exact⟨hp,[],[],hk,rfl,by simp,by simp,by simp,fun _ _=>rfl,by simp,fun w' A own β' bt _ _ _=>⟨by simp,by simp⟩⟩
 |p::zs,l0,ro,i,j,t,hp,K,hk,hL0,hn=>by
  rcases hL0 with⟨U5,_,hL⟩|⟨x,l,rfl,hok,hL⟩
  rotate_left
  ··simp only[Kb] at hn;obtain⟨hn1,hn2,hn3⟩:=Kq hn;cases x with
    |var id off cts ws'=>
     obtain⟨rfl,KR,O7,c,hc,FS⟩:=hok;unfold CZ at hk;obtain⟨cs,ro',hro,Ez⟩:=Bf hk;subst hro;obtain⟨t',cs',bs,qs,Fu,NN,Wd,hb,KX,Oc,Fv,Ir,hv⟩:=IH Ez;rw[hc] at Fu;simp only at Fu;change CZ N t' l ro' (C7 hp id (some (.st (B1 c cs' off)))) (fun Dr bs'=>K Dr (bs++bs'))=some r at Fu;have Afi:id ∉ l.flatMap H8.ids:=hn3 id (by simp[H8.ids]);have hL':Tr (C7 hp id (some (.st (B1 c cs' off)))) src (i+1) zs l:=FJ (fun k hkm=>Ak _ _ (fun e=>Afi (e ▸ hkm))) hL;obtain⟨Dr,bs',qs',Pa,Jp,Lo,Af7,Af8,O4,hsh,YU⟩:=Xo (β:=β) (j:=j+cs.length) Fu hL' hn2;have Ar3:Dr id=some (.st (B1 c cs' off)):=by rw[O4 id Afi,An]
     have QI:∀x∈l,∀k∈x.ids,C7 hp id (some (.st (B1 c cs' off))) k=hp k:=fun x hx k hkm=>Ak _ _ (fun e=>Afi (e ▸ List.mem_flatMap.2 ⟨x,hx,hkm⟩));refine⟨Dr,bs++bs',qs.map (fun q=>(q.1,j+q.2))++qs',Pa,by simp only[List.map_append,hb,Jp];simp,?_,?_,?_,?_,?_,fun w' A own β' bt hβ DD ho=>?_⟩
     ·intro q hq;rcases Bn.1 hq with hq|hq
      ·obtain⟨q0,BK,rfl⟩:=List.mem_map.1 hq;exact⟨(KX q0 BK).1,by simp only;omega⟩
      ·exact⟨(Lo q hq).1,by have:=(Lo q hq).2;omega⟩
     ·intro q hq q' Gv e;rcases Bn.1 hq with hq|hq
      ·obtain⟨q0,BK,rfl⟩:=List.mem_map.1 hq;have:=(KX q0 BK).2;rcases Bn.1 Gv with Gv|Gv
       ·obtain⟨q1,Lo,rfl⟩:=List.mem_map.1 Gv;exact Oc q0 BK q1 Lo (by simp only at e;omega)
       ·have:=(Lo q' Gv).2;simp only at e;omega
      ·have h5:=(Lo q hq).2;rcases Bn.1 Gv with Gv|Gv
       ·obtain⟨q1,A3o,rfl⟩:=List.mem_map.1 Gv;have:=(KX q1 A3o).2;simp only at e;omega
       ·exact Af7 q hq q' Gv e
     ·intro k bx hm;rcases Bn.1 hm with hm|hm
      ·exact Fv k bx hm
      ·exact Af8 k bx hm
     ·intro k hk;simp only[Kb,Bn,not_or] at hk;rw[O4 k hk.2];exact Ak _ _ (by rintro rfl;exact hk.1 (by simp[H8.ids]))
     ·intro x hx;rcases List.mem_cons.1 hx with rfl|hx
      ·refine⟨c,cs',hc,Ar3,by omega,by omega,fun p hp k hk=>?_⟩;obtain⟨bx,O8⟩:=Ir p hp k hk;exact⟨bx,Bn.2 (.inl O8)⟩
      ·exact FA (QI x hx) (fun q hq=>Bn.2 (.inr hq)) (hsh x hx)
     ·obtain⟨⟨b,ob,XR,Eb,vs,hov,hcell,hfr⟩,ho⟩:=ho
      ·obtain⟨h1,h2⟩:=hv w' A own β' j vs (fun q hq=>hβ _ (Bn.2 (.inl (List.mem_map_of_mem hq)))) hov;obtain⟨h3,h4⟩:=YU w' A own β' bt (fun q hq=>hβ q (Bn.2 (.inr hq))) DD ho;refine⟨fun k bx hm=>?_,fun x hx=>?_⟩
       ·rcases Bn.1 hm with hm|hm
        ·exact h2 k bx hm
        ·exact h3 k bx hm
       ·rcases List.mem_cons.1 hx with rfl|hx
        ·refine⟨c,cs',hc,Ar3,by omega,by omega,fun b1 o1 hβ1=>?_⟩;have Ir:=DD i;rw[XR,KR] at Ir;simp only[Option.bind_some,Ii,hβ1,Option.map_some,Option.some.injEq,Prod.mk.injEq] at Ir;obtain⟨rfl,rfl⟩:=Ir;refine⟨fun k p hp=>?_,fun k hk=>hfr k (by omega)⟩;obtain⟨v,hv,hcr⟩:=h1.get hp;exact⟨v,hcell k v hv,hcr⟩
        ·exact JC (QI x hx) (h4 x hx)
    |row id=>
     obtain⟨⟨pz,rfl⟩,KR,c,hc⟩:=hok;unfold CZ at hk;obtain⟨cs,ro',hro,Fu⟩:=Bf hk;subst hro;have Afi:id ∉ l.flatMap H8.ids:=hn3 id (by simp[H8.ids]);have hL':Tr (C7 hp id (some (.ar false cs))) src (i+1) zs l:=FJ (fun k hkm=>Ak _ _ (fun e=>Afi (e ▸ hkm))) hL;obtain⟨Dr,bs',qs',Pa,Jp,Lo,Af7,Af8,O4,hsh,YU⟩:=Xo (β:=β) (j:=j) Fu hL' hn2;have Ar3:Dr id=some (.ar false cs):=by rw[O4 id Afi,An]
     have QI:∀x∈l,∀k∈x.ids,C7 hp id (some (.ar false cs)) k=hp k:=fun x hx k hkm=>Ak _ _ (fun e=>Afi (e ▸ List.mem_flatMap.2 ⟨x,hx,hkm⟩));refine⟨Dr,bs',qs',Pa,Jp,Lo,Af7,Af8,?_,?_,fun w' A own β' bt hβ DD ho=>?_⟩
     ·intro k hk;simp only[Kb,Bn,not_or] at hk;rw[O4 k hk.2];exact Ak _ _ (by rintro rfl;exact hk.1 (by simp[H8.ids]))
     ·intro x hx;rcases List.mem_cons.1 hx with rfl|hx
      ·exact⟨c,cs,hc,Ar3⟩
      ·exact FA (QI x hx) (fun q hq=>hq) (hsh x hx)
     ·obtain⟨Akg,ho⟩:=ho
      ·obtain⟨h3,h4⟩:=YU w' A own β' bt hβ DD ho;refine⟨h3,fun x hx=>?_⟩;rcases List.mem_cons.1 hx with rfl|hx
       ·refine⟨cs,Ar3,?_⟩;have Ir:=DD i;rw[KR] at Ir;simp only[Option.bind_some,Aen] at Ir;rw[Ir] at Akg;exact Akg
       ·exact JC (QI x hx) (h4 x hx)
    |none=>
     obtain⟨⟨pz,rfl⟩,KR⟩:=hok;unfold CZ at hk;obtain⟨cs,ro',hro,Fu⟩:=Bf hk;subst hro;obtain⟨Dr,bs',qs',Pa,Jp,Lo,Af7,Af8,O4,hsh,YU⟩:=Xo (β:=β) (j:=j) Fu hL hn2;refine⟨Dr,bs',qs',Pa,Jp,Lo,Af7,Af8,?_,?_,fun w' A own β' bt hβ DD ho=>?_⟩
     ·intro k hk;simp only[Kb,Bn,not_or] at hk;exact O4 k hk.2
     ·intro x hx;rcases List.mem_cons.1 hx with rfl|hx
      ·trivial
      ·exact hsh x hx
     ·obtain⟨Akg,ho⟩:=ho
      ·obtain⟨h3,h4⟩:=YU w' A own β' bt hβ DD ho;refine⟨h3,fun x hx=>?_⟩;rcases List.mem_cons.1 hx with rfl|hx
       ·trivial
       ·exact h4 x hx
  ·obtain⟨Dr,bs',qs',Pa,Jp,Lo,Af7,Af8,O4,hsh,YU⟩:=Xo (β:=β) (j:=j) hk hL hn;exact⟨Dr,bs',qs',Pa,Jp,Lo,Af7,Af8,O4,hsh,fun w' A own β' bt hβ DD ho=>YU w' A own β' bt hβ DD (Agn U5 ho)⟩
end
open Go.RowKit
theorem Hj(hp:Nat->Option B2)(ids:Bz)(i:Nat):Xx hp ids i=if i∈ids then (hp i).map (fun _=>B2.mv) else hp i:=by
 unfold Xx;by_cases hi:i∈ids
 ·have:ids.any (Nat.beq i)=true:=List.any_eq_true.2 ⟨i,hi,Qi i⟩;rw[this,Cy hi];rfl
 ·have:ids.any (Nat.beq i)=false:=by
   cases hb:ids.any (Nat.beq i)
   ·rfl
   ·obtain⟨j,hj,e⟩:=List.any_eq_true.1 hb;exact absurd (C6 e ▸ hj) hi
  rw[this,Bl hi];rfl
theorem Vd:∀{nw:List (Nat × B2)} {hp:Nat->Option B2},B6 hp nw=true->(nw.map (·.1)).Nodup
 |[],_,_=>List.nodup_nil
 |(i,b)::r,hp,h=>by
  simp only[B6,Er,Option.isNone_iff_eq_none,Bool.not_eq_true'] at h;simp only[U7,List.nodup_cons];refine⟨fun hm=>?_,Vd h.2⟩;obtain⟨q,hq,e⟩:=List.mem_map.1 hm;have:r.any (fun q=>Nat.beq q.1 i)=true:=List.any_eq_true.2 ⟨q,hq,by rw[e];exact Qi i⟩
  rw[this] at h;cases h.1.2
theorem Aqk:∀{l:List (Nat × Nat)},(l.map (·.1)).Nodup->∀q∈l,AK l q.1=some q.2
 |[],_,_,h=>by cases h
 |(j,b)::r,hn,q,hq=>by
  simp only[U7,List.nodup_cons] at hn;unfold AK;rcases List.mem_cons.1 hq with rfl|hq
  ·simp only[Qi,cond_true]
  ·have:Nat.beq q.1 j=false:=by
    cases hb:Nat.beq q.1 j
    ·rfl
    ·exact absurd (C6 hb ▸ List.mem_map_of_mem hq) hn.1
   simp only[this,cond_false];exact Aqk hn.2 q hq
theorem Aa3:∀{l:List (Nat × Nat)} {i:Nat},i ∉ l.map (·.1)->AK l i=none
 |[],_,_=>rfl
 |(j,b)::r,i,h=>by
  simp only[U7,List.mem_cons,not_or] at h;unfold AK
  have:Nat.beq i j=false:=by
   cases hb:Nat.beq i j
   ·rfl
   ·exact absurd (C6 hb) h.1
  simp only[this,cond_false];exact Aa3 h.2
section
variable {R:Type}{r:R}{P:Program}{N:Nat}{w0:World}{X0:Jw}{Y:Nat->Prop}{β β':Bt}{s:St}{a:Act}{w w':World}{o:Oper}{A A':Nat->Prop}
theorem Ht.weak(hA:∀b,b<w.heap.size->A' b->A b){q:Option (Nat × Nat)}{p:PV}{u:Value}(h:Ht w A q p u):Ht w A' q p u:=by
 have tr:∀{p:PV},At w A p u->At w A' p u:=fun h=>h.step (Cq.refl _ _) hA;cases p with
 |own es n c=>
  rcases h with h|⟨b,ob,cap,h1,h2,h3,h4,h5,h6,h7⟩
  ·exact .inl h
  ·exact .inr ⟨b,ob,cap,h1,h2,h3,h4,h5,h6.weak hA,h7⟩
 |_=>exact tr h
theorem Fs.weak(hA:∀b,b<w.heap.size->A' b->A b){own:Bt}:∀{ps:Ad}{us:List Value}{j:Nat},Fs w A own j ps us->Fs w A' own j ps us
 |[],[],_,_=>trivial
 |[],_::_,_,h=>h.elim
 |_::_,[],_,h=>h.elim
 |_::_,_::_,_,h=>⟨h.1.weak hA,Fs.weak hA h.2⟩
theorem Abz.weak(hA:∀b,b<w.heap.size->A' b->A b){bt:Bt}{p:PV}{u:Value}(h:Abz w A bt p u):Abz w A' bt p u:=by
 cases p with
 |pbox ps=>
  obtain⟨b,ob,h1,h2,h3,vs,h4,h5⟩:=h;exact⟨b,ob,h1,h2,h3,vs,h4.weak hA,h5⟩
 |tup ps=>
  obtain⟨es,n,c,h1,h2⟩:=h;exact⟨es,n,c,h1,h2.weak hA⟩
 |agg cs=>
  obtain⟨vs,h1,h2,h3⟩:=h;exact⟨vs,h1,h2,h3.weak hA⟩
 |_=>exact⟨h.1,h.2.weak hA⟩
theorem N9.weak(hA:∀b,b<w.heap.size->A' b->A b){bt:GQ}:∀{ps:Ad}{us:List Value}{i:Nat},N9 w A bt i ps us->N9 w A' bt i ps us
 |[],[],_,_=>trivial
 |[],_::_,_,h=>h.elim
 |_::_,[],_,h=>h.elim
 |_::_,_::_,_,h=>⟨h.1.weak hA,N9.weak hA h.2⟩
theorem DJ{bt:GQ}(k:Bool):∀{xs:List Operand}{ps:Ad}{i:Nat},N9 w A bt i ps (xs.map a.eval)->N9 w A bt i (Mi k xs ps) (xs.map a.eval)
 |[],[],_,h=>h
 |[],_::_,_,h=>h
 |_::_,[],_,h=>h
 |x::xs,p::ps,i,h=>by
  simp only[U7] at h ⊢;refine⟨?_,DJ k h.2⟩;split
  ·exact⟨.inl trivial,At.lnil _ _⟩
  ·exact h.1
theorem WL(k:Bool)(x:Operand)(xs:List Operand)(p:PV)(ps:Ad):∃p',Mi k (x::xs) (p::ps)=p'::Mi k xs ps/\GT p'=GT p/\(GT p=true->p'=p):=by
 refine⟨_,rfl,?_,fun h=>?_⟩
 ·split
  ·rfl
  ·rfl
 ·split
  ·cases h
  ·rfl
theorem V3{hp:Nat->Option B2}{src:Nat->Nat->Option (Nat × Nat)}(k:Bool):∀{xs:List Operand}{ps:Ad}{i:Nat}{l:List H8},Tr hp src i ps l->Tr hp src i (Mi k xs ps) l
 |[],[],_,_,h=>h
 |[],_::_,_,_,h=>h
 |_::_,[],_,_,h=>h
 |x::xs,p::ps,i,l,h=>by
  obtain⟨p',e,h1,h2⟩:=WL k x xs p ps;rw[e];rcases h with⟨h3,h4,h5⟩|⟨y,l',rfl,h4,h5⟩
  ·exact .inl ⟨by rw[h1];exact h3,h4,V3 k h5⟩
  ·exact .inr ⟨y,l',rfl,by rw[h2 (Ai1 h4)];exact h4,V3 k h5⟩
theorem QS{hp:Nat->Option B2}{src:Nat->Nat->Option (Nat × Nat)}:∀{ps:Ad}{i:Nat}{l:List H8},Tr hp src i ps l->∀id∈l.flatMap H8.ids,Du (hp id)/\∃k off,src k 0=some (id,off)
 |[],_,_,h,id,Bx=>by
  have h:_=[]:=h;rw[h] at Bx;cases Bx
 |p::ps,i,l,h,id,Bx=>by
  rcases h with⟨_,_,h3⟩|⟨x,l',rfl,h2,h3⟩
  ·exact QS h3 id Bx
  ·simp only[Kb,Bn] at Bx;rcases Bx with Bx|Bx
   ·cases x with
    |var id' off cts ws=>
     simp only[H8.ids,Sc] at Bx;subst Bx;obtain⟨_,h4,_,c,h5,_⟩:=h2;exact⟨by rw[h5];trivial,i,_,h4⟩
    |row id'=>
     simp only[H8.ids,Sc] at Bx;subst Bx;obtain⟨_,h4,c,h5⟩:=h2;exact⟨by rw[h5];trivial,i,_,h4⟩
    |none=>simp[H8.ids] at Bx
   ·exact QS h3 id Bx
theorem Ari{hp:Nat->Option B2}{src:Nat->Nat->Option (Nat × Nat)}:∀{ps:Ad}{i:Nat}{l:List H8},Tr hp src i ps l->∀k p id off,ps[k]?=some p->src (i+k) 0=some (id,off) ->
   (∃c ws,hp id=some (.st c)/\p=.pbox ws/\off+ws.length<=c.length)\/((∃c,hp id=some (.ar false c))/\off=0/\∃ws,p=.tup ws)
 |[],_,_,_,k,p,id,off,hp,_=>by simp at hp
 |p::ps,i,l,h,k,p',id,off,Dr,hs=>by
  have AW:∃l',Tr hp src (i+1) ps l':=by
   rcases h with⟨_,_,h3⟩|⟨x,l',_,_,h3⟩<;>exact⟨_,h3⟩
  cases k with
  |succ k=>
   obtain⟨l',h'⟩:=AW;exact Ari h' k p' id off (by simpa using Dr) (by rw[show i+1+k=i+(k+1) by omega];exact hs)
  |zero=>
   simp only[List.getElem?_cons_zero,Option.some.injEq] at Dr;subst Dr;rw[YI] at hs;rcases h with⟨_,h2,_⟩|⟨x,l',_,h2,_⟩
   ·rw[hs] at h2;cases h2
   ·cases x with
    |var id' off' cts ws=>
     obtain⟨h3,h4,_,c,h5,h6⟩:=h2;rw[hs] at h4;cases h4;exact .inl ⟨c,ws,h5,h3,h6⟩
    |row id'=>
     obtain⟨h3,h4,c,h5⟩:=h2;rw[hs] at h4;cases h4;exact .inr ⟨⟨c,h5⟩,rfl,h3⟩
    |none=>
     have:=h2.2;rw[hs] at this;cases this
theorem Adv{hp : Nat -> Option B2}{src : Nat -> Nat -> Option (Nat × Nat)}{id off : Nat}{cts : List CT}{ws : Ad}: ∀ {ps : Ad} {i : Nat} {l : List H8}, Tr hp src i ps l -> H8.var id off cts ws ∈ l ->
      ∃ k, ps[k]? = some (.pbox ws) /\ src (i + k) 0 = some (id, off)
  | [], _, _, h, hm => by
    have h : _ = [] := h
    rw[h] at hm; cases hm
  | p :: ps, i, l, h, hm => by
    have next : ∀ {l'}, Tr hp src (i + 1) ps l' -> H8.var id off cts ws ∈ l' -> ∃ k, (p :: ps)[k]? = some (.pbox ws) /\ src (i + k) 0 = some (id, off) := by
      intro l' h' M6
      obtain⟨k, h1, h2⟩ := Adv h' M6
      exact⟨k + 1, by simpa using h1, by rw[show i + (k + 1) = i + 1 + k by omega]; exact h2⟩
    rcases h with⟨_, _, h3⟩ | ⟨x, l', rfl, h2, h3⟩
    · exact next h3 hm
    · rcases List.mem_cons.1 hm with e | hm
      · subst e
        obtain⟨h1, h4, _⟩ := h2
        subst h1
        exact⟨0, rfl, h4⟩
      · exact next h3 hm
theorem Aca{hp:Nat->Option B2}{src:Nat->Nat->Option (Nat × Nat)}:∀{ps:Ad}{i:Nat}{l:List H8},Tr hp src i ps l->∀k id off,i<=k->src k 0=some (id,off)->k<i+ps.length->∃p,ps[k-i]?=some p/\GT p=true
 |[],i,_,_,k,id,off,h1,_,h3=>by simp at h3;omega
 |p::ps,i,l,h,k,id,off,h1,h2,h3=>by
  by_cases e:k=i
  ·subst e;rcases h with⟨_,h4,_⟩|⟨x,l',_,h4,_⟩
   ·rw[h2] at h4;cases h4
   ·exact⟨p,by simp,Ai1 h4⟩
  ·have AW:∃l',Tr hp src (i+1) ps l':=by
    rcases h with⟨_,_,h3⟩|⟨x,l',_,_,h3⟩<;>exact⟨_,h3⟩
   obtain⟨l',h'⟩:=AW;obtain⟨q,h5,h6⟩:=Aca h' k id off (by omega) h2 (by simp at h3;omega)
   refine⟨q,?_,h6⟩;rw[show k-i=(k-(i+1))+1 by omega]
   simpa using h5
theorem N9.len{bt:GQ}:∀{ps:Ad}{us:List Value}{i:Nat},N9 w A bt i ps us->ps.length=us.length
 |[],[],_,_=>rfl
 |[],_::_,_,h=>h.elim
 |_::_,[],_,h=>h.elim
 |_::_,_::_,_,h=>by simp[N9.len h.2]
theorem Adm(h:Df N w0 X0 Y β s a w){G:BE}(Nz:Env P G w0 X0){C:Gw}{call:Aq}(Eo:∀f args res,call f args=some res->Cx G P f args res){c:Call}{f:FuncId}(ho:o.op=.call c)(hc:c.callee=.value (.func f)){K:St->Option R}(hk:HZ C P N call s o f c K=some r):
  ∃s',K s'=some r/\∀(next:Act->World->Prop) (Q:Exit->Act->World->Prop),(∀a' w' β',Df N w0 X0 Y β' s' a' w'->next a' w')->o.wp P a w next Q:=by
 unfold HZ at hk;obtain⟨vs0,m,x,l,src,Ez,hm,hx,hS,hL,F9⟩:=TO h hk;obtain⟨hb,Fu⟩:=Am Ez;simp only[Er] at hb;obtain⟨⟨⟨hnd,A1i⟩,hN⟩,Ald⟩:=hb;have hN:0<N:=Nat.lt_of_succ_le (Oj hN);obtain⟨hnl,hnx,hlx⟩:=Kq hnd
 have hml:∀i∈m,i ∉ l.flatMap H8.ids/\i ∉ x:=by
  intro i hi;have:=List.all_eq_true.1 A1i i hi
  have hn:∀k∈l.flatMap H8.ids++x,i≠k:=by
   rintro k hk rfl
   have h2:(l.flatMap H8.ids++x).any (Nat.beq i)=true:=List.any_eq_true.2 ⟨i,hk,Qi i⟩;rw[h2] at this;cases this
  exact⟨fun hq=>hn i (by simp only[Bn];exact .inl hq) rfl,fun hq=>hn i (by simp only[Bn];exact .inr hq) rfl⟩
 replace hL:=V3 (C.kz f) (xs:=c.args.toList) hL
 replace F9:=fun fz h1 h2 bt DD=>DJ (a:=a) (C.kz f) (F9 fz h1 h2 bt DD)
 generalize Mi (C.kz f) c.args.toList vs0=vs at Fu F9 hL;obtain⟨rv,ro,O7,Pa⟩:=UD Fu;obtain⟨ws,bs,Zl,hwl,hnt,hsl,hrs,hri,hws⟩:=GV (C.shr f) N Pa;obtain⟨Uq,hk5⟩:=Am Zl;obtain⟨lids,RW⟩:∃lids,l.flatMap H8.ids=lids:=⟨_,rfl⟩
 rw[RW] at hS hnl hlx hml;have A6p:∀i,i ∉ x->Xx (Af s.hp m) x i=Af s.hp m i:=fun i hi=>by rw[Hj,Bl hi]
 have Ah5:∀i,i∈lids->Xx (Af s.hp m) x i=s.hp i:=fun i hi=>by
  rw[A6p i (hlx i hi),Ca,Bl (fun hq=>(hml i hq).1 hi)]
 have hLM:Tr (Xx (Af s.hp m) x) src 0 vs l:=FJ (fun i hi=>Ah5 i (RW ▸ hi)) hL;obtain⟨Dr,bs',qs,hk6,hbq,KX,Oc,Fv,O4,hsh,YU⟩:=Xo (β:=β) (j:=Ph rv) hk5 hLM (by rw[RW];exact hnl)
 obtain⟨Tk,hk7⟩:=Am hk6;refine⟨_,hk7,fun next Q hn=>?_⟩;clear hk Ez Fu Pa Zl hk5 hk6 hk7;rw[RW] at O4;obtain⟨⟨fn,hfn,hfb⟩,KL⟩:=Eo f vs _ O7;have hf:=h.freeze hm;have Aj1:=QS hL;rw[RW] at Aj1
 have UZ:∀i,i∈lids\/i∈x->Af s.hp m i=s.hp i:=by
  intro i hi;rw[Ca,Bl];intro hq;rcases hi with hi|hi
  ·exact (hml i hq).1 hi
  ·exact (hml i hq).2 hi
 have EP:∀i,i∈lids\/i∈x->Du (s.hp i):=by
  intro i hi;rcases hi with hi|hi
  ·exact (Aj1 i hi).1
  ·obtain⟨cc,hcc⟩:=hx i hi;rw[hcc];trivial
 have A6w:∀i j id off,src i j=some (id,off)->id∈lids\/id∈x:=by
  intro i j id off hs;cases j with
  |zero=>exact .inl (hS.lent i id off hs)
  |succ j=>exact .inr (hS.mvd i j id off hs).2
 obtain⟨bt,DD⟩:∃bt:GQ,∀i j,bt i j=(src i j).bind (Ii β):=⟨_,fun _ _=>rfl⟩
 have btS:∀{i j b ob},bt i j=some (b,ob)->∃id off o',src i j=some (id,off)/\β id=some (b,o')/\ob=o'+off/\(id∈lids\/id∈x):=by
  intro i j b ob hb;rw[DD] at hb;cases hs:src i j with
  |none=>rw[hs] at hb;cases hb
  |some q=>
   rw[hs] at hb;obtain⟨id,off⟩:=q;simp only[Option.bind_some,Ii] at hb;cases hβ:β id with
   |none=>rw[hβ] at hb;cases hb
   |some p=>
    rw[hβ] at hb;obtain⟨b',o'⟩:=p;simp only[Option.map_some,Option.some.injEq,Prod.mk.injEq] at hb;obtain⟨rfl,rfl⟩:=hb;exact⟨id,off,o',rfl,hβ,rfl,A6w i j id off hs⟩
 have btX:∀{b},BtX bt b->∃id o',β id=some (b,o')/\(id∈lids\/id∈x):=by
  rintro b ⟨i,j,ob,hb⟩
  obtain⟨id,off,o',_,h2,_,h4⟩:=btS hb;exact⟨id,o',h2,h4⟩
 have hBA:∀b,BtX bt b->ZM s.hp β b:=fun b hb=>by
  obtain⟨id,o',h1,h2⟩:=btX hb;exact⟨id,o',EP id h2,h1⟩
 obtain⟨Yc,hYc⟩:∃Yc:Nat->Prop,∀b,Yc b↔((∃id ob,Du (Af s.hp m id)/\β id=some (b,ob)/\id ∉ lids/\id ∉ x)\/Y b):=⟨_,fun _=>Iff.rfl⟩
 have Eb:vs.length=c.args.toList.length:=by
  have:=(F9 m (fun _ hi=>hi) hm bt DD).len
  simpa using this
 have Bad:Ins w Yc bt vs (c.args.toList.map a.eval):=by
  refine⟨fun b hb=>?_,fun b hb hB=>?_,fun b hB=>?_,fun i j i' j' b ob ob' hb Jp=>?_,fun i q hq=>?_,?_⟩
  ·rcases (hYc b).1 hb with⟨id,ob,hl,hβ,_⟩|hY
   ·exact hf.blt id b ob (Di hl) hβ
   ·exact Gb (h.Ylt b hY) h.fr.step.size
  ·obtain⟨id',o',h1,h2⟩:=btX hB;rcases (hYc b).1 hb with⟨id,ob,hl,hβ,h3,h4⟩|hY
   ·have:=hf.inj id id' b ob o' hl (by show Du (Af s.hp m id');rw[UZ id' h2];exact EP id' h2) hβ h1
    subst this;rcases h2 with h2|h2
    ·exact h3 h2
    ·exact h4 h2
   ·exact h.Yx b hY ⟨id',o',EP id' h2,h1⟩
  ·obtain⟨id',o',h1,h2⟩:=btX hB;exact h.blt id' b o' (Di (EP id' h2)) h1
  ·obtain⟨id,off,o1,h1,h2,_,h4⟩:=btS hb;obtain⟨id',off',o1',XB,h2',_,h4'⟩:=btS Jp;have:=h.inj id id' b o1 o1' (EP id h4) (EP id' h4') h2 h2';subst this;cases j with
   |zero=>
    cases j' with
    |zero=>exact⟨hS.inj0 hnl i i' id off off' h1 XB,rfl⟩
    |succ j'=>exact absurd (hS.mvd i' j' id off' XB).2 (hlx id (hS.lent i id off h1))
   |succ j=>
    cases j' with
    |zero=>exact absurd (hS.mvd i j id off h1).2 (hlx id (hS.lent i' id off' XB))
    |succ j'=>
     obtain⟨h5,h6⟩:=hS.inj1 hnx i i' j j' id off off' h1 XB;exact⟨h5,by rw[h6]⟩
  ·obtain⟨b,ob⟩:=q;obtain⟨id,off,o',h1,_⟩:=btS hq;obtain⟨p,hp,h2⟩:=Aca hL i id off (Nat.zero_le _) h1 (by have:=hS.dom i 0 _ h1;rw[Eb];exact this.2)
   exact⟨p,by simpa using hp,h2⟩
  ·refine (F9 m (fun _ hi=>hi) hm bt DD).weak fun b _ hb=>?_;rcases hb with hb|hb
   ·obtain⟨id',o',h1,h2⟩:=btX hb;exact .inl ⟨id',o',by rw[UZ id' h2];exact EP id' h2,h1⟩
   ·rcases (hYc b).1 hb with⟨id,ob,hl,hβ,_⟩|hY
    ·exact .inl ⟨id,ob,hl,hβ⟩
    ·exact .inr hY
 unfold Oper.wp;rw[Adg ho hc Nz.ng hfn hfb];show Calls P f _ w _;have hca:c.args.map a.eval=(c.args.toList.map a.eval).toArray:=by rw[<-List.map_toArray,Array.toArray_toList]
 rw[hca];refine (KL w Yc bt _ Bad (Nz.fr w h.fr) (fun b x=>⟨Gb (Nz.y b x).1 h.fr.step.size,fun hB=>(h.ownd b (hBA b hB)).elim (Nz.y b x).2 (fun FS=>absurd (Nz.y b x).1 (Nat.not_lt.2 FS))⟩)).mono ?_
 rintro e w' ⟨us,own,rfl,out⟩
 obtain⟨ha1,U0⟩:=B0 Tk;obtain⟨hg1,hg2⟩:=E8 (hp:=Dr) U0;have Afv:=Vd Tk;rw[List.map_append,List.nodup_append] at Afv;obtain⟨Bjh,A7w,A92⟩:=Afv;rw[hbq] at A7w
 obtain⟨β1,hβ1,hβ2⟩:∃β1:Bt,(∀i,(∃bx,(i,bx)∈bs)->β1 i=own ((i-o.dst.getD N) / N))/\∀i,(¬∃bx,(i,bx)∈bs)->β1 i=match AK qs i with|some j=>own j|none=>β i:=by
  refine⟨fun i=>if (bs.any fun q=>Nat.beq q.1 i)=true then own ((i-o.dst.getD N) / N) else match AK qs i with|some j=>own j|none=>β i,fun i hi=>?_,fun i hi=>?_⟩
  ·show (if _ then _ else _)=_;rw[Cy (ZJ.2 hi)]
  ·show (if _ then _ else _)=_;rw[Bl (fun hq=>hi (ZJ.1 hq))]
 have hβbs:∀j,(∃bx,(o.dst.getD N+N*j,bx)∈bs)->β1 (o.dst.getD N+N*j)=own (0+j):=by
  intro j hj;rw[hβ1 _ hj,Nat.add_sub_cancel_left,Nat.mul_div_cancel_left _ hN,Ig]
 have hqb:∀q∈qs,∃bx,(q.1,bx)∈bs':=by
  intro q hq;have:q.1∈bs'.map (·.1):=by rw[hbq];exact List.mem_map_of_mem hq
  obtain⟨⟨i,bx⟩,hm,e⟩:=List.mem_map.1 this;exact⟨bx,e ▸ hm⟩
 have Bcw:∀i bx,(i,bx)∈bs'->∃j,(i,j)∈qs:=by
  intro i bx hm;have:i∈qs.map (·.1):=by rw[<-hbq];exact List.mem_map.2 ⟨_,hm,rfl⟩
  obtain⟨⟨i',j⟩,hm,e⟩:=List.mem_map.1 this;exact⟨j,e ▸ hm⟩
 have hbb:∀i,(∃bx,(i,bx)∈bs')->¬∃bx,(i,bx)∈bs:=by
  rintro i ⟨bx,hm⟩ ⟨bx',M6⟩
  exact A92 i (List.mem_map.2 ⟨_,M6,rfl⟩) i (List.mem_map.2 ⟨_,hm,rfl⟩) rfl
 have hβqs:∀q∈qs,β1 q.1=own q.2:=by
  intro q hq;rw[hβ2 q.1 (hbb q.1 (hqb q hq)),Aqk A7w q hq]
 have hβold:∀i,Dr i≠none->β1 i=β i:=by
  intro i hi
  have hn1:¬∃bx,(i,bx)∈bs:=by
   rintro⟨bx,hm⟩
   exact hi (ha1 i bx (Bn.2 (.inl hm)))
  rw[hβ2 i hn1,Aa3];intro hm;obtain⟨q,hq,e⟩:=List.mem_map.1 hm;obtain⟨bx,O8⟩:=hqb q hq;exact hi (ha1 i bx (Bn.2 (.inr (e ▸ O8))))
 obtain⟨Wx,hba⟩:=hws w' _ own β1 w.heap.size 0 us hβbs out.vals;obtain⟨Bcv,A5i⟩:=YU w' _ own β1 bt hβqs (fun i=>DD i 0) out.outs
 have Ax8:∀id∈lids,∃y∈l,id∈y.ids:=by
  intro id Bx;rw[<-RW] at Bx;exact List.mem_flatMap.1 Bx
 have Au6:∀id∈lids,(∃off c cs,s.hp id=some (.st c)/\Dr id=some (.st (B1 c cs off))/\off+cs.length<=c.length/\(∀p∈cs,∀i∈As p,∃bx,(i,bx)∈bs'))\/∃c cs,s.hp id=some (.ar false c)/\Dr id=some (.ar false cs):=by
  intro id Bx;obtain⟨y,hy,hyi⟩:=Ax8 id Bx;have h1:=hsh y hy;cases y with
  |var id' off cts ws'=>
   simp only[H8.ids,Sc] at hyi;subst hyi;obtain⟨c1,cs,h2,h3,h4,h5,h6⟩:=h1;rw[Ah5 id Bx] at h2;exact .inl ⟨off,c1,cs,h2,h3,h5,h6⟩
  |row id'=>
   simp only[H8.ids,Sc] at hyi;subst hyi;obtain⟨c1,cs,h2,h3⟩:=h1;rw[Ah5 id Bx] at h2;exact .inr ⟨c1,cs,h2,h3⟩
  |none=>simp[H8.ids] at hyi
 have Baz:∀id∈lids,Dr id≠none:=by
  intro id Bx;rcases Au6 id Bx with⟨_,_,_,_,h2,_⟩|⟨_,_,_,h2⟩<;>rw[h2]<;>simp
 have hpK:∀id,id ∉ lids->Dr id=Xx (Af s.hp m) x id:=fun id Bx=>O4 id Bx
 have Gy:∀i,s.hp i≠none->Dr i≠none:=by
  intro i hi;by_cases hl:i∈lids
  ·exact Baz i hl
  ·rw[hpK i hl,Hj];have h1:Af s.hp m i≠none:=fun e=>hi (Ew.1 e);split
   ·cases hq:Af s.hp m i with
    |none=>exact absurd hq h1
    |some b=>simp
   ·exact h1
 have Awd:∀i,(s.hp i≠none\/∃bx,(i,bx)∈bs++bs')->Au Dr (bs++bs') i≠none:=by
  rintro i (hi|⟨bx,hm⟩)
  ·have h1:=Gy i hi;rw[hg2 i (fun bx hm=>h1 (ha1 i bx hm))];exact h1
  ·rw[hg1 i bx hm];simp
 have I3:∀id,(∃bx,(id,bx)∈bs++bs')\/Au Dr (bs++bs') id=Dr id:=fun id=>by
  by_cases hx:∃bx,(id,bx)∈bs++bs'
  ·exact .inl hx
  ·exact .inr (hg2 id fun bx hb=>hx ⟨bx,hb⟩)
 have hold:∀id bx,Dr id=some bx->Du (some bx)->Du (s.hp id)/\id ∉ x/\(id∈lids\/(id ∉ lids/\Af s.hp m id=some bx)):=by
  intro id bx hb hl;by_cases Bx:id∈lids
  ·exact⟨EP id (.inl Bx),hlx id Bx,.inl Bx⟩
  ·rw[hpK id Bx,Hj] at hb;split at hb
   ·cases hq:Af s.hp m id with
    |none=>rw[hq] at hb;cases hb
    |some b=>rw[hq] at hb;simp at hb;subst hb;exact hl.elim
   ·rename_i hxn;exact⟨by rw[K7 hb hl];exact hl,hxn,.inr ⟨Bx,hb⟩⟩
 have CN:∀i bx,(i,bx)∈bs++bs'->∃j,β1 i=own j/\((i=o.dst.getD N+N*j/\j<Ph rv)\/((i,j)∈qs/\Ph rv<=j)):=by
  intro i bx hm;rcases Bn.1 hm with hm|hm
  ·obtain⟨⟨j,rfl,hj⟩,_⟩:=hba i bx hm;exact⟨j,by rw[hβbs j ⟨bx,hm⟩,Ig],.inl ⟨rfl,hj⟩⟩
  ·obtain⟨j,hj⟩:=Bcw i bx hm;exact⟨j,hβqs _ hj,.inr ⟨hj,(KX _ hj).2⟩⟩
 have Aww:∀i bx,(i,bx)∈bs++bs'->Du (some bx)/\V2 w' (MX bt own Yc) β1 i bx/\∀cs,bx=.st cs->∀b ob,β1 i=some (b,ob)->w.heap.size<=b:=by
  intro i bx hm;rcases Bn.1 hm with hm|hm
  ·exact (hba i bx hm).2
  ·obtain⟨cc,rfl⟩:=Fv i bx hm;exact⟨trivial,Bcv i _ hm,fun cs e=>by cases e⟩
 have A1m:∀b,(∃i k o',bt i (k+1)=some (b,o'))->∃id o',id∈x/\β id=some (b,o'):=by
  rintro b ⟨i,k,o',hb⟩
  obtain⟨id,off,o1,h1,h2,_,_⟩:=btS hb;exact⟨id,o1,(hS.mvd i k id off h1).2,h2⟩
 have hX:∀b,b<w.heap.size->ZM (Au Dr (bs++bs')) β1 b->ZM s.hp β b:=by
  rintro b hb ⟨id,ob,hl,hβ⟩
  rcases I3 id with⟨bx,hm⟩|e
  ·obtain⟨j,hj,_⟩:=CN id bx hm;rw[hj] at hβ;obtain⟨id',o',h1,h2⟩:=A1m b ((out.fresh j b ob hβ).2 hb).1;exact⟨id',o',EP id' (.inr h1),h2⟩
  ·rw[e] at hl;cases hq:Dr id with
   |none=>rw[hq] at hl;exact hl.elim
   |some bx=>
    rw[hq] at hl;exact⟨id,ob,(hold id bx hq hl).1,by rw[<-hβold id (by rw[hq];simp)];exact hβ⟩
 have hAo:∀b,b<w.heap.size->Dt (Au Dr (bs++bs')) β1 Y b->Dt s.hp β Y b:=fun b hb hA=>hA.imp (hX b hb) id
 have hAO:∀b,Dt (Au Dr (bs++bs')) β1 Y b->MX bt own Yc b:=by
  rintro b (⟨id,ob,hl,hβ⟩|hY)
  ·rcases I3 id with⟨bx,hm⟩|e
   ·obtain⟨j,hj,_⟩:=CN id bx hm;rw[hj] at hβ;exact .inl ⟨j,ob,hβ⟩
   ·rw[e] at hl;cases hq:Dr id with
    |none=>rw[hq] at hl;exact hl.elim
    |some bx=>
     rw[hq] at hl;rw[hβold id (by rw[hq];simp)] at hβ
     obtain⟨h1,h2,h3⟩:=hold id bx hq hl;rcases h3 with h3|⟨h3,h4⟩
     ·obtain⟨_,i,off,hs⟩:=Aj1 id h3;exact .inr (.inl ⟨i,ob+off,by rw[DD,hs];simp[Ii,hβ]⟩)
     ·exact .inr (.inr ((hYc b).2 (.inl ⟨id,ob,by rw[h4];exact hl,hβ,h3,h2⟩)))
  ·exact .inr (.inr ((hYc b).2 (.inr hY)))
 have G0:Cq (Dt s.hp β Y) w w':=out.ext.weaken (fun b _ hb=>.inl (hBA b hb));have Ato:∀i,s.hp i≠none->β1 i=β i:=fun i hi=>hβold i (Gy i hi)
 have hCL:∀b j,QN bt vs b j->∃id o' bx,s.hp id=some bx/\Du (some bx)/\β id=some (b,o')/\BR bx o' j:=by
  rintro b j ⟨i,p,hp,⟨k,ob,hb,FS⟩|⟨ob,ps,hb,FS,U5⟩⟩
  ·obtain⟨id,off,o',h1,h2,h3,_⟩:=btS hb;obtain⟨h5,h6⟩:=hS.mvd i k id off h1;obtain⟨cc,hcc⟩:=hx id h6;exact⟨id,o',_,hcc,trivial,h2,show o'<=j by omega⟩
  ·obtain⟨id,off,o',h1,h2,h3,_⟩:=btS hb;rcases Ari hL i p id off hp (by rw[Ig];exact h1) with⟨c1,wz,h5,h6,h7⟩|⟨⟨c1,h5⟩,_⟩
   ·rcases U5 with⟨h8,h9⟩|h8
    ·rw[h6] at h8;cases h8;exact⟨id,o',_,h5,trivial,h2,show o'<=j/\j<o'+c1.length by omega⟩
    ·rw[h6] at h8;cases h8
   ·exact⟨id,o',_,h5,trivial,h2,show o'<=j by omega⟩
 have hnL:∀id off cts wz,H8.var id off cts wz∈l->id∈lids->∀b ob,β id=some (b,ob)->∀j,(j<off\/off+wz.length<=j)->(∃c1,s.hp id=some (.st c1))->¬QN bt vs b (ob+j):=by
  rintro id off cts wz hy Bx b ob hβ j hj ⟨c1,RL⟩ ⟨i,p,hp,⟨k,ob',hb,FS⟩|⟨ob',ps,hb,FS,U5⟩⟩
  ·obtain⟨id',off',o',h1,h2,h3,h4⟩:=btS hb;have:=h.inj id id' b ob o' (EP id (.inl Bx)) (EP id' h4) hβ h2;subst this;exact hlx id Bx (hS.mvd i k id off' h1).2
  ·obtain⟨id',off',o',h1,h2,h3,h4⟩:=btS hb;have:=h.inj id id' b ob o' (EP id (.inl Bx)) (EP id' h4) hβ h2;subst this;rw[hβ] at h2;cases h2;obtain⟨k,Ez,Fu⟩:=Adv hL hy;rw[Ig] at Fu;have hik:=hS.inj0 hnl i k id off' off h1 Fu;subst hik;rw[h1] at Fu;cases Fu;rw[hp] at Ez;cases Ez;rcases U5 with⟨h8,h9⟩|h8
   ·cases h8;omega
   ·cases h8
 have hval:Fg w' (Dt (Au Dr (bs++bs')) β1 Y) β1 (Ra ws (Sy P o.type)) (J1 us):=by
  have Si:Be (Jo w' (Dt (Au Dr (bs++bs')) β1 Y) β1) ws us:=Wx.mono fun v u hvu=>hvu.step (Cq.refl _ _) (fun b _=>hAO b) (fun _ _=>rfl);have Eb:=Si.len;cases hT:Sy P o.type
  ·rw[hT] at Uq;have h1:ws.length=1:=C6 Uq
   match ws,us,h1,Eb with
   |[v],[u],_,_=>
    exact (Sj (hnt v (by simp))).2 Si.1
  ·rw[hT] at Uq
   have h1:¬ws.length=1:=by
    intro e;rw[e] at Uq;cases Uq
   have hr:J1 us=.tuple ⟨us⟩:=by
    unfold J1;split
    ·simp at Eb;omega
    ·rfl
   rw[hr];exact⟨us,rfl,Si⟩
 have hvr:∀i∈Cc (Ra ws (Sy P o.type)),∃bx,(i,bx)∈bs:=by
  intro i hi;cases hT:Sy P o.type
  ·rw[hT] at Uq hi;have h1:ws.length=1:=C6 Uq
   match ws,h1 with
   |[v],_=>
    refine hrs v (by simp) i ?_
    have:Cc v=Ct v:=by
     have hn:=hnt v (by simp);cases v<;>first|rfl|exact absurd rfl (hn _)
    rw[<-this];exact hi
  ·rw[hT] at hi;obtain⟨v,hv,hi⟩:=List.mem_flatMap.1 (show i∈ws.flatMap Ct from hi);exact hrs v hv i hi
 refine hn _ w' β1 ?_;refine⟨by rw[Vh];exact h.dfr,by rw[EE];exact h.tsz,XN Ald h.tmo,?_,?_,?_,?_,?_,?_,?_,?_,?_,?_,?_,h.Ylt,?_⟩
 ·refine Ta (Q:=fun _ p u=>Fg w' (Dt (Au Dr (bs++bs')) β1 Y) β1 p u) h.tsz Ald (fun i hi=>?_) (fun _=>hval);exact (h.tms i hi).step G0 hAo fun id Bx=>Ato id (h.wfT i hi id Bx)
 ·intro id bx hb;simp only at hb;rcases I3 id with⟨bx',M6⟩|e
  ·rw[hg1 id bx' M6] at hb;cases hb;exact (Aww id _ M6).2.1.step' hAO
  ·rw[e] at hb;have hβ:=hβold id (by rw[hb];simp)
   by_cases Bx:id∈lids
   ·obtain⟨y,hy,hyi⟩:=Ax8 id Bx;have h1:=A5i y hy;cases y with
    |var id' off cts wz=>
     simp only[H8.ids,Sc] at hyi;subst hyi;obtain⟨c1,cs,h2,h3,h4,h5,h6⟩:=h1;rw[Ah5 id Bx] at h2;rw[h3] at hb;cases hb;obtain⟨b,ob,h7,h8,h9⟩:=h.box id _ h2;obtain⟨h10,h11⟩:=h6 b ob h7;have Cm:=h.blt id b ob (by rw[h2];simp) h7
     have JF:∀j,(j<off\/off+wz.length<=j)->w'.cell? ⟨b,ob+j,none⟩=w.cell? ⟨b,ob+j,none⟩/\w'.frozen? ⟨b,ob+j,none⟩=w.frozen? ⟨b,ob+j,none⟩:=
      fun j hj=>out.rng b (ob+j) Cm (hnL id off cts wz hy Bx b ob h7 j hj ⟨c1,h2⟩)
     refine⟨b,ob,hβ.trans h7,fun j p hj=>?_,fun j hj=>?_⟩
     ·rcases Va (by omega) hj with⟨h12,h13,h14⟩|⟨h12,h14⟩
      ·obtain⟨v,hv,hcr⟩:=h10 _ _ h14;refine⟨v,?_,hcr.step (Cq.refl _ _) (fun b _=>hAO b) (fun _ _=>rfl)⟩;rw[show ob+j=ob+off+(j-off) by omega];exact hv
      ·obtain⟨v,hv,hcr⟩:=h8 _ _ h14;refine⟨v,by rw[(JF j (by omega)).1];exact hv,hcr.step G0 hAo fun i hi=>Ato i (h.wfB id c1 h2 p (List.mem_of_getElem? h14) i hi)⟩
     ·rw[Vk (by omega)] at hj;by_cases DH:off<=j/\j<off+cs.length
      ·have:=h11 (j-off) (by omega);rw[show ob+off+(j-off)=ob+j by omega] at this;exact this
      ·rw[(JF j (by omega)).2];exact h9 j hj
    |row id'=>
     simp only[H8.ids,Sc] at hyi;subst hyi;obtain⟨cs,h3,h4⟩:=h1;rw[h3] at hb;cases hb;rcases h4 with⟨h5,h6⟩|⟨b,ob,h5,h6,h7⟩
     ·exact .inl ⟨hβ.trans h5,h6⟩
     ·exact .inr ⟨b,ob,hβ.trans h5,h6.weak (fun b _=>hAO b),fun _=>h7,(fun q=>by cases q)⟩
    |none=>simp[H8.ids] at hyi
   ·rw[hpK id Bx,Hj] at hb;split at hb
    ·cases hq:Af s.hp m id with
     |none=>rw[hq] at hb;cases hb
     |some b0=>rw[hq] at hb;simp at hb;subst hb;trivial
    ·rename_i hxn;have O8:=hf.box id bx hb
     have Anz:∀b ob,β id=some (b,ob)->bx ≠ .mv->b<w.heap.size/\w'.heap[b]?=w.heap[b]?:=by
      intro b ob XR hmv;have Cm:=hf.blt id b ob (by show Af s.hp m id≠none;rw[hb];simp) XR
      refine⟨Cm,out.ext.keep b Cm fun hB=>?_⟩;obtain⟨id',o',h1,h2⟩:=btX hB;have Nj:Du (Af s.hp m id'):=by rw[UZ id' h2];exact EP id' h2
      have XH:id≠id':=by
       rintro rfl
       rcases h2 with h2|h2
       ·exact Bx h2
       ·exact hxn h2
      cases bx with
      |st cc=>exact XH (hf.inj id id' b ob o' (by show Du (Af s.hp m id);rw[hb];trivial) Nj XR h1)
      |ar fz cc=>
       cases fz with
       |false=>exact XH (hf.inj id id' b ob o' (by show Du (Af s.hp m id);rw[hb];trivial) Nj XR h1)
       |true=>
        rcases O8 with⟨h3,_⟩|⟨b2,o2,h3,_,_,h4⟩
        ·rw[XR] at h3;cases h3
        ·rw[XR] at h3;cases h3;exact h4 rfl (.inl ⟨id',o',Nj,h1⟩)
      |mv=>exact hmv rfl
     have hAoF:∀b,b<w.heap.size->Dt (Au Dr (bs++bs')) β1 Y b->Dt (Af s.hp m) β Y b:=by
      intro b Fv hA;rcases hA with⟨i,ob,hl,hβi⟩|hY
      ·rcases I3 i with⟨bx1,SB⟩|e1
       ·obtain⟨j,hj,_⟩:=CN i bx1 SB;rw[hj] at hβi;obtain⟨id',o',h1,h2⟩:=A1m b ((out.fresh j b ob hβi).2 Fv).1;exact .inl ⟨id',o',by rw[UZ id' (.inr h1)];exact EP id' (.inr h1),h2⟩
       ·rw[e1] at hl;cases hq:Dr i with
        |none=>rw[hq] at hl;exact hl.elim
        |some bx1=>
         rw[hq] at hl;rw[hβold i (by rw[hq];simp)] at hβi
         obtain⟨h1,h2,h3⟩:=hold i bx1 hq hl;rcases h3 with h3|⟨h3,h4⟩
         ·exact .inl ⟨i,ob,by rw[UZ i (.inl h3)];exact h1,hβi⟩
         ·exact .inl ⟨i,ob,by rw[h4];exact hl,hβi⟩
      ·exact .inr hY
     have A4a:Cq (Dt (Af s.hp m) β Y) w w':=out.ext.weaken (fun b _ hB=>by
      obtain⟨id',o',h1,h2⟩:=btX hB;exact .inl ⟨id',o',by rw[UZ id' h2];exact EP id' h2,h1⟩)
     cases bx with
     |st cc=>
      obtain⟨b,ob,h1,h2,h3⟩:=O8;obtain⟨Cm,Wi⟩:=Anz b ob h1 (by simp);refine⟨b,ob,hβ.trans h1,fun j p hj=>?_,fun j hj=>?_⟩
      ·obtain⟨v,hv,hcr⟩:=h2 j p hj;refine⟨v,by rw[World.cell?_of_block (w:=w) Wi];exact hv,hcr.step A4a hAoF fun i hi=>?_⟩
       refine Ato i (fun e1=>?_);exact hf.wfB id cc hb p (List.mem_of_getElem? hj) i hi (Ew.2 e1)
      ·rw[World.frozen?_of_block (w:=w) Wi];exact h3 j hj
     |ar fz cc=>
      rcases O8 with⟨h1,h2⟩|⟨b,ob,h1,h2,h3,h4⟩
      ·exact .inl ⟨hβ.trans h1,h2⟩
      ·obtain⟨Cm,Wi⟩:=Anz b ob h1 (by simp);have hbs:bsz w' b=bsz w b:=by unfold bsz;rw[Wi]
       refine .inr ⟨b,ob,hβ.trans h1,fun j p hj=>?_,fun e1 j hj Xj=>?_,fun e1 q=>h4 e1 (hAoF b Cm q)⟩
       ·obtain⟨v,hv,h5,RL⟩:=h2 j p hj;exact⟨v,by rw[World.cell?_of_block (w:=w) (by rw[Fx];exact Wi)];exact hv,h5,RL.step A4a hAoF⟩
       ·rw[World.frozen?_of_block (w:=w) Wi];exact h3 e1 j hj (by rw[<-hbs];exact Xj)
     |mv=>trivial
 ·intro id id' b ob ob' hl Nj hb Jp;simp only at hl Nj
  have mixed:∀i bx i' k z,(i,bx)∈bs++bs'->β1 i=some (k,z)->Dr i'≠none->Du (Dr i')->∀z',β1 i'=some (k,z')->False:=by
   intro i bx i' k z SB hz hn1 NN z' hz';obtain⟨j,hj,_⟩:=CN i bx SB;rw[hj] at hz;rw[hβold i' hn1] at hz';cases hq:Dr i' with
   |none=>exact hn1 hq
   |some bx1=>
    rw[hq] at NN;obtain⟨h1,h2,h3⟩:=hold i' bx1 hq NN;have Cm:=h.blt i' k z' (Di h1) hz';obtain⟨id2,o2,h4,h5⟩:=A1m k ((out.fresh j k z hz).2 Cm).1;have:=h.inj i' id2 k z' o2 h1 (EP id2 (.inr h4)) hz' h5;subst this;exact h2 h4
  rcases I3 id with⟨bx,SB⟩|e1
  ·rcases I3 id' with⟨bx',hm2⟩|e2
   ·obtain⟨j,hj,U5⟩:=CN id bx SB;obtain⟨j',Xj,A49⟩:=CN id' bx' hm2;rw[hj] at hb;rw[Xj] at Jp;have:=out.inj j j' b ob ob' hb Jp;subst this;rcases U5 with⟨h1,h2⟩|⟨h1,h2⟩
    ·rcases A49 with⟨h3,_⟩|⟨_,h4⟩
     ·rw[h1,h3]
     ·omega
    ·rcases A49 with⟨_,h4⟩|⟨h3,_⟩
     ·omega
     ·exact Oc _ h1 _ h3 rfl
   ·rw[e2] at Nj;exact (mixed id bx id' b ob SB hb (Di Nj) Nj ob' Jp).elim
  ·rw[e1] at hl;rcases I3 id' with⟨bx',hm2⟩|e2
   ·exact (mixed id' bx' id b ob' hm2 Jp (Di hl) hl ob hb).elim
   ·rw[e2] at Nj
    have g:∀i,Du (Dr i)->Du (s.hp i)/\β1 i=β i:=by
     intro i hli;cases hq:Dr i with
     |none=>rw[hq] at hli;exact hli.elim
     |some bx1=>exact⟨(hold i bx1 hq (by rw[<-hq];exact hli)).1,hβold i (by rw[hq];simp)⟩
    rw[(g id hl).2] at hb;rw[(g id' Nj).2] at Jp;exact h.inj id id' b ob ob' (g id hl).1 (g id' Nj).1 hb Jp
 ·intro id b ob hn1 hb;simp only at hn1;rcases I3 id with⟨bx,SB⟩|e1
  ·obtain⟨j,hj,_⟩:=CN id bx SB;rw[hj] at hb;exact (out.fresh j b ob hb).1
  ·rw[e1] at hn1;rw[hβold id hn1] at hb
   have hn2:s.hp id≠none:=by
    by_cases Bx:id∈lids
    ·exact Di (EP id (.inl Bx))
    ·rw[hpK id Bx,Hj] at hn1;intro e2;have h1:Af s.hp m id=none:=Ew.2 e2;rw[h1] at hn1;split at hn1<;>exact hn1 rfl
   exact Gb (h.blt id b ob hn2 hb) out.ext.size
 ·have:=Ta (Q:=fun _ p _=>∀id∈Cc p,Au Dr (bs++bs') id≠none) (val:=J1 us) (d:=o.dst) (v:=Ra ws (Sy P o.type)) h.tsz Ald (fun i hi id Bx=>Awd id (.inl (h.wfT i hi id Bx))) (fun _ id Bx=>Awd id (.inr (by
   obtain⟨bx,hb⟩:=hvr id Bx;exact⟨bx,Bn.2 (.inl hb)⟩)))
  exact this
 ·intro id cells XP p hp i hi;simp only at XP;refine Awd i ?_;rcases I3 id with⟨bx,SB⟩|e1
  ·rw[hg1 id bx SB] at XP;cases XP;rcases Bn.1 SB with SB|SB
   ·obtain⟨bx1,hb⟩:=hri id cells SB p hp i hi;exact .inr ⟨bx1,Bn.2 (.inl hb)⟩
   ·obtain⟨cc,e2⟩:=Fv id _ SB;cases e2
  ·rw[e1] at XP;by_cases Bx:id∈lids
   ·rcases Au6 id Bx with⟨off,c1,cs,h1,h2,h3,h4⟩|⟨c1,cs,h1,h2⟩
    ·rw[h2] at XP;cases XP;unfold B1 at hp;rcases Bn.1 hp with hp|hp
     ·rcases Bn.1 hp with hp|hp
      ·exact .inl (h.wfB id c1 h1 p (List.mem_of_mem_take hp) i hi)
      ·obtain⟨bx1,hb⟩:=h4 p hp i hi;exact .inr ⟨bx1,Bn.2 (.inr hb)⟩
     ·exact .inl (h.wfB id c1 h1 p (List.mem_of_mem_drop hp) i hi)
    ·rw[h2] at XP;cases XP
   ·obtain⟨_,_,h3⟩:=hold id _ XP trivial;rcases h3 with h3|⟨_,h3⟩
    ·exact absurd h3 Bx
    ·exact .inl (h.wfB id cells (K7 h3 trivial) p hp i hi)
 ·rintro b ⟨id,ob,hl,hβ⟩
  rcases Id b w.heap.size with Cm|hge
  ·exact h.ownd b (hX b Cm ⟨id,ob,hl,hβ⟩)
  ·exact .inr (Nat.le_trans h.fr.step.size hge)
 ·intro id bx b ob hb hl hβ Cm j hj;simp only at hb;have hlw:=Gb Cm h.fr.step.size;rcases I3 id with⟨bx',SB⟩|e1
  ·rw[hg1 id bx' SB] at hb;cases hb;obtain⟨k,hk,_⟩:=CN id bx SB;rw[hk] at hβ
   have FS:ob<=j:=by
    cases bx with
    |st cc=>exact hj.1
    |ar fz cc=>exact hj
    |mv=>exact hl.elim
   obtain⟨id2,o2,bx2,h1,h2,h3,h4⟩:=hCL b j (((out.fresh k b ob hβ).2 hlw).2 j FS);exact h.rngB id2 bx2 b o2 h1 h2 h3 Cm j h4
  ·rw[e1] at hb;rw[hβold id (by rw[hb];simp)] at hβ
   obtain⟨h1,h2,h3⟩:=hold id bx hb hl;rcases h3 with h3|⟨h3,h4⟩
   ·rcases Au6 id h3 with⟨off,c1,cs,h5,h6,h7,_⟩|⟨c1,cs,h5,h6⟩
    ·rw[h6] at hb;cases hb;have hj:ob<=j/\j<ob+(B1 c1 cs off).length:=hj;rw[Vk (by omega)] at hj;exact h.rngB id _ b ob h5 trivial hβ Cm j hj
    ·rw[h6] at hb;cases hb;exact h.rngB id _ b ob h5 trivial hβ Cm j hj
   ·exact h.rngB id bx b ob (K7 h4 hl) hl hβ Cm j hj
 ·intro i hi;obtain⟨h1,h2⟩:=h.pin i hi;exact⟨Awd _ (.inl h1),by rw[Ato _ h1];exact h2⟩
 ·intro id cc b ob hb hβ Cm;simp only at hb;have hlw:=Gb Cm h.fr.step.size;rcases I3 id with⟨bx',SB⟩|e1
  ·rw[hg1 id bx' SB] at hb;cases hb;have:=(Aww id _ SB).2.2 cc rfl b ob hβ;omega
  ·rw[e1] at hb;rw[hβold id (by rw[hb];simp)] at hβ
   obtain⟨h1,h2,h3⟩:=hold id _ hb trivial;rcases h3 with h3|⟨h3,h4⟩
   ·rcases Au6 id h3 with⟨off,c1,cs,h5,h6,h7,_⟩|⟨c1,cs,h5,h6⟩
    ·exact h.stp id c1 b ob h5 hβ Cm
    ·rw[h6] at hb;cases hb
   ·exact h.stp id cc b ob (K7 h4 trivial) hβ Cm
 ·intro b hY hXb;exact h.Yx b hY (hX b (Gb (h.Ylt b hY) h.fr.step.size) hXb)
 ·refine⟨out.os.trans h.fr.os,out.tape.trans h.fr.tape,out.output.trans h.fr.output,⟨Nat.le_trans h.fr.step.size out.ext.size,fun b hb hnX=>?_,fun b hb=>(h.fr.step.bs b hb).trans (out.ext.bs b (Gb hb h.fr.step.size))⟩,fun b j hb hnL=>?_⟩
  ·rw[out.ext.keep b (Gb hb h.fr.step.size) ?_]
   ·exact h.fr.step.keep b hb hnX
   ·intro hB;rcases h.ownd b (hBA b hB) with hq|hq
    ·exact hnX hq
    ·omega
  ·have XH:¬QN bt vs b j:=by
    intro hq;obtain⟨id2,o2,bx2,h1,h2,h3,h4⟩:=hCL b j hq;exact hnL (h.rngB id2 bx2 b o2 h1 h2 h3 hb j h4)
   obtain⟨h1,h2⟩:=out.rng b j (Gb hb h.fr.step.size) XH;rw[h1,h2];exact h.fr.rng b j hb hnL
end
open Go.RowKit
section
variable {R:Type}{r:R}{P:Program}{N:Nat}{w0:World}{X0:Jw}{Y:Nat->Prop}{β β':Bt}{s:St}{a:Act}{w w':World}{o:Oper}{A:Nat->Prop}
theorem WV(h:Df N w0 X0 Y β s a w){c:Call}(ho:o.op=.call c)(hc:c.callee=.builtin .append){d:Nat}(Ald:o.dst=some d){b x:Operand}(F9:c.args.toList=[b,x]){t tx:TypeId}{ts:List TypeId}(LA:c.argTypes.toList=t::tx::ts){K:St->Option R}(hk:Zv P N s d t tx (Ck s.tm b) (Ck s.tm x) K=some r):
  ∃s',K s'=some r/\∀(next:Act->World->Prop) (Q:Exit->Act->World->Prop),(∀a' w' β',Df N w0 X0 Y β' s' a' w'->next a' w')->o.wp P a w next Q:=by
 have RB:c.args = #[b,x]:=by
  have:c.args=([b,x]:List Operand).toArray:=by rw[<-F9]
  exact this
 have Aak:c.argTypes=(t::tx::ts).toArray:=by rw[<-LA]
 have run:∀{v:Value} {w1:World},(Builtin.append_ (t::tx::ts).toArray o.type #[a.eval b,a.eval x]).run P w=.ok v w1->∀(next:Act->World->Prop) (Q:Exit->Act->World->Prop),next (a.put (some d) v) w1->o.wp P a w next Q:=by
  intro v w1 hr next Q hn;unfold Oper.wp execOp;rw[ho];simp only[resolve,hc,invoke,builtin,Sem.run_bind,Sem.run_pure,Result.andThen_ok,RB,Aak];have:(#[b,x]:Array Operand).map a.eval = #[a.eval b,a.eval x]:=by simp
  rw[this,hr];show next (a.put o.dst v) w1;rw[Ald];exact hn
 have hbv:=Dj h b;have hbr:=F4 h b;unfold Zv at hk;split at hk
 ·rename_i e hu;obtain⟨hzi,hk⟩:=Am hk;obtain⟨i,z,hi,hz,hzs,Sx⟩:=OC hzi;cases hit:MA P tx
  rotate_left
  ·rw[hit] at hk;simp only[cond_true] at hk
   obtain⟨ki,htx⟩:∃k,P.underlying tx=some (.int k):=by
    unfold MA at hit;split at hit
    ·exact⟨_,by assumption⟩
    ·cases hit
   unfold GE at hk;obtain⟨kx,n,hx,hk⟩:=Ef hk;obtain⟨zz,n',c',hk,hp⟩:=Hz hk;obtain⟨hb,hk⟩:=Am hk;simp only[Er,Xi] at hb;obtain⟨⟨⟨⟨⟨hzz,hdN⟩,Z6⟩,GS⟩,hby⟩,SM⟩:=hb;have hdN:d<N:=Nat.lt_of_succ_le (Oj hdN);have Z6:s.hp d=none:=by simpa using Z6
   have Ag1:Hp N (some d)=true:=by simp[Hp,Nat.blt];omega
   have Yh:((P.info? e).map (·.bytes)).getD 0=i.bytes:=by rw[hi];rfl
   rw[Yh] at hby;rw[Sx] at hk;have D4:=Cl h hx;rcases Hx hp hbv with⟨Tk,_⟩|⟨_,_,_,PZ,_⟩|⟨_,_,_,PZ,_⟩
   ·refine⟨_,hk,fun next Q hn=>?_⟩;by_cases hm0:n=0
    ·subst hm0;have hr:=HK (P:=P) (w:=w) (t:=t) (tx:=tx) (ty:=o.type) (ts:=ts) (kx:=kx) hu htx hi;rw[<-Tk,<-D4] at hr;refine run hr next Q (hn _ _ (C7 β d none) ?_);rw[Tk];refine h.stepR (d:=some d) (nw:=[(d,.ar false [])]) (β':=C7 β d none) Ag1 (by simp[B6,Z6]) ⟨rfl,rfl,rfl,Cq.refl _ _,fun j hj=>Ak _ _ (by rintro rfl;exact hj Z6),?_,?_,?_,?_,?_,.inl ⟨An _ _ _,rfl,rfl,none,rfl⟩,?_⟩
     ·intro j bx hm;simp at hm;rw[hm.2];trivial
     ·intro j bx hm;simp at hm;obtain⟨rfl,rfl⟩:=hm;exact .inl ⟨An _ _ _,rfl⟩
     ·intro j bx k q hm hq;simp at hm;obtain⟨rfl,rfl⟩:=hm;rw[An] at hq;cases hq
     ·intro j bx j' bx' k q q' hm M6 _ _;simp at hm M6;rw[hm.1,M6.1]
     ·intro j cells hm;simp at hm
     ·intro j hj;simp[Cc,Ct,As] at hj;subst hj;exact .inr ⟨.ar false [],by simp⟩
    ·have hr:=LB (P:=P) (w:=w) (t:=t) (tx:=tx) (ty:=o.type) (ts:=ts) (kx:=kx) hu htx hi hz (n:=n) (by omega) hby SM;rw[<-Tk,<-D4] at hr;refine run hr next Q (hn _ _ (C7 β d (some (w.heap.size,0))) ?_);have hge:n.toNat<=grownCap w n.toNat 0 e:=grownCap_ge w n.toNat 0 e;generalize KL:((if n.toNat*i.size=0 then #[] else Builtin.zeroCells z.cells n.toNat)++Builtin.zeroCells z.cells (grownCap w n.toNat 0 e-n.toNat))=cs
     have DF:Ho w (w.drew.alloc (.cells cs e)) cs e:=
      ⟨rfl,rfl,rfl,fun k hk=>Below.heap_alloc w.drew _ k hk,by show (w.heap.push _).size=_;simp,(0,0),by show (w.heap.push _)[w.heap.size]?=_;simp,.inl rfl⟩
     have Afz:cs.size=grownCap w n.toNat 0 e*i.size:=by
      rw[<-KL];by_cases hs0:n.toNat*i.size=0
      ·rw[Cy hs0]
       have hi0:i.size=0:=by
        rcases Nat.mul_eq_zero.1 hs0 with h|h
        ·omega
        ·exact h
       simp[size_zeroCells,hzs,hi0]
      ·rw[Bl hs0];simp only[Array.size_append,size_zeroCells,hzs,<-Nat.add_mul]
       congr 1
       omega
     refine h.stepR (d:=some d) (nw:=[(d,.ar false [])]) Ag1 (by simp[B6,Z6]) (T8 DF Z6 trivial ?_ (fun cells hx=>by cases hx) ?_ (by intro j hj;simp[Cc,Ct,As] at hj;exact .inr hj))
     ·refine .inr ⟨w.heap.size,0,An _ _ _,fun j p hj=>by simp at hj,fun _ j _ hj=>?_,(fun q=>by cases q)⟩;rw[DF.bsz] at hj;exact DF.frozen hj
     ·refine .inr ⟨w.heap.size,0,0,grownCap w n.toNat 0 e,An _ _ _,rfl,.inl rfl,hge,?_,by rw[DF.size];omega⟩
      exact⟨by rw[DF.bsz,Afz];omega,.inr (Ng w.drew _ e)⟩
   ·rw[PZ] at hzz;cases hzz
   ·rw[PZ] at hzz;cases hzz
  rw[hit] at hk;simp only[cond_false] at hk;have Yh:((P.info? e).map (·.bytes)).getD 0=i.bytes:=by rw[hi];rfl
  obtain⟨⟨dx,hdx,Ab9⟩,m,new,news,hk,hs⟩:=MP h hk (by
   intro m new hk;split at hk
   ·split at hk
    ·obtain⟨hb,_⟩:=Am hk;simp only[Er,Xi] at hb;have he:=C6 hb.1.1.1.1.1.1.1;rw[<-he];exact hb.1.1.2
    ·cases hk
   ·obtain⟨zz,n',c',hk,_⟩:=Hz hk;obtain⟨hb,_⟩:=Am hk;simp only[Er,Xi] at hb;exact hb.1.1.2)
  rw[Sx] at hs;have hnl:new.length=news.length:=hs.rep.len;split at hk
  ·rename_i id es off n eb;rw[eb] at hbv hbr;split at hk
   ·rename_i cc h0;obtain⟨hb,Fu⟩:=Am hk;simp only[Er,Xi] at hb;obtain⟨⟨⟨⟨⟨⟨⟨AB,Tg⟩,hdN⟩,Z6⟩,Baw⟩,Aij⟩,hby⟩,SM⟩:=hb;have AB:=C6 AB;have Tg:=C6 Tg;have hdN:d<N:=Nat.lt_of_succ_le (Oj hdN);have Z6:s.hp d=none:=by simpa using Z6
    subst Tg;rw[Sx] at AB;subst AB;rw[Yh] at hby;have JD:news.length=m*i.size:=by omega
    have Bg5:s.hp id≠none:=by rw[h0];simp
    have Al8:=h.box id _ h0;refine⟨_,Fu,fun next Q hn=>?_⟩
    have grow:∀(ad:Option Addr) (cap:Nat) (olds:List Value),a.eval b=.slice ad n cap->Be (At w (Dt s.hp β Y)) (cc.take (n*i.size)) olds->(∀u∈olds,u.oneCell'=true)->olds.length=n*i.size ->
      ((ad=none/\olds=[])\/∃p,ad=some p/\olds.length=n*i.size/\∀(j:Nat) v,olds[j]?=some v->w.cell? (p.add j)=some v)->cap<n+m->o.wp P a w next Q:=by
     intro ad cap olds Tk holds h1 hol hold CO;have hr:=Pe (P:=P) (w:=w) (t:=t) (tx:=tx) (ty:=o.type) (ts:=ts) hu hdx Ab9 hi hz hs hold CO hby SM;rw[<-Tk] at hr;refine run hr next Q (hn _ _ (C7 β d (some (w.heap.size,0))) ?_);have hge:n+m<=grownCap w (n+m) cap e:=grownCap_ge w (n+m) cap e
     have DF:Ho w (w.drew.alloc (.cells (olds.toArray++news.toArray++Builtin.zeroCells z.cells (grownCap w (n+m) cap e-(n+m))) e)) (olds.toArray++news.toArray++Builtin.zeroCells z.cells (grownCap w (n+m) cap e-(n+m))) e:=
      ⟨rfl,rfl,rfl,fun k hk=>Below.heap_alloc w.drew _ k hk,by show (w.heap.push _).size=_;simp,(0,0),by show (w.heap.push _)[w.heap.size]?=_;simp,.inl rfl⟩
     have Afz:(olds.toArray++news.toArray++Builtin.zeroCells z.cells (grownCap w (n+m) cap e-(n+m))).size=grownCap w (n+m) cap e*i.size:=by
      simp only[Array.size_append,List.size_toArray,size_zeroCells,hzs,hol,JD,<-Nat.add_mul]
      congr 1
      omega
     have YW:∀k y,some (w.heap.size,0)=some (k,y)->w.heap.size<=k\/∃q,β id=some (k,q):=by
      intro k y hh;simp at hh;exact .inl (by omega)
     refine h.move h0 Z6 hdN rfl rfl rfl (by rw[DF.size];omega) (fun k hk _=>DF.old k hk) DF.step.bs (fun k y hh=>⟨by simp at hh;rw[DF.size];omega,YW k y hh⟩) (fun k y hh Cm=>by simp at hh;omega)
      (fun k y _ Cm j _=>⟨World.cell?_of_block (w:=w) (DF.old k Cm),World.frozen?_of_block (w:=w) (DF.old k Cm)⟩) ?_ ?_ (by intro j hj;simpa [Cc,Ct,As] using hj)
     ·refine .inr ⟨w.heap.size,0,An _ _ _,OB DF (Aga h0 Z6 YW) holds hs.rep h1 hs.one,fun _ j _ hj=>?_,(fun q=>by cases q)⟩;rw[DF.bsz] at hj;exact DF.frozen hj
     ·refine .inr ⟨w.heap.size,0,0,grownCap w (n+m) cap e,An _ _ _,rfl,.inl rfl,hge,?_,by rw[DF.size];omega⟩
      exact⟨by rw[DF.bsz,Afz];omega,.inr (Ng w.drew _ e)⟩
    rcases hbv with⟨hβ,_,rfl,ad,Tk⟩|⟨bb,ob,y,cap,hβ,Tk,hy,A6y,CO,A46⟩
    ·rcases Al8 with⟨_,rfl⟩|⟨b',o',Fv,_⟩
     ·by_cases hm0:m=0
      ·subst hm0;have hr:=Pg (P:=P) (w:=w) (t:=t) (tx:=tx) (ty:=o.type) (ts:=ts) (ad:=ad) hu hdx Ab9 hi hs (List.eq_nil_of_length_eq_zero (by omega));rw[<-Tk] at hr;have Abj:new=[]:=List.eq_nil_of_length_eq_zero (by omega);subst Abj;refine run hr next Q (hn _ _ (C7 β d none) ?_);rw[Tk];refine h.move h0 Z6 hdN rfl rfl rfl (Cn _) (fun _ _ _=>rfl) (fun _ _=>Ij.refl _ _) (fun k q hh=>by cases hh) (fun k q hh=>by cases hh) (fun _ _ _ _ _ _=>⟨rfl,rfl⟩) ?_ ?_ (by intro j hj;simpa [Cc,Ct,As] using hj)
       ·exact .inl ⟨An _ _ _,by simp⟩
       ·exact .inl ⟨An _ _ _,rfl,rfl,ad,rfl⟩
      ·exact grow ad 0 [] Tk (by simp[Be]) (by simp) (by simp) (by cases ad with
        |none=>exact .inl ⟨rfl,rfl⟩
        |some p=>exact .inr ⟨p,rfl,by simp,fun j v hj=>by simp at hj⟩) (by omega)
     ·rw[hβ] at Fv;cases Fv
    ·rcases Al8 with⟨Fv,_⟩|⟨b',o',Fv,Ir,JX,_⟩
     ·rw[hβ] at Fv;cases Fv
     rw[hβ] at Fv;simp at Fv;obtain⟨rfl,rfl⟩:=Fv;have hy:y=ob:=by rcases hy with hy|⟨_,hq⟩<;>omega
     subst hy;by_cases Apg:n+m<=cap
     ·have Ajh:y+n*i.size+news.length<=bsz w bb:=by
       have h5:n*i.size+m*i.size<=cap*i.size:=by rw[<-Nat.add_mul];exact Nat.mul_le_mul_right _ Apg
       have:=CO.1;omega
      have hcell:∀k,k<news.length->(w.cell? ⟨bb,y+n*i.size+k,none⟩).isSome=true:=fun k hk=>Aq8 (by omega);have hr:=LF (P:=P) (w:=w) (t:=t) (tx:=tx) (ty:=o.type) (ts:=ts) (b:=bb) (ob:=y) (n:=n) (cap:=cap) hu hdx Ab9 hi hs JD hcell (fun k hk=>JX rfl _ (by omega) (by omega)) Apg;rw[<-Tk] at hr;have hw:=Ei.setCells bb news (y+n*i.size) w
      have YW:∀k q,some (bb,y)=some (k,q)->w.heap.size<=k\/∃q',β id=some (k,q'):=by
       intro k q hh;simp at hh;obtain⟨rfl,rfl⟩:=hh;exact .inr ⟨_,hβ⟩
      refine run hr next Q (hn _ _ (C7 β d (some (bb,y))) ?_)
      have G0:Cq (Dt s.hp β Y) w (w.setCells bb (y+n*i.size) news):=by
       have hAb:Dt s.hp β Y bb:=.inl ⟨id,y,by rw[h0];trivial,hβ⟩
       exact⟨by rw[hw.size];exact Cn _,fun k _ hk=>hw.other k (fun e=>hk (e ▸ hAb)),fun k _=>hw.grow k⟩
      refine h.move h0 Z6 hdN hw.os hw.tape hw.output (by rw[hw.size];exact Cn _) (fun k _ hq=>hw.other k (by rintro rfl;exact hq _ hβ)) G0.bs (fun k q hh=>⟨by simp at hh;rw[hw.size];omega,YW k q hh⟩) (fun k q hh _=>by rw[hβ];exact hh)
       (fun k q hh _ j hj=>by
        rw[hβ] at hh;cases hh;exact⟨World.cell?_setCells_out bb _ _ w ⟨bb,j,none⟩ (fun _ _=>by show j<y+n*i.size\/y+n*i.size+_<=j;omega),hw.frz j⟩) ?_ ?_ (by intro j hj;simpa [Cc,Ct,As] using hj)
      ·refine .inr ⟨bb,y,An _ _ _,fun j p hj=>?_,fun _ j hj Xj=>?_,(fun q=>by cases q)⟩
       ·rw[Ff];by_cases hjn:j<n*i.size
        ·rw[List.getElem?_append_left (by rw[List.length_take];omega),List.getElem?_take_of_lt hjn] at hj
         obtain⟨u,Lk,h5,ht⟩:=Ir j p hj;rw[Ff] at Lk;refine⟨u,?_,h5,ht.step G0 (Aga h0 Z6 YW)⟩;rw[World.cell?_setCells_out bb _ _ w ⟨bb,y+j,none⟩ (fun _ _=>by show y+j<y+n*i.size\/y+n*i.size+_<=y+j;omega)]
         exact Lk
        ·rw[List.getElem?_append_right (by rw[List.length_take];omega),List.length_take,Nat.min_eq_left Baw] at hj
         obtain⟨u,Lk,ht⟩:=hs.rep.get hj
         have Cm:j-n*i.size<news.length:=by
          rcases Id (j-n*i.size) news.length with h|h
          ·exact h
          ·rw[List.getElem?_eq_none h] at Lk;cases Lk
         refine⟨u,?_,hs.one u (List.mem_of_getElem? Lk),ht.step G0 (Aga h0 Z6 YW)⟩;have:=World.cell?_setCells_in bb news (y+n*i.size) w hcell (j-n*i.size) Cm;rw[show y+j=y+n*i.size+(j-n*i.size) from by omega,this];rw[List.getElem?_eq_getElem Cm] at Lk;exact Lk
       ·rw[hw.bs] at Xj;rw[hw.frz];exact JX rfl j hj Xj
      ·exact .inr ⟨bb,y,y,cap,An _ _ _,rfl,.inl rfl,Apg,CO.step (hw.grow bb),by rw[hw.size];exact A46⟩
     ·-- the old cells
      have hob:∀(j:Nat) p,(cc.take (n*i.size))[j]?=some p->∃v,w.cell? ⟨bb,y+j,none⟩=some v/\v.oneCell'=true/\At w (Dt s.hp β Y) p v:=by
       intro j p hj;rw[List.getElem?_take] at hj;split at hj
       ·obtain⟨v,hv,h5,ht⟩:=Ir j p hj;rw[Ff] at hv;exact⟨v,hv,h5,ht⟩
       ·cases hj
      have Eb:(cc.take (n*i.size)).length=n*i.size:=by rw[List.length_take];omega
      refine grow _ cap ((cc.take (n*i.size)).mapIdx fun j _=>(w.cell? ⟨bb,y+j,none⟩).getD undef) Tk ?_ ?_ (by simp only[List.length_mapIdx];exact Eb) (.inr ⟨_,rfl,by simp only[List.length_mapIdx];exact Eb,fun j v hj=>?_⟩) (by omega)
      ·refine Be.of_at (by simp) fun j p v hp hv=>?_;obtain⟨u,Lk,_,ht⟩:=hob j p hp;rw[List.getElem?_mapIdx,hp,Option.map_some,Lk] at hv;simp at hv;subst hv;exact ht
      ·intro v hv;obtain⟨j,hj⟩:=List.mem_iff_getElem?.1 hv;rw[List.getElem?_mapIdx] at hj;cases hp:(cc.take (n*i.size))[j]? with
       |none=>rw[hp] at hj;cases hj
       |some p=>
        obtain⟨u,Lk,h5,_⟩:=hob j p hp;rw[hp,Option.map_some,Lk] at hj;simp at hj;subst hj;exact h5
      ·rw[List.getElem?_mapIdx] at hj;cases hp:(cc.take (n*i.size))[j]? with
       |none=>rw[hp] at hj;cases hj
       |some p=>
        obtain⟨u,Lk,h5,_⟩:=hob j p hp;rw[hp,Option.map_some,Lk] at hj;simp at hj;subst hj;rw[Ff];exact Lk
   ·cases hk
  ·obtain⟨zz,n',c',hk,hp⟩:=Hz hk;obtain⟨hb,hk⟩:=Am hk;simp only[Er,Xi] at hb;obtain⟨⟨⟨⟨⟨hzz,hdN⟩,Z6⟩,Aij⟩,hby⟩,SM⟩:=hb;have hdN:d<N:=Nat.lt_of_succ_le (Oj hdN);have Z6:s.hp d=none:=by simpa using Z6
   have Ag1:Hp N (some d)=true:=by simp[Hp,Nat.blt];omega
   rw[Sx] at Aij hk;rw[Yh] at hby;have JD:news.length=m*i.size:=by omega
   rcases Hx hp hbv with⟨Tk,_⟩|⟨_,_,_,PZ,_⟩|⟨_,_,_,PZ,_⟩
   ·refine⟨_,hk,fun next Q hn=>?_⟩;by_cases hm0:m=0
    ·subst hm0;have hr:=Pg (P:=P) (w:=w) (t:=t) (tx:=tx) (ty:=o.type) (ts:=ts) (ad:=none) hu hdx Ab9 hi hs (List.eq_nil_of_length_eq_zero (by omega));rw[<-Tk] at hr;have Abj:new=[]:=List.eq_nil_of_length_eq_zero (by omega);subst Abj;refine run hr next Q (hn _ _ (C7 β d none) ?_);rw[Tk];refine h.stepR (d:=some d) (nw:=[(d,.ar false [])]) (β':=C7 β d none) Ag1 (by simp[B6,Z6]) ⟨rfl,rfl,rfl,Cq.refl _ _,fun j hj=>Ak _ _ (by rintro rfl;exact hj Z6),?_,?_,?_,?_,?_,.inl ⟨An _ _ _,rfl,rfl,none,rfl⟩,?_⟩
     ·intro j bx hm;simp at hm;rw[hm.2];trivial
     ·intro j bx hm;simp at hm;obtain⟨rfl,rfl⟩:=hm;exact .inl ⟨An _ _ _,rfl⟩
     ·intro j bx k q hm hq;simp at hm;obtain⟨rfl,rfl⟩:=hm;rw[An] at hq;cases hq
     ·intro j bx j' bx' k q q' hm M6 _ _;simp at hm M6;rw[hm.1,M6.1]
     ·intro j cells hm;simp at hm
     ·intro j hj;simp[Cc,Ct,As] at hj;subst hj;exact .inr ⟨.ar false [],by simp⟩
    ·have hr:=Pe (P:=P) (w:=w) (t:=t) (tx:=tx) (ty:=o.type) (ts:=ts) (ad:=none) (n:=0) (cap:=0) (olds:=[]) hu hdx Ab9 hi hz hs (.inl ⟨rfl,rfl⟩) (by omega) (by rw[Ig];exact hby) (by omega)
     rw[<-Tk] at hr;refine run hr next Q (hn _ _ (C7 β d (some (w.heap.size,0))) ?_);have hge:0+m<=grownCap w (0+m) 0 e:=grownCap_ge w (0+m) 0 e
     have DF:Ho w (w.drew.alloc (.cells (([]:List Value).toArray++news.toArray++Builtin.zeroCells z.cells (grownCap w (0+m) 0 e-(0+m))) e)) (([]:List Value).toArray++news.toArray++Builtin.zeroCells z.cells (grownCap w (0+m) 0 e-(0+m))) e:=
      ⟨rfl,rfl,rfl,fun k hk=>Below.heap_alloc w.drew _ k hk,by show (w.heap.push _).size=_;simp,(0,0),by show (w.heap.push _)[w.heap.size]?=_;simp,.inl rfl⟩
     have Afz:(([]:List Value).toArray++news.toArray++Builtin.zeroCells z.cells (grownCap w (0+m) 0 e-(0+m))).size=grownCap w (0+m) 0 e*i.size:=by
      simp only[Array.size_append,List.size_toArray,size_zeroCells,hzs,JD,LP,<-Nat.add_mul];rw[Ig (m*i.size),<-Nat.add_mul]
      congr 1
      omega
     refine h.stepR (d:=some d) (nw:=[(d,.ar false new)]) Ag1 (by simp[B6,Z6]) (T8 DF Z6 trivial ?_ (fun cells hx=>by cases hx) ?_ (by intro j hj;simp[Cc,Ct,As] at hj;exact .inr hj))
     ·refine .inr ⟨w.heap.size,0,An _ _ _,?_,fun _ j _ hj=>?_,(fun q=>by cases q)⟩
      ·exact OB (pre:=[]) DF (Aht Z6) trivial hs.rep (by simp) hs.one
      ·rw[DF.bsz] at hj;exact DF.frozen hj
     ·refine .inr ⟨w.heap.size,0,0,grownCap w (0+m) 0 e,An _ _ _,by rw[Ig],.inl rfl,by omega,?_,by rw[DF.size];omega⟩
      exact⟨by rw[DF.bsz,Afz];omega,.inr (Ng w.drew _ e)⟩
   ·rw[PZ] at hzz;cases hzz
   ·rw[PZ] at hzz;cases hzz
 ·cases hk
theorem Agp(h:Df N w0 X0 Y β s a w){c:Call}(ho:o.op=.call c)(hc:c.callee=.builtin .copy){b x:Operand}(F9:c.args.toList=[b,x]){t tx:TypeId}{ts:List TypeId}(LA:c.argTypes.toList=t::tx::ts){K:St->Option R}(hk:TT P N s o.dst t tx (Ck s.tm b) (Ck s.tm x) K=some r):
  ∃s',K s'=some r/\∀(next:Act->World->Prop) (Q:Exit->Act->World->Prop),(∀a' w' β',Df N w0 X0 Y β' s' a' w'->next a' w')->o.wp P a w next Q:=by
 have RB:c.args = #[b,x]:=by
  have:c.args=([b,x]:List Operand).toArray:=by rw[<-F9]
  exact this
 have Aak:c.argTypes=(t::tx::ts).toArray:=by rw[<-LA]
 have run:∀{v:Value} {w1:World},(Builtin.copy_ (t::tx::ts).toArray o.type #[a.eval b,a.eval x]).run P w=.ok v w1->∀(next:Act->World->Prop) (Q:Exit->Act->World->Prop),next (a.put o.dst v) w1->o.wp P a w next Q:=by
  intro v w1 hr next Q hn;unfold Oper.wp execOp;rw[ho];simp only[resolve,hc,invoke,builtin,Sem.run_bind,Sem.run_pure,Result.andThen_ok,RB,Aak];have:(#[b,x]:Array Operand).map a.eval = #[a.eval b,a.eval x]:=by simp
  rw[this,hr];exact hn
 have hbv:=Dj h b;unfold TT at hk;split at hk
 ·rename_i e hu;obtain⟨hzi,hk⟩:=Am hk;simp only[Er] at hzi;obtain⟨Ts,Ag1⟩:=hzi;obtain⟨i,hi⟩:∃i,P.info? e=some i:=Option.isSome_iff_exists.1 Ts;have Sx:A7 P e=i.size:=by unfold A7;rw[hi];rfl
  have h1c:∀(m:Nat) (new:Ad),(match Ck s.tm b with
    |.view id es off n=>
     match s.hp id with
     |some (.ar false c)=>Ar (Nat.beq es (A7 P e)&&decide (off+n*es<=c.length)&&decide (new.length=m*es))
       (Aa (min m n) fun k=>Aa (B1 c (new.take (k*es)) off) fun c=>K ⟨C4 s.tm o.dst (.sc (.int .i64 k)),C7 s.hp id (some (.ar false c))⟩)
     |_=>none
    |_=>none)=some r->new.length=m*A7 P e:=by
   intro m new hk;split at hk
   ·split at hk
    ·obtain⟨hb,_⟩:=Am hk;simp only[Er,Xi] at hb;rw[<-C6 hb.1.1];exact hb.2
    ·cases hk
   ·cases hk
  obtain⟨_,m,new,news,hk,hs⟩:=MP h hk h1c;split at hk
  ·rename_i id es off n hb;rw[hb] at hbv;split at hk
   ·rename_i cc h0;obtain⟨hb,hk⟩:=Am hk;simp only[Er,Xi] at hb;obtain⟨⟨AB,FS⟩,hnl⟩:=hb;have AB:=C6 AB;subst AB;rw[Sx] at hk hs FS hnl hbv;have JD:news.length=m*i.size:=by rw[<-hs.rep.len];exact hnl
    have hkm:min m n*i.size<=m*i.size:=Nat.mul_le_mul_right _ (Nat.min_le_left _ _);have hkn:min m n*i.size<=n*i.size:=Nat.mul_le_mul_right _ (Nat.min_le_right _ _);have Pb:K ⟨C4 s.tm o.dst (.sc (.int .i64 ((min m n:Nat):Int))),C7 s.hp id (some (.ar false (B1 cc (new.take (min m n*i.size)) off)))⟩=some r:=hk;refine⟨_,Pb,fun next Q hn=>?_⟩
    have Aun:∀{β':Bt} {Dr:Nat->Option B2} {w':World},Df N w0 X0 Y β' ⟨s.tm,Dr⟩ a w'->Df N w0 X0 Y β' ⟨C4 s.tm o.dst (.sc (.int .i64 ((min m n:Nat):Int))),Dr⟩ (a.put o.dst (goInt ((min m n:Nat):Int))) w':=
     fun hh=>hh.put Ag1 (At.sc _) (fun _ hx=>by cases hx)
    have Aqc:new.take (min m n*i.size)=[]->C7 s.hp id (some (.ar false (B1 cc (new.take (min m n*i.size)) off)))=s.hp:=by
     intro e;rw[e];refine GK _ ?_;rw[h0];simp[B1]
    have nothing:min m n*i.size=0->∀(ad:Option Addr) (cap:Nat),a.eval b=.slice ad n cap->o.wp P a w next Q:=by
     intro e ad cap Tk;have hr:=Adw (P:=P) (w:=w) (w1:=w) (t:=t) (ty:=o.type) (ts:=tx::ts) (ad:=ad) (n:=n) (cap:=cap) hu hi hs (by rw[e];cases ad<;>simp[storeCells])
     rw[<-Tk] at hr;refine run hr next Q (hn _ _ β (Aun ?_));rw[Aqc (by rw[e,List.take_zero])];exact h
    rcases hbv with⟨hβ,_,rfl,ad,Tk⟩|⟨bb,ob,y,cap,hβ,Tk,hy,A6y,CO,A46⟩
    ·exact nothing (by simp) ad 0 Tk
    ·by_cases hm0:min m n*i.size=0
     ·exact nothing hm0 _ _ Tk
     rcases h.box id _ h0 with⟨Fv,_⟩|⟨b',o',Fv,Ir,JX,_⟩
     ·rw[hβ] at Fv;cases Fv
     rw[hβ] at Fv;simp at Fv;obtain⟨rfl,rfl⟩:=Fv;have GS:n≠0:=by rintro rfl;simp at hm0
     have hy:y=ob+off:=by rcases hy with hy|⟨hq,_⟩<;>first|exact absurd hq GS|exact hy
     subst hy;have Cm:(news.take (min m n*i.size)).length=min m n*i.size:=by rw[List.length_take,JD];omega
     have hcell:∀k,k<(news.take (min m n*i.size)).length->(w.cell? ⟨bb,ob+off+k,none⟩).isSome=true:=by
      intro k hk;obtain⟨v,hv,_⟩:=Ir (off+k) _ (List.getElem?_eq_getElem (by omega));rw[Ff] at hv;rw[Pi,hv];rfl
     have hfr:∀k,k<(news.take (min m n*i.size)).length->w.frozen? ⟨bb,ob+off+k,none⟩=false:=fun k hk=>by
      obtain⟨u,hu⟩:=Option.isSome_iff_exists.1 (hcell k hk);exact JX rfl _ (by omega) (QF hu)
     have h1:∀u∈news.take (min m n*i.size),u.oneCell'=true:=fun u hu=>hs.one u (List.mem_of_mem_take hu);have h3:=run_storeCells_cells (P:=P) bb (ob+off) (news.take (min m n*i.size)) 0 w (fun k hk=>by simpa using hcell k hk) (fun k hk=>by simpa using hfr k hk) h1;have hr:=Adw (P:=P) (w:=w) (t:=t) (ty:=o.type) (ts:=tx::ts) (ad:=some ⟨bb,ob+off,none⟩) (n:=n) (cap:=cap) hu hi hs h3;rw[<-Tk] at hr;simp only[YI] at hr;refine run hr next Q (hn _ _ β (Aun ?_))
     refine h.write h0 trivial trivial hβ (Ei.setCells bb _ _ w) ?_ (fun cells hx=>by cases hx) (fun _ hx=>by cases hx) (fun j hj=>hj) (fun j hj=>by
      refine World.cell?_setCells_out bb _ _ w ⟨bb,j,none⟩ (fun _ _=>?_);have hj:¬(ob<=j):=hj;show j<ob+off\/ob+off+_<=j;omega)
     have G0:Cq (Dt s.hp β Y) w (w.setCells bb (ob+off) (news.take (min m n*i.size))):=by
      have hw:=Ei.setCells bb (news.take (min m n*i.size)) (ob+off) w;have hAb:Dt s.hp β Y bb:=.inl ⟨id,ob,by rw[h0];trivial,hβ⟩
      exact⟨by rw[hw.size];exact Cn _,fun k _ hk=>hw.other k (fun e=>hk (e ▸ hAb)),fun k _=>hw.grow k⟩
     have hll:(new.take (min m n*i.size)).length=min m n*i.size:=by rw[List.length_take,hnl];omega
     refine .inr ⟨bb,ob,hβ,fun j p hj=>?_,fun _ j hj Xj=>?_,(fun x=>by cases x)⟩
     ·rw[Ff];rcases Va (by omega) hj with⟨h3,h4,h5⟩|⟨h3,h5⟩
      ·have A62:j-off<min m n*i.size:=by omega
       rw[List.getElem?_take_of_lt A62] at h5;obtain⟨u,hu,hcu⟩:=hs.rep.get h5;have Aob:j-off<(news.take (min m n*i.size)).length:=by omega
       refine⟨u,?_,hs.one u (List.mem_of_getElem? hu),hcu.step G0 (fun _ _ x=>x)⟩;have:=World.cell?_setCells_in bb (news.take (min m n*i.size)) (ob+off) w hcell (j-off) Aob;rw[show ob+j=ob+off+(j-off) from by omega,this];rw[<-List.getElem?_eq_getElem Aob,List.getElem?_take_of_lt A62];exact hu
      ·obtain⟨v,hv,h6,JA⟩:=Ir j p h5;rw[Ff] at hv;refine⟨v,?_,h6,JA.step G0 (fun _ _ x=>x)⟩;rw[World.cell?_setCells_out bb _ _ w ⟨bb,ob+j,none⟩ (fun _ _=>by show ob+j<ob+off\/ob+off+_<=ob+j;omega)]
       exact hv
     ·rw[(Ei.setCells bb _ _ w).bs] at Xj;rw[(Ei.setCells bb _ _ w).frz];exact JX rfl j hj Xj
   ·cases hk
  ·cases hk
 ·cases hk
theorem Agm(h:Df N w0 X0 Y β s a w){G:BE}(Nz:Env P G w0 X0){C:Gw}{call:Aq}(Eo:∀f args res,call f args=some res->Cx G P f args res){K:St->Option R}(hk:XA C P N call s o K=some r):
  ∃s',K s'=some r/\∀(next:Act->World->Prop) (Q:Exit->Act->World->Prop),(∀a' w' β',Df N w0 X0 Y β' s' a' w'->next a' w')->o.wp P a w next Q:=by
 unfold XA at hk;split at hk
 ·rename_i t x y ho;obtain⟨hd,hk⟩:=Am hk;exact Aav h ho (by simpa using hd) hk
 ·rename_i c ho;split at hk
  ·rename_i hc;obtain⟨d,hd,Ez⟩:=Cs hk;obtain⟨b,xs,RI,Fu⟩:=Bf Ez;obtain⟨x,ys,hys,Pa⟩:=Bf Fu;obtain⟨HQ,Zl⟩:=Eg Pa;obtain⟨t,us,hus,hk5⟩:=Bf Zl;obtain⟨tx,vs,Wx,hk6⟩:=Bf hk5;rw[hys,HQ] at RI;rw[Wx] at hus;exact WV h ho hc hd RI hus hk6
  ·rename_i hc;obtain⟨b,xs,RI,Fu⟩:=Bf hk;obtain⟨x,ys,hys,Pa⟩:=Bf Fu;obtain⟨HQ,Zl⟩:=Eg Pa;obtain⟨t,us,hus,hk5⟩:=Bf Zl;obtain⟨tx,vs,Wx,hk6⟩:=Bf hk5;rw[hys,HQ] at RI;rw[Wx] at hus;exact Agp h ho hc RI hus hk6
  ·rename_i f hc;exact Adm h Nz Eo ho hc hk
  ·cases hk
 ·cases hk
theorem Afn(h:Df N w0 X0 Y β s a w){G:BE}(Nz:Env P G w0 X0){C:Gw}{call:Aq}(Eo:∀f args res,call f args=some res->Cx G P f args res){K:St->Option R}(hk:Adu C P N call o s K=some r):
  ∃s',K s'=some r/\∀(next:Act->World->Prop) (Q:Exit->Act->World->Prop),(∀a' w' β',Df N w0 X0 Y β' s' a' w'->next a' w')->o.wp P a w next Q:=by
 unfold Adu at hk;cases hm:Ws C P o.op
 ·rw[hm] at hk;exact Ae6 h Nz Eo hk
 ·rw[hm] at hk;exact Agm h Nz Eo hk
end
end
end
end Go.Proofs.YtamoegpkglhedaaGreatDoor.Pv
