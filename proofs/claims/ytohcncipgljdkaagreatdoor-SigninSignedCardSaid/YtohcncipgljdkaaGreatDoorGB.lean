/-
  The proof of SigninSigned, part 2.
-/
import Derived.Test.YtohcncipgljdkaaGreatDoorGA
import Derived.Laws.Append
import Derived.IntWalk
import Derived.Laws.AppendOwn
import Derived.Laws.IdiomCopy
set_option linter.unusedSimpArgs false
set_option linter.unusedVariables false
namespace Go.Proofs.YtohcncipgljdkaaGreatDoor.Pv
set_option maxRecDepth 1000000
noncomputable section
section
open Go.RowKit
def Ij(w:World)(A:Nat->Prop)(own:Option (Nat × Nat))(p:PV)(u:Value):Prop:=
 match p with
 |.own es n c=>(own=none/\n=0/\c=[]/\∃ad,u=.slice ad 0 0) \/
   ∃b o cap,own=some (b,o)/\u=.slice (some ⟨b,o,none⟩) n cap/\n<=cap/\Fit w es b (o+cap*es)/\b<w.heap.size/\WO w A ⟨b,o,none⟩ c/\∀j,o<=j->j<bsz w b->w.frozen? ⟨b,j,none⟩=false
 |p=>Az w A p u
def Gh(w:World)(A:Nat->Prop)(own:Bt):Nat->Ae->List Value->Prop
 |_,[],[]=>True
 |j,p::ps,u::us=>Ij w A (own j) p u/\Gh w A own (j+1) ps us
 |_,_,_=>False
def Asd(w:World)(A:Nat->Prop)(own:Bt)(j b o:Nat)(cs:Ae):Prop:=
 ∃vs,Gh w A own j cs vs/\(∀(k:Nat) v,vs[k]?=some v->w.cell? ⟨b,o+k,none⟩=some v)/\∀k,k<cs.length->w.frozen? ⟨b,o+k,none⟩=false
def Ayb(w:World)(A:Nat->Prop)(own:Bt)(z j:Nat)(p:PV)(u:Value):Prop:=
 match p with
 |.agg cs=>∃vs,u=.agg ⟨vs⟩/\Gh w A own j cs vs
 |.pbox cs=>∃b o,own j=some (b,o)/\z<=b/\u=.pointer (some ⟨b,o,none⟩)/\Asd w A own (j+1) b o cs
 |p=>Ij w A (own j) p u
def plc:PV->Nat
 |.pbox cs=>1+cs.length
 |p=>(cellsOf p).length
def Aa8(w:World)(A:Nat->Prop)(own:Bt)(z:Nat):Nat->Ae->List Value->Prop
 |_,[],[]=>True
 |j,p::ps,u::us=>Ayb w A own z j p u/\Aa8 w A own z (j+plc p) ps us
 |_,_,_=>False
abbrev GI:=Nat->Nat->Option (Nat × Nat)
def BtX(bt:GI)(b:Nat):Prop:=∃i j o,bt i j=some (b,o)
def isA(p:PV):Prop:=FB p\/∃es n c,p=.own es n c
def IY(p:PV):Bool:=
 match p with
 |.pbox _=>true
 |.tup _=>true
 |_=>false
theorem Aza{p:PV}(h:isA p):IY p=false:=by
 rcases h with h|⟨_,_,_,rfl⟩
 ·cases p<;>first|rfl|exact h.elim
 ·rfl
def Akg(w:World)(A:Nat->Prop)(bt:Bt)(p:PV)(u:Value):Prop:=
 match p with
 |.pbox ps=>∃b o,bt 0=some (b,o)/\u=.pointer (some ⟨b,o,none⟩)/\(∀p∈ps,isA p)/\Asd w A bt 1 b o ps
 |.tup ps=>∃es n c,ps=[.own es n c]/\Ij w A (bt 0) (.own es n c) u
 |.agg cs=>∃vs,u=.agg ⟨vs⟩/\(∀p∈cs,isA p)/\Gh w A bt 1 cs vs
 |p=>isA p/\Ij w A (bt 1) p u
def Nv(w:World)(A:Nat->Prop)(bt:GI):Nat->Ae->List Value->Prop
 |_,[],[]=>True
 |i,p::ps,u::us=>Akg w A (bt i) p u/\Nv w A bt (i+1) ps us
 |_,_,_=>False
def A4o(bt:Bt)(p:PV)(b j:Nat):Prop:=
 (∃k o,bt (k+1)=some (b,o)/\o<=j)\/∃o ps,bt 0=some (b,o)/\o<=j/\((p=.pbox ps/\j<o+ps.length)\/p=.tup ps)
def SN(bt:GI)(args:Ae)(b j:Nat):Prop:=∃i p,args[i]?=some p/\A4o (bt i) p b j
def Lg(w:World)(A:Nat->Prop)(own:Bt)(bt:GI):Nat->Nat->Ae->List Ae->Prop
 |_,_,[],r=>r=[]
 |j,i,p::zs,r=>
  match p with
  |.pbox ps=>
   match r with
   |[]=>False
   |cs::r=>(∃b o,bt i 0=some (b,o)/\cs.length=ps.length/\Asd w A own j b o cs)/\Lg w A own bt (j+cs.length) (i+1) zs r
  |.tup _=>
   match r with
   |[]=>False
   |cs::r=>((bt i 0=none/\cs=[])\/∃b o,bt i 0=some (b,o)/\WO w A ⟨b,o,none⟩ cs/\∀k,o<=k->k<bsz w b->w.frozen? ⟨b,k,none⟩=false)/\Lg w A own bt j (i+1) zs r
  |_=>Lg w A own bt j (i+1) zs r
def Yo(bt:GI)(own:Bt)(Y:Nat->Prop)(b:Nat):Prop:=(∃j o,own j=some (b,o))\/(∃i o,bt i 0=some (b,o))\/Y b
def Om(vals:Ae):Nat:=(vals.map plc).sum
structure Out(w w':World)(Y:Nat->Prop)(bt:GI)(args:Ae)(own:Bt)(r:Bq)(vs:List Value):Prop where
 os:w'.os=w.os
 tape:w'.tape=w.tape
 output:w'.output=w.output
 ext:Cs (BtX bt) w w'
 rng:∀b j,b<w.heap.size->¬SN bt args b j->w'.cell? ⟨b,j,none⟩=w.cell? ⟨b,j,none⟩/\w'.frozen? ⟨b,j,none⟩=w.frozen? ⟨b,j,none⟩
 vals:Aa8 w' (Yo bt own Y) own w.heap.size 0 r.vals vs
 outs:Lg w' (Yo bt own Y) own bt (Om r.vals) 0 args r.outs
 fresh:∀j b o,own j=some (b,o)->b<w'.heap.size/\(b<w.heap.size->(∃i k o',bt i (k+1)=some (b,o'))/\∀x,o<=x->SN bt args b x)
 inj:∀j j' b o o',own j=some (b,o)->own j'=some (b,o')->j=j'
def Hm(us:List Value):Value:=match us with|[u]=>u|us=>.tuple ⟨us⟩
def Wg(w:World)(Y:Nat->Prop)(p:PV)(u:Value):Prop:=
 match p with
 |.agg cs=>∃vs,u=.agg ⟨vs⟩/\Bw (fun c v=>FB c/\Az w Y c v) cs vs
 |p=>FB p/\Az w Y p u
structure Ins(w:World)(Y:Nat->Prop)(bt:GI)(args:Ae)(us:List Value):Prop where
 Ylt:∀b,Y b->b<w.heap.size
 Yx:∀b,Y b->¬BtX bt b
 lt:∀b,BtX bt b->b<w.heap.size
 inj:∀i j i' j' b o o',bt i j=some (b,o)->bt i' j'=some (b,o')->i=i'/\j=j'
 l0:∀i q,bt i 0=some q->∃p,args[i]?=some p/\IY p=true
 args:Nv w (fun b=>BtX bt b\/Y b) bt 0 args us
structure Vt where
 bl:Nat->Prop
 ok:World->Prop
 stable:∀w w':World,(∀b,bl b->b<w.heap.size->w'.heap[b]?=w.heap[b]?)->ok w->ok w'
def C3(G:Vt)(P:Program)(f:FuncId)(args:Ae)(r:Bq):Prop:=
 (∃fn,P.funcs[f]?=some fn/\fn.body.isSome=true)/\∀(w:World)(Y:Nat->Prop)(bt:GI)(us:List Value),Ins w Y bt args us->G.ok w->(∀b,G.bl b->b<w.heap.size/\¬BtX bt b) ->
  Calls P f us.toArray w fun e w'=>∃vs own,e=.returned (Hm vs)/\Out w w' Y bt args own r vs
def GC:GI:=fun _ _=>none
theorem Nu(b:Nat):¬BtX GC b:=by rintro⟨_,_,_,h⟩;cases h
theorem Pd{w:World}{A:Nat->Prop}{q:Option (Nat × Nat)}{p:PV}{u:Value}(hp:FB p)(h:Az w A p u):Ij w A q p u:=by cases p<;>first|exact h|exact hp.elim
theorem ON{w:World}{A:Nat->Prop}{own:Bt}:∀{cs:Ae}{vs:List Value}{j:Nat},Bw (fun c v=>FB c/\Az w A c v) cs vs->Gh w A own j cs vs
 |[],[],_,_=>trivial
 |_::_,_::_,_,h=>⟨Pd h.1.1 h.1.2,ON h.2⟩
 |[],_::_,_,h=>h.elim
 |_::_,[],_,h=>h.elim
theorem Ao3{w:World}{A:Nat->Prop}{bt:Bt}{p:PV}{u:Value}(h:Wg w A p u):Akg w A bt p u:=by
 cases p with
 |agg cs=>
  obtain⟨vs,h1,h2⟩:=h;refine⟨vs,h1,fun p hp=>.inl ?_,ON h2⟩;obtain⟨j,hj⟩:=List.mem_iff_getElem?.1 hp;obtain⟨v,_,hv⟩:=h2.get hj;exact hv.1
 |sc v=>exact⟨.inl trivial,h.2⟩
 |lst z es n c=>exact⟨.inl trivial,h.2⟩
 |_=>exact h.1.elim
theorem FU{w:World}{A:Nat->Prop}{bt:GI}:∀{ps:Ae}{us:List Value}{i:Nat},Bw (Wg w A) ps us->Nv w A bt i ps us
 |[],[],_,_=>trivial
 |_::_,_::_,_,h=>⟨Ao3 h.1,FU h.2⟩
 |[],_::_,_,h=>h.elim
 |_::_,[],_,h=>h.elim
theorem Aa5{w:World}{A A':Nat->Prop}(hA:∀b,b<w.heap.size->A' b->A b){p:PV}{v:Value}(h:Wg w A p v):Wg w A' p v:=by
 cases p with
 |agg cs=>
  obtain⟨vs,rfl,h2⟩:=h;exact⟨vs,rfl,h2.mono fun c v hc=>⟨hc.1,hc.2.step (Cs.refl _ _) hA⟩⟩
 |sc v=>exact⟨h.1,h.2.step (Cs.refl _ _) hA⟩
 |lst z es n c=>exact⟨h.1,h.2.step (Cs.refl _ _) hA⟩
 |_=>exact h.1.elim
theorem Ahi{w:World}{Y:Nat->Prop}{args:Ae}{us:List Value}(hY:∀b,Y b->b<w.heap.size)(h:Bw (Wg w Y) args us):Ins w Y GC args us:=
 ⟨hY,fun b _=>Nu b,fun b h=>absurd h (Nu b),(fun _ _ _ _ _ _ _ h=>by cases h),(fun _ _ h=>by cases h),FU (h.mono fun _ _ hx=>Aa5 (fun b _ hb=>hb.elim (fun q=>absurd q (Nu b)) id) hx)⟩
def NoNG(P:Program):Prop:=∀(f:FuncId) (fn:Func),P.funcs[f]?=some fn->(fn.name == "runtime.NumGoroutine")=false
structure OP(P:Program)(G:Vt)(w0:World)(X0:Gc):Prop where
 ng:NoNG P
 fr:∀w,Fr X0 w0 w->G.ok w
 y:∀b,G.bl b->b<w0.heap.size/\¬X0.X b
section
variable {R:Type}{r:R}{P:Program}{N:Nat}{w0:World}{X0:Gc}{Y:Nat->Prop}{β β':Bt}{s:St}{a:Act}{w w':World}{o:Oper}{A:Nat->Prop}
def WE(P:Program)(a:Act)(w:World)(o:Oper)(Y:Nat->Prop)(β:Bt)(s:St)(v:PV)(fz:B7)(nw:List (Nat × Ca)):Prop:=
 (∀id∈fz,∃f c,s.hp id=some (.ar f c))/\∀(next:Act->World->Prop)(Q:Exit->Act->World->Prop),
  (∀val w',(Cn s.hp nw=true->∃β',YW Y β ⟨s.tm,Ah s.hp fz⟩ w v nw val w' β')->next (a.put o.dst val) w')->o.wp P a w next Q
theorem UN{v:PV}{fz:B7}{nw:List (Nat × Ca)}(h:Fq P a w o Y β s v fz nw):WE P a w o Y β s v fz nw:=by obtain⟨h1,val,w',hr,hs⟩:=h;refine⟨h1,fun next Q hn=>?_⟩;unfold Oper.wp;rw[hr];exact hn val w' hs
theorem Avj(h:Cg N w0 X0 Y β s a w){t:TypeId}{x:PV}{u:Value}(hx:E2 w (Dv s.hp β Y) β x u){K:PV->B7->Option R}(hk:Aj5 P (M3 s.hp) t x K=some r):
  ∃p m,K p m=some r/\(∀id∈m,∃f cc,s.hp id=some (.ar f cc))/\(cellsOf p).length=(Kv P t).length/\∀fz:B7,(∀id∈m,id∈fz)->(∀id∈fz,∃f cc,s.hp id=some (.ar f cc))->Wg w (Dv (Ah s.hp fz) β Y) p u:=by
 unfold Aj5 at hk;cases H4:Cw P t
 ·rw[H4] at hk;obtain⟨cs,m,hk,hl,Ox,hT,hF,hm,hv⟩:=Ws h (show Sq _ _ _ _=some r from hk);obtain⟨c,t',rfl,hk⟩:=Bo hk;obtain⟨rfl,hk⟩:=Es hk;have hcT:=hT c (by simp);refine⟨c,m,hk,hm,?_,fun fz h1 h2=>?_⟩
  ·have:cellsOf c=[c]:=by cases c<;>first|rfl|exact hcT.elim
   rw[this];exact hl
  have hF':=hF _ (Vv _)
  have hc:Cj w (Dv s.hp β Y) β x u:=by
   cases x<;>first|exact hx|exact hF'.elim
  have h3:=(hv fz h1 h2 [u] ⟨hc,trivial⟩).1.1;cases c<;>first|exact⟨trivial,h3⟩|exact hcT.elim
 ·rw[H4] at hk;obtain⟨ps,hp,hk⟩:=Jw (show Eo _ _=some r from hk);rw[hp] at hx;obtain⟨cs,m,hk,hl,Ox,hT,hF,hm,hv⟩:=Ws h hk;obtain⟨vs,Eh,h2⟩:=hx;refine⟨.agg cs,m,hk,hm,hl,fun fz h1 h3=>⟨vs,Eh,?_⟩⟩;exact (hv fz h1 h3 vs h2).1.mono_mem fun c hc v OH=>⟨hT c hc,OH⟩
theorem At5(h:Cg N w0 X0 Y β s a w){t:TypeId}{x:Operand}{K:PV->B7->Option R}(hk:Aj5 P (M3 s.hp) t (Cu s.tm x) K=some r):
  ∃p m,K p m=some r/\(∀id∈m,∃f cc,s.hp id=some (.ar f cc))/\∀fz:B7,(∀id∈m,id∈fz)->(∀id∈fz,∃f cc,s.hp id=some (.ar f cc))->Wg w (Dv (Ah s.hp fz) β Y) p (a.eval x):=by
 obtain⟨p,m,h1,h2,_,h3⟩:=Avj h (D7 h x) hk;exact⟨p,m,h1,h2,h3⟩
theorem ZD(h:Cg N w0 X0 Y β s a w):∀{ts:List TypeId}{xs:List Operand}{K:Ae->B7->Option R},TW P (M3 s.hp) ts (xs.map (Cu s.tm)) K=some r ->
  ∃ps m,K ps m=some r/\(∀id∈m,∃f cc,s.hp id=some (.ar f cc))/\∀fz:B7,(∀id∈m,id∈fz)->(∀id∈fz,∃f cc,s.hp id=some (.ar f cc))->Bw (Wg w (Dv (Ah s.hp fz) β Y)) ps (xs.map a.eval)
 |[],[],K,hk=>⟨[],[],hk,by simp,fun _ _ _=>trivial⟩
 |[],_::_,K,hk=>by cases hk
 |_::_,[],K,hk=>by cases hk
 |t::ts,x::xs,K,hk=>by
  simp only[Xv] at hk;unfold TW at hk;obtain⟨p,m,hk,hm,hv⟩:=At5 h hk;obtain⟨ps,ms,hk,VA,Mm⟩:=ZD h hk;refine⟨p::ps,m++ms,hk,?_,fun fz h1 h2=>⟨hv fz (fun i hi=>h1 i (by simp[hi])) h2,Mm fz (fun i hi=>h1 i (by simp[hi])) h2⟩⟩;intro i hi;rcases B2.1 hi with hi|hi
  ·exact hm i hi
  ·exact VA i hi
theorem Wg.weaken{A':Nat->Prop}(hA:∀b,b<w.heap.size->A' b->A b){p:PV}{v:Value}(h:Wg w A p v):Wg w A' p v:=by
 have one:FB p->FB p/\Az w A p v->Wg w A' p v:=by
  intro hp h;cases p<;>first|exact⟨h.1,h.2.step (Cs.refl _ _) hA⟩|exact hp.elim
 cases p with
 |agg cs=>
  obtain⟨vs,rfl,h2⟩:=h;exact⟨vs,rfl,h2.mono fun c v hc=>⟨hc.1,hc.2.step (Cs.refl _ _) hA⟩⟩
 |_=>exact one h.1 h
theorem At4{t:CT}{p:PV}{K:PV->Option R}(h:NQ t p K=some r):
  ∃c,K c=some r/\FB c/\FB p/\(∀(w:World) (A:Nat->Prop) (β:Nat->Option (Nat × Nat)) (v:Value),Cj w A β p v->Az w A c v/\v.oneCell'=true)/\((∀es,t ≠ .sl es)->∃v,c=.sc v):=by
 obtain⟨c,hk,hT,WI,hv⟩:=Rr h;cases t with
 |sl es=>exact⟨c,hk,hT,WI,hv,fun Gx=>absurd rfl (Gx es)⟩
 |int k=>obtain⟨n,rfl,h2⟩:=Fz h;exact⟨_,h2,trivial,trivial,fun w A β v hv=>⟨hv,by have:=Az.val (w:=w) (A:=A) hv;subst this;rfl⟩,fun _=>⟨_,rfl⟩⟩
 |bool=>obtain⟨n,rfl,h2⟩:=E3 h;exact⟨_,h2,trivial,trivial,fun w A β v hv=>⟨hv,by have:=Az.val (w:=w) (A:=A) hv;subst this;rfl⟩,fun _=>⟨_,rfl⟩⟩
 |str=>obtain⟨n,rfl,h2⟩:=Ep h;exact⟨_,h2,trivial,trivial,fun w A β v hv=>⟨hv,by have:=Az.val (w:=w) (A:=A) hv;subst this;rfl⟩,fun _=>⟨_,rfl⟩⟩
 |any=>
  obtain⟨u,rfl,h1,h2⟩:=Am5 (show fnK p (fun v=>K (.sc v))=some r from h);exact⟨_,h2,trivial,trivial,fun w A β v hv=>⟨hv,by have:=Az.val (w:=w) (A:=A) hv;subst this;exact h1⟩,fun _=>⟨_,rfl⟩⟩
theorem DI(shr:Bool)(N:Nat):∀{ts:List CT}{ps:Ae}{id:Nat}{K:Ae->List (Nat × Ca)->Option R},Xc shr N id ts ps K=some r ->
  ∃cs bs,K cs bs=some r/\ps.length=ts.length/\(∀p∈ps,∀x,p ≠ .agg x/\p ≠ .pbox x)/\(∀c∈cs,YC c)/\((∀es,CT.sl es ∉ ts)->bs=[]/\∀c∈cs,∃v,c=.sc v) /\
   (∀i bx,(i,bx)∈bs->∃j es n c,ps[j]?=some (.own es n c)/\i=id+N*j/\bx=.ar false c) /\
   (∀c∈cs,∀i∈Ay c,∃bx,(i,bx)∈bs) /\
   ∀(w:World) (A:Nat->Prop) (own β':Bt) (j0:Nat) (us:List Value),(∀j,(∃bx,(id+N*j,bx)∈bs)->β' (id+N*j)=own (j0+j))->Gh w A own j0 ps us->Bw (Cj w A β') cs us
 |[],ps,id,K,hk=>by
  obtain⟨rfl,hk⟩:=Es hk;refine⟨[],[],hk,rfl,by simp,by simp,by simp,by simp,by simp,fun w A own β' j0 us _ h=>?_⟩;cases us with
  |nil=>trivial
  |cons u us=>exact h.elim
 |t::ts,ps,id,K,hk=>by
  unfold Xc at hk;obtain⟨p,ps',MS,Eu⟩:=Bo hk;subst MS;clear hk
  have main:∃c b,(Xc shr N (id+N) ts ps' fun cs bs=>K (c::cs) (b++bs))=some r/\(∀x,p ≠ .agg x/\p ≠ .pbox x)/\YC c/\((∀es,t≠CT.sl es)->b=[]/\∃v,c=.sc v)/\(∀i bx,(i,bx)∈b->∃es n cc,p=.own es n cc/\i=id/\bx=.ar false cc)/\(∀i∈Ay c,∃bx,(i,bx)∈b) /\
    ∀(w:World) (A:Nat->Prop) (own:Option (Nat × Nat)) (β':Bt) (u:Value),((∃bx,(id,bx)∈b)->β' id=own)->Ij w A own p u->Cj w A β' c u:=by
   have tree:∀t',t'=t->(NQ t' p fun c=>Xc shr N (id+N) ts ps' fun cs bs=>K (c::cs) ([]++bs))=some r->∃c b,(Xc shr N (id+N) ts ps' fun cs bs=>K (c::cs) (b++bs))=some r/\(∀x,p ≠ .agg x/\p ≠ .pbox x)/\YC c/\((∀es,t≠CT.sl es)->b=[]/\∃v,c=.sc v)/\(∀i bx,(i,bx)∈b->∃es n cc,p=.own es n cc/\i=id/\bx=.ar false cc)/\(∀i∈Ay c,∃bx,(i,bx)∈b) /\
     ∀(w:World) (A:Nat->Prop) (own:Option (Nat × Nat)) (β':Bt) (u:Value),((∃bx,(id,bx)∈b)->β' id=own)->Ij w A own p u->Cj w A β' c u:=by
    intro t' ht' hk;have hsc:=At4 hk;obtain⟨c,hk,hT,WI,hv,hsc⟩:=hsc;refine⟨c,[],hk,fun x=>⟨KI WI x,by rintro rfl;exact WI⟩,Yb hT,fun Gx=>⟨rfl,hsc (fun es e=>Gx es (ht'.symm.trans e))⟩,by simp,by rw[Ka hT];simp,fun w A own β' u _ hc=>?_⟩
    have Yp:Cj w A β' p u:=by cases p<;>first|exact hc|exact WI.elim
    exact (Qm hT).2 (hv w A β' u Yp).1
   unfold Ave at Eu;cases t with
   |sl es=>
    dsimp only at Eu;cases shr
    ·unfold Lh at Eu;simp only[cond_false] at Eu;split at Eu
     ·rename_i es' n c;cases hb:Nat.beq es' es
      ·rw[hb] at Eu;cases Eu
      ·rw[hb] at Eu;have:=Dz hb;subst this;refine⟨_,_,Eu,by simp,trivial,fun Gx=>absurd rfl (Gx _),?_,?_,fun w A own β' u hβ hc=>?_⟩
       ·intro i bx hm;simp at hm;exact⟨_,_,_,rfl,hm.1,hm.2⟩
       ·intro i hi;simp[Ay] at hi;subst hi;exact⟨.ar false c,by simp⟩
       ·have hβ':=hβ ⟨.ar false c,by simp⟩;clear hβ;rcases hc with⟨h1,rfl,rfl,h4⟩|⟨b,ob,cap,h1,h2,h3,h4,h5,_⟩
        ·exact .inl ⟨hβ'.trans h1,rfl,rfl,h4⟩
        ·exact .inr ⟨b,ob,ob,cap,hβ'.trans h1,h2,.inl rfl,h3,h4,h5⟩
     ·cases Eu
    ·obtain⟨c,hk,hT,WI,hv,_⟩:=At4 (t:=.sl es) (p:=p) (K:=fun c=>Xc true N (id+N) ts ps' fun cs bs=>K (Abj c::cs) ([]++bs)) Eu;have hU:FB (Abj c):=by cases c<;>exact hT
     refine⟨Abj c,[],hk,fun x=>⟨KI WI x,by rintro rfl;exact WI⟩,Yb hU,fun Gx=>absurd rfl (Gx _),by simp,by rw[Ka hU];simp,fun w A own β' u _ hc=>?_⟩
     have Yp:Cj w A β' p u:=by cases p<;>first|exact hc|exact WI.elim
     refine (Qm hU).2 ?_;have:=(hv w A β' u Yp).1;cases c with
     |lst z es n c=>exact Az.unz this
     |_=>exact this
   |int k=>exact tree (.int k) rfl Eu
   |bool=>exact tree .bool rfl Eu
   |str=>exact tree .str rfl Eu
   |any=>exact tree .any rfl Eu
  obtain⟨c,b,hk,hpa,hF,ZO,Gj,Kw,OH⟩:=main;obtain⟨cs,bs,hk,hl,Bfn,hFs,A3m,Bin,Bi6,Bej⟩:=DI shr N hk;refine⟨c::cs,b++bs,hk,by simp[hl],?_,?_,?_,?_,?_,fun w A own β' j0 us hβ hoc=>?_⟩
  ·intro x hx;rcases Ce.1 hx with rfl|hx
   ·exact hpa
   ·exact Bfn x hx
  ·intro x hx;rcases Ce.1 hx with rfl|hx
   ·exact hF
   ·exact hFs x hx
  ·intro Gx;obtain⟨h1,v,h2⟩:=ZO (fun es e=>Gx es (by rw[e];simp))
   obtain⟨h3,h4⟩:=A3m (fun es hm=>Gx es (by simp[hm]));refine⟨by rw[h1,h3];rfl,fun x hx=>?_⟩
   rcases Ce.1 hx with rfl|hx
   ·exact⟨v,h2⟩
   ·exact h4 x hx
  ·intro i bx hm;rcases B2.1 hm with hm|hm
   ·obtain⟨es,n,cc,rfl,rfl,rfl⟩:=Gj i bx hm;exact⟨0,es,n,cc,rfl,by simp,rfl⟩
   ·obtain⟨j,es,n,cc,h1,rfl,h3⟩:=Bin i bx hm;exact⟨j+1,es,n,cc,by simpa using h1,by rw[Nat.mul_add];omega,h3⟩
  ·intro x hx i hi;rcases Ce.1 hx with rfl|hx
   ·obtain⟨bx,hm⟩:=Kw i hi;exact⟨bx,by simp[hm]⟩
   ·obtain⟨bx,hm⟩:=Bi6 x hx i hi;exact⟨bx,by simp[hm]⟩
  ·cases us with
   |nil=>exact hoc.elim
   |cons u us=>
    refine⟨OH w A (own j0) β' u (fun ⟨bx,hm⟩=>by have:=hβ 0 ⟨bx,by simp[hm]⟩;simpa using this) hoc.1,?_⟩
    refine Bej w A own β' (j0+1) us (fun j ⟨bx,hm⟩=>?_) hoc.2;have e:id+N+N*j=id+N*(j+1):=by rw[Nat.mul_add];omega
    have:=hβ (j+1) ⟨bx,by rw[<-e];simp[hm]⟩
    rw[e,this]
    congr 1
    omega
end
open Go.RowKit
section
variable {R:Type}{r:R}{P:Program}{N:Nat}{w0:World}{X0:Gc}{Y:Nat->Prop}{β β':Bt}{s:St}{a:Act}{w w':World}{o:Oper}{A:Nat->Prop}
theorem Gh.len:∀{j:Nat}{own:Bt}{ps:Ae}{us:List Value},Gh w A own j ps us->ps.length=us.length
 |_,_,[],[],_=>rfl
 |_,_,_::_,_::_,h=>by simp[Gh.len h.2]
 |_,_,[],_::_,h=>h.elim
 |_,_,_::_,[],h=>h.elim
theorem Gh.at_:∀{j:Nat}{own:Bt}{ps:Ae}{us:List Value},Gh w A own j ps us->∀{i:Nat} {p},ps[i]?=some p->∃u,us[i]?=some u/\Ij w A (own (j+i)) p u
 |_,_,[],[],_,i,p,h=>by simp at h
 |j,own,_::_,u::_,h,0,p,hp=>by simp at hp;subst hp;exact⟨u,rfl,h.1⟩
 |j,own,_::_,_::_,h,i+1,p,hp=>by
  simp at hp;obtain⟨u,hu,hc⟩:=Gh.at_ h.2 hp;exact⟨u,by simpa using hu,by rw[show j+(i+1)=j+1+i from by omega];exact hc⟩
 |_,_,[],_::_,h,_,_,_=>h.elim
 |_,_,_::_,[],h,_,_,_=>h.elim
def Asv(N id:Nat)(β':Bt)(w:World)(A:Nat->Prop)(z n:Nat)(bs:List (Nat × Ca)):Prop:=
 ∀i bx,(i,bx)∈bs->(∃j,i=id+N*j/\j<n)/\Dg (some bx)/\Wd w A β' i bx/\∀cs,bx=.st cs->∀b o,β' i=some (b,o)->z<=b
def MY(bs:List (Nat × Ca)):Prop:=∀i cells,(i,.st cells)∈bs->∀c∈cells,∀i'∈Ay c,∃bx,(i',bx)∈bs
theorem JB{q:Option (Nat × Nat)}{es n i:Nat}{c:Ae}{u:Value}(h:Ij w A q (.own es n c) u)(hβ:β' i=q):Wd w A β' i (.ar false c):=by
 rcases h with⟨h1,_,h2,_⟩|⟨b,o,cap,h1,_,_,_,_,h6,h7⟩
 ·exact .inl ⟨hβ.trans h1,h2⟩
 ·exact .inr ⟨b,o,hβ.trans h1,h6,fun _=>h7,(fun x=>by cases x)⟩
theorem MW{t:TypeId}(h:M8 P [t]=false):KD P t=none/\∀es,CT.sl es ∉ Kv P t:=by simp only[M8,List.any_cons,List.any_nil,Bool.or_false,Bool.or_eq_false_iff] at h;refine⟨by simpa using h.1,fun es hm=>?_⟩;have:=List.any_eq_false.1 h.2 _ hm;simp at this
theorem Awq(shr:Bool)(N:Nat){t:TypeId}{p:PV}{id:Nat}{K:PV->List (Nat × Ca)->Option R}(hk:Ao8 P shr N id t p K=some r):
  ∃v bs,K v bs=some r/\plc p=Ae5 P t/\(∀x,v ≠ .tup x)/\(M8 P [t]=false->bs=[]/\∀c∈cellsOf v,∃u,c=.sc u)/\(∀i∈Co v,∃bx,(i,bx)∈bs)/\MY bs /\
   ∀(w:World) (A:Nat->Prop) (own β':Bt) (z j0:Nat) (u:Value),(∀j,(∃bx,(id+N*j,bx)∈bs)->β' (id+N*j)=own (j0+j))->Ayb w A own z j0 p u->H8 w A β' v u/\Asv N id β' w A z (plc p) bs:=by
 have boxes:∀{bs:List (Nat × Ca)} {ps:Ae} {id:Nat},(∀i bx,(i,bx)∈bs->∃j es n c,ps[j]?=some (.own es n c)/\i=id+N*j/\bx=.ar false c) ->
   MY bs/\∀(w:World) (A:Nat->Prop) (own β':Bt) (j0:Nat) (us:List Value),(∀j,(∃bx,(id+N*j,bx)∈bs)->β' (id+N*j)=own (j0+j))->Gh w A own j0 ps us->∀z,Asv N id β' w A z ps.length bs:=by
  intro bs ps id Gj;refine⟨fun i cells hm=>?_,fun w A own β' j0 us hβ ho z i bx hm=>?_⟩
  ·obtain⟨_,_,_,_,_,_,h3⟩:=Gj i _ hm;cases h3
  ·obtain⟨j,es,n,cc,h1,h2,h3⟩:=Gj i bx hm;obtain⟨u,hu,hoc⟩:=ho.at_ h1;subst h3;refine⟨⟨j,h2,?_⟩,trivial,JB hoc ?_,fun _ e=>by cases e⟩
   ·rcases Is j ps.length with h|h
    ·exact h
    ·rw[List.getElem?_eq_none h] at h1;cases h1
   ·rw[h2];exact hβ j ⟨_,h2 ▸ hm⟩
 unfold Ao8 at hk;split at hk
 ·rename_i e he;obtain⟨ps,rfl,hk⟩:=YT hk;obtain⟨cs,bs,hk,hl,Az5,hF,ZO,Gj,Kw,OH⟩:=DI shr N hk;obtain⟨hri,Ms⟩:=boxes Gj;refine⟨.ptr id 0,_,hk,by simp only[plc,Ae5,he,hl],by simp,fun h=>?_,fun i hi=>?_,fun i cells hm c hc i' hi'=>?_,fun w A own β' z j0 u hβ ho=>?_⟩
  ·have:=(MW h).1;rw[he] at this;cases this
  ·simp only[Co,Ay,Q2] at hi;subst hi;exact⟨_,HS⟩
  ·rcases Ce.1 hm with e|hm
   ·cases e;obtain⟨bx,hb⟩:=Kw c hc i' hi';exact⟨bx,Tu _ hb⟩
   ·obtain⟨bx,hb⟩:=hri i cells hm c hc i' hi';exact⟨bx,Tu _ hb⟩
  ·obtain⟨b,o,h1,hz,rfl,vs,h3,h4,h5⟩:=ho;have h0:=hβ 0 ⟨_,by rw[Nat.mul_zero,ZS];exact HS⟩
   rw[Nat.mul_zero,ZS,ZS,h1] at h0;have B1:∀j,id+N+N*j=id+N*(j+1):=fun j=>by rw[Nat.mul_add];omega
   have hβ1:∀j,(∃bx,(id+N+N*j,bx)∈bs)->β' (id+N+N*j)=own (j0+1+j):=fun j ⟨bx,hm⟩=>by
    rw[B1,hβ (j+1) ⟨bx,by rw[<-B1];exact Tu _ hm⟩]
    congr 1;omega
   have hc2:=OH w A own β' (j0+1) vs hβ1 h3;have EP:=Ms w A own β' (j0+1) vs hβ1 h3 z;have Ek:cs.length=ps.length:=by rw[hc2.len,<-h3.len]
   refine⟨⟨b,o,h0,by simp⟩,fun i bx hm=>?_⟩;rcases Ce.1 hm with e|hm
   ·cases e;refine⟨⟨0,by simp,by simp only[plc];omega⟩,trivial,⟨b,o,h0,fun k c hk=>?_,fun k hk=>h5 k (by omega)⟩,fun _ _ b' o' I7=>?_⟩
    ·obtain⟨v,hv,hcr⟩:=hc2.get hk;exact⟨v,h4 k v hv,hcr⟩
    ·rw[h0] at I7;cases I7;exact hz
   ·obtain⟨⟨j,hj,hjn⟩,h6,h7⟩:=EP i bx hm;exact⟨⟨j+1,by rw[hj,B1],by simp only[plc];omega⟩,h6,h7⟩
 ·rename_i hnp;have Xq:Ae5 P t=(Kv P t).length:=by simp only[Ae5,hnp]
  cases H4:Cw P t
  ·rw[H4] at hk;obtain⟨cs,bs,hk,hl,Az5,hF,ZO,Gj,Kw,OH⟩:=DI shr N (show Xc _ _ _ _ _ _=some r from hk);obtain⟨c,t',rfl,hk⟩:=Bo hk;obtain⟨rfl,hk⟩:=Es hk;have hFc:=hF c (by simp);have A9h:∀x,p ≠ .pbox x:=fun x=>(Az5 p (by simp) x).2;have A46:∀x,c ≠ .agg x:=by rintro x rfl;exact hFc
   have Bf5:∀x,c ≠ .tup x:=by rintro x rfl;exact hFc
   have WV:Co c=Ay c:=by cases c<;>first|rfl|exact absurd rfl (A46 _)
   have hpa:∀x,p ≠ .agg x:=fun x=>(Az5 p (by simp) x).1;obtain⟨hri,Ms⟩:=boxes Gj;have Ey:cellsOf p=[p]:=by cases p<;>first|rfl|exact absurd rfl (hpa _)
   have A9e:plc p=1:=by cases p<;>first|rfl|exact absurd rfl (hpa _)|exact absurd rfl (A9h _)
   have hcc:cellsOf c=[c]:=by cases c<;>first|rfl|exact absurd rfl (A46 _)
   refine⟨c,bs,hk,by rw[A9e,Xq];exact hl,Bf5,fun Gx=>by rw[hcc];exact ZO (MW Gx).2,fun i hi=>Kw c (by simp) i (by rw[<-WV];exact hi),hri,fun w A own β' z j0 u hβ ho=>?_⟩
   have ho':Ij w A (own j0) p u:=by cases p<;>first|exact ho|exact absurd rfl (hpa _)|exact absurd rfl (A9h _)
   exact⟨(X8 A46).2 (OH w A own β' j0 [u] hβ ⟨ho',trivial⟩).1,by rw[A9e];exact Ms w A own β' j0 [u] hβ ⟨ho',trivial⟩ z⟩
  ·rw[H4] at hk;obtain⟨ps,rfl,hk⟩:=Jw (show Eo _ _=some r from hk);obtain⟨cs,bs,hk,hl,Az5,hF,ZO,Gj,Kw,OH⟩:=DI shr N hk;obtain⟨hri,Ms⟩:=boxes Gj;refine⟨.agg cs,bs,hk,by rw[Xq];exact hl,by simp,fun Gx=>ZO (MW Gx).2,fun i hi=>?_,hri,fun w A own β' z j0 u hβ ho=>?_⟩
   ·obtain⟨c,hc,hi⟩:=List.mem_flatMap.1 (show i∈cs.flatMap Ay from hi);exact Kw c hc i hi
   ·obtain⟨vs,rfl,ho⟩:=ho;exact⟨⟨vs,rfl,OH w A own β' j0 vs hβ ho⟩,Ms w A own β' j0 vs hβ ho z⟩
theorem MU(shr:Bool)(N:Nat):∀{ts:List TypeId}{ps:Ae}{id:Nat}{K:Ae->List (Nat × Ca)->Option R},OQ P shr N id ts ps K=some r ->
  ∃vs bs,K vs bs=some r/\vs.length=ps.length/\(∀v∈vs,∀x,v ≠ .tup x)/\(M8 P ts=false->bs=[]/\∀v∈vs,∀c∈cellsOf v,∃u,c=.sc u)/\(∀v∈vs,∀i∈Co v,∃bx,(i,bx)∈bs)/\MY bs /\
   ∀(w:World) (A:Nat->Prop) (own β':Bt) (z j0:Nat) (us:List Value),(∀j,(∃bx,(id+N*j,bx)∈bs)->β' (id+N*j)=own (j0+j))->Aa8 w A own z j0 ps us->Bw (H8 w A β') vs us/\Asv N id β' w A z (Om ps) bs
 |[],ps,id,K,hk=>by
  obtain⟨rfl,hk⟩:=Es hk;refine⟨[],[],hk,rfl,by simp,by simp,by simp,(by intro i cells hm;cases hm),fun w A own β' z j0 us _ h=>?_⟩
  cases us with
  |nil=>exact⟨trivial,by intro i bx hm;cases hm⟩
  |cons u us=>exact h.elim
 |t::ts,ps,id,K,hk=>by
  unfold OQ at hk;obtain⟨p,ps',MS,Eu⟩:=Bo hk;subst MS;clear hk;obtain⟨v,bs,hk,hl,hnt,ZO,WV,hri,hv⟩:=Awq shr N Eu;obtain⟨vs,bs',hk,JX,Bgv,A3m,hrs,Bja,Mm⟩:=MU shr N hk;refine⟨v::vs,bs++bs',hk,by simp[JX],?_,?_,?_,?_,fun w A own β' z j0 us hβ ho=>?_⟩
  ·intro x hx;rcases Ce.1 hx with rfl|hx
   ·exact hnt
   ·exact Bgv x hx
  ·intro Gx;simp only[M8,List.any_cons,Bool.or_eq_false_iff] at Gx;obtain⟨h1,h2⟩:=ZO (by simp only[M8,List.any_cons,List.any_nil,Bool.or_false,Bool.or_eq_false_iff];exact Gx.1)
   obtain⟨h3,h4⟩:=A3m (by simp only[M8];exact Gx.2)
   refine⟨by rw[h1,h3];rfl,fun x hx=>?_⟩
   rcases Ce.1 hx with rfl|hx
   ·exact h2
   ·exact h4 x hx
  ·intro x hx i hi;rcases Ce.1 hx with rfl|hx
   ·obtain⟨bx,hm⟩:=WV i hi;exact⟨bx,by simp[hm]⟩
   ·obtain⟨bx,hm⟩:=hrs x hx i hi;exact⟨bx,by simp[hm]⟩
  ·intro i cells hm c hc i' hi';rcases B2.1 hm with hm|hm
   ·obtain⟨bx,hb⟩:=hri i cells hm c hc i' hi';exact⟨bx,by simp[hb]⟩
   ·obtain⟨bx,hb⟩:=Bja i cells hm c hc i' hi';exact⟨bx,by simp[hb]⟩
  ·cases us with
   |nil=>exact ho.elim
   |cons u us=>
    obtain⟨h1,Gj⟩:=hv w A own β' z j0 u (fun j ⟨bx,hm⟩=>hβ j ⟨bx,by simp[hm]⟩) ho.1;have B1:∀j,id+N*Ae5 P t+N*j=id+N*(Ae5 P t+j):=fun j=>by rw[Nat.mul_add];omega
    obtain⟨h2,Kw⟩:=Mm w A own β' z (j0+plc p) us (fun j ⟨bx,hm⟩=>by rw[B1,hβ _ ⟨bx,by rw[<-B1];simp[hm]⟩,hl];congr 1;omega) ho.2
    refine⟨⟨h1,h2⟩,fun i bx hm=>?_⟩;rcases B2.1 hm with hm|hm
    ·obtain⟨⟨j,hj,hjn⟩,h4,h5⟩:=Gj i bx hm;exact⟨⟨j,hj,by simp only[Om,Xv,List.sum_cons];omega⟩,h4,h5⟩
    ·obtain⟨⟨j,hj,hjn⟩,h4,h5⟩:=Kw i bx hm;refine⟨⟨_,by rw[hj,B1],?_⟩,h4,h5⟩;simp only[Om,Xv,List.sum_cons] at hjn ⊢;omega
def QA(N d:Nat)(bs:List (Nat × Ca))(own β:Bt):Bt:=fun i=>if (bs.any fun q=>Nat.beq q.1 i)=true then own ((i-d) / N) else β i
theorem Abr{bs:List (Nat × Ca)}{i:Nat}:(bs.any fun q=>Nat.beq q.1 i)=true↔∃bx,(i,bx)∈bs:=by
 rw[List.any_eq_true];constructor
 ·rintro⟨⟨j,bx⟩,hm,e⟩
  have:=Dz e;subst this;exact⟨bx,hm⟩
 ·rintro⟨bx,hm⟩
  exact⟨_,hm,Oq i⟩
theorem Alf{N d j:Nat}(hN:0<N){bs:List (Nat × Ca)}{own β:Bt}(h:∃bx,(d+N*j,bx)∈bs):QA N d bs own β (d+N*j)=own j:=by unfold QA;rw[Ch (Abr.2 h),Nat.add_sub_cancel_left,Nat.mul_div_cancel_left _ hN]
theorem TJ{c:Call}{f:FuncId}(ho:o.op=.call c)(hc:c.callee=.value (.func f))(Jo:NoNG P){fn:Func}(hf:P.funcs[f]?=some fn)(hb:fn.body.isSome=true):
  (execOp a.eval o).run P w=.ok (.enter f (c.args.map a.eval)) w:=by
 unfold execOp;rw[ho]
 have hn:¬fn.body=none:=by
  intro h;rw[h] at hb;cases hb
 have Gx:¬fn.name = "runtime.NumGoroutine" :=by simpa using Jo f fn hf
 simp[resolve,hc,Act.eval,Deferred.ofValue,invoke,callFunc,hf,Gx,hn]
theorem Apk{c:Call}{t:Nat}{f:FuncId}(ho:o.op=.call c)(hc:c.callee=.value (.tmp t))(ht:a.eval (.tmp t)=.func (.func f) #[] #[])(Jo:NoNG P){fn:Func}(hf:P.funcs[f]?=some fn)(hb:fn.body.isSome=true):
  (execOp a.eval o).run P w=.ok (.enter f (c.args.map a.eval)) w:=by
 unfold execOp;rw[ho]
 have hn:¬fn.body=none:=by
  intro h;rw[h] at hb;cases hb
 have Gx:¬fn.name = "runtime.NumGoroutine" :=by simpa using Jo f fn hf
 simp[resolve,hc,ht,Deferred.ofValue,invoke,callFunc,hf,Gx,hn]
theorem OG{A':Nat->Prop}(k:Bool):∀{xs:List Operand}{ps:Ae},Bw (Wg w A') ps (xs.map a.eval)->Bw (Wg w A') (M5 k xs ps) (xs.map a.eval)
 |[],[],h=>h
 |[],_::_,h=>h
 |_::_,[],h=>h
 |x::xs,p::ps,h=>by
  simp only[Xv] at h ⊢;refine⟨?_,OG k h.2⟩;split
  ·exact⟨trivial,Az.lnil _ _⟩
  ·exact h.1
theorem UX(h : Cg N w0 X0 Y β s a w){G : Vt}(Jo : OP P G w0 X0){C : Iz}{call : Ap}(C7 : ∀ f args res, call f args = some res -> C3 G P f args res){c : Call}{f : FuncId}(Ds : ∀ {fn : Func}, P.funcs[f]? = some fn -> fn.body.isSome = true -> (execOp a.eval o).run P w = .ok (.enter f (c.args.map a.eval)) w){K : PV -> B7 -> List (Nat × Ca) -> Option R}(hk : (TW P (M3 s.hp) (UK P f c) (c.args.toList.map (Cu s.tm)) fun vs m =>
          Aw (call f (M5 (C.kz f) c.args.toList vs)) fun rv ro => Ak ro (Ar (Nat.blt 0 N) <| OQ P (C.shr f) N (o.dst.getD 0) (S9 P o.type) rv fun ws bs =>
            Ar (bif Ut P o.type then !Nat.beq ws.length 1 else Nat.beq ws.length 1) <| K (Tb ws (Ut P o.type)) (bif M8 P (S9 P o.type) then m else []) bs)) = some r): ∃ v fz nw, K v fz nw = some r /\ WE P a w o Y β s v fz nw := by
  obtain⟨ps, m, hk, hm, Ge⟩ := ZD h hk
  replace Ge := fun fz h1 h2 => OG (a := a) (C.kz f) (Ge fz h1 h2)
  generalize M5 (C.kz f) c.args.toList ps = ps at hk Ge
  obtain⟨rv, ro, Nq, hk⟩ := Aa0 hk
  obtain⟨rfl, hk⟩ := Es hk
  obtain⟨hN, hk⟩ := Aq hk
  have hN : 0 < N := Nat.lt_of_succ_le (Sn hN)
  obtain⟨ws, bs, hk, hwl, hnt, ZO, hrs, hri, hws⟩ := MU (C.shr f) N hk
  obtain⟨Wo, hk⟩ := Aq hk
  obtain⟨⟨fn, hfn, hfb⟩, Z5⟩ := C7 f ps _ Nq
  obtain⟨fz, Zb, hfm⟩ : ∃ fz : B7, fz = (bif M8 P (S9 P o.type) then m else []) /\ ∀ id ∈ fz, ∃ f c, s.hp id = some (.ar f c) := by
    refine⟨_, rfl, fun id B1 => ?_⟩
    cases hh : M8 P (S9 P o.type) <;> rw[hh] at B1
    · cases B1
    · exact hm id B1
  rw[<- Zb] at hk
  refine⟨_, _, _, hk, hfm, fun next Q hn => ?_⟩
  have hf := h.freeze hfm
  have hYc : ∃ Yc : Nat -> Prop, (∀ b, Yc b -> b < w.heap.size) /\ Bw (Wg w Yc) ps (c.args.toList.map a.eval) /\ ((∀ b, Dv (Ah s.hp fz) β Y b -> Yc b) \/ M8 P (S9 P o.type) = false) := by
    have Qx := Ge m (fun _ hi => hi) hm
    cases hh : M8 P (S9 P o.type)
    · exact⟨fun _ => False, fun _ x => x.elim, Qx.mono fun _ _ hx => hx.weaken (fun _ _ x => x.elim), .inr rfl⟩
    · rw[hh] at Zb
      have Zb : fz = m := Zb
      subst Zb
      refine⟨Dv (Ah s.hp fz) β Y, fun b hb => ?_, Qx, .inl fun _ x => x⟩
      rcases hb with⟨id, ob, hl, hβ⟩ | hY
      · exact hf.blt id b ob (Dy hl) hβ
      · exact F4 (h.Ylt b hY) h.fr.step.size
  obtain⟨Yc, A41, hYargs, hYA⟩ := hYc
  unfold Oper.wp
  rw[Ds hfn hfb]
  show Calls P f _ w _
  have hca : c.args.map a.eval = (c.args.toList.map a.eval).toArray := by rw[<- List.map_toArray, Array.toArray_toList]
  rw[hca]
  refine (Z5 w Yc GC _ (Ahi A41 hYargs) (Jo.fr w h.fr) (fun b x => ⟨F4 (Jo.y b x).1 h.fr.step.size, Nu b⟩)).mono ?_
  rintro e w' ⟨vs, own, rfl, QN⟩
  refine hn (Hm vs) w' fun Vq => ⟨QA N (o.dst.getD 0) bs own β, ?_⟩
  obtain⟨ha1, Xr⟩ := B9 Vq
  have Atr : ∀ i bx, (i, bx) ∈ bs -> Ah s.hp fz i = none := fun i bx hm => Fc.2 (ha1 i bx hm)
  obtain⟨hg1, hg2⟩ := Fs (hp := Ah s.hp fz) Xr
  have hold : ∀ i, Ah s.hp fz i ≠ none -> QA N (o.dst.getD 0) bs own β i = β i := by
    intro i hi
    unfold QA
    rw[Br]
    intro hx
    obtain⟨bx, hm⟩ := Abr.1 hx
    exact hi (Atr i bx hm)
  obtain⟨Mm, hba⟩ := hws w' _ own (QA N (o.dst.getD 0) bs own β) w.heap.size 0 vs (fun j hj => by rw[Alf hN hj, Ir]) QN.vals
  have HC : ∀ i bx, (i, bx) ∈ bs -> ∃ j, i = o.dst.getD 0 + N * j /\ QA N (o.dst.getD 0) bs own β i = own j := by
    intro i bx hm
    obtain⟨⟨j, rfl, _⟩, _, _⟩ := hba i bx hm
    exact⟨j, rfl, Alf hN ⟨bx, hm⟩⟩
  have hAA : M8 P (S9 P o.type) = false \/ ∀ b, Dv (A3 (Ah s.hp fz) bs) (QA N (o.dst.getD 0) bs own β) Y b -> Yo GC own Yc b := by
    rcases hYA with hYA | hYA
    · refine .inr fun b hb => ?_
      rcases hb with⟨i, ob, hl, hβ⟩ | hY
      · by_cases hi : ∃ bx, (i, bx) ∈ bs
        · obtain⟨bx, hm⟩ := hi
          obtain⟨j, _, h3⟩ := HC i bx hm
          rw[h3] at hβ
          exact .inl ⟨j, ob, hβ⟩
        · rw[hg2 i (fun bx hm => hi ⟨bx, hm⟩)] at hl
          rw[hold i (Dy hl)] at hβ
          exact .inr (.inr (hYA b (.inl ⟨i, ob, hl, hβ⟩)))
      · exact .inr (.inr (hYA b (.inr hY)))
    · exact .inl hYA
  have hval : E2 w' (Dv (A3 (Ah s.hp fz) bs) (QA N (o.dst.getD 0) bs own β) Y) (QA N (o.dst.getD 0) bs own β) (Tb ws (Ut P o.type)) (Hm vs) := by
    have Qx : Bw (H8 w' (Dv (A3 (Ah s.hp fz) bs) (QA N (o.dst.getD 0) bs own β) Y) (QA N (o.dst.getD 0) bs own β)) ws vs := by
      rcases hAA with hno | hAA
      · obtain⟨_, hsc⟩ := ZO hno
        refine Mm.mono_mem fun v hv u hvu => ?_
        have hsc := hsc v hv
        cases v with
        | agg cs =>
          obtain⟨xs, rfl, WQ⟩ := hvu
          refine⟨xs, rfl, WQ.mono_mem fun cc hcc x hx => ?_⟩
          obtain⟨y, rfl⟩ := hsc cc hcc
          have := Az.val (w := w') hx
          subst this
          exact Az.sc _
        | sc y =>
          have := Az.val (w := w') hvu
          subst this
          exact Az.sc _
        | lst z es n cc => obtain⟨y, hy⟩ := hsc _ (Vv _); cases hy
        | own es n cc => obtain⟨y, hy⟩ := hsc _ (Vv _); cases hy
        | view i es n cc => obtain⟨y, hy⟩ := hsc _ (Vv _); cases hy
        | ptr i cc => obtain⟨y, hy⟩ := hsc _ (Vv _); cases hy
        | iptr i cc => obtain⟨y, hy⟩ := hsc _ (Vv _); cases hy
        | pbox cc => obtain⟨y, hy⟩ := hsc _ (Vv _); cases hy
        | tup cc => obtain⟨y, hy⟩ := hsc _ (Vv _); cases hy
        | top => obtain⟨y, hy⟩ := hsc _ (Vv _); cases hy
        | ub => obtain⟨y, hy⟩ := hsc _ (Vv _); cases hy
      · exact Mm.mono fun v u hvu => hvu.step (Cs.refl _ _) (fun b _ => hAA b) (fun _ _ => rfl)
    have Ek := Qx.len
    cases hT : Ut P o.type
    · rw[hT] at Wo
      have h1 : ws.length = 1 := Dz Wo
      match ws, vs, h1, Ek with
      | [v], [u], _, _ =>
        exact (Pi (hnt v (by simp))).2 Qx.1
    · rw[hT] at Wo
      have h1 : ¬ ws.length = 1 := by
        intro e
        rw[e] at Wo
        cases Wo
      have hr : Hm vs = .tuple ⟨vs⟩ := by
        unfold Hm
        split
        · simp at Ek; omega
        · rfl
      rw[hr]
      exact⟨vs, rfl, Qx⟩
  refine⟨QN.os, QN.tape, QN.output, QN.ext.weaken (fun b _ hb => Nu b hb), hold, ?_, ?_, ?_, ?_, ?_, hval, ?_⟩
  · intro i bx hm
    exact (hba i bx hm).2.1
  · intro i bx hm
    rcases hAA with hno | hAA
    · rw[(ZO hno).1] at hm; cases hm
    · exact (hba i bx hm).2.2.1.step' hAA
  · intro i bx b ob hm hβ
    obtain⟨j, _, h3⟩ := HC i bx hm
    rw[h3] at hβ
    obtain⟨h4, h5⟩ := QN.fresh j b ob hβ
    refine⟨?_, h4⟩
    rcases Is b w.heap.size with h | h
    · obtain⟨⟨_, _, _, h6⟩, _⟩ := h5 h
      cases h6
    · exact h
  · intro i bx i' bx' b ob ob' hm Nz hβ hβ'
    obtain⟨j, h1, h3⟩ := HC i bx hm
    obtain⟨j', h1', h3'⟩ := HC i' bx' Nz
    rw[h3] at hβ
    rw[h3'] at hβ'
    rw[h1, h1', QN.inj j j' b ob ob' hβ hβ']
  · intro i cells hm c hc i' hi'
    exact .inr (hri i cells hm c hc i' hi')
  · intro i hi
    right
    cases hT : Ut P o.type
    · rw[hT] at Wo hi
      have h1 : ws.length = 1 := Dz Wo
      match ws, h1 with
      | [v], _ =>
        refine hrs v (by simp) i ?_
        have : Cb v = Co v := by
          have hn := hnt v (by simp)
          cases v <;> first | rfl | exact absurd rfl (hn _)
        rw[<- this]
        exact hi
    · rw[hT] at hi
      obtain⟨v, hv, hi⟩ := List.mem_flatMap.1 (show i ∈ ws.flatMap Co from hi)
      exact hrs v hv i hi
end
open Go.RowKit
section
variable {R:Type}{r:R}{P:Program}{N:Nat}{w0:World}{X0:Gc}{Y:Nat->Prop}{β β':Bt}{s:St}{a:Act}{w w':World}{o:Oper}{A:Nat->Prop}
theorem Cg.move(h:Cg N w0 X0 Y β s a w){id d:Nat}{c cells:Ae}{bo:Option (Nat × Nat)}{v:PV}{val:Value}(h0:s.hp id=some (.ar false c))(hd:s.hp d=none)(hdN:d<N)(hos:w'.os=w.os)(htp:w'.tape=w.tape)(QN:w'.output=w.output)(Aed:w.heap.size<=w'.heap.size)(P5:∀k,k<w.heap.size->(∀x,β id≠some (k,x))->w'.heap[k]?=w.heap[k]?)(PZ:∀k,k<w.heap.size->Fp w w' k)(hbo:∀k x,bo=some (k,x)->k<w'.heap.size/\(w.heap.size<=k\/∃y,β id=some (k,y)))(hbr:∀k x,bo=some (k,x)->k<w.heap.size->β id=some (k,x))(hO:∀k y,β id=some (k,y)->k<w.heap.size->∀j,j<y->w'.cell? ⟨k,j,none⟩=w.cell? ⟨k,j,none⟩/\w'.frozen? ⟨k,j,none⟩=w.frozen? ⟨k,j,none⟩)(Ms:Wd w' (Dv (Dt (Dt s.hp id (some .mv)) d (some (.ar false cells))) (Dt β d bo) Y) (Dt β d bo) d (.ar false cells))(hv:E2 w' (Dv (Dt (Dt s.hp id (some .mv)) d (some (.ar false cells))) (Dt β d bo) Y) (Dt β d bo) v val)(hr:∀i∈Cb v,i=d):
  Cg N w0 X0 Y (Dt β d bo) ⟨Dt s.tm d v,Dt (Dt s.hp id (some .mv)) d (some (.ar false cells))⟩ (a.put (some d) val) w':=by
 have Gx:id≠d:=by rintro rfl;rw[h0] at hd;cases hd
 have MT:∀i,i≠id->i≠d->Dt (Dt s.hp id (some Ca.mv)) d (some (.ar false cells)) i=s.hp i:=fun i h1 h2=>by rw[Ao _ _ h2,Ao _ _ h1]
 have Axk:Dt (Dt s.hp id (some Ca.mv)) d (some (.ar false cells)) id=some .mv:=by rw[Ao _ _ Gx,Av]
 have hgd:Dt (Dt s.hp id (some Ca.mv)) d (some (.ar false cells)) d=some (.ar false cells):=Av _ _ _
 have Hs:∀i,s.hp i≠none->Dt (Dt s.hp id (some Ca.mv)) d (some (.ar false cells)) i≠none:=by
  intro i hi;by_cases e:i=id
  ·subst e;rw[Axk];simp
  ·by_cases e':i=d
   ·subst e';rw[hgd];simp
   ·rw[MT i e e'];exact hi
 have hβo:∀i,s.hp i≠none->Dt β d bo i=β i:=fun i hi=>Ao _ _ (by rintro rfl;exact hi hd)
 have Aeb:Dg (s.hp id):=by rw[h0];trivial
 have I3:∀i,Dg (Dt (Dt s.hp id (some Ca.mv)) d (some (.ar false cells)) i)->i=d\/(i≠id/\i≠d/\Dg (s.hp i)):=by
  intro i hi;by_cases e':i=d
  ·exact .inl e'
  ·by_cases e:i=id
   ·subst e;rw[Axk] at hi;exact hi.elim
   ·rw[MT i e e'] at hi;exact .inr ⟨e,e',hi⟩
 have hX:∀k,k<w.heap.size->IM (Dt (Dt s.hp id (some .mv)) d (some (.ar false cells))) (Dt β d bo) k->IM s.hp β k:=by
  rintro k hk ⟨i,x,hl,hβ⟩
  rcases I3 i hl with rfl|⟨e,e',hl⟩
  ·rw[Av] at hβ;rcases (hbo k x hβ).2 with Ih|⟨y,hy⟩
   ·omega
   ·exact⟨id,y,Aeb,hy⟩
  ·rw[Ao _ _ e'] at hβ;exact⟨i,x,hl,hβ⟩
 have hAo:∀k,k<w.heap.size->Dv (Dt (Dt s.hp id (some .mv)) d (some (.ar false cells))) (Dt β d bo) Y k->Dv s.hp β Y k:=fun k hk hx=>hx.imp (hX k hk) (fun y=>y);have Fw:Cs (Dv s.hp β Y) w w':=⟨Aed,fun k hk hn=>P5 k hk fun x hx=>hn (.inl ⟨id,x,Aeb,hx⟩),PZ⟩
 have Awj:∀i k x,i≠id->i≠d->(∃b,s.hp i=some b/\b ≠ .mv)->β i=some (k,x)->k<w.heap.size/\w'.heap[k]?=w.heap[k]?:=by
  rintro i k x e e' ⟨b,hb,hmv⟩ hβ
  have hk:=h.blt i k x (by rw[hb];simp) hβ
  refine⟨hk,P5 k hk fun y hy=>?_⟩;have Aqu:=h.box i b hb;cases b with
  |st cc=>exact e (h.inj i id k x y (by rw[hb];trivial) Aeb hβ hy)
  |ar fz cc=>
   cases fz with
   |false=>exact e (h.inj i id k x y (by rw[hb];trivial) Aeb hβ hy)
   |true=>
    rcases Aqu with⟨h1,_⟩|⟨k',x',h1,_,_,h4⟩
    ·rw[hβ] at h1;cases h1
    ·rw[hβ] at h1;simp at h1;obtain⟨rfl,rfl⟩:=h1
     exact h4 rfl (.inl ⟨id,y,Aeb,hy⟩)
  |mv=>exact absurd rfl hmv
 refine⟨by rw[Oz];exact h.dfr,by rw[P6];exact h.tsz,?_,?_,?_,?_,?_,?_,?_,?_,?_,?_,?_,?_,h.Ylt,?_⟩
 ·intro i hi;show Dt s.tm d v i=_;rw[Ao _ _ (by omega)];exact h.tmo i hi
 ·refine Um (d:=some d) (Q:=fun _ p u=>E2 w' (Dv (Dt (Dt s.hp id (some .mv)) d (some (.ar false cells))) (Dt β d bo) Y) (Dt β d bo) p u) h.tsz (by simp[Io,Nat.blt];omega) (fun i hi=>?_) (fun _=>hv)
  exact (h.tms i hi).step Fw hAo fun j hj=>hβo j (h.wfT i hi j hj)
 ·intro i bi hb;simp only at hb;by_cases e':i=d
  ·subst e';rw[hgd] at hb;cases hb;exact Ms
  ·by_cases e:i=id
   ·subst e;rw[Axk] at hb;cases hb;trivial
   ·rw[MT i e e'] at hb;have hβi:=hβo i (by rw[hb];simp)
    have QM:=h.box i bi hb;cases bi with
    |st cc=>
     obtain⟨k,x,h1,h2,h3⟩:=QM;obtain⟨hk,Nx⟩:=Awj i k x e e' ⟨_,hb,by simp⟩ h1;refine⟨k,x,by rw[hβi];exact h1,fun j p hj=>?_,fun j hj=>?_⟩
     ·obtain⟨u,hu,hc⟩:=h2 j p hj;exact⟨u,by rw[World.cell?_of_block (w:=w) Nx];exact hu,hc.step Fw hAo fun q hq=>hβo q (h.wfB i cc hb p (List.mem_of_getElem? hj) q hq)⟩
     ·rw[World.frozen?_of_block (w:=w) Nx];exact h3 j hj
    |ar fz cc=>
     rcases QM with⟨h1,h2⟩|⟨k,x,h1,h2,h3,h4⟩
     ·exact .inl ⟨by rw[hβi];exact h1,h2⟩
     ·obtain⟨hk,Nx⟩:=Awj i k x e e' ⟨_,hb,by simp⟩ h1;refine .inr ⟨k,x,by rw[hβi];exact h1,fun j p hj=>?_,fun ef j hj Ty=>?_,fun ef hx=>h4 ef (hAo k hk hx)⟩
      ·obtain⟨u,hu,h5,hc⟩:=h2 j p hj;exact⟨u,by rw[World.cell?_of_block (w:=w) (by rw[F5];exact Nx)];exact hu,h5,hc.step Fw hAo⟩
      ·rw[World.frozen?_of_block (w:=w) Nx];refine h3 ef j hj ?_;unfold bsz at Ty ⊢;rw[Nx] at Ty;exact Ty
    |mv=>trivial
 ·intro i i' k x y hl Ox hb I7;simp only at hl Ox
  have key:∀j z,j≠id->j≠d->Dg (s.hp j)->β j=some (k,z)->bo=some (k,y)\/bo=some (k,x)->False:=by
   intro j z e e' hlj hβj hbk;have hk:=h.blt j k z (Dy hlj) hβj;have:∃t,bo=some (k,t):=by rcases hbk with q|q<;>exact⟨_,q⟩
   obtain⟨t,ht⟩:=this;rcases (hbo k t ht).2 with Ih|⟨q,hq⟩
   ·omega
   ·exact e (h.inj j id k z q hlj Aeb hβj hq)
  rcases I3 i hl with rfl|⟨e,e',XP⟩
  ·rcases I3 i' Ox with rfl|⟨e2,e2',A69⟩
   ·rfl
   ·rw[Av] at hb;rw[Ao _ _ e2'] at I7;exact (key i' y e2 e2' A69 I7 (.inr hb)).elim
  ·rcases I3 i' Ox with rfl|⟨e2,e2',A69⟩
   ·rw[Av] at I7;rw[Ao _ _ e'] at hb;exact (key i x e e' XP hb (.inl I7)).elim
   ·rw[Ao _ _ e'] at hb;rw[Ao _ _ e2'] at I7;exact h.inj i i' k x y XP A69 hb I7
 ·intro i k x hi hb;simp only at hi;by_cases e':i=d
  ·subst e';rw[Av] at hb;exact (hbo k x hb).1
  ·rw[Ao _ _ e'] at hb
   have hi':s.hp i≠none:=by
    by_cases e:i=id
    ·subst e;rw[h0];simp
    ·rw[MT i e e'] at hi;exact hi
   exact F4 (h.blt i k x hi' hb) Aed
 ·have:=Um (d:=some d) (Q:=fun _ p _=>∀j∈Cb p,Dt (Dt s.hp id (some Ca.mv)) d (some (.ar false cells)) j≠none) (val:=val) (v:=v) h.tsz (by simp[Io,Nat.blt];omega) (fun i hi j hj=>Hs j (h.wfT i hi j hj)) (fun _ j hj=>by
   rw[hr j hj,hgd];simp)
  exact this
 ·intro i cc hc p hp j hj;simp only at hc;by_cases e':i=d
  ·subst e';rw[hgd] at hc;cases hc
  ·by_cases e:i=id
   ·subst e;rw[Axk] at hc;cases hc
   ·rw[MT i e e'] at hc;exact Hs j (h.wfB i cc hc p hp j hj)
 ·rintro k ⟨i,x,hl,hβ⟩
  rcases I3 i hl with rfl|⟨e,e',hl⟩
  ·rw[Av] at hβ;rcases (hbo k x hβ).2 with Ih|⟨y,hy⟩
   ·exact .inr (Nat.le_trans h.fr.step.size Ih)
   ·exact h.ownd k ⟨id,y,Aeb,hy⟩
  ·rw[Ao _ _ e'] at hβ;exact h.ownd k ⟨i,x,hl,hβ⟩
 ·intro i bi k x QM hli hβ Ci j hj;simp only at QM;rcases I3 i (by rw[QM];exact hli) with rfl|⟨e,e',hl⟩
  ·rw[Av] at hβ;rw[hgd] at QM;cases QM;have:=hbr k x hβ (F4 Ci h.fr.step.size);exact h.rngB id (.ar false c) k x h0 trivial this Ci j hj
  ·rw[MT i e e'] at QM;rw[Ao _ _ e'] at hβ;exact h.rngB i bi k x QM hli hβ Ci j hj
 ·intro i hi;exact⟨Hs _ (h.pin i hi).1,by rw[hβo _ (h.pin i hi).1];exact (h.pin i hi).2⟩
 ·intro i cc k x QM hβ Ci;simp only at QM;rcases I3 i (by rw[QM];trivial) with rfl|⟨e,e',hl⟩
  ·rw[hgd] at QM;cases QM
  ·rw[MT i e e'] at QM;rw[Ao _ _ e'] at hβ;exact h.stp i cc k x QM hβ Ci
 ·intro k hY hx;exact h.Yx k hY (hX k (F4 (h.Ylt k hY) h.fr.step.size) hx)
 ·refine⟨hos.trans h.fr.os,htp.trans h.fr.tape,QN.trans h.fr.output,⟨Nat.le_trans h.fr.step.size Aed,fun k hk hnk=>?_,fun k hk=>(h.fr.step.bs k hk).trans (PZ k (F4 hk h.fr.step.size))⟩,fun k j hk hL=>?_⟩
  ·rw[P5 k (F4 hk h.fr.step.size) ?_]
   ·exact h.fr.step.keep k hk hnk
   ·intro x hx;rcases h.ownd k ⟨id,x,Aeb,hx⟩ with hq|hq
    ·exact hnk hq
    ·omega
  ·have hkw:=F4 hk h.fr.step.size
   have FH:w'.cell? ⟨k,j,none⟩=w.cell? ⟨k,j,none⟩/\w'.frozen? ⟨k,j,none⟩=w.frozen? ⟨k,j,none⟩:=by
    by_cases e:∃y,β id=some (k,y)
    ·obtain⟨y,hy⟩:=e;refine hO k y hy hkw j ?_;rcases Is j y with q|q
     ·exact q
     ·exact absurd (h.rngB id (.ar false c) k y h0 trivial hy hk j q) hL
    ·have Nx:=P5 k hkw (fun x hx=>e ⟨x,hx⟩);exact⟨World.cell?_of_block (w:=w) Nx,World.frozen?_of_block (w:=w) Nx⟩
   rw[FH.1,FH.2];exact h.fr.rng k j hk hL
end
open Go.RowKit
section
variable {R:Type}{r:R}{P:Program}{N:Nat}{w0:World}{X0:Gc}{Y:Nat->Prop}{β β':Bt}{s:St}{a:Act}{w w':World}{o:Oper}{A:Nat->Prop}
structure Src(P:Program)(w:World)(A:Nat->Prop)(size:Nat)(xv:Value)(m:Nat)(new:Ae)(news:List Value):Prop where
 len:∀w':World,(Builtin.lenOf xv).run P w'=.ok m w'
 cells:∀w':World,(∀b,b<w.heap.size->w'.heap[b]?=w.heap[b]?)->(Builtin.firstCells size m xv).run P w'=.ok news.toArray w'
 part:∀k,k<=m->(Builtin.firstCells size k xv).run P w=.ok (news.take (k*size)).toArray w
 one:∀u∈news,u.oneCell'=true
 rep:Bw (Az w A) new news
theorem WD(h:Cg N w0 X0 Y β s a w){e tx:TypeId}{x:Operand}{K:Nat->Ae->Option R}(hk:Aiz P s (Bp P e) tx (Cu s.tm x) K=some r)(h1c:∀m new,K m new=some r->new.length=m*Bp P e):
  (∃d,P.underlying tx=some d/\(∀k,d ≠ .int k))/\∃m new news,K m new=some r/\Src P w (Dv s.hp β Y) (Bp P e) (a.eval x) m new news:=by
 unfold Aiz Ail at hk;split at hk
 ·rename_i hu;obtain⟨EG,hk⟩:=Aq hk;have EG:=Dz EG;obtain⟨b,hx,hk⟩:=Ep hk;have Eh:=C4 h hx;refine⟨⟨_,hu,by simp⟩,b.size,D5 b,b.data.toList.map (fun y=>Value.int .u8 y.toNat),hk,?_,?_,?_,?_,?_⟩
  ·intro w';rw[Eh];rfl
  ·intro w' _;rw[Eh]
   have hx:b.data.extract 0 b.size=b.data:=by
    have:b.size=b.data.size:=rfl;rw[this,Array.extract_size]
   have hd:(b.extract 0 b.size).data=b.data:=by
    rw[ByteArray.extract_zero_size]
   simp only[Builtin.firstCells,hd];rw[<-Array.toList_map,Array.toArray_toList];rfl
  ·intro k Ih;rw[Eh,EG,Jc];have hd:(b.extract 0 k).data=b.data.extract 0 k:=ByteArray.data_extract
   have e1:(b.data.extract 0 k).map (fun y=>Value.int .u8 y.toNat)=((b.data.toList.map fun y=>Value.int .u8 y.toNat).take k).toArray:=by
    apply Array.toList_inj.1;simp[List.map_take]
   simp only[Builtin.firstCells,hd];rw[e1];rfl
  ·intro u hu;simp at hu;obtain⟨y,_,rfl⟩:=hu;rfl
  ·unfold D5;generalize b.data.toList=l
   induction l with
   |nil=>trivial
   |cons y l ih=>exact⟨Az.sc _,ih⟩
 ·rename_i e' hu;refine⟨⟨_,hu,by simp⟩,?_⟩;obtain⟨m,new,hk,hc⟩:=TA h hk;have Ek:=h1c m new hk;rcases hc with⟨⟨ad,Eh⟩,rfl,rfl⟩|⟨ad,cap,Eh,hn,Ci,hrd⟩
  ·have f0:∀w':World,(Builtin.firstCells (Bp P e) 0 (.slice ad 0 0)).run P w'=.ok #[] w':=fun w'=>by
    cases ad with
    |none=>rfl
    |some p=>exact run_firstCells_some (P:=P) w' (Bp P e) 0 p 0 0 [] (by simp) (fun j v hj=>by simp at hj)
   exact⟨0,[],[],hk,fun w'=>by rw[Eh];rfl,fun w' _=>by rw[Eh];exact f0 w',fun k Ih=>by rw[Eh,Nat.le_zero.1 Ih,List.take_nil];exact f0 w,by simp,trivial⟩
  ·refine⟨m,new,new.mapIdx (fun j _=>(w.cell? (ad.add j)).getD undef),hk,fun w'=>by rw[Eh];rfl,fun w' hw=>?_,fun k Ih=>?_,?_,?_⟩
   ·rw[Eh];refine run_firstCells_some (P:=P) w' (Bp P e) m ad m cap _ (by simp[Ek]) fun j v hj=>?_;rw[List.getElem?_mapIdx] at hj;cases hc:new[j]? with
    |none=>rw[hc] at hj;cases hj
    |some c=>
     rw[hc] at hj;simp at hj;obtain⟨u,hu,_⟩:=hrd j c hc;rw[hu] at hj;simp at hj;subst hj;have Ci:ad.block<w.heap.size:=by rcases Ci with rfl|Ci<;>first|exact Ci|simp at hc
     rw[World.cell?_of_block (w:=w) (by rw[F5];exact hw _ Ci)]
     exact hu
   ·rw[Eh];have hkm:k*Bp P e<=m*Bp P e:=Nat.mul_le_mul_right _ Ih;refine run_firstCells_some (P:=P) w (Bp P e) k ad m cap _ (by rw[List.length_take,List.length_mapIdx,Ek];omega) fun j v hj=>?_
    rw[List.getElem?_take] at hj;split at hj
    ·rw[List.getElem?_mapIdx] at hj;cases hc:new[j]? with
     |none=>rw[hc] at hj;cases hj
     |some c=>
      rw[hc] at hj;simp at hj;obtain⟨u,hu,_⟩:=hrd j c hc;rw[hu] at hj;simp at hj;subst hj;exact hu
    ·cases hj
   ·intro u hu;obtain⟨j,hj⟩:=List.mem_iff_getElem?.1 hu;rw[List.getElem?_mapIdx] at hj;cases hc:new[j]? with
    |none=>rw[hc] at hj;cases hj
    |some c=>
     rw[hc] at hj;simp at hj;obtain⟨v,hv,h2,ht⟩:=hrd j c hc;rw[hv] at hj;simp at hj;subst hj;exact h2
   ·refine Bw.of_at (by simp) fun j c v hc hj=>?_;rw[List.getElem?_mapIdx,hc] at hj;simp at hj;obtain⟨u,hu,_,ht⟩:=hrd j c hc;rw[hu] at hj;simp at hj;subst hj;exact ht
 ·cases hk
theorem VC{e:TypeId}(h:Ac2 P e=true):∃i z,P.info? e=some i/\i.zero=some z/\z.cells.size=i.size/\Bp P e=i.size:=by
 unfold Ac2 at h;split at h
 ·rename_i i hi;split at h
  ·rename_i z hz;exact⟨i,z,hi,hz,Dz h,by simp[Bp,hi]⟩
  ·cases h
 ·cases h
theorem run_first_slice{es n cap:Nat}{ad:Option Addr}{olds:List Value}(h:(ad=none/\olds=[])\/∃p,ad=some p/\olds.length=n*es/\∀(j:Nat) v,olds[j]?=some v->w.cell? (p.add j)=some v):
  (Builtin.firstCells es n (.slice ad n cap)).run P w=.ok olds.toArray w:=by
 rcases h with⟨rfl,rfl⟩|⟨p,rfl,hl,hc⟩
 ·rfl
 ·exact run_firstCells_some (P:=P) w es n p n cap olds hl hc
theorem append_grow_run{t tx ty e:TypeId}{i:TypeInfo}{z:Value}{d:TypeDesc}{ts:List TypeId}(ht:P.underlying t=some (.slice e))(htx:P.underlying tx=some d)(hd:∀k,d ≠ .int k)(hi:P.info? e=some i)(hz:i.zero=some z){ad:Option Addr}{n cap m:Nat}{xv:Value}{olds news:List Value}{A:Nat->Prop}{new:Ae}(hs:Src P w A i.size xv m new news)(hold:(ad=none/\olds=[])\/∃p,ad=some p/\olds.length=n*i.size/\∀(j:Nat) v,olds[j]?=some v->w.cell? (p.add j)=some v)(hg:cap<n+m)(hb:(n+m)*i.bytes<=1099511627776)(h63:n+m<=1099511627776):
  (Builtin.append_ (t::tx::ts).toArray ty #[.slice ad n cap,xv]).run P w =
   .ok (.slice (some ⟨w.heap.size,0,none⟩) (n+m) (grownCap w (n+m) cap e)) (w.drew.alloc (.cells (olds.toArray++news.toArray++Builtin.zeroCells z.cells (grownCap w (n+m) cap e-(n+m))) e)):=by
 have h1:=hs.len w;have h2:(Builtin.firstCells i.size m xv).run P w.drew=.ok news.toArray w.drew:=hs.cells w.drew (fun _ _=>rfl)
 have h3:(Builtin.firstCells i.size n (.slice ad n cap)).run P w.drew=.ok olds.toArray w.drew:=run_first_slice (w:=w.drew) (by
  rcases hold with hh|⟨p,hp,hl,hc⟩
  ·exact .inl hh
  ·exact .inr ⟨p,hp,hl,fun j v hj=>hc j v hj⟩)
 have Aox:=growslice_fits (need:=n+m) (old:=cap) (bytes:=i.bytes) hg (by omega);have hn:¬(n+m<=cap):=by omega
 have A0t:¬(9223372036854775807<((n:Int)+(m:Int))):=by omega
 have Axp:¬(281474976710656<Builtin.nextslicecap (n+m) cap*i.bytes):=by omega
 have UZ:(match d with | .int _=>true|_=>false)=false:=by cases d<;>first|rfl|exact absurd rfl (hd _)
 simp[Builtin.append_,run_underlying ht,run_underlying htx,UZ,sizeOf,typeInfo,zeroValue,hi,hz,h1,hn,A0t,Axp,Question.forced,h2,h3,newRow,grownCap]
 congr 2
 apply Array.ext';simp[Zzv]
theorem append_room_run{t tx ty e:TypeId}{i:TypeInfo}{d:TypeDesc}{ts:List TypeId}(ht:P.underlying t=some (.slice e))(htx:P.underlying tx=some d)(hd:∀k,d ≠ .int k)(hi:P.info? e=some i){b ob n cap m:Nat}{xv:Value}{news:List Value}{A:Nat->Prop}{new:Ae}(hs:Src P w A i.size xv m new news)(hl:news.length=m*i.size)(Ey:∀k,k<news.length->(w.cell? ⟨b,ob+n*i.size+k,none⟩).isSome=true)(XS:∀k,k<news.length->w.frozen? ⟨b,ob+n*i.size+k,none⟩=false)(hg:n+m<=cap):
  (Builtin.append_ (t::tx::ts).toArray ty #[.slice (some ⟨b,ob,none⟩) n cap,xv]).run P w=.ok (.slice (some ⟨b,ob,none⟩) (n+m) cap) (w.setCells b (ob+n*i.size) news):=by
 have h1:=hs.len w;have h2:(Builtin.firstCells i.size m xv).run P w=.ok news.toArray w:=hs.cells w (fun _ _=>rfl);have h3:=run_storeCells_cells (P:=P) b (ob+n*i.size) news 0 w (fun k hk=>by simpa using Ey k hk) (fun k hk=>by simpa using XS k hk) hs.one;have UZ:(match d with | .int _=>true|_=>false)=false:=by cases d<;>first|rfl|exact absurd rfl (hd _)
 have _:=hl;simp[Builtin.append_,run_underlying ht,run_underlying htx,UZ,sizeOf,typeInfo,hi,h1,hg,h2,Et];rw[h3];simp
theorem Ahg{t ty e:TypeId}{i:TypeInfo}{ts:List TypeId}(ht:P.underlying t=some (.slice e))(hi:P.info? e=some i){ad:Option Addr}{n cap m:Nat}{xv:Value}{news:List Value}{A:Nat->Prop}{new:Ae}(hs:Src P w A i.size xv m new news){w1:World}(Fw:(match ad with|some p=>storeCells p (news.take (min m n*i.size)) 0|none=>pure ()).run P w=.ok () w1):
  (Builtin.copy_ (t::ts).toArray ty #[.slice ad n cap,xv]).run P w=.ok (goInt ((min m n:Nat):Int)) w1:=by
 have h1:=hs.len w;have h2:=hs.part (min m n) (Nat.min_le_left _ _);have e:Nat.min m n=min m n:=rfl;generalize min m n=k at *
 cases ad with
 |none=>
  simp only at Fw;simp[Builtin.copy_,run_underlying ht,sizeOf,typeInfo,hi,h1,h2,e]
  simpa using Fw
 |some p=>
  simp only at Fw;simp[Builtin.copy_,run_underlying ht,sizeOf,typeInfo,hi,h1,h2,e,Fw]
theorem OA{t tx ty e:TypeId}{i:TypeInfo}{k kx:IntKind}{ts:List TypeId}(ht:P.underlying t=some (.slice e))(htx:P.underlying tx=some (.int k))(hi:P.info? e=some i):
  (Builtin.append_ (t::tx::ts).toArray ty #[.slice none 0 0,.int kx 0]).run P w=.ok (.slice none 0 0) w:=by
 have hw:IntKind.i64.wrap 0=0:=by decide
 simp[Builtin.append_,run_underlying ht,run_underlying htx,sizeOf,typeInfo,hi,asInt,asIntOf,hw]
theorem QR{t tx ty e:TypeId}{i:TypeInfo}{z:Value}{k kx:IntKind}{ts:List TypeId}(ht:P.underlying t=some (.slice e))(htx:P.underlying tx=some (.int k))(hi:P.info? e=some i)(hz:i.zero=some z){n:Int}(h0:0<n)(hb:n.toNat*i.bytes<=1099511627776)(hn:n<=1099511627776):
  (Builtin.append_ (t::tx::ts).toArray ty #[.slice none 0 0,.int kx n]).run P w =
   .ok (.slice (some ⟨w.heap.size,0,none⟩) n.toNat (grownCap w n.toNat 0 e)) (w.drew.alloc (.cells ((if n.toNat*i.size=0 then #[] else Builtin.zeroCells z.cells n.toNat)++Builtin.zeroCells z.cells (grownCap w n.toNat 0 e-n.toNat)) e)):=by
 have hw:IntKind.i64.wrap n=n:=IntWalk.i64_in n (by omega);have Aox:=growslice_fits (need:=n.toNat) (old:=0) (bytes:=i.bytes) (by omega) (by omega);have LX:¬n<0:=by omega
 have Hs:¬(281474976710656<n*(i.bytes:Int)):=by
  have:n*(i.bytes:Int)=((n.toNat*i.bytes:Nat):Int):=by
   rw[Int.natCast_mul,Int.toNat_of_nonneg (by omega)]
  omega
 have Ml:¬(n.toNat=0):=by omega
 have A0t:¬(9223372036854775807<(n.toNat:Int)):=by omega
 have Axp:¬(281474976710656<Builtin.nextslicecap n.toNat 0*i.bytes):=by omega
 have Ys:¬n<=0:=by omega
 have hmx:¬(9223372036854775807<max n 0):=by omega
 by_cases hs:n.toNat*i.size=0
 ·simp[Builtin.append_,run_underlying ht,run_underlying htx,sizeOf,typeInfo,zeroValue,hi,hz,asInt,asIntOf,hw,LX,Hs,Ml,Ys,hmx,A0t,Axp,Question.forced,hs,newRow,grownCap,Builtin.firstCells]
 ·simp[Builtin.append_,run_underlying ht,run_underlying htx,sizeOf,typeInfo,zeroValue,hi,hz,asInt,asIntOf,hw,LX,Hs,Ml,Ys,hmx,A0t,Axp,Question.forced,hs,newRow,grownCap,Builtin.firstCells]
theorem Qw{t tx ty e:TypeId}{i:TypeInfo}{d:TypeDesc}{ts:List TypeId}(ht:P.underlying t=some (.slice e))(htx:P.underlying tx=some d)(hd:∀k,d ≠ .int k)(hi:P.info? e=some i){ad:Option Addr}{xv:Value}{news:List Value}{A:Nat->Prop}{new:Ae}(hs:Src P w A i.size xv 0 new news)(h0:news=[]):
  (Builtin.append_ (t::tx::ts).toArray ty #[.slice ad 0 0,xv]).run P w=.ok (.slice ad 0 0) w:=by
 subst h0;have h1:=hs.len w;have h2:(Builtin.firstCells i.size 0 xv).run P w=.ok ([]:List Value).toArray w:=hs.cells w (fun _ _=>rfl);have UZ:(match d with | .int _=>true|_=>false)=false:=by cases d<;>first|rfl|exact absurd rfl (hd _)
 cases ad<;>simp[Builtin.append_,run_underlying ht,run_underlying htx,UZ,sizeOf,typeInfo,hi,h1,h2,storeCells]
end
open Go.RowKit
section
variable {R:Type}{r:R}{P:Program}{N:Nat}{w0:World}{X0:Gc}{Y:Nat->Prop}{β β':Bt}{s:St}{a:Act}{w w':World}{o:Oper}{A:Nat->Prop}
theorem BF{b j:Nat}(h:j<bsz w b):(w.cell? ⟨b,j,none⟩).isSome=true:=by
 unfold bsz at h;unfold World.cell?;split at h
 ·rename_i c e fz hb;simp[hb,h]
 ·omega
theorem Ai2{id d:Nat}{c cells:Ae}{bo:Option (Nat × Nat)}(h0:s.hp id=some (.ar false c))(hd:s.hp d=none)(hbo:∀k x,bo=some (k,x)->w.heap.size<=k\/∃y,β id=some (k,y)):
  ∀k,k<w.heap.size->Dv (Dt (Dt s.hp id (some .mv)) d (some (.ar false cells))) (Dt β d bo) Y k->Dv s.hp β Y k:=by
 rintro k hk (⟨i,x,hl,hβ⟩|hY)
 ·by_cases e':i=d
  ·subst e';rw[Av] at hβ;rcases hbo k x hβ with h|⟨y,hy⟩
   ·omega
   ·exact .inl ⟨id,y,by rw[h0];trivial,hy⟩
  ·rw[Ao _ _ e'] at hl hβ;by_cases e:i=id
   ·subst e;rw[Av] at hl;exact hl.elim
   ·rw[Ao _ _ e] at hl;exact .inl ⟨i,x,hl,hβ⟩
 ·exact .inr hY
theorem WH{pre new:Ae}{olds news:List Value}{zs:Array Value}{e:TypeId}{A':Nat->Prop}(hg:Hc w w' (olds.toArray++news.toArray++zs) e)(hA:∀b,b<w.heap.size->A' b->A b)(h1:Bw (Az w A) pre olds)(h2:Bw (Az w A) new news)(ho:∀u∈olds,u.oneCell'=true)(hn:∀u∈news,u.oneCell'=true):WO w' A' ⟨w.heap.size,0,none⟩ (pre++new):=by
 refine Amk hg hA fun j p hj=>?_;obtain⟨v,hv,ht⟩:=(h1.app h2).get hj;refine⟨v,?_,?_,ht⟩
 ·have Ci:j<(olds++news).length:=by
   rcases Is j (olds++news).length with h|h
   ·exact h
   ·rw[List.getElem?_eq_none h] at hv;cases hv
  rw[Array.getElem?_append_left (by simpa using Ci)]
  simpa using hv
 ·rcases B2.1 (List.mem_of_getElem? hv) with hm|hm
  ·exact ho v hm
  ·exact hn v hm
theorem Abh(h:Cg N w0 X0 Y β s a w){c:Call}(ho:o.op=.call c)(hc:c.callee=.builtin .append)(hnb:IB c=true){d:Nat}(An6:o.dst=some d){b x:Operand}(Ge:c.args.toList=[b,x]){t tx:TypeId}{ts:List TypeId}(QE:c.argTypes.toList=t::tx::ts){K:PV->List (Nat × Ca)->Option R}(hk:CY P (M3 s.hp) d t tx (Cu s.tm x) K=some r):∃v nw,K v nw=some r/\Fq P a w o Y β s v [] nw:=by
 have hb:b=.const (.slice none 0 0):=by
  unfold IB at hnb;rw[Ge] at hnb;split at hnb
  ·rename_i e;injection e
  ·cases hnb
 have SR:c.args = #[b,x]:=by
  have:c.args=([b,x]:List Operand).toArray:=by rw[<-Ge]
  exact this
 have Afx:c.argTypes=(t::tx::ts).toArray:=by rw[<-QE]
 have Vq:a.eval b=.slice none 0 0:=by rw[hb];rfl
 have run:∀{v:Value} {w1:World},(Builtin.append_ (t::tx::ts).toArray o.type #[a.eval b,a.eval x]).run P w=.ok v w1->(execOp a.eval o).run P w=.ok (.value v) w1:=by
  intro v w1 hr;unfold execOp;rw[ho];simp only[resolve,hc,invoke,builtin,Sem.run_bind,Sem.run_pure,Result.andThen_ok,SR,Afx];have:(#[b,x]:Array Operand).map a.eval = #[a.eval b,a.eval x]:=by simp
  rw[this,hr];rfl
 unfold CY at hk;split at hk
 ·rename_i e hu;obtain⟨hzi,hk⟩:=Aq hk;obtain⟨i,z,hi,hz,RZ,Kx⟩:=VC hzi;have AM:((P.info? e).map (·.bytes)).getD 0=i.bytes:=by rw[hi];rfl
  obtain⟨⟨dx,hdx,Af7⟩,m,new,news,hk,hs⟩:=WD (s:=s) h hk (fun m new Ih=>by
   obtain⟨hb,_⟩:=Aq Ih;simp only[Fe,FJ] at hb;exact hb.1.1)
  obtain⟨I7,hk⟩:=Aq hk;simp only[Fe,FJ] at I7;obtain⟨⟨Alv,hby⟩,RE⟩:=I7;have hnl:new.length=news.length:=hs.rep.len;rw[Kx] at Alv hk hs;rw[AM] at hby;have PI:news.length=m*i.size:=by omega
  refine⟨_,_,hk,by simp,?_⟩;by_cases hm0:m=0
  ·subst hm0;have hr:=Qw (P:=P) (w:=w) (t:=t) (tx:=tx) (ty:=o.type) (ts:=ts) (ad:=none) hu hdx Af7 hi hs (List.eq_nil_of_length_eq_zero (by omega));rw[<-Vq] at hr;have Ahp:new=[]:=List.eq_nil_of_length_eq_zero (by omega);subst Ahp;refine⟨_,_,run hr,fun Avv=>⟨Dt β d none,?_⟩⟩;have EZ:s.hp d=none:=(B9 Avv).1 d _ (Vv _);rw[Vq];refine⟨rfl,rfl,rfl,Cs.refl _ _,fun j hj=>Ao _ _ (by rintro rfl;exact hj EZ),?_,?_,?_,?_,?_,.inl ⟨Av _ _ _,rfl,rfl,none,rfl⟩,?_⟩
   ·intro j bx hm;simp at hm;rw[hm.2];trivial
   ·intro j bx hm;simp at hm;obtain⟨rfl,rfl⟩:=hm;exact .inl ⟨Av _ _ _,rfl⟩
   ·intro j bx k q hm hq;simp at hm;obtain⟨rfl,rfl⟩:=hm;rw[Av] at hq;cases hq
   ·intro j bx j' bx' k q q' hm Nz _ _;simp at hm Nz;rw[hm.1,Nz.1]
   ·intro j cells hm;simp at hm
   ·intro j hj;simp[Cb,Co,Ay] at hj;subst hj;exact .inr ⟨.ar false [],by simp⟩
  ·have hr:=append_grow_run (P:=P) (w:=w) (t:=t) (tx:=tx) (ty:=o.type) (ts:=ts) (ad:=none) (n:=0) (cap:=0) (olds:=[]) hu hdx Af7 hi hz hs (.inl ⟨rfl,rfl⟩) (by omega) (by rw[Ir];exact hby) (by omega)
   rw[<-Vq] at hr;refine⟨_,_,run hr,fun Avv=>⟨Dt β d (some (w.heap.size,0)),?_⟩⟩;have EZ:s.hp d=none:=(B9 Avv).1 d _ (Vv _);have hge:0+m<=grownCap w (0+m) 0 e:=grownCap_ge w (0+m) 0 e
   have GT:Hc w (w.drew.alloc (.cells (([]:List Value).toArray++news.toArray++Builtin.zeroCells z.cells (grownCap w (0+m) 0 e-(0+m))) e)) (([]:List Value).toArray++news.toArray++Builtin.zeroCells z.cells (grownCap w (0+m) 0 e-(0+m))) e:=
    ⟨rfl,rfl,rfl,fun k hk=>Below.heap_alloc w.drew _ k hk,by show (w.heap.push _).size=_;simp,(0,0),by show (w.heap.push _)[w.heap.size]?=_;simp,.inl rfl⟩
   have Ajv:(([]:List Value).toArray++news.toArray++Builtin.zeroCells z.cells (grownCap w (0+m) 0 e-(0+m))).size=grownCap w (0+m) 0 e*i.size:=by
    simp only[Array.size_append,List.size_toArray,size_zeroCells,RZ,PI,YX,<-Nat.add_mul];rw[Ir (m*i.size),<-Nat.add_mul]
    congr 1
    omega
   refine Wm (s:=⟨s.tm,Ah s.hp []⟩) GT EZ trivial ?_ (fun cells hx=>by cases hx) ?_ (by intro j hj;simp[Cb,Co,Ay] at hj;exact .inr hj)
   ·refine .inr ⟨w.heap.size,0,Av _ _ _,?_,fun _ j _ hj=>?_,(fun q=>by cases q)⟩
    ·exact WH (pre:=[]) GT (Anj (s:=⟨s.tm,Ah s.hp []⟩) EZ) trivial hs.rep (by simp) hs.one
    ·rw[GT.bsz] at hj;exact GT.frozen hj
   ·refine .inr ⟨w.heap.size,0,0,grownCap w (0+m) 0 e,Av _ _ _,by rw[Ir],.inl rfl,by omega,?_,by rw[GT.size];omega⟩
    exact⟨by rw[GT.bsz,Ajv];omega,.inr (Ou w.drew _ e)⟩
 ·cases hk
theorem Ahb{lo hi:Option Operand}{y3:Operand}{k3:IntKind}{len cap l u m:Nat}(hl:(lo=none/\l=0)\/∃y k,lo=some y/\a.eval y=.int k (l:Int))(hu:∃y k,hi=some y/\a.eval y=.int k (u:Int))(hm:a.eval y3=.int k3 (m:Int))(h1:l<=u)(h2:u<=m)(h3:m<=cap):
  (Instr.sliceBounds true len cap (lo.map a.eval) (hi.map a.eval) (some (a.eval y3))).run P w=.ok (l,u,m) w:=by
 obtain⟨y,k,rfl,hy⟩:=hu;rcases hl with⟨rfl,rfl⟩|⟨y',k',rfl,hy'⟩
 ·simp[Instr.sliceBounds,Instr.sliceBound,asIntOf,hy,hm,h2,h3]
 ·simp[Instr.sliceBounds,Instr.sliceBound,asIntOf,hy,hy',hm,h1,h2,h3]
theorem Adm(h:Cg N w0 X0 Y β s a w){t:TypeId}{x m:Operand}{lo hi:Option Operand}(ho:o.op=.slice t x lo hi (some m)){d:Nat}{K:PV->List (Nat × Ca)->Option R}(hk:DC P d t (Cu s.tm x) (lo.map (Cu s.tm)) (hi.map (Cu s.tm)) (some (Cu s.tm m)) K=some r):∃v nw,K v nw=some r/\Fq P a w o Y β s v [] nw:=by
 have hx:=D7 h x;unfold DC at hk;split at hk
 ·rename_i e hu;obtain⟨hb,hk⟩:=Aq hk;simp only[Fe] at hb;obtain⟨V0,hhi⟩:=hb
  obtain⟨yh,rfl⟩:∃y,hi=some y:=by
   cases hi with
   |none=>simp at hhi
   |some y=>exact⟨y,rfl⟩
  have fin:∀{ad:Option Addr} {n cap l u q:Nat},a.eval x=.slice ad n cap->n<=cap->((lo=none/\l=0)\/∃y k,lo=some y/\a.eval y=.int k (l:Int))->((some yh=none/\u=n)\/∃y k,some yh=some y/\a.eval y=.int k (u:Int))->(((some m:Option Operand)=none/\q=n)\/∃y k,(some m:Option Operand)=some y/\a.eval y=.int k (q:Int)) ->
    (Nat.beq l q&&Nat.beq u q&&decide (q<=n))=true->Fq P a w o Y β s (.view d (Bp P e) 0 0) [] [(d,.ar false [])]:=by
   intro ad n cap l u q Eh hn hl Mk hq hb;simp only[Fe,FJ] at hb;obtain⟨⟨b1,b2⟩,b3⟩:=hb;have b1:=Dz b1;have b2:=Dz b2;subst b1 b2
   have hu2:∃y k,(some yh:Option Operand)=some y/\a.eval y=.int k (u:Int):=by
    rcases Mk with⟨e,_⟩|e
    ·cases e
    ·exact e
   obtain⟨k3,hm3⟩:∃k,a.eval m=.int k (u:Int):=by
    rcases hq with⟨e,_⟩|⟨y,k,e,q⟩
    ·cases e
    ·cases e;exact⟨k,q⟩
   have hbr:=Ahb (P:=P) (w:=w) (len:=n) (cap:=cap) hl hu2 hm3 (Cd _) (Cd _) (by omega)
   have Ds:∃ad',(execOp a.eval o).run P w=.ok (.value (.slice ad' 0 0)) w:=by
    unfold execOp;rw[ho];cases ad with
    |none=>exact⟨none,by simp[Instr.sliceAt,Instr.slice,run_underlying hu,Eh,hbr,D1 V0] at hbr ⊢⟩
    |some p=>exact⟨some p,by simp[Instr.sliceAt,Instr.slice,run_underlying hu,Eh,hbr,D1 V0] at hbr ⊢⟩
   obtain⟨ad',Ds⟩:=Ds;refine⟨by simp,_,_,Ds,fun Avv=>⟨Dt β d none,?_⟩⟩;have EZ:s.hp d=none:=(B9 Avv).1 d _ (Vv _);refine⟨rfl,rfl,rfl,Cs.refl _ _,fun j hj=>Ao _ _ (by rintro rfl;exact hj EZ),?_,?_,?_,?_,?_,.inl ⟨Av _ _ _,rfl,rfl,ad',rfl⟩,?_⟩
   ·intro j bx hm;simp at hm;rw[hm.2];trivial
   ·intro j bx hm;simp at hm;obtain⟨rfl,rfl⟩:=hm;exact .inl ⟨Av _ _ _,rfl⟩
   ·intro j bx k q hm hq;simp at hm;obtain⟨rfl,rfl⟩:=hm;rw[Av] at hq;cases hq
   ·intro j bx j' bx' k q q' hm Nz _ _;simp at hm Nz;rw[hm.1,Nz.1]
   ·intro j cells hm;simp at hm
   ·intro j hj;simp[Cb,Co,Ay] at hj;subst hj;exact .inr ⟨.ar false [],by simp⟩
  split at hk
  ·rename_i id es off n e';rw[e'] at hx;obtain⟨EG,hk⟩:=Aq hk;obtain⟨l,hk,hl⟩:=E5 h hk;obtain⟨u,hk,Mk⟩:=E5 h hk;obtain⟨q,hk,hq⟩:=E5 (x:=some m) h hk;obtain⟨hb,hk⟩:=Aq hk;refine⟨_,_,hk,?_⟩;rcases hx with⟨hβ,_,rfl,ad,Eh⟩|⟨b,ob,y,cap,hβ,Eh,hy,hn,EN,Ci⟩
   ·exact fin Eh (Cd _) hl Mk hq hb
   ·exact fin Eh hn hl Mk hq hb
  ·obtain⟨z,n,c,hk,hp⟩:=Ha hk;obtain⟨l,hk,hl⟩:=E5 h hk;obtain⟨u,hk,Mk⟩:=E5 h hk;obtain⟨q,hk,hq⟩:=E5 (x:=some m) h hk;obtain⟨hb,hk⟩:=Aq hk;refine⟨_,_,hk,?_⟩;rcases slice_form hp hx with⟨Eh,rfl,rfl⟩|⟨ad,cap,Eh,_,hn,_⟩|⟨ad,cap,Eh,_,rfl,rfl⟩
   ·exact fin Eh (Cd _) hl Mk hq hb
   ·exact fin Eh hn hl Mk hq hb
   ·exact fin Eh (Nat.zero_le _) hl Mk hq hb
 ·cases hk
end
open Go.RowKit
section
variable {R:Type}{r:R}{P:Program}{N:Nat}{w0:World}{X0:Gc}{Y:Nat->Prop}{β β':Bt}{s:St}{a:Act}{w w':World}{o:Oper}{A:Nat->Prop}
theorem Ar3(h:Cg N w0 X0 Y β s a w){G:Vt}(Jo:OP P G w0 X0){C:Iz}{call:Ap}(C7:∀f args res,call f args=some res->C3 G P f args res){K:PV->B7->List (Nat × Ca)->Option R}(hk:TB C P N call s.tm (rd s.hp) (M3 s.hp) o K=some r):∃v fz nw,K v fz nw=some r/\WE P a w o Y β s v fz nw:=by
 have one:∀{K':PV->Option R},(∀v,K' v=some r->K v [] []=some r)->(∃v,K' v=some r/\Fq P a w o Y β s v [] [])->∃v fz nw,K v fz nw=some r/\WE P a w o Y β s v fz nw:=
  fun hK ⟨v,h1,h2⟩=>⟨v,[],[],hK v h1,UN h2⟩
 have many:(∃v fz nw,K v fz nw=some r/\Fq P a w o Y β s v fz nw)->∃v fz nw,K v fz nw=some r/\WE P a w o Y β s v fz nw:=
  fun ⟨v,fz,nw,h1,h2⟩=>⟨v,fz,nw,h1,UN h2⟩
 unfold TB at hk;split at hk
 ·rename_i x ho;exact one (fun _ h=>h) (LS (K:=fun p=>K p [] []) h (Aqd ho) hk)
 ·rename_i x ho;exact one (fun _ h=>h) (LS (K:=fun p=>K p [] []) h (Aga ho) hk)
 ·rename_i c x y ho;exact one (fun _ h=>h) (Ai9 (K:=fun p=>K p [] []) h ho hk)
 ·rename_i t ho;obtain⟨d,hd,hk⟩:=C9 hk;exact many (Aet ho hk)
 ·rename_i t x ho;obtain⟨d,hd,hk⟩:=C9 hk;exact many (An9 h ho hk)
 ·rename_i t ps ho;exact one (fun _ h=>h) (Afv (K:=fun p=>K p [] []) h ho hk)
 ·rename_i t n ps ho;obtain⟨d,hd,hk⟩:=C9 hk;exact many (NZ h ho hk)
 ·rename_i t x ho;exact one (fun _ h=>h) (Ak6 (K:=fun p=>K p [] []) h ho hk)
 ·rename_i x ho;exact one (fun _ h=>h) (RW (K:=fun p=>K p [] []) h ho hk)
 ·rename_i op t x y ty ho;exact one (fun _ h=>h) (Afg (K:=fun p=>K p [] []) h ho hk)
 ·rename_i op t x ho;exact one (fun _ h=>h) (Aj7 (K:=fun p=>K p [] []) h ho hk)
 ·rename_i src dst x ho;obtain⟨v,nw,hk,hg⟩:=Aj2 h ho hk;obtain⟨d,hd,hk⟩:=C9 hk;exact⟨v,[],nw,hk,UN hg⟩
 ·rename_i t x y ho;obtain⟨d,hd,hk⟩:=C9 hk;exact many (Ajn h ho hk)
 ·rename_i t x lo hi mx ho;split at hk
  ·exact one (fun _ h=>h) (Agz (K:=fun p=>K p [] []) h ho hk)
  ·obtain⟨d,hd,hk⟩:=C9 hk;obtain⟨v,nw,h1,h2⟩:=Adm h ho hk;exact⟨v,[],nw,h1,UN h2⟩
 ·rename_i t x f ho;exact one (fun _ h=>h) (QO (K:=fun p=>K p [] []) h ho hk)
 ·rename_i t x f ho;exact one (fun _ h=>h) (Ae4 (K:=fun p=>K p [] []) h ho hk)
 ·rename_i t x i ho;exact one (fun _ h=>h) (PU (K:=fun p=>K p [] []) h ho hk)
 ·rename_i t x i ho;exact one (fun _ h=>h) (Ahx (K:=fun p=>K p [] []) h ho hk)
 ·rename_i t x k ok ho;exact one (fun _ h=>h) (Acc (K:=fun p=>K p [] []) h ho hk)
 ·rename_i x i ho;exact one (fun _ h=>h) (XL (K:=fun p=>K p [] []) h ho hk)
 ·rename_i c ho;split at hk
  ·rename_i hc;exact one (fun _ h=>h) (Ap1 (K:=fun p=>K p [] []) h ho hc hk)
  ·rename_i hc;exact one (fun _ h=>h) (Apf (K:=fun p=>K p [] []) h ho hc hk)
  ·rename_i hc;exact one (fun _ h=>h) (Ap8 (K:=fun p=>K p [] []) h ho hc hk)
  ·rename_i hc;exact one (fun _ h=>h) (Aob (K:=fun p=>K p [] []) h ho hc hk)
  ·rename_i hc;obtain⟨hnb,hk⟩:=Aq hk;obtain⟨d,hd,Eu⟩:=C9 hk;obtain⟨b,xs,WQ,Gb⟩:=Bo Eu;obtain⟨x,ys,hys,Pf⟩:=Bo Gb;obtain⟨HL,Uv⟩:=Es Pf;obtain⟨t,us,hus,XY⟩:=Bo Uv;obtain⟨tx,vs,Mm,hk6⟩:=Bo XY;rw[hys,HL] at WQ;rw[Mm] at hus;obtain⟨v,nw,h1,h2⟩:=Abh h ho hc hnb hd WQ hus hk6;exact⟨v,[],nw,h1,UN h2⟩
  ·rename_i f hc;exact UX h Jo C7 (fun hf hb=>TJ ho hc Jo.ng hf hb) hk
  ·rename_i t hc;obtain⟨f,hf0,Eu⟩:=A0l hk;have ht:a.eval (.tmp t)=.func (.func f) #[] #[]:=C4 h (x:=.tmp t) hf0;exact UX h Jo C7 (fun hf hb=>Apk ho hc ht Jo.ng hf hb) Eu
  ·cases hk
 ·cases hk
theorem Akd(h:Cg N w0 X0 Y β s a w){G:Vt}(Jo:OP P G w0 X0){C:Iz}{call:Ap}(C7:∀f args res,call f args=some res->C3 G P f args res){K:St->Option R}(hk:(TB C P N call s.tm (rd s.hp) (M3 s.hp) o fun v fz nw=>NR N s o.dst v fz nw K)=some r):
  ∃s',K s'=some r/\∀(next:Act->World->Prop) (Q:Exit->Act->World->Prop),(∀a' w' β',Cg N w0 X0 Y β' s' a' w'->next a' w')->o.wp P a w next Q:=by
 obtain⟨v,fz,nw,hk,Zb,hg⟩:=Ar3 h Jo C7 hk;unfold NR at hk;obtain⟨hb,hk⟩:=Aq hk;simp only[Fe] at hb;refine⟨_,hk,fun next Q hn=>hg next Q fun val w' Fw=>?_⟩;obtain⟨β',st⟩:=Fw hb.2
 have Vq:Cn (Ah s.hp fz) nw=true:=by
  have:∀nw,Cn s.hp nw=true->Cn (Ah s.hp fz) nw=true:=by
   intro nw
   induction nw with
   |nil=>intro _;rfl
   |cons q nw ih=>
    obtain⟨i,b⟩:=q;intro hq;simp only[Cn,Fe,Option.isNone_iff_eq_none] at hq ⊢;exact⟨⟨Fc.2 hq.1.1,hq.1.2⟩,ih hq.2⟩
  exact this nw hb.2
 exact hn _ _ β' ((h.freeze Zb).stepR hb.1 Vq st)
end
open Go.RowKit
section
variable {R:Type}{r:R}{P:Program}{N:Nat}{w0:World}{X0:Gc}{Y:Nat->Prop}{β β':Bt}{s:St}{a:Act}{w w':World}{o:Oper}{A:Nat->Prop}
structure C6(b:Nat)(w w':World):Prop where
 os:w'.os=w.os
 tape:w'.tape=w.tape
 output:w'.output=w.output
 size:w'.heap.size=w.heap.size
 other:∀k,k≠b->w'.heap[k]?=w.heap[k]?
 bs:bsz w' b=bsz w b
 frz:∀j,w'.frozen? ⟨b,j,none⟩=w.frozen? ⟨b,j,none⟩
theorem C6.grow{b:Nat}(h:C6 b w w')(k:Nat):Fp w w' k:=by
 by_cases e:k=b
 ·subst e;refine⟨by rw[h.bs];exact Cd _,fun q=>?_⟩
  unfold endF at q ⊢;rw[h.bs,h.frz];exact q
 ·exact Fp.same (h.other k e)
theorem C6.refl(b:Nat)(w:World):C6 b w w:=⟨rfl,rfl,rfl,rfl,fun _ _=>rfl,rfl,fun _=>rfl⟩
theorem C6.setCell(b j:Nat)(v:Value)(w:World):C6 b w (w.setCell ⟨b,j,none⟩ v):=by
 refine⟨rfl,rfl,rfl,by simp[World.setCell],fun k hk=>Below.heap_setCell w ⟨b,j,none⟩ v k hk,?_,fun i=>?_⟩
 ·simp only[bsz,World.setCell,Array.getElem?_modify];simp only[if_true];cases h:w.heap[b]? with
  |none=>simp
  |some x=>cases x<;>simp
 ·simp only[World.frozen?,World.setCell,Array.getElem?_modify,if_true];cases h:w.heap[b]? with
  |none=>simp
  |some x=>cases x<;>simp
theorem C6.trans{b:Nat}{w'':World}(h:C6 b w w')(h':C6 b w' w''):C6 b w w'':=
 ⟨h'.os.trans h.os,h'.tape.trans h.tape,h'.output.trans h.output,h'.size.trans h.size,fun k hk=>(h'.other k hk).trans (h.other k hk),h'.bs.trans h.bs,fun j=>(h'.frz j).trans (h.frz j)⟩
theorem C6.setCells(b:Nat):∀(vs:List Value)(j:Nat)(w:World),C6 b w (w.setCells b j vs)
 |[],_,w=>C6.refl b w
 |v::vs,j,w=>(C6.setCell b j v w).trans (C6.setCells b vs (j+1) _)
theorem A8v{hp:Nat->Option Ca}{id:Nat}{bx bx':Ca}(h0:hp id=some bx)(hl:Dg (some bx))(Ox:Dg (some bx'))(b:Nat):IM (Dt hp id (some bx')) β b↔IM hp β b:=by
 constructor
 ·rintro⟨i,o,h1,h2⟩
  by_cases e:i=id
  ·subst e;exact⟨i,o,by rw[h0];exact hl,h2⟩
  ·rw[Ao _ _ e] at h1;exact⟨i,o,h1,h2⟩
 ·rintro⟨i,o,h1,h2⟩
  by_cases e:i=id
  ·subst e;exact⟨i,o,by rw[Av];exact Ox,h2⟩
  ·exact⟨i,o,by rw[Ao _ _ e];exact h1,h2⟩
theorem Cg.write(h:Cg N w0 X0 Y β s a w){id b ob:Nat}{bx bx':Ca}(h0:s.hp id=some bx)(hl:Dg (some bx))(Ox:Dg (some bx'))(hβ:β id=some (b,ob))(hw:C6 b w w')(Ms:Wd w' (Dv s.hp β Y) β id bx')(hr:∀cells,bx'=.st cells->∀c∈cells,∀i∈Ay c,s.hp i≠none)(hK:∀c',bx'=.st c'->∃c,bx=.st c)(hR:∀j,BR bx' ob j->BR bx ob j)(hO:∀j,¬BR bx ob j->w'.cell? ⟨b,j,none⟩=w.cell? ⟨b,j,none⟩):Cg N w0 X0 Y β ⟨s.tm,Dt s.hp id (some bx')⟩ a w':=by
 have hX:=A8v (β:=β) h0 hl Ox;have hA:∀k,Dv (Dt s.hp id (some bx')) β Y k↔Dv s.hp β Y k:=fun k=>⟨fun x=>x.imp (hX k).1 (fun y=>y),fun x=>x.imp (hX k).2 (fun y=>y)⟩;have hAb:Dv s.hp β Y b:=.inl ⟨id,ob,by rw[h0];exact hl,hβ⟩
 have Fw:Cs (Dv s.hp β Y) w w':=⟨by rw[hw.size];exact Cd _,fun k _ hk=>hw.other k (fun e=>hk (e ▸ hAb)),fun k _=>hw.grow k⟩
 have Hs:∀i,Dt s.hp id (some bx') i≠none↔s.hp i≠none:=by
  intro i;by_cases e:i=id
  ·subst e;rw[Av,h0];simp
  ·rw[Ao _ _ e]
 have hAe:Dv (Dt s.hp id (some bx')) β Y=Dv s.hp β Y:=funext fun k=>propext (hA k)
 have HZ:∀i,Dg (Dt s.hp id (some bx') i)->Dg (s.hp i):=by
  intro i hi;by_cases e:i=id
  ·subst e;rw[h0];exact hl
  ·rw[Ao _ _ e] at hi;exact hi
 refine⟨h.dfr,h.tsz,h.tmo,fun i hi=>?_,fun i bi hb=>?_,fun i i' k x y h1 h2=>h.inj i i' k x y (HZ i h1) (HZ i' h2),fun i k x hi hk=>?_,fun i hi j hj=>(Hs j).2 (h.wfT i hi j hj),
  fun i cells hc c hcm j hj=>(Hs j).2 ?_,fun k hk=>h.ownd k ((hX k).1 hk),fun i bi k x QM hli hk Ci j hj=>?_,fun i hi=>⟨(Hs _).2 (h.pin i hi).1,(h.pin i hi).2⟩,fun i c k x hc hk Ci=>?_,fun k hk x=>h.Yx k hk ((hX k).1 x),h.Ylt,?_⟩
 ·rw[hAe];exact (h.tms i hi).step Fw (fun _ _ x=>x) (fun _ _=>rfl)
 ·rw[hAe];simp only at hb;by_cases e:i=id
  ·subst e;rw[Av] at hb;cases hb;exact Ms
  ·rw[Ao _ _ e] at hb;have QM:=h.box i bi hb;cases bi with
   |st c=>
    obtain⟨k,x,h1,h2,h3⟩:=QM
    have hk:k≠b:=by
     rintro rfl
     exact e (h.inj i id k x ob (by rw[hb];trivial) (by rw[h0];exact hl) h1 hβ)
    refine⟨k,x,h1,fun j c hj=>?_,fun j hj=>?_⟩
    ·obtain⟨v,hv,hc⟩:=h2 j c hj;exact⟨v,by rw[World.cell?_of_block (w:=w) (hw.other k hk)];exact hv,hc.step Fw (fun _ _ x=>x) (fun _ _=>rfl)⟩
    ·rw[World.frozen?_of_block (w:=w) (hw.other k hk)];exact h3 j hj
   |ar fz c=>
    rcases QM with hn|⟨k,x,h1,h2,h3,h4⟩
    ·exact .inl hn
    ·have hk:k≠b:=by
      rintro rfl
      cases fz with
      |true=>exact h4 rfl hAb
      |false=>exact e (h.inj i id k x ob (by rw[hb];trivial) (by rw[h0];exact hl) h1 hβ)
     refine .inr ⟨k,x,h1,fun j c hj=>?_,fun ef j hj Ty=>?_,h4⟩
     ·obtain⟨v,hv,h5,hc⟩:=h2 j c hj;exact⟨v,by rw[World.cell?_of_block (w:=w) (by rw[F5];exact hw.other k hk)];exact hv,h5,hc.step Fw (fun _ _ x=>x)⟩
     ·rw[World.frozen?_of_block (w:=w) (hw.other k hk)];refine h3 ef j hj ?_;unfold bsz at Ty ⊢;rw[hw.other k hk] at Ty;exact Ty
   |mv=>trivial
 ·rw[hw.size];exact h.blt i k x ((Hs i).1 hi) hk
 ·simp only at hc;by_cases e:i=id
  ·subst e;rw[Av] at hc;injection hc with hc;exact hr cells hc c hcm j hj
  ·rw[Ao _ _ e] at hc;exact h.wfB i cells hc c hcm j hj
 ·simp only at QM;by_cases e:i=id
  ·subst e;rw[Av] at QM;cases QM;rw[hβ] at hk;cases hk;exact h.rngB i bx b ob h0 hl hβ Ci j (hR j hj)
  ·rw[Ao _ _ e] at QM;exact h.rngB i bi k x QM hli hk Ci j hj
 ·simp only at hc;by_cases e:i=id
  ·subst e;rw[Av] at hc;injection hc with hc;obtain⟨c0,rfl⟩:=hK c hc;exact h.stp i c0 k x h0 hk Ci
  ·rw[Ao _ _ e] at hc;exact h.stp i c k x hc hk Ci
 ·refine⟨hw.os.trans h.fr.os,hw.tape.trans h.fr.tape,hw.output.trans h.fr.output,?_,fun k j hk hL=>?_⟩
  ·refine⟨by rw[hw.size];exact h.fr.step.size,fun k hk hnk=>?_,fun k hk=>(h.fr.step.bs k hk).trans (Fw.bs k (F4 hk h.fr.step.size))⟩
   rw[hw.other k ?_]
   ·exact h.fr.step.keep k hk hnk
   ·rintro rfl
    rcases h.ownd k ⟨id,ob,by rw[h0];exact hl,hβ⟩ with hx|hx
    ·exact hnk hx
    ·omega
  ·by_cases e:k=b
   ·subst e;rw[hO j (fun hj=>hL (h.rngB id bx k ob h0 hl hβ hk j hj)),hw.frz];exact h.fr.rng k j hk hL
   ·have hc:w'.cell? ⟨k,j,none⟩=w.cell? ⟨k,j,none⟩:=World.cell?_of_block (w:=w) (hw.other k e);have hf:w'.frozen? ⟨k,j,none⟩=w.frozen? ⟨k,j,none⟩:=World.frozen?_of_block (w:=w) (hw.other k e);rw[hc,hf];exact h.fr.rng k j hk hL
theorem Yf{c cs:Ae}{off j:Nat}{p:PV}(Ys:off+cs.length<=c.length)(h:(B3 c cs off)[j]?=some p):
  (off<=j/\j<off+cs.length/\cs[j-off]?=some p)\/((j<off\/off+cs.length<=j)/\c[j]?=some p):=by
 unfold B3 at h;by_cases h1:j<off
 ·rw[Zzv,List.getElem?_append_left (by simp;omega),List.getElem?_take_of_lt h1] at h
  exact .inr ⟨.inl h1,h⟩
 ·by_cases h2:j<off+cs.length
  ·rw[List.getElem?_append_left (by simp;omega),List.getElem?_append_right (by simp;omega)] at h
   simp only[List.length_take,Nat.min_eq_left (by omega:off<=c.length)] at h;exact .inl ⟨by omega,h2,h⟩
  ·rw[List.getElem?_append_right (by simp;omega)] at h
   simp only[Vk,List.length_take,Nat.min_eq_left (by omega:off<=c.length),List.getElem?_drop] at h;rw[show off+cs.length+(j-(off+cs.length))=j from by omega] at h;exact .inr ⟨.inr (by omega),h⟩
theorem X5{c cs:Ae}{off:Nat}(Ys:off+cs.length<=c.length):(B3 c cs off).length=c.length:=by simp[B3];omega
theorem OX{t:TypeId}{b j:Nat}{v:Value}(Kx:(P.info? t).map (·.size)=some v.cells.size)(hc:∀i,i<v.cells.toList.length->(w.cell? ⟨b,j+i,none⟩).isSome=true)(hf:∀i,i<v.cells.toList.length->w.frozen? ⟨b,j+i,none⟩=false)(h1:∀u∈v.cells.toList,u.oneCell'=true):(Instr.storeAt t (.pointer (some ⟨b,j,none⟩)) v).run P w=.ok () (w.setCells b j v.cells.toList):=by
 have:=run_storeCells_cells (P:=P) b j v.cells.toList 0 w (fun i hi=>by simpa using hc i hi) (fun i hi=>by simpa using hf i hi) h1;simp only[Instr.storeAt,Instr.sureAddr,storeVar,Sem.run_bind,Sem.run_pure,Result.andThen_ok,O5 Kx]
 simpa using this
theorem Ae6(h:Cg N w0 X0 Y β s a w){t:TypeId}{x y:Operand}(ho:o.op=.store t x y)(hd:o.dst=none){K:St->Option R}(hk:NH P s t (Cu s.tm x) (Cu s.tm y) K=some r):
  ∃s',K s'=some r/\∀(next:Act->World->Prop) (Q:Exit->Act->World->Prop),(∀a' w' β',Cg N w0 X0 Y β' s' a' w'->next a' w')->o.wp P a w next Q:=by
 have hx:=D7 h x;have WY:=Gv h x
 have run:∀{b j:Nat},a.eval x=.pointer (some ⟨b,j,none⟩)->(Instr.storeAt t (.pointer (some ⟨b,j,none⟩)) (a.eval y)).run P w=.ok () (w.setCells b j (a.eval y).cells.toList) ->
   ∀(next:Act->World->Prop) (Q:Exit->Act->World->Prop),next a (w.setCells b j (a.eval y).cells.toList)->o.wp P a w next Q:=by
  intro b j Eh hr next Q hn;unfold Oper.wp execOp;rw[ho];simp only[Sem.run_bind,Eh,hr,Result.andThen_ok,Sem.run_pure];show next (a.put o.dst undef) _;rw[hd];exact hn
 unfold NH at hk;split at hk
 ·rename_i id off e;rw[e] at hx WY;obtain⟨b,ob,hβ,Eh⟩:=hx;split at hk
  ·rename_i c h0;obtain⟨hb,hk⟩:=Aq hk;simp only[Fe,FJ] at hb;obtain⟨⟨hok,hl⟩,Ys⟩:=hb;have hl:=Dz hl;obtain⟨cs,hk,Nq,h2,h1,hr,_⟩:=Aml (D7 h y) hl hk;obtain⟨_,A5a,Kx⟩:=Wx hok;have JX:=h2.len;obtain⟨b',o',Gj,Kw,EP⟩:=h.box id _ h0;rw[hβ] at Gj;simp at Gj;obtain⟨rfl,rfl⟩:=Gj
   have Ey:∀i,i<(a.eval y).cells.toList.length->(w.cell? ⟨b,ob+off+i,none⟩).isSome=true:=by
    intro i hi;obtain⟨v,hv,_⟩:=Kw (off+i) _ (List.getElem?_eq_getElem (by omega));rw[Jq,hv];rfl
   have Ds:=OX (P:=P) (t:=t) (w:=w) (b:=b) (j:=ob+off) (v:=a.eval y) (by rw[Kx,<-A5a,<-Nq,JX];simp) Ey (fun i hi=>by rw[Jq];exact EP _ (by omega)) h1
   refine⟨_,hk,fun next Q hn=>run Eh Ds next Q (hn _ _ β ?_)⟩
   refine h.write h0 trivial trivial hβ (C6.setCells b _ _ w) ?_ ?_ (fun _ _=>⟨_,rfl⟩) (fun j hj=>by
    have hj:ob<=j/\j<ob+(B3 c cs off).length:=hj;rw[X5 (by omega)] at hj;exact hj) (fun j hj=>by
    refine World.cell?_setCells_out b _ _ w ⟨b,j,none⟩ (fun _ _=>?_);have hj:¬(ob<=j/\j<ob+c.length):=hj;show j<ob+off\/ob+off+_<=j;omega)
   ·have Fw:Cs (Dv s.hp β Y) w (w.setCells b (ob+off) (a.eval y).cells.toList):=by
     have hw:=C6.setCells b (a.eval y).cells.toList (ob+off) w;have hAb:Dv s.hp β Y b:=.inl ⟨id,ob,by rw[h0];trivial,hβ⟩
     exact⟨by rw[hw.size];exact Cd _,fun k _ hk=>hw.other k (fun e=>hk (e ▸ hAb)),fun k _=>hw.grow k⟩
    refine⟨b,ob,hβ,fun j p hj=>?_,fun j hj=>?_⟩
    ·rcases Yf (by omega) hj with⟨h3,h4,h5⟩|⟨h3,h5⟩
     ·obtain⟨u,hu,hcu⟩:=h2.get h5;have Ci:j-off<(a.eval y).cells.toList.length:=by omega
      refine⟨u,?_,hcu.step Fw (fun _ _ x=>x) (fun _ _=>rfl)⟩;have:=World.cell?_setCells_in b (a.eval y).cells.toList (ob+off) w Ey (j-off) Ci;rw[show ob+j=ob+off+(j-off) from by omega,this];rw[List.getElem?_eq_getElem Ci] at hu;exact hu
     ·obtain⟨v,hv,OH⟩:=Kw j p h5;refine⟨v,?_,OH.step Fw (fun _ _ x=>x) (fun _ _=>rfl)⟩;rw[World.cell?_setCells_out b _ _ w ⟨b,ob+j,none⟩ (fun _ _=>by show ob+j<ob+off\/ob+off+_<=ob+j;omega)]
      exact hv
    ·rw[X5 (by omega)] at hj;rw[(C6.setCells b _ _ w).frz];exact EP j hj
   ·intro cells hx c' Yp i hi;injection hx with hx;subst hx;unfold B3 at Yp;rcases B2.1 Yp with Yp|Yp
    ·rcases B2.1 Yp with Yp|Yp
     ·exact h.wfB id c h0 c' (List.mem_of_mem_take Yp) i hi
     ·exact Gv h y i (hr c' Yp i hi)
    ·exact h.wfB id c h0 c' (List.mem_of_mem_drop Yp) i hi
  ·rename_i c h0;obtain⟨hb,hk⟩:=Aq hk;simp only[Fe,FJ] at hb;obtain⟨hok,Ys⟩:=hb;obtain⟨cs,m,hk,Nq,Xq,hT,hF,hm,hv⟩:=Ws h hk;obtain⟨RE,hk⟩:=Aq hk
   have RE:id ∉ m:=by
    intro hi;have:m.any (Nat.beq id)=true:=List.any_eq_true.2 ⟨id,hi,Oq id⟩;rw[this] at RE;cases RE
   obtain⟨_,A5a,Kx⟩:=Wx hok
   have Ax8:Bw (Cj w (Dv s.hp β Y) β) (cellsOf (Cu s.tm y)) (a.eval y).cells.toList:=by
    have hyv:=D7 h y;cases hp:Cu s.tm y with
    |agg ps=>
     rw[hp] at hyv;obtain⟨vs,hay,h2⟩:=hyv;rw[hay];exact h2
    |sc v=>
     rw[hp] at hyv hF
     have Ak8:(a.eval y).oneCell'=true:=by
      have:=hv m (fun _ hi=>hi) hm [a.eval y] (by rw[hp];exact⟨hyv,trivial⟩)
      exact this.2 _ (by simp)
     rw[Sb Ak8];exact⟨hyv,trivial⟩
    |lst z es n cc=>
     rw[hp] at hyv hF
     have Ak8:(a.eval y).oneCell'=true:=by
      have:=hv m (fun _ hi=>hi) hm [a.eval y] (by rw[hp];exact⟨hyv,trivial⟩)
      exact this.2 _ (by simp)
     rw[Sb Ak8];exact⟨hyv,trivial⟩
    |view i es oo n=>
     rw[hp] at hyv hF
     have Ak8:(a.eval y).oneCell'=true:=by
      have:=hv m (fun _ hi=>hi) hm [a.eval y] (by rw[hp];exact⟨hyv,trivial⟩)
      exact this.2 _ (by simp)
     rw[Sb Ak8];exact⟨hyv,trivial⟩
    |own es n cc=>
     have hx0:=hF (Cu s.tm y) (by rw[hp];exact Vv _)
     rw[hp] at hx0;exact hx0.elim
    |ptr i cc=>
     have hx0:=hF (Cu s.tm y) (by rw[hp];exact Vv _)
     rw[hp] at hx0;exact hx0.elim
    |iptr i cc=>
     have hx0:=hF (Cu s.tm y) (by rw[hp];exact Vv _)
     rw[hp] at hx0;exact hx0.elim
    |pbox cc=>
     have hx0:=hF (Cu s.tm y) (by rw[hp];exact Vv _)
     rw[hp] at hx0;exact hx0.elim
    |tup cc=>
     have hx0:=hF (Cu s.tm y) (by rw[hp];exact Vv _)
     rw[hp] at hx0;exact hx0.elim
    |ub=>
     have hx0:=hF (Cu s.tm y) (by rw[hp];exact Vv _)
     rw[hp] at hx0;exact hx0.elim
    |top=>
     have hx0:=hF (Cu s.tm y) (by rw[hp];exact Vv _)
     rw[hp] at hx0;exact hx0.elim
   obtain⟨h2,h1⟩:=hv m (fun _ hi=>hi) hm _ Ax8;have JX:=h2.len;have hf:=h.freeze hm;have h0':Ah s.hp m id=some (.ar false c):=by rw[Cp,Br RE];exact h0
   rcases hf.box id _ h0' with⟨hn,_⟩|⟨b',o',Gj,Kw,EP,_⟩
   ·rw[hβ] at hn;cases hn
   rw[hβ] at Gj;simp at Gj;obtain⟨rfl,rfl⟩:=Gj
   have Ey:∀i,i<(a.eval y).cells.toList.length->(w.cell? ⟨b,ob+off+i,none⟩).isSome=true:=by
    intro i hi;obtain⟨v,hv,_⟩:=Kw (off+i) _ (List.getElem?_eq_getElem (by omega));rw[Et] at hv;rw[Jq,hv];rfl
   have Ds:=OX (P:=P) (t:=t) (w:=w) (b:=b) (j:=ob+off) (v:=a.eval y) (by rw[Kx,<-A5a,<-Nq,JX];simp) Ey (fun i hi=>by
    obtain⟨u,hu⟩:=Option.isSome_iff_exists.1 (Ey i hi);exact EP rfl _ (by omega) (LO hu)) h1
   refine⟨_,hk,fun next Q hn=>run Eh Ds next Q (hn _ _ β ?_)⟩
   refine hf.write h0' trivial trivial hβ (C6.setCells b _ _ w) ?_ (fun cells hx=>by cases hx) (fun _ hx=>by cases hx) (fun j hj=>hj) (fun j hj=>by
    refine World.cell?_setCells_out b _ _ w ⟨b,j,none⟩ (fun _ _=>?_);have hj:¬(ob<=j):=hj;show j<ob+off\/ob+off+_<=j;omega)
   have Fw:Cs (Dv (Ah s.hp m) β Y) w (w.setCells b (ob+off) (a.eval y).cells.toList):=by
    have hw:=C6.setCells b (a.eval y).cells.toList (ob+off) w;have hAb:Dv (Ah s.hp m) β Y b:=.inl ⟨id,ob,by rw[h0'];trivial,hβ⟩
    exact⟨by rw[hw.size];exact Cd _,fun k _ hk=>hw.other k (fun e=>hk (e ▸ hAb)),fun k _=>hw.grow k⟩
   refine .inr ⟨b,ob,hβ,fun j p hj=>?_,fun _ j hj Ty=>?_,(fun x=>by cases x)⟩
   ·rw[Et];rcases Yf (by omega) hj with⟨h3,h4,h5⟩|⟨h3,h5⟩
    ·obtain⟨u,hu,hcu⟩:=h2.get h5;have Ci:j-off<(a.eval y).cells.toList.length:=by omega
     refine⟨u,?_,h1 u (List.mem_of_getElem? hu),hcu.step Fw (fun _ _ x=>x)⟩;have:=World.cell?_setCells_in b (a.eval y).cells.toList (ob+off) w Ey (j-off) Ci;rw[show ob+j=ob+off+(j-off) from by omega,this];rw[List.getElem?_eq_getElem Ci] at hu;exact hu
    ·obtain⟨v,hv,h6,OH⟩:=Kw j p h5;rw[Et] at hv;refine⟨v,?_,h6,OH.step Fw (fun _ _ x=>x)⟩;rw[World.cell?_setCells_out b _ _ w ⟨b,ob+j,none⟩ (fun _ _=>by show ob+j<ob+off\/ob+off+_<=ob+j;omega)]
     exact hv
   ·rw[(C6.setCells b _ _ w).bs] at Ty;rw[(C6.setCells b _ _ w).frz];exact EP rfl j hj Ty
  ·cases hk
 ·cases hk
end
open Go.RowKit
theorem Lx:∀{l l':B7},Ff (l++l')=true->Ff l=true/\Ff l'=true/\∀i∈l,i ∉ l'
 |[],l',h=>⟨rfl,h,by simp⟩
 |a::l,l',h=>by
  simp only[Zzp,Ff,Fe,Bool.not_eq_true'] at h;obtain⟨h1,h2⟩:=h;obtain⟨h3,h4,h5⟩:=Lx h2
  have hn:∀i∈l++l',a≠i:=by
   rintro i hi rfl
   have:(l++l').any (Nat.beq a)=true:=List.any_eq_true.2 ⟨a,hi,Oq a⟩;rw[this] at h1;cases h1
  refine⟨?_,h4,fun i hi=>?_⟩
  ·simp only[Ff,Fe,Bool.not_eq_true',h3,and_true];rw[List.any_eq_false];intro i hi e;exact hn i (by simp[hi]) (Dz e)
  ·rcases Ce.1 hi with rfl|hi
   ·exact fun hm=>hn i (by simp[hm]) rfl
   ·exact h5 i hi
def I2(β:Bt)(q:Nat × Nat):Option (Nat × Nat):=(β q.1).map fun p=>(p.1,p.2+q.2)
theorem Akz(β:Bt)(id:Nat):I2 β (id,0)=β id:=by unfold I2;cases β id<;>rfl
section
variable {R:Type}{r:R}{P:Program}{N:Nat}{w0:World}{X0:Gc}{Y:Nat->Prop}{β β':Bt}{s:St}{a:Act}{w w':World}{o:Oper}{A:Nat->Prop}
theorem Ta{fz:B7}{b:Nat}(h:Dv (Ah s.hp fz) β Y b):Dv s.hp β Y b:=h.imp Xm id
theorem Au2(h:Cg N w0 X0 Y β s a w){mv:Bool}{t:CT}{p:PV}{K:PV->B7->B7->Option R}(hk:Anx mv s.hp t p K=some r):
  ∃c m q,K c m (Option.toList q)=some r/\isA c/\YC p/\(∀id∈m,∃f cc,s.hp id=some (.ar f cc))/\(∀id,q=some id->∃cc,s.hp id=some (.ar false cc)) /\
   ∀fz:B7,(∀id∈m,id∈fz)->(∀id∈fz,∃f cc,s.hp id=some (.ar f cc))->∀v,Cj w (Dv s.hp β Y) β p v->Ij w (Dv (Ah s.hp fz) β Y) (q.bind β) c v:=by
 have frz:∀{t:CT} {p:PV} {K:PV->B7->B7->Option R},(Uf (M3 s.hp) t p fun c m=>K c m [])=some r->∃c m q,K c m (Option.toList q)=some r/\isA c/\YC p/\(∀id∈m,∃f cc,s.hp id=some (.ar f cc))/\(∀id,q=some id->∃cc,s.hp id=some (.ar false cc)) /\
   ∀fz:B7,(∀id∈m,id∈fz)->(∀id∈fz,∃f cc,s.hp id=some (.ar f cc))->∀v,Cj w (Dv s.hp β Y) β p v->Ij w (Dv (Ah s.hp fz) β Y) (q.bind β) c v:=by
  intro t p K hk;obtain⟨c,m,hk,hT,hF,hm,hv⟩:=SM h hk;exact⟨c,m,none,hk,.inl hT,hF,hm,by simp,fun fz h1 h2 v hc=>Pd hT (hv fz h1 h2 v hc).1⟩
 have tree:∀{t:CT} {p:PV} {K:PV->B7->B7->Option R},(∀es,t ≠ .sl es)->(NQ t p fun c=>K c [] [])=some r->∃c m q,K c m (Option.toList q)=some r/\isA c/\YC p/\(∀id∈m,∃f cc,s.hp id=some (.ar f cc))/\(∀id,q=some id->∃cc,s.hp id=some (.ar false cc)) /\
   ∀fz:B7,(∀id∈m,id∈fz)->(∀id∈fz,∃f cc,s.hp id=some (.ar f cc))->∀v,Cj w (Dv s.hp β Y) β p v->Ij w (Dv (Ah s.hp fz) β Y) (q.bind β) c v:=by
  intro t p K Gx hk;obtain⟨c,hk,hT,WI,hv⟩:=Rr hk;exact⟨c,[],none,hk,.inl hT,Yb WI,by simp,by simp,fun fz h1 h2 v hc=>Pd hT ((hv w _ β v hc).1.step (Cs.refl _ _) (fun b _ hb=>Ta hb))⟩
 unfold Anx at hk;cases t with
 |sl es=>
  dsimp only at hk;cases mv<;>simp only[cond_true,cond_false] at hk
  ·exact frz hk
  ·split at hk
   ·rename_i id es' off n;split at hk
    ·rename_i c h0;cases hb:(Nat.beq es' es&&Nat.beq off 0)<;>rw[hb] at hk<;>simp only[cond_true,cond_false] at hk
     ·exact frz hk
     ·simp only[Fe] at hb;have he:=Dz hb.1;have hof:=Dz hb.2;subst he hof;obtain⟨hl,hk⟩:=Aq hk;refine⟨_,[],some id,hk,.inr ⟨_,_,_,rfl⟩,trivial,by simp,fun i hi=>by cases hi;exact⟨c,h0⟩,fun fz h1 h2 v hc=>?_⟩
      rcases hc with⟨h3,_,rfl,h4⟩|⟨b,ob,x,cap,h3,h4,hx,h5,h6,h7⟩
      ·exact .inl ⟨h3,rfl,by simp,h4⟩
      ·have hx:x=ob:=by rcases hx with e|⟨_,e⟩<;>omega
       subst hx;rcases h.box id _ h0 with⟨h8,_⟩|⟨b',o',h8,h9,h10,_⟩
       ·rw[h3] at h8;cases h8
       ·rw[h3] at h8;cases h8;refine .inr ⟨b,x,cap,h3,h4,h5,h6,h7,fun j p hj=>?_,h10 rfl⟩;rw[List.getElem?_take] at hj;split at hj
        ·obtain⟨u,hu,h11,ht⟩:=h9 j p hj;exact⟨u,hu,h11,ht.step (Cs.refl _ _) (fun b _ hb=>Ta hb)⟩
        ·cases hj
    ·exact frz hk
   ·obtain⟨z,n,c,hk,hp⟩:=Ha hk;have hpF:YC p:=by rcases hp with e|⟨e,_⟩<;>(rw[e];trivial)
    cases z<;>simp only[cond_true,cond_false] at hk
    ·refine⟨_,[],none,hk,.inl trivial,hpF,by simp,by simp,fun fz h1 h2 v hc=>?_⟩;exact Pd trivial ((GF hp hc).step (Cs.refl _ _) (fun b _ hb=>Ta hb))
    ·refine⟨_,[],none,hk,.inr ⟨_,_,_,rfl⟩,hpF,by simp,by simp,fun fz h1 h2 v hc=>.inl ⟨rfl,rfl,rfl,none,?_⟩⟩;have:=GF hp hc;cases this;rfl
 |int k=>exact tree (by simp) hk
 |bool=>exact tree (by simp) hk
 |str=>exact tree (by simp) hk
 |any=>exact tree (by simp) hk
theorem DQ(h:Cg N w0 X0 Y β s a w){mv:Bool}:∀{ts:List CT}{ps:Ae}{K:Ae->B7->B7->Option R},OS mv s.hp ts ps K=some r ->
  ∃cs m x,∃q:Nat->Option Nat,K cs m x=some r/\cs.length=ts.length/\ps.length=ts.length/\(∀c∈cs,isA c)/\(∀p∈ps,YC p)/\(∀id∈m,∃f cc,s.hp id=some (.ar f cc))/\(∀id∈x,∃cc,s.hp id=some (.ar false cc)) /\
   (∀j id,q j=some id->id∈x)/\(Ff x=true->∀j j' id,q j=some id->q j'=some id->j=j') /\
   ∀fz:B7,(∀id∈m,id∈fz)->(∀id∈fz,∃f cc,s.hp id=some (.ar f cc))->∀vs,Bw (Cj w (Dv s.hp β Y) β) ps vs->∀(own:Bt) j0,(∀j,own (j0+j)=(q j).bind β)->Gh w (Dv (Ah s.hp fz) β Y) own j0 cs vs
 |[],[],K,hk=>⟨[],[],[],fun _=>none,hk,rfl,rfl,by simp,by simp,by simp,by simp,by simp,by simp,fun fz _ _ vs hv own j0 _=>by
   cases vs with
   |nil=>trivial
   |cons v vs=>exact hv.elim⟩
 |[],_::_,K,hk=>by cases hk
 |_::_,[],K,hk=>by cases hk
 |t::ts,p::ps,K,hk=>by
  unfold OS at hk;obtain⟨c,m,q,hk,hA,hF,hm,hq,hv⟩:=Au2 h hk;obtain⟨cs,ms,xs,qs,hk,hl,Ox,hAs,hFs,VA,WQ,hqx,hqi,Mm⟩:=DQ h hk;refine⟨c::cs,m++ms,q.toList++xs,fun j=>match j with|0=>q|j+1=>qs j,hk,by simp[hl],by simp[Ox],?_,?_,?_,?_,?_,?_,?_⟩
  ·intro x hx;rcases Ce.1 hx with rfl|hx
   ·exact hA
   ·exact hAs x hx
  ·intro x hx;rcases Ce.1 hx with rfl|hx
   ·exact hF
   ·exact hFs x hx
  ·intro i hi;rcases B2.1 hi with hi|hi
   ·exact hm i hi
   ·exact VA i hi
  ·intro i hi;rcases B2.1 hi with hi|hi
   ·exact hq i (by simpa using hi)
   ·exact WQ i hi
  ·intro j id hj;cases j with
   |zero=>exact B2.2 (.inl (by simpa using hj))
   |succ j=>exact B2.2 (.inr (hqx j id hj))
  ·intro hn j j' id hj Ty;obtain⟨_,h2,h3⟩:=Lx hn;cases j with
   |zero=>
    cases j' with
    |zero=>rfl
    |succ j'=>exact absurd (hqx j' id Ty) (h3 id (by simpa using hj))
   |succ j=>
    cases j' with
    |zero=>exact absurd (hqx j id hj) (h3 id (by simpa using Ty))
    |succ j'=>rw[hqi h2 j j' id hj Ty]
  ·intro fz h1 h2 vs h3 own j0 Hr;cases vs with
   |nil=>exact h3.elim
   |cons v vs=>
    refine⟨?_,Mm fz (fun i hi=>h1 i (by simp[hi])) h2 vs h3.2 own (j0+1) fun j=>?_⟩
    ·have:=Hr 0;rw[ZS] at this;rw[this];exact hv fz (fun i hi=>h1 i (by simp[hi])) h2 v h3.1
    ·have:=Hr (j+1);rw[show j0+1+j=j0+(j+1) by omega];exact this
def LOk(hp:Nat->Option Ca)(q:Option (Nat × Nat))(p:PV)(x:Ja):Prop:=
 match x with
 |.var id off cts ws=>p=.pbox ws/\q=some (id,off)/\cts.length=ws.length/\∃c,hp id=some (.st c)/\off+ws.length<=c.length
 |.row id=>(∃ps,p=.tup ps)/\q=some (id,0)/\∃c,hp id=some (.ar false c)
 |.none=>(∃ps,p=.tup ps)/\q=none
theorem Amh{hp:Nat->Option Ca}{q:Option (Nat × Nat)}{p:PV}{x:Ja}(h:LOk hp q p x):IY p=true:=by
 cases x with
 |var id off cts ws=>rw[h.1];rfl
 |row id=>obtain⟨⟨_,e⟩,_⟩:=h;rw[e];rfl
 |none=>obtain⟨⟨_,e⟩,_⟩:=h;rw[e];rfl
def Vo(hp:Nat->Option Ca)(src:Nat->Nat->Option (Nat × Nat)):Nat->Ae->List Ja->Prop
 |_,[],l=>l=[]
 |i,p::ps,l=>(IY p=false/\src i 0=none/\Vo hp src (i+1) ps l)\/∃x l',l=x::l'/\LOk hp (src i 0) p x/\Vo hp src (i+1) ps l'
theorem Aki(h:Cg N w0 X0 Y β s a w){C:Iz}{f:FuncId}{i:Nat}{t:TypeId}{x:Operand}{K:PV->B7->B7->List Ja->Option R}(hk:NW C P f s.hp i t (Cu s.tm x) K=some r):
  ∃v m y l,∃src:Nat->Option (Nat × Nat),K v m y l=some r/\(∀id∈m,∃f cc,s.hp id=some (.ar f cc))/\(∀id∈y,∃cc,s.hp id=some (.ar false cc)) /\
   (∀j id off,src (j+1)=some (id,off)->off=0/\id∈y)/\(Ff y=true->∀j j' id off off',src (j+1)=some (id,off)->src (j'+1)=some (id,off')->j=j') /\
   ((l=[]/\IY v=false/\src 0=none)\/∃x',l=[x']/\LOk s.hp (src 0) v x') /\
   ∀fz:B7,(∀id∈m,id∈fz)->(∀id∈fz,∃f cc,s.hp id=some (.ar f cc))->∀bt:Bt,(∀j,bt j=(src j).bind (I2 β))->Akg w (Dv (Ah s.hp fz) β Y) bt v (a.eval x):=by
 have hx:=D7 h x
 have Xl:∀(q0:Option (Nat × Nat)) (q:Nat->Option Nat),∃src:Nat->Option (Nat × Nat),src 0=q0/\(∀j,src (j+1)=(q j).map fun id=>(id,0)):=
  fun q0 q=>⟨fun j=>match j with|0=>q0|j+1=>(q j).map fun id=>(id,0),rfl,fun _=>rfl⟩
 have Af2:∀{src:Nat->Option (Nat × Nat)} {q:Nat->Option Nat} {y:B7},(∀j,src (j+1)=(q j).map fun id=>(id,0))->(∀j id,q j=some id->id∈y)->∀j id off,src (j+1)=some (id,off)->off=0/\id∈y:=by
  intro src q y h1 h2 j id off hj;rw[h1] at hj;cases hq:q j with
  |none=>rw[hq] at hj;cases hj
  |some k=>rw[hq] at hj;cases hj;exact⟨rfl,h2 j _ hq⟩
 have Aej:∀{src:Nat->Option (Nat × Nat)} {q:Nat->Option Nat} {y:B7},(∀j,src (j+1)=(q j).map fun id=>(id,0))->(Ff y=true->∀j j' id,q j=some id->q j'=some id->j=j') ->
   Ff y=true->∀j j' id off off',src (j+1)=some (id,off)->src (j'+1)=some (id,off')->j=j':=by
  intro src q y h1 h2 hn j j' id off off' hj Ty;rw[h1] at hj Ty;cases hq:q j with
  |none=>rw[hq] at hj;cases hj
  |some k=>
   cases Hp:q j' with
   |none=>rw[Hp] at Ty;cases Ty
   |some k'=>
    rw[hq] at hj;rw[Hp] at Ty;cases hj;cases Ty;exact h2 hn j j' _ hq Hp
 have Hr:∀{src:Nat->Option (Nat × Nat)} {q:Nat->Option Nat} {bt:Bt},(∀j,src (j+1)=(q j).map fun id=>(id,0))->(∀j,bt j=(src j).bind (I2 β))->∀j,bt (1+j)=(q j).bind β:=by
  intro src q bt h1 h2 j;rw[Nat.add_comm,h2,h1];cases q j with
  |none=>rfl
  |some id=>exact Akz β id
 unfold NW at hk;split at hk
 ·rename_i e he;split at hk
  ·rename_i id off ep;rw[ep] at hx;split at hk
   ·rename_i c h0;obtain⟨hb,hk⟩:=Aq hk;simp only[Fe,FJ] at hb;obtain⟨cs,m,y,q,hk,hl,Ox,hA,hF,hm,hy,GZ,N9,hv⟩:=DQ h hk;obtain⟨src,hs0,hs⟩:=Xl (some (id,off)) q;obtain⟨b,ob,hβ,Eh⟩:=hx;refine⟨_,m,y,_,src,hk,hm,hy,Af2 hs GZ,Aej hs N9,.inr ⟨_,rfl,rfl,hs0,hl.symm,c,h0,by omega⟩,fun fz h1 h2 bt FV=>?_⟩;obtain⟨b',o',Gj,Kw,EP⟩:=h.box id _ h0;rw[hβ] at Gj;cases Gj;have Ek:((c.drop off).take (Kv P e).length).length=(Kv P e).length:=by simp;omega
    have Ast:∀j p,((c.drop off).take (Kv P e).length)[j]?=some p->c[off+j]?=some p/\j<(Kv P e).length:=by
     intro j p hj;rw[List.getElem?_take] at hj;split at hj
     ·rw[List.getElem?_drop] at hj;exact⟨hj,by assumption⟩
     ·cases hj
    refine⟨b,ob+off,by rw[FV,hs0];simp[I2,hβ],Eh,hA,((c.drop off).take (Kv P e).length).mapIdx (fun j _=>(w.cell? ⟨b,ob+off+j,none⟩).getD undef),hv fz h1 h2 _ ?_ bt 1 (Hr hs FV),?_,fun k hk=>?_⟩
    ·refine Bw.of_at (by simp) fun j p v hp hv=>?_;obtain⟨hc,_⟩:=Ast j p hp;obtain⟨u,hu,hcr⟩:=Kw _ _ hc;rw[List.getElem?_mapIdx,hp,Option.map_some,Jq,hu] at hv;simp at hv;subst hv;exact hcr
    ·intro k v hkv;rw[List.getElem?_mapIdx] at hkv;cases hp:((c.drop off).take (Kv P e).length)[k]? with
     |none=>rw[hp] at hkv;cases hkv
     |some p=>
      obtain⟨hc,_⟩:=Ast k p hp;obtain⟨u,hu,hcr⟩:=Kw _ _ hc;rw[hp,Option.map_some,Jq,hu] at hkv;simp at hkv;subst hkv;rw[Jq];exact hu
    ·rw[Jq];exact EP _ (by omega)
   ·cases hk
  ·cases hk
 ·cases hln:C.lnd f i<;>rw[hln] at hk<;>simp only[cond_true,cond_false] at hk
  ·cases H4:Cw P t<;>rw[H4] at hk<;>simp only[cond_true,cond_false] at hk
   ·obtain⟨cs,m,y,q,hk,hl,Ox,hA,hF,hm,hy,GZ,N9,hv⟩:=DQ h hk;obtain⟨c,t',rfl,hk⟩:=Bo hk;obtain⟨rfl,hk⟩:=Es hk;obtain⟨src,hs0,hs⟩:=Xl none q;have hAc:=hA c (by simp);refine⟨c,m,y,_,src,hk,hm,hy,Af2 hs GZ,Aej hs N9,.inl ⟨rfl,Aza hAc,hs0⟩,fun fz h1 h2 bt FV=>?_⟩;have hFx:=hF _ (Vv _)
    have hxc:Cj w (Dv s.hp β Y) β (Cu s.tm x) (a.eval x):=by
     cases hp:Cu s.tm x<;>rw[hp] at hx hFx<;>first|exact hx|exact hFx.elim
    have hoc:=(hv fz h1 h2 [a.eval x] ⟨hxc,trivial⟩ bt 1 (Hr hs FV)).1;rcases hAc with hT|⟨es,n,cc,rfl⟩
    ·cases c<;>first|exact⟨.inl trivial,hoc⟩|exact hT.elim
    ·exact⟨.inr ⟨_,_,_,rfl⟩,hoc⟩
   ·obtain⟨ps,ep,hk⟩:=Jw hk;rw[ep] at hx;obtain⟨vs,Eh,h3⟩:=hx;obtain⟨cs,m,y,q,hk,hl,Ox,hA,hF,hm,hy,GZ,N9,hv⟩:=DQ h hk;obtain⟨src,hs0,hs⟩:=Xl none q;refine⟨_,m,y,_,src,hk,hm,hy,Af2 hs GZ,Aej hs N9,.inl ⟨rfl,rfl,hs0⟩,fun fz h1 h2 bt FV=>?_⟩;exact⟨vs,Eh,hA,hv fz h1 h2 vs h3 bt 1 (Hr hs FV)⟩
  ·obtain⟨e,he,hk⟩:=C9 hk;unfold Asm at hk;split at hk
   ·rename_i id es' off n ep;rw[ep] at hx;split at hk
    ·rename_i c h0;obtain⟨hb,Gb⟩:=Aq hk;simp only[Fe] at hb;have he:=Dz hb.1;have hof:=Dz hb.2;subst hof;obtain⟨src,hs0,hs⟩:=Xl (some (id,0)) (fun _=>none);refine⟨_,[],[],_,src,Gb,by simp,by simp,Af2 hs (by simp),Aej hs (by simp),.inr ⟨_,rfl,⟨_,rfl⟩,hs0,c,h0⟩,fun fz h1 h2 bt FV=>⟨_,_,_,rfl,?_⟩⟩;have QZ:bt 0=β id:=by rw[FV,hs0];exact Akz β id
     rw[QZ];rcases hx with⟨h3,_,h4,h5⟩|⟨b,ob,y,cap,h3,h4,hy,h5,h6,h7⟩
     ·refine .inl ⟨h3,h4,?_,h5⟩;rcases h.box id _ h0 with⟨_,h8⟩|⟨_,_,h8,_⟩
      ·exact h8
      ·rw[h3] at h8;cases h8
     ·have hy:y=ob:=by rcases hy with e|⟨_,e⟩<;>omega
      subst hy;rcases h.box id _ h0 with⟨h8,_⟩|⟨b',o',h8,h9,h10,_⟩
      ·rw[h3] at h8;cases h8
      ·rw[h3] at h8;cases h8;exact .inr ⟨b,y,cap,h3,h4,h5,by rw[<-he];exact h6,h7,h9.weak (fun b _ hb=>Ta hb),h10 rfl⟩
    ·cases hk
   ·obtain⟨z,n,c,hk,hp⟩:=Ha hk;obtain⟨hz,hk⟩:=Aq hk;subst hz;obtain⟨src,hs0,hs⟩:=Xl none (fun _=>none)
    have hu:a.eval x=.slice none 0 0:=by
     have hF:Cj w (Dv s.hp β Y) β (Cu s.tm x) (a.eval x):=by rcases hp with e|⟨e,_⟩<;>rw[e] at hx ⊢ <;> exact hx
     have:=GF hp hF;generalize a.eval x=u at this;cases this;rfl
    refine⟨_,[],[],_,src,hk,by simp,by simp,Af2 hs (by simp),Aej hs (by simp),.inr ⟨_,rfl,⟨_,rfl⟩,hs0⟩,fun fz h1 h2 bt FV=>⟨_,_,_,rfl,.inl ⟨by rw[FV,hs0];rfl,rfl,rfl,none,hu⟩⟩⟩
structure Biv(i0 n:Nat)(src:Nat->Nat->Option (Nat × Nat))(ids x:B7):Prop where
 dom:∀i j q,src i j=some q->i0<=i/\i<i0+n
 lent:∀i id off,src i 0=some (id,off)->id∈ids
 mvd:∀i j id off,src i (j+1)=some (id,off)->off=0/\id∈x
 inj0:Ff ids=true->∀i i' id off off',src i 0=some (id,off)->src i' 0=some (id,off')->i=i'
 inj1:Ff x=true->∀i i' j j' id off off',src i (j+1)=some (id,off)->src i' (j'+1)=some (id,off')->i=i'/\j=j'
theorem GP{hp:Nat->Option Ca}{src src':Nat->Nat->Option (Nat × Nat)}:∀{ps:Ae}{i:Nat}{l:List Ja},(∀k,i<=k->src' k=src k)->Vo hp src i ps l->Vo hp src' i ps l
 |[],_,_,_,h=>h
 |p::ps,i,l,hs,h=>by
  rcases h with⟨h1,h2,h3⟩|⟨x,l',rfl,h2,h3⟩
  ·exact .inl ⟨h1,by rw[hs i (Cd _)];exact h2,GP (fun k hk=>hs k (by omega)) h3⟩
  ·exact .inr ⟨x,l',rfl,by rw[hs i (Cd _)];exact h2,GP (fun k hk=>hs k (by omega)) h3⟩
theorem PJ{bt bt':GI}:∀{ps:Ae}{us:List Value}{i:Nat},(∀k,i<=k->∀j,bt' k j=bt k j)->Nv w A bt i ps us->Nv w A bt' i ps us
 |[],[],_,_,_=>trivial
 |[],_::_,_,_,h=>h.elim
 |_::_,[],_,_,h=>h.elim
 |_::_,_::_,i,hb,h=>⟨by rw[show bt' i=bt i from funext (hb i (Cd _))];exact h.1,PJ (fun k hk=>hb k (by omega)) h.2⟩
theorem ZB(h:Cg N w0 X0 Y β s a w){C:Iz}{f:FuncId}:∀{ts:List TypeId}{xs:List Operand}{i:Nat}{K:Ae->B7->B7->List Ja->Option R},YH C P f s.hp i ts (xs.map (Cu s.tm)) K=some r ->
  ∃vs m y l,∃src:Nat->Nat->Option (Nat × Nat),K vs m y l=some r/\(∀id∈m,∃f cc,s.hp id=some (.ar f cc))/\(∀id∈y,∃cc,s.hp id=some (.ar false cc)) /\
   Biv i xs.length src (l.flatMap Ja.ids) y/\Vo s.hp src i vs l /\
   ∀fz:B7,(∀id∈m,id∈fz)->(∀id∈fz,∃f cc,s.hp id=some (.ar f cc))->∀bt:GI,(∀i j,bt i j=(src i j).bind (I2 β))->Nv w (Dv (Ah s.hp fz) β Y) bt i vs (xs.map a.eval)
 |[],[],i,K,hk=>⟨[],[],[],[],fun _ _=>none,hk,by simp,by simp,⟨by simp,by simp,by simp,by simp,by simp⟩,rfl,fun _ _ _ _ _=>trivial⟩
 |[],_::_,i,K,hk=>by cases hk
 |_::_,[],i,K,hk=>by cases hk
 |t::ts,x::xs,i,K,hk=>by
  simp only[Xv] at hk;unfold YH at hk;obtain⟨v,m,y,l,src,hk,hm,hy,QS,HX,hl,hv⟩:=Aki h hk;obtain⟨vs,ms,ys,ls,srcs,hk,VA,hys,hS,hL,Mm⟩:=ZB h hk;have Xl:∃sr:Nat->Nat->Option (Nat × Nat),sr i=src/\∀k,k≠i->sr k=srcs k:=⟨fun k=>if k=i then src else srcs k,by simp,fun k hk=>by simp[hk]⟩
  obtain⟨sr,hsi,hso⟩:=Xl
  have XK:∀id off,src 0=some (id,off)->id∈l.flatMap Ja.ids:=by
   intro id off e;rcases hl with⟨_,_,h3⟩|⟨x',rfl,h3⟩
   ·rw[h3] at e;cases e
   ·cases x' with
    |var id' off' cts ws=>rw[h3.2.1] at e;cases e;simp[Ja.ids]
    |row id'=>rw[h3.2.1] at e;cases e;simp[Ja.ids]
    |none=>rw[h3.2] at e;cases e
  refine⟨v::vs,m++ms,y++ys,l++ls,sr,hk,?_,?_,⟨?_,?_,?_,?_,?_⟩,?_,fun fz h1 h2 bt FV=>⟨?_,?_⟩⟩
  ·intro i hi;rcases B2.1 hi with hi|hi
   ·exact hm i hi
   ·exact VA i hi
  ·intro i hi;rcases B2.1 hi with hi|hi
   ·exact hy i hi
   ·exact hys i hi
  ·intro k j q hq;simp only[Tt];by_cases e:k=i
   ·subst e;omega
   ·rw[hso k e] at hq;have:=hS.dom k j q hq;omega
  ·intro k id off hq;rw[List.flatMap_append];by_cases e:k=i
   ·subst e;rw[hsi] at hq;exact B2.2 (.inl (XK id off hq))
   ·rw[hso k e] at hq;exact B2.2 (.inr (hS.lent k id off hq))
  ·intro k j id off hq;by_cases e:k=i
   ·subst e;rw[hsi] at hq;exact⟨(QS j id off hq).1,B2.2 (.inl (QS j id off hq).2)⟩
   ·rw[hso k e] at hq;exact⟨(hS.mvd k j id off hq).1,B2.2 (.inr (hS.mvd k j id off hq).2)⟩
  ·intro hn k k' id off off' hq Hp;rw[List.flatMap_append] at hn;obtain⟨_,h4,h5⟩:=Lx hn;by_cases e:k=i
   ·by_cases e':k'=i
    ·omega
    ·rw[hso k' e'] at Hp;subst e;rw[hsi] at hq;exact absurd (hS.lent k' id off' Hp) (h5 id (XK id off hq))
   ·rw[hso k e] at hq;by_cases e':k'=i
    ·subst e';rw[hsi] at Hp;exact absurd (hS.lent k id off hq) (h5 id (XK id off' Hp))
    ·rw[hso k' e'] at Hp;exact hS.inj0 h4 k k' id off off' hq Hp
  ·intro hn k k' j j' id off off' hq Hp;obtain⟨h3,h4,h5⟩:=Lx hn;by_cases e:k=i
   ·by_cases e':k'=i
    ·subst e;subst e';rw[hsi] at hq Hp;exact⟨rfl,HX h3 j j' id off off' hq Hp⟩
    ·rw[hso k' e'] at Hp;subst e;rw[hsi] at hq;exact absurd (hS.mvd k' j' id off' Hp).2 (h5 id (QS j id off hq).2)
   ·rw[hso k e] at hq;by_cases e':k'=i
    ·subst e';rw[hsi] at Hp;exact absurd (hS.mvd k j id off hq).2 (h5 id (QS j' id off' Hp).2)
    ·rw[hso k' e'] at Hp;exact hS.inj1 h4 k k' j j' id off off' hq Hp
  ·have FM:Vo s.hp sr (i+1) vs ls:=GP (fun k hk=>hso k (by omega)) hL;rcases hl with⟨rfl,hnp,h3⟩|⟨x',rfl,h3⟩
   ·exact .inl ⟨hnp,by rw[hsi];exact h3,FM⟩
   ·exact .inr ⟨x',ls,rfl,by rw[hsi];exact h3,FM⟩
  ·exact hv fz (fun i hi=>h1 i (by simp[hi])) h2 (bt i) (fun j=>by rw[FV,hsi])
  ·refine Mm fz (fun i hi=>h1 i (by simp[hi])) h2 (fun k j=>(srcs k j).bind (I2 β)) (fun _ _=>rfl) |> PJ fun k hk j=>?_
   rw[FV,hso k (by omega)]
end
open Go.RowKit
section
variable {R:Type}{r:R}{P:Program}{N:Nat}{w0:World}{X0:Gc}{Y:Nat->Prop}{β β':Bt}{s:St}{a:Act}{w w':World}{o:Oper}{A:Nat->Prop}
theorem At2{p:PV}{u:Value}(h:Az w A p u):Cj w A β p u:=by have h0:=h;cases h<;>exact h0
theorem At3{t:Nat}{ct:CT}{was p:PV}{K:Nat->PV->List (Nat × Ca)->Option R}(hk:Apu N t ct was p K=some r):
  (∃c,K t c []=some r/\FB c/\∀w A q u,Ij w A q p u->Az w A c u)\/∃es n cc,p=.own es n cc/\K (t+1) (.view (nid N t) es 0 n) [(nid N t,.ar false cc)]=some r:=by
 have tree:∀t',(NQ t' p fun c=>K t c [])=some r->∃c,K t c []=some r/\FB c/\∀w A q u,Ij w A q p u->Az w A c u:=by
  intro t' hk;obtain⟨c,hk,hT,WI,hv⟩:=Rr hk;refine⟨c,hk,hT,fun w A q u h=>(hv w A (fun _=>none) u ?_).1⟩;cases p<;>first|exact h|exact WI.elim
 unfold Apu at hk;cases ct with
 |sl es=>
  dsimp only at hk;split at hk
  ·unfold Lh at hk;split at hk
   ·rename_i es' n c;cases hb:Nat.beq es' es<;>rw[hb] at hk
    ·cases hk
    ·have:=Dz hb;subst this;exact .inr ⟨_,_,_,rfl,hk⟩
   ·cases hk
  ·have h2:(NQ (.sl es) p fun c=>(match c with | .lst _ es n c=>K t (.lst false es n c) []|_=>none))=some r:=hk;obtain⟨c,hk,hT,WI,hv⟩:=Rr h2;split at hk
   ·refine .inl ⟨_,hk,hT,fun w A q u h=>Az.unz (hv w A (fun _=>none) u ?_).1⟩;cases p<;>first|exact h|exact WI.elim
   ·cases hk
 |int k=>exact .inl (tree _ hk)
 |bool=>exact .inl (tree _ hk)
 |str=>exact .inl (tree _ hk)
 |any=>exact .inl (tree _ hk)
theorem NT:∀{cts:List CT}{ws ps:Ae}{t:Nat}{K:Nat->Ae->List (Nat × Ca)->Option R},ZK N t cts ws ps K=some r ->
  ∃t' cs bs,∃qs:List (Nat × Nat),K t' cs bs=some r/\cs.length=ps.length/\ps.length=ws.length/\bs.map (·.1)=qs.map (·.1)/\(∀q∈qs,(∃k,q.1=nid N k)/\q.2<ps.length)/\(∀q∈qs,∀q'∈qs,q.2=q'.2->q.1=q'.1) /\
   (∀i bx,(i,bx)∈bs->∃c,bx=.ar false c)/\(∀c∈cs,∀i∈Ay c,∃bx,(i,bx)∈bs) /\
   ∀(w:World) (A:Nat->Prop) (own β':Bt) (j0:Nat) (us:List Value),(∀q∈qs,β' q.1=own (j0+q.2))->Gh w A own j0 ps us->Bw (Cj w A β') cs us/\∀i bx,(i,bx)∈bs->Wd w A β' i bx
 |[],[],ps,t,K,hk=>by
  obtain⟨rfl,hk⟩:=Es hk;refine⟨t,[],[],[],hk,rfl,rfl,rfl,by simp,by simp,by simp,by simp,fun w A own β' j0 us _ h=>⟨?_,by simp⟩⟩;cases us with
  |nil=>trivial
  |cons u us=>exact h.elim
 |[],_::_,_,_,_,hk=>by cases hk
 |_::_,[],_,_,_,hk=>by cases hk
 |ct::cts,x::ws,ps,t,K,hk=>by
  unfold ZK at hk;obtain⟨p,ps',MS,Eu⟩:=Bo hk;subst MS;rcases At3 Eu with⟨c,Gb,hT,hv⟩|⟨es,n,cc,rfl,Gb⟩
  ·obtain⟨t',cs,bs,qs,Pf,hl,Ox,hb,GZ,N9,Gj,Kw,Mm⟩:=NT Gb;refine⟨t',c::cs,bs,qs.map (fun q=>(q.1,q.2+1)),Pf,by simp[hl],by simp[Ox],by rw[hb];simp,?_,?_,Gj,?_,fun w A own β' j0 us hβ ho=>?_⟩
   ·intro q hq;obtain⟨q0,HK,rfl⟩:=List.mem_map.1 hq;exact⟨(GZ q0 HK).1,by have:=(GZ q0 HK).2;simp only[Tt];omega⟩
   ·intro q hq q' Hp e;obtain⟨q0,HK,rfl⟩:=List.mem_map.1 hq;obtain⟨q1,Nb,rfl⟩:=List.mem_map.1 Hp;exact N9 q0 HK q1 Nb (by simp only at e;omega)
   ·intro y hy i hi;rcases Ce.1 hy with rfl|hy
    ·rw[Ka hT] at hi;cases hi
    ·exact Kw y hy i hi
   ·cases us with
    |nil=>exact ho.elim
    |cons u us=>
     obtain⟨h1,h2⟩:=Mm w A own β' (j0+1) us (fun q hq=>by rw[hβ _ (List.mem_map_of_mem hq)];congr 1;simp only;omega) ho.2
     exact⟨⟨At2 (hv w A _ u ho.1),h1⟩,h2⟩
  ·obtain⟨t',cs,bs,qs,Pf,hl,Ox,hb,GZ,N9,Gj,Kw,Mm⟩:=NT Gb;refine⟨t',_::cs,(nid N t,.ar false cc)::bs,(nid N t,0)::qs.map (fun q=>(q.1,q.2+1)),Pf,by simp[hl],by simp[Ox],by simp only[Xv,hb];simp,?_,?_,?_,?_,fun w A own β' j0 us hβ ho=>?_⟩
   ·intro q hq;rcases Ce.1 hq with rfl|hq
    ·exact⟨⟨t,rfl⟩,by simp⟩
    ·obtain⟨q0,HK,rfl⟩:=List.mem_map.1 hq;exact⟨(GZ q0 HK).1,by have:=(GZ q0 HK).2;simp only[Tt];omega⟩
   ·intro q hq q' Hp e;rcases Ce.1 hq with rfl|hq
    ·rcases Ce.1 Hp with rfl|Hp
     ·rfl
     ·obtain⟨q0,HK,rfl⟩:=List.mem_map.1 Hp;simp only at e;omega
    ·obtain⟨q0,HK,rfl⟩:=List.mem_map.1 hq;rcases Ce.1 Hp with rfl|Hp
     ·simp only at e;omega
     ·obtain⟨q1,Nb,rfl⟩:=List.mem_map.1 Hp;exact N9 q0 HK q1 Nb (by simp only at e;omega)
   ·intro i bx hm;rcases Ce.1 hm with e|hm
    ·cases e;exact⟨cc,rfl⟩
    ·exact Gj i bx hm
   ·intro y hy i hi;rcases Ce.1 hy with rfl|hy
    ·simp only[Ay,Q2] at hi;subst hi;exact⟨_,HS⟩
    ·obtain⟨bx,Ms⟩:=Kw y hy i hi;exact⟨bx,Tu _ Ms⟩
   ·cases us with
    |nil=>exact ho.elim
    |cons u us=>
     obtain⟨h1,h2⟩:=Mm w A own β' (j0+1) us (fun q hq=>by rw[hβ _ (Tu _ (List.mem_map_of_mem hq))];congr 1;simp only;omega) ho.2
     have h0:=hβ (nid N t,0) HS;simp only[ZS] at h0;refine⟨⟨?_,h1⟩,fun i bx hm=>?_⟩
     ·rcases ho.1 with⟨h3,rfl,_,h5⟩|⟨b,ob,cap,h3,h4,h5,h6,h7,_⟩
      ·exact .inl ⟨h0.trans h3,rfl,rfl,h5⟩
      ·exact .inr ⟨b,ob,ob,cap,h0.trans h3,h4,.inl rfl,h5,h6,h7⟩
     ·rcases Ce.1 hm with e|hm
      ·cases e;exact JB ho.1 h0
      ·exact h2 i bx hm
def Ajx(hp Dl:Nat->Option Ca)(bs:List (Nat × Ca))(x:Ja):Prop:=
 match x with
 |.var id off _ ws=>∃c cs,hp id=some (.st c)/\Dl id=some (.st (B3 c cs off))/\cs.length=ws.length/\off+cs.length<=c.length/\∀p∈cs,∀i∈Ay p,∃bx,(i,bx)∈bs
 |.row id=>∃c cs,hp id=some (.ar false c)/\Dl id=some (.ar false cs)
 |.none=>True
def Awt(β β':Bt)(w':World)(A:Nat->Prop)(hp Dl:Nat->Option Ca)(x:Ja):Prop:=
 match x with
 |.var id off _ ws=>∃c cs,hp id=some (.st c)/\Dl id=some (.st (B3 c cs off))/\cs.length=ws.length/\off+cs.length<=c.length /\
   ∀b o,β id=some (b,o)->(∀(j:Nat) p,cs[j]?=some p->∃v,w'.cell? ⟨b,o+off+j,none⟩=some v/\Cj w' A β' p v)/\∀j,j<cs.length->w'.frozen? ⟨b,o+off+j,none⟩=false
 |.row id=>∃cs,Dl id=some (.ar false cs)/\((β id=none/\cs=[])\/∃b o,β id=some (b,o)/\WO w' A ⟨b,o,none⟩ cs/\∀j,o<=j->j<bsz w' b->w'.frozen? ⟨b,j,none⟩=false)
 |.none=>True
theorem KU{hp Dq Dl:Nat->Option Ca}{bs bs1:List (Nat × Ca)}{x:Ja}(h1:∀i∈x.ids,Dq i=hp i)(hb:∀q∈bs,q∈bs1)(h:Ajx Dq Dl bs x):Ajx hp Dl bs1 x:=by
 cases x with
 |var id off cts ws=>
  obtain⟨c,cs,h2,h3,h4,h5,h6⟩:=h;refine⟨c,cs,by rw[<-h1 id (by simp[Ja.ids])];exact h2,h3,h4,h5,fun p hp i hi=>?_⟩
  obtain⟨bx,Ms⟩:=h6 p hp i hi;exact⟨bx,hb _ Ms⟩
 |row id=>
  obtain⟨c,cs,h2,h3⟩:=h;exact⟨c,cs,by rw[<-h1 id (by simp[Ja.ids])];exact h2,h3⟩
 |none=>trivial
theorem PT{hp Dq Dl:Nat->Option Ca}{x:Ja}(h1:∀i∈x.ids,Dq i=hp i)(h:Awt β β' w' A Dq Dl x):Awt β β' w' A hp Dl x:=by
 cases x with
 |var id off cts ws=>
  obtain⟨c,cs,h2,h3⟩:=h;exact⟨c,cs,by rw[<-h1 id (by simp[Ja.ids])];exact h2,h3⟩
 |row id=>exact h
 |none=>trivial
theorem Api{hp Dq:Nat->Option Ca}{q:Option (Nat × Nat)}{p:PV}{x:Ja}(h1:∀i∈x.ids,Dq i=hp i)(h:LOk hp q p x):LOk Dq q p x:=by
 cases x with
 |var id off cts ws'=>
  obtain⟨h2,h3,h5,c,h6,h7⟩:=h;exact⟨h2,h3,h5,c,by rw[h1 id (by simp[Ja.ids])];exact h6,h7⟩
 |row id=>
  obtain⟨h2,h3,c,h4⟩:=h;exact⟨h2,h3,c,by rw[h1 id (by simp[Ja.ids])];exact h4⟩
 |none=>exact h
theorem LT{hp Dq:Nat->Option Ca}{src:Nat->Nat->Option (Nat × Nat)}:∀{ps:Ae}{i:Nat}{l:List Ja},(∀i∈l.flatMap Ja.ids,Dq i=hp i)->Vo hp src i ps l->Vo Dq src i ps l
 |[],_,_,_,h=>h
 |p::ps,i,l,hs,h=>by
  rcases h with⟨h1,h2,h3⟩|⟨x,l',rfl,h2,h3⟩
  ·exact .inl ⟨h1,h2,LT hs h3⟩
  ·exact .inr ⟨x,l',rfl,Api (fun k hk=>hs k (by simp only[J4,B2];exact .inl hk)) h2,LT (fun k hk=>hs k (by simp only[J4,B2];exact .inr hk)) h3⟩
theorem Aik{own:Bt}{bt:GI}{j i:Nat}{p:PV}{zs:Ae}{r:List Ae}(hp:IY p=false)(h:Lg w A own bt j i (p::zs) r):Lg w A own bt j (i+1) zs r:=by cases p<;>first|exact h|cases hp
theorem CC{src:Nat->Nat->Option (Nat × Nat)}{β:Bt}:∀{zs:Ae}{l:List Ja}{ro:List Ae} {i j t:Nat}{hp:Nat->Option Ca}{K:(Nat->Option Ca)->List (Nat × Ca)->Option R},
  FZ N t l ro hp K=some r->Vo hp src i zs l->Ff (l.flatMap Ja.ids)=true ->
  ∃Dl bs,∃qs:List (Nat × Nat),K Dl bs=some r/\bs.map (·.1)=qs.map (·.1)/\(∀q∈qs,(∃k,q.1=nid N k)/\j<=q.2)/\(∀q∈qs,∀q'∈qs,q.2=q'.2->q.1=q'.1)/\(∀i bx,(i,bx)∈bs->∃c,bx=.ar false c) /\
   (∀i,i ∉ l.flatMap Ja.ids->Dl i=hp i)/\(∀x∈l,Ajx hp Dl bs x) /\
   ∀(w':World) (A:Nat->Prop) (own β':Bt) (bt:GI),(∀q∈qs,β' q.1=own q.2)->(∀i,bt i 0=(src i 0).bind (I2 β))->Lg w' A own bt j i zs ro ->
    (∀i bx,(i,bx)∈bs->Wd w' A β' i bx)/\∀x∈l,Awt β β' w' A hp Dl x
 |[],l,ro,i,j,t,hp,K,hk,hL,hn=>by
  have hL:l=[]:=hL;subst hL;unfold FZ at hk;obtain⟨rfl,hk⟩:=Es hk;exact⟨hp,[],[],hk,rfl,by simp,by simp,by simp,fun _ _=>rfl,by simp,fun w' A own β' bt _ _ _=>⟨by simp,by simp⟩⟩
 |p::zs,l0,ro,i,j,t,hp,K,hk,hL0,hn=>by
  rcases hL0 with⟨Xq,_,hL⟩|⟨x,l,rfl,hok,hL⟩
  rotate_left
  ··simp only[J4] at hn;obtain⟨hn1,hn2,hn3⟩:=Lx hn;cases x with
    |var id off cts ws'=>
     obtain⟨rfl,Xl,Nq,c,hc,Ys⟩:=hok;unfold FZ at hk;obtain⟨cs,ro',hro,Eu⟩:=Bo hk;subst hro;obtain⟨t',cs',bs,qs,Gb,SP,Wc,hb,GZ,N9,Gj,Kw,hv⟩:=NT Eu;rw[hc] at Gb;simp only at Gb;change FZ N t' l ro' (Dt hp id (some (.st (B3 c cs' off)))) (fun Dl bs'=>K Dl (bs++bs'))=some r at Gb;have Aif:id ∉ l.flatMap Ja.ids:=hn3 id (by simp[Ja.ids]);have hL':Vo (Dt hp id (some (.st (B3 c cs' off)))) src (i+1) zs l:=LT (fun k hkm=>Ao _ _ (fun e=>Aif (e ▸ hkm))) hL;obtain⟨Dl,bs',qs',Pf,I7,Nb,Aje,Aj6,P5,hsh,Adi⟩:=CC (β:=β) (j:=j+cs.length) Gb hL' hn2;have Aum:Dl id=some (.st (B3 c cs' off)):=by rw[P5 id Aif,Av]
     have VF:∀x∈l,∀k∈x.ids,Dt hp id (some (.st (B3 c cs' off))) k=hp k:=fun x hx k hkm=>Ao _ _ (fun e=>Aif (e ▸ List.mem_flatMap.2 ⟨x,hx,hkm⟩));refine⟨Dl,bs++bs',qs.map (fun q=>(q.1,j+q.2))++qs',Pf,by simp only[List.map_append,hb,I7];simp,?_,?_,?_,?_,?_,fun w' A own β' bt hβ FV ho=>?_⟩
     ·intro q hq;rcases B2.1 hq with hq|hq
      ·obtain⟨q0,HK,rfl⟩:=List.mem_map.1 hq;exact⟨(GZ q0 HK).1,by simp only;omega⟩
      ·exact⟨(Nb q hq).1,by have:=(Nb q hq).2;omega⟩
     ·intro q hq q' Hp e;rcases B2.1 hq with hq|hq
      ·obtain⟨q0,HK,rfl⟩:=List.mem_map.1 hq;have:=(GZ q0 HK).2;rcases B2.1 Hp with Hp|Hp
       ·obtain⟨q1,Nb,rfl⟩:=List.mem_map.1 Hp;exact N9 q0 HK q1 Nb (by simp only at e;omega)
       ·have:=(Nb q' Hp).2;simp only at e;omega
      ·have h5:=(Nb q hq).2;rcases B2.1 Hp with Hp|Hp
       ·obtain⟨q1,Bbn,rfl⟩:=List.mem_map.1 Hp;have:=(GZ q1 Bbn).2;simp only at e;omega
       ·exact Aje q hq q' Hp e
     ·intro k bx hm;rcases B2.1 hm with hm|hm
      ·exact Gj k bx hm
      ·exact Aj6 k bx hm
     ·intro k hk;simp only[J4,B2,not_or] at hk;rw[P5 k hk.2];exact Ao _ _ (by rintro rfl;exact hk.1 (by simp[Ja.ids]))
     ·intro x hx;rcases Ce.1 hx with rfl|hx
      ·refine⟨c,cs',hc,Aum,by omega,by omega,fun p hp k hk=>?_⟩;obtain⟨bx,Ms⟩:=Kw p hp k hk;exact⟨bx,B2.2 (.inl Ms)⟩
      ·exact KU (VF x hx) (fun q hq=>B2.2 (.inr hq)) (hsh x hx)
     ·obtain⟨⟨b,ob,QZ,Ek,vs,hov,Ey,XS⟩,ho⟩:=ho
      ·obtain⟨h1,h2⟩:=hv w' A own β' j vs (fun q hq=>hβ _ (B2.2 (.inl (List.mem_map_of_mem hq)))) hov;obtain⟨h3,h4⟩:=Adi w' A own β' bt (fun q hq=>hβ q (B2.2 (.inr hq))) FV ho;refine⟨fun k bx hm=>?_,fun x hx=>?_⟩
       ·rcases B2.1 hm with hm|hm
        ·exact h2 k bx hm
        ·exact h3 k bx hm
       ·rcases Ce.1 hx with rfl|hx
        ·refine⟨c,cs',hc,Aum,by omega,by omega,fun b1 o1 hβ1=>?_⟩;have Kw:=FV i;rw[QZ,Xl] at Kw;simp only[Option.bind_some,I2,hβ1,Option.map_some,Option.some.injEq,Prod.mk.injEq] at Kw;obtain⟨rfl,rfl⟩:=Kw;refine⟨fun k p hp=>?_,fun k hk=>XS k (by omega)⟩;obtain⟨v,hv,hcr⟩:=h1.get hp;exact⟨v,Ey k v hv,hcr⟩
        ·exact PT (VF x hx) (h4 x hx)
    |row id=>
     obtain⟨⟨pz,rfl⟩,Xl,c,hc⟩:=hok;unfold FZ at hk;obtain⟨cs,ro',hro,Gb⟩:=Bo hk;subst hro;have Aif:id ∉ l.flatMap Ja.ids:=hn3 id (by simp[Ja.ids]);have hL':Vo (Dt hp id (some (.ar false cs))) src (i+1) zs l:=LT (fun k hkm=>Ao _ _ (fun e=>Aif (e ▸ hkm))) hL;obtain⟨Dl,bs',qs',Pf,I7,Nb,Aje,Aj6,P5,hsh,Adi⟩:=CC (β:=β) (j:=j) Gb hL' hn2;have Aum:Dl id=some (.ar false cs):=by rw[P5 id Aif,Av]
     have VF:∀x∈l,∀k∈x.ids,Dt hp id (some (.ar false cs)) k=hp k:=fun x hx k hkm=>Ao _ _ (fun e=>Aif (e ▸ List.mem_flatMap.2 ⟨x,hx,hkm⟩));refine⟨Dl,bs',qs',Pf,I7,Nb,Aje,Aj6,?_,?_,fun w' A own β' bt hβ FV ho=>?_⟩
     ·intro k hk;simp only[J4,B2,not_or] at hk;rw[P5 k hk.2];exact Ao _ _ (by rintro rfl;exact hk.1 (by simp[Ja.ids]))
     ·intro x hx;rcases Ce.1 hx with rfl|hx
      ·exact⟨c,cs,hc,Aum⟩
      ·exact KU (VF x hx) (fun q hq=>hq) (hsh x hx)
     ·obtain⟨Ans,ho⟩:=ho
      ·obtain⟨h3,h4⟩:=Adi w' A own β' bt hβ FV ho;refine⟨h3,fun x hx=>?_⟩;rcases Ce.1 hx with rfl|hx
       ·refine⟨cs,Aum,?_⟩;have Kw:=FV i;rw[Xl] at Kw;simp only[Option.bind_some,Akz] at Kw;rw[Kw] at Ans;exact Ans
       ·exact PT (VF x hx) (h4 x hx)
    |none=>
     obtain⟨⟨pz,rfl⟩,Xl⟩:=hok;unfold FZ at hk;obtain⟨cs,ro',hro,Gb⟩:=Bo hk;subst hro;obtain⟨Dl,bs',qs',Pf,I7,Nb,Aje,Aj6,P5,hsh,Adi⟩:=CC (β:=β) (j:=j) Gb hL hn2;refine⟨Dl,bs',qs',Pf,I7,Nb,Aje,Aj6,?_,?_,fun w' A own β' bt hβ FV ho=>?_⟩
     ·intro k hk;simp only[J4,B2,not_or] at hk;exact P5 k hk.2
     ·intro x hx;rcases Ce.1 hx with rfl|hx
      ·trivial
      ·exact hsh x hx
     ·obtain⟨Ans,ho⟩:=ho
      ·obtain⟨h3,h4⟩:=Adi w' A own β' bt hβ FV ho;refine⟨h3,fun x hx=>?_⟩;rcases Ce.1 hx with rfl|hx
       ·trivial
       ·exact h4 x hx
  ·obtain⟨Dl,bs',qs',Pf,I7,Nb,Aje,Aj6,P5,hsh,Adi⟩:=CC (β:=β) (j:=j) hk hL hn;exact⟨Dl,bs',qs',Pf,I7,Nb,Aje,Aj6,P5,hsh,fun w' A own β' bt hβ FV ho=>Adi w' A own β' bt hβ FV (Aik Xq ho)⟩
end
open Go.RowKit
theorem Ic(hp:Nat->Option Ca)(ids:B7)(i:Nat):AF hp ids i=if i∈ids then (hp i).map (fun _=>Ca.mv) else hp i:=by
 unfold AF;by_cases hi:i∈ids
 ·have:ids.any (Nat.beq i)=true:=List.any_eq_true.2 ⟨i,hi,Oq i⟩;rw[this,Ch hi];rfl
 ·have:ids.any (Nat.beq i)=false:=by
   cases hb:ids.any (Nat.beq i)
   ·rfl
   ·obtain⟨j,hj,e⟩:=List.any_eq_true.1 hb;exact absurd (Dz e ▸ hj) hi
  rw[this,Br hi];rfl
theorem X9:∀{nw:List (Nat × Ca)} {hp:Nat->Option Ca},Cn hp nw=true->(nw.map (·.1)).Nodup
 |[],_,_=>List.nodup_nil
 |(i,b)::r,hp,h=>by
  simp only[Cn,Fe,Option.isNone_iff_eq_none,Bool.not_eq_true'] at h;simp only[Xv,List.nodup_cons];refine⟨fun hm=>?_,X9 h.2⟩;obtain⟨q,hq,e⟩:=List.mem_map.1 hm;have:r.any (fun q=>Nat.beq q.1 i)=true:=List.any_eq_true.2 ⟨q,hq,by rw[e];exact Oq i⟩
  rw[this] at h;cases h.1.2
theorem Asa:∀{l:List (Nat × Nat)},(l.map (·.1)).Nodup->∀q∈l,EV l q.1=some q.2
 |[],_,_,h=>by cases h
 |(j,b)::r,hn,q,hq=>by
  simp only[Xv,List.nodup_cons] at hn;unfold EV;rcases Ce.1 hq with rfl|hq
  ·simp only[Oq,cond_true]
  ·have:Nat.beq q.1 j=false:=by
    cases hb:Nat.beq q.1 j
    ·rfl
    ·exact absurd (Dz hb ▸ List.mem_map_of_mem hq) hn.1
   simp only[this,cond_false];exact Asa hn.2 q hq
theorem Aee:∀{l:List (Nat × Nat)} {i:Nat},i ∉ l.map (·.1)->EV l i=none
 |[],_,_=>rfl
 |(j,b)::r,i,h=>by
  simp only[Xv,Ce,not_or] at h;unfold EV
  have:Nat.beq i j=false:=by
   cases hb:Nat.beq i j
   ·rfl
   ·exact absurd (Dz hb) h.1
  simp only[this,cond_false];exact Aee h.2
section
variable {R:Type}{r:R}{P:Program}{N:Nat}{w0:World}{X0:Gc}{Y:Nat->Prop}{β β':Bt}{s:St}{a:Act}{w w':World}{o:Oper}{A A':Nat->Prop}
theorem Ij.weak(hA:∀b,b<w.heap.size->A' b->A b){q:Option (Nat × Nat)}{p:PV}{u:Value}(h:Ij w A q p u):Ij w A' q p u:=by
 have tr:∀{p:PV},Az w A p u->Az w A' p u:=fun h=>h.step (Cs.refl _ _) hA;cases p with
 |own es n c=>
  rcases h with h|⟨b,ob,cap,h1,h2,h3,h4,h5,h6,h7⟩
  ·exact .inl h
  ·exact .inr ⟨b,ob,cap,h1,h2,h3,h4,h5,h6.weak hA,h7⟩
 |_=>exact tr h
theorem Gh.weak(hA:∀b,b<w.heap.size->A' b->A b){own:Bt}:∀{ps:Ae}{us:List Value}{j:Nat},Gh w A own j ps us->Gh w A' own j ps us
 |[],[],_,_=>trivial
 |[],_::_,_,h=>h.elim
 |_::_,[],_,h=>h.elim
 |_::_,_::_,_,h=>⟨h.1.weak hA,Gh.weak hA h.2⟩
theorem Akg.weak(hA:∀b,b<w.heap.size->A' b->A b){bt:Bt}{p:PV}{u:Value}(h:Akg w A bt p u):Akg w A' bt p u:=by
 cases p with
 |pbox ps=>
  obtain⟨b,ob,h1,h2,h3,vs,h4,h5⟩:=h;exact⟨b,ob,h1,h2,h3,vs,h4.weak hA,h5⟩
 |tup ps=>
  obtain⟨es,n,c,h1,h2⟩:=h;exact⟨es,n,c,h1,h2.weak hA⟩
 |agg cs=>
  obtain⟨vs,h1,h2,h3⟩:=h;exact⟨vs,h1,h2,h3.weak hA⟩
 |_=>exact⟨h.1,h.2.weak hA⟩
theorem Nv.weak(hA:∀b,b<w.heap.size->A' b->A b){bt:GI}:∀{ps:Ae}{us:List Value}{i:Nat},Nv w A bt i ps us->Nv w A' bt i ps us
 |[],[],_,_=>trivial
 |[],_::_,_,h=>h.elim
 |_::_,[],_,h=>h.elim
 |_::_,_::_,_,h=>⟨h.1.weak hA,Nv.weak hA h.2⟩
theorem KA{bt:GI}(k:Bool):∀{xs:List Operand}{ps:Ae}{i:Nat},Nv w A bt i ps (xs.map a.eval)->Nv w A bt i (M5 k xs ps) (xs.map a.eval)
 |[],[],_,h=>h
 |[],_::_,_,h=>h
 |_::_,[],_,h=>h
 |x::xs,p::ps,i,h=>by
  simp only[Xv] at h ⊢;refine⟨?_,KA k h.2⟩;split
  ·exact⟨.inl trivial,Az.lnil _ _⟩
  ·exact h.1
theorem Acp(k:Bool)(x:Operand)(xs:List Operand)(p:PV)(ps:Ae):∃p',M5 k (x::xs) (p::ps)=p'::M5 k xs ps/\IY p'=IY p/\(IY p=true->p'=p):=by
 refine⟨_,rfl,?_,fun h=>?_⟩
 ·split
  ·rfl
  ·rfl
 ·split
  ·cases h
  ·rfl
theorem Y3{hp:Nat->Option Ca}{src:Nat->Nat->Option (Nat × Nat)}(k:Bool):∀{xs:List Operand}{ps:Ae}{i:Nat}{l:List Ja},Vo hp src i ps l->Vo hp src i (M5 k xs ps) l
 |[],[],_,_,h=>h
 |[],_::_,_,_,h=>h
 |_::_,[],_,_,h=>h
 |x::xs,p::ps,i,l,h=>by
  obtain⟨p',e,h1,h2⟩:=Acp k x xs p ps;rw[e];rcases h with⟨h3,h4,h5⟩|⟨y,l',rfl,h4,h5⟩
  ·exact .inl ⟨by rw[h1];exact h3,h4,Y3 k h5⟩
  ·exact .inr ⟨y,l',rfl,by rw[h2 (Amh h4)];exact h4,Y3 k h5⟩
theorem SK{hp:Nat->Option Ca}{src:Nat->Nat->Option (Nat × Nat)}:∀{ps:Ae}{i:Nat}{l:List Ja},Vo hp src i ps l->∀id∈l.flatMap Ja.ids,Dg (hp id)/\∃k off,src k 0=some (id,off)
 |[],_,_,h,id,B1=>by
  have h:_=[]:=h;rw[h] at B1;cases B1
 |p::ps,i,l,h,id,B1=>by
  rcases h with⟨_,_,h3⟩|⟨x,l',rfl,h2,h3⟩
  ·exact SK h3 id B1
  ·simp only[J4,B2] at B1;rcases B1 with B1|B1
   ·cases x with
    |var id' off cts ws=>
     simp only[Ja.ids,Q2] at B1;subst B1;obtain⟨_,h4,_,c,h5,_⟩:=h2;exact⟨by rw[h5];trivial,i,_,h4⟩
    |row id'=>
     simp only[Ja.ids,Q2] at B1;subst B1;obtain⟨_,h4,c,h5⟩:=h2;exact⟨by rw[h5];trivial,i,_,h4⟩
    |none=>simp[Ja.ids] at B1
   ·exact SK h3 id B1
theorem Avc{hp:Nat->Option Ca}{src:Nat->Nat->Option (Nat × Nat)}:∀{ps:Ae}{i:Nat}{l:List Ja},Vo hp src i ps l->∀k p id off,ps[k]?=some p->src (i+k) 0=some (id,off) ->
   (∃c ws,hp id=some (.st c)/\p=.pbox ws/\off+ws.length<=c.length)\/((∃c,hp id=some (.ar false c))/\off=0/\∃ws,p=.tup ws)
 |[],_,_,_,k,p,id,off,hp,_=>by simp at hp
 |p::ps,i,l,h,k,p',id,off,Dl,hs=>by
  have FM:∃l',Vo hp src (i+1) ps l':=by
   rcases h with⟨_,_,h3⟩|⟨x,l',_,_,h3⟩<;>exact⟨_,h3⟩
  cases k with
  |succ k=>
   obtain⟨l',h'⟩:=FM;exact Avc h' k p' id off (by simpa using Dl) (by rw[show i+1+k=i+(k+1) by omega];exact hs)
  |zero=>
   simp only[List.getElem?_cons_zero,Option.some.injEq] at Dl;subst Dl;rw[ZS] at hs;rcases h with⟨_,h2,_⟩|⟨x,l',_,h2,_⟩
   ·rw[hs] at h2;cases h2
   ·cases x with
    |var id' off' cts ws=>
     obtain⟨h3,h4,_,c,h5,h6⟩:=h2;rw[hs] at h4;cases h4;exact .inl ⟨c,ws,h5,h3,h6⟩
    |row id'=>
     obtain⟨h3,h4,c,h5⟩:=h2;rw[hs] at h4;cases h4;exact .inr ⟨⟨c,h5⟩,rfl,h3⟩
    |none=>
     have:=h2.2;rw[hs] at this;cases this
theorem Af5{hp : Nat -> Option Ca}{src : Nat -> Nat -> Option (Nat × Nat)}{id off : Nat}{cts : List CT}{ws : Ae}: ∀ {ps : Ae} {i : Nat} {l : List Ja}, Vo hp src i ps l -> Ja.var id off cts ws ∈ l ->
      ∃ k, ps[k]? = some (.pbox ws) /\ src (i + k) 0 = some (id, off)
  | [], _, _, h, hm => by
    have h : _ = [] := h
    rw[h] at hm; cases hm
  | p :: ps, i, l, h, hm => by
    have next : ∀ {l'}, Vo hp src (i + 1) ps l' -> Ja.var id off cts ws ∈ l' -> ∃ k, (p :: ps)[k]? = some (.pbox ws) /\ src (i + k) 0 = some (id, off) := by
      intro l' h' Nz
      obtain⟨k, h1, h2⟩ := Af5 h' Nz
      exact⟨k + 1, by simpa using h1, by rw[show i + (k + 1) = i + 1 + k by omega]; exact h2⟩
    rcases h with⟨_, _, h3⟩ | ⟨x, l', rfl, h2, h3⟩
    · exact next h3 hm
    · rcases Ce.1 hm with e | hm
      · subst e
        obtain⟨h1, h4, _⟩ := h2
        subst h1
        exact⟨0, rfl, h4⟩
      · exact next h3 hm
theorem Ahr{hp:Nat->Option Ca}{src:Nat->Nat->Option (Nat × Nat)}:∀{ps:Ae}{i:Nat}{l:List Ja},Vo hp src i ps l->∀k id off,i<=k->src k 0=some (id,off)->k<i+ps.length->∃p,ps[k-i]?=some p/\IY p=true
 |[],i,_,_,k,id,off,h1,_,h3=>by simp at h3;omega
 |p::ps,i,l,h,k,id,off,h1,h2,h3=>by
  by_cases e:k=i
  ·subst e;rcases h with⟨_,h4,_⟩|⟨x,l',_,h4,_⟩
   ·rw[h2] at h4;cases h4
   ·exact⟨p,by simp,Amh h4⟩
  ·have FM:∃l',Vo hp src (i+1) ps l':=by
    rcases h with⟨_,_,h3⟩|⟨x,l',_,_,h3⟩<;>exact⟨_,h3⟩
   obtain⟨l',h'⟩:=FM;obtain⟨q,h5,h6⟩:=Ahr h' k id off (by omega) h2 (by simp at h3;omega)
   refine⟨q,?_,h6⟩;rw[show k-i=(k-(i+1))+1 by omega]
   simpa using h5
theorem Nv.len{bt:GI}:∀{ps:Ae}{us:List Value}{i:Nat},Nv w A bt i ps us->ps.length=us.length
 |[],[],_,_=>rfl
 |[],_::_,_,h=>h.elim
 |_::_,[],_,h=>h.elim
 |_::_,_::_,_,h=>by simp[Nv.len h.2]
theorem Aeo(h:Cg N w0 X0 Y β s a w){G:Vt}(Jo:OP P G w0 X0){C:Iz}{call:Ap}(C7:∀f args res,call f args=some res->C3 G P f args res){c:Call}{f:FuncId}(ho:o.op=.call c)(hc:c.callee=.value (.func f)){K:St->Option R}(hk:NF C P N call s o f c K=some r):
  ∃s',K s'=some r/\∀(next:Act->World->Prop) (Q:Exit->Act->World->Prop),(∀a' w' β',Cg N w0 X0 Y β' s' a' w'->next a' w')->o.wp P a w next Q:=by
 unfold NF at hk;obtain⟨vs0,m,x,l,src,Eu,hm,hx,hS,hL,Ge⟩:=ZB h hk;obtain⟨hb,Gb⟩:=Aq Eu;simp only[Fe] at hb;obtain⟨⟨⟨WW,A3k⟩,hN⟩,An6⟩:=hb;have hN:0<N:=Nat.lt_of_succ_le (Sn hN);obtain⟨hnl,hnx,hlx⟩:=Lx WW
 have hml:∀i∈m,i ∉ l.flatMap Ja.ids/\i ∉ x:=by
  intro i hi;have:=List.all_eq_true.1 A3k i hi
  have hn:∀k∈l.flatMap Ja.ids++x,i≠k:=by
   rintro k hk rfl
   have h2:(l.flatMap Ja.ids++x).any (Nat.beq i)=true:=List.any_eq_true.2 ⟨i,hk,Oq i⟩;rw[h2] at this;cases this
  exact⟨fun hq=>hn i (by simp only[B2];exact .inl hq) rfl,fun hq=>hn i (by simp only[B2];exact .inr hq) rfl⟩
 replace hL:=Y3 (C.kz f) (xs:=c.args.toList) hL
 replace Ge:=fun fz h1 h2 bt FV=>KA (a:=a) (C.kz f) (Ge fz h1 h2 bt FV)
 generalize M5 (C.kz f) c.args.toList vs0=vs at Gb Ge hL;obtain⟨rv,ro,Nq,Pf⟩:=Aa0 Gb;obtain⟨ws,bs,Uv,hwl,hnt,ZO,hrs,hri,hws⟩:=MU (C.shr f) N Pf;obtain⟨Wo,XY⟩:=Aq Uv;obtain⟨lids,XK⟩:∃lids,l.flatMap Ja.ids=lids:=⟨_,rfl⟩
 rw[XK] at hS hnl hlx hml;have A90:∀i,i ∉ x->AF (Ah s.hp m) x i=Ah s.hp m i:=fun i hi=>by rw[Ic,Br hi]
 have Al9:∀i,i∈lids->AF (Ah s.hp m) x i=s.hp i:=fun i hi=>by
  rw[A90 i (hlx i hi),Cp,Br (fun hq=>(hml i hq).1 hi)]
 have hLM:Vo (AF (Ah s.hp m) x) src 0 vs l:=LT (fun i hi=>Al9 i (XK ▸ hi)) hL;obtain⟨Dl,bs',qs,hk6,hbq,GZ,N9,Gj,P5,hsh,Adi⟩:=CC (β:=β) (j:=Om rv) XY hLM (by rw[XK];exact hnl)
 obtain⟨Vq,hk7⟩:=Aq hk6;refine⟨_,hk7,fun next Q hn=>?_⟩;clear hk Eu Gb Pf Uv XY hk6 hk7;rw[XK] at P5;obtain⟨⟨fn,hfn,hfb⟩,Z5⟩:=C7 f vs _ Nq;have hf:=h.freeze hm;have Ap7:=SK hL;rw[XK] at Ap7
 have Aaa:∀i,i∈lids\/i∈x->Ah s.hp m i=s.hp i:=by
  intro i hi;rw[Cp,Br];intro hq;rcases hi with hi|hi
  ·exact (hml i hq).1 hi
  ·exact (hml i hq).2 hi
 have HZ:∀i,i∈lids\/i∈x->Dg (s.hp i):=by
  intro i hi;rcases hi with hi|hi
  ·exact (Ap7 i hi).1
  ·obtain⟨cc,hcc⟩:=hx i hi;rw[hcc];trivial
 have A87:∀i j id off,src i j=some (id,off)->id∈lids\/id∈x:=by
  intro i j id off hs;cases j with
  |zero=>exact .inl (hS.lent i id off hs)
  |succ j=>exact .inr (hS.mvd i j id off hs).2
 obtain⟨bt,FV⟩:∃bt:GI,∀i j,bt i j=(src i j).bind (I2 β):=⟨_,fun _ _=>rfl⟩
 have btS:∀{i j b ob},bt i j=some (b,ob)->∃id off o',src i j=some (id,off)/\β id=some (b,o')/\ob=o'+off/\(id∈lids\/id∈x):=by
  intro i j b ob hb;rw[FV] at hb;cases hs:src i j with
  |none=>rw[hs] at hb;cases hb
  |some q=>
   rw[hs] at hb;obtain⟨id,off⟩:=q;simp only[Option.bind_some,I2] at hb;cases hβ:β id with
   |none=>rw[hβ] at hb;cases hb
   |some p=>
    rw[hβ] at hb;obtain⟨b',o'⟩:=p;simp only[Option.map_some,Option.some.injEq,Prod.mk.injEq] at hb;obtain⟨rfl,rfl⟩:=hb;exact⟨id,off,o',rfl,hβ,rfl,A87 i j id off hs⟩
 have btX:∀{b},BtX bt b->∃id o',β id=some (b,o')/\(id∈lids\/id∈x):=by
  rintro b ⟨i,j,ob,hb⟩
  obtain⟨id,off,o',_,h2,_,h4⟩:=btS hb;exact⟨id,o',h2,h4⟩
 have hBA:∀b,BtX bt b->IM s.hp β b:=fun b hb=>by
  obtain⟨id,o',h1,h2⟩:=btX hb;exact⟨id,o',HZ id h2,h1⟩
 obtain⟨Yc,hYc⟩:∃Yc:Nat->Prop,∀b,Yc b↔((∃id ob,Dg (Ah s.hp m id)/\β id=some (b,ob)/\id ∉ lids/\id ∉ x)\/Y b):=⟨_,fun _=>Iff.rfl⟩
 have Ek:vs.length=c.args.toList.length:=by
  have:=(Ge m (fun _ hi=>hi) hm bt FV).len
  simpa using this
 have Az8:Ins w Yc bt vs (c.args.toList.map a.eval):=by
  refine⟨fun b hb=>?_,fun b hb hB=>?_,fun b hB=>?_,fun i j i' j' b ob ob' hb I7=>?_,fun i q hq=>?_,?_⟩
  ·rcases (hYc b).1 hb with⟨id,ob,hl,hβ,_⟩|hY
   ·exact hf.blt id b ob (Dy hl) hβ
   ·exact F4 (h.Ylt b hY) h.fr.step.size
  ·obtain⟨id',o',h1,h2⟩:=btX hB;rcases (hYc b).1 hb with⟨id,ob,hl,hβ,h3,h4⟩|hY
   ·have:=hf.inj id id' b ob o' hl (by show Dg (Ah s.hp m id');rw[Aaa id' h2];exact HZ id' h2) hβ h1
    subst this;rcases h2 with h2|h2
    ·exact h3 h2
    ·exact h4 h2
   ·exact h.Yx b hY ⟨id',o',HZ id' h2,h1⟩
  ·obtain⟨id',o',h1,h2⟩:=btX hB;exact h.blt id' b o' (Dy (HZ id' h2)) h1
  ·obtain⟨id,off,o1,h1,h2,_,h4⟩:=btS hb;obtain⟨id',off',o1',h1',h2',_,h4'⟩:=btS I7;have:=h.inj id id' b o1 o1' (HZ id h4) (HZ id' h4') h2 h2';subst this;cases j with
   |zero=>
    cases j' with
    |zero=>exact⟨hS.inj0 hnl i i' id off off' h1 h1',rfl⟩
    |succ j'=>exact absurd (hS.mvd i' j' id off' h1').2 (hlx id (hS.lent i id off h1))
   |succ j=>
    cases j' with
    |zero=>exact absurd (hS.mvd i j id off h1).2 (hlx id (hS.lent i' id off' h1'))
    |succ j'=>
     obtain⟨h5,h6⟩:=hS.inj1 hnx i i' j j' id off off' h1 h1';exact⟨h5,by rw[h6]⟩
  ·obtain⟨b,ob⟩:=q;obtain⟨id,off,o',h1,_⟩:=btS hq;obtain⟨p,hp,h2⟩:=Ahr hL i id off (Nat.zero_le _) h1 (by have:=hS.dom i 0 _ h1;rw[Ek];exact this.2)
   exact⟨p,by simpa using hp,h2⟩
  ·refine (Ge m (fun _ hi=>hi) hm bt FV).weak fun b _ hb=>?_;rcases hb with hb|hb
   ·obtain⟨id',o',h1,h2⟩:=btX hb;exact .inl ⟨id',o',by rw[Aaa id' h2];exact HZ id' h2,h1⟩
   ·rcases (hYc b).1 hb with⟨id,ob,hl,hβ,_⟩|hY
    ·exact .inl ⟨id,ob,hl,hβ⟩
    ·exact .inr hY
 unfold Oper.wp;rw[TJ ho hc Jo.ng hfn hfb];show Calls P f _ w _;have hca:c.args.map a.eval=(c.args.toList.map a.eval).toArray:=by rw[<-List.map_toArray,Array.toArray_toList]
 rw[hca];refine (Z5 w Yc bt _ Az8 (Jo.fr w h.fr) (fun b x=>⟨F4 (Jo.y b x).1 h.fr.step.size,fun hB=>(h.ownd b (hBA b hB)).elim (Jo.y b x).2 (fun Ys=>absurd (Jo.y b x).1 (Nat.not_lt.2 Ys))⟩)).mono ?_
 rintro e w' ⟨us,own,rfl,out⟩
 obtain⟨ha1,Xr⟩:=B9 Vq;obtain⟨hg1,hg2⟩:=Fs (hp:=Dl) Xr;have Ai7:=X9 Vq;rw[List.map_append,List.nodup_append] at Ai7;obtain⟨Bpt,A9l,Beg⟩:=Ai7;rw[hbq] at A9l
 obtain⟨β1,hβ1,hβ2⟩:∃β1:Bt,(∀i,(∃bx,(i,bx)∈bs)->β1 i=own ((i-o.dst.getD N) / N))/\∀i,(¬∃bx,(i,bx)∈bs)->β1 i=match EV qs i with|some j=>own j|none=>β i:=by
  refine⟨fun i=>if (bs.any fun q=>Nat.beq q.1 i)=true then own ((i-o.dst.getD N) / N) else match EV qs i with|some j=>own j|none=>β i,fun i hi=>?_,fun i hi=>?_⟩
  ·show (if _ then _ else _)=_;rw[Ch (Abr.2 hi)]
  ·show (if _ then _ else _)=_;rw[Br (fun hq=>hi (Abr.1 hq))]
 have hβbs:∀j,(∃bx,(o.dst.getD N+N*j,bx)∈bs)->β1 (o.dst.getD N+N*j)=own (0+j):=by
  intro j hj;rw[hβ1 _ hj,Nat.add_sub_cancel_left,Nat.mul_div_cancel_left _ hN,Ir]
 have hqb:∀q∈qs,∃bx,(q.1,bx)∈bs':=by
  intro q hq;have:q.1∈bs'.map (·.1):=by rw[hbq];exact List.mem_map_of_mem hq
  obtain⟨⟨i,bx⟩,hm,e⟩:=List.mem_map.1 this;exact⟨bx,e ▸ hm⟩
 have Bgq:∀i bx,(i,bx)∈bs'->∃j,(i,j)∈qs:=by
  intro i bx hm;have:i∈qs.map (·.1):=by rw[<-hbq];exact List.mem_map.2 ⟨_,hm,rfl⟩
  obtain⟨⟨i',j⟩,hm,e⟩:=List.mem_map.1 this;exact⟨j,e ▸ hm⟩
 have hbb:∀i,(∃bx,(i,bx)∈bs')->¬∃bx,(i,bx)∈bs:=by
  rintro i ⟨bx,hm⟩ ⟨bx',Nz⟩
  exact Beg i (List.mem_map.2 ⟨_,Nz,rfl⟩) i (List.mem_map.2 ⟨_,hm,rfl⟩) rfl
 have hβqs:∀q∈qs,β1 q.1=own q.2:=by
  intro q hq;rw[hβ2 q.1 (hbb q.1 (hqb q hq)),Asa A9l q hq]
 have hβold:∀i,Dl i≠none->β1 i=β i:=by
  intro i hi
  have hn1:¬∃bx,(i,bx)∈bs:=by
   rintro⟨bx,hm⟩
   exact hi (ha1 i bx (B2.2 (.inl hm)))
  rw[hβ2 i hn1,Aee];intro hm;obtain⟨q,hq,e⟩:=List.mem_map.1 hm;obtain⟨bx,Ms⟩:=hqb q hq;exact hi (ha1 i bx (B2.2 (.inr (e ▸ Ms))))
 obtain⟨Mm,hba⟩:=hws w' _ own β1 w.heap.size 0 us hβbs out.vals;obtain⟨Be9,A9d⟩:=Adi w' _ own β1 bt hβqs (fun i=>FV i 0) out.outs
 have A1p:∀id∈lids,∃y∈l,id∈y.ids:=by
  intro id B1;rw[<-XK] at B1;exact List.mem_flatMap.1 B1
 have Az0:∀id∈lids,(∃off c cs,s.hp id=some (.st c)/\Dl id=some (.st (B3 c cs off))/\off+cs.length<=c.length/\(∀p∈cs,∀i∈Ay p,∃bx,(i,bx)∈bs'))\/∃c cs,s.hp id=some (.ar false c)/\Dl id=some (.ar false cs):=by
  intro id B1;obtain⟨y,hy,hyi⟩:=A1p id B1;have h1:=hsh y hy;cases y with
  |var id' off cts ws'=>
   simp only[Ja.ids,Q2] at hyi;subst hyi;obtain⟨c1,cs,h2,h3,h4,h5,h6⟩:=h1;rw[Al9 id B1] at h2;exact .inl ⟨off,c1,cs,h2,h3,h5,h6⟩
  |row id'=>
   simp only[Ja.ids,Q2] at hyi;subst hyi;obtain⟨c1,cs,h2,h3⟩:=h1;rw[Al9 id B1] at h2;exact .inr ⟨c1,cs,h2,h3⟩
  |none=>simp[Ja.ids] at hyi
 have Be6:∀id∈lids,Dl id≠none:=by
  intro id B1;rcases Az0 id B1 with⟨_,_,_,_,h2,_⟩|⟨_,_,_,h2⟩<;>rw[h2]<;>simp
 have hpK:∀id,id ∉ lids->Dl id=AF (Ah s.hp m) x id:=fun id B1=>P5 id B1
 have Hs:∀i,s.hp i≠none->Dl i≠none:=by
  intro i hi;by_cases hl:i∈lids
  ·exact Be6 i hl
  ·rw[hpK i hl,Ic];have h1:Ah s.hp m i≠none:=fun e=>hi (Fc.1 e);split
   ·cases hq:Ah s.hp m i with
    |none=>exact absurd hq h1
    |some b=>simp
   ·exact h1
 have Azy:∀i,(s.hp i≠none\/∃bx,(i,bx)∈bs++bs')->A3 Dl (bs++bs') i≠none:=by
  rintro i (hi|⟨bx,hm⟩)
  ·have h1:=Hs i hi;rw[hg2 i (fun bx hm=>h1 (ha1 i bx hm))];exact h1
  ·rw[hg1 i bx hm];simp
 have J1:∀id,(∃bx,(id,bx)∈bs++bs')\/A3 Dl (bs++bs') id=Dl id:=fun id=>by
  by_cases hx:∃bx,(id,bx)∈bs++bs'
  ·exact .inl hx
  ·exact .inr (hg2 id fun bx hb=>hx ⟨bx,hb⟩)
 have hold:∀id bx,Dl id=some bx->Dg (some bx)->Dg (s.hp id)/\id ∉ x/\(id∈lids\/(id ∉ lids/\Ah s.hp m id=some bx)):=by
  intro id bx hb hl;by_cases B1:id∈lids
  ·exact⟨HZ id (.inl B1),hlx id B1,.inl B1⟩
  ·rw[hpK id B1,Ic] at hb;split at hb
   ·cases hq:Ah s.hp m id with
    |none=>rw[hq] at hb;cases hb
    |some b=>rw[hq] at hb;simp at hb;subst hb;exact hl.elim
   ·rename_i hxn;exact⟨by rw[L7 hb hl];exact hl,hxn,.inr ⟨B1,hb⟩⟩
 have HC:∀i bx,(i,bx)∈bs++bs'->∃j,β1 i=own j/\((i=o.dst.getD N+N*j/\j<Om rv)\/((i,j)∈qs/\Om rv<=j)):=by
  intro i bx hm;rcases B2.1 hm with hm|hm
  ·obtain⟨⟨j,rfl,hj⟩,_⟩:=hba i bx hm;exact⟨j,by rw[hβbs j ⟨bx,hm⟩,Ir],.inl ⟨rfl,hj⟩⟩
  ·obtain⟨j,hj⟩:=Bgq i bx hm;exact⟨j,hβqs _ hj,.inr ⟨hj,(GZ _ hj).2⟩⟩
 have A2p:∀i bx,(i,bx)∈bs++bs'->Dg (some bx)/\Wd w' (Yo bt own Yc) β1 i bx/\∀cs,bx=.st cs->∀b ob,β1 i=some (b,ob)->w.heap.size<=b:=by
  intro i bx hm;rcases B2.1 hm with hm|hm
  ·exact (hba i bx hm).2
  ·obtain⟨cc,rfl⟩:=Gj i bx hm;exact⟨trivial,Be9 i _ hm,fun cs e=>by cases e⟩
 have A7e:∀b,(∃i k o',bt i (k+1)=some (b,o'))->∃id o',id∈x/\β id=some (b,o'):=by
  rintro b ⟨i,k,o',hb⟩
  obtain⟨id,off,o1,h1,h2,_,_⟩:=btS hb;exact⟨id,o1,(hS.mvd i k id off h1).2,h2⟩
 have hX:∀b,b<w.heap.size->IM (A3 Dl (bs++bs')) β1 b->IM s.hp β b:=by
  rintro b hb ⟨id,ob,hl,hβ⟩
  rcases J1 id with⟨bx,hm⟩|e
  ·obtain⟨j,hj,_⟩:=HC id bx hm;rw[hj] at hβ;obtain⟨id',o',h1,h2⟩:=A7e b ((out.fresh j b ob hβ).2 hb).1;exact⟨id',o',HZ id' (.inr h1),h2⟩
  ·rw[e] at hl;cases hq:Dl id with
   |none=>rw[hq] at hl;exact hl.elim
   |some bx=>
    rw[hq] at hl;exact⟨id,ob,(hold id bx hq hl).1,by rw[<-hβold id (by rw[hq];simp)];exact hβ⟩
 have hAo:∀b,b<w.heap.size->Dv (A3 Dl (bs++bs')) β1 Y b->Dv s.hp β Y b:=fun b hb hA=>hA.imp (hX b hb) id
 have hAO:∀b,Dv (A3 Dl (bs++bs')) β1 Y b->Yo bt own Yc b:=by
  rintro b (⟨id,ob,hl,hβ⟩|hY)
  ·rcases J1 id with⟨bx,hm⟩|e
   ·obtain⟨j,hj,_⟩:=HC id bx hm;rw[hj] at hβ;exact .inl ⟨j,ob,hβ⟩
   ·rw[e] at hl;cases hq:Dl id with
    |none=>rw[hq] at hl;exact hl.elim
    |some bx=>
     rw[hq] at hl;rw[hβold id (by rw[hq];simp)] at hβ
     obtain⟨h1,h2,h3⟩:=hold id bx hq hl;rcases h3 with h3|⟨h3,h4⟩
     ·obtain⟨_,i,off,hs⟩:=Ap7 id h3;exact .inr (.inl ⟨i,ob+off,by rw[FV,hs];simp[I2,hβ]⟩)
     ·exact .inr (.inr ((hYc b).2 (.inl ⟨id,ob,by rw[h4];exact hl,hβ,h3,h2⟩)))
  ·exact .inr (.inr ((hYc b).2 (.inr hY)))
 have Fw:Cs (Dv s.hp β Y) w w':=out.ext.weaken (fun b _ hb=>.inl (hBA b hb));have A0h:∀i,s.hp i≠none->β1 i=β i:=fun i hi=>hβold i (Hs i hi)
 have hCL:∀b j,SN bt vs b j->∃id o' bx,s.hp id=some bx/\Dg (some bx)/\β id=some (b,o')/\BR bx o' j:=by
  rintro b j ⟨i,p,hp,⟨k,ob,hb,Ys⟩|⟨ob,ps,hb,Ys,Xq⟩⟩
  ·obtain⟨id,off,o',h1,h2,h3,_⟩:=btS hb;obtain⟨h5,h6⟩:=hS.mvd i k id off h1;obtain⟨cc,hcc⟩:=hx id h6;exact⟨id,o',_,hcc,trivial,h2,show o'<=j by omega⟩
  ·obtain⟨id,off,o',h1,h2,h3,_⟩:=btS hb;rcases Avc hL i p id off hp (by rw[Ir];exact h1) with⟨c1,wz,h5,h6,h7⟩|⟨⟨c1,h5⟩,_⟩
   ·rcases Xq with⟨h8,h9⟩|h8
    ·rw[h6] at h8;cases h8;exact⟨id,o',_,h5,trivial,h2,show o'<=j/\j<o'+c1.length by omega⟩
    ·rw[h6] at h8;cases h8
   ·exact⟨id,o',_,h5,trivial,h2,show o'<=j by omega⟩
 have hnL:∀id off cts wz,Ja.var id off cts wz∈l->id∈lids->∀b ob,β id=some (b,ob)->∀j,(j<off\/off+wz.length<=j)->(∃c1,s.hp id=some (.st c1))->¬SN bt vs b (ob+j):=by
  rintro id off cts wz hy B1 b ob hβ j hj ⟨c1,FA⟩ ⟨i,p,hp,⟨k,ob',hb,Ys⟩|⟨ob',ps,hb,Ys,Xq⟩⟩
  ·obtain⟨id',off',o',h1,h2,h3,h4⟩:=btS hb;have:=h.inj id id' b ob o' (HZ id (.inl B1)) (HZ id' h4) hβ h2;subst this;exact hlx id B1 (hS.mvd i k id off' h1).2
  ·obtain⟨id',off',o',h1,h2,h3,h4⟩:=btS hb;have:=h.inj id id' b ob o' (HZ id (.inl B1)) (HZ id' h4) hβ h2;subst this;rw[hβ] at h2;cases h2;obtain⟨k,Eu,Gb⟩:=Af5 hL hy;rw[Ir] at Gb;have hik:=hS.inj0 hnl i k id off' off h1 Gb;subst hik;rw[h1] at Gb;cases Gb;rw[hp] at Eu;cases Eu;rcases Xq with⟨h8,h9⟩|h8
   ·cases h8;omega
   ·cases h8
 have hval:E2 w' (Dv (A3 Dl (bs++bs')) β1 Y) β1 (Tb ws (Ut P o.type)) (Hm us):=by
  have Qx:Bw (H8 w' (Dv (A3 Dl (bs++bs')) β1 Y) β1) ws us:=Mm.mono fun v u hvu=>hvu.step (Cs.refl _ _) (fun b _=>hAO b) (fun _ _=>rfl);have Ek:=Qx.len;cases hT:Ut P o.type
  ·rw[hT] at Wo;have h1:ws.length=1:=Dz Wo
   match ws,us,h1,Ek with
   |[v],[u],_,_=>
    exact (Pi (hnt v (by simp))).2 Qx.1
  ·rw[hT] at Wo
   have h1:¬ws.length=1:=by
    intro e;rw[e] at Wo;cases Wo
   have hr:Hm us=.tuple ⟨us⟩:=by
    unfold Hm;split
    ·simp at Ek;omega
    ·rfl
   rw[hr];exact⟨us,rfl,Qx⟩
 have hvr:∀i∈Cb (Tb ws (Ut P o.type)),∃bx,(i,bx)∈bs:=by
  intro i hi;cases hT:Ut P o.type
  ·rw[hT] at Wo hi;have h1:ws.length=1:=Dz Wo
   match ws,h1 with
   |[v],_=>
    refine hrs v (by simp) i ?_
    have:Cb v=Co v:=by
     have hn:=hnt v (by simp);cases v<;>first|rfl|exact absurd rfl (hn _)
    rw[<-this];exact hi
  ·rw[hT] at hi;obtain⟨v,hv,hi⟩:=List.mem_flatMap.1 (show i∈ws.flatMap Co from hi);exact hrs v hv i hi
 refine hn _ w' β1 ?_;refine⟨by rw[Oz];exact h.dfr,by rw[P6];exact h.tsz,Ack An6 h.tmo,?_,?_,?_,?_,?_,?_,?_,?_,?_,?_,?_,h.Ylt,?_⟩
 ·refine Um (Q:=fun _ p u=>E2 w' (Dv (A3 Dl (bs++bs')) β1 Y) β1 p u) h.tsz An6 (fun i hi=>?_) (fun _=>hval);exact (h.tms i hi).step Fw hAo fun id B1=>A0h id (h.wfT i hi id B1)
 ·intro id bx hb;simp only at hb;rcases J1 id with⟨bx',Nz⟩|e
  ·rw[hg1 id bx' Nz] at hb;cases hb;exact (A2p id _ Nz).2.1.step' hAO
  ·rw[e] at hb;have hβ:=hβold id (by rw[hb];simp)
   by_cases B1:id∈lids
   ·obtain⟨y,hy,hyi⟩:=A1p id B1;have h1:=A9d y hy;cases y with
    |var id' off cts wz=>
     simp only[Ja.ids,Q2] at hyi;subst hyi;obtain⟨c1,cs,h2,h3,h4,h5,h6⟩:=h1;rw[Al9 id B1] at h2;rw[h3] at hb;cases hb;obtain⟨b,ob,h7,h8,h9⟩:=h.box id _ h2;obtain⟨h10,h11⟩:=h6 b ob h7;have Ci:=h.blt id b ob (by rw[h2];simp) h7
     have FH:∀j,(j<off\/off+wz.length<=j)->w'.cell? ⟨b,ob+j,none⟩=w.cell? ⟨b,ob+j,none⟩/\w'.frozen? ⟨b,ob+j,none⟩=w.frozen? ⟨b,ob+j,none⟩:=
      fun j hj=>out.rng b (ob+j) Ci (hnL id off cts wz hy B1 b ob h7 j hj ⟨c1,h2⟩)
     refine⟨b,ob,hβ.trans h7,fun j p hj=>?_,fun j hj=>?_⟩
     ·rcases Yf (by omega) hj with⟨h12,h13,h14⟩|⟨h12,h14⟩
      ·obtain⟨v,hv,hcr⟩:=h10 _ _ h14;refine⟨v,?_,hcr.step (Cs.refl _ _) (fun b _=>hAO b) (fun _ _=>rfl)⟩;rw[show ob+j=ob+off+(j-off) by omega];exact hv
      ·obtain⟨v,hv,hcr⟩:=h8 _ _ h14;refine⟨v,by rw[(FH j (by omega)).1];exact hv,hcr.step Fw hAo fun i hi=>A0h i (h.wfB id c1 h2 p (List.mem_of_getElem? h14) i hi)⟩
     ·rw[X5 (by omega)] at hj;by_cases Xd:off<=j/\j<off+cs.length
      ·have:=h11 (j-off) (by omega);rw[show ob+off+(j-off)=ob+j by omega] at this;exact this
      ·rw[(FH j (by omega)).2];exact h9 j hj
    |row id'=>
     simp only[Ja.ids,Q2] at hyi;subst hyi;obtain⟨cs,h3,h4⟩:=h1;rw[h3] at hb;cases hb;rcases h4 with⟨h5,h6⟩|⟨b,ob,h5,h6,h7⟩
     ·exact .inl ⟨hβ.trans h5,h6⟩
     ·exact .inr ⟨b,ob,hβ.trans h5,h6.weak (fun b _=>hAO b),fun _=>h7,(fun q=>by cases q)⟩
    |none=>simp[Ja.ids] at hyi
   ·rw[hpK id B1,Ic] at hb;split at hb
    ·cases hq:Ah s.hp m id with
     |none=>rw[hq] at hb;cases hb
     |some b0=>rw[hq] at hb;simp at hb;subst hb;trivial
    ·rename_i hxn;have Ms:=hf.box id bx hb
     have Awj:∀b ob,β id=some (b,ob)->bx ≠ .mv->b<w.heap.size/\w'.heap[b]?=w.heap[b]?:=by
      intro b ob QZ hmv;have Ci:=hf.blt id b ob (by show Ah s.hp m id≠none;rw[hb];simp) QZ
      refine⟨Ci,out.ext.keep b Ci fun hB=>?_⟩;obtain⟨id',o',h1,h2⟩:=btX hB;have Ox:Dg (Ah s.hp m id'):=by rw[Aaa id' h2];exact HZ id' h2
      have hno:id≠id':=by
       rintro rfl
       rcases h2 with h2|h2
       ·exact B1 h2
       ·exact hxn h2
      cases bx with
      |st cc=>exact hno (hf.inj id id' b ob o' (by show Dg (Ah s.hp m id);rw[hb];trivial) Ox QZ h1)
      |ar fz cc=>
       cases fz with
       |false=>exact hno (hf.inj id id' b ob o' (by show Dg (Ah s.hp m id);rw[hb];trivial) Ox QZ h1)
       |true=>
        rcases Ms with⟨h3,_⟩|⟨b2,o2,h3,_,_,h4⟩
        ·rw[QZ] at h3;cases h3
        ·rw[QZ] at h3;cases h3;exact h4 rfl (.inl ⟨id',o',Ox,h1⟩)
      |mv=>exact hmv rfl
     have hAoF:∀b,b<w.heap.size->Dv (A3 Dl (bs++bs')) β1 Y b->Dv (Ah s.hp m) β Y b:=by
      intro b Gj hA;rcases hA with⟨i,ob,hl,hβi⟩|hY
      ·rcases J1 i with⟨bx1,VW⟩|e1
       ·obtain⟨j,hj,_⟩:=HC i bx1 VW;rw[hj] at hβi;obtain⟨id',o',h1,h2⟩:=A7e b ((out.fresh j b ob hβi).2 Gj).1;exact .inl ⟨id',o',by rw[Aaa id' (.inr h1)];exact HZ id' (.inr h1),h2⟩
       ·rw[e1] at hl;cases hq:Dl i with
        |none=>rw[hq] at hl;exact hl.elim
        |some bx1=>
         rw[hq] at hl;rw[hβold i (by rw[hq];simp)] at hβi
         obtain⟨h1,h2,h3⟩:=hold i bx1 hq hl;rcases h3 with h3|⟨h3,h4⟩
         ·exact .inl ⟨i,ob,by rw[Aaa i (.inl h3)];exact h1,hβi⟩
         ·exact .inl ⟨i,ob,by rw[h4];exact hl,hβi⟩
      ·exact .inr hY
     have A94:Cs (Dv (Ah s.hp m) β Y) w w':=out.ext.weaken (fun b _ hB=>by
      obtain⟨id',o',h1,h2⟩:=btX hB;exact .inl ⟨id',o',by rw[Aaa id' h2];exact HZ id' h2,h1⟩)
     cases bx with
     |st cc=>
      obtain⟨b,ob,h1,h2,h3⟩:=Ms;obtain⟨Ci,Nx⟩:=Awj b ob h1 (by simp);refine⟨b,ob,hβ.trans h1,fun j p hj=>?_,fun j hj=>?_⟩
      ·obtain⟨v,hv,hcr⟩:=h2 j p hj;refine⟨v,by rw[World.cell?_of_block (w:=w) Nx];exact hv,hcr.step A94 hAoF fun i hi=>?_⟩
       refine A0h i (fun e1=>?_);exact hf.wfB id cc hb p (List.mem_of_getElem? hj) i hi (Fc.2 e1)
      ·rw[World.frozen?_of_block (w:=w) Nx];exact h3 j hj
     |ar fz cc=>
      rcases Ms with⟨h1,h2⟩|⟨b,ob,h1,h2,h3,h4⟩
      ·exact .inl ⟨hβ.trans h1,h2⟩
      ·obtain⟨Ci,Nx⟩:=Awj b ob h1 (by simp);have PZ:bsz w' b=bsz w b:=by unfold bsz;rw[Nx]
       refine .inr ⟨b,ob,hβ.trans h1,fun j p hj=>?_,fun e1 j hj Ty=>?_,fun e1 q=>h4 e1 (hAoF b Ci q)⟩
       ·obtain⟨v,hv,h5,FA⟩:=h2 j p hj;exact⟨v,by rw[World.cell?_of_block (w:=w) (by rw[F5];exact Nx)];exact hv,h5,FA.step A94 hAoF⟩
       ·rw[World.frozen?_of_block (w:=w) Nx];exact h3 e1 j hj (by rw[<-PZ];exact Ty)
     |mv=>trivial
 ·intro id id' b ob ob' hl Ox hb I7;simp only at hl Ox
  have mixed:∀i bx i' k z,(i,bx)∈bs++bs'->β1 i=some (k,z)->Dl i'≠none->Dg (Dl i')->∀z',β1 i'=some (k,z')->False:=by
   intro i bx i' k z VW hz hn1 SP z' hz';obtain⟨j,hj,_⟩:=HC i bx VW;rw[hj] at hz;rw[hβold i' hn1] at hz';cases hq:Dl i' with
   |none=>exact hn1 hq
   |some bx1=>
    rw[hq] at SP;obtain⟨h1,h2,h3⟩:=hold i' bx1 hq SP;have Ci:=h.blt i' k z' (Dy h1) hz';obtain⟨id2,o2,h4,h5⟩:=A7e k ((out.fresh j k z hz).2 Ci).1;have:=h.inj i' id2 k z' o2 h1 (HZ id2 (.inr h4)) hz' h5;subst this;exact h2 h4
  rcases J1 id with⟨bx,VW⟩|e1
  ·rcases J1 id' with⟨bx',hm2⟩|e2
   ·obtain⟨j,hj,Xq⟩:=HC id bx VW;obtain⟨j',Ty,Bbk⟩:=HC id' bx' hm2;rw[hj] at hb;rw[Ty] at I7;have:=out.inj j j' b ob ob' hb I7;subst this;rcases Xq with⟨h1,h2⟩|⟨h1,h2⟩
    ·rcases Bbk with⟨h3,_⟩|⟨_,h4⟩
     ·rw[h1,h3]
     ·omega
    ·rcases Bbk with⟨_,h4⟩|⟨h3,_⟩
     ·omega
     ·exact N9 _ h1 _ h3 rfl
   ·rw[e2] at Ox;exact (mixed id bx id' b ob VW hb (Dy Ox) Ox ob' I7).elim
  ·rw[e1] at hl;rcases J1 id' with⟨bx',hm2⟩|e2
   ·exact (mixed id' bx' id b ob' hm2 I7 (Dy hl) hl ob hb).elim
   ·rw[e2] at Ox
    have g:∀i,Dg (Dl i)->Dg (s.hp i)/\β1 i=β i:=by
     intro i hli;cases hq:Dl i with
     |none=>rw[hq] at hli;exact hli.elim
     |some bx1=>exact⟨(hold i bx1 hq (by rw[<-hq];exact hli)).1,hβold i (by rw[hq];simp)⟩
    rw[(g id hl).2] at hb;rw[(g id' Ox).2] at I7;exact h.inj id id' b ob ob' (g id hl).1 (g id' Ox).1 hb I7
 ·intro id b ob hn1 hb;simp only at hn1;rcases J1 id with⟨bx,VW⟩|e1
  ·obtain⟨j,hj,_⟩:=HC id bx VW;rw[hj] at hb;exact (out.fresh j b ob hb).1
  ·rw[e1] at hn1;rw[hβold id hn1] at hb
   have hn2:s.hp id≠none:=by
    by_cases B1:id∈lids
    ·exact Dy (HZ id (.inl B1))
    ·rw[hpK id B1,Ic] at hn1;intro e2;have h1:Ah s.hp m id=none:=Fc.2 e2;rw[h1] at hn1;split at hn1<;>exact hn1 rfl
   exact F4 (h.blt id b ob hn2 hb) out.ext.size
 ·have:=Um (Q:=fun _ p _=>∀id∈Cb p,A3 Dl (bs++bs') id≠none) (val:=Hm us) (d:=o.dst) (v:=Tb ws (Ut P o.type)) h.tsz An6 (fun i hi id B1=>Azy id (.inl (h.wfT i hi id B1))) (fun _ id B1=>Azy id (.inr (by
   obtain⟨bx,hb⟩:=hvr id B1;exact⟨bx,B2.2 (.inl hb)⟩)))
  exact this
 ·intro id cells Abk p hp i hi;simp only at Abk;refine Azy i ?_;rcases J1 id with⟨bx,VW⟩|e1
  ·rw[hg1 id bx VW] at Abk;cases Abk;rcases B2.1 VW with VW|VW
   ·obtain⟨bx1,hb⟩:=hri id cells VW p hp i hi;exact .inr ⟨bx1,B2.2 (.inl hb)⟩
   ·obtain⟨cc,e2⟩:=Gj id _ VW;cases e2
  ·rw[e1] at Abk;by_cases B1:id∈lids
   ·rcases Az0 id B1 with⟨off,c1,cs,h1,h2,h3,h4⟩|⟨c1,cs,h1,h2⟩
    ·rw[h2] at Abk;cases Abk;unfold B3 at hp;rcases B2.1 hp with hp|hp
     ·rcases B2.1 hp with hp|hp
      ·exact .inl (h.wfB id c1 h1 p (List.mem_of_mem_take hp) i hi)
      ·obtain⟨bx1,hb⟩:=h4 p hp i hi;exact .inr ⟨bx1,B2.2 (.inr hb)⟩
     ·exact .inl (h.wfB id c1 h1 p (List.mem_of_mem_drop hp) i hi)
    ·rw[h2] at Abk;cases Abk
   ·obtain⟨_,_,h3⟩:=hold id _ Abk trivial;rcases h3 with h3|⟨_,h3⟩
    ·exact absurd h3 B1
    ·exact .inl (h.wfB id cells (L7 h3 trivial) p hp i hi)
 ·rintro b ⟨id,ob,hl,hβ⟩
  rcases Is b w.heap.size with Ci|hge
  ·exact h.ownd b (hX b Ci ⟨id,ob,hl,hβ⟩)
  ·exact .inr (Nat.le_trans h.fr.step.size hge)
 ·intro id bx b ob hb hl hβ Ci j hj;simp only at hb;have hlw:=F4 Ci h.fr.step.size;rcases J1 id with⟨bx',VW⟩|e1
  ·rw[hg1 id bx' VW] at hb;cases hb;obtain⟨k,hk,_⟩:=HC id bx VW;rw[hk] at hβ
   have Ys:ob<=j:=by
    cases bx with
    |st cc=>exact hj.1
    |ar fz cc=>exact hj
    |mv=>exact hl.elim
   obtain⟨id2,o2,bx2,h1,h2,h3,h4⟩:=hCL b j (((out.fresh k b ob hβ).2 hlw).2 j Ys);exact h.rngB id2 bx2 b o2 h1 h2 h3 Ci j h4
  ·rw[e1] at hb;rw[hβold id (by rw[hb];simp)] at hβ
   obtain⟨h1,h2,h3⟩:=hold id bx hb hl;rcases h3 with h3|⟨h3,h4⟩
   ·rcases Az0 id h3 with⟨off,c1,cs,h5,h6,h7,_⟩|⟨c1,cs,h5,h6⟩
    ·rw[h6] at hb;cases hb;have hj:ob<=j/\j<ob+(B3 c1 cs off).length:=hj;rw[X5 (by omega)] at hj;exact h.rngB id _ b ob h5 trivial hβ Ci j hj
    ·rw[h6] at hb;cases hb;exact h.rngB id _ b ob h5 trivial hβ Ci j hj
   ·exact h.rngB id bx b ob (L7 h4 hl) hl hβ Ci j hj
 ·intro i hi;obtain⟨h1,h2⟩:=h.pin i hi;exact⟨Azy _ (.inl h1),by rw[A0h _ h1];exact h2⟩
 ·intro id cc b ob hb hβ Ci;simp only at hb;have hlw:=F4 Ci h.fr.step.size;rcases J1 id with⟨bx',VW⟩|e1
  ·rw[hg1 id bx' VW] at hb;cases hb;have:=(A2p id _ VW).2.2 cc rfl b ob hβ;omega
  ·rw[e1] at hb;rw[hβold id (by rw[hb];simp)] at hβ
   obtain⟨h1,h2,h3⟩:=hold id _ hb trivial;rcases h3 with h3|⟨h3,h4⟩
   ·rcases Az0 id h3 with⟨off,c1,cs,h5,h6,h7,_⟩|⟨c1,cs,h5,h6⟩
    ·exact h.stp id c1 b ob h5 hβ Ci
    ·rw[h6] at hb;cases hb
   ·exact h.stp id cc b ob (L7 h4 trivial) hβ Ci
 ·intro b hY hXb;exact h.Yx b hY (hX b (F4 (h.Ylt b hY) h.fr.step.size) hXb)
 ·refine⟨out.os.trans h.fr.os,out.tape.trans h.fr.tape,out.output.trans h.fr.output,⟨Nat.le_trans h.fr.step.size out.ext.size,fun b hb hnX=>?_,fun b hb=>(h.fr.step.bs b hb).trans (out.ext.bs b (F4 hb h.fr.step.size))⟩,fun b j hb hnL=>?_⟩
  ·rw[out.ext.keep b (F4 hb h.fr.step.size) ?_]
   ·exact h.fr.step.keep b hb hnX
   ·intro hB;rcases h.ownd b (hBA b hB) with hq|hq
    ·exact hnX hq
    ·omega
  ·have hno:¬SN bt vs b j:=by
    intro hq;obtain⟨id2,o2,bx2,h1,h2,h3,h4⟩:=hCL b j hq;exact hnL (h.rngB id2 bx2 b o2 h1 h2 h3 hb j h4)
   obtain⟨h1,h2⟩:=out.rng b j (F4 hb h.fr.step.size) hno;rw[h1,h2];exact h.fr.rng b j hb hnL
end
open Go.RowKit
section
variable {R:Type}{r:R}{P:Program}{N:Nat}{w0:World}{X0:Gc}{Y:Nat->Prop}{β β':Bt}{s:St}{a:Act}{w w':World}{o:Oper}{A:Nat->Prop}
theorem Acy(h:Cg N w0 X0 Y β s a w){c:Call}(ho:o.op=.call c)(hc:c.callee=.builtin .append){d:Nat}(An6:o.dst=some d){b x:Operand}(Ge:c.args.toList=[b,x]){t tx:TypeId}{ts:List TypeId}(QE:c.argTypes.toList=t::tx::ts){K:St->Option R}(hk:U0 P N s d t tx (Cu s.tm b) (Cu s.tm x) K=some r):
  ∃s',K s'=some r/\∀(next:Act->World->Prop) (Q:Exit->Act->World->Prop),(∀a' w' β',Cg N w0 X0 Y β' s' a' w'->next a' w')->o.wp P a w next Q:=by
 have SR:c.args = #[b,x]:=by
  have:c.args=([b,x]:List Operand).toArray:=by rw[<-Ge]
  exact this
 have Afx:c.argTypes=(t::tx::ts).toArray:=by rw[<-QE]
 have run:∀{v:Value} {w1:World},(Builtin.append_ (t::tx::ts).toArray o.type #[a.eval b,a.eval x]).run P w=.ok v w1->∀(next:Act->World->Prop) (Q:Exit->Act->World->Prop),next (a.put (some d) v) w1->o.wp P a w next Q:=by
  intro v w1 hr next Q hn;unfold Oper.wp execOp;rw[ho];simp only[resolve,hc,invoke,builtin,Sem.run_bind,Sem.run_pure,Result.andThen_ok,SR,Afx];have:(#[b,x]:Array Operand).map a.eval = #[a.eval b,a.eval x]:=by simp
  rw[this,hr];show next (a.put o.dst v) w1;rw[An6];exact hn
 have hbv:=D7 h b;have hbr:=Gv h b;unfold U0 at hk;split at hk
 ·rename_i e hu;obtain⟨hzi,hk⟩:=Aq hk;obtain⟨i,z,hi,hz,RZ,Kx⟩:=VC hzi;cases hit:LK P tx
  rotate_left
  ·rw[hit] at hk;simp only[cond_true] at hk
   obtain⟨ki,htx⟩:∃k,P.underlying tx=some (.int k):=by
    unfold LK at hit;split at hit
    ·exact⟨_,by assumption⟩
    ·cases hit
   unfold AY at hk;obtain⟨kx,n,hx,hk⟩:=Em hk;obtain⟨zz,n',c',hk,hp⟩:=Ha hk;obtain⟨hb,hk⟩:=Aq hk;simp only[Fe,FJ] at hb;obtain⟨⟨⟨⟨⟨hzz,hdN⟩,EZ⟩,LX⟩,hby⟩,RE⟩:=hb;have hdN:d<N:=Nat.lt_of_succ_le (Sn hdN);have EZ:s.hp d=none:=by simpa using EZ
   have Aij:Io N (some d)=true:=by simp[Io,Nat.blt];omega
   have AM:((P.info? e).map (·.bytes)).getD 0=i.bytes:=by rw[hi];rfl
   rw[AM] at hby;rw[Kx] at hk;have Eh:=C4 h hx;rcases slice_form hp hbv with⟨Vq,_⟩|⟨_,_,_,UZ,_⟩|⟨_,_,_,UZ,_⟩
   ·refine⟨_,hk,fun next Q hn=>?_⟩;by_cases hm0:n=0
    ·subst hm0;have hr:=OA (P:=P) (w:=w) (t:=t) (tx:=tx) (ty:=o.type) (ts:=ts) (kx:=kx) hu htx hi;rw[<-Vq,<-Eh] at hr;refine run hr next Q (hn _ _ (Dt β d none) ?_);rw[Vq];refine h.stepR (d:=some d) (nw:=[(d,.ar false [])]) (β':=Dt β d none) Aij (by simp[Cn,EZ]) ⟨rfl,rfl,rfl,Cs.refl _ _,fun j hj=>Ao _ _ (by rintro rfl;exact hj EZ),?_,?_,?_,?_,?_,.inl ⟨Av _ _ _,rfl,rfl,none,rfl⟩,?_⟩
     ·intro j bx hm;simp at hm;rw[hm.2];trivial
     ·intro j bx hm;simp at hm;obtain⟨rfl,rfl⟩:=hm;exact .inl ⟨Av _ _ _,rfl⟩
     ·intro j bx k q hm hq;simp at hm;obtain⟨rfl,rfl⟩:=hm;rw[Av] at hq;cases hq
     ·intro j bx j' bx' k q q' hm Nz _ _;simp at hm Nz;rw[hm.1,Nz.1]
     ·intro j cells hm;simp at hm
     ·intro j hj;simp[Cb,Co,Ay] at hj;subst hj;exact .inr ⟨.ar false [],by simp⟩
    ·have hr:=QR (P:=P) (w:=w) (t:=t) (tx:=tx) (ty:=o.type) (ts:=ts) (kx:=kx) hu htx hi hz (n:=n) (by omega) hby RE;rw[<-Vq,<-Eh] at hr;refine run hr next Q (hn _ _ (Dt β d (some (w.heap.size,0))) ?_);have hge:n.toNat<=grownCap w n.toNat 0 e:=grownCap_ge w n.toNat 0 e;generalize Z5:((if n.toNat*i.size=0 then #[] else Builtin.zeroCells z.cells n.toNat)++Builtin.zeroCells z.cells (grownCap w n.toNat 0 e-n.toNat))=cs
     have GT:Hc w (w.drew.alloc (.cells cs e)) cs e:=
      ⟨rfl,rfl,rfl,fun k hk=>Below.heap_alloc w.drew _ k hk,by show (w.heap.push _).size=_;simp,(0,0),by show (w.heap.push _)[w.heap.size]?=_;simp,.inl rfl⟩
     have Ajv:cs.size=grownCap w n.toNat 0 e*i.size:=by
      rw[<-Z5];by_cases hs0:n.toNat*i.size=0
      ·rw[Ch hs0]
       have hi0:i.size=0:=by
        rcases Nat.mul_eq_zero.1 hs0 with h|h
        ·omega
        ·exact h
       simp[size_zeroCells,RZ,hi0]
      ·rw[Br hs0];simp only[Array.size_append,size_zeroCells,RZ,<-Nat.add_mul]
       congr 1
       omega
     refine h.stepR (d:=some d) (nw:=[(d,.ar false [])]) Aij (by simp[Cn,EZ]) (Wm GT EZ trivial ?_ (fun cells hx=>by cases hx) ?_ (by intro j hj;simp[Cb,Co,Ay] at hj;exact .inr hj))
     ·refine .inr ⟨w.heap.size,0,Av _ _ _,fun j p hj=>by simp at hj,fun _ j _ hj=>?_,(fun q=>by cases q)⟩;rw[GT.bsz] at hj;exact GT.frozen hj
     ·refine .inr ⟨w.heap.size,0,0,grownCap w n.toNat 0 e,Av _ _ _,rfl,.inl rfl,hge,?_,by rw[GT.size];omega⟩
      exact⟨by rw[GT.bsz,Ajv];omega,.inr (Ou w.drew _ e)⟩
   ·rw[UZ] at hzz;cases hzz
   ·rw[UZ] at hzz;cases hzz
  rw[hit] at hk;simp only[cond_false] at hk;have AM:((P.info? e).map (·.bytes)).getD 0=i.bytes:=by rw[hi];rfl
  obtain⟨⟨dx,hdx,Af7⟩,m,new,news,hk,hs⟩:=WD h hk (by
   intro m new hk;split at hk
   ·split at hk
    ·obtain⟨hb,_⟩:=Aq hk;simp only[Fe,FJ] at hb;have he:=Dz hb.1.1.1.1.1.1.1;rw[<-he];exact hb.1.1.2
    ·cases hk
   ·obtain⟨zz,n',c',hk,_⟩:=Ha hk;obtain⟨hb,_⟩:=Aq hk;simp only[Fe,FJ] at hb;exact hb.1.1.2)
  rw[Kx] at hs;have hnl:new.length=news.length:=hs.rep.len;split at hk
  ·rename_i id es off n eb;rw[eb] at hbv hbr;split at hk
   ·rename_i cc h0;obtain⟨hb,Gb⟩:=Aq hk;simp only[Fe,FJ] at hb;obtain⟨⟨⟨⟨⟨⟨⟨EG,Ve⟩,hdN⟩,EZ⟩,Be2⟩,Alv⟩,hby⟩,RE⟩:=hb;have EG:=Dz EG;have Ve:=Dz Ve;have hdN:d<N:=Nat.lt_of_succ_le (Sn hdN);have EZ:s.hp d=none:=by simpa using EZ
    subst Ve;rw[Kx] at EG;subst EG;rw[AM] at hby;have PI:news.length=m*i.size:=by omega
    have Bns:s.hp id≠none:=by rw[h0];simp
    have Aqu:=h.box id _ h0;refine⟨_,Gb,fun next Q hn=>?_⟩
    have grow:∀(ad:Option Addr) (cap:Nat) (olds:List Value),a.eval b=.slice ad n cap->Bw (Az w (Dv s.hp β Y)) (cc.take (n*i.size)) olds->(∀u∈olds,u.oneCell'=true)->olds.length=n*i.size ->
      ((ad=none/\olds=[])\/∃p,ad=some p/\olds.length=n*i.size/\∀(j:Nat) v,olds[j]?=some v->w.cell? (p.add j)=some v)->cap<n+m->o.wp P a w next Q:=by
     intro ad cap olds Vq holds h1 hol hold EN;have hr:=append_grow_run (P:=P) (w:=w) (t:=t) (tx:=tx) (ty:=o.type) (ts:=ts) hu hdx Af7 hi hz hs hold EN hby RE;rw[<-Vq] at hr;refine run hr next Q (hn _ _ (Dt β d (some (w.heap.size,0))) ?_);have hge:n+m<=grownCap w (n+m) cap e:=grownCap_ge w (n+m) cap e
     have GT:Hc w (w.drew.alloc (.cells (olds.toArray++news.toArray++Builtin.zeroCells z.cells (grownCap w (n+m) cap e-(n+m))) e)) (olds.toArray++news.toArray++Builtin.zeroCells z.cells (grownCap w (n+m) cap e-(n+m))) e:=
      ⟨rfl,rfl,rfl,fun k hk=>Below.heap_alloc w.drew _ k hk,by show (w.heap.push _).size=_;simp,(0,0),by show (w.heap.push _)[w.heap.size]?=_;simp,.inl rfl⟩
     have Ajv:(olds.toArray++news.toArray++Builtin.zeroCells z.cells (grownCap w (n+m) cap e-(n+m))).size=grownCap w (n+m) cap e*i.size:=by
      simp only[Array.size_append,List.size_toArray,size_zeroCells,RZ,hol,PI,<-Nat.add_mul]
      congr 1
      omega
     have hbo:∀k y,some (w.heap.size,0)=some (k,y)->w.heap.size<=k\/∃q,β id=some (k,q):=by
      intro k y hh;simp at hh;exact .inl (by omega)
     refine h.move h0 EZ hdN rfl rfl rfl (by rw[GT.size];omega) (fun k hk _=>GT.old k hk) GT.step.bs (fun k y hh=>⟨by simp at hh;rw[GT.size];omega,hbo k y hh⟩) (fun k y hh Ci=>by simp at hh;omega)
      (fun k y _ Ci j _=>⟨World.cell?_of_block (w:=w) (GT.old k Ci),World.frozen?_of_block (w:=w) (GT.old k Ci)⟩) ?_ ?_ (by intro j hj;simpa [Cb,Co,Ay] using hj)
     ·refine .inr ⟨w.heap.size,0,Av _ _ _,WH GT (Ai2 h0 EZ hbo) holds hs.rep h1 hs.one,fun _ j _ hj=>?_,(fun q=>by cases q)⟩;rw[GT.bsz] at hj;exact GT.frozen hj
     ·refine .inr ⟨w.heap.size,0,0,grownCap w (n+m) cap e,Av _ _ _,rfl,.inl rfl,hge,?_,by rw[GT.size];omega⟩
      exact⟨by rw[GT.bsz,Ajv];omega,.inr (Ou w.drew _ e)⟩
    rcases hbv with⟨hβ,_,rfl,ad,Vq⟩|⟨bb,ob,y,cap,hβ,Vq,hy,Alr,EN,Atc⟩
    ·rcases Aqu with⟨_,rfl⟩|⟨b',o',Gj,_⟩
     ·by_cases hm0:m=0
      ·subst hm0;have hr:=Qw (P:=P) (w:=w) (t:=t) (tx:=tx) (ty:=o.type) (ts:=ts) (ad:=ad) hu hdx Af7 hi hs (List.eq_nil_of_length_eq_zero (by omega));rw[<-Vq] at hr;have Ahp:new=[]:=List.eq_nil_of_length_eq_zero (by omega);subst Ahp;refine run hr next Q (hn _ _ (Dt β d none) ?_);rw[Vq];refine h.move h0 EZ hdN rfl rfl rfl (Cd _) (fun _ _ _=>rfl) (fun _ _=>Fp.refl _ _) (fun k q hh=>by cases hh) (fun k q hh=>by cases hh) (fun _ _ _ _ _ _=>⟨rfl,rfl⟩) ?_ ?_ (by intro j hj;simpa [Cb,Co,Ay] using hj)
       ·exact .inl ⟨Av _ _ _,by simp⟩
       ·exact .inl ⟨Av _ _ _,rfl,rfl,ad,rfl⟩
      ·exact grow ad 0 [] Vq (by simp[Bw]) (by simp) (by simp) (by cases ad with
        |none=>exact .inl ⟨rfl,rfl⟩
        |some p=>exact .inr ⟨p,rfl,by simp,fun j v hj=>by simp at hj⟩) (by omega)
     ·rw[hβ] at Gj;cases Gj
    ·rcases Aqu with⟨Gj,_⟩|⟨b',o',Gj,Kw,EP,_⟩
     ·rw[hβ] at Gj;cases Gj
     rw[hβ] at Gj;simp at Gj;obtain⟨rfl,rfl⟩:=Gj;have hy:y=ob:=by rcases hy with hy|⟨_,hq⟩<;>omega
     subst hy;by_cases U6:n+m<=cap
     ·have Aox:y+n*i.size+news.length<=bsz w bb:=by
       have h5:n*i.size+m*i.size<=cap*i.size:=by rw[<-Nat.add_mul];exact Nat.mul_le_mul_right _ U6
       have:=EN.1;omega
      have Ey:∀k,k<news.length->(w.cell? ⟨bb,y+n*i.size+k,none⟩).isSome=true:=fun k hk=>BF (by omega);have hr:=append_room_run (P:=P) (w:=w) (t:=t) (tx:=tx) (ty:=o.type) (ts:=ts) (b:=bb) (ob:=y) (n:=n) (cap:=cap) hu hdx Af7 hi hs PI Ey (fun k hk=>EP rfl _ (by omega) (by omega)) U6;rw[<-Vq] at hr;have hw:=C6.setCells bb news (y+n*i.size) w
      have hbo:∀k q,some (bb,y)=some (k,q)->w.heap.size<=k\/∃q',β id=some (k,q'):=by
       intro k q hh;simp at hh;obtain⟨rfl,rfl⟩:=hh;exact .inr ⟨_,hβ⟩
      refine run hr next Q (hn _ _ (Dt β d (some (bb,y))) ?_)
      have Fw:Cs (Dv s.hp β Y) w (w.setCells bb (y+n*i.size) news):=by
       have hAb:Dv s.hp β Y bb:=.inl ⟨id,y,by rw[h0];trivial,hβ⟩
       exact⟨by rw[hw.size];exact Cd _,fun k _ hk=>hw.other k (fun e=>hk (e ▸ hAb)),fun k _=>hw.grow k⟩
      refine h.move h0 EZ hdN hw.os hw.tape hw.output (by rw[hw.size];exact Cd _) (fun k _ hq=>hw.other k (by rintro rfl;exact hq _ hβ)) Fw.bs (fun k q hh=>⟨by simp at hh;rw[hw.size];omega,hbo k q hh⟩) (fun k q hh _=>by rw[hβ];exact hh)
       (fun k q hh _ j hj=>by
        rw[hβ] at hh;cases hh;exact⟨World.cell?_setCells_out bb _ _ w ⟨bb,j,none⟩ (fun _ _=>by show j<y+n*i.size\/y+n*i.size+_<=j;omega),hw.frz j⟩) ?_ ?_ (by intro j hj;simpa [Cb,Co,Ay] using hj)
      ·refine .inr ⟨bb,y,Av _ _ _,fun j p hj=>?_,fun _ j hj Ty=>?_,(fun q=>by cases q)⟩
       ·rw[Et];by_cases hjn:j<n*i.size
        ·rw[List.getElem?_append_left (by rw[List.length_take];omega),List.getElem?_take_of_lt hjn] at hj
         obtain⟨u,Mk,h5,ht⟩:=Kw j p hj;rw[Et] at Mk;refine⟨u,?_,h5,ht.step Fw (Ai2 h0 EZ hbo)⟩;rw[World.cell?_setCells_out bb _ _ w ⟨bb,y+j,none⟩ (fun _ _=>by show y+j<y+n*i.size\/y+n*i.size+_<=y+j;omega)]
         exact Mk
        ·rw[List.getElem?_append_right (by rw[List.length_take];omega),List.length_take,Nat.min_eq_left Be2] at hj
         obtain⟨u,Mk,ht⟩:=hs.rep.get hj
         have Ci:j-n*i.size<news.length:=by
          rcases Is (j-n*i.size) news.length with h|h
          ·exact h
          ·rw[List.getElem?_eq_none h] at Mk;cases Mk
         refine⟨u,?_,hs.one u (List.mem_of_getElem? Mk),ht.step Fw (Ai2 h0 EZ hbo)⟩;have:=World.cell?_setCells_in bb news (y+n*i.size) w Ey (j-n*i.size) Ci;rw[show y+j=y+n*i.size+(j-n*i.size) from by omega,this];rw[List.getElem?_eq_getElem Ci] at Mk;exact Mk
       ·rw[hw.bs] at Ty;rw[hw.frz];exact EP rfl j hj Ty
      ·exact .inr ⟨bb,y,y,cap,Av _ _ _,rfl,.inl rfl,U6,EN.step (hw.grow bb),by rw[hw.size];exact Atc⟩
     ·-- the old cells
      have hob:∀(j:Nat) p,(cc.take (n*i.size))[j]?=some p->∃v,w.cell? ⟨bb,y+j,none⟩=some v/\v.oneCell'=true/\Az w (Dv s.hp β Y) p v:=by
       intro j p hj;rw[List.getElem?_take] at hj;split at hj
       ·obtain⟨v,hv,h5,ht⟩:=Kw j p hj;rw[Et] at hv;exact⟨v,hv,h5,ht⟩
       ·cases hj
      have Ek:(cc.take (n*i.size)).length=n*i.size:=by rw[List.length_take];omega
      refine grow _ cap ((cc.take (n*i.size)).mapIdx fun j _=>(w.cell? ⟨bb,y+j,none⟩).getD undef) Vq ?_ ?_ (by simp only[List.length_mapIdx];exact Ek) (.inr ⟨_,rfl,by simp only[List.length_mapIdx];exact Ek,fun j v hj=>?_⟩) (by omega)
      ·refine Bw.of_at (by simp) fun j p v hp hv=>?_;obtain⟨u,Mk,_,ht⟩:=hob j p hp;rw[List.getElem?_mapIdx,hp,Option.map_some,Mk] at hv;simp at hv;subst hv;exact ht
      ·intro v hv;obtain⟨j,hj⟩:=List.mem_iff_getElem?.1 hv;rw[List.getElem?_mapIdx] at hj;cases hp:(cc.take (n*i.size))[j]? with
       |none=>rw[hp] at hj;cases hj
       |some p=>
        obtain⟨u,Mk,h5,_⟩:=hob j p hp;rw[hp,Option.map_some,Mk] at hj;simp at hj;subst hj;exact h5
      ·rw[List.getElem?_mapIdx] at hj;cases hp:(cc.take (n*i.size))[j]? with
       |none=>rw[hp] at hj;cases hj
       |some p=>
        obtain⟨u,Mk,h5,_⟩:=hob j p hp;rw[hp,Option.map_some,Mk] at hj;simp at hj;subst hj;rw[Et];exact Mk
   ·cases hk
  ·obtain⟨zz,n',c',hk,hp⟩:=Ha hk;obtain⟨hb,hk⟩:=Aq hk;simp only[Fe,FJ] at hb;obtain⟨⟨⟨⟨⟨hzz,hdN⟩,EZ⟩,Alv⟩,hby⟩,RE⟩:=hb;have hdN:d<N:=Nat.lt_of_succ_le (Sn hdN);have EZ:s.hp d=none:=by simpa using EZ
   have Aij:Io N (some d)=true:=by simp[Io,Nat.blt];omega
   rw[Kx] at Alv hk;rw[AM] at hby;have PI:news.length=m*i.size:=by omega
   rcases slice_form hp hbv with⟨Vq,_⟩|⟨_,_,_,UZ,_⟩|⟨_,_,_,UZ,_⟩
   ·refine⟨_,hk,fun next Q hn=>?_⟩;by_cases hm0:m=0
    ·subst hm0;have hr:=Qw (P:=P) (w:=w) (t:=t) (tx:=tx) (ty:=o.type) (ts:=ts) (ad:=none) hu hdx Af7 hi hs (List.eq_nil_of_length_eq_zero (by omega));rw[<-Vq] at hr;have Ahp:new=[]:=List.eq_nil_of_length_eq_zero (by omega);subst Ahp;refine run hr next Q (hn _ _ (Dt β d none) ?_);rw[Vq];refine h.stepR (d:=some d) (nw:=[(d,.ar false [])]) (β':=Dt β d none) Aij (by simp[Cn,EZ]) ⟨rfl,rfl,rfl,Cs.refl _ _,fun j hj=>Ao _ _ (by rintro rfl;exact hj EZ),?_,?_,?_,?_,?_,.inl ⟨Av _ _ _,rfl,rfl,none,rfl⟩,?_⟩
     ·intro j bx hm;simp at hm;rw[hm.2];trivial
     ·intro j bx hm;simp at hm;obtain⟨rfl,rfl⟩:=hm;exact .inl ⟨Av _ _ _,rfl⟩
     ·intro j bx k q hm hq;simp at hm;obtain⟨rfl,rfl⟩:=hm;rw[Av] at hq;cases hq
     ·intro j bx j' bx' k q q' hm Nz _ _;simp at hm Nz;rw[hm.1,Nz.1]
     ·intro j cells hm;simp at hm
     ·intro j hj;simp[Cb,Co,Ay] at hj;subst hj;exact .inr ⟨.ar false [],by simp⟩
    ·have hr:=append_grow_run (P:=P) (w:=w) (t:=t) (tx:=tx) (ty:=o.type) (ts:=ts) (ad:=none) (n:=0) (cap:=0) (olds:=[]) hu hdx Af7 hi hz hs (.inl ⟨rfl,rfl⟩) (by omega) (by rw[Ir];exact hby) (by omega)
     rw[<-Vq] at hr;refine run hr next Q (hn _ _ (Dt β d (some (w.heap.size,0))) ?_);have hge:0+m<=grownCap w (0+m) 0 e:=grownCap_ge w (0+m) 0 e
     have GT:Hc w (w.drew.alloc (.cells (([]:List Value).toArray++news.toArray++Builtin.zeroCells z.cells (grownCap w (0+m) 0 e-(0+m))) e)) (([]:List Value).toArray++news.toArray++Builtin.zeroCells z.cells (grownCap w (0+m) 0 e-(0+m))) e:=
      ⟨rfl,rfl,rfl,fun k hk=>Below.heap_alloc w.drew _ k hk,by show (w.heap.push _).size=_;simp,(0,0),by show (w.heap.push _)[w.heap.size]?=_;simp,.inl rfl⟩
     have Ajv:(([]:List Value).toArray++news.toArray++Builtin.zeroCells z.cells (grownCap w (0+m) 0 e-(0+m))).size=grownCap w (0+m) 0 e*i.size:=by
      simp only[Array.size_append,List.size_toArray,size_zeroCells,RZ,PI,YX,<-Nat.add_mul];rw[Ir (m*i.size),<-Nat.add_mul]
      congr 1
      omega
     refine h.stepR (d:=some d) (nw:=[(d,.ar false new)]) Aij (by simp[Cn,EZ]) (Wm GT EZ trivial ?_ (fun cells hx=>by cases hx) ?_ (by intro j hj;simp[Cb,Co,Ay] at hj;exact .inr hj))
     ·refine .inr ⟨w.heap.size,0,Av _ _ _,?_,fun _ j _ hj=>?_,(fun q=>by cases q)⟩
      ·exact WH (pre:=[]) GT (Anj EZ) trivial hs.rep (by simp) hs.one
      ·rw[GT.bsz] at hj;exact GT.frozen hj
     ·refine .inr ⟨w.heap.size,0,0,grownCap w (0+m) 0 e,Av _ _ _,by rw[Ir],.inl rfl,by omega,?_,by rw[GT.size];omega⟩
      exact⟨by rw[GT.bsz,Ajv];omega,.inr (Ou w.drew _ e)⟩
   ·rw[UZ] at hzz;cases hzz
   ·rw[UZ] at hzz;cases hzz
 ·cases hk
theorem Aj4(h:Cg N w0 X0 Y β s a w){c:Call}(ho:o.op=.call c)(hc:c.callee=.builtin .copy){b x:Operand}(Ge:c.args.toList=[b,x]){t tx:TypeId}{ts:List TypeId}(QE:c.argTypes.toList=t::tx::ts){K:St->Option R}(hk:Aag P N s o.dst t tx (Cu s.tm b) (Cu s.tm x) K=some r):
  ∃s',K s'=some r/\∀(next:Act->World->Prop) (Q:Exit->Act->World->Prop),(∀a' w' β',Cg N w0 X0 Y β' s' a' w'->next a' w')->o.wp P a w next Q:=by
 have SR:c.args = #[b,x]:=by
  have:c.args=([b,x]:List Operand).toArray:=by rw[<-Ge]
  exact this
 have Afx:c.argTypes=(t::tx::ts).toArray:=by rw[<-QE]
 have run:∀{v:Value} {w1:World},(Builtin.copy_ (t::tx::ts).toArray o.type #[a.eval b,a.eval x]).run P w=.ok v w1->∀(next:Act->World->Prop) (Q:Exit->Act->World->Prop),next (a.put o.dst v) w1->o.wp P a w next Q:=by
  intro v w1 hr next Q hn;unfold Oper.wp execOp;rw[ho];simp only[resolve,hc,invoke,builtin,Sem.run_bind,Sem.run_pure,Result.andThen_ok,SR,Afx];have:(#[b,x]:Array Operand).map a.eval = #[a.eval b,a.eval x]:=by simp
  rw[this,hr];exact hn
 have hbv:=D7 h b;unfold Aag at hk;split at hk
 ·rename_i e hu;obtain⟨hzi,hk⟩:=Aq hk;simp only[Fe] at hzi;obtain⟨V0,Aij⟩:=hzi;obtain⟨i,hi⟩:∃i,P.info? e=some i:=Option.isSome_iff_exists.1 V0;have Kx:Bp P e=i.size:=by unfold Bp;rw[hi];rfl
  have h1c:∀(m:Nat) (new:Ae),(match Cu s.tm b with
    |.view id es off n=>
     match s.hp id with
     |some (.ar false c)=>Ar (Nat.beq es (Bp P e)&&decide (off+n*es<=c.length)&&decide (new.length=m*es))
       (Aa (min m n) fun k=>Aa (B3 c (new.take (k*es)) off) fun c=>K ⟨Cc s.tm o.dst (.sc (.int .i64 k)),Dt s.hp id (some (.ar false c))⟩)
     |_=>none
    |_=>none)=some r->new.length=m*Bp P e:=by
   intro m new hk;split at hk
   ·split at hk
    ·obtain⟨hb,_⟩:=Aq hk;simp only[Fe,FJ] at hb;rw[<-Dz hb.1.1];exact hb.2
    ·cases hk
   ·cases hk
  obtain⟨_,m,new,news,hk,hs⟩:=WD h hk h1c;split at hk
  ·rename_i id es off n hb;rw[hb] at hbv;split at hk
   ·rename_i cc h0;obtain⟨hb,hk⟩:=Aq hk;simp only[Fe,FJ] at hb;obtain⟨⟨EG,Ys⟩,hnl⟩:=hb;have EG:=Dz EG;subst EG;rw[Kx] at hk hs Ys hnl hbv;have PI:news.length=m*i.size:=by rw[<-hs.rep.len];exact hnl
    have hkm:min m n*i.size<=m*i.size:=Nat.mul_le_mul_right _ (Nat.min_le_left _ _);have hkn:min m n*i.size<=n*i.size:=Nat.mul_le_mul_right _ (Nat.min_le_right _ _);have Ih:K ⟨Cc s.tm o.dst (.sc (.int .i64 ((min m n:Nat):Int))),Dt s.hp id (some (.ar false (B3 cc (new.take (min m n*i.size)) off)))⟩=some r:=hk;refine⟨_,Ih,fun next Q hn=>?_⟩
    have Ayw:∀{β':Bt} {Dl:Nat->Option Ca} {w':World},Cg N w0 X0 Y β' ⟨s.tm,Dl⟩ a w'->Cg N w0 X0 Y β' ⟨Cc s.tm o.dst (.sc (.int .i64 ((min m n:Nat):Int))),Dl⟩ (a.put o.dst (goInt ((min m n:Nat):Int))) w':=
     fun hh=>hh.put Aij (Az.sc _) (fun _ hx=>by cases hx)
    have Atr:new.take (min m n*i.size)=[]->Dt s.hp id (some (.ar false (B3 cc (new.take (min m n*i.size)) off)))=s.hp:=by
     intro e;rw[e];refine LD _ ?_;rw[h0];simp[B3]
    have nothing:min m n*i.size=0->∀(ad:Option Addr) (cap:Nat),a.eval b=.slice ad n cap->o.wp P a w next Q:=by
     intro e ad cap Vq;have hr:=Ahg (P:=P) (w:=w) (w1:=w) (t:=t) (ty:=o.type) (ts:=tx::ts) (ad:=ad) (n:=n) (cap:=cap) hu hi hs (by rw[e];cases ad<;>simp[storeCells])
     rw[<-Vq] at hr;refine run hr next Q (hn _ _ β (Ayw ?_));rw[Atr (by rw[e,List.take_zero])];exact h
    rcases hbv with⟨hβ,_,rfl,ad,Vq⟩|⟨bb,ob,y,cap,hβ,Vq,hy,Alr,EN,Atc⟩
    ·exact nothing (by simp) ad 0 Vq
    ·by_cases hm0:min m n*i.size=0
     ·exact nothing hm0 _ _ Vq
     rcases h.box id _ h0 with⟨Gj,_⟩|⟨b',o',Gj,Kw,EP,_⟩
     ·rw[hβ] at Gj;cases Gj
     rw[hβ] at Gj;simp at Gj;obtain⟨rfl,rfl⟩:=Gj;have LX:n≠0:=by rintro rfl;simp at hm0
     have hy:y=ob+off:=by rcases hy with hy|⟨hq,_⟩<;>first|exact absurd hq LX|exact hy
     subst hy;have Ci:(news.take (min m n*i.size)).length=min m n*i.size:=by rw[List.length_take,PI];omega
     have Ey:∀k,k<(news.take (min m n*i.size)).length->(w.cell? ⟨bb,ob+off+k,none⟩).isSome=true:=by
      intro k hk;obtain⟨v,hv,_⟩:=Kw (off+k) _ (List.getElem?_eq_getElem (by omega));rw[Et] at hv;rw[Jq,hv];rfl
     have XS:∀k,k<(news.take (min m n*i.size)).length->w.frozen? ⟨bb,ob+off+k,none⟩=false:=fun k hk=>by
      obtain⟨u,hu⟩:=Option.isSome_iff_exists.1 (Ey k hk);exact EP rfl _ (by omega) (LO hu)
     have h1:∀u∈news.take (min m n*i.size),u.oneCell'=true:=fun u hu=>hs.one u (List.mem_of_mem_take hu);have h3:=run_storeCells_cells (P:=P) bb (ob+off) (news.take (min m n*i.size)) 0 w (fun k hk=>by simpa using Ey k hk) (fun k hk=>by simpa using XS k hk) h1;have hr:=Ahg (P:=P) (w:=w) (t:=t) (ty:=o.type) (ts:=tx::ts) (ad:=some ⟨bb,ob+off,none⟩) (n:=n) (cap:=cap) hu hi hs h3;rw[<-Vq] at hr;simp only[ZS] at hr;refine run hr next Q (hn _ _ β (Ayw ?_))
     refine h.write h0 trivial trivial hβ (C6.setCells bb _ _ w) ?_ (fun cells hx=>by cases hx) (fun _ hx=>by cases hx) (fun j hj=>hj) (fun j hj=>by
      refine World.cell?_setCells_out bb _ _ w ⟨bb,j,none⟩ (fun _ _=>?_);have hj:¬(ob<=j):=hj;show j<ob+off\/ob+off+_<=j;omega)
     have Fw:Cs (Dv s.hp β Y) w (w.setCells bb (ob+off) (news.take (min m n*i.size))):=by
      have hw:=C6.setCells bb (news.take (min m n*i.size)) (ob+off) w;have hAb:Dv s.hp β Y bb:=.inl ⟨id,ob,by rw[h0];trivial,hβ⟩
      exact⟨by rw[hw.size];exact Cd _,fun k _ hk=>hw.other k (fun e=>hk (e ▸ hAb)),fun k _=>hw.grow k⟩
     have hll:(new.take (min m n*i.size)).length=min m n*i.size:=by rw[List.length_take,hnl];omega
     refine .inr ⟨bb,ob,hβ,fun j p hj=>?_,fun _ j hj Ty=>?_,(fun x=>by cases x)⟩
     ·rw[Et];rcases Yf (by omega) hj with⟨h3,h4,h5⟩|⟨h3,h5⟩
      ·have A8y:j-off<min m n*i.size:=by omega
       rw[List.getElem?_take_of_lt A8y] at h5;obtain⟨u,hu,hcu⟩:=hs.rep.get h5;have As9:j-off<(news.take (min m n*i.size)).length:=by omega
       refine⟨u,?_,hs.one u (List.mem_of_getElem? hu),hcu.step Fw (fun _ _ x=>x)⟩;have:=World.cell?_setCells_in bb (news.take (min m n*i.size)) (ob+off) w Ey (j-off) As9;rw[show ob+j=ob+off+(j-off) from by omega,this];rw[<-List.getElem?_eq_getElem As9,List.getElem?_take_of_lt A8y];exact hu
      ·obtain⟨v,hv,h6,OH⟩:=Kw j p h5;rw[Et] at hv;refine⟨v,?_,h6,OH.step Fw (fun _ _ x=>x)⟩;rw[World.cell?_setCells_out bb _ _ w ⟨bb,ob+j,none⟩ (fun _ _=>by show ob+j<ob+off\/ob+off+_<=ob+j;omega)]
       exact hv
     ·rw[(C6.setCells bb _ _ w).bs] at Ty;rw[(C6.setCells bb _ _ w).frz];exact EP rfl j hj Ty
   ·cases hk
  ·cases hk
 ·cases hk
theorem Ajk(h:Cg N w0 X0 Y β s a w){G:Vt}(Jo:OP P G w0 X0){C:Iz}{call:Ap}(C7:∀f args res,call f args=some res->C3 G P f args res){K:St->Option R}(hk:EC C P N call s o K=some r):
  ∃s',K s'=some r/\∀(next:Act->World->Prop) (Q:Exit->Act->World->Prop),(∀a' w' β',Cg N w0 X0 Y β' s' a' w'->next a' w')->o.wp P a w next Q:=by
 unfold EC at hk;split at hk
 ·rename_i t x y ho;obtain⟨hd,hk⟩:=Aq hk;exact Ae6 h ho (by simpa using hd) hk
 ·rename_i c ho;split at hk
  ·rename_i hc;obtain⟨d,hd,Eu⟩:=C9 hk;obtain⟨b,xs,WQ,Gb⟩:=Bo Eu;obtain⟨x,ys,hys,Pf⟩:=Bo Gb;obtain⟨HL,Uv⟩:=Es Pf;obtain⟨t,us,hus,XY⟩:=Bo Uv;obtain⟨tx,vs,Mm,hk6⟩:=Bo XY;rw[hys,HL] at WQ;rw[Mm] at hus;exact Acy h ho hc hd WQ hus hk6
  ·rename_i hc;obtain⟨b,xs,WQ,Gb⟩:=Bo hk;obtain⟨x,ys,hys,Pf⟩:=Bo Gb;obtain⟨HL,Uv⟩:=Es Pf;obtain⟨t,us,hus,XY⟩:=Bo Uv;obtain⟨tx,vs,Mm,hk6⟩:=Bo XY;rw[hys,HL] at WQ;rw[Mm] at hus;exact Aj4 h ho hc WQ hus hk6
  ·rename_i f hc;exact Aeo h Jo C7 ho hc hk
  ·cases hk
 ·cases hk
theorem UH(h:Cg N w0 X0 Y β s a w){G:Vt}(Jo:OP P G w0 X0){C:Iz}{call:Ap}(C7:∀f args res,call f args=some res->C3 G P f args res){K:St->Option R}(hk:Ahv C P N call o s K=some r):
  ∃s',K s'=some r/\∀(next:Act->World->Prop) (Q:Exit->Act->World->Prop),(∀a' w' β',Cg N w0 X0 Y β' s' a' w'->next a' w')->o.wp P a w next Q:=by
 unfold Ahv at hk;cases hm:Y2 C P o.op
 ·rw[hm] at hk;exact Akd h Jo C7 hk
 ·rw[hm] at hk;exact Ajk h Jo C7 hk
end
end
end
end Go.Proofs.YtohcncipgljdkaaGreatDoor.Pv
