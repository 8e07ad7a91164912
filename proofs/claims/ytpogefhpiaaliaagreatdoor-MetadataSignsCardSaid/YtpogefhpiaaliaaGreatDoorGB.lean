/-
  The proof of MetadataSigns, part 2.
-/
import Derived.Test.YtpogefhpiaaliaaGreatDoorGA
import Derived.Laws.Append
import Derived.IntWalk
import Derived.Laws.AppendOwn
import Derived.Laws.IdiomCopy
set_option linter.unusedSimpArgs false
set_option linter.unusedVariables false
namespace Go.Proofs.YtpogefhpiaaliaaGreatDoor.Pv
set_option maxRecDepth 1000000
noncomputable section
section
open Go.RowKit
def Jy(w:World)(A:Nat->Prop)(own:Option (Nat × Nat))(p:PV)(u:Value):Prop:=
 match p with
 |.own es n c=>(own=none/\n=0/\c=[]/\∃ad,u=.slice ad 0 0) \/
   ∃b o cap,own=some (b,o)/\u=.slice (some ⟨b,o,none⟩) n cap/\n<=cap/\o+cap*es<=bsz w b/\b<w.heap.size/\UQ w A ⟨b,o,none⟩ c/\∀j,o<=j->j<bsz w b->w.frozen? ⟨b,j,none⟩=false
 |p=>Az w A p u
def Hr(w:World)(A:Nat->Prop)(own:Bt):Nat->Ab->List Value->Prop
 |_,[],[]=>True
 |j,p::ps,u::us=>Jy w A (own j) p u/\Hr w A own (j+1) ps us
 |_,_,_=>False
def Au2(w:World)(A:Nat->Prop)(own:Bt)(j b o:Nat)(cs:Ab):Prop:=
 ∃vs,Hr w A own j cs vs/\(∀(k:Nat) v,vs[k]?=some v->w.cell? ⟨b,o+k,none⟩=some v)/\∀k,k<cs.length->w.frozen? ⟨b,o+k,none⟩=false
def Ats(w:World)(A:Nat->Prop)(own:Bt)(z j:Nat)(p:PV)(u:Value):Prop:=
 match p with
 |.agg cs=>∃vs,u=.agg ⟨vs⟩/\Hr w A own j cs vs
 |.pbox cs=>∃b o,own j=some (b,o)/\z<=b/\u=.pointer (some ⟨b,o,none⟩)/\Au2 w A own (j+1) b o cs
 |p=>Jy w A (own j) p u
def plc:PV->Nat
 |.pbox cs=>1+cs.length
 |p=>(cellsOf p).length
def Ah2(w:World)(A:Nat->Prop)(own:Bt)(z:Nat):Nat->Ab->List Value->Prop
 |_,[],[]=>True
 |j,p::ps,u::us=>Ats w A own z j p u/\Ah2 w A own z (j+plc p) ps us
 |_,_,_=>False
abbrev MR:=Nat->Nat->Option (Nat × Nat)
def BtX(bt:MR)(b:Nat):Prop:=∃i j o,bt i j=some (b,o)
def isA(p:PV):Prop:=CO p\/∃es n c,p=.own es n c
def IK(p:PV):Bool:=
 match p with
 |.pbox _=>true
 |.tup _=>true
 |_=>false
theorem Asm{p:PV}(h:isA p):IK p=false:=by
 rcases h with h|⟨_,_,_,rfl⟩
 ·cases p<;>first|rfl|exact h.elim
 ·rfl
def Adz(w:World)(A:Nat->Prop)(bt:Bt)(p:PV)(u:Value):Prop:=
 match p with
 |.pbox ps=>∃b o,bt 0=some (b,o)/\u=.pointer (some ⟨b,o,none⟩)/\(∀p∈ps,isA p)/\Au2 w A bt 1 b o ps
 |.tup ps=>∃es n c,ps=[.own es n c]/\Jy w A (bt 0) (.own es n c) u
 |.agg cs=>∃vs,u=.agg ⟨vs⟩/\(∀p∈cs,isA p)/\Hr w A bt 1 cs vs
 |p=>isA p/\Jy w A (bt 1) p u
def Qm(w:World)(A:Nat->Prop)(bt:MR):Nat->Ab->List Value->Prop
 |_,[],[]=>True
 |i,p::ps,u::us=>Adz w A (bt i) p u/\Qm w A bt (i+1) ps us
 |_,_,_=>False
def Ayp(bt:Bt)(p:PV)(b j:Nat):Prop:=
 (∃k o,bt (k+1)=some (b,o)/\o<=j)\/∃o ps,bt 0=some (b,o)/\o<=j/\((p=.pbox ps/\j<o+ps.length)\/p=.tup ps)
def WH(bt:MR)(args:Ab)(b j:Nat):Prop:=∃i p,args[i]?=some p/\Ayp (bt i) p b j
def CP(w:World)(A:Nat->Prop)(own:Bt)(bt:MR):Nat->Nat->Ab->List Ab->Prop
 |_,_,[],r=>r=[]
 |j,i,p::zs,r=>
  match p with
  |.pbox ps=>
   match r with
   |[]=>False
   |cs::r=>(∃b o,bt i 0=some (b,o)/\cs.length=ps.length/\Au2 w A own j b o cs)/\CP w A own bt (j+cs.length) (i+1) zs r
  |.tup _=>
   match r with
   |[]=>False
   |cs::r=>((bt i 0=none/\cs=[])\/∃b o,bt i 0=some (b,o)/\UQ w A ⟨b,o,none⟩ cs/\∀k,o<=k->k<bsz w b->w.frozen? ⟨b,k,none⟩=false)/\CP w A own bt j (i+1) zs r
  |_=>CP w A own bt j (i+1) zs r
def QE(bt:MR)(own:Bt)(Y:Nat->Prop)(b:Nat):Prop:=(∃j o,own j=some (b,o))\/(∃i o,bt i 0=some (b,o))\/Y b
def S4(vals:Ab):Nat:=(vals.map plc).sum
structure Out(w w':World)(Y:Nat->Prop)(bt:MR)(args:Ab)(own:Bt)(r:Dl)(vs:List Value):Prop where
 os:w'.os=w.os
 tape:w'.tape=w.tape
 output:w'.output=w.output
 ext:Cq (BtX bt) w w'
 rng:∀b j,b<w.heap.size->¬WH bt args b j->w'.cell? ⟨b,j,none⟩=w.cell? ⟨b,j,none⟩/\w'.frozen? ⟨b,j,none⟩=w.frozen? ⟨b,j,none⟩
 vals:Ah2 w' (QE bt own Y) own w.heap.size 0 r.vals vs
 outs:CP w' (QE bt own Y) own bt (S4 r.vals) 0 args r.outs
 fresh:∀j b o,own j=some (b,o)->b<w'.heap.size/\(b<w.heap.size->(∃i k o',bt i (k+1)=some (b,o'))/\∀x,o<=x->WH bt args b x)
 inj:∀j j' b o o',own j=some (b,o)->own j'=some (b,o')->j=j'
def Mf(us:List Value):Value:=match us with|[u]=>u|us=>.tuple ⟨us⟩
def Wo(w:World)(Y:Nat->Prop)(p:PV)(u:Value):Prop:=
 match p with
 |.agg cs=>∃vs,u=.agg ⟨vs⟩/\Bw (fun c v=>CO c/\Az w Y c v) cs vs
 |p=>CO p/\Az w Y p u
structure Ins(w:World)(Y:Nat->Prop)(bt:MR)(args:Ab)(us:List Value):Prop where
 Ylt:∀b,Y b->b<w.heap.size
 Yx:∀b,Y b->¬BtX bt b
 lt:∀b,BtX bt b->b<w.heap.size
 inj:∀i j i' j' b o o',bt i j=some (b,o)->bt i' j'=some (b,o')->i=i'/\j=j'
 l0:∀i q,bt i 0=some q->∃p,args[i]?=some p/\IK p=true
 args:Qm w (fun b=>BtX bt b\/Y b) bt 0 args us
structure Vs where
 bl:Nat->Prop
 ok:World->Prop
 stable:∀w w':World,(∀b,bl b->b<w.heap.size->w'.heap[b]?=w.heap[b]?)->ok w->ok w'
def C7(G:Vs)(P:Program)(f:FuncId)(args:Ab)(r:Dl):Prop:=
 (∃fn,P.funcs[f]?=some fn/\fn.body.isSome=true)/\∀(w:World)(Y:Nat->Prop)(bt:MR)(us:List Value),Ins w Y bt args us->G.ok w->(∀b,G.bl b->b<w.heap.size/\¬BtX bt b) ->
  Calls P f us.toArray w fun e w'=>∃vs own,e=.returned (Mf vs)/\Out w w' Y bt args own r vs
def Zp:MR:=fun _ _=>none
theorem Q8(b:Nat):¬BtX Zp b:=by rintro⟨_,_,_,h⟩;cases h
theorem O5{w:World}{A:Nat->Prop}{q:Option (Nat × Nat)}{p:PV}{u:Value}(hp:CO p)(h:Az w A p u):Jy w A q p u:=by cases p<;>first|exact h|exact hp.elim
theorem LJ{w:World}{A:Nat->Prop}{own:Bt}:∀{cs:Ab}{vs:List Value}{j:Nat},Bw (fun c v=>CO c/\Az w A c v) cs vs->Hr w A own j cs vs
 |[],[],_,_=>trivial
 |_::_,_::_,_,h=>⟨O5 h.1.1 h.1.2,LJ h.2⟩
 |[],_::_,_,h=>h.elim
 |_::_,[],_,h=>h.elim
theorem Akd{w:World}{A:Nat->Prop}{bt:Bt}{p:PV}{u:Value}(h:Wo w A p u):Adz w A bt p u:=by
 cases p with
 |agg cs=>
  obtain⟨vs,h1,h2⟩:=h;refine⟨vs,h1,fun p hp=>.inl ?_,LJ h2⟩;obtain⟨j,hj⟩:=List.mem_iff_getElem?.1 hp;obtain⟨v,_,hv⟩:=h2.get hj;exact hv.1
 |sc v=>exact⟨.inl trivial,h.2⟩
 |lst z es n c=>exact⟨.inl trivial,h.2⟩
 |_=>exact h.1.elim
theorem FJ{w:World}{A:Nat->Prop}{bt:MR}:∀{ps:Ab}{us:List Value}{i:Nat},Bw (Wo w A) ps us->Qm w A bt i ps us
 |[],[],_,_=>trivial
 |_::_,_::_,_,h=>⟨Akd h.1,FJ h.2⟩
 |[],_::_,_,h=>h.elim
 |_::_,[],_,h=>h.elim
theorem VW{w:World}{A A':Nat->Prop}(hA:∀b,b<w.heap.size->A' b->A b){p:PV}{v:Value}(h:Wo w A p v):Wo w A' p v:=by
 cases p with
 |agg cs=>
  obtain⟨vs,rfl,h2⟩:=h;exact⟨vs,rfl,h2.mono fun c v hc=>⟨hc.1,hc.2.step (Cq.refl _ _) hA⟩⟩
 |sc v=>exact⟨h.1,h.2.step (Cq.refl _ _) hA⟩
 |lst z es n c=>exact⟨h.1,h.2.step (Cq.refl _ _) hA⟩
 |_=>exact h.1.elim
theorem Ab8{w:World}{Y:Nat->Prop}{args:Ab}{us:List Value}(hY:∀b,Y b->b<w.heap.size)(h:Bw (Wo w Y) args us):Ins w Y Zp args us:=
 ⟨hY,fun b _=>Q8 b,fun b h=>absurd h (Q8 b),(fun _ _ _ _ _ _ _ h=>by cases h),(fun _ _ h=>by cases h),FJ (h.mono fun _ _ hx=>VW (fun b _ hb=>hb.elim (fun q=>absurd q (Q8 b)) id) hx)⟩
def NoNG(P:Program):Prop:=∀(f:FuncId) (fn:Func),P.funcs[f]?=some fn->(fn.name == "runtime.NumGoroutine")=false
structure MD(P:Program)(G:Vs)(w0:World)(X0:F6):Prop where
 ng:NoNG P
 fr:∀w,Fr X0 w0 w->G.ok w
 y:∀b,G.bl b->b<w0.heap.size/\¬X0.X b
section
variable {R:Type}{r:R}{P:Program}{N:Nat}{w0:World}{X0:F6}{Y:Nat->Prop}{β β':Bt}{s:St}{a:Act}{w w':World}{o:Oper}{A:Nat->Prop}
def QA(P:Program)(a:Act)(w:World)(o:Oper)(Y:Nat->Prop)(β:Bt)(s:St)(v:PV)(fz:B5)(nw:List (Nat × Bz)):Prop:=
 (∀id∈fz,∃f c,s.hp id=some (.ar f c))/\∀(next:Act->World->Prop)(Q:Exit->Act->World->Prop),
  (∀val w',(Cl s.hp nw=true->∃β',WC Y β ⟨s.tm,Ae s.hp fz⟩ w v nw val w' β')->next (a.put o.dst val) w')->o.wp P a w next Q
theorem QQ{v:PV}{fz:B5}{nw:List (Nat × Bz)}(h:Gj P a w o Y β s v fz nw):QA P a w o Y β s v fz nw:=by obtain⟨h1,val,w',hr,hs⟩:=h;refine⟨h1,fun next Q hn=>?_⟩;unfold Oper.wp;rw[hr];exact hn val w' hs
theorem Ang(h:B9 N w0 X0 Y β s a w){t:TypeId}{x:PV}{u:Value}(hx:Eo w (Dd s.hp β Y) β x u){K:PV->B5->Option R}(hk:Ago P (Od s.hp) t x K=some r):
  ∃p m,K p m=some r/\(∀id∈m,∃f cc,s.hp id=some (.ar f cc))/\(cellsOf p).length=(Lm P t).length/\∀fz:B5,(∀id∈m,id∈fz)->(∀id∈fz,∃f cc,s.hp id=some (.ar f cc))->Wo w (Dd (Ae s.hp fz) β Y) p u:=by
 unfold Ago at hk;cases Im:Cr P t
 ·rw[Im] at hk;obtain⟨cs,m,hk,hl,Pc,hT,hF,hm,hv⟩:=W0 h (show Sv _ _ _ _=some r from hk);obtain⟨c,t',rfl,hk⟩:=Bj hk;obtain⟨rfl,hk⟩:=El hk;have hcT:=hT c (by simp);refine⟨c,m,hk,hm,?_,fun fz h1 h2=>?_⟩
  ·have:cellsOf c=[c]:=by cases c<;>first|rfl|exact hcT.elim
   rw[this];exact hl
  have hF':=hF _ (Vi _)
  have hc:Ck w (Dd s.hp β Y) β x u:=by
   cases x<;>first|exact hx|exact hF'.elim
  have h3:=(hv fz h1 h2 [u] ⟨hc,trivial⟩).1.1;cases c<;>first|exact⟨trivial,h3⟩|exact hcT.elim
 ·rw[Im] at hk;obtain⟨ps,hp,hk⟩:=Kp (show D3 _ _=some r from hk);rw[hp] at hx;obtain⟨cs,m,hk,hl,Pc,hT,hF,hm,hv⟩:=W0 h hk;obtain⟨vs,Ee,h2⟩:=hx;refine⟨.agg cs,m,hk,hm,hl,fun fz h1 h3=>⟨vs,Ee,?_⟩⟩;exact (hv fz h1 h3 vs h2).1.mono_mem fun c hc v MS=>⟨hT c hc,MS⟩
theorem Ap0(h:B9 N w0 X0 Y β s a w){t:TypeId}{x:Operand}{K:PV->B5->Option R}(hk:Ago P (Od s.hp) t (Cv s.tm x) K=some r):
  ∃p m,K p m=some r/\(∀id∈m,∃f cc,s.hp id=some (.ar f cc))/\∀fz:B5,(∀id∈m,id∈fz)->(∀id∈fz,∃f cc,s.hp id=some (.ar f cc))->Wo w (Dd (Ae s.hp fz) β Y) p (a.eval x):=by
 obtain⟨p,m,h1,h2,_,h3⟩:=Ang h (D2 h x) hk;exact⟨p,m,h1,h2,h3⟩
theorem VD(h:B9 N w0 X0 Y β s a w):∀{ts:List TypeId}{xs:List Operand}{K:Ab->B5->Option R},QX P (Od s.hp) ts (xs.map (Cv s.tm)) K=some r ->
  ∃ps m,K ps m=some r/\(∀id∈m,∃f cc,s.hp id=some (.ar f cc))/\∀fz:B5,(∀id∈m,id∈fz)->(∀id∈fz,∃f cc,s.hp id=some (.ar f cc))->Bw (Wo w (Dd (Ae s.hp fz) β Y)) ps (xs.map a.eval)
 |[],[],K,hk=>⟨[],[],hk,by simp,fun _ _ _=>trivial⟩
 |[],_::_,K,hk=>by cases hk
 |_::_,[],K,hk=>by cases hk
 |t::ts,x::xs,K,hk=>by
  simp only[Rz] at hk;unfold QX at hk;obtain⟨p,m,hk,hm,hv⟩:=Ap0 h hk;obtain⟨ps,ms,hk,RB,U5⟩:=VD h hk;refine⟨p::ps,m++ms,hk,?_,fun fz h1 h2=>⟨hv fz (fun i hi=>h1 i (by simp[hi])) h2,U5 fz (fun i hi=>h1 i (by simp[hi])) h2⟩⟩;intro i hi;rcases Bu.1 hi with hi|hi
  ·exact hm i hi
  ·exact RB i hi
theorem Wo.weaken{A':Nat->Prop}(hA:∀b,b<w.heap.size->A' b->A b){p:PV}{v:Value}(h:Wo w A p v):Wo w A' p v:=by
 have one:CO p->CO p/\Az w A p v->Wo w A' p v:=by
  intro hp h;cases p<;>first|exact⟨h.1,h.2.step (Cq.refl _ _) hA⟩|exact hp.elim
 cases p with
 |agg cs=>
  obtain⟨vs,rfl,h2⟩:=h;exact⟨vs,rfl,h2.mono fun c v hc=>⟨hc.1,hc.2.step (Cq.refl _ _) hA⟩⟩
 |_=>exact one h.1 h
theorem Aoi{t:CT}{p:PV}{K:PV->Option R}(h:KH t p K=some r):
  ∃c,K c=some r/\CO c/\CO p/\(∀(w:World) (A:Nat->Prop) (β:Nat->Option (Nat × Nat)) (v:Value),Ck w A β p v->Az w A c v/\v.oneCell'=true)/\((∀es,t ≠ .sl es)->∃v,c=.sc v):=by
 obtain⟨c,hk,hT,SX,hv⟩:=Ro h;cases t with
 |sl es=>exact⟨c,hk,hT,SX,hv,fun Ge=>absurd rfl (Ge es)⟩
 |int k=>obtain⟨n,rfl,h2⟩:=Gh h;exact⟨_,h2,trivial,trivial,fun w A β v hv=>⟨hv,by have:=Az.val (w:=w) (A:=A) hv;subst this;rfl⟩,fun _=>⟨_,rfl⟩⟩
 |bool=>obtain⟨n,rfl,h2⟩:=Ex h;exact⟨_,h2,trivial,trivial,fun w A β v hv=>⟨hv,by have:=Az.val (w:=w) (A:=A) hv;subst this;rfl⟩,fun _=>⟨_,rfl⟩⟩
 |str=>obtain⟨n,rfl,h2⟩:=Ey h;exact⟨_,h2,trivial,trivial,fun w A β v hv=>⟨hv,by have:=Az.val (w:=w) (A:=A) hv;subst this;rfl⟩,fun _=>⟨_,rfl⟩⟩
 |any=>
  obtain⟨f,a,b,rfl,h2⟩:=YI (show fnK p (fun v=>K (.sc v))=some r from h);exact⟨_,h2,trivial,trivial,fun w A β v hv=>⟨hv,by have:=Az.val (w:=w) (A:=A) hv;subst this;rfl⟩,fun _=>⟨_,rfl⟩⟩
theorem AO(shr:Bool)(N:Nat):∀{ts:List CT}{ps:Ab}{id:Nat}{K:Ab->List (Nat × Bz)->Option R},Ww shr N id ts ps K=some r ->
  ∃cs bs,K cs bs=some r/\ps.length=ts.length/\(∀p∈ps,∀x,p ≠ .agg x/\p ≠ .pbox x)/\(∀c∈cs,TY c)/\((∀es,CT.sl es ∉ ts)->bs=[]/\∀c∈cs,∃v,c=.sc v) /\
   (∀i bx,(i,bx)∈bs->∃j es n c,ps[j]?=some (.own es n c)/\i=id+N*j/\bx=.ar false c) /\
   (∀c∈cs,∀i∈Aw c,∃bx,(i,bx)∈bs) /\
   ∀(w:World) (A:Nat->Prop) (own β':Bt) (j0:Nat) (us:List Value),(∀j,(∃bx,(id+N*j,bx)∈bs)->β' (id+N*j)=own (j0+j))->Hr w A own j0 ps us->Bw (Ck w A β') cs us
 |[],ps,id,K,hk=>by
  obtain⟨rfl,hk⟩:=El hk;refine⟨[],[],hk,rfl,by simp,by simp,by simp,by simp,by simp,fun w A own β' j0 us _ h=>?_⟩;cases us with
  |nil=>trivial
  |cons u us=>exact h.elim
 |t::ts,ps,id,K,hk=>by
  unfold Ww at hk;obtain⟨p,ps',KV,Eg⟩:=Bj hk;subst KV;clear hk
  have main:∃c b,(Ww shr N (id+N) ts ps' fun cs bs=>K (c::cs) (b++bs))=some r/\(∀x,p ≠ .agg x/\p ≠ .pbox x)/\TY c/\((∀es,t≠CT.sl es)->b=[]/\∃v,c=.sc v)/\(∀i bx,(i,bx)∈b->∃es n cc,p=.own es n cc/\i=id/\bx=.ar false cc)/\(∀i∈Aw c,∃bx,(i,bx)∈b) /\
    ∀(w:World) (A:Nat->Prop) (own:Option (Nat × Nat)) (β':Bt) (u:Value),((∃bx,(id,bx)∈b)->β' id=own)->Jy w A own p u->Ck w A β' c u:=by
   have tree:∀t',t'=t->(KH t' p fun c=>Ww shr N (id+N) ts ps' fun cs bs=>K (c::cs) ([]++bs))=some r->∃c b,(Ww shr N (id+N) ts ps' fun cs bs=>K (c::cs) (b++bs))=some r/\(∀x,p ≠ .agg x/\p ≠ .pbox x)/\TY c/\((∀es,t≠CT.sl es)->b=[]/\∃v,c=.sc v)/\(∀i bx,(i,bx)∈b->∃es n cc,p=.own es n cc/\i=id/\bx=.ar false cc)/\(∀i∈Aw c,∃bx,(i,bx)∈b) /\
     ∀(w:World) (A:Nat->Prop) (own:Option (Nat × Nat)) (β':Bt) (u:Value),((∃bx,(id,bx)∈b)->β' id=own)->Jy w A own p u->Ck w A β' c u:=by
    intro t' ht' hk;have hsc:=Aoi hk;obtain⟨c,hk,hT,SX,hv,hsc⟩:=hsc;refine⟨c,[],hk,fun x=>⟨FU SX x,by rintro rfl;exact SX⟩,Xg hT,fun Ge=>⟨rfl,hsc (fun es e=>Ge es (ht'.symm.trans e))⟩,by simp,by rw[Kr hT];simp,fun w A own β' u _ hc=>?_⟩
    have Xn:Ck w A β' p u:=by cases p<;>first|exact hc|exact SX.elim
    exact (Pu hT).2 (hv w A β' u Xn).1
   unfold Art at Eg;cases t with
   |sl es=>
    dsimp only at Eg;cases shr
    ·unfold Kn at Eg;simp only[cond_false] at Eg;split at Eg
     ·rename_i es' n c;cases hb:Nat.beq es' es
      ·rw[hb] at Eg;cases Eg
      ·rw[hb] at Eg;have:=D4 hb;subst this;refine⟨_,_,Eg,by simp,trivial,fun Ge=>absurd rfl (Ge _),?_,?_,fun w A own β' u hβ hc=>?_⟩
       ·intro i bx hm;simp at hm;exact⟨_,_,_,rfl,hm.1,hm.2⟩
       ·intro i hi;simp[Aw] at hi;subst hi;exact⟨.ar false c,by simp⟩
       ·have hβ':=hβ ⟨.ar false c,by simp⟩;clear hβ;rcases hc with⟨h1,rfl,rfl,h4⟩|⟨b,ob,cap,h1,h2,h3,h4,h5,_⟩
        ·exact .inl ⟨hβ'.trans h1,rfl,rfl,h4⟩
        ·exact .inr ⟨b,ob,ob,cap,hβ'.trans h1,h2,.inl rfl,h3,h4,h5⟩
     ·cases Eg
    ·obtain⟨c,hk,hT,SX,hv,_⟩:=Aoi (t:=.sl es) (p:=p) (K:=fun c=>Ww true N (id+N) ts ps' fun cs bs=>K (YR c::cs) ([]++bs)) Eg;have hU:CO (YR c):=by cases c<;>exact hT
     refine⟨YR c,[],hk,fun x=>⟨FU SX x,by rintro rfl;exact SX⟩,Xg hU,fun Ge=>absurd rfl (Ge _),by simp,by rw[Kr hU];simp,fun w A own β' u _ hc=>?_⟩
     have Xn:Ck w A β' p u:=by cases p<;>first|exact hc|exact SX.elim
     refine (Pu hU).2 ?_;have:=(hv w A β' u Xn).1;cases c with
     |lst z es n c=>exact Az.unz this
     |_=>exact this
   |int k=>exact tree (.int k) rfl Eg
   |bool=>exact tree .bool rfl Eg
   |str=>exact tree .str rfl Eg
   |any=>exact tree .any rfl Eg
  obtain⟨c,b,hk,hpa,hF,OM,Iv,Pi,MS⟩:=main;obtain⟨cs,bs,hk,hl,A55,hFs,Axy,A5l,A6k,A54⟩:=AO shr N hk;refine⟨c::cs,b++bs,hk,by simp[hl],?_,?_,?_,?_,?_,fun w A own β' j0 us hβ hoc=>?_⟩
  ·intro x hx;rcases Bx.1 hx with rfl|hx
   ·exact hpa
   ·exact A55 x hx
  ·intro x hx;rcases Bx.1 hx with rfl|hx
   ·exact hF
   ·exact hFs x hx
  ·intro Ge;obtain⟨h1,v,h2⟩:=OM (fun es e=>Ge es (by rw[e];simp))
   obtain⟨h3,h4⟩:=Axy (fun es hm=>Ge es (by simp[hm]));refine⟨by rw[h1,h3];rfl,fun x hx=>?_⟩
   rcases Bx.1 hx with rfl|hx
   ·exact⟨v,h2⟩
   ·exact h4 x hx
  ·intro i bx hm;rcases Bu.1 hm with hm|hm
   ·obtain⟨es,n,cc,rfl,rfl,rfl⟩:=Iv i bx hm;exact⟨0,es,n,cc,rfl,by simp,rfl⟩
   ·obtain⟨j,es,n,cc,h1,rfl,h3⟩:=A5l i bx hm;exact⟨j+1,es,n,cc,by simpa using h1,by rw[Nat.mul_add];omega,h3⟩
  ·intro x hx i hi;rcases Bx.1 hx with rfl|hx
   ·obtain⟨bx,hm⟩:=Pi i hi;exact⟨bx,by simp[hm]⟩
   ·obtain⟨bx,hm⟩:=A6k x hx i hi;exact⟨bx,by simp[hm]⟩
  ·cases us with
   |nil=>exact hoc.elim
   |cons u us=>
    refine⟨MS w A (own j0) β' u (fun ⟨bx,hm⟩=>by have:=hβ 0 ⟨bx,by simp[hm]⟩;simpa using this) hoc.1,?_⟩
    refine A54 w A own β' (j0+1) us (fun j ⟨bx,hm⟩=>?_) hoc.2;have e:id+N+N*j=id+N*(j+1):=by rw[Nat.mul_add];omega
    have:=hβ (j+1) ⟨bx,by rw[<-e];simp[hm]⟩
    rw[e,this]
    congr 1
    omega
end
open Go.RowKit
section
variable {R:Type}{r:R}{P:Program}{N:Nat}{w0:World}{X0:F6}{Y:Nat->Prop}{β β':Bt}{s:St}{a:Act}{w w':World}{o:Oper}{A:Nat->Prop}
theorem Hr.len:∀{j:Nat}{own:Bt}{ps:Ab}{us:List Value},Hr w A own j ps us->ps.length=us.length
 |_,_,[],[],_=>rfl
 |_,_,_::_,_::_,h=>by simp[Hr.len h.2]
 |_,_,[],_::_,h=>h.elim
 |_,_,_::_,[],h=>h.elim
theorem Hr.at_:∀{j:Nat}{own:Bt}{ps:Ab}{us:List Value},Hr w A own j ps us->∀{i:Nat} {p},ps[i]?=some p->∃u,us[i]?=some u/\Jy w A (own (j+i)) p u
 |_,_,[],[],_,i,p,h=>by simp at h
 |j,own,_::_,u::_,h,0,p,hp=>by simp at hp;subst hp;exact⟨u,rfl,h.1⟩
 |j,own,_::_,_::_,h,i+1,p,hp=>by
  simp at hp;obtain⟨u,hu,hc⟩:=Hr.at_ h.2 hp;exact⟨u,by simpa using hu,by rw[show j+(i+1)=j+1+i from by omega];exact hc⟩
 |_,_,[],_::_,h,_,_,_=>h.elim
 |_,_,_::_,[],h,_,_,_=>h.elim
def Aqs(N id:Nat)(β':Bt)(w:World)(A:Nat->Prop)(z n:Nat)(bs:List (Nat × Bz)):Prop:=
 ∀i bx,(i,bx)∈bs->(∃j,i=id+N*j/\j<n)/\Ct (some bx)/\Wh w A β' i bx/\∀cs,bx=.st cs->∀b o,β' i=some (b,o)->z<=b
def KJ(bs:List (Nat × Bz)):Prop:=∀i cells,(i,.st cells)∈bs->∀c∈cells,∀i'∈Aw c,∃bx,(i',bx)∈bs
theorem HM{q:Option (Nat × Nat)}{es n i:Nat}{c:Ab}{u:Value}(h:Jy w A q (.own es n c) u)(hβ:β' i=q):Wh w A β' i (.ar false c):=by
 rcases h with⟨h1,_,h2,_⟩|⟨b,o,cap,h1,_,_,_,_,h6,h7⟩
 ·exact .inl ⟨hβ.trans h1,h2⟩
 ·exact .inr ⟨b,o,hβ.trans h1,h6,fun _=>h7,(fun x=>by cases x)⟩
theorem JC{t:TypeId}(h:Nj P [t]=false):GB P t=none/\∀es,CT.sl es ∉ Lm P t:=by simp only[Nj,List.any_cons,List.any_nil,Bool.or_false,Bool.or_eq_false_iff] at h;refine⟨by simpa using h.1,fun es hm=>?_⟩;have:=List.any_eq_false.1 h.2 _ hm;simp at this
theorem Aql(shr:Bool)(N:Nat){t:TypeId}{p:PV}{id:Nat}{K:PV->List (Nat × Bz)->Option R}(hk:Alo P shr N id t p K=some r):
  ∃v bs,K v bs=some r/\plc p=Aep P t/\(∀x,v ≠ .tup x)/\(Nj P [t]=false->bs=[]/\∀c∈cellsOf v,∃u,c=.sc u)/\(∀i∈Cn v,∃bx,(i,bx)∈bs)/\KJ bs /\
   ∀(w:World) (A:Nat->Prop) (own β':Bt) (z j0:Nat) (u:Value),(∀j,(∃bx,(id+N*j,bx)∈bs)->β' (id+N*j)=own (j0+j))->Ats w A own z j0 p u->Iw w A β' v u/\Aqs N id β' w A z (plc p) bs:=by
 have boxes:∀{bs:List (Nat × Bz)} {ps:Ab} {id:Nat},(∀i bx,(i,bx)∈bs->∃j es n c,ps[j]?=some (.own es n c)/\i=id+N*j/\bx=.ar false c) ->
   KJ bs/\∀(w:World) (A:Nat->Prop) (own β':Bt) (j0:Nat) (us:List Value),(∀j,(∃bx,(id+N*j,bx)∈bs)->β' (id+N*j)=own (j0+j))->Hr w A own j0 ps us->∀z,Aqs N id β' w A z ps.length bs:=by
  intro bs ps id Iv;refine⟨fun i cells hm=>?_,fun w A own β' j0 us hβ ho z i bx hm=>?_⟩
  ·obtain⟨_,_,_,_,_,_,h3⟩:=Iv i _ hm;cases h3
  ·obtain⟨j,es,n,cc,h1,h2,h3⟩:=Iv i bx hm;obtain⟨u,hu,hoc⟩:=ho.at_ h1;subst h3;refine⟨⟨j,h2,?_⟩,trivial,HM hoc ?_,fun _ e=>by cases e⟩
   ·rcases K6 j ps.length with h|h
    ·exact h
    ·rw[List.getElem?_eq_none h] at h1;cases h1
   ·rw[h2];exact hβ j ⟨_,h2 ▸ hm⟩
 unfold Alo at hk;split at hk
 ·rename_i e he;obtain⟨ps,rfl,hk⟩:=WD hk;obtain⟨cs,bs,hk,hl,Atj,hF,OM,Iv,Pi,MS⟩:=AO shr N hk;obtain⟨hri,Oc⟩:=boxes Iv;refine⟨.ptr id 0,_,hk,by simp only[plc,Aep,he,hl],by simp,fun h=>?_,fun i hi=>?_,fun i cells hm c hc i' hi'=>?_,fun w A own β' z j0 u hβ ho=>?_⟩
  ·have:=(JC h).1;rw[he] at this;cases this
  ·simp only[Cn,Aw,Lo] at hi;subst hi;exact⟨_,GF⟩
  ·rcases Bx.1 hm with e|hm
   ·cases e;obtain⟨bx,hb⟩:=Pi c hc i' hi';exact⟨bx,Rw _ hb⟩
   ·obtain⟨bx,hb⟩:=hri i cells hm c hc i' hi';exact⟨bx,Rw _ hb⟩
  ·obtain⟨b,o,h1,hz,rfl,vs,h3,h4,h5⟩:=ho;have h0:=hβ 0 ⟨_,by rw[Nat.mul_zero,GD];exact GF⟩
   rw[Nat.mul_zero,GD,GD,h1] at h0;have Br:∀j,id+N+N*j=id+N*(j+1):=fun j=>by rw[Nat.mul_add];omega
   have hβ1:∀j,(∃bx,(id+N+N*j,bx)∈bs)->β' (id+N+N*j)=own (j0+1+j):=fun j ⟨bx,hm⟩=>by
    rw[Br,hβ (j+1) ⟨bx,by rw[<-Br];exact Rw _ hm⟩]
    congr 1;omega
   have hc2:=MS w A own β' (j0+1) vs hβ1 h3;have hb3:=Oc w A own β' (j0+1) vs hβ1 h3 z;have Hk:cs.length=ps.length:=by rw[hc2.len,<-h3.len]
   refine⟨⟨b,o,h0,by simp⟩,fun i bx hm=>?_⟩;rcases Bx.1 hm with e|hm
   ·cases e;refine⟨⟨0,by simp,by simp only[plc];omega⟩,trivial,⟨b,o,h0,fun k c hk=>?_,fun k hk=>h5 k (by omega)⟩,fun _ _ b' o' Jh=>?_⟩
    ·obtain⟨v,hv,hcr⟩:=hc2.get hk;exact⟨v,h4 k v hv,hcr⟩
    ·rw[h0] at Jh;cases Jh;exact hz
   ·obtain⟨⟨j,hj,hjn⟩,h6,h7⟩:=hb3 i bx hm;exact⟨⟨j+1,by rw[hj,Br],by simp only[plc];omega⟩,h6,h7⟩
 ·rename_i hnp;have NM:Aep P t=(Lm P t).length:=by simp only[Aep,hnp]
  cases Im:Cr P t
  ·rw[Im] at hk;obtain⟨cs,bs,hk,hl,Atj,hF,OM,Iv,Pi,MS⟩:=AO shr N (show Ww _ _ _ _ _ _=some r from hk);obtain⟨c,t',rfl,hk⟩:=Bj hk;obtain⟨rfl,hk⟩:=El hk;have hFc:=hF c (by simp);have A23:∀x,p ≠ .pbox x:=fun x=>(Atj p (by simp) x).2;have Ax2:∀x,c ≠ .agg x:=by rintro x rfl;exact hFc
   have A57:∀x,c ≠ .tup x:=by rintro x rfl;exact hFc
   have hr1:Cn c=Aw c:=by cases c<;>first|rfl|exact absurd rfl (Ax2 _)
   have hpa:∀x,p ≠ .agg x:=fun x=>(Atj p (by simp) x).1;obtain⟨hri,Oc⟩:=boxes Iv;have hcell:cellsOf p=[p]:=by cases p<;>first|rfl|exact absurd rfl (hpa _)
   have A3m:plc p=1:=by cases p<;>first|rfl|exact absurd rfl (hpa _)|exact absurd rfl (A23 _)
   have hcc:cellsOf c=[c]:=by cases c<;>first|rfl|exact absurd rfl (Ax2 _)
   refine⟨c,bs,hk,by rw[A3m,NM];exact hl,A57,fun Ge=>by rw[hcc];exact OM (JC Ge).2,fun i hi=>Pi c (by simp) i (by rw[<-hr1];exact hi),hri,fun w A own β' z j0 u hβ ho=>?_⟩
   have ho':Jy w A (own j0) p u:=by cases p<;>first|exact ho|exact absurd rfl (hpa _)|exact absurd rfl (A23 _)
   exact⟨(Xj Ax2).2 (MS w A own β' j0 [u] hβ ⟨ho',trivial⟩).1,by rw[A3m];exact Oc w A own β' j0 [u] hβ ⟨ho',trivial⟩ z⟩
  ·rw[Im] at hk;obtain⟨ps,rfl,hk⟩:=Kp (show D3 _ _=some r from hk);obtain⟨cs,bs,hk,hl,Atj,hF,OM,Iv,Pi,MS⟩:=AO shr N hk;obtain⟨hri,Oc⟩:=boxes Iv;refine⟨.agg cs,bs,hk,by rw[NM];exact hl,by simp,fun Ge=>OM (JC Ge).2,fun i hi=>?_,hri,fun w A own β' z j0 u hβ ho=>?_⟩
   ·obtain⟨c,hc,hi⟩:=List.mem_flatMap.1 (show i∈cs.flatMap Aw from hi);exact Pi c hc i hi
   ·obtain⟨vs,rfl,ho⟩:=ho;exact⟨⟨vs,rfl,MS w A own β' j0 vs hβ ho⟩,Oc w A own β' j0 vs hβ ho z⟩
theorem JY(shr:Bool)(N:Nat):∀{ts:List TypeId}{ps:Ab}{id:Nat}{K:Ab->List (Nat × Bz)->Option R},LX P shr N id ts ps K=some r ->
  ∃vs bs,K vs bs=some r/\vs.length=ps.length/\(∀v∈vs,∀x,v ≠ .tup x)/\(Nj P ts=false->bs=[]/\∀v∈vs,∀c∈cellsOf v,∃u,c=.sc u)/\(∀v∈vs,∀i∈Cn v,∃bx,(i,bx)∈bs)/\KJ bs /\
   ∀(w:World) (A:Nat->Prop) (own β':Bt) (z j0:Nat) (us:List Value),(∀j,(∃bx,(id+N*j,bx)∈bs)->β' (id+N*j)=own (j0+j))->Ah2 w A own z j0 ps us->Bw (Iw w A β') vs us/\Aqs N id β' w A z (S4 ps) bs
 |[],ps,id,K,hk=>by
  obtain⟨rfl,hk⟩:=El hk;refine⟨[],[],hk,rfl,by simp,by simp,by simp,(by intro i cells hm;cases hm),fun w A own β' z j0 us _ h=>?_⟩
  cases us with
  |nil=>exact⟨trivial,by intro i bx hm;cases hm⟩
  |cons u us=>exact h.elim
 |t::ts,ps,id,K,hk=>by
  unfold LX at hk;obtain⟨p,ps',KV,Eg⟩:=Bj hk;subst KV;clear hk;obtain⟨v,bs,hk,hl,hnt,OM,hr1,hri,hv⟩:=Aql shr N Eg;obtain⟨vs,bs',hk,hvl,A7x,Axy,hrs,A5x,U5⟩:=JY shr N hk;refine⟨v::vs,bs++bs',hk,by simp[hvl],?_,?_,?_,?_,fun w A own β' z j0 us hβ ho=>?_⟩
  ·intro x hx;rcases Bx.1 hx with rfl|hx
   ·exact hnt
   ·exact A7x x hx
  ·intro Ge;simp only[Nj,List.any_cons,Bool.or_eq_false_iff] at Ge;obtain⟨h1,h2⟩:=OM (by simp only[Nj,List.any_cons,List.any_nil,Bool.or_false,Bool.or_eq_false_iff];exact Ge.1)
   obtain⟨h3,h4⟩:=Axy (by simp only[Nj];exact Ge.2)
   refine⟨by rw[h1,h3];rfl,fun x hx=>?_⟩
   rcases Bx.1 hx with rfl|hx
   ·exact h2
   ·exact h4 x hx
  ·intro x hx i hi;rcases Bx.1 hx with rfl|hx
   ·obtain⟨bx,hm⟩:=hr1 i hi;exact⟨bx,by simp[hm]⟩
   ·obtain⟨bx,hm⟩:=hrs x hx i hi;exact⟨bx,by simp[hm]⟩
  ·intro i cells hm c hc i' hi';rcases Bu.1 hm with hm|hm
   ·obtain⟨bx,hb⟩:=hri i cells hm c hc i' hi';exact⟨bx,by simp[hb]⟩
   ·obtain⟨bx,hb⟩:=A5x i cells hm c hc i' hi';exact⟨bx,by simp[hb]⟩
  ·cases us with
   |nil=>exact ho.elim
   |cons u us=>
    obtain⟨h1,Iv⟩:=hv w A own β' z j0 u (fun j ⟨bx,hm⟩=>hβ j ⟨bx,by simp[hm]⟩) ho.1;have Br:∀j,id+N*Aep P t+N*j=id+N*(Aep P t+j):=fun j=>by rw[Nat.mul_add];omega
    obtain⟨h2,Pi⟩:=U5 w A own β' z (j0+plc p) us (fun j ⟨bx,hm⟩=>by rw[Br,hβ _ ⟨bx,by rw[<-Br];simp[hm]⟩,hl];congr 1;omega) ho.2
    refine⟨⟨h1,h2⟩,fun i bx hm=>?_⟩;rcases Bu.1 hm with hm|hm
    ·obtain⟨⟨j,hj,hjn⟩,h4,h5⟩:=Iv i bx hm;exact⟨⟨j,hj,by simp only[S4,Rz,List.sum_cons];omega⟩,h4,h5⟩
    ·obtain⟨⟨j,hj,hjn⟩,h4,h5⟩:=Pi i bx hm;refine⟨⟨_,by rw[hj,Br],?_⟩,h4,h5⟩;simp only[S4,Rz,List.sum_cons] at hjn ⊢;omega
def NG(N d:Nat)(bs:List (Nat × Bz))(own β:Bt):Bt:=fun i=>if (bs.any fun q=>Nat.beq q.1 i)=true then own ((i-d) / N) else β i
theorem YX{bs:List (Nat × Bz)}{i:Nat}:(bs.any fun q=>Nat.beq q.1 i)=true↔∃bx,(i,bx)∈bs:=by
 rw[List.any_eq_true];constructor
 ·rintro⟨⟨j,bx⟩,hm,e⟩
  have:=D4 e;subst this;exact⟨bx,hm⟩
 ·rintro⟨bx,hm⟩
  exact⟨_,hm,Of i⟩
theorem Aif{N d j:Nat}(hN:0<N){bs:List (Nat × Bz)}{own β:Bt}(h:∃bx,(d+N*j,bx)∈bs):NG N d bs own β (d+N*j)=own j:=by unfold NG;rw[B7 (YX.2 h),Nat.add_sub_cancel_left,Nat.mul_div_cancel_left _ hN]
theorem GN{c:Call}{f:FuncId}(ho:o.op=.call c)(hc:c.callee=.value (.func f))(Jz:NoNG P){fn:Func}(hf:P.funcs[f]?=some fn)(hb:fn.body.isSome=true):
  (execOp a.eval o).run P w=.ok (.enter f (c.args.map a.eval)) w:=by
 unfold execOp;rw[ho]
 have hn:¬fn.body=none:=by
  intro h;rw[h] at hb;cases hb
 have Ge:¬fn.name = "runtime.NumGoroutine" :=by simpa using Jz f fn hf
 simp[resolve,hc,Act.eval,Deferred.ofValue,invoke,callFunc,hf,Ge,hn]
theorem Al9{c:Call}{t:Nat}{f:FuncId}(ho:o.op=.call c)(hc:c.callee=.value (.tmp t))(ht:a.eval (.tmp t)=.func (.func f) #[] #[])(Jz:NoNG P){fn:Func}(hf:P.funcs[f]?=some fn)(hb:fn.body.isSome=true):
  (execOp a.eval o).run P w=.ok (.enter f (c.args.map a.eval)) w:=by
 unfold execOp;rw[ho]
 have hn:¬fn.body=none:=by
  intro h;rw[h] at hb;cases hb
 have Ge:¬fn.name = "runtime.NumGoroutine" :=by simpa using Jz f fn hf
 simp[resolve,hc,ht,Deferred.ofValue,invoke,callFunc,hf,Ge,hn]
theorem MW{A':Nat->Prop}(k:Bool):∀{xs:List Operand}{ps:Ab},Bw (Wo w A') ps (xs.map a.eval)->Bw (Wo w A') (Nq k xs ps) (xs.map a.eval)
 |[],[],h=>h
 |[],_::_,h=>h
 |_::_,[],h=>h
 |x::xs,p::ps,h=>by
  simp only[Rz] at h ⊢;refine⟨?_,MW k h.2⟩;split
  ·exact⟨trivial,Az.lnil _ _⟩
  ·exact h.1
theorem PU(h : B9 N w0 X0 Y β s a w){G : Vs}(Jz : MD P G w0 X0){C : Jm}{call : Bi}(C6 : ∀ f args res, call f args = some res -> C7 G P f args res){c : Call}{f : FuncId}(Dv : ∀ {fn : Func}, P.funcs[f]? = some fn -> fn.body.isSome = true -> (execOp a.eval o).run P w = .ok (.enter f (c.args.map a.eval)) w){K : PV -> B5 -> List (Nat × Bz) -> Option R}(hk : (QX P (Od s.hp) (PH P f c) (c.args.toList.map (Cv s.tm)) fun vs m =>
          Bk (call f (Nq (C.kz f) c.args.toList vs)) fun rv ro => Aq ro (At (Nat.blt 0 N) <| LX P (C.shr f) N (o.dst.getD 0) (S9 P o.type) rv fun ws bs =>
            At (bif Us P o.type then !Nat.beq ws.length 1 else Nat.beq ws.length 1) <| K (Tb ws (Us P o.type)) (bif Nj P (S9 P o.type) then m else []) bs)) = some r): ∃ v fz nw, K v fz nw = some r /\ QA P a w o Y β s v fz nw := by
  obtain⟨ps, m, hk, hm, Fh⟩ := VD h hk
  replace Fh := fun fz h1 h2 => MW (a := a) (C.kz f) (Fh fz h1 h2)
  generalize Nq (C.kz f) c.args.toList ps = ps at hk Fh
  obtain⟨rv, ro, Y2, hk⟩ := XJ hk
  obtain⟨rfl, hk⟩ := El hk
  obtain⟨hN, hk⟩ := Au hk
  have hN : 0 < N := Nat.lt_of_succ_le (Wu hN)
  obtain⟨ws, bs, hk, hwl, hnt, OM, hrs, hri, hws⟩ := JY (C.shr f) N hk
  obtain⟨Wx, hk⟩ := Au hk
  obtain⟨⟨fn, hfn, hfb⟩, VL⟩ := C6 f ps _ Y2
  obtain⟨fz, JF, hfm⟩ : ∃ fz : B5, fz = (bif Nj P (S9 P o.type) then m else []) /\ ∀ id ∈ fz, ∃ f c, s.hp id = some (.ar f c) := by
    refine⟨_, rfl, fun id Br => ?_⟩
    cases hh : Nj P (S9 P o.type) <;> rw[hh] at Br
    · cases Br
    · exact hm id Br
  rw[<- JF] at hk
  refine⟨_, _, _, hk, hfm, fun next Q hn => ?_⟩
  have hf := h.freeze hfm
  have hYc : ∃ Yc : Nat -> Prop, (∀ b, Yc b -> b < w.heap.size) /\ Bw (Wo w Yc) ps (c.args.toList.map a.eval) /\ ((∀ b, Dd (Ae s.hp fz) β Y b -> Yc b) \/ Nj P (S9 P o.type) = false) := by
    have Xu := Fh m (fun _ hi => hi) hm
    cases hh : Nj P (S9 P o.type)
    · exact⟨fun _ => False, fun _ x => x.elim, Xu.mono fun _ _ hx => hx.weaken (fun _ _ x => x.elim), .inr rfl⟩
    · rw[hh] at JF
      have JF : fz = m := JF
      subst JF
      refine⟨Dd (Ae s.hp fz) β Y, fun b hb => ?_, Xu, .inl fun _ x => x⟩
      rcases hb with⟨id, ob, hl, hβ⟩ | hY
      · exact hf.blt id b ob (Dj hl) hβ
      · exact Io (h.Ylt b hY) h.fr.step.size
  obtain⟨Yc, Azz, hYargs, hYA⟩ := hYc
  unfold Oper.wp
  rw[Dv hfn hfb]
  show Calls P f _ w _
  have hca : c.args.map a.eval = (c.args.toList.map a.eval).toArray := by rw[<- List.map_toArray, Array.toArray_toList]
  rw[hca]
  refine (VL w Yc Zp _ (Ab8 Azz hYargs) (Jz.fr w h.fr) (fun b x => ⟨Io (Jz.y b x).1 h.fr.step.size, Q8 b⟩)).mono ?_
  rintro e w' ⟨vs, own, rfl, ZZ⟩
  refine hn (Mf vs) w' fun Vj => ⟨NG N (o.dst.getD 0) bs own β, ?_⟩
  obtain⟨ha1, ha2⟩ := Ca Vj
  have Arc : ∀ i bx, (i, bx) ∈ bs -> Ae s.hp fz i = none := fun i bx hm => Fp.2 (ha1 i bx hm)
  obtain⟨hg1, hg2⟩ := F9 (hp := Ae s.hp fz) ha2
  have hold : ∀ i, Ae s.hp fz i ≠ none -> NG N (o.dst.getD 0) bs own β i = β i := by
    intro i hi
    unfold NG
    rw[Ba]
    intro hx
    obtain⟨bx, hm⟩ := YX.1 hx
    exact hi (Arc i bx hm)
  obtain⟨U5, hba⟩ := hws w' _ own (NG N (o.dst.getD 0) bs own β) w.heap.size 0 vs (fun j hj => by rw[Aif hN hj, Cu]) ZZ.vals
  have EK : ∀ i bx, (i, bx) ∈ bs -> ∃ j, i = o.dst.getD 0 + N * j /\ NG N (o.dst.getD 0) bs own β i = own j := by
    intro i bx hm
    obtain⟨⟨j, rfl, _⟩, _, _⟩ := hba i bx hm
    exact⟨j, rfl, Aif hN ⟨bx, hm⟩⟩
  have hAA : Nj P (S9 P o.type) = false \/ ∀ b, Dd (A5 (Ae s.hp fz) bs) (NG N (o.dst.getD 0) bs own β) Y b -> QE Zp own Yc b := by
    rcases hYA with hYA | hYA
    · refine .inr fun b hb => ?_
      rcases hb with⟨i, ob, hl, hβ⟩ | hY
      · by_cases hi : ∃ bx, (i, bx) ∈ bs
        · obtain⟨bx, hm⟩ := hi
          obtain⟨j, _, h3⟩ := EK i bx hm
          rw[h3] at hβ
          exact .inl ⟨j, ob, hβ⟩
        · rw[hg2 i (fun bx hm => hi ⟨bx, hm⟩)] at hl
          rw[hold i (Dj hl)] at hβ
          exact .inr (.inr (hYA b (.inl ⟨i, ob, hl, hβ⟩)))
      · exact .inr (.inr (hYA b (.inr hY)))
    · exact .inl hYA
  have hval : Eo w' (Dd (A5 (Ae s.hp fz) bs) (NG N (o.dst.getD 0) bs own β) Y) (NG N (o.dst.getD 0) bs own β) (Tb ws (Us P o.type)) (Mf vs) := by
    have Xu : Bw (Iw w' (Dd (A5 (Ae s.hp fz) bs) (NG N (o.dst.getD 0) bs own β) Y) (NG N (o.dst.getD 0) bs own β)) ws vs := by
      rcases hAA with hno | hAA
      · obtain⟨_, hsc⟩ := OM hno
        refine U5.mono_mem fun v hv u hvu => ?_
        have hsc := hsc v hv
        cases v with
        | agg cs =>
          obtain⟨xs, rfl, SZ⟩ := hvu
          refine⟨xs, rfl, SZ.mono_mem fun cc hcc x hx => ?_⟩
          obtain⟨y, rfl⟩ := hsc cc hcc
          have := Az.val (w := w') hx
          subst this
          exact Az.sc _
        | sc y =>
          have := Az.val (w := w') hvu
          subst this
          exact Az.sc _
        | lst z es n cc => obtain⟨y, hy⟩ := hsc _ (Vi _); cases hy
        | own es n cc => obtain⟨y, hy⟩ := hsc _ (Vi _); cases hy
        | view i es n cc => obtain⟨y, hy⟩ := hsc _ (Vi _); cases hy
        | ptr i cc => obtain⟨y, hy⟩ := hsc _ (Vi _); cases hy
        | iptr i cc => obtain⟨y, hy⟩ := hsc _ (Vi _); cases hy
        | pbox cc => obtain⟨y, hy⟩ := hsc _ (Vi _); cases hy
        | tup cc => obtain⟨y, hy⟩ := hsc _ (Vi _); cases hy
        | top => obtain⟨y, hy⟩ := hsc _ (Vi _); cases hy
        | ub => obtain⟨y, hy⟩ := hsc _ (Vi _); cases hy
      · exact U5.mono fun v u hvu => hvu.step (Cq.refl _ _) (fun b _ => hAA b) (fun _ _ => rfl)
    have Hk := Xu.len
    cases hT : Us P o.type
    · rw[hT] at Wx
      have h1 : ws.length = 1 := D4 Wx
      match ws, vs, h1, Hk with
      | [v], [u], _, _ =>
        exact (Rk (hnt v (by simp))).2 Xu.1
    · rw[hT] at Wx
      have h1 : ¬ ws.length = 1 := by
        intro e
        rw[e] at Wx
        cases Wx
      have hr : Mf vs = .tuple ⟨vs⟩ := by
        unfold Mf
        split
        · simp at Hk; omega
        · rfl
      rw[hr]
      exact⟨vs, rfl, Xu⟩
  refine⟨ZZ.os, ZZ.tape, ZZ.output, ZZ.ext.weaken (fun b _ hb => Q8 b hb), hold, ?_, ?_, ?_, ?_, ?_, hval, ?_⟩
  · intro i bx hm
    exact (hba i bx hm).2.1
  · intro i bx hm
    rcases hAA with hno | hAA
    · rw[(OM hno).1] at hm; cases hm
    · exact (hba i bx hm).2.2.1.step' hAA
  · intro i bx b ob hm hβ
    obtain⟨j, _, h3⟩ := EK i bx hm
    rw[h3] at hβ
    obtain⟨h4, h5⟩ := ZZ.fresh j b ob hβ
    refine⟨?_, h4⟩
    rcases K6 b w.heap.size with h | h
    · obtain⟨⟨_, _, _, h6⟩, _⟩ := h5 h
      cases h6
    · exact h
  · intro i bx i' bx' b ob ob' hm Rr hβ hβ'
    obtain⟨j, h1, h3⟩ := EK i bx hm
    obtain⟨j', WR, h3'⟩ := EK i' bx' Rr
    rw[h3] at hβ
    rw[h3'] at hβ'
    rw[h1, WR, ZZ.inj j j' b ob ob' hβ hβ']
  · intro i cells hm c hc i' hi'
    exact .inr (hri i cells hm c hc i' hi')
  · intro i hi
    right
    cases hT : Us P o.type
    · rw[hT] at Wx hi
      have h1 : ws.length = 1 := D4 Wx
      match ws, h1 with
      | [v], _ =>
        refine hrs v (by simp) i ?_
        have : Cc v = Cn v := by
          have hn := hnt v (by simp)
          cases v <;> first | rfl | exact absurd rfl (hn _)
        rw[<- this]
        exact hi
    · rw[hT] at hi
      obtain⟨v, hv, hi⟩ := List.mem_flatMap.1 (show i ∈ ws.flatMap Cn from hi)
      exact hrs v hv i hi
end
open Go.RowKit
section
variable {R:Type}{r:R}{P:Program}{N:Nat}{w0:World}{X0:F6}{Y:Nat->Prop}{β β':Bt}{s:St}{a:Act}{w w':World}{o:Oper}{A:Nat->Prop}
theorem B9.move(h:B9 N w0 X0 Y β s a w){id d:Nat}{c cells:Ab}{bo:Option (Nat × Nat)}{v:PV}{val:Value}(h0:s.hp id=some (.ar false c))(hd:s.hp d=none)(hdN:d<N)(hos:w'.os=w.os)(htp:w'.tape=w.tape)(ZZ:w'.output=w.output)(Ab4:w.heap.size<=w'.heap.size)(Pq:∀k,k<w.heap.size->(∀x,β id≠some (k,x))->w'.heap[k]?=w.heap[k]?)(OX:∀k,k<w.heap.size->bsz w k<=bsz w' k)(hbo:∀k x,bo=some (k,x)->k<w'.heap.size/\(w.heap.size<=k\/∃y,β id=some (k,y)))(hbr:∀k x,bo=some (k,x)->k<w.heap.size->β id=some (k,x))(hO:∀k y,β id=some (k,y)->k<w.heap.size->∀j,j<y->w'.cell? ⟨k,j,none⟩=w.cell? ⟨k,j,none⟩/\w'.frozen? ⟨k,j,none⟩=w.frozen? ⟨k,j,none⟩)(Oc:Wh w' (Dd (Db (Db s.hp id (some .mv)) d (some (.ar false cells))) (Db β d bo) Y) (Db β d bo) d (.ar false cells))(hv:Eo w' (Dd (Db (Db s.hp id (some .mv)) d (some (.ar false cells))) (Db β d bo) Y) (Db β d bo) v val)(hr:∀i∈Cc v,i=d):
  B9 N w0 X0 Y (Db β d bo) ⟨Db s.tm d v,Db (Db s.hp id (some .mv)) d (some (.ar false cells))⟩ (a.put (some d) val) w':=by
 have Ge:id≠d:=by rintro rfl;rw[h0] at hd;cases hd
 have Ahc:∀i,i≠id->i≠d->Db (Db s.hp id (some Bz.mv)) d (some (.ar false cells)) i=s.hp i:=fun i h1 h2=>by rw[Ar _ _ h2,Ar _ _ h1]
 have At0:Db (Db s.hp id (some Bz.mv)) d (some (.ar false cells)) id=some .mv:=by rw[Ar _ _ Ge,Ax]
 have hgd:Db (Db s.hp id (some Bz.mv)) d (some (.ar false cells)) d=some (.ar false cells):=Ax _ _ _
 have Ld:∀i,s.hp i≠none->Db (Db s.hp id (some Bz.mv)) d (some (.ar false cells)) i≠none:=by
  intro i hi;by_cases e:i=id
  ·subst e;rw[At0];simp
  ·by_cases e':i=d
   ·subst e';rw[hgd];simp
   ·rw[Ahc i e e'];exact hi
 have hβo:∀i,s.hp i≠none->Db β d bo i=β i:=fun i hi=>Ar _ _ (by rintro rfl;exact hi hd)
 have Aci:Ct (s.hp id):=by rw[h0];trivial
 have Jk:∀i,Ct (Db (Db s.hp id (some Bz.mv)) d (some (.ar false cells)) i)->i=d\/(i≠id/\i≠d/\Ct (s.hp i)):=by
  intro i hi;by_cases e':i=d
  ·exact .inl e'
  ·by_cases e:i=id
   ·subst e;rw[At0] at hi;exact hi.elim
   ·rw[Ahc i e e'] at hi;exact .inr ⟨e,e',hi⟩
 have hX:∀k,k<w.heap.size->DS (Db (Db s.hp id (some .mv)) d (some (.ar false cells))) (Db β d bo) k->DS s.hp β k:=by
  rintro k hk ⟨i,x,hl,hβ⟩
  rcases Jk i hl with rfl|⟨e,e',hl⟩
  ·rw[Ax] at hβ;rcases (hbo k x hβ).2 with Jj|⟨y,hy⟩
   ·omega
   ·exact⟨id,y,Aci,hy⟩
  ·rw[Ar _ _ e'] at hβ;exact⟨i,x,hl,hβ⟩
 have hAo:∀k,k<w.heap.size->Dd (Db (Db s.hp id (some .mv)) d (some (.ar false cells))) (Db β d bo) Y k->Dd s.hp β Y k:=fun k hk hx=>hx.imp (hX k hk) (fun y=>y);have Gn:Cq (Dd s.hp β Y) w w':=⟨Ab4,fun k hk hn=>Pq k hk fun x hx=>hn (.inl ⟨id,x,Aci,hx⟩),OX⟩
 have Anq:∀i k x,i≠id->i≠d->(∃b,s.hp i=some b/\b ≠ .mv)->β i=some (k,x)->k<w.heap.size/\w'.heap[k]?=w.heap[k]?:=by
  rintro i k x e e' ⟨b,hb,hmv⟩ hβ
  have hk:=h.blt i k x (by rw[hb];simp) hβ
  refine⟨hk,Pq k hk fun y hy=>?_⟩;have Al8:=h.box i b hb;cases b with
  |st cc=>exact e (h.inj i id k x y (by rw[hb];trivial) Aci hβ hy)
  |ar fz cc=>
   cases fz with
   |false=>exact e (h.inj i id k x y (by rw[hb];trivial) Aci hβ hy)
   |true=>
    rcases Al8 with⟨h1,_⟩|⟨k',x',h1,_,_,h4⟩
    ·rw[hβ] at h1;cases h1
    ·rw[hβ] at h1;simp at h1;obtain⟨rfl,rfl⟩:=h1
     exact h4 rfl (.inl ⟨id,y,Aci,hy⟩)
  |mv=>exact absurd rfl hmv
 refine⟨by rw[Kj];exact h.dfr,by rw[Hy];exact h.tsz,?_,?_,?_,?_,?_,?_,?_,?_,?_,?_,?_,?_,h.Ylt,?_⟩
 ·intro i hi;show Db s.tm d v i=_;rw[Ar _ _ (by omega)];exact h.tmo i hi
 ·refine Un (d:=some d) (Q:=fun _ p u=>Eo w' (Dd (Db (Db s.hp id (some .mv)) d (some (.ar false cells))) (Db β d bo) Y) (Db β d bo) p u) h.tsz (by simp[I2,Nat.blt];omega) (fun i hi=>?_) (fun _=>hv)
  exact (h.tms i hi).step Gn hAo fun j hj=>hβo j (h.wfT i hi j hj)
 ·intro i bi hb;simp only at hb;by_cases e':i=d
  ·subst e';rw[hgd] at hb;cases hb;exact Oc
  ·by_cases e:i=id
   ·subst e;rw[At0] at hb;cases hb;trivial
   ·rw[Ahc i e e'] at hb;have hβi:=hβo i (by rw[hb];simp)
    have NK:=h.box i bi hb;cases bi with
    |st cc=>
     obtain⟨k,x,h1,h2,h3⟩:=NK;obtain⟨hk,FM⟩:=Anq i k x e e' ⟨_,hb,by simp⟩ h1;refine⟨k,x,by rw[hβi];exact h1,fun j p hj=>?_,fun j hj=>?_⟩
     ·obtain⟨u,hu,hc⟩:=h2 j p hj;exact⟨u,by rw[World.cell?_of_block (w:=w) FM];exact hu,hc.step Gn hAo fun q hq=>hβo q (h.wfB i cc hb p (List.mem_of_getElem? hj) q hq)⟩
     ·rw[World.frozen?_of_block (w:=w) FM];exact h3 j hj
    |ar fz cc=>
     rcases NK with⟨h1,h2⟩|⟨k,x,h1,h2,h3,h4⟩
     ·exact .inl ⟨by rw[hβi];exact h1,h2⟩
     ·obtain⟨hk,FM⟩:=Anq i k x e e' ⟨_,hb,by simp⟩ h1;refine .inr ⟨k,x,by rw[hβi];exact h1,fun j p hj=>?_,fun ef j hj Y1=>?_,fun ef hx=>h4 ef (hAo k hk hx)⟩
      ·obtain⟨u,hu,h5,hc⟩:=h2 j p hj;exact⟨u,by rw[World.cell?_of_block (w:=w) (by rw[Hu];exact FM)];exact hu,h5,hc.step Gn hAo⟩
      ·rw[World.frozen?_of_block (w:=w) FM];refine h3 ef j hj ?_;unfold bsz at Y1 ⊢;rw[FM] at Y1;exact Y1
    |mv=>trivial
 ·intro i i' k x y hl Pc hb Jh;simp only at hl Pc
  have key:∀j z,j≠id->j≠d->Ct (s.hp j)->β j=some (k,z)->bo=some (k,y)\/bo=some (k,x)->False:=by
   intro j z e e' hlj hβj hbk;have hk:=h.blt j k z (Dj hlj) hβj;have:∃t,bo=some (k,t):=by rcases hbk with q|q<;>exact⟨_,q⟩
   obtain⟨t,ht⟩:=this;rcases (hbo k t ht).2 with Jj|⟨q,hq⟩
   ·omega
   ·exact e (h.inj j id k z q hlj Aci hβj hq)
  rcases Jk i hl with rfl|⟨e,e',W7⟩
  ·rcases Jk i' Pc with rfl|⟨e2,e2',Axq⟩
   ·rfl
   ·rw[Ax] at hb;rw[Ar _ _ e2'] at Jh;exact (key i' y e2 e2' Axq Jh (.inr hb)).elim
  ·rcases Jk i' Pc with rfl|⟨e2,e2',Axq⟩
   ·rw[Ax] at Jh;rw[Ar _ _ e'] at hb;exact (key i x e e' W7 hb (.inl Jh)).elim
   ·rw[Ar _ _ e'] at hb;rw[Ar _ _ e2'] at Jh;exact h.inj i i' k x y W7 Axq hb Jh
 ·intro i k x hi hb;simp only at hi;by_cases e':i=d
  ·subst e';rw[Ax] at hb;exact (hbo k x hb).1
  ·rw[Ar _ _ e'] at hb
   have hi':s.hp i≠none:=by
    by_cases e:i=id
    ·subst e;rw[h0];simp
    ·rw[Ahc i e e'] at hi;exact hi
   exact Io (h.blt i k x hi' hb) Ab4
 ·have:=Un (d:=some d) (Q:=fun _ p _=>∀j∈Cc p,Db (Db s.hp id (some Bz.mv)) d (some (.ar false cells)) j≠none) (val:=val) (v:=v) h.tsz (by simp[I2,Nat.blt];omega) (fun i hi j hj=>Ld j (h.wfT i hi j hj)) (fun _ j hj=>by
   rw[hr j hj,hgd];simp)
  exact this
 ·intro i cc hc p hp j hj;simp only at hc;by_cases e':i=d
  ·subst e';rw[hgd] at hc;cases hc
  ·by_cases e:i=id
   ·subst e;rw[At0] at hc;cases hc
   ·rw[Ahc i e e'] at hc;exact Ld j (h.wfB i cc hc p hp j hj)
 ·rintro k ⟨i,x,hl,hβ⟩
  rcases Jk i hl with rfl|⟨e,e',hl⟩
  ·rw[Ax] at hβ;rcases (hbo k x hβ).2 with Jj|⟨y,hy⟩
   ·exact .inr (Nat.le_trans h.fr.step.size Jj)
   ·exact h.ownd k ⟨id,y,Aci,hy⟩
  ·rw[Ar _ _ e'] at hβ;exact h.ownd k ⟨i,x,hl,hβ⟩
 ·intro i bi k x NK hli hβ Ch j hj;simp only at NK;rcases Jk i (by rw[NK];exact hli) with rfl|⟨e,e',hl⟩
  ·rw[Ax] at hβ;rw[hgd] at NK;cases NK;have:=hbr k x hβ (Io Ch h.fr.step.size);exact h.rngB id (.ar false c) k x h0 trivial this Ch j hj
  ·rw[Ahc i e e'] at NK;rw[Ar _ _ e'] at hβ;exact h.rngB i bi k x NK hli hβ Ch j hj
 ·intro i hi;exact⟨Ld _ (h.pin i hi).1,by rw[hβo _ (h.pin i hi).1];exact (h.pin i hi).2⟩
 ·intro i cc k x NK hβ Ch;simp only at NK;rcases Jk i (by rw[NK];trivial) with rfl|⟨e,e',hl⟩
  ·rw[hgd] at NK;cases NK
  ·rw[Ahc i e e'] at NK;rw[Ar _ _ e'] at hβ;exact h.stp i cc k x NK hβ Ch
 ·intro k hY hx;exact h.Yx k hY (hX k (Io (h.Ylt k hY) h.fr.step.size) hx)
 ·refine⟨hos.trans h.fr.os,htp.trans h.fr.tape,ZZ.trans h.fr.output,⟨Nat.le_trans h.fr.step.size Ab4,fun k hk hnk=>?_,fun k hk=>Nat.le_trans (h.fr.step.bs k hk) (OX k (Io hk h.fr.step.size))⟩,fun k j hk hL=>?_⟩
  ·rw[Pq k (Io hk h.fr.step.size) ?_]
   ·exact h.fr.step.keep k hk hnk
   ·intro x hx;rcases h.ownd k ⟨id,x,Aci,hx⟩ with hq|hq
    ·exact hnk hq
    ·omega
  ·have hkw:=Io hk h.fr.step.size
   have Yl:w'.cell? ⟨k,j,none⟩=w.cell? ⟨k,j,none⟩/\w'.frozen? ⟨k,j,none⟩=w.frozen? ⟨k,j,none⟩:=by
    by_cases e:∃y,β id=some (k,y)
    ·obtain⟨y,hy⟩:=e;refine hO k y hy hkw j ?_;rcases K6 j y with q|q
     ·exact q
     ·exact absurd (h.rngB id (.ar false c) k y h0 trivial hy hk j q) hL
    ·have FM:=Pq k hkw (fun x hx=>e ⟨x,hx⟩);exact⟨World.cell?_of_block (w:=w) FM,World.frozen?_of_block (w:=w) FM⟩
   rw[Yl.1,Yl.2];exact h.fr.rng k j hk hL
end
open Go.RowKit
section
variable {R:Type}{r:R}{P:Program}{N:Nat}{w0:World}{X0:F6}{Y:Nat->Prop}{β β':Bt}{s:St}{a:Act}{w w':World}{o:Oper}{A:Nat->Prop}
structure Src(P:Program)(w:World)(A:Nat->Prop)(size:Nat)(xv:Value)(m:Nat)(new:Ab)(news:List Value):Prop where
 len:∀w':World,(Builtin.lenOf xv).run P w'=.ok m w'
 cells:∀w':World,(∀b,b<w.heap.size->w'.heap[b]?=w.heap[b]?)->(Builtin.firstCells size m xv).run P w'=.ok news.toArray w'
 part:∀k,k<=m->(Builtin.firstCells size k xv).run P w=.ok (news.take (k*size)).toArray w
 one:∀u∈news,u.oneCell'=true
 rep:Bw (Az w A) new news
theorem QT(h:B9 N w0 X0 Y β s a w){e tx:TypeId}{x:Operand}{K:Nat->Ab->Option R}(hk:Agy P s (Bm P e) tx (Cv s.tm x) K=some r)(h1c:∀m new,K m new=some r->new.length=m*Bm P e):
  (∃d,P.underlying tx=some d/\(∀k,d ≠ .int k))/\∃m new news,K m new=some r/\Src P w (Dd s.hp β Y) (Bm P e) (a.eval x) m new news:=by
 unfold Agy Agp at hk;split at hk
 ·rename_i hu;obtain⟨MO,hk⟩:=Au hk;have MO:=D4 MO;obtain⟨b,hx,hk⟩:=Ey hk;have Ee:=De h hx;refine⟨⟨_,hu,by simp⟩,b.size,Ej b,b.data.toList.map (fun y=>Value.int .u8 y.toNat),hk,?_,?_,?_,?_,?_⟩
  ·intro w';rw[Ee];rfl
  ·intro w' _;rw[Ee]
   have hx:b.data.extract 0 b.size=b.data:=by
    have:b.size=b.data.size:=rfl;rw[this,Array.extract_size]
   have hd:(b.extract 0 b.size).data=b.data:=by
    rw[ByteArray.extract_zero_size]
   simp only[Builtin.firstCells,hd];rw[<-Array.toList_map,Array.toArray_toList];rfl
  ·intro k Jj;rw[Ee,MO,Ec];have hd:(b.extract 0 k).data=b.data.extract 0 k:=ByteArray.data_extract
   have e1:(b.data.extract 0 k).map (fun y=>Value.int .u8 y.toNat)=((b.data.toList.map fun y=>Value.int .u8 y.toNat).take k).toArray:=by
    apply Array.toList_inj.1;simp[List.map_take]
   simp only[Builtin.firstCells,hd];rw[e1];rfl
  ·intro u hu;simp at hu;obtain⟨y,_,rfl⟩:=hu;rfl
  ·unfold Ej;generalize b.data.toList=l
   induction l with
   |nil=>trivial
   |cons y l ih=>exact⟨Az.sc _,ih⟩
 ·rename_i e' hu;refine⟨⟨_,hu,by simp⟩,?_⟩;obtain⟨m,new,hk,hc⟩:=Aeu h hk;have Hk:=h1c m new hk;rcases hc with⟨⟨ad,Ee⟩,rfl,rfl⟩|⟨ad,cap,Ee,hn,Ch,hrd⟩
  ·have f0:∀w':World,(Builtin.firstCells (Bm P e) 0 (.slice ad 0 0)).run P w'=.ok #[] w':=fun w'=>by
    cases ad with
    |none=>rfl
    |some p=>exact run_firstCells_some (P:=P) w' (Bm P e) 0 p 0 0 [] (by simp) (fun j v hj=>by simp at hj)
   exact⟨0,[],[],hk,fun w'=>by rw[Ee];rfl,fun w' _=>by rw[Ee];exact f0 w',fun k Jj=>by rw[Ee,Nat.le_zero.1 Jj,List.take_nil];exact f0 w,by simp,trivial⟩
  ·refine⟨m,new,new.mapIdx (fun j _=>(w.cell? (ad.add j)).getD undef),hk,fun w'=>by rw[Ee];rfl,fun w' hw=>?_,fun k Jj=>?_,?_,?_⟩
   ·rw[Ee];refine run_firstCells_some (P:=P) w' (Bm P e) m ad m cap _ (by simp[Hk]) fun j v hj=>?_;rw[List.getElem?_mapIdx] at hj;cases hc:new[j]? with
    |none=>rw[hc] at hj;cases hj
    |some c=>
     rw[hc] at hj;simp at hj;obtain⟨u,hu,_⟩:=hrd j c hc;rw[hu] at hj;simp at hj;subst hj;have Ch:ad.block<w.heap.size:=by rcases Ch with rfl|Ch<;>first|exact Ch|simp at hc
     rw[World.cell?_of_block (w:=w) (by rw[Hu];exact hw _ Ch)]
     exact hu
   ·rw[Ee];have hkm:k*Bm P e<=m*Bm P e:=Nat.mul_le_mul_right _ Jj;refine run_firstCells_some (P:=P) w (Bm P e) k ad m cap _ (by rw[List.length_take,List.length_mapIdx,Hk];omega) fun j v hj=>?_
    rw[List.getElem?_take] at hj;split at hj
    ·rw[List.getElem?_mapIdx] at hj;cases hc:new[j]? with
     |none=>rw[hc] at hj;cases hj
     |some c=>
      rw[hc] at hj;simp at hj;obtain⟨u,hu,_⟩:=hrd j c hc;rw[hu] at hj;simp at hj;subst hj;exact hu
    ·cases hj
   ·intro u hu;obtain⟨j,hj⟩:=List.mem_iff_getElem?.1 hu;rw[List.getElem?_mapIdx] at hj;cases hc:new[j]? with
    |none=>rw[hc] at hj;cases hj
    |some c=>
     rw[hc] at hj;simp at hj;obtain⟨v,hv,h2,ht⟩:=hrd j c hc;rw[hv] at hj;simp at hj;subst hj;exact h2
   ·refine Bw.of_at (by simp) fun j c v hc hj=>?_;rw[List.getElem?_mapIdx,hc] at hj;simp at hj;obtain⟨u,hu,_,ht⟩:=hrd j c hc;rw[hu] at hj;simp at hj;subst hj;exact ht
 ·cases hk
theorem QI{e:TypeId}(h:YO P e=true):∃i z,P.info? e=some i/\i.zero=some z/\z.cells.size=i.size/\Bm P e=i.size:=by
 unfold YO at h;split at h
 ·rename_i i hi;split at h
  ·rename_i z hz;exact⟨i,z,hi,hz,D4 h,by simp[Bm,hi]⟩
  ·cases h
 ·cases h
theorem NO{es n cap:Nat}{ad:Option Addr}{olds:List Value}(h:(ad=none/\olds=[])\/∃p,ad=some p/\olds.length=n*es/\∀(j:Nat) v,olds[j]?=some v->w.cell? (p.add j)=some v):
  (Builtin.firstCells es n (.slice ad n cap)).run P w=.ok olds.toArray w:=by
 rcases h with⟨rfl,rfl⟩|⟨p,rfl,hl,hc⟩
 ·rfl
 ·exact run_firstCells_some (P:=P) w es n p n cap olds hl hc
theorem Qv{t tx ty e:TypeId}{i:TypeInfo}{z:Value}{d:TypeDesc}{ts:List TypeId}(ht:P.underlying t=some (.slice e))(htx:P.underlying tx=some d)(hd:∀k,d ≠ .int k)(hi:P.info? e=some i)(hz:i.zero=some z){ad:Option Addr}{n cap m:Nat}{xv:Value}{olds news:List Value}{A:Nat->Prop}{new:Ab}(hs:Src P w A i.size xv m new news)(hold:(ad=none/\olds=[])\/∃p,ad=some p/\olds.length=n*i.size/\∀(j:Nat) v,olds[j]?=some v->w.cell? (p.add j)=some v)(hg:cap<n+m)(hb:(n+m)*i.bytes<=1099511627776)(h63:n+m<=1099511627776):
  (Builtin.append_ (t::tx::ts).toArray ty #[.slice ad n cap,xv]).run P w =
   .ok (.slice (some ⟨w.heap.size,0,none⟩) (n+m) (grownCap w (n+m) cap e)) (w.drew.alloc (.cells (olds.toArray++news.toArray++Builtin.zeroCells z.cells (grownCap w (n+m) cap e-(n+m))) e)):=by
 have h1:=hs.len w;have h2:(Builtin.firstCells i.size m xv).run P w.drew=.ok news.toArray w.drew:=hs.cells w.drew (fun _ _=>rfl)
 have h3:(Builtin.firstCells i.size n (.slice ad n cap)).run P w.drew=.ok olds.toArray w.drew:=NO (w:=w.drew) (by
  rcases hold with hh|⟨p,hp,hl,hc⟩
  ·exact .inl hh
  ·exact .inr ⟨p,hp,hl,fun j v hj=>hc j v hj⟩)
 have Aj0:=growslice_fits (need:=n+m) (old:=cap) (bytes:=i.bytes) hg (by omega);have hn:¬(n+m<=cap):=by omega
 have As2:¬(9223372036854775807<((n:Int)+(m:Int))):=by omega
 have Au5:¬(281474976710656<Builtin.nextslicecap (n+m) cap*i.bytes):=by omega
 have QO:(match d with | .int _=>true|_=>false)=false:=by cases d<;>first|rfl|exact absurd rfl (hd _)
 simp[Builtin.append_,run_underlying ht,run_underlying htx,QO,sizeOf,typeInfo,zeroValue,hi,hz,h1,hn,As2,Au5,Question.forced,h2,h3,newRow,grownCap]
 congr 2
 apply Array.ext';simp[IU]
theorem NU{t tx ty e:TypeId}{i:TypeInfo}{d:TypeDesc}{ts:List TypeId}(ht:P.underlying t=some (.slice e))(htx:P.underlying tx=some d)(hd:∀k,d ≠ .int k)(hi:P.info? e=some i){b ob n cap m:Nat}{xv:Value}{news:List Value}{A:Nat->Prop}{new:Ab}(hs:Src P w A i.size xv m new news)(hl:news.length=m*i.size)(hcell:∀k,k<news.length->(w.cell? ⟨b,ob+n*i.size+k,none⟩).isSome=true)(UT:∀k,k<news.length->w.frozen? ⟨b,ob+n*i.size+k,none⟩=false)(hg:n+m<=cap):
  (Builtin.append_ (t::tx::ts).toArray ty #[.slice (some ⟨b,ob,none⟩) n cap,xv]).run P w=.ok (.slice (some ⟨b,ob,none⟩) (n+m) cap) (w.setCells b (ob+n*i.size) news):=by
 have h1:=hs.len w;have h2:(Builtin.firstCells i.size m xv).run P w=.ok news.toArray w:=hs.cells w (fun _ _=>rfl);have h3:=run_storeCells_cells (P:=P) b (ob+n*i.size) news 0 w (fun k hk=>by simpa using hcell k hk) (fun k hk=>by simpa using UT k hk) hs.one;have QO:(match d with | .int _=>true|_=>false)=false:=by cases d<;>first|rfl|exact absurd rfl (hd _)
 have _:=hl;simp[Builtin.append_,run_underlying ht,run_underlying htx,QO,sizeOf,typeInfo,hi,h1,hg,h2,Fe];rw[h3];simp
theorem Acq{t ty e:TypeId}{i:TypeInfo}{ts:List TypeId}(ht:P.underlying t=some (.slice e))(hi:P.info? e=some i){ad:Option Addr}{n cap m:Nat}{xv:Value}{news:List Value}{A:Nat->Prop}{new:Ab}(hs:Src P w A i.size xv m new news){w1:World}(Gn:(match ad with|some p=>storeCells p (news.take (min m n*i.size)) 0|none=>pure ()).run P w=.ok () w1):
  (Builtin.copy_ (t::ts).toArray ty #[.slice ad n cap,xv]).run P w=.ok (goInt ((min m n:Nat):Int)) w1:=by
 have h1:=hs.len w;have h2:=hs.part (min m n) (Nat.min_le_left _ _);have e:Nat.min m n=min m n:=rfl;generalize min m n=k at *
 cases ad with
 |none=>
  simp only at Gn;simp[Builtin.copy_,run_underlying ht,sizeOf,typeInfo,hi,h1,h2,e]
  simpa using Gn
 |some p=>
  simp only at Gn;simp[Builtin.copy_,run_underlying ht,sizeOf,typeInfo,hi,h1,h2,e,Gn]
theorem JU{t tx ty e:TypeId}{i:TypeInfo}{k kx:IntKind}{ts:List TypeId}(ht:P.underlying t=some (.slice e))(htx:P.underlying tx=some (.int k))(hi:P.info? e=some i):
  (Builtin.append_ (t::tx::ts).toArray ty #[.slice none 0 0,.int kx 0]).run P w=.ok (.slice none 0 0) w:=by
 have hw:IntKind.i64.wrap 0=0:=by decide
 simp[Builtin.append_,run_underlying ht,run_underlying htx,sizeOf,typeInfo,hi,asInt,asIntOf,hw]
theorem NI{t tx ty e:TypeId}{i:TypeInfo}{z:Value}{k kx:IntKind}{ts:List TypeId}(ht:P.underlying t=some (.slice e))(htx:P.underlying tx=some (.int k))(hi:P.info? e=some i)(hz:i.zero=some z){n:Int}(h0:0<n)(hb:n.toNat*i.bytes<=1099511627776)(hn:n<=1099511627776):
  (Builtin.append_ (t::tx::ts).toArray ty #[.slice none 0 0,.int kx n]).run P w =
   .ok (.slice (some ⟨w.heap.size,0,none⟩) n.toNat (grownCap w n.toNat 0 e)) (w.drew.alloc (.cells ((if n.toNat*i.size=0 then #[] else Builtin.zeroCells z.cells n.toNat)++Builtin.zeroCells z.cells (grownCap w n.toNat 0 e-n.toNat)) e)):=by
 have hw:IntKind.i64.wrap n=n:=IntWalk.i64_in n (by omega);have Aj0:=growslice_fits (need:=n.toNat) (old:=0) (bytes:=i.bytes) (by omega) (by omega);have OH:¬n<0:=by omega
 have Ld:¬(281474976710656<n*(i.bytes:Int)):=by
  have:n*(i.bytes:Int)=((n.toNat*i.bytes:Nat):Int):=by
   rw[Int.natCast_mul,Int.toNat_of_nonneg (by omega)]
  omega
 have hz0:¬(n.toNat=0):=by omega
 have As2:¬(9223372036854775807<(n.toNat:Int)):=by omega
 have Au5:¬(281474976710656<Builtin.nextslicecap n.toNat 0*i.bytes):=by omega
 have CL:¬n<=0:=by omega
 have hmx:¬(9223372036854775807<max n 0):=by omega
 by_cases hs:n.toNat*i.size=0
 ·simp[Builtin.append_,run_underlying ht,run_underlying htx,sizeOf,typeInfo,zeroValue,hi,hz,asInt,asIntOf,hw,OH,Ld,hz0,CL,hmx,As2,Au5,Question.forced,hs,newRow,grownCap,Builtin.firstCells]
 ·simp[Builtin.append_,run_underlying ht,run_underlying htx,sizeOf,typeInfo,zeroValue,hi,hz,asInt,asIntOf,hw,OH,Ld,hz0,CL,hmx,As2,Au5,Question.forced,hs,newRow,grownCap,Builtin.firstCells]
theorem Qr{t tx ty e:TypeId}{i:TypeInfo}{d:TypeDesc}{ts:List TypeId}(ht:P.underlying t=some (.slice e))(htx:P.underlying tx=some d)(hd:∀k,d ≠ .int k)(hi:P.info? e=some i){ad:Option Addr}{xv:Value}{news:List Value}{A:Nat->Prop}{new:Ab}(hs:Src P w A i.size xv 0 new news)(h0:news=[]):
  (Builtin.append_ (t::tx::ts).toArray ty #[.slice ad 0 0,xv]).run P w=.ok (.slice ad 0 0) w:=by
 subst h0;have h1:=hs.len w;have h2:(Builtin.firstCells i.size 0 xv).run P w=.ok ([]:List Value).toArray w:=hs.cells w (fun _ _=>rfl);have QO:(match d with | .int _=>true|_=>false)=false:=by cases d<;>first|rfl|exact absurd rfl (hd _)
 cases ad<;>simp[Builtin.append_,run_underlying ht,run_underlying htx,QO,sizeOf,typeInfo,hi,h1,h2,storeCells]
end
open Go.RowKit
section
variable {R:Type}{r:R}{P:Program}{N:Nat}{w0:World}{X0:F6}{Y:Nat->Prop}{β β':Bt}{s:St}{a:Act}{w w':World}{o:Oper}{A:Nat->Prop}
theorem Ann{b j:Nat}(h:j<bsz w b):(w.cell? ⟨b,j,none⟩).isSome=true:=by
 unfold bsz at h;unfold World.cell?;split at h
 ·rename_i c e fz hb;simp[hb,h]
 ·omega
theorem Af0{id d:Nat}{c cells:Ab}{bo:Option (Nat × Nat)}(h0:s.hp id=some (.ar false c))(hd:s.hp d=none)(hbo:∀k x,bo=some (k,x)->w.heap.size<=k\/∃y,β id=some (k,y)):
  ∀k,k<w.heap.size->Dd (Db (Db s.hp id (some .mv)) d (some (.ar false cells))) (Db β d bo) Y k->Dd s.hp β Y k:=by
 rintro k hk (⟨i,x,hl,hβ⟩|hY)
 ·by_cases e':i=d
  ·subst e';rw[Ax] at hβ;rcases hbo k x hβ with h|⟨y,hy⟩
   ·omega
   ·exact .inl ⟨id,y,by rw[h0];trivial,hy⟩
  ·rw[Ar _ _ e'] at hl hβ;by_cases e:i=id
   ·subst e;rw[Ax] at hl;exact hl.elim
   ·rw[Ar _ _ e] at hl;exact .inl ⟨i,x,hl,hβ⟩
 ·exact .inr hY
theorem OT{pre new:Ab}{olds news:List Value}{zs:Array Value}{e:TypeId}{A':Nat->Prop}(hg:I0 w w' (olds.toArray++news.toArray++zs) e)(hA:∀b,b<w.heap.size->A' b->A b)(h1:Bw (Az w A) pre olds)(h2:Bw (Az w A) new news)(ho:∀u∈olds,u.oneCell'=true)(hn:∀u∈news,u.oneCell'=true):UQ w' A' ⟨w.heap.size,0,none⟩ (pre++new):=by
 refine Ah4 hg hA fun j p hj=>?_;obtain⟨v,hv,ht⟩:=(h1.app h2).get hj;refine⟨v,?_,?_,ht⟩
 ·have Ch:j<(olds++news).length:=by
   rcases K6 j (olds++news).length with h|h
   ·exact h
   ·rw[List.getElem?_eq_none h] at hv;cases hv
  rw[Array.getElem?_append_left (by simpa using Ch)]
  simpa using hv
 ·rcases Bu.1 (List.mem_of_getElem? hv) with hm|hm
  ·exact ho v hm
  ·exact hn v hm
theorem ZG(h:B9 N w0 X0 Y β s a w){c:Call}(ho:o.op=.call c)(hc:c.callee=.builtin .append)(hnb:GU c=true){d:Nat}(Alk:o.dst=some d){b x:Operand}(Fh:c.args.toList=[b,x]){t tx:TypeId}{ts:List TypeId}(NL:c.argTypes.toList=t::tx::ts){K:PV->List (Nat × Bz)->Option R}(hk:AW P (Od s.hp) d t tx (Cv s.tm x) K=some r):∃v nw,K v nw=some r/\Gj P a w o Y β s v [] nw:=by
 have hb:b=.const (.slice none 0 0):=by
  unfold GU at hnb;rw[Fh] at hnb;split at hnb
  ·rename_i e;injection e
  ·cases hnb
 have PL:c.args = #[b,x]:=by
  have:c.args=([b,x]:List Operand).toArray:=by rw[<-Fh]
  exact this
 have Ac0:c.argTypes=(t::tx::ts).toArray:=by rw[<-NL]
 have Vj:a.eval b=.slice none 0 0:=by rw[hb];rfl
 have run:∀{v:Value} {w1:World},(Builtin.append_ (t::tx::ts).toArray o.type #[a.eval b,a.eval x]).run P w=.ok v w1->(execOp a.eval o).run P w=.ok (.value v) w1:=by
  intro v w1 hr;unfold execOp;rw[ho];simp only[resolve,hc,invoke,builtin,Sem.run_bind,Sem.run_pure,Result.andThen_ok,PL,Ac0];have:(#[b,x]:Array Operand).map a.eval = #[a.eval b,a.eval x]:=by simp
  rw[this,hr];rfl
 unfold AW at hk;split at hk
 ·rename_i e hu;obtain⟨hzi,hk⟩:=Au hk;obtain⟨i,z,hi,hz,hzs,L8⟩:=QI hzi;have Zc:((P.info? e).map (·.bytes)).getD 0=i.bytes:=by rw[hi];rfl
  obtain⟨⟨dx,hdx,Ab1⟩,m,new,news,hk,hs⟩:=QT (s:=s) h hk (fun m new Jj=>by
   obtain⟨hb,_⟩:=Au Jj;simp only[Gl,IR] at hb;exact hb.1.1)
  obtain⟨Jh,hk⟩:=Au hk;simp only[Gl,IR] at Jh;obtain⟨⟨Aik,hby⟩,hnm⟩:=Jh;have hnl:new.length=news.length:=hs.rep.len;rw[L8] at Aik hk hs;rw[Zc] at hby;have MV:news.length=m*i.size:=by omega
  refine⟨_,_,hk,by simp,?_⟩;by_cases hm0:m=0
  ·subst hm0;have hr:=Qr (P:=P) (w:=w) (t:=t) (tx:=tx) (ty:=o.type) (ts:=ts) (ad:=none) hu hdx Ab1 hi hs (List.eq_nil_of_length_eq_zero (by omega));rw[<-Vj] at hr;have Acs:new=[]:=List.eq_nil_of_length_eq_zero (by omega);subst Acs;refine⟨_,_,run hr,fun Ap7=>⟨Db β d none,?_⟩⟩;have FL:s.hp d=none:=(Ca Ap7).1 d _ (Vi _);rw[Vj];refine⟨rfl,rfl,rfl,Cq.refl _ _,fun j hj=>Ar _ _ (by rintro rfl;exact hj FL),?_,?_,?_,?_,?_,.inl ⟨Ax _ _ _,rfl,rfl,none,rfl⟩,?_⟩
   ·intro j bx hm;simp at hm;rw[hm.2];trivial
   ·intro j bx hm;simp at hm;obtain⟨rfl,rfl⟩:=hm;exact .inl ⟨Ax _ _ _,rfl⟩
   ·intro j bx k q hm hq;simp at hm;obtain⟨rfl,rfl⟩:=hm;rw[Ax] at hq;cases hq
   ·intro j bx j' bx' k q q' hm Rr _ _;simp at hm Rr;rw[hm.1,Rr.1]
   ·intro j cells hm;simp at hm
   ·intro j hj;simp[Cc,Cn,Aw] at hj;subst hj;exact .inr ⟨.ar false [],by simp⟩
  ·have hr:=Qv (P:=P) (w:=w) (t:=t) (tx:=tx) (ty:=o.type) (ts:=ts) (ad:=none) (n:=0) (cap:=0) (olds:=[]) hu hdx Ab1 hi hz hs (.inl ⟨rfl,rfl⟩) (by omega) (by rw[Cu];exact hby) (by omega)
   rw[<-Vj] at hr;refine⟨_,_,run hr,fun Ap7=>⟨Db β d (some (w.heap.size,0)),?_⟩⟩;have FL:s.hp d=none:=(Ca Ap7).1 d _ (Vi _);have hge:0+m<=grownCap w (0+m) 0 e:=grownCap_ge w (0+m) 0 e
   have DY:I0 w (w.drew.alloc (.cells (([]:List Value).toArray++news.toArray++Builtin.zeroCells z.cells (grownCap w (0+m) 0 e-(0+m))) e)) (([]:List Value).toArray++news.toArray++Builtin.zeroCells z.cells (grownCap w (0+m) 0 e-(0+m))) e:=
    ⟨rfl,rfl,rfl,fun k hk=>Below.heap_alloc w.drew _ k hk,by show (w.heap.push _).size=_;simp,(0,0),by show (w.heap.push _)[w.heap.size]?=_;simp,.inl rfl⟩
   have Ahd:(([]:List Value).toArray++news.toArray++Builtin.zeroCells z.cells (grownCap w (0+m) 0 e-(0+m))).size=grownCap w (0+m) 0 e*i.size:=by
    simp only[Array.size_append,List.size_toArray,size_zeroCells,hzs,MV,Vl,<-Nat.add_mul];rw[Cu (m*i.size),<-Nat.add_mul]
    congr 1
    omega
   refine Wd (s:=⟨s.tm,Ae s.hp []⟩) DY FL trivial ?_ (fun cells hx=>by cases hx) ?_ (by intro j hj;simp[Cc,Cn,Aw] at hj;exact .inr hj)
   ·refine .inr ⟨w.heap.size,0,Ax _ _ _,?_,fun _ j _ hj=>?_,(fun q=>by cases q)⟩
    ·exact OT (pre:=[]) DY (Ah9 (s:=⟨s.tm,Ae s.hp []⟩) FL) trivial hs.rep (by simp) hs.one
    ·rw[DY.bsz] at hj;exact DY.frozen hj
   ·refine .inr ⟨w.heap.size,0,0,grownCap w (0+m) 0 e,Ax _ _ _,by rw[Cu],.inl rfl,by omega,?_,by rw[DY.size];omega⟩
    rw[DY.bsz,Ahd];omega
 ·cases hk
theorem Acf{lo hi:Option Operand}{y3:Operand}{k3:IntKind}{len cap l u m:Nat}(hl:(lo=none/\l=0)\/∃y k,lo=some y/\a.eval y=.int k (l:Int))(hu:∃y k,hi=some y/\a.eval y=.int k (u:Int))(hm:a.eval y3=.int k3 (m:Int))(h1:l<=u)(h2:u<=m)(h3:m<=cap):
  (Instr.sliceBounds true len cap (lo.map a.eval) (hi.map a.eval) (some (a.eval y3))).run P w=.ok (l,u,m) w:=by
 obtain⟨y,k,rfl,hy⟩:=hu;rcases hl with⟨rfl,rfl⟩|⟨y',k',rfl,hy'⟩
 ·simp[Instr.sliceBounds,Instr.sliceBound,asIntOf,hy,hm,h2,h3]
 ·simp[Instr.sliceBounds,Instr.sliceBound,asIntOf,hy,hy',hm,h1,h2,h3]
theorem Aaj(h:B9 N w0 X0 Y β s a w){t:TypeId}{x m:Operand}{lo hi:Option Operand}(ho:o.op=.slice t x lo hi (some m)){d:Nat}{K:PV->List (Nat × Bz)->Option R}(hk:AV P d t (Cv s.tm x) (lo.map (Cv s.tm)) (hi.map (Cv s.tm)) (some (Cv s.tm m)) K=some r):∃v nw,K v nw=some r/\Gj P a w o Y β s v [] nw:=by
 have hx:=D2 h x;unfold AV at hk;split at hk
 ·rename_i e hu;obtain⟨hb,hk⟩:=Au hk;simp only[Gl] at hb;obtain⟨Vc,hhi⟩:=hb
  obtain⟨yh,rfl⟩:∃y,hi=some y:=by
   cases hi with
   |none=>simp at hhi
   |some y=>exact⟨y,rfl⟩
  have fin:∀{ad:Option Addr} {n cap l u q:Nat},a.eval x=.slice ad n cap->n<=cap->((lo=none/\l=0)\/∃y k,lo=some y/\a.eval y=.int k (l:Int))->((some yh=none/\u=n)\/∃y k,some yh=some y/\a.eval y=.int k (u:Int))->(((some m:Option Operand)=none/\q=n)\/∃y k,(some m:Option Operand)=some y/\a.eval y=.int k (q:Int)) ->
    (Nat.beq l q&&Nat.beq u q&&decide (q<=n))=true->Gj P a w o Y β s (.view d (Bm P e) 0 0) [] [(d,.ar false [])]:=by
   intro ad n cap l u q Ee hn hl M7 hq hb;simp only[Gl,IR] at hb;obtain⟨⟨b1,b2⟩,b3⟩:=hb;have b1:=D4 b1;have b2:=D4 b2;subst b1 b2
   have hu2:∃y k,(some yh:Option Operand)=some y/\a.eval y=.int k (u:Int):=by
    rcases M7 with⟨e,_⟩|e
    ·cases e
    ·exact e
   obtain⟨k3,hm3⟩:∃k,a.eval m=.int k (u:Int):=by
    rcases hq with⟨e,_⟩|⟨y,k,e,q⟩
    ·cases e
    ·cases e;exact⟨k,q⟩
   have hbr:=Acf (P:=P) (w:=w) (len:=n) (cap:=cap) hl hu2 hm3 (Dn _) (Dn _) (by omega)
   have Dv:∃ad',(execOp a.eval o).run P w=.ok (.value (.slice ad' 0 0)) w:=by
    unfold execOp;rw[ho];cases ad with
    |none=>exact⟨none,by simp[Instr.sliceAt,Instr.slice,run_underlying hu,Ee,hbr,Dr Vc] at hbr ⊢⟩
    |some p=>exact⟨some p,by simp[Instr.sliceAt,Instr.slice,run_underlying hu,Ee,hbr,Dr Vc] at hbr ⊢⟩
   obtain⟨ad',Dv⟩:=Dv;refine⟨by simp,_,_,Dv,fun Ap7=>⟨Db β d none,?_⟩⟩;have FL:s.hp d=none:=(Ca Ap7).1 d _ (Vi _);refine⟨rfl,rfl,rfl,Cq.refl _ _,fun j hj=>Ar _ _ (by rintro rfl;exact hj FL),?_,?_,?_,?_,?_,.inl ⟨Ax _ _ _,rfl,rfl,ad',rfl⟩,?_⟩
   ·intro j bx hm;simp at hm;rw[hm.2];trivial
   ·intro j bx hm;simp at hm;obtain⟨rfl,rfl⟩:=hm;exact .inl ⟨Ax _ _ _,rfl⟩
   ·intro j bx k q hm hq;simp at hm;obtain⟨rfl,rfl⟩:=hm;rw[Ax] at hq;cases hq
   ·intro j bx j' bx' k q q' hm Rr _ _;simp at hm Rr;rw[hm.1,Rr.1]
   ·intro j cells hm;simp at hm
   ·intro j hj;simp[Cc,Cn,Aw] at hj;subst hj;exact .inr ⟨.ar false [],by simp⟩
  split at hk
  ·rename_i id es off n e';rw[e'] at hx;obtain⟨MO,hk⟩:=Au hk;obtain⟨l,hk,hl⟩:=Fj h hk;obtain⟨u,hk,M7⟩:=Fj h hk;obtain⟨q,hk,hq⟩:=Fj (x:=some m) h hk;obtain⟨hb,hk⟩:=Au hk;refine⟨_,_,hk,?_⟩;rcases hx with⟨hβ,_,rfl,ad,Ee⟩|⟨b,ob,y,cap,hβ,Ee,hy,hn,OC,Ch⟩
   ·exact fin Ee (Dn _) hl M7 hq hb
   ·exact fin Ee hn hl M7 hq hb
  ·obtain⟨z,n,c,hk,hp⟩:=H3 hk;obtain⟨l,hk,hl⟩:=Fj h hk;obtain⟨u,hk,M7⟩:=Fj h hk;obtain⟨q,hk,hq⟩:=Fj (x:=some m) h hk;obtain⟨hb,hk⟩:=Au hk;refine⟨_,_,hk,?_⟩;rcases slice_form hp hx with⟨Ee,rfl,rfl⟩|⟨ad,cap,Ee,_,hn,_⟩|⟨ad,cap,Ee,_,rfl,rfl⟩
   ·exact fin Ee (Dn _) hl M7 hq hb
   ·exact fin Ee hn hl M7 hq hb
   ·exact fin Ee (Nat.zero_le _) hl M7 hq hb
 ·cases hk
end
open Go.RowKit
section
variable {R:Type}{r:R}{P:Program}{N:Nat}{w0:World}{X0:F6}{Y:Nat->Prop}{β β':Bt}{s:St}{a:Act}{w w':World}{o:Oper}{A:Nat->Prop}
theorem Apl(h:B9 N w0 X0 Y β s a w){G:Vs}(Jz:MD P G w0 X0){C:Jm}{call:Bi}(C6:∀f args res,call f args=some res->C7 G P f args res){K:PV->B5->List (Nat × Bz)->Option R}(hk:RM C P N call s.tm (rd s.hp) (Od s.hp) o K=some r):∃v fz nw,K v fz nw=some r/\QA P a w o Y β s v fz nw:=by
 have one:∀{K':PV->Option R},(∀v,K' v=some r->K v [] []=some r)->(∃v,K' v=some r/\Gj P a w o Y β s v [] [])->∃v fz nw,K v fz nw=some r/\QA P a w o Y β s v fz nw:=
  fun hK ⟨v,h1,h2⟩=>⟨v,[],[],hK v h1,QQ h2⟩
 have many:(∃v fz nw,K v fz nw=some r/\Gj P a w o Y β s v fz nw)->∃v fz nw,K v fz nw=some r/\QA P a w o Y β s v fz nw:=
  fun ⟨v,fz,nw,h1,h2⟩=>⟨v,fz,nw,h1,QQ h2⟩
 unfold RM at hk;split at hk
 ·rename_i x ho;exact one (fun _ h=>h) (FQ (K:=fun p=>K p [] []) h (Akz ho) hk)
 ·rename_i x ho;exact one (fun _ h=>h) (FQ (K:=fun p=>K p [] []) h (Aev ho) hk)
 ·rename_i c x y ho;exact one (fun _ h=>h) (Af1 (K:=fun p=>K p [] []) h ho hk)
 ·rename_i t ho;obtain⟨d,hd,hk⟩:=Dt hk;exact many (Acg ho hk)
 ·rename_i t x ho;obtain⟨d,hd,hk⟩:=Dt hk;exact many (Alv h ho hk)
 ·rename_i t ps ho;exact one (fun _ h=>h) (Ab6 (K:=fun p=>K p [] []) h ho hk)
 ·rename_i t n ps ho;obtain⟨d,hd,hk⟩:=Dt hk;exact many (KP h ho hk)
 ·rename_i t x ho;exact one (fun _ h=>h) (Age (K:=fun p=>K p [] []) h ho hk)
 ·rename_i x ho;exact one (fun _ h=>h) (PQ (K:=fun p=>K p [] []) h ho hk)
 ·rename_i op t x y ty ho;exact one (fun _ h=>h) (Abw (K:=fun p=>K p [] []) h ho hk)
 ·rename_i op t x ho;exact one (fun _ h=>h) (Afq (K:=fun p=>K p [] []) h ho hk)
 ·rename_i src dst x ho;obtain⟨v,nw,hk,hg⟩:=Ae8 h ho hk;obtain⟨d,hd,hk⟩:=Dt hk;exact⟨v,[],nw,hk,QQ hg⟩
 ·rename_i t x y ho;obtain⟨d,hd,hk⟩:=Dt hk;exact many (Afl h ho hk)
 ·rename_i t x lo hi mx ho;split at hk
  ·exact one (fun _ h=>h) (Acm (K:=fun p=>K p [] []) h ho hk)
  ·obtain⟨d,hd,hk⟩:=Dt hk;obtain⟨v,nw,h1,h2⟩:=Aaj h ho hk;exact⟨v,[],nw,h1,QQ h2⟩
 ·rename_i t x f ho;exact one (fun _ h=>h) (NJ (K:=fun p=>K p [] []) h ho hk)
 ·rename_i t x f ho;exact one (fun _ h=>h) (Ad3 (K:=fun p=>K p [] []) h ho hk)
 ·rename_i t x i ho;exact one (fun _ h=>h) (NS (K:=fun p=>K p [] []) h ho hk)
 ·rename_i t x i ho;exact one (fun _ h=>h) (Aeo (K:=fun p=>K p [] []) h ho hk)
 ·rename_i x i ho;exact one (fun _ h=>h) (TZ (K:=fun p=>K p [] []) h ho hk)
 ·rename_i c ho;split at hk
  ·rename_i hc;exact one (fun _ h=>h) (Amk (K:=fun p=>K p [] []) h ho hc hk)
  ·rename_i hc;exact one (fun _ h=>h) (Al7 (K:=fun p=>K p [] []) h ho hc hk)
  ·rename_i hc;exact one (fun _ h=>h) (Akx (K:=fun p=>K p [] []) h ho hc hk)
  ·rename_i hc;exact one (fun _ h=>h) (Akl (K:=fun p=>K p [] []) h ho hc hk)
  ·rename_i hc;obtain⟨hnb,hk⟩:=Au hk;obtain⟨d,hd,Eg⟩:=Dt hk;obtain⟨b,xs,SZ,Gy⟩:=Bj Eg;obtain⟨x,ys,hys,Vk⟩:=Bj Gy;obtain⟨NB,U8⟩:=El Vk;obtain⟨t,us,hus,XW⟩:=Bj U8;obtain⟨tx,vs,U5,hk6⟩:=Bj XW;rw[hys,NB] at SZ;rw[U5] at hus;obtain⟨v,nw,h1,h2⟩:=ZG h ho hc hnb hd SZ hus hk6;exact⟨v,[],nw,h1,QQ h2⟩
  ·rename_i f hc;exact PU h Jz C6 (fun hf hb=>GN ho hc Jz.ng hf hb) hk
  ·rename_i t hc;obtain⟨f,hf0,Eg⟩:=Avj hk;have ht:a.eval (.tmp t)=.func (.func f) #[] #[]:=De h (x:=.tmp t) hf0;exact PU h Jz C6 (fun hf hb=>Al9 ho hc ht Jz.ng hf hb) Eg
  ·cases hk
 ·cases hk
theorem Ag7(h:B9 N w0 X0 Y β s a w){G:Vs}(Jz:MD P G w0 X0){C:Jm}{call:Bi}(C6:∀f args res,call f args=some res->C7 G P f args res){K:St->Option R}(hk:(RM C P N call s.tm (rd s.hp) (Od s.hp) o fun v fz nw=>JN N s o.dst v fz nw K)=some r):
  ∃s',K s'=some r/\∀(next:Act->World->Prop) (Q:Exit->Act->World->Prop),(∀a' w' β',B9 N w0 X0 Y β' s' a' w'->next a' w')->o.wp P a w next Q:=by
 obtain⟨v,fz,nw,hk,JF,hg⟩:=Apl h Jz C6 hk;unfold JN at hk;obtain⟨hb,hk⟩:=Au hk;simp only[Gl] at hb;refine⟨_,hk,fun next Q hn=>hg next Q fun val w' Gn=>?_⟩;obtain⟨β',st⟩:=Gn hb.2
 have Vj:Cl (Ae s.hp fz) nw=true:=by
  have:∀nw,Cl s.hp nw=true->Cl (Ae s.hp fz) nw=true:=by
   intro nw
   induction nw with
   |nil=>intro _;rfl
   |cons q nw ih=>
    obtain⟨i,b⟩:=q;intro hq;simp only[Cl,Gl,Option.isNone_iff_eq_none] at hq ⊢;exact⟨⟨Fp.2 hq.1.1,hq.1.2⟩,ih hq.2⟩
  exact this nw hb.2
 exact hn _ _ β' ((h.freeze JF).stepR hb.1 Vj st)
end
open Go.RowKit
section
variable {R:Type}{r:R}{P:Program}{N:Nat}{w0:World}{X0:F6}{Y:Nat->Prop}{β β':Bt}{s:St}{a:Act}{w w':World}{o:Oper}{A:Nat->Prop}
structure Gg(b:Nat)(w w':World):Prop where
 os:w'.os=w.os
 tape:w'.tape=w.tape
 output:w'.output=w.output
 size:w'.heap.size=w.heap.size
 other:∀k,k≠b->w'.heap[k]?=w.heap[k]?
 bs:bsz w' b=bsz w b
 frz:∀j,w'.frozen? ⟨b,j,none⟩=w.frozen? ⟨b,j,none⟩
theorem Gg.refl(b:Nat)(w:World):Gg b w w:=⟨rfl,rfl,rfl,rfl,fun _ _=>rfl,rfl,fun _=>rfl⟩
theorem Gg.setCell(b j:Nat)(v:Value)(w:World):Gg b w (w.setCell ⟨b,j,none⟩ v):=by
 refine⟨rfl,rfl,rfl,by simp[World.setCell],fun k hk=>Below.heap_setCell w ⟨b,j,none⟩ v k hk,?_,fun i=>?_⟩
 ·simp only[bsz,World.setCell,Array.getElem?_modify];simp only[if_true];cases h:w.heap[b]? with
  |none=>simp
  |some x=>cases x<;>simp
 ·simp only[World.frozen?,World.setCell,Array.getElem?_modify,if_true];cases h:w.heap[b]? with
  |none=>simp
  |some x=>cases x<;>simp
theorem Gg.trans{b:Nat}{w'':World}(h:Gg b w w')(h':Gg b w' w''):Gg b w w'':=
 ⟨h'.os.trans h.os,h'.tape.trans h.tape,h'.output.trans h.output,h'.size.trans h.size,fun k hk=>(h'.other k hk).trans (h.other k hk),h'.bs.trans h.bs,fun j=>(h'.frz j).trans (h.frz j)⟩
theorem Gg.setCells(b:Nat):∀(vs:List Value)(j:Nat)(w:World),Gg b w (w.setCells b j vs)
 |[],_,w=>Gg.refl b w
 |v::vs,j,w=>(Gg.setCell b j v w).trans (Gg.setCells b vs (j+1) _)
theorem A17{hp:Nat->Option Bz}{id:Nat}{bx bx':Bz}(h0:hp id=some bx)(hl:Ct (some bx))(Pc:Ct (some bx'))(b:Nat):DS (Db hp id (some bx')) β b↔DS hp β b:=by
 constructor
 ·rintro⟨i,o,h1,h2⟩
  by_cases e:i=id
  ·subst e;exact⟨i,o,by rw[h0];exact hl,h2⟩
  ·rw[Ar _ _ e] at h1;exact⟨i,o,h1,h2⟩
 ·rintro⟨i,o,h1,h2⟩
  by_cases e:i=id
  ·subst e;exact⟨i,o,by rw[Ax];exact Pc,h2⟩
  ·exact⟨i,o,by rw[Ar _ _ e];exact h1,h2⟩
theorem B9.write(h:B9 N w0 X0 Y β s a w){id b ob:Nat}{bx bx':Bz}(h0:s.hp id=some bx)(hl:Ct (some bx))(Pc:Ct (some bx'))(hβ:β id=some (b,ob))(hw:Gg b w w')(Oc:Wh w' (Dd s.hp β Y) β id bx')(hr:∀cells,bx'=.st cells->∀c∈cells,∀i∈Aw c,s.hp i≠none)(hK:∀c',bx'=.st c'->∃c,bx=.st c)(hR:∀j,BR bx' ob j->BR bx ob j)(hO:∀j,¬BR bx ob j->w'.cell? ⟨b,j,none⟩=w.cell? ⟨b,j,none⟩):B9 N w0 X0 Y β ⟨s.tm,Db s.hp id (some bx')⟩ a w':=by
 have hX:=A17 (β:=β) h0 hl Pc;have hA:∀k,Dd (Db s.hp id (some bx')) β Y k↔Dd s.hp β Y k:=fun k=>⟨fun x=>x.imp (hX k).1 (fun y=>y),fun x=>x.imp (hX k).2 (fun y=>y)⟩;have hAb:Dd s.hp β Y b:=.inl ⟨id,ob,by rw[h0];exact hl,hβ⟩
 have Gn:Cq (Dd s.hp β Y) w w':=⟨by rw[hw.size];exact Dn _,fun k _ hk=>hw.other k (fun e=>hk (e ▸ hAb)),fun k _=>by
  by_cases e:k=b
  ·subst e;rw[hw.bs];exact Dn _
  ·unfold bsz;rw[hw.other k e];exact Dn _⟩
 have Ld:∀i,Db s.hp id (some bx') i≠none↔s.hp i≠none:=by
  intro i;by_cases e:i=id
  ·subst e;rw[Ax,h0];simp
  ·rw[Ar _ _ e]
 have hAe:Dd (Db s.hp id (some bx')) β Y=Dd s.hp β Y:=funext fun k=>propext (hA k)
 have HP:∀i,Ct (Db s.hp id (some bx') i)->Ct (s.hp i):=by
  intro i hi;by_cases e:i=id
  ·subst e;rw[h0];exact hl
  ·rw[Ar _ _ e] at hi;exact hi
 refine⟨h.dfr,h.tsz,h.tmo,fun i hi=>?_,fun i bi hb=>?_,fun i i' k x y h1 h2=>h.inj i i' k x y (HP i h1) (HP i' h2),fun i k x hi hk=>?_,fun i hi j hj=>(Ld j).2 (h.wfT i hi j hj),
  fun i cells hc c hcm j hj=>(Ld j).2 ?_,fun k hk=>h.ownd k ((hX k).1 hk),fun i bi k x NK hli hk Ch j hj=>?_,fun i hi=>⟨(Ld _).2 (h.pin i hi).1,(h.pin i hi).2⟩,fun i c k x hc hk Ch=>?_,fun k hk x=>h.Yx k hk ((hX k).1 x),h.Ylt,?_⟩
 ·rw[hAe];exact (h.tms i hi).step Gn (fun _ _ x=>x) (fun _ _=>rfl)
 ·rw[hAe];simp only at hb;by_cases e:i=id
  ·subst e;rw[Ax] at hb;cases hb;exact Oc
  ·rw[Ar _ _ e] at hb;have NK:=h.box i bi hb;cases bi with
   |st c=>
    obtain⟨k,x,h1,h2,h3⟩:=NK
    have hk:k≠b:=by
     rintro rfl
     exact e (h.inj i id k x ob (by rw[hb];trivial) (by rw[h0];exact hl) h1 hβ)
    refine⟨k,x,h1,fun j c hj=>?_,fun j hj=>?_⟩
    ·obtain⟨v,hv,hc⟩:=h2 j c hj;exact⟨v,by rw[World.cell?_of_block (w:=w) (hw.other k hk)];exact hv,hc.step Gn (fun _ _ x=>x) (fun _ _=>rfl)⟩
    ·rw[World.frozen?_of_block (w:=w) (hw.other k hk)];exact h3 j hj
   |ar fz c=>
    rcases NK with hn|⟨k,x,h1,h2,h3,h4⟩
    ·exact .inl hn
    ·have hk:k≠b:=by
      rintro rfl
      cases fz with
      |true=>exact h4 rfl hAb
      |false=>exact e (h.inj i id k x ob (by rw[hb];trivial) (by rw[h0];exact hl) h1 hβ)
     refine .inr ⟨k,x,h1,fun j c hj=>?_,fun ef j hj Y1=>?_,h4⟩
     ·obtain⟨v,hv,h5,hc⟩:=h2 j c hj;exact⟨v,by rw[World.cell?_of_block (w:=w) (by rw[Hu];exact hw.other k hk)];exact hv,h5,hc.step Gn (fun _ _ x=>x)⟩
     ·rw[World.frozen?_of_block (w:=w) (hw.other k hk)];refine h3 ef j hj ?_;unfold bsz at Y1 ⊢;rw[hw.other k hk] at Y1;exact Y1
   |mv=>trivial
 ·rw[hw.size];exact h.blt i k x ((Ld i).1 hi) hk
 ·simp only at hc;by_cases e:i=id
  ·subst e;rw[Ax] at hc;injection hc with hc;exact hr cells hc c hcm j hj
  ·rw[Ar _ _ e] at hc;exact h.wfB i cells hc c hcm j hj
 ·simp only at NK;by_cases e:i=id
  ·subst e;rw[Ax] at NK;cases NK;rw[hβ] at hk;cases hk;exact h.rngB i bx b ob h0 hl hβ Ch j (hR j hj)
  ·rw[Ar _ _ e] at NK;exact h.rngB i bi k x NK hli hk Ch j hj
 ·simp only at hc;by_cases e:i=id
  ·subst e;rw[Ax] at hc;injection hc with hc;obtain⟨c0,rfl⟩:=hK c hc;exact h.stp i c0 k x h0 hk Ch
  ·rw[Ar _ _ e] at hc;exact h.stp i c k x hc hk Ch
 ·refine⟨hw.os.trans h.fr.os,hw.tape.trans h.fr.tape,hw.output.trans h.fr.output,?_,fun k j hk hL=>?_⟩
  ·refine⟨by rw[hw.size];exact h.fr.step.size,fun k hk hnk=>?_,fun k hk=>Nat.le_trans (h.fr.step.bs k hk) (Gn.bs k (Io hk h.fr.step.size))⟩
   rw[hw.other k ?_]
   ·exact h.fr.step.keep k hk hnk
   ·rintro rfl
    rcases h.ownd k ⟨id,ob,by rw[h0];exact hl,hβ⟩ with hx|hx
    ·exact hnk hx
    ·omega
  ·by_cases e:k=b
   ·subst e;rw[hO j (fun hj=>hL (h.rngB id bx k ob h0 hl hβ hk j hj)),hw.frz];exact h.fr.rng k j hk hL
   ·have hc:w'.cell? ⟨k,j,none⟩=w.cell? ⟨k,j,none⟩:=World.cell?_of_block (w:=w) (hw.other k e);have hf:w'.frozen? ⟨k,j,none⟩=w.frozen? ⟨k,j,none⟩:=World.frozen?_of_block (w:=w) (hw.other k e);rw[hc,hf];exact h.fr.rng k j hk hL
theorem Xo{c cs:Ab}{off j:Nat}{p:PV}(CL:off+cs.length<=c.length)(h:(Bp c cs off)[j]?=some p):
  (off<=j/\j<off+cs.length/\cs[j-off]?=some p)\/((j<off\/off+cs.length<=j)/\c[j]?=some p):=by
 unfold Bp at h;by_cases h1:j<off
 ·rw[IU,List.getElem?_append_left (by simp;omega),List.getElem?_take_of_lt h1] at h
  exact .inr ⟨.inl h1,h⟩
 ·by_cases h2:j<off+cs.length
  ·rw[List.getElem?_append_left (by simp;omega),List.getElem?_append_right (by simp;omega)] at h
   simp only[List.length_take,Nat.min_eq_left (by omega:off<=c.length)] at h;exact .inl ⟨by omega,h2,h⟩
  ·rw[List.getElem?_append_right (by simp;omega)] at h
   simp only[G8,List.length_take,Nat.min_eq_left (by omega:off<=c.length),List.getElem?_drop] at h;rw[show off+cs.length+(j-(off+cs.length))=j from by omega] at h;exact .inr ⟨.inr (by omega),h⟩
theorem Xm{c cs:Ab}{off:Nat}(CL:off+cs.length<=c.length):(Bp c cs off).length=c.length:=by simp[Bp];omega
theorem MG{t:TypeId}{b j:Nat}{v:Value}(L8:(P.info? t).map (·.size)=some v.cells.size)(hc:∀i,i<v.cells.toList.length->(w.cell? ⟨b,j+i,none⟩).isSome=true)(hf:∀i,i<v.cells.toList.length->w.frozen? ⟨b,j+i,none⟩=false)(h1:∀u∈v.cells.toList,u.oneCell'=true):(Instr.storeAt t (.pointer (some ⟨b,j,none⟩)) v).run P w=.ok () (w.setCells b j v.cells.toList):=by
 have:=run_storeCells_cells (P:=P) b j v.cells.toList 0 w (fun i hi=>by simpa using hc i hi) (fun i hi=>by simpa using hf i hi) h1;simp only[Instr.storeAt,Instr.sureAddr,storeVar,Sem.run_bind,Sem.run_pure,Result.andThen_ok,Ox L8]
 simpa using this
theorem Ada(h:B9 N w0 X0 Y β s a w){t:TypeId}{x y:Operand}(ho:o.op=.store t x y)(hd:o.dst=none){K:St->Option R}(hk:IZ P s t (Cv s.tm x) (Cv s.tm y) K=some r):
  ∃s',K s'=some r/\∀(next:Act->World->Prop) (Q:Exit->Act->World->Prop),(∀a' w' β',B9 N w0 X0 Y β' s' a' w'->next a' w')->o.wp P a w next Q:=by
 have hx:=D2 h x;have SY:=Hg h x
 have run:∀{b j:Nat},a.eval x=.pointer (some ⟨b,j,none⟩)->(Instr.storeAt t (.pointer (some ⟨b,j,none⟩)) (a.eval y)).run P w=.ok () (w.setCells b j (a.eval y).cells.toList) ->
   ∀(next:Act->World->Prop) (Q:Exit->Act->World->Prop),next a (w.setCells b j (a.eval y).cells.toList)->o.wp P a w next Q:=by
  intro b j Ee hr next Q hn;unfold Oper.wp execOp;rw[ho];simp only[Sem.run_bind,Ee,hr,Result.andThen_ok,Sem.run_pure];show next (a.put o.dst undef) _;rw[hd];exact hn
 unfold IZ at hk;split at hk
 ·rename_i id off e;rw[e] at hx SY;obtain⟨b,ob,hβ,Ee⟩:=hx;split at hk
  ·rename_i c h0;obtain⟨hb,hk⟩:=Au hk;simp only[Gl,IR] at hb;obtain⟨⟨hok,hl⟩,CL⟩:=hb;have hl:=D4 hl;obtain⟨cs,hk,Y2,h2,h1,hr,_⟩:=Ajb (D2 h y) hl hk;obtain⟨_,Ayx,L8⟩:=Wj hok;have hvl:=h2.len;obtain⟨b',o',Iv,Pi,hb3⟩:=h.box id _ h0;rw[hβ] at Iv;simp at Iv;obtain⟨rfl,rfl⟩:=Iv
   have hcell:∀i,i<(a.eval y).cells.toList.length->(w.cell? ⟨b,ob+off+i,none⟩).isSome=true:=by
    intro i hi;obtain⟨v,hv,_⟩:=Pi (off+i) _ (List.getElem?_eq_getElem (by omega));rw[Qp,hv];rfl
   have Dv:=MG (P:=P) (t:=t) (w:=w) (b:=b) (j:=ob+off) (v:=a.eval y) (by rw[L8,<-Ayx,<-Y2,hvl];simp) hcell (fun i hi=>by rw[Qp];exact hb3 _ (by omega)) h1
   refine⟨_,hk,fun next Q hn=>run Ee Dv next Q (hn _ _ β ?_)⟩
   refine h.write h0 trivial trivial hβ (Gg.setCells b _ _ w) ?_ ?_ (fun _ _=>⟨_,rfl⟩) (fun j hj=>by
    have hj:ob<=j/\j<ob+(Bp c cs off).length:=hj;rw[Xm (by omega)] at hj;exact hj) (fun j hj=>by
    refine World.cell?_setCells_out b _ _ w ⟨b,j,none⟩ (fun _ _=>?_);have hj:¬(ob<=j/\j<ob+c.length):=hj;show j<ob+off\/ob+off+_<=j;omega)
   ·have Gn:Cq (Dd s.hp β Y) w (w.setCells b (ob+off) (a.eval y).cells.toList):=by
     have hw:=Gg.setCells b (a.eval y).cells.toList (ob+off) w;have hAb:Dd s.hp β Y b:=.inl ⟨id,ob,by rw[h0];trivial,hβ⟩
     exact⟨by rw[hw.size];exact Dn _,fun k _ hk=>hw.other k (fun e=>hk (e ▸ hAb)),fun k _=>by
      by_cases e:k=b
      ·subst e;rw[hw.bs];exact Dn _
      ·unfold bsz;rw[hw.other k e];exact Dn _⟩
    refine⟨b,ob,hβ,fun j p hj=>?_,fun j hj=>?_⟩
    ·rcases Xo (by omega) hj with⟨h3,h4,h5⟩|⟨h3,h5⟩
     ·obtain⟨u,hu,hcu⟩:=h2.get h5;have Ch:j-off<(a.eval y).cells.toList.length:=by omega
      refine⟨u,?_,hcu.step Gn (fun _ _ x=>x) (fun _ _=>rfl)⟩;have:=World.cell?_setCells_in b (a.eval y).cells.toList (ob+off) w hcell (j-off) Ch;rw[show ob+j=ob+off+(j-off) from by omega,this];rw[List.getElem?_eq_getElem Ch] at hu;exact hu
     ·obtain⟨v,hv,MS⟩:=Pi j p h5;refine⟨v,?_,MS.step Gn (fun _ _ x=>x) (fun _ _=>rfl)⟩;rw[World.cell?_setCells_out b _ _ w ⟨b,ob+j,none⟩ (fun _ _=>by show ob+j<ob+off\/ob+off+_<=ob+j;omega)]
      exact hv
    ·rw[Xm (by omega)] at hj;rw[(Gg.setCells b _ _ w).frz];exact hb3 j hj
   ·intro cells hx c' Xn i hi;injection hx with hx;subst hx;unfold Bp at Xn;rcases Bu.1 Xn with Xn|Xn
    ·rcases Bu.1 Xn with Xn|Xn
     ·exact h.wfB id c h0 c' (List.mem_of_mem_take Xn) i hi
     ·exact Hg h y i (hr c' Xn i hi)
    ·exact h.wfB id c h0 c' (List.mem_of_mem_drop Xn) i hi
  ·rename_i c h0;obtain⟨hb,hk⟩:=Au hk;simp only[Gl,IR] at hb;obtain⟨hok,CL⟩:=hb;obtain⟨cs,m,hk,Y2,NM,hT,hF,hm,hv⟩:=W0 h hk;obtain⟨hnm,hk⟩:=Au hk
   have hnm:id ∉ m:=by
    intro hi;have:m.any (Nat.beq id)=true:=List.any_eq_true.2 ⟨id,hi,Of id⟩;rw[this] at hnm;cases hnm
   obtain⟨_,Ayx,L8⟩:=Wj hok
   have At9:Bw (Ck w (Dd s.hp β Y) β) (cellsOf (Cv s.tm y)) (a.eval y).cells.toList:=by
    have hyv:=D2 h y;cases hp:Cv s.tm y with
    |agg ps=>
     rw[hp] at hyv;obtain⟨vs,hay,h2⟩:=hyv;rw[hay];exact h2
    |sc v=>
     rw[hp] at hyv hF
     have Aok:(a.eval y).oneCell'=true:=by
      have:=hv m (fun _ hi=>hi) hm [a.eval y] (by rw[hp];exact⟨hyv,trivial⟩)
      exact this.2 _ (by simp)
     rw[R3 Aok];exact⟨hyv,trivial⟩
    |lst z es n cc=>
     rw[hp] at hyv hF
     have Aok:(a.eval y).oneCell'=true:=by
      have:=hv m (fun _ hi=>hi) hm [a.eval y] (by rw[hp];exact⟨hyv,trivial⟩)
      exact this.2 _ (by simp)
     rw[R3 Aok];exact⟨hyv,trivial⟩
    |view i es oo n=>
     rw[hp] at hyv hF
     have Aok:(a.eval y).oneCell'=true:=by
      have:=hv m (fun _ hi=>hi) hm [a.eval y] (by rw[hp];exact⟨hyv,trivial⟩)
      exact this.2 _ (by simp)
     rw[R3 Aok];exact⟨hyv,trivial⟩
    |own es n cc=>
     have hx0:=hF (Cv s.tm y) (by rw[hp];exact Vi _)
     rw[hp] at hx0;exact hx0.elim
    |ptr i cc=>
     have hx0:=hF (Cv s.tm y) (by rw[hp];exact Vi _)
     rw[hp] at hx0;exact hx0.elim
    |iptr i cc=>
     have hx0:=hF (Cv s.tm y) (by rw[hp];exact Vi _)
     rw[hp] at hx0;exact hx0.elim
    |pbox cc=>
     have hx0:=hF (Cv s.tm y) (by rw[hp];exact Vi _)
     rw[hp] at hx0;exact hx0.elim
    |tup cc=>
     have hx0:=hF (Cv s.tm y) (by rw[hp];exact Vi _)
     rw[hp] at hx0;exact hx0.elim
    |ub=>
     have hx0:=hF (Cv s.tm y) (by rw[hp];exact Vi _)
     rw[hp] at hx0;exact hx0.elim
    |top=>
     have hx0:=hF (Cv s.tm y) (by rw[hp];exact Vi _)
     rw[hp] at hx0;exact hx0.elim
   obtain⟨h2,h1⟩:=hv m (fun _ hi=>hi) hm _ At9;have hvl:=h2.len;have hf:=h.freeze hm;have h0':Ae s.hp m id=some (.ar false c):=by rw[Cp,Ba hnm];exact h0
   rcases hf.box id _ h0' with⟨hn,_⟩|⟨b',o',Iv,Pi,hb3,_⟩
   ·rw[hβ] at hn;cases hn
   rw[hβ] at Iv;simp at Iv;obtain⟨rfl,rfl⟩:=Iv
   have hcell:∀i,i<(a.eval y).cells.toList.length->(w.cell? ⟨b,ob+off+i,none⟩).isSome=true:=by
    intro i hi;obtain⟨v,hv,_⟩:=Pi (off+i) _ (List.getElem?_eq_getElem (by omega));rw[Fe] at hv;rw[Qp,hv];rfl
   have Dv:=MG (P:=P) (t:=t) (w:=w) (b:=b) (j:=ob+off) (v:=a.eval y) (by rw[L8,<-Ayx,<-Y2,hvl];simp) hcell (fun i hi=>by
    obtain⟨u,hu⟩:=Option.isSome_iff_exists.1 (hcell i hi);exact hb3 rfl _ (by omega) (SR hu)) h1
   refine⟨_,hk,fun next Q hn=>run Ee Dv next Q (hn _ _ β ?_)⟩
   refine hf.write h0' trivial trivial hβ (Gg.setCells b _ _ w) ?_ (fun cells hx=>by cases hx) (fun _ hx=>by cases hx) (fun j hj=>hj) (fun j hj=>by
    refine World.cell?_setCells_out b _ _ w ⟨b,j,none⟩ (fun _ _=>?_);have hj:¬(ob<=j):=hj;show j<ob+off\/ob+off+_<=j;omega)
   have Gn:Cq (Dd (Ae s.hp m) β Y) w (w.setCells b (ob+off) (a.eval y).cells.toList):=by
    have hw:=Gg.setCells b (a.eval y).cells.toList (ob+off) w;have hAb:Dd (Ae s.hp m) β Y b:=.inl ⟨id,ob,by rw[h0'];trivial,hβ⟩
    exact⟨by rw[hw.size];exact Dn _,fun k _ hk=>hw.other k (fun e=>hk (e ▸ hAb)),fun k _=>by
     by_cases e:k=b
     ·subst e;rw[hw.bs];exact Dn _
     ·unfold bsz;rw[hw.other k e];exact Dn _⟩
   refine .inr ⟨b,ob,hβ,fun j p hj=>?_,fun _ j hj Y1=>?_,(fun x=>by cases x)⟩
   ·rw[Fe];rcases Xo (by omega) hj with⟨h3,h4,h5⟩|⟨h3,h5⟩
    ·obtain⟨u,hu,hcu⟩:=h2.get h5;have Ch:j-off<(a.eval y).cells.toList.length:=by omega
     refine⟨u,?_,h1 u (List.mem_of_getElem? hu),hcu.step Gn (fun _ _ x=>x)⟩;have:=World.cell?_setCells_in b (a.eval y).cells.toList (ob+off) w hcell (j-off) Ch;rw[show ob+j=ob+off+(j-off) from by omega,this];rw[List.getElem?_eq_getElem Ch] at hu;exact hu
    ·obtain⟨v,hv,h6,MS⟩:=Pi j p h5;rw[Fe] at hv;refine⟨v,?_,h6,MS.step Gn (fun _ _ x=>x)⟩;rw[World.cell?_setCells_out b _ _ w ⟨b,ob+j,none⟩ (fun _ _=>by show ob+j<ob+off\/ob+off+_<=ob+j;omega)]
     exact hv
   ·rw[(Gg.setCells b _ _ w).bs] at Y1;rw[(Gg.setCells b _ _ w).frz];exact hb3 rfl j hj Y1
  ·cases hk
 ·cases hk
end
open Go.RowKit
theorem Ma:∀{l l':B5},Ft (l++l')=true->Ft l=true/\Ft l'=true/\∀i∈l,i ∉ l'
 |[],l',h=>⟨rfl,h,by simp⟩
 |a::l,l',h=>by
  simp only[Zzp,Ft,Gl,Bool.not_eq_true'] at h;obtain⟨h1,h2⟩:=h;obtain⟨h3,h4,h5⟩:=Ma h2
  have hn:∀i∈l++l',a≠i:=by
   rintro i hi rfl
   have:(l++l').any (Nat.beq a)=true:=List.any_eq_true.2 ⟨a,hi,Of a⟩;rw[this] at h1;cases h1
  refine⟨?_,h4,fun i hi=>?_⟩
  ·simp only[Ft,Gl,Bool.not_eq_true',h3,and_true];rw[List.any_eq_false];intro i hi e;exact hn i (by simp[hi]) (D4 e)
  ·rcases Bx.1 hi with rfl|hi
   ·exact fun hm=>hn i (by simp[hm]) rfl
   ·exact h5 i hi
def J2(β:Bt)(q:Nat × Nat):Option (Nat × Nat):=(β q.1).map fun p=>(p.1,p.2+q.2)
theorem Afz(β:Bt)(id:Nat):J2 β (id,0)=β id:=by unfold J2;cases β id<;>rfl
section
variable {R:Type}{r:R}{P:Program}{N:Nat}{w0:World}{X0:F6}{Y:Nat->Prop}{β β':Bt}{s:St}{a:Act}{w w':World}{o:Oper}{A:Nat->Prop}
theorem Se{fz:B5}{b:Nat}(h:Dd (Ae s.hp fz) β Y b):Dd s.hp β Y b:=h.imp Vu id
theorem Aox(h:B9 N w0 X0 Y β s a w){mv:Bool}{t:CT}{p:PV}{K:PV->B5->B5->Option R}(hk:Aj4 mv s.hp t p K=some r):
  ∃c m q,K c m (Option.toList q)=some r/\isA c/\TY p/\(∀id∈m,∃f cc,s.hp id=some (.ar f cc))/\(∀id,q=some id->∃cc,s.hp id=some (.ar false cc)) /\
   ∀fz:B5,(∀id∈m,id∈fz)->(∀id∈fz,∃f cc,s.hp id=some (.ar f cc))->∀v,Ck w (Dd s.hp β Y) β p v->Jy w (Dd (Ae s.hp fz) β Y) (q.bind β) c v:=by
 have frz:∀{t:CT} {p:PV} {K:PV->B5->B5->Option R},(Tq (Od s.hp) t p fun c m=>K c m [])=some r->∃c m q,K c m (Option.toList q)=some r/\isA c/\TY p/\(∀id∈m,∃f cc,s.hp id=some (.ar f cc))/\(∀id,q=some id->∃cc,s.hp id=some (.ar false cc)) /\
   ∀fz:B5,(∀id∈m,id∈fz)->(∀id∈fz,∃f cc,s.hp id=some (.ar f cc))->∀v,Ck w (Dd s.hp β Y) β p v->Jy w (Dd (Ae s.hp fz) β Y) (q.bind β) c v:=by
  intro t p K hk;obtain⟨c,m,hk,hT,hF,hm,hv⟩:=PZ h hk;exact⟨c,m,none,hk,.inl hT,hF,hm,by simp,fun fz h1 h2 v hc=>O5 hT (hv fz h1 h2 v hc).1⟩
 have tree:∀{t:CT} {p:PV} {K:PV->B5->B5->Option R},(∀es,t ≠ .sl es)->(KH t p fun c=>K c [] [])=some r->∃c m q,K c m (Option.toList q)=some r/\isA c/\TY p/\(∀id∈m,∃f cc,s.hp id=some (.ar f cc))/\(∀id,q=some id->∃cc,s.hp id=some (.ar false cc)) /\
   ∀fz:B5,(∀id∈m,id∈fz)->(∀id∈fz,∃f cc,s.hp id=some (.ar f cc))->∀v,Ck w (Dd s.hp β Y) β p v->Jy w (Dd (Ae s.hp fz) β Y) (q.bind β) c v:=by
  intro t p K Ge hk;obtain⟨c,hk,hT,SX,hv⟩:=Ro hk;exact⟨c,[],none,hk,.inl hT,Xg SX,by simp,by simp,fun fz h1 h2 v hc=>O5 hT ((hv w _ β v hc).1.step (Cq.refl _ _) (fun b _ hb=>Se hb))⟩
 unfold Aj4 at hk;cases t with
 |sl es=>
  dsimp only at hk;cases mv<;>simp only[cond_true,cond_false] at hk
  ·exact frz hk
  ·split at hk
   ·rename_i id es' off n;split at hk
    ·rename_i c h0;cases hb:(Nat.beq es' es&&Nat.beq off 0)<;>rw[hb] at hk<;>simp only[cond_true,cond_false] at hk
     ·exact frz hk
     ·simp only[Gl] at hb;have he:=D4 hb.1;have hof:=D4 hb.2;subst he hof;obtain⟨hl,hk⟩:=Au hk;refine⟨_,[],some id,hk,.inr ⟨_,_,_,rfl⟩,trivial,by simp,fun i hi=>by cases hi;exact⟨c,h0⟩,fun fz h1 h2 v hc=>?_⟩
      rcases hc with⟨h3,_,rfl,h4⟩|⟨b,ob,x,cap,h3,h4,hx,h5,h6,h7⟩
      ·exact .inl ⟨h3,rfl,by simp,h4⟩
      ·have hx:x=ob:=by rcases hx with e|⟨_,e⟩<;>omega
       subst hx;rcases h.box id _ h0 with⟨h8,_⟩|⟨b',o',h8,h9,h10,_⟩
       ·rw[h3] at h8;cases h8
       ·rw[h3] at h8;cases h8;refine .inr ⟨b,x,cap,h3,h4,h5,h6,h7,fun j p hj=>?_,h10 rfl⟩;rw[List.getElem?_take] at hj;split at hj
        ·obtain⟨u,hu,h11,ht⟩:=h9 j p hj;exact⟨u,hu,h11,ht.step (Cq.refl _ _) (fun b _ hb=>Se hb)⟩
        ·cases hj
    ·exact frz hk
   ·obtain⟨z,n,c,hk,hp⟩:=H3 hk;have hpF:TY p:=by rcases hp with e|⟨e,_⟩<;>(rw[e];trivial)
    cases z<;>simp only[cond_true,cond_false] at hk
    ·refine⟨_,[],none,hk,.inl trivial,hpF,by simp,by simp,fun fz h1 h2 v hc=>?_⟩;exact O5 trivial ((EI hp hc).step (Cq.refl _ _) (fun b _ hb=>Se hb))
    ·refine⟨_,[],none,hk,.inr ⟨_,_,_,rfl⟩,hpF,by simp,by simp,fun fz h1 h2 v hc=>.inl ⟨rfl,rfl,rfl,none,?_⟩⟩;have:=EI hp hc;cases this;rfl
 |int k=>exact tree (by simp) hk
 |bool=>exact tree (by simp) hk
 |str=>exact tree (by simp) hk
 |any=>exact tree (by simp) hk
theorem BA(h:B9 N w0 X0 Y β s a w){mv:Bool}:∀{ts:List CT}{ps:Ab}{K:Ab->B5->B5->Option R},MF mv s.hp ts ps K=some r ->
  ∃cs m x,∃q:Nat->Option Nat,K cs m x=some r/\cs.length=ts.length/\ps.length=ts.length/\(∀c∈cs,isA c)/\(∀p∈ps,TY p)/\(∀id∈m,∃f cc,s.hp id=some (.ar f cc))/\(∀id∈x,∃cc,s.hp id=some (.ar false cc)) /\
   (∀j id,q j=some id->id∈x)/\(Ft x=true->∀j j' id,q j=some id->q j'=some id->j=j') /\
   ∀fz:B5,(∀id∈m,id∈fz)->(∀id∈fz,∃f cc,s.hp id=some (.ar f cc))->∀vs,Bw (Ck w (Dd s.hp β Y) β) ps vs->∀(own:Bt) j0,(∀j,own (j0+j)=(q j).bind β)->Hr w (Dd (Ae s.hp fz) β Y) own j0 cs vs
 |[],[],K,hk=>⟨[],[],[],fun _=>none,hk,rfl,rfl,by simp,by simp,by simp,by simp,by simp,by simp,fun fz _ _ vs hv own j0 _=>by
   cases vs with
   |nil=>trivial
   |cons v vs=>exact hv.elim⟩
 |[],_::_,K,hk=>by cases hk
 |_::_,[],K,hk=>by cases hk
 |t::ts,p::ps,K,hk=>by
  unfold MF at hk;obtain⟨c,m,q,hk,hA,hF,hm,hq,hv⟩:=Aox h hk;obtain⟨cs,ms,xs,qs,hk,hl,Pc,hAs,hFs,RB,SZ,hqx,hqi,U5⟩:=BA h hk;refine⟨c::cs,m++ms,q.toList++xs,fun j=>match j with|0=>q|j+1=>qs j,hk,by simp[hl],by simp[Pc],?_,?_,?_,?_,?_,?_,?_⟩
  ·intro x hx;rcases Bx.1 hx with rfl|hx
   ·exact hA
   ·exact hAs x hx
  ·intro x hx;rcases Bx.1 hx with rfl|hx
   ·exact hF
   ·exact hFs x hx
  ·intro i hi;rcases Bu.1 hi with hi|hi
   ·exact hm i hi
   ·exact RB i hi
  ·intro i hi;rcases Bu.1 hi with hi|hi
   ·exact hq i (by simpa using hi)
   ·exact SZ i hi
  ·intro j id hj;cases j with
   |zero=>exact Bu.2 (.inl (by simpa using hj))
   |succ j=>exact Bu.2 (.inr (hqx j id hj))
  ·intro hn j j' id hj Y1;obtain⟨_,h2,h3⟩:=Ma hn;cases j with
   |zero=>
    cases j' with
    |zero=>rfl
    |succ j'=>exact absurd (hqx j' id Y1) (h3 id (by simpa using hj))
   |succ j=>
    cases j' with
    |zero=>exact absurd (hqx j id hj) (h3 id (by simpa using Y1))
    |succ j'=>rw[hqi h2 j j' id hj Y1]
  ·intro fz h1 h2 vs h3 own j0 Hb;cases vs with
   |nil=>exact h3.elim
   |cons v vs=>
    refine⟨?_,U5 fz (fun i hi=>h1 i (by simp[hi])) h2 vs h3.2 own (j0+1) fun j=>?_⟩
    ·have:=Hb 0;rw[GD] at this;rw[this];exact hv fz (fun i hi=>h1 i (by simp[hi])) h2 v h3.1
    ·have:=Hb (j+1);rw[show j0+1+j=j0+(j+1) by omega];exact this
def LOk(hp:Nat->Option Bz)(q:Option (Nat × Nat))(p:PV)(x:Jp):Prop:=
 match x with
 |.var id off cts ws=>p=.pbox ws/\q=some (id,off)/\cts.length=ws.length/\∃c,hp id=some (.st c)/\off+ws.length<=c.length
 |.row id=>(∃ps,p=.tup ps)/\q=some (id,0)/\∃c,hp id=some (.ar false c)
 |.none=>(∃ps,p=.tup ps)/\q=none
theorem Aij{hp:Nat->Option Bz}{q:Option (Nat × Nat)}{p:PV}{x:Jp}(h:LOk hp q p x):IK p=true:=by
 cases x with
 |var id off cts ws=>rw[h.1];rfl
 |row id=>obtain⟨⟨_,e⟩,_⟩:=h;rw[e];rfl
 |none=>obtain⟨⟨_,e⟩,_⟩:=h;rw[e];rfl
def Vh(hp:Nat->Option Bz)(src:Nat->Nat->Option (Nat × Nat)):Nat->Ab->List Jp->Prop
 |_,[],l=>l=[]
 |i,p::ps,l=>(IK p=false/\src i 0=none/\Vh hp src (i+1) ps l)\/∃x l',l=x::l'/\LOk hp (src i 0) p x/\Vh hp src (i+1) ps l'
theorem Ae7(h:B9 N w0 X0 Y β s a w){C:Jm}{f:FuncId}{i:Nat}{t:TypeId}{x:Operand}{K:PV->B5->B5->List Jp->Option R}(hk:KK C P f s.hp i t (Cv s.tm x) K=some r):
  ∃v m y l,∃src:Nat->Option (Nat × Nat),K v m y l=some r/\(∀id∈m,∃f cc,s.hp id=some (.ar f cc))/\(∀id∈y,∃cc,s.hp id=some (.ar false cc)) /\
   (∀j id off,src (j+1)=some (id,off)->off=0/\id∈y)/\(Ft y=true->∀j j' id off off',src (j+1)=some (id,off)->src (j'+1)=some (id,off')->j=j') /\
   ((l=[]/\IK v=false/\src 0=none)\/∃x',l=[x']/\LOk s.hp (src 0) v x') /\
   ∀fz:B5,(∀id∈m,id∈fz)->(∀id∈fz,∃f cc,s.hp id=some (.ar f cc))->∀bt:Bt,(∀j,bt j=(src j).bind (J2 β))->Adz w (Dd (Ae s.hp fz) β Y) bt v (a.eval x):=by
 have hx:=D2 h x
 have NZ:∀(q0:Option (Nat × Nat)) (q:Nat->Option Nat),∃src:Nat->Option (Nat × Nat),src 0=q0/\(∀j,src (j+1)=(q j).map fun id=>(id,0)):=
  fun q0 q=>⟨fun j=>match j with|0=>q0|j+1=>(q j).map fun id=>(id,0),rfl,fun _=>rfl⟩
 have Abp:∀{src:Nat->Option (Nat × Nat)} {q:Nat->Option Nat} {y:B5},(∀j,src (j+1)=(q j).map fun id=>(id,0))->(∀j id,q j=some id->id∈y)->∀j id off,src (j+1)=some (id,off)->off=0/\id∈y:=by
  intro src q y h1 h2 j id off hj;rw[h1] at hj;cases hq:q j with
  |none=>rw[hq] at hj;cases hj
  |some k=>rw[hq] at hj;cases hj;exact⟨rfl,h2 j _ hq⟩
 have Abq:∀{src:Nat->Option (Nat × Nat)} {q:Nat->Option Nat} {y:B5},(∀j,src (j+1)=(q j).map fun id=>(id,0))->(Ft y=true->∀j j' id,q j=some id->q j'=some id->j=j') ->
   Ft y=true->∀j j' id off off',src (j+1)=some (id,off)->src (j'+1)=some (id,off')->j=j':=by
  intro src q y h1 h2 hn j j' id off off' hj Y1;rw[h1] at hj Y1;cases hq:q j with
  |none=>rw[hq] at hj;cases hj
  |some k=>
   cases Ic:q j' with
   |none=>rw[Ic] at Y1;cases Y1
   |some k'=>
    rw[hq] at hj;rw[Ic] at Y1;cases hj;cases Y1;exact h2 hn j j' _ hq Ic
 have Hb:∀{src:Nat->Option (Nat × Nat)} {q:Nat->Option Nat} {bt:Bt},(∀j,src (j+1)=(q j).map fun id=>(id,0))->(∀j,bt j=(src j).bind (J2 β))->∀j,bt (1+j)=(q j).bind β:=by
  intro src q bt h1 h2 j;rw[Nat.add_comm,h2,h1];cases q j with
  |none=>rfl
  |some id=>exact Afz β id
 unfold KK at hk;split at hk
 ·rename_i e he;split at hk
  ·rename_i id off ep;rw[ep] at hx;split at hk
   ·rename_i c h0;obtain⟨hb,hk⟩:=Au hk;simp only[Gl,IR] at hb;obtain⟨cs,m,y,q,hk,hl,Pc,hA,hF,hm,hy,XE,OD,hv⟩:=BA h hk;obtain⟨src,QM,hs⟩:=NZ (some (id,off)) q;obtain⟨b,ob,hβ,Ee⟩:=hx;refine⟨_,m,y,_,src,hk,hm,hy,Abp hs XE,Abq hs OD,.inr ⟨_,rfl,rfl,QM,hl.symm,c,h0,by omega⟩,fun fz h1 h2 bt EV=>?_⟩;obtain⟨b',o',Iv,Pi,hb3⟩:=h.box id _ h0;rw[hβ] at Iv;cases Iv;have Hk:((c.drop off).take (Lm P e).length).length=(Lm P e).length:=by simp;omega
    have Aod:∀j p,((c.drop off).take (Lm P e).length)[j]?=some p->c[off+j]?=some p/\j<(Lm P e).length:=by
     intro j p hj;rw[List.getElem?_take] at hj;split at hj
     ·rw[List.getElem?_drop] at hj;exact⟨hj,by assumption⟩
     ·cases hj
    refine⟨b,ob+off,by rw[EV,QM];simp[J2,hβ],Ee,hA,((c.drop off).take (Lm P e).length).mapIdx (fun j _=>(w.cell? ⟨b,ob+off+j,none⟩).getD undef),hv fz h1 h2 _ ?_ bt 1 (Hb hs EV),?_,fun k hk=>?_⟩
    ·refine Bw.of_at (by simp) fun j p v hp hv=>?_;obtain⟨hc,_⟩:=Aod j p hp;obtain⟨u,hu,hcr⟩:=Pi _ _ hc;rw[List.getElem?_mapIdx,hp,Option.map_some,Qp,hu] at hv;simp at hv;subst hv;exact hcr
    ·intro k v hkv;rw[List.getElem?_mapIdx] at hkv;cases hp:((c.drop off).take (Lm P e).length)[k]? with
     |none=>rw[hp] at hkv;cases hkv
     |some p=>
      obtain⟨hc,_⟩:=Aod k p hp;obtain⟨u,hu,hcr⟩:=Pi _ _ hc;rw[hp,Option.map_some,Qp,hu] at hkv;simp at hkv;subst hkv;rw[Qp];exact hu
    ·rw[Qp];exact hb3 _ (by omega)
   ·cases hk
  ·cases hk
 ·cases hln:C.lnd f i<;>rw[hln] at hk<;>simp only[cond_true,cond_false] at hk
  ·cases Im:Cr P t<;>rw[Im] at hk<;>simp only[cond_true,cond_false] at hk
   ·obtain⟨cs,m,y,q,hk,hl,Pc,hA,hF,hm,hy,XE,OD,hv⟩:=BA h hk;obtain⟨c,t',rfl,hk⟩:=Bj hk;obtain⟨rfl,hk⟩:=El hk;obtain⟨src,QM,hs⟩:=NZ none q;have hAc:=hA c (by simp);refine⟨c,m,y,_,src,hk,hm,hy,Abp hs XE,Abq hs OD,.inl ⟨rfl,Asm hAc,QM⟩,fun fz h1 h2 bt EV=>?_⟩;have hFx:=hF _ (Vi _)
    have hxc:Ck w (Dd s.hp β Y) β (Cv s.tm x) (a.eval x):=by
     cases hp:Cv s.tm x<;>rw[hp] at hx hFx<;>first|exact hx|exact hFx.elim
    have hoc:=(hv fz h1 h2 [a.eval x] ⟨hxc,trivial⟩ bt 1 (Hb hs EV)).1;rcases hAc with hT|⟨es,n,cc,rfl⟩
    ·cases c<;>first|exact⟨.inl trivial,hoc⟩|exact hT.elim
    ·exact⟨.inr ⟨_,_,_,rfl⟩,hoc⟩
   ·obtain⟨ps,ep,hk⟩:=Kp hk;rw[ep] at hx;obtain⟨vs,Ee,h3⟩:=hx;obtain⟨cs,m,y,q,hk,hl,Pc,hA,hF,hm,hy,XE,OD,hv⟩:=BA h hk;obtain⟨src,QM,hs⟩:=NZ none q;refine⟨_,m,y,_,src,hk,hm,hy,Abp hs XE,Abq hs OD,.inl ⟨rfl,rfl,QM⟩,fun fz h1 h2 bt EV=>?_⟩;exact⟨vs,Ee,hA,hv fz h1 h2 vs h3 bt 1 (Hb hs EV)⟩
  ·obtain⟨e,he,hk⟩:=Dt hk;unfold Apm at hk;split at hk
   ·rename_i id es' off n ep;rw[ep] at hx;split at hk
    ·rename_i c h0;obtain⟨hb,Gy⟩:=Au hk;simp only[Gl] at hb;have he:=D4 hb.1;have hof:=D4 hb.2;subst hof;obtain⟨src,QM,hs⟩:=NZ (some (id,0)) (fun _=>none);refine⟨_,[],[],_,src,Gy,by simp,by simp,Abp hs (by simp),Abq hs (by simp),.inr ⟨_,rfl,⟨_,rfl⟩,QM,c,h0⟩,fun fz h1 h2 bt EV=>⟨_,_,_,rfl,?_⟩⟩;have TG:bt 0=β id:=by rw[EV,QM];exact Afz β id
     rw[TG];rcases hx with⟨h3,_,h4,h5⟩|⟨b,ob,y,cap,h3,h4,hy,h5,h6,h7⟩
     ·refine .inl ⟨h3,h4,?_,h5⟩;rcases h.box id _ h0 with⟨_,h8⟩|⟨_,_,h8,_⟩
      ·exact h8
      ·rw[h3] at h8;cases h8
     ·have hy:y=ob:=by rcases hy with e|⟨_,e⟩<;>omega
      subst hy;rcases h.box id _ h0 with⟨h8,_⟩|⟨b',o',h8,h9,h10,_⟩
      ·rw[h3] at h8;cases h8
      ·rw[h3] at h8;cases h8;exact .inr ⟨b,y,cap,h3,h4,h5,by rw[<-he];exact h6,h7,h9.weak (fun b _ hb=>Se hb),h10 rfl⟩
    ·cases hk
   ·obtain⟨z,n,c,hk,hp⟩:=H3 hk;obtain⟨hz,hk⟩:=Au hk;subst hz;obtain⟨src,QM,hs⟩:=NZ none (fun _=>none)
    have hu:a.eval x=.slice none 0 0:=by
     have hF:Ck w (Dd s.hp β Y) β (Cv s.tm x) (a.eval x):=by rcases hp with e|⟨e,_⟩<;>rw[e] at hx ⊢ <;> exact hx
     have:=EI hp hF;generalize a.eval x=u at this;cases this;rfl
    refine⟨_,[],[],_,src,hk,by simp,by simp,Abp hs (by simp),Abq hs (by simp),.inr ⟨_,rfl,⟨_,rfl⟩,QM⟩,fun fz h1 h2 bt EV=>⟨_,_,_,rfl,.inl ⟨by rw[EV,QM];rfl,rfl,rfl,none,hu⟩⟩⟩
structure A62(i0 n:Nat)(src:Nat->Nat->Option (Nat × Nat))(ids x:B5):Prop where
 dom:∀i j q,src i j=some q->i0<=i/\i<i0+n
 lent:∀i id off,src i 0=some (id,off)->id∈ids
 mvd:∀i j id off,src i (j+1)=some (id,off)->off=0/\id∈x
 inj0:Ft ids=true->∀i i' id off off',src i 0=some (id,off)->src i' 0=some (id,off')->i=i'
 inj1:Ft x=true->∀i i' j j' id off off',src i (j+1)=some (id,off)->src i' (j'+1)=some (id,off')->i=i'/\j=j'
theorem EW{hp:Nat->Option Bz}{src src':Nat->Nat->Option (Nat × Nat)}:∀{ps:Ab}{i:Nat}{l:List Jp},(∀k,i<=k->src' k=src k)->Vh hp src i ps l->Vh hp src' i ps l
 |[],_,_,_,h=>h
 |p::ps,i,l,hs,h=>by
  rcases h with⟨h1,h2,h3⟩|⟨x,l',rfl,h2,h3⟩
  ·exact .inl ⟨h1,by rw[hs i (Dn _)];exact h2,EW (fun k hk=>hs k (by omega)) h3⟩
  ·exact .inr ⟨x,l',rfl,by rw[hs i (Dn _)];exact h2,EW (fun k hk=>hs k (by omega)) h3⟩
theorem MJ{bt bt':MR}:∀{ps:Ab}{us:List Value}{i:Nat},(∀k,i<=k->∀j,bt' k j=bt k j)->Qm w A bt i ps us->Qm w A bt' i ps us
 |[],[],_,_,_=>trivial
 |[],_::_,_,_,h=>h.elim
 |_::_,[],_,_,h=>h.elim
 |_::_,_::_,i,hb,h=>⟨by rw[show bt' i=bt i from funext (hb i (Dn _))];exact h.1,MJ (fun k hk=>hb k (by omega)) h.2⟩
theorem WG(h:B9 N w0 X0 Y β s a w){C:Jm}{f:FuncId}:∀{ts:List TypeId}{xs:List Operand}{i:Nat}{K:Ab->B5->B5->List Jp->Option R},XI C P f s.hp i ts (xs.map (Cv s.tm)) K=some r ->
  ∃vs m y l,∃src:Nat->Nat->Option (Nat × Nat),K vs m y l=some r/\(∀id∈m,∃f cc,s.hp id=some (.ar f cc))/\(∀id∈y,∃cc,s.hp id=some (.ar false cc)) /\
   A62 i xs.length src (l.flatMap Jp.ids) y/\Vh s.hp src i vs l /\
   ∀fz:B5,(∀id∈m,id∈fz)->(∀id∈fz,∃f cc,s.hp id=some (.ar f cc))->∀bt:MR,(∀i j,bt i j=(src i j).bind (J2 β))->Qm w (Dd (Ae s.hp fz) β Y) bt i vs (xs.map a.eval)
 |[],[],i,K,hk=>⟨[],[],[],[],fun _ _=>none,hk,by simp,by simp,⟨by simp,by simp,by simp,by simp,by simp⟩,rfl,fun _ _ _ _ _=>trivial⟩
 |[],_::_,i,K,hk=>by cases hk
 |_::_,[],i,K,hk=>by cases hk
 |t::ts,x::xs,i,K,hk=>by
  simp only[Rz] at hk;unfold XI at hk;obtain⟨v,m,y,l,src,hk,hm,hy,MY,RC,hl,hv⟩:=Ae7 h hk;obtain⟨vs,ms,ys,ls,srcs,hk,RB,hys,hS,hL,U5⟩:=WG h hk;have NZ:∃sr:Nat->Nat->Option (Nat × Nat),sr i=src/\∀k,k≠i->sr k=srcs k:=⟨fun k=>if k=i then src else srcs k,by simp,fun k hk=>by simp[hk]⟩
  obtain⟨sr,hsi,hso⟩:=NZ
  have TL:∀id off,src 0=some (id,off)->id∈l.flatMap Jp.ids:=by
   intro id off e;rcases hl with⟨_,_,h3⟩|⟨x',rfl,h3⟩
   ·rw[h3] at e;cases e
   ·cases x' with
    |var id' off' cts ws=>rw[h3.2.1] at e;cases e;simp[Jp.ids]
    |row id'=>rw[h3.2.1] at e;cases e;simp[Jp.ids]
    |none=>rw[h3.2] at e;cases e
  refine⟨v::vs,m++ms,y++ys,l++ls,sr,hk,?_,?_,⟨?_,?_,?_,?_,?_⟩,?_,fun fz h1 h2 bt EV=>⟨?_,?_⟩⟩
  ·intro i hi;rcases Bu.1 hi with hi|hi
   ·exact hm i hi
   ·exact RB i hi
  ·intro i hi;rcases Bu.1 hi with hi|hi
   ·exact hy i hi
   ·exact hys i hi
  ·intro k j q hq;simp only[G9];by_cases e:k=i
   ·subst e;omega
   ·rw[hso k e] at hq;have:=hS.dom k j q hq;omega
  ·intro k id off hq;rw[List.flatMap_append];by_cases e:k=i
   ·subst e;rw[hsi] at hq;exact Bu.2 (.inl (TL id off hq))
   ·rw[hso k e] at hq;exact Bu.2 (.inr (hS.lent k id off hq))
  ·intro k j id off hq;by_cases e:k=i
   ·subst e;rw[hsi] at hq;exact⟨(MY j id off hq).1,Bu.2 (.inl (MY j id off hq).2)⟩
   ·rw[hso k e] at hq;exact⟨(hS.mvd k j id off hq).1,Bu.2 (.inr (hS.mvd k j id off hq).2)⟩
  ·intro hn k k' id off off' hq Ic;rw[List.flatMap_append] at hn;obtain⟨_,h4,h5⟩:=Ma hn;by_cases e:k=i
   ·by_cases e':k'=i
    ·omega
    ·rw[hso k' e'] at Ic;subst e;rw[hsi] at hq;exact absurd (hS.lent k' id off' Ic) (h5 id (TL id off hq))
   ·rw[hso k e] at hq;by_cases e':k'=i
    ·subst e';rw[hsi] at Ic;exact absurd (hS.lent k id off hq) (h5 id (TL id off' Ic))
    ·rw[hso k' e'] at Ic;exact hS.inj0 h4 k k' id off off' hq Ic
  ·intro hn k k' j j' id off off' hq Ic;obtain⟨h3,h4,h5⟩:=Ma hn;by_cases e:k=i
   ·by_cases e':k'=i
    ·subst e;subst e';rw[hsi] at hq Ic;exact⟨rfl,RC h3 j j' id off off' hq Ic⟩
    ·rw[hso k' e'] at Ic;subst e;rw[hsi] at hq;exact absurd (hS.mvd k' j' id off' Ic).2 (h5 id (MY j id off hq).2)
   ·rw[hso k e] at hq;by_cases e':k'=i
    ·subst e';rw[hsi] at Ic;exact absurd (hS.mvd k j id off hq).2 (h5 id (MY j' id off' Ic).2)
    ·rw[hso k' e'] at Ic;exact hS.inj1 h4 k k' j j' id off off' hq Ic
  ·have DE:Vh s.hp sr (i+1) vs ls:=EW (fun k hk=>hso k (by omega)) hL;rcases hl with⟨rfl,hnp,h3⟩|⟨x',rfl,h3⟩
   ·exact .inl ⟨hnp,by rw[hsi];exact h3,DE⟩
   ·exact .inr ⟨x',ls,rfl,by rw[hsi];exact h3,DE⟩
  ·exact hv fz (fun i hi=>h1 i (by simp[hi])) h2 (bt i) (fun j=>by rw[EV,hsi])
  ·refine U5 fz (fun i hi=>h1 i (by simp[hi])) h2 (fun k j=>(srcs k j).bind (J2 β)) (fun _ _=>rfl) |> MJ fun k hk j=>?_
   rw[EV,hso k (by omega)]
end
open Go.RowKit
section
variable {R:Type}{r:R}{P:Program}{N:Nat}{w0:World}{X0:F6}{Y:Nat->Prop}{β β':Bt}{s:St}{a:Act}{w w':World}{o:Oper}{A:Nat->Prop}
theorem Ant{p:PV}{u:Value}(h:Az w A p u):Ck w A β p u:=by have h0:=h;cases h<;>exact h0
theorem Ao0{t:Nat}{ct:CT}{was p:PV}{K:Nat->PV->List (Nat × Bz)->Option R}(hk:Amp N t ct was p K=some r):
  (∃c,K t c []=some r/\CO c/\∀w A q u,Jy w A q p u->Az w A c u)\/∃es n cc,p=.own es n cc/\K (t+1) (.view (nid N t) es 0 n) [(nid N t,.ar false cc)]=some r:=by
 have tree:∀t',(KH t' p fun c=>K t c [])=some r->∃c,K t c []=some r/\CO c/\∀w A q u,Jy w A q p u->Az w A c u:=by
  intro t' hk;obtain⟨c,hk,hT,SX,hv⟩:=Ro hk;refine⟨c,hk,hT,fun w A q u h=>(hv w A (fun _=>none) u ?_).1⟩;cases p<;>first|exact h|exact SX.elim
 unfold Amp at hk;cases ct with
 |sl es=>
  dsimp only at hk;split at hk
  ·unfold Kn at hk;split at hk
   ·rename_i es' n c;cases hb:Nat.beq es' es<;>rw[hb] at hk
    ·cases hk
    ·have:=D4 hb;subst this;exact .inr ⟨_,_,_,rfl,hk⟩
   ·cases hk
  ·have h2:(KH (.sl es) p fun c=>(match c with | .lst _ es n c=>K t (.lst false es n c) []|_=>none))=some r:=hk;obtain⟨c,hk,hT,SX,hv⟩:=Ro h2;split at hk
   ·refine .inl ⟨_,hk,hT,fun w A q u h=>Az.unz (hv w A (fun _=>none) u ?_).1⟩;cases p<;>first|exact h|exact SX.elim
   ·cases hk
 |int k=>exact .inl (tree _ hk)
 |bool=>exact .inl (tree _ hk)
 |str=>exact .inl (tree _ hk)
 |any=>exact .inl (tree _ hk)
theorem JV:∀{cts:List CT}{ws ps:Ab}{t:Nat}{K:Nat->Ab->List (Nat × Bz)->Option R},VR N t cts ws ps K=some r ->
  ∃t' cs bs,∃qs:List (Nat × Nat),K t' cs bs=some r/\cs.length=ps.length/\ps.length=ws.length/\bs.map (·.1)=qs.map (·.1)/\(∀q∈qs,(∃k,q.1=nid N k)/\q.2<ps.length)/\(∀q∈qs,∀q'∈qs,q.2=q'.2->q.1=q'.1) /\
   (∀i bx,(i,bx)∈bs->∃c,bx=.ar false c)/\(∀c∈cs,∀i∈Aw c,∃bx,(i,bx)∈bs) /\
   ∀(w:World) (A:Nat->Prop) (own β':Bt) (j0:Nat) (us:List Value),(∀q∈qs,β' q.1=own (j0+q.2))->Hr w A own j0 ps us->Bw (Ck w A β') cs us/\∀i bx,(i,bx)∈bs->Wh w A β' i bx
 |[],[],ps,t,K,hk=>by
  obtain⟨rfl,hk⟩:=El hk;refine⟨t,[],[],[],hk,rfl,rfl,rfl,by simp,by simp,by simp,by simp,fun w A own β' j0 us _ h=>⟨?_,by simp⟩⟩;cases us with
  |nil=>trivial
  |cons u us=>exact h.elim
 |[],_::_,_,_,_,hk=>by cases hk
 |_::_,[],_,_,_,hk=>by cases hk
 |ct::cts,x::ws,ps,t,K,hk=>by
  unfold VR at hk;obtain⟨p,ps',KV,Eg⟩:=Bj hk;subst KV;rcases Ao0 Eg with⟨c,Gy,hT,hv⟩|⟨es,n,cc,rfl,Gy⟩
  ·obtain⟨t',cs,bs,qs,Vk,hl,Pc,hb,XE,OD,Iv,Pi,U5⟩:=JV Gy;refine⟨t',c::cs,bs,qs.map (fun q=>(q.1,q.2+1)),Vk,by simp[hl],by simp[Pc],by rw[hb];simp,?_,?_,Iv,?_,fun w A own β' j0 us hβ ho=>?_⟩
   ·intro q hq;obtain⟨q0,FG,rfl⟩:=List.mem_map.1 hq;exact⟨(XE q0 FG).1,by have:=(XE q0 FG).2;simp only[G9];omega⟩
   ·intro q hq q' Ic e;obtain⟨q0,FG,rfl⟩:=List.mem_map.1 hq;obtain⟨q1,Nx,rfl⟩:=List.mem_map.1 Ic;exact OD q0 FG q1 Nx (by simp only at e;omega)
   ·intro y hy i hi;rcases Bx.1 hy with rfl|hy
    ·rw[Kr hT] at hi;cases hi
    ·exact Pi y hy i hi
   ·cases us with
    |nil=>exact ho.elim
    |cons u us=>
     obtain⟨h1,h2⟩:=U5 w A own β' (j0+1) us (fun q hq=>by rw[hβ _ (List.mem_map_of_mem hq)];congr 1;simp only;omega) ho.2
     exact⟨⟨Ant (hv w A _ u ho.1),h1⟩,h2⟩
  ·obtain⟨t',cs,bs,qs,Vk,hl,Pc,hb,XE,OD,Iv,Pi,U5⟩:=JV Gy;refine⟨t',_::cs,(nid N t,.ar false cc)::bs,(nid N t,0)::qs.map (fun q=>(q.1,q.2+1)),Vk,by simp[hl],by simp[Pc],by simp only[Rz,hb];simp,?_,?_,?_,?_,fun w A own β' j0 us hβ ho=>?_⟩
   ·intro q hq;rcases Bx.1 hq with rfl|hq
    ·exact⟨⟨t,rfl⟩,by simp⟩
    ·obtain⟨q0,FG,rfl⟩:=List.mem_map.1 hq;exact⟨(XE q0 FG).1,by have:=(XE q0 FG).2;simp only[G9];omega⟩
   ·intro q hq q' Ic e;rcases Bx.1 hq with rfl|hq
    ·rcases Bx.1 Ic with rfl|Ic
     ·rfl
     ·obtain⟨q0,FG,rfl⟩:=List.mem_map.1 Ic;simp only at e;omega
    ·obtain⟨q0,FG,rfl⟩:=List.mem_map.1 hq;rcases Bx.1 Ic with rfl|Ic
     ·simp only at e;omega
     ·obtain⟨q1,Nx,rfl⟩:=List.mem_map.1 Ic;exact OD q0 FG q1 Nx (by simp only at e;omega)
   ·intro i bx hm;rcases Bx.1 hm with e|hm
    ·cases e;exact⟨cc,rfl⟩
    ·exact Iv i bx hm
   ·intro y hy i hi;rcases Bx.1 hy with rfl|hy
    ·simp only[Aw,Lo] at hi;subst hi;exact⟨_,GF⟩
    ·obtain⟨bx,Oc⟩:=Pi y hy i hi;exact⟨bx,Rw _ Oc⟩
   ·cases us with
    |nil=>exact ho.elim
    |cons u us=>
     obtain⟨h1,h2⟩:=U5 w A own β' (j0+1) us (fun q hq=>by rw[hβ _ (Rw _ (List.mem_map_of_mem hq))];congr 1;simp only;omega) ho.2
     have h0:=hβ (nid N t,0) GF;simp only[GD] at h0;refine⟨⟨?_,h1⟩,fun i bx hm=>?_⟩
     ·rcases ho.1 with⟨h3,rfl,_,h5⟩|⟨b,ob,cap,h3,h4,h5,h6,h7,_⟩
      ·exact .inl ⟨h0.trans h3,rfl,rfl,h5⟩
      ·exact .inr ⟨b,ob,ob,cap,h0.trans h3,h4,.inl rfl,h5,h6,h7⟩
     ·rcases Bx.1 hm with e|hm
      ·cases e;exact HM ho.1 h0
      ·exact h2 i bx hm
def Aff(hp C5:Nat->Option Bz)(bs:List (Nat × Bz))(x:Jp):Prop:=
 match x with
 |.var id off _ ws=>∃c cs,hp id=some (.st c)/\C5 id=some (.st (Bp c cs off))/\cs.length=ws.length/\off+cs.length<=c.length/\∀p∈cs,∀i∈Aw p,∃bx,(i,bx)∈bs
 |.row id=>∃c cs,hp id=some (.ar false c)/\C5 id=some (.ar false cs)
 |.none=>True
def Aqf(β β':Bt)(w':World)(A:Nat->Prop)(hp C5:Nat->Option Bz)(x:Jp):Prop:=
 match x with
 |.var id off _ ws=>∃c cs,hp id=some (.st c)/\C5 id=some (.st (Bp c cs off))/\cs.length=ws.length/\off+cs.length<=c.length /\
   ∀b o,β id=some (b,o)->(∀(j:Nat) p,cs[j]?=some p->∃v,w'.cell? ⟨b,o+off+j,none⟩=some v/\Ck w' A β' p v)/\∀j,j<cs.length->w'.frozen? ⟨b,o+off+j,none⟩=false
 |.row id=>∃cs,C5 id=some (.ar false cs)/\((β id=none/\cs=[])\/∃b o,β id=some (b,o)/\UQ w' A ⟨b,o,none⟩ cs/\∀j,o<=j->j<bsz w' b->w'.frozen? ⟨b,j,none⟩=false)
 |.none=>True
theorem GY{hp E9 C5:Nat->Option Bz}{bs bs1:List (Nat × Bz)}{x:Jp}(h1:∀i∈x.ids,E9 i=hp i)(hb:∀q∈bs,q∈bs1)(h:Aff E9 C5 bs x):Aff hp C5 bs1 x:=by
 cases x with
 |var id off cts ws=>
  obtain⟨c,cs,h2,h3,h4,h5,h6⟩:=h;refine⟨c,cs,by rw[<-h1 id (by simp[Jp.ids])];exact h2,h3,h4,h5,fun p hp i hi=>?_⟩
  obtain⟨bx,Oc⟩:=h6 p hp i hi;exact⟨bx,hb _ Oc⟩
 |row id=>
  obtain⟨c,cs,h2,h3⟩:=h;exact⟨c,cs,by rw[<-h1 id (by simp[Jp.ids])];exact h2,h3⟩
 |none=>trivial
theorem MQ{hp E9 C5:Nat->Option Bz}{x:Jp}(h1:∀i∈x.ids,E9 i=hp i)(h:Aqf β β' w' A E9 C5 x):Aqf β β' w' A hp C5 x:=by
 cases x with
 |var id off cts ws=>
  obtain⟨c,cs,h2,h3⟩:=h;exact⟨c,cs,by rw[<-h1 id (by simp[Jp.ids])];exact h2,h3⟩
 |row id=>exact h
 |none=>trivial
theorem Ams{hp E9:Nat->Option Bz}{q:Option (Nat × Nat)}{p:PV}{x:Jp}(h1:∀i∈x.ids,E9 i=hp i)(h:LOk hp q p x):LOk E9 q p x:=by
 cases x with
 |var id off cts ws'=>
  obtain⟨h2,h3,h5,c,h6,h7⟩:=h;exact⟨h2,h3,h5,c,by rw[h1 id (by simp[Jp.ids])];exact h6,h7⟩
 |row id=>
  obtain⟨h2,h3,c,h4⟩:=h;exact⟨h2,h3,c,by rw[h1 id (by simp[Jp.ids])];exact h4⟩
 |none=>exact h
theorem IB{hp E9:Nat->Option Bz}{src:Nat->Nat->Option (Nat × Nat)}:∀{ps:Ab}{i:Nat}{l:List Jp},(∀i∈l.flatMap Jp.ids,E9 i=hp i)->Vh hp src i ps l->Vh E9 src i ps l
 |[],_,_,_,h=>h
 |p::ps,i,l,hs,h=>by
  rcases h with⟨h1,h2,h3⟩|⟨x,l',rfl,h2,h3⟩
  ·exact .inl ⟨h1,h2,IB hs h3⟩
  ·exact .inr ⟨x,l',rfl,Ams (fun k hk=>hs k (by simp only[J7,Bu];exact .inl hk)) h2,IB (fun k hk=>hs k (by simp only[J7,Bu];exact .inr hk)) h3⟩
theorem Agc{own:Bt}{bt:MR}{j i:Nat}{p:PV}{zs:Ab}{r:List Ab}(hp:IK p=false)(h:CP w A own bt j i (p::zs) r):CP w A own bt j (i+1) zs r:=by cases p<;>first|exact h|cases hp
theorem Zj{src:Nat->Nat->Option (Nat × Nat)}{β:Bt}:∀{zs:Ab}{l:List Jp}{ro:List Ab} {i j t:Nat}{hp:Nat->Option Bz}{K:(Nat->Option Bz)->List (Nat × Bz)->Option R},
  FF N t l ro hp K=some r->Vh hp src i zs l->Ft (l.flatMap Jp.ids)=true ->
  ∃C5 bs,∃qs:List (Nat × Nat),K C5 bs=some r/\bs.map (·.1)=qs.map (·.1)/\(∀q∈qs,(∃k,q.1=nid N k)/\j<=q.2)/\(∀q∈qs,∀q'∈qs,q.2=q'.2->q.1=q'.1)/\(∀i bx,(i,bx)∈bs->∃c,bx=.ar false c) /\
   (∀i,i ∉ l.flatMap Jp.ids->C5 i=hp i)/\(∀x∈l,Aff hp C5 bs x) /\
   ∀(w':World) (A:Nat->Prop) (own β':Bt) (bt:MR),(∀q∈qs,β' q.1=own q.2)->(∀i,bt i 0=(src i 0).bind (J2 β))->CP w' A own bt j i zs ro ->
    (∀i bx,(i,bx)∈bs->Wh w' A β' i bx)/\∀x∈l,Aqf β β' w' A hp C5 x
 |[],l,ro,i,j,t,hp,K,hk,hL,hn=>by
  have hL:l=[]:=hL;subst hL;unfold FF at hk;obtain⟨rfl,hk⟩:=El hk;exact⟨hp,[],[],hk,rfl,by simp,by simp,by simp,fun _ _=>rfl,by simp,fun w' A own β' bt _ _ _=>⟨by simp,by simp⟩⟩
 |p::zs,l0,ro,i,j,t,hp,K,hk,hL0,hn=>by
  rcases hL0 with⟨NM,_,hL⟩|⟨x,l,rfl,hok,hL⟩
  rotate_left
  ··simp only[J7] at hn;obtain⟨hn1,hn2,hn3⟩:=Ma hn;cases x with
    |var id off cts ws'=>
     obtain⟨rfl,NZ,Y2,c,hc,CL⟩:=hok;unfold FF at hk;obtain⟨cs,ro',hro,Eg⟩:=Bj hk;subst hro;obtain⟨t',cs',bs,qs,Gy,IQ,NC,hb,XE,OD,Iv,Pi,hv⟩:=JV Eg;rw[hc] at Gy;simp only at Gy;change FF N t' l ro' (Db hp id (some (.st (Bp c cs' off)))) (fun C5 bs'=>K C5 (bs++bs'))=some r at Gy;have Afi:id ∉ l.flatMap Jp.ids:=hn3 id (by simp[Jp.ids]);have hL':Vh (Db hp id (some (.st (Bp c cs' off)))) src (i+1) zs l:=IB (fun k hkm=>Ar _ _ (fun e=>Afi (e ▸ hkm))) hL;obtain⟨C5,bs',qs',Vk,Jh,Nx,Agl,Afs,Pq,hsh,Aaq⟩:=Zj (β:=β) (j:=j+cs.length) Gy hL' hn2;have Aqk:C5 id=some (.st (Bp c cs' off)):=by rw[Pq id Afi,Ax]
     have SK:∀x∈l,∀k∈x.ids,Db hp id (some (.st (Bp c cs' off))) k=hp k:=fun x hx k hkm=>Ar _ _ (fun e=>Afi (e ▸ List.mem_flatMap.2 ⟨x,hx,hkm⟩));refine⟨C5,bs++bs',qs.map (fun q=>(q.1,j+q.2))++qs',Vk,by simp only[List.map_append,hb,Jh];simp,?_,?_,?_,?_,?_,fun w' A own β' bt hβ EV ho=>?_⟩
     ·intro q hq;rcases Bu.1 hq with hq|hq
      ·obtain⟨q0,FG,rfl⟩:=List.mem_map.1 hq;exact⟨(XE q0 FG).1,by simp only;omega⟩
      ·exact⟨(Nx q hq).1,by have:=(Nx q hq).2;omega⟩
     ·intro q hq q' Ic e;rcases Bu.1 hq with hq|hq
      ·obtain⟨q0,FG,rfl⟩:=List.mem_map.1 hq;have:=(XE q0 FG).2;rcases Bu.1 Ic with Ic|Ic
       ·obtain⟨q1,Nx,rfl⟩:=List.mem_map.1 Ic;exact OD q0 FG q1 Nx (by simp only at e;omega)
       ·have:=(Nx q' Ic).2;simp only at e;omega
      ·have h5:=(Nx q hq).2;rcases Bu.1 Ic with Ic|Ic
       ·obtain⟨q1,A3q,rfl⟩:=List.mem_map.1 Ic;have:=(XE q1 A3q).2;simp only at e;omega
       ·exact Agl q hq q' Ic e
     ·intro k bx hm;rcases Bu.1 hm with hm|hm
      ·exact Iv k bx hm
      ·exact Afs k bx hm
     ·intro k hk;simp only[J7,Bu,not_or] at hk;rw[Pq k hk.2];exact Ar _ _ (by rintro rfl;exact hk.1 (by simp[Jp.ids]))
     ·intro x hx;rcases Bx.1 hx with rfl|hx
      ·refine⟨c,cs',hc,Aqk,by omega,by omega,fun p hp k hk=>?_⟩;obtain⟨bx,Oc⟩:=Pi p hp k hk;exact⟨bx,Bu.2 (.inl Oc)⟩
      ·exact GY (SK x hx) (fun q hq=>Bu.2 (.inr hq)) (hsh x hx)
     ·obtain⟨⟨b,ob,TG,Hk,vs,hov,hcell,UT⟩,ho⟩:=ho
      ·obtain⟨h1,h2⟩:=hv w' A own β' j vs (fun q hq=>hβ _ (Bu.2 (.inl (List.mem_map_of_mem hq)))) hov;obtain⟨h3,h4⟩:=Aaq w' A own β' bt (fun q hq=>hβ q (Bu.2 (.inr hq))) EV ho;refine⟨fun k bx hm=>?_,fun x hx=>?_⟩
       ·rcases Bu.1 hm with hm|hm
        ·exact h2 k bx hm
        ·exact h3 k bx hm
       ·rcases Bx.1 hx with rfl|hx
        ·refine⟨c,cs',hc,Aqk,by omega,by omega,fun b1 o1 hβ1=>?_⟩;have Pi:=EV i;rw[TG,NZ] at Pi;simp only[Option.bind_some,J2,hβ1,Option.map_some,Option.some.injEq,Prod.mk.injEq] at Pi;obtain⟨rfl,rfl⟩:=Pi;refine⟨fun k p hp=>?_,fun k hk=>UT k (by omega)⟩;obtain⟨v,hv,hcr⟩:=h1.get hp;exact⟨v,hcell k v hv,hcr⟩
        ·exact MQ (SK x hx) (h4 x hx)
    |row id=>
     obtain⟨⟨pz,rfl⟩,NZ,c,hc⟩:=hok;unfold FF at hk;obtain⟨cs,ro',hro,Gy⟩:=Bj hk;subst hro;have Afi:id ∉ l.flatMap Jp.ids:=hn3 id (by simp[Jp.ids]);have hL':Vh (Db hp id (some (.ar false cs))) src (i+1) zs l:=IB (fun k hkm=>Ar _ _ (fun e=>Afi (e ▸ hkm))) hL;obtain⟨C5,bs',qs',Vk,Jh,Nx,Agl,Afs,Pq,hsh,Aaq⟩:=Zj (β:=β) (j:=j) Gy hL' hn2;have Aqk:C5 id=some (.ar false cs):=by rw[Pq id Afi,Ax]
     have SK:∀x∈l,∀k∈x.ids,Db hp id (some (.ar false cs)) k=hp k:=fun x hx k hkm=>Ar _ _ (fun e=>Afi (e ▸ List.mem_flatMap.2 ⟨x,hx,hkm⟩));refine⟨C5,bs',qs',Vk,Jh,Nx,Agl,Afs,?_,?_,fun w' A own β' bt hβ EV ho=>?_⟩
     ·intro k hk;simp only[J7,Bu,not_or] at hk;rw[Pq k hk.2];exact Ar _ _ (by rintro rfl;exact hk.1 (by simp[Jp.ids]))
     ·intro x hx;rcases Bx.1 hx with rfl|hx
      ·exact⟨c,cs,hc,Aqk⟩
      ·exact GY (SK x hx) (fun q hq=>hq) (hsh x hx)
     ·obtain⟨Ak9,ho⟩:=ho
      ·obtain⟨h3,h4⟩:=Aaq w' A own β' bt hβ EV ho;refine⟨h3,fun x hx=>?_⟩;rcases Bx.1 hx with rfl|hx
       ·refine⟨cs,Aqk,?_⟩;have Pi:=EV i;rw[NZ] at Pi;simp only[Option.bind_some,Afz] at Pi;rw[Pi] at Ak9;exact Ak9
       ·exact MQ (SK x hx) (h4 x hx)
    |none=>
     obtain⟨⟨pz,rfl⟩,NZ⟩:=hok;unfold FF at hk;obtain⟨cs,ro',hro,Gy⟩:=Bj hk;subst hro;obtain⟨C5,bs',qs',Vk,Jh,Nx,Agl,Afs,Pq,hsh,Aaq⟩:=Zj (β:=β) (j:=j) Gy hL hn2;refine⟨C5,bs',qs',Vk,Jh,Nx,Agl,Afs,?_,?_,fun w' A own β' bt hβ EV ho=>?_⟩
     ·intro k hk;simp only[J7,Bu,not_or] at hk;exact Pq k hk.2
     ·intro x hx;rcases Bx.1 hx with rfl|hx
      ·trivial
      ·exact hsh x hx
     ·obtain⟨Ak9,ho⟩:=ho
      ·obtain⟨h3,h4⟩:=Aaq w' A own β' bt hβ EV ho;refine⟨h3,fun x hx=>?_⟩;rcases Bx.1 hx with rfl|hx
       ·trivial
       ·exact h4 x hx
  ·obtain⟨C5,bs',qs',Vk,Jh,Nx,Agl,Afs,Pq,hsh,Aaq⟩:=Zj (β:=β) (j:=j) hk hL hn;exact⟨C5,bs',qs',Vk,Jh,Nx,Agl,Afs,Pq,hsh,fun w' A own β' bt hβ EV ho=>Aaq w' A own β' bt hβ EV (Agc NM ho)⟩
end
open Go.RowKit
theorem Iq(hp:Nat->Option Bz)(ids:B5)(i:Nat):AH hp ids i=if i∈ids then (hp i).map (fun _=>Bz.mv) else hp i:=by
 unfold AH;by_cases hi:i∈ids
 ·have:ids.any (Nat.beq i)=true:=List.any_eq_true.2 ⟨i,hi,Of i⟩;rw[this,B7 hi];rfl
 ·have:ids.any (Nat.beq i)=false:=by
   cases hb:ids.any (Nat.beq i)
   ·rfl
   ·obtain⟨j,hj,e⟩:=List.any_eq_true.1 hb;exact absurd (D4 e ▸ hj) hi
  rw[this,Ba hi];rfl
theorem X6:∀{nw:List (Nat × Bz)} {hp:Nat->Option Bz},Cl hp nw=true->(nw.map (·.1)).Nodup
 |[],_,_=>List.nodup_nil
 |(i,b)::r,hp,h=>by
  simp only[Cl,Gl,Option.isNone_iff_eq_none,Bool.not_eq_true'] at h;simp only[Rz,List.nodup_cons];refine⟨fun hm=>?_,X6 h.2⟩;obtain⟨q,hq,e⟩:=List.mem_map.1 hm;have:r.any (fun q=>Nat.beq q.1 i)=true:=List.any_eq_true.2 ⟨q,hq,by rw[e];exact Of i⟩
  rw[this] at h;cases h.1.2
theorem Ari:∀{l:List (Nat × Nat)},(l.map (·.1)).Nodup->∀q∈l,BP l q.1=some q.2
 |[],_,_,h=>by cases h
 |(j,b)::r,hn,q,hq=>by
  simp only[Rz,List.nodup_cons] at hn;unfold BP;rcases Bx.1 hq with rfl|hq
  ·simp only[Of,cond_true]
  ·have:Nat.beq q.1 j=false:=by
    cases hb:Nat.beq q.1 j
    ·rfl
    ·exact absurd (D4 hb ▸ List.mem_map_of_mem hq) hn.1
   simp only[this,cond_false];exact Ari hn.2 q hq
theorem Ac5:∀{l:List (Nat × Nat)} {i:Nat},i ∉ l.map (·.1)->BP l i=none
 |[],_,_=>rfl
 |(j,b)::r,i,h=>by
  simp only[Rz,Bx,not_or] at h;unfold BP
  have:Nat.beq i j=false:=by
   cases hb:Nat.beq i j
   ·rfl
   ·exact absurd (D4 hb) h.1
  simp only[this,cond_false];exact Ac5 h.2
section
variable {R:Type}{r:R}{P:Program}{N:Nat}{w0:World}{X0:F6}{Y:Nat->Prop}{β β':Bt}{s:St}{a:Act}{w w':World}{o:Oper}{A A':Nat->Prop}
theorem Jy.weak(hA:∀b,b<w.heap.size->A' b->A b){q:Option (Nat × Nat)}{p:PV}{u:Value}(h:Jy w A q p u):Jy w A' q p u:=by
 have tr:∀{p:PV},Az w A p u->Az w A' p u:=fun h=>h.step (Cq.refl _ _) hA;cases p with
 |own es n c=>
  rcases h with h|⟨b,ob,cap,h1,h2,h3,h4,h5,h6,h7⟩
  ·exact .inl h
  ·exact .inr ⟨b,ob,cap,h1,h2,h3,h4,h5,h6.weak hA,h7⟩
 |_=>exact tr h
theorem Hr.weak(hA:∀b,b<w.heap.size->A' b->A b){own:Bt}:∀{ps:Ab}{us:List Value}{j:Nat},Hr w A own j ps us->Hr w A' own j ps us
 |[],[],_,_=>trivial
 |[],_::_,_,h=>h.elim
 |_::_,[],_,h=>h.elim
 |_::_,_::_,_,h=>⟨h.1.weak hA,Hr.weak hA h.2⟩
theorem Adz.weak(hA:∀b,b<w.heap.size->A' b->A b){bt:Bt}{p:PV}{u:Value}(h:Adz w A bt p u):Adz w A' bt p u:=by
 cases p with
 |pbox ps=>
  obtain⟨b,ob,h1,h2,h3,vs,h4,h5⟩:=h;exact⟨b,ob,h1,h2,h3,vs,h4.weak hA,h5⟩
 |tup ps=>
  obtain⟨es,n,c,h1,h2⟩:=h;exact⟨es,n,c,h1,h2.weak hA⟩
 |agg cs=>
  obtain⟨vs,h1,h2,h3⟩:=h;exact⟨vs,h1,h2,h3.weak hA⟩
 |_=>exact⟨h.1,h.2.weak hA⟩
theorem Qm.weak(hA:∀b,b<w.heap.size->A' b->A b){bt:MR}:∀{ps:Ab}{us:List Value}{i:Nat},Qm w A bt i ps us->Qm w A' bt i ps us
 |[],[],_,_=>trivial
 |[],_::_,_,h=>h.elim
 |_::_,[],_,h=>h.elim
 |_::_,_::_,_,h=>⟨h.1.weak hA,Qm.weak hA h.2⟩
theorem HX{bt:MR}(k:Bool):∀{xs:List Operand}{ps:Ab}{i:Nat},Qm w A bt i ps (xs.map a.eval)->Qm w A bt i (Nq k xs ps) (xs.map a.eval)
 |[],[],_,h=>h
 |[],_::_,_,h=>h
 |_::_,[],_,h=>h
 |x::xs,p::ps,i,h=>by
  simp only[Rz] at h ⊢;refine⟨?_,HX k h.2⟩;split
  ·exact⟨.inl trivial,Az.lnil _ _⟩
  ·exact h.1
theorem YM(k:Bool)(x:Operand)(xs:List Operand)(p:PV)(ps:Ab):∃p',Nq k (x::xs) (p::ps)=p'::Nq k xs ps/\IK p'=IK p/\(IK p=true->p'=p):=by
 refine⟨_,rfl,?_,fun h=>?_⟩
 ·split
  ·rfl
  ·rfl
 ·split
  ·cases h
  ·rfl
theorem Xq{hp:Nat->Option Bz}{src:Nat->Nat->Option (Nat × Nat)}(k:Bool):∀{xs:List Operand}{ps:Ab}{i:Nat}{l:List Jp},Vh hp src i ps l->Vh hp src i (Nq k xs ps) l
 |[],[],_,_,h=>h
 |[],_::_,_,_,h=>h
 |_::_,[],_,_,h=>h
 |x::xs,p::ps,i,l,h=>by
  obtain⟨p',e,h1,h2⟩:=YM k x xs p ps;rw[e];rcases h with⟨h3,h4,h5⟩|⟨y,l',rfl,h4,h5⟩
  ·exact .inl ⟨by rw[h1];exact h3,h4,Xq k h5⟩
  ·exact .inr ⟨y,l',rfl,by rw[h2 (Aij h4)];exact h4,Xq k h5⟩
theorem QL{hp:Nat->Option Bz}{src:Nat->Nat->Option (Nat × Nat)}:∀{ps:Ab}{i:Nat}{l:List Jp},Vh hp src i ps l->∀id∈l.flatMap Jp.ids,Ct (hp id)/\∃k off,src k 0=some (id,off)
 |[],_,_,h,id,Br=>by
  have h:_=[]:=h;rw[h] at Br;cases Br
 |p::ps,i,l,h,id,Br=>by
  rcases h with⟨_,_,h3⟩|⟨x,l',rfl,h2,h3⟩
  ·exact QL h3 id Br
  ·simp only[J7,Bu] at Br;rcases Br with Br|Br
   ·cases x with
    |var id' off cts ws=>
     simp only[Jp.ids,Lo] at Br;subst Br;obtain⟨_,h4,_,c,h5,_⟩:=h2;exact⟨by rw[h5];trivial,i,_,h4⟩
    |row id'=>
     simp only[Jp.ids,Lo] at Br;subst Br;obtain⟨_,h4,c,h5⟩:=h2;exact⟨by rw[h5];trivial,i,_,h4⟩
    |none=>simp[Jp.ids] at Br
   ·exact QL h3 id Br
theorem Aq6{hp:Nat->Option Bz}{src:Nat->Nat->Option (Nat × Nat)}:∀{ps:Ab}{i:Nat}{l:List Jp},Vh hp src i ps l->∀k p id off,ps[k]?=some p->src (i+k) 0=some (id,off) ->
   (∃c ws,hp id=some (.st c)/\p=.pbox ws/\off+ws.length<=c.length)\/((∃c,hp id=some (.ar false c))/\off=0/\∃ws,p=.tup ws)
 |[],_,_,_,k,p,id,off,hp,_=>by simp at hp
 |p::ps,i,l,h,k,p',id,off,C5,hs=>by
  have DE:∃l',Vh hp src (i+1) ps l':=by
   rcases h with⟨_,_,h3⟩|⟨x,l',_,_,h3⟩<;>exact⟨_,h3⟩
  cases k with
  |succ k=>
   obtain⟨l',h'⟩:=DE;exact Aq6 h' k p' id off (by simpa using C5) (by rw[show i+1+k=i+(k+1) by omega];exact hs)
  |zero=>
   simp only[List.getElem?_cons_zero,Option.some.injEq] at C5;subst C5;rw[GD] at hs;rcases h with⟨_,h2,_⟩|⟨x,l',_,h2,_⟩
   ·rw[hs] at h2;cases h2
   ·cases x with
    |var id' off' cts ws=>
     obtain⟨h3,h4,_,c,h5,h6⟩:=h2;rw[hs] at h4;cases h4;exact .inl ⟨c,ws,h5,h3,h6⟩
    |row id'=>
     obtain⟨h3,h4,c,h5⟩:=h2;rw[hs] at h4;cases h4;exact .inr ⟨⟨c,h5⟩,rfl,h3⟩
    |none=>
     have:=h2.2;rw[hs] at this;cases this
theorem Ac6{hp : Nat -> Option Bz}{src : Nat -> Nat -> Option (Nat × Nat)}{id off : Nat}{cts : List CT}{ws : Ab}: ∀ {ps : Ab} {i : Nat} {l : List Jp}, Vh hp src i ps l -> Jp.var id off cts ws ∈ l ->
      ∃ k, ps[k]? = some (.pbox ws) /\ src (i + k) 0 = some (id, off)
  | [], _, _, h, hm => by
    have h : _ = [] := h
    rw[h] at hm; cases hm
  | p :: ps, i, l, h, hm => by
    have next : ∀ {l'}, Vh hp src (i + 1) ps l' -> Jp.var id off cts ws ∈ l' -> ∃ k, (p :: ps)[k]? = some (.pbox ws) /\ src (i + k) 0 = some (id, off) := by
      intro l' h' Rr
      obtain⟨k, h1, h2⟩ := Ac6 h' Rr
      exact⟨k + 1, by simpa using h1, by rw[show i + (k + 1) = i + 1 + k by omega]; exact h2⟩
    rcases h with⟨_, _, h3⟩ | ⟨x, l', rfl, h2, h3⟩
    · exact next h3 hm
    · rcases Bx.1 hm with e | hm
      · subst e
        obtain⟨h1, h4, _⟩ := h2
        subst h1
        exact⟨0, rfl, h4⟩
      · exact next h3 hm
theorem Aet{hp:Nat->Option Bz}{src:Nat->Nat->Option (Nat × Nat)}:∀{ps:Ab}{i:Nat}{l:List Jp},Vh hp src i ps l->∀k id off,i<=k->src k 0=some (id,off)->k<i+ps.length->∃p,ps[k-i]?=some p/\IK p=true
 |[],i,_,_,k,id,off,h1,_,h3=>by simp at h3;omega
 |p::ps,i,l,h,k,id,off,h1,h2,h3=>by
  by_cases e:k=i
  ·subst e;rcases h with⟨_,h4,_⟩|⟨x,l',_,h4,_⟩
   ·rw[h2] at h4;cases h4
   ·exact⟨p,by simp,Aij h4⟩
  ·have DE:∃l',Vh hp src (i+1) ps l':=by
    rcases h with⟨_,_,h3⟩|⟨x,l',_,_,h3⟩<;>exact⟨_,h3⟩
   obtain⟨l',h'⟩:=DE;obtain⟨q,h5,h6⟩:=Aet h' k id off (by omega) h2 (by simp at h3;omega)
   refine⟨q,?_,h6⟩;rw[show k-i=(k-(i+1))+1 by omega]
   simpa using h5
theorem Qm.len{bt:MR}:∀{ps:Ab}{us:List Value}{i:Nat},Qm w A bt i ps us->ps.length=us.length
 |[],[],_,_=>rfl
 |[],_::_,_,h=>h.elim
 |_::_,[],_,h=>h.elim
 |_::_,_::_,_,h=>by simp[Qm.len h.2]
theorem Ab3(h:B9 N w0 X0 Y β s a w){G:Vs}(Jz:MD P G w0 X0){C:Jm}{call:Bi}(C6:∀f args res,call f args=some res->C7 G P f args res){c:Call}{f:FuncId}(ho:o.op=.call c)(hc:c.callee=.value (.func f)){K:St->Option R}(hk:JX C P N call s o f c K=some r):
  ∃s',K s'=some r/\∀(next:Act->World->Prop) (Q:Exit->Act->World->Prop),(∀a' w' β',B9 N w0 X0 Y β' s' a' w'->next a' w')->o.wp P a w next Q:=by
 unfold JX at hk;obtain⟨vs0,m,x,l,src,Eg,hm,hx,hS,hL,Fh⟩:=WG h hk;obtain⟨hb,Gy⟩:=Au Eg;simp only[Gl] at hb;obtain⟨⟨⟨TC,Ayw⟩,hN⟩,Alk⟩:=hb;have hN:0<N:=Nat.lt_of_succ_le (Wu hN);obtain⟨hnl,hnx,hlx⟩:=Ma TC
 have hml:∀i∈m,i ∉ l.flatMap Jp.ids/\i ∉ x:=by
  intro i hi;have:=List.all_eq_true.1 Ayw i hi
  have hn:∀k∈l.flatMap Jp.ids++x,i≠k:=by
   rintro k hk rfl
   have h2:(l.flatMap Jp.ids++x).any (Nat.beq i)=true:=List.any_eq_true.2 ⟨i,hk,Of i⟩;rw[h2] at this;cases this
  exact⟨fun hq=>hn i (by simp only[Bu];exact .inl hq) rfl,fun hq=>hn i (by simp only[Bu];exact .inr hq) rfl⟩
 replace hL:=Xq (C.kz f) (xs:=c.args.toList) hL
 replace Fh:=fun fz h1 h2 bt EV=>HX (a:=a) (C.kz f) (Fh fz h1 h2 bt EV)
 generalize Nq (C.kz f) c.args.toList vs0=vs at Gy Fh hL;obtain⟨rv,ro,Y2,Vk⟩:=XJ Gy;obtain⟨ws,bs,U8,hwl,hnt,OM,hrs,hri,hws⟩:=JY (C.shr f) N Vk;obtain⟨Wx,XW⟩:=Au U8;obtain⟨lids,TL⟩:∃lids,l.flatMap Jp.ids=lids:=⟨_,rfl⟩
 rw[TL] at hS hnl hlx hml;have A26:∀i,i ∉ x->AH (Ae s.hp m) x i=Ae s.hp m i:=fun i hi=>by rw[Iq,Ba hi]
 have Aiw:∀i,i∈lids->AH (Ae s.hp m) x i=s.hp i:=fun i hi=>by
  rw[A26 i (hlx i hi),Cp,Ba (fun hq=>(hml i hq).1 hi)]
 have hLM:Vh (AH (Ae s.hp m) x) src 0 vs l:=IB (fun i hi=>Aiw i (TL ▸ hi)) hL;obtain⟨C5,bs',qs,hk6,hbq,XE,OD,Iv,Pq,hsh,Aaq⟩:=Zj (β:=β) (j:=S4 rv) XW hLM (by rw[TL];exact hnl)
 obtain⟨Vj,hk7⟩:=Au hk6;refine⟨_,hk7,fun next Q hn=>?_⟩;clear hk Eg Gy Vk U8 XW hk6 hk7;rw[TL] at Pq;obtain⟨⟨fn,hfn,hfb⟩,VL⟩:=C6 f vs _ Y2;have hf:=h.freeze hm;have Ako:=QL hL;rw[TL] at Ako
 have XS:∀i,i∈lids\/i∈x->Ae s.hp m i=s.hp i:=by
  intro i hi;rw[Cp,Ba];intro hq;rcases hi with hi|hi
  ·exact (hml i hq).1 hi
  ·exact (hml i hq).2 hi
 have HP:∀i,i∈lids\/i∈x->Ct (s.hp i):=by
  intro i hi;rcases hi with hi|hi
  ·exact (Ako i hi).1
  ·obtain⟨cc,hcc⟩:=hx i hi;rw[hcc];trivial
 have A33:∀i j id off,src i j=some (id,off)->id∈lids\/id∈x:=by
  intro i j id off hs;cases j with
  |zero=>exact .inl (hS.lent i id off hs)
  |succ j=>exact .inr (hS.mvd i j id off hs).2
 obtain⟨bt,EV⟩:∃bt:MR,∀i j,bt i j=(src i j).bind (J2 β):=⟨_,fun _ _=>rfl⟩
 have btS:∀{i j b ob},bt i j=some (b,ob)->∃id off o',src i j=some (id,off)/\β id=some (b,o')/\ob=o'+off/\(id∈lids\/id∈x):=by
  intro i j b ob hb;rw[EV] at hb;cases hs:src i j with
  |none=>rw[hs] at hb;cases hb
  |some q=>
   rw[hs] at hb;obtain⟨id,off⟩:=q;simp only[Option.bind_some,J2] at hb;cases hβ:β id with
   |none=>rw[hβ] at hb;cases hb
   |some p=>
    rw[hβ] at hb;obtain⟨b',o'⟩:=p;simp only[Option.map_some,Option.some.injEq,Prod.mk.injEq] at hb;obtain⟨rfl,rfl⟩:=hb;exact⟨id,off,o',rfl,hβ,rfl,A33 i j id off hs⟩
 have btX:∀{b},BtX bt b->∃id o',β id=some (b,o')/\(id∈lids\/id∈x):=by
  rintro b ⟨i,j,ob,hb⟩
  obtain⟨id,off,o',_,h2,_,h4⟩:=btS hb;exact⟨id,o',h2,h4⟩
 have hBA:∀b,BtX bt b->DS s.hp β b:=fun b hb=>by
  obtain⟨id,o',h1,h2⟩:=btX hb;exact⟨id,o',HP id h2,h1⟩
 obtain⟨Yc,hYc⟩:∃Yc:Nat->Prop,∀b,Yc b↔((∃id ob,Ct (Ae s.hp m id)/\β id=some (b,ob)/\id ∉ lids/\id ∉ x)\/Y b):=⟨_,fun _=>Iff.rfl⟩
 have Hk:vs.length=c.args.toList.length:=by
  have:=(Fh m (fun _ hi=>hi) hm bt EV).len
  simpa using this
 have A7d:Ins w Yc bt vs (c.args.toList.map a.eval):=by
  refine⟨fun b hb=>?_,fun b hb hB=>?_,fun b hB=>?_,fun i j i' j' b ob ob' hb Jh=>?_,fun i q hq=>?_,?_⟩
  ·rcases (hYc b).1 hb with⟨id,ob,hl,hβ,_⟩|hY
   ·exact hf.blt id b ob (Dj hl) hβ
   ·exact Io (h.Ylt b hY) h.fr.step.size
  ·obtain⟨id',o',h1,h2⟩:=btX hB;rcases (hYc b).1 hb with⟨id,ob,hl,hβ,h3,h4⟩|hY
   ·have:=hf.inj id id' b ob o' hl (by show Ct (Ae s.hp m id');rw[XS id' h2];exact HP id' h2) hβ h1
    subst this;rcases h2 with h2|h2
    ·exact h3 h2
    ·exact h4 h2
   ·exact h.Yx b hY ⟨id',o',HP id' h2,h1⟩
  ·obtain⟨id',o',h1,h2⟩:=btX hB;exact h.blt id' b o' (Dj (HP id' h2)) h1
  ·obtain⟨id,off,o1,h1,h2,_,h4⟩:=btS hb;obtain⟨id',off',o1',WR,h2',_,h4'⟩:=btS Jh;have:=h.inj id id' b o1 o1' (HP id h4) (HP id' h4') h2 h2';subst this;cases j with
   |zero=>
    cases j' with
    |zero=>exact⟨hS.inj0 hnl i i' id off off' h1 WR,rfl⟩
    |succ j'=>exact absurd (hS.mvd i' j' id off' WR).2 (hlx id (hS.lent i id off h1))
   |succ j=>
    cases j' with
    |zero=>exact absurd (hS.mvd i j id off h1).2 (hlx id (hS.lent i' id off' WR))
    |succ j'=>
     obtain⟨h5,h6⟩:=hS.inj1 hnx i i' j j' id off off' h1 WR;exact⟨h5,by rw[h6]⟩
  ·obtain⟨b,ob⟩:=q;obtain⟨id,off,o',h1,_⟩:=btS hq;obtain⟨p,hp,h2⟩:=Aet hL i id off (Nat.zero_le _) h1 (by have:=hS.dom i 0 _ h1;rw[Hk];exact this.2)
   exact⟨p,by simpa using hp,h2⟩
  ·refine (Fh m (fun _ hi=>hi) hm bt EV).weak fun b _ hb=>?_;rcases hb with hb|hb
   ·obtain⟨id',o',h1,h2⟩:=btX hb;exact .inl ⟨id',o',by rw[XS id' h2];exact HP id' h2,h1⟩
   ·rcases (hYc b).1 hb with⟨id,ob,hl,hβ,_⟩|hY
    ·exact .inl ⟨id,ob,hl,hβ⟩
    ·exact .inr hY
 unfold Oper.wp;rw[GN ho hc Jz.ng hfn hfb];show Calls P f _ w _;have hca:c.args.map a.eval=(c.args.toList.map a.eval).toArray:=by rw[<-List.map_toArray,Array.toArray_toList]
 rw[hca];refine (VL w Yc bt _ A7d (Jz.fr w h.fr) (fun b x=>⟨Io (Jz.y b x).1 h.fr.step.size,fun hB=>(h.ownd b (hBA b hB)).elim (Jz.y b x).2 (fun CL=>absurd (Jz.y b x).1 (Nat.not_lt.2 CL))⟩)).mono ?_
 rintro e w' ⟨us,own,rfl,out⟩
 obtain⟨ha1,ha2⟩:=Ca Vj;obtain⟨hg1,hg2⟩:=F9 (hp:=C5) ha2;have Af3:=X6 Vj;rw[List.map_append,List.nodup_append] at Af3;obtain⟨Bar,A3w,A5j⟩:=Af3;rw[hbq] at A3w
 obtain⟨β1,hβ1,hβ2⟩:∃β1:Bt,(∀i,(∃bx,(i,bx)∈bs)->β1 i=own ((i-o.dst.getD N) / N))/\∀i,(¬∃bx,(i,bx)∈bs)->β1 i=match BP qs i with|some j=>own j|none=>β i:=by
  refine⟨fun i=>if (bs.any fun q=>Nat.beq q.1 i)=true then own ((i-o.dst.getD N) / N) else match BP qs i with|some j=>own j|none=>β i,fun i hi=>?_,fun i hi=>?_⟩
  ·show (if _ then _ else _)=_;rw[B7 (YX.2 hi)]
  ·show (if _ then _ else _)=_;rw[Ba (fun hq=>hi (YX.1 hq))]
 have hβbs:∀j,(∃bx,(o.dst.getD N+N*j,bx)∈bs)->β1 (o.dst.getD N+N*j)=own (0+j):=by
  intro j hj;rw[hβ1 _ hj,Nat.add_sub_cancel_left,Nat.mul_div_cancel_left _ hN,Cu]
 have hqb:∀q∈qs,∃bx,(q.1,bx)∈bs':=by
  intro q hq;have:q.1∈bs'.map (·.1):=by rw[hbq];exact List.mem_map_of_mem hq
  obtain⟨⟨i,bx⟩,hm,e⟩:=List.mem_map.1 this;exact⟨bx,e ▸ hm⟩
 have A5g:∀i bx,(i,bx)∈bs'->∃j,(i,j)∈qs:=by
  intro i bx hm;have:i∈qs.map (·.1):=by rw[<-hbq];exact List.mem_map.2 ⟨_,hm,rfl⟩
  obtain⟨⟨i',j⟩,hm,e⟩:=List.mem_map.1 this;exact⟨j,e ▸ hm⟩
 have hbb:∀i,(∃bx,(i,bx)∈bs')->¬∃bx,(i,bx)∈bs:=by
  rintro i ⟨bx,hm⟩ ⟨bx',Rr⟩
  exact A5j i (List.mem_map.2 ⟨_,Rr,rfl⟩) i (List.mem_map.2 ⟨_,hm,rfl⟩) rfl
 have hβqs:∀q∈qs,β1 q.1=own q.2:=by
  intro q hq;rw[hβ2 q.1 (hbb q.1 (hqb q hq)),Ari A3w q hq]
 have hβold:∀i,C5 i≠none->β1 i=β i:=by
  intro i hi
  have hn1:¬∃bx,(i,bx)∈bs:=by
   rintro⟨bx,hm⟩
   exact hi (ha1 i bx (Bu.2 (.inl hm)))
  rw[hβ2 i hn1,Ac5];intro hm;obtain⟨q,hq,e⟩:=List.mem_map.1 hm;obtain⟨bx,Oc⟩:=hqb q hq;exact hi (ha1 i bx (Bu.2 (.inr (e ▸ Oc))))
 obtain⟨U5,hba⟩:=hws w' _ own β1 w.heap.size 0 us hβbs out.vals;obtain⟨A7n,A2s⟩:=Aaq w' _ own β1 bt hβqs (fun i=>EV i 0) out.outs
 have Awr:∀id∈lids,∃y∈l,id∈y.ids:=by
  intro id Br;rw[<-TL] at Br;exact List.mem_flatMap.1 Br
 have As0:∀id∈lids,(∃off c cs,s.hp id=some (.st c)/\C5 id=some (.st (Bp c cs off))/\off+cs.length<=c.length/\(∀p∈cs,∀i∈Aw p,∃bx,(i,bx)∈bs'))\/∃c cs,s.hp id=some (.ar false c)/\C5 id=some (.ar false cs):=by
  intro id Br;obtain⟨y,hy,hyi⟩:=Awr id Br;have h1:=hsh y hy;cases y with
  |var id' off cts ws'=>
   simp only[Jp.ids,Lo] at hyi;subst hyi;obtain⟨c1,cs,h2,h3,h4,h5,h6⟩:=h1;rw[Aiw id Br] at h2;exact .inl ⟨off,c1,cs,h2,h3,h5,h6⟩
  |row id'=>
   simp only[Jp.ids,Lo] at hyi;subst hyi;obtain⟨c1,cs,h2,h3⟩:=h1;rw[Aiw id Br] at h2;exact .inr ⟨c1,cs,h2,h3⟩
  |none=>simp[Jp.ids] at hyi
 have A7o:∀id∈lids,C5 id≠none:=by
  intro id Br;rcases As0 id Br with⟨_,_,_,_,h2,_⟩|⟨_,_,_,h2⟩<;>rw[h2]<;>simp
 have hpK:∀id,id ∉ lids->C5 id=AH (Ae s.hp m) x id:=fun id Br=>Pq id Br
 have Ld:∀i,s.hp i≠none->C5 i≠none:=by
  intro i hi;by_cases hl:i∈lids
  ·exact A7o i hl
  ·rw[hpK i hl,Iq];have h1:Ae s.hp m i≠none:=fun e=>hi (Fp.1 e);split
   ·cases hq:Ae s.hp m i with
    |none=>exact absurd hq h1
    |some b=>simp
   ·exact h1
 have As9:∀i,(s.hp i≠none\/∃bx,(i,bx)∈bs++bs')->A5 C5 (bs++bs') i≠none:=by
  rintro i (hi|⟨bx,hm⟩)
  ·have h1:=Ld i hi;rw[hg2 i (fun bx hm=>h1 (ha1 i bx hm))];exact h1
  ·rw[hg1 i bx hm];simp
 have Km:∀id,(∃bx,(id,bx)∈bs++bs')\/A5 C5 (bs++bs') id=C5 id:=fun id=>by
  by_cases hx:∃bx,(id,bx)∈bs++bs'
  ·exact .inl hx
  ·exact .inr (hg2 id fun bx hb=>hx ⟨bx,hb⟩)
 have hold:∀id bx,C5 id=some bx->Ct (some bx)->Ct (s.hp id)/\id ∉ x/\(id∈lids\/(id ∉ lids/\Ae s.hp m id=some bx)):=by
  intro id bx hb hl;by_cases Br:id∈lids
  ·exact⟨HP id (.inl Br),hlx id Br,.inl Br⟩
  ·rw[hpK id Br,Iq] at hb;split at hb
   ·cases hq:Ae s.hp m id with
    |none=>rw[hq] at hb;cases hb
    |some b=>rw[hq] at hb;simp at hb;subst hb;exact hl.elim
   ·rename_i hxn;exact⟨by rw[M5 hb hl];exact hl,hxn,.inr ⟨Br,hb⟩⟩
 have EK:∀i bx,(i,bx)∈bs++bs'->∃j,β1 i=own j/\((i=o.dst.getD N+N*j/\j<S4 rv)\/((i,j)∈qs/\S4 rv<=j)):=by
  intro i bx hm;rcases Bu.1 hm with hm|hm
  ·obtain⟨⟨j,rfl,hj⟩,_⟩:=hba i bx hm;exact⟨j,by rw[hβbs j ⟨bx,hm⟩,Cu],.inl ⟨rfl,hj⟩⟩
  ·obtain⟨j,hj⟩:=A5g i bx hm;exact⟨j,hβqs _ hj,.inr ⟨hj,(XE _ hj).2⟩⟩
 have Av8:∀i bx,(i,bx)∈bs++bs'->Ct (some bx)/\Wh w' (QE bt own Yc) β1 i bx/\∀cs,bx=.st cs->∀b ob,β1 i=some (b,ob)->w.heap.size<=b:=by
  intro i bx hm;rcases Bu.1 hm with hm|hm
  ·exact (hba i bx hm).2
  ·obtain⟨cc,rfl⟩:=Iv i bx hm;exact⟨trivial,A7n i _ hm,fun cs e=>by cases e⟩
 have Ayt:∀b,(∃i k o',bt i (k+1)=some (b,o'))->∃id o',id∈x/\β id=some (b,o'):=by
  rintro b ⟨i,k,o',hb⟩
  obtain⟨id,off,o1,h1,h2,_,_⟩:=btS hb;exact⟨id,o1,(hS.mvd i k id off h1).2,h2⟩
 have hX:∀b,b<w.heap.size->DS (A5 C5 (bs++bs')) β1 b->DS s.hp β b:=by
  rintro b hb ⟨id,ob,hl,hβ⟩
  rcases Km id with⟨bx,hm⟩|e
  ·obtain⟨j,hj,_⟩:=EK id bx hm;rw[hj] at hβ;obtain⟨id',o',h1,h2⟩:=Ayt b ((out.fresh j b ob hβ).2 hb).1;exact⟨id',o',HP id' (.inr h1),h2⟩
  ·rw[e] at hl;cases hq:C5 id with
   |none=>rw[hq] at hl;exact hl.elim
   |some bx=>
    rw[hq] at hl;exact⟨id,ob,(hold id bx hq hl).1,by rw[<-hβold id (by rw[hq];simp)];exact hβ⟩
 have hAo:∀b,b<w.heap.size->Dd (A5 C5 (bs++bs')) β1 Y b->Dd s.hp β Y b:=fun b hb hA=>hA.imp (hX b hb) id
 have hAO:∀b,Dd (A5 C5 (bs++bs')) β1 Y b->QE bt own Yc b:=by
  rintro b (⟨id,ob,hl,hβ⟩|hY)
  ·rcases Km id with⟨bx,hm⟩|e
   ·obtain⟨j,hj,_⟩:=EK id bx hm;rw[hj] at hβ;exact .inl ⟨j,ob,hβ⟩
   ·rw[e] at hl;cases hq:C5 id with
    |none=>rw[hq] at hl;exact hl.elim
    |some bx=>
     rw[hq] at hl;rw[hβold id (by rw[hq];simp)] at hβ
     obtain⟨h1,h2,h3⟩:=hold id bx hq hl;rcases h3 with h3|⟨h3,h4⟩
     ·obtain⟨_,i,off,hs⟩:=Ako id h3;exact .inr (.inl ⟨i,ob+off,by rw[EV,hs];simp[J2,hβ]⟩)
     ·exact .inr (.inr ((hYc b).2 (.inl ⟨id,ob,by rw[h4];exact hl,hβ,h3,h2⟩)))
  ·exact .inr (.inr ((hYc b).2 (.inr hY)))
 have Gn:Cq (Dd s.hp β Y) w w':=out.ext.weaken (fun b _ hb=>.inl (hBA b hb));have As5:∀i,s.hp i≠none->β1 i=β i:=fun i hi=>hβold i (Ld i hi)
 have hCL:∀b j,WH bt vs b j->∃id o' bx,s.hp id=some bx/\Ct (some bx)/\β id=some (b,o')/\BR bx o' j:=by
  rintro b j ⟨i,p,hp,⟨k,ob,hb,CL⟩|⟨ob,ps,hb,CL,NM⟩⟩
  ·obtain⟨id,off,o',h1,h2,h3,_⟩:=btS hb;obtain⟨h5,h6⟩:=hS.mvd i k id off h1;obtain⟨cc,hcc⟩:=hx id h6;exact⟨id,o',_,hcc,trivial,h2,show o'<=j by omega⟩
  ·obtain⟨id,off,o',h1,h2,h3,_⟩:=btS hb;rcases Aq6 hL i p id off hp (by rw[Cu];exact h1) with⟨c1,wz,h5,h6,h7⟩|⟨⟨c1,h5⟩,_⟩
   ·rcases NM with⟨h8,h9⟩|h8
    ·rw[h6] at h8;cases h8;exact⟨id,o',_,h5,trivial,h2,show o'<=j/\j<o'+c1.length by omega⟩
    ·rw[h6] at h8;cases h8
   ·exact⟨id,o',_,h5,trivial,h2,show o'<=j by omega⟩
 have hnL:∀id off cts wz,Jp.var id off cts wz∈l->id∈lids->∀b ob,β id=some (b,ob)->∀j,(j<off\/off+wz.length<=j)->(∃c1,s.hp id=some (.st c1))->¬WH bt vs b (ob+j):=by
  rintro id off cts wz hy Br b ob hβ j hj ⟨c1,hc1⟩ ⟨i,p,hp,⟨k,ob',hb,CL⟩|⟨ob',ps,hb,CL,NM⟩⟩
  ·obtain⟨id',off',o',h1,h2,h3,h4⟩:=btS hb;have:=h.inj id id' b ob o' (HP id (.inl Br)) (HP id' h4) hβ h2;subst this;exact hlx id Br (hS.mvd i k id off' h1).2
  ·obtain⟨id',off',o',h1,h2,h3,h4⟩:=btS hb;have:=h.inj id id' b ob o' (HP id (.inl Br)) (HP id' h4) hβ h2;subst this;rw[hβ] at h2;cases h2;obtain⟨k,Eg,Gy⟩:=Ac6 hL hy;rw[Cu] at Gy;have hik:=hS.inj0 hnl i k id off' off h1 Gy;subst hik;rw[h1] at Gy;cases Gy;rw[hp] at Eg;cases Eg;rcases NM with⟨h8,h9⟩|h8
   ·cases h8;omega
   ·cases h8
 have hval:Eo w' (Dd (A5 C5 (bs++bs')) β1 Y) β1 (Tb ws (Us P o.type)) (Mf us):=by
  have Xu:Bw (Iw w' (Dd (A5 C5 (bs++bs')) β1 Y) β1) ws us:=U5.mono fun v u hvu=>hvu.step (Cq.refl _ _) (fun b _=>hAO b) (fun _ _=>rfl);have Hk:=Xu.len;cases hT:Us P o.type
  ·rw[hT] at Wx;have h1:ws.length=1:=D4 Wx
   match ws,us,h1,Hk with
   |[v],[u],_,_=>
    exact (Rk (hnt v (by simp))).2 Xu.1
  ·rw[hT] at Wx
   have h1:¬ws.length=1:=by
    intro e;rw[e] at Wx;cases Wx
   have hr:Mf us=.tuple ⟨us⟩:=by
    unfold Mf;split
    ·simp at Hk;omega
    ·rfl
   rw[hr];exact⟨us,rfl,Xu⟩
 have hvr:∀i∈Cc (Tb ws (Us P o.type)),∃bx,(i,bx)∈bs:=by
  intro i hi;cases hT:Us P o.type
  ·rw[hT] at Wx hi;have h1:ws.length=1:=D4 Wx
   match ws,h1 with
   |[v],_=>
    refine hrs v (by simp) i ?_
    have:Cc v=Cn v:=by
     have hn:=hnt v (by simp);cases v<;>first|rfl|exact absurd rfl (hn _)
    rw[<-this];exact hi
  ·rw[hT] at hi;obtain⟨v,hv,hi⟩:=List.mem_flatMap.1 (show i∈ws.flatMap Cn from hi);exact hrs v hv i hi
 refine hn _ w' β1 ?_;refine⟨by rw[Kj];exact h.dfr,by rw[Hy];exact h.tsz,Aah Alk h.tmo,?_,?_,?_,?_,?_,?_,?_,?_,?_,?_,?_,h.Ylt,?_⟩
 ·refine Un (Q:=fun _ p u=>Eo w' (Dd (A5 C5 (bs++bs')) β1 Y) β1 p u) h.tsz Alk (fun i hi=>?_) (fun _=>hval);exact (h.tms i hi).step Gn hAo fun id Br=>As5 id (h.wfT i hi id Br)
 ·intro id bx hb;simp only at hb;rcases Km id with⟨bx',Rr⟩|e
  ·rw[hg1 id bx' Rr] at hb;cases hb;exact (Av8 id _ Rr).2.1.step' hAO
  ·rw[e] at hb;have hβ:=hβold id (by rw[hb];simp)
   by_cases Br:id∈lids
   ·obtain⟨y,hy,hyi⟩:=Awr id Br;have h1:=A2s y hy;cases y with
    |var id' off cts wz=>
     simp only[Jp.ids,Lo] at hyi;subst hyi;obtain⟨c1,cs,h2,h3,h4,h5,h6⟩:=h1;rw[Aiw id Br] at h2;rw[h3] at hb;cases hb;obtain⟨b,ob,h7,h8,h9⟩:=h.box id _ h2;obtain⟨h10,h11⟩:=h6 b ob h7;have Ch:=h.blt id b ob (by rw[h2];simp) h7
     have Yl:∀j,(j<off\/off+wz.length<=j)->w'.cell? ⟨b,ob+j,none⟩=w.cell? ⟨b,ob+j,none⟩/\w'.frozen? ⟨b,ob+j,none⟩=w.frozen? ⟨b,ob+j,none⟩:=
      fun j hj=>out.rng b (ob+j) Ch (hnL id off cts wz hy Br b ob h7 j hj ⟨c1,h2⟩)
     refine⟨b,ob,hβ.trans h7,fun j p hj=>?_,fun j hj=>?_⟩
     ·rcases Xo (by omega) hj with⟨h12,h13,h14⟩|⟨h12,h14⟩
      ·obtain⟨v,hv,hcr⟩:=h10 _ _ h14;refine⟨v,?_,hcr.step (Cq.refl _ _) (fun b _=>hAO b) (fun _ _=>rfl)⟩;rw[show ob+j=ob+off+(j-off) by omega];exact hv
      ·obtain⟨v,hv,hcr⟩:=h8 _ _ h14;refine⟨v,by rw[(Yl j (by omega)).1];exact hv,hcr.step Gn hAo fun i hi=>As5 i (h.wfB id c1 h2 p (List.mem_of_getElem? h14) i hi)⟩
     ·rw[Xm (by omega)] at hj;by_cases BH:off<=j/\j<off+cs.length
      ·have:=h11 (j-off) (by omega);rw[show ob+off+(j-off)=ob+j by omega] at this;exact this
      ·rw[(Yl j (by omega)).2];exact h9 j hj
    |row id'=>
     simp only[Jp.ids,Lo] at hyi;subst hyi;obtain⟨cs,h3,h4⟩:=h1;rw[h3] at hb;cases hb;rcases h4 with⟨h5,h6⟩|⟨b,ob,h5,h6,h7⟩
     ·exact .inl ⟨hβ.trans h5,h6⟩
     ·exact .inr ⟨b,ob,hβ.trans h5,h6.weak (fun b _=>hAO b),fun _=>h7,(fun q=>by cases q)⟩
    |none=>simp[Jp.ids] at hyi
   ·rw[hpK id Br,Iq] at hb;split at hb
    ·cases hq:Ae s.hp m id with
     |none=>rw[hq] at hb;cases hb
     |some b0=>rw[hq] at hb;simp at hb;subst hb;trivial
    ·rename_i hxn;have Oc:=hf.box id bx hb
     have Anq:∀b ob,β id=some (b,ob)->bx ≠ .mv->b<w.heap.size/\w'.heap[b]?=w.heap[b]?:=by
      intro b ob TG hmv;have Ch:=hf.blt id b ob (by show Ae s.hp m id≠none;rw[hb];simp) TG
      refine⟨Ch,out.ext.keep b Ch fun hB=>?_⟩;obtain⟨id',o',h1,h2⟩:=btX hB;have Pc:Ct (Ae s.hp m id'):=by rw[XS id' h2];exact HP id' h2
      have hno:id≠id':=by
       rintro rfl
       rcases h2 with h2|h2
       ·exact Br h2
       ·exact hxn h2
      cases bx with
      |st cc=>exact hno (hf.inj id id' b ob o' (by show Ct (Ae s.hp m id);rw[hb];trivial) Pc TG h1)
      |ar fz cc=>
       cases fz with
       |false=>exact hno (hf.inj id id' b ob o' (by show Ct (Ae s.hp m id);rw[hb];trivial) Pc TG h1)
       |true=>
        rcases Oc with⟨h3,_⟩|⟨b2,o2,h3,_,_,h4⟩
        ·rw[TG] at h3;cases h3
        ·rw[TG] at h3;cases h3;exact h4 rfl (.inl ⟨id',o',Pc,h1⟩)
      |mv=>exact hmv rfl
     have hAoF:∀b,b<w.heap.size->Dd (A5 C5 (bs++bs')) β1 Y b->Dd (Ae s.hp m) β Y b:=by
      intro b Iv hA;rcases hA with⟨i,ob,hl,hβi⟩|hY
      ·rcases Km i with⟨bx1,RW⟩|e1
       ·obtain⟨j,hj,_⟩:=EK i bx1 RW;rw[hj] at hβi;obtain⟨id',o',h1,h2⟩:=Ayt b ((out.fresh j b ob hβi).2 Iv).1;exact .inl ⟨id',o',by rw[XS id' (.inr h1)];exact HP id' (.inr h1),h2⟩
       ·rw[e1] at hl;cases hq:C5 i with
        |none=>rw[hq] at hl;exact hl.elim
        |some bx1=>
         rw[hq] at hl;rw[hβold i (by rw[hq];simp)] at hβi
         obtain⟨h1,h2,h3⟩:=hold i bx1 hq hl;rcases h3 with h3|⟨h3,h4⟩
         ·exact .inl ⟨i,ob,by rw[XS i (.inl h3)];exact h1,hβi⟩
         ·exact .inl ⟨i,ob,by rw[h4];exact hl,hβi⟩
      ·exact .inr hY
     have A3g:Cq (Dd (Ae s.hp m) β Y) w w':=out.ext.weaken (fun b _ hB=>by
      obtain⟨id',o',h1,h2⟩:=btX hB;exact .inl ⟨id',o',by rw[XS id' h2];exact HP id' h2,h1⟩)
     cases bx with
     |st cc=>
      obtain⟨b,ob,h1,h2,h3⟩:=Oc;obtain⟨Ch,FM⟩:=Anq b ob h1 (by simp);refine⟨b,ob,hβ.trans h1,fun j p hj=>?_,fun j hj=>?_⟩
      ·obtain⟨v,hv,hcr⟩:=h2 j p hj;refine⟨v,by rw[World.cell?_of_block (w:=w) FM];exact hv,hcr.step A3g hAoF fun i hi=>?_⟩
       refine As5 i (fun e1=>?_);exact hf.wfB id cc hb p (List.mem_of_getElem? hj) i hi (Fp.2 e1)
      ·rw[World.frozen?_of_block (w:=w) FM];exact h3 j hj
     |ar fz cc=>
      rcases Oc with⟨h1,h2⟩|⟨b,ob,h1,h2,h3,h4⟩
      ·exact .inl ⟨hβ.trans h1,h2⟩
      ·obtain⟨Ch,FM⟩:=Anq b ob h1 (by simp);have OX:bsz w' b=bsz w b:=by unfold bsz;rw[FM]
       refine .inr ⟨b,ob,hβ.trans h1,fun j p hj=>?_,fun e1 j hj Y1=>?_,fun e1 q=>h4 e1 (hAoF b Ch q)⟩
       ·obtain⟨v,hv,h5,hc1⟩:=h2 j p hj;exact⟨v,by rw[World.cell?_of_block (w:=w) (by rw[Hu];exact FM)];exact hv,h5,hc1.step A3g hAoF⟩
       ·rw[World.frozen?_of_block (w:=w) FM];exact h3 e1 j hj (by rw[<-OX];exact Y1)
     |mv=>trivial
 ·intro id id' b ob ob' hl Pc hb Jh;simp only at hl Pc
  have mixed:∀i bx i' k z,(i,bx)∈bs++bs'->β1 i=some (k,z)->C5 i'≠none->Ct (C5 i')->∀z',β1 i'=some (k,z')->False:=by
   intro i bx i' k z RW hz hn1 IQ z' hz';obtain⟨j,hj,_⟩:=EK i bx RW;rw[hj] at hz;rw[hβold i' hn1] at hz';cases hq:C5 i' with
   |none=>exact hn1 hq
   |some bx1=>
    rw[hq] at IQ;obtain⟨h1,h2,h3⟩:=hold i' bx1 hq IQ;have Ch:=h.blt i' k z' (Dj h1) hz';obtain⟨id2,o2,h4,h5⟩:=Ayt k ((out.fresh j k z hz).2 Ch).1;have:=h.inj i' id2 k z' o2 h1 (HP id2 (.inr h4)) hz' h5;subst this;exact h2 h4
  rcases Km id with⟨bx,RW⟩|e1
  ·rcases Km id' with⟨bx',hm2⟩|e2
   ·obtain⟨j,hj,NM⟩:=EK id bx RW;obtain⟨j',Y1,A24⟩:=EK id' bx' hm2;rw[hj] at hb;rw[Y1] at Jh;have:=out.inj j j' b ob ob' hb Jh;subst this;rcases NM with⟨h1,h2⟩|⟨h1,h2⟩
    ·rcases A24 with⟨h3,_⟩|⟨_,h4⟩
     ·rw[h1,h3]
     ·omega
    ·rcases A24 with⟨_,h4⟩|⟨h3,_⟩
     ·omega
     ·exact OD _ h1 _ h3 rfl
   ·rw[e2] at Pc;exact (mixed id bx id' b ob RW hb (Dj Pc) Pc ob' Jh).elim
  ·rw[e1] at hl;rcases Km id' with⟨bx',hm2⟩|e2
   ·exact (mixed id' bx' id b ob' hm2 Jh (Dj hl) hl ob hb).elim
   ·rw[e2] at Pc
    have g:∀i,Ct (C5 i)->Ct (s.hp i)/\β1 i=β i:=by
     intro i hli;cases hq:C5 i with
     |none=>rw[hq] at hli;exact hli.elim
     |some bx1=>exact⟨(hold i bx1 hq (by rw[<-hq];exact hli)).1,hβold i (by rw[hq];simp)⟩
    rw[(g id hl).2] at hb;rw[(g id' Pc).2] at Jh;exact h.inj id id' b ob ob' (g id hl).1 (g id' Pc).1 hb Jh
 ·intro id b ob hn1 hb;simp only at hn1;rcases Km id with⟨bx,RW⟩|e1
  ·obtain⟨j,hj,_⟩:=EK id bx RW;rw[hj] at hb;exact (out.fresh j b ob hb).1
  ·rw[e1] at hn1;rw[hβold id hn1] at hb
   have hn2:s.hp id≠none:=by
    by_cases Br:id∈lids
    ·exact Dj (HP id (.inl Br))
    ·rw[hpK id Br,Iq] at hn1;intro e2;have h1:Ae s.hp m id=none:=Fp.2 e2;rw[h1] at hn1;split at hn1<;>exact hn1 rfl
   exact Io (h.blt id b ob hn2 hb) out.ext.size
 ·have:=Un (Q:=fun _ p _=>∀id∈Cc p,A5 C5 (bs++bs') id≠none) (val:=Mf us) (d:=o.dst) (v:=Tb ws (Us P o.type)) h.tsz Alk (fun i hi id Br=>As9 id (.inl (h.wfT i hi id Br))) (fun _ id Br=>As9 id (.inr (by
   obtain⟨bx,hb⟩:=hvr id Br;exact⟨bx,Bu.2 (.inl hb)⟩)))
  exact this
 ·intro id cells Aal p hp i hi;simp only at Aal;refine As9 i ?_;rcases Km id with⟨bx,RW⟩|e1
  ·rw[hg1 id bx RW] at Aal;cases Aal;rcases Bu.1 RW with RW|RW
   ·obtain⟨bx1,hb⟩:=hri id cells RW p hp i hi;exact .inr ⟨bx1,Bu.2 (.inl hb)⟩
   ·obtain⟨cc,e2⟩:=Iv id _ RW;cases e2
  ·rw[e1] at Aal;by_cases Br:id∈lids
   ·rcases As0 id Br with⟨off,c1,cs,h1,h2,h3,h4⟩|⟨c1,cs,h1,h2⟩
    ·rw[h2] at Aal;cases Aal;unfold Bp at hp;rcases Bu.1 hp with hp|hp
     ·rcases Bu.1 hp with hp|hp
      ·exact .inl (h.wfB id c1 h1 p (List.mem_of_mem_take hp) i hi)
      ·obtain⟨bx1,hb⟩:=h4 p hp i hi;exact .inr ⟨bx1,Bu.2 (.inr hb)⟩
     ·exact .inl (h.wfB id c1 h1 p (List.mem_of_mem_drop hp) i hi)
    ·rw[h2] at Aal;cases Aal
   ·obtain⟨_,_,h3⟩:=hold id _ Aal trivial;rcases h3 with h3|⟨_,h3⟩
    ·exact absurd h3 Br
    ·exact .inl (h.wfB id cells (M5 h3 trivial) p hp i hi)
 ·rintro b ⟨id,ob,hl,hβ⟩
  rcases K6 b w.heap.size with Ch|hge
  ·exact h.ownd b (hX b Ch ⟨id,ob,hl,hβ⟩)
  ·exact .inr (Nat.le_trans h.fr.step.size hge)
 ·intro id bx b ob hb hl hβ Ch j hj;simp only at hb;have hlw:=Io Ch h.fr.step.size;rcases Km id with⟨bx',RW⟩|e1
  ·rw[hg1 id bx' RW] at hb;cases hb;obtain⟨k,hk,_⟩:=EK id bx RW;rw[hk] at hβ
   have CL:ob<=j:=by
    cases bx with
    |st cc=>exact hj.1
    |ar fz cc=>exact hj
    |mv=>exact hl.elim
   obtain⟨id2,o2,bx2,h1,h2,h3,h4⟩:=hCL b j (((out.fresh k b ob hβ).2 hlw).2 j CL);exact h.rngB id2 bx2 b o2 h1 h2 h3 Ch j h4
  ·rw[e1] at hb;rw[hβold id (by rw[hb];simp)] at hβ
   obtain⟨h1,h2,h3⟩:=hold id bx hb hl;rcases h3 with h3|⟨h3,h4⟩
   ·rcases As0 id h3 with⟨off,c1,cs,h5,h6,h7,_⟩|⟨c1,cs,h5,h6⟩
    ·rw[h6] at hb;cases hb;have hj:ob<=j/\j<ob+(Bp c1 cs off).length:=hj;rw[Xm (by omega)] at hj;exact h.rngB id _ b ob h5 trivial hβ Ch j hj
    ·rw[h6] at hb;cases hb;exact h.rngB id _ b ob h5 trivial hβ Ch j hj
   ·exact h.rngB id bx b ob (M5 h4 hl) hl hβ Ch j hj
 ·intro i hi;obtain⟨h1,h2⟩:=h.pin i hi;exact⟨As9 _ (.inl h1),by rw[As5 _ h1];exact h2⟩
 ·intro id cc b ob hb hβ Ch;simp only at hb;have hlw:=Io Ch h.fr.step.size;rcases Km id with⟨bx',RW⟩|e1
  ·rw[hg1 id bx' RW] at hb;cases hb;have:=(Av8 id _ RW).2.2 cc rfl b ob hβ;omega
  ·rw[e1] at hb;rw[hβold id (by rw[hb];simp)] at hβ
   obtain⟨h1,h2,h3⟩:=hold id _ hb trivial;rcases h3 with h3|⟨h3,h4⟩
   ·rcases As0 id h3 with⟨off,c1,cs,h5,h6,h7,_⟩|⟨c1,cs,h5,h6⟩
    ·exact h.stp id c1 b ob h5 hβ Ch
    ·rw[h6] at hb;cases hb
   ·exact h.stp id cc b ob (M5 h4 trivial) hβ Ch
 ·intro b hY hXb;exact h.Yx b hY (hX b (Io (h.Ylt b hY) h.fr.step.size) hXb)
 ·refine⟨out.os.trans h.fr.os,out.tape.trans h.fr.tape,out.output.trans h.fr.output,⟨Nat.le_trans h.fr.step.size out.ext.size,fun b hb hnX=>?_,fun b hb=>Nat.le_trans (h.fr.step.bs b hb) (out.ext.bs b (Io hb h.fr.step.size))⟩,fun b j hb hnL=>?_⟩
  ·rw[out.ext.keep b (Io hb h.fr.step.size) ?_]
   ·exact h.fr.step.keep b hb hnX
   ·intro hB;rcases h.ownd b (hBA b hB) with hq|hq
    ·exact hnX hq
    ·omega
  ·have hno:¬WH bt vs b j:=by
    intro hq;obtain⟨id2,o2,bx2,h1,h2,h3,h4⟩:=hCL b j hq;exact hnL (h.rngB id2 bx2 b o2 h1 h2 h3 hb j h4)
   obtain⟨h1,h2⟩:=out.rng b j (Io hb h.fr.step.size) hno;rw[h1,h2];exact h.fr.rng b j hb hnL
end
open Go.RowKit
section
variable {R:Type}{r:R}{P:Program}{N:Nat}{w0:World}{X0:F6}{Y:Nat->Prop}{β β':Bt}{s:St}{a:Act}{w w':World}{o:Oper}{A:Nat->Prop}
theorem Aas(h:B9 N w0 X0 Y β s a w){c:Call}(ho:o.op=.call c)(hc:c.callee=.builtin .append){d:Nat}(Alk:o.dst=some d){b x:Operand}(Fh:c.args.toList=[b,x]){t tx:TypeId}{ts:List TypeId}(NL:c.argTypes.toList=t::tx::ts){K:St->Option R}(hk:Ty P N s d t tx (Cv s.tm b) (Cv s.tm x) K=some r):
  ∃s',K s'=some r/\∀(next:Act->World->Prop) (Q:Exit->Act->World->Prop),(∀a' w' β',B9 N w0 X0 Y β' s' a' w'->next a' w')->o.wp P a w next Q:=by
 have PL:c.args = #[b,x]:=by
  have:c.args=([b,x]:List Operand).toArray:=by rw[<-Fh]
  exact this
 have Ac0:c.argTypes=(t::tx::ts).toArray:=by rw[<-NL]
 have run:∀{v:Value} {w1:World},(Builtin.append_ (t::tx::ts).toArray o.type #[a.eval b,a.eval x]).run P w=.ok v w1->∀(next:Act->World->Prop) (Q:Exit->Act->World->Prop),next (a.put (some d) v) w1->o.wp P a w next Q:=by
  intro v w1 hr next Q hn;unfold Oper.wp execOp;rw[ho];simp only[resolve,hc,invoke,builtin,Sem.run_bind,Sem.run_pure,Result.andThen_ok,PL,Ac0];have:(#[b,x]:Array Operand).map a.eval = #[a.eval b,a.eval x]:=by simp
  rw[this,hr];show next (a.put o.dst v) w1;rw[Alk];exact hn
 have hbv:=D2 h b;have hbr:=Hg h b;unfold Ty at hk;split at hk
 ·rename_i e hu;obtain⟨hzi,hk⟩:=Au hk;obtain⟨i,z,hi,hz,hzs,L8⟩:=QI hzi;cases hit:GP P tx
  rotate_left
  ·rw[hit] at hk;simp only[cond_true] at hk
   obtain⟨ki,htx⟩:∃k,P.underlying tx=some (.int k):=by
    unfold GP at hit;split at hit
    ·exact⟨_,by assumption⟩
    ·cases hit
   unfold Y7 at hk;obtain⟨kx,n,hx,hk⟩:=Eh hk;obtain⟨zz,n',c',hk,hp⟩:=H3 hk;obtain⟨hb,hk⟩:=Au hk;simp only[Gl,IR] at hb;obtain⟨⟨⟨⟨⟨hzz,hdN⟩,FL⟩,OH⟩,hby⟩,hnm⟩:=hb;have hdN:d<N:=Nat.lt_of_succ_le (Wu hdN);have FL:s.hp d=none:=by simpa using FL
   have Agm:I2 N (some d)=true:=by simp[I2,Nat.blt];omega
   have Zc:((P.info? e).map (·.bytes)).getD 0=i.bytes:=by rw[hi];rfl
   rw[Zc] at hby;rw[L8] at hk;have Ee:=De h hx;rcases slice_form hp hbv with⟨Vj,_⟩|⟨_,_,_,QO,_⟩|⟨_,_,_,QO,_⟩
   ·refine⟨_,hk,fun next Q hn=>?_⟩;by_cases hm0:n=0
    ·subst hm0;have hr:=JU (P:=P) (w:=w) (t:=t) (tx:=tx) (ty:=o.type) (ts:=ts) (kx:=kx) hu htx hi;rw[<-Vj,<-Ee] at hr;refine run hr next Q (hn _ _ (Db β d none) ?_);rw[Vj];refine h.stepR (d:=some d) (nw:=[(d,.ar false [])]) (β':=Db β d none) Agm (by simp[Cl,FL]) ⟨rfl,rfl,rfl,Cq.refl _ _,fun j hj=>Ar _ _ (by rintro rfl;exact hj FL),?_,?_,?_,?_,?_,.inl ⟨Ax _ _ _,rfl,rfl,none,rfl⟩,?_⟩
     ·intro j bx hm;simp at hm;rw[hm.2];trivial
     ·intro j bx hm;simp at hm;obtain⟨rfl,rfl⟩:=hm;exact .inl ⟨Ax _ _ _,rfl⟩
     ·intro j bx k q hm hq;simp at hm;obtain⟨rfl,rfl⟩:=hm;rw[Ax] at hq;cases hq
     ·intro j bx j' bx' k q q' hm Rr _ _;simp at hm Rr;rw[hm.1,Rr.1]
     ·intro j cells hm;simp at hm
     ·intro j hj;simp[Cc,Cn,Aw] at hj;subst hj;exact .inr ⟨.ar false [],by simp⟩
    ·have hr:=NI (P:=P) (w:=w) (t:=t) (tx:=tx) (ty:=o.type) (ts:=ts) (kx:=kx) hu htx hi hz (n:=n) (by omega) hby hnm;rw[<-Vj,<-Ee] at hr;refine run hr next Q (hn _ _ (Db β d (some (w.heap.size,0))) ?_);have hge:n.toNat<=grownCap w n.toNat 0 e:=grownCap_ge w n.toNat 0 e;generalize VL:((if n.toNat*i.size=0 then #[] else Builtin.zeroCells z.cells n.toNat)++Builtin.zeroCells z.cells (grownCap w n.toNat 0 e-n.toNat))=cs
     have DY:I0 w (w.drew.alloc (.cells cs e)) cs e:=
      ⟨rfl,rfl,rfl,fun k hk=>Below.heap_alloc w.drew _ k hk,by show (w.heap.push _).size=_;simp,(0,0),by show (w.heap.push _)[w.heap.size]?=_;simp,.inl rfl⟩
     have Ahd:cs.size=grownCap w n.toNat 0 e*i.size:=by
      rw[<-VL];by_cases QM:n.toNat*i.size=0
      ·rw[B7 QM]
       have hi0:i.size=0:=by
        rcases Nat.mul_eq_zero.1 QM with h|h
        ·omega
        ·exact h
       simp[size_zeroCells,hzs,hi0]
      ·rw[Ba QM];simp only[Array.size_append,size_zeroCells,hzs,<-Nat.add_mul]
       congr 1
       omega
     refine h.stepR (d:=some d) (nw:=[(d,.ar false [])]) Agm (by simp[Cl,FL]) (Wd DY FL trivial ?_ (fun cells hx=>by cases hx) ?_ (by intro j hj;simp[Cc,Cn,Aw] at hj;exact .inr hj))
     ·refine .inr ⟨w.heap.size,0,Ax _ _ _,fun j p hj=>by simp at hj,fun _ j _ hj=>?_,(fun q=>by cases q)⟩;rw[DY.bsz] at hj;exact DY.frozen hj
     ·refine .inr ⟨w.heap.size,0,0,grownCap w n.toNat 0 e,Ax _ _ _,rfl,.inl rfl,hge,?_,by rw[DY.size];omega⟩
      rw[DY.bsz,Ahd];omega
   ·rw[QO] at hzz;cases hzz
   ·rw[QO] at hzz;cases hzz
  rw[hit] at hk;simp only[cond_false] at hk;have Zc:((P.info? e).map (·.bytes)).getD 0=i.bytes:=by rw[hi];rfl
  obtain⟨⟨dx,hdx,Ab1⟩,m,new,news,hk,hs⟩:=QT h hk (by
   intro m new hk;split at hk
   ·split at hk
    ·obtain⟨hb,_⟩:=Au hk;simp only[Gl,IR] at hb;have he:=D4 hb.1.1.1.1.1.1.1;rw[<-he];exact hb.1.1.2
    ·cases hk
   ·obtain⟨zz,n',c',hk,_⟩:=H3 hk;obtain⟨hb,_⟩:=Au hk;simp only[Gl,IR] at hb;exact hb.1.1.2)
  rw[L8] at hs;have hnl:new.length=news.length:=hs.rep.len;split at hk
  ·rename_i id es off n eb;rw[eb] at hbv hbr;split at hk
   ·rename_i cc h0;obtain⟨hb,Gy⟩:=Au hk;simp only[Gl,IR] at hb;obtain⟨⟨⟨⟨⟨⟨⟨MO,Vb⟩,hdN⟩,FL⟩,A7b⟩,Aik⟩,hby⟩,hnm⟩:=hb;have MO:=D4 MO;have Vb:=D4 Vb;have hdN:d<N:=Nat.lt_of_succ_le (Wu hdN);have FL:s.hp d=none:=by simpa using FL
    subst Vb;rw[L8] at MO;subst MO;rw[Zc] at hby;have MV:news.length=m*i.size:=by omega
    have Bbm:s.hp id≠none:=by rw[h0];simp
    have Al8:=h.box id _ h0;refine⟨_,Gy,fun next Q hn=>?_⟩
    have grow:∀(ad:Option Addr) (cap:Nat) (olds:List Value),a.eval b=.slice ad n cap->Bw (Az w (Dd s.hp β Y)) (cc.take (n*i.size)) olds->(∀u∈olds,u.oneCell'=true)->olds.length=n*i.size ->
      ((ad=none/\olds=[])\/∃p,ad=some p/\olds.length=n*i.size/\∀(j:Nat) v,olds[j]?=some v->w.cell? (p.add j)=some v)->cap<n+m->o.wp P a w next Q:=by
     intro ad cap olds Vj holds h1 hol hold OC;have hr:=Qv (P:=P) (w:=w) (t:=t) (tx:=tx) (ty:=o.type) (ts:=ts) hu hdx Ab1 hi hz hs hold OC hby hnm;rw[<-Vj] at hr;refine run hr next Q (hn _ _ (Db β d (some (w.heap.size,0))) ?_);have hge:n+m<=grownCap w (n+m) cap e:=grownCap_ge w (n+m) cap e
     have DY:I0 w (w.drew.alloc (.cells (olds.toArray++news.toArray++Builtin.zeroCells z.cells (grownCap w (n+m) cap e-(n+m))) e)) (olds.toArray++news.toArray++Builtin.zeroCells z.cells (grownCap w (n+m) cap e-(n+m))) e:=
      ⟨rfl,rfl,rfl,fun k hk=>Below.heap_alloc w.drew _ k hk,by show (w.heap.push _).size=_;simp,(0,0),by show (w.heap.push _)[w.heap.size]?=_;simp,.inl rfl⟩
     have Ahd:(olds.toArray++news.toArray++Builtin.zeroCells z.cells (grownCap w (n+m) cap e-(n+m))).size=grownCap w (n+m) cap e*i.size:=by
      simp only[Array.size_append,List.size_toArray,size_zeroCells,hzs,hol,MV,<-Nat.add_mul]
      congr 1
      omega
     have hbo:∀k y,some (w.heap.size,0)=some (k,y)->w.heap.size<=k\/∃q,β id=some (k,q):=by
      intro k y hh;simp at hh;exact .inl (by omega)
     refine h.move h0 FL hdN rfl rfl rfl (by rw[DY.size];omega) (fun k hk _=>DY.old k hk) DY.step.bs (fun k y hh=>⟨by simp at hh;rw[DY.size];omega,hbo k y hh⟩) (fun k y hh Ch=>by simp at hh;omega)
      (fun k y _ Ch j _=>⟨World.cell?_of_block (w:=w) (DY.old k Ch),World.frozen?_of_block (w:=w) (DY.old k Ch)⟩) ?_ ?_ (by intro j hj;simpa [Cc,Cn,Aw] using hj)
     ·refine .inr ⟨w.heap.size,0,Ax _ _ _,OT DY (Af0 h0 FL hbo) holds hs.rep h1 hs.one,fun _ j _ hj=>?_,(fun q=>by cases q)⟩;rw[DY.bsz] at hj;exact DY.frozen hj
     ·refine .inr ⟨w.heap.size,0,0,grownCap w (n+m) cap e,Ax _ _ _,rfl,.inl rfl,hge,?_,by rw[DY.size];omega⟩
      rw[DY.bsz,Ahd];omega
    rcases hbv with⟨hβ,_,rfl,ad,Vj⟩|⟨bb,ob,y,cap,hβ,Vj,hy,A2z,OC,A1u⟩
    ·rcases Al8 with⟨_,rfl⟩|⟨b',o',Iv,_⟩
     ·by_cases hm0:m=0
      ·subst hm0;have hr:=Qr (P:=P) (w:=w) (t:=t) (tx:=tx) (ty:=o.type) (ts:=ts) (ad:=ad) hu hdx Ab1 hi hs (List.eq_nil_of_length_eq_zero (by omega));rw[<-Vj] at hr;have Acs:new=[]:=List.eq_nil_of_length_eq_zero (by omega);subst Acs;refine run hr next Q (hn _ _ (Db β d none) ?_);rw[Vj];refine h.move h0 FL hdN rfl rfl rfl (Dn _) (fun _ _ _=>rfl) (fun _ _=>Dn _) (fun k q hh=>by cases hh) (fun k q hh=>by cases hh) (fun _ _ _ _ _ _=>⟨rfl,rfl⟩) ?_ ?_ (by intro j hj;simpa [Cc,Cn,Aw] using hj)
       ·exact .inl ⟨Ax _ _ _,by simp⟩
       ·exact .inl ⟨Ax _ _ _,rfl,rfl,ad,rfl⟩
      ·exact grow ad 0 [] Vj (by simp[Bw]) (by simp) (by simp) (by cases ad with
        |none=>exact .inl ⟨rfl,rfl⟩
        |some p=>exact .inr ⟨p,rfl,by simp,fun j v hj=>by simp at hj⟩) (by omega)
     ·rw[hβ] at Iv;cases Iv
    ·rcases Al8 with⟨Iv,_⟩|⟨b',o',Iv,Pi,hb3,_⟩
     ·rw[hβ] at Iv;cases Iv
     rw[hβ] at Iv;simp at Iv;obtain⟨rfl,rfl⟩:=Iv;have hy:y=ob:=by rcases hy with hy|⟨_,hq⟩<;>omega
     subst hy;by_cases Aoz:n+m<=cap
     ·have Aj0:y+n*i.size+news.length<=bsz w bb:=by
       have h5:n*i.size+m*i.size<=cap*i.size:=by rw[<-Nat.add_mul];exact Nat.mul_le_mul_right _ Aoz
       omega
      have hcell:∀k,k<news.length->(w.cell? ⟨bb,y+n*i.size+k,none⟩).isSome=true:=fun k hk=>Ann (by omega);have hr:=NU (P:=P) (w:=w) (t:=t) (tx:=tx) (ty:=o.type) (ts:=ts) (b:=bb) (ob:=y) (n:=n) (cap:=cap) hu hdx Ab1 hi hs MV hcell (fun k hk=>hb3 rfl _ (by omega) (by omega)) Aoz;rw[<-Vj] at hr;have hw:=Gg.setCells bb news (y+n*i.size) w
      have hbo:∀k q,some (bb,y)=some (k,q)->w.heap.size<=k\/∃q',β id=some (k,q'):=by
       intro k q hh;simp at hh;obtain⟨rfl,rfl⟩:=hh;exact .inr ⟨_,hβ⟩
      refine run hr next Q (hn _ _ (Db β d (some (bb,y))) ?_)
      have Gn:Cq (Dd s.hp β Y) w (w.setCells bb (y+n*i.size) news):=by
       have hAb:Dd s.hp β Y bb:=.inl ⟨id,y,by rw[h0];trivial,hβ⟩
       exact⟨by rw[hw.size];exact Dn _,fun k _ hk=>hw.other k (fun e=>hk (e ▸ hAb)),fun k _=>by
        by_cases e:k=bb
        ·subst e;rw[hw.bs];exact Dn _
        ·unfold bsz;rw[hw.other k e];exact Dn _⟩
      refine h.move h0 FL hdN hw.os hw.tape hw.output (by rw[hw.size];exact Dn _) (fun k _ hq=>hw.other k (by rintro rfl;exact hq _ hβ)) Gn.bs (fun k q hh=>⟨by simp at hh;rw[hw.size];omega,hbo k q hh⟩) (fun k q hh _=>by rw[hβ];exact hh)
       (fun k q hh _ j hj=>by
        rw[hβ] at hh;cases hh;exact⟨World.cell?_setCells_out bb _ _ w ⟨bb,j,none⟩ (fun _ _=>by show j<y+n*i.size\/y+n*i.size+_<=j;omega),hw.frz j⟩) ?_ ?_ (by intro j hj;simpa [Cc,Cn,Aw] using hj)
      ·refine .inr ⟨bb,y,Ax _ _ _,fun j p hj=>?_,fun _ j hj Y1=>?_,(fun q=>by cases q)⟩
       ·rw[Fe];by_cases hjn:j<n*i.size
        ·rw[List.getElem?_append_left (by rw[List.length_take];omega),List.getElem?_take_of_lt hjn] at hj
         obtain⟨u,M7,h5,ht⟩:=Pi j p hj;rw[Fe] at M7;refine⟨u,?_,h5,ht.step Gn (Af0 h0 FL hbo)⟩;rw[World.cell?_setCells_out bb _ _ w ⟨bb,y+j,none⟩ (fun _ _=>by show y+j<y+n*i.size\/y+n*i.size+_<=y+j;omega)]
         exact M7
        ·rw[List.getElem?_append_right (by rw[List.length_take];omega),List.length_take,Nat.min_eq_left A7b] at hj
         obtain⟨u,M7,ht⟩:=hs.rep.get hj
         have Ch:j-n*i.size<news.length:=by
          rcases K6 (j-n*i.size) news.length with h|h
          ·exact h
          ·rw[List.getElem?_eq_none h] at M7;cases M7
         refine⟨u,?_,hs.one u (List.mem_of_getElem? M7),ht.step Gn (Af0 h0 FL hbo)⟩;have:=World.cell?_setCells_in bb news (y+n*i.size) w hcell (j-n*i.size) Ch;rw[show y+j=y+n*i.size+(j-n*i.size) from by omega,this];rw[List.getElem?_eq_getElem Ch] at M7;exact M7
       ·rw[hw.bs] at Y1;rw[hw.frz];exact hb3 rfl j hj Y1
      ·exact .inr ⟨bb,y,y,cap,Ax _ _ _,rfl,.inl rfl,Aoz,by rw[hw.bs];omega,by rw[hw.size];exact A1u⟩
     ·-- the old cells
      have hob:∀(j:Nat) p,(cc.take (n*i.size))[j]?=some p->∃v,w.cell? ⟨bb,y+j,none⟩=some v/\v.oneCell'=true/\Az w (Dd s.hp β Y) p v:=by
       intro j p hj;rw[List.getElem?_take] at hj;split at hj
       ·obtain⟨v,hv,h5,ht⟩:=Pi j p hj;rw[Fe] at hv;exact⟨v,hv,h5,ht⟩
       ·cases hj
      have Hk:(cc.take (n*i.size)).length=n*i.size:=by rw[List.length_take];omega
      refine grow _ cap ((cc.take (n*i.size)).mapIdx fun j _=>(w.cell? ⟨bb,y+j,none⟩).getD undef) Vj ?_ ?_ (by simp only[List.length_mapIdx];exact Hk) (.inr ⟨_,rfl,by simp only[List.length_mapIdx];exact Hk,fun j v hj=>?_⟩) (by omega)
      ·refine Bw.of_at (by simp) fun j p v hp hv=>?_;obtain⟨u,M7,_,ht⟩:=hob j p hp;rw[List.getElem?_mapIdx,hp,Option.map_some,M7] at hv;simp at hv;subst hv;exact ht
      ·intro v hv;obtain⟨j,hj⟩:=List.mem_iff_getElem?.1 hv;rw[List.getElem?_mapIdx] at hj;cases hp:(cc.take (n*i.size))[j]? with
       |none=>rw[hp] at hj;cases hj
       |some p=>
        obtain⟨u,M7,h5,_⟩:=hob j p hp;rw[hp,Option.map_some,M7] at hj;simp at hj;subst hj;exact h5
      ·rw[List.getElem?_mapIdx] at hj;cases hp:(cc.take (n*i.size))[j]? with
       |none=>rw[hp] at hj;cases hj
       |some p=>
        obtain⟨u,M7,h5,_⟩:=hob j p hp;rw[hp,Option.map_some,M7] at hj;simp at hj;subst hj;rw[Fe];exact M7
   ·cases hk
  ·obtain⟨zz,n',c',hk,hp⟩:=H3 hk;obtain⟨hb,hk⟩:=Au hk;simp only[Gl,IR] at hb;obtain⟨⟨⟨⟨⟨hzz,hdN⟩,FL⟩,Aik⟩,hby⟩,hnm⟩:=hb;have hdN:d<N:=Nat.lt_of_succ_le (Wu hdN);have FL:s.hp d=none:=by simpa using FL
   have Agm:I2 N (some d)=true:=by simp[I2,Nat.blt];omega
   rw[L8] at Aik hk;rw[Zc] at hby;have MV:news.length=m*i.size:=by omega
   rcases slice_form hp hbv with⟨Vj,_⟩|⟨_,_,_,QO,_⟩|⟨_,_,_,QO,_⟩
   ·refine⟨_,hk,fun next Q hn=>?_⟩;by_cases hm0:m=0
    ·subst hm0;have hr:=Qr (P:=P) (w:=w) (t:=t) (tx:=tx) (ty:=o.type) (ts:=ts) (ad:=none) hu hdx Ab1 hi hs (List.eq_nil_of_length_eq_zero (by omega));rw[<-Vj] at hr;have Acs:new=[]:=List.eq_nil_of_length_eq_zero (by omega);subst Acs;refine run hr next Q (hn _ _ (Db β d none) ?_);rw[Vj];refine h.stepR (d:=some d) (nw:=[(d,.ar false [])]) (β':=Db β d none) Agm (by simp[Cl,FL]) ⟨rfl,rfl,rfl,Cq.refl _ _,fun j hj=>Ar _ _ (by rintro rfl;exact hj FL),?_,?_,?_,?_,?_,.inl ⟨Ax _ _ _,rfl,rfl,none,rfl⟩,?_⟩
     ·intro j bx hm;simp at hm;rw[hm.2];trivial
     ·intro j bx hm;simp at hm;obtain⟨rfl,rfl⟩:=hm;exact .inl ⟨Ax _ _ _,rfl⟩
     ·intro j bx k q hm hq;simp at hm;obtain⟨rfl,rfl⟩:=hm;rw[Ax] at hq;cases hq
     ·intro j bx j' bx' k q q' hm Rr _ _;simp at hm Rr;rw[hm.1,Rr.1]
     ·intro j cells hm;simp at hm
     ·intro j hj;simp[Cc,Cn,Aw] at hj;subst hj;exact .inr ⟨.ar false [],by simp⟩
    ·have hr:=Qv (P:=P) (w:=w) (t:=t) (tx:=tx) (ty:=o.type) (ts:=ts) (ad:=none) (n:=0) (cap:=0) (olds:=[]) hu hdx Ab1 hi hz hs (.inl ⟨rfl,rfl⟩) (by omega) (by rw[Cu];exact hby) (by omega)
     rw[<-Vj] at hr;refine run hr next Q (hn _ _ (Db β d (some (w.heap.size,0))) ?_);have hge:0+m<=grownCap w (0+m) 0 e:=grownCap_ge w (0+m) 0 e
     have DY:I0 w (w.drew.alloc (.cells (([]:List Value).toArray++news.toArray++Builtin.zeroCells z.cells (grownCap w (0+m) 0 e-(0+m))) e)) (([]:List Value).toArray++news.toArray++Builtin.zeroCells z.cells (grownCap w (0+m) 0 e-(0+m))) e:=
      ⟨rfl,rfl,rfl,fun k hk=>Below.heap_alloc w.drew _ k hk,by show (w.heap.push _).size=_;simp,(0,0),by show (w.heap.push _)[w.heap.size]?=_;simp,.inl rfl⟩
     have Ahd:(([]:List Value).toArray++news.toArray++Builtin.zeroCells z.cells (grownCap w (0+m) 0 e-(0+m))).size=grownCap w (0+m) 0 e*i.size:=by
      simp only[Array.size_append,List.size_toArray,size_zeroCells,hzs,MV,Vl,<-Nat.add_mul];rw[Cu (m*i.size),<-Nat.add_mul]
      congr 1
      omega
     refine h.stepR (d:=some d) (nw:=[(d,.ar false new)]) Agm (by simp[Cl,FL]) (Wd DY FL trivial ?_ (fun cells hx=>by cases hx) ?_ (by intro j hj;simp[Cc,Cn,Aw] at hj;exact .inr hj))
     ·refine .inr ⟨w.heap.size,0,Ax _ _ _,?_,fun _ j _ hj=>?_,(fun q=>by cases q)⟩
      ·exact OT (pre:=[]) DY (Ah9 FL) trivial hs.rep (by simp) hs.one
      ·rw[DY.bsz] at hj;exact DY.frozen hj
     ·refine .inr ⟨w.heap.size,0,0,grownCap w (0+m) 0 e,Ax _ _ _,by rw[Cu],.inl rfl,by omega,?_,by rw[DY.size];omega⟩
      rw[DY.bsz,Ahd];omega
   ·rw[QO] at hzz;cases hzz
   ·rw[QO] at hzz;cases hzz
 ·cases hk
theorem Afr(h:B9 N w0 X0 Y β s a w){c:Call}(ho:o.op=.call c)(hc:c.callee=.builtin .copy){b x:Operand}(Fh:c.args.toList=[b,x]){t tx:TypeId}{ts:List TypeId}(NL:c.argTypes.toList=t::tx::ts){K:St->Option R}(hk:XU P N s o.dst t tx (Cv s.tm b) (Cv s.tm x) K=some r):
  ∃s',K s'=some r/\∀(next:Act->World->Prop) (Q:Exit->Act->World->Prop),(∀a' w' β',B9 N w0 X0 Y β' s' a' w'->next a' w')->o.wp P a w next Q:=by
 have PL:c.args = #[b,x]:=by
  have:c.args=([b,x]:List Operand).toArray:=by rw[<-Fh]
  exact this
 have Ac0:c.argTypes=(t::tx::ts).toArray:=by rw[<-NL]
 have run:∀{v:Value} {w1:World},(Builtin.copy_ (t::tx::ts).toArray o.type #[a.eval b,a.eval x]).run P w=.ok v w1->∀(next:Act->World->Prop) (Q:Exit->Act->World->Prop),next (a.put o.dst v) w1->o.wp P a w next Q:=by
  intro v w1 hr next Q hn;unfold Oper.wp execOp;rw[ho];simp only[resolve,hc,invoke,builtin,Sem.run_bind,Sem.run_pure,Result.andThen_ok,PL,Ac0];have:(#[b,x]:Array Operand).map a.eval = #[a.eval b,a.eval x]:=by simp
  rw[this,hr];exact hn
 have hbv:=D2 h b;unfold XU at hk;split at hk
 ·rename_i e hu;obtain⟨hzi,hk⟩:=Au hk;simp only[Gl] at hzi;obtain⟨Vc,Agm⟩:=hzi;obtain⟨i,hi⟩:∃i,P.info? e=some i:=Option.isSome_iff_exists.1 Vc;have L8:Bm P e=i.size:=by unfold Bm;rw[hi];rfl
  have h1c:∀(m:Nat) (new:Ab),(match Cv s.tm b with
    |.view id es off n=>
     match s.hp id with
     |some (.ar false c)=>At (Nat.beq es (Bm P e)&&decide (off+n*es<=c.length)&&decide (new.length=m*es))
       (Aa (min m n) fun k=>Aa (Bp c (new.take (k*es)) off) fun c=>K ⟨Cd s.tm o.dst (.sc (.int .i64 k)),Db s.hp id (some (.ar false c))⟩)
     |_=>none
    |_=>none)=some r->new.length=m*Bm P e:=by
   intro m new hk;split at hk
   ·split at hk
    ·obtain⟨hb,_⟩:=Au hk;simp only[Gl,IR] at hb;rw[<-D4 hb.1.1];exact hb.2
    ·cases hk
   ·cases hk
  obtain⟨_,m,new,news,hk,hs⟩:=QT h hk h1c;split at hk
  ·rename_i id es off n hb;rw[hb] at hbv;split at hk
   ·rename_i cc h0;obtain⟨hb,hk⟩:=Au hk;simp only[Gl,IR] at hb;obtain⟨⟨MO,CL⟩,hnl⟩:=hb;have MO:=D4 MO;subst MO;rw[L8] at hk hs CL hnl hbv;have MV:news.length=m*i.size:=by rw[<-hs.rep.len];exact hnl
    have hkm:min m n*i.size<=m*i.size:=Nat.mul_le_mul_right _ (Nat.min_le_left _ _);have hkn:min m n*i.size<=n*i.size:=Nat.mul_le_mul_right _ (Nat.min_le_right _ _);have Jj:K ⟨Cd s.tm o.dst (.sc (.int .i64 ((min m n:Nat):Int))),Db s.hp id (some (.ar false (Bp cc (new.take (min m n*i.size)) off)))⟩=some r:=hk;refine⟨_,Jj,fun next Q hn=>?_⟩
    have At2:∀{β':Bt} {C5:Nat->Option Bz} {w':World},B9 N w0 X0 Y β' ⟨s.tm,C5⟩ a w'->B9 N w0 X0 Y β' ⟨Cd s.tm o.dst (.sc (.int .i64 ((min m n:Nat):Int))),C5⟩ (a.put o.dst (goInt ((min m n:Nat):Int))) w':=
     fun hh=>hh.put Agm (Az.sc _) (fun _ hx=>by cases hx)
    have Arc:new.take (min m n*i.size)=[]->Db s.hp id (some (.ar false (Bp cc (new.take (min m n*i.size)) off)))=s.hp:=by
     intro e;rw[e];refine GG _ ?_;rw[h0];simp[Bp]
    have nothing:min m n*i.size=0->∀(ad:Option Addr) (cap:Nat),a.eval b=.slice ad n cap->o.wp P a w next Q:=by
     intro e ad cap Vj;have hr:=Acq (P:=P) (w:=w) (w1:=w) (t:=t) (ty:=o.type) (ts:=tx::ts) (ad:=ad) (n:=n) (cap:=cap) hu hi hs (by rw[e];cases ad<;>simp[storeCells])
     rw[<-Vj] at hr;refine run hr next Q (hn _ _ β (At2 ?_));rw[Arc (by rw[e,List.take_zero])];exact h
    rcases hbv with⟨hβ,_,rfl,ad,Vj⟩|⟨bb,ob,y,cap,hβ,Vj,hy,A2z,OC,A1u⟩
    ·exact nothing (by simp) ad 0 Vj
    ·by_cases hm0:min m n*i.size=0
     ·exact nothing hm0 _ _ Vj
     rcases h.box id _ h0 with⟨Iv,_⟩|⟨b',o',Iv,Pi,hb3,_⟩
     ·rw[hβ] at Iv;cases Iv
     rw[hβ] at Iv;simp at Iv;obtain⟨rfl,rfl⟩:=Iv;have OH:n≠0:=by rintro rfl;simp at hm0
     have hy:y=ob+off:=by rcases hy with hy|⟨hq,_⟩<;>first|exact absurd hq OH|exact hy
     subst hy;have Ch:(news.take (min m n*i.size)).length=min m n*i.size:=by rw[List.length_take,MV];omega
     have hcell:∀k,k<(news.take (min m n*i.size)).length->(w.cell? ⟨bb,ob+off+k,none⟩).isSome=true:=by
      intro k hk;obtain⟨v,hv,_⟩:=Pi (off+k) _ (List.getElem?_eq_getElem (by omega));rw[Fe] at hv;rw[Qp,hv];rfl
     have UT:∀k,k<(news.take (min m n*i.size)).length->w.frozen? ⟨bb,ob+off+k,none⟩=false:=fun k hk=>by
      obtain⟨u,hu⟩:=Option.isSome_iff_exists.1 (hcell k hk);exact hb3 rfl _ (by omega) (SR hu)
     have h1:∀u∈news.take (min m n*i.size),u.oneCell'=true:=fun u hu=>hs.one u (List.mem_of_mem_take hu);have h3:=run_storeCells_cells (P:=P) bb (ob+off) (news.take (min m n*i.size)) 0 w (fun k hk=>by simpa using hcell k hk) (fun k hk=>by simpa using UT k hk) h1;have hr:=Acq (P:=P) (w:=w) (t:=t) (ty:=o.type) (ts:=tx::ts) (ad:=some ⟨bb,ob+off,none⟩) (n:=n) (cap:=cap) hu hi hs h3;rw[<-Vj] at hr;simp only[GD] at hr;refine run hr next Q (hn _ _ β (At2 ?_))
     refine h.write h0 trivial trivial hβ (Gg.setCells bb _ _ w) ?_ (fun cells hx=>by cases hx) (fun _ hx=>by cases hx) (fun j hj=>hj) (fun j hj=>by
      refine World.cell?_setCells_out bb _ _ w ⟨bb,j,none⟩ (fun _ _=>?_);have hj:¬(ob<=j):=hj;show j<ob+off\/ob+off+_<=j;omega)
     have Gn:Cq (Dd s.hp β Y) w (w.setCells bb (ob+off) (news.take (min m n*i.size))):=by
      have hw:=Gg.setCells bb (news.take (min m n*i.size)) (ob+off) w;have hAb:Dd s.hp β Y bb:=.inl ⟨id,ob,by rw[h0];trivial,hβ⟩
      exact⟨by rw[hw.size];exact Dn _,fun k _ hk=>hw.other k (fun e=>hk (e ▸ hAb)),fun k _=>by
       by_cases e:k=bb
       ·subst e;rw[hw.bs];exact Dn _
       ·unfold bsz;rw[hw.other k e];exact Dn _⟩
     have hll:(new.take (min m n*i.size)).length=min m n*i.size:=by rw[List.length_take,hnl];omega
     refine .inr ⟨bb,ob,hβ,fun j p hj=>?_,fun _ j hj Y1=>?_,(fun x=>by cases x)⟩
     ·rw[Fe];rcases Xo (by omega) hj with⟨h3,h4,h5⟩|⟨h3,h5⟩
      ·have A1z:j-off<min m n*i.size:=by omega
       rw[List.getElem?_take_of_lt A1z] at h5;obtain⟨u,hu,hcu⟩:=hs.rep.get h5;have Adf:j-off<(news.take (min m n*i.size)).length:=by omega
       refine⟨u,?_,hs.one u (List.mem_of_getElem? hu),hcu.step Gn (fun _ _ x=>x)⟩;have:=World.cell?_setCells_in bb (news.take (min m n*i.size)) (ob+off) w hcell (j-off) Adf;rw[show ob+j=ob+off+(j-off) from by omega,this];rw[<-List.getElem?_eq_getElem Adf,List.getElem?_take_of_lt A1z];exact hu
      ·obtain⟨v,hv,h6,MS⟩:=Pi j p h5;rw[Fe] at hv;refine⟨v,?_,h6,MS.step Gn (fun _ _ x=>x)⟩;rw[World.cell?_setCells_out bb _ _ w ⟨bb,ob+j,none⟩ (fun _ _=>by show ob+j<ob+off\/ob+off+_<=ob+j;omega)]
       exact hv
     ·rw[(Gg.setCells bb _ _ w).bs] at Y1;rw[(Gg.setCells bb _ _ w).frz];exact hb3 rfl j hj Y1
   ·cases hk
  ·cases hk
 ·cases hk
theorem Afd(h:B9 N w0 X0 Y β s a w){G:Vs}(Jz:MD P G w0 X0){C:Jm}{call:Bi}(C6:∀f args res,call f args=some res->C7 G P f args res){K:St->Option R}(hk:CJ C P N call s o K=some r):
  ∃s',K s'=some r/\∀(next:Act->World->Prop) (Q:Exit->Act->World->Prop),(∀a' w' β',B9 N w0 X0 Y β' s' a' w'->next a' w')->o.wp P a w next Q:=by
 unfold CJ at hk;split at hk
 ·rename_i t x y ho;obtain⟨hd,hk⟩:=Au hk;exact Ada h ho (by simpa using hd) hk
 ·rename_i c ho;split at hk
  ·rename_i hc;obtain⟨d,hd,Eg⟩:=Dt hk;obtain⟨b,xs,SZ,Gy⟩:=Bj Eg;obtain⟨x,ys,hys,Vk⟩:=Bj Gy;obtain⟨NB,U8⟩:=El Vk;obtain⟨t,us,hus,XW⟩:=Bj U8;obtain⟨tx,vs,U5,hk6⟩:=Bj XW;rw[hys,NB] at SZ;rw[U5] at hus;exact Aas h ho hc hd SZ hus hk6
  ·rename_i hc;obtain⟨b,xs,SZ,Gy⟩:=Bj hk;obtain⟨x,ys,hys,Vk⟩:=Bj Gy;obtain⟨NB,U8⟩:=El Vk;obtain⟨t,us,hus,XW⟩:=Bj U8;obtain⟨tx,vs,U5,hk6⟩:=Bj XW;rw[hys,NB] at SZ;rw[U5] at hus;exact Afr h ho hc SZ hus hk6
  ·rename_i f hc;exact Ab3 h Jz C6 ho hc hk
  ·cases hk
 ·cases hk
theorem SC(h:B9 N w0 X0 Y β s a w){G:Vs}(Jz:MD P G w0 X0){C:Jm}{call:Bi}(C6:∀f args res,call f args=some res->C7 G P f args res){K:St->Option R}(hk:Ad0 C P N call o s K=some r):
  ∃s',K s'=some r/\∀(next:Act->World->Prop) (Q:Exit->Act->World->Prop),(∀a' w' β',B9 N w0 X0 Y β' s' a' w'->next a' w')->o.wp P a w next Q:=by
 unfold Ad0 at hk;cases hm:Xx C P o.op
 ·rw[hm] at hk;exact Ag7 h Jz C6 hk
 ·rw[hm] at hk;exact Afd h Jz C6 hk
end
end
end
end Go.Proofs.YtpogefhpiaaliaaGreatDoor.Pv
