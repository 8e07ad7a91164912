/-
  The proof of MetadataDecodes, part 2.
-/
import Derived.Test.YtpogefhpiaaliaaGreatDoorDA
import Derived.Laws.Append
import Derived.IntWalk
import Derived.Laws.AppendOwn
import Derived.Laws.IdiomCopy
set_option linter.unusedSimpArgs false
set_option linter.unusedVariables false
namespace Go.Proofs.YtpogefhpiaaliaaGreatDoor.Pv
set_option maxRecDepth 1000000
noncomputable section
section
open Go.RowKit
def Kt(w:World)(A:Nat->Prop)(own:Option (Nat × Nat))(p:PV)(u:Value):Prop:=
 match p with
 |.own es n c=>(own=none/\n=0/\c=[]/\∃ad,u=.slice ad 0 0) \/
   ∃b o cap,own=some (b,o)/\u=.slice (some ⟨b,o,none⟩) n cap/\n<=cap/\o+cap*es<=bsz w b/\b<w.heap.size/\YO w A ⟨b,o,none⟩ c/\∀j,o<=j->j<bsz w b->w.frozen? ⟨b,j,none⟩=false
 |p=>Bd w A p u
def Ik(w:World)(A:Nat->Prop)(own:Bt):Nat->Ab->List Value->Prop
 |_,[],[]=>True
 |j,p::ps,u::us=>Kt w A (own j) p u/\Ik w A own (j+1) ps us
 |_,_,_=>False
def Awb(w:World)(A:Nat->Prop)(own:Bt)(j b o:Nat)(cs:Ab):Prop:=
 ∃vs,Ik w A own j cs vs/\(∀(k:Nat) v,vs[k]?=some v->w.cell? ⟨b,o+k,none⟩=some v)/\∀k,k<cs.length->w.frozen? ⟨b,o+k,none⟩=false
def Ax4(w:World)(A:Nat->Prop)(own:Bt)(z j:Nat)(p:PV)(u:Value):Prop:=
 match p with
 |.agg cs=>∃vs,u=.agg ⟨vs⟩/\Ik w A own j cs vs
 |.pbox cs=>∃b o,own j=some (b,o)/\z<=b/\u=.pointer (some ⟨b,o,none⟩)/\Awb w A own (j+1) b o cs
 |p=>Kt w A (own j) p u
def plc:PV->Nat
 |.pbox cs=>1+cs.length
 |p=>(cellsOf p).length
def Amr(w:World)(A:Nat->Prop)(own:Bt)(z:Nat):Nat->Ab->List Value->Prop
 |_,[],[]=>True
 |j,p::ps,u::us=>Ax4 w A own z j p u/\Amr w A own z (j+plc p) ps us
 |_,_,_=>False
abbrev PA:=Nat->Nat->Option (Nat × Nat)
def BtX(bt:PA)(b:Nat):Prop:=∃i j o,bt i j=some (b,o)
def isA(p:PV):Prop:=GS p\/∃es n c,p=.own es n c
def KZ(p:PV):Bool:=
 match p with
 |.pbox _=>true
 |.tup _=>true
 |_=>false
theorem Ay6{p:PV}(h:isA p):KZ p=false:=by
 rcases h with h|⟨_,_,_,rfl⟩
 ·cases p<;>first|rfl|exact h.elim
 ·rfl
def Ael(w:World)(A:Nat->Prop)(bt:Bt)(p:PV)(u:Value):Prop:=
 match p with
 |.pbox ps=>∃b o,bt 0=some (b,o)/\u=.pointer (some ⟨b,o,none⟩)/\(∀p∈ps,isA p)/\Awb w A bt 1 b o ps
 |.tup ps=>∃es n c,ps=[.own es n c]/\Kt w A (bt 0) (.own es n c) u
 |.agg cs=>∃vs,u=.agg ⟨vs⟩/\(∀p∈cs,isA p)/\Ik w A bt 1 cs vs
 |p=>isA p/\Kt w A (bt 1) p u
def Rs(w:World)(A:Nat->Prop)(bt:PA):Nat->Ab->List Value->Prop
 |_,[],[]=>True
 |i,p::ps,u::us=>Ael w A (bt i) p u/\Rs w A bt (i+1) ps us
 |_,_,_=>False
def A3c(bt:Bt)(p:PV)(b j:Nat):Prop:=
 (∃k o,bt (k+1)=some (b,o)/\o<=j)\/∃o ps,bt 0=some (b,o)/\o<=j/\((p=.pbox ps/\j<o+ps.length)\/p=.tup ps)
def YW(bt:PA)(args:Ab)(b j:Nat):Prop:=∃i p,args[i]?=some p/\A3c (bt i) p b j
def GR(w:World)(A:Nat->Prop)(own:Bt)(bt:PA):Nat->Nat->Ab->List Ab->Prop
 |_,_,[],r=>r=[]
 |j,i,p::zs,r=>
  match p with
  |.pbox ps=>
   match r with
   |[]=>False
   |cs::r=>(∃b o,bt i 0=some (b,o)/\cs.length=ps.length/\Awb w A own j b o cs)/\GR w A own bt (j+cs.length) (i+1) zs r
  |.tup _=>
   match r with
   |[]=>False
   |cs::r=>((bt i 0=none/\cs=[])\/∃b o,bt i 0=some (b,o)/\YO w A ⟨b,o,none⟩ cs/\∀k,o<=k->k<bsz w b->w.frozen? ⟨b,k,none⟩=false)/\GR w A own bt j (i+1) zs r
  |_=>GR w A own bt j (i+1) zs r
def VV(bt:PA)(own:Bt)(Y:Nat->Prop)(b:Nat):Prop:=(∃j o,own j=some (b,o))\/(∃i o,bt i 0=some (b,o))\/Y b
def Vu(vals:Ab):Nat:=(vals.map plc).sum
structure Out(w w':World)(Y:Nat->Prop)(bt:PA)(args:Ab)(own:Bt)(r:D0)(vs:List Value):Prop where
 os:w'.os=w.os
 tape:w'.tape=w.tape
 output:w'.output=w.output
 ext:C6 (BtX bt) w w'
 rng:∀b j,b<w.heap.size->¬YW bt args b j->w'.cell? ⟨b,j,none⟩=w.cell? ⟨b,j,none⟩/\w'.frozen? ⟨b,j,none⟩=w.frozen? ⟨b,j,none⟩
 vals:Amr w' (VV bt own Y) own w.heap.size 0 r.vals vs
 outs:GR w' (VV bt own Y) own bt (Vu r.vals) 0 args r.outs
 fresh:∀j b o,own j=some (b,o)->b<w'.heap.size/\(b<w.heap.size->(∃i k o',bt i (k+1)=some (b,o'))/\∀x,o<=x->YW bt args b x)
 inj:∀j j' b o o',own j=some (b,o)->own j'=some (b,o')->j=j'
def Nj(us:List Value):Value:=match us with|[u]=>u|us=>.tuple ⟨us⟩
def Xz(w:World)(Y:Nat->Prop)(p:PV)(u:Value):Prop:=
 match p with
 |.agg cs=>∃vs,u=.agg ⟨vs⟩/\B9 (fun c v=>GS c/\Bd w Y c v) cs vs
 |p=>GS p/\Bd w Y p u
structure Ins(w:World)(Y:Nat->Prop)(bt:PA)(args:Ab)(us:List Value):Prop where
 Ylt:∀b,Y b->b<w.heap.size
 Yx:∀b,Y b->¬BtX bt b
 lt:∀b,BtX bt b->b<w.heap.size
 inj:∀i j i' j' b o o',bt i j=some (b,o)->bt i' j'=some (b,o')->i=i'/\j=j'
 l0:∀i q,bt i 0=some q->∃p,args[i]?=some p/\KZ p=true
 args:Rs w (fun b=>BtX bt b\/Y b) bt 0 args us
structure Zg where
 bl:Nat->Prop
 ok:World->Prop
 stable:∀w w':World,(∀b,bl b->b<w.heap.size->w'.heap[b]?=w.heap[b]?)->ok w->ok w'
def Do(G:Zg)(P:Program)(f:FuncId)(args:Ab)(r:D0):Prop:=
 (∃fn,P.funcs[f]?=some fn/\fn.body.isSome=true)/\∀(w:World)(Y:Nat->Prop)(bt:PA)(us:List Value),Ins w Y bt args us->G.ok w->(∀b,G.bl b->b<w.heap.size/\¬BtX bt b) ->
  Calls P f us.toArray w fun e w'=>∃vs own,e=.returned (Nj vs)/\Out w w' Y bt args own r vs
def CK:PA:=fun _ _=>none
theorem Sx(b:Nat):¬BtX CK b:=by rintro⟨_,_,_,h⟩;cases h
theorem Qw{w:World}{A:Nat->Prop}{q:Option (Nat × Nat)}{p:PV}{u:Value}(hp:GS p)(h:Bd w A p u):Kt w A q p u:=by cases p<;>first|exact h|exact hp.elim
theorem QC{w:World}{A:Nat->Prop}{own:Bt}:∀{cs:Ab}{vs:List Value}{j:Nat},B9 (fun c v=>GS c/\Bd w A c v) cs vs->Ik w A own j cs vs
 |[],[],_,_=>trivial
 |_::_,_::_,_,h=>⟨Qw h.1.1 h.1.2,QC h.2⟩
 |[],_::_,_,h=>h.elim
 |_::_,[],_,h=>h.elim
theorem Ang{w:World}{A:Nat->Prop}{bt:Bt}{p:PV}{u:Value}(h:Xz w A p u):Ael w A bt p u:=by
 cases p with
 |agg cs=>
  obtain⟨vs,h1,h2⟩:=h;refine⟨vs,h1,fun p hp=>.inl ?_,QC h2⟩;obtain⟨j,hj⟩:=List.mem_iff_getElem?.1 hp;obtain⟨v,_,hv⟩:=h2.get hj;exact hv.1
 |sc v=>exact⟨.inl trivial,h.2⟩
 |lst z es n c=>exact⟨.inl trivial,h.2⟩
 |_=>exact h.1.elim
theorem IQ{w:World}{A:Nat->Prop}{bt:PA}:∀{ps:Ab}{us:List Value}{i:Nat},B9 (Xz w A) ps us->Rs w A bt i ps us
 |[],[],_,_=>trivial
 |_::_,_::_,_,h=>⟨Ang h.1,IQ h.2⟩
 |[],_::_,_,h=>h.elim
 |_::_,[],_,h=>h.elim
theorem Aaq{w:World}{A A':Nat->Prop}(hA:∀b,b<w.heap.size->A' b->A b){p:PV}{v:Value}(h:Xz w A p v):Xz w A' p v:=by
 cases p with
 |agg cs=>
  obtain⟨vs,rfl,h2⟩:=h;exact⟨vs,rfl,h2.mono fun c v hc=>⟨hc.1,hc.2.step (C6.refl _ _) hA⟩⟩
 |sc v=>exact⟨h.1,h.2.step (C6.refl _ _) hA⟩
 |lst z es n c=>exact⟨h.1,h.2.step (C6.refl _ _) hA⟩
 |_=>exact h.1.elim
theorem Agd{w:World}{Y:Nat->Prop}{args:Ab}{us:List Value}(hY:∀b,Y b->b<w.heap.size)(h:B9 (Xz w Y) args us):Ins w Y CK args us:=
 ⟨hY,fun b _=>Sx b,fun b h=>absurd h (Sx b),(fun _ _ _ _ _ _ _ h=>by cases h),(fun _ _ h=>by cases h),IQ (h.mono fun _ _ hx=>Aaq (fun b _ hb=>hb.elim (fun q=>absurd q (Sx b)) id) hx)⟩
def NoNG(P:Program):Prop:=∀(f:FuncId) (fn:Func),P.funcs[f]?=some fn->(fn.name == "runtime.NumGoroutine")=false
structure QL(P:Program)(G:Zg)(w0:World)(X0:Gn):Prop where
 ng:NoNG P
 fr:∀w,Fr X0 w0 w->G.ok w
 y:∀b,G.bl b->b<w0.heap.size/\¬X0.X b
section
variable {R:Type}{r:R}{P:Program}{N:Nat}{w0:World}{X0:Gn}{Y:Nat->Prop}{β β':Bt}{s:St}{a:Act}{w w':World}{o:Oper}{A:Nat->Prop}
def VU(P:Program)(a:Act)(w:World)(o:Oper)(Y:Nat->Prop)(β:Bt)(s:St)(v:PV)(fz:Cc)(nw:List (Nat × Cb)):Prop:=
 (∀id∈fz,∃f c,s.hp id=some (.ar f c))/\∀(next:Act->World->Prop)(Q:Exit->Act->World->Prop),
  (∀val w',(C1 s.hp nw=true->∃β',ZB Y β ⟨s.tm,Al s.hp fz⟩ w v nw val w' β')->next (a.put o.dst val) w')->o.wp P a w next Q
theorem TY{v:PV}{fz:Cc}{nw:List (Nat × Cb)}(h:G4 P a w o Y β s v fz nw):VU P a w o Y β s v fz nw:=by obtain⟨h1,val,w',hr,hs⟩:=h;refine⟨h1,fun next Q hn=>?_⟩;unfold Oper.wp;rw[hr];exact hn val w' hs
theorem Atn(h:Cj N w0 X0 Y β s a w){t:TypeId}{x:PV}{u:Value}(hx:Fc w (D2 s.hp β Y) β x u){K:PV->Cc->Option R}(hk:Aiz P (Pw s.hp) t x K=some r):
  ∃p m,K p m=some r/\(∀id∈m,∃f cc,s.hp id=some (.ar f cc))/\(cellsOf p).length=(M0 P t).length/\∀fz:Cc,(∀id∈m,id∈fz)->(∀id∈fz,∃f cc,s.hp id=some (.ar f cc))->Xz w (D2 (Al s.hp fz) β Y) p u:=by
 unfold Aiz at hk;cases Jl:Dd P t
 ·rw[Jl] at hk;obtain⟨cs,m,hk,hl,Q2,hT,hF,hm,hv⟩:=Zc h (show Vv _ _ _ _=some r from hk);obtain⟨c,t',rfl,hk⟩:=Br hk;obtain⟨rfl,hk⟩:=Fg hk;have hcT:=hT c (by simp);refine⟨c,m,hk,hm,?_,fun fz h1 h2=>?_⟩
  ·have:cellsOf c=[c]:=by cases c<;>first|rfl|exact hcT.elim
   rw[this];exact hl
  have hF':=hF _ (Xh _)
  have hc:Cx w (D2 s.hp β Y) β x u:=by
   cases x<;>first|exact hx|exact hF'.elim
  have h3:=(hv fz h1 h2 [u] ⟨hc,trivial⟩).1.1;cases c<;>first|exact⟨trivial,h3⟩|exact hcT.elim
 ·rw[Jl] at hk;obtain⟨ps,hp,hk⟩:=Le (show Dr _ _=some r from hk);rw[hp] at hx;obtain⟨cs,m,hk,hl,Q2,hT,hF,hm,hv⟩:=Zc h hk;obtain⟨vs,Ez,h2⟩:=hx;refine⟨.agg cs,m,hk,hm,hl,fun fz h1 h3=>⟨vs,Ez,?_⟩⟩;exact (hv fz h1 h3 vs h2).1.mono_mem fun c hc v PJ=>⟨hT c hc,PJ⟩
theorem As2(h:Cj N w0 X0 Y β s a w){t:TypeId}{x:Operand}{K:PV->Cc->Option R}(hk:Aiz P (Pw s.hp) t (Db s.tm x) K=some r):
  ∃p m,K p m=some r/\(∀id∈m,∃f cc,s.hp id=some (.ar f cc))/\∀fz:Cc,(∀id∈m,id∈fz)->(∀id∈fz,∃f cc,s.hp id=some (.ar f cc))->Xz w (D2 (Al s.hp fz) β Y) p (a.eval x):=by
 obtain⟨p,m,h1,h2,_,h3⟩:=Atn h (Er h x) hk;exact⟨p,m,h1,h2,h3⟩
theorem Aay(h:Cj N w0 X0 Y β s a w):∀{ts:List TypeId}{xs:List Operand}{K:Ab->Cc->Option R},WJ P (Pw s.hp) ts (xs.map (Db s.tm)) K=some r ->
  ∃ps m,K ps m=some r/\(∀id∈m,∃f cc,s.hp id=some (.ar f cc))/\∀fz:Cc,(∀id∈m,id∈fz)->(∀id∈fz,∃f cc,s.hp id=some (.ar f cc))->B9 (Xz w (D2 (Al s.hp fz) β Y)) ps (xs.map a.eval)
 |[],[],K,hk=>⟨[],[],hk,by simp,fun _ _ _=>trivial⟩
 |[],_::_,K,hk=>by cases hk
 |_::_,[],K,hk=>by cases hk
 |t::ts,x::xs,K,hk=>by
  simp only[Sf] at hk;unfold WJ at hk;obtain⟨p,m,hk,hm,hv⟩:=As2 h hk;obtain⟨ps,ms,hk,SW,Xl⟩:=Aay h hk;refine⟨p::ps,m++ms,hk,?_,fun fz h1 h2=>⟨hv fz (fun i hi=>h1 i (by simp[hi])) h2,Xl fz (fun i hi=>h1 i (by simp[hi])) h2⟩⟩;intro i hi;rcases Bz.1 hi with hi|hi
  ·exact hm i hi
  ·exact SW i hi
theorem Xz.weaken{A':Nat->Prop}(hA:∀b,b<w.heap.size->A' b->A b){p:PV}{v:Value}(h:Xz w A p v):Xz w A' p v:=by
 have one:GS p->GS p/\Bd w A p v->Xz w A' p v:=by
  intro hp h;cases p<;>first|exact⟨h.1,h.2.step (C6.refl _ _) hA⟩|exact hp.elim
 cases p with
 |agg cs=>
  obtain⟨vs,rfl,h2⟩:=h;exact⟨vs,rfl,h2.mono fun c v hc=>⟨hc.1,hc.2.step (C6.refl _ _) hA⟩⟩
 |_=>exact one h.1 h
theorem Asv{t:CT}{p:PV}{K:PV->Option R}(h:NM t p K=some r):
  ∃c,K c=some r/\GS c/\GS p/\(∀(w:World) (A:Nat->Prop) (β:Nat->Option (Nat × Nat)) (v:Value),Cx w A β p v->Bd w A c v/\v.oneCell'=true)/\((∀es,t ≠ .sl es)->∃v,c=.sc v):=by
 obtain⟨c,hk,hT,WL,hv⟩:=Tj h;cases t with
 |sl es=>exact⟨c,hk,hT,WL,hv,fun Gz=>absurd rfl (Gz es)⟩
 |int k=>obtain⟨n,rfl,h2⟩:=G0 h;exact⟨_,h2,trivial,trivial,fun w A β v hv=>⟨hv,by have:=Bd.val (w:=w) (A:=A) hv;subst this;rfl⟩,fun _=>⟨_,rfl⟩⟩
 |bool=>obtain⟨n,rfl,h2⟩:=Fq h;exact⟨_,h2,trivial,trivial,fun w A β v hv=>⟨hv,by have:=Bd.val (w:=w) (A:=A) hv;subst this;rfl⟩,fun _=>⟨_,rfl⟩⟩
 |str=>obtain⟨n,rfl,h2⟩:=Fp h;exact⟨_,h2,trivial,trivial,fun w A β v hv=>⟨hv,by have:=Bd.val (w:=w) (A:=A) hv;subst this;rfl⟩,fun _=>⟨_,rfl⟩⟩
 |any=>
  obtain⟨f,a,b,rfl,h2⟩:=Acv (show fnK p (fun v=>K (.sc v))=some r from h);exact⟨_,h2,trivial,trivial,fun w A β v hv=>⟨hv,by have:=Bd.val (w:=w) (A:=A) hv;subst this;rfl⟩,fun _=>⟨_,rfl⟩⟩
theorem EH(shr:Bool)(N:Nat):∀{ts:List CT}{ps:Ab}{id:Nat}{K:Ab->List (Nat × Cb)->Option R},Y3 shr N id ts ps K=some r ->
  ∃cs bs,K cs bs=some r/\ps.length=ts.length/\(∀p∈ps,∀x,p ≠ .agg x/\p ≠ .pbox x)/\(∀c∈cs,XU c)/\((∀es,CT.sl es ∉ ts)->bs=[]/\∀c∈cs,∃v,c=.sc v) /\
   (∀i bx,(i,bx)∈bs->∃j es n c,ps[j]?=some (.own es n c)/\i=id+N*j/\bx=.ar false c) /\
   (∀c∈cs,∀i∈A9 c,∃bx,(i,bx)∈bs) /\
   ∀(w:World) (A:Nat->Prop) (own β':Bt) (j0:Nat) (us:List Value),(∀j,(∃bx,(id+N*j,bx)∈bs)->β' (id+N*j)=own (j0+j))->Ik w A own j0 ps us->B9 (Cx w A β') cs us
 |[],ps,id,K,hk=>by
  obtain⟨rfl,hk⟩:=Fg hk;refine⟨[],[],hk,rfl,by simp,by simp,by simp,by simp,by simp,fun w A own β' j0 us _ h=>?_⟩;cases us with
  |nil=>trivial
  |cons u us=>exact h.elim
 |t::ts,ps,id,K,hk=>by
  unfold Y3 at hk;obtain⟨p,ps',PX,E9⟩:=Br hk;subst PX;clear hk
  have main:∃c b,(Y3 shr N (id+N) ts ps' fun cs bs=>K (c::cs) (b++bs))=some r/\(∀x,p ≠ .agg x/\p ≠ .pbox x)/\XU c/\((∀es,t≠CT.sl es)->b=[]/\∃v,c=.sc v)/\(∀i bx,(i,bx)∈b->∃es n cc,p=.own es n cc/\i=id/\bx=.ar false cc)/\(∀i∈A9 c,∃bx,(i,bx)∈b) /\
    ∀(w:World) (A:Nat->Prop) (own:Option (Nat × Nat)) (β':Bt) (u:Value),((∃bx,(id,bx)∈b)->β' id=own)->Kt w A own p u->Cx w A β' c u:=by
   have tree:∀t',t'=t->(NM t' p fun c=>Y3 shr N (id+N) ts ps' fun cs bs=>K (c::cs) ([]++bs))=some r->∃c b,(Y3 shr N (id+N) ts ps' fun cs bs=>K (c::cs) (b++bs))=some r/\(∀x,p ≠ .agg x/\p ≠ .pbox x)/\XU c/\((∀es,t≠CT.sl es)->b=[]/\∃v,c=.sc v)/\(∀i bx,(i,bx)∈b->∃es n cc,p=.own es n cc/\i=id/\bx=.ar false cc)/\(∀i∈A9 c,∃bx,(i,bx)∈b) /\
     ∀(w:World) (A:Nat->Prop) (own:Option (Nat × Nat)) (β':Bt) (u:Value),((∃bx,(id,bx)∈b)->β' id=own)->Kt w A own p u->Cx w A β' c u:=by
    intro t' ht' hk;have hsc:=Asv hk;obtain⟨c,hk,hT,WL,hv,hsc⟩:=hsc;refine⟨c,[],hk,fun x=>⟨KR WL x,by rintro rfl;exact WL⟩,AX hT,fun Gz=>⟨rfl,hsc (fun es e=>Gz es (ht'.symm.trans e))⟩,by simp,by rw[Mc hT];simp,fun w A own β' u _ hc=>?_⟩
    have AL:Cx w A β' p u:=by cases p<;>first|exact hc|exact WL.elim
    exact (Q8 hT).2 (hv w A β' u AL).1
   unfold Au2 at E9;cases t with
   |sl es=>
    dsimp only at E9;cases shr
    ·unfold Je at E9;simp only[cond_false] at E9;split at E9
     ·rename_i es' n c;cases hb:Nat.beq es' es
      ·rw[hb] at E9;cases E9
      ·rw[hb] at E9;have:=Et hb;subst this;refine⟨_,_,E9,by simp,trivial,fun Gz=>absurd rfl (Gz _),?_,?_,fun w A own β' u hβ hc=>?_⟩
       ·intro i bx hm;simp at hm;exact⟨_,_,_,rfl,hm.1,hm.2⟩
       ·intro i hi;simp[A9] at hi;subst hi;exact⟨.ar false c,by simp⟩
       ·have hβ':=hβ ⟨.ar false c,by simp⟩;clear hβ;rcases hc with⟨h1,rfl,rfl,h4⟩|⟨b,ob,cap,h1,h2,h3,h4,h5,_⟩
        ·exact .inl ⟨hβ'.trans h1,rfl,rfl,h4⟩
        ·exact .inr ⟨b,ob,ob,cap,hβ'.trans h1,h2,.inl rfl,h3,h4,h5⟩
     ·cases E9
    ·obtain⟨c,hk,hT,WL,hv,_⟩:=Asv (t:=.sl es) (p:=p) (K:=fun c=>Y3 true N (id+N) ts ps' fun cs bs=>K (Ab6 c::cs) ([]++bs)) E9;have hU:GS (Ab6 c):=by cases c<;>exact hT
     refine⟨Ab6 c,[],hk,fun x=>⟨KR WL x,by rintro rfl;exact WL⟩,AX hU,fun Gz=>absurd rfl (Gz _),by simp,by rw[Mc hU];simp,fun w A own β' u _ hc=>?_⟩
     have AL:Cx w A β' p u:=by cases p<;>first|exact hc|exact WL.elim
     refine (Q8 hU).2 ?_;have:=(hv w A β' u AL).1;cases c with
     |lst z es n c=>exact Bd.unz this
     |_=>exact this
   |int k=>exact tree (.int k) rfl E9
   |bool=>exact tree .bool rfl E9
   |str=>exact tree .str rfl E9
   |any=>exact tree .any rfl E9
  obtain⟨c,b,hk,hpa,hF,SD,Jq,Qm,PJ⟩:=main;obtain⟨cs,bs,hk,hl,A96,hFs,A4e,Bbu,Bam,A9g⟩:=EH shr N hk;refine⟨c::cs,b++bs,hk,by simp[hl],?_,?_,?_,?_,?_,fun w A own β' j0 us hβ hoc=>?_⟩
  ·intro x hx;rcases B6.1 hx with rfl|hx
   ·exact hpa
   ·exact A96 x hx
  ·intro x hx;rcases B6.1 hx with rfl|hx
   ·exact hF
   ·exact hFs x hx
  ·intro Gz;obtain⟨h1,v,h2⟩:=SD (fun es e=>Gz es (by rw[e];simp))
   obtain⟨h3,h4⟩:=A4e (fun es hm=>Gz es (by simp[hm]));refine⟨by rw[h1,h3];rfl,fun x hx=>?_⟩
   rcases B6.1 hx with rfl|hx
   ·exact⟨v,h2⟩
   ·exact h4 x hx
  ·intro i bx hm;rcases Bz.1 hm with hm|hm
   ·obtain⟨es,n,cc,rfl,rfl,rfl⟩:=Jq i bx hm;exact⟨0,es,n,cc,rfl,by simp,rfl⟩
   ·obtain⟨j,es,n,cc,h1,rfl,h3⟩:=Bbu i bx hm;exact⟨j+1,es,n,cc,by simpa using h1,by rw[Nat.mul_add];omega,h3⟩
  ·intro x hx i hi;rcases B6.1 hx with rfl|hx
   ·obtain⟨bx,hm⟩:=Qm i hi;exact⟨bx,by simp[hm]⟩
   ·obtain⟨bx,hm⟩:=Bam x hx i hi;exact⟨bx,by simp[hm]⟩
  ·cases us with
   |nil=>exact hoc.elim
   |cons u us=>
    refine⟨PJ w A (own j0) β' u (fun ⟨bx,hm⟩=>by have:=hβ 0 ⟨bx,by simp[hm]⟩;simpa using this) hoc.1,?_⟩
    refine A9g w A own β' (j0+1) us (fun j ⟨bx,hm⟩=>?_) hoc.2;have e:id+N+N*j=id+N*(j+1):=by rw[Nat.mul_add];omega
    have:=hβ (j+1) ⟨bx,by rw[<-e];simp[hm]⟩
    rw[e,this]
    congr 1
    omega
end
open Go.RowKit
section
variable {R:Type}{r:R}{P:Program}{N:Nat}{w0:World}{X0:Gn}{Y:Nat->Prop}{β β':Bt}{s:St}{a:Act}{w w':World}{o:Oper}{A:Nat->Prop}
theorem Ik.len:∀{j:Nat}{own:Bt}{ps:Ab}{us:List Value},Ik w A own j ps us->ps.length=us.length
 |_,_,[],[],_=>rfl
 |_,_,_::_,_::_,h=>by simp[Ik.len h.2]
 |_,_,[],_::_,h=>h.elim
 |_,_,_::_,[],h=>h.elim
theorem Ik.at_:∀{j:Nat}{own:Bt}{ps:Ab}{us:List Value},Ik w A own j ps us->∀{i:Nat} {p},ps[i]?=some p->∃u,us[i]?=some u/\Kt w A (own (j+i)) p u
 |_,_,[],[],_,i,p,h=>by simp at h
 |j,own,_::_,u::_,h,0,p,hp=>by simp at hp;subst hp;exact⟨u,rfl,h.1⟩
 |j,own,_::_,_::_,h,i+1,p,hp=>by
  simp at hp;obtain⟨u,hu,hc⟩:=Ik.at_ h.2 hp;exact⟨u,by simpa using hu,by rw[show j+(i+1)=j+1+i from by omega];exact hc⟩
 |_,_,[],_::_,h,_,_,_=>h.elim
 |_,_,_::_,[],h,_,_,_=>h.elim
def Arj(N id:Nat)(β':Bt)(w:World)(A:Nat->Prop)(z n:Nat)(bs:List (Nat × Cb)):Prop:=
 ∀i bx,(i,bx)∈bs->(∃j,i=id+N*j/\j<n)/\C8 (some bx)/\Yi w A β' i bx/\∀cs,bx=.st cs->∀b o,β' i=some (b,o)->z<=b
def OP(bs:List (Nat × Cb)):Prop:=∀i cells,(i,.st cells)∈bs->∀c∈cells,∀i'∈A9 c,∃bx,(i',bx)∈bs
theorem KL{q:Option (Nat × Nat)}{es n i:Nat}{c:Ab}{u:Value}(h:Kt w A q (.own es n c) u)(hβ:β' i=q):Yi w A β' i (.ar false c):=by
 rcases h with⟨h1,_,h2,_⟩|⟨b,o,cap,h1,_,_,_,_,h6,h7⟩
 ·exact .inl ⟨hβ.trans h1,h2⟩
 ·exact .inr ⟨b,o,hβ.trans h1,h6,fun _=>h7,(fun x=>by cases x)⟩
theorem NG{t:TypeId}(h:Oz P [t]=false):MP P t=none/\∀es,CT.sl es ∉ M0 P t:=by simp only[Oz,List.any_cons,List.any_nil,Bool.or_false,Bool.or_eq_false_iff] at h;refine⟨by simpa using h.1,fun es hm=>?_⟩;have:=List.any_eq_false.1 h.2 _ hm;simp at this
theorem Auh(shr:Bool)(N:Nat){t:TypeId}{p:PV}{id:Nat}{K:PV->List (Nat × Cb)->Option R}(hk:Anv P shr N id t p K=some r):
  ∃v bs,K v bs=some r/\plc p=Afk P t/\(∀x,v ≠ .tup x)/\(Oz P [t]=false->bs=[]/\∀c∈cellsOf v,∃u,c=.sc u)/\(∀i∈C3 v,∃bx,(i,bx)∈bs)/\OP bs /\
   ∀(w:World) (A:Nat->Prop) (own β':Bt) (z j0:Nat) (u:Value),(∀j,(∃bx,(id+N*j,bx)∈bs)->β' (id+N*j)=own (j0+j))->Ax4 w A own z j0 p u->Jb w A β' v u/\Arj N id β' w A z (plc p) bs:=by
 have boxes:∀{bs:List (Nat × Cb)} {ps:Ab} {id:Nat},(∀i bx,(i,bx)∈bs->∃j es n c,ps[j]?=some (.own es n c)/\i=id+N*j/\bx=.ar false c) ->
   OP bs/\∀(w:World) (A:Nat->Prop) (own β':Bt) (j0:Nat) (us:List Value),(∀j,(∃bx,(id+N*j,bx)∈bs)->β' (id+N*j)=own (j0+j))->Ik w A own j0 ps us->∀z,Arj N id β' w A z ps.length bs:=by
  intro bs ps id Jq;refine⟨fun i cells hm=>?_,fun w A own β' j0 us hβ ho z i bx hm=>?_⟩
  ·obtain⟨_,_,_,_,_,_,h3⟩:=Jq i _ hm;cases h3
  ·obtain⟨j,es,n,cc,h1,h2,h3⟩:=Jq i bx hm;obtain⟨u,hu,hoc⟩:=ho.at_ h1;subst h3;refine⟨⟨j,h2,?_⟩,trivial,KL hoc ?_,fun _ e=>by cases e⟩
   ·rcases Mi j ps.length with h|h
    ·exact h
    ·rw[List.getElem?_eq_none h] at h1;cases h1
   ·rw[h2];exact hβ j ⟨_,h2 ▸ hm⟩
 unfold Anv at hk;split at hk
 ·rename_i e he;obtain⟨ps,rfl,hk⟩:=ZF hk;obtain⟨cs,bs,hk,hl,Ayi,hF,SD,Jq,Qm,PJ⟩:=EH shr N hk;obtain⟨hri,Pr⟩:=boxes Jq;refine⟨.ptr id 0,_,hk,by simp only[plc,Afk,he,hl],by simp,fun h=>?_,fun i hi=>?_,fun i cells hm c hc i' hi'=>?_,fun w A own β' z j0 u hβ ho=>?_⟩
  ·have:=(NG h).1;rw[he] at this;cases this
  ·simp only[C3,A9,Mv] at hi;subst hi;exact⟨_,LU⟩
  ·rcases B6.1 hm with e|hm
   ·cases e;obtain⟨bx,hb⟩:=Qm c hc i' hi';exact⟨bx,Sh _ hb⟩
   ·obtain⟨bx,hb⟩:=hri i cells hm c hc i' hi';exact⟨bx,Sh _ hb⟩
  ·obtain⟨b,o,h1,hz,rfl,vs,h3,h4,h5⟩:=ho;have h0:=hβ 0 ⟨_,by rw[Nat.mul_zero,JF];exact LU⟩
   rw[Nat.mul_zero,JF,JF,h1] at h0;have B5:∀j,id+N+N*j=id+N*(j+1):=fun j=>by rw[Nat.mul_add];omega
   have hβ1:∀j,(∃bx,(id+N+N*j,bx)∈bs)->β' (id+N+N*j)=own (j0+1+j):=fun j ⟨bx,hm⟩=>by
    rw[B5,hβ (j+1) ⟨bx,by rw[<-B5];exact Sh _ hm⟩]
    congr 1;omega
   have hc2:=PJ w A own β' (j0+1) vs hβ1 h3;have hb3:=Pr w A own β' (j0+1) vs hβ1 h3 z;have Hr:cs.length=ps.length:=by rw[hc2.len,<-h3.len]
   refine⟨⟨b,o,h0,by simp⟩,fun i bx hm=>?_⟩;rcases B6.1 hm with e|hm
   ·cases e;refine⟨⟨0,by simp,by simp only[plc];omega⟩,trivial,⟨b,o,h0,fun k c hk=>?_,fun k hk=>h5 k (by omega)⟩,fun _ _ b' o' J8=>?_⟩
    ·obtain⟨v,hv,hcr⟩:=hc2.get hk;exact⟨v,h4 k v hv,hcr⟩
    ·rw[h0] at J8;cases J8;exact hz
   ·obtain⟨⟨j,hj,hjn⟩,h6,h7⟩:=hb3 i bx hm;exact⟨⟨j+1,by rw[hj,B5],by simp only[plc];omega⟩,h6,h7⟩
 ·rename_i hnp;have RE:Afk P t=(M0 P t).length:=by simp only[Afk,hnp]
  cases Jl:Dd P t
  ·rw[Jl] at hk;obtain⟨cs,bs,hk,hl,Ayi,hF,SD,Jq,Qm,PJ⟩:=EH shr N (show Y3 _ _ _ _ _ _=some r from hk);obtain⟨c,t',rfl,hk⟩:=Br hk;obtain⟨rfl,hk⟩:=Fg hk;have hFc:=hF c (by simp);have A5f:∀x,p ≠ .pbox x:=fun x=>(Ayi p (by simp) x).2;have A28:∀x,c ≠ .agg x:=by rintro x rfl;exact hFc
   have Ba6:∀x,c ≠ .tup x:=by rintro x rfl;exact hFc
   have hr1:C3 c=A9 c:=by cases c<;>first|rfl|exact absurd rfl (A28 _)
   have hpa:∀x,p ≠ .agg x:=fun x=>(Ayi p (by simp) x).1;obtain⟨hri,Pr⟩:=boxes Jq;have hcell:cellsOf p=[p]:=by cases p<;>first|rfl|exact absurd rfl (hpa _)
   have A72:plc p=1:=by cases p<;>first|rfl|exact absurd rfl (hpa _)|exact absurd rfl (A5f _)
   have hcc:cellsOf c=[c]:=by cases c<;>first|rfl|exact absurd rfl (A28 _)
   refine⟨c,bs,hk,by rw[A72,RE];exact hl,Ba6,fun Gz=>by rw[hcc];exact SD (NG Gz).2,fun i hi=>Qm c (by simp) i (by rw[<-hr1];exact hi),hri,fun w A own β' z j0 u hβ ho=>?_⟩
   have ho':Kt w A (own j0) p u:=by cases p<;>first|exact ho|exact absurd rfl (hpa _)|exact absurd rfl (A5f _)
   exact⟨(AN A28).2 (PJ w A own β' j0 [u] hβ ⟨ho',trivial⟩).1,by rw[A72];exact Pr w A own β' j0 [u] hβ ⟨ho',trivial⟩ z⟩
  ·rw[Jl] at hk;obtain⟨ps,rfl,hk⟩:=Le (show Dr _ _=some r from hk);obtain⟨cs,bs,hk,hl,Ayi,hF,SD,Jq,Qm,PJ⟩:=EH shr N hk;obtain⟨hri,Pr⟩:=boxes Jq;refine⟨.agg cs,bs,hk,by rw[RE];exact hl,by simp,fun Gz=>SD (NG Gz).2,fun i hi=>?_,hri,fun w A own β' z j0 u hβ ho=>?_⟩
   ·obtain⟨c,hc,hi⟩:=List.mem_flatMap.1 (show i∈cs.flatMap A9 from hi);exact Qm c hc i hi
   ·obtain⟨vs,rfl,ho⟩:=ho;exact⟨⟨vs,rfl,PJ w A own β' j0 vs hβ ho⟩,Pr w A own β' j0 vs hβ ho z⟩
theorem MZ(shr:Bool)(N:Nat):∀{ts:List TypeId}{ps:Ab}{id:Nat}{K:Ab->List (Nat × Cb)->Option R},PG P shr N id ts ps K=some r ->
  ∃vs bs,K vs bs=some r/\vs.length=ps.length/\(∀v∈vs,∀x,v ≠ .tup x)/\(Oz P ts=false->bs=[]/\∀v∈vs,∀c∈cellsOf v,∃u,c=.sc u)/\(∀v∈vs,∀i∈C3 v,∃bx,(i,bx)∈bs)/\OP bs /\
   ∀(w:World) (A:Nat->Prop) (own β':Bt) (z j0:Nat) (us:List Value),(∀j,(∃bx,(id+N*j,bx)∈bs)->β' (id+N*j)=own (j0+j))->Amr w A own z j0 ps us->B9 (Jb w A β') vs us/\Arj N id β' w A z (Vu ps) bs
 |[],ps,id,K,hk=>by
  obtain⟨rfl,hk⟩:=Fg hk;refine⟨[],[],hk,rfl,by simp,by simp,by simp,(by intro i cells hm;cases hm),fun w A own β' z j0 us _ h=>?_⟩
  cases us with
  |nil=>exact⟨trivial,by intro i bx hm;cases hm⟩
  |cons u us=>exact h.elim
 |t::ts,ps,id,K,hk=>by
  unfold PG at hk;obtain⟨p,ps',PX,E9⟩:=Br hk;subst PX;clear hk;obtain⟨v,bs,hk,hl,hnt,SD,hr1,hri,hv⟩:=Auh shr N E9;obtain⟨vs,bs',hk,hvl,A9t,A4e,hrs,Ba2,Xl⟩:=MZ shr N hk;refine⟨v::vs,bs++bs',hk,by simp[hvl],?_,?_,?_,?_,fun w A own β' z j0 us hβ ho=>?_⟩
  ·intro x hx;rcases B6.1 hx with rfl|hx
   ·exact hnt
   ·exact A9t x hx
  ·intro Gz;simp only[Oz,List.any_cons,Bool.or_eq_false_iff] at Gz;obtain⟨h1,h2⟩:=SD (by simp only[Oz,List.any_cons,List.any_nil,Bool.or_false,Bool.or_eq_false_iff];exact Gz.1)
   obtain⟨h3,h4⟩:=A4e (by simp only[Oz];exact Gz.2)
   refine⟨by rw[h1,h3];rfl,fun x hx=>?_⟩
   rcases B6.1 hx with rfl|hx
   ·exact h2
   ·exact h4 x hx
  ·intro x hx i hi;rcases B6.1 hx with rfl|hx
   ·obtain⟨bx,hm⟩:=hr1 i hi;exact⟨bx,by simp[hm]⟩
   ·obtain⟨bx,hm⟩:=hrs x hx i hi;exact⟨bx,by simp[hm]⟩
  ·intro i cells hm c hc i' hi';rcases Bz.1 hm with hm|hm
   ·obtain⟨bx,hb⟩:=hri i cells hm c hc i' hi';exact⟨bx,by simp[hb]⟩
   ·obtain⟨bx,hb⟩:=Ba2 i cells hm c hc i' hi';exact⟨bx,by simp[hb]⟩
  ·cases us with
   |nil=>exact ho.elim
   |cons u us=>
    obtain⟨h1,Jq⟩:=hv w A own β' z j0 u (fun j ⟨bx,hm⟩=>hβ j ⟨bx,by simp[hm]⟩) ho.1;have B5:∀j,id+N*Afk P t+N*j=id+N*(Afk P t+j):=fun j=>by rw[Nat.mul_add];omega
    obtain⟨h2,Qm⟩:=Xl w A own β' z (j0+plc p) us (fun j ⟨bx,hm⟩=>by rw[B5,hβ _ ⟨bx,by rw[<-B5];simp[hm]⟩,hl];congr 1;omega) ho.2
    refine⟨⟨h1,h2⟩,fun i bx hm=>?_⟩;rcases Bz.1 hm with hm|hm
    ·obtain⟨⟨j,hj,hjn⟩,h4,h5⟩:=Jq i bx hm;exact⟨⟨j,hj,by simp only[Vu,Sf,List.sum_cons];omega⟩,h4,h5⟩
    ·obtain⟨⟨j,hj,hjn⟩,h4,h5⟩:=Qm i bx hm;refine⟨⟨_,by rw[hj,B5],?_⟩,h4,h5⟩;simp only[Vu,Sf,List.sum_cons] at hjn ⊢;omega
def RD(N d:Nat)(bs:List (Nat × Cb))(own β:Bt):Bt:=fun i=>if (bs.any fun q=>Nat.beq q.1 i)=true then own ((i-d) / N) else β i
theorem Ac2{bs:List (Nat × Cb)}{i:Nat}:(bs.any fun q=>Nat.beq q.1 i)=true↔∃bx,(i,bx)∈bs:=by
 rw[List.any_eq_true];constructor
 ·rintro⟨⟨j,bx⟩,hm,e⟩
  have:=Et e;subst this;exact⟨bx,hm⟩
 ·rintro⟨bx,hm⟩
  exact⟨_,hm,Pu i⟩
theorem Amc{N d j:Nat}(hN:0<N){bs:List (Nat × Cb)}{own β:Bt}(h:∃bx,(d+N*j,bx)∈bs):RD N d bs own β (d+N*j)=own j:=by unfold RD;rw[Bq (Ac2.2 h),Nat.add_sub_cancel_left,Nat.mul_div_cancel_left _ hN]
theorem KM{c:Call}{f:FuncId}(ho:o.op=.call c)(hc:c.callee=.value (.func f))(Ks:NoNG P){fn:Func}(hf:P.funcs[f]?=some fn)(hb:fn.body.isSome=true):
  (execOp a.eval o).run P w=.ok (.enter f (c.args.map a.eval)) w:=by
 unfold execOp;rw[ho]
 have hn:¬fn.body=none:=by
  intro h;rw[h] at hb;cases hb
 have Gz:¬fn.name = "runtime.NumGoroutine" :=by simpa using Ks f fn hf
 simp[resolve,hc,Act.eval,Deferred.ofValue,invoke,callFunc,hf,Gz,hn]
theorem Apg{c:Call}{t:Nat}{f:FuncId}(ho:o.op=.call c)(hc:c.callee=.value (.tmp t))(ht:a.eval (.tmp t)=.func (.func f) #[] #[])(Ks:NoNG P){fn:Func}(hf:P.funcs[f]?=some fn)(hb:fn.body.isSome=true):
  (execOp a.eval o).run P w=.ok (.enter f (c.args.map a.eval)) w:=by
 unfold execOp;rw[ho]
 have hn:¬fn.body=none:=by
  intro h;rw[h] at hb;cases hb
 have Gz:¬fn.name = "runtime.NumGoroutine" :=by simpa using Ks f fn hf
 simp[resolve,hc,ht,Deferred.ofValue,invoke,callFunc,hf,Gz,hn]
theorem QO{A':Nat->Prop}(k:Bool):∀{xs:List Operand}{ps:Ab},B9 (Xz w A') ps (xs.map a.eval)->B9 (Xz w A') (O9 k xs ps) (xs.map a.eval)
 |[],[],h=>h
 |[],_::_,h=>h
 |_::_,[],h=>h
 |x::xs,p::ps,h=>by
  simp only[Sf] at h ⊢;refine⟨?_,QO k h.2⟩;split
  ·exact⟨trivial,Bd.lnil _ _⟩
  ·exact h.1
theorem VD(h : Cj N w0 X0 Y β s a w){G : Zg}(Ks : QL P G w0 X0){C : Kk}{call : Bp}(Dl : ∀ f args res, call f args = some res -> Do G P f args res){c : Call}{f : FuncId}(Eg : ∀ {fn : Func}, P.funcs[f]? = some fn -> fn.body.isSome = true -> (execOp a.eval o).run P w = .ok (.enter f (c.args.map a.eval)) w){K : PV -> Cc -> List (Nat × Cb) -> Option R}(hk : (WJ P (Pw s.hp) (WY P f c) (c.args.toList.map (Db s.tm)) fun vs m =>
          Bk (call f (O9 (C.kz f) c.args.toList vs)) fun rv ro => Aq ro (As (Nat.blt 0 N) <| PG P (C.shr f) N (o.dst.getD 0) (Ve P o.type) rv fun ws bs =>
            As (bif Ww P o.type then !Nat.beq ws.length 1 else Nat.beq ws.length 1) <| K (Ul ws (Ww P o.type)) (bif Oz P (Ve P o.type) then m else []) bs)) = some r): ∃ v fz nw, K v fz nw = some r /\ VU P a w o Y β s v fz nw := by
  obtain⟨ps, m, hk, hm, Fz⟩ := Aay h hk
  replace Fz := fun fz h1 h2 => QO (a := a) (C.kz f) (Fz fz h1 h2)
  generalize O9 (C.kz f) c.args.toList ps = ps at hk Fz
  obtain⟨rv, ro, BW, hk⟩ := ZD hk
  obtain⟨rfl, hk⟩ := Fg hk
  obtain⟨hN, hk⟩ := Az hk
  have hN : 0 < N := Nat.lt_of_succ_le (Xx hN)
  obtain⟨ws, bs, hk, hwl, hnt, SD, hrs, hri, hws⟩ := MZ (C.shr f) N hk
  obtain⟨Ye, hk⟩ := Az hk
  obtain⟨⟨fn, hfn, hfb⟩, hcs⟩ := Dl f ps _ BW
  obtain⟨fz, OQ, hfm⟩ : ∃ fz : Cc, fz = (bif Oz P (Ve P o.type) then m else []) /\ ∀ id ∈ fz, ∃ f c, s.hp id = some (.ar f c) := by
    refine⟨_, rfl, fun id B5 => ?_⟩
    cases hh : Oz P (Ve P o.type) <;> rw[hh] at B5
    · cases B5
    · exact hm id B5
  rw[<- OQ] at hk
  refine⟨_, _, _, hk, hfm, fun next Q hn => ?_⟩
  have hf := h.freeze hfm
  have hYc : ∃ Yc : Nat -> Prop, (∀ b, Yc b -> b < w.heap.size) /\ B9 (Xz w Yc) ps (c.args.toList.map a.eval) /\ ((∀ b, D2 (Al s.hp fz) β Y b -> Yc b) \/ Oz P (Ve P o.type) = false) := by
    have Zr := Fz m (fun _ hi => hi) hm
    cases hh : Oz P (Ve P o.type)
    · exact⟨fun _ => False, fun _ x => x.elim, Zr.mono fun _ _ hx => hx.weaken (fun _ _ x => x.elim), .inr rfl⟩
    · rw[hh] at OQ
      have OQ : fz = m := OQ
      subst OQ
      refine⟨D2 (Al s.hp fz) β Y, fun b hb => ?_, Zr, .inl fun _ x => x⟩
      rcases hb with⟨id, ob, hl, hβ⟩ | hY
      · exact hf.blt id b ob (D7 hl) hβ
      · exact Jm (h.Ylt b hY) h.fr.step.size
  obtain⟨Yc, A3j, hYargs, hYA⟩ := hYc
  unfold Oper.wp
  rw[Eg hfn hfb]
  show Calls P f _ w _
  have hca : c.args.map a.eval = (c.args.toList.map a.eval).toArray := by rw[<- List.map_toArray, Array.toArray_toList]
  rw[hca]
  refine (hcs w Yc CK _ (Agd A3j hYargs) (Ks.fr w h.fr) (fun b x => ⟨Jm (Ks.y b x).1 h.fr.step.size, Sx b⟩)).mono ?_
  rintro e w' ⟨vs, own, rfl, Abz⟩
  refine hn (Nj vs) w' fun Xr => ⟨RD N (o.dst.getD 0) bs own β, ?_⟩
  obtain⟨ha1, ha2⟩ := Cl Xr
  have Avn : ∀ i bx, (i, bx) ∈ bs -> Al s.hp fz i = none := fun i bx hm => Gb.2 (ha1 i bx hm)
  obtain⟨hg1, hg2⟩ := Gy (hp := Al s.hp fz) ha2
  have hold : ∀ i, Al s.hp fz i ≠ none -> RD N (o.dst.getD 0) bs own β i = β i := by
    intro i hi
    unfold RD
    rw[A5]
    intro hx
    obtain⟨bx, hm⟩ := Ac2.1 hx
    exact hi (Avn i bx hm)
  obtain⟨Xl, hba⟩ := hws w' _ own (RD N (o.dst.getD 0) bs own β) w.heap.size 0 vs (fun j hj => by rw[Amc hN hj, Cm]) Abz.vals
  have IM : ∀ i bx, (i, bx) ∈ bs -> ∃ j, i = o.dst.getD 0 + N * j /\ RD N (o.dst.getD 0) bs own β i = own j := by
    intro i bx hm
    obtain⟨⟨j, rfl, _⟩, _, _⟩ := hba i bx hm
    exact⟨j, rfl, Amc hN ⟨bx, hm⟩⟩
  have hAA : Oz P (Ve P o.type) = false \/ ∀ b, D2 (Bf (Al s.hp fz) bs) (RD N (o.dst.getD 0) bs own β) Y b -> VV CK own Yc b := by
    rcases hYA with hYA | hYA
    · refine .inr fun b hb => ?_
      rcases hb with⟨i, ob, hl, hβ⟩ | hY
      · by_cases hi : ∃ bx, (i, bx) ∈ bs
        · obtain⟨bx, hm⟩ := hi
          obtain⟨j, _, h3⟩ := IM i bx hm
          rw[h3] at hβ
          exact .inl ⟨j, ob, hβ⟩
        · rw[hg2 i (fun bx hm => hi ⟨bx, hm⟩)] at hl
          rw[hold i (D7 hl)] at hβ
          exact .inr (.inr (hYA b (.inl ⟨i, ob, hl, hβ⟩)))
      · exact .inr (.inr (hYA b (.inr hY)))
    · exact .inl hYA
  have hval : Fc w' (D2 (Bf (Al s.hp fz) bs) (RD N (o.dst.getD 0) bs own β) Y) (RD N (o.dst.getD 0) bs own β) (Ul ws (Ww P o.type)) (Nj vs) := by
    have Zr : B9 (Jb w' (D2 (Bf (Al s.hp fz) bs) (RD N (o.dst.getD 0) bs own β) Y) (RD N (o.dst.getD 0) bs own β)) ws vs := by
      rcases hAA with hno | hAA
      · obtain⟨_, hsc⟩ := SD hno
        refine Xl.mono_mem fun v hv u hvu => ?_
        have hsc := hsc v hv
        cases v with
        | agg cs =>
          obtain⟨xs, rfl, XI⟩ := hvu
          refine⟨xs, rfl, XI.mono_mem fun cc hcc x hx => ?_⟩
          obtain⟨y, rfl⟩ := hsc cc hcc
          have := Bd.val (w := w') hx
          subst this
          exact Bd.sc _
        | sc y =>
          have := Bd.val (w := w') hvu
          subst this
          exact Bd.sc _
        | lst z es n cc => obtain⟨y, hy⟩ := hsc _ (Xh _); cases hy
        | own es n cc => obtain⟨y, hy⟩ := hsc _ (Xh _); cases hy
        | view i es n cc => obtain⟨y, hy⟩ := hsc _ (Xh _); cases hy
        | ptr i cc => obtain⟨y, hy⟩ := hsc _ (Xh _); cases hy
        | iptr i cc => obtain⟨y, hy⟩ := hsc _ (Xh _); cases hy
        | pbox cc => obtain⟨y, hy⟩ := hsc _ (Xh _); cases hy
        | tup cc => obtain⟨y, hy⟩ := hsc _ (Xh _); cases hy
        | top => obtain⟨y, hy⟩ := hsc _ (Xh _); cases hy
        | ub => obtain⟨y, hy⟩ := hsc _ (Xh _); cases hy
      · exact Xl.mono fun v u hvu => hvu.step (C6.refl _ _) (fun b _ => hAA b) (fun _ _ => rfl)
    have Hr := Zr.len
    cases hT : Ww P o.type
    · rw[hT] at Ye
      have h1 : ws.length = 1 := Et Ye
      match ws, vs, h1, Hr with
      | [v], [u], _, _ =>
        exact (Tt (hnt v (by simp))).2 Zr.1
    · rw[hT] at Ye
      have h1 : ¬ ws.length = 1 := by
        intro e
        rw[e] at Ye
        cases Ye
      have hr : Nj vs = .tuple ⟨vs⟩ := by
        unfold Nj
        split
        · simp at Hr; omega
        · rfl
      rw[hr]
      exact⟨vs, rfl, Zr⟩
  refine⟨Abz.os, Abz.tape, Abz.output, Abz.ext.weaken (fun b _ hb => Sx b hb), hold, ?_, ?_, ?_, ?_, ?_, hval, ?_⟩
  · intro i bx hm
    exact (hba i bx hm).2.1
  · intro i bx hm
    rcases hAA with hno | hAA
    · rw[(SD hno).1] at hm; cases hm
    · exact (hba i bx hm).2.2.1.step' hAA
  · intro i bx b ob hm hβ
    obtain⟨j, _, h3⟩ := IM i bx hm
    rw[h3] at hβ
    obtain⟨h4, h5⟩ := Abz.fresh j b ob hβ
    refine⟨?_, h4⟩
    rcases Mi b w.heap.size with h | h
    · obtain⟨⟨_, _, _, h6⟩, _⟩ := h5 h
      cases h6
    · exact h
  · intro i bx i' bx' b ob ob' hm M4 hβ hβ'
    obtain⟨j, h1, h3⟩ := IM i bx hm
    obtain⟨j', ZY, h3'⟩ := IM i' bx' M4
    rw[h3] at hβ
    rw[h3'] at hβ'
    rw[h1, ZY, Abz.inj j j' b ob ob' hβ hβ']
  · intro i cells hm c hc i' hi'
    exact .inr (hri i cells hm c hc i' hi')
  · intro i hi
    right
    cases hT : Ww P o.type
    · rw[hT] at Ye hi
      have h1 : ws.length = 1 := Et Ye
      match ws, h1 with
      | [v], _ =>
        refine hrs v (by simp) i ?_
        have : Cn v = C3 v := by
          have hn := hnt v (by simp)
          cases v <;> first | rfl | exact absurd rfl (hn _)
        rw[<- this]
        exact hi
    · rw[hT] at hi
      obtain⟨v, hv, hi⟩ := List.mem_flatMap.1 (show i ∈ ws.flatMap C3 from hi)
      exact hrs v hv i hi
end
open Go.RowKit
section
variable {R:Type}{r:R}{P:Program}{N:Nat}{w0:World}{X0:Gn}{Y:Nat->Prop}{β β':Bt}{s:St}{a:Act}{w w':World}{o:Oper}{A:Nat->Prop}
theorem Cj.move(h:Cj N w0 X0 Y β s a w){id d:Nat}{c cells:Ab}{bo:Option (Nat × Nat)}{v:PV}{val:Value}(h0:s.hp id=some (.ar false c))(hd:s.hp d=none)(hdN:d<N)(hos:w'.os=w.os)(htp:w'.tape=w.tape)(Abz:w'.output=w.output)(Ago:w.heap.size<=w'.heap.size)(Rl:∀k,k<w.heap.size->(∀x,β id≠some (k,x))->w'.heap[k]?=w.heap[k]?)(UP:∀k,k<w.heap.size->bsz w k<=bsz w' k)(hbo:∀k x,bo=some (k,x)->k<w'.heap.size/\(w.heap.size<=k\/∃y,β id=some (k,y)))(hbr:∀k x,bo=some (k,x)->k<w.heap.size->β id=some (k,x))(hO:∀k y,β id=some (k,y)->k<w.heap.size->∀j,j<y->w'.cell? ⟨k,j,none⟩=w.cell? ⟨k,j,none⟩/\w'.frozen? ⟨k,j,none⟩=w.frozen? ⟨k,j,none⟩)(Pr:Yi w' (D2 (Dz (Dz s.hp id (some .mv)) d (some (.ar false cells))) (Dz β d bo) Y) (Dz β d bo) d (.ar false cells))(hv:Fc w' (D2 (Dz (Dz s.hp id (some .mv)) d (some (.ar false cells))) (Dz β d bo) Y) (Dz β d bo) v val)(hr:∀i∈Cn v,i=d):
  Cj N w0 X0 Y (Dz β d bo) ⟨Dz s.tm d v,Dz (Dz s.hp id (some .mv)) d (some (.ar false cells))⟩ (a.put (some d) val) w':=by
 have Gz:id≠d:=by rintro rfl;rw[h0] at hd;cases hd
 have Ajl:∀i,i≠id->i≠d->Dz (Dz s.hp id (some Cb.mv)) d (some (.ar false cells)) i=s.hp i:=fun i h1 h2=>by rw[Aw _ _ h2,Aw _ _ h1]
 have Av5:Dz (Dz s.hp id (some Cb.mv)) d (some (.ar false cells)) id=some .mv:=by rw[Aw _ _ Gz,A8]
 have hgd:Dz (Dz s.hp id (some Cb.mv)) d (some (.ar false cells)) d=some (.ar false cells):=A8 _ _ _
 have Mz:∀i,s.hp i≠none->Dz (Dz s.hp id (some Cb.mv)) d (some (.ar false cells)) i≠none:=by
  intro i hi;by_cases e:i=id
  ·subst e;rw[Av5];simp
  ·by_cases e':i=d
   ·subst e';rw[hgd];simp
   ·rw[Ajl i e e'];exact hi
 have hβo:∀i,s.hp i≠none->Dz β d bo i=β i:=fun i hi=>Aw _ _ (by rintro rfl;exact hi hd)
 have Ad9:C8 (s.hp id):=by rw[h0];trivial
 have Kc:∀i,C8 (Dz (Dz s.hp id (some Cb.mv)) d (some (.ar false cells)) i)->i=d\/(i≠id/\i≠d/\C8 (s.hp i)):=by
  intro i hi;by_cases e':i=d
  ·exact .inl e'
  ·by_cases e:i=id
   ·subst e;rw[Av5] at hi;exact hi.elim
   ·rw[Ajl i e e'] at hi;exact .inr ⟨e,e',hi⟩
 have hX:∀k,k<w.heap.size->GY (Dz (Dz s.hp id (some .mv)) d (some (.ar false cells))) (Dz β d bo) k->GY s.hp β k:=by
  rintro k hk ⟨i,x,hl,hβ⟩
  rcases Kc i hl with rfl|⟨e,e',hl⟩
  ·rw[A8] at hβ;rcases (hbo k x hβ).2 with J6|⟨y,hy⟩
   ·omega
   ·exact⟨id,y,Ad9,hy⟩
  ·rw[Aw _ _ e'] at hβ;exact⟨i,x,hl,hβ⟩
 have hAo:∀k,k<w.heap.size->D2 (Dz (Dz s.hp id (some .mv)) d (some (.ar false cells))) (Dz β d bo) Y k->D2 s.hp β Y k:=fun k hk hx=>hx.imp (hX k hk) (fun y=>y);have Hc:C6 (D2 s.hp β Y) w w':=⟨Ago,fun k hk hn=>Rl k hk fun x hx=>hn (.inl ⟨id,x,Ad9,hx⟩),UP⟩
 have Aue:∀i k x,i≠id->i≠d->(∃b,s.hp i=some b/\b ≠ .mv)->β i=some (k,x)->k<w.heap.size/\w'.heap[k]?=w.heap[k]?:=by
  rintro i k x e e' ⟨b,hb,hmv⟩ hβ
  have hk:=h.blt i k x (by rw[hb];simp) hβ
  refine⟨hk,Rl k hk fun y hy=>?_⟩;have Am9:=h.box i b hb;cases b with
  |st cc=>exact e (h.inj i id k x y (by rw[hb];trivial) Ad9 hβ hy)
  |ar fz cc=>
   cases fz with
   |false=>exact e (h.inj i id k x y (by rw[hb];trivial) Ad9 hβ hy)
   |true=>
    rcases Am9 with⟨h1,_⟩|⟨k',x',h1,_,_,h4⟩
    ·rw[hβ] at h1;cases h1
    ·rw[hβ] at h1;simp at h1;obtain⟨rfl,rfl⟩:=h1
     exact h4 rfl (.inl ⟨id,y,Ad9,hy⟩)
  |mv=>exact absurd rfl hmv
 refine⟨by rw[Lg];exact h.dfr,by rw[Ip];exact h.tsz,?_,?_,?_,?_,?_,?_,?_,?_,?_,?_,?_,?_,h.Ylt,?_⟩
 ·intro i hi;show Dz s.tm d v i=_;rw[Aw _ _ (by omega)];exact h.tmo i hi
 ·refine Wz (d:=some d) (Q:=fun _ p u=>Fc w' (D2 (Dz (Dz s.hp id (some .mv)) d (some (.ar false cells))) (Dz β d bo) Y) (Dz β d bo) p u) h.tsz (by simp[Jt,Nat.blt];omega) (fun i hi=>?_) (fun _=>hv)
  exact (h.tms i hi).step Hc hAo fun j hj=>hβo j (h.wfT i hi j hj)
 ·intro i bi hb;simp only at hb;by_cases e':i=d
  ·subst e';rw[hgd] at hb;cases hb;exact Pr
  ·by_cases e:i=id
   ·subst e;rw[Av5] at hb;cases hb;trivial
   ·rw[Ajl i e e'] at hb;have hβi:=hβo i (by rw[hb];simp)
    have RK:=h.box i bi hb;cases bi with
    |st cc=>
     obtain⟨k,x,h1,h2,h3⟩:=RK;obtain⟨hk,IC⟩:=Aue i k x e e' ⟨_,hb,by simp⟩ h1;refine⟨k,x,by rw[hβi];exact h1,fun j p hj=>?_,fun j hj=>?_⟩
     ·obtain⟨u,hu,hc⟩:=h2 j p hj;exact⟨u,by rw[World.cell?_of_block (w:=w) IC];exact hu,hc.step Hc hAo fun q hq=>hβo q (h.wfB i cc hb p (List.mem_of_getElem? hj) q hq)⟩
     ·rw[World.frozen?_of_block (w:=w) IC];exact h3 j hj
    |ar fz cc=>
     rcases RK with⟨h1,h2⟩|⟨k,x,h1,h2,h3,h4⟩
     ·exact .inl ⟨by rw[hβi];exact h1,h2⟩
     ·obtain⟨hk,IC⟩:=Aue i k x e e' ⟨_,hb,by simp⟩ h1;refine .inr ⟨k,x,by rw[hβi];exact h1,fun j p hj=>?_,fun ef j hj BX=>?_,fun ef hx=>h4 ef (hAo k hk hx)⟩
      ·obtain⟨u,hu,h5,hc⟩:=h2 j p hj;exact⟨u,by rw[World.cell?_of_block (w:=w) (by rw[Io];exact IC)];exact hu,h5,hc.step Hc hAo⟩
      ·rw[World.frozen?_of_block (w:=w) IC];refine h3 ef j hj ?_;unfold bsz at BX ⊢;rw[IC] at BX;exact BX
    |mv=>trivial
 ·intro i i' k x y hl Q2 hb J8;simp only at hl Q2
  have key:∀j z,j≠id->j≠d->C8 (s.hp j)->β j=some (k,z)->bo=some (k,y)\/bo=some (k,x)->False:=by
   intro j z e e' hlj hβj hbk;have hk:=h.blt j k z (D7 hlj) hβj;have:∃t,bo=some (k,t):=by rcases hbk with q|q<;>exact⟨_,q⟩
   obtain⟨t,ht⟩:=this;rcases (hbo k t ht).2 with J6|⟨q,hq⟩
   ·omega
   ·exact e (h.inj j id k z q hlj Ad9 hβj hq)
  rcases Kc i hl with rfl|⟨e,e',Zk⟩
  ·rcases Kc i' Q2 with rfl|⟨e2,e2',A1o⟩
   ·rfl
   ·rw[A8] at hb;rw[Aw _ _ e2'] at J8;exact (key i' y e2 e2' A1o J8 (.inr hb)).elim
  ·rcases Kc i' Q2 with rfl|⟨e2,e2',A1o⟩
   ·rw[A8] at J8;rw[Aw _ _ e'] at hb;exact (key i x e e' Zk hb (.inl J8)).elim
   ·rw[Aw _ _ e'] at hb;rw[Aw _ _ e2'] at J8;exact h.inj i i' k x y Zk A1o hb J8
 ·intro i k x hi hb;simp only at hi;by_cases e':i=d
  ·subst e';rw[A8] at hb;exact (hbo k x hb).1
  ·rw[Aw _ _ e'] at hb
   have hi':s.hp i≠none:=by
    by_cases e:i=id
    ·subst e;rw[h0];simp
    ·rw[Ajl i e e'] at hi;exact hi
   exact Jm (h.blt i k x hi' hb) Ago
 ·have:=Wz (d:=some d) (Q:=fun _ p _=>∀j∈Cn p,Dz (Dz s.hp id (some Cb.mv)) d (some (.ar false cells)) j≠none) (val:=val) (v:=v) h.tsz (by simp[Jt,Nat.blt];omega) (fun i hi j hj=>Mz j (h.wfT i hi j hj)) (fun _ j hj=>by
   rw[hr j hj,hgd];simp)
  exact this
 ·intro i cc hc p hp j hj;simp only at hc;by_cases e':i=d
  ·subst e';rw[hgd] at hc;cases hc
  ·by_cases e:i=id
   ·subst e;rw[Av5] at hc;cases hc
   ·rw[Ajl i e e'] at hc;exact Mz j (h.wfB i cc hc p hp j hj)
 ·rintro k ⟨i,x,hl,hβ⟩
  rcases Kc i hl with rfl|⟨e,e',hl⟩
  ·rw[A8] at hβ;rcases (hbo k x hβ).2 with J6|⟨y,hy⟩
   ·exact .inr (Nat.le_trans h.fr.step.size J6)
   ·exact h.ownd k ⟨id,y,Ad9,hy⟩
  ·rw[Aw _ _ e'] at hβ;exact h.ownd k ⟨i,x,hl,hβ⟩
 ·intro i bi k x RK hli hβ Cq j hj;simp only at RK;rcases Kc i (by rw[RK];exact hli) with rfl|⟨e,e',hl⟩
  ·rw[A8] at hβ;rw[hgd] at RK;cases RK;have:=hbr k x hβ (Jm Cq h.fr.step.size);exact h.rngB id (.ar false c) k x h0 trivial this Cq j hj
  ·rw[Ajl i e e'] at RK;rw[Aw _ _ e'] at hβ;exact h.rngB i bi k x RK hli hβ Cq j hj
 ·intro i hi;exact⟨Mz _ (h.pin i hi).1,by rw[hβo _ (h.pin i hi).1];exact (h.pin i hi).2⟩
 ·intro i cc k x RK hβ Cq;simp only at RK;rcases Kc i (by rw[RK];trivial) with rfl|⟨e,e',hl⟩
  ·rw[hgd] at RK;cases RK
  ·rw[Ajl i e e'] at RK;rw[Aw _ _ e'] at hβ;exact h.stp i cc k x RK hβ Cq
 ·intro k hY hx;exact h.Yx k hY (hX k (Jm (h.Ylt k hY) h.fr.step.size) hx)
 ·refine⟨hos.trans h.fr.os,htp.trans h.fr.tape,Abz.trans h.fr.output,⟨Nat.le_trans h.fr.step.size Ago,fun k hk hnk=>?_,fun k hk=>Nat.le_trans (h.fr.step.bs k hk) (UP k (Jm hk h.fr.step.size))⟩,fun k j hk hL=>?_⟩
  ·rw[Rl k (Jm hk h.fr.step.size) ?_]
   ·exact h.fr.step.keep k hk hnk
   ·intro x hx;rcases h.ownd k ⟨id,x,Ad9,hx⟩ with hq|hq
    ·exact hnk hq
    ·omega
  ·have hkw:=Jm hk h.fr.step.size
   have BK:w'.cell? ⟨k,j,none⟩=w.cell? ⟨k,j,none⟩/\w'.frozen? ⟨k,j,none⟩=w.frozen? ⟨k,j,none⟩:=by
    by_cases e:∃y,β id=some (k,y)
    ·obtain⟨y,hy⟩:=e;refine hO k y hy hkw j ?_;rcases Mi j y with q|q
     ·exact q
     ·exact absurd (h.rngB id (.ar false c) k y h0 trivial hy hk j q) hL
    ·have IC:=Rl k hkw (fun x hx=>e ⟨x,hx⟩);exact⟨World.cell?_of_block (w:=w) IC,World.frozen?_of_block (w:=w) IC⟩
   rw[BK.1,BK.2];exact h.fr.rng k j hk hL
end
open Go.RowKit
section
variable {R:Type}{r:R}{P:Program}{N:Nat}{w0:World}{X0:Gn}{Y:Nat->Prop}{β β':Bt}{s:St}{a:Act}{w w':World}{o:Oper}{A:Nat->Prop}
structure Src(P:Program)(w:World)(A:Nat->Prop)(size:Nat)(xv:Value)(m:Nat)(new:Ab)(news:List Value):Prop where
 len:∀w':World,(Builtin.lenOf xv).run P w'=.ok m w'
 cells:∀w':World,(∀b,b<w.heap.size->w'.heap[b]?=w.heap[b]?)->(Builtin.firstCells size m xv).run P w'=.ok news.toArray w'
 part:∀k,k<=m->(Builtin.firstCells size k xv).run P w=.ok (news.take (k*size)).toArray w
 one:∀u∈news,u.oneCell'=true
 rep:B9 (Bd w A) new news
theorem VM(h:Cj N w0 X0 Y β s a w){e tx:TypeId}{x:Operand}{K:Nat->Ab->Option R}(hk:Aim P s (Bw P e) tx (Db s.tm x) K=some r)(h1c:∀m new,K m new=some r->new.length=m*Bw P e):
  (∃d,P.underlying tx=some d/\(∀k,d ≠ .int k))/\∃m new news,K m new=some r/\Src P w (D2 s.hp β Y) (Bw P e) (a.eval x) m new news:=by
 unfold Aim Akp at hk;split at hk
 ·rename_i hu;obtain⟨QD,hk⟩:=Az hk;have QD:=Et QD;obtain⟨b,hx,hk⟩:=Fp hk;have Ez:=D3 h hx;refine⟨⟨_,hu,by simp⟩,b.size,El b,b.data.toList.map (fun y=>Value.int .u8 y.toNat),hk,?_,?_,?_,?_,?_⟩
  ·intro w';rw[Ez];rfl
  ·intro w' _;rw[Ez]
   have hx:b.data.extract 0 b.size=b.data:=by
    have:b.size=b.data.size:=rfl;rw[this,Array.extract_size]
   have hd:(b.extract 0 b.size).data=b.data:=by
    rw[ByteArray.extract_zero_size]
   simp only[Builtin.firstCells,hd];rw[<-Array.toList_map,Array.toArray_toList];rfl
  ·intro k J6;rw[Ez,QD,Df];have hd:(b.extract 0 k).data=b.data.extract 0 k:=ByteArray.data_extract
   have e1:(b.data.extract 0 k).map (fun y=>Value.int .u8 y.toNat)=((b.data.toList.map fun y=>Value.int .u8 y.toNat).take k).toArray:=by
    apply Array.toList_inj.1;simp[List.map_take]
   simp only[Builtin.firstCells,hd];rw[e1];rfl
  ·intro u hu;simp at hu;obtain⟨y,_,rfl⟩:=hu;rfl
  ·unfold El;generalize b.data.toList=l
   induction l with
   |nil=>trivial
   |cons y l ih=>exact⟨Bd.sc _,ih⟩
 ·rename_i e' hu;refine⟨⟨_,hu,by simp⟩,?_⟩;obtain⟨m,new,hk,hc⟩:=Af0 h hk;have Hr:=h1c m new hk;rcases hc with⟨⟨ad,Ez⟩,rfl,rfl⟩|⟨ad,cap,Ez,hn,Cq,hrd⟩
  ·have f0:∀w':World,(Builtin.firstCells (Bw P e) 0 (.slice ad 0 0)).run P w'=.ok #[] w':=fun w'=>by
    cases ad with
    |none=>rfl
    |some p=>exact run_firstCells_some (P:=P) w' (Bw P e) 0 p 0 0 [] (by simp) (fun j v hj=>by simp at hj)
   exact⟨0,[],[],hk,fun w'=>by rw[Ez];rfl,fun w' _=>by rw[Ez];exact f0 w',fun k J6=>by rw[Ez,Nat.le_zero.1 J6,List.take_nil];exact f0 w,by simp,trivial⟩
  ·refine⟨m,new,new.mapIdx (fun j _=>(w.cell? (ad.add j)).getD undef),hk,fun w'=>by rw[Ez];rfl,fun w' hw=>?_,fun k J6=>?_,?_,?_⟩
   ·rw[Ez];refine run_firstCells_some (P:=P) w' (Bw P e) m ad m cap _ (by simp[Hr]) fun j v hj=>?_;rw[List.getElem?_mapIdx] at hj;cases hc:new[j]? with
    |none=>rw[hc] at hj;cases hj
    |some c=>
     rw[hc] at hj;simp at hj;obtain⟨u,hu,_⟩:=hrd j c hc;rw[hu] at hj;simp at hj;subst hj;have Cq:ad.block<w.heap.size:=by rcases Cq with rfl|Cq<;>first|exact Cq|simp at hc
     rw[World.cell?_of_block (w:=w) (by rw[Io];exact hw _ Cq)]
     exact hu
   ·rw[Ez];have hkm:k*Bw P e<=m*Bw P e:=Nat.mul_le_mul_right _ J6;refine run_firstCells_some (P:=P) w (Bw P e) k ad m cap _ (by rw[List.length_take,List.length_mapIdx,Hr];omega) fun j v hj=>?_
    rw[List.getElem?_take] at hj;split at hj
    ·rw[List.getElem?_mapIdx] at hj;cases hc:new[j]? with
     |none=>rw[hc] at hj;cases hj
     |some c=>
      rw[hc] at hj;simp at hj;obtain⟨u,hu,_⟩:=hrd j c hc;rw[hu] at hj;simp at hj;subst hj;exact hu
    ·cases hj
   ·intro u hu;obtain⟨j,hj⟩:=List.mem_iff_getElem?.1 hu;rw[List.getElem?_mapIdx] at hj;cases hc:new[j]? with
    |none=>rw[hc] at hj;cases hj
    |some c=>
     rw[hc] at hj;simp at hj;obtain⟨v,hv,h2,ht⟩:=hrd j c hc;rw[hv] at hj;simp at hj;subst hj;exact h2
   ·refine B9.of_at (by simp) fun j c v hc hj=>?_;rw[List.getElem?_mapIdx,hc] at hj;simp at hj;obtain⟨u,hu,_,ht⟩:=hrd j c hc;rw[hu] at hj;simp at hj;subst hj;exact ht
 ·cases hk
theorem UM{e:TypeId}(h:Adw P e=true):∃i z,P.info? e=some i/\i.zero=some z/\z.cells.size=i.size/\Bw P e=i.size:=by
 unfold Adw at h;split at h
 ·rename_i i hi;split at h
  ·rename_i z hz;exact⟨i,z,hi,hz,Et h,by simp[Bw,hi]⟩
  ·cases h
 ·cases h
theorem RP{es n cap:Nat}{ad:Option Addr}{olds:List Value}(h:(ad=none/\olds=[])\/∃p,ad=some p/\olds.length=n*es/\∀(j:Nat) v,olds[j]?=some v->w.cell? (p.add j)=some v):
  (Builtin.firstCells es n (.slice ad n cap)).run P w=.ok olds.toArray w:=by
 rcases h with⟨rfl,rfl⟩|⟨p,rfl,hl,hc⟩
 ·rfl
 ·exact run_firstCells_some (P:=P) w es n p n cap olds hl hc
theorem Sk{t tx ty e:TypeId}{i:TypeInfo}{z:Value}{d:TypeDesc}{ts:List TypeId}(ht:P.underlying t=some (.slice e))(htx:P.underlying tx=some d)(hd:∀k,d ≠ .int k)(hi:P.info? e=some i)(hz:i.zero=some z){ad:Option Addr}{n cap m:Nat}{xv:Value}{olds news:List Value}{A:Nat->Prop}{new:Ab}(hs:Src P w A i.size xv m new news)(hold:(ad=none/\olds=[])\/∃p,ad=some p/\olds.length=n*i.size/\∀(j:Nat) v,olds[j]?=some v->w.cell? (p.add j)=some v)(hg:cap<n+m)(hb:(n+m)*i.bytes<=1099511627776)(h63:n+m<=1099511627776):
  (Builtin.append_ (t::tx::ts).toArray ty #[.slice ad n cap,xv]).run P w =
   .ok (.slice (some ⟨w.heap.size,0,none⟩) (n+m) (grownCap w (n+m) cap e)) (w.drew.alloc (.cells (olds.toArray++news.toArray++Builtin.zeroCells z.cells (grownCap w (n+m) cap e-(n+m))) e)):=by
 have h1:=hs.len w;have h2:(Builtin.firstCells i.size m xv).run P w.drew=.ok news.toArray w.drew:=hs.cells w.drew (fun _ _=>rfl)
 have h3:(Builtin.firstCells i.size n (.slice ad n cap)).run P w.drew=.ok olds.toArray w.drew:=RP (w:=w.drew) (by
  rcases hold with hh|⟨p,hp,hl,hc⟩
  ·exact .inl hh
  ·exact .inr ⟨p,hp,hl,fun j v hj=>hc j v hj⟩)
 have Aps:=growslice_fits (need:=n+m) (old:=cap) (bytes:=i.bytes) hg (by omega);have hn:¬(n+m<=cap):=by omega
 have Aye:¬(9223372036854775807<((n:Int)+(m:Int))):=by omega
 have Ax5:¬(281474976710656<Builtin.nextslicecap (n+m) cap*i.bytes):=by omega
 have UV:(match d with | .int _=>true|_=>false)=false:=by cases d<;>first|rfl|exact absurd rfl (hd _)
 simp[Builtin.append_,run_underlying ht,run_underlying htx,UV,sizeOf,typeInfo,zeroValue,hi,hz,h1,hn,Aye,Ax5,Question.forced,h2,h3,newRow,grownCap]
 congr 2
 apply Array.ext';simp[FC]
theorem RC{t tx ty e:TypeId}{i:TypeInfo}{d:TypeDesc}{ts:List TypeId}(ht:P.underlying t=some (.slice e))(htx:P.underlying tx=some d)(hd:∀k,d ≠ .int k)(hi:P.info? e=some i){b ob n cap m:Nat}{xv:Value}{news:List Value}{A:Nat->Prop}{new:Ab}(hs:Src P w A i.size xv m new news)(hl:news.length=m*i.size)(hcell:∀k,k<news.length->(w.cell? ⟨b,ob+n*i.size+k,none⟩).isSome=true)(YQ:∀k,k<news.length->w.frozen? ⟨b,ob+n*i.size+k,none⟩=false)(hg:n+m<=cap):
  (Builtin.append_ (t::tx::ts).toArray ty #[.slice (some ⟨b,ob,none⟩) n cap,xv]).run P w=.ok (.slice (some ⟨b,ob,none⟩) (n+m) cap) (w.setCells b (ob+n*i.size) news):=by
 have h1:=hs.len w;have h2:(Builtin.firstCells i.size m xv).run P w=.ok news.toArray w:=hs.cells w (fun _ _=>rfl);have h3:=run_storeCells_cells (P:=P) b (ob+n*i.size) news 0 w (fun k hk=>by simpa using hcell k hk) (fun k hk=>by simpa using YQ k hk) hs.one;have UV:(match d with | .int _=>true|_=>false)=false:=by cases d<;>first|rfl|exact absurd rfl (hd _)
 have _:=hl;simp[Builtin.append_,run_underlying ht,run_underlying htx,UV,sizeOf,typeInfo,hi,h1,hg,h2,Fy];rw[h3];simp
theorem Aeg{t ty e:TypeId}{i:TypeInfo}{ts:List TypeId}(ht:P.underlying t=some (.slice e))(hi:P.info? e=some i){ad:Option Addr}{n cap m:Nat}{xv:Value}{news:List Value}{A:Nat->Prop}{new:Ab}(hs:Src P w A i.size xv m new news){w1:World}(Hc:(match ad with|some p=>storeCells p (news.take (min m n*i.size)) 0|none=>pure ()).run P w=.ok () w1):
  (Builtin.copy_ (t::ts).toArray ty #[.slice ad n cap,xv]).run P w=.ok (goInt ((min m n:Nat):Int)) w1:=by
 have h1:=hs.len w;have h2:=hs.part (min m n) (Nat.min_le_left _ _);have e:Nat.min m n=min m n:=rfl;generalize min m n=k at *
 cases ad with
 |none=>
  simp only at Hc;simp[Builtin.copy_,run_underlying ht,sizeOf,typeInfo,hi,h1,h2,e]
  simpa using Hc
 |some p=>
  simp only at Hc;simp[Builtin.copy_,run_underlying ht,sizeOf,typeInfo,hi,h1,h2,e,Hc]
theorem NY{t tx ty e:TypeId}{i:TypeInfo}{k kx:IntKind}{ts:List TypeId}(ht:P.underlying t=some (.slice e))(htx:P.underlying tx=some (.int k))(hi:P.info? e=some i):
  (Builtin.append_ (t::tx::ts).toArray ty #[.slice none 0 0,.int kx 0]).run P w=.ok (.slice none 0 0) w:=by
 have hw:IntKind.i64.wrap 0=0:=by decide
 simp[Builtin.append_,run_underlying ht,run_underlying htx,sizeOf,typeInfo,hi,asInt,asIntOf,hw]
theorem RW{t tx ty e:TypeId}{i:TypeInfo}{z:Value}{k kx:IntKind}{ts:List TypeId}(ht:P.underlying t=some (.slice e))(htx:P.underlying tx=some (.int k))(hi:P.info? e=some i)(hz:i.zero=some z){n:Int}(h0:0<n)(hb:n.toNat*i.bytes<=1099511627776)(hn:n<=1099511627776):
  (Builtin.append_ (t::tx::ts).toArray ty #[.slice none 0 0,.int kx n]).run P w =
   .ok (.slice (some ⟨w.heap.size,0,none⟩) n.toNat (grownCap w n.toNat 0 e)) (w.drew.alloc (.cells ((if n.toNat*i.size=0 then #[] else Builtin.zeroCells z.cells n.toNat)++Builtin.zeroCells z.cells (grownCap w n.toNat 0 e-n.toNat)) e)):=by
 have hw:IntKind.i64.wrap n=n:=IntWalk.i64_in n (by omega);have Aps:=growslice_fits (need:=n.toNat) (old:=0) (bytes:=i.bytes) (by omega) (by omega);have SE:¬n<0:=by omega
 have Mz:¬(281474976710656<n*(i.bytes:Int)):=by
  have:n*(i.bytes:Int)=((n.toNat*i.bytes:Nat):Int):=by
   rw[Int.natCast_mul,Int.toNat_of_nonneg (by omega)]
  omega
 have hz0:¬(n.toNat=0):=by omega
 have Aye:¬(9223372036854775807<(n.toNat:Int)):=by omega
 have Ax5:¬(281474976710656<Builtin.nextslicecap n.toNat 0*i.bytes):=by omega
 have ET:¬n<=0:=by omega
 have hmx:¬(9223372036854775807<max n 0):=by omega
 by_cases hs:n.toNat*i.size=0
 ·simp[Builtin.append_,run_underlying ht,run_underlying htx,sizeOf,typeInfo,zeroValue,hi,hz,asInt,asIntOf,hw,SE,Mz,hz0,ET,hmx,Aye,Ax5,Question.forced,hs,newRow,grownCap,Builtin.firstCells]
 ·simp[Builtin.append_,run_underlying ht,run_underlying htx,sizeOf,typeInfo,zeroValue,hi,hz,asInt,asIntOf,hw,SE,Mz,hz0,ET,hmx,Aye,Ax5,Question.forced,hs,newRow,grownCap,Builtin.firstCells]
theorem Se{t tx ty e:TypeId}{i:TypeInfo}{d:TypeDesc}{ts:List TypeId}(ht:P.underlying t=some (.slice e))(htx:P.underlying tx=some d)(hd:∀k,d ≠ .int k)(hi:P.info? e=some i){ad:Option Addr}{xv:Value}{news:List Value}{A:Nat->Prop}{new:Ab}(hs:Src P w A i.size xv 0 new news)(h0:news=[]):
  (Builtin.append_ (t::tx::ts).toArray ty #[.slice ad 0 0,xv]).run P w=.ok (.slice ad 0 0) w:=by
 subst h0;have h1:=hs.len w;have h2:(Builtin.firstCells i.size 0 xv).run P w=.ok ([]:List Value).toArray w:=hs.cells w (fun _ _=>rfl);have UV:(match d with | .int _=>true|_=>false)=false:=by cases d<;>first|rfl|exact absurd rfl (hd _)
 cases ad<;>simp[Builtin.append_,run_underlying ht,run_underlying htx,UV,sizeOf,typeInfo,hi,h1,h2,storeCells]
end
open Go.RowKit
section
variable {R:Type}{r:R}{P:Program}{N:Nat}{w0:World}{X0:Gn}{Y:Nat->Prop}{β β':Bt}{s:St}{a:Act}{w w':World}{o:Oper}{A:Nat->Prop}
theorem Avl{b j:Nat}(h:j<bsz w b):(w.cell? ⟨b,j,none⟩).isSome=true:=by
 unfold bsz at h;unfold World.cell?;split at h
 ·rename_i c e fz hb;simp[hb,h]
 ·omega
theorem Ai9{id d:Nat}{c cells:Ab}{bo:Option (Nat × Nat)}(h0:s.hp id=some (.ar false c))(hd:s.hp d=none)(hbo:∀k x,bo=some (k,x)->w.heap.size<=k\/∃y,β id=some (k,y)):
  ∀k,k<w.heap.size->D2 (Dz (Dz s.hp id (some .mv)) d (some (.ar false cells))) (Dz β d bo) Y k->D2 s.hp β Y k:=by
 rintro k hk (⟨i,x,hl,hβ⟩|hY)
 ·by_cases e':i=d
  ·subst e';rw[A8] at hβ;rcases hbo k x hβ with h|⟨y,hy⟩
   ·omega
   ·exact .inl ⟨id,y,by rw[h0];trivial,hy⟩
  ·rw[Aw _ _ e'] at hl hβ;by_cases e:i=id
   ·subst e;rw[A8] at hl;exact hl.elim
   ·rw[Aw _ _ e] at hl;exact .inl ⟨i,x,hl,hβ⟩
 ·exact .inr hY
theorem WV{pre new:Ab}{olds news:List Value}{zs:Array Value}{e:TypeId}{A':Nat->Prop}(hg:Jw w w' (olds.toArray++news.toArray++zs) e)(hA:∀b,b<w.heap.size->A' b->A b)(h1:B9 (Bd w A) pre olds)(h2:B9 (Bd w A) new news)(ho:∀u∈olds,u.oneCell'=true)(hn:∀u∈news,u.oneCell'=true):YO w' A' ⟨w.heap.size,0,none⟩ (pre++new):=by
 refine Al8 hg hA fun j p hj=>?_;obtain⟨v,hv,ht⟩:=(h1.app h2).get hj;refine⟨v,?_,?_,ht⟩
 ·have Cq:j<(olds++news).length:=by
   rcases Mi j (olds++news).length with h|h
   ·exact h
   ·rw[List.getElem?_eq_none h] at hv;cases hv
  rw[Array.getElem?_append_left (by simpa using Cq)]
  simpa using hv
 ·rcases Bz.1 (List.mem_of_getElem? hv) with hm|hm
  ·exact ho v hm
  ·exact hn v hm
theorem Ab9(h:Cj N w0 X0 Y β s a w){c:Call}(ho:o.op=.call c)(hc:c.callee=.builtin .append)(hnb:LG c=true){d:Nat}(Apl:o.dst=some d){b x:Operand}(Fz:c.args.toList=[b,x]){t tx:TypeId}{ts:List TypeId}(RN:c.argTypes.toList=t::tx::ts){K:PV->List (Nat × Cb)->Option R}(hk:EO P (Pw s.hp) d t tx (Db s.tm x) K=some r):∃v nw,K v nw=some r/\G4 P a w o Y β s v [] nw:=by
 have hb:b=.const (.slice none 0 0):=by
  unfold LG at hnb;rw[Fz] at hnb;split at hnb
  ·rename_i e;injection e
  ·cases hnb
 have WB:c.args = #[b,x]:=by
  have:c.args=([b,x]:List Operand).toArray:=by rw[<-Fz]
  exact this
 have Ahx:c.argTypes=(t::tx::ts).toArray:=by rw[<-RN]
 have Xr:a.eval b=.slice none 0 0:=by rw[hb];rfl
 have run:∀{v:Value} {w1:World},(Builtin.append_ (t::tx::ts).toArray o.type #[a.eval b,a.eval x]).run P w=.ok v w1->(execOp a.eval o).run P w=.ok (.value v) w1:=by
  intro v w1 hr;unfold execOp;rw[ho];simp only[resolve,hc,invoke,builtin,Sem.run_bind,Sem.run_pure,Result.andThen_ok,WB,Ahx];have:(#[b,x]:Array Operand).map a.eval = #[a.eval b,a.eval x]:=by simp
  rw[this,hr];rfl
 unfold EO at hk;split at hk
 ·rename_i e hu;obtain⟨hzi,hk⟩:=Az hk;obtain⟨i,z,hi,hz,hzs,Kz⟩:=UM hzi;have BZ:((P.info? e).map (·.bytes)).getD 0=i.bytes:=by rw[hi];rfl
  obtain⟨⟨dx,hdx,Agm⟩,m,new,news,hk,hs⟩:=VM (s:=s) h hk (fun m new J6=>by
   obtain⟨hb,_⟩:=Az J6;simp only[G8,MR] at hb;exact hb.1.1)
  obtain⟨J8,hk⟩:=Az hk;simp only[G8,MR] at J8;obtain⟨⟨Amx,hby⟩,hnm⟩:=J8;have hnl:new.length=news.length:=hs.rep.len;rw[Kz] at Amx hk hs;rw[BZ] at hby;have OV:news.length=m*i.size:=by omega
  refine⟨_,_,hk,by simp,?_⟩;by_cases hm0:m=0
  ·subst hm0;have hr:=Se (P:=P) (w:=w) (t:=t) (tx:=tx) (ty:=o.type) (ts:=ts) (ad:=none) hu hdx Agm hi hs (List.eq_nil_of_length_eq_zero (by omega));rw[<-Xr] at hr;have Ahc:new=[]:=List.eq_nil_of_length_eq_zero (by omega);subst Ahc;refine⟨_,_,run hr,fun Aq9=>⟨Dz β d none,?_⟩⟩;have JD:s.hp d=none:=(Cl Aq9).1 d _ (Xh _);rw[Xr];refine⟨rfl,rfl,rfl,C6.refl _ _,fun j hj=>Aw _ _ (by rintro rfl;exact hj JD),?_,?_,?_,?_,?_,.inl ⟨A8 _ _ _,rfl,rfl,none,rfl⟩,?_⟩
   ·intro j bx hm;simp at hm;rw[hm.2];trivial
   ·intro j bx hm;simp at hm;obtain⟨rfl,rfl⟩:=hm;exact .inl ⟨A8 _ _ _,rfl⟩
   ·intro j bx k q hm hq;simp at hm;obtain⟨rfl,rfl⟩:=hm;rw[A8] at hq;cases hq
   ·intro j bx j' bx' k q q' hm M4 _ _;simp at hm M4;rw[hm.1,M4.1]
   ·intro j cells hm;simp at hm
   ·intro j hj;simp[Cn,C3,A9] at hj;subst hj;exact .inr ⟨.ar false [],by simp⟩
  ·have hr:=Sk (P:=P) (w:=w) (t:=t) (tx:=tx) (ty:=o.type) (ts:=ts) (ad:=none) (n:=0) (cap:=0) (olds:=[]) hu hdx Agm hi hz hs (.inl ⟨rfl,rfl⟩) (by omega) (by rw[Cm];exact hby) (by omega)
   rw[<-Xr] at hr;refine⟨_,_,run hr,fun Aq9=>⟨Dz β d (some (w.heap.size,0)),?_⟩⟩;have JD:s.hp d=none:=(Cl Aq9).1 d _ (Xh _);have hge:0+m<=grownCap w (0+m) 0 e:=grownCap_ge w (0+m) 0 e
   have II:Jw w (w.drew.alloc (.cells (([]:List Value).toArray++news.toArray++Builtin.zeroCells z.cells (grownCap w (0+m) 0 e-(0+m))) e)) (([]:List Value).toArray++news.toArray++Builtin.zeroCells z.cells (grownCap w (0+m) 0 e-(0+m))) e:=
    ⟨rfl,rfl,rfl,fun k hk=>Below.heap_alloc w.drew _ k hk,by show (w.heap.push _).size=_;simp,(0,0),by show (w.heap.push _)[w.heap.size]?=_;simp,.inl rfl⟩
   have Ajm:(([]:List Value).toArray++news.toArray++Builtin.zeroCells z.cells (grownCap w (0+m) 0 e-(0+m))).size=grownCap w (0+m) 0 e*i.size:=by
    simp only[Array.size_append,List.size_toArray,size_zeroCells,hzs,OV,Vx,<-Nat.add_mul];rw[Cm (m*i.size),<-Nat.add_mul]
    congr 1
    omega
   refine X6 (s:=⟨s.tm,Al s.hp []⟩) II JD trivial ?_ (fun cells hx=>by cases hx) ?_ (by intro j hj;simp[Cn,C3,A9] at hj;exact .inr hj)
   ·refine .inr ⟨w.heap.size,0,A8 _ _ _,?_,fun _ j _ hj=>?_,(fun q=>by cases q)⟩
    ·exact WV (pre:=[]) II (Alw (s:=⟨s.tm,Al s.hp []⟩) JD) trivial hs.rep (by simp) hs.one
    ·rw[II.bsz] at hj;exact II.frozen hj
   ·refine .inr ⟨w.heap.size,0,0,grownCap w (0+m) 0 e,A8 _ _ _,by rw[Cm],.inl rfl,by omega,?_,by rw[II.size];omega⟩
    rw[II.bsz,Ajm];omega
 ·cases hk
theorem Aei{lo hi:Option Operand}{y3:Operand}{k3:IntKind}{len cap l u m:Nat}(hl:(lo=none/\l=0)\/∃y k,lo=some y/\a.eval y=.int k (l:Int))(hu:∃y k,hi=some y/\a.eval y=.int k (u:Int))(hm:a.eval y3=.int k3 (m:Int))(h1:l<=u)(h2:u<=m)(h3:m<=cap):
  (Instr.sliceBounds true len cap (lo.map a.eval) (hi.map a.eval) (some (a.eval y3))).run P w=.ok (l,u,m) w:=by
 obtain⟨y,k,rfl,hy⟩:=hu;rcases hl with⟨rfl,rfl⟩|⟨y',k',rfl,hy'⟩
 ·simp[Instr.sliceBounds,Instr.sliceBound,asIntOf,hy,hm,h2,h3]
 ·simp[Instr.sliceBounds,Instr.sliceBound,asIntOf,hy,hy',hm,h1,h2,h3]
theorem Abw(h:Cj N w0 X0 Y β s a w){t:TypeId}{x m:Operand}{lo hi:Option Operand}(ho:o.op=.slice t x lo hi (some m)){d:Nat}{K:PV->List (Nat × Cb)->Option R}(hk:FA P d t (Db s.tm x) (lo.map (Db s.tm)) (hi.map (Db s.tm)) (some (Db s.tm m)) K=some r):∃v nw,K v nw=some r/\G4 P a w o Y β s v [] nw:=by
 have hx:=Er h x;unfold FA at hk;split at hk
 ·rename_i e hu;obtain⟨hb,hk⟩:=Az hk;simp only[G8] at hb;obtain⟨Xo,hhi⟩:=hb
  obtain⟨yh,rfl⟩:∃y,hi=some y:=by
   cases hi with
   |none=>simp at hhi
   |some y=>exact⟨y,rfl⟩
  have fin:∀{ad:Option Addr} {n cap l u q:Nat},a.eval x=.slice ad n cap->n<=cap->((lo=none/\l=0)\/∃y k,lo=some y/\a.eval y=.int k (l:Int))->((some yh=none/\u=n)\/∃y k,some yh=some y/\a.eval y=.int k (u:Int))->(((some m:Option Operand)=none/\q=n)\/∃y k,(some m:Option Operand)=some y/\a.eval y=.int k (q:Int)) ->
    (Nat.beq l q&&Nat.beq u q&&decide (q<=n))=true->G4 P a w o Y β s (.view d (Bw P e) 0 0) [] [(d,.ar false [])]:=by
   intro ad n cap l u q Ez hn hl Od hq hb;simp only[G8,MR] at hb;obtain⟨⟨b1,b2⟩,b3⟩:=hb;have b1:=Et b1;have b2:=Et b2;subst b1 b2
   have hu2:∃y k,(some yh:Option Operand)=some y/\a.eval y=.int k (u:Int):=by
    rcases Od with⟨e,_⟩|e
    ·cases e
    ·exact e
   obtain⟨k3,hm3⟩:∃k,a.eval m=.int k (u:Int):=by
    rcases hq with⟨e,_⟩|⟨y,k,e,q⟩
    ·cases e
    ·cases e;exact⟨k,q⟩
   have hbr:=Aei (P:=P) (w:=w) (len:=n) (cap:=cap) hl hu2 hm3 (C9 _) (C9 _) (by omega)
   have Eg:∃ad',(execOp a.eval o).run P w=.ok (.value (.slice ad' 0 0)) w:=by
    unfold execOp;rw[ho];cases ad with
    |none=>exact⟨none,by simp[Instr.sliceAt,Instr.slice,run_underlying hu,Ez,hbr,Eh Xo] at hbr ⊢⟩
    |some p=>exact⟨some p,by simp[Instr.sliceAt,Instr.slice,run_underlying hu,Ez,hbr,Eh Xo] at hbr ⊢⟩
   obtain⟨ad',Eg⟩:=Eg;refine⟨by simp,_,_,Eg,fun Aq9=>⟨Dz β d none,?_⟩⟩;have JD:s.hp d=none:=(Cl Aq9).1 d _ (Xh _);refine⟨rfl,rfl,rfl,C6.refl _ _,fun j hj=>Aw _ _ (by rintro rfl;exact hj JD),?_,?_,?_,?_,?_,.inl ⟨A8 _ _ _,rfl,rfl,ad',rfl⟩,?_⟩
   ·intro j bx hm;simp at hm;rw[hm.2];trivial
   ·intro j bx hm;simp at hm;obtain⟨rfl,rfl⟩:=hm;exact .inl ⟨A8 _ _ _,rfl⟩
   ·intro j bx k q hm hq;simp at hm;obtain⟨rfl,rfl⟩:=hm;rw[A8] at hq;cases hq
   ·intro j bx j' bx' k q q' hm M4 _ _;simp at hm M4;rw[hm.1,M4.1]
   ·intro j cells hm;simp at hm
   ·intro j hj;simp[Cn,C3,A9] at hj;subst hj;exact .inr ⟨.ar false [],by simp⟩
  split at hk
  ·rename_i id es off n e';rw[e'] at hx;obtain⟨QD,hk⟩:=Az hk;obtain⟨l,hk,hl⟩:=F5 h hk;obtain⟨u,hk,Od⟩:=F5 h hk;obtain⟨q,hk,hq⟩:=F5 (x:=some m) h hk;obtain⟨hb,hk⟩:=Az hk;refine⟨_,_,hk,?_⟩;rcases hx with⟨hβ,_,rfl,ad,Ez⟩|⟨b,ob,y,cap,hβ,Ez,hy,hn,RH,Cq⟩
   ·exact fin Ez (C9 _) hl Od hq hb
   ·exact fin Ez hn hl Od hq hb
  ·obtain⟨z,n,c,hk,hp⟩:=Iy hk;obtain⟨l,hk,hl⟩:=F5 h hk;obtain⟨u,hk,Od⟩:=F5 h hk;obtain⟨q,hk,hq⟩:=F5 (x:=some m) h hk;obtain⟨hb,hk⟩:=Az hk;refine⟨_,_,hk,?_⟩;rcases slice_form hp hx with⟨Ez,rfl,rfl⟩|⟨ad,cap,Ez,_,hn,_⟩|⟨ad,cap,Ez,_,rfl,rfl⟩
   ·exact fin Ez (C9 _) hl Od hq hb
   ·exact fin Ez hn hl Od hq hb
   ·exact fin Ez (Nat.zero_le _) hl Od hq hb
 ·cases hk
end
open Go.RowKit
section
variable {R:Type}{r:R}{P:Program}{N:Nat}{w0:World}{X0:Gn}{Y:Nat->Prop}{β β':Bt}{s:St}{a:Act}{w w':World}{o:Oper}{A:Nat->Prop}
theorem Asl(h:Cj N w0 X0 Y β s a w){G:Zg}(Ks:QL P G w0 X0){C:Kk}{call:Bp}(Dl:∀f args res,call f args=some res->Do G P f args res){K:PV->Cc->List (Nat × Cb)->Option R}(hk:VS C P N call s.tm (rd s.hp) (Pw s.hp) o K=some r):∃v fz nw,K v fz nw=some r/\VU P a w o Y β s v fz nw:=by
 have one:∀{K':PV->Option R},(∀v,K' v=some r->K v [] []=some r)->(∃v,K' v=some r/\G4 P a w o Y β s v [] [])->∃v fz nw,K v fz nw=some r/\VU P a w o Y β s v fz nw:=
  fun hK ⟨v,h1,h2⟩=>⟨v,[],[],hK v h1,TY h2⟩
 have many:(∃v fz nw,K v fz nw=some r/\G4 P a w o Y β s v fz nw)->∃v fz nw,K v fz nw=some r/\VU P a w o Y β s v fz nw:=
  fun ⟨v,fz,nw,h1,h2⟩=>⟨v,fz,nw,h1,TY h2⟩
 unfold VS at hk;split at hk
 ·rename_i x ho;exact one (fun _ h=>h) (LD (K:=fun p=>K p [] []) h (Anu ho) hk)
 ·rename_i x ho;exact one (fun _ h=>h) (LD (K:=fun p=>K p [] []) h (Aea ho) hk)
 ·rename_i c x y ho;exact one (fun _ h=>h) (Akd (K:=fun p=>K p [] []) h ho hk)
 ·rename_i t ho;obtain⟨d,hd,hk⟩:=Ed hk;exact many (Agt ho hk)
 ·rename_i t x ho;obtain⟨d,hd,hk⟩:=Ed hk;exact many (Ani h ho hk)
 ·rename_i t ps ho;exact one (fun _ h=>h) (Ae1 (K:=fun p=>K p [] []) h ho hk)
 ·rename_i t n ps ho;obtain⟨d,hd,hk⟩:=Ed hk;exact many (OK h ho hk)
 ·rename_i t x ho;exact one (fun _ h=>h) (Aku (K:=fun p=>K p [] []) h ho hk)
 ·rename_i x ho;exact one (fun _ h=>h) (WM (K:=fun p=>K p [] []) h ho hk)
 ·rename_i op t x y ty ho;exact one (fun _ h=>h) (Aev (K:=fun p=>K p [] []) h ho hk)
 ·rename_i op t x ho;exact one (fun _ h=>h) (Akn (K:=fun p=>K p [] []) h ho hk)
 ·rename_i src dst x ho;obtain⟨v,nw,hk,hg⟩:=Aig h ho hk;obtain⟨d,hd,hk⟩:=Ed hk;exact⟨v,[],nw,hk,TY hg⟩
 ·rename_i t x y ho;obtain⟨d,hd,hk⟩:=Ed hk;exact many (Ail h ho hk)
 ·rename_i t x lo hi mx ho;split at hk
  ·exact one (fun _ h=>h) (Agg (K:=fun p=>K p [] []) h ho hk)
  ·obtain⟨d,hd,hk⟩:=Ed hk;obtain⟨v,nw,h1,h2⟩:=Abw h ho hk;exact⟨v,[],nw,h1,TY h2⟩
 ·rename_i t x f ho;exact one (fun _ h=>h) (RM (K:=fun p=>K p [] []) h ho hk)
 ·rename_i t x f ho;exact one (fun _ h=>h) (Ag1 (K:=fun p=>K p [] []) h ho hk)
 ·rename_i t x i ho;exact one (fun _ h=>h) (RU (K:=fun p=>K p [] []) h ho hk)
 ·rename_i t x i ho;exact one (fun _ h=>h) (Agh (K:=fun p=>K p [] []) h ho hk)
 ·rename_i x i ho;exact one (fun _ h=>h) (YA (K:=fun p=>K p [] []) h ho hk)
 ·rename_i c ho;split at hk
  ·rename_i hc;exact one (fun _ h=>h) (And (K:=fun p=>K p [] []) h ho hc hk)
  ·rename_i hc;exact one (fun _ h=>h) (An5 (K:=fun p=>K p [] []) h ho hc hk)
  ·rename_i hc;exact one (fun _ h=>h) (Apd (K:=fun p=>K p [] []) h ho hc hk)
  ·rename_i hc;exact one (fun _ h=>h) (Anf (K:=fun p=>K p [] []) h ho hc hk)
  ·rename_i hc;obtain⟨hnb,hk⟩:=Az hk;obtain⟨d,hd,E9⟩:=Ed hk;obtain⟨b,xs,XI,Hl⟩:=Br E9;obtain⟨x,ys,hys,Xn⟩:=Br Hl;obtain⟨RA,Xq⟩:=Fg Xn;obtain⟨t,us,hus,hk5⟩:=Br Xq;obtain⟨tx,vs,Xl,hk6⟩:=Br hk5;rw[hys,RA] at XI;rw[Xl] at hus;obtain⟨v,nw,h1,h2⟩:=Ab9 h ho hc hnb hd XI hus hk6;exact⟨v,[],nw,h1,TY h2⟩
  ·rename_i f hc;exact VD h Ks Dl (fun hf hb=>KM ho hc Ks.ng hf hb) hk
  ·rename_i t hc;obtain⟨f,hf0,E9⟩:=Awq hk;have ht:a.eval (.tmp t)=.func (.func f) #[] #[]:=D3 h (x:=.tmp t) hf0;exact VD h Ks Dl (fun hf hb=>Apg ho hc ht Ks.ng hf hb) E9
  ·cases hk
 ·cases hk
theorem Ajw(h:Cj N w0 X0 Y β s a w){G:Zg}(Ks:QL P G w0 X0){C:Kk}{call:Bp}(Dl:∀f args res,call f args=some res->Do G P f args res){K:St->Option R}(hk:(VS C P N call s.tm (rd s.hp) (Pw s.hp) o fun v fz nw=>ON N s o.dst v fz nw K)=some r):
  ∃s',K s'=some r/\∀(next:Act->World->Prop) (Q:Exit->Act->World->Prop),(∀a' w' β',Cj N w0 X0 Y β' s' a' w'->next a' w')->o.wp P a w next Q:=by
 obtain⟨v,fz,nw,hk,OQ,hg⟩:=Asl h Ks Dl hk;unfold ON at hk;obtain⟨hb,hk⟩:=Az hk;simp only[G8] at hb;refine⟨_,hk,fun next Q hn=>hg next Q fun val w' Hc=>?_⟩;obtain⟨β',st⟩:=Hc hb.2
 have Xr:C1 (Al s.hp fz) nw=true:=by
  have:∀nw,C1 s.hp nw=true->C1 (Al s.hp fz) nw=true:=by
   intro nw
   induction nw with
   |nil=>intro _;rfl
   |cons q nw ih=>
    obtain⟨i,b⟩:=q;intro hq;simp only[C1,G8,Option.isNone_iff_eq_none] at hq ⊢;exact⟨⟨Gb.2 hq.1.1,hq.1.2⟩,ih hq.2⟩
  exact this nw hb.2
 exact hn _ _ β' ((h.freeze OQ).stepR hb.1 Xr st)
end
open Go.RowKit
section
variable {R:Type}{r:R}{P:Program}{N:Nat}{w0:World}{X0:Gn}{Y:Nat->Prop}{β β':Bt}{s:St}{a:Act}{w w':World}{o:Oper}{A:Nat->Prop}
structure G3(b:Nat)(w w':World):Prop where
 os:w'.os=w.os
 tape:w'.tape=w.tape
 output:w'.output=w.output
 size:w'.heap.size=w.heap.size
 other:∀k,k≠b->w'.heap[k]?=w.heap[k]?
 bs:bsz w' b=bsz w b
 frz:∀j,w'.frozen? ⟨b,j,none⟩=w.frozen? ⟨b,j,none⟩
theorem G3.refl(b:Nat)(w:World):G3 b w w:=⟨rfl,rfl,rfl,rfl,fun _ _=>rfl,rfl,fun _=>rfl⟩
theorem G3.setCell(b j:Nat)(v:Value)(w:World):G3 b w (w.setCell ⟨b,j,none⟩ v):=by
 refine⟨rfl,rfl,rfl,by simp[World.setCell],fun k hk=>Below.heap_setCell w ⟨b,j,none⟩ v k hk,?_,fun i=>?_⟩
 ·simp only[bsz,World.setCell,Array.getElem?_modify];simp only[if_true];cases h:w.heap[b]? with
  |none=>simp
  |some x=>cases x<;>simp
 ·simp only[World.frozen?,World.setCell,Array.getElem?_modify,if_true];cases h:w.heap[b]? with
  |none=>simp
  |some x=>cases x<;>simp
theorem G3.trans{b:Nat}{w'':World}(h:G3 b w w')(h':G3 b w' w''):G3 b w w'':=
 ⟨h'.os.trans h.os,h'.tape.trans h.tape,h'.output.trans h.output,h'.size.trans h.size,fun k hk=>(h'.other k hk).trans (h.other k hk),h'.bs.trans h.bs,fun j=>(h'.frz j).trans (h.frz j)⟩
theorem G3.setCells(b:Nat):∀(vs:List Value)(j:Nat)(w:World),G3 b w (w.setCells b j vs)
 |[],_,w=>G3.refl b w
 |v::vs,j,w=>(G3.setCell b j v w).trans (G3.setCells b vs (j+1) _)
theorem A69{hp:Nat->Option Cb}{id:Nat}{bx bx':Cb}(h0:hp id=some bx)(hl:C8 (some bx))(Q2:C8 (some bx'))(b:Nat):GY (Dz hp id (some bx')) β b↔GY hp β b:=by
 constructor
 ·rintro⟨i,o,h1,h2⟩
  by_cases e:i=id
  ·subst e;exact⟨i,o,by rw[h0];exact hl,h2⟩
  ·rw[Aw _ _ e] at h1;exact⟨i,o,h1,h2⟩
 ·rintro⟨i,o,h1,h2⟩
  by_cases e:i=id
  ·subst e;exact⟨i,o,by rw[A8];exact Q2,h2⟩
  ·exact⟨i,o,by rw[Aw _ _ e];exact h1,h2⟩
theorem Cj.write(h:Cj N w0 X0 Y β s a w){id b ob:Nat}{bx bx':Cb}(h0:s.hp id=some bx)(hl:C8 (some bx))(Q2:C8 (some bx'))(hβ:β id=some (b,ob))(hw:G3 b w w')(Pr:Yi w' (D2 s.hp β Y) β id bx')(hr:∀cells,bx'=.st cells->∀c∈cells,∀i∈A9 c,s.hp i≠none)(hK:∀c',bx'=.st c'->∃c,bx=.st c)(hR:∀j,BR bx' ob j->BR bx ob j)(hO:∀j,¬BR bx ob j->w'.cell? ⟨b,j,none⟩=w.cell? ⟨b,j,none⟩):Cj N w0 X0 Y β ⟨s.tm,Dz s.hp id (some bx')⟩ a w':=by
 have hX:=A69 (β:=β) h0 hl Q2;have hA:∀k,D2 (Dz s.hp id (some bx')) β Y k↔D2 s.hp β Y k:=fun k=>⟨fun x=>x.imp (hX k).1 (fun y=>y),fun x=>x.imp (hX k).2 (fun y=>y)⟩;have hAb:D2 s.hp β Y b:=.inl ⟨id,ob,by rw[h0];exact hl,hβ⟩
 have Hc:C6 (D2 s.hp β Y) w w':=⟨by rw[hw.size];exact C9 _,fun k _ hk=>hw.other k (fun e=>hk (e ▸ hAb)),fun k _=>by
  by_cases e:k=b
  ·subst e;rw[hw.bs];exact C9 _
  ·unfold bsz;rw[hw.other k e];exact C9 _⟩
 have Mz:∀i,Dz s.hp id (some bx') i≠none↔s.hp i≠none:=by
  intro i;by_cases e:i=id
  ·subst e;rw[A8,h0];simp
  ·rw[Aw _ _ e]
 have hAe:D2 (Dz s.hp id (some bx')) β Y=D2 s.hp β Y:=funext fun k=>propext (hA k)
 have JK:∀i,C8 (Dz s.hp id (some bx') i)->C8 (s.hp i):=by
  intro i hi;by_cases e:i=id
  ·subst e;rw[h0];exact hl
  ·rw[Aw _ _ e] at hi;exact hi
 refine⟨h.dfr,h.tsz,h.tmo,fun i hi=>?_,fun i bi hb=>?_,fun i i' k x y h1 h2=>h.inj i i' k x y (JK i h1) (JK i' h2),fun i k x hi hk=>?_,fun i hi j hj=>(Mz j).2 (h.wfT i hi j hj),
  fun i cells hc c hcm j hj=>(Mz j).2 ?_,fun k hk=>h.ownd k ((hX k).1 hk),fun i bi k x RK hli hk Cq j hj=>?_,fun i hi=>⟨(Mz _).2 (h.pin i hi).1,(h.pin i hi).2⟩,fun i c k x hc hk Cq=>?_,fun k hk x=>h.Yx k hk ((hX k).1 x),h.Ylt,?_⟩
 ·rw[hAe];exact (h.tms i hi).step Hc (fun _ _ x=>x) (fun _ _=>rfl)
 ·rw[hAe];simp only at hb;by_cases e:i=id
  ·subst e;rw[A8] at hb;cases hb;exact Pr
  ·rw[Aw _ _ e] at hb;have RK:=h.box i bi hb;cases bi with
   |st c=>
    obtain⟨k,x,h1,h2,h3⟩:=RK
    have hk:k≠b:=by
     rintro rfl
     exact e (h.inj i id k x ob (by rw[hb];trivial) (by rw[h0];exact hl) h1 hβ)
    refine⟨k,x,h1,fun j c hj=>?_,fun j hj=>?_⟩
    ·obtain⟨v,hv,hc⟩:=h2 j c hj;exact⟨v,by rw[World.cell?_of_block (w:=w) (hw.other k hk)];exact hv,hc.step Hc (fun _ _ x=>x) (fun _ _=>rfl)⟩
    ·rw[World.frozen?_of_block (w:=w) (hw.other k hk)];exact h3 j hj
   |ar fz c=>
    rcases RK with hn|⟨k,x,h1,h2,h3,h4⟩
    ·exact .inl hn
    ·have hk:k≠b:=by
      rintro rfl
      cases fz with
      |true=>exact h4 rfl hAb
      |false=>exact e (h.inj i id k x ob (by rw[hb];trivial) (by rw[h0];exact hl) h1 hβ)
     refine .inr ⟨k,x,h1,fun j c hj=>?_,fun ef j hj BX=>?_,h4⟩
     ·obtain⟨v,hv,h5,hc⟩:=h2 j c hj;exact⟨v,by rw[World.cell?_of_block (w:=w) (by rw[Io];exact hw.other k hk)];exact hv,h5,hc.step Hc (fun _ _ x=>x)⟩
     ·rw[World.frozen?_of_block (w:=w) (hw.other k hk)];refine h3 ef j hj ?_;unfold bsz at BX ⊢;rw[hw.other k hk] at BX;exact BX
   |mv=>trivial
 ·rw[hw.size];exact h.blt i k x ((Mz i).1 hi) hk
 ·simp only at hc;by_cases e:i=id
  ·subst e;rw[A8] at hc;injection hc with hc;exact hr cells hc c hcm j hj
  ·rw[Aw _ _ e] at hc;exact h.wfB i cells hc c hcm j hj
 ·simp only at RK;by_cases e:i=id
  ·subst e;rw[A8] at RK;cases RK;rw[hβ] at hk;cases hk;exact h.rngB i bx b ob h0 hl hβ Cq j (hR j hj)
  ·rw[Aw _ _ e] at RK;exact h.rngB i bi k x RK hli hk Cq j hj
 ·simp only at hc;by_cases e:i=id
  ·subst e;rw[A8] at hc;injection hc with hc;obtain⟨c0,rfl⟩:=hK c hc;exact h.stp i c0 k x h0 hk Cq
  ·rw[Aw _ _ e] at hc;exact h.stp i c k x hc hk Cq
 ·refine⟨hw.os.trans h.fr.os,hw.tape.trans h.fr.tape,hw.output.trans h.fr.output,?_,fun k j hk hL=>?_⟩
  ·refine⟨by rw[hw.size];exact h.fr.step.size,fun k hk hnk=>?_,fun k hk=>Nat.le_trans (h.fr.step.bs k hk) (Hc.bs k (Jm hk h.fr.step.size))⟩
   rw[hw.other k ?_]
   ·exact h.fr.step.keep k hk hnk
   ·rintro rfl
    rcases h.ownd k ⟨id,ob,by rw[h0];exact hl,hβ⟩ with hx|hx
    ·exact hnk hx
    ·omega
  ·by_cases e:k=b
   ·subst e;rw[hO j (fun hj=>hL (h.rngB id bx k ob h0 hl hβ hk j hj)),hw.frz];exact h.fr.rng k j hk hL
   ·have hc:w'.cell? ⟨k,j,none⟩=w.cell? ⟨k,j,none⟩:=World.cell?_of_block (w:=w) (hw.other k e);have hf:w'.frozen? ⟨k,j,none⟩=w.frozen? ⟨k,j,none⟩:=World.frozen?_of_block (w:=w) (hw.other k e);rw[hc,hf];exact h.fr.rng k j hk hL
theorem Zs{c cs:Ab}{off j:Nat}{p:PV}(ET:off+cs.length<=c.length)(h:(Bx c cs off)[j]?=some p):
  (off<=j/\j<off+cs.length/\cs[j-off]?=some p)\/((j<off\/off+cs.length<=j)/\c[j]?=some p):=by
 unfold Bx at h;by_cases h1:j<off
 ·rw[FC,List.getElem?_append_left (by simp;omega),List.getElem?_take_of_lt h1] at h
  exact .inr ⟨.inl h1,h⟩
 ·by_cases h2:j<off+cs.length
  ·rw[List.getElem?_append_left (by simp;omega),List.getElem?_append_right (by simp;omega)] at h
   simp only[List.length_take,Nat.min_eq_left (by omega:off<=c.length)] at h;exact .inl ⟨by omega,h2,h⟩
  ·rw[List.getElem?_append_right (by simp;omega)] at h
   simp only[Fw,List.length_take,Nat.min_eq_left (by omega:off<=c.length),List.getElem?_drop] at h;rw[show off+cs.length+(j-(off+cs.length))=j from by omega] at h;exact .inr ⟨.inr (by omega),h⟩
theorem AQ{c cs:Ab}{off:Nat}(ET:off+cs.length<=c.length):(Bx c cs off).length=c.length:=by simp[Bx];omega
theorem PC{t:TypeId}{b j:Nat}{v:Value}(Kz:(P.info? t).map (·.size)=some v.cells.size)(hc:∀i,i<v.cells.toList.length->(w.cell? ⟨b,j+i,none⟩).isSome=true)(hf:∀i,i<v.cells.toList.length->w.frozen? ⟨b,j+i,none⟩=false)(h1:∀u∈v.cells.toList,u.oneCell'=true):(Instr.storeAt t (.pointer (some ⟨b,j,none⟩)) v).run P w=.ok () (w.setCells b j v.cells.toList):=by
 have:=run_storeCells_cells (P:=P) b j v.cells.toList 0 w (fun i hi=>by simpa using hc i hi) (fun i hi=>by simpa using hf i hi) h1;simp only[Instr.storeAt,Instr.sureAddr,storeVar,Sem.run_bind,Sem.run_pure,Result.andThen_ok,Qt Kz]
 simpa using this
theorem Ahh(h:Cj N w0 X0 Y β s a w){t:TypeId}{x y:Operand}(ho:o.op=.store t x y)(hd:o.dst=none){K:St->Option R}(hk:MV P s t (Db s.tm x) (Db s.tm y) K=some r):
  ∃s',K s'=some r/\∀(next:Act->World->Prop) (Q:Exit->Act->World->Prop),(∀a' w' β',Cj N w0 X0 Y β' s' a' w'->next a' w')->o.wp P a w next Q:=by
 have hx:=Er h x;have XF:=Hz h x
 have run:∀{b j:Nat},a.eval x=.pointer (some ⟨b,j,none⟩)->(Instr.storeAt t (.pointer (some ⟨b,j,none⟩)) (a.eval y)).run P w=.ok () (w.setCells b j (a.eval y).cells.toList) ->
   ∀(next:Act->World->Prop) (Q:Exit->Act->World->Prop),next a (w.setCells b j (a.eval y).cells.toList)->o.wp P a w next Q:=by
  intro b j Ez hr next Q hn;unfold Oper.wp execOp;rw[ho];simp only[Sem.run_bind,Ez,hr,Result.andThen_ok,Sem.run_pure];show next (a.put o.dst undef) _;rw[hd];exact hn
 unfold MV at hk;split at hk
 ·rename_i id off e;rw[e] at hx XF;obtain⟨b,ob,hβ,Ez⟩:=hx;split at hk
  ·rename_i c h0;obtain⟨hb,hk⟩:=Az hk;simp only[G8,MR] at hb;obtain⟨⟨hok,hl⟩,ET⟩:=hb;have hl:=Et hl;obtain⟨cs,hk,BW,h2,h1,hr,_⟩:=Alj (Er h y) hl hk;obtain⟨_,A3w,Kz⟩:=Y1 hok;have hvl:=h2.len;obtain⟨b',o',Jq,Qm,hb3⟩:=h.box id _ h0;rw[hβ] at Jq;simp at Jq;obtain⟨rfl,rfl⟩:=Jq
   have hcell:∀i,i<(a.eval y).cells.toList.length->(w.cell? ⟨b,ob+off+i,none⟩).isSome=true:=by
    intro i hi;obtain⟨v,hv,_⟩:=Qm (off+i) _ (List.getElem?_eq_getElem (by omega));rw[Sb,hv];rfl
   have Eg:=PC (P:=P) (t:=t) (w:=w) (b:=b) (j:=ob+off) (v:=a.eval y) (by rw[Kz,<-A3w,<-BW,hvl];simp) hcell (fun i hi=>by rw[Sb];exact hb3 _ (by omega)) h1
   refine⟨_,hk,fun next Q hn=>run Ez Eg next Q (hn _ _ β ?_)⟩
   refine h.write h0 trivial trivial hβ (G3.setCells b _ _ w) ?_ ?_ (fun _ _=>⟨_,rfl⟩) (fun j hj=>by
    have hj:ob<=j/\j<ob+(Bx c cs off).length:=hj;rw[AQ (by omega)] at hj;exact hj) (fun j hj=>by
    refine World.cell?_setCells_out b _ _ w ⟨b,j,none⟩ (fun _ _=>?_);have hj:¬(ob<=j/\j<ob+c.length):=hj;show j<ob+off\/ob+off+_<=j;omega)
   ·have Hc:C6 (D2 s.hp β Y) w (w.setCells b (ob+off) (a.eval y).cells.toList):=by
     have hw:=G3.setCells b (a.eval y).cells.toList (ob+off) w;have hAb:D2 s.hp β Y b:=.inl ⟨id,ob,by rw[h0];trivial,hβ⟩
     exact⟨by rw[hw.size];exact C9 _,fun k _ hk=>hw.other k (fun e=>hk (e ▸ hAb)),fun k _=>by
      by_cases e:k=b
      ·subst e;rw[hw.bs];exact C9 _
      ·unfold bsz;rw[hw.other k e];exact C9 _⟩
    refine⟨b,ob,hβ,fun j p hj=>?_,fun j hj=>?_⟩
    ·rcases Zs (by omega) hj with⟨h3,h4,h5⟩|⟨h3,h5⟩
     ·obtain⟨u,hu,hcu⟩:=h2.get h5;have Cq:j-off<(a.eval y).cells.toList.length:=by omega
      refine⟨u,?_,hcu.step Hc (fun _ _ x=>x) (fun _ _=>rfl)⟩;have:=World.cell?_setCells_in b (a.eval y).cells.toList (ob+off) w hcell (j-off) Cq;rw[show ob+j=ob+off+(j-off) from by omega,this];rw[List.getElem?_eq_getElem Cq] at hu;exact hu
     ·obtain⟨v,hv,PJ⟩:=Qm j p h5;refine⟨v,?_,PJ.step Hc (fun _ _ x=>x) (fun _ _=>rfl)⟩;rw[World.cell?_setCells_out b _ _ w ⟨b,ob+j,none⟩ (fun _ _=>by show ob+j<ob+off\/ob+off+_<=ob+j;omega)]
      exact hv
    ·rw[AQ (by omega)] at hj;rw[(G3.setCells b _ _ w).frz];exact hb3 j hj
   ·intro cells hx c' AL i hi;injection hx with hx;subst hx;unfold Bx at AL;rcases Bz.1 AL with AL|AL
    ·rcases Bz.1 AL with AL|AL
     ·exact h.wfB id c h0 c' (List.mem_of_mem_take AL) i hi
     ·exact Hz h y i (hr c' AL i hi)
    ·exact h.wfB id c h0 c' (List.mem_of_mem_drop AL) i hi
  ·rename_i c h0;obtain⟨hb,hk⟩:=Az hk;simp only[G8,MR] at hb;obtain⟨hok,ET⟩:=hb;obtain⟨cs,m,hk,BW,RE,hT,hF,hm,hv⟩:=Zc h hk;obtain⟨hnm,hk⟩:=Az hk
   have hnm:id ∉ m:=by
    intro hi;have:m.any (Nat.beq id)=true:=List.any_eq_true.2 ⟨id,hi,Pu id⟩;rw[this] at hnm;cases hnm
   obtain⟨_,A3w,Kz⟩:=Y1 hok
   have Axp:B9 (Cx w (D2 s.hp β Y) β) (cellsOf (Db s.tm y)) (a.eval y).cells.toList:=by
    have hyv:=Er h y;cases hp:Db s.tm y with
    |agg ps=>
     rw[hp] at hyv;obtain⟨vs,hay,h2⟩:=hyv;rw[hay];exact h2
    |sc v=>
     rw[hp] at hyv hF
     have Arx:(a.eval y).oneCell'=true:=by
      have:=hv m (fun _ hi=>hi) hm [a.eval y] (by rw[hp];exact⟨hyv,trivial⟩)
      exact this.2 _ (by simp)
     rw[Tw Arx];exact⟨hyv,trivial⟩
    |lst z es n cc=>
     rw[hp] at hyv hF
     have Arx:(a.eval y).oneCell'=true:=by
      have:=hv m (fun _ hi=>hi) hm [a.eval y] (by rw[hp];exact⟨hyv,trivial⟩)
      exact this.2 _ (by simp)
     rw[Tw Arx];exact⟨hyv,trivial⟩
    |view i es oo n=>
     rw[hp] at hyv hF
     have Arx:(a.eval y).oneCell'=true:=by
      have:=hv m (fun _ hi=>hi) hm [a.eval y] (by rw[hp];exact⟨hyv,trivial⟩)
      exact this.2 _ (by simp)
     rw[Tw Arx];exact⟨hyv,trivial⟩
    |own es n cc=>
     have hx0:=hF (Db s.tm y) (by rw[hp];exact Xh _)
     rw[hp] at hx0;exact hx0.elim
    |ptr i cc=>
     have hx0:=hF (Db s.tm y) (by rw[hp];exact Xh _)
     rw[hp] at hx0;exact hx0.elim
    |iptr i cc=>
     have hx0:=hF (Db s.tm y) (by rw[hp];exact Xh _)
     rw[hp] at hx0;exact hx0.elim
    |pbox cc=>
     have hx0:=hF (Db s.tm y) (by rw[hp];exact Xh _)
     rw[hp] at hx0;exact hx0.elim
    |tup cc=>
     have hx0:=hF (Db s.tm y) (by rw[hp];exact Xh _)
     rw[hp] at hx0;exact hx0.elim
    |ub=>
     have hx0:=hF (Db s.tm y) (by rw[hp];exact Xh _)
     rw[hp] at hx0;exact hx0.elim
    |top=>
     have hx0:=hF (Db s.tm y) (by rw[hp];exact Xh _)
     rw[hp] at hx0;exact hx0.elim
   obtain⟨h2,h1⟩:=hv m (fun _ hi=>hi) hm _ Axp;have hvl:=h2.len;have hf:=h.freeze hm;have h0':Al s.hp m id=some (.ar false c):=by rw[C5,A5 hnm];exact h0
   rcases hf.box id _ h0' with⟨hn,_⟩|⟨b',o',Jq,Qm,hb3,_⟩
   ·rw[hβ] at hn;cases hn
   rw[hβ] at Jq;simp at Jq;obtain⟨rfl,rfl⟩:=Jq
   have hcell:∀i,i<(a.eval y).cells.toList.length->(w.cell? ⟨b,ob+off+i,none⟩).isSome=true:=by
    intro i hi;obtain⟨v,hv,_⟩:=Qm (off+i) _ (List.getElem?_eq_getElem (by omega));rw[Fy] at hv;rw[Sb,hv];rfl
   have Eg:=PC (P:=P) (t:=t) (w:=w) (b:=b) (j:=ob+off) (v:=a.eval y) (by rw[Kz,<-A3w,<-BW,hvl];simp) hcell (fun i hi=>by
    obtain⟨u,hu⟩:=Option.isSome_iff_exists.1 (hcell i hi);exact hb3 rfl _ (by omega) (VW hu)) h1
   refine⟨_,hk,fun next Q hn=>run Ez Eg next Q (hn _ _ β ?_)⟩
   refine hf.write h0' trivial trivial hβ (G3.setCells b _ _ w) ?_ (fun cells hx=>by cases hx) (fun _ hx=>by cases hx) (fun j hj=>hj) (fun j hj=>by
    refine World.cell?_setCells_out b _ _ w ⟨b,j,none⟩ (fun _ _=>?_);have hj:¬(ob<=j):=hj;show j<ob+off\/ob+off+_<=j;omega)
   have Hc:C6 (D2 (Al s.hp m) β Y) w (w.setCells b (ob+off) (a.eval y).cells.toList):=by
    have hw:=G3.setCells b (a.eval y).cells.toList (ob+off) w;have hAb:D2 (Al s.hp m) β Y b:=.inl ⟨id,ob,by rw[h0'];trivial,hβ⟩
    exact⟨by rw[hw.size];exact C9 _,fun k _ hk=>hw.other k (fun e=>hk (e ▸ hAb)),fun k _=>by
     by_cases e:k=b
     ·subst e;rw[hw.bs];exact C9 _
     ·unfold bsz;rw[hw.other k e];exact C9 _⟩
   refine .inr ⟨b,ob,hβ,fun j p hj=>?_,fun _ j hj BX=>?_,(fun x=>by cases x)⟩
   ·rw[Fy];rcases Zs (by omega) hj with⟨h3,h4,h5⟩|⟨h3,h5⟩
    ·obtain⟨u,hu,hcu⟩:=h2.get h5;have Cq:j-off<(a.eval y).cells.toList.length:=by omega
     refine⟨u,?_,h1 u (List.mem_of_getElem? hu),hcu.step Hc (fun _ _ x=>x)⟩;have:=World.cell?_setCells_in b (a.eval y).cells.toList (ob+off) w hcell (j-off) Cq;rw[show ob+j=ob+off+(j-off) from by omega,this];rw[List.getElem?_eq_getElem Cq] at hu;exact hu
    ·obtain⟨v,hv,h6,PJ⟩:=Qm j p h5;rw[Fy] at hv;refine⟨v,?_,h6,PJ.step Hc (fun _ _ x=>x)⟩;rw[World.cell?_setCells_out b _ _ w ⟨b,ob+j,none⟩ (fun _ _=>by show ob+j<ob+off\/ob+off+_<=ob+j;omega)]
     exact hv
   ·rw[(G3.setCells b _ _ w).bs] at BX;rw[(G3.setCells b _ _ w).frz];exact hb3 rfl j hj BX
  ·cases hk
 ·cases hk
end
open Go.RowKit
theorem Ng:∀{l l':Cc},Gd (l++l')=true->Gd l=true/\Gd l'=true/\∀i∈l,i ∉ l'
 |[],l',h=>⟨rfl,h,by simp⟩
 |a::l,l',h=>by
  simp only[Zzp,Gd,G8,Bool.not_eq_true'] at h;obtain⟨h1,h2⟩:=h;obtain⟨h3,h4,h5⟩:=Ng h2
  have hn:∀i∈l++l',a≠i:=by
   rintro i hi rfl
   have:(l++l').any (Nat.beq a)=true:=List.any_eq_true.2 ⟨a,hi,Pu a⟩;rw[this] at h1;cases h1
  refine⟨?_,h4,fun i hi=>?_⟩
  ·simp only[Gd,G8,Bool.not_eq_true',h3,and_true];rw[List.any_eq_false];intro i hi e;exact hn i (by simp[hi]) (Et e)
  ·rcases B6.1 hi with rfl|hi
   ·exact fun hm=>hn i (by simp[hm]) rfl
   ·exact h5 i hi
def Kr(β:Bt)(q:Nat × Nat):Option (Nat × Nat):=(β q.1).map fun p=>(p.1,p.2+q.2)
theorem Ai1(β:Bt)(id:Nat):Kr β (id,0)=β id:=by unfold Kr;cases β id<;>rfl
section
variable {R:Type}{r:R}{P:Program}{N:Nat}{w0:World}{X0:Gn}{Y:Nat->Prop}{β β':Bt}{s:St}{a:Act}{w w':World}{o:Oper}{A:Nat->Prop}
theorem Un{fz:Cc}{b:Nat}(h:D2 (Al s.hp fz) β Y b):D2 s.hp β Y b:=h.imp Yr id
theorem Att(h:Cj N w0 X0 Y β s a w){mv:Bool}{t:CT}{p:PV}{K:PV->Cc->Cc->Option R}(hk:Apj mv s.hp t p K=some r):
  ∃c m q,K c m (Option.toList q)=some r/\isA c/\XU p/\(∀id∈m,∃f cc,s.hp id=some (.ar f cc))/\(∀id,q=some id->∃cc,s.hp id=some (.ar false cc)) /\
   ∀fz:Cc,(∀id∈m,id∈fz)->(∀id∈fz,∃f cc,s.hp id=some (.ar f cc))->∀v,Cx w (D2 s.hp β Y) β p v->Kt w (D2 (Al s.hp fz) β Y) (q.bind β) c v:=by
 have frz:∀{t:CT} {p:PV} {K:PV->Cc->Cc->Option R},(V0 (Pw s.hp) t p fun c m=>K c m [])=some r->∃c m q,K c m (Option.toList q)=some r/\isA c/\XU p/\(∀id∈m,∃f cc,s.hp id=some (.ar f cc))/\(∀id,q=some id->∃cc,s.hp id=some (.ar false cc)) /\
   ∀fz:Cc,(∀id∈m,id∈fz)->(∀id∈fz,∃f cc,s.hp id=some (.ar f cc))->∀v,Cx w (D2 s.hp β Y) β p v->Kt w (D2 (Al s.hp fz) β Y) (q.bind β) c v:=by
  intro t p K hk;obtain⟨c,m,hk,hT,hF,hm,hv⟩:=UO h hk;exact⟨c,m,none,hk,.inl hT,hF,hm,by simp,fun fz h1 h2 v hc=>Qw hT (hv fz h1 h2 v hc).1⟩
 have tree:∀{t:CT} {p:PV} {K:PV->Cc->Cc->Option R},(∀es,t ≠ .sl es)->(NM t p fun c=>K c [] [])=some r->∃c m q,K c m (Option.toList q)=some r/\isA c/\XU p/\(∀id∈m,∃f cc,s.hp id=some (.ar f cc))/\(∀id,q=some id->∃cc,s.hp id=some (.ar false cc)) /\
   ∀fz:Cc,(∀id∈m,id∈fz)->(∀id∈fz,∃f cc,s.hp id=some (.ar f cc))->∀v,Cx w (D2 s.hp β Y) β p v->Kt w (D2 (Al s.hp fz) β Y) (q.bind β) c v:=by
  intro t p K Gz hk;obtain⟨c,hk,hT,WL,hv⟩:=Tj hk;exact⟨c,[],none,hk,.inl hT,AX WL,by simp,by simp,fun fz h1 h2 v hc=>Qw hT ((hv w _ β v hc).1.step (C6.refl _ _) (fun b _ hb=>Un hb))⟩
 unfold Apj at hk;cases t with
 |sl es=>
  dsimp only at hk;cases mv<;>simp only[cond_true,cond_false] at hk
  ·exact frz hk
  ·split at hk
   ·rename_i id es' off n;split at hk
    ·rename_i c h0;cases hb:(Nat.beq es' es&&Nat.beq off 0)<;>rw[hb] at hk<;>simp only[cond_true,cond_false] at hk
     ·exact frz hk
     ·simp only[G8] at hb;have he:=Et hb.1;have hof:=Et hb.2;subst he hof;obtain⟨hl,hk⟩:=Az hk;refine⟨_,[],some id,hk,.inr ⟨_,_,_,rfl⟩,trivial,by simp,fun i hi=>by cases hi;exact⟨c,h0⟩,fun fz h1 h2 v hc=>?_⟩
      rcases hc with⟨h3,_,rfl,h4⟩|⟨b,ob,x,cap,h3,h4,hx,h5,h6,h7⟩
      ·exact .inl ⟨h3,rfl,by simp,h4⟩
      ·have hx:x=ob:=by rcases hx with e|⟨_,e⟩<;>omega
       subst hx;rcases h.box id _ h0 with⟨h8,_⟩|⟨b',o',h8,h9,h10,_⟩
       ·rw[h3] at h8;cases h8
       ·rw[h3] at h8;cases h8;refine .inr ⟨b,x,cap,h3,h4,h5,h6,h7,fun j p hj=>?_,h10 rfl⟩;rw[List.getElem?_take] at hj;split at hj
        ·obtain⟨u,hu,h11,ht⟩:=h9 j p hj;exact⟨u,hu,h11,ht.step (C6.refl _ _) (fun b _ hb=>Un hb)⟩
        ·cases hj
    ·exact frz hk
   ·obtain⟨z,n,c,hk,hp⟩:=Iy hk;have hpF:XU p:=by rcases hp with e|⟨e,_⟩<;>(rw[e];trivial)
    cases z<;>simp only[cond_true,cond_false] at hk
    ·refine⟨_,[],none,hk,.inl trivial,hpF,by simp,by simp,fun fz h1 h2 v hc=>?_⟩;exact Qw trivial ((IH hp hc).step (C6.refl _ _) (fun b _ hb=>Un hb))
    ·refine⟨_,[],none,hk,.inr ⟨_,_,_,rfl⟩,hpF,by simp,by simp,fun fz h1 h2 v hc=>.inl ⟨rfl,rfl,rfl,none,?_⟩⟩;have:=IH hp hc;cases this;rfl
 |int k=>exact tree (by simp) hk
 |bool=>exact tree (by simp) hk
 |str=>exact tree (by simp) hk
 |any=>exact tree (by simp) hk
theorem EE(h:Cj N w0 X0 Y β s a w){mv:Bool}:∀{ts:List CT}{ps:Ab}{K:Ab->Cc->Cc->Option R},PQ mv s.hp ts ps K=some r ->
  ∃cs m x,∃q:Nat->Option Nat,K cs m x=some r/\cs.length=ts.length/\ps.length=ts.length/\(∀c∈cs,isA c)/\(∀p∈ps,XU p)/\(∀id∈m,∃f cc,s.hp id=some (.ar f cc))/\(∀id∈x,∃cc,s.hp id=some (.ar false cc)) /\
   (∀j id,q j=some id->id∈x)/\(Gd x=true->∀j j' id,q j=some id->q j'=some id->j=j') /\
   ∀fz:Cc,(∀id∈m,id∈fz)->(∀id∈fz,∃f cc,s.hp id=some (.ar f cc))->∀vs,B9 (Cx w (D2 s.hp β Y) β) ps vs->∀(own:Bt) j0,(∀j,own (j0+j)=(q j).bind β)->Ik w (D2 (Al s.hp fz) β Y) own j0 cs vs
 |[],[],K,hk=>⟨[],[],[],fun _=>none,hk,rfl,rfl,by simp,by simp,by simp,by simp,by simp,by simp,fun fz _ _ vs hv own j0 _=>by
   cases vs with
   |nil=>trivial
   |cons v vs=>exact hv.elim⟩
 |[],_::_,K,hk=>by cases hk
 |_::_,[],K,hk=>by cases hk
 |t::ts,p::ps,K,hk=>by
  unfold PQ at hk;obtain⟨c,m,q,hk,hA,hF,hm,hq,hv⟩:=Att h hk;obtain⟨cs,ms,xs,qs,hk,hl,Q2,hAs,hFs,SW,XI,hqx,hqi,Xl⟩:=EE h hk;refine⟨c::cs,m++ms,q.toList++xs,fun j=>match j with|0=>q|j+1=>qs j,hk,by simp[hl],by simp[Q2],?_,?_,?_,?_,?_,?_,?_⟩
  ·intro x hx;rcases B6.1 hx with rfl|hx
   ·exact hA
   ·exact hAs x hx
  ·intro x hx;rcases B6.1 hx with rfl|hx
   ·exact hF
   ·exact hFs x hx
  ·intro i hi;rcases Bz.1 hi with hi|hi
   ·exact hm i hi
   ·exact SW i hi
  ·intro i hi;rcases Bz.1 hi with hi|hi
   ·exact hq i (by simpa using hi)
   ·exact XI i hi
  ·intro j id hj;cases j with
   |zero=>exact Bz.2 (.inl (by simpa using hj))
   |succ j=>exact Bz.2 (.inr (hqx j id hj))
  ·intro hn j j' id hj BX;obtain⟨_,h2,h3⟩:=Ng hn;cases j with
   |zero=>
    cases j' with
    |zero=>rfl
    |succ j'=>exact absurd (hqx j' id BX) (h3 id (by simpa using hj))
   |succ j=>
    cases j' with
    |zero=>exact absurd (hqx j id hj) (h3 id (by simpa using BX))
    |succ j'=>rw[hqi h2 j j' id hj BX]
  ·intro fz h1 h2 vs h3 own j0 H2;cases vs with
   |nil=>exact h3.elim
   |cons v vs=>
    refine⟨?_,Xl fz (fun i hi=>h1 i (by simp[hi])) h2 vs h3.2 own (j0+1) fun j=>?_⟩
    ·have:=H2 0;rw[JF] at this;rw[this];exact hv fz (fun i hi=>h1 i (by simp[hi])) h2 v h3.1
    ·have:=H2 (j+1);rw[show j0+1+j=j0+(j+1) by omega];exact this
def LOk(hp:Nat->Option Cb)(q:Option (Nat × Nat))(p:PV)(x:Kj):Prop:=
 match x with
 |.var id off cts ws=>p=.pbox ws/\q=some (id,off)/\cts.length=ws.length/\∃c,hp id=some (.st c)/\off+ws.length<=c.length
 |.row id=>(∃ps,p=.tup ps)/\q=some (id,0)/\∃c,hp id=some (.ar false c)
 |.none=>(∃ps,p=.tup ps)/\q=none
theorem Am3{hp:Nat->Option Cb}{q:Option (Nat × Nat)}{p:PV}{x:Kj}(h:LOk hp q p x):KZ p=true:=by
 cases x with
 |var id off cts ws=>rw[h.1];rfl
 |row id=>obtain⟨⟨_,e⟩,_⟩:=h;rw[e];rfl
 |none=>obtain⟨⟨_,e⟩,_⟩:=h;rw[e];rfl
def Xm(hp:Nat->Option Cb)(src:Nat->Nat->Option (Nat × Nat)):Nat->Ab->List Kj->Prop
 |_,[],l=>l=[]
 |i,p::ps,l=>(KZ p=false/\src i 0=none/\Xm hp src (i+1) ps l)\/∃x l',l=x::l'/\LOk hp (src i 0) p x/\Xm hp src (i+1) ps l'
theorem Aia(h:Cj N w0 X0 Y β s a w){C:Kk}{f:FuncId}{i:Nat}{t:TypeId}{x:Operand}{K:PV->Cc->Cc->List Kj->Option R}(hk:NO C P f s.hp i t (Db s.tm x) K=some r):
  ∃v m y l,∃src:Nat->Option (Nat × Nat),K v m y l=some r/\(∀id∈m,∃f cc,s.hp id=some (.ar f cc))/\(∀id∈y,∃cc,s.hp id=some (.ar false cc)) /\
   (∀j id off,src (j+1)=some (id,off)->off=0/\id∈y)/\(Gd y=true->∀j j' id off off',src (j+1)=some (id,off)->src (j'+1)=some (id,off')->j=j') /\
   ((l=[]/\KZ v=false/\src 0=none)\/∃x',l=[x']/\LOk s.hp (src 0) v x') /\
   ∀fz:Cc,(∀id∈m,id∈fz)->(∀id∈fz,∃f cc,s.hp id=some (.ar f cc))->∀bt:Bt,(∀j,bt j=(src j).bind (Kr β))->Ael w (D2 (Al s.hp fz) β Y) bt v (a.eval x):=by
 have hx:=Er h x
 have RJ:∀(q0:Option (Nat × Nat)) (q:Nat->Option Nat),∃src:Nat->Option (Nat × Nat),src 0=q0/\(∀j,src (j+1)=(q j).map fun id=>(id,0)):=
  fun q0 q=>⟨fun j=>match j with|0=>q0|j+1=>(q j).map fun id=>(id,0),rfl,fun _=>rfl⟩
 have Age:∀{src:Nat->Option (Nat × Nat)} {q:Nat->Option Nat} {y:Cc},(∀j,src (j+1)=(q j).map fun id=>(id,0))->(∀j id,q j=some id->id∈y)->∀j id off,src (j+1)=some (id,off)->off=0/\id∈y:=by
  intro src q y h1 h2 j id off hj;rw[h1] at hj;cases hq:q j with
  |none=>rw[hq] at hj;cases hj
  |some k=>rw[hq] at hj;cases hj;exact⟨rfl,h2 j _ hq⟩
 have Agv:∀{src:Nat->Option (Nat × Nat)} {q:Nat->Option Nat} {y:Cc},(∀j,src (j+1)=(q j).map fun id=>(id,0))->(Gd y=true->∀j j' id,q j=some id->q j'=some id->j=j') ->
   Gd y=true->∀j j' id off off',src (j+1)=some (id,off)->src (j'+1)=some (id,off')->j=j':=by
  intro src q y h1 h2 hn j j' id off off' hj BX;rw[h1] at hj BX;cases hq:q j with
  |none=>rw[hq] at hj;cases hj
  |some k=>
   cases I4:q j' with
   |none=>rw[I4] at BX;cases BX
   |some k'=>
    rw[hq] at hj;rw[I4] at BX;cases hj;cases BX;exact h2 hn j j' _ hq I4
 have H2:∀{src:Nat->Option (Nat × Nat)} {q:Nat->Option Nat} {bt:Bt},(∀j,src (j+1)=(q j).map fun id=>(id,0))->(∀j,bt j=(src j).bind (Kr β))->∀j,bt (1+j)=(q j).bind β:=by
  intro src q bt h1 h2 j;rw[Nat.add_comm,h2,h1];cases q j with
  |none=>rfl
  |some id=>exact Ai1 β id
 unfold NO at hk;split at hk
 ·rename_i e he;split at hk
  ·rename_i id off ep;rw[ep] at hx;split at hk
   ·rename_i c h0;obtain⟨hb,hk⟩:=Az hk;simp only[G8,MR] at hb;obtain⟨cs,m,y,q,hk,hl,Q2,hA,hF,hm,hy,YV,RZ,hv⟩:=EE h hk;obtain⟨src,TU,hs⟩:=RJ (some (id,off)) q;obtain⟨b,ob,hβ,Ez⟩:=hx;refine⟨_,m,y,_,src,hk,hm,hy,Age hs YV,Agv hs RZ,.inr ⟨_,rfl,rfl,TU,hl.symm,c,h0,by omega⟩,fun fz h1 h2 bt HX=>?_⟩;obtain⟨b',o',Jq,Qm,hb3⟩:=h.box id _ h0;rw[hβ] at Jq;cases Jq;have Hr:((c.drop off).take (M0 P e).length).length=(M0 P e).length:=by simp;omega
    have Art:∀j p,((c.drop off).take (M0 P e).length)[j]?=some p->c[off+j]?=some p/\j<(M0 P e).length:=by
     intro j p hj;rw[List.getElem?_take] at hj;split at hj
     ·rw[List.getElem?_drop] at hj;exact⟨hj,by assumption⟩
     ·cases hj
    refine⟨b,ob+off,by rw[HX,TU];simp[Kr,hβ],Ez,hA,((c.drop off).take (M0 P e).length).mapIdx (fun j _=>(w.cell? ⟨b,ob+off+j,none⟩).getD undef),hv fz h1 h2 _ ?_ bt 1 (H2 hs HX),?_,fun k hk=>?_⟩
    ·refine B9.of_at (by simp) fun j p v hp hv=>?_;obtain⟨hc,_⟩:=Art j p hp;obtain⟨u,hu,hcr⟩:=Qm _ _ hc;rw[List.getElem?_mapIdx,hp,Option.map_some,Sb,hu] at hv;simp at hv;subst hv;exact hcr
    ·intro k v hkv;rw[List.getElem?_mapIdx] at hkv;cases hp:((c.drop off).take (M0 P e).length)[k]? with
     |none=>rw[hp] at hkv;cases hkv
     |some p=>
      obtain⟨hc,_⟩:=Art k p hp;obtain⟨u,hu,hcr⟩:=Qm _ _ hc;rw[hp,Option.map_some,Sb,hu] at hkv;simp at hkv;subst hkv;rw[Sb];exact hu
    ·rw[Sb];exact hb3 _ (by omega)
   ·cases hk
  ·cases hk
 ·cases hln:C.lnd f i<;>rw[hln] at hk<;>simp only[cond_true,cond_false] at hk
  ·cases Jl:Dd P t<;>rw[Jl] at hk<;>simp only[cond_true,cond_false] at hk
   ·obtain⟨cs,m,y,q,hk,hl,Q2,hA,hF,hm,hy,YV,RZ,hv⟩:=EE h hk;obtain⟨c,t',rfl,hk⟩:=Br hk;obtain⟨rfl,hk⟩:=Fg hk;obtain⟨src,TU,hs⟩:=RJ none q;have hAc:=hA c (by simp);refine⟨c,m,y,_,src,hk,hm,hy,Age hs YV,Agv hs RZ,.inl ⟨rfl,Ay6 hAc,TU⟩,fun fz h1 h2 bt HX=>?_⟩;have hFx:=hF _ (Xh _)
    have hxc:Cx w (D2 s.hp β Y) β (Db s.tm x) (a.eval x):=by
     cases hp:Db s.tm x<;>rw[hp] at hx hFx<;>first|exact hx|exact hFx.elim
    have hoc:=(hv fz h1 h2 [a.eval x] ⟨hxc,trivial⟩ bt 1 (H2 hs HX)).1;rcases hAc with hT|⟨es,n,cc,rfl⟩
    ·cases c<;>first|exact⟨.inl trivial,hoc⟩|exact hT.elim
    ·exact⟨.inr ⟨_,_,_,rfl⟩,hoc⟩
   ·obtain⟨ps,ep,hk⟩:=Le hk;rw[ep] at hx;obtain⟨vs,Ez,h3⟩:=hx;obtain⟨cs,m,y,q,hk,hl,Q2,hA,hF,hm,hy,YV,RZ,hv⟩:=EE h hk;obtain⟨src,TU,hs⟩:=RJ none q;refine⟨_,m,y,_,src,hk,hm,hy,Age hs YV,Agv hs RZ,.inl ⟨rfl,rfl,TU⟩,fun fz h1 h2 bt HX=>?_⟩;exact⟨vs,Ez,hA,hv fz h1 h2 vs h3 bt 1 (H2 hs HX)⟩
  ·obtain⟨e,he,hk⟩:=Ed hk;unfold Atm at hk;split at hk
   ·rename_i id es' off n ep;rw[ep] at hx;split at hk
    ·rename_i c h0;obtain⟨hb,Hl⟩:=Az hk;simp only[G8] at hb;have he:=Et hb.1;have hof:=Et hb.2;subst hof;obtain⟨src,TU,hs⟩:=RJ (some (id,0)) (fun _=>none);refine⟨_,[],[],_,src,Hl,by simp,by simp,Age hs (by simp),Agv hs (by simp),.inr ⟨_,rfl,⟨_,rfl⟩,TU,c,h0⟩,fun fz h1 h2 bt HX=>⟨_,_,_,rfl,?_⟩⟩;have XC:bt 0=β id:=by rw[HX,TU];exact Ai1 β id
     rw[XC];rcases hx with⟨h3,_,h4,h5⟩|⟨b,ob,y,cap,h3,h4,hy,h5,h6,h7⟩
     ·refine .inl ⟨h3,h4,?_,h5⟩;rcases h.box id _ h0 with⟨_,h8⟩|⟨_,_,h8,_⟩
      ·exact h8
      ·rw[h3] at h8;cases h8
     ·have hy:y=ob:=by rcases hy with e|⟨_,e⟩<;>omega
      subst hy;rcases h.box id _ h0 with⟨h8,_⟩|⟨b',o',h8,h9,h10,_⟩
      ·rw[h3] at h8;cases h8
      ·rw[h3] at h8;cases h8;exact .inr ⟨b,y,cap,h3,h4,h5,by rw[<-he];exact h6,h7,h9.weak (fun b _ hb=>Un hb),h10 rfl⟩
    ·cases hk
   ·obtain⟨z,n,c,hk,hp⟩:=Iy hk;obtain⟨hz,hk⟩:=Az hk;subst hz;obtain⟨src,TU,hs⟩:=RJ none (fun _=>none)
    have hu:a.eval x=.slice none 0 0:=by
     have hF:Cx w (D2 s.hp β Y) β (Db s.tm x) (a.eval x):=by rcases hp with e|⟨e,_⟩<;>rw[e] at hx ⊢ <;> exact hx
     have:=IH hp hF;generalize a.eval x=u at this;cases this;rfl
    refine⟨_,[],[],_,src,hk,by simp,by simp,Age hs (by simp),Agv hs (by simp),.inr ⟨_,rfl,⟨_,rfl⟩,TU⟩,fun fz h1 h2 bt HX=>⟨_,_,_,rfl,.inl ⟨by rw[HX,TU];rfl,rfl,rfl,none,hu⟩⟩⟩
structure A9s(i0 n:Nat)(src:Nat->Nat->Option (Nat × Nat))(ids x:Cc):Prop where
 dom:∀i j q,src i j=some q->i0<=i/\i<i0+n
 lent:∀i id off,src i 0=some (id,off)->id∈ids
 mvd:∀i j id off,src i (j+1)=some (id,off)->off=0/\id∈x
 inj0:Gd ids=true->∀i i' id off off',src i 0=some (id,off)->src i' 0=some (id,off')->i=i'
 inj1:Gd x=true->∀i i' j j' id off off',src i (j+1)=some (id,off)->src i' (j'+1)=some (id,off')->i=i'/\j=j'
theorem GW{hp:Nat->Option Cb}{src src':Nat->Nat->Option (Nat × Nat)}:∀{ps:Ab}{i:Nat}{l:List Kj},(∀k,i<=k->src' k=src k)->Xm hp src i ps l->Xm hp src' i ps l
 |[],_,_,_,h=>h
 |p::ps,i,l,hs,h=>by
  rcases h with⟨h1,h2,h3⟩|⟨x,l',rfl,h2,h3⟩
  ·exact .inl ⟨h1,by rw[hs i (C9 _)];exact h2,GW (fun k hk=>hs k (by omega)) h3⟩
  ·exact .inr ⟨x,l',rfl,by rw[hs i (C9 _)];exact h2,GW (fun k hk=>hs k (by omega)) h3⟩
theorem PZ{bt bt':PA}:∀{ps:Ab}{us:List Value}{i:Nat},(∀k,i<=k->∀j,bt' k j=bt k j)->Rs w A bt i ps us->Rs w A bt' i ps us
 |[],[],_,_,_=>trivial
 |[],_::_,_,_,h=>h.elim
 |_::_,[],_,_,h=>h.elim
 |_::_,_::_,i,hb,h=>⟨by rw[show bt' i=bt i from funext (hb i (C9 _))];exact h.1,PZ (fun k hk=>hb k (by omega)) h.2⟩
theorem Abl(h:Cj N w0 X0 Y β s a w){C:Kk}{f:FuncId}:∀{ts:List TypeId}{xs:List Operand}{i:Nat}{K:Ab->Cc->Cc->List Kj->Option R},Aa7 C P f s.hp i ts (xs.map (Db s.tm)) K=some r ->
  ∃vs m y l,∃src:Nat->Nat->Option (Nat × Nat),K vs m y l=some r/\(∀id∈m,∃f cc,s.hp id=some (.ar f cc))/\(∀id∈y,∃cc,s.hp id=some (.ar false cc)) /\
   A9s i xs.length src (l.flatMap Kj.ids) y/\Xm s.hp src i vs l /\
   ∀fz:Cc,(∀id∈m,id∈fz)->(∀id∈fz,∃f cc,s.hp id=some (.ar f cc))->∀bt:PA,(∀i j,bt i j=(src i j).bind (Kr β))->Rs w (D2 (Al s.hp fz) β Y) bt i vs (xs.map a.eval)
 |[],[],i,K,hk=>⟨[],[],[],[],fun _ _=>none,hk,by simp,by simp,⟨by simp,by simp,by simp,by simp,by simp⟩,rfl,fun _ _ _ _ _=>trivial⟩
 |[],_::_,i,K,hk=>by cases hk
 |_::_,[],i,K,hk=>by cases hk
 |t::ts,x::xs,i,K,hk=>by
  simp only[Sf] at hk;unfold Aa7 at hk;obtain⟨v,m,y,l,src,hk,hm,hy,PI,TL,hl,hv⟩:=Aia h hk;obtain⟨vs,ms,ys,ls,srcs,hk,SW,hys,hS,hL,Xl⟩:=Abl h hk;have RJ:∃sr:Nat->Nat->Option (Nat × Nat),sr i=src/\∀k,k≠i->sr k=srcs k:=⟨fun k=>if k=i then src else srcs k,by simp,fun k hk=>by simp[hk]⟩
  obtain⟨sr,hsi,hso⟩:=RJ
  have XT:∀id off,src 0=some (id,off)->id∈l.flatMap Kj.ids:=by
   intro id off e;rcases hl with⟨_,_,h3⟩|⟨x',rfl,h3⟩
   ·rw[h3] at e;cases e
   ·cases x' with
    |var id' off' cts ws=>rw[h3.2.1] at e;cases e;simp[Kj.ids]
    |row id'=>rw[h3.2.1] at e;cases e;simp[Kj.ids]
    |none=>rw[h3.2] at e;cases e
  refine⟨v::vs,m++ms,y++ys,l++ls,sr,hk,?_,?_,⟨?_,?_,?_,?_,?_⟩,?_,fun fz h1 h2 bt HX=>⟨?_,?_⟩⟩
  ·intro i hi;rcases Bz.1 hi with hi|hi
   ·exact hm i hi
   ·exact SW i hi
  ·intro i hi;rcases Bz.1 hi with hi|hi
   ·exact hy i hi
   ·exact hys i hi
  ·intro k j q hq;simp only[G7];by_cases e:k=i
   ·subst e;omega
   ·rw[hso k e] at hq;have:=hS.dom k j q hq;omega
  ·intro k id off hq;rw[List.flatMap_append];by_cases e:k=i
   ·subst e;rw[hsi] at hq;exact Bz.2 (.inl (XT id off hq))
   ·rw[hso k e] at hq;exact Bz.2 (.inr (hS.lent k id off hq))
  ·intro k j id off hq;by_cases e:k=i
   ·subst e;rw[hsi] at hq;exact⟨(PI j id off hq).1,Bz.2 (.inl (PI j id off hq).2)⟩
   ·rw[hso k e] at hq;exact⟨(hS.mvd k j id off hq).1,Bz.2 (.inr (hS.mvd k j id off hq).2)⟩
  ·intro hn k k' id off off' hq I4;rw[List.flatMap_append] at hn;obtain⟨_,h4,h5⟩:=Ng hn;by_cases e:k=i
   ·by_cases e':k'=i
    ·omega
    ·rw[hso k' e'] at I4;subst e;rw[hsi] at hq;exact absurd (hS.lent k' id off' I4) (h5 id (XT id off hq))
   ·rw[hso k e] at hq;by_cases e':k'=i
    ·subst e';rw[hsi] at I4;exact absurd (hS.lent k id off hq) (h5 id (XT id off' I4))
    ·rw[hso k' e'] at I4;exact hS.inj0 h4 k k' id off off' hq I4
  ·intro hn k k' j j' id off off' hq I4;obtain⟨h3,h4,h5⟩:=Ng hn;by_cases e:k=i
   ·by_cases e':k'=i
    ·subst e;subst e';rw[hsi] at hq I4;exact⟨rfl,TL h3 j j' id off off' hq I4⟩
    ·rw[hso k' e'] at I4;subst e;rw[hsi] at hq;exact absurd (hS.mvd k' j' id off' I4).2 (h5 id (PI j id off hq).2)
   ·rw[hso k e] at hq;by_cases e':k'=i
    ·subst e';rw[hsi] at I4;exact absurd (hS.mvd k j id off hq).2 (h5 id (PI j' id off' I4).2)
    ·rw[hso k' e'] at I4;exact hS.inj1 h4 k k' j j' id off off' hq I4
  ·have GL:Xm s.hp sr (i+1) vs ls:=GW (fun k hk=>hso k (by omega)) hL;rcases hl with⟨rfl,hnp,h3⟩|⟨x',rfl,h3⟩
   ·exact .inl ⟨hnp,by rw[hsi];exact h3,GL⟩
   ·exact .inr ⟨x',ls,rfl,by rw[hsi];exact h3,GL⟩
  ·exact hv fz (fun i hi=>h1 i (by simp[hi])) h2 (bt i) (fun j=>by rw[HX,hsi])
  ·refine Xl fz (fun i hi=>h1 i (by simp[hi])) h2 (fun k j=>(srcs k j).bind (Kr β)) (fun _ _=>rfl) |> PZ fun k hk j=>?_
   rw[HX,hso k (by omega)]
end
open Go.RowKit
section
variable {R:Type}{r:R}{P:Program}{N:Nat}{w0:World}{X0:Gn}{Y:Nat->Prop}{β β':Bt}{s:St}{a:Act}{w w':World}{o:Oper}{A:Nat->Prop}
theorem Au4{p:PV}{u:Value}(h:Bd w A p u):Cx w A β p u:=by have h0:=h;cases h<;>exact h0
theorem Aql{t:Nat}{ct:CT}{was p:PV}{K:Nat->PV->List (Nat × Cb)->Option R}(hk:An4 N t ct was p K=some r):
  (∃c,K t c []=some r/\GS c/\∀w A q u,Kt w A q p u->Bd w A c u)\/∃es n cc,p=.own es n cc/\K (t+1) (.view (nid N t) es 0 n) [(nid N t,.ar false cc)]=some r:=by
 have tree:∀t',(NM t' p fun c=>K t c [])=some r->∃c,K t c []=some r/\GS c/\∀w A q u,Kt w A q p u->Bd w A c u:=by
  intro t' hk;obtain⟨c,hk,hT,WL,hv⟩:=Tj hk;refine⟨c,hk,hT,fun w A q u h=>(hv w A (fun _=>none) u ?_).1⟩;cases p<;>first|exact h|exact WL.elim
 unfold An4 at hk;cases ct with
 |sl es=>
  dsimp only at hk;split at hk
  ·unfold Je at hk;split at hk
   ·rename_i es' n c;cases hb:Nat.beq es' es<;>rw[hb] at hk
    ·cases hk
    ·have:=Et hb;subst this;exact .inr ⟨_,_,_,rfl,hk⟩
   ·cases hk
  ·have h2:(NM (.sl es) p fun c=>(match c with | .lst _ es n c=>K t (.lst false es n c) []|_=>none))=some r:=hk;obtain⟨c,hk,hT,WL,hv⟩:=Tj h2;split at hk
   ·refine .inl ⟨_,hk,hT,fun w A q u h=>Bd.unz (hv w A (fun _=>none) u ?_).1⟩;cases p<;>first|exact h|exact WL.elim
   ·cases hk
 |int k=>exact .inl (tree _ hk)
 |bool=>exact .inl (tree _ hk)
 |str=>exact .inl (tree _ hk)
 |any=>exact .inl (tree _ hk)
theorem NR:∀{cts:List CT}{ws ps:Ab}{t:Nat}{K:Nat->Ab->List (Nat × Cb)->Option R},ZN N t cts ws ps K=some r ->
  ∃t' cs bs,∃qs:List (Nat × Nat),K t' cs bs=some r/\cs.length=ps.length/\ps.length=ws.length/\bs.map (·.1)=qs.map (·.1)/\(∀q∈qs,(∃k,q.1=nid N k)/\q.2<ps.length)/\(∀q∈qs,∀q'∈qs,q.2=q'.2->q.1=q'.1) /\
   (∀i bx,(i,bx)∈bs->∃c,bx=.ar false c)/\(∀c∈cs,∀i∈A9 c,∃bx,(i,bx)∈bs) /\
   ∀(w:World) (A:Nat->Prop) (own β':Bt) (j0:Nat) (us:List Value),(∀q∈qs,β' q.1=own (j0+q.2))->Ik w A own j0 ps us->B9 (Cx w A β') cs us/\∀i bx,(i,bx)∈bs->Yi w A β' i bx
 |[],[],ps,t,K,hk=>by
  obtain⟨rfl,hk⟩:=Fg hk;refine⟨t,[],[],[],hk,rfl,rfl,rfl,by simp,by simp,by simp,by simp,fun w A own β' j0 us _ h=>⟨?_,by simp⟩⟩;cases us with
  |nil=>trivial
  |cons u us=>exact h.elim
 |[],_::_,_,_,_,hk=>by cases hk
 |_::_,[],_,_,_,hk=>by cases hk
 |ct::cts,x::ws,ps,t,K,hk=>by
  unfold ZN at hk;obtain⟨p,ps',PX,E9⟩:=Br hk;subst PX;rcases Aql E9 with⟨c,Hl,hT,hv⟩|⟨es,n,cc,rfl,Hl⟩
  ·obtain⟨t',cs,bs,qs,Xn,hl,Q2,hb,YV,RZ,Jq,Qm,Xl⟩:=NR Hl;refine⟨t',c::cs,bs,qs.map (fun q=>(q.1,q.2+1)),Xn,by simp[hl],by simp[Q2],by rw[hb];simp,?_,?_,Jq,?_,fun w A own β' j0 us hβ ho=>?_⟩
   ·intro q hq;obtain⟨q0,HP,rfl⟩:=List.mem_map.1 hq;exact⟨(YV q0 HP).1,by have:=(YV q0 HP).2;simp only[G7];omega⟩
   ·intro q hq q' I4 e;obtain⟨q0,HP,rfl⟩:=List.mem_map.1 hq;obtain⟨q1,O5,rfl⟩:=List.mem_map.1 I4;exact RZ q0 HP q1 O5 (by simp only at e;omega)
   ·intro y hy i hi;rcases B6.1 hy with rfl|hy
    ·rw[Mc hT] at hi;cases hi
    ·exact Qm y hy i hi
   ·cases us with
    |nil=>exact ho.elim
    |cons u us=>
     obtain⟨h1,h2⟩:=Xl w A own β' (j0+1) us (fun q hq=>by rw[hβ _ (List.mem_map_of_mem hq)];congr 1;simp only;omega) ho.2
     exact⟨⟨Au4 (hv w A _ u ho.1),h1⟩,h2⟩
  ·obtain⟨t',cs,bs,qs,Xn,hl,Q2,hb,YV,RZ,Jq,Qm,Xl⟩:=NR Hl;refine⟨t',_::cs,(nid N t,.ar false cc)::bs,(nid N t,0)::qs.map (fun q=>(q.1,q.2+1)),Xn,by simp[hl],by simp[Q2],by simp only[Sf,hb];simp,?_,?_,?_,?_,fun w A own β' j0 us hβ ho=>?_⟩
   ·intro q hq;rcases B6.1 hq with rfl|hq
    ·exact⟨⟨t,rfl⟩,by simp⟩
    ·obtain⟨q0,HP,rfl⟩:=List.mem_map.1 hq;exact⟨(YV q0 HP).1,by have:=(YV q0 HP).2;simp only[G7];omega⟩
   ·intro q hq q' I4 e;rcases B6.1 hq with rfl|hq
    ·rcases B6.1 I4 with rfl|I4
     ·rfl
     ·obtain⟨q0,HP,rfl⟩:=List.mem_map.1 I4;simp only at e;omega
    ·obtain⟨q0,HP,rfl⟩:=List.mem_map.1 hq;rcases B6.1 I4 with rfl|I4
     ·simp only at e;omega
     ·obtain⟨q1,O5,rfl⟩:=List.mem_map.1 I4;exact RZ q0 HP q1 O5 (by simp only at e;omega)
   ·intro i bx hm;rcases B6.1 hm with e|hm
    ·cases e;exact⟨cc,rfl⟩
    ·exact Jq i bx hm
   ·intro y hy i hi;rcases B6.1 hy with rfl|hy
    ·simp only[A9,Mv] at hi;subst hi;exact⟨_,LU⟩
    ·obtain⟨bx,Pr⟩:=Qm y hy i hi;exact⟨bx,Sh _ Pr⟩
   ·cases us with
    |nil=>exact ho.elim
    |cons u us=>
     obtain⟨h1,h2⟩:=Xl w A own β' (j0+1) us (fun q hq=>by rw[hβ _ (Sh _ (List.mem_map_of_mem hq))];congr 1;simp only;omega) ho.2
     have h0:=hβ (nid N t,0) LU;simp only[JF] at h0;refine⟨⟨?_,h1⟩,fun i bx hm=>?_⟩
     ·rcases ho.1 with⟨h3,rfl,_,h5⟩|⟨b,ob,cap,h3,h4,h5,h6,h7,_⟩
      ·exact .inl ⟨h0.trans h3,rfl,rfl,h5⟩
      ·exact .inr ⟨b,ob,ob,cap,h0.trans h3,h4,.inl rfl,h5,h6,h7⟩
     ·rcases B6.1 hm with e|hm
      ·cases e;exact KL ho.1 h0
      ·exact h2 i bx hm
def Ajk(hp Di:Nat->Option Cb)(bs:List (Nat × Cb))(x:Kj):Prop:=
 match x with
 |.var id off _ ws=>∃c cs,hp id=some (.st c)/\Di id=some (.st (Bx c cs off))/\cs.length=ws.length/\off+cs.length<=c.length/\∀p∈cs,∀i∈A9 p,∃bx,(i,bx)∈bs
 |.row id=>∃c cs,hp id=some (.ar false c)/\Di id=some (.ar false cs)
 |.none=>True
def Asq(β β':Bt)(w':World)(A:Nat->Prop)(hp Di:Nat->Option Cb)(x:Kj):Prop:=
 match x with
 |.var id off _ ws=>∃c cs,hp id=some (.st c)/\Di id=some (.st (Bx c cs off))/\cs.length=ws.length/\off+cs.length<=c.length /\
   ∀b o,β id=some (b,o)->(∀(j:Nat) p,cs[j]?=some p->∃v,w'.cell? ⟨b,o+off+j,none⟩=some v/\Cx w' A β' p v)/\∀j,j<cs.length->w'.frozen? ⟨b,o+off+j,none⟩=false
 |.row id=>∃cs,Di id=some (.ar false cs)/\((β id=none/\cs=[])\/∃b o,β id=some (b,o)/\YO w' A ⟨b,o,none⟩ cs/\∀j,o<=j->j<bsz w' b->w'.frozen? ⟨b,j,none⟩=false)
 |.none=>True
theorem JN{hp Fs Di:Nat->Option Cb}{bs bs1:List (Nat × Cb)}{x:Kj}(h1:∀i∈x.ids,Fs i=hp i)(hb:∀q∈bs,q∈bs1)(h:Ajk Fs Di bs x):Ajk hp Di bs1 x:=by
 cases x with
 |var id off cts ws=>
  obtain⟨c,cs,h2,h3,h4,h5,h6⟩:=h;refine⟨c,cs,by rw[<-h1 id (by simp[Kj.ids])];exact h2,h3,h4,h5,fun p hp i hi=>?_⟩
  obtain⟨bx,Pr⟩:=h6 p hp i hi;exact⟨bx,hb _ Pr⟩
 |row id=>
  obtain⟨c,cs,h2,h3⟩:=h;exact⟨c,cs,by rw[<-h1 id (by simp[Kj.ids])];exact h2,h3⟩
 |none=>trivial
theorem OY{hp Fs Di:Nat->Option Cb}{x:Kj}(h1:∀i∈x.ids,Fs i=hp i)(h:Asq β β' w' A Fs Di x):Asq β β' w' A hp Di x:=by
 cases x with
 |var id off cts ws=>
  obtain⟨c,cs,h2,h3⟩:=h;exact⟨c,cs,by rw[<-h1 id (by simp[Kj.ids])];exact h2,h3⟩
 |row id=>exact h
 |none=>trivial
theorem Ao8{hp Fs:Nat->Option Cb}{q:Option (Nat × Nat)}{p:PV}{x:Kj}(h1:∀i∈x.ids,Fs i=hp i)(h:LOk hp q p x):LOk Fs q p x:=by
 cases x with
 |var id off cts ws'=>
  obtain⟨h2,h3,h5,c,h6,h7⟩:=h;exact⟨h2,h3,h5,c,by rw[h1 id (by simp[Kj.ids])];exact h6,h7⟩
 |row id=>
  obtain⟨h2,h3,c,h4⟩:=h;exact⟨h2,h3,c,by rw[h1 id (by simp[Kj.ids])];exact h4⟩
 |none=>exact h
theorem JW{hp Fs:Nat->Option Cb}{src:Nat->Nat->Option (Nat × Nat)}:∀{ps:Ab}{i:Nat}{l:List Kj},(∀i∈l.flatMap Kj.ids,Fs i=hp i)->Xm hp src i ps l->Xm Fs src i ps l
 |[],_,_,_,h=>h
 |p::ps,i,l,hs,h=>by
  rcases h with⟨h1,h2,h3⟩|⟨x,l',rfl,h2,h3⟩
  ·exact .inl ⟨h1,h2,JW hs h3⟩
  ·exact .inr ⟨x,l',rfl,Ao8 (fun k hk=>hs k (by simp only[Jr,Bz];exact .inl hk)) h2,JW (fun k hk=>hs k (by simp only[Jr,Bz];exact .inr hk)) h3⟩
theorem Ajn{own:Bt}{bt:PA}{j i:Nat}{p:PV}{zs:Ab}{r:List Ab}(hp:KZ p=false)(h:GR w A own bt j i (p::zs) r):GR w A own bt j (i+1) zs r:=by cases p<;>first|exact h|cases hp
theorem CN{src:Nat->Nat->Option (Nat × Nat)}{β:Bt}:∀{zs:Ab}{l:List Kj}{ro:List Ab} {i j t:Nat}{hp:Nat->Option Cb}{K:(Nat->Option Cb)->List (Nat × Cb)->Option R},
  IY N t l ro hp K=some r->Xm hp src i zs l->Gd (l.flatMap Kj.ids)=true ->
  ∃Di bs,∃qs:List (Nat × Nat),K Di bs=some r/\bs.map (·.1)=qs.map (·.1)/\(∀q∈qs,(∃k,q.1=nid N k)/\j<=q.2)/\(∀q∈qs,∀q'∈qs,q.2=q'.2->q.1=q'.1)/\(∀i bx,(i,bx)∈bs->∃c,bx=.ar false c) /\
   (∀i,i ∉ l.flatMap Kj.ids->Di i=hp i)/\(∀x∈l,Ajk hp Di bs x) /\
   ∀(w':World) (A:Nat->Prop) (own β':Bt) (bt:PA),(∀q∈qs,β' q.1=own q.2)->(∀i,bt i 0=(src i 0).bind (Kr β))->GR w' A own bt j i zs ro ->
    (∀i bx,(i,bx)∈bs->Yi w' A β' i bx)/\∀x∈l,Asq β β' w' A hp Di x
 |[],l,ro,i,j,t,hp,K,hk,hL,hn=>by
  have hL:l=[]:=hL;subst hL;unfold IY at hk;obtain⟨rfl,hk⟩:=Fg hk;exact⟨hp,[],[],hk,rfl,by simp,by simp,by simp,fun _ _=>rfl,by simp,fun w' A own β' bt _ _ _=>⟨by simp,by simp⟩⟩
 |p::zs,l0,ro,i,j,t,hp,K,hk,hL0,hn=>by
  rcases hL0 with⟨RE,_,hL⟩|⟨x,l,rfl,hok,hL⟩
  rotate_left
  ··simp only[Jr] at hn;obtain⟨hn1,hn2,hn3⟩:=Ng hn;cases x with
    |var id off cts ws'=>
     obtain⟨rfl,RJ,BW,c,hc,ET⟩:=hok;unfold IY at hk;obtain⟨cs,ro',hro,E9⟩:=Br hk;subst hro;obtain⟨t',cs',bs,qs,Hl,MQ,RQ,hb,YV,RZ,Jq,Qm,hv⟩:=NR E9;rw[hc] at Hl;simp only at Hl;change IY N t' l ro' (Dz hp id (some (.st (Bx c cs' off)))) (fun Di bs'=>K Di (bs++bs'))=some r at Hl;have Aj6:id ∉ l.flatMap Kj.ids:=hn3 id (by simp[Kj.ids]);have hL':Xm (Dz hp id (some (.st (Bx c cs' off)))) src (i+1) zs l:=JW (fun k hkm=>Aw _ _ (fun e=>Aj6 (e ▸ hkm))) hL;obtain⟨Di,bs',qs',Xn,J8,O5,Akt,Aks,Rl,hsh,Adh⟩:=CN (β:=β) (j:=j+cs.length) Hl hL' hn2;have Ass:Di id=some (.st (Bx c cs' off)):=by rw[Rl id Aj6,A8]
     have VH:∀x∈l,∀k∈x.ids,Dz hp id (some (.st (Bx c cs' off))) k=hp k:=fun x hx k hkm=>Aw _ _ (fun e=>Aj6 (e ▸ List.mem_flatMap.2 ⟨x,hx,hkm⟩));refine⟨Di,bs++bs',qs.map (fun q=>(q.1,j+q.2))++qs',Xn,by simp only[List.map_append,hb,J8];simp,?_,?_,?_,?_,?_,fun w' A own β' bt hβ HX ho=>?_⟩
     ·intro q hq;rcases Bz.1 hq with hq|hq
      ·obtain⟨q0,HP,rfl⟩:=List.mem_map.1 hq;exact⟨(YV q0 HP).1,by simp only;omega⟩
      ·exact⟨(O5 q hq).1,by have:=(O5 q hq).2;omega⟩
     ·intro q hq q' I4 e;rcases Bz.1 hq with hq|hq
      ·obtain⟨q0,HP,rfl⟩:=List.mem_map.1 hq;have:=(YV q0 HP).2;rcases Bz.1 I4 with I4|I4
       ·obtain⟨q1,O5,rfl⟩:=List.mem_map.1 I4;exact RZ q0 HP q1 O5 (by simp only at e;omega)
       ·have:=(O5 q' I4).2;simp only at e;omega
      ·have h5:=(O5 q hq).2;rcases Bz.1 I4 with I4|I4
       ·obtain⟨q1,A79,rfl⟩:=List.mem_map.1 I4;have:=(YV q1 A79).2;simp only at e;omega
       ·exact Akt q hq q' I4 e
     ·intro k bx hm;rcases Bz.1 hm with hm|hm
      ·exact Jq k bx hm
      ·exact Aks k bx hm
     ·intro k hk;simp only[Jr,Bz,not_or] at hk;rw[Rl k hk.2];exact Aw _ _ (by rintro rfl;exact hk.1 (by simp[Kj.ids]))
     ·intro x hx;rcases B6.1 hx with rfl|hx
      ·refine⟨c,cs',hc,Ass,by omega,by omega,fun p hp k hk=>?_⟩;obtain⟨bx,Pr⟩:=Qm p hp k hk;exact⟨bx,Bz.2 (.inl Pr)⟩
      ·exact JN (VH x hx) (fun q hq=>Bz.2 (.inr hq)) (hsh x hx)
     ·obtain⟨⟨b,ob,XC,Hr,vs,hov,hcell,YQ⟩,ho⟩:=ho
      ·obtain⟨h1,h2⟩:=hv w' A own β' j vs (fun q hq=>hβ _ (Bz.2 (.inl (List.mem_map_of_mem hq)))) hov;obtain⟨h3,h4⟩:=Adh w' A own β' bt (fun q hq=>hβ q (Bz.2 (.inr hq))) HX ho;refine⟨fun k bx hm=>?_,fun x hx=>?_⟩
       ·rcases Bz.1 hm with hm|hm
        ·exact h2 k bx hm
        ·exact h3 k bx hm
       ·rcases B6.1 hx with rfl|hx
        ·refine⟨c,cs',hc,Ass,by omega,by omega,fun b1 o1 hβ1=>?_⟩;have Qm:=HX i;rw[XC,RJ] at Qm;simp only[Option.bind_some,Kr,hβ1,Option.map_some,Option.some.injEq,Prod.mk.injEq] at Qm;obtain⟨rfl,rfl⟩:=Qm;refine⟨fun k p hp=>?_,fun k hk=>YQ k (by omega)⟩;obtain⟨v,hv,hcr⟩:=h1.get hp;exact⟨v,hcell k v hv,hcr⟩
        ·exact OY (VH x hx) (h4 x hx)
    |row id=>
     obtain⟨⟨pz,rfl⟩,RJ,c,hc⟩:=hok;unfold IY at hk;obtain⟨cs,ro',hro,Hl⟩:=Br hk;subst hro;have Aj6:id ∉ l.flatMap Kj.ids:=hn3 id (by simp[Kj.ids]);have hL':Xm (Dz hp id (some (.ar false cs))) src (i+1) zs l:=JW (fun k hkm=>Aw _ _ (fun e=>Aj6 (e ▸ hkm))) hL;obtain⟨Di,bs',qs',Xn,J8,O5,Akt,Aks,Rl,hsh,Adh⟩:=CN (β:=β) (j:=j) Hl hL' hn2;have Ass:Di id=some (.ar false cs):=by rw[Rl id Aj6,A8]
     have VH:∀x∈l,∀k∈x.ids,Dz hp id (some (.ar false cs)) k=hp k:=fun x hx k hkm=>Aw _ _ (fun e=>Aj6 (e ▸ List.mem_flatMap.2 ⟨x,hx,hkm⟩));refine⟨Di,bs',qs',Xn,J8,O5,Akt,Aks,?_,?_,fun w' A own β' bt hβ HX ho=>?_⟩
     ·intro k hk;simp only[Jr,Bz,not_or] at hk;rw[Rl k hk.2];exact Aw _ _ (by rintro rfl;exact hk.1 (by simp[Kj.ids]))
     ·intro x hx;rcases B6.1 hx with rfl|hx
      ·exact⟨c,cs,hc,Ass⟩
      ·exact JN (VH x hx) (fun q hq=>hq) (hsh x hx)
     ·obtain⟨Am4,ho⟩:=ho
      ·obtain⟨h3,h4⟩:=Adh w' A own β' bt hβ HX ho;refine⟨h3,fun x hx=>?_⟩;rcases B6.1 hx with rfl|hx
       ·refine⟨cs,Ass,?_⟩;have Qm:=HX i;rw[RJ] at Qm;simp only[Option.bind_some,Ai1] at Qm;rw[Qm] at Am4;exact Am4
       ·exact OY (VH x hx) (h4 x hx)
    |none=>
     obtain⟨⟨pz,rfl⟩,RJ⟩:=hok;unfold IY at hk;obtain⟨cs,ro',hro,Hl⟩:=Br hk;subst hro;obtain⟨Di,bs',qs',Xn,J8,O5,Akt,Aks,Rl,hsh,Adh⟩:=CN (β:=β) (j:=j) Hl hL hn2;refine⟨Di,bs',qs',Xn,J8,O5,Akt,Aks,?_,?_,fun w' A own β' bt hβ HX ho=>?_⟩
     ·intro k hk;simp only[Jr,Bz,not_or] at hk;exact Rl k hk.2
     ·intro x hx;rcases B6.1 hx with rfl|hx
      ·trivial
      ·exact hsh x hx
     ·obtain⟨Am4,ho⟩:=ho
      ·obtain⟨h3,h4⟩:=Adh w' A own β' bt hβ HX ho;refine⟨h3,fun x hx=>?_⟩;rcases B6.1 hx with rfl|hx
       ·trivial
       ·exact h4 x hx
  ·obtain⟨Di,bs',qs',Xn,J8,O5,Akt,Aks,Rl,hsh,Adh⟩:=CN (β:=β) (j:=j) hk hL hn;exact⟨Di,bs',qs',Xn,J8,O5,Akt,Aks,Rl,hsh,fun w' A own β' bt hβ HX ho=>Adh w' A own β' bt hβ HX (Ajn RE ho)⟩
end
open Go.RowKit
theorem Jf(hp:Nat->Option Cb)(ids:Cc)(i:Nat):DB hp ids i=if i∈ids then (hp i).map (fun _=>Cb.mv) else hp i:=by
 unfold DB;by_cases hi:i∈ids
 ·have:ids.any (Nat.beq i)=true:=List.any_eq_true.2 ⟨i,hi,Pu i⟩;rw[this,Bq hi];rfl
 ·have:ids.any (Nat.beq i)=false:=by
   cases hb:ids.any (Nat.beq i)
   ·rfl
   ·obtain⟨j,hj,e⟩:=List.any_eq_true.1 hb;exact absurd (Et e ▸ hj) hi
  rw[this,A5 hi];rfl
theorem Z5:∀{nw:List (Nat × Cb)} {hp:Nat->Option Cb},C1 hp nw=true->(nw.map (·.1)).Nodup
 |[],_,_=>List.nodup_nil
 |(i,b)::r,hp,h=>by
  simp only[C1,G8,Option.isNone_iff_eq_none,Bool.not_eq_true'] at h;simp only[Sf,List.nodup_cons];refine⟨fun hm=>?_,Z5 h.2⟩;obtain⟨q,hq,e⟩:=List.mem_map.1 hm;have:r.any (fun q=>Nat.beq q.1 i)=true:=List.any_eq_true.2 ⟨q,hq,by rw[e];exact Pu i⟩
  rw[this] at h;cases h.1.2
theorem Aqm:∀{l:List (Nat × Nat)},(l.map (·.1)).Nodup->∀q∈l,FY l q.1=some q.2
 |[],_,_,h=>by cases h
 |(j,b)::r,hn,q,hq=>by
  simp only[Sf,List.nodup_cons] at hn;unfold FY;rcases B6.1 hq with rfl|hq
  ·simp only[Pu,cond_true]
  ·have:Nat.beq q.1 j=false:=by
    cases hb:Nat.beq q.1 j
    ·rfl
    ·exact absurd (Et hb ▸ List.mem_map_of_mem hq) hn.1
   simp only[this,cond_false];exact Aqm hn.2 q hq
theorem Ahw:∀{l:List (Nat × Nat)} {i:Nat},i ∉ l.map (·.1)->FY l i=none
 |[],_,_=>rfl
 |(j,b)::r,i,h=>by
  simp only[Sf,B6,not_or] at h;unfold FY
  have:Nat.beq i j=false:=by
   cases hb:Nat.beq i j
   ·rfl
   ·exact absurd (Et hb) h.1
  simp only[this,cond_false];exact Ahw h.2
section
variable {R:Type}{r:R}{P:Program}{N:Nat}{w0:World}{X0:Gn}{Y:Nat->Prop}{β β':Bt}{s:St}{a:Act}{w w':World}{o:Oper}{A A':Nat->Prop}
theorem Kt.weak(hA:∀b,b<w.heap.size->A' b->A b){q:Option (Nat × Nat)}{p:PV}{u:Value}(h:Kt w A q p u):Kt w A' q p u:=by
 have tr:∀{p:PV},Bd w A p u->Bd w A' p u:=fun h=>h.step (C6.refl _ _) hA;cases p with
 |own es n c=>
  rcases h with h|⟨b,ob,cap,h1,h2,h3,h4,h5,h6,h7⟩
  ·exact .inl h
  ·exact .inr ⟨b,ob,cap,h1,h2,h3,h4,h5,h6.weak hA,h7⟩
 |_=>exact tr h
theorem Ik.weak(hA:∀b,b<w.heap.size->A' b->A b){own:Bt}:∀{ps:Ab}{us:List Value}{j:Nat},Ik w A own j ps us->Ik w A' own j ps us
 |[],[],_,_=>trivial
 |[],_::_,_,h=>h.elim
 |_::_,[],_,h=>h.elim
 |_::_,_::_,_,h=>⟨h.1.weak hA,Ik.weak hA h.2⟩
theorem Ael.weak(hA:∀b,b<w.heap.size->A' b->A b){bt:Bt}{p:PV}{u:Value}(h:Ael w A bt p u):Ael w A' bt p u:=by
 cases p with
 |pbox ps=>
  obtain⟨b,ob,h1,h2,h3,vs,h4,h5⟩:=h;exact⟨b,ob,h1,h2,h3,vs,h4.weak hA,h5⟩
 |tup ps=>
  obtain⟨es,n,c,h1,h2⟩:=h;exact⟨es,n,c,h1,h2.weak hA⟩
 |agg cs=>
  obtain⟨vs,h1,h2,h3⟩:=h;exact⟨vs,h1,h2,h3.weak hA⟩
 |_=>exact⟨h.1,h.2.weak hA⟩
theorem Rs.weak(hA:∀b,b<w.heap.size->A' b->A b){bt:PA}:∀{ps:Ab}{us:List Value}{i:Nat},Rs w A bt i ps us->Rs w A' bt i ps us
 |[],[],_,_=>trivial
 |[],_::_,_,h=>h.elim
 |_::_,[],_,h=>h.elim
 |_::_,_::_,_,h=>⟨h.1.weak hA,Rs.weak hA h.2⟩
theorem JO{bt:PA}(k:Bool):∀{xs:List Operand}{ps:Ab}{i:Nat},Rs w A bt i ps (xs.map a.eval)->Rs w A bt i (O9 k xs ps) (xs.map a.eval)
 |[],[],_,h=>h
 |[],_::_,_,h=>h
 |_::_,[],_,h=>h
 |x::xs,p::ps,i,h=>by
  simp only[Sf] at h ⊢;refine⟨?_,JO k h.2⟩;split
  ·exact⟨.inl trivial,Bd.lnil _ _⟩
  ·exact h.1
theorem Ac0(k:Bool)(x:Operand)(xs:List Operand)(p:PV)(ps:Ab):∃p',O9 k (x::xs) (p::ps)=p'::O9 k xs ps/\KZ p'=KZ p/\(KZ p=true->p'=p):=by
 refine⟨_,rfl,?_,fun h=>?_⟩
 ·split
  ·rfl
  ·rfl
 ·split
  ·cases h
  ·rfl
theorem AY{hp:Nat->Option Cb}{src:Nat->Nat->Option (Nat × Nat)}(k:Bool):∀{xs:List Operand}{ps:Ab}{i:Nat}{l:List Kj},Xm hp src i ps l->Xm hp src i (O9 k xs ps) l
 |[],[],_,_,h=>h
 |[],_::_,_,_,h=>h
 |_::_,[],_,_,h=>h
 |x::xs,p::ps,i,l,h=>by
  obtain⟨p',e,h1,h2⟩:=Ac0 k x xs p ps;rw[e];rcases h with⟨h3,h4,h5⟩|⟨y,l',rfl,h4,h5⟩
  ·exact .inl ⟨by rw[h1];exact h3,h4,AY k h5⟩
  ·exact .inr ⟨y,l',rfl,by rw[h2 (Am3 h4)];exact h4,AY k h5⟩
theorem SO{hp:Nat->Option Cb}{src:Nat->Nat->Option (Nat × Nat)}:∀{ps:Ab}{i:Nat}{l:List Kj},Xm hp src i ps l->∀id∈l.flatMap Kj.ids,C8 (hp id)/\∃k off,src k 0=some (id,off)
 |[],_,_,h,id,B5=>by
  have h:_=[]:=h;rw[h] at B5;cases B5
 |p::ps,i,l,h,id,B5=>by
  rcases h with⟨_,_,h3⟩|⟨x,l',rfl,h2,h3⟩
  ·exact SO h3 id B5
  ·simp only[Jr,Bz] at B5;rcases B5 with B5|B5
   ·cases x with
    |var id' off cts ws=>
     simp only[Kj.ids,Mv] at B5;subst B5;obtain⟨_,h4,_,c,h5,_⟩:=h2;exact⟨by rw[h5];trivial,i,_,h4⟩
    |row id'=>
     simp only[Kj.ids,Mv] at B5;subst B5;obtain⟨_,h4,c,h5⟩:=h2;exact⟨by rw[h5];trivial,i,_,h4⟩
    |none=>simp[Kj.ids] at B5
   ·exact SO h3 id B5
theorem At4{hp:Nat->Option Cb}{src:Nat->Nat->Option (Nat × Nat)}:∀{ps:Ab}{i:Nat}{l:List Kj},Xm hp src i ps l->∀k p id off,ps[k]?=some p->src (i+k) 0=some (id,off) ->
   (∃c ws,hp id=some (.st c)/\p=.pbox ws/\off+ws.length<=c.length)\/((∃c,hp id=some (.ar false c))/\off=0/\∃ws,p=.tup ws)
 |[],_,_,_,k,p,id,off,hp,_=>by simp at hp
 |p::ps,i,l,h,k,p',id,off,Di,hs=>by
  have GL:∃l',Xm hp src (i+1) ps l':=by
   rcases h with⟨_,_,h3⟩|⟨x,l',_,_,h3⟩<;>exact⟨_,h3⟩
  cases k with
  |succ k=>
   obtain⟨l',h'⟩:=GL;exact At4 h' k p' id off (by simpa using Di) (by rw[show i+1+k=i+(k+1) by omega];exact hs)
  |zero=>
   simp only[List.getElem?_cons_zero,Option.some.injEq] at Di;subst Di;rw[JF] at hs;rcases h with⟨_,h2,_⟩|⟨x,l',_,h2,_⟩
   ·rw[hs] at h2;cases h2
   ·cases x with
    |var id' off' cts ws=>
     obtain⟨h3,h4,_,c,h5,h6⟩:=h2;rw[hs] at h4;cases h4;exact .inl ⟨c,ws,h5,h3,h6⟩
    |row id'=>
     obtain⟨h3,h4,c,h5⟩:=h2;rw[hs] at h4;cases h4;exact .inr ⟨⟨c,h5⟩,rfl,h3⟩
    |none=>
     have:=h2.2;rw[hs] at this;cases this
theorem Ahg{hp : Nat -> Option Cb}{src : Nat -> Nat -> Option (Nat × Nat)}{id off : Nat}{cts : List CT}{ws : Ab}: ∀ {ps : Ab} {i : Nat} {l : List Kj}, Xm hp src i ps l -> Kj.var id off cts ws ∈ l ->
      ∃ k, ps[k]? = some (.pbox ws) /\ src (i + k) 0 = some (id, off)
  | [], _, _, h, hm => by
    have h : _ = [] := h
    rw[h] at hm; cases hm
  | p :: ps, i, l, h, hm => by
    have next : ∀ {l'}, Xm hp src (i + 1) ps l' -> Kj.var id off cts ws ∈ l' -> ∃ k, (p :: ps)[k]? = some (.pbox ws) /\ src (i + k) 0 = some (id, off) := by
      intro l' h' M4
      obtain⟨k, h1, h2⟩ := Ahg h' M4
      exact⟨k + 1, by simpa using h1, by rw[show i + (k + 1) = i + 1 + k by omega]; exact h2⟩
    rcases h with⟨_, _, h3⟩ | ⟨x, l', rfl, h2, h3⟩
    · exact next h3 hm
    · rcases B6.1 hm with e | hm
      · subst e
        obtain⟨h1, h4, _⟩ := h2
        subst h1
        exact⟨0, rfl, h4⟩
      · exact next h3 hm
theorem Afp{hp:Nat->Option Cb}{src:Nat->Nat->Option (Nat × Nat)}:∀{ps:Ab}{i:Nat}{l:List Kj},Xm hp src i ps l->∀k id off,i<=k->src k 0=some (id,off)->k<i+ps.length->∃p,ps[k-i]?=some p/\KZ p=true
 |[],i,_,_,k,id,off,h1,_,h3=>by simp at h3;omega
 |p::ps,i,l,h,k,id,off,h1,h2,h3=>by
  by_cases e:k=i
  ·subst e;rcases h with⟨_,h4,_⟩|⟨x,l',_,h4,_⟩
   ·rw[h2] at h4;cases h4
   ·exact⟨p,by simp,Am3 h4⟩
  ·have GL:∃l',Xm hp src (i+1) ps l':=by
    rcases h with⟨_,_,h3⟩|⟨x,l',_,_,h3⟩<;>exact⟨_,h3⟩
   obtain⟨l',h'⟩:=GL;obtain⟨q,h5,h6⟩:=Afp h' k id off (by omega) h2 (by simp at h3;omega)
   refine⟨q,?_,h6⟩;rw[show k-i=(k-(i+1))+1 by omega]
   simpa using h5
theorem Rs.len{bt:PA}:∀{ps:Ab}{us:List Value}{i:Nat},Rs w A bt i ps us->ps.length=us.length
 |[],[],_,_=>rfl
 |[],_::_,_,h=>h.elim
 |_::_,[],_,h=>h.elim
 |_::_,_::_,_,h=>by simp[Rs.len h.2]
theorem Afm(h:Cj N w0 X0 Y β s a w){G:Zg}(Ks:QL P G w0 X0){C:Kk}{call:Bp}(Dl:∀f args res,call f args=some res->Do G P f args res){c:Call}{f:FuncId}(ho:o.op=.call c)(hc:c.callee=.value (.func f)){K:St->Option R}(hk:MT C P N call s o f c K=some r):
  ∃s',K s'=some r/\∀(next:Act->World->Prop) (Q:Exit->Act->World->Prop),(∀a' w' β',Cj N w0 X0 Y β' s' a' w'->next a' w')->o.wp P a w next Q:=by
 unfold MT at hk;obtain⟨vs0,m,x,l,src,E9,hm,hx,hS,hL,Fz⟩:=Abl h hk;obtain⟨hb,Hl⟩:=Az E9;simp only[G8] at hb;obtain⟨⟨⟨XJ,A1j⟩,hN⟩,Apl⟩:=hb;have hN:0<N:=Nat.lt_of_succ_le (Xx hN);obtain⟨hnl,hnx,hlx⟩:=Ng XJ
 have hml:∀i∈m,i ∉ l.flatMap Kj.ids/\i ∉ x:=by
  intro i hi;have:=List.all_eq_true.1 A1j i hi
  have hn:∀k∈l.flatMap Kj.ids++x,i≠k:=by
   rintro k hk rfl
   have h2:(l.flatMap Kj.ids++x).any (Nat.beq i)=true:=List.any_eq_true.2 ⟨i,hk,Pu i⟩;rw[h2] at this;cases this
  exact⟨fun hq=>hn i (by simp only[Bz];exact .inl hq) rfl,fun hq=>hn i (by simp only[Bz];exact .inr hq) rfl⟩
 replace hL:=AY (C.kz f) (xs:=c.args.toList) hL
 replace Fz:=fun fz h1 h2 bt HX=>JO (a:=a) (C.kz f) (Fz fz h1 h2 bt HX)
 generalize O9 (C.kz f) c.args.toList vs0=vs at Hl Fz hL;obtain⟨rv,ro,BW,Xn⟩:=ZD Hl;obtain⟨ws,bs,Xq,hwl,hnt,SD,hrs,hri,hws⟩:=MZ (C.shr f) N Xn;obtain⟨Ye,hk5⟩:=Az Xq;obtain⟨lids,XT⟩:∃lids,l.flatMap Kj.ids=lids:=⟨_,rfl⟩
 rw[XT] at hS hnl hlx hml;have A76:∀i,i ∉ x->DB (Al s.hp m) x i=Al s.hp m i:=fun i hi=>by rw[Jf,A5 hi]
 have Ama:∀i,i∈lids->DB (Al s.hp m) x i=s.hp i:=fun i hi=>by
  rw[A76 i (hlx i hi),C5,A5 (fun hq=>(hml i hq).1 hi)]
 have hLM:Xm (DB (Al s.hp m) x) src 0 vs l:=JW (fun i hi=>Ama i (XT ▸ hi)) hL;obtain⟨Di,bs',qs,hk6,hbq,YV,RZ,Jq,Rl,hsh,Adh⟩:=CN (β:=β) (j:=Vu rv) hk5 hLM (by rw[XT];exact hnl)
 obtain⟨Xr,hk7⟩:=Az hk6;refine⟨_,hk7,fun next Q hn=>?_⟩;clear hk E9 Hl Xn Xq hk5 hk6 hk7;rw[XT] at Rl;obtain⟨⟨fn,hfn,hfb⟩,hcs⟩:=Dl f vs _ BW;have hf:=h.freeze hm;have Ap4:=SO hL;rw[XT] at Ap4
 have YY:∀i,i∈lids\/i∈x->Al s.hp m i=s.hp i:=by
  intro i hi;rw[C5,A5];intro hq;rcases hi with hi|hi
  ·exact (hml i hq).1 hi
  ·exact (hml i hq).2 hi
 have JK:∀i,i∈lids\/i∈x->C8 (s.hp i):=by
  intro i hi;rcases hi with hi|hi
  ·exact (Ap4 i hi).1
  ·obtain⟨cc,hcc⟩:=hx i hi;rw[hcc];trivial
 have A7p:∀i j id off,src i j=some (id,off)->id∈lids\/id∈x:=by
  intro i j id off hs;cases j with
  |zero=>exact .inl (hS.lent i id off hs)
  |succ j=>exact .inr (hS.mvd i j id off hs).2
 obtain⟨bt,HX⟩:∃bt:PA,∀i j,bt i j=(src i j).bind (Kr β):=⟨_,fun _ _=>rfl⟩
 have btS:∀{i j b ob},bt i j=some (b,ob)->∃id off o',src i j=some (id,off)/\β id=some (b,o')/\ob=o'+off/\(id∈lids\/id∈x):=by
  intro i j b ob hb;rw[HX] at hb;cases hs:src i j with
  |none=>rw[hs] at hb;cases hb
  |some q=>
   rw[hs] at hb;obtain⟨id,off⟩:=q;simp only[Option.bind_some,Kr] at hb;cases hβ:β id with
   |none=>rw[hβ] at hb;cases hb
   |some p=>
    rw[hβ] at hb;obtain⟨b',o'⟩:=p;simp only[Option.map_some,Option.some.injEq,Prod.mk.injEq] at hb;obtain⟨rfl,rfl⟩:=hb;exact⟨id,off,o',rfl,hβ,rfl,A7p i j id off hs⟩
 have btX:∀{b},BtX bt b->∃id o',β id=some (b,o')/\(id∈lids\/id∈x):=by
  rintro b ⟨i,j,ob,hb⟩
  obtain⟨id,off,o',_,h2,_,h4⟩:=btS hb;exact⟨id,o',h2,h4⟩
 have hBA:∀b,BtX bt b->GY s.hp β b:=fun b hb=>by
  obtain⟨id,o',h1,h2⟩:=btX hb;exact⟨id,o',JK id h2,h1⟩
 obtain⟨Yc,hYc⟩:∃Yc:Nat->Prop,∀b,Yc b↔((∃id ob,C8 (Al s.hp m id)/\β id=some (b,ob)/\id ∉ lids/\id ∉ x)\/Y b):=⟨_,fun _=>Iff.rfl⟩
 have Hr:vs.length=c.args.toList.length:=by
  have:=(Fz m (fun _ hi=>hi) hm bt HX).len
  simpa using this
 have Bbd:Ins w Yc bt vs (c.args.toList.map a.eval):=by
  refine⟨fun b hb=>?_,fun b hb hB=>?_,fun b hB=>?_,fun i j i' j' b ob ob' hb J8=>?_,fun i q hq=>?_,?_⟩
  ·rcases (hYc b).1 hb with⟨id,ob,hl,hβ,_⟩|hY
   ·exact hf.blt id b ob (D7 hl) hβ
   ·exact Jm (h.Ylt b hY) h.fr.step.size
  ·obtain⟨id',o',h1,h2⟩:=btX hB;rcases (hYc b).1 hb with⟨id,ob,hl,hβ,h3,h4⟩|hY
   ·have:=hf.inj id id' b ob o' hl (by show C8 (Al s.hp m id');rw[YY id' h2];exact JK id' h2) hβ h1
    subst this;rcases h2 with h2|h2
    ·exact h3 h2
    ·exact h4 h2
   ·exact h.Yx b hY ⟨id',o',JK id' h2,h1⟩
  ·obtain⟨id',o',h1,h2⟩:=btX hB;exact h.blt id' b o' (D7 (JK id' h2)) h1
  ·obtain⟨id,off,o1,h1,h2,_,h4⟩:=btS hb;obtain⟨id',off',o1',ZY,h2',_,h4'⟩:=btS J8;have:=h.inj id id' b o1 o1' (JK id h4) (JK id' h4') h2 h2';subst this;cases j with
   |zero=>
    cases j' with
    |zero=>exact⟨hS.inj0 hnl i i' id off off' h1 ZY,rfl⟩
    |succ j'=>exact absurd (hS.mvd i' j' id off' ZY).2 (hlx id (hS.lent i id off h1))
   |succ j=>
    cases j' with
    |zero=>exact absurd (hS.mvd i j id off h1).2 (hlx id (hS.lent i' id off' ZY))
    |succ j'=>
     obtain⟨h5,h6⟩:=hS.inj1 hnx i i' j j' id off off' h1 ZY;exact⟨h5,by rw[h6]⟩
  ·obtain⟨b,ob⟩:=q;obtain⟨id,off,o',h1,_⟩:=btS hq;obtain⟨p,hp,h2⟩:=Afp hL i id off (Nat.zero_le _) h1 (by have:=hS.dom i 0 _ h1;rw[Hr];exact this.2)
   exact⟨p,by simpa using hp,h2⟩
  ·refine (Fz m (fun _ hi=>hi) hm bt HX).weak fun b _ hb=>?_;rcases hb with hb|hb
   ·obtain⟨id',o',h1,h2⟩:=btX hb;exact .inl ⟨id',o',by rw[YY id' h2];exact JK id' h2,h1⟩
   ·rcases (hYc b).1 hb with⟨id,ob,hl,hβ,_⟩|hY
    ·exact .inl ⟨id,ob,hl,hβ⟩
    ·exact .inr hY
 unfold Oper.wp;rw[KM ho hc Ks.ng hfn hfb];show Calls P f _ w _;have hca:c.args.map a.eval=(c.args.toList.map a.eval).toArray:=by rw[<-List.map_toArray,Array.toArray_toList]
 rw[hca];refine (hcs w Yc bt _ Bbd (Ks.fr w h.fr) (fun b x=>⟨Jm (Ks.y b x).1 h.fr.step.size,fun hB=>(h.ownd b (hBA b hB)).elim (Ks.y b x).2 (fun ET=>absurd (Ks.y b x).1 (Nat.not_lt.2 ET))⟩)).mono ?_
 rintro e w' ⟨us,own,rfl,out⟩
 obtain⟨ha1,ha2⟩:=Cl Xr;obtain⟨hg1,hg2⟩:=Gy (hp:=Di) ha2;have Aik:=Z5 Xr;rw[List.map_append,List.nodup_append] at Aik;obtain⟨Ber,A7e,A9e⟩:=Aik;rw[hbq] at A7e
 obtain⟨β1,hβ1,hβ2⟩:∃β1:Bt,(∀i,(∃bx,(i,bx)∈bs)->β1 i=own ((i-o.dst.getD N) / N))/\∀i,(¬∃bx,(i,bx)∈bs)->β1 i=match FY qs i with|some j=>own j|none=>β i:=by
  refine⟨fun i=>if (bs.any fun q=>Nat.beq q.1 i)=true then own ((i-o.dst.getD N) / N) else match FY qs i with|some j=>own j|none=>β i,fun i hi=>?_,fun i hi=>?_⟩
  ·show (if _ then _ else _)=_;rw[Bq (Ac2.2 hi)]
  ·show (if _ then _ else _)=_;rw[A5 (fun hq=>hi (Ac2.1 hq))]
 have hβbs:∀j,(∃bx,(o.dst.getD N+N*j,bx)∈bs)->β1 (o.dst.getD N+N*j)=own (0+j):=by
  intro j hj;rw[hβ1 _ hj,Nat.add_sub_cancel_left,Nat.mul_div_cancel_left _ hN,Cm]
 have hqb:∀q∈qs,∃bx,(q.1,bx)∈bs':=by
  intro q hq;have:q.1∈bs'.map (·.1):=by rw[hbq];exact List.mem_map_of_mem hq
  obtain⟨⟨i,bx⟩,hm,e⟩:=List.mem_map.1 this;exact⟨bx,e ▸ hm⟩
 have Bbe:∀i bx,(i,bx)∈bs'->∃j,(i,j)∈qs:=by
  intro i bx hm;have:i∈qs.map (·.1):=by rw[<-hbq];exact List.mem_map.2 ⟨_,hm,rfl⟩
  obtain⟨⟨i',j⟩,hm,e⟩:=List.mem_map.1 this;exact⟨j,e ▸ hm⟩
 have hbb:∀i,(∃bx,(i,bx)∈bs')->¬∃bx,(i,bx)∈bs:=by
  rintro i ⟨bx,hm⟩ ⟨bx',M4⟩
  exact A9e i (List.mem_map.2 ⟨_,M4,rfl⟩) i (List.mem_map.2 ⟨_,hm,rfl⟩) rfl
 have hβqs:∀q∈qs,β1 q.1=own q.2:=by
  intro q hq;rw[hβ2 q.1 (hbb q.1 (hqb q hq)),Aqm A7e q hq]
 have hβold:∀i,Di i≠none->β1 i=β i:=by
  intro i hi
  have hn1:¬∃bx,(i,bx)∈bs:=by
   rintro⟨bx,hm⟩
   exact hi (ha1 i bx (Bz.2 (.inl hm)))
  rw[hβ2 i hn1,Ahw];intro hm;obtain⟨q,hq,e⟩:=List.mem_map.1 hm;obtain⟨bx,Pr⟩:=hqb q hq;exact hi (ha1 i bx (Bz.2 (.inr (e ▸ Pr))))
 obtain⟨Xl,hba⟩:=hws w' _ own β1 w.heap.size 0 us hβbs out.vals;obtain⟨Bbn,A7d⟩:=Adh w' _ own β1 bt hβqs (fun i=>HX i 0) out.outs
 have A0t:∀id∈lids,∃y∈l,id∈y.ids:=by
  intro id B5;rw[<-XT] at B5;exact List.mem_flatMap.1 B5
 have Azd:∀id∈lids,(∃off c cs,s.hp id=some (.st c)/\Di id=some (.st (Bx c cs off))/\off+cs.length<=c.length/\(∀p∈cs,∀i∈A9 p,∃bx,(i,bx)∈bs'))\/∃c cs,s.hp id=some (.ar false c)/\Di id=some (.ar false cs):=by
  intro id B5;obtain⟨y,hy,hyi⟩:=A0t id B5;have h1:=hsh y hy;cases y with
  |var id' off cts ws'=>
   simp only[Kj.ids,Mv] at hyi;subst hyi;obtain⟨c1,cs,h2,h3,h4,h5,h6⟩:=h1;rw[Ama id B5] at h2;exact .inl ⟨off,c1,cs,h2,h3,h5,h6⟩
  |row id'=>
   simp only[Kj.ids,Mv] at hyi;subst hyi;obtain⟨c1,cs,h2,h3⟩:=h1;rw[Ama id B5] at h2;exact .inr ⟨c1,cs,h2,h3⟩
  |none=>simp[Kj.ids] at hyi
 have Bac:∀id∈lids,Di id≠none:=by
  intro id B5;rcases Azd id B5 with⟨_,_,_,_,h2,_⟩|⟨_,_,_,h2⟩<;>rw[h2]<;>simp
 have hpK:∀id,id ∉ lids->Di id=DB (Al s.hp m) x id:=fun id B5=>Rl id B5
 have Mz:∀i,s.hp i≠none->Di i≠none:=by
  intro i hi;by_cases hl:i∈lids
  ·exact Bac i hl
  ·rw[hpK i hl,Jf];have h1:Al s.hp m i≠none:=fun e=>hi (Gb.1 e);split
   ·cases hq:Al s.hp m i with
    |none=>exact absurd hq h1
    |some b=>simp
   ·exact h1
 have Aw5:∀i,(s.hp i≠none\/∃bx,(i,bx)∈bs++bs')->Bf Di (bs++bs') i≠none:=by
  rintro i (hi|⟨bx,hm⟩)
  ·have h1:=Mz i hi;rw[hg2 i (fun bx hm=>h1 (ha1 i bx hm))];exact h1
  ·rw[hg1 i bx hm];simp
 have K8:∀id,(∃bx,(id,bx)∈bs++bs')\/Bf Di (bs++bs') id=Di id:=fun id=>by
  by_cases hx:∃bx,(id,bx)∈bs++bs'
  ·exact .inl hx
  ·exact .inr (hg2 id fun bx hb=>hx ⟨bx,hb⟩)
 have hold:∀id bx,Di id=some bx->C8 (some bx)->C8 (s.hp id)/\id ∉ x/\(id∈lids\/(id ∉ lids/\Al s.hp m id=some bx)):=by
  intro id bx hb hl;by_cases B5:id∈lids
  ·exact⟨JK id (.inl B5),hlx id B5,.inl B5⟩
  ·rw[hpK id B5,Jf] at hb;split at hb
   ·cases hq:Al s.hp m id with
    |none=>rw[hq] at hb;cases hb
    |some b=>rw[hq] at hb;simp at hb;subst hb;exact hl.elim
   ·rename_i hxn;exact⟨by rw[Oa hb hl];exact hl,hxn,.inr ⟨B5,hb⟩⟩
 have IM:∀i bx,(i,bx)∈bs++bs'->∃j,β1 i=own j/\((i=o.dst.getD N+N*j/\j<Vu rv)\/((i,j)∈qs/\Vu rv<=j)):=by
  intro i bx hm;rcases Bz.1 hm with hm|hm
  ·obtain⟨⟨j,rfl,hj⟩,_⟩:=hba i bx hm;exact⟨j,by rw[hβbs j ⟨bx,hm⟩,Cm],.inl ⟨rfl,hj⟩⟩
  ·obtain⟨j,hj⟩:=Bbe i bx hm;exact⟨j,hβqs _ hj,.inr ⟨hj,(YV _ hj).2⟩⟩
 have A0c:∀i bx,(i,bx)∈bs++bs'->C8 (some bx)/\Yi w' (VV bt own Yc) β1 i bx/\∀cs,bx=.st cs->∀b ob,β1 i=some (b,ob)->w.heap.size<=b:=by
  intro i bx hm;rcases Bz.1 hm with hm|hm
  ·exact (hba i bx hm).2
  ·obtain⟨cc,rfl⟩:=Jq i bx hm;exact⟨trivial,Bbn i _ hm,fun cs e=>by cases e⟩
 have A4b:∀b,(∃i k o',bt i (k+1)=some (b,o'))->∃id o',id∈x/\β id=some (b,o'):=by
  rintro b ⟨i,k,o',hb⟩
  obtain⟨id,off,o1,h1,h2,_,_⟩:=btS hb;exact⟨id,o1,(hS.mvd i k id off h1).2,h2⟩
 have hX:∀b,b<w.heap.size->GY (Bf Di (bs++bs')) β1 b->GY s.hp β b:=by
  rintro b hb ⟨id,ob,hl,hβ⟩
  rcases K8 id with⟨bx,hm⟩|e
  ·obtain⟨j,hj,_⟩:=IM id bx hm;rw[hj] at hβ;obtain⟨id',o',h1,h2⟩:=A4b b ((out.fresh j b ob hβ).2 hb).1;exact⟨id',o',JK id' (.inr h1),h2⟩
  ·rw[e] at hl;cases hq:Di id with
   |none=>rw[hq] at hl;exact hl.elim
   |some bx=>
    rw[hq] at hl;exact⟨id,ob,(hold id bx hq hl).1,by rw[<-hβold id (by rw[hq];simp)];exact hβ⟩
 have hAo:∀b,b<w.heap.size->D2 (Bf Di (bs++bs')) β1 Y b->D2 s.hp β Y b:=fun b hb hA=>hA.imp (hX b hb) id
 have hAO:∀b,D2 (Bf Di (bs++bs')) β1 Y b->VV bt own Yc b:=by
  rintro b (⟨id,ob,hl,hβ⟩|hY)
  ·rcases K8 id with⟨bx,hm⟩|e
   ·obtain⟨j,hj,_⟩:=IM id bx hm;rw[hj] at hβ;exact .inl ⟨j,ob,hβ⟩
   ·rw[e] at hl;cases hq:Di id with
    |none=>rw[hq] at hl;exact hl.elim
    |some bx=>
     rw[hq] at hl;rw[hβold id (by rw[hq];simp)] at hβ
     obtain⟨h1,h2,h3⟩:=hold id bx hq hl;rcases h3 with h3|⟨h3,h4⟩
     ·obtain⟨_,i,off,hs⟩:=Ap4 id h3;exact .inr (.inl ⟨i,ob+off,by rw[HX,hs];simp[Kr,hβ]⟩)
     ·exact .inr (.inr ((hYc b).2 (.inl ⟨id,ob,by rw[h4];exact hl,hβ,h3,h2⟩)))
  ·exact .inr (.inr ((hYc b).2 (.inr hY)))
 have Hc:C6 (D2 s.hp β Y) w w':=out.ext.weaken (fun b _ hb=>.inl (hBA b hb));have Ay9:∀i,s.hp i≠none->β1 i=β i:=fun i hi=>hβold i (Mz i hi)
 have hCL:∀b j,YW bt vs b j->∃id o' bx,s.hp id=some bx/\C8 (some bx)/\β id=some (b,o')/\BR bx o' j:=by
  rintro b j ⟨i,p,hp,⟨k,ob,hb,ET⟩|⟨ob,ps,hb,ET,RE⟩⟩
  ·obtain⟨id,off,o',h1,h2,h3,_⟩:=btS hb;obtain⟨h5,h6⟩:=hS.mvd i k id off h1;obtain⟨cc,hcc⟩:=hx id h6;exact⟨id,o',_,hcc,trivial,h2,show o'<=j by omega⟩
  ·obtain⟨id,off,o',h1,h2,h3,_⟩:=btS hb;rcases At4 hL i p id off hp (by rw[Cm];exact h1) with⟨c1,wz,h5,h6,h7⟩|⟨⟨c1,h5⟩,_⟩
   ·rcases RE with⟨h8,h9⟩|h8
    ·rw[h6] at h8;cases h8;exact⟨id,o',_,h5,trivial,h2,show o'<=j/\j<o'+c1.length by omega⟩
    ·rw[h6] at h8;cases h8
   ·exact⟨id,o',_,h5,trivial,h2,show o'<=j by omega⟩
 have hnL:∀id off cts wz,Kj.var id off cts wz∈l->id∈lids->∀b ob,β id=some (b,ob)->∀j,(j<off\/off+wz.length<=j)->(∃c1,s.hp id=some (.st c1))->¬YW bt vs b (ob+j):=by
  rintro id off cts wz hy B5 b ob hβ j hj ⟨c1,hc1⟩ ⟨i,p,hp,⟨k,ob',hb,ET⟩|⟨ob',ps,hb,ET,RE⟩⟩
  ·obtain⟨id',off',o',h1,h2,h3,h4⟩:=btS hb;have:=h.inj id id' b ob o' (JK id (.inl B5)) (JK id' h4) hβ h2;subst this;exact hlx id B5 (hS.mvd i k id off' h1).2
  ·obtain⟨id',off',o',h1,h2,h3,h4⟩:=btS hb;have:=h.inj id id' b ob o' (JK id (.inl B5)) (JK id' h4) hβ h2;subst this;rw[hβ] at h2;cases h2;obtain⟨k,E9,Hl⟩:=Ahg hL hy;rw[Cm] at Hl;have hik:=hS.inj0 hnl i k id off' off h1 Hl;subst hik;rw[h1] at Hl;cases Hl;rw[hp] at E9;cases E9;rcases RE with⟨h8,h9⟩|h8
   ·cases h8;omega
   ·cases h8
 have hval:Fc w' (D2 (Bf Di (bs++bs')) β1 Y) β1 (Ul ws (Ww P o.type)) (Nj us):=by
  have Zr:B9 (Jb w' (D2 (Bf Di (bs++bs')) β1 Y) β1) ws us:=Xl.mono fun v u hvu=>hvu.step (C6.refl _ _) (fun b _=>hAO b) (fun _ _=>rfl);have Hr:=Zr.len;cases hT:Ww P o.type
  ·rw[hT] at Ye;have h1:ws.length=1:=Et Ye
   match ws,us,h1,Hr with
   |[v],[u],_,_=>
    exact (Tt (hnt v (by simp))).2 Zr.1
  ·rw[hT] at Ye
   have h1:¬ws.length=1:=by
    intro e;rw[e] at Ye;cases Ye
   have hr:Nj us=.tuple ⟨us⟩:=by
    unfold Nj;split
    ·simp at Hr;omega
    ·rfl
   rw[hr];exact⟨us,rfl,Zr⟩
 have hvr:∀i∈Cn (Ul ws (Ww P o.type)),∃bx,(i,bx)∈bs:=by
  intro i hi;cases hT:Ww P o.type
  ·rw[hT] at Ye hi;have h1:ws.length=1:=Et Ye
   match ws,h1 with
   |[v],_=>
    refine hrs v (by simp) i ?_
    have:Cn v=C3 v:=by
     have hn:=hnt v (by simp);cases v<;>first|rfl|exact absurd rfl (hn _)
    rw[<-this];exact hi
  ·rw[hT] at hi;obtain⟨v,hv,hi⟩:=List.mem_flatMap.1 (show i∈ws.flatMap C3 from hi);exact hrs v hv i hi
 refine hn _ w' β1 ?_;refine⟨by rw[Lg];exact h.dfr,by rw[Ip];exact h.tsz,Acx Apl h.tmo,?_,?_,?_,?_,?_,?_,?_,?_,?_,?_,?_,h.Ylt,?_⟩
 ·refine Wz (Q:=fun _ p u=>Fc w' (D2 (Bf Di (bs++bs')) β1 Y) β1 p u) h.tsz Apl (fun i hi=>?_) (fun _=>hval);exact (h.tms i hi).step Hc hAo fun id B5=>Ay9 id (h.wfT i hi id B5)
 ·intro id bx hb;simp only at hb;rcases K8 id with⟨bx',M4⟩|e
  ·rw[hg1 id bx' M4] at hb;cases hb;exact (A0c id _ M4).2.1.step' hAO
  ·rw[e] at hb;have hβ:=hβold id (by rw[hb];simp)
   by_cases B5:id∈lids
   ·obtain⟨y,hy,hyi⟩:=A0t id B5;have h1:=A7d y hy;cases y with
    |var id' off cts wz=>
     simp only[Kj.ids,Mv] at hyi;subst hyi;obtain⟨c1,cs,h2,h3,h4,h5,h6⟩:=h1;rw[Ama id B5] at h2;rw[h3] at hb;cases hb;obtain⟨b,ob,h7,h8,h9⟩:=h.box id _ h2;obtain⟨h10,h11⟩:=h6 b ob h7;have Cq:=h.blt id b ob (by rw[h2];simp) h7
     have BK:∀j,(j<off\/off+wz.length<=j)->w'.cell? ⟨b,ob+j,none⟩=w.cell? ⟨b,ob+j,none⟩/\w'.frozen? ⟨b,ob+j,none⟩=w.frozen? ⟨b,ob+j,none⟩:=
      fun j hj=>out.rng b (ob+j) Cq (hnL id off cts wz hy B5 b ob h7 j hj ⟨c1,h2⟩)
     refine⟨b,ob,hβ.trans h7,fun j p hj=>?_,fun j hj=>?_⟩
     ·rcases Zs (by omega) hj with⟨h12,h13,h14⟩|⟨h12,h14⟩
      ·obtain⟨v,hv,hcr⟩:=h10 _ _ h14;refine⟨v,?_,hcr.step (C6.refl _ _) (fun b _=>hAO b) (fun _ _=>rfl)⟩;rw[show ob+j=ob+off+(j-off) by omega];exact hv
      ·obtain⟨v,hv,hcr⟩:=h8 _ _ h14;refine⟨v,by rw[(BK j (by omega)).1];exact hv,hcr.step Hc hAo fun i hi=>Ay9 i (h.wfB id c1 h2 p (List.mem_of_getElem? h14) i hi)⟩
     ·rw[AQ (by omega)] at hj;by_cases EN:off<=j/\j<off+cs.length
      ·have:=h11 (j-off) (by omega);rw[show ob+off+(j-off)=ob+j by omega] at this;exact this
      ·rw[(BK j (by omega)).2];exact h9 j hj
    |row id'=>
     simp only[Kj.ids,Mv] at hyi;subst hyi;obtain⟨cs,h3,h4⟩:=h1;rw[h3] at hb;cases hb;rcases h4 with⟨h5,h6⟩|⟨b,ob,h5,h6,h7⟩
     ·exact .inl ⟨hβ.trans h5,h6⟩
     ·exact .inr ⟨b,ob,hβ.trans h5,h6.weak (fun b _=>hAO b),fun _=>h7,(fun q=>by cases q)⟩
    |none=>simp[Kj.ids] at hyi
   ·rw[hpK id B5,Jf] at hb;split at hb
    ·cases hq:Al s.hp m id with
     |none=>rw[hq] at hb;cases hb
     |some b0=>rw[hq] at hb;simp at hb;subst hb;trivial
    ·rename_i hxn;have Pr:=hf.box id bx hb
     have Aue:∀b ob,β id=some (b,ob)->bx ≠ .mv->b<w.heap.size/\w'.heap[b]?=w.heap[b]?:=by
      intro b ob XC hmv;have Cq:=hf.blt id b ob (by show Al s.hp m id≠none;rw[hb];simp) XC
      refine⟨Cq,out.ext.keep b Cq fun hB=>?_⟩;obtain⟨id',o',h1,h2⟩:=btX hB;have Q2:C8 (Al s.hp m id'):=by rw[YY id' h2];exact JK id' h2
      have hno:id≠id':=by
       rintro rfl
       rcases h2 with h2|h2
       ·exact B5 h2
       ·exact hxn h2
      cases bx with
      |st cc=>exact hno (hf.inj id id' b ob o' (by show C8 (Al s.hp m id);rw[hb];trivial) Q2 XC h1)
      |ar fz cc=>
       cases fz with
       |false=>exact hno (hf.inj id id' b ob o' (by show C8 (Al s.hp m id);rw[hb];trivial) Q2 XC h1)
       |true=>
        rcases Pr with⟨h3,_⟩|⟨b2,o2,h3,_,_,h4⟩
        ·rw[XC] at h3;cases h3
        ·rw[XC] at h3;cases h3;exact h4 rfl (.inl ⟨id',o',Q2,h1⟩)
      |mv=>exact hmv rfl
     have hAoF:∀b,b<w.heap.size->D2 (Bf Di (bs++bs')) β1 Y b->D2 (Al s.hp m) β Y b:=by
      intro b Jq hA;rcases hA with⟨i,ob,hl,hβi⟩|hY
      ·rcases K8 i with⟨bx1,SX⟩|e1
       ·obtain⟨j,hj,_⟩:=IM i bx1 SX;rw[hj] at hβi;obtain⟨id',o',h1,h2⟩:=A4b b ((out.fresh j b ob hβi).2 Jq).1;exact .inl ⟨id',o',by rw[YY id' (.inr h1)];exact JK id' (.inr h1),h2⟩
       ·rw[e1] at hl;cases hq:Di i with
        |none=>rw[hq] at hl;exact hl.elim
        |some bx1=>
         rw[hq] at hl;rw[hβold i (by rw[hq];simp)] at hβi
         obtain⟨h1,h2,h3⟩:=hold i bx1 hq hl;rcases h3 with h3|⟨h3,h4⟩
         ·exact .inl ⟨i,ob,by rw[YY i (.inl h3)];exact h1,hβi⟩
         ·exact .inl ⟨i,ob,by rw[h4];exact hl,hβi⟩
      ·exact .inr hY
     have A74:C6 (D2 (Al s.hp m) β Y) w w':=out.ext.weaken (fun b _ hB=>by
      obtain⟨id',o',h1,h2⟩:=btX hB;exact .inl ⟨id',o',by rw[YY id' h2];exact JK id' h2,h1⟩)
     cases bx with
     |st cc=>
      obtain⟨b,ob,h1,h2,h3⟩:=Pr;obtain⟨Cq,IC⟩:=Aue b ob h1 (by simp);refine⟨b,ob,hβ.trans h1,fun j p hj=>?_,fun j hj=>?_⟩
      ·obtain⟨v,hv,hcr⟩:=h2 j p hj;refine⟨v,by rw[World.cell?_of_block (w:=w) IC];exact hv,hcr.step A74 hAoF fun i hi=>?_⟩
       refine Ay9 i (fun e1=>?_);exact hf.wfB id cc hb p (List.mem_of_getElem? hj) i hi (Gb.2 e1)
      ·rw[World.frozen?_of_block (w:=w) IC];exact h3 j hj
     |ar fz cc=>
      rcases Pr with⟨h1,h2⟩|⟨b,ob,h1,h2,h3,h4⟩
      ·exact .inl ⟨hβ.trans h1,h2⟩
      ·obtain⟨Cq,IC⟩:=Aue b ob h1 (by simp);have UP:bsz w' b=bsz w b:=by unfold bsz;rw[IC]
       refine .inr ⟨b,ob,hβ.trans h1,fun j p hj=>?_,fun e1 j hj BX=>?_,fun e1 q=>h4 e1 (hAoF b Cq q)⟩
       ·obtain⟨v,hv,h5,hc1⟩:=h2 j p hj;exact⟨v,by rw[World.cell?_of_block (w:=w) (by rw[Io];exact IC)];exact hv,h5,hc1.step A74 hAoF⟩
       ·rw[World.frozen?_of_block (w:=w) IC];exact h3 e1 j hj (by rw[<-UP];exact BX)
     |mv=>trivial
 ·intro id id' b ob ob' hl Q2 hb J8;simp only at hl Q2
  have mixed:∀i bx i' k z,(i,bx)∈bs++bs'->β1 i=some (k,z)->Di i'≠none->C8 (Di i')->∀z',β1 i'=some (k,z')->False:=by
   intro i bx i' k z SX hz hn1 MQ z' hz';obtain⟨j,hj,_⟩:=IM i bx SX;rw[hj] at hz;rw[hβold i' hn1] at hz';cases hq:Di i' with
   |none=>exact hn1 hq
   |some bx1=>
    rw[hq] at MQ;obtain⟨h1,h2,h3⟩:=hold i' bx1 hq MQ;have Cq:=h.blt i' k z' (D7 h1) hz';obtain⟨id2,o2,h4,h5⟩:=A4b k ((out.fresh j k z hz).2 Cq).1;have:=h.inj i' id2 k z' o2 h1 (JK id2 (.inr h4)) hz' h5;subst this;exact h2 h4
  rcases K8 id with⟨bx,SX⟩|e1
  ·rcases K8 id' with⟨bx',hm2⟩|e2
   ·obtain⟨j,hj,RE⟩:=IM id bx SX;obtain⟨j',BX,A5v⟩:=IM id' bx' hm2;rw[hj] at hb;rw[BX] at J8;have:=out.inj j j' b ob ob' hb J8;subst this;rcases RE with⟨h1,h2⟩|⟨h1,h2⟩
    ·rcases A5v with⟨h3,_⟩|⟨_,h4⟩
     ·rw[h1,h3]
     ·omega
    ·rcases A5v with⟨_,h4⟩|⟨h3,_⟩
     ·omega
     ·exact RZ _ h1 _ h3 rfl
   ·rw[e2] at Q2;exact (mixed id bx id' b ob SX hb (D7 Q2) Q2 ob' J8).elim
  ·rw[e1] at hl;rcases K8 id' with⟨bx',hm2⟩|e2
   ·exact (mixed id' bx' id b ob' hm2 J8 (D7 hl) hl ob hb).elim
   ·rw[e2] at Q2
    have g:∀i,C8 (Di i)->C8 (s.hp i)/\β1 i=β i:=by
     intro i hli;cases hq:Di i with
     |none=>rw[hq] at hli;exact hli.elim
     |some bx1=>exact⟨(hold i bx1 hq (by rw[<-hq];exact hli)).1,hβold i (by rw[hq];simp)⟩
    rw[(g id hl).2] at hb;rw[(g id' Q2).2] at J8;exact h.inj id id' b ob ob' (g id hl).1 (g id' Q2).1 hb J8
 ·intro id b ob hn1 hb;simp only at hn1;rcases K8 id with⟨bx,SX⟩|e1
  ·obtain⟨j,hj,_⟩:=IM id bx SX;rw[hj] at hb;exact (out.fresh j b ob hb).1
  ·rw[e1] at hn1;rw[hβold id hn1] at hb
   have hn2:s.hp id≠none:=by
    by_cases B5:id∈lids
    ·exact D7 (JK id (.inl B5))
    ·rw[hpK id B5,Jf] at hn1;intro e2;have h1:Al s.hp m id=none:=Gb.2 e2;rw[h1] at hn1;split at hn1<;>exact hn1 rfl
   exact Jm (h.blt id b ob hn2 hb) out.ext.size
 ·have:=Wz (Q:=fun _ p _=>∀id∈Cn p,Bf Di (bs++bs') id≠none) (val:=Nj us) (d:=o.dst) (v:=Ul ws (Ww P o.type)) h.tsz Apl (fun i hi id B5=>Aw5 id (.inl (h.wfT i hi id B5))) (fun _ id B5=>Aw5 id (.inr (by
   obtain⟨bx,hb⟩:=hvr id B5;exact⟨bx,Bz.2 (.inl hb)⟩)))
  exact this
 ·intro id cells Ab2 p hp i hi;simp only at Ab2;refine Aw5 i ?_;rcases K8 id with⟨bx,SX⟩|e1
  ·rw[hg1 id bx SX] at Ab2;cases Ab2;rcases Bz.1 SX with SX|SX
   ·obtain⟨bx1,hb⟩:=hri id cells SX p hp i hi;exact .inr ⟨bx1,Bz.2 (.inl hb)⟩
   ·obtain⟨cc,e2⟩:=Jq id _ SX;cases e2
  ·rw[e1] at Ab2;by_cases B5:id∈lids
   ·rcases Azd id B5 with⟨off,c1,cs,h1,h2,h3,h4⟩|⟨c1,cs,h1,h2⟩
    ·rw[h2] at Ab2;cases Ab2;unfold Bx at hp;rcases Bz.1 hp with hp|hp
     ·rcases Bz.1 hp with hp|hp
      ·exact .inl (h.wfB id c1 h1 p (List.mem_of_mem_take hp) i hi)
      ·obtain⟨bx1,hb⟩:=h4 p hp i hi;exact .inr ⟨bx1,Bz.2 (.inr hb)⟩
     ·exact .inl (h.wfB id c1 h1 p (List.mem_of_mem_drop hp) i hi)
    ·rw[h2] at Ab2;cases Ab2
   ·obtain⟨_,_,h3⟩:=hold id _ Ab2 trivial;rcases h3 with h3|⟨_,h3⟩
    ·exact absurd h3 B5
    ·exact .inl (h.wfB id cells (Oa h3 trivial) p hp i hi)
 ·rintro b ⟨id,ob,hl,hβ⟩
  rcases Mi b w.heap.size with Cq|hge
  ·exact h.ownd b (hX b Cq ⟨id,ob,hl,hβ⟩)
  ·exact .inr (Nat.le_trans h.fr.step.size hge)
 ·intro id bx b ob hb hl hβ Cq j hj;simp only at hb;have hlw:=Jm Cq h.fr.step.size;rcases K8 id with⟨bx',SX⟩|e1
  ·rw[hg1 id bx' SX] at hb;cases hb;obtain⟨k,hk,_⟩:=IM id bx SX;rw[hk] at hβ
   have ET:ob<=j:=by
    cases bx with
    |st cc=>exact hj.1
    |ar fz cc=>exact hj
    |mv=>exact hl.elim
   obtain⟨id2,o2,bx2,h1,h2,h3,h4⟩:=hCL b j (((out.fresh k b ob hβ).2 hlw).2 j ET);exact h.rngB id2 bx2 b o2 h1 h2 h3 Cq j h4
  ·rw[e1] at hb;rw[hβold id (by rw[hb];simp)] at hβ
   obtain⟨h1,h2,h3⟩:=hold id bx hb hl;rcases h3 with h3|⟨h3,h4⟩
   ·rcases Azd id h3 with⟨off,c1,cs,h5,h6,h7,_⟩|⟨c1,cs,h5,h6⟩
    ·rw[h6] at hb;cases hb;have hj:ob<=j/\j<ob+(Bx c1 cs off).length:=hj;rw[AQ (by omega)] at hj;exact h.rngB id _ b ob h5 trivial hβ Cq j hj
    ·rw[h6] at hb;cases hb;exact h.rngB id _ b ob h5 trivial hβ Cq j hj
   ·exact h.rngB id bx b ob (Oa h4 hl) hl hβ Cq j hj
 ·intro i hi;obtain⟨h1,h2⟩:=h.pin i hi;exact⟨Aw5 _ (.inl h1),by rw[Ay9 _ h1];exact h2⟩
 ·intro id cc b ob hb hβ Cq;simp only at hb;have hlw:=Jm Cq h.fr.step.size;rcases K8 id with⟨bx',SX⟩|e1
  ·rw[hg1 id bx' SX] at hb;cases hb;have:=(A0c id _ SX).2.2 cc rfl b ob hβ;omega
  ·rw[e1] at hb;rw[hβold id (by rw[hb];simp)] at hβ
   obtain⟨h1,h2,h3⟩:=hold id _ hb trivial;rcases h3 with h3|⟨h3,h4⟩
   ·rcases Azd id h3 with⟨off,c1,cs,h5,h6,h7,_⟩|⟨c1,cs,h5,h6⟩
    ·exact h.stp id c1 b ob h5 hβ Cq
    ·rw[h6] at hb;cases hb
   ·exact h.stp id cc b ob (Oa h4 trivial) hβ Cq
 ·intro b hY hXb;exact h.Yx b hY (hX b (Jm (h.Ylt b hY) h.fr.step.size) hXb)
 ·refine⟨out.os.trans h.fr.os,out.tape.trans h.fr.tape,out.output.trans h.fr.output,⟨Nat.le_trans h.fr.step.size out.ext.size,fun b hb hnX=>?_,fun b hb=>Nat.le_trans (h.fr.step.bs b hb) (out.ext.bs b (Jm hb h.fr.step.size))⟩,fun b j hb hnL=>?_⟩
  ·rw[out.ext.keep b (Jm hb h.fr.step.size) ?_]
   ·exact h.fr.step.keep b hb hnX
   ·intro hB;rcases h.ownd b (hBA b hB) with hq|hq
    ·exact hnX hq
    ·omega
  ·have hno:¬YW bt vs b j:=by
    intro hq;obtain⟨id2,o2,bx2,h1,h2,h3,h4⟩:=hCL b j hq;exact hnL (h.rngB id2 bx2 b o2 h1 h2 h3 hb j h4)
   obtain⟨h1,h2⟩:=out.rng b j (Jm hb h.fr.step.size) hno;rw[h1,h2];exact h.fr.rng b j hb hnL
end
open Go.RowKit
section
variable {R:Type}{r:R}{P:Program}{N:Nat}{w0:World}{X0:Gn}{Y:Nat->Prop}{β β':Bt}{s:St}{a:Act}{w w':World}{o:Oper}{A:Nat->Prop}
theorem Abt(h:Cj N w0 X0 Y β s a w){c:Call}(ho:o.op=.call c)(hc:c.callee=.builtin .append){d:Nat}(Apl:o.dst=some d){b x:Operand}(Fz:c.args.toList=[b,x]){t tx:TypeId}{ts:List TypeId}(RN:c.argTypes.toList=t::tx::ts){K:St->Option R}(hk:Wx P N s d t tx (Db s.tm b) (Db s.tm x) K=some r):
  ∃s',K s'=some r/\∀(next:Act->World->Prop) (Q:Exit->Act->World->Prop),(∀a' w' β',Cj N w0 X0 Y β' s' a' w'->next a' w')->o.wp P a w next Q:=by
 have WB:c.args = #[b,x]:=by
  have:c.args=([b,x]:List Operand).toArray:=by rw[<-Fz]
  exact this
 have Ahx:c.argTypes=(t::tx::ts).toArray:=by rw[<-RN]
 have run:∀{v:Value} {w1:World},(Builtin.append_ (t::tx::ts).toArray o.type #[a.eval b,a.eval x]).run P w=.ok v w1->∀(next:Act->World->Prop) (Q:Exit->Act->World->Prop),next (a.put (some d) v) w1->o.wp P a w next Q:=by
  intro v w1 hr next Q hn;unfold Oper.wp execOp;rw[ho];simp only[resolve,hc,invoke,builtin,Sem.run_bind,Sem.run_pure,Result.andThen_ok,WB,Ahx];have:(#[b,x]:Array Operand).map a.eval = #[a.eval b,a.eval x]:=by simp
  rw[this,hr];show next (a.put o.dst v) w1;rw[Apl];exact hn
 have hbv:=Er h b;have hbr:=Hz h b;unfold Wx at hk;split at hk
 ·rename_i e hu;obtain⟨hzi,hk⟩:=Az hk;obtain⟨i,z,hi,hz,hzs,Kz⟩:=UM hzi;cases hit:JG P tx
  rotate_left
  ·rw[hit] at hk;simp only[cond_true] at hk
   obtain⟨ki,htx⟩:∃k,P.underlying tx=some (.int k):=by
    unfold JG at hit;split at hit
    ·exact⟨_,by assumption⟩
    ·cases hit
   unfold CU at hk;obtain⟨kx,n,hx,hk⟩:=Fa hk;obtain⟨zz,n',c',hk,hp⟩:=Iy hk;obtain⟨hb,hk⟩:=Az hk;simp only[G8,MR] at hb;obtain⟨⟨⟨⟨⟨hzz,hdN⟩,JD⟩,SE⟩,hby⟩,hnm⟩:=hb;have hdN:d<N:=Nat.lt_of_succ_le (Xx hdN);have JD:s.hp d=none:=by simpa using JD
   have Ajj:Jt N (some d)=true:=by simp[Jt,Nat.blt];omega
   have BZ:((P.info? e).map (·.bytes)).getD 0=i.bytes:=by rw[hi];rfl
   rw[BZ] at hby;rw[Kz] at hk;have Ez:=D3 h hx;rcases slice_form hp hbv with⟨Xr,_⟩|⟨_,_,_,UV,_⟩|⟨_,_,_,UV,_⟩
   ·refine⟨_,hk,fun next Q hn=>?_⟩;by_cases hm0:n=0
    ·subst hm0;have hr:=NY (P:=P) (w:=w) (t:=t) (tx:=tx) (ty:=o.type) (ts:=ts) (kx:=kx) hu htx hi;rw[<-Xr,<-Ez] at hr;refine run hr next Q (hn _ _ (Dz β d none) ?_);rw[Xr];refine h.stepR (d:=some d) (nw:=[(d,.ar false [])]) (β':=Dz β d none) Ajj (by simp[C1,JD]) ⟨rfl,rfl,rfl,C6.refl _ _,fun j hj=>Aw _ _ (by rintro rfl;exact hj JD),?_,?_,?_,?_,?_,.inl ⟨A8 _ _ _,rfl,rfl,none,rfl⟩,?_⟩
     ·intro j bx hm;simp at hm;rw[hm.2];trivial
     ·intro j bx hm;simp at hm;obtain⟨rfl,rfl⟩:=hm;exact .inl ⟨A8 _ _ _,rfl⟩
     ·intro j bx k q hm hq;simp at hm;obtain⟨rfl,rfl⟩:=hm;rw[A8] at hq;cases hq
     ·intro j bx j' bx' k q q' hm M4 _ _;simp at hm M4;rw[hm.1,M4.1]
     ·intro j cells hm;simp at hm
     ·intro j hj;simp[Cn,C3,A9] at hj;subst hj;exact .inr ⟨.ar false [],by simp⟩
    ·have hr:=RW (P:=P) (w:=w) (t:=t) (tx:=tx) (ty:=o.type) (ts:=ts) (kx:=kx) hu htx hi hz (n:=n) (by omega) hby hnm;rw[<-Xr,<-Ez] at hr;refine run hr next Q (hn _ _ (Dz β d (some (w.heap.size,0))) ?_);have hge:n.toNat<=grownCap w n.toNat 0 e:=grownCap_ge w n.toNat 0 e;generalize hcs:((if n.toNat*i.size=0 then #[] else Builtin.zeroCells z.cells n.toNat)++Builtin.zeroCells z.cells (grownCap w n.toNat 0 e-n.toNat))=cs
     have II:Jw w (w.drew.alloc (.cells cs e)) cs e:=
      ⟨rfl,rfl,rfl,fun k hk=>Below.heap_alloc w.drew _ k hk,by show (w.heap.push _).size=_;simp,(0,0),by show (w.heap.push _)[w.heap.size]?=_;simp,.inl rfl⟩
     have Ajm:cs.size=grownCap w n.toNat 0 e*i.size:=by
      rw[<-hcs];by_cases TU:n.toNat*i.size=0
      ·rw[Bq TU]
       have hi0:i.size=0:=by
        rcases Nat.mul_eq_zero.1 TU with h|h
        ·omega
        ·exact h
       simp[size_zeroCells,hzs,hi0]
      ·rw[A5 TU];simp only[Array.size_append,size_zeroCells,hzs,<-Nat.add_mul]
       congr 1
       omega
     refine h.stepR (d:=some d) (nw:=[(d,.ar false [])]) Ajj (by simp[C1,JD]) (X6 II JD trivial ?_ (fun cells hx=>by cases hx) ?_ (by intro j hj;simp[Cn,C3,A9] at hj;exact .inr hj))
     ·refine .inr ⟨w.heap.size,0,A8 _ _ _,fun j p hj=>by simp at hj,fun _ j _ hj=>?_,(fun q=>by cases q)⟩;rw[II.bsz] at hj;exact II.frozen hj
     ·refine .inr ⟨w.heap.size,0,0,grownCap w n.toNat 0 e,A8 _ _ _,rfl,.inl rfl,hge,?_,by rw[II.size];omega⟩
      rw[II.bsz,Ajm];omega
   ·rw[UV] at hzz;cases hzz
   ·rw[UV] at hzz;cases hzz
  rw[hit] at hk;simp only[cond_false] at hk;have BZ:((P.info? e).map (·.bytes)).getD 0=i.bytes:=by rw[hi];rfl
  obtain⟨⟨dx,hdx,Agm⟩,m,new,news,hk,hs⟩:=VM h hk (by
   intro m new hk;split at hk
   ·split at hk
    ·obtain⟨hb,_⟩:=Az hk;simp only[G8,MR] at hb;have he:=Et hb.1.1.1.1.1.1.1;rw[<-he];exact hb.1.1.2
    ·cases hk
   ·obtain⟨zz,n',c',hk,_⟩:=Iy hk;obtain⟨hb,_⟩:=Az hk;simp only[G8,MR] at hb;exact hb.1.1.2)
  rw[Kz] at hs;have hnl:new.length=news.length:=hs.rep.len;split at hk
  ·rename_i id es off n eb;rw[eb] at hbv hbr;split at hk
   ·rename_i cc h0;obtain⟨hb,Hl⟩:=Az hk;simp only[G8,MR] at hb;obtain⟨⟨⟨⟨⟨⟨⟨QD,Xe⟩,hdN⟩,JD⟩,A9d⟩,Amx⟩,hby⟩,hnm⟩:=hb;have QD:=Et QD;have Xe:=Et Xe;have hdN:d<N:=Nat.lt_of_succ_le (Xx hdN);have JD:s.hp d=none:=by simpa using JD
    subst Xe;rw[Kz] at QD;subst QD;rw[BZ] at hby;have OV:news.length=m*i.size:=by omega
    have Bd4:s.hp id≠none:=by rw[h0];simp
    have Am9:=h.box id _ h0;refine⟨_,Hl,fun next Q hn=>?_⟩
    have grow:∀(ad:Option Addr) (cap:Nat) (olds:List Value),a.eval b=.slice ad n cap->B9 (Bd w (D2 s.hp β Y)) (cc.take (n*i.size)) olds->(∀u∈olds,u.oneCell'=true)->olds.length=n*i.size ->
      ((ad=none/\olds=[])\/∃p,ad=some p/\olds.length=n*i.size/\∀(j:Nat) v,olds[j]?=some v->w.cell? (p.add j)=some v)->cap<n+m->o.wp P a w next Q:=by
     intro ad cap olds Xr holds h1 hol hold RH;have hr:=Sk (P:=P) (w:=w) (t:=t) (tx:=tx) (ty:=o.type) (ts:=ts) hu hdx Agm hi hz hs hold RH hby hnm;rw[<-Xr] at hr;refine run hr next Q (hn _ _ (Dz β d (some (w.heap.size,0))) ?_);have hge:n+m<=grownCap w (n+m) cap e:=grownCap_ge w (n+m) cap e
     have II:Jw w (w.drew.alloc (.cells (olds.toArray++news.toArray++Builtin.zeroCells z.cells (grownCap w (n+m) cap e-(n+m))) e)) (olds.toArray++news.toArray++Builtin.zeroCells z.cells (grownCap w (n+m) cap e-(n+m))) e:=
      ⟨rfl,rfl,rfl,fun k hk=>Below.heap_alloc w.drew _ k hk,by show (w.heap.push _).size=_;simp,(0,0),by show (w.heap.push _)[w.heap.size]?=_;simp,.inl rfl⟩
     have Ajm:(olds.toArray++news.toArray++Builtin.zeroCells z.cells (grownCap w (n+m) cap e-(n+m))).size=grownCap w (n+m) cap e*i.size:=by
      simp only[Array.size_append,List.size_toArray,size_zeroCells,hzs,hol,OV,<-Nat.add_mul]
      congr 1
      omega
     have hbo:∀k y,some (w.heap.size,0)=some (k,y)->w.heap.size<=k\/∃q,β id=some (k,q):=by
      intro k y hh;simp at hh;exact .inl (by omega)
     refine h.move h0 JD hdN rfl rfl rfl (by rw[II.size];omega) (fun k hk _=>II.old k hk) II.step.bs (fun k y hh=>⟨by simp at hh;rw[II.size];omega,hbo k y hh⟩) (fun k y hh Cq=>by simp at hh;omega)
      (fun k y _ Cq j _=>⟨World.cell?_of_block (w:=w) (II.old k Cq),World.frozen?_of_block (w:=w) (II.old k Cq)⟩) ?_ ?_ (by intro j hj;simpa [Cn,C3,A9] using hj)
     ·refine .inr ⟨w.heap.size,0,A8 _ _ _,WV II (Ai9 h0 JD hbo) holds hs.rep h1 hs.one,fun _ j _ hj=>?_,(fun q=>by cases q)⟩;rw[II.bsz] at hj;exact II.frozen hj
     ·refine .inr ⟨w.heap.size,0,0,grownCap w (n+m) cap e,A8 _ _ _,rfl,.inl rfl,hge,?_,by rw[II.size];omega⟩
      rw[II.bsz,Ajm];omega
    rcases hbv with⟨hβ,_,rfl,ad,Xr⟩|⟨bb,ob,y,cap,hβ,Xr,hy,A7w,RH,A73⟩
    ·rcases Am9 with⟨_,rfl⟩|⟨b',o',Jq,_⟩
     ·by_cases hm0:m=0
      ·subst hm0;have hr:=Se (P:=P) (w:=w) (t:=t) (tx:=tx) (ty:=o.type) (ts:=ts) (ad:=ad) hu hdx Agm hi hs (List.eq_nil_of_length_eq_zero (by omega));rw[<-Xr] at hr;have Ahc:new=[]:=List.eq_nil_of_length_eq_zero (by omega);subst Ahc;refine run hr next Q (hn _ _ (Dz β d none) ?_);rw[Xr];refine h.move h0 JD hdN rfl rfl rfl (C9 _) (fun _ _ _=>rfl) (fun _ _=>C9 _) (fun k q hh=>by cases hh) (fun k q hh=>by cases hh) (fun _ _ _ _ _ _=>⟨rfl,rfl⟩) ?_ ?_ (by intro j hj;simpa [Cn,C3,A9] using hj)
       ·exact .inl ⟨A8 _ _ _,by simp⟩
       ·exact .inl ⟨A8 _ _ _,rfl,rfl,ad,rfl⟩
      ·exact grow ad 0 [] Xr (by simp[B9]) (by simp) (by simp) (by cases ad with
        |none=>exact .inl ⟨rfl,rfl⟩
        |some p=>exact .inr ⟨p,rfl,by simp,fun j v hj=>by simp at hj⟩) (by omega)
     ·rw[hβ] at Jq;cases Jq
    ·rcases Am9 with⟨Jq,_⟩|⟨b',o',Jq,Qm,hb3,_⟩
     ·rw[hβ] at Jq;cases Jq
     rw[hβ] at Jq;simp at Jq;obtain⟨rfl,rfl⟩:=Jq;have hy:y=ob:=by rcases hy with hy|⟨_,hq⟩<;>omega
     subst hy;by_cases As3:n+m<=cap
     ·have Aps:y+n*i.size+news.length<=bsz w bb:=by
       have h5:n*i.size+m*i.size<=cap*i.size:=by rw[<-Nat.add_mul];exact Nat.mul_le_mul_right _ As3
       omega
      have hcell:∀k,k<news.length->(w.cell? ⟨bb,y+n*i.size+k,none⟩).isSome=true:=fun k hk=>Avl (by omega);have hr:=RC (P:=P) (w:=w) (t:=t) (tx:=tx) (ty:=o.type) (ts:=ts) (b:=bb) (ob:=y) (n:=n) (cap:=cap) hu hdx Agm hi hs OV hcell (fun k hk=>hb3 rfl _ (by omega) (by omega)) As3;rw[<-Xr] at hr;have hw:=G3.setCells bb news (y+n*i.size) w
      have hbo:∀k q,some (bb,y)=some (k,q)->w.heap.size<=k\/∃q',β id=some (k,q'):=by
       intro k q hh;simp at hh;obtain⟨rfl,rfl⟩:=hh;exact .inr ⟨_,hβ⟩
      refine run hr next Q (hn _ _ (Dz β d (some (bb,y))) ?_)
      have Hc:C6 (D2 s.hp β Y) w (w.setCells bb (y+n*i.size) news):=by
       have hAb:D2 s.hp β Y bb:=.inl ⟨id,y,by rw[h0];trivial,hβ⟩
       exact⟨by rw[hw.size];exact C9 _,fun k _ hk=>hw.other k (fun e=>hk (e ▸ hAb)),fun k _=>by
        by_cases e:k=bb
        ·subst e;rw[hw.bs];exact C9 _
        ·unfold bsz;rw[hw.other k e];exact C9 _⟩
      refine h.move h0 JD hdN hw.os hw.tape hw.output (by rw[hw.size];exact C9 _) (fun k _ hq=>hw.other k (by rintro rfl;exact hq _ hβ)) Hc.bs (fun k q hh=>⟨by simp at hh;rw[hw.size];omega,hbo k q hh⟩) (fun k q hh _=>by rw[hβ];exact hh)
       (fun k q hh _ j hj=>by
        rw[hβ] at hh;cases hh;exact⟨World.cell?_setCells_out bb _ _ w ⟨bb,j,none⟩ (fun _ _=>by show j<y+n*i.size\/y+n*i.size+_<=j;omega),hw.frz j⟩) ?_ ?_ (by intro j hj;simpa [Cn,C3,A9] using hj)
      ·refine .inr ⟨bb,y,A8 _ _ _,fun j p hj=>?_,fun _ j hj BX=>?_,(fun q=>by cases q)⟩
       ·rw[Fy];by_cases hjn:j<n*i.size
        ·rw[List.getElem?_append_left (by rw[List.length_take];omega),List.getElem?_take_of_lt hjn] at hj
         obtain⟨u,Od,h5,ht⟩:=Qm j p hj;rw[Fy] at Od;refine⟨u,?_,h5,ht.step Hc (Ai9 h0 JD hbo)⟩;rw[World.cell?_setCells_out bb _ _ w ⟨bb,y+j,none⟩ (fun _ _=>by show y+j<y+n*i.size\/y+n*i.size+_<=y+j;omega)]
         exact Od
        ·rw[List.getElem?_append_right (by rw[List.length_take];omega),List.length_take,Nat.min_eq_left A9d] at hj
         obtain⟨u,Od,ht⟩:=hs.rep.get hj
         have Cq:j-n*i.size<news.length:=by
          rcases Mi (j-n*i.size) news.length with h|h
          ·exact h
          ·rw[List.getElem?_eq_none h] at Od;cases Od
         refine⟨u,?_,hs.one u (List.mem_of_getElem? Od),ht.step Hc (Ai9 h0 JD hbo)⟩;have:=World.cell?_setCells_in bb news (y+n*i.size) w hcell (j-n*i.size) Cq;rw[show y+j=y+n*i.size+(j-n*i.size) from by omega,this];rw[List.getElem?_eq_getElem Cq] at Od;exact Od
       ·rw[hw.bs] at BX;rw[hw.frz];exact hb3 rfl j hj BX
      ·exact .inr ⟨bb,y,y,cap,A8 _ _ _,rfl,.inl rfl,As3,by rw[hw.bs];omega,by rw[hw.size];exact A73⟩
     ·-- the old cells
      have hob:∀(j:Nat) p,(cc.take (n*i.size))[j]?=some p->∃v,w.cell? ⟨bb,y+j,none⟩=some v/\v.oneCell'=true/\Bd w (D2 s.hp β Y) p v:=by
       intro j p hj;rw[List.getElem?_take] at hj;split at hj
       ·obtain⟨v,hv,h5,ht⟩:=Qm j p hj;rw[Fy] at hv;exact⟨v,hv,h5,ht⟩
       ·cases hj
      have Hr:(cc.take (n*i.size)).length=n*i.size:=by rw[List.length_take];omega
      refine grow _ cap ((cc.take (n*i.size)).mapIdx fun j _=>(w.cell? ⟨bb,y+j,none⟩).getD undef) Xr ?_ ?_ (by simp only[List.length_mapIdx];exact Hr) (.inr ⟨_,rfl,by simp only[List.length_mapIdx];exact Hr,fun j v hj=>?_⟩) (by omega)
      ·refine B9.of_at (by simp) fun j p v hp hv=>?_;obtain⟨u,Od,_,ht⟩:=hob j p hp;rw[List.getElem?_mapIdx,hp,Option.map_some,Od] at hv;simp at hv;subst hv;exact ht
      ·intro v hv;obtain⟨j,hj⟩:=List.mem_iff_getElem?.1 hv;rw[List.getElem?_mapIdx] at hj;cases hp:(cc.take (n*i.size))[j]? with
       |none=>rw[hp] at hj;cases hj
       |some p=>
        obtain⟨u,Od,h5,_⟩:=hob j p hp;rw[hp,Option.map_some,Od] at hj;simp at hj;subst hj;exact h5
      ·rw[List.getElem?_mapIdx] at hj;cases hp:(cc.take (n*i.size))[j]? with
       |none=>rw[hp] at hj;cases hj
       |some p=>
        obtain⟨u,Od,h5,_⟩:=hob j p hp;rw[hp,Option.map_some,Od] at hj;simp at hj;subst hj;rw[Fy];exact Od
   ·cases hk
  ·obtain⟨zz,n',c',hk,hp⟩:=Iy hk;obtain⟨hb,hk⟩:=Az hk;simp only[G8,MR] at hb;obtain⟨⟨⟨⟨⟨hzz,hdN⟩,JD⟩,Amx⟩,hby⟩,hnm⟩:=hb;have hdN:d<N:=Nat.lt_of_succ_le (Xx hdN);have JD:s.hp d=none:=by simpa using JD
   have Ajj:Jt N (some d)=true:=by simp[Jt,Nat.blt];omega
   rw[Kz] at Amx hk;rw[BZ] at hby;have OV:news.length=m*i.size:=by omega
   rcases slice_form hp hbv with⟨Xr,_⟩|⟨_,_,_,UV,_⟩|⟨_,_,_,UV,_⟩
   ·refine⟨_,hk,fun next Q hn=>?_⟩;by_cases hm0:m=0
    ·subst hm0;have hr:=Se (P:=P) (w:=w) (t:=t) (tx:=tx) (ty:=o.type) (ts:=ts) (ad:=none) hu hdx Agm hi hs (List.eq_nil_of_length_eq_zero (by omega));rw[<-Xr] at hr;have Ahc:new=[]:=List.eq_nil_of_length_eq_zero (by omega);subst Ahc;refine run hr next Q (hn _ _ (Dz β d none) ?_);rw[Xr];refine h.stepR (d:=some d) (nw:=[(d,.ar false [])]) (β':=Dz β d none) Ajj (by simp[C1,JD]) ⟨rfl,rfl,rfl,C6.refl _ _,fun j hj=>Aw _ _ (by rintro rfl;exact hj JD),?_,?_,?_,?_,?_,.inl ⟨A8 _ _ _,rfl,rfl,none,rfl⟩,?_⟩
     ·intro j bx hm;simp at hm;rw[hm.2];trivial
     ·intro j bx hm;simp at hm;obtain⟨rfl,rfl⟩:=hm;exact .inl ⟨A8 _ _ _,rfl⟩
     ·intro j bx k q hm hq;simp at hm;obtain⟨rfl,rfl⟩:=hm;rw[A8] at hq;cases hq
     ·intro j bx j' bx' k q q' hm M4 _ _;simp at hm M4;rw[hm.1,M4.1]
     ·intro j cells hm;simp at hm
     ·intro j hj;simp[Cn,C3,A9] at hj;subst hj;exact .inr ⟨.ar false [],by simp⟩
    ·have hr:=Sk (P:=P) (w:=w) (t:=t) (tx:=tx) (ty:=o.type) (ts:=ts) (ad:=none) (n:=0) (cap:=0) (olds:=[]) hu hdx Agm hi hz hs (.inl ⟨rfl,rfl⟩) (by omega) (by rw[Cm];exact hby) (by omega)
     rw[<-Xr] at hr;refine run hr next Q (hn _ _ (Dz β d (some (w.heap.size,0))) ?_);have hge:0+m<=grownCap w (0+m) 0 e:=grownCap_ge w (0+m) 0 e
     have II:Jw w (w.drew.alloc (.cells (([]:List Value).toArray++news.toArray++Builtin.zeroCells z.cells (grownCap w (0+m) 0 e-(0+m))) e)) (([]:List Value).toArray++news.toArray++Builtin.zeroCells z.cells (grownCap w (0+m) 0 e-(0+m))) e:=
      ⟨rfl,rfl,rfl,fun k hk=>Below.heap_alloc w.drew _ k hk,by show (w.heap.push _).size=_;simp,(0,0),by show (w.heap.push _)[w.heap.size]?=_;simp,.inl rfl⟩
     have Ajm:(([]:List Value).toArray++news.toArray++Builtin.zeroCells z.cells (grownCap w (0+m) 0 e-(0+m))).size=grownCap w (0+m) 0 e*i.size:=by
      simp only[Array.size_append,List.size_toArray,size_zeroCells,hzs,OV,Vx,<-Nat.add_mul];rw[Cm (m*i.size),<-Nat.add_mul]
      congr 1
      omega
     refine h.stepR (d:=some d) (nw:=[(d,.ar false new)]) Ajj (by simp[C1,JD]) (X6 II JD trivial ?_ (fun cells hx=>by cases hx) ?_ (by intro j hj;simp[Cn,C3,A9] at hj;exact .inr hj))
     ·refine .inr ⟨w.heap.size,0,A8 _ _ _,?_,fun _ j _ hj=>?_,(fun q=>by cases q)⟩
      ·exact WV (pre:=[]) II (Alw JD) trivial hs.rep (by simp) hs.one
      ·rw[II.bsz] at hj;exact II.frozen hj
     ·refine .inr ⟨w.heap.size,0,0,grownCap w (0+m) 0 e,A8 _ _ _,by rw[Cm],.inl rfl,by omega,?_,by rw[II.size];omega⟩
      rw[II.bsz,Ajm];omega
   ·rw[UV] at hzz;cases hzz
   ·rw[UV] at hzz;cases hzz
 ·cases hk
theorem Aj2(h:Cj N w0 X0 Y β s a w){c:Call}(ho:o.op=.call c)(hc:c.callee=.builtin .copy){b x:Operand}(Fz:c.args.toList=[b,x]){t tx:TypeId}{ts:List TypeId}(RN:c.argTypes.toList=t::tx::ts){K:St->Option R}(hk:Abf P N s o.dst t tx (Db s.tm b) (Db s.tm x) K=some r):
  ∃s',K s'=some r/\∀(next:Act->World->Prop) (Q:Exit->Act->World->Prop),(∀a' w' β',Cj N w0 X0 Y β' s' a' w'->next a' w')->o.wp P a w next Q:=by
 have WB:c.args = #[b,x]:=by
  have:c.args=([b,x]:List Operand).toArray:=by rw[<-Fz]
  exact this
 have Ahx:c.argTypes=(t::tx::ts).toArray:=by rw[<-RN]
 have run:∀{v:Value} {w1:World},(Builtin.copy_ (t::tx::ts).toArray o.type #[a.eval b,a.eval x]).run P w=.ok v w1->∀(next:Act->World->Prop) (Q:Exit->Act->World->Prop),next (a.put o.dst v) w1->o.wp P a w next Q:=by
  intro v w1 hr next Q hn;unfold Oper.wp execOp;rw[ho];simp only[resolve,hc,invoke,builtin,Sem.run_bind,Sem.run_pure,Result.andThen_ok,WB,Ahx];have:(#[b,x]:Array Operand).map a.eval = #[a.eval b,a.eval x]:=by simp
  rw[this,hr];exact hn
 have hbv:=Er h b;unfold Abf at hk;split at hk
 ·rename_i e hu;obtain⟨hzi,hk⟩:=Az hk;simp only[G8] at hzi;obtain⟨Xo,Ajj⟩:=hzi;obtain⟨i,hi⟩:∃i,P.info? e=some i:=Option.isSome_iff_exists.1 Xo;have Kz:Bw P e=i.size:=by unfold Bw;rw[hi];rfl
  have h1c:∀(m:Nat) (new:Ab),(match Db s.tm b with
    |.view id es off n=>
     match s.hp id with
     |some (.ar false c)=>As (Nat.beq es (Bw P e)&&decide (off+n*es<=c.length)&&decide (new.length=m*es))
       (Aa (min m n) fun k=>Aa (Bx c (new.take (k*es)) off) fun c=>K ⟨Co s.tm o.dst (.sc (.int .i64 k)),Dz s.hp id (some (.ar false c))⟩)
     |_=>none
    |_=>none)=some r->new.length=m*Bw P e:=by
   intro m new hk;split at hk
   ·split at hk
    ·obtain⟨hb,_⟩:=Az hk;simp only[G8,MR] at hb;rw[<-Et hb.1.1];exact hb.2
    ·cases hk
   ·cases hk
  obtain⟨_,m,new,news,hk,hs⟩:=VM h hk h1c;split at hk
  ·rename_i id es off n hb;rw[hb] at hbv;split at hk
   ·rename_i cc h0;obtain⟨hb,hk⟩:=Az hk;simp only[G8,MR] at hb;obtain⟨⟨QD,ET⟩,hnl⟩:=hb;have QD:=Et QD;subst QD;rw[Kz] at hk hs ET hnl hbv;have OV:news.length=m*i.size:=by rw[<-hs.rep.len];exact hnl
    have hkm:min m n*i.size<=m*i.size:=Nat.mul_le_mul_right _ (Nat.min_le_left _ _);have hkn:min m n*i.size<=n*i.size:=Nat.mul_le_mul_right _ (Nat.min_le_right _ _);have J6:K ⟨Co s.tm o.dst (.sc (.int .i64 ((min m n:Nat):Int))),Dz s.hp id (some (.ar false (Bx cc (new.take (min m n*i.size)) off)))⟩=some r:=hk;refine⟨_,J6,fun next Q hn=>?_⟩
    have Av8:∀{β':Bt} {Di:Nat->Option Cb} {w':World},Cj N w0 X0 Y β' ⟨s.tm,Di⟩ a w'->Cj N w0 X0 Y β' ⟨Co s.tm o.dst (.sc (.int .i64 ((min m n:Nat):Int))),Di⟩ (a.put o.dst (goInt ((min m n:Nat):Int))) w':=
     fun hh=>hh.put Ajj (Bd.sc _) (fun _ hx=>by cases hx)
    have Avn:new.take (min m n*i.size)=[]->Dz s.hp id (some (.ar false (Bx cc (new.take (min m n*i.size)) off)))=s.hp:=by
     intro e;rw[e];refine MG _ ?_;rw[h0];simp[Bx]
    have nothing:min m n*i.size=0->∀(ad:Option Addr) (cap:Nat),a.eval b=.slice ad n cap->o.wp P a w next Q:=by
     intro e ad cap Xr;have hr:=Aeg (P:=P) (w:=w) (w1:=w) (t:=t) (ty:=o.type) (ts:=tx::ts) (ad:=ad) (n:=n) (cap:=cap) hu hi hs (by rw[e];cases ad<;>simp[storeCells])
     rw[<-Xr] at hr;refine run hr next Q (hn _ _ β (Av8 ?_));rw[Avn (by rw[e,List.take_zero])];exact h
    rcases hbv with⟨hβ,_,rfl,ad,Xr⟩|⟨bb,ob,y,cap,hβ,Xr,hy,A7w,RH,A73⟩
    ·exact nothing (by simp) ad 0 Xr
    ·by_cases hm0:min m n*i.size=0
     ·exact nothing hm0 _ _ Xr
     rcases h.box id _ h0 with⟨Jq,_⟩|⟨b',o',Jq,Qm,hb3,_⟩
     ·rw[hβ] at Jq;cases Jq
     rw[hβ] at Jq;simp at Jq;obtain⟨rfl,rfl⟩:=Jq;have SE:n≠0:=by rintro rfl;simp at hm0
     have hy:y=ob+off:=by rcases hy with hy|⟨hq,_⟩<;>first|exact absurd hq SE|exact hy
     subst hy;have Cq:(news.take (min m n*i.size)).length=min m n*i.size:=by rw[List.length_take,OV];omega
     have hcell:∀k,k<(news.take (min m n*i.size)).length->(w.cell? ⟨bb,ob+off+k,none⟩).isSome=true:=by
      intro k hk;obtain⟨v,hv,_⟩:=Qm (off+k) _ (List.getElem?_eq_getElem (by omega));rw[Fy] at hv;rw[Sb,hv];rfl
     have YQ:∀k,k<(news.take (min m n*i.size)).length->w.frozen? ⟨bb,ob+off+k,none⟩=false:=fun k hk=>by
      obtain⟨u,hu⟩:=Option.isSome_iff_exists.1 (hcell k hk);exact hb3 rfl _ (by omega) (VW hu)
     have h1:∀u∈news.take (min m n*i.size),u.oneCell'=true:=fun u hu=>hs.one u (List.mem_of_mem_take hu);have h3:=run_storeCells_cells (P:=P) bb (ob+off) (news.take (min m n*i.size)) 0 w (fun k hk=>by simpa using hcell k hk) (fun k hk=>by simpa using YQ k hk) h1;have hr:=Aeg (P:=P) (w:=w) (t:=t) (ty:=o.type) (ts:=tx::ts) (ad:=some ⟨bb,ob+off,none⟩) (n:=n) (cap:=cap) hu hi hs h3;rw[<-Xr] at hr;simp only[JF] at hr;refine run hr next Q (hn _ _ β (Av8 ?_))
     refine h.write h0 trivial trivial hβ (G3.setCells bb _ _ w) ?_ (fun cells hx=>by cases hx) (fun _ hx=>by cases hx) (fun j hj=>hj) (fun j hj=>by
      refine World.cell?_setCells_out bb _ _ w ⟨bb,j,none⟩ (fun _ _=>?_);have hj:¬(ob<=j):=hj;show j<ob+off\/ob+off+_<=j;omega)
     have Hc:C6 (D2 s.hp β Y) w (w.setCells bb (ob+off) (news.take (min m n*i.size))):=by
      have hw:=G3.setCells bb (news.take (min m n*i.size)) (ob+off) w;have hAb:D2 s.hp β Y bb:=.inl ⟨id,ob,by rw[h0];trivial,hβ⟩
      exact⟨by rw[hw.size];exact C9 _,fun k _ hk=>hw.other k (fun e=>hk (e ▸ hAb)),fun k _=>by
       by_cases e:k=bb
       ·subst e;rw[hw.bs];exact C9 _
       ·unfold bsz;rw[hw.other k e];exact C9 _⟩
     have hll:(new.take (min m n*i.size)).length=min m n*i.size:=by rw[List.length_take,hnl];omega
     refine .inr ⟨bb,ob,hβ,fun j p hj=>?_,fun _ j hj BX=>?_,(fun x=>by cases x)⟩
     ·rw[Fy];rcases Zs (by omega) hj with⟨h3,h4,h5⟩|⟨h3,h5⟩
      ·have A7l:j-off<min m n*i.size:=by omega
       rw[List.getElem?_take_of_lt A7l] at h5;obtain⟨u,hu,hcu⟩:=hs.rep.get h5;have Agx:j-off<(news.take (min m n*i.size)).length:=by omega
       refine⟨u,?_,hs.one u (List.mem_of_getElem? hu),hcu.step Hc (fun _ _ x=>x)⟩;have:=World.cell?_setCells_in bb (news.take (min m n*i.size)) (ob+off) w hcell (j-off) Agx;rw[show ob+j=ob+off+(j-off) from by omega,this];rw[<-List.getElem?_eq_getElem Agx,List.getElem?_take_of_lt A7l];exact hu
      ·obtain⟨v,hv,h6,PJ⟩:=Qm j p h5;rw[Fy] at hv;refine⟨v,?_,h6,PJ.step Hc (fun _ _ x=>x)⟩;rw[World.cell?_setCells_out bb _ _ w ⟨bb,ob+j,none⟩ (fun _ _=>by show ob+j<ob+off\/ob+off+_<=ob+j;omega)]
       exact hv
     ·rw[(G3.setCells bb _ _ w).bs] at BX;rw[(G3.setCells bb _ _ w).frz];exact hb3 rfl j hj BX
   ·cases hk
  ·cases hk
 ·cases hk
theorem Ai8(h:Cj N w0 X0 Y β s a w){G:Zg}(Ks:QL P G w0 X0){C:Kk}{call:Bp}(Dl:∀f args res,call f args=some res->Do G P f args res){K:St->Option R}(hk:FU C P N call s o K=some r):
  ∃s',K s'=some r/\∀(next:Act->World->Prop) (Q:Exit->Act->World->Prop),(∀a' w' β',Cj N w0 X0 Y β' s' a' w'->next a' w')->o.wp P a w next Q:=by
 unfold FU at hk;split at hk
 ·rename_i t x y ho;obtain⟨hd,hk⟩:=Az hk;exact Ahh h ho (by simpa using hd) hk
 ·rename_i c ho;split at hk
  ·rename_i hc;obtain⟨d,hd,E9⟩:=Ed hk;obtain⟨b,xs,XI,Hl⟩:=Br E9;obtain⟨x,ys,hys,Xn⟩:=Br Hl;obtain⟨RA,Xq⟩:=Fg Xn;obtain⟨t,us,hus,hk5⟩:=Br Xq;obtain⟨tx,vs,Xl,hk6⟩:=Br hk5;rw[hys,RA] at XI;rw[Xl] at hus;exact Abt h ho hc hd XI hus hk6
  ·rename_i hc;obtain⟨b,xs,XI,Hl⟩:=Br hk;obtain⟨x,ys,hys,Xn⟩:=Br Hl;obtain⟨RA,Xq⟩:=Fg Xn;obtain⟨t,us,hus,hk5⟩:=Br Xq;obtain⟨tx,vs,Xl,hk6⟩:=Br hk5;rw[hys,RA] at XI;rw[Xl] at hus;exact Aj2 h ho hc XI hus hk6
  ·rename_i f hc;exact Afm h Ks Dl ho hc hk
  ·cases hk
 ·cases hk
theorem TZ(h:Cj N w0 X0 Y β s a w){G:Zg}(Ks:QL P G w0 X0){C:Kk}{call:Bp}(Dl:∀f args res,call f args=some res->Do G P f args res){K:St->Option R}(hk:Ag9 C P N call o s K=some r):
  ∃s',K s'=some r/\∀(next:Act->World->Prop) (Q:Exit->Act->World->Prop),(∀a' w' β',Cj N w0 X0 Y β' s' a' w'->next a' w')->o.wp P a w next Q:=by
 unfold Ag9 at hk;cases hm:AU C P o.op
 ·rw[hm] at hk;exact Ajw h Ks Dl hk
 ·rw[hm] at hk;exact Ai8 h Ks Dl hk
end
end
end
end Go.Proofs.YtpogefhpiaaliaaGreatDoor.Pv
