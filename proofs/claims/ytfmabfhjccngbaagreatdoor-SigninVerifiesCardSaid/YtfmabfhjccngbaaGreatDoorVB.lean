/-
  The proof of SigninVerifies, part 2.
-/
import Derived.Test.YtfmabfhjccngbaaGreatDoorVA
import Derived.Laws.Append
import Derived.IntWalk
import Derived.Laws.AppendOwn
import Derived.Laws.IdiomCopy
set_option linter.unusedSimpArgs false
set_option linter.unusedVariables false
namespace Go.Proofs.YtfmabfhjccngbaaGreatDoor.Pv
set_option maxRecDepth 1000000
noncomputable section
variable{p:PV}{w:World}{A A':Nat->Prop}{q:Option (Nat × Nat)}{u v z:Value}{e t tx:TypeId}{x:Operand}{i:TypeInfo}{c:Call}{bs:List (Nat × Co)}{d:TypeDesc}{C:Lf}{F:An}{f:FuncId}{ad:Option Addr}{ts:List TypeId}{news:List Value}{new:Ae}{b:Nat}{hp:Nat->Option Co}
open List renaming mem_iff_getElem?->zq,mem_cons->zl,any_cons->xt,any_nil->xu,any_eq_false->xw,getElem?_eq_none->zh,mem_flatMap->zk,sum_cons->xx,any_eq_true->zm,map_toArray->xy,mem_of_getElem?->zn,getElem?_mapIdx->xz,length_take->x7,length_mapIdx->ka,getElem?_take->zt,eq_nil_of_length_eq_zero->kb,size_toArray->kc,getElem?_append_left->zi,getElem?_take_of_lt->ke,getElem?_append_right->kf,getElem?_drop->zg,getElem?_eq_getElem->zd,mem_of_mem_take->kg,mem_of_mem_drop->kj,flatMap_append->kk,mem_map->kl,mem_map_of_mem->km,map_append->kn,nodup_cons->ko
open Nat renaming mul_add->kq,mul_zero->ks,add_sub_cancel_left->ku,mul_div_cancel_left->kv,blt->jh,lt_of_succ_le->kw,le_trans->jl,mul_le_mul_right->ky,min_le_left->k5,add_mul->jr,zero_le->jt,min_eq_left->va
open Bool renaming or_false->vd,or_eq_false_iff->ve,not_eq_true'->qg
open _root_.Array renaming toArray_toList->vg,size_append->vh,getElem?_modify->vi
open World renaming cell?_of_block->jw,frozen?_of_block->jx,setCell->vj,cell?_setCells_out->vk,cell?_setCells_in->vl
open Builtin renaming firstCells->vm,append_->vn,zeroCells->vp,nextslicecap->vq,copy_->vr
open Sem renaming run_bind->xd,run_pure->xe
open Result renaming andThen_ok->xf
open Instr renaming sliceBounds->xj,sliceBound->xk,sliceAt->xl,slice->xm,storeAt->vt
open Option renaming isNone_iff_eq_none->vu,isSome_iff_exists->j8,toList->vv,map_some->jz,bind_some->vw
section
open Go.RowKit
def Jq(w:World)(A:Nat->Prop)(own:Option (Nat × Nat))(p:PV)(u:Value):Prop:=
 match p with
 |.own es n c=>(own=none/\n=0/\c=[]/\∃ad,u=.slice ad 0 0) \/
   ∃b o cap,own=some (b,o)/\u=.slice (some ⟨b,o,none⟩) n cap/\n<=cap/\Fit w es b (o+cap*es)/\b<w.heap.size/\RdT w A ⟨b,o,none⟩ c/\∀j,o<=j->j<bsz w b->w.frozen? ⟨b,j,none⟩=false
 |p=>A7 w A p u
def Hj(w:World)(A:Nat->Prop)(own:Bt):Nat->Ae->List Value->Prop
 |_,[],[]=>True
 |j,p::ps,u::us=>Jq w A (own j) p u/\Hj w A own (j+1) ps us
 |_,_,_=>False
def A4p(w:World)(A:Nat->Prop)(own:Bt)(j b o:Nat)(cs:Ae):Prop:=
 ∃vs,Hj w A own j cs vs/\(∀(k:Nat) v,vs[k]?=some v->w.cell? ⟨b,o+k,none⟩=some v)/\∀k,k<cs.length->w.frozen? ⟨b,o+k,none⟩=false
def A5z(w:World)(A:Nat->Prop)(own:Bt)(z j:Nat)(p:PV)(u:Value):Prop:=
 match p with
 |.agg a=>∃vs,u=.agg ⟨vs⟩/\Hj w A own j a vs
 |.pbox a=>∃b o,own j=some (b,o)/\z<=b/\u=.pointer (some ⟨b,o,none⟩)/\A4p w A own (j+1) b o a
 |p=>Jq w A (own j) p u
def plc:PV->Nat
 |.pbox a=>1+a.length
 |p=>(cellsOf p).length
def Af6(w:World)(A:Nat->Prop)(own:Bt)(z:Nat):Nat->Ae->List Value->Prop
 |_,[],[]=>True
 |j,p::ps,u::us=>A5z w A own z j p u/\Af6 w A own z (j+plc p) ps us
 |_,_,_=>False
abbrev QW:=Nat->Nat->Option (Nat × Nat)
def BtX(bt:QW)(b:Nat):Prop:=∃i j o,bt i j=some (b,o)
def isA(p:PV):Prop:=MN p\/∃es n c,p=.own es n c
def SQ(p:PV):Bool:=
 match p with
 |.pbox _=>true
 |.tup _=>true
 |_=>false
theorem A6z(h:isA p):SQ p=false:=by
 rcases h with h|⟨_,_,_,rfl⟩
 ·cases p<;>first|rfl|exact h.elim
 ·rfl
def Aqi(w:World)(A:Nat->Prop)(bt:Bt)(p:PV)(u:Value):Prop:=
 match p with
 |.pbox ps=>∃b o,bt 0=some (b,o)/\u=.pointer (some ⟨b,o,none⟩)/\(∀p∈ps,isA p)/\A4p w A bt 1 b o ps
 |.tup ps=>∃es n c,ps=[.own es n c]/\Jq w A (bt 0) (.own es n c) u
 |.agg a=>∃vs,u=.agg ⟨vs⟩/\(∀p∈a,isA p)/\Hj w A bt 1 a vs
 |p=>isA p/\Jq w A (bt 1) p u
def Tj(w:World)(A:Nat->Prop)(bt:QW):Nat->Ae->List Value->Prop
 |_,[],[]=>True
 |i,p::ps,u::us=>Aqi w A (bt i) p u/\Tj w A bt (i+1) ps us
 |_,_,_=>False
def Bc3(bt:Bt)(p:PV)(b j:Nat):Prop:=
 (∃k o,bt (k+1)=some (b,o)/\o<=j)\/∃o ps,bt 0=some (b,o)/\o<=j/\((p=.pbox ps/\j<o+ps.length)\/p=.tup ps)
def Aae(bt:QW)(args:Ae)(b j:Nat):Prop:=∃i p,args[i]?=some p/\Bc3 (bt i) p b j
def N9(w:World)(A:Nat->Prop)(own:Bt)(bt:QW):Nat->Nat->Ae->List Ae->Prop
 |_,_,[],r=>r=[]
 |j,i,p::c,r=>
  match p with
  |.pbox ps=>
   match r with
   |[]=>False
   |a::r=>(∃b o,bt i 0=some (b,o)/\a.length=ps.length/\A4p w A own j b o a)/\N9 w A own bt (j+a.length) (i+1) c r
  |.tup _=>
   match r with
   |[]=>False
   |a::r=>((bt i 0=none/\a=[])\/∃b o,bt i 0=some (b,o)/\RdT w A ⟨b,o,none⟩ a/\∀k,o<=k->k<bsz w b->w.frozen? ⟨b,k,none⟩=false)/\N9 w A own bt j (i+1) c r
  |_=>N9 w A own bt j (i+1) c r
def IK(bt:QW)(own:Bt)(Y:Nat->Prop)(b:Nat):Prop:=(∃j o,own j=some (b,o))\/(∃i o,bt i 0=some (b,o))\/Y b
def To(vals:Ae):Nat:=(vals.map plc).sum
structure Out(w w':World)(Y:Nat->Prop)(bt:QW)(args:Ae)(own:Bt)(r:A3)(vs:List Value):Prop where
 os:w'.os=w.os
 tape:w'.tape=w.tape
 output:w'.output=w.output
 ext:Df (BtX bt) w w'
 rng:∀b j,b<w.heap.size->¬Aae bt args b j->w'.cell? ⟨b,j,none⟩=w.cell? ⟨b,j,none⟩/\w'.frozen? ⟨b,j,none⟩=w.frozen? ⟨b,j,none⟩
 vals:Af6 w' (IK bt own Y) own w.heap.size 0 r.vals vs
 outs:N9 w' (IK bt own Y) own bt (To r.vals) 0 args r.outs
 fresh:∀j b o,own j=some (b,o)->b<w'.heap.size/\(b<w.heap.size->(∃i k o',bt i (k+1)=some (b,o'))/\∀x,o<=x->Aae bt args b x)
 inj:∀j j' b o o',own j=some (b,o)->own j'=some (b,o')->j=j'
def J1(us:List Value):Value:=match us with|[u]=>u|us=>.tuple ⟨us⟩
def DO(w:World)(Y:Nat->Prop)(p:PV)(u:Value):Prop:=
 match p with
 |.agg a=>∃vs,u=.agg ⟨vs⟩/\B4 (λc v=>MN c/\A7 w Y c v) a vs
 |p=>MN p/\A7 w Y p u
structure Ins(w:World)(Y:Nat->Prop)(bt:QW)(args:Ae)(us:List Value):Prop where
 Ylt:∀b,Y b->b<w.heap.size
 Yx:∀b,Y b->¬BtX bt b
 lt:∀b,BtX bt b->b<w.heap.size
 inj:∀i j i' j' b o o',bt i j=some (b,o)->bt i' j'=some (b,o')->i=i'/\j=j'
 l0:∀i q,bt i 0=some q->∃p,args[i]?=some p/\SQ p=true
 args:Tj w (λb=>BtX bt b\/Y b) bt 0 args us
structure MD where
 bl:Nat->Prop
 ok:World->Prop
 stable:∀w w':World,(∀b,bl b->b<w.heap.size->w'.heap[b]?=w.heap[b]?)->ok w->ok w'
def Ep(G:MD)(P:Program)(f:FuncId)(args:Ae)(r:A3):Prop:=
 (∃a,P.funcs[f]?=some a/\a.body.isSome=true)/\∀(w:World)(Y:Nat->Prop)(bt:QW)(us:List Value),Ins w Y bt args us->G.ok w->(∀b,G.bl b->b<w.heap.size/\¬BtX bt b) ->
  Calls P f us.toArray w λe w'=>∃vs own,e=.returned (J1 vs)/\Out w w' Y bt args own r vs
def Ai3:QW:=λ_ _=>none
theorem Yd(b:Nat):¬BtX Ai3 b:=by rintro⟨_,_,_,h⟩;cases h
theorem Ro(hp:MN p)(h:A7 w A p u):Jq w A q p u:=by cases p<;>first|exact h|exact hp.elim
theorem VD{w:World}{A:Nat->Prop}{own:Bt}:∀{cs:Ae}{vs:List Value}{j:Nat},B4 (λc v=>MN c/\A7 w A c v) cs vs->Hj w A own j cs vs
 |[],[],_,_=>trivial
 |_::_,_::_,_,h=>⟨Ro h.1.1 h.1.2,VD h.2⟩
 |[],_::_,_,h=>h.elim
 |_::_,[],_,h=>h.elim
theorem Awd{bt:Bt}(h:DO w A p u):Aqi w A bt p u:=by
 cases p with
 |agg f=>
  obtain⟨vs,b,a⟩:=h;refine⟨vs,b,λp hp=>.inl ?_,VD a⟩;obtain⟨j,d⟩:=zq.1 hp;obtain⟨v,_,e⟩:=a.get d;exact e.1
 |sc v=>exact⟨.inl trivial,h.2⟩
 |lst z es n c=>exact⟨.inl trivial,h.2⟩
 |_=>exact h.1.elim
theorem Aav{w:World}{A:Nat->Prop}{bt:QW}:∀{ps:Ae}{us:List Value}{i:Nat},B4 (DO w A) ps us->Tj w A bt i ps us
 |[],[],_,_=>trivial
 |_::_,_::_,_,h=>⟨Awd h.1,Aav h.2⟩
 |[],_::_,_,h=>h.elim
 |_::_,[],_,h=>h.elim
theorem Awa(a:∀b,b<w.heap.size->A' b->A b)(h:DO w A p v):DO w A' p v:=by
 cases p with
 |agg f=>
  obtain⟨vs,rfl,e⟩:=h;exact⟨vs,rfl,e.mono λc v d=>⟨d.1,d.2.step (Df.refl _ _) a⟩⟩
 |sc v=>exact⟨h.1,h.2.step (Df.refl _ _) a⟩
 |lst z es n c=>exact⟨h.1,h.2.step (Df.refl _ _) a⟩
 |_=>exact h.1.elim
theorem YY{Y:Nat->Prop}{args:Ae}{us:List Value}(a:∀b,Y b->b<w.heap.size)(h:B4 (DO w Y) args us):Ins w Y Ai3 args us:=
 ⟨a,λb _=>Yd b,λb h=>absurd h (Yd b),(λ_ _ _ _ _ _ _ h=>by cases h),(λ_ _ h=>by cases h),Aav (h.mono λ_ _ c=>Awa (λb _ d=>d.elim (λq=>absurd q (Yd b)) id) c)⟩
def NoNG(P:Program):Prop:=∀(f:FuncId) (a:Func),P.funcs[f]?=some a->(a.name == "runtime.NumGoroutine")=false
structure Env(P:Program)(G:MD)(w0:World)(X0:M0):Prop where
 ng:NoNG P
 fr:∀w,Fr X0 w0 w->G.ok w
 y:∀b,G.bl b->b<w0.heap.size/\¬X0.X b
section
variable {R:Type}{r:R}{P:Program}{N:Nat}{w0:World}{X0:M0}{Y:Nat->Prop}{β β':Bt}{s:St}{a:Act}{w w':World}{o:Oper}{A:Nat->Prop}
def Abs(P:Program)(a:Act)(w:World)(o:Oper)(Y:Nat->Prop)(β:Bt)(s:St)(v:PV)(fz:Cl)(nw:List (Nat × Co)):Prop:=
 (∀id∈fz,∃f c,s.hp id=some (.ar f c))/\∀(next:Act->World->Prop)(Q:Exit->Act->World->Prop),
  (∀val w',(Cs s.hp nw=true->∃β',Afs Y β ⟨s.tm,Aj s.hp fz⟩ w v nw val w' β')->next (a.put o.dst val) w')->o.wp P a w next Q
theorem Abd{v:PV}{fz:Cl}{nw:List (Nat × Co)}(h:Gm P a w o Y β s v fz nw):Abs P a w o Y β s v fz nw:=by obtain⟨b,val,w',c,d⟩:=h;refine⟨b,λnext Q e=>?_⟩;unfold Oper.wp;rw[c];exact e val w' d
theorem A0m(h:D3 N w0 X0 Y β s a w){x:PV}(e:Gw w (Em s.hp β Y) β x u){K:PV->Cl->Option R}(b:Aq3 P (Pf s.hp) t x K=some r):
  ∃p m,K p m=some r/\(∀id∈m,∃f cc,s.hp id=some (.ar f cc))/\(cellsOf p).length=(M2 P t).length/\∀fz:Cl,(∀id∈m,id∈fz)->(∀id∈fz,∃f cc,s.hp id=some (.ar f cc))->DO w (Em (Aj s.hp fz) β Y) p u:=by
 unfold Aq3 at b;cases Jf:C6 P t
 ·rw[Jf] at b;obtain⟨z,m,b,g,Rj,i,A,j,k⟩:=AN h (show Wn _ _ _ _=some r from b);obtain⟨c,C,rfl,b⟩:=B5 b;obtain⟨rfl,b⟩:=Fj b;have d:=i c Ψ;refine⟨c,m,b,j,?_,λfz l n=>?_⟩
  ·have:cellsOf c=[c]:=by cases c<;>first|rfl|exact d.elim
   rw[this];exact g
  have o:=A _ (Zh _)
  have q:C4 w (Em s.hp β Y) β x u:=by
   cases x<;>first|exact e|exact o.elim
  have y:=(k fz l n [u] ⟨q,trivial⟩).1.1;cases c<;>first|exact⟨trivial,y⟩|exact d.elim
 ·rw[Jf] at b;obtain⟨ps,hp,b⟩:=Lt (show Cr _ _=some r from b);rw[hp] at e;obtain⟨z,m,b,g,Rj,i,A,j,k⟩:=AN h b;obtain⟨vs,B,n⟩:=e;refine⟨.agg z,m,b,j,g,λfz l y=>⟨vs,B,?_⟩⟩;exact (k fz l y vs n).1.mono_mem λc q v WK=>⟨i c q,WK⟩
theorem A04(h:D3 N w0 X0 Y β s a w){K:PV->Cl->Option R}(b:Aq3 P (Pf s.hp) t (Da s.tm x) K=some r):
  ∃p m,K p m=some r/\(∀id∈m,∃f cc,s.hp id=some (.ar f cc))/\∀fz:Cl,(∀id∈m,id∈fz)->(∀id∈fz,∃f cc,s.hp id=some (.ar f cc))->DO w (Em (Aj s.hp fz) β Y) p (a.eval x):=by
 obtain⟨p,m,c,d,_,e⟩:=A0m h (Ec h x) b;exact⟨p,m,c,d,e⟩
theorem Af8(h:D3 N w0 X0 Y β s a w):∀{ts:List TypeId}{I:List Operand}{K:Ae->Cl->Option R},Acq P (Pf s.hp) ts (I.map (Da s.tm)) K=some r ->
  ∃ps m,K ps m=some r/\(∀id∈m,∃f cc,s.hp id=some (.ar f cc))/\∀fz:Cl,(∀id∈m,id∈fz)->(∀id∈fz,∃f cc,s.hp id=some (.ar f cc))->B4 (DO w (Em (Aj s.hp fz) β Y)) ps (I.map a.eval)
 |[],[],K,b=>⟨[],[],b,Ψ,λ_ _ _=>trivial⟩
 |[],_::_,K,b=>by cases b
 |_::_,[],K,b=>by cases b
 |t::ts,x::I,K,b=>by
  simp only[ER] at b;unfold Acq at b;obtain⟨p,m,b,g,j⟩:=A04 h b;obtain⟨ps,k,b,c,Ox⟩:=Af8 h b;refine⟨p::ps,m++k,b,?_,λfz d e=>⟨j fz (λi hi=>d i (by simp[hi])) e,Ox fz (λi hi=>d i (by simp[hi])) e⟩⟩;intro i hi;rcases B8.1 hi with hi|hi
  ·exact g i hi
  ·exact c i hi
theorem DO.weaken(a:∀b,b<w.heap.size->A' b->A b)(h:DO w A p v):DO w A' p v:=by
 have one:MN p->MN p/\A7 w A p v->DO w A' p v:=by
  intro hp h;cases p<;>first|exact⟨h.1,h.2.step (Df.refl _ _) a⟩|exact hp.elim
 cases p with
 |agg f=>
  obtain⟨vs,rfl,e⟩:=h;exact⟨vs,rfl,e.mono λc v d=>⟨d.1,d.2.step (Df.refl _ _) a⟩⟩
 |_=>exact one h.1 h
theorem A24{t:CT}{K:PV->Option R}(h:TN t p K=some r):
  ∃c,K c=some r/\MN c/\MN p/\(∀(w:World) (A:Nat->Prop) (β:Nat->Option (Nat × Nat)) (v:Value),C4 w A β p v->A7 w A c v/\v.oneCell'=true)/\((∀es,t ≠ .sl es)->∃v,c=.sc v):=by
 obtain⟨c,e,f,d,a⟩:=Vb h;cases t with
 |sl es=>exact⟨c,e,f,d,a,λg=>absurd rfl (g es)⟩
 |int k=>obtain⟨n,rfl,b⟩:=Gz h;exact⟨_,b,trivial,trivial,λw A β v a=>⟨a,by have:=A7.val (w:=w) (A:=A) a;subst this;rfl⟩,λ_=>⟨_,rfl⟩⟩
 |bool=>obtain⟨n,rfl,b⟩:=Fl h;exact⟨_,b,trivial,trivial,λw A β v a=>⟨a,by have:=A7.val (w:=w) (A:=A) a;subst this;rfl⟩,λ_=>⟨_,rfl⟩⟩
 |str=>obtain⟨n,rfl,b⟩:=E8 h;exact⟨_,b,trivial,trivial,λw A β v a=>⟨a,by have:=A7.val (w:=w) (A:=A) a;subst this;rfl⟩,λ_=>⟨_,rfl⟩⟩
 |any=>
  obtain⟨u,rfl,i,b⟩:=As0 (show fnK p (λv=>K (.sc v))=some r from h);exact⟨_,b,trivial,trivial,λw A β v a=>⟨a,by have:=A7.val (w:=w) (A:=A) a;subst this;exact i⟩,λ_=>⟨_,rfl⟩⟩
theorem JX(shr:Bool)(N:Nat):∀{ts:List CT}{ps:Ae}{id:Nat}{K:Ae->List (Nat × Co)->Option R},BQ shr N id ts ps K=some r ->
  ∃cs bs,K cs bs=some r/\ps.length=ts.length/\(∀p∈ps,∀x,p ≠ .agg x/\p ≠ .pbox x)/\(∀c∈cs,isF c)/\((∀es,CT.sl es ∉ ts)->bs=[]/\∀c∈cs,∃v,c=.sc v) /\
   (∀i a,(i,a)∈bs->∃j es n c,ps[j]?=some (.own es n c)/\i=id+N*j/\a=.ar false c) /\
   (∀c∈cs,∀i∈A6 c,∃a,(i,a)∈bs) /\
   ∀(w:World) (A:Nat->Prop) (own β':Bt) (C:Nat) (us:List Value),(∀j,(∃a,(id+N*j,a)∈bs)->β' (id+N*j)=own (C+j))->Hj w A own C ps us->B4 (C4 w A β') cs us
 |[],ps,id,K,f=>by
  obtain⟨rfl,f⟩:=Fj f;refine⟨[],[],f,rfl,Ψ,Ψ,Ψ,Ψ,Ψ,λw A own β' C us _ h=>?_⟩;cases us with
  |nil=>trivial
  |cons u us=>exact h.elim
 |t::ts,ps,id,K,f=>by
  unfold BQ at f;obtain⟨p,o,WV,g⟩:=B5 f;subst WV;clear f
  have main:∃c b,(BQ shr N (id+N) ts o λcs bs=>K (c::cs) (b++bs))=some r/\(∀x,p ≠ .agg x/\p ≠ .pbox x)/\isF c/\((∀es,t≠CT.sl es)->b=[]/\∃v,c=.sc v)/\(∀i a,(i,a)∈b->∃es n cc,p=.own es n cc/\i=id/\a=.ar false cc)/\(∀i∈A6 c,∃a,(i,a)∈b) /\
    ∀(w:World) (A:Nat->Prop) (own:Option (Nat × Nat)) (β':Bt) (u:Value),((∃a,(id,a)∈b)->β' id=own)->Jq w A own p u->C4 w A β' c u:=by
   have tree:∀M,M=t->(TN M p λc=>BQ shr N (id+N) ts o λcs bs=>K (c::cs) ([]++bs))=some r->∃c b,(BQ shr N (id+N) ts o λcs bs=>K (c::cs) (b++bs))=some r/\(∀x,p ≠ .agg x/\p ≠ .pbox x)/\isF c/\((∀es,t≠CT.sl es)->b=[]/\∃v,c=.sc v)/\(∀i a,(i,a)∈b->∃es n cc,p=.own es n cc/\i=id/\a=.ar false cc)/\(∀i∈A6 c,∃a,(i,a)∈b) /\
     ∀(w:World) (A:Nat->Prop) (own:Option (Nat × Nat)) (β':Bt) (u:Value),((∃a,(id,a)∈b)->β' id=own)->Jq w A own p u->C4 w A β' c u:=by
    intro M O f;have s:=A24 f;obtain⟨c,f,D,l,P,s⟩:=s;refine⟨c,[],f,λx=>⟨RW l x,by rintro rfl;exact l⟩,DS D,λq=>⟨rfl,s (λes e=>q es (O.symm.trans e))⟩,Ψ,by rw[Mc D];simp,λw A own β' u _ E=>?_⟩
    have Q:C4 w A β' p u:=by cases p<;>first|exact E|exact l.elim
    exact (Sw D).2 (P w A β' u Q).1
   unfold Azg at g;cases t with
   |sl es=>
    dsimp only at g;cases shr
    ·unfold K5 at g;simp only[cond_false] at g;split at g
     ·rename_i S n c;cases T:Nat.beq S es
      ·rw[T] at g;cases g
      ·rw[T] at g;have:=Ed T;subst this;refine⟨_,_,g,Ψ,trivial,λq=>absurd rfl (q _),?_,?_,λw A own β' u G E=>?_⟩
       ·intro i a d;simp at d;exact⟨_,_,_,rfl,d.1,d.2⟩
       ·intro i hi;simp[A6] at hi;subst hi;exact⟨.ar false c,Ψ⟩
       ·have H:=G ⟨.ar false c,Ψ⟩;clear G;rcases E with⟨y,rfl,rfl,J⟩|⟨b,Z,cap,y,U,L,J,h5,_⟩
        ·exact .inl ⟨H.trans y,rfl,rfl,J⟩
        ·exact .inr ⟨b,Z,Z,cap,H.trans y,U,.inl rfl,L,J,h5⟩
     ·cases g
    ·obtain⟨c,f,D,l,P,_⟩:=A24 (t:=.sl es) (p:=p) (K:=λc=>BQ true N (id+N) ts o λcs bs=>K (Aii c::cs) ([]++bs)) g;have V:MN (Aii c):=by cases c<;>exact D
     refine⟨Aii c,[],f,λx=>⟨RW l x,by rintro rfl;exact l⟩,DS V,λq=>absurd rfl (q _),Ψ,by rw[Mc V];simp,λw A own β' u _ E=>?_⟩
     have Q:C4 w A β' p u:=by cases p<;>first|exact E|exact l.elim
     refine (Sw V).2 ?_;have:=(P w A β' u Q).1;cases c with
     |lst z es n c=>exact A7.unz this
     |_=>exact this
   |int k=>exact tree (.int k) rfl g
   |bool=>exact tree .bool rfl g
   |str=>exact tree .str rfl g
   |any=>exact tree .any rfl g
  obtain⟨c,b,f,W,hF,X,G2,Ke,WK⟩:=main;obtain⟨cs,bs,f,hl,Bq9,Y,Be4,Bmr,Bmw,Bmv⟩:=JX shr N f;refine⟨c::cs,b++bs,f,by simp[hl],?_,?_,?_,?_,?_,λw A own β' C us G B=>?_⟩
  ·intro x m;rcases zl.1 m with rfl|m
   ·exact W
   ·exact Bq9 x m
  ·intro x m;rcases zl.1 m with rfl|m
   ·exact hF
   ·exact Y x m
  ·intro q;obtain⟨y,v,U⟩:=X (λes e=>q es (by rw[e];simp))
   obtain⟨L,J⟩:=Be4 (λes d=>q es (by simp[d]));refine⟨by rw[y,L];rfl,λx m=>?_⟩
   rcases zl.1 m with rfl|m
   ·exact⟨v,U⟩
   ·exact J x m
  ·intro i a d;rcases B8.1 d with d|d
   ·obtain⟨es,n,cc,rfl,rfl,rfl⟩:=G2 i a d;exact⟨0,es,n,cc,rfl,Ψ,rfl⟩
   ·obtain⟨j,es,n,cc,y,rfl,L⟩:=Bmr i a d;exact⟨j+1,es,n,cc,by simpa using y,by rw[kq];omega,L⟩
  ·intro x m i hi;rcases zl.1 m with rfl|m
   ·obtain⟨a,d⟩:=Ke i hi;exact⟨a,by simp[d]⟩
   ·obtain⟨a,d⟩:=Bmw x m i hi;exact⟨a,by simp[d]⟩
  ·cases us with
   |nil=>exact B.elim
   |cons u us=>
    refine⟨WK w A (own C) β' u (λ⟨a,d⟩=>by have:=G 0 ⟨a,by simp[d]⟩;simpa using this) B.1,?_⟩
    refine Bmv w A own β' (C+1) us (λj ⟨a,d⟩=>?_) B.2;have e:id+N+N*j=id+N*(j+1):=by rw[kq];omega
    have:=G (j+1) ⟨a,by rw[<-e];simp[d]⟩
    rw[e,this]
    congr 1
    omega
end
open Go.RowKit
section
variable {R:Type}{r:R}{P:Program}{N:Nat}{w0:World}{X0:M0}{Y:Nat->Prop}{β β':Bt}{s:St}{a:Act}{w w':World}{o:Oper}{A:Nat->Prop}
theorem Hj.len:∀{j:Nat}{own:Bt}{ps:Ae}{us:List Value},Hj w A own j ps us->ps.length=us.length
 |_,_,[],[],_=>rfl
 |_,_,_::_,_::_,h=>by simp[Hj.len h.2]
 |_,_,[],_::_,h=>h.elim
 |_,_,_::_,[],h=>h.elim
theorem Hj.at_:∀{j:Nat}{own:Bt}{ps:Ae}{us:List Value},Hj w A own j ps us->∀{i:Nat} {p},ps[i]?=some p->∃u,us[i]?=some u/\Jq w A (own (j+i)) p u
 |_,_,[],[],_,i,p,h=>by simp at h
 |j,own,_::_,u::_,h,0,p,hp=>by simp at hp;subst hp;exact⟨u,rfl,h.1⟩
 |j,own,_::_,_::_,h,i+1,p,hp=>by
  simp at hp;obtain⟨u,a,b⟩:=Hj.at_ h.2 hp;exact⟨u,by simpa using a,by rw[show j+(i+1)=j+1+i from Ω];exact b⟩
 |_,_,[],_::_,h,_,_,_=>h.elim
 |_,_,_::_,[],h,_,_,_=>h.elim
def A3y(N id:Nat)(β':Bt)(w:World)(A:Nat->Prop)(z n:Nat)(bs:List (Nat × Co)):Prop:=
 ∀i a,(i,a)∈bs->(∃j,i=id+N*j/\j<n)/\Eo (some a)/\EB w A β' i a/\∀c,a=.st c->∀b o,β' i=some (b,o)->z<=b
def UT(bs:List (Nat × Co)):Prop:=∀i cells,(i,.st cells)∈bs->∀c∈cells,∀a∈A6 c,∃b,(a,b)∈bs
theorem QE{es n i:Nat}{c:Ae}(h:Jq w A q (.own es n c) u)(d:β' i=q):EB w A β' i (.ar false c):=by
 rcases h with⟨a,_,e,_⟩|⟨b,o,cap,a,_,_,_,_,f,g⟩
 ·exact .inl ⟨d.trans a,e⟩
 ·exact .inr ⟨b,o,d.trans a,f,λ_=>g,(λx=>by cases x)⟩
theorem TQ(h:Pz P [t]=false):PO P t=none/\∀es,CT.sl es ∉ M2 P t:=by simp only[Pz,xt,xu,vd,ve] at h;refine⟨by simpa using h.1,λes a=>?_⟩;have:=xw.1 h.2 _ a;simp at this
theorem Azj(shr:Bool)(N:Nat){id:Nat}{K:PV->List (Nat × Co)->Option R}(a:Auw P shr N id t p K=some r):
  ∃v bs,K v bs=some r/\plc p=Amy P t/\(∀x,v ≠ .tup x)/\(Pz P [t]=false->bs=[]/\∀c∈cellsOf v,∃u,c=.sc u)/\(∀i∈Dj v,∃d,(i,d)∈bs)/\UT bs /\
   ∀(w:World) (A:Nat->Prop) (own β':Bt) (z f:Nat) (u:Value),(∀j,(∃d,(id+N*j,d)∈bs)->β' (id+N*j)=own (f+j))->A5z w A own z f p u->Mq w A β' v u/\A3y N id β' w A z (plc p) bs:=by
 have boxes:∀{bs:List (Nat × Co)} {ps:Ae} {id:Nat},(∀i d,(i,d)∈bs->∃j es n c,ps[j]?=some (.own es n c)/\i=id+N*j/\d=.ar false c) ->
   UT bs/\∀(w:World) (A:Nat->Prop) (own β':Bt) (f:Nat) (us:List Value),(∀j,(∃d,(id+N*j,d)∈bs)->β' (id+N*j)=own (f+j))->Hj w A own f ps us->∀z,A3y N id β' w A z ps.length bs:=by
  intro bs ps id y;refine⟨λi cells g=>?_,λw A own β' f us m q z i d g=>?_⟩
  ·obtain⟨_,_,_,_,_,_,B⟩:=y i _ g;cases B
  ·obtain⟨j,es,n,cc,D,T,B⟩:=y i d g;obtain⟨u,hu,U⟩:=q.at_ D;subst B;refine⟨⟨j,T,?_⟩,trivial,QE U ?_,λ_ e=>by cases e⟩
   ·rcases Kp j ps.length with h|h
    ·exact h
    ·rw[zh h] at D;cases D
   ·rw[T];exact m j ⟨_,T ▸ g⟩
 unfold Auw at a;split at a
 ·rename_i e he;obtain⟨ps,rfl,a⟩:=Aej a;obtain⟨E,bs,a,G,A52,V,s,y,Ke,WK⟩:=JX shr N a;obtain⟨l,Tn⟩:=boxes y;refine⟨.ptr id 0,_,a,by simp only[plc,Amy,he,G],Ψ,λh=>?_,λi hi=>?_,λi cells g c Q i' H=>?_,λw A own β' z f u m q=>?_⟩
  ·have:=(TQ h).1;rw[he] at this;cases this
  ·simp only[Dj,A6,Tx] at hi;subst hi;exact⟨_,OJ⟩
  ·rcases zl.1 g with e|g
   ·cases e;obtain⟨d,W⟩:=Ke c Q i' H;exact⟨d,BL _ W⟩
   ·obtain⟨d,W⟩:=l i cells g c Q i' H;exact⟨d,BL _ W⟩
  ·obtain⟨b,o,D,hz,rfl,vs,B,h4,h5⟩:=q;have S:=m 0 ⟨_,by rw[ks,Zzr];exact OJ⟩
   rw[ks,Zzr,Zzr,D] at S;have Ce:∀j,id+N+N*j=id+N*(j+1):=λj=>by rw[kq];omega
   have J:∀j,(∃d,(id+N+N*j,d)∈bs)->β' (id+N+N*j)=own (f+1+j):=λj ⟨d,g⟩=>by
    rw[Ce,m (j+1) ⟨d,by rw[<-Ce];exact BL _ g⟩]
    congr 1;omega
   have L:=WK w A own β' (f+1) vs J B;have SM:=Tn w A own β' (f+1) vs J B z;have Ev:E.length=ps.length:=by rw[L.len,<-B.len]
   refine⟨⟨b,o,S,Ψ⟩,λi d g=>?_⟩;rcases zl.1 g with e|g
   ·cases e;refine⟨⟨0,Ψ,by simp only[plc];omega⟩,trivial,⟨b,o,S,λk c a=>?_,λk a=>h5 k Ω⟩,λ_ _ b' o' Mv=>?_⟩
    ·obtain⟨v,hv,X⟩:=L.get a;exact⟨v,h4 k v hv,X⟩
    ·rw[S] at Mv;cases Mv;exact hz
   ·obtain⟨⟨j,hj,hjn⟩,h6,h7⟩:=SM i d g;exact⟨⟨j+1,by rw[hj,Ce],by simp only[plc];omega⟩,h6,h7⟩
 ·rename_i Y;have CH:Amy P t=(M2 P t).length:=by simp only[Amy,Y]
  cases Jf:C6 P t
  ·rw[Jf] at a;obtain⟨E,bs,a,G,A52,V,s,y,Ke,WK⟩:=JX shr N (show BQ _ _ _ _ _ _=some r from a);obtain⟨c,t',rfl,a⟩:=B5 a;obtain⟨rfl,a⟩:=Fj a;have M:=V c Ψ;have Bj5:∀x,p ≠ .pbox x:=λx=>(A52 p Ψ x).2;have Bef:∀x,c ≠ .agg x:=by rintro x rfl;exact M
   have Bms:∀x,c ≠ .tup x:=by rintro x rfl;exact M
   have Z:Dj c=A6 c:=by cases c<;>first|rfl|exact absurd rfl (Bef _)
   have C:∀x,p ≠ .agg x:=λx=>(A52 p Ψ x).1;obtain⟨l,Tn⟩:=boxes y;have Fc:cellsOf p=[p]:=by cases p<;>first|rfl|exact absurd rfl (C _)
   have Biv:plc p=1:=by cases p<;>first|rfl|exact absurd rfl (C _)|exact absurd rfl (Bj5 _)
   have hcc:cellsOf c=[c]:=by cases c<;>first|rfl|exact absurd rfl (Bef _)
   refine⟨c,bs,a,by rw[Biv,CH];exact G,Bms,λF4=>by rw[hcc];exact s (TQ F4).2,λi hi=>Ke c Ψ i (by rw[<-Z];exact hi),l,λw A own β' z f u m q=>?_⟩
   have O:Jq w A (own f) p u:=by cases p<;>first|exact q|exact absurd rfl (C _)|exact absurd rfl (Bj5 _)
   exact⟨(PL Bef).2 (WK w A own β' f [u] m ⟨O,trivial⟩).1,by rw[Biv];exact Tn w A own β' f [u] m ⟨O,trivial⟩ z⟩
  ·rw[Jf] at a;obtain⟨ps,rfl,a⟩:=Lt (show Cr _ _=some r from a);obtain⟨E,bs,a,G,A52,V,s,y,Ke,WK⟩:=JX shr N a;obtain⟨l,Tn⟩:=boxes y;refine⟨.agg E,bs,a,by rw[CH];exact G,Ψ,λF4=>s (TQ F4).2,λi hi=>?_,l,λw A own β' z f u m q=>?_⟩
   ·obtain⟨c,Q,hi⟩:=zk.1 (show i∈E.flatMap A6 from hi);exact Ke c Q i hi
   ·obtain⟨vs,rfl,q⟩:=q;exact⟨⟨vs,rfl,WK w A own β' f vs m q⟩,Tn w A own β' f vs m q z⟩
theorem UM(shr:Bool)(N:Nat):∀{ts:List TypeId}{ps:Ae}{id:Nat}{K:Ae->List (Nat × Co)->Option R},VN P shr N id ts ps K=some r ->
  ∃vs bs,K vs bs=some r/\vs.length=ps.length/\(∀v∈vs,∀x,v ≠ .tup x)/\(Pz P ts=false->bs=[]/\∀v∈vs,∀c∈cellsOf v,∃u,c=.sc u)/\(∀v∈vs,∀i∈Dj v,∃b,(i,b)∈bs)/\UT bs /\
   ∀(w:World) (A:Nat->Prop) (own β':Bt) (z f:Nat) (us:List Value),(∀j,(∃b,(id+N*j,b)∈bs)->β' (id+N*j)=own (f+j))->Af6 w A own z f ps us->B4 (Mq w A β') vs us/\A3y N id β' w A z (To ps) bs
 |[],ps,id,K,d=>by
  obtain⟨rfl,d⟩:=Fj d;refine⟨[],[],d,rfl,Ψ,Ψ,Ψ,(by intro i cells a;cases a),λw A own β' z f us _ h=>?_⟩
  cases us with
  |nil=>exact⟨trivial,by intro i b a;cases a⟩
  |cons u us=>exact h.elim
 |t::ts,ps,id,K,d=>by
  unfold VN at d;obtain⟨p,Q,WV,S⟩:=B5 d;subst WV;clear d;obtain⟨v,bs,d,T,m,n,o,q,U⟩:=Azj shr N S;obtain⟨vs,s,d,QA,Boq,Be4,y,Bp3,Ox⟩:=UM shr N d;refine⟨v::vs,bs++s,d,by simp[QA],?_,?_,?_,?_,λw A own β' z f us L B=>?_⟩
  ·intro x e;rcases zl.1 e with rfl|e
   ·exact m
   ·exact Boq x e
  ·intro C;simp only[Pz,xt,ve] at C;obtain⟨D,E⟩:=n (by simp only[Pz,xt,xu,vd,ve];exact C.1)
   obtain⟨V,g⟩:=Be4 (by simp only[Pz];exact C.2)
   refine⟨by rw[D,V];rfl,λx e=>?_⟩
   rcases zl.1 e with rfl|e
   ·exact E
   ·exact g x e
  ·intro x e i hi;rcases zl.1 e with rfl|e
   ·obtain⟨b,a⟩:=o i hi;exact⟨b,by simp[a]⟩
   ·obtain⟨b,a⟩:=y x e i hi;exact⟨b,by simp[a]⟩
  ·intro i cells a c M O k;rcases B8.1 a with a|a
   ·obtain⟨b,G⟩:=q i cells a c M O k;exact⟨b,by simp[G]⟩
   ·obtain⟨b,G⟩:=Bp3 i cells a c M O k;exact⟨b,by simp[G]⟩
  ·cases us with
   |nil=>exact B.elim
   |cons u us=>
    obtain⟨D,W⟩:=U w A own β' z f u (λj ⟨b,a⟩=>L j ⟨b,by simp[a]⟩) B.1;have Ce:∀j,id+N*Amy P t+N*j=id+N*(Amy P t+j):=λj=>by rw[kq];omega
    obtain⟨E,Ke⟩:=Ox w A own β' z (f+plc p) us (λj ⟨b,a⟩=>by rw[Ce,L _ ⟨b,by rw[<-Ce];simp[a]⟩,T];congr 1;omega) B.2
    refine⟨⟨D,E⟩,λi b a=>?_⟩;rcases B8.1 a with a|a
    ·obtain⟨⟨j,H,l⟩,g,J⟩:=W i b a;exact⟨⟨j,H,by simp only[To,ER,xx];omega⟩,g,J⟩
    ·obtain⟨⟨j,H,l⟩,g,J⟩:=Ke i b a;refine⟨⟨_,by rw[H,Ce],?_⟩,g,J⟩;simp only[To,ER,xx] at l ⊢;omega
def XH(N d:Nat)(bs:List (Nat × Co))(own β:Bt):Bt:=λi=>if (bs.any λq=>Nat.beq q.1 i)=true then own ((i-d) / N) else β i
theorem Aib{i:Nat}:(bs.any λq=>Nat.beq q.1 i)=true↔∃a,(i,a)∈bs:=by
 rw[zm];constructor
 ·rintro⟨⟨j,a⟩,b,e⟩
  have:=Ed e;subst this;exact⟨a,b⟩
 ·rintro⟨a,b⟩
  exact⟨_,b,Uz i⟩
theorem Atf{N d j:Nat}(a:0<N){own β:Bt}(h:∃b,(d+N*j,b)∈bs):XH N d bs own β (d+N*j)=own j:=by unfold XH;rw[Bv (Aib.2 h),ku,kv _ a]
theorem Am1{c:Call}{f:FuncId}(e:o.op=.call c)(g:c.callee=.value (.func f))(Rv:NoNG P){fn:Func}(b:P.funcs[f]?=some fn)(d:fn.body.isSome=true):
  (execOp a.eval o).run P w=.ok (.enter f (c.args.map a.eval)) w:=by
 unfold execOp;rw[e]
 have i:¬fn.body=none:=by
  intro h;rw[h] at d;cases d
 have j:¬fn.name = "runtime.NumGoroutine" :=by simpa using Rv f fn b
 simp[resolve,g,Act.eval,Deferred.ofValue,invoke,callFunc,b,j,i]
theorem Ax2{c:Call}{t:Nat}{f:FuncId}(e:o.op=.call c)(g:c.callee=.value (.tmp t))(ht:a.eval (.tmp t)=.func (.func f) #[] #[])(Rv:NoNG P){fn:Func}(b:P.funcs[f]?=some fn)(d:fn.body.isSome=true):
  (execOp a.eval o).run P w=.ok (.enter f (c.args.map a.eval)) w:=by
 unfold execOp;rw[e]
 have i:¬fn.body=none:=by
  intro h;rw[h] at d;cases d
 have j:¬fn.name = "runtime.NumGoroutine" :=by simpa using Rv f fn b
 simp[resolve,g,ht,Deferred.ofValue,invoke,callFunc,b,j,i]
theorem WO{A':Nat->Prop}(k:Bool):∀{I:List Operand}{ps:Ae},B4 (DO w A') ps (I.map a.eval)->B4 (DO w A') (Pw k I ps) (I.map a.eval)
 |[],[],h=>h
 |[],_::_,h=>h
 |_::_,[],h=>h
 |x::I,p::ps,h=>by
  simp only[ER] at h ⊢;refine⟨?_,WO k h.2⟩;split
  ·exact⟨trivial,A7.lnil _ _⟩
  ·exact h.1
theorem ZU(h : D3 N w0 X0 Y β s a w){G : MD}(Rv : Env P G w0 X0){C : Lf}{F : An}(Fp : ∀ f args O, F f args = some O -> Ep G P f args O){c : Call}{f : FuncId}(Dz : ∀ {fn : Func}, P.funcs[f]? = some fn -> fn.body.isSome = true -> (execOp a.eval o).run P w = .ok (.enter f (c.args.map a.eval)) w){K : PV -> Cl -> List (Nat × Co) -> Option R}(p : (Acq P (Pf s.hp) (Abi P f c) (c.args.toList.map (Da s.tm)) λvs m =>
          Ao (F f (Pw (C.kz f) c.args.toList vs)) λrv ro => Ag ro (As (jh 0 N) <| VN P (C.shr f) N (o.dst.getD 0) (Ww P o.type) rv λws bs =>
            As (bif Yl P o.type then !Nat.beq ws.length 1 else Nat.beq ws.length 1) <| K (Xh ws (Yl P o.type)) (bif Pz P (Ww P o.type) then m else []) bs)) = some r): ∃ v fz nw, K v fz nw = some r /\ Abs P a w o Y β s v fz nw := by
  obtain⟨ps, m, p, d, Hw⟩ := Af8 h p
  replace Hw := λfz D h2 => WO (a := a) (C.kz f) (Hw fz D h2)
  generalize Pw (C.kz f) c.args.toList ps = ps at p Hw
  obtain⟨rv, ro, Sf, p⟩ := Agj p
  obtain⟨rfl, p⟩ := Fj p
  obtain⟨hN, p⟩ := Ax p
  have hN : 0 < N := kw (Vc hN)
  obtain⟨ws, bs, p, hwl, S, T, U, hri, hws⟩ := UM (C.shr f) N p
  obtain⟨AA, p⟩ := Ax p
  obtain⟨⟨fn, hfn, hfb⟩, EF⟩ := Fp f ps _ Sf
  obtain⟨fz, EO, V⟩ : ∃ fz : Cl, fz = (bif Pz P (Ww P o.type) then m else []) /\ ∀ id ∈ fz, ∃ f c, s.hp id = some (.ar f c) := by
    refine⟨_, rfl, λid Ce => ?_⟩
    cases hh : Pz P (Ww P o.type) <;> rw[hh] at Ce
    · cases Ce
    · exact d id Ce
  rw[<- EO] at p
  refine⟨_, _, _, p, V, λnext Q hn => ?_⟩
  have hf := h.freeze V
  have hYc : ∃ Yc : Nat -> Prop, (∀ b, Yc b -> b < w.heap.size) /\ B4 (DO w Yc) ps (c.args.toList.map a.eval) /\ ((∀ b, Em (Aj s.hp fz) β Y b -> Yc b) \/ Pz P (Ww P o.type) = false) := by
    have M := Hw m (λ_ hi => hi) d
    cases hh : Pz P (Ww P o.type)
    · exact⟨λ_ => False, λ_ x => x.elim, M.mono λ_ _ W => W.weaken (λ_ _ x => x.elim), .inr rfl⟩
    · rw[hh] at EO
      have EO : fz = m := EO
      subst EO
      refine⟨Em (Aj s.hp fz) β Y, λb X => ?_, M, .inl λ_ x => x⟩
      rcases X with⟨id, E, Z, A⟩ | hY
      · exact hf.blt id b E (D9 Z) A
      · exact Iv (h.Ylt b hY) h.fr.step.size
  obtain⟨Yc, Bpj, hYargs, q⟩ := hYc
  unfold Oper.wp
  rw[Dz hfn hfb]
  show Calls P f _ w _
  have hca : c.args.map a.eval = (c.args.toList.map a.eval).toArray := by rw[<- xy, vg]
  rw[hca]
  refine (EF w Yc Ai3 _ (YY Bpj hYargs) (Rv.fr w h.fr) (λb x => ⟨Iv (Rv.y b x).1 h.fr.step.size, Yd b⟩)).mono ?_
  rintro e w' ⟨vs, own, rfl, XK⟩
  refine hn (J1 vs) w' λZd => ⟨XH N (o.dst.getD 0) bs own β, ?_⟩
  obtain⟨ha1, CG⟩ := Cg Zd
  have Azo : ∀ i k, (i, k) ∈ bs -> Aj s.hp fz i = none := λi k d => F1.2 (ha1 i k d)
  obtain⟨hg1, hg2⟩ := Gq (hp := Aj s.hp fz) CG
  have H : ∀ i, Aj s.hp fz i ≠ none -> XH N (o.dst.getD 0) bs own β i = β i := by
    intro i hi
    unfold XH
    rw[Bd]
    intro W
    obtain⟨k, d⟩ := Aib.1 W
    exact hi (Azo i k d)
  obtain⟨Ox, J⟩ := hws w' _ own (XH N (o.dst.getD 0) bs own β) w.heap.size 0 vs (λj hj => by rw[Atf hN hj, I8]) XK.vals
  have ND : ∀ i k, (i, k) ∈ bs -> ∃ j, i = o.dst.getD 0 + N * j /\ XH N (o.dst.getD 0) bs own β i = own j := by
    intro i k d
    obtain⟨⟨j, rfl, _⟩, _, _⟩ := J i k d
    exact⟨j, rfl, Atf hN ⟨k, d⟩⟩
  have t : Pz P (Ww P o.type) = false \/ ∀ b, Em (A8 (Aj s.hp fz) bs) (XH N (o.dst.getD 0) bs own β) Y b -> IK Ai3 own Yc b := by
    rcases q with q | q
    · refine .inr λb X => ?_
      rcases X with⟨i, E, Z, A⟩ | hY
      · by_cases hi : ∃ k, (i, k) ∈ bs
        · obtain⟨k, d⟩ := hi
          obtain⟨j, _, h3⟩ := ND i k d
          rw[h3] at A
          exact .inl ⟨j, E, A⟩
        · rw[hg2 i (λk d => hi ⟨k, d⟩)] at Z
          rw[H i (D9 Z)] at A
          exact .inr (.inr (q b (.inl ⟨i, E, Z, A⟩)))
      · exact .inr (.inr (q b (.inr hY)))
    · exact .inl q
  have hval : Gw w' (Em (A8 (Aj s.hp fz) bs) (XH N (o.dst.getD 0) bs own β) Y) (XH N (o.dst.getD 0) bs own β) (Xh ws (Yl P o.type)) (J1 vs) := by
    have M : B4 (Mq w' (Em (A8 (Aj s.hp fz) bs) (XH N (o.dst.getD 0) bs own β) Y) (XH N (o.dst.getD 0) bs own β)) ws vs := by
      rcases t with L | t
      · obtain⟨_, g⟩ := T L
        refine Ox.mono_mem λv hv u B => ?_
        have g := g v hv
        cases v with
        | agg cs =>
          obtain⟨I, rfl, hxs⟩ := B
          refine⟨I, rfl, hxs.mono_mem λcc hcc x W => ?_⟩
          obtain⟨y, rfl⟩ := g cc hcc
          have := A7.val (w := w') W
          subst this
          exact A7.sc _
        | sc y =>
          have := A7.val (w := w') B
          subst this
          exact A7.sc _
        | lst z es n cc => obtain⟨y, l⟩ := g _ (Zh _); cases l
        | own es n cc => obtain⟨y, l⟩ := g _ (Zh _); cases l
        | view i es n cc => obtain⟨y, l⟩ := g _ (Zh _); cases l
        | ptr i cc => obtain⟨y, l⟩ := g _ (Zh _); cases l
        | iptr i cc => obtain⟨y, l⟩ := g _ (Zh _); cases l
        | pbox cc => obtain⟨y, l⟩ := g _ (Zh _); cases l
        | tup cc => obtain⟨y, l⟩ := g _ (Zh _); cases l
        | top => obtain⟨y, l⟩ := g _ (Zh _); cases l
        | ub => obtain⟨y, l⟩ := g _ (Zh _); cases l
      · exact Ox.mono λv u B => B.step (Df.refl _ _) (λb _ => t b) (λ_ _ => rfl)
    have Ev := M.len
    cases hT : Yl P o.type
    · rw[hT] at AA
      have D : ws.length = 1 := Ed AA
      match ws, vs, D, Ev with
      | [v], [u], _, _ =>
        exact (Yk (S v Ψ)).2 M.1
    · rw[hT] at AA
      have D : ¬ ws.length = 1 := by
        intro e
        rw[e] at AA
        cases AA
      have hr : J1 vs = .tuple ⟨vs⟩ := by
        unfold J1
        split
        · simp at Ev; omega
        · rfl
      rw[hr]
      exact⟨vs, rfl, M⟩
  refine⟨XK.os, XK.tape, XK.output, XK.ext.weaken (λb _ X => Yd b X), H, ?_, ?_, ?_, ?_, ?_, hval, ?_⟩
  · intro i k d
    exact (J i k d).2.1
  · intro i k d
    rcases t with L | t
    · rw[(T L).1] at d; cases d
    · exact (J i k d).2.2.1.step' t
  · intro i k b E d A
    obtain⟨j, _, h3⟩ := ND i k d
    rw[h3] at A
    obtain⟨h4, h5⟩ := XK.fresh j b E A
    refine⟨?_, h4⟩
    rcases Kp b w.heap.size with h | h
    · obtain⟨⟨_, _, _, h6⟩, _⟩ := h5 h
      cases h6
    · exact h
  · intro i k i' bx' b E ob' d N0 A hβ'
    obtain⟨j, D, h3⟩ := ND i k d
    obtain⟨j', h1', h3'⟩ := ND i' bx' N0
    rw[h3] at A
    rw[h3'] at hβ'
    rw[D, h1', XK.inj j j' b E ob' A hβ']
  · intro i cells d c hc i' hi'
    exact .inr (hri i cells d c hc i' hi')
  · intro i hi
    right
    cases hT : Yl P o.type
    · rw[hT] at AA hi
      have D : ws.length = 1 := Ed AA
      match ws, D with
      | [v], _ =>
        refine U v Ψ i ?_
        have : Cy v = Dj v := by
          have hn := S v Ψ
          cases v <;> first | rfl | exact absurd rfl (hn _)
        rw[<- this]
        exact hi
    · rw[hT] at hi
      obtain⟨v, hv, hi⟩ := zk.1 (show i ∈ ws.flatMap Dj from hi)
      exact U v hv i hi
end
open Go.RowKit
section
variable {R:Type}{r:R}{P:Program}{N:Nat}{w0:World}{X0:M0}{Y:Nat->Prop}{β β':Bt}{s:St}{a:Act}{w w':World}{o:Oper}{A:Nat->Prop}
theorem D3.move(h:D3 N w0 X0 Y β s a w){id d:Nat}{c cells:Ae}{r:Option (Nat × Nat)}{v:PV}{val:Value}(R:s.hp id=some (.ar false c))(hd:s.hp d=none)(hdN:d<N)(hos:w'.os=w.os)(htp:w'.tape=w.tape)(XK:w'.output=w.output)(Ank:w.heap.size<=w'.heap.size)(Sx:∀k,k<w.heap.size->(∀x,β id≠some (k,x))->w'.heap[k]?=w.heap[k]?)(S:∀k,k<w.heap.size->Kk w w' k)(G:∀k x,r=some (k,x)->k<w'.heap.size/\(w.heap.size<=k\/∃y,β id=some (k,y)))(hbr:∀k x,r=some (k,x)->k<w.heap.size->β id=some (k,x))(hO:∀k y,β id=some (k,y)->k<w.heap.size->∀j,j<y->w'.cell? ⟨k,j,none⟩=w.cell? ⟨k,j,none⟩/\w'.frozen? ⟨k,j,none⟩=w.frozen? ⟨k,j,none⟩)(Tn:EB w' (Em (Dy (Dy s.hp id (some .mv)) d (some (.ar false cells))) (Dy β d r) Y) (Dy β d r) d (.ar false cells))(hv:Gw w' (Em (Dy (Dy s.hp id (some .mv)) d (some (.ar false cells))) (Dy β d r) Y) (Dy β d r) v val)(hr:∀i∈Cy v,i=d):
  D3 N w0 X0 Y (Dy β d r) ⟨Dy s.tm d v,Dy (Dy s.hp id (some .mv)) d (some (.ar false cells))⟩ (a.put (some d) val) w':=by
 have F4:id≠d:=by rintro rfl;rw[R] at hd;cases hd
 have Wc:∀i,i≠id->i≠d->Dy (Dy s.hp id (some Co.mv)) d (some (.ar false cells)) i=s.hp i:=λi o M=>by rw[Au _ _ M,Au _ _ o]
 have A71:Dy (Dy s.hp id (some Co.mv)) d (some (.ar false cells)) id=some .mv:=by rw[Au _ _ F4,Ay]
 have A:Dy (Dy s.hp id (some Co.mv)) d (some (.ar false cells)) d=some (.ar false cells):=Ay _ _ _
 have Es:∀i,s.hp i≠none->Dy (Dy s.hp id (some Co.mv)) d (some (.ar false cells)) i≠none:=by
  intro i hi;by_cases e:i=id
  ·subst e;rw[A71];simp
  ·by_cases f:i=d
   ·subst f;rw[A];simp
   ·rw[Wc i e f];exact hi
 have H:∀i,s.hp i≠none->Dy β d r i=β i:=λi hi=>Au _ _ (by rintro rfl;exact hi hd)
 have Anb:Eo (s.hp id):=by rw[R];trivial
 have Kc:∀i,Eo (Dy (Dy s.hp id (some Co.mv)) d (some (.ar false cells)) i)->i=d\/(i≠id/\i≠d/\Eo (s.hp i)):=by
  intro i hi;by_cases f:i=d
  ·exact .inl f
  ·by_cases e:i=id
   ·subst e;rw[A71] at hi;exact hi.elim
   ·rw[Wc i e f] at hi;exact .inr ⟨e,f,hi⟩
 have hX:∀k,k<w.heap.size->Xof (Dy (Dy s.hp id (some .mv)) d (some (.ar false cells))) (Dy β d r) k->Xof s.hp β k:=by
  rintro k m ⟨i,x,B,l⟩
  rcases Kc i B with rfl|⟨e,f,B⟩
  ·rw[Ay] at l;rcases (G k x l).2 with P7|⟨y,E⟩
   ·omega
   ·exact⟨id,y,Anb,E⟩
  ·rw[Au _ _ f] at l;exact⟨i,x,B,l⟩
 have J:∀k,k<w.heap.size->Em (Dy (Dy s.hp id (some .mv)) d (some (.ar false cells))) (Dy β d r) Y k->Em s.hp β Y k:=λk m C=>C.imp (hX k m) (λy=>y);have I1:Df (Em s.hp β Y) w w':=⟨Ank,λk m hn=>Sx k m λx C=>hn (.inl ⟨id,x,Anb,C⟩),S⟩
 have A0v:∀i k x,i≠id->i≠d->(∃b,s.hp i=some b/\b ≠ .mv)->β i=some (k,x)->k<w.heap.size/\w'.heap[k]?=w.heap[k]?:=by
  rintro i k x e f ⟨b,g,hmv⟩ l
  have m:=h.blt i k x (by rw[g];simp) l
  refine⟨m,Sx k m λy E=>?_⟩;have Axl:=h.box i b g;cases b with
  |st cc=>exact e (h.inj i id k x y (by rw[g];trivial) Anb l E)
  |ar fz cc=>
   cases fz with
   |false=>exact e (h.inj i id k x y (by rw[g];trivial) Anb l E)
   |true=>
    rcases Axl with⟨o,_⟩|⟨k',x',o,_,_,h4⟩
    ·rw[l] at o;cases o
    ·rw[l] at o;simp at o;obtain⟨rfl,rfl⟩:=o
     exact h4 rfl (.inl ⟨id,y,Anb,E⟩)
  |mv=>exact absurd rfl hmv
 refine⟨by rw[DG];exact h.dfr,by rw[PI];exact h.tsz,?_,?_,?_,?_,?_,?_,?_,?_,?_,?_,?_,?_,h.Ylt,?_⟩
 ·intro i hi;show Dy s.tm d v i=_;rw[Au _ _ Ω];exact h.tmo i hi
 ·refine Y5 (d:=some d) (Q:=λ_ p u=>Gw w' (Em (Dy (Dy s.hp id (some .mv)) d (some (.ar false cells))) (Dy β d r) Y) (Dy β d r) p u) h.tsz (by simp[Jr,jh];omega) (λi hi=>?_) (λ_=>hv)
  exact (h.tms i hi).step I1 J λj n=>H j (h.wfT i hi j n)
 ·intro i bi g;simp only at g;by_cases f:i=d
  ·subst f;rw[A] at g;cases g;exact Tn
  ·by_cases e:i=id
   ·subst e;rw[A71] at g;cases g;trivial
   ·rw[Wc i e f] at g;have O:=H i (by rw[g];simp)
    have XC:=h.box i bi g;cases bi with
    |st cc=>
     obtain⟨k,x,o,M,h3⟩:=XC;obtain⟨m,K⟩:=A0v i k x e f ⟨_,g,Ψ⟩ o;refine⟨k,x,by rw[O];exact o,λj p n=>?_,λj n=>?_⟩
     ·obtain⟨u,hu,D⟩:=M j p n;exact⟨u,by rw[jw (w:=w) K];exact hu,D.step I1 J λq P=>H q (h.wfB i cc g p (zn n) q P)⟩
     ·rw[jx (w:=w) K];exact h3 j n
    |ar fz cc=>
     rcases XC with⟨o,M⟩|⟨k,x,o,M,h3,h4⟩
     ·exact .inl ⟨by rw[O];exact o,M⟩
     ·obtain⟨m,K⟩:=A0v i k x e f ⟨_,g,Ψ⟩ o;refine .inr ⟨k,x,by rw[O];exact o,λj p n=>?_,λef j n X7=>?_,λef C=>h4 ef (J k m C)⟩
      ·obtain⟨u,hu,h5,D⟩:=M j p n;exact⟨u,by rw[jw (w:=w) (by rw[Hp];exact K)];exact hu,h5,D.step I1 J⟩
      ·rw[jx (w:=w) K];refine h3 ef j n ?_;unfold bsz at X7 ⊢;rw[K] at X7;exact X7
    |mv=>trivial
 ·intro i i' k x y B Rj g Mv;simp only at B Rj
  have T:∀j z,j≠id->j≠d->Eo (s.hp j)->β j=some (k,z)->r=some (k,y)\/r=some (k,x)->False:=by
   intro j z e f U V hbk;have m:=h.blt j k z (D9 U) V;have:∃t,r=some (k,t):=by rcases hbk with q|q<;>exact⟨_,q⟩
   obtain⟨t,ht⟩:=this;rcases (G k t ht).2 with P7|⟨q,P⟩
   ·omega
   ·exact e (h.inj j id k z q U Anb V P)
  rcases Kc i B with rfl|⟨e,f,W⟩
  ·rcases Kc i' Rj with rfl|⟨e2,L,Bcu⟩
   ·rfl
   ·rw[Ay] at g;rw[Au _ _ L] at Mv;exact (T i' y e2 L Bcu Mv (.inr g)).elim
  ·rcases Kc i' Rj with rfl|⟨e2,L,Bcu⟩
   ·rw[Ay] at Mv;rw[Au _ _ f] at g;exact (T i x e f W g (.inl Mv)).elim
   ·rw[Au _ _ f] at g;rw[Au _ _ L] at Mv;exact h.inj i i' k x y W Bcu g Mv
 ·intro i k x hi g;simp only at hi;by_cases f:i=d
  ·subst f;rw[Ay] at g;exact (G k x g).1
  ·rw[Au _ _ f] at g
   have hi':s.hp i≠none:=by
    by_cases e:i=id
    ·subst e;rw[R];simp
    ·rw[Wc i e f] at hi;exact hi
   exact Iv (h.blt i k x hi' g) Ank
 ·have:=Y5 (d:=some d) (Q:=λ_ p _=>∀j∈Cy p,Dy (Dy s.hp id (some Co.mv)) d (some (.ar false cells)) j≠none) (val:=val) (v:=v) h.tsz (by simp[Jr,jh];omega) (λi hi j n=>Es j (h.wfT i hi j n)) (λ_ j n=>by
   rw[hr j n,A];simp)
  exact this
 ·intro i cc D p hp j n;simp only at D;by_cases f:i=d
  ·subst f;rw[A] at D;cases D
  ·by_cases e:i=id
   ·subst e;rw[A71] at D;cases D
   ·rw[Wc i e f] at D;exact Es j (h.wfB i cc D p hp j n)
 ·rintro k ⟨i,x,B,l⟩
  rcases Kc i B with rfl|⟨e,f,B⟩
  ·rw[Ay] at l;rcases (G k x l).2 with P7|⟨y,E⟩
   ·exact .inr (jl h.fr.step.size P7)
   ·exact h.ownd k ⟨id,y,Anb,E⟩
  ·rw[Au _ _ f] at l;exact h.ownd k ⟨i,x,B,l⟩
 ·intro i bi k x XC X l Ct j n;simp only at XC;rcases Kc i (by rw[XC];exact X) with rfl|⟨e,f,B⟩
  ·rw[Ay] at l;rw[A] at XC;cases XC;have:=hbr k x l (Iv Ct h.fr.step.size);exact h.rngB id (.ar false c) k x R trivial this Ct j n
  ·rw[Wc i e f] at XC;rw[Au _ _ f] at l;exact h.rngB i bi k x XC X l Ct j n
 ·intro i hi;exact⟨Es _ (h.pin i hi).1,by rw[H _ (h.pin i hi).1];exact (h.pin i hi).2⟩
 ·intro i cc k x XC l Ct;simp only at XC;rcases Kc i (by rw[XC];trivial) with rfl|⟨e,f,B⟩
  ·rw[A] at XC;cases XC
  ·rw[Wc i e f] at XC;rw[Au _ _ f] at l;exact h.stp i cc k x XC l Ct
 ·intro k hY C;exact h.Yx k hY (hX k (Iv (h.Ylt k hY) h.fr.step.size) C)
 ·refine⟨hos.trans h.fr.os,htp.trans h.fr.tape,XK.trans h.fr.output,⟨jl h.fr.step.size Ank,λk m Z=>?_,λk m=>(h.fr.step.bs k m).trans (S k (Iv m h.fr.step.size))⟩,λk j m hL=>?_⟩
  ·rw[Sx k (Iv m h.fr.step.size) ?_]
   ·exact h.fr.step.keep k m Z
   ·intro x C;rcases h.ownd k ⟨id,x,Anb,C⟩ with P|P
    ·exact Z P
    ·omega
  ·have hkw:=Iv m h.fr.step.size
   have VJ:w'.cell? ⟨k,j,none⟩=w.cell? ⟨k,j,none⟩/\w'.frozen? ⟨k,j,none⟩=w.frozen? ⟨k,j,none⟩:=by
    by_cases e:∃y,β id=some (k,y)
    ·obtain⟨y,E⟩:=e;refine hO k y E hkw j ?_;rcases Kp j y with q|q
     ·exact q
     ·exact absurd (h.rngB id (.ar false c) k y R trivial E m j q) hL
    ·have K:=Sx k hkw (λx C=>e ⟨x,C⟩);exact⟨jw (w:=w) K,jx (w:=w) K⟩
   rw[VJ.1,VJ.2];exact h.fr.rng k j m hL
end
open Go.RowKit
section
variable {R:Type}{r:R}{P:Program}{N:Nat}{w0:World}{X0:M0}{Y:Nat->Prop}{β β':Bt}{s:St}{a:Act}{w w':World}{o:Oper}{A:Nat->Prop}
structure Src(P:Program)(w:World)(A:Nat->Prop)(size:Nat)(xv:Value)(m:Nat)(new:Ae)(news:List Value):Prop where
 len:∀w':World,(Builtin.lenOf xv).run P w'=.ok m w'
 cells:∀w':World,(∀b,b<w.heap.size->w'.heap[b]?=w.heap[b]?)->(Builtin.firstCells size m xv).run P w'=.ok news.toArray w'
 part:∀k,k<=m->(Builtin.firstCells size k xv).run P w=.ok (news.take (k*size)).toArray w
 one:∀u∈news,u.oneCell'=true
 rep:B4 (A7 w A) new news
theorem Aan(h:D3 N w0 X0 Y β s a w){K:Nat->Ae->Option R}(n:Aqv P s (Bx P e) tx (Da s.tm x) K=some r)(z:∀m new,K m new=some r->new.length=m*Bx P e):
  (∃d,P.underlying tx=some d/\(∀k,d ≠ .int k))/\∃m new news,K m new=some r/\Src P w (Em s.hp β Y) (Bx P e) (a.eval x) m new news:=by
 unfold Aqv Arm at n;split at n
 ·rename_i i;obtain⟨FZ,n⟩:=Ax n;have FZ:=Ed FZ;obtain⟨b,A,n⟩:=E8 n;have o:=Db h A;refine⟨⟨_,i,Ψ⟩,b.size,Dt b,b.data.toList.map (λy=>Value.int .u8 y.toNat),n,?_,?_,?_,?_,?_⟩
  ·intro w';rw[o];rfl
  ·intro w' _;rw[o]
   have A:b.data.extract 0 b.size=b.data:=by
    have:b.size=b.data.size:=rfl;rw[this,Array.extract_size]
   have hd:(b.extract 0 b.size).data=b.data:=by
    rw[ByteArray.extract_zero_size]
   simp only[vm,hd];rw[<-Array.toList_map,vg];rfl
  ·intro k t;rw[o,FZ,Jp];have hd:(b.extract 0 k).data=b.data.extract 0 k:=ByteArray.data_extract
   have B:(b.data.extract 0 k).map (λy=>Value.int .u8 y.toNat)=((b.data.toList.map λy=>Value.int .u8 y.toNat).take k).toArray:=by
    apply Array.toList_inj.1;simp[List.map_take]
   simp only[vm,hd];rw[B];rfl
  ·intro u i;simp at i;obtain⟨y,_,rfl⟩:=i;rfl
  ·unfold Dt;generalize b.data.toList=l
   induction l with
   |nil=>trivial
   |cons y l C=>exact⟨A7.sc _,C⟩
 ·rename_i J i;refine⟨⟨_,i,Ψ⟩,?_⟩;obtain⟨m,new,n,g⟩:=Acp h n;have Ev:=z m new n;rcases g with⟨⟨ad,o⟩,rfl,rfl⟩|⟨ad,cap,o,L,Ct,q⟩
  ·have f0:∀w':World,(vm (Bx P e) 0 (.slice ad 0 0)).run P w'=.ok #[] w':=λw'=>by
    cases ad with
    |none=>rfl
    |some p=>exact run_firstCells_some (P:=P) w' (Bx P e) 0 p 0 0 [] Ψ (λj v f=>by simp at f)
   exact⟨0,[],[],n,λw'=>by rw[o];rfl,λw' _=>by rw[o];exact f0 w',λk t=>by rw[o,Nat.le_zero.1 t,List.take_nil];exact f0 w,Ψ,trivial⟩
  ·refine⟨m,new,new.mapIdx (λj _=>(w.cell? (ad.add j)).getD undef),n,λw'=>by rw[o];rfl,λw' D=>?_,λk t=>?_,?_,?_⟩
   ·rw[o];refine run_firstCells_some (P:=P) w' (Bx P e) m ad m cap _ (by simp[Ev]) λj v f=>?_;rw[xz] at f;cases g:new[j]? with
    |none=>rw[g] at f;cases f
    |some c=>
     rw[g] at f;simp at f;obtain⟨u,i,_⟩:=q j c g;rw[i] at f;simp at f;subst f;have Ct:ad.block<w.heap.size:=by rcases Ct with rfl|Ct<;>first|exact Ct|simp at g
     rw[jw (w:=w) (by rw[Hp];exact D _ Ct)]
     exact i
   ·rw[o];have E:k*Bx P e<=m*Bx P e:=ky _ t;refine run_firstCells_some (P:=P) w (Bx P e) k ad m cap _ (by rw[x7,ka,Ev];omega) λj v f=>?_
    rw[zt] at f;split at f
    ·rw[xz] at f;cases g:new[j]? with
     |none=>rw[g] at f;cases f
     |some c=>
      rw[g] at f;simp at f;obtain⟨u,i,_⟩:=q j c g;rw[i] at f;simp at f;subst f;exact i
    ·cases f
   ·intro u i;obtain⟨j,f⟩:=zq.1 i;rw[xz] at f;cases g:new[j]? with
    |none=>rw[g] at f;cases f
    |some c=>
     rw[g] at f;simp at f;obtain⟨v,G,H,ht⟩:=q j c g;rw[G] at f;simp at f;subst f;exact H
   ·refine B4.of_at Ψ λj c v g f=>?_;rw[xz,g] at f;simp at f;obtain⟨u,i,_,ht⟩:=q j c g;rw[i] at f;simp at f;subst f;exact ht
 ·cases n
theorem Aay(h:Ait P e=true):∃i z,P.info? e=some i/\i.zero=some z/\z.cells.size=i.size/\Bx P e=i.size:=by
 unfold Ait at h;split at h
 ·rename_i i hi;split at h
  ·rename_i z a;exact⟨i,z,hi,a,Ed h,by simp[Bx,hi]⟩
  ·cases h
 ·cases h
theorem run_first_slice{es n cap:Nat}{olds:List Value}(h:(ad=none/\olds=[])\/∃p,ad=some p/\olds.length=n*es/\∀(j:Nat) v,olds[j]?=some v->w.cell? (p.add j)=some v):
  (vm es n (.slice ad n cap)).run P w=.ok olds.toArray w:=by
 rcases h with⟨rfl,rfl⟩|⟨p,rfl,a,b⟩
 ·rfl
 ·exact run_firstCells_some (P:=P) w es n p n cap olds a b
theorem append_grow_run{ty:TypeId}(ht:P.underlying t=some (.slice e))(b:P.underlying tx=some d)(hd:∀k,d ≠ .int k)(hi:P.info? e=some i)(h:i.zero=some z){n cap m:Nat}{c:Value}{olds:List Value}{A:Nat->Prop}(g:Src P w A i.size c m new news)(a:(ad=none/\olds=[])\/∃p,ad=some p/\olds.length=n*i.size/\∀(j:Nat) v,olds[j]?=some v->w.cell? (p.add j)=some v)(l:cap<n+m)(E:(n+m)*i.bytes<=1099511627776)(o:n+m<=1099511627776):
  (vn (t::tx::ts).toArray ty #[.slice ad n cap,c]).run P w =
   .ok (.slice (some ⟨w.heap.size,0,none⟩) (n+m) (grownCap w (n+m) cap e)) (w.drew.alloc (.cells (olds.toArray++news.toArray++vp z.cells (grownCap w (n+m) cap e-(n+m))) e)):=by
 have q:=g.len w;have r:(vm i.size m c).run P w.drew=.ok news.toArray w.drew:=g.cells w.drew (λ_ _=>rfl)
 have s:(vm i.size n (.slice ad n cap)).run P w.drew=.ok olds.toArray w.drew:=run_first_slice (w:=w.drew) (by
  rcases a with x|⟨p,hp,y,B⟩
  ·exact .inl x
  ·exact .inr ⟨p,hp,y,λj v C=>B j v C⟩)
 have Axi:=growslice_fits (need:=n+m) (old:=cap) (bytes:=i.bytes) l Ω;have D:¬(n+m<=cap):=Ω
 have A70:¬(9223372036854775807<((n:Int)+(m:Int))):=Ω
 have A7d:¬(281474976710656<vq (n+m) cap*i.bytes):=Ω
 have f:(match d with | .int _=>true|_=>false)=false:=by cases d<;>first|rfl|exact absurd rfl (hd _)
 simp[vn,run_underlying ht,run_underlying b,f,sizeOf,typeInfo,zeroValue,hi,h,q,D,A70,A7d,Question.forced,r,s,newRow,grownCap]
 congr 2
 apply Array.ext';simp[Zzv]
theorem append_room_run{ty:TypeId}(ht:P.underlying t=some (.slice e))(a:P.underlying tx=some d)(hd:∀k,d ≠ .int k)(hi:P.info? e=some i){ob n cap m:Nat}{c:Value}{A:Nat->Prop}(f:Src P w A i.size c m new news)(l:news.length=m*i.size)(Fc:∀k,k<news.length->(w.cell? ⟨b,ob+n*i.size+k,none⟩).isSome=true)(g:∀k,k<news.length->w.frozen? ⟨b,ob+n*i.size+k,none⟩=false)(o:n+m<=cap):
  (vn (t::tx::ts).toArray ty #[.slice (some ⟨b,ob,none⟩) n cap,c]).run P w=.ok (.slice (some ⟨b,ob,none⟩) (n+m) cap) (w.setCells b (ob+n*i.size) news):=by
 have p:=f.len w;have q:(vm i.size m c).run P w=.ok news.toArray w:=f.cells w (λ_ _=>rfl);have r:=run_storeCells_cells (P:=P) b (ob+n*i.size) news 0 w (λk h=>by simpa using Fc k h) (λk h=>by simpa using g k h) f.one;have j:(match d with | .int _=>true|_=>false)=false:=by cases d<;>first|rfl|exact absurd rfl (hd _)
 have _:=l;simp[vn,run_underlying ht,run_underlying a,j,sizeOf,typeInfo,hi,p,o,q,E1];rw[r];simp
theorem Akw{ty:TypeId}(ht:P.underlying t=some (.slice e))(hi:P.info? e=some i){n cap m:Nat}{b:Value}{A:Nat->Prop}(c:Src P w A i.size b m new news){w1:World}(a:(match ad with|some p=>storeCells p (news.take (min m n*i.size)) 0|none=>pure ()).run P w=.ok () w1):
  (vr (t::ts).toArray ty #[.slice ad n cap,b]).run P w=.ok (goInt ((min m n:Nat):Int)) w1:=by
 have d:=c.len w;have f:=c.part (min m n) (k5 _ _);have e:Nat.min m n=min m n:=rfl;generalize min m n=k at *
 cases ad with
 |none=>
  simp only at a;simp[vr,run_underlying ht,sizeOf,typeInfo,hi,d,f,e]
  simpa using a
 |some p=>
  simp only at a;simp[vr,run_underlying ht,sizeOf,typeInfo,hi,d,f,e,a]
theorem UD{ty:TypeId}{k kx:IntKind}(ht:P.underlying t=some (.slice e))(a:P.underlying tx=some (.int k))(hi:P.info? e=some i):
  (vn (t::tx::ts).toArray ty #[.slice none 0 0,.int kx 0]).run P w=.ok (.slice none 0 0) w:=by
 have b:IntKind.i64.wrap 0=0:=Δ
 simp[vn,run_underlying ht,run_underlying a,sizeOf,typeInfo,hi,asInt,asIntOf,b]
theorem XQ{ty:TypeId}{k kx:IntKind}(ht:P.underlying t=some (.slice e))(a:P.underlying tx=some (.int k))(hi:P.info? e=some i)(d:i.zero=some z){n:Int}(h:0<n)(j:n.toNat*i.bytes<=1099511627776)(l:n<=1099511627776):
  (vn (t::tx::ts).toArray ty #[.slice none 0 0,.int kx n]).run P w =
   .ok (.slice (some ⟨w.heap.size,0,none⟩) n.toNat (grownCap w n.toNat 0 e)) (w.drew.alloc (.cells ((if n.toNat*i.size=0 then #[] else vp z.cells n.toNat)++vp z.cells (grownCap w n.toNat 0 e-n.toNat)) e)):=by
 have f:IntKind.i64.wrap n=n:=IntWalk.i64_in n Ω;have Axi:=growslice_fits (need:=n.toNat) (old:=0) (bytes:=i.bytes) Ω Ω;have SL:¬n<0:=Ω
 have Es:¬(281474976710656<n*(i.bytes:Int)):=by
  have:n*(i.bytes:Int)=((n.toNat*i.bytes:Nat):Int):=by
   rw[Int.natCast_mul,Int.toNat_of_nonneg Ω]
  omega
 have b:¬(n.toNat=0):=Ω
 have A70:¬(9223372036854775807<(n.toNat:Int)):=Ω
 have A7d:¬(281474976710656<vq n.toNat 0*i.bytes):=Ω
 have JJ:¬n<=0:=Ω
 have c:¬(9223372036854775807<max n 0):=Ω
 by_cases g:n.toNat*i.size=0
 ·simp[vn,run_underlying ht,run_underlying a,sizeOf,typeInfo,zeroValue,hi,d,asInt,asIntOf,f,SL,Es,b,JJ,c,A70,A7d,Question.forced,g,newRow,grownCap,vm]
 ·simp[vn,run_underlying ht,run_underlying a,sizeOf,typeInfo,zeroValue,hi,d,asInt,asIntOf,f,SL,Es,b,JJ,c,A70,A7d,Question.forced,g,newRow,grownCap,vm]
theorem Tw{ty:TypeId}(ht:P.underlying t=some (.slice e))(a:P.underlying tx=some d)(hd:∀k,d ≠ .int k)(hi:P.info? e=some i){b:Value}{A:Nat->Prop}(f:Src P w A i.size b 0 new news)(g:news=[]):
  (vn (t::tx::ts).toArray ty #[.slice ad 0 0,b]).run P w=.ok (.slice ad 0 0) w:=by
 subst g;have h:=f.len w;have j:(vm i.size 0 b).run P w=.ok ([]:List Value).toArray w:=f.cells w (λ_ _=>rfl);have c:(match d with | .int _=>true|_=>false)=false:=by cases d<;>first|rfl|exact absurd rfl (hd _)
 cases ad<;>simp[vn,run_underlying ht,run_underlying a,c,sizeOf,typeInfo,hi,h,j,storeCells]
end
open Go.RowKit
section
variable {R:Type}{r:R}{P:Program}{N:Nat}{w0:World}{X0:M0}{Y:Nat->Prop}{β β':Bt}{s:St}{a:Act}{w w':World}{o:Oper}{A:Nat->Prop}
theorem HN{j:Nat}(h:j<bsz w b):(w.cell? ⟨b,j,none⟩).isSome=true:=by
 unfold bsz at h;unfold World.cell?;split at h
 ·rename_i c e fz a;simp[a,h]
 ·omega
theorem Ar4{id d:Nat}{c cells:Ae}{g:Option (Nat × Nat)}(l:s.hp id=some (.ar false c))(hd:s.hp d=none)(f:∀k x,g=some (k,x)->w.heap.size<=k\/∃y,β id=some (k,y)):
  ∀k,k<w.heap.size->Em (Dy (Dy s.hp id (some .mv)) d (some (.ar false cells))) (Dy β d g) Y k->Em s.hp β Y k:=by
 rintro k o (⟨i,x,a,b⟩|m)
 ·by_cases j:i=d
  ·subst j;rw[Ay] at b;rcases f k x b with h|⟨y,n⟩
   ·omega
   ·exact .inl ⟨id,y,by rw[l];trivial,n⟩
  ·rw[Au _ _ j] at a b;by_cases e:i=id
   ·subst e;rw[Ay] at a;exact a.elim
   ·rw[Au _ _ e] at a;exact .inl ⟨i,x,a,b⟩
 ·exact .inr m
theorem ZJ{pre:Ae}{olds:List Value}{d:Array Value}(f:Ie w w' (olds.toArray++news.toArray++d) e)(g:∀b,b<w.heap.size->A' b->A b)(i:B4 (A7 w A) pre olds)(k:B4 (A7 w A) new news)(l:∀u∈olds,u.oneCell'=true)(m:∀u∈news,u.oneCell'=true):RdT w' A' ⟨w.heap.size,0,none⟩ (pre++new):=by
 refine Ati f g λj p n=>?_;obtain⟨v,a,ht⟩:=(i.app k).get n;refine⟨v,?_,?_,ht⟩
 ·have Ct:j<(olds++news).length:=by
   rcases Kp j (olds++news).length with h|h
   ·exact h
   ·rw[zh h] at a;cases a
  rw[Array.getElem?_append_left (by simpa using Ct)]
  simpa using a
 ·rcases B8.1 (zn a) with c|c
  ·exact l v c
  ·exact m v c
theorem Ah3(h:D3 N w0 X0 Y β s a w)(S:o.op=.call c)(T:c.callee=.builtin .append)(p:SB c=true){d:Nat}(Awp:o.dst=some d){b:Operand}(Hw:c.args.toList=[b,x])(XA:c.argTypes.toList=t::tx::ts){K:PV->List (Nat × Co)->Option R}(f:KB P (Pf s.hp) d t tx (Da s.tm x) K=some r):∃v nw,K v nw=some r/\Gm P a w o Y β s v [] nw:=by
 have D:b=.const (.slice none 0 0):=by
  unfold SB at p;rw[Hw] at p;split at p
  ·rename_i e;injection e
  ·cases p
 have ZZ:c.args = #[b,x]:=by
  have:c.args=([b,x]:List Operand).toArray:=by rw[<-Hw]
  exact this
 have Alt:c.argTypes=(t::tx::ts).toArray:=by rw[<-XA]
 have Zd:a.eval b=.slice none 0 0:=by rw[D];rfl
 have run:∀{v:Value} {E:World},(vn (t::tx::ts).toArray o.type #[a.eval b,a.eval x]).run P w=.ok v E->(execOp a.eval o).run P w=.ok (.value v) E:=by
  intro v E y;unfold execOp;rw[S];simp only[resolve,T,invoke,builtin,xd,xe,xf,ZZ,Alt];have:(#[b,x]:Array Operand).map a.eval = #[a.eval b,a.eval x]:=Ψ
  rw[this,y];rfl
 unfold KB at f;split at f
 ·rename_i e M;obtain⟨G,f⟩:=Ax f;obtain⟨i,z,hi,U,H,V⟩:=Aay G;have HT:((P.info? e).map (·.bytes)).getD 0=i.bytes:=by rw[hi];rfl
  obtain⟨⟨dx,B,Ak2⟩,m,new,news,f,A⟩:=Aan (s:=s) h f (λm new W=>by
   obtain⟨D,_⟩:=Ax W;simp only[Gh,JT] at D;exact D.1.1)
  obtain⟨Mv,f⟩:=Ax f;simp only[Gh,JT] at Mv;obtain⟨⟨At8,C⟩,XO⟩:=Mv;have X:new.length=news.length:=A.rep.len;rw[V] at At8 f A;rw[HT] at C;have WB:news.length=m*i.size:=Ω
  refine⟨_,_,f,Ψ,?_⟩;by_cases J:m=0
  ·subst J;have y:=Tw (P:=P) (w:=w) (t:=t) (tx:=tx) (ty:=o.type) (ts:=ts) (ad:=none) M B Ak2 hi A (kb Ω);rw[<-Zd] at y;have Al5:new=[]:=kb Ω;subst Al5;refine⟨_,_,run y,λAzq=>⟨Dy β d none,?_⟩⟩;have KR:s.hp d=none:=(Cg Azq).1 d _ (Zh _);rw[Zd];refine⟨rfl,rfl,rfl,Df.refl _ _,λj l=>Au _ _ (by rintro rfl;exact l KR),?_,?_,?_,?_,?_,.inl ⟨Ay _ _ _,rfl,rfl,none,rfl⟩,?_⟩
   ·intro j L g;simp at g;rw[g.2];trivial
   ·intro j L g;simp at g;obtain⟨rfl,rfl⟩:=g;exact .inl ⟨Ay _ _ _,rfl⟩
   ·intro j L k q g O;simp at g;obtain⟨rfl,rfl⟩:=g;rw[Ay] at O;cases O
   ·intro j L j' Z k q q' g Q _ _;simp at g Q;rw[g.1,Q.1]
   ·intro j cells g;simp at g
   ·intro j l;simp[Cy,Dj,A6] at l;subst l;exact .inr ⟨.ar false [],Ψ⟩
  ·have y:=append_grow_run (P:=P) (w:=w) (t:=t) (tx:=tx) (ty:=o.type) (ts:=ts) (ad:=none) (n:=0) (cap:=0) (olds:=[]) M B Ak2 hi U A (.inl ⟨rfl,rfl⟩) Ω (by rw[I8];exact C) Ω
   rw[<-Zd] at y;refine⟨_,_,run y,λAzq=>⟨Dy β d (some (w.heap.size,0)),?_⟩⟩;have KR:s.hp d=none:=(Cg Azq).1 d _ (Zh _);have hge:0+m<=grownCap w (0+m) 0 e:=grownCap_ge w (0+m) 0 e
   have NS:Ie w (w.drew.alloc (.cells (([]:List Value).toArray++news.toArray++vp z.cells (grownCap w (0+m) 0 e-(0+m))) e)) (([]:List Value).toArray++news.toArray++vp z.cells (grownCap w (0+m) 0 e-(0+m))) e:=
    ⟨rfl,rfl,rfl,λk f=>Below.heap_alloc w.drew _ k f,by show (w.heap.push _).size=_;simp,(0,0),by show (w.heap.push _)[w.heap.size]?=_;simp,.inl rfl⟩
   have Arw:(([]:List Value).toArray++news.toArray++vp z.cells (grownCap w (0+m) 0 e-(0+m))).size=grownCap w (0+m) 0 e*i.size:=by
    simp only[vh,kc,size_zeroCells,H,WB,SO,<-jr];rw[I8 (m*i.size),<-jr]
    congr 1
    omega
   refine AG (s:=⟨s.tm,Aj s.hp []⟩) NS KR trivial ?_ (λcells hx=>by cases hx) ?_ (by intro j l;simp[Cy,Dj,A6] at l;exact .inr l)
   ·refine .inr ⟨w.heap.size,0,Ay _ _ _,?_,λ_ j _ l=>?_,(λq=>by cases q)⟩
    ·exact ZJ (pre:=[]) NS (As7 (s:=⟨s.tm,Aj s.hp []⟩) KR) trivial A.rep Ψ A.one
    ·rw[NS.bsz] at l;exact NS.frozen l
   ·refine .inr ⟨w.heap.size,0,0,grownCap w (0+m) 0 e,Ay _ _ _,by rw[I8],.inl rfl,Ω,?_,by rw[NS.size];omega⟩
    exact⟨by rw[NS.bsz,Arw];omega,.inr (Rc w.drew _ e)⟩
 ·cases f
theorem Al6{lo hi:Option Operand}{y3:Operand}{g:IntKind}{len cap l u m:Nat}(h:(lo=none/\l=0)\/∃y k,lo=some y/\a.eval y=.int k (l:Int))(i:∃y k,hi=some y/\a.eval y=.int k (u:Int))(c:a.eval y3=.int g (m:Int))(j:l<=u)(d:u<=m)(e:m<=cap):
  (xj true len cap (lo.map a.eval) (hi.map a.eval) (some (a.eval y3))).run P w=.ok (l,u,m) w:=by
 obtain⟨y,k,rfl,f⟩:=i;rcases h with⟨rfl,rfl⟩|⟨n,o,rfl,b⟩
 ·simp[xj,xk,asIntOf,f,c,d,e]
 ·simp[xj,xk,asIntOf,f,b,c,j,d,e]
theorem Agp(h:D3 N w0 X0 Y β s a w){m:Operand}{lo hi:Option Operand}(Z:o.op=.slice t x lo hi (some m)){d:Nat}{K:PV->List (Nat × Co)->Option R}(f:JK P d t (Da s.tm x) (lo.map (Da s.tm)) (hi.map (Da s.tm)) (some (Da s.tm m)) K=some r):∃v nw,K v nw=some r/\Gm P a w o Y β s v [] nw:=by
 have L:=Ec h x;unfold JK at f;split at f
 ·rename_i e W;obtain⟨i,f⟩:=Ax f;simp only[Gh] at i;obtain⟨Zj,M⟩:=i
  obtain⟨O,rfl⟩:∃y,hi=some y:=by
   cases hi with
   |none=>simp at M
   |some y=>exact⟨y,rfl⟩
  have B:∀{ad:Option Addr} {n cap l u q:Nat},a.eval x=.slice ad n cap->n<=cap->((lo=none/\l=0)\/∃y k,lo=some y/\a.eval y=.int k (l:Int))->((some O=none/\u=n)\/∃y k,some O=some y/\a.eval y=.int k (u:Int))->(((some m:Option Operand)=none/\q=n)\/∃y k,(some m:Option Operand)=some y/\a.eval y=.int k (q:Int)) ->
    (Nat.beq l q&&Nat.beq u q&&decide (q<=n))=true->Gm P a w o Y β s (.view d (Bx P e) 0 0) [] [(d,.ar false [])]:=by
   intro ad n cap l u q A H E Oy C i;simp only[Gh,JT] at i;obtain⟨⟨Q,S⟩,b3⟩:=i;have Q:=Ed Q;have S:=Ed S;subst Q S
   have T:∃y k,(some O:Option Operand)=some y/\a.eval y=.int k (u:Int):=by
    rcases Oy with⟨e,_⟩|e
    ·cases e
    ·exact e
   obtain⟨k3,U⟩:∃k,a.eval m=.int k (u:Int):=by
    rcases C with⟨e,_⟩|⟨y,k,e,q⟩
    ·cases e
    ·cases e;exact⟨k,q⟩
   have D:=Al6 (P:=P) (w:=w) (len:=n) (cap:=cap) E T U (Cz _) (Cz _) Ω
   have Dz:∃G,(execOp a.eval o).run P w=.ok (.value (.slice G 0 0)) w:=by
    unfold execOp;rw[Z];cases ad with
    |none=>exact⟨none,by simp[xl,xm,run_underlying W,A,D,D4 Zj] at D ⊢⟩
    |some p=>exact⟨some p,by simp[xl,xm,run_underlying W,A,D,D4 Zj] at D ⊢⟩
   obtain⟨G,Dz⟩:=Dz;refine⟨Ψ,_,_,Dz,λAzq=>⟨Dy β d none,?_⟩⟩;have KR:s.hp d=none:=(Cg Azq).1 d _ (Zh _);refine⟨rfl,rfl,rfl,Df.refl _ _,λj J=>Au _ _ (by rintro rfl;exact J KR),?_,?_,?_,?_,?_,.inl ⟨Ay _ _ _,rfl,rfl,G,rfl⟩,?_⟩
   ·intro j V g;simp at g;rw[g.2];trivial
   ·intro j V g;simp at g;obtain⟨rfl,rfl⟩:=g;exact .inl ⟨Ay _ _ _,rfl⟩
   ·intro j V k q g C;simp at g;obtain⟨rfl,rfl⟩:=g;rw[Ay] at C;cases C
   ·intro j V j' bx' k q q' g X _ _;simp at g X;rw[g.1,X.1]
   ·intro j cells g;simp at g
   ·intro j J;simp[Cy,Dj,A6] at J;subst J;exact .inr ⟨.ar false [],Ψ⟩
  split at f
  ·rename_i id es off n e';rw[e'] at L;obtain⟨FZ,f⟩:=Ax f;obtain⟨l,f,E⟩:=Fw h f;obtain⟨u,f,Oy⟩:=Fw h f;obtain⟨q,f,C⟩:=Fw (x:=some m) h f;obtain⟨i,f⟩:=Ax f;refine⟨_,_,f,?_⟩;rcases L with⟨hβ,_,rfl,ad,A⟩|⟨b,ob,y,cap,hβ,A,hy,H,JB,Ct⟩
   ·exact B A (Cz _) E Oy C i
   ·exact B A H E Oy C i
  ·obtain⟨z,n,c,f,hp⟩:=Jy f;obtain⟨l,f,E⟩:=Fw h f;obtain⟨u,f,Oy⟩:=Fw h f;obtain⟨q,f,C⟩:=Fw (x:=some m) h f;obtain⟨i,f⟩:=Ax f;refine⟨_,_,f,?_⟩;rcases J0 hp L with⟨A,rfl,rfl⟩|⟨ad,cap,A,_,H,_⟩|⟨ad,cap,A,_,rfl,rfl⟩
   ·exact B A (Cz _) E Oy C i
   ·exact B A H E Oy C i
   ·exact B A (jt _) E Oy C i
 ·cases f
end
open Go.RowKit
section
variable {R:Type}{r:R}{P:Program}{N:Nat}{w0:World}{X0:M0}{Y:Nat->Prop}{β β':Bt}{s:St}{a:Act}{w w':World}{o:Oper}{A:Nat->Prop}
theorem A3d(h:D3 N w0 X0 Y β s a w){G:MD}(Rv:Env P G w0 X0)(Fp:∀f args q,F f args=some q->Ep G P f args q){K:PV->Cl->List (Nat × Co)->Option R}(e:Aa2 C P N F s.tm (rd s.hp) (Pf s.hp) o K=some r):∃v fz nw,K v fz nw=some r/\Abs P a w o Y β s v fz nw:=by
 have one:∀{Q:PV->Option R},(∀v,Q v=some r->K v [] []=some r)->(∃v,Q v=some r/\Gm P a w o Y β s v [] [])->∃v fz nw,K v fz nw=some r/\Abs P a w o Y β s v fz nw:=
  λS ⟨v,l,m⟩=>⟨v,[],[],S v l,Abd m⟩
 have many:(∃v fz nw,K v fz nw=some r/\Gm P a w o Y β s v fz nw)->∃v fz nw,K v fz nw=some r/\Abs P a w o Y β s v fz nw:=
  λ⟨v,fz,nw,l,m⟩=>⟨v,fz,nw,l,Abd m⟩
 unfold Aa2 at e;split at e
 ·rename_i x g;exact one (λ_ h=>h) (RV (K:=λp=>K p [] []) h (Auu g) e)
 ·rename_i x g;exact one (λ_ h=>h) (RV (K:=λp=>K p [] []) h (Amv g) e)
 ·rename_i c x y g;exact one (λ_ h=>h) (Aqq (K:=λp=>K p [] []) h g e)
 ·rename_i t g;obtain⟨d,hd,e⟩:=Dh e;exact many (Ams g e)
 ·rename_i t x g;obtain⟨d,hd,e⟩:=Dh e;exact many (Au5 h g e)
 ·rename_i t ps g;exact one (λ_ h=>h) (Amd (K:=λp=>K p [] []) h g e)
 ·rename_i t n ps g;obtain⟨d,hd,e⟩:=Dh e;exact many (TI h g e)
 ·rename_i t x g;exact one (λ_ h=>h) (Apw (K:=λp=>K p [] []) h g e)
 ·rename_i x g;exact one (λ_ h=>h) (ZF (K:=λp=>K p [] []) h g e)
 ·rename_i op t x y W g;exact one (λ_ h=>h) (Aj9 (K:=λp=>K p [] []) h g e)
 ·rename_i op t x g;exact one (λ_ h=>h) (Aqx (K:=λp=>K p [] []) h g e)
 ·rename_i T U x g;obtain⟨v,nw,e,V⟩:=Aqc h g e;obtain⟨d,hd,e⟩:=Dh e;exact⟨v,[],nw,e,Abd V⟩
 ·rename_i t x y g;obtain⟨d,hd,e⟩:=Dh e;exact many (Aqy h g e)
 ·rename_i t x X hi mx g;split at e
  ·exact one (λ_ h=>h) (Amr (K:=λp=>K p [] []) h g e)
  ·obtain⟨d,hd,e⟩:=Dh e;obtain⟨v,nw,l,m⟩:=Agp h g e;exact⟨v,[],nw,l,Abd m⟩
 ·rename_i t x f g;exact one (λ_ h=>h) (WR (K:=λp=>K p [] []) h g e)
 ·rename_i t x f g;exact one (λ_ h=>h) (Amx (K:=λp=>K p [] []) h g e)
 ·rename_i t x i g;exact one (λ_ h=>h) (WQ (K:=λp=>K p [] []) h g e)
 ·rename_i t x i g;exact one (λ_ h=>h) (Ak5 (K:=λp=>K p [] []) h g e)
 ·rename_i t x k ok g;exact one (λ_ h=>h) (Agv (K:=λp=>K p [] []) h g e)
 ·rename_i x i g;exact one (λ_ h=>h) (Ac7 (K:=λp=>K p [] []) h g e)
 ·rename_i c g;split at e
  ·rename_i j;exact one (λ_ h=>h) (Axm (K:=λp=>K p [] []) h g j e)
  ·rename_i j;exact one (λ_ h=>h) (Axf (K:=λp=>K p [] []) h g j e)
  ·rename_i j;exact one (λ_ h=>h) (Axa (K:=λp=>K p [] []) h g j e)
  ·rename_i j;exact one (λ_ h=>h) (Au1 (K:=λp=>K p [] []) h g j e)
  ·rename_i j;obtain⟨B,e⟩:=Ax e;obtain⟨d,hd,D⟩:=Dh e;obtain⟨b,I,z,Hn⟩:=B5 D;obtain⟨x,Z,E,Tl⟩:=B5 Hn;obtain⟨NI,JQ⟩:=Fj Tl;obtain⟨t,us,A,H⟩:=B5 JQ;obtain⟨tx,vs,Ox,J⟩:=B5 H;rw[E,NI] at z;rw[Ox] at A;obtain⟨v,nw,l,m⟩:=Ah3 h g j B hd z A J;exact⟨v,[],nw,l,Abd m⟩
  ·rename_i f j;exact ZU h Rv Fp (λL M=>Am1 g j Rv.ng L M) e
  ·rename_i t j;obtain⟨f,O,D⟩:=A7h e;have ht:a.eval (.tmp t)=.func (.func f) #[] #[]:=Db h (x:=.tmp t) O;exact ZU h Rv Fp (λL M=>Ax2 g j ht Rv.ng L M) D
  ·cases e
 ·cases e
theorem Apo(h:D3 N w0 X0 Y β s a w){G:MD}(Rv:Env P G w0 X0)(Fp:∀f args d,F f args=some d->Ep G P f args d){K:St->Option R}(c:(Aa2 C P N F s.tm (rd s.hp) (Pf s.hp) o λv fz nw=>TX N s o.dst v fz nw K)=some r):
  ∃s',K s'=some r/\∀(next:Act->World->Prop) (Q:Exit->Act->World->Prop),(∀j w' β',D3 N w0 X0 Y β' s' j w'->next j w')->o.wp P a w next Q:=by
 obtain⟨v,fz,nw,c,EO,k⟩:=A3d h Rv Fp c;unfold TX at c;obtain⟨e,c⟩:=Ax c;simp only[Gh] at e;refine⟨_,c,λnext Q l=>k next Q λval w' m=>?_⟩;obtain⟨β',st⟩:=m e.2
 have Zd:Cs (Aj s.hp fz) nw=true:=by
  have:∀nw,Cs s.hp nw=true->Cs (Aj s.hp fz) nw=true:=by
   intro nw
   induction nw with
   |nil=>intro _;rfl
   |cons q nw n=>
    obtain⟨i,b⟩:=q;intro g;simp only[Cs,Gh,vu] at g ⊢;exact⟨⟨F1.2 g.1.1,g.1.2⟩,n g.2⟩
  exact this nw e.2
 exact l _ _ β' ((h.freeze EO).stepR e.1 Zd st)
end
open Go.RowKit
section
variable {R:Type}{r:R}{P:Program}{N:Nat}{w0:World}{X0:M0}{Y:Nat->Prop}{β β':Bt}{s:St}{a:Act}{w w':World}{o:Oper}{A:Nat->Prop}
structure De(b:Nat)(w w':World):Prop where
 os:w'.os=w.os
 tape:w'.tape=w.tape
 output:w'.output=w.output
 size:w'.heap.size=w.heap.size
 other:∀k,k≠b->w'.heap[k]?=w.heap[k]?
 bs:bsz w' b=bsz w b
 frz:∀j,w'.frozen? ⟨b,j,none⟩=w.frozen? ⟨b,j,none⟩
theorem De.grow(h:De b w w')(k:Nat):Kk w w' k:=by
 by_cases e:k=b
 ·subst e;refine⟨by rw[h.bs];exact Cz _,λq=>?_⟩
  unfold Akn at q ⊢;rw[h.bs,h.frz];exact q
 ·exact Kk.same (h.other k e)
theorem De.refl(b:Nat)(w:World):De b w w:=⟨rfl,rfl,rfl,rfl,λ_ _=>rfl,rfl,λ_=>rfl⟩
theorem De.setCell(b j:Nat)(v:Value)(w:World):De b w (w.setCell ⟨b,j,none⟩ v):=by
 refine⟨rfl,rfl,rfl,by simp[vj],λk a=>Below.heap_setCell w ⟨b,j,none⟩ v k a,?_,λi=>?_⟩
 ·simp only[bsz,vj,vi];simp only[if_true];cases h:w.heap[b]? with
  |none=>simp
  |some x=>cases x<;>simp
 ·simp only[World.frozen?,vj,vi,if_true];cases h:w.heap[b]? with
  |none=>simp
  |some x=>cases x<;>simp
theorem De.trans{w'':World}(h:De b w w')(a:De b w' w''):De b w w'':=
 ⟨a.os.trans h.os,a.tape.trans h.tape,a.output.trans h.output,a.size.trans h.size,λk c=>(a.other k c).trans (h.other k c),a.bs.trans h.bs,λj=>(a.frz j).trans (h.frz j)⟩
theorem De.setCells(b:Nat):∀(vs:List Value)(j:Nat)(w:World),De b w (w.setCells b j vs)
 |[],_,w=>De.refl b w
 |v::vs,j,w=>(De.setCell b j v w).trans (De.setCells b vs (j+1) _)
theorem Bkd{id:Nat}{f a:Co}(g:hp id=some f)(h:Eo (some f))(Rj:Eo (some a))(b:Nat):Xof (Dy hp id (some a)) β b↔Xof hp β b:=by
 constructor
 ·rintro⟨i,o,d,c⟩
  by_cases e:i=id
  ·subst e;exact⟨i,o,by rw[g];exact h,c⟩
  ·rw[Au _ _ e] at d;exact⟨i,o,d,c⟩
 ·rintro⟨i,o,d,c⟩
  by_cases e:i=id
  ·subst e;exact⟨i,o,by rw[Ay];exact Rj,c⟩
  ·exact⟨i,o,by rw[Au _ _ e];exact d,c⟩
theorem D3.write(h:D3 N w0 X0 Y β s a w){id ob:Nat}{p f:Co}(n:s.hp id=some p)(o:Eo (some p))(Rj:Eo (some f))(q:β id=some (b,ob))(l:De b w w')(Tn:EB w' (Em s.hp β Y) β id f)(S:∀cells,f=.st cells->∀c∈cells,∀i∈A6 c,s.hp i≠none)(T:∀c',f=.st c'->∃c,p=.st c)(U:∀j,BR f ob j->BR p ob j)(V:∀j,¬BR p ob j->w'.cell? ⟨b,j,none⟩=w.cell? ⟨b,j,none⟩):D3 N w0 X0 Y β ⟨s.tm,Dy s.hp id (some f)⟩ a w':=by
 have E:=Bkd (β:=β) n o Rj;have W:∀k,Em (Dy s.hp id (some f)) β Y k↔Em s.hp β Y k:=λk=>⟨λx=>x.imp (E k).1 (λy=>y),λx=>x.imp (E k).2 (λy=>y)⟩;have z:Em s.hp β Y b:=.inl ⟨id,ob,by rw[n];exact o,q⟩
 have G:Df (Em s.hp β Y) w w':=⟨by rw[l.size];exact Cz _,λk _ d=>l.other k (λe=>d (e ▸ z)),λk _=>l.grow k⟩
 have Es:∀i,Dy s.hp id (some f) i≠none↔s.hp i≠none:=by
  intro i;by_cases e:i=id
  ·subst e;rw[Ay,n];simp
  ·rw[Au _ _ e]
 have A:Em (Dy s.hp id (some f)) β Y=Em s.hp β Y:=funext λk=>propext (W k)
 have SF:∀i,Eo (Dy s.hp id (some f) i)->Eo (s.hp i):=by
  intro i hi;by_cases e:i=id
  ·subst e;rw[n];exact o
  ·rw[Au _ _ e] at hi;exact hi
 refine⟨h.dfr,h.tsz,h.tmo,λi hi=>?_,λi H r=>?_,λi P k x y t B=>h.inj i P k x y (SF i t) (SF P B),λi k x hi d=>?_,λi hi j m=>(Es j).2 (h.wfT i hi j m),
  λi cells g c C j m=>(Es j).2 ?_,λk d=>h.ownd k ((E k).1 d),λi H k x XC J d Ct j m=>?_,λi hi=>⟨(Es _).2 (h.pin i hi).1,(h.pin i hi).2⟩,λi c k x g d Ct=>?_,λk d x=>h.Yx k d ((E k).1 x),h.Ylt,?_⟩
 ·rw[A];exact (h.tms i hi).step G (λ_ _ x=>x) (λ_ _=>rfl)
 ·rw[A];simp only at r;by_cases e:i=id
  ·subst e;rw[Ay] at r;cases r;exact Tn
  ·rw[Au _ _ e] at r;have XC:=h.box i H r;cases H with
   |st c=>
    obtain⟨k,x,t,B,K⟩:=XC
    have d:k≠b:=by
     rintro rfl
     exact e (h.inj i id k x ob (by rw[r];trivial) (by rw[n];exact o) t q)
    refine⟨k,x,t,λj c m=>?_,λj m=>?_⟩
    ·obtain⟨v,L,g⟩:=B j c m;exact⟨v,by rw[jw (w:=w) (l.other k d)];exact L,g.step G (λ_ _ x=>x) (λ_ _=>rfl)⟩
    ·rw[jx (w:=w) (l.other k d)];exact K j m
   |ar fz c=>
    rcases XC with X|⟨k,x,t,B,K,Q⟩
    ·exact .inl X
    ·have d:k≠b:=by
      rintro rfl
      cases fz with
      |true=>exact Q rfl z
      |false=>exact e (h.inj i id k x ob (by rw[r];trivial) (by rw[n];exact o) t q)
     refine .inr ⟨k,x,t,λj c m=>?_,λZ j m M=>?_,Q⟩
     ·obtain⟨v,L,h5,g⟩:=B j c m;exact⟨v,by rw[jw (w:=w) (by rw[Hp];exact l.other k d)];exact L,h5,g.step G (λ_ _ x=>x)⟩
     ·rw[jx (w:=w) (l.other k d)];refine K Z j m ?_;unfold bsz at M ⊢;rw[l.other k d] at M;exact M
   |mv=>trivial
 ·rw[l.size];exact h.blt i k x ((Es i).1 hi) d
 ·simp only at g;by_cases e:i=id
  ·subst e;rw[Ay] at g;injection g with g;exact S cells g c C j m
  ·rw[Au _ _ e] at g;exact h.wfB i cells g c C j m
 ·simp only at XC;by_cases e:i=id
  ·subst e;rw[Ay] at XC;cases XC;rw[q] at d;cases d;exact h.rngB i p b ob n o q Ct j (U j m)
  ·rw[Au _ _ e] at XC;exact h.rngB i H k x XC J d Ct j m
 ·simp only at g;by_cases e:i=id
  ·subst e;rw[Ay] at g;injection g with g;obtain⟨c0,rfl⟩:=T c g;exact h.stp i c0 k x n d Ct
  ·rw[Au _ _ e] at g;exact h.stp i c k x g d Ct
 ·refine⟨l.os.trans h.fr.os,l.tape.trans h.fr.tape,l.output.trans h.fr.output,?_,λk j d O=>?_⟩
  ·refine⟨by rw[l.size];exact h.fr.step.size,λk d D=>?_,λk d=>(h.fr.step.bs k d).trans (G.bs k (Iv d h.fr.step.size))⟩
   rw[l.other k ?_]
   ·exact h.fr.step.keep k d D
   ·rintro rfl
    rcases h.ownd k ⟨id,ob,by rw[n];exact o,q⟩ with R|R
    ·exact D R
    ·omega
  ·by_cases e:k=b
   ·subst e;rw[V j (λm=>O (h.rngB id p k ob n o q d j m)),l.frz];exact h.fr.rng k j d O
   ·have g:w'.cell? ⟨k,j,none⟩=w.cell? ⟨k,j,none⟩:=jw (w:=w) (l.other k e);have hf:w'.frozen? ⟨k,j,none⟩=w.frozen? ⟨k,j,none⟩:=jx (w:=w) (l.other k e);rw[g,hf];exact h.fr.rng k j d O
theorem DT{c cs:Ae}{off j:Nat}(JJ:off+cs.length<=c.length)(h:(B9 c cs off)[j]?=some p):
  (off<=j/\j<off+cs.length/\cs[j-off]?=some p)\/((j<off\/off+cs.length<=j)/\c[j]?=some p):=by
 unfold B9 at h;by_cases a:j<off
 ·rw[Zzv,zi (by simp;omega),ke a] at h
  exact .inr ⟨.inl a,h⟩
 ·by_cases b:j<off+cs.length
  ·rw[zi (by simp;omega),kf (by simp;omega)] at h
   simp only[x7,va (by omega:off<=c.length)] at h;exact .inl ⟨Ω,b,h⟩
  ·rw[kf (by simp;omega)] at h
   simp only[Ru,x7,va (by omega:off<=c.length),zg] at h;rw[show off+cs.length+(j-(off+cs.length))=j from Ω] at h;exact .inr ⟨.inr Ω,h⟩
theorem EC{c cs:Ae}{off:Nat}(JJ:off+cs.length<=c.length):(B9 c cs off).length=c.length:=by simp[B9];omega
theorem VS{j:Nat}(a:(P.info? t).map (·.size)=some v.cells.size)(c:∀i,i<v.cells.toList.length->(w.cell? ⟨b,j+i,none⟩).isSome=true)(d:∀i,i<v.cells.toList.length->w.frozen? ⟨b,j+i,none⟩=false)(e:∀u∈v.cells.toList,u.oneCell'=true):(vt t (.pointer (some ⟨b,j,none⟩)) v).run P w=.ok () (w.setCells b j v.cells.toList):=by
 have:=run_storeCells_cells (P:=P) b j v.cells.toList 0 w (λi hi=>by simpa using c i hi) (λi hi=>by simpa using d i hi) e;simp only[vt,Instr.sureAddr,storeVar,xd,xe,xf,Rd a]
 simpa using this
theorem Al0(h:D3 N w0 X0 Y β s a w){y:Operand}(ho:o.op=.store t x y)(hd:o.dst=none){K:St->Option R}(l:UB P s t (Da s.tm x) (Da s.tm y) K=some r):
  ∃s',K s'=some r/\∀(next:Act->World->Prop) (Q:Exit->Act->World->Prop),(∀a' w' β',D3 N w0 X0 Y β' s' a' w'->next a' w')->o.wp P a w next Q:=by
 have B:=Ec h x;have hxr:=Hs h x
 have run:∀{b j:Nat},a.eval x=.pointer (some ⟨b,j,none⟩)->(vt t (.pointer (some ⟨b,j,none⟩)) (a.eval y)).run P w=.ok () (w.setCells b j (a.eval y).cells.toList) ->
   ∀(next:Act->World->Prop) (Q:Exit->Act->World->Prop),next a (w.setCells b j (a.eval y).cells.toList)->o.wp P a w next Q:=by
  intro b j E2 hr next Q G;unfold Oper.wp execOp;rw[ho];simp only[xd,E2,hr,xf,xe];show next (a.put o.dst undef) _;rw[hd];exact G
 unfold UB at l;split at l
 ·rename_i id off e;rw[e] at B hxr;obtain⟨b,f,E,E2⟩:=B;split at l
  ·rename_i c J;obtain⟨X,l⟩:=Ax l;simp only[Gh,JT] at X;obtain⟨⟨L,hl⟩,JJ⟩:=X;have hl:=Ed hl;obtain⟨cs,l,Sf,M,h1,hr,_⟩:=Auf (Ec h y) hl l;obtain⟨_,Bdl,T6⟩:=BH L;have QA:=M.len;obtain⟨b',o',O,Ke,SM⟩:=h.box id _ J;rw[E] at O;simp at O;obtain⟨rfl,rfl⟩:=O
   have Fc:∀i,i<(a.eval y).cells.toList.length->(w.cell? ⟨b,f+off+i,none⟩).isSome=true:=by
    intro i hi;obtain⟨v,A,_⟩:=Ke (off+i) _ (zd Ω);rw[Ld,A];rfl
   have Dz:=VS (P:=P) (t:=t) (w:=w) (b:=b) (j:=f+off) (v:=a.eval y) (by rw[T6,<-Bdl,<-Sf,QA];simp) Fc (λi hi=>by rw[Ld];exact SM _ Ω) h1
   refine⟨_,l,λnext Q G=>run E2 Dz next Q (G _ _ β ?_)⟩
   refine h.write J trivial trivial E (De.setCells b _ _ w) ?_ ?_ (λ_ _=>⟨_,rfl⟩) (λj q=>by
    have q:f<=j/\j<f+(B9 c cs off).length:=q;rw[EC Ω] at q;exact q) (λj q=>by
    refine vk b _ _ w ⟨b,j,none⟩ (λ_ _=>?_);have q:¬(f<=j/\j<f+c.length):=q;show j<f+off\/f+off+_<=j;omega)
   ·have Z:Df (Em s.hp β Y) w (w.setCells b (f+off) (a.eval y).cells.toList):=by
     have S:=De.setCells b (a.eval y).cells.toList (f+off) w;have T:Em s.hp β Y b:=.inl ⟨id,f,by rw[J];trivial,E⟩
     exact⟨by rw[S.size];exact Cz _,λk _ l=>S.other k (λe=>l (e ▸ T)),λk _=>S.grow k⟩
    refine⟨b,f,E,λj p q=>?_,λj q=>?_⟩
    ·rcases DT Ω q with⟨h3,h4,U⟩|⟨h3,U⟩
     ·obtain⟨u,H,V⟩:=M.get U;have Ct:j-off<(a.eval y).cells.toList.length:=Ω
      refine⟨u,?_,V.step Z (λ_ _ x=>x) (λ_ _=>rfl)⟩;have:=vl b (a.eval y).cells.toList (f+off) w Fc (j-off) Ct;rw[show f+j=f+off+(j-off) from Ω,this];rw[zd Ct] at H;exact H
     ·obtain⟨v,A,WK⟩:=Ke j p U;refine⟨v,?_,WK.step Z (λ_ _ x=>x) (λ_ _=>rfl)⟩;rw[vk b _ _ w ⟨b,f+j,none⟩ (λ_ _=>by show f+j<f+off\/f+off+_<=f+j;omega)]
      exact A
    ·rw[EC Ω] at q;rw[(De.setCells b _ _ w).frz];exact SM j q
   ·intro cells B c' C i hi;injection B with B;subst B;unfold B9 at C;rcases B8.1 C with C|C
    ·rcases B8.1 C with C|C
     ·exact h.wfB id c J c' (kg C) i hi
     ·exact Hs h y i (hr c' C i hi)
    ·exact h.wfB id c J c' (kj C) i hi
  ·rename_i c J;obtain⟨X,l⟩:=Ax l;simp only[Gh,JT] at X;obtain⟨L,JJ⟩:=X;obtain⟨cs,m,l,Sf,CH,hT,D,hm,A⟩:=AN h l;obtain⟨XO,l⟩:=Ax l
   have XO:id ∉ m:=by
    intro hi;have:m.any (Nat.beq id)=true:=zm.2 ⟨id,hi,Uz id⟩;rw[this] at XO;cases XO
   obtain⟨_,Bdl,T6⟩:=BH L
   have A6u:B4 (C4 w (Em s.hp β Y) β) (cellsOf (Da s.tm y)) (a.eval y).cells.toList:=by
    have g:=Ec h y;cases hp:Da s.tm y with
    |agg ps=>
     rw[hp] at g;obtain⟨vs,hay,M⟩:=g;rw[hay];exact M
    |sc v=>
     rw[hp] at g D
     have Aqm:(a.eval y).oneCell'=true:=by
      have:=A m (λ_ hi=>hi) hm [a.eval y] (by rw[hp];exact⟨g,trivial⟩)
      exact this.2 _ Ψ
     rw[Vj Aqm];exact⟨g,trivial⟩
    |lst z es n cc=>
     rw[hp] at g D
     have Aqm:(a.eval y).oneCell'=true:=by
      have:=A m (λ_ hi=>hi) hm [a.eval y] (by rw[hp];exact⟨g,trivial⟩)
      exact this.2 _ Ψ
     rw[Vj Aqm];exact⟨g,trivial⟩
    |view i es oo n=>
     rw[hp] at g D
     have Aqm:(a.eval y).oneCell'=true:=by
      have:=A m (λ_ hi=>hi) hm [a.eval y] (by rw[hp];exact⟨g,trivial⟩)
      exact this.2 _ Ψ
     rw[Vj Aqm];exact⟨g,trivial⟩
    |own es n cc=>
     have d:=D (Da s.tm y) (by rw[hp];exact Zh _)
     rw[hp] at d;exact d.elim
    |ptr i cc=>
     have d:=D (Da s.tm y) (by rw[hp];exact Zh _)
     rw[hp] at d;exact d.elim
    |iptr i cc=>
     have d:=D (Da s.tm y) (by rw[hp];exact Zh _)
     rw[hp] at d;exact d.elim
    |pbox cc=>
     have d:=D (Da s.tm y) (by rw[hp];exact Zh _)
     rw[hp] at d;exact d.elim
    |tup cc=>
     have d:=D (Da s.tm y) (by rw[hp];exact Zh _)
     rw[hp] at d;exact d.elim
    |ub=>
     have d:=D (Da s.tm y) (by rw[hp];exact Zh _)
     rw[hp] at d;exact d.elim
    |top=>
     have d:=D (Da s.tm y) (by rw[hp];exact Zh _)
     rw[hp] at d;exact d.elim
   obtain⟨M,h1⟩:=A m (λ_ hi=>hi) hm _ A6u;have QA:=M.len;have hf:=h.freeze hm;have W:Aj s.hp m id=some (.ar false c):=by rw[Cv,Bd XO];exact J
   rcases hf.box id _ W with⟨G,_⟩|⟨b',o',O,Ke,SM,_⟩
   ·rw[E] at G;cases G
   rw[E] at O;simp at O;obtain⟨rfl,rfl⟩:=O
   have Fc:∀i,i<(a.eval y).cells.toList.length->(w.cell? ⟨b,f+off+i,none⟩).isSome=true:=by
    intro i hi;obtain⟨v,A,_⟩:=Ke (off+i) _ (zd Ω);rw[E1] at A;rw[Ld,A];rfl
   have Dz:=VS (P:=P) (t:=t) (w:=w) (b:=b) (j:=f+off) (v:=a.eval y) (by rw[T6,<-Bdl,<-Sf,QA];simp) Fc (λi hi=>by
    obtain⟨u,H⟩:=j8.1 (Fc i hi);exact SM rfl _ Ω (RZ H)) h1
   refine⟨_,l,λnext Q G=>run E2 Dz next Q (G _ _ β ?_)⟩
   refine hf.write W trivial trivial E (De.setCells b _ _ w) ?_ (λcells B=>by cases B) (λ_ B=>by cases B) (λj q=>q) (λj q=>by
    refine vk b _ _ w ⟨b,j,none⟩ (λ_ _=>?_);have q:¬(f<=j):=q;show j<f+off\/f+off+_<=j;omega)
   have Z:Df (Em (Aj s.hp m) β Y) w (w.setCells b (f+off) (a.eval y).cells.toList):=by
    have S:=De.setCells b (a.eval y).cells.toList (f+off) w;have T:Em (Aj s.hp m) β Y b:=.inl ⟨id,f,by rw[W];trivial,E⟩
    exact⟨by rw[S.size];exact Cz _,λk _ l=>S.other k (λe=>l (e ▸ T)),λk _=>S.grow k⟩
   refine .inr ⟨b,f,E,λj p q=>?_,λ_ j q X7=>?_,(λx=>by cases x)⟩
   ·rw[E1];rcases DT Ω q with⟨h3,h4,U⟩|⟨h3,U⟩
    ·obtain⟨u,H,V⟩:=M.get U;have Ct:j-off<(a.eval y).cells.toList.length:=Ω
     refine⟨u,?_,h1 u (zn H),V.step Z (λ_ _ x=>x)⟩;have:=vl b (a.eval y).cells.toList (f+off) w Fc (j-off) Ct;rw[show f+j=f+off+(j-off) from Ω,this];rw[zd Ct] at H;exact H
    ·obtain⟨v,A,h6,WK⟩:=Ke j p U;rw[E1] at A;refine⟨v,?_,h6,WK.step Z (λ_ _ x=>x)⟩;rw[vk b _ _ w ⟨b,f+j,none⟩ (λ_ _=>by show f+j<f+off\/f+off+_<=f+j;omega)]
     exact A
   ·rw[(De.setCells b _ _ w).bs] at X7;rw[(De.setCells b _ _ w).frz];exact SM rfl j q X7
  ·cases l
 ·cases l
end
open Go.RowKit
theorem N5:∀{l b:Cl},F3 (l++b)=true->F3 l=true/\F3 b=true/\∀i∈l,i ∉ b
 |[],b,h=>⟨rfl,h,Ψ⟩
 |a::l,b,h=>by
  simp only[Zzp,F3,Gh,qg] at h;obtain⟨c,f⟩:=h;obtain⟨g,j,k⟩:=N5 f
  have d:∀i∈l++b,a≠i:=by
   rintro i hi rfl
   have:(l++b).any (Nat.beq a)=true:=zm.2 ⟨a,hi,Uz a⟩;rw[this] at c;cases c
  refine⟨?_,j,λi hi=>?_⟩
  ·simp only[F3,Gh,qg,g,and_true];rw[xw];intro i hi e;exact d i (by simp[hi]) (Ed e)
  ·rcases zl.1 hi with rfl|hi
   ·exact λm=>d i (by simp[m]) rfl
   ·exact k i hi
def Kb(β:Bt)(q:Nat × Nat):Option (Nat × Nat):=(β q.1).map λp=>(p.1,p.2+q.2)
theorem Aqp(β:Bt)(id:Nat):Kb β (id,0)=β id:=by unfold Kb;cases β id<;>rfl
section
variable {R:Type}{r:R}{P:Program}{N:Nat}{w0:World}{X0:M0}{Y:Nat->Prop}{β β':Bt}{s:St}{a:Act}{w w':World}{o:Oper}{A:Nat->Prop}
theorem V6{fz:Cl}(h:Em (Aj s.hp fz) β Y b):Em s.hp β Y b:=h.imp AJ id
theorem A15(h:D3 N w0 X0 Y β s a w){mv:Bool}{t:CT}{K:PV->Cl->Cl->Option R}(d:Avp mv s.hp t p K=some r):
  ∃c m q,K c m (vv q)=some r/\isA c/\isF p/\(∀id∈m,∃f cc,s.hp id=some (.ar f cc))/\(∀id,q=some id->∃cc,s.hp id=some (.ar false cc)) /\
   ∀fz:Cl,(∀id∈m,id∈fz)->(∀id∈fz,∃f cc,s.hp id=some (.ar f cc))->∀v,C4 w (Em s.hp β Y) β p v->Jq w (Em (Aj s.hp fz) β Y) (q.bind β) c v:=by
 have frz:∀{t:CT} {p:PV} {K:PV->Cl->Cl->Option R},(Xu (Pf s.hp) t p λc m=>K c m [])=some r->∃c m q,K c m (vv q)=some r/\isA c/\isF p/\(∀id∈m,∃f cc,s.hp id=some (.ar f cc))/\(∀id,q=some id->∃cc,s.hp id=some (.ar false cc)) /\
   ∀fz:Cl,(∀id∈m,id∈fz)->(∀id∈fz,∃f cc,s.hp id=some (.ar f cc))->∀v,C4 w (Em s.hp β Y) β p v->Jq w (Em (Aj s.hp fz) β Y) (q.bind β) c v:=by
  intro t p K d;obtain⟨c,m,d,o,T,U,G⟩:=Abv h d;exact⟨c,m,none,d,.inl o,T,U,Ψ,λfz y A v l=>Ro o (G fz y A v l).1⟩
 have tree:∀{t:CT} {p:PV} {K:PV->Cl->Cl->Option R},(∀es,t ≠ .sl es)->(TN t p λc=>K c [] [])=some r->∃c m q,K c m (vv q)=some r/\isA c/\isF p/\(∀id∈m,∃f cc,s.hp id=some (.ar f cc))/\(∀id,q=some id->∃cc,s.hp id=some (.ar false cc)) /\
   ∀fz:Cl,(∀id∈m,id∈fz)->(∀id∈fz,∃f cc,s.hp id=some (.ar f cc))->∀v,C4 w (Em s.hp β Y) β p v->Jq w (Em (Aj s.hp fz) β Y) (q.bind β) c v:=by
  intro t p K F4 d;obtain⟨c,d,o,H,G⟩:=Vb d;exact⟨c,[],none,d,.inl o,DS H,Ψ,Ψ,λfz y A v l=>Ro o ((G w _ β v l).1.step (Df.refl _ _) (λb _ g=>V6 g))⟩
 unfold Avp at d;cases t with
 |sl es=>
  dsimp only at d;cases mv<;>simp only[cond_true,cond_false] at d
  ·exact frz d
  ·split at d
   ·rename_i id J off n;split at d
    ·rename_i c S;cases g:(Nat.beq J es&&Nat.beq off 0)<;>rw[g] at d<;>simp only[cond_true,cond_false] at d
     ·exact frz d
     ·simp only[Gh] at g;have V:=Ed g.1;have L:=Ed g.2;subst V L;obtain⟨hl,d⟩:=Ax d;refine⟨_,[],some id,d,.inr ⟨_,_,_,rfl⟩,trivial,Ψ,λi hi=>by cases hi;exact⟨c,S⟩,λfz y A v l=>?_⟩
      rcases l with⟨B,_,rfl,M⟩|⟨b,W,x,cap,B,M,O,X,Z,h7⟩
      ·exact .inl ⟨B,rfl,Ψ,M⟩
      ·have O:x=W:=by rcases O with e|⟨_,e⟩<;>omega
       subst O;rcases h.box id _ S with⟨C,_⟩|⟨b',o',C,h9,P,_⟩
       ·rw[B] at C;cases C
       ·rw[B] at C;cases C;refine .inr ⟨b,x,cap,B,M,X,Z,h7,λj p E=>?_,P rfl⟩;rw[zt] at E;split at E
        ·obtain⟨u,hu,Q,ht⟩:=h9 j p E;exact⟨u,hu,Q,ht.step (Df.refl _ _) (λb _ g=>V6 g)⟩
        ·cases E
    ·exact frz d
   ·obtain⟨z,n,c,d,hp⟩:=Jy d;have D:isF p:=by rcases hp with e|⟨e,_⟩<;>(rw[e];trivial)
    cases z<;>simp only[cond_true,cond_false] at d
    ·refine⟨_,[],none,d,.inl trivial,D,Ψ,Ψ,λfz y A v l=>?_⟩;exact Ro trivial ((NE hp l).step (Df.refl _ _) (λb _ g=>V6 g))
    ·refine⟨_,[],none,d,.inr ⟨_,_,_,rfl⟩,D,Ψ,Ψ,λfz y A v l=>.inl ⟨rfl,rfl,rfl,none,?_⟩⟩;have:=NE hp l;cases this;rfl
 |int k=>exact tree Ψ d
 |bool=>exact tree Ψ d
 |str=>exact tree Ψ d
 |any=>exact tree Ψ d
theorem JN(h:D3 N w0 X0 Y β s a w){mv:Bool}:∀{ts:List CT}{ps:Ae}{K:Ae->Cl->Cl->Option R},VP mv s.hp ts ps K=some r ->
  ∃cs m x,∃q:Nat->Option Nat,K cs m x=some r/\cs.length=ts.length/\ps.length=ts.length/\(∀c∈cs,isA c)/\(∀p∈ps,isF p)/\(∀id∈m,∃f cc,s.hp id=some (.ar f cc))/\(∀id∈x,∃cc,s.hp id=some (.ar false cc)) /\
   (∀j id,q j=some id->id∈x)/\(F3 x=true->∀j d id,q j=some id->q d=some id->j=d) /\
   ∀fz:Cl,(∀id∈m,id∈fz)->(∀id∈fz,∃f cc,s.hp id=some (.ar f cc))->∀vs,B4 (C4 w (Em s.hp β Y) β) ps vs->∀(own:Bt) e,(∀j,own (e+j)=(q j).bind β)->Hj w (Em (Aj s.hp fz) β Y) own e cs vs
 |[],[],K,b=>⟨[],[],[],λ_=>none,b,rfl,rfl,Ψ,Ψ,Ψ,Ψ,Ψ,Ψ,λfz _ _ vs y own e _=>by
   cases vs with
   |nil=>trivial
   |cons v vs=>exact y.elim⟩
 |[],_::_,K,b=>by cases b
 |_::_,[],K,b=>by cases b
 |t::ts,p::ps,K,b=>by
  unfold VP at b;obtain⟨c,m,q,b,J,L,M,O,y⟩:=A15 h b;obtain⟨cs,P,I,Q,b,S,Rj,z,A,B,C,g,D,Ox⟩:=JN h b;refine⟨c::cs,m++P,q.toList++I,λj=>match j with|0=>q|j+1=>Q j,b,by simp[S],by simp[Rj],?_,?_,?_,?_,?_,?_,?_⟩
  ·intro x k;rcases zl.1 k with rfl|k
   ·exact J
   ·exact z x k
  ·intro x k;rcases zl.1 k with rfl|k
   ·exact L
   ·exact A x k
  ·intro i hi;rcases B8.1 hi with hi|hi
   ·exact M i hi
   ·exact B i hi
  ·intro i hi;rcases B8.1 hi with hi|hi
   ·exact O i (by simpa using hi)
   ·exact C i hi
  ·intro j id l;cases j with
   |zero=>exact B8.2 (.inl (by simpa using l))
   |succ j=>exact B8.2 (.inr (g j id l))
  ·intro T j d id l E;obtain⟨_,o,n⟩:=N5 T;cases j with
   |zero=>
    cases d with
    |zero=>rfl
    |succ d=>exact absurd (g d id E) (n id (by simpa using l))
   |succ j=>
    cases d with
    |zero=>exact absurd (g j id l) (n id (by simpa using E))
    |succ d=>rw[D o j d id l E]
  ·intro fz G o vs n own e H;cases vs with
   |nil=>exact n.elim
   |cons v vs=>
    refine⟨?_,Ox fz (λi hi=>G i (by simp[hi])) o vs n.2 own (e+1) λj=>?_⟩
    ·have:=H 0;rw[Zzr] at this;rw[this];exact y fz (λi hi=>G i (by simp[hi])) o v n.1
    ·have:=H (j+1);rw[show e+1+j=e+(j+1) by omega];exact this
def LOk(hp:Nat->Option Co)(q:Option (Nat × Nat))(p:PV)(x:Ko):Prop:=
 match x with
 |.var id off a b=>p=.pbox b/\q=some (id,off)/\a.length=b.length/\∃c,hp id=some (.st c)/\off+b.length<=c.length
 |.row id=>(∃ps,p=.tup ps)/\q=some (id,0)/\∃c,hp id=some (.ar false c)
 |.none=>(∃ps,p=.tup ps)/\q=none
theorem Atb{x:Ko}(h:LOk hp q p x):SQ p=true:=by
 cases x with
 |var id off a b=>rw[h.1];rfl
 |row id=>obtain⟨⟨_,e⟩,_⟩:=h;rw[e];rfl
 |none=>obtain⟨⟨_,e⟩,_⟩:=h;rw[e];rfl
def Zq(hp:Nat->Option Co)(a:Nat->Nat->Option (Nat × Nat)):Nat->Ae->List Ko->Prop
 |_,[],l=>l=[]
 |i,p::ps,l=>(SQ p=false/\a i 0=none/\Zq hp a (i+1) ps l)\/∃x b,l=x::b/\LOk hp (a i 0) p x/\Zq hp a (i+1) ps b
theorem Ap5(h:D3 N w0 X0 Y β s a w){i:Nat}{K:PV->Cl->Cl->List Ko->Option R}(g:SY C P f s.hp i t (Da s.tm x) K=some r):
  ∃v m y l,∃d:Nat->Option (Nat × Nat),K v m y l=some r/\(∀id∈m,∃f cc,s.hp id=some (.ar f cc))/\(∀id∈y,∃cc,s.hp id=some (.ar false cc)) /\
   (∀j id off,d (j+1)=some (id,off)->off=0/\id∈y)/\(F3 y=true->∀j J id off D,d (j+1)=some (id,off)->d (J+1)=some (id,D)->j=J) /\
   ((l=[]/\SQ v=false/\d 0=none)\/∃x',l=[x']/\LOk s.hp (d 0) v x') /\
   ∀fz:Cl,(∀id∈m,id∈fz)->(∀id∈fz,∃f cc,s.hp id=some (.ar f cc))->∀bt:Bt,(∀j,bt j=(d j).bind (Kb β))->Aqi w (Em (Aj s.hp fz) β Y) bt v (a.eval x):=by
 have L:=Ec h x
 have X:∀(q0:Option (Nat × Nat)) (q:Nat->Option Nat),∃d:Nat->Option (Nat × Nat),d 0=q0/\(∀j,d (j+1)=(q j).map λid=>(id,0)):=
  λq0 q=>⟨λj=>match j with|0=>q0|j+1=>(q j).map λid=>(id,0),rfl,λ_=>rfl⟩
 have Ak3:∀{d:Nat->Option (Nat × Nat)} {q:Nat->Option Nat} {y:Cl},(∀j,d (j+1)=(q j).map λid=>(id,0))->(∀j id,q j=some id->id∈y)->∀j id off,d (j+1)=some (id,off)->off=0/\id∈y:=by
  intro d q y E G j id off A;rw[E] at A;cases T:q j with
  |none=>rw[T] at A;cases A
  |some k=>rw[T] at A;cases A;exact⟨rfl,G j _ T⟩
 have And:∀{d:Nat->Option (Nat × Nat)} {q:Nat->Option Nat} {y:Cl},(∀j,d (j+1)=(q j).map λid=>(id,0))->(F3 y=true->∀j J id,q j=some id->q J=some id->j=J) ->
   F3 y=true->∀j J id off D,d (j+1)=some (id,off)->d (J+1)=some (id,D)->j=J:=by
  intro d q y E G hn j J id off D A Z;rw[E] at A Z;cases T:q j with
  |none=>rw[T] at A;cases A
  |some k=>
   cases Iw:q J with
   |none=>rw[Iw] at Z;cases Z
   |some k'=>
    rw[T] at A;rw[Iw] at Z;cases A;cases Z;exact G hn j J _ T Iw
 have K6:∀{d:Nat->Option (Nat × Nat)} {q:Nat->Option Nat} {bt:Bt},(∀j,d (j+1)=(q j).map λid=>(id,0))->(∀j,bt j=(d j).bind (Kb β))->∀j,bt (1+j)=(q j).bind β:=by
  intro d q bt E G j;rw[Nat.add_comm,G,E];cases q j with
  |none=>rfl
  |some id=>exact Aqp β id
 unfold SY at g;split at g
 ·rename_i e he;split at g
  ·rename_i id off ep;rw[ep] at L;split at g
   ·rename_i c V;obtain⟨U,g⟩:=Ax g;simp only[Gh,JT] at U;obtain⟨cs,m,y,q,g,hl,Rj,hA,hF,hm,O,XG,Td,Q⟩:=JN h g;obtain⟨d,o,B⟩:=X (some (id,off)) q;obtain⟨b,ob,hβ,E2⟩:=L;refine⟨_,m,y,_,d,g,hm,O,Ak3 B XG,And B Td,.inr ⟨_,rfl,rfl,o,hl.symm,c,V,Ω⟩,λfz E G bt NW=>?_⟩;obtain⟨b',o',G2,Ke,SM⟩:=h.box id _ V;rw[hβ] at G2;cases G2;have Ev:((c.drop off).take (M2 P e).length).length=(M2 P e).length:=by simp;omega
    have A3s:∀j p,((c.drop off).take (M2 P e).length)[j]?=some p->c[off+j]?=some p/\j<(M2 P e).length:=by
     intro j p A;rw[zt] at A;split at A
     ·rw[zg] at A;exact⟨A,by assumption⟩
     ·cases A
    refine⟨b,ob+off,by rw[NW,o];simp[Kb,hβ],E2,hA,((c.drop off).take (M2 P e).length).mapIdx (λj _=>(w.cell? ⟨b,ob+off+j,none⟩).getD undef),Q fz E G _ ?_ bt 1 (K6 B NW),?_,λk g=>?_⟩
    ·refine B4.of_at Ψ λj p v hp Q=>?_;obtain⟨hc,_⟩:=A3s j p hp;obtain⟨u,W,hcr⟩:=Ke _ _ hc;rw[xz,hp,jz,Ld,W] at Q;simp at Q;subst Q;exact hcr
    ·intro k v H;rw[xz] at H;cases hp:((c.drop off).take (M2 P e).length)[k]? with
     |none=>rw[hp] at H;cases H
     |some p=>
      obtain⟨hc,_⟩:=A3s k p hp;obtain⟨u,W,hcr⟩:=Ke _ _ hc;rw[hp,jz,Ld,W] at H;simp at H;subst H;rw[Ld];exact W
    ·rw[Ld];exact SM _ Ω
   ·cases g
  ·cases g
 ·cases hln:C.lnd f i<;>rw[hln] at g<;>simp only[cond_true,cond_false] at g
  ·cases Jf:C6 P t<;>rw[Jf] at g<;>simp only[cond_true,cond_false] at g
   ·obtain⟨cs,m,y,q,g,hl,Rj,hA,hF,hm,O,XG,Td,Q⟩:=JN h g;obtain⟨c,t',rfl,g⟩:=B5 g;obtain⟨rfl,g⟩:=Fj g;obtain⟨d,o,B⟩:=X none q;have hAc:=hA c Ψ;refine⟨c,m,y,_,d,g,hm,O,Ak3 B XG,And B Td,.inl ⟨rfl,A6z hAc,o⟩,λfz E G bt NW=>?_⟩;have hFx:=hF _ (Zh _)
    have hxc:C4 w (Em s.hp β Y) β (Da s.tm x) (a.eval x):=by
     cases hp:Da s.tm x<;>rw[hp] at L hFx<;>first|exact L|exact hFx.elim
    have hoc:=(Q fz E G [a.eval x] ⟨hxc,trivial⟩ bt 1 (K6 B NW)).1;rcases hAc with hT|⟨es,n,cc,rfl⟩
    ·cases c<;>first|exact⟨.inl trivial,hoc⟩|exact hT.elim
    ·exact⟨.inr ⟨_,_,_,rfl⟩,hoc⟩
   ·obtain⟨ps,ep,g⟩:=Lt g;rw[ep] at L;obtain⟨vs,E2,S⟩:=L;obtain⟨cs,m,y,q,g,hl,Rj,hA,hF,hm,O,XG,Td,Q⟩:=JN h g;obtain⟨d,o,B⟩:=X none q;refine⟨_,m,y,_,d,g,hm,O,Ak3 B XG,And B Td,.inl ⟨rfl,rfl,o⟩,λfz E G bt NW=>?_⟩;exact⟨vs,E2,hA,Q fz E G vs S bt 1 (K6 B NW)⟩
  ·obtain⟨e,he,g⟩:=Dh g;unfold A0q at g;split at g
   ·rename_i id es' off n ep;rw[ep] at L;split at g
    ·rename_i c V;obtain⟨U,Hn⟩:=Ax g;simp only[Gh] at U;have he:=Ed U.1;have hof:=Ed U.2;subst hof;obtain⟨d,o,B⟩:=X (some (id,0)) (λ_=>none);refine⟨_,[],[],_,d,Hn,Ψ,Ψ,Ak3 B Ψ,And B Ψ,.inr ⟨_,rfl,⟨_,rfl⟩,o,c,V⟩,λfz E G bt NW=>⟨_,_,_,rfl,?_⟩⟩;have hb0:bt 0=β id:=by rw[NW,o];exact Aqp β id
     rw[hb0];rcases L with⟨S,_,h4,h5⟩|⟨b,ob,y,cap,S,h4,O,h5,h6,h7⟩
     ·refine .inl ⟨S,h4,?_,h5⟩;rcases h.box id _ V with⟨_,M⟩|⟨_,_,M,_⟩
      ·exact M
      ·rw[S] at M;cases M
     ·have O:y=ob:=by rcases O with e|⟨_,e⟩<;>omega
      subst O;rcases h.box id _ V with⟨M,_⟩|⟨b',o',M,h9,h10,_⟩
      ·rw[S] at M;cases M
      ·rw[S] at M;cases M;exact .inr ⟨b,y,cap,S,h4,h5,by rw[<-he];exact h6,h7,h9.weak (λb _ U=>V6 U),h10 rfl⟩
    ·cases g
   ·obtain⟨z,n,c,g,hp⟩:=Jy g;obtain⟨hz,g⟩:=Ax g;subst hz;obtain⟨d,o,B⟩:=X none (λ_=>none)
    have W:a.eval x=.slice none 0 0:=by
     have hF:C4 w (Em s.hp β Y) β (Da s.tm x) (a.eval x):=by rcases hp with e|⟨e,_⟩<;>rw[e] at L ⊢ <;> exact L
     have:=NE hp hF;generalize a.eval x=u at this;cases this;rfl
    refine⟨_,[],[],_,d,g,Ψ,Ψ,Ak3 B Ψ,And B Ψ,.inr ⟨_,rfl,⟨_,rfl⟩,o⟩,λfz E G bt NW=>⟨_,_,_,rfl,.inl ⟨by rw[NW,o];rfl,rfl,rfl,none,W⟩⟩⟩
structure Bny(i0 n:Nat)(src:Nat->Nat->Option (Nat × Nat))(ids x:Cl):Prop where
 dom:∀i j q,src i j=some q->i0<=i/\i<i0+n
 lent:∀i id off,src i 0=some (id,off)->id∈ids
 mvd:∀i j id off,src i (j+1)=some (id,off)->off=0/\id∈x
 inj0:F3 ids=true->∀i i' id off off',src i 0=some (id,off)->src i' 0=some (id,off')->i=i'
 inj1:F3 x=true->∀i i' j j' id off off',src i (j+1)=some (id,off)->src i' (j'+1)=some (id,off')->i=i'/\j=j'
theorem NU{hp:Nat->Option Co}{b a:Nat->Nat->Option (Nat × Nat)}:∀{ps:Ae}{i:Nat}{l:List Ko},(∀k,i<=k->a k=b k)->Zq hp b i ps l->Zq hp a i ps l
 |[],_,_,_,h=>h
 |p::ps,i,l,c,h=>by
  rcases h with⟨f,d,e⟩|⟨x,g,rfl,d,e⟩
  ·exact .inl ⟨f,by rw[c i (Cz _)];exact d,NU (λk j=>c k Ω) e⟩
  ·exact .inr ⟨x,g,rfl,by rw[c i (Cz _)];exact d,NU (λk j=>c k Ω) e⟩
theorem WF{bt a:QW}:∀{ps:Ae}{us:List Value}{i:Nat},(∀k,i<=k->∀j,a k j=bt k j)->Tj w A bt i ps us->Tj w A a i ps us
 |[],[],_,_,_=>trivial
 |[],_::_,_,_,h=>h.elim
 |_::_,[],_,_,h=>h.elim
 |_::_,_::_,i,b,h=>⟨by rw[show a i=bt i from funext (b i (Cz _))];exact h.1,WF (λk c=>b k Ω) h.2⟩
theorem Ad1(h:D3 N w0 X0 Y β s a w){C:Lf}{f:FuncId}:∀{ts:List TypeId}{I:List Operand}{i:Nat}{K:Ae->Cl->Cl->List Ko->Option R},Afe C P f s.hp i ts (I.map (Da s.tm)) K=some r ->
  ∃vs m y l,∃o:Nat->Nat->Option (Nat × Nat),K vs m y l=some r/\(∀id∈m,∃f cc,s.hp id=some (.ar f cc))/\(∀id∈y,∃cc,s.hp id=some (.ar false cc)) /\
   Bny i I.length o (l.flatMap Ko.ids) y/\Zq s.hp o i vs l /\
   ∀fz:Cl,(∀id∈m,id∈fz)->(∀id∈fz,∃f cc,s.hp id=some (.ar f cc))->∀bt:QW,(∀i j,bt i j=(o i j).bind (Kb β))->Tj w (Em (Aj s.hp fz) β Y) bt i vs (I.map a.eval)
 |[],[],i,K,n=>⟨[],[],[],[],λ_ _=>none,n,Ψ,Ψ,⟨Ψ,Ψ,Ψ,Ψ,Ψ⟩,rfl,λ_ _ _ _ _=>trivial⟩
 |[],_::_,i,K,n=>by cases n
 |_::_,[],i,K,n=>by cases n
 |t::ts,x::I,i,K,n=>by
  simp only[ER] at n;unfold Afe at n;obtain⟨v,m,y,l,o,n,Z,hy,D,SN,V,hv⟩:=Ap5 h n;obtain⟨vs,ms,ys,L,srcs,n,M,O,A,hL,Ox⟩:=Ad1 h n;have Z7:∃E:Nat->Nat->Option (Nat × Nat),E i=o/\∀k,k≠i->E k=srcs k:=⟨λk=>if k=i then o else srcs k,Ψ,λk n=>by simp[n]⟩
  obtain⟨E,g,d⟩:=Z7
  have Add:∀id off,o 0=some (id,off)->id∈l.flatMap Ko.ids:=by
   intro id off e;rcases V with⟨_,_,z⟩|⟨Q,rfl,z⟩
   ·rw[z] at e;cases e
   ·cases Q with
    |var S b cts ws=>rw[z.2.1] at e;cases e;simp[Ko.ids]
    |row S=>rw[z.2.1] at e;cases e;simp[Ko.ids]
    |none=>rw[z.2] at e;cases e
  refine⟨v::vs,m++ms,y++ys,l++L,E,n,?_,?_,⟨?_,?_,?_,?_,?_⟩,?_,λfz W X bt NW=>⟨?_,?_⟩⟩
  ·intro i hi;rcases B8.1 hi with hi|hi
   ·exact Z i hi
   ·exact M i hi
  ·intro i hi;rcases B8.1 hi with hi|hi
   ·exact hy i hi
   ·exact O i hi
  ·intro k j q c;simp only[M9];by_cases e:k=i
   ·subst e;omega
   ·rw[d k e] at c;have:=A.dom k j q c;omega
  ·intro k id off c;rw[kk];by_cases e:k=i
   ·subst e;rw[g] at c;exact B8.2 (.inl (Add id off c))
   ·rw[d k e] at c;exact B8.2 (.inr (A.lent k id off c))
  ·intro k j id off c;by_cases e:k=i
   ·subst e;rw[g] at c;exact⟨(D j id off c).1,B8.2 (.inl (D j id off c).2)⟩
   ·rw[d k e] at c;exact⟨(A.mvd k j id off c).1,B8.2 (.inr (A.mvd k j id off c).2)⟩
  ·intro H k p id off b c Iw;rw[kk] at H;obtain⟨_,T,G⟩:=N5 H;by_cases e:k=i
   ·by_cases B:p=i
    ·omega
    ·rw[d p B] at Iw;subst e;rw[g] at c;exact absurd (A.lent p id b Iw) (G id (Add id off c))
   ·rw[d k e] at c;by_cases B:p=i
    ·subst B;rw[g] at Iw;exact absurd (A.lent k id off c) (G id (Add id b Iw))
    ·rw[d p B] at Iw;exact A.inj0 T k p id off b c Iw
  ·intro H k p j J id off b c Iw;obtain⟨z,T,G⟩:=N5 H;by_cases e:k=i
   ·by_cases B:p=i
    ·subst e;subst B;rw[g] at c Iw;exact⟨rfl,SN z j J id off b c Iw⟩
    ·rw[d p B] at Iw;subst e;rw[g] at c;exact absurd (A.mvd p J id b Iw).2 (G id (D j id off c).2)
   ·rw[d k e] at c;by_cases B:p=i
    ·subst B;rw[g] at Iw;exact absurd (A.mvd k j id off c).2 (G id (D J id b Iw).2)
    ·rw[d p B] at Iw;exact A.inj1 T k p j J id off b c Iw
  ·have MI:Zq s.hp E (i+1) vs L:=NU (λk n=>d k Ω) hL;rcases V with⟨rfl,U,z⟩|⟨Q,rfl,z⟩
   ·exact .inl ⟨U,by rw[g];exact z,MI⟩
   ·exact .inr ⟨Q,L,rfl,by rw[g];exact z,MI⟩
  ·exact hv fz (λi hi=>W i (by simp[hi])) X (bt i) (λj=>by rw[NW,g])
  ·refine Ox fz (λi hi=>W i (by simp[hi])) X (λk j=>(srcs k j).bind (Kb β)) (λ_ _=>rfl) |> WF λk n j=>?_
   rw[NW,d k Ω]
end
open Go.RowKit
section
variable {R:Type}{r:R}{P:Program}{N:Nat}{w0:World}{X0:M0}{Y:Nat->Prop}{β β':Bt}{s:St}{a:Act}{w w':World}{o:Oper}{A:Nat->Prop}
theorem A1d(h:A7 w A p u):C4 w A β p u:=by have a:=h;cases h<;>exact a
theorem A2n{t:Nat}{ct:CT}{d:PV}{K:Nat->PV->List (Nat × Co)->Option R}(a:Au9 N t ct d p K=some r):
  (∃c,K t c []=some r/\MN c/\∀w A q u,Jq w A q p u->A7 w A c u)\/∃es n cc,p=.own es n cc/\K (t+1) (.view (nid N t) es 0 n) [(nid N t,.ar false cc)]=some r:=by
 have tree:∀i,(TN i p λc=>K t c [])=some r->∃c,K t c []=some r/\MN c/\∀w A q u,Jq w A q p u->A7 w A c u:=by
  intro i a;obtain⟨c,a,e,b,f⟩:=Vb a;refine⟨c,a,e,λw A q u h=>(f w A (λ_=>none) u ?_).1⟩;cases p<;>first|exact h|exact b.elim
 unfold Au9 at a;cases ct with
 |sl es=>
  dsimp only at a;split at a
  ·unfold K5 at a;split at a
   ·rename_i g n c;cases j:Nat.beq g es<;>rw[j] at a
    ·cases a
    ·have:=Ed j;subst this;exact .inr ⟨_,_,_,rfl,a⟩
   ·cases a
  ·have l:(TN (.sl es) p λc=>(match c with | .lst _ es n c=>K t (.lst false es n c) []|_=>none))=some r:=a;obtain⟨c,a,e,b,f⟩:=Vb l;split at a
   ·refine .inl ⟨_,a,e,λw A q u h=>A7.unz (f w A (λ_=>none) u ?_).1⟩;cases p<;>first|exact h|exact b.elim
   ·cases a
 |int k=>exact .inl (tree _ a)
 |bool=>exact .inl (tree _ a)
 |str=>exact .inl (tree _ a)
 |any=>exact .inl (tree _ a)
theorem UE:∀{v:List CT}{ws ps:Ae}{t:Nat}{K:Nat->Ae->List (Nat × Co)->Option R},Aff N t v ws ps K=some r ->
  ∃z cs bs,∃j:List (Nat × Nat),K z cs bs=some r/\cs.length=ps.length/\ps.length=ws.length/\bs.map (·.1)=j.map (·.1)/\(∀q∈j,(∃k,q.1=nid N k)/\q.2<ps.length)/\(∀q∈j,∀B∈j,q.2=B.2->q.1=B.1) /\
   (∀i d,(i,d)∈bs->∃c,d=.ar false c)/\(∀c∈cs,∀i∈A6 c,∃d,(i,d)∈bs) /\
   ∀(w:World) (A:Nat->Prop) (own β':Bt) (m:Nat) (us:List Value),(∀q∈j,β' q.1=own (m+q.2))->Hj w A own m ps us->B4 (C4 w A β') cs us/\∀i d,(i,d)∈bs->EB w A β' i d
 |[],[],ps,t,K,f=>by
  obtain⟨rfl,f⟩:=Fj f;refine⟨t,[],[],[],f,rfl,rfl,rfl,Ψ,Ψ,Ψ,Ψ,λw A own β' m us _ h=>⟨?_,Ψ⟩⟩;cases us with
  |nil=>trivial
  |cons u us=>exact h.elim
 |[],_::_,_,_,_,f=>by cases f
 |_::_,[],_,_,_,f=>by cases f
 |ct::v,x::ws,ps,t,K,f=>by
  unfold Aff at f;obtain⟨p,T,WV,U⟩:=B5 f;subst WV;rcases A2n U with⟨c,Hn,V,W⟩|⟨es,n,cc,rfl,Hn⟩
  ·obtain⟨z,cs,bs,j,Tl,E,Rj,G,XG,Td,H,Ke,Ox⟩:=UE Hn;refine⟨z,c::cs,bs,j.map (λq=>(q.1,q.2+1)),Tl,by simp[E],by simp[Rj],by rw[G];simp,?_,?_,H,?_,λw A own β' m us C l=>?_⟩
   ·intro q a;obtain⟨g,OO,rfl⟩:=kl.1 a;exact⟨(XG g OO).1,by have:=(XG g OO).2;simp only[M9];omega⟩
   ·intro q a B Iw e;obtain⟨g,OO,rfl⟩:=kl.1 a;obtain⟨J,L,rfl⟩:=kl.1 Iw;exact Td g OO J L (by simp only at e;omega)
   ·intro y o i hi;rcases zl.1 o with rfl|o
    ·rw[Mc V] at hi;cases hi
    ·exact Ke y o i hi
   ·cases us with
    |nil=>exact l.elim
    |cons u us=>
     obtain⟨M,O⟩:=Ox w A own β' (m+1) us (λq a=>by rw[C _ (km a)];congr 1;simp only;omega) l.2
     exact⟨⟨A1d (W w A _ u l.1),M⟩,O⟩
  ·obtain⟨z,cs,bs,j,Tl,E,Rj,G,XG,Td,H,Ke,Ox⟩:=UE Hn;refine⟨z,_::cs,(nid N t,.ar false cc)::bs,(nid N t,0)::j.map (λq=>(q.1,q.2+1)),Tl,by simp[E],by simp[Rj],by simp only[ER,G];simp,?_,?_,?_,?_,λw A own β' m us C l=>?_⟩
   ·intro q a;rcases zl.1 a with rfl|a
    ·exact⟨⟨t,rfl⟩,Ψ⟩
    ·obtain⟨g,OO,rfl⟩:=kl.1 a;exact⟨(XG g OO).1,by have:=(XG g OO).2;simp only[M9];omega⟩
   ·intro q a B Iw e;rcases zl.1 a with rfl|a
    ·rcases zl.1 Iw with rfl|Iw
     ·rfl
     ·obtain⟨g,OO,rfl⟩:=kl.1 Iw;simp only at e;omega
    ·obtain⟨g,OO,rfl⟩:=kl.1 a;rcases zl.1 Iw with rfl|Iw
     ·simp only at e;omega
     ·obtain⟨J,L,rfl⟩:=kl.1 Iw;exact Td g OO J L (by simp only at e;omega)
   ·intro i d s;rcases zl.1 s with e|s
    ·cases e;exact⟨cc,rfl⟩
    ·exact H i d s
   ·intro y o i hi;rcases zl.1 o with rfl|o
    ·simp only[A6,Tx] at hi;subst hi;exact⟨_,OJ⟩
    ·obtain⟨d,Tn⟩:=Ke y o i hi;exact⟨d,BL _ Tn⟩
   ·cases us with
    |nil=>exact l.elim
    |cons u us=>
     obtain⟨M,O⟩:=Ox w A own β' (m+1) us (λq a=>by rw[C _ (BL _ (km a))];congr 1;simp only;omega) l.2
     have D:=C (nid N t,0) OJ;simp only[Zzr] at D;refine⟨⟨?_,M⟩,λi d s=>?_⟩
     ·rcases l.1 with⟨P,rfl,_,Q⟩|⟨b,S,cap,P,X,Q,Y,Z,_⟩
      ·exact .inl ⟨D.trans P,rfl,rfl,Q⟩
      ·exact .inr ⟨b,S,S,cap,D.trans P,X,.inl rfl,Q,Y,Z⟩
     ·rcases zl.1 s with e|s
      ·cases e;exact QE l.1 D
      ·exact O i d s
def Ar2(hp Ek:Nat->Option Co)(bs:List (Nat × Co))(x:Ko):Prop:=
 match x with
 |.var id off _ b=>∃c a,hp id=some (.st c)/\Ek id=some (.st (B9 c a off))/\a.length=b.length/\off+a.length<=c.length/\∀p∈a,∀i∈A6 p,∃d,(i,d)∈bs
 |.row id=>∃c a,hp id=some (.ar false c)/\Ek id=some (.ar false a)
 |.none=>True
def A01(β β':Bt)(w':World)(A:Nat->Prop)(hp Ek:Nat->Option Co)(x:Ko):Prop:=
 match x with
 |.var id off _ d=>∃c a,hp id=some (.st c)/\Ek id=some (.st (B9 c a off))/\a.length=d.length/\off+a.length<=c.length /\
   ∀b o,β id=some (b,o)->(∀(j:Nat) p,a[j]?=some p->∃v,w'.cell? ⟨b,o+off+j,none⟩=some v/\C4 w' A β' p v)/\∀j,j<a.length->w'.frozen? ⟨b,o+off+j,none⟩=false
 |.row id=>∃a,Ek id=some (.ar false a)/\((β id=none/\a=[])\/∃b o,β id=some (b,o)/\RdT w' A ⟨b,o,none⟩ a/\∀j,o<=j->j<bsz w' b->w'.frozen? ⟨b,j,none⟩=false)
 |.none=>True
theorem SE{Fs Ek:Nat->Option Co}{a:List (Nat × Co)}{x:Ko}(f:∀i∈x.ids,Fs i=hp i)(g:∀q∈bs,q∈a)(h:Ar2 Fs Ek bs x):Ar2 hp Ek a x:=by
 cases x with
 |var id off j o=>
  obtain⟨c,b,d,e,k,l,m⟩:=h;refine⟨c,b,by rw[<-f id (by simp[Ko.ids])];exact d,e,k,l,λp hp i hi=>?_⟩
  obtain⟨n,Tn⟩:=m p hp i hi;exact⟨n,g _ Tn⟩
 |row id=>
  obtain⟨c,b,d,e⟩:=h;exact⟨c,b,by rw[<-f id (by simp[Ko.ids])];exact d,e⟩
 |none=>trivial
theorem VW{Fs Ek:Nat->Option Co}{x:Ko}(a:∀i∈x.ids,Fs i=hp i)(h:A01 β β' w' A Fs Ek x):A01 β β' w' A hp Ek x:=by
 cases x with
 |var id off b g=>
  obtain⟨c,d,e,f⟩:=h;exact⟨c,d,by rw[<-a id (by simp[Ko.ids])];exact e,f⟩
 |row id=>exact h
 |none=>trivial
theorem Ax1{Fs:Nat->Option Co}{x:Ko}(d:∀i∈x.ids,Fs i=hp i)(h:LOk hp q p x):LOk Fs q p x:=by
 cases x with
 |var id off e f=>
  obtain⟨a,b,g,c,j,k⟩:=h;exact⟨a,b,g,c,by rw[d id (by simp[Ko.ids])];exact j,k⟩
 |row id=>
  obtain⟨a,b,c,l⟩:=h;exact⟨a,b,c,by rw[d id (by simp[Ko.ids])];exact l⟩
 |none=>exact h
theorem QX{hp Fs:Nat->Option Co}{a:Nat->Nat->Option (Nat × Nat)}:∀{ps:Ae}{i:Nat}{l:List Ko},(∀i∈l.flatMap Ko.ids,Fs i=hp i)->Zq hp a i ps l->Zq Fs a i ps l
 |[],_,_,_,h=>h
 |p::ps,i,l,b,h=>by
  rcases h with⟨f,c,d⟩|⟨x,g,rfl,c,d⟩
  ·exact .inl ⟨f,c,QX b d⟩
  ·exact .inr ⟨x,g,rfl,Ax1 (λk e=>b k (by simp only[Le,B8];exact .inl e)) c,QX (λk e=>b k (by simp only[Le,B8];exact .inr e)) d⟩
theorem Aru{own:Bt}{bt:QW}{j i:Nat}{p:PV}{a:Ae}{r:List Ae}(hp:SQ p=false)(h:N9 w A own bt j i (p::a) r):N9 w A own bt j (i+1) a r:=by cases p<;>first|exact h|cases hp
theorem IB{C:Nat->Nat->Option (Nat × Nat)}{β:Bt}:∀{P:Ae}{l:List Ko}{ro:List Ae} {i j t:Nat}{hp:Nat->Option Co}{K:(Nat->Option Co)->List (Nat × Co)->Option R},
  OK N t l ro hp K=some r->Zq hp C i P l->F3 (l.flatMap Ko.ids)=true ->
  ∃Ek bs,∃H:List (Nat × Nat),K Ek bs=some r/\bs.map (·.1)=H.map (·.1)/\(∀q∈H,(∃k,q.1=nid N k)/\j<=q.2)/\(∀q∈H,∀Q∈H,q.2=Q.2->q.1=Q.1)/\(∀i o,(i,o)∈bs->∃c,o=.ar false c) /\
   (∀i,i ∉ l.flatMap Ko.ids->Ek i=hp i)/\(∀x∈l,Ar2 hp Ek bs x) /\
   ∀(w':World) (A:Nat->Prop) (own β':Bt) (bt:QW),(∀q∈H,β' q.1=own q.2)->(∀i,bt i 0=(C i 0).bind (Kb β))->N9 w' A own bt j i P ro ->
    (∀i o,(i,o)∈bs->EB w' A β' i o)/\∀x∈l,A01 β β' w' A hp Ek x
 |[],l,ro,i,j,t,hp,K,d,D,W=>by
  have D:l=[]:=D;subst D;unfold OK at d;obtain⟨rfl,d⟩:=Fj d;exact⟨hp,[],[],d,rfl,Ψ,Ψ,Ψ,λ_ _=>rfl,Ψ,λw' A own β' bt _ _ _=>⟨Ψ,Ψ⟩⟩
 |p::P,l0,ro,i,j,t,hp,K,d,Z,W=>by
  rcases Z with⟨CH,_,D⟩|⟨x,l,rfl,J,D⟩
  rotate_left
  ··simp only[Le] at W;obtain⟨hn1,L,S⟩:=N5 W;cases x with
    |var id off cts ws'=>
     obtain⟨rfl,X,Sf,c,T,JJ⟩:=J;unfold OK at d;obtain⟨E,M,z,F9⟩:=B5 d;subst z;obtain⟨t',s,bs,H,Hn,hl1,Uk,hb,XG,Td,G2,Ke,hv⟩:=UE F9;rw[T] at Hn;simp only at Hn;change OK N t' l M (Dy hp id (some (.st (B9 c s off)))) (λEk g=>K Ek (bs++g))=some r at Hn;have Aq5:id ∉ l.flatMap Ko.ids:=S id (by simp[Ko.ids]);have O:Zq (Dy hp id (some (.st (B9 c s off)))) C (i+1) P l:=QX (λk h=>Au _ _ (λe=>Aq5 (e ▸ h))) D;obtain⟨Ek,g,m,Tl,Mv,y,Apr,Ard,Sx,n,Aid⟩:=IB (β:=β) (j:=j+E.length) Hn O L;have A4h:Ek id=some (.st (B9 c s off)):=by rw[Sx id Aq5,Ay]
     have Aci:∀x∈l,∀k∈x.ids,Dy hp id (some (.st (B9 c s off))) k=hp k:=λx a k h=>Au _ _ (λe=>Aq5 (e ▸ zk.2 ⟨x,a,h⟩));refine⟨Ek,bs++g,H.map (λq=>(q.1,j+q.2))++m,Tl,by simp only[kn,hb,Mv];simp,?_,?_,?_,?_,?_,λw' A own β' bt G NW w=>?_⟩
     ·intro q f;rcases B8.1 f with f|f
      ·obtain⟨Y,OO,rfl⟩:=kl.1 f;exact⟨(XG Y OO).1,by simp only;omega⟩
      ·exact⟨(y q f).1,by have:=(y q f).2;omega⟩
     ·intro q f Q Iw e;rcases B8.1 f with f|f
      ·obtain⟨Y,OO,rfl⟩:=kl.1 f;have:=(XG Y OO).2;rcases B8.1 Iw with Iw|Iw
       ·obtain⟨q1,y,rfl⟩:=kl.1 Iw;exact Td Y OO q1 y (by simp only at e;omega)
       ·have:=(y Q Iw).2;simp only at e;omega
      ·have h5:=(y q f).2;rcases B8.1 Iw with Iw|Iw
       ·obtain⟨q1,Bi1,rfl⟩:=kl.1 Iw;have:=(XG q1 Bi1).2;simp only at e;omega
       ·exact Apr q f Q Iw e
     ·intro k o B;rcases B8.1 B with B|B
      ·exact G2 k o B
      ·exact Ard k o B
     ·intro k d;simp only[Le,B8,not_or] at d;rw[Sx k d.2];exact Au _ _ (by rintro rfl;exact d.1 (by simp[Ko.ids]))
     ·intro x a;rcases zl.1 a with rfl|a
      ·refine⟨c,s,T,A4h,Ω,Ω,λp hp k d=>?_⟩;obtain⟨o,Tn⟩:=Ke p hp k d;exact⟨o,B8.2 (.inl Tn)⟩
      ·exact SE (Aci x a) (λq f=>B8.2 (.inr f)) (n x a)
     ·obtain⟨⟨b,ob,hb0,Ev,vs,hov,Fc,hfr⟩,w⟩:=w
      ·obtain⟨h1,h2⟩:=hv w' A own β' j vs (λq f=>G _ (B8.2 (.inl (km f)))) hov;obtain⟨U,V⟩:=Aid w' A own β' bt (λq f=>G q (B8.2 (.inr f))) NW w;refine⟨λk o B=>?_,λx a=>?_⟩
       ·rcases B8.1 B with B|B
        ·exact h2 k o B
        ·exact U k o B
       ·rcases zl.1 a with rfl|a
        ·refine⟨c,s,T,A4h,Ω,Ω,λb1 o1 hβ1=>?_⟩;have Ke:=NW i;rw[hb0,X] at Ke;simp only[vw,Kb,hβ1,jz,Option.some.injEq,Prod.mk.injEq] at Ke;obtain⟨rfl,rfl⟩:=Ke;refine⟨λk p hp=>?_,λk d=>hfr k Ω⟩;obtain⟨v,hv,hcr⟩:=h1.get hp;exact⟨v,Fc k v hv,hcr⟩
        ·exact VW (Aci x a) (V x a)
    |row id=>
     obtain⟨⟨pz,rfl⟩,X,c,T⟩:=J;unfold OK at d;obtain⟨E,M,z,Hn⟩:=B5 d;subst z;have Aq5:id ∉ l.flatMap Ko.ids:=S id (by simp[Ko.ids]);have O:Zq (Dy hp id (some (.ar false E))) C (i+1) P l:=QX (λk h=>Au _ _ (λe=>Aq5 (e ▸ h))) D;obtain⟨Ek,g,m,Tl,Mv,y,Apr,Ard,Sx,n,Aid⟩:=IB (β:=β) (j:=j) Hn O L;have A4h:Ek id=some (.ar false E):=by rw[Sx id Aq5,Ay]
     have Aci:∀x∈l,∀k∈x.ids,Dy hp id (some (.ar false E)) k=hp k:=λx a k h=>Au _ _ (λe=>Aq5 (e ▸ zk.2 ⟨x,a,h⟩));refine⟨Ek,g,m,Tl,Mv,y,Apr,Ard,?_,?_,λw' A own β' bt G NW w=>?_⟩
     ·intro k d;simp only[Le,B8,not_or] at d;rw[Sx k d.2];exact Au _ _ (by rintro rfl;exact d.1 (by simp[Ko.ids]))
     ·intro x a;rcases zl.1 a with rfl|a
      ·exact⟨c,E,T,A4h⟩
      ·exact SE (Aci x a) (λq f=>f) (n x a)
     ·obtain⟨Axj,w⟩:=w
      ·obtain⟨U,V⟩:=Aid w' A own β' bt G NW w;refine⟨U,λx a=>?_⟩;rcases zl.1 a with rfl|a
       ·refine⟨E,A4h,?_⟩;have Ke:=NW i;rw[X] at Ke;simp only[vw,Aqp] at Ke;rw[Ke] at Axj;exact Axj
       ·exact VW (Aci x a) (V x a)
    |none=>
     obtain⟨⟨pz,rfl⟩,X⟩:=J;unfold OK at d;obtain⟨E,M,z,Hn⟩:=B5 d;subst z;obtain⟨Ek,g,m,Tl,Mv,y,Apr,Ard,Sx,n,Aid⟩:=IB (β:=β) (j:=j) Hn D L;refine⟨Ek,g,m,Tl,Mv,y,Apr,Ard,?_,?_,λw' A own β' bt G NW w=>?_⟩
     ·intro k d;simp only[Le,B8,not_or] at d;exact Sx k d.2
     ·intro x a;rcases zl.1 a with rfl|a
      ·trivial
      ·exact n x a
     ·obtain⟨Axj,w⟩:=w
      ·obtain⟨U,V⟩:=Aid w' A own β' bt G NW w;refine⟨U,λx a=>?_⟩;rcases zl.1 a with rfl|a
       ·trivial
       ·exact V x a
  ·obtain⟨Ek,g,m,Tl,Mv,y,Apr,Ard,Sx,n,Aid⟩:=IB (β:=β) (j:=j) d D W;exact⟨Ek,g,m,Tl,Mv,y,Apr,Ard,Sx,n,λw' A own β' bt G NW w=>Aid w' A own β' bt G NW (Aru CH w)⟩
end
open Go.RowKit
theorem Jd(hp:Nat->Option Co)(ids:Cl)(i:Nat):IA hp ids i=if i∈ids then (hp i).map (λ_=>Co.mv) else hp i:=by
 unfold IA;by_cases hi:i∈ids
 ·have:ids.any (Nat.beq i)=true:=zm.2 ⟨i,hi,Uz i⟩;rw[this,Bv hi];rfl
 ·have:ids.any (Nat.beq i)=false:=by
   cases a:ids.any (Nat.beq i)
   ·rfl
   ·obtain⟨j,b,e⟩:=zm.1 a;exact absurd (Ed e ▸ b) hi
  rw[this,Bd hi];rfl
theorem CY:∀{nw:List (Nat × Co)} {hp:Nat->Option Co},Cs hp nw=true->(nw.map (·.1)).Nodup
 |[],_,_=>List.nodup_nil
 |(i,b)::r,hp,h=>by
  simp only[Cs,Gh,vu,qg] at h;simp only[ER,ko];refine⟨λa=>?_,CY h.2⟩;obtain⟨q,c,e⟩:=kl.1 a;have:r.any (λq=>Nat.beq q.1 i)=true:=zm.2 ⟨q,c,by rw[e];exact Uz i⟩
  rw[this] at h;cases h.1.2
theorem A3i:∀{l:List (Nat × Nat)},(l.map (·.1)).Nodup->∀q∈l,LQ l q.1=some q.2
 |[],_,_,h=>by cases h
 |(j,b)::r,c,q,a=>by
  simp only[ER,ko] at c;unfold LQ;rcases zl.1 a with rfl|a
  ·simp only[Uz,cond_true]
  ·have:Nat.beq q.1 j=false:=by
    cases d:Nat.beq q.1 j
    ·rfl
    ·exact absurd (Ed d ▸ km a) c.1
   simp only[this,cond_false];exact A3i c.2 q a
theorem Ak7:∀{l:List (Nat × Nat)} {i:Nat},i ∉ l.map (·.1)->LQ l i=none
 |[],_,_=>rfl
 |(j,b)::r,i,h=>by
  simp only[ER,zl,not_or] at h;unfold LQ
  have:Nat.beq i j=false:=by
   cases a:Nat.beq i j
   ·rfl
   ·exact absurd (Ed a) h.1
  simp only[this,cond_false];exact Ak7 h.2
section
variable {R:Type}{r:R}{P:Program}{N:Nat}{w0:World}{X0:M0}{Y:Nat->Prop}{β β':Bt}{s:St}{a:Act}{w w':World}{o:Oper}{A A':Nat->Prop}
theorem Jq.weak(a:∀b,b<w.heap.size->A' b->A b)(h:Jq w A q p u):Jq w A' q p u:=by
 have d:∀{p:PV},A7 w A p u->A7 w A' p u:=λh=>h.step (Df.refl _ _) a;cases p with
 |own es n c=>
  rcases h with h|⟨b,e,cap,f,g,i,j,k,l,m⟩
  ·exact .inl h
  ·exact .inr ⟨b,e,cap,f,g,i,j,k,l.weak a,m⟩
 |_=>exact d h
theorem Hj.weak(a:∀b,b<w.heap.size->A' b->A b){own:Bt}:∀{ps:Ae}{us:List Value}{j:Nat},Hj w A own j ps us->Hj w A' own j ps us
 |[],[],_,_=>trivial
 |[],_::_,_,h=>h.elim
 |_::_,[],_,h=>h.elim
 |_::_,_::_,_,h=>⟨h.1.weak a,Hj.weak a h.2⟩
theorem Aqi.weak(e:∀b,b<w.heap.size->A' b->A b){bt:Bt}(h:Aqi w A bt p u):Aqi w A' bt p u:=by
 cases p with
 |pbox ps=>
  obtain⟨b,g,a,d,f,vs,i,j⟩:=h;exact⟨b,g,a,d,f,vs,i.weak e,j⟩
 |tup ps=>
  obtain⟨es,n,c,a,d⟩:=h;exact⟨es,n,c,a,d.weak e⟩
 |agg k=>
  obtain⟨vs,a,d,f⟩:=h;exact⟨vs,a,d,f.weak e⟩
 |_=>exact⟨h.1,h.2.weak e⟩
theorem Tj.weak(a:∀b,b<w.heap.size->A' b->A b){bt:QW}:∀{ps:Ae}{us:List Value}{i:Nat},Tj w A bt i ps us->Tj w A' bt i ps us
 |[],[],_,_=>trivial
 |[],_::_,_,h=>h.elim
 |_::_,[],_,h=>h.elim
 |_::_,_::_,_,h=>⟨h.1.weak a,Tj.weak a h.2⟩
theorem QF{bt:QW}(k:Bool):∀{I:List Operand}{ps:Ae}{i:Nat},Tj w A bt i ps (I.map a.eval)->Tj w A bt i (Pw k I ps) (I.map a.eval)
 |[],[],_,h=>h
 |[],_::_,_,h=>h
 |_::_,[],_,h=>h
 |x::I,p::ps,i,h=>by
  simp only[ER] at h ⊢;refine⟨?_,QF k h.2⟩;split
  ·exact⟨.inl trivial,A7.lnil _ _⟩
  ·exact h.1
theorem Ag3(k:Bool)(x:Operand)(I:List Operand)(p:PV)(ps:Ae):∃a,Pw k (x::I) (p::ps)=a::Pw k I ps/\SQ a=SQ p/\(SQ p=true->a=p):=by
 refine⟨_,rfl,?_,λh=>?_⟩
 ·split
  ·rfl
  ·rfl
 ·split
  ·cases h
  ·rfl
theorem DE{hp:Nat->Option Co}{a:Nat->Nat->Option (Nat × Nat)}(k:Bool):∀{I:List Operand}{ps:Ae}{i:Nat}{l:List Ko},Zq hp a i ps l->Zq hp a i (Pw k I ps) l
 |[],[],_,_,h=>h
 |[],_::_,_,_,h=>h
 |_::_,[],_,_,h=>h
 |x::I,p::ps,i,l,h=>by
  obtain⟨m,e,d,f⟩:=Ag3 k x I p ps;rw[e];rcases h with⟨g,b,c⟩|⟨y,j,rfl,b,c⟩
  ·exact .inl ⟨by rw[d];exact g,b,DE k c⟩
  ·exact .inr ⟨y,j,rfl,by rw[f (Atb b)];exact b,DE k c⟩
theorem Abe{hp:Nat->Option Co}{a:Nat->Nat->Option (Nat × Nat)}:∀{ps:Ae}{i:Nat}{l:List Ko},Zq hp a i ps l->∀id∈l.flatMap Ko.ids,Eo (hp id)/\∃k off,a k 0=some (id,off)
 |[],_,_,h,id,Ce=>by
  have h:_=[]:=h;rw[h] at Ce;cases Ce
 |p::ps,i,l,h,id,Ce=>by
  rcases h with⟨_,_,b⟩|⟨x,m,rfl,g,b⟩
  ·exact Abe b id Ce
  ·simp only[Le,B8] at Ce;rcases Ce with Ce|Ce
   ·cases x with
    |var d off j n=>
     simp only[Ko.ids,Tx] at Ce;subst Ce;obtain⟨_,e,_,c,f,_⟩:=g;exact⟨by rw[f];trivial,i,_,e⟩
    |row d=>
     simp only[Ko.ids,Tx] at Ce;subst Ce;obtain⟨_,e,c,f⟩:=g;exact⟨by rw[f];trivial,i,_,e⟩
    |none=>simp[Ko.ids] at Ce
   ·exact Abe b id Ce
theorem A1b{hp:Nat->Option Co}{a:Nat->Nat->Option (Nat × Nat)}:∀{ps:Ae}{i:Nat}{l:List Ko},Zq hp a i ps l->∀k p id off,ps[k]?=some p->a (i+k) 0=some (id,off) ->
   (∃c ws,hp id=some (.st c)/\p=.pbox ws/\off+ws.length<=c.length)\/((∃c,hp id=some (.ar false c))/\off=0/\∃ws,p=.tup ws)
 |[],_,_,_,k,p,id,off,hp,_=>by simp at hp
 |p::ps,i,l,h,k,o,id,off,Ek,b=>by
  have MI:∃g,Zq hp a (i+1) ps g:=by
   rcases h with⟨_,_,d⟩|⟨x,g,_,_,d⟩<;>exact⟨_,d⟩
  cases k with
  |succ k=>
   obtain⟨g,q⟩:=MI;exact A1b q k o id off (by simpa using Ek) (by rw[show i+1+k=i+(k+1) by omega];exact b)
  |zero=>
   simp only[List.getElem?_cons_zero,Option.some.injEq] at Ek;subst Ek;rw[Zzr] at b;rcases h with⟨_,e,_⟩|⟨x,g,_,e,_⟩
   ·rw[b] at e;cases e
   ·cases x with
    |var j n r ws=>
     obtain⟨d,f,_,c,m,s⟩:=e;rw[b] at f;cases f;exact .inl ⟨c,ws,m,d,s⟩
    |row j=>
     obtain⟨d,f,c,m⟩:=e;rw[b] at f;cases f;exact .inr ⟨⟨c,m⟩,rfl,d⟩
    |none=>
     have:=e.2;rw[b] at this;cases this
theorem Aml{hp : Nat -> Option Co}{a : Nat -> Nat -> Option (Nat × Nat)}{id off : Nat}{c : List CT}{ws : Ae}: ∀ {ps : Ae} {i : Nat} {l : List Ko}, Zq hp a i ps l -> Ko.var id off c ws ∈ l ->
      ∃ k, ps[k]? = some (.pbox ws) /\ a (i + k) 0 = some (id, off)
  | [], _, _, h, b => by
    have h : _ = [] := h
    rw[h] at b; cases b
  | p :: ps, i, l, h, b => by
    have next : ∀ {d}, Zq hp a (i + 1) ps d -> Ko.var id off c ws ∈ d -> ∃ k, (p :: ps)[k]? = some (.pbox ws) /\ a (i + k) 0 = some (id, off) := by
      intro d m n
      obtain⟨k, f, g⟩ := Aml m n
      exact⟨k + 1, by simpa using f, by rw[show i + (k + 1) = i + 1 + k by omega]; exact g⟩
    rcases h with⟨_, _, j⟩ | ⟨x, d, rfl, g, j⟩
    · exact next j b
    · rcases zl.1 b with e | b
      · subst e
        obtain⟨f, o, _⟩ := g
        subst f
        exact⟨0, rfl, o⟩
      · exact next j b
theorem Amw{hp:Nat->Option Co}{a:Nat->Nat->Option (Nat × Nat)}:∀{ps:Ae}{i:Nat}{l:List Ko},Zq hp a i ps l->∀k id off,i<=k->a k 0=some (id,off)->k<i+ps.length->∃p,ps[k-i]?=some p/\SQ p=true
 |[],i,_,_,k,id,off,g,_,b=>by simp at b;omega
 |p::ps,i,l,h,k,id,off,g,f,b=>by
  by_cases e:k=i
  ·subst e;rcases h with⟨_,c,_⟩|⟨x,d,_,c,_⟩
   ·rw[f] at c;cases c
   ·exact⟨p,Ψ,Atb c⟩
  ·have MI:∃d,Zq hp a (i+1) ps d:=by
    rcases h with⟨_,_,b⟩|⟨x,d,_,_,b⟩<;>exact⟨_,b⟩
   obtain⟨d,j⟩:=MI;obtain⟨q,m,n⟩:=Amw j k id off Ω f (by simp at b;omega)
   refine⟨q,?_,n⟩;rw[show k-i=(k-(i+1))+1 by omega]
   simpa using m
theorem Tj.len{bt:QW}:∀{ps:Ae}{us:List Value}{i:Nat},Tj w A bt i ps us->ps.length=us.length
 |[],[],_,_=>rfl
 |[],_::_,_,h=>h.elim
 |_::_,[],_,h=>h.elim
 |_::_,_::_,_,h=>by simp[Tj.len h.2]
theorem Ald(h:D3 N w0 X0 Y β s a w){G:MD}(Rv:Env P G w0 X0)(Fp:∀f args res,F f args=some res->Ep G P f args res)(ho:o.op=.call c)(hc:c.callee=.value (.func f)){K:St->Option R}(hk:UX C P N F s o f c K=some r):
  ∃s',K s'=some r/\∀(next:Act->World->Prop) (Q:Exit->Act->World->Prop),(∀a' w' β',D3 N w0 X0 Y β' s' a' w'->next a' w')->o.wp P a w next Q:=by
 unfold UX at hk;obtain⟨vs0,m,x,l,src,F9,W,hx,hS,hL,Hw⟩:=Ad1 h hk;obtain⟨n,Hn⟩:=Ax F9;simp only[Gh] at n;obtain⟨⟨⟨hnd,Be8⟩,hN⟩,Awp⟩:=n;have hN:0<N:=kw (Vc hN);obtain⟨hnl,hnx,hlx⟩:=N5 hnd
 have hml:∀i∈m,i ∉ l.flatMap Ko.ids/\i ∉ x:=by
  intro i hi;have:=List.all_eq_true.1 Be8 i hi
  have hn:∀k∈l.flatMap Ko.ids++x,i≠k:=by
   rintro k hk rfl
   have A:(l.flatMap Ko.ids++x).any (Nat.beq i)=true:=zm.2 ⟨i,hk,Uz i⟩;rw[A] at this;cases this
  exact⟨λJ=>hn i (by simp only[B8];exact .inl J) rfl,λJ=>hn i (by simp only[B8];exact .inr J) rfl⟩
 replace hL:=DE (C.kz f) (I:=c.args.toList) hL
 replace Hw:=λfz D A bt NW=>QF (a:=a) (C.kz f) (Hw fz D A bt NW)
 generalize Pw (C.kz f) c.args.toList vs0=vs at Hn Hw hL;obtain⟨rv,ro,Sf,Tl⟩:=Agj Hn;obtain⟨ws,bs,JQ,hwl,hnt,hsl,hrs,hri,hws⟩:=UM (C.shr f) N Tl;obtain⟨AA,hk5⟩:=Ax JQ;obtain⟨lids,Add⟩:∃lids,l.flatMap Ko.ids=lids:=⟨_,rfl⟩
 rw[Add] at hS hnl hlx hml;have Bgm:∀i,i ∉ x->IA (Aj s.hp m) x i=Aj s.hp m i:=λi hi=>by rw[Jd,Bd hi]
 have Asw:∀i,i∈lids->IA (Aj s.hp m) x i=s.hp i:=λi hi=>by
  rw[Bgm i (hlx i hi),Cv,Bd (λJ=>(hml i J).1 hi)]
 have hLM:Zq (IA (Aj s.hp m) x) src 0 vs l:=QX (λi hi=>Asw i (Add ▸ hi)) hL;obtain⟨Ek,T,qs,hk6,hbq,XG,Td,G2,Sx,hsh,Aid⟩:=IB (β:=β) (j:=To rv) hk5 hLM (by rw[Add];exact hnl)
 obtain⟨Zd,hk7⟩:=Ax hk6;refine⟨_,hk7,λnext Q hn=>?_⟩;clear hk F9 Hn Tl JQ hk5 hk6 hk7;rw[Add] at Sx;obtain⟨⟨fn,hfn,hfb⟩,EF⟩:=Fp f vs _ Sf;have hf:=h.freeze W;have Awx:=Abe hL;rw[Add] at Awx
 have Afc:∀i,i∈lids\/i∈x->Aj s.hp m i=s.hp i:=by
  intro i hi;rw[Cv,Bd];intro J;rcases hi with hi|hi
  ·exact (hml i J).1 hi
  ·exact (hml i J).2 hi
 have SF:∀i,i∈lids\/i∈x->Eo (s.hp i):=by
  intro i hi;rcases hi with hi|hi
  ·exact (Awx i hi).1
  ·obtain⟨cc,hcc⟩:=hx i hi;rw[hcc];trivial
 have Bh5:∀i j id off,src i j=some (id,off)->id∈lids\/id∈x:=by
  intro i j id off hs;cases j with
  |zero=>exact .inl (hS.lent i id off hs)
  |succ j=>exact .inr (hS.mvd i j id off hs).2
 obtain⟨bt,NW⟩:∃bt:QW,∀i j,bt i j=(src i j).bind (Kb β):=⟨_,λ_ _=>rfl⟩
 have btS:∀{i j b E},bt i j=some (b,E)->∃id off L,src i j=some (id,off)/\β id=some (b,L)/\E=L+off/\(id∈lids\/id∈x):=by
  intro i j b E n;rw[NW] at n;cases hs:src i j with
  |none=>rw[hs] at n;cases n
  |some q=>
   rw[hs] at n;obtain⟨id,off⟩:=q;simp only[vw,Kb] at n;cases S:β id with
   |none=>rw[S] at n;cases n
   |some p=>
    rw[S] at n;obtain⟨b',L⟩:=p;simp only[jz,Option.some.injEq,Prod.mk.injEq] at n;obtain⟨rfl,rfl⟩:=n;exact⟨id,off,L,rfl,S,rfl,Bh5 i j id off hs⟩
 have btX:∀{b},BtX bt b->∃id L,β id=some (b,L)/\(id∈lids\/id∈x):=by
  rintro b ⟨i,j,E,n⟩
  obtain⟨id,off,L,_,A,_,X⟩:=btS n;exact⟨id,L,A,X⟩
 have hBA:∀b,BtX bt b->Xof s.hp β b:=λb n=>by
  obtain⟨id,L,D,A⟩:=btX n;exact⟨id,L,SF id A,D⟩
 obtain⟨Yc,hYc⟩:∃Yc:Nat->Prop,∀b,Yc b↔((∃id E,Eo (Aj s.hp m id)/\β id=some (b,E)/\id ∉ lids/\id ∉ x)\/Y b):=⟨_,λ_=>Iff.rfl⟩
 have Ev:vs.length=c.args.toList.length:=by
  have:=(Hw m (λ_ hi=>hi) W bt NW).len
  simpa using this
 have A6f:Ins w Yc bt vs (c.args.toList.map a.eval):=by
  refine⟨λb n=>?_,λb n hB=>?_,λb hB=>?_,λi j i' j' b E ob' n Mv=>?_,λi q J=>?_,?_⟩
  ·rcases (hYc b).1 n with⟨id,E,M,S,_⟩|hY
   ·exact hf.blt id b E (D9 M) S
   ·exact Iv (h.Ylt b hY) h.fr.step.size
  ·obtain⟨t,L,D,A⟩:=btX hB;rcases (hYc b).1 n with⟨id,E,M,S,H,X⟩|hY
   ·have:=hf.inj id t b E L M (by show Eo (Aj s.hp m t);rw[Afc t A];exact SF t A) S D
    subst this;rcases A with A|A
    ·exact H A
    ·exact X A
   ·exact h.Yx b hY ⟨t,L,SF t A,D⟩
  ·obtain⟨t,L,D,A⟩:=btX hB;exact h.blt t b L (D9 (SF t A)) D
  ·obtain⟨id,off,o1,D,A,_,X⟩:=btS n;obtain⟨t,Z,o1',h1',h2',_,h4'⟩:=btS Mv;have:=h.inj id t b o1 o1' (SF id X) (SF t h4') A h2';subst this;cases j with
   |zero=>
    cases j' with
    |zero=>exact⟨hS.inj0 hnl i i' id off Z D h1',rfl⟩
    |succ j'=>exact absurd (hS.mvd i' j' id Z h1').2 (hlx id (hS.lent i id off D))
   |succ j=>
    cases j' with
    |zero=>exact absurd (hS.mvd i j id off D).2 (hlx id (hS.lent i' id Z h1'))
    |succ j'=>
     obtain⟨h5,h6⟩:=hS.inj1 hnx i i' j j' id off Z D h1';exact⟨h5,by rw[h6]⟩
  ·obtain⟨b,E⟩:=q;obtain⟨id,off,L,D,_⟩:=btS J;obtain⟨p,hp,A⟩:=Amw hL i id off (jt _) D (by have:=hS.dom i 0 _ D;rw[Ev];exact this.2)
   exact⟨p,by simpa using hp,A⟩
  ·refine (Hw m (λ_ hi=>hi) W bt NW).weak λb _ n=>?_;rcases n with n|n
   ·obtain⟨t,L,D,A⟩:=btX n;exact .inl ⟨t,L,by rw[Afc t A];exact SF t A,D⟩
   ·rcases (hYc b).1 n with⟨id,E,M,S,_⟩|hY
    ·exact .inl ⟨id,E,M,S⟩
    ·exact .inr hY
 unfold Oper.wp;rw[Am1 ho hc Rv.ng hfn hfb];show Calls P f _ w _;have hca:c.args.map a.eval=(c.args.toList.map a.eval).toArray:=by rw[<-xy,vg]
 rw[hca];refine (EF w Yc bt _ A6f (Rv.fr w h.fr) (λb x=>⟨Iv (Rv.y b x).1 h.fr.step.size,λhB=>(h.ownd b (hBA b hB)).elim (Rv.y b x).2 (λJJ=>absurd (Rv.y b x).1 (Nat.not_lt.2 JJ))⟩)).mono ?_
 rintro e w' ⟨us,own,rfl,V⟩
 obtain⟨ha1,CG⟩:=Cg Zd;obtain⟨hg1,hg2⟩:=Gq (hp:=Ek) CG;have Apg:=CY Zd;rw[kn,List.nodup_append] at Apg;obtain⟨Bwx,Bib,Bpc⟩:=Apg;rw[hbq] at Bib
 obtain⟨β1,hβ1,hβ2⟩:∃β1:Bt,(∀i,(∃B,(i,B)∈bs)->β1 i=own ((i-o.dst.getD N) / N))/\∀i,(¬∃B,(i,B)∈bs)->β1 i=match LQ qs i with|some j=>own j|none=>β i:=by
  refine⟨λi=>if (bs.any λq=>Nat.beq q.1 i)=true then own ((i-o.dst.getD N) / N) else match LQ qs i with|some j=>own j|none=>β i,λi hi=>?_,λi hi=>?_⟩
  ·show (if _ then _ else _)=_;rw[Bv (Aib.2 hi)]
  ·show (if _ then _ else _)=_;rw[Bd (λJ=>hi (Aib.1 J))]
 have hβbs:∀j,(∃B,(o.dst.getD N+N*j,B)∈bs)->β1 (o.dst.getD N+N*j)=own (0+j):=by
  intro j O;rw[hβ1 _ O,ku,kv _ hN,I8]
 have hqb:∀q∈qs,∃B,(q.1,B)∈T:=by
  intro q J;have:q.1∈T.map (·.1):=by rw[hbq];exact km J
  obtain⟨⟨i,B⟩,W,e⟩:=kl.1 this;exact⟨B,e ▸ W⟩
 have Bq0:∀i B,(i,B)∈T->∃j,(i,j)∈qs:=by
  intro i B W;have:i∈qs.map (·.1):=by rw[<-hbq];exact kl.2 ⟨_,W,rfl⟩
  obtain⟨⟨i',j⟩,W,e⟩:=kl.1 this;exact⟨j,e ▸ W⟩
 have hbb:∀i,(∃B,(i,B)∈T)->¬∃B,(i,B)∈bs:=by
  rintro i ⟨B,W⟩ ⟨bx',N0⟩
  exact Bpc i (kl.2 ⟨_,N0,rfl⟩) i (kl.2 ⟨_,W,rfl⟩) rfl
 have hβqs:∀q∈qs,β1 q.1=own q.2:=by
  intro q J;rw[hβ2 q.1 (hbb q.1 (hqb q J)),A3i Bib q J]
 have hβold:∀i,Ek i≠none->β1 i=β i:=by
  intro i hi
  have hn1:¬∃B,(i,B)∈bs:=by
   rintro⟨B,W⟩
   exact hi (ha1 i B (B8.2 (.inl W)))
  rw[hβ2 i hn1,Ak7];intro W;obtain⟨q,J,e⟩:=kl.1 W;obtain⟨B,Tn⟩:=hqb q J;exact hi (ha1 i B (B8.2 (.inr (e ▸ Tn))))
 obtain⟨Ox,hba⟩:=hws w' _ own β1 w.heap.size 0 us hβbs V.vals;obtain⟨Bon,Bj8⟩:=Aid w' _ own β1 bt hβqs (λi=>NW i 0) V.outs
 have Bbn:∀id∈lids,∃y∈l,id∈y.ids:=by
  intro id Ce;rw[<-Add] at Ce;exact zk.1 Ce
 have A8b:∀id∈lids,(∃off c cs,s.hp id=some (.st c)/\Ek id=some (.st (B9 c cs off))/\off+cs.length<=c.length/\(∀p∈cs,∀i∈A6 p,∃B,(i,B)∈T))\/∃c cs,s.hp id=some (.ar false c)/\Ek id=some (.ar false cs):=by
  intro id Ce;obtain⟨y,hy,hyi⟩:=Bbn id Ce;have D:=hsh y hy;cases y with
  |var t off cts ws'=>
   simp only[Ko.ids,Tx] at hyi;subst hyi;obtain⟨c1,cs,A,H,X,h5,h6⟩:=D;rw[Asw id Ce] at A;exact .inl ⟨off,c1,cs,A,H,h5,h6⟩
  |row t=>
   simp only[Ko.ids,Tx] at hyi;subst hyi;obtain⟨c1,cs,A,H⟩:=D;rw[Asw id Ce] at A;exact .inr ⟨c1,cs,A,H⟩
  |none=>simp[Ko.ids] at hyi
 have Bmx:∀id∈lids,Ek id≠none:=by
  intro id Ce;rcases A8b id Ce with⟨_,_,_,_,A,_⟩|⟨_,_,_,A⟩<;>rw[A]<;>simp
 have hpK:∀id,id ∉ lids->Ek id=IA (Aj s.hp m) x id:=λid Ce=>Sx id Ce
 have Es:∀i,s.hp i≠none->Ek i≠none:=by
  intro i hi;by_cases M:i∈lids
  ·exact Bmx i M
  ·rw[hpK i M,Jd];have D:Aj s.hp m i≠none:=λe=>hi (F1.1 e);split
   ·cases J:Aj s.hp m i with
    |none=>exact absurd J D
    |some b=>simp
   ·exact D
 have A55:∀i,(s.hp i≠none\/∃B,(i,B)∈bs++T)->A8 Ek (bs++T) i≠none:=by
  rintro i (hi|⟨B,W⟩)
  ·have D:=Es i hi;rw[hg2 i (λB W=>D (ha1 i B W))];exact D
  ·rw[hg1 i B W];simp
 have Lz:∀id,(∃B,(id,B)∈bs++T)\/A8 Ek (bs++T) id=Ek id:=λid=>by
  by_cases hx:∃B,(id,B)∈bs++T
  ·exact .inl hx
  ·exact .inr (hg2 id λB n=>hx ⟨B,n⟩)
 have hold:∀id B,Ek id=some B->Eo (some B)->Eo (s.hp id)/\id ∉ x/\(id∈lids\/(id ∉ lids/\Aj s.hp m id=some B)):=by
  intro id B n M;by_cases Ce:id∈lids
  ·exact⟨SF id (.inl Ce),hlx id Ce,.inl Ce⟩
  ·rw[hpK id Ce,Jd] at n;split at n
   ·cases J:Aj s.hp m id with
    |none=>rw[J] at n;cases n
    |some b=>rw[J] at n;simp at n;subst n;exact M.elim
   ·rename_i hxn;exact⟨by rw[N7 n M];exact M,hxn,.inr ⟨Ce,n⟩⟩
 have ND:∀i B,(i,B)∈bs++T->∃j,β1 i=own j/\((i=o.dst.getD N+N*j/\j<To rv)\/((i,j)∈qs/\To rv<=j)):=by
  intro i B W;rcases B8.1 W with W|W
  ·obtain⟨⟨j,rfl,O⟩,_⟩:=hba i B W;exact⟨j,by rw[hβbs j ⟨B,W⟩,I8],.inl ⟨rfl,O⟩⟩
  ·obtain⟨j,O⟩:=Bq0 i B W;exact⟨j,hβqs _ O,.inr ⟨O,(XG _ O).2⟩⟩
 have Bbk:∀i B,(i,B)∈bs++T->Eo (some B)/\EB w' (IK bt own Yc) β1 i B/\∀cs,B=.st cs->∀b E,β1 i=some (b,E)->w.heap.size<=b:=by
  intro i B W;rcases B8.1 W with W|W
  ·exact (hba i B W).2
  ·obtain⟨cc,rfl⟩:=G2 i B W;exact⟨trivial,Bon i _ W,λcs e=>by cases e⟩
 have Bci:∀b,(∃i k L,bt i (k+1)=some (b,L))->∃id L,id∈x/\β id=some (b,L):=by
  rintro b ⟨i,k,L,n⟩
  obtain⟨id,off,o1,D,A,_,_⟩:=btS n;exact⟨id,o1,(hS.mvd i k id off D).2,A⟩
 have hX:∀b,b<w.heap.size->Xof (A8 Ek (bs++T)) β1 b->Xof s.hp β b:=by
  rintro b n ⟨id,E,M,S⟩
  rcases Lz id with⟨B,W⟩|e
  ·obtain⟨j,O,_⟩:=ND id B W;rw[O] at S;obtain⟨t,L,D,A⟩:=Bci b ((V.fresh j b E S).2 n).1;exact⟨t,L,SF t (.inr D),A⟩
  ·rw[e] at M;cases J:Ek id with
   |none=>rw[J] at M;exact M.elim
   |some B=>
    rw[J] at M;exact⟨id,E,(hold id B J M).1,by rw[<-hβold id (by rw[J];simp)];exact S⟩
 have hAo:∀b,b<w.heap.size->Em (A8 Ek (bs++T)) β1 Y b->Em s.hp β Y b:=λb n hA=>hA.imp (hX b n) id
 have hAO:∀b,Em (A8 Ek (bs++T)) β1 Y b->IK bt own Yc b:=by
  rintro b (⟨id,E,M,S⟩|hY)
  ·rcases Lz id with⟨B,W⟩|e
   ·obtain⟨j,O,_⟩:=ND id B W;rw[O] at S;exact .inl ⟨j,E,S⟩
   ·rw[e] at M;cases J:Ek id with
    |none=>rw[J] at M;exact M.elim
    |some B=>
     rw[J] at M;rw[hβold id (by rw[J];simp)] at S
     obtain⟨D,A,H⟩:=hold id B J M;rcases H with H|⟨H,X⟩
     ·obtain⟨_,i,off,hs⟩:=Awx id H;exact .inr (.inl ⟨i,E+off,by rw[NW,hs];simp[Kb,S]⟩)
     ·exact .inr (.inr ((hYc b).2 (.inl ⟨id,E,by rw[X];exact M,S,H,A⟩)))
  ·exact .inr (.inr ((hYc b).2 (.inr hY)))
 have I1:Df (Em s.hp β Y) w w':=V.ext.weaken (λb _ n=>.inl (hBA b n));have A7f:∀i,s.hp i≠none->β1 i=β i:=λi hi=>hβold i (Es i hi)
 have hCL:∀b j,Aae bt vs b j->∃id L B,s.hp id=some B/\Eo (some B)/\β id=some (b,L)/\BR B L j:=by
  rintro b j ⟨i,p,hp,⟨k,E,n,JJ⟩|⟨E,ps,n,JJ,CH⟩⟩
  ·obtain⟨id,off,L,D,A,H,_⟩:=btS n;obtain⟨h5,h6⟩:=hS.mvd i k id off D;obtain⟨cc,hcc⟩:=hx id h6;exact⟨id,L,_,hcc,trivial,A,show L<=j by omega⟩
  ·obtain⟨id,off,L,D,A,H,_⟩:=btS n;rcases A1b hL i p id off hp (by rw[I8];exact D) with⟨c1,wz,h5,h6,h7⟩|⟨⟨c1,h5⟩,_⟩
   ·rcases CH with⟨h8,h9⟩|h8
    ·rw[h6] at h8;cases h8;exact⟨id,L,_,h5,trivial,A,show L<=j/\j<L+c1.length by omega⟩
    ·rw[h6] at h8;cases h8
   ·exact⟨id,L,_,h5,trivial,A,show L<=j by omega⟩
 have hnL:∀id off cts wz,Ko.var id off cts wz∈l->id∈lids->∀b E,β id=some (b,E)->∀j,(j<off\/off+wz.length<=j)->(∃c1,s.hp id=some (.st c1))->¬Aae bt vs b (E+j):=by
  rintro id off cts wz hy Ce b E S j O ⟨c1,LB⟩ ⟨i,p,hp,⟨k,ob',n,JJ⟩|⟨ob',ps,n,JJ,CH⟩⟩
  ·obtain⟨t,Z,L,D,A,H,X⟩:=btS n;have:=h.inj id t b E L (SF id (.inl Ce)) (SF t X) S A;subst this;exact hlx id Ce (hS.mvd i k id Z D).2
  ·obtain⟨t,Z,L,D,A,H,X⟩:=btS n;have:=h.inj id t b E L (SF id (.inl Ce)) (SF t X) S A;subst this;rw[S] at A;cases A;obtain⟨k,F9,Hn⟩:=Aml hL hy;rw[I8] at Hn;have hik:=hS.inj0 hnl i k id Z off D Hn;subst hik;rw[D] at Hn;cases Hn;rw[hp] at F9;cases F9;rcases CH with⟨h8,h9⟩|h8
   ·cases h8;omega
   ·cases h8
 have hval:Gw w' (Em (A8 Ek (bs++T)) β1 Y) β1 (Xh ws (Yl P o.type)) (J1 us):=by
  have P9:B4 (Mq w' (Em (A8 Ek (bs++T)) β1 Y) β1) ws us:=Ox.mono λv u hvu=>hvu.step (Df.refl _ _) (λb _=>hAO b) (λ_ _=>rfl);have Ev:=P9.len;cases hT:Yl P o.type
  ·rw[hT] at AA;have D:ws.length=1:=Ed AA
   match ws,us,D,Ev with
   |[v],[u],_,_=>
    exact (Yk (hnt v Ψ)).2 P9.1
  ·rw[hT] at AA
   have D:¬ws.length=1:=by
    intro e;rw[e] at AA;cases AA
   have hr:J1 us=.tuple ⟨us⟩:=by
    unfold J1;split
    ·simp at Ev;omega
    ·rfl
   rw[hr];exact⟨us,rfl,P9⟩
 have hvr:∀i∈Cy (Xh ws (Yl P o.type)),∃B,(i,B)∈bs:=by
  intro i hi;cases hT:Yl P o.type
  ·rw[hT] at AA hi;have D:ws.length=1:=Ed AA
   match ws,D with
   |[v],_=>
    refine hrs v Ψ i ?_
    have:Cy v=Dj v:=by
     have hn:=hnt v Ψ;cases v<;>first|rfl|exact absurd rfl (hn _)
    rw[<-this];exact hi
  ·rw[hT] at hi;obtain⟨v,hv,hi⟩:=zk.1 (show i∈ws.flatMap Dj from hi);exact hrs v hv i hi
 refine hn _ w' β1 ?_;refine⟨by rw[DG];exact h.dfr,by rw[PI];exact h.tsz,Ajt Awp h.tmo,?_,?_,?_,?_,?_,?_,?_,?_,?_,?_,?_,h.Ylt,?_⟩
 ·refine Y5 (Q:=λ_ p u=>Gw w' (Em (A8 Ek (bs++T)) β1 Y) β1 p u) h.tsz Awp (λi hi=>?_) (λ_=>hval);exact (h.tms i hi).step I1 hAo λid Ce=>A7f id (h.wfT i hi id Ce)
 ·intro id B n;simp only at n;rcases Lz id with⟨bx',N0⟩|e
  ·rw[hg1 id bx' N0] at n;cases n;exact (Bbk id _ N0).2.1.step' hAO
  ·rw[e] at n;have S:=hβold id (by rw[n];simp)
   by_cases Ce:id∈lids
   ·obtain⟨y,hy,hyi⟩:=Bbn id Ce;have D:=Bj8 y hy;cases y with
    |var t off cts wz=>
     simp only[Ko.ids,Tx] at hyi;subst hyi;obtain⟨c1,cs,A,H,X,h5,h6⟩:=D;rw[Asw id Ce] at A;rw[H] at n;cases n;obtain⟨b,E,h7,h8,h9⟩:=h.box id _ A;obtain⟨h10,h11⟩:=h6 b E h7;have Ct:=h.blt id b E (by rw[A];simp) h7
     have VJ:∀j,(j<off\/off+wz.length<=j)->w'.cell? ⟨b,E+j,none⟩=w.cell? ⟨b,E+j,none⟩/\w'.frozen? ⟨b,E+j,none⟩=w.frozen? ⟨b,E+j,none⟩:=
      λj O=>V.rng b (E+j) Ct (hnL id off cts wz hy Ce b E h7 j O ⟨c1,A⟩)
     refine⟨b,E,S.trans h7,λj p O=>?_,λj O=>?_⟩
     ·rcases DT Ω O with⟨h12,h13,h14⟩|⟨h12,h14⟩
      ·obtain⟨v,hv,hcr⟩:=h10 _ _ h14;refine⟨v,?_,hcr.step (Df.refl _ _) (λb _=>hAO b) (λ_ _=>rfl)⟩;rw[show E+j=E+off+(j-off) by omega];exact hv
      ·obtain⟨v,hv,hcr⟩:=h8 _ _ h14;refine⟨v,by rw[(VJ j Ω).1];exact hv,hcr.step I1 hAo λi hi=>A7f i (h.wfB id c1 A p (zn h14) i hi)⟩
     ·rw[EC Ω] at O;by_cases MK:off<=j/\j<off+cs.length
      ·have:=h11 (j-off) Ω;rw[show E+off+(j-off)=E+j by omega] at this;exact this
      ·rw[(VJ j Ω).2];exact h9 j O
    |row t=>
     simp only[Ko.ids,Tx] at hyi;subst hyi;obtain⟨cs,H,X⟩:=D;rw[H] at n;cases n;rcases X with⟨h5,h6⟩|⟨b,E,h5,h6,h7⟩
     ·exact .inl ⟨S.trans h5,h6⟩
     ·exact .inr ⟨b,E,S.trans h5,h6.weak (λb _=>hAO b),λ_=>h7,(λq=>by cases q)⟩
    |none=>simp[Ko.ids] at hyi
   ·rw[hpK id Ce,Jd] at n;split at n
    ·cases J:Aj s.hp m id with
     |none=>rw[J] at n;cases n
     |some b0=>rw[J] at n;simp at n;subst n;trivial
    ·rename_i hxn;have Tn:=hf.box id B n
     have A0v:∀b E,β id=some (b,E)->B ≠ .mv->b<w.heap.size/\w'.heap[b]?=w.heap[b]?:=by
      intro b E hb0 hmv;have Ct:=hf.blt id b E (by show Aj s.hp m id≠none;rw[n];simp) hb0
      refine⟨Ct,V.ext.keep b Ct λhB=>?_⟩;obtain⟨t,L,D,A⟩:=btX hB;have Rj:Eo (Aj s.hp m t):=by rw[Afc t A];exact SF t A
      have hno:id≠t:=by
       rintro rfl
       rcases A with A|A
       ·exact Ce A
       ·exact hxn A
      cases B with
      |st cc=>exact hno (hf.inj id t b E L (by show Eo (Aj s.hp m id);rw[n];trivial) Rj hb0 D)
      |ar fz cc=>
       cases fz with
       |false=>exact hno (hf.inj id t b E L (by show Eo (Aj s.hp m id);rw[n];trivial) Rj hb0 D)
       |true=>
        rcases Tn with⟨H,_⟩|⟨b2,o2,H,_,_,X⟩
        ·rw[hb0] at H;cases H
        ·rw[hb0] at H;cases H;exact X rfl (.inl ⟨t,L,Rj,D⟩)
      |mv=>exact hmv rfl
     have hAoF:∀b,b<w.heap.size->Em (A8 Ek (bs++T)) β1 Y b->Em (Aj s.hp m) β Y b:=by
      intro b G2 hA;rcases hA with⟨i,E,M,hβi⟩|hY
      ·rcases Lz i with⟨bx1,U⟩|e1
       ·obtain⟨j,O,_⟩:=ND i bx1 U;rw[O] at hβi;obtain⟨t,L,D,A⟩:=Bci b ((V.fresh j b E hβi).2 G2).1;exact .inl ⟨t,L,by rw[Afc t (.inr D)];exact SF t (.inr D),A⟩
       ·rw[e1] at M;cases J:Ek i with
        |none=>rw[J] at M;exact M.elim
        |some bx1=>
         rw[J] at M;rw[hβold i (by rw[J];simp)] at hβi
         obtain⟨D,A,H⟩:=hold i bx1 J M;rcases H with H|⟨H,X⟩
         ·exact .inl ⟨i,E,by rw[Afc i (.inl H)];exact D,hβi⟩
         ·exact .inl ⟨i,E,by rw[X];exact M,hβi⟩
      ·exact .inr hY
     have Bhv:Df (Em (Aj s.hp m) β Y) w w':=V.ext.weaken (λb _ hB=>by
      obtain⟨t,L,D,A⟩:=btX hB;exact .inl ⟨t,L,by rw[Afc t A];exact SF t A,D⟩)
     cases B with
     |st cc=>
      obtain⟨b,E,D,A,H⟩:=Tn;obtain⟨Ct,O3⟩:=A0v b E D Ψ;refine⟨b,E,S.trans D,λj p O=>?_,λj O=>?_⟩
      ·obtain⟨v,hv,hcr⟩:=A j p O;refine⟨v,by rw[jw (w:=w) O3];exact hv,hcr.step Bhv hAoF λi hi=>?_⟩
       refine A7f i (λe1=>?_);exact hf.wfB id cc n p (zn O) i hi (F1.2 e1)
      ·rw[jx (w:=w) O3];exact H j O
     |ar fz cc=>
      rcases Tn with⟨D,A⟩|⟨b,E,D,A,H,X⟩
      ·exact .inl ⟨S.trans D,A⟩
      ·obtain⟨Ct,O3⟩:=A0v b E D Ψ;have hbs:bsz w' b=bsz w b:=by unfold bsz;rw[O3]
       refine .inr ⟨b,E,S.trans D,λj p O=>?_,λe1 j O X7=>?_,λe1 q=>X e1 (hAoF b Ct q)⟩
       ·obtain⟨v,hv,h5,LB⟩:=A j p O;exact⟨v,by rw[jw (w:=w) (by rw[Hp];exact O3)];exact hv,h5,LB.step Bhv hAoF⟩
       ·rw[jx (w:=w) O3];exact H e1 j O (by rw[<-hbs];exact X7)
     |mv=>trivial
 ·intro id t b E ob' M Rj n Mv;simp only at M Rj
  have mixed:∀i B i' k z,(i,B)∈bs++T->β1 i=some (k,z)->Ek i'≠none->Eo (Ek i')->∀z',β1 i'=some (k,z')->False:=by
   intro i B i' k z U hz hn1 hl1 z' hz';obtain⟨j,O,_⟩:=ND i B U;rw[O] at hz;rw[hβold i' hn1] at hz';cases J:Ek i' with
   |none=>exact hn1 J
   |some bx1=>
    rw[J] at hl1;obtain⟨D,A,H⟩:=hold i' bx1 J hl1;have Ct:=h.blt i' k z' (D9 D) hz';obtain⟨id2,o2,X,h5⟩:=Bci k ((V.fresh j k z hz).2 Ct).1;have:=h.inj i' id2 k z' o2 D (SF id2 (.inr X)) hz' h5;subst this;exact A X
  rcases Lz id with⟨B,U⟩|e1
  ·rcases Lz t with⟨bx',hm2⟩|e2
   ·obtain⟨j,O,CH⟩:=ND id B U;obtain⟨j',X7,Bhz⟩:=ND t bx' hm2;rw[O] at n;rw[X7] at Mv;have:=V.inj j j' b E ob' n Mv;subst this;rcases CH with⟨D,A⟩|⟨D,A⟩
    ·rcases Bhz with⟨H,_⟩|⟨_,X⟩
     ·rw[D,H]
     ·omega
    ·rcases Bhz with⟨_,X⟩|⟨H,_⟩
     ·omega
     ·exact Td _ D _ H rfl
   ·rw[e2] at Rj;exact (mixed id B t b E U n (D9 Rj) Rj ob' Mv).elim
  ·rw[e1] at M;rcases Lz t with⟨bx',hm2⟩|e2
   ·exact (mixed t bx' id b ob' hm2 Mv (D9 M) M E n).elim
   ·rw[e2] at Rj
    have g:∀i,Eo (Ek i)->Eo (s.hp i)/\β1 i=β i:=by
     intro i hli;cases J:Ek i with
     |none=>rw[J] at hli;exact hli.elim
     |some bx1=>exact⟨(hold i bx1 J (by rw[<-J];exact hli)).1,hβold i (by rw[J];simp)⟩
    rw[(g id M).2] at n;rw[(g t Rj).2] at Mv;exact h.inj id t b E ob' (g id M).1 (g t Rj).1 n Mv
 ·intro id b E hn1 n;simp only at hn1;rcases Lz id with⟨B,U⟩|e1
  ·obtain⟨j,O,_⟩:=ND id B U;rw[O] at n;exact (V.fresh j b E n).1
  ·rw[e1] at hn1;rw[hβold id hn1] at n
   have hn2:s.hp id≠none:=by
    by_cases Ce:id∈lids
    ·exact D9 (SF id (.inl Ce))
    ·rw[hpK id Ce,Jd] at hn1;intro e2;have D:Aj s.hp m id=none:=F1.2 e2;rw[D] at hn1;split at hn1<;>exact hn1 rfl
   exact Iv (h.blt id b E hn2 n) V.ext.size
 ·have:=Y5 (Q:=λ_ p _=>∀id∈Cy p,A8 Ek (bs++T) id≠none) (val:=J1 us) (d:=o.dst) (v:=Xh ws (Yl P o.type)) h.tsz Awp (λi hi id Ce=>A55 id (.inl (h.wfT i hi id Ce))) (λ_ id Ce=>A55 id (.inr (by
   obtain⟨B,n⟩:=hvr id Ce;exact⟨B,B8.2 (.inl n)⟩)))
  exact this
 ·intro id cells Ajk p hp i hi;simp only at Ajk;refine A55 i ?_;rcases Lz id with⟨B,U⟩|e1
  ·rw[hg1 id B U] at Ajk;cases Ajk;rcases B8.1 U with U|U
   ·obtain⟨bx1,n⟩:=hri id cells U p hp i hi;exact .inr ⟨bx1,B8.2 (.inl n)⟩
   ·obtain⟨cc,e2⟩:=G2 id _ U;cases e2
  ·rw[e1] at Ajk;by_cases Ce:id∈lids
   ·rcases A8b id Ce with⟨off,c1,cs,D,A,H,X⟩|⟨c1,cs,D,A⟩
    ·rw[A] at Ajk;cases Ajk;unfold B9 at hp;rcases B8.1 hp with hp|hp
     ·rcases B8.1 hp with hp|hp
      ·exact .inl (h.wfB id c1 D p (kg hp) i hi)
      ·obtain⟨bx1,n⟩:=X p hp i hi;exact .inr ⟨bx1,B8.2 (.inr n)⟩
     ·exact .inl (h.wfB id c1 D p (kj hp) i hi)
    ·rw[A] at Ajk;cases Ajk
   ·obtain⟨_,_,H⟩:=hold id _ Ajk trivial;rcases H with H|⟨_,H⟩
    ·exact absurd H Ce
    ·exact .inl (h.wfB id cells (N7 H trivial) p hp i hi)
 ·rintro b ⟨id,E,M,S⟩
  rcases Kp b w.heap.size with Ct|hge
  ·exact h.ownd b (hX b Ct ⟨id,E,M,S⟩)
  ·exact .inr (jl h.fr.step.size hge)
 ·intro id B b E n M S Ct j O;simp only at n;have hlw:=Iv Ct h.fr.step.size;rcases Lz id with⟨bx',U⟩|e1
  ·rw[hg1 id bx' U] at n;cases n;obtain⟨k,hk,_⟩:=ND id B U;rw[hk] at S
   have JJ:E<=j:=by
    cases B with
    |st cc=>exact O.1
    |ar fz cc=>exact O
    |mv=>exact M.elim
   obtain⟨id2,o2,bx2,D,A,H,X⟩:=hCL b j (((V.fresh k b E S).2 hlw).2 j JJ);exact h.rngB id2 bx2 b o2 D A H Ct j X
  ·rw[e1] at n;rw[hβold id (by rw[n];simp)] at S
   obtain⟨D,A,H⟩:=hold id B n M;rcases H with H|⟨H,X⟩
   ·rcases A8b id H with⟨off,c1,cs,h5,h6,h7,_⟩|⟨c1,cs,h5,h6⟩
    ·rw[h6] at n;cases n;have O:E<=j/\j<E+(B9 c1 cs off).length:=O;rw[EC Ω] at O;exact h.rngB id _ b E h5 trivial S Ct j O
    ·rw[h6] at n;cases n;exact h.rngB id _ b E h5 trivial S Ct j O
   ·exact h.rngB id B b E (N7 X M) M S Ct j O
 ·intro i hi;obtain⟨D,A⟩:=h.pin i hi;exact⟨A55 _ (.inl D),by rw[A7f _ D];exact A⟩
 ·intro id cc b E n S Ct;simp only at n;have hlw:=Iv Ct h.fr.step.size;rcases Lz id with⟨bx',U⟩|e1
  ·rw[hg1 id bx' U] at n;cases n;have:=(Bbk id _ U).2.2 cc rfl b E S;omega
  ·rw[e1] at n;rw[hβold id (by rw[n];simp)] at S
   obtain⟨D,A,H⟩:=hold id _ n trivial;rcases H with H|⟨H,X⟩
   ·rcases A8b id H with⟨off,c1,cs,h5,h6,h7,_⟩|⟨c1,cs,h5,h6⟩
    ·exact h.stp id c1 b E h5 S Ct
    ·rw[h6] at n;cases n
   ·exact h.stp id cc b E (N7 X trivial) S Ct
 ·intro b hY hXb;exact h.Yx b hY (hX b (Iv (h.Ylt b hY) h.fr.step.size) hXb)
 ·refine⟨V.os.trans h.fr.os,V.tape.trans h.fr.tape,V.output.trans h.fr.output,⟨jl h.fr.step.size V.ext.size,λb n hnX=>?_,λb n=>(h.fr.step.bs b n).trans (V.ext.bs b (Iv n h.fr.step.size))⟩,λb j n hnL=>?_⟩
  ·rw[V.ext.keep b (Iv n h.fr.step.size) ?_]
   ·exact h.fr.step.keep b n hnX
   ·intro hB;rcases h.ownd b (hBA b hB) with J|J
    ·exact hnX J
    ·omega
  ·have hno:¬Aae bt vs b j:=by
    intro J;obtain⟨id2,o2,bx2,D,A,H,X⟩:=hCL b j J;exact hnL (h.rngB id2 bx2 b o2 D A H n j X)
   obtain⟨D,A⟩:=V.rng b j (Iv n h.fr.step.size) hno;rw[D,A];exact h.fr.rng b j n hnL
end
open Go.RowKit
section
variable {R:Type}{r:R}{P:Program}{N:Nat}{w0:World}{X0:M0}{Y:Nat->Prop}{β β':Bt}{s:St}{a:Act}{w w':World}{o:Oper}{A:Nat->Prop}
theorem Aiu(h:D3 N w0 X0 Y β s a w)(ho:o.op=.call c)(hc:c.callee=.builtin .append){d:Nat}(Awp:o.dst=some d){b:Operand}(Hw:c.args.toList=[b,x])(XA:c.argTypes.toList=t::tx::ts){K:St->Option R}(g:KE P N s d t tx (Da s.tm b) (Da s.tm x) K=some r):
  ∃s',K s'=some r/\∀(next:Act->World->Prop) (Q:Exit->Act->World->Prop),(∀a' w' β',D3 N w0 X0 Y β' s' a' w'->next a' w')->o.wp P a w next Q:=by
 have ZZ:c.args = #[b,x]:=by
  have:c.args=([b,x]:List Operand).toArray:=by rw[<-Hw]
  exact this
 have Alt:c.argTypes=(t::tx::ts).toArray:=by rw[<-XA]
 have run:∀{v:Value} {w1:World},(vn (t::tx::ts).toArray o.type #[a.eval b,a.eval x]).run P w=.ok v w1->∀(next:Act->World->Prop) (Q:Exit->Act->World->Prop),next (a.put (some d) v) w1->o.wp P a w next Q:=by
  intro v w1 B next Q S;unfold Oper.wp execOp;rw[ho];simp only[resolve,hc,invoke,builtin,xd,xe,xf,ZZ,Alt];have:(#[b,x]:Array Operand).map a.eval = #[a.eval b,a.eval x]:=Ψ
  rw[this,B];show next (a.put o.dst v) w1;rw[Awp];exact S
 have W:=Ec h b;have hbr:=Hs h b;unfold KE at g;split at g
 ·rename_i e hu;obtain⟨hzi,g⟩:=Ax g;obtain⟨i,z,hi,hz,X,T6⟩:=Aay hzi;cases T:YB P tx
  rotate_left
  ·rw[T] at g;simp only[cond_true] at g
   obtain⟨ki,htx⟩:∃k,P.underlying tx=some (.int k):=by
    unfold YB at T;split at T
    ·exact⟨_,by assumption⟩
    ·cases T
   unfold PD at g;obtain⟨kx,n,hx,g⟩:=Fi g;obtain⟨zz,n',c',g,hp⟩:=Jy g;obtain⟨H,g⟩:=Ax g;simp only[Gh,JT] at H;obtain⟨⟨⟨⟨⟨D,A⟩,KR⟩,SL⟩,G⟩,XO⟩:=H;have A:d<N:=kw (Vc A);have KR:s.hp d=none:=by simpa using KR
   have Arc:Jr N (some d)=true:=by simp[Jr,jh];omega
   have HT:((P.info? e).map (·.bytes)).getD 0=i.bytes:=by rw[hi];rfl
   rw[HT] at G;rw[T6] at g;have E2:=Db h hx;rcases J0 hp W with⟨Zd,_⟩|⟨_,_,_,J,_⟩|⟨_,_,_,J,_⟩
   ·refine⟨_,g,λnext Q S=>?_⟩;by_cases U:n=0
    ·subst U;have B:=UD (P:=P) (w:=w) (t:=t) (tx:=tx) (ty:=o.type) (ts:=ts) (kx:=kx) hu htx hi;rw[<-Zd,<-E2] at B;refine run B next Q (S _ _ (Dy β d none) ?_);rw[Zd];refine h.stepR (d:=some d) (nw:=[(d,.ar false [])]) (β':=Dy β d none) Arc (by simp[Cs,KR]) ⟨rfl,rfl,rfl,Df.refl _ _,λj f=>Au _ _ (by rintro rfl;exact f KR),?_,?_,?_,?_,?_,.inl ⟨Ay _ _ _,rfl,rfl,none,rfl⟩,?_⟩
     ·intro j bx l;simp at l;rw[l.2];trivial
     ·intro j bx l;simp at l;obtain⟨rfl,rfl⟩:=l;exact .inl ⟨Ay _ _ _,rfl⟩
     ·intro j bx k q l hq;simp at l;obtain⟨rfl,rfl⟩:=l;rw[Ay] at hq;cases hq
     ·intro j bx j' bx' k q q' l N0 _ _;simp at l N0;rw[l.1,N0.1]
     ·intro j cells l;simp at l
     ·intro j f;simp[Cy,Dj,A6] at f;subst f;exact .inr ⟨.ar false [],Ψ⟩
    ·have B:=XQ (P:=P) (w:=w) (t:=t) (tx:=tx) (ty:=o.type) (ts:=ts) (kx:=kx) hu htx hi hz (n:=n) Ω G XO;rw[<-Zd,<-E2] at B;refine run B next Q (S _ _ (Dy β d (some (w.heap.size,0))) ?_);have Z:n.toNat<=grownCap w n.toNat 0 e:=grownCap_ge w n.toNat 0 e;generalize EF:((if n.toNat*i.size=0 then #[] else vp z.cells n.toNat)++vp z.cells (grownCap w n.toNat 0 e-n.toNat))=cs
     have NS:Ie w (w.drew.alloc (.cells cs e)) cs e:=
      ⟨rfl,rfl,rfl,λk g=>Below.heap_alloc w.drew _ k g,by show (w.heap.push _).size=_;simp,(0,0),by show (w.heap.push _)[w.heap.size]?=_;simp,.inl rfl⟩
     have Arw:cs.size=grownCap w n.toNat 0 e*i.size:=by
      rw[<-EF];by_cases hs0:n.toNat*i.size=0
      ·rw[Bv hs0]
       have hi0:i.size=0:=by
        rcases Nat.mul_eq_zero.1 hs0 with h|h
        ·omega
        ·exact h
       simp[size_zeroCells,X,hi0]
      ·rw[Bd hs0];simp only[vh,size_zeroCells,X,<-jr]
       congr 1
       omega
     refine h.stepR (d:=some d) (nw:=[(d,.ar false [])]) Arc (by simp[Cs,KR]) (AG NS KR trivial ?_ (λcells hx=>by cases hx) ?_ (by intro j f;simp[Cy,Dj,A6] at f;exact .inr f))
     ·refine .inr ⟨w.heap.size,0,Ay _ _ _,λj p f=>by simp at f,λ_ j _ f=>?_,(λq=>by cases q)⟩;rw[NS.bsz] at f;exact NS.frozen f
     ·refine .inr ⟨w.heap.size,0,0,grownCap w n.toNat 0 e,Ay _ _ _,rfl,.inl rfl,Z,?_,by rw[NS.size];omega⟩
      exact⟨by rw[NS.bsz,Arw];omega,.inr (Rc w.drew _ e)⟩
   ·rw[J] at D;cases D
   ·rw[J] at D;cases D
  rw[T] at g;simp only[cond_false] at g;have HT:((P.info? e).map (·.bytes)).getD 0=i.bytes:=by rw[hi];rfl
  obtain⟨⟨dx,V,Ak2⟩,m,new,news,g,M⟩:=Aan h g (by
   intro m new g;split at g
   ·split at g
    ·obtain⟨H,_⟩:=Ax g;simp only[Gh,JT] at H;have he:=Ed H.1.1.1.1.1.1.1;rw[<-he];exact H.1.1.2
    ·cases g
   ·obtain⟨zz,n',c',g,_⟩:=Jy g;obtain⟨H,_⟩:=Ax g;simp only[Gh,JT] at H;exact H.1.1.2)
  rw[T6] at M;have hnl:new.length=news.length:=M.rep.len;split at g
  ·rename_i id es off n eb;rw[eb] at W hbr;split at g
   ·rename_i cc h0;obtain⟨H,Hn⟩:=Ax g;simp only[Gh,JT] at H;obtain⟨⟨⟨⟨⟨⟨⟨FZ,Z4⟩,A⟩,KR⟩,Bm3⟩,At8⟩,G⟩,XO⟩:=H;have FZ:=Ed FZ;have Z4:=Ed Z4;have A:d<N:=kw (Vc A);have KR:s.hp d=none:=by simpa using KR
    subst Z4;rw[T6] at FZ;subst FZ;rw[HT] at G;have WB:news.length=m*i.size:=Ω
    have Bu9:s.hp id≠none:=by rw[h0];simp
    have Axl:=h.box id _ h0;refine⟨_,Hn,λnext Q S=>?_⟩
    have grow:∀(ad:Option Addr) (cap:Nat) (olds:List Value),a.eval b=.slice ad n cap->B4 (A7 w (Em s.hp β Y)) (cc.take (n*i.size)) olds->(∀u∈olds,u.oneCell'=true)->olds.length=n*i.size ->
      ((ad=none/\olds=[])\/∃p,ad=some p/\olds.length=n*i.size/\∀(j:Nat) v,olds[j]?=some v->w.cell? (p.add j)=some v)->cap<n+m->o.wp P a w next Q:=by
     intro ad cap olds Zd holds h1 hol hold JB;have B:=append_grow_run (P:=P) (w:=w) (t:=t) (tx:=tx) (ty:=o.type) (ts:=ts) hu V Ak2 hi hz M hold JB G XO;rw[<-Zd] at B;refine run B next Q (S _ _ (Dy β d (some (w.heap.size,0))) ?_);have Z:n+m<=grownCap w (n+m) cap e:=grownCap_ge w (n+m) cap e
     have NS:Ie w (w.drew.alloc (.cells (olds.toArray++news.toArray++vp z.cells (grownCap w (n+m) cap e-(n+m))) e)) (olds.toArray++news.toArray++vp z.cells (grownCap w (n+m) cap e-(n+m))) e:=
      ⟨rfl,rfl,rfl,λk g=>Below.heap_alloc w.drew _ k g,by show (w.heap.push _).size=_;simp,(0,0),by show (w.heap.push _)[w.heap.size]?=_;simp,.inl rfl⟩
     have Arw:(olds.toArray++news.toArray++vp z.cells (grownCap w (n+m) cap e-(n+m))).size=grownCap w (n+m) cap e*i.size:=by
      simp only[vh,kc,size_zeroCells,X,hol,WB,<-jr]
      congr 1
      omega
     have O:∀k y,some (w.heap.size,0)=some (k,y)->w.heap.size<=k\/∃q,β id=some (k,q):=by
      intro k y C;simp at C;exact .inl Ω
     refine h.move h0 KR A rfl rfl rfl (by rw[NS.size];omega) (λk g _=>NS.old k g) NS.step.bs (λk y C=>⟨by simp at C;rw[NS.size];omega,O k y C⟩) (λk y C Ct=>by simp at C;omega)
      (λk y _ Ct j _=>⟨jw (w:=w) (NS.old k Ct),jx (w:=w) (NS.old k Ct)⟩) ?_ ?_ (by intro j f;simpa [Cy,Dj,A6] using f)
     ·refine .inr ⟨w.heap.size,0,Ay _ _ _,ZJ NS (Ar4 h0 KR O) holds M.rep h1 M.one,λ_ j _ f=>?_,(λq=>by cases q)⟩;rw[NS.bsz] at f;exact NS.frozen f
     ·refine .inr ⟨w.heap.size,0,0,grownCap w (n+m) cap e,Ay _ _ _,rfl,.inl rfl,Z,?_,by rw[NS.size];omega⟩
      exact⟨by rw[NS.bsz,Arw];omega,.inr (Rc w.drew _ e)⟩
    rcases W with⟨hβ,_,rfl,ad,Zd⟩|⟨E,ob,y,cap,hβ,Zd,hy,As2,JB,Ay3⟩
    ·rcases Axl with⟨_,rfl⟩|⟨b',o',G2,_⟩
     ·by_cases U:m=0
      ·subst U;have B:=Tw (P:=P) (w:=w) (t:=t) (tx:=tx) (ty:=o.type) (ts:=ts) (ad:=ad) hu V Ak2 hi M (kb Ω);rw[<-Zd] at B;have Al5:new=[]:=kb Ω;subst Al5;refine run B next Q (S _ _ (Dy β d none) ?_);rw[Zd];refine h.move h0 KR A rfl rfl rfl (Cz _) (λ_ _ _=>rfl) (λ_ _=>Kk.refl _ _) (λk q C=>by cases C) (λk q C=>by cases C) (λ_ _ _ _ _ _=>⟨rfl,rfl⟩) ?_ ?_ (by intro j f;simpa [Cy,Dj,A6] using f)
       ·exact .inl ⟨Ay _ _ _,Ψ⟩
       ·exact .inl ⟨Ay _ _ _,rfl,rfl,ad,rfl⟩
      ·exact grow ad 0 [] Zd (by simp[B4]) Ψ Ψ (by cases ad with
        |none=>exact .inl ⟨rfl,rfl⟩
        |some p=>exact .inr ⟨p,rfl,Ψ,λj v f=>by simp at f⟩) Ω
     ·rw[hβ] at G2;cases G2
    ·rcases Axl with⟨G2,_⟩|⟨b',o',G2,Ke,SM,_⟩
     ·rw[hβ] at G2;cases G2
     rw[hβ] at G2;simp at G2;obtain⟨rfl,rfl⟩:=G2;have hy:y=ob:=by rcases hy with hy|⟨_,hq⟩<;>omega
     subst hy;by_cases Yw:n+m<=cap
     ·have Axi:y+n*i.size+news.length<=bsz w E:=by
       have h5:n*i.size+m*i.size<=cap*i.size:=by rw[<-jr];exact ky _ Yw
       have:=JB.1;omega
      have Fc:∀k,k<news.length->(w.cell? ⟨E,y+n*i.size+k,none⟩).isSome=true:=λk g=>HN Ω;have B:=append_room_run (P:=P) (w:=w) (t:=t) (tx:=tx) (ty:=o.type) (ts:=ts) (b:=E) (ob:=y) (n:=n) (cap:=cap) hu V Ak2 hi M WB Fc (λk g=>SM rfl _ Ω Ω) Yw;rw[<-Zd] at B;have L:=De.setCells E news (y+n*i.size) w
      have O:∀k q,some (E,y)=some (k,q)->w.heap.size<=k\/∃q',β id=some (k,q'):=by
       intro k q C;simp at C;obtain⟨rfl,rfl⟩:=C;exact .inr ⟨_,hβ⟩
      refine run B next Q (S _ _ (Dy β d (some (E,y))) ?_)
      have I1:Df (Em s.hp β Y) w (w.setCells E (y+n*i.size) news):=by
       have hAb:Em s.hp β Y E:=.inl ⟨id,y,by rw[h0];trivial,hβ⟩
       exact⟨by rw[L.size];exact Cz _,λk _ g=>L.other k (λe=>g (e ▸ hAb)),λk _=>L.grow k⟩
      refine h.move h0 KR A L.os L.tape L.output (by rw[L.size];exact Cz _) (λk _ hq=>L.other k (by rintro rfl;exact hq _ hβ)) I1.bs (λk q C=>⟨by simp at C;rw[L.size];omega,O k q C⟩) (λk q C _=>by rw[hβ];exact C)
       (λk q C _ j f=>by
        rw[hβ] at C;cases C;exact⟨vk E _ _ w ⟨E,j,none⟩ (λ_ _=>by show j<y+n*i.size\/y+n*i.size+_<=j;omega),L.frz j⟩) ?_ ?_ (by intro j f;simpa [Cy,Dj,A6] using f)
      ·refine .inr ⟨E,y,Ay _ _ _,λj p f=>?_,λ_ j f X7=>?_,(λq=>by cases q)⟩
       ·rw[E1];by_cases hjn:j<n*i.size
        ·rw[zi (by rw[x7];omega),ke hjn] at f
         obtain⟨u,Oy,h5,ht⟩:=Ke j p f;rw[E1] at Oy;refine⟨u,?_,h5,ht.step I1 (Ar4 h0 KR O)⟩;rw[vk E _ _ w ⟨E,y+j,none⟩ (λ_ _=>by show y+j<y+n*i.size\/y+n*i.size+_<=y+j;omega)]
         exact Oy
        ·rw[kf (by rw[x7];omega),x7,va Bm3] at f
         obtain⟨u,Oy,ht⟩:=M.rep.get f
         have Ct:j-n*i.size<news.length:=by
          rcases Kp (j-n*i.size) news.length with h|h
          ·exact h
          ·rw[zh h] at Oy;cases Oy
         refine⟨u,?_,M.one u (zn Oy),ht.step I1 (Ar4 h0 KR O)⟩;have:=vl E news (y+n*i.size) w Fc (j-n*i.size) Ct;rw[show y+j=y+n*i.size+(j-n*i.size) from Ω,this];rw[zd Ct] at Oy;exact Oy
       ·rw[L.bs] at X7;rw[L.frz];exact SM rfl j f X7
      ·exact .inr ⟨E,y,y,cap,Ay _ _ _,rfl,.inl rfl,Yw,JB.step (L.grow E),by rw[L.size];exact Ay3⟩
     ·-- the old cells
      have hob:∀(j:Nat) p,(cc.take (n*i.size))[j]?=some p->∃v,w.cell? ⟨E,y+j,none⟩=some v/\v.oneCell'=true/\A7 w (Em s.hp β Y) p v:=by
       intro j p f;rw[zt] at f;split at f
       ·obtain⟨v,hv,h5,ht⟩:=Ke j p f;rw[E1] at hv;exact⟨v,hv,h5,ht⟩
       ·cases f
      have Ev:(cc.take (n*i.size)).length=n*i.size:=by rw[x7];omega
      refine grow _ cap ((cc.take (n*i.size)).mapIdx λj _=>(w.cell? ⟨E,y+j,none⟩).getD undef) Zd ?_ ?_ (by simp only[ka];exact Ev) (.inr ⟨_,rfl,by simp only[ka];exact Ev,λj v f=>?_⟩) Ω
      ·refine B4.of_at Ψ λj p v hp hv=>?_;obtain⟨u,Oy,_,ht⟩:=hob j p hp;rw[xz,hp,jz,Oy] at hv;simp at hv;subst hv;exact ht
      ·intro v hv;obtain⟨j,f⟩:=zq.1 hv;rw[xz] at f;cases hp:(cc.take (n*i.size))[j]? with
       |none=>rw[hp] at f;cases f
       |some p=>
        obtain⟨u,Oy,h5,_⟩:=hob j p hp;rw[hp,jz,Oy] at f;simp at f;subst f;exact h5
      ·rw[xz] at f;cases hp:(cc.take (n*i.size))[j]? with
       |none=>rw[hp] at f;cases f
       |some p=>
        obtain⟨u,Oy,h5,_⟩:=hob j p hp;rw[hp,jz,Oy] at f;simp at f;subst f;rw[E1];exact Oy
   ·cases g
  ·obtain⟨zz,n',c',g,hp⟩:=Jy g;obtain⟨H,g⟩:=Ax g;simp only[Gh,JT] at H;obtain⟨⟨⟨⟨⟨D,A⟩,KR⟩,At8⟩,G⟩,XO⟩:=H;have A:d<N:=kw (Vc A);have KR:s.hp d=none:=by simpa using KR
   have Arc:Jr N (some d)=true:=by simp[Jr,jh];omega
   rw[T6] at At8 g;rw[HT] at G;have WB:news.length=m*i.size:=Ω
   rcases J0 hp W with⟨Zd,_⟩|⟨_,_,_,J,_⟩|⟨_,_,_,J,_⟩
   ·refine⟨_,g,λnext Q S=>?_⟩;by_cases U:m=0
    ·subst U;have B:=Tw (P:=P) (w:=w) (t:=t) (tx:=tx) (ty:=o.type) (ts:=ts) (ad:=none) hu V Ak2 hi M (kb Ω);rw[<-Zd] at B;have Al5:new=[]:=kb Ω;subst Al5;refine run B next Q (S _ _ (Dy β d none) ?_);rw[Zd];refine h.stepR (d:=some d) (nw:=[(d,.ar false [])]) (β':=Dy β d none) Arc (by simp[Cs,KR]) ⟨rfl,rfl,rfl,Df.refl _ _,λj f=>Au _ _ (by rintro rfl;exact f KR),?_,?_,?_,?_,?_,.inl ⟨Ay _ _ _,rfl,rfl,none,rfl⟩,?_⟩
     ·intro j bx l;simp at l;rw[l.2];trivial
     ·intro j bx l;simp at l;obtain⟨rfl,rfl⟩:=l;exact .inl ⟨Ay _ _ _,rfl⟩
     ·intro j bx k q l hq;simp at l;obtain⟨rfl,rfl⟩:=l;rw[Ay] at hq;cases hq
     ·intro j bx j' bx' k q q' l N0 _ _;simp at l N0;rw[l.1,N0.1]
     ·intro j cells l;simp at l
     ·intro j f;simp[Cy,Dj,A6] at f;subst f;exact .inr ⟨.ar false [],Ψ⟩
    ·have B:=append_grow_run (P:=P) (w:=w) (t:=t) (tx:=tx) (ty:=o.type) (ts:=ts) (ad:=none) (n:=0) (cap:=0) (olds:=[]) hu V Ak2 hi hz M (.inl ⟨rfl,rfl⟩) Ω (by rw[I8];exact G) Ω
     rw[<-Zd] at B;refine run B next Q (S _ _ (Dy β d (some (w.heap.size,0))) ?_);have Z:0+m<=grownCap w (0+m) 0 e:=grownCap_ge w (0+m) 0 e
     have NS:Ie w (w.drew.alloc (.cells (([]:List Value).toArray++news.toArray++vp z.cells (grownCap w (0+m) 0 e-(0+m))) e)) (([]:List Value).toArray++news.toArray++vp z.cells (grownCap w (0+m) 0 e-(0+m))) e:=
      ⟨rfl,rfl,rfl,λk g=>Below.heap_alloc w.drew _ k g,by show (w.heap.push _).size=_;simp,(0,0),by show (w.heap.push _)[w.heap.size]?=_;simp,.inl rfl⟩
     have Arw:(([]:List Value).toArray++news.toArray++vp z.cells (grownCap w (0+m) 0 e-(0+m))).size=grownCap w (0+m) 0 e*i.size:=by
      simp only[vh,kc,size_zeroCells,X,WB,SO,<-jr];rw[I8 (m*i.size),<-jr]
      congr 1
      omega
     refine h.stepR (d:=some d) (nw:=[(d,.ar false new)]) Arc (by simp[Cs,KR]) (AG NS KR trivial ?_ (λcells hx=>by cases hx) ?_ (by intro j f;simp[Cy,Dj,A6] at f;exact .inr f))
     ·refine .inr ⟨w.heap.size,0,Ay _ _ _,?_,λ_ j _ f=>?_,(λq=>by cases q)⟩
      ·exact ZJ (pre:=[]) NS (As7 KR) trivial M.rep Ψ M.one
      ·rw[NS.bsz] at f;exact NS.frozen f
     ·refine .inr ⟨w.heap.size,0,0,grownCap w (0+m) 0 e,Ay _ _ _,by rw[I8],.inl rfl,Ω,?_,by rw[NS.size];omega⟩
      exact⟨by rw[NS.bsz,Arw];omega,.inr (Rc w.drew _ e)⟩
   ·rw[J] at D;cases D
   ·rw[J] at D;cases D
 ·cases g
theorem Ape(h:D3 N w0 X0 Y β s a w)(ho:o.op=.call c)(hc:c.callee=.builtin .copy){b:Operand}(Hw:c.args.toList=[b,x])(XA:c.argTypes.toList=t::tx::ts){K:St->Option R}(d:Ad5 P N s o.dst t tx (Da s.tm b) (Da s.tm x) K=some r):
  ∃s',K s'=some r/\∀(next:Act->World->Prop) (Q:Exit->Act->World->Prop),(∀a' w' β',D3 N w0 X0 Y β' s' a' w'->next a' w')->o.wp P a w next Q:=by
 have ZZ:c.args = #[b,x]:=by
  have:c.args=([b,x]:List Operand).toArray:=by rw[<-Hw]
  exact this
 have Alt:c.argTypes=(t::tx::ts).toArray:=by rw[<-XA]
 have run:∀{v:Value} {V:World},(vr (t::tx::ts).toArray o.type #[a.eval b,a.eval x]).run P w=.ok v V->∀(next:Act->World->Prop) (Q:Exit->Act->World->Prop),next (a.put o.dst v) V->o.wp P a w next Q:=by
  intro v V q next Q S;unfold Oper.wp execOp;rw[ho];simp only[resolve,hc,invoke,builtin,xd,xe,xf,ZZ,Alt];have:(#[b,x]:Array Operand).map a.eval = #[a.eval b,a.eval x]:=Ψ
  rw[this,q];exact S
 have B:=Ec h b;unfold Ad5 at d;split at d
 ·rename_i e l;obtain⟨H,d⟩:=Ax d;simp only[Gh] at H;obtain⟨Zj,Arc⟩:=H;obtain⟨i,hi⟩:∃i,P.info? e=some i:=j8.1 Zj;have T6:Bx P e=i.size:=by unfold Bx;rw[hi];rfl
  have W:∀(m:Nat) (new:Ae),(match Da s.tm b with
    |.view id es off n=>
     match s.hp id with
     |some (.ar false c)=>As (Nat.beq es (Bx P e)&&decide (off+n*es<=c.length)&&decide (new.length=m*es))
       (Aa (min m n) λk=>Aa (B9 c (new.take (k*es)) off) λc=>K ⟨Dp s.tm o.dst (.sc (.int .i64 k)),Dy s.hp id (some (.ar false c))⟩)
     |_=>none
    |_=>none)=some r->new.length=m*Bx P e:=by
   intro m new d;split at d
   ·split at d
    ·obtain⟨z,_⟩:=Ax d;simp only[Gh,JT] at z;rw[<-Ed z.1.1];exact z.2
    ·cases d
   ·cases d
  obtain⟨_,m,new,news,d,C⟩:=Aan h d W;split at d
  ·rename_i id es off n z;rw[z] at B;split at d
   ·rename_i cc T;obtain⟨z,d⟩:=Ax d;simp only[Gh,JT] at z;obtain⟨⟨FZ,JJ⟩,D⟩:=z;have FZ:=Ed FZ;subst FZ;rw[T6] at d C JJ D B;have WB:news.length=m*i.size:=by rw[<-C.rep.len];exact D
    have hkm:min m n*i.size<=m*i.size:=ky _ (k5 _ _);have hkn:min m n*i.size<=n*i.size:=ky _ (Nat.min_le_right _ _);have P7:K ⟨Dp s.tm o.dst (.sc (.int .i64 ((min m n:Nat):Int))),Dy s.hp id (some (.ar false (B9 cc (new.take (min m n*i.size)) off)))⟩=some r:=d;refine⟨_,P7,λnext Q S=>?_⟩
    have A81:∀{β':Bt} {Ek:Nat->Option Co} {w':World},D3 N w0 X0 Y β' ⟨s.tm,Ek⟩ a w'->D3 N w0 X0 Y β' ⟨Dp s.tm o.dst (.sc (.int .i64 ((min m n:Nat):Int))),Ek⟩ (a.put o.dst (goInt ((min m n:Nat):Int))) w':=
     λhh=>hh.put Arc (A7.sc _) (λ_ J=>by cases J)
    have Azo:new.take (min m n*i.size)=[]->Dy s.hp id (some (.ar false (B9 cc (new.take (min m n*i.size)) off)))=s.hp:=by
     intro e;rw[e];refine QB _ ?_;rw[T];simp[B9]
    have nothing:min m n*i.size=0->∀(ad:Option Addr) (cap:Nat),a.eval b=.slice ad n cap->o.wp P a w next Q:=by
     intro e ad cap Zd;have q:=Akw (P:=P) (w:=w) (w1:=w) (t:=t) (ty:=o.type) (ts:=tx::ts) (ad:=ad) (n:=n) (cap:=cap) l hi C (by rw[e];cases ad<;>simp[storeCells])
     rw[<-Zd] at q;refine run q next Q (S _ _ β (A81 ?_));rw[Azo (by rw[e,List.take_zero])];exact h
    rcases B with⟨E,_,rfl,ad,Zd⟩|⟨g,f,y,cap,E,Zd,L,As2,JB,Ay3⟩
    ·exact nothing Ψ ad 0 Zd
    ·by_cases M:min m n*i.size=0
     ·exact nothing M _ _ Zd
     rcases h.box id _ T with⟨G,_⟩|⟨b',o',G,Ke,SM,_⟩
     ·rw[E] at G;cases G
     rw[E] at G;simp at G;obtain⟨rfl,rfl⟩:=G;have SL:n≠0:=by rintro rfl;simp at M
     have L:y=f+off:=by rcases L with L|⟨hq,_⟩<;>first|exact absurd hq SL|exact L
     subst L;have Ct:(news.take (min m n*i.size)).length=min m n*i.size:=by rw[x7,WB];omega
     have Fc:∀k,k<(news.take (min m n*i.size)).length->(w.cell? ⟨g,f+off+k,none⟩).isSome=true:=by
      intro k d;obtain⟨v,O,_⟩:=Ke (off+k) _ (zd Ω);rw[E1] at O;rw[Ld,O];rfl
     have X:∀k,k<(news.take (min m n*i.size)).length->w.frozen? ⟨g,f+off+k,none⟩=false:=λk d=>by
      obtain⟨u,l⟩:=j8.1 (Fc k d);exact SM rfl _ Ω (RZ l)
     have h1:∀u∈news.take (min m n*i.size),u.oneCell'=true:=λu l=>C.one u (kg l);have Z:=run_storeCells_cells (P:=P) g (f+off) (news.take (min m n*i.size)) 0 w (λk d=>by simpa using Fc k d) (λk d=>by simpa using X k d) h1;have q:=Akw (P:=P) (w:=w) (t:=t) (ty:=o.type) (ts:=tx::ts) (ad:=some ⟨g,f+off,none⟩) (n:=n) (cap:=cap) l hi C Z;rw[<-Zd] at q;simp only[Zzr] at q;refine run q next Q (S _ _ β (A81 ?_))
     refine h.write T trivial trivial E (De.setCells g _ _ w) ?_ (λcells J=>by cases J) (λ_ J=>by cases J) (λj A=>A) (λj A=>by
      refine vk g _ _ w ⟨g,j,none⟩ (λ_ _=>?_);have A:¬(f<=j):=A;show j<f+off\/f+off+_<=j;omega)
     have I1:Df (Em s.hp β Y) w (w.setCells g (f+off) (news.take (min m n*i.size))):=by
      have hw:=De.setCells g (news.take (min m n*i.size)) (f+off) w;have hAb:Em s.hp β Y g:=.inl ⟨id,f,by rw[T];trivial,E⟩
      exact⟨by rw[hw.size];exact Cz _,λk _ d=>hw.other k (λe=>d (e ▸ hAb)),λk _=>hw.grow k⟩
     have hll:(new.take (min m n*i.size)).length=min m n*i.size:=by rw[x7,D];omega
     refine .inr ⟨g,f,E,λj p A=>?_,λ_ j A X7=>?_,(λx=>by cases x)⟩
     ·rw[E1];rcases DT Ω A with⟨Z,h4,U⟩|⟨Z,U⟩
      ·have Bin:j-off<min m n*i.size:=Ω
       rw[ke Bin] at U;obtain⟨u,l,hcu⟩:=C.rep.get U;have Azs:j-off<(news.take (min m n*i.size)).length:=Ω
       refine⟨u,?_,C.one u (zn l),hcu.step I1 (λ_ _ x=>x)⟩;have:=vl g (news.take (min m n*i.size)) (f+off) w Fc (j-off) Azs;rw[show f+j=f+off+(j-off) from Ω,this];rw[<-zd Azs,ke Bin];exact l
      ·obtain⟨v,O,h6,WK⟩:=Ke j p U;rw[E1] at O;refine⟨v,?_,h6,WK.step I1 (λ_ _ x=>x)⟩;rw[vk g _ _ w ⟨g,f+j,none⟩ (λ_ _=>by show f+j<f+off\/f+off+_<=f+j;omega)]
       exact O
     ·rw[(De.setCells g _ _ w).bs] at X7;rw[(De.setCells g _ _ w).frz];exact SM rfl j A X7
   ·cases d
  ·cases d
 ·cases d
theorem Aq1(h:D3 N w0 X0 Y β s a w){G:MD}(Rv:Env P G w0 X0)(Fp:∀f args m,F f args=some m->Ep G P f args m){K:St->Option R}(e:Ahy C P N F s o K=some r):
  ∃s',K s'=some r/\∀(next:Act->World->Prop) (Q:Exit->Act->World->Prop),(∀q w' β',D3 N w0 X0 Y β' s' q w'->next q w')->o.wp P a w next Q:=by
 unfold Ahy at e;split at e
 ·rename_i t x y n;obtain⟨hd,e⟩:=Ax e;exact Al0 h n (by simpa using hd) e
 ·rename_i c n;split at e
  ·rename_i p;obtain⟨d,hd,v⟩:=Dh e;obtain⟨b,I,g,Hn⟩:=B5 v;obtain⟨x,z,j,Tl⟩:=B5 Hn;obtain⟨NI,JQ⟩:=Fj Tl;obtain⟨t,us,i,k⟩:=B5 JQ;obtain⟨A,vs,Ox,l⟩:=B5 k;rw[j,NI] at g;rw[Ox] at i;exact Aiu h n p hd g i l
  ·rename_i p;obtain⟨b,I,g,Hn⟩:=B5 e;obtain⟨x,z,j,Tl⟩:=B5 Hn;obtain⟨NI,JQ⟩:=Fj Tl;obtain⟨t,us,i,k⟩:=B5 JQ;obtain⟨A,vs,Ox,l⟩:=B5 k;rw[j,NI] at g;rw[Ox] at i;exact Ape h n p g i l
  ·rename_i f p;exact Ald h Rv Fp n p e
  ·cases e
 ·cases e
theorem Aqj(h:D3 N w0 X0 Y β s a w){G:MD}(Rv:Env P G w0 X0)(Fp:∀f args b,F f args=some b->Ep G P f args b){K:St->Option R}(c:Ane C P N F o s K=some r):
  ∃s',K s'=some r/\∀(next:Act->World->Prop) (Q:Exit->Act->World->Prop),(∀d w' β',D3 N w0 X0 Y β' s' d w'->next d w')->o.wp P a w next Q:=by
 unfold Ane at c;cases e:FU C P o.op
 ·rw[e] at c;exact Apo h Rv Fp c
 ·rw[e] at c;exact Aq1 h Rv Fp c
end
end
end
end Go.Proofs.YtfmabfhjccngbaaGreatDoor.Pv
