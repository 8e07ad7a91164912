/-
  The proof of DataBack, part 2.
-/
import Derived.Test.YtodnjibebeghjaaDoorNA
import Derived.Laws.Append
import Derived.IntWalk
import Derived.Laws.AppendOwn
import Derived.Laws.IdiomCopy
set_option linter.unusedSimpArgs false
set_option linter.unusedVariables false
namespace Go.Proofs.YtodnjibebeghjaaDoor.Pv
section
open Go.RowKit
def Fm (w:World)(A:Nat->Prop)(own:Option (Nat × Nat)) (p:PV)(u:Value):Prop:=
 match p with
 |.own es n c=>(own=none∧n=0∧c=[]∧∃ad,u=.slice ad 0 0) ∨
   ∃b o cap,own=some (b,o)∧u=.slice (some ⟨b,o,none⟩) n cap∧n<=cap∧Fit w es b (o+cap*es)∧b<w.heap.size∧RY w A ⟨b,o,none⟩ c∧∀j,o<=j->j<bsz w b->w.frozen? ⟨b,j,none⟩=false
 |p=>Au w A p u
def Ed (w:World)(A:Nat->Prop)(own:Bt):Nat->List PV->List Value->Prop
 |_,[],[]=>True
 |j,p::ps,u::us=>Fm w A (own j) p u∧Ed w A own (j+1) ps us
 |_,_,_=>False
def Aeh (w:World)(A:Nat->Prop)(own:Bt)(j b o:Nat)(cs:List PV):Prop:=
 ∃vs,Ed w A own j cs vs∧(∀(k:Nat) v,vs[k]?=some v->w.cell? ⟨b,o+k,none⟩=some v)∧∀k,k<cs.length->w.frozen? ⟨b,o+k,none⟩=false
def Aib (w:World)(A:Nat->Prop)(own:Bt)(z j:Nat)(p:PV)(u:Value):Prop:=
 match p with
 |.agg cs=>∃vs,u=.agg ⟨vs⟩∧Ed w A own j cs vs
 |.pbox cs=>∃b o,own j=some (b,o)∧z<=b∧u=.pointer (some ⟨b,o,none⟩)∧Aeh w A own (j+1) b o cs
 |p=>Fm w A (own j) p u
def plc:PV->Nat
 |.pbox cs=>1+cs.length
 |p=>(cellsOf p).length
def GM (w:World)(A:Nat->Prop)(own:Bt)(z:Nat):Nat->List PV->List Value->Prop
 |_,[],[]=>True
 |j,p::ps,u::us=>Aib w A own z j p u∧GM w A own z (j+plc p) ps us
 |_,_,_=>False
abbrev V6:=Nat->Nat->Option (Nat × Nat)
def ZZ (bt:V6)(b:Nat):Prop:=∃i j o,bt i j=some (b,o)
def isA (p:PV):Prop:=Sg p∨∃es n c,p=.own es n c
def V7 (p:PV):Bool:=
 match p with
 |.pbox _=>true
 |.tup _=>true
 |_=>false
theorem Aj9 {p:PV}(h:isA p):V7 p=false:=by
 rcases h with h|⟨_,_,_,rfl⟩
 ·cases p<;>first|rfl|exact h.elim
 ·rfl
def OQ (w:World)(A:Nat->Prop)(bt:Bt)(p:PV)(u:Value):Prop:=
 match p with
 |.pbox ps=>∃b o,bt 0=some (b,o)∧u=.pointer (some ⟨b,o,none⟩)∧(∀p∈ps,isA p)∧Aeh w A bt 1 b o ps
 |.tup ps=>∃es n c,ps=[.own es n c]∧Fm w A (bt 0) (.own es n c) u
 |.agg cs=>∃vs,u=.agg ⟨vs⟩∧(∀p∈cs,isA p)∧Ed w A bt 1 cs vs
 |p=>isA p∧Fm w A (bt 1) p u
def Jb (w:World)(A:Nat->Prop)(bt:V6):Nat->List PV->List Value->Prop
 |_,[],[]=>True
 |i,p::ps,u::us=>OQ w A (bt i) p u∧Jb w A bt (i+1) ps us
 |_,_,_=>False
def Aoo (bt:Bt)(p:PV)(b j:Nat):Prop:=
 (∃k o,bt (k+1)=some (b,o)∧o<=j)∨∃o ps,bt 0=some (b,o)∧o<=j∧((p=.pbox ps∧j<o+ps.length)∨p=.tup ps)
def BL (bt:V6)(args:List PV)(b j:Nat):Prop:=∃i p,args[i]?=some p∧Aoo (bt i) p b j
def Sb (w:World)(A:Nat->Prop)(own:Bt)(bt:V6):Nat->Nat->List PV->List (List PV)->Prop
 |_,_,[],r=>r=[]
 |j,i,p::zs,r=>
  match p with
  |.pbox ps=>
   match r with
   |[]=>False
   |cs::r=>(∃b o,bt i 0=some (b,o)∧cs.length=ps.length∧Aeh w A own j b o cs)∧Sb w A own bt (j+cs.length) (i+1) zs r
  |.tup _=>
   match r with
   |[]=>False
   |cs::r=>((bt i 0=none∧cs=[])∨∃b o,bt i 0=some (b,o)∧RY w A ⟨b,o,none⟩ cs∧∀k,o<=k->k<bsz w b->w.frozen? ⟨b,k,none⟩=false)∧Sb w A own bt j (i+1) zs r
  |_=>Sb w A own bt j (i+1) zs r
def CM (bt:V6)(own:Bt)(Y:Nat->Prop)(b:Nat):Prop:=(∃j o,own j=some (b,o))∨(∃i o,bt i 0=some (b,o))∨Y b
def Jv (vals:List PV):Nat:=(vals.map plc).sum
structure Out (w w':World) (Y:Nat->Prop) (bt:V6) (args:List PV) (own:Bt) (r:Ay) (vs:List Value):Prop where
 os:w'.os=w.os
 tape:w'.tape=w.tape
 output:w'.output=w.output
 ext:B6 (ZZ bt) w w'
 rng:∀b j,b<w.heap.size->¬BL bt args b j->w'.cell? ⟨b,j,none⟩=w.cell? ⟨b,j,none⟩∧w'.frozen? ⟨b,j,none⟩=w.frozen? ⟨b,j,none⟩
 vals:GM w' (CM bt own Y) own w.heap.size 0 r.vals vs
 outs:Sb w' (CM bt own Y) own bt (Jv r.vals) 0 args r.outs
 fresh:∀j b o,own j=some (b,o)->b<w'.heap.size∧(b<w.heap.size->(∃i k o',bt i (k+1)=some (b,o'))∧∀x,o<=x->BL bt args b x)
 inj:∀j j' b o o',own j=some (b,o)->own j'=some (b,o')->j=j'
def Gv (us:List Value):Value:=match us with|[u]=>u|us=>.tuple ⟨us⟩
def Nx (w:World)(Y:Nat->Prop)(p:PV)(u:Value):Prop:=
 match p with
 |.agg cs=>∃vs,u=.agg ⟨vs⟩∧Bc (fun c v=>Sg c∧Au w Y c v) cs vs
 |p=>Sg p∧Au w Y p u
structure Ins (w:World) (Y:Nat->Prop) (bt:V6) (args:List PV) (us:List Value):Prop where
 Ylt:∀b,Y b->b<w.heap.size
 Yx:∀b,Y b->¬ZZ bt b
 lt:∀b,ZZ bt b->b<w.heap.size
 inj:∀i j i' j' b o o',bt i j=some (b,o)->bt i' j'=some (b,o')->i=i'∧j=j'
 l0:∀i q,bt i 0=some q->∃p,args[i]?=some p∧V7 p=true
 args:Jb w (fun b=>ZZ bt b∨Y b) bt 0 args us
structure S2 where
 bl:Nat->Prop
 ok:World->Prop
 stable:∀w w':World,(∀b,bl b->b<w.heap.size->w'.heap[b]?=w.heap[b]?)->ok w->ok w'
def C4 (G:S2)(P:Program)(f:FuncId)(args:List PV)(r:Ay):Prop:=
 (∃fn,P.funcs[f]?=some fn∧fn.body.isSome=true)∧∀(w:World)(Y:Nat->Prop)(bt:V6)(us:List Value),Ins w Y bt args us->G.ok w->(∀b,G.bl b->b<w.heap.size∧¬ZZ bt b) ->
  Calls P f us.toArray w fun e w'=>∃vs own,e=.returned (Gv vs)∧Out w w' Y bt args own r vs
def QA:V6:=fun _ _=>none
theorem Nt (b:Nat):¬ZZ QA b:=by rintro⟨_,_,_,h⟩;cases h
theorem Io {w:World}{A:Nat->Prop}{q:Option (Nat × Nat)} {p:PV}{u:Value}(hp:Sg p)(h:Au w A p u):Fm w A q p u:=by
 cases p<;>first|exact h|exact hp.elim
theorem Y2 {w:World}{A:Nat->Prop}{own:Bt}:∀{cs:List PV}{vs:List Value}{j:Nat},Bc (fun c v=>Sg c∧Au w A c v) cs vs->Ed w A own j cs vs
 |[],[],_,_=>trivial
 |_::_,_::_,_,h=>⟨Io h.1.1 h.1.2,Y2 h.2⟩
 |[],_::_,_,h=>h.elim
 |_::_,[],_,h=>h.elim
theorem Ab0 {w:World}{A:Nat->Prop}{bt:Bt}{p:PV}{u:Value}(h:Nx w A p u):OQ w A bt p u:=by
 cases p with
 |agg cs=>
  obtain⟨vs,h1,h2⟩:=h;refine⟨vs,h1,fun p hp=>.inl ?_,Y2 h2⟩
  obtain⟨j,hj⟩:=List.mem_iff_getElem?.1 hp;obtain⟨v,_,hv⟩:=h2.get hj;exact hv.1
 |sc v=>exact⟨.inl trivial,h.2⟩
 |lst z es n c=>exact⟨.inl trivial,h.2⟩
 |_=>exact h.1.elim
theorem AQ {w:World}{A:Nat->Prop}{bt:V6}:∀{ps:List PV}{us:List Value}{i:Nat},Bc (Nx w A) ps us->Jb w A bt i ps us
 |[],[],_,_=>trivial
 |_::_,_::_,_,h=>⟨Ab0 h.1,AQ h.2⟩
 |[],_::_,_,h=>h.elim
 |_::_,[],_,h=>h.elim
theorem ZD {w:World}{A A':Nat->Prop}(hA:∀b,b<w.heap.size->A' b->A b){p:PV}{v:Value}(h:Nx w A p v):Nx w A' p v:=by
 cases p with
 |agg cs=>
  obtain⟨vs,rfl,h2⟩:=h;exact⟨vs,rfl,h2.mono fun c v hc=>⟨hc.1,hc.2.step (B6.refl _ _) hA⟩⟩
 |sc v=>exact⟨h.1,h.2.step (B6.refl _ _) hA⟩
 |lst z es n c=>exact⟨h.1,h.2.step (B6.refl _ _) hA⟩
 |_=>exact h.1.elim
theorem OB {w:World}{Y:Nat->Prop}{args:List PV}{us:List Value}(hY:∀b,Y b->b<w.heap.size)(h:Bc (Nx w Y) args us):Ins w Y QA args us:=
 ⟨hY,fun b _=>Nt b,fun b h=>absurd h (Nt b),(fun _ _ _ _ _ _ _ h=>by cases h),(fun _ _ h=>by cases h),AQ (h.mono fun _ _ hx=>ZD (fun b _ hb=>hb.elim (fun q=>absurd q (Nt b)) id) hx)⟩
def NoNG (P:Program):Prop:=∀(f:FuncId) (fn:Func),P.funcs[f]?=some fn->(fn.name == "runtime.NumGoroutine")=false
structure OE (P:Program) (G:S2) (w0:World) (X0:Gu):Prop where
 ng:NoNG P
 fr:∀w,Fr X0 w0 w->G.ok w
 y:∀b,G.bl b->b<w0.heap.size∧¬X0.X b
section
variable {R:Type} {r:R} {P:Program} {N:Nat} {w0:World} {X0:Gu} {Y:Nat->Prop} {β β':Bt} {s:St} {a:Act} {w w':World} {o:Oper} {A:Nat->Prop}
def DT (P:Program)(a:Act)(w:World)(o:Oper)(Y:Nat->Prop)(β:Bt)(s:St)(v:PV)(fz:List Nat)(nw:List (Nat × Bl)):Prop:=
 (∀id∈fz,∃f c,s.hp id=some (.ar f c))∧∀(next:Act->World->Prop)(Q:Exit->Act->World->Prop),
  (∀val w',(Bo s.hp nw=true->∃β',GN Y β ⟨s.tm,Af s.hp fz⟩ w v nw val w' β')->next (a.put o.dst val) w')->o.wp P a w next Q
theorem DS {v:PV}{fz:List Nat}{nw:List (Nat × Bl)} (h:Dz P a w o Y β s v fz nw):DT P a w o Y β s v fz nw:=by
 obtain⟨h1,val,w',hr,hs⟩:=h;refine⟨h1,fun next Q hn=>?_⟩
 unfold Oper.wp;rw[hr];exact hn val w' hs
theorem Aex (h:Cl N w0 X0 Y β s a w){t:TypeId}{x:PV}{u:Value}(hx:D5 w (Cw s.hp β Y) β x u) {K:PV->List Nat->Option R}(hk:WD P (Hq s.hp) t x K=some r):
  ∃p m,K p m=some r∧(∀id∈m,∃f cc,s.hp id=some (.ar f cc))∧(cellsOf p).length=(G1 P t).length∧∀fz:List Nat,(∀id∈m,id∈fz)->(∀id∈fz,∃f cc,s.hp id=some (.ar f cc))->Nx w (Cw (Af s.hp fz) β Y) p u:=by
 unfold WD at hk;cases Fc:B4 P t
 ·rw[Fc] at hk;obtain⟨cs,m,hk,hl,Ib,hT,hF,hm,hv⟩:=Np h (show Le _ _ _ _=some r from hk)
  obtain⟨c,t',rfl,hk⟩:=A7 hk;obtain⟨rfl,hk⟩:=Dc hk;have hcT:=hT c (by simp)
  refine⟨c,m,hk,hm,?_,fun fz h1 h2=>?_⟩
  ·have:cellsOf c=[c]:=by cases c<;>first|rfl|exact hcT.elim
   rw[this];exact hl
  have hF':=hF _ (List.mem_singleton_self _)
  have hc:Bw w (Cw s.hp β Y) β x u:=by
   cases x<;>first|exact hx|exact hF'.elim
  have h3:=(hv fz h1 h2 [u] ⟨hc,trivial⟩).1.1;cases c<;>first|exact⟨trivial,h3⟩|exact hcT.elim
 ·rw[Fc] at hk;obtain⟨ps,hp,hk⟩:=Gb (show E3 _ _=some r from hk)
  rw[hp] at hx;obtain⟨cs,m,hk,hl,Ib,hT,hF,hm,hv⟩:=Np h hk;obtain⟨vs,Cz,h2⟩:=hx;refine⟨.agg cs,m,hk,hm,hl,fun fz h1 h3=>⟨vs,Cz,?_⟩⟩
  exact (hv fz h1 h3 vs h2).1.mono_mem fun c hc v Zc=>⟨hT c hc,Zc⟩
theorem Agf (h:Cl N w0 X0 Y β s a w){t:TypeId}{x:Operand}{K:PV->List Nat->Option R}(hk:WD P (Hq s.hp) t (Bz s.tm x) K=some r):
  ∃p m,K p m=some r∧(∀id∈m,∃f cc,s.hp id=some (.ar f cc))∧∀fz:List Nat,(∀id∈m,id∈fz)->(∀id∈fz,∃f cc,s.hp id=some (.ar f cc))->Nx w (Cw (Af s.hp fz) β Y) p (a.eval x):=by
 obtain⟨p,m,h1,h2,_,h3⟩:=Aex h (Cq h x) hk;exact⟨p,m,h1,h2,h3⟩
theorem IV (h:Cl N w0 X0 Y β s a w):∀{ts:List TypeId}{xs:List Operand}{K:List PV->List Nat->Option R},DQ P (Hq s.hp) ts (xs.map (Bz s.tm)) K=some r ->
  ∃ps m,K ps m=some r∧(∀id∈m,∃f cc,s.hp id=some (.ar f cc))∧∀fz:List Nat,(∀id∈m,id∈fz)->(∀id∈fz,∃f cc,s.hp id=some (.ar f cc))->Bc (Nx w (Cw (Af s.hp fz) β Y)) ps (xs.map a.eval)
 |[],[],K,hk=>⟨[],[],hk,by simp,fun _ _ _=>trivial⟩
 |[],_::_,K,hk=>by cases hk
 |_::_,[],K,hk=>by cases hk
 |t::ts,x::xs,K,hk=>by
  simp only[List.map_cons] at hk;unfold DQ at hk;obtain⟨p,m,hk,hm,hv⟩:=Agf h hk;obtain⟨ps,ms,hk,CL,O9⟩:=IV h hk;refine⟨p::ps,m++ms,hk,?_,fun fz h1 h2=>⟨hv fz (fun i hi=>h1 i (by simp[hi])) h2,O9 fz (fun i hi=>h1 i (by simp[hi])) h2⟩⟩
  intro i hi;rcases List.mem_append.1 hi with hi|hi
  ·exact hm i hi
  ·exact CL i hi
theorem Nx.weaken {A':Nat->Prop}(hA:∀b,b<w.heap.size->A' b->A b){p:PV}{v:Value}(h:Nx w A p v):Nx w A' p v:=by
 have one:Sg p->Sg p∧Au w A p v->Nx w A' p v:=by
  intro hp h;cases p<;>first|exact⟨h.1,h.2.step (B6.refl _ _) hA⟩|exact hp.elim
 cases p with
 |agg cs=>
  obtain⟨vs,rfl,h2⟩:=h;exact⟨vs,rfl,h2.mono fun c v hc=>⟨hc.1,hc.2.step (B6.refl _ _) hA⟩⟩
 |_=>exact one h.1 h
theorem Afr {t:CT}{p:PV}{K:PV->Option R}(h:Xg t p K=some r):
  ∃c,K c=some r∧Sg c∧Sg p∧(∀(w:World) (A:Nat->Prop) (β:Nat->Option (Nat × Nat)) (v:Value),Bw w A β p v->Au w A c v∧v.oneCell'=true)∧((∀es,t ≠ .sl es)->∃v,c=.sc v):=by
 obtain⟨c,hk,hT,BE,hv⟩:=Kc h;cases t with
 |sl es=>exact⟨c,hk,hT,BE,hv,fun Ei=>absurd rfl (Ei es)⟩
 |int k=>obtain⟨n,rfl,h2⟩:=D7 h;exact⟨_,h2,trivial,trivial,fun w A β v hv=>⟨hv,by have:=Au.val (w:=w) (A:=A) hv;subst this;rfl⟩,fun _=>⟨_,rfl⟩⟩
 |bool=>obtain⟨n,rfl,h2⟩:=Di h;exact⟨_,h2,trivial,trivial,fun w A β v hv=>⟨hv,by have:=Au.val (w:=w) (A:=A) hv;subst this;rfl⟩,fun _=>⟨_,rfl⟩⟩
 |str=>obtain⟨n,rfl,h2⟩:=Dd h;exact⟨_,h2,trivial,trivial,fun w A β v hv=>⟨hv,by have:=Au.val (w:=w) (A:=A) hv;subst this;rfl⟩,fun _=>⟨_,rfl⟩⟩
 |any=>
  obtain⟨u,rfl,h1,h2⟩:=XX (show fnK p (fun v=>K (.sc v))=some r from h)
  exact⟨_,h2,trivial,trivial,fun w A β v hv=>⟨hv,by have:=Au.val (w:=w) (A:=A) hv;subst this;exact h1⟩,fun _=>⟨_,rfl⟩⟩
theorem Qz (shr:Bool)(N:Nat):∀{ts:List CT}{ps:List PV}{id:Nat}{K:List PV->List (Nat × Bl)->Option R},Nr shr N id ts ps K=some r ->
  ∃cs bs,K cs bs=some r∧ps.length=ts.length∧(∀p∈ps,∀x,p ≠ .agg x∧p ≠ .pbox x)∧(∀c∈cs,GD c)∧((∀es,CT.sl es ∉ ts)->bs=[]∧∀c∈cs,∃v,c=.sc v) ∧
   (∀i bx,(i,bx)∈bs->∃j es n c,ps[j]?=some (.own es n c)∧i=id+N*j∧bx=.ar false c) ∧
   (∀c∈cs,∀i∈An c,∃bx,(i,bx)∈bs) ∧
   ∀(w:World) (A:Nat->Prop) (own β':Bt) (j0:Nat) (us:List Value),(∀j,(∃bx,(id+N*j,bx)∈bs)->β' (id+N*j)=own (j0+j))->Ed w A own j0 ps us->Bc (Bw w A β') cs us
 |[],ps,id,K,hk=>by
  obtain⟨rfl,hk⟩:=Dc hk;refine⟨[],[],hk,rfl,by simp,by simp,by simp,by simp,by simp,fun w A own β' j0 us _ h=>?_⟩
  cases us with
  |nil=>trivial
  |cons u us=>exact h.elim
 |t::ts,ps,id,K,hk=>by
  unfold Nr at hk;obtain⟨p,ps',Zk,Dm⟩:=A7 hk;subst Zk;clear hk
  have main:∃c b,(Nr shr N (id+N) ts ps' fun cs bs=>K (c::cs) (b++bs))=some r∧(∀x,p ≠ .agg x∧p ≠ .pbox x)∧GD c∧((∀es,t≠CT.sl es)->b=[]∧∃v,c=.sc v)∧(∀i bx,(i,bx)∈b->∃es n cc,p=.own es n cc∧i=id∧bx=.ar false cc)∧(∀i∈An c,∃bx,(i,bx)∈b) ∧
    ∀(w:World) (A:Nat->Prop) (own:Option (Nat × Nat)) (β':Bt) (u:Value),((∃bx,(id,bx)∈b)->β' id=own)->Fm w A own p u->Bw w A β' c u:=by
   have tree:∀t',t'=t->(Xg t' p fun c=>Nr shr N (id+N) ts ps' fun cs bs=>K (c::cs) ([]++bs))=some r->∃c b,(Nr shr N (id+N) ts ps' fun cs bs=>K (c::cs) (b++bs))=some r∧(∀x,p ≠ .agg x∧p ≠ .pbox x)∧GD c∧((∀es,t≠CT.sl es)->b=[]∧∃v,c=.sc v)∧(∀i bx,(i,bx)∈b->∃es n cc,p=.own es n cc∧i=id∧bx=.ar false cc)∧(∀i∈An c,∃bx,(i,bx)∈b) ∧
     ∀(w:World) (A:Nat->Prop) (own:Option (Nat × Nat)) (β':Bt) (u:Value),((∃bx,(id,bx)∈b)->β' id=own)->Fm w A own p u->Bw w A β' c u:=by
    intro t' ht' hk;have SC:=Afr hk;obtain⟨c,hk,hT,BE,hv,SC⟩:=SC;refine⟨c,[],hk,fun x=>⟨Vx BE x,by rintro rfl;exact BE⟩,Ok hT,fun Ei=>⟨rfl,SC (fun es e=>Ei es (ht'.symm.trans e))⟩,by simp,by rw[Gq hT];simp,fun w A own β' u _ hc=>?_⟩
    have Ob:Bw w A β' p u:=by cases p<;>first|exact hc|exact BE.elim
    exact (Jh hT).2 (hv w A β' u Ob).1
   unfold Afx at Dm;cases t with
   |sl es=>
    dsimp only at Dm;cases shr
    ·unfold FE at Dm;simp only[cond_false] at Dm;split at Dm
     ·rename_i es' n c;cases hb:Nat.beq es' es
      ·rw[hb] at Dm;cases Dm
      ·rw[hb] at Dm;have:=Nat.eq_of_beq_eq_true hb;subst this;refine⟨_,_,Dm,by simp,trivial,fun Ei=>absurd rfl (Ei _),?_,?_,fun w A own β' u hβ hc=>?_⟩
       ·intro i bx hm;simp at hm;exact⟨_,_,_,rfl,hm.1,hm.2⟩
       ·intro i hi;simp[An] at hi;subst hi;exact⟨.ar false c,by simp⟩
       ·have hβ':=hβ ⟨.ar false c,by simp⟩
        clear hβ;rcases hc with⟨h1,rfl,rfl,h4⟩|⟨b,ob,cap,h1,h2,h3,h4,h5,_⟩
        ·exact .inl ⟨hβ'.trans h1,rfl,rfl,h4⟩
        ·exact .inr ⟨b,ob,ob,cap,hβ'.trans h1,h2,.inl rfl,h3,h4,h5⟩
     ·cases Dm
    ·obtain⟨c,hk,hT,BE,hv,_⟩:=Afr (t:=.sl es) (p:=p) (K:=fun c=>Nr true N (id+N) ts ps' fun cs bs=>K (MD c::cs) ([]++bs)) Dm
     have hU:Sg (MD c):=by cases c<;>exact hT
     refine⟨MD c,[],hk,fun x=>⟨Vx BE x,by rintro rfl;exact BE⟩,Ok hU,fun Ei=>absurd rfl (Ei _),by simp,by rw[Gq hU];simp,fun w A own β' u _ hc=>?_⟩
     have Ob:Bw w A β' p u:=by cases p<;>first|exact hc|exact BE.elim
     refine (Jh hU).2 ?_;have:=(hv w A β' u Ob).1;cases c with
     |lst z es n c=>exact Au.unz this
     |_=>exact this
   |int k=>exact tree (.int k) rfl Dm
   |bool=>exact tree .bool rfl Dm
   |str=>exact tree .str rfl Dm
   |any=>exact tree .any rfl Dm
  obtain⟨c,b,hk,hpa,hF,OG,En,G3,Zc⟩:=main;obtain⟨cs,bs,hk,hl,A0z,hFs,Anb,A5o,A6i,Axz⟩:=Qz shr N hk;refine⟨c::cs,b++bs,hk,by simp[hl],?_,?_,?_,?_,?_,fun w A own β' j0 us hβ hoc=>?_⟩
  ·intro x hx;rcases List.mem_cons.1 hx with rfl|hx
   ·exact hpa
   ·exact A0z x hx
  ·intro x hx;rcases List.mem_cons.1 hx with rfl|hx
   ·exact hF
   ·exact hFs x hx
  ·intro Ei;obtain⟨h1,v,h2⟩:=OG (fun es e=>Ei es (by rw[e];simp))
   obtain⟨h3,h4⟩:=Anb (fun es hm=>Ei es (by simp[hm]))
   refine⟨by rw[h1,h3];rfl,fun x hx=>?_⟩
   rcases List.mem_cons.1 hx with rfl|hx
   ·exact⟨v,h2⟩
   ·exact h4 x hx
  ·intro i bx hm;rcases List.mem_append.1 hm with hm|hm
   ·obtain⟨es,n,cc,rfl,rfl,rfl⟩:=En i bx hm;exact⟨0,es,n,cc,rfl,by simp,rfl⟩
   ·obtain⟨j,es,n,cc,h1,rfl,h3⟩:=A5o i bx hm;exact⟨j+1,es,n,cc,by simpa using h1,by rw[Nat.mul_add];omega,h3⟩
  ·intro x hx i hi;rcases List.mem_cons.1 hx with rfl|hx
   ·obtain⟨bx,hm⟩:=G3 i hi;exact⟨bx,by simp[hm]⟩
   ·obtain⟨bx,hm⟩:=A6i x hx i hi;exact⟨bx,by simp[hm]⟩
  ·cases us with
   |nil=>exact hoc.elim
   |cons u us=>
    refine⟨Zc w A (own j0) β' u (fun ⟨bx,hm⟩=>by have:=hβ 0 ⟨bx,by simp[hm]⟩;simpa using this) hoc.1,?_⟩
    refine Axz w A own β' (j0+1) us (fun j ⟨bx,hm⟩=>?_) hoc.2
    have e:id+N+N*j=id+N*(j+1):=by rw[Nat.mul_add];omega
    have:=hβ (j+1) ⟨bx,by rw[←e];simp[hm]⟩
    rw[e,this]
    congr 1
    omega
end
open Go.RowKit
section
variable {R:Type} {r:R} {P:Program} {N:Nat} {w0:World} {X0:Gu} {Y:Nat->Prop} {β β':Bt} {s:St} {a:Act} {w w':World} {o:Oper} {A:Nat->Prop}
theorem Ed.len:∀{j:Nat}{own:Bt}{ps:List PV}{us:List Value},Ed w A own j ps us->ps.length=us.length
 |_,_,[],[],_=>rfl
 |_,_,_::_,_::_,h=>by simp[Ed.len h.2]
 |_,_,[],_::_,h=>h.elim
 |_,_,_::_,[],h=>h.elim
theorem Ed.at_:∀{j:Nat}{own:Bt}{ps:List PV}{us:List Value},Ed w A own j ps us->∀{i:Nat} {p},ps[i]?=some p->∃u,us[i]?=some u∧Fm w A (own (j+i)) p u
 |_,_,[],[],_,i,p,h=>by simp at h
 |j,own,_::_,u::_,h,0,p,hp=>by simp at hp;subst hp;exact⟨u,rfl,h.1⟩
 |j,own,_::_,_::_,h,i+1,p,hp=>by
  simp at hp;obtain⟨u,hu,hc⟩:=Ed.at_ h.2 hp;exact⟨u,by simpa using hu,by rw[show j+(i+1)=j+1+i from by omega];exact hc⟩
 |_,_,[],_::_,h,_,_,_=>h.elim
 |_,_,_::_,[],h,_,_,_=>h.elim
def Acz (N id:Nat)(β':Bt)(w:World)(A:Nat->Prop)(z n:Nat)(bs:List (Nat × Bl)):Prop:=
 ∀i bx,(i,bx)∈bs->(∃j,i=id+N*j∧j<n)∧Cy (some bx)∧Ol w A β' i bx∧∀cs,bx=.st cs->∀b o,β' i=some (b,o)->z<=b
def Xe (bs:List (Nat × Bl)):Prop:=∀i cells,(i,.st cells)∈bs->∀c∈cells,∀i'∈An c,∃bx,(i',bx)∈bs
theorem Ty {q:Option (Nat × Nat)} {es n i:Nat}{c:List PV}{u:Value}(h:Fm w A q (.own es n c) u) (hβ:β' i=q):Ol w A β' i (.ar false c):=by
 rcases h with⟨h1,_,h2,_⟩|⟨b,o,cap,h1,_,_,_,_,h6,h7⟩
 ·exact .inl ⟨hβ.trans h1,h2⟩
 ·exact .inr ⟨b,o,hβ.trans h1,h6,fun _=>h7,(fun x=>by cases x)⟩
theorem Xc {t:TypeId}(h:H3 P [t]=false):V2 P t=none∧∀es,CT.sl es ∉ G1 P t:=by
 simp only[H3,List.any_cons,List.any_nil,Bool.or_false,Bool.or_eq_false_iff] at h;refine⟨by simpa using h.1,fun es hm=>?_⟩
 have:=List.any_eq_false.1 h.2 _ hm;simp at this
theorem Af0 (shr:Bool)(N:Nat){t:TypeId}{p:PV}{id:Nat}{K:PV->List (Nat × Bl)->Option R} (hk:ZW P shr N id t p K=some r):
  ∃v bs,K v bs=some r∧plc p=OH P t∧(∀x,v ≠ .tup x)∧(H3 P [t]=false->bs=[]∧∀c∈cellsOf v,∃u,c=.sc u)∧(∀i∈B8 v,∃bx,(i,bx)∈bs)∧Xe bs ∧
   ∀(w:World) (A:Nat->Prop) (own β':Bt) (z j0:Nat) (u:Value),(∀j,(∃bx,(id+N*j,bx)∈bs)->β' (id+N*j)=own (j0+j))->Aib w A own z j0 p u->Gt w A β' v u∧Acz N id β' w A z (plc p) bs:=by
 have boxes:∀{bs:List (Nat × Bl)} {ps:List PV} {id:Nat},(∀i bx,(i,bx)∈bs->∃j es n c,ps[j]?=some (.own es n c)∧i=id+N*j∧bx=.ar false c) ->
   Xe bs∧∀(w:World) (A:Nat->Prop) (own β':Bt) (j0:Nat) (us:List Value),(∀j,(∃bx,(id+N*j,bx)∈bs)->β' (id+N*j)=own (j0+j))->Ed w A own j0 ps us->∀z,Acz N id β' w A z ps.length bs:=by
  intro bs ps id En;refine⟨fun i cells hm=>?_,fun w A own β' j0 us hβ ho z i bx hm=>?_⟩
  ·obtain⟨_,_,_,_,_,_,h3⟩:=En i _ hm;cases h3
  ·obtain⟨j,es,n,cc,h1,h2,h3⟩:=En i bx hm;obtain⟨u,hu,hoc⟩:=ho.at_ h1;subst h3;refine⟨⟨j,h2,?_⟩,trivial,Ty hoc ?_,fun _ e=>by cases e⟩
   ·rcases Nat.lt_or_ge j ps.length with h|h
    ·exact h
    ·rw[List.getElem?_eq_none h] at h1;cases h1
   ·rw[h2];exact hβ j ⟨_,h2 ▸ hm⟩
 unfold ZW at hk;split at hk
 ·rename_i e he;obtain⟨ps,rfl,hk⟩:=HW hk;obtain⟨cs,bs,hk,hl,Ajq,hF,OG,En,G3,Zc⟩:=Qz shr N hk;obtain⟨WG,Jl⟩:=boxes En;refine⟨.ptr id 0,_,hk,by simp only[plc,OH,he,hl],by simp,fun h=>?_,fun i hi=>?_,fun i cells hm c hc i' RP=>?_,fun w A own β' z j0 u hβ ho=>?_⟩
  ·have:=(Xc h).1;rw[he] at this;cases this
  ·simp only[B8,An,List.mem_singleton] at hi;subst hi;exact⟨_,List.mem_cons_self⟩
  ·rcases List.mem_cons.1 hm with e|hm
   ·cases e;obtain⟨bx,hb⟩:=G3 c hc i' RP;exact⟨bx,List.mem_cons_of_mem _ hb⟩
   ·obtain⟨bx,hb⟩:=WG i cells hm c hc i' RP;exact⟨bx,List.mem_cons_of_mem _ hb⟩
  ·obtain⟨b,o,h1,hz,rfl,vs,h3,h4,h5⟩:=ho;have h0:=hβ 0 ⟨_,by rw[Nat.mul_zero,Nat.add_zero];exact List.mem_cons_self⟩
   rw[Nat.mul_zero,Nat.add_zero,Nat.add_zero,h1] at h0;have Bh:∀j,id+N+N*j=id+N*(j+1):=fun j=>by rw[Nat.mul_add];omega
   have hβ1:∀j,(∃bx,(id+N+N*j,bx)∈bs)->β' (id+N+N*j)=own (j0+1+j):=fun j ⟨bx,hm⟩=>by
    rw[Bh,hβ (j+1) ⟨bx,by rw[←Bh];exact List.mem_cons_of_mem _ hm⟩]
    congr 1;omega
   have hc2:=Zc w A own β' (j0+1) vs hβ1 h3;have Sk:=Jl w A own β' (j0+1) vs hβ1 h3 z;have Dj:cs.length=ps.length:=by rw[hc2.len,←h3.len]
   refine⟨⟨b,o,h0,by simp⟩,fun i bx hm=>?_⟩
   rcases List.mem_cons.1 hm with e|hm
   ·cases e;refine⟨⟨0,by simp,by simp only[plc];omega⟩,trivial,⟨b,o,h0,fun k c hk=>?_,fun k hk=>h5 k (by omega)⟩,fun _ _ b' o' Gy=>?_⟩
    ·obtain⟨v,hv,ON⟩:=hc2.get hk;exact⟨v,h4 k v hv,ON⟩
    ·rw[h0] at Gy;cases Gy;exact hz
   ·obtain⟨⟨j,hj,hjn⟩,h6,h7⟩:=Sk i bx hm;exact⟨⟨j+1,by rw[hj,Bh],by simp only[plc];omega⟩,h6,h7⟩
 ·rename_i hnp;have Tn:OH P t=(G1 P t).length:=by simp only[OH,hnp]
  cases Fc:B4 P t
  ·rw[Fc] at hk;obtain⟨cs,bs,hk,hl,Ajq,hF,OG,En,G3,Zc⟩:=Qz shr N (show Nr _ _ _ _ _ _=some r from hk)
   obtain⟨c,t',rfl,hk⟩:=A7 hk;obtain⟨rfl,hk⟩:=Dc hk;have hFc:=hF c (by simp)
   have As3:∀x,p ≠ .pbox x:=fun x=>(Ajq p (by simp) x).2
   have Aoq:∀x,c ≠ .agg x:=by rintro x rfl;exact hFc
   have A0r:∀x,c ≠ .tup x:=by rintro x rfl;exact hFc
   have EX:B8 c=An c:=by cases c<;>first|rfl|exact absurd rfl (Aoq _)
   have hpa:∀x,p ≠ .agg x:=fun x=>(Ajq p (by simp) x).1
   obtain⟨WG,Jl⟩:=boxes En;have Cp:cellsOf p=[p]:=by cases p<;>first|rfl|exact absurd rfl (hpa _)
   have Arh:plc p=1:=by cases p<;>first|rfl|exact absurd rfl (hpa _)|exact absurd rfl (As3 _)
   have YN:cellsOf c=[c]:=by cases c<;>first|rfl|exact absurd rfl (Aoq _)
   refine⟨c,bs,hk,by rw[Arh,Tn];exact hl,A0r,fun Ei=>by rw[YN];exact OG (Xc Ei).2,fun i hi=>G3 c (by simp) i (by rw[←EX];exact hi),WG,fun w A own β' z j0 u hβ ho=>?_⟩
   have QH:Fm w A (own j0) p u:=by cases p<;>first|exact ho|exact absurd rfl (hpa _)|exact absurd rfl (As3 _)
   exact⟨(V0 Aoq).2 (Zc w A own β' j0 [u] hβ ⟨QH,trivial⟩).1,by rw[Arh];exact Jl w A own β' j0 [u] hβ ⟨QH,trivial⟩ z⟩
  ·rw[Fc] at hk;obtain⟨ps,rfl,hk⟩:=Gb (show E3 _ _=some r from hk)
   obtain⟨cs,bs,hk,hl,Ajq,hF,OG,En,G3,Zc⟩:=Qz shr N hk;obtain⟨WG,Jl⟩:=boxes En;refine⟨.agg cs,bs,hk,by rw[Tn];exact hl,by simp,fun Ei=>OG (Xc Ei).2,fun i hi=>?_,WG,fun w A own β' z j0 u hβ ho=>?_⟩
   ·obtain⟨c,hc,hi⟩:=List.mem_flatMap.1 (show i∈cs.flatMap An from hi)
    exact G3 c hc i hi
   ·obtain⟨vs,rfl,ho⟩:=ho;exact⟨⟨vs,rfl,Zc w A own β' j0 vs hβ ho⟩,Jl w A own β' j0 vs hβ ho z⟩
theorem Wd (shr:Bool)(N:Nat):∀{ts:List TypeId}{ps:List PV}{id:Nat}{K:List PV->List (Nat × Bl)->Option R},Yp P shr N id ts ps K=some r ->
  ∃vs bs,K vs bs=some r∧vs.length=ps.length∧(∀v∈vs,∀x,v ≠ .tup x)∧(H3 P ts=false->bs=[]∧∀v∈vs,∀c∈cellsOf v,∃u,c=.sc u)∧(∀v∈vs,∀i∈B8 v,∃bx,(i,bx)∈bs)∧Xe bs ∧
   ∀(w:World) (A:Nat->Prop) (own β':Bt) (z j0:Nat) (us:List Value),(∀j,(∃bx,(id+N*j,bx)∈bs)->β' (id+N*j)=own (j0+j))->GM w A own z j0 ps us->Bc (Gt w A β') vs us∧Acz N id β' w A z (Jv ps) bs
 |[],ps,id,K,hk=>by
  obtain⟨rfl,hk⟩:=Dc hk;refine⟨[],[],hk,rfl,by simp,by simp,by simp,(by intro i cells hm;cases hm),fun w A own β' z j0 us _ h=>?_⟩
  cases us with
  |nil=>exact⟨trivial,by intro i bx hm;cases hm⟩
  |cons u us=>exact h.elim
 |t::ts,ps,id,K,hk=>by
  unfold Yp at hk;obtain⟨p,ps',Zk,Dm⟩:=A7 hk;subst Zk;clear hk;obtain⟨v,bs,hk,hl,UC,OG,EX,WG,hv⟩:=Af0 shr N Dm;obtain⟨vs,bs',hk,hvl,A21,Anb,hrs,A59,O9⟩:=Wd shr N hk;refine⟨v::vs,bs++bs',hk,by simp[hvl],?_,?_,?_,?_,fun w A own β' z j0 us hβ ho=>?_⟩
  ·intro x hx;rcases List.mem_cons.1 hx with rfl|hx
   ·exact UC
   ·exact A21 x hx
  ·intro Ei;simp only[H3,List.any_cons,Bool.or_eq_false_iff] at Ei;obtain⟨h1,h2⟩:=OG (by simp only[H3,List.any_cons,List.any_nil,Bool.or_false,Bool.or_eq_false_iff];exact Ei.1)
   obtain⟨h3,h4⟩:=Anb (by simp only[H3];exact Ei.2)
   refine⟨by rw[h1,h3];rfl,fun x hx=>?_⟩
   rcases List.mem_cons.1 hx with rfl|hx
   ·exact h2
   ·exact h4 x hx
  ·intro x hx i hi;rcases List.mem_cons.1 hx with rfl|hx
   ·obtain⟨bx,hm⟩:=EX i hi;exact⟨bx,by simp[hm]⟩
   ·obtain⟨bx,hm⟩:=hrs x hx i hi;exact⟨bx,by simp[hm]⟩
  ·intro i cells hm c hc i' RP;rcases List.mem_append.1 hm with hm|hm
   ·obtain⟨bx,hb⟩:=WG i cells hm c hc i' RP;exact⟨bx,by simp[hb]⟩
   ·obtain⟨bx,hb⟩:=A59 i cells hm c hc i' RP;exact⟨bx,by simp[hb]⟩
  ·cases us with
   |nil=>exact ho.elim
   |cons u us=>
    obtain⟨h1,En⟩:=hv w A own β' z j0 u (fun j ⟨bx,hm⟩=>hβ j ⟨bx,by simp[hm]⟩) ho.1
    have Bh:∀j,id+N*OH P t+N*j=id+N*(OH P t+j):=fun j=>by rw[Nat.mul_add];omega
    obtain⟨h2,G3⟩:=O9 w A own β' z (j0+plc p) us (fun j ⟨bx,hm⟩=>by rw[Bh,hβ _ ⟨bx,by rw[←Bh];simp[hm]⟩,hl];congr 1;omega) ho.2
    refine⟨⟨h1,h2⟩,fun i bx hm=>?_⟩
    rcases List.mem_append.1 hm with hm|hm
    ·obtain⟨⟨j,hj,hjn⟩,h4,h5⟩:=En i bx hm;exact⟨⟨j,hj,by simp only[Jv,List.map_cons,List.sum_cons];omega⟩,h4,h5⟩
    ·obtain⟨⟨j,hj,hjn⟩,h4,h5⟩:=G3 i bx hm;refine⟨⟨_,by rw[hj,Bh],?_⟩,h4,h5⟩
     simp only[Jv,List.map_cons,List.sum_cons] at hjn ⊢;omega
def Zw (N d:Nat)(bs:List (Nat × Bl)) (own β:Bt):Bt:=fun i=>if (bs.any fun q=>Nat.beq q.1 i)=true then own ((i-d) / N) else β i
theorem MI {bs:List (Nat × Bl)} {i:Nat}:(bs.any fun q=>Nat.beq q.1 i)=true↔∃bx,(i,bx)∈bs:=by
 rw[List.any_eq_true];constructor
 ·rintro⟨⟨j,bx⟩,hm,e⟩
  have:=Nat.eq_of_beq_eq_true e;subst this;exact⟨bx,hm⟩
 ·rintro⟨bx,hm⟩
  exact⟨_,hm,Nat.beq_refl i⟩
theorem WO {N d j:Nat}(hN:0<N){bs:List (Nat × Bl)} {own β:Bt}(h:∃bx,(d+N*j,bx)∈bs):Zw N d bs own β (d+N*j)=own j:=by
 unfold Zw;rw[if_pos (MI.2 h),Nat.add_sub_cancel_left,Nat.mul_div_cancel_left _ hN]
theorem OM {c:Call}{f:FuncId}(ho:o.op=.call c)(hc:c.callee=.value (.func f)) (Iy:NoNG P){fn:Func}(hf:P.funcs[f]?=some fn) (hb:fn.body.isSome=true):
  (execOp a.eval o).run P w=.ok (.enter f (c.args.map a.eval)) w:=by
 unfold execOp;rw[ho]
 have hn:¬fn.body=none:=by
  intro h;rw[h] at hb;cases hb
 have Ei:¬fn.name = "runtime.NumGoroutine" :=by simpa using Iy f fn hf
 simp[resolve,hc,Act.eval,Deferred.ofValue,invoke,callFunc,hf,Ei,hn]
theorem Aa8 {c:Call}{t:Nat}{f:FuncId}(ho:o.op=.call c)(hc:c.callee=.value (.tmp t)) (ht:a.eval (.tmp t)=.func (.func f) #[] #[]) (Iy:NoNG P){fn:Func}(hf:P.funcs[f]?=some fn) (hb:fn.body.isSome=true):
  (execOp a.eval o).run P w=.ok (.enter f (c.args.map a.eval)) w:=by
 unfold execOp;rw[ho]
 have hn:¬fn.body=none:=by
  intro h;rw[h] at hb;cases hb
 have Ei:¬fn.name = "runtime.NumGoroutine" :=by simpa using Iy f fn hf
 simp[resolve,hc,ht,Deferred.ofValue,invoke,callFunc,hf,Ei,hn]
theorem Yv {A':Nat->Prop}(k:Bool):∀{xs:List Operand}{ps:List PV},Bc (Nx w A') ps (xs.map a.eval)->Bc (Nx w A') (Hu k xs ps) (xs.map a.eval)
 |[],[],h=>h
 |[],_::_,h=>h
 |_::_,[],h=>h
 |x::xs,p::ps,h=>by
  simp only[List.map_cons] at h ⊢;refine⟨?_,Yv k h.2⟩;split
  ·exact⟨trivial,Au.lnil _ _⟩
  ·exact h.1
theorem BV (h : Cl N w0 X0 Y β s a w) {G : S2} (Iy : OE P G w0 X0) {C : F4} {call : Ax} (Dl : ∀ f args res, call f args = some res -> C4 G P f args res) {c : Call} {f : FuncId} (Ci : ∀ {fn : Func}, P.funcs[f]? = some fn -> fn.body.isSome = true -> (execOp a.eval o).run P w = .ok (.enter f (c.args.map a.eval)) w)
    {K : PV -> List Nat -> List (Nat × Bl) -> Option R}
    (hk : (DQ P (Hq s.hp) (BN P f c) (c.args.toList.map (Bz s.tm)) fun vs m =>
          Ah (call f (Hu (C.kz f) c.args.toList vs)) fun rv ro => Ad ro (Be (Nat.blt 0 N) <| Yp P (C.shr f) N (o.dst.getD 0) (K0 P o.type) rv fun ws bs =>
            Be (bif L7 P o.type then !Nat.beq ws.length 1 else Nat.beq ws.length 1) <| K (Ky ws (L7 P o.type)) (bif H3 P (K0 P o.type) then m else []) bs)) = some r) : ∃ v fz nw, K v fz nw = some r ∧ DT P a w o Y β s v fz nw := by
  obtain⟨ps, m, hk, hm, El⟩ := IV h hk
  replace El := fun fz h1 h2 => Yv (a := a) (C.kz f) (El fz h1 h2)
  generalize Hu (C.kz f) c.args.toList ps = ps at hk El
  obtain⟨rv, ro, Jg, hk⟩ := GW hk
  obtain⟨rfl, hk⟩ := Dc hk
  obtain⟨hN, hk⟩ := Al hk
  have hN : 0 < N := Nat.lt_of_succ_le (Nat.le_of_ble_eq_true hN)
  obtain⟨ws, bs, hk, hwl, UC, OG, hrs, WG, hws⟩ := Wd (C.shr f) N hk
  obtain⟨M4, hk⟩ := Al hk
  obtain⟨⟨fn, hfn, hfb⟩, AE⟩ := Dl f ps _ Jg
  obtain⟨fz, Xd, hfm⟩ : ∃ fz : List Nat, fz = (bif H3 P (K0 P o.type) then m else []) ∧ ∀ id ∈ fz, ∃ f c, s.hp id = some (.ar f c) := by
    refine⟨_, rfl, fun id Bh => ?_⟩
    cases hh : H3 P (K0 P o.type) <;> rw[hh] at Bh
    · cases Bh
    · exact hm id Bh
  rw[← Xd] at hk
  refine⟨_, _, _, hk, hfm, fun next Q hn => ?_⟩
  have hf := h.freeze hfm
  have hYc : ∃ Yc : Nat -> Prop, (∀ b, Yc b -> b < w.heap.size) ∧ Bc (Nx w Yc) ps (c.args.toList.map a.eval) ∧ ((∀ b, Cw (Af s.hp fz) β Y b -> Yc b) ∨ H3 P (K0 P o.type) = false) := by
    have Lt := El m (fun _ hi => hi) hm
    cases hh : H3 P (K0 P o.type)
    · exact⟨fun _ => False, fun _ x => x.elim, Lt.mono fun _ _ hx => hx.weaken (fun _ _ x => x.elim), .inr rfl⟩
    · rw[hh] at Xd
      have Xd : fz = m := Xd
      subst Xd
      refine⟨Cw (Af s.hp fz) β Y, fun b hb => ?_, Lt, .inl fun _ x => x⟩
      rcases hb with⟨id, ob, hl, hβ⟩ | hY
      · exact hf.blt id b ob (Co hl) hβ
      · exact Nat.lt_of_lt_of_le (h.Ylt b hY) h.fr.step.size
  obtain⟨Yc, Ay9, hYargs, hYA⟩ := hYc
  unfold Oper.wp
  rw[Ci hfn hfb]
  show Calls P f _ w _
  have hca : c.args.map a.eval = (c.args.toList.map a.eval).toArray := by rw[← List.map_toArray, Array.toArray_toList]
  rw[hca]
  refine (AE w Yc QA _ (OB Ay9 hYargs) (Iy.fr w h.fr) (fun b x => ⟨Nat.lt_of_lt_of_le (Iy.y b x).1 h.fr.step.size, Nt b⟩)).mono ?_
  rintro e w' ⟨vs, own, rfl, S4⟩
  refine hn (Gv vs) w' fun Mq => ⟨Zw N (o.dst.getD 0) bs own β, ?_⟩
  obtain⟨ha1, Il⟩ := Bi Mq
  have Ad2 : ∀ i bx, (i, bx) ∈ bs -> Af s.hp fz i = none := fun i bx hm => Du.2 (ha1 i bx hm)
  obtain⟨hg1, hg2⟩ := D2 (hp := Af s.hp fz) Il
  have hold : ∀ i, Af s.hp fz i ≠ none -> Zw N (o.dst.getD 0) bs own β i = β i := by
    intro i hi
    unfold Zw
    rw[if_neg]
    intro hx
    obtain⟨bx, hm⟩ := MI.1 hx
    exact hi (Ad2 i bx hm)
  obtain⟨O9, hba⟩ := hws w' _ own (Zw N (o.dst.getD 0) bs own β) w.heap.size 0 vs (fun j hj => by rw[WO hN hj, Nat.zero_add]) S4.vals
  have Sz : ∀ i bx, (i, bx) ∈ bs -> ∃ j, i = o.dst.getD 0 + N * j ∧ Zw N (o.dst.getD 0) bs own β i = own j := by
    intro i bx hm
    obtain⟨⟨j, rfl, _⟩, _, _⟩ := hba i bx hm
    exact⟨j, rfl, WO hN ⟨bx, hm⟩⟩
  have hAA : H3 P (K0 P o.type) = false ∨ ∀ b, Cw (Ap (Af s.hp fz) bs) (Zw N (o.dst.getD 0) bs own β) Y b -> CM QA own Yc b := by
    rcases hYA with hYA | hYA
    · refine .inr fun b hb => ?_
      rcases hb with⟨i, ob, hl, hβ⟩ | hY
      · by_cases hi : ∃ bx, (i, bx) ∈ bs
        · obtain⟨bx, hm⟩ := hi
          obtain⟨j, _, h3⟩ := Sz i bx hm
          rw[h3] at hβ
          exact .inl ⟨j, ob, hβ⟩
        · rw[hg2 i (fun bx hm => hi ⟨bx, hm⟩)] at hl
          rw[hold i (Co hl)] at hβ
          exact .inr (.inr (hYA b (.inl ⟨i, ob, hl, hβ⟩)))
      · exact .inr (.inr (hYA b (.inr hY)))
    · exact .inl hYA
  have hval : D5 w' (Cw (Ap (Af s.hp fz) bs) (Zw N (o.dst.getD 0) bs own β) Y) (Zw N (o.dst.getD 0) bs own β) (Ky ws (L7 P o.type)) (Gv vs) := by
    have Lt : Bc (Gt w' (Cw (Ap (Af s.hp fz) bs) (Zw N (o.dst.getD 0) bs own β) Y) (Zw N (o.dst.getD 0) bs own β)) ws vs := by
      rcases hAA with LT | hAA
      · obtain⟨_, SC⟩ := OG LT
        refine O9.mono_mem fun v hv u hvu => ?_
        have SC := SC v hv
        cases v with
        | agg cs =>
          obtain⟨xs, rfl, FC⟩ := hvu
          refine⟨xs, rfl, FC.mono_mem fun cc YN x hx => ?_⟩
          obtain⟨y, rfl⟩ := SC cc YN
          have := Au.val (w := w') hx
          subst this
          exact Au.sc _
        | sc y =>
          have := Au.val (w := w') hvu
          subst this
          exact Au.sc _
        | lst z es n cc => obtain⟨y, hy⟩ := SC _ (List.mem_singleton_self _); cases hy
        | own es n cc => obtain⟨y, hy⟩ := SC _ (List.mem_singleton_self _); cases hy
        | view i es n cc => obtain⟨y, hy⟩ := SC _ (List.mem_singleton_self _); cases hy
        | ptr i cc => obtain⟨y, hy⟩ := SC _ (List.mem_singleton_self _); cases hy
        | iptr i cc => obtain⟨y, hy⟩ := SC _ (List.mem_singleton_self _); cases hy
        | pbox cc => obtain⟨y, hy⟩ := SC _ (List.mem_singleton_self _); cases hy
        | tup cc => obtain⟨y, hy⟩ := SC _ (List.mem_singleton_self _); cases hy
        | top => obtain⟨y, hy⟩ := SC _ (List.mem_singleton_self _); cases hy
        | ub => obtain⟨y, hy⟩ := SC _ (List.mem_singleton_self _); cases hy
      · exact O9.mono fun v u hvu => hvu.step (B6.refl _ _) (fun b _ => hAA b) (fun _ _ => rfl)
    have Dj := Lt.len
    cases hT : L7 P o.type
    · rw[hT] at M4
      have h1 : ws.length = 1 := Nat.eq_of_beq_eq_true M4
      match ws, vs, h1, Dj with
      | [v], [u], _, _ =>
        exact (Mc (UC v (by simp))).2 Lt.1
    · rw[hT] at M4
      have h1 : ¬ ws.length = 1 := by
        intro e
        rw[e] at M4
        cases M4
      have hr : Gv vs = .tuple ⟨vs⟩ := by
        unfold Gv
        split
        · simp at Dj; omega
        · rfl
      rw[hr]
      exact⟨vs, rfl, Lt⟩
  refine⟨S4.os, S4.tape, S4.output, S4.ext.weaken (fun b _ hb => Nt b hb), hold, ?_, ?_, ?_, ?_, ?_, hval, ?_⟩
  · intro i bx hm
    exact (hba i bx hm).2.1
  · intro i bx hm
    rcases hAA with LT | hAA
    · rw[(OG LT).1] at hm; cases hm
    · exact (hba i bx hm).2.2.1.step' hAA
  · intro i bx b ob hm hβ
    obtain⟨j, _, h3⟩ := Sz i bx hm
    rw[h3] at hβ
    obtain⟨h4, h5⟩ := S4.fresh j b ob hβ
    refine⟨?_, h4⟩
    rcases Nat.lt_or_ge b w.heap.size with h | h
    · obtain⟨⟨_, _, _, h6⟩, _⟩ := h5 h
      cases h6
    · exact h
  · intro i bx i' bx' b ob ob' hm Ia hβ hβ'
    obtain⟨j, h1, h3⟩ := Sz i bx hm
    obtain⟨j', LI, h3'⟩ := Sz i' bx' Ia
    rw[h3] at hβ
    rw[h3'] at hβ'
    rw[h1, LI, S4.inj j j' b ob ob' hβ hβ']
  · intro i cells hm c hc i' RP
    exact .inr (WG i cells hm c hc i' RP)
  · intro i hi
    right
    cases hT : L7 P o.type
    · rw[hT] at M4 hi
      have h1 : ws.length = 1 := Nat.eq_of_beq_eq_true M4
      match ws, h1 with
      | [v], _ =>
        refine hrs v (by simp) i ?_
        have : Br v = B8 v := by
          have hn := UC v (by simp)
          cases v <;> first | rfl | exact absurd rfl (hn _)
        rw[← this]
        exact hi
    · rw[hT] at hi
      obtain⟨v, hv, hi⟩ := List.mem_flatMap.1 (show i ∈ ws.flatMap B8 from hi)
      exact hrs v hv i hi
end
open Go.RowKit
section
variable {R:Type} {r:R} {P:Program} {N:Nat} {w0:World} {X0:Gu} {Y:Nat->Prop} {β β':Bt} {s:St} {a:Act} {w w':World} {o:Oper} {A:Nat->Prop}
theorem Cl.move (h:Cl N w0 X0 Y β s a w){id d:Nat}{c cells:List PV}{bo:Option (Nat × Nat)} {v:PV}{val:Value}(h0:s.hp id=some (.ar false c)) (hd:s.hp d=none)(hdN:d<N)
  (hos:w'.os=w.os)(htp:w'.tape=w.tape)(S4:w'.output=w.output)(QP:w.heap.size<=w'.heap.size)
  (Jj:∀k,k<w.heap.size->(∀x,β id≠some (k,x))->w'.heap[k]?=w.heap[k]?) (FQ:∀k,k<w.heap.size->Gf w w' k)
  (KK:∀k x,bo=some (k,x)->k<w'.heap.size∧(w.heap.size<=k∨∃y,β id=some (k,y)))
  (MM:∀k x,bo=some (k,x)->k<w.heap.size->β id=some (k,x))
  (hO:∀k y,β id=some (k,y)->k<w.heap.size->∀j,j<y->w'.cell? ⟨k,j,none⟩=w.cell? ⟨k,j,none⟩∧w'.frozen? ⟨k,j,none⟩=w.frozen? ⟨k,j,none⟩)
  (Jl:Ol w' (Cw (Ch (Ch s.hp id (some .mv)) d (some (.ar false cells))) (Ch β d bo) Y) (Ch β d bo) d (.ar false cells))
  (hv:D5 w' (Cw (Ch (Ch s.hp id (some .mv)) d (some (.ar false cells))) (Ch β d bo) Y) (Ch β d bo) v val) (hr:∀i∈Br v,i=d):
  Cl N w0 X0 Y (Ch β d bo) ⟨Ch s.tm d v,Ch (Ch s.hp id (some .mv)) d (some (.ar false cells))⟩ (a.put (some d) val) w':=by
 have Ei:id≠d:=by rintro rfl;rw[h0] at hd;cases hd
 have RB:∀i,i≠id->i≠d->Ch (Ch s.hp id (some Bl.mv)) d (some (.ar false cells)) i=s.hp i:=fun i h1 h2=>by rw[Ai _ _ h2,Ai _ _ h1]
 have Ajd:Ch (Ch s.hp id (some Bl.mv)) d (some (.ar false cells)) id=some .mv:=by rw[Ai _ _ Ei,Am]
 have hgd:Ch (Ch s.hp id (some Bl.mv)) d (some (.ar false cells)) d=some (.ar false cells):=Am _ _ _
 have Q3:∀i,s.hp i≠none->Ch (Ch s.hp id (some Bl.mv)) d (some (.ar false cells)) i≠none:=by
  intro i hi;by_cases e:i=id
  ·subst e;rw[Ajd];simp
  ·by_cases e':i=d
   ·subst e';rw[hgd];simp
   ·rw[RB i e e'];exact hi
 have hβo:∀i,s.hp i≠none->Ch β d bo i=β i:=fun i hi=>Ai _ _ (by rintro rfl;exact hi hd)
 have RJ:Cy (s.hp id):=by rw[h0];trivial
 have Ft:∀i,Cy (Ch (Ch s.hp id (some Bl.mv)) d (some (.ar false cells)) i)->i=d∨(i≠id∧i≠d∧Cy (s.hp i)):=by
  intro i hi;by_cases e':i=d
  ·exact .inl e'
  ·by_cases e:i=id
   ·subst e;rw[Ajd] at hi;exact hi.elim
   ·rw[RB i e e'] at hi;exact .inr ⟨e,e',hi⟩
 have hX:∀k,k<w.heap.size->KJ (Ch (Ch s.hp id (some .mv)) d (some (.ar false cells))) (Ch β d bo) k->KJ s.hp β k:=by
  rintro k hk ⟨i,x,hl,hβ⟩
  rcases Ft i hl with rfl|⟨e,e',hl⟩
  ·rw[Am] at hβ;rcases (KK k x hβ).2 with Jm|⟨y,hy⟩
   ·omega
   ·exact⟨id,y,RJ,hy⟩
  ·rw[Ai _ _ e'] at hβ;exact⟨i,x,hl,hβ⟩
 have hAo:∀k,k<w.heap.size->Cw (Ch (Ch s.hp id (some .mv)) d (some (.ar false cells))) (Ch β d bo) Y k->Cw s.hp β Y k:=fun k hk hx=>hx.imp (hX k hk) (fun y=>y)
 have Fh:B6 (Cw s.hp β Y) w w':=⟨QP,fun k hk hn=>Jj k hk fun x hx=>hn (.inl ⟨id,x,RJ,hx⟩),FQ⟩
 have Aef:∀i k x,i≠id->i≠d->(∃b,s.hp i=some b∧b ≠ .mv)->β i=some (k,x)->k<w.heap.size∧w'.heap[k]?=w.heap[k]?:=by
  rintro i k x e e' ⟨b,hb,hmv⟩ hβ
  have hk:=h.blt i k x (by rw[hb];simp) hβ
  refine⟨hk,Jj k hk fun y hy=>?_⟩
  have Abc:=h.box i b hb;cases b with
  |st cc=>exact e (h.inj i id k x y (by rw[hb];trivial) RJ hβ hy)
  |ar fz cc=>
   cases fz with
   |false=>exact e (h.inj i id k x y (by rw[hb];trivial) RJ hβ hy)
   |true=>
    rcases Abc with⟨h1,_⟩|⟨k',x',h1,_,_,h4⟩
    ·rw[hβ] at h1;cases h1
    ·rw[hβ] at h1;simp at h1;obtain⟨rfl,rfl⟩:=h1
     exact h4 rfl (.inl ⟨id,y,RJ,hy⟩)
  |mv=>exact absurd rfl hmv
 refine⟨by rw[Od];exact h.dfr,by rw[Vt];exact h.tsz,?_,?_,?_,?_,?_,?_,?_,?_,?_,?_,?_,?_,h.Ylt,?_⟩
 ·intro i hi;show Ch s.tm d v i=_;rw[Ai _ _ (by omega)]
  exact h.tmo i hi
 ·refine Mb (d:=some d) (Q:=fun _ p u=>D5 w' (Cw (Ch (Ch s.hp id (some .mv)) d (some (.ar false cells))) (Ch β d bo) Y) (Ch β d bo) p u) h.tsz (by simp[Fk,Nat.blt];omega) (fun i hi=>?_) (fun _=>hv)
  exact (h.tms i hi).step Fh hAo fun j hj=>hβo j (h.wfT i hi j hj)
 ·intro i bi hb;simp only at hb;by_cases e':i=d
  ·subst e';rw[hgd] at hb;cases hb;exact Jl
  ·by_cases e:i=id
   ·subst e;rw[Ajd] at hb;cases hb;trivial
   ·rw[RB i e e'] at hb;have hβi:=hβo i (by rw[hb];simp)
    have Zo:=h.box i bi hb;cases bi with
    |st cc=>
     obtain⟨k,x,h1,h2,h3⟩:=Zo;obtain⟨hk,Oj⟩:=Aef i k x e e' ⟨_,hb,by simp⟩ h1
     refine⟨k,x,by rw[hβi];exact h1,fun j p hj=>?_,fun j hj=>?_⟩
     ·obtain⟨u,hu,hc⟩:=h2 j p hj;exact⟨u,by rw[World.cell?_of_block (w:=w) Oj];exact hu,hc.step Fh hAo fun q hq=>hβo q (h.wfB i cc hb p (List.mem_of_getElem? hj) q hq)⟩
     ·rw[World.frozen?_of_block (w:=w) Oj];exact h3 j hj
    |ar fz cc=>
     rcases Zo with⟨h1,h2⟩|⟨k,x,h1,h2,h3,h4⟩
     ·exact .inl ⟨by rw[hβi];exact h1,h2⟩
     ·obtain⟨hk,Oj⟩:=Aef i k x e e' ⟨_,hb,by simp⟩ h1
      refine .inr ⟨k,x,by rw[hβi];exact h1,fun j p hj=>?_,fun ef j hj Pc=>?_,fun ef hx=>h4 ef (hAo k hk hx)⟩
      ·obtain⟨u,hu,h5,hc⟩:=h2 j p hj;exact⟨u,by rw[World.cell?_of_block (w:=w) (by rw[Eg];exact Oj)];exact hu,h5,hc.step Fh hAo⟩
      ·rw[World.frozen?_of_block (w:=w) Oj];refine h3 ef j hj ?_;unfold bsz at Pc ⊢;rw[Oj] at Pc;exact Pc
    |mv=>trivial
 ·intro i i' k x y hl Ib hb Gy;simp only at hl Ib
  have key:∀j z,j≠id->j≠d->Cy (s.hp j)->β j=some (k,z)->bo=some (k,y)∨bo=some (k,x)->False:=by
   intro j z e e' hlj hβj hbk;have hk:=h.blt j k z (Co hlj) hβj;have:∃t,bo=some (k,t):=by rcases hbk with q|q<;>exact⟨_,q⟩
   obtain⟨t,ht⟩:=this;rcases (KK k t ht).2 with Jm|⟨q,hq⟩
   ·omega
   ·exact e (h.inj j id k z q hlj RJ hβj hq)
  rcases Ft i hl with rfl|⟨e,e',hl0⟩
  ·rcases Ft i' Ib with rfl|⟨e2,e2',Anz⟩
   ·rfl
   ·rw[Am] at hb;rw[Ai _ _ e2'] at Gy;exact (key i' y e2 e2' Anz Gy (.inr hb)).elim
  ·rcases Ft i' Ib with rfl|⟨e2,e2',Anz⟩
   ·rw[Am] at Gy;rw[Ai _ _ e'] at hb;exact (key i x e e' hl0 hb (.inl Gy)).elim
   ·rw[Ai _ _ e'] at hb;rw[Ai _ _ e2'] at Gy;exact h.inj i i' k x y hl0 Anz hb Gy
 ·intro i k x hi hb;simp only at hi;by_cases e':i=d
  ·subst e';rw[Am] at hb;exact (KK k x hb).1
  ·rw[Ai _ _ e'] at hb
   have RP:s.hp i≠none:=by
    by_cases e:i=id
    ·subst e;rw[h0];simp
    ·rw[RB i e e'] at hi;exact hi
   exact Nat.lt_of_lt_of_le (h.blt i k x RP hb) QP
 ·have:=Mb (d:=some d) (Q:=fun _ p _=>∀j∈Br p,Ch (Ch s.hp id (some Bl.mv)) d (some (.ar false cells)) j≠none) (val:=val) (v:=v) h.tsz (by simp[Fk,Nat.blt];omega) (fun i hi j hj=>Q3 j (h.wfT i hi j hj)) (fun _ j hj=>by
   rw[hr j hj,hgd];simp)
  exact this
 ·intro i cc hc p hp j hj;simp only at hc;by_cases e':i=d
  ·subst e';rw[hgd] at hc;cases hc
  ·by_cases e:i=id
   ·subst e;rw[Ajd] at hc;cases hc
   ·rw[RB i e e'] at hc;exact Q3 j (h.wfB i cc hc p hp j hj)
 ·rintro k ⟨i,x,hl,hβ⟩
  rcases Ft i hl with rfl|⟨e,e',hl⟩
  ·rw[Am] at hβ;rcases (KK k x hβ).2 with Jm|⟨y,hy⟩
   ·exact .inr (Nat.le_trans h.fr.step.size Jm)
   ·exact h.ownd k ⟨id,y,RJ,hy⟩
  ·rw[Ai _ _ e'] at hβ;exact h.ownd k ⟨i,x,hl,hβ⟩
 ·intro i bi k x Zo hli hβ B5 j hj;simp only at Zo;rcases Ft i (by rw[Zo];exact hli) with rfl|⟨e,e',hl⟩
  ·rw[Am] at hβ;rw[hgd] at Zo;cases Zo;have:=MM k x hβ (Nat.lt_of_lt_of_le B5 h.fr.step.size);exact h.rngB id (.ar false c) k x h0 trivial this B5 j hj
  ·rw[RB i e e'] at Zo;rw[Ai _ _ e'] at hβ;exact h.rngB i bi k x Zo hli hβ B5 j hj
 ·intro i hi;exact⟨Q3 _ (h.pin i hi).1,by rw[hβo _ (h.pin i hi).1];exact (h.pin i hi).2⟩
 ·intro i cc k x Zo hβ B5;simp only at Zo;rcases Ft i (by rw[Zo];trivial) with rfl|⟨e,e',hl⟩
  ·rw[hgd] at Zo;cases Zo
  ·rw[RB i e e'] at Zo;rw[Ai _ _ e'] at hβ;exact h.stp i cc k x Zo hβ B5
 ·intro k hY hx;exact h.Yx k hY (hX k (Nat.lt_of_lt_of_le (h.Ylt k hY) h.fr.step.size) hx)
 ·refine⟨hos.trans h.fr.os,htp.trans h.fr.tape,S4.trans h.fr.output,⟨Nat.le_trans h.fr.step.size QP,fun k hk hnk=>?_,fun k hk=>(h.fr.step.bs k hk).trans (FQ k (Nat.lt_of_lt_of_le hk h.fr.step.size))⟩,fun k j hk hL=>?_⟩
  ·rw[Jj k (Nat.lt_of_lt_of_le hk h.fr.step.size) ?_]
   ·exact h.fr.step.keep k hk hnk
   ·intro x hx;rcases h.ownd k ⟨id,x,RJ,hx⟩ with hq|hq
    ·exact hnk hq
    ·omega
  ·have hkw:=Nat.lt_of_lt_of_le hk h.fr.step.size
   have Yl:w'.cell? ⟨k,j,none⟩=w.cell? ⟨k,j,none⟩∧w'.frozen? ⟨k,j,none⟩=w.frozen? ⟨k,j,none⟩:=by
    by_cases e:∃y,β id=some (k,y)
    ·obtain⟨y,hy⟩:=e;refine hO k y hy hkw j ?_;rcases Nat.lt_or_ge j y with q|q
     ·exact q
     ·exact absurd (h.rngB id (.ar false c) k y h0 trivial hy hk j q) hL
    ·have Oj:=Jj k hkw (fun x hx=>e ⟨x,hx⟩)
     exact⟨World.cell?_of_block (w:=w) Oj,World.frozen?_of_block (w:=w) Oj⟩
   rw[Yl.1,Yl.2];exact h.fr.rng k j hk hL
end
open Go.RowKit
section
variable {R:Type} {r:R} {P:Program} {N:Nat} {w0:World} {X0:Gu} {Y:Nat->Prop} {β β':Bt} {s:St} {a:Act} {w w':World} {o:Oper} {A:Nat->Prop}
structure Src (P:Program) (w:World) (A:Nat->Prop) (size:Nat) (xv:Value) (m:Nat) (new:List PV) (news:List Value):Prop where
 len:∀w':World,(Builtin.lenOf xv).run P w'=.ok m w'
 cells:∀w':World,(∀b,b<w.heap.size->w'.heap[b]?=w.heap[b]?)->(Builtin.firstCells size m xv).run P w'=.ok news.toArray w'
 part:∀k,k<=m->(Builtin.firstCells size k xv).run P w=.ok (news.take (k*size)).toArray w
 one:∀u∈news,u.oneCell'=true
 rep:Bc (Au w A) new news
theorem DB (h:Cl N w0 X0 Y β s a w){e tx:TypeId}{x:Operand}{K:Nat->List PV->Option R}(hk:SE P s (A8 P e) tx (Bz s.tm x) K=some r)
  (h1c:∀m new,K m new=some r->new.length=m*A8 P e):
  (∃d,P.underlying tx=some d∧(∀k,d ≠ .int k))∧∃m new news,K m new=some r∧Src P w (Cw s.hp β Y) (A8 P e) (a.eval x) m new news:=by
 unfold SE VA at hk;split at hk
 ·rename_i hu;obtain⟨R5,hk⟩:=Al hk;have R5:=Nat.eq_of_beq_eq_true R5;obtain⟨b,hx,hk⟩:=Dd hk;have Cz:=B3 h hx;refine⟨⟨_,hu,by simp⟩,b.size,Nu b,b.data.toList.map (fun y=>Value.int .u8 y.toNat),hk,?_,?_,?_,?_,?_⟩
  ·intro w';rw[Cz];rfl
  ·intro w' _;rw[Cz]
   have hx:b.data.extract 0 b.size=b.data:=by
    have:b.size=b.data.size:=rfl;rw[this,Array.extract_size]
   have hd:(b.extract 0 b.size).data=b.data:=by
    rw[ByteArray.extract_zero_size]
   simp only[Builtin.firstCells,hd];rw[←Array.toList_map,Array.toArray_toList];rfl
  ·intro k Jm;rw[Cz,R5,Nat.mul_one];have hd:(b.extract 0 k).data=b.data.extract 0 k:=ByteArray.data_extract
   have e1:(b.data.extract 0 k).map (fun y=>Value.int .u8 y.toNat)=((b.data.toList.map fun y=>Value.int .u8 y.toNat).take k).toArray:=by
    apply Array.toList_inj.1;simp[List.map_take]
   simp only[Builtin.firstCells,hd];rw[e1];rfl
  ·intro u hu;simp at hu;obtain⟨y,_,rfl⟩:=hu;rfl
  ·unfold Nu;generalize b.data.toList=l
   induction l with
   |nil=>trivial
   |cons y l ih=>exact⟨Au.sc _,ih⟩
 ·rename_i e' hu;refine⟨⟨_,hu,by simp⟩,?_⟩
  obtain⟨m,new,hk,hc⟩:=DZ h hk;have Dj:=h1c m new hk;rcases hc with⟨⟨ad,Cz⟩,rfl,rfl⟩|⟨ad,cap,Cz,hn,B5,hrd⟩
  ·have f0:∀w':World,(Builtin.firstCells (A8 P e) 0 (.slice ad 0 0)).run P w'=.ok #[] w':=fun w'=>by
    cases ad with
    |none=>rfl
    |some p=>exact run_firstCells_some (P:=P) w' (A8 P e) 0 p 0 0 [] (by simp) (fun j v hj=>by simp at hj)
   exact⟨0,[],[],hk,fun w'=>by rw[Cz];rfl,fun w' _=>by rw[Cz];exact f0 w',fun k Jm=>by rw[Cz,Nat.le_zero.1 Jm,List.take_nil];exact f0 w,by simp,trivial⟩
  ·refine⟨m,new,new.mapIdx (fun j _=>(w.cell? (ad.add j)).getD undef),hk,fun w'=>by rw[Cz];rfl,fun w' hw=>?_,fun k Jm=>?_,?_,?_⟩
   ·rw[Cz];refine run_firstCells_some (P:=P) w' (A8 P e) m ad m cap _ (by simp[Dj]) fun j v hj=>?_
    rw[List.getElem?_mapIdx] at hj;cases hc:new[j]? with
    |none=>rw[hc] at hj;cases hj
    |some c=>
     rw[hc] at hj;simp at hj;obtain⟨u,hu,_⟩:=hrd j c hc;rw[hu] at hj;simp at hj;subst hj;have B5:ad.block<w.heap.size:=by rcases B5 with rfl|B5<;>first|exact B5|simp at hc
     rw[World.cell?_of_block (w:=w) (by rw[Eg];exact hw _ B5)]
     exact hu
   ·rw[Cz];have hkm:k*A8 P e<=m*A8 P e:=Nat.mul_le_mul_right _ Jm;refine run_firstCells_some (P:=P) w (A8 P e) k ad m cap _ (by rw[List.length_take,List.length_mapIdx,Dj];omega) fun j v hj=>?_
    rw[List.getElem?_take] at hj;split at hj
    ·rw[List.getElem?_mapIdx] at hj;cases hc:new[j]? with
     |none=>rw[hc] at hj;cases hj
     |some c=>
      rw[hc] at hj;simp at hj;obtain⟨u,hu,_⟩:=hrd j c hc;rw[hu] at hj;simp at hj;subst hj;exact hu
    ·cases hj
   ·intro u hu;obtain⟨j,hj⟩:=List.mem_iff_getElem?.1 hu;rw[List.getElem?_mapIdx] at hj;cases hc:new[j]? with
    |none=>rw[hc] at hj;cases hj
    |some c=>
     rw[hc] at hj;simp at hj;obtain⟨v,hv,h2,ht⟩:=hrd j c hc;rw[hv] at hj;simp at hj;subst hj;exact h2
   ·refine Bc.of_at (by simp) fun j c v hc hj=>?_
    rw[List.getElem?_mapIdx,hc] at hj;simp at hj;obtain⟨u,hu,_,ht⟩:=hrd j c hc;rw[hu] at hj;simp at hj;subst hj;exact ht
 ·cases hk
theorem DX {e:TypeId}(h:KH P e=true):∃i z,P.info? e=some i∧i.zero=some z∧z.cells.size=i.size∧A8 P e=i.size:=by
 unfold KH at h;split at h
 ·rename_i i hi;split at h
  ·rename_i z hz;exact⟨i,z,hi,hz,Nat.eq_of_beq_eq_true h,by simp[A8,hi]⟩
  ·cases h
 ·cases h
theorem Zt {es n cap:Nat}{ad:Option Addr}{olds:List Value}(h:(ad=none∧olds=[])∨∃p,ad=some p∧olds.length=n*es∧∀(j:Nat) v,olds[j]?=some v->w.cell? (p.add j)=some v):
  (Builtin.firstCells es n (.slice ad n cap)).run P w=.ok olds.toArray w:=by
 rcases h with⟨rfl,rfl⟩|⟨p,rfl,hl,hc⟩
 ·rfl
 ·exact run_firstCells_some (P:=P) w es n p n cap olds hl hc
theorem Ju {t tx ty e:TypeId}{i:TypeInfo}{z:Value}{d:TypeDesc}{ts:List TypeId}(ht:P.underlying t=some (.slice e)) (htx:P.underlying tx=some d)(hd:∀k,d ≠ .int k)(hi:P.info? e=some i)(hz:i.zero=some z)
  {ad:Option Addr} {n cap m:Nat} {xv:Value} {olds news:List Value} {A:Nat->Prop} {new:List PV} (hs:Src P w A i.size xv m new news)
  (hold:(ad=none∧olds=[])∨∃p,ad=some p∧olds.length=n*i.size∧∀(j:Nat) v,olds[j]?=some v->w.cell? (p.add j)=some v)
  (hg:cap<n+m)(hb:(n+m)*i.bytes<=1099511627776) (h63:n+m<=1099511627776):
  (Builtin.append_ (t::tx::ts).toArray ty #[.slice ad n cap,xv]).run P w =
   .ok (.slice (some ⟨w.heap.size,0,none⟩) (n+m) (grownCap w (n+m) cap e)) (w.drew.alloc (.cells (olds.toArray++news.toArray++Builtin.zeroCells z.cells (grownCap w (n+m) cap e-(n+m))) e)):=by
 have h1:=hs.len w;have h2:(Builtin.firstCells i.size m xv).run P w.drew=.ok news.toArray w.drew:=hs.cells w.drew (fun _ _=>rfl)
 have h3:(Builtin.firstCells i.size n (.slice ad n cap)).run P w.drew=.ok olds.toArray w.drew:=Zt (w:=w.drew) (by
  rcases hold with hh|⟨p,hp,hl,hc⟩
  ·exact .inl hh
  ·exact .inr ⟨p,hp,hl,fun j v hj=>hc j v hj⟩)
 have Atb:=growslice_fits (need:=n+m) (old:=cap) (bytes:=i.bytes) hg (by omega)
 have hn:¬(n+m<=cap):=by omega
 have Aii:¬(9223372036854775807<((n:Int)+(m:Int))):=by omega
 have Ahq:¬(281474976710656<Builtin.nextslicecap (n+m) cap*i.bytes):=by omega
 have AZ:(match d with | .int _=>true|_=>false)=false:=by cases d<;>first|rfl|exact absurd rfl (hd _)
 simp[Builtin.append_,run_underlying ht,run_underlying htx,AZ,sizeOf,typeInfo,zeroValue,hi,hz,h1,hn,Aii,Ahq,Question.forced,h2,h3,newRow,grownCap]
 congr 2
 apply Array.ext';simp[List.append_assoc]
theorem Z0 {t tx ty e:TypeId}{i:TypeInfo}{d:TypeDesc}{ts:List TypeId}(ht:P.underlying t=some (.slice e)) (htx:P.underlying tx=some d)(hd:∀k,d ≠ .int k)(hi:P.info? e=some i)
  {b ob n cap m:Nat} {xv:Value} {news:List Value} {A:Nat->Prop} {new:List PV} (hs:Src P w A i.size xv m new news) (hl:news.length=m*i.size)
  (Cp:∀k,k<news.length->(w.cell? ⟨b,ob+n*i.size+k,none⟩).isSome=true) (hfr:∀k,k<news.length->w.frozen? ⟨b,ob+n*i.size+k,none⟩=false)(hg:n+m<=cap):
  (Builtin.append_ (t::tx::ts).toArray ty #[.slice (some ⟨b,ob,none⟩) n cap,xv]).run P w=.ok (.slice (some ⟨b,ob,none⟩) (n+m) cap) (w.setCells b (ob+n*i.size) news):=by
 have h1:=hs.len w;have h2:(Builtin.firstCells i.size m xv).run P w=.ok news.toArray w:=hs.cells w (fun _ _=>rfl)
 have h3:=run_storeCells_cells (P:=P) b (ob+n*i.size) news 0 w (fun k hk=>by simpa using Cp k hk) (fun k hk=>by simpa using hfr k hk) hs.one
 have AZ:(match d with | .int _=>true|_=>false)=false:=by cases d<;>first|rfl|exact absurd rfl (hd _)
 have _:=hl;simp[Builtin.append_,run_underlying ht,run_underlying htx,AZ,sizeOf,typeInfo,hi,h1,hg,h2,Eb];rw[h3];simp
theorem PZ {t ty e:TypeId}{i:TypeInfo}{ts:List TypeId}(ht:P.underlying t=some (.slice e)) (hi:P.info? e=some i)
  {ad:Option Addr} {n cap m:Nat} {xv:Value} {news:List Value} {A:Nat->Prop} {new:List PV} (hs:Src P w A i.size xv m new news)
  {w1:World} (Fh:(match ad with|some p=>storeCells p (news.take (min m n*i.size)) 0|none=>pure ()).run P w=.ok () w1):
  (Builtin.copy_ (t::ts).toArray ty #[.slice ad n cap,xv]).run P w=.ok (goInt ((min m n:Nat):Int)) w1:=by
 have h1:=hs.len w;have h2:=hs.part (min m n) (Nat.min_le_left _ _);have e:Nat.min m n=min m n:=rfl;generalize min m n=k at *
 cases ad with
 |none=>
  simp only at Fh;simp[Builtin.copy_,run_underlying ht,sizeOf,typeInfo,hi,h1,h2,e]
  simpa using Fh
 |some p=>
  simp only at Fh;simp[Builtin.copy_,run_underlying ht,sizeOf,typeInfo,hi,h1,h2,e,Fh]
theorem Xq {t tx ty e:TypeId}{i:TypeInfo}{k kx:IntKind}{ts:List TypeId}(ht:P.underlying t=some (.slice e)) (htx:P.underlying tx=some (.int k)) (hi:P.info? e=some i):
  (Builtin.append_ (t::tx::ts).toArray ty #[.slice none 0 0,.int kx 0]).run P w=.ok (.slice none 0 0) w:=by
 have hw:IntKind.i64.wrap 0=0:=by decide
 simp[Builtin.append_,run_underlying ht,run_underlying htx,sizeOf,typeInfo,hi,asInt,asIntOf,hw]
theorem Zi {t tx ty e:TypeId}{i:TypeInfo}{z:Value}{k kx:IntKind}{ts:List TypeId}(ht:P.underlying t=some (.slice e)) (htx:P.underlying tx=some (.int k)) (hi:P.info? e=some i)(hz:i.zero=some z)
  {n:Int} (h0:0<n) (hb:n.toNat*i.bytes<=1099511627776) (hn:n<=1099511627776):
  (Builtin.append_ (t::tx::ts).toArray ty #[.slice none 0 0,.int kx n]).run P w =
   .ok (.slice (some ⟨w.heap.size,0,none⟩) n.toNat (grownCap w n.toNat 0 e)) (w.drew.alloc (.cells ((if n.toNat*i.size=0 then #[] else Builtin.zeroCells z.cells n.toNat)++Builtin.zeroCells z.cells (grownCap w n.toNat 0 e-n.toNat)) e)):=by
 have hw:IntKind.i64.wrap n=n:=IntWalk.i64_in n (by omega)
 have Atb:=growslice_fits (need:=n.toNat) (old:=0) (bytes:=i.bytes) (by omega) (by omega)
 have V8:¬n<0:=by omega
 have Q3:¬(281474976710656<n*(i.bytes:Int)):=by
  have:n*(i.bytes:Int)=((n.toNat*i.bytes:Nat):Int):=by
   rw[Int.natCast_mul,Int.toNat_of_nonneg (by omega)]
  omega
 have F8:¬(n.toNat=0):=by omega
 have Aii:¬(9223372036854775807<(n.toNat:Int)):=by omega
 have Ahq:¬(281474976710656<Builtin.nextslicecap n.toNat 0*i.bytes):=by omega
 have Y6:¬n<=0:=by omega
 have hmx:¬(9223372036854775807<max n 0):=by omega
 by_cases hs:n.toNat*i.size=0
 ·simp[Builtin.append_,run_underlying ht,run_underlying htx,sizeOf,typeInfo,zeroValue,hi,hz,asInt,asIntOf,hw,V8,Q3,F8,Y6,hmx,Aii,Ahq,Question.forced,hs,newRow,grownCap,Builtin.firstCells]
 ·simp[Builtin.append_,run_underlying ht,run_underlying htx,sizeOf,typeInfo,zeroValue,hi,hz,asInt,asIntOf,hw,V8,Q3,F8,Y6,hmx,Aii,Ahq,Question.forced,hs,newRow,grownCap,Builtin.firstCells]
theorem Jq {t tx ty e:TypeId}{i:TypeInfo}{d:TypeDesc}{ts:List TypeId}(ht:P.underlying t=some (.slice e)) (htx:P.underlying tx=some d)(hd:∀k,d ≠ .int k)(hi:P.info? e=some i)
  {ad:Option Addr} {xv:Value} {news:List Value} {A:Nat->Prop} {new:List PV} (hs:Src P w A i.size xv 0 new news) (h0:news=[]):
  (Builtin.append_ (t::tx::ts).toArray ty #[.slice ad 0 0,xv]).run P w=.ok (.slice ad 0 0) w:=by
 subst h0;have h1:=hs.len w;have h2:(Builtin.firstCells i.size 0 xv).run P w=.ok ([]:List Value).toArray w:=hs.cells w (fun _ _=>rfl)
 have AZ:(match d with | .int _=>true|_=>false)=false:=by cases d<;>first|rfl|exact absurd rfl (hd _)
 cases ad<;>simp[Builtin.append_,run_underlying ht,run_underlying htx,AZ,sizeOf,typeInfo,hi,h1,h2,storeCells]
end
open Go.RowKit
section
variable {R:Type} {r:R} {P:Program} {N:Nat} {w0:World} {X0:Gu} {Y:Nat->Prop} {β β':Bt} {s:St} {a:Act} {w w':World} {o:Oper} {A:Nat->Prop}
theorem Acm {b j:Nat}(h:j<bsz w b):(w.cell? ⟨b,j,none⟩).isSome=true:=by
 unfold bsz at h;unfold World.cell?;split at h
 ·rename_i c e fz hb;simp[hb,h]
 ·omega
theorem SP {id d:Nat}{c cells:List PV}{bo:Option (Nat × Nat)} (h0:s.hp id=some (.ar false c)) (hd:s.hp d=none)
  (KK:∀k x,bo=some (k,x)->w.heap.size<=k∨∃y,β id=some (k,y)):
  ∀k,k<w.heap.size->Cw (Ch (Ch s.hp id (some .mv)) d (some (.ar false cells))) (Ch β d bo) Y k->Cw s.hp β Y k:=by
 rintro k hk (⟨i,x,hl,hβ⟩|hY)
 ·by_cases e':i=d
  ·subst e';rw[Am] at hβ;rcases KK k x hβ with h|⟨y,hy⟩
   ·omega
   ·exact .inl ⟨id,y,by rw[h0];trivial,hy⟩
  ·rw[Ai _ _ e'] at hl hβ;by_cases e:i=id
   ·subst e;rw[Am] at hl;exact hl.elim
   ·rw[Ai _ _ e] at hl;exact .inl ⟨i,x,hl,hβ⟩
 ·exact .inr hY
theorem CO {pre new:List PV}{olds news:List Value}{zs:Array Value}{e:TypeId}{A':Nat->Prop}(hg:Fn w w' (olds.toArray++news.toArray++zs) e) (hA:∀b,b<w.heap.size->A' b->A b)
  (h1:Bc (Au w A) pre olds) (h2:Bc (Au w A) new news) (ho:∀u∈olds,u.oneCell'=true)(hn:∀u∈news,u.oneCell'=true):RY w' A' ⟨w.heap.size,0,none⟩ (pre++new):=by
 refine YJ hg hA fun j p hj=>?_
 obtain⟨v,hv,ht⟩:=(h1.app h2).get hj;refine⟨v,?_,?_,ht⟩
 ·have B5:j<(olds++news).length:=by
   rcases Nat.lt_or_ge j (olds++news).length with h|h
   ·exact h
   ·rw[List.getElem?_eq_none h] at hv;cases hv
  rw[Array.getElem?_append_left (by simpa using B5)]
  simpa using hv
 ·rcases List.mem_append.1 (List.mem_of_getElem? hv) with hm|hm
  ·exact ho v hm
  ·exact hn v hm
theorem MB (h:Cl N w0 X0 Y β s a w){c:Call}(ho:o.op=.call c)(hc:c.callee=.builtin .append)(hnb:U9 c=true){d:Nat}(Aat:o.dst=some d){b x:Operand}(El:c.args.toList=[b,x]) {t tx:TypeId}{ts:List TypeId}(Zz:c.argTypes.toList=t::tx::ts)
  {K:PV->List (Nat × Bl)->Option R} (hk:Qy P (Hq s.hp) d t tx (Bz s.tm x) K=some r):∃v nw,K v nw=some r∧Dz P a w o Y β s v [] nw:=by
 have hb:b=.const (.slice none 0 0):=by
  unfold U9 at hnb;rw[El] at hnb;split at hnb
  ·rename_i e;injection e
  ·cases hnb
 have CW:c.args = #[b,x]:=by
  have:c.args=([b,x]:List Operand).toArray:=by rw[←El]
  exact this
 have PK:c.argTypes=(t::tx::ts).toArray:=by rw[←Zz]
 have Mq:a.eval b=.slice none 0 0:=by rw[hb];rfl
 have run:∀{v:Value} {w1:World},(Builtin.append_ (t::tx::ts).toArray o.type #[a.eval b,a.eval x]).run P w=.ok v w1->(execOp a.eval o).run P w=.ok (.value v) w1:=by
  intro v w1 hr;unfold execOp;rw[ho];simp only[resolve,hc,invoke,builtin,Sem.run_bind,Sem.run_pure,Result.andThen_ok,CW,PK];have:(#[b,x]:Array Operand).map a.eval = #[a.eval b,a.eval x]:=by simp
  rw[this,hr];rfl
 unfold Qy at hk;split at hk
 ·rename_i e hu;obtain⟨hzi,hk⟩:=Al hk;obtain⟨i,z,hi,hz,hzs,Ln⟩:=DX hzi;have P5:((P.info? e).map (·.bytes)).getD 0=i.bytes:=by rw[hi];rfl
  obtain⟨⟨dx,hdx,ND⟩,m,new,news,hk,hs⟩:=DB (s:=s) h hk (fun m new Jm=>by
   obtain⟨hb,_⟩:=Al Jm;simp only[Bool.and_eq_true,decide_eq_true_eq] at hb;exact hb.1.1)
  obtain⟨Gy,hk⟩:=Al hk;simp only[Bool.and_eq_true,decide_eq_true_eq] at Gy;obtain⟨⟨WN,YS⟩,FY⟩:=Gy;have hnl:new.length=news.length:=hs.rep.len;rw[Ln] at WN hk hs;rw[P5] at YS;have Y0:news.length=m*i.size:=by omega
  refine⟨_,_,hk,by simp,?_⟩
  by_cases hm0:m=0
  ·subst hm0;have hr:=Jq (P:=P) (w:=w) (t:=t) (tx:=tx) (ty:=o.type) (ts:=ts) (ad:=none) hu hdx ND hi hs (List.eq_nil_of_length_eq_zero (by omega))
   rw[←Mq] at hr;have QU:new=[]:=List.eq_nil_of_length_eq_zero (by omega)
   subst QU;refine⟨_,_,run hr,fun Ae8=>⟨Ch β d none,?_⟩⟩
   have Tp:s.hp d=none:=(Bi Ae8).1 d _ (List.mem_singleton_self _);rw[Mq];refine⟨rfl,rfl,rfl,B6.refl _ _,fun j hj=>Ai _ _ (by rintro rfl;exact hj Tp),?_,?_,?_,?_,?_,.inl ⟨Am _ _ _,rfl,rfl,none,rfl⟩,?_⟩
   ·intro j bx hm;simp at hm;rw[hm.2];trivial
   ·intro j bx hm;simp at hm;obtain⟨rfl,rfl⟩:=hm;exact .inl ⟨Am _ _ _,rfl⟩
   ·intro j bx k q hm hq;simp at hm;obtain⟨rfl,rfl⟩:=hm;rw[Am] at hq;cases hq
   ·intro j bx j' bx' k q q' hm Ia _ _;simp at hm Ia;rw[hm.1,Ia.1]
   ·intro j cells hm;simp at hm
   ·intro j hj;simp[Br,B8,An] at hj;subst hj;exact .inr ⟨.ar false [],by simp⟩
  ·have hr:=Ju (P:=P) (w:=w) (t:=t) (tx:=tx) (ty:=o.type) (ts:=ts) (ad:=none) (n:=0) (cap:=0) (olds:=[]) hu hdx ND hi hz hs (.inl ⟨rfl,rfl⟩) (by omega) (by rw[Nat.zero_add];exact YS) (by omega)
   rw[←Mq] at hr;refine⟨_,_,run hr,fun Ae8=>⟨Ch β d (some (w.heap.size,0)),?_⟩⟩
   have Tp:s.hp d=none:=(Bi Ae8).1 d _ (List.mem_singleton_self _);have hge:0+m<=grownCap w (0+m) 0 e:=grownCap_ge w (0+m) 0 e
   have Th:Fn w (w.drew.alloc (.cells (([]:List Value).toArray++news.toArray++Builtin.zeroCells z.cells (grownCap w (0+m) 0 e-(0+m))) e)) (([]:List Value).toArray++news.toArray++Builtin.zeroCells z.cells (grownCap w (0+m) 0 e-(0+m))) e:=
    ⟨rfl,rfl,rfl,fun k hk=>Below.heap_alloc w.drew _ k hk,by show (w.heap.push _).size=_;simp,(0,0),by show (w.heap.push _)[w.heap.size]?=_;simp,.inl rfl⟩
   have ST:(([]:List Value).toArray++news.toArray++Builtin.zeroCells z.cells (grownCap w (0+m) 0 e-(0+m))).size=grownCap w (0+m) 0 e*i.size:=by
    simp only[Array.size_append,List.size_toArray,size_zeroCells,hzs,Y0,List.length_nil,←Nat.add_mul];rw[Nat.zero_add (m*i.size),←Nat.add_mul]
    congr 1
    omega
   refine M6 (s:=⟨s.tm,Af s.hp []⟩) Th Tp trivial ?_ (fun cells hx=>by cases hx) ?_ (by intro j hj;simp[Br,B8,An] at hj;exact .inr hj)
   ·refine .inr ⟨w.heap.size,0,Am _ _ _,?_,fun _ j _ hj=>?_,(fun q=>by cases q)⟩
    ·exact CO (pre:=[]) Th (XB (s:=⟨s.tm,Af s.hp []⟩) Tp) trivial hs.rep (by simp) hs.one
    ·rw[Th.bsz] at hj;exact Th.frozen hj
   ·refine .inr ⟨w.heap.size,0,0,grownCap w (0+m) 0 e,Am _ _ _,by rw[Nat.zero_add],.inl rfl,by omega,?_,by rw[Th.size];omega⟩
    exact⟨by rw[Th.bsz,ST];omega,.inr (Ir w.drew _ e)⟩
 ·cases hk
theorem NH {lo hi:Option Operand}{y3:Operand}{k3:IntKind}{len cap l u m:Nat}(hl:(lo=none∧l=0)∨∃y k,lo=some y∧a.eval y=.int k (l:Int))
  (hu:∃y k,hi=some y∧a.eval y=.int k (u:Int)) (hm:a.eval y3=.int k3 (m:Int)) (h1:l<=u)(h2:u<=m)(h3:m<=cap):
  (Instr.sliceBounds true len cap (lo.map a.eval) (hi.map a.eval) (some (a.eval y3))).run P w=.ok (l,u,m) w:=by
 obtain⟨y,k,rfl,hy⟩:=hu;rcases hl with⟨rfl,rfl⟩|⟨y',k',rfl,hy'⟩
 ·simp[Instr.sliceBounds,Instr.sliceBound,asIntOf,hy,hm,h2,h3]
 ·simp[Instr.sliceBounds,Instr.sliceBound,asIntOf,hy,hy',hm,h1,h2,h3]
theorem LK (h:Cl N w0 X0 Y β s a w){t:TypeId}{x m:Operand}{lo hi:Option Operand}(ho:o.op=.slice t x lo hi (some m)) {d:Nat}{K:PV->List (Nat × Bl)->Option R}
  (hk:Rh P d t (Bz s.tm x) (lo.map (Bz s.tm)) (hi.map (Bz s.tm)) (some (Bz s.tm m)) K=some r):∃v nw,K v nw=some r∧Dz P a w o Y β s v [] nw:=by
 have hx:=Cq h x;unfold Rh at hk;split at hk
 ·rename_i e hu;obtain⟨hb,hk⟩:=Al hk;simp only[Bool.and_eq_true] at hb;obtain⟨Mk,hhi⟩:=hb
  obtain⟨yh,rfl⟩:∃y,hi=some y:=by
   cases hi with
   |none=>simp at hhi
   |some y=>exact⟨y,rfl⟩
  have fin:∀{ad:Option Addr} {n cap l u q:Nat},a.eval x=.slice ad n cap->n<=cap->((lo=none∧l=0)∨∃y k,lo=some y∧a.eval y=.int k (l:Int))->((some yh=none∧u=n)∨∃y k,some yh=some y∧a.eval y=.int k (u:Int))->(((some m:Option Operand)=none∧q=n)∨∃y k,(some m:Option Operand)=some y∧a.eval y=.int k (q:Int)) ->
    (Nat.beq l q&&Nat.beq u q&&decide (q<=n))=true->Dz P a w o Y β s (.view d (A8 P e) 0 0) [] [(d,.ar false [])]:=by
   intro ad n cap l u q Cz hn hl Ho hq hb;simp only[Bool.and_eq_true,decide_eq_true_eq] at hb;obtain⟨⟨b1,b2⟩,b3⟩:=hb;have b1:=Nat.eq_of_beq_eq_true b1;have b2:=Nat.eq_of_beq_eq_true b2;subst b1 b2
   have hu2:∃y k,(some yh:Option Operand)=some y∧a.eval y=.int k (u:Int):=by
    rcases Ho with⟨e,_⟩|e
    ·cases e
    ·exact e
   obtain⟨k3,hm3⟩:∃k,a.eval m=.int k (u:Int):=by
    rcases hq with⟨e,_⟩|⟨y,k,e,q⟩
    ·cases e
    ·cases e;exact⟨k,q⟩
   have MM:=NH (P:=P) (w:=w) (len:=n) (cap:=cap) hl hu2 hm3 (Nat.le_refl _) (Nat.le_refl _) (by omega)
   have Ci:∃ad',(execOp a.eval o).run P w=.ok (.value (.slice ad' 0 0)) w:=by
    unfold execOp;rw[ho];cases ad with
    |none=>exact⟨none,by simp[Instr.sliceAt,Instr.slice,run_underlying hu,Cz,MM,Cm Mk] at MM ⊢⟩
    |some p=>exact⟨some p,by simp[Instr.sliceAt,Instr.slice,run_underlying hu,Cz,MM,Cm Mk] at MM ⊢⟩
   obtain⟨ad',Ci⟩:=Ci;refine⟨by simp,_,_,Ci,fun Ae8=>⟨Ch β d none,?_⟩⟩
   have Tp:s.hp d=none:=(Bi Ae8).1 d _ (List.mem_singleton_self _);refine⟨rfl,rfl,rfl,B6.refl _ _,fun j hj=>Ai _ _ (by rintro rfl;exact hj Tp),?_,?_,?_,?_,?_,.inl ⟨Am _ _ _,rfl,rfl,ad',rfl⟩,?_⟩
   ·intro j bx hm;simp at hm;rw[hm.2];trivial
   ·intro j bx hm;simp at hm;obtain⟨rfl,rfl⟩:=hm;exact .inl ⟨Am _ _ _,rfl⟩
   ·intro j bx k q hm hq;simp at hm;obtain⟨rfl,rfl⟩:=hm;rw[Am] at hq;cases hq
   ·intro j bx j' bx' k q q' hm Ia _ _;simp at hm Ia;rw[hm.1,Ia.1]
   ·intro j cells hm;simp at hm
   ·intro j hj;simp[Br,B8,An] at hj;subst hj;exact .inr ⟨.ar false [],by simp⟩
  split at hk
  ·rename_i id es off n e';rw[e'] at hx;obtain⟨R5,hk⟩:=Al hk;obtain⟨l,hk,hl⟩:=Dn h hk;obtain⟨u,hk,Ho⟩:=Dn h hk;obtain⟨q,hk,hq⟩:=Dn (x:=some m) h hk;obtain⟨hb,hk⟩:=Al hk;refine⟨_,_,hk,?_⟩;rcases hx with⟨hβ,_,rfl,ad,Cz⟩|⟨b,ob,y,cap,hβ,Cz,hy,hn,Tf,B5⟩
   ·exact fin Cz (Nat.le_refl _) hl Ho hq hb
   ·exact fin Cz hn hl Ho hq hb
  ·obtain⟨z,n,c,hk,hp⟩:=Ew hk;obtain⟨l,hk,hl⟩:=Dn h hk;obtain⟨u,hk,Ho⟩:=Dn h hk;obtain⟨q,hk,hq⟩:=Dn (x:=some m) h hk;obtain⟨hb,hk⟩:=Al hk;refine⟨_,_,hk,?_⟩;rcases Fp hp hx with⟨Cz,rfl,rfl⟩|⟨ad,cap,Cz,_,hn,_⟩|⟨ad,cap,Cz,_,rfl,rfl⟩
   ·exact fin Cz (Nat.le_refl _) hl Ho hq hb
   ·exact fin Cz hn hl Ho hq hb
   ·exact fin Cz (Nat.zero_le _) hl Ho hq hb
 ·cases hk
end
open Go.RowKit
section
variable {R:Type} {r:R} {P:Program} {N:Nat} {w0:World} {X0:Gu} {Y:Nat->Prop} {β β':Bt} {s:St} {a:Act} {w w':World} {o:Oper} {A:Nat->Prop}
theorem Ad4 (h:Cl N w0 X0 Y β s a w){G:S2}(Iy:OE P G w0 X0){C:F4}{call:Ax}(Dl:∀f args res,call f args=some res->C4 G P f args res){K:PV->List Nat->List (Nat × Bl)->Option R}
  (hk:DP C P N call s.tm (rd s.hp) (Hq s.hp) o K=some r):∃v fz nw,K v fz nw=some r∧DT P a w o Y β s v fz nw:=by
 have one:∀{K':PV->Option R},(∀v,K' v=some r->K v [] []=some r)->(∃v,K' v=some r∧Dz P a w o Y β s v [] [])->∃v fz nw,K v fz nw=some r∧DT P a w o Y β s v fz nw:=
  fun hK ⟨v,h1,h2⟩=>⟨v,[],[],hK v h1,DS h2⟩
 have many:(∃v fz nw,K v fz nw=some r∧Dz P a w o Y β s v fz nw)->∃v fz nw,K v fz nw=some r∧DT P a w o Y β s v fz nw:=
  fun ⟨v,fz,nw,h1,h2⟩=>⟨v,fz,nw,h1,DS h2⟩
 unfold DP at hk;split at hk
 ·rename_i x ho;exact one (fun _ h=>h) (Uz (K:=fun p=>K p [] []) h (Abd ho) hk)
 ·rename_i x ho;exact one (fun _ h=>h) (Uz (K:=fun p=>K p [] []) h (OP ho) hk)
 ·rename_i c x y ho;exact one (fun _ h=>h) (VT (K:=fun p=>K p [] []) h ho hk)
 ·rename_i t ho;obtain⟨d,hd,hk⟩:=B7 hk;exact many (PP ho hk)
 ·rename_i t x ho;obtain⟨d,hd,hk⟩:=B7 hk;exact many (Aaz h ho hk)
 ·rename_i t ps ho;exact one (fun _ h=>h) (RE (K:=fun p=>K p [] []) h ho hk)
 ·rename_i t n ps ho;obtain⟨d,hd,hk⟩:=B7 hk;exact many (Wx h ho hk)
 ·rename_i t x ho;exact one (fun _ h=>h) (TA (K:=fun p=>K p [] []) h ho hk)
 ·rename_i x ho;exact one (fun _ h=>h) (DE (K:=fun p=>K p [] []) h ho hk)
 ·rename_i op t x y ty ho;exact one (fun _ h=>h) (OX (K:=fun p=>K p [] []) h ho hk)
 ·rename_i op t x ho;exact one (fun _ h=>h) (TS (K:=fun p=>K p [] []) h ho hk)
 ·rename_i src dst x ho;obtain⟨v,nw,hk,hg⟩:=TI h ho hk;obtain⟨d,hd,hk⟩:=B7 hk;exact⟨v,[],nw,hk,DS hg⟩
 ·rename_i t x y ho;obtain⟨d,hd,hk⟩:=B7 hk;exact many (UY h ho hk)
 ·rename_i t x lo hi mx ho;split at hk
  ·exact one (fun _ h=>h) (NL (K:=fun p=>K p [] []) h ho hk)
  ·obtain⟨d,hd,hk⟩:=B7 hk;obtain⟨v,nw,h1,h2⟩:=LK h ho hk;exact⟨v,[],nw,h1,DS h2⟩
 ·rename_i t x f ho;exact one (fun _ h=>h) (Zv (K:=fun p=>K p [] []) h ho hk)
 ·rename_i t x f ho;exact one (fun _ h=>h) (RH (K:=fun p=>K p [] []) h ho hk)
 ·rename_i t x i ho;exact one (fun _ h=>h) (Zy (K:=fun p=>K p [] []) h ho hk)
 ·rename_i t x i ho;exact one (fun _ h=>h) (NE (K:=fun p=>K p [] []) h ho hk)
 ·rename_i t x k ok ho;exact one (fun _ h=>h) (LW (K:=fun p=>K p [] []) h ho hk)
 ·rename_i x i ho;exact one (fun _ h=>h) (GJ (K:=fun p=>K p [] []) h ho hk)
 ·rename_i c ho;split at hk
  ·rename_i hc;exact one (fun _ h=>h) (Aaq (K:=fun p=>K p [] []) h ho hc hk)
  ·rename_i hc;exact one (fun _ h=>h) (YV (K:=fun p=>K p [] []) h ho hc hk)
  ·rename_i hc;exact one (fun _ h=>h) (Aaf (K:=fun p=>K p [] []) h ho hc hk)
  ·rename_i hc;exact one (fun _ h=>h) (Aae (K:=fun p=>K p [] []) h ho hc hk)
  ·rename_i hc;obtain⟨hnb,hk⟩:=Al hk;obtain⟨d,hd,Dm⟩:=B7 hk;obtain⟨b,xs,FC,D8⟩:=A7 Dm;obtain⟨x,ys,hys,Jn⟩:=A7 D8;obtain⟨Wz,Rw⟩:=Dc Jn;obtain⟨t,us,hus,UQ⟩:=A7 Rw;obtain⟨tx,vs,O9,hk6⟩:=A7 UQ;rw[hys,Wz] at FC;rw[O9] at hus;obtain⟨v,nw,h1,h2⟩:=MB h ho hc hnb hd FC hus hk6;exact⟨v,[],nw,h1,DS h2⟩
  ·rename_i f hc;exact BV h Iy Dl (fun hf hb=>OM ho hc Iy.ng hf hb) hk
  ·rename_i t hc;obtain⟨f,hf0,Dm⟩:=Ah0 hk;have ht:a.eval (.tmp t)=.func (.func f) #[] #[]:=B3 h (x:=.tmp t) hf0;exact BV h Iy Dl (fun hf hb=>Aa8 ho hc ht Iy.ng hf hb) Dm
  ·cases hk
 ·cases hk
theorem TY (h:Cl N w0 X0 Y β s a w){G:S2}(Iy:OE P G w0 X0){C:F4}{call:Ax}(Dl:∀f args res,call f args=some res->C4 G P f args res){K:St->Option R}
  (hk:(DP C P N call s.tm (rd s.hp) (Hq s.hp) o fun v fz nw=>Xl N s o.dst v fz nw K)=some r):
  ∃s',K s'=some r∧∀(next:Act->World->Prop) (Q:Exit->Act->World->Prop),(∀a' w' β',Cl N w0 X0 Y β' s' a' w'->next a' w')->o.wp P a w next Q:=by
 obtain⟨v,fz,nw,hk,Xd,hg⟩:=Ad4 h Iy Dl hk;unfold Xl at hk;obtain⟨hb,hk⟩:=Al hk;simp only[Bool.and_eq_true] at hb;refine⟨_,hk,fun next Q hn=>hg next Q fun val w' Fh=>?_⟩
 obtain⟨β',st⟩:=Fh hb.2
 have Mq:Bo (Af s.hp fz) nw=true:=by
  have:∀nw,Bo s.hp nw=true->Bo (Af s.hp fz) nw=true:=by
   intro nw
   induction nw with
   |nil=>intro _;rfl
   |cons q nw ih=>
    obtain⟨i,b⟩:=q;intro hq;simp only[Bo,Bool.and_eq_true,Option.isNone_iff_eq_none] at hq ⊢;exact⟨⟨Du.2 hq.1.1,hq.1.2⟩,ih hq.2⟩
  exact this nw hb.2
 exact hn _ _ β' ((h.freeze Xd).stepR hb.1 Mq st)
end
open Go.RowKit
section
variable {R:Type} {r:R} {P:Program} {N:Nat} {w0:World} {X0:Gu} {Y:Nat->Prop} {β β':Bt} {s:St} {a:Act} {w w':World} {o:Oper} {A:Nat->Prop}
structure Dk (b:Nat) (w w':World):Prop where
 os:w'.os=w.os
 tape:w'.tape=w.tape
 output:w'.output=w.output
 size:w'.heap.size=w.heap.size
 other:∀k,k≠b->w'.heap[k]?=w.heap[k]?
 bs:bsz w' b=bsz w b
 frz:∀j,w'.frozen? ⟨b,j,none⟩=w.frozen? ⟨b,j,none⟩
theorem Dk.grow {b:Nat}(h:Dk b w w')(k:Nat):Gf w w' k:=by
 by_cases e:k=b
 ·subst e;refine⟨by rw[h.bs];exact Nat.le_refl _,fun q=>?_⟩
  unfold NJ at q ⊢;rw[h.bs,h.frz];exact q
 ·exact Gf.same (h.other k e)
theorem Dk.refl (b:Nat)(w:World):Dk b w w:=⟨rfl,rfl,rfl,rfl,fun _ _=>rfl,rfl,fun _=>rfl⟩
theorem Dk.setCell (b j:Nat)(v:Value)(w:World):Dk b w (w.setCell ⟨b,j,none⟩ v):=by
 refine⟨rfl,rfl,rfl,by simp[World.setCell],fun k hk=>Below.heap_setCell w ⟨b,j,none⟩ v k hk,?_,fun i=>?_⟩
 ·simp only[bsz,World.setCell,Array.getElem?_modify];simp only[if_true];cases h:w.heap[b]? with
  |none=>simp
  |some x=>cases x<;>simp
 ·simp only[World.frozen?,World.setCell,Array.getElem?_modify,if_true];cases h:w.heap[b]? with
  |none=>simp
  |some x=>cases x<;>simp
theorem Dk.trans {b:Nat}{w'':World}(h:Dk b w w')(h':Dk b w' w''):Dk b w w'':=
 ⟨h'.os.trans h.os,h'.tape.trans h.tape,h'.output.trans h.output,h'.size.trans h.size,fun k hk=>(h'.other k hk).trans (h.other k hk),h'.bs.trans h.bs,fun j=>(h'.frz j).trans (h.frz j)⟩
theorem Dk.setCells (b:Nat):∀(vs:List Value)(j:Nat)(w:World),Dk b w (w.setCells b j vs)
 |[],_,w=>Dk.refl b w
 |v::vs,j,w=>(Dk.setCell b j v w).trans (Dk.setCells b vs (j+1) _)
theorem Ase {hp:Nat->Option Bl}{id:Nat}{bx bx':Bl}(h0:hp id=some bx)(hl:Cy (some bx)) (Ib:Cy (some bx')) (b:Nat):KJ (Ch hp id (some bx')) β b↔KJ hp β b:=by
 constructor
 ·rintro⟨i,o,h1,h2⟩
  by_cases e:i=id
  ·subst e;exact⟨i,o,by rw[h0];exact hl,h2⟩
  ·rw[Ai _ _ e] at h1;exact⟨i,o,h1,h2⟩
 ·rintro⟨i,o,h1,h2⟩
  by_cases e:i=id
  ·subst e;exact⟨i,o,by rw[Am];exact Ib,h2⟩
  ·exact⟨i,o,by rw[Ai _ _ e];exact h1,h2⟩
theorem Cl.write (h:Cl N w0 X0 Y β s a w){id b ob:Nat}{bx bx':Bl}(h0:s.hp id=some bx)(hl:Cy (some bx)) (Ib:Cy (some bx')) (hβ:β id=some (b,ob)) (hw:Dk b w w')
  (Jl:Ol w' (Cw s.hp β Y) β id bx') (hr:∀cells,bx'=.st cells->∀c∈cells,∀i∈An c,s.hp i≠none)
  (hK:∀c',bx'=.st c'->∃c,bx=.st c)(hR:∀j,BR bx' ob j->BR bx ob j)(hO:∀j,¬BR bx ob j->w'.cell? ⟨b,j,none⟩=w.cell? ⟨b,j,none⟩):Cl N w0 X0 Y β ⟨s.tm,Ch s.hp id (some bx')⟩ a w':=by
 have hX:=Ase (β:=β) h0 hl Ib;have hA:∀k,Cw (Ch s.hp id (some bx')) β Y k↔Cw s.hp β Y k:=fun k=>⟨fun x=>x.imp (hX k).1 (fun y=>y),fun x=>x.imp (hX k).2 (fun y=>y)⟩
 have hAb:Cw s.hp β Y b:=.inl ⟨id,ob,by rw[h0];exact hl,hβ⟩
 have Fh:B6 (Cw s.hp β Y) w w':=⟨by rw[hw.size];exact Nat.le_refl _,fun k _ hk=>hw.other k (fun e=>hk (e ▸ hAb)),fun k _=>hw.grow k⟩
 have Q3:∀i,Ch s.hp id (some bx') i≠none↔s.hp i≠none:=by
  intro i;by_cases e:i=id
  ·subst e;rw[Am,h0];simp
  ·rw[Ai _ _ e]
 have hAe:Cw (Ch s.hp id (some bx')) β Y=Cw s.hp β Y:=funext fun k=>propext (hA k)
 have Vq:∀i,Cy (Ch s.hp id (some bx') i)->Cy (s.hp i):=by
  intro i hi;by_cases e:i=id
  ·subst e;rw[h0];exact hl
  ·rw[Ai _ _ e] at hi;exact hi
 refine⟨h.dfr,h.tsz,h.tmo,fun i hi=>?_,fun i bi hb=>?_,fun i i' k x y h1 h2=>h.inj i i' k x y (Vq i h1) (Vq i' h2),fun i k x hi hk=>?_,fun i hi j hj=>(Q3 j).2 (h.wfT i hi j hj),
  fun i cells hc c NV j hj=>(Q3 j).2 ?_,fun k hk=>h.ownd k ((hX k).1 hk),fun i bi k x Zo hli hk B5 j hj=>?_,fun i hi=>⟨(Q3 _).2 (h.pin i hi).1,(h.pin i hi).2⟩,fun i c k x hc hk B5=>?_,fun k hk x=>h.Yx k hk ((hX k).1 x),h.Ylt,?_⟩
 ·rw[hAe];exact (h.tms i hi).step Fh (fun _ _ x=>x) (fun _ _=>rfl)
 ·rw[hAe];simp only at hb;by_cases e:i=id
  ·subst e;rw[Am] at hb;cases hb;exact Jl
  ·rw[Ai _ _ e] at hb;have Zo:=h.box i bi hb;cases bi with
   |st c=>
    obtain⟨k,x,h1,h2,h3⟩:=Zo
    have hk:k≠b:=by
     rintro rfl
     exact e (h.inj i id k x ob (by rw[hb];trivial) (by rw[h0];exact hl) h1 hβ)
    refine⟨k,x,h1,fun j c hj=>?_,fun j hj=>?_⟩
    ·obtain⟨v,hv,hc⟩:=h2 j c hj;exact⟨v,by rw[World.cell?_of_block (w:=w) (hw.other k hk)];exact hv,hc.step Fh (fun _ _ x=>x) (fun _ _=>rfl)⟩
    ·rw[World.frozen?_of_block (w:=w) (hw.other k hk)];exact h3 j hj
   |ar fz c=>
    rcases Zo with hn|⟨k,x,h1,h2,h3,h4⟩
    ·exact .inl hn
    ·have hk:k≠b:=by
      rintro rfl
      cases fz with
      |true=>exact h4 rfl hAb
      |false=>exact e (h.inj i id k x ob (by rw[hb];trivial) (by rw[h0];exact hl) h1 hβ)
     refine .inr ⟨k,x,h1,fun j c hj=>?_,fun ef j hj Pc=>?_,h4⟩
     ·obtain⟨v,hv,h5,hc⟩:=h2 j c hj;exact⟨v,by rw[World.cell?_of_block (w:=w) (by rw[Eg];exact hw.other k hk)];exact hv,h5,hc.step Fh (fun _ _ x=>x)⟩
     ·rw[World.frozen?_of_block (w:=w) (hw.other k hk)];refine h3 ef j hj ?_;unfold bsz at Pc ⊢;rw[hw.other k hk] at Pc;exact Pc
   |mv=>trivial
 ·rw[hw.size];exact h.blt i k x ((Q3 i).1 hi) hk
 ·simp only at hc;by_cases e:i=id
  ·subst e;rw[Am] at hc;injection hc with hc;exact hr cells hc c NV j hj
  ·rw[Ai _ _ e] at hc;exact h.wfB i cells hc c NV j hj
 ·simp only at Zo;by_cases e:i=id
  ·subst e;rw[Am] at Zo;cases Zo;rw[hβ] at hk;cases hk;exact h.rngB i bx b ob h0 hl hβ B5 j (hR j hj)
  ·rw[Ai _ _ e] at Zo;exact h.rngB i bi k x Zo hli hk B5 j hj
 ·simp only at hc;by_cases e:i=id
  ·subst e;rw[Am] at hc;injection hc with hc;obtain⟨c0,rfl⟩:=hK c hc;exact h.stp i c0 k x h0 hk B5
  ·rw[Ai _ _ e] at hc;exact h.stp i c k x hc hk B5
 ·refine⟨hw.os.trans h.fr.os,hw.tape.trans h.fr.tape,hw.output.trans h.fr.output,?_,fun k j hk hL=>?_⟩
  ·refine⟨by rw[hw.size];exact h.fr.step.size,fun k hk hnk=>?_,fun k hk=>(h.fr.step.bs k hk).trans (Fh.bs k (Nat.lt_of_lt_of_le hk h.fr.step.size))⟩
   rw[hw.other k ?_]
   ·exact h.fr.step.keep k hk hnk
   ·rintro rfl
    rcases h.ownd k ⟨id,ob,by rw[h0];exact hl,hβ⟩ with hx|hx
    ·exact hnk hx
    ·omega
  ·by_cases e:k=b
   ·subst e;rw[hO j (fun hj=>hL (h.rngB id bx k ob h0 hl hβ hk j hj)),hw.frz]
    exact h.fr.rng k j hk hL
   ·have hc:w'.cell? ⟨k,j,none⟩=w.cell? ⟨k,j,none⟩:=World.cell?_of_block (w:=w) (hw.other k e);have hf:w'.frozen? ⟨k,j,none⟩=w.frozen? ⟨k,j,none⟩:=World.frozen?_of_block (w:=w) (hw.other k e);rw[hc,hf];exact h.fr.rng k j hk hL
theorem Oi {c cs:List PV}{off j:Nat}{p:PV}(Y6:off+cs.length<=c.length)(h:(Ca c cs off)[j]?=some p):
  (off<=j∧j<off+cs.length∧cs[j-off]?=some p)∨((j<off∨off+cs.length<=j)∧c[j]?=some p):=by
 unfold Ca at h;by_cases h1:j<off
 ·rw[List.append_assoc,List.getElem?_append_left (by simp;omega),List.getElem?_take_of_lt h1] at h
  exact .inr ⟨.inl h1,h⟩
 ·by_cases h2:j<off+cs.length
  ·rw[List.getElem?_append_left (by simp;omega),List.getElem?_append_right (by simp;omega)] at h
   simp only[List.length_take,Nat.min_eq_left (by omega:off<=c.length)] at h
   exact .inl ⟨by omega,h2,h⟩
  ·rw[List.getElem?_append_right (by simp;omega)] at h
   simp only[List.length_append,List.length_take,Nat.min_eq_left (by omega:off<=c.length),List.getElem?_drop] at h
   rw[show off+cs.length+(j-(off+cs.length))=j from by omega] at h
   exact .inr ⟨.inr (by omega),h⟩
theorem N2 {c cs:List PV}{off:Nat}(Y6:off+cs.length<=c.length):(Ca c cs off).length=c.length:=by
 simp[Ca];omega
theorem Ye {t:TypeId}{b j:Nat}{v:Value}(Ln:(P.info? t).map (·.size)=some v.cells.size) (hc:∀i,i<v.cells.toList.length->(w.cell? ⟨b,j+i,none⟩).isSome=true)
  (hf:∀i,i<v.cells.toList.length->w.frozen? ⟨b,j+i,none⟩=false)(h1:∀u∈v.cells.toList,u.oneCell'=true):(Instr.storeAt t (.pointer (some ⟨b,j,none⟩)) v).run P w=.ok () (w.setCells b j v.cells.toList):=by
 have:=run_storeCells_cells (P:=P) b j v.cells.toList 0 w (fun i hi=>by simpa using hc i hi) (fun i hi=>by simpa using hf i hi) h1
 simp only[Instr.storeAt,Instr.sureAddr,storeVar,Sem.run_bind,Sem.run_pure,Result.andThen_ok,Id Ln]
 simpa using this
theorem PQ (h:Cl N w0 X0 Y β s a w){t:TypeId}{x y:Operand}(ho:o.op=.store t x y)(hd:o.dst=none){K:St->Option R}(hk:Xk P s t (Bz s.tm x) (Bz s.tm y) K=some r):
  ∃s',K s'=some r∧∀(next:Act->World->Prop) (Q:Exit->Act->World->Prop),(∀a' w' β',Cl N w0 X0 Y β' s' a' w'->next a' w')->o.wp P a w next Q:=by
 have hx:=Cq h x;have EY:=Eh h x
 have run:∀{b j:Nat},a.eval x=.pointer (some ⟨b,j,none⟩)->(Instr.storeAt t (.pointer (some ⟨b,j,none⟩)) (a.eval y)).run P w=.ok () (w.setCells b j (a.eval y).cells.toList) ->
   ∀(next:Act->World->Prop) (Q:Exit->Act->World->Prop),next a (w.setCells b j (a.eval y).cells.toList)->o.wp P a w next Q:=by
  intro b j Cz hr next Q hn;unfold Oper.wp execOp;rw[ho];simp only[Sem.run_bind,Cz,hr,Result.andThen_ok,Sem.run_pure];show next (a.put o.dst undef) _;rw[hd];exact hn
 unfold Xk at hk;split at hk
 ·rename_i id off e;rw[e] at hx EY;obtain⟨b,ob,hβ,Cz⟩:=hx;split at hk
  ·rename_i c h0;obtain⟨hb,hk⟩:=Al hk;simp only[Bool.and_eq_true,decide_eq_true_eq] at hb;obtain⟨⟨hok,hl⟩,Y6⟩:=hb;have hl:=Nat.eq_of_beq_eq_true hl;obtain⟨cs,hk,Jg,h2,h1,hr,_⟩:=YP (Cq h y) hl hk;obtain⟨_,Aph,Ln⟩:=M7 hok;have hvl:=h2.len;obtain⟨b',o',En,G3,Sk⟩:=h.box id _ h0;rw[hβ] at En;simp at En;obtain⟨rfl,rfl⟩:=En
   have Cp:∀i,i<(a.eval y).cells.toList.length->(w.cell? ⟨b,ob+off+i,none⟩).isSome=true:=by
    intro i hi;obtain⟨v,hv,_⟩:=G3 (off+i) _ (List.getElem?_eq_getElem (by omega))
    rw[Nat.add_assoc,hv];rfl
   have Ci:=Ye (P:=P) (t:=t) (w:=w) (b:=b) (j:=ob+off) (v:=a.eval y) (by rw[Ln,←Aph,←Jg,hvl];simp) Cp (fun i hi=>by rw[Nat.add_assoc];exact Sk _ (by omega)) h1
   refine⟨_,hk,fun next Q hn=>run Cz Ci next Q (hn _ _ β ?_)⟩
   refine h.write h0 trivial trivial hβ (Dk.setCells b _ _ w) ?_ ?_ (fun _ _=>⟨_,rfl⟩) (fun j hj=>by
    have hj:ob<=j∧j<ob+(Ca c cs off).length:=hj;rw[N2 (by omega)] at hj
    exact hj) (fun j hj=>by
    refine World.cell?_setCells_out b _ _ w ⟨b,j,none⟩ (fun _ _=>?_)
    have hj:¬(ob<=j∧j<ob+c.length):=hj;show j<ob+off∨ob+off+_<=j;omega)
   ·have Fh:B6 (Cw s.hp β Y) w (w.setCells b (ob+off) (a.eval y).cells.toList):=by
     have hw:=Dk.setCells b (a.eval y).cells.toList (ob+off) w;have hAb:Cw s.hp β Y b:=.inl ⟨id,ob,by rw[h0];trivial,hβ⟩
     exact⟨by rw[hw.size];exact Nat.le_refl _,fun k _ hk=>hw.other k (fun e=>hk (e ▸ hAb)),fun k _=>hw.grow k⟩
    refine⟨b,ob,hβ,fun j p hj=>?_,fun j hj=>?_⟩
    ·rcases Oi (by omega) hj with⟨h3,h4,h5⟩|⟨h3,h5⟩
     ·obtain⟨u,hu,hcu⟩:=h2.get h5;have B5:j-off<(a.eval y).cells.toList.length:=by omega
      refine⟨u,?_,hcu.step Fh (fun _ _ x=>x) (fun _ _=>rfl)⟩
      have:=World.cell?_setCells_in b (a.eval y).cells.toList (ob+off) w Cp (j-off) B5;rw[show ob+j=ob+off+(j-off) from by omega,this]
      rw[List.getElem?_eq_getElem B5] at hu;exact hu
     ·obtain⟨v,hv,Zc⟩:=G3 j p h5;refine⟨v,?_,Zc.step Fh (fun _ _ x=>x) (fun _ _=>rfl)⟩
      rw[World.cell?_setCells_out b _ _ w ⟨b,ob+j,none⟩ (fun _ _=>by show ob+j<ob+off∨ob+off+_<=ob+j;omega)]
      exact hv
    ·rw[N2 (by omega)] at hj
     rw[(Dk.setCells b _ _ w).frz];exact Sk j hj
   ·intro cells hx c' Ob i hi;injection hx with hx;subst hx;unfold Ca at Ob;rcases List.mem_append.1 Ob with Ob|Ob
    ·rcases List.mem_append.1 Ob with Ob|Ob
     ·exact h.wfB id c h0 c' (List.mem_of_mem_take Ob) i hi
     ·exact Eh h y i (hr c' Ob i hi)
    ·exact h.wfB id c h0 c' (List.mem_of_mem_drop Ob) i hi
  ·rename_i c h0;obtain⟨hb,hk⟩:=Al hk;simp only[Bool.and_eq_true,decide_eq_true_eq] at hb;obtain⟨hok,Y6⟩:=hb;obtain⟨cs,m,hk,Jg,Tn,hT,hF,hm,hv⟩:=Np h hk;obtain⟨FY,hk⟩:=Al hk
   have FY:id ∉ m:=by
    intro hi;have:m.any (Nat.beq id)=true:=List.any_eq_true.2 ⟨id,hi,Nat.beq_refl id⟩;rw[this] at FY;cases FY
   obtain⟨_,Aph,Ln⟩:=M7 hok
   have Ahl:Bc (Bw w (Cw s.hp β Y) β) (cellsOf (Bz s.tm y)) (a.eval y).cells.toList:=by
    have XY:=Cq h y;cases hp:Bz s.tm y with
    |agg ps=>
     rw[hp] at XY;obtain⟨vs,hay,h2⟩:=XY;rw[hay];exact h2
    |sc v=>
     rw[hp] at XY hF
     have Agp:(a.eval y).oneCell'=true:=by
      have:=hv m (fun _ hi=>hi) hm [a.eval y] (by rw[hp];exact⟨XY,trivial⟩)
      exact this.2 _ (by simp)
     rw[Kr Agp];exact⟨XY,trivial⟩
    |lst z es n cc=>
     rw[hp] at XY hF
     have Agp:(a.eval y).oneCell'=true:=by
      have:=hv m (fun _ hi=>hi) hm [a.eval y] (by rw[hp];exact⟨XY,trivial⟩)
      exact this.2 _ (by simp)
     rw[Kr Agp];exact⟨XY,trivial⟩
    |view i es oo n=>
     rw[hp] at XY hF
     have Agp:(a.eval y).oneCell'=true:=by
      have:=hv m (fun _ hi=>hi) hm [a.eval y] (by rw[hp];exact⟨XY,trivial⟩)
      exact this.2 _ (by simp)
     rw[Kr Agp];exact⟨XY,trivial⟩
    |own es n cc=>
     have hx0:=hF (Bz s.tm y) (by rw[hp];exact List.mem_singleton_self _)
     rw[hp] at hx0;exact hx0.elim
    |ptr i cc=>
     have hx0:=hF (Bz s.tm y) (by rw[hp];exact List.mem_singleton_self _)
     rw[hp] at hx0;exact hx0.elim
    |iptr i cc=>
     have hx0:=hF (Bz s.tm y) (by rw[hp];exact List.mem_singleton_self _)
     rw[hp] at hx0;exact hx0.elim
    |pbox cc=>
     have hx0:=hF (Bz s.tm y) (by rw[hp];exact List.mem_singleton_self _)
     rw[hp] at hx0;exact hx0.elim
    |tup cc=>
     have hx0:=hF (Bz s.tm y) (by rw[hp];exact List.mem_singleton_self _)
     rw[hp] at hx0;exact hx0.elim
    |ub=>
     have hx0:=hF (Bz s.tm y) (by rw[hp];exact List.mem_singleton_self _)
     rw[hp] at hx0;exact hx0.elim
    |top=>
     have hx0:=hF (Bz s.tm y) (by rw[hp];exact List.mem_singleton_self _)
     rw[hp] at hx0;exact hx0.elim
   obtain⟨h2,h1⟩:=hv m (fun _ hi=>hi) hm _ Ahl
   have hvl:=h2.len;have hf:=h.freeze hm;have h0':Af s.hp m id=some (.ar false c):=by rw[Bv,if_neg FY];exact h0
   rcases hf.box id _ h0' with⟨hn,_⟩|⟨b',o',En,G3,Sk,_⟩
   ·rw[hβ] at hn;cases hn
   rw[hβ] at En;simp at En;obtain⟨rfl,rfl⟩:=En
   have Cp:∀i,i<(a.eval y).cells.toList.length->(w.cell? ⟨b,ob+off+i,none⟩).isSome=true:=by
    intro i hi;obtain⟨v,hv,_⟩:=G3 (off+i) _ (List.getElem?_eq_getElem (by omega))
    rw[Eb] at hv;rw[Nat.add_assoc,hv];rfl
   have Ci:=Ye (P:=P) (t:=t) (w:=w) (b:=b) (j:=ob+off) (v:=a.eval y) (by rw[Ln,←Aph,←Jg,hvl];simp) Cp (fun i hi=>by
    obtain⟨u,hu⟩:=Option.isSome_iff_exists.1 (Cp i hi);exact Sk rfl _ (by omega) (AU hu)) h1
   refine⟨_,hk,fun next Q hn=>run Cz Ci next Q (hn _ _ β ?_)⟩
   refine hf.write h0' trivial trivial hβ (Dk.setCells b _ _ w) ?_ (fun cells hx=>by cases hx) (fun _ hx=>by cases hx) (fun j hj=>hj) (fun j hj=>by
    refine World.cell?_setCells_out b _ _ w ⟨b,j,none⟩ (fun _ _=>?_)
    have hj:¬(ob<=j):=hj;show j<ob+off∨ob+off+_<=j;omega)
   have Fh:B6 (Cw (Af s.hp m) β Y) w (w.setCells b (ob+off) (a.eval y).cells.toList):=by
    have hw:=Dk.setCells b (a.eval y).cells.toList (ob+off) w;have hAb:Cw (Af s.hp m) β Y b:=.inl ⟨id,ob,by rw[h0'];trivial,hβ⟩
    exact⟨by rw[hw.size];exact Nat.le_refl _,fun k _ hk=>hw.other k (fun e=>hk (e ▸ hAb)),fun k _=>hw.grow k⟩
   refine .inr ⟨b,ob,hβ,fun j p hj=>?_,fun _ j hj Pc=>?_,(fun x=>by cases x)⟩
   ·rw[Eb];rcases Oi (by omega) hj with⟨h3,h4,h5⟩|⟨h3,h5⟩
    ·obtain⟨u,hu,hcu⟩:=h2.get h5;have B5:j-off<(a.eval y).cells.toList.length:=by omega
     refine⟨u,?_,h1 u (List.mem_of_getElem? hu),hcu.step Fh (fun _ _ x=>x)⟩
     have:=World.cell?_setCells_in b (a.eval y).cells.toList (ob+off) w Cp (j-off) B5;rw[show ob+j=ob+off+(j-off) from by omega,this]
     rw[List.getElem?_eq_getElem B5] at hu;exact hu
    ·obtain⟨v,hv,h6,Zc⟩:=G3 j p h5;rw[Eb] at hv;refine⟨v,?_,h6,Zc.step Fh (fun _ _ x=>x)⟩
     rw[World.cell?_setCells_out b _ _ w ⟨b,ob+j,none⟩ (fun _ _=>by show ob+j<ob+off∨ob+off+_<=ob+j;omega)]
     exact hv
   ·rw[(Dk.setCells b _ _ w).bs] at Pc;rw[(Dk.setCells b _ _ w).frz];exact Sk rfl j hj Pc
  ·cases hk
 ·cases hk
end
open Go.RowKit
theorem G6:∀{l l':List Nat},Dv (l++l')=true->Dv l=true∧Dv l'=true∧∀i∈l,i ∉ l'
 |[],l',h=>⟨rfl,h,by simp⟩
 |a::l,l',h=>by
  simp only[List.cons_append,Dv,Bool.and_eq_true,Bool.not_eq_true'] at h;obtain⟨h1,h2⟩:=h;obtain⟨h3,h4,h5⟩:=G6 h2
  have hn:∀i∈l++l',a≠i:=by
   rintro i hi rfl
   have:(l++l').any (Nat.beq a)=true:=List.any_eq_true.2 ⟨a,hi,Nat.beq_refl a⟩;rw[this] at h1;cases h1
  refine⟨?_,h4,fun i hi=>?_⟩
  ·simp only[Dv,Bool.and_eq_true,Bool.not_eq_true',h3,and_true];rw[List.any_eq_false];intro i hi e;exact hn i (by simp[hi]) (Nat.eq_of_beq_eq_true e)
  ·rcases List.mem_cons.1 hi with rfl|hi
   ·exact fun hm=>hn i (by simp[hm]) rfl
   ·exact h5 i hi
def F5 (β:Bt)(q:Nat × Nat):Option (Nat × Nat):=(β q.1).map fun p=>(p.1,p.2+q.2)
theorem VX (β:Bt)(id:Nat):F5 β (id,0)=β id:=by
 unfold F5;cases β id<;>rfl
section
variable {R:Type} {r:R} {P:Program} {N:Nat} {w0:World} {X0:Gu} {Y:Nat->Prop} {β β':Bt} {s:St} {a:Act} {w w':World} {o:Oper} {A:Nat->Prop}
theorem K9 {fz:List Nat}{b:Nat}(h:Cw (Af s.hp fz) β Y b):Cw s.hp β Y b:=h.imp Nc id
theorem Agq (h:Cl N w0 X0 Y β s a w){mv:Bool}{t:CT}{p:PV}{K:PV->List Nat->List Nat->Option R}(hk:YU mv s.hp t p K=some r):
  ∃c m q,K c m (Option.toList q)=some r∧isA c∧GD p∧(∀id∈m,∃f cc,s.hp id=some (.ar f cc))∧(∀id,q=some id->∃cc,s.hp id=some (.ar false cc)) ∧
   ∀fz:List Nat,(∀id∈m,id∈fz)->(∀id∈fz,∃f cc,s.hp id=some (.ar f cc))->∀v,Bw w (Cw s.hp β Y) β p v->Fm w (Cw (Af s.hp fz) β Y) (q.bind β) c v:=by
 have frz:∀{t:CT} {p:PV} {K:PV->List Nat->List Nat->Option R},(Ls (Hq s.hp) t p fun c m=>K c m [])=some r->∃c m q,K c m (Option.toList q)=some r∧isA c∧GD p∧(∀id∈m,∃f cc,s.hp id=some (.ar f cc))∧(∀id,q=some id->∃cc,s.hp id=some (.ar false cc)) ∧
   ∀fz:List Nat,(∀id∈m,id∈fz)->(∀id∈fz,∃f cc,s.hp id=some (.ar f cc))->∀v,Bw w (Cw s.hp β Y) β p v->Fm w (Cw (Af s.hp fz) β Y) (q.bind β) c v:=by
  intro t p K hk;obtain⟨c,m,hk,hT,hF,hm,hv⟩:=BT h hk;exact⟨c,m,none,hk,.inl hT,hF,hm,by simp,fun fz h1 h2 v hc=>Io hT (hv fz h1 h2 v hc).1⟩
 have tree:∀{t:CT} {p:PV} {K:PV->List Nat->List Nat->Option R},(∀es,t ≠ .sl es)->(Xg t p fun c=>K c [] [])=some r->∃c m q,K c m (Option.toList q)=some r∧isA c∧GD p∧(∀id∈m,∃f cc,s.hp id=some (.ar f cc))∧(∀id,q=some id->∃cc,s.hp id=some (.ar false cc)) ∧
   ∀fz:List Nat,(∀id∈m,id∈fz)->(∀id∈fz,∃f cc,s.hp id=some (.ar f cc))->∀v,Bw w (Cw s.hp β Y) β p v->Fm w (Cw (Af s.hp fz) β Y) (q.bind β) c v:=by
  intro t p K Ei hk;obtain⟨c,hk,hT,BE,hv⟩:=Kc hk;exact⟨c,[],none,hk,.inl hT,Ok BE,by simp,by simp,fun fz h1 h2 v hc=>Io hT ((hv w _ β v hc).1.step (B6.refl _ _) (fun b _ hb=>K9 hb))⟩
 unfold YU at hk;cases t with
 |sl es=>
  dsimp only at hk;cases mv<;>simp only[cond_true,cond_false] at hk
  ·exact frz hk
  ·split at hk
   ·rename_i id es' off n;split at hk
    ·rename_i c h0;cases hb:(Nat.beq es' es&&Nat.beq off 0)<;>rw[hb] at hk<;>simp only[cond_true,cond_false] at hk
     ·exact frz hk
     ·simp only[Bool.and_eq_true] at hb;have he:=Nat.eq_of_beq_eq_true hb.1;have hof:=Nat.eq_of_beq_eq_true hb.2;subst he hof;obtain⟨hl,hk⟩:=Al hk;refine⟨_,[],some id,hk,.inr ⟨_,_,_,rfl⟩,trivial,by simp,fun i hi=>by cases hi;exact⟨c,h0⟩,fun fz h1 h2 v hc=>?_⟩
      rcases hc with⟨h3,_,rfl,h4⟩|⟨b,ob,x,cap,h3,h4,hx,h5,h6,h7⟩
      ·exact .inl ⟨h3,rfl,by simp,h4⟩
      ·have hx:x=ob:=by rcases hx with e|⟨_,e⟩<;>omega
       subst hx;rcases h.box id _ h0 with⟨h8,_⟩|⟨b',o',h8,h9,ZN,_⟩
       ·rw[h3] at h8;cases h8
       ·rw[h3] at h8;cases h8;refine .inr ⟨b,x,cap,h3,h4,h5,h6,h7,fun j p hj=>?_,ZN rfl⟩
        rw[List.getElem?_take] at hj;split at hj
        ·obtain⟨u,hu,h11,ht⟩:=h9 j p hj;exact⟨u,hu,h11,ht.step (B6.refl _ _) (fun b _ hb=>K9 hb)⟩
        ·cases hj
    ·exact frz hk
   ·obtain⟨z,n,c,hk,hp⟩:=Ew hk;have hpF:GD p:=by rcases hp with e|⟨e,_⟩<;>(rw[e];trivial)
    cases z<;>simp only[cond_true,cond_false] at hk
    ·refine⟨_,[],none,hk,.inl trivial,hpF,by simp,by simp,fun fz h1 h2 v hc=>?_⟩
     exact Io trivial ((Sp hp hc).step (B6.refl _ _) (fun b _ hb=>K9 hb))
    ·refine⟨_,[],none,hk,.inr ⟨_,_,_,rfl⟩,hpF,by simp,by simp,fun fz h1 h2 v hc=>.inl ⟨rfl,rfl,rfl,none,?_⟩⟩
     have:=Sp hp hc;cases this;rfl
 |int k=>exact tree (by simp) hk
 |bool=>exact tree (by simp) hk
 |str=>exact tree (by simp) hk
 |any=>exact tree (by simp) hk
theorem Rf (h:Cl N w0 X0 Y β s a w){mv:Bool}:∀{ts:List CT}{ps:List PV}{K:List PV->List Nat->List Nat->Option R},Ys mv s.hp ts ps K=some r ->
  ∃cs m x,∃q:Nat->Option Nat,K cs m x=some r∧cs.length=ts.length∧ps.length=ts.length∧(∀c∈cs,isA c)∧(∀p∈ps,GD p)∧(∀id∈m,∃f cc,s.hp id=some (.ar f cc))∧(∀id∈x,∃cc,s.hp id=some (.ar false cc)) ∧
   (∀j id,q j=some id->id∈x)∧(Dv x=true->∀j j' id,q j=some id->q j'=some id->j=j') ∧
   ∀fz:List Nat,(∀id∈m,id∈fz)->(∀id∈fz,∃f cc,s.hp id=some (.ar f cc))->∀vs,Bc (Bw w (Cw s.hp β Y) β) ps vs->∀(own:Bt) j0,(∀j,own (j0+j)=(q j).bind β)->Ed w (Cw (Af s.hp fz) β Y) own j0 cs vs
 |[],[],K,hk=>⟨[],[],[],fun _=>none,hk,rfl,rfl,by simp,by simp,by simp,by simp,by simp,by simp,fun fz _ _ vs hv own j0 _=>by
   cases vs with
   |nil=>trivial
   |cons v vs=>exact hv.elim⟩
 |[],_::_,K,hk=>by cases hk
 |_::_,[],K,hk=>by cases hk
 |t::ts,p::ps,K,hk=>by
  unfold Ys at hk;obtain⟨c,m,q,hk,hA,hF,hm,hq,hv⟩:=Agq h hk;obtain⟨cs,ms,xs,qs,hk,hl,Ib,hAs,hFs,CL,FC,hqx,hqi,O9⟩:=Rf h hk;refine⟨c::cs,m++ms,q.toList++xs,fun j=>match j with|0=>q|j+1=>qs j,hk,by simp[hl],by simp[Ib],?_,?_,?_,?_,?_,?_,?_⟩
  ·intro x hx;rcases List.mem_cons.1 hx with rfl|hx
   ·exact hA
   ·exact hAs x hx
  ·intro x hx;rcases List.mem_cons.1 hx with rfl|hx
   ·exact hF
   ·exact hFs x hx
  ·intro i hi;rcases List.mem_append.1 hi with hi|hi
   ·exact hm i hi
   ·exact CL i hi
  ·intro i hi;rcases List.mem_append.1 hi with hi|hi
   ·exact hq i (by simpa using hi)
   ·exact FC i hi
  ·intro j id hj;cases j with
   |zero=>exact List.mem_append.2 (.inl (by simpa using hj))
   |succ j=>exact List.mem_append.2 (.inr (hqx j id hj))
  ·intro hn j j' id hj Pc;obtain⟨_,h2,h3⟩:=G6 hn;cases j with
   |zero=>
    cases j' with
    |zero=>rfl
    |succ j'=>exact absurd (hqx j' id Pc) (h3 id (by simpa using hj))
   |succ j=>
    cases j' with
    |zero=>exact absurd (hqx j id hj) (h3 id (by simpa using Pc))
    |succ j'=>rw[hqi h2 j j' id hj Pc]
  ·intro fz h1 h2 vs h3 own j0 Fj;cases vs with
   |nil=>exact h3.elim
   |cons v vs=>
    refine⟨?_,O9 fz (fun i hi=>h1 i (by simp[hi])) h2 vs h3.2 own (j0+1) fun j=>?_⟩
    ·have:=Fj 0;rw[Nat.add_zero] at this;rw[this];exact hv fz (fun i hi=>h1 i (by simp[hi])) h2 v h3.1
    ·have:=Fj (j+1);rw[show j0+1+j=j0+(j+1) by omega]
     exact this
def LOk (hp:Nat->Option Bl)(q:Option (Nat × Nat)) (p:PV)(x:Fw):Prop:=
 match x with
 |.var id off cts ws=>p=.pbox ws∧q=some (id,off)∧cts.length=ws.length∧∃c,hp id=some (.st c)∧off+ws.length<=c.length
 |.row id=>(∃ps,p=.tup ps)∧q=some (id,0)∧∃c,hp id=some (.ar false c)
 |.none=>(∃ps,p=.tup ps)∧q=none
theorem YH {hp:Nat->Option Bl}{q:Option (Nat × Nat)} {p:PV}{x:Fw}(h:LOk hp q p x):V7 p=true:=by
 cases x with
 |var id off cts ws=>rw[h.1];rfl
 |row id=>obtain⟨⟨_,e⟩,_⟩:=h;rw[e];rfl
 |none=>obtain⟨⟨_,e⟩,_⟩:=h;rw[e];rfl
def Mg (hp:Nat->Option Bl)(src:Nat->Nat->Option (Nat × Nat)):Nat->List PV->List Fw->Prop
 |_,[],l=>l=[]
 |i,p::ps,l=>(V7 p=false∧src i 0=none∧Mg hp src (i+1) ps l)∨∃x l',l=x::l'∧LOk hp (src i 0) p x∧Mg hp src (i+1) ps l'
theorem WH (h:Cl N w0 X0 Y β s a w){C:F4}{f:FuncId}{i:Nat}{t:TypeId}{x:Operand}{K:PV->List Nat->List Nat->List Fw->Option R}(hk:Xo C P f s.hp i t (Bz s.tm x) K=some r):
  ∃v m y l,∃src:Nat->Option (Nat × Nat),K v m y l=some r∧(∀id∈m,∃f cc,s.hp id=some (.ar f cc))∧(∀id∈y,∃cc,s.hp id=some (.ar false cc)) ∧
   (∀j id off,src (j+1)=some (id,off)->off=0∧id∈y)∧(Dv y=true->∀j j' id off off',src (j+1)=some (id,off)->src (j'+1)=some (id,off')->j=j') ∧
   ((l=[]∧V7 v=false∧src 0=none)∨∃x',l=[x']∧LOk s.hp (src 0) v x') ∧
   ∀fz:List Nat,(∀id∈m,id∈fz)->(∀id∈fz,∃f cc,s.hp id=some (.ar f cc))->∀bt:Bt,(∀j,bt j=(src j).bind (F5 β))->OQ w (Cw (Af s.hp fz) β Y) bt v (a.eval x):=by
 have hx:=Cq h x
 have Uf:∀(q0:Option (Nat × Nat)) (q:Nat->Option Nat),∃src:Nat->Option (Nat × Nat),src 0=q0∧(∀j,src (j+1)=(q j).map fun id=>(id,0)):=
  fun q0 q=>⟨fun j=>match j with|0=>q0|j+1=>(q j).map fun id=>(id,0),rfl,fun _=>rfl⟩
 have NQ:∀{src:Nat->Option (Nat × Nat)} {q:Nat->Option Nat} {y:List Nat},(∀j,src (j+1)=(q j).map fun id=>(id,0))->(∀j id,q j=some id->id∈y)->∀j id off,src (j+1)=some (id,off)->off=0∧id∈y:=by
  intro src q y h1 h2 j id off hj;rw[h1] at hj;cases hq:q j with
  |none=>rw[hq] at hj;cases hj
  |some k=>rw[hq] at hj;cases hj;exact⟨rfl,h2 j _ hq⟩
 have QQ:∀{src:Nat->Option (Nat × Nat)} {q:Nat->Option Nat} {y:List Nat},(∀j,src (j+1)=(q j).map fun id=>(id,0))->(Dv y=true->∀j j' id,q j=some id->q j'=some id->j=j') ->
   Dv y=true->∀j j' id off off',src (j+1)=some (id,off)->src (j'+1)=some (id,off')->j=j':=by
  intro src q y h1 h2 hn j j' id off off' hj Pc;rw[h1] at hj Pc;cases hq:q j with
  |none=>rw[hq] at hj;cases hj
  |some k=>
   cases E2:q j' with
   |none=>rw[E2] at Pc;cases Pc
   |some k'=>
    rw[hq] at hj;rw[E2] at Pc;cases hj;cases Pc;exact h2 hn j j' _ hq E2
 have Fj:∀{src:Nat->Option (Nat × Nat)} {q:Nat->Option Nat} {bt:Bt},(∀j,src (j+1)=(q j).map fun id=>(id,0))->(∀j,bt j=(src j).bind (F5 β))->∀j,bt (1+j)=(q j).bind β:=by
  intro src q bt h1 h2 j;rw[Nat.add_comm,h2,h1];cases q j with
  |none=>rfl
  |some id=>exact VX β id
 unfold Xo at hk;split at hk
 ·rename_i e he;split at hk
  ·rename_i id off ep;rw[ep] at hx;split at hk
   ·rename_i c h0;obtain⟨hb,hk⟩:=Al hk;simp only[Bool.and_eq_true,decide_eq_true_eq] at hb;obtain⟨cs,m,y,q,hk,hl,Ib,hA,hF,hm,hy,Rv,Kp,hv⟩:=Rf h hk;obtain⟨src,SA,hs⟩:=Uf (some (id,off)) q;obtain⟨b,ob,hβ,Cz⟩:=hx;refine⟨_,m,y,_,src,hk,hm,hy,NQ hs Rv,QQ hs Kp,.inr ⟨_,rfl,rfl,SA,hl.symm,c,h0,by omega⟩,fun fz h1 h2 bt Td=>?_⟩
    obtain⟨b',o',En,G3,Sk⟩:=h.box id _ h0;rw[hβ] at En;cases En;have Dj:((c.drop off).take (G1 P e).length).length=(G1 P e).length:=by simp;omega
    have Af5:∀j p,((c.drop off).take (G1 P e).length)[j]?=some p->c[off+j]?=some p∧j<(G1 P e).length:=by
     intro j p hj;rw[List.getElem?_take] at hj;split at hj
     ·rw[List.getElem?_drop] at hj;exact⟨hj,by assumption⟩
     ·cases hj
    refine⟨b,ob+off,by rw[Td,SA];simp[F5,hβ],Cz,hA,((c.drop off).take (G1 P e).length).mapIdx (fun j _=>(w.cell? ⟨b,ob+off+j,none⟩).getD undef),hv fz h1 h2 _ ?_ bt 1 (Fj hs Td),?_,fun k hk=>?_⟩
    ·refine Bc.of_at (by simp) fun j p v hp hv=>?_
     obtain⟨hc,_⟩:=Af5 j p hp;obtain⟨u,hu,ON⟩:=G3 _ _ hc;rw[List.getElem?_mapIdx,hp,Option.map_some,Nat.add_assoc,hu] at hv;simp at hv;subst hv;exact ON
    ·intro k v ZP;rw[List.getElem?_mapIdx] at ZP;cases hp:((c.drop off).take (G1 P e).length)[k]? with
     |none=>rw[hp] at ZP;cases ZP
     |some p=>
      obtain⟨hc,_⟩:=Af5 k p hp;obtain⟨u,hu,ON⟩:=G3 _ _ hc;rw[hp,Option.map_some,Nat.add_assoc,hu] at ZP;simp at ZP;subst ZP;rw[Nat.add_assoc];exact hu
    ·rw[Nat.add_assoc];exact Sk _ (by omega)
   ·cases hk
  ·cases hk
 ·cases hln:C.lnd f i<;>rw[hln] at hk<;>simp only[cond_true,cond_false] at hk
  ·cases Fc:B4 P t<;>rw[Fc] at hk<;>simp only[cond_true,cond_false] at hk
   ·obtain⟨cs,m,y,q,hk,hl,Ib,hA,hF,hm,hy,Rv,Kp,hv⟩:=Rf h hk;obtain⟨c,t',rfl,hk⟩:=A7 hk;obtain⟨rfl,hk⟩:=Dc hk;obtain⟨src,SA,hs⟩:=Uf none q;have hAc:=hA c (by simp)
    refine⟨c,m,y,_,src,hk,hm,hy,NQ hs Rv,QQ hs Kp,.inl ⟨rfl,Aj9 hAc,SA⟩,fun fz h1 h2 bt Td=>?_⟩
    have hFx:=hF _ (List.mem_singleton_self _)
    have hxc:Bw w (Cw s.hp β Y) β (Bz s.tm x) (a.eval x):=by
     cases hp:Bz s.tm x<;>rw[hp] at hx hFx<;>first|exact hx|exact hFx.elim
    have hoc:=(hv fz h1 h2 [a.eval x] ⟨hxc,trivial⟩ bt 1 (Fj hs Td)).1;rcases hAc with hT|⟨es,n,cc,rfl⟩
    ·cases c<;>first|exact⟨.inl trivial,hoc⟩|exact hT.elim
    ·exact⟨.inr ⟨_,_,_,rfl⟩,hoc⟩
   ·obtain⟨ps,ep,hk⟩:=Gb hk;rw[ep] at hx;obtain⟨vs,Cz,h3⟩:=hx;obtain⟨cs,m,y,q,hk,hl,Ib,hA,hF,hm,hy,Rv,Kp,hv⟩:=Rf h hk;obtain⟨src,SA,hs⟩:=Uf none q;refine⟨_,m,y,_,src,hk,hm,hy,NQ hs Rv,QQ hs Kp,.inl ⟨rfl,rfl,SA⟩,fun fz h1 h2 bt Td=>?_⟩
    exact⟨vs,Cz,hA,hv fz h1 h2 vs h3 bt 1 (Fj hs Td)⟩
  ·obtain⟨e,he,hk⟩:=B7 hk;unfold Aft at hk;split at hk
   ·rename_i id es' off n ep;rw[ep] at hx;split at hk
    ·rename_i c h0;obtain⟨hb,D8⟩:=Al hk;simp only[Bool.and_eq_true] at hb;have he:=Nat.eq_of_beq_eq_true hb.1;have hof:=Nat.eq_of_beq_eq_true hb.2;subst hof;obtain⟨src,SA,hs⟩:=Uf (some (id,0)) (fun _=>none)
     refine⟨_,[],[],_,src,D8,by simp,by simp,NQ hs (by simp),QQ hs (by simp),.inr ⟨_,rfl,⟨_,rfl⟩,SA,c,h0⟩,fun fz h1 h2 bt Td=>⟨_,_,_,rfl,?_⟩⟩
     have FJ:bt 0=β id:=by rw[Td,SA];exact VX β id
     rw[FJ];rcases hx with⟨h3,_,h4,h5⟩|⟨b,ob,y,cap,h3,h4,hy,h5,h6,h7⟩
     ·refine .inl ⟨h3,h4,?_,h5⟩;rcases h.box id _ h0 with⟨_,h8⟩|⟨_,_,h8,_⟩
      ·exact h8
      ·rw[h3] at h8;cases h8
     ·have hy:y=ob:=by rcases hy with e|⟨_,e⟩<;>omega
      subst hy;rcases h.box id _ h0 with⟨h8,_⟩|⟨b',o',h8,h9,ZN,_⟩
      ·rw[h3] at h8;cases h8
      ·rw[h3] at h8;cases h8;exact .inr ⟨b,y,cap,h3,h4,h5,by rw[←he];exact h6,h7,h9.weak (fun b _ hb=>K9 hb),ZN rfl⟩
    ·cases hk
   ·obtain⟨z,n,c,hk,hp⟩:=Ew hk;obtain⟨hz,hk⟩:=Al hk;subst hz;obtain⟨src,SA,hs⟩:=Uf none (fun _=>none)
    have hu:a.eval x=.slice none 0 0:=by
     have hF:Bw w (Cw s.hp β Y) β (Bz s.tm x) (a.eval x):=by rcases hp with e|⟨e,_⟩<;>rw[e] at hx ⊢ <;> exact hx
     have:=Sp hp hF;generalize a.eval x=u at this;cases this;rfl
    refine⟨_,[],[],_,src,hk,by simp,by simp,NQ hs (by simp),QQ hs (by simp),.inr ⟨_,rfl,⟨_,rfl⟩,SA⟩,fun fz h1 h2 bt Td=>⟨_,_,_,rfl,.inl ⟨by rw[Td,SA];rfl,rfl,rfl,none,hu⟩⟩⟩
structure A0n (i0 n:Nat) (src:Nat->Nat->Option (Nat × Nat)) (ids x:List Nat):Prop where
 dom:∀i j q,src i j=some q->i0<=i∧i<i0+n
 lent:∀i id off,src i 0=some (id,off)->id∈ids
 mvd:∀i j id off,src i (j+1)=some (id,off)->off=0∧id∈x
 inj0:Dv ids=true->∀i i' id off off',src i 0=some (id,off)->src i' 0=some (id,off')->i=i'
 inj1:Dv x=true->∀i i' j j' id off off',src i (j+1)=some (id,off)->src i' (j'+1)=some (id,off')->i=i'∧j=j'
theorem Sx {hp:Nat->Option Bl}{src src':Nat->Nat->Option (Nat × Nat)}:∀{ps:List PV}{i:Nat}{l:List Fw},(∀k,i<=k->src' k=src k)->Mg hp src i ps l->Mg hp src' i ps l
 |[],_,_,_,h=>h
 |p::ps,i,l,hs,h=>by
  rcases h with⟨h1,h2,h3⟩|⟨x,l',rfl,h2,h3⟩
  ·exact .inl ⟨h1,by rw[hs i (Nat.le_refl _)];exact h2,Sx (fun k hk=>hs k (by omega)) h3⟩
  ·exact .inr ⟨x,l',rfl,by rw[hs i (Nat.le_refl _)];exact h2,Sx (fun k hk=>hs k (by omega)) h3⟩
theorem Yt {bt bt':V6}:∀{ps:List PV}{us:List Value}{i:Nat},(∀k,i<=k->∀j,bt' k j=bt k j)->Jb w A bt i ps us->Jb w A bt' i ps us
 |[],[],_,_,_=>trivial
 |[],_::_,_,_,h=>h.elim
 |_::_,[],_,_,h=>h.elim
 |_::_,_::_,i,hb,h=>⟨by rw[show bt' i=bt i from funext (hb i (Nat.le_refl _))];exact h.1,Yt (fun k hk=>hb k (by omega)) h.2⟩
theorem GQ (h:Cl N w0 X0 Y β s a w){C:F4}{f:FuncId}:∀{ts:List TypeId}{xs:List Operand}{i:Nat}{K:List PV->List Nat->List Nat->List Fw->Option R},JH C P f s.hp i ts (xs.map (Bz s.tm)) K=some r ->
  ∃vs m y l,∃src:Nat->Nat->Option (Nat × Nat),K vs m y l=some r∧(∀id∈m,∃f cc,s.hp id=some (.ar f cc))∧(∀id∈y,∃cc,s.hp id=some (.ar false cc)) ∧
   A0n i xs.length src (l.flatMap Fw.ids) y∧Mg s.hp src i vs l ∧
   ∀fz:List Nat,(∀id∈m,id∈fz)->(∀id∈fz,∃f cc,s.hp id=some (.ar f cc))->∀bt:V6,(∀i j,bt i j=(src i j).bind (F5 β))->Jb w (Cw (Af s.hp fz) β Y) bt i vs (xs.map a.eval)
 |[],[],i,K,hk=>⟨[],[],[],[],fun _ _=>none,hk,by simp,by simp,⟨by simp,by simp,by simp,by simp,by simp⟩,rfl,fun _ _ _ _ _=>trivial⟩
 |[],_::_,i,K,hk=>by cases hk
 |_::_,[],i,K,hk=>by cases hk
 |t::ts,x::xs,i,K,hk=>by
  simp only[List.map_cons] at hk;unfold JH at hk;obtain⟨v,m,y,l,src,hk,hm,hy,hs1,Sd,hl,hv⟩:=WH h hk;obtain⟨vs,ms,ys,ls,srcs,hk,CL,hys,hS,hL,O9⟩:=GQ h hk;have Uf:∃sr:Nat->Nat->Option (Nat × Nat),sr i=src∧∀k,k≠i->sr k=srcs k:=⟨fun k=>if k=i then src else srcs k,by simp,fun k hk=>by simp[hk]⟩
  obtain⟨sr,hsi,YQ⟩:=Uf
  have FV:∀id off,src 0=some (id,off)->id∈l.flatMap Fw.ids:=by
   intro id off e;rcases hl with⟨_,_,h3⟩|⟨x',rfl,h3⟩
   ·rw[h3] at e;cases e
   ·cases x' with
    |var id' off' cts ws=>rw[h3.2.1] at e;cases e;simp[Fw.ids]
    |row id'=>rw[h3.2.1] at e;cases e;simp[Fw.ids]
    |none=>rw[h3.2] at e;cases e
  refine⟨v::vs,m++ms,y++ys,l++ls,sr,hk,?_,?_,⟨?_,?_,?_,?_,?_⟩,?_,fun fz h1 h2 bt Td=>⟨?_,?_⟩⟩
  ·intro i hi;rcases List.mem_append.1 hi with hi|hi
   ·exact hm i hi
   ·exact CL i hi
  ·intro i hi;rcases List.mem_append.1 hi with hi|hi
   ·exact hy i hi
   ·exact hys i hi
  ·intro k j q hq;simp only[List.length_cons];by_cases e:k=i
   ·subst e;omega
   ·rw[YQ k e] at hq;have:=hS.dom k j q hq;omega
  ·intro k id off hq;rw[List.flatMap_append];by_cases e:k=i
   ·subst e;rw[hsi] at hq;exact List.mem_append.2 (.inl (FV id off hq))
   ·rw[YQ k e] at hq;exact List.mem_append.2 (.inr (hS.lent k id off hq))
  ·intro k j id off hq;by_cases e:k=i
   ·subst e;rw[hsi] at hq;exact⟨(hs1 j id off hq).1,List.mem_append.2 (.inl (hs1 j id off hq).2)⟩
   ·rw[YQ k e] at hq;exact⟨(hS.mvd k j id off hq).1,List.mem_append.2 (.inr (hS.mvd k j id off hq).2)⟩
  ·intro hn k k' id off off' hq E2;rw[List.flatMap_append] at hn;obtain⟨_,h4,h5⟩:=G6 hn;by_cases e:k=i
   ·by_cases e':k'=i
    ·omega
    ·rw[YQ k' e'] at E2;subst e;rw[hsi] at hq;exact absurd (hS.lent k' id off' E2) (h5 id (FV id off hq))
   ·rw[YQ k e] at hq;by_cases e':k'=i
    ·subst e';rw[hsi] at E2;exact absurd (hS.lent k id off hq) (h5 id (FV id off' E2))
    ·rw[YQ k' e'] at E2;exact hS.inj0 h4 k k' id off off' hq E2
  ·intro hn k k' j j' id off off' hq E2;obtain⟨h3,h4,h5⟩:=G6 hn;by_cases e:k=i
   ·by_cases e':k'=i
    ·subst e;subst e';rw[hsi] at hq E2;exact⟨rfl,Sd h3 j j' id off off' hq E2⟩
    ·rw[YQ k' e'] at E2;subst e;rw[hsi] at hq;exact absurd (hS.mvd k' j' id off' E2).2 (h5 id (hs1 j id off hq).2)
   ·rw[YQ k e] at hq;by_cases e':k'=i
    ·subst e';rw[hsi] at E2;exact absurd (hS.mvd k j id off hq).2 (h5 id (hs1 j' id off' E2).2)
    ·rw[YQ k' e'] at E2;exact hS.inj1 h4 k k' j j' id off off' hq E2
  ·have Sh:Mg s.hp sr (i+1) vs ls:=Sx (fun k hk=>YQ k (by omega)) hL
   rcases hl with⟨rfl,hnp,h3⟩|⟨x',rfl,h3⟩
   ·exact .inl ⟨hnp,by rw[hsi];exact h3,Sh⟩
   ·exact .inr ⟨x',ls,rfl,by rw[hsi];exact h3,Sh⟩
  ·exact hv fz (fun i hi=>h1 i (by simp[hi])) h2 (bt i) (fun j=>by rw[Td,hsi])
  ·refine O9 fz (fun i hi=>h1 i (by simp[hi])) h2 (fun k j=>(srcs k j).bind (F5 β)) (fun _ _=>rfl) |> Yt fun k hk j=>?_
   rw[Td,YQ k (by omega)]
end
open Go.RowKit
section
variable {R:Type} {r:R} {P:Program} {N:Nat} {w0:World} {X0:Gu} {Y:Nat->Prop} {β β':Bt} {s:St} {a:Act} {w w':World} {o:Oper} {A:Nat->Prop}
theorem Agt {p:PV}{u:Value}(h:Au w A p u):Bw w A β p u:=by
 have h0:=h;cases h<;>exact h0
theorem Afv {t:Nat}{ct:CT}{was p:PV}{K:Nat->PV->List (Nat × Bl)->Option R} (hk:ZH N t ct was p K=some r):
  (∃c,K t c []=some r∧Sg c∧∀w A q u,Fm w A q p u->Au w A c u)∨∃es n cc,p=.own es n cc∧K (t+1) (.view (RT N t) es 0 n) [(RT N t,.ar false cc)]=some r:=by
 have tree:∀t',(Xg t' p fun c=>K t c [])=some r->∃c,K t c []=some r∧Sg c∧∀w A q u,Fm w A q p u->Au w A c u:=by
  intro t' hk;obtain⟨c,hk,hT,BE,hv⟩:=Kc hk;refine⟨c,hk,hT,fun w A q u h=>(hv w A (fun _=>none) u ?_).1⟩
  cases p<;>first|exact h|exact BE.elim
 unfold ZH at hk;cases ct with
 |sl es=>
  dsimp only at hk;split at hk
  ·unfold FE at hk;split at hk
   ·rename_i es' n c;cases hb:Nat.beq es' es<;>rw[hb] at hk
    ·cases hk
    ·have:=Nat.eq_of_beq_eq_true hb;subst this;exact .inr ⟨_,_,_,rfl,hk⟩
   ·cases hk
  ·have h2:(Xg (.sl es) p fun c=>(match c with | .lst _ es n c=>K t (.lst false es n c) []|_=>none))=some r:=hk
   obtain⟨c,hk,hT,BE,hv⟩:=Kc h2;split at hk
   ·refine .inl ⟨_,hk,hT,fun w A q u h=>Au.unz (hv w A (fun _=>none) u ?_).1⟩
    cases p<;>first|exact h|exact BE.elim
   ·cases hk
 |int k=>exact .inl (tree _ hk)
 |bool=>exact .inl (tree _ hk)
 |str=>exact .inl (tree _ hk)
 |any=>exact .inl (tree _ hk)
theorem Wy:∀{cts:List CT}{ws ps:List PV}{t:Nat}{K:Nat->List PV->List (Nat × Bl)->Option R},IM N t cts ws ps K=some r ->
  ∃t' cs bs,∃qs:List (Nat × Nat),K t' cs bs=some r∧cs.length=ps.length∧ps.length=ws.length∧bs.map (·.1)=qs.map (·.1)∧(∀q∈qs,(∃k,q.1=RT N k)∧q.2<ps.length)∧(∀q∈qs,∀q'∈qs,q.2=q'.2->q.1=q'.1) ∧
   (∀i bx,(i,bx)∈bs->∃c,bx=.ar false c)∧(∀c∈cs,∀i∈An c,∃bx,(i,bx)∈bs) ∧
   ∀(w:World) (A:Nat->Prop) (own β':Bt) (j0:Nat) (us:List Value),(∀q∈qs,β' q.1=own (j0+q.2))->Ed w A own j0 ps us->Bc (Bw w A β') cs us∧∀i bx,(i,bx)∈bs->Ol w A β' i bx
 |[],[],ps,t,K,hk=>by
  obtain⟨rfl,hk⟩:=Dc hk;refine⟨t,[],[],[],hk,rfl,rfl,rfl,by simp,by simp,by simp,by simp,fun w A own β' j0 us _ h=>⟨?_,by simp⟩⟩
  cases us with
  |nil=>trivial
  |cons u us=>exact h.elim
 |[],_::_,_,_,_,hk=>by cases hk
 |_::_,[],_,_,_,hk=>by cases hk
 |ct::cts,x::ws,ps,t,K,hk=>by
  unfold IM at hk;obtain⟨p,ps',Zk,Dm⟩:=A7 hk;subst Zk;rcases Afv Dm with⟨c,D8,hT,hv⟩|⟨es,n,cc,rfl,D8⟩
  ·obtain⟨t',cs,bs,qs,Jn,hl,Ib,hb,Rv,Kp,En,G3,O9⟩:=Wy D8;refine⟨t',c::cs,bs,qs.map (fun q=>(q.1,q.2+1)),Jn,by simp[hl],by simp[Ib],by rw[hb];simp,?_,?_,En,?_,fun w A own β' j0 us hβ ho=>?_⟩
   ·intro q hq;obtain⟨q0,R0,rfl⟩:=List.mem_map.1 hq;exact⟨(Rv q0 R0).1,by have:=(Rv q0 R0).2;simp only[List.length_cons];omega⟩
   ·intro q hq q' E2 e;obtain⟨q0,R0,rfl⟩:=List.mem_map.1 hq;obtain⟨q1,Hz,rfl⟩:=List.mem_map.1 E2;exact Kp q0 R0 q1 Hz (by simp only at e;omega)
   ·intro y hy i hi;rcases List.mem_cons.1 hy with rfl|hy
    ·rw[Gq hT] at hi;cases hi
    ·exact G3 y hy i hi
   ·cases us with
    |nil=>exact ho.elim
    |cons u us=>
     obtain⟨h1,h2⟩:=O9 w A own β' (j0+1) us (fun q hq=>by rw[hβ _ (List.mem_map_of_mem hq)];congr 1;simp only;omega) ho.2
     exact⟨⟨Agt (hv w A _ u ho.1),h1⟩,h2⟩
  ·obtain⟨t',cs,bs,qs,Jn,hl,Ib,hb,Rv,Kp,En,G3,O9⟩:=Wy D8;refine⟨t',_::cs,(RT N t,.ar false cc)::bs,(RT N t,0)::qs.map (fun q=>(q.1,q.2+1)),Jn,by simp[hl],by simp[Ib],by simp only[List.map_cons,hb];simp,?_,?_,?_,?_,fun w A own β' j0 us hβ ho=>?_⟩
   ·intro q hq;rcases List.mem_cons.1 hq with rfl|hq
    ·exact⟨⟨t,rfl⟩,by simp⟩
    ·obtain⟨q0,R0,rfl⟩:=List.mem_map.1 hq;exact⟨(Rv q0 R0).1,by have:=(Rv q0 R0).2;simp only[List.length_cons];omega⟩
   ·intro q hq q' E2 e;rcases List.mem_cons.1 hq with rfl|hq
    ·rcases List.mem_cons.1 E2 with rfl|E2
     ·rfl
     ·obtain⟨q0,R0,rfl⟩:=List.mem_map.1 E2;simp only at e;omega
    ·obtain⟨q0,R0,rfl⟩:=List.mem_map.1 hq;rcases List.mem_cons.1 E2 with rfl|E2
     ·simp only at e;omega
     ·obtain⟨q1,Hz,rfl⟩:=List.mem_map.1 E2;exact Kp q0 R0 q1 Hz (by simp only at e;omega)
   ·intro i bx hm;rcases List.mem_cons.1 hm with e|hm
    ·cases e;exact⟨cc,rfl⟩
    ·exact En i bx hm
   ·intro y hy i hi;rcases List.mem_cons.1 hy with rfl|hy
    ·simp only[An,List.mem_singleton] at hi;subst hi;exact⟨_,List.mem_cons_self⟩
    ·obtain⟨bx,Jl⟩:=G3 y hy i hi;exact⟨bx,List.mem_cons_of_mem _ Jl⟩
   ·cases us with
    |nil=>exact ho.elim
    |cons u us=>
     obtain⟨h1,h2⟩:=O9 w A own β' (j0+1) us (fun q hq=>by rw[hβ _ (List.mem_cons_of_mem _ (List.mem_map_of_mem hq))];congr 1;simp only;omega) ho.2
     have h0:=hβ (RT N t,0) List.mem_cons_self;simp only[Nat.add_zero] at h0;refine⟨⟨?_,h1⟩,fun i bx hm=>?_⟩
     ·rcases ho.1 with⟨h3,rfl,_,h5⟩|⟨b,ob,cap,h3,h4,h5,h6,h7,_⟩
      ·exact .inl ⟨h0.trans h3,rfl,rfl,h5⟩
      ·exact .inr ⟨b,ob,ob,cap,h0.trans h3,h4,.inl rfl,h5,h6,h7⟩
     ·rcases List.mem_cons.1 hm with e|hm
      ·cases e;exact Ty ho.1 h0
      ·exact h2 i bx hm
def SM (hp Cn:Nat->Option Bl)(bs:List (Nat × Bl)) (x:Fw):Prop:=
 match x with
 |.var id off _ ws=>∃c cs,hp id=some (.st c)∧Cn id=some (.st (Ca c cs off))∧cs.length=ws.length∧off+cs.length<=c.length∧∀p∈cs,∀i∈An p,∃bx,(i,bx)∈bs
 |.row id=>∃c cs,hp id=some (.ar false c)∧Cn id=some (.ar false cs)
 |.none=>True
def Ac3 (β β':Bt)(w':World)(A:Nat->Prop)(hp Cn:Nat->Option Bl)(x:Fw):Prop:=
 match x with
 |.var id off _ ws=>∃c cs,hp id=some (.st c)∧Cn id=some (.st (Ca c cs off))∧cs.length=ws.length∧off+cs.length<=c.length ∧
   ∀b o,β id=some (b,o)->(∀(j:Nat) p,cs[j]?=some p->∃v,w'.cell? ⟨b,o+off+j,none⟩=some v∧Bw w' A β' p v)∧∀j,j<cs.length->w'.frozen? ⟨b,o+off+j,none⟩=false
 |.row id=>∃cs,Cn id=some (.ar false cs)∧((β id=none∧cs=[])∨∃b o,β id=some (b,o)∧RY w' A ⟨b,o,none⟩ cs∧∀j,o<=j->j<bsz w' b->w'.frozen? ⟨b,j,none⟩=false)
 |.none=>True
theorem Tz {hp Cd Cn:Nat->Option Bl}{bs bs1:List (Nat × Bl)} {x:Fw}(h1:∀i∈x.ids,Cd i=hp i)(hb:∀q∈bs,q∈bs1)(h:SM Cd Cn bs x):SM hp Cn bs1 x:=by
 cases x with
 |var id off cts ws=>
  obtain⟨c,cs,h2,h3,h4,h5,h6⟩:=h;refine⟨c,cs,by rw[←h1 id (by simp[Fw.ids])];exact h2,h3,h4,h5,fun p hp i hi=>?_⟩
  obtain⟨bx,Jl⟩:=h6 p hp i hi;exact⟨bx,hb _ Jl⟩
 |row id=>
  obtain⟨c,cs,h2,h3⟩:=h;exact⟨c,cs,by rw[←h1 id (by simp[Fw.ids])];exact h2,h3⟩
 |none=>trivial
theorem Yj {hp Cd Cn:Nat->Option Bl}{x:Fw}(h1:∀i∈x.ids,Cd i=hp i)(h:Ac3 β β' w' A Cd Cn x):Ac3 β β' w' A hp Cn x:=by
 cases x with
 |var id off cts ws=>
  obtain⟨c,cs,h2,h3⟩:=h;exact⟨c,cs,by rw[←h1 id (by simp[Fw.ids])];exact h2,h3⟩
 |row id=>exact h
 |none=>trivial
theorem Aaj {hp Cd:Nat->Option Bl}{q:Option (Nat × Nat)} {p:PV}{x:Fw}(h1:∀i∈x.ids,Cd i=hp i)(h:LOk hp q p x):LOk Cd q p x:=by
 cases x with
 |var id off cts ws'=>
  obtain⟨h2,h3,h5,c,h6,h7⟩:=h;exact⟨h2,h3,h5,c,by rw[h1 id (by simp[Fw.ids])];exact h6,h7⟩
 |row id=>
  obtain⟨h2,h3,c,h4⟩:=h;exact⟨h2,h3,c,by rw[h1 id (by simp[Fw.ids])];exact h4⟩
 |none=>exact h
theorem Va {hp Cd:Nat->Option Bl}{src:Nat->Nat->Option (Nat × Nat)}:∀{ps:List PV}{i:Nat}{l:List Fw},(∀i∈l.flatMap Fw.ids,Cd i=hp i)->Mg hp src i ps l->Mg Cd src i ps l
 |[],_,_,_,h=>h
 |p::ps,i,l,hs,h=>by
  rcases h with⟨h1,h2,h3⟩|⟨x,l',rfl,h2,h3⟩
  ·exact .inl ⟨h1,h2,Va hs h3⟩
  ·exact .inr ⟨x,l',rfl,Aaj (fun k hk=>hs k (by simp only[List.flatMap_cons,List.mem_append];exact .inl hk)) h2,Va (fun k hk=>hs k (by simp only[List.flatMap_cons,List.mem_append];exact .inr hk)) h3⟩
theorem UX {own:Bt}{bt:V6}{j i:Nat}{p:PV}{zs:List PV}{r:List (List PV)} (hp:V7 p=false)(h:Sb w A own bt j i (p::zs) r):Sb w A own bt j (i+1) zs r:=by
 cases p<;>first|exact h|cases hp
theorem Pu {src:Nat->Nat->Option (Nat × Nat)} {β:Bt}:∀{zs:List PV}{l:List Fw}{ro:List (List PV)} {i j t:Nat}{hp:Nat->Option Bl}{K:(Nat->Option Bl)->List (Nat × Bl)->Option R},
  Sv N t l ro hp K=some r->Mg hp src i zs l->Dv (l.flatMap Fw.ids)=true ->
  ∃Cn bs,∃qs:List (Nat × Nat),K Cn bs=some r∧bs.map (·.1)=qs.map (·.1)∧(∀q∈qs,(∃k,q.1=RT N k)∧j<=q.2)∧(∀q∈qs,∀q'∈qs,q.2=q'.2->q.1=q'.1)∧(∀i bx,(i,bx)∈bs->∃c,bx=.ar false c) ∧
   (∀i,i ∉ l.flatMap Fw.ids->Cn i=hp i)∧(∀x∈l,SM hp Cn bs x) ∧
   ∀(w':World) (A:Nat->Prop) (own β':Bt) (bt:V6),(∀q∈qs,β' q.1=own q.2)->(∀i,bt i 0=(src i 0).bind (F5 β))->Sb w' A own bt j i zs ro ->
    (∀i bx,(i,bx)∈bs->Ol w' A β' i bx)∧∀x∈l,Ac3 β β' w' A hp Cn x
 |[],l,ro,i,j,t,hp,K,hk,hL,hn=>by
  have hL:l=[]:=hL;subst hL;unfold Sv at hk;obtain⟨rfl,hk⟩:=Dc hk;exact⟨hp,[],[],hk,rfl,by simp,by simp,by simp,fun _ _=>rfl,by simp,fun w' A own β' bt _ _ _=>⟨by simp,by simp⟩⟩
 |p::zs,l0,ro,i,j,t,hp,K,hk,hL0,hn=>by
  rcases hL0 with⟨Tn,_,hL⟩|⟨x,l,rfl,hok,hL⟩
  rotate_left
  ··simp only[List.flatMap_cons] at hn;obtain⟨PE,hn2,hn3⟩:=G6 hn;cases x with
    |var id off cts ws'=>
     obtain⟨rfl,Uf,Jg,c,hc,Y6⟩:=hok;unfold Sv at hk;obtain⟨cs,ro',hro,Dm⟩:=A7 hk;subst hro;obtain⟨t',cs',bs,qs,D8,DL,Pg,hb,Rv,Kp,En,G3,hv⟩:=Wy Dm;rw[hc] at D8;simp only at D8;change Sv N t' l ro' (Ch hp id (some (.st (Ca c cs' off)))) (fun Cn bs'=>K Cn (bs++bs'))=some r at D8
     have UK:id ∉ l.flatMap Fw.ids:=hn3 id (by simp[Fw.ids])
     have hL':Mg (Ch hp id (some (.st (Ca c cs' off)))) src (i+1) zs l:=Va (fun k hkm=>Ai _ _ (fun e=>UK (e ▸ hkm))) hL
     obtain⟨Cn,bs',qs',Jn,Gy,Hz,VR,SR,Jj,hsh,KD⟩:=Pu (β:=β) (j:=j+cs.length) D8 hL' hn2;have Adx:Cn id=some (.st (Ca c cs' off)):=by rw[Jj id UK,Am]
     have EF:∀x∈l,∀k∈x.ids,Ch hp id (some (.st (Ca c cs' off))) k=hp k:=fun x hx k hkm=>Ai _ _ (fun e=>UK (e ▸ List.mem_flatMap.2 ⟨x,hx,hkm⟩))
     refine⟨Cn,bs++bs',qs.map (fun q=>(q.1,j+q.2))++qs',Jn,by simp only[List.map_append,hb,Gy];simp,?_,?_,?_,?_,?_,fun w' A own β' bt hβ Td ho=>?_⟩
     ·intro q hq;rcases List.mem_append.1 hq with hq|hq
      ·obtain⟨q0,R0,rfl⟩:=List.mem_map.1 hq;exact⟨(Rv q0 R0).1,by simp only;omega⟩
      ·exact⟨(Hz q hq).1,by have:=(Hz q hq).2;omega⟩
     ·intro q hq q' E2 e;rcases List.mem_append.1 hq with hq|hq
      ·obtain⟨q0,R0,rfl⟩:=List.mem_map.1 hq;have:=(Rv q0 R0).2;rcases List.mem_append.1 E2 with E2|E2
       ·obtain⟨q1,Hz,rfl⟩:=List.mem_map.1 E2;exact Kp q0 R0 q1 Hz (by simp only at e;omega)
       ·have:=(Hz q' E2).2;simp only at e;omega
      ·have h5:=(Hz q hq).2;rcases List.mem_append.1 E2 with E2|E2
       ·obtain⟨q1,Au3,rfl⟩:=List.mem_map.1 E2;have:=(Rv q1 Au3).2;simp only at e;omega
       ·exact VR q hq q' E2 e
     ·intro k bx hm;rcases List.mem_append.1 hm with hm|hm
      ·exact En k bx hm
      ·exact SR k bx hm
     ·intro k hk;simp only[List.flatMap_cons,List.mem_append,not_or] at hk;rw[Jj k hk.2];exact Ai _ _ (by rintro rfl;exact hk.1 (by simp[Fw.ids]))
     ·intro x hx;rcases List.mem_cons.1 hx with rfl|hx
      ·refine⟨c,cs',hc,Adx,by omega,by omega,fun p hp k hk=>?_⟩
       obtain⟨bx,Jl⟩:=G3 p hp k hk;exact⟨bx,List.mem_append.2 (.inl Jl)⟩
      ·exact Tz (EF x hx) (fun q hq=>List.mem_append.2 (.inr hq)) (hsh x hx)
     ·obtain⟨⟨b,ob,FJ,Dj,vs,hov,Cp,hfr⟩,ho⟩:=ho
      ·obtain⟨h1,h2⟩:=hv w' A own β' j vs (fun q hq=>hβ _ (List.mem_append.2 (.inl (List.mem_map_of_mem hq)))) hov
       obtain⟨h3,h4⟩:=KD w' A own β' bt (fun q hq=>hβ q (List.mem_append.2 (.inr hq))) Td ho
       refine⟨fun k bx hm=>?_,fun x hx=>?_⟩
       ·rcases List.mem_append.1 hm with hm|hm
        ·exact h2 k bx hm
        ·exact h3 k bx hm
       ·rcases List.mem_cons.1 hx with rfl|hx
        ·refine⟨c,cs',hc,Adx,by omega,by omega,fun b1 o1 hβ1=>?_⟩
         have G3:=Td i;rw[FJ,Uf] at G3;simp only[Option.bind_some,F5,hβ1,Option.map_some,Option.some.injEq,Prod.mk.injEq] at G3;obtain⟨rfl,rfl⟩:=G3;refine⟨fun k p hp=>?_,fun k hk=>hfr k (by omega)⟩
         obtain⟨v,hv,ON⟩:=h1.get hp;exact⟨v,Cp k v hv,ON⟩
        ·exact Yj (EF x hx) (h4 x hx)
    |row id=>
     obtain⟨⟨pz,rfl⟩,Uf,c,hc⟩:=hok;unfold Sv at hk;obtain⟨cs,ro',hro,D8⟩:=A7 hk;subst hro;have UK:id ∉ l.flatMap Fw.ids:=hn3 id (by simp[Fw.ids])
     have hL':Mg (Ch hp id (some (.ar false cs))) src (i+1) zs l:=Va (fun k hkm=>Ai _ _ (fun e=>UK (e ▸ hkm))) hL
     obtain⟨Cn,bs',qs',Jn,Gy,Hz,VR,SR,Jj,hsh,KD⟩:=Pu (β:=β) (j:=j) D8 hL' hn2;have Adx:Cn id=some (.ar false cs):=by rw[Jj id UK,Am]
     have EF:∀x∈l,∀k∈x.ids,Ch hp id (some (.ar false cs)) k=hp k:=fun x hx k hkm=>Ai _ _ (fun e=>UK (e ▸ List.mem_flatMap.2 ⟨x,hx,hkm⟩))
     refine⟨Cn,bs',qs',Jn,Gy,Hz,VR,SR,?_,?_,fun w' A own β' bt hβ Td ho=>?_⟩
     ·intro k hk;simp only[List.flatMap_cons,List.mem_append,not_or] at hk;rw[Jj k hk.2];exact Ai _ _ (by rintro rfl;exact hk.1 (by simp[Fw.ids]))
     ·intro x hx;rcases List.mem_cons.1 hx with rfl|hx
      ·exact⟨c,cs,hc,Adx⟩
      ·exact Tz (EF x hx) (fun q hq=>hq) (hsh x hx)
     ·obtain⟨Aay,ho⟩:=ho
      ·obtain⟨h3,h4⟩:=KD w' A own β' bt hβ Td ho;refine⟨h3,fun x hx=>?_⟩
       rcases List.mem_cons.1 hx with rfl|hx
       ·refine⟨cs,Adx,?_⟩;have G3:=Td i;rw[Uf] at G3;simp only[Option.bind_some,VX] at G3;rw[G3] at Aay;exact Aay
       ·exact Yj (EF x hx) (h4 x hx)
    |none=>
     obtain⟨⟨pz,rfl⟩,Uf⟩:=hok;unfold Sv at hk;obtain⟨cs,ro',hro,D8⟩:=A7 hk;subst hro;obtain⟨Cn,bs',qs',Jn,Gy,Hz,VR,SR,Jj,hsh,KD⟩:=Pu (β:=β) (j:=j) D8 hL hn2;refine⟨Cn,bs',qs',Jn,Gy,Hz,VR,SR,?_,?_,fun w' A own β' bt hβ Td ho=>?_⟩
     ·intro k hk;simp only[List.flatMap_cons,List.mem_append,not_or] at hk;exact Jj k hk.2
     ·intro x hx;rcases List.mem_cons.1 hx with rfl|hx
      ·trivial
      ·exact hsh x hx
     ·obtain⟨Aay,ho⟩:=ho
      ·obtain⟨h3,h4⟩:=KD w' A own β' bt hβ Td ho;refine⟨h3,fun x hx=>?_⟩
       rcases List.mem_cons.1 hx with rfl|hx
       ·trivial
       ·exact h4 x hx
  ·obtain⟨Cn,bs',qs',Jn,Gy,Hz,VR,SR,Jj,hsh,KD⟩:=Pu (β:=β) (j:=j) hk hL hn;exact⟨Cn,bs',qs',Jn,Gy,Hz,VR,SR,Jj,hsh,fun w' A own β' bt hβ Td ho=>KD w' A own β' bt hβ Td (UX Tn ho)⟩
end
open Go.RowKit
theorem Fa (hp:Nat->Option Bl)(ids:List Nat)(i:Nat):Po hp ids i=if i∈ids then (hp i).map (fun _=>Bl.mv) else hp i:=by
 unfold Po;by_cases hi:i∈ids
 ·have:ids.any (Nat.beq i)=true:=List.any_eq_true.2 ⟨i,hi,Nat.beq_refl i⟩;rw[this,if_pos hi];rfl
 ·have:ids.any (Nat.beq i)=false:=by
   cases hb:ids.any (Nat.beq i)
   ·rfl
   ·obtain⟨j,hj,e⟩:=List.any_eq_true.1 hb;exact absurd (Nat.eq_of_beq_eq_true e ▸ hj) hi
  rw[this,if_neg hi];rfl
theorem N7:∀{nw:List (Nat × Bl)} {hp:Nat->Option Bl},Bo hp nw=true->(nw.map (·.1)).Nodup
 |[],_,_=>List.nodup_nil
 |(i,b)::r,hp,h=>by
  simp only[Bo,Bool.and_eq_true,Option.isNone_iff_eq_none,Bool.not_eq_true'] at h;simp only[List.map_cons,List.nodup_cons];refine⟨fun hm=>?_,N7 h.2⟩
  obtain⟨q,hq,e⟩:=List.mem_map.1 hm;have:r.any (fun q=>Nat.beq q.1 i)=true:=List.any_eq_true.2 ⟨q,hq,by rw[e];exact Nat.beq_refl i⟩
  rw[this] at h;cases h.1.2
theorem Adn:∀{l:List (Nat × Nat)},(l.map (·.1)).Nodup->∀q∈l,R4 l q.1=some q.2
 |[],_,_,h=>by cases h
 |(j,b)::r,hn,q,hq=>by
  simp only[List.map_cons,List.nodup_cons] at hn;unfold R4;rcases List.mem_cons.1 hq with rfl|hq
  ·simp only[Nat.beq_refl,cond_true]
  ·have:Nat.beq q.1 j=false:=by
    cases hb:Nat.beq q.1 j
    ·rfl
    ·exact absurd (Nat.eq_of_beq_eq_true hb ▸ List.mem_map_of_mem hq) hn.1
   simp only[this,cond_false];exact Adn hn.2 q hq
theorem QZ:∀{l:List (Nat × Nat)} {i:Nat},i ∉ l.map (·.1)->R4 l i=none
 |[],_,_=>rfl
 |(j,b)::r,i,h=>by
  simp only[List.map_cons,List.mem_cons,not_or] at h;unfold R4
  have:Nat.beq i j=false:=by
   cases hb:Nat.beq i j
   ·rfl
   ·exact absurd (Nat.eq_of_beq_eq_true hb) h.1
  simp only[this,cond_false];exact QZ h.2
section
variable {R:Type} {r:R} {P:Program} {N:Nat} {w0:World} {X0:Gu} {Y:Nat->Prop} {β β':Bt} {s:St} {a:Act} {w w':World} {o:Oper} {A A':Nat->Prop}
theorem Fm.weak (hA:∀b,b<w.heap.size->A' b->A b){q:Option (Nat × Nat)} {p:PV}{u:Value}(h:Fm w A q p u):Fm w A' q p u:=by
 have tr:∀{p:PV},Au w A p u->Au w A' p u:=fun h=>h.step (B6.refl _ _) hA
 cases p with
 |own es n c=>
  rcases h with h|⟨b,ob,cap,h1,h2,h3,h4,h5,h6,h7⟩
  ·exact .inl h
  ·exact .inr ⟨b,ob,cap,h1,h2,h3,h4,h5,h6.weak hA,h7⟩
 |_=>exact tr h
theorem Ed.weak (hA:∀b,b<w.heap.size->A' b->A b){own:Bt}:∀{ps:List PV}{us:List Value}{j:Nat},Ed w A own j ps us->Ed w A' own j ps us
 |[],[],_,_=>trivial
 |[],_::_,_,h=>h.elim
 |_::_,[],_,h=>h.elim
 |_::_,_::_,_,h=>⟨h.1.weak hA,Ed.weak hA h.2⟩
theorem OQ.weak (hA:∀b,b<w.heap.size->A' b->A b){bt:Bt}{p:PV}{u:Value}(h:OQ w A bt p u):OQ w A' bt p u:=by
 cases p with
 |pbox ps=>
  obtain⟨b,ob,h1,h2,h3,vs,h4,h5⟩:=h;exact⟨b,ob,h1,h2,h3,vs,h4.weak hA,h5⟩
 |tup ps=>
  obtain⟨es,n,c,h1,h2⟩:=h;exact⟨es,n,c,h1,h2.weak hA⟩
 |agg cs=>
  obtain⟨vs,h1,h2,h3⟩:=h;exact⟨vs,h1,h2,h3.weak hA⟩
 |_=>exact⟨h.1,h.2.weak hA⟩
theorem Jb.weak (hA:∀b,b<w.heap.size->A' b->A b){bt:V6}:∀{ps:List PV}{us:List Value}{i:Nat},Jb w A bt i ps us->Jb w A' bt i ps us
 |[],[],_,_=>trivial
 |[],_::_,_,h=>h.elim
 |_::_,[],_,h=>h.elim
 |_::_,_::_,_,h=>⟨h.1.weak hA,Jb.weak hA h.2⟩
theorem Vy {bt:V6}(k:Bool):∀{xs:List Operand}{ps:List PV}{i:Nat},Jb w A bt i ps (xs.map a.eval)->Jb w A bt i (Hu k xs ps) (xs.map a.eval)
 |[],[],_,h=>h
 |[],_::_,_,h=>h
 |_::_,[],_,h=>h
 |x::xs,p::ps,i,h=>by
  simp only[List.map_cons] at h ⊢;refine⟨?_,Vy k h.2⟩;split
  ·exact⟨.inl trivial,Au.lnil _ _⟩
  ·exact h.1
theorem JN (k:Bool)(x:Operand)(xs:List Operand)(p:PV)(ps:List PV):∃p',Hu k (x::xs) (p::ps)=p'::Hu k xs ps∧V7 p'=V7 p∧(V7 p=true->p'=p):=by
 refine⟨_,rfl,?_,fun h=>?_⟩
 ·split
  ·rfl
  ·rfl
 ·split
  ·cases h
  ·rfl
theorem N8 {hp:Nat->Option Bl}{src:Nat->Nat->Option (Nat × Nat)} (k:Bool):∀{xs:List Operand}{ps:List PV}{i:Nat}{l:List Fw},Mg hp src i ps l->Mg hp src i (Hu k xs ps) l
 |[],[],_,_,h=>h
 |[],_::_,_,_,h=>h
 |_::_,[],_,_,h=>h
 |x::xs,p::ps,i,l,h=>by
  obtain⟨p',e,h1,h2⟩:=JN k x xs p ps;rw[e];rcases h with⟨h3,h4,h5⟩|⟨y,l',rfl,h4,h5⟩
  ·exact .inl ⟨by rw[h1];exact h3,h4,N8 k h5⟩
  ·exact .inr ⟨y,l',rfl,by rw[h2 (YH h4)];exact h4,N8 k h5⟩
theorem DR {hp:Nat->Option Bl}{src:Nat->Nat->Option (Nat × Nat)}:∀{ps:List PV}{i:Nat}{l:List Fw},Mg hp src i ps l->∀id∈l.flatMap Fw.ids,Cy (hp id)∧∃k off,src k 0=some (id,off)
 |[],_,_,h,id,Bh=>by
  have h:_=[]:=h;rw[h] at Bh;cases Bh
 |p::ps,i,l,h,id,Bh=>by
  rcases h with⟨_,_,h3⟩|⟨x,l',rfl,h2,h3⟩
  ·exact DR h3 id Bh
  ·simp only[List.flatMap_cons,List.mem_append] at Bh;rcases Bh with Bh|Bh
   ·cases x with
    |var id' off cts ws=>
     simp only[Fw.ids,List.mem_singleton] at Bh;subst Bh;obtain⟨_,h4,_,c,h5,_⟩:=h2;exact⟨by rw[h5];trivial,i,_,h4⟩
    |row id'=>
     simp only[Fw.ids,List.mem_singleton] at Bh;subst Bh;obtain⟨_,h4,c,h5⟩:=h2;exact⟨by rw[h5];trivial,i,_,h4⟩
    |none=>simp[Fw.ids] at Bh
   ·exact DR h3 id Bh
theorem Ad9 {hp:Nat->Option Bl}{src:Nat->Nat->Option (Nat × Nat)}:∀{ps:List PV}{i:Nat}{l:List Fw},Mg hp src i ps l->∀k p id off,ps[k]?=some p->src (i+k) 0=some (id,off) ->
   (∃c ws,hp id=some (.st c)∧p=.pbox ws∧off+ws.length<=c.length)∨((∃c,hp id=some (.ar false c))∧off=0∧∃ws,p=.tup ws)
 |[],_,_,_,k,p,id,off,hp,_=>by simp at hp
 |p::ps,i,l,h,k,p',id,off,Cn,hs=>by
  have Sh:∃l',Mg hp src (i+1) ps l':=by
   rcases h with⟨_,_,h3⟩|⟨x,l',_,_,h3⟩<;>exact⟨_,h3⟩
  cases k with
  |succ k=>
   obtain⟨l',h'⟩:=Sh;exact Ad9 h' k p' id off (by simpa using Cn) (by rw[show i+1+k=i+(k+1) by omega];exact hs)
  |zero=>
   simp only[List.getElem?_cons_zero,Option.some.injEq] at Cn;subst Cn;rw[Nat.add_zero] at hs;rcases h with⟨_,h2,_⟩|⟨x,l',_,h2,_⟩
   ·rw[hs] at h2;cases h2
   ·cases x with
    |var id' off' cts ws=>
     obtain⟨h3,h4,_,c,h5,h6⟩:=h2;rw[hs] at h4;cases h4;exact .inl ⟨c,ws,h5,h3,h6⟩
    |row id'=>
     obtain⟨h3,h4,c,h5⟩:=h2;rw[hs] at h4;cases h4;exact .inr ⟨⟨c,h5⟩,rfl,h3⟩
    |none=>
     have:=h2.2;rw[hs] at this;cases this
theorem PN {hp : Nat -> Option Bl} {src : Nat -> Nat -> Option (Nat × Nat)} {id off : Nat} {cts : List CT} {ws : List PV} : ∀ {ps : List PV} {i : Nat} {l : List Fw}, Mg hp src i ps l -> Fw.var id off cts ws ∈ l ->
      ∃ k, ps[k]? = some (.pbox ws) ∧ src (i + k) 0 = some (id, off)
  | [], _, _, h, hm => by
    have h : _ = [] := h
    rw[h] at hm; cases hm
  | p :: ps, i, l, h, hm => by
    have next : ∀ {l'}, Mg hp src (i + 1) ps l' -> Fw.var id off cts ws ∈ l' -> ∃ k, (p :: ps)[k]? = some (.pbox ws) ∧ src (i + k) 0 = some (id, off) := by
      intro l' h' Ia
      obtain⟨k, h1, h2⟩ := PN h' Ia
      exact⟨k + 1, by simpa using h1, by rw[show i + (k + 1) = i + 1 + k by omega]; exact h2⟩
    rcases h with⟨_, _, h3⟩ | ⟨x, l', rfl, h2, h3⟩
    · exact next h3 hm
    · rcases List.mem_cons.1 hm with e | hm
      · subst e
        obtain⟨h1, h4, _⟩ := h2
        subst h1
        exact⟨0, rfl, h4⟩
      · exact next h3 hm
theorem QD {hp:Nat->Option Bl}{src:Nat->Nat->Option (Nat × Nat)}:∀{ps:List PV}{i:Nat}{l:List Fw},Mg hp src i ps l->∀k id off,i<=k->src k 0=some (id,off)->k<i+ps.length->∃p,ps[k-i]?=some p∧V7 p=true
 |[],i,_,_,k,id,off,h1,_,h3=>by simp at h3;omega
 |p::ps,i,l,h,k,id,off,h1,h2,h3=>by
  by_cases e:k=i
  ·subst e;rcases h with⟨_,h4,_⟩|⟨x,l',_,h4,_⟩
   ·rw[h2] at h4;cases h4
   ·exact⟨p,by simp,YH h4⟩
  ·have Sh:∃l',Mg hp src (i+1) ps l':=by
    rcases h with⟨_,_,h3⟩|⟨x,l',_,_,h3⟩<;>exact⟨_,h3⟩
   obtain⟨l',h'⟩:=Sh;obtain⟨q,h5,h6⟩:=QD h' k id off (by omega) h2 (by simp at h3;omega)
   refine⟨q,?_,h6⟩;rw[show k-i=(k-(i+1))+1 by omega]
   simpa using h5
theorem Jb.len {bt:V6}:∀{ps:List PV}{us:List Value}{i:Nat},Jb w A bt i ps us->ps.length=us.length
 |[],[],_,_=>rfl
 |[],_::_,_,h=>h.elim
 |_::_,[],_,h=>h.elim
 |_::_,_::_,_,h=>by simp[Jb.len h.2]
theorem NY (h:Cl N w0 X0 Y β s a w){G:S2}(Iy:OE P G w0 X0){C:F4}{call:Ax}(Dl:∀f args res,call f args=some res->C4 G P f args res){c:Call}{f:FuncId}(ho:o.op=.call c)(hc:c.callee=.value (.func f))
  {K:St->Option R} (hk:Xa C P N call s o f c K=some r):
  ∃s',K s'=some r∧∀(next:Act->World->Prop) (Q:Exit->Act->World->Prop),(∀a' w' β',Cl N w0 X0 Y β' s' a' w'->next a' w')->o.wp P a w next Q:=by
 unfold Xa at hk;obtain⟨vs0,m,x,l,src,Dm,hm,hx,hS,hL,El⟩:=GQ h hk;obtain⟨hb,D8⟩:=Al Dm;simp only[Bool.and_eq_true] at hb;obtain⟨⟨⟨hnd,Apd⟩,hN⟩,Aat⟩:=hb;have hN:0<N:=Nat.lt_of_succ_le (Nat.le_of_ble_eq_true hN);obtain⟨hnl,hnx,hlx⟩:=G6 hnd
 have hml:∀i∈m,i ∉ l.flatMap Fw.ids∧i ∉ x:=by
  intro i hi;have:=List.all_eq_true.1 Apd i hi
  have hn:∀k∈l.flatMap Fw.ids++x,i≠k:=by
   rintro k hk rfl
   have h2:(l.flatMap Fw.ids++x).any (Nat.beq i)=true:=List.any_eq_true.2 ⟨i,hk,Nat.beq_refl i⟩;rw[h2] at this;cases this
  exact⟨fun hq=>hn i (by simp only[List.mem_append];exact .inl hq) rfl,fun hq=>hn i (by simp only[List.mem_append];exact .inr hq) rfl⟩
 replace hL:=N8 (C.kz f) (xs:=c.args.toList) hL
 replace El:=fun fz h1 h2 bt Td=>Vy (a:=a) (C.kz f) (El fz h1 h2 bt Td)
 generalize Hu (C.kz f) c.args.toList vs0=vs at D8 El hL;obtain⟨rv,ro,Jg,Jn⟩:=GW D8;obtain⟨ws,bs,Rw,hwl,UC,OG,hrs,WG,hws⟩:=Wd (C.shr f) N Jn;obtain⟨M4,UQ⟩:=Al Rw;obtain⟨lids,FV⟩:∃lids,l.flatMap Fw.ids=lids:=⟨_,rfl⟩;rw[FV] at hS hnl hlx hml;have Ath:∀i,i ∉ x->Po (Af s.hp m) x i=Af s.hp m i:=fun i hi=>by rw[Fa,if_neg hi]
 have WW:∀i,i∈lids->Po (Af s.hp m) x i=s.hp i:=fun i hi=>by
  rw[Ath i (hlx i hi),Bv,if_neg (fun hq=>(hml i hq).1 hi)]
 have hLM:Mg (Po (Af s.hp m) x) src 0 vs l:=Va (fun i hi=>WW i (FV ▸ hi)) hL
 obtain⟨Cn,bs',qs,hk6,hbq,Rv,Kp,En,Jj,hsh,KD⟩:=Pu (β:=β) (j:=Jv rv) UQ hLM (by rw[FV];exact hnl)
 obtain⟨Mq,hk7⟩:=Al hk6;refine⟨_,hk7,fun next Q hn=>?_⟩
 clear hk Dm D8 Jn Rw UQ hk6 hk7;rw[FV] at Jj;obtain⟨⟨fn,hfn,hfb⟩,AE⟩:=Dl f vs _ Jg;have hf:=h.freeze hm;have Aan:=DR hL;rw[FV] at Aan
 have IY:∀i,i∈lids∨i∈x->Af s.hp m i=s.hp i:=by
  intro i hi;rw[Bv,if_neg];intro hq;rcases hi with hi|hi
  ·exact (hml i hq).1 hi
  ·exact (hml i hq).2 hi
 have Vq:∀i,i∈lids∨i∈x->Cy (s.hp i):=by
  intro i hi;rcases hi with hi|hi
  ·exact (Aan i hi).1
  ·obtain⟨cc,YN⟩:=hx i hi;rw[YN];trivial
 have At7:∀i j id off,src i j=some (id,off)->id∈lids∨id∈x:=by
  intro i j id off hs;cases j with
  |zero=>exact .inl (hS.lent i id off hs)
  |succ j=>exact .inr (hS.mvd i j id off hs).2
 obtain⟨bt,Td⟩:∃bt:V6,∀i j,bt i j=(src i j).bind (F5 β):=⟨_,fun _ _=>rfl⟩
 have btS:∀{i j b ob},bt i j=some (b,ob)->∃id off o',src i j=some (id,off)∧β id=some (b,o')∧ob=o'+off∧(id∈lids∨id∈x):=by
  intro i j b ob hb;rw[Td] at hb;cases hs:src i j with
  |none=>rw[hs] at hb;cases hb
  |some q=>
   rw[hs] at hb;obtain⟨id,off⟩:=q;simp only[Option.bind_some,F5] at hb;cases hβ:β id with
   |none=>rw[hβ] at hb;cases hb
   |some p=>
    rw[hβ] at hb;obtain⟨b',o'⟩:=p;simp only[Option.map_some,Option.some.injEq,Prod.mk.injEq] at hb;obtain⟨rfl,rfl⟩:=hb;exact⟨id,off,o',rfl,hβ,rfl,At7 i j id off hs⟩
 have btX:∀{b},ZZ bt b->∃id o',β id=some (b,o')∧(id∈lids∨id∈x):=by
  rintro b ⟨i,j,ob,hb⟩
  obtain⟨id,off,o',_,h2,_,h4⟩:=btS hb;exact⟨id,o',h2,h4⟩
 have hBA:∀b,ZZ bt b->KJ s.hp β b:=fun b hb=>by
  obtain⟨id,o',h1,h2⟩:=btX hb;exact⟨id,o',Vq id h2,h1⟩
 obtain⟨Yc,hYc⟩:∃Yc:Nat->Prop,∀b,Yc b↔((∃id ob,Cy (Af s.hp m id)∧β id=some (b,ob)∧id ∉ lids∧id ∉ x)∨Y b):=⟨_,fun _=>Iff.rfl⟩
 have Dj:vs.length=c.args.toList.length:=by
  have:=(El m (fun _ hi=>hi) hm bt Td).len
  simpa using this
 have A6j:Ins w Yc bt vs (c.args.toList.map a.eval):=by
  refine⟨fun b hb=>?_,fun b hb hB=>?_,fun b hB=>?_,fun i j i' j' b ob ob' hb Gy=>?_,fun i q hq=>?_,?_⟩
  ·rcases (hYc b).1 hb with⟨id,ob,hl,hβ,_⟩|hY
   ·exact hf.blt id b ob (Co hl) hβ
   ·exact Nat.lt_of_lt_of_le (h.Ylt b hY) h.fr.step.size
  ·obtain⟨id',o',h1,h2⟩:=btX hB;rcases (hYc b).1 hb with⟨id,ob,hl,hβ,h3,h4⟩|hY
   ·have:=hf.inj id id' b ob o' hl (by show Cy (Af s.hp m id');rw[IY id' h2];exact Vq id' h2) hβ h1
    subst this;rcases h2 with h2|h2
    ·exact h3 h2
    ·exact h4 h2
   ·exact h.Yx b hY ⟨id',o',Vq id' h2,h1⟩
  ·obtain⟨id',o',h1,h2⟩:=btX hB;exact h.blt id' b o' (Co (Vq id' h2)) h1
  ·obtain⟨id,off,o1,h1,h2,_,h4⟩:=btS hb;obtain⟨id',off',o1',LI,h2',_,h4'⟩:=btS Gy;have:=h.inj id id' b o1 o1' (Vq id h4) (Vq id' h4') h2 h2';subst this;cases j with
   |zero=>
    cases j' with
    |zero=>exact⟨hS.inj0 hnl i i' id off off' h1 LI,rfl⟩
    |succ j'=>exact absurd (hS.mvd i' j' id off' LI).2 (hlx id (hS.lent i id off h1))
   |succ j=>
    cases j' with
    |zero=>exact absurd (hS.mvd i j id off h1).2 (hlx id (hS.lent i' id off' LI))
    |succ j'=>
     obtain⟨h5,h6⟩:=hS.inj1 hnx i i' j j' id off off' h1 LI;exact⟨h5,by rw[h6]⟩
  ·obtain⟨b,ob⟩:=q;obtain⟨id,off,o',h1,_⟩:=btS hq;obtain⟨p,hp,h2⟩:=QD hL i id off (Nat.zero_le _) h1 (by have:=hS.dom i 0 _ h1;rw[Dj];exact this.2)
   exact⟨p,by simpa using hp,h2⟩
  ·refine (El m (fun _ hi=>hi) hm bt Td).weak fun b _ hb=>?_
   rcases hb with hb|hb
   ·obtain⟨id',o',h1,h2⟩:=btX hb;exact .inl ⟨id',o',by rw[IY id' h2];exact Vq id' h2,h1⟩
   ·rcases (hYc b).1 hb with⟨id,ob,hl,hβ,_⟩|hY
    ·exact .inl ⟨id,ob,hl,hβ⟩
    ·exact .inr hY
 unfold Oper.wp;rw[OM ho hc Iy.ng hfn hfb];show Calls P f _ w _;have hca:c.args.map a.eval=(c.args.toList.map a.eval).toArray:=by rw[←List.map_toArray,Array.toArray_toList]
 rw[hca];refine (AE w Yc bt _ A6j (Iy.fr w h.fr) (fun b x=>⟨Nat.lt_of_lt_of_le (Iy.y b x).1 h.fr.step.size,fun hB=>(h.ownd b (hBA b hB)).elim (Iy.y b x).2 (fun Y6=>absurd (Iy.y b x).1 (Nat.not_lt.2 Y6))⟩)).mono ?_
 rintro e w' ⟨us,own,rfl,out⟩
 obtain⟨ha1,Il⟩:=Bi Mq;obtain⟨hg1,hg2⟩:=D2 (hp:=Cn) Il;have VK:=N7 Mq;rw[List.map_append,List.nodup_append] at VK;obtain⟨A97,Asf,Ay8⟩:=VK;rw[hbq] at Asf
 obtain⟨β1,hβ1,hβ2⟩:∃β1:Bt,(∀i,(∃bx,(i,bx)∈bs)->β1 i=own ((i-o.dst.getD N) / N))∧∀i,(¬∃bx,(i,bx)∈bs)->β1 i=match R4 qs i with|some j=>own j|none=>β i:=by
  refine⟨fun i=>if (bs.any fun q=>Nat.beq q.1 i)=true then own ((i-o.dst.getD N) / N) else match R4 qs i with|some j=>own j|none=>β i,fun i hi=>?_,fun i hi=>?_⟩
  ·show (if _ then _ else _)=_
   rw[if_pos (MI.2 hi)]
  ·show (if _ then _ else _)=_
   rw[if_neg (fun hq=>hi (MI.1 hq))]
 have hβbs:∀j,(∃bx,(o.dst.getD N+N*j,bx)∈bs)->β1 (o.dst.getD N+N*j)=own (0+j):=by
  intro j hj;rw[hβ1 _ hj,Nat.add_sub_cancel_left,Nat.mul_div_cancel_left _ hN,Nat.zero_add]
 have hqb:∀q∈qs,∃bx,(q.1,bx)∈bs':=by
  intro q hq;have:q.1∈bs'.map (·.1):=by rw[hbq];exact List.mem_map_of_mem hq
  obtain⟨⟨i,bx⟩,hm,e⟩:=List.mem_map.1 this;exact⟨bx,e ▸ hm⟩
 have A2m:∀i bx,(i,bx)∈bs'->∃j,(i,j)∈qs:=by
  intro i bx hm;have:i∈qs.map (·.1):=by rw[←hbq];exact List.mem_map.2 ⟨_,hm,rfl⟩
  obtain⟨⟨i',j⟩,hm,e⟩:=List.mem_map.1 this;exact⟨j,e ▸ hm⟩
 have hbb:∀i,(∃bx,(i,bx)∈bs')->¬∃bx,(i,bx)∈bs:=by
  rintro i ⟨bx,hm⟩ ⟨bx',Ia⟩
  exact Ay8 i (List.mem_map.2 ⟨_,Ia,rfl⟩) i (List.mem_map.2 ⟨_,hm,rfl⟩) rfl
 have hβqs:∀q∈qs,β1 q.1=own q.2:=by
  intro q hq;rw[hβ2 q.1 (hbb q.1 (hqb q hq)),Adn Asf q hq]
 have hβold:∀i,Cn i≠none->β1 i=β i:=by
  intro i hi
  have PE:¬∃bx,(i,bx)∈bs:=by
   rintro⟨bx,hm⟩
   exact hi (ha1 i bx (List.mem_append.2 (.inl hm)))
  rw[hβ2 i PE,QZ];intro hm;obtain⟨q,hq,e⟩:=List.mem_map.1 hm;obtain⟨bx,Jl⟩:=hqb q hq;exact hi (ha1 i bx (List.mem_append.2 (.inr (e ▸ Jl))))
 obtain⟨O9,hba⟩:=hws w' _ own β1 w.heap.size 0 us hβbs out.vals;obtain⟨A2s,At5⟩:=KD w' _ own β1 bt hβqs (fun i=>Td i 0) out.outs
 have Akx:∀id∈lids,∃y∈l,id∈y.ids:=by
  intro id Bh;rw[←FV] at Bh;exact List.mem_flatMap.1 Bh
 have Ail:∀id∈lids,(∃off c cs,s.hp id=some (.st c)∧Cn id=some (.st (Ca c cs off))∧off+cs.length<=c.length∧(∀p∈cs,∀i∈An p,∃bx,(i,bx)∈bs'))∨∃c cs,s.hp id=some (.ar false c)∧Cn id=some (.ar false cs):=by
  intro id Bh;obtain⟨y,hy,hyi⟩:=Akx id Bh;have h1:=hsh y hy;cases y with
  |var id' off cts ws'=>
   simp only[Fw.ids,List.mem_singleton] at hyi;subst hyi;obtain⟨c1,cs,h2,h3,h4,h5,h6⟩:=h1;rw[WW id Bh] at h2;exact .inl ⟨off,c1,cs,h2,h3,h5,h6⟩
  |row id'=>
   simp only[Fw.ids,List.mem_singleton] at hyi;subst hyi;obtain⟨c1,cs,h2,h3⟩:=h1;rw[WW id Bh] at h2;exact .inr ⟨c1,cs,h2,h3⟩
  |none=>simp[Fw.ids] at hyi
 have A7n:∀id∈lids,Cn id≠none:=by
  intro id Bh;rcases Ail id Bh with⟨_,_,_,_,h2,_⟩|⟨_,_,_,h2⟩<;>rw[h2]<;>simp
 have hpK:∀id,id ∉ lids->Cn id=Po (Af s.hp m) x id:=fun id Bh=>Jj id Bh
 have Q3:∀i,s.hp i≠none->Cn i≠none:=by
  intro i hi;by_cases hl:i∈lids
  ·exact A7n i hl
  ·rw[hpK i hl,Fa];have h1:Af s.hp m i≠none:=fun e=>hi (Du.1 e)
   split
   ·cases hq:Af s.hp m i with
    |none=>exact absurd hq h1
    |some b=>simp
   ·exact h1
 have Aj7:∀i,(s.hp i≠none∨∃bx,(i,bx)∈bs++bs')->Ap Cn (bs++bs') i≠none:=by
  rintro i (hi|⟨bx,hm⟩)
  ·have h1:=Q3 i hi;rw[hg2 i (fun bx hm=>h1 (ha1 i bx hm))]
   exact h1
  ·rw[hg1 i bx hm];simp
 have Ge:∀id,(∃bx,(id,bx)∈bs++bs')∨Ap Cn (bs++bs') id=Cn id:=fun id=>by
  by_cases hx:∃bx,(id,bx)∈bs++bs'
  ·exact .inl hx
  ·exact .inr (hg2 id fun bx hb=>hx ⟨bx,hb⟩)
 have hold:∀id bx,Cn id=some bx->Cy (some bx)->Cy (s.hp id)∧id ∉ x∧(id∈lids∨(id ∉ lids∧Af s.hp m id=some bx)):=by
  intro id bx hb hl;by_cases Bh:id∈lids
  ·exact⟨Vq id (.inl Bh),hlx id Bh,.inl Bh⟩
  ·rw[hpK id Bh,Fa] at hb;split at hb
   ·cases hq:Af s.hp m id with
    |none=>rw[hq] at hb;cases hb
    |some b=>rw[hq] at hb;simp at hb;subst hb;exact hl.elim
   ·rename_i hxn;exact⟨by rw[Hb hb hl];exact hl,hxn,.inr ⟨Bh,hb⟩⟩
 have Sz:∀i bx,(i,bx)∈bs++bs'->∃j,β1 i=own j∧((i=o.dst.getD N+N*j∧j<Jv rv)∨((i,j)∈qs∧Jv rv<=j)):=by
  intro i bx hm;rcases List.mem_append.1 hm with hm|hm
  ·obtain⟨⟨j,rfl,hj⟩,_⟩:=hba i bx hm;exact⟨j,by rw[hβbs j ⟨bx,hm⟩,Nat.zero_add],.inl ⟨rfl,hj⟩⟩
  ·obtain⟨j,hj⟩:=A2m i bx hm;exact⟨j,hβqs _ hj,.inr ⟨hj,(Rv _ hj).2⟩⟩
 have Akp:∀i bx,(i,bx)∈bs++bs'->Cy (some bx)∧Ol w' (CM bt own Yc) β1 i bx∧∀cs,bx=.st cs->∀b ob,β1 i=some (b,ob)->w.heap.size<=b:=by
  intro i bx hm;rcases List.mem_append.1 hm with hm|hm
  ·exact (hba i bx hm).2
  ·obtain⟨cc,rfl⟩:=En i bx hm;exact⟨trivial,A2s i _ hm,fun cs e=>by cases e⟩
 have Api:∀b,(∃i k o',bt i (k+1)=some (b,o'))->∃id o',id∈x∧β id=some (b,o'):=by
  rintro b ⟨i,k,o',hb⟩
  obtain⟨id,off,o1,h1,h2,_,_⟩:=btS hb;exact⟨id,o1,(hS.mvd i k id off h1).2,h2⟩
 have hX:∀b,b<w.heap.size->KJ (Ap Cn (bs++bs')) β1 b->KJ s.hp β b:=by
  rintro b hb ⟨id,ob,hl,hβ⟩
  rcases Ge id with⟨bx,hm⟩|e
  ·obtain⟨j,hj,_⟩:=Sz id bx hm;rw[hj] at hβ;obtain⟨id',o',h1,h2⟩:=Api b ((out.fresh j b ob hβ).2 hb).1;exact⟨id',o',Vq id' (.inr h1),h2⟩
  ·rw[e] at hl;cases hq:Cn id with
   |none=>rw[hq] at hl;exact hl.elim
   |some bx=>
    rw[hq] at hl;exact⟨id,ob,(hold id bx hq hl).1,by rw[←hβold id (by rw[hq];simp)];exact hβ⟩
 have hAo:∀b,b<w.heap.size->Cw (Ap Cn (bs++bs')) β1 Y b->Cw s.hp β Y b:=fun b hb hA=>hA.imp (hX b hb) id
 have hAO:∀b,Cw (Ap Cn (bs++bs')) β1 Y b->CM bt own Yc b:=by
  rintro b (⟨id,ob,hl,hβ⟩|hY)
  ·rcases Ge id with⟨bx,hm⟩|e
   ·obtain⟨j,hj,_⟩:=Sz id bx hm;rw[hj] at hβ;exact .inl ⟨j,ob,hβ⟩
   ·rw[e] at hl;cases hq:Cn id with
    |none=>rw[hq] at hl;exact hl.elim
    |some bx=>
     rw[hq] at hl;rw[hβold id (by rw[hq];simp)] at hβ
     obtain⟨h1,h2,h3⟩:=hold id bx hq hl;rcases h3 with h3|⟨h3,h4⟩
     ·obtain⟨_,i,off,hs⟩:=Aan id h3;exact .inr (.inl ⟨i,ob+off,by rw[Td,hs];simp[F5,hβ]⟩)
     ·exact .inr (.inr ((hYc b).2 (.inl ⟨id,ob,by rw[h4];exact hl,hβ,h3,h2⟩)))
  ·exact .inr (.inr ((hYc b).2 (.inr hY)))
 have Fh:B6 (Cw s.hp β Y) w w':=out.ext.weaken (fun b _ hb=>.inl (hBA b hb))
 have Aiw:∀i,s.hp i≠none->β1 i=β i:=fun i hi=>hβold i (Q3 i hi)
 have hCL:∀b j,BL bt vs b j->∃id o' bx,s.hp id=some bx∧Cy (some bx)∧β id=some (b,o')∧BR bx o' j:=by
  rintro b j ⟨i,p,hp,⟨k,ob,hb,Y6⟩|⟨ob,ps,hb,Y6,Tn⟩⟩
  ·obtain⟨id,off,o',h1,h2,h3,_⟩:=btS hb;obtain⟨h5,h6⟩:=hS.mvd i k id off h1;obtain⟨cc,YN⟩:=hx id h6;exact⟨id,o',_,YN,trivial,h2,show o'<=j by omega⟩
  ·obtain⟨id,off,o',h1,h2,h3,_⟩:=btS hb;rcases Ad9 hL i p id off hp (by rw[Nat.zero_add];exact h1) with⟨c1,wz,h5,h6,h7⟩|⟨⟨c1,h5⟩,_⟩
   ·rcases Tn with⟨h8,h9⟩|h8
    ·rw[h6] at h8;cases h8;exact⟨id,o',_,h5,trivial,h2,show o'<=j∧j<o'+c1.length by omega⟩
    ·rw[h6] at h8;cases h8
   ·exact⟨id,o',_,h5,trivial,h2,show o'<=j by omega⟩
 have hnL:∀id off cts wz,Fw.var id off cts wz∈l->id∈lids->∀b ob,β id=some (b,ob)->∀j,(j<off∨off+wz.length<=j)->(∃c1,s.hp id=some (.st c1))->¬BL bt vs b (ob+j):=by
  rintro id off cts wz hy Bh b ob hβ j hj ⟨c1,EZ⟩ ⟨i,p,hp,⟨k,ob',hb,Y6⟩|⟨ob',ps,hb,Y6,Tn⟩⟩
  ·obtain⟨id',off',o',h1,h2,h3,h4⟩:=btS hb;have:=h.inj id id' b ob o' (Vq id (.inl Bh)) (Vq id' h4) hβ h2;subst this;exact hlx id Bh (hS.mvd i k id off' h1).2
  ·obtain⟨id',off',o',h1,h2,h3,h4⟩:=btS hb;have:=h.inj id id' b ob o' (Vq id (.inl Bh)) (Vq id' h4) hβ h2;subst this;rw[hβ] at h2;cases h2;obtain⟨k,Dm,D8⟩:=PN hL hy;rw[Nat.zero_add] at D8;have hik:=hS.inj0 hnl i k id off' off h1 D8;subst hik;rw[h1] at D8;cases D8;rw[hp] at Dm;cases Dm;rcases Tn with⟨h8,h9⟩|h8
   ·cases h8;omega
   ·cases h8
 have hval:D5 w' (Cw (Ap Cn (bs++bs')) β1 Y) β1 (Ky ws (L7 P o.type)) (Gv us):=by
  have Lt:Bc (Gt w' (Cw (Ap Cn (bs++bs')) β1 Y) β1) ws us:=O9.mono fun v u hvu=>hvu.step (B6.refl _ _) (fun b _=>hAO b) (fun _ _=>rfl)
  have Dj:=Lt.len;cases hT:L7 P o.type
  ·rw[hT] at M4;have h1:ws.length=1:=Nat.eq_of_beq_eq_true M4
   match ws,us,h1,Dj with
   |[v],[u],_,_=>
    exact (Mc (UC v (by simp))).2 Lt.1
  ·rw[hT] at M4
   have h1:¬ws.length=1:=by
    intro e;rw[e] at M4;cases M4
   have hr:Gv us=.tuple ⟨us⟩:=by
    unfold Gv;split
    ·simp at Dj;omega
    ·rfl
   rw[hr];exact⟨us,rfl,Lt⟩
 have hvr:∀i∈Br (Ky ws (L7 P o.type)),∃bx,(i,bx)∈bs:=by
  intro i hi;cases hT:L7 P o.type
  ·rw[hT] at M4 hi;have h1:ws.length=1:=Nat.eq_of_beq_eq_true M4
   match ws,h1 with
   |[v],_=>
    refine hrs v (by simp) i ?_
    have:Br v=B8 v:=by
     have hn:=UC v (by simp)
     cases v<;>first|rfl|exact absurd rfl (hn _)
    rw[←this];exact hi
  ·rw[hT] at hi;obtain⟨v,hv,hi⟩:=List.mem_flatMap.1 (show i∈ws.flatMap B8 from hi)
   exact hrs v hv i hi
 refine hn _ w' β1 ?_;refine⟨by rw[Od];exact h.dfr,by rw[Vt];exact h.tsz,MA Aat h.tmo,?_,?_,?_,?_,?_,?_,?_,?_,?_,?_,?_,h.Ylt,?_⟩
 ·refine Mb (Q:=fun _ p u=>D5 w' (Cw (Ap Cn (bs++bs')) β1 Y) β1 p u) h.tsz Aat (fun i hi=>?_) (fun _=>hval)
  exact (h.tms i hi).step Fh hAo fun id Bh=>Aiw id (h.wfT i hi id Bh)
 ·intro id bx hb;simp only at hb;rcases Ge id with⟨bx',Ia⟩|e
  ·rw[hg1 id bx' Ia] at hb;cases hb;exact (Akp id _ Ia).2.1.step' hAO
  ·rw[e] at hb;have hβ:=hβold id (by rw[hb];simp)
   by_cases Bh:id∈lids
   ·obtain⟨y,hy,hyi⟩:=Akx id Bh;have h1:=At5 y hy;cases y with
    |var id' off cts wz=>
     simp only[Fw.ids,List.mem_singleton] at hyi;subst hyi;obtain⟨c1,cs,h2,h3,h4,h5,h6⟩:=h1;rw[WW id Bh] at h2;rw[h3] at hb;cases hb;obtain⟨b,ob,h7,h8,h9⟩:=h.box id _ h2;obtain⟨ZN,h11⟩:=h6 b ob h7;have B5:=h.blt id b ob (by rw[h2];simp) h7
     have Yl:∀j,(j<off∨off+wz.length<=j)->w'.cell? ⟨b,ob+j,none⟩=w.cell? ⟨b,ob+j,none⟩∧w'.frozen? ⟨b,ob+j,none⟩=w.frozen? ⟨b,ob+j,none⟩:=
      fun j hj=>out.rng b (ob+j) B5 (hnL id off cts wz hy Bh b ob h7 j hj ⟨c1,h2⟩)
     refine⟨b,ob,hβ.trans h7,fun j p hj=>?_,fun j hj=>?_⟩
     ·rcases Oi (by omega) hj with⟨h12,h13,h14⟩|⟨h12,h14⟩
      ·obtain⟨v,hv,ON⟩:=ZN _ _ h14;refine⟨v,?_,ON.step (B6.refl _ _) (fun b _=>hAO b) (fun _ _=>rfl)⟩
       rw[show ob+j=ob+off+(j-off) by omega]
       exact hv
      ·obtain⟨v,hv,ON⟩:=h8 _ _ h14;refine⟨v,by rw[(Yl j (by omega)).1];exact hv,ON.step Fh hAo fun i hi=>Aiw i (h.wfB id c1 h2 p (List.mem_of_getElem? h14) i hi)⟩
     ·rw[N2 (by omega)] at hj
      by_cases DN:off<=j∧j<off+cs.length
      ·have:=h11 (j-off) (by omega)
       rw[show ob+off+(j-off)=ob+j by omega] at this
       exact this
      ·rw[(Yl j (by omega)).2]
       exact h9 j hj
    |row id'=>
     simp only[Fw.ids,List.mem_singleton] at hyi;subst hyi;obtain⟨cs,h3,h4⟩:=h1;rw[h3] at hb;cases hb;rcases h4 with⟨h5,h6⟩|⟨b,ob,h5,h6,h7⟩
     ·exact .inl ⟨hβ.trans h5,h6⟩
     ·exact .inr ⟨b,ob,hβ.trans h5,h6.weak (fun b _=>hAO b),fun _=>h7,(fun q=>by cases q)⟩
    |none=>simp[Fw.ids] at hyi
   ·rw[hpK id Bh,Fa] at hb;split at hb
    ·cases hq:Af s.hp m id with
     |none=>rw[hq] at hb;cases hb
     |some b0=>rw[hq] at hb;simp at hb;subst hb;trivial
    ·rename_i hxn;have Jl:=hf.box id bx hb
     have Aef:∀b ob,β id=some (b,ob)->bx ≠ .mv->b<w.heap.size∧w'.heap[b]?=w.heap[b]?:=by
      intro b ob FJ hmv;have B5:=hf.blt id b ob (by show Af s.hp m id≠none;rw[hb];simp) FJ
      refine⟨B5,out.ext.keep b B5 fun hB=>?_⟩
      obtain⟨id',o',h1,h2⟩:=btX hB;have Ib:Cy (Af s.hp m id'):=by rw[IY id' h2];exact Vq id' h2
      have LT:id≠id':=by
       rintro rfl
       rcases h2 with h2|h2
       ·exact Bh h2
       ·exact hxn h2
      cases bx with
      |st cc=>exact LT (hf.inj id id' b ob o' (by show Cy (Af s.hp m id);rw[hb];trivial) Ib FJ h1)
      |ar fz cc=>
       cases fz with
       |false=>exact LT (hf.inj id id' b ob o' (by show Cy (Af s.hp m id);rw[hb];trivial) Ib FJ h1)
       |true=>
        rcases Jl with⟨h3,_⟩|⟨b2,o2,h3,_,_,h4⟩
        ·rw[FJ] at h3;cases h3
        ·rw[FJ] at h3;cases h3;exact h4 rfl (.inl ⟨id',o',Ib,h1⟩)
      |mv=>exact hmv rfl
     have hAoF:∀b,b<w.heap.size->Cw (Ap Cn (bs++bs')) β1 Y b->Cw (Af s.hp m) β Y b:=by
      intro b En hA;rcases hA with⟨i,ob,hl,hβi⟩|hY
      ·rcases Ge i with⟨bx1,FW⟩|e1
       ·obtain⟨j,hj,_⟩:=Sz i bx1 FW;rw[hj] at hβi;obtain⟨id',o',h1,h2⟩:=Api b ((out.fresh j b ob hβi).2 En).1;exact .inl ⟨id',o',by rw[IY id' (.inr h1)];exact Vq id' (.inr h1),h2⟩
       ·rw[e1] at hl;cases hq:Cn i with
        |none=>rw[hq] at hl;exact hl.elim
        |some bx1=>
         rw[hq] at hl;rw[hβold i (by rw[hq];simp)] at hβi
         obtain⟨h1,h2,h3⟩:=hold i bx1 hq hl;rcases h3 with h3|⟨h3,h4⟩
         ·exact .inl ⟨i,ob,by rw[IY i (.inl h3)];exact h1,hβi⟩
         ·exact .inl ⟨i,ob,by rw[h4];exact hl,hβi⟩
      ·exact .inr hY
     have Are:B6 (Cw (Af s.hp m) β Y) w w':=out.ext.weaken (fun b _ hB=>by
      obtain⟨id',o',h1,h2⟩:=btX hB;exact .inl ⟨id',o',by rw[IY id' h2];exact Vq id' h2,h1⟩)
     cases bx with
     |st cc=>
      obtain⟨b,ob,h1,h2,h3⟩:=Jl;obtain⟨B5,Oj⟩:=Aef b ob h1 (by simp)
      refine⟨b,ob,hβ.trans h1,fun j p hj=>?_,fun j hj=>?_⟩
      ·obtain⟨v,hv,ON⟩:=h2 j p hj;refine⟨v,by rw[World.cell?_of_block (w:=w) Oj];exact hv,ON.step Are hAoF fun i hi=>?_⟩
       refine Aiw i (fun e1=>?_)
       exact hf.wfB id cc hb p (List.mem_of_getElem? hj) i hi (Du.2 e1)
      ·rw[World.frozen?_of_block (w:=w) Oj];exact h3 j hj
     |ar fz cc=>
      rcases Jl with⟨h1,h2⟩|⟨b,ob,h1,h2,h3,h4⟩
      ·exact .inl ⟨hβ.trans h1,h2⟩
      ·obtain⟨B5,Oj⟩:=Aef b ob h1 (by simp)
       have FQ:bsz w' b=bsz w b:=by unfold bsz;rw[Oj]
       refine .inr ⟨b,ob,hβ.trans h1,fun j p hj=>?_,fun e1 j hj Pc=>?_,fun e1 q=>h4 e1 (hAoF b B5 q)⟩
       ·obtain⟨v,hv,h5,EZ⟩:=h2 j p hj;exact⟨v,by rw[World.cell?_of_block (w:=w) (by rw[Eg];exact Oj)];exact hv,h5,EZ.step Are hAoF⟩
       ·rw[World.frozen?_of_block (w:=w) Oj];exact h3 e1 j hj (by rw[←FQ];exact Pc)
     |mv=>trivial
 ·intro id id' b ob ob' hl Ib hb Gy;simp only at hl Ib
  have mixed:∀i bx i' k z,(i,bx)∈bs++bs'->β1 i=some (k,z)->Cn i'≠none->Cy (Cn i')->∀z',β1 i'=some (k,z')->False:=by
   intro i bx i' k z FW hz PE DL z' hz';obtain⟨j,hj,_⟩:=Sz i bx FW;rw[hj] at hz;rw[hβold i' PE] at hz';cases hq:Cn i' with
   |none=>exact PE hq
   |some bx1=>
    rw[hq] at DL;obtain⟨h1,h2,h3⟩:=hold i' bx1 hq DL;have B5:=h.blt i' k z' (Co h1) hz';obtain⟨id2,o2,h4,h5⟩:=Api k ((out.fresh j k z hz).2 B5).1;have:=h.inj i' id2 k z' o2 h1 (Vq id2 (.inr h4)) hz' h5;subst this;exact h2 h4
  rcases Ge id with⟨bx,FW⟩|e1
  ·rcases Ge id' with⟨bx',hm2⟩|e2
   ·obtain⟨j,hj,Tn⟩:=Sz id bx FW;obtain⟨j',Pc,Avd⟩:=Sz id' bx' hm2;rw[hj] at hb;rw[Pc] at Gy;have:=out.inj j j' b ob ob' hb Gy;subst this;rcases Tn with⟨h1,h2⟩|⟨h1,h2⟩
    ·rcases Avd with⟨h3,_⟩|⟨_,h4⟩
     ·rw[h1,h3]
     ·omega
    ·rcases Avd with⟨_,h4⟩|⟨h3,_⟩
     ·omega
     ·exact Kp _ h1 _ h3 rfl
   ·rw[e2] at Ib;exact (mixed id bx id' b ob FW hb (Co Ib) Ib ob' Gy).elim
  ·rw[e1] at hl;rcases Ge id' with⟨bx',hm2⟩|e2
   ·exact (mixed id' bx' id b ob' hm2 Gy (Co hl) hl ob hb).elim
   ·rw[e2] at Ib
    have g:∀i,Cy (Cn i)->Cy (s.hp i)∧β1 i=β i:=by
     intro i hli;cases hq:Cn i with
     |none=>rw[hq] at hli;exact hli.elim
     |some bx1=>exact⟨(hold i bx1 hq (by rw[←hq];exact hli)).1,hβold i (by rw[hq];simp)⟩
    rw[(g id hl).2] at hb;rw[(g id' Ib).2] at Gy;exact h.inj id id' b ob ob' (g id hl).1 (g id' Ib).1 hb Gy
 ·intro id b ob PE hb;simp only at PE;rcases Ge id with⟨bx,FW⟩|e1
  ·obtain⟨j,hj,_⟩:=Sz id bx FW;rw[hj] at hb;exact (out.fresh j b ob hb).1
  ·rw[e1] at PE;rw[hβold id PE] at hb
   have hn2:s.hp id≠none:=by
    by_cases Bh:id∈lids
    ·exact Co (Vq id (.inl Bh))
    ·rw[hpK id Bh,Fa] at PE;intro e2;have h1:Af s.hp m id=none:=Du.2 e2;rw[h1] at PE;split at PE<;>exact PE rfl
   exact Nat.lt_of_lt_of_le (h.blt id b ob hn2 hb) out.ext.size
 ·have:=Mb (Q:=fun _ p _=>∀id∈Br p,Ap Cn (bs++bs') id≠none) (val:=Gv us) (d:=o.dst) (v:=Ky ws (L7 P o.type)) h.tsz Aat (fun i hi id Bh=>Aj7 id (.inl (h.wfT i hi id Bh))) (fun _ id Bh=>Aj7 id (.inr (by
   obtain⟨bx,hb⟩:=hvr id Bh;exact⟨bx,List.mem_append.2 (.inl hb)⟩)))
  exact this
 ·intro id cells KV p hp i hi;simp only at KV;refine Aj7 i ?_;rcases Ge id with⟨bx,FW⟩|e1
  ·rw[hg1 id bx FW] at KV;cases KV;rcases List.mem_append.1 FW with FW|FW
   ·obtain⟨bx1,hb⟩:=WG id cells FW p hp i hi;exact .inr ⟨bx1,List.mem_append.2 (.inl hb)⟩
   ·obtain⟨cc,e2⟩:=En id _ FW;cases e2
  ·rw[e1] at KV;by_cases Bh:id∈lids
   ·rcases Ail id Bh with⟨off,c1,cs,h1,h2,h3,h4⟩|⟨c1,cs,h1,h2⟩
    ·rw[h2] at KV;cases KV;unfold Ca at hp;rcases List.mem_append.1 hp with hp|hp
     ·rcases List.mem_append.1 hp with hp|hp
      ·exact .inl (h.wfB id c1 h1 p (List.mem_of_mem_take hp) i hi)
      ·obtain⟨bx1,hb⟩:=h4 p hp i hi;exact .inr ⟨bx1,List.mem_append.2 (.inr hb)⟩
     ·exact .inl (h.wfB id c1 h1 p (List.mem_of_mem_drop hp) i hi)
    ·rw[h2] at KV;cases KV
   ·obtain⟨_,_,h3⟩:=hold id _ KV trivial;rcases h3 with h3|⟨_,h3⟩
    ·exact absurd h3 Bh
    ·exact .inl (h.wfB id cells (Hb h3 trivial) p hp i hi)
 ·rintro b ⟨id,ob,hl,hβ⟩
  rcases Nat.lt_or_ge b w.heap.size with B5|hge
  ·exact h.ownd b (hX b B5 ⟨id,ob,hl,hβ⟩)
  ·exact .inr (Nat.le_trans h.fr.step.size hge)
 ·intro id bx b ob hb hl hβ B5 j hj;simp only at hb;have hlw:=Nat.lt_of_lt_of_le B5 h.fr.step.size;rcases Ge id with⟨bx',FW⟩|e1
  ·rw[hg1 id bx' FW] at hb;cases hb;obtain⟨k,hk,_⟩:=Sz id bx FW;rw[hk] at hβ
   have Y6:ob<=j:=by
    cases bx with
    |st cc=>exact hj.1
    |ar fz cc=>exact hj
    |mv=>exact hl.elim
   obtain⟨id2,o2,bx2,h1,h2,h3,h4⟩:=hCL b j (((out.fresh k b ob hβ).2 hlw).2 j Y6);exact h.rngB id2 bx2 b o2 h1 h2 h3 B5 j h4
  ·rw[e1] at hb;rw[hβold id (by rw[hb];simp)] at hβ
   obtain⟨h1,h2,h3⟩:=hold id bx hb hl;rcases h3 with h3|⟨h3,h4⟩
   ·rcases Ail id h3 with⟨off,c1,cs,h5,h6,h7,_⟩|⟨c1,cs,h5,h6⟩
    ·rw[h6] at hb;cases hb;have hj:ob<=j∧j<ob+(Ca c1 cs off).length:=hj;rw[N2 (by omega)] at hj
     exact h.rngB id _ b ob h5 trivial hβ B5 j hj
    ·rw[h6] at hb;cases hb;exact h.rngB id _ b ob h5 trivial hβ B5 j hj
   ·exact h.rngB id bx b ob (Hb h4 hl) hl hβ B5 j hj
 ·intro i hi;obtain⟨h1,h2⟩:=h.pin i hi;exact⟨Aj7 _ (.inl h1),by rw[Aiw _ h1];exact h2⟩
 ·intro id cc b ob hb hβ B5;simp only at hb;have hlw:=Nat.lt_of_lt_of_le B5 h.fr.step.size;rcases Ge id with⟨bx',FW⟩|e1
  ·rw[hg1 id bx' FW] at hb;cases hb;have:=(Akp id _ FW).2.2 cc rfl b ob hβ;omega
  ·rw[e1] at hb;rw[hβold id (by rw[hb];simp)] at hβ
   obtain⟨h1,h2,h3⟩:=hold id _ hb trivial;rcases h3 with h3|⟨h3,h4⟩
   ·rcases Ail id h3 with⟨off,c1,cs,h5,h6,h7,_⟩|⟨c1,cs,h5,h6⟩
    ·exact h.stp id c1 b ob h5 hβ B5
    ·rw[h6] at hb;cases hb
   ·exact h.stp id cc b ob (Hb h4 trivial) hβ B5
 ·intro b hY hXb;exact h.Yx b hY (hX b (Nat.lt_of_lt_of_le (h.Ylt b hY) h.fr.step.size) hXb)
 ·refine⟨out.os.trans h.fr.os,out.tape.trans h.fr.tape,out.output.trans h.fr.output,⟨Nat.le_trans h.fr.step.size out.ext.size,fun b hb hnX=>?_,fun b hb=>(h.fr.step.bs b hb).trans (out.ext.bs b (Nat.lt_of_lt_of_le hb h.fr.step.size))⟩,fun b j hb hnL=>?_⟩
  ·rw[out.ext.keep b (Nat.lt_of_lt_of_le hb h.fr.step.size) ?_]
   ·exact h.fr.step.keep b hb hnX
   ·intro hB;rcases h.ownd b (hBA b hB) with hq|hq
    ·exact hnX hq
    ·omega
  ·have LT:¬BL bt vs b j:=by
    intro hq;obtain⟨id2,o2,bx2,h1,h2,h3,h4⟩:=hCL b j hq;exact hnL (h.rngB id2 bx2 b o2 h1 h2 h3 hb j h4)
   obtain⟨h1,h2⟩:=out.rng b j (Nat.lt_of_lt_of_le hb h.fr.step.size) LT;rw[h1,h2];exact h.fr.rng b j hb hnL
end
open Go.RowKit
section
variable {R:Type} {r:R} {P:Program} {N:Nat} {w0:World} {X0:Gu} {Y:Nat->Prop} {β β':Bt} {s:St} {a:Act} {w w':World} {o:Oper} {A:Nat->Prop}
theorem ME (h:Cl N w0 X0 Y β s a w){c:Call}(ho:o.op=.call c)(hc:c.callee=.builtin .append){d:Nat}(Aat:o.dst=some d){b x:Operand}(El:c.args.toList=[b,x]) {t tx:TypeId}{ts:List TypeId}(Zz:c.argTypes.toList=t::tx::ts)
  {K:St->Option R} (hk:Lz P N s d t tx (Bz s.tm b) (Bz s.tm x) K=some r):
  ∃s',K s'=some r∧∀(next:Act->World->Prop) (Q:Exit->Act->World->Prop),(∀a' w' β',Cl N w0 X0 Y β' s' a' w'->next a' w')->o.wp P a w next Q:=by
 have CW:c.args = #[b,x]:=by
  have:c.args=([b,x]:List Operand).toArray:=by rw[←El]
  exact this
 have PK:c.argTypes=(t::tx::ts).toArray:=by rw[←Zz]
 have run:∀{v:Value} {w1:World},(Builtin.append_ (t::tx::ts).toArray o.type #[a.eval b,a.eval x]).run P w=.ok v w1->∀(next:Act->World->Prop) (Q:Exit->Act->World->Prop),next (a.put (some d) v) w1->o.wp P a w next Q:=by
  intro v w1 hr next Q hn;unfold Oper.wp execOp;rw[ho];simp only[resolve,hc,invoke,builtin,Sem.run_bind,Sem.run_pure,Result.andThen_ok,CW,PK];have:(#[b,x]:Array Operand).map a.eval = #[a.eval b,a.eval x]:=by simp
  rw[this,hr];show next (a.put o.dst v) w1;rw[Aat];exact hn
 have hbv:=Cq h b;have MM:=Eh h b;unfold Lz at hk;split at hk
 ·rename_i e hu;obtain⟨hzi,hk⟩:=Al hk;obtain⟨i,z,hi,hz,hzs,Ln⟩:=DX hzi;cases hit:Up P tx
  rotate_left
  ·rw[hit] at hk;simp only[cond_true] at hk
   obtain⟨ki,htx⟩:∃k,P.underlying tx=some (.int k):=by
    unfold Up at hit;split at hit
    ·exact⟨_,by assumption⟩
    ·cases hit
   unfold Pw at hk;obtain⟨kx,n,hx,hk⟩:=Db hk;obtain⟨zz,n',c',hk,hp⟩:=Ew hk;obtain⟨hb,hk⟩:=Al hk;simp only[Bool.and_eq_true,decide_eq_true_eq] at hb;obtain⟨⟨⟨⟨⟨hzz,hdN⟩,Tp⟩,V8⟩,YS⟩,FY⟩:=hb;have hdN:d<N:=Nat.lt_of_succ_le (Nat.le_of_ble_eq_true hdN);have Tp:s.hp d=none:=by simpa using Tp
   have WC:Fk N (some d)=true:=by simp[Fk,Nat.blt];omega
   have P5:((P.info? e).map (·.bytes)).getD 0=i.bytes:=by rw[hi];rfl
   rw[P5] at YS;rw[Ln] at hk;have Cz:=B3 h hx;rcases Fp hp hbv with⟨Mq,_⟩|⟨_,_,_,AZ,_⟩|⟨_,_,_,AZ,_⟩
   ·refine⟨_,hk,fun next Q hn=>?_⟩
    by_cases hm0:n=0
    ·subst hm0;have hr:=Xq (P:=P) (w:=w) (t:=t) (tx:=tx) (ty:=o.type) (ts:=ts) (kx:=kx) hu htx hi;rw[←Mq,←Cz] at hr;refine run hr next Q (hn _ _ (Ch β d none) ?_);rw[Mq];refine h.stepR (d:=some d) (nw:=[(d,.ar false [])]) (β':=Ch β d none) WC (by simp[Bo,Tp]) ⟨rfl,rfl,rfl,B6.refl _ _,fun j hj=>Ai _ _ (by rintro rfl;exact hj Tp),?_,?_,?_,?_,?_,.inl ⟨Am _ _ _,rfl,rfl,none,rfl⟩,?_⟩
     ·intro j bx hm;simp at hm;rw[hm.2];trivial
     ·intro j bx hm;simp at hm;obtain⟨rfl,rfl⟩:=hm;exact .inl ⟨Am _ _ _,rfl⟩
     ·intro j bx k q hm hq;simp at hm;obtain⟨rfl,rfl⟩:=hm;rw[Am] at hq;cases hq
     ·intro j bx j' bx' k q q' hm Ia _ _;simp at hm Ia;rw[hm.1,Ia.1]
     ·intro j cells hm;simp at hm
     ·intro j hj;simp[Br,B8,An] at hj;subst hj;exact .inr ⟨.ar false [],by simp⟩
    ·have hr:=Zi (P:=P) (w:=w) (t:=t) (tx:=tx) (ty:=o.type) (ts:=ts) (kx:=kx) hu htx hi hz (n:=n) (by omega) YS FY
     rw[←Mq,←Cz] at hr;refine run hr next Q (hn _ _ (Ch β d (some (w.heap.size,0))) ?_);have hge:n.toNat<=grownCap w n.toNat 0 e:=grownCap_ge w n.toNat 0 e;generalize AE:((if n.toNat*i.size=0 then #[] else Builtin.zeroCells z.cells n.toNat)++Builtin.zeroCells z.cells (grownCap w n.toNat 0 e-n.toNat))=cs
     have Th:Fn w (w.drew.alloc (.cells cs e)) cs e:=
      ⟨rfl,rfl,rfl,fun k hk=>Below.heap_alloc w.drew _ k hk,by show (w.heap.push _).size=_;simp,(0,0),by show (w.heap.push _)[w.heap.size]?=_;simp,.inl rfl⟩
     have ST:cs.size=grownCap w n.toNat 0 e*i.size:=by
      rw[←AE];by_cases SA:n.toNat*i.size=0
      ·rw[if_pos SA]
       have hi0:i.size=0:=by
        rcases Nat.mul_eq_zero.1 SA with h|h
        ·omega
        ·exact h
       simp[size_zeroCells,hzs,hi0]
      ·rw[if_neg SA];simp only[Array.size_append,size_zeroCells,hzs,←Nat.add_mul]
       congr 1
       omega
     refine h.stepR (d:=some d) (nw:=[(d,.ar false [])]) WC (by simp[Bo,Tp]) (M6 Th Tp trivial ?_ (fun cells hx=>by cases hx) ?_ (by intro j hj;simp[Br,B8,An] at hj;exact .inr hj))
     ·refine .inr ⟨w.heap.size,0,Am _ _ _,fun j p hj=>by simp at hj,fun _ j _ hj=>?_,(fun q=>by cases q)⟩
      rw[Th.bsz] at hj;exact Th.frozen hj
     ·refine .inr ⟨w.heap.size,0,0,grownCap w n.toNat 0 e,Am _ _ _,rfl,.inl rfl,hge,?_,by rw[Th.size];omega⟩
      exact⟨by rw[Th.bsz,ST];omega,.inr (Ir w.drew _ e)⟩
   ·rw[AZ] at hzz;cases hzz
   ·rw[AZ] at hzz;cases hzz
  rw[hit] at hk;simp only[cond_false] at hk;have P5:((P.info? e).map (·.bytes)).getD 0=i.bytes:=by rw[hi];rfl
  obtain⟨⟨dx,hdx,ND⟩,m,new,news,hk,hs⟩:=DB h hk (by
   intro m new hk;split at hk
   ·split at hk
    ·obtain⟨hb,_⟩:=Al hk;simp only[Bool.and_eq_true,decide_eq_true_eq] at hb;have he:=Nat.eq_of_beq_eq_true hb.1.1.1.1.1.1.1;rw[←he];exact hb.1.1.2
    ·cases hk
   ·obtain⟨zz,n',c',hk,_⟩:=Ew hk;obtain⟨hb,_⟩:=Al hk;simp only[Bool.and_eq_true,decide_eq_true_eq] at hb;exact hb.1.1.2)
  rw[Ln] at hs;have hnl:new.length=news.length:=hs.rep.len;split at hk
  ·rename_i id es off n eb;rw[eb] at hbv MM;split at hk
   ·rename_i cc h0;obtain⟨hb,D8⟩:=Al hk;simp only[Bool.and_eq_true,decide_eq_true_eq] at hb;obtain⟨⟨⟨⟨⟨⟨⟨R5,Mp⟩,hdN⟩,Tp⟩,A6g⟩,WN⟩,YS⟩,FY⟩:=hb;have R5:=Nat.eq_of_beq_eq_true R5;have Mp:=Nat.eq_of_beq_eq_true Mp;have hdN:d<N:=Nat.lt_of_succ_le (Nat.le_of_ble_eq_true hdN);have Tp:s.hp d=none:=by simpa using Tp
    subst Mp;rw[Ln] at R5;subst R5;rw[P5] at YS;have Y0:news.length=m*i.size:=by omega
    have Bbv:s.hp id≠none:=by rw[h0];simp
    have Abc:=h.box id _ h0;refine⟨_,D8,fun next Q hn=>?_⟩
    have grow:∀(ad:Option Addr) (cap:Nat) (olds:List Value),a.eval b=.slice ad n cap->Bc (Au w (Cw s.hp β Y)) (cc.take (n*i.size)) olds->(∀u∈olds,u.oneCell'=true)->olds.length=n*i.size ->
      ((ad=none∧olds=[])∨∃p,ad=some p∧olds.length=n*i.size∧∀(j:Nat) v,olds[j]?=some v->w.cell? (p.add j)=some v)->cap<n+m->o.wp P a w next Q:=by
     intro ad cap olds Mq holds h1 hol hold Tf;have hr:=Ju (P:=P) (w:=w) (t:=t) (tx:=tx) (ty:=o.type) (ts:=ts) hu hdx ND hi hz hs hold Tf YS FY;rw[←Mq] at hr;refine run hr next Q (hn _ _ (Ch β d (some (w.heap.size,0))) ?_);have hge:n+m<=grownCap w (n+m) cap e:=grownCap_ge w (n+m) cap e
     have Th:Fn w (w.drew.alloc (.cells (olds.toArray++news.toArray++Builtin.zeroCells z.cells (grownCap w (n+m) cap e-(n+m))) e)) (olds.toArray++news.toArray++Builtin.zeroCells z.cells (grownCap w (n+m) cap e-(n+m))) e:=
      ⟨rfl,rfl,rfl,fun k hk=>Below.heap_alloc w.drew _ k hk,by show (w.heap.push _).size=_;simp,(0,0),by show (w.heap.push _)[w.heap.size]?=_;simp,.inl rfl⟩
     have ST:(olds.toArray++news.toArray++Builtin.zeroCells z.cells (grownCap w (n+m) cap e-(n+m))).size=grownCap w (n+m) cap e*i.size:=by
      simp only[Array.size_append,List.size_toArray,size_zeroCells,hzs,hol,Y0,←Nat.add_mul]
      congr 1
      omega
     have KK:∀k y,some (w.heap.size,0)=some (k,y)->w.heap.size<=k∨∃q,β id=some (k,q):=by
      intro k y hh;simp at hh;exact .inl (by omega)
     refine h.move h0 Tp hdN rfl rfl rfl (by rw[Th.size];omega) (fun k hk _=>Th.old k hk) Th.step.bs (fun k y hh=>⟨by simp at hh;rw[Th.size];omega,KK k y hh⟩) (fun k y hh B5=>by simp at hh;omega)
      (fun k y _ B5 j _=>⟨World.cell?_of_block (w:=w) (Th.old k B5),World.frozen?_of_block (w:=w) (Th.old k B5)⟩) ?_ ?_ (by intro j hj;simpa [Br,B8,An] using hj)
     ·refine .inr ⟨w.heap.size,0,Am _ _ _,CO Th (SP h0 Tp KK) holds hs.rep h1 hs.one,fun _ j _ hj=>?_,(fun q=>by cases q)⟩
      rw[Th.bsz] at hj;exact Th.frozen hj
     ·refine .inr ⟨w.heap.size,0,0,grownCap w (n+m) cap e,Am _ _ _,rfl,.inl rfl,hge,?_,by rw[Th.size];omega⟩
      exact⟨by rw[Th.bsz,ST];omega,.inr (Ir w.drew _ e)⟩
    rcases hbv with⟨hβ,_,rfl,ad,Mq⟩|⟨bb,ob,y,cap,hβ,Mq,hy,Arl,Tf,Atf⟩
    ·rcases Abc with⟨_,rfl⟩|⟨b',o',En,_⟩
     ·by_cases hm0:m=0
      ·subst hm0;have hr:=Jq (P:=P) (w:=w) (t:=t) (tx:=tx) (ty:=o.type) (ts:=ts) (ad:=ad) hu hdx ND hi hs (List.eq_nil_of_length_eq_zero (by omega))
       rw[←Mq] at hr;have QU:new=[]:=List.eq_nil_of_length_eq_zero (by omega)
       subst QU;refine run hr next Q (hn _ _ (Ch β d none) ?_);rw[Mq];refine h.move h0 Tp hdN rfl rfl rfl (Nat.le_refl _) (fun _ _ _=>rfl) (fun _ _=>Gf.refl _ _) (fun k q hh=>by cases hh) (fun k q hh=>by cases hh) (fun _ _ _ _ _ _=>⟨rfl,rfl⟩) ?_ ?_ (by intro j hj;simpa [Br,B8,An] using hj)
       ·exact .inl ⟨Am _ _ _,by simp⟩
       ·exact .inl ⟨Am _ _ _,rfl,rfl,ad,rfl⟩
      ·exact grow ad 0 [] Mq (by simp[Bc]) (by simp) (by simp) (by cases ad with
        |none=>exact .inl ⟨rfl,rfl⟩
        |some p=>exact .inr ⟨p,rfl,by simp,fun j v hj=>by simp at hj⟩) (by omega)
     ·rw[hβ] at En;cases En
    ·rcases Abc with⟨En,_⟩|⟨b',o',En,G3,Sk,_⟩
     ·rw[hβ] at En;cases En
     rw[hβ] at En;simp at En;obtain⟨rfl,rfl⟩:=En;have hy:y=ob:=by rcases hy with hy|⟨_,hq⟩<;>omega
     subst hy;by_cases Ac4:n+m<=cap
     ·have Atb:y+n*i.size+news.length<=bsz w bb:=by
       have h5:n*i.size+m*i.size<=cap*i.size:=by rw[←Nat.add_mul];exact Nat.mul_le_mul_right _ Ac4
       have:=Tf.1;omega
      have Cp:∀k,k<news.length->(w.cell? ⟨bb,y+n*i.size+k,none⟩).isSome=true:=fun k hk=>Acm (by omega)
      have hr:=Z0 (P:=P) (w:=w) (t:=t) (tx:=tx) (ty:=o.type) (ts:=ts) (b:=bb) (ob:=y) (n:=n) (cap:=cap) hu hdx ND hi hs Y0 Cp (fun k hk=>Sk rfl _ (by omega) (by omega)) Ac4
      rw[←Mq] at hr;have hw:=Dk.setCells bb news (y+n*i.size) w
      have KK:∀k q,some (bb,y)=some (k,q)->w.heap.size<=k∨∃q',β id=some (k,q'):=by
       intro k q hh;simp at hh;obtain⟨rfl,rfl⟩:=hh;exact .inr ⟨_,hβ⟩
      refine run hr next Q (hn _ _ (Ch β d (some (bb,y))) ?_)
      have Fh:B6 (Cw s.hp β Y) w (w.setCells bb (y+n*i.size) news):=by
       have hAb:Cw s.hp β Y bb:=.inl ⟨id,y,by rw[h0];trivial,hβ⟩
       exact⟨by rw[hw.size];exact Nat.le_refl _,fun k _ hk=>hw.other k (fun e=>hk (e ▸ hAb)),fun k _=>hw.grow k⟩
      refine h.move h0 Tp hdN hw.os hw.tape hw.output (by rw[hw.size];exact Nat.le_refl _) (fun k _ hq=>hw.other k (by rintro rfl;exact hq _ hβ)) Fh.bs (fun k q hh=>⟨by simp at hh;rw[hw.size];omega,KK k q hh⟩) (fun k q hh _=>by rw[hβ];exact hh)
       (fun k q hh _ j hj=>by
        rw[hβ] at hh;cases hh;exact⟨World.cell?_setCells_out bb _ _ w ⟨bb,j,none⟩ (fun _ _=>by show j<y+n*i.size∨y+n*i.size+_<=j;omega),hw.frz j⟩) ?_ ?_ (by intro j hj;simpa [Br,B8,An] using hj)
      ·refine .inr ⟨bb,y,Am _ _ _,fun j p hj=>?_,fun _ j hj Pc=>?_,(fun q=>by cases q)⟩
       ·rw[Eb];by_cases hjn:j<n*i.size
        ·rw[List.getElem?_append_left (by rw[List.length_take];omega),List.getElem?_take_of_lt hjn] at hj
         obtain⟨u,Ho,h5,ht⟩:=G3 j p hj;rw[Eb] at Ho;refine⟨u,?_,h5,ht.step Fh (SP h0 Tp KK)⟩;rw[World.cell?_setCells_out bb _ _ w ⟨bb,y+j,none⟩ (fun _ _=>by show y+j<y+n*i.size∨y+n*i.size+_<=y+j;omega)]
         exact Ho
        ·rw[List.getElem?_append_right (by rw[List.length_take];omega),List.length_take,Nat.min_eq_left A6g] at hj
         obtain⟨u,Ho,ht⟩:=hs.rep.get hj
         have B5:j-n*i.size<news.length:=by
          rcases Nat.lt_or_ge (j-n*i.size) news.length with h|h
          ·exact h
          ·rw[List.getElem?_eq_none h] at Ho;cases Ho
         refine⟨u,?_,hs.one u (List.mem_of_getElem? Ho),ht.step Fh (SP h0 Tp KK)⟩;have:=World.cell?_setCells_in bb news (y+n*i.size) w Cp (j-n*i.size) B5;rw[show y+j=y+n*i.size+(j-n*i.size) from by omega,this]
         rw[List.getElem?_eq_getElem B5] at Ho;exact Ho
       ·rw[hw.bs] at Pc;rw[hw.frz];exact Sk rfl j hj Pc
      ·exact .inr ⟨bb,y,y,cap,Am _ _ _,rfl,.inl rfl,Ac4,Tf.step (hw.grow bb),by rw[hw.size];exact Atf⟩
     ·-- the old cells
      have hob:∀(j:Nat) p,(cc.take (n*i.size))[j]?=some p->∃v,w.cell? ⟨bb,y+j,none⟩=some v∧v.oneCell'=true∧Au w (Cw s.hp β Y) p v:=by
       intro j p hj;rw[List.getElem?_take] at hj;split at hj
       ·obtain⟨v,hv,h5,ht⟩:=G3 j p hj;rw[Eb] at hv;exact⟨v,hv,h5,ht⟩
       ·cases hj
      have Dj:(cc.take (n*i.size)).length=n*i.size:=by rw[List.length_take];omega
      refine grow _ cap ((cc.take (n*i.size)).mapIdx fun j _=>(w.cell? ⟨bb,y+j,none⟩).getD undef) Mq ?_ ?_ (by simp only[List.length_mapIdx];exact Dj) (.inr ⟨_,rfl,by simp only[List.length_mapIdx];exact Dj,fun j v hj=>?_⟩) (by omega)
      ·refine Bc.of_at (by simp) fun j p v hp hv=>?_
       obtain⟨u,Ho,_,ht⟩:=hob j p hp;rw[List.getElem?_mapIdx,hp,Option.map_some,Ho] at hv;simp at hv;subst hv;exact ht
      ·intro v hv;obtain⟨j,hj⟩:=List.mem_iff_getElem?.1 hv;rw[List.getElem?_mapIdx] at hj;cases hp:(cc.take (n*i.size))[j]? with
       |none=>rw[hp] at hj;cases hj
       |some p=>
        obtain⟨u,Ho,h5,_⟩:=hob j p hp;rw[hp,Option.map_some,Ho] at hj;simp at hj;subst hj;exact h5
      ·rw[List.getElem?_mapIdx] at hj;cases hp:(cc.take (n*i.size))[j]? with
       |none=>rw[hp] at hj;cases hj
       |some p=>
        obtain⟨u,Ho,h5,_⟩:=hob j p hp;rw[hp,Option.map_some,Ho] at hj;simp at hj;subst hj;rw[Eb];exact Ho
   ·cases hk
  ·obtain⟨zz,n',c',hk,hp⟩:=Ew hk;obtain⟨hb,hk⟩:=Al hk;simp only[Bool.and_eq_true,decide_eq_true_eq] at hb;obtain⟨⟨⟨⟨⟨hzz,hdN⟩,Tp⟩,WN⟩,YS⟩,FY⟩:=hb;have hdN:d<N:=Nat.lt_of_succ_le (Nat.le_of_ble_eq_true hdN);have Tp:s.hp d=none:=by simpa using Tp
   have WC:Fk N (some d)=true:=by simp[Fk,Nat.blt];omega
   rw[Ln] at WN hk;rw[P5] at YS;have Y0:news.length=m*i.size:=by omega
   rcases Fp hp hbv with⟨Mq,_⟩|⟨_,_,_,AZ,_⟩|⟨_,_,_,AZ,_⟩
   ·refine⟨_,hk,fun next Q hn=>?_⟩
    by_cases hm0:m=0
    ·subst hm0;have hr:=Jq (P:=P) (w:=w) (t:=t) (tx:=tx) (ty:=o.type) (ts:=ts) (ad:=none) hu hdx ND hi hs (List.eq_nil_of_length_eq_zero (by omega))
     rw[←Mq] at hr;have QU:new=[]:=List.eq_nil_of_length_eq_zero (by omega)
     subst QU;refine run hr next Q (hn _ _ (Ch β d none) ?_);rw[Mq];refine h.stepR (d:=some d) (nw:=[(d,.ar false [])]) (β':=Ch β d none) WC (by simp[Bo,Tp]) ⟨rfl,rfl,rfl,B6.refl _ _,fun j hj=>Ai _ _ (by rintro rfl;exact hj Tp),?_,?_,?_,?_,?_,.inl ⟨Am _ _ _,rfl,rfl,none,rfl⟩,?_⟩
     ·intro j bx hm;simp at hm;rw[hm.2];trivial
     ·intro j bx hm;simp at hm;obtain⟨rfl,rfl⟩:=hm;exact .inl ⟨Am _ _ _,rfl⟩
     ·intro j bx k q hm hq;simp at hm;obtain⟨rfl,rfl⟩:=hm;rw[Am] at hq;cases hq
     ·intro j bx j' bx' k q q' hm Ia _ _;simp at hm Ia;rw[hm.1,Ia.1]
     ·intro j cells hm;simp at hm
     ·intro j hj;simp[Br,B8,An] at hj;subst hj;exact .inr ⟨.ar false [],by simp⟩
    ·have hr:=Ju (P:=P) (w:=w) (t:=t) (tx:=tx) (ty:=o.type) (ts:=ts) (ad:=none) (n:=0) (cap:=0) (olds:=[]) hu hdx ND hi hz hs (.inl ⟨rfl,rfl⟩) (by omega) (by rw[Nat.zero_add];exact YS) (by omega)
     rw[←Mq] at hr;refine run hr next Q (hn _ _ (Ch β d (some (w.heap.size,0))) ?_);have hge:0+m<=grownCap w (0+m) 0 e:=grownCap_ge w (0+m) 0 e
     have Th:Fn w (w.drew.alloc (.cells (([]:List Value).toArray++news.toArray++Builtin.zeroCells z.cells (grownCap w (0+m) 0 e-(0+m))) e)) (([]:List Value).toArray++news.toArray++Builtin.zeroCells z.cells (grownCap w (0+m) 0 e-(0+m))) e:=
      ⟨rfl,rfl,rfl,fun k hk=>Below.heap_alloc w.drew _ k hk,by show (w.heap.push _).size=_;simp,(0,0),by show (w.heap.push _)[w.heap.size]?=_;simp,.inl rfl⟩
     have ST:(([]:List Value).toArray++news.toArray++Builtin.zeroCells z.cells (grownCap w (0+m) 0 e-(0+m))).size=grownCap w (0+m) 0 e*i.size:=by
      simp only[Array.size_append,List.size_toArray,size_zeroCells,hzs,Y0,List.length_nil,←Nat.add_mul];rw[Nat.zero_add (m*i.size),←Nat.add_mul]
      congr 1
      omega
     refine h.stepR (d:=some d) (nw:=[(d,.ar false new)]) WC (by simp[Bo,Tp]) (M6 Th Tp trivial ?_ (fun cells hx=>by cases hx) ?_ (by intro j hj;simp[Br,B8,An] at hj;exact .inr hj))
     ·refine .inr ⟨w.heap.size,0,Am _ _ _,?_,fun _ j _ hj=>?_,(fun q=>by cases q)⟩
      ·exact CO (pre:=[]) Th (XB Tp) trivial hs.rep (by simp) hs.one
      ·rw[Th.bsz] at hj;exact Th.frozen hj
     ·refine .inr ⟨w.heap.size,0,0,grownCap w (0+m) 0 e,Am _ _ _,by rw[Nat.zero_add],.inl rfl,by omega,?_,by rw[Th.size];omega⟩
      exact⟨by rw[Th.bsz,ST];omega,.inr (Ir w.drew _ e)⟩
   ·rw[AZ] at hzz;cases hzz
   ·rw[AZ] at hzz;cases hzz
 ·cases hk
theorem SZ (h:Cl N w0 X0 Y β s a w){c:Call}(ho:o.op=.call c)(hc:c.callee=.builtin .copy){b x:Operand}(El:c.args.toList=[b,x]) {t tx:TypeId}{ts:List TypeId}(Zz:c.argTypes.toList=t::tx::ts)
  {K:St->Option R} (hk:HO P N s o.dst t tx (Bz s.tm b) (Bz s.tm x) K=some r):
  ∃s',K s'=some r∧∀(next:Act->World->Prop) (Q:Exit->Act->World->Prop),(∀a' w' β',Cl N w0 X0 Y β' s' a' w'->next a' w')->o.wp P a w next Q:=by
 have CW:c.args = #[b,x]:=by
  have:c.args=([b,x]:List Operand).toArray:=by rw[←El]
  exact this
 have PK:c.argTypes=(t::tx::ts).toArray:=by rw[←Zz]
 have run:∀{v:Value} {w1:World},(Builtin.copy_ (t::tx::ts).toArray o.type #[a.eval b,a.eval x]).run P w=.ok v w1->∀(next:Act->World->Prop) (Q:Exit->Act->World->Prop),next (a.put o.dst v) w1->o.wp P a w next Q:=by
  intro v w1 hr next Q hn;unfold Oper.wp execOp;rw[ho];simp only[resolve,hc,invoke,builtin,Sem.run_bind,Sem.run_pure,Result.andThen_ok,CW,PK];have:(#[b,x]:Array Operand).map a.eval = #[a.eval b,a.eval x]:=by simp
  rw[this,hr];exact hn
 have hbv:=Cq h b;unfold HO at hk;split at hk
 ·rename_i e hu;obtain⟨hzi,hk⟩:=Al hk;simp only[Bool.and_eq_true] at hzi;obtain⟨Mk,WC⟩:=hzi;obtain⟨i,hi⟩:∃i,P.info? e=some i:=Option.isSome_iff_exists.1 Mk;have Ln:A8 P e=i.size:=by unfold A8;rw[hi];rfl
  have h1c:∀(m:Nat) (new:List PV),(match Bz s.tm b with
    |.view id es off n=>
     match s.hp id with
     |some (.ar false c)=>Be (Nat.beq es (A8 P e)&&decide (off+n*es<=c.length)&&decide (new.length=m*es))
       (Ac (min m n) fun k=>Ac (Ca c (new.take (k*es)) off) fun c=>K ⟨Bj s.tm o.dst (.sc (.int .i64 k)),Ch s.hp id (some (.ar false c))⟩)
     |_=>none
    |_=>none)=some r->new.length=m*A8 P e:=by
   intro m new hk;split at hk
   ·split at hk
    ·obtain⟨hb,_⟩:=Al hk;simp only[Bool.and_eq_true,decide_eq_true_eq] at hb;rw[←Nat.eq_of_beq_eq_true hb.1.1];exact hb.2
    ·cases hk
   ·cases hk
  obtain⟨_,m,new,news,hk,hs⟩:=DB h hk h1c;split at hk
  ·rename_i id es off n hb;rw[hb] at hbv;split at hk
   ·rename_i cc h0;obtain⟨hb,hk⟩:=Al hk;simp only[Bool.and_eq_true,decide_eq_true_eq] at hb;obtain⟨⟨R5,Y6⟩,hnl⟩:=hb;have R5:=Nat.eq_of_beq_eq_true R5;subst R5;rw[Ln] at hk hs Y6 hnl hbv;have Y0:news.length=m*i.size:=by rw[←hs.rep.len];exact hnl
    have hkm:min m n*i.size<=m*i.size:=Nat.mul_le_mul_right _ (Nat.min_le_left _ _);have hkn:min m n*i.size<=n*i.size:=Nat.mul_le_mul_right _ (Nat.min_le_right _ _);have Jm:K ⟨Bj s.tm o.dst (.sc (.int .i64 ((min m n:Nat):Int))),Ch s.hp id (some (.ar false (Ca cc (new.take (min m n*i.size)) off)))⟩=some r:=hk;refine⟨_,Jm,fun next Q hn=>?_⟩
    have Ah4:∀{β':Bt} {Cn:Nat->Option Bl} {w':World},Cl N w0 X0 Y β' ⟨s.tm,Cn⟩ a w'->Cl N w0 X0 Y β' ⟨Bj s.tm o.dst (.sc (.int .i64 ((min m n:Nat):Int))),Cn⟩ (a.put o.dst (goInt ((min m n:Nat):Int))) w':=
     fun hh=>hh.put WC (Au.sc _) (fun _ hx=>by cases hx)
    have Ad2:new.take (min m n*i.size)=[]->Ch s.hp id (some (.ar false (Ca cc (new.take (min m n*i.size)) off)))=s.hp:=by
     intro e;rw[e];refine Tq _ ?_;rw[h0];simp[Ca]
    have nothing:min m n*i.size=0->∀(ad:Option Addr) (cap:Nat),a.eval b=.slice ad n cap->o.wp P a w next Q:=by
     intro e ad cap Mq;have hr:=PZ (P:=P) (w:=w) (w1:=w) (t:=t) (ty:=o.type) (ts:=tx::ts) (ad:=ad) (n:=n) (cap:=cap) hu hi hs (by rw[e];cases ad<;>simp[storeCells])
     rw[←Mq] at hr;refine run hr next Q (hn _ _ β (Ah4 ?_));rw[Ad2 (by rw[e,List.take_zero])]
     exact h
    rcases hbv with⟨hβ,_,rfl,ad,Mq⟩|⟨bb,ob,y,cap,hβ,Mq,hy,Arl,Tf,Atf⟩
    ·exact nothing (by simp) ad 0 Mq
    ·by_cases hm0:min m n*i.size=0
     ·exact nothing hm0 _ _ Mq
     rcases h.box id _ h0 with⟨En,_⟩|⟨b',o',En,G3,Sk,_⟩
     ·rw[hβ] at En;cases En
     rw[hβ] at En;simp at En;obtain⟨rfl,rfl⟩:=En;have V8:n≠0:=by rintro rfl;simp at hm0
     have hy:y=ob+off:=by rcases hy with hy|⟨hq,_⟩<;>first|exact absurd hq V8|exact hy
     subst hy;have B5:(news.take (min m n*i.size)).length=min m n*i.size:=by rw[List.length_take,Y0];omega
     have Cp:∀k,k<(news.take (min m n*i.size)).length->(w.cell? ⟨bb,ob+off+k,none⟩).isSome=true:=by
      intro k hk;obtain⟨v,hv,_⟩:=G3 (off+k) _ (List.getElem?_eq_getElem (by omega))
      rw[Eb] at hv;rw[Nat.add_assoc,hv];rfl
     have hfr:∀k,k<(news.take (min m n*i.size)).length->w.frozen? ⟨bb,ob+off+k,none⟩=false:=fun k hk=>by
      obtain⟨u,hu⟩:=Option.isSome_iff_exists.1 (Cp k hk);exact Sk rfl _ (by omega) (AU hu)
     have h1:∀u∈news.take (min m n*i.size),u.oneCell'=true:=fun u hu=>hs.one u (List.mem_of_mem_take hu)
     have h3:=run_storeCells_cells (P:=P) bb (ob+off) (news.take (min m n*i.size)) 0 w (fun k hk=>by simpa using Cp k hk) (fun k hk=>by simpa using hfr k hk) h1
     have hr:=PZ (P:=P) (w:=w) (t:=t) (ty:=o.type) (ts:=tx::ts) (ad:=some ⟨bb,ob+off,none⟩) (n:=n) (cap:=cap) hu hi hs h3;rw[←Mq] at hr;simp only[Nat.add_zero] at hr;refine run hr next Q (hn _ _ β (Ah4 ?_))
     refine h.write h0 trivial trivial hβ (Dk.setCells bb _ _ w) ?_ (fun cells hx=>by cases hx) (fun _ hx=>by cases hx) (fun j hj=>hj) (fun j hj=>by
      refine World.cell?_setCells_out bb _ _ w ⟨bb,j,none⟩ (fun _ _=>?_)
      have hj:¬(ob<=j):=hj;show j<ob+off∨ob+off+_<=j;omega)
     have Fh:B6 (Cw s.hp β Y) w (w.setCells bb (ob+off) (news.take (min m n*i.size))):=by
      have hw:=Dk.setCells bb (news.take (min m n*i.size)) (ob+off) w;have hAb:Cw s.hp β Y bb:=.inl ⟨id,ob,by rw[h0];trivial,hβ⟩
      exact⟨by rw[hw.size];exact Nat.le_refl _,fun k _ hk=>hw.other k (fun e=>hk (e ▸ hAb)),fun k _=>hw.grow k⟩
     have hll:(new.take (min m n*i.size)).length=min m n*i.size:=by rw[List.length_take,hnl];omega
     refine .inr ⟨bb,ob,hβ,fun j p hj=>?_,fun _ j hj Pc=>?_,(fun x=>by cases x)⟩
     ·rw[Eb];rcases Oi (by omega) hj with⟨h3,h4,h5⟩|⟨h3,h5⟩
      ·have Aty:j-off<min m n*i.size:=by omega
       rw[List.getElem?_take_of_lt Aty] at h5;obtain⟨u,hu,hcu⟩:=hs.rep.get h5;have Ad5:j-off<(news.take (min m n*i.size)).length:=by omega
       refine⟨u,?_,hs.one u (List.mem_of_getElem? hu),hcu.step Fh (fun _ _ x=>x)⟩
       have:=World.cell?_setCells_in bb (news.take (min m n*i.size)) (ob+off) w Cp (j-off) Ad5;rw[show ob+j=ob+off+(j-off) from by omega,this]
       rw[←List.getElem?_eq_getElem Ad5,List.getElem?_take_of_lt Aty];exact hu
      ·obtain⟨v,hv,h6,Zc⟩:=G3 j p h5;rw[Eb] at hv;refine⟨v,?_,h6,Zc.step Fh (fun _ _ x=>x)⟩
       rw[World.cell?_setCells_out bb _ _ w ⟨bb,ob+j,none⟩ (fun _ _=>by show ob+j<ob+off∨ob+off+_<=ob+j;omega)]
       exact hv
     ·rw[(Dk.setCells bb _ _ w).bs] at Pc;rw[(Dk.setCells bb _ _ w).frz];exact Sk rfl j hj Pc
   ·cases hk
  ·cases hk
 ·cases hk
theorem TW (h:Cl N w0 X0 Y β s a w){G:S2}(Iy:OE P G w0 X0){C:F4}{call:Ax}(Dl:∀f args res,call f args=some res->C4 G P f args res){K:St->Option R}(hk:Rx C P N call s o K=some r):
  ∃s',K s'=some r∧∀(next:Act->World->Prop) (Q:Exit->Act->World->Prop),(∀a' w' β',Cl N w0 X0 Y β' s' a' w'->next a' w')->o.wp P a w next Q:=by
 unfold Rx at hk;split at hk
 ·rename_i t x y ho;obtain⟨hd,hk⟩:=Al hk;exact PQ h ho (by simpa using hd) hk
 ·rename_i c ho;split at hk
  ·rename_i hc;obtain⟨d,hd,Dm⟩:=B7 hk;obtain⟨b,xs,FC,D8⟩:=A7 Dm;obtain⟨x,ys,hys,Jn⟩:=A7 D8;obtain⟨Wz,Rw⟩:=Dc Jn;obtain⟨t,us,hus,UQ⟩:=A7 Rw;obtain⟨tx,vs,O9,hk6⟩:=A7 UQ;rw[hys,Wz] at FC;rw[O9] at hus;exact ME h ho hc hd FC hus hk6
  ·rename_i hc;obtain⟨b,xs,FC,D8⟩:=A7 hk;obtain⟨x,ys,hys,Jn⟩:=A7 D8;obtain⟨Wz,Rw⟩:=Dc Jn;obtain⟨t,us,hus,UQ⟩:=A7 Rw;obtain⟨tx,vs,O9,hk6⟩:=A7 UQ;rw[hys,Wz] at FC;rw[O9] at hus;exact SZ h ho hc FC hus hk6
  ·rename_i f hc;exact NY h Iy Dl ho hc hk
  ·cases hk
 ·cases hk
theorem TT (h:Cl N w0 X0 Y β s a w){G:S2}(Iy:OE P G w0 X0){C:F4}{call:Ax}(Dl:∀f args res,call f args=some res->C4 G P f args res){K:St->Option R}(hk:NK C P N call o s K=some r):
  ∃s',K s'=some r∧∀(next:Act->World->Prop) (Q:Exit->Act->World->Prop),(∀a' w' β',Cl N w0 X0 Y β' s' a' w'->next a' w')->o.wp P a w next Q:=by
 unfold NK at hk;cases hm:On C P o.op
 ·rw[hm] at hk;exact TY h Iy Dl hk
 ·rw[hm] at hk;exact TW h Iy Dl hk
end
end
end Go.Proofs.YtodnjibebeghjaaDoor.Pv
