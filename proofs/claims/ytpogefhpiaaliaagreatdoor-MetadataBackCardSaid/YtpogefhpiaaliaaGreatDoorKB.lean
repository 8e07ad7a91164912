/-
  The proof of MetadataBack, part 2.
-/
import Derived.Test.YtpogefhpiaaliaaGreatDoorKA
import Derived.Laws.Append
import Derived.IntWalk
import Derived.Laws.AppendOwn
import Derived.Laws.IdiomCopy
set_option linter.unusedSimpArgs false
set_option linter.unusedVariables false
namespace Go.Proofs.YtpogefhpiaaliaaGreatDoor.Pv
section
open Go.RowKit
def Jm (w:World)(A:Nat->Prop)(own:Option (Nat × Nat)) (p:PV)(u:Value):Prop:=
 match p with
 |.own es n c=>(own=none∧n=0∧c=[]∧∃ad,u=.slice ad 0 0) ∨
   ∃b o cap,own=some (b,o)∧u=.slice (some ⟨b,o,none⟩) n cap∧n<=cap∧o+cap*es<=bsz w b∧b<w.heap.size∧VH w A ⟨b,o,none⟩ c∧∀j,o<=j->j<bsz w b->w.frozen? ⟨b,j,none⟩=false
 |p=>A4 w A p u
def Hf (w:World)(A:Nat->Prop)(own:Bt):Nat->List PV->List Value->Prop
 |_,[],[]=>True
 |j,p::ps,u::us=>Jm w A (own j) p u∧Hf w A own (j+1) ps us
 |_,_,_=>False
def Aum (w:World)(A:Nat->Prop)(own:Bt)(j b o:Nat)(cs:List PV):Prop:=
 ∃vs,Hf w A own j cs vs∧(∀(k:Nat) v,vs[k]?=some v->w.cell? ⟨b,o+k,none⟩=some v)∧∀k,k<cs.length->w.frozen? ⟨b,o+k,none⟩=false
def Awn (w:World)(A:Nat->Prop)(own:Bt)(z j:Nat)(p:PV)(u:Value):Prop:=
 match p with
 |.agg cs=>∃vs,u=.agg ⟨vs⟩∧Hf w A own j cs vs
 |.pbox cs=>∃b o,own j=some (b,o)∧z<=b∧u=.pointer (some ⟨b,o,none⟩)∧Aum w A own (j+1) b o cs
 |p=>Jm w A (own j) p u
def plc:PV->Nat
 |.pbox cs=>1+cs.length
 |p=>(cellsOf p).length
def Aj0 (w:World)(A:Nat->Prop)(own:Bt)(z:Nat):Nat->List PV->List Value->Prop
 |_,[],[]=>True
 |j,p::ps,u::us=>Awn w A own z j p u∧Aj0 w A own z (j+plc p) ps us
 |_,_,_=>False
abbrev MG:=Nat->Nat->Option (Nat × Nat)
def BtX (bt:MG)(b:Nat):Prop:=∃i j o,bt i j=some (b,o)
def isA (p:PV):Prop:=BL p∨∃es n c,p=.own es n c
def FY (p:PV):Bool:=
 match p with
 |.pbox _=>true
 |.tup _=>true
 |_=>false
theorem Avc {p:PV}(h:isA p):FY p=false:=by
 rcases h with h|⟨_,_,_,rfl⟩
 ·cases p<;>first|rfl|exact h.elim
 ·rfl
def Ab7 (w:World)(A:Nat->Prop)(bt:Bt)(p:PV)(u:Value):Prop:=
 match p with
 |.pbox ps=>∃b o,bt 0=some (b,o)∧u=.pointer (some ⟨b,o,none⟩)∧(∀p∈ps,isA p)∧Aum w A bt 1 b o ps
 |.tup ps=>∃es n c,ps=[.own es n c]∧Jm w A (bt 0) (.own es n c) u
 |.agg cs=>∃vs,u=.agg ⟨vs⟩∧(∀p∈cs,isA p)∧Hf w A bt 1 cs vs
 |p=>isA p∧Jm w A (bt 1) p u
def Ph (w:World)(A:Nat->Prop)(bt:MG):Nat->List PV->List Value->Prop
 |_,[],[]=>True
 |i,p::ps,u::us=>Ab7 w A (bt i) p u∧Ph w A bt (i+1) ps us
 |_,_,_=>False
def A1w (bt:Bt)(p:PV)(b j:Nat):Prop:=
 (∃k o,bt (k+1)=some (b,o)∧o<=j)∨∃o ps,bt 0=some (b,o)∧o<=j∧((p=.pbox ps∧j<o+ps.length)∨p=.tup ps)
def XE (bt:MG)(args:List PV)(b j:Nat):Prop:=∃i p,args[i]?=some p∧A1w (bt i) p b j
def CC (w:World)(A:Nat->Prop)(own:Bt)(bt:MG):Nat->Nat->List PV->List (List PV)->Prop
 |_,_,[],r=>r=[]
 |j,i,p::zs,r=>
  match p with
  |.pbox ps=>
   match r with
   |[]=>False
   |cs::r=>(∃b o,bt i 0=some (b,o)∧cs.length=ps.length∧Aum w A own j b o cs)∧CC w A own bt (j+cs.length) (i+1) zs r
  |.tup _=>
   match r with
   |[]=>False
   |cs::r=>((bt i 0=none∧cs=[])∨∃b o,bt i 0=some (b,o)∧VH w A ⟨b,o,none⟩ cs∧∀k,o<=k->k<bsz w b->w.frozen? ⟨b,k,none⟩=false)∧CC w A own bt j (i+1) zs r
  |_=>CC w A own bt j (i+1) zs r
def SU (bt:MG)(own:Bt)(Y:Nat->Prop)(b:Nat):Prop:=(∃j o,own j=some (b,o))∨(∃i o,bt i 0=some (b,o))∨Y b
def Sc (vals:List PV):Nat:=(vals.map plc).sum
structure Out (w w':World) (Y:Nat->Prop) (bt:MG) (args:List PV) (own:Bt) (r:A5) (vs:List Value):Prop where
 os:w'.os=w.os
 tape:w'.tape=w.tape
 output:w'.output=w.output
 ext:Cq (BtX bt) w w'
 rng:∀b j,b<w.heap.size->¬XE bt args b j->w'.cell? ⟨b,j,none⟩=w.cell? ⟨b,j,none⟩∧w'.frozen? ⟨b,j,none⟩=w.frozen? ⟨b,j,none⟩
 vals:Aj0 w' (SU bt own Y) own w.heap.size 0 r.vals vs
 outs:CC w' (SU bt own Y) own bt (Sc r.vals) 0 args r.outs
 fresh:∀j b o,own j=some (b,o)->b<w'.heap.size∧(b<w.heap.size->(∃i k o',bt i (k+1)=some (b,o'))∧∀x,o<=x->XE bt args b x)
 inj:∀j j' b o o',own j=some (b,o)->own j'=some (b,o')->j=j'
def Ly (us:List Value):Value:=match us with|[u]=>u|us=>.tuple ⟨us⟩
def Vc (w:World)(Y:Nat->Prop)(p:PV)(u:Value):Prop:=
 match p with
 |.agg cs=>∃vs,u=.agg ⟨vs⟩∧Bw (fun c v=>BL c∧A4 w Y c v) cs vs
 |p=>BL p∧A4 w Y p u
structure Ins (w:World) (Y:Nat->Prop) (bt:MG) (args:List PV) (us:List Value):Prop where
 Ylt:∀b,Y b->b<w.heap.size
 Yx:∀b,Y b->¬BtX bt b
 lt:∀b,BtX bt b->b<w.heap.size
 inj:∀i j i' j' b o o',bt i j=some (b,o)->bt i' j'=some (b,o')->i=i'∧j=j'
 l0:∀i q,bt i 0=some q->∃p,args[i]?=some p∧FY p=true
 args:Ph w (fun b=>BtX bt b∨Y b) bt 0 args us
structure U7 where
 bl:Nat->Prop
 ok:World->Prop
 stable:∀w w':World,(∀b,bl b->b<w.heap.size->w'.heap[b]?=w.heap[b]?)->ok w->ok w'
def Da (G:U7)(P:Program)(f:FuncId)(args:List PV)(r:A5):Prop:=
 (∃fn,P.funcs[f]?=some fn∧fn.body.isSome=true)∧∀(w:World)(Y:Nat->Prop)(bt:MG)(us:List Value),Ins w Y bt args us->G.ok w->(∀b,G.bl b->b<w.heap.size∧¬BtX bt b) ->
  Calls P f us.toArray w fun e w'=>∃vs own,e=.returned (Ly vs)∧Out w w' Y bt args own r vs
def Y4:MG:=fun _ _=>none
theorem Qd (b:Nat):¬BtX Y4 b:=by rintro⟨_,_,_,h⟩;cases h
theorem Of {w:World}{A:Nat->Prop}{q:Option (Nat × Nat)} {p:PV}{u:Value}(hp:BL p)(h:A4 w A p u):Jm w A q p u:=by
 cases p<;>first|exact h|exact hp.elim
theorem KM {w:World}{A:Nat->Prop}{own:Bt}:∀{cs:List PV}{vs:List Value}{j:Nat},Bw (fun c v=>BL c∧A4 w A c v) cs vs->Hf w A own j cs vs
 |[],[],_,_=>trivial
 |_::_,_::_,_,h=>⟨Of h.1.1 h.1.2,KM h.2⟩
 |[],_::_,_,h=>h.elim
 |_::_,[],_,h=>h.elim
theorem Akl {w:World}{A:Nat->Prop}{bt:Bt}{p:PV}{u:Value}(h:Vc w A p u):Ab7 w A bt p u:=by
 cases p with
 |agg cs=>
  obtain⟨vs,h1,h2⟩:=h;refine⟨vs,h1,fun p hp=>.inl ?_,KM h2⟩
  obtain⟨j,hj⟩:=List.mem_iff_getElem?.1 hp;obtain⟨v,_,hv⟩:=h2.get hj;exact hv.1
 |sc v=>exact⟨.inl trivial,h.2⟩
 |lst z es n c=>exact⟨.inl trivial,h.2⟩
 |_=>exact h.1.elim
theorem ED {w:World}{A:Nat->Prop}{bt:MG}:∀{ps:List PV}{us:List Value}{i:Nat},Bw (Vc w A) ps us->Ph w A bt i ps us
 |[],[],_,_=>trivial
 |_::_,_::_,_,h=>⟨Akl h.1,ED h.2⟩
 |[],_::_,_,h=>h.elim
 |_::_,[],_,h=>h.elim
theorem XP {w:World}{A A':Nat->Prop}(hA:∀b,b<w.heap.size->A' b->A b){p:PV}{v:Value}(h:Vc w A p v):Vc w A' p v:=by
 cases p with
 |agg cs=>
  obtain⟨vs,rfl,h2⟩:=h;exact⟨vs,rfl,h2.mono fun c v hc=>⟨hc.1,hc.2.step (Cq.refl _ _) hA⟩⟩
 |sc v=>exact⟨h.1,h.2.step (Cq.refl _ _) hA⟩
 |lst z es n c=>exact⟨h.1,h.2.step (Cq.refl _ _) hA⟩
 |_=>exact h.1.elim
theorem Adc {w:World}{Y:Nat->Prop}{args:List PV}{us:List Value}(hY:∀b,Y b->b<w.heap.size)(h:Bw (Vc w Y) args us):Ins w Y Y4 args us:=
 ⟨hY,fun b _=>Qd b,fun b h=>absurd h (Qd b),(fun _ _ _ _ _ _ _ h=>by cases h),(fun _ _ h=>by cases h),ED (h.mono fun _ _ hx=>XP (fun b _ hb=>hb.elim (fun q=>absurd q (Qd b)) id) hx)⟩
def NoNG (P:Program):Prop:=∀(f:FuncId) (fn:Func),P.funcs[f]?=some fn->(fn.name == "runtime.NumGoroutine")=false
structure LO (P:Program) (G:U7) (w0:World) (X0:Fz):Prop where
 ng:NoNG P
 fr:∀w,Fr X0 w0 w->G.ok w
 y:∀b,G.bl b->b<w0.heap.size∧¬X0.X b
section
variable {R:Type} {r:R} {P:Program} {N:Nat} {w0:World} {X0:Fz} {Y:Nat->Prop} {β β':Bt} {s:St} {a:Act} {w w':World} {o:Oper} {A:Nat->Prop}
def RY (P:Program)(a:Act)(w:World)(o:Oper)(Y:Nat->Prop)(β:Bt)(s:St)(v:PV)(fz:List Nat)(nw:List (Nat × Bx)):Prop:=
 (∀id∈fz,∃f c,s.hp id=some (.ar f c))∧∀(next:Act->World->Prop)(Q:Exit->Act->World->Prop),
  (∀val w',(Ck s.hp nw=true->∃β',WR Y β ⟨s.tm,Ag s.hp fz⟩ w v nw val w' β')->next (a.put o.dst val) w')->o.wp P a w next Q
theorem TC {v:PV}{fz:List Nat}{nw:List (Nat × Bx)} (h:F8 P a w o Y β s v fz nw):RY P a w o Y β s v fz nw:=by
 obtain⟨h1,val,w',hr,hs⟩:=h;refine⟨h1,fun next Q hn=>?_⟩
 unfold Oper.wp;rw[hr];exact hn val w' hs
theorem Aoi (h:B3 N w0 X0 Y β s a w){t:TypeId}{x:PV}{u:Value}(hx:Ed w (De s.hp β Y) β x u) {K:PV->List Nat->Option R}(hk:Ahn P (Ny s.hp) t x K=some r):
  ∃p m,K p m=some r∧(∀id∈m,∃f cc,s.hp id=some (.ar f cc))∧(cellsOf p).length=(K5 P t).length∧∀fz:List Nat,(∀id∈m,id∈fz)->(∀id∈fz,∃f cc,s.hp id=some (.ar f cc))->Vc w (De (Ag s.hp fz) β Y) p u:=by
 unfold Ahn at hk;cases H8:Cx P t
 ·rw[H8] at hk;obtain⟨cs,m,hk,hl,Ou,hT,hF,hm,hv⟩:=Vf h (show R2 _ _ _ _=some r from hk)
  obtain⟨c,t',rfl,hk⟩:=Bl hk;obtain⟨rfl,hk⟩:=Ef hk;have hcT:=hT c (by simp)
  refine⟨c,m,hk,hm,?_,fun fz h1 h2=>?_⟩
  ·have:cellsOf c=[c]:=by cases c<;>first|rfl|exact hcT.elim
   rw[this];exact hl
  have hF':=hF _ (List.mem_singleton_self _)
  have hc:Cj w (De s.hp β Y) β x u:=by
   cases x<;>first|exact hx|exact hF'.elim
  have h3:=(hv fz h1 h2 [u] ⟨hc,trivial⟩).1.1;cases c<;>first|exact⟨trivial,h3⟩|exact hcT.elim
 ·rw[H8] at hk;obtain⟨ps,hp,hk⟩:=Kb (show Ft _ _=some r from hk)
  rw[hp] at hx;obtain⟨cs,m,hk,hl,Ou,hT,hF,hm,hv⟩:=Vf h hk;obtain⟨vs,D6,h2⟩:=hx;refine⟨.agg cs,m,hk,hm,hl,fun fz h1 h3=>⟨vs,D6,?_⟩⟩
  exact (hv fz h1 h3 vs h2).1.mono_mem fun c hc v ML=>⟨hT c hc,ML⟩
theorem Aoe (h:B3 N w0 X0 Y β s a w){t:TypeId}{x:Operand}{K:PV->List Nat->Option R}(hk:Ahn P (Ny s.hp) t (Cw s.tm x) K=some r):
  ∃p m,K p m=some r∧(∀id∈m,∃f cc,s.hp id=some (.ar f cc))∧∀fz:List Nat,(∀id∈m,id∈fz)->(∀id∈fz,∃f cc,s.hp id=some (.ar f cc))->Vc w (De (Ag s.hp fz) β Y) p (a.eval x):=by
 obtain⟨p,m,h1,h2,_,h3⟩:=Aoi h (Dy h x) hk;exact⟨p,m,h1,h2,h3⟩
theorem XF (h:B3 N w0 X0 Y β s a w):∀{ts:List TypeId}{xs:List Operand}{K:List PV->List Nat->Option R},SY P (Ny s.hp) ts (xs.map (Cw s.tm)) K=some r ->
  ∃ps m,K ps m=some r∧(∀id∈m,∃f cc,s.hp id=some (.ar f cc))∧∀fz:List Nat,(∀id∈m,id∈fz)->(∀id∈fz,∃f cc,s.hp id=some (.ar f cc))->Bw (Vc w (De (Ag s.hp fz) β Y)) ps (xs.map a.eval)
 |[],[],K,hk=>⟨[],[],hk,by simp,fun _ _ _=>trivial⟩
 |[],_::_,K,hk=>by cases hk
 |_::_,[],K,hk=>by cases hk
 |t::ts,x::xs,K,hk=>by
  simp only[List.map_cons] at hk;unfold SY at hk;obtain⟨p,m,hk,hm,hv⟩:=Aoe h hk;obtain⟨ps,ms,hk,OY,Ui⟩:=XF h hk;refine⟨p::ps,m++ms,hk,?_,fun fz h1 h2=>⟨hv fz (fun i hi=>h1 i (by simp[hi])) h2,Ui fz (fun i hi=>h1 i (by simp[hi])) h2⟩⟩
  intro i hi;rcases List.mem_append.1 hi with hi|hi
  ·exact hm i hi
  ·exact OY i hi
theorem Vc.weaken {A':Nat->Prop}(hA:∀b,b<w.heap.size->A' b->A b){p:PV}{v:Value}(h:Vc w A p v):Vc w A' p v:=by
 have one:BL p->BL p∧A4 w A p v->Vc w A' p v:=by
  intro hp h;cases p<;>first|exact⟨h.1,h.2.step (Cq.refl _ _) hA⟩|exact hp.elim
 cases p with
 |agg cs=>
  obtain⟨vs,rfl,h2⟩:=h;exact⟨vs,rfl,h2.mono fun c v hc=>⟨hc.1,hc.2.step (Cq.refl _ _) hA⟩⟩
 |_=>exact one h.1 h
theorem As4 {t:CT}{p:PV}{K:PV->Option R}(h:JL t p K=some r):
  ∃c,K c=some r∧BL c∧BL p∧(∀(w:World) (A:Nat->Prop) (β:Nat->Option (Nat × Nat)) (v:Value),Cj w A β p v->A4 w A c v∧v.oneCell'=true)∧((∀es,t ≠ .sl es)->∃v,c=.sc v):=by
 obtain⟨c,hk,hT,QV,hv⟩:=Q0 h;cases t with
 |sl es=>exact⟨c,hk,hT,QV,hv,fun Gg=>absurd rfl (Gg es)⟩
 |int k=>obtain⟨n,rfl,h2⟩:=Ga h;exact⟨_,h2,trivial,trivial,fun w A β v hv=>⟨hv,by have:=A4.val (w:=w) (A:=A) hv;subst this;rfl⟩,fun _=>⟨_,rfl⟩⟩
 |bool=>obtain⟨n,rfl,h2⟩:=Ep h;exact⟨_,h2,trivial,trivial,fun w A β v hv=>⟨hv,by have:=A4.val (w:=w) (A:=A) hv;subst this;rfl⟩,fun _=>⟨_,rfl⟩⟩
 |str=>obtain⟨n,rfl,h2⟩:=Er h;exact⟨_,h2,trivial,trivial,fun w A β v hv=>⟨hv,by have:=A4.val (w:=w) (A:=A) hv;subst this;rfl⟩,fun _=>⟨_,rfl⟩⟩
 |any=>
  obtain⟨f,a,b,rfl,h2⟩:=Aai (show fnK p (fun v=>K (.sc v))=some r from h)
  exact⟨_,h2,trivial,trivial,fun w A β v hv=>⟨hv,by have:=A4.val (w:=w) (A:=A) hv;subst this;rfl⟩,fun _=>⟨_,rfl⟩⟩
theorem Z6 (shr:Bool)(N:Nat):∀{ts:List CT}{ps:List PV}{id:Nat}{K:List PV->List (Nat × Bx)->Option R},V0 shr N id ts ps K=some r ->
  ∃cs bs,K cs bs=some r∧ps.length=ts.length∧(∀p∈ps,∀x,p ≠ .agg x∧p ≠ .pbox x)∧(∀c∈cs,UO c)∧((∀es,CT.sl es ∉ ts)->bs=[]∧∀c∈cs,∃v,c=.sc v) ∧
   (∀i bx,(i,bx)∈bs->∃j es n c,ps[j]?=some (.own es n c)∧i=id+N*j∧bx=.ar false c) ∧
   (∀c∈cs,∀i∈Az c,∃bx,(i,bx)∈bs) ∧
   ∀(w:World) (A:Nat->Prop) (own β':Bt) (j0:Nat) (us:List Value),(∀j,(∃bx,(id+N*j,bx)∈bs)->β' (id+N*j)=own (j0+j))->Hf w A own j0 ps us->Bw (Cj w A β') cs us
 |[],ps,id,K,hk=>by
  obtain⟨rfl,hk⟩:=Ef hk;refine⟨[],[],hk,rfl,by simp,by simp,by simp,by simp,by simp,fun w A own β' j0 us _ h=>?_⟩
  cases us with
  |nil=>trivial
  |cons u us=>exact h.elim
 |t::ts,ps,id,K,hk=>by
  unfold V0 at hk;obtain⟨p,ps',LH,Eb⟩:=Bl hk;subst LH;clear hk
  have main:∃c b,(V0 shr N (id+N) ts ps' fun cs bs=>K (c::cs) (b++bs))=some r∧(∀x,p ≠ .agg x∧p ≠ .pbox x)∧UO c∧((∀es,t≠CT.sl es)->b=[]∧∃v,c=.sc v)∧(∀i bx,(i,bx)∈b->∃es n cc,p=.own es n cc∧i=id∧bx=.ar false cc)∧(∀i∈Az c,∃bx,(i,bx)∈b) ∧
    ∀(w:World) (A:Nat->Prop) (own:Option (Nat × Nat)) (β':Bt) (u:Value),((∃bx,(id,bx)∈b)->β' id=own)->Jm w A own p u->Cj w A β' c u:=by
   have tree:∀t',t'=t->(JL t' p fun c=>V0 shr N (id+N) ts ps' fun cs bs=>K (c::cs) ([]++bs))=some r->∃c b,(V0 shr N (id+N) ts ps' fun cs bs=>K (c::cs) (b++bs))=some r∧(∀x,p ≠ .agg x∧p ≠ .pbox x)∧UO c∧((∀es,t≠CT.sl es)->b=[]∧∃v,c=.sc v)∧(∀i bx,(i,bx)∈b->∃es n cc,p=.own es n cc∧i=id∧bx=.ar false cc)∧(∀i∈Az c,∃bx,(i,bx)∈b) ∧
     ∀(w:World) (A:Nat->Prop) (own:Option (Nat × Nat)) (β':Bt) (u:Value),((∃bx,(id,bx)∈b)->β' id=own)->Jm w A own p u->Cj w A β' c u:=by
    intro t' ht' hk;have hsc:=As4 hk;obtain⟨c,hk,hT,QV,hv,hsc⟩:=hsc;refine⟨c,[],hk,fun x=>⟨HG QV x,by rintro rfl;exact QV⟩,V7 hT,fun Gg=>⟨rfl,hsc (fun es e=>Gg es (ht'.symm.trans e))⟩,by simp,by rw[Kt hT];simp,fun w A own β' u _ hc=>?_⟩
    have W9:Cj w A β' p u:=by cases p<;>first|exact hc|exact QV.elim
    exact (Pu hT).2 (hv w A β' u W9).1
   unfold Ar7 at Eb;cases t with
   |sl es=>
    dsimp only at Eb;cases shr
    ·unfold Gw at Eb;simp only[cond_false] at Eb;split at Eb
     ·rename_i es' n c;cases hb:Nat.beq es' es
      ·rw[hb] at Eb;cases Eb
      ·rw[hb] at Eb;have:=Nat.eq_of_beq_eq_true hb;subst this;refine⟨_,_,Eb,by simp,trivial,fun Gg=>absurd rfl (Gg _),?_,?_,fun w A own β' u hβ hc=>?_⟩
       ·intro i bx hm;simp at hm;exact⟨_,_,_,rfl,hm.1,hm.2⟩
       ·intro i hi;simp[Az] at hi;subst hi;exact⟨.ar false c,by simp⟩
       ·have hβ':=hβ ⟨.ar false c,by simp⟩
        clear hβ;rcases hc with⟨h1,rfl,rfl,h4⟩|⟨b,ob,cap,h1,h2,h3,h4,h5,_⟩
        ·exact .inl ⟨hβ'.trans h1,rfl,rfl,h4⟩
        ·exact .inr ⟨b,ob,ob,cap,hβ'.trans h1,h2,.inl rfl,h3,h4,h5⟩
     ·cases Eb
    ·obtain⟨c,hk,hT,QV,hv,_⟩:=As4 (t:=.sl es) (p:=p) (K:=fun c=>V0 true N (id+N) ts ps' fun cs bs=>K (Abg c::cs) ([]++bs)) Eb
     have hU:BL (Abg c):=by cases c<;>exact hT
     refine⟨Abg c,[],hk,fun x=>⟨HG QV x,by rintro rfl;exact QV⟩,V7 hU,fun Gg=>absurd rfl (Gg _),by simp,by rw[Kt hU];simp,fun w A own β' u _ hc=>?_⟩
     have W9:Cj w A β' p u:=by cases p<;>first|exact hc|exact QV.elim
     refine (Pu hU).2 ?_;have:=(hv w A β' u W9).1;cases c with
     |lst z es n c=>exact A4.unz this
     |_=>exact this
   |int k=>exact tree (.int k) rfl Eb
   |bool=>exact tree .bool rfl Eb
   |str=>exact tree .str rfl Eb
   |any=>exact tree .any rfl Eb
  obtain⟨c,b,hk,hpa,hF,OO,Ib,Ot,ML⟩:=main;obtain⟨cs,bs,hk,hl,A7u,hFs,A0f,A8z,A93,A73⟩:=Z6 shr N hk;refine⟨c::cs,b++bs,hk,by simp[hl],?_,?_,?_,?_,?_,fun w A own β' j0 us hβ hoc=>?_⟩
  ·intro x hx;rcases List.mem_cons.1 hx with rfl|hx
   ·exact hpa
   ·exact A7u x hx
  ·intro x hx;rcases List.mem_cons.1 hx with rfl|hx
   ·exact hF
   ·exact hFs x hx
  ·intro Gg;obtain⟨h1,v,h2⟩:=OO (fun es e=>Gg es (by rw[e];simp))
   obtain⟨h3,h4⟩:=A0f (fun es hm=>Gg es (by simp[hm]))
   refine⟨by rw[h1,h3];rfl,fun x hx=>?_⟩
   rcases List.mem_cons.1 hx with rfl|hx
   ·exact⟨v,h2⟩
   ·exact h4 x hx
  ·intro i bx hm;rcases List.mem_append.1 hm with hm|hm
   ·obtain⟨es,n,cc,rfl,rfl,rfl⟩:=Ib i bx hm;exact⟨0,es,n,cc,rfl,by simp,rfl⟩
   ·obtain⟨j,es,n,cc,h1,rfl,h3⟩:=A8z i bx hm;exact⟨j+1,es,n,cc,by simpa using h1,by rw[Nat.mul_add];omega,h3⟩
  ·intro x hx i hi;rcases List.mem_cons.1 hx with rfl|hx
   ·obtain⟨bx,hm⟩:=Ot i hi;exact⟨bx,by simp[hm]⟩
   ·obtain⟨bx,hm⟩:=A93 x hx i hi;exact⟨bx,by simp[hm]⟩
  ·cases us with
   |nil=>exact hoc.elim
   |cons u us=>
    refine⟨ML w A (own j0) β' u (fun ⟨bx,hm⟩=>by have:=hβ 0 ⟨bx,by simp[hm]⟩;simpa using this) hoc.1,?_⟩
    refine A73 w A own β' (j0+1) us (fun j ⟨bx,hm⟩=>?_) hoc.2
    have e:id+N+N*j=id+N*(j+1):=by rw[Nat.mul_add];omega
    have:=hβ (j+1) ⟨bx,by rw[←e];simp[hm]⟩
    rw[e,this]
    congr 1
    omega
end
open Go.RowKit
section
variable {R:Type} {r:R} {P:Program} {N:Nat} {w0:World} {X0:Fz} {Y:Nat->Prop} {β β':Bt} {s:St} {a:Act} {w w':World} {o:Oper} {A:Nat->Prop}
theorem Hf.len:∀{j:Nat}{own:Bt}{ps:List PV}{us:List Value},Hf w A own j ps us->ps.length=us.length
 |_,_,[],[],_=>rfl
 |_,_,_::_,_::_,h=>by simp[Hf.len h.2]
 |_,_,[],_::_,h=>h.elim
 |_,_,_::_,[],h=>h.elim
theorem Hf.at_:∀{j:Nat}{own:Bt}{ps:List PV}{us:List Value},Hf w A own j ps us->∀{i:Nat} {p},ps[i]?=some p->∃u,us[i]?=some u∧Jm w A (own (j+i)) p u
 |_,_,[],[],_,i,p,h=>by simp at h
 |j,own,_::_,u::_,h,0,p,hp=>by simp at hp;subst hp;exact⟨u,rfl,h.1⟩
 |j,own,_::_,_::_,h,i+1,p,hp=>by
  simp at hp;obtain⟨u,hu,hc⟩:=Hf.at_ h.2 hp;exact⟨u,by simpa using hu,by rw[show j+(i+1)=j+1+i from by omega];exact hc⟩
 |_,_,[],_::_,h,_,_,_=>h.elim
 |_,_,_::_,[],h,_,_,_=>h.elim
def Apo (N id:Nat)(β':Bt)(w:World)(A:Nat->Prop)(z n:Nat)(bs:List (Nat × Bx)):Prop:=
 ∀i bx,(i,bx)∈bs->(∃j,i=id+N*j∧j<n)∧Cv (some bx)∧U5 w A β' i bx∧∀cs,bx=.st cs->∀b o,β' i=some (b,o)->z<=b
def IP (bs:List (Nat × Bx)):Prop:=∀i cells,(i,.st cells)∈bs->∀c∈cells,∀i'∈Az c,∃bx,(i',bx)∈bs
theorem GA {q:Option (Nat × Nat)} {es n i:Nat}{c:List PV}{u:Value}(h:Jm w A q (.own es n c) u) (hβ:β' i=q):U5 w A β' i (.ar false c):=by
 rcases h with⟨h1,_,h2,_⟩|⟨b,o,cap,h1,_,_,_,_,h6,h7⟩
 ·exact .inl ⟨hβ.trans h1,h2⟩
 ·exact .inr ⟨b,o,hβ.trans h1,h6,fun _=>h7,(fun x=>by cases x)⟩
theorem JH {t:TypeId}(h:M7 P [t]=false):FN P t=none∧∀es,CT.sl es ∉ K5 P t:=by
 simp only[M7,List.any_cons,List.any_nil,Bool.or_false,Bool.or_eq_false_iff] at h;refine⟨by simpa using h.1,fun es hm=>?_⟩
 have:=List.any_eq_false.1 h.2 _ hm;simp at this
theorem Asd (shr:Bool)(N:Nat){t:TypeId}{p:PV}{id:Nat}{K:PV->List (Nat × Bx)->Option R} (hk:Amh P shr N id t p K=some r):
  ∃v bs,K v bs=some r∧plc p=Aco P t∧(∀x,v ≠ .tup x)∧(M7 P [t]=false->bs=[]∧∀c∈cellsOf v,∃u,c=.sc u)∧(∀i∈Cl v,∃bx,(i,bx)∈bs)∧IP bs ∧
   ∀(w:World) (A:Nat->Prop) (own β':Bt) (z j0:Nat) (u:Value),(∀j,(∃bx,(id+N*j,bx)∈bs)->β' (id+N*j)=own (j0+j))->Awn w A own z j0 p u->Ia w A β' v u∧Apo N id β' w A z (plc p) bs:=by
 have boxes:∀{bs:List (Nat × Bx)} {ps:List PV} {id:Nat},(∀i bx,(i,bx)∈bs->∃j es n c,ps[j]?=some (.own es n c)∧i=id+N*j∧bx=.ar false c) ->
   IP bs∧∀(w:World) (A:Nat->Prop) (own β':Bt) (j0:Nat) (us:List Value),(∀j,(∃bx,(id+N*j,bx)∈bs)->β' (id+N*j)=own (j0+j))->Hf w A own j0 ps us->∀z,Apo N id β' w A z ps.length bs:=by
  intro bs ps id Ib;refine⟨fun i cells hm=>?_,fun w A own β' j0 us hβ ho z i bx hm=>?_⟩
  ·obtain⟨_,_,_,_,_,_,h3⟩:=Ib i _ hm;cases h3
  ·obtain⟨j,es,n,cc,h1,h2,h3⟩:=Ib i bx hm;obtain⟨u,hu,hoc⟩:=ho.at_ h1;subst h3;refine⟨⟨j,h2,?_⟩,trivial,GA hoc ?_,fun _ e=>by cases e⟩
   ·rcases Nat.lt_or_ge j ps.length with h|h
    ·exact h
    ·rw[List.getElem?_eq_none h] at h1;cases h1
   ·rw[h2];exact hβ j ⟨_,h2 ▸ hm⟩
 unfold Amh at hk;split at hk
 ·rename_i e he;obtain⟨ps,rfl,hk⟩:=YG hk;obtain⟨cs,bs,hk,hl,Atq,hF,OO,Ib,Ot,ML⟩:=Z6 shr N hk;obtain⟨hri,Nv⟩:=boxes Ib;refine⟨.ptr id 0,_,hk,by simp only[plc,Aco,he,hl],by simp,fun h=>?_,fun i hi=>?_,fun i cells hm c hc i' hi'=>?_,fun w A own β' z j0 u hβ ho=>?_⟩
  ·have:=(JH h).1;rw[he] at this;cases this
  ·simp only[Cl,Az,List.mem_singleton] at hi;subst hi;exact⟨_,List.mem_cons_self⟩
  ·rcases List.mem_cons.1 hm with e|hm
   ·cases e;obtain⟨bx,hb⟩:=Ot c hc i' hi';exact⟨bx,List.mem_cons_of_mem _ hb⟩
   ·obtain⟨bx,hb⟩:=hri i cells hm c hc i' hi';exact⟨bx,List.mem_cons_of_mem _ hb⟩
  ·obtain⟨b,o,h1,hz,rfl,vs,h3,h4,h5⟩:=ho;have h0:=hβ 0 ⟨_,by rw[Nat.mul_zero,Nat.add_zero];exact List.mem_cons_self⟩
   rw[Nat.mul_zero,Nat.add_zero,Nat.add_zero,h1] at h0;have Br:∀j,id+N+N*j=id+N*(j+1):=fun j=>by rw[Nat.mul_add];omega
   have hβ1:∀j,(∃bx,(id+N+N*j,bx)∈bs)->β' (id+N+N*j)=own (j0+1+j):=fun j ⟨bx,hm⟩=>by
    rw[Br,hβ (j+1) ⟨bx,by rw[←Br];exact List.mem_cons_of_mem _ hm⟩]
    congr 1;omega
   have hc2:=ML w A own β' (j0+1) vs hβ1 h3;have hb3:=Nv w A own β' (j0+1) vs hβ1 h3 z;have Ha:cs.length=ps.length:=by rw[hc2.len,←h3.len]
   refine⟨⟨b,o,h0,by simp⟩,fun i bx hm=>?_⟩
   rcases List.mem_cons.1 hm with e|hm
   ·cases e;refine⟨⟨0,by simp,by simp only[plc];omega⟩,trivial,⟨b,o,h0,fun k c hk=>?_,fun k hk=>h5 k (by omega)⟩,fun _ _ b' o' I7=>?_⟩
    ·obtain⟨v,hv,hcr⟩:=hc2.get hk;exact⟨v,h4 k v hv,hcr⟩
    ·rw[h0] at I7;cases I7;exact hz
   ·obtain⟨⟨j,hj,hjn⟩,h6,h7⟩:=hb3 i bx hm;exact⟨⟨j+1,by rw[hj,Br],by simp only[plc];omega⟩,h6,h7⟩
 ·rename_i hnp;have MZ:Aco P t=(K5 P t).length:=by simp only[Aco,hnp]
  cases H8:Cx P t
  ·rw[H8] at hk;obtain⟨cs,bs,hk,hl,Atq,hF,OO,Ib,Ot,ML⟩:=Z6 shr N (show V0 _ _ _ _ _ _=some r from hk)
   obtain⟨c,t',rfl,hk⟩:=Bl hk;obtain⟨rfl,hk⟩:=Ef hk;have hFc:=hF c (by simp)
   have A3w:∀x,p ≠ .pbox x:=fun x=>(Atq p (by simp) x).2
   have Az2:∀x,c ≠ .agg x:=by rintro x rfl;exact hFc
   have Bac:∀x,c ≠ .tup x:=by rintro x rfl;exact hFc
   have hr1:Cl c=Az c:=by cases c<;>first|rfl|exact absurd rfl (Az2 _)
   have hpa:∀x,p ≠ .agg x:=fun x=>(Atq p (by simp) x).1
   obtain⟨hri,Nv⟩:=boxes Ib;have hcell:cellsOf p=[p]:=by cases p<;>first|rfl|exact absurd rfl (hpa _)
   have A38:plc p=1:=by cases p<;>first|rfl|exact absurd rfl (hpa _)|exact absurd rfl (A3w _)
   have hcc:cellsOf c=[c]:=by cases c<;>first|rfl|exact absurd rfl (Az2 _)
   refine⟨c,bs,hk,by rw[A38,MZ];exact hl,Bac,fun Gg=>by rw[hcc];exact OO (JH Gg).2,fun i hi=>Ot c (by simp) i (by rw[←hr1];exact hi),hri,fun w A own β' z j0 u hβ ho=>?_⟩
   have ho':Jm w A (own j0) p u:=by cases p<;>first|exact ho|exact absurd rfl (hpa _)|exact absurd rfl (A3w _)
   exact⟨(V6 Az2).2 (ML w A own β' j0 [u] hβ ⟨ho',trivial⟩).1,by rw[A38];exact Nv w A own β' j0 [u] hβ ⟨ho',trivial⟩ z⟩
  ·rw[H8] at hk;obtain⟨ps,rfl,hk⟩:=Kb (show Ft _ _=some r from hk)
   obtain⟨cs,bs,hk,hl,Atq,hF,OO,Ib,Ot,ML⟩:=Z6 shr N hk;obtain⟨hri,Nv⟩:=boxes Ib;refine⟨.agg cs,bs,hk,by rw[MZ];exact hl,by simp,fun Gg=>OO (JH Gg).2,fun i hi=>?_,hri,fun w A own β' z j0 u hβ ho=>?_⟩
   ·obtain⟨c,hc,hi⟩:=List.mem_flatMap.1 (show i∈cs.flatMap Az from hi)
    exact Ot c hc i hi
   ·obtain⟨vs,rfl,ho⟩:=ho;exact⟨⟨vs,rfl,ML w A own β' j0 vs hβ ho⟩,Nv w A own β' j0 vs hβ ho z⟩
theorem IF (shr:Bool)(N:Nat):∀{ts:List TypeId}{ps:List PV}{id:Nat}{K:List PV->List (Nat × Bx)->Option R},MH P shr N id ts ps K=some r ->
  ∃vs bs,K vs bs=some r∧vs.length=ps.length∧(∀v∈vs,∀x,v ≠ .tup x)∧(M7 P ts=false->bs=[]∧∀v∈vs,∀c∈cellsOf v,∃u,c=.sc u)∧(∀v∈vs,∀i∈Cl v,∃bx,(i,bx)∈bs)∧IP bs ∧
   ∀(w:World) (A:Nat->Prop) (own β':Bt) (z j0:Nat) (us:List Value),(∀j,(∃bx,(id+N*j,bx)∈bs)->β' (id+N*j)=own (j0+j))->Aj0 w A own z j0 ps us->Bw (Ia w A β') vs us∧Apo N id β' w A z (Sc ps) bs
 |[],ps,id,K,hk=>by
  obtain⟨rfl,hk⟩:=Ef hk;refine⟨[],[],hk,rfl,by simp,by simp,by simp,(by intro i cells hm;cases hm),fun w A own β' z j0 us _ h=>?_⟩
  cases us with
  |nil=>exact⟨trivial,by intro i bx hm;cases hm⟩
  |cons u us=>exact h.elim
 |t::ts,ps,id,K,hk=>by
  unfold MH at hk;obtain⟨p,ps',LH,Eb⟩:=Bl hk;subst LH;clear hk;obtain⟨v,bs,hk,hl,hnt,OO,hr1,hri,hv⟩:=Asd shr N Eb;obtain⟨vs,bs',hk,hvl,A9c,A0f,hrs,A8w,Ui⟩:=IF shr N hk;refine⟨v::vs,bs++bs',hk,by simp[hvl],?_,?_,?_,?_,fun w A own β' z j0 us hβ ho=>?_⟩
  ·intro x hx;rcases List.mem_cons.1 hx with rfl|hx
   ·exact hnt
   ·exact A9c x hx
  ·intro Gg;simp only[M7,List.any_cons,Bool.or_eq_false_iff] at Gg;obtain⟨h1,h2⟩:=OO (by simp only[M7,List.any_cons,List.any_nil,Bool.or_false,Bool.or_eq_false_iff];exact Gg.1)
   obtain⟨h3,h4⟩:=A0f (by simp only[M7];exact Gg.2)
   refine⟨by rw[h1,h3];rfl,fun x hx=>?_⟩
   rcases List.mem_cons.1 hx with rfl|hx
   ·exact h2
   ·exact h4 x hx
  ·intro x hx i hi;rcases List.mem_cons.1 hx with rfl|hx
   ·obtain⟨bx,hm⟩:=hr1 i hi;exact⟨bx,by simp[hm]⟩
   ·obtain⟨bx,hm⟩:=hrs x hx i hi;exact⟨bx,by simp[hm]⟩
  ·intro i cells hm c hc i' hi';rcases List.mem_append.1 hm with hm|hm
   ·obtain⟨bx,hb⟩:=hri i cells hm c hc i' hi';exact⟨bx,by simp[hb]⟩
   ·obtain⟨bx,hb⟩:=A8w i cells hm c hc i' hi';exact⟨bx,by simp[hb]⟩
  ·cases us with
   |nil=>exact ho.elim
   |cons u us=>
    obtain⟨h1,Ib⟩:=hv w A own β' z j0 u (fun j ⟨bx,hm⟩=>hβ j ⟨bx,by simp[hm]⟩) ho.1
    have Br:∀j,id+N*Aco P t+N*j=id+N*(Aco P t+j):=fun j=>by rw[Nat.mul_add];omega
    obtain⟨h2,Ot⟩:=Ui w A own β' z (j0+plc p) us (fun j ⟨bx,hm⟩=>by rw[Br,hβ _ ⟨bx,by rw[←Br];simp[hm]⟩,hl];congr 1;omega) ho.2
    refine⟨⟨h1,h2⟩,fun i bx hm=>?_⟩
    rcases List.mem_append.1 hm with hm|hm
    ·obtain⟨⟨j,hj,hjn⟩,h4,h5⟩:=Ib i bx hm;exact⟨⟨j,hj,by simp only[Sc,List.map_cons,List.sum_cons];omega⟩,h4,h5⟩
    ·obtain⟨⟨j,hj,hjn⟩,h4,h5⟩:=Ot i bx hm;refine⟨⟨_,by rw[hj,Br],?_⟩,h4,h5⟩
     simp only[Sc,List.map_cons,List.sum_cons] at hjn ⊢;omega
def NO (N d:Nat)(bs:List (Nat × Bx)) (own β:Bt):Bt:=fun i=>if (bs.any fun q=>Nat.beq q.1 i)=true then own ((i-d) / N) else β i
theorem Abh {bs:List (Nat × Bx)} {i:Nat}:(bs.any fun q=>Nat.beq q.1 i)=true↔∃bx,(i,bx)∈bs:=by
 rw[List.any_eq_true];constructor
 ·rintro⟨⟨j,bx⟩,hm,e⟩
  have:=Nat.eq_of_beq_eq_true e;subst this;exact⟨bx,hm⟩
 ·rintro⟨bx,hm⟩
  exact⟨_,hm,Nat.beq_refl i⟩
theorem Aj9 {N d j:Nat}(hN:0<N){bs:List (Nat × Bx)} {own β:Bt}(h:∃bx,(d+N*j,bx)∈bs):NO N d bs own β (d+N*j)=own j:=by
 unfold NO;rw[if_pos (Abh.2 h),Nat.add_sub_cancel_left,Nat.mul_div_cancel_left _ hN]
theorem GC {c:Call}{f:FuncId}(ho:o.op=.call c)(hc:c.callee=.value (.func f)) (Jr:NoNG P){fn:Func}(hf:P.funcs[f]?=some fn) (hb:fn.body.isSome=true):
  (execOp a.eval o).run P w=.ok (.enter f (c.args.map a.eval)) w:=by
 unfold execOp;rw[ho]
 have hn:¬fn.body=none:=by
  intro h;rw[h] at hb;cases hb
 have Gg:¬fn.name = "runtime.NumGoroutine" :=by simpa using Jr f fn hf
 simp[resolve,hc,Act.eval,Deferred.ofValue,invoke,callFunc,hf,Gg,hn]
theorem Amv {c:Call}{t:Nat}{f:FuncId}(ho:o.op=.call c)(hc:c.callee=.value (.tmp t)) (ht:a.eval (.tmp t)=.func (.func f) #[] #[]) (Jr:NoNG P){fn:Func}(hf:P.funcs[f]?=some fn) (hb:fn.body.isSome=true):
  (execOp a.eval o).run P w=.ok (.enter f (c.args.map a.eval)) w:=by
 unfold execOp;rw[ho]
 have hn:¬fn.body=none:=by
  intro h;rw[h] at hb;cases hb
 have Gg:¬fn.name = "runtime.NumGoroutine" :=by simpa using Jr f fn hf
 simp[resolve,hc,ht,Deferred.ofValue,invoke,callFunc,hf,Gg,hn]
theorem LW {A':Nat->Prop}(k:Bool):∀{xs:List Operand}{ps:List PV},Bw (Vc w A') ps (xs.map a.eval)->Bw (Vc w A') (Nr k xs ps) (xs.map a.eval)
 |[],[],h=>h
 |[],_::_,h=>h
 |_::_,[],h=>h
 |x::xs,p::ps,h=>by
  simp only[List.map_cons] at h ⊢;refine⟨?_,LW k h.2⟩;split
  ·exact⟨trivial,A4.lnil _ _⟩
  ·exact h.1
theorem QW (h : B3 N w0 X0 Y β s a w) {G : U7} (Jr : LO P G w0 X0) {C : Ji} {call : Af} (C6 : ∀ f args res, call f args = some res -> Da G P f args res) {c : Call} {f : FuncId} (Dp : ∀ {fn : Func}, P.funcs[f]? = some fn -> fn.body.isSome = true -> (execOp a.eval o).run P w = .ok (.enter f (c.args.map a.eval)) w)
    {K : PV -> List Nat -> List (Nat × Bx) -> Option R}
    (hk : (SY P (Ny s.hp) (SJ P f c) (c.args.toList.map (Cw s.tm)) fun vs m =>
          Aj (call f (Nr (C.kz f) c.args.toList vs)) fun rv ro => Ac ro (Ar (Nat.blt 0 N) <| MH P (C.shr f) N (o.dst.getD 0) (Si P o.type) rv fun ws bs =>
            Ar (bif Td P o.type then !Nat.beq ws.length 1 else Nat.beq ws.length 1) <| K (Sk ws (Td P o.type)) (bif M7 P (Si P o.type) then m else []) bs)) = some r) : ∃ v fz nw, K v fz nw = some r ∧ RY P a w o Y β s v fz nw := by
  obtain⟨ps, m, hk, hm, Ey⟩ := XF h hk
  replace Ey := fun fz h1 h2 => LW (a := a) (C.kz f) (Ey fz h1 h2)
  generalize Nr (C.kz f) c.args.toList ps = ps at hk Ey
  obtain⟨rv, ro, X6, hk⟩ := XJ hk
  obtain⟨rfl, hk⟩ := Ef hk
  obtain⟨hN, hk⟩ := Ax hk
  have hN : 0 < N := Nat.lt_of_succ_le (Nat.le_of_ble_eq_true hN)
  obtain⟨ws, bs, hk, hwl, hnt, OO, hrs, hri, hws⟩ := IF (C.shr f) N hk
  obtain⟨Vu, hk⟩ := Ax hk
  obtain⟨⟨fn, hfn, hfb⟩, YQ⟩ := C6 f ps _ X6
  obtain⟨fz, JB, hfm⟩ : ∃ fz : List Nat, fz = (bif M7 P (Si P o.type) then m else []) ∧ ∀ id ∈ fz, ∃ f c, s.hp id = some (.ar f c) := by
    refine⟨_, rfl, fun id Br => ?_⟩
    cases hh : M7 P (Si P o.type) <;> rw[hh] at Br
    · cases Br
    · exact hm id Br
  rw[← JB] at hk
  refine⟨_, _, _, hk, hfm, fun next Q hn => ?_⟩
  have hf := h.freeze hfm
  have hYc : ∃ Yc : Nat -> Prop, (∀ b, Yc b -> b < w.heap.size) ∧ Bw (Vc w Yc) ps (c.args.toList.map a.eval) ∧ ((∀ b, De (Ag s.hp fz) β Y b -> Yc b) ∨ M7 P (Si P o.type) = false) := by
    have Wc := Ey m (fun _ hi => hi) hm
    cases hh : M7 P (Si P o.type)
    · exact⟨fun _ => False, fun _ x => x.elim, Wc.mono fun _ _ hx => hx.weaken (fun _ _ x => x.elim), .inr rfl⟩
    · rw[hh] at JB
      have JB : fz = m := JB
      subst JB
      refine⟨De (Ag s.hp fz) β Y, fun b hb => ?_, Wc, .inl fun _ x => x⟩
      rcases hb with⟨id, ob, hl, hβ⟩ | hY
      · exact hf.blt id b ob (Dk hl) hβ
      · exact Nat.lt_of_lt_of_le (h.Ylt b hY) h.fr.step.size
  obtain⟨Yc, Azj, hYargs, hYA⟩ := hYc
  unfold Oper.wp
  rw[Dp hfn hfb]
  show Calls P f _ w _
  have hca : c.args.map a.eval = (c.args.toList.map a.eval).toArray := by rw[← List.map_toArray, Array.toArray_toList]
  rw[hca]
  refine (YQ w Yc Y4 _ (Adc Azj hYargs) (Jr.fr w h.fr) (fun b x => ⟨Nat.lt_of_lt_of_le (Jr.y b x).1 h.fr.step.size, Qd b⟩)).mono ?_
  rintro e w' ⟨vs, own, rfl, Aaj⟩
  refine hn (Ly vs) w' fun Ul => ⟨NO N (o.dst.getD 0) bs own β, ?_⟩
  obtain⟨ha1, ha2⟩ := B5 Ul
  have App : ∀ i bx, (i, bx) ∈ bs -> Ag s.hp fz i = none := fun i bx hm => Fk.2 (ha1 i bx hm)
  obtain⟨hg1, hg2⟩ := F5 (hp := Ag s.hp fz) ha2
  have hold : ∀ i, Ag s.hp fz i ≠ none -> NO N (o.dst.getD 0) bs own β i = β i := by
    intro i hi
    unfold NO
    rw[if_neg]
    intro hx
    obtain⟨bx, hm⟩ := Abh.1 hx
    exact hi (App i bx hm)
  obtain⟨Ui, hba⟩ := hws w' _ own (NO N (o.dst.getD 0) bs own β) w.heap.size 0 vs (fun j hj => by rw[Aj9 hN hj, Nat.zero_add]) Aaj.vals
  have CL : ∀ i bx, (i, bx) ∈ bs -> ∃ j, i = o.dst.getD 0 + N * j ∧ NO N (o.dst.getD 0) bs own β i = own j := by
    intro i bx hm
    obtain⟨⟨j, rfl, _⟩, _, _⟩ := hba i bx hm
    exact⟨j, rfl, Aj9 hN ⟨bx, hm⟩⟩
  have hAA : M7 P (Si P o.type) = false ∨ ∀ b, De (A6 (Ag s.hp fz) bs) (NO N (o.dst.getD 0) bs own β) Y b -> SU Y4 own Yc b := by
    rcases hYA with hYA | hYA
    · refine .inr fun b hb => ?_
      rcases hb with⟨i, ob, hl, hβ⟩ | hY
      · by_cases hi : ∃ bx, (i, bx) ∈ bs
        · obtain⟨bx, hm⟩ := hi
          obtain⟨j, _, h3⟩ := CL i bx hm
          rw[h3] at hβ
          exact .inl ⟨j, ob, hβ⟩
        · rw[hg2 i (fun bx hm => hi ⟨bx, hm⟩)] at hl
          rw[hold i (Dk hl)] at hβ
          exact .inr (.inr (hYA b (.inl ⟨i, ob, hl, hβ⟩)))
      · exact .inr (.inr (hYA b (.inr hY)))
    · exact .inl hYA
  have hval : Ed w' (De (A6 (Ag s.hp fz) bs) (NO N (o.dst.getD 0) bs own β) Y) (NO N (o.dst.getD 0) bs own β) (Sk ws (Td P o.type)) (Ly vs) := by
    have Wc : Bw (Ia w' (De (A6 (Ag s.hp fz) bs) (NO N (o.dst.getD 0) bs own β) Y) (NO N (o.dst.getD 0) bs own β)) ws vs := by
      rcases hAA with hno | hAA
      · obtain⟨_, hsc⟩ := OO hno
        refine Ui.mono_mem fun v hv u hvu => ?_
        have hsc := hsc v hv
        cases v with
        | agg cs =>
          obtain⟨xs, rfl, TT⟩ := hvu
          refine⟨xs, rfl, TT.mono_mem fun cc hcc x hx => ?_⟩
          obtain⟨y, rfl⟩ := hsc cc hcc
          have := A4.val (w := w') hx
          subst this
          exact A4.sc _
        | sc y =>
          have := A4.val (w := w') hvu
          subst this
          exact A4.sc _
        | lst z es n cc => obtain⟨y, hy⟩ := hsc _ (List.mem_singleton_self _); cases hy
        | own es n cc => obtain⟨y, hy⟩ := hsc _ (List.mem_singleton_self _); cases hy
        | view i es n cc => obtain⟨y, hy⟩ := hsc _ (List.mem_singleton_self _); cases hy
        | ptr i cc => obtain⟨y, hy⟩ := hsc _ (List.mem_singleton_self _); cases hy
        | iptr i cc => obtain⟨y, hy⟩ := hsc _ (List.mem_singleton_self _); cases hy
        | pbox cc => obtain⟨y, hy⟩ := hsc _ (List.mem_singleton_self _); cases hy
        | tup cc => obtain⟨y, hy⟩ := hsc _ (List.mem_singleton_self _); cases hy
        | top => obtain⟨y, hy⟩ := hsc _ (List.mem_singleton_self _); cases hy
        | ub => obtain⟨y, hy⟩ := hsc _ (List.mem_singleton_self _); cases hy
      · exact Ui.mono fun v u hvu => hvu.step (Cq.refl _ _) (fun b _ => hAA b) (fun _ _ => rfl)
    have Ha := Wc.len
    cases hT : Td P o.type
    · rw[hT] at Vu
      have h1 : ws.length = 1 := Nat.eq_of_beq_eq_true Vu
      match ws, vs, h1, Ha with
      | [v], [u], _, _ =>
        exact (Qw (hnt v (by simp))).2 Wc.1
    · rw[hT] at Vu
      have h1 : ¬ ws.length = 1 := by
        intro e
        rw[e] at Vu
        cases Vu
      have hr : Ly vs = .tuple ⟨vs⟩ := by
        unfold Ly
        split
        · simp at Ha; omega
        · rfl
      rw[hr]
      exact⟨vs, rfl, Wc⟩
  refine⟨Aaj.os, Aaj.tape, Aaj.output, Aaj.ext.weaken (fun b _ hb => Qd b hb), hold, ?_, ?_, ?_, ?_, ?_, hval, ?_⟩
  · intro i bx hm
    exact (hba i bx hm).2.1
  · intro i bx hm
    rcases hAA with hno | hAA
    · rw[(OO hno).1] at hm; cases hm
    · exact (hba i bx hm).2.2.1.step' hAA
  · intro i bx b ob hm hβ
    obtain⟨j, _, h3⟩ := CL i bx hm
    rw[h3] at hβ
    obtain⟨h4, h5⟩ := Aaj.fresh j b ob hβ
    refine⟨?_, h4⟩
    rcases Nat.lt_or_ge b w.heap.size with h | h
    · obtain⟨⟨_, _, _, h6⟩, _⟩ := h5 h
      cases h6
    · exact h
  · intro i bx i' bx' b ob ob' hm Qx hβ hβ'
    obtain⟨j, h1, h3⟩ := CL i bx hm
    obtain⟨j', XK, h3'⟩ := CL i' bx' Qx
    rw[h3] at hβ
    rw[h3'] at hβ'
    rw[h1, XK, Aaj.inj j j' b ob ob' hβ hβ']
  · intro i cells hm c hc i' hi'
    exact .inr (hri i cells hm c hc i' hi')
  · intro i hi
    right
    cases hT : Td P o.type
    · rw[hT] at Vu hi
      have h1 : ws.length = 1 := Nat.eq_of_beq_eq_true Vu
      match ws, h1 with
      | [v], _ =>
        refine hrs v (by simp) i ?_
        have : B8 v = Cl v := by
          have hn := hnt v (by simp)
          cases v <;> first | rfl | exact absurd rfl (hn _)
        rw[← this]
        exact hi
    · rw[hT] at hi
      obtain⟨v, hv, hi⟩ := List.mem_flatMap.1 (show i ∈ ws.flatMap Cl from hi)
      exact hrs v hv i hi
end
open Go.RowKit
section
variable {R:Type} {r:R} {P:Program} {N:Nat} {w0:World} {X0:Fz} {Y:Nat->Prop} {β β':Bt} {s:St} {a:Act} {w w':World} {o:Oper} {A:Nat->Prop}
theorem B3.move (h:B3 N w0 X0 Y β s a w){id d:Nat}{c cells:List PV}{bo:Option (Nat × Nat)} {v:PV}{val:Value}(h0:s.hp id=some (.ar false c)) (hd:s.hp d=none)(hdN:d<N)
  (hos:w'.os=w.os)(htp:w'.tape=w.tape)(Aaj:w'.output=w.output)(Acx:w.heap.size<=w'.heap.size)
  (Pc:∀k,k<w.heap.size->(∀x,β id≠some (k,x))->w'.heap[k]?=w.heap[k]?) (RW:∀k,k<w.heap.size->bsz w k<=bsz w' k)
  (ZH:∀k x,bo=some (k,x)->k<w'.heap.size∧(w.heap.size<=k∨∃y,β id=some (k,y)))
  (hbr:∀k x,bo=some (k,x)->k<w.heap.size->β id=some (k,x))
  (hO:∀k y,β id=some (k,y)->k<w.heap.size->∀j,j<y->w'.cell? ⟨k,j,none⟩=w.cell? ⟨k,j,none⟩∧w'.frozen? ⟨k,j,none⟩=w.frozen? ⟨k,j,none⟩)
  (Nv:U5 w' (De (Dd (Dd s.hp id (some .mv)) d (some (.ar false cells))) (Dd β d bo) Y) (Dd β d bo) d (.ar false cells))
  (hv:Ed w' (De (Dd (Dd s.hp id (some .mv)) d (some (.ar false cells))) (Dd β d bo) Y) (Dd β d bo) v val) (hr:∀i∈B8 v,i=d):
  B3 N w0 X0 Y (Dd β d bo) ⟨Dd s.tm d v,Dd (Dd s.hp id (some .mv)) d (some (.ar false cells))⟩ (a.put (some d) val) w':=by
 have Gg:id≠d:=by rintro rfl;rw[h0] at hd;cases hd
 have Agq:∀i,i≠id->i≠d->Dd (Dd s.hp id (some Bx.mv)) d (some (.ar false cells)) i=s.hp i:=fun i h1 h2=>by rw[Aq _ _ h2,Aq _ _ h1]
 have Awg:Dd (Dd s.hp id (some Bx.mv)) d (some (.ar false cells)) id=some .mv:=by rw[Aq _ _ Gg,A3]
 have hgd:Dd (Dd s.hp id (some Bx.mv)) d (some (.ar false cells)) d=some (.ar false cells):=A3 _ _ _
 have Ko:∀i,s.hp i≠none->Dd (Dd s.hp id (some Bx.mv)) d (some (.ar false cells)) i≠none:=by
  intro i hi;by_cases e:i=id
  ·subst e;rw[Awg];simp
  ·by_cases e':i=d
   ·subst e';rw[hgd];simp
   ·rw[Agq i e e'];exact hi
 have hβo:∀i,s.hp i≠none->Dd β d bo i=β i:=fun i hi=>Aq _ _ (by rintro rfl;exact hi hd)
 have Ach:Cv (s.hp id):=by rw[h0];trivial
 have I5:∀i,Cv (Dd (Dd s.hp id (some Bx.mv)) d (some (.ar false cells)) i)->i=d∨(i≠id∧i≠d∧Cv (s.hp i)):=by
  intro i hi;by_cases e':i=d
  ·exact .inl e'
  ·by_cases e:i=id
   ·subst e;rw[Awg] at hi;exact hi.elim
   ·rw[Agq i e e'] at hi;exact .inr ⟨e,e',hi⟩
 have hX:∀k,k<w.heap.size->DF (Dd (Dd s.hp id (some .mv)) d (some (.ar false cells))) (Dd β d bo) k->DF s.hp β k:=by
  rintro k hk ⟨i,x,hl,hβ⟩
  rcases I5 i hl with rfl|⟨e,e',hl⟩
  ·rw[A3] at hβ;rcases (ZH k x hβ).2 with I2|⟨y,hy⟩
   ·omega
   ·exact⟨id,y,Ach,hy⟩
  ·rw[Aq _ _ e'] at hβ;exact⟨i,x,hl,hβ⟩
 have hAo:∀k,k<w.heap.size->De (Dd (Dd s.hp id (some .mv)) d (some (.ar false cells))) (Dd β d bo) Y k->De s.hp β Y k:=fun k hk hx=>hx.imp (hX k hk) (fun y=>y)
 have Gv:Cq (De s.hp β Y) w w':=⟨Acx,fun k hk hn=>Pc k hk fun x hx=>hn (.inl ⟨id,x,Ach,hx⟩),RW⟩
 have As7:∀i k x,i≠id->i≠d->(∃b,s.hp i=some b∧b ≠ .mv)->β i=some (k,x)->k<w.heap.size∧w'.heap[k]?=w.heap[k]?:=by
  rintro i k x e e' ⟨b,hb,hmv⟩ hβ
  have hk:=h.blt i k x (by rw[hb];simp) hβ
  refine⟨hk,Pc k hk fun y hy=>?_⟩
  have Am6:=h.box i b hb;cases b with
  |st cc=>exact e (h.inj i id k x y (by rw[hb];trivial) Ach hβ hy)
  |ar fz cc=>
   cases fz with
   |false=>exact e (h.inj i id k x y (by rw[hb];trivial) Ach hβ hy)
   |true=>
    rcases Am6 with⟨h1,_⟩|⟨k',x',h1,_,_,h4⟩
    ·rw[hβ] at h1;cases h1
    ·rw[hβ] at h1;simp at h1;obtain⟨rfl,rfl⟩:=h1
     exact h4 rfl (.inl ⟨id,y,Ach,hy⟩)
  |mv=>exact absurd rfl hmv
 refine⟨by rw[Kj];exact h.dfr,by rw[Hq];exact h.tsz,?_,?_,?_,?_,?_,?_,?_,?_,?_,?_,?_,?_,h.Ylt,?_⟩
 ·intro i hi;show Dd s.tm d v i=_;rw[Aq _ _ (by omega)]
  exact h.tmo i hi
 ·refine Tj (d:=some d) (Q:=fun _ p u=>Ed w' (De (Dd (Dd s.hp id (some .mv)) d (some (.ar false cells))) (Dd β d bo) Y) (Dd β d bo) p u) h.tsz (by simp[Il,Nat.blt];omega) (fun i hi=>?_) (fun _=>hv)
  exact (h.tms i hi).step Gv hAo fun j hj=>hβo j (h.wfT i hi j hj)
 ·intro i bi hb;simp only at hb;by_cases e':i=d
  ·subst e';rw[hgd] at hb;cases hb;exact Nv
  ·by_cases e:i=id
   ·subst e;rw[Awg] at hb;cases hb;trivial
   ·rw[Agq i e e'] at hb;have hβi:=hβo i (by rw[hb];simp)
    have NZ:=h.box i bi hb;cases bi with
    |st cc=>
     obtain⟨k,x,h1,h2,h3⟩:=NZ;obtain⟨hk,DP⟩:=As7 i k x e e' ⟨_,hb,by simp⟩ h1
     refine⟨k,x,by rw[hβi];exact h1,fun j p hj=>?_,fun j hj=>?_⟩
     ·obtain⟨u,hu,hc⟩:=h2 j p hj;exact⟨u,by rw[World.cell?_of_block (w:=w) DP];exact hu,hc.step Gv hAo fun q hq=>hβo q (h.wfB i cc hb p (List.mem_of_getElem? hj) q hq)⟩
     ·rw[World.frozen?_of_block (w:=w) DP];exact h3 j hj
    |ar fz cc=>
     rcases NZ with⟨h1,h2⟩|⟨k,x,h1,h2,h3,h4⟩
     ·exact .inl ⟨by rw[hβi];exact h1,h2⟩
     ·obtain⟨hk,DP⟩:=As7 i k x e e' ⟨_,hb,by simp⟩ h1
      refine .inr ⟨k,x,by rw[hβi];exact h1,fun j p hj=>?_,fun ef j hj X5=>?_,fun ef hx=>h4 ef (hAo k hk hx)⟩
      ·obtain⟨u,hu,h5,hc⟩:=h2 j p hj;exact⟨u,by rw[World.cell?_of_block (w:=w) (by rw[Hh];exact DP)];exact hu,h5,hc.step Gv hAo⟩
      ·rw[World.frozen?_of_block (w:=w) DP];refine h3 ef j hj ?_;unfold bsz at X5 ⊢;rw[DP] at X5;exact X5
    |mv=>trivial
 ·intro i i' k x y hl Ou hb I7;simp only at hl Ou
  have key:∀j z,j≠id->j≠d->Cv (s.hp j)->β j=some (k,z)->bo=some (k,y)∨bo=some (k,x)->False:=by
   intro j z e e' hlj hβj hbk;have hk:=h.blt j k z (Dk hlj) hβj;have:∃t,bo=some (k,t):=by rcases hbk with q|q<;>exact⟨_,q⟩
   obtain⟨t,ht⟩:=this;rcases (ZH k t ht).2 with I2|⟨q,hq⟩
   ·omega
   ·exact e (h.inj j id k z q hlj Ach hβj hq)
  rcases I5 i hl with rfl|⟨e,e',V5⟩
  ·rcases I5 i' Ou with rfl|⟨e2,e2',Az7⟩
   ·rfl
   ·rw[A3] at hb;rw[Aq _ _ e2'] at I7;exact (key i' y e2 e2' Az7 I7 (.inr hb)).elim
  ·rcases I5 i' Ou with rfl|⟨e2,e2',Az7⟩
   ·rw[A3] at I7;rw[Aq _ _ e'] at hb;exact (key i x e e' V5 hb (.inl I7)).elim
   ·rw[Aq _ _ e'] at hb;rw[Aq _ _ e2'] at I7;exact h.inj i i' k x y V5 Az7 hb I7
 ·intro i k x hi hb;simp only at hi;by_cases e':i=d
  ·subst e';rw[A3] at hb;exact (ZH k x hb).1
  ·rw[Aq _ _ e'] at hb
   have hi':s.hp i≠none:=by
    by_cases e:i=id
    ·subst e;rw[h0];simp
    ·rw[Agq i e e'] at hi;exact hi
   exact Nat.lt_of_lt_of_le (h.blt i k x hi' hb) Acx
 ·have:=Tj (d:=some d) (Q:=fun _ p _=>∀j∈B8 p,Dd (Dd s.hp id (some Bx.mv)) d (some (.ar false cells)) j≠none) (val:=val) (v:=v) h.tsz (by simp[Il,Nat.blt];omega) (fun i hi j hj=>Ko j (h.wfT i hi j hj)) (fun _ j hj=>by
   rw[hr j hj,hgd];simp)
  exact this
 ·intro i cc hc p hp j hj;simp only at hc;by_cases e':i=d
  ·subst e';rw[hgd] at hc;cases hc
  ·by_cases e:i=id
   ·subst e;rw[Awg] at hc;cases hc
   ·rw[Agq i e e'] at hc;exact Ko j (h.wfB i cc hc p hp j hj)
 ·rintro k ⟨i,x,hl,hβ⟩
  rcases I5 i hl with rfl|⟨e,e',hl⟩
  ·rw[A3] at hβ;rcases (ZH k x hβ).2 with I2|⟨y,hy⟩
   ·exact .inr (Nat.le_trans h.fr.step.size I2)
   ·exact h.ownd k ⟨id,y,Ach,hy⟩
  ·rw[Aq _ _ e'] at hβ;exact h.ownd k ⟨i,x,hl,hβ⟩
 ·intro i bi k x NZ hli hβ Cc j hj;simp only at NZ;rcases I5 i (by rw[NZ];exact hli) with rfl|⟨e,e',hl⟩
  ·rw[A3] at hβ;rw[hgd] at NZ;cases NZ;have:=hbr k x hβ (Nat.lt_of_lt_of_le Cc h.fr.step.size);exact h.rngB id (.ar false c) k x h0 trivial this Cc j hj
  ·rw[Agq i e e'] at NZ;rw[Aq _ _ e'] at hβ;exact h.rngB i bi k x NZ hli hβ Cc j hj
 ·intro i hi;exact⟨Ko _ (h.pin i hi).1,by rw[hβo _ (h.pin i hi).1];exact (h.pin i hi).2⟩
 ·intro i cc k x NZ hβ Cc;simp only at NZ;rcases I5 i (by rw[NZ];trivial) with rfl|⟨e,e',hl⟩
  ·rw[hgd] at NZ;cases NZ
  ·rw[Agq i e e'] at NZ;rw[Aq _ _ e'] at hβ;exact h.stp i cc k x NZ hβ Cc
 ·intro k hY hx;exact h.Yx k hY (hX k (Nat.lt_of_lt_of_le (h.Ylt k hY) h.fr.step.size) hx)
 ·refine⟨hos.trans h.fr.os,htp.trans h.fr.tape,Aaj.trans h.fr.output,⟨Nat.le_trans h.fr.step.size Acx,fun k hk hnk=>?_,fun k hk=>Nat.le_trans (h.fr.step.bs k hk) (RW k (Nat.lt_of_lt_of_le hk h.fr.step.size))⟩,fun k j hk hL=>?_⟩
  ·rw[Pc k (Nat.lt_of_lt_of_le hk h.fr.step.size) ?_]
   ·exact h.fr.step.keep k hk hnk
   ·intro x hx;rcases h.ownd k ⟨id,x,Ach,hx⟩ with hq|hq
    ·exact hnk hq
    ·omega
  ·have hkw:=Nat.lt_of_lt_of_le hk h.fr.step.size
   have Xl:w'.cell? ⟨k,j,none⟩=w.cell? ⟨k,j,none⟩∧w'.frozen? ⟨k,j,none⟩=w.frozen? ⟨k,j,none⟩:=by
    by_cases e:∃y,β id=some (k,y)
    ·obtain⟨y,hy⟩:=e;refine hO k y hy hkw j ?_;rcases Nat.lt_or_ge j y with q|q
     ·exact q
     ·exact absurd (h.rngB id (.ar false c) k y h0 trivial hy hk j q) hL
    ·have DP:=Pc k hkw (fun x hx=>e ⟨x,hx⟩)
     exact⟨World.cell?_of_block (w:=w) DP,World.frozen?_of_block (w:=w) DP⟩
   rw[Xl.1,Xl.2];exact h.fr.rng k j hk hL
end
open Go.RowKit
section
variable {R:Type} {r:R} {P:Program} {N:Nat} {w0:World} {X0:Fz} {Y:Nat->Prop} {β β':Bt} {s:St} {a:Act} {w w':World} {o:Oper} {A:Nat->Prop}
structure Src (P:Program) (w:World) (A:Nat->Prop) (size:Nat) (xv:Value) (m:Nat) (new:List PV) (news:List Value):Prop where
 len:∀w':World,(Builtin.lenOf xv).run P w'=.ok m w'
 cells:∀w':World,(∀b,b<w.heap.size->w'.heap[b]?=w.heap[b]?)->(Builtin.firstCells size m xv).run P w'=.ok news.toArray w'
 part:∀k,k<=m->(Builtin.firstCells size k xv).run P w=.ok (news.take (k*size)).toArray w
 one:∀u∈news,u.oneCell'=true
 rep:Bw (A4 w A) new news
theorem SF (h:B3 N w0 X0 Y β s a w){e tx:TypeId}{x:Operand}{K:Nat->List PV->Option R}(hk:Agf P s (Bm P e) tx (Cw s.tm x) K=some r)
  (h1c:∀m new,K m new=some r->new.length=m*Bm P e):
  (∃d,P.underlying tx=some d∧(∀k,d ≠ .int k))∧∃m new news,K m new=some r∧Src P w (De s.hp β Y) (Bm P e) (a.eval x) m new news:=by
 unfold Agf Af4 at hk;split at hk
 ·rename_i hu;obtain⟨LL,hk⟩:=Ax hk;have LL:=Nat.eq_of_beq_eq_true LL;obtain⟨b,hx,hk⟩:=Er hk;have D6:=Df h hx;refine⟨⟨_,hu,by simp⟩,b.size,Fs b,b.data.toList.map (fun y=>Value.int .u8 y.toNat),hk,?_,?_,?_,?_,?_⟩
  ·intro w';rw[D6];rfl
  ·intro w' _;rw[D6]
   have hx:b.data.extract 0 b.size=b.data:=by
    have:b.size=b.data.size:=rfl;rw[this,Array.extract_size]
   have hd:(b.extract 0 b.size).data=b.data:=by
    rw[ByteArray.extract_zero_size]
   simp only[Builtin.firstCells,hd];rw[←Array.toList_map,Array.toArray_toList];rfl
  ·intro k I2;rw[D6,LL,Nat.mul_one];have hd:(b.extract 0 k).data=b.data.extract 0 k:=ByteArray.data_extract
   have e1:(b.data.extract 0 k).map (fun y=>Value.int .u8 y.toNat)=((b.data.toList.map fun y=>Value.int .u8 y.toNat).take k).toArray:=by
    apply Array.toList_inj.1;simp[List.map_take]
   simp only[Builtin.firstCells,hd];rw[e1];rfl
  ·intro u hu;simp at hu;obtain⟨y,_,rfl⟩:=hu;rfl
  ·unfold Fs;generalize b.data.toList=l
   induction l with
   |nil=>trivial
   |cons y l ih=>exact⟨A4.sc _,ih⟩
 ·rename_i e' hu;refine⟨⟨_,hu,by simp⟩,?_⟩
  obtain⟨m,new,hk,hc⟩:=Afl h hk;have Ha:=h1c m new hk;rcases hc with⟨⟨ad,D6⟩,rfl,rfl⟩|⟨ad,cap,D6,hn,Cc,hrd⟩
  ·have f0:∀w':World,(Builtin.firstCells (Bm P e) 0 (.slice ad 0 0)).run P w'=.ok #[] w':=fun w'=>by
    cases ad with
    |none=>rfl
    |some p=>exact run_firstCells_some (P:=P) w' (Bm P e) 0 p 0 0 [] (by simp) (fun j v hj=>by simp at hj)
   exact⟨0,[],[],hk,fun w'=>by rw[D6];rfl,fun w' _=>by rw[D6];exact f0 w',fun k I2=>by rw[D6,Nat.le_zero.1 I2,List.take_nil];exact f0 w,by simp,trivial⟩
  ·refine⟨m,new,new.mapIdx (fun j _=>(w.cell? (ad.add j)).getD undef),hk,fun w'=>by rw[D6];rfl,fun w' hw=>?_,fun k I2=>?_,?_,?_⟩
   ·rw[D6];refine run_firstCells_some (P:=P) w' (Bm P e) m ad m cap _ (by simp[Ha]) fun j v hj=>?_
    rw[List.getElem?_mapIdx] at hj;cases hc:new[j]? with
    |none=>rw[hc] at hj;cases hj
    |some c=>
     rw[hc] at hj;simp at hj;obtain⟨u,hu,_⟩:=hrd j c hc;rw[hu] at hj;simp at hj;subst hj;have Cc:ad.block<w.heap.size:=by rcases Cc with rfl|Cc<;>first|exact Cc|simp at hc
     rw[World.cell?_of_block (w:=w) (by rw[Hh];exact hw _ Cc)]
     exact hu
   ·rw[D6];have hkm:k*Bm P e<=m*Bm P e:=Nat.mul_le_mul_right _ I2;refine run_firstCells_some (P:=P) w (Bm P e) k ad m cap _ (by rw[List.length_take,List.length_mapIdx,Ha];omega) fun j v hj=>?_
    rw[List.getElem?_take] at hj;split at hj
    ·rw[List.getElem?_mapIdx] at hj;cases hc:new[j]? with
     |none=>rw[hc] at hj;cases hj
     |some c=>
      rw[hc] at hj;simp at hj;obtain⟨u,hu,_⟩:=hrd j c hc;rw[hu] at hj;simp at hj;subst hj;exact hu
    ·cases hj
   ·intro u hu;obtain⟨j,hj⟩:=List.mem_iff_getElem?.1 hu;rw[List.getElem?_mapIdx] at hj;cases hc:new[j]? with
    |none=>rw[hc] at hj;cases hj
    |some c=>
     rw[hc] at hj;simp at hj;obtain⟨v,hv,h2,ht⟩:=hrd j c hc;rw[hv] at hj;simp at hj;subst hj;exact h2
   ·refine Bw.of_at (by simp) fun j c v hc hj=>?_
    rw[List.getElem?_mapIdx,hc] at hj;simp at hj;obtain⟨u,hu,_,ht⟩:=hrd j c hc;rw[hu] at hj;simp at hj;subst hj;exact ht
 ·cases hk
theorem QF {e:TypeId}(h:ZA P e=true):∃i z,P.info? e=some i∧i.zero=some z∧z.cells.size=i.size∧Bm P e=i.size:=by
 unfold ZA at h;split at h
 ·rename_i i hi;split at h
  ·rename_i z hz;exact⟨i,z,hi,hz,Nat.eq_of_beq_eq_true h,by simp[Bm,hi]⟩
  ·cases h
 ·cases h
theorem NJ {es n cap:Nat}{ad:Option Addr}{olds:List Value}(h:(ad=none∧olds=[])∨∃p,ad=some p∧olds.length=n*es∧∀(j:Nat) v,olds[j]?=some v->w.cell? (p.add j)=some v):
  (Builtin.firstCells es n (.slice ad n cap)).run P w=.ok olds.toArray w:=by
 rcases h with⟨rfl,rfl⟩|⟨p,rfl,hl,hc⟩
 ·rfl
 ·exact run_firstCells_some (P:=P) w es n p n cap olds hl hc
theorem P4 {t tx ty e:TypeId}{i:TypeInfo}{z:Value}{d:TypeDesc}{ts:List TypeId}(ht:P.underlying t=some (.slice e)) (htx:P.underlying tx=some d)(hd:∀k,d ≠ .int k)(hi:P.info? e=some i)(hz:i.zero=some z)
  {ad:Option Addr} {n cap m:Nat} {xv:Value} {olds news:List Value} {A:Nat->Prop} {new:List PV} (hs:Src P w A i.size xv m new news)
  (hold:(ad=none∧olds=[])∨∃p,ad=some p∧olds.length=n*i.size∧∀(j:Nat) v,olds[j]?=some v->w.cell? (p.add j)=some v)
  (hg:cap<n+m)(hb:(n+m)*i.bytes<=1099511627776) (h63:n+m<=1099511627776):
  (Builtin.append_ (t::tx::ts).toArray ty #[.slice ad n cap,xv]).run P w =
   .ok (.slice (some ⟨w.heap.size,0,none⟩) (n+m) (grownCap w (n+m) cap e)) (w.drew.alloc (.cells (olds.toArray++news.toArray++Builtin.zeroCells z.cells (grownCap w (n+m) cap e-(n+m))) e)):=by
 have h1:=hs.len w;have h2:(Builtin.firstCells i.size m xv).run P w.drew=.ok news.toArray w.drew:=hs.cells w.drew (fun _ _=>rfl)
 have h3:(Builtin.firstCells i.size n (.slice ad n cap)).run P w.drew=.ok olds.toArray w.drew:=NJ (w:=w.drew) (by
  rcases hold with hh|⟨p,hp,hl,hc⟩
  ·exact .inl hh
  ·exact .inr ⟨p,hp,hl,fun j v hj=>hc j v hj⟩)
 have Al1:=growslice_fits (need:=n+m) (old:=cap) (bytes:=i.bytes) hg (by omega)
 have hn:¬(n+m<=cap):=by omega
 have Avd:¬(9223372036854775807<((n:Int)+(m:Int))):=by omega
 have Avi:¬(281474976710656<Builtin.nextslicecap (n+m) cap*i.bytes):=by omega
 have RX:(match d with | .int _=>true|_=>false)=false:=by cases d<;>first|rfl|exact absurd rfl (hd _)
 simp[Builtin.append_,run_underlying ht,run_underlying htx,RX,sizeOf,typeInfo,zeroValue,hi,hz,h1,hn,Avd,Avi,Question.forced,h2,h3,newRow,grownCap]
 congr 2
 apply Array.ext';simp[List.append_assoc]
theorem MU {t tx ty e:TypeId}{i:TypeInfo}{d:TypeDesc}{ts:List TypeId}(ht:P.underlying t=some (.slice e)) (htx:P.underlying tx=some d)(hd:∀k,d ≠ .int k)(hi:P.info? e=some i)
  {b ob n cap m:Nat} {xv:Value} {news:List Value} {A:Nat->Prop} {new:List PV} (hs:Src P w A i.size xv m new news) (hl:news.length=m*i.size)
  (hcell:∀k,k<news.length->(w.cell? ⟨b,ob+n*i.size+k,none⟩).isSome=true) (UT:∀k,k<news.length->w.frozen? ⟨b,ob+n*i.size+k,none⟩=false)(hg:n+m<=cap):
  (Builtin.append_ (t::tx::ts).toArray ty #[.slice (some ⟨b,ob,none⟩) n cap,xv]).run P w=.ok (.slice (some ⟨b,ob,none⟩) (n+m) cap) (w.setCells b (ob+n*i.size) news):=by
 have h1:=hs.len w;have h2:(Builtin.firstCells i.size m xv).run P w=.ok news.toArray w:=hs.cells w (fun _ _=>rfl)
 have h3:=run_storeCells_cells (P:=P) b (ob+n*i.size) news 0 w (fun k hk=>by simpa using hcell k hk) (fun k hk=>by simpa using UT k hk) hs.one
 have RX:(match d with | .int _=>true|_=>false)=false:=by cases d<;>first|rfl|exact absurd rfl (hd _)
 have _:=hl;simp[Builtin.append_,run_underlying ht,run_underlying htx,RX,sizeOf,typeInfo,hi,h1,hg,h2,Eu];rw[h3];simp
theorem Ae1 {t ty e:TypeId}{i:TypeInfo}{ts:List TypeId}(ht:P.underlying t=some (.slice e)) (hi:P.info? e=some i)
  {ad:Option Addr} {n cap m:Nat} {xv:Value} {news:List Value} {A:Nat->Prop} {new:List PV} (hs:Src P w A i.size xv m new news)
  {w1:World} (Gv:(match ad with|some p=>storeCells p (news.take (min m n*i.size)) 0|none=>pure ()).run P w=.ok () w1):
  (Builtin.copy_ (t::ts).toArray ty #[.slice ad n cap,xv]).run P w=.ok (goInt ((min m n:Nat):Int)) w1:=by
 have h1:=hs.len w;have h2:=hs.part (min m n) (Nat.min_le_left _ _);have e:Nat.min m n=min m n:=rfl;generalize min m n=k at *
 cases ad with
 |none=>
  simp only at Gv;simp[Builtin.copy_,run_underlying ht,sizeOf,typeInfo,hi,h1,h2,e]
  simpa using Gv
 |some p=>
  simp only at Gv;simp[Builtin.copy_,run_underlying ht,sizeOf,typeInfo,hi,h1,h2,e,Gv]
theorem JF {t tx ty e:TypeId}{i:TypeInfo}{k kx:IntKind}{ts:List TypeId}(ht:P.underlying t=some (.slice e)) (htx:P.underlying tx=some (.int k)) (hi:P.info? e=some i):
  (Builtin.append_ (t::tx::ts).toArray ty #[.slice none 0 0,.int kx 0]).run P w=.ok (.slice none 0 0) w:=by
 have hw:IntKind.i64.wrap 0=0:=by decide
 simp[Builtin.append_,run_underlying ht,run_underlying htx,sizeOf,typeInfo,hi,asInt,asIntOf,hw]
theorem NT {t tx ty e:TypeId}{i:TypeInfo}{z:Value}{k kx:IntKind}{ts:List TypeId}(ht:P.underlying t=some (.slice e)) (htx:P.underlying tx=some (.int k)) (hi:P.info? e=some i)(hz:i.zero=some z)
  {n:Int} (h0:0<n) (hb:n.toNat*i.bytes<=1099511627776) (hn:n<=1099511627776):
  (Builtin.append_ (t::tx::ts).toArray ty #[.slice none 0 0,.int kx n]).run P w =
   .ok (.slice (some ⟨w.heap.size,0,none⟩) n.toNat (grownCap w n.toNat 0 e)) (w.drew.alloc (.cells ((if n.toNat*i.size=0 then #[] else Builtin.zeroCells z.cells n.toNat)++Builtin.zeroCells z.cells (grownCap w n.toNat 0 e-n.toNat)) e)):=by
 have hw:IntKind.i64.wrap n=n:=IntWalk.i64_in n (by omega)
 have Al1:=growslice_fits (need:=n.toNat) (old:=0) (bytes:=i.bytes) (by omega) (by omega)
 have OR:¬n<0:=by omega
 have Ko:¬(281474976710656<n*(i.bytes:Int)):=by
  have:n*(i.bytes:Int)=((n.toNat*i.bytes:Nat):Int):=by
   rw[Int.natCast_mul,Int.toNat_of_nonneg (by omega)]
  omega
 have hz0:¬(n.toNat=0):=by omega
 have Avd:¬(9223372036854775807<(n.toNat:Int)):=by omega
 have Avi:¬(281474976710656<Builtin.nextslicecap n.toNat 0*i.bytes):=by omega
 have AK:¬n<=0:=by omega
 have hmx:¬(9223372036854775807<max n 0):=by omega
 by_cases hs:n.toNat*i.size=0
 ·simp[Builtin.append_,run_underlying ht,run_underlying htx,sizeOf,typeInfo,zeroValue,hi,hz,asInt,asIntOf,hw,OR,Ko,hz0,AK,hmx,Avd,Avi,Question.forced,hs,newRow,grownCap,Builtin.firstCells]
 ·simp[Builtin.append_,run_underlying ht,run_underlying htx,sizeOf,typeInfo,zeroValue,hi,hz,asInt,asIntOf,hw,OR,Ko,hz0,AK,hmx,Avd,Avi,Question.forced,hs,newRow,grownCap,Builtin.firstCells]
theorem P8 {t tx ty e:TypeId}{i:TypeInfo}{d:TypeDesc}{ts:List TypeId}(ht:P.underlying t=some (.slice e)) (htx:P.underlying tx=some d)(hd:∀k,d ≠ .int k)(hi:P.info? e=some i)
  {ad:Option Addr} {xv:Value} {news:List Value} {A:Nat->Prop} {new:List PV} (hs:Src P w A i.size xv 0 new news) (h0:news=[]):
  (Builtin.append_ (t::tx::ts).toArray ty #[.slice ad 0 0,xv]).run P w=.ok (.slice ad 0 0) w:=by
 subst h0;have h1:=hs.len w;have h2:(Builtin.firstCells i.size 0 xv).run P w=.ok ([]:List Value).toArray w:=hs.cells w (fun _ _=>rfl)
 have RX:(match d with | .int _=>true|_=>false)=false:=by cases d<;>first|rfl|exact absurd rfl (hd _)
 cases ad<;>simp[Builtin.append_,run_underlying ht,run_underlying htx,RX,sizeOf,typeInfo,hi,h1,h2,storeCells]
end
open Go.RowKit
section
variable {R:Type} {r:R} {P:Program} {N:Nat} {w0:World} {X0:Fz} {Y:Nat->Prop} {β β':Bt} {s:St} {a:Act} {w w':World} {o:Oper} {A:Nat->Prop}
theorem Ans {b j:Nat}(h:j<bsz w b):(w.cell? ⟨b,j,none⟩).isSome=true:=by
 unfold bsz at h;unfold World.cell?;split at h
 ·rename_i c e fz hb;simp[hb,h]
 ·omega
theorem Aif {id d:Nat}{c cells:List PV}{bo:Option (Nat × Nat)} (h0:s.hp id=some (.ar false c)) (hd:s.hp d=none)
  (ZH:∀k x,bo=some (k,x)->w.heap.size<=k∨∃y,β id=some (k,y)):
  ∀k,k<w.heap.size->De (Dd (Dd s.hp id (some .mv)) d (some (.ar false cells))) (Dd β d bo) Y k->De s.hp β Y k:=by
 rintro k hk (⟨i,x,hl,hβ⟩|hY)
 ·by_cases e':i=d
  ·subst e';rw[A3] at hβ;rcases ZH k x hβ with h|⟨y,hy⟩
   ·omega
   ·exact .inl ⟨id,y,by rw[h0];trivial,hy⟩
  ·rw[Aq _ _ e'] at hl hβ;by_cases e:i=id
   ·subst e;rw[A3] at hl;exact hl.elim
   ·rw[Aq _ _ e] at hl;exact .inl ⟨i,x,hl,hβ⟩
 ·exact .inr hY
theorem SK {pre new:List PV}{olds news:List Value}{zs:Array Value}{e:TypeId}{A':Nat->Prop}(hg:Im w w' (olds.toArray++news.toArray++zs) e) (hA:∀b,b<w.heap.size->A' b->A b)
  (h1:Bw (A4 w A) pre olds) (h2:Bw (A4 w A) new news) (ho:∀u∈olds,u.oneCell'=true)(hn:∀u∈news,u.oneCell'=true):VH w' A' ⟨w.heap.size,0,none⟩ (pre++new):=by
 refine Aiu hg hA fun j p hj=>?_
 obtain⟨v,hv,ht⟩:=(h1.app h2).get hj;refine⟨v,?_,?_,ht⟩
 ·have Cc:j<(olds++news).length:=by
   rcases Nat.lt_or_ge j (olds++news).length with h|h
   ·exact h
   ·rw[List.getElem?_eq_none h] at hv;cases hv
  rw[Array.getElem?_append_left (by simpa using Cc)]
  simpa using hv
 ·rcases List.mem_append.1 (List.mem_of_getElem? hv) with hm|hm
  ·exact ho v hm
  ·exact hn v hm
theorem Aau (h:B3 N w0 X0 Y β s a w){c:Call}(ho:o.op=.call c)(hc:c.callee=.builtin .append)(hnb:FD c=true){d:Nat}(Am1:o.dst=some d){b x:Operand}(Ey:c.args.toList=[b,x]) {t tx:TypeId}{ts:List TypeId}(OE:c.argTypes.toList=t::tx::ts)
  {K:PV->List (Nat × Bx)->Option R} (hk:Z7 P (Ny s.hp) d t tx (Cw s.tm x) K=some r):∃v nw,K v nw=some r∧F8 P a w o Y β s v [] nw:=by
 have hb:b=.const (.slice none 0 0):=by
  unfold FD at hnb;rw[Ey] at hnb;split at hnb
  ·rename_i e;injection e
  ·cases hnb
 have SZ:c.args = #[b,x]:=by
  have:c.args=([b,x]:List Operand).toArray:=by rw[←Ey]
  exact this
 have Acm:c.argTypes=(t::tx::ts).toArray:=by rw[←OE]
 have Ul:a.eval b=.slice none 0 0:=by rw[hb];rfl
 have run:∀{v:Value} {w1:World},(Builtin.append_ (t::tx::ts).toArray o.type #[a.eval b,a.eval x]).run P w=.ok v w1->(execOp a.eval o).run P w=.ok (.value v) w1:=by
  intro v w1 hr;unfold execOp;rw[ho];simp only[resolve,hc,invoke,builtin,Sem.run_bind,Sem.run_pure,Result.andThen_ok,SZ,Acm];have:(#[b,x]:Array Operand).map a.eval = #[a.eval b,a.eval x]:=by simp
  rw[this,hr];rfl
 unfold Z7 at hk;split at hk
 ·rename_i e hu;obtain⟨hzi,hk⟩:=Ax hk;obtain⟨i,z,hi,hz,hzs,Lw⟩:=QF hzi;have Zo:((P.info? e).map (·.bytes)).getD 0=i.bytes:=by rw[hi];rfl
  obtain⟨⟨dx,hdx,Adl⟩,m,new,news,hk,hs⟩:=SF (s:=s) h hk (fun m new I2=>by
   obtain⟨hb,_⟩:=Ax I2;simp only[Bool.and_eq_true,decide_eq_true_eq] at hb;exact hb.1.1)
  obtain⟨I7,hk⟩:=Ax hk;simp only[Bool.and_eq_true,decide_eq_true_eq] at I7;obtain⟨⟨Aiz,hby⟩,hnm⟩:=I7;have hnl:new.length=news.length:=hs.rep.len;rw[Lw] at Aiz hk hs;rw[Zo] at hby;have MR:news.length=m*i.size:=by omega
  refine⟨_,_,hk,by simp,?_⟩
  by_cases hm0:m=0
  ·subst hm0;have hr:=P8 (P:=P) (w:=w) (t:=t) (tx:=tx) (ty:=o.type) (ts:=ts) (ad:=none) hu hdx Adl hi hs (List.eq_nil_of_length_eq_zero (by omega))
   rw[←Ul] at hr;have Adr:new=[]:=List.eq_nil_of_length_eq_zero (by omega)
   subst Adr;refine⟨_,_,run hr,fun Arv=>⟨Dd β d none,?_⟩⟩
   have EX:s.hp d=none:=(B5 Arv).1 d _ (List.mem_singleton_self _);rw[Ul];refine⟨rfl,rfl,rfl,Cq.refl _ _,fun j hj=>Aq _ _ (by rintro rfl;exact hj EX),?_,?_,?_,?_,?_,.inl ⟨A3 _ _ _,rfl,rfl,none,rfl⟩,?_⟩
   ·intro j bx hm;simp at hm;rw[hm.2];trivial
   ·intro j bx hm;simp at hm;obtain⟨rfl,rfl⟩:=hm;exact .inl ⟨A3 _ _ _,rfl⟩
   ·intro j bx k q hm hq;simp at hm;obtain⟨rfl,rfl⟩:=hm;rw[A3] at hq;cases hq
   ·intro j bx j' bx' k q q' hm Qx _ _;simp at hm Qx;rw[hm.1,Qx.1]
   ·intro j cells hm;simp at hm
   ·intro j hj;simp[B8,Cl,Az] at hj;subst hj;exact .inr ⟨.ar false [],by simp⟩
  ·have hr:=P4 (P:=P) (w:=w) (t:=t) (tx:=tx) (ty:=o.type) (ts:=ts) (ad:=none) (n:=0) (cap:=0) (olds:=[]) hu hdx Adl hi hz hs (.inl ⟨rfl,rfl⟩) (by omega) (by rw[Nat.zero_add];exact hby) (by omega)
   rw[←Ul] at hr;refine⟨_,_,run hr,fun Arv=>⟨Dd β d (some (w.heap.size,0)),?_⟩⟩
   have EX:s.hp d=none:=(B5 Arv).1 d _ (List.mem_singleton_self _);have hge:0+m<=grownCap w (0+m) 0 e:=grownCap_ge w (0+m) 0 e
   have DU:Im w (w.drew.alloc (.cells (([]:List Value).toArray++news.toArray++Builtin.zeroCells z.cells (grownCap w (0+m) 0 e-(0+m))) e)) (([]:List Value).toArray++news.toArray++Builtin.zeroCells z.cells (grownCap w (0+m) 0 e-(0+m))) e:=
    ⟨rfl,rfl,rfl,fun k hk=>Below.heap_alloc w.drew _ k hk,by show (w.heap.push _).size=_;simp,(0,0),by show (w.heap.push _)[w.heap.size]?=_;simp,.inl rfl⟩
   have Agg:(([]:List Value).toArray++news.toArray++Builtin.zeroCells z.cells (grownCap w (0+m) 0 e-(0+m))).size=grownCap w (0+m) 0 e*i.size:=by
    simp only[Array.size_append,List.size_toArray,size_zeroCells,hzs,MR,List.length_nil,←Nat.add_mul];rw[Nat.zero_add (m*i.size),←Nat.add_mul]
    congr 1
    omega
   refine V3 (s:=⟨s.tm,Ag s.hp []⟩) DU EX trivial ?_ (fun cells hx=>by cases hx) ?_ (by intro j hj;simp[B8,Cl,Az] at hj;exact .inr hj)
   ·refine .inr ⟨w.heap.size,0,A3 _ _ _,?_,fun _ j _ hj=>?_,(fun q=>by cases q)⟩
    ·exact SK (pre:=[]) DU (Aj8 (s:=⟨s.tm,Ag s.hp []⟩) EX) trivial hs.rep (by simp) hs.one
    ·rw[DU.bsz] at hj;exact DU.frozen hj
   ·refine .inr ⟨w.heap.size,0,0,grownCap w (0+m) 0 e,A3 _ _ _,by rw[Nat.zero_add],.inl rfl,by omega,?_,by rw[DU.size];omega⟩
    rw[DU.bsz,Agg];omega
 ·cases hk
theorem Ad1 {lo hi:Option Operand}{y3:Operand}{k3:IntKind}{len cap l u m:Nat}(hl:(lo=none∧l=0)∨∃y k,lo=some y∧a.eval y=.int k (l:Int))
  (hu:∃y k,hi=some y∧a.eval y=.int k (u:Int)) (hm:a.eval y3=.int k3 (m:Int)) (h1:l<=u)(h2:u<=m)(h3:m<=cap):
  (Instr.sliceBounds true len cap (lo.map a.eval) (hi.map a.eval) (some (a.eval y3))).run P w=.ok (l,u,m) w:=by
 obtain⟨y,k,rfl,hy⟩:=hu;rcases hl with⟨rfl,rfl⟩|⟨y',k',rfl,hy'⟩
 ·simp[Instr.sliceBounds,Instr.sliceBound,asIntOf,hy,hm,h2,h3]
 ·simp[Instr.sliceBounds,Instr.sliceBound,asIntOf,hy,hy',hm,h1,h2,h3]
theorem ZY (h:B3 N w0 X0 Y β s a w){t:TypeId}{x m:Operand}{lo hi:Option Operand}(ho:o.op=.slice t x lo hi (some m)) {d:Nat}{K:PV->List (Nat × Bx)->Option R}
  (hk:Zy P d t (Cw s.tm x) (lo.map (Cw s.tm)) (hi.map (Cw s.tm)) (some (Cw s.tm m)) K=some r):∃v nw,K v nw=some r∧F8 P a w o Y β s v [] nw:=by
 have hx:=Dy h x;unfold Zy at hk;split at hk
 ·rename_i e hu;obtain⟨hb,hk⟩:=Ax hk;simp only[Bool.and_eq_true] at hb;obtain⟨T7,hhi⟩:=hb
  obtain⟨yh,rfl⟩:∃y,hi=some y:=by
   cases hi with
   |none=>simp at hhi
   |some y=>exact⟨y,rfl⟩
  have fin:∀{ad:Option Addr} {n cap l u q:Nat},a.eval x=.slice ad n cap->n<=cap->((lo=none∧l=0)∨∃y k,lo=some y∧a.eval y=.int k (l:Int))->((some yh=none∧u=n)∨∃y k,some yh=some y∧a.eval y=.int k (u:Int))->(((some m:Option Operand)=none∧q=n)∨∃y k,(some m:Option Operand)=some y∧a.eval y=.int k (q:Int)) ->
    (Nat.beq l q&&Nat.beq u q&&decide (q<=n))=true->F8 P a w o Y β s (.view d (Bm P e) 0 0) [] [(d,.ar false [])]:=by
   intro ad n cap l u q D6 hn hl Mw hq hb;simp only[Bool.and_eq_true,decide_eq_true_eq] at hb;obtain⟨⟨b1,b2⟩,b3⟩:=hb;have b1:=Nat.eq_of_beq_eq_true b1;have b2:=Nat.eq_of_beq_eq_true b2;subst b1 b2
   have hu2:∃y k,(some yh:Option Operand)=some y∧a.eval y=.int k (u:Int):=by
    rcases Mw with⟨e,_⟩|e
    ·cases e
    ·exact e
   obtain⟨k3,hm3⟩:∃k,a.eval m=.int k (u:Int):=by
    rcases hq with⟨e,_⟩|⟨y,k,e,q⟩
    ·cases e
    ·cases e;exact⟨k,q⟩
   have hbr:=Ad1 (P:=P) (w:=w) (len:=n) (cap:=cap) hl hu2 hm3 (Nat.le_refl _) (Nat.le_refl _) (by omega)
   have Dp:∃ad',(execOp a.eval o).run P w=.ok (.value (.slice ad' 0 0)) w:=by
    unfold execOp;rw[ho];cases ad with
    |none=>exact⟨none,by simp[Instr.sliceAt,Instr.slice,run_underlying hu,D6,hbr,Dn T7] at hbr ⊢⟩
    |some p=>exact⟨some p,by simp[Instr.sliceAt,Instr.slice,run_underlying hu,D6,hbr,Dn T7] at hbr ⊢⟩
   obtain⟨ad',Dp⟩:=Dp;refine⟨by simp,_,_,Dp,fun Arv=>⟨Dd β d none,?_⟩⟩
   have EX:s.hp d=none:=(B5 Arv).1 d _ (List.mem_singleton_self _);refine⟨rfl,rfl,rfl,Cq.refl _ _,fun j hj=>Aq _ _ (by rintro rfl;exact hj EX),?_,?_,?_,?_,?_,.inl ⟨A3 _ _ _,rfl,rfl,ad',rfl⟩,?_⟩
   ·intro j bx hm;simp at hm;rw[hm.2];trivial
   ·intro j bx hm;simp at hm;obtain⟨rfl,rfl⟩:=hm;exact .inl ⟨A3 _ _ _,rfl⟩
   ·intro j bx k q hm hq;simp at hm;obtain⟨rfl,rfl⟩:=hm;rw[A3] at hq;cases hq
   ·intro j bx j' bx' k q q' hm Qx _ _;simp at hm Qx;rw[hm.1,Qx.1]
   ·intro j cells hm;simp at hm
   ·intro j hj;simp[B8,Cl,Az] at hj;subst hj;exact .inr ⟨.ar false [],by simp⟩
  split at hk
  ·rename_i id es off n e';rw[e'] at hx;obtain⟨LL,hk⟩:=Ax hk;obtain⟨l,hk,hl⟩:=E9 h hk;obtain⟨u,hk,Mw⟩:=E9 h hk;obtain⟨q,hk,hq⟩:=E9 (x:=some m) h hk;obtain⟨hb,hk⟩:=Ax hk;refine⟨_,_,hk,?_⟩;rcases hx with⟨hβ,_,rfl,ad,D6⟩|⟨b,ob,y,cap,hβ,D6,hy,hn,NR,Cc⟩
   ·exact fin D6 (Nat.le_refl _) hl Mw hq hb
   ·exact fin D6 hn hl Mw hq hb
  ·obtain⟨z,n,c,hk,hp⟩:=Ho hk;obtain⟨l,hk,hl⟩:=E9 h hk;obtain⟨u,hk,Mw⟩:=E9 h hk;obtain⟨q,hk,hq⟩:=E9 (x:=some m) h hk;obtain⟨hb,hk⟩:=Ax hk;refine⟨_,_,hk,?_⟩;rcases slice_form hp hx with⟨D6,rfl,rfl⟩|⟨ad,cap,D6,_,hn,_⟩|⟨ad,cap,D6,_,rfl,rfl⟩
   ·exact fin D6 (Nat.le_refl _) hl Mw hq hb
   ·exact fin D6 hn hl Mw hq hb
   ·exact fin D6 (Nat.zero_le _) hl Mw hq hb
 ·cases hk
end
open Go.RowKit
section
variable {R:Type} {r:R} {P:Program} {N:Nat} {w0:World} {X0:Fz} {Y:Nat->Prop} {β β':Bt} {s:St} {a:Act} {w w':World} {o:Oper} {A:Nat->Prop}
theorem Aph (h:B3 N w0 X0 Y β s a w){G:U7}(Jr:LO P G w0 X0){C:Ji}{call:Af}(C6:∀f args res,call f args=some res->Da G P f args res){K:PV->List Nat->List (Nat × Bx)->Option R}
  (hk:TB C P N call s.tm (rd s.hp) (Ny s.hp) o K=some r):∃v fz nw,K v fz nw=some r∧RY P a w o Y β s v fz nw:=by
 have one:∀{K':PV->Option R},(∀v,K' v=some r->K v [] []=some r)->(∃v,K' v=some r∧F8 P a w o Y β s v [] [])->∃v fz nw,K v fz nw=some r∧RY P a w o Y β s v fz nw:=
  fun hK ⟨v,h1,h2⟩=>⟨v,[],[],hK v h1,TC h2⟩
 have many:(∃v fz nw,K v fz nw=some r∧F8 P a w o Y β s v fz nw)->∃v fz nw,K v fz nw=some r∧RY P a w o Y β s v fz nw:=
  fun ⟨v,fz,nw,h1,h2⟩=>⟨v,fz,nw,h1,TC h2⟩
 unfold TB at hk;split at hk
 ·rename_i x ho;exact one (fun _ h=>h) (GL (K:=fun p=>K p [] []) h (Ak9 ho) hk)
 ·rename_i x ho;exact one (fun _ h=>h) (GL (K:=fun p=>K p [] []) h (Ad4 ho) hk)
 ·rename_i c x y ho;exact one (fun _ h=>h) (Aim (K:=fun p=>K p [] []) h ho hk)
 ·rename_i t ho;obtain⟨d,hd,hk⟩:=Dt hk;exact many (Adb ho hk)
 ·rename_i t x ho;obtain⟨d,hd,hk⟩:=Dt hk;exact many (Alq h ho hk)
 ·rename_i t ps ho;exact one (fun _ h=>h) (Aci (K:=fun p=>K p [] []) h ho hk)
 ·rename_i t n ps ho;obtain⟨d,hd,hk⟩:=Dt hk;exact many (IW h ho hk)
 ·rename_i t x ho;exact one (fun _ h=>h) (Af0 (K:=fun p=>K p [] []) h ho hk)
 ·rename_i x ho;exact one (fun _ h=>h) (OW (K:=fun p=>K p [] []) h ho hk)
 ·rename_i op t x y ty ho;exact one (fun _ h=>h) (Aeo (K:=fun p=>K p [] []) h ho hk)
 ·rename_i op t x ho;exact one (fun _ h=>h) (Ag9 (K:=fun p=>K p [] []) h ho hk)
 ·rename_i src dst x ho;obtain⟨v,nw,hk,hg⟩:=Agl h ho hk;obtain⟨d,hd,hk⟩:=Dt hk;exact⟨v,[],nw,hk,TC hg⟩
 ·rename_i t x y ho;obtain⟨d,hd,hk⟩:=Dt hk;exact many (Age h ho hk)
 ·rename_i t x lo hi mx ho;split at hk
  ·exact one (fun _ h=>h) (Acz (K:=fun p=>K p [] []) h ho hk)
  ·obtain⟨d,hd,hk⟩:=Dt hk;obtain⟨v,nw,h1,h2⟩:=ZY h ho hk;exact⟨v,[],nw,h1,TC h2⟩
 ·rename_i t x f ho;exact one (fun _ h=>h) (NP (K:=fun p=>K p [] []) h ho hk)
 ·rename_i t x f ho;exact one (fun _ h=>h) (Ae0 (K:=fun p=>K p [] []) h ho hk)
 ·rename_i t x i ho;exact one (fun _ h=>h) (OA (K:=fun p=>K p [] []) h ho hk)
 ·rename_i t x i ho;exact one (fun _ h=>h) (Ad7 (K:=fun p=>K p [] []) h ho hk)
 ·rename_i x i ho;exact one (fun _ h=>h) (VM (K:=fun p=>K p [] []) h ho hk)
 ·rename_i c ho;split at hk
  ·rename_i hc;exact one (fun _ h=>h) (Akx (K:=fun p=>K p [] []) h ho hc hk)
  ·rename_i hc;exact one (fun _ h=>h) (Alh (K:=fun p=>K p [] []) h ho hc hk)
  ·rename_i hc;exact one (fun _ h=>h) (Alw (K:=fun p=>K p [] []) h ho hc hk)
  ·rename_i hc;exact one (fun _ h=>h) (Am8 (K:=fun p=>K p [] []) h ho hc hk)
  ·rename_i hc;obtain⟨hnb,hk⟩:=Ax hk;obtain⟨d,hd,Eb⟩:=Dt hk;obtain⟨b,xs,TT,Gi⟩:=Bl Eb;obtain⟨x,ys,hys,Un⟩:=Bl Gi;obtain⟨NI,T8⟩:=Ef Un;obtain⟨t,us,hus,WS⟩:=Bl T8;obtain⟨tx,vs,Ui,hk6⟩:=Bl WS;rw[hys,NI] at TT;rw[Ui] at hus;obtain⟨v,nw,h1,h2⟩:=Aau h ho hc hnb hd TT hus hk6;exact⟨v,[],nw,h1,TC h2⟩
  ·rename_i f hc;exact QW h Jr C6 (fun hf hb=>GC ho hc Jr.ng hf hb) hk
  ·rename_i t hc;obtain⟨f,hf0,Eb⟩:=Aup hk;have ht:a.eval (.tmp t)=.func (.func f) #[] #[]:=Df h (x:=.tmp t) hf0;exact QW h Jr C6 (fun hf hb=>Amv ho hc ht Jr.ng hf hb) Eb
  ·cases hk
 ·cases hk
theorem Ahx (h:B3 N w0 X0 Y β s a w){G:U7}(Jr:LO P G w0 X0){C:Ji}{call:Af}(C6:∀f args res,call f args=some res->Da G P f args res){K:St->Option R}
  (hk:(TB C P N call s.tm (rd s.hp) (Ny s.hp) o fun v fz nw=>IC N s o.dst v fz nw K)=some r):
  ∃s',K s'=some r∧∀(next:Act->World->Prop) (Q:Exit->Act->World->Prop),(∀a' w' β',B3 N w0 X0 Y β' s' a' w'->next a' w')->o.wp P a w next Q:=by
 obtain⟨v,fz,nw,hk,JB,hg⟩:=Aph h Jr C6 hk;unfold IC at hk;obtain⟨hb,hk⟩:=Ax hk;simp only[Bool.and_eq_true] at hb;refine⟨_,hk,fun next Q hn=>hg next Q fun val w' Gv=>?_⟩
 obtain⟨β',st⟩:=Gv hb.2
 have Ul:Ck (Ag s.hp fz) nw=true:=by
  have:∀nw,Ck s.hp nw=true->Ck (Ag s.hp fz) nw=true:=by
   intro nw
   induction nw with
   |nil=>intro _;rfl
   |cons q nw ih=>
    obtain⟨i,b⟩:=q;intro hq;simp only[Ck,Bool.and_eq_true,Option.isNone_iff_eq_none] at hq ⊢;exact⟨⟨Fk.2 hq.1.1,hq.1.2⟩,ih hq.2⟩
  exact this nw hb.2
 exact hn _ _ β' ((h.freeze JB).stepR hb.1 Ul st)
end
open Go.RowKit
section
variable {R:Type} {r:R} {P:Program} {N:Nat} {w0:World} {X0:Fz} {Y:Nat->Prop} {β β':Bt} {s:St} {a:Act} {w w':World} {o:Oper} {A:Nat->Prop}
structure Gb (b:Nat) (w w':World):Prop where
 os:w'.os=w.os
 tape:w'.tape=w.tape
 output:w'.output=w.output
 size:w'.heap.size=w.heap.size
 other:∀k,k≠b->w'.heap[k]?=w.heap[k]?
 bs:bsz w' b=bsz w b
 frz:∀j,w'.frozen? ⟨b,j,none⟩=w.frozen? ⟨b,j,none⟩
theorem Gb.refl (b:Nat)(w:World):Gb b w w:=⟨rfl,rfl,rfl,rfl,fun _ _=>rfl,rfl,fun _=>rfl⟩
theorem Gb.setCell (b j:Nat)(v:Value)(w:World):Gb b w (w.setCell ⟨b,j,none⟩ v):=by
 refine⟨rfl,rfl,rfl,by simp[World.setCell],fun k hk=>Below.heap_setCell w ⟨b,j,none⟩ v k hk,?_,fun i=>?_⟩
 ·simp only[bsz,World.setCell,Array.getElem?_modify];simp only[if_true];cases h:w.heap[b]? with
  |none=>simp
  |some x=>cases x<;>simp
 ·simp only[World.frozen?,World.setCell,Array.getElem?_modify,if_true];cases h:w.heap[b]? with
  |none=>simp
  |some x=>cases x<;>simp
theorem Gb.trans {b:Nat}{w'':World}(h:Gb b w w')(h':Gb b w' w''):Gb b w w'':=
 ⟨h'.os.trans h.os,h'.tape.trans h.tape,h'.output.trans h.output,h'.size.trans h.size,fun k hk=>(h'.other k hk).trans (h.other k hk),h'.bs.trans h.bs,fun j=>(h'.frz j).trans (h.frz j)⟩
theorem Gb.setCells (b:Nat):∀(vs:List Value)(j:Nat)(w:World),Gb b w (w.setCells b j vs)
 |[],_,w=>Gb.refl b w
 |v::vs,j,w=>(Gb.setCell b j v w).trans (Gb.setCells b vs (j+1) _)
theorem A4q {hp:Nat->Option Bx}{id:Nat}{bx bx':Bx}(h0:hp id=some bx)(hl:Cv (some bx)) (Ou:Cv (some bx')) (b:Nat):DF (Dd hp id (some bx')) β b↔DF hp β b:=by
 constructor
 ·rintro⟨i,o,h1,h2⟩
  by_cases e:i=id
  ·subst e;exact⟨i,o,by rw[h0];exact hl,h2⟩
  ·rw[Aq _ _ e] at h1;exact⟨i,o,h1,h2⟩
 ·rintro⟨i,o,h1,h2⟩
  by_cases e:i=id
  ·subst e;exact⟨i,o,by rw[A3];exact Ou,h2⟩
  ·exact⟨i,o,by rw[Aq _ _ e];exact h1,h2⟩
theorem B3.write (h:B3 N w0 X0 Y β s a w){id b ob:Nat}{bx bx':Bx}(h0:s.hp id=some bx)(hl:Cv (some bx)) (Ou:Cv (some bx')) (hβ:β id=some (b,ob)) (hw:Gb b w w')
  (Nv:U5 w' (De s.hp β Y) β id bx') (hr:∀cells,bx'=.st cells->∀c∈cells,∀i∈Az c,s.hp i≠none)
  (hK:∀c',bx'=.st c'->∃c,bx=.st c)(hR:∀j,BR bx' ob j->BR bx ob j)(hO:∀j,¬BR bx ob j->w'.cell? ⟨b,j,none⟩=w.cell? ⟨b,j,none⟩):B3 N w0 X0 Y β ⟨s.tm,Dd s.hp id (some bx')⟩ a w':=by
 have hX:=A4q (β:=β) h0 hl Ou;have hA:∀k,De (Dd s.hp id (some bx')) β Y k↔De s.hp β Y k:=fun k=>⟨fun x=>x.imp (hX k).1 (fun y=>y),fun x=>x.imp (hX k).2 (fun y=>y)⟩
 have hAb:De s.hp β Y b:=.inl ⟨id,ob,by rw[h0];exact hl,hβ⟩
 have Gv:Cq (De s.hp β Y) w w':=⟨by rw[hw.size];exact Nat.le_refl _,fun k _ hk=>hw.other k (fun e=>hk (e ▸ hAb)),fun k _=>by
  by_cases e:k=b
  ·subst e;rw[hw.bs];exact Nat.le_refl _
  ·unfold bsz;rw[hw.other k e];exact Nat.le_refl _⟩
 have Ko:∀i,Dd s.hp id (some bx') i≠none↔s.hp i≠none:=by
  intro i;by_cases e:i=id
  ·subst e;rw[A3,h0];simp
  ·rw[Aq _ _ e]
 have hAe:De (Dd s.hp id (some bx')) β Y=De s.hp β Y:=funext fun k=>propext (hA k)
 have GF:∀i,Cv (Dd s.hp id (some bx') i)->Cv (s.hp i):=by
  intro i hi;by_cases e:i=id
  ·subst e;rw[h0];exact hl
  ·rw[Aq _ _ e] at hi;exact hi
 refine⟨h.dfr,h.tsz,h.tmo,fun i hi=>?_,fun i bi hb=>?_,fun i i' k x y h1 h2=>h.inj i i' k x y (GF i h1) (GF i' h2),fun i k x hi hk=>?_,fun i hi j hj=>(Ko j).2 (h.wfT i hi j hj),
  fun i cells hc c hcm j hj=>(Ko j).2 ?_,fun k hk=>h.ownd k ((hX k).1 hk),fun i bi k x NZ hli hk Cc j hj=>?_,fun i hi=>⟨(Ko _).2 (h.pin i hi).1,(h.pin i hi).2⟩,fun i c k x hc hk Cc=>?_,fun k hk x=>h.Yx k hk ((hX k).1 x),h.Ylt,?_⟩
 ·rw[hAe];exact (h.tms i hi).step Gv (fun _ _ x=>x) (fun _ _=>rfl)
 ·rw[hAe];simp only at hb;by_cases e:i=id
  ·subst e;rw[A3] at hb;cases hb;exact Nv
  ·rw[Aq _ _ e] at hb;have NZ:=h.box i bi hb;cases bi with
   |st c=>
    obtain⟨k,x,h1,h2,h3⟩:=NZ
    have hk:k≠b:=by
     rintro rfl
     exact e (h.inj i id k x ob (by rw[hb];trivial) (by rw[h0];exact hl) h1 hβ)
    refine⟨k,x,h1,fun j c hj=>?_,fun j hj=>?_⟩
    ·obtain⟨v,hv,hc⟩:=h2 j c hj;exact⟨v,by rw[World.cell?_of_block (w:=w) (hw.other k hk)];exact hv,hc.step Gv (fun _ _ x=>x) (fun _ _=>rfl)⟩
    ·rw[World.frozen?_of_block (w:=w) (hw.other k hk)];exact h3 j hj
   |ar fz c=>
    rcases NZ with hn|⟨k,x,h1,h2,h3,h4⟩
    ·exact .inl hn
    ·have hk:k≠b:=by
      rintro rfl
      cases fz with
      |true=>exact h4 rfl hAb
      |false=>exact e (h.inj i id k x ob (by rw[hb];trivial) (by rw[h0];exact hl) h1 hβ)
     refine .inr ⟨k,x,h1,fun j c hj=>?_,fun ef j hj X5=>?_,h4⟩
     ·obtain⟨v,hv,h5,hc⟩:=h2 j c hj;exact⟨v,by rw[World.cell?_of_block (w:=w) (by rw[Hh];exact hw.other k hk)];exact hv,h5,hc.step Gv (fun _ _ x=>x)⟩
     ·rw[World.frozen?_of_block (w:=w) (hw.other k hk)];refine h3 ef j hj ?_;unfold bsz at X5 ⊢;rw[hw.other k hk] at X5;exact X5
   |mv=>trivial
 ·rw[hw.size];exact h.blt i k x ((Ko i).1 hi) hk
 ·simp only at hc;by_cases e:i=id
  ·subst e;rw[A3] at hc;injection hc with hc;exact hr cells hc c hcm j hj
  ·rw[Aq _ _ e] at hc;exact h.wfB i cells hc c hcm j hj
 ·simp only at NZ;by_cases e:i=id
  ·subst e;rw[A3] at NZ;cases NZ;rw[hβ] at hk;cases hk;exact h.rngB i bx b ob h0 hl hβ Cc j (hR j hj)
  ·rw[Aq _ _ e] at NZ;exact h.rngB i bi k x NZ hli hk Cc j hj
 ·simp only at hc;by_cases e:i=id
  ·subst e;rw[A3] at hc;injection hc with hc;obtain⟨c0,rfl⟩:=hK c hc;exact h.stp i c0 k x h0 hk Cc
  ·rw[Aq _ _ e] at hc;exact h.stp i c k x hc hk Cc
 ·refine⟨hw.os.trans h.fr.os,hw.tape.trans h.fr.tape,hw.output.trans h.fr.output,?_,fun k j hk hL=>?_⟩
  ·refine⟨by rw[hw.size];exact h.fr.step.size,fun k hk hnk=>?_,fun k hk=>Nat.le_trans (h.fr.step.bs k hk) (Gv.bs k (Nat.lt_of_lt_of_le hk h.fr.step.size))⟩
   rw[hw.other k ?_]
   ·exact h.fr.step.keep k hk hnk
   ·rintro rfl
    rcases h.ownd k ⟨id,ob,by rw[h0];exact hl,hβ⟩ with hx|hx
    ·exact hnk hx
    ·omega
  ·by_cases e:k=b
   ·subst e;rw[hO j (fun hj=>hL (h.rngB id bx k ob h0 hl hβ hk j hj)),hw.frz]
    exact h.fr.rng k j hk hL
   ·have hc:w'.cell? ⟨k,j,none⟩=w.cell? ⟨k,j,none⟩:=World.cell?_of_block (w:=w) (hw.other k e);have hf:w'.frozen? ⟨k,j,none⟩=w.frozen? ⟨k,j,none⟩:=World.frozen?_of_block (w:=w) (hw.other k e);rw[hc,hf];exact h.fr.rng k j hk hL
theorem Wm {c cs:List PV}{off j:Nat}{p:PV}(AK:off+cs.length<=c.length)(h:(Bq c cs off)[j]?=some p):
  (off<=j∧j<off+cs.length∧cs[j-off]?=some p)∨((j<off∨off+cs.length<=j)∧c[j]?=some p):=by
 unfold Bq at h;by_cases h1:j<off
 ·rw[List.append_assoc,List.getElem?_append_left (by simp;omega),List.getElem?_take_of_lt h1] at h
  exact .inr ⟨.inl h1,h⟩
 ·by_cases h2:j<off+cs.length
  ·rw[List.getElem?_append_left (by simp;omega),List.getElem?_append_right (by simp;omega)] at h
   simp only[List.length_take,Nat.min_eq_left (by omega:off<=c.length)] at h
   exact .inl ⟨by omega,h2,h⟩
  ·rw[List.getElem?_append_right (by simp;omega)] at h
   simp only[List.length_append,List.length_take,Nat.min_eq_left (by omega:off<=c.length),List.getElem?_drop] at h
   rw[show off+cs.length+(j-(off+cs.length))=j from by omega] at h
   exact .inr ⟨.inr (by omega),h⟩
theorem W8 {c cs:List PV}{off:Nat}(AK:off+cs.length<=c.length):(Bq c cs off).length=c.length:=by
 simp[Bq];omega
theorem LG {t:TypeId}{b j:Nat}{v:Value}(Lw:(P.info? t).map (·.size)=some v.cells.size) (hc:∀i,i<v.cells.toList.length->(w.cell? ⟨b,j+i,none⟩).isSome=true)
  (hf:∀i,i<v.cells.toList.length->w.frozen? ⟨b,j+i,none⟩=false)(h1:∀u∈v.cells.toList,u.oneCell'=true):(Instr.storeAt t (.pointer (some ⟨b,j,none⟩)) v).run P w=.ok () (w.setCells b j v.cells.toList):=by
 have:=run_storeCells_cells (P:=P) b j v.cells.toList 0 w (fun i hi=>by simpa using hc i hi) (fun i hi=>by simpa using hf i hi) h1
 simp only[Instr.storeAt,Instr.sureAddr,storeVar,Sem.run_bind,Sem.run_pure,Result.andThen_ok,Oe Lw]
 simpa using this
theorem Ad5 (h:B3 N w0 X0 Y β s a w){t:TypeId}{x y:Operand}(ho:o.op=.store t x y)(hd:o.dst=none){K:St->Option R}(hk:IH P s t (Cw s.tm x) (Cw s.tm y) K=some r):
  ∃s',K s'=some r∧∀(next:Act->World->Prop) (Q:Exit->Act->World->Prop),(∀a' w' β',B3 N w0 X0 Y β' s' a' w'->next a' w')->o.wp P a w next Q:=by
 have hx:=Dy h x;have TP:=G6 h x
 have run:∀{b j:Nat},a.eval x=.pointer (some ⟨b,j,none⟩)->(Instr.storeAt t (.pointer (some ⟨b,j,none⟩)) (a.eval y)).run P w=.ok () (w.setCells b j (a.eval y).cells.toList) ->
   ∀(next:Act->World->Prop) (Q:Exit->Act->World->Prop),next a (w.setCells b j (a.eval y).cells.toList)->o.wp P a w next Q:=by
  intro b j D6 hr next Q hn;unfold Oper.wp execOp;rw[ho];simp only[Sem.run_bind,D6,hr,Result.andThen_ok,Sem.run_pure];show next (a.put o.dst undef) _;rw[hd];exact hn
 unfold IH at hk;split at hk
 ·rename_i id off e;rw[e] at hx TP;obtain⟨b,ob,hβ,D6⟩:=hx;split at hk
  ·rename_i c h0;obtain⟨hb,hk⟩:=Ax hk;simp only[Bool.and_eq_true,decide_eq_true_eq] at hb;obtain⟨⟨hok,hl⟩,AK⟩:=hb;have hl:=Nat.eq_of_beq_eq_true hl;obtain⟨cs,hk,X6,h2,h1,hr,_⟩:=Ai9 (Dy h y) hl hk;obtain⟨_,A0c,Lw⟩:=Ve hok;have hvl:=h2.len;obtain⟨b',o',Ib,Ot,hb3⟩:=h.box id _ h0;rw[hβ] at Ib;simp at Ib;obtain⟨rfl,rfl⟩:=Ib
   have hcell:∀i,i<(a.eval y).cells.toList.length->(w.cell? ⟨b,ob+off+i,none⟩).isSome=true:=by
    intro i hi;obtain⟨v,hv,_⟩:=Ot (off+i) _ (List.getElem?_eq_getElem (by omega))
    rw[Nat.add_assoc,hv];rfl
   have Dp:=LG (P:=P) (t:=t) (w:=w) (b:=b) (j:=ob+off) (v:=a.eval y) (by rw[Lw,←A0c,←X6,hvl];simp) hcell (fun i hi=>by rw[Nat.add_assoc];exact hb3 _ (by omega)) h1
   refine⟨_,hk,fun next Q hn=>run D6 Dp next Q (hn _ _ β ?_)⟩
   refine h.write h0 trivial trivial hβ (Gb.setCells b _ _ w) ?_ ?_ (fun _ _=>⟨_,rfl⟩) (fun j hj=>by
    have hj:ob<=j∧j<ob+(Bq c cs off).length:=hj;rw[W8 (by omega)] at hj
    exact hj) (fun j hj=>by
    refine World.cell?_setCells_out b _ _ w ⟨b,j,none⟩ (fun _ _=>?_)
    have hj:¬(ob<=j∧j<ob+c.length):=hj;show j<ob+off∨ob+off+_<=j;omega)
   ·have Gv:Cq (De s.hp β Y) w (w.setCells b (ob+off) (a.eval y).cells.toList):=by
     have hw:=Gb.setCells b (a.eval y).cells.toList (ob+off) w;have hAb:De s.hp β Y b:=.inl ⟨id,ob,by rw[h0];trivial,hβ⟩
     exact⟨by rw[hw.size];exact Nat.le_refl _,fun k _ hk=>hw.other k (fun e=>hk (e ▸ hAb)),fun k _=>by
      by_cases e:k=b
      ·subst e;rw[hw.bs];exact Nat.le_refl _
      ·unfold bsz;rw[hw.other k e];exact Nat.le_refl _⟩
    refine⟨b,ob,hβ,fun j p hj=>?_,fun j hj=>?_⟩
    ·rcases Wm (by omega) hj with⟨h3,h4,h5⟩|⟨h3,h5⟩
     ·obtain⟨u,hu,hcu⟩:=h2.get h5;have Cc:j-off<(a.eval y).cells.toList.length:=by omega
      refine⟨u,?_,hcu.step Gv (fun _ _ x=>x) (fun _ _=>rfl)⟩
      have:=World.cell?_setCells_in b (a.eval y).cells.toList (ob+off) w hcell (j-off) Cc;rw[show ob+j=ob+off+(j-off) from by omega,this]
      rw[List.getElem?_eq_getElem Cc] at hu;exact hu
     ·obtain⟨v,hv,ML⟩:=Ot j p h5;refine⟨v,?_,ML.step Gv (fun _ _ x=>x) (fun _ _=>rfl)⟩
      rw[World.cell?_setCells_out b _ _ w ⟨b,ob+j,none⟩ (fun _ _=>by show ob+j<ob+off∨ob+off+_<=ob+j;omega)]
      exact hv
    ·rw[W8 (by omega)] at hj
     rw[(Gb.setCells b _ _ w).frz];exact hb3 j hj
   ·intro cells hx c' W9 i hi;injection hx with hx;subst hx;unfold Bq at W9;rcases List.mem_append.1 W9 with W9|W9
    ·rcases List.mem_append.1 W9 with W9|W9
     ·exact h.wfB id c h0 c' (List.mem_of_mem_take W9) i hi
     ·exact G6 h y i (hr c' W9 i hi)
    ·exact h.wfB id c h0 c' (List.mem_of_mem_drop W9) i hi
  ·rename_i c h0;obtain⟨hb,hk⟩:=Ax hk;simp only[Bool.and_eq_true,decide_eq_true_eq] at hb;obtain⟨hok,AK⟩:=hb;obtain⟨cs,m,hk,X6,MZ,hT,hF,hm,hv⟩:=Vf h hk;obtain⟨hnm,hk⟩:=Ax hk
   have hnm:id ∉ m:=by
    intro hi;have:m.any (Nat.beq id)=true:=List.any_eq_true.2 ⟨id,hi,Nat.beq_refl id⟩;rw[this] at hnm;cases hnm
   obtain⟨_,A0c,Lw⟩:=Ve hok
   have Au5:Bw (Cj w (De s.hp β Y) β) (cellsOf (Cw s.tm y)) (a.eval y).cells.toList:=by
    have hyv:=Dy h y;cases hp:Cw s.tm y with
    |agg ps=>
     rw[hp] at hyv;obtain⟨vs,hay,h2⟩:=hyv;rw[hay];exact h2
    |sc v=>
     rw[hp] at hyv hF
     have Aov:(a.eval y).oneCell'=true:=by
      have:=hv m (fun _ hi=>hi) hm [a.eval y] (by rw[hp];exact⟨hyv,trivial⟩)
      exact this.2 _ (by simp)
     rw[Ra Aov];exact⟨hyv,trivial⟩
    |lst z es n cc=>
     rw[hp] at hyv hF
     have Aov:(a.eval y).oneCell'=true:=by
      have:=hv m (fun _ hi=>hi) hm [a.eval y] (by rw[hp];exact⟨hyv,trivial⟩)
      exact this.2 _ (by simp)
     rw[Ra Aov];exact⟨hyv,trivial⟩
    |view i es oo n=>
     rw[hp] at hyv hF
     have Aov:(a.eval y).oneCell'=true:=by
      have:=hv m (fun _ hi=>hi) hm [a.eval y] (by rw[hp];exact⟨hyv,trivial⟩)
      exact this.2 _ (by simp)
     rw[Ra Aov];exact⟨hyv,trivial⟩
    |own es n cc=>
     have hx0:=hF (Cw s.tm y) (by rw[hp];exact List.mem_singleton_self _)
     rw[hp] at hx0;exact hx0.elim
    |ptr i cc=>
     have hx0:=hF (Cw s.tm y) (by rw[hp];exact List.mem_singleton_self _)
     rw[hp] at hx0;exact hx0.elim
    |iptr i cc=>
     have hx0:=hF (Cw s.tm y) (by rw[hp];exact List.mem_singleton_self _)
     rw[hp] at hx0;exact hx0.elim
    |pbox cc=>
     have hx0:=hF (Cw s.tm y) (by rw[hp];exact List.mem_singleton_self _)
     rw[hp] at hx0;exact hx0.elim
    |tup cc=>
     have hx0:=hF (Cw s.tm y) (by rw[hp];exact List.mem_singleton_self _)
     rw[hp] at hx0;exact hx0.elim
    |ub=>
     have hx0:=hF (Cw s.tm y) (by rw[hp];exact List.mem_singleton_self _)
     rw[hp] at hx0;exact hx0.elim
    |top=>
     have hx0:=hF (Cw s.tm y) (by rw[hp];exact List.mem_singleton_self _)
     rw[hp] at hx0;exact hx0.elim
   obtain⟨h2,h1⟩:=hv m (fun _ hi=>hi) hm _ Au5
   have hvl:=h2.len;have hf:=h.freeze hm;have h0':Ag s.hp m id=some (.ar false c):=by rw[Co,if_neg hnm];exact h0
   rcases hf.box id _ h0' with⟨hn,_⟩|⟨b',o',Ib,Ot,hb3,_⟩
   ·rw[hβ] at hn;cases hn
   rw[hβ] at Ib;simp at Ib;obtain⟨rfl,rfl⟩:=Ib
   have hcell:∀i,i<(a.eval y).cells.toList.length->(w.cell? ⟨b,ob+off+i,none⟩).isSome=true:=by
    intro i hi;obtain⟨v,hv,_⟩:=Ot (off+i) _ (List.getElem?_eq_getElem (by omega))
    rw[Eu] at hv;rw[Nat.add_assoc,hv];rfl
   have Dp:=LG (P:=P) (t:=t) (w:=w) (b:=b) (j:=ob+off) (v:=a.eval y) (by rw[Lw,←A0c,←X6,hvl];simp) hcell (fun i hi=>by
    obtain⟨u,hu⟩:=Option.isSome_iff_exists.1 (hcell i hi);exact hb3 rfl _ (by omega) (PQ hu)) h1
   refine⟨_,hk,fun next Q hn=>run D6 Dp next Q (hn _ _ β ?_)⟩
   refine hf.write h0' trivial trivial hβ (Gb.setCells b _ _ w) ?_ (fun cells hx=>by cases hx) (fun _ hx=>by cases hx) (fun j hj=>hj) (fun j hj=>by
    refine World.cell?_setCells_out b _ _ w ⟨b,j,none⟩ (fun _ _=>?_)
    have hj:¬(ob<=j):=hj;show j<ob+off∨ob+off+_<=j;omega)
   have Gv:Cq (De (Ag s.hp m) β Y) w (w.setCells b (ob+off) (a.eval y).cells.toList):=by
    have hw:=Gb.setCells b (a.eval y).cells.toList (ob+off) w;have hAb:De (Ag s.hp m) β Y b:=.inl ⟨id,ob,by rw[h0'];trivial,hβ⟩
    exact⟨by rw[hw.size];exact Nat.le_refl _,fun k _ hk=>hw.other k (fun e=>hk (e ▸ hAb)),fun k _=>by
     by_cases e:k=b
     ·subst e;rw[hw.bs];exact Nat.le_refl _
     ·unfold bsz;rw[hw.other k e];exact Nat.le_refl _⟩
   refine .inr ⟨b,ob,hβ,fun j p hj=>?_,fun _ j hj X5=>?_,(fun x=>by cases x)⟩
   ·rw[Eu];rcases Wm (by omega) hj with⟨h3,h4,h5⟩|⟨h3,h5⟩
    ·obtain⟨u,hu,hcu⟩:=h2.get h5;have Cc:j-off<(a.eval y).cells.toList.length:=by omega
     refine⟨u,?_,h1 u (List.mem_of_getElem? hu),hcu.step Gv (fun _ _ x=>x)⟩
     have:=World.cell?_setCells_in b (a.eval y).cells.toList (ob+off) w hcell (j-off) Cc;rw[show ob+j=ob+off+(j-off) from by omega,this]
     rw[List.getElem?_eq_getElem Cc] at hu;exact hu
    ·obtain⟨v,hv,h6,ML⟩:=Ot j p h5;rw[Eu] at hv;refine⟨v,?_,h6,ML.step Gv (fun _ _ x=>x)⟩
     rw[World.cell?_setCells_out b _ _ w ⟨b,ob+j,none⟩ (fun _ _=>by show ob+j<ob+off∨ob+off+_<=ob+j;omega)]
     exact hv
   ·rw[(Gb.setCells b _ _ w).bs] at X5;rw[(Gb.setCells b _ _ w).frz];exact hb3 rfl j hj X5
  ·cases hk
 ·cases hk
end
open Go.RowKit
theorem L8:∀{l l':List Nat},Fl (l++l')=true->Fl l=true∧Fl l'=true∧∀i∈l,i ∉ l'
 |[],l',h=>⟨rfl,h,by simp⟩
 |a::l,l',h=>by
  simp only[List.cons_append,Fl,Bool.and_eq_true,Bool.not_eq_true'] at h;obtain⟨h1,h2⟩:=h;obtain⟨h3,h4,h5⟩:=L8 h2
  have hn:∀i∈l++l',a≠i:=by
   rintro i hi rfl
   have:(l++l').any (Nat.beq a)=true:=List.any_eq_true.2 ⟨a,hi,Nat.beq_refl a⟩;rw[this] at h1;cases h1
  refine⟨?_,h4,fun i hi=>?_⟩
  ·simp only[Fl,Bool.and_eq_true,Bool.not_eq_true',h3,and_true];rw[List.any_eq_false];intro i hi e;exact hn i (by simp[hi]) (Nat.eq_of_beq_eq_true e)
  ·rcases List.mem_cons.1 hi with rfl|hi
   ·exact fun hm=>hn i (by simp[hm]) rfl
   ·exact h5 i hi
def Jt (β:Bt)(q:Nat × Nat):Option (Nat × Nat):=(β q.1).map fun p=>(p.1,p.2+q.2)
theorem Ago (β:Bt)(id:Nat):Jt β (id,0)=β id:=by
 unfold Jt;cases β id<;>rfl
section
variable {R:Type} {r:R} {P:Program} {N:Nat} {w0:World} {X0:Fz} {Y:Nat->Prop} {β β':Bt} {s:St} {a:Act} {w w':World} {o:Oper} {A:Nat->Prop}
theorem R9 {fz:List Nat}{b:Nat}(h:De (Ag s.hp fz) β Y b):De s.hp β Y b:=h.imp Ux id
theorem An2 (h:B3 N w0 X0 Y β s a w){mv:Bool}{t:CT}{p:PV}{K:PV->List Nat->List Nat->Option R}(hk:Ak0 mv s.hp t p K=some r):
  ∃c m q,K c m (Option.toList q)=some r∧isA c∧UO p∧(∀id∈m,∃f cc,s.hp id=some (.ar f cc))∧(∀id,q=some id->∃cc,s.hp id=some (.ar false cc)) ∧
   ∀fz:List Nat,(∀id∈m,id∈fz)->(∀id∈fz,∃f cc,s.hp id=some (.ar f cc))->∀v,Cj w (De s.hp β Y) β p v->Jm w (De (Ag s.hp fz) β Y) (q.bind β) c v:=by
 have frz:∀{t:CT} {p:PV} {K:PV->List Nat->List Nat->Option R},(Sy (Ny s.hp) t p fun c m=>K c m [])=some r->∃c m q,K c m (Option.toList q)=some r∧isA c∧UO p∧(∀id∈m,∃f cc,s.hp id=some (.ar f cc))∧(∀id,q=some id->∃cc,s.hp id=some (.ar false cc)) ∧
   ∀fz:List Nat,(∀id∈m,id∈fz)->(∀id∈fz,∃f cc,s.hp id=some (.ar f cc))->∀v,Cj w (De s.hp β Y) β p v->Jm w (De (Ag s.hp fz) β Y) (q.bind β) c v:=by
  intro t p K hk;obtain⟨c,m,hk,hT,hF,hm,hv⟩:=SE h hk;exact⟨c,m,none,hk,.inl hT,hF,hm,by simp,fun fz h1 h2 v hc=>Of hT (hv fz h1 h2 v hc).1⟩
 have tree:∀{t:CT} {p:PV} {K:PV->List Nat->List Nat->Option R},(∀es,t ≠ .sl es)->(JL t p fun c=>K c [] [])=some r->∃c m q,K c m (Option.toList q)=some r∧isA c∧UO p∧(∀id∈m,∃f cc,s.hp id=some (.ar f cc))∧(∀id,q=some id->∃cc,s.hp id=some (.ar false cc)) ∧
   ∀fz:List Nat,(∀id∈m,id∈fz)->(∀id∈fz,∃f cc,s.hp id=some (.ar f cc))->∀v,Cj w (De s.hp β Y) β p v->Jm w (De (Ag s.hp fz) β Y) (q.bind β) c v:=by
  intro t p K Gg hk;obtain⟨c,hk,hT,QV,hv⟩:=Q0 hk;exact⟨c,[],none,hk,.inl hT,V7 QV,by simp,by simp,fun fz h1 h2 v hc=>Of hT ((hv w _ β v hc).1.step (Cq.refl _ _) (fun b _ hb=>R9 hb))⟩
 unfold Ak0 at hk;cases t with
 |sl es=>
  dsimp only at hk;cases mv<;>simp only[cond_true,cond_false] at hk
  ·exact frz hk
  ·split at hk
   ·rename_i id es' off n;split at hk
    ·rename_i c h0;cases hb:(Nat.beq es' es&&Nat.beq off 0)<;>rw[hb] at hk<;>simp only[cond_true,cond_false] at hk
     ·exact frz hk
     ·simp only[Bool.and_eq_true] at hb;have he:=Nat.eq_of_beq_eq_true hb.1;have hof:=Nat.eq_of_beq_eq_true hb.2;subst he hof;obtain⟨hl,hk⟩:=Ax hk;refine⟨_,[],some id,hk,.inr ⟨_,_,_,rfl⟩,trivial,by simp,fun i hi=>by cases hi;exact⟨c,h0⟩,fun fz h1 h2 v hc=>?_⟩
      rcases hc with⟨h3,_,rfl,h4⟩|⟨b,ob,x,cap,h3,h4,hx,h5,h6,h7⟩
      ·exact .inl ⟨h3,rfl,by simp,h4⟩
      ·have hx:x=ob:=by rcases hx with e|⟨_,e⟩<;>omega
       subst hx;rcases h.box id _ h0 with⟨h8,_⟩|⟨b',o',h8,h9,h10,_⟩
       ·rw[h3] at h8;cases h8
       ·rw[h3] at h8;cases h8;refine .inr ⟨b,x,cap,h3,h4,h5,h6,h7,fun j p hj=>?_,h10 rfl⟩
        rw[List.getElem?_take] at hj;split at hj
        ·obtain⟨u,hu,h11,ht⟩:=h9 j p hj;exact⟨u,hu,h11,ht.step (Cq.refl _ _) (fun b _ hb=>R9 hb)⟩
        ·cases hj
    ·exact frz hk
   ·obtain⟨z,n,c,hk,hp⟩:=Ho hk;have hpF:UO p:=by rcases hp with e|⟨e,_⟩<;>(rw[e];trivial)
    cases z<;>simp only[cond_true,cond_false] at hk
    ·refine⟨_,[],none,hk,.inl trivial,hpF,by simp,by simp,fun fz h1 h2 v hc=>?_⟩
     exact Of trivial ((DD hp hc).step (Cq.refl _ _) (fun b _ hb=>R9 hb))
    ·refine⟨_,[],none,hk,.inr ⟨_,_,_,rfl⟩,hpF,by simp,by simp,fun fz h1 h2 v hc=>.inl ⟨rfl,rfl,rfl,none,?_⟩⟩
     have:=DD hp hc;cases this;rfl
 |int k=>exact tree (by simp) hk
 |bool=>exact tree (by simp) hk
 |str=>exact tree (by simp) hk
 |any=>exact tree (by simp) hk
theorem Z4 (h:B3 N w0 X0 Y β s a w){mv:Bool}:∀{ts:List CT}{ps:List PV}{K:List PV->List Nat->List Nat->Option R},LF mv s.hp ts ps K=some r ->
  ∃cs m x,∃q:Nat->Option Nat,K cs m x=some r∧cs.length=ts.length∧ps.length=ts.length∧(∀c∈cs,isA c)∧(∀p∈ps,UO p)∧(∀id∈m,∃f cc,s.hp id=some (.ar f cc))∧(∀id∈x,∃cc,s.hp id=some (.ar false cc)) ∧
   (∀j id,q j=some id->id∈x)∧(Fl x=true->∀j j' id,q j=some id->q j'=some id->j=j') ∧
   ∀fz:List Nat,(∀id∈m,id∈fz)->(∀id∈fz,∃f cc,s.hp id=some (.ar f cc))->∀vs,Bw (Cj w (De s.hp β Y) β) ps vs->∀(own:Bt) j0,(∀j,own (j0+j)=(q j).bind β)->Hf w (De (Ag s.hp fz) β Y) own j0 cs vs
 |[],[],K,hk=>⟨[],[],[],fun _=>none,hk,rfl,rfl,by simp,by simp,by simp,by simp,by simp,by simp,fun fz _ _ vs hv own j0 _=>by
   cases vs with
   |nil=>trivial
   |cons v vs=>exact hv.elim⟩
 |[],_::_,K,hk=>by cases hk
 |_::_,[],K,hk=>by cases hk
 |t::ts,p::ps,K,hk=>by
  unfold LF at hk;obtain⟨c,m,q,hk,hA,hF,hm,hq,hv⟩:=An2 h hk;obtain⟨cs,ms,xs,qs,hk,hl,Ou,hAs,hFs,OY,TT,hqx,hqi,Ui⟩:=Z4 h hk;refine⟨c::cs,m++ms,q.toList++xs,fun j=>match j with|0=>q|j+1=>qs j,hk,by simp[hl],by simp[Ou],?_,?_,?_,?_,?_,?_,?_⟩
  ·intro x hx;rcases List.mem_cons.1 hx with rfl|hx
   ·exact hA
   ·exact hAs x hx
  ·intro x hx;rcases List.mem_cons.1 hx with rfl|hx
   ·exact hF
   ·exact hFs x hx
  ·intro i hi;rcases List.mem_append.1 hi with hi|hi
   ·exact hm i hi
   ·exact OY i hi
  ·intro i hi;rcases List.mem_append.1 hi with hi|hi
   ·exact hq i (by simpa using hi)
   ·exact TT i hi
  ·intro j id hj;cases j with
   |zero=>exact List.mem_append.2 (.inl (by simpa using hj))
   |succ j=>exact List.mem_append.2 (.inr (hqx j id hj))
  ·intro hn j j' id hj X5;obtain⟨_,h2,h3⟩:=L8 hn;cases j with
   |zero=>
    cases j' with
    |zero=>rfl
    |succ j'=>exact absurd (hqx j' id X5) (h3 id (by simpa using hj))
   |succ j=>
    cases j' with
    |zero=>exact absurd (hqx j id hj) (h3 id (by simpa using X5))
    |succ j'=>rw[hqi h2 j j' id hj X5]
  ·intro fz h1 h2 vs h3 own j0 G3;cases vs with
   |nil=>exact h3.elim
   |cons v vs=>
    refine⟨?_,Ui fz (fun i hi=>h1 i (by simp[hi])) h2 vs h3.2 own (j0+1) fun j=>?_⟩
    ·have:=G3 0;rw[Nat.add_zero] at this;rw[this];exact hv fz (fun i hi=>h1 i (by simp[hi])) h2 v h3.1
    ·have:=G3 (j+1);rw[show j0+1+j=j0+(j+1) by omega]
     exact this
def LOk (hp:Nat->Option Bx)(q:Option (Nat × Nat)) (p:PV)(x:Je):Prop:=
 match x with
 |.var id off cts ws=>p=.pbox ws∧q=some (id,off)∧cts.length=ws.length∧∃c,hp id=some (.st c)∧off+ws.length<=c.length
 |.row id=>(∃ps,p=.tup ps)∧q=some (id,0)∧∃c,hp id=some (.ar false c)
 |.none=>(∃ps,p=.tup ps)∧q=none
theorem Air {hp:Nat->Option Bx}{q:Option (Nat × Nat)} {p:PV}{x:Je}(h:LOk hp q p x):FY p=true:=by
 cases x with
 |var id off cts ws=>rw[h.1];rfl
 |row id=>obtain⟨⟨_,e⟩,_⟩:=h;rw[e];rfl
 |none=>obtain⟨⟨_,e⟩,_⟩:=h;rw[e];rfl
def Ud (hp:Nat->Option Bx)(src:Nat->Nat->Option (Nat × Nat)):Nat->List PV->List Je->Prop
 |_,[],l=>l=[]
 |i,p::ps,l=>(FY p=false∧src i 0=none∧Ud hp src (i+1) ps l)∨∃x l',l=x::l'∧LOk hp (src i 0) p x∧Ud hp src (i+1) ps l'
theorem Ahz (h:B3 N w0 X0 Y β s a w){C:Ji}{f:FuncId}{i:Nat}{t:TypeId}{x:Operand}{K:PV->List Nat->List Nat->List Je->Option R}(hk:KA C P f s.hp i t (Cw s.tm x) K=some r):
  ∃v m y l,∃src:Nat->Option (Nat × Nat),K v m y l=some r∧(∀id∈m,∃f cc,s.hp id=some (.ar f cc))∧(∀id∈y,∃cc,s.hp id=some (.ar false cc)) ∧
   (∀j id off,src (j+1)=some (id,off)->off=0∧id∈y)∧(Fl y=true->∀j j' id off off',src (j+1)=some (id,off)->src (j'+1)=some (id,off')->j=j') ∧
   ((l=[]∧FY v=false∧src 0=none)∨∃x',l=[x']∧LOk s.hp (src 0) v x') ∧
   ∀fz:List Nat,(∀id∈m,id∈fz)->(∀id∈fz,∃f cc,s.hp id=some (.ar f cc))->∀bt:Bt,(∀j,bt j=(src j).bind (Jt β))->Ab7 w (De (Ag s.hp fz) β Y) bt v (a.eval x):=by
 have hx:=Dy h x
 have MX:∀(q0:Option (Nat × Nat)) (q:Nat->Option Nat),∃src:Nat->Option (Nat × Nat),src 0=q0∧(∀j,src (j+1)=(q j).map fun id=>(id,0)):=
  fun q0 q=>⟨fun j=>match j with|0=>q0|j+1=>(q j).map fun id=>(id,0),rfl,fun _=>rfl⟩
 have Ab6:∀{src:Nat->Option (Nat × Nat)} {q:Nat->Option Nat} {y:List Nat},(∀j,src (j+1)=(q j).map fun id=>(id,0))->(∀j id,q j=some id->id∈y)->∀j id off,src (j+1)=some (id,off)->off=0∧id∈y:=by
  intro src q y h1 h2 j id off hj;rw[h1] at hj;cases hq:q j with
  |none=>rw[hq] at hj;cases hj
  |some k=>rw[hq] at hj;cases hj;exact⟨rfl,h2 j _ hq⟩
 have Acd:∀{src:Nat->Option (Nat × Nat)} {q:Nat->Option Nat} {y:List Nat},(∀j,src (j+1)=(q j).map fun id=>(id,0))->(Fl y=true->∀j j' id,q j=some id->q j'=some id->j=j') ->
   Fl y=true->∀j j' id off off',src (j+1)=some (id,off)->src (j'+1)=some (id,off')->j=j':=by
  intro src q y h1 h2 hn j j' id off off' hj X5;rw[h1] at hj X5;cases hq:q j with
  |none=>rw[hq] at hj;cases hj
  |some k=>
   cases H0:q j' with
   |none=>rw[H0] at X5;cases X5
   |some k'=>
    rw[hq] at hj;rw[H0] at X5;cases hj;cases X5;exact h2 hn j j' _ hq H0
 have G3:∀{src:Nat->Option (Nat × Nat)} {q:Nat->Option Nat} {bt:Bt},(∀j,src (j+1)=(q j).map fun id=>(id,0))->(∀j,bt j=(src j).bind (Jt β))->∀j,bt (1+j)=(q j).bind β:=by
  intro src q bt h1 h2 j;rw[Nat.add_comm,h2,h1];cases q j with
  |none=>rfl
  |some id=>exact Ago β id
 unfold KA at hk;split at hk
 ·rename_i e he;split at hk
  ·rename_i id off ep;rw[ep] at hx;split at hk
   ·rename_i c h0;obtain⟨hb,hk⟩:=Ax hk;simp only[Bool.and_eq_true,decide_eq_true_eq] at hb;obtain⟨cs,m,y,q,hk,hl,Ou,hA,hF,hm,hy,WM,OT,hv⟩:=Z4 h hk;obtain⟨src,TU,hs⟩:=MX (some (id,off)) q;obtain⟨b,ob,hβ,D6⟩:=hx;refine⟨_,m,y,_,src,hk,hm,hy,Ab6 hs WM,Acd hs OT,.inr ⟨_,rfl,rfl,TU,hl.symm,c,h0,by omega⟩,fun fz h1 h2 bt CQ=>?_⟩
    obtain⟨b',o',Ib,Ot,hb3⟩:=h.box id _ h0;rw[hβ] at Ib;cases Ib;have Ha:((c.drop off).take (K5 P e).length).length=(K5 P e).length:=by simp;omega
    have Asp:∀j p,((c.drop off).take (K5 P e).length)[j]?=some p->c[off+j]?=some p∧j<(K5 P e).length:=by
     intro j p hj;rw[List.getElem?_take] at hj;split at hj
     ·rw[List.getElem?_drop] at hj;exact⟨hj,by assumption⟩
     ·cases hj
    refine⟨b,ob+off,by rw[CQ,TU];simp[Jt,hβ],D6,hA,((c.drop off).take (K5 P e).length).mapIdx (fun j _=>(w.cell? ⟨b,ob+off+j,none⟩).getD undef),hv fz h1 h2 _ ?_ bt 1 (G3 hs CQ),?_,fun k hk=>?_⟩
    ·refine Bw.of_at (by simp) fun j p v hp hv=>?_
     obtain⟨hc,_⟩:=Asp j p hp;obtain⟨u,hu,hcr⟩:=Ot _ _ hc;rw[List.getElem?_mapIdx,hp,Option.map_some,Nat.add_assoc,hu] at hv;simp at hv;subst hv;exact hcr
    ·intro k v hkv;rw[List.getElem?_mapIdx] at hkv;cases hp:((c.drop off).take (K5 P e).length)[k]? with
     |none=>rw[hp] at hkv;cases hkv
     |some p=>
      obtain⟨hc,_⟩:=Asp k p hp;obtain⟨u,hu,hcr⟩:=Ot _ _ hc;rw[hp,Option.map_some,Nat.add_assoc,hu] at hkv;simp at hkv;subst hkv;rw[Nat.add_assoc];exact hu
    ·rw[Nat.add_assoc];exact hb3 _ (by omega)
   ·cases hk
  ·cases hk
 ·cases hln:C.lnd f i<;>rw[hln] at hk<;>simp only[cond_true,cond_false] at hk
  ·cases H8:Cx P t<;>rw[H8] at hk<;>simp only[cond_true,cond_false] at hk
   ·obtain⟨cs,m,y,q,hk,hl,Ou,hA,hF,hm,hy,WM,OT,hv⟩:=Z4 h hk;obtain⟨c,t',rfl,hk⟩:=Bl hk;obtain⟨rfl,hk⟩:=Ef hk;obtain⟨src,TU,hs⟩:=MX none q;have hAc:=hA c (by simp)
    refine⟨c,m,y,_,src,hk,hm,hy,Ab6 hs WM,Acd hs OT,.inl ⟨rfl,Avc hAc,TU⟩,fun fz h1 h2 bt CQ=>?_⟩
    have hFx:=hF _ (List.mem_singleton_self _)
    have hxc:Cj w (De s.hp β Y) β (Cw s.tm x) (a.eval x):=by
     cases hp:Cw s.tm x<;>rw[hp] at hx hFx<;>first|exact hx|exact hFx.elim
    have hoc:=(hv fz h1 h2 [a.eval x] ⟨hxc,trivial⟩ bt 1 (G3 hs CQ)).1;rcases hAc with hT|⟨es,n,cc,rfl⟩
    ·cases c<;>first|exact⟨.inl trivial,hoc⟩|exact hT.elim
    ·exact⟨.inr ⟨_,_,_,rfl⟩,hoc⟩
   ·obtain⟨ps,ep,hk⟩:=Kb hk;rw[ep] at hx;obtain⟨vs,D6,h3⟩:=hx;obtain⟨cs,m,y,q,hk,hl,Ou,hA,hF,hm,hy,WM,OT,hv⟩:=Z4 h hk;obtain⟨src,TU,hs⟩:=MX none q;refine⟨_,m,y,_,src,hk,hm,hy,Ab6 hs WM,Acd hs OT,.inl ⟨rfl,rfl,TU⟩,fun fz h1 h2 bt CQ=>?_⟩
    exact⟨vs,D6,hA,hv fz h1 h2 vs h3 bt 1 (G3 hs CQ)⟩
  ·obtain⟨e,he,hk⟩:=Dt hk;unfold As3 at hk;split at hk
   ·rename_i id es' off n ep;rw[ep] at hx;split at hk
    ·rename_i c h0;obtain⟨hb,Gi⟩:=Ax hk;simp only[Bool.and_eq_true] at hb;have he:=Nat.eq_of_beq_eq_true hb.1;have hof:=Nat.eq_of_beq_eq_true hb.2;subst hof;obtain⟨src,TU,hs⟩:=MX (some (id,0)) (fun _=>none)
     refine⟨_,[],[],_,src,Gi,by simp,by simp,Ab6 hs (by simp),Acd hs (by simp),.inr ⟨_,rfl,⟨_,rfl⟩,TU,c,h0⟩,fun fz h1 h2 bt CQ=>⟨_,_,_,rfl,?_⟩⟩
     have TX:bt 0=β id:=by rw[CQ,TU];exact Ago β id
     rw[TX];rcases hx with⟨h3,_,h4,h5⟩|⟨b,ob,y,cap,h3,h4,hy,h5,h6,h7⟩
     ·refine .inl ⟨h3,h4,?_,h5⟩;rcases h.box id _ h0 with⟨_,h8⟩|⟨_,_,h8,_⟩
      ·exact h8
      ·rw[h3] at h8;cases h8
     ·have hy:y=ob:=by rcases hy with e|⟨_,e⟩<;>omega
      subst hy;rcases h.box id _ h0 with⟨h8,_⟩|⟨b',o',h8,h9,h10,_⟩
      ·rw[h3] at h8;cases h8
      ·rw[h3] at h8;cases h8;exact .inr ⟨b,y,cap,h3,h4,h5,by rw[←he];exact h6,h7,h9.weak (fun b _ hb=>R9 hb),h10 rfl⟩
    ·cases hk
   ·obtain⟨z,n,c,hk,hp⟩:=Ho hk;obtain⟨hz,hk⟩:=Ax hk;subst hz;obtain⟨src,TU,hs⟩:=MX none (fun _=>none)
    have hu:a.eval x=.slice none 0 0:=by
     have hF:Cj w (De s.hp β Y) β (Cw s.tm x) (a.eval x):=by rcases hp with e|⟨e,_⟩<;>rw[e] at hx ⊢ <;> exact hx
     have:=DD hp hF;generalize a.eval x=u at this;cases this;rfl
    refine⟨_,[],[],_,src,hk,by simp,by simp,Ab6 hs (by simp),Acd hs (by simp),.inr ⟨_,rfl,⟨_,rfl⟩,TU⟩,fun fz h1 h2 bt CQ=>⟨_,_,_,rfl,.inl ⟨by rw[CQ,TU];rfl,rfl,rfl,none,hu⟩⟩⟩
structure A9w (i0 n:Nat) (src:Nat->Nat->Option (Nat × Nat)) (ids x:List Nat):Prop where
 dom:∀i j q,src i j=some q->i0<=i∧i<i0+n
 lent:∀i id off,src i 0=some (id,off)->id∈ids
 mvd:∀i j id off,src i (j+1)=some (id,off)->off=0∧id∈x
 inj0:Fl ids=true->∀i i' id off off',src i 0=some (id,off)->src i' 0=some (id,off')->i=i'
 inj1:Fl x=true->∀i i' j j' id off off',src i (j+1)=some (id,off)->src i' (j'+1)=some (id,off')->i=i'∧j=j'
theorem ER {hp:Nat->Option Bx}{src src':Nat->Nat->Option (Nat × Nat)}:∀{ps:List PV}{i:Nat}{l:List Je},(∀k,i<=k->src' k=src k)->Ud hp src i ps l->Ud hp src' i ps l
 |[],_,_,_,h=>h
 |p::ps,i,l,hs,h=>by
  rcases h with⟨h1,h2,h3⟩|⟨x,l',rfl,h2,h3⟩
  ·exact .inl ⟨h1,by rw[hs i (Nat.le_refl _)];exact h2,ER (fun k hk=>hs k (by omega)) h3⟩
  ·exact .inr ⟨x,l',rfl,by rw[hs i (Nat.le_refl _)];exact h2,ER (fun k hk=>hs k (by omega)) h3⟩
theorem LR {bt bt':MG}:∀{ps:List PV}{us:List Value}{i:Nat},(∀k,i<=k->∀j,bt' k j=bt k j)->Ph w A bt i ps us->Ph w A bt' i ps us
 |[],[],_,_,_=>trivial
 |[],_::_,_,_,h=>h.elim
 |_::_,[],_,_,h=>h.elim
 |_::_,_::_,i,hb,h=>⟨by rw[show bt' i=bt i from funext (hb i (Nat.le_refl _))];exact h.1,LR (fun k hk=>hb k (by omega)) h.2⟩
theorem WU (h:B3 N w0 X0 Y β s a w){C:Ji}{f:FuncId}:∀{ts:List TypeId}{xs:List Operand}{i:Nat}{K:List PV->List Nat->List Nat->List Je->Option R},VW C P f s.hp i ts (xs.map (Cw s.tm)) K=some r ->
  ∃vs m y l,∃src:Nat->Nat->Option (Nat × Nat),K vs m y l=some r∧(∀id∈m,∃f cc,s.hp id=some (.ar f cc))∧(∀id∈y,∃cc,s.hp id=some (.ar false cc)) ∧
   A9w i xs.length src (l.flatMap Je.ids) y∧Ud s.hp src i vs l ∧
   ∀fz:List Nat,(∀id∈m,id∈fz)->(∀id∈fz,∃f cc,s.hp id=some (.ar f cc))->∀bt:MG,(∀i j,bt i j=(src i j).bind (Jt β))->Ph w (De (Ag s.hp fz) β Y) bt i vs (xs.map a.eval)
 |[],[],i,K,hk=>⟨[],[],[],[],fun _ _=>none,hk,by simp,by simp,⟨by simp,by simp,by simp,by simp,by simp⟩,rfl,fun _ _ _ _ _=>trivial⟩
 |[],_::_,i,K,hk=>by cases hk
 |_::_,[],i,K,hk=>by cases hk
 |t::ts,x::xs,i,K,hk=>by
  simp only[List.map_cons] at hk;unfold VW at hk;obtain⟨v,m,y,l,src,hk,hm,hy,KQ,PN,hl,hv⟩:=Ahz h hk;obtain⟨vs,ms,ys,ls,srcs,hk,OY,hys,hS,hL,Ui⟩:=WU h hk;have MX:∃sr:Nat->Nat->Option (Nat × Nat),sr i=src∧∀k,k≠i->sr k=srcs k:=⟨fun k=>if k=i then src else srcs k,by simp,fun k hk=>by simp[hk]⟩
  obtain⟨sr,hsi,hso⟩:=MX
  have UV:∀id off,src 0=some (id,off)->id∈l.flatMap Je.ids:=by
   intro id off e;rcases hl with⟨_,_,h3⟩|⟨x',rfl,h3⟩
   ·rw[h3] at e;cases e
   ·cases x' with
    |var id' off' cts ws=>rw[h3.2.1] at e;cases e;simp[Je.ids]
    |row id'=>rw[h3.2.1] at e;cases e;simp[Je.ids]
    |none=>rw[h3.2] at e;cases e
  refine⟨v::vs,m++ms,y++ys,l++ls,sr,hk,?_,?_,⟨?_,?_,?_,?_,?_⟩,?_,fun fz h1 h2 bt CQ=>⟨?_,?_⟩⟩
  ·intro i hi;rcases List.mem_append.1 hi with hi|hi
   ·exact hm i hi
   ·exact OY i hi
  ·intro i hi;rcases List.mem_append.1 hi with hi|hi
   ·exact hy i hi
   ·exact hys i hi
  ·intro k j q hq;simp only[List.length_cons];by_cases e:k=i
   ·subst e;omega
   ·rw[hso k e] at hq;have:=hS.dom k j q hq;omega
  ·intro k id off hq;rw[List.flatMap_append];by_cases e:k=i
   ·subst e;rw[hsi] at hq;exact List.mem_append.2 (.inl (UV id off hq))
   ·rw[hso k e] at hq;exact List.mem_append.2 (.inr (hS.lent k id off hq))
  ·intro k j id off hq;by_cases e:k=i
   ·subst e;rw[hsi] at hq;exact⟨(KQ j id off hq).1,List.mem_append.2 (.inl (KQ j id off hq).2)⟩
   ·rw[hso k e] at hq;exact⟨(hS.mvd k j id off hq).1,List.mem_append.2 (.inr (hS.mvd k j id off hq).2)⟩
  ·intro hn k k' id off off' hq H0;rw[List.flatMap_append] at hn;obtain⟨_,h4,h5⟩:=L8 hn;by_cases e:k=i
   ·by_cases e':k'=i
    ·omega
    ·rw[hso k' e'] at H0;subst e;rw[hsi] at hq;exact absurd (hS.lent k' id off' H0) (h5 id (UV id off hq))
   ·rw[hso k e] at hq;by_cases e':k'=i
    ·subst e';rw[hsi] at H0;exact absurd (hS.lent k id off hq) (h5 id (UV id off' H0))
    ·rw[hso k' e'] at H0;exact hS.inj0 h4 k k' id off off' hq H0
  ·intro hn k k' j j' id off off' hq H0;obtain⟨h3,h4,h5⟩:=L8 hn;by_cases e:k=i
   ·by_cases e':k'=i
    ·subst e;subst e';rw[hsi] at hq H0;exact⟨rfl,PN h3 j j' id off off' hq H0⟩
    ·rw[hso k' e'] at H0;subst e;rw[hsi] at hq;exact absurd (hS.mvd k' j' id off' H0).2 (h5 id (KQ j id off hq).2)
   ·rw[hso k e] at hq;by_cases e':k'=i
    ·subst e';rw[hsi] at H0;exact absurd (hS.mvd k j id off hq).2 (h5 id (KQ j' id off' H0).2)
    ·rw[hso k' e'] at H0;exact hS.inj1 h4 k k' j j' id off off' hq H0
  ·have BV:Ud s.hp sr (i+1) vs ls:=ER (fun k hk=>hso k (by omega)) hL
   rcases hl with⟨rfl,hnp,h3⟩|⟨x',rfl,h3⟩
   ·exact .inl ⟨hnp,by rw[hsi];exact h3,BV⟩
   ·exact .inr ⟨x',ls,rfl,by rw[hsi];exact h3,BV⟩
  ·exact hv fz (fun i hi=>h1 i (by simp[hi])) h2 (bt i) (fun j=>by rw[CQ,hsi])
  ·refine Ui fz (fun i hi=>h1 i (by simp[hi])) h2 (fun k j=>(srcs k j).bind (Jt β)) (fun _ _=>rfl) |> LR fun k hk j=>?_
   rw[CQ,hso k (by omega)]
end
open Go.RowKit
section
variable {R:Type} {r:R} {P:Program} {N:Nat} {w0:World} {X0:Fz} {Y:Nat->Prop} {β β':Bt} {s:St} {a:Act} {w w':World} {o:Oper} {A:Nat->Prop}
theorem Arf {p:PV}{u:Value}(h:A4 w A p u):Cj w A β p u:=by
 have h0:=h;cases h<;>exact h0
theorem Aq7 {t:Nat}{ct:CT}{was p:PV}{K:Nat->PV->List (Nat × Bx)->Option R} (hk:Al8 N t ct was p K=some r):
  (∃c,K t c []=some r∧BL c∧∀w A q u,Jm w A q p u->A4 w A c u)∨∃es n cc,p=.own es n cc∧K (t+1) (.view (nid N t) es 0 n) [(nid N t,.ar false cc)]=some r:=by
 have tree:∀t',(JL t' p fun c=>K t c [])=some r->∃c,K t c []=some r∧BL c∧∀w A q u,Jm w A q p u->A4 w A c u:=by
  intro t' hk;obtain⟨c,hk,hT,QV,hv⟩:=Q0 hk;refine⟨c,hk,hT,fun w A q u h=>(hv w A (fun _=>none) u ?_).1⟩
  cases p<;>first|exact h|exact QV.elim
 unfold Al8 at hk;cases ct with
 |sl es=>
  dsimp only at hk;split at hk
  ·unfold Gw at hk;split at hk
   ·rename_i es' n c;cases hb:Nat.beq es' es<;>rw[hb] at hk
    ·cases hk
    ·have:=Nat.eq_of_beq_eq_true hb;subst this;exact .inr ⟨_,_,_,rfl,hk⟩
   ·cases hk
  ·have h2:(JL (.sl es) p fun c=>(match c with | .lst _ es n c=>K t (.lst false es n c) []|_=>none))=some r:=hk
   obtain⟨c,hk,hT,QV,hv⟩:=Q0 h2;split at hk
   ·refine .inl ⟨_,hk,hT,fun w A q u h=>A4.unz (hv w A (fun _=>none) u ?_).1⟩
    cases p<;>first|exact h|exact QV.elim
   ·cases hk
 |int k=>exact .inl (tree _ hk)
 |bool=>exact .inl (tree _ hk)
 |str=>exact .inl (tree _ hk)
 |any=>exact .inl (tree _ hk)
theorem IJ:∀{cts:List CT}{ws ps:List PV}{t:Nat}{K:Nat->List PV->List (Nat × Bx)->Option R},WH N t cts ws ps K=some r ->
  ∃t' cs bs,∃qs:List (Nat × Nat),K t' cs bs=some r∧cs.length=ps.length∧ps.length=ws.length∧bs.map (·.1)=qs.map (·.1)∧(∀q∈qs,(∃k,q.1=nid N k)∧q.2<ps.length)∧(∀q∈qs,∀q'∈qs,q.2=q'.2->q.1=q'.1) ∧
   (∀i bx,(i,bx)∈bs->∃c,bx=.ar false c)∧(∀c∈cs,∀i∈Az c,∃bx,(i,bx)∈bs) ∧
   ∀(w:World) (A:Nat->Prop) (own β':Bt) (j0:Nat) (us:List Value),(∀q∈qs,β' q.1=own (j0+q.2))->Hf w A own j0 ps us->Bw (Cj w A β') cs us∧∀i bx,(i,bx)∈bs->U5 w A β' i bx
 |[],[],ps,t,K,hk=>by
  obtain⟨rfl,hk⟩:=Ef hk;refine⟨t,[],[],[],hk,rfl,rfl,rfl,by simp,by simp,by simp,by simp,fun w A own β' j0 us _ h=>⟨?_,by simp⟩⟩
  cases us with
  |nil=>trivial
  |cons u us=>exact h.elim
 |[],_::_,_,_,_,hk=>by cases hk
 |_::_,[],_,_,_,hk=>by cases hk
 |ct::cts,x::ws,ps,t,K,hk=>by
  unfold WH at hk;obtain⟨p,ps',LH,Eb⟩:=Bl hk;subst LH;rcases Aq7 Eb with⟨c,Gi,hT,hv⟩|⟨es,n,cc,rfl,Gi⟩
  ·obtain⟨t',cs,bs,qs,Un,hl,Ou,hb,WM,OT,Ib,Ot,Ui⟩:=IJ Gi;refine⟨t',c::cs,bs,qs.map (fun q=>(q.1,q.2+1)),Un,by simp[hl],by simp[Ou],by rw[hb];simp,?_,?_,Ib,?_,fun w A own β' j0 us hβ ho=>?_⟩
   ·intro q hq;obtain⟨q0,DE,rfl⟩:=List.mem_map.1 hq;exact⟨(WM q0 DE).1,by have:=(WM q0 DE).2;simp only[List.length_cons];omega⟩
   ·intro q hq q' H0 e;obtain⟨q0,DE,rfl⟩:=List.mem_map.1 hq;obtain⟨q1,M9,rfl⟩:=List.mem_map.1 H0;exact OT q0 DE q1 M9 (by simp only at e;omega)
   ·intro y hy i hi;rcases List.mem_cons.1 hy with rfl|hy
    ·rw[Kt hT] at hi;cases hi
    ·exact Ot y hy i hi
   ·cases us with
    |nil=>exact ho.elim
    |cons u us=>
     obtain⟨h1,h2⟩:=Ui w A own β' (j0+1) us (fun q hq=>by rw[hβ _ (List.mem_map_of_mem hq)];congr 1;simp only;omega) ho.2
     exact⟨⟨Arf (hv w A _ u ho.1),h1⟩,h2⟩
  ·obtain⟨t',cs,bs,qs,Un,hl,Ou,hb,WM,OT,Ib,Ot,Ui⟩:=IJ Gi;refine⟨t',_::cs,(nid N t,.ar false cc)::bs,(nid N t,0)::qs.map (fun q=>(q.1,q.2+1)),Un,by simp[hl],by simp[Ou],by simp only[List.map_cons,hb];simp,?_,?_,?_,?_,fun w A own β' j0 us hβ ho=>?_⟩
   ·intro q hq;rcases List.mem_cons.1 hq with rfl|hq
    ·exact⟨⟨t,rfl⟩,by simp⟩
    ·obtain⟨q0,DE,rfl⟩:=List.mem_map.1 hq;exact⟨(WM q0 DE).1,by have:=(WM q0 DE).2;simp only[List.length_cons];omega⟩
   ·intro q hq q' H0 e;rcases List.mem_cons.1 hq with rfl|hq
    ·rcases List.mem_cons.1 H0 with rfl|H0
     ·rfl
     ·obtain⟨q0,DE,rfl⟩:=List.mem_map.1 H0;simp only at e;omega
    ·obtain⟨q0,DE,rfl⟩:=List.mem_map.1 hq;rcases List.mem_cons.1 H0 with rfl|H0
     ·simp only at e;omega
     ·obtain⟨q1,M9,rfl⟩:=List.mem_map.1 H0;exact OT q0 DE q1 M9 (by simp only at e;omega)
   ·intro i bx hm;rcases List.mem_cons.1 hm with e|hm
    ·cases e;exact⟨cc,rfl⟩
    ·exact Ib i bx hm
   ·intro y hy i hi;rcases List.mem_cons.1 hy with rfl|hy
    ·simp only[Az,List.mem_singleton] at hi;subst hi;exact⟨_,List.mem_cons_self⟩
    ·obtain⟨bx,Nv⟩:=Ot y hy i hi;exact⟨bx,List.mem_cons_of_mem _ Nv⟩
   ·cases us with
    |nil=>exact ho.elim
    |cons u us=>
     obtain⟨h1,h2⟩:=Ui w A own β' (j0+1) us (fun q hq=>by rw[hβ _ (List.mem_cons_of_mem _ (List.mem_map_of_mem hq))];congr 1;simp only;omega) ho.2
     have h0:=hβ (nid N t,0) List.mem_cons_self;simp only[Nat.add_zero] at h0;refine⟨⟨?_,h1⟩,fun i bx hm=>?_⟩
     ·rcases ho.1 with⟨h3,rfl,_,h5⟩|⟨b,ob,cap,h3,h4,h5,h6,h7,_⟩
      ·exact .inl ⟨h0.trans h3,rfl,rfl,h5⟩
      ·exact .inr ⟨b,ob,ob,cap,h0.trans h3,h4,.inl rfl,h5,h6,h7⟩
     ·rcases List.mem_cons.1 hm with e|hm
      ·cases e;exact GA ho.1 h0
      ·exact h2 i bx hm
def Ah6 (hp C2:Nat->Option Bx)(bs:List (Nat × Bx)) (x:Je):Prop:=
 match x with
 |.var id off _ ws=>∃c cs,hp id=some (.st c)∧C2 id=some (.st (Bq c cs off))∧cs.length=ws.length∧off+cs.length<=c.length∧∀p∈cs,∀i∈Az p,∃bx,(i,bx)∈bs
 |.row id=>∃c cs,hp id=some (.ar false c)∧C2 id=some (.ar false cs)
 |.none=>True
def Aop (β β':Bt)(w':World)(A:Nat->Prop)(hp C2:Nat->Option Bx)(x:Je):Prop:=
 match x with
 |.var id off _ ws=>∃c cs,hp id=some (.st c)∧C2 id=some (.st (Bq c cs off))∧cs.length=ws.length∧off+cs.length<=c.length ∧
   ∀b o,β id=some (b,o)->(∀(j:Nat) p,cs[j]?=some p->∃v,w'.cell? ⟨b,o+off+j,none⟩=some v∧Cj w' A β' p v)∧∀j,j<cs.length->w'.frozen? ⟨b,o+off+j,none⟩=false
 |.row id=>∃cs,C2 id=some (.ar false cs)∧((β id=none∧cs=[])∨∃b o,β id=some (b,o)∧VH w' A ⟨b,o,none⟩ cs∧∀j,o<=j->j<bsz w' b->w'.frozen? ⟨b,j,none⟩=false)
 |.none=>True
theorem FT {hp Eo C2:Nat->Option Bx}{bs bs1:List (Nat × Bx)} {x:Je}(h1:∀i∈x.ids,Eo i=hp i)(hb:∀q∈bs,q∈bs1)(h:Ah6 Eo C2 bs x):Ah6 hp C2 bs1 x:=by
 cases x with
 |var id off cts ws=>
  obtain⟨c,cs,h2,h3,h4,h5,h6⟩:=h;refine⟨c,cs,by rw[←h1 id (by simp[Je.ids])];exact h2,h3,h4,h5,fun p hp i hi=>?_⟩
  obtain⟨bx,Nv⟩:=h6 p hp i hi;exact⟨bx,hb _ Nv⟩
 |row id=>
  obtain⟨c,cs,h2,h3⟩:=h;exact⟨c,cs,by rw[←h1 id (by simp[Je.ids])];exact h2,h3⟩
 |none=>trivial
theorem LQ {hp Eo C2:Nat->Option Bx}{x:Je}(h1:∀i∈x.ids,Eo i=hp i)(h:Aop β β' w' A Eo C2 x):Aop β β' w' A hp C2 x:=by
 cases x with
 |var id off cts ws=>
  obtain⟨c,cs,h2,h3⟩:=h;exact⟨c,cs,by rw[←h1 id (by simp[Je.ids])];exact h2,h3⟩
 |row id=>exact h
 |none=>trivial
theorem Amw {hp Eo:Nat->Option Bx}{q:Option (Nat × Nat)} {p:PV}{x:Je}(h1:∀i∈x.ids,Eo i=hp i)(h:LOk hp q p x):LOk Eo q p x:=by
 cases x with
 |var id off cts ws'=>
  obtain⟨h2,h3,h5,c,h6,h7⟩:=h;exact⟨h2,h3,h5,c,by rw[h1 id (by simp[Je.ids])];exact h6,h7⟩
 |row id=>
  obtain⟨h2,h3,c,h4⟩:=h;exact⟨h2,h3,c,by rw[h1 id (by simp[Je.ids])];exact h4⟩
 |none=>exact h
theorem FZ {hp Eo:Nat->Option Bx}{src:Nat->Nat->Option (Nat × Nat)}:∀{ps:List PV}{i:Nat}{l:List Je},(∀i∈l.flatMap Je.ids,Eo i=hp i)->Ud hp src i ps l->Ud Eo src i ps l
 |[],_,_,_,h=>h
 |p::ps,i,l,hs,h=>by
  rcases h with⟨h1,h2,h3⟩|⟨x,l',rfl,h2,h3⟩
  ·exact .inl ⟨h1,h2,FZ hs h3⟩
  ·exact .inr ⟨x,l',rfl,Amw (fun k hk=>hs k (by simp only[List.flatMap_cons,List.mem_append];exact .inl hk)) h2,FZ (fun k hk=>hs k (by simp only[List.flatMap_cons,List.mem_append];exact .inr hk)) h3⟩
theorem Agh {own:Bt}{bt:MG}{j i:Nat}{p:PV}{zs:List PV}{r:List (List PV)} (hp:FY p=false)(h:CC w A own bt j i (p::zs) r):CC w A own bt j (i+1) zs r:=by
 cases p<;>first|exact h|cases hp
theorem Zc {src:Nat->Nat->Option (Nat × Nat)} {β:Bt}:∀{zs:List PV}{l:List Je}{ro:List (List PV)} {i j t:Nat}{hp:Nat->Option Bx}{K:(Nat->Option Bx)->List (Nat × Bx)->Option R},
  EO N t l ro hp K=some r->Ud hp src i zs l->Fl (l.flatMap Je.ids)=true ->
  ∃C2 bs,∃qs:List (Nat × Nat),K C2 bs=some r∧bs.map (·.1)=qs.map (·.1)∧(∀q∈qs,(∃k,q.1=nid N k)∧j<=q.2)∧(∀q∈qs,∀q'∈qs,q.2=q'.2->q.1=q'.1)∧(∀i bx,(i,bx)∈bs->∃c,bx=.ar false c) ∧
   (∀i,i ∉ l.flatMap Je.ids->C2 i=hp i)∧(∀x∈l,Ah6 hp C2 bs x) ∧
   ∀(w':World) (A:Nat->Prop) (own β':Bt) (bt:MG),(∀q∈qs,β' q.1=own q.2)->(∀i,bt i 0=(src i 0).bind (Jt β))->CC w' A own bt j i zs ro ->
    (∀i bx,(i,bx)∈bs->U5 w' A β' i bx)∧∀x∈l,Aop β β' w' A hp C2 x
 |[],l,ro,i,j,t,hp,K,hk,hL,hn=>by
  have hL:l=[]:=hL;subst hL;unfold EO at hk;obtain⟨rfl,hk⟩:=Ef hk;exact⟨hp,[],[],hk,rfl,by simp,by simp,by simp,fun _ _=>rfl,by simp,fun w' A own β' bt _ _ _=>⟨by simp,by simp⟩⟩
 |p::zs,l0,ro,i,j,t,hp,K,hk,hL0,hn=>by
  rcases hL0 with⟨MZ,_,hL⟩|⟨x,l,rfl,hok,hL⟩
  rotate_left
  ··simp only[List.flatMap_cons] at hn;obtain⟨hn1,hn2,hn3⟩:=L8 hn;cases x with
    |var id off cts ws'=>
     obtain⟨rfl,MX,X6,c,hc,AK⟩:=hok;unfold EO at hk;obtain⟨cs,ro',hro,Eb⟩:=Bl hk;subst hro;obtain⟨t',cs',bs,qs,Gi,IA,NQ,hb,WM,OT,Ib,Ot,hv⟩:=IJ Eb;rw[hc] at Gi;simp only at Gi;change EO N t' l ro' (Dd hp id (some (.st (Bq c cs' off)))) (fun C2 bs'=>K C2 (bs++bs'))=some r at Gi
     have Agk:id ∉ l.flatMap Je.ids:=hn3 id (by simp[Je.ids])
     have hL':Ud (Dd hp id (some (.st (Bq c cs' off)))) src (i+1) zs l:=FZ (fun k hkm=>Aq _ _ (fun e=>Agk (e ▸ hkm))) hL
     obtain⟨C2,bs',qs',Un,I7,M9,Aik,Ahq,Pc,hsh,ZB⟩:=Zc (β:=β) (j:=j+cs.length) Gi hL' hn2;have Aqc:C2 id=some (.st (Bq c cs' off)):=by rw[Pc id Agk,A3]
     have SP:∀x∈l,∀k∈x.ids,Dd hp id (some (.st (Bq c cs' off))) k=hp k:=fun x hx k hkm=>Aq _ _ (fun e=>Agk (e ▸ List.mem_flatMap.2 ⟨x,hx,hkm⟩))
     refine⟨C2,bs++bs',qs.map (fun q=>(q.1,j+q.2))++qs',Un,by simp only[List.map_append,hb,I7];simp,?_,?_,?_,?_,?_,fun w' A own β' bt hβ CQ ho=>?_⟩
     ·intro q hq;rcases List.mem_append.1 hq with hq|hq
      ·obtain⟨q0,DE,rfl⟩:=List.mem_map.1 hq;exact⟨(WM q0 DE).1,by simp only;omega⟩
      ·exact⟨(M9 q hq).1,by have:=(M9 q hq).2;omega⟩
     ·intro q hq q' H0 e;rcases List.mem_append.1 hq with hq|hq
      ·obtain⟨q0,DE,rfl⟩:=List.mem_map.1 hq;have:=(WM q0 DE).2;rcases List.mem_append.1 H0 with H0|H0
       ·obtain⟨q1,M9,rfl⟩:=List.mem_map.1 H0;exact OT q0 DE q1 M9 (by simp only at e;omega)
       ·have:=(M9 q' H0).2;simp only at e;omega
      ·have h5:=(M9 q hq).2;rcases List.mem_append.1 H0 with H0|H0
       ·obtain⟨q1,A4i,rfl⟩:=List.mem_map.1 H0;have:=(WM q1 A4i).2;simp only at e;omega
       ·exact Aik q hq q' H0 e
     ·intro k bx hm;rcases List.mem_append.1 hm with hm|hm
      ·exact Ib k bx hm
      ·exact Ahq k bx hm
     ·intro k hk;simp only[List.flatMap_cons,List.mem_append,not_or] at hk;rw[Pc k hk.2];exact Aq _ _ (by rintro rfl;exact hk.1 (by simp[Je.ids]))
     ·intro x hx;rcases List.mem_cons.1 hx with rfl|hx
      ·refine⟨c,cs',hc,Aqc,by omega,by omega,fun p hp k hk=>?_⟩
       obtain⟨bx,Nv⟩:=Ot p hp k hk;exact⟨bx,List.mem_append.2 (.inl Nv)⟩
      ·exact FT (SP x hx) (fun q hq=>List.mem_append.2 (.inr hq)) (hsh x hx)
     ·obtain⟨⟨b,ob,TX,Ha,vs,hov,hcell,UT⟩,ho⟩:=ho
      ·obtain⟨h1,h2⟩:=hv w' A own β' j vs (fun q hq=>hβ _ (List.mem_append.2 (.inl (List.mem_map_of_mem hq)))) hov
       obtain⟨h3,h4⟩:=ZB w' A own β' bt (fun q hq=>hβ q (List.mem_append.2 (.inr hq))) CQ ho
       refine⟨fun k bx hm=>?_,fun x hx=>?_⟩
       ·rcases List.mem_append.1 hm with hm|hm
        ·exact h2 k bx hm
        ·exact h3 k bx hm
       ·rcases List.mem_cons.1 hx with rfl|hx
        ·refine⟨c,cs',hc,Aqc,by omega,by omega,fun b1 o1 hβ1=>?_⟩
         have Ot:=CQ i;rw[TX,MX] at Ot;simp only[Option.bind_some,Jt,hβ1,Option.map_some,Option.some.injEq,Prod.mk.injEq] at Ot;obtain⟨rfl,rfl⟩:=Ot;refine⟨fun k p hp=>?_,fun k hk=>UT k (by omega)⟩
         obtain⟨v,hv,hcr⟩:=h1.get hp;exact⟨v,hcell k v hv,hcr⟩
        ·exact LQ (SP x hx) (h4 x hx)
    |row id=>
     obtain⟨⟨pz,rfl⟩,MX,c,hc⟩:=hok;unfold EO at hk;obtain⟨cs,ro',hro,Gi⟩:=Bl hk;subst hro;have Agk:id ∉ l.flatMap Je.ids:=hn3 id (by simp[Je.ids])
     have hL':Ud (Dd hp id (some (.ar false cs))) src (i+1) zs l:=FZ (fun k hkm=>Aq _ _ (fun e=>Agk (e ▸ hkm))) hL
     obtain⟨C2,bs',qs',Un,I7,M9,Aik,Ahq,Pc,hsh,ZB⟩:=Zc (β:=β) (j:=j) Gi hL' hn2;have Aqc:C2 id=some (.ar false cs):=by rw[Pc id Agk,A3]
     have SP:∀x∈l,∀k∈x.ids,Dd hp id (some (.ar false cs)) k=hp k:=fun x hx k hkm=>Aq _ _ (fun e=>Agk (e ▸ List.mem_flatMap.2 ⟨x,hx,hkm⟩))
     refine⟨C2,bs',qs',Un,I7,M9,Aik,Ahq,?_,?_,fun w' A own β' bt hβ CQ ho=>?_⟩
     ·intro k hk;simp only[List.flatMap_cons,List.mem_append,not_or] at hk;rw[Pc k hk.2];exact Aq _ _ (by rintro rfl;exact hk.1 (by simp[Je.ids]))
     ·intro x hx;rcases List.mem_cons.1 hx with rfl|hx
      ·exact⟨c,cs,hc,Aqc⟩
      ·exact FT (SP x hx) (fun q hq=>hq) (hsh x hx)
     ·obtain⟨Alb,ho⟩:=ho
      ·obtain⟨h3,h4⟩:=ZB w' A own β' bt hβ CQ ho;refine⟨h3,fun x hx=>?_⟩
       rcases List.mem_cons.1 hx with rfl|hx
       ·refine⟨cs,Aqc,?_⟩;have Ot:=CQ i;rw[MX] at Ot;simp only[Option.bind_some,Ago] at Ot;rw[Ot] at Alb;exact Alb
       ·exact LQ (SP x hx) (h4 x hx)
    |none=>
     obtain⟨⟨pz,rfl⟩,MX⟩:=hok;unfold EO at hk;obtain⟨cs,ro',hro,Gi⟩:=Bl hk;subst hro;obtain⟨C2,bs',qs',Un,I7,M9,Aik,Ahq,Pc,hsh,ZB⟩:=Zc (β:=β) (j:=j) Gi hL hn2;refine⟨C2,bs',qs',Un,I7,M9,Aik,Ahq,?_,?_,fun w' A own β' bt hβ CQ ho=>?_⟩
     ·intro k hk;simp only[List.flatMap_cons,List.mem_append,not_or] at hk;exact Pc k hk.2
     ·intro x hx;rcases List.mem_cons.1 hx with rfl|hx
      ·trivial
      ·exact hsh x hx
     ·obtain⟨Alb,ho⟩:=ho
      ·obtain⟨h3,h4⟩:=ZB w' A own β' bt hβ CQ ho;refine⟨h3,fun x hx=>?_⟩
       rcases List.mem_cons.1 hx with rfl|hx
       ·trivial
       ·exact h4 x hx
  ·obtain⟨C2,bs',qs',Un,I7,M9,Aik,Ahq,Pc,hsh,ZB⟩:=Zc (β:=β) (j:=j) hk hL hn;exact⟨C2,bs',qs',Un,I7,M9,Aik,Ahq,Pc,hsh,fun w' A own β' bt hβ CQ ho=>ZB w' A own β' bt hβ CQ (Agh MZ ho)⟩
end
open Go.RowKit
theorem Ih (hp:Nat->Option Bx)(ids:List Nat)(i:Nat):Zl hp ids i=if i∈ids then (hp i).map (fun _=>Bx.mv) else hp i:=by
 unfold Zl;by_cases hi:i∈ids
 ·have:ids.any (Nat.beq i)=true:=List.any_eq_true.2 ⟨i,hi,Nat.beq_refl i⟩;rw[this,if_pos hi];rfl
 ·have:ids.any (Nat.beq i)=false:=by
   cases hb:ids.any (Nat.beq i)
   ·rfl
   ·obtain⟨j,hj,e⟩:=List.any_eq_true.1 hb;exact absurd (Nat.eq_of_beq_eq_true e ▸ hj) hi
  rw[this,if_neg hi];rfl
theorem V8:∀{nw:List (Nat × Bx)} {hp:Nat->Option Bx},Ck hp nw=true->(nw.map (·.1)).Nodup
 |[],_,_=>List.nodup_nil
 |(i,b)::r,hp,h=>by
  simp only[Ck,Bool.and_eq_true,Option.isNone_iff_eq_none,Bool.not_eq_true'] at h;simp only[List.map_cons,List.nodup_cons];refine⟨fun hm=>?_,V8 h.2⟩
  obtain⟨q,hq,e⟩:=List.mem_map.1 hm;have:r.any (fun q=>Nat.beq q.1 i)=true:=List.any_eq_true.2 ⟨q,hq,by rw[e];exact Nat.beq_refl i⟩
  rw[this] at h;cases h.1.2
theorem Ap8:∀{l:List (Nat × Nat)},(l.map (·.1)).Nodup->∀q∈l,AY l q.1=some q.2
 |[],_,_,h=>by cases h
 |(j,b)::r,hn,q,hq=>by
  simp only[List.map_cons,List.nodup_cons] at hn;unfold AY;rcases List.mem_cons.1 hq with rfl|hq
  ·simp only[Nat.beq_refl,cond_true]
  ·have:Nat.beq q.1 j=false:=by
    cases hb:Nat.beq q.1 j
    ·rfl
    ·exact absurd (Nat.eq_of_beq_eq_true hb ▸ List.mem_map_of_mem hq) hn.1
   simp only[this,cond_false];exact Ap8 hn.2 q hq
theorem Ab4:∀{l:List (Nat × Nat)} {i:Nat},i ∉ l.map (·.1)->AY l i=none
 |[],_,_=>rfl
 |(j,b)::r,i,h=>by
  simp only[List.map_cons,List.mem_cons,not_or] at h;unfold AY
  have:Nat.beq i j=false:=by
   cases hb:Nat.beq i j
   ·rfl
   ·exact absurd (Nat.eq_of_beq_eq_true hb) h.1
  simp only[this,cond_false];exact Ab4 h.2
section
variable {R:Type} {r:R} {P:Program} {N:Nat} {w0:World} {X0:Fz} {Y:Nat->Prop} {β β':Bt} {s:St} {a:Act} {w w':World} {o:Oper} {A A':Nat->Prop}
theorem Jm.weak (hA:∀b,b<w.heap.size->A' b->A b){q:Option (Nat × Nat)} {p:PV}{u:Value}(h:Jm w A q p u):Jm w A' q p u:=by
 have tr:∀{p:PV},A4 w A p u->A4 w A' p u:=fun h=>h.step (Cq.refl _ _) hA
 cases p with
 |own es n c=>
  rcases h with h|⟨b,ob,cap,h1,h2,h3,h4,h5,h6,h7⟩
  ·exact .inl h
  ·exact .inr ⟨b,ob,cap,h1,h2,h3,h4,h5,h6.weak hA,h7⟩
 |_=>exact tr h
theorem Hf.weak (hA:∀b,b<w.heap.size->A' b->A b){own:Bt}:∀{ps:List PV}{us:List Value}{j:Nat},Hf w A own j ps us->Hf w A' own j ps us
 |[],[],_,_=>trivial
 |[],_::_,_,h=>h.elim
 |_::_,[],_,h=>h.elim
 |_::_,_::_,_,h=>⟨h.1.weak hA,Hf.weak hA h.2⟩
theorem Ab7.weak (hA:∀b,b<w.heap.size->A' b->A b){bt:Bt}{p:PV}{u:Value}(h:Ab7 w A bt p u):Ab7 w A' bt p u:=by
 cases p with
 |pbox ps=>
  obtain⟨b,ob,h1,h2,h3,vs,h4,h5⟩:=h;exact⟨b,ob,h1,h2,h3,vs,h4.weak hA,h5⟩
 |tup ps=>
  obtain⟨es,n,c,h1,h2⟩:=h;exact⟨es,n,c,h1,h2.weak hA⟩
 |agg cs=>
  obtain⟨vs,h1,h2,h3⟩:=h;exact⟨vs,h1,h2,h3.weak hA⟩
 |_=>exact⟨h.1,h.2.weak hA⟩
theorem Ph.weak (hA:∀b,b<w.heap.size->A' b->A b){bt:MG}:∀{ps:List PV}{us:List Value}{i:Nat},Ph w A bt i ps us->Ph w A' bt i ps us
 |[],[],_,_=>trivial
 |[],_::_,_,h=>h.elim
 |_::_,[],_,h=>h.elim
 |_::_,_::_,_,h=>⟨h.1.weak hA,Ph.weak hA h.2⟩
theorem GS {bt:MG}(k:Bool):∀{xs:List Operand}{ps:List PV}{i:Nat},Ph w A bt i ps (xs.map a.eval)->Ph w A bt i (Nr k xs ps) (xs.map a.eval)
 |[],[],_,h=>h
 |[],_::_,_,h=>h
 |_::_,[],_,h=>h
 |x::xs,p::ps,i,h=>by
  simp only[List.map_cons] at h ⊢;refine⟨?_,GS k h.2⟩;split
  ·exact⟨.inl trivial,A4.lnil _ _⟩
  ·exact h.1
theorem ZD (k:Bool)(x:Operand)(xs:List Operand)(p:PV)(ps:List PV):∃p',Nr k (x::xs) (p::ps)=p'::Nr k xs ps∧FY p'=FY p∧(FY p=true->p'=p):=by
 refine⟨_,rfl,?_,fun h=>?_⟩
 ·split
  ·rfl
  ·rfl
 ·split
  ·cases h
  ·rfl
theorem Wz {hp:Nat->Option Bx}{src:Nat->Nat->Option (Nat × Nat)} (k:Bool):∀{xs:List Operand}{ps:List PV}{i:Nat}{l:List Je},Ud hp src i ps l->Ud hp src i (Nr k xs ps) l
 |[],[],_,_,h=>h
 |[],_::_,_,_,h=>h
 |_::_,[],_,_,h=>h
 |x::xs,p::ps,i,l,h=>by
  obtain⟨p',e,h1,h2⟩:=ZD k x xs p ps;rw[e];rcases h with⟨h3,h4,h5⟩|⟨y,l',rfl,h4,h5⟩
  ·exact .inl ⟨by rw[h1];exact h3,h4,Wz k h5⟩
  ·exact .inr ⟨y,l',rfl,by rw[h2 (Air h4)];exact h4,Wz k h5⟩
theorem RB {hp:Nat->Option Bx}{src:Nat->Nat->Option (Nat × Nat)}:∀{ps:List PV}{i:Nat}{l:List Je},Ud hp src i ps l->∀id∈l.flatMap Je.ids,Cv (hp id)∧∃k off,src k 0=some (id,off)
 |[],_,_,h,id,Br=>by
  have h:_=[]:=h;rw[h] at Br;cases Br
 |p::ps,i,l,h,id,Br=>by
  rcases h with⟨_,_,h3⟩|⟨x,l',rfl,h2,h3⟩
  ·exact RB h3 id Br
  ·simp only[List.flatMap_cons,List.mem_append] at Br;rcases Br with Br|Br
   ·cases x with
    |var id' off cts ws=>
     simp only[Je.ids,List.mem_singleton] at Br;subst Br;obtain⟨_,h4,_,c,h5,_⟩:=h2;exact⟨by rw[h5];trivial,i,_,h4⟩
    |row id'=>
     simp only[Je.ids,List.mem_singleton] at Br;subst Br;obtain⟨_,h4,c,h5⟩:=h2;exact⟨by rw[h5];trivial,i,_,h4⟩
    |none=>simp[Je.ids] at Br
   ·exact RB h3 id Br
theorem Ao3 {hp:Nat->Option Bx}{src:Nat->Nat->Option (Nat × Nat)}:∀{ps:List PV}{i:Nat}{l:List Je},Ud hp src i ps l->∀k p id off,ps[k]?=some p->src (i+k) 0=some (id,off) ->
   (∃c ws,hp id=some (.st c)∧p=.pbox ws∧off+ws.length<=c.length)∨((∃c,hp id=some (.ar false c))∧off=0∧∃ws,p=.tup ws)
 |[],_,_,_,k,p,id,off,hp,_=>by simp at hp
 |p::ps,i,l,h,k,p',id,off,C2,hs=>by
  have BV:∃l',Ud hp src (i+1) ps l':=by
   rcases h with⟨_,_,h3⟩|⟨x,l',_,_,h3⟩<;>exact⟨_,h3⟩
  cases k with
  |succ k=>
   obtain⟨l',h'⟩:=BV;exact Ao3 h' k p' id off (by simpa using C2) (by rw[show i+1+k=i+(k+1) by omega];exact hs)
  |zero=>
   simp only[List.getElem?_cons_zero,Option.some.injEq] at C2;subst C2;rw[Nat.add_zero] at hs;rcases h with⟨_,h2,_⟩|⟨x,l',_,h2,_⟩
   ·rw[hs] at h2;cases h2
   ·cases x with
    |var id' off' cts ws=>
     obtain⟨h3,h4,_,c,h5,h6⟩:=h2;rw[hs] at h4;cases h4;exact .inl ⟨c,ws,h5,h3,h6⟩
    |row id'=>
     obtain⟨h3,h4,c,h5⟩:=h2;rw[hs] at h4;cases h4;exact .inr ⟨⟨c,h5⟩,rfl,h3⟩
    |none=>
     have:=h2.2;rw[hs] at this;cases this
theorem Acv {hp : Nat -> Option Bx} {src : Nat -> Nat -> Option (Nat × Nat)} {id off : Nat} {cts : List CT} {ws : List PV} : ∀ {ps : List PV} {i : Nat} {l : List Je}, Ud hp src i ps l -> Je.var id off cts ws ∈ l ->
      ∃ k, ps[k]? = some (.pbox ws) ∧ src (i + k) 0 = some (id, off)
  | [], _, _, h, hm => by
    have h : _ = [] := h
    rw[h] at hm; cases hm
  | p :: ps, i, l, h, hm => by
    have next : ∀ {l'}, Ud hp src (i + 1) ps l' -> Je.var id off cts ws ∈ l' -> ∃ k, (p :: ps)[k]? = some (.pbox ws) ∧ src (i + k) 0 = some (id, off) := by
      intro l' h' Qx
      obtain⟨k, h1, h2⟩ := Acv h' Qx
      exact⟨k + 1, by simpa using h1, by rw[show i + (k + 1) = i + 1 + k by omega]; exact h2⟩
    rcases h with⟨_, _, h3⟩ | ⟨x, l', rfl, h2, h3⟩
    · exact next h3 hm
    · rcases List.mem_cons.1 hm with e | hm
      · subst e
        obtain⟨h1, h4, _⟩ := h2
        subst h1
        exact⟨0, rfl, h4⟩
      · exact next h3 hm
theorem Aed {hp:Nat->Option Bx}{src:Nat->Nat->Option (Nat × Nat)}:∀{ps:List PV}{i:Nat}{l:List Je},Ud hp src i ps l->∀k id off,i<=k->src k 0=some (id,off)->k<i+ps.length->∃p,ps[k-i]?=some p∧FY p=true
 |[],i,_,_,k,id,off,h1,_,h3=>by simp at h3;omega
 |p::ps,i,l,h,k,id,off,h1,h2,h3=>by
  by_cases e:k=i
  ·subst e;rcases h with⟨_,h4,_⟩|⟨x,l',_,h4,_⟩
   ·rw[h2] at h4;cases h4
   ·exact⟨p,by simp,Air h4⟩
  ·have BV:∃l',Ud hp src (i+1) ps l':=by
    rcases h with⟨_,_,h3⟩|⟨x,l',_,_,h3⟩<;>exact⟨_,h3⟩
   obtain⟨l',h'⟩:=BV;obtain⟨q,h5,h6⟩:=Aed h' k id off (by omega) h2 (by simp at h3;omega)
   refine⟨q,?_,h6⟩;rw[show k-i=(k-(i+1))+1 by omega]
   simpa using h5
theorem Ph.len {bt:MG}:∀{ps:List PV}{us:List Value}{i:Nat},Ph w A bt i ps us->ps.length=us.length
 |[],[],_,_=>rfl
 |[],_::_,_,h=>h.elim
 |_::_,[],_,h=>h.elim
 |_::_,_::_,_,h=>by simp[Ph.len h.2]
theorem Ab8 (h:B3 N w0 X0 Y β s a w){G:U7}(Jr:LO P G w0 X0){C:Ji}{call:Af}(C6:∀f args res,call f args=some res->Da G P f args res){c:Call}{f:FuncId}(ho:o.op=.call c)(hc:c.callee=.value (.func f))
  {K:St->Option R} (hk:JR C P N call s o f c K=some r):
  ∃s',K s'=some r∧∀(next:Act->World->Prop) (Q:Exit->Act->World->Prop),(∀a' w' β',B3 N w0 X0 Y β' s' a' w'->next a' w')->o.wp P a w next Q:=by
 unfold JR at hk;obtain⟨vs0,m,x,l,src,Eb,hm,hx,hS,hL,Ey⟩:=WU h hk;obtain⟨hb,Gi⟩:=Ax Eb;simp only[Bool.and_eq_true] at hb;obtain⟨⟨⟨TY,A07⟩,hN⟩,Am1⟩:=hb;have hN:0<N:=Nat.lt_of_succ_le (Nat.le_of_ble_eq_true hN);obtain⟨hnl,hnx,hlx⟩:=L8 TY
 have hml:∀i∈m,i ∉ l.flatMap Je.ids∧i ∉ x:=by
  intro i hi;have:=List.all_eq_true.1 A07 i hi
  have hn:∀k∈l.flatMap Je.ids++x,i≠k:=by
   rintro k hk rfl
   have h2:(l.flatMap Je.ids++x).any (Nat.beq i)=true:=List.any_eq_true.2 ⟨i,hk,Nat.beq_refl i⟩;rw[h2] at this;cases this
  exact⟨fun hq=>hn i (by simp only[List.mem_append];exact .inl hq) rfl,fun hq=>hn i (by simp only[List.mem_append];exact .inr hq) rfl⟩
 replace hL:=Wz (C.kz f) (xs:=c.args.toList) hL
 replace Ey:=fun fz h1 h2 bt CQ=>GS (a:=a) (C.kz f) (Ey fz h1 h2 bt CQ)
 generalize Nr (C.kz f) c.args.toList vs0=vs at Gi Ey hL;obtain⟨rv,ro,X6,Un⟩:=XJ Gi;obtain⟨ws,bs,T8,hwl,hnt,OO,hrs,hri,hws⟩:=IF (C.shr f) N Un;obtain⟨Vu,WS⟩:=Ax T8;obtain⟨lids,UV⟩:∃lids,l.flatMap Je.ids=lids:=⟨_,rfl⟩;rw[UV] at hS hnl hlx hml;have A45:∀i,i ∉ x->Zl (Ag s.hp m) x i=Ag s.hp m i:=fun i hi=>by rw[Ih,if_neg hi]
 have Ai7:∀i,i∈lids->Zl (Ag s.hp m) x i=s.hp i:=fun i hi=>by
  rw[A45 i (hlx i hi),Co,if_neg (fun hq=>(hml i hq).1 hi)]
 have hLM:Ud (Zl (Ag s.hp m) x) src 0 vs l:=FZ (fun i hi=>Ai7 i (UV ▸ hi)) hL
 obtain⟨C2,bs',qs,hk6,hbq,WM,OT,Ib,Pc,hsh,ZB⟩:=Zc (β:=β) (j:=Sc rv) WS hLM (by rw[UV];exact hnl)
 obtain⟨Ul,hk7⟩:=Ax hk6;refine⟨_,hk7,fun next Q hn=>?_⟩
 clear hk Eb Gi Un T8 WS hk6 hk7;rw[UV] at Pc;obtain⟨⟨fn,hfn,hfb⟩,YQ⟩:=C6 f vs _ X6;have hf:=h.freeze hm;have Am0:=RB hL;rw[UV] at Am0
 have XT:∀i,i∈lids∨i∈x->Ag s.hp m i=s.hp i:=by
  intro i hi;rw[Co,if_neg];intro hq;rcases hi with hi|hi
  ·exact (hml i hq).1 hi
  ·exact (hml i hq).2 hi
 have GF:∀i,i∈lids∨i∈x->Cv (s.hp i):=by
  intro i hi;rcases hi with hi|hi
  ·exact (Am0 i hi).1
  ·obtain⟨cc,hcc⟩:=hx i hi;rw[hcc];trivial
 have A4l:∀i j id off,src i j=some (id,off)->id∈lids∨id∈x:=by
  intro i j id off hs;cases j with
  |zero=>exact .inl (hS.lent i id off hs)
  |succ j=>exact .inr (hS.mvd i j id off hs).2
 obtain⟨bt,CQ⟩:∃bt:MG,∀i j,bt i j=(src i j).bind (Jt β):=⟨_,fun _ _=>rfl⟩
 have btS:∀{i j b ob},bt i j=some (b,ob)->∃id off o',src i j=some (id,off)∧β id=some (b,o')∧ob=o'+off∧(id∈lids∨id∈x):=by
  intro i j b ob hb;rw[CQ] at hb;cases hs:src i j with
  |none=>rw[hs] at hb;cases hb
  |some q=>
   rw[hs] at hb;obtain⟨id,off⟩:=q;simp only[Option.bind_some,Jt] at hb;cases hβ:β id with
   |none=>rw[hβ] at hb;cases hb
   |some p=>
    rw[hβ] at hb;obtain⟨b',o'⟩:=p;simp only[Option.map_some,Option.some.injEq,Prod.mk.injEq] at hb;obtain⟨rfl,rfl⟩:=hb;exact⟨id,off,o',rfl,hβ,rfl,A4l i j id off hs⟩
 have btX:∀{b},BtX bt b->∃id o',β id=some (b,o')∧(id∈lids∨id∈x):=by
  rintro b ⟨i,j,ob,hb⟩
  obtain⟨id,off,o',_,h2,_,h4⟩:=btS hb;exact⟨id,o',h2,h4⟩
 have hBA:∀b,BtX bt b->DF s.hp β b:=fun b hb=>by
  obtain⟨id,o',h1,h2⟩:=btX hb;exact⟨id,o',GF id h2,h1⟩
 obtain⟨Yc,hYc⟩:∃Yc:Nat->Prop,∀b,Yc b↔((∃id ob,Cv (Ag s.hp m id)∧β id=some (b,ob)∧id ∉ lids∧id ∉ x)∨Y b):=⟨_,fun _=>Iff.rfl⟩
 have Ha:vs.length=c.args.toList.length:=by
  have:=(Ey m (fun _ hi=>hi) hm bt CQ).len
  simpa using this
 have A96:Ins w Yc bt vs (c.args.toList.map a.eval):=by
  refine⟨fun b hb=>?_,fun b hb hB=>?_,fun b hB=>?_,fun i j i' j' b ob ob' hb I7=>?_,fun i q hq=>?_,?_⟩
  ·rcases (hYc b).1 hb with⟨id,ob,hl,hβ,_⟩|hY
   ·exact hf.blt id b ob (Dk hl) hβ
   ·exact Nat.lt_of_lt_of_le (h.Ylt b hY) h.fr.step.size
  ·obtain⟨id',o',h1,h2⟩:=btX hB;rcases (hYc b).1 hb with⟨id,ob,hl,hβ,h3,h4⟩|hY
   ·have:=hf.inj id id' b ob o' hl (by show Cv (Ag s.hp m id');rw[XT id' h2];exact GF id' h2) hβ h1
    subst this;rcases h2 with h2|h2
    ·exact h3 h2
    ·exact h4 h2
   ·exact h.Yx b hY ⟨id',o',GF id' h2,h1⟩
  ·obtain⟨id',o',h1,h2⟩:=btX hB;exact h.blt id' b o' (Dk (GF id' h2)) h1
  ·obtain⟨id,off,o1,h1,h2,_,h4⟩:=btS hb;obtain⟨id',off',o1',XK,h2',_,h4'⟩:=btS I7;have:=h.inj id id' b o1 o1' (GF id h4) (GF id' h4') h2 h2';subst this;cases j with
   |zero=>
    cases j' with
    |zero=>exact⟨hS.inj0 hnl i i' id off off' h1 XK,rfl⟩
    |succ j'=>exact absurd (hS.mvd i' j' id off' XK).2 (hlx id (hS.lent i id off h1))
   |succ j=>
    cases j' with
    |zero=>exact absurd (hS.mvd i j id off h1).2 (hlx id (hS.lent i' id off' XK))
    |succ j'=>
     obtain⟨h5,h6⟩:=hS.inj1 hnx i i' j j' id off off' h1 XK;exact⟨h5,by rw[h6]⟩
  ·obtain⟨b,ob⟩:=q;obtain⟨id,off,o',h1,_⟩:=btS hq;obtain⟨p,hp,h2⟩:=Aed hL i id off (Nat.zero_le _) h1 (by have:=hS.dom i 0 _ h1;rw[Ha];exact this.2)
   exact⟨p,by simpa using hp,h2⟩
  ·refine (Ey m (fun _ hi=>hi) hm bt CQ).weak fun b _ hb=>?_
   rcases hb with hb|hb
   ·obtain⟨id',o',h1,h2⟩:=btX hb;exact .inl ⟨id',o',by rw[XT id' h2];exact GF id' h2,h1⟩
   ·rcases (hYc b).1 hb with⟨id,ob,hl,hβ,_⟩|hY
    ·exact .inl ⟨id,ob,hl,hβ⟩
    ·exact .inr hY
 unfold Oper.wp;rw[GC ho hc Jr.ng hfn hfb];show Calls P f _ w _;have hca:c.args.map a.eval=(c.args.toList.map a.eval).toArray:=by rw[←List.map_toArray,Array.toArray_toList]
 rw[hca];refine (YQ w Yc bt _ A96 (Jr.fr w h.fr) (fun b x=>⟨Nat.lt_of_lt_of_le (Jr.y b x).1 h.fr.step.size,fun hB=>(h.ownd b (hBA b hB)).elim (Jr.y b x).2 (fun AK=>absurd (Jr.y b x).1 (Nat.not_lt.2 AK))⟩)).mono ?_
 rintro e w' ⟨us,own,rfl,out⟩
 obtain⟨ha1,ha2⟩:=B5 Ul;obtain⟨hg1,hg2⟩:=F5 (hp:=C2) ha2;have Ahb:=V8 Ul;rw[List.map_append,List.nodup_append] at Ahb;obtain⟨Bco,A3b,A6p⟩:=Ahb;rw[hbq] at A3b
 obtain⟨β1,hβ1,hβ2⟩:∃β1:Bt,(∀i,(∃bx,(i,bx)∈bs)->β1 i=own ((i-o.dst.getD N) / N))∧∀i,(¬∃bx,(i,bx)∈bs)->β1 i=match AY qs i with|some j=>own j|none=>β i:=by
  refine⟨fun i=>if (bs.any fun q=>Nat.beq q.1 i)=true then own ((i-o.dst.getD N) / N) else match AY qs i with|some j=>own j|none=>β i,fun i hi=>?_,fun i hi=>?_⟩
  ·show (if _ then _ else _)=_
   rw[if_pos (Abh.2 hi)]
  ·show (if _ then _ else _)=_
   rw[if_neg (fun hq=>hi (Abh.1 hq))]
 have hβbs:∀j,(∃bx,(o.dst.getD N+N*j,bx)∈bs)->β1 (o.dst.getD N+N*j)=own (0+j):=by
  intro j hj;rw[hβ1 _ hj,Nat.add_sub_cancel_left,Nat.mul_div_cancel_left _ hN,Nat.zero_add]
 have hqb:∀q∈qs,∃bx,(q.1,bx)∈bs':=by
  intro q hq;have:q.1∈bs'.map (·.1):=by rw[hbq];exact List.mem_map_of_mem hq
  obtain⟨⟨i,bx⟩,hm,e⟩:=List.mem_map.1 this;exact⟨bx,e ▸ hm⟩
 have Bag:∀i bx,(i,bx)∈bs'->∃j,(i,j)∈qs:=by
  intro i bx hm;have:i∈qs.map (·.1):=by rw[←hbq];exact List.mem_map.2 ⟨_,hm,rfl⟩
  obtain⟨⟨i',j⟩,hm,e⟩:=List.mem_map.1 this;exact⟨j,e ▸ hm⟩
 have hbb:∀i,(∃bx,(i,bx)∈bs')->¬∃bx,(i,bx)∈bs:=by
  rintro i ⟨bx,hm⟩ ⟨bx',Qx⟩
  exact A6p i (List.mem_map.2 ⟨_,Qx,rfl⟩) i (List.mem_map.2 ⟨_,hm,rfl⟩) rfl
 have hβqs:∀q∈qs,β1 q.1=own q.2:=by
  intro q hq;rw[hβ2 q.1 (hbb q.1 (hqb q hq)),Ap8 A3b q hq]
 have hβold:∀i,C2 i≠none->β1 i=β i:=by
  intro i hi
  have hn1:¬∃bx,(i,bx)∈bs:=by
   rintro⟨bx,hm⟩
   exact hi (ha1 i bx (List.mem_append.2 (.inl hm)))
  rw[hβ2 i hn1,Ab4];intro hm;obtain⟨q,hq,e⟩:=List.mem_map.1 hm;obtain⟨bx,Nv⟩:=hqb q hq;exact hi (ha1 i bx (List.mem_append.2 (.inr (e ▸ Nv))))
 obtain⟨Ui,hba⟩:=hws w' _ own β1 w.heap.size 0 us hβbs out.vals;obtain⟨A9r,A3e⟩:=ZB w' _ own β1 bt hβqs (fun i=>CQ i 0) out.outs
 have Axm:∀id∈lids,∃y∈l,id∈y.ids:=by
  intro id Br;rw[←UV] at Br;exact List.mem_flatMap.1 Br
 have At6:∀id∈lids,(∃off c cs,s.hp id=some (.st c)∧C2 id=some (.st (Bq c cs off))∧off+cs.length<=c.length∧(∀p∈cs,∀i∈Az p,∃bx,(i,bx)∈bs'))∨∃c cs,s.hp id=some (.ar false c)∧C2 id=some (.ar false cs):=by
  intro id Br;obtain⟨y,hy,hyi⟩:=Axm id Br;have h1:=hsh y hy;cases y with
  |var id' off cts ws'=>
   simp only[Je.ids,List.mem_singleton] at hyi;subst hyi;obtain⟨c1,cs,h2,h3,h4,h5,h6⟩:=h1;rw[Ai7 id Br] at h2;exact .inl ⟨off,c1,cs,h2,h3,h5,h6⟩
  |row id'=>
   simp only[Je.ids,List.mem_singleton] at hyi;subst hyi;obtain⟨c1,cs,h2,h3⟩:=h1;rw[Ai7 id Br] at h2;exact .inr ⟨c1,cs,h2,h3⟩
  |none=>simp[Je.ids] at hyi
 have A9l:∀id∈lids,C2 id≠none:=by
  intro id Br;rcases At6 id Br with⟨_,_,_,_,h2,_⟩|⟨_,_,_,h2⟩<;>rw[h2]<;>simp
 have hpK:∀id,id ∉ lids->C2 id=Zl (Ag s.hp m) x id:=fun id Br=>Pc id Br
 have Ko:∀i,s.hp i≠none->C2 i≠none:=by
  intro i hi;by_cases hl:i∈lids
  ·exact A9l i hl
  ·rw[hpK i hl,Ih];have h1:Ag s.hp m i≠none:=fun e=>hi (Fk.1 e)
   split
   ·cases hq:Ag s.hp m i with
    |none=>exact absurd hq h1
    |some b=>simp
   ·exact h1
 have Au0:∀i,(s.hp i≠none∨∃bx,(i,bx)∈bs++bs')->A6 C2 (bs++bs') i≠none:=by
  rintro i (hi|⟨bx,hm⟩)
  ·have h1:=Ko i hi;rw[hg2 i (fun bx hm=>h1 (ha1 i bx hm))]
   exact h1
  ·rw[hg1 i bx hm];simp
 have J8:∀id,(∃bx,(id,bx)∈bs++bs')∨A6 C2 (bs++bs') id=C2 id:=fun id=>by
  by_cases hx:∃bx,(id,bx)∈bs++bs'
  ·exact .inl hx
  ·exact .inr (hg2 id fun bx hb=>hx ⟨bx,hb⟩)
 have hold:∀id bx,C2 id=some bx->Cv (some bx)->Cv (s.hp id)∧id ∉ x∧(id∈lids∨(id ∉ lids∧Ag s.hp m id=some bx)):=by
  intro id bx hb hl;by_cases Br:id∈lids
  ·exact⟨GF id (.inl Br),hlx id Br,.inl Br⟩
  ·rw[hpK id Br,Ih] at hb;split at hb
   ·cases hq:Ag s.hp m id with
    |none=>rw[hq] at hb;cases hb
    |some b=>rw[hq] at hb;simp at hb;subst hb;exact hl.elim
   ·rename_i hxn;exact⟨by rw[Mp hb hl];exact hl,hxn,.inr ⟨Br,hb⟩⟩
 have CL:∀i bx,(i,bx)∈bs++bs'->∃j,β1 i=own j∧((i=o.dst.getD N+N*j∧j<Sc rv)∨((i,j)∈qs∧Sc rv<=j)):=by
  intro i bx hm;rcases List.mem_append.1 hm with hm|hm
  ·obtain⟨⟨j,rfl,hj⟩,_⟩:=hba i bx hm;exact⟨j,by rw[hβbs j ⟨bx,hm⟩,Nat.zero_add],.inl ⟨rfl,hj⟩⟩
  ·obtain⟨j,hj⟩:=Bag i bx hm;exact⟨j,hβqs _ hj,.inr ⟨hj,(WM _ hj).2⟩⟩
 have Ax3:∀i bx,(i,bx)∈bs++bs'->Cv (some bx)∧U5 w' (SU bt own Yc) β1 i bx∧∀cs,bx=.st cs->∀b ob,β1 i=some (b,ob)->w.heap.size<=b:=by
  intro i bx hm;rcases List.mem_append.1 hm with hm|hm
  ·exact (hba i bx hm).2
  ·obtain⟨cc,rfl⟩:=Ib i bx hm;exact⟨trivial,A9r i _ hm,fun cs e=>by cases e⟩
 have A0m:∀b,(∃i k o',bt i (k+1)=some (b,o'))->∃id o',id∈x∧β id=some (b,o'):=by
  rintro b ⟨i,k,o',hb⟩
  obtain⟨id,off,o1,h1,h2,_,_⟩:=btS hb;exact⟨id,o1,(hS.mvd i k id off h1).2,h2⟩
 have hX:∀b,b<w.heap.size->DF (A6 C2 (bs++bs')) β1 b->DF s.hp β b:=by
  rintro b hb ⟨id,ob,hl,hβ⟩
  rcases J8 id with⟨bx,hm⟩|e
  ·obtain⟨j,hj,_⟩:=CL id bx hm;rw[hj] at hβ;obtain⟨id',o',h1,h2⟩:=A0m b ((out.fresh j b ob hβ).2 hb).1;exact⟨id',o',GF id' (.inr h1),h2⟩
  ·rw[e] at hl;cases hq:C2 id with
   |none=>rw[hq] at hl;exact hl.elim
   |some bx=>
    rw[hq] at hl;exact⟨id,ob,(hold id bx hq hl).1,by rw[←hβold id (by rw[hq];simp)];exact hβ⟩
 have hAo:∀b,b<w.heap.size->De (A6 C2 (bs++bs')) β1 Y b->De s.hp β Y b:=fun b hb hA=>hA.imp (hX b hb) id
 have hAO:∀b,De (A6 C2 (bs++bs')) β1 Y b->SU bt own Yc b:=by
  rintro b (⟨id,ob,hl,hβ⟩|hY)
  ·rcases J8 id with⟨bx,hm⟩|e
   ·obtain⟨j,hj,_⟩:=CL id bx hm;rw[hj] at hβ;exact .inl ⟨j,ob,hβ⟩
   ·rw[e] at hl;cases hq:C2 id with
    |none=>rw[hq] at hl;exact hl.elim
    |some bx=>
     rw[hq] at hl;rw[hβold id (by rw[hq];simp)] at hβ
     obtain⟨h1,h2,h3⟩:=hold id bx hq hl;rcases h3 with h3|⟨h3,h4⟩
     ·obtain⟨_,i,off,hs⟩:=Am0 id h3;exact .inr (.inl ⟨i,ob+off,by rw[CQ,hs];simp[Jt,hβ]⟩)
     ·exact .inr (.inr ((hYc b).2 (.inl ⟨id,ob,by rw[h4];exact hl,hβ,h3,h2⟩)))
  ·exact .inr (.inr ((hYc b).2 (.inr hY)))
 have Gv:Cq (De s.hp β Y) w w':=out.ext.weaken (fun b _ hb=>.inl (hBA b hb))
 have At2:∀i,s.hp i≠none->β1 i=β i:=fun i hi=>hβold i (Ko i hi)
 have hCL:∀b j,XE bt vs b j->∃id o' bx,s.hp id=some bx∧Cv (some bx)∧β id=some (b,o')∧BR bx o' j:=by
  rintro b j ⟨i,p,hp,⟨k,ob,hb,AK⟩|⟨ob,ps,hb,AK,MZ⟩⟩
  ·obtain⟨id,off,o',h1,h2,h3,_⟩:=btS hb;obtain⟨h5,h6⟩:=hS.mvd i k id off h1;obtain⟨cc,hcc⟩:=hx id h6;exact⟨id,o',_,hcc,trivial,h2,show o'<=j by omega⟩
  ·obtain⟨id,off,o',h1,h2,h3,_⟩:=btS hb;rcases Ao3 hL i p id off hp (by rw[Nat.zero_add];exact h1) with⟨c1,wz,h5,h6,h7⟩|⟨⟨c1,h5⟩,_⟩
   ·rcases MZ with⟨h8,h9⟩|h8
    ·rw[h6] at h8;cases h8;exact⟨id,o',_,h5,trivial,h2,show o'<=j∧j<o'+c1.length by omega⟩
    ·rw[h6] at h8;cases h8
   ·exact⟨id,o',_,h5,trivial,h2,show o'<=j by omega⟩
 have hnL:∀id off cts wz,Je.var id off cts wz∈l->id∈lids->∀b ob,β id=some (b,ob)->∀j,(j<off∨off+wz.length<=j)->(∃c1,s.hp id=some (.st c1))->¬XE bt vs b (ob+j):=by
  rintro id off cts wz hy Br b ob hβ j hj ⟨c1,hc1⟩ ⟨i,p,hp,⟨k,ob',hb,AK⟩|⟨ob',ps,hb,AK,MZ⟩⟩
  ·obtain⟨id',off',o',h1,h2,h3,h4⟩:=btS hb;have:=h.inj id id' b ob o' (GF id (.inl Br)) (GF id' h4) hβ h2;subst this;exact hlx id Br (hS.mvd i k id off' h1).2
  ·obtain⟨id',off',o',h1,h2,h3,h4⟩:=btS hb;have:=h.inj id id' b ob o' (GF id (.inl Br)) (GF id' h4) hβ h2;subst this;rw[hβ] at h2;cases h2;obtain⟨k,Eb,Gi⟩:=Acv hL hy;rw[Nat.zero_add] at Gi;have hik:=hS.inj0 hnl i k id off' off h1 Gi;subst hik;rw[h1] at Gi;cases Gi;rw[hp] at Eb;cases Eb;rcases MZ with⟨h8,h9⟩|h8
   ·cases h8;omega
   ·cases h8
 have hval:Ed w' (De (A6 C2 (bs++bs')) β1 Y) β1 (Sk ws (Td P o.type)) (Ly us):=by
  have Wc:Bw (Ia w' (De (A6 C2 (bs++bs')) β1 Y) β1) ws us:=Ui.mono fun v u hvu=>hvu.step (Cq.refl _ _) (fun b _=>hAO b) (fun _ _=>rfl)
  have Ha:=Wc.len;cases hT:Td P o.type
  ·rw[hT] at Vu;have h1:ws.length=1:=Nat.eq_of_beq_eq_true Vu
   match ws,us,h1,Ha with
   |[v],[u],_,_=>
    exact (Qw (hnt v (by simp))).2 Wc.1
  ·rw[hT] at Vu
   have h1:¬ws.length=1:=by
    intro e;rw[e] at Vu;cases Vu
   have hr:Ly us=.tuple ⟨us⟩:=by
    unfold Ly;split
    ·simp at Ha;omega
    ·rfl
   rw[hr];exact⟨us,rfl,Wc⟩
 have hvr:∀i∈B8 (Sk ws (Td P o.type)),∃bx,(i,bx)∈bs:=by
  intro i hi;cases hT:Td P o.type
  ·rw[hT] at Vu hi;have h1:ws.length=1:=Nat.eq_of_beq_eq_true Vu
   match ws,h1 with
   |[v],_=>
    refine hrs v (by simp) i ?_
    have:B8 v=Cl v:=by
     have hn:=hnt v (by simp)
     cases v<;>first|rfl|exact absurd rfl (hn _)
    rw[←this];exact hi
  ·rw[hT] at hi;obtain⟨v,hv,hi⟩:=List.mem_flatMap.1 (show i∈ws.flatMap Cl from hi)
   exact hrs v hv i hi
 refine hn _ w' β1 ?_;refine⟨by rw[Kj];exact h.dfr,by rw[Hq];exact h.tsz,Aal Am1 h.tmo,?_,?_,?_,?_,?_,?_,?_,?_,?_,?_,?_,h.Ylt,?_⟩
 ·refine Tj (Q:=fun _ p u=>Ed w' (De (A6 C2 (bs++bs')) β1 Y) β1 p u) h.tsz Am1 (fun i hi=>?_) (fun _=>hval)
  exact (h.tms i hi).step Gv hAo fun id Br=>At2 id (h.wfT i hi id Br)
 ·intro id bx hb;simp only at hb;rcases J8 id with⟨bx',Qx⟩|e
  ·rw[hg1 id bx' Qx] at hb;cases hb;exact (Ax3 id _ Qx).2.1.step' hAO
  ·rw[e] at hb;have hβ:=hβold id (by rw[hb];simp)
   by_cases Br:id∈lids
   ·obtain⟨y,hy,hyi⟩:=Axm id Br;have h1:=A3e y hy;cases y with
    |var id' off cts wz=>
     simp only[Je.ids,List.mem_singleton] at hyi;subst hyi;obtain⟨c1,cs,h2,h3,h4,h5,h6⟩:=h1;rw[Ai7 id Br] at h2;rw[h3] at hb;cases hb;obtain⟨b,ob,h7,h8,h9⟩:=h.box id _ h2;obtain⟨h10,h11⟩:=h6 b ob h7;have Cc:=h.blt id b ob (by rw[h2];simp) h7
     have Xl:∀j,(j<off∨off+wz.length<=j)->w'.cell? ⟨b,ob+j,none⟩=w.cell? ⟨b,ob+j,none⟩∧w'.frozen? ⟨b,ob+j,none⟩=w.frozen? ⟨b,ob+j,none⟩:=
      fun j hj=>out.rng b (ob+j) Cc (hnL id off cts wz hy Br b ob h7 j hj ⟨c1,h2⟩)
     refine⟨b,ob,hβ.trans h7,fun j p hj=>?_,fun j hj=>?_⟩
     ·rcases Wm (by omega) hj with⟨h12,h13,h14⟩|⟨h12,h14⟩
      ·obtain⟨v,hv,hcr⟩:=h10 _ _ h14;refine⟨v,?_,hcr.step (Cq.refl _ _) (fun b _=>hAO b) (fun _ _=>rfl)⟩
       rw[show ob+j=ob+off+(j-off) by omega]
       exact hv
      ·obtain⟨v,hv,hcr⟩:=h8 _ _ h14;refine⟨v,by rw[(Xl j (by omega)).1];exact hv,hcr.step Gv hAo fun i hi=>At2 i (h.wfB id c1 h2 p (List.mem_of_getElem? h14) i hi)⟩
     ·rw[W8 (by omega)] at hj
      by_cases Zq:off<=j∧j<off+cs.length
      ·have:=h11 (j-off) (by omega)
       rw[show ob+off+(j-off)=ob+j by omega] at this
       exact this
      ·rw[(Xl j (by omega)).2]
       exact h9 j hj
    |row id'=>
     simp only[Je.ids,List.mem_singleton] at hyi;subst hyi;obtain⟨cs,h3,h4⟩:=h1;rw[h3] at hb;cases hb;rcases h4 with⟨h5,h6⟩|⟨b,ob,h5,h6,h7⟩
     ·exact .inl ⟨hβ.trans h5,h6⟩
     ·exact .inr ⟨b,ob,hβ.trans h5,h6.weak (fun b _=>hAO b),fun _=>h7,(fun q=>by cases q)⟩
    |none=>simp[Je.ids] at hyi
   ·rw[hpK id Br,Ih] at hb;split at hb
    ·cases hq:Ag s.hp m id with
     |none=>rw[hq] at hb;cases hb
     |some b0=>rw[hq] at hb;simp at hb;subst hb;trivial
    ·rename_i hxn;have Nv:=hf.box id bx hb
     have As7:∀b ob,β id=some (b,ob)->bx ≠ .mv->b<w.heap.size∧w'.heap[b]?=w.heap[b]?:=by
      intro b ob TX hmv;have Cc:=hf.blt id b ob (by show Ag s.hp m id≠none;rw[hb];simp) TX
      refine⟨Cc,out.ext.keep b Cc fun hB=>?_⟩
      obtain⟨id',o',h1,h2⟩:=btX hB;have Ou:Cv (Ag s.hp m id'):=by rw[XT id' h2];exact GF id' h2
      have hno:id≠id':=by
       rintro rfl
       rcases h2 with h2|h2
       ·exact Br h2
       ·exact hxn h2
      cases bx with
      |st cc=>exact hno (hf.inj id id' b ob o' (by show Cv (Ag s.hp m id);rw[hb];trivial) Ou TX h1)
      |ar fz cc=>
       cases fz with
       |false=>exact hno (hf.inj id id' b ob o' (by show Cv (Ag s.hp m id);rw[hb];trivial) Ou TX h1)
       |true=>
        rcases Nv with⟨h3,_⟩|⟨b2,o2,h3,_,_,h4⟩
        ·rw[TX] at h3;cases h3
        ·rw[TX] at h3;cases h3;exact h4 rfl (.inl ⟨id',o',Ou,h1⟩)
      |mv=>exact hmv rfl
     have hAoF:∀b,b<w.heap.size->De (A6 C2 (bs++bs')) β1 Y b->De (Ag s.hp m) β Y b:=by
      intro b Ib hA;rcases hA with⟨i,ob,hl,hβi⟩|hY
      ·rcases J8 i with⟨bx1,PA⟩|e1
       ·obtain⟨j,hj,_⟩:=CL i bx1 PA;rw[hj] at hβi;obtain⟨id',o',h1,h2⟩:=A0m b ((out.fresh j b ob hβi).2 Ib).1;exact .inl ⟨id',o',by rw[XT id' (.inr h1)];exact GF id' (.inr h1),h2⟩
       ·rw[e1] at hl;cases hq:C2 i with
        |none=>rw[hq] at hl;exact hl.elim
        |some bx1=>
         rw[hq] at hl;rw[hβold i (by rw[hq];simp)] at hβi
         obtain⟨h1,h2,h3⟩:=hold i bx1 hq hl;rcases h3 with h3|⟨h3,h4⟩
         ·exact .inl ⟨i,ob,by rw[XT i (.inl h3)];exact h1,hβi⟩
         ·exact .inl ⟨i,ob,by rw[h4];exact hl,hβi⟩
      ·exact .inr hY
     have A32:Cq (De (Ag s.hp m) β Y) w w':=out.ext.weaken (fun b _ hB=>by
      obtain⟨id',o',h1,h2⟩:=btX hB;exact .inl ⟨id',o',by rw[XT id' h2];exact GF id' h2,h1⟩)
     cases bx with
     |st cc=>
      obtain⟨b,ob,h1,h2,h3⟩:=Nv;obtain⟨Cc,DP⟩:=As7 b ob h1 (by simp)
      refine⟨b,ob,hβ.trans h1,fun j p hj=>?_,fun j hj=>?_⟩
      ·obtain⟨v,hv,hcr⟩:=h2 j p hj;refine⟨v,by rw[World.cell?_of_block (w:=w) DP];exact hv,hcr.step A32 hAoF fun i hi=>?_⟩
       refine At2 i (fun e1=>?_)
       exact hf.wfB id cc hb p (List.mem_of_getElem? hj) i hi (Fk.2 e1)
      ·rw[World.frozen?_of_block (w:=w) DP];exact h3 j hj
     |ar fz cc=>
      rcases Nv with⟨h1,h2⟩|⟨b,ob,h1,h2,h3,h4⟩
      ·exact .inl ⟨hβ.trans h1,h2⟩
      ·obtain⟨Cc,DP⟩:=As7 b ob h1 (by simp)
       have RW:bsz w' b=bsz w b:=by unfold bsz;rw[DP]
       refine .inr ⟨b,ob,hβ.trans h1,fun j p hj=>?_,fun e1 j hj X5=>?_,fun e1 q=>h4 e1 (hAoF b Cc q)⟩
       ·obtain⟨v,hv,h5,hc1⟩:=h2 j p hj;exact⟨v,by rw[World.cell?_of_block (w:=w) (by rw[Hh];exact DP)];exact hv,h5,hc1.step A32 hAoF⟩
       ·rw[World.frozen?_of_block (w:=w) DP];exact h3 e1 j hj (by rw[←RW];exact X5)
     |mv=>trivial
 ·intro id id' b ob ob' hl Ou hb I7;simp only at hl Ou
  have mixed:∀i bx i' k z,(i,bx)∈bs++bs'->β1 i=some (k,z)->C2 i'≠none->Cv (C2 i')->∀z',β1 i'=some (k,z')->False:=by
   intro i bx i' k z PA hz hn1 IA z' hz';obtain⟨j,hj,_⟩:=CL i bx PA;rw[hj] at hz;rw[hβold i' hn1] at hz';cases hq:C2 i' with
   |none=>exact hn1 hq
   |some bx1=>
    rw[hq] at IA;obtain⟨h1,h2,h3⟩:=hold i' bx1 hq IA;have Cc:=h.blt i' k z' (Dk h1) hz';obtain⟨id2,o2,h4,h5⟩:=A0m k ((out.fresh j k z hz).2 Cc).1;have:=h.inj i' id2 k z' o2 h1 (GF id2 (.inr h4)) hz' h5;subst this;exact h2 h4
  rcases J8 id with⟨bx,PA⟩|e1
  ·rcases J8 id' with⟨bx',hm2⟩|e2
   ·obtain⟨j,hj,MZ⟩:=CL id bx PA;obtain⟨j',X5,A4r⟩:=CL id' bx' hm2;rw[hj] at hb;rw[X5] at I7;have:=out.inj j j' b ob ob' hb I7;subst this;rcases MZ with⟨h1,h2⟩|⟨h1,h2⟩
    ·rcases A4r with⟨h3,_⟩|⟨_,h4⟩
     ·rw[h1,h3]
     ·omega
    ·rcases A4r with⟨_,h4⟩|⟨h3,_⟩
     ·omega
     ·exact OT _ h1 _ h3 rfl
   ·rw[e2] at Ou;exact (mixed id bx id' b ob PA hb (Dk Ou) Ou ob' I7).elim
  ·rw[e1] at hl;rcases J8 id' with⟨bx',hm2⟩|e2
   ·exact (mixed id' bx' id b ob' hm2 I7 (Dk hl) hl ob hb).elim
   ·rw[e2] at Ou
    have g:∀i,Cv (C2 i)->Cv (s.hp i)∧β1 i=β i:=by
     intro i hli;cases hq:C2 i with
     |none=>rw[hq] at hli;exact hli.elim
     |some bx1=>exact⟨(hold i bx1 hq (by rw[←hq];exact hli)).1,hβold i (by rw[hq];simp)⟩
    rw[(g id hl).2] at hb;rw[(g id' Ou).2] at I7;exact h.inj id id' b ob ob' (g id hl).1 (g id' Ou).1 hb I7
 ·intro id b ob hn1 hb;simp only at hn1;rcases J8 id with⟨bx,PA⟩|e1
  ·obtain⟨j,hj,_⟩:=CL id bx PA;rw[hj] at hb;exact (out.fresh j b ob hb).1
  ·rw[e1] at hn1;rw[hβold id hn1] at hb
   have hn2:s.hp id≠none:=by
    by_cases Br:id∈lids
    ·exact Dk (GF id (.inl Br))
    ·rw[hpK id Br,Ih] at hn1;intro e2;have h1:Ag s.hp m id=none:=Fk.2 e2;rw[h1] at hn1;split at hn1<;>exact hn1 rfl
   exact Nat.lt_of_lt_of_le (h.blt id b ob hn2 hb) out.ext.size
 ·have:=Tj (Q:=fun _ p _=>∀id∈B8 p,A6 C2 (bs++bs') id≠none) (val:=Ly us) (d:=o.dst) (v:=Sk ws (Td P o.type)) h.tsz Am1 (fun i hi id Br=>Au0 id (.inl (h.wfT i hi id Br))) (fun _ id Br=>Au0 id (.inr (by
   obtain⟨bx,hb⟩:=hvr id Br;exact⟨bx,List.mem_append.2 (.inl hb)⟩)))
  exact this
 ·intro id cells Aaw p hp i hi;simp only at Aaw;refine Au0 i ?_;rcases J8 id with⟨bx,PA⟩|e1
  ·rw[hg1 id bx PA] at Aaw;cases Aaw;rcases List.mem_append.1 PA with PA|PA
   ·obtain⟨bx1,hb⟩:=hri id cells PA p hp i hi;exact .inr ⟨bx1,List.mem_append.2 (.inl hb)⟩
   ·obtain⟨cc,e2⟩:=Ib id _ PA;cases e2
  ·rw[e1] at Aaw;by_cases Br:id∈lids
   ·rcases At6 id Br with⟨off,c1,cs,h1,h2,h3,h4⟩|⟨c1,cs,h1,h2⟩
    ·rw[h2] at Aaw;cases Aaw;unfold Bq at hp;rcases List.mem_append.1 hp with hp|hp
     ·rcases List.mem_append.1 hp with hp|hp
      ·exact .inl (h.wfB id c1 h1 p (List.mem_of_mem_take hp) i hi)
      ·obtain⟨bx1,hb⟩:=h4 p hp i hi;exact .inr ⟨bx1,List.mem_append.2 (.inr hb)⟩
     ·exact .inl (h.wfB id c1 h1 p (List.mem_of_mem_drop hp) i hi)
    ·rw[h2] at Aaw;cases Aaw
   ·obtain⟨_,_,h3⟩:=hold id _ Aaw trivial;rcases h3 with h3|⟨_,h3⟩
    ·exact absurd h3 Br
    ·exact .inl (h.wfB id cells (Mp h3 trivial) p hp i hi)
 ·rintro b ⟨id,ob,hl,hβ⟩
  rcases Nat.lt_or_ge b w.heap.size with Cc|hge
  ·exact h.ownd b (hX b Cc ⟨id,ob,hl,hβ⟩)
  ·exact .inr (Nat.le_trans h.fr.step.size hge)
 ·intro id bx b ob hb hl hβ Cc j hj;simp only at hb;have hlw:=Nat.lt_of_lt_of_le Cc h.fr.step.size;rcases J8 id with⟨bx',PA⟩|e1
  ·rw[hg1 id bx' PA] at hb;cases hb;obtain⟨k,hk,_⟩:=CL id bx PA;rw[hk] at hβ
   have AK:ob<=j:=by
    cases bx with
    |st cc=>exact hj.1
    |ar fz cc=>exact hj
    |mv=>exact hl.elim
   obtain⟨id2,o2,bx2,h1,h2,h3,h4⟩:=hCL b j (((out.fresh k b ob hβ).2 hlw).2 j AK);exact h.rngB id2 bx2 b o2 h1 h2 h3 Cc j h4
  ·rw[e1] at hb;rw[hβold id (by rw[hb];simp)] at hβ
   obtain⟨h1,h2,h3⟩:=hold id bx hb hl;rcases h3 with h3|⟨h3,h4⟩
   ·rcases At6 id h3 with⟨off,c1,cs,h5,h6,h7,_⟩|⟨c1,cs,h5,h6⟩
    ·rw[h6] at hb;cases hb;have hj:ob<=j∧j<ob+(Bq c1 cs off).length:=hj;rw[W8 (by omega)] at hj
     exact h.rngB id _ b ob h5 trivial hβ Cc j hj
    ·rw[h6] at hb;cases hb;exact h.rngB id _ b ob h5 trivial hβ Cc j hj
   ·exact h.rngB id bx b ob (Mp h4 hl) hl hβ Cc j hj
 ·intro i hi;obtain⟨h1,h2⟩:=h.pin i hi;exact⟨Au0 _ (.inl h1),by rw[At2 _ h1];exact h2⟩
 ·intro id cc b ob hb hβ Cc;simp only at hb;have hlw:=Nat.lt_of_lt_of_le Cc h.fr.step.size;rcases J8 id with⟨bx',PA⟩|e1
  ·rw[hg1 id bx' PA] at hb;cases hb;have:=(Ax3 id _ PA).2.2 cc rfl b ob hβ;omega
  ·rw[e1] at hb;rw[hβold id (by rw[hb];simp)] at hβ
   obtain⟨h1,h2,h3⟩:=hold id _ hb trivial;rcases h3 with h3|⟨h3,h4⟩
   ·rcases At6 id h3 with⟨off,c1,cs,h5,h6,h7,_⟩|⟨c1,cs,h5,h6⟩
    ·exact h.stp id c1 b ob h5 hβ Cc
    ·rw[h6] at hb;cases hb
   ·exact h.stp id cc b ob (Mp h4 trivial) hβ Cc
 ·intro b hY hXb;exact h.Yx b hY (hX b (Nat.lt_of_lt_of_le (h.Ylt b hY) h.fr.step.size) hXb)
 ·refine⟨out.os.trans h.fr.os,out.tape.trans h.fr.tape,out.output.trans h.fr.output,⟨Nat.le_trans h.fr.step.size out.ext.size,fun b hb hnX=>?_,fun b hb=>Nat.le_trans (h.fr.step.bs b hb) (out.ext.bs b (Nat.lt_of_lt_of_le hb h.fr.step.size))⟩,fun b j hb hnL=>?_⟩
  ·rw[out.ext.keep b (Nat.lt_of_lt_of_le hb h.fr.step.size) ?_]
   ·exact h.fr.step.keep b hb hnX
   ·intro hB;rcases h.ownd b (hBA b hB) with hq|hq
    ·exact hnX hq
    ·omega
  ·have hno:¬XE bt vs b j:=by
    intro hq;obtain⟨id2,o2,bx2,h1,h2,h3,h4⟩:=hCL b j hq;exact hnL (h.rngB id2 bx2 b o2 h1 h2 h3 hb j h4)
   obtain⟨h1,h2⟩:=out.rng b j (Nat.lt_of_lt_of_le hb h.fr.step.size) hno;rw[h1,h2];exact h.fr.rng b j hb hnL
end
open Go.RowKit
section
variable {R:Type} {r:R} {P:Program} {N:Nat} {w0:World} {X0:Fz} {Y:Nat->Prop} {β β':Bt} {s:St} {a:Act} {w w':World} {o:Oper} {A:Nat->Prop}
theorem Abj (h:B3 N w0 X0 Y β s a w){c:Call}(ho:o.op=.call c)(hc:c.callee=.builtin .append){d:Nat}(Am1:o.dst=some d){b x:Operand}(Ey:c.args.toList=[b,x]) {t tx:TypeId}{ts:List TypeId}(OE:c.argTypes.toList=t::tx::ts)
  {K:St->Option R} (hk:Tq P N s d t tx (Cw s.tm b) (Cw s.tm x) K=some r):
  ∃s',K s'=some r∧∀(next:Act->World->Prop) (Q:Exit->Act->World->Prop),(∀a' w' β',B3 N w0 X0 Y β' s' a' w'->next a' w')->o.wp P a w next Q:=by
 have SZ:c.args = #[b,x]:=by
  have:c.args=([b,x]:List Operand).toArray:=by rw[←Ey]
  exact this
 have Acm:c.argTypes=(t::tx::ts).toArray:=by rw[←OE]
 have run:∀{v:Value} {w1:World},(Builtin.append_ (t::tx::ts).toArray o.type #[a.eval b,a.eval x]).run P w=.ok v w1->∀(next:Act->World->Prop) (Q:Exit->Act->World->Prop),next (a.put (some d) v) w1->o.wp P a w next Q:=by
  intro v w1 hr next Q hn;unfold Oper.wp execOp;rw[ho];simp only[resolve,hc,invoke,builtin,Sem.run_bind,Sem.run_pure,Result.andThen_ok,SZ,Acm];have:(#[b,x]:Array Operand).map a.eval = #[a.eval b,a.eval x]:=by simp
  rw[this,hr];show next (a.put o.dst v) w1;rw[Am1];exact hn
 have hbv:=Dy h b;have hbr:=G6 h b;unfold Tq at hk;split at hk
 ·rename_i e hu;obtain⟨hzi,hk⟩:=Ax hk;obtain⟨i,z,hi,hz,hzs,Lw⟩:=QF hzi;cases hit:HR P tx
  rotate_left
  ·rw[hit] at hk;simp only[cond_true] at hk
   obtain⟨ki,htx⟩:∃k,P.underlying tx=some (.int k):=by
    unfold HR at hit;split at hit
    ·exact⟨_,by assumption⟩
    ·cases hit
   unfold Zf at hk;obtain⟨kx,n,hx,hk⟩:=D9 hk;obtain⟨zz,n',c',hk,hp⟩:=Ho hk;obtain⟨hb,hk⟩:=Ax hk;simp only[Bool.and_eq_true,decide_eq_true_eq] at hb;obtain⟨⟨⟨⟨⟨hzz,hdN⟩,EX⟩,OR⟩,hby⟩,hnm⟩:=hb;have hdN:d<N:=Nat.lt_of_succ_le (Nat.le_of_ble_eq_true hdN);have EX:s.hp d=none:=by simpa using EX
   have Agj:Il N (some d)=true:=by simp[Il,Nat.blt];omega
   have Zo:((P.info? e).map (·.bytes)).getD 0=i.bytes:=by rw[hi];rfl
   rw[Zo] at hby;rw[Lw] at hk;have D6:=Df h hx;rcases slice_form hp hbv with⟨Ul,_⟩|⟨_,_,_,RX,_⟩|⟨_,_,_,RX,_⟩
   ·refine⟨_,hk,fun next Q hn=>?_⟩
    by_cases hm0:n=0
    ·subst hm0;have hr:=JF (P:=P) (w:=w) (t:=t) (tx:=tx) (ty:=o.type) (ts:=ts) (kx:=kx) hu htx hi;rw[←Ul,←D6] at hr;refine run hr next Q (hn _ _ (Dd β d none) ?_);rw[Ul];refine h.stepR (d:=some d) (nw:=[(d,.ar false [])]) (β':=Dd β d none) Agj (by simp[Ck,EX]) ⟨rfl,rfl,rfl,Cq.refl _ _,fun j hj=>Aq _ _ (by rintro rfl;exact hj EX),?_,?_,?_,?_,?_,.inl ⟨A3 _ _ _,rfl,rfl,none,rfl⟩,?_⟩
     ·intro j bx hm;simp at hm;rw[hm.2];trivial
     ·intro j bx hm;simp at hm;obtain⟨rfl,rfl⟩:=hm;exact .inl ⟨A3 _ _ _,rfl⟩
     ·intro j bx k q hm hq;simp at hm;obtain⟨rfl,rfl⟩:=hm;rw[A3] at hq;cases hq
     ·intro j bx j' bx' k q q' hm Qx _ _;simp at hm Qx;rw[hm.1,Qx.1]
     ·intro j cells hm;simp at hm
     ·intro j hj;simp[B8,Cl,Az] at hj;subst hj;exact .inr ⟨.ar false [],by simp⟩
    ·have hr:=NT (P:=P) (w:=w) (t:=t) (tx:=tx) (ty:=o.type) (ts:=ts) (kx:=kx) hu htx hi hz (n:=n) (by omega) hby hnm
     rw[←Ul,←D6] at hr;refine run hr next Q (hn _ _ (Dd β d (some (w.heap.size,0))) ?_);have hge:n.toNat<=grownCap w n.toNat 0 e:=grownCap_ge w n.toNat 0 e;generalize YQ:((if n.toNat*i.size=0 then #[] else Builtin.zeroCells z.cells n.toNat)++Builtin.zeroCells z.cells (grownCap w n.toNat 0 e-n.toNat))=cs
     have DU:Im w (w.drew.alloc (.cells cs e)) cs e:=
      ⟨rfl,rfl,rfl,fun k hk=>Below.heap_alloc w.drew _ k hk,by show (w.heap.push _).size=_;simp,(0,0),by show (w.heap.push _)[w.heap.size]?=_;simp,.inl rfl⟩
     have Agg:cs.size=grownCap w n.toNat 0 e*i.size:=by
      rw[←YQ];by_cases TU:n.toNat*i.size=0
      ·rw[if_pos TU]
       have hi0:i.size=0:=by
        rcases Nat.mul_eq_zero.1 TU with h|h
        ·omega
        ·exact h
       simp[size_zeroCells,hzs,hi0]
      ·rw[if_neg TU];simp only[Array.size_append,size_zeroCells,hzs,←Nat.add_mul]
       congr 1
       omega
     refine h.stepR (d:=some d) (nw:=[(d,.ar false [])]) Agj (by simp[Ck,EX]) (V3 DU EX trivial ?_ (fun cells hx=>by cases hx) ?_ (by intro j hj;simp[B8,Cl,Az] at hj;exact .inr hj))
     ·refine .inr ⟨w.heap.size,0,A3 _ _ _,fun j p hj=>by simp at hj,fun _ j _ hj=>?_,(fun q=>by cases q)⟩
      rw[DU.bsz] at hj;exact DU.frozen hj
     ·refine .inr ⟨w.heap.size,0,0,grownCap w n.toNat 0 e,A3 _ _ _,rfl,.inl rfl,hge,?_,by rw[DU.size];omega⟩
      rw[DU.bsz,Agg];omega
   ·rw[RX] at hzz;cases hzz
   ·rw[RX] at hzz;cases hzz
  rw[hit] at hk;simp only[cond_false] at hk;have Zo:((P.info? e).map (·.bytes)).getD 0=i.bytes:=by rw[hi];rfl
  obtain⟨⟨dx,hdx,Adl⟩,m,new,news,hk,hs⟩:=SF h hk (by
   intro m new hk;split at hk
   ·split at hk
    ·obtain⟨hb,_⟩:=Ax hk;simp only[Bool.and_eq_true,decide_eq_true_eq] at hb;have he:=Nat.eq_of_beq_eq_true hb.1.1.1.1.1.1.1;rw[←he];exact hb.1.1.2
    ·cases hk
   ·obtain⟨zz,n',c',hk,_⟩:=Ho hk;obtain⟨hb,_⟩:=Ax hk;simp only[Bool.and_eq_true,decide_eq_true_eq] at hb;exact hb.1.1.2)
  rw[Lw] at hs;have hnl:new.length=news.length:=hs.rep.len;split at hk
  ·rename_i id es off n eb;rw[eb] at hbv hbr;split at hk
   ·rename_i cc h0;obtain⟨hb,Gi⟩:=Ax hk;simp only[Bool.and_eq_true,decide_eq_true_eq] at hb;obtain⟨⟨⟨⟨⟨⟨⟨LL,Uc⟩,hdN⟩,EX⟩,A6o⟩,Aiz⟩,hby⟩,hnm⟩:=hb;have LL:=Nat.eq_of_beq_eq_true LL;have Uc:=Nat.eq_of_beq_eq_true Uc;have hdN:d<N:=Nat.lt_of_succ_le (Nat.le_of_ble_eq_true hdN);have EX:s.hp d=none:=by simpa using EX
    subst Uc;rw[Lw] at LL;subst LL;rw[Zo] at hby;have MR:news.length=m*i.size:=by omega
    have Bdj:s.hp id≠none:=by rw[h0];simp
    have Am6:=h.box id _ h0;refine⟨_,Gi,fun next Q hn=>?_⟩
    have grow:∀(ad:Option Addr) (cap:Nat) (olds:List Value),a.eval b=.slice ad n cap->Bw (A4 w (De s.hp β Y)) (cc.take (n*i.size)) olds->(∀u∈olds,u.oneCell'=true)->olds.length=n*i.size ->
      ((ad=none∧olds=[])∨∃p,ad=some p∧olds.length=n*i.size∧∀(j:Nat) v,olds[j]?=some v->w.cell? (p.add j)=some v)->cap<n+m->o.wp P a w next Q:=by
     intro ad cap olds Ul holds h1 hol hold NR;have hr:=P4 (P:=P) (w:=w) (t:=t) (tx:=tx) (ty:=o.type) (ts:=ts) hu hdx Adl hi hz hs hold NR hby hnm;rw[←Ul] at hr;refine run hr next Q (hn _ _ (Dd β d (some (w.heap.size,0))) ?_);have hge:n+m<=grownCap w (n+m) cap e:=grownCap_ge w (n+m) cap e
     have DU:Im w (w.drew.alloc (.cells (olds.toArray++news.toArray++Builtin.zeroCells z.cells (grownCap w (n+m) cap e-(n+m))) e)) (olds.toArray++news.toArray++Builtin.zeroCells z.cells (grownCap w (n+m) cap e-(n+m))) e:=
      ⟨rfl,rfl,rfl,fun k hk=>Below.heap_alloc w.drew _ k hk,by show (w.heap.push _).size=_;simp,(0,0),by show (w.heap.push _)[w.heap.size]?=_;simp,.inl rfl⟩
     have Agg:(olds.toArray++news.toArray++Builtin.zeroCells z.cells (grownCap w (n+m) cap e-(n+m))).size=grownCap w (n+m) cap e*i.size:=by
      simp only[Array.size_append,List.size_toArray,size_zeroCells,hzs,hol,MR,←Nat.add_mul]
      congr 1
      omega
     have ZH:∀k y,some (w.heap.size,0)=some (k,y)->w.heap.size<=k∨∃q,β id=some (k,q):=by
      intro k y hh;simp at hh;exact .inl (by omega)
     refine h.move h0 EX hdN rfl rfl rfl (by rw[DU.size];omega) (fun k hk _=>DU.old k hk) DU.step.bs (fun k y hh=>⟨by simp at hh;rw[DU.size];omega,ZH k y hh⟩) (fun k y hh Cc=>by simp at hh;omega)
      (fun k y _ Cc j _=>⟨World.cell?_of_block (w:=w) (DU.old k Cc),World.frozen?_of_block (w:=w) (DU.old k Cc)⟩) ?_ ?_ (by intro j hj;simpa [B8,Cl,Az] using hj)
     ·refine .inr ⟨w.heap.size,0,A3 _ _ _,SK DU (Aif h0 EX ZH) holds hs.rep h1 hs.one,fun _ j _ hj=>?_,(fun q=>by cases q)⟩
      rw[DU.bsz] at hj;exact DU.frozen hj
     ·refine .inr ⟨w.heap.size,0,0,grownCap w (n+m) cap e,A3 _ _ _,rfl,.inl rfl,hge,?_,by rw[DU.size];omega⟩
      rw[DU.bsz,Agg];omega
    rcases hbv with⟨hβ,_,rfl,ad,Ul⟩|⟨bb,ob,y,cap,hβ,Ul,hy,A5a,NR,A3m⟩
    ·rcases Am6 with⟨_,rfl⟩|⟨b',o',Ib,_⟩
     ·by_cases hm0:m=0
      ·subst hm0;have hr:=P8 (P:=P) (w:=w) (t:=t) (tx:=tx) (ty:=o.type) (ts:=ts) (ad:=ad) hu hdx Adl hi hs (List.eq_nil_of_length_eq_zero (by omega))
       rw[←Ul] at hr;have Adr:new=[]:=List.eq_nil_of_length_eq_zero (by omega)
       subst Adr;refine run hr next Q (hn _ _ (Dd β d none) ?_);rw[Ul];refine h.move h0 EX hdN rfl rfl rfl (Nat.le_refl _) (fun _ _ _=>rfl) (fun _ _=>Nat.le_refl _) (fun k q hh=>by cases hh) (fun k q hh=>by cases hh) (fun _ _ _ _ _ _=>⟨rfl,rfl⟩) ?_ ?_ (by intro j hj;simpa [B8,Cl,Az] using hj)
       ·exact .inl ⟨A3 _ _ _,by simp⟩
       ·exact .inl ⟨A3 _ _ _,rfl,rfl,ad,rfl⟩
      ·exact grow ad 0 [] Ul (by simp[Bw]) (by simp) (by simp) (by cases ad with
        |none=>exact .inl ⟨rfl,rfl⟩
        |some p=>exact .inr ⟨p,rfl,by simp,fun j v hj=>by simp at hj⟩) (by omega)
     ·rw[hβ] at Ib;cases Ib
    ·rcases Am6 with⟨Ib,_⟩|⟨b',o',Ib,Ot,hb3,_⟩
     ·rw[hβ] at Ib;cases Ib
     rw[hβ] at Ib;simp at Ib;obtain⟨rfl,rfl⟩:=Ib;have hy:y=ob:=by rcases hy with hy|⟨_,hq⟩<;>omega
     subst hy;by_cases Aqf:n+m<=cap
     ·have Al1:y+n*i.size+news.length<=bsz w bb:=by
       have h5:n*i.size+m*i.size<=cap*i.size:=by rw[←Nat.add_mul];exact Nat.mul_le_mul_right _ Aqf
       omega
      have hcell:∀k,k<news.length->(w.cell? ⟨bb,y+n*i.size+k,none⟩).isSome=true:=fun k hk=>Ans (by omega)
      have hr:=MU (P:=P) (w:=w) (t:=t) (tx:=tx) (ty:=o.type) (ts:=ts) (b:=bb) (ob:=y) (n:=n) (cap:=cap) hu hdx Adl hi hs MR hcell (fun k hk=>hb3 rfl _ (by omega) (by omega)) Aqf
      rw[←Ul] at hr;have hw:=Gb.setCells bb news (y+n*i.size) w
      have ZH:∀k q,some (bb,y)=some (k,q)->w.heap.size<=k∨∃q',β id=some (k,q'):=by
       intro k q hh;simp at hh;obtain⟨rfl,rfl⟩:=hh;exact .inr ⟨_,hβ⟩
      refine run hr next Q (hn _ _ (Dd β d (some (bb,y))) ?_)
      have Gv:Cq (De s.hp β Y) w (w.setCells bb (y+n*i.size) news):=by
       have hAb:De s.hp β Y bb:=.inl ⟨id,y,by rw[h0];trivial,hβ⟩
       exact⟨by rw[hw.size];exact Nat.le_refl _,fun k _ hk=>hw.other k (fun e=>hk (e ▸ hAb)),fun k _=>by
        by_cases e:k=bb
        ·subst e;rw[hw.bs];exact Nat.le_refl _
        ·unfold bsz;rw[hw.other k e];exact Nat.le_refl _⟩
      refine h.move h0 EX hdN hw.os hw.tape hw.output (by rw[hw.size];exact Nat.le_refl _) (fun k _ hq=>hw.other k (by rintro rfl;exact hq _ hβ)) Gv.bs (fun k q hh=>⟨by simp at hh;rw[hw.size];omega,ZH k q hh⟩) (fun k q hh _=>by rw[hβ];exact hh)
       (fun k q hh _ j hj=>by
        rw[hβ] at hh;cases hh;exact⟨World.cell?_setCells_out bb _ _ w ⟨bb,j,none⟩ (fun _ _=>by show j<y+n*i.size∨y+n*i.size+_<=j;omega),hw.frz j⟩) ?_ ?_ (by intro j hj;simpa [B8,Cl,Az] using hj)
      ·refine .inr ⟨bb,y,A3 _ _ _,fun j p hj=>?_,fun _ j hj X5=>?_,(fun q=>by cases q)⟩
       ·rw[Eu];by_cases hjn:j<n*i.size
        ·rw[List.getElem?_append_left (by rw[List.length_take];omega),List.getElem?_take_of_lt hjn] at hj
         obtain⟨u,Mw,h5,ht⟩:=Ot j p hj;rw[Eu] at Mw;refine⟨u,?_,h5,ht.step Gv (Aif h0 EX ZH)⟩;rw[World.cell?_setCells_out bb _ _ w ⟨bb,y+j,none⟩ (fun _ _=>by show y+j<y+n*i.size∨y+n*i.size+_<=y+j;omega)]
         exact Mw
        ·rw[List.getElem?_append_right (by rw[List.length_take];omega),List.length_take,Nat.min_eq_left A6o] at hj
         obtain⟨u,Mw,ht⟩:=hs.rep.get hj
         have Cc:j-n*i.size<news.length:=by
          rcases Nat.lt_or_ge (j-n*i.size) news.length with h|h
          ·exact h
          ·rw[List.getElem?_eq_none h] at Mw;cases Mw
         refine⟨u,?_,hs.one u (List.mem_of_getElem? Mw),ht.step Gv (Aif h0 EX ZH)⟩;have:=World.cell?_setCells_in bb news (y+n*i.size) w hcell (j-n*i.size) Cc;rw[show y+j=y+n*i.size+(j-n*i.size) from by omega,this]
         rw[List.getElem?_eq_getElem Cc] at Mw;exact Mw
       ·rw[hw.bs] at X5;rw[hw.frz];exact hb3 rfl j hj X5
      ·exact .inr ⟨bb,y,y,cap,A3 _ _ _,rfl,.inl rfl,Aqf,by rw[hw.bs];omega,by rw[hw.size];exact A3m⟩
     ·-- the old cells
      have hob:∀(j:Nat) p,(cc.take (n*i.size))[j]?=some p->∃v,w.cell? ⟨bb,y+j,none⟩=some v∧v.oneCell'=true∧A4 w (De s.hp β Y) p v:=by
       intro j p hj;rw[List.getElem?_take] at hj;split at hj
       ·obtain⟨v,hv,h5,ht⟩:=Ot j p hj;rw[Eu] at hv;exact⟨v,hv,h5,ht⟩
       ·cases hj
      have Ha:(cc.take (n*i.size)).length=n*i.size:=by rw[List.length_take];omega
      refine grow _ cap ((cc.take (n*i.size)).mapIdx fun j _=>(w.cell? ⟨bb,y+j,none⟩).getD undef) Ul ?_ ?_ (by simp only[List.length_mapIdx];exact Ha) (.inr ⟨_,rfl,by simp only[List.length_mapIdx];exact Ha,fun j v hj=>?_⟩) (by omega)
      ·refine Bw.of_at (by simp) fun j p v hp hv=>?_
       obtain⟨u,Mw,_,ht⟩:=hob j p hp;rw[List.getElem?_mapIdx,hp,Option.map_some,Mw] at hv;simp at hv;subst hv;exact ht
      ·intro v hv;obtain⟨j,hj⟩:=List.mem_iff_getElem?.1 hv;rw[List.getElem?_mapIdx] at hj;cases hp:(cc.take (n*i.size))[j]? with
       |none=>rw[hp] at hj;cases hj
       |some p=>
        obtain⟨u,Mw,h5,_⟩:=hob j p hp;rw[hp,Option.map_some,Mw] at hj;simp at hj;subst hj;exact h5
      ·rw[List.getElem?_mapIdx] at hj;cases hp:(cc.take (n*i.size))[j]? with
       |none=>rw[hp] at hj;cases hj
       |some p=>
        obtain⟨u,Mw,h5,_⟩:=hob j p hp;rw[hp,Option.map_some,Mw] at hj;simp at hj;subst hj;rw[Eu];exact Mw
   ·cases hk
  ·obtain⟨zz,n',c',hk,hp⟩:=Ho hk;obtain⟨hb,hk⟩:=Ax hk;simp only[Bool.and_eq_true,decide_eq_true_eq] at hb;obtain⟨⟨⟨⟨⟨hzz,hdN⟩,EX⟩,Aiz⟩,hby⟩,hnm⟩:=hb;have hdN:d<N:=Nat.lt_of_succ_le (Nat.le_of_ble_eq_true hdN);have EX:s.hp d=none:=by simpa using EX
   have Agj:Il N (some d)=true:=by simp[Il,Nat.blt];omega
   rw[Lw] at Aiz hk;rw[Zo] at hby;have MR:news.length=m*i.size:=by omega
   rcases slice_form hp hbv with⟨Ul,_⟩|⟨_,_,_,RX,_⟩|⟨_,_,_,RX,_⟩
   ·refine⟨_,hk,fun next Q hn=>?_⟩
    by_cases hm0:m=0
    ·subst hm0;have hr:=P8 (P:=P) (w:=w) (t:=t) (tx:=tx) (ty:=o.type) (ts:=ts) (ad:=none) hu hdx Adl hi hs (List.eq_nil_of_length_eq_zero (by omega))
     rw[←Ul] at hr;have Adr:new=[]:=List.eq_nil_of_length_eq_zero (by omega)
     subst Adr;refine run hr next Q (hn _ _ (Dd β d none) ?_);rw[Ul];refine h.stepR (d:=some d) (nw:=[(d,.ar false [])]) (β':=Dd β d none) Agj (by simp[Ck,EX]) ⟨rfl,rfl,rfl,Cq.refl _ _,fun j hj=>Aq _ _ (by rintro rfl;exact hj EX),?_,?_,?_,?_,?_,.inl ⟨A3 _ _ _,rfl,rfl,none,rfl⟩,?_⟩
     ·intro j bx hm;simp at hm;rw[hm.2];trivial
     ·intro j bx hm;simp at hm;obtain⟨rfl,rfl⟩:=hm;exact .inl ⟨A3 _ _ _,rfl⟩
     ·intro j bx k q hm hq;simp at hm;obtain⟨rfl,rfl⟩:=hm;rw[A3] at hq;cases hq
     ·intro j bx j' bx' k q q' hm Qx _ _;simp at hm Qx;rw[hm.1,Qx.1]
     ·intro j cells hm;simp at hm
     ·intro j hj;simp[B8,Cl,Az] at hj;subst hj;exact .inr ⟨.ar false [],by simp⟩
    ·have hr:=P4 (P:=P) (w:=w) (t:=t) (tx:=tx) (ty:=o.type) (ts:=ts) (ad:=none) (n:=0) (cap:=0) (olds:=[]) hu hdx Adl hi hz hs (.inl ⟨rfl,rfl⟩) (by omega) (by rw[Nat.zero_add];exact hby) (by omega)
     rw[←Ul] at hr;refine run hr next Q (hn _ _ (Dd β d (some (w.heap.size,0))) ?_);have hge:0+m<=grownCap w (0+m) 0 e:=grownCap_ge w (0+m) 0 e
     have DU:Im w (w.drew.alloc (.cells (([]:List Value).toArray++news.toArray++Builtin.zeroCells z.cells (grownCap w (0+m) 0 e-(0+m))) e)) (([]:List Value).toArray++news.toArray++Builtin.zeroCells z.cells (grownCap w (0+m) 0 e-(0+m))) e:=
      ⟨rfl,rfl,rfl,fun k hk=>Below.heap_alloc w.drew _ k hk,by show (w.heap.push _).size=_;simp,(0,0),by show (w.heap.push _)[w.heap.size]?=_;simp,.inl rfl⟩
     have Agg:(([]:List Value).toArray++news.toArray++Builtin.zeroCells z.cells (grownCap w (0+m) 0 e-(0+m))).size=grownCap w (0+m) 0 e*i.size:=by
      simp only[Array.size_append,List.size_toArray,size_zeroCells,hzs,MR,List.length_nil,←Nat.add_mul];rw[Nat.zero_add (m*i.size),←Nat.add_mul]
      congr 1
      omega
     refine h.stepR (d:=some d) (nw:=[(d,.ar false new)]) Agj (by simp[Ck,EX]) (V3 DU EX trivial ?_ (fun cells hx=>by cases hx) ?_ (by intro j hj;simp[B8,Cl,Az] at hj;exact .inr hj))
     ·refine .inr ⟨w.heap.size,0,A3 _ _ _,?_,fun _ j _ hj=>?_,(fun q=>by cases q)⟩
      ·exact SK (pre:=[]) DU (Aj8 EX) trivial hs.rep (by simp) hs.one
      ·rw[DU.bsz] at hj;exact DU.frozen hj
     ·refine .inr ⟨w.heap.size,0,0,grownCap w (0+m) 0 e,A3 _ _ _,by rw[Nat.zero_add],.inl rfl,by omega,?_,by rw[DU.size];omega⟩
      rw[DU.bsz,Agg];omega
   ·rw[RX] at hzz;cases hzz
   ·rw[RX] at hzz;cases hzz
 ·cases hk
theorem Afx (h:B3 N w0 X0 Y β s a w){c:Call}(ho:o.op=.call c)(hc:c.callee=.builtin .copy){b x:Operand}(Ey:c.args.toList=[b,x]) {t tx:TypeId}{ts:List TypeId}(OE:c.argTypes.toList=t::tx::ts)
  {K:St->Option R} (hk:YO P N s o.dst t tx (Cw s.tm b) (Cw s.tm x) K=some r):
  ∃s',K s'=some r∧∀(next:Act->World->Prop) (Q:Exit->Act->World->Prop),(∀a' w' β',B3 N w0 X0 Y β' s' a' w'->next a' w')->o.wp P a w next Q:=by
 have SZ:c.args = #[b,x]:=by
  have:c.args=([b,x]:List Operand).toArray:=by rw[←Ey]
  exact this
 have Acm:c.argTypes=(t::tx::ts).toArray:=by rw[←OE]
 have run:∀{v:Value} {w1:World},(Builtin.copy_ (t::tx::ts).toArray o.type #[a.eval b,a.eval x]).run P w=.ok v w1->∀(next:Act->World->Prop) (Q:Exit->Act->World->Prop),next (a.put o.dst v) w1->o.wp P a w next Q:=by
  intro v w1 hr next Q hn;unfold Oper.wp execOp;rw[ho];simp only[resolve,hc,invoke,builtin,Sem.run_bind,Sem.run_pure,Result.andThen_ok,SZ,Acm];have:(#[b,x]:Array Operand).map a.eval = #[a.eval b,a.eval x]:=by simp
  rw[this,hr];exact hn
 have hbv:=Dy h b;unfold YO at hk;split at hk
 ·rename_i e hu;obtain⟨hzi,hk⟩:=Ax hk;simp only[Bool.and_eq_true] at hzi;obtain⟨T7,Agj⟩:=hzi;obtain⟨i,hi⟩:∃i,P.info? e=some i:=Option.isSome_iff_exists.1 T7;have Lw:Bm P e=i.size:=by unfold Bm;rw[hi];rfl
  have h1c:∀(m:Nat) (new:List PV),(match Cw s.tm b with
    |.view id es off n=>
     match s.hp id with
     |some (.ar false c)=>Ar (Nat.beq es (Bm P e)&&decide (off+n*es<=c.length)&&decide (new.length=m*es))
       (Aa (min m n) fun k=>Aa (Bq c (new.take (k*es)) off) fun c=>K ⟨B9 s.tm o.dst (.sc (.int .i64 k)),Dd s.hp id (some (.ar false c))⟩)
     |_=>none
    |_=>none)=some r->new.length=m*Bm P e:=by
   intro m new hk;split at hk
   ·split at hk
    ·obtain⟨hb,_⟩:=Ax hk;simp only[Bool.and_eq_true,decide_eq_true_eq] at hb;rw[←Nat.eq_of_beq_eq_true hb.1.1];exact hb.2
    ·cases hk
   ·cases hk
  obtain⟨_,m,new,news,hk,hs⟩:=SF h hk h1c;split at hk
  ·rename_i id es off n hb;rw[hb] at hbv;split at hk
   ·rename_i cc h0;obtain⟨hb,hk⟩:=Ax hk;simp only[Bool.and_eq_true,decide_eq_true_eq] at hb;obtain⟨⟨LL,AK⟩,hnl⟩:=hb;have LL:=Nat.eq_of_beq_eq_true LL;subst LL;rw[Lw] at hk hs AK hnl hbv;have MR:news.length=m*i.size:=by rw[←hs.rep.len];exact hnl
    have hkm:min m n*i.size<=m*i.size:=Nat.mul_le_mul_right _ (Nat.min_le_left _ _);have hkn:min m n*i.size<=n*i.size:=Nat.mul_le_mul_right _ (Nat.min_le_right _ _);have I2:K ⟨B9 s.tm o.dst (.sc (.int .i64 ((min m n:Nat):Int))),Dd s.hp id (some (.ar false (Bq cc (new.take (min m n*i.size)) off)))⟩=some r:=hk;refine⟨_,I2,fun next Q hn=>?_⟩
    have Awv:∀{β':Bt} {C2:Nat->Option Bx} {w':World},B3 N w0 X0 Y β' ⟨s.tm,C2⟩ a w'->B3 N w0 X0 Y β' ⟨B9 s.tm o.dst (.sc (.int .i64 ((min m n:Nat):Int))),C2⟩ (a.put o.dst (goInt ((min m n:Nat):Int))) w':=
     fun hh=>hh.put Agj (A4.sc _) (fun _ hx=>by cases hx)
    have App:new.take (min m n*i.size)=[]->Dd s.hp id (some (.ar false (Bq cc (new.take (min m n*i.size)) off)))=s.hp:=by
     intro e;rw[e];refine FR _ ?_;rw[h0];simp[Bq]
    have nothing:min m n*i.size=0->∀(ad:Option Addr) (cap:Nat),a.eval b=.slice ad n cap->o.wp P a w next Q:=by
     intro e ad cap Ul;have hr:=Ae1 (P:=P) (w:=w) (w1:=w) (t:=t) (ty:=o.type) (ts:=tx::ts) (ad:=ad) (n:=n) (cap:=cap) hu hi hs (by rw[e];cases ad<;>simp[storeCells])
     rw[←Ul] at hr;refine run hr next Q (hn _ _ β (Awv ?_));rw[App (by rw[e,List.take_zero])]
     exact h
    rcases hbv with⟨hβ,_,rfl,ad,Ul⟩|⟨bb,ob,y,cap,hβ,Ul,hy,A5a,NR,A3m⟩
    ·exact nothing (by simp) ad 0 Ul
    ·by_cases hm0:min m n*i.size=0
     ·exact nothing hm0 _ _ Ul
     rcases h.box id _ h0 with⟨Ib,_⟩|⟨b',o',Ib,Ot,hb3,_⟩
     ·rw[hβ] at Ib;cases Ib
     rw[hβ] at Ib;simp at Ib;obtain⟨rfl,rfl⟩:=Ib;have OR:n≠0:=by rintro rfl;simp at hm0
     have hy:y=ob+off:=by rcases hy with hy|⟨hq,_⟩<;>first|exact absurd hq OR|exact hy
     subst hy;have Cc:(news.take (min m n*i.size)).length=min m n*i.size:=by rw[List.length_take,MR];omega
     have hcell:∀k,k<(news.take (min m n*i.size)).length->(w.cell? ⟨bb,ob+off+k,none⟩).isSome=true:=by
      intro k hk;obtain⟨v,hv,_⟩:=Ot (off+k) _ (List.getElem?_eq_getElem (by omega))
      rw[Eu] at hv;rw[Nat.add_assoc,hv];rfl
     have UT:∀k,k<(news.take (min m n*i.size)).length->w.frozen? ⟨bb,ob+off+k,none⟩=false:=fun k hk=>by
      obtain⟨u,hu⟩:=Option.isSome_iff_exists.1 (hcell k hk);exact hb3 rfl _ (by omega) (PQ hu)
     have h1:∀u∈news.take (min m n*i.size),u.oneCell'=true:=fun u hu=>hs.one u (List.mem_of_mem_take hu)
     have h3:=run_storeCells_cells (P:=P) bb (ob+off) (news.take (min m n*i.size)) 0 w (fun k hk=>by simpa using hcell k hk) (fun k hk=>by simpa using UT k hk) h1
     have hr:=Ae1 (P:=P) (w:=w) (t:=t) (ty:=o.type) (ts:=tx::ts) (ad:=some ⟨bb,ob+off,none⟩) (n:=n) (cap:=cap) hu hi hs h3;rw[←Ul] at hr;simp only[Nat.add_zero] at hr;refine run hr next Q (hn _ _ β (Awv ?_))
     refine h.write h0 trivial trivial hβ (Gb.setCells bb _ _ w) ?_ (fun cells hx=>by cases hx) (fun _ hx=>by cases hx) (fun j hj=>hj) (fun j hj=>by
      refine World.cell?_setCells_out bb _ _ w ⟨bb,j,none⟩ (fun _ _=>?_)
      have hj:¬(ob<=j):=hj;show j<ob+off∨ob+off+_<=j;omega)
     have Gv:Cq (De s.hp β Y) w (w.setCells bb (ob+off) (news.take (min m n*i.size))):=by
      have hw:=Gb.setCells bb (news.take (min m n*i.size)) (ob+off) w;have hAb:De s.hp β Y bb:=.inl ⟨id,ob,by rw[h0];trivial,hβ⟩
      exact⟨by rw[hw.size];exact Nat.le_refl _,fun k _ hk=>hw.other k (fun e=>hk (e ▸ hAb)),fun k _=>by
       by_cases e:k=bb
       ·subst e;rw[hw.bs];exact Nat.le_refl _
       ·unfold bsz;rw[hw.other k e];exact Nat.le_refl _⟩
     have hll:(new.take (min m n*i.size)).length=min m n*i.size:=by rw[List.length_take,hnl];omega
     refine .inr ⟨bb,ob,hβ,fun j p hj=>?_,fun _ j hj X5=>?_,(fun x=>by cases x)⟩
     ·rw[Eu];rcases Wm (by omega) hj with⟨h3,h4,h5⟩|⟨h3,h5⟩
      ·have A4b:j-off<min m n*i.size:=by omega
       rw[List.getElem?_take_of_lt A4b] at h5;obtain⟨u,hu,hcu⟩:=hs.rep.get h5;have Adw:j-off<(news.take (min m n*i.size)).length:=by omega
       refine⟨u,?_,hs.one u (List.mem_of_getElem? hu),hcu.step Gv (fun _ _ x=>x)⟩
       have:=World.cell?_setCells_in bb (news.take (min m n*i.size)) (ob+off) w hcell (j-off) Adw;rw[show ob+j=ob+off+(j-off) from by omega,this]
       rw[←List.getElem?_eq_getElem Adw,List.getElem?_take_of_lt A4b];exact hu
      ·obtain⟨v,hv,h6,ML⟩:=Ot j p h5;rw[Eu] at hv;refine⟨v,?_,h6,ML.step Gv (fun _ _ x=>x)⟩
       rw[World.cell?_setCells_out bb _ _ w ⟨bb,ob+j,none⟩ (fun _ _=>by show ob+j<ob+off∨ob+off+_<=ob+j;omega)]
       exact hv
     ·rw[(Gb.setCells bb _ _ w).bs] at X5;rw[(Gb.setCells bb _ _ w).frz];exact hb3 rfl j hj X5
   ·cases hk
  ·cases hk
 ·cases hk
theorem Ahs (h:B3 N w0 X0 Y β s a w){G:U7}(Jr:LO P G w0 X0){C:Ji}{call:Af}(C6:∀f args res,call f args=some res->Da G P f args res){K:St->Option R}(hk:AJ C P N call s o K=some r):
  ∃s',K s'=some r∧∀(next:Act->World->Prop) (Q:Exit->Act->World->Prop),(∀a' w' β',B3 N w0 X0 Y β' s' a' w'->next a' w')->o.wp P a w next Q:=by
 unfold AJ at hk;split at hk
 ·rename_i t x y ho;obtain⟨hd,hk⟩:=Ax hk;exact Ad5 h ho (by simpa using hd) hk
 ·rename_i c ho;split at hk
  ·rename_i hc;obtain⟨d,hd,Eb⟩:=Dt hk;obtain⟨b,xs,TT,Gi⟩:=Bl Eb;obtain⟨x,ys,hys,Un⟩:=Bl Gi;obtain⟨NI,T8⟩:=Ef Un;obtain⟨t,us,hus,WS⟩:=Bl T8;obtain⟨tx,vs,Ui,hk6⟩:=Bl WS;rw[hys,NI] at TT;rw[Ui] at hus;exact Abj h ho hc hd TT hus hk6
  ·rename_i hc;obtain⟨b,xs,TT,Gi⟩:=Bl hk;obtain⟨x,ys,hys,Un⟩:=Bl Gi;obtain⟨NI,T8⟩:=Ef Un;obtain⟨t,us,hus,WS⟩:=Bl T8;obtain⟨tx,vs,Ui,hk6⟩:=Bl WS;rw[hys,NI] at TT;rw[Ui] at hus;exact Afx h ho hc TT hus hk6
  ·rename_i f hc;exact Ab8 h Jr C6 ho hc hk
  ·cases hk
 ·cases hk
theorem SH (h:B3 N w0 X0 Y β s a w){G:U7}(Jr:LO P G w0 X0){C:Ji}{call:Af}(C6:∀f args res,call f args=some res->Da G P f args res){K:St->Option R}(hk:Adk C P N call o s K=some r):
  ∃s',K s'=some r∧∀(next:Act->World->Prop) (Q:Exit->Act->World->Prop),(∀a' w' β',B3 N w0 X0 Y β' s' a' w'->next a' w')->o.wp P a w next Q:=by
 unfold Adk at hk;cases hm:Wh C P o.op
 ·rw[hm] at hk;exact Ahx h Jr C6 hk
 ·rw[hm] at hk;exact Ahs h Jr C6 hk
end
end
end Go.Proofs.YtpogefhpiaaliaaGreatDoor.Pv
