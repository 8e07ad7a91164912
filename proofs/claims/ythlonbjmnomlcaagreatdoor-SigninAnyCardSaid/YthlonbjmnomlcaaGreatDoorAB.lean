/-
  The proof of SigninAny, part 2.
-/
import Derived.Test.YthlonbjmnomlcaaGreatDoorAA
import Derived.Laws.Append
import Derived.IntWalk
import Derived.Laws.AppendOwn
import Derived.Laws.IdiomCopy
set_option linter.unusedSimpArgs false
set_option linter.unusedVariables false
namespace Go.Proofs.YthlonbjmnomlcaaGreatDoor.Pv
set_option maxRecDepth 1000000
noncomputable section
section
open Go.RowKit
def I0(w:World)(A:Nat->Prop)(own:Option (Nat × Nat))(p:PV)(u:Value):Prop:=
 match p with
 |.own es n c=>(own=none/\n=0/\c=[]/\∃ad,u=.slice ad 0 0) \/
   ∃b o a,own=some (b,o)/\u=.slice (some ⟨b,o,none⟩) n a/\n<=a/\Fit w es b (o+a*es)/\b<w.heap.size/\RdT w A ⟨b,o,none⟩ c/\∀j,o<=j->j<bsz w b->w.frozen? ⟨b,j,none⟩=false
 |p=>A9 w A p u
def Gu(w:World)(A:Nat->Prop)(own:Bt):Nat->Ae->List Value->Prop
 |_,[],[]=>True
 |j,p::ps,u::us=>I0 w A (own j) p u/\Gu w A own (j+1) ps us
 |_,_,_=>False
def Awb(w:World)(A:Nat->Prop)(own:Bt)(j b o:Nat)(cs:Ae):Prop:=
 ∃a,Gu w A own j cs a/\(∀(k:Nat) v,a[k]?=some v->w.cell? ⟨b,o+k,none⟩=some v)/\∀k,k<cs.length->w.frozen? ⟨b,o+k,none⟩=false
def A3e(w:World)(A:Nat->Prop)(own:Bt)(z j:Nat)(p:PV)(u:Value):Prop:=
 match p with
 |.agg a=>∃c,u=.agg ⟨c⟩/\Gu w A own j a c
 |.pbox a=>∃b o,own j=some (b,o)/\z<=b/\u=.pointer (some ⟨b,o,none⟩)/\Awb w A own (j+1) b o a
 |p=>I0 w A (own j) p u
def plc:PV->Nat
 |.pbox a=>1+a.length
 |p=>(cellsOf p).length
def Aa1(w:World)(A:Nat->Prop)(own:Bt)(z:Nat):Nat->Ae->List Value->Prop
 |_,[],[]=>True
 |j,p::ps,u::us=>A3e w A own z j p u/\Aa1 w A own z (j+plc p) ps us
 |_,_,_=>False
abbrev OB:=Nat->Nat->Option (Nat × Nat)
def BtX(bt:OB)(b:Nat):Prop:=∃i j o,bt i j=some (b,o)
def isA(p:PV):Prop:=HU p\/∃es n c,p=.own es n c
def OH(p:PV):Bool:=
 match p with
 |.pbox _=>true
 |.tup _=>true
 |_=>false
theorem A0y{p:PV}(h:isA p):OH p=false:=by
 rcases h with h|⟨_,_,_,rfl⟩
 ·cases p<;>first|rfl|exact h.elim
 ·rfl
def Alq(w:World)(A:Nat->Prop)(bt:Bt)(p:PV)(u:Value):Prop:=
 match p with
 |.pbox ps=>∃b o,bt 0=some (b,o)/\u=.pointer (some ⟨b,o,none⟩)/\(∀p∈ps,isA p)/\Awb w A bt 1 b o ps
 |.tup ps=>∃es n c,ps=[.own es n c]/\I0 w A (bt 0) (.own es n c) u
 |.agg a=>∃d,u=.agg ⟨d⟩/\(∀p∈a,isA p)/\Gu w A bt 1 a d
 |p=>isA p/\I0 w A (bt 1) p u
def Qm(w:World)(A:Nat->Prop)(bt:OB):Nat->Ae->List Value->Prop
 |_,[],[]=>True
 |i,p::ps,u::us=>Alq w A (bt i) p u/\Qm w A bt (i+1) ps us
 |_,_,_=>False
def A8y(bt:Bt)(p:PV)(b j:Nat):Prop:=
 (∃k o,bt (k+1)=some (b,o)/\o<=j)\/∃o ps,bt 0=some (b,o)/\o<=j/\((p=.pbox ps/\j<o+ps.length)\/p=.tup ps)
def VG(bt:OB)(args:Ae)(b j:Nat):Prop:=∃i p,args[i]?=some p/\A8y (bt i) p b j
def HT(w:World)(A:Nat->Prop)(own:Bt)(bt:OB):Nat->Nat->Ae->List Ae->Prop
 |_,_,[],r=>r=[]
 |j,i,p::c,r=>
  match p with
  |.pbox ps=>
   match r with
   |[]=>False
   |a::r=>(∃b o,bt i 0=some (b,o)/\a.length=ps.length/\Awb w A own j b o a)/\HT w A own bt (j+a.length) (i+1) c r
  |.tup _=>
   match r with
   |[]=>False
   |a::r=>((bt i 0=none/\a=[])\/∃b o,bt i 0=some (b,o)/\RdT w A ⟨b,o,none⟩ a/\∀k,o<=k->k<bsz w b->w.frozen? ⟨b,k,none⟩=false)/\HT w A own bt j (i+1) c r
  |_=>HT w A own bt j (i+1) c r
def YM(bt:OB)(own:Bt)(Y:Nat->Prop)(b:Nat):Prop:=(∃j o,own j=some (b,o))\/(∃i o,bt i 0=some (b,o))\/Y b
def R4(vals:Ae):Nat:=(vals.map plc).sum
structure Out(w w':World)(Y:Nat->Prop)(bt:OB)(args:Ae)(own:Bt)(r:A8)(vs:List Value):Prop where
 os:w'.os=w.os
 tape:w'.tape=w.tape
 output:w'.output=w.output
 ext:Cy (BtX bt) w w'
 rng:∀b j,b<w.heap.size->¬VG bt args b j->w'.cell? ⟨b,j,none⟩=w.cell? ⟨b,j,none⟩/\w'.frozen? ⟨b,j,none⟩=w.frozen? ⟨b,j,none⟩
 vals:Aa1 w' (YM bt own Y) own w.heap.size 0 r.vals vs
 outs:HT w' (YM bt own Y) own bt (R4 r.vals) 0 args r.outs
 fresh:∀j b o,own j=some (b,o)->b<w'.heap.size/\(b<w.heap.size->(∃i k o',bt i (k+1)=some (b,o'))/\∀x,o<=x->VG bt args b x)
 inj:∀j j' b o o',own j=some (b,o)->own j'=some (b,o')->j=j'
def Lv(us:List Value):Value:=match us with|[u]=>u|us=>.tuple ⟨us⟩
def AX(w:World)(Y:Nat->Prop)(p:PV)(u:Value):Prop:=
 match p with
 |.agg b=>∃a,u=.agg ⟨a⟩/\Bv (λc v=>HU c/\A9 w Y c v) b a
 |p=>HU p/\A9 w Y p u
structure Ins(w:World)(Y:Nat->Prop)(bt:OB)(args:Ae)(us:List Value):Prop where
 Ylt:∀b,Y b->b<w.heap.size
 Yx:∀b,Y b->¬BtX bt b
 lt:∀b,BtX bt b->b<w.heap.size
 inj:∀i j i' j' b o o',bt i j=some (b,o)->bt i' j'=some (b,o')->i=i'/\j=j'
 l0:∀i q,bt i 0=some q->∃p,args[i]?=some p/\OH p=true
 args:Qm w (λb=>BtX bt b\/Y b) bt 0 args us
structure KB where
 bl:Nat->Prop
 ok:World->Prop
 stable:∀w w':World,(∀b,bl b->b<w.heap.size->w'.heap[b]?=w.heap[b]?)->ok w->ok w'
def Ej(G:KB)(P:Program)(f:FuncId)(args:Ae)(r:A8):Prop:=
 (∃c,P.funcs[f]?=some c/\c.body.isSome=true)/\∀(w:World)(Y:Nat->Prop)(a:OB)(us:List Value),Ins w Y a args us->G.ok w->(∀b,G.bl b->b<w.heap.size/\¬BtX a b) ->
  Calls P f us.toArray w λe w'=>∃d own,e=.returned (Lv d)/\Out w w' Y a args own r d
def Ai1:OB:=λ_ _=>none
theorem Yl(b:Nat):¬BtX Ai1 b:=by rintro⟨_,_,_,h⟩;cases h
theorem Pw{w:World}{A:Nat->Prop}{q:Option (Nat × Nat)}{p:PV}{u:Value}(hp:HU p)(h:A9 w A p u):I0 w A q p u:=by cases p<;>first|exact h|exact hp.elim
theorem RV{w:World}{A:Nat->Prop}{own:Bt}:∀{cs:Ae}{vs:List Value}{j:Nat},Bv (λc v=>HU c/\A9 w A c v) cs vs->Gu w A own j cs vs
 |[],[],_,_=>trivial
 |_::_,_::_,_,h=>⟨Pw h.1.1 h.1.2,RV h.2⟩
 |[],_::_,_,h=>h.elim
 |_::_,[],_,h=>h.elim
theorem Ate{w:World}{A:Nat->Prop}{bt:Bt}{p:PV}{u:Value}(h:AX w A p u):Alq w A bt p u:=by
 cases p with
 |agg g=>
  obtain⟨b,d,a⟩:=h;refine⟨b,d,λp hp=>.inl ?_,RV a⟩;obtain⟨j,e⟩:=List.mem_iff_getElem?.1 hp;obtain⟨v,_,f⟩:=a.get e;exact f.1
 |sc v=>exact⟨.inl trivial,h.2⟩
 |lst z es n c=>exact⟨.inl trivial,h.2⟩
 |_=>exact h.1.elim
theorem YY{w:World}{A:Nat->Prop}{bt:OB}:∀{ps:Ae}{us:List Value}{i:Nat},Bv (AX w A) ps us->Qm w A bt i ps us
 |[],[],_,_=>trivial
 |_::_,_::_,_,h=>⟨Ate h.1,YY h.2⟩
 |[],_::_,_,h=>h.elim
 |_::_,[],_,h=>h.elim
theorem Aqj{w:World}{A A':Nat->Prop}(a:∀b,b<w.heap.size->A' b->A b){p:PV}{v:Value}(h:AX w A p v):AX w A' p v:=by
 cases p with
 |agg g=>
  obtain⟨e,rfl,f⟩:=h;exact⟨e,rfl,f.mono λc v d=>⟨d.1,d.2.step (Cy.refl _ _) a⟩⟩
 |sc v=>exact⟨h.1,h.2.step (Cy.refl _ _) a⟩
 |lst z es n c=>exact⟨h.1,h.2.step (Cy.refl _ _) a⟩
 |_=>exact h.1.elim
theorem Aju{w:World}{Y:Nat->Prop}{args:Ae}{us:List Value}(a:∀b,Y b->b<w.heap.size)(h:Bv (AX w Y) args us):Ins w Y Ai1 args us:=
 ⟨a,λb _=>Yl b,λb h=>absurd h (Yl b),(λ_ _ _ _ _ _ _ h=>by cases h),(λ_ _ h=>by cases h),YY (h.mono λ_ _ c=>Aqj (λb _ d=>d.elim (λq=>absurd q (Yl b)) id) c)⟩
def NoNG(P:Program):Prop:=∀(f:FuncId) (a:Func),P.funcs[f]?=some a->(a.name == "runtime.NumGoroutine")=false
structure Env(P:Program)(G:KB)(w0:World)(X0:Lu):Prop where
 ng:NoNG P
 fr:∀w,Fr X0 w0 w->G.ok w
 y:∀b,G.bl b->b<w0.heap.size/\¬X0.X b
section
variable {R:Type}{r:R}{P:Program}{N:Nat}{w0:World}{X0:Lu}{Y:Nat->Prop}{β β':Bt}{s:St}{a:Act}{w w':World}{o:Oper}{A:Nat->Prop}
def WH(P:Program)(a:Act)(w:World)(o:Oper)(Y:Nat->Prop)(β:Bt)(s:St)(v:PV)(fz:B9)(nw:List (Nat × Cd)):Prop:=
 (∀id∈fz,∃f c,s.hp id=some (.ar f c))/\∀(next:Act->World->Prop)(Q:Exit->Act->World->Prop),
  (∀val w',(Ch s.hp nw=true->∃β',Abu Y β ⟨s.tm,Aj s.hp fz⟩ w v nw val w' β')->next (a.put o.dst val) w')->o.wp P a w next Q
theorem XP{v:PV}{fz:B9}{nw:List (Nat × Cd)}(h:F2 P a w o Y β s v fz nw):WH P a w o Y β s v fz nw:=by obtain⟨b,val,w',c,d⟩:=h;refine⟨b,λnext Q e=>?_⟩;unfold Oper.wp;rw[c];exact e val w' d
theorem Auq(h:Dt N w0 X0 Y β s a w){t:TypeId}{x:PV}{u:Value}(e:F9 w (Ec s.hp β Y) β x u){K:PV->B9->Option R}(b:Alp P (Om s.hp) t x K=some r):
  ∃p m,K p m=some r/\(∀id∈m,∃f cc,s.hp id=some (.ar f cc))/\(cellsOf p).length=(Lz P t).length/\∀fz:B9,(∀id∈m,id∈fz)->(∀id∈fz,∃f cc,s.hp id=some (.ar f cc))->AX w (Ec (Aj s.hp fz) β Y) p u:=by
 unfold Alp at b;cases Il:Cm P t
 ·rw[Il] at b;obtain⟨z,m,b,g,Pq,i,A,j,k⟩:=Yt h (show Ux _ _ _ _=some r from b);obtain⟨c,D,rfl,b⟩:=Bx b;obtain⟨rfl,b⟩:=Ey b;have d:=i c Ψ;refine⟨c,m,b,j,?_,λfz l n=>?_⟩
  ·have:cellsOf c=[c]:=by cases c<;>first|rfl|exact d.elim
   rw[this];exact g
  have o:=A _ (Xz _)
  have q:Cp w (Ec s.hp β Y) β x u:=by
   cases x<;>first|exact e|exact o.elim
  have y:=(k fz l n [u] ⟨q,trivial⟩).1.1;cases c<;>first|exact⟨trivial,y⟩|exact d.elim
 ·rw[Il] at b;obtain⟨ps,hp,b⟩:=Kt (show Dr _ _=some r from b);rw[hp] at e;obtain⟨z,m,b,g,Pq,i,A,j,k⟩:=Yt h b;obtain⟨C,Eo,n⟩:=e;refine⟨.agg z,m,b,j,g,λfz l y=>⟨C,Eo,?_⟩⟩;exact (k fz l y C n).1.mono_mem λc q v SA=>⟨i c q,SA⟩
theorem Azi(h:Dt N w0 X0 Y β s a w){t:TypeId}{x:Operand}{K:PV->B9->Option R}(b:Alp P (Om s.hp) t (Cw s.tm x) K=some r):
  ∃p m,K p m=some r/\(∀id∈m,∃f cc,s.hp id=some (.ar f cc))/\∀fz:B9,(∀id∈m,id∈fz)->(∀id∈fz,∃f cc,s.hp id=some (.ar f cc))->AX w (Ec (Aj s.hp fz) β Y) p (a.eval x):=by
 obtain⟨p,m,c,d,_,e⟩:=Auq h (D4 h x) b;exact⟨p,m,c,d,e⟩
theorem Ac0(h:Dt N w0 X0 Y β s a w):∀{ts:List TypeId}{B:List Operand}{K:Ae->B9->Option R},WZ P (Om s.hp) ts (B.map (Cw s.tm)) K=some r ->
  ∃ps m,K ps m=some r/\(∀id∈m,∃f cc,s.hp id=some (.ar f cc))/\∀fz:B9,(∀id∈m,id∈fz)->(∀id∈fz,∃f cc,s.hp id=some (.ar f cc))->Bv (AX w (Ec (Aj s.hp fz) β Y)) ps (B.map a.eval)
 |[],[],K,b=>⟨[],[],b,Ψ,λ_ _ _=>trivial⟩
 |[],_::_,K,b=>by cases b
 |_::_,[],K,b=>by cases b
 |t::ts,x::B,K,b=>by
  simp only[CZ] at b;unfold WZ at b;obtain⟨p,m,b,e,g⟩:=Azi h b;obtain⟨ps,j,b,UY,CJ⟩:=Ac0 h b;refine⟨p::ps,m++j,b,?_,λfz c d=>⟨g fz (λi hi=>c i (by simp[hi])) d,CJ fz (λi hi=>c i (by simp[hi])) d⟩⟩;intro i hi;rcases B2.1 hi with hi|hi
  ·exact e i hi
  ·exact UY i hi
theorem AX.weaken{A':Nat->Prop}(a:∀b,b<w.heap.size->A' b->A b){p:PV}{v:Value}(h:AX w A p v):AX w A' p v:=by
 have one:HU p->HU p/\A9 w A p v->AX w A' p v:=by
  intro hp h;cases p<;>first|exact⟨h.1,h.2.step (Cy.refl _ _) a⟩|exact hp.elim
 cases p with
 |agg g=>
  obtain⟨e,rfl,f⟩:=h;exact⟨e,rfl,f.mono λc v d=>⟨d.1,d.2.step (Cy.refl _ _) a⟩⟩
 |_=>exact one h.1 h
theorem Aui{t:CT}{p:PV}{K:PV->Option R}(h:QI t p K=some r):
  ∃c,K c=some r/\HU c/\HU p/\(∀(w:World) (A:Nat->Prop) (β:Nat->Option (Nat × Nat)) (v:Value),Cp w A β p v->A9 w A c v/\v.oneCell'=true)/\((∀es,t ≠ .sl es)->∃v,c=.sc v):=by
 obtain⟨c,d,e,VJ,a⟩:=Sy h;cases t with
 |sl es=>exact⟨c,d,e,VJ,a,λf=>absurd rfl (f es)⟩
 |int k=>obtain⟨n,rfl,b⟩:=F8 h;exact⟨_,b,trivial,trivial,λw A β v a=>⟨a,by have:=A9.val (w:=w) (A:=A) a;subst this;rfl⟩,λ_=>⟨_,rfl⟩⟩
 |bool=>obtain⟨n,rfl,b⟩:=Ex h;exact⟨_,b,trivial,trivial,λw A β v a=>⟨a,by have:=A9.val (w:=w) (A:=A) a;subst this;rfl⟩,λ_=>⟨_,rfl⟩⟩
 |str=>obtain⟨n,rfl,b⟩:=Ep h;exact⟨_,b,trivial,trivial,λw A β v a=>⟨a,by have:=A9.val (w:=w) (A:=A) a;subst this;rfl⟩,λ_=>⟨_,rfl⟩⟩
 |any=>
  obtain⟨u,rfl,g,b⟩:=Ao4 (show fnK p (λv=>K (.sc v))=some r from h);exact⟨_,b,trivial,trivial,λw A β v a=>⟨a,by have:=A9.val (w:=w) (A:=A) a;subst this;exact g⟩,λ_=>⟨_,rfl⟩⟩
theorem FV(shr:Bool)(N:Nat):∀{ts:List CT}{ps:Ae}{id:Nat}{K:Ae->List (Nat × Cd)->Option R},X8 shr N id ts ps K=some r ->
  ∃cs bs,K cs bs=some r/\ps.length=ts.length/\(∀p∈ps,∀x,p ≠ .agg x/\p ≠ .pbox x)/\(∀c∈cs,isF c)/\((∀es,CT.sl es ∉ ts)->bs=[]/\∀c∈cs,∃v,c=.sc v) /\
   (∀i a,(i,a)∈bs->∃j es n c,ps[j]?=some (.own es n c)/\i=id+N*j/\a=.ar false c) /\
   (∀c∈cs,∀i∈A3 c,∃a,(i,a)∈bs) /\
   ∀(w:World) (A:Nat->Prop) (own β':Bt) (y:Nat) (us:List Value),(∀j,(∃a,(id+N*j,a)∈bs)->β' (id+N*j)=own (y+j))->Gu w A own y ps us->Bv (Cp w A β') cs us
 |[],ps,id,K,f=>by
  obtain⟨rfl,f⟩:=Ey f;refine⟨[],[],f,rfl,Ψ,Ψ,Ψ,Ψ,Ψ,λw A own β' y us _ h=>?_⟩;cases us with
  |nil=>trivial
  |cons u us=>exact h.elim
 |t::ts,ps,id,K,f=>by
  unfold X8 at f;obtain⟨p,l,TJ,Ft⟩:=Bx f;subst TJ;clear f
  have main:∃c b,(X8 shr N (id+N) ts l λcs bs=>K (c::cs) (b++bs))=some r/\(∀x,p ≠ .agg x/\p ≠ .pbox x)/\isF c/\((∀es,t≠CT.sl es)->b=[]/\∃v,c=.sc v)/\(∀i a,(i,a)∈b->∃es n cc,p=.own es n cc/\i=id/\a=.ar false cc)/\(∀i∈A3 c,∃a,(i,a)∈b) /\
    ∀(w:World) (A:Nat->Prop) (own:Option (Nat × Nat)) (β':Bt) (u:Value),((∃a,(id,a)∈b)->β' id=own)->I0 w A own p u->Cp w A β' c u:=by
   have tree:∀J,J=t->(QI J p λc=>X8 shr N (id+N) ts l λcs bs=>K (c::cs) ([]++bs))=some r->∃c b,(X8 shr N (id+N) ts l λcs bs=>K (c::cs) (b++bs))=some r/\(∀x,p ≠ .agg x/\p ≠ .pbox x)/\isF c/\((∀es,t≠CT.sl es)->b=[]/\∃v,c=.sc v)/\(∀i a,(i,a)∈b->∃es n cc,p=.own es n cc/\i=id/\a=.ar false cc)/\(∀i∈A3 c,∃a,(i,a)∈b) /\
     ∀(w:World) (A:Nat->Prop) (own:Option (Nat × Nat)) (β':Bt) (u:Value),((∃a,(id,a)∈b)->β' id=own)->I0 w A own p u->Cp w A β' c u:=by
    intro J L f;have o:=Aui f;obtain⟨c,f,C,VJ,M,o⟩:=o;refine⟨c,[],f,λx=>⟨LP VJ x,by rintro rfl;exact VJ⟩,AD C,λm=>⟨rfl,o (λes e=>m es (L.symm.trans e))⟩,Ψ,by rw[Kw C];simp,λw A own β' u _ D=>?_⟩
    have O:Cp w A β' p u:=by cases p<;>first|exact D|exact VJ.elim
    exact (Qn C).2 (M w A β' u O).1
   unfold Ay5 at Ft;cases t with
   |sl es=>
    dsimp only at Ft;cases shr
    ·unfold Na at Ft;simp only[cond_false] at Ft;split at Ft
     ·rename_i P n c;cases Q:Nat.beq P es
      ·rw[Q] at Ft;cases Ft
      ·rw[Q] at Ft;have:=El Q;subst this;refine⟨_,_,Ft,Ψ,trivial,λm=>absurd rfl (m _),?_,?_,λw A own β' u E D=>?_⟩
       ·intro i a d;simp at d;exact⟨_,_,_,rfl,d.1,d.2⟩
       ·intro i hi;simp[A3] at hi;subst hi;exact⟨.ar false c,Ψ⟩
       ·have G:=E ⟨.ar false c,Ψ⟩;clear E;rcases D with⟨q,rfl,rfl,H⟩|⟨b,Y,S,q,T,I,H,Z,_⟩
        ·exact .inl ⟨G.trans q,rfl,rfl,H⟩
        ·exact .inr ⟨b,Y,Y,S,G.trans q,T,.inl rfl,I,H,Z⟩
     ·cases Ft
    ·obtain⟨c,f,C,VJ,M,_⟩:=Aui (t:=.sl es) (p:=p) (K:=λc=>X8 true N (id+N) ts l λcs bs=>K (Af8 c::cs) ([]++bs)) Ft;have U:HU (Af8 c):=by cases c<;>exact C
     refine⟨Af8 c,[],f,λx=>⟨LP VJ x,by rintro rfl;exact VJ⟩,AD U,λm=>absurd rfl (m _),Ψ,by rw[Kw U];simp,λw A own β' u _ D=>?_⟩
     have O:Cp w A β' p u:=by cases p<;>first|exact D|exact VJ.elim
     refine (Qn U).2 ?_;have:=(M w A β' u O).1;cases c with
     |lst z es n c=>exact A9.unz this
     |_=>exact this
   |int k=>exact tree (.int k) rfl Ft
   |bool=>exact tree .bool rfl Ft
   |str=>exact tree .str rfl Ft
   |any=>exact tree .any rfl Ft
  obtain⟨c,b,f,V,hF,W,Gf,Jv,SA⟩:=main;obtain⟨cs,bs,f,hl,Bjy,X,A65,Bh4,Bjo,Bgk⟩:=FV shr N f;refine⟨c::cs,b++bs,f,by simp[hl],?_,?_,?_,?_,?_,λw A own β' y us E s=>?_⟩
  ·intro x g;rcases List.mem_cons.1 g with rfl|g
   ·exact V
   ·exact Bjy x g
  ·intro x g;rcases List.mem_cons.1 g with rfl|g
   ·exact hF
   ·exact X x g
  ·intro m;obtain⟨q,v,T⟩:=W (λes e=>m es (by rw[e];simp))
   obtain⟨I,H⟩:=A65 (λes d=>m es (by simp[d]));refine⟨by rw[q,I];rfl,λx g=>?_⟩
   rcases List.mem_cons.1 g with rfl|g
   ·exact⟨v,T⟩
   ·exact H x g
  ·intro i a d;rcases B2.1 d with d|d
   ·obtain⟨es,n,cc,rfl,rfl,rfl⟩:=Gf i a d;exact⟨0,es,n,cc,rfl,Ψ,rfl⟩
   ·obtain⟨j,es,n,cc,q,rfl,I⟩:=Bh4 i a d;exact⟨j+1,es,n,cc,by simpa using q,by rw[Nat.mul_add];omega,I⟩
  ·intro x g i hi;rcases List.mem_cons.1 g with rfl|g
   ·obtain⟨a,d⟩:=Jv i hi;exact⟨a,by simp[d]⟩
   ·obtain⟨a,d⟩:=Bjo x g i hi;exact⟨a,by simp[d]⟩
  ·cases us with
   |nil=>exact s.elim
   |cons u us=>
    refine⟨SA w A (own y) β' u (λ⟨a,d⟩=>by have:=E 0 ⟨a,by simp[d]⟩;simpa using this) s.1,?_⟩
    refine Bgk w A own β' (y+1) us (λj ⟨a,d⟩=>?_) s.2;have e:id+N+N*j=id+N*(j+1):=by rw[Nat.mul_add];omega
    have:=E (j+1) ⟨a,by rw[<-e];simp[d]⟩
    rw[e,this]
    congr 1
    omega
end
open Go.RowKit
section
variable {R:Type}{r:R}{P:Program}{N:Nat}{w0:World}{X0:Lu}{Y:Nat->Prop}{β β':Bt}{s:St}{a:Act}{w w':World}{o:Oper}{A:Nat->Prop}
theorem Gu.len:∀{j:Nat}{own:Bt}{ps:Ae}{us:List Value},Gu w A own j ps us->ps.length=us.length
 |_,_,[],[],_=>rfl
 |_,_,_::_,_::_,h=>by simp[Gu.len h.2]
 |_,_,[],_::_,h=>h.elim
 |_,_,_::_,[],h=>h.elim
theorem Gu.at_:∀{j:Nat}{own:Bt}{ps:Ae}{us:List Value},Gu w A own j ps us->∀{i:Nat} {p},ps[i]?=some p->∃u,us[i]?=some u/\I0 w A (own (j+i)) p u
 |_,_,[],[],_,i,p,h=>by simp at h
 |j,own,_::_,u::_,h,0,p,hp=>by simp at hp;subst hp;exact⟨u,rfl,h.1⟩
 |j,own,_::_,_::_,h,i+1,p,hp=>by
  simp at hp;obtain⟨u,a,b⟩:=Gu.at_ h.2 hp;exact⟨u,by simpa using a,by rw[show j+(i+1)=j+1+i from Ω];exact b⟩
 |_,_,[],_::_,h,_,_,_=>h.elim
 |_,_,_::_,[],h,_,_,_=>h.elim
def Aun(N id:Nat)(β':Bt)(w:World)(A:Nat->Prop)(z n:Nat)(bs:List (Nat × Cd)):Prop:=
 ∀i a,(i,a)∈bs->(∃j,i=id+N*j/\j<n)/\Eb (some a)/\Z8 w A β' i a/\∀c,a=.st c->∀b o,β' i=some (b,o)->z<=b
def PT(bs:List (Nat × Cd)):Prop:=∀i cells,(i,.st cells)∈bs->∀c∈cells,∀a∈A3 c,∃b,(a,b)∈bs
theorem MQ{q:Option (Nat × Nat)}{es n i:Nat}{c:Ae}{u:Value}(h:I0 w A q (.own es n c) u)(d:β' i=q):Z8 w A β' i (.ar false c):=by
 rcases h with⟨a,_,e,_⟩|⟨b,o,f,a,_,_,_,_,g,j⟩
 ·exact .inl ⟨d.trans a,e⟩
 ·exact .inr ⟨b,o,d.trans a,g,λ_=>j,(λx=>by cases x)⟩
theorem PB{t:TypeId}(h:Oi P [t]=false):MP P t=none/\∀es,CT.sl es ∉ Lz P t:=by simp only[Oi,List.any_cons,List.any_nil,Bool.or_false,Bool.or_eq_false_iff] at h;refine⟨by simpa using h.1,λes a=>?_⟩;have:=List.any_eq_false.1 h.2 _ a;simp at this
theorem Awr(shr:Bool)(N:Nat){t:TypeId}{p:PV}{id:Nat}{K:PV->List (Nat × Cd)->Option R}(a:Aqn P shr N id t p K=some r):
  ∃v bs,K v bs=some r/\plc p=Aic P t/\(∀x,v ≠ .tup x)/\(Oi P [t]=false->bs=[]/\∀c∈cellsOf v,∃u,c=.sc u)/\(∀i∈C8 v,∃d,(i,d)∈bs)/\PT bs /\
   ∀(w:World) (A:Nat->Prop) (own β':Bt) (z f:Nat) (u:Value),(∀j,(∃d,(id+N*j,d)∈bs)->β' (id+N*j)=own (f+j))->A3e w A own z f p u->Ll w A β' v u/\Aun N id β' w A z (plc p) bs:=by
 have boxes:∀{bs:List (Nat × Cd)} {ps:Ae} {id:Nat},(∀i d,(i,d)∈bs->∃j es n c,ps[j]?=some (.own es n c)/\i=id+N*j/\d=.ar false c) ->
   PT bs/\∀(w:World) (A:Nat->Prop) (own β':Bt) (f:Nat) (us:List Value),(∀j,(∃d,(id+N*j,d)∈bs)->β' (id+N*j)=own (f+j))->Gu w A own f ps us->∀z,Aun N id β' w A z ps.length bs:=by
  intro bs ps id Gf;refine⟨λi cells g=>?_,λw A own β' f us m q z i d g=>?_⟩
  ·obtain⟨_,_,_,_,_,_,y⟩:=Gf i _ g;cases y
  ·obtain⟨j,es,n,cc,E,T,y⟩:=Gf i d g;obtain⟨u,hu,U⟩:=q.at_ E;subst y;refine⟨⟨j,T,?_⟩,trivial,MQ U ?_,λ_ e=>by cases e⟩
   ·rcases Jt j ps.length with h|h
    ·exact h
    ·rw[List.getElem?_eq_none h] at E;cases E
   ·rw[T];exact m j ⟨_,T ▸ g⟩
 unfold Aqn at a;split at a
 ·rename_i e he;obtain⟨ps,rfl,a⟩:=Adg a;obtain⟨G,bs,a,H,A2p,V,s,Gf,Jv,SA⟩:=FV shr N a;obtain⟨l,Rs⟩:=boxes Gf;refine⟨.ptr id 0,_,a,by simp only[plc,Aic,he,H],Ψ,λh=>?_,λi hi=>?_,λi cells g c Q i' I=>?_,λw A own β' z f u m q=>?_⟩
  ·have:=(PB h).1;rw[he] at this;cases this
  ·simp only[C8,A3,Xx] at hi;subst hi;exact⟨_,IQ⟩
  ·rcases List.mem_cons.1 g with e|g
   ·cases e;obtain⟨d,W⟩:=Jv c Q i' I;exact⟨d,Yh _ W⟩
   ·obtain⟨d,W⟩:=l i cells g c Q i' I;exact⟨d,Yh _ W⟩
  ·obtain⟨b,o,E,hz,rfl,D,y,h4,h5⟩:=q;have S:=m 0 ⟨_,by rw[Nat.mul_zero,Zzr];exact IQ⟩
   rw[Nat.mul_zero,Zzr,Zzr,E] at S;have X:∀j,id+N+N*j=id+N*(j+1):=λj=>by rw[Nat.mul_add];omega
   have J:∀j,(∃d,(id+N+N*j,d)∈bs)->β' (id+N+N*j)=own (f+1+j):=λj ⟨d,g⟩=>by
    rw[X,m (j+1) ⟨d,by rw[<-X];exact Yh _ g⟩]
    congr 1;omega
   have L:=SA w A own β' (f+1) D J y;have GV:=Rs w A own β' (f+1) D J y z;have Ef:G.length=ps.length:=by rw[L.len,<-y.len]
   refine⟨⟨b,o,S,Ψ⟩,λi d g=>?_⟩;rcases List.mem_cons.1 g with e|g
   ·cases e;refine⟨⟨0,Ψ,by simp only[plc];omega⟩,trivial,⟨b,o,S,λk c a=>?_,λk a=>h5 k Ω⟩,λ_ _ b' o' K9=>?_⟩
    ·obtain⟨v,hv,Y⟩:=L.get a;exact⟨v,h4 k v hv,Y⟩
    ·rw[S] at K9;cases K9;exact hz
   ·obtain⟨⟨j,hj,hjn⟩,h6,h7⟩:=GV i d g;exact⟨⟨j+1,by rw[hj,X],by simp only[plc];omega⟩,h6,h7⟩
 ·rename_i Z;have Zo:Aic P t=(Lz P t).length:=by simp only[Aic,Z]
  cases Il:Cm P t
  ·rw[Il] at a;obtain⟨G,bs,a,H,A2p,V,s,Gf,Jv,SA⟩:=FV shr N (show X8 _ _ _ _ _ _=some r from a);obtain⟨c,t',rfl,a⟩:=Bx a;obtain⟨rfl,a⟩:=Ey a;have M:=V c Ψ;have Bal:∀x,p ≠ .pbox x:=λx=>(A2p p Ψ x).2;have A5q:∀x,c ≠ .agg x:=by rintro x rfl;exact M
   have Bi0:∀x,c ≠ .tup x:=by rintro x rfl;exact M
   have ZL:C8 c=A3 c:=by cases c<;>first|rfl|exact absurd rfl (A5q _)
   have C:∀x,p ≠ .agg x:=λx=>(A2p p Ψ x).1;obtain⟨l,Rs⟩:=boxes Gf;have Eu:cellsOf p=[p]:=by cases p<;>first|rfl|exact absurd rfl (C _)
   have Bc9:plc p=1:=by cases p<;>first|rfl|exact absurd rfl (C _)|exact absurd rfl (Bal _)
   have hcc:cellsOf c=[c]:=by cases c<;>first|rfl|exact absurd rfl (A5q _)
   refine⟨c,bs,a,by rw[Bc9,Zo];exact H,Bi0,λF1=>by rw[hcc];exact s (PB F1).2,λi hi=>Jv c Ψ i (by rw[<-ZL];exact hi),l,λw A own β' z f u m q=>?_⟩
   have O:I0 w A (own f) p u:=by cases p<;>first|exact q|exact absurd rfl (C _)|exact absurd rfl (Bal _)
   exact⟨(MN A5q).2 (SA w A own β' f [u] m ⟨O,trivial⟩).1,by rw[Bc9];exact Rs w A own β' f [u] m ⟨O,trivial⟩ z⟩
  ·rw[Il] at a;obtain⟨ps,rfl,a⟩:=Kt (show Dr _ _=some r from a);obtain⟨G,bs,a,H,A2p,V,s,Gf,Jv,SA⟩:=FV shr N a;obtain⟨l,Rs⟩:=boxes Gf;refine⟨.agg G,bs,a,by rw[Zo];exact H,Ψ,λF1=>s (PB F1).2,λi hi=>?_,l,λw A own β' z f u m q=>?_⟩
   ·obtain⟨c,Q,hi⟩:=List.mem_flatMap.1 (show i∈G.flatMap A3 from hi);exact Jv c Q i hi
   ·obtain⟨D,rfl,q⟩:=q;exact⟨⟨D,rfl,SA w A own β' f D m q⟩,Rs w A own β' f D m q z⟩
theorem PO(shr:Bool)(N:Nat):∀{ts:List TypeId}{ps:Ae}{id:Nat}{K:Ae->List (Nat × Cd)->Option R},RH P shr N id ts ps K=some r ->
  ∃vs bs,K vs bs=some r/\vs.length=ps.length/\(∀v∈vs,∀x,v ≠ .tup x)/\(Oi P ts=false->bs=[]/\∀v∈vs,∀c∈cellsOf v,∃u,c=.sc u)/\(∀v∈vs,∀i∈C8 v,∃b,(i,b)∈bs)/\PT bs /\
   ∀(w:World) (A:Nat->Prop) (own β':Bt) (z f:Nat) (us:List Value),(∀j,(∃b,(id+N*j,b)∈bs)->β' (id+N*j)=own (f+j))->Aa1 w A own z f ps us->Bv (Ll w A β') vs us/\Aun N id β' w A z (R4 ps) bs
 |[],ps,id,K,d=>by
  obtain⟨rfl,d⟩:=Ey d;refine⟨[],[],d,rfl,Ψ,Ψ,Ψ,(by intro i cells a;cases a),λw A own β' z f us _ h=>?_⟩
  cases us with
  |nil=>exact⟨trivial,by intro i b a;cases a⟩
  |cons u us=>exact h.elim
 |t::ts,ps,id,K,d=>by
  unfold RH at d;obtain⟨p,S,TJ,Ft⟩:=Bx d;subst TJ;clear d;obtain⟨v,bs,d,T,m,n,ZL,o,U⟩:=Awr shr N Ft;obtain⟨vs,q,d,s,Bgl,A65,y,Bho,CJ⟩:=PO shr N d;refine⟨v::vs,bs++q,d,by simp[s],?_,?_,?_,?_,λw A own β' z f us M C=>?_⟩
  ·intro x e;rcases List.mem_cons.1 e with rfl|e
   ·exact m
   ·exact Bgl x e
  ·intro D;simp only[Oi,List.any_cons,Bool.or_eq_false_iff] at D;obtain⟨E,G⟩:=n (by simp only[Oi,List.any_cons,List.any_nil,Bool.or_false,Bool.or_eq_false_iff];exact D.1)
   obtain⟨V,g⟩:=A65 (by simp only[Oi];exact D.2)
   refine⟨by rw[E,V];rfl,λx e=>?_⟩
   rcases List.mem_cons.1 e with rfl|e
   ·exact G
   ·exact g x e
  ·intro x e i hi;rcases List.mem_cons.1 e with rfl|e
   ·obtain⟨b,a⟩:=ZL i hi;exact⟨b,by simp[a]⟩
   ·obtain⟨b,a⟩:=y x e i hi;exact⟨b,by simp[a]⟩
  ·intro i cells a c O Q k;rcases B2.1 a with a|a
   ·obtain⟨b,H⟩:=o i cells a c O Q k;exact⟨b,by simp[H]⟩
   ·obtain⟨b,H⟩:=Bho i cells a c O Q k;exact⟨b,by simp[H]⟩
  ·cases us with
   |nil=>exact C.elim
   |cons u us=>
    obtain⟨E,Gf⟩:=U w A own β' z f u (λj ⟨b,a⟩=>M j ⟨b,by simp[a]⟩) C.1;have I:∀j,id+N*Aic P t+N*j=id+N*(Aic P t+j):=λj=>by rw[Nat.mul_add];omega
    obtain⟨G,Jv⟩:=CJ w A own β' z (f+plc p) us (λj ⟨b,a⟩=>by rw[I,M _ ⟨b,by rw[<-I];simp[a]⟩,T];congr 1;omega) C.2
    refine⟨⟨E,G⟩,λi b a=>?_⟩;rcases B2.1 a with a|a
    ·obtain⟨⟨j,J,l⟩,g,L⟩:=Gf i b a;exact⟨⟨j,J,by simp only[R4,CZ,List.sum_cons];omega⟩,g,L⟩
    ·obtain⟨⟨j,J,l⟩,g,L⟩:=Jv i b a;refine⟨⟨_,by rw[J,I],?_⟩,g,L⟩;simp only[R4,CZ,List.sum_cons] at l ⊢;omega
def TP(N d:Nat)(bs:List (Nat × Cd))(own β:Bt):Bt:=λi=>if (bs.any λq=>Nat.beq q.1 i)=true then own ((i-d) / N) else β i
theorem Afg{bs:List (Nat × Cd)}{i:Nat}:(bs.any λq=>Nat.beq q.1 i)=true↔∃a,(i,a)∈bs:=by
 rw[List.any_eq_true];constructor
 ·rintro⟨⟨j,a⟩,b,e⟩
  have:=El e;subst this;exact⟨a,b⟩
 ·rintro⟨a,b⟩
  exact⟨_,b,Vr i⟩
theorem Aqg{N d j:Nat}(a:0<N){bs:List (Nat × Cd)}{own β:Bt}(h:∃b,(d+N*j,b)∈bs):TP N d bs own β (d+N*j)=own j:=by unfold TP;rw[Bq (Afg.2 h),Nat.add_sub_cancel_left,Nat.mul_div_cancel_left _ a]
theorem Akh{c:Call}{f:FuncId}(g:o.op=.call c)(i:c.callee=.value (.func f))(Qd:NoNG P){b:Func}(d:P.funcs[f]?=some b)(e:b.body.isSome=true):
  (execOp a.eval o).run P w=.ok (.enter f (c.args.map a.eval)) w:=by
 unfold execOp;rw[g]
 have j:¬b.body=none:=by
  intro h;rw[h] at e;cases e
 have k:¬b.name = "runtime.NumGoroutine" :=by simpa using Qd f b d
 simp[resolve,i,Act.eval,Deferred.ofValue,invoke,callFunc,d,k,j]
theorem Arp{c:Call}{t:Nat}{f:FuncId}(g:o.op=.call c)(i:c.callee=.value (.tmp t))(ht:a.eval (.tmp t)=.func (.func f) #[] #[])(Qd:NoNG P){b:Func}(d:P.funcs[f]?=some b)(e:b.body.isSome=true):
  (execOp a.eval o).run P w=.ok (.enter f (c.args.map a.eval)) w:=by
 unfold execOp;rw[g]
 have j:¬b.body=none:=by
  intro h;rw[h] at e;cases e
 have k:¬b.name = "runtime.NumGoroutine" :=by simpa using Qd f b d
 simp[resolve,i,ht,Deferred.ofValue,invoke,callFunc,d,k,j]
theorem QX{A':Nat->Prop}(k:Bool):∀{B:List Operand}{ps:Ae},Bv (AX w A') ps (B.map a.eval)->Bv (AX w A') (Nw k B ps) (B.map a.eval)
 |[],[],h=>h
 |[],_::_,h=>h
 |_::_,[],h=>h
 |x::B,p::ps,h=>by
  simp only[CZ] at h ⊢;refine⟨?_,QX k h.2⟩;split
  ·exact⟨trivial,A9.lnil _ _⟩
  ·exact h.1
theorem WE(h : Dt N w0 X0 Y β s a w){G : KB}(Qd : Env P G w0 X0){C : J7}{F : Ao}(E3 : ∀ f args O, F f args = some O -> Ej G P f args O){c : Call}{f : FuncId}(Dn : ∀ {fn : Func}, P.funcs[f]? = some fn -> fn.body.isSome = true -> (execOp a.eval o).run P w = .ok (.enter f (c.args.map a.eval)) w){K : PV -> B9 -> List (Nat × Cd) -> Option R}(p : (WZ P (Om s.hp) (XX P f c) (c.args.toList.map (Cw s.tm)) λvs m =>
          An (F f (Nw (C.kz f) c.args.toList vs)) λrv ro => Ah ro (Aw (Nat.blt 0 N) <| RH P (C.shr f) N (o.dst.getD 0) (Ve P o.type) rv λws bs =>
            Aw (bif Wf P o.type then !Nat.beq ws.length 1 else Nat.beq ws.length 1) <| K (U7 ws (Wf P o.type)) (bif Oi P (Ve P o.type) then m else []) bs)) = some r): ∃ v fz nw, K v fz nw = some r /\ WH P a w o Y β s v fz nw := by
  obtain⟨ps, m, p, d, G8⟩ := Ac0 h p
  replace G8 := λfz E h2 => QX (a := a) (C.kz f) (G8 fz E h2)
  generalize Nw (C.kz f) c.args.toList ps = ps at p G8
  obtain⟨rv, ro, So, p⟩ := Acv p
  obtain⟨rfl, p⟩ := Ey p
  obtain⟨hN, p⟩ := Ay p
  have hN : 0 < N := Nat.lt_of_succ_le (Zy hN)
  obtain⟨ws, bs, p, hwl, S, T, U, hri, hws⟩ := PO (C.shr f) N p
  obtain⟨Yk, p⟩ := Ay p
  obtain⟨⟨fn, hfn, hfb⟩, UP⟩ := E3 f ps _ So
  obtain⟨fz, QA, V⟩ : ∃ fz : B9, fz = (bif Oi P (Ve P o.type) then m else []) /\ ∀ id ∈ fz, ∃ f c, s.hp id = some (.ar f c) := by
    refine⟨_, rfl, λid B6 => ?_⟩
    cases hh : Oi P (Ve P o.type) <;> rw[hh] at B6
    · cases B6
    · exact d id B6
  rw[<- QA] at p
  refine⟨_, _, _, p, V, λnext Q hn => ?_⟩
  have hf := h.freeze V
  have hYc : ∃ Yc : Nat -> Prop, (∀ b, Yc b -> b < w.heap.size) /\ Bv (AX w Yc) ps (c.args.toList.map a.eval) /\ ((∀ b, Ec (Aj s.hp fz) β Y b -> Yc b) \/ Oi P (Ve P o.type) = false) := by
    have M := G8 m (λ_ hi => hi) d
    cases hh : Oi P (Ve P o.type)
    · exact⟨λ_ => False, λ_ x => x.elim, M.mono λ_ _ W => W.weaken (λ_ _ x => x.elim), .inr rfl⟩
    · rw[hh] at QA
      have QA : fz = m := QA
      subst QA
      refine⟨Ec (Aj s.hp fz) β Y, λb X => ?_, M, .inl λ_ x => x⟩
      rcases X with⟨id, H, Z, A⟩ | hY
      · exact hf.blt id b H (Dy Z) A
      · exact H2 (h.Ylt b hY) h.fr.step.size
  obtain⟨Yc, Bhj, hYargs, q⟩ := hYc
  unfold Oper.wp
  rw[Dn hfn hfb]
  show Calls P f _ w _
  have hca : c.args.map a.eval = (c.args.toList.map a.eval).toArray := by rw[<- List.map_toArray, Array.toArray_toList]
  rw[hca]
  refine (UP w Yc Ai1 _ (Aju Bhj hYargs) (Qd.fr w h.fr) (λb x => ⟨H2 (Qd.y b x).1 h.fr.step.size, Yl b⟩)).mono ?_
  rintro e w' ⟨vs, own, rfl, TF⟩
  refine hn (Lv vs) w' λXd => ⟨TP N (o.dst.getD 0) bs own β, ?_⟩
  obtain⟨ha1, Zn⟩ := B7 Xd
  have Axm : ∀ i k, (i, k) ∈ bs -> Aj s.hp fz i = none := λi k d => Fl.2 (ha1 i k d)
  obtain⟨hg1, hg2⟩ := F4 (hp := Aj s.hp fz) Zn
  have I : ∀ i, Aj s.hp fz i ≠ none -> TP N (o.dst.getD 0) bs own β i = β i := by
    intro i hi
    unfold TP
    rw[Bb]
    intro W
    obtain⟨k, d⟩ := Afg.1 W
    exact hi (Axm i k d)
  obtain⟨CJ, J⟩ := hws w' _ own (TP N (o.dst.getD 0) bs own β) w.heap.size 0 vs (λj hj => by rw[Aqg hN hj, Ka]) TF.vals
  have JX : ∀ i k, (i, k) ∈ bs -> ∃ j, i = o.dst.getD 0 + N * j /\ TP N (o.dst.getD 0) bs own β i = own j := by
    intro i k d
    obtain⟨⟨j, rfl, _⟩, _, _⟩ := J i k d
    exact⟨j, rfl, Aqg hN ⟨k, d⟩⟩
  have t : Oi P (Ve P o.type) = false \/ ∀ b, Ec (A4 (Aj s.hp fz) bs) (TP N (o.dst.getD 0) bs own β) Y b -> YM Ai1 own Yc b := by
    rcases q with q | q
    · refine .inr λb X => ?_
      rcases X with⟨i, H, Z, A⟩ | hY
      · by_cases hi : ∃ k, (i, k) ∈ bs
        · obtain⟨k, d⟩ := hi
          obtain⟨j, _, h3⟩ := JX i k d
          rw[h3] at A
          exact .inl ⟨j, H, A⟩
        · rw[hg2 i (λk d => hi ⟨k, d⟩)] at Z
          rw[I i (Dy Z)] at A
          exact .inr (.inr (q b (.inl ⟨i, H, Z, A⟩)))
      · exact .inr (.inr (q b (.inr hY)))
    · exact .inl q
  have hval : F9 w' (Ec (A4 (Aj s.hp fz) bs) (TP N (o.dst.getD 0) bs own β) Y) (TP N (o.dst.getD 0) bs own β) (U7 ws (Wf P o.type)) (Lv vs) := by
    have M : Bv (Ll w' (Ec (A4 (Aj s.hp fz) bs) (TP N (o.dst.getD 0) bs own β) Y) (TP N (o.dst.getD 0) bs own β)) ws vs := by
      rcases t with L | t
      · obtain⟨_, g⟩ := T L
        refine CJ.mono_mem λv hv u D => ?_
        have g := g v hv
        cases v with
        | agg cs =>
          obtain⟨B, rfl, ZN⟩ := D
          refine⟨B, rfl, ZN.mono_mem λcc hcc x W => ?_⟩
          obtain⟨y, rfl⟩ := g cc hcc
          have := A9.val (w := w') W
          subst this
          exact A9.sc _
        | sc y =>
          have := A9.val (w := w') D
          subst this
          exact A9.sc _
        | lst z es n cc => obtain⟨y, l⟩ := g _ (Xz _); cases l
        | own es n cc => obtain⟨y, l⟩ := g _ (Xz _); cases l
        | view i es n cc => obtain⟨y, l⟩ := g _ (Xz _); cases l
        | ptr i cc => obtain⟨y, l⟩ := g _ (Xz _); cases l
        | iptr i cc => obtain⟨y, l⟩ := g _ (Xz _); cases l
        | pbox cc => obtain⟨y, l⟩ := g _ (Xz _); cases l
        | tup cc => obtain⟨y, l⟩ := g _ (Xz _); cases l
        | top => obtain⟨y, l⟩ := g _ (Xz _); cases l
        | ub => obtain⟨y, l⟩ := g _ (Xz _); cases l
      · exact CJ.mono λv u D => D.step (Cy.refl _ _) (λb _ => t b) (λ_ _ => rfl)
    have Ef := M.len
    cases hT : Wf P o.type
    · rw[hT] at Yk
      have E : ws.length = 1 := El Yk
      match ws, vs, E, Ef with
      | [v], [u], _, _ =>
        exact (Wi (S v Ψ)).2 M.1
    · rw[hT] at Yk
      have E : ¬ ws.length = 1 := by
        intro e
        rw[e] at Yk
        cases Yk
      have hr : Lv vs = .tuple ⟨vs⟩ := by
        unfold Lv
        split
        · simp at Ef; omega
        · rfl
      rw[hr]
      exact⟨vs, rfl, M⟩
  refine⟨TF.os, TF.tape, TF.output, TF.ext.weaken (λb _ X => Yl b X), I, ?_, ?_, ?_, ?_, ?_, hval, ?_⟩
  · intro i k d
    exact (J i k d).2.1
  · intro i k d
    rcases t with L | t
    · rw[(T L).1] at d; cases d
    · exact (J i k d).2.2.1.step' t
  · intro i k b H d A
    obtain⟨j, _, h3⟩ := JX i k d
    rw[h3] at A
    obtain⟨h4, h5⟩ := TF.fresh j b H A
    refine⟨?_, h4⟩
    rcases Jt b w.heap.size with h | h
    · obtain⟨⟨_, _, _, h6⟩, _⟩ := h5 h
      cases h6
    · exact h
  · intro i k i' bx' b H ob' d My A hβ'
    obtain⟨j, E, h3⟩ := JX i k d
    obtain⟨j', ZU, h3'⟩ := JX i' bx' My
    rw[h3] at A
    rw[h3'] at hβ'
    rw[E, ZU, TF.inj j j' b H ob' A hβ']
  · intro i cells d c hc i' hi'
    exact .inr (hri i cells d c hc i' hi')
  · intro i hi
    right
    cases hT : Wf P o.type
    · rw[hT] at Yk hi
      have E : ws.length = 1 := El Yk
      match ws, E with
      | [v], _ =>
        refine U v Ψ i ?_
        have : Ck v = C8 v := by
          have hn := S v Ψ
          cases v <;> first | rfl | exact absurd rfl (hn _)
        rw[<- this]
        exact hi
    · rw[hT] at hi
      obtain⟨v, hv, hi⟩ := List.mem_flatMap.1 (show i ∈ ws.flatMap C8 from hi)
      exact U v hv i hi
end
open Go.RowKit
section
variable {R:Type}{r:R}{P:Program}{N:Nat}{w0:World}{X0:Lu}{Y:Nat->Prop}{β β':Bt}{s:St}{a:Act}{w w':World}{o:Oper}{A:Nat->Prop}
theorem Dt.move(h:Dt N w0 X0 Y β s a w){id d:Nat}{c cells:Ae}{r:Option (Nat × Nat)}{v:PV}{val:Value}(R:s.hp id=some (.ar false c))(hd:s.hp d=none)(hdN:d<N)(hos:w'.os=w.os)(htp:w'.tape=w.tape)(TF:w'.output=w.output)(Aik:w.heap.size<=w'.heap.size)(Qw:∀k,k<w.heap.size->(∀x,β id≠some (k,x))->w'.heap[k]?=w.heap[k]?)(S:∀k,k<w.heap.size->Ku w w' k)(H:∀k x,r=some (k,x)->k<w'.heap.size/\(w.heap.size<=k\/∃y,β id=some (k,y)))(hbr:∀k x,r=some (k,x)->k<w.heap.size->β id=some (k,x))(hO:∀k y,β id=some (k,y)->k<w.heap.size->∀j,j<y->w'.cell? ⟨k,j,none⟩=w.cell? ⟨k,j,none⟩/\w'.frozen? ⟨k,j,none⟩=w.frozen? ⟨k,j,none⟩)(Rs:Z8 w' (Ec (Dm (Dm s.hp id (some .mv)) d (some (.ar false cells))) (Dm β d r) Y) (Dm β d r) d (.ar false cells))(hv:F9 w' (Ec (Dm (Dm s.hp id (some .mv)) d (some (.ar false cells))) (Dm β d r) Y) (Dm β d r) v val)(hr:∀i∈Ck v,i=d):
  Dt N w0 X0 Y (Dm β d r) ⟨Dm s.tm d v,Dm (Dm s.hp id (some .mv)) d (some (.ar false cells))⟩ (a.put (some d) val) w':=by
 have F1:id≠d:=by rintro rfl;rw[R] at hd;cases hd
 have VI:∀i,i≠id->i≠d->Dm (Dm s.hp id (some Cd.mv)) d (some (.ar false cells)) i=s.hp i:=λi o L=>by rw[At _ _ L,At _ _ o]
 have A2z:Dm (Dm s.hp id (some Cd.mv)) d (some (.ar false cells)) id=some .mv:=by rw[At _ _ F1,Az]
 have A:Dm (Dm s.hp id (some Cd.mv)) d (some (.ar false cells)) d=some (.ar false cells):=Az _ _ _
 have F7:∀i,s.hp i≠none->Dm (Dm s.hp id (some Cd.mv)) d (some (.ar false cells)) i≠none:=by
  intro i hi;by_cases e:i=id
  ·subst e;rw[A2z];simp
  ·by_cases f:i=d
   ·subst f;rw[A];simp
   ·rw[VI i e f];exact hi
 have I:∀i,s.hp i≠none->Dm β d r i=β i:=λi hi=>At _ _ (by rintro rfl;exact hi hd)
 have Ahz:Eb (s.hp id):=by rw[R];trivial
 have Jf:∀i,Eb (Dm (Dm s.hp id (some Cd.mv)) d (some (.ar false cells)) i)->i=d\/(i≠id/\i≠d/\Eb (s.hp i)):=by
  intro i hi;by_cases f:i=d
  ·exact .inl f
  ·by_cases e:i=id
   ·subst e;rw[A2z] at hi;exact hi.elim
   ·rw[VI i e f] at hi;exact .inr ⟨e,f,hi⟩
 have hX:∀k,k<w.heap.size->Xof (Dm (Dm s.hp id (some .mv)) d (some (.ar false cells))) (Dm β d r) k->Xof s.hp β k:=by
  rintro k m ⟨i,x,C,l⟩
  rcases Jf i C with rfl|⟨e,f,C⟩
  ·rw[Az] at l;rcases (H k x l).2 with Rr|⟨y,G⟩
   ·omega
   ·exact⟨id,y,Ahz,G⟩
  ·rw[At _ _ f] at l;exact⟨i,x,C,l⟩
 have J:∀k,k<w.heap.size->Ec (Dm (Dm s.hp id (some .mv)) d (some (.ar false cells))) (Dm β d r) Y k->Ec s.hp β Y k:=λk m D=>D.imp (hX k m) (λy=>y);have Iy:Cy (Ec s.hp β Y) w w':=⟨Aik,λk m hn=>Qw k m λx D=>hn (.inl ⟨id,x,Ahz,D⟩),S⟩
 have Azj:∀i k x,i≠id->i≠d->(∃b,s.hp i=some b/\b ≠ .mv)->β i=some (k,x)->k<w.heap.size/\w'.heap[k]?=w.heap[k]?:=by
  rintro i k x e f ⟨b,g,hmv⟩ l
  have m:=h.blt i k x (by rw[g];simp) l
  refine⟨m,Qw k m λy G=>?_⟩;have Ar6:=h.box i b g;cases b with
  |st cc=>exact e (h.inj i id k x y (by rw[g];trivial) Ahz l G)
  |ar fz cc=>
   cases fz with
   |false=>exact e (h.inj i id k x y (by rw[g];trivial) Ahz l G)
   |true=>
    rcases Ar6 with⟨o,_⟩|⟨k',x',o,_,_,h4⟩
    ·rw[l] at o;cases o
    ·rw[l] at o;simp at o;obtain⟨rfl,rfl⟩:=o
     exact h4 rfl (.inl ⟨id,y,Ahz,G⟩)
  |mv=>exact absurd rfl hmv
 refine⟨by rw[Zs];exact h.dfr,by rw[LH];exact h.tsz,?_,?_,?_,?_,?_,?_,?_,?_,?_,?_,?_,?_,h.Ylt,?_⟩
 ·intro i hi;show Dm s.tm d v i=_;rw[At _ _ Ω];exact h.tmo i hi
 ·refine Wx (d:=some d) (Q:=λ_ p u=>F9 w' (Ec (Dm (Dm s.hp id (some .mv)) d (some (.ar false cells))) (Dm β d r) Y) (Dm β d r) p u) h.tsz (by simp[I5,Nat.blt];omega) (λi hi=>?_) (λ_=>hv)
  exact (h.tms i hi).step Iy J λj n=>I j (h.wfT i hi j n)
 ·intro i bi g;simp only at g;by_cases f:i=d
  ·subst f;rw[A] at g;cases g;exact Rs
  ·by_cases e:i=id
   ·subst e;rw[A2z] at g;cases g;trivial
   ·rw[VI i e f] at g;have M:=I i (by rw[g];simp)
    have TC:=h.box i bi g;cases bi with
    |st cc=>
     obtain⟨k,x,o,L,h3⟩:=TC;obtain⟨m,Vm⟩:=Azj i k x e f ⟨_,g,Ψ⟩ o;refine⟨k,x,by rw[M];exact o,λj p n=>?_,λj n=>?_⟩
     ·obtain⟨u,hu,E⟩:=L j p n;exact⟨u,by rw[World.cell?_of_block (w:=w) Vm];exact hu,E.step Iy J λq O=>I q (h.wfB i cc g p (List.mem_of_getElem? n) q O)⟩
     ·rw[World.frozen?_of_block (w:=w) Vm];exact h3 j n
    |ar fz cc=>
     rcases TC with⟨o,L⟩|⟨k,x,o,L,h3,h4⟩
     ·exact .inl ⟨by rw[M];exact o,L⟩
     ·obtain⟨m,Vm⟩:=Azj i k x e f ⟨_,g,Ψ⟩ o;refine .inr ⟨k,x,by rw[M];exact o,λj p n=>?_,λef j n CR=>?_,λef D=>h4 ef (J k m D)⟩
      ·obtain⟨u,hu,h5,E⟩:=L j p n;exact⟨u,by rw[World.cell?_of_block (w:=w) (by rw[G5];exact Vm)];exact hu,h5,E.step Iy J⟩
      ·rw[World.frozen?_of_block (w:=w) Vm];refine h3 ef j n ?_;unfold bsz at CR ⊢;rw[Vm] at CR;exact CR
    |mv=>trivial
 ·intro i i' k x y C Pq g P;simp only at C Pq
  have T:∀j z,j≠id->j≠d->Eb (s.hp j)->β j=some (k,z)->r=some (k,y)\/r=some (k,x)->False:=by
   intro j z e f U V hbk;have m:=h.blt j k z (Dy U) V;have:∃t,r=some (k,t):=by rcases hbk with q|q<;>exact⟨_,q⟩
   obtain⟨t,ht⟩:=this;rcases (H k t ht).2 with Rr|⟨q,O⟩
   ·omega
   ·exact e (h.inj j id k z q U Ahz V O)
  rcases Jf i C with rfl|⟨e,f,W⟩
  ·rcases Jf i' Pq with rfl|⟨e2,K,A5x⟩
   ·rfl
   ·rw[Az] at g;rw[At _ _ K] at P;exact (T i' y e2 K A5x P (.inr g)).elim
  ·rcases Jf i' Pq with rfl|⟨e2,K,A5x⟩
   ·rw[Az] at P;rw[At _ _ f] at g;exact (T i x e f W g (.inl P)).elim
   ·rw[At _ _ f] at g;rw[At _ _ K] at P;exact h.inj i i' k x y W A5x g P
 ·intro i k x hi g;simp only at hi;by_cases f:i=d
  ·subst f;rw[Az] at g;exact (H k x g).1
  ·rw[At _ _ f] at g
   have hi':s.hp i≠none:=by
    by_cases e:i=id
    ·subst e;rw[R];simp
    ·rw[VI i e f] at hi;exact hi
   exact H2 (h.blt i k x hi' g) Aik
 ·have:=Wx (d:=some d) (Q:=λ_ p _=>∀j∈Ck p,Dm (Dm s.hp id (some Cd.mv)) d (some (.ar false cells)) j≠none) (val:=val) (v:=v) h.tsz (by simp[I5,Nat.blt];omega) (λi hi j n=>F7 j (h.wfT i hi j n)) (λ_ j n=>by
   rw[hr j n,A];simp)
  exact this
 ·intro i cc E p hp j n;simp only at E;by_cases f:i=d
  ·subst f;rw[A] at E;cases E
  ·by_cases e:i=id
   ·subst e;rw[A2z] at E;cases E
   ·rw[VI i e f] at E;exact F7 j (h.wfB i cc E p hp j n)
 ·rintro k ⟨i,x,C,l⟩
  rcases Jf i C with rfl|⟨e,f,C⟩
  ·rw[Az] at l;rcases (H k x l).2 with Rr|⟨y,G⟩
   ·exact .inr (Nat.le_trans h.fr.step.size Rr)
   ·exact h.ownd k ⟨id,y,Ahz,G⟩
  ·rw[At _ _ f] at l;exact h.ownd k ⟨i,x,C,l⟩
 ·intro i bi k x TC X l Cs j n;simp only at TC;rcases Jf i (by rw[TC];exact X) with rfl|⟨e,f,C⟩
  ·rw[Az] at l;rw[A] at TC;cases TC;have:=hbr k x l (H2 Cs h.fr.step.size);exact h.rngB id (.ar false c) k x R trivial this Cs j n
  ·rw[VI i e f] at TC;rw[At _ _ f] at l;exact h.rngB i bi k x TC X l Cs j n
 ·intro i hi;exact⟨F7 _ (h.pin i hi).1,by rw[I _ (h.pin i hi).1];exact (h.pin i hi).2⟩
 ·intro i cc k x TC l Cs;simp only at TC;rcases Jf i (by rw[TC];trivial) with rfl|⟨e,f,C⟩
  ·rw[A] at TC;cases TC
  ·rw[VI i e f] at TC;rw[At _ _ f] at l;exact h.stp i cc k x TC l Cs
 ·intro k hY D;exact h.Yx k hY (hX k (H2 (h.Ylt k hY) h.fr.step.size) D)
 ·refine⟨hos.trans h.fr.os,htp.trans h.fr.tape,TF.trans h.fr.output,⟨Nat.le_trans h.fr.step.size Aik,λk m Z=>?_,λk m=>(h.fr.step.bs k m).trans (S k (H2 m h.fr.step.size))⟩,λk j m hL=>?_⟩
  ·rw[Qw k (H2 m h.fr.step.size) ?_]
   ·exact h.fr.step.keep k m Z
   ·intro x D;rcases h.ownd k ⟨id,x,Ahz,D⟩ with O|O
    ·exact Z O
    ·omega
  ·have hkw:=H2 m h.fr.step.size
   have RO:w'.cell? ⟨k,j,none⟩=w.cell? ⟨k,j,none⟩/\w'.frozen? ⟨k,j,none⟩=w.frozen? ⟨k,j,none⟩:=by
    by_cases e:∃y,β id=some (k,y)
    ·obtain⟨y,G⟩:=e;refine hO k y G hkw j ?_;rcases Jt j y with q|q
     ·exact q
     ·exact absurd (h.rngB id (.ar false c) k y R trivial G m j q) hL
    ·have Vm:=Qw k hkw (λx D=>e ⟨x,D⟩);exact⟨World.cell?_of_block (w:=w) Vm,World.frozen?_of_block (w:=w) Vm⟩
   rw[RO.1,RO.2];exact h.fr.rng k j m hL
end
open Go.RowKit
section
variable {R:Type}{r:R}{P:Program}{N:Nat}{w0:World}{X0:Lu}{Y:Nat->Prop}{β β':Bt}{s:St}{a:Act}{w w':World}{o:Oper}{A:Nat->Prop}
structure Src(P:Program)(w:World)(A:Nat->Prop)(size:Nat)(xv:Value)(m:Nat)(new:Ae)(news:List Value):Prop where
 len:∀w':World,(Builtin.lenOf xv).run P w'=.ok m w'
 cells:∀w':World,(∀b,b<w.heap.size->w'.heap[b]?=w.heap[b]?)->(Builtin.firstCells size m xv).run P w'=.ok news.toArray w'
 part:∀k,k<=m->(Builtin.firstCells size k xv).run P w=.ok (news.take (k*size)).toArray w
 one:∀u∈news,u.oneCell'=true
 rep:Bv (A9 w A) new news
theorem XT(h:Dt N w0 X0 Y β s a w){e tx:TypeId}{x:Operand}{K:Nat->Ae->Option R}(n:Amb P s (Bs P e) tx (Cw s.tm x) K=some r)(t:∀m new,K m new=some r->new.length=m*Bs P e):
  (∃d,P.underlying tx=some d/\(∀k,d ≠ .int k))/\∃m new news,K m new=some r/\Src P w (Ec s.hp β Y) (Bs P e) (a.eval x) m new news:=by
 unfold Amb An5 at n;split at n
 ·rename_i i;obtain⟨CH,n⟩:=Ay n;have CH:=El CH;obtain⟨b,z,n⟩:=Ep n;have Eo:=Cv h z;refine⟨⟨_,i,Ψ⟩,b.size,D1 b,b.data.toList.map (λy=>Value.int .u8 y.toNat),n,?_,?_,?_,?_,?_⟩
  ·intro w';rw[Eo];rfl
  ·intro w' _;rw[Eo]
   have z:b.data.extract 0 b.size=b.data:=by
    have:b.size=b.data.size:=rfl;rw[this,Array.extract_size]
   have hd:(b.extract 0 b.size).data=b.data:=by
    rw[ByteArray.extract_zero_size]
   simp only[Builtin.firstCells,hd];rw[<-Array.toList_map,Array.toArray_toList];rfl
  ·intro k Rr;rw[Eo,CH,Jy];have hd:(b.extract 0 k).data=b.data.extract 0 k:=ByteArray.data_extract
   have A:(b.data.extract 0 k).map (λy=>Value.int .u8 y.toNat)=((b.data.toList.map λy=>Value.int .u8 y.toNat).take k).toArray:=by
    apply Array.toList_inj.1;simp[List.map_take]
   simp only[Builtin.firstCells,hd];rw[A];rfl
  ·intro u i;simp at i;obtain⟨y,_,rfl⟩:=i;rfl
  ·unfold D1;generalize b.data.toList=l
   induction l with
   |nil=>trivial
   |cons y l C=>exact⟨A9.sc _,C⟩
 ·rename_i I i;refine⟨⟨_,i,Ψ⟩,?_⟩;obtain⟨m,new,n,g⟩:=VW h n;have Ef:=t m new n;rcases g with⟨⟨ad,Eo⟩,rfl,rfl⟩|⟨ad,q,Eo,J,Cs,o⟩
  ·have f0:∀w':World,(Builtin.firstCells (Bs P e) 0 (.slice ad 0 0)).run P w'=.ok #[] w':=λw'=>by
    cases ad with
    |none=>rfl
    |some p=>exact run_firstCells_some (P:=P) w' (Bs P e) 0 p 0 0 [] Ψ (λj v f=>by simp at f)
   exact⟨0,[],[],n,λw'=>by rw[Eo];rfl,λw' _=>by rw[Eo];exact f0 w',λk Rr=>by rw[Eo,Nat.le_zero.1 Rr,List.take_nil];exact f0 w,Ψ,trivial⟩
  ·refine⟨m,new,new.mapIdx (λj _=>(w.cell? (ad.add j)).getD undef),n,λw'=>by rw[Eo];rfl,λw' D=>?_,λk Rr=>?_,?_,?_⟩
   ·rw[Eo];refine run_firstCells_some (P:=P) w' (Bs P e) m ad m q _ (by simp[Ef]) λj v f=>?_;rw[List.getElem?_mapIdx] at f;cases g:new[j]? with
    |none=>rw[g] at f;cases f
    |some c=>
     rw[g] at f;simp at f;obtain⟨u,i,_⟩:=o j c g;rw[i] at f;simp at f;subst f;have Cs:ad.block<w.heap.size:=by rcases Cs with rfl|Cs<;>first|exact Cs|simp at g
     rw[World.cell?_of_block (w:=w) (by rw[G5];exact D _ Cs)]
     exact i
   ·rw[Eo];have E:k*Bs P e<=m*Bs P e:=Nat.mul_le_mul_right _ Rr;refine run_firstCells_some (P:=P) w (Bs P e) k ad m q _ (by rw[List.length_take,List.length_mapIdx,Ef];omega) λj v f=>?_
    rw[List.getElem?_take] at f;split at f
    ·rw[List.getElem?_mapIdx] at f;cases g:new[j]? with
     |none=>rw[g] at f;cases f
     |some c=>
      rw[g] at f;simp at f;obtain⟨u,i,_⟩:=o j c g;rw[i] at f;simp at f;subst f;exact i
    ·cases f
   ·intro u i;obtain⟨j,f⟩:=List.mem_iff_getElem?.1 i;rw[List.getElem?_mapIdx] at f;cases g:new[j]? with
    |none=>rw[g] at f;cases f
    |some c=>
     rw[g] at f;simp at f;obtain⟨v,G,H,ht⟩:=o j c g;rw[G] at f;simp at f;subst f;exact H
   ·refine Bv.of_at Ψ λj c v g f=>?_;rw[List.getElem?_mapIdx,g] at f;simp at f;obtain⟨u,i,_,ht⟩:=o j c g;rw[i] at f;simp at f;subst f;exact ht
 ·cases n
theorem VD{e:TypeId}(h:Aes P e=true):∃i z,P.info? e=some i/\i.zero=some z/\z.cells.size=i.size/\Bs P e=i.size:=by
 unfold Aes at h;split at h
 ·rename_i i hi;split at h
  ·rename_i z a;exact⟨i,z,hi,a,El h,by simp[Bs,hi]⟩
  ·cases h
 ·cases h
theorem TT{es n cap:Nat}{ad:Option Addr}{olds:List Value}(h:(ad=none/\olds=[])\/∃p,ad=some p/\olds.length=n*es/\∀(j:Nat) v,olds[j]?=some v->w.cell? (p.add j)=some v):
  (Builtin.firstCells es n (.slice ad n cap)).run P w=.ok olds.toArray w:=by
 rcases h with⟨rfl,rfl⟩|⟨p,rfl,a,b⟩
 ·rfl
 ·exact run_firstCells_some (P:=P) w es n p n cap olds a b
theorem R3{t tx ty e:TypeId}{i:TypeInfo}{z:Value}{d:TypeDesc}{ts:List TypeId}(ht:P.underlying t=some (.slice e))(b:P.underlying tx=some d)(hd:∀k,d ≠ .int k)(hi:P.info? e=some i)(g:i.zero=some z){ad:Option Addr}{n cap m:Nat}{c:Value}{olds news:List Value}{A:Nat->Prop}{new:Ae}(f:Src P w A i.size c m new news)(a:(ad=none/\olds=[])\/∃p,ad=some p/\olds.length=n*i.size/\∀(j:Nat) v,olds[j]?=some v->w.cell? (p.add j)=some v)(h:cap<n+m)(E:(n+m)*i.bytes<=1099511627776)(l:n+m<=1099511627776):
  (Builtin.append_ (t::tx::ts).toArray ty #[.slice ad n cap,c]).run P w =
   .ok (.slice (some ⟨w.heap.size,0,none⟩) (n+m) (grownCap w (n+m) cap e)) (w.drew.alloc (.cells (olds.toArray++news.toArray++Builtin.zeroCells z.cells (grownCap w (n+m) cap e-(n+m))) e)):=by
 have o:=f.len w;have q:(Builtin.firstCells i.size m c).run P w.drew=.ok news.toArray w.drew:=f.cells w.drew (λ_ _=>rfl)
 have r:(Builtin.firstCells i.size n (.slice ad n cap)).run P w.drew=.ok olds.toArray w.drew:=TT (w:=w.drew) (by
  rcases a with s|⟨p,hp,x,y⟩
  ·exact .inl s
  ·exact .inr ⟨p,hp,x,λj v C=>y j v C⟩)
 have Bdd:=growslice_fits (need:=n+m) (old:=cap) (bytes:=i.bytes) h Ω;have D:¬(n+m<=cap):=Ω
 have A2j:¬(9223372036854775807<((n:Int)+(m:Int))):=Ω
 have A1k:¬(281474976710656<Builtin.nextslicecap (n+m) cap*i.bytes):=Ω
 have WL:(match d with | .int _=>true|_=>false)=false:=by cases d<;>first|rfl|exact absurd rfl (hd _)
 simp[Builtin.append_,run_underlying ht,run_underlying b,WL,sizeOf,typeInfo,zeroValue,hi,g,o,D,A2j,A1k,Question.forced,q,r,newRow,grownCap]
 congr 2
 apply Array.ext';simp[Zzv]
theorem TV{t tx ty e:TypeId}{i:TypeInfo}{d:TypeDesc}{ts:List TypeId}(ht:P.underlying t=some (.slice e))(a:P.underlying tx=some d)(hd:∀k,d ≠ .int k)(hi:P.info? e=some i){b ob n cap m:Nat}{c:Value}{news:List Value}{A:Nat->Prop}{new:Ae}(f:Src P w A i.size c m new news)(j:news.length=m*i.size)(Eu:∀k,k<news.length->(w.cell? ⟨b,ob+n*i.size+k,none⟩).isSome=true)(g:∀k,k<news.length->w.frozen? ⟨b,ob+n*i.size+k,none⟩=false)(l:n+m<=cap):
  (Builtin.append_ (t::tx::ts).toArray ty #[.slice (some ⟨b,ob,none⟩) n cap,c]).run P w=.ok (.slice (some ⟨b,ob,none⟩) (n+m) cap) (w.setCells b (ob+n*i.size) news):=by
 have o:=f.len w;have p:(Builtin.firstCells i.size m c).run P w=.ok news.toArray w:=f.cells w (λ_ _=>rfl);have q:=run_storeCells_cells (P:=P) b (ob+n*i.size) news 0 w (λk h=>by simpa using Eu k h) (λk h=>by simpa using g k h) f.one;have WL:(match d with | .int _=>true|_=>false)=false:=by cases d<;>first|rfl|exact absurd rfl (hd _)
 have _:=j;simp[Builtin.append_,run_underlying ht,run_underlying a,WL,sizeOf,typeInfo,hi,o,l,p,Gk];rw[q];simp
theorem Aji{t ty e:TypeId}{i:TypeInfo}{ts:List TypeId}(ht:P.underlying t=some (.slice e))(hi:P.info? e=some i){ad:Option Addr}{n cap m:Nat}{a:Value}{news:List Value}{A:Nat->Prop}{new:Ae}(b:Src P w A i.size a m new news){w1:World}(Iy:(match ad with|some p=>storeCells p (news.take (min m n*i.size)) 0|none=>pure ()).run P w=.ok () w1):
  (Builtin.copy_ (t::ts).toArray ty #[.slice ad n cap,a]).run P w=.ok (goInt ((min m n:Nat):Int)) w1:=by
 have c:=b.len w;have d:=b.part (min m n) (Nat.min_le_left _ _);have e:Nat.min m n=min m n:=rfl;generalize min m n=k at *
 cases ad with
 |none=>
  simp only at Iy;simp[Builtin.copy_,run_underlying ht,sizeOf,typeInfo,hi,c,d,e]
  simpa using Iy
 |some p=>
  simp only at Iy;simp[Builtin.copy_,run_underlying ht,sizeOf,typeInfo,hi,c,d,e,Iy]
theorem OQ{t tx ty e:TypeId}{i:TypeInfo}{k kx:IntKind}{ts:List TypeId}(ht:P.underlying t=some (.slice e))(a:P.underlying tx=some (.int k))(hi:P.info? e=some i):
  (Builtin.append_ (t::tx::ts).toArray ty #[.slice none 0 0,.int kx 0]).run P w=.ok (.slice none 0 0) w:=by
 have b:IntKind.i64.wrap 0=0:=Δ
 simp[Builtin.append_,run_underlying ht,run_underlying a,sizeOf,typeInfo,hi,asInt,asIntOf,b]
theorem TG{t tx ty e:TypeId}{i:TypeInfo}{z:Value}{k kx:IntKind}{ts:List TypeId}(ht:P.underlying t=some (.slice e))(a:P.underlying tx=some (.int k))(hi:P.info? e=some i)(c:i.zero=some z){n:Int}(h:0<n)(j:n.toNat*i.bytes<=1099511627776)(l:n<=1099511627776):
  (Builtin.append_ (t::tx::ts).toArray ty #[.slice none 0 0,.int kx n]).run P w =
   .ok (.slice (some ⟨w.heap.size,0,none⟩) n.toNat (grownCap w n.toNat 0 e)) (w.drew.alloc (.cells ((if n.toNat*i.size=0 then #[] else Builtin.zeroCells z.cells n.toNat)++Builtin.zeroCells z.cells (grownCap w n.toNat 0 e-n.toNat)) e)):=by
 have d:IntKind.i64.wrap n=n:=IntWalk.i64_in n Ω;have Bdd:=growslice_fits (need:=n.toNat) (old:=0) (bytes:=i.bytes) Ω Ω;have NX:¬n<0:=Ω
 have f:¬(281474976710656<n*(i.bytes:Int)):=by
  have:n*(i.bytes:Int)=((n.toNat*i.bytes:Nat):Int):=by
   rw[Int.natCast_mul,Int.toNat_of_nonneg Ω]
  omega
 have Sa:¬(n.toNat=0):=Ω
 have A2j:¬(9223372036854775807<(n.toNat:Int)):=Ω
 have A1k:¬(281474976710656<Builtin.nextslicecap n.toNat 0*i.bytes):=Ω
 have IV:¬n<=0:=Ω
 have b:¬(9223372036854775807<max n 0):=Ω
 by_cases g:n.toNat*i.size=0
 ·simp[Builtin.append_,run_underlying ht,run_underlying a,sizeOf,typeInfo,zeroValue,hi,c,asInt,asIntOf,d,NX,f,Sa,IV,b,A2j,A1k,Question.forced,g,newRow,grownCap,Builtin.firstCells]
 ·simp[Builtin.append_,run_underlying ht,run_underlying a,sizeOf,typeInfo,zeroValue,hi,c,asInt,asIntOf,d,NX,f,Sa,IV,b,A2j,A1k,Question.forced,g,newRow,grownCap,Builtin.firstCells]
theorem Rt{t tx ty e:TypeId}{i:TypeInfo}{d:TypeDesc}{ts:List TypeId}(ht:P.underlying t=some (.slice e))(a:P.underlying tx=some d)(hd:∀k,d ≠ .int k)(hi:P.info? e=some i){ad:Option Addr}{b:Value}{news:List Value}{A:Nat->Prop}{new:Ae}(c:Src P w A i.size b 0 new news)(f:news=[]):
  (Builtin.append_ (t::tx::ts).toArray ty #[.slice ad 0 0,b]).run P w=.ok (.slice ad 0 0) w:=by
 subst f;have g:=c.len w;have h:(Builtin.firstCells i.size 0 b).run P w=.ok ([]:List Value).toArray w:=c.cells w (λ_ _=>rfl);have WL:(match d with | .int _=>true|_=>false)=false:=by cases d<;>first|rfl|exact absurd rfl (hd _)
 cases ad<;>simp[Builtin.append_,run_underlying ht,run_underlying a,WL,sizeOf,typeInfo,hi,g,h,storeCells]
end
open Go.RowKit
section
variable {R:Type}{r:R}{P:Program}{N:Nat}{w0:World}{X0:Lu}{Y:Nat->Prop}{β β':Bt}{s:St}{a:Act}{w w':World}{o:Oper}{A:Nat->Prop}
theorem Aw0{b j:Nat}(h:j<bsz w b):(w.cell? ⟨b,j,none⟩).isSome=true:=by
 unfold bsz at h;unfold World.cell?;split at h
 ·rename_i c e fz a;simp[a,h]
 ·omega
theorem Anj{id d:Nat}{c cells:Ae}{g:Option (Nat × Nat)}(l:s.hp id=some (.ar false c))(hd:s.hp d=none)(f:∀k x,g=some (k,x)->w.heap.size<=k\/∃y,β id=some (k,y)):
  ∀k,k<w.heap.size->Ec (Dm (Dm s.hp id (some .mv)) d (some (.ar false cells))) (Dm β d g) Y k->Ec s.hp β Y k:=by
 rintro k o (⟨i,x,a,b⟩|m)
 ·by_cases j:i=d
  ·subst j;rw[Az] at b;rcases f k x b with h|⟨y,n⟩
   ·omega
   ·exact .inl ⟨id,y,by rw[l];trivial,n⟩
  ·rw[At _ _ j] at a b;by_cases e:i=id
   ·subst e;rw[Az] at a;exact a.elim
   ·rw[At _ _ e] at a;exact .inl ⟨i,x,a,b⟩
 ·exact .inr m
theorem XE{pre new:Ae}{olds news:List Value}{d:Array Value}{e:TypeId}{A':Nat->Prop}(f:I2 w w' (olds.toArray++news.toArray++d) e)(g:∀b,b<w.heap.size->A' b->A b)(i:Bv (A9 w A) pre olds)(k:Bv (A9 w A) new news)(l:∀u∈olds,u.oneCell'=true)(m:∀u∈news,u.oneCell'=true):RdT w' A' ⟨w.heap.size,0,none⟩ (pre++new):=by
 refine Aom f g λj p n=>?_;obtain⟨v,a,ht⟩:=(i.app k).get n;refine⟨v,?_,?_,ht⟩
 ·have Cs:j<(olds++news).length:=by
   rcases Jt j (olds++news).length with h|h
   ·exact h
   ·rw[List.getElem?_eq_none h] at a;cases a
  rw[Array.getElem?_append_left (by simpa using Cs)]
  simpa using a
 ·rcases B2.1 (List.mem_of_getElem? a) with c|c
  ·exact l v c
  ·exact m v c
theorem Afa(h:Dt N w0 X0 Y β s a w){c:Call}(T:o.op=.call c)(U:c.callee=.builtin .append)(p:LC c=true){d:Nat}(Arl:o.dst=some d){b x:Operand}(M:c.args.toList=[b,x]){t tx:TypeId}{ts:List TypeId}(SN:c.argTypes.toList=t::tx::ts){K:PV->List (Nat × Cd)->Option R}(f:GD P (Om s.hp) d t tx (Cw s.tm x) K=some r):∃v nw,K v nw=some r/\F2 P a w o Y β s v [] nw:=by
 have E:b=.const (.slice none 0 0):=by
  unfold LC at p;rw[M] at p;split at p
  ·rename_i e;injection e
  ·cases p
 have ZA:c.args = #[b,x]:=by
  have:c.args=([b,x]:List Operand).toArray:=by rw[<-M]
  exact this
 have Ahh:c.argTypes=(t::tx::ts).toArray:=by rw[<-SN]
 have Xd:a.eval b=.slice none 0 0:=by rw[E];rfl
 have run:∀{v:Value} {G:World},(Builtin.append_ (t::tx::ts).toArray o.type #[a.eval b,a.eval x]).run P w=.ok v G->(execOp a.eval o).run P w=.ok (.value v) G:=by
  intro v G y;unfold execOp;rw[T];simp only[resolve,U,invoke,builtin,Sem.run_bind,Sem.run_pure,Result.andThen_ok,ZA,Ahh];have:(#[b,x]:Array Operand).map a.eval = #[a.eval b,a.eval x]:=Ψ
  rw[this,y];rfl
 unfold GD at f;split at f
 ·rename_i e O;obtain⟨H,f⟩:=Ay f;obtain⟨i,z,hi,V,I,Wh⟩:=VD H;have EU:((P.info? e).map (·.bytes)).getD 0=i.bytes:=by rw[hi];rfl
  obtain⟨⟨dx,C,Aiv⟩,m,new,news,f,A⟩:=XT (s:=s) h f (λm new Rr=>by
   obtain⟨E,_⟩:=Ay Rr;simp only[Ge,JI] at E;exact E.1.1)
  obtain⟨Q,f⟩:=Ay f;simp only[Ge,JI] at Q;obtain⟨⟨Apl,D⟩,SX⟩:=Q;have W:new.length=news.length:=A.rep.len;rw[Wh] at Apl f A;rw[EU] at D;have RD:news.length=m*i.size:=Ω
  refine⟨_,_,f,Ψ,?_⟩;by_cases J:m=0
  ·subst J;have y:=Rt (P:=P) (w:=w) (t:=t) (tx:=tx) (ty:=o.type) (ts:=ts) (ad:=none) O C Aiv hi A (List.eq_nil_of_length_eq_zero Ω);rw[<-Xd] at y;have Ajt:new=[]:=List.eq_nil_of_length_eq_zero Ω;subst Ajt;refine⟨_,_,run y,λAut=>⟨Dm β d none,?_⟩⟩;have GP:s.hp d=none:=(B7 Aut).1 d _ (Xz _);rw[Xd];refine⟨rfl,rfl,rfl,Cy.refl _ _,λj l=>At _ _ (by rintro rfl;exact l GP),?_,?_,?_,?_,?_,.inl ⟨Az _ _ _,rfl,rfl,none,rfl⟩,?_⟩
   ·intro j L g;simp at g;rw[g.2];trivial
   ·intro j L g;simp at g;obtain⟨rfl,rfl⟩:=g;exact .inl ⟨Az _ _ _,rfl⟩
   ·intro j L k q g S;simp at g;obtain⟨rfl,rfl⟩:=g;rw[Az] at S;cases S
   ·intro j L j' X k q q' g My _ _;simp at g My;rw[g.1,My.1]
   ·intro j cells g;simp at g
   ·intro j l;simp[Ck,C8,A3] at l;subst l;exact .inr ⟨.ar false [],Ψ⟩
  ·have y:=R3 (P:=P) (w:=w) (t:=t) (tx:=tx) (ty:=o.type) (ts:=ts) (ad:=none) (n:=0) (cap:=0) (olds:=[]) O C Aiv hi V A (.inl ⟨rfl,rfl⟩) Ω (by rw[Ka];exact D) Ω
   rw[<-Xd] at y;refine⟨_,_,run y,λAut=>⟨Dm β d (some (w.heap.size,0)),?_⟩⟩;have GP:s.hp d=none:=(B7 Aut).1 d _ (Xz _);have Z:0+m<=grownCap w (0+m) 0 e:=grownCap_ge w (0+m) 0 e
   have KF:I2 w (w.drew.alloc (.cells (([]:List Value).toArray++news.toArray++Builtin.zeroCells z.cells (grownCap w (0+m) 0 e-(0+m))) e)) (([]:List Value).toArray++news.toArray++Builtin.zeroCells z.cells (grownCap w (0+m) 0 e-(0+m))) e:=
    ⟨rfl,rfl,rfl,λk f=>Below.heap_alloc w.drew _ k f,by show (w.heap.push _).size=_;simp,(0,0),by show (w.heap.push _)[w.heap.size]?=_;simp,.inl rfl⟩
   have Alk:(([]:List Value).toArray++news.toArray++Builtin.zeroCells z.cells (grownCap w (0+m) 0 e-(0+m))).size=grownCap w (0+m) 0 e*i.size:=by
    simp only[Array.size_append,List.size_toArray,size_zeroCells,I,RD,SS,<-Nat.add_mul];rw[Ka (m*i.size),<-Nat.add_mul]
    congr 1
    omega
   refine Yy (s:=⟨s.tm,Aj s.hp []⟩) KF GP trivial ?_ (λcells hx=>by cases hx) ?_ (by intro j l;simp[Ck,C8,A3] at l;exact .inr l)
   ·refine .inr ⟨w.heap.size,0,Az _ _ _,?_,λ_ j _ l=>?_,(λq=>by cases q)⟩
    ·exact XE (pre:=[]) KF (Aos (s:=⟨s.tm,Aj s.hp []⟩) GP) trivial A.rep Ψ A.one
    ·rw[KF.bsz] at l;exact KF.frozen l
   ·refine .inr ⟨w.heap.size,0,0,grownCap w (0+m) 0 e,Az _ _ _,by rw[Ka],.inl rfl,Ω,?_,by rw[KF.size];omega⟩
    exact⟨by rw[KF.bsz,Alk];omega,.inr (Pp w.drew _ e)⟩
 ·cases f
theorem Ajx{b hi:Option Operand}{y3:Operand}{h:IntKind}{len cap l u m:Nat}(i:(b=none/\l=0)\/∃y k,b=some y/\a.eval y=.int k (l:Int))(j:∃y k,hi=some y/\a.eval y=.int k (u:Int))(d:a.eval y3=.int h (m:Int))(n:l<=u)(e:u<=m)(f:m<=cap):
  (Instr.sliceBounds true len cap (b.map a.eval) (hi.map a.eval) (some (a.eval y3))).run P w=.ok (l,u,m) w:=by
 obtain⟨y,k,rfl,g⟩:=j;rcases i with⟨rfl,rfl⟩|⟨o,p,rfl,c⟩
 ·simp[Instr.sliceBounds,Instr.sliceBound,asIntOf,g,d,e,f]
 ·simp[Instr.sliceBounds,Instr.sliceBound,asIntOf,g,c,d,n,e,f]
theorem Afj(h:Dt N w0 X0 Y β s a w){t:TypeId}{x m:Operand}{I hi:Option Operand}(Z:o.op=.slice t x I hi (some m)){d:Nat}{K:PV->List (Nat × Cd)->Option R}(f:FR P d t (Cw s.tm x) (I.map (Cw s.tm)) (hi.map (Cw s.tm)) (some (Cw s.tm m)) K=some r):∃v nw,K v nw=some r/\F2 P a w o Y β s v [] nw:=by
 have M:=D4 h x;unfold FR at f;split at f
 ·rename_i e X;obtain⟨A,f⟩:=Ay f;simp only[Ge] at A;obtain⟨Xj,O⟩:=A
  obtain⟨Q,rfl⟩:∃y,hi=some y:=by
   cases hi with
   |none=>simp at O
   |some y=>exact⟨y,rfl⟩
  have C:∀{ad:Option Addr} {n g l u q:Nat},a.eval x=.slice ad n g->n<=g->((I=none/\l=0)\/∃y k,I=some y/\a.eval y=.int k (l:Int))->((some Q=none/\u=n)\/∃y k,some Q=some y/\a.eval y=.int k (u:Int))->(((some m:Option Operand)=none/\q=n)\/∃y k,(some m:Option Operand)=some y/\a.eval y=.int k (q:Int)) ->
    (Nat.beq l q&&Nat.beq u q&&decide (q<=n))=true->F2 P a w o Y β s (.view d (Bs P e) 0 0) [] [(d,.ar false [])]:=by
   intro ad n g l u q Eo J G Nq D A;simp only[Ge,JI] at A;obtain⟨⟨S,T⟩,b3⟩:=A;have S:=El S;have T:=El T;subst S T
   have U:∃y k,(some Q:Option Operand)=some y/\a.eval y=.int k (u:Int):=by
    rcases Nq with⟨e,_⟩|e
    ·cases e
    ·exact e
   obtain⟨k3,V⟩:∃k,a.eval m=.int k (u:Int):=by
    rcases D with⟨e,_⟩|⟨y,k,e,q⟩
    ·cases e
    ·cases e;exact⟨k,q⟩
   have E:=Ajx (P:=P) (w:=w) (len:=n) (cap:=g) G U V (Cg _) (Cg _) Ω
   have Dn:∃H,(execOp a.eval o).run P w=.ok (.value (.slice H 0 0)) w:=by
    unfold execOp;rw[Z];cases ad with
    |none=>exact⟨none,by simp[Instr.sliceAt,Instr.slice,run_underlying X,Eo,E,Ds Xj] at E ⊢⟩
    |some p=>exact⟨some p,by simp[Instr.sliceAt,Instr.slice,run_underlying X,Eo,E,Ds Xj] at E ⊢⟩
   obtain⟨H,Dn⟩:=Dn;refine⟨Ψ,_,_,Dn,λAut=>⟨Dm β d none,?_⟩⟩;have GP:s.hp d=none:=(B7 Aut).1 d _ (Xz _);refine⟨rfl,rfl,rfl,Cy.refl _ _,λj L=>At _ _ (by rintro rfl;exact L GP),?_,?_,?_,?_,?_,.inl ⟨Az _ _ _,rfl,rfl,H,rfl⟩,?_⟩
   ·intro j W i;simp at i;rw[i.2];trivial
   ·intro j W i;simp at i;obtain⟨rfl,rfl⟩:=i;exact .inl ⟨Az _ _ _,rfl⟩
   ·intro j W k q i D;simp at i;obtain⟨rfl,rfl⟩:=i;rw[Az] at D;cases D
   ·intro j W j' bx' k q q' i My _ _;simp at i My;rw[i.1,My.1]
   ·intro j cells i;simp at i
   ·intro j L;simp[Ck,C8,A3] at L;subst L;exact .inr ⟨.ar false [],Ψ⟩
  split at f
  ·rename_i id es off n e';rw[e'] at M;obtain⟨CH,f⟩:=Ay f;obtain⟨l,f,G⟩:=Fb h f;obtain⟨u,f,Nq⟩:=Fb h f;obtain⟨q,f,D⟩:=Fb (x:=some m) h f;obtain⟨A,f⟩:=Ay f;refine⟨_,_,f,?_⟩;rcases M with⟨hβ,_,rfl,ad,Eo⟩|⟨b,ob,y,g,hβ,Eo,hy,J,MV,Cs⟩
   ·exact C Eo (Cg _) G Nq D A
   ·exact C Eo J G Nq D A
  ·obtain⟨z,n,c,f,hp⟩:=I9 f;obtain⟨l,f,G⟩:=Fb h f;obtain⟨u,f,Nq⟩:=Fb h f;obtain⟨q,f,D⟩:=Fb (x:=some m) h f;obtain⟨A,f⟩:=Ay f;refine⟨_,_,f,?_⟩;rcases I7 hp M with⟨Eo,rfl,rfl⟩|⟨ad,g,Eo,_,J,_⟩|⟨ad,g,Eo,_,rfl,rfl⟩
   ·exact C Eo (Cg _) G Nq D A
   ·exact C Eo J G Nq D A
   ·exact C Eo (Nat.zero_le _) G Nq D A
 ·cases f
end
open Go.RowKit
section
variable {R:Type}{r:R}{P:Program}{N:Nat}{w0:World}{X0:Lu}{Y:Nat->Prop}{β β':Bt}{s:St}{a:Act}{w w':World}{o:Oper}{A:Nat->Prop}
theorem Awc(h:Dt N w0 X0 Y β s a w){G:KB}(Qd:Env P G w0 X0){C:J7}{F:Ao}(M:∀f args q,F f args=some q->Ej G P f args q){K:PV->B9->List (Nat × Cd)->Option R}(e:VA C P N F s.tm (rd s.hp) (Om s.hp) o K=some r):∃v fz nw,K v fz nw=some r/\WH P a w o Y β s v fz nw:=by
 have one:∀{O:PV->Option R},(∀v,O v=some r->K v [] []=some r)->(∃v,O v=some r/\F2 P a w o Y β s v [] [])->∃v fz nw,K v fz nw=some r/\WH P a w o Y β s v fz nw:=
  λQ ⟨v,l,m⟩=>⟨v,[],[],Q v l,XP m⟩
 have many:(∃v fz nw,K v fz nw=some r/\F2 P a w o Y β s v fz nw)->∃v fz nw,K v fz nw=some r/\WH P a w o Y β s v fz nw:=
  λ⟨v,fz,nw,l,m⟩=>⟨v,fz,nw,l,XP m⟩
 unfold VA at e;split at e
 ·rename_i x g;exact one (λ_ h=>h) (LR (K:=λp=>K p [] []) h (Aqu g) e)
 ·rename_i x g;exact one (λ_ h=>h) (LR (K:=λp=>K p [] []) h (Ajs g) e)
 ·rename_i c x y g;exact one (λ_ h=>h) (Amy (K:=λp=>K p [] []) h g e)
 ·rename_i t g;obtain⟨d,hd,e⟩:=C6 e;exact many (Akb g e)
 ·rename_i t x g;obtain⟨d,hd,e⟩:=C6 e;exact many (Arn h g e)
 ·rename_i t ps g;exact one (λ_ h=>h) (Aj3 (K:=λp=>K p [] []) h g e)
 ·rename_i t n ps g;obtain⟨d,hd,e⟩:=C6 e;exact many (QN h g e)
 ·rename_i t x g;exact one (λ_ h=>h) (Ame (K:=λp=>K p [] []) h g e)
 ·rename_i x g;exact one (λ_ h=>h) (YS (K:=λp=>K p [] []) h g e)
 ·rename_i op t x y W g;exact one (λ_ h=>h) (Ahi (K:=λp=>K p [] []) h g e)
 ·rename_i op t x g;exact one (λ_ h=>h) (An4 (K:=λp=>K p [] []) h g e)
 ·rename_i S T x g;obtain⟨v,nw,e,U⟩:=Ana h g e;obtain⟨d,hd,e⟩:=C6 e;exact⟨v,[],nw,e,XP U⟩
 ·rename_i t x y g;obtain⟨d,hd,e⟩:=C6 e;exact many (Aln h g e)
 ·rename_i t x X hi mx g;split at e
  ·exact one (λ_ h=>h) (Aht (K:=λp=>K p [] []) h g e)
  ·obtain⟨d,hd,e⟩:=C6 e;obtain⟨v,nw,l,m⟩:=Afj h g e;exact⟨v,[],nw,l,XP m⟩
 ·rename_i t x f g;exact one (λ_ h=>h) (SO (K:=λp=>K p [] []) h g e)
 ·rename_i t x f g;exact one (λ_ h=>h) (Aj7 (K:=λp=>K p [] []) h g e)
 ·rename_i t x i g;exact one (λ_ h=>h) (SZ (K:=λp=>K p [] []) h g e)
 ·rename_i t x i g;exact one (λ_ h=>h) (Akp (K:=λp=>K p [] []) h g e)
 ·rename_i t x k ok g;exact one (λ_ h=>h) (Aeh (K:=λp=>K p [] []) h g e)
 ·rename_i x i g;exact one (λ_ h=>h) (ZY (K:=λp=>K p [] []) h g e)
 ·rename_i c g;split at e
  ·rename_i j;exact one (λ_ h=>h) (Aq9 (K:=λp=>K p [] []) h g j e)
  ·rename_i j;exact one (λ_ h=>h) (Ath (K:=λp=>K p [] []) h g j e)
  ·rename_i j;exact one (λ_ h=>h) (Ar9 (K:=λp=>K p [] []) h g j e)
  ·rename_i j;exact one (λ_ h=>h) (Aqh (K:=λp=>K p [] []) h g j e)
  ·rename_i j;obtain⟨A,e⟩:=Ay e;obtain⟨d,hd,Ft⟩:=C6 e;obtain⟨b,B,ZN,V⟩:=Bx Ft;obtain⟨x,Z,D,Rp⟩:=Bx V;obtain⟨OO,FM⟩:=Ey Rp;obtain⟨t,us,z,E⟩:=Bx FM;obtain⟨tx,vs,CJ,H⟩:=Bx E;rw[D,OO] at ZN;rw[CJ] at z;obtain⟨v,nw,l,m⟩:=Afa h g j A hd ZN z H;exact⟨v,[],nw,l,XP m⟩
  ·rename_i f j;exact WE h Qd M (λI J=>Akh g j Qd.ng I J) e
  ·rename_i t j;obtain⟨f,L,Ft⟩:=A1s e;have ht:a.eval (.tmp t)=.func (.func f) #[] #[]:=Cv h (x:=.tmp t) L;exact WE h Qd M (λI J=>Arp g j ht Qd.ng I J) Ft
  ·cases e
 ·cases e
theorem Al6(h:Dt N w0 X0 Y β s a w){G:KB}(Qd:Env P G w0 X0){C:J7}{F:Ao}(k:∀f args d,F f args=some d->Ej G P f args d){K:St->Option R}(c:(VA C P N F s.tm (rd s.hp) (Om s.hp) o λv fz nw=>QD N s o.dst v fz nw K)=some r):
  ∃s',K s'=some r/\∀(next:Act->World->Prop) (Q:Exit->Act->World->Prop),(∀j w' β',Dt N w0 X0 Y β' s' j w'->next j w')->o.wp P a w next Q:=by
 obtain⟨v,fz,nw,c,QA,l⟩:=Awc h Qd k c;unfold QD at c;obtain⟨e,c⟩:=Ay c;simp only[Ge] at e;refine⟨_,c,λnext Q m=>l next Q λval w' Iy=>?_⟩;obtain⟨β',st⟩:=Iy e.2
 have Xd:Ch (Aj s.hp fz) nw=true:=by
  have:∀nw,Ch s.hp nw=true->Ch (Aj s.hp fz) nw=true:=by
   intro nw
   induction nw with
   |nil=>intro _;rfl
   |cons q nw n=>
    obtain⟨i,b⟩:=q;intro g;simp only[Ch,Ge,Option.isNone_iff_eq_none] at g ⊢;exact⟨⟨Fl.2 g.1.1,g.1.2⟩,n g.2⟩
  exact this nw e.2
 exact m _ _ β' ((h.freeze QA).stepR e.1 Xd st)
end
open Go.RowKit
section
variable {R:Type}{r:R}{P:Program}{N:Nat}{w0:World}{X0:Lu}{Y:Nat->Prop}{β β':Bt}{s:St}{a:Act}{w w':World}{o:Oper}{A:Nat->Prop}
structure E2(b:Nat)(w w':World):Prop where
 os:w'.os=w.os
 tape:w'.tape=w.tape
 output:w'.output=w.output
 size:w'.heap.size=w.heap.size
 other:∀k,k≠b->w'.heap[k]?=w.heap[k]?
 bs:bsz w' b=bsz w b
 frz:∀j,w'.frozen? ⟨b,j,none⟩=w.frozen? ⟨b,j,none⟩
theorem E2.grow{b:Nat}(h:E2 b w w')(k:Nat):Ku w w' k:=by
 by_cases e:k=b
 ·subst e;refine⟨by rw[h.bs];exact Cg _,λq=>?_⟩
  unfold Ai7 at q ⊢;rw[h.bs,h.frz];exact q
 ·exact Ku.same (h.other k e)
theorem E2.refl(b:Nat)(w:World):E2 b w w:=⟨rfl,rfl,rfl,rfl,λ_ _=>rfl,rfl,λ_=>rfl⟩
theorem E2.setCell(b j:Nat)(v:Value)(w:World):E2 b w (w.setCell ⟨b,j,none⟩ v):=by
 refine⟨rfl,rfl,rfl,by simp[World.setCell],λk a=>Below.heap_setCell w ⟨b,j,none⟩ v k a,?_,λi=>?_⟩
 ·simp only[bsz,World.setCell,Array.getElem?_modify];simp only[if_true];cases h:w.heap[b]? with
  |none=>simp
  |some x=>cases x<;>simp
 ·simp only[World.frozen?,World.setCell,Array.getElem?_modify,if_true];cases h:w.heap[b]? with
  |none=>simp
  |some x=>cases x<;>simp
theorem E2.trans{b:Nat}{w'':World}(h:E2 b w w')(a:E2 b w' w''):E2 b w w'':=
 ⟨a.os.trans h.os,a.tape.trans h.tape,a.output.trans h.output,a.size.trans h.size,λk c=>(a.other k c).trans (h.other k c),a.bs.trans h.bs,λj=>(a.frz j).trans (h.frz j)⟩
theorem E2.setCells(b:Nat):∀(vs:List Value)(j:Nat)(w:World),E2 b w (w.setCells b j vs)
 |[],_,w=>E2.refl b w
 |v::vs,j,w=>(E2.setCell b j v w).trans (E2.setCells b vs (j+1) _)
theorem Bdy{hp:Nat->Option Cd}{id:Nat}{f a:Cd}(g:hp id=some f)(h:Eb (some f))(Pq:Eb (some a))(b:Nat):Xof (Dm hp id (some a)) β b↔Xof hp β b:=by
 constructor
 ·rintro⟨i,o,d,c⟩
  by_cases e:i=id
  ·subst e;exact⟨i,o,by rw[g];exact h,c⟩
  ·rw[At _ _ e] at d;exact⟨i,o,d,c⟩
 ·rintro⟨i,o,d,c⟩
  by_cases e:i=id
  ·subst e;exact⟨i,o,by rw[Az];exact Pq,c⟩
  ·exact⟨i,o,by rw[At _ _ e];exact d,c⟩
theorem Dt.write(h:Dt N w0 X0 Y β s a w){id b ob:Nat}{p f:Cd}(n:s.hp id=some p)(o:Eb (some p))(Pq:Eb (some f))(q:β id=some (b,ob))(l:E2 b w w')(Rs:Z8 w' (Ec s.hp β Y) β id f)(R:∀cells,f=.st cells->∀c∈cells,∀i∈A3 c,s.hp i≠none)(S:∀c',f=.st c'->∃c,p=.st c)(T:∀j,BR f ob j->BR p ob j)(U:∀j,¬BR p ob j->w'.cell? ⟨b,j,none⟩=w.cell? ⟨b,j,none⟩):Dt N w0 X0 Y β ⟨s.tm,Dm s.hp id (some f)⟩ a w':=by
 have G:=Bdy (β:=β) n o Pq;have V:∀k,Ec (Dm s.hp id (some f)) β Y k↔Ec s.hp β Y k:=λk=>⟨λx=>x.imp (G k).1 (λy=>y),λx=>x.imp (G k).2 (λy=>y)⟩;have z:Ec s.hp β Y b:=.inl ⟨id,ob,by rw[n];exact o,q⟩
 have Iy:Cy (Ec s.hp β Y) w w':=⟨by rw[l.size];exact Cg _,λk _ d=>l.other k (λe=>d (e ▸ z)),λk _=>l.grow k⟩
 have H:∀i,Dm s.hp id (some f) i≠none↔s.hp i≠none:=by
  intro i;by_cases e:i=id
  ·subst e;rw[Az,n];simp
  ·rw[At _ _ e]
 have A:Ec (Dm s.hp id (some f)) β Y=Ec s.hp β Y:=funext λk=>propext (V k)
 have LM:∀i,Eb (Dm s.hp id (some f) i)->Eb (s.hp i):=by
  intro i hi;by_cases e:i=id
  ·subst e;rw[n];exact o
  ·rw[At _ _ e] at hi;exact hi
 refine⟨h.dfr,h.tsz,h.tmo,λi hi=>?_,λi I r=>?_,λi O k x y t C=>h.inj i O k x y (LM i t) (LM O C),λi k x hi d=>?_,λi hi j m=>(H j).2 (h.wfT i hi j m),
  λi cells g c D j m=>(H j).2 ?_,λk d=>h.ownd k ((G k).1 d),λi I k x TC J d Cs j m=>?_,λi hi=>⟨(H _).2 (h.pin i hi).1,(h.pin i hi).2⟩,λi c k x g d Cs=>?_,λk d x=>h.Yx k d ((G k).1 x),h.Ylt,?_⟩
 ·rw[A];exact (h.tms i hi).step Iy (λ_ _ x=>x) (λ_ _=>rfl)
 ·rw[A];simp only at r;by_cases e:i=id
  ·subst e;rw[Az] at r;cases r;exact Rs
  ·rw[At _ _ e] at r;have TC:=h.box i I r;cases I with
   |st c=>
    obtain⟨k,x,t,C,K⟩:=TC
    have d:k≠b:=by
     rintro rfl
     exact e (h.inj i id k x ob (by rw[r];trivial) (by rw[n];exact o) t q)
    refine⟨k,x,t,λj c m=>?_,λj m=>?_⟩
    ·obtain⟨v,L,g⟩:=C j c m;exact⟨v,by rw[World.cell?_of_block (w:=w) (l.other k d)];exact L,g.step Iy (λ_ _ x=>x) (λ_ _=>rfl)⟩
    ·rw[World.frozen?_of_block (w:=w) (l.other k d)];exact K j m
   |ar fz c=>
    rcases TC with W|⟨k,x,t,C,K,P⟩
    ·exact .inl W
    ·have d:k≠b:=by
      rintro rfl
      cases fz with
      |true=>exact P rfl z
      |false=>exact e (h.inj i id k x ob (by rw[r];trivial) (by rw[n];exact o) t q)
     refine .inr ⟨k,x,t,λj c m=>?_,λX j m CR=>?_,P⟩
     ·obtain⟨v,L,Z,g⟩:=C j c m;exact⟨v,by rw[World.cell?_of_block (w:=w) (by rw[G5];exact l.other k d)];exact L,Z,g.step Iy (λ_ _ x=>x)⟩
     ·rw[World.frozen?_of_block (w:=w) (l.other k d)];refine K X j m ?_;unfold bsz at CR ⊢;rw[l.other k d] at CR;exact CR
   |mv=>trivial
 ·rw[l.size];exact h.blt i k x ((H i).1 hi) d
 ·simp only at g;by_cases e:i=id
  ·subst e;rw[Az] at g;injection g with g;exact R cells g c D j m
  ·rw[At _ _ e] at g;exact h.wfB i cells g c D j m
 ·simp only at TC;by_cases e:i=id
  ·subst e;rw[Az] at TC;cases TC;rw[q] at d;cases d;exact h.rngB i p b ob n o q Cs j (T j m)
  ·rw[At _ _ e] at TC;exact h.rngB i I k x TC J d Cs j m
 ·simp only at g;by_cases e:i=id
  ·subst e;rw[Az] at g;injection g with g;obtain⟨c0,rfl⟩:=S c g;exact h.stp i c0 k x n d Cs
  ·rw[At _ _ e] at g;exact h.stp i c k x g d Cs
 ·refine⟨l.os.trans h.fr.os,l.tape.trans h.fr.tape,l.output.trans h.fr.output,?_,λk j d M=>?_⟩
  ·refine⟨by rw[l.size];exact h.fr.step.size,λk d E=>?_,λk d=>(h.fr.step.bs k d).trans (Iy.bs k (H2 d h.fr.step.size))⟩
   rw[l.other k ?_]
   ·exact h.fr.step.keep k d E
   ·rintro rfl
    rcases h.ownd k ⟨id,ob,by rw[n];exact o,q⟩ with Q|Q
    ·exact E Q
    ·omega
  ·by_cases e:k=b
   ·subst e;rw[U j (λm=>M (h.rngB id p k ob n o q d j m)),l.frz];exact h.fr.rng k j d M
   ·have g:w'.cell? ⟨k,j,none⟩=w.cell? ⟨k,j,none⟩:=World.cell?_of_block (w:=w) (l.other k e);have hf:w'.frozen? ⟨k,j,none⟩=w.frozen? ⟨k,j,none⟩:=World.frozen?_of_block (w:=w) (l.other k e);rw[g,hf];exact h.fr.rng k j d M
theorem Zu{c cs:Ae}{off j:Nat}{p:PV}(IV:off+cs.length<=c.length)(h:(B1 c cs off)[j]?=some p):
  (off<=j/\j<off+cs.length/\cs[j-off]?=some p)\/((j<off\/off+cs.length<=j)/\c[j]?=some p):=by
 unfold B1 at h;by_cases a:j<off
 ·rw[Zzv,List.getElem?_append_left (by simp;omega),List.getElem?_take_of_lt a] at h
  exact .inr ⟨.inl a,h⟩
 ·by_cases b:j<off+cs.length
  ·rw[List.getElem?_append_left (by simp;omega),List.getElem?_append_right (by simp;omega)] at h
   simp only[List.length_take,Nat.min_eq_left (by omega:off<=c.length)] at h;exact .inl ⟨Ω,b,h⟩
  ·rw[List.getElem?_append_right (by simp;omega)] at h
   simp only[Vl,List.length_take,Nat.min_eq_left (by omega:off<=c.length),List.getElem?_drop] at h;rw[show off+cs.length+(j-(off+cs.length))=j from Ω] at h;exact .inr ⟨.inr Ω,h⟩
theorem AY{c cs:Ae}{off:Nat}(IV:off+cs.length<=c.length):(B1 c cs off).length=c.length:=by simp[B1];omega
theorem RF{t:TypeId}{b j:Nat}{v:Value}(Wh:(P.info? t).map (·.size)=some v.cells.size)(a:∀i,i<v.cells.toList.length->(w.cell? ⟨b,j+i,none⟩).isSome=true)(c:∀i,i<v.cells.toList.length->w.frozen? ⟨b,j+i,none⟩=false)(d:∀u∈v.cells.toList,u.oneCell'=true):(Instr.storeAt t (.pointer (some ⟨b,j,none⟩)) v).run P w=.ok () (w.setCells b j v.cells.toList):=by
 have:=run_storeCells_cells (P:=P) b j v.cells.toList 0 w (λi hi=>by simpa using a i hi) (λi hi=>by simpa using c i hi) d;simp only[Instr.storeAt,Instr.sureAddr,storeVar,Sem.run_bind,Sem.run_pure,Result.andThen_ok,Ps Wh]
 simpa using this
theorem Ajn(h:Dt N w0 X0 Y β s a w){t:TypeId}{x y:Operand}(ho:o.op=.store t x y)(hd:o.dst=none){K:St->Option R}(l:OX P s t (Cw s.tm x) (Cw s.tm y) K=some r):
  ∃s',K s'=some r/\∀(next:Act->World->Prop) (Q:Exit->Act->World->Prop),(∀a' w' β',Dt N w0 X0 Y β' s' a' w'->next a' w')->o.wp P a w next Q:=by
 have C:=D4 h x;have ZO:=Hb h x
 have run:∀{b j:Nat},a.eval x=.pointer (some ⟨b,j,none⟩)->(Instr.storeAt t (.pointer (some ⟨b,j,none⟩)) (a.eval y)).run P w=.ok () (w.setCells b j (a.eval y).cells.toList) ->
   ∀(next:Act->World->Prop) (Q:Exit->Act->World->Prop),next a (w.setCells b j (a.eval y).cells.toList)->o.wp P a w next Q:=by
  intro b j Eo hr next Q H;unfold Oper.wp execOp;rw[ho];simp only[Sem.run_bind,Eo,hr,Result.andThen_ok,Sem.run_pure];show next (a.put o.dst undef) _;rw[hd];exact H
 unfold OX at l;split at l
 ·rename_i id off e;rw[e] at C ZO;obtain⟨b,f,G,Eo⟩:=C;split at l
  ·rename_i c J;obtain⟨X,l⟩:=Ay l;simp only[Ge,JI] at X;obtain⟨⟨L,hl⟩,IV⟩:=X;have hl:=El hl;obtain⟨cs,l,So,M,h1,hr,_⟩:=Aoy (D4 h y) hl l;obtain⟨_,A8o,Wh⟩:=Ye L;have O:=M.len;obtain⟨b',o',Gf,Jv,GV⟩:=h.box id _ J;rw[G] at Gf;simp at Gf;obtain⟨rfl,rfl⟩:=Gf
   have Eu:∀i,i<(a.eval y).cells.toList.length->(w.cell? ⟨b,f+off+i,none⟩).isSome=true:=by
    intro i hi;obtain⟨v,A,_⟩:=Jv (off+i) _ (List.getElem?_eq_getElem Ω);rw[R1,A];rfl
   have Dn:=RF (P:=P) (t:=t) (w:=w) (b:=b) (j:=f+off) (v:=a.eval y) (by rw[Wh,<-A8o,<-So,O];simp) Eu (λi hi=>by rw[R1];exact GV _ Ω) h1
   refine⟨_,l,λnext Q H=>run Eo Dn next Q (H _ _ β ?_)⟩
   refine h.write J trivial trivial G (E2.setCells b _ _ w) ?_ ?_ (λ_ _=>⟨_,rfl⟩) (λj q=>by
    have q:f<=j/\j<f+(B1 c cs off).length:=q;rw[AY Ω] at q;exact q) (λj q=>by
    refine World.cell?_setCells_out b _ _ w ⟨b,j,none⟩ (λ_ _=>?_);have q:¬(f<=j/\j<f+c.length):=q;show j<f+off\/f+off+_<=j;omega)
   ·have Iy:Cy (Ec s.hp β Y) w (w.setCells b (f+off) (a.eval y).cells.toList):=by
     have S:=E2.setCells b (a.eval y).cells.toList (f+off) w;have T:Ec s.hp β Y b:=.inl ⟨id,f,by rw[J];trivial,G⟩
     exact⟨by rw[S.size];exact Cg _,λk _ l=>S.other k (λe=>l (e ▸ T)),λk _=>S.grow k⟩
    refine⟨b,f,G,λj p q=>?_,λj q=>?_⟩
    ·rcases Zu Ω q with⟨h3,h4,U⟩|⟨h3,U⟩
     ·obtain⟨u,I,V⟩:=M.get U;have Cs:j-off<(a.eval y).cells.toList.length:=Ω
      refine⟨u,?_,V.step Iy (λ_ _ x=>x) (λ_ _=>rfl)⟩;have:=World.cell?_setCells_in b (a.eval y).cells.toList (f+off) w Eu (j-off) Cs;rw[show f+j=f+off+(j-off) from Ω,this];rw[List.getElem?_eq_getElem Cs] at I;exact I
     ·obtain⟨v,A,SA⟩:=Jv j p U;refine⟨v,?_,SA.step Iy (λ_ _ x=>x) (λ_ _=>rfl)⟩;rw[World.cell?_setCells_out b _ _ w ⟨b,f+j,none⟩ (λ_ _=>by show f+j<f+off\/f+off+_<=f+j;omega)]
      exact A
    ·rw[AY Ω] at q;rw[(E2.setCells b _ _ w).frz];exact GV j q
   ·intro cells C c' D i hi;injection C with C;subst C;unfold B1 at D;rcases B2.1 D with D|D
    ·rcases B2.1 D with D|D
     ·exact h.wfB id c J c' (List.mem_of_mem_take D) i hi
     ·exact Hb h y i (hr c' D i hi)
    ·exact h.wfB id c J c' (List.mem_of_mem_drop D) i hi
  ·rename_i c J;obtain⟨X,l⟩:=Ay l;simp only[Ge,JI] at X;obtain⟨L,IV⟩:=X;obtain⟨cs,m,l,So,Zo,hT,E,Z,A⟩:=Yt h l;obtain⟨SX,l⟩:=Ay l
   have SX:id ∉ m:=by
    intro hi;have:m.any (Nat.beq id)=true:=List.any_eq_true.2 ⟨id,hi,Vr id⟩;rw[this] at SX;cases SX
   obtain⟨_,A8o,Wh⟩:=Ye L
   have A1c:Bv (Cp w (Ec s.hp β Y) β) (cellsOf (Cw s.tm y)) (a.eval y).cells.toList:=by
    have g:=D4 h y;cases hp:Cw s.tm y with
    |agg ps=>
     rw[hp] at g;obtain⟨vs,hay,M⟩:=g;rw[hay];exact M
    |sc v=>
     rw[hp] at g E
     have Ay2:(a.eval y).oneCell'=true:=by
      have:=A m (λ_ hi=>hi) Z [a.eval y] (by rw[hp];exact⟨g,trivial⟩)
      exact this.2 _ Ψ
     rw[Tt Ay2];exact⟨g,trivial⟩
    |lst z es n cc=>
     rw[hp] at g E
     have Ay2:(a.eval y).oneCell'=true:=by
      have:=A m (λ_ hi=>hi) Z [a.eval y] (by rw[hp];exact⟨g,trivial⟩)
      exact this.2 _ Ψ
     rw[Tt Ay2];exact⟨g,trivial⟩
    |view i es oo n=>
     rw[hp] at g E
     have Ay2:(a.eval y).oneCell'=true:=by
      have:=A m (λ_ hi=>hi) Z [a.eval y] (by rw[hp];exact⟨g,trivial⟩)
      exact this.2 _ Ψ
     rw[Tt Ay2];exact⟨g,trivial⟩
    |own es n cc=>
     have d:=E (Cw s.tm y) (by rw[hp];exact Xz _)
     rw[hp] at d;exact d.elim
    |ptr i cc=>
     have d:=E (Cw s.tm y) (by rw[hp];exact Xz _)
     rw[hp] at d;exact d.elim
    |iptr i cc=>
     have d:=E (Cw s.tm y) (by rw[hp];exact Xz _)
     rw[hp] at d;exact d.elim
    |pbox cc=>
     have d:=E (Cw s.tm y) (by rw[hp];exact Xz _)
     rw[hp] at d;exact d.elim
    |tup cc=>
     have d:=E (Cw s.tm y) (by rw[hp];exact Xz _)
     rw[hp] at d;exact d.elim
    |ub=>
     have d:=E (Cw s.tm y) (by rw[hp];exact Xz _)
     rw[hp] at d;exact d.elim
    |top=>
     have d:=E (Cw s.tm y) (by rw[hp];exact Xz _)
     rw[hp] at d;exact d.elim
   obtain⟨M,h1⟩:=A m (λ_ hi=>hi) Z _ A1c;have O:=M.len;have hf:=h.freeze Z;have W:Aj s.hp m id=some (.ar false c):=by rw[Cj,Bb SX];exact J
   rcases hf.box id _ W with⟨H,_⟩|⟨b',o',Gf,Jv,GV,_⟩
   ·rw[G] at H;cases H
   rw[G] at Gf;simp at Gf;obtain⟨rfl,rfl⟩:=Gf
   have Eu:∀i,i<(a.eval y).cells.toList.length->(w.cell? ⟨b,f+off+i,none⟩).isSome=true:=by
    intro i hi;obtain⟨v,A,_⟩:=Jv (off+i) _ (List.getElem?_eq_getElem Ω);rw[Gk] at A;rw[R1,A];rfl
   have Dn:=RF (P:=P) (t:=t) (w:=w) (b:=b) (j:=f+off) (v:=a.eval y) (by rw[Wh,<-A8o,<-So,O];simp) Eu (λi hi=>by
    obtain⟨u,I⟩:=Option.isSome_iff_exists.1 (Eu i hi);exact GV rfl _ Ω (VM I)) h1
   refine⟨_,l,λnext Q H=>run Eo Dn next Q (H _ _ β ?_)⟩
   refine hf.write W trivial trivial G (E2.setCells b _ _ w) ?_ (λcells C=>by cases C) (λ_ C=>by cases C) (λj q=>q) (λj q=>by
    refine World.cell?_setCells_out b _ _ w ⟨b,j,none⟩ (λ_ _=>?_);have q:¬(f<=j):=q;show j<f+off\/f+off+_<=j;omega)
   have Iy:Cy (Ec (Aj s.hp m) β Y) w (w.setCells b (f+off) (a.eval y).cells.toList):=by
    have S:=E2.setCells b (a.eval y).cells.toList (f+off) w;have T:Ec (Aj s.hp m) β Y b:=.inl ⟨id,f,by rw[W];trivial,G⟩
    exact⟨by rw[S.size];exact Cg _,λk _ l=>S.other k (λe=>l (e ▸ T)),λk _=>S.grow k⟩
   refine .inr ⟨b,f,G,λj p q=>?_,λ_ j q CR=>?_,(λx=>by cases x)⟩
   ·rw[Gk];rcases Zu Ω q with⟨h3,h4,U⟩|⟨h3,U⟩
    ·obtain⟨u,I,V⟩:=M.get U;have Cs:j-off<(a.eval y).cells.toList.length:=Ω
     refine⟨u,?_,h1 u (List.mem_of_getElem? I),V.step Iy (λ_ _ x=>x)⟩;have:=World.cell?_setCells_in b (a.eval y).cells.toList (f+off) w Eu (j-off) Cs;rw[show f+j=f+off+(j-off) from Ω,this];rw[List.getElem?_eq_getElem Cs] at I;exact I
    ·obtain⟨v,A,h6,SA⟩:=Jv j p U;rw[Gk] at A;refine⟨v,?_,h6,SA.step Iy (λ_ _ x=>x)⟩;rw[World.cell?_setCells_out b _ _ w ⟨b,f+j,none⟩ (λ_ _=>by show f+j<f+off\/f+off+_<=f+j;omega)]
     exact A
   ·rw[(E2.setCells b _ _ w).bs] at CR;rw[(E2.setCells b _ _ w).frz];exact GV rfl j q CR
  ·cases l
 ·cases l
end
open Go.RowKit
theorem Mw:∀{l b:B9},Fn (l++b)=true->Fn l=true/\Fn b=true/\∀i∈l,i ∉ b
 |[],b,h=>⟨rfl,h,Ψ⟩
 |a::l,b,h=>by
  simp only[Zzp,Fn,Ge,Bool.not_eq_true'] at h;obtain⟨c,f⟩:=h;obtain⟨g,j,k⟩:=Mw f
  have d:∀i∈l++b,a≠i:=by
   rintro i hi rfl
   have:(l++b).any (Nat.beq a)=true:=List.any_eq_true.2 ⟨a,hi,Vr a⟩;rw[this] at c;cases c
  refine⟨?_,j,λi hi=>?_⟩
  ·simp only[Fn,Ge,Bool.not_eq_true',g,and_true];rw[List.any_eq_false];intro i hi e;exact d i (by simp[hi]) (El e)
  ·rcases List.mem_cons.1 hi with rfl|hi
   ·exact λm=>d i (by simp[m]) rfl
   ·exact k i hi
def J2(β:Bt)(q:Nat × Nat):Option (Nat × Nat):=(β q.1).map λp=>(p.1,p.2+q.2)
theorem Am5(β:Bt)(id:Nat):J2 β (id,0)=β id:=by unfold J2;cases β id<;>rfl
section
variable {R:Type}{r:R}{P:Program}{N:Nat}{w0:World}{X0:Lu}{Y:Nat->Prop}{β β':Bt}{s:St}{a:Act}{w w':World}{o:Oper}{A:Nat->Prop}
theorem T7{fz:B9}{b:Nat}(h:Ec (Aj s.hp fz) β Y b):Ec s.hp β Y b:=h.imp Y8 id
theorem Ayt(h:Dt N w0 X0 Y β s a w){mv:Bool}{t:CT}{p:PV}{K:PV->B9->B9->Option R}(d:As8 mv s.hp t p K=some r):
  ∃c m q,K c m (Option.toList q)=some r/\isA c/\isF p/\(∀id∈m,∃f cc,s.hp id=some (.ar f cc))/\(∀id,q=some id->∃cc,s.hp id=some (.ar false cc)) /\
   ∀fz:B9,(∀id∈m,id∈fz)->(∀id∈fz,∃f cc,s.hp id=some (.ar f cc))->∀v,Cp w (Ec s.hp β Y) β p v->I0 w (Ec (Aj s.hp fz) β Y) (q.bind β) c v:=by
 have frz:∀{t:CT} {p:PV} {K:PV->B9->B9->Option R},(V3 (Om s.hp) t p λc m=>K c m [])=some r->∃c m q,K c m (Option.toList q)=some r/\isA c/\isF p/\(∀id∈m,∃f cc,s.hp id=some (.ar f cc))/\(∀id,q=some id->∃cc,s.hp id=some (.ar false cc)) /\
   ∀fz:B9,(∀id∈m,id∈fz)->(∀id∈fz,∃f cc,s.hp id=some (.ar f cc))->∀v,Cp w (Ec s.hp β Y) β p v->I0 w (Ec (Aj s.hp fz) β Y) (q.bind β) c v:=by
  intro t p K d;obtain⟨c,m,d,o,T,U,H⟩:=WP h d;exact⟨c,m,none,d,.inl o,T,U,Ψ,λfz y A v l=>Pw o (H fz y A v l).1⟩
 have tree:∀{t:CT} {p:PV} {K:PV->B9->B9->Option R},(∀es,t ≠ .sl es)->(QI t p λc=>K c [] [])=some r->∃c m q,K c m (Option.toList q)=some r/\isA c/\isF p/\(∀id∈m,∃f cc,s.hp id=some (.ar f cc))/\(∀id,q=some id->∃cc,s.hp id=some (.ar false cc)) /\
   ∀fz:B9,(∀id∈m,id∈fz)->(∀id∈fz,∃f cc,s.hp id=some (.ar f cc))->∀v,Cp w (Ec s.hp β Y) β p v->I0 w (Ec (Aj s.hp fz) β Y) (q.bind β) c v:=by
  intro t p K F1 d;obtain⟨c,d,o,VJ,H⟩:=Sy d;exact⟨c,[],none,d,.inl o,AD VJ,Ψ,Ψ,λfz y A v l=>Pw o ((H w _ β v l).1.step (Cy.refl _ _) (λb _ g=>T7 g))⟩
 unfold As8 at d;cases t with
 |sl es=>
  dsimp only at d;cases mv<;>simp only[cond_true,cond_false] at d
  ·exact frz d
  ·split at d
   ·rename_i id I off n;split at d
    ·rename_i c S;cases g:(Nat.beq I es&&Nat.beq off 0)<;>rw[g] at d<;>simp only[cond_true,cond_false] at d
     ·exact frz d
     ·simp only[Ge] at g;have V:=El g.1;have J:=El g.2;subst V J;obtain⟨hl,d⟩:=Ay d;refine⟨_,[],some id,d,.inr ⟨_,_,_,rfl⟩,trivial,Ψ,λi hi=>by cases hi;exact⟨c,S⟩,λfz y A v l=>?_⟩
      rcases l with⟨C,_,rfl,L⟩|⟨b,W,x,M,C,L,O,X,Z,h7⟩
      ·exact .inl ⟨C,rfl,Ψ,L⟩
      ·have O:x=W:=by rcases O with e|⟨_,e⟩<;>omega
       subst O;rcases h.box id _ S with⟨D,_⟩|⟨b',o',D,h9,P,_⟩
       ·rw[C] at D;cases D
       ·rw[C] at D;cases D;refine .inr ⟨b,x,M,C,L,X,Z,h7,λj p G=>?_,P rfl⟩;rw[List.getElem?_take] at G;split at G
        ·obtain⟨u,hu,Q,ht⟩:=h9 j p G;exact⟨u,hu,Q,ht.step (Cy.refl _ _) (λb _ g=>T7 g)⟩
        ·cases G
    ·exact frz d
   ·obtain⟨z,n,c,d,hp⟩:=I9 d;have E:isF p:=by rcases hp with e|⟨e,_⟩<;>(rw[e];trivial)
    cases z<;>simp only[cond_true,cond_false] at d
    ·refine⟨_,[],none,d,.inl trivial,E,Ψ,Ψ,λfz y A v l=>?_⟩;exact Pw trivial ((IX hp l).step (Cy.refl _ _) (λb _ g=>T7 g))
    ·refine⟨_,[],none,d,.inr ⟨_,_,_,rfl⟩,E,Ψ,Ψ,λfz y A v l=>.inl ⟨rfl,rfl,rfl,none,?_⟩⟩;have:=IX hp l;cases this;rfl
 |int k=>exact tree Ψ d
 |bool=>exact tree Ψ d
 |str=>exact tree Ψ d
 |any=>exact tree Ψ d
theorem FT(h:Dt N w0 X0 Y β s a w){mv:Bool}:∀{ts:List CT}{ps:Ae}{K:Ae->B9->B9->Option R},RE mv s.hp ts ps K=some r ->
  ∃cs m x,∃q:Nat->Option Nat,K cs m x=some r/\cs.length=ts.length/\ps.length=ts.length/\(∀c∈cs,isA c)/\(∀p∈ps,isF p)/\(∀id∈m,∃f cc,s.hp id=some (.ar f cc))/\(∀id∈x,∃cc,s.hp id=some (.ar false cc)) /\
   (∀j id,q j=some id->id∈x)/\(Fn x=true->∀j d id,q j=some id->q d=some id->j=d) /\
   ∀fz:B9,(∀id∈m,id∈fz)->(∀id∈fz,∃f cc,s.hp id=some (.ar f cc))->∀vs,Bv (Cp w (Ec s.hp β Y) β) ps vs->∀(own:Bt) e,(∀j,own (e+j)=(q j).bind β)->Gu w (Ec (Aj s.hp fz) β Y) own e cs vs
 |[],[],K,b=>⟨[],[],[],λ_=>none,b,rfl,rfl,Ψ,Ψ,Ψ,Ψ,Ψ,Ψ,λfz _ _ vs y own e _=>by
   cases vs with
   |nil=>trivial
   |cons v vs=>exact y.elim⟩
 |[],_::_,K,b=>by cases b
 |_::_,[],K,b=>by cases b
 |t::ts,p::ps,K,b=>by
  unfold RE at b;obtain⟨c,m,q,b,G,H,I,J,y⟩:=Ayt h b;obtain⟨cs,L,B,M,b,O,Pq,z,A,UY,ZN,g,C,CJ⟩:=FT h b;refine⟨c::cs,m++L,q.toList++B,λj=>match j with|0=>q|j+1=>M j,b,by simp[O],by simp[Pq],?_,?_,?_,?_,?_,?_,?_⟩
  ·intro x k;rcases List.mem_cons.1 k with rfl|k
   ·exact G
   ·exact z x k
  ·intro x k;rcases List.mem_cons.1 k with rfl|k
   ·exact H
   ·exact A x k
  ·intro i hi;rcases B2.1 hi with hi|hi
   ·exact I i hi
   ·exact UY i hi
  ·intro i hi;rcases B2.1 hi with hi|hi
   ·exact J i (by simpa using hi)
   ·exact ZN i hi
  ·intro j id l;cases j with
   |zero=>exact B2.2 (.inl (by simpa using l))
   |succ j=>exact B2.2 (.inr (g j id l))
  ·intro P j d id l CR;obtain⟨_,o,n⟩:=Mw P;cases j with
   |zero=>
    cases d with
    |zero=>rfl
    |succ d=>exact absurd (g d id CR) (n id (by simpa using l))
   |succ j=>
    cases d with
    |zero=>exact absurd (g j id l) (n id (by simpa using CR))
    |succ d=>rw[C o j d id l CR]
  ·intro fz D o vs n own e E;cases vs with
   |nil=>exact n.elim
   |cons v vs=>
    refine⟨?_,CJ fz (λi hi=>D i (by simp[hi])) o vs n.2 own (e+1) λj=>?_⟩
    ·have:=E 0;rw[Zzr] at this;rw[this];exact y fz (λi hi=>D i (by simp[hi])) o v n.1
    ·have:=E (j+1);rw[show e+1+j=e+(j+1) by omega];exact this
def LOk(hp:Nat->Option Cd)(q:Option (Nat × Nat))(p:PV)(x:Jn):Prop:=
 match x with
 |.var id off a b=>p=.pbox b/\q=some (id,off)/\a.length=b.length/\∃c,hp id=some (.st c)/\off+b.length<=c.length
 |.row id=>(∃ps,p=.tup ps)/\q=some (id,0)/\∃c,hp id=some (.ar false c)
 |.none=>(∃ps,p=.tup ps)/\q=none
theorem Aoa{hp:Nat->Option Cd}{q:Option (Nat × Nat)}{p:PV}{x:Jn}(h:LOk hp q p x):OH p=true:=by
 cases x with
 |var id off a b=>rw[h.1];rfl
 |row id=>obtain⟨⟨_,e⟩,_⟩:=h;rw[e];rfl
 |none=>obtain⟨⟨_,e⟩,_⟩:=h;rw[e];rfl
def Xh(hp:Nat->Option Cd)(a:Nat->Nat->Option (Nat × Nat)):Nat->Ae->List Jn->Prop
 |_,[],l=>l=[]
 |i,p::ps,l=>(OH p=false/\a i 0=none/\Xh hp a (i+1) ps l)\/∃x b,l=x::b/\LOk hp (a i 0) p x/\Xh hp a (i+1) ps b
theorem Aly(h:Dt N w0 X0 Y β s a w){C:J7}{f:FuncId}{i:Nat}{t:TypeId}{x:Operand}{K:PV->B9->B9->List Jn->Option R}(g:QH C P f s.hp i t (Cw s.tm x) K=some r):
  ∃v m y l,∃d:Nat->Option (Nat × Nat),K v m y l=some r/\(∀id∈m,∃f cc,s.hp id=some (.ar f cc))/\(∀id∈y,∃cc,s.hp id=some (.ar false cc)) /\
   (∀j id off,d (j+1)=some (id,off)->off=0/\id∈y)/\(Fn y=true->∀j J id off E,d (j+1)=some (id,off)->d (J+1)=some (id,E)->j=J) /\
   ((l=[]/\OH v=false/\d 0=none)\/∃x',l=[x']/\LOk s.hp (d 0) v x') /\
   ∀fz:B9,(∀id∈m,id∈fz)->(∀id∈fz,∃f cc,s.hp id=some (.ar f cc))->∀bt:Bt,(∀j,bt j=(d j).bind (J2 β))->Alq w (Ec (Aj s.hp fz) β Y) bt v (a.eval x):=by
 have L:=D4 h x
 have TH:∀(q0:Option (Nat × Nat)) (q:Nat->Option Nat),∃d:Nat->Option (Nat × Nat),d 0=q0/\(∀j,d (j+1)=(q j).map λid=>(id,0)):=
  λq0 q=>⟨λj=>match j with|0=>q0|j+1=>(q j).map λid=>(id,0),rfl,λ_=>rfl⟩
 have Ajk:∀{d:Nat->Option (Nat × Nat)} {q:Nat->Option Nat} {y:B9},(∀j,d (j+1)=(q j).map λid=>(id,0))->(∀j id,q j=some id->id∈y)->∀j id off,d (j+1)=some (id,off)->off=0/\id∈y:=by
  intro d q y G H j id off A;rw[G] at A;cases T:q j with
  |none=>rw[T] at A;cases A
  |some k=>rw[T] at A;cases A;exact⟨rfl,H j _ T⟩
 have Ako:∀{d:Nat->Option (Nat × Nat)} {q:Nat->Option Nat} {y:B9},(∀j,d (j+1)=(q j).map λid=>(id,0))->(Fn y=true->∀j J id,q j=some id->q J=some id->j=J) ->
   Fn y=true->∀j J id off E,d (j+1)=some (id,off)->d (J+1)=some (id,E)->j=J:=by
  intro d q y G H hn j J id off E A CR;rw[G] at A CR;cases T:q j with
  |none=>rw[T] at A;cases A
  |some k=>
   cases H3:q J with
   |none=>rw[H3] at CR;cases CR
   |some k'=>
    rw[T] at A;rw[H3] at CR;cases A;cases CR;exact H hn j J _ T H3
 have J8:∀{d:Nat->Option (Nat × Nat)} {q:Nat->Option Nat} {bt:Bt},(∀j,d (j+1)=(q j).map λid=>(id,0))->(∀j,bt j=(d j).bind (J2 β))->∀j,bt (1+j)=(q j).bind β:=by
  intro d q bt G H j;rw[Nat.add_comm,H,G];cases q j with
  |none=>rfl
  |some id=>exact Am5 β id
 unfold QH at g;split at g
 ·rename_i e he;split at g
  ·rename_i id off X;rw[X] at L;split at g
   ·rename_i c V;obtain⟨U,g⟩:=Ay g;simp only[Ge,JI] at U;obtain⟨cs,m,y,q,g,hl,Pq,Z,hF,hm,O,NU,Pt,Q⟩:=FT h g;obtain⟨d,o,D⟩:=TH (some (id,off)) q;obtain⟨b,ob,hβ,Eo⟩:=L;refine⟨_,m,y,_,d,g,hm,O,Ajk D NU,Ako D Pt,.inr ⟨_,rfl,rfl,o,hl.symm,c,V,Ω⟩,λfz G H bt IE=>?_⟩;obtain⟨b',o',Gf,Jv,GV⟩:=h.box id _ V;rw[hβ] at Gf;cases Gf;have Ef:((c.drop off).take (Lz P e).length).length=(Lz P e).length:=by simp;omega
    have Aus:∀j p,((c.drop off).take (Lz P e).length)[j]?=some p->c[off+j]?=some p/\j<(Lz P e).length:=by
     intro j p A;rw[List.getElem?_take] at A;split at A
     ·rw[List.getElem?_drop] at A;exact⟨A,by assumption⟩
     ·cases A
    refine⟨b,ob+off,by rw[IE,o];simp[J2,hβ],Eo,Z,((c.drop off).take (Lz P e).length).mapIdx (λj _=>(w.cell? ⟨b,ob+off+j,none⟩).getD undef),Q fz G H _ ?_ bt 1 (J8 D IE),?_,λk g=>?_⟩
    ·refine Bv.of_at Ψ λj p v hp Q=>?_;obtain⟨hc,_⟩:=Aus j p hp;obtain⟨u,W,hcr⟩:=Jv _ _ hc;rw[List.getElem?_mapIdx,hp,Option.map_some,R1,W] at Q;simp at Q;subst Q;exact hcr
    ·intro k v I;rw[List.getElem?_mapIdx] at I;cases hp:((c.drop off).take (Lz P e).length)[k]? with
     |none=>rw[hp] at I;cases I
     |some p=>
      obtain⟨hc,_⟩:=Aus k p hp;obtain⟨u,W,hcr⟩:=Jv _ _ hc;rw[hp,Option.map_some,R1,W] at I;simp at I;subst I;rw[R1];exact W
    ·rw[R1];exact GV _ Ω
   ·cases g
  ·cases g
 ·cases hln:C.lnd f i<;>rw[hln] at g<;>simp only[cond_true,cond_false] at g
  ·cases Il:Cm P t<;>rw[Il] at g<;>simp only[cond_true,cond_false] at g
   ·obtain⟨cs,m,y,q,g,hl,Pq,Z,hF,hm,O,NU,Pt,Q⟩:=FT h g;obtain⟨c,t',rfl,g⟩:=Bx g;obtain⟨rfl,g⟩:=Ey g;obtain⟨d,o,D⟩:=TH none q;have hAc:=Z c Ψ;refine⟨c,m,y,_,d,g,hm,O,Ajk D NU,Ako D Pt,.inl ⟨rfl,A0y hAc,o⟩,λfz G H bt IE=>?_⟩;have hFx:=hF _ (Xz _)
    have hxc:Cp w (Ec s.hp β Y) β (Cw s.tm x) (a.eval x):=by
     cases hp:Cw s.tm x<;>rw[hp] at L hFx<;>first|exact L|exact hFx.elim
    have hoc:=(Q fz G H [a.eval x] ⟨hxc,trivial⟩ bt 1 (J8 D IE)).1;rcases hAc with hT|⟨es,n,cc,rfl⟩
    ·cases c<;>first|exact⟨.inl trivial,hoc⟩|exact hT.elim
    ·exact⟨.inr ⟨_,_,_,rfl⟩,hoc⟩
   ·obtain⟨ps,X,g⟩:=Kt g;rw[X] at L;obtain⟨vs,Eo,S⟩:=L;obtain⟨cs,m,y,q,g,hl,Pq,Z,hF,hm,O,NU,Pt,Q⟩:=FT h g;obtain⟨d,o,D⟩:=TH none q;refine⟨_,m,y,_,d,g,hm,O,Ajk D NU,Ako D Pt,.inl ⟨rfl,rfl,o⟩,λfz G H bt IE=>?_⟩;exact⟨vs,Eo,Z,Q fz G H vs S bt 1 (J8 D IE)⟩
  ·obtain⟨e,he,g⟩:=C6 g;unfold Awu at g;split at g
   ·rename_i id es' off n X;rw[X] at L;split at g
    ·rename_i c V;obtain⟨U,G4⟩:=Ay g;simp only[Ge] at U;have he:=El U.1;have hof:=El U.2;subst hof;obtain⟨d,o,D⟩:=TH (some (id,0)) (λ_=>none);refine⟨_,[],[],_,d,G4,Ψ,Ψ,Ajk D Ψ,Ako D Ψ,.inr ⟨_,rfl,⟨_,rfl⟩,o,c,V⟩,λfz G H bt IE=>⟨_,_,_,rfl,?_⟩⟩;have hb0:bt 0=β id:=by rw[IE,o];exact Am5 β id
     rw[hb0];rcases L with⟨S,_,h4,h5⟩|⟨b,ob,y,cap,S,h4,O,h5,h6,h7⟩
     ·refine .inl ⟨S,h4,?_,h5⟩;rcases h.box id _ V with⟨_,M⟩|⟨_,_,M,_⟩
      ·exact M
      ·rw[S] at M;cases M
     ·have O:y=ob:=by rcases O with e|⟨_,e⟩<;>omega
      subst O;rcases h.box id _ V with⟨M,_⟩|⟨b',o',M,h9,h10,_⟩
      ·rw[S] at M;cases M
      ·rw[S] at M;cases M;exact .inr ⟨b,y,cap,S,h4,h5,by rw[<-he];exact h6,h7,h9.weak (λb _ U=>T7 U),h10 rfl⟩
    ·cases g
   ·obtain⟨z,n,c,g,hp⟩:=I9 g;obtain⟨hz,g⟩:=Ay g;subst hz;obtain⟨d,o,D⟩:=TH none (λ_=>none)
    have W:a.eval x=.slice none 0 0:=by
     have hF:Cp w (Ec s.hp β Y) β (Cw s.tm x) (a.eval x):=by rcases hp with e|⟨e,_⟩<;>rw[e] at L ⊢ <;> exact L
     have:=IX hp hF;generalize a.eval x=u at this;cases this;rfl
    refine⟨_,[],[],_,d,g,Ψ,Ψ,Ajk D Ψ,Ako D Ψ,.inr ⟨_,rfl,⟨_,rfl⟩,o⟩,λfz G H bt IE=>⟨_,_,_,rfl,.inl ⟨by rw[IE,o];rfl,rfl,rfl,none,W⟩⟩⟩
structure Bjj(i0 n:Nat)(src:Nat->Nat->Option (Nat × Nat))(ids x:B9):Prop where
 dom:∀i j q,src i j=some q->i0<=i/\i<i0+n
 lent:∀i id off,src i 0=some (id,off)->id∈ids
 mvd:∀i j id off,src i (j+1)=some (id,off)->off=0/\id∈x
 inj0:Fn ids=true->∀i i' id off off',src i 0=some (id,off)->src i' 0=some (id,off')->i=i'
 inj1:Fn x=true->∀i i' j j' id off off',src i (j+1)=some (id,off)->src i' (j'+1)=some (id,off')->i=i'/\j=j'
theorem JN{hp:Nat->Option Cd}{b a:Nat->Nat->Option (Nat × Nat)}:∀{ps:Ae}{i:Nat}{l:List Jn},(∀k,i<=k->a k=b k)->Xh hp b i ps l->Xh hp a i ps l
 |[],_,_,_,h=>h
 |p::ps,i,l,c,h=>by
  rcases h with⟨f,d,e⟩|⟨x,g,rfl,d,e⟩
  ·exact .inl ⟨f,by rw[c i (Cg _)];exact d,JN (λk j=>c k Ω) e⟩
  ·exact .inr ⟨x,g,rfl,by rw[c i (Cg _)];exact d,JN (λk j=>c k Ω) e⟩
theorem RQ{bt a:OB}:∀{ps:Ae}{us:List Value}{i:Nat},(∀k,i<=k->∀j,a k j=bt k j)->Qm w A bt i ps us->Qm w A a i ps us
 |[],[],_,_,_=>trivial
 |[],_::_,_,_,h=>h.elim
 |_::_,[],_,_,h=>h.elim
 |_::_,_::_,i,b,h=>⟨by rw[show a i=bt i from funext (b i (Cg _))];exact h.1,RQ (λk c=>b k Ω) h.2⟩
theorem Adf(h:Dt N w0 X0 Y β s a w){C:J7}{f:FuncId}:∀{ts:List TypeId}{B:List Operand}{i:Nat}{K:Ae->B9->B9->List Jn->Option R},Acc C P f s.hp i ts (B.map (Cw s.tm)) K=some r ->
  ∃vs m y l,∃o:Nat->Nat->Option (Nat × Nat),K vs m y l=some r/\(∀id∈m,∃f cc,s.hp id=some (.ar f cc))/\(∀id∈y,∃cc,s.hp id=some (.ar false cc)) /\
   Bjj i B.length o (l.flatMap Jn.ids) y/\Xh s.hp o i vs l /\
   ∀fz:B9,(∀id∈m,id∈fz)->(∀id∈fz,∃f cc,s.hp id=some (.ar f cc))->∀bt:OB,(∀i j,bt i j=(o i j).bind (J2 β))->Qm w (Ec (Aj s.hp fz) β Y) bt i vs (B.map a.eval)
 |[],[],i,K,n=>⟨[],[],[],[],λ_ _=>none,n,Ψ,Ψ,⟨Ψ,Ψ,Ψ,Ψ,Ψ⟩,rfl,λ_ _ _ _ _=>trivial⟩
 |[],_::_,i,K,n=>by cases n
 |_::_,[],i,K,n=>by cases n
 |t::ts,x::B,i,K,n=>by
  simp only[CZ] at n;unfold Acc at n;obtain⟨v,m,y,l,o,n,Z,hy,G,RX,V,hv⟩:=Aly h n;obtain⟨vs,ms,ys,M,srcs,n,UY,O,D,hL,CJ⟩:=Adf h n;have TH:∃H:Nat->Nat->Option (Nat × Nat),H i=o/\∀k,k≠i->H k=srcs k:=⟨λk=>if k=i then o else srcs k,Ψ,λk n=>by simp[n]⟩
  obtain⟨H,g,d⟩:=TH
  have Aak:∀id off,o 0=some (id,off)->id∈l.flatMap Jn.ids:=by
   intro id off e;rcases V with⟨_,_,A⟩|⟨Q,rfl,A⟩
   ·rw[A] at e;cases e
   ·cases Q with
    |var S b cts ws=>rw[A.2.1] at e;cases e;simp[Jn.ids]
    |row S=>rw[A.2.1] at e;cases e;simp[Jn.ids]
    |none=>rw[A.2] at e;cases e
  refine⟨v::vs,m++ms,y++ys,l++M,H,n,?_,?_,⟨?_,?_,?_,?_,?_⟩,?_,λfz W X bt IE=>⟨?_,?_⟩⟩
  ·intro i hi;rcases B2.1 hi with hi|hi
   ·exact Z i hi
   ·exact UY i hi
  ·intro i hi;rcases B2.1 hi with hi|hi
   ·exact hy i hi
   ·exact O i hi
  ·intro k j q c;simp only[Ox];by_cases e:k=i
   ·subst e;omega
   ·rw[d k e] at c;have:=D.dom k j q c;omega
  ·intro k id off c;rw[List.flatMap_append];by_cases e:k=i
   ·subst e;rw[g] at c;exact B2.2 (.inl (Aak id off c))
   ·rw[d k e] at c;exact B2.2 (.inr (D.lent k id off c))
  ·intro k j id off c;by_cases e:k=i
   ·subst e;rw[g] at c;exact⟨(G j id off c).1,B2.2 (.inl (G j id off c).2)⟩
   ·rw[d k e] at c;exact⟨(D.mvd k j id off c).1,B2.2 (.inr (D.mvd k j id off c).2)⟩
  ·intro J k z id off b c p;rw[List.flatMap_append] at J;obtain⟨_,T,I⟩:=Mw J;by_cases e:k=i
   ·by_cases E:z=i
    ·omega
    ·rw[d z E] at p;subst e;rw[g] at c;exact absurd (D.lent z id b p) (I id (Aak id off c))
   ·rw[d k e] at c;by_cases E:z=i
    ·subst E;rw[g] at p;exact absurd (D.lent k id off c) (I id (Aak id b p))
    ·rw[d z E] at p;exact D.inj0 T k z id off b c p
  ·intro J k z j L id off b c p;obtain⟨A,T,I⟩:=Mw J;by_cases e:k=i
   ·by_cases E:z=i
    ·subst e;subst E;rw[g] at c p;exact⟨rfl,RX A j L id off b c p⟩
    ·rw[d z E] at p;subst e;rw[g] at c;exact absurd (D.mvd z L id b p).2 (I id (G j id off c).2)
   ·rw[d k e] at c;by_cases E:z=i
    ·subst E;rw[g] at p;exact absurd (D.mvd k j id off c).2 (I id (G L id b p).2)
    ·rw[d z E] at p;exact D.inj1 T k z j L id off b c p
  ·have IC:Xh s.hp H (i+1) vs M:=JN (λk n=>d k Ω) hL;rcases V with⟨rfl,U,A⟩|⟨Q,rfl,A⟩
   ·exact .inl ⟨U,by rw[g];exact A,IC⟩
   ·exact .inr ⟨Q,M,rfl,by rw[g];exact A,IC⟩
  ·exact hv fz (λi hi=>W i (by simp[hi])) X (bt i) (λj=>by rw[IE,g])
  ·refine CJ fz (λi hi=>W i (by simp[hi])) X (λk j=>(srcs k j).bind (J2 β)) (λ_ _=>rfl) |> RQ λk n j=>?_
   rw[IE,d k Ω]
end
open Go.RowKit
section
variable {R:Type}{r:R}{P:Program}{N:Nat}{w0:World}{X0:Lu}{Y:Nat->Prop}{β β':Bt}{s:St}{a:Act}{w w':World}{o:Oper}{A:Nat->Prop}
theorem Avy{p:PV}{u:Value}(h:A9 w A p u):Cp w A β p u:=by have a:=h;cases h<;>exact a
theorem Axc{t:Nat}{ct:CT}{b p:PV}{K:Nat->PV->List (Nat × Cd)->Option R}(a:Atj N t ct b p K=some r):
  (∃c,K t c []=some r/\HU c/\∀w A q u,I0 w A q p u->A9 w A c u)\/∃es n cc,p=.own es n cc/\K (t+1) (.view (nid N t) es 0 n) [(nid N t,.ar false cc)]=some r:=by
 have tree:∀g,(QI g p λc=>K t c [])=some r->∃c,K t c []=some r/\HU c/\∀w A q u,I0 w A q p u->A9 w A c u:=by
  intro g a;obtain⟨c,a,d,VJ,e⟩:=Sy a;refine⟨c,a,d,λw A q u h=>(e w A (λ_=>none) u ?_).1⟩;cases p<;>first|exact h|exact VJ.elim
 unfold Atj at a;cases ct with
 |sl es=>
  dsimp only at a;split at a
  ·unfold Na at a;split at a
   ·rename_i f n c;cases i:Nat.beq f es<;>rw[i] at a
    ·cases a
    ·have:=El i;subst this;exact .inr ⟨_,_,_,rfl,a⟩
   ·cases a
  ·have j:(QI (.sl es) p λc=>(match c with | .lst _ es n c=>K t (.lst false es n c) []|_=>none))=some r:=a;obtain⟨c,a,d,VJ,e⟩:=Sy j;split at a
   ·refine .inl ⟨_,a,d,λw A q u h=>A9.unz (e w A (λ_=>none) u ?_).1⟩;cases p<;>first|exact h|exact VJ.elim
   ·cases a
 |int k=>exact .inl (tree _ a)
 |bool=>exact .inl (tree _ a)
 |str=>exact .inl (tree _ a)
 |any=>exact .inl (tree _ a)
theorem PX:∀{z:List CT}{ws ps:Ae}{t:Nat}{K:Nat->Ae->List (Nat × Cd)->Option R},Aa8 N t z ws ps K=some r ->
  ∃C cs bs,∃j:List (Nat × Nat),K C cs bs=some r/\cs.length=ps.length/\ps.length=ws.length/\bs.map (·.1)=j.map (·.1)/\(∀q∈j,(∃k,q.1=nid N k)/\q.2<ps.length)/\(∀q∈j,∀D∈j,q.2=D.2->q.1=D.1) /\
   (∀i d,(i,d)∈bs->∃c,d=.ar false c)/\(∀c∈cs,∀i∈A3 c,∃d,(i,d)∈bs) /\
   ∀(w:World) (A:Nat->Prop) (own β':Bt) (o:Nat) (us:List Value),(∀q∈j,β' q.1=own (o+q.2))->Gu w A own o ps us->Bv (Cp w A β') cs us/\∀i d,(i,d)∈bs->Z8 w A β' i d
 |[],[],ps,t,K,f=>by
  obtain⟨rfl,f⟩:=Ey f;refine⟨t,[],[],[],f,rfl,rfl,rfl,Ψ,Ψ,Ψ,Ψ,λw A own β' o us _ h=>⟨?_,Ψ⟩⟩;cases us with
  |nil=>trivial
  |cons u us=>exact h.elim
 |[],_::_,_,_,_,f=>by cases f
 |_::_,[],_,_,_,f=>by cases f
 |ct::z,x::ws,ps,t,K,f=>by
  unfold Aa8 at f;obtain⟨p,U,TJ,Ft⟩:=Bx f;subst TJ;rcases Axc Ft with⟨c,H,V,W⟩|⟨es,n,cc,rfl,H⟩
  ·obtain⟨C,cs,bs,j,Rp,I,Pq,J,NU,Pt,Gf,Jv,CJ⟩:=PX H;refine⟨C,c::cs,bs,j.map (λq=>(q.1,q.2+1)),Rp,by simp[I],by simp[Pq],by rw[J];simp,?_,?_,Gf,?_,λw A own β' o us E l=>?_⟩
   ·intro q a;obtain⟨g,JZ,rfl⟩:=List.mem_map.1 a;exact⟨(NU g JZ).1,by have:=(NU g JZ).2;simp only[Ox];omega⟩
   ·intro q a D m e;obtain⟨g,JZ,rfl⟩:=List.mem_map.1 a;obtain⟨L,Og,rfl⟩:=List.mem_map.1 m;exact Pt g JZ L Og (by simp only at e;omega)
   ·intro y s i hi;rcases List.mem_cons.1 s with rfl|s
    ·rw[Kw V] at hi;cases hi
    ·exact Jv y s i hi
   ·cases us with
    |nil=>exact l.elim
    |cons u us=>
     obtain⟨M,O⟩:=CJ w A own β' (o+1) us (λq a=>by rw[E _ (List.mem_map_of_mem a)];congr 1;simp only;omega) l.2
     exact⟨⟨Avy (W w A _ u l.1),M⟩,O⟩
  ·obtain⟨C,cs,bs,j,Rp,I,Pq,J,NU,Pt,Gf,Jv,CJ⟩:=PX H;refine⟨C,_::cs,(nid N t,.ar false cc)::bs,(nid N t,0)::j.map (λq=>(q.1,q.2+1)),Rp,by simp[I],by simp[Pq],by simp only[CZ,J];simp,?_,?_,?_,?_,λw A own β' o us E l=>?_⟩
   ·intro q a;rcases List.mem_cons.1 a with rfl|a
    ·exact⟨⟨t,rfl⟩,Ψ⟩
    ·obtain⟨g,JZ,rfl⟩:=List.mem_map.1 a;exact⟨(NU g JZ).1,by have:=(NU g JZ).2;simp only[Ox];omega⟩
   ·intro q a D m e;rcases List.mem_cons.1 a with rfl|a
    ·rcases List.mem_cons.1 m with rfl|m
     ·rfl
     ·obtain⟨g,JZ,rfl⟩:=List.mem_map.1 m;simp only at e;omega
    ·obtain⟨g,JZ,rfl⟩:=List.mem_map.1 a;rcases List.mem_cons.1 m with rfl|m
     ·simp only at e;omega
     ·obtain⟨L,Og,rfl⟩:=List.mem_map.1 m;exact Pt g JZ L Og (by simp only at e;omega)
   ·intro i d v;rcases List.mem_cons.1 v with e|v
    ·cases e;exact⟨cc,rfl⟩
    ·exact Gf i d v
   ·intro y s i hi;rcases List.mem_cons.1 s with rfl|s
    ·simp only[A3,Xx] at hi;subst hi;exact⟨_,IQ⟩
    ·obtain⟨d,Rs⟩:=Jv y s i hi;exact⟨d,Yh _ Rs⟩
   ·cases us with
    |nil=>exact l.elim
    |cons u us=>
     obtain⟨M,O⟩:=CJ w A own β' (o+1) us (λq a=>by rw[E _ (Yh _ (List.mem_map_of_mem a))];congr 1;simp only;omega) l.2
     have G:=E (nid N t,0) IQ;simp only[Zzr] at G;refine⟨⟨?_,M⟩,λi d v=>?_⟩
     ·rcases l.1 with⟨P,rfl,_,Q⟩|⟨b,T,S,P,X,Q,Y,Z,_⟩
      ·exact .inl ⟨G.trans P,rfl,rfl,Q⟩
      ·exact .inr ⟨b,T,T,S,G.trans P,X,.inl rfl,Q,Y,Z⟩
     ·rcases List.mem_cons.1 v with e|v
      ·cases e;exact MQ l.1 G
      ·exact O i d v
def Anf(hp Ee:Nat->Option Cd)(bs:List (Nat × Cd))(x:Jn):Prop:=
 match x with
 |.var id off _ b=>∃c a,hp id=some (.st c)/\Ee id=some (.st (B1 c a off))/\a.length=b.length/\off+a.length<=c.length/\∀p∈a,∀i∈A3 p,∃d,(i,d)∈bs
 |.row id=>∃c a,hp id=some (.ar false c)/\Ee id=some (.ar false a)
 |.none=>True
def Ax2(β β':Bt)(w':World)(A:Nat->Prop)(hp Ee:Nat->Option Cd)(x:Jn):Prop:=
 match x with
 |.var id off _ d=>∃c a,hp id=some (.st c)/\Ee id=some (.st (B1 c a off))/\a.length=d.length/\off+a.length<=c.length /\
   ∀b o,β id=some (b,o)->(∀(j:Nat) p,a[j]?=some p->∃v,w'.cell? ⟨b,o+off+j,none⟩=some v/\Cp w' A β' p v)/\∀j,j<a.length->w'.frozen? ⟨b,o+off+j,none⟩=false
 |.row id=>∃a,Ee id=some (.ar false a)/\((β id=none/\a=[])\/∃b o,β id=some (b,o)/\RdT w' A ⟨b,o,none⟩ a/\∀j,o<=j->j<bsz w' b->w'.frozen? ⟨b,j,none⟩=false)
 |.none=>True
theorem NG{hp Dz Ee:Nat->Option Cd}{bs a:List (Nat × Cd)}{x:Jn}(f:∀i∈x.ids,Dz i=hp i)(g:∀q∈bs,q∈a)(h:Anf Dz Ee bs x):Anf hp Ee a x:=by
 cases x with
 |var id off j o=>
  obtain⟨c,b,d,e,k,l,m⟩:=h;refine⟨c,b,by rw[<-f id (by simp[Jn.ids])];exact d,e,k,l,λp hp i hi=>?_⟩
  obtain⟨n,Rs⟩:=m p hp i hi;exact⟨n,g _ Rs⟩
 |row id=>
  obtain⟨c,b,d,e⟩:=h;exact⟨c,b,by rw[<-f id (by simp[Jn.ids])];exact d,e⟩
 |none=>trivial
theorem QY{hp Dz Ee:Nat->Option Cd}{x:Jn}(a:∀i∈x.ids,Dz i=hp i)(h:Ax2 β β' w' A Dz Ee x):Ax2 β β' w' A hp Ee x:=by
 cases x with
 |var id off b g=>
  obtain⟨c,d,e,f⟩:=h;exact⟨c,d,by rw[<-a id (by simp[Jn.ids])];exact e,f⟩
 |row id=>exact h
 |none=>trivial
theorem Aqz{hp Dz:Nat->Option Cd}{q:Option (Nat × Nat)}{p:PV}{x:Jn}(d:∀i∈x.ids,Dz i=hp i)(h:LOk hp q p x):LOk Dz q p x:=by
 cases x with
 |var id off e f=>
  obtain⟨a,b,g,c,j,k⟩:=h;exact⟨a,b,g,c,by rw[d id (by simp[Jn.ids])];exact j,k⟩
 |row id=>
  obtain⟨a,b,c,l⟩:=h;exact⟨a,b,c,by rw[d id (by simp[Jn.ids])];exact l⟩
 |none=>exact h
theorem KQ{hp Dz:Nat->Option Cd}{a:Nat->Nat->Option (Nat × Nat)}:∀{ps:Ae}{i:Nat}{l:List Jn},(∀i∈l.flatMap Jn.ids,Dz i=hp i)->Xh hp a i ps l->Xh Dz a i ps l
 |[],_,_,_,h=>h
 |p::ps,i,l,b,h=>by
  rcases h with⟨f,c,d⟩|⟨x,g,rfl,c,d⟩
  ·exact .inl ⟨f,c,KQ b d⟩
  ·exact .inr ⟨x,g,rfl,Aqz (λk e=>b k (by simp only[L6,B2];exact .inl e)) c,KQ (λk e=>b k (by simp only[L6,B2];exact .inr e)) d⟩
theorem An2{own:Bt}{bt:OB}{j i:Nat}{p:PV}{a:Ae}{r:List Ae}(hp:OH p=false)(h:HT w A own bt j i (p::a) r):HT w A own bt j (i+1) a r:=by cases p<;>first|exact h|cases hp
theorem DD{D:Nat->Nat->Option (Nat × Nat)}{β:Bt}:∀{S:Ae}{l:List Jn}{ro:List Ae} {i j t:Nat}{hp:Nat->Option Cd}{K:(Nat->Option Cd)->List (Nat × Cd)->Option R},
  IP N t l ro hp K=some r->Xh hp D i S l->Fn (l.flatMap Jn.ids)=true ->
  ∃Ee bs,∃J:List (Nat × Nat),K Ee bs=some r/\bs.map (·.1)=J.map (·.1)/\(∀q∈J,(∃k,q.1=nid N k)/\j<=q.2)/\(∀q∈J,∀T∈J,q.2=T.2->q.1=T.1)/\(∀i o,(i,o)∈bs->∃c,o=.ar false c) /\
   (∀i,i ∉ l.flatMap Jn.ids->Ee i=hp i)/\(∀x∈l,Anf hp Ee bs x) /\
   ∀(w':World) (A:Nat->Prop) (own β':Bt) (bt:OB),(∀q∈J,β' q.1=own q.2)->(∀i,bt i 0=(D i 0).bind (J2 β))->HT w' A own bt j i S ro ->
    (∀i o,(i,o)∈bs->Z8 w' A β' i o)/\∀x∈l,Ax2 β β' w' A hp Ee x
 |[],l,ro,i,j,t,hp,K,d,E,Y=>by
  have E:l=[]:=E;subst E;unfold IP at d;obtain⟨rfl,d⟩:=Ey d;exact⟨hp,[],[],d,rfl,Ψ,Ψ,Ψ,λ_ _=>rfl,Ψ,λw' A own β' bt _ _ _=>⟨Ψ,Ψ⟩⟩
 |p::S,l0,ro,i,j,t,hp,K,d,hL0,Y=>by
  rcases hL0 with⟨Zo,_,E⟩|⟨x,l,rfl,L,E⟩
  rotate_left
  ··simp only[L6] at Y;obtain⟨hn1,M,U⟩:=Mw Y;cases x with
    |var id off cts ws'=>
     obtain⟨rfl,TH,So,c,V,IV⟩:=L;unfold IP at d;obtain⟨G,O,y,Ft⟩:=Bx d;subst y;obtain⟨t',s,bs,J,H,WV,Tn,hb,NU,Pt,Gf,Jv,hv⟩:=PX Ft;rw[V] at H;simp only at H;change IP N t' l O (Dm hp id (some (.st (B1 c s off)))) (λEe g=>K Ee (bs++g))=some r at H;have Alt:id ∉ l.flatMap Jn.ids:=U id (by simp[Jn.ids]);have P:Xh (Dm hp id (some (.st (B1 c s off)))) D (i+1) S l:=KQ (λk h=>At _ _ (λe=>Alt (e ▸ h))) E;obtain⟨Ee,g,m,Rp,Q,Og,Amc,Amq,Qw,n,Adw⟩:=DD (β:=β) (j:=j+G.length) H P M;have Ayl:Ee id=some (.st (B1 c s off)):=by rw[Qw id Alt,Az]
     have YU:∀x∈l,∀k∈x.ids,Dm hp id (some (.st (B1 c s off))) k=hp k:=λx a k h=>At _ _ (λe=>Alt (e ▸ List.mem_flatMap.2 ⟨x,a,h⟩));refine⟨Ee,bs++g,J.map (λq=>(q.1,j+q.2))++m,Rp,by simp only[List.map_append,hb,Q];simp,?_,?_,?_,?_,?_,λw' A own β' bt I IE w=>?_⟩
     ·intro q f;rcases B2.1 f with f|f
      ·obtain⟨Z,JZ,rfl⟩:=List.mem_map.1 f;exact⟨(NU Z JZ).1,by simp only;omega⟩
      ·exact⟨(Og q f).1,by have:=(Og q f).2;omega⟩
     ·intro q f T C e;rcases B2.1 f with f|f
      ·obtain⟨Z,JZ,rfl⟩:=List.mem_map.1 f;have:=(NU Z JZ).2;rcases B2.1 C with C|C
       ·obtain⟨q1,Og,rfl⟩:=List.mem_map.1 C;exact Pt Z JZ q1 Og (by simp only at e;omega)
       ·have:=(Og T C).2;simp only at e;omega
      ·have h5:=(Og q f).2;rcases B2.1 C with C|C
       ·obtain⟨q1,Bb5,rfl⟩:=List.mem_map.1 C;have:=(NU q1 Bb5).2;simp only at e;omega
       ·exact Amc q f T C e
     ·intro k o z;rcases B2.1 z with z|z
      ·exact Gf k o z
      ·exact Amq k o z
     ·intro k d;simp only[L6,B2,not_or] at d;rw[Qw k d.2];exact At _ _ (by rintro rfl;exact d.1 (by simp[Jn.ids]))
     ·intro x a;rcases List.mem_cons.1 a with rfl|a
      ·refine⟨c,s,V,Ayl,Ω,Ω,λp hp k d=>?_⟩;obtain⟨o,Rs⟩:=Jv p hp k d;exact⟨o,B2.2 (.inl Rs)⟩
      ·exact NG (YU x a) (λq f=>B2.2 (.inr f)) (n x a)
     ·obtain⟨⟨b,ob,hb0,Ef,vs,hov,Eu,hfr⟩,w⟩:=w
      ·obtain⟨h1,h2⟩:=hv w' A own β' j vs (λq f=>I _ (B2.2 (.inl (List.mem_map_of_mem f)))) hov;obtain⟨W,X⟩:=Adw w' A own β' bt (λq f=>I q (B2.2 (.inr f))) IE w;refine⟨λk o z=>?_,λx a=>?_⟩
       ·rcases B2.1 z with z|z
        ·exact h2 k o z
        ·exact W k o z
       ·rcases List.mem_cons.1 a with rfl|a
        ·refine⟨c,s,V,Ayl,Ω,Ω,λb1 o1 hβ1=>?_⟩;have Jv:=IE i;rw[hb0,TH] at Jv;simp only[Option.bind_some,J2,hβ1,Option.map_some,Option.some.injEq,Prod.mk.injEq] at Jv;obtain⟨rfl,rfl⟩:=Jv;refine⟨λk p hp=>?_,λk d=>hfr k Ω⟩;obtain⟨v,hv,hcr⟩:=h1.get hp;exact⟨v,Eu k v hv,hcr⟩
        ·exact QY (YU x a) (X x a)
    |row id=>
     obtain⟨⟨pz,rfl⟩,TH,c,V⟩:=L;unfold IP at d;obtain⟨G,O,y,H⟩:=Bx d;subst y;have Alt:id ∉ l.flatMap Jn.ids:=U id (by simp[Jn.ids]);have P:Xh (Dm hp id (some (.ar false G))) D (i+1) S l:=KQ (λk h=>At _ _ (λe=>Alt (e ▸ h))) E;obtain⟨Ee,g,m,Rp,Q,Og,Amc,Amq,Qw,n,Adw⟩:=DD (β:=β) (j:=j) H P M;have Ayl:Ee id=some (.ar false G):=by rw[Qw id Alt,Az]
     have YU:∀x∈l,∀k∈x.ids,Dm hp id (some (.ar false G)) k=hp k:=λx a k h=>At _ _ (λe=>Alt (e ▸ List.mem_flatMap.2 ⟨x,a,h⟩));refine⟨Ee,g,m,Rp,Q,Og,Amc,Amq,?_,?_,λw' A own β' bt I IE w=>?_⟩
     ·intro k d;simp only[L6,B2,not_or] at d;rw[Qw k d.2];exact At _ _ (by rintro rfl;exact d.1 (by simp[Jn.ids]))
     ·intro x a;rcases List.mem_cons.1 a with rfl|a
      ·exact⟨c,G,V,Ayl⟩
      ·exact NG (YU x a) (λq f=>f) (n x a)
     ·obtain⟨Art,w⟩:=w
      ·obtain⟨W,X⟩:=Adw w' A own β' bt I IE w;refine⟨W,λx a=>?_⟩;rcases List.mem_cons.1 a with rfl|a
       ·refine⟨G,Ayl,?_⟩;have Jv:=IE i;rw[TH] at Jv;simp only[Option.bind_some,Am5] at Jv;rw[Jv] at Art;exact Art
       ·exact QY (YU x a) (X x a)
    |none=>
     obtain⟨⟨pz,rfl⟩,TH⟩:=L;unfold IP at d;obtain⟨G,O,y,H⟩:=Bx d;subst y;obtain⟨Ee,g,m,Rp,Q,Og,Amc,Amq,Qw,n,Adw⟩:=DD (β:=β) (j:=j) H E M;refine⟨Ee,g,m,Rp,Q,Og,Amc,Amq,?_,?_,λw' A own β' bt I IE w=>?_⟩
     ·intro k d;simp only[L6,B2,not_or] at d;exact Qw k d.2
     ·intro x a;rcases List.mem_cons.1 a with rfl|a
      ·trivial
      ·exact n x a
     ·obtain⟨Art,w⟩:=w
      ·obtain⟨W,X⟩:=Adw w' A own β' bt I IE w;refine⟨W,λx a=>?_⟩;rcases List.mem_cons.1 a with rfl|a
       ·trivial
       ·exact X x a
  ·obtain⟨Ee,g,m,Rp,Q,Og,Amc,Amq,Qw,n,Adw⟩:=DD (β:=β) (j:=j) d E Y;exact⟨Ee,g,m,Rp,Q,Og,Amc,Amq,Qw,n,λw' A own β' bt I IE w=>Adw w' A own β' bt I IE (An2 Zo w)⟩
end
open Go.RowKit
theorem Ik(hp:Nat->Option Cd)(ids:B9)(i:Nat):EX hp ids i=if i∈ids then (hp i).map (λ_=>Cd.mv) else hp i:=by
 unfold EX;by_cases hi:i∈ids
 ·have:ids.any (Nat.beq i)=true:=List.any_eq_true.2 ⟨i,hi,Vr i⟩;rw[this,Bq hi];rfl
 ·have:ids.any (Nat.beq i)=false:=by
   cases a:ids.any (Nat.beq i)
   ·rfl
   ·obtain⟨j,b,e⟩:=List.any_eq_true.1 a;exact absurd (El e ▸ b) hi
  rw[this,Bb hi];rfl
theorem AK:∀{nw:List (Nat × Cd)} {hp:Nat->Option Cd},Ch hp nw=true->(nw.map (·.1)).Nodup
 |[],_,_=>List.nodup_nil
 |(i,b)::r,hp,h=>by
  simp only[Ch,Ge,Option.isNone_iff_eq_none,Bool.not_eq_true'] at h;simp only[CZ,List.nodup_cons];refine⟨λa=>?_,AK h.2⟩;obtain⟨q,c,e⟩:=List.mem_map.1 a;have:r.any (λq=>Nat.beq q.1 i)=true:=List.any_eq_true.2 ⟨q,c,by rw[e];exact Vr i⟩
  rw[this] at h;cases h.1.2
theorem Ax9:∀{l:List (Nat × Nat)},(l.map (·.1)).Nodup->∀q∈l,HM l q.1=some q.2
 |[],_,_,h=>by cases h
 |(j,b)::r,c,q,a=>by
  simp only[CZ,List.nodup_cons] at c;unfold HM;rcases List.mem_cons.1 a with rfl|a
  ·simp only[Vr,cond_true]
  ·have:Nat.beq q.1 j=false:=by
    cases d:Nat.beq q.1 j
    ·rfl
    ·exact absurd (El d ▸ List.mem_map_of_mem a) c.1
   simp only[this,cond_false];exact Ax9 c.2 q a
theorem Aia:∀{l:List (Nat × Nat)} {i:Nat},i ∉ l.map (·.1)->HM l i=none
 |[],_,_=>rfl
 |(j,b)::r,i,h=>by
  simp only[CZ,List.mem_cons,not_or] at h;unfold HM
  have:Nat.beq i j=false:=by
   cases a:Nat.beq i j
   ·rfl
   ·exact absurd (El a) h.1
  simp only[this,cond_false];exact Aia h.2
section
variable {R:Type}{r:R}{P:Program}{N:Nat}{w0:World}{X0:Lu}{Y:Nat->Prop}{β β':Bt}{s:St}{a:Act}{w w':World}{o:Oper}{A A':Nat->Prop}
theorem I0.weak(d:∀b,b<w.heap.size->A' b->A b){q:Option (Nat × Nat)}{p:PV}{u:Value}(h:I0 w A q p u):I0 w A' q p u:=by
 have e:∀{p:PV},A9 w A p u->A9 w A' p u:=λh=>h.step (Cy.refl _ _) d;cases p with
 |own es n c=>
  rcases h with h|⟨b,f,a,g,i,j,k,l,m,o⟩
  ·exact .inl h
  ·exact .inr ⟨b,f,a,g,i,j,k,l,m.weak d,o⟩
 |_=>exact e h
theorem Gu.weak(a:∀b,b<w.heap.size->A' b->A b){own:Bt}:∀{ps:Ae}{us:List Value}{j:Nat},Gu w A own j ps us->Gu w A' own j ps us
 |[],[],_,_=>trivial
 |[],_::_,_,h=>h.elim
 |_::_,[],_,h=>h.elim
 |_::_,_::_,_,h=>⟨h.1.weak a,Gu.weak a h.2⟩
theorem Alq.weak(e:∀b,b<w.heap.size->A' b->A b){bt:Bt}{p:PV}{u:Value}(h:Alq w A bt p u):Alq w A' bt p u:=by
 cases p with
 |pbox ps=>
  obtain⟨b,i,a,d,f,g,j,k⟩:=h;exact⟨b,i,a,d,f,g,j.weak e,k⟩
 |tup ps=>
  obtain⟨es,n,c,a,d⟩:=h;exact⟨es,n,c,a,d.weak e⟩
 |agg l=>
  obtain⟨g,a,d,f⟩:=h;exact⟨g,a,d,f.weak e⟩
 |_=>exact⟨h.1,h.2.weak e⟩
theorem Qm.weak(a:∀b,b<w.heap.size->A' b->A b){bt:OB}:∀{ps:Ae}{us:List Value}{i:Nat},Qm w A bt i ps us->Qm w A' bt i ps us
 |[],[],_,_=>trivial
 |[],_::_,_,h=>h.elim
 |_::_,[],_,h=>h.elim
 |_::_,_::_,_,h=>⟨h.1.weak a,Qm.weak a h.2⟩
theorem MB{bt:OB}(k:Bool):∀{B:List Operand}{ps:Ae}{i:Nat},Qm w A bt i ps (B.map a.eval)->Qm w A bt i (Nw k B ps) (B.map a.eval)
 |[],[],_,h=>h
 |[],_::_,_,h=>h
 |_::_,[],_,h=>h
 |x::B,p::ps,i,h=>by
  simp only[CZ] at h ⊢;refine⟨?_,MB k h.2⟩;split
  ·exact⟨.inl trivial,A9.lnil _ _⟩
  ·exact h.1
theorem Agb(k:Bool)(x:Operand)(B:List Operand)(p:PV)(ps:Ae):∃a,Nw k (x::B) (p::ps)=a::Nw k B ps/\OH a=OH p/\(OH p=true->a=p):=by
 refine⟨_,rfl,?_,λh=>?_⟩
 ·split
  ·rfl
  ·rfl
 ·split
  ·cases h
  ·rfl
theorem Z6{hp:Nat->Option Cd}{a:Nat->Nat->Option (Nat × Nat)}(k:Bool):∀{B:List Operand}{ps:Ae}{i:Nat}{l:List Jn},Xh hp a i ps l->Xh hp a i (Nw k B ps) l
 |[],[],_,_,h=>h
 |[],_::_,_,_,h=>h
 |_::_,[],_,_,h=>h
 |x::B,p::ps,i,l,h=>by
  obtain⟨m,e,d,f⟩:=Agb k x B p ps;rw[e];rcases h with⟨g,b,c⟩|⟨y,j,rfl,b,c⟩
  ·exact .inl ⟨by rw[d];exact g,b,Z6 k c⟩
  ·exact .inr ⟨y,j,rfl,by rw[f (Aoa b)];exact b,Z6 k c⟩
theorem XN{hp:Nat->Option Cd}{b:Nat->Nat->Option (Nat × Nat)}:∀{ps:Ae}{i:Nat}{l:List Jn},Xh hp b i ps l->∀id∈l.flatMap Jn.ids,Eb (hp id)/\∃k off,b k 0=some (id,off)
 |[],_,_,h,id,a=>by
  have h:_=[]:=h;rw[h] at a;cases a
 |p::ps,i,l,h,id,a=>by
  rcases h with⟨_,_,d⟩|⟨x,n,rfl,j,d⟩
  ·exact XN d id a
  ·simp only[L6,B2] at a;rcases a with a|a
   ·cases x with
    |var e off m o=>
     simp only[Jn.ids,Xx] at a;subst a;obtain⟨_,f,_,c,g,_⟩:=j;exact⟨by rw[g];trivial,i,_,f⟩
    |row e=>
     simp only[Jn.ids,Xx] at a;subst a;obtain⟨_,f,c,g⟩:=j;exact⟨by rw[g];trivial,i,_,f⟩
    |none=>simp[Jn.ids] at a
   ·exact XN d id a
theorem Awz{hp:Nat->Option Cd}{a:Nat->Nat->Option (Nat × Nat)}:∀{ps:Ae}{i:Nat}{l:List Jn},Xh hp a i ps l->∀k p id off,ps[k]?=some p->a (i+k) 0=some (id,off) ->
   (∃c ws,hp id=some (.st c)/\p=.pbox ws/\off+ws.length<=c.length)\/((∃c,hp id=some (.ar false c))/\off=0/\∃ws,p=.tup ws)
 |[],_,_,_,k,p,id,off,hp,_=>by simp at hp
 |p::ps,i,l,h,k,o,id,off,Ee,b=>by
  have IC:∃g,Xh hp a (i+1) ps g:=by
   rcases h with⟨_,_,d⟩|⟨x,g,_,_,d⟩<;>exact⟨_,d⟩
  cases k with
  |succ k=>
   obtain⟨g,q⟩:=IC;exact Awz q k o id off (by simpa using Ee) (by rw[show i+1+k=i+(k+1) by omega];exact b)
  |zero=>
   simp only[List.getElem?_cons_zero,Option.some.injEq] at Ee;subst Ee;rw[Zzr] at b;rcases h with⟨_,e,_⟩|⟨x,g,_,e,_⟩
   ·rw[b] at e;cases e
   ·cases x with
    |var j n r ws=>
     obtain⟨d,f,_,c,m,s⟩:=e;rw[b] at f;cases f;exact .inl ⟨c,ws,m,d,s⟩
    |row j=>
     obtain⟨d,f,c,m⟩:=e;rw[b] at f;cases f;exact .inr ⟨⟨c,m⟩,rfl,d⟩
    |none=>
     have:=e.2;rw[b] at this;cases this
theorem Agy{hp : Nat -> Option Cd}{a : Nat -> Nat -> Option (Nat × Nat)}{id off : Nat}{c : List CT}{ws : Ae}: ∀ {ps : Ae} {i : Nat} {l : List Jn}, Xh hp a i ps l -> Jn.var id off c ws ∈ l ->
      ∃ k, ps[k]? = some (.pbox ws) /\ a (i + k) 0 = some (id, off)
  | [], _, _, h, b => by
    have h : _ = [] := h
    rw[h] at b; cases b
  | p :: ps, i, l, h, b => by
    have next : ∀ {d}, Xh hp a (i + 1) ps d -> Jn.var id off c ws ∈ d -> ∃ k, (p :: ps)[k]? = some (.pbox ws) /\ a (i + k) 0 = some (id, off) := by
      intro d m My
      obtain⟨k, f, g⟩ := Agy m My
      exact⟨k + 1, by simpa using f, by rw[show i + (k + 1) = i + 1 + k by omega]; exact g⟩
    rcases h with⟨_, _, j⟩ | ⟨x, d, rfl, g, j⟩
    · exact next j b
    · rcases List.mem_cons.1 b with e | b
      · subst e
        obtain⟨f, n, _⟩ := g
        subst f
        exact⟨0, rfl, n⟩
      · exact next j b
theorem Aj0{hp:Nat->Option Cd}{a:Nat->Nat->Option (Nat × Nat)}:∀{ps:Ae}{i:Nat}{l:List Jn},Xh hp a i ps l->∀k id off,i<=k->a k 0=some (id,off)->k<i+ps.length->∃p,ps[k-i]?=some p/\OH p=true
 |[],i,_,_,k,id,off,g,_,b=>by simp at b;omega
 |p::ps,i,l,h,k,id,off,g,f,b=>by
  by_cases e:k=i
  ·subst e;rcases h with⟨_,c,_⟩|⟨x,d,_,c,_⟩
   ·rw[f] at c;cases c
   ·exact⟨p,Ψ,Aoa c⟩
  ·have IC:∃d,Xh hp a (i+1) ps d:=by
    rcases h with⟨_,_,b⟩|⟨x,d,_,_,b⟩<;>exact⟨_,b⟩
   obtain⟨d,j⟩:=IC;obtain⟨q,m,n⟩:=Aj0 j k id off Ω f (by simp at b;omega)
   refine⟨q,?_,n⟩;rw[show k-i=(k-(i+1))+1 by omega]
   simpa using m
theorem Qm.len{bt:OB}:∀{ps:Ae}{us:List Value}{i:Nat},Qm w A bt i ps us->ps.length=us.length
 |[],[],_,_=>rfl
 |[],_::_,_,h=>h.elim
 |_::_,[],_,h=>h.elim
 |_::_,_::_,_,h=>by simp[Qm.len h.2]
theorem Akm(h:Dt N w0 X0 Y β s a w){G:KB}(Qd:Env P G w0 X0){C:J7}{F:Ao}(E3:∀f args res,F f args=some res->Ej G P f args res){c:Call}{f:FuncId}(ho:o.op=.call c)(hc:c.callee=.value (.func f)){K:St->Option R}(hk:PA C P N F s o f c K=some r):
  ∃s',K s'=some r/\∀(next:Act->World->Prop) (Q:Exit->Act->World->Prop),(∀a' w' β',Dt N w0 X0 Y β' s' a' w'->next a' w')->o.wp P a w next Q:=by
 unfold PA at hk;obtain⟨vs0,m,x,l,src,Ft,X,hx,hS,hL,G8⟩:=Adf h hk;obtain⟨n,G4⟩:=Ay Ft;simp only[Ge] at n;obtain⟨⟨⟨hnd,A75⟩,hN⟩,Arl⟩:=n;have hN:0<N:=Nat.lt_of_succ_le (Zy hN);obtain⟨hnl,hnx,hlx⟩:=Mw hnd
 have hml:∀i∈m,i ∉ l.flatMap Jn.ids/\i ∉ x:=by
  intro i hi;have:=List.all_eq_true.1 A75 i hi
  have hn:∀k∈l.flatMap Jn.ids++x,i≠k:=by
   rintro k hk rfl
   have A:(l.flatMap Jn.ids++x).any (Nat.beq i)=true:=List.any_eq_true.2 ⟨i,hk,Vr i⟩;rw[A] at this;cases this
  exact⟨λJ=>hn i (by simp only[B2];exact .inl J) rfl,λJ=>hn i (by simp only[B2];exact .inr J) rfl⟩
 replace hL:=Z6 (C.kz f) (B:=c.args.toList) hL
 replace G8:=λfz E A bt IE=>MB (a:=a) (C.kz f) (G8 fz E A bt IE)
 generalize Nw (C.kz f) c.args.toList vs0=vs at G4 G8 hL;obtain⟨rv,ro,So,Rp⟩:=Acv G4;obtain⟨ws,bs,FM,hwl,hnt,hsl,hrs,hri,hws⟩:=PO (C.shr f) N Rp;obtain⟨Yk,hk5⟩:=Ay FM;obtain⟨lids,Aak⟩:∃lids,l.flatMap Jn.ids=lids:=⟨_,rfl⟩
 rw[Aak] at hS hnl hlx hml;have Bca:∀i,i ∉ x->EX (Aj s.hp m) x i=Aj s.hp m i:=λi hi=>by rw[Ik,Bb hi]
 have Apn:∀i,i∈lids->EX (Aj s.hp m) x i=s.hp i:=λi hi=>by
  rw[Bca i (hlx i hi),Cj,Bb (λJ=>(hml i J).1 hi)]
 have hLM:Xh (EX (Aj s.hp m) x) src 0 vs l:=KQ (λi hi=>Apn i (Aak ▸ hi)) hL;obtain⟨Ee,T,qs,hk6,hbq,NU,Pt,Gf,Qw,hsh,Adw⟩:=DD (β:=β) (j:=R4 rv) hk5 hLM (by rw[Aak];exact hnl)
 obtain⟨Xd,hk7⟩:=Ay hk6;refine⟨_,hk7,λnext Q hn=>?_⟩;clear hk Ft G4 Rp FM hk5 hk6 hk7;rw[Aak] at Qw;obtain⟨⟨fn,hfn,hfb⟩,UP⟩:=E3 f vs _ So;have hf:=h.freeze X;have Aq7:=XN hL;rw[Aak] at Aq7
 have Abk:∀i,i∈lids\/i∈x->Aj s.hp m i=s.hp i:=by
  intro i hi;rw[Cj,Bb];intro J;rcases hi with hi|hi
  ·exact (hml i J).1 hi
  ·exact (hml i J).2 hi
 have LM:∀i,i∈lids\/i∈x->Eb (s.hp i):=by
  intro i hi;rcases hi with hi|hi
  ·exact (Aq7 i hi).1
  ·obtain⟨cc,hcc⟩:=hx i hi;rw[hcc];trivial
 have Bbu:∀i j id off,src i j=some (id,off)->id∈lids\/id∈x:=by
  intro i j id off hs;cases j with
  |zero=>exact .inl (hS.lent i id off hs)
  |succ j=>exact .inr (hS.mvd i j id off hs).2
 obtain⟨bt,IE⟩:∃bt:OB,∀i j,bt i j=(src i j).bind (J2 β):=⟨_,λ_ _=>rfl⟩
 have btS:∀{i j b H},bt i j=some (b,H)->∃id off L,src i j=some (id,off)/\β id=some (b,L)/\H=L+off/\(id∈lids\/id∈x):=by
  intro i j b H n;rw[IE] at n;cases hs:src i j with
  |none=>rw[hs] at n;cases n
  |some q=>
   rw[hs] at n;obtain⟨id,off⟩:=q;simp only[Option.bind_some,J2] at n;cases S:β id with
   |none=>rw[S] at n;cases n
   |some p=>
    rw[S] at n;obtain⟨b',L⟩:=p;simp only[Option.map_some,Option.some.injEq,Prod.mk.injEq] at n;obtain⟨rfl,rfl⟩:=n;exact⟨id,off,L,rfl,S,rfl,Bbu i j id off hs⟩
 have btX:∀{b},BtX bt b->∃id L,β id=some (b,L)/\(id∈lids\/id∈x):=by
  rintro b ⟨i,j,H,n⟩
  obtain⟨id,off,L,_,A,_,Z⟩:=btS n;exact⟨id,L,A,Z⟩
 have hBA:∀b,BtX bt b->Xof s.hp β b:=λb n=>by
  obtain⟨id,L,E,A⟩:=btX n;exact⟨id,L,LM id A,E⟩
 obtain⟨Yc,hYc⟩:∃Yc:Nat->Prop,∀b,Yc b↔((∃id H,Eb (Aj s.hp m id)/\β id=some (b,H)/\id ∉ lids/\id ∉ x)\/Y b):=⟨_,λ_=>Iff.rfl⟩
 have Ef:vs.length=c.args.toList.length:=by
  have:=(G8 m (λ_ hi=>hi) X bt IE).len
  simpa using this
 have Bj5:Ins w Yc bt vs (c.args.toList.map a.eval):=by
  refine⟨λb n=>?_,λb n hB=>?_,λb hB=>?_,λi j i' j' b H ob' n K9=>?_,λi q J=>?_,?_⟩
  ·rcases (hYc b).1 n with⟨id,H,M,S,_⟩|hY
   ·exact hf.blt id b H (Dy M) S
   ·exact H2 (h.Ylt b hY) h.fr.step.size
  ·obtain⟨t,L,E,A⟩:=btX hB;rcases (hYc b).1 n with⟨id,H,M,S,I,Z⟩|hY
   ·have:=hf.inj id t b H L M (by show Eb (Aj s.hp m t);rw[Abk t A];exact LM t A) S E
    subst this;rcases A with A|A
    ·exact I A
    ·exact Z A
   ·exact h.Yx b hY ⟨t,L,LM t A,E⟩
  ·obtain⟨t,L,E,A⟩:=btX hB;exact h.blt t b L (Dy (LM t A)) E
  ·obtain⟨id,off,o1,E,A,_,Z⟩:=btS n;obtain⟨t,off',o1',ZU,h2',_,h4'⟩:=btS K9;have:=h.inj id t b o1 o1' (LM id Z) (LM t h4') A h2';subst this;cases j with
   |zero=>
    cases j' with
    |zero=>exact⟨hS.inj0 hnl i i' id off off' E ZU,rfl⟩
    |succ j'=>exact absurd (hS.mvd i' j' id off' ZU).2 (hlx id (hS.lent i id off E))
   |succ j=>
    cases j' with
    |zero=>exact absurd (hS.mvd i j id off E).2 (hlx id (hS.lent i' id off' ZU))
    |succ j'=>
     obtain⟨h5,h6⟩:=hS.inj1 hnx i i' j j' id off off' E ZU;exact⟨h5,by rw[h6]⟩
  ·obtain⟨b,H⟩:=q;obtain⟨id,off,L,E,_⟩:=btS J;obtain⟨p,hp,A⟩:=Aj0 hL i id off (Nat.zero_le _) E (by have:=hS.dom i 0 _ E;rw[Ef];exact this.2)
   exact⟨p,by simpa using hp,A⟩
  ·refine (G8 m (λ_ hi=>hi) X bt IE).weak λb _ n=>?_;rcases n with n|n
   ·obtain⟨t,L,E,A⟩:=btX n;exact .inl ⟨t,L,by rw[Abk t A];exact LM t A,E⟩
   ·rcases (hYc b).1 n with⟨id,H,M,S,_⟩|hY
    ·exact .inl ⟨id,H,M,S⟩
    ·exact .inr hY
 unfold Oper.wp;rw[Akh ho hc Qd.ng hfn hfb];show Calls P f _ w _;have hca:c.args.map a.eval=(c.args.toList.map a.eval).toArray:=by rw[<-List.map_toArray,Array.toArray_toList]
 rw[hca];refine (UP w Yc bt _ Bj5 (Qd.fr w h.fr) (λb x=>⟨H2 (Qd.y b x).1 h.fr.step.size,λhB=>(h.ownd b (hBA b hB)).elim (Qd.y b x).2 (λIV=>absurd (Qd.y b x).1 (Nat.not_lt.2 IV))⟩)).mono ?_
 rintro e w' ⟨us,own,rfl,V⟩
 obtain⟨ha1,Zn⟩:=B7 Xd;obtain⟨hg1,hg2⟩:=F4 (hp:=Ee) Zn;have Anp:=AK Xd;rw[List.map_append,List.nodup_append] at Anp;obtain⟨Bpu,Bb4,Bjp⟩:=Anp;rw[hbq] at Bb4
 obtain⟨β1,hβ1,hβ2⟩:∃β1:Bt,(∀i,(∃D,(i,D)∈bs)->β1 i=own ((i-o.dst.getD N) / N))/\∀i,(¬∃D,(i,D)∈bs)->β1 i=match HM qs i with|some j=>own j|none=>β i:=by
  refine⟨λi=>if (bs.any λq=>Nat.beq q.1 i)=true then own ((i-o.dst.getD N) / N) else match HM qs i with|some j=>own j|none=>β i,λi hi=>?_,λi hi=>?_⟩
  ·show (if _ then _ else _)=_;rw[Bq (Afg.2 hi)]
  ·show (if _ then _ else _)=_;rw[Bb (λJ=>hi (Afg.1 J))]
 have hβbs:∀j,(∃D,(o.dst.getD N+N*j,D)∈bs)->β1 (o.dst.getD N+N*j)=own (0+j):=by
  intro j O;rw[hβ1 _ O,Nat.add_sub_cancel_left,Nat.mul_div_cancel_left _ hN,Ka]
 have hqb:∀q∈qs,∃D,(q.1,D)∈T:=by
  intro q J;have:q.1∈T.map (·.1):=by rw[hbq];exact List.mem_map_of_mem J
  obtain⟨⟨i,D⟩,X,e⟩:=List.mem_map.1 this;exact⟨D,e ▸ X⟩
 have Bhv:∀i D,(i,D)∈T->∃j,(i,j)∈qs:=by
  intro i D X;have:i∈qs.map (·.1):=by rw[<-hbq];exact List.mem_map.2 ⟨_,X,rfl⟩
  obtain⟨⟨i',j⟩,X,e⟩:=List.mem_map.1 this;exact⟨j,e ▸ X⟩
 have hbb:∀i,(∃D,(i,D)∈T)->¬∃D,(i,D)∈bs:=by
  rintro i ⟨D,X⟩ ⟨bx',My⟩
  exact Bjp i (List.mem_map.2 ⟨_,My,rfl⟩) i (List.mem_map.2 ⟨_,X,rfl⟩) rfl
 have hβqs:∀q∈qs,β1 q.1=own q.2:=by
  intro q J;rw[hβ2 q.1 (hbb q.1 (hqb q J)),Ax9 Bb4 q J]
 have hβold:∀i,Ee i≠none->β1 i=β i:=by
  intro i hi
  have hn1:¬∃D,(i,D)∈bs:=by
   rintro⟨D,X⟩
   exact hi (ha1 i D (B2.2 (.inl X)))
  rw[hβ2 i hn1,Aia];intro X;obtain⟨q,J,e⟩:=List.mem_map.1 X;obtain⟨D,Rs⟩:=hqb q J;exact hi (ha1 i D (B2.2 (.inr (e ▸ Rs))))
 obtain⟨CJ,hba⟩:=hws w' _ own β1 w.heap.size 0 us hβbs V.vals;obtain⟨Bhn,Ba5⟩:=Adw w' _ own β1 bt hβqs (λi=>IE i 0) V.outs
 have A4v:∀id∈lids,∃y∈l,id∈y.ids:=by
  intro id W;rw[<-Aak] at W;exact List.mem_flatMap.1 W
 have A1w:∀id∈lids,(∃off c cs,s.hp id=some (.st c)/\Ee id=some (.st (B1 c cs off))/\off+cs.length<=c.length/\(∀p∈cs,∀i∈A3 p,∃D,(i,D)∈T))\/∃c cs,s.hp id=some (.ar false c)/\Ee id=some (.ar false cs):=by
  intro id W;obtain⟨y,hy,hyi⟩:=A4v id W;have E:=hsh y hy;cases y with
  |var t off cts ws'=>
   simp only[Jn.ids,Xx] at hyi;subst hyi;obtain⟨c1,cs,A,I,Z,h5,h6⟩:=E;rw[Apn id W] at A;exact .inl ⟨off,c1,cs,A,I,h5,h6⟩
  |row t=>
   simp only[Jn.ids,Xx] at hyi;subst hyi;obtain⟨c1,cs,A,I⟩:=E;rw[Apn id W] at A;exact .inr ⟨c1,cs,A,I⟩
  |none=>simp[Jn.ids] at hyi
 have Bg5:∀id∈lids,Ee id≠none:=by
  intro id W;rcases A1w id W with⟨_,_,_,_,A,_⟩|⟨_,_,_,A⟩<;>rw[A]<;>simp
 have hpK:∀id,id ∉ lids->Ee id=EX (Aj s.hp m) x id:=λid W=>Qw id W
 have F7:∀i,s.hp i≠none->Ee i≠none:=by
  intro i hi;by_cases M:i∈lids
  ·exact Bg5 i M
  ·rw[hpK i M,Ik];have E:Aj s.hp m i≠none:=λe=>hi (Fl.1 e);split
   ·cases J:Aj s.hp m i with
    |none=>exact absurd J E
    |some b=>simp
   ·exact E
 have A2f:∀i,(s.hp i≠none\/∃D,(i,D)∈bs++T)->A4 Ee (bs++T) i≠none:=by
  rintro i (hi|⟨D,X⟩)
  ·have E:=F7 i hi;rw[hg2 i (λD X=>E (ha1 i D X))];exact E
  ·rw[hg1 i D X];simp
 have Kd:∀id,(∃D,(id,D)∈bs++T)\/A4 Ee (bs++T) id=Ee id:=λid=>by
  by_cases hx:∃D,(id,D)∈bs++T
  ·exact .inl hx
  ·exact .inr (hg2 id λD n=>hx ⟨D,n⟩)
 have hold:∀id D,Ee id=some D->Eb (some D)->Eb (s.hp id)/\id ∉ x/\(id∈lids\/(id ∉ lids/\Aj s.hp m id=some D)):=by
  intro id D n M;by_cases W:id∈lids
  ·exact⟨LM id (.inl W),hlx id W,.inl W⟩
  ·rw[hpK id W,Ik] at n;split at n
   ·cases J:Aj s.hp m id with
    |none=>rw[J] at n;cases n
    |some b=>rw[J] at n;simp at n;subst n;exact M.elim
   ·rename_i hxn;exact⟨by rw[Nb n M];exact M,hxn,.inr ⟨W,n⟩⟩
 have JX:∀i D,(i,D)∈bs++T->∃j,β1 i=own j/\((i=o.dst.getD N+N*j/\j<R4 rv)\/((i,j)∈qs/\R4 rv<=j)):=by
  intro i D X;rcases B2.1 X with X|X
  ·obtain⟨⟨j,rfl,O⟩,_⟩:=hba i D X;exact⟨j,by rw[hβbs j ⟨D,X⟩,Ka],.inl ⟨rfl,O⟩⟩
  ·obtain⟨j,O⟩:=Bhv i D X;exact⟨j,hβqs _ O,.inr ⟨O,(NU _ O).2⟩⟩
 have A5l:∀i D,(i,D)∈bs++T->Eb (some D)/\Z8 w' (YM bt own Yc) β1 i D/\∀cs,D=.st cs->∀b H,β1 i=some (b,H)->w.heap.size<=b:=by
  intro i D X;rcases B2.1 X with X|X
  ·exact (hba i D X).2
  ·obtain⟨cc,rfl⟩:=Gf i D X;exact⟨trivial,Bhn i _ X,λcs e=>by cases e⟩
 have A5o:∀b,(∃i k L,bt i (k+1)=some (b,L))->∃id L,id∈x/\β id=some (b,L):=by
  rintro b ⟨i,k,L,n⟩
  obtain⟨id,off,o1,E,A,_,_⟩:=btS n;exact⟨id,o1,(hS.mvd i k id off E).2,A⟩
 have hX:∀b,b<w.heap.size->Xof (A4 Ee (bs++T)) β1 b->Xof s.hp β b:=by
  rintro b n ⟨id,H,M,S⟩
  rcases Kd id with⟨D,X⟩|e
  ·obtain⟨j,O,_⟩:=JX id D X;rw[O] at S;obtain⟨t,L,E,A⟩:=A5o b ((V.fresh j b H S).2 n).1;exact⟨t,L,LM t (.inr E),A⟩
  ·rw[e] at M;cases J:Ee id with
   |none=>rw[J] at M;exact M.elim
   |some D=>
    rw[J] at M;exact⟨id,H,(hold id D J M).1,by rw[<-hβold id (by rw[J];simp)];exact S⟩
 have hAo:∀b,b<w.heap.size->Ec (A4 Ee (bs++T)) β1 Y b->Ec s.hp β Y b:=λb n hA=>hA.imp (hX b n) id
 have hAO:∀b,Ec (A4 Ee (bs++T)) β1 Y b->YM bt own Yc b:=by
  rintro b (⟨id,H,M,S⟩|hY)
  ·rcases Kd id with⟨D,X⟩|e
   ·obtain⟨j,O,_⟩:=JX id D X;rw[O] at S;exact .inl ⟨j,H,S⟩
   ·rw[e] at M;cases J:Ee id with
    |none=>rw[J] at M;exact M.elim
    |some D=>
     rw[J] at M;rw[hβold id (by rw[J];simp)] at S
     obtain⟨E,A,I⟩:=hold id D J M;rcases I with I|⟨I,Z⟩
     ·obtain⟨_,i,off,hs⟩:=Aq7 id I;exact .inr (.inl ⟨i,H+off,by rw[IE,hs];simp[J2,S]⟩)
     ·exact .inr (.inr ((hYc b).2 (.inl ⟨id,H,by rw[Z];exact M,S,I,A⟩)))
  ·exact .inr (.inr ((hYc b).2 (.inr hY)))
 have Iy:Cy (Ec s.hp β Y) w w':=V.ext.weaken (λb _ n=>.inl (hBA b n));have A2s:∀i,s.hp i≠none->β1 i=β i:=λi hi=>hβold i (F7 i hi)
 have hCL:∀b j,VG bt vs b j->∃id L D,s.hp id=some D/\Eb (some D)/\β id=some (b,L)/\BR D L j:=by
  rintro b j ⟨i,p,hp,⟨k,H,n,IV⟩|⟨H,ps,n,IV,Zo⟩⟩
  ·obtain⟨id,off,L,E,A,I,_⟩:=btS n;obtain⟨h5,h6⟩:=hS.mvd i k id off E;obtain⟨cc,hcc⟩:=hx id h6;exact⟨id,L,_,hcc,trivial,A,show L<=j by omega⟩
  ·obtain⟨id,off,L,E,A,I,_⟩:=btS n;rcases Awz hL i p id off hp (by rw[Ka];exact E) with⟨c1,wz,h5,h6,h7⟩|⟨⟨c1,h5⟩,_⟩
   ·rcases Zo with⟨h8,h9⟩|h8
    ·rw[h6] at h8;cases h8;exact⟨id,L,_,h5,trivial,A,show L<=j/\j<L+c1.length by omega⟩
    ·rw[h6] at h8;cases h8
   ·exact⟨id,L,_,h5,trivial,A,show L<=j by omega⟩
 have hnL:∀id off cts wz,Jn.var id off cts wz∈l->id∈lids->∀b H,β id=some (b,H)->∀j,(j<off\/off+wz.length<=j)->(∃c1,s.hp id=some (.st c1))->¬VG bt vs b (H+j):=by
  rintro id off cts wz hy W b H S j O ⟨c1,ZK⟩ ⟨i,p,hp,⟨k,ob',n,IV⟩|⟨ob',ps,n,IV,Zo⟩⟩
  ·obtain⟨t,off',L,E,A,I,Z⟩:=btS n;have:=h.inj id t b H L (LM id (.inl W)) (LM t Z) S A;subst this;exact hlx id W (hS.mvd i k id off' E).2
  ·obtain⟨t,off',L,E,A,I,Z⟩:=btS n;have:=h.inj id t b H L (LM id (.inl W)) (LM t Z) S A;subst this;rw[S] at A;cases A;obtain⟨k,Ft,G4⟩:=Agy hL hy;rw[Ka] at G4;have hik:=hS.inj0 hnl i k id off' off E G4;subst hik;rw[E] at G4;cases G4;rw[hp] at Ft;cases Ft;rcases Zo with⟨h8,h9⟩|h8
   ·cases h8;omega
   ·cases h8
 have hval:F9 w' (Ec (A4 Ee (bs++T)) β1 Y) β1 (U7 ws (Wf P o.type)) (Lv us):=by
  have R0:Bv (Ll w' (Ec (A4 Ee (bs++T)) β1 Y) β1) ws us:=CJ.mono λv u hvu=>hvu.step (Cy.refl _ _) (λb _=>hAO b) (λ_ _=>rfl);have Ef:=R0.len;cases hT:Wf P o.type
  ·rw[hT] at Yk;have E:ws.length=1:=El Yk
   match ws,us,E,Ef with
   |[v],[u],_,_=>
    exact (Wi (hnt v Ψ)).2 R0.1
  ·rw[hT] at Yk
   have E:¬ws.length=1:=by
    intro e;rw[e] at Yk;cases Yk
   have hr:Lv us=.tuple ⟨us⟩:=by
    unfold Lv;split
    ·simp at Ef;omega
    ·rfl
   rw[hr];exact⟨us,rfl,R0⟩
 have hvr:∀i∈Ck (U7 ws (Wf P o.type)),∃D,(i,D)∈bs:=by
  intro i hi;cases hT:Wf P o.type
  ·rw[hT] at Yk hi;have E:ws.length=1:=El Yk
   match ws,E with
   |[v],_=>
    refine hrs v Ψ i ?_
    have:Ck v=C8 v:=by
     have hn:=hnt v Ψ;cases v<;>first|rfl|exact absurd rfl (hn _)
    rw[<-this];exact hi
  ·rw[hT] at hi;obtain⟨v,hv,hi⟩:=List.mem_flatMap.1 (show i∈ws.flatMap C8 from hi);exact hrs v hv i hi
 refine hn _ w' β1 ?_;refine⟨by rw[Zs];exact h.dfr,by rw[LH];exact h.tsz,Afp Arl h.tmo,?_,?_,?_,?_,?_,?_,?_,?_,?_,?_,?_,h.Ylt,?_⟩
 ·refine Wx (Q:=λ_ p u=>F9 w' (Ec (A4 Ee (bs++T)) β1 Y) β1 p u) h.tsz Arl (λi hi=>?_) (λ_=>hval);exact (h.tms i hi).step Iy hAo λid W=>A2s id (h.wfT i hi id W)
 ·intro id D n;simp only at n;rcases Kd id with⟨bx',My⟩|e
  ·rw[hg1 id bx' My] at n;cases n;exact (A5l id _ My).2.1.step' hAO
  ·rw[e] at n;have S:=hβold id (by rw[n];simp)
   by_cases W:id∈lids
   ·obtain⟨y,hy,hyi⟩:=A4v id W;have E:=Ba5 y hy;cases y with
    |var t off cts wz=>
     simp only[Jn.ids,Xx] at hyi;subst hyi;obtain⟨c1,cs,A,I,Z,h5,h6⟩:=E;rw[Apn id W] at A;rw[I] at n;cases n;obtain⟨b,H,h7,h8,h9⟩:=h.box id _ A;obtain⟨h10,h11⟩:=h6 b H h7;have Cs:=h.blt id b H (by rw[A];simp) h7
     have RO:∀j,(j<off\/off+wz.length<=j)->w'.cell? ⟨b,H+j,none⟩=w.cell? ⟨b,H+j,none⟩/\w'.frozen? ⟨b,H+j,none⟩=w.frozen? ⟨b,H+j,none⟩:=
      λj O=>V.rng b (H+j) Cs (hnL id off cts wz hy W b H h7 j O ⟨c1,A⟩)
     refine⟨b,H,S.trans h7,λj p O=>?_,λj O=>?_⟩
     ·rcases Zu Ω O with⟨h12,h13,h14⟩|⟨h12,h14⟩
      ·obtain⟨v,hv,hcr⟩:=h10 _ _ h14;refine⟨v,?_,hcr.step (Cy.refl _ _) (λb _=>hAO b) (λ_ _=>rfl)⟩;rw[show H+j=H+off+(j-off) by omega];exact hv
      ·obtain⟨v,hv,hcr⟩:=h8 _ _ h14;refine⟨v,by rw[(RO j Ω).1];exact hv,hcr.step Iy hAo λi hi=>A2s i (h.wfB id c1 A p (List.mem_of_getElem? h14) i hi)⟩
     ·rw[AY Ω] at O;by_cases KH:off<=j/\j<off+cs.length
      ·have:=h11 (j-off) Ω;rw[show H+off+(j-off)=H+j by omega] at this;exact this
      ·rw[(RO j Ω).2];exact h9 j O
    |row t=>
     simp only[Jn.ids,Xx] at hyi;subst hyi;obtain⟨cs,I,Z⟩:=E;rw[I] at n;cases n;rcases Z with⟨h5,h6⟩|⟨b,H,h5,h6,h7⟩
     ·exact .inl ⟨S.trans h5,h6⟩
     ·exact .inr ⟨b,H,S.trans h5,h6.weak (λb _=>hAO b),λ_=>h7,(λq=>by cases q)⟩
    |none=>simp[Jn.ids] at hyi
   ·rw[hpK id W,Ik] at n;split at n
    ·cases J:Aj s.hp m id with
     |none=>rw[J] at n;cases n
     |some b0=>rw[J] at n;simp at n;subst n;trivial
    ·rename_i hxn;have Rs:=hf.box id D n
     have Azj:∀b H,β id=some (b,H)->D ≠ .mv->b<w.heap.size/\w'.heap[b]?=w.heap[b]?:=by
      intro b H hb0 hmv;have Cs:=hf.blt id b H (by show Aj s.hp m id≠none;rw[n];simp) hb0
      refine⟨Cs,V.ext.keep b Cs λhB=>?_⟩;obtain⟨t,L,E,A⟩:=btX hB;have Pq:Eb (Aj s.hp m t):=by rw[Abk t A];exact LM t A
      have hno:id≠t:=by
       rintro rfl
       rcases A with A|A
       ·exact W A
       ·exact hxn A
      cases D with
      |st cc=>exact hno (hf.inj id t b H L (by show Eb (Aj s.hp m id);rw[n];trivial) Pq hb0 E)
      |ar fz cc=>
       cases fz with
       |false=>exact hno (hf.inj id t b H L (by show Eb (Aj s.hp m id);rw[n];trivial) Pq hb0 E)
       |true=>
        rcases Rs with⟨I,_⟩|⟨b2,o2,I,_,_,Z⟩
        ·rw[hb0] at I;cases I
        ·rw[hb0] at I;cases I;exact Z rfl (.inl ⟨t,L,Pq,E⟩)
      |mv=>exact hmv rfl
     have hAoF:∀b,b<w.heap.size->Ec (A4 Ee (bs++T)) β1 Y b->Ec (Aj s.hp m) β Y b:=by
      intro b Gf hA;rcases hA with⟨i,H,M,hβi⟩|hY
      ·rcases Kd i with⟨bx1,U⟩|e1
       ·obtain⟨j,O,_⟩:=JX i bx1 U;rw[O] at hβi;obtain⟨t,L,E,A⟩:=A5o b ((V.fresh j b H hβi).2 Gf).1;exact .inl ⟨t,L,by rw[Abk t (.inr E)];exact LM t (.inr E),A⟩
       ·rw[e1] at M;cases J:Ee i with
        |none=>rw[J] at M;exact M.elim
        |some bx1=>
         rw[J] at M;rw[hβold i (by rw[J];simp)] at hβi
         obtain⟨E,A,I⟩:=hold i bx1 J M;rcases I with I|⟨I,Z⟩
         ·exact .inl ⟨i,H,by rw[Abk i (.inl I)];exact E,hβi⟩
         ·exact .inl ⟨i,H,by rw[Z];exact M,hβi⟩
      ·exact .inr hY
     have Bdl:Cy (Ec (Aj s.hp m) β Y) w w':=V.ext.weaken (λb _ hB=>by
      obtain⟨t,L,E,A⟩:=btX hB;exact .inl ⟨t,L,by rw[Abk t A];exact LM t A,E⟩)
     cases D with
     |st cc=>
      obtain⟨b,H,E,A,I⟩:=Rs;obtain⟨Cs,Vm⟩:=Azj b H E Ψ;refine⟨b,H,S.trans E,λj p O=>?_,λj O=>?_⟩
      ·obtain⟨v,hv,hcr⟩:=A j p O;refine⟨v,by rw[World.cell?_of_block (w:=w) Vm];exact hv,hcr.step Bdl hAoF λi hi=>?_⟩
       refine A2s i (λe1=>?_);exact hf.wfB id cc n p (List.mem_of_getElem? O) i hi (Fl.2 e1)
      ·rw[World.frozen?_of_block (w:=w) Vm];exact I j O
     |ar fz cc=>
      rcases Rs with⟨E,A⟩|⟨b,H,E,A,I,Z⟩
      ·exact .inl ⟨S.trans E,A⟩
      ·obtain⟨Cs,Vm⟩:=Azj b H E Ψ;have hbs:bsz w' b=bsz w b:=by unfold bsz;rw[Vm]
       refine .inr ⟨b,H,S.trans E,λj p O=>?_,λe1 j O CR=>?_,λe1 q=>Z e1 (hAoF b Cs q)⟩
       ·obtain⟨v,hv,h5,ZK⟩:=A j p O;exact⟨v,by rw[World.cell?_of_block (w:=w) (by rw[G5];exact Vm)];exact hv,h5,ZK.step Bdl hAoF⟩
       ·rw[World.frozen?_of_block (w:=w) Vm];exact I e1 j O (by rw[<-hbs];exact CR)
     |mv=>trivial
 ·intro id t b H ob' M Pq n K9;simp only at M Pq
  have mixed:∀i D i' k z,(i,D)∈bs++T->β1 i=some (k,z)->Ee i'≠none->Eb (Ee i')->∀z',β1 i'=some (k,z')->False:=by
   intro i D i' k z U hz hn1 WV z' hz';obtain⟨j,O,_⟩:=JX i D U;rw[O] at hz;rw[hβold i' hn1] at hz';cases J:Ee i' with
   |none=>exact hn1 J
   |some bx1=>
    rw[J] at WV;obtain⟨E,A,I⟩:=hold i' bx1 J WV;have Cs:=h.blt i' k z' (Dy E) hz';obtain⟨id2,o2,Z,h5⟩:=A5o k ((V.fresh j k z hz).2 Cs).1;have:=h.inj i' id2 k z' o2 E (LM id2 (.inr Z)) hz' h5;subst this;exact A Z
  rcases Kd id with⟨D,U⟩|e1
  ·rcases Kd t with⟨bx',hm2⟩|e2
   ·obtain⟨j,O,Zo⟩:=JX id D U;obtain⟨j',CR,Beb⟩:=JX t bx' hm2;rw[O] at n;rw[CR] at K9;have:=V.inj j j' b H ob' n K9;subst this;rcases Zo with⟨E,A⟩|⟨E,A⟩
    ·rcases Beb with⟨I,_⟩|⟨_,Z⟩
     ·rw[E,I]
     ·omega
    ·rcases Beb with⟨_,Z⟩|⟨I,_⟩
     ·omega
     ·exact Pt _ E _ I rfl
   ·rw[e2] at Pq;exact (mixed id D t b H U n (Dy Pq) Pq ob' K9).elim
  ·rw[e1] at M;rcases Kd t with⟨bx',hm2⟩|e2
   ·exact (mixed t bx' id b ob' hm2 K9 (Dy M) M H n).elim
   ·rw[e2] at Pq
    have g:∀i,Eb (Ee i)->Eb (s.hp i)/\β1 i=β i:=by
     intro i hli;cases J:Ee i with
     |none=>rw[J] at hli;exact hli.elim
     |some bx1=>exact⟨(hold i bx1 J (by rw[<-J];exact hli)).1,hβold i (by rw[J];simp)⟩
    rw[(g id M).2] at n;rw[(g t Pq).2] at K9;exact h.inj id t b H ob' (g id M).1 (g t Pq).1 n K9
 ·intro id b H hn1 n;simp only at hn1;rcases Kd id with⟨D,U⟩|e1
  ·obtain⟨j,O,_⟩:=JX id D U;rw[O] at n;exact (V.fresh j b H n).1
  ·rw[e1] at hn1;rw[hβold id hn1] at n
   have hn2:s.hp id≠none:=by
    by_cases W:id∈lids
    ·exact Dy (LM id (.inl W))
    ·rw[hpK id W,Ik] at hn1;intro e2;have E:Aj s.hp m id=none:=Fl.2 e2;rw[E] at hn1;split at hn1<;>exact hn1 rfl
   exact H2 (h.blt id b H hn2 n) V.ext.size
 ·have:=Wx (Q:=λ_ p _=>∀id∈Ck p,A4 Ee (bs++T) id≠none) (val:=Lv us) (d:=o.dst) (v:=U7 ws (Wf P o.type)) h.tsz Arl (λi hi id W=>A2f id (.inl (h.wfT i hi id W))) (λ_ id W=>A2f id (.inr (by
   obtain⟨D,n⟩:=hvr id W;exact⟨D,B2.2 (.inl n)⟩)))
  exact this
 ·intro id cells Afo p hp i hi;simp only at Afo;refine A2f i ?_;rcases Kd id with⟨D,U⟩|e1
  ·rw[hg1 id D U] at Afo;cases Afo;rcases B2.1 U with U|U
   ·obtain⟨bx1,n⟩:=hri id cells U p hp i hi;exact .inr ⟨bx1,B2.2 (.inl n)⟩
   ·obtain⟨cc,e2⟩:=Gf id _ U;cases e2
  ·rw[e1] at Afo;by_cases W:id∈lids
   ·rcases A1w id W with⟨off,c1,cs,E,A,I,Z⟩|⟨c1,cs,E,A⟩
    ·rw[A] at Afo;cases Afo;unfold B1 at hp;rcases B2.1 hp with hp|hp
     ·rcases B2.1 hp with hp|hp
      ·exact .inl (h.wfB id c1 E p (List.mem_of_mem_take hp) i hi)
      ·obtain⟨bx1,n⟩:=Z p hp i hi;exact .inr ⟨bx1,B2.2 (.inr n)⟩
     ·exact .inl (h.wfB id c1 E p (List.mem_of_mem_drop hp) i hi)
    ·rw[A] at Afo;cases Afo
   ·obtain⟨_,_,I⟩:=hold id _ Afo trivial;rcases I with I|⟨_,I⟩
    ·exact absurd I W
    ·exact .inl (h.wfB id cells (Nb I trivial) p hp i hi)
 ·rintro b ⟨id,H,M,S⟩
  rcases Jt b w.heap.size with Cs|hge
  ·exact h.ownd b (hX b Cs ⟨id,H,M,S⟩)
  ·exact .inr (Nat.le_trans h.fr.step.size hge)
 ·intro id D b H n M S Cs j O;simp only at n;have hlw:=H2 Cs h.fr.step.size;rcases Kd id with⟨bx',U⟩|e1
  ·rw[hg1 id bx' U] at n;cases n;obtain⟨k,hk,_⟩:=JX id D U;rw[hk] at S
   have IV:H<=j:=by
    cases D with
    |st cc=>exact O.1
    |ar fz cc=>exact O
    |mv=>exact M.elim
   obtain⟨id2,o2,bx2,E,A,I,Z⟩:=hCL b j (((V.fresh k b H S).2 hlw).2 j IV);exact h.rngB id2 bx2 b o2 E A I Cs j Z
  ·rw[e1] at n;rw[hβold id (by rw[n];simp)] at S
   obtain⟨E,A,I⟩:=hold id D n M;rcases I with I|⟨I,Z⟩
   ·rcases A1w id I with⟨off,c1,cs,h5,h6,h7,_⟩|⟨c1,cs,h5,h6⟩
    ·rw[h6] at n;cases n;have O:H<=j/\j<H+(B1 c1 cs off).length:=O;rw[AY Ω] at O;exact h.rngB id _ b H h5 trivial S Cs j O
    ·rw[h6] at n;cases n;exact h.rngB id _ b H h5 trivial S Cs j O
   ·exact h.rngB id D b H (Nb Z M) M S Cs j O
 ·intro i hi;obtain⟨E,A⟩:=h.pin i hi;exact⟨A2f _ (.inl E),by rw[A2s _ E];exact A⟩
 ·intro id cc b H n S Cs;simp only at n;have hlw:=H2 Cs h.fr.step.size;rcases Kd id with⟨bx',U⟩|e1
  ·rw[hg1 id bx' U] at n;cases n;have:=(A5l id _ U).2.2 cc rfl b H S;omega
  ·rw[e1] at n;rw[hβold id (by rw[n];simp)] at S
   obtain⟨E,A,I⟩:=hold id _ n trivial;rcases I with I|⟨I,Z⟩
   ·rcases A1w id I with⟨off,c1,cs,h5,h6,h7,_⟩|⟨c1,cs,h5,h6⟩
    ·exact h.stp id c1 b H h5 S Cs
    ·rw[h6] at n;cases n
   ·exact h.stp id cc b H (Nb Z trivial) S Cs
 ·intro b hY hXb;exact h.Yx b hY (hX b (H2 (h.Ylt b hY) h.fr.step.size) hXb)
 ·refine⟨V.os.trans h.fr.os,V.tape.trans h.fr.tape,V.output.trans h.fr.output,⟨Nat.le_trans h.fr.step.size V.ext.size,λb n hnX=>?_,λb n=>(h.fr.step.bs b n).trans (V.ext.bs b (H2 n h.fr.step.size))⟩,λb j n hnL=>?_⟩
  ·rw[V.ext.keep b (H2 n h.fr.step.size) ?_]
   ·exact h.fr.step.keep b n hnX
   ·intro hB;rcases h.ownd b (hBA b hB) with J|J
    ·exact hnX J
    ·omega
  ·have hno:¬VG bt vs b j:=by
    intro J;obtain⟨id2,o2,bx2,E,A,I,Z⟩:=hCL b j J;exact hnL (h.rngB id2 bx2 b o2 E A I n j Z)
   obtain⟨E,A⟩:=V.rng b j (H2 n h.fr.step.size) hno;rw[E,A];exact h.fr.rng b j n hnL
end
open Go.RowKit
section
variable {R:Type}{r:R}{P:Program}{N:Nat}{w0:World}{X0:Lu}{Y:Nat->Prop}{β β':Bt}{s:St}{a:Act}{w w':World}{o:Oper}{A:Nat->Prop}
theorem Afw(h:Dt N w0 X0 Y β s a w){c:Call}(ho:o.op=.call c)(hc:c.callee=.builtin .append){d:Nat}(Arl:o.dst=some d){b x:Operand}(G8:c.args.toList=[b,x]){t tx:TypeId}{ts:List TypeId}(SN:c.argTypes.toList=t::tx::ts){K:St->Option R}(g:FZ P N s d t tx (Cw s.tm b) (Cw s.tm x) K=some r):
  ∃s',K s'=some r/\∀(next:Act->World->Prop) (Q:Exit->Act->World->Prop),(∀a' w' β',Dt N w0 X0 Y β' s' a' w'->next a' w')->o.wp P a w next Q:=by
 have ZA:c.args = #[b,x]:=by
  have:c.args=([b,x]:List Operand).toArray:=by rw[<-G8]
  exact this
 have Ahh:c.argTypes=(t::tx::ts).toArray:=by rw[<-SN]
 have run:∀{v:Value} {w1:World},(Builtin.append_ (t::tx::ts).toArray o.type #[a.eval b,a.eval x]).run P w=.ok v w1->∀(next:Act->World->Prop) (Q:Exit->Act->World->Prop),next (a.put (some d) v) w1->o.wp P a w next Q:=by
  intro v w1 D next Q S;unfold Oper.wp execOp;rw[ho];simp only[resolve,hc,invoke,builtin,Sem.run_bind,Sem.run_pure,Result.andThen_ok,ZA,Ahh];have:(#[b,x]:Array Operand).map a.eval = #[a.eval b,a.eval x]:=Ψ
  rw[this,D];show next (a.put o.dst v) w1;rw[Arl];exact S
 have W:=D4 h b;have hbr:=Hb h b;unfold FZ at g;split at g
 ·rename_i e hu;obtain⟨hzi,g⟩:=Ay g;obtain⟨i,z,hi,hz,X,Wh⟩:=VD hzi;cases T:UL P tx
  rotate_left
  ·rw[T] at g;simp only[cond_true] at g
   obtain⟨ki,htx⟩:∃k,P.underlying tx=some (.int k):=by
    unfold UL at T;split at T
    ·exact⟨_,by assumption⟩
    ·cases T
   unfold MO at g;obtain⟨kx,n,hx,g⟩:=Ez g;obtain⟨zz,n',c',g,hp⟩:=I9 g;obtain⟨J,g⟩:=Ay g;simp only[Ge,JI] at J;obtain⟨⟨⟨⟨⟨G,C⟩,GP⟩,NX⟩,I⟩,SX⟩:=J;have C:d<N:=Nat.lt_of_succ_le (Zy C);have GP:s.hp d=none:=by simpa using GP
   have Al8:I5 N (some d)=true:=by simp[I5,Nat.blt];omega
   have EU:((P.info? e).map (·.bytes)).getD 0=i.bytes:=by rw[hi];rfl
   rw[EU] at I;rw[Wh] at g;have Eo:=Cv h hx;rcases I7 hp W with⟨Xd,_⟩|⟨_,_,_,WL,_⟩|⟨_,_,_,WL,_⟩
   ·refine⟨_,g,λnext Q S=>?_⟩;by_cases U:n=0
    ·subst U;have D:=OQ (P:=P) (w:=w) (t:=t) (tx:=tx) (ty:=o.type) (ts:=ts) (kx:=kx) hu htx hi;rw[<-Xd,<-Eo] at D;refine run D next Q (S _ _ (Dm β d none) ?_);rw[Xd];refine h.stepR (d:=some d) (nw:=[(d,.ar false [])]) (β':=Dm β d none) Al8 (by simp[Ch,GP]) ⟨rfl,rfl,rfl,Cy.refl _ _,λj f=>At _ _ (by rintro rfl;exact f GP),?_,?_,?_,?_,?_,.inl ⟨Az _ _ _,rfl,rfl,none,rfl⟩,?_⟩
     ·intro j bx A;simp at A;rw[A.2];trivial
     ·intro j bx A;simp at A;obtain⟨rfl,rfl⟩:=A;exact .inl ⟨Az _ _ _,rfl⟩
     ·intro j bx k q A hq;simp at A;obtain⟨rfl,rfl⟩:=A;rw[Az] at hq;cases hq
     ·intro j bx j' bx' k q q' A My _ _;simp at A My;rw[A.1,My.1]
     ·intro j cells A;simp at A
     ·intro j f;simp[Ck,C8,A3] at f;subst f;exact .inr ⟨.ar false [],Ψ⟩
    ·have D:=TG (P:=P) (w:=w) (t:=t) (tx:=tx) (ty:=o.type) (ts:=ts) (kx:=kx) hu htx hi hz (n:=n) Ω I SX;rw[<-Xd,<-Eo] at D;refine run D next Q (S _ _ (Dm β d (some (w.heap.size,0))) ?_);have Z:n.toNat<=grownCap w n.toNat 0 e:=grownCap_ge w n.toNat 0 e;generalize UP:((if n.toNat*i.size=0 then #[] else Builtin.zeroCells z.cells n.toNat)++Builtin.zeroCells z.cells (grownCap w n.toNat 0 e-n.toNat))=cs
     have KF:I2 w (w.drew.alloc (.cells cs e)) cs e:=
      ⟨rfl,rfl,rfl,λk g=>Below.heap_alloc w.drew _ k g,by show (w.heap.push _).size=_;simp,(0,0),by show (w.heap.push _)[w.heap.size]?=_;simp,.inl rfl⟩
     have Alk:cs.size=grownCap w n.toNat 0 e*i.size:=by
      rw[<-UP];by_cases hs0:n.toNat*i.size=0
      ·rw[Bq hs0]
       have hi0:i.size=0:=by
        rcases Nat.mul_eq_zero.1 hs0 with h|h
        ·omega
        ·exact h
       simp[size_zeroCells,X,hi0]
      ·rw[Bb hs0];simp only[Array.size_append,size_zeroCells,X,<-Nat.add_mul]
       congr 1
       omega
     refine h.stepR (d:=some d) (nw:=[(d,.ar false [])]) Al8 (by simp[Ch,GP]) (Yy KF GP trivial ?_ (λcells hx=>by cases hx) ?_ (by intro j f;simp[Ck,C8,A3] at f;exact .inr f))
     ·refine .inr ⟨w.heap.size,0,Az _ _ _,λj p f=>by simp at f,λ_ j _ f=>?_,(λq=>by cases q)⟩;rw[KF.bsz] at f;exact KF.frozen f
     ·refine .inr ⟨w.heap.size,0,0,grownCap w n.toNat 0 e,Az _ _ _,rfl,.inl rfl,Z,?_,by rw[KF.size];omega⟩
      exact⟨by rw[KF.bsz,Alk];omega,.inr (Pp w.drew _ e)⟩
   ·rw[WL] at G;cases G
   ·rw[WL] at G;cases G
  rw[T] at g;simp only[cond_false] at g;have EU:((P.info? e).map (·.bytes)).getD 0=i.bytes:=by rw[hi];rfl
  obtain⟨⟨dx,V,Aiv⟩,m,new,news,g,M⟩:=XT h g (by
   intro m new g;split at g
   ·split at g
    ·obtain⟨J,_⟩:=Ay g;simp only[Ge,JI] at J;have he:=El J.1.1.1.1.1.1.1;rw[<-he];exact J.1.1.2
    ·cases g
   ·obtain⟨zz,n',c',g,_⟩:=I9 g;obtain⟨J,_⟩:=Ay g;simp only[Ge,JI] at J;exact J.1.1.2)
  rw[Wh] at M;have hnl:new.length=news.length:=M.rep.len;split at g
  ·rename_i id es off n eb;rw[eb] at W hbr;split at g
   ·rename_i cc h0;obtain⟨J,G4⟩:=Ay g;simp only[Ge,JI] at J;obtain⟨⟨⟨⟨⟨⟨⟨CH,Xg⟩,C⟩,GP⟩,Bkf⟩,Apl⟩,I⟩,SX⟩:=J;have CH:=El CH;have Xg:=El Xg;have C:d<N:=Nat.lt_of_succ_le (Zy C);have GP:s.hp d=none:=by simpa using GP
    subst Xg;rw[Wh] at CH;subst CH;rw[EU] at I;have RD:news.length=m*i.size:=Ω
    have Bm3:s.hp id≠none:=by rw[h0];simp
    have Ar6:=h.box id _ h0;refine⟨_,G4,λnext Q S=>?_⟩
    have grow:∀(ad:Option Addr) (l:Nat) (olds:List Value),a.eval b=.slice ad n l->Bv (A9 w (Ec s.hp β Y)) (cc.take (n*i.size)) olds->(∀u∈olds,u.oneCell'=true)->olds.length=n*i.size ->
      ((ad=none/\olds=[])\/∃p,ad=some p/\olds.length=n*i.size/\∀(j:Nat) v,olds[j]?=some v->w.cell? (p.add j)=some v)->l<n+m->o.wp P a w next Q:=by
     intro ad l olds Xd holds h1 hol hold MV;have D:=R3 (P:=P) (w:=w) (t:=t) (tx:=tx) (ty:=o.type) (ts:=ts) hu V Aiv hi hz M hold MV I SX;rw[<-Xd] at D;refine run D next Q (S _ _ (Dm β d (some (w.heap.size,0))) ?_);have Z:n+m<=grownCap w (n+m) l e:=grownCap_ge w (n+m) l e
     have KF:I2 w (w.drew.alloc (.cells (olds.toArray++news.toArray++Builtin.zeroCells z.cells (grownCap w (n+m) l e-(n+m))) e)) (olds.toArray++news.toArray++Builtin.zeroCells z.cells (grownCap w (n+m) l e-(n+m))) e:=
      ⟨rfl,rfl,rfl,λk g=>Below.heap_alloc w.drew _ k g,by show (w.heap.push _).size=_;simp,(0,0),by show (w.heap.push _)[w.heap.size]?=_;simp,.inl rfl⟩
     have Alk:(olds.toArray++news.toArray++Builtin.zeroCells z.cells (grownCap w (n+m) l e-(n+m))).size=grownCap w (n+m) l e*i.size:=by
      simp only[Array.size_append,List.size_toArray,size_zeroCells,X,hol,RD,<-Nat.add_mul]
      congr 1
      omega
     have O:∀k y,some (w.heap.size,0)=some (k,y)->w.heap.size<=k\/∃q,β id=some (k,q):=by
      intro k y E;simp at E;exact .inl Ω
     refine h.move h0 GP C rfl rfl rfl (by rw[KF.size];omega) (λk g _=>KF.old k g) KF.step.bs (λk y E=>⟨by simp at E;rw[KF.size];omega,O k y E⟩) (λk y E Cs=>by simp at E;omega)
      (λk y _ Cs j _=>⟨World.cell?_of_block (w:=w) (KF.old k Cs),World.frozen?_of_block (w:=w) (KF.old k Cs)⟩) ?_ ?_ (by intro j f;simpa [Ck,C8,A3] using f)
     ·refine .inr ⟨w.heap.size,0,Az _ _ _,XE KF (Anj h0 GP O) holds M.rep h1 M.one,λ_ j _ f=>?_,(λq=>by cases q)⟩;rw[KF.bsz] at f;exact KF.frozen f
     ·refine .inr ⟨w.heap.size,0,0,grownCap w (n+m) l e,Az _ _ _,rfl,.inl rfl,Z,?_,by rw[KF.size];omega⟩
      exact⟨by rw[KF.bsz,Alk];omega,.inr (Pp w.drew _ e)⟩
    rcases W with⟨hβ,_,rfl,ad,Xd⟩|⟨H,ob,y,l,hβ,Xd,hy,Bcc,MV,Bbk⟩
    ·rcases Ar6 with⟨_,rfl⟩|⟨b',o',Gf,_⟩
     ·by_cases U:m=0
      ·subst U;have D:=Rt (P:=P) (w:=w) (t:=t) (tx:=tx) (ty:=o.type) (ts:=ts) (ad:=ad) hu V Aiv hi M (List.eq_nil_of_length_eq_zero Ω);rw[<-Xd] at D;have Ajt:new=[]:=List.eq_nil_of_length_eq_zero Ω;subst Ajt;refine run D next Q (S _ _ (Dm β d none) ?_);rw[Xd];refine h.move h0 GP C rfl rfl rfl (Cg _) (λ_ _ _=>rfl) (λ_ _=>Ku.refl _ _) (λk q E=>by cases E) (λk q E=>by cases E) (λ_ _ _ _ _ _=>⟨rfl,rfl⟩) ?_ ?_ (by intro j f;simpa [Ck,C8,A3] using f)
       ·exact .inl ⟨Az _ _ _,Ψ⟩
       ·exact .inl ⟨Az _ _ _,rfl,rfl,ad,rfl⟩
      ·exact grow ad 0 [] Xd (by simp[Bv]) Ψ Ψ (by cases ad with
        |none=>exact .inl ⟨rfl,rfl⟩
        |some p=>exact .inr ⟨p,rfl,Ψ,λj v f=>by simp at f⟩) Ω
     ·rw[hβ] at Gf;cases Gf
    ·rcases Ar6 with⟨Gf,_⟩|⟨b',o',Gf,Jv,GV,_⟩
     ·rw[hβ] at Gf;cases Gf
     rw[hβ] at Gf;simp at Gf;obtain⟨rfl,rfl⟩:=Gf;have hy:y=ob:=by rcases hy with hy|⟨_,hq⟩<;>omega
     subst hy;by_cases Ay8:n+m<=l
     ·have Bdd:y+n*i.size+news.length<=bsz w H:=by
       have h5:n*i.size+m*i.size<=l*i.size:=by rw[<-Nat.add_mul];exact Nat.mul_le_mul_right _ Ay8
       have:=MV.1;omega
      have Eu:∀k,k<news.length->(w.cell? ⟨H,y+n*i.size+k,none⟩).isSome=true:=λk g=>Aw0 Ω;have D:=TV (P:=P) (w:=w) (t:=t) (tx:=tx) (ty:=o.type) (ts:=ts) (b:=H) (ob:=y) (n:=n) (cap:=l) hu V Aiv hi M RD Eu (λk g=>GV rfl _ Ω Ω) Ay8;rw[<-Xd] at D;have L:=E2.setCells H news (y+n*i.size) w
      have O:∀k q,some (H,y)=some (k,q)->w.heap.size<=k\/∃q',β id=some (k,q'):=by
       intro k q E;simp at E;obtain⟨rfl,rfl⟩:=E;exact .inr ⟨_,hβ⟩
      refine run D next Q (S _ _ (Dm β d (some (H,y))) ?_)
      have Iy:Cy (Ec s.hp β Y) w (w.setCells H (y+n*i.size) news):=by
       have hAb:Ec s.hp β Y H:=.inl ⟨id,y,by rw[h0];trivial,hβ⟩
       exact⟨by rw[L.size];exact Cg _,λk _ g=>L.other k (λe=>g (e ▸ hAb)),λk _=>L.grow k⟩
      refine h.move h0 GP C L.os L.tape L.output (by rw[L.size];exact Cg _) (λk _ hq=>L.other k (by rintro rfl;exact hq _ hβ)) Iy.bs (λk q E=>⟨by simp at E;rw[L.size];omega,O k q E⟩) (λk q E _=>by rw[hβ];exact E)
       (λk q E _ j f=>by
        rw[hβ] at E;cases E;exact⟨World.cell?_setCells_out H _ _ w ⟨H,j,none⟩ (λ_ _=>by show j<y+n*i.size\/y+n*i.size+_<=j;omega),L.frz j⟩) ?_ ?_ (by intro j f;simpa [Ck,C8,A3] using f)
      ·refine .inr ⟨H,y,Az _ _ _,λj p f=>?_,λ_ j f CR=>?_,(λq=>by cases q)⟩
       ·rw[Gk];by_cases hjn:j<n*i.size
        ·rw[List.getElem?_append_left (by rw[List.length_take];omega),List.getElem?_take_of_lt hjn] at f
         obtain⟨u,Nq,h5,ht⟩:=Jv j p f;rw[Gk] at Nq;refine⟨u,?_,h5,ht.step Iy (Anj h0 GP O)⟩;rw[World.cell?_setCells_out H _ _ w ⟨H,y+j,none⟩ (λ_ _=>by show y+j<y+n*i.size\/y+n*i.size+_<=y+j;omega)]
         exact Nq
        ·rw[List.getElem?_append_right (by rw[List.length_take];omega),List.length_take,Nat.min_eq_left Bkf] at f
         obtain⟨u,Nq,ht⟩:=M.rep.get f
         have Cs:j-n*i.size<news.length:=by
          rcases Jt (j-n*i.size) news.length with h|h
          ·exact h
          ·rw[List.getElem?_eq_none h] at Nq;cases Nq
         refine⟨u,?_,M.one u (List.mem_of_getElem? Nq),ht.step Iy (Anj h0 GP O)⟩;have:=World.cell?_setCells_in H news (y+n*i.size) w Eu (j-n*i.size) Cs;rw[show y+j=y+n*i.size+(j-n*i.size) from Ω,this];rw[List.getElem?_eq_getElem Cs] at Nq;exact Nq
       ·rw[L.bs] at CR;rw[L.frz];exact GV rfl j f CR
      ·exact .inr ⟨H,y,y,l,Az _ _ _,rfl,.inl rfl,Ay8,MV.step (L.grow H),by rw[L.size];exact Bbk⟩
     ·-- the old cells
      have hob:∀(j:Nat) p,(cc.take (n*i.size))[j]?=some p->∃v,w.cell? ⟨H,y+j,none⟩=some v/\v.oneCell'=true/\A9 w (Ec s.hp β Y) p v:=by
       intro j p f;rw[List.getElem?_take] at f;split at f
       ·obtain⟨v,hv,h5,ht⟩:=Jv j p f;rw[Gk] at hv;exact⟨v,hv,h5,ht⟩
       ·cases f
      have Ef:(cc.take (n*i.size)).length=n*i.size:=by rw[List.length_take];omega
      refine grow _ l ((cc.take (n*i.size)).mapIdx λj _=>(w.cell? ⟨H,y+j,none⟩).getD undef) Xd ?_ ?_ (by simp only[List.length_mapIdx];exact Ef) (.inr ⟨_,rfl,by simp only[List.length_mapIdx];exact Ef,λj v f=>?_⟩) Ω
      ·refine Bv.of_at Ψ λj p v hp hv=>?_;obtain⟨u,Nq,_,ht⟩:=hob j p hp;rw[List.getElem?_mapIdx,hp,Option.map_some,Nq] at hv;simp at hv;subst hv;exact ht
      ·intro v hv;obtain⟨j,f⟩:=List.mem_iff_getElem?.1 hv;rw[List.getElem?_mapIdx] at f;cases hp:(cc.take (n*i.size))[j]? with
       |none=>rw[hp] at f;cases f
       |some p=>
        obtain⟨u,Nq,h5,_⟩:=hob j p hp;rw[hp,Option.map_some,Nq] at f;simp at f;subst f;exact h5
      ·rw[List.getElem?_mapIdx] at f;cases hp:(cc.take (n*i.size))[j]? with
       |none=>rw[hp] at f;cases f
       |some p=>
        obtain⟨u,Nq,h5,_⟩:=hob j p hp;rw[hp,Option.map_some,Nq] at f;simp at f;subst f;rw[Gk];exact Nq
   ·cases g
  ·obtain⟨zz,n',c',g,hp⟩:=I9 g;obtain⟨J,g⟩:=Ay g;simp only[Ge,JI] at J;obtain⟨⟨⟨⟨⟨G,C⟩,GP⟩,Apl⟩,I⟩,SX⟩:=J;have C:d<N:=Nat.lt_of_succ_le (Zy C);have GP:s.hp d=none:=by simpa using GP
   have Al8:I5 N (some d)=true:=by simp[I5,Nat.blt];omega
   rw[Wh] at Apl g;rw[EU] at I;have RD:news.length=m*i.size:=Ω
   rcases I7 hp W with⟨Xd,_⟩|⟨_,_,_,WL,_⟩|⟨_,_,_,WL,_⟩
   ·refine⟨_,g,λnext Q S=>?_⟩;by_cases U:m=0
    ·subst U;have D:=Rt (P:=P) (w:=w) (t:=t) (tx:=tx) (ty:=o.type) (ts:=ts) (ad:=none) hu V Aiv hi M (List.eq_nil_of_length_eq_zero Ω);rw[<-Xd] at D;have Ajt:new=[]:=List.eq_nil_of_length_eq_zero Ω;subst Ajt;refine run D next Q (S _ _ (Dm β d none) ?_);rw[Xd];refine h.stepR (d:=some d) (nw:=[(d,.ar false [])]) (β':=Dm β d none) Al8 (by simp[Ch,GP]) ⟨rfl,rfl,rfl,Cy.refl _ _,λj f=>At _ _ (by rintro rfl;exact f GP),?_,?_,?_,?_,?_,.inl ⟨Az _ _ _,rfl,rfl,none,rfl⟩,?_⟩
     ·intro j bx A;simp at A;rw[A.2];trivial
     ·intro j bx A;simp at A;obtain⟨rfl,rfl⟩:=A;exact .inl ⟨Az _ _ _,rfl⟩
     ·intro j bx k q A hq;simp at A;obtain⟨rfl,rfl⟩:=A;rw[Az] at hq;cases hq
     ·intro j bx j' bx' k q q' A My _ _;simp at A My;rw[A.1,My.1]
     ·intro j cells A;simp at A
     ·intro j f;simp[Ck,C8,A3] at f;subst f;exact .inr ⟨.ar false [],Ψ⟩
    ·have D:=R3 (P:=P) (w:=w) (t:=t) (tx:=tx) (ty:=o.type) (ts:=ts) (ad:=none) (n:=0) (cap:=0) (olds:=[]) hu V Aiv hi hz M (.inl ⟨rfl,rfl⟩) Ω (by rw[Ka];exact I) Ω
     rw[<-Xd] at D;refine run D next Q (S _ _ (Dm β d (some (w.heap.size,0))) ?_);have Z:0+m<=grownCap w (0+m) 0 e:=grownCap_ge w (0+m) 0 e
     have KF:I2 w (w.drew.alloc (.cells (([]:List Value).toArray++news.toArray++Builtin.zeroCells z.cells (grownCap w (0+m) 0 e-(0+m))) e)) (([]:List Value).toArray++news.toArray++Builtin.zeroCells z.cells (grownCap w (0+m) 0 e-(0+m))) e:=
      ⟨rfl,rfl,rfl,λk g=>Below.heap_alloc w.drew _ k g,by show (w.heap.push _).size=_;simp,(0,0),by show (w.heap.push _)[w.heap.size]?=_;simp,.inl rfl⟩
     have Alk:(([]:List Value).toArray++news.toArray++Builtin.zeroCells z.cells (grownCap w (0+m) 0 e-(0+m))).size=grownCap w (0+m) 0 e*i.size:=by
      simp only[Array.size_append,List.size_toArray,size_zeroCells,X,RD,SS,<-Nat.add_mul];rw[Ka (m*i.size),<-Nat.add_mul]
      congr 1
      omega
     refine h.stepR (d:=some d) (nw:=[(d,.ar false new)]) Al8 (by simp[Ch,GP]) (Yy KF GP trivial ?_ (λcells hx=>by cases hx) ?_ (by intro j f;simp[Ck,C8,A3] at f;exact .inr f))
     ·refine .inr ⟨w.heap.size,0,Az _ _ _,?_,λ_ j _ f=>?_,(λq=>by cases q)⟩
      ·exact XE (pre:=[]) KF (Aos GP) trivial M.rep Ψ M.one
      ·rw[KF.bsz] at f;exact KF.frozen f
     ·refine .inr ⟨w.heap.size,0,0,grownCap w (0+m) 0 e,Az _ _ _,by rw[Ka],.inl rfl,Ω,?_,by rw[KF.size];omega⟩
      exact⟨by rw[KF.bsz,Alk];omega,.inr (Pp w.drew _ e)⟩
   ·rw[WL] at G;cases G
   ·rw[WL] at G;cases G
 ·cases g
theorem Ak6(h:Dt N w0 X0 Y β s a w){c:Call}(ho:o.op=.call c)(hc:c.callee=.builtin .copy){b x:Operand}(G8:c.args.toList=[b,x]){t tx:TypeId}{ts:List TypeId}(SN:c.argTypes.toList=t::tx::ts){K:St->Option R}(d:Abc P N s o.dst t tx (Cw s.tm b) (Cw s.tm x) K=some r):
  ∃s',K s'=some r/\∀(next:Act->World->Prop) (Q:Exit->Act->World->Prop),(∀a' w' β',Dt N w0 X0 Y β' s' a' w'->next a' w')->o.wp P a w next Q:=by
 have ZA:c.args = #[b,x]:=by
  have:c.args=([b,x]:List Operand).toArray:=by rw[<-G8]
  exact this
 have Ahh:c.argTypes=(t::tx::ts).toArray:=by rw[<-SN]
 have run:∀{v:Value} {V:World},(Builtin.copy_ (t::tx::ts).toArray o.type #[a.eval b,a.eval x]).run P w=.ok v V->∀(next:Act->World->Prop) (Q:Exit->Act->World->Prop),next (a.put o.dst v) V->o.wp P a w next Q:=by
  intro v V z next Q S;unfold Oper.wp execOp;rw[ho];simp only[resolve,hc,invoke,builtin,Sem.run_bind,Sem.run_pure,Result.andThen_ok,ZA,Ahh];have:(#[b,x]:Array Operand).map a.eval = #[a.eval b,a.eval x]:=Ψ
  rw[this,z];exact S
 have D:=D4 h b;unfold Abc at d;split at d
 ·rename_i e q;obtain⟨I,d⟩:=Ay d;simp only[Ge] at I;obtain⟨Xj,Al8⟩:=I;obtain⟨i,hi⟩:∃i,P.info? e=some i:=Option.isSome_iff_exists.1 Xj;have Wh:Bs P e=i.size:=by unfold Bs;rw[hi];rfl
  have W:∀(m:Nat) (new:Ae),(match Cw s.tm b with
    |.view id es off n=>
     match s.hp id with
     |some (.ar false c)=>Aw (Nat.beq es (Bs P e)&&decide (off+n*es<=c.length)&&decide (new.length=m*es))
       (Aa (min m n) λk=>Aa (B1 c (new.take (k*es)) off) λc=>K ⟨Df s.tm o.dst (.sc (.int .i64 k)),Dm s.hp id (some (.ar false c))⟩)
     |_=>none
    |_=>none)=some r->new.length=m*Bs P e:=by
   intro m new d;split at d
   ·split at d
    ·obtain⟨A,_⟩:=Ay d;simp only[Ge,JI] at A;rw[<-El A.1.1];exact A.2
    ·cases d
   ·cases d
  obtain⟨_,m,new,news,d,E⟩:=XT h d W;split at d
  ·rename_i id es off n A;rw[A] at D;split at d
   ·rename_i cc T;obtain⟨A,d⟩:=Ay d;simp only[Ge,JI] at A;obtain⟨⟨CH,IV⟩,G⟩:=A;have CH:=El CH;subst CH;rw[Wh] at d E IV G D;have RD:news.length=m*i.size:=by rw[<-E.rep.len];exact G
    have hkm:min m n*i.size<=m*i.size:=Nat.mul_le_mul_right _ (Nat.min_le_left _ _);have hkn:min m n*i.size<=n*i.size:=Nat.mul_le_mul_right _ (Nat.min_le_right _ _);have Rr:K ⟨Df s.tm o.dst (.sc (.int .i64 ((min m n:Nat):Int))),Dm s.hp id (some (.ar false (B1 cc (new.take (min m n*i.size)) off)))⟩=some r:=d;refine⟨_,Rr,λnext Q S=>?_⟩
    have A28:∀{β':Bt} {Ee:Nat->Option Cd} {w':World},Dt N w0 X0 Y β' ⟨s.tm,Ee⟩ a w'->Dt N w0 X0 Y β' ⟨Df s.tm o.dst (.sc (.int .i64 ((min m n:Nat):Int))),Ee⟩ (a.put o.dst (goInt ((min m n:Nat):Int))) w':=
     λhh=>hh.put Al8 (A9.sc _) (λ_ J=>by cases J)
    have Axm:new.take (min m n*i.size)=[]->Dm s.hp id (some (.ar false (B1 cc (new.take (min m n*i.size)) off)))=s.hp:=by
     intro e;rw[e];refine MZ _ ?_;rw[T];simp[B1]
    have nothing:min m n*i.size=0->∀(ad:Option Addr) (l:Nat),a.eval b=.slice ad n l->o.wp P a w next Q:=by
     intro e ad l Xd;have z:=Aji (P:=P) (w:=w) (w1:=w) (t:=t) (ty:=o.type) (ts:=tx::ts) (ad:=ad) (n:=n) (cap:=l) q hi E (by rw[e];cases ad<;>simp[storeCells])
     rw[<-Xd] at z;refine run z next Q (S _ _ β (A28 ?_));rw[Axm (by rw[e,List.take_zero])];exact h
    rcases D with⟨H,_,rfl,ad,Xd⟩|⟨g,f,y,l,H,Xd,L,Bcc,MV,Bbk⟩
    ·exact nothing Ψ ad 0 Xd
    ·by_cases M:min m n*i.size=0
     ·exact nothing M _ _ Xd
     rcases h.box id _ T with⟨Gf,_⟩|⟨b',o',Gf,Jv,GV,_⟩
     ·rw[H] at Gf;cases Gf
     rw[H] at Gf;simp at Gf;obtain⟨rfl,rfl⟩:=Gf;have NX:n≠0:=by rintro rfl;simp at M
     have L:y=f+off:=by rcases L with L|⟨hq,_⟩<;>first|exact absurd hq NX|exact L
     subst L;have Cs:(news.take (min m n*i.size)).length=min m n*i.size:=by rw[List.length_take,RD];omega
     have Eu:∀k,k<(news.take (min m n*i.size)).length->(w.cell? ⟨g,f+off+k,none⟩).isSome=true:=by
      intro k d;obtain⟨v,O,_⟩:=Jv (off+k) _ (List.getElem?_eq_getElem Ω);rw[Gk] at O;rw[R1,O];rfl
     have X:∀k,k<(news.take (min m n*i.size)).length->w.frozen? ⟨g,f+off+k,none⟩=false:=λk d=>by
      obtain⟨u,q⟩:=Option.isSome_iff_exists.1 (Eu k d);exact GV rfl _ Ω (VM q)
     have h1:∀u∈news.take (min m n*i.size),u.oneCell'=true:=λu q=>E.one u (List.mem_of_mem_take q);have Z:=run_storeCells_cells (P:=P) g (f+off) (news.take (min m n*i.size)) 0 w (λk d=>by simpa using Eu k d) (λk d=>by simpa using X k d) h1;have z:=Aji (P:=P) (w:=w) (t:=t) (ty:=o.type) (ts:=tx::ts) (ad:=some ⟨g,f+off,none⟩) (n:=n) (cap:=l) q hi E Z;rw[<-Xd] at z;simp only[Zzr] at z;refine run z next Q (S _ _ β (A28 ?_))
     refine h.write T trivial trivial H (E2.setCells g _ _ w) ?_ (λcells J=>by cases J) (λ_ J=>by cases J) (λj C=>C) (λj C=>by
      refine World.cell?_setCells_out g _ _ w ⟨g,j,none⟩ (λ_ _=>?_);have C:¬(f<=j):=C;show j<f+off\/f+off+_<=j;omega)
     have Iy:Cy (Ec s.hp β Y) w (w.setCells g (f+off) (news.take (min m n*i.size))):=by
      have hw:=E2.setCells g (news.take (min m n*i.size)) (f+off) w;have hAb:Ec s.hp β Y g:=.inl ⟨id,f,by rw[T];trivial,H⟩
      exact⟨by rw[hw.size];exact Cg _,λk _ d=>hw.other k (λe=>d (e ▸ hAb)),λk _=>hw.grow k⟩
     have hll:(new.take (min m n*i.size)).length=min m n*i.size:=by rw[List.length_take,G];omega
     refine .inr ⟨g,f,H,λj p C=>?_,λ_ j C CR=>?_,(λx=>by cases x)⟩
     ·rw[Gk];rcases Zu Ω C with⟨Z,h4,U⟩|⟨Z,U⟩
      ·have Bab:j-off<min m n*i.size:=Ω
       rw[List.getElem?_take_of_lt Bab] at U;obtain⟨u,q,hcu⟩:=E.rep.get U;have Ayo:j-off<(news.take (min m n*i.size)).length:=Ω
       refine⟨u,?_,E.one u (List.mem_of_getElem? q),hcu.step Iy (λ_ _ x=>x)⟩;have:=World.cell?_setCells_in g (news.take (min m n*i.size)) (f+off) w Eu (j-off) Ayo;rw[show f+j=f+off+(j-off) from Ω,this];rw[<-List.getElem?_eq_getElem Ayo,List.getElem?_take_of_lt Bab];exact q
      ·obtain⟨v,O,h6,SA⟩:=Jv j p U;rw[Gk] at O;refine⟨v,?_,h6,SA.step Iy (λ_ _ x=>x)⟩;rw[World.cell?_setCells_out g _ _ w ⟨g,f+j,none⟩ (λ_ _=>by show f+j<f+off\/f+off+_<=f+j;omega)]
       exact O
     ·rw[(E2.setCells g _ _ w).bs] at CR;rw[(E2.setCells g _ _ w).frz];exact GV rfl j C CR
   ·cases d
  ·cases d
 ·cases d
theorem Ale(h:Dt N w0 X0 Y β s a w){G:KB}(Qd:Env P G w0 X0){C:J7}{F:Ao}(v:∀f args l,F f args=some l->Ej G P f args l){K:St->Option R}(e:Ad3 C P N F s o K=some r):
  ∃s',K s'=some r/\∀(next:Act->World->Prop) (Q:Exit->Act->World->Prop),(∀q w' β',Dt N w0 X0 Y β' s' q w'->next q w')->o.wp P a w next Q:=by
 unfold Ad3 at e;split at e
 ·rename_i t x y m;obtain⟨hd,e⟩:=Ay e;exact Ajn h m (by simpa using hd) e
 ·rename_i c m;split at e
  ·rename_i n;obtain⟨d,hd,Ft⟩:=C6 e;obtain⟨b,B,ZN,p⟩:=Bx Ft;obtain⟨x,z,i,Rp⟩:=Bx p;obtain⟨OO,FM⟩:=Ey Rp;obtain⟨t,us,g,j⟩:=Bx FM;obtain⟨A,D,CJ,k⟩:=Bx j;rw[i,OO] at ZN;rw[CJ] at g;exact Afw h m n hd ZN g k
  ·rename_i n;obtain⟨b,B,ZN,p⟩:=Bx e;obtain⟨x,z,i,Rp⟩:=Bx p;obtain⟨OO,FM⟩:=Ey Rp;obtain⟨t,us,g,j⟩:=Bx FM;obtain⟨A,D,CJ,k⟩:=Bx j;rw[i,OO] at ZN;rw[CJ] at g;exact Ak6 h m n ZN g k
  ·rename_i f n;exact Akm h Qd v m n e
  ·cases e
 ·cases e
theorem Alr(h:Dt N w0 X0 Y β s a w){G:KB}(Qd:Env P G w0 X0){C:J7}{F:Ao}(d:∀f args b,F f args=some b->Ej G P f args b){K:St->Option R}(c:Aiq C P N F o s K=some r):
  ∃s',K s'=some r/\∀(next:Act->World->Prop) (Q:Exit->Act->World->Prop),(∀e w' β',Dt N w0 X0 Y β' s' e w'->next e w')->o.wp P a w next Q:=by
 unfold Aiq at c;cases g:BP C P o.op
 ·rw[g] at c;exact Al6 h Qd d c
 ·rw[g] at c;exact Ale h Qd d c
end
end
end
end Go.Proofs.YthlonbjmnomlcaaGreatDoor.Pv
