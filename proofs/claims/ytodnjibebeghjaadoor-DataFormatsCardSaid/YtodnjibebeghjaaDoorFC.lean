/-
  The proof of DataFormats, part 3.
-/
import Derived.Test.YtodnjibebeghjaaDoorFB
import Derived.StillTail
import Derived.WalkKit
import Derived.ProofKit
import Derived.OpenShut
import Derived.ShutString
import Derived.ChangeOld
import Derived.Below
import Derived.Deep.Slices
import Derived.ChangeSame
import Derived.WideKeyArgs
import Derived.Carry
import Derived.Test.YtodnjibebeghjaaDoorRows
set_option linter.unusedSimpArgs false
set_option linter.unusedVariables false
namespace Go.Proofs.YtodnjibebeghjaaDoor.Pv
section
section
variable {R R':Type} {Rel:Option R->Option R'->Prop}
theorem Hm (hn:Rel none none){k:IntKind}{p:PV}{K:Int->Option R}{K':Int->Option R'}(hK:∀n,Rel (K n) (K' n)):Rel (Ak k p K) (Ak k p K'):=by
 unfold Ak;split
 ·split<;>first|exact hK _|exact hn
 ·exact hn
theorem Dw (hn:Rel none none){p:PV}{K:IntKind->Int->Option R}{K':IntKind->Int->Option R'}(hK:∀k n,Rel (K k n) (K' k n)):Rel (Dn p K) (Dn p K'):=by
 unfold Dn;split<;>first|exact hK _ _|exact hn
theorem Gd (hn:Rel none none){p:PV}{K:Bool->Option R}{K':Bool->Option R'}(hK:∀n,Rel (K n) (K' n)):Rel (Ao p K) (Ao p K'):=by
 unfold Ao;split<;>first|exact hK _|exact hn
theorem Fb (hn:Rel none none){p:PV}{K:ByteArray->Option R}{K':ByteArray->Option R'}(hK:∀n,Rel (K n) (K' n)):Rel (A0 p K) (A0 p K'):=by
 unfold A0;split<;>first|exact hK _|exact hn
theorem E7 (hn:Rel none none){es:Nat}{p:PV}{K:Bool->Nat->List PV->Option R}{K':Bool->Nat->List PV->Option R'}(hK:∀z n c,Rel (K z n c) (K' z n c)):Rel (Nb es p K) (Nb es p K'):=by
 unfold Nb;split
 ·rename_i es' _ _;cases Nat.beq es' es
  ·exact hn
  ·exact hK _ _ _
 ·exact hK _ _ _
 ·exact hn
theorem Aks (hn:Rel none none){es:Nat}{p:PV}{K:PV->Option R}{K':PV->Option R'}(hK:∀p,Rel (K p) (K' p)):Rel (fsK es p K) (fsK es p K'):=by
 unfold fsK;split
 ·rename_i es' _ _;cases Nat.beq es' es
  ·exact hn
  ·exact hK _
 ·exact E7 hn fun _ _ _=>hK _
theorem XX (hn:Rel none none){es:Nat}{p:PV}{K:Nat->List PV->Option R}{K':Nat->List PV->Option R'}(hK:∀n c,Rel (K n c) (K' n c)):Rel (GH es p K) (GH es p K'):=by
 unfold GH;split
 ·rename_i es' _ _;cases Nat.beq es' es
  ·exact hn
  ·exact hK _ _
 ·exact hn
theorem Ay (hn:Rel none none){b:Bool}{K:Option R}{K':Option R'}(hK:b=true->Rel K K'):Rel (A9 b K) (A9 b K'):=by
 cases b
 ·exact hn
 ·exact hK rfl
theorem AY {b:Bool}{x y:Option R}{x' y':Option R'}(hx:Rel x x')(hy:Rel y y'):Rel (Ba b x y) (Ba b x' y'):=by
 cases b
 ·exact hy
 ·exact hx
theorem C9 (hn:Rel none none){α:Type}{o:Option α}{K:α->Option R}{K':α->Option R'}(hK:∀a,o=some a->Rel (K a) (K' a)):Rel (Cy o K) (Cy o K'):=by
 cases o
 ·exact hn
 ·exact hK _ rfl
theorem Bh (hn:Rel none none){α:Type}{l:List α}{K:α->List α->Option R}{K':α->List α->Option R'}(hK:∀a r,l=a::r->Rel (K a r) (K' a r)):Rel (Ab l K) (Ab l K'):=by
 cases l
 ·exact hn
 ·exact hK _ _ rfl
theorem Eu (hn:Rel none none){α:Type}{l:List α}{K:Option R}{K':Option R'}(hK:Rel K K'):Rel (Ad l K) (Ad l K'):=by
 cases l
 ·exact hK
 ·exact hn
theorem Il (hn:Rel none none){p:PV}{K:List PV->Option R}{K':List PV->Option R'}(hK:∀c,p=.agg c->Rel (K c) (K' c)):Rel (Fw p K) (Fw p K'):=by
 unfold Fw;split
 ·exact hK _ rfl
 ·exact hn
theorem YL (hn:Rel none none){p:PV}{K:List PV->Option R}{K':List PV->Option R'}(hK:∀c,Rel (K c) (K' c)):Rel (Tn p K) (Tn p K'):=by
 unfold Tn;split
 ·exact hK _
 ·exact hn
theorem KH (hn:Rel none none){r:Option Aq}{K:List PV->List (List PV)->Option R} {K':List PV->List (List PV)->Option R'} (hK:∀v o,Rel (K v o) (K' v o)):Rel (Ai r K) (Ai r K'):=by
 unfold Ai;split
 ·exact hK _ _
 ·exact hn
theorem XQ (hn:Rel none none){p:PV}{K:Value->Option R}{K':Value->Option R'}(hK:∀v,Rel (K v) (K' v)):Rel (ZP p K) (ZP p K'):=by
 unfold ZP;split
 ·exact hK _
 ·exact hK _
 ·exact hn
theorem Ak3 (hn:Rel none none){p:PV}{K:FuncId->Option R}{K':FuncId->Option R'}(hK:∀v,Rel (K v) (K' v)):Rel (fvK p K) (fvK p K'):=by
 unfold fvK;split
 ·rename_i f a b;cases (a.isEmpty&&b.isEmpty)
  ·exact hn
  ·exact hK _
 ·exact hn
theorem Nl (hn:Rel none none){t:CT}{p:PV}{K:PV->Option R}{K':PV->Option R'}(hK:∀p,Rel (K p) (K' p)):Rel (X7 t p K) (X7 t p K'):=by
 unfold X7;split
 ·exact Hm hn fun _=>hK _
 ·exact Gd hn fun _=>hK _
 ·exact Fb hn fun _=>hK _
 ·exact E7 hn fun _ _ _=>hK _
 ·exact XQ hn fun _=>hK _
theorem Ake (hn:Rel none none){t:CT}{p:PV}{K:PV->Option R}{K':PV->Option R'}(hK:∀p,Rel (K p) (K' p)):Rel (fcK t p K) (fcK t p K'):=by
 unfold fcK;split
 ·exact Aks hn hK
 ·exact Nl hn hK
theorem Ot (hn:Rel none none):∀{ts:List CT}{cells:List PV}{off:Nat}{K:List PV->Option R}{K':List PV->Option R'},(∀c,Rel (K c) (K' c))->Rel (Qv ts cells off K) (Qv ts cells off K')
 |[],_,_,_,_,hK=>hK _
 |_::_,_,_,_,_,hK=>Nl hn fun _=>Ot hn fun _=>hK _
theorem Mp (hn:Rel none none):∀{ts:List CT}{cells:List PV}{off:Nat}{K:List PV->Option R}{K':List PV->Option R'},(∀c,Rel (K c) (K' c))->Rel (Na ts cells off K) (Na ts cells off K')
 |[],_,_,_,_,hK=>hK _
 |_::_,_,_,_,_,hK=>Ake hn fun _=>Mp hn fun _=>hK _
theorem U5 (hn:Rel none none){g:Bool}{cells:List PV}{K:PV->Option R}{K':PV->Option R'}(hK:∀p,Rel (K p) (K' p)):Rel (XZ g cells K) (XZ g cells K'):=by
 cases g
 ·exact Bh hn fun _ _ _=>Eu hn (hK _)
 ·exact hK _
theorem XE (hn:Rel none none){P:Program}{t:TypeId}{v:Value}{K:PV->Option R}{K':PV->Option R'}(hK:∀p,Bs p=[]->Rel (K p) (K' p)) (hK':∀c,Rel (K (.agg c)) (K' (.agg c))):Rel (cvK P t v K) (cvK P t v K'):=by
 unfold cvK;split
 ·exact Ay hn fun _=>Ot hn fun _=>hK' _
 ·split
  ·exact hK _ rfl
  ·exact hn
 ·exact hK _ rfl
theorem Ahq (hn:Rel none none){op:BinOp}{x y:Int}{K:Bool->Option R}{K':Bool->Option R'}(hK:∀n,Rel (K n) (K' n)):Rel (Akq op x y K) (Akq op x y K'):=by
 unfold Akq;split<;>first|exact hK _|exact hn
theorem TS (hn:Rel none none){op:BinOp}{k:IntKind}{x y:Int}{K:PV->Option R}{K':PV->Option R'}(hK:∀n,Rel (K n) (K' n)):Rel (DS op k x y K) (DS op k x y K'):=by
 unfold DS;split<;>first|exact hK _|exact Ay hn fun _=>hK _|exact Ahq hn fun _=>hK _
theorem UN (hn:Rel none none){op:BinOp}{x y:ByteArray}{K:PV->Option R}{K':PV->Option R'}(hK:∀n,Rel (K n) (K' n)):Rel (CM op x y K) (CM op x y K'):=by
 unfold CM;split<;>first|exact hK _|exact Ay hn fun _=>hK _|exact hn
theorem JI (hn:Rel none none){e:Bool}{p:PV}{K:PV->Option R}{K':PV->Option R'}(hK:∀n,Rel (K n) (K' n)):Rel (DJ e p K) (DJ e p K'):=by
 unfold DJ;split<;>first|exact hK _|exact AY (hK _) (AY (hK _) (hK _))|exact AY (hK _) (hK _)|exact hn
theorem RA (hn:Rel none none):∀{ts:List CT}{ps qs:List PV}{K:Bool->Option R}{K':Bool->Option R'},(∀b,Rel (K b) (K' b))->Rel (Kr ts ps qs K) (Kr ts ps qs K'):=by
 intro ts
 induction ts with
 |nil=>
  intro ps qs K K' hK;cases ps<;>cases qs<;>first|exact hK _|exact hn
 |cons t ts ih=>
  intro ps qs K K' hK;cases ps with
  |nil=>cases t<;>cases qs<;>exact hn
  |cons p ps=>
   cases qs with
   |nil=>cases t<;>exact hn
   |cons q qs=>
    cases t
    ·exact Hm hn fun _=>Hm hn fun _=>ih fun _=>hK _
    ·exact Gd hn fun _=>Gd hn fun _=>ih fun _=>hK _
    ·exact Fb hn fun _=>Fb hn fun _=>ih fun _=>hK _
    ·exact hn
    ·exact hn
theorem Aed (hn:Rel none none){P:Program}{op:BinOp}{t:TypeId}{x y:PV}{K:PV->Option R}{K':PV->Option R'}(hK:∀p,Rel (K p) (K' p)):Rel (Ac5 P op t x y K) (Ac5 P op t x y K'):=by
 unfold Ac5;split
 ·split
  ·exact Hm hn fun _=>Dw hn fun _ _=>Ay hn fun _=>hK _
  ·exact Hm hn fun _=>Dw hn fun _ _=>Ay hn fun _=>hK _
  ·exact Hm hn fun _=>Hm hn fun _=>TS hn hK
 ·exact Fb hn fun _=>Fb hn fun _=>UN hn hK
 ·split
  ·exact Gd hn fun _=>Gd hn fun _=>hK _
  ·exact Gd hn fun _=>Gd hn fun _=>hK _
  ·exact hn
 ·split
  ·exact JI hn fun _=>hK _
  ·exact JI hn fun _=>hK _
  ·exact hn
 ·split
  ·exact hK _
  ·exact hK _
  ·exact hn
 ·exact hn
theorem QF (hn:Rel none none){P:Program}{op:BinOp}{t:TypeId}{x y:PV}{K:PV->Option R}{K':PV->Option R'}(hK:∀p,Rel (K p) (K' p)):Rel (Sk P op t x y K) (Sk P op t x y K'):=by
 unfold Sk;split
 ·split
  ·exact Ay hn fun _=>Il hn fun _ _=>Il hn fun _ _=>RA hn fun _=>hK _
  ·exact Ay hn fun _=>Il hn fun _ _=>Il hn fun _ _=>RA hn fun _=>hK _
  ·exact hn
 ·exact Aed hn hK
theorem Ale (hn:Rel none none){op:UnOp}{x:PV}{K:PV->Option R}{K':PV->Option R'}(hK:∀p,Rel (K p) (K' p)):Rel (unK op x K) (unK op x K'):=by
 unfold unK;split<;>first|exact Gd hn fun _=>hK _|exact Dw hn fun _ _=>hK _|exact hn
theorem Dr (hn:Rel none none){p:Option PV}{d:Nat}{K:Nat->Option R}{K':Nat->Option R'}(hK:∀n,Rel (K n) (K' n)):Rel (Gg p d K) (Gg p d K'):=by
 unfold Gg;split
 ·exact hK _
 ·exact Dw hn fun _ _=>Ay hn fun _=>hK _
theorem Xa (hn:Rel none none){x:PV}{d:Nat}{K:PV->Option R}{K':PV->Option R'}(hK:∀n,Rel (K n) (K' n)):Rel (Rb x d K) (Rb x d K'):=by
 unfold Rb;split<;>first|exact hK _|exact hn
theorem EV (hn:Rel none none){P:Program}{t:TypeId}{x:PV}{i:Int}{K:PV->Option R}{K':PV->Option R'}(hK:∀p,Rel (K p) (K' p)):Rel (Jq P t x i K) (Jq P t x i K'):=by
 unfold Jq;split
 ·exact Ay hn fun _=>Ay hn fun _=>Xa hn hK
 ·refine Ay hn fun _=>?_
  split
  ·exact Ay hn fun _=>Ay hn fun _=>hK _
  ·exact E7 hn fun _ _ _=>Ay hn fun _=>hK _
 ·exact hn
theorem X9 (hn:Rel none none){Gm:Nat->Option (Nat × Nat)}:∀{ps:List (Nat × PV)} {cells:List PV}{K:List PV->Option R}{K':List PV->Option R'},(∀c,Rel (K c) (K' c))->Rel (Rx Gm ps cells K) (Rx Gm ps cells K')
 |[],_,_,_,hK=>hK _
 |(_,_)::_,_,_,_,hK=>C9 hn fun _ _=>Ay hn fun _=>X9 hn hK
theorem Ru (hn:Rel none none){P:Program}{t:TypeId}{K:List PV->Option R}{K':List PV->Option R'}(hK:∀p,Rel (K p) (K' p)):Rel (Gk P t K) (Gk P t K'):=
 C9 hn fun _ _=>Ay hn fun _=>Ot hn hK
theorem Ahe (hn:Rel none none){x y:PV}{K:PV->Option R}{K':PV->Option R'}(hK:∀p,Rel (K p) (K' p)):Rel (Alc x y K) (Alc x y K'):=
 Dw hn fun _ _=>Hm hn fun _=>hK _
theorem Aev (hn:Rel none none){x y:PV}{K:PV->Option R}{K':PV->Option R'}(hK:∀p,Rel (K p) (K' p)):Rel (Aiv x y K) (Aiv x y K'):=
 Dw hn fun _ _=>Hm hn fun _=>hK _
theorem Age (hn:Rel none none){P:Program}{t:TypeId}{x:PV}{K:Nat->Option R}{K':Nat->Option R'}(hK:∀p,Rel (K p) (K' p)):Rel (YM P t x K) (YM P t x K'):=by
 unfold YM;split
 ·exact Fb hn fun _=>hK _
 ·exact hK _
 ·split
  ·exact Ay hn fun _=>hK _
  ·exact E7 hn fun _ _ _=>hK _
 ·exact hn
def NI (Rel:Option R->Option R'->Prop)(f f':Nat->Option (List PV)) (l:List Nat):Prop:=∀i∈l,f i=f' i∨(f i=none∧∀b,Rel none b)
variable {f f':Nat->Option (List PV)}
theorem NI.sub {l l':List Nat}(h:NI Rel f f' l)(hs:∀i∈l',i∈l):NI Rel f f' l':=fun i hi=>h i (hs i hi)
theorem Wg (hn:Rel none none){l:List Nat}{id:Nat}(hf:NI Rel f f' l)(hi:id∈l){K:List PV->Option R}{K':List PV->Option R'}(hK:∀c,f id=some c->Rel (K c) (K' c)):Rel (Cy (f id) K) (Cy (f' id) K'):=by
 rcases hf id hi with h|⟨h,hb⟩
 ·rw[←h];exact C9 hn hK
 ·rw[h];exact hb _
theorem Oz (hn:Rel none none){es:Nat}{p:PV}{K:Nat->List PV->Option R}{K':Nat->List PV->Option R'}(hf:NI Rel f f' (Ap p)) (hK:∀n c,Rel (K n c) (K' n c)):Rel (RU f es p K) (RU f' es p K'):=by
 unfold RU;split
 ·rename_i id es' off n;cases Nat.beq es' es
  ·exact hn
  ·exact Wg hn hf (by simp[Ap]) fun _ _=>Ay hn fun _=>hK _ _
 ·exact E7 hn fun _ _ _=>hK _ _
theorem Ah6 (hn:Rel none none){t:CT}{p:PV}{K:PV->List Nat->Option R}{K':PV->List Nat->Option R'}(hf:NI Rel f f' (Ap p)) (hK:∀c m,(∀i∈m,f i≠none)->Rel (K c m) (K' c m)):Rel (M8 f t p K) (M8 f' t p K'):=by
 unfold M8;split
 ·split
  ·rename_i id es' off n;cases Nat.beq es' _
   ·exact hn
   ·exact Wg hn hf (by simp[Ap]) fun c hc=>Ay hn fun _=>hK _ _ (by simp[hc])
  ·exact E7 hn fun _ _ _=>hK _ _ (by simp)
 ·exact Nl hn fun _=>hK _ _ (by simp)
theorem Sd (hn:Rel none none):∀{ts:List CT}{ps:List PV}{K:List PV->List Nat->Option R}{K':List PV->List Nat->Option R'},NI Rel f f' (ps.flatMap Ap)->(∀c m,(∀i∈m,f i≠none)->Rel (K c m) (K' c m))->Rel (Mz f ts ps K) (Mz f' ts ps K')
 |[],[],_,_,_,hK=>hK _ _ (by simp)
 |[],_::_,_,_,_,_=>hn
 |_::_,[],_,_,_,_=>hn
 |_::_,p::ps,_,_,hf,hK=>Ah6 hn (fun i hi=>hf i (by simp only[List.flatMap_cons,List.mem_append];exact .inl hi)) fun _ m hm=>Sd hn (fun i hi=>hf i (by simp only[List.flatMap_cons,List.mem_append];exact .inr hi)) fun _ ms BO=>hK _ _ fun i hi=>by
   rcases List.mem_append.1 hi with h|h
   ·exact hm i h
   ·exact BO i h
theorem Ah4 (hn:Rel none none){P:Program}{t:TypeId}{p:PV}{K:PV->List Nat->Option R}{K':PV->List Nat->Option R'}(hf:NI Rel f f' (Ca p)) (hK:∀c m,(∀i∈m,f i≠none)->Rel (K c m) (K' c m)):Rel (UP P f t p K) (UP P f' t p K'):=by
 unfold UP
 have h1:∀i,i∈[p].flatMap Ap->i∈Ca p:=by
  intro i hi;simp only[List.flatMap_cons,List.flatMap_nil,List.append_nil] at hi;cases p<;>first|exact hi|simp[Ap] at hi
 cases B2 P t
 ·exact Sd hn (fun i hi=>hf i (h1 i hi)) fun _ _ hm=>Bh hn fun _ _ _=>Eu hn (hK _ _ hm)
 ·refine Il hn fun c hc=>?_
  subst hc;exact Sd hn (fun i hi=>hf i hi) fun _ _ hm=>hK _ _ hm
theorem KM (hn:Rel none none){P:Program}:∀{ts:List TypeId}{ps:List PV}{K:List PV->List Nat->Option R}{K':List PV->List Nat->Option R'},NI Rel f f' (ps.flatMap Ca)->(∀c m,(∀i∈m,f i≠none)->Rel (K c m) (K' c m))->Rel (EN P f ts ps K) (EN P f' ts ps K')
 |[],[],_,_,_,hK=>hK _ _ (by simp)
 |[],_::_,_,_,_,_=>hn
 |_::_,[],_,_,_,_=>hn
 |_::_,p::ps,_,_,hf,hK=>Ah4 hn (fun i hi=>hf i (by simp only[List.flatMap_cons,List.mem_append];exact .inl hi)) fun _ m hm=>KM hn (fun i hi=>hf i (by simp only[List.flatMap_cons,List.mem_append];exact .inr hi)) fun _ ms BO=>hK _ _ fun i hi=>by
   rcases List.mem_append.1 hi with h|h
   ·exact hm i h
   ·exact BO i h
theorem VP (hn:Rel none none){P:Program}{t:TypeId}{x:PV}{lo hi:Option PV}{K:PV->Option R}{K':PV->Option R'}(hf:(∃n e,P.underlying t=some (.array n e))->NI Rel f f' (Ap x)) (hK:∀c,Rel (K c) (K' c)):Rel (Xm P f t x lo hi K) (Xm P f' t x lo hi K'):=by
 unfold Xm;split
 ·exact Fb hn fun _=>Dr hn fun _=>Dr hn fun _=>Ay hn fun _=>hK _
 ·refine Ay hn fun _=>?_
  split
  ·exact Ay hn fun _=>Dr hn fun _=>Dr hn fun _=>Ay hn fun _=>hK _
  ·exact E7 hn fun _ _ _=>Dr hn fun _=>Dr hn fun _=>Ay hn fun _=>hK _
 ·rename_i n e hu;refine Ay hn fun _=>?_
  split
  ·rename_i id off;exact Wg hn (hf ⟨_,_,hu⟩) (by simp[Ap]) fun _ _=>Ay hn fun _=>Dr hn fun _=>Dr hn fun _=>Ay hn fun _=>hK _
  ·exact hn
 ·exact hn
theorem QY (hn:Rel none none){P:Program}{d:Nat}{t:TypeId}{x:PV}{lo hi mx:Option PV}{K:PV->List (Nat × Bo)->Option R} {K':PV->List (Nat × Bo)->Option R'} (hK:∀c,Rel (K c [(d,.ar false [])]) (K' c [(d,.ar false [])])):Rel (Sg P d t x lo hi mx K) (Sg P d t x lo hi mx K'):=by
 unfold Sg;split
 ·refine Ay hn fun _=>?_
  split
  ·exact Ay hn fun _=>Dr hn fun _=>Dr hn fun _=>Dr hn fun _=>Ay hn fun _=>hK _
  ·exact E7 hn fun _ _ _=>Dr hn fun _=>Dr hn fun _=>Dr hn fun _=>Ay hn fun _=>hK _
 ·exact hn
theorem IL {nz:Bool}{g g':Nat->Option (List PV)} (hn:Rel none none){P:Program}{t:TypeId}{x:PV}{K:PV->Option R}{K':PV->Option R'}(hf:∀i∈Ap x,(f i=f' i∧g i=g' i)∨(f i=none∧g i=none∧∀b,Rel none b)) (hK:∀c,Rel (K c) (K' c)):Rel (Vz nz P f g t x K) (Vz nz P f' g' t x K'):=by
 unfold Vz;split
 ·rename_i id off;refine Ay hn fun _=>?_
  rcases hf id (by simp[Ap]) with⟨h1,h2⟩|⟨h1,h2,h3⟩
  ·rw[←h1,←h2];split
   ·exact Ot hn fun _=>U5 hn fun _=>hK _
   ·exact C9 hn fun _ _=>Mp hn fun _=>U5 hn hK
  ·rw[h1,h2];exact h3 _
 ·exact Ay hn fun _=>Ot hn fun _=>U5 hn fun _=>hK _
 ·exact hn
theorem YN (hn:Rel none none){P:Program}{d:Nat}{src dst:TypeId}{x:PV}{K:PV->List (Nat × Bo)->Option R} {K':PV->List (Nat × Bo)->Option R'} (hf:P.underlying dst=some .string->NI Rel f f' (Ap x)) (hK:∀v b,(∀q∈b,q.1=d)->Rel (K v b) (K' v b)):Rel (DQ P f d src dst x K) (DQ P f' d src dst x K'):=by
 unfold DQ;split
 ·exact Ay hn fun _=>Dw hn fun _ _=>hK _ _ (by simp)
 ·rename_i hds;split
  ·exact Fb hn fun _=>hK _ _ (by simp)
  ·split
   ·exact Oz hn (hf hds) fun _ _=>Ay hn fun _=>C9 hn fun _ _=>hK _ _ (by simp)
   ·exact Oz hn (hf hds) fun _ _=>Ay hn fun _=>C9 hn fun _ _=>hK _ _ (by simp)
   ·exact hn
  ·exact hn
 ·split
  ·exact Fb hn fun _=>Ay hn fun _=>hK _ _ (by simp)
  ·exact hn
 ·exact hn
theorem Acw (hn:Rel none none){shr:Bool}{id:Nat}{t:CT}{p:PV}{K:PV->List (Nat × Bo)->Option R} {K':PV->List (Nat × Bo)->Option R'} (hK:∀c b,(∀q∈b,q.1=id)->Rel (K c b) (K' c b)):Rel (Aej shr id t p K) (Aej shr id t p K'):=by
 unfold Aej;split
 ·cases shr
  ·exact XX hn fun _ _=>hK _ _ (by simp)
  ·exact E7 hn fun _ _ _=>hK _ _ (by simp)
 ·exact Nl hn fun _=>hK _ _ (by simp)
theorem Sw (hn:Rel none none){shr:Bool}{N:Nat}:∀{ts:List CT}{id:Nat}{ps:List PV}{K:List PV->List (Nat × Bo)->Option R} {K':List PV->List (Nat × Bo)->Option R'},(∀c b,(∀q∈b,∃j,q.1=id+N*j)->Rel (K c b) (K' c b))->Rel (O5 shr N id ts ps K) (O5 shr N id ts ps K')
 |[],_,_,_,_,hK=>Eu hn (hK _ _ (by simp))
 |_::_,id,_,_,_,hK=>Bh hn fun _ _ _=>Acw hn fun _ b hb=>Sw hn fun _ bs GI=>hK _ _ fun q hq=>by
   rcases List.mem_append.1 hq with h|h
   ·exact⟨0,by rw[hb q h];simp⟩
   ·obtain⟨j,hj⟩:=GI q h;exact⟨j+1,by rw[hj,Nat.mul_add];omega⟩
theorem Aea (hn:Rel none none){P:Program}{shr:Bool}{N id:Nat}{t:TypeId}{p:PV}{K:PV->List (Nat × Bo)->Option R} {K':PV->List (Nat × Bo)->Option R'} (hK:∀c b,(∀q∈b,∃j,q.1=id+N*j)->Rel (K c b) (K' c b)):Rel (YY P shr N id t p K) (YY P shr N id t p K'):=by
 unfold YY;split
 ·refine YL hn fun ps=>Sw hn fun _ _ hb=>hK _ _ fun q hq=>?_
  rcases List.mem_cons.1 hq with rfl|hq
  ·exact⟨0,by simp⟩
  ·obtain⟨j,hj⟩:=hb q hq;exact⟨j+1,by rw[hj,Nat.mul_add];omega⟩
 cases B2 P t
 ·exact Sw hn fun _ _ hb=>Bh hn fun _ _ _=>Eu hn (hK _ _ hb)
 ·exact Il hn fun _ _=>Sw hn fun _ _ hb=>hK _ _ hb
theorem Xe (hn:Rel none none){P:Program}{shr:Bool}{N:Nat}:∀{ts:List TypeId}{id:Nat}{ps:List PV}{K:List PV->List (Nat × Bo)->Option R} {K':List PV->List (Nat × Bo)->Option R'},(∀c b,(∀q∈b,∃j,q.1=id+N*j)->Rel (K c b) (K' c b))->Rel (Y4 P shr N id ts ps K) (Y4 P shr N id ts ps K')
 |[],_,_,_,_,hK=>Eu hn (hK _ _ (by simp))
 |t::_,id,_,_,_,hK=>Bh hn fun _ _ _=>Aea hn fun _ b hb=>Xe hn fun _ bs GI=>hK _ _ fun q hq=>by
   rcases List.mem_append.1 hq with h|h
   ·exact hb q h
   ·obtain⟨j,hj⟩:=GI q h;exact⟨OU P t+j,by rw[hj,Nat.mul_add];omega⟩
end
theorem Ri {p:PV}{i:Nat}(h:i∈Ap p):i∈Ca p:=by cases p<;>first|exact h|simp[Ap] at h
theorem Fd {p:PV}{i:Nat}(h:i∈Ca p):i∈Bs p:=by cases p<;>first|exact h|simp[Ca,Ap] at h
theorem Ji {p:PV}{i:Nat}(h:i∈Ap p):i∈Bs p:=Fd (Ri h)
section
variable {R R':Type} {Rel:Option R->Option R'->Prop} {P:Program} {N:Nat} {tm tm':Nat->PV} {f f' g g':Nat->Option (List PV)} {o:Oper}
theorem EE (hn:Rel none none){t:TypeId}{x:Operand}{K:PV->Option R}{K':PV->Option R'}(hx:Bz tm x=Bz tm' x)(hK:∀p,Rel (K p) (K' p)):Rel (Xr P t tm x K) (Xr P t tm' x K'):=by
 unfold Xr;split
 ·exact XE hn (fun _ _=>hK _) (fun _=>hK _)
 ·rw[hx];exact hK _
theorem Agl (hn:Rel none none){t:CT}{p:PV}{K:PV->Option R}{K':PV->Option R'}(hK:∀p,Ap p=[]->Rel (K p) (K' p)):Rel (X7 t p K) (X7 t p K'):=by
 unfold X7;split
 ·exact Hm hn fun _=>hK _ rfl
 ·exact Gd hn fun _=>hK _ rfl
 ·exact Fb hn fun _=>hK _ rfl
 ·exact E7 hn fun _ _ _=>hK _ rfl
 ·exact XQ hn fun _=>hK _ rfl
theorem IZ (hn:Rel none none):∀{ts:List CT}{cells:List PV}{off:Nat}{K:List PV->Option R}{K':List PV->Option R'},(∀c,(∀p∈c,Ap p=[])->Rel (K c) (K' c))->Rel (Qv ts cells off K) (Qv ts cells off K')
 |[],_,_,_,_,hK=>hK _ (by simp)
 |_::_,_,_,_,_,hK=>Agl hn fun c hc=>IZ hn fun cs AO=>hK _ (by
   intro p hp;rcases List.mem_cons.1 hp with h|h
   ·rw[h];exact hc
   ·exact AO p h)
theorem Ve (hn:Rel none none){t:TypeId}{K:List PV->Option R}{K':List PV->Option R'}(hK:∀c,(∀p∈c,Ap p=[])->Rel (K c) (K' c)):Rel (Gk P t K) (Gk P t K'):=
 C9 hn fun _ _=>Ay hn fun _=>IZ hn hK
theorem R1 {p c:PV}(h:c∈cellsOf p){i:Nat}(hi:i∈Ap c):i∈Ca p:=by
 unfold cellsOf at h;split at h
 ·exact List.mem_flatMap.2 ⟨c,h,hi⟩
 ·simp at h;subst h;exact Ri hi
theorem VD {cells new:List PV}{off:Nat}{c:PV}(h:c∈Ce cells new off):c∈cells∨c∈new:=by
 unfold Ce at h;rcases List.mem_append.1 h with h|h
 ·rcases List.mem_append.1 h with h|h
  ·exact .inl (List.mem_of_mem_take h)
  ·exact .inr h
 ·exact .inl (List.mem_of_mem_drop h)
theorem CL (hn:Rel none none){Gm:Nat->Option (Nat × Nat)} {S:Nat->Prop}:∀{ps:List (Nat × PV)} {cells:List PV}{K:List PV->Option R}{K':List PV->Option R'},(∀c∈cells,∀i∈Ap c,S i)->(∀q∈ps,∀i∈Ca q.2,S i) ->
  (∀cs,(∀c∈cs,∀i∈Ap c,S i)->Rel (K cs) (K' cs))->Rel (Rx Gm ps cells K) (Rx Gm ps cells K')
 |[],_,_,_,h1,_,hK=>hK _ h1
 |(_,p)::_,_,_,_,h1,h2,hK=>C9 hn fun _ _=>Ay hn fun _=>CL hn (fun c hc i hi=>by
   rcases VD hc with h|h
   ·exact h1 c h i hi
   ·exact h2 (_,p) List.mem_cons_self i (R1 h hi)) (fun q hq=>h2 q (List.mem_cons_of_mem _ hq)) hK
theorem Y7 (hn:Rel none none):∀{ts:List CT}{ps:List PV}{K:List PV->List Nat->Option R}{K':List PV->List Nat->Option R'},(∀t∈ts,∀es,t ≠ .sl es)->(∀c,Rel (K c []) (K' c []))->Rel (Mz g ts ps K) (Mz g' ts ps K')
 |[],[],_,_,_,hK=>hK _
 |[],_::_,_,_,_,_=>hn
 |_::_,[],_,_,_,_=>hn
 |t::ts,p::ps,K,K',ht,hK=>by
  show Rel (M8 g t p _) (M8 g' t p _)
  have:∀{g:Nat->Option (List PV)} {S:Type} {L:PV->List Nat->Option S},M8 g t p L=X7 t p fun c=>L c []:=by
   intro g S L;cases t with
   |sl es=>exact absurd rfl (ht _ (by simp) es)
   |_=>rfl
  rw[this,this];exact Nl hn fun c=>Y7 hn (fun t h=>ht t (by simp[h])) fun cs=>hK _
theorem Af4 (hn:Rel none none){es:Nat}{t:TypeId}{x:PV}{K:Nat->List PV->Option R}{K':Nat->List PV->Option R'}(hx:NI Rel g g' (Ap x)) (hK:∀m c,Rel (K m c) (K' m c)):Rel (SQ P g es t x K) (SQ P g' es t x K'):=by
 unfold SQ;split
 ·exact Ay hn fun _=>Fb hn fun _=>hK _ _
 ·exact Oz hn hx hK
 ·exact hn
theorem Agy (hn:Rel none none){t:TypeId}{x:PV}{K:Nat->Option R}{K':Nat->Option R'}(hK:∀n,Rel (K n) (K' n)):Rel (Aag P t x K) (Aag P t x K'):=by
 unfold Aag;split
 ·exact E7 hn fun _ _ _=>Ay hn fun _=>hK _
 ·exact hn
theorem PU (hn:Rel none none){d:Nat}{t tx:TypeId}{x:PV}{K:PV->List (Nat × Bo)->Option R} {K':PV->List (Nat × Bo)->Option R'} (hx:NI Rel g g' (Ap x)) (hK:∀v nw,Rel (K v nw) (K' v nw)):Rel (Sm P g d t tx x K) (Sm P g' d t tx x K'):=by
 unfold Sm;split
 ·exact Ay hn fun _=>Af4 hn hx fun _ _=>Ay hn fun _=>hK _ _
 ·exact hn
theorem DZ (hn:Rel none none){C:Gl}{call:An}{K:PV->List Nat->List (Nat × Bo)->Option R} {K':PV->List Nat->List (Nat × Bo)->Option R'}
  (Iy:∀x∈o.op.operands.toList,Bz tm x=Bz tm' x)
  (hfg:G5 P o.op=true->∀x∈o.op.operands.toList,∀i∈Bs (Bz tm' x),(f i=f' i∧g i=g' i)∨(f i=none∧g i=none∧∀b,Rel none b))
  (hK:∀v fz nw,(G5 P o.op=false->fz=[]∧∀q∈nw,o.dst=some q.1)->(∀i∈fz,g i≠none)->Rel (K v fz nw) (K' v fz nw)):
  Rel (CS C P N call tm f g o K) (CS C P N call tm' f' g' o K'):=by
 have h0:∀v,Rel (K v [] []) (K' v [] []):=fun v=>hK v [] [] (fun _=>⟨rfl,by simp⟩) (by simp)
 have hf:G5 P o.op=true->∀x∈o.op.operands.toList,NI Rel f f' (Bs (Bz tm' x)):=fun h x hx i hi=>(hfg h x hx i hi).imp (·.1) fun h=>⟨h.1,h.2.2⟩
 have hg:G5 P o.op=true->∀x∈o.op.operands.toList,NI Rel g g' (Bs (Bz tm' x)):=fun h x hx i hi=>(hfg h x hx i hi).imp (·.2) fun h=>⟨h.2.1,h.2.2⟩
 unfold CS;generalize hop:o.op=op at *
 split
 ·exact EE hn (Iy _ (by simp[Op.operands])) h0
 ·exact EE hn (Iy _ (by simp[Op.operands])) h0
 ·rename_i c x y;rw[Iy c (by simp[Op.operands]),Iy x (by simp[Op.operands]),Iy y (by simp[Op.operands])]
  exact Gd hn fun _=>AY (h0 _) (h0 _)
 ·exact C9 hn fun d hd=>Ru hn fun _=>hK _ _ _ (fun _=>⟨rfl,by simp[hd]⟩) (by simp)
 ·rename_i t x;rw[Iy x (by simp[Op.operands])]
  refine C9 hn fun d hd=>Ay hn fun _=>?_
  cases Rc P t
  ·exact Mp hn fun _=>hK _ _ _ (fun _=>⟨rfl,by simp[hd]⟩) (by simp)
  ·exact Ot hn fun _=>hK _ _ _ (fun _=>⟨rfl,by simp[hd]⟩) (by simp)
 ·rename_i t ps
  have:(ps.toList.map fun q=>(q.1,Bz tm q.2))=ps.toList.map fun q=>(q.1,Bz tm' q.2):=by
   apply List.map_congr_left;intro q hq;rw[Iy q.2 (by simp only[Op.operands];exact List.mem_map_of_mem hq)]
  rw[this];exact Ay hn fun _=>Ru hn fun _=>X9 hn fun _=>Mp hn fun _=>h0 _
 ·rename_i t n ps
  have:(ps.toList.map fun q=>(q.1,Bz tm q.2))=ps.toList.map fun q=>(q.1,Bz tm' q.2):=by
   apply List.map_congr_left;intro q hq;rw[Iy q.2 (by simp only[Op.operands];exact List.mem_map_of_mem hq)]
  rw[this];refine C9 hn fun d hd=>?_
  split
  ·rename_i e hu;cases OC:Ii P [e]
   ·refine Ay hn fun _=>Ve hn fun z hz=>X9 hn fun cs=>Y7 hn ?_ fun cs'=>hK _ _ _ (fun _=>⟨rfl,by simp[hd]⟩) (by simp)
    intro c hc es he;obtain⟨l,hl,hc⟩:=List.mem_flatten.1 hc;rw[List.eq_of_mem_replicate hl] at hc;subst he
    have:Ii P [e]=true:=by
     unfold Ii;simp only[List.any_cons,List.any_nil,Bool.or_false,Bool.or_eq_true];exact .inr (List.any_eq_true.2 ⟨_,hc,rfl⟩)
    rw[this] at OC;cases OC
   refine Ay hn fun _=>Ve hn fun z hz=>CL (S:=fun i=>∃x∈(Op.buildSlice t n ps).operands.toList,i∈Bs (Bz tm' x)) hn ?_ ?_ fun cs AO=>?_
   ·intro c hc i hi;obtain⟨l,hl,hc⟩:=List.mem_flatten.1 hc;rw[List.eq_of_mem_replicate hl] at hc;rw[hz c hc] at hi;simp at hi
   ·intro q hq i hi;obtain⟨q',Fe,rfl⟩:=List.mem_map.1 hq;exact⟨q'.2,by simp only[Op.operands];exact List.mem_map_of_mem Fe,Fd hi⟩
   ·refine Sd hn (fun i hi=>?_) fun cs' m hm=>hK _ _ _ (fun h=>by simp[G5,hu,OC] at h) hm
    obtain⟨c,hc,hi⟩:=List.mem_flatMap.1 hi;obtain⟨x,hx,hxi⟩:=AO c hc i hi;exact hg (by simp[G5,hu,OC]) x hx i hxi
  ·exact hn
 ·rename_i t x;rw[Iy x (by simp[Op.operands])]
  exact IL hn (fun i hi=>hfg (by simp[G5]) x (by simp[Op.operands]) i (Ji hi)) h0
 ·rename_i x;rw[Iy x (by simp[Op.operands])]
  exact Xa hn h0
 ·rename_i op' t x y _;rw[Iy x (by simp[Op.operands]),Iy y (by simp[Op.operands])]
  exact QF hn h0
 ·rename_i op' t x;rw[Iy x (by simp[Op.operands])]
  exact Ale hn h0
 ·rename_i src dst x;rw[Iy x (by simp[Op.operands])]
  exact YN hn (fun hds i hi=>hg (by simp[G5,hds]) x (by simp[Op.operands]) i (Ji hi)) fun v b hb=>C9 hn fun d hd=>hK _ _ _ (fun _=>⟨rfl,fun q hq=>by rw[hd,hb q hq,hd];rfl⟩) (by simp)
 ·rename_i t x y;rw[Iy x (by simp[Op.operands]),Iy y (by simp[Op.operands])]
  refine C9 hn fun d hd=>?_
  split
  ·exact Dw hn fun _ _=>Dw hn fun _ _=>Ay hn fun _=>Ru hn fun _=>hK _ _ _ (fun _=>⟨rfl,by simp[hd]⟩) (by simp)
  ·exact hn
 ·rename_i t x lo hi mx;split
  ·rw[Iy x (by simp[Op.operands])]
   have h1:lo.map (Bz tm)=lo.map (Bz tm'):=by
    cases lo with
    |none=>rfl
    |some y=>simp only[Option.map_some];rw[Iy y (by simp[Op.operands])]
   have h2:hi.map (Bz tm)=hi.map (Bz tm'):=by
    cases hi with
    |none=>rfl
    |some y=>simp only[Option.map_some];rw[Iy y (by simp[Op.operands])]
   rw[h1,h2];exact VP hn (fun ⟨n,e,he⟩ i hi=>hf (by simp[G5,he]) x (by simp[Op.operands]) i (Ji hi)) h0
  ·rename_i m;rw[Iy x (by simp[Op.operands])]
   have h1:lo.map (Bz tm)=lo.map (Bz tm'):=by
    cases lo with
    |none=>rfl
    |some y=>simp only[Option.map_some];rw[Iy y (by simp[Op.operands])]
   have h2:hi.map (Bz tm)=hi.map (Bz tm'):=by
    cases hi with
    |none=>rfl
    |some y=>simp only[Option.map_some];rw[Iy y (by simp[Op.operands])]
   rw[h1,h2,Iy m (by simp[Op.operands])]
   exact C9 hn fun d hd=>QY hn fun c=>hK _ _ _ (fun _=>⟨rfl,by simp[hd]⟩) (by simp)
 ·rename_i t x fl;rw[Iy x (by simp[Op.operands])]
  exact C9 hn fun _ _=>Ay hn fun _=>Xa hn h0
 ·rename_i t x fl;rw[Iy x (by simp[Op.operands])]
  exact C9 hn fun _ _=>Ay hn fun _=>Il hn fun _ _=>Mp hn fun _=>U5 hn h0
 ·rename_i t x i;rw[Iy x (by simp[Op.operands]),Iy i (by simp[Op.operands])]
  exact Dw hn fun _ _=>EV hn h0
 ·rename_i t x i;rw[Iy x (by simp[Op.operands]),Iy i (by simp[Op.operands])]
  refine Dw hn fun _ _=>?_
  split
  ·exact Fb hn fun _=>Ay hn fun _=>C9 hn fun _ _=>h0 _
  ·exact Il hn fun _ _=>Ay hn fun _=>Mp hn fun _=>U5 hn h0
  ·exact hn
 ·rename_i t x k ok;rw[Iy x (by simp[Op.operands]),Iy k (by simp[Op.operands])]
  split
  ·refine Ay hn fun _=>?_
   split
   ·exact Fb hn fun _=>C9 hn fun _ _=>XE hn (fun _ _=>Ay hn fun _=>h0 _) (fun _=>Ay hn fun _=>h0 _)
   ·exact hn
  ·exact hn
 ·rename_i x i;rw[Iy x (by simp[Op.operands])]
  split
  ·exact C9 hn fun _ _=>h0 _
  ·exact hn
 ·rename_i c
  have Jy:∀x∈c.args.toList,x∈(Op.call c).operands.toList:=by
   intro x hx;simp only[Op.operands,Call.operands,Array.toList_append,List.mem_append];exact .inr hx
  have rc:∀fn,G5 P (.call c)=true->Rel (CZ C P N call tm g o c fn K) (CZ C P N call tm' g' o c fn K'):=by
   intro fn SM;unfold CZ;have:c.args.toList.map (Bz tm)=c.args.toList.map (Bz tm'):=List.map_congr_left fun x hx=>Iy x (Jy x hx)
   rw[this];refine KM hn (fun i hi=>?_) fun vs m hm=>KH hn fun rv ro=>Eu hn (Ay hn fun _=>Xe hn fun ws bs GI=>Ay hn fun _=>hK _ _ _ (fun h=>by rw[SM] at h;cases h) (fun i hi=>?_))
   ·obtain⟨p,hp,hi⟩:=List.mem_flatMap.1 hi;obtain⟨x,hx,rfl⟩:=List.mem_map.1 hp;exact hg SM x (Jy x hx) i (Fd hi)
   ·have SG:i∈m:=by
     cases hq:Ii P (Mi P o.type)<;>rw[hq] at hi
     ·simp at hi
     ·exact hi
    exact hm i SG
  split
  ·refine Bh hn fun x _ hx=>Bh hn fun _ _ _=>?_
   rw[Iy x (Jy x (by rw[hx];simp))]
   exact Age hn fun _=>h0 _
  ·refine Bh hn fun x _ hx=>Bh hn fun _ _ _=>?_
   rw[Iy x (Jy x (by rw[hx];simp))]
   exact Agy hn fun _=>h0 _
  ·refine Bh hn fun x _ hx=>Bh hn fun y _ hy=>Eu hn ?_
   subst hy;rw[Iy x (Jy x (by rw[hx];simp)),Iy y (Jy y (by rw[hx];simp))]
   exact Ahe hn h0
  ·refine Bh hn fun x _ hx=>Bh hn fun y _ hy=>Eu hn ?_
   subst hy;rw[Iy x (Jy x (by rw[hx];simp)),Iy y (Jy y (by rw[hx];simp))]
   exact Aev hn h0
  ·rename_i hc;have SM:G5 P (.call c)=true:=by simp[G5,hc]
   refine Ay hn fun _=>C9 hn fun d hd=>Bh hn fun _ _ hb=>Bh hn fun x _ hx=>Eu hn (Bh hn fun _ _ _=>Bh hn fun _ _ _=>?_)
   have hxm:x∈c.args.toList:=by rw[hb,hx];simp
   rw[Iy x (Jy x hxm)];exact PU hn (fun i hi=>hg SM x (Jy x hxm) i (Ji hi)) fun v nw=>hK _ _ _ (fun h=>by rw[SM] at h;cases h) (by simp)
  ·rename_i fn hc;have SM:G5 P (.call c)=true:=by simp[G5,hc]
   exact rc fn SM
  ·rename_i t hc;have SM:G5 P (.call c)=true:=by simp[G5,hc]
   have ht:=Iy (.tmp t) (by simp[Op.operands,Call.operands,hc])
   change tm t=tm' t at ht;rw[ht];exact Ak3 hn fun fn=>rc fn SM
  ·exact hn
 ·exact hn
variable {hp:Nat->Option Bo}
end
open Go.RowKit
abbrev Q9:=PV × List Nat × List (Nat × Bo)
def Gj (ops:Array Oper)(o:Oper)(tm:Nat->PV):Option Bool:=
 match o.guard with
 |none=>some true
 |some (j,want)=>
  match (ops[j]?).bind (·.dst) with
  |none=>none
  |some d=>
   match tm d with
   |.sc (.bool b)=>some (b==want)
   |.sc (.tuple _)=>some false
   |_=>none
section
variable {R:Type} {r:R} {C:Gl} {P:Program} {N:Nat} {call:An} {ops:Array Oper} {o x:Oper} {s:St} {K:St->Option R}
theorem ML:Dm C P N call ops o s K=match Gj ops o s.tm with
  |none=>none
  |some true=>QG C P N call o s K
  |some false=>A9 (Fz N o.dst) (K ⟨Bl s.tm o.dst (.sc undef),s.hp⟩):=by
 unfold Dm Gj;cases o.guard with
 |none=>rfl
 |some q=>
  obtain⟨j,want⟩:=q;cases hd:(ops[j]?).bind (·.dst) with
  |none=>simp[hd]
  |some d=>
   simp only[hd];cases ht:s.tm d with
   |sc v=>
    cases v with
    |bool b=>
     cases b<;>cases want<;>simp only[Ba,cond_true,cond_false,V6 s.tm ht]<;>rfl
    |_=>rfl
   |_=>rfl
def ZX (C:Gl)(P:Program)(N:Nat)(call:An)(o:Oper)(s:St):Option Q9:=
 CS C P N call s.tm (rd s.hp) (Ic s.hp) o fun v fz nw=>some (v,fz,nw)
theorem Aio {K:PV->List Nat->List (Nat × Bo)->Option R}:CS C P N call s.tm (rd s.hp) (Ic s.hp) o K=(ZX C P N call o s).bind fun q=>K q.1 q.2.1 q.2.2:=by
 refine DZ (Rel:=fun (a:Option R) (b:Option Q9)=>a=b.bind fun q=>K q.1 q.2.1 q.2.2) (K:=K) (K':=fun v fz nw=>some (v,fz,nw)) rfl (fun _ _=>rfl) (fun _ _ _ _ _=>.inl ⟨rfl,rfl⟩) fun v fz nw _ _=>rfl
theorem TV {q:Q9}(h:ZX C P N call o s=some q):(G5 P o.op=false->q.2.1=[]∧∀p∈q.2.2,o.dst=some p.1)∧∀i∈q.2.1,Ic s.hp i≠none:=by
 have:=DZ (C:=C) (P:=P) (N:=N) (call:=call) (o:=o) (tm:=s.tm) (tm':=s.tm) (f:=rd s.hp) (f':=rd s.hp) (g:=Ic s.hp) (g':=Ic s.hp)
  (Rel:=fun (a:Option Q9)(_:Option Q9)=>∀q,a=some q->(G5 P o.op=false->q.2.1=[]∧∀p∈q.2.2,o.dst=some p.1)∧∀i∈q.2.1,Ic s.hp i≠none)
  (K:=fun v fz nw=>some (v,fz,nw)) (K':=fun v fz nw=>some (v,fz,nw)) (fun _ h=>by cases h) (fun _ _=>rfl) (fun _ _ _ _ _=>.inl ⟨rfl,rfl⟩) (fun v fz nw h1 h2 q hq=>by cases hq;exact⟨h1,h2⟩)
 exact this q h
def gE (C:Gl)(P:Program)(N:Nat)(call:An)(ops:Array Oper)(o:Oper)(s:St):Option Q9:=
 match Gj ops o s.tm with
 |none=>none
 |some true=>bif Qk C P o.op then none else ZX C P N call o s
 |some false=>some (.sc undef,[],[])
def Gf (C:Gl)(P:Program)(ops:Array Oper)(o:Oper)(tm:Nat->PV):Bool:=Qk C P o.op&&(Gj ops o tm==some true)
theorem Jh (h:Gf C P ops o s.tm=false):Dm C P N call ops o s K=(gE C P N call ops o s).bind fun q=>Xb N s o.dst q.1 q.2.1 q.2.2 K:=by
 rw[ML];unfold gE;unfold Gf at h;cases hv:Gj ops o s.tm with
 |none=>rfl
 |some b=>
  rw[hv] at h;cases b with
  |false=>
   show A9 _ _=Xb N s o.dst (.sc undef) [] [] K;unfold Xb;have h1:Bq s.hp []=true:=rfl;have h2:Ar (Ag s.hp []) []=s.hp:=rfl;rw[h1,h2,Bool.and_true]
  |true=>
   have hm:Qk C P o.op=false:=by simpa using h
   simp only[QG,hm,cond_false];exact Aio
theorem Hs (h:Gf C P ops o s.tm=true):Dm C P N call ops o s K=Td C P N call s o K:=by
 rw[ML];unfold Gf at h;simp only[Bool.and_eq_true,beq_iff_eq] at h;rw[h.2];simp only[QG,h.1,cond_true]
theorem Sa {q:Q9}(h:gE C P N call ops o s=some q):(G5 P o.op=false->q.2.1=[]∧∀p∈q.2.2,o.dst=some p.1)∧∀i∈q.2.1,Ic s.hp i≠none:=by
 unfold gE at h;split at h
 ·cases h
 ·cases hm:Qk C P o.op<;>rw[hm] at h
  ·exact TV h
  ·cases h
 ·cases h;exact⟨fun _=>⟨rfl,by simp⟩,by simp⟩
theorem E3 {tm tm':Nat->PV}(h:∀t∈looks ops o,tm t=tm' t):∀y∈o.op.operands.toList,Bz tm y=Bz tm' y:=by
 intro y hy;cases y with
 |tmp t=>
  refine h t ?_;unfold looks Ahk;refine List.mem_append.2 (.inl (List.mem_filterMap.2 ⟨.tmp t,hy,rfl⟩))
 |const v=>cases v<;>rfl
 |func f=>rfl
 |«global» g=>rfl
theorem J1 {tm tm':Nat->PV}(h:∀t∈looks ops o,tm t=tm' t):Gj ops o tm=Gj ops o tm':=by
 unfold Gj;cases hg:o.guard with
 |none=>rfl
 |some q=>
  obtain⟨j,want⟩:=q;cases hd:(ops[j]?).bind (·.dst) with
  |none=>simp[hd]
  |some d=>
   have:tm d=tm' d:=h d (by
    unfold looks;rw[hg];refine List.mem_append.2 (.inr ?_);simp only[hd];simp)
   simp only[hd,this]
theorem Wr {s':St}{q:Q9}(ht:∀t∈looks ops o,s.tm t=s'.tm t)
  (hm:G5 P o.op=true->∀y∈o.op.operands.toList,∀i∈Bs (Bz s'.tm y),(rd s.hp i=rd s'.hp i∧Ic s.hp i=Ic s'.hp i)∨(rd s.hp i=none∧Ic s.hp i=none))
  (h:gE C P N call ops o s=some q):gE C P N call ops o s'=some q:=by
 unfold gE at h ⊢;rw[←J1 ht];split at h
 ·cases h
 ·cases hM:Qk C P o.op<;>rw[hM] at h
  ·have:=DZ (C:=C) (P:=P) (N:=N) (call:=call) (o:=o) (tm:=s.tm) (tm':=s'.tm) (f:=rd s.hp) (f':=rd s'.hp) (g:=Ic s.hp) (g':=Ic s'.hp)
    (Rel:=fun (a b:Option Q9)=>a=some q->b=some q)
    (K:=fun v fz nw=>some (v,fz,nw)) (K':=fun v fz nw=>some (v,fz,nw)) (fun h=>h) (E3 ht)
    (fun I6 y hy i hi=>(hm I6 y hy i hi).imp id fun h=>⟨h.1,h.2,fun _ h=>by cases h⟩) (fun v fz nw _ _ h=>h)
   exact this h
  ·cases h
 ·exact h
end
open Go.RowKit
theorem Od:∀{nw:List (Nat × Bo)} {hp Cs:Nat->Option Bo},Bq hp nw=true->(∀i b,(i,b)∈nw->Cs i=none)->Bq Cs nw=true
 |[],_,_,_,_=>rfl
 |(i,b)::nw,hp,Cs,h,h'=>by
  simp only[Bq,Bool.and_eq_true,Option.isNone_iff_eq_none] at h ⊢;exact⟨⟨h' i b (by simp),h.1.2⟩,Od h.2 fun j c hj=>h' j c (by simp[hj])⟩
section
variable {hp:Nat->Option Bo} {fz:List Nat} {nw:List (Nat × Bo)}
theorem Fi (ha:Bq hp nw=true){i:Nat}(hi:hp i≠none):Ar (Ag hp fz) nw i=if i∈fz then (hp i).map Rp else hp i:=by
 obtain⟨h1,h2⟩:=Bk ha;rw[(D6 h2).2 i (fun bx hb=>hi (h1 i bx hb)),Bv]
theorem H1 (ha:Bq hp nw=true){i:Nat}{b:Bo}(hi:(i,b)∈nw):Ar (Ag hp fz) nw i=some b:=
 (D6 (Bk ha).2).1 i b hi
theorem My (ha:Bq hp nw=true){i:Nat}(hi:hp i=none)(hn:∀b,(i,b) ∉ nw):Ar (Ag hp fz) nw i=none:=by
 rw[(D6 (Bk ha).2).2 i hn,Bv,hi];simp
theorem Me (ha:Bq hp nw=true){i:Nat}(hi:hp i≠none):Ar (Ag hp fz) nw i≠none:=by
 rw[Fi ha hi];cases h:hp i with
 |none=>exact absurd h hi
 |some b=>split<;>simp
theorem Alx (b:Option Bo):(match b.map Rp with|some (.st c)=>some c|some (.ar _ c)=>some c|_=>none)=(match b with|some (.st c)=>some c|some (.ar _ c)=>some c|_=>none):=by
 cases b with
 |none=>rfl
 |some b=>cases b<;>rfl
theorem Agc (b:Option Bo):(match b.map Rp with|some (.ar _ c)=>some c|_=>none)=(match b with|some (.ar _ c)=>some c|_=>none):=by
 cases b with
 |none=>rfl
 |some b=>cases b<;>rfl
theorem PP (ha:Bq hp nw=true){i:Nat}(hi:hp i≠none):rd (Ar (Ag hp fz) nw) i=rd hp i:=by
 unfold rd;rw[Fi ha hi];by_cases h:i∈fz
 ·rw[if_pos h];exact Alx _
 ·rw[if_neg h]
theorem HQ (ha:Bq hp nw=true){i:Nat}(hi:hp i≠none):Ic (Ar (Ag hp fz) nw) i=Ic hp i:=by
 unfold Ic;rw[Fi ha hi];by_cases h:i∈fz
 ·rw[if_pos h];exact Agc _
 ·rw[if_neg h]
theorem XC {i:Nat}(hi:hp i=none):rd hp i=none:=by unfold rd;rw[hi]
theorem J6 {i:Nat}(hi:hp i=none):Ic hp i=none:=by unfold Ic;rw[hi]
theorem Atq (b:Option Bo):(b.map Rp).map Rp=b.map Rp:=by
 cases b with
 |none=>rfl
 |some b=>cases b<;>rfl
theorem VK {fx fo:List Nat}{nx no:List (Nat × Bo)} (hx:Bq hp nx=true)(ho:Bq (Ar (Ag hp fx) nx) no=true) (OJ:Bq hp no=true)
  (R6:Bq (Ar (Ag hp fo) no) nx=true) (h1:∀i∈fx,hp i≠none)(h2:∀i∈fo,hp i≠none):
  Ar (Ag (Ar (Ag hp fx) nx) fo) no=Ar (Ag (Ar (Ag hp fo) no) fx) nx:=by
 funext i
 by_cases hi:hp i=none
 ·by_cases LB:∃b,(i,b)∈no
  ·obtain⟨b,hb⟩:=LB
   have hnx:∀b',(i,b') ∉ nx:=fun b' Hf=>by
    have:=(Bk ho).1 i b hb;rw[H1 hx Hf] at this;cases this
   rw[H1 ho hb,Fi R6 (by rw[H1 OJ hb];simp),H1 OJ hb,if_neg (fun h=>h1 i h hi)]
  ·have LB:∀b,(i,b) ∉ no:=fun b hb=>LB ⟨b,hb⟩
   by_cases hnx:∃b,(i,b)∈nx
   ·obtain⟨b,hb⟩:=hnx;rw[H1 R6 hb,Fi ho (by rw[H1 hx hb];simp),H1 hx hb,if_neg (fun h=>h2 i h hi)]
   ·have hnx:∀b,(i,b) ∉ nx:=fun b hb=>hnx ⟨b,hb⟩
    rw[My ho (My hx hi hnx) LB,My R6 (My OJ hi LB) hnx]
 ·rw[Fi ho (Me hx hi),Fi hx hi,Fi R6 (Me OJ hi),Fi OJ hi];split<;>split<;>first|rfl|rw[Atq]
end
section
variable {R:Type} {r:R} {C:Gl} {P:Program} {N:Nat} {call:An} {ops:Array Oper} {o x:Oper} {s:St} {K:St->Option R}
structure Wl (C:Gl) (P:Program) (ops:Array Oper) (x o:Oper):Prop where
 xo:∀d,x.dst=some d->d ∉ looks ops o
 ne:∀d,x.dst=some d->o.dst≠some d
 ox:∀d,o.dst=some d->d ∉ looks ops x
 mx:Qk C P x.op=true->G5 P o.op=false
 mo:Qk C P o.op=true->G5 P x.op=false
theorem Qj {l:List Nat}{d:Nat}(h:l.any (Nat.beq d)=false):d ∉ l:=by
 intro hm;have:l.any (Nat.beq d)=true:=List.any_eq_true.2 ⟨d,hm,Nat.beq_refl d⟩;rw[this] at h;cases h
theorem Aek (h:EU C P ops x o=false):Wl C P ops x o:=by
 unfold EU at h;simp only[Bool.or_eq_false_iff,Bool.and_eq_false_iff] at h;obtain⟨⟨⟨h1,h2⟩,h3⟩,h4⟩:=h;refine⟨fun d hd=>?_,fun d hd he=>?_,fun d hd=>?_,fun hm=>?_,fun hm=>?_⟩
 ·simp only[hd,Bool.or_eq_false_iff] at h1;exact Qj h1.1
 ·simp only[hd,he,Bool.or_eq_false_iff] at h1;rw[Nat.beq_refl] at h1;cases h1.2
 ·simp only[hd] at h2;exact Qj h2
 ·rw[hm] at h3;rcases h3 with h|h
  ·cases h
  ·exact h
 ·rw[hm] at h4;rcases h4 with h|h
  ·cases h
  ·exact h
theorem Ee {tm:Nat->PV}{d:Option Tmp}{v:PV}{l:List Nat}(h:∀i,d=some i->i ∉ l):∀t∈l,Bl tm d v t=tm t:=by
 intro t ht;cases d with
 |none=>rfl
 |some d=>exact Aj _ _ (by rintro rfl;exact h _ rfl ht)
theorem Jv {tm:Nat->PV}{d e:Option Tmp}{u v:PV}(h:∀i,d=some i->e≠some i):Bl (Bl tm d u) e v=Bl (Bl tm e v) d u:=by
 cases d with
 |none=>rfl
 |some d=>
  cases e with
  |none=>rfl
  |some e=>exact OV _ _ _ (by rintro rfl;exact h _ rfl rfl)
def SC (C:Gl)(P:Program)(o:Oper)(s:St):Prop:=(∀y∈o.op.operands.toList,∀i∈Bs (Bz s.tm y),s.hp i≠none) ∧
 (Qk C P o.op=true->Mt o.op=false->∀y∈o.op.operands.toList,∀i∈Bs (Bz s.tm y),∀c,s.hp i=some (.st c)->∀p∈c,∀k∈Ap p,s.hp k≠none)
theorem G2 {tm tm':Nat->PV}(h:∀t∈looks ops o,tm t=tm' t):Gf C P ops o tm=Gf C P ops o tm':=by
 unfold Gf;rw[J1 h]
theorem WC (hw:SC C P o s)(xo:∀d,x.dst=some d->d ∉ looks ops o)(ne:∀d,x.dst=some d->o.dst≠some d)(ox:∀d,o.dst=some d->d ∉ looks ops x)(hx:Gf C P ops x s.tm=false)(ho:Gf C P ops o s.tm=false)
  (h:Dm C P N call ops x s (fun s1=>Dm C P N call ops o s1 K)=some r):Dm C P N call ops o s (fun s1=>Dm C P N call ops x s1 K)=some r:=by
 rw[Jh hx] at h;cases ex:gE C P N call ops x s with
 |none=>rw[ex] at h;cases h
 |some q=>
 obtain⟨vx,fx,nx⟩:=q;rw[ex] at h;obtain⟨hb,h1⟩:=Al h;simp only[Bool.and_eq_true] at hb;have t1:∀t∈looks ops o,Bl s.tm x.dst vx t=s.tm t:=Ee xo;change Dm C P N call ops o ⟨Bl s.tm x.dst vx,Ar (Ag s.hp fx) nx⟩ K=some r at h1;rw[Jh (by rw[G2 t1];exact ho)] at h1
 cases eo:gE C P N call ops o ⟨Bl s.tm x.dst vx,Ar (Ag s.hp fx) nx⟩ with
 |none=>rw[eo] at h1;cases h1
 |some q=>
 obtain⟨vo,fo,no⟩:=q;rw[eo] at h1;obtain⟨hc,h2⟩:=Al h1;change K ⟨Bl (Bl s.tm x.dst vx) o.dst vo,Ar (Ag (Ar (Ag s.hp fx) nx) fo) no⟩=some r at h2;simp only[Bool.and_eq_true] at hc
 have eo':gE C P N call ops o s=some (vo,fo,no):=by
  refine Wr t1 (fun _ y hy i hi=>?_) eo
  have:=hw.1 y hy i hi;exact .inl ⟨PP hb.2 this,HQ hb.2 this⟩
 have OJ:Bq s.hp no=true:=Od hc.2 fun i b hi=>by
  cases hs:s.hp i with
  |none=>rfl
  |some c=>exact absurd ((Bk hc.2).1 i b hi) (Me hb.2 (by rw[hs];simp))
 rw[Jh ho,eo']
 have R6:Bq (Ar (Ag s.hp fo) no) nx=true:=Od hb.2 fun i b hi=>by
  refine My OJ ((Bk hb.2).1 i b hi) fun c Oo=>?_
  have:=(Bk hc.2).1 i c Oo;rw[H1 hb.2 hi] at this;cases this
 have t2:∀t∈looks ops x,s.tm t=Bl s.tm o.dst vo t:=fun t ht=>(Ee ox t ht).symm
 have ex':gE C P N call ops x ⟨Bl s.tm o.dst vo,Ar (Ag s.hp fo) no⟩=some (vx,fx,nx):=by
  refine Wr t2 (fun _ y hy i hi=>?_) ex
  by_cases hs:s.hp i=none
  ·exact .inr ⟨XC hs,J6 hs⟩
  ·exact .inl ⟨(PP OJ hs).symm,(HQ OJ hs).symm⟩
 show A9 _ _=_;rw[hc.1,OJ];show Dm C P N call ops x ⟨Bl s.tm o.dst vo,Ar (Ag s.hp fo) no⟩ K=some r;rw[Jh (by rw[←G2 t2];exact hx),ex']
 show A9 _ _=_;rw[hb.1,R6];rw[←h2];have hfx:∀i∈fx,s.hp i≠none:=fun i hi hs=>(Sa ex).2 i hi (J6 hs)
 have hfo:∀i∈fo,s.hp i≠none:=fun i hi hs=>(Sa eo').2 i hi (J6 hs)
 show K ⟨Bl (Bl s.tm o.dst vo) x.dst vx,Ar (Ag (Ar (Ag s.hp fo) no) fx) nx⟩=K _;rw[Jv ne,VK hb.2 hc.2 OJ R6 hfx hfo]
end
open Go.RowKit
theorem Wq {C:Gl}{P:Program}{o:Op}(h:Qk C P o=true):G5 P o=true:=by
 unfold Qk at h;split at h
 ·rfl
 ·rename_i c;unfold G5;simp only;split at h<;>rename_i hc
  ·rw[hc]
  ·rw[hc]
  ·cases h
  ·rw[hc]
  ·cases h
 ·cases h
structure GO (N:Nat) (S:Nat->Prop) (dst:Option Nat) (hp Cf Cs E0:Nat->Option Bo):Prop where
 keep:∀i,hp i≠none->Cs i≠none
 off:∀i,i<N->dst≠some i->(¬S i∨hp i=none)->Cs i=hp i∧E0 i=Cf i
 same:∀i,hp i=Cf i->Cs i=E0 i
 far:∀i,¬S i->hp i≠none->Cs i=hp i
section
variable {R R':Type} {Rel:Option R->Option R'->Prop} {P:Program} {N:Nat} {tm tm':Nat->PV} {hp Cf:Nat->Option Bo} {f f':Nat->Option (List PV)} {o:Oper}
theorem JZ (hn:Rel none none){t:CT}{p:PV}{K:PV->List Nat->Option R}{K':PV->List Nat->Option R'}(hf:NI Rel f f' (Ap p)) (hK:∀c m,(∀i∈m,f i≠none∧i∈Ap p)->Rel (K c m) (K' c m)):Rel (M8 f t p K) (M8 f' t p K'):=by
 unfold M8;split
 ·split
  ·rename_i id es' off n;cases Nat.beq es' _
   ·exact hn
   ·exact Wg hn hf (by simp[Ap]) fun c hc=>Ay hn fun _=>hK _ _ (by simp[hc,Ap])
  ·exact E7 hn fun _ _ _=>hK _ _ (by simp)
 ·exact Nl hn fun _=>hK _ _ (by simp)
theorem BW (hn:Rel none none):∀{ts:List CT}{ps:List PV}{K:List PV->List Nat->Option R}{K':List PV->List Nat->Option R'},NI Rel f f' (ps.flatMap Ap)->(∀c m,(∀i∈m,f i≠none∧i∈ps.flatMap Ap)->Rel (K c m) (K' c m))->Rel (Mz f ts ps K) (Mz f' ts ps K')
 |[],[],_,_,_,hK=>hK _ _ (by simp)
 |[],_::_,_,_,_,_=>hn
 |_::_,[],_,_,_,_=>hn
 |_::_,p::ps,_,_,hf,hK=>JZ hn (fun i hi=>hf i (by simp only[List.flatMap_cons,List.mem_append];exact .inl hi)) fun _ m hm=>BW hn (fun i hi=>hf i (by simp only[List.flatMap_cons,List.mem_append];exact .inr hi)) fun _ ms BO=>hK _ _ fun i hi=>by
   simp only[List.flatMap_cons,List.mem_append];rcases List.mem_append.1 hi with h|h
   ·exact⟨(hm i h).1,.inl (hm i h).2⟩
   ·exact⟨(BO i h).1,.inr (BO i h).2⟩
theorem Sh {S:Nat->Prop}{dst:Option Nat}{id:Nat}{b:Bo}{h0 h1:Nat->Option Bo}(hS:S id)(Bj:hp id≠none)(h:GO N S dst hp Cf h0 h1):GO N S dst hp Cf (Cn h0 id (some b)) (Cn h1 id (some b)):=by
 refine⟨fun i hi=>?_,fun i hN hd hi=>?_,fun i hi=>?_,fun i hn hi=>?_⟩
 ·by_cases e:i=id
  ·subst e;rw[Am];simp
  ·rw[Aj _ _ e];exact h.keep i hi
 ·have e:i≠id:=by
   rintro rfl
   rcases hi with hi|hi
   ·exact hi hS
   ·exact Bj hi
  rw[Aj _ _ e,Aj _ _ e];exact h.off i hN hd hi
 ·by_cases e:i=id
  ·subst e;rw[Am,Am]
  ·rw[Aj _ _ e,Aj _ _ e];exact h.same i hi
 ·rw[Aj _ _ (by rintro rfl;exact hn hS)];exact h.far i hn hi
theorem LT {S:Nat->Prop}{d:Nat}{b:Bo}{h0 h1:Nat->Option Bo}(hz:hp d=none)(h:GO N S (some d) hp Cf h0 h1):GO N S (some d) hp Cf (Cn h0 d (some b)) (Cn h1 d (some b)):=by
 refine⟨fun i hi=>?_,fun i hN hd hi=>?_,fun i hi=>?_,fun i hn hi=>?_⟩
 ·by_cases e:i=d
  ·subst e;rw[Am];simp
  ·rw[Aj _ _ e];exact h.keep i hi
 ·have e:i≠d:=by rintro rfl;exact hd rfl
  rw[Aj _ _ e,Aj _ _ e];exact h.off i hN hd hi
 ·by_cases e:i=d
  ·subst e;rw[Am,Am]
  ·rw[Aj _ _ e,Aj _ _ e];exact h.same i hi
 ·rw[Aj _ _ (by rintro rfl;exact hi hz)];exact h.far i hn hi
theorem Ro (S:Nat->Prop)(dst:Option Nat):GO N S dst hp Cf hp Cf:=⟨fun _ h=>h,fun _ _ _ _=>⟨rfl,rfl⟩,fun _ h=>h,fun _ _ _=>rfl⟩
theorem TX {S:Nat->Prop}{dst:Option Nat}{m:List Nat}(hm:∀i∈m,hp i≠none∧S i):GO N S dst hp Cf (Ag hp m) (Ag Cf m):=by
 refine⟨fun i hi=>fun h=>hi (Dx.1 h),fun i hN hd hi=>?_,fun i hi=>?_,fun i hn hi=>?_⟩
 ·have e:i ∉ m:=by
   intro h;rcases hi with hi|hi
   ·exact hi (hm i h).2
   ·exact (hm i h).1 hi
  rw[Bv,Bv,if_neg e,if_neg e];exact⟨rfl,rfl⟩
 ·rw[Bv,Bv,hi]
 ·rw[Bv,if_neg (fun h=>hn (hm i h).2)]
theorem KU {S:Nat->Prop}(h:∀i,S i->hp i=Cf i∨(hp i=none∧∀b,Rel none b)) {l:List Nat}(hl:∀i∈l,S i):NI Rel (Ic hp) (Ic Cf) l:=by
 intro i hi;rcases h i (hl i hi) with h|⟨h,h'⟩
 ·left;unfold Ic;rw[h]
 ·exact .inr ⟨J6 h,h'⟩
theorem RH (hn:Rel none none){t:TypeId}{a x:PV}{K:St->Option R}{K':St->Option R'}{S:Nat->Prop}(hS:∀i,S i->hp i=Cf i∨(hp i=none∧∀b,Rel none b)) (ha:∀i∈Ap a,S i)(hx:∀i∈Ca x,S i)
  (hK:∀Cs E0,GO N S none hp Cf Cs E0->Rel (K ⟨tm,Cs⟩) (K' ⟨tm',E0⟩)):Rel (Xx P ⟨tm,hp⟩ t a x K) (Xx P ⟨tm',Cf⟩ t a x K'):=by
 unfold Xx;split
 ·rename_i id off;show Rel (match hp id with|some (.st c)=>_|some (.ar false c)=>_|_=>none) (match Cf id with|some (.st c)=>_|some (.ar false c)=>_|_=>none)
  have Bj:S id:=ha id (by simp[Ap])
  rcases hS id Bj with h|⟨h,hb⟩
  ·rw[←h];split
   ·rename_i c hc;exact Ay hn fun _=>Mp hn fun _=>hK _ _ (Sh Bj (by rw[hc];simp) (Ro _ _))
   ·rename_i c hc;refine Ay hn fun _=>BW hn (KU hS fun i hi=>hx i ?_) fun _ m hm=>Ay hn fun _=>hK _ _ (Sh Bj (by rw[hc];simp) (TX fun i hi=>⟨fun h=>(hm i hi).1 (J6 h),hx i ?_⟩))
    ·obtain⟨c,hc,hi⟩:=List.mem_flatMap.1 hi;exact R1 hc hi
    ·obtain⟨c,hc,hi⟩:=List.mem_flatMap.1 (hm i hi).2;exact R1 hc hi
   ·exact hn
  ·rw[h];exact hb _
 ·exact hn
theorem Xg (hn:Rel none none){es:Nat}{t:TypeId}{x:PV}{K:Nat->List PV->Option R}{K':Nat->List PV->Option R'}{S:Nat->Prop}(hS:∀i,S i->hp i=Cf i∨(hp i=none∧∀b,Rel none b)) (hx:∀i∈Ca x,S i)(hK:∀m c,Rel (K m c) (K' m c)):Rel (VN P ⟨tm,hp⟩ es t x K) (VN P ⟨tm',Cf⟩ es t x K'):=by
 unfold VN SQ;split
 ·exact Ay hn fun _=>Fb hn fun _=>hK _ _
 ·exact Oz hn (KU hS fun i hi=>hx i (Ri hi)) hK
 ·exact hn
theorem Uw (hn:Rel none none){d:Nat}{t tx:TypeId}{b x:PV}{K:St->Option R}{K':St->Option R'}{S:Nat->Prop}(hS:∀i,S i->hp i=Cf i∨(hp i=none∧∀b,Rel none b)) (IP:hp d=Cf d)(hb:∀i∈Ca b,S i)(hx:∀i∈Ca x,S i)
  (hK:∀v Cs E0,(∀M,GO M S (some d) hp Cf Cs E0)->Rel (K ⟨Cn tm d v,Cs⟩) (K' ⟨Cn tm' d v,E0⟩)):Rel (Nd P N ⟨tm,hp⟩ d t tx b x K) (Nd P N ⟨tm',Cf⟩ d t tx b x K'):=by
 unfold Nd;split
 ·refine Ay hn fun _=>?_
  cases V1 P tx
  rotate_left
  ·show Rel (R8 P N ⟨tm,hp⟩ d _ b x K) (R8 P N ⟨tm',Cf⟩ d _ b x K');refine Dw hn fun _ n=>E7 hn fun z _ _=>?_
   show Rel (A9 (z&&Nat.blt d N&&(hp d).isNone&&_&&_&&_) _) (A9 (z&&Nat.blt d N&&(Cf d).isNone&&_&&_&&_) _);rw[←IP];exact Ay hn fun hb=>hK _ _ _ (fun M=>LT (by simp only[Bool.and_eq_true,Option.isNone_iff_eq_none] at hb;simp only[hb]) (Ro _ _))
  rw[cond_false,cond_false];refine Xg hn hS hx fun m new=>?_
  split
  ·rename_i id es off n;show Rel (match hp id with|some (.ar false c)=>A9 (Nat.beq es _&&Nat.beq off 0&&Nat.blt d N&&(hp d).isNone&&_&&_&&_&&_) _|_=>none) (match Cf id with|some (.ar false c)=>A9 (Nat.beq es _&&Nat.beq off 0&&Nat.blt d N&&(Cf d).isNone&&_&&_&&_&&_) _|_=>none)
   have Bj:S id:=hb id (by simp[Ca,Ap])
   rw[←IP];rcases hS id Bj with h|⟨h,hbb⟩
   ·rw[←h];split
    ·rename_i c hc;exact Ay hn fun hb=>hK _ _ _ (fun M=>LT (by simp only[Bool.and_eq_true,Option.isNone_iff_eq_none] at hb;simp only[hb]) (Sh Bj (by rw[hc];simp) (Ro _ _)))
    ·exact hn
   ·rw[h];exact hbb _
  ·refine E7 hn fun z _ _=>?_
   show Rel (A9 (z&&Nat.blt d N&&(hp d).isNone&&_&&_&&_) _) (A9 (z&&Nat.blt d N&&(Cf d).isNone&&_&&_&&_) _);rw[←IP];exact Ay hn fun hb=>hK _ _ _ (fun M=>LT (by simp only[Bool.and_eq_true,Option.isNone_iff_eq_none] at hb;simp only[hb]) (Ro _ _))
 ·exact hn
theorem VH (hn:Rel none none){d:Option Tmp}{t tx:TypeId}{b x:PV}{K:St->Option R}{K':St->Option R'}{S:Nat->Prop}(hS:∀i,S i->hp i=Cf i∨(hp i=none∧∀b,Rel none b)) (hb:∀i∈Ca b,S i)(hx:∀i∈Ca x,S i)
  (hK:∀v Cs E0,GO N S d hp Cf Cs E0->Rel (K ⟨Bl tm d v,Cs⟩) (K' ⟨Bl tm' d v,E0⟩)):Rel (JC P N ⟨tm,hp⟩ d t tx b x K) (JC P N ⟨tm',Cf⟩ d t tx b x K'):=by
 unfold JC;split
 ·refine Ay hn fun _=>?_
  refine Xg hn hS hx fun m new=>?_
  split
  ·rename_i id es off n;show Rel (match hp id with|some (.ar false c)=>A9 (Nat.beq es _&&_&&_) _|_=>none) (match Cf id with|some (.ar false c)=>A9 (Nat.beq es _&&_&&_) _|_=>none)
   have Bj:S id:=hb id (by simp[Ca,Ap])
   rcases hS id Bj with h|⟨h,hbb⟩
   ·rw[←h];split
    ·rename_i c hc;exact Ay hn fun _=>hK _ _ _ (Sh Bj (by rw[hc];simp) (Ro _ _))
    ·exact hn
   ·rw[h];exact hbb _
  ·exact hn
 ·exact hn
def Amu (o:Oper)(tm:Nat->PV)(i:Nat):Prop:=∃x∈o.op.operands.toList,i∈Bs (Bz tm x)
def T7 (o:Oper)(tm:Nat->PV)(hp:Nat->Option Bo)(i:Nat):Prop:=Amu o tm i∨Mt o.op=false∧∃id c,Amu o tm id∧hp id=some (.st c)∧∃p∈c,i∈Ap p
theorem Aaj (hn:Rel none none){mv:Bool}{t:CT}{p:PV}{K:PV->List Nat->List Nat->Option R}{K':PV->List Nat->List Nat->Option R'}{S:Nat->Prop}(hS:∀i,S i->hp i=Cf i∨(hp i=none∧∀b,Rel none b)) (hp_:∀i∈Ap p,S i)
  (hK:∀c m x,(∀i∈m++x,hp i≠none∧S i)->Rel (K c m x) (K' c m x)):Rel (Ab8 mv hp t p K) (Ab8 mv Cf t p K'):=by
 have frz:∀{t:CT} {p:PV},(∀i∈Ap p,S i)->Rel (M8 (Ic hp) t p fun c m=>K c m []) (M8 (Ic Cf) t p fun c m=>K' c m []):=fun h=>JZ hn (KU hS h) fun c m hm=>hK _ _ _ fun i hi=>by
  rw[List.append_nil] at hi;exact⟨fun e=>(hm i hi).1 (J6 e),h i (hm i hi).2⟩
 unfold Ab8;split
 ·rename_i es;cases mv<;>simp only[cond_true,cond_false]
  ·exact frz hp_
  ·split
   ·rename_i id es' off n;rcases hS id (hp_ id (by simp[Ap])) with h|⟨h,hb⟩
    ·rw[←h];split
     ·rename_i c hc;cases (Nat.beq es' es&&Nat.beq off 0)<;>simp only[cond_true,cond_false]
      ·exact frz hp_
      ·exact Ay hn fun _=>hK _ _ _ fun i hi=>by
        simp only[List.nil_append,List.mem_singleton] at hi;subst hi;exact⟨by rw[hc];simp,hp_ i (by simp[Ap])⟩
     ·exact frz hp_
    ·rw[h]
     have:(M8 (Ic hp) (.sl es) (.view id es' off n) fun c m=>K c m [])=none:=by
      unfold M8;simp only;cases Nat.beq es' es
      ·rfl
      ·simp only[cond_true,J6 h,Cy]
     show Rel (M8 (Ic hp) (.sl es) (.view id es' off n) fun c m=>K c m []) _
     rw[this];exact hb _
   ·refine E7 hn fun z n c=>?_
    cases z
    ·exact hK _ _ _ (by simp)
    ·exact hK _ _ _ (by simp)
 ·exact Nl hn fun _=>hK _ _ _ (by simp)
theorem Qf (hn:Rel none none){mv:Bool}{S:Nat->Prop}(hS:∀i,S i->hp i=Cf i∨(hp i=none∧∀b,Rel none b)):∀{ts:List CT}{ps:List PV}{K:List PV->List Nat->List Nat->Option R}{K':List PV->List Nat->List Nat->Option R'},(∀p∈ps,∀i∈Ap p,S i) ->
  (∀c m x,(∀i∈m++x,hp i≠none∧S i)->Rel (K c m x) (K' c m x))->Rel (Yv mv hp ts ps K) (Yv mv Cf ts ps K')
 |[],[],_,_,_,hK=>hK _ _ _ (by simp)
 |[],_::_,_,_,_,_=>hn
 |_::_,[],_,_,_,_=>hn
 |_::_,p::ps,_,_,hp_,hK=>Aaj hn hS (hp_ p (by simp)) fun _ m x hm=>Qf hn hS (fun q hq=>hp_ q (by simp[hq])) fun _ ms xs BO=>hK _ _ _ fun i hi=>by
   simp only[List.mem_append] at hi hm BO;rcases hi with (hi|hi)|(hi|hi)
   ·exact hm i (.inl hi)
   ·exact BO i (.inl hi)
   ·exact hm i (.inr hi)
   ·exact BO i (.inr hi)
theorem ON (hn:Rel none none){C:Gl}{f:FuncId}{i:Nat}{t:TypeId}{p:PV}{K:PV->List Nat->List Nat->List Gc->Option R}{K':PV->List Nat->List Nat->List Gc->Option R'}{S:Nat->Prop}(hS:∀i,S i->hp i=Cf i∨(hp i=none∧∀b,Rel none b))
  (hp_:∀i∈Bs p,S i)(hc:∀i∈Bs p,∀c,Cf i=some (.st c)->∀q∈c,∀k∈Ap q,S k)
  (hK:∀v m x l,(∀i∈m++x++l.flatMap Gc.ids,hp i≠none∧S i)->Rel (K v m x l) (K' v m x l)):Rel (Yp C P f hp i t p K) (Yp C P f Cf i t p K'):=by
 unfold Yp;split
 ·split
  ·rename_i id off;have Bj:S id:=hp_ id (by simp[Bs,Ca,Ap])
   rcases hS id Bj with h|⟨h,hb⟩
   ·rw[h];split
    ·rename_i c GB;refine Ay hn fun _=>Qf hn hS (fun q hq k hk=>hc id (by simp[Bs,Ca,Ap]) c GB q (List.mem_of_mem_drop (List.mem_of_mem_take hq)) k hk) fun cs m x hm=>hK _ _ _ _ fun k hk=>?_
     rcases List.mem_append.1 hk with hk|hk
     ·exact hm k hk
     ·simp only[List.flatMap_cons,List.flatMap_nil,Gc.ids,List.append_nil,List.mem_singleton] at hk;subst hk;exact⟨by rw[h,GB];simp,Bj⟩
    ·exact hn
   ·rw[h];exact hb _
  ·exact hn
 ·cases C.lnd f i
  ·cases B2 P t
   ·exact Qf hn hS (fun q hq k hk=>by
     simp at hq;subst hq;exact hp_ k (Ji hk)) fun cs m x hm=>Bh hn fun _ _ _=>Eu hn (hK _ _ _ _ (by simpa using hm))
   ·refine Il hn fun cs AO=>Qf hn hS (fun q hq k hk=>hp_ k ?_) fun cs m x hm=>hK _ _ _ _ (by simpa using hm)
    subst AO;exact List.mem_flatMap.2 ⟨q,hq,hk⟩
  ·refine C9 hn fun e he=>?_
   unfold Ahx;split
   ·rename_i id es' off n;have Bj:S id:=hp_ id (by simp[Bs,Ca,Ap])
    rcases hS id Bj with h|⟨h,hb⟩
    ·rw[h];split
     ·rename_i c GB;refine Ay hn fun _=>hK _ _ _ _ fun k hk=>?_
      simp only[List.nil_append,List.flatMap_cons,List.flatMap_nil,Gc.ids,List.append_nil,List.mem_singleton] at hk;subst hk;exact⟨by rw[h,GB];simp,Bj⟩
     ·exact hn
    ·rw[h];exact hb _
   ·exact E7 hn fun _ _ _=>Ay hn fun _=>hK _ _ _ _ (by simp[Gc.ids])
theorem BK (hn:Rel none none){C:Gl}{f:FuncId}{S:Nat->Prop}(hS:∀i,S i->hp i=Cf i∨(hp i=none∧∀b,Rel none b)):∀{ts:List TypeId}{ps:List PV}{i:Nat}{K:List PV->List Nat->List Nat->List Gc->Option R}{K':List PV->List Nat->List Nat->List Gc->Option R'},
  (∀p∈ps,∀i∈Bs p,S i)->(∀p∈ps,∀i∈Bs p,∀c,Cf i=some (.st c)->∀q∈c,∀k∈Ap q,S k) ->
  (∀v m x l,(∀i∈m++x++l.flatMap Gc.ids,hp i≠none∧S i)->Rel (K v m x l) (K' v m x l))->Rel (IM C P f hp i ts ps K) (IM C P f Cf i ts ps K')
 |[],[],_,_,_,_,_,hK=>hK _ _ _ _ (by simp)
 |[],_::_,_,_,_,_,_,_=>hn
 |_::_,[],_,_,_,_,_,_=>hn
 |_::_,p::ps,_,_,_,hp_,hc,hK=>ON hn hS (hp_ p (by simp)) (hc p (by simp)) fun _ m x l hm=>BK hn hS (fun q hq=>hp_ q (by simp[hq])) (fun q hq=>hc q (by simp[hq])) fun _ ms xs ls BO=>hK _ _ _ _ fun i hi=>by
   simp only[List.mem_append,List.flatMap_append] at hi hm BO;rcases hi with ((hi|hi)|(hi|hi))|(hi|hi)
   ·exact hm i (.inl (.inl hi))
   ·exact BO i (.inl (.inl hi))
   ·exact hm i (.inl (.inr hi))
   ·exact BO i (.inl (.inr hi))
   ·exact hm i (.inr hi)
   ·exact BO i (.inr hi)
theorem Adz (hn:Rel none none){t:Nat}{ct:CT}{was p:PV}{K:Nat->PV->List (Nat × Bo)->Option R} {K':Nat->PV->List (Nat × Bo)->Option R'} (hK:∀t c b,(∀q∈b,∃k,q.1=SK N k)->Rel (K t c b) (K' t c b)):Rel (Ab0 N t ct was p K) (Ab0 N t ct was p K'):=by
 unfold Ab0;split
 ·split
  ·exact XX hn fun _ _=>hK _ _ _ (by intro q hq;simp only[List.mem_singleton] at hq;subst hq;exact⟨t,rfl⟩)
  ·exact E7 hn fun _ _ _=>hK _ _ _ (by simp)
 ·exact Nl hn fun _=>hK _ _ _ (by simp)
theorem HX (hn:Rel none none):∀{cts:List CT}{ws ps:List PV}{t:Nat}{K:Nat->List PV->List (Nat × Bo)->Option R} {K':Nat->List PV->List (Nat × Bo)->Option R'},(∀t c b,(∀q∈b,∃k,q.1=SK N k)->Rel (K t c b) (K' t c b))->Rel (KB N t cts ws ps K) (KB N t cts ws ps K')
 |[],[],_,_,_,_,hK=>Eu hn (hK _ _ _ (by simp))
 |[],_::_,_,_,_,_,_=>hn
 |_::_,[],_,_,_,_,_=>hn
 |_::_,_::_,_,_,_,_,hK=>Bh hn fun _ _ _=>Adz hn fun _ _ b hb=>HX hn fun _ _ bs GI=>hK _ _ _ fun q hq=>by
   rcases List.mem_append.1 hq with h|h
   ·exact hb q h
   ·exact GI q h
theorem Sc (hn:Rel none none){S:Nat->Prop}{dst:Option Nat}:∀{l:List Gc}{ro:List (List PV)} {t:Nat}{h0 h1:Nat->Option Bo}{K:(Nat->Option Bo)->List (Nat × Bo)->Option R} {K':(Nat->Option Bo)->List (Nat × Bo)->Option R'},
  GO N S dst hp Cf h0 h1->(∀i∈l.flatMap Gc.ids,hp i≠none∧S i∧hp i=Cf i)->(∀h0' KT b,GO N S dst hp Cf h0' KT->(∀q∈b,∃k,q.1=SK N k)->Rel (K h0' b) (K' KT b))->Rel (Tr N t l ro h0 K) (Tr N t l ro h1 K')
 |[],_,_,_,_,_,_,hT,_,hK=>Eu hn (hK _ _ _ hT (by simp))
 |.var id off cts ws::l,ro,t,h0,h1,K,K',hT,hl,hK=>by
  unfold Tr;refine Bh hn fun cs ro _=>HX hn fun t' cs' bs GI=>?_
  have Bj:=hl id (by simp[Gc.ids])
  rw[←hT.same id Bj.2.2];split
  ·exact Sc hn (Sh Bj.2.1 Bj.1 hT) (fun i hi=>hl i (by simp only[List.flatMap_cons,List.mem_append];exact .inr hi)) fun h0' KT b hT' hb=>hK _ _ _ hT' fun q hq=>by
    rcases List.mem_append.1 hq with h|h
    ·exact GI q h
    ·exact hb q h
  ·exact hn
 |.row id::l,ro,t,h0,h1,K,K',hT,hl,hK=>by
  unfold Tr;have Bj:=hl id (by simp[Gc.ids])
  exact Bh hn fun cs ro _=>Sc hn (Sh Bj.2.1 Bj.1 hT) (fun i hi=>hl i (by simp only[List.flatMap_cons,List.mem_append];exact .inr hi)) hK
 |.none::l,ro,t,h0,h1,K,K',hT,hl,hK=>by
  unfold Tr;exact Bh hn fun cs ro _=>Sc hn hT (fun i hi=>hl i (by simp only[List.flatMap_cons,List.mem_append];exact .inr hi)) hK
theorem RW (h:∀i,N<=i->hp i=Cf i)(hN:0<N):∀k t,OD N hp k t=OD N Cf k t
 |0,_=>rfl
 |k+1,t=>by
  unfold OD;rw[h (SK N t) (by unfold SK;exact Nat.le_mul_of_pos_right _ (by omega)),RW h hN k (t+1)]
theorem ID {h0 h1:Nat->Option Bo}:∀{nw:List (Nat × Bo)},(∀q∈nw,h0 q.1=h1 q.1)->Bq h0 nw=Bq h1 nw
 |[],_=>rfl
 |(i,b)::nw,h=>by
  unfold Bq;rw[h (i,b) (by simp),ID (fun q hq=>h q (by simp[hq]))]
theorem ED {S:Nat->Prop}{dst:Option Nat}{h0 h1:Nat->Option Bo}(hT:GO N S dst hp Cf h0 h1):∀{nw:List (Nat × Bo)} {g0 g1:Nat->Option Bo},GO N S dst hp Cf g0 g1->(∀q∈nw,N<=q.1∨dst=some q.1)->(∀q∈nw,hp q.1=none)->GO N S dst hp Cf (Ar g0 nw) (Ar g1 nw)
 |[],_,_,h,_,_=>h
 |(i,b)::nw,g0,g1,h,hi,hz=>by
  refine ED hT (nw:=nw) ⟨fun k hk=>?_,fun k hN hd hk=>?_,fun k hk=>?_,fun k hn hk=>?_⟩ (fun q hq=>hi q (by simp[hq])) (fun q hq=>hz q (by simp[hq]))
  ·by_cases e:k=i
   ·subst e;rw[Am];simp
   ·rw[Aj _ _ e];exact h.keep k hk
  ·have e:k≠i:=by
    rintro rfl
    rcases hi (k,b) (by simp) with q|q
    ·simp only at q;omega
    ·exact hd q
   rw[Aj _ _ e,Aj _ _ e];exact h.off k hN hd hk
  ·by_cases e:k=i
   ·subst e;rw[Am,Am]
   ·rw[Aj _ _ e,Aj _ _ e];exact h.same k hk
  ·rw[Aj _ _ (by rintro rfl;exact hk (hz (k,b) (by simp)))];exact h.far k hn hk
theorem Aos {S:Nat->Prop}{dst:Option Nat}{m x:List Nat}(hm:∀i∈m++x,hp i≠none∧S i):GO N S dst hp Cf (R9 (Ag hp m) x) (R9 (Ag Cf m) x):=by
 refine⟨fun i hi h=>?_,fun i hN hd hi=>?_,fun i hi=>?_,fun i hn hi=>?_⟩
 ·rw[Fm] at h;have h1:Ag hp m i≠none:=fun e=>hi (Dx.1 e)
  split at h
  ·cases hq:Ag hp m i with
   |none=>exact h1 hq
   |some b=>rw[hq] at h;cases h
  ·exact h1 h
 ·have e:i ∉ m∧i ∉ x:=by
   refine⟨fun h=>?_,fun h=>?_⟩<;>(rcases hi with hi|hi)
   ·exact hi (hm i (by simp[h])).2
   ·exact (hm i (by simp[h])).1 hi
   ·exact hi (hm i (by simp[h])).2
   ·exact (hm i (by simp[h])).1 hi
  rw[Fm,Fm,if_neg e.2,if_neg e.2,Bv,Bv,if_neg e.1,if_neg e.1];exact⟨rfl,rfl⟩
 ·rw[Fm,Fm,Bv,Bv,hi]
 ·rw[Fm,Bv,if_neg (fun h=>hn (hm i (by simp[h])).2),if_neg (fun h=>hn (hm i (by simp[h])).2)]
theorem RO (hn:Rel none none){C:Gl}{call:An}{f:FuncId}{c:Call}{K:St->Option R}{K':St->Option R'}{S:Nat->Prop}(Iy:c.args.toList.map (Bz tm)=c.args.toList.map (Bz tm')) (hS:∀i,S i->hp i=Cf i∨(hp i=none∧∀b,Rel none b))
  (hp_:∀p∈c.args.toList.map (Bz tm'),∀i∈Bs p,S i) (hc:∀p∈c.args.toList.map (Bz tm'),∀i∈Bs p,∀c,Cf i=some (.st c)->∀q∈c,∀k∈Ap q,S k)
  (IP:∀d,o.dst=some d->hp d=Cf d)(hNN:∀i,N<=i->hp i=Cf i)
  (hK:∀v Cs E0,GO N S o.dst hp Cf Cs E0->Rel (K ⟨Bl tm o.dst v,Cs⟩) (K' ⟨Bl tm' o.dst v,E0⟩)):Rel (Xt C P N call ⟨tm,hp⟩ o f c K) (Xt C P N call ⟨tm',Cf⟩ o f c K'):=by
 unfold Xt;simp only[Iy];refine BK hn hS hp_ hc fun vs m x l hm=>Ay hn fun hb=>KH hn fun rv ro=>Xe hn fun ws bs GI=>Ay hn fun _=>?_
 simp only[Bool.and_eq_true] at hb;have hN:0<N:=Nat.lt_of_succ_le (Nat.le_of_ble_eq_true hb.1.2);rw[RW hNN hN];by_cases ZY:∃i∈l.flatMap Gc.ids,hp i≠Cf i
 ·obtain⟨i,hi,Eo⟩:=ZY;obtain⟨h1,h2⟩:=hm i (List.mem_append.2 (.inr hi));rcases hS i h2 with h|⟨h,_⟩
  ·exact absurd h Eo
  ·exact absurd h h1
 have hl:∀i∈l.flatMap Gc.ids,hp i≠none∧S i∧hp i=Cf i:=fun i hi=>⟨(hm i (List.mem_append.2 (.inr hi))).1,(hm i (List.mem_append.2 (.inr hi))).2,Classical.byContradiction fun h=>ZY ⟨i,hi,h⟩⟩
 have hT0:GO N S o.dst hp Cf (R9 (Ag hp m) x) (R9 (Ag Cf m) x):=Aos fun i hi=>hm i (List.mem_append.2 (.inl hi))
 refine Sc hn hT0 hl fun h0 h1 bs' hT A2z=>?_
 have ZQ:∀q∈bs++bs',N<=q.1∨o.dst=some q.1:=by
  intro q hq;rcases List.mem_append.1 hq with hq|hq
  ·obtain⟨j,hj⟩:=GI q hq;cases hd:o.dst with
   |none=>
    rw[hd] at hj;left;rw[hj];exact Nat.le_add_right _ _
   |some d=>
    rw[hd] at hj;change q.1=d+N*j at hj;cases j with
    |zero=>right;rw[hj];simp
    |succ j=>left;rw[hj,Nat.mul_add];omega
  ·obtain⟨k,hk⟩:=A2z q hq;left;rw[hk];unfold SK;exact Nat.le_mul_of_pos_right _ (by omega)
 have Zh:∀q∈bs++bs',h0 q.1=h1 q.1:=by
  intro q hq;refine hT.same q.1 ?_;rcases ZQ q hq with h|h
  ·exact hNN _ h
  ·exact IP _ h
 rw[ID Zh]
 exact Ay hn fun hb=>hK _ _ _ (ED hT hT ZQ fun q hq=>by
  cases hz:hp q.1 with
  |none=>rfl
  |some c=>exact absurd ((Zh q hq).trans ((Bk hb).1 q.1 q.2 hq)) (hT.keep q.1 (by rw[hz];simp)))
theorem Jk (hn:Rel none none){C:Gl}{call:An}{K:St->Option R}{K':St->Option R'}(Iy:∀x∈o.op.operands.toList,Bz tm x=Bz tm' x)
  (hS:∀i,T7 o tm' Cf i->hp i=Cf i∨(hp i=none∧∀b,Rel none b)) (IP:∀d,o.dst=some d->hp d=Cf d)(hNN:∀i,N<=i->hp i=Cf i)
  (hK:∀v Cs E0,GO N (T7 o tm' Cf) o.dst hp Cf Cs E0->Rel (K ⟨Bl tm o.dst v,Cs⟩) (K' ⟨Bl tm' o.dst v,E0⟩)):Rel (Td C P N call ⟨tm,hp⟩ o K) (Td C P N call ⟨tm',Cf⟩ o K'):=by
 unfold Td;have hl:∀x∈o.op.operands.toList,∀i∈Bs (Bz tm' x),T7 o tm' Cf i:=fun x hx i hi=>.inl ⟨x,hx,hi⟩
 have Q1:Mt o.op=false->∀x∈o.op.operands.toList,∀i∈Bs (Bz tm' x),∀c,Cf i=some (.st c)->∀q∈c,∀k∈Ap q,T7 o tm' Cf k:=fun ha x hx i hi c hc q hq k hk=>.inr ⟨ha,i,c,⟨x,hx,hi⟩,hc,q,hq,hk⟩
 generalize hLd:T7 o tm' Cf=S at *
 generalize hop:o.op=op at *
 split
 ·rename_i t x y;simp only[Iy x (by simp[Op.operands]),Iy y (by simp[Op.operands])]
  refine Ay hn fun hd=>RH (N:=N) hn hS (fun i hi=>hl x (by simp[Op.operands]) i (Ji hi)) (fun i hi=>hl y (by simp[Op.operands]) i (Fd hi)) fun Cs E0 hh=>?_
  have hd':=Option.isNone_iff_eq_none.1 hd;have:=hK .top Cs E0 (by rw[hd'];exact hh)
  rw[hd'] at this;exact this
 ·rename_i c
  have Jy:∀x∈c.args.toList,x∈(Op.call c).operands.toList:=by
   intro x hx;simp only[Op.operands,Call.operands,Array.toList_append,List.mem_append];exact .inr hx
  split
  ·rename_i hc;refine C9 hn fun d hd=>Bh hn fun x _ hx=>Bh hn fun y _ hy=>Eu hn (Bh hn fun _ _ _=>Bh hn fun _ _ _=>?_)
   subst hy;have hxm:=Jy x (by rw[hx];simp)
   have hym:=Jy y (by rw[hx];simp)
   simp only[Iy x hxm,Iy y hym];refine Uw hn hS (IP d hd) (fun i hi=>hl x hxm i (Fd hi)) (fun i hi=>hl y hym i (Fd hi)) fun v Cs E0 hh=>?_
   have:=hK v Cs E0 (by rw[hd];exact hh N)
   rw[hd] at this;exact this
  ·rename_i hc;refine Bh hn fun x _ hx=>Bh hn fun y _ hy=>Eu hn (Bh hn fun _ _ _=>Bh hn fun _ _ _=>?_)
   subst hy;have hxm:=Jy x (by rw[hx];simp)
   have hym:=Jy y (by rw[hx];simp)
   simp only[Iy x hxm,Iy y hym];exact VH hn hS (fun i hi=>hl x hxm i (Fd hi)) (fun i hi=>hl y hym i (Fd hi)) hK
  ·rename_i f hcf;refine RO hn (List.map_congr_left fun x hx=>Iy x (Jy x hx)) hS (fun p hp i hi=>?_) (fun p hp i hi=>?_) IP hNN hK
   ·obtain⟨x,hx,rfl⟩:=List.mem_map.1 hp;exact hl x (Jy x hx) i hi
   ·obtain⟨x,hx,rfl⟩:=List.mem_map.1 hp;exact Q1 (by simp only[Mt,hcf]) x (Jy x hx) i hi
  ·exact hn
 ·exact hn
theorem CF (hn:Rel none none){C:Gl}{call:An}{K:St->Option R}{K':St->Option R'}(Iy:∀x∈o.op.operands.toList,Bz tm x=Bz tm' x)(hK:∀v Cs,(∀i,hp i≠none->Cs i≠none)->Rel (K ⟨Bl tm o.dst v,Cs⟩) (K' ⟨Bl tm' o.dst v,Cs⟩)):Rel (Td C P N call ⟨tm,hp⟩ o K) (Td C P N call ⟨tm',hp⟩ o K'):=
 Jk hn Iy (fun _ _=>.inl rfl) (fun _ _=>rfl) (fun _ _=>rfl) fun v Cs E0 hT=>by
  have:Cs=E0:=funext fun i=>hT.same i rfl
  subst this;exact hK v Cs hT.keep
end
section
variable {R:Type} {r:R} {C:Gl} {P:Program} {N:Nat} {call:An} {ops:Array Oper} {o x:Oper} {s:St} {K:St->Option R}
theorem LK {tm:Nat->PV}{hp Cs:Nat->Option Bo}{tm':Nat->PV}{q:Q9}(hm:G5 P o.op=false)(ht:∀t∈looks ops o,tm t=tm' t)(h:gE C P N call ops o ⟨tm,hp⟩=some q):gE C P N call ops o ⟨tm',Cs⟩=some q:=
 Wr (s:=⟨tm,hp⟩) (s':=⟨tm',Cs⟩) ht (fun h=>by rw[hm] at h;cases h) h
theorem Ym {tm:Nat->PV}{hp:Nat->Option Bo}(hm:G5 P o.op=false)(h:Dm C P N call ops o ⟨tm,hp⟩ K=some r):
  ∃v nw,gE C P N call ops o ⟨tm,hp⟩=some (v,[],nw)∧Fz N o.dst=true∧Bq hp nw=true∧(∀p∈nw,o.dst=some p.1)∧K ⟨Bl tm o.dst v,Ar hp nw⟩=some r:=by
 have hM:Qk C P o.op=false:=by
  cases hh:Qk C P o.op
  ·rfl
  ·rw[Wq hh] at hm;cases hm
 rw[Jh (by simp[Gf,hM])] at h
 cases e:gE C P N call ops o ⟨tm,hp⟩ with
 |none=>rw[e] at h;cases h
 |some q=>
  obtain⟨v,fz,nw⟩:=q;obtain⟨h1,h2⟩:=(Sa e).1 hm;simp only at h1 h2;subst h1;rw[e] at h;obtain⟨hb,h⟩:=Al h;simp only[Bool.and_eq_true] at hb;exact⟨v,nw,rfl,hb.1,hb.2,h2,h⟩
theorem EK {tm:Nat->PV}{hp:Nat->Option Bo}{v:PV}{nw:List (Nat × Bo)} (hm:G5 P o.op=false)(e:gE C P N call ops o ⟨tm,hp⟩=some (v,[],nw)) (hd:Fz N o.dst=true)(ha:Bq hp nw=true)(h:K ⟨Bl tm o.dst v,Ar hp nw⟩=some r):Dm C P N call ops o ⟨tm,hp⟩ K=some r:=by
 have hM:Qk C P o.op=false:=by
  cases hh:Qk C P o.op
  ·rfl
  ·rw[Wq hh] at hm;cases hm
 rw[Jh (by simp[Gf,hM]),e]
 show A9 _ _=_;have ha':Bq hp nw=true:=ha;rw[hd,ha'];exact h
theorem L1 {hp:Nat->Option Bo}{nw:List (Nat × Bo)} (ha:Bq hp nw=true){i:Nat}(hi:∀p∈nw,p.1≠i):Ar hp nw i=hp i:=
 (D6 (Bk ha).2).2 i fun b hb=>hi _ hb rfl
theorem Ahj {hp Cs:Nat->Option Bo}{nw:List (Nat × Bo)} (ha:Bq hp nw=true){g:Nat->Option Bo}(h1:∀i,(∀p∈nw,p.1≠i)->g i=Cs i) (h2:∀i,(∃p∈nw,p.1=i)->g i=Ar hp nw i) (ha':Bq Cs nw=true):g=Ar Cs nw:=by
 funext i
 by_cases h:∃p∈nw,p.1=i
 ·rw[h2 i h];obtain⟨⟨j,b⟩,hp,rfl⟩:=h;rw[(D6 (Bk ha).2).1 j b hp,(D6 (Bk ha').2).1 j b hp]
 ·have h':∀p∈nw,p.1≠i:=fun p hp e=>h ⟨p,hp,e⟩
  rw[h1 i h',L1 ha' h']
theorem Alm (ap:Wl C P ops x o)(hx:Gf C P ops x s.tm=true)
  (h:Dm C P N call ops x s (fun s1=>Dm C P N call ops o s1 K)=some r):Dm C P N call ops o s (fun s1=>Dm C P N call ops x s1 K)=some r:=by
 have hm:G5 P o.op=false:=ap.mx (by unfold Gf at hx;simp only[Bool.and_eq_true] at hx;exact hx.1)
 rw[Hs hx] at h;obtain⟨tm,hp⟩:=s;have look:∀v,∀t∈looks ops o,Bl tm x.dst v t=tm t:=fun v=>Ee ap.xo
 have h1:=Jk (P:=P) (N:=N) (o:=x) (tm:=tm) (tm':=tm) (hp:=hp) (Cf:=hp) (K:=fun s1=>Dm C P N call ops o s1 K) (K':=fun _=>none)
  (Rel:=fun (a:Option R)(_:Option R)=>a=some r->∃v nw,gE C P N call ops o ⟨tm,hp⟩=some (v,[],nw)∧Fz N o.dst=true∧(∀p∈nw,o.dst=some p.1)∧Bq hp nw=true) (fun h=>by cases h) (fun _ _=>rfl) (fun _ _=>.inl rfl) (fun _ _=>rfl) (fun _ _=>rfl) (fun v Cs _ hT h=>by
   obtain⟨u,nw,hu,hd,ha,hn,_⟩:=Ym hm h;refine⟨u,nw,LK hm (look v) hu,hd,hn,Od ha fun i b hi=>?_⟩
   cases hh:hp i with
   |none=>rfl
   |some c=>exact absurd ((Bk ha).1 i b hi) (hT.keep i (by rw[hh];simp))) h
 obtain⟨v,nw,hv,hd,hn,ha⟩:=h1;refine EK hm hv hd ha ?_;have t2:∀t∈looks ops x,tm t=Bl tm o.dst v t:=fun t ht=>(Ee ap.ox t ht).symm
 rw[Hs (by rw[←G2 t2];exact hx)]
 refine Jk (P:=P) (N:=N) (o:=x) (tm:=tm) (tm':=Bl tm o.dst v) (hp:=hp) (Cf:=Ar hp nw) (Rel:=fun (a b:Option R)=>a=some r->b=some r) (fun h=>by cases h) (E3 t2) (fun i _=>?_) (fun d hxd=>?_) (fun i hi=>(L1 ha fun p hp e=>by have:=Oq hd (hn p hp);omega).symm) (fun u Cs E0 hT h=>?_) h
 ·by_cases hi:∃p∈nw,p.1=i
  ·obtain⟨⟨j,b⟩,Cf,rfl⟩:=hi;exact .inr ⟨(Bk ha).1 j b Cf,fun _ h=>by cases h⟩
  ·exact .inl (L1 ha fun p hp e=>hi ⟨p,hp,e⟩).symm
 ·refine (L1 ha fun p hp e=>?_).symm
  have:=hn p hp;rw[e] at this;exact ap.ne d hxd this
 ·obtain⟨v',nw',Np,_,ha',_,h'⟩:=Ym hm h;have he:=LK (Cs:=hp) hm (look u) Np;rw[hv] at he;simp only[Option.some.injEq,Prod.mk.injEq,true_and] at he;obtain⟨rfl,rfl⟩:=he
  have hh:E0=Ar Cs nw:=by
   refine Ahj ha (fun i hi=>?_) (fun i hi=>?_) ha'
   ·exact (hT.same i (L1 ha hi).symm).symm
   ·obtain⟨⟨j,b⟩,Cf,rfl⟩:=hi;refine (hT.off j (Oq hd (hn _ Cf)) (fun e=>ap.ne j e (hn _ Cf)) (.inr ((Bk ha).1 j b Cf))).2
  rw[hh,←Jv ap.ne];exact h'
theorem Ajf (hw:SC C P o s)(ap:Wl C P ops x o)(ho:Gf C P ops o s.tm=true)
  (h:Dm C P N call ops x s (fun s1=>Dm C P N call ops o s1 K)=some r):Dm C P N call ops o s (fun s1=>Dm C P N call ops x s1 K)=some r:=by
 have hm:G5 P x.op=false:=ap.mo (by unfold Gf at ho;simp only[Bool.and_eq_true] at ho;exact ho.1)
 obtain⟨tm,hp⟩:=s;obtain⟨v,nw,hv,hd,ha,hn,h1⟩:=Ym hm h;have t1:∀t∈looks ops o,Bl tm x.dst v t=tm t:=Ee ap.xo;change Dm C P N call ops o ⟨Bl tm x.dst v,Ar hp nw⟩ K=some r at h1;rw[Hs (by rw[G2 t1];exact ho)] at h1
 rw[Hs ho];have hMo:Qk C P o.op=true:=by unfold Gf at ho;simp only[Bool.and_eq_true] at ho;exact ho.1
 have Al7:∀i,T7 o tm hp i->hp i≠none:=by
  rintro i (⟨y,hy,hi⟩|⟨Rw,id,c,⟨y,hy,hi⟩,hc,p,Cf,hk⟩)
  ·exact hw.1 y hy i hi
  ·exact hw.2 hMo Rw y hy id hi c hc p Cf i hk
 refine Jk (P:=P) (N:=N) (o:=o) (tm:=Bl tm x.dst v) (tm':=tm) (hp:=Ar hp nw) (Cf:=hp) (Rel:=fun (a b:Option R)=>a=some r->b=some r) (fun h=>by cases h) (E3 t1) (fun i hi=>?_) (fun d hod=>?_) (fun i hi=>L1 ha fun p hp e=>by have:=Oq hd (hn p hp);omega) (fun u Cs E0 hT h=>?_) h1
 ·refine .inl (L1 ha fun p Cs e=>Al7 i hi ?_)
  rw[←e];exact (Bk ha).1 p.1 p.2 Cs
 ·refine L1 ha fun p Cs e=>?_
  have:=hn p Cs;rw[e] at this;exact ap.ne d this hod
 ·have N0:∀p∈nw,Cs p.1=Ar hp nw p.1∧E0 p.1=none:=by
   intro p hp2;have LB:=(Bk ha).1 p.1 p.2 hp2;have h3:=hT.off p.1 (Oq hd (hn p hp2)) (fun e=>ap.ne p.1 (hn p hp2) e) (.inl fun hL=>Al7 _ hL LB)
   exact⟨h3.1,h3.2.trans LB⟩
  have ha':Bq E0 nw=true:=Od ha fun i b hi=>(N0 (i,b) hi).2
  refine EK hm (LK hm (fun t ht=>(Ee ap.ox t ht).symm) hv) hd ha' ?_
  have hh:Cs=Ar E0 nw:=by
   refine Ahj ha (fun i hi=>?_) (fun i hi=>?_) ha'
   ·exact hT.same i (L1 ha hi)
   ·obtain⟨p,hp2,rfl⟩:=hi;exact (N0 p hp2).1
  rw[←Jv ap.ne,←hh];exact h
theorem Aui (hw:SC C P o s)(ap:Wl C P ops x o)
  (h:Dm C P N call ops x s (fun s1=>Dm C P N call ops o s1 K)=some r):Dm C P N call ops o s (fun s1=>Dm C P N call ops x s1 K)=some r:=by
 cases hx:Gf C P ops x s.tm
 ·cases ho:Gf C P ops o s.tm
  ·exact WC hw ap.xo ap.ne ap.ox hx ho h
  ·exact Ajf hw ap ho h
 ·exact Alm ap hx h
theorem Jn (h:Rg P o.op=true):Qk C P o.op=false:=by
 unfold Rg at h;split at h
 ·rename_i ho;rw[ho];rfl
 ·rename_i ho;rw[ho];rfl
 ·cases h
def HF (P:Program)(ops:Array Oper)(o:Oper)(tm:Nat->PV):Prop:=Rg P o.op=true∨Gj ops o tm=some false
theorem Tv {tm tm':Nat->PV}(h:∀t∈looks ops o,tm t=tm' t)(hl:HF P ops o tm):HF P ops o tm':=by
 rcases hl with hl|hl
 ·exact .inl hl
 ·exact .inr (by rw[←J1 h];exact hl)
theorem JF {tm:Nat->PV}(hl:HF P ops o tm):Gf C P ops o tm=false:=by
 rcases hl with hl|hl
 ·simp[Gf,Jn hl]
 ·simp[Gf,hl]
theorem XS {q:Q9}(hl:HF P ops o s.tm)(h:gE C P N call ops o s=some q):q.2.1=[]∧q.2.2=[]:=by
 unfold gE at h;split at h
 ·cases h
 ·rename_i hv
  have hl:Rg P o.op=true:=by
   rcases hl with hl|hl
   ·exact hl
   ·rw[hv] at hl;cases hl
  rw[Jn hl] at h;have h:ZX C P N call o s=some q:=h;unfold Rg at hl;split at hl
  ·rename_i t a ho;unfold ZX CS at h;rw[ho] at h
   have:=IL (nz:=C.nz N) (P:=P) (f:=rd s.hp) (f':=rd s.hp) (g:=Ic s.hp) (g':=Ic s.hp) (t:=t) (x:=Bz s.tm a) (Rel:=fun (a b:Option Q9)=>∀q,a=some q->q.2.1=[]∧q.2.2=[])
    (K:=fun v=>some (v,[],[])) (K':=fun v=>some (v,[],[])) (fun _ h=>by cases h) (fun _ _=>.inl ⟨rfl,rfl⟩) (fun v q hq=>by cases hq;exact⟨rfl,rfl⟩)
   exact this q h
  ·rename_i src dst y ho;unfold ZX CS at h;rw[ho] at h;simp only at h;unfold DQ at h;split at hl
   ·rename_i hd;rw[hd] at h;simp only at h;split at h
    ·obtain⟨_,_,h⟩:=Dk h;obtain⟨_,_,h⟩:=B9 h;cases h;exact⟨rfl,rfl⟩
    ·split at h
     ·exact Oz (f:=Ic s.hp) (f':=Ic s.hp) (K':=fun _ _=>(none:Option Q9)) (Rel:=fun (a _:Option Q9)=>a=some q->q.2.1=[]∧q.2.2=[]) (fun h=>by cases h) (fun _ _=>.inl rfl) (fun n c h=>by
       obtain⟨_,h⟩:=Al h;obtain⟨_,_,h⟩:=B9 h;obtain⟨_,_,h⟩:=B9 h;cases h;exact⟨rfl,rfl⟩) h
     ·exact Oz (f:=Ic s.hp) (f':=Ic s.hp) (K':=fun _ _=>(none:Option Q9)) (Rel:=fun (a _:Option Q9)=>a=some q->q.2.1=[]∧q.2.2=[]) (fun h=>by cases h) (fun _ _=>.inl rfl) (fun n c h=>by
       obtain⟨_,h⟩:=Al h;obtain⟨_,_,h⟩:=B9 h;obtain⟨_,_,h⟩:=B9 h;cases h;exact⟨rfl,rfl⟩) h
     ·cases h
    ·cases h
   ·cases hl
  ·cases hl
 ·cases h;exact⟨rfl,rfl⟩
theorem YP {tm tm':Nat->PV}{hp:Nat->Option Bo}(h:∀t∈looks ops o,tm t=tm' t){i:Nat}(hi:T7 o tm hp i):T7 o tm' hp i:=by
 have he:=E3 (ops:=ops) (o:=o) h;rcases hi with⟨y,hy,hi⟩|⟨Rw,id,c,⟨y,hy,hi⟩,hc,q⟩
 ·exact .inl ⟨y,hy,by rw[←he y hy];exact hi⟩
 ·exact .inr ⟨Rw,id,c,⟨y,hy,by rw[←he y hy];exact hi⟩,hc,q⟩
theorem Amq {hp Cs:Nat->Option Bo}{i:Nat}(h:Cs i=hp i):rd Cs i=rd hp i∧Ic Cs i=Ic hp i:=by
 unfold rd Ic;rw[h];exact⟨rfl,rfl⟩
theorem Xy {tm:Nat->PV}{hp:Nat->Option Bo}(hl:HF P ops o tm)(h:Dm C P N call ops o ⟨tm,hp⟩ K=some r):
  ∃v,gE C P N call ops o ⟨tm,hp⟩=some (v,[],[])∧Fz N o.dst=true∧K ⟨Bl tm o.dst v,hp⟩=some r:=by
 rw[Jh (JF hl)] at h;cases e:gE C P N call ops o ⟨tm,hp⟩ with
 |none=>rw[e] at h;cases h
 |some q=>
  obtain⟨v,fz,nw⟩:=q;obtain⟨h1,h2⟩:=XS hl e;simp only at h1 h2;subst h1;subst h2;rw[e] at h;obtain⟨hb,h⟩:=Al h;simp only[Bool.and_eq_true] at hb;exact⟨v,rfl,hb.1,h⟩
theorem FI {tm:Nat->PV}{hp:Nat->Option Bo}{v:PV}(hl:HF P ops o tm)(e:gE C P N call ops o ⟨tm,hp⟩=some (v,[],[])) (hd:Fz N o.dst=true)(h:K ⟨Bl tm o.dst v,hp⟩=some r):Dm C P N call ops o ⟨tm,hp⟩ K=some r:=by
 rw[Jh (JF hl),e];show A9 _ _=_;have ha:Bq hp []=true:=rfl;simp only[hd,ha,Bool.and_self];exact h
theorem Ai7 (hw:SC C P o s)(xo:∀d,x.dst=some d->d ∉ looks ops o)(ne:∀d,x.dst=some d->o.dst≠some d)(ox:∀d,o.dst=some d->d ∉ looks ops x)(hl:HF P ops o s.tm)
  (PK:∀y∈o.op.operands.toList,∀i∈Bs (Bz s.tm y),¬T7 x s.tm s.hp i) (hx:Gf C P ops x s.tm=true)
  (h:Dm C P N call ops x s (fun s1=>Dm C P N call ops o s1 K)=some r):Dm C P N call ops o s (fun s1=>Dm C P N call ops x s1 K)=some r:=by
 rw[Hs hx] at h;obtain⟨tm,hp⟩:=s;have look:∀v,∀t∈looks ops o,Bl tm x.dst v t=tm t:=fun v=>Ee xo
 have back:∀{u:PV} {Cs:Nat->Option Bo} {q:Q9},(∀y∈o.op.operands.toList,∀i∈Bs (Bz tm y),Cs i=hp i)->gE C P N call ops o ⟨Bl tm x.dst u,Cs⟩=some q->gE C P N call ops o ⟨tm,hp⟩=some q:=
  fun hh e=>Wr (s:=⟨Bl tm x.dst _,_⟩) (s':=⟨tm,hp⟩) (look _) (fun _ y hy i hi=>.inl (Amq (hh y hy i hi))) e
 have h1:=Jk (P:=P) (N:=N) (o:=x) (tm:=tm) (tm':=tm) (hp:=hp) (Cf:=hp) (K:=fun s1=>Dm C P N call ops o s1 K) (K':=fun _=>none)
  (Rel:=fun (a:Option R)(_:Option R)=>a=some r->∃v,gE C P N call ops o ⟨tm,hp⟩=some (v,[],[])∧Fz N o.dst=true) (fun h=>by cases h) (fun _ _=>rfl) (fun _ _=>.inl rfl) (fun _ _=>rfl) (fun _ _=>rfl) (fun v Cs _ hT h=>by
   obtain⟨u,hu,hd,_⟩:=Xy (Tv (fun t ht=>(look v t ht).symm) hl) h
   exact⟨u,back (fun y hy i hi=>hT.far i (PK y hy i hi) (hw.1 y hy i hi)) hu,hd⟩) h
 obtain⟨v,hv,hd⟩:=h1;refine FI hl hv hd ?_;have t2:∀t∈looks ops x,tm t=Bl tm o.dst v t:=fun t ht=>(Ee ox t ht).symm
 rw[Hs (by rw[←G2 t2];exact hx)]
 refine Jk (P:=P) (N:=N) (o:=x) (tm:=tm) (tm':=Bl tm o.dst v) (hp:=hp) (Cf:=hp) (Rel:=fun (a b:Option R)=>a=some r->b=some r) (fun h=>by cases h) (E3 t2) (fun _ _=>.inl rfl) (fun _ _=>rfl) (fun _ _=>rfl) (fun u Cs E0 hT h=>?_) h
 have e1:Cs=E0:=funext fun i=>hT.same i rfl
 subst e1;obtain⟨v',Np,_,h'⟩:=Xy (Tv (fun t ht=>(look u t ht).symm) hl) h
 have he:=back (fun y hy i hi=>hT.far i (fun hR=>PK y hy i hi (YP (fun t ht=>(t2 t ht).symm) hR)) (hw.1 y hy i hi)) Np
 rw[hv] at he;simp only[Option.some.injEq,Prod.mk.injEq,and_true] at he;subst he;rw[←Jv ne];exact h'
theorem Akd (xo:∀d,x.dst=some d->d ∉ looks ops o)(ne:∀d,x.dst=some d->o.dst≠some d)(ox:∀d,o.dst=some d->d ∉ looks ops x)(hl:HF P ops x s.tm)
  (PK:∀y∈x.op.operands.toList,∀i∈Bs (Bz s.tm y),¬T7 o s.tm s.hp i) (ho:Gf C P ops o s.tm=true)
  (h:Dm C P N call ops x s (fun s1=>Dm C P N call ops o s1 K)=some r):Dm C P N call ops o s (fun s1=>Dm C P N call ops x s1 K)=some r:=by
 obtain⟨tm,hp⟩:=s;obtain⟨v,hv,hd,h1⟩:=Xy hl h;have t1:∀t∈looks ops o,Bl tm x.dst v t=tm t:=Ee xo;rw[Hs (by rw[G2 t1];exact ho)] at h1
 rw[Hs ho];refine Jk (P:=P) (N:=N) (o:=o) (tm:=Bl tm x.dst v) (tm':=tm) (hp:=hp) (Cf:=hp) (Rel:=fun (a b:Option R)=>a=some r->b=some r) (fun h=>by cases h) (E3 t1) (fun _ _=>.inl rfl) (fun _ _=>rfl) (fun _ _=>rfl) (fun u Cs E0 hT h=>?_) h1
 have e1:Cs=E0:=funext fun i=>hT.same i rfl
 subst e1;have t2:∀t∈looks ops x,tm t=Bl tm o.dst u t:=fun t ht=>(Ee ox t ht).symm
 refine FI (Tv t2 hl) (Wr (s:=⟨tm,hp⟩) (s':=⟨Bl tm o.dst u,Cs⟩) t2 (fun _ y hy i hi=>?_) hv) hd ?_
 ·have hi:i∈Bs (Bz tm y):=by rw[E3 t2 y hy];exact hi
  by_cases hn:hp i=none
  ·exact .inr ⟨XC hn,J6 hn⟩
  ·obtain⟨h3,h4⟩:=Amq (hT.far i (PK y hy i hi) hn);exact .inl ⟨h3.symm,h4.symm⟩
 ·rw[←Jv ne];exact h
def HW (P:Program)(x:Oper)(s s1:St):Prop:=(∀t,x.dst≠some t->s1.tm t=s.tm t)∧(∀i,s.hp i≠none->s1.hp i≠none)∧(G5 P x.op=false->∀i,s.hp i≠none->s1.hp i=s.hp i)
theorem Nt {tm:Nat->PV}{d:Option Tmp}{v:PV}{t:Nat}(h:d≠some t):Bl tm d v t=tm t:=by
 cases d with
 |none=>rfl
 |some d=>exact Aj _ _ (by rintro rfl;exact h rfl)
theorem FF {K':St->Option R}(h:Dm C P N call ops x s K=some r)(hK:∀s1,HW P x s s1->K s1=some r->K' s1=some r):Dm C P N call ops x s K'=some r:=by
 cases hx:Gf C P ops x s.tm
 ·rw[Jh hx] at h ⊢;cases ex:gE C P N call ops x s with
  |none=>rw[ex] at h;cases h
  |some q=>
   rw[ex] at h;obtain⟨hb,h1⟩:=Al h;simp only[Bool.and_eq_true] at hb;show A9 _ _=_;rw[hb.1,hb.2];refine hK _ ⟨fun t ht=>Nt ht,fun i hi=>Me hb.2 hi,fun hm i hi=>?_⟩ h1
   show Ar (Ag s.hp q.2.1) q.2.2 i=s.hp i;rw[Fi hb.2 hi,((Sa ex).1 hm).1];simp
 ·rw[Hs hx] at h ⊢
  exact CF (P:=P) (N:=N) (o:=x) (tm:=s.tm) (tm':=s.tm) (hp:=s.hp) (Rel:=fun (a b:Option R)=>a=some r->b=some r) (fun h=>by cases h) (fun _ _=>rfl) (fun v Cs hh h=>hK _ ⟨fun t ht=>Nt ht,hh,fun hm=>by
   have hM:Qk C P x.op=true:=by unfold Gf at hx;simp only[Bool.and_eq_true] at hx;exact hx.1
   rw[Wq hM] at hm;cases hm⟩ h) h
theorem SC.keeps {s1:St}(h:SC C P o s)(ap:Wl C P ops x o)(hk:HW P x s s1):SC C P o s1:=by
 have hop:∀y∈o.op.operands.toList,Bz s1.tm y=Bz s.tm y:=fun y hy=>E3 (ops:=ops) (o:=o) (fun t ht=>hk.1 t fun hd=>ap.xo t hd ht) y hy
 refine⟨fun y hy i hi=>?_,fun hM hA y hy i hi c hc p hp k hkk=>?_⟩
 ·rw[hop y hy] at hi;exact hk.2.1 i (h.1 y hy i hi)
 ·rw[hop y hy] at hi;have hi0:=h.1 y hy i hi;rw[hk.2.2 (ap.mo hM) i hi0] at hc;exact hk.2.1 k (h.2 hM hA y hy i hi c hc p hp k hkk)
theorem EY:∀(l:List Oper){s:St}{K:St->Option R},SC C P o s->(∀x∈l,Wl C P ops x o)->Mm C P N call ops l s (fun s1=>Dm C P N call ops o s1 K)=some r->Dm C P N call ops o s (fun s1=>Mm C P N call ops l s1 K)=some r
 |[],_,_,_,_,h=>h
 |x::l,s,K,hw,ap,h=>by
  refine Aui hw (ap x (by simp)) ?_
  refine FF (K:=fun s1=>Mm C P N call ops l s1 (fun s2=>Dm C P N call ops o s2 K)) h fun s1 hk h1=>?_
  exact EY l (hw.keeps (ap x (by simp)) hk) (fun y hy=>ap y (List.mem_cons_of_mem _ hy)) h1
theorem Rk:∀(l l':List Oper){s:St}{K:St->Option R},Mm C P N call ops (l++l') s K=Mm C P N call ops l s (fun s1=>Mm C P N call ops l' s1 K)
 |[],_,_,_=>rfl
 |x::l,l',s,K=>by
  show Dm C P N call ops x s (fun s1=>Mm C P N call ops (l++l') s1 K)=Dm C P N call ops x s (fun s1=>Mm C P N call ops l s1 _)
  congr 1
  funext s1
  exact Rk l l'
theorem ZE {l l':List Oper}(hw:SC C P o s)(ap:∀x∈l,Wl C P ops x o)(h:Mm C P N call ops (l++o::l') s K=some r):Dm C P N call ops o s (fun s1=>Mm C P N call ops (l++l') s1 K)=some r:=by
 rw[Rk] at h;have:=EY l hw ap h;refine FF this fun s1 _ h1=>?_
 rw[Rk];exact h1
end
open Go.RowKit
section
variable {R:Type} {r:R} {P:Program} {N:Nat} {w0:World} {X0:Hg} {Y:Nat->Prop} {β β':Bt} {s:St} {a:Act} {w w':World} {o:Oper} {ops:Array Oper} {C:Gl} {call:An} {K:St->Option R}
theorem EC (h:Cr N w0 X0 Y β s a w){j d:Nat}(hd:(ops[j]?).bind (·.dst)=some d) {v:Value}(ht:s.tm d=.sc v):yielded ops a.tmps j=match v with | .bool b=>some b|_=>none:=by
 have B7:d<N:=by
  rcases Nat.lt_or_ge d N with h'|h'
  ·exact h'
  ·rw[h.tmo d h'] at ht;cases ht
 have hv:=h.tms d B7;rw[ht] at hv;have hv:=Yh hv;have Agg:d<a.tmps.size:=by rw[h.tsz];exact B7
 have he:a.tmps[d]?=some v:=by
  rw[Array.getElem?_eq_getElem Agg];simp[Agg] at hv;rw[hv]
 unfold yielded;rw[hd];simp only[Option.bind_some,he];cases v<;>rfl
theorem Ub (h:Cr N w0 X0 Y β s a w){G:Ur}(J0:PF P G w0 X0)(Dq:∀f args res,call f args=some res->Df G P f args res){i:Nat}(hi:ops[i]?=some o) (hk:Dm C P N call ops o s K=some r):
  ∃s',K s'=some r∧∀(next:Act->World->Prop) (Q:Exit->Act->World->Prop),(∀a' w' β',Cr N w0 X0 Y β' s' a' w'->next a' w')->wpOp P ops Q i next a w:=by
 rw[ML] at hk
 have hw:∀b,Gj ops o s.tm=some b->Region.wanted o (yielded ops a.tmps)=b:=by
  intro b hb;unfold Gj at hb;unfold Region.wanted;cases hg:o.guard with
  |none=>rw[hg] at hb;simpa using hb
  |some q=>
   obtain⟨j,want⟩:=q;rw[hg] at hb;simp only at hb ⊢;cases hd:(ops[j]?).bind (·.dst) with
   |none=>rw[hd] at hb;cases hb
   |some d=>
    rw[hd] at hb;simp only at hb;split at hb
    ·rename_i b' ht;rw[EC h hd ht];simp at hb;rw[←hb];cases b'<;>cases want<;>rfl
    ·rename_i ht;rw[EC h hd ht];simp at hb;rw[hb];rfl
    ·cases hb
 split at hk
 ·cases hk
 ·rename_i hv;obtain⟨s',hs',hn⟩:=UF h J0 Dq hk;refine⟨s',hs',fun next Q Ad8=>?_⟩
  unfold wpOp;rw[hi];simp only[hw _ hv,if_true];exact .inl (hn next Q Ad8)
 ·rename_i hv;obtain⟨hd,hk⟩:=Al hk;refine⟨_,hk,fun next Q Ad8=>?_⟩
  unfold wpOp;rw[hi];simp only[hw _ hv];refine Ad8 _ _ β (h.put hd (Aw.sc _) (by simp[Bs,Ca,Ap]))
theorem Cr.known (h:Cr N w0 X0 Y β s a w){d:Nat}(hd:s.tm d=.ub):∃b,Cr N w0 X0 Y β ⟨Cn s.tm d (.sc (.bool b)),s.hp⟩ a w:=by
 have B7:d<N:=by
  rcases Nat.lt_or_ge d N with h'|h'
  ·exact h'
  ·rw[h.tmo d h'] at hd;cases hd
 have hu:=h.tms d B7;rw[hd] at hu;have H9:Aw w (C7 s.hp β Y) .ub (a.tmps.getD d undef):=hu
 obtain⟨b,hv⟩:∃b,a.tmps.getD d undef=.bool b:=by
  generalize a.tmps.getD d undef=x at H9;cases H9 with
  |ub b=>exact⟨b,rfl⟩
 refine⟨b,⟨h.dfr,h.tsz,fun i hi=>?_,fun i hi=>?_,h.box,h.inj,h.blt,fun i hi=>?_,h.wfB,h.ownd,h.rngB,h.pin,h.stp,h.Yx,h.Ylt,h.fr⟩⟩
 ·show Cn s.tm d _ i=_;rw[Aj _ _ (by omega)]
  exact h.tmo i hi
 ·by_cases e:i=d
  ·subst e;show Ea _ _ _ (Cn s.tm i _ i) _;rw[Am,hv];exact Aw.sc _
  ·show Ea _ _ _ (Cn s.tm d _ i) _;rw[Aj _ _ e];exact h.tms i hi
 ·by_cases e:i=d
  ·subst e;show ∀id∈Bs (Cn s.tm i _ i),_;rw[Am];simp[Bs,Ca,Ap]
  ·show ∀id∈Bs (Cn s.tm d _ i),_;rw[Aj _ _ e];exact h.wfT i hi
theorem KL {x y:Option R}(h:KC x y=some r):x=some r∧y=some r:=by
 unfold KC at h;split at h
 ·rename_i e;exact⟨h,e ▸ h⟩
 ·cases h
theorem LN (h:Cr N w0 X0 Y β s a w){F:St->Option R}(hk:SU ops o s F=some r):∃s',F s'=some r∧Cr N w0 X0 Y β s' a w:=by
 unfold SU at hk;split at hk
 ·exact⟨s,hk,h⟩
 ·split at hk
  ·exact⟨s,hk,h⟩
  ·split at hk
   ·rename_i d _ ht;obtain⟨b,hb⟩:=h.known ht;obtain⟨h1,h2⟩:=KL hk;cases b
    ·exact⟨_,h2,hb⟩
    ·exact⟨_,h1,hb⟩
   ·exact⟨s,hk,h⟩
theorem Uz {G:Ur}(J0:PF P G w0 X0)(Dq:∀f args res,call f args=some res->Df G P f args res){Q:Exit->Act->World->Prop}(hQ:∀s' a' w' β',K s'=some r->Cr N w0 X0 Y β' s' a' w'->Q .normal a' w'):
  ∀(l:List Nat) (os:List Oper),l.length=os.length->(∀(k i:Nat),l[k]?=some i->ops[i]?=os[k]?)->∀{s:St} {a:Act} {w:World} {β:Bt},Cr N w0 X0 Y β s a w->MR C P N call ops os s K=some r->wpOps P ops Q l a w
 |[],[],_,_,s,a,w,β,h,hk=>by
  show Q .normal a w;exact hQ s a w β hk h
 |[],_::_,hl,_,_,_,_,_,_,_=>by cases hl
 |_::_,[],hl,_,_,_,_,_,_,_=>by cases hl
 |i::l,o::os,hl,hi,s,a,w,β,h,hk=>by
  rw[wpOps_cons];obtain⟨s1,hk,h⟩:=LN h hk;obtain⟨s',hs',hn⟩:=Ub h J0 Dq (by simpa using hi 0 i rfl) hk
  exact hn _ _ fun a' w' β' h'=>Uz J0 Dq hQ l os (by simpa using hl) (fun k j hj=>by simpa using hi (k+1) j (by simpa using hj)) h' hs'
theorem Cr.drew (h:Cr N w0 X0 Y β s a w):Cr N w0 X0 Y β s a { w with drawn:=w.drawn+1 }:=by
 have:=h.stepR (d:=none) (v:=.top) (nw:=[]) (val:=undef) (w':={ w with drawn:=w.drawn+1 }) (β':=β) rfl rfl
  ⟨rfl,rfl,rfl,⟨Nat.le_refl _,fun _ _ _=>rfl,fun _ _=>Gn.refl _ _⟩,fun _ _=>rfl,by simp,by simp,by simp,by simp,by simp,.top _,by simp[Bs,Ca,Ap]⟩
 exact this
theorem LA (h:Cr N w0 X0 Y β s a w){G:Ur}(J0:PF P G w0 X0)(Dq:∀f args res,call f args=some res->Df G P f args res){id:Nat}{Q:Exit->Act->World->Prop}
  (hk:MR C P N call ops ops.toList s K=some r)(hQ:∀s' a' w' β',K s'=some r->Cr N w0 X0 Y β' s' a' w'->Q .normal a' w'):(Code.region id ops false).wp P Q a w:=by
 refine wp_region (Uz J0 Dq hQ (List.range ops.size) ops.toList (by simp) (fun k i hi=>?_) h hk)
 rw[List.getElem?_range] at hi
 ·simp at hi;subst hi;simp
 ·rcases Nat.lt_or_ge k ops.size with h'|h'
  ·exact h'
  ·rw[List.getElem?_eq_none (by simpa using h')] at hi;cases hi
def Lp (n:Nat)(listed:Array Bool):List Nat:=(List.range n).filter fun i=> !listed.getD i true
def Ap2 (ops:Array Oper)(listed:Array Bool)(o:Oper):Prop:=∀e∈o.after,Region.binds .any e=true->listed.getD e.on false=true
theorem testBit_or {a b j:Nat}:(a ||| b).testBit j=(a.testBit j||b.testBit j):=Nat.testBit_or a b j
theorem IC {acc:List Nat}{j:Nat}:∀(es:List Edge)(v:Nat),(es.foldl (fun s e=>bif Region.binds .any e then s ||| 2 ^ e.on ||| acc.getD e.on 0 else s) v).testBit j=true ->
  v.testBit j=true∨∃e∈es,Region.binds .any e=true∧(j=e.on∨(acc.getD e.on 0).testBit j=true)
 |[],v,h=>.inl h
 |e::es,v,h=>by
  rcases IC es _ h with h|⟨e',he',h⟩
  ·cases hb:Region.binds .any e<;>simp only[hb] at h
   ·exact .inl h
   ·simp only[cond_true,Nat.testBit_or,Bool.or_eq_true] at h;rcases h with (h|h)|h
    ·exact .inl h
    ·refine .inr ⟨e,by simp,hb,.inl ?_⟩
     rw[Nat.testBit_two_pow] at h;exact (of_decide_eq_true h).symm
    ·exact .inr ⟨e,by simp,hb,.inr h⟩
  ·exact .inr ⟨e',by simp[he'],h⟩
theorem Ps {listed:Array Bool}(hc:∀(j:Nat) oj,ops[j]?=some oj->listed.getD j false=true->Ap2 ops listed oj):
  ∀(rest done:List Oper) (acc:List Nat),ops.toList=done++rest->acc.length=done.length ->
   (∀(k:Nat) o,done[k]?=some o->Ap2 ops listed o->∀j,(acc.getD k 0).testBit j=true->listed.getD j false=true) ->
   ∀(k:Nat) o,ops[k]?=some o->Ap2 ops listed o->∀j,((Hr rest acc).getD k 0).testBit j=true->listed.getD j false=true
 |[],done,acc,he,_,h,k,o,ho,hf,j,hj=>by
  refine h k o ?_ hf j hj;rw[List.append_nil] at he;rw[←he]
  simpa using ho
 |o'::rest,done,acc,he,hl,h,k,o,ho,hf,j,hj=>by
  refine Ps hc rest (done++[o']) _ (by rw[he];simp) (by simp[hl]) ?_ k o ho hf j hj
  intro k o ho hf j hj;rcases Nat.lt_trichotomy k done.length with B7|heq|hgt
  ·rw[List.getElem?_append_left B7] at ho;rw[List.getD_eq_getElem?_getD,List.getElem?_append_left (by omega),←List.getD_eq_getElem?_getD] at hj
   exact h k o ho hf j hj
  ·subst heq;simp at ho;subst ho;rw[←hl] at hj;simp only[List.getD_eq_getElem?_getD,List.getElem?_append_right (Nat.le_refl _),Nat.sub_self,List.getElem?_cons_zero,Option.getD_some] at hj
   have hj:(o'.after.toList.foldl (fun s e=>bif Region.binds .any e then s ||| 2 ^ e.on ||| acc.getD e.on 0 else s) 0).testBit j=true:=by
    simpa only[List.getD_eq_getElem?_getD] using hj
   rcases IC _ _ hj with h0|⟨e,hm,hb,h1⟩
   ·simp at h0
   ·have FZ:=hf e (by simpa using hm) hb
    rcases h1 with h1|h1
    ·rw[h1];exact FZ
    ·cases hd:done[e.on]? with
     |none=>
      have:acc.getD e.on 0=0:=by
       rw[List.getD_eq_getElem?_getD,List.getElem?_eq_none (by rw[hl];exact List.getElem?_eq_none_iff.1 hd)]
       rfl
      rw[this] at h1;simp at h1
     |some oe=>
      have hoe:ops[e.on]?=some oe:=by
       rw[←Array.getElem?_toList,he,List.getElem?_append_left (by
        rcases Nat.lt_or_ge e.on done.length with h'|h'
        ·exact h'
        ·rw[List.getElem?_eq_none h'] at hd;cases hd)]
       exact hd
      exact h e.on oe hd (hc e.on oe hoe FZ) j h1
  ·rw[List.getElem?_eq_none (by simp;omega)] at ho
   cases ho
theorem Vl {bs:List Nat}:∀(l:List Oper)(n:Nat),BF C P ops bs l n=true->∀(k:Nat) o,l[k]?=some o->∀(j:Nat) x,ops[j]?=some x->j<n+k->EU C P ops x o=true->(bs.getD (n+k) 0).testBit j=true
 |[],_,_,k,o,ho,_,_,_,_,_=>by simp at ho
 |o'::l,n,h,k,o,ho,j,x,hx,hj,I1=>by
  simp only[BF,Bool.and_eq_true] at h;cases k with
  |zero=>
   simp at ho;subst ho
   have:=List.all_eq_true.1 h.1 (x,j) (by
    rw[List.mem_zipIdx_iff_getElem?]
    simpa using hx)
   simp only[I1,Bool.not_true,Bool.or_false,Bool.or_eq_true,Bool.not_eq_true'] at this;rcases this with h'|h'
   ·have:Nat.blt j n=true:=Nat.ble_eq_true_of_le (by omega)
    rw[this] at h';cases h'
   ·exact h'
  |succ k=>
   have:=Vl l (n+1) h.2 k o (by simpa using ho) j x hx (by omega) I1
   rwa [show n+(k+1)=n+1+k by omega]
theorem Ie {n i:Nat}{listed:Array Bool}:i∈Lp n listed↔i<n∧listed.getD i true=false:=by
 unfold Lp;simp[List.mem_filter]
theorem Uo {n i:Nat}{listed:Array Bool}(hi:i∈Lp n listed)(M3:listed.size=n):∃l1 l2,Lp n listed=l1++i::l2∧Lp n (listed.setIfInBounds i true)=l1++l2∧∀j∈l1,j<i:=by
 obtain⟨B7,I2⟩:=Ie.1 hi
 have hr:List.range n=List.range i++i::(List.range (n-i-1)).map (i+1 + ·):=by
  conv=>lhs;rw[show n=i+(1+(n-i-1)) by omega]
  rw[List.range_add,List.range_add];simp[Nat.add_assoc]
 refine⟨(List.range i).filter fun i=> !listed.getD i true,((List.range (n-i-1)).map (i+1 + ·)).filter fun i=> !listed.getD i true,?_,?_,fun j hj=>?_⟩
 ·unfold Lp;rw[hr,List.filter_append,List.filter_cons_of_pos (by rw[I2];rfl)]
 ·unfold Lp;rw[hr,List.filter_append,List.filter_cons_of_neg (by simp[M3,B7])]
  congr 1
  ·refine List.filter_congr fun j hj=>?_
   rw[getD_set_ne true (by have:=List.mem_range.1 hj;omega)]
  ·refine List.filter_congr fun j hj=>?_
   obtain⟨k,_,rfl⟩:=List.mem_map.1 hj;rw[getD_set_ne true (by omega)]
 ·exact List.mem_range.1 (List.mem_filter.1 hj).1
theorem Ac6 (h:Cr N w0 X0 Y β s a w)(o:Oper):SC C P o s:=by
 refine⟨fun y _ i hi=>Ex h y i hi,fun _ _ y _ i hi c hc p hp k hk=>h.wfB i c hc p hp k hk⟩
theorem IG (Agb:(ops.toList.zipIdx.all fun q=>q.1.after.toList.all fun e=> !Region.binds .any e||Nat.blt e.on q.2)=true) {listed:Array Bool}(inv:HeadInv .any ops ops.size listed)(hr:Region.ready .any ops listed=[]):Lp ops.size listed=[]:=by
 cases hp:Lp ops.size listed with
 |nil=>rfl
 |cons i l=>
  exfalso;have hi:i∈Lp ops.size listed:=by rw[hp];simp
  obtain⟨B7,I2⟩:=Ie.1 hi;obtain⟨l1,l2,h1,_,h3⟩:=Uo hi inv.size
  have FZ:l1=[]:=by
   cases l1 with
   |nil=>rfl
   |cons j l1=>
    rw[hp] at h1;simp at h1;have:=h3 j (by simp)
    omega
  subst FZ
  have A67:∀j,j<i->listed.getD j false=true:=by
   intro j hj;cases hh:listed.getD j false with
   |true=>rfl
   |false=>
    have:j∈Lp ops.size listed:=Ie.2 ⟨by omega,getD_in (by rw[inv.size];omega) hh⟩
    have hs:(Lp ops.size listed).Pairwise (· < ·):=List.Pairwise.filter _ List.pairwise_lt_range
    rw[h1] at this hs;simp at this;rcases this with e|e
    ·omega
    ·have:=(List.pairwise_cons.1 hs).1 j e;omega
  have:i∈Region.ready .any ops listed:=by
   refine mem_ready.2 ⟨I2,ops[i],Array.getElem?_eq_getElem B7,fun e he hb=>A67 _ ?_⟩
   have:=List.all_eq_true.1 Agb (ops[i],i) (by
    rw[List.mem_zipIdx_iff_getElem?];simp[B7])
   have:=List.all_eq_true.1 this e (Array.mem_toList_iff.2 he);simp only[hb,Bool.not_true,Bool.false_or] at this;exact Nat.lt_of_succ_le (Nat.le_of_ble_eq_true this)
  rw[hr] at this;simp at this
theorem KQ {G:Ur}(J0:PF P G w0 X0)(Dq:∀f args res,call f args=some res->Df G P f args res)(hok:JN C P ops=true){Q:Exit->Act->World->Prop}(hQ:∀s' a' w' β',K s'=some r->Cr N w0 X0 Y β' s' a' w'->Q .normal a' w'):
  ∀(fuel:Nat) {listed:Array Bool} {s:St} {a:Act} {w:World} {β:Bt},HeadInv .any ops ops.size listed->(Lp ops.size listed).length=fuel->Cr N w0 X0 Y β s a w->Mm C P N call ops ((Lp ops.size listed).filterMap (ops[·]?)) s K=some r->wpAny P .any ops Q fuel listed a w:=by
 unfold JN at hok;simp only[Bool.and_eq_true] at hok;obtain⟨Agb,Ant⟩:=hok;intro fuel
 induction fuel with
 |zero=>
  intro listed s a w β inv hf h hk;have hp:=List.eq_nil_of_length_eq_zero hf;rw[hp] at hk;refine⟨?_,hQ s a w β hk h⟩;cases hr:Region.ready .any ops listed with
  |nil=>rfl
  |cons i l=>
   exfalso;have hi:i∈Region.ready .any ops listed:=by rw[hr];simp
   obtain⟨I2,o,ho,_⟩:=mem_ready.1 hi;have:i∈Lp ops.size listed:=Ie.2 ⟨(Array.getElem?_eq_some_iff.1 ho).1,I2⟩;rw[hp] at this;simp at this
 |succ fuel ih=>
  intro listed s a w β inv hf h hk;refine⟨fun hr=>?_,fun i hi=>?_⟩
  ·rw[IG Agb inv hr] at hf;cases hf
  ·obtain⟨I2,o,ho,M6⟩:=mem_ready.1 hi;have B7:i<ops.size:=(Array.getElem?_eq_some_iff.1 ho).1;obtain⟨l1,l2,h1,h2,h3⟩:=Uo (Ie.2 ⟨B7,I2⟩) inv.size;rw[h1,List.filterMap_append,List.filterMap_cons_some ho] at hk
   have Rw:∀x∈l1.filterMap (ops[·]?),Wl C P ops x o:=by
    intro x hx;obtain⟨j,hj,hxj⟩:=List.mem_filterMap.1 hx;refine Aek ?_;cases I1:EU C P ops x o with
    |false=>rfl
    |true=>
     exfalso;have GS:=Vl ops.toList 0 Ant i o (by simpa using ho) j x hxj (by have:=h3 j hj;omega) I1
     rw[Nat.zero_add] at GS;have hjl:=Ps (listed:=listed) (fun j oj hj hl=>inv.closed j oj hj hl) ops.toList [] [] (by simp) rfl (by simp) i o ho M6 j GS
     have:j∈Lp ops.size listed:=by rw[h1];simp[hj]
     have:=getD_both (Ie.1 this).2;rw[hjl] at this;cases this
   obtain⟨s',hs',hn⟩:=Ub h J0 Dq ho (ZE (Ac6 h o) Rw hk);refine hn _ _ fun a' w' β' h'=>ih (inv.set hi B7) ?_ h' ?_
   ·rw[h2];rw[h1] at hf;simp at hf ⊢;omega
   ·rw[h2,List.filterMap_append];exact hs'
theorem Yl (h:Cr N w0 X0 Y β s a w){G:Ur}(J0:PF P G w0 X0)(Dq:∀f args res,call f args=some res->Df G P f args res)(hm:P.follows .mixedOrders=true)(hok:JN C P ops=true){Q:Exit->Act->World->Prop}
  (hk:Mm C P N call ops ops.toList s K=some r)(hQ:∀s' a' w' β',K s'=some r->Cr N w0 X0 Y β' s' a' w'->Q .normal a' w'):wpAny P .any ops Q ops.size (Array.replicate ops.size false) a { w with drawn:=w.drawn+1 }:=by
 have hp:Lp ops.size (Array.replicate ops.size false)=List.range ops.size:=by
  unfold Lp;refine List.filter_eq_self.2 fun i hi=>?_
  have:=List.mem_range.1 hi;simp[this]
 refine KQ (C:=C) J0 Dq hok hQ ops.size ⟨by simp,fun j oj _ hl=>(by rw[getD_replicate_false] at hl;cases hl),fun t ht ht'=>by omega⟩ (by rw[hp];simp) h.drew ?_
 rw[hp]
 have:(List.range ops.size).filterMap (ops[·]?)=ops.toList:=by
  refine List.ext_getElem? fun k=>?_
  have:∀(n:Nat),n<=ops.size->(List.range n).filterMap (ops[·]?)=ops.toList.take n:=by
   intro n
   induction n with
   |zero=>intro _;rfl
   |succ n ih=>
    intro hn;rw[List.range_succ,List.filterMap_append,ih (by omega),List.take_add_one]
    congr 1
    have:ops[n]?=some ops[n]:=Array.getElem?_eq_getElem (by omega)
    simp[this]
  rw[this ops.size (Nat.le_refl _)]
  congr 1
  exact List.take_of_length_le (by simp)
 rw[this];exact hk
theorem MH (h:Cr N w0 X0 Y β s a w){G:Ur}(J0:PF P G w0 X0)(Dq:∀f args res,call f args=some res->Df G P f args res)(hm:P.follows .mixedOrders=true)(hok:JN C P ops=true){id:Nat}{Q:Exit->Act->World->Prop}
  (hk:Mm C P N call ops ops.toList s K=some r)(hQ:∀s' a' w' β',K s'=some r->Cr N w0 X0 Y β' s' a' w'->Q .normal a' w'):(Code.region id ops true).wp P Q a w:=
 wp_region_any hm (Yl h J0 Dq hm hok hk hQ)
end
end
section
open Go.RowKit
section
variable {R R':Type} {Rel:Option R->Option R'->Prop} {P:Program} {N:Nat} {tm tm':Nat->PV} {hp Cf:Nat->Option Bo} {o:Oper}
theorem YX (hn:Rel none none){C:Gl}{call:An}{K:St->Option R}{K':St->Option R'}(Rw:Mt o.op=true)(Iy:∀x∈o.op.operands.toList,Bz tm x=Bz tm' x)
  (hS:∀i,T7 o tm' Cf i->hp i=Cf i∨(hp i=none∧∀b,Rel none b)) (IP:∀d,o.dst=some d->hp d=Cf d)
  (hK:∀v Cs E0,(∀M,GO M (T7 o tm' Cf) o.dst hp Cf Cs E0)->Rel (K ⟨Bl tm o.dst v,Cs⟩) (K' ⟨Bl tm' o.dst v,E0⟩)):Rel (Td C P N call ⟨tm,hp⟩ o K) (Td C P N call ⟨tm',Cf⟩ o K'):=by
 unfold Td;have hl:∀x∈o.op.operands.toList,∀i∈Bs (Bz tm' x),T7 o tm' Cf i:=fun x hx i hi=>.inl ⟨x,hx,hi⟩
 generalize hLd:T7 o tm' Cf=S at *
 generalize hop:o.op=op at *
 unfold Mt at Rw;split at Rw
 ·rename_i c
  have Jy:∀x∈c.args.toList,x∈(Op.call c).operands.toList:=by
   intro x hx;simp only[Op.operands,Call.operands,Array.toList_append,List.mem_append];exact .inr hx
  split at Rw
  ·rename_i hc;simp only[hc];refine C9 hn fun d hd=>Bh hn fun x _ hx=>Bh hn fun y _ hy=>Eu hn (Bh hn fun _ _ _=>Bh hn fun _ _ _=>?_)
   subst hy;have hxm:=Jy x (by rw[hx];simp)
   have hym:=Jy y (by rw[hx];simp)
   simp only[Iy x hxm,Iy y hym];refine Uw hn hS (IP d hd) (fun i hi=>hl x hxm i (Fd hi)) (fun i hi=>hl y hym i (Fd hi)) fun v Cs E0 hh=>?_
   have:=hK v Cs E0 (by rw[hd];exact hh)
   rw[hd] at this;exact this
  ·cases Rw
 ·cases Rw
theorem Om {C:Gl}{call:An}(Rw:Mt o.op=true)(Iy:∀x∈o.op.operands.toList,Bz tm x=Bz tm' x)(hS:∀i,T7 o tm' Cf i->hp i=Cf i)(IP:∀d,o.dst=some d->hp d=Cf d){s1:St}
  (h:Td C P N call ⟨tm,hp⟩ o some=some s1):∃v Cs E0,s1=⟨Bl tm o.dst v,Cs⟩∧Td C P N call ⟨tm',Cf⟩ o some=some ⟨Bl tm' o.dst v,E0⟩∧∀M,GO M (T7 o tm' Cf) o.dst hp Cf Cs E0:=by
 have:=YX (P:=P) (N:=N) (C:=C) (call:=call) (o:=o) (tm:=tm) (tm':=tm') (hp:=hp) (Cf:=Cf) (K:=some) (K':=some)
  (Rel:=fun (a b:Option St)=>∀s1,a=some s1->∃v Cs E0,s1=⟨Bl tm o.dst v,Cs⟩∧b=some ⟨Bl tm' o.dst v,E0⟩∧∀M,GO M (T7 o tm' Cf) o.dst hp Cf Cs E0) (fun _ h=>by cases h) Rw Iy (fun i hi=>.inl (hS i hi)) IP
  (fun v Cs E0 hT s1 h=>by cases h;exact⟨v,Cs,E0,rfl,rfl,hT⟩)
 exact this s1 h
end
section
variable {R R':Type} {r:R} {r':R'} {C:Gl} {P:Program} {N:Nat} {call:An} {ops:Array Oper} {o x:Oper} {s s1 s2:St} {K:St->Option R}
theorem R7 {tm:Nat->PV}(h:Gf C P ops o tm=true):Qk C P o.op=true:=by
 unfold Gf at h;simp only[Bool.and_eq_true] at h;exact h.1
theorem NC (h:Mt o.op=true):Qk C P o.op=true:=by
 unfold Mt at h;split at h
 ·rename_i c hc;rw[hc];split at h
  ·rename_i hcc;simp only[Qk,hcc];exact h
  ·cases h
 ·cases h
theorem Mf (h:Dm C P N call ops x s K=some r):∃s1,Dm C P N call ops x s some=some s1∧HW P x s s1∧(Rg P x.op=true->s1.hp=s.hp)∧K s1=some r:=by
 cases hx:Gf C P ops x s.tm
 ·rw[Jh hx] at h ⊢;cases ex:gE C P N call ops x s with
  |none=>rw[ex] at h;cases h
  |some q=>
   rw[ex] at h;obtain⟨hb,h1⟩:=Al h;simp only[Bool.and_eq_true] at hb;refine⟨_,?_,⟨fun t ht=>Nt ht,fun i hi=>Me hb.2 hi,fun hm i hi=>?_⟩,fun hl=>?_,h1⟩
   ·show A9 _ _=_;rw[hb.1,hb.2];rfl
   ·show Ar (Ag s.hp q.2.1) q.2.2 i=s.hp i;rw[Fi hb.2 hi,((Sa ex).1 hm).1];simp
   ·show Ar (Ag s.hp q.2.1) q.2.2=s.hp;obtain⟨h1,h2⟩:=XS (.inl hl) ex;rw[h1,h2]
    funext i
    show Ag s.hp [] i=_;rw[Bv];simp
 ·rw[Hs hx] at h ⊢
  exact CF (P:=P) (N:=N) (o:=x) (tm:=s.tm) (tm':=s.tm) (hp:=s.hp) (K':=some) (Rel:=fun (a:Option R) (b:Option St)=>a=some r->∃s1,b=some s1∧HW P x s s1∧(Rg P x.op=true->s1.hp=s.hp)∧K s1=some r) (fun h=>by cases h) (fun _ _=>rfl) (fun v Cs hh h=>⟨_,rfl,⟨fun t ht=>Nt ht,hh,fun hm=>(by
   rw[Wq (R7 hx)] at hm;cases hm)⟩,fun hl=>(by
   have:=R7 hx;rw[Jn hl] at this;cases this),h⟩) h
theorem Ss {K':St->Option R'}(h:Dm C P N call ops x s some=some s1)(hk:K' s1=some r'):Dm C P N call ops x s K'=some r':=by
 cases hx:Gf C P ops x s.tm
 ·rw[Jh hx] at h ⊢;cases ex:gE C P N call ops x s with
  |none=>rw[ex] at h;cases h
  |some q=>
   rw[ex] at h;obtain⟨hb,h1⟩:=Al h;show A9 _ _=_;rw[hb];cases h1;exact hk
 ·rw[Hs hx] at h ⊢;exact CF (P:=P) (N:=N) (o:=x) (tm:=s.tm) (tm':=s.tm) (hp:=s.hp) (K:=some) (Rel:=fun (a:Option St) (b:Option R')=>a=some s1->b=some r') (fun h=>by cases h) (fun _ _=>rfl) (fun v Cs hh h=>by cases h;exact hk) h
theorem MA {d:Nat}{t tx:TypeId}{b y:PV}(h:Nd P N s d t tx b y K=some r):s.hp d=none:=by
 unfold Nd at h;split at h
 ·obtain⟨_,h⟩:=Al h;cases hI:V1 P tx
  ·rw[hI,cond_false] at h;refine Xg (P:=P) (tm:=s.tm) (tm':=s.tm) (hp:=s.hp) (Cf:=s.hp) (S:=fun _=>True) (K':=fun _ _=>(none:Option R)) (Rel:=fun (a:Option R) (_:Option R)=>a=some r->s.hp d=none) (fun h=>by cases h) (fun _ _=>.inl rfl) (fun _ _=>trivial) (fun m new h=>?_) h
   split at h
   ·split at h
    ·obtain⟨hb,_⟩:=Al h;simp only[Bool.and_eq_true,Option.isNone_iff_eq_none] at hb;simp only[hb]
    ·cases h
   ·obtain⟨_,_,_,h,_⟩:=E6 h;obtain⟨hb,_⟩:=Al h;simp only[Bool.and_eq_true,Option.isNone_iff_eq_none] at hb;simp only[hb]
  ·rw[hI,cond_true] at h;unfold R8 at h;obtain⟨_,_,_,h⟩:=Di h;obtain⟨_,_,_,h,_⟩:=E6 h;obtain⟨hb,_⟩:=Al h;simp only[Bool.and_eq_true,Option.isNone_iff_eq_none] at hb;simp only[hb]
 ·cases h
theorem Alr (hw:SC C P o s)(hwx:∀y∈x.op.operands.toList,∀i∈Bs (Bz s.tm y),s.hp i≠none) (xo:∀d,x.dst=some d->d ∉ looks ops o)(ne:∀d,x.dst=some d->o.dst≠some d)(ox:∀d,o.dst=some d->d ∉ looks ops x)
  (Db:Mt x.op=true)(hao:Mt o.op=true)(PK:∀i,T7 x s.tm s.hp i->¬T7 o s.tm s.hp i)(hx:Gf C P ops x s.tm=true)(ho:Gf C P ops o s.tm=true)
  (h:Dm C P N call ops x s (fun s1=>Dm C P N call ops o s1 K)=some r):Dm C P N call ops o s (fun s1=>Dm C P N call ops x s1 K)=some r:=by
 obtain⟨tm,hp⟩:=s;obtain⟨s1,e1,_,_,h⟩:=Mf h;obtain⟨s2,e2,_,_,h⟩:=Mf h;rw[Hs hx] at e1
 have hSx:∀i,T7 x tm hp i->hp i≠none:=by
  rintro i (⟨y,hy,hi⟩|⟨Rw,_⟩)
  ·exact hwx y hy i hi
  ·rw[Db] at Rw;cases Rw
 have hSo:∀i,T7 o tm hp i->hp i≠none:=by
  rintro i (⟨y,hy,hi⟩|⟨Rw,_⟩)
  ·exact hw.1 y hy i hi
  ·rw[hao] at Rw;cases Rw
 obtain⟨vx,hpx,Aiw,rfl,e1',T1⟩:=Om Db (fun _ _=>rfl) (fun _ _=>rfl) (fun _ _=>rfl) e1
 have:Aiw=hpx:=by
  rw[e1] at e1';injection e1' with q;injection q with _ q;exact q.symm
 subst this;have t1:∀t∈looks ops o,Bl tm x.dst vx t=tm t:=Ee xo;have t1o:=E3 (ops:=ops) (o:=o) t1;rw[Hs (by rw[G2 t1];exact ho)] at e2
 have hRo:∀i,T7 o (Bl tm x.dst vx) Aiw i↔T7 o tm hp i:=by
  intro i;constructor
  ·rintro (⟨y,hy,hi⟩|⟨Rw,_⟩)
   ·exact .inl ⟨y,hy,by rw[←t1o y hy];exact hi⟩
   ·rw[hao] at Rw;cases Rw
  ·rintro (⟨y,hy,hi⟩|⟨Rw,_⟩)
   ·exact .inl ⟨y,hy,by rw[t1o y hy];exact hi⟩
   ·rw[hao] at Rw;cases Rw
 have Al5:∀{s:St} {o:Oper} {s2:St},Mt o.op=true->Td C P N call s o some=some s2->∀d,o.dst=some d->s.hp d=none:=by
  intro s o s2 hao e d hd;unfold Td at e;unfold Mt at hao;split at hao
  ·rename_i c hc;rw[hc] at e;simp only at e;split at hao
   ·rename_i hcc;rw[hcc] at e;simp only[hd,Cy] at e;obtain⟨_,_,_,e⟩:=A8 e;obtain⟨_,_,_,e⟩:=A8 e;obtain⟨_,e⟩:=Dj e;obtain⟨_,_,_,e⟩:=A8 e;obtain⟨_,_,_,e⟩:=A8 e;exact MA e
   ·cases hao
  ·cases hao
 have A44:∀d,o.dst=some d->hp d=none:=by
  intro d hd;have h0:=Al5 hao e2 d hd;cases hh:hp d with
  |none=>rfl
  |some b=>exact absurd h0 ((T1 0).keep d (by rw[hh];simp))
 have Aue:=Al5 Db e1;simp only at Aue;have hoS:∀d,o.dst=some d->¬T7 x tm hp d:=fun d hd hR=>hSx d hR (A44 d hd)
 have hxS:∀d,x.dst=some d->¬T7 o tm hp d:=fun d hd hR=>hSo d hR (Aue d hd)
 obtain⟨vo,A7u,hpo,rfl,e3,T2⟩:=Om (tm':=tm) (Cf:=hp) hao t1o (fun i hi=>(T1 0).far i (fun hR=>PK i hR hi) (hSo i hi)) (fun d hd=>((T1 (d+1)).off d (by omega) (fun e=>ne d e hd) (.inl (hoS d hd))).1) e2
 obtain⟨vo',A6i,PL,e3a,e3b,T3⟩:=Om (tm':=tm) (Cf:=hp) hao (fun _ _=>rfl) (fun _ _=>rfl) (fun _ _=>rfl) e3
 rw[e3] at e3b
 have A2y:A6i=hpo∧PL=hpo:=by
  injection e3a with _ q1;injection e3b with q2;injection q2 with _ q3;exact⟨q1.symm,q3.symm⟩
 obtain⟨rfl,rfl⟩:=A2y;have t2:∀t∈looks ops x,tm t=Bl tm o.dst vo t:=fun t ht=>(Ee ox t ht).symm
 have t2x:=E3 (ops:=ops) (o:=x) t2
 have hRx:∀i,T7 x (Bl tm o.dst vo) PL i↔T7 x tm hp i:=by
  intro i;constructor
  ·rintro (⟨y,hy,hi⟩|⟨Rw,_⟩)
   ·exact .inl ⟨y,hy,by rw[t2x y hy];exact hi⟩
   ·rw[Db] at Rw;cases Rw
  ·rintro (⟨y,hy,hi⟩|⟨Rw,_⟩)
   ·exact .inl ⟨y,hy,by rw[←t2x y hy];exact hi⟩
   ·rw[Db] at Rw;cases Rw
 obtain⟨vx2,Ayt,Ax2,e4a,e4,T4⟩:=Om (tm':=Bl tm o.dst vo) (Cf:=PL) Db t2x (fun i hi=>((T3 0).far i (PK i ((hRx i).1 hi)) (hSx i ((hRx i).1 hi))).symm) (fun d hd=>((T3 (d+1)).off d (by omega) (fun e=>ne d hd e) (.inl (hxS d hd))).1.symm) e1
 have hvx:Bl tm x.dst vx=Bl tm x.dst vx2∧Aiw=Ayt:=by
  injection e4a with q1 q2;exact⟨q1,q2⟩
 obtain⟨hvx,rfl⟩:=hvx;obtain⟨_,Ta,Jd,e5a,e5b,T5⟩:=Om (tm':=Bl tm x.dst vx) (Cf:=Aiw) hao (fun _ _=>rfl) (fun _ _=>rfl) (fun _ _=>rfl) e2
 have hq:Ta=A7u:=by injection e5a with _ q1;exact q1.symm
 subst hq;obtain⟨_,hu1,hu2,e6a,e6b,T6⟩:=Om (tm':=Bl tm o.dst vo) (Cf:=PL) Db (fun _ _=>rfl) (fun _ _=>rfl) (fun _ _=>rfl) e4
 have hu:hu1=Ax2:=by injection e6a with _ q1;exact q1.symm
 subst hu
 have Jy:Ta=hu1:=by
  funext i
  by_cases hi:T7 o tm hp i∨o.dst=some i
  ·have hxi:¬T7 x tm hp i:=by
    rcases hi with hi|hi
    ·exact fun hR=>PK i hR hi
    ·exact hoS i hi
   have hdi:x.dst≠some i:=by
    rcases hi with hi|hi
    ·exact fun e=>hxS i e hi
    ·exact fun e=>ne i e hi
   rw[(T2 0).same i ((T1 (i+1)).off i (by omega) hdi (.inl hxi)).1]
   exact ((T6 (i+1)).off i (by omega) hdi (.inl fun hR=>hxi ((hRx i).1 hR))).1.symm
  ·have hoi:¬T7 o tm hp i:=fun e=>hi (.inl e)
   have hdi:o.dst≠some i:=fun e=>hi (.inr e)
   rw[((T5 (i+1)).off i (by omega) hdi (.inl fun hR=>hoi ((hRo i).1 hR))).1]
   exact (T4 0).same i ((T3 (i+1)).off i (by omega) hdi (.inl hoi)).1.symm
 refine Ss (s1:=⟨Bl tm o.dst vo,PL⟩) (by rw[Hs ho];exact e3) ?_
 refine Ss (s1:=⟨Bl (Bl tm o.dst vo) x.dst vx2,hu1⟩) (by rw[Hs (by rw[←G2 t2];exact hx)];exact e4) ?_
 rw[←Jv ne,←hvx,←Jy];exact h
theorem Wh (hM:Qk C P o.op=true){i:Nat}(h:T7 o s.tm s.hp i):i∈La C P s o:=by
 unfold La;rw[hM];cases hA:Mt o.op
 ·simp only[Bool.not_false,Bool.and_self,cond_true,List.mem_append];rcases h with⟨y,hy,hi⟩|⟨_,id,c,⟨y,hy,hi⟩,hc,p,hp,hk⟩
  ·exact .inl (List.mem_flatMap.2 ⟨y,hy,hi⟩)
  ·refine .inr (List.mem_flatMap.2 ⟨id,List.mem_flatMap.2 ⟨y,hy,hi⟩,?_⟩);rw[hc];exact List.mem_flatMap.2 ⟨p,hp,hk⟩
 ·simp only[Bool.not_true,Bool.and_false,cond_false,Bool.or_true,cond_true];rcases h with⟨y,hy,hi⟩|⟨hn,_⟩
  ·exact List.mem_flatMap.2 ⟨y,hy,hi⟩
  ·rw[hA] at hn;cases hn
theorem AW (hl:Qk C P o.op=true∨Rg P o.op=true){y:Operand}(hy:y∈o.op.operands.toList){i:Nat}(h:i∈Bs (Bz s.tm y)):i∈La C P s o:=by
 rcases hl with hM|hl
 ·exact Wh hM (.inl ⟨y,hy,h⟩)
 ·unfold La;rw[Jn hl,hl];exact List.mem_flatMap.2 ⟨y,hy,h⟩
theorem PM (ht:∀t∈looks ops o,s1.tm t=s.tm t)(hh:Qk C P o.op=true->Mt o.op=false->∀y∈o.op.operands.toList,∀i∈Bs (Bz s.tm y),s1.hp i=s.hp i):La C P s1 o=La C P s o:=by
 have he:=E3 (ops:=ops) (o:=o) ht
 have hl:(o.op.operands.toList.flatMap fun y=>Bs (Bz s1.tm y))=o.op.operands.toList.flatMap fun y=>Bs (Bz s.tm y):=by
  have Ano:∀l:List Operand,(∀y∈l,Bz s1.tm y=Bz s.tm y)->(l.flatMap fun y=>Bs (Bz s1.tm y))=l.flatMap fun y=>Bs (Bz s.tm y):=by
   intro l
   induction l with
   |nil=>intro _;rfl
   |cons a l ih=>intro h;simp only[List.flatMap_cons];rw[h a (by simp),ih fun y hy=>h y (by simp[hy])]
  exact Ano _ he
 unfold La;simp only[hl];cases hM:(Qk C P o.op && !Mt o.op)
 ·rfl
 ·simp only[cond_true];simp only[Bool.and_eq_true,Bool.not_eq_true'] at hM
  congr 1
  have Ano:∀l:List Nat,(∀i∈l,s1.hp i=s.hp i)->(l.flatMap fun i=>match s1.hp i with|some (.st c)=>c.flatMap Ap|_=>[])=l.flatMap fun i=>match s.hp i with|some (.st c)=>c.flatMap Ap|_=>[]:=by
   intro l
   induction l with
   |nil=>intro _;rfl
   |cons a l ih=>intro h;simp only[List.flatMap_cons];rw[h a (by simp),ih fun y hy=>h y (by simp[hy])]
  exact Ano _ fun i hi=>by
   obtain⟨y,hy,hi⟩:=List.mem_flatMap.1 hi;exact hh hM.1 hM.2 y hy i hi
theorem Vo {a b:List Nat}(h:ZG a b=true){i:Nat}(ha:i∈a)(hb:i∈b):False:=by
 have:=List.all_eq_true.1 h i ha;have h2:b.any (Nat.beq i)=true:=List.any_eq_true.2 ⟨i,hb,Nat.beq_refl i⟩;rw[h2] at this;cases this
theorem ZT {a b:List Nat}(h:ZG a b=true):ZG b a=true:=by
 refine List.all_eq_true.2 fun i hi=>?_
 cases hc:a.any (Nat.beq i)
 ·rfl
 ·obtain⟨j,hj,e⟩:=List.any_eq_true.1 hc;rw[Nat.eq_of_beq_eq_true e] at hi;exact (Vo h hj hi).elim
theorem Um:I7 C P x o=I7 C P o x:=by
 unfold I7;cases Qk C P x.op<;>cases Qk C P o.op<;>cases Rg P x.op<;>cases Rg P o.op<;>cases Mt x.op<;>cases Mt o.op<;>rfl
structure K0 (C:Gl) (P:Program) (ops:Array Oper) (x o:Oper):Prop where
 xo:∀d,x.dst=some d->d ∉ looks ops o
 ne:∀d,x.dst=some d->o.dst≠some d
 ox:∀d,o.dst=some d->d ∉ looks ops x
 me:P3 C P x o=false∨I7 C P x o=true
theorem Abm (h:Ad2 C P ops x o=false):K0 C P ops x o:=by
 unfold Ad2 at h;simp only[Bool.or_eq_false_iff] at h;obtain⟨h1,h2⟩:=h;have hT:=h1;unfold Adw at h1;simp only[Bool.or_eq_false_iff] at h1
 have a1:EU C P ops x o=false∨P3 C P x o=true:=by
  cases hc:P3 C P x o
  ·left;unfold EU;unfold P3 at hc;simp only[Bool.or_eq_false_iff] at hc ⊢;exact⟨⟨⟨h1.1,h1.2⟩,hc.1⟩,hc.2⟩
  ·exact .inr rfl
 refine⟨fun d hd=>?_,fun d hd he=>?_,fun d hd=>?_,?_⟩
 ·have:=h1.1;simp only[hd,Bool.or_eq_false_iff] at this;exact Qj this.1
 ·have:=h1.1;simp only[hd,he,Bool.or_eq_false_iff] at this;rw[Nat.beq_refl] at this;cases this.2
 ·have:=h1.2;simp only[hd] at this;exact Qj this
 ·cases hc:P3 C P x o
  ·exact .inl rfl
  ·rw[hc] at h2;right
   simpa using h2
theorem K0.apart (ap:K0 C P ops x o)(h:P3 C P x o=false):Wl C P ops x o:=by
 unfold P3 at h;simp only[Bool.or_eq_false_iff,Bool.and_eq_false_iff] at h;refine⟨ap.xo,ap.ne,ap.ox,fun hm=>?_,fun hm=>?_⟩
 ·rcases h.1 with h|h
  ·rw[hm] at h;cases h
  ·exact h
 ·rcases h.2 with h|h
  ·rw[hm] at h;cases h
  ·exact h
theorem K0.same (ap:K0 C P ops x o)(hk:HW P x s s1)(hl:Rg P x.op=true->s1.hp=s.hp)(hM:Qk C P o.op=true)(hA:Mt o.op=false){i:Nat}(hi:s.hp i≠none):s1.hp i=s.hp i:=by
 rcases ap.me with h|h
 ·exact hk.2.2 ((ap.apart h).mo hM) i hi
 ·unfold I7 at h;rw[hA] at h;simp only[Bool.and_false,Bool.or_false,Bool.or_eq_true,Bool.and_eq_true] at h;rcases h with h|h
  ·have:=h.2;rw[Jn (C:=C) (P:=P) this] at hM;cases hM
  ·rw[hl h.2]
theorem SC.keepsS (h:SC C P o s)(ap:K0 C P ops x o)(hk:HW P x s s1)(hl:Rg P x.op=true->s1.hp=s.hp):SC C P o s1:=by
 have hop:∀y∈o.op.operands.toList,Bz s1.tm y=Bz s.tm y:=fun y hy=>E3 (ops:=ops) (o:=o) (fun t ht=>hk.1 t fun hd=>ap.xo t hd ht) y hy
 refine⟨fun y hy i hi=>?_,fun hM hA y hy i hi c hc p hp k hkk=>?_⟩
 ·rw[hop y hy] at hi;exact hk.2.1 i (h.1 y hy i hi)
 ·rw[hop y hy] at hi;rw[ap.same hk hl hM hA (h.1 y hy i hi)] at hc;exact hk.2.1 k (h.2 hM hA y hy i hi c hc p hp k hkk)
theorem K0.symm (ap:K0 C P ops x o):K0 C P ops o x:=by
 refine⟨ap.ox,fun d hd he=>ap.ne d he hd,ap.xo,?_⟩
 rcases ap.me with h|h
 ·left;unfold P3 at h ⊢;rw[Bool.or_comm];exact h
 ·right;rw[Um];exact h
theorem Awd (hw:SC C P o s)(hwx:I7 C P x o=true->∀i∈La C P s x,s.hp i≠none)(ap:K0 C P ops x o)(hd:I7 C P x o=true->ZG (La C P s x) (La C P s o)=true)
  (h:Dm C P N call ops x s (fun s1=>Dm C P N call ops o s1 K)=some r):Dm C P N call ops o s (fun s1=>Dm C P N call ops x s1 K)=some r:=by
 rcases ap.me with hm|hm
 ·exact Aui hw (ap.apart hm) h
 ·have hd:=hd hm;have hwx:=hwx hm;cases hx:Gf C P ops x s.tm
  ·cases ho:Gf C P ops o s.tm
   ·exact WC hw ap.xo ap.ne ap.ox hx ho h
   ·have hMo:=R7 ho
    have hlx:HF P ops x s.tm:=by
     cases hl:Rg P x.op
     ·right
      have hMx:Qk C P x.op=true:=by
       unfold I7 at hm;simp only[hl,Bool.and_false,Bool.or_false,Bool.or_eq_true,Bool.and_eq_true] at hm;rcases hm with hm|hm
       ·exact hm.1
       ·exact NC hm.1
      cases hv:Gj ops x s.tm with
      |none=>
       exfalso;rw[Jh hx] at h;unfold gE at h;rw[hv] at h;cases h
      |some b=>
       cases b
       ·rfl
       ·unfold Gf at hx;rw[hMx,hv] at hx;cases hx
     ·exact .inl hl
    refine Akd ap.xo ap.ne ap.ox hlx (fun y hy i hi hR=>?_) ho h
    refine Vo hd (AW ?_ hy hi) (Wh hMo hR);unfold I7 at hm;simp only[Bool.or_eq_true,Bool.and_eq_true] at hm;rcases hm with (hm|hm)|hm
    ·exact .inl hm.1
    ·exact .inr hm.2
    ·exact .inl (NC hm.1)
  ·have hMx:=R7 hx;cases ho:Gf C P ops o s.tm
   ·have hlo:HF P ops o s.tm:=by
     cases hl:Rg P o.op
     ·right
      have hMo:Qk C P o.op=true:=by
       unfold I7 at hm;simp only[hl,Bool.and_false,Bool.false_or,Bool.or_eq_true,Bool.and_eq_true] at hm;rcases hm with hm|hm
       ·exact hm.1
       ·exact NC hm.2
      cases hv:Gj ops o s.tm with
      |none=>
       exfalso;obtain⟨s1,_,hk,_,h⟩:=Mf h;have hv1:Gj ops o s1.tm=none:=by rw[J1 (fun t ht=>hk.1 t fun hd=>ap.xo t hd ht)];exact hv
       rw[Jh (by unfold Gf;rw[hv1];cases Qk C P o.op<;>rfl)] at h
       unfold gE at h;rw[hv1] at h;cases h
      |some b=>
       cases b
       ·rfl
       ·unfold Gf at ho;rw[hMo,hv] at ho;cases ho
     ·exact .inl hl
    refine Ai7 hw ap.xo ap.ne ap.ox hlo (fun y hy i hi hR=>?_) hx h
    refine Vo hd (Wh hMx hR) (AW ?_ hy hi);unfold I7 at hm;simp only[Bool.or_eq_true,Bool.and_eq_true] at hm;rcases hm with (hm|hm)|hm
    ·exact .inr hm.2
    ·exact .inl hm.1
    ·exact .inl (NC hm.2)
   ·have hMo:=R7 ho;unfold I7 at hm;simp only[Bool.or_eq_true,Bool.and_eq_true] at hm;rcases hm with (hm|hm)|hm
    ·rw[Jn (C:=C) (P:=P) hm.2] at hMo;cases hMo
    ·rw[Jn (C:=C) (P:=P) hm.2] at hMx;cases hMx
    ·exact Alr hw (fun y hy i hi=>hwx i (AW (.inl hMx) hy hi)) ap.xo ap.ne ap.ox hm.1 hm.2 (fun i h1 h2=>Vo hd (Wh hMx h1) (Wh hMo h2)) hx ho h
theorem Aee {α:Type}(a b:α)(l:List α)(f:α->Bool):(a::b::l).all f=(b::a::l).all f:=by
 simp only[List.all_cons];cases f a<;>cases f b<;>rfl
theorem Y3 {bs:List (List Nat)}:∀(l:List Nat){dn dn':List (Nat × Oper × List Nat)} {s:St}{K:St->Option R},(∀f,dn.all f=dn'.all f)->Hi C P N call ops bs dn l s K=Hi C P N call ops bs dn' l s K
 |[],_,_,_,_,_=>rfl
 |i::l,dn,dn',s,K,h=>by
  unfold Hi;cases ops[i]? with
  |none=>rfl
  |some o=>
   simp only[Cy,h]
   congr 2
   funext s'
   exact Y3 l fun f=>by simp only[List.all_cons,h]
theorem EQ {bs:List Nat}{i:Nat}(hi:ops[i]?=some o):(Zj C P ops bs).getD i []=Vw C P ops bs i o:=by
 unfold Zj;rw[List.getD_eq_getElem?_getD,List.getElem?_map,List.getElem?_zipIdx,Array.getElem?_toList,hi];simp
theorem Pw {bs:List Nat}{i j:Nat}:j∈Vw C P ops bs i o↔∃x,ops[j]?=some x∧I7 C P x o=true∧(Nat.blt j i&&(bs.getD i 0).testBit j)=false∧(Nat.blt i j&&(bs.getD j 0).testBit i)=false:=by
 unfold Vw;simp only[List.mem_map,List.mem_filter,Bool.and_eq_true,Bool.not_eq_true',Prod.exists];constructor
 ·rintro⟨x,k,⟨hm,⟨h1,h2⟩,h3⟩,rfl⟩
  rw[List.mem_zipIdx_iff_getElem?] at hm;exact⟨x,by simpa using hm,h1,h2,h3⟩
 ·rintro⟨x,hx,h1,h2,h3⟩
  refine⟨x,j,⟨?_,⟨h1,h2⟩,h3⟩,rfl⟩;rw[List.mem_zipIdx_iff_getElem?]
  simpa using hx
theorem BA {sm:List (List Nat)} {i j:Nat}(h:j∈sm.getD i []):AH C P sm s i o=La C P s o:=by
 unfold AH;split
 ·rename_i e;rw[e] at h;simp at h
 ·rfl
theorem Ahi {sm:List (List Nat)} {i:Nat}(h:sm.getD i []≠[]->La C P s1 o=La C P s o):AH C P sm s1 i o=AH C P sm s i o:=by
 unfold AH;split
 ·rfl
 ·rename_i e;exact h (by rw[e];simp)
theorem YF {l:List Nat}{j:Nat}:l.any (Nat.beq j)=true↔j∈l:=by
 constructor
 ·intro h;obtain⟨k,hk,e⟩:=List.any_eq_true.1 h;rw[Nat.eq_of_beq_eq_true e];exact hk
 ·intro h;exact List.any_eq_true.2 ⟨j,h,Nat.beq_refl j⟩
theorem Wf {bs:List Nat}{sm:List (List Nat)} (hsm:sm=Zj C P ops bs){i:Nat}(hi:ops[i]?=some o) {l':List Nat}:∀(l:List Nat){dn:List (Nat × Oper × List Nat)} {s:St}{K:St->Option R},SC C P o s ->
  (∀j∈l,j<i∧(bs.getD i 0).testBit j=false∧∀x,ops[j]?=some x->K0 C P ops x o)->Hi C P N call ops sm dn (l++i::l') s K=some r ->
  dn.all (GT C P sm s i o)=true∧Dm C P N call ops o s (fun s1=>Hi C P N call ops sm ((i,o,AH C P sm s i o)::dn) (l++l') s1 K)=some r
 |[],dn,s,K,hw,_,h=>by
  simp only[List.nil_append] at h ⊢;unfold Hi at h;rw[hi] at h;simp only[Cy] at h;obtain⟨hb,h⟩:=Al h;simp only[Bool.and_eq_true] at hb;exact⟨hb.1,h⟩
 |j::l,dn,s,K,hw,hl,h=>by
  simp only[List.cons_append] at h ⊢;unfold Hi at h;obtain⟨hji,GS,Rw⟩:=hl j (by simp)
  cases hj:ops[j]? with
  |none=>rw[hj] at h;cases h
  |some x=>
   rw[hj] at h;simp only[Cy] at h;obtain⟨hb,h⟩:=Al h;simp only[Bool.and_eq_true] at hb;have ap:=Rw x hj
   have hex:∀k∈AH C P sm s j x,s.hp k≠none:=fun k hk=>by
    have:=List.all_eq_true.1 hb.2 k hk;intro e;rw[e] at this;cases this
   obtain⟨s1,e1,Ds,FZ,h1⟩:=Mf h;obtain⟨ha,h2⟩:=Wf hsm hi l (hw.keepsS ap Ds FZ) (fun k hk=>hl k (by simp[hk])) h1
   have Ayh:La C P s1 o=La C P s o:=PM (ops:=ops) (fun t ht=>Ds.1 t fun hd=>ap.xo t hd ht) fun hM hA y hy k hk=>ap.same Ds FZ hM hA (hw.1 y hy k hk)
   have GE:AH C P sm s1 i o=AH C P sm s i o:=Ahi fun _=>Ayh
   rw[List.all_cons,Bool.and_eq_true] at ha
   have Awx:Nat.blt i j=false:=by
    cases hh:Nat.blt i j
    ·rfl
    ·have:=Nat.le_of_ble_eq_true hh;omega
   have hmi:I7 C P x o=true->j∈sm.getD i []:=fun hs=>by
    rw[hsm,EQ hi];exact Pw.2 ⟨x,hj,hs,by rw[GS,Bool.and_false],by rw[Awx,Bool.false_and]⟩
   have hmj:I7 C P x o=true->i∈sm.getD j []:=fun hs=>by
    rw[hsm,EQ hj];exact Pw.2 ⟨o,hi,by rw[Um];exact hs,by rw[Awx,Bool.false_and],by rw[GS,Bool.and_false]⟩
   have Am4:I7 C P x o=true->ZG (AH C P sm s j x) (AH C P sm s i o)=true:=by
    intro hs;have:=ha.1;unfold GT at this;rw[YF.2 (hmi hs),GE] at this
    simpa using this
   have hok:∀q,GT C P sm s1 i o q=GT C P sm s i o q:=fun q=>by unfold GT;rw[GE]
   have M6:dn.all (GT C P sm s i o)=true:=by
    refine List.all_eq_true.2 fun q hq=>?_
    rw[←hok];exact List.all_eq_true.1 ha.2 q hq
   refine⟨M6,?_⟩;rw[GE] at h2
   have h3:=Awd hw (fun hs k hk=>hex k (by rw[BA (hmj hs)];exact hk)) ap (fun hs=>by have:=Am4 hs;rw[BA (hmj hs),BA (hmi hs)] at this;exact this)
    (Ss (K':=fun s1=>Dm C P N call ops o s1 (fun s2=>Hi C P N call ops sm ((i,o,AH C P sm s i o)::(j,x,AH C P sm s j x)::dn) (l++l') s2 K)) e1 h2)
   obtain⟨s2,e2,Ef,Q1,h4⟩:=Mf h3;refine Ss e2 ?_
   have JU:AH C P sm s2 j x=AH C P sm s j x:=Ahi fun Eo=>by
    obtain⟨q,hq⟩:=List.exists_mem_of_ne_nil _ Eo;refine PM (ops:=ops) (fun t ht=>Ef.1 t fun hd=>ap.ox t hd ht) fun hM hA y hy k hk=>ap.symm.same Ef Q1 hM hA (hex k ?_)
    rw[BA hq];exact AW (.inl hM) hy hk
   unfold Hi;rw[hj];simp only[Cy]
   have hc:(((i,o,AH C P sm s i o)::dn).all (GT C P sm s2 j x)&&(AH C P sm s2 j x).all fun k=>(s2.hp k).isSome)=true:=by
    simp only[List.all_cons,Bool.and_eq_true];refine⟨⟨?_,?_⟩,?_⟩
    ·unfold GT;simp only[JU];cases hs:(sm.getD j []).any (Nat.beq i)
     ·rfl
     ·have hm:=YF.1 hs;rw[hsm,EQ hj] at hm;obtain⟨o',OJ,XO,_⟩:=Pw.1 hm;rw[hi] at OJ;cases OJ;rw[Um] at XO;rw[ZT (Am4 XO)];rfl
    ·refine List.all_eq_true.2 fun q hq=>?_
     have:=List.all_eq_true.1 hb.1 q hq;unfold GT at this ⊢;rw[JU];exact this
    ·rw[JU];refine List.all_eq_true.2 fun k hk=>?_
     have:=Ef.2.1 k (hex k hk);cases hh:s2.hp k with
     |none=>exact absurd hh this
     |some _=>rfl
   rw[hc,JU];show Dm C P N call ops x s2 _=some r
   have:(fun s'=>Hi C P N call ops sm ((j,x,AH C P sm s j x)::(i,o,AH C P sm s i o)::dn) (l++l') s' K)=fun s2=>Hi C P N call ops sm ((i,o,AH C P sm s i o)::(j,x,AH C P sm s j x)::dn) (l++l') s2 K:=by
    funext s'
    exact Y3 _ fun f=>Aee _ _ _ f
   rw[this];exact h4
end
section
variable {R:Type} {r:R} {P:Program} {N:Nat} {w0:World} {X0:Hg} {Y:Nat->Prop} {β β':Bt} {s:St} {a:Act} {w w':World} {o:Oper} {ops:Array Oper} {C:Gl} {call:An} {K:St->Option R}
theorem Tk {bs:List Nat}:∀(l:List Oper)(n:Nat),U7 C P ops bs l n=true->∀(k:Nat) o,l[k]?=some o->∀(j:Nat) x,ops[j]?=some x->j<n+k->Ad2 C P ops x o=true->(bs.getD (n+k) 0).testBit j=true
 |[],_,_,k,o,ho,_,_,_,_,_=>by simp at ho
 |o'::l,n,h,k,o,ho,j,x,hx,hj,I1=>by
  simp only[U7,Bool.and_eq_true] at h;cases k with
  |zero=>
   simp at ho;subst ho
   have:=List.all_eq_true.1 h.1 (x,j) (by
    rw[List.mem_zipIdx_iff_getElem?]
    simpa using hx)
   simp only[I1,Bool.not_true,Bool.or_false,Bool.or_eq_true,Bool.not_eq_true'] at this;rcases this with h'|h'
   ·have:Nat.blt j n=true:=Nat.ble_eq_true_of_le (by omega)
    rw[this] at h';cases h'
   ·exact h'
  |succ k=>
   have:=Tk l (n+1) h.2 k o (by simpa using ho) j x hx (by omega) I1
   rwa [show n+(k+1)=n+1+k by omega]
theorem NG {G:Ur}(J0:PF P G w0 X0)(Dq:∀f args res,call f args=some res->Df G P f args res)(hok:FA C P ops=true){Q:Exit->Act->World->Prop}(hQ:∀s' a' w' β',K s'=some r->Cr N w0 X0 Y β' s' a' w'->Q .normal a' w'):
  ∀(fuel:Nat) {dn:List (Nat × Oper × List Nat)} {listed:Array Bool} {s:St} {a:Act} {w:World} {β:Bt},HeadInv .any ops ops.size listed->(Lp ops.size listed).length=fuel->Cr N w0 X0 Y β s a w->Hi C P N call ops (Zj C P ops (Hr ops.toList [])) dn (Lp ops.size listed) s K=some r->wpAny P .any ops Q fuel listed a w:=by
 unfold FA at hok;simp only[Bool.and_eq_true] at hok;obtain⟨Agb,Ant⟩:=hok;intro fuel
 induction fuel with
 |zero=>
  intro dn listed s a w β inv hf h hk;have hp:=List.eq_nil_of_length_eq_zero hf;rw[hp] at hk;refine⟨?_,hQ s a w β hk h⟩;cases hr:Region.ready .any ops listed with
  |nil=>rfl
  |cons i l=>
   exfalso;have hi:i∈Region.ready .any ops listed:=by rw[hr];simp
   obtain⟨I2,o,ho,_⟩:=mem_ready.1 hi;have:i∈Lp ops.size listed:=Ie.2 ⟨(Array.getElem?_eq_some_iff.1 ho).1,I2⟩;rw[hp] at this;simp at this
 |succ fuel ih=>
  intro dn listed s a w β inv hf h hk;refine⟨fun hr=>?_,fun i hi=>?_⟩
  ·rw[IG Agb inv hr] at hf;cases hf
  ·obtain⟨I2,o,ho,M6⟩:=mem_ready.1 hi;have B7:i<ops.size:=(Array.getElem?_eq_some_iff.1 ho).1;obtain⟨l1,l2,h1,h2,h3⟩:=Uo (Ie.2 ⟨B7,I2⟩) inv.size;rw[h1] at hk
   have hnb:∀j∈l1,((Hr ops.toList []).getD i 0).testBit j=false:=by
    intro j hj;cases GS:((Hr ops.toList []).getD i 0).testBit j with
    |false=>rfl
    |true=>
     exfalso;have hjl:=Ps (listed:=listed) (fun j oj hj hl=>inv.closed j oj hj hl) ops.toList [] [] (by simp) rfl (by simp) i o ho M6 j GS
     have:j∈Lp ops.size listed:=by rw[h1];simp[hj]
     have:=getD_both (Ie.1 this).2;rw[hjl] at this;cases this
   have Rw:∀j∈l1,j<i∧((Hr ops.toList []).getD i 0).testBit j=false∧∀x,ops[j]?=some x->K0 C P ops x o:=by
    intro j hj;refine⟨h3 j hj,hnb j hj,fun x hxj=>Abm ?_⟩
    cases I1:Ad2 C P ops x o with
    |false=>rfl
    |true=>
     exfalso;have GS:=Tk ops.toList 0 Ant i o (by simpa using ho) j x hxj (by have:=h3 j hj;omega) I1
     rw[Nat.zero_add,hnb j hj] at GS;cases GS
   obtain⟨s',hs',hn⟩:=Ub h J0 Dq ho (Wf rfl ho l1 (Ac6 h o) Rw hk).2;refine hn _ _ fun a' w' β' h'=>ih (dn:=(i,o,AH C P (Zj C P ops (Hr ops.toList [])) s i o)::dn) (inv.set hi B7) ?_ h' ?_
   ·rw[h2];rw[h1] at hf;simp at hf ⊢;omega
   ·rw[h2];exact hs'
theorem AE (h:Cr N w0 X0 Y β s a w){G:Ur}(J0:PF P G w0 X0)(Dq:∀f args res,call f args=some res->Df G P f args res)(hm:P.follows .mixedOrders=true)(hok:FA C P ops=true){Q:Exit->Act->World->Prop}
  (hk:Hi C P N call ops (Zj C P ops (Hr ops.toList [])) [] (List.range ops.size) s K=some r) (hQ:∀s' a' w' β',K s'=some r->Cr N w0 X0 Y β' s' a' w'->Q .normal a' w'):wpAny P .any ops Q ops.size (Array.replicate ops.size false) a { w with drawn:=w.drawn+1 }:=by
 have hp:Lp ops.size (Array.replicate ops.size false)=List.range ops.size:=by
  unfold Lp;refine List.filter_eq_self.2 fun i hi=>?_
  have:=List.mem_range.1 hi;simp[this]
 refine NG (C:=C) (dn:=[]) J0 Dq hok hQ ops.size ⟨by simp,fun j oj _ hl=>(by rw[getD_replicate_false] at hl;cases hl),fun t ht ht'=>by omega⟩ (by rw[hp];simp) h.drew ?_
 rw[hp];exact hk
theorem QX (h:Cr N w0 X0 Y β s a w){G:Ur}(J0:PF P G w0 X0)(Dq:∀f args res,call f args=some res->Df G P f args res)(hm:P.follows .mixedOrders=true)(hok:FA C P ops=true){id:Nat}{Q:Exit->Act->World->Prop}
  (hk:Hi C P N call ops (Zj C P ops (Hr ops.toList [])) [] (List.range ops.size) s K=some r) (hQ:∀s' a' w' β',K s'=some r->Cr N w0 X0 Y β' s' a' w'->Q .normal a' w'):(Code.region id ops true).wp P Q a w:=
 wp_region_any hm (AE h J0 Dq hm hok hk hQ)
end
open Go.RowKit
section
variable {R:Type} {r:R} {N:Nat} {w0:World} {X0:Hg} {Y:Nat->Prop} {β β':Bt} {s:St} {a:Act} {w w':World}
theorem Ads {i:Nat}(hi:i<a.tmps.size):a.put (some i) (a.tmps.getD i undef)=a:=by
 obtain⟨tmps,dfr⟩:=a;change i<tmps.size at hi
 have:tmps.setIfInBounds i (tmps.getD i undef)=tmps:=by
  apply Array.ext_getElem?;intro k;by_cases e:i=k
  ·subst e;simp[hi]
  ·rw[Array.getElem?_setIfInBounds_ne e]
 simp only[Act.put,this]
theorem XV {A:Nat->Prop}{es:Nat}{v:Value}(h:Aw w A (.lst true es 0 []) v):v=.slice none 0 0:=by
 cases h;rfl
theorem WB {id:Nat}(Bj:s.hp id=none){v:PV}{val:Value}(hv:Ea w (C7 (Ar s.hp [(id,.ar false [])]) (Cn β id none) Y) (Cn β id none) v val) (hr:∀i∈Bs v,s.hp i≠none∨i=id):
  IU Y β s w v [(id,.ar false [])] val w (Cn β id none):=by
 refine⟨rfl,rfl,rfl,B8.refl _ _,fun j hj=>Aj _ _ (by rintro rfl;exact hj Bj),?_,?_,?_,?_,?_,hv,?_⟩
 ·intro j bx hm;simp at hm;rw[hm.2];trivial
 ·intro j bx hm;simp at hm;obtain⟨rfl,rfl⟩:=hm;exact .inl ⟨Am _ _ _,rfl⟩
 ·intro j bx k q hm hq;simp at hm;obtain⟨rfl,rfl⟩:=hm;rw[Am] at hq;cases hq
 ·intro j bx j' bx' k q q' hm I6 _ _;simp at hm I6;rw[hm.1,I6.1]
 ·intro j cells hm;simp at hm
 ·intro j hj;rcases hr j hj with h|rfl
  ·exact .inl h
  ·exact .inr ⟨.ar false [],by simp⟩
theorem HJ (h:Cr N w0 X0 Y β s a w)(i:Nat):∃β',Cr N w0 X0 Y β' (BC N s i) a w:=by
 unfold BC;split
 ·rename_i es ht
  have B7:i<N:=by
   rcases Nat.lt_or_ge i N with h'|h'
   ·exact h'
   ·rw[h.tmo i h'] at ht;cases ht
  have hv:=h.tms i B7;rw[ht] at hv;have hv:=XV hv;have hd:Fz N (some i)=true:=by simp[Fz,Nat.blt];omega
  have go:∀j,s.hp j=none->∃β',Cr N w0 X0 Y β' ⟨Cn s.tm i (.view j es 0 0),Cn s.hp j (some (.ar false []))⟩ a w:=by
   intro j hn;have:=h.stepR (d:=some i) hd (by simp[Bq,hn]) (WB (v:=.view j es 0 0) (val:=.slice none 0 0) hn (.inl ⟨Am _ _ _,rfl,rfl,none,rfl⟩) (by simp[Bs,Ca,Ap]))
   rw[←hv,Ads (by rw[h.tsz];exact B7)] at this
   exact⟨_,this⟩
  cases hn:(s.hp i).isNone
  ·cases hn2:(s.hp (i+N*3000)).isNone
   ·exact⟨β,h⟩
   ·exact go _ (by simpa using hn2)
  ·exact go _ (by simpa using hn)
 ·exact⟨β,h⟩
theorem Cr.recell (h:Cr N w0 X0 Y β s a w){id:Nat}{c c':List PV}(h0:s.hp id=some (.st c)) (hl:c'.length=c.length)
  (hc:∀(j:Nat) p,c'[j]?=some p->∃q,c[j]?=some q∧(∀v,B1 w (C7 s.hp β Y) β q v->B1 w (C7 s.hp β Y) β p v)∧∀i∈Ap p,s.hp i≠none):
  Cr N w0 X0 Y β ⟨s.tm,Cn s.hp id (some (.st c'))⟩ a w:=by
 have Gb:∀i,C8 (Cn s.hp id (some (.st c')) i)↔C8 (s.hp i):=by
  intro i;by_cases e:i=id
  ·subst e;rw[Am,h0];exact Iff.rfl
  ·rw[Aj _ _ e]
 have hX:LW (Cn s.hp id (some (.st c'))) β=LW s.hp β:=by
  funext b
  apply propext;constructor
  ·rintro⟨i,o,hl,hb⟩;exact⟨i,o,(Gb i).1 hl,hb⟩
  ·rintro⟨i,o,hl,hb⟩;exact⟨i,o,(Gb i).2 hl,hb⟩
 have hA:C7 (Cn s.hp id (some (.st c'))) β Y=C7 s.hp β Y:=by
  funext b;unfold C7;rw[hX]
 have Eo:∀i,s.hp i≠none->Cn s.hp id (some (.st c')) i≠none:=by
  intro i hi;by_cases e:i=id
  ·subst e;rw[Am];simp
  ·rw[Aj _ _ e];exact hi
 have Aqr:∀i,Cn s.hp id (some (.st c')) i≠none->s.hp i≠none:=by
  intro i hi;by_cases e:i=id
  ·subst e;rw[h0];simp
  ·rw[Aj _ _ e] at hi;exact hi
 refine⟨h.dfr,h.tsz,h.tmo,?_,?_,?_,?_,?_,?_,?_,?_,fun i hi=>⟨Eo _ (h.pin i hi).1,(h.pin i hi).2⟩,?_,?_,h.Ylt,h.fr⟩
 ·intro i hi;show Ea w (C7 (Cn s.hp id _) β Y) β _ _;rw[hA];exact h.tms i hi
 ·intro i b hb;show Pr w (C7 (Cn s.hp id _) β Y) β i b;rw[hA];by_cases e:i=id
  ·subst e;change Cn s.hp i (some (.st c')) i=some b at hb;rw[Am] at hb;cases hb;obtain⟨b,o,h1,h2,h3⟩:=h.box i _ h0;refine⟨b,o,h1,fun j p hj=>?_,fun j hj=>h3 j (by rw[←hl];exact hj)⟩
   obtain⟨q,hq,hqp,_⟩:=hc j p hj;obtain⟨v,hv,hr⟩:=h2 j q hq;exact⟨v,hv,hqp v hr⟩
  ·change Cn s.hp id (some (.st c')) i=some b at hb;rw[Aj _ _ e] at hb;exact h.box i b hb
 ·intro i i' b o o' hl Je hb Hf;exact h.inj i i' b o o' ((Gb i).1 hl) ((Gb i').1 Je) hb Hf
 ·intro i b o hn hb;exact h.blt i b o (Aqr i hn) hb
 ·intro i hi j hj;exact Eo j (h.wfT i hi j hj)
 ·intro i cells hb p hp j hj;change Cn s.hp id (some (.st c')) i=_ at hb;by_cases e:i=id
  ·subst e;rw[Am] at hb;cases hb;obtain⟨k,hk⟩:=List.mem_iff_getElem?.1 hp;obtain⟨_,_,_,hr⟩:=hc k p hk;exact Eo j (hr j hj)
  ·rw[Aj _ _ e] at hb;exact Eo j (h.wfB i cells hb p hp j hj)
 ·intro b hb;exact h.ownd b (by rw[←hX];exact hb)
 ·intro i bx b o hb hlb hβ B7 j hj;change Cn s.hp id (some (.st c')) i=some bx at hb;by_cases e:i=id
  ·subst e;rw[Am] at hb;cases hb;exact h.rngB i _ b o h0 trivial hβ B7 j (by unfold BR at hj ⊢;simp only[hl] at hj;exact hj)
  ·rw[Aj _ _ e] at hb;exact h.rngB i bx b o hb hlb hβ B7 j hj
 ·intro i c1 b o hb hβ B7;change Cn s.hp id (some (.st c')) i=_ at hb;by_cases e:i=id
  ·subst e;exact h.stp i c b o h0 hβ B7
  ·rw[Aj _ _ e] at hb;exact h.stp i c1 b o hb hβ B7
 ·intro b hY hb;exact h.Yx b hY (by rw[←hX];exact hb)
theorem GU (h:Cr N w0 X0 Y β s a w)(id j:Nat):∃β',Cr N w0 X0 Y β' (LF N id s j) a w:=by
 unfold LF;split
 ·rename_i c h0;split
  ·rename_i es hj;cases hn:(s.hp (id+N*(j+1))).isNone
   ·exact⟨β,h⟩
   ·have hn:s.hp (id+N*(j+1))=none:=by simpa using hn
    have Eo:id≠id+N*(j+1):=by
     intro e;rw[←e,h0] at hn;cases hn
    have h1:=h.stepR (d:=none) (v:=.top) (val:=undef) rfl (by simp[Bq,hn]) (WB hn (.top _) (by simp[Bs,Ca,Ap]))
    change Cr N w0 X0 Y (Cn β (id+N*(j+1)) none) ⟨s.tm,Cn s.hp (id+N*(j+1)) (some (.ar false []))⟩ a w at h1
    have h2:=h1.recell (id:=id) (c:=c) (c':=c.set j (.view (id+N*(j+1)) es 0 0)) (by show Cn _ _ _ _=_;rw[Aj _ _ Eo];exact h0) (by simp) (by
     intro k p hp;by_cases e:k=j
     ·subst e
      have B7:k<c.length:=by
       rcases Nat.lt_or_ge k c.length with h'|h'
       ·exact h'
       ·rw[List.getElem?_eq_none h'] at hj;cases hj
      rw[List.getElem?_set_self B7] at hp;cases hp;refine⟨_,hj,fun v hv=>.inl ⟨Am _ _ _,rfl,rfl,none,XV hv⟩,fun i hi=>?_⟩
      simp[Ap] at hi;subst hi;show Cn _ _ _ _≠none;rw[Am];simp
     ·rw[List.getElem?_set_ne (fun h=>e h.symm)] at hp
      refine⟨p,hp,fun _ hv=>hv,fun i hi=>?_⟩
      have:=h.wfB id c h0 p (List.mem_of_getElem? hp) i hi;show Cn _ _ _ _≠none;by_cases e':i=id+N*(j+1)
      ·subst e';rw[Am];simp
      ·rw[Aj _ _ e'];exact this)
    refine⟨Cn β (id+N*(j+1)) none,?_⟩;have e3:Cn (Cn s.hp (id+N*(j+1)) (some (.ar false []))) id (some (.st (c.set j (.view (id+N*(j+1)) es 0 0))))=Cn (Cn s.hp id (some (.st (c.set j (.view (id+N*(j+1)) es 0 0))))) (id+N*(j+1)) (some (.ar false [])):=OV _ _ _ (fun h=>Eo h.symm)
    change Cr N w0 X0 Y (Cn β (id+N*(j+1)) none) ⟨s.tm,Cn (Cn s.hp (id+N*(j+1)) (some (.ar false []))) id (some (.st (c.set j (.view (id+N*(j+1)) es 0 0))))⟩ a w at h2;rw[e3] at h2;exact h2
  ·exact⟨β,h⟩
 ·exact⟨β,h⟩
theorem Nq {f:St->Nat->St}(hf:∀s β,Cr N w0 X0 Y β s a w->∀i,∃β',Cr N w0 X0 Y β' (f s i) a w):∀(l:List Nat){s:St}{β:Bt},Cr N w0 X0 Y β s a w->∃β',Cr N w0 X0 Y β' (l.foldl f s) a w
 |[],_,β,h=>⟨β,h⟩
 |i::l,s,β,h=>by
  obtain⟨β1,h1⟩:=hf s β h i;exact Nq hf l h1
theorem LH (h:Cr N w0 X0 Y β s a w)(i:Nat):∃β',Cr N w0 X0 Y β' (LU N s i) a w:=by
 unfold LU;split
 ·split
  ·exact Nq (fun s β h i=>GU h _ i) _ h
  ·exact⟨β,h⟩
 ·exact⟨β,h⟩
theorem KI:∀{m:List (Nat × Nat)},Dy (m.map (·.2))=true->∀{i i' j:Nat},(i,j)∈m->(i',j)∈m->i=i'
 |[],_,_,_,_,h,_=>by simp at h
 |(x,y)::m,hn,i,i',j,h,h'=>by
  simp only[List.map_cons,Dy,Bool.and_eq_true,Bool.not_eq_true'] at hn
  have hy:∀k,(k,y) ∉ m:=by
   intro k hk;exact Qj hn.1 (List.mem_map.2 ⟨(k,y),hk,rfl⟩)
  rcases List.mem_cons.1 h with e|h
  ·cases e;rcases List.mem_cons.1 h' with e|h'
   ·cases e;rfl
   ·exact absurd h' (hy _)
  ·rcases List.mem_cons.1 h' with e|h'
   ·cases e;exact absurd h (hy _)
   ·exact KI hn.2 h h'
theorem Xj:∀{m:List (Nat × Nat)},Dy (m.map (·.1))=true->∀{i j j':Nat},(i,j)∈m->(i,j')∈m->j=j'
 |[],_,_,_,_,h,_=>by simp at h
 |(x,y)::m,hn,i,j,j',h,h'=>by
  simp only[List.map_cons,Dy,Bool.and_eq_true,Bool.not_eq_true'] at hn
  have hx:∀k,(x,k) ∉ m:=by
   intro k hk;exact Qj hn.1 (List.mem_map.2 ⟨(x,k),hk,rfl⟩)
  rcases List.mem_cons.1 h with e|h
  ·cases e;rcases List.mem_cons.1 h' with e|h'
   ·cases e;rfl
   ·exact absurd h' (hx _)
  ·rcases List.mem_cons.1 h' with e|h'
   ·cases e;exact absurd h (hx _)
   ·exact Xj hn.2 h h'
theorem Lz {i j:Nat}(h:Nat.beq i j=false):i≠j:=by rintro rfl;rw[Nat.beq_refl] at h;cases h
theorem Wu:∀{m:List (Nat × Nat)} {i j:Nat},Sy m i=some j->(i,j)∈m
 |[],_,_,h=>by cases h
 |(x,y)::m,i,j,h=>by
  unfold Sy at h;cases hb:Nat.beq i x<;>rw[hb] at h
  ·exact List.mem_cons_of_mem _ (Wu h)
  ·have:=Nat.eq_of_beq_eq_true hb;cases h;rw[this];simp
theorem Xz {m:List (Nat × Nat)} {hp:Nat->Option Bo}:∀{l:List (Nat × Nat)} {j:Nat}{b:Bo},Ij (K9 m hp l) j=some b->∃i b0,(i,j)∈l∧hp i=some b0∧b=Akl m b0
 |[],_,_,h=>by cases h
 |(x,y)::l,j,b,h=>by
  unfold K9 at h;cases hx:hp x with
  |none=>
   rw[hx] at h;obtain⟨i,b0,h1,h2⟩:=Xz h;exact⟨i,b0,List.mem_cons_of_mem _ h1,h2⟩
  |some bx=>
   rw[hx] at h;simp only[Ij] at h;cases hb:Nat.beq j y<;>rw[hb] at h
   ·obtain⟨i,b0,h1,h2⟩:=Xz h;exact⟨i,b0,List.mem_cons_of_mem _ h1,h2⟩
   ·have:=Nat.eq_of_beq_eq_true hb;subst this;cases h;exact⟨x,bx,by simp,hx,rfl⟩
theorem Ml {m:List (Nat × Nat)} {hp:Nat->Option Bo}:∀{l:List (Nat × Nat)} {i j:Nat},(i,j)∈l->hp i≠none->Ij (K9 m hp l) j≠none
 |[],_,_,h,_=>by simp at h
 |(x,y)::l,i,j,h,hi=>by
  unfold K9;cases hx:hp x with
  |none=>
   rcases List.mem_cons.1 h with e|h
   ·cases e;exact absurd hx hi
   ·exact Ml h hi
  |some bx=>
   simp only[Ij];cases hb:Nat.beq j y
   ·rcases List.mem_cons.1 h with e|h
    ·cases e;exact absurd rfl (Lz hb)
    ·exact Ml h hi
   ·simp
def GV (m:List (Nat × Nat)) (j:Nat):Option Nat:=
 match m with
 |[]=>none
 |(x,y)::r=>bif Nat.beq j y then some x else GV r j
theorem WV:∀{m:List (Nat × Nat)} {i j:Nat},GV m j=some i->(i,j)∈m
 |[],_,_,h=>by cases h
 |(x,y)::m,i,j,h=>by
  unfold GV at h;cases hb:Nat.beq j y<;>rw[hb] at h
  ·exact List.mem_cons_of_mem _ (WV h)
  ·have:=Nat.eq_of_beq_eq_true hb;cases h;rw[this];simp
theorem RF:∀{m:List (Nat × Nat)} {i j:Nat},(i,j)∈m->∃k,GV m j=some k
 |[],_,_,h=>by simp at h
 |(x,y)::m,i,j,h=>by
  unfold GV;cases hb:Nat.beq j y
  ·rcases List.mem_cons.1 h with e|h
   ·cases e;exact absurd rfl (Lz hb)
   ·exact RF h
  ·exact⟨x,rfl⟩
theorem MP {f:Nat->PV}:∀{l:List Nat}{i:Nat},lk (l.map fun i=>(i,f i)) i=if i∈l then f i else .top
 |[],_=>rfl
 |x::l,i=>by
  simp only[List.map_cons,lk];cases hb:Nat.beq i x
  ·have:=Lz hb;simp only[cond_false,MP,List.mem_cons,this,false_or]
  ·have:=Nat.eq_of_beq_eq_true hb;subst this;simp
theorem IF {m:Nat}:∀{n i:Nat},i∈K1 m n->i<n
 |0,_,h=>by simp[K1] at h
 |n+1,i,h=>by
  simp only[K1,List.mem_append] at h;rcases h with h|h
  ·have:=IF h;omega
  ·cases hb:m.testBit n<;>rw[hb] at h
   ·simp at h
   ·simp at h;omega
theorem NF (h:Cr N w0 X0 Y β s a w){m:List (Nat × Nat)} (h1:Dy (m.map (·.1))=true) (h2:Dy (m.map (·.2))=true) {ls:List Nat}(hls:∀i∈ls,i<N)(hpn:∀i,X0.pn i->(Dh N i,Dh N i)∈m):
  ∃β',Cr N w0 X0 Y β' ⟨lk (ls.map fun i=>(i,Abj m (s.tm i))),Ij (K9 m s.hp m)⟩ a w:=by
 refine⟨fun j=>(GV m j).bind β,?_⟩
 have hβ:∀{i j:Nat},(i,j)∈m->(GV m j).bind β=β i:=by
  intro i j hm;obtain⟨k,hk⟩:=RF hm;rw[hk];have:=KI h2 (WV hk) hm;subst this;rfl
 have hold:∀{j:Nat} {b:Bo},Ij (K9 m s.hp m) j=some b->∃i b0,(i,j)∈m∧s.hp i=some b0∧b=Akl m b0∧(GV m j).bind β=β i:=by
  intro j b hb;obtain⟨i,b0,hm,h3,h4⟩:=Xz hb;exact⟨i,b0,hm,h3,h4,hβ hm⟩
 have Gb:∀{j:Nat},C8 (Ij (K9 m s.hp m) j)->∃i,(i,j)∈m∧C8 (s.hp i)∧(GV m j).bind β=β i:=by
  intro j hl;cases hb:Ij (K9 m s.hp m) j with
  |none=>rw[hb] at hl;exact hl.elim
  |some b=>
   obtain⟨i,b0,hm,h3,rfl,h5⟩:=hold hb;refine⟨i,hm,?_,h5⟩;rw[hb] at hl;rw[h3];cases b0<;>exact hl
 have hX:∀b,LW (Ij (K9 m s.hp m)) (fun j=>(GV m j).bind β) b->LW s.hp β b:=by
  rintro b ⟨j,o,hl,hb⟩
  obtain⟨i,_,Je,e⟩:=Gb hl;exact⟨i,o,Je,by rw[←e];exact hb⟩
 have hA:∀b,C7 (Ij (K9 m s.hp m)) (fun j=>(GV m j).bind β) Y b->C7 s.hp β Y b:=fun b hb=>hb.imp (hX b) id
 have hC:∀p v,B1 w (C7 s.hp β Y) β p v->B1 w (C7 (Ij (K9 m s.hp m)) (fun j=>(GV m j).bind β) Y) (fun j=>(GV m j).bind β) (TK m p) v:=by
  intro p v hp;cases p with
  |view id es off n=>
   show B1 _ _ _ (match Sy m id with|some j=>.view j es off n|none=>.top) v
   cases hj:Sy m id with
   |some j=>
    have e:=hβ (Wu hj);rcases hp with⟨e1,e2⟩|⟨b,o,x,cap,e1,e2⟩
    ·exact .inl ⟨by show (GV m j).bind β=none;rw[e];exact e1,e2⟩
    ·exact .inr ⟨b,o,x,cap,by show (GV m j).bind β=_;rw[e];exact e1,e2⟩
   |none=>exact Aw.top _
  |ptr id off=>
   show B1 _ _ _ (match Sy m id with|some j=>.ptr j off|none=>.top) v
   cases hj:Sy m id with
   |some j=>
    have e:=hβ (Wu hj);obtain⟨b,o,e1,e2⟩:=hp;exact⟨b,o,by show (GV m j).bind β=_;rw[e];exact e1,e2⟩
   |none=>exact Aw.top _
  |sc v=>exact Aw.step (B8.refl _ _) (fun b _=>hA b) hp
  |lst z es n c=>exact Aw.step (B8.refl _ _) (fun b _=>hA b) hp
  |iptr c off=>exact B1.step (p:=.iptr c off) (B8.refl _ _) (fun b _=>hA b) (by simp[Ap]) hp
  |_=>exact Aw.top _
 have hV:∀p v,Ea w (C7 s.hp β Y) β p v->Ea w (C7 (Ij (K9 m s.hp m)) (fun j=>(GV m j).bind β) Y) (fun j=>(GV m j).bind β) (Abj m p) v:=by
  intro p v hp;cases p with
  |agg c=>
   obtain⟨vs,e1,e2⟩:=hp;refine⟨vs,e1,Be.of_at (by simp;exact e2.len) fun i q u hq hu=>?_⟩
   rw[List.getElem?_map] at hq;cases hc:c[i]? with
   |none=>rw[hc] at hq;cases hq
   |some q0=>
    rw[hc] at hq;cases hq;exact hC _ _ (e2.at_ hc hu)
  |view id es off n=>
   have:=hC (.view id es off n) v hp;change B1 _ _ _ (match Sy m id with|some j=>.view j es off n|none=>.top) v at this
   show Ea _ _ _ (match Sy m id with|some j=>.view j es off n|none=>.top) v
   cases hj:Sy m id<;>rw[hj] at this<;>exact this
  |ptr id off=>
   have:=hC (.ptr id off) v hp;change B1 _ _ _ (match Sy m id with|some j=>.ptr j off|none=>.top) v at this
   show Ea _ _ _ (match Sy m id with|some j=>.ptr j off|none=>.top) v
   cases hj:Sy m id<;>rw[hj] at this<;>exact this
  |sc v'=>exact hC (.sc v') v hp
  |lst z es n c=>exact hC (.lst z es n c) v hp
  |iptr c off=>exact hC (.iptr c off) v hp
  |_=>exact Aw.top _
 have hrC:∀p i,i∈Ap (TK m p)->∃k∈Ap p,(k,i)∈m:=by
  intro p i hi;cases p with
  |view id es off n=>
   change i∈Ap (match Sy m id with|some j=>.view j es off n|none=>.top) at hi
   cases hj:Sy m id<;>rw[hj] at hi
   ·simp[Ap] at hi
   ·simp[Ap] at hi;subst hi;exact⟨id,by simp[Ap],Wu hj⟩
  |ptr id off=>
   change i∈Ap (match Sy m id with|some j=>.ptr j off|none=>.top) at hi
   cases hj:Sy m id<;>rw[hj] at hi
   ·simp[Ap] at hi
   ·simp[Ap] at hi;subst hi;exact⟨id,by simp[Ap],Wu hj⟩
  |_=>simp[TK,Ap] at hi
 have hrV:∀p i,i∈Bs (Abj m p)->∃k∈Bs p,(k,i)∈m:=by
  intro p i hi;cases p with
  |agg c=>
   simp only[Abj,Bs,Ca,List.mem_flatMap,List.mem_map] at hi;obtain⟨_,⟨q,hq,rfl⟩,hi⟩:=hi;obtain⟨k,hk,hm⟩:=hrC q i hi;exact⟨k,by simp only[Bs,Ca,List.mem_flatMap];exact⟨q,hq,hk⟩,hm⟩
  |view id es off n=>
   refine (hrC (.view id es off n) i ?_).imp fun k hk=>hk
   change i∈Bs (match Sy m id with|some j=>.view j es off n|none=>.top) at hi
   show i∈Ap (match Sy m id with|some j=>.view j es off n|none=>.top)
   cases hj:Sy m id<;>rw[hj] at hi<;>exact hi
  |ptr id off=>
   refine (hrC (.ptr id off) i ?_).imp fun k hk=>hk
   change i∈Bs (match Sy m id with|some j=>.ptr j off|none=>.top) at hi
   show i∈Ap (match Sy m id with|some j=>.ptr j off|none=>.top)
   cases hj:Sy m id<;>rw[hj] at hi<;>exact hi
  |_=>simp[Abj,TK,Bs,Ca,Ap] at hi
 refine⟨h.dfr,h.tsz,?_,?_,?_,?_,?_,?_,?_,?_,?_,?_,?_,?_,h.Ylt,h.fr⟩
 ·intro i hi;show lk _ i=_;rw[MP,if_neg (fun hm=>by have:=hls i hm;omega)]
 ·intro i hi;show Ea w _ _ (lk _ i) _;rw[MP];split
  ·exact hV _ _ (h.tms i hi)
  ·exact Aw.top _
 ·intro j b hb;obtain⟨i,b0,hm,h3,rfl,e⟩:=hold hb;have Ku:=h.box i b0 h3;cases b0 with
  |st c=>
   obtain⟨b,o,e1,e2,e3⟩:=Ku;refine⟨b,o,by show (GV m j).bind β=_;rw[e];exact e1,fun k p hp=>?_,fun k hk=>e3 k (by simpa using hk)⟩
   rw[List.getElem?_map] at hp;cases hc:c[k]? with
   |none=>rw[hc] at hp;cases hp
   |some q=>
    rw[hc] at hp;cases hp;obtain⟨v,hv,hr⟩:=e2 k q hc;exact⟨v,hv,hC _ _ hr⟩
  |ar fz c=>
   have:=Pr.step' hA Ku;show Pr _ _ _ _ (.ar fz c);rcases this with⟨e1,e2⟩|⟨b,o,e1,e2⟩
   ·exact .inl ⟨by show (GV m j).bind β=_;rw[e];exact e1,e2⟩
   ·exact .inr ⟨b,o,by show (GV m j).bind β=_;rw[e];exact e1,e2⟩
  |mv=>exact trivial
 ·intro j j' b o o' hl Je hb Hf;obtain⟨i,hm,FZ,e⟩:=Gb hl;obtain⟨i',I6,A2k,e'⟩:=Gb Je;have:=h.inj i i' b o o' FZ A2k (by rw[←e];exact hb) (by rw[←e'];exact Hf)
  subst this;exact Xj h1 hm I6
 ·intro j b o hn hb;cases hj:Ij (K9 m s.hp m) j with
  |none=>exact absurd hj hn
  |some bx=>
   obtain⟨i,b0,_,h3,_,e⟩:=hold hj;exact h.blt i b o (by rw[h3];simp) (by rw[←e];exact hb)
 ·intro i hi j hj;change j∈Bs (lk _ i) at hj;rw[MP] at hj;split at hj
  ·obtain⟨k,hk,hm⟩:=hrV _ j hj;exact Ml hm (h.wfT i hi k hk)
  ·simp[Bs,Ca,Ap] at hj
 ·intro j cells hb p hp k hk;obtain⟨i,b0,_,h3,h4,_⟩:=hold hb;cases b0 with
  |st c=>
   cases h4;obtain⟨q,hq,rfl⟩:=List.mem_map.1 hp;obtain⟨k',Ky,hm⟩:=hrC q k hk;exact Ml hm (h.wfB i c h3 q hq k' Ky)
  |ar fz c=>cases h4
  |mv=>cases h4
 ·intro b hb;exact h.ownd b (hX b hb)
 ·intro j bx b o hb hlb hβ1 B7 k hk;obtain⟨i,b0,_,h3,h4,e⟩:=hold hb;subst h4;refine h.rngB i b0 b o h3 ?_ (by rw[←e];exact hβ1) B7 k ?_
  ·cases b0<;>exact hlb
  ·cases b0 with
   |st c=>simpa [BR,Akl] using hk
   |ar fz c=>exact hk
   |mv=>exact hk
 ·intro i hi;exact⟨Ml (hpn i hi) (h.pin i hi).1,(hβ (hpn i hi)).trans (h.pin i hi).2⟩
 ·intro j c b o hb hβ1 B7;obtain⟨i,b0,hm,h3,h4,e⟩:=hold hb;cases b0 with
  |st c0=>
   obtain⟨k,rfl,hk⟩:=h.stp i c0 b o h3 (by rw[←e];exact hβ1) B7
   exact⟨k,Xj h1 hm (hpn k hk),hk⟩
  |ar fz c0=>cases h4
  |mv=>cases h4
 ·intro b hY hb;exact h.Yx b hY (hX b hb)
theorem Si {m:List (Nat × Nat)} {q:Nat × Nat}{o n:Nat}(h:q∈m):q∈HT m o n:=by
 unfold HT;split
 ·exact h
 ·exact List.mem_append.2 (.inl h)
theorem Ke {q:Nat × Nat}{new:Nat}:∀{c:List PV}{j:Nat}{m:List (Nat × Nat)},q∈m->q∈Qi N new c j m
 |[],_,_,h=>h
 |p::c,j,m,h=>by
  unfold Qi;split
  ·rename_i e;cases e
  ·rename_i e;cases e;exact Ke (Si h)
  ·rename_i e;cases e;exact Ke h
theorem PI {q:Nat × Nat}{m:List (Nat × Nat)} {i:Nat}(h:q∈m):q∈AX N s m i:=by
 unfold AX;split
 ·exact Si h
 ·split
  ·exact h
  ·split
   ·exact Ke (Si h)
   ·exact Si h
 ·exact Ke h
 ·exact h
theorem U0 {q:Nat × Nat}:∀{l:List Nat}{m:List (Nat × Nat)},q∈m->q∈l.foldl (AX N s) m
 |[],_,h=>h
 |_::l,_,h=>U0 (l:=l) (PI h)
theorem Py {q:Nat × Nat}{m:List (Nat × Nat)} (h:q∈m):∀k,q∈Rh N s.hp k m
 |0=>h
 |k+1=>by
  unfold Rh;split
  ·exact Ke (Py h k)
  ·exact Py h k
theorem JL:∀{k i:Nat},i<k->s.hp (Dh N i)≠none->(Dh N i,Dh N i)∈OG N s.hp k
 |0,_,h,_=>by omega
 |k+1,i,h,hn=>by
  unfold OG;by_cases e:i=k
  ·subst e
   have:(s.hp (Dh N i)).isSome=true:=by
    cases hq:s.hp (Dh N i) with
    |none=>exact absurd hq hn
    |some b=>rfl
   rw[this];simp
  ·have:=JL (k:=k) (i:=i) (by omega) hn
   cases (s.hp (Dh N k)).isSome
   ·exact this
   ·exact List.mem_append.2 (.inl this)
theorem Y6 (h:Cr N w0 X0 Y β s a w){L:Nat}{q:Bool}{K:St->Option R}(hk:VU N (K1 L N) q s K=some r):∃β' s',K s'=some r∧Cr N w0 X0 Y β' s' a w:=by
 unfold VU at hk;obtain⟨hb,Ds⟩:=Al hk;simp only[Bool.and_eq_true] at hb
 obtain⟨β2,h2⟩:∃β2,Cr N w0 X0 Y β2 (bif q then s else (K1 L N).foldl (LU N) ((K1 L N).foldl (BC N) s)) a w:=by
  cases q
  ·obtain⟨β1,h1⟩:=Nq (fun s β h i=>HJ h i) (K1 L N) h
   obtain⟨β2,h2⟩:=Nq (fun s β h i=>LH h i) (K1 L N) h1
   exact⟨β2,h2⟩
  ·exact⟨β,h⟩
 obtain⟨β3,h3⟩:=NF h2 hb.1 hb.2 (ls:=K1 L N) (fun i hi=>IF hi) (fun i hi=>U0 (Py (JL (X0.p8 i hi) (h2.pin i hi).1) 8))
 exact⟨β3,_,Ds,h3⟩
theorem Rv (h:Cr N w0 X0 Y β s a w){L:Nat}{K:St->Option R}(hk:V7 N L s K=some r):∃β' s',K s'=some r∧Cr N w0 X0 Y β' s' a w:=Y6 h hk
theorem QV (h:Cr N w0 X0 Y β s a w){L:Nat}{K:St->Option R}(hk:VS N L s K=some r):∃β' s',K s'=some r∧Cr N w0 X0 Y β' s' a w:=Y6 h hk
end
open Go.RowKit
section
variable {R:Type} {r:R} {P:Program} {N:Nat} {w0:World} {X0:Hg} {Y:Nat->Prop} {C:Gl} {call:An}
theorem JG {n:Nat}{F:St->Option R}{s:St}(h:CE n F s=some r):F s=some r:=by
 unfold CE at h;split at h
 ·cases h
 ·exact h
theorem QS {β:Bt}{s:St}{a:Act}{w:World}(h:Cr N w0 X0 Y β s a w){c:Operand}{kt kf:St->Option R}(hk:Acz s c kt kf=some r):(a.eval c=.bool true∧kt s=some r)∨(a.eval c=.bool false∧kf s=some r):=by
 unfold Acz at hk;split at hk
 ·rename_i d;split at hk
  ·rename_i b ht;have hv:a.eval (.tmp d)=.bool b:=B6 h (x:=.tmp d) ht;cases b
   ·change kf ⟨Cn s.tm d (.sc (.bool false)),s.hp⟩=some r at hk;rw[V6 s.tm ht] at hk;exact .inr ⟨hv,hk⟩
   ·change kt ⟨Cn s.tm d (.sc (.bool true)),s.hp⟩=some r at hk;rw[V6 s.tm ht] at hk;exact .inl ⟨hv,hk⟩
  ·rename_i ht;have hu:=Cv h (.tmp d);change Ea _ _ _ (s.tm d) _ at hu;rw[ht] at hu;have H9:Aw w _ .ub (a.eval (.tmp d)):=hu
   obtain⟨b,hv⟩:∃b,a.eval (.tmp d)=.bool b:=by
    generalize a.eval (.tmp d)=x at H9;cases H9 with
    |ub b=>exact⟨b,rfl⟩
   obtain⟨h1,h2⟩:=KL hk;cases b
   ·exact .inr ⟨hv,h2⟩
   ·exact .inl ⟨hv,h1⟩
  ·cases hk
 ·exact .inl ⟨rfl,hk⟩
 ·exact .inr ⟨rfl,hk⟩
 ·cases hk
theorem CR {c:Code}{Q:Exit->Act->World->Prop}{F:(St->Option R)->St->Option R} {nm:St->(St->Option R)->Option R}
  (GM:∀{β s a w} {K:St->Option R},Cr N w0 X0 Y β s a w->nm s K=some r->∃β' s',K s'=some r∧Cr N w0 X0 Y β' s' a w)
  (hF:∀{β s a w} {K:St->Option R}{Q':Act->World->Prop},Cr N w0 X0 Y β s a w->F K s=some r->(∀s' a' w' β',K s'=some r->Cr N w0 X0 Y β' s' a' w'->Q' a' w')->c.wp P (Exit.then Q' Q) a w):
  ∀(n:Nat) {β s a w},Cr N w0 X0 Y β s a w->Aga F nm n s=some r->Code.rounds P c Q n a w
 |0,_,_,_,_,_,hk=>by cases hk
 |n+1,β,s,a,w,h,hk=>by
  rw[rounds_succ];refine hF h hk fun s' a' w' β' Ky h'=>?_
  obtain⟨β1,s1,Ds,h1⟩:=GM h' Ky;exact CR GM hF n h1 Ds
theorem UW {G:Ur}(J0:PF P G w0 X0)(Dq:∀f args res,call f args=some res->Df G P f args res)(hm:P.follows .mixedOrders=true){fu:Nat}:
  ∀(c:Code) {ln:Nat} {lx:Nat->Nat} {lr:Nat} {kn:St->Option R} {kx:Nat->St->Option R} {kr:St->Option R} {β:Bt} {s:St} {a:Act} {w:World} {Q:Exit->Act->World->Prop},Cr N w0 X0 Y β s a w ->
   N9 C P fu N call c ln lx lr kn kx kr s=some r->(∀s' a' w' β',kn s'=some r->Cr N w0 X0 Y β' s' a' w'->Q .normal a' w') ->
   (∀id s' a' w' β',kx id s'=some r->Cr N w0 X0 Y β' s' a' w'->Q (.exit id) a' w')->(∀s' a' w' β',kr s'=some r->Cr N w0 X0 Y β' s' a' w'->Q .ret a' w')->c.wp P Q a w:=by
 intro c
 induction c with
 |skip=>intro ln lx lr kn kx kr β s a w Q h hk hn hx hr;exact wp_skip (hn s a w β hk h)
 |region id ops draw=>
  intro ln lx lr kn kx kr β s a w Q h hk hn hx hr;unfold N9 at hk;cases draw
  ·simp only[OA,Bool.false_and,cond_false] at hk;exact LA h J0 Dq hk hn
  ·simp only[OA,Al2,Bool.true_and,cond_true] at hk;cases hb:JN C P ops<;>rw[hb] at hk
   ·obtain⟨Hf,Ds⟩:=Al (show A9 _ _=some r from hk)
    exact QX h J0 Dq hm Hf Ds hn
   ·exact MH h J0 Dq hm hb hk hn
 |seq c1 c2 ih1 ih2=>
  intro ln lx lr kn kx kr β s a w Q h hk hn hx hr;unfold N9 at hk
  refine wp_seq (ih1 h hk (fun s' a' w' β' Ky h'=>by
    cases hc:Ag0 P c1 c2
    ·rw[hc] at Ky;exact ih2 h' Ky hn hx hr
    ·rw[hc] at Ky;cases hq:AV c1 c2
     ·rw[hq] at Ky;obtain⟨β1,s1,Ds,h1⟩:=Rv h' (show V7 _ _ _ _=some r from Ky)
      exact ih2 h1 (JG Ds) hn hx hr
     ·rw[hq] at Ky;obtain⟨β1,s1,Ds,h1⟩:=QV h' (show VS _ _ _ _=some r from Ky)
      exact ih2 h1 (JG Ds) hn hx hr) (fun id s' a' w' β' Ky h'=>hx id s' a' w' β' Ky h') (fun s' a' w' β' Ky h'=>hr s' a' w' β' Ky h'))
 |cond c c1 c2 ih1 ih2=>
  intro ln lx lr kn kx kr β s a w Q h hk hn hx hr;unfold N9 at hk;rcases QS h hk with⟨hc,Ds⟩|⟨hc,Ds⟩
  ·exact wp_cond_true hc (ih1 h Ds hn hx hr)
  ·exact wp_cond_false hc (ih2 h Ds hn hx hr)
 |block id c ih=>
  intro ln lx lr kn kx kr β s a w Q h hk hn hx hr;unfold N9 at hk;refine wp_block (ih h hk (fun s' a' w' β' Ky h'=>hn s' a' w' β' Ky h') (fun j s' a' w' β' Ky h'=>?_) (fun s' a' w' β' Ky h'=>hr s' a' w' β' Ky h'))
  show (if j=id then _ else _)
  by_cases e:j=id
  ·subst e;rw[if_pos rfl];rw[Nat.beq_refl] at Ky;exact hn s' a' w' β' Ky h'
  ·rw[if_neg e]
   have:Nat.beq j id=false:=by
    cases hb:Nat.beq j id
    ·rfl
    ·exact absurd (Nat.eq_of_beq_eq_true hb) e
   rw[this] at Ky;exact hx j s' a' w' β' Ky h'
 |loop c ih=>
  intro ln lx lr kn kx kr β s a w Q h hk hn hx hr;unfold N9 at hk;obtain⟨β1,s1,Ds,h1⟩:=Rv h hk;refine wp_loop_rounds fu (CR (fun h hk=>Rv h hk) (fun h hk hQ=>?_) fu h1 Ds)
  exact ih h hk hQ (fun id s' a' w' β' Ky h'=>hx id s' a' w' β' Ky h') (fun s' a' w' β' Ky h'=>hr s' a' w' β' Ky h')
 |«exit» id=>intro ln lx lr kn kx kr β s a w Q h hk hn hx hr;exact wp_exit (hx id s a w β hk h)
 |ret=>intro ln lx lr kn kx kr β s a w Q h hk hn hx hr;exact wp_ret (hr s a w β hk h)
 |_=>intro ln lx lr kn kx kr β s a w Q h hk hn hx hr;cases hk
end
open Go.RowKit
theorem Lu:∀{l:List (Nat × Bo)} {i:Nat}{b:Bo},Ij l i=some b->(i,b)∈l
 |[],_,_,h=>by cases h
 |(j,c)::l,i,b,h=>by
  unfold Ij at h;cases hb:Nat.beq i j<;>rw[hb] at h
  ·exact List.mem_cons_of_mem _ (Lu h)
  ·have:=Nat.eq_of_beq_eq_true hb;cases h;rw[this];simp
theorem MF:∀{l:List (Nat × Bo)},(l.map (·.1)).Nodup->∀{i b},(i,b)∈l->Ij l i=some b
 |[],_,_,_,h=>by cases h
 |(j,c)::l,hn,i,b,h=>by
  simp only[List.map_cons,List.nodup_cons] at hn;unfold Ij;rcases List.mem_cons.1 h with e|h
  ·cases e;simp only[Nat.beq_refl,cond_true]
  ·have:Nat.beq i j=false:=by
    cases hb:Nat.beq i j
    ·rfl
    ·exact absurd (Nat.eq_of_beq_eq_true hb ▸ List.mem_map.2 ⟨_,h,rfl⟩) hn.1
   simp only[this,cond_false];exact MF hn.2 h
section
variable {R:Type} {r:R} {P:Program} {N:Nat} {w0:World} {X0:Hg} {Y:Nat->Prop} {β β':Bt} {s:St} {a:Act} {w w':World} {A:Nat->Prop}
theorem Ael {id:Nat}{t:CT}{p:PV}{K:PV->List (Nat × Bo)->Option R} (hk:Ahc id t p K=some r):
  (∃c,K c []=some r∧Th c∧∀w A q u,Fx w A q p u->Aw w A c u)∨∃es n cc,p=.own es n cc∧K (.view id es 0 n) [(id,.ar false cc)]=some r:=by
 have tree:∀t',(X7 t' p fun c=>K c [])=some r->∃c,K c []=some r∧Th c∧∀w A q u,Fx w A q p u->Aw w A c u:=by
  intro t' hk;obtain⟨c,hk,hT,FY,hv⟩:=Ly hk;refine⟨c,hk,hT,fun w A q u h=>(hv w A (fun _=>none) u ?_).1⟩
  cases p<;>first|exact h|exact FY.elim
 unfold Ahc at hk;cases t with
 |sl es=>
  dsimp only at hk;split at hk
  ·rename_i es' n c;cases hb:Nat.beq es' es<;>rw[hb] at hk
   ·cases hk
   ·have:=Nat.eq_of_beq_eq_true hb;subst this;exact .inr ⟨_,_,_,rfl,hk⟩
  ·exact .inl (tree (.sl es) hk)
 |int k=>exact .inl (tree _ hk)
 |bool=>exact .inl (tree _ hk)
 |str=>exact .inl (tree _ hk)
 |any=>exact .inl (tree _ hk)
theorem Ok:∀{ts:List CT}{id:Nat}{ps:List PV}{K:List PV->List (Nat × Bo)->Option R},Y1 N id ts ps K=some r ->
  ∃cs bs,∃qs:List (Nat × Nat),K cs bs=some r∧cs.length=ps.length∧ps.length=ts.length∧bs.map (·.1)=qs.map (·.1)∧(∀q∈qs,∀q'∈qs,q.2=q'.2->q.1=q'.1) ∧
   (∀i bx,(i,bx)∈bs->∃c,bx=.ar false c)∧(∀c∈cs,GQ c)∧(∀c∈cs,∀i∈Ap c,∃bx,(i,bx)∈bs) ∧
   ∀(w:World) (A:Nat->Prop) (own β':Bt) (j0:Nat) (us:List Value),(∀q∈qs,β' q.1=own (j0+q.2))->Ek w A own j0 ps us->Be (B1 w A β') cs us∧∀i bx,(i,bx)∈bs->Pr w A β' i bx
 |[],id,ps,K,hk=>by
  obtain⟨rfl,hk⟩:=Dj hk;refine⟨[],[],[],hk,rfl,rfl,rfl,by simp,by simp,by simp,by simp,fun w A own β' j0 us _ h=>⟨?_,by simp⟩⟩
  cases us with
  |nil=>trivial
  |cons u us=>exact h.elim
 |t::ts,id,ps,K,hk=>by
  unfold Y1 at hk;obtain⟨p,ps',Zy,Ds⟩:=A8 hk;subst Zy;rcases Ael Ds with⟨c,Ef,hT,hv⟩|⟨es,n,cc,rfl,Ef⟩
  ·obtain⟨cs,bs,qs,Kv,hl,Q1,hb,Jd,Er,hF,Ho,Qx⟩:=Ok Ef;refine⟨c::cs,bs,qs.map (fun q=>(q.1,q.2+1)),Kv,by simp[hl],by simp[Q1],by rw[hb];simp,?_,Er,?_,?_,fun w A own β' j0 us hβ ho=>?_⟩
   ·intro q hq q' Fe e;obtain⟨q0,S8,rfl⟩:=List.mem_map.1 hq;obtain⟨q1,Ik,rfl⟩:=List.mem_map.1 Fe;exact Jd q0 S8 q1 Ik (by simp only at e;omega)
   ·intro y hy;rcases List.mem_cons.1 hy with rfl|hy
    ·exact Pu hT
    ·exact hF y hy
   ·intro y hy i hi;rcases List.mem_cons.1 hy with rfl|hy
    ·rw[Hb hT] at hi;cases hi
    ·exact Ho y hy i hi
   ·cases us with
    |nil=>exact ho.elim
    |cons u us=>
     obtain⟨h1,h2⟩:=Qx w A own β' (j0+1) us (fun q hq=>by rw[hβ _ (List.mem_map_of_mem hq)];congr 1;simp only;omega) ho.2
     exact⟨⟨Ae2 (hv w A _ u ho.1),h1⟩,h2⟩
  ·obtain⟨cs,bs,qs,Kv,hl,Q1,hb,Jd,Er,hF,Ho,Qx⟩:=Ok Ef;refine⟨_::cs,(id,.ar false cc)::bs,(id,0)::qs.map (fun q=>(q.1,q.2+1)),Kv,by simp[hl],by simp[Q1],by simp only[List.map_cons,hb];simp,?_,?_,?_,?_,fun w A own β' j0 us hβ ho=>?_⟩
   ·intro q hq q' Fe e;rcases List.mem_cons.1 hq with rfl|hq
    ·rcases List.mem_cons.1 Fe with rfl|Fe
     ·rfl
     ·obtain⟨q0,S8,rfl⟩:=List.mem_map.1 Fe;simp only at e;omega
    ·obtain⟨q0,S8,rfl⟩:=List.mem_map.1 hq;rcases List.mem_cons.1 Fe with rfl|Fe
     ·simp only at e;omega
     ·obtain⟨q1,Ik,rfl⟩:=List.mem_map.1 Fe;exact Jd q0 S8 q1 Ik (by simp only at e;omega)
   ·intro i bx hm;rcases List.mem_cons.1 hm with e|hm
    ·cases e;exact⟨cc,rfl⟩
    ·exact Er i bx hm
   ·intro y hy;rcases List.mem_cons.1 hy with rfl|hy
    ·trivial
    ·exact hF y hy
   ·intro y hy i hi;rcases List.mem_cons.1 hy with rfl|hy
    ·simp only[Ap,List.mem_singleton] at hi;subst hi;exact⟨_,List.mem_cons_self⟩
    ·obtain⟨bx,Ku⟩:=Ho y hy i hi;exact⟨bx,List.mem_cons_of_mem _ Ku⟩
   ·cases us with
    |nil=>exact ho.elim
    |cons u us=>
     obtain⟨h1,h2⟩:=Qx w A own β' (j0+1) us (fun q hq=>by rw[hβ _ (List.mem_cons_of_mem _ (List.mem_map_of_mem hq))];congr 1;simp only;omega) ho.2
     have h0:=hβ (id,0) List.mem_cons_self;simp only[Nat.add_zero] at h0;refine⟨⟨?_,h1⟩,fun i bx hm=>?_⟩
     ·rcases ho.1 with⟨h3,rfl,_,h5⟩|⟨b,ob,cap,h3,h4,h5,h6,h7,_⟩
      ·exact .inl ⟨h0.trans h3,rfl,rfl,h5⟩
      ·exact .inr ⟨b,ob,ob,cap,h0.trans h3,h4,.inl rfl,h5,h6,h7⟩
     ·rcases List.mem_cons.1 hm with e|hm
      ·cases e;exact Vb ho.1 h0
      ·exact h2 i bx hm
theorem Alg {i:Nat}{t:TypeId}{p:PV}{K:PV->List (Nat × Bo)->Option R} (hk:inK P N i t p K=some r):
  ∃v bs,∃qs:List (Nat × Nat),K v bs=some r∧bs.map (·.1)=qs.map (·.1)∧(∀q∈qs,∀q'∈qs,q.2=q'.2->q.1=q'.1)∧(Wy p=true->(Dh N i,0)∈qs∧i<8) ∧
   (∀id bx,(id,bx)∈bs->C8 (some bx)∧∀c,bx=.st c->id=Dh N i∧Wy p=true)∧(∀id∈Bs v,∃bx,(id,bx)∈bs)∧Xo bs ∧
   ∀(w:World) (A:Nat->Prop) (bt β':Bt) (u:Value),(∀q∈qs,β' q.1=bt q.2)->OL w A bt p u->Ea w A β' v u∧(∀id bx,(id,bx)∈bs->Pr w A β' id bx) ∧
    ∀id bx b o,(id,bx)∈bs->β' id=some (b,o)->∀j,BR bx o j->Are bt p b j:=by
 have owns:∀{bs:List (Nat × Bo)} {qs:List (Nat × Nat)},bs.map (·.1)=qs.map (·.1)->(∀i bx,(i,bx)∈bs->∃c,bx=.ar false c)->∀{bt β':Bt},(∀q∈qs,β' q.1=bt (1+q.2))->∀id bx b o,(id,bx)∈bs->β' id=some (b,o)->∀j,BR bx o j->∃k o',bt (k+1)=some (b,o')∧o'<=j:=by
  intro bs qs hb Er bt β' hβ id bx b o hm MI j hj;have:id∈qs.map (·.1):=by rw[←hb];exact List.mem_map.2 ⟨_,hm,rfl⟩
  obtain⟨q,hq,rfl⟩:=List.mem_map.1 this;obtain⟨c,rfl⟩:=Er _ _ hm;rw[hβ q hq,Nat.add_comm] at MI;exact⟨q.2,o,MI,hj⟩
 have nost:∀{bs:List (Nat × Bo)},(∀i bx,(i,bx)∈bs->∃c,bx=.ar false c)->Xo bs:=by
  intro bs Er id cells hm;obtain⟨c,e⟩:=Er id _ hm;cases e
 unfold inK at hk;split at hk
 ·rename_i e he;obtain⟨ps,rfl,Ds⟩:=IQ hk;obtain⟨hi8,Ef⟩:=Al Ds;have hi8:i<8:=Nat.lt_of_succ_le (Nat.le_of_ble_eq_true hi8);obtain⟨cs,bs,qs,Kv,hl,Q1,hb,Jd,Er,hF,Ho,hv⟩:=Ok Ef;refine⟨_,_,(Dh N i,0)::qs.map (fun q=>(q.1,q.2+1)),Kv,by simp only[List.map_cons,hb];simp,?_,fun _=>⟨List.mem_cons_self,hi8⟩,?_,?_,?_,fun w A bt β' u hβ hp=>?_⟩
  ·intro q hq q' Fe e;rcases List.mem_cons.1 hq with rfl|hq
   ·rcases List.mem_cons.1 Fe with rfl|Fe
    ·rfl
    ·obtain⟨q0,S8,rfl⟩:=List.mem_map.1 Fe;simp only at e;omega
   ·obtain⟨q0,S8,rfl⟩:=List.mem_map.1 hq;rcases List.mem_cons.1 Fe with rfl|Fe
    ·simp only at e;omega
    ·obtain⟨q1,Ik,rfl⟩:=List.mem_map.1 Fe;exact Jd q0 S8 q1 Ik (by simp only at e;omega)
  ·intro id bx hm;rcases List.mem_cons.1 hm with e|hm
   ·cases e;exact⟨trivial,fun _ _=>⟨rfl,rfl⟩⟩
   ·obtain⟨c,rfl⟩:=Er id bx hm;exact⟨trivial,fun _ e=>by cases e⟩
  ·intro id Bj;simp only[Bs,Ca,Ap,List.mem_singleton] at Bj;subst Bj;exact⟨_,List.mem_cons_self⟩
  ·intro id cells hm c hc k hk;rcases List.mem_cons.1 hm with e|hm
   ·cases e;obtain⟨bx,Ku⟩:=Ho c hc k hk;exact⟨bx,List.mem_cons_of_mem _ Ku⟩
   ·obtain⟨c,e⟩:=Er id _ hm;cases e
  ·obtain⟨b,o,h1,rfl,_,vs,h3,h4,h5⟩:=hp;have h0:=hβ (Dh N i,0) List.mem_cons_self;simp only at h0;have hβ1:∀q∈qs,β' q.1=bt (1+q.2):=fun q hq=>by rw[hβ _ (List.mem_cons_of_mem _ (List.mem_map_of_mem hq)),Nat.add_comm]
   obtain⟨h6,h7⟩:=hv w A bt β' 1 vs hβ1 h3;refine⟨⟨b,o,h0.trans h1,by simp⟩,fun id bx hm=>?_,fun id bx b' o' hm Hf j hj=>?_⟩
   ·rcases List.mem_cons.1 hm with e|hm
    ·cases e;refine⟨b,o,h0.trans h1,fun k c hk=>?_,fun k hk=>h5 k (by omega)⟩
     obtain⟨v,hv,QL⟩:=h6.get hk;exact⟨v,h4 k v hv,QL⟩
    ·exact h7 id bx hm
   ·rcases List.mem_cons.1 hm with e|hm
    ·cases e;rw[h0] at Hf;have hj:o'<=j∧j<o'+cs.length:=hj;exact .inr ⟨o',ps,Hf,hj.1,.inl ⟨rfl,by omega⟩⟩
    ·exact .inl (owns hb Er hβ1 id bx b' o' hm Hf j hj)
 ·split at hk
  ·rename_i ps;obtain⟨e,he,Ds⟩:=B9 hk;obtain⟨hi8,Ef⟩:=Al Ds;have hi8:i<8:=Nat.lt_of_succ_le (Nat.le_of_ble_eq_true hi8);obtain⟨q,qr,hq,Kv⟩:=A8 Ef;subst hq;obtain⟨Xh,Sf⟩:=Dj Kv;subst Xh;unfold GH at Sf;split at Sf
   ·rename_i es' n c;cases hb:Nat.beq es' (Bb P e)<;>rw[hb] at Sf
    ·cases Sf
    ·have S0:=Nat.eq_of_beq_eq_true hb;subst S0;refine⟨_,_,[(Dh N i,0)],Sf,rfl,by simp,fun _=>⟨by simp,hi8⟩,?_,?_,?_,fun w A bt β' u hβ hp=>?_⟩
     ·intro id bx hm;simp only[List.mem_singleton] at hm;cases hm;exact⟨trivial,fun _ e=>by cases e⟩
     ·intro id Bj;simp only[Bs,Ca,Ap,List.mem_singleton] at Bj;subst Bj;exact⟨_,List.mem_cons_self⟩
     ·intro id cells hm;simp only[List.mem_singleton] at hm;cases hm
     ·obtain⟨es,n',c',h1,h2⟩:=hp;cases h1;have h0:=hβ (Dh N i,0) List.mem_cons_self;simp only at h0;refine⟨?_,fun id bx hm=>?_,fun id bx b' o' hm Hf j hj=>?_⟩
      ·rcases h2 with⟨h3,rfl,_,h5⟩|⟨b,ob,cap,h3,h4,h5,h6,h7,_⟩
       ·exact .inl ⟨h0.trans h3,rfl,rfl,h5⟩
       ·exact .inr ⟨b,ob,ob,cap,h0.trans h3,h4,.inl rfl,h5,h6,h7⟩
      ·simp only[List.mem_singleton] at hm;cases hm;exact Vb h2 h0
      ·simp only[List.mem_singleton] at hm;cases hm;rw[h0] at Hf;exact .inr ⟨o',_,Hf,hj,.inr rfl⟩
   ·cases Sf
  ·rename_i UV;cases Fn:B2 P t<;>rw[Fn] at hk
   ·simp only[cond_false] at hk;obtain⟨cs,bs,qs,Kv,hl,Q1,hb,Jd,Er,hF,Ho,hv⟩:=Ok hk;obtain⟨c,cs',AO,Sf⟩:=A8 Kv;subst AO;obtain⟨Xh,UL⟩:=Dj Sf;subst Xh;have hFc:=hF c (by simp)
    have hnL:Wy p=false∨∃ps,p=.pbox ps:=by
     cases p<;>first|exact .inl rfl|exact .inr ⟨_,rfl⟩|exact absurd rfl (UV _)
    have hpb:∀ps,p ≠ .pbox ps:=by
     rintro ps rfl
     cases NN:Hl P t with
     |nil=>rw[NN] at Q1;simp at Q1
     |cons t' ts=>
      rw[NN] at hk;unfold Y1 Ahc at hk;obtain⟨q,qs1,hq,Ds⟩:=A8 hk;cases hq;cases t'<;>simp[X7,Nb,Ak,Ao,A0,ZP] at Ds
    have hpa:∀ps,p ≠ .agg ps:=by
     rintro ps rfl
     cases NN:Hl P t with
     |nil=>rw[NN] at Q1;simp at Q1
     |cons t' ts=>
      rw[NN] at hk;unfold Y1 Ahc at hk;obtain⟨q,qs1,hq,Ds⟩:=A8 hk;cases hq;cases t'<;>simp[X7,Nb,Ak,Ao,A0,ZP] at Ds
    have hnL:Wy p=false:=hnL.elim id (fun ⟨ps,e⟩=>absurd e (hpb ps))
    have Tj:Bs c=Ap c:=by cases c<;>first|rfl|exact hFc.elim
    refine⟨c,bs,qs.map (fun q=>(q.1,q.2+1)),UL,by rw[hb];simp,?_,(fun h=>by rw[hnL] at h;cases h),?_,fun id Bj=>Ho c (by simp) id (by rw[←Tj];exact Bj),nost Er,fun w A bt β' u hβ hp=>?_⟩
    ·intro q hq q' Fe e;obtain⟨q0,S8,rfl⟩:=List.mem_map.1 hq;obtain⟨q1,Ik,rfl⟩:=List.mem_map.1 Fe;exact Jd q0 S8 q1 Ik (by simp only at e;omega)
    ·intro id bx hm;obtain⟨c,rfl⟩:=Er id bx hm;exact⟨trivial,fun _ e=>by cases e⟩
    ·have Cs:Fx w A (bt 1) p u:=by cases p<;>first|exact hp.2|exact absurd rfl (hpa _)|exact absurd rfl (hpb _)|exact absurd rfl (UV _)
     have hβ1:∀q∈qs,β' q.1=bt (1+q.2):=fun q hq=>by rw[hβ _ (List.mem_map_of_mem hq),Nat.add_comm]
     obtain⟨h6,h7⟩:=hv w A bt β' 1 [u] hβ1 ⟨Cs,trivial⟩;refine⟨?_,h7,fun id bx b' o' hm Hf j hj=>.inl (owns hb Er hβ1 id bx b' o' hm Hf j hj)⟩
     have h8:=h6.1;cases c<;>first|exact h8|exact hFc.elim
   ·simp only[cond_true] at hk;obtain⟨ps,Hj,Ds⟩:=Gu hk;subst Hj;obtain⟨cs,bs,qs,Kv,hl,Q1,hb,Jd,Er,hF,Ho,hv⟩:=Ok Ds;refine⟨_,bs,qs.map (fun q=>(q.1,q.2+1)),Kv,by rw[hb];simp,?_,(fun h=>by cases h),?_,fun id Bj=>?_,nost Er,fun w A bt β' u hβ hp=>?_⟩
    ·intro q hq q' Fe e;obtain⟨q0,S8,rfl⟩:=List.mem_map.1 hq;obtain⟨q1,Ik,rfl⟩:=List.mem_map.1 Fe;exact Jd q0 S8 q1 Ik (by simp only at e;omega)
    ·intro id bx hm;obtain⟨c,rfl⟩:=Er id bx hm;exact⟨trivial,fun _ e=>by cases e⟩
    ·obtain⟨c,hc,hi⟩:=List.mem_flatMap.1 (show id∈cs.flatMap Ap from Bj)
     exact Ho c hc id hi
    ·obtain⟨vs,h1,_,h3⟩:=hp;have hβ1:∀q∈qs,β' q.1=bt (1+q.2):=fun q hq=>by rw[hβ _ (List.mem_map_of_mem hq),Nat.add_comm]
     obtain⟨h6,h7⟩:=hv w A bt β' 1 vs hβ1 h3;exact⟨⟨vs,h1,h6⟩,h7,fun id bx b' o' hm Hf j hj=>.inl (owns hb Er hβ1 id bx b' o' hm Hf j hj)⟩
theorem QU:∀{ts:List TypeId}{i:Nat}{ps:List PV}{K:List (Nat × PV)->List (Nat × Bo)->Option R},Agi P N i ts ps K=some r ->
  ∃tms bs,∃qs:List (Nat × Nat × Nat),K tms bs=some r∧bs.map (·.1)=qs.map (·.1)∧(∀q∈qs,i<=q.2.1)∧(∀q∈qs,∀q'∈qs,q.2=q'.2->q.1=q'.1) ∧
   (∀k p,ps[k]?=some p->Wy p=true->(Dh N (i+k),i+k,0)∈qs∧i+k<8)∧(∀id bx,(id,bx)∈bs->C8 (some bx)∧∀c,bx=.st c->∃k p,ps[k]?=some p∧Wy p=true∧id=Dh N (i+k)) ∧
   (∀j,∀id∈Bs (lk tms j),∃bx,(id,bx)∈bs)∧Xo bs ∧
   ∀(w:World) (A:Nat->Prop) (bt:Wx) (β':Bt) (us:List Value),(∀q∈qs,β' q.1=bt q.2.1 q.2.2)->J5 w A bt i ps us ->
    (∀j,(∃u,i<=j∧us[j-i]?=some u∧Ea w A β' (lk tms j) u)∨(lk tms j=.top∧(i<=j->us[j-i]?=none)))∧(∀id bx,(id,bx)∈bs->Pr w A β' id bx) ∧
    ∀id bx b o,(id,bx)∈bs->β' id=some (b,o)->∀j,BR bx o j->∃k p,ps[k]?=some p∧Are (bt (i+k)) p b j
 |[],i,ps,K,hk=>by
  obtain⟨Zy,hk⟩:=Dj hk;subst Zy;refine⟨[],[],[],hk,rfl,by simp,by simp,by simp,by simp,(fun j id Bj=>by cases Bj),(by intro i cells hm;cases hm),fun w A bt β' us _ h=>?_⟩
  cases us with
  |nil=>exact⟨fun j=>.inr ⟨rfl,fun _=>by simp⟩,by simp,by simp⟩
  |cons u us=>exact h.elim
 |t::ts,i,ps,K,hk=>by
  unfold Agi at hk;obtain⟨p,ps',Zy,Ds⟩:=A8 hk;subst Zy;obtain⟨v,bs,qs,Ef,hb,hqi,EH,Ku,hr,SR,hv⟩:=Alg Ds;obtain⟨tms,bs',qs',Kv,Hf,Apx,A0o,Awp,A2t,hr',A4f,Np⟩:=QU Ef;refine⟨(i,v)::tms,bs++bs',qs.map (fun q=>(q.1,i,q.2))++qs',Kv,by simp only[List.map_append,hb,Hf];simp,?_,?_,?_,?_,?_,?_,fun w A bt β' us hβ hp=>?_⟩
  ·intro q hq;rcases List.mem_append.1 hq with hq|hq
   ·obtain⟨q0,S8,rfl⟩:=List.mem_map.1 hq;exact Nat.le_refl _
   ·have:=Apx q hq;omega
  ·intro q hq q' Fe e;rcases List.mem_append.1 hq with hq|hq
   ·obtain⟨q0,S8,rfl⟩:=List.mem_map.1 hq;rcases List.mem_append.1 Fe with Fe|Fe
    ·obtain⟨q1,Ik,rfl⟩:=List.mem_map.1 Fe;simp only[Prod.mk.injEq,true_and] at e;exact hqi q0 S8 q1 Ik e
    ·have:=Apx q' Fe;rw[←e] at this;simp only at this;omega
   ·have h5:=Apx q hq;rcases List.mem_append.1 Fe with Fe|Fe
    ·obtain⟨q1,Ik,rfl⟩:=List.mem_map.1 Fe;rw[e] at h5;simp only at h5;omega
    ·exact A0o q hq q' Fe e
  ·intro k p' Ky hL;cases k with
   |zero=>
    simp only[List.getElem?_cons_zero,Option.some.injEq] at Ky;subst Ky;obtain⟨h1,h2⟩:=EH hL;exact⟨List.mem_append.2 (.inl (List.mem_map.2 ⟨_,h1,rfl⟩)),h2⟩
   |succ k=>
    obtain⟨h1,h2⟩:=Awp k p' (by simpa using Ky) hL
    rw[show i+1+k=i+(k+1) by omega] at h1 h2
    exact⟨List.mem_append.2 (.inr h1),h2⟩
  ·intro id bx hm;rcases List.mem_append.1 hm with hm|hm
   ·obtain⟨h1,h2⟩:=Ku id bx hm;exact⟨h1,fun c hc=>⟨0,p,rfl,(h2 c hc).2,(h2 c hc).1⟩⟩
   ·obtain⟨h1,h2⟩:=A2t id bx hm;refine⟨h1,fun c hc=>?_⟩
    obtain⟨k,p',h3,h4,h5⟩:=h2 c hc;exact⟨k+1,p',by simpa using h3,h4,by rw[h5,show i+1+k=i+(k+1) by omega]⟩
  ·intro j id Bj;unfold lk at Bj;cases hbq:Nat.beq j i<;>rw[hbq] at Bj
   ·obtain⟨bx,h1⟩:=hr' j id Bj;exact⟨bx,List.mem_append.2 (.inr h1)⟩
   ·obtain⟨bx,h1⟩:=hr id Bj;exact⟨bx,List.mem_append.2 (.inl h1)⟩
  ·intro id cells hm c hc k hk;rcases List.mem_append.1 hm with hm|hm
   ·obtain⟨bx,h1⟩:=SR id cells hm c hc k hk;exact⟨bx,List.mem_append.2 (.inl h1)⟩
   ·obtain⟨bx,h1⟩:=A4f id cells hm c hc k hk;exact⟨bx,List.mem_append.2 (.inr h1)⟩
  ·cases us with
   |nil=>exact hp.elim
   |cons u us=>
    obtain⟨h1,h2,h3⟩:=hv w A (bt i) β' u (fun q hq=>hβ _ (List.mem_append.2 (.inl (List.mem_map_of_mem hq)))) hp.1
    obtain⟨KT,h2',h3'⟩:=Np w A bt β' us (fun q hq=>hβ q (List.mem_append.2 (.inr hq))) hp.2
    refine⟨fun j=>?_,fun id bx hm=>?_,fun id bx b o hm MI j hj=>?_⟩
    ·unfold lk;cases hbq:Nat.beq j i
     ·have Eo:=Lz hbq;simp only[cond_false];rcases KT j with⟨u',h4,h5,h6⟩|⟨h4,h5⟩
      ·refine .inl ⟨u',by omega,?_,h6⟩
       rw[show j-i=(j-(i+1))+1 by omega]
       simpa using h5
      ·refine .inr ⟨h4,fun hij=>?_⟩
       rw[show j-i=(j-(i+1))+1 by omega]
       simpa using h5 (by omega)
     ·have:=Nat.eq_of_beq_eq_true hbq;subst this;exact .inl ⟨u,Nat.le_refl _,by simp,h1⟩
    ·rcases List.mem_append.1 hm with hm|hm
     ·exact h2 id bx hm
     ·exact h2' id bx hm
    ·rcases List.mem_append.1 hm with hm|hm
     ·exact⟨0,p,rfl,h3 id bx b o hm MI j hj⟩
     ·obtain⟨k,p',h4,h5⟩:=h3' id bx b o hm MI j hj;exact⟨k+1,p',by simpa using h4,by rw[show i+(k+1)=i+1+k by omega];exact h5⟩
def TL (bt:Wx)(args:List PV)(h8:∀k p,args[k]?=some p->Wy p=true->k<8):Hg:=
 ⟨ZZ bt,EJ bt args,fun i=>∃p,args[i]?=some p∧Wy p=true,fun i=>bt i 0,fun i ⟨p,h1,h2⟩=>h8 i p h1 h2⟩
theorem Abo {ts:List TypeId}{args:List PV}{us:List Value}{bt:Wx}{K:List (Nat × PV)->List (Nat × Bo)->Option R} (Ti:Ins w Y bt args us)(hk:Agi P N 0 ts args K=some r):
  ∃tms bs,K tms bs=some r∧(Bq (fun _=>none) bs=true->us.length<=N->∃(h8:∀k p,args[k]?=some p->Wy p=true->k<8),∃β0,
   Cr N w (TL bt args h8) Y β0 ⟨lk tms,Ij bs⟩ { tmps:=us.toArray++Array.replicate (N-us.toArray.size) undef,defers:=[] } w):=by
 obtain⟨tms,bs,qs,Ds,hb,S8,hqi,EH,Ku,hr,SR,hv⟩:=QU hk;refine⟨tms,bs,Ds,fun Ny hN=>?_⟩
 have VL:=Pt Ny
 have h8:∀k p,args[k]?=some p->Wy p=true->k<8:=fun k p h1 h2=>by
  have:=(EH k p h1 h2).2;omega
 have GC:(qs.map (·.1)).Nodup:=by rw[←hb];exact VL
 obtain⟨β0,hβ0⟩:∃β0:Bt,∀q∈qs,β0 q.1=bt q.2.1 q.2.2:=by
  have:∀(l:List (Nat × Nat × Nat)),(l.map (·.1)).Nodup->∃β0:Bt,∀q∈l,β0 q.1=bt q.2.1 q.2.2:=by
   intro l
   induction l with
   |nil=>intro _;exact⟨fun _=>none,by simp⟩
   |cons q l ih=>
    intro hn;simp only[List.map_cons,List.nodup_cons] at hn;obtain⟨b1,h1⟩:=ih hn.2;refine⟨Cn b1 q.1 (bt q.2.1 q.2.2),fun q' Fe=>?_⟩
    rcases List.mem_cons.1 Fe with rfl|Fe
    ·exact Am _ _ _
    ·have Eo:q'.1≠q.1:=fun e=>hn.1 (by rw[←e];exact List.mem_map.2 ⟨q',Fe,rfl⟩)
     rw[Aj _ _ Eo];exact h1 q' Fe
  exact this qs GC
 refine⟨h8,β0,?_⟩;obtain⟨hs,NH,hL⟩:=hv w _ bt β0 us hβ0 Ti.args
 have hqm:∀id bx,(id,bx)∈bs->∃ik,(id,ik)∈qs∧β0 id=bt ik.1 ik.2:=by
  intro id bx hm;have:id∈qs.map (·.1):=by rw[←hb];exact List.mem_map.2 ⟨_,hm,rfl⟩
  obtain⟨q,hq,rfl⟩:=List.mem_map.1 this;exact⟨q.2,hq,hβ0 q hq⟩
 have hX:∀b,LW (Ij bs) β0 b->ZZ bt b:=by
  rintro b ⟨id,o,hl,hβ⟩
  cases hq:Ij bs id with
  |none=>rw[hq] at hl;exact hl.elim
  |some bx=>
   obtain⟨ik,_,h2⟩:=hqm id bx (Lu hq);rw[h2] at hβ;exact⟨_,_,_,hβ⟩
 have hA:∀b,C7 (Ij bs) β0 Y b->ZZ bt b∨Y b:=fun b hb=>hb.imp (hX b) id
 have Ai8:∀{p:PV} {u:Value},Ea w (fun b=>ZZ bt b∨Y b) β0 p u->Ea w (C7 (Ij bs) β0 Y) β0 p u:=fun h=>h.step (B8.refl _ _) (fun b _=>hA b) (fun _ _=>rfl)
 refine⟨rfl,by simp;omega,fun i hi=>?_,fun i hi=>?_,?_,?_,?_,fun i hi id Bj=>?_,?_,fun b hb=>.inl (hX b hb),?_,?_,?_,fun b hY hXb=>Ti.Yx b hY (hX b hXb),Ti.Ylt,⟨rfl,rfl,rfl,B8.refl _ _,fun _ _ _ _=>⟨rfl,rfl⟩⟩⟩
 ·rcases hs i with⟨u,_,h,_⟩|⟨h,_⟩
  ·rw[Nat.sub_zero,List.getElem?_eq_none (by omega)] at h;cases h
  ·exact h
 ·rcases hs i with⟨u,_,h,hv⟩|⟨h,h'⟩
  ·rw[Nat.sub_zero] at h
   have B7:i<us.length:=by
    rcases Nat.lt_or_ge i us.length with h'|h'
    ·exact h'
    ·rw[List.getElem?_eq_none h'] at h;cases h
   have:(us.toArray++Array.replicate (N-us.toArray.size) undef).getD i undef=u:=by
    rw[Array.getD_eq_getD_getElem?,Array.getElem?_append_left (by simpa using B7)]
    simp[h]
   show Ea w _ _ _ ((us.toArray++Array.replicate (N-us.toArray.size) undef).getD i undef);rw[this];exact Ai8 hv
  ·show Ea w _ _ (lk tms i) _;rw[h];exact Aw.top _
 ·intro id bx hq;exact (NH id bx (Lu hq)).step' hA
 ·intro id id' b o o' hl Je hβ hβ';cases hq:Ij bs id with
  |none=>change C8 (Ij bs id) at hl;rw[hq] at hl;exact hl.elim
  |some bx=>
   cases Fe:Ij bs id' with
   |none=>change C8 (Ij bs id') at Je;rw[Fe] at Je;exact Je.elim
   |some bx'=>
    obtain⟨ik,h1,h2⟩:=hqm id bx (Lu hq);obtain⟨ik',KT,h2'⟩:=hqm id' bx' (Lu Fe);rw[h2] at hβ;rw[h2'] at hβ';obtain⟨h3,h4⟩:=Ti.inj _ _ _ _ b o o' hβ hβ';exact hqi _ h1 _ KT (Prod.ext h3 h4)
 ·intro id b o hn hβ;cases hq:Ij bs id with
  |none=>exact absurd hq hn
  |some bx=>
   obtain⟨ik,h1,h2⟩:=hqm id bx (Lu hq);rw[h2] at hβ;exact Ti.lt b ⟨_,_,_,hβ⟩
 ·obtain⟨bx,hm⟩:=hr i id Bj;show Ij bs id≠none;rw[MF VL hm];simp
 ·intro id cells hq c hc k hk;obtain⟨bx,hm⟩:=SR id cells (Lu hq) c hc k hk;show Ij bs k≠none;rw[MF VL hm];simp
 ·intro id bx b o hq hl hβ _ j hj;obtain⟨k,p,h1,h2⟩:=hL id bx b o (Lu hq) hβ j hj;rw[Nat.zero_add] at h2;exact⟨k,p,h1,h2⟩
 ·rintro i ⟨p,h1,h2⟩
  have h3:=(EH i p h1 h2).1;rw[Nat.zero_add] at h3;refine⟨?_,hβ0 _ h3⟩;have:Dh N i∈bs.map (·.1):=by rw[hb];exact List.mem_map.2 ⟨_,h3,rfl⟩
  obtain⟨⟨id,bx⟩,hm,e⟩:=List.mem_map.1 this;show Ij bs (Dh N i)≠none;rw[←e,MF VL hm];simp
 ·intro id c b o hq _ _;obtain⟨k,p,h1,h2,h3⟩:=(Ku id _ (Lu hq)).2 c rfl;rw[Nat.zero_add] at h3;exact⟨k,h3,p,h1,h2⟩
end
open Go.RowKit
def Ko (β:Bt)(l:List (Option Nat)) (j:Nat):Option (Nat × Nat):=((l[j]?).bind id).bind β
section
variable {R:Type} {r:R} {P:Program} {N:Nat} {w0:World} {X0:Hg} {Y:Nat->Prop} {β β':Bt} {s:St} {a:Act} {w w':World} {A:Nat->Prop}
def Adn (s:St)(l:List (Option Nat)):Prop:=∀id,some id∈l->C8 (s.hp id)
def Ln (s:St)(z:List Nat):Prop:=∀id∈z,∃f c,s.hp id=some (.ar f c)
theorem IA (h : Cr N w0 X0 Y β s a w) {shr : Bool} {t : CT} {p : PV} {K : PV -> List Nat -> List Nat -> Option R} (hk : VY shr s.hp t p K = some r) :
    ∃ c q z, K c (Option.toList q) z = some r ∧ (∀ x, c ≠ .agg x ∧ c ≠ .pbox x) ∧ GQ p ∧ (∀ id, q = some id -> ∃ c, s.hp id = some (.ar false c)) ∧ Ln s z ∧
      ∀ (fz : List Nat) A u, (∀ i ∈ z, i ∈ fz) -> Ln s fz -> (∀ b, A b -> C7 (Ag s.hp fz) β Y b) -> B1 w (C7 s.hp β Y) β p u -> Fx w A (q.bind β) c u := by
  have notree : ∀ {c : PV}, Th c -> ∀ x, c ≠ .agg x ∧ c ≠ .pbox x := fun hT x => ⟨Vg hT x, by rintro rfl; exact hT⟩
  unfold VY at hk
  cases shr <;> simp only[cond_true, cond_false] at hk
  · have tree : ∀ t', (∀ es, t' ≠ .sl es) -> (X7 t' p fun c => K c [] []) = some r -> ∃ c q z, K c (Option.toList q) z = some r ∧ (∀ x, c ≠ .agg x ∧ c ≠ .pbox x) ∧ GQ p ∧ (∀ id, q = some id -> ∃ c, s.hp id = some (.ar false c)) ∧ Ln s z ∧
        ∀ (fz : List Nat) A u, (∀ i ∈ z, i ∈ fz) -> Ln s fz -> (∀ b, A b -> C7 (Ag s.hp fz) β Y b) -> B1 w (C7 s.hp β Y) β p u -> Fx w A (q.bind β) c u := by
      intro t' Eo hk
      obtain⟨c, Ds, hT, FY, hv⟩ := Ly hk
      refine⟨c, none, [], Ds, notree hT, Pu FY, by simp, (by intro i hi; cases hi), fun fz A u _ _ hA hc => Jf hT ?_⟩
      exact (hv w _ β u hc).1.step (B8.refl _ _) (fun b _ hb => Ms (hA b hb))
    unfold Amr at hk
    cases t with
    | sl es =>
      dsimp only at hk
      split at hk
      · rename_i id es' off n
        cases hb : (Nat.beq es' es && Nat.beq off 0) <;> rw[hb] at hk
        · cases hk
        · simp only[Bool.and_eq_true] at hb
          have he := Nat.eq_of_beq_eq_true hb.1
          have ho := Nat.eq_of_beq_eq_true hb.2
          subst he ho
          simp only[cond_true] at hk
          split at hk
          · rename_i c h0
            obtain⟨hl, Ds⟩ := Al hk
            refine⟨_, some id, [], Ds, by simp, trivial, fun i hi => by cases hi; exact⟨c, h0⟩, (by intro i hi; cases hi), fun fz A u _ _ hA hc => ?_⟩
            rcases hc with⟨h1, _, rfl, h4⟩ | ⟨b, o, x, cap, h1, h2, hx, h3, h4, h5⟩
            · exact .inl ⟨h1, rfl, by simp, h4⟩
            · have hx : x = o := by rcases hx with e | ⟨_, e⟩ <;> omega
              subst hx
              rcases h.box id _ h0 with⟨h6, _⟩ | ⟨b', o', h6, h7, h8, _⟩
              · rw[h1] at h6; cases h6
              · rw[h1] at h6
                cases h6
                refine .inr ⟨b, x, cap, h1, h2, h3, h4, h5, fun j q hq => ?_, fun j hj Q4 => h8 rfl j hj Q4⟩
                rw[List.getElem?_take] at hq
                split at hq
                · obtain⟨v, hv, h9, ht⟩ := h7 j q hq
                  exact⟨v, hv, h9, ht.step (B8.refl _ _) (fun b _ hb => Ms (hA b hb))⟩
                · cases hq
          · cases hk
      · obtain⟨z, n, c, Ds, hp⟩ := E6 hk
        obtain⟨hz, Ef⟩ := Al Ds
        subst hz
        have hpF : GQ p := by rcases hp with e | ⟨e, _⟩ <;> (rw[e]; trivial)
        refine⟨_, none, [], Ef, by simp, hpF, by simp, (by intro i hi; cases hi), fun fz A u _ _ _ hc => ?_⟩
        have hu : u = .slice none 0 0 := by
          rcases hp with rfl | ⟨rfl, _⟩
          · cases hc; rfl
          · exact Aw.val hc
        exact .inl ⟨rfl, rfl, rfl, none, hu⟩
    | int k => exact tree _ (by simp) hk
    | bool => exact tree _ (by simp) hk
    | str => exact tree _ (by simp) hk
    | any => exact tree _ (by simp) hk
  · obtain⟨c, m, Ds, hT, hF, hm, hv⟩ := FH h hk
    exact⟨c, none, m, Ds, notree hT, hF, by simp, hm, fun fz A u h1 h2 hA hc => Jf hT ((hv fz h1 h2 u hc).1.step (B8.refl _ _) (fun b _ hb => hA b hb))⟩
structure Z0 (s:St) (β:Bt) (Y:Nat->Prop) (w:World) (cs:List PV) (l:List (Option Nat)) (z:List Nat) (ps:List PV):Prop where
 len:l.length=cs.length
 pl:cs.length=ps.length
 na:∀c∈cs,∀x,c ≠ .agg x∧c ≠ .pbox x
 fr:∀p∈ps,GQ p
 own:∀id,some id∈l->∃c,s.hp id=some (.ar false c)
 row:Ln s z
 sem:∀(fz:List Nat) A us,(∀i∈z,i∈fz)->Ln s fz->(∀b,A b->C7 (Ag s.hp fz) β Y b)->Be (B1 w (C7 s.hp β Y) β) ps us->∀own j0,(∀j,j<l.length->own (j0+j)=Ko β l j)->Ek w A own j0 cs us
theorem Z0.nil:Z0 s β Y w [] [] [] []:=⟨rfl,rfl,by simp,by simp,by simp,(by intro i hi;cases hi),fun fz A us _ _ _ hu own j0 _=>by
 cases us with
 |nil=>trivial
 |cons u us=>exact hu.elim⟩
theorem Z0.cons {c p:PV}{q:Option Nat}{z zs:List Nat}{cs ps:List PV}{l:List (Option Nat)} (Yn:∀x,c ≠ .agg x∧c ≠ .pbox x)(hF:GQ p)(hq:∀id,q=some id->∃c,s.hp id=some (.ar false c)) (hz:Ln s z)
  (hv:∀(fz:List Nat) A u,(∀i∈z,i∈fz)->Ln s fz->(∀b,A b->C7 (Ag s.hp fz) β Y b)->B1 w (C7 s.hp β Y) β p u->Fx w A (q.bind β) c u) (H:Z0 s β Y w cs l zs ps):Z0 s β Y w (c::cs) (q::l) (z++zs) (p::ps):=by
 refine⟨by simp[H.len],by simp[H.pl],?_,?_,?_,?_,fun fz A us SJ Mj hA hu own j0 Fv=>?_⟩
 ·intro x hx;rcases List.mem_cons.1 hx with rfl|hx
  ·exact Yn
  ·exact H.na x hx
 ·intro x hx;rcases List.mem_cons.1 hx with rfl|hx
  ·exact hF
  ·exact H.fr x hx
 ·intro id Bj;rcases List.mem_cons.1 Bj with e|Bj
  ·exact hq id e.symm
  ·exact H.own id Bj
 ·intro i hi;rcases List.mem_append.1 hi with hi|hi
  ·exact hz i hi
  ·exact H.row i hi
 ·cases us with
  |nil=>exact hu.elim
  |cons u us=>
   have h0:=Fv 0 (by simp)
   rw[Nat.add_zero] at h0;refine⟨?_,H.sem fz A us (fun i hi=>SJ i (by simp[hi])) Mj hA hu.2 own (j0+1) fun j hj=>?_⟩
   ·rw[h0];exact hv fz A u (fun i hi=>SJ i (by simp[hi])) Mj hA hu.1
   ·have:=Fv (j+1) (by simp;omega)
    rw[show j0+1+j=j0+(j+1) by omega,this]
    simp[Ko]
theorem Qh (h:Cr N w0 X0 Y β s a w){shr:Bool}:∀{ts:List CT}{ps:List PV}{K:List PV->List Nat->List Nat->Option R},X6 shr s.hp ts ps K=some r ->
  ∃cs l z,K cs (l.filterMap id) z=some r∧Z0 s β Y w cs l z ps
 |[],[],K,hk=>⟨[],[],[],hk,Z0.nil⟩
 |[],_::_,K,hk=>by cases hk
 |_::_,[],K,hk=>by cases hk
 |t::ts,p::ps,K,hk=>by
  unfold X6 at hk;obtain⟨c,q,z,Ds,Yn,hF,hq,hz,hv⟩:=IA h hk;obtain⟨cs,l,zs,Ef,H⟩:=Qh h Ds;refine⟨c::cs,q::l,z++zs,?_,Z0.cons Yn hF hq hz hv H⟩;cases q<;>exact Ef
theorem Y9 (h:Cr N w0 X0 Y β s a w):∀{ts:List CT}{ws ps:List PV}{K:List PV->List Nat->List Nat->Option R},AQ s.hp ts ws ps K=some r ->
  ∃cs l z,K cs (l.filterMap id) z=some r∧cs.length=ws.length∧Z0 s β Y w cs l z ps
 |[],[],[],K,hk=>⟨[],[],[],hk,rfl,Z0.nil⟩
 |[],_::_,_,K,hk=>by cases hk
 |[],[],_::_,K,hk=>by cases hk
 |_::_,[],_,K,hk=>by cases hk
 |_::_,_::_,[],K,hk=>by cases hk
 |t::ts,x::ws,p::ps,K,hk=>by
  unfold AQ at hk;obtain⟨c,q,z,Ds,Yn,hF,hq,hz,hv⟩:=IA h hk;obtain⟨cs,l,zs,Ef,hl,H⟩:=Y9 h Ds;refine⟨c::cs,q::l,z++zs,?_,by simp[hl],Z0.cons Yn hF hq hz hv H⟩
  cases q<;>exact Ef
theorem TC {own:Bt}{zz j:Nat}{p:PV}{u:Value}(hp:∀x,p ≠ .agg x∧p ≠ .pbox x)(h:Ek w A own j [p] [u]):Akr w A own zz j p u:=by
 cases p<;>first|exact h.1|exact absurd rfl (hp _).1|exact absurd rfl (hp _).2
theorem WL (h:Cr N w0 X0 Y β s a w){id b o:Nat}{c cs:List PV}{l:List (Option Nat)} {z:List Nat}(h0:s.hp id=some (.st c)) (hβ:β id=some (b,o)) (H:Z0 s β Y w cs l z c){fz:List Nat}{A:Nat->Prop}(h1:∀i∈z,i∈fz)(h2:Ln s fz)(hA:∀b,A b->C7 (Ag s.hp fz) β Y b)
  {own:Bt} {j0:Nat} (Fv:∀j,j<l.length->own (j0+j)=Ko β l j):Af1 w A own j0 b o cs:=by
 obtain⟨b',o',Er,Ho,Uf⟩:=h.box id _ h0;rw[hβ] at Er;cases Er;refine⟨c.mapIdx (fun j _=>(w.cell? ⟨b,o+j,none⟩).getD undef),H.sem fz A _ h1 h2 hA ?_ own j0 Fv,?_,fun k hk=>Uf k (by have:=H.pl;omega)⟩
 ·refine Be.of_at (by simp) fun j p v hp hv=>?_
  obtain⟨u,hu,QL⟩:=Ho j p hp;rw[List.getElem?_mapIdx,hp,Option.map_some,hu] at hv;simp at hv;subst hv;exact QL
 ·intro k v hkv;rw[List.getElem?_mapIdx] at hkv;cases hp:c[k]? with
  |none=>rw[hp] at hkv;cases hkv
  |some p=>
   obtain⟨u,hu,QL⟩:=Ho k p hp;rw[hp,Option.map_some,hu] at hkv;simp at hkv;subst hkv;exact hu
theorem ZW (h:Cr N w0 X0 Y β s a w){shr:Bool}{t:TypeId}{p:PV}{u:Value}(hp:Ea w (C7 s.hp β Y) β p u) {K:PV->List Nat->List Nat->Option R}(hk:Afu P shr s.hp t p K=some r):
  ∃v l z,K v (l.filterMap id) z=some r∧l.length=plc v∧Adn s l∧Ln s z ∧
   ∀(fz:List Nat) A zz,(∀i∈z,i∈fz)->Ln s fz->(∀b,A b->C7 (Ag s.hp fz) β Y b)->(∀id c b o,some id∈l->s.hp id=some (.st c)->β id=some (b,o)->zz<=b) ->
    ∀own j0,(∀j,j<l.length->own (j0+j)=Ko β l j)->Akr w A own zz j0 v u:=by
 unfold Afu at hk;split at hk
 ·rename_i e he;split at hk
  ·rename_i id off;split at hk
   ·rename_i c h0;obtain⟨hof,Ds⟩:=Al hk;have hof:=Nat.eq_of_beq_eq_true hof;subst hof;obtain⟨cs,l,z,Ef,H⟩:=Qh h Ds;obtain⟨b,o,hβ,hu⟩:=hp;refine⟨.pbox cs,some id::l,z,Ef,by simp only[plc,List.length_cons,H.len];omega,?_,H.row,fun fz A zz h1 h2 hA hz own j0 Fv=>?_⟩
    ·intro i hi;rcases List.mem_cons.1 hi with e|hi
     ·cases e;rw[h0];trivial
     ·obtain⟨c',Oo⟩:=H.own i hi;rw[Oo];trivial
    ·have h3:=Fv 0 (by simp)
     rw[Nat.add_zero] at h3;refine⟨b,o,by rw[h3];exact hβ,hz id c b o (by simp) h0 hβ,by rw[hu,Nat.add_zero],WL h h0 hβ H h1 h2 hA fun j hj=>?_⟩
     have:=Fv (j+1) (by simp;omega)
     rw[show j0+1+j=j0+(j+1) by omega,this]
     simp[Ko]
   ·cases hk
  ·cases hk
 ·cases Fn:B2 P t<;>rw[Fn] at hk<;>simp only[cond_true,cond_false] at hk
  ·obtain⟨cs,l,z,Ds,H⟩:=Qh h hk;obtain⟨c,cs',AO,Ef⟩:=A8 Ds;subst AO;obtain⟨Xh,Kv⟩:=Dj Ef;subst Xh;have Yn:=H.na c (by simp)
   have GB:plc c=1:=by cases c<;>first|rfl|exact absurd rfl (Yn _).1|exact absurd rfl (Yn _).2
   have hF:=H.fr p (by simp)
   refine⟨c,l,z,Kv,by rw[GB];exact H.len,fun i hi=>?_,H.row,fun fz A zz h1 h2 hA _ own j0 Fv=>TC Yn (H.sem fz A [u] h1 h2 hA ⟨?_,trivial⟩ own j0 Fv)⟩
   ·obtain⟨c',Oo⟩:=H.own i hi;rw[Oo];trivial
   ·cases p<;>first|exact hp|exact hF.elim
  ·obtain⟨ps,Zy,Ds⟩:=Gu hk;subst Zy;obtain⟨cs,l,z,Ef,H⟩:=Qh h Ds;obtain⟨vs,hu,Qx⟩:=hp;refine⟨.agg cs,l,z,Ef,H.len,fun i hi=>?_,H.row,fun fz A zz h1 h2 hA _ own j0 Fv=>⟨vs,hu,H.sem fz A vs h1 h2 hA Qx own j0 Fv⟩⟩
   obtain⟨c',Oo⟩:=H.own i hi;rw[Oo];trivial
def MG (P:Program)(tmps:Array Value)(w:World)(rv:ResultVar)(u:Value):Prop:=
  (match rv with
   |.tmp t=>(pure (tmps.getD t undef):Sem Value)
   |.cell a t=>do loadVar t (←asAddr (tmps.getD a undef))).run P w=.ok u w
theorem Af7 (h:Cr N w0 X0 Y β s a w)(t:Nat):Ea w (C7 s.hp β Y) β (s.tm t) (a.tmps.getD t undef):=by
 rcases Nat.lt_or_ge t N with h'|h'
 ·exact h.tms t h'
 ·rw[h.tmo t h'];exact Aw.top _
theorem Abt (h:Cr N w0 X0 Y β s a w){rv:ResultVar}{K:PV->Option R}(hk:Ag2 P s rv K=some r):∃p u,K p=some r∧MG P a.tmps w rv u∧Ea w (C7 s.hp β Y) β p u:=by
 unfold Ag2 at hk;split at hk
 ·rename_i t;exact⟨_,_,hk,rfl,Af7 h t⟩
 ·rename_i x t;obtain⟨v,ad,val,Ds,Db,hl,hv,_⟩:=QZ h (Af7 h x) hk;refine⟨v,val,Ds,?_,hv⟩;unfold MG;simp[Db,asAddr,hl]
theorem Ty {l l':List (Option Nat)} {j:Nat}(h:j<l.length):Ko β (l++l') j=Ko β l j:=by
 unfold Ko;rw[List.getElem?_append_left h]
theorem Uq {l l':List (Option Nat)} {j:Nat}:Ko β (l++l') (l.length+j)=Ko β l' j:=by
 unfold Ko;rw[List.getElem?_append_right (by omega),Nat.add_sub_cancel_left]
theorem BJ (h:Cr N w0 X0 Y β s a w){shr:Bool}:∀{rs:List ResultVar}{ts:List TypeId}{K:List PV->List Nat->List Nat->Option R},KW P shr s rs ts K=some r ->
  ∃vs l z us,K vs (l.filterMap id) z=some r∧Be (MG P a.tmps w) rs us∧l.length=K6 vs∧Adn s l∧Ln s z ∧
   ∀(fz:List Nat) A zz,(∀i∈z,i∈fz)->Ln s fz->(∀b,A b->C7 (Ag s.hp fz) β Y b)->(∀id c b o,some id∈l->s.hp id=some (.st c)->β id=some (b,o)->zz<=b) ->
    ∀own j0,(∀j,j<l.length->own (j0+j)=Ko β l j)->JH w A own zz j0 vs us
 |[],[],K,hk=>⟨[],[],[],[],hk,trivial,rfl,(by intro id Bj;cases Bj),(by intro id Bj;cases Bj),fun _ _ _ _ _ _ _ _ _ _=>trivial⟩
 |[],_::_,K,hk=>by cases hk
 |_::_,[],K,hk=>by cases hk
 |rv::rs,t::ts,K,hk=>by
  unfold KW at hk;obtain⟨p,u,Ds,hu,hp⟩:=Abt h hk;obtain⟨v,l,z,Ef,hl,hL,hz,hv⟩:=ZW h hp Ds;obtain⟨vs,l',z',us,Kv,hus,Je,hL',hz',Qx⟩:=BJ h Ef;refine⟨v::vs,l++l',z++z',u::us,?_,⟨hu,hus⟩,by simp only[List.length_append,K6,List.map_cons,List.sum_cons,hl];rw[Je];rfl,?_,?_,fun fz A zz h1 h2 hA Ft own j0 Fv=>⟨?_,?_⟩⟩
  ·rw[List.filterMap_append];exact Kv
  ·intro id Bj;rcases List.mem_append.1 Bj with Bj|Bj
   ·exact hL id Bj
   ·exact hL' id Bj
  ·intro id Bj;rcases List.mem_append.1 Bj with Bj|Bj
   ·exact hz id Bj
   ·exact hz' id Bj
  ·exact hv fz A zz (fun i hi=>h1 i (by simp[hi])) h2 hA (fun id c b o hi=>Ft id c b o (by simp[hi])) own j0 fun j hj=>by rw[Fv j (by simp;omega),Ty hj]
  ·refine Qx fz A zz (fun i hi=>h1 i (by simp[hi])) h2 hA (fun id c b o hi=>Ft id c b o (by simp[hi])) own (j0+plc v) fun j hj=>?_
   rw[←hl,Nat.add_assoc,Fv (l.length+j) (by simp;omega),Uq]
theorem P5 (h:Cr N w0 X0 Y β s a w){bt:Wx}(hpt:∀i,X0.pt i=bt i 0):∀{ts:List TypeId}{i:Nat}{ps:List PV}{K:List (List PV)->List Nat->List Nat->List Nat->Option R},Xu P N s.hp i ts ps K=some r ->
  (∀k p,ps[k]?=some p->Wy p=true->X0.pn (i+k)) ->
  ∃os l z q,K os (l.filterMap id) z q=some r∧(∀id,some id∈l->∃c,s.hp id=some (.ar false c))∧Ln s z∧(∀id∈q,C8 (s.hp id))∧(∀k p,ps[k]?=some p->Wy p=true->Dh N (i+k)∈q) ∧
   ∀(fz:List Nat) A,(∀i∈z,i∈fz)->Ln s fz->(∀i∈q,i ∉ fz)->(∀b,A b->C7 (Ag s.hp fz) β Y b) ->
    ∀own j0,(∀j,j<l.length->own (j0+j)=Ko β l j)->Tf w A own bt j0 i ps os
 |[],i,ps,K,hk,_=>by
  obtain⟨Zy,hk⟩:=Dj hk;subst Zy;exact⟨[],[],[],[],hk,by simp,(by intro id Bj;cases Bj),by simp,by simp,fun _ _ _ _ _ _ _ _ _=>rfl⟩
 |t::ts,i,ps,K,hk,hpn=>by
  unfold Xu at hk;obtain⟨p,ps',Zy,Ds⟩:=A8 hk;subst Zy
  have Ars:∀k p,ps'[k]?=some p->Wy p=true->X0.pn (i+1+k):=fun k p' h1 h2=>by
   have:=hpn (k+1) p' (by simpa using h1) h2
   rw[show i+1+k=i+(k+1) by omega]
   exact this
  have hpq:∀{q:List Nat},(Wy p=true->Dh N i∈q)->(∀k p,ps'[k]?=some p->Wy p=true->Dh N (i+1+k)∈q)->∀k p',(p::ps')[k]?=some p'->Wy p'=true->Dh N (i+k)∈q:=by
   intro q h1 h2 k p' h3 h4;cases k with
   |zero=>
    simp only[List.getElem?_cons_zero,Option.some.injEq] at h3;subst h3;exact h1 h4
   |succ k=>
    have:=h2 k p' (by simpa using h3) h4
    rw[show i+1+k=i+(k+1) by omega] at this
    exact this
  split at Ds
  ·rename_i ws;obtain⟨e,he,Ef⟩:=B9 Ds;split at Ef
   ·rename_i c h0;obtain⟨cs,l,z,Kv,I1,H⟩:=Y9 h Ef;obtain⟨os,l',z',q,Sf,hL',hz',Fe,hpi,hv⟩:=P5 h hpt Kv Ars;refine⟨cs::os,l++l',z++z',Dh N i::q,by rw[List.filterMap_append];exact Sf,?_,?_,?_,hpq (fun _=>List.mem_cons_self) (fun k p h1 h2=>List.mem_cons_of_mem _ (hpi k p h1 h2)),fun fz A h1 h2 h3 hA own j0 Fv=>?_⟩
    ·intro id Bj;rcases List.mem_append.1 Bj with Bj|Bj
     ·exact H.own id Bj
     ·exact hL' id Bj
    ·intro id Bj;rcases List.mem_append.1 Bj with Bj|Bj
     ·exact H.row id Bj
     ·exact hz' id Bj
    ·intro id Bj;rcases List.mem_cons.1 Bj with rfl|Bj
     ·rw[h0];trivial
     ·exact Fe id Bj
    ·have EH:=(h.pin i (by have:=hpn 0 _ rfl rfl;rwa [Nat.add_zero] at this)).2
     obtain⟨b,o,Er,_,_⟩:=h.box _ _ h0;rw[Er,hpt] at EH;refine⟨⟨b,o,EH.symm,I1,WL h h0 Er H (fun i hi=>h1 i (by simp[hi])) h2 hA fun j hj=>by rw[Fv j (by simp;omega),Ty hj]⟩,?_⟩
     refine hv fz A (fun i hi=>h1 i (by simp[hi])) h2 (fun i hi=>h3 i (by simp[hi])) hA own (j0+cs.length) fun j hj=>?_
     rw[←H.len,Nat.add_assoc,Fv (l.length+j) (by simp;omega),Uq]
   ·cases Ef
  ·split at Ds
   ·rename_i c h0;obtain⟨os,l',z',q,Sf,hL',hz',Fe,hpi,hv⟩:=P5 h hpt Ds Ars;refine⟨c::os,l',z',Dh N i::q,Sf,hL',hz',?_,hpq (fun _=>List.mem_cons_self) (fun k p h1 h2=>List.mem_cons_of_mem _ (hpi k p h1 h2)),fun fz A h1 h2 h3 hA own j0 Fv=>⟨?_,hv fz A h1 h2 (fun i hi=>h3 i (by simp[hi])) hA own j0 Fv⟩⟩
    ·intro id Bj;rcases List.mem_cons.1 Bj with rfl|Bj
     ·rw[h0];trivial
     ·exact Fe id Bj
    ·have EH:=(h.pin i (by have:=hpn 0 _ rfl rfl;rwa [Nat.add_zero] at this)).2
     rw[hpt] at EH;rcases h.box _ _ h0 with⟨h4,h5⟩|⟨b,o,h4,h5,h6,_⟩
     ·exact .inl ⟨by rw[←EH];exact h4,h5⟩
     ·exact .inr ⟨b,o,by rw[←EH];exact h4,h5.weak (fun b _ hb=>Ms (hA b hb)),h6 rfl⟩
   ·cases Ds
  ·rename_i QK hn2;have hnL:Wy p=false:=by cases p<;>first|rfl|exact absurd rfl (QK _)|exact absurd rfl (hn2 _)
   obtain⟨os,l',z',q,Sf,hL',hz',Fe,hpi,hv⟩:=P5 h hpt Ds Ars;refine⟨os,l',z',q,Sf,hL',hz',Fe,hpq (fun e=>by rw[hnL] at e;cases e) hpi,fun fz A h1 h2 h3 hA own j0 Fv=>?_⟩
   have:=hv fz A h1 h2 h3 hA own j0 Fv;cases p<;>first|exact this|cases hnL
theorem RM {f:ResultVar->Sem Value}:∀{rs:List ResultVar}{us:List Value},Be (fun rv u=>(f rv).run P w=.ok u w) rs us->(rs.mapM f).run P w=.ok us w
 |[],[],_=>by simp
 |[],_::_,h=>h.elim
 |_::_,[],h=>h.elim
 |rv::rs,u::us,h=>by
  rw[List.mapM_cons];simp[h.1,RM h.2]
theorem QW {fn:Func}{us:List Value}(h:Be (MG P a.tmps w) fn.results.toList us):(results fn a.tmps).run P w=.ok (He us) w:=by
 unfold results;rw[Array.mapM_eq_mapM_toList];simp only[map_eq_pure_bind,bind_assoc,pure_bind,Sem.run_bind];refine Eq.trans (congrArg (fun x=>Result.andThen x _) (RM h)) ?_
 simp only[Result.andThen_ok,Sem.run_pure]
 congr 1
 clear h
 match us with
 |[]=>rfl
 |[u]=>rfl
 |u::v::us=>exact dif_neg (by simp)
theorem RQ:∀{l:List (Option Nat)},Dy (l.filterMap id)=true->∀{j j' i:Nat},l[j]?=some (some i)->l[j']?=some (some i)->j=j'
 |[],_,j,j',i,h,_=>by simp at h
 |q::l,hn,j,j',i,h,h'=>by
  have hn':Dy (l.filterMap id)=true:=by
   cases q with
   |none=>exact hn
   |some x=>
    simp only[List.filterMap_cons,id_eq,Dy,Bool.and_eq_true] at hn;exact hn.2
  have hq:∀(x k:Nat),q=some x->l[k]?≠some (some x):=by
   intro x k e hk;subst e;simp only[List.filterMap_cons,id_eq,Dy,Bool.and_eq_true,Bool.not_eq_true'] at hn;exact Qj hn.1 (List.mem_filterMap.2 ⟨some x,List.mem_of_getElem? hk,rfl⟩)
  cases j with
  |zero=>
   cases j' with
   |zero=>rfl
   |succ k'=>
    simp at h h';exact absurd h' (hq i k' h)
  |succ k=>
   cases j' with
   |zero=>
    simp at h h';exact absurd h (hq i k h')
   |succ k'=>
    simp at h h';rw[RQ hn' h h']
theorem JJ {C:Gl}{f:FuncId}{fn:Func}{args:List PV}{res:Aq}{w:World}{Y:Nat->Prop}{bt:Wx}{us:List Value}(Ti:Ins w Y bt args us){h8:∀k p,args[k]?=some p->Wy p=true->k<8}
  {s':St} {a':Act} {w':World} {β':Bt} (hr:YQ C P f fn args s'=some res) (h:Cr fn.ntmps w (TL bt args h8) Y β' s' a' w'):
  a'.defers=[]∧∃v,(results fn a'.tmps).run P w'=.ok v w'∧∃vs own,Ending.returned v=.returned (He vs)∧Out w w' Y bt args own res vs:=by
 unfold YQ at hr;obtain⟨vs,l,z,us',GE,hus,hll,hL,hz,hv⟩:=BJ h hr;obtain⟨os,l',z',q,JU,hL',hz',hq,hpi,Np⟩:=P5 h (bt:=bt) (fun _=>rfl) GE (fun k p h1 h2=>by rw[Nat.zero_add];exact⟨p,h1,h2⟩)
 obtain⟨hnd,WF⟩:=Al JU;cases WF;simp only[Bool.and_eq_true] at hnd;obtain⟨hnd,Anl⟩:=hnd;obtain⟨QK,hn2,hn3⟩:=Hu hnd
 have Xl:∀i∈z++z',i ∉ (l.filterMap id++l'.filterMap id)++q:=by
  intro i hi I6;have:=List.all_eq_true.1 Anl i hi;have h2:((l.filterMap id++l'.filterMap id)++q).any (Nat.beq i)=true:=List.any_eq_true.2 ⟨i,I6,Nat.beq_refl i⟩;rw[h2] at this;cases this
 have Aau:Ln s' (z++z'):=by
  intro i hi;rcases List.mem_append.1 hi with hi|hi
  ·exact hz i hi
  ·exact hz' i hi
 refine⟨h.dfr,He us',QW hus,us',Ko β' (l++l'),rfl,?_⟩;have A4i:Dy ((l++l').filterMap id)=true:=by rw[List.filterMap_append];exact QK
 have Fv:∀j b o,Ko β' (l++l') j=some (b,o)->∃id,(l++l')[j]?=some (some id)∧β' id=some (b,o):=by
  intro j b o hj;unfold Ko at hj;cases hlj:(l++l')[j]? with
  |none=>rw[hlj] at hj;cases hj
  |some q=>
   cases q with
   |none=>rw[hlj] at hj;cases hj
   |some id=>
    rw[hlj] at hj;exact⟨id,rfl,hj⟩
 have Jy:∀(j i:Nat),(l++l')[j]?=some (some i)->i∈l.filterMap id++l'.filterMap id:=by
  intro j i hj;rw[←List.filterMap_append];exact List.mem_filterMap.2 ⟨some i,List.mem_of_getElem? hj,rfl⟩
 have Gb:∀(j i:Nat),(l++l')[j]?=some (some i)->C8 (s'.hp i):=by
  intro j i hj;rcases List.mem_append.1 (List.mem_of_getElem? hj) with I6|I6
  ·exact hL i I6
  ·obtain⟨c,hc⟩:=hL' i I6;rw[hc];trivial
 have Amt:∀i,i∈(l.filterMap id++l'.filterMap id)++q->Ag s'.hp (z++z') i=s'.hp i:=by
  intro i hi;rw[Bv,if_neg (fun I6=>Xl i I6 hi)]
 have Amw:∀i b o,bt i 0=some (b,o)->Dh fn.ntmps i∈q∧C8 (s'.hp (Dh fn.ntmps i))∧β' (Dh fn.ntmps i)=some (b,o):=by
  intro i b o GJ;obtain⟨p,h1,h2⟩:=Ti.l0 i _ GJ;have h3:=hpi i p h1 h2;rw[Nat.zero_add] at h3;exact⟨h3,hq _ h3,(h.pin i ⟨p,h1,h2⟩).2.trans GJ⟩
 have hAO:∀b,CU bt (Ko β' (l++l')) Y b->C7 (Ag s'.hp (z++z')) β' Y b:=by
  rintro b (⟨j,o,hj⟩|⟨i,o,GJ⟩|hY)
  ·obtain⟨id,h1,h2⟩:=Fv j b o hj;refine .inl ⟨id,o,?_,h2⟩;rw[Amt id (List.mem_append.2 (.inl (Jy j id h1)))];exact Gb j id h1
  ·obtain⟨h1,h2,h3⟩:=Amw i b o GJ;refine .inl ⟨_,o,?_,h3⟩;rw[Amt _ (List.mem_append.2 (.inr h1))];exact h2
  ·exact .inr hY
 have Ug:∀(j id b o:Nat),(l++l')[j]?=some (some id)->β' id=some (b,o)->b<w.heap.size->∃i k o',bt i (k+1)=some (b,o'):=by
  intro j id b o hj hβ B7;rcases h.ownd b ⟨id,o,Gb j id hj,hβ⟩ with⟨i,k,o',GJ⟩|hge
  ·cases k with
   |zero=>
    obtain⟨h1,h2,h3⟩:=Amw i b o' GJ;have:=h.inj id _ b o o' (Gb j id hj) h2 hβ h3;subst this;exact absurd h1 (hn3 _ (Jy j _ hj))
   |succ k=>exact⟨i,k,o',GJ⟩
  ·omega
 refine⟨h.fr.os,h.fr.tape,h.fr.output,h.fr.step,h.fr.rng,?_,?_,?_,?_⟩
 ·refine hv (z++z') _ _ (fun i hi=>List.mem_append.2 (.inl hi)) Aau hAO (fun id c b o hi hc hβ=>?_) _ 0 (fun j hj=>by rw[Nat.zero_add,Ty hj])
  rcases Nat.lt_or_ge b w.heap.size with B7|hge
  ·obtain⟨k,Ky,p,h1,h2⟩:=h.stp id c b o hc hβ B7;have h3:=hpi k p h1 h2;rw[Nat.zero_add,←Ky] at h3;obtain⟨j,hj⟩:=List.mem_iff_getElem?.1 hi;refine absurd h3 (hn3 id ?_);exact List.mem_append.2 (.inl (List.mem_filterMap.2 ⟨some id,hi,rfl⟩))
  ·exact hge
 ·refine Np (z++z') _ (fun i hi=>List.mem_append.2 (.inr hi)) Aau (fun i hi I6=>Xl i I6 (List.mem_append.2 (.inr hi))) hAO _ _ (fun j hj=>?_)
  rw[←hll,Uq]
 ·intro j b o hj;obtain⟨id,h1,h2⟩:=Fv j b o hj;refine⟨h.blt id b o (Cu (Gb j id h1)) h2,fun B7=>⟨Ug j id b o h1 h2 B7,fun x hx=>?_⟩⟩
  cases Ku:s'.hp id with
  |none=>have:=Gb j id h1;rw[Ku] at this;exact this.elim
  |some bx=>
   have FZ:=Gb j id h1;rw[Ku] at FZ;cases bx with
   |st c=>
    obtain⟨k,Ky,p,h3,h4⟩:=h.stp id c b o Ku h2 B7;have h5:=hpi k p h3 h4;rw[Nat.zero_add,←Ky] at h5;exact absurd h5 (hn3 _ (Jy j _ h1))
   |ar fz c=>exact h.rngB id _ b o Ku FZ h2 B7 x hx
   |mv=>exact FZ.elim
 ·intro j j' b o o' hj Q4;obtain⟨id,h1,h2⟩:=Fv j b o hj;obtain⟨id',KT,h2'⟩:=Fv j' b o' Q4;have:=h.inj id id' b o o' (Gb j id h1) (Gb j' id' KT) h2 h2';subst this;exact RQ A4i h1 KT
theorem UZ {G:Ur}(J0:NoNG P)(hm:P.follows .mixedOrders=true){C:Gl}{fu:Nat}{call:An}(Dq:∀f args res,call f args=some res->Df G P f args res){f:FuncId}{fn:Func}{c:Code}(hf:P.funcs[f]?=some fn) (hb:fn.body=some c)
  {args:List PV} {res:Aq} (hk:Anh C P fu call f fn c args=some res):Df G P f args res:=by
 refine⟨⟨fn,hf,by rw[hb];rfl⟩,fun w Y bt us Ti hG hGY=>?_⟩
 unfold Anh at hk;obtain⟨tms,bs,Ds,Ft⟩:=Abo Ti hk;obtain⟨Er,Ef⟩:=Al Ds;simp only[Bool.and_eq_true] at Er
 have Cz:us.length<=fn.ntmps:=by
  rw[←Ti.args.len];exact Nat.le_of_ble_eq_true Er.1
 obtain⟨h8,β0,hs⟩:=Ft Er.2 Cz;refine calls_of_wp hf hb ?_;have hE:PF P G w (TL bt args h8):=⟨J0,fun w' hfr=>G.stable w w' (fun b hb B7=>hfr.step.keep b B7 (hGY b hb).2) hG,hGY⟩
 refine UW hE Dq hm c hs Ef (fun s' a' w' β' hr h=>JJ Ti hr h) (fun id s' a' w' β' hr h=>by cases hr) (fun s' a' w' β' hr h=>JJ Ti hr h)
def JA (G:Ur)(P:Program)(C:Gl):Prop:=∀f g args res,C.ext f=some g->g args=some res->Df G P f args res
theorem H5 {G:Ur}(J0:NoNG P)(hm:P.follows .mixedOrders=true){C:Gl}(hx:JA G P C){fu:Nat}:∀(d:Nat)(f:FuncId)(args:List PV)(res:Aq),Ae C P fu d f args=some res->Df G P f args res
 |0,_,_,_,h=>by cases h
 |d+1,f,args,res,h=>by
  unfold Ae at h;split at h
  ·rename_i g hg;exact hx f g args res hg h
  ·split at h
   ·cases h
   ·rename_i fn hf;split at h
    ·cases h
    ·rename_i c hb;exact UZ J0 hm (H5 J0 hm hx d) hf hb h
end
open Go.ChangeShapes Go.WideShapes Go.ChangeAt Go.RowKit Go.Deep
def KZ (P:Program):List Field->Nat->Nat->Bool
 |[],i,n=>Nat.beq i n
 |f::r,i,n=>Nat.beq f.offset i&&KZ P r (i+P.cellsOf f.type) n
def L3 (P:Program):Nat->TypeId->Bool
 |0,_=>false
 |d+1,t=>
  match P.underlying t with
  |some .bool=>true
  |some (.int _)=>true
  |some .string=>true
  |some (.slice e)=>L3 P d e&&Nat.blt 0 (P.cellsOf e)
  |some (.struct fs)=>KZ P fs.toList 0 (P.cellsOf t)&&fs.toList.all fun f=>L3 P d f.type
  |some (.array n e)=>Nat.beq (P.cellsOf t) (n*P.cellsOf e)&&L3 P d e
  |_=>false
def WT (P:Program):Nat->TypeId->List PV->Prop
 |0,_,_=>False
 |d+1,t,ps=>
  match P.underlying t with
  |some .bool=>∃b,ps=[.sc (.bool b)]
  |some (.int k)=>∃n,ps=[.sc (.int k n)]∧(Lit.int k n).wf=true
  |some .string=>∃s:ByteArray,ps=[.sc (.string s)]∧s.size<=maxLen
  |some (.slice e)=>∃rows:List (List PV),ps=[.lst false (P.cellsOf e) rows.length rows.flatten]∧rows.length<=maxLen∧∀r∈rows,r.length=P.cellsOf e∧WT P d e r
  |some (.struct fs)=>∃rows:List (List PV),ps=rows.flatten∧Be (fun f r=>WT P d f.type r) fs.toList rows
  |some (.array n e)=>∃rows:List (List PV),ps=rows.flatten∧rows.length=n∧∀r∈rows,r.length=P.cellsOf e∧WT P d e r
  |_=>False
def WTv (P:Program)(t:TypeId)(p:PV):Prop:=
 match B2 P t with
 |true=>∃ps,p=.agg ps∧WT P 12 t ps
 |false=>WT P 12 t [p]
section
variable {P:Program} {d:Nat} {t e:TypeId} {ps:List PV}
theorem WZ (hu:P.underlying t=some .bool):WT P (d+1) t ps↔∃b,ps=[.sc (.bool b)]:=by
 show (match P.underlying t with|some .bool=>_|some (.int k)=>_|some .string=>_|some (.slice e)=>_|some (.struct fs)=>_|some (.array n e)=>_|_=>_)↔_
 rw[hu]
theorem Agn {k:IntKind}(hu:P.underlying t=some (.int k)):WT P (d+1) t ps↔∃n,ps=[.sc (.int k n)]∧(Lit.int k n).wf=true:=by
 show (match P.underlying t with|some .bool=>_|some (.int k)=>_|some .string=>_|some (.slice e)=>_|some (.struct fs)=>_|some (.array n e)=>_|_=>_)↔_
 rw[hu]
theorem JE (hu:P.underlying t=some .string):WT P (d+1) t ps↔∃s:ByteArray,ps=[.sc (.string s)]∧s.size<=maxLen:=by
 show (match P.underlying t with|some .bool=>_|some (.int k)=>_|some .string=>_|some (.slice e)=>_|some (.struct fs)=>_|some (.array n e)=>_|_=>_)↔_
 rw[hu]
theorem QN (hu:P.underlying t=some (.slice e)):WT P (d+1) t ps↔∃rows:List (List PV),ps=[.lst false (P.cellsOf e) rows.length rows.flatten]∧rows.length<=maxLen∧∀r∈rows,r.length=P.cellsOf e∧WT P d e r:=by
 show (match P.underlying t with|some .bool=>_|some (.int k)=>_|some .string=>_|some (.slice e)=>_|some (.struct fs)=>_|some (.array n e)=>_|_=>_)↔_
 rw[hu]
theorem JB {fs:Array Field}(hu:P.underlying t=some (.struct fs)):WT P (d+1) t ps↔∃rows:List (List PV),ps=rows.flatten∧Be (fun f r=>WT P d f.type r) fs.toList rows:=by
 show (match P.underlying t with|some .bool=>_|some (.int k)=>_|some .string=>_|some (.slice e)=>_|some (.struct fs)=>_|some (.array n e)=>_|_=>_)↔_
 rw[hu]
theorem Adu {n:Nat}(hu:P.underlying t=some (.array n e)):WT P (d+1) t ps↔∃rows:List (List PV),ps=rows.flatten∧rows.length=n∧∀r∈rows,r.length=P.cellsOf e∧WT P d e r:=by
 show (match P.underlying t with|some .bool=>_|some (.int k)=>_|some .string=>_|some (.slice e)=>_|some (.struct fs)=>_|some (.array n e)=>_|_=>_)↔_
 rw[hu]
end
inductive Ki where
 |bool
 |int (k:IntKind)
 |str
 |sl (e:TypeId)
 |st (ts:List TypeId)
 |ar (n:Nat) (e:TypeId)
 |no
def Io (P:Program)(t:TypeId):Ki:=
 match P.underlying t with
 |some .bool=>.bool
 |some (.int k)=>.int k
 |some .string=>.str
 |some (.slice e)=>.sl e
 |some (.struct fs)=>.st (fs.toList.map (·.type))
 |some (.array n e)=>.ar n e
 |_=>.no
section
variable {P:Program} {d:Nat} {t e:TypeId} {ps:List PV} {p:PV}
theorem Be.map_left {α β γ:Type}{g:α->γ}{R:γ->β->Prop}:∀{l:List α}{r:List β},Be (fun a b=>R (g a) b) l r->Be R (l.map g) r
 |[],[],_=>trivial
 |_::_,_::_,h=>⟨h.1,Be.map_left h.2⟩
 |[],_::_,h=>h.elim
 |_::_,[],h=>h.elim
theorem Be.cons_inv {α β:Type}{R:α->β->Prop}{a:α}{zs:List α}:∀{rs:List β},Be R (a::zs) rs->∃r rs',rs=r::rs'∧R a r∧Be R zs rs'
 |[],h=>h.elim
 |r::rs,h=>⟨r,rs,rfl,h.1,h.2⟩
theorem Be.nil_inv {α β:Type}{R:α->β->Prop}:∀{rs:List β},Be R ([]:List α) rs->rs=[]
 |[],_=>rfl
 |_::_,h=>h.elim
theorem Ai0 (hk:Io P t=.bool)(h:WT P d t ps):∃b,ps=[.sc (.bool b)]:=by
 cases d with
 |zero=>exact h.elim
 |succ d=>
 unfold Io at hk;split at hk<;>first|cases hk|skip
 rename_i hu;exact (WZ hu).1 h
theorem Adk {k:IntKind}(hk:Io P t=.int k)(h:WT P d t ps):∃n,ps=[.sc (.int k n)]∧(Lit.int k n).wf=true:=by
 cases d with
 |zero=>exact h.elim
 |succ d=>
 unfold Io at hk;split at hk<;>first|cases hk|skip
 rename_i hu;exact (Agn hu).1 h
theorem Ahm (hk:Io P t=.str)(h:WT P d t ps):∃s:ByteArray,ps=[.sc (.string s)]∧s.size<=maxLen:=by
 cases d with
 |zero=>exact h.elim
 |succ d=>
 unfold Io at hk;split at hk<;>first|cases hk|skip
 rename_i hu;exact (JE hu).1 h
theorem Avo (hk:Io P t=.sl e)(h:WT P d t ps):∃rows:List (List PV),ps=[.lst false (P.cellsOf e) rows.length rows.flatten]∧rows.length<=maxLen∧∀r∈rows,r.length=P.cellsOf e∧WT P (d-1) e r:=by
 cases d with
 |zero=>exact h.elim
 |succ d=>
 rw[Nat.add_sub_cancel];unfold Io at hk;split at hk<;>first|cases hk|skip
 rename_i hu;exact (QN hu).1 h
theorem As8 {ts:List TypeId}(hk:Io P t=.st ts)(h:WT P d t ps):∃rows:List (List PV),ps=rows.flatten∧Be (WT P (d-1)) ts rows:=by
 cases d with
 |zero=>exact h.elim
 |succ d=>
 rw[Nat.add_sub_cancel];unfold Io at hk;split at hk<;>first|cases hk|skip
 rename_i fs hu;obtain⟨rows,h1,h2⟩:=(JB hu).1 h;exact⟨rows,h1,Be.map_left h2⟩
theorem Aiu (hk:B2 P t=true)(h:WTv P t p):∃ps,p=.agg ps∧WT P 12 t ps:=by
 unfold WTv at h;rw[hk] at h;exact h
theorem Aju (hk:B2 P t=false)(h:WTv P t p):WT P 12 t [p]:=by
 unfold WTv at h;rw[hk] at h;exact h
theorem Zm {α:Type}(f:α->List PV)(Q:α->Prop):∀{rows:List (List PV)},(∀r∈rows,∃x,r=f x∧Q x)->∃xs:List α,rows.flatten=xs.flatMap f∧rows.length=xs.length∧∀x∈xs,Q x
 |[],_=>⟨[],rfl,rfl,by simp⟩
 |r::rows,h=>by
  obtain⟨x,h1,h2⟩:=h r (by simp)
  obtain⟨xs,h3,h4,h5⟩:=Zm (rows:=rows) f Q fun r hr=>h r (by simp[hr])
  refine⟨x::xs,by simp[h1,h3],by simp[h4],fun y hy=>?_⟩
  rcases List.mem_cons.1 hy with rfl|hy
  ·exact h2
  ·exact h5 y hy
end
abbrev No:Nat->Prop:=fun _=>False
section
variable {H:Type} {enc:TypeId × Value->H} {P:Program} {w:World} {base:Nat} {held:Bool}
theorem Be.flat {α β:Type}{R:α->β->Prop}:∀{l:List Nat}{f:Nat->List α}{g:Nat->List β},(∀i∈l,Be R (f i) (g i))->Be R (l.map f).flatten (l.map g).flatten
 |[],_,_,_=>trivial
 |i::l,f,g,h=>by
  simp only[List.map_cons,List.flatten_cons];exact (h i (by simp)).app (Be.flat fun j hj=>h j (by simp[hj]))
theorem YZ {a:Addr}{v:Value}(h:w.cell? a=some v):a.spot=none∧a.block<w.heap.size:=by
 unfold World.cell? at h;split at h
 ·rename_i c t f e;refine⟨?_,?_⟩
  ·cases hs:a.spot with
   |none=>rfl
   |some x=>rw[hs] at h;simp at h
  ·rcases Nat.lt_or_ge a.block w.heap.size with h1|h1
   ·exact h1
   ·rw[Array.getElem?_eq_none h1] at e;cases e
 ·cases h
theorem CK {α:Type}{g:Nat->List α}{es:Nat}:∀{n:Nat},(∀i,i<n->(g i).length=es)->((List.range n).map g).flatten.length=n*es
 |0,_=>by simp
 |n+1,h=>by
  rw[List.range_succ,List.map_append,List.flatten_append,List.length_append,CK (fun i hi=>h i (by omega))]
  simp[h n (by omega),Nat.succ_mul]
theorem FT {a:Addr}{g:Nat->List Value}{es:Nat}:∀{n:Nat},(∀i,i<n->(g i).length=es)->(∀i,i<n->∀k,k<es->w.cell? (a.add (i*es+k))=(g i)[k]?) ->
  ∀j,j<n*es->w.cell? (a.add j)=(((List.range n).map g).flatten)[j]?
 |0,_,_,j,hj=>by omega
 |n+1,hl,hc,j,hj=>by
  have BD:=CK (fun i (hi:i<n)=>hl i (by omega))
  rw[List.range_succ,List.map_append,List.flatten_append,List.getElem?_append,BD];rw[Nat.succ_mul] at hj;split
  ·rename_i h1;exact FT (fun i hi=>hl i (by omega)) (fun i hi=>hc i (by omega)) j h1
  ·rename_i h1;have:=hc n (by omega) (j-n*es) (by omega)
   rw[show n*es+(j-n*es)=j by omega] at this
   simpa using this
abbrev TR (w:World)(c:PV)(v:Value):Prop:=(Th c∧Aw w No c v)∧v.oneCell'=true
theorem Zn {d:Nat}{cs:List Value}{n:Nat}(hn:cs.length=n):∀(l:List Field)(i:Nat),KZ P l i n=true ->
  (∀f∈l,∃ps,WT P d f.type ps∧Be (TR w) ps ((cs.drop f.offset).take (P.cellsOf f.type)))->∃rows:List (List PV),Be (fun f r=>WT P d f.type r) l rows∧Be (TR w) rows.flatten (cs.drop i)
 |[],i,ho,_=>by
  have:=Nat.eq_of_beq_eq_true ho;refine⟨[],trivial,?_⟩;rw[List.drop_of_length_le (by omega)]
  trivial
 |f::l,i,ho,h=>by
  simp only[KZ,Bool.and_eq_true] at ho;have ho1:=Nat.eq_of_beq_eq_true ho.1;obtain⟨ps,h1,h2⟩:=h f (by simp)
  obtain⟨rows,h3,h4⟩:=Zn hn l _ ho.2 fun g hg=>h g (by simp[hg])
  refine⟨ps::rows,⟨h1,h3⟩,?_⟩;rw[ho1] at h2;have:cs.drop i=(cs.drop i).take (P.cellsOf f.type)++cs.drop (i+P.cellsOf f.type):=by rw[←List.drop_drop];exact (List.take_append_drop _ _).symm
  rw[this,List.flatten_cons];exact h2.app h4
theorem FQ {d:Nat}{e:TypeId}{cs:List Value}{k:Nat}:∀(n:Nat),n*k<=cs.length ->
  (∀i,i<n->∃ps,(ps.length=k∧WT P d e ps)∧Be (TR w) ps ((cs.drop (i*k)).take k))->∃rows:List (List PV),rows.length=n∧(∀r∈rows,r.length=k∧WT P d e r)∧Be (TR w) rows.flatten (cs.take (n*k))
 |0,_,_=>⟨[],rfl,by simp,by simp[Be]⟩
 |n+1,hl,h=>by
  rw[Nat.succ_mul] at hl;obtain⟨rows,h1,h2,h3⟩:=FQ n (by omega) fun i hi=>h i (by omega)
  obtain⟨ps,h4,h5⟩:=h n (by omega)
  refine⟨rows++[ps],by simp[h1],?_,?_⟩
  ·intro r hr;rcases List.mem_append.1 hr with hr|hr
   ·exact h2 r hr
   ·rw[List.mem_singleton.1 hr];exact h4
  ·rw[List.flatten_append,Nat.succ_mul,List.take_add];refine h3.app ?_
   simpa using h5
theorem Su:∀(d:Nat)(t:TypeId),L3 P d t=true->∀(fuel:Nat)(cs:List Value)(x:DataW H × List MemPlace),DataW.trod enc P w base (fun _=>true) held fuel t cs=some x ->
  ∃ps,WT P d t ps∧Be (TR w) ps cs
 |0,_,h,_,_,_,_=>by cases h
 |d+1,t,hp,fuel,cs,x,h=>by
  unfold L3 at hp;split at hp
  ·rename_i hu;obtain⟨b,rfl,_⟩:=DataW.trod_bool hu h;simp only[WZ hu];exact⟨[.sc (.bool b)],⟨b,rfl⟩,⟨⟨trivial,Aw.sc _⟩,rfl⟩,trivial⟩
  ·rename_i k hu;obtain⟨n,rfl,_,hw⟩:=DataW.trod_int hu h;simp only[Agn hu];exact⟨[.sc (.int k n)],⟨n,rfl,hw⟩,⟨⟨trivial,Aw.sc _⟩,rfl⟩,trivial⟩
  ·rename_i hu;obtain⟨s,rfl,_,hw⟩:=DataW.trod_string hu h;simp only[JE hu];exact⟨[.sc (.string s)],⟨s,rfl,hw⟩,⟨⟨trivial,Aw.sc _⟩,rfl⟩,trivial⟩
  ·rename_i e hu;simp only[Bool.and_eq_true] at hp;have S0:0<P.cellsOf e:=Nat.lt_of_succ_le (Nat.le_of_ble_eq_true hp.2);simp only[QN hu];rcases open_slice hu h with⟨rfl,_⟩|⟨a,len,cap,m,n,D,Pl,rfl,_,hl,hm,SM,_,hi⟩
   ·exact⟨[.lst false (P.cellsOf e) 0 []],⟨[],by simp,by simp,by simp⟩,⟨⟨trivial,Aw.lnil _ _⟩,rfl⟩,trivial⟩
   ·simp only[if_true] at SM;subst SM
    have SG:∀i,i<len->∃q:List PV × List Value,(q.2.length=P.cellsOf e∧(∀k,k<P.cellsOf e->w.cell? (a.add (i*P.cellsOf e+k))=q.2[k]?))∧WT P d e q.1∧Be (TR w) q.1 q.2:=by
     intro i B7;obtain⟨cs',hc,ht⟩:=hi i (by omega)
     obtain⟨_,I1,hat⟩:=World.cells?_some hc;obtain⟨ps,h1,h2⟩:=Su d e hp.1 _ _ _ ht;exact⟨(ps,cs'),⟨I1,fun k hk=>by rw[←Pv.add_add];exact hat k hk⟩,h1,h2⟩
    obtain⟨F,hF⟩:=choose_lt SG;refine⟨[.lst false (P.cellsOf e) len ((List.range len).map fun i=>(F i).1).flatten],⟨(List.range len).map fun i=>(F i).1,by simp,by simp;omega,?_⟩,⟨⟨trivial,?_⟩,rfl⟩,trivial⟩
    ·intro r hr;obtain⟨i,hi1,rfl⟩:=List.mem_map.1 hr;have hi2:=List.mem_range.1 hi1;exact⟨by rw[(hF i hi2).2.2.len];exact (hF i hi2).1.1,(hF i hi2).2.1⟩
    ·rcases Nat.eq_zero_or_pos len with h0|h0
     ·subst h0;exact Aw.lemp _ _ _
     ·have M6:Be (TR w) ((List.range len).map fun i=>(F i).1).flatten ((List.range len).map fun i=>(F i).2).flatten:=Be.flat fun i hi=>(hF i (List.mem_range.1 hi)).2.2
      have Cx:=FT (w:=w) (a:=a) (g:=fun i=>(F i).2) (fun i hi=>(hF i hi).1.1) (fun i hi=>(hF i hi).1.2)
      have Cz:=CK (g:=fun i=>(F i).2) (fun i (hi:i<len)=>(hF i hi).1.1)
      have h00:w.cell? a≠none:=by
       have:=Cx 0 (Nat.mul_pos h0 S0);rw[show a.add 0=a by unfold Addr.add;simp] at this
       rw[this,List.getElem?_eq_getElem (by rw[Cz];exact Nat.mul_pos h0 S0)]
       simp
      obtain⟨v0,hv0⟩:=Option.ne_none_iff_exists'.1 h00;obtain⟨hs,hb⟩:=YZ hv0
      have key:∀j c,(((List.range len).map fun i=>(F i).1).flatten)[j]?=some c->∃v,w.cell? (a.add j)=some v∧TR w c v:=by
       intro j c hj
       have hlj:j<len*P.cellsOf e:=by
        rw[←Cz,←M6.len];rcases Nat.lt_or_ge j (((List.range len).map fun i=>(F i).1).flatten).length with h1|h1
        ·exact h1
        ·rw[List.getElem?_eq_none h1] at hj;cases hj
       have h1:=Cx j hlj;rw[List.getElem?_eq_getElem (by rw[Cz];exact hlj)] at h1
       exact⟨_,h1,M6.at_ hj (List.getElem?_eq_getElem (by rw[Cz];exact hlj))⟩
      refine Aw.lst _ _ _ a _ (fun j=>(w.cell? (a.add j)).getD undef) hs hb (fun h=>h) hl (fun j c hj=>?_) (fun j c hj=>?_) (fun j c hj=>?_)
      ·obtain⟨v,hv,_⟩:=key j c hj;rw[hv];rfl
      ·obtain⟨v,hv,ht⟩:=key j c hj;rw[hv];exact ht.2
      ·obtain⟨v,hv,ht⟩:=key j c hj;rw[hv];exact ht.1.2
  ·rename_i fs hu;simp only[Bool.and_eq_true] at hp;simp only[JB hu];obtain⟨xs,n,_,_,Cz,hxl,hf⟩:=DataW.trod_struct hu h
   obtain⟨rows,h1,h2⟩:=Zn (P:=P) (w:=w) (d:=d) Cz fs.toList 0 hp.1 fun f hf'=>by
    obtain⟨i,hi⟩:=List.mem_iff_getElem?.1 hf';have SG:fs[i]?=some f:=by simpa using hi
    have B7:i<fs.size:=(Array.getElem?_eq_some_iff.1 SG).1;have h3:=hf i f SG;rw[List.getElem?_eq_getElem (by omega)] at h3
    exact Su d f.type (List.all_eq_true.1 hp.2 f hf') _ _ _ h3
   exact⟨_,⟨rows,rfl,h1⟩,by simpa using h2⟩
  ·rename_i n e hu;simp only[Bool.and_eq_true] at hp;simp only[Adu hu];obtain⟨xs,m,_,_,Cz,hxl,hf⟩:=DataW.trod_array hu h;have M3:=Nat.eq_of_beq_eq_true hp.1
   obtain⟨rows,h1,h2,h3⟩:=FQ (P:=P) (w:=w) (d:=d) (e:=e) (cs:=cs) (k:=P.cellsOf e) n (by omega) fun i hi=>by
    have h3:=hf i hi;rw[List.getElem?_eq_getElem (by omega)] at h3
    obtain⟨ps,h4,h5⟩:=Su d e hp.2 _ _ _ h3;refine⟨ps,⟨?_,h4⟩,h5⟩;rw[h5.len,List.length_take,List.length_drop,Cz,M3];have:(i+1)*P.cellsOf e<=n*P.cellsOf e:=Nat.mul_le_mul_right _ hi;rw[Nat.succ_mul] at this;omega
   refine⟨_,⟨rows,rfl,h1,h2⟩,?_⟩;rw[List.take_of_length_le (by omega)] at h3
   exact h3
  ·cases hp
theorem Ac2 {r:Reach}{b0:Nat}{t:TypeId}{v:Value}{dd:DataW H}{p:List MemPlace}(hp:L3 P 12 t=true)(hv:Value.okWide P w r b0 t v)(h:DataW.Trod enc P w base (fun _=>true) held t v dd p):
  ∃q,WTv P t q∧P6 w No q v:=by
 obtain⟨fuel,hf⟩:=h;obtain⟨ps,h1,h2⟩:=Su 12 t hp fuel _ _ hf;unfold WTv B2
 have two:∀{cs:Array Value},v=.agg cs->∃q,(∃ps,q=.agg ps∧WT P 12 t ps)∧P6 w No q v:=by
  intro cs e;subst e;exact⟨.agg ps,⟨ps,rfl,h1⟩,cs.toList,by simp,h2.mono fun c v h=>h.1⟩
 have one:v.cells.toList=[v]->∃q,WT P 12 t [q]∧P6 w No q v:=by
  intro e;rw[e] at h2
  match ps,h2 with
  |[q],h2=>
   refine⟨q,h1,?_⟩;have h3:=h2.1.1;cases q<;>first|exact h3|exact h3.1.elim
  |[],h2=>exact h2.elim
  |_::_::_,h2=>exact h2.2.elim
 unfold L3 at hp;split at hp
 ·rename_i hu;simp only[hu];obtain⟨b,rfl,_⟩:=open_bool hu hv ⟨fuel,hf⟩;exact one rfl
 ·rename_i k hu;simp only[hu];obtain⟨b,rfl,_⟩:=open_int hu hv ⟨fuel,hf⟩;exact one rfl
 ·rename_i hu;simp only[hu];obtain⟨b,rfl,_⟩:=ChangeMaps.open_string hu hv ⟨fuel,hf⟩;exact one rfl
 ·rename_i e hu;simp only[hu];obtain⟨a,len,cap,rfl⟩:=okWide_slice hu hv;exact one rfl
 ·rename_i fs hu;simp only[hu];obtain⟨cs,rfl,_⟩:=okWide_struct hu hv;exact two rfl
 ·rename_i n e hu;simp only[hu];unfold Value.okWide at hv;simp only[hu] at hv;obtain⟨cs,rfl,_⟩:=hv;exact two rfl
 ·cases hp
theorem IK:∀{ts:List TypeId}{vs:List Value}{ds:List (DataW H)} {p:List MemPlace}{r:Reach}{b0:Nat},(ts.all fun t=>L3 P 12 t)=true->(∀(j:Nat) t v,ts[j]?=some t->vs[j]?=some v->Value.okWide P w r b0 t v) ->
  DataW.TrodAll enc P w base (fun _=>true) held ts vs ds p->∃qs,Be (WTv P) ts qs∧Be (P6 w No) qs vs
 |[],[],[],_,_,_,_,_,_=>⟨[],trivial,trivial⟩
 |t::ts,v::vs,d::ds,_,r,b0,hp,hv,⟨p,q,h1,h2,_⟩=>by
  simp only[List.all_cons,Bool.and_eq_true] at hp;obtain⟨x,h3,h4⟩:=Ac2 hp.1 (hv 0 t v rfl rfl) h1;obtain⟨xs,h5,h6⟩:=IK hp.2 (fun j t v ht Np=>hv (j+1) t v ht Np) h2
  exact⟨x::xs,⟨h3,h5⟩,h4,h6⟩
 |[],_::_,_,_,_,_,_,_,h=>by cases h
 |[],[],_::_,_,_,_,_,_,h=>by cases h
 |_::_,[],_,_,_,_,_,_,h=>by cases h
 |_::_,_::_,[],_,_,_,_,_,h=>by cases h
theorem To (hl:laidOutB P=true){W W':World}{sp:Nat->Bool}:∀{ts:List TypeId}{vs:List Value}{ds:List (DataW H)} {p:List MemPlace},(ts.all fun t=>P.readableRec t&&Nat.blt t P.types.size)=true ->
  DataW.TrodAll enc P W 0 (fun _=>true) true ts vs ds p->(∀x∈p,W.sameAt W' x)->(∀x∈p,sp x.block=true)->DataW.TrodAll enc P W' 0 sp true ts vs ds p
 |[],[],[],_,_,h,_,_=>h
 |t::ts,v::vs,d::ds,_,hr,⟨p,q,h1,h2,e⟩,hs,hsp=>by
  simp only[List.all_cons,Bool.and_eq_true] at hr;refine⟨p,q,WideElems.Trod_stays hl hr.1.1 (Nat.lt_of_succ_le (Nat.le_of_ble_eq_true hr.1.2)) h1 (fun x hx=>hs x ?_) (fun x hx=>hsp x ?_),To hl hr.2 h2 (fun x hx=>hs x ?_) (fun x hx=>hsp x ?_),e⟩
  all_goals rw[e,List.mem_append]
  ·exact .inl hx
  ·exact .inl hx
  ·exact .inr hx
  ·exact .inr hx
 |[],_::_,_,_,_,h,_,_=>by cases h
 |[],[],_::_,_,_,h,_,_=>by cases h
 |_::_,[],_,_,_,h,_,_=>by cases h
 |_::_,_::_,[],_,_,h,_,_=>by cases h
theorem GK {f:Func}{s:ChangeSpec}{apart fresh NB again:Bool}{W W':World}{args:Array Value}{v:Value}{ds gs:List (DataW H)} {before pa pv:List MemPlace}
  (hW:DataW.Whole enc P f.params.toList s.vars apart W args.toList ds gs before)
  (Avz:∀(b:Nat)(sp:Nat->Bool)(hd:Bool),DataW.TrodAll enc P W' b sp hd f.resultTypes.toList (v.resultList f.resultTypes.size) (s.fn H (ds++gs)).results [])
  (Ey:∀sp:Nat->Bool,(∀p∈before,sp p.block=true)->DataW.TrodAll enc P W' 0 sp true f.params.toList args.toList (s.fn H (ds++gs)).args pa)
  (NZ:∀sp:Nat->Bool,(∀p∈before,sp p.block=true)->DataW.TrodVars enc P W' sp s.vars (s.fn H (ds++gs)).vars pv)
  (Zy:before=pa++pv)(hb:Below W.heap.size W W')
  (hok:∀(j:Nat)(t:TypeId)(r:Value),f.resultTypes[j]?=some t->(v.resultList f.resultTypes.size)[j]?=some r->Value.okWide P W' .any 0 t r):
  s.post enc P f apart fresh NB again W args v W':=by
 have B7:∀p∈before,p.block<W.heap.size:=fun p hp=>hW.lt p hp
 have hold:∀p∈before,(fun b=>decide (b<W.heap.size)) p.block=true:=fun p hp=>by simpa using B7 p hp
 refine⟨ds,gs,before,[],pa,pv,hW,Avz _ _ _,Ey _ hold,NZ _ hold,World.keptBut_mono (fun p hp=>⟨hp,?_⟩) (hb.frame (· ∈ before)),fun _=>?_⟩
 ·rw[Zy,List.mem_append] at hp;exact Or.inr hp
 ·obtain⟨_,_,_,_,_,hz,hn⟩:=hW;refine⟨hok,_,_,([]++pa)++pv,⟨[]++pa,pv,trodAll_append (Ey _ (fun _ _=>rfl)) (Avz _ _ _),NZ _ (fun _ _=>rfl),rfl,?_,?_⟩,?_⟩
  ·intro b off hp;have Ti:MemPlace.cell b off∈before:=by rw[Zy];simpa using hp
   rw[hb.frozen (B7 _ Ti)];exact hz b off Ti
  ·intro ha;have:=hn ha;rw[Zy] at this
   simpa using this
  ·intro p hp _;rw[Zy]
   simpa using hp
theorem law_contract {G:Ur}{C:Gl}(hx:JA G P C)(J0:NoNG P)(hm:P.follows .mixedOrders=true)(hl:laidOutB P=true){f:FuncId}{fn:Func}{s:ChangeSpec}{tb:TypeId}(hfn:P.funcs[f]?=some fn)
  (NZ:s.vars=[]) (Auw:∀ds:List (DataW H),ds.length=fn.params.size->s.fn H ds={ results:=[.lit (.bool true)],args:=ds }) (An6:(fn.params.toList.all fun t=>L3 P 12 t)=true)
  (At2:(fn.params.toList.all fun t=>P.readableRec t&&Nat.blt t P.types.size)=true) (hrt:fn.resultTypes = #[tb]) (hub:P.underlying tb=some .bool)
  {apart fresh NB again:Bool} (W:World) (base:Nat) (args:Array Value) (ds gs:List (DataW H)) (before:List MemPlace)
  (hval:∀(j:Nat) t v,fn.params[j]?=some t->args[j]?=some v->Value.okWide P W .any base t v)
  (hW:DataW.Whole enc P fn.params.toList s.vars apart W args.toList ds gs before)
  (A7w:∀qs:List PV,Be (WTv P) fn.params.toList qs->∃fu d,Ae C P fu d f qs=some ⟨[.sc (.bool true)],[]⟩) (hG:G.ok W)(hGY:∀b,G.bl b->b<W.heap.size):
  Calls P f args W fun e W'=>∃v,e=.returned v∧s.post enc P fn apart fresh NB again W args v W':=by
 have hW':=hW;obtain⟨p,q,hA,hV,rfl,Xl,hnd⟩:=hW;rw[NZ] at hV;obtain⟨rfl,rfl⟩:=trodVars_none hV;obtain⟨qs,h1,h2⟩:=IK An6 (fun j t v ht hv=>hval j t v (by simpa using ht) (by simpa using hv)) hA
 obtain⟨fu,d,hc⟩:=A7w qs h1;have hS:=(H5 J0 hm hx d f qs _ hc).2 W No PD args.toList (QD (fun b h=>h.elim) h2) hG (fun b hb=>⟨hGY b hb,Pf b⟩)
 rw[Array.toArray_toList] at hS;refine hS.mono fun e W' ⟨vs,own,he,ho⟩=>?_
 have hv:=ho.vals
 have Qx:vs=[.bool true]:=by
  match vs,hv with
  |[u],hv=>
   have:Aw W' _ (.sc (.bool true)) u:=hv.1;rw[this.val]
  |[],hv=>exact hv.elim
  |_::_::_,hv=>exact hv.2.elim
 subst Qx;subst he;have hb:Below W.heap.size W W':=⟨ho.os,ho.tape,ho.output,ho.ext.size,fun k hk=>ho.ext.keep k hk (Pf k)⟩
 have B7:∀x∈p,x.block<W.heap.size:=fun x hx=>hW'.lt x (by simpa using hx)
 have Cz:ds.length=fn.params.size:=by
  have:∀{ts:List TypeId} {vs:List Value} {ds:List (DataW H)} {p:List MemPlace},DataW.TrodAll enc P W 0 (fun _=>true) true ts vs ds p->ds.length=ts.length:=by
   intro ts
   induction ts with
   |nil=>intro vs ds p h;cases vs<;>cases ds<;>first|rfl|cases h
   |cons t ts ih=>
    intro vs ds p h;cases vs with
    |nil=>cases h
    |cons v vs=>
     cases ds with
     |nil=>cases h
     |cons d ds=>obtain⟨_,_,_,h2,_⟩:=h;simp[ih h2]
  simpa using this hA
 have hsp:=Auw (ds++[]) (by simpa using Cz)
 refine⟨_,rfl,GK (pa:=p) (pv:=[]) hW' ?_ ?_ ?_ rfl hb ?_⟩
 ·intro b sp hd;rw[hsp,hrt];exact trodAll_mk1 (shut_bool hub _)
 ·intro sp Aze;rw[hsp];simp only[List.append_nil];exact To hl At2 hA (fun x hx=>hb.same (B7 x hx)) (fun x hx=>Aze x (by simpa using hx))
 ·intro sp _;rw[hsp,NZ];rfl
 ·exact ok_one hrt rfl (okWide_bool_mk hub _)
end
end
section
open Go.Proofs.Tryd (prog)
set_option maxRecDepth 100000
theorem VV {d:Nat}{ps:List PV}{k:IntKind}{t e:TypeId}(hk:Io prog t=.sl e)(hc:prog.cellsOf e=1)(he:Io prog e=.int k)(h:WT prog d t ps):
  ∃l:List Int,ps=[.lst false 1 l.length (Bn k l)]∧l.length<=maxLen∧∀n∈l,(Lit.int k n).wf=true:=by
 obtain⟨rows,rfl,hl,hr⟩:=Avo hk h;obtain⟨l,h1,h2,h3⟩:=Zm (Aod k) (fun n=>(Lit.int k n).wf=true) fun r hrr=>Adk he (hr r hrr).2
 refine⟨l,?_,by omega,h3⟩
 rw[h1,h2,hc]
theorem Agh {p:PV}{k:IntKind}{t e:TypeId}(ha:B2 prog t=false)(hk:Io prog t=.sl e)(hc:prog.cellsOf e=1)(he:Io prog e=.int k)(h:WTv prog t p):
  ∃l:List Int,p=.lst false 1 l.length (Bn k l)∧l.length<=maxLen∧∀n∈l,(Lit.int k n).wf=true:=by
 have h':=Aju (P:=prog) (t:=t) (p:=p) ha h;obtain⟨l,h1,h2,h3⟩:=VV hk hc he h';exact⟨l,by injection h1,h2,h3⟩
end
section
open Go.IntKind (wrap)
theorem Cw:type_of% @Bool.not_true:=@Bool.not_true
theorem Dl:type_of% @Bool.not_false:=@Bool.not_false
theorem AZ:type_of% @Nat.mul_one:=@Nat.mul_one
theorem SF:type_of% @Nat.zero_add:=@Nat.zero_add
theorem Zze:type_of% @List.drop_zero.{0}:=@List.drop_zero
theorem Zzf:type_of% @List.take_of_length_le.{0}:=@List.take_of_length_le
theorem Zzg:type_of% @List.length_append.{0}:=@List.length_append
theorem FM:type_of% @List.length_cons.{0}:=@List.length_cons
theorem Kx:type_of% @Int.toNat_natCast:=@Int.toNat_natCast
theorem Dc:type_of% @if_neg.{1}:=@if_neg
theorem D1:type_of% @if_pos.{1}:=@if_pos
theorem Zzm:type_of% @Bool.true_and:=@Bool.true_and
theorem PE:type_of% @Bool.false_and:=@Bool.false_and
theorem Zzv:type_of% @List.append_assoc.{0}:=@List.append_assoc
end
section
open Go.Proofs.Tryd (prog)
open Go.IntKind (wrap)
set_option maxRecDepth 100000
abbrev Mv:FuncId:=94
theorem Ue {xs:FuncId->Option (List PV->Option Aq)} (fu d:Nat)(a0 a1:Int):Ae (CX xs) prog fu (d+1) Mv [.sc (.int .u64 a0),.sc (.int .u64 a1)]=(fun (call:An)=>A9 (decide (0<=a1))<|Ac (Jw .u64 a0 a1) fun x1=>Ac (wrap .u64 (64-a1)) fun x2=>A9 (decide (0<=x2))<|Ac (AC .u64 a0 x2) fun x3=>Ac (NQ .u64 x1 x3) fun x4=>some (Aq.mk [.sc (.int .u64 x4)] [])) (Ae (CX xs) prog fu d):=by kernel_rfl
abbrev Lk:FuncId:=73
theorem S9 {xs:FuncId->Option (List PV->Option Aq)} (fu d:Nat)(Bp Bm:Int)(H8 Lw:Int):Ae (CX xs) prog fu (d+1) Lk [.agg [.sc (.int .u64 Bp),.sc (.int .u64 Bm),.sc (.int .u64 H8),.sc (.int .u64 Lw)]]=(fun (call:An)=>Ac (wrap .u64 (Bp+Bm)) fun x1=>Ai (call 94 [.sc (.int .u64 Bm),.sc (.int .u64 13)]) fun x2 x3=>Ad x3<|Ab x2 fun x4 x5=>Ak .u64 x4 fun x6=>Ad x5<|Ac (F4 .u64 x6 x1) fun x7=>Ai (call 94 [.sc (.int .u64 x1),.sc (.int .u64 32)]) fun x8 x9=>Ad x9<|Ab x8 fun E2 I3=>Ak .u64 E2 fun J2=>Ad I3<|Ac (wrap .u64 (H8+Lw)) fun E4=>Ai (call 94 [.sc (.int .u64 Lw),.sc (.int .u64 16)]) fun Ha Km=>Ad Km<|Ab Ha fun Hk Ib=>Ak .u64 Hk fun Kp=>Ad Ib<|Ac (F4 .u64 Kp E4) fun Jb=>Ac (wrap .u64 (J2+Jb)) fun Kw=>Ai (call 94 [.sc (.int .u64 Jb),.sc (.int .u64 21)]) fun K7 Lx=>Ad Lx<|Ab K7 fun Jz Lo=>Ak .u64 Jz fun Ld=>Ad Lo<|Ac (F4 .u64 Ld Kw) fun Lt=>Ac (wrap .u64 (E4+x7)) fun Mq=>Ai (call 94 [.sc (.int .u64 x7),.sc (.int .u64 17)]) fun Ow M2=>Ad M2<|Ab Ow fun Ox Pk=>Ak .u64 Ox fun P4=>Ad Pk<|Ac (F4 .u64 P4 Mq) fun Pi=>Ai (call 94 [.sc (.int .u64 Mq),.sc (.int .u64 32)]) fun Ql Qt=>Ad Qt<|Ab Ql fun P7 R0=>Ak .u64 P7 fun Q3=>Ad R0<|some (Aq.mk [.agg [.sc (.int .u64 Kw),.sc (.int .u64 Pi),.sc (.int .u64 Q3),.sc (.int .u64 Lt)]] [])) (Ae (CX xs) prog fu d):=by kernel_rfl
abbrev Ng:FuncId:=53
noncomputable def Es (fu:Nat)(call:An)(a0 a1:Int)(LJ:Nat)(a2:List PV)(nn y0:Nat)(y1:List PV)(y2:Int)(y3:List PV):Option Aq:=Fy CB prog fu call 53 Tryd.f53 (Eb Tryd.f53) [.sc (.int .u64 a0),.sc (.int .u64 a1),.lst false 1 LJ a2] [.r,.r,.l,.r,.l] nn ⟨lk [(2,(.lst false 1 y0 y1)),(7,(.ptr 7 0)),(8,(.sc (.int .i64 y2)))],Ij [(7,(.ar false y3))]⟩
noncomputable def D3 (fu:Nat)(call:An)(a0 a1:Int)(LJ:Nat)(a2:List PV)(m0 nn y0:Nat)(y1:List PV)(y2 y3 y4:Int)(y5:List PV):Option Aq:=Fy CB prog fu call 53 Tryd.f53 (Eb Tryd.f53) [.sc (.int .u64 a0),.sc (.int .u64 a1),.lst false 1 LJ a2] [.r,.r,.l,.r,.l,.i m0,.r,.l,.l,.r,.l,.r,.l] nn ⟨lk [(2,(.lst false 1 y0 y1)),(7,(.ptr 7 0)),(8,(.sc (.int .i64 y2))),(9,(.sc (.int .u64 y3))),(10,(.sc (.int .i64 y4)))],Ij [(7,(.ar false y5))]⟩
theorem Kg (fu:Nat)(call:An)(a0 a1:Int)(LJ:Nat)(a2:List PV)(nn y0:Nat)(y1:List PV)(y2:Int)(y3:List PV):Es fu call a0 a1 LJ a2 (nn+1) y0 y1 y2 y3=(Ba (decide (y2<=(↑y0:Int))) (D3 fu call a0 a1 LJ a2 nn (fu) (y0) (y1) (y2) 0 7 (y3)) (Ak .u64 (List.getD y3 2 .top) fun x5=>Ac (F4 .u64 x5 255) fun x6=>A9 (decide (3<=y3.length))<|Ac (Ce y3 [.sc (.int .u64 x6)] 2) fun x7=>Ak .u64 (List.getD x7 0 .top) fun x8=>Ak .u64 (List.getD x7 1 .top) fun x9=>Ak .u64 (List.getD x7 2 .top) fun E2=>Ak .u64 (List.getD x7 3 .top) fun I3=>Ai (call 73 [.agg [.sc (.int .u64 x8),.sc (.int .u64 x9),.sc (.int .u64 E2),.sc (.int .u64 I3)]]) fun J2 E4=>Ad E4<|Ab J2 fun Ha Km=>Fw Ha fun Hk=>Ab Hk fun Ib Kp=>Ak .u64 Ib fun Jb=>Ab Kp fun Kw K7=>Ak .u64 Kw fun Lx=>Ab K7 fun Jz Lo=>Ak .u64 Jz fun Ld=>Ab Lo fun Lt Mq=>Ak .u64 Lt fun Ow=>Ad Mq<|Ad Km<|Ai (call 73 [.agg [.sc (.int .u64 Jb),.sc (.int .u64 Lx),.sc (.int .u64 Ld),.sc (.int .u64 Ow)]]) fun M2 Ox=>Ad Ox<|Ab M2 fun Pk P4=>Fw Pk fun Pi=>Ab Pi fun Ql Qt=>Ak .u64 Ql fun P7=>Ab Qt fun R0 Q3=>Ak .u64 R0 fun Pn=>Ab Q3 fun W0 X8=>Ak .u64 W0 fun Pq=>Ab X8 fun Qp Wb=>Ak .u64 Qp fun Wa=>Ad Wb<|Ad P4<|Ai (call 73 [.agg [.sc (.int .u64 P7),.sc (.int .u64 Pn),.sc (.int .u64 Pq),.sc (.int .u64 Wa)]]) fun Z2 Zq=>Ad Zq<|Ab Z2 fun Zr Xk=>Fw Zr fun Xn=>Ab Xn fun Zi N1=>Ak .u64 Zi fun Q8=>Ab N1 fun X5 FB=>Ak .u64 X5 fun BG=>Ab FB fun Zw Zu=>Ak .u64 Zw fun GA=>Ab Zu fun II JO=>Ak .u64 II fun NU=>Ad JO<|Ad Xk<|Ai (call 73 [.agg [.sc (.int .u64 Q8),.sc (.int .u64 BG),.sc (.int .u64 GA),.sc (.int .u64 NU)]]) fun TQ SD=>Ad SD<|Ab TQ fun NS QJ=>Fw NS fun NJ=>Ab NJ fun QH SI=>Ak .u64 QH fun NW=>Ab SI fun NO LI=>Ak .u64 NO fun GL=>Ab LI fun NP TH=>Ak .u64 NP fun ZN=>Ab TH fun x77 WQ=>Ak .u64 x77 fun ZA=>Ad WQ<|Ad QJ<|A9 (decide (4<=x7.length))<|Ac (Ce x7 [.sc (.int .u64 NW),.sc (.int .u64 GL),.sc (.int .u64 ZN),.sc (.int .u64 ZA)] 0) fun RT=>Ak .u64 (List.getD RT 0 .top) fun YE=>Ak .u64 (List.getD RT 1 .top) fun x82=>Ac (F4 .u64 YE x82) fun x83=>Ak .u64 (List.getD RT 2 .top) fun VE=>Ac (F4 .u64 x83 VE) fun WO=>Ak .u64 (List.getD RT 3 .top) fun x86=>Ac (F4 .u64 WO x86) fun ZH=>some (Aq.mk [.sc (.int .u64 ZH)] []))):=by kernel_rfl
theorem J9 (fu:Nat)(call:An)(a0 a1:Int)(LJ:Nat)(a2:List PV)(m0 nn y0:Nat)(y1:List PV)(y2 y3 y4:Int)(y5:List PV):D3 fu call a0 a1 LJ a2 m0 (nn+1) y0 y1 y2 y3 y4 y5=(Ba (decide (y4>=0)) (Ac (wrap .i64 (y2+y4)) fun UG=>Ba (decide (UG<(↑y0:Int))) (Ac (wrap .i64 (y2+y4)) fun XB=>A9 (decide (0<=XB)&&decide (XB<(↑y0:Int)))<|Ak .u8 (List.getD y1 (Int.toNat XB*1) .top) fun x90=>Ac (Jw .u64 y3 8) fun WJ=>Ac (wrap .u64 x90) fun WW=>Ac (NQ .u64 WJ WW) fun x93=>Ac (wrap .i64 (y4-1)) fun WK=>D3 fu call a0 a1 LJ a2 m0 (nn) (y0) (y1) (y2) x93 WK (y5)) (Ba (y4==7) (Ac (wrap .u8 (↑y0:Int)) fun YO=>Ac (Jw .u64 y3 8) fun x96=>Ac (wrap .u64 YO) fun VJ=>Ac (NQ .u64 x96 VJ) fun x98=>Ac (wrap .i64 (y4-1)) fun ZM=>D3 fu call a0 a1 LJ a2 m0 (nn) (y0) (y1) (y2) x98 ZM (y5)) (Ac (Jw .u64 y3 8) fun Tc=>Ac (NQ .u64 Tc 0) fun Xf=>Ac (wrap .i64 (y4-1)) fun Vv=>D3 fu call a0 a1 LJ a2 m0 (nn) (y0) (y1) (y2) Xf Vv (y5)))) (Ak .u64 (List.getD y5 3 .top) fun Yd=>Ac (F4 .u64 Yd y3) fun Yb=>A9 (decide (4<=y5.length))<|Ac (Ce y5 [.sc (.int .u64 Yb)] 3) fun Qu=>Ak .u64 (List.getD Qu 0 .top) fun Wp=>Ak .u64 (List.getD Qu 1 .top) fun Ws=>Ak .u64 (List.getD Qu 2 .top) fun Zs=>Ak .u64 (List.getD Qu 3 .top) fun DE=>Ai (call 73 [.agg [.sc (.int .u64 Wp),.sc (.int .u64 Ws),.sc (.int .u64 Zs),.sc (.int .u64 DE)]]) fun AF EB=>Ad EB<|Ab AF fun HC Z3=>Fw HC fun EW=>Ab EW fun HI FK=>Ak .u64 HI fun BQ=>Ab FK fun FG Wc=>Ak .u64 FG fun V3=>Ab Wc fun EI FU=>Ak .u64 EI fun Xc=>Ab FU fun CO DG=>Ak .u64 CO fun AL=>Ad DG<|Ad Z3<|Ai (call 73 [.agg [.sc (.int .u64 BQ),.sc (.int .u64 V3),.sc (.int .u64 Xc),.sc (.int .u64 AL)]]) fun AK AB=>Ad AB<|Ab AK fun V2 Zz=>Fw V2 fun EX=>Ab EX fun FD CA=>Ak .u64 FD fun DY=>Ab CA fun DM DD=>Ak .u64 DM fun EF=>Ab DD fun HK ES=>Ak .u64 HK fun Z4=>Ab ES fun GZ CW=>Ak .u64 GZ fun U6=>Ad CW<|Ad Zz<|A9 (decide (4<=Qu.length))<|Ac (Ce Qu [.sc (.int .u64 DY),.sc (.int .u64 EF),.sc (.int .u64 Z4),.sc (.int .u64 U6)] 0) fun Yr=>Ak .u64 (List.getD Yr 0 .top) fun FC=>Ac (F4 .u64 FC y3) fun Z5=>A9 (decide (1<=Yr.length))<|Ac (Ce Yr [.sc (.int .u64 Z5)] 0) fun AM=>Ac (wrap .i64 (y2+8)) fun AJ=>Es fu call a0 a1 LJ a2 (m0) (y0) (y1) AJ AM)):=by kernel_rfl
theorem Ww {xs:FuncId->Option (List PV->Option Aq)} (fu d:Nat)(a0 a1:Int)(LJ:Nat)(a2:List PV):Ae (CX xs) prog fu (d+1) Ng [.sc (.int .u64 a0),.sc (.int .u64 a1),.lst false 1 LJ a2]=(fun (call:An)=>Ac (F4 .u64 a0 8317987319222330741) fun x1=>Ac (F4 .u64 a1 7237128888997146477) fun x2=>Ac (F4 .u64 a0 7816392313619706465) fun x3=>Ac (F4 .u64 a1 8387220255154660723) fun x4=>Es fu call a0 a1 LJ a2 (fu) (LJ) (a2) 0 ([.sc (.int .u64 x1),.sc (.int .u64 x2),.sc (.int .u64 x3),.sc (.int .u64 x4)])) (Ae (CX xs) prog fu d):=by kernel_rfl
abbrev Nj:FuncId:=61
theorem Wv {xs:FuncId->Option (List PV->Option Aq)} (fu d:Nat)(a0 a1:Int)(LJ:Nat)(a2:List PV):Ae (CX xs) prog fu (d+1) Nj [.sc (.int .u64 a0),.sc (.int .i64 a1),.lst false 1 LJ a2]=(fun (call:An)=>Ac (wrap .u64 a1) fun x1=>Ac (wrap .u64 (1+x1)) fun x2=>Ai (call 53 [.sc (.int .u64 a0),.sc (.int .u64 x2),.lst false 1 LJ a2]) fun x3 x4=>Ad x4<|Ab x3 fun x5 x6=>Ak .u64 x5 fun x7=>Ad x6<|some (Aq.mk [.sc (.int .u64 x7)] [])) (Ae (CX xs) prog fu d):=by kernel_rfl
abbrev Fg:FuncId:=60
noncomputable def Ed (fu:Nat)(call:An)(Lf:Nat)(a0:List PV)(nn y0:Nat)(y1:List PV)(y2:Nat)(y3:Int)(y4:List PV):Option Aq:=Fy CB prog fu call 60 Tryd.f60 (Eb Tryd.f60) [.lst false 1 Lf a0] [.r,.r,.l,.r,.l] nn ⟨lk [(0,(.lst false 1 y0 y1)),(3,(.view 3 1 0 y2)),(4,(.sc (.int .i64 y3)))],Ij [(3,(.ar false y4))]⟩
noncomputable def Fa (fu:Nat)(call:An)(Lf:Nat)(a0:List PV)(m0 nn y0:Nat)(y1:List PV)(y2:Nat)(y3 y4:Int)(y5:List PV):Option Aq:=Fy CB prog fu call 60 Tryd.f60 (Eb Tryd.f60) [.lst false 1 Lf a0] [.r,.r,.l,.r,.l,.i m0,.r,.l,.l,.r,.l] nn ⟨lk [(0,(.lst false 1 y0 y1)),(3,(.view 3 1 0 y2)),(4,(.sc (.int .i64 y3))),(5,(.sc (.int .i64 y4)))],Ij [(3,(.ar false y5))]⟩
theorem Ig (fu:Nat)(call:An)(Lf:Nat)(a0:List PV)(nn y0:Nat)(y1:List PV)(y2:Nat)(y3:Int)(y4:List PV):Ed fu call Lf a0 (nn+1) y0 y1 y2 y3 y4=(Ba (decide (y3<(↑y0:Int))) (Fa fu call Lf a0 nn (fu) (y0) (y1) (y2) (y3) 7 (y4)) (A9 (decide (y2*1<=y4.length))<|some (Aq.mk [.own 1 y2 (List.take (y2*1) y4)] []))):=by kernel_rfl
theorem Im (fu:Nat)(call:An)(Lf:Nat)(a0:List PV)(m0 nn y0:Nat)(y1:List PV)(y2:Nat)(y3 y4:Int)(y5:List PV):Fa fu call Lf a0 m0 (nn+1) y0 y1 y2 y3 y4 y5=(Ba (decide (y4>=0)) (A9 (decide (0<=y3)&&decide (y3<(↑y0:Int)))<|Ak .u64 (List.getD y1 (Int.toNat y3*1) .top) fun x1=>Ac (wrap .i64 (8*y4)) fun x2=>Ac (wrap .u64 x2) fun x3=>A9 (decide (0<=x3))<|Ac (AC .u64 x1 x3) fun x4=>Ac (wrap .u8 x4) fun x5=>A9 (decide (y2*1<=y5.length)&&true&&decide ((y2+1)*1<=1099511627776)&&decide (y2+1<=1099511627776))<|Ac (y2+1) fun x6=>Ac (List.take (y2*1) y5++[.sc (.int .u8 x5)]) fun x7=>Ac (wrap .i64 (y4-1)) fun x8=>Fa fu call Lf a0 m0 (nn) (y0) (y1) x6 (y3) x8 x7) (Ac (wrap .i64 (y3+1)) fun x9=>Ed fu call Lf a0 (m0) (y0) (y1) (y2) x9 (y5))):=by kernel_rfl
theorem S1 {xs:FuncId->Option (List PV->Option Aq)} (fu d Lf:Nat)(a0:List PV):Ae (CX xs) prog fu (d+1) Fg [.lst false 1 Lf a0]=(fun (call:An)=>Ed fu call Lf a0 (fu) (Lf) (a0) 0 0 ([])) (Ae (CX xs) prog fu d):=by kernel_rfl
end
section
open Go.IntKind (wrap)
def rot (x k:Int):Int:=NQ .u64 (Jw .u64 x k) (AC .u64 x (64-k))
structure W4 where
 a:Int
 b:Int
 c:Int
 d:Int
def W4.cells (v:W4):List PV:=[.sc (.int .u64 v.a),.sc (.int .u64 v.b),.sc (.int .u64 v.c),.sc (.int .u64 v.d)]
def A6k (v:W4):W4:=⟨rot (wrap .u64 (v.a+v.b)) 32,F4 .u64 (rot v.b 13) (wrap .u64 (v.a+v.b)),wrap .u64 (v.c+v.d),F4 .u64 (rot v.d 16) (wrap .u64 (v.c+v.d))⟩
def A6l (v:W4):W4:=⟨wrap .u64 (v.a+v.d),F4 .u64 (rot v.b 17) (wrap .u64 (v.c+v.b)),rot (wrap .u64 (v.c+v.b)) 32,F4 .u64 (rot v.d 21) (wrap .u64 (v.a+v.d))⟩
def HA (v:W4):W4:=A6l (A6k v)
def An4:Nat->W4->W4
 |0,v=>v
 |n+1,v=>An4 n (HA v)
def As3 (r:W4)(m:Int):W4:=⟨F4 .u64 r.a m,r.b,r.c,r.d⟩
def QB (v:W4)(m:Int):W4:=As3 (An4 2 ⟨v.a,v.b,v.c,F4 .u64 v.d m⟩) m
def Uv:List Int->Int
 |[]=>0
 |b::r=>b+256*Uv r
def ZB:Nat->W4->List Int->W4
 |0,v,_=>v
 |n+1,v,l=>ZB n (QB v (Uv (l.take 8))) (l.drop 8)
def At1 (k0 k1:Int):W4:=⟨F4 .u64 k0 8317987319222330741,F4 .u64 k1 7237128888997146477,F4 .u64 k0 7816392313619706465,F4 .u64 k1 8387220255154660723⟩
def Anx (v:W4):W4:=An4 4 ⟨v.a,v.b,F4 .u64 v.c 255,v.d⟩
def Alw (v:W4):Int:=F4 .u64 (F4 .u64 (F4 .u64 v.a v.b) v.c) v.d
def KK (l:List Int):Int:=Uv (l.drop (8*(l.length / 8)))+72057594037927936*((l.length:Int) % 256)
def Auf (k0 k1:Int)(l:List Int):Int:=Alw (Anx (QB (ZB (l.length / 8) (At1 k0 k1) l) (KK l)))
def Av3 (key dom:Int)(l:List Int):Int:=Auf key (wrap .u64 (1+wrap .u64 dom)) l
def Ct (l:List Int):Prop:=∀b∈l,0<=b∧b<=255
theorem ET:∀{l:List Int},Ct l->0<=Uv l∧Uv l<256 ^ l.length
 |[],_=>by simp[Uv]
 |b::r,h=>by
  have h1:=h b (by simp)
  have h2:=ET (l:=r) fun x hx=>h x (by simp[hx])
  have h3:(256:Int) ^ (b::r).length=256 ^ r.length*256:=by rw[FM,Int.pow_succ]
  simp only[Uv];omega
theorem FL:∀(l r:List Int),Uv (l++r)=Uv l+256 ^ l.length*Uv r
 |[],r=>by simp[Uv]
 |b::l,r=>by
  have ih:=FL l r;simp only[List.cons_append,Uv,FM,Int.pow_succ];rw[ih,Int.mul_add];have:(256:Int)*(256 ^ l.length*Uv r)=256 ^ l.length*256*Uv r:=by rw[←Int.mul_assoc,Int.mul_comm 256]
  omega
theorem LZ {a c:Int}(k b:Nat)(h0:0<=a)(h1:a<((2 ^ k:Nat):Int)) (hc:c=((b*2 ^ k:Nat):Int)) (h:a+c<=18446744073709551615):NQ .u64 a c=a+c∧NQ .u64 c a=a+c:=by
 obtain⟨n,rfl⟩:=Int.eq_ofNat_of_zero_le h0;subst hc;have hn:n<2 ^ k:=by omega
 generalize hB:b*2 ^ k=m at h
 have e4:(BitVec.ofInt 64 (n:Int)).toNat=n:=by
  rw[BitVec.toNat_ofInt];omega
 have e5:(BitVec.ofInt 64 (m:Int)).toNat=m:=by
  rw[BitVec.toNat_ofInt];omega
 have e6:m ||| n=m+n:=by
  have:=Nat.shiftLeft_add_eq_or_of_lt hn b;rw[Nat.shiftLeft_eq,hB] at this;exact this.symm
 constructor
 ·show wrap .u64 ((BitVec.ofInt 64 (n:Int) ||| BitVec.ofInt 64 (m:Int)).toNat:Int)=_;rw[BitVec.toNat_or,e4,e5,Nat.or_comm,e6,Ep (by omega) (by omega)]
  omega
 ·show wrap .u64 ((BitVec.ofInt 64 (m:Int) ||| BitVec.ofInt 64 (n:Int)).toNat:Int)=_;rw[BitVec.toNat_or,e4,e5,e6,Ep (by omega) (by omega)]
  omega
theorem MD {a k:Int}(h0:0<=a)(hk:0<=k)(Ky:k<=64)(h:a*((2 ^ k.toNat:Nat):Int)<=18446744073709551615):Jw .u64 a k=a*((2 ^ k.toNat:Nat):Int):=by
 show wrap .u64 (a*2 ^ (min k.toNat IntKind.u64.bits))=_;have e:min k.toNat IntKind.u64.bits=k.toNat:=Nat.min_eq_left (by show k.toNat<=64;omega)
 have e2:(2:Int) ^ k.toNat=((2 ^ k.toNat:Nat):Int):=by simp
 rw[e,e2,Ep (Int.mul_nonneg h0 (Int.natCast_nonneg _)) h]
end
section
open Go.Proofs.Tryd (prog)
open Go.IntKind (wrap)
section
variable {fu d:Nat} {xs:FuncId->Option (List PV->Option Aq)}
theorem Ag9 {x k:Int}(hk:k=13∨k=16∨k=17∨k=21∨k=32):Ae (CX xs) prog fu (d+1) Mv [.sc (.int .u64 x),.sc (.int .u64 k)]=some ⟨[.sc (.int .u64 (rot x k))],[]⟩:=by
 rw[Ue];rcases hk with rfl|rfl|rfl|rfl|rfl<;>kernel_rfl
theorem L5 (k:IntKind)(l:List Int)(i:Nat):List.take i (Bn k l)=Bn k (l.take i):=by
 have:=WE (FR k) l i
 simpa using this
theorem Ct.drop {l:List Int}(h:Ct l)(i:Nat):Ct (l.drop i):=fun x hx=>h x (List.mem_of_mem_drop hx)
theorem Ct.take {l:List Int}(h:Ct l)(i:Nat):Ct (l.take i):=fun x hx=>h x (List.mem_of_mem_take hx)
theorem L4 (v:W4):Ae (CX xs) prog fu (d+2) Lk [.agg [.sc (.int .u64 v.a),.sc (.int .u64 v.b),.sc (.int .u64 v.c),.sc (.int .u64 v.d)]]=some ⟨[.agg (HA v).cells],[]⟩:=by
 have r13:=fun x=>Ag9 (xs:=xs) (fu:=fu) (d:=d) (x:=x) (k:=13) (by simp)
 have r16:=fun x=>Ag9 (xs:=xs) (fu:=fu) (d:=d) (x:=x) (k:=16) (by simp)
 have r17:=fun x=>Ag9 (xs:=xs) (fu:=fu) (d:=d) (x:=x) (k:=17) (by simp)
 have r21:=fun x=>Ag9 (xs:=xs) (fu:=fu) (d:=d) (x:=x) (k:=21) (by simp)
 have r32:=fun x=>Ag9 (xs:=xs) (fu:=fu) (d:=d) (x:=x) (k:=32) (by simp)
 rw[S9];simp (disch:=omega) only[B0,r13,r16,r17,r21,r32];rfl
def Qy (l:List Int)(i k:Nat):Int:=if i+k<l.length then l.getD (i+k) 0 else if k=7 then (l.length:Int) % 256 else 0
def pc (l:List Int)(i:Nat):List Int:=(List.range 8).map (Qy l i)
theorem A52 {l:List Int}(hb:Ct l)(i:Nat):Ct (pc l i):=by
 intro x hx;obtain⟨k,hk,rfl⟩:=List.mem_map.1 hx;unfold Qy;split
 ·rename_i h;rw[List.getD_eq_getElem?_getD,List.getElem?_eq_getElem h];exact hb _ (List.getElem_mem h)
 ·split<;>omega
theorem Aje {l:List Int}{i:Nat}(h:i+8<=l.length):pc l i=(l.drop i).take 8:=by
 refine List.ext_getElem (by simp[pc];omega) fun k h1 h2=>?_
 have hk:k<8:=by simpa [pc] using h1
 simp only[pc,List.getElem_map,List.getElem_range,List.getElem_take,List.getElem_drop,Qy];rw[D1 (by omega),List.getD_eq_getElem?_getD,List.getElem?_eq_getElem (by omega)]
 rfl
theorem HS (x:Int):∀n,Uv (List.replicate n 0++[x])=256 ^ n*x
 |0=>by simp[Uv]
 |n+1=>by
  rw[List.replicate_succ,List.cons_append,Uv,HS x n,Int.pow_succ,Int.mul_comm (256 ^ n) 256,Int.mul_assoc];omega
theorem Ajc {l:List Int}:Uv (pc l (8*(l.length / 8)))=KK l:=by
 have e:pc l (8*(l.length / 8))=l.drop (8*(l.length / 8))++(List.replicate (7-(l.length-8*(l.length / 8))) 0++[(l.length:Int) % 256]):=by
  refine List.ext_getElem (by simp[pc];omega) fun k h1 h2=>?_
  have hk:k<8:=by simpa [pc] using h1
  simp only[pc,List.getElem_map,List.getElem_range,Qy];by_cases hc:8*(l.length / 8)+k<l.length
  ·rw[D1 hc,List.getElem_append_left (by rw[List.length_drop];omega),List.getElem_drop,List.getD_eq_getElem?_getD,List.getElem?_eq_getElem hc]
   rfl
  ·rw[Dc hc,List.getElem_append_right (by rw[List.length_drop];omega)]
   by_cases h7:k=7
   ·rw[D1 h7,List.getElem_append_right (by simp;omega)]
    simp
   ·rw[Dc h7,List.getElem_append_left (by simp;omega)]
    simp
 rw[e,FL,HS];unfold KK
 have:(256:Int) ^ (l.drop (8*(l.length / 8))).length*(256 ^ (7-(l.length-8*(l.length / 8)))*((l.length:Int) % 256))=72057594037927936*((l.length:Int) % 256):=by
  rw[←Int.mul_assoc,←Int.pow_add,List.length_drop];have:l.length-8*(l.length / 8)+(7-(l.length-8*(l.length / 8)))=7:=by omega
  rw[this];rfl
 rw[this]
theorem Aua {a b:Int}(ha:0<=a)(ha':a<72057594037927936)(hb:0<=b)(Hf:b<=255):NQ .u64 (Jw .u64 a 8) b=b+256*a:=by
 obtain⟨n,rfl⟩:=Int.eq_ofNat_of_zero_le ha
 have hs:Jw .u64 (n:Int) 8=((n*2 ^ 8:Nat):Int):=by
  have:=MD (a:=(n:Int)) (k:=8) (by omega) (by omega) (by omega) (by
   have:(2 ^ (8:Int).toNat:Nat)=256:=by decide
   rw[this];omega)
  rw[this];have:(2 ^ (8:Int).toNat:Nat)=256:=by decide
  rw[this];have:(2 ^ 8:Nat)=256:=by decide
  rw[this];omega
 have h8:(2 ^ 8:Nat)=256:=by decide
 rw[hs,(LZ (a:=b) 8 n hb (by rw[h8];omega) rfl (by rw[h8];omega)).2,h8]
 omega
theorem WP {a0 a1:Int}{n m0:Nat}{c:List PV}{l:List Int}(hb:Ct l)(hl:l.length<=1099511627776){i:Nat}(hi:i<=l.length)(v:W4):∀(j nn:Nat),j<=8->j<nn ->
  D3 fu (Ae (CX xs) prog fu (d+2)) a0 a1 n c m0 nn l.length (Bn .u8 l) i (Uv ((pc l i).drop j)) ((j:Int)-1) v.cells =
   Es fu (Ae (CX xs) prog fu (d+2)) a0 a1 n c m0 l.length (Bn .u8 l) ((i+8:Nat):Int) (QB v (Uv (pc l i))).cells
 |_,0,_,h=>by omega
 |0,nn+1,hj,hn=>by
  have w8:wrap .i64 ((i:Int)+8)=((i+8:Nat):Int):=by rw[Az (by omega) (by omega)];omega
  have r1:=L4 (xs:=xs) (fu:=fu) (d:=d) ⟨v.a,v.b,v.c,F4 .u64 v.d (Uv (pc l i))⟩;have r2:=L4 (xs:=xs) (fu:=fu) (d:=d) (HA ⟨v.a,v.b,v.c,F4 .u64 v.d (Uv (pc l i))⟩);have eA:QB v (Uv (pc l i))=As3 (HA (HA ⟨v.a,v.b,v.c,F4 .u64 v.d (Uv (pc l i))⟩)) (Uv (pc l i)):=rfl;rw[eA];generalize HA ⟨v.a,v.b,v.c,F4 .u64 v.d (Uv (pc l i))⟩=U at r1 r2 ⊢;generalize HA U=U2 at r2 ⊢;simp only[W4.cells] at r1 r2;rw[J9,DC _ _ _ (by omega),Zze]
  simp only[W4.cells,List.getD_cons_zero,List.getD_cons_succ,FE,Md];simp (disch:=first|omega|(simp;done)) only[B0,Ce,List.take_succ_cons,List.take_zero,List.drop_succ_cons,Zze,List.drop_nil,List.cons_append,List.nil_append,List.append_nil,FM,List.length_nil,List.getD_cons_zero,List.getD_cons_succ,r1,r2,w8,SF,Nat.reduceAdd,Nat.reduceLeDiff,List.append_eq]
  rfl
 |j+1,nn+1,hj,hn=>by
  have ih:=WP (a0:=a0) (a1:=a1) (n:=n) (m0:=m0) (c:=c) hb hl hi v j nn (by omega) (by omega)
  have hw:wrap .i64 ((i:Int)+(((j+1:Nat):Int)-1))=((i+j:Nat):Int):=by rw[Az (by omega) (by omega)];omega
  have wj:wrap .i64 (((j+1:Nat):Int)-1-1)=(j:Int)-1:=by rw[Az (by omega) (by omega)];omega
  have hd:(pc l i).drop j=Qy l i j::(pc l i).drop (j+1):=by
   rw[List.drop_eq_getElem_cons (by simp[pc];omega)]
   simp[pc]
  have hB:=A52 hb i;have hbn:=ET (hB.drop (j+1))
  have hp7:(256:Int) ^ ((pc l i).drop (j+1)).length<=72057594037927936:=by
   have Cz:((pc l i).drop (j+1)).length<=7:=by simp[pc]
   have:(256:Nat) ^ ((pc l i).drop (j+1)).length<=256 ^ 7:=Nat.pow_le_pow_right (by omega) Cz
   have h2:(((256:Nat) ^ ((pc l i).drop (j+1)).length:Nat):Int)<=((256 ^ 7:Nat):Int):=by omega
   simpa using h2
  have hc0:0<=Qy l i j∧Qy l i j<=255:=hB _ (by rw[←Zze (l:=pc l i)];exact List.mem_of_mem_drop (i:=j) (by rw[Zze,hd];simp))
  have hj2:NQ .u64 (Jw .u64 (Uv ((pc l i).drop (j+1))) 8) (Qy l i j)=Uv ((pc l i).drop j):=by
   rw[Aua hbn.1 (by omega) hc0.1 hc0.2,hd]
   rfl
  have wc:wrap .u64 (Qy l i j)=Qy l i j:=Ep (by omega) (by omega)
  rw[J9,ER _ _ _ (by omega)]
  simp only[Md,hw];by_cases c1:i+j<l.length
  ·have e:Qy l i j=l.getD (i+j) 0:=by unfold Qy;rw[D1 c1]
   have e2:l[i+j]?=some (Qy l i j):=by rw[e,List.getD_eq_getElem?_getD,List.getElem?_eq_getElem c1];rfl
   rw[ER _ _ _ (by omega)]
   simp (disch:=omega) only[B0,Kx,AZ,ati e2,wc,hj2,wj];exact ih
  ·rw[DC _ _ _ (by omega)]
   by_cases h7:j=7
   ·subst h7;have e:Qy l i 7=(l.length:Int) % 256:=by unfold Qy;rw[Dc c1,D1 rfl]
    have e8:wrap .u8 (l.length:Int)=Qy l i 7:=by
     rw[e];simp only[wrap,IntKind.signed,IntKind.bits];simp
    rw[WY,D1 (by omega),e8,wc,hj2,wj]
    exact ih
   ·have e:Qy l i j=0:=by unfold Qy;rw[Dc c1,Dc h7]
    rw[e] at hj2;rw[WY,Dc (by omega),hj2,wj]
    exact ih
theorem JM {a0 a1:Int}{n:Nat}{c:List PV}{l:List Int}(hb:Ct l)(hl:l.length<=1099511627776)(Ei:100<=fu):∀(k i nn:Nat)(v:W4),i+k=l.length / 8->k+1<nn ->
  Es fu (Ae (CX xs) prog fu (d+2)) a0 a1 n c nn l.length (Bn .u8 l) ((8*i:Nat):Int) v.cells=some ⟨[.sc (.int .u64 (Alw (Anx (QB (ZB k v (l.drop (8*i))) (KK l)))))],[]⟩
 |_,_,0,_,_,h=>by omega
 |k,i,nn+1,v,hi,hn=>by
  have step:=WP (xs:=xs) (fu:=fu) (d:=d) (a0:=a0) (a1:=a1) (n:=n) (m0:=nn) (c:=c) hb hl (i:=8*i) (by omega) v 8 fu (by omega) (by omega)
  have e0:Uv ((pc l (8*i)).drop 8)=0:=by rw[List.drop_of_length_le (by simp[pc])];rfl
  rw[e0] at step;rw[Kg,ER _ _ _ (by omega)]
  refine step.trans ?_;cases k with
  |zero=>
   have e:i=l.length / 8:=by omega
   subst e;rw[Ajc];generalize hv:QB v (KK l)=u;obtain⟨nn',rfl⟩:∃nn',nn=nn'+1:=⟨nn-1,by omega⟩
   have r1:=L4 (xs:=xs) (fu:=fu) (d:=d) ⟨u.a,u.b,F4 .u64 u.c 255,u.d⟩;have r2:=L4 (xs:=xs) (fu:=fu) (d:=d) (HA ⟨u.a,u.b,F4 .u64 u.c 255,u.d⟩);have r3:=L4 (xs:=xs) (fu:=fu) (d:=d) (HA (HA ⟨u.a,u.b,F4 .u64 u.c 255,u.d⟩));have r4:=L4 (xs:=xs) (fu:=fu) (d:=d) (HA (HA (HA ⟨u.a,u.b,F4 .u64 u.c 255,u.d⟩)))
   have eF:Alw (Anx (QB (ZB 0 v (l.drop (8*(l.length / 8)))) (KK l)))=Alw (HA (HA (HA (HA ⟨u.a,u.b,F4 .u64 u.c 255,u.d⟩)))):=by
    rw[ZB,hv];rfl
   rw[eF];clear eF;generalize HA ⟨u.a,u.b,F4 .u64 u.c 255,u.d⟩=U1 at r1 r2 r3 r4 ⊢;generalize HA U1=U2 at r2 r3 r4 ⊢;generalize HA U2=U3 at r3 r4 ⊢;generalize HA U3=U4 at r4 ⊢;simp only[W4.cells] at r1 r2 r3 r4;rw[Kg,DC _ _ _ (by omega)]
   simp only[W4.cells,List.getD_cons_zero,List.getD_cons_succ,FE,Md];simp (disch:=first|omega|(simp;done)) only[B0,Ce,List.take_succ_cons,List.take_zero,List.drop_succ_cons,Zze,List.drop_nil,List.cons_append,List.nil_append,List.append_nil,FM,List.length_nil,List.getD_cons_zero,List.getD_cons_succ,r1,r2,r3,r4,SF,Nat.reduceAdd,Nat.reduceLeDiff,List.append_eq]
   rfl
  |succ k=>
   have ih:=JM (a0:=a0) (a1:=a1) (n:=n) (c:=c) hb hl Ei k (i+1) nn (QB v (Uv (pc l (8*i)))) (by omega) (by omega)
   rw[show 8*i+8=8*(i+1) by omega,ih,Aje (by omega)]
   simp only[ZB,List.drop_drop];rw[show 8*(i+1)=8*i+8 by omega]
theorem Alp {l:List Int}(hb:Ct l)(hl:l.length<=1099511627776)(Ei:100<=fu)(hf:l.length<fu)(k0 k1:Int):Ae (CX xs) prog fu (d+3) Ng [.sc (.int .u64 k0),.sc (.int .u64 k1),.lst false 1 l.length (Bn .u8 l)]=some ⟨[.sc (.int .u64 (Auf k0 k1 l))],[]⟩:=by
 rw[Ww];exact JM (xs:=xs) (fu:=fu) (d:=d) (a0:=k0) (a1:=k1) (n:=l.length) (c:=Bn .u8 l) hb hl Ei (l.length / 8) 0 fu (At1 k0 k1) (by omega) (by omega)
theorem Ajv {l:List Int}(hb:Ct l)(hl:l.length<=1099511627776)(Ei:100<=fu)(hf:l.length<fu)(key dom:Int):Ae (CX xs) prog fu (d+4) Nj [.sc (.int .u64 key),.sc (.int .i64 dom),.lst false 1 l.length (Bn .u8 l)]=some ⟨[.sc (.int .u64 (Av3 key dom l))],[]⟩:=by
 rw[Wv];have s:=Alp (xs:=xs) (fu:=fu) (d:=d) hb hl Ei hf key (wrap .u64 (1+wrap .u64 dom));simp only[B0,s];rfl
end
end
section
open Go.Proofs.Tryd (prog)
open Go.IntKind (wrap)
def Qc (w:Int)(k:Nat):Int:=wrap .u8 (AC .u64 w (56-8*(k:Int)))
def Oj (w:Int):List Int:=(List.range' 0 8).map (Qc w)
def F5 (ws:List Int):List Int:=ws.flatMap Oj
theorem Jp (w:Int):(Oj w).length=8:=rfl
section
variable {fu d:Nat} {xs:FuncId->Option (List PV->Option Aq)} {call:An} {n:Nat} {c:List PV}
theorem KE {ws:List Int}{w:Int}{m0 i:Nat}(hw:ws[i]?=some w):∀(r nn:Nat)(j:Int)(bs:List Int),j=(r:Int)-1->r<=8->r<nn->bs.length+r<=34359738368 ->
  Fa fu call n c m0 nn ws.length (Bn .u64 ws) bs.length i j (Bn .u8 bs) =
   Ed fu call n c m0 ws.length (Bn .u64 ws) (bs++(List.range' (8-r) r).map (Qc w)).length (wrap .i64 (i+1)) (Bn .u8 (bs++(List.range' (8-r) r).map (Qc w)))
 |r,0,j,bs,_,_,h,_=>by omega
 |0,nn+1,j,bs,hr,_,_,_=>by
  rw[Im];simp (disch:=omega) only[B0];simp
 |r+1,nn+1,j,bs,hr,Y0,hn,hb=>by
  have hi:=Aoo hw;have ih:=KE (m0:=m0) hw r nn (j-1) (bs++[Qc w (8-(r+1))]) (by omega) (by omega) (by omega) (by simp;omega)
  have e8:=D9 .u8 bs
  have hx:wrap .u8 (AC .u64 w (wrap .u64 (wrap .i64 (8*j))))=Qc w (8-(r+1)):=by
   rw[Az (by omega) (by omega),Ep (by omega) (by omega)]
   unfold Qc;rw[show 56-8*((8-(r+1):Nat):Int)=8*j by omega]
  have h0:0<=wrap .u64 (wrap .i64 (8*j)):=by
   rw[Az (by omega) (by omega),Ep (by omega) (by omega)]
   omega
  have Aq8:List.range' (8-(r+1)) (r+1)=(8-(r+1))::List.range' (8-r) r:=by
   rw[List.range'_succ,show 8-(r+1)+1=8-r by omega]
  rw[Im];simp (disch:=first|omega|exact h0) only[B0,Kx,AZ,ati hw,hx,tki,Af9,Az (x:=j-1)];rw[Aq8];simp only[Zzg,FM,List.length_nil,SF,Zzv,List.map_cons,List.singleton_append] at ih ⊢;exact ih
theorem Yw {ws:List Int}(hl:ws.length<=1073741824)(Ei:100<=fu):∀(r:List Int)(i nn:Nat)(bs:List Int),ws.drop i=r->r.length<nn->bs.length=8*i ->
  Ed fu call n c nn ws.length (Bn .u64 ws) bs.length i (Bn .u8 bs)=some ⟨[.own 1 (bs++F5 r).length (Bn .u8 (bs++F5 r))],[]⟩
 |r,i,0,_,_,h,_=>by omega
 |[],i,nn+1,bs,h,_,_=>by
  have:=drop_nil h;have e8:=D9 .u8 bs;rw[Ig];simp (disch:=omega) only[B0,AZ,tki,F5,List.flatMap_nil,List.append_nil]
 |w::r,i,nn+1,bs,h,hn,hb=>by
  obtain⟨h1,h2,h3⟩:=Fl h;simp only[FM] at hn;rw[Ig];simp (disch:=omega) only[B0];rw[KE h2 8 fu 7 bs rfl (by omega) (by omega) (by omega),Az (by omega) (by omega)]
  have ih:=Yw hl Ei r (i+1) nn (bs++Oj w) h3 (by omega) (by simp[Jp];omega)
  have e:bs++Oj w++F5 r=bs++F5 (w::r):=by simp[F5]
  rw[e] at ih;exact ih
theorem HO {ws:List Int}(hl:ws.length<=1073741824)(Ei:100<=fu)(hf:ws.length<fu):Ae (CX xs) prog fu (d+1) Fg [.lst false 1 ws.length (Bn .u64 ws)]=some ⟨[.own 1 (F5 ws).length (Bn .u8 (F5 ws))],[]⟩:=by
 rw[S1];exact Yw hl Ei ws 0 fu [] rfl hf rfl
end
end
section
open Go.IntKind (wrap)
theorem Ags (w:Int)(k:Nat):0<=Qc w k∧Qc w k<=255:=by
 unfold Qc;simp only[wrap,IntKind.signed,IntKind.bits];simp;omega
theorem WN (w:Int):Ct (Oj w):=by
 intro x hx;obtain⟨k,_,rfl⟩:=List.mem_map.1 hx;exact Ags w k
theorem Adp (ws:List Int):Ct (F5 ws):=by
 intro x hx;obtain⟨w,_,hx⟩:=List.mem_flatMap.1 hx;exact WN w x hx
theorem FW (ws:List Int):(F5 ws).length=8*ws.length:=by
 induction ws with
 |nil=>rfl
 |cons w ws ih=>
  show (Oj w++F5 ws).length=_;rw[Zzg,ih,Jp,FM];omega
end
section
open Go.IntKind (wrap)
def Fc (s:ByteArray):List Int:=s.data.toList.map fun b=>(b.toNat:Int)
def Aa (l:List Int):ByteArray:=⟨(l.map fun n=>n.toNat.toUInt8).toArray⟩
theorem Kk (s:ByteArray):(Fc s).length=s.size:=by
 unfold Fc;rw[List.length_map];rfl
theorem LY (s:ByteArray):Ct (Fc s):=by
 intro x hx;obtain⟨b,_,rfl⟩:=List.mem_map.1 hx;have:=b.toNat_lt;omega
theorem Af (l:List Int):(Aa l).size=l.length:=by
 show (l.map fun n=>n.toNat.toUInt8).toArray.size=_
 simp
theorem Co {l:List Int}(h:Ct l):Fc (Aa l)=l:=by
 unfold Fc Aa;simp only[List.map_map]
 have:∀l:List Int,Ct l->List.map ((fun b:UInt8=>(b.toNat:Int)) ∘ fun n:Int=>n.toNat.toUInt8) l=l:=by
  intro l
  induction l with
  |nil=>intro _;rfl
  |cons x l ih=>
   intro h;have hx:=h x (by simp)
   rw[List.map_cons,ih fun y hy=>h y (by simp[hy])]
   congr 1
   show ((x.toNat.toUInt8.toNat:Nat):Int)=x;rw[Nat.toUInt8,UInt8.toNat_ofNat'];omega
 exact this l h
theorem G9 (s:ByteArray):Aa (Fc s)=s:=by
 unfold Aa Fc;simp only[List.map_map]
 have:∀l:List UInt8,List.map ((fun n:Int=>n.toNat.toUInt8) ∘ fun b:UInt8=>(b.toNat:Int)) l=l:=by
  intro l
  induction l with
  |nil=>rfl
  |cons x l ih=>
   rw[List.map_cons,ih]
   congr 1
   show ((x.toNat:Int).toNat).toUInt8=x;rw[Kx];simp
 rw[this]
end
section
open Go.IntKind (wrap)
def Gv (v:Int):Int:=if v<26 then 65+v else if v<52 then 71+v else if v<62 then v-4 else if v<63 then 45 else 95
def Bw (c:Int):Int:=if 65<=c∧c<=90 then c-65 else if 97<=c∧c<=122 then c-71 else if 48<=c∧c<=57 then c+4 else if c=45 then 62 else if c=95 then 63 else 64
theorem Nz (c:Int):0<=Bw c∧Bw c<=64:=by
 unfold Bw;split
 ·omega
 split
 ·omega
 split
 ·omega
 split
 ·omega
 split<;>omega
def Ev:List Int->List Int
 |[]=>[]
 |[a]=>[Gv (a / 4),Gv (a % 4*16)]
 |[a,b]=>[Gv (a / 4),Gv (a % 4*16+b / 16),Gv (b % 16*4)]
 |a::b::c::r=>Gv (a / 4)::Gv (a % 4*16+b / 16)::Gv (b % 16*4+c / 64)::Gv (c % 64)::Ev r
def Qe:List Int->Option (List Int)
 |[]=>some []
 |[_]=>none
 |[p,q]=>if Bw p<64∧Bw q<64∧Bw q % 16=0 then some [Bw p*4+Bw q / 16] else none
 |[p,q,r]=>if Bw p<64∧Bw q<64∧Bw r<64∧Bw r % 4=0 then some [Bw p*4+Bw q / 16,Bw q % 16*16+Bw r / 4] else none
 |p::q::r::s::t=>if Bw p<64∧Bw q<64∧Bw r<64∧Bw s<64 then (Qe t).map (fun l=>(Bw p*4+Bw q / 16)::(Bw q % 16*16+Bw r / 4)::(Bw r % 4*64+Bw s)::l) else none
theorem Cq {a:Int}{l:List Int}(h:Ct (a::l)):(0<=a∧a<=255)∧Ct l:=⟨h a (by simp),fun x hx=>h x (by simp[hx])⟩
theorem MW:∀l:List Int,(Ev l).length=(4*l.length+2) / 3
 |[]=>rfl
 |[_]=>by simp[Ev]
 |[_,_]=>by simp[Ev]
 |a::b::c::r=>by
  show (Ev r).length+1+1+1+1=_;rw[MW r];simp only[FM];omega
end
end Go.Proofs.YtodnjibebeghjaaDoor.Pv
