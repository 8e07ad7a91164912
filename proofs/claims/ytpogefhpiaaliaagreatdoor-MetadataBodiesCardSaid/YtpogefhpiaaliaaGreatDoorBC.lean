/-
  The proof of MetadataBodies, part 3.
-/
import Derived.Test.YtpogefhpiaaliaaGreatDoorBB
import Derived.StillTail
import Derived.WalkKit
import Derived.ProofKit
import Derived.OpenShut
import Derived.ShutString
import Derived.ChangeOld
import Derived.Below
import Derived.Deep.Slices
import Derived.ChangeSame
import Derived.WideKeyArgs
import Derived.Carry
import Derived.Test.YtpogefhpiaaliaaGreatDoorRows
set_option linter.unusedSimpArgs false
set_option linter.unusedVariables false
namespace Go.Proofs.YtpogefhpiaaliaaGreatDoor.Pv
section
section
variable {R R':Type} {Rel:Option R->Option R'->Prop}
theorem Mk (hn:Rel none none){k:IntKind}{p:PV}{K:Int->Option R}{K':Int->Option R'}(hK:∀n,Rel (K n) (K' n)):Rel (Ae k p K) (Ae k p K'):=by
 unfold Ae;split
 ·split<;>first|exact hK _|exact hn
 ·exact hn
theorem F4 (hn:Rel none none){p:PV}{K:IntKind->Int->Option R}{K':IntKind->Int->Option R'}(hK:∀k n,Rel (K k n) (K' k n)):Rel (E9 p K) (E9 p K'):=by
 unfold E9;split<;>first|exact hK _ _|exact hn
theorem J8 (hn:Rel none none){p:PV}{K:Bool->Option R}{K':Bool->Option R'}(hK:∀n,Rel (K n) (K' n)):Rel (B3 p K) (B3 p K'):=by
 unfold B3;split<;>first|exact hK _|exact hn
theorem Ja (hn:Rel none none){p:PV}{K:ByteArray->Option R}{K':ByteArray->Option R'}(hK:∀n,Rel (K n) (K' n)):Rel (Fk p K) (Fk p K'):=by
 unfold Fk;split<;>first|exact hK _|exact hn
theorem Ij (hn:Rel none none){es:Nat}{p:PV}{K:Bool->Nat->List PV->Option R}{K':Bool->Nat->List PV->Option R'}(hK:∀z n c,Rel (K z n c) (K' z n c)):Rel (Fa es p K) (Fa es p K'):=by
 unfold Fa;split
 ·rename_i es' _ _;cases Nat.beq es' es
  ·exact hn
  ·exact hK _ _ _
 ·exact hK _ _ _
 ·exact hn
theorem Axq (hn:Rel none none){es:Nat}{p:PV}{K:PV->Option R}{K':PV->Option R'}(hK:∀p,Rel (K p) (K' p)):Rel (fsK es p K) (fsK es p K'):=by
 unfold fsK;split
 ·rename_i es' _ _;cases Nat.beq es' es
  ·exact hn
  ·exact hK _
 ·exact Ij hn fun _ _ _=>hK _
theorem Ame (hn:Rel none none){es:Nat}{p:PV}{K:Nat->List PV->Option R}{K':Nat->List PV->Option R'}(hK:∀n c,Rel (K n c) (K' n c)):Rel (F5 es p K) (F5 es p K'):=by
 unfold F5;split
 ·rename_i es' _ _;cases Nat.beq es' es
  ·exact hn
  ·exact hK _ _
 ·exact hn
theorem Bj (hn:Rel none none){b:Bool}{K:Option R}{K':Option R'}(hK:b=true->Rel K K'):Rel (Aw b K) (Aw b K'):=by
 cases b
 ·exact hn
 ·exact hK rfl
theorem RO {b:Bool}{x y:Option R}{x' y':Option R'}(hx:Rel x x')(hy:Rel y y'):Rel (Bm b x y) (Bm b x' y'):=by
 cases b
 ·exact hy
 ·exact hx
theorem Ey (hn:Rel none none){α:Type}{o:Option α}{K:α->Option R}{K':α->Option R'}(hK:∀a,o=some a->Rel (K a) (K' a)):Rel (F6 o K) (F6 o K'):=by
 cases o
 ·exact hn
 ·exact hK _ rfl
theorem Cc (hn:Rel none none){α:Type}{l:List α}{K:α->List α->Option R}{K':α->List α->Option R'}(hK:∀a r,l=a::r->Rel (K a r) (K' a r)):Rel (Ab l K) (Ab l K'):=by
 cases l
 ·exact hn
 ·exact hK _ _ rfl
theorem Hs (hn:Rel none none){α:Type}{l:List α}{K:Option R}{K':Option R'}(hK:Rel K K'):Rel (Ac l K) (Ac l K'):=by
 cases l
 ·exact hK
 ·exact hn
theorem Oh (hn:Rel none none){p:PV}{K:List PV->Option R}{K':List PV->Option R'}(hK:∀c,p=.agg c->Rel (K c) (K' c)):Rel (Ef p K) (Ef p K'):=by
 unfold Ef;split
 ·exact hK _ rfl
 ·exact hn
theorem Aog (hn:Rel none none){p:PV}{K:List PV->Option R}{K':List PV->Option R'}(hK:∀c,Rel (K c) (K' c)):Rel (FP p K) (FP p K'):=by
 unfold FP;split
 ·exact hK _
 ·exact hn
theorem Aa8 (hn:Rel none none){r:Option A4}{K:List PV->List (List PV)->Option R} {K':List PV->List (List PV)->Option R'} (hK:∀v o,Rel (K v o) (K' v o)):Rel (Aj r K) (Aj r K'):=by
 unfold Aj;split
 ·exact hK _ _
 ·exact hn
theorem Ak9 (hn:Rel none none){p:PV}{K:Value->Option R}{K':Value->Option R'}(hK:∀v,Rel (K v) (K' v)):Rel (fnK p K) (fnK p K'):=by
 unfold fnK;split
 ·exact hK _
 ·exact hn
theorem Axj (hn:Rel none none){p:PV}{K:FuncId->Option R}{K':FuncId->Option R'}(hK:∀v,Rel (K v) (K' v)):Rel (fvK p K) (fvK p K'):=by
 unfold fvK;split
 ·rename_i f a b;cases (a.isEmpty&&b.isEmpty)
  ·exact hn
  ·exact hK _
 ·exact hn
theorem Uo (hn:Rel none none){t:CT}{p:PV}{K:PV->Option R}{K':PV->Option R'}(hK:∀p,Rel (K p) (K' p)):Rel (NI t p K) (NI t p K'):=by
 unfold NI;split
 ·exact Mk hn fun _=>hK _
 ·exact J8 hn fun _=>hK _
 ·exact Ja hn fun _=>hK _
 ·exact Ij hn fun _ _ _=>hK _
 ·exact Ak9 hn fun _=>hK _
theorem Axg (hn:Rel none none){t:CT}{p:PV}{K:PV->Option R}{K':PV->Option R'}(hK:∀p,Rel (K p) (K' p)):Rel (fcK t p K) (fcK t p K'):=by
 unfold fcK;split
 ·exact Axq hn hK
 ·exact Uo hn hK
theorem Ws (hn:Rel none none):∀{ts:List CT}{cells:List PV}{off:Nat}{K:List PV->Option R}{K':List PV->Option R'},(∀c,Rel (K c) (K' c))->Rel (BX ts cells off K) (BX ts cells off K')
 |[],_,_,_,_,hK=>hK _
 |_::_,_,_,_,_,hK=>Uo hn fun _=>Ws hn fun _=>hK _
theorem Tl (hn:Rel none none):∀{ts:List CT}{cells:List PV}{off:Nat}{K:List PV->Option R}{K':List PV->Option R'},(∀c,Rel (K c) (K' c))->Rel (Vr ts cells off K) (Vr ts cells off K')
 |[],_,_,_,_,hK=>hK _
 |_::_,_,_,_,_,hK=>Axg hn fun _=>Tl hn fun _=>hK _
theorem KP (hn:Rel none none){g:Bool}{cells:List PV}{K:PV->Option R}{K':PV->Option R'}(hK:∀p,Rel (K p) (K' p)):Rel (mkV g cells K) (mkV g cells K'):=by
 cases g
 ·exact Cc hn fun _ _ _=>Hs hn (hK _)
 ·exact hK _
theorem Ayr (hn:Rel none none){P:Program}{t:TypeId}{v:Value}{K:PV->Option R}{K':PV->Option R'}(hK:∀p,Cm p=[]->Rel (K p) (K' p)) (hK':∀c,Rel (K (.agg c)) (K' (.agg c))):Rel (cvK P t v K) (cvK P t v K'):=by
 unfold cvK;split
 ·exact Bj hn fun _=>Ws hn fun _=>hK' _
 ·split
  ·exact hK _ rfl
  ·exact hn
 ·exact hK _ rfl
theorem Aqm (hn:Rel none none){op:BinOp}{x y:Int}{K:Bool->Option R}{K':Bool->Option R'}(hK:∀n,Rel (K n) (K' n)):Rel (Ay0 op x y K) (Ay0 op x y K'):=by
 unfold Ay0;split<;>first|exact hK _|exact hn
theorem Aju (hn:Rel none none){op:BinOp}{k:IntKind}{x y:Int}{K:PV->Option R}{K':PV->Option R'}(hK:∀n,Rel (K n) (K' n)):Rel (VA op k x y K) (VA op k x y K'):=by
 unfold VA;split<;>first|exact hK _|exact Bj hn fun _=>hK _|exact Aqm hn fun _=>hK _
theorem Ajy (hn:Rel none none){op:BinOp}{x y:ByteArray}{K:PV->Option R}{K':PV->Option R'}(hK:∀n,Rel (K n) (K' n)):Rel (WJ op x y K) (WJ op x y K'):=by
 unfold WJ;split<;>first|exact hK _|exact Bj hn fun _=>hK _|exact hn
theorem ZY (hn:Rel none none){e:Bool}{p:PV}{K:PV->Option R}{K':PV->Option R'}(hK:∀n,Rel (K n) (K' n)):Rel (UY e p K) (UY e p K'):=by
 unfold UY;split<;>first|exact hK _|exact RO (hK _) (RO (hK _) (hK _))|exact RO (hK _) (hK _)|exact hn
theorem Afj (hn:Rel none none):∀{ts:List CT}{ps qs:List PV}{K:Bool->Option R}{K':Bool->Option R'},(∀b,Rel (K b) (K' b))->Rel (Qp ts ps qs K) (Qp ts ps qs K'):=by
 intro ts
 induction ts with
 |nil=>
  intro ps qs K K' hK;cases ps<;>cases qs<;>first|exact hK _|exact hn
 |cons t ts ih=>
  intro ps qs K K' hK;cases ps with
  |nil=>cases t<;>cases qs<;>exact hn
  |cons p ps=>
   cases qs with
   |nil=>cases t<;>exact hn
   |cons q qs=>
    cases t
    ·exact Mk hn fun _=>Mk hn fun _=>ih fun _=>hK _
    ·exact J8 hn fun _=>J8 hn fun _=>ih fun _=>hK _
    ·exact Ja hn fun _=>Ja hn fun _=>ih fun _=>hK _
    ·exact hn
    ·exact hn
theorem Aqh (hn:Rel none none){P:Program}{op:BinOp}{t:TypeId}{x y:PV}{K:PV->Option R}{K':PV->Option R'}(hK:∀p,Rel (K p) (K' p)):Rel (Aqt P op t x y K) (Aqt P op t x y K'):=by
 unfold Aqt;split
 ·split
  ·exact Mk hn fun _=>F4 hn fun _ _=>Bj hn fun _=>hK _
  ·exact Mk hn fun _=>F4 hn fun _ _=>Bj hn fun _=>hK _
  ·exact Mk hn fun _=>Mk hn fun _=>Aju hn hK
 ·exact Ja hn fun _=>Ja hn fun _=>Ajy hn hK
 ·split
  ·exact J8 hn fun _=>J8 hn fun _=>hK _
  ·exact J8 hn fun _=>J8 hn fun _=>hK _
  ·exact hn
 ·split
  ·exact ZY hn fun _=>hK _
  ·exact ZY hn fun _=>hK _
  ·exact hn
 ·exact hn
theorem Ago (hn:Rel none none){P:Program}{op:BinOp}{t:TypeId}{x y:PV}{K:PV->Option R}{K':PV->Option R'}(hK:∀p,Rel (K p) (K' p)):Rel (DZ P op t x y K) (DZ P op t x y K'):=by
 unfold DZ;split
 ·split
  ·exact Bj hn fun _=>Oh hn fun _ _=>Oh hn fun _ _=>Afj hn fun _=>hK _
  ·exact Bj hn fun _=>Oh hn fun _ _=>Oh hn fun _ _=>Afj hn fun _=>hK _
  ·exact hn
 ·exact Aqh hn hK
theorem Ayv (hn:Rel none none){op:UnOp}{x:PV}{K:PV->Option R}{K':PV->Option R'}(hK:∀p,Rel (K p) (K' p)):Rel (unK op x K) (unK op x K'):=by
 unfold unK;split<;>first|exact J8 hn fun _=>hK _|exact F4 hn fun _ _=>hK _|exact hn
theorem Fx (hn:Rel none none){p:Option PV}{d:Nat}{K:Nat->Option R}{K':Nat->Option R'}(hK:∀n,Rel (K n) (K' n)):Rel (Kb p d K) (Kb p d K'):=by
 unfold Kb;split
 ·exact hK _
 ·exact F4 hn fun _ _=>Bj hn fun _=>hK _
theorem NS (hn:Rel none none){x:PV}{d:Nat}{K:PV->Option R}{K':PV->Option R'}(hK:∀n,Rel (K n) (K' n)):Rel (CR x d K) (CR x d K'):=by
 unfold CR;split<;>first|exact hK _|exact hn
theorem VJ (hn:Rel none none){P:Program}{t:TypeId}{x:PV}{i:Int}{K:PV->Option R}{K':PV->Option R'}(hK:∀p,Rel (K p) (K' p)):Rel (P0 P t x i K) (P0 P t x i K'):=by
 unfold P0;split
 ·exact Bj hn fun _=>Bj hn fun _=>NS hn hK
 ·refine Bj hn fun _=>?_
  split
  ·exact Bj hn fun _=>Bj hn fun _=>hK _
  ·exact Ij hn fun _ _ _=>Bj hn fun _=>hK _
 ·exact hn
theorem NV (hn:Rel none none){Kk:Nat->Option (Nat × Nat)}:∀{ps:List (Nat × PV)} {cells:List PV}{K:List PV->Option R}{K':List PV->Option R'},(∀c,Rel (K c) (K' c))->Rel (AQ Kk ps cells K) (AQ Kk ps cells K')
 |[],_,_,_,hK=>hK _
 |(_,_)::_,_,_,_,hK=>Ey hn fun _ _=>Bj hn fun _=>NV hn hK
theorem CD (hn:Rel none none){P:Program}{t:TypeId}{K:List PV->Option R}{K':List PV->Option R'}(hK:∀p,Rel (K p) (K' p)):Rel (Kr P t K) (Kr P t K'):=
 Ey hn fun _ _=>Bj hn fun _=>Ws hn hK
theorem Atp (hn:Rel none none){x y:PV}{K:PV->Option R}{K':PV->Option R'}(hK:∀p,Rel (K p) (K' p)):Rel (Ay5 x y K) (Ay5 x y K'):=
 F4 hn fun _ _=>Mk hn fun _=>hK _
theorem Atu (hn:Rel none none){x y:PV}{K:PV->Option R}{K':PV->Option R'}(hK:∀p,Rel (K p) (K' p)):Rel (Ax8 x y K) (Ax8 x y K'):=
 F4 hn fun _ _=>Mk hn fun _=>hK _
theorem Atx (hn:Rel none none){P:Program}{t:TypeId}{x:PV}{K:Nat->Option R}{K':Nat->Option R'}(hK:∀p,Rel (K p) (K' p)):Rel (Apw P t x K) (Apw P t x K'):=by
 unfold Apw;split
 ·exact Ja hn fun _=>hK _
 ·exact hK _
 ·split
  ·exact Bj hn fun _=>hK _
  ·exact Ij hn fun _ _ _=>hK _
 ·exact hn
def Agr (Rel:Option R->Option R'->Prop)(f f':Nat->Option (List PV)) (l:List Nat):Prop:=∀i∈l,f i=f' i∨(f i=none∧∀b,Rel none b)
variable {f f':Nat->Option (List PV)}
theorem Agr.sub {l l':List Nat}(h:Agr Rel f f' l)(hs:∀i∈l',i∈l):Agr Rel f f' l':=fun i hi=>h i (hs i hi)
theorem LP (hn:Rel none none){l:List Nat}{id:Nat}(hf:Agr Rel f f' l)(hi:id∈l){K:List PV->Option R}{K':List PV->Option R'}(hK:∀c,f id=some c->Rel (K c) (K' c)):Rel (F6 (f id) K) (F6 (f' id) K'):=by
 rcases hf id hi with h|⟨h,hb⟩
 ·rw[←h];exact Ey hn hK
 ·rw[h];exact hb _
theorem LL (hn:Rel none none){es:Nat}{p:PV}{K:Nat->List PV->Option R}{K':Nat->List PV->Option R'}(hf:Agr Rel f f' (A7 p)) (hK:∀n c,Rel (K n c) (K' n c)):Rel (Akl f es p K) (Akl f' es p K'):=by
 unfold Akl;split
 ·rename_i id es' off n;cases Nat.beq es' es
  ·exact hn
  ·exact LP hn hf (by simp[A7]) fun _ _=>Bj hn fun _=>hK _ _
 ·exact Ij hn fun _ _ _=>hK _ _
theorem Asa (hn:Rel none none){t:CT}{p:PV}{K:PV->List Nat->Option R}{K':PV->List Nat->Option R'}(hf:Agr Rel f f' (A7 p)) (hK:∀c m,(∀i∈m,f i≠none)->Rel (K c m) (K' c m)):Rel (Ug f t p K) (Ug f' t p K'):=by
 unfold Ug;split
 ·split
  ·rename_i id es' off n;cases Nat.beq es' _
   ·exact hn
   ·exact LP hn hf (by simp[A7]) fun c hc=>Bj hn fun _=>hK _ _ (by simp[hc])
  ·exact Ij hn fun _ _ _=>hK _ _ (by simp)
 ·exact Uo hn fun _=>hK _ _ (by simp)
theorem DQ (hn:Rel none none):∀{ts:List CT}{ps:List PV}{K:List PV->List Nat->Option R}{K':List PV->List Nat->Option R'},Agr Rel f f' (ps.flatMap A7)->(∀c m,(∀i∈m,f i≠none)->Rel (K c m) (K' c m))->Rel (Tz f ts ps K) (Tz f' ts ps K')
 |[],[],_,_,_,hK=>hK _ _ (by simp)
 |[],_::_,_,_,_,_=>hn
 |_::_,[],_,_,_,_=>hn
 |_::_,p::ps,_,_,hf,hK=>Asa hn (fun i hi=>hf i (by simp only[List.flatMap_cons,List.mem_append];exact .inl hi)) fun _ m hm=>DQ hn (fun i hi=>hf i (by simp only[List.flatMap_cons,List.mem_append];exact .inr hi)) fun _ ms WQ=>hK _ _ fun i hi=>by
   rcases List.mem_append.1 hi with h|h
   ·exact hm i h
   ·exact WQ i h
theorem Ath (hn:Rel none none){P:Program}{t:TypeId}{p:PV}{K:PV->List Nat->Option R}{K':PV->List Nat->Option R'}(hf:Agr Rel f f' (Cw p)) (hK:∀c m,(∀i∈m,f i≠none)->Rel (K c m) (K' c m)):Rel (Ai5 P f t p K) (Ai5 P f' t p K'):=by
 unfold Ai5
 have h1:∀i,i∈[p].flatMap A7->i∈Cw p:=by
  intro i hi;simp only[List.flatMap_cons,List.flatMap_nil,List.append_nil] at hi;cases p<;>first|exact hi|simp[A7] at hi
 cases C6 P t
 ·exact DQ hn (fun i hi=>hf i (h1 i hi)) fun _ _ hm=>Cc hn fun _ _ _=>Hs hn (hK _ _ hm)
 ·refine Oh hn fun c hc=>?_
  subst hc;exact DQ hn (fun i hi=>hf i hi) fun _ _ hm=>hK _ _ hm
theorem Aaw (hn:Rel none none){P:Program}:∀{ts:List TypeId}{ps:List PV}{K:List PV->List Nat->Option R}{K':List PV->List Nat->Option R'},Agr Rel f f' (ps.flatMap Cw)->(∀c m,(∀i∈m,f i≠none)->Rel (K c m) (K' c m))->Rel (XA P f ts ps K) (XA P f' ts ps K')
 |[],[],_,_,_,hK=>hK _ _ (by simp)
 |[],_::_,_,_,_,_=>hn
 |_::_,[],_,_,_,_=>hn
 |_::_,p::ps,_,_,hf,hK=>Ath hn (fun i hi=>hf i (by simp only[List.flatMap_cons,List.mem_append];exact .inl hi)) fun _ m hm=>Aaw hn (fun i hi=>hf i (by simp only[List.flatMap_cons,List.mem_append];exact .inr hi)) fun _ ms WQ=>hK _ _ fun i hi=>by
   rcases List.mem_append.1 hi with h|h
   ·exact hm i h
   ·exact WQ i h
theorem Ajn (hn:Rel none none){P:Program}{t:TypeId}{x:PV}{lo hi:Option PV}{K:PV->Option R}{K':PV->Option R'}(hf:(∃n e,P.underlying t=some (.array n e))->Agr Rel f f' (A7 x)) (hK:∀c,Rel (K c) (K' c)):Rel (OA P f t x lo hi K) (OA P f' t x lo hi K'):=by
 unfold OA;split
 ·exact Ja hn fun _=>Fx hn fun _=>Fx hn fun _=>Bj hn fun _=>hK _
 ·refine Bj hn fun _=>?_
  split
  ·exact Bj hn fun _=>Fx hn fun _=>Fx hn fun _=>Bj hn fun _=>hK _
  ·exact Ij hn fun _ _ _=>Fx hn fun _=>Fx hn fun _=>Bj hn fun _=>hK _
 ·rename_i n e hu;refine Bj hn fun _=>?_
  split
  ·rename_i id off;exact LP hn (hf ⟨_,_,hu⟩) (by simp[A7]) fun _ _=>Bj hn fun _=>Fx hn fun _=>Fx hn fun _=>Bj hn fun _=>hK _
  ·exact hn
 ·exact hn
theorem Ae0 (hn:Rel none none){P:Program}{d:Nat}{t:TypeId}{x:PV}{lo hi mx:Option PV}{K:PV->List (Nat × Cb)->Option R} {K':PV->List (Nat × Cb)->Option R'} (hK:∀c,Rel (K c [(d,.ar false [])]) (K' c [(d,.ar false [])])):Rel (DO P d t x lo hi mx K) (DO P d t x lo hi mx K'):=by
 unfold DO;split
 ·refine Bj hn fun _=>?_
  split
  ·exact Bj hn fun _=>Fx hn fun _=>Fx hn fun _=>Fx hn fun _=>Bj hn fun _=>hK _
  ·exact Ij hn fun _ _ _=>Fx hn fun _=>Fx hn fun _=>Fx hn fun _=>Bj hn fun _=>hK _
 ·exact hn
theorem Aba {g g':Nat->Option (List PV)} (hn:Rel none none){P:Program}{t:TypeId}{x:PV}{K:PV->Option R}{K':PV->Option R'}(hf:∀i∈A7 x,(f i=f' i∧g i=g' i)∨(f i=none∧g i=none∧∀b,Rel none b)) (hK:∀c,Rel (K c) (K' c)):Rel (KN P f g t x K) (KN P f' g' t x K'):=by
 unfold KN;split
 ·rename_i id off;refine Bj hn fun _=>?_
  rcases hf id (by simp[A7]) with⟨h1,h2⟩|⟨h1,h2,h3⟩
  ·rw[←h1,←h2];split
   ·exact Ws hn fun _=>KP hn fun _=>hK _
   ·exact Ey hn fun _ _=>Tl hn fun _=>KP hn hK
  ·rw[h1,h2];exact h3 _
 ·exact Bj hn fun _=>Ws hn fun _=>KP hn fun _=>hK _
 ·exact hn
theorem Ao6 (hn:Rel none none){P:Program}{d:Nat}{src dst:TypeId}{x:PV}{K:PV->List (Nat × Cb)->Option R} {K':PV->List (Nat × Cb)->Option R'} (hf:P.underlying dst=some .string->Agr Rel f f' (A7 x)) (hK:∀v b,(∀q∈b,q.1=d)->Rel (K v b) (K' v b)):Rel (UX P f d src dst x K) (UX P f' d src dst x K'):=by
 unfold UX;split
 ·exact Bj hn fun _=>F4 hn fun _ _=>hK _ _ (by simp)
 ·rename_i hds;split
  ·exact Ja hn fun _=>hK _ _ (by simp)
  ·split
   ·exact LL hn (hf hds) fun _ _=>Bj hn fun _=>Ey hn fun _ _=>hK _ _ (by simp)
   ·exact hn
  ·exact hn
 ·split
  ·exact Ja hn fun _=>Bj hn fun _=>hK _ _ (by simp)
  ·exact hn
 ·exact hn
theorem Arc (hn:Rel none none){shr:Bool}{id:Nat}{t:CT}{p:PV}{K:PV->List (Nat × Cb)->Option R} {K':PV->List (Nat × Cb)->Option R'} (hK:∀c b,(∀q∈b,q.1=id)->Rel (K c b) (K' c b)):Rel (As1 shr id t p K) (As1 shr id t p K'):=by
 unfold As1;split
 ·cases shr
  ·exact Ame hn fun _ _=>hK _ _ (by simp)
  ·exact Ij hn fun _ _ _=>hK _ _ (by simp)
 ·exact Uo hn fun _=>hK _ _ (by simp)
theorem DG (hn:Rel none none){shr:Bool}{N:Nat}:∀{ts:List CT}{id:Nat}{ps:List PV}{K:List PV->List (Nat × Cb)->Option R} {K':List PV->List (Nat × Cb)->Option R'},(∀c b,(∀q∈b,∃j,q.1=id+N*j)->Rel (K c b) (K' c b))->Rel (Xk shr N id ts ps K) (Xk shr N id ts ps K')
 |[],_,_,_,_,hK=>Hs hn (hK _ _ (by simp))
 |_::_,id,_,_,_,hK=>Cc hn fun _ _ _=>Arc hn fun _ b hb=>DG hn fun _ bs UL=>hK _ _ fun q hq=>by
   rcases List.mem_append.1 hq with h|h
   ·exact⟨0,by rw[hb q h];simp⟩
   ·obtain⟨j,hj⟩:=UL q h;exact⟨j+1,by rw[hj,Nat.mul_add];omega⟩
theorem As7 (hn:Rel none none){P:Program}{shr:Bool}{N id:Nat}{t:TypeId}{p:PV}{K:PV->List (Nat × Cb)->Option R} {K':PV->List (Nat × Cb)->Option R'} (hK:∀c b,(∀q∈b,∃j,q.1=id+N*j)->Rel (K c b) (K' c b)):Rel (Aop P shr N id t p K) (Aop P shr N id t p K'):=by
 unfold Aop;split
 ·refine Aog hn fun ps=>DG hn fun _ _ hb=>hK _ _ fun q hq=>?_
  rcases List.mem_cons.1 hq with rfl|hq
  ·exact⟨0,by simp⟩
  ·obtain⟨j,hj⟩:=hb q hq;exact⟨j+1,by rw[hj,Nat.mul_add];omega⟩
 cases C6 P t
 ·exact DG hn fun _ _ hb=>Cc hn fun _ _ _=>Hs hn (hK _ _ hb)
 ·exact Oh hn fun _ _=>DG hn fun _ _ hb=>hK _ _ hb
theorem NY (hn:Rel none none){P:Program}{shr:Bool}{N:Nat}:∀{ts:List TypeId}{id:Nat}{ps:List PV}{K:List PV->List (Nat × Cb)->Option R} {K':List PV->List (Nat × Cb)->Option R'},(∀c b,(∀q∈b,∃j,q.1=id+N*j)->Rel (K c b) (K' c b))->Rel (PP P shr N id ts ps K) (PP P shr N id ts ps K')
 |[],_,_,_,_,hK=>Hs hn (hK _ _ (by simp))
 |t::_,id,_,_,_,hK=>Cc hn fun _ _ _=>As7 hn fun _ b hb=>NY hn fun _ bs UL=>hK _ _ fun q hq=>by
   rcases List.mem_append.1 hq with h|h
   ·exact hb q h
   ·obtain⟨j,hj⟩:=UL q h;exact⟨Aet P t+j,by rw[hj,Nat.mul_add];omega⟩
end
theorem BG {p:PV}{i:Nat}(h:i∈A7 p):i∈Cw p:=by cases p<;>first|exact h|simp[A7] at h
theorem Ir {p:PV}{i:Nat}(h:i∈Cw p):i∈Cm p:=by cases p<;>first|exact h|simp[Cw,A7] at h
theorem P4 {p:PV}{i:Nat}(h:i∈A7 p):i∈Cm p:=Ir (BG h)
section
variable {R R':Type} {Rel:Option R->Option R'->Prop} {P:Program} {N:Nat} {tm tm':Nat->PV} {f f' g g':Nat->Option (List PV)} {o:Oper}
theorem WN (hn:Rel none none){t:TypeId}{x:Operand}{K:PV->Option R}{K':PV->Option R'}(hx:C8 tm x=C8 tm' x)(hK:∀p,Rel (K p) (K' p)):Rel (MZ P t tm x K) (MZ P t tm' x K'):=by
 unfold MZ;split
 ·exact Ayr hn (fun _ _=>hK _) (fun _=>hK _)
 ·rw[hx];exact hK _
theorem Ary (hn:Rel none none){t:CT}{p:PV}{K:PV->Option R}{K':PV->Option R'}(hK:∀p,A7 p=[]->Rel (K p) (K' p)):Rel (NI t p K) (NI t p K'):=by
 unfold NI;split
 ·exact Mk hn fun _=>hK _ rfl
 ·exact J8 hn fun _=>hK _ rfl
 ·exact Ja hn fun _=>hK _ rfl
 ·exact Ij hn fun _ _ _=>hK _ rfl
 ·exact Ak9 hn fun _=>hK _ rfl
theorem Aai (hn:Rel none none):∀{ts:List CT}{cells:List PV}{off:Nat}{K:List PV->Option R}{K':List PV->Option R'},(∀c,(∀p∈c,A7 p=[])->Rel (K c) (K' c))->Rel (BX ts cells off K) (BX ts cells off K')
 |[],_,_,_,_,hK=>hK _ (by simp)
 |_::_,_,_,_,_,hK=>Ary hn fun c hc=>Aai hn fun cs hcs=>hK _ (by
   intro p hp;rcases List.mem_cons.1 hp with h|h
   ·rw[h];exact hc
   ·exact hcs p h)
theorem IR (hn:Rel none none){t:TypeId}{K:List PV->Option R}{K':List PV->Option R'}(hK:∀c,(∀p∈c,A7 p=[])->Rel (K c) (K' c)):Rel (Kr P t K) (Kr P t K'):=
 Ey hn fun _ _=>Bj hn fun _=>Aai hn hK
theorem BL {p c:PV}(h:c∈cellsOf p){i:Nat}(hi:i∈A7 c):i∈Cw p:=by
 unfold cellsOf at h;split at h
 ·exact List.mem_flatMap.2 ⟨c,h,hi⟩
 ·simp at h;subst h;exact BG hi
theorem Aj4 {cells new:List PV}{off:Nat}{c:PV}(h:c∈B4 cells new off):c∈cells∨c∈new:=by
 unfold B4 at h;rcases List.mem_append.1 h with h|h
 ·rcases List.mem_append.1 h with h|h
  ·exact .inl (List.mem_of_mem_take h)
  ·exact .inr h
 ·exact .inl (List.mem_of_mem_drop h)
theorem VN (hn:Rel none none){Kk:Nat->Option (Nat × Nat)} {S:Nat->Prop}:∀{ps:List (Nat × PV)} {cells:List PV}{K:List PV->Option R}{K':List PV->Option R'},(∀c∈cells,∀i∈A7 c,S i)->(∀q∈ps,∀i∈Cw q.2,S i) ->
  (∀cs,(∀c∈cs,∀i∈A7 c,S i)->Rel (K cs) (K' cs))->Rel (AQ Kk ps cells K) (AQ Kk ps cells K')
 |[],_,_,_,h1,_,hK=>hK _ h1
 |(_,p)::_,_,_,_,h1,h2,hK=>Ey hn fun _ _=>Bj hn fun _=>VN hn (fun c hc i hi=>by
   rcases Aj4 hc with h|h
   ·exact h1 c h i hi
   ·exact h2 (_,p) List.mem_cons_self i (BL h hi)) (fun q hq=>h2 q (List.mem_cons_of_mem _ hq)) hK
theorem OH (hn:Rel none none):∀{ts:List CT}{ps:List PV}{K:List PV->List Nat->Option R}{K':List PV->List Nat->Option R'},(∀t∈ts,∀es,t ≠ .sl es)->(∀c,Rel (K c []) (K' c []))->Rel (Tz g ts ps K) (Tz g' ts ps K')
 |[],[],_,_,_,hK=>hK _
 |[],_::_,_,_,_,_=>hn
 |_::_,[],_,_,_,_=>hn
 |t::ts,p::ps,K,K',ht,hK=>by
  show Rel (Ug g t p _) (Ug g' t p _)
  have:∀{g:Nat->Option (List PV)} {S:Type} {L:PV->List Nat->Option S},Ug g t p L=NI t p fun c=>L c []:=by
   intro g S L;cases t with
   |sl es=>exact absurd rfl (ht _ (by simp) es)
   |_=>rfl
  rw[this,this];exact Uo hn fun c=>OH hn (fun t h=>ht t (by simp[h])) fun cs=>hK _
theorem Aq3 (hn:Rel none none){es:Nat}{t:TypeId}{x:PV}{K:Nat->List PV->Option R}{K':Nat->List PV->Option R'}(hx:Agr Rel g g' (A7 x)) (hK:∀m c,Rel (K m c) (K' m c)):Rel (Aj3 P g es t x K) (Aj3 P g' es t x K'):=by
 unfold Aj3;split
 ·exact Bj hn fun _=>Ja hn fun _=>hK _ _
 ·exact LL hn hx hK
 ·exact hn
theorem Aub (hn:Rel none none){t:TypeId}{x:PV}{K:Nat->Option R}{K':Nat->Option R'}(hK:∀n,Rel (K n) (K' n)):Rel (Ao3 P t x K) (Ao3 P t x K'):=by
 unfold Ao3;split
 ·exact Ij hn fun _ _ _=>Bj hn fun _=>hK _
 ·exact hn
theorem Aem (hn:Rel none none){d:Nat}{t tx:TypeId}{x:PV}{K:PV->List (Nat × Cb)->Option R} {K':PV->List (Nat × Cb)->Option R'} (hx:Agr Rel g g' (A7 x)) (hK:∀v nw,Rel (K v nw) (K' v nw)):Rel (DS P g d t tx x K) (DS P g' d t tx x K'):=by
 unfold DS;split
 ·exact Bj hn fun _=>Aq3 hn hx fun _ _=>Bj hn fun _=>hK _ _
 ·exact hn
theorem TO (hn:Rel none none){C:Kf}{call:Ah}{K:PV->List Nat->List (Nat × Cb)->Option R} {K':PV->List Nat->List (Nat × Cb)->Option R'}
  (O3:∀x∈o.op.operands.toList,C8 tm x=C8 tm' x)
  (hfg:Lo P o.op=true->∀x∈o.op.operands.toList,∀i∈Cm (C8 tm' x),(f i=f' i∧g i=g' i)∨(f i=none∧g i=none∧∀b,Rel none b))
  (hK:∀v fz nw,(Lo P o.op=false->fz=[]∧∀q∈nw,o.dst=some q.1)->(∀i∈fz,g i≠none)->Rel (K v fz nw) (K' v fz nw)):
  Rel (WD C P N call tm f g o K) (WD C P N call tm' f' g' o K'):=by
 have h0:∀v,Rel (K v [] []) (K' v [] []):=fun v=>hK v [] [] (fun _=>⟨rfl,by simp⟩) (by simp)
 have hf:Lo P o.op=true->∀x∈o.op.operands.toList,Agr Rel f f' (Cm (C8 tm' x)):=fun h x hx i hi=>(hfg h x hx i hi).imp (·.1) fun h=>⟨h.1,h.2.2⟩
 have hg:Lo P o.op=true->∀x∈o.op.operands.toList,Agr Rel g g' (Cm (C8 tm' x)):=fun h x hx i hi=>(hfg h x hx i hi).imp (·.2) fun h=>⟨h.2.1,h.2.2⟩
 unfold WD;generalize hop:o.op=op at *
 split
 ·exact WN hn (O3 _ (by simp[Op.operands])) h0
 ·exact WN hn (O3 _ (by simp[Op.operands])) h0
 ·rename_i c x y;rw[O3 c (by simp[Op.operands]),O3 x (by simp[Op.operands]),O3 y (by simp[Op.operands])]
  exact J8 hn fun _=>RO (h0 _) (h0 _)
 ·exact Ey hn fun d hd=>CD hn fun _=>hK _ _ _ (fun _=>⟨rfl,by simp[hd]⟩) (by simp)
 ·rename_i t x;rw[O3 x (by simp[Op.operands])]
  refine Ey hn fun d hd=>Bj hn fun _=>?_
  cases CC P t
  ·exact Tl hn fun _=>hK _ _ _ (fun _=>⟨rfl,by simp[hd]⟩) (by simp)
  ·exact Ws hn fun _=>hK _ _ _ (fun _=>⟨rfl,by simp[hd]⟩) (by simp)
 ·rename_i t ps
  have:(ps.toList.map fun q=>(q.1,C8 tm q.2))=ps.toList.map fun q=>(q.1,C8 tm' q.2):=by
   apply List.map_congr_left;intro q hq;rw[O3 q.2 (by simp only[Op.operands];exact List.mem_map_of_mem hq)]
  rw[this];exact Bj hn fun _=>CD hn fun _=>NV hn fun _=>Tl hn fun _=>h0 _
 ·rename_i t n ps
  have:(ps.toList.map fun q=>(q.1,C8 tm q.2))=ps.toList.map fun q=>(q.1,C8 tm' q.2):=by
   apply List.map_congr_left;intro q hq;rw[O3 q.2 (by simp only[Op.operands];exact List.mem_map_of_mem hq)]
  rw[this];refine Ey hn fun d hd=>?_
  split
  ·rename_i e hu;cases RU:Oq P [e]
   ·refine Bj hn fun _=>IR hn fun z hz=>NV hn fun cs=>OH hn ?_ fun cs'=>hK _ _ _ (fun _=>⟨rfl,by simp[hd]⟩) (by simp)
    intro c hc es he;obtain⟨l,hl,hc⟩:=List.mem_flatten.1 hc;rw[List.eq_of_mem_replicate hl] at hc;subst he
    have:Oq P [e]=true:=by
     unfold Oq;simp only[List.any_cons,List.any_nil,Bool.or_false,Bool.or_eq_true];exact .inr (List.any_eq_true.2 ⟨_,hc,rfl⟩)
    rw[this] at RU;cases RU
   refine Bj hn fun _=>IR hn fun z hz=>VN (S:=fun i=>∃x∈(Op.buildSlice t n ps).operands.toList,i∈Cm (C8 tm' x)) hn ?_ ?_ fun cs hcs=>?_
   ·intro c hc i hi;obtain⟨l,hl,hc⟩:=List.mem_flatten.1 hc;rw[List.eq_of_mem_replicate hl] at hc;rw[hz c hc] at hi;simp at hi
   ·intro q hq i hi;obtain⟨q',Iv,rfl⟩:=List.mem_map.1 hq;exact⟨q'.2,by simp only[Op.operands];exact List.mem_map_of_mem Iv,Ir hi⟩
   ·refine DQ hn (fun i hi=>?_) fun cs' m hm=>hK _ _ _ (fun h=>by simp[Lo,hu,RU] at h) hm
    obtain⟨c,hc,hi⟩:=List.mem_flatMap.1 hi;obtain⟨x,hx,hxi⟩:=hcs c hc i hi;exact hg (by simp[Lo,hu,RU]) x hx i hxi
  ·exact hn
 ·rename_i t x;rw[O3 x (by simp[Op.operands])]
  exact Aba hn (fun i hi=>hfg (by simp[Lo]) x (by simp[Op.operands]) i (P4 hi)) h0
 ·rename_i x;rw[O3 x (by simp[Op.operands])]
  exact NS hn h0
 ·rename_i op' t x y _;rw[O3 x (by simp[Op.operands]),O3 y (by simp[Op.operands])]
  exact Ago hn h0
 ·rename_i op' t x;rw[O3 x (by simp[Op.operands])]
  exact Ayv hn h0
 ·rename_i src dst x;rw[O3 x (by simp[Op.operands])]
  exact Ao6 hn (fun hds i hi=>hg (by simp[Lo,hds]) x (by simp[Op.operands]) i (P4 hi)) fun v b hb=>Ey hn fun d hd=>hK _ _ _ (fun _=>⟨rfl,fun q hq=>by rw[hd,hb q hq,hd];rfl⟩) (by simp)
 ·rename_i t x y;rw[O3 x (by simp[Op.operands]),O3 y (by simp[Op.operands])]
  refine Ey hn fun d hd=>?_
  split
  ·exact F4 hn fun _ _=>F4 hn fun _ _=>Bj hn fun _=>CD hn fun _=>hK _ _ _ (fun _=>⟨rfl,by simp[hd]⟩) (by simp)
  ·exact hn
 ·rename_i t x lo hi mx;split
  ·rw[O3 x (by simp[Op.operands])]
   have h1:lo.map (C8 tm)=lo.map (C8 tm'):=by
    cases lo with
    |none=>rfl
    |some y=>simp only[Option.map_some];rw[O3 y (by simp[Op.operands])]
   have h2:hi.map (C8 tm)=hi.map (C8 tm'):=by
    cases hi with
    |none=>rfl
    |some y=>simp only[Option.map_some];rw[O3 y (by simp[Op.operands])]
   rw[h1,h2];exact Ajn hn (fun ⟨n,e,he⟩ i hi=>hf (by simp[Lo,he]) x (by simp[Op.operands]) i (P4 hi)) h0
  ·rename_i m;rw[O3 x (by simp[Op.operands])]
   have h1:lo.map (C8 tm)=lo.map (C8 tm'):=by
    cases lo with
    |none=>rfl
    |some y=>simp only[Option.map_some];rw[O3 y (by simp[Op.operands])]
   have h2:hi.map (C8 tm)=hi.map (C8 tm'):=by
    cases hi with
    |none=>rfl
    |some y=>simp only[Option.map_some];rw[O3 y (by simp[Op.operands])]
   rw[h1,h2,O3 m (by simp[Op.operands])]
   exact Ey hn fun d hd=>Ae0 hn fun c=>hK _ _ _ (fun _=>⟨rfl,by simp[hd]⟩) (by simp)
 ·rename_i t x fl;rw[O3 x (by simp[Op.operands])]
  exact Ey hn fun _ _=>Bj hn fun _=>NS hn h0
 ·rename_i t x fl;rw[O3 x (by simp[Op.operands])]
  exact Ey hn fun _ _=>Bj hn fun _=>Oh hn fun _ _=>Tl hn fun _=>KP hn h0
 ·rename_i t x i;rw[O3 x (by simp[Op.operands]),O3 i (by simp[Op.operands])]
  exact F4 hn fun _ _=>VJ hn h0
 ·rename_i t x i;rw[O3 x (by simp[Op.operands]),O3 i (by simp[Op.operands])]
  refine F4 hn fun _ _=>?_
  split
  ·exact Ja hn fun _=>Bj hn fun _=>Ey hn fun _ _=>h0 _
  ·exact Oh hn fun _ _=>Bj hn fun _=>Tl hn fun _=>KP hn h0
  ·exact hn
 ·rename_i x i;rw[O3 x (by simp[Op.operands])]
  split
  ·exact Ey hn fun _ _=>h0 _
  ·exact hn
 ·rename_i c
  have Ps:∀x∈c.args.toList,x∈(Op.call c).operands.toList:=by
   intro x hx;simp only[Op.operands,Call.operands,Array.toList_append,List.mem_append];exact .inr hx
  have rc:∀fn,Lo P (.call c)=true->Rel (SW C P N call tm g o c fn K) (SW C P N call tm' g' o c fn K'):=by
   intro fn hmm;unfold SW;have:c.args.toList.map (C8 tm)=c.args.toList.map (C8 tm'):=List.map_congr_left fun x hx=>O3 x (Ps x hx)
   rw[this];refine Aaw hn (fun i hi=>?_) fun vs m hm=>Aa8 hn fun rv ro=>Hs hn (Bj hn fun _=>NY hn fun ws bs UL=>Bj hn fun _=>hK _ _ _ (fun h=>by rw[hmm] at h;cases h) (fun i hi=>?_))
   ·obtain⟨p,hp,hi⟩:=List.mem_flatMap.1 hi;obtain⟨x,hx,rfl⟩:=List.mem_map.1 hp;exact hg hmm x (Ps x hx) i (Ir hi)
   ·have hi':i∈m:=by
     cases hq:Oq P (Tp P o.type)<;>rw[hq] at hi
     ·simp at hi
     ·exact hi
    exact hm i hi'
  split
  ·refine Cc hn fun x _ hx=>Cc hn fun _ _ _=>?_
   rw[O3 x (Ps x (by rw[hx];simp))]
   exact Atx hn fun _=>h0 _
  ·refine Cc hn fun x _ hx=>Cc hn fun _ _ _=>?_
   rw[O3 x (Ps x (by rw[hx];simp))]
   exact Aub hn fun _=>h0 _
  ·refine Cc hn fun x _ hx=>Cc hn fun y _ hy=>Hs hn ?_
   subst hy;rw[O3 x (Ps x (by rw[hx];simp)),O3 y (Ps y (by rw[hx];simp))]
   exact Atp hn h0
  ·refine Cc hn fun x _ hx=>Cc hn fun y _ hy=>Hs hn ?_
   subst hy;rw[O3 x (Ps x (by rw[hx];simp)),O3 y (Ps y (by rw[hx];simp))]
   exact Atu hn h0
  ·rename_i hc;have hmm:Lo P (.call c)=true:=by simp[Lo,hc]
   refine Bj hn fun _=>Ey hn fun d hd=>Cc hn fun _ _ hb=>Cc hn fun x _ hx=>Hs hn (Cc hn fun _ _ _=>Cc hn fun _ _ _=>?_)
   have hxm:x∈c.args.toList:=by rw[hb,hx];simp
   rw[O3 x (Ps x hxm)];exact Aem hn (fun i hi=>hg hmm x (Ps x hxm) i (P4 hi)) fun v nw=>hK _ _ _ (fun h=>by rw[hmm] at h;cases h) (by simp)
  ·rename_i fn hc;have hmm:Lo P (.call c)=true:=by simp[Lo,hc]
   exact rc fn hmm
  ·rename_i t hc;have hmm:Lo P (.call c)=true:=by simp[Lo,hc]
   have ht:=O3 (.tmp t) (by simp[Op.operands,Call.operands,hc])
   change tm t=tm' t at ht;rw[ht];exact Axj hn fun fn=>rc fn hmm
  ·exact hn
 ·exact hn
variable {hp:Nat->Option Cb}
end
open Go.RowKit
abbrev GS:=PV × List Nat × List (Nat × Cb)
def I4 (ops:Array Oper)(o:Oper)(tm:Nat->PV):Option Bool:=
 match o.guard with
 |none=>some true
 |some (j,want)=>
  match (ops[j]?).bind (·.dst) with
  |none=>none
  |some d=>
   match tm d with
   |.sc (.bool b)=>some (b==want)
   |.sc (.tuple _)=>some false
   |_=>none
section
variable {R:Type} {r:R} {C:Kf} {P:Program} {N:Nat} {call:Ah} {ops:Array Oper} {o x:Oper} {s:St} {K:St->Option R}
theorem RN:Es C P N call ops o s K=match I4 ops o s.tm with
  |none=>none
  |some true=>Af5 C P N call o s K
  |some false=>Aw (Jh N o.dst) (K ⟨Cn s.tm o.dst (.sc undef),s.hp⟩):=by
 unfold Es I4;cases o.guard with
 |none=>rfl
 |some q=>
  obtain⟨j,want⟩:=q;cases hd:(ops[j]?).bind (·.dst) with
  |none=>simp[hd]
  |some d=>
   simp only[hd];cases ht:s.tm d with
   |sc v=>
    cases v with
    |bool b=>
     cases b<;>cases want<;>simp only[Bm,cond_true,cond_false,IQ s.tm ht]<;>rfl
    |_=>rfl
   |_=>rfl
def An5 (C:Kf)(P:Program)(N:Nat)(call:Ah)(o:Oper)(s:St):Option GS:=
 WD C P N call s.tm (rd s.hp) (Oz s.hp) o fun v fz nw=>some (v,fz,nw)
theorem Axd {K:PV->List Nat->List (Nat × Cb)->Option R}:WD C P N call s.tm (rd s.hp) (Oz s.hp) o K=(An5 C P N call o s).bind fun q=>K q.1 q.2.1 q.2.2:=by
 refine TO (Rel:=fun (a:Option R) (b:Option GS)=>a=b.bind fun q=>K q.1 q.2.1 q.2.2) (K:=K) (K':=fun v fz nw=>some (v,fz,nw)) rfl (fun _ _=>rfl) (fun _ _ _ _ _=>.inl ⟨rfl,rfl⟩) fun v fz nw _ _=>rfl
theorem Ai7 {q:GS}(h:An5 C P N call o s=some q):(Lo P o.op=false->q.2.1=[]∧∀p∈q.2.2,o.dst=some p.1)∧∀i∈q.2.1,Oz s.hp i≠none:=by
 have:=TO (C:=C) (P:=P) (N:=N) (call:=call) (o:=o) (tm:=s.tm) (tm':=s.tm) (f:=rd s.hp) (f':=rd s.hp) (g:=Oz s.hp) (g':=Oz s.hp)
  (Rel:=fun (a:Option GS)(_:Option GS)=>∀q,a=some q->(Lo P o.op=false->q.2.1=[]∧∀p∈q.2.2,o.dst=some p.1)∧∀i∈q.2.1,Oz s.hp i≠none)
  (K:=fun v fz nw=>some (v,fz,nw)) (K':=fun v fz nw=>some (v,fz,nw)) (fun _ h=>by cases h) (fun _ _=>rfl) (fun _ _ _ _ _=>.inl ⟨rfl,rfl⟩) (fun v fz nw h1 h2 q hq=>by cases hq;exact⟨h1,h2⟩)
 exact this q h
def gE (C:Kf)(P:Program)(N:Nat)(call:Ah)(ops:Array Oper)(o:Oper)(s:St):Option GS:=
 match I4 ops o s.tm with
 |none=>none
 |some true=>bif Zd C P o.op then none else An5 C P N call o s
 |some false=>some (.sc undef,[],[])
def Ka (C:Kf)(P:Program)(ops:Array Oper)(o:Oper)(tm:Nat->PV):Bool:=Zd C P o.op&&(I4 ops o tm==some true)
theorem P3 (h:Ka C P ops o s.tm=false):Es C P N call ops o s K=(gE C P N call ops o s).bind fun q=>MF N s o.dst q.1 q.2.1 q.2.2 K:=by
 rw[RN];unfold gE;unfold Ka at h;cases hv:I4 ops o s.tm with
 |none=>rfl
 |some b=>
  rw[hv] at h;cases b with
  |false=>
   show Aw _ _=MF N s o.dst (.sc undef) [] [] K;unfold MF;have h1:Cx s.hp []=true:=rfl;have h2:Bc (Ak s.hp []) []=s.hp:=rfl;rw[h1,h2,Bool.and_true]
  |true=>
   have hm:Zd C P o.op=false:=by simpa using h
   simp only[Af5,hm,cond_false];exact Axd
theorem Mz (h:Ka C P ops o s.tm=true):Es C P N call ops o s K=ER C P N call s o K:=by
 rw[RN];unfold Ka at h;simp only[Bool.and_eq_true,beq_iff_eq] at h;rw[h.2];simp only[Af5,h.1,cond_true]
theorem BZ {q:GS}(h:gE C P N call ops o s=some q):(Lo P o.op=false->q.2.1=[]∧∀p∈q.2.2,o.dst=some p.1)∧∀i∈q.2.1,Oz s.hp i≠none:=by
 unfold gE at h;split at h
 ·cases h
 ·cases hm:Zd C P o.op<;>rw[hm] at h
  ·exact Ai7 h
  ·cases h
 ·cases h;exact⟨fun _=>⟨rfl,by simp⟩,by simp⟩
theorem H7 {tm tm':Nat->PV}(h:∀t∈looks ops o,tm t=tm' t):∀y∈o.op.operands.toList,C8 tm y=C8 tm' y:=by
 intro y hy;cases y with
 |tmp t=>
  refine h t ?_;unfold looks Atn;refine List.mem_append.2 (.inl (List.mem_filterMap.2 ⟨.tmp t,hy,rfl⟩))
 |const v=>cases v<;>rfl
 |func f=>rfl
 |«global» g=>rfl
theorem Qd {tm tm':Nat->PV}(h:∀t∈looks ops o,tm t=tm' t):I4 ops o tm=I4 ops o tm':=by
 unfold I4;cases hg:o.guard with
 |none=>rfl
 |some q=>
  obtain⟨j,want⟩:=q;cases hd:(ops[j]?).bind (·.dst) with
  |none=>simp[hd]
  |some d=>
   have:tm d=tm' d:=h d (by
    unfold looks;rw[hg];refine List.mem_append.2 (.inr ?_);simp only[hd];simp)
   simp only[hd,this]
theorem KS {s':St}{q:GS}(ht:∀t∈looks ops o,s.tm t=s'.tm t)
  (hm:Lo P o.op=true->∀y∈o.op.operands.toList,∀i∈Cm (C8 s'.tm y),(rd s.hp i=rd s'.hp i∧Oz s.hp i=Oz s'.hp i)∨(rd s.hp i=none∧Oz s.hp i=none))
  (h:gE C P N call ops o s=some q):gE C P N call ops o s'=some q:=by
 unfold gE at h ⊢;rw[←Qd ht];split at h
 ·cases h
 ·cases hM:Zd C P o.op<;>rw[hM] at h
  ·have:=TO (C:=C) (P:=P) (N:=N) (call:=call) (o:=o) (tm:=s.tm) (tm':=s'.tm) (f:=rd s.hp) (f':=rd s'.hp) (g:=Oz s.hp) (g':=Oz s'.hp)
    (Rel:=fun (a b:Option GS)=>a=some q->b=some q)
    (K:=fun v fz nw=>some (v,fz,nw)) (K':=fun v fz nw=>some (v,fz,nw)) (fun h=>h) (H7 ht)
    (fun Sm y hy i hi=>(hm Sm y hy i hi).imp id fun h=>⟨h.1,h.2,fun _ h=>by cases h⟩) (fun v fz nw _ _ h=>h)
   exact this h
  ·cases h
 ·exact h
end
open Go.RowKit
theorem Xm:∀{nw:List (Nat × Cb)} {hp Di:Nat->Option Cb},Cx hp nw=true->(∀i b,(i,b)∈nw->Di i=none)->Cx Di nw=true
 |[],_,_,_,_=>rfl
 |(i,b)::nw,hp,Di,h,h'=>by
  simp only[Cx,Bool.and_eq_true,Option.isNone_iff_eq_none] at h ⊢;exact⟨⟨h' i b (by simp),h.1.2⟩,Xm h.2 fun j c hj=>h' j c (by simp[hj])⟩
section
variable {hp:Nat->Option Cb} {fz:List Nat} {nw:List (Nat × Cb)}
theorem Jd (ha:Cx hp nw=true){i:Nat}(hi:hp i≠none):Bc (Ak hp fz) nw i=if i∈fz then (hp i).map AX else hp i:=by
 obtain⟨h1,h2⟩:=Ck ha;rw[(Gp h2).2 i (fun bx hb=>hi (h1 i bx hb)),Cz]
theorem Nl (ha:Cx hp nw=true){i:Nat}{b:Cb}(hi:(i,b)∈nw):Bc (Ak hp fz) nw i=some b:=
 (Gp (Ck ha).2).1 i b hi
theorem Tu (ha:Cx hp nw=true){i:Nat}(hi:hp i=none)(hn:∀b,(i,b) ∉ nw):Bc (Ak hp fz) nw i=none:=by
 rw[(Gp (Ck ha).2).2 i hn,Cz,hi];simp
theorem Tk (ha:Cx hp nw=true){i:Nat}(hi:hp i≠none):Bc (Ak hp fz) nw i≠none:=by
 rw[Jd ha hi];cases h:hp i with
 |none=>exact absurd h hi
 |some b=>split<;>simp
theorem Ayj (b:Option Cb):(match b.map AX with|some (.st c)=>some c|some (.ar _ c)=>some c|_=>none)=(match b with|some (.st c)=>some c|some (.ar _ c)=>some c|_=>none):=by
 cases b with
 |none=>rfl
 |some b=>cases b<;>rfl
theorem Arh (b:Option Cb):(match b.map AX with|some (.ar _ c)=>some c|_=>none)=(match b with|some (.ar _ c)=>some c|_=>none):=by
 cases b with
 |none=>rfl
 |some b=>cases b<;>rfl
theorem Afi (ha:Cx hp nw=true){i:Nat}(hi:hp i≠none):rd (Bc (Ak hp fz) nw) i=rd hp i:=by
 unfold rd;rw[Jd ha hi];by_cases h:i∈fz
 ·rw[if_pos h];exact Ayj _
 ·rw[if_neg h]
theorem ZR (ha:Cx hp nw=true){i:Nat}(hi:hp i≠none):Oz (Bc (Ak hp fz) nw) i=Oz hp i:=by
 unfold Oz;rw[Jd ha hi];by_cases h:i∈fz
 ·rw[if_pos h];exact Arh _
 ·rw[if_neg h]
theorem Ams {i:Nat}(hi:hp i=none):rd hp i=none:=by unfold rd;rw[hi]
theorem Qj {i:Nat}(hi:hp i=none):Oz hp i=none:=by unfold Oz;rw[hi]
theorem A8v (b:Option Cb):(b.map AX).map AX=b.map AX:=by
 cases b with
 |none=>rfl
 |some b=>cases b<;>rfl
theorem Ajw {fx fo:List Nat}{nx no:List (Nat × Cb)} (hx:Cx hp nx=true)(ho:Cx (Bc (Ak hp fx) nx) no=true) (ho':Cx hp no=true)
  (FI:Cx (Bc (Ak hp fo) no) nx=true) (h1:∀i∈fx,hp i≠none)(h2:∀i∈fo,hp i≠none):
  Bc (Ak (Bc (Ak hp fx) nx) fo) no=Bc (Ak (Bc (Ak hp fo) no) fx) nx:=by
 funext i
 by_cases hi:hp i=none
 ·by_cases hno:∃b,(i,b)∈no
  ·obtain⟨b,hb⟩:=hno
   have hnx:∀b',(i,b') ∉ nx:=fun b' J0=>by
    have:=(Ck ho).1 i b hb;rw[Nl hx J0] at this;cases this
   rw[Nl ho hb,Jd FI (by rw[Nl ho' hb];simp),Nl ho' hb,if_neg (fun h=>h1 i h hi)]
  ·have hno:∀b,(i,b) ∉ no:=fun b hb=>hno ⟨b,hb⟩
   by_cases hnx:∃b,(i,b)∈nx
   ·obtain⟨b,hb⟩:=hnx;rw[Nl FI hb,Jd ho (by rw[Nl hx hb];simp),Nl hx hb,if_neg (fun h=>h2 i h hi)]
   ·have hnx:∀b,(i,b) ∉ nx:=fun b hb=>hnx ⟨b,hb⟩
    rw[Tu ho (Tu hx hi hnx) hno,Tu FI (Tu ho' hi hno) hnx]
 ·rw[Jd ho (Tk hx hi),Jd hx hi,Jd FI (Tk ho' hi),Jd ho' hi];split<;>split<;>first|rfl|rw[A8v]
end
section
variable {R:Type} {r:R} {C:Kf} {P:Program} {N:Nat} {call:Ah} {ops:Array Oper} {o x:Oper} {s:St} {K:St->Option R}
structure JG (C:Kf) (P:Program) (ops:Array Oper) (x o:Oper):Prop where
 xo:∀d,x.dst=some d->d ∉ looks ops o
 ne:∀d,x.dst=some d->o.dst≠some d
 ox:∀d,o.dst=some d->d ∉ looks ops x
 mx:Zd C P x.op=true->Lo P o.op=false
 mo:Zd C P o.op=true->Lo P x.op=false
theorem X9 {l:List Nat}{d:Nat}(h:l.any (Nat.beq d)=false):d ∉ l:=by
 intro hm;have:l.any (Nat.beq d)=true:=List.any_eq_true.2 ⟨d,hm,Nat.beq_refl d⟩;rw[this] at h;cases h
theorem Aqo (h:WY C P ops x o=false):JG C P ops x o:=by
 unfold WY at h;simp only[Bool.or_eq_false_iff,Bool.and_eq_false_iff] at h;obtain⟨⟨⟨h1,h2⟩,h3⟩,h4⟩:=h;refine⟨fun d hd=>?_,fun d hd he=>?_,fun d hd=>?_,fun hm=>?_,fun hm=>?_⟩
 ·simp only[hd,Bool.or_eq_false_iff] at h1;exact X9 h1.1
 ·simp only[hd,he,Bool.or_eq_false_iff] at h1;rw[Nat.beq_refl] at h1;cases h1.2
 ·simp only[hd] at h2;exact X9 h2
 ·rw[hm] at h3;rcases h3 with h|h
  ·cases h
  ·exact h
 ·rw[hm] at h4;rcases h4 with h|h
  ·cases h
  ·exact h
theorem G8 {tm:Nat->PV}{d:Option Tmp}{v:PV}{l:List Nat}(h:∀i,d=some i->i ∉ l):∀t∈l,Cn tm d v t=tm t:=by
 intro t ht;cases d with
 |none=>rfl
 |some d=>exact Ax _ _ (by rintro rfl;exact h _ rfl ht)
theorem Pt {tm:Nat->PV}{d e:Option Tmp}{u v:PV}(h:∀i,d=some i->e≠some i):Cn (Cn tm d u) e v=Cn (Cn tm e v) d u:=by
 cases d with
 |none=>rfl
 |some d=>
  cases e with
  |none=>rfl
  |some e=>exact Ae5 _ _ _ (by rintro rfl;exact h _ rfl rfl)
def Has (C:Kf)(P:Program)(o:Oper)(s:St):Prop:=(∀y∈o.op.operands.toList,∀i∈Cm (C8 s.tm y),s.hp i≠none) ∧
 (Zd C P o.op=true->Tf o.op=false->∀y∈o.op.operands.toList,∀i∈Cm (C8 s.tm y),∀c,s.hp i=some (.st c)->∀p∈c,∀k∈A7 p,s.hp k≠none)
theorem K8 {tm tm':Nat->PV}(h:∀t∈looks ops o,tm t=tm' t):Ka C P ops o tm=Ka C P ops o tm':=by
 unfold Ka;rw[Qd h]
theorem Amp (hw:Has C P o s)(xo:∀d,x.dst=some d->d ∉ looks ops o)(ne:∀d,x.dst=some d->o.dst≠some d)(ox:∀d,o.dst=some d->d ∉ looks ops x)(hx:Ka C P ops x s.tm=false)(ho:Ka C P ops o s.tm=false)
  (h:Es C P N call ops x s (fun s1=>Es C P N call ops o s1 K)=some r):Es C P N call ops o s (fun s1=>Es C P N call ops x s1 K)=some r:=by
 rw[P3 hx] at h;cases ex:gE C P N call ops x s with
 |none=>rw[ex] at h;cases h
 |some q=>
 obtain⟨vx,fx,nx⟩:=q;rw[ex] at h;obtain⟨hb,h1⟩:=A3 h;simp only[Bool.and_eq_true] at hb;have t1:∀t∈looks ops o,Cn s.tm x.dst vx t=s.tm t:=G8 xo;change Es C P N call ops o ⟨Cn s.tm x.dst vx,Bc (Ak s.hp fx) nx⟩ K=some r at h1;rw[P3 (by rw[K8 t1];exact ho)] at h1
 cases eo:gE C P N call ops o ⟨Cn s.tm x.dst vx,Bc (Ak s.hp fx) nx⟩ with
 |none=>rw[eo] at h1;cases h1
 |some q=>
 obtain⟨vo,fo,no⟩:=q;rw[eo] at h1;obtain⟨hc,h2⟩:=A3 h1;change K ⟨Cn (Cn s.tm x.dst vx) o.dst vo,Bc (Ak (Bc (Ak s.hp fx) nx) fo) no⟩=some r at h2;simp only[Bool.and_eq_true] at hc
 have eo':gE C P N call ops o s=some (vo,fo,no):=by
  refine KS t1 (fun _ y hy i hi=>?_) eo
  have:=hw.1 y hy i hi;exact .inl ⟨Afi hb.2 this,ZR hb.2 this⟩
 have ho':Cx s.hp no=true:=Xm hc.2 fun i b hi=>by
  cases hs:s.hp i with
  |none=>rfl
  |some c=>exact absurd ((Ck hc.2).1 i b hi) (Tk hb.2 (by rw[hs];simp))
 rw[P3 ho,eo']
 have FI:Cx (Bc (Ak s.hp fo) no) nx=true:=Xm hb.2 fun i b hi=>by
  refine Tu ho' ((Ck hb.2).1 i b hi) fun c X4=>?_
  have:=(Ck hc.2).1 i c X4;rw[Nl hb.2 hi] at this;cases this
 have t2:∀t∈looks ops x,s.tm t=Cn s.tm o.dst vo t:=fun t ht=>(G8 ox t ht).symm
 have ex':gE C P N call ops x ⟨Cn s.tm o.dst vo,Bc (Ak s.hp fo) no⟩=some (vx,fx,nx):=by
  refine KS t2 (fun _ y hy i hi=>?_) ex
  by_cases hs:s.hp i=none
  ·exact .inr ⟨Ams hs,Qj hs⟩
  ·exact .inl ⟨(Afi ho' hs).symm,(ZR ho' hs).symm⟩
 show Aw _ _=_;rw[hc.1,ho'];show Es C P N call ops x ⟨Cn s.tm o.dst vo,Bc (Ak s.hp fo) no⟩ K=some r;rw[P3 (by rw[←K8 t2];exact hx),ex']
 show Aw _ _=_;rw[hb.1,FI];rw[←h2];have hfx:∀i∈fx,s.hp i≠none:=fun i hi hs=>(BZ ex).2 i hi (Qj hs)
 have hfo:∀i∈fo,s.hp i≠none:=fun i hi hs=>(BZ eo').2 i hi (Qj hs)
 show K ⟨Cn (Cn s.tm o.dst vo) x.dst vx,Bc (Ak (Bc (Ak s.hp fo) no) fx) nx⟩=K _;rw[Pt ne,Ajw hb.2 hc.2 ho' FI hfx hfo]
end
open Go.RowKit
theorem IP {C:Kf}{P:Program}{o:Op}(h:Zd C P o=true):Lo P o=true:=by
 unfold Zd at h;split at h
 ·rfl
 ·rename_i c;unfold Lo;simp only;split at h<;>rename_i hc
  ·rw[hc]
  ·rw[hc]
  ·cases h
  ·rw[hc]
  ·cases h
 ·cases h
structure XV (N:Nat) (S:Nat->Prop) (dst:Option Nat) (hp Fd Di H0:Nat->Option Cb):Prop where
 keep:∀i,hp i≠none->Di i≠none
 off:∀i,i<N->dst≠some i->(¬S i∨hp i=none)->Di i=hp i∧H0 i=Fd i
 same:∀i,hp i=Fd i->Di i=H0 i
 far:∀i,¬S i->hp i≠none->Di i=hp i
section
variable {R R':Type} {Rel:Option R->Option R'->Prop} {P:Program} {N:Nat} {tm tm':Nat->PV} {hp Fd:Nat->Option Cb} {f f':Nat->Option (List PV)} {o:Oper}
theorem ZP (hn:Rel none none){t:CT}{p:PV}{K:PV->List Nat->Option R}{K':PV->List Nat->Option R'}(hf:Agr Rel f f' (A7 p)) (hK:∀c m,(∀i∈m,f i≠none∧i∈A7 p)->Rel (K c m) (K' c m)):Rel (Ug f t p K) (Ug f' t p K'):=by
 unfold Ug;split
 ·split
  ·rename_i id es' off n;cases Nat.beq es' _
   ·exact hn
   ·exact LP hn hf (by simp[A7]) fun c hc=>Bj hn fun _=>hK _ _ (by simp[hc,A7])
  ·exact Ij hn fun _ _ _=>hK _ _ (by simp)
 ·exact Uo hn fun _=>hK _ _ (by simp)
theorem UM (hn:Rel none none):∀{ts:List CT}{ps:List PV}{K:List PV->List Nat->Option R}{K':List PV->List Nat->Option R'},Agr Rel f f' (ps.flatMap A7)->(∀c m,(∀i∈m,f i≠none∧i∈ps.flatMap A7)->Rel (K c m) (K' c m))->Rel (Tz f ts ps K) (Tz f' ts ps K')
 |[],[],_,_,_,hK=>hK _ _ (by simp)
 |[],_::_,_,_,_,_=>hn
 |_::_,[],_,_,_,_=>hn
 |_::_,p::ps,_,_,hf,hK=>ZP hn (fun i hi=>hf i (by simp only[List.flatMap_cons,List.mem_append];exact .inl hi)) fun _ m hm=>UM hn (fun i hi=>hf i (by simp only[List.flatMap_cons,List.mem_append];exact .inr hi)) fun _ ms WQ=>hK _ _ fun i hi=>by
   simp only[List.flatMap_cons,List.mem_append];rcases List.mem_append.1 hi with h|h
   ·exact⟨(hm i h).1,.inl (hm i h).2⟩
   ·exact⟨(WQ i h).1,.inr (WQ i h).2⟩
theorem DE {S:Nat->Prop}{dst:Option Nat}{id:Nat}{b:Cb}{h0 h1:Nat->Option Cb}(hS:S id)(B6:hp id≠none)(h:XV N S dst hp Fd h0 h1):XV N S dst hp Fd (Ds h0 id (some b)) (Ds h1 id (some b)):=by
 refine⟨fun i hi=>?_,fun i hN hd hi=>?_,fun i hi=>?_,fun i hn hi=>?_⟩
 ·by_cases e:i=id
  ·subst e;rw[A5];simp
  ·rw[Ax _ _ e];exact h.keep i hi
 ·have e:i≠id:=by
   rintro rfl
   rcases hi with hi|hi
   ·exact hi hS
   ·exact B6 hi
  rw[Ax _ _ e,Ax _ _ e];exact h.off i hN hd hi
 ·by_cases e:i=id
  ·subst e;rw[A5,A5]
  ·rw[Ax _ _ e,Ax _ _ e];exact h.same i hi
 ·rw[Ax _ _ (by rintro rfl;exact hn hS)];exact h.far i hn hi
theorem Aca {S:Nat->Prop}{d:Nat}{b:Cb}{h0 h1:Nat->Option Cb}(hz:hp d=none)(h:XV N S (some d) hp Fd h0 h1):XV N S (some d) hp Fd (Ds h0 d (some b)) (Ds h1 d (some b)):=by
 refine⟨fun i hi=>?_,fun i hN hd hi=>?_,fun i hi=>?_,fun i hn hi=>?_⟩
 ·by_cases e:i=d
  ·subst e;rw[A5];simp
  ·rw[Ax _ _ e];exact h.keep i hi
 ·have e:i≠d:=by rintro rfl;exact hd rfl
  rw[Ax _ _ e,Ax _ _ e];exact h.off i hN hd hi
 ·by_cases e:i=d
  ·subst e;rw[A5,A5]
  ·rw[Ax _ _ e,Ax _ _ e];exact h.same i hi
 ·rw[Ax _ _ (by rintro rfl;exact hi hz)];exact h.far i hn hi
theorem BW (S:Nat->Prop)(dst:Option Nat):XV N S dst hp Fd hp Fd:=⟨fun _ h=>h,fun _ _ _ _=>⟨rfl,rfl⟩,fun _ h=>h,fun _ _ _=>rfl⟩
theorem Akx {S:Nat->Prop}{dst:Option Nat}{m:List Nat}(hm:∀i∈m,hp i≠none∧S i):XV N S dst hp Fd (Ak hp m) (Ak Fd m):=by
 refine⟨fun i hi=>fun h=>hi (F3.1 h),fun i hN hd hi=>?_,fun i hi=>?_,fun i hn hi=>?_⟩
 ·have e:i ∉ m:=by
   intro h;rcases hi with hi|hi
   ·exact hi (hm i h).2
   ·exact (hm i h).1 hi
  rw[Cz,Cz,if_neg e,if_neg e];exact⟨rfl,rfl⟩
 ·rw[Cz,Cz,hi]
 ·rw[Cz,if_neg (fun h=>hn (hm i h).2)]
theorem Adh {S:Nat->Prop}(h:∀i,S i->hp i=Fd i∨(hp i=none∧∀b,Rel none b)) {l:List Nat}(hl:∀i∈l,S i):Agr Rel (Oz hp) (Oz Fd) l:=by
 intro i hi;rcases h i (hl i hi) with h|⟨h,h'⟩
 ·left;unfold Oz;rw[h]
 ·exact .inr ⟨Qj h,h'⟩
theorem Afq (hn:Rel none none){t:TypeId}{a x:PV}{K:St->Option R}{K':St->Option R'}{S:Nat->Prop}(hS:∀i,S i->hp i=Fd i∨(hp i=none∧∀b,Rel none b)) (ha:∀i∈A7 a,S i)(hx:∀i∈Cw x,S i)
  (hK:∀Di H0,XV N S none hp Fd Di H0->Rel (K ⟨tm,Di⟩) (K' ⟨tm',H0⟩)):Rel (NX P ⟨tm,hp⟩ t a x K) (NX P ⟨tm',Fd⟩ t a x K'):=by
 unfold NX;split
 ·rename_i id off;show Rel (match hp id with|some (.st c)=>_|some (.ar false c)=>_|_=>none) (match Fd id with|some (.st c)=>_|some (.ar false c)=>_|_=>none)
  have B6:S id:=ha id (by simp[A7])
  rcases hS id B6 with h|⟨h,hb⟩
  ·rw[←h];split
   ·rename_i c hc;exact Bj hn fun _=>Tl hn fun _=>hK _ _ (DE B6 (by rw[hc];simp) (BW _ _))
   ·rename_i c hc;refine Bj hn fun _=>UM hn (Adh hS fun i hi=>hx i ?_) fun _ m hm=>Bj hn fun _=>hK _ _ (DE B6 (by rw[hc];simp) (Akx fun i hi=>⟨fun h=>(hm i hi).1 (Qj h),hx i ?_⟩))
    ·obtain⟨c,hc,hi⟩:=List.mem_flatMap.1 hi;exact BL hc hi
    ·obtain⟨c,hc,hi⟩:=List.mem_flatMap.1 (hm i hi).2;exact BL hc hi
   ·exact hn
  ·rw[h];exact hb _
 ·exact hn
theorem NF (hn:Rel none none){es:Nat}{t:TypeId}{x:PV}{K:Nat->List PV->Option R}{K':Nat->List PV->Option R'}{S:Nat->Prop}(hS:∀i,S i->hp i=Fd i∨(hp i=none∧∀b,Rel none b)) (hx:∀i∈Cw x,S i)(hK:∀m c,Rel (K m c) (K' m c)):Rel (Aic P ⟨tm,hp⟩ es t x K) (Aic P ⟨tm',Fd⟩ es t x K'):=by
 unfold Aic Aj3;split
 ·exact Bj hn fun _=>Ja hn fun _=>hK _ _
 ·exact LL hn (Adh hS fun i hi=>hx i (BG hi)) hK
 ·exact hn
theorem IW (hn:Rel none none){d:Nat}{t tx:TypeId}{b x:PV}{K:St->Option R}{K':St->Option R'}{S:Nat->Prop}(hS:∀i,S i->hp i=Fd i∨(hp i=none∧∀b,Rel none b)) (hdd:hp d=Fd d)(hb:∀i∈Cw b,S i)(hx:∀i∈Cw x,S i)
  (hK:∀v Di H0,(∀M,XV M S (some d) hp Fd Di H0)->Rel (K ⟨Ds tm d v,Di⟩) (K' ⟨Ds tm' d v,H0⟩)):Rel (Un P N ⟨tm,hp⟩ d t tx b x K) (Un P N ⟨tm',Fd⟩ d t tx b x K'):=by
 unfold Un;split
 ·refine Bj hn fun _=>?_
  cases LR P tx
  rotate_left
  ·show Rel (BC P N ⟨tm,hp⟩ d _ b x K) (BC P N ⟨tm',Fd⟩ d _ b x K');refine F4 hn fun _ n=>Ij hn fun z _ _=>?_
   show Rel (Aw (z&&Nat.blt d N&&(hp d).isNone&&_&&_&&_) _) (Aw (z&&Nat.blt d N&&(Fd d).isNone&&_&&_&&_) _);rw[←hdd];exact Bj hn fun hb=>hK _ _ _ (fun M=>Aca (by simp only[Bool.and_eq_true,Option.isNone_iff_eq_none] at hb;simp only[hb]) (BW _ _))
  rw[cond_false,cond_false];refine NF hn hS hx fun m new=>?_
  split
  ·rename_i id es off n;show Rel (match hp id with|some (.ar false c)=>Aw (Nat.beq es _&&Nat.beq off 0&&Nat.blt d N&&(hp d).isNone&&_&&_&&_&&_) _|_=>none) (match Fd id with|some (.ar false c)=>Aw (Nat.beq es _&&Nat.beq off 0&&Nat.blt d N&&(Fd d).isNone&&_&&_&&_&&_) _|_=>none)
   have B6:S id:=hb id (by simp[Cw,A7])
   rw[←hdd];rcases hS id B6 with h|⟨h,hbb⟩
   ·rw[←h];split
    ·rename_i c hc;exact Bj hn fun hb=>hK _ _ _ (fun M=>Aca (by simp only[Bool.and_eq_true,Option.isNone_iff_eq_none] at hb;simp only[hb]) (DE B6 (by rw[hc];simp) (BW _ _)))
    ·exact hn
   ·rw[h];exact hbb _
  ·refine Ij hn fun z _ _=>?_
   show Rel (Aw (z&&Nat.blt d N&&(hp d).isNone&&_&&_&&_) _) (Aw (z&&Nat.blt d N&&(Fd d).isNone&&_&&_&&_) _);rw[←hdd];exact Bj hn fun hb=>hK _ _ _ (fun M=>Aca (by simp only[Bool.and_eq_true,Option.isNone_iff_eq_none] at hb;simp only[hb]) (BW _ _))
 ·exact hn
theorem Ajv (hn:Rel none none){d:Option Tmp}{t tx:TypeId}{b x:PV}{K:St->Option R}{K':St->Option R'}{S:Nat->Prop}(hS:∀i,S i->hp i=Fd i∨(hp i=none∧∀b,Rel none b)) (hb:∀i∈Cw b,S i)(hx:∀i∈Cw x,S i)
  (hK:∀v Di H0,XV N S d hp Fd Di H0->Rel (K ⟨Cn tm d v,Di⟩) (K' ⟨Cn tm' d v,H0⟩)):Rel (ZV P N ⟨tm,hp⟩ d t tx b x K) (ZV P N ⟨tm',Fd⟩ d t tx b x K'):=by
 unfold ZV;split
 ·refine Bj hn fun _=>?_
  refine NF hn hS hx fun m new=>?_
  split
  ·rename_i id es off n;show Rel (match hp id with|some (.ar false c)=>Aw (Nat.beq es _&&_&&_) _|_=>none) (match Fd id with|some (.ar false c)=>Aw (Nat.beq es _&&_&&_) _|_=>none)
   have B6:S id:=hb id (by simp[Cw,A7])
   rcases hS id B6 with h|⟨h,hbb⟩
   ·rw[←h];split
    ·rename_i c hc;exact Bj hn fun _=>hK _ _ _ (DE B6 (by rw[hc];simp) (BW _ _))
    ·exact hn
   ·rw[h];exact hbb _
  ·exact hn
 ·exact hn
def A0c (o:Oper)(tm:Nat->PV)(i:Nat):Prop:=∃x∈o.op.operands.toList,i∈Cm (C8 tm x)
def GK (o:Oper)(tm:Nat->PV)(hp:Nat->Option Cb)(i:Nat):Prop:=A0c o tm i∨Tf o.op=false∧∃id c,A0c o tm id∧hp id=some (.st c)∧∃p∈c,i∈A7 p
theorem Aoq (hn:Rel none none){mv:Bool}{t:CT}{p:PV}{K:PV->List Nat->List Nat->Option R}{K':PV->List Nat->List Nat->Option R'}{S:Nat->Prop}(hS:∀i,S i->hp i=Fd i∨(hp i=none∧∀b,Rel none b)) (hp_:∀i∈A7 p,S i)
  (hK:∀c m x,(∀i∈m++x,hp i≠none∧S i)->Rel (K c m x) (K' c m x)):Rel (Ans mv hp t p K) (Ans mv Fd t p K'):=by
 have frz:∀{t:CT} {p:PV},(∀i∈A7 p,S i)->Rel (Ug (Oz hp) t p fun c m=>K c m []) (Ug (Oz Fd) t p fun c m=>K' c m []):=fun h=>ZP hn (Adh hS h) fun c m hm=>hK _ _ _ fun i hi=>by
  rw[List.append_nil] at hi;exact⟨fun e=>(hm i hi).1 (Qj e),h i (hm i hi).2⟩
 unfold Ans;split
 ·rename_i es;cases mv<;>simp only[cond_true,cond_false]
  ·exact frz hp_
  ·split
   ·rename_i id es' off n;rcases hS id (hp_ id (by simp[A7])) with h|⟨h,hb⟩
    ·rw[←h];split
     ·rename_i c hc;cases (Nat.beq es' es&&Nat.beq off 0)<;>simp only[cond_true,cond_false]
      ·exact frz hp_
      ·exact Bj hn fun _=>hK _ _ _ fun i hi=>by
        simp only[List.nil_append,List.mem_singleton] at hi;subst hi;exact⟨by rw[hc];simp,hp_ i (by simp[A7])⟩
     ·exact frz hp_
    ·rw[h]
     have:(Ug (Oz hp) (.sl es) (.view id es' off n) fun c m=>K c m [])=none:=by
      unfold Ug;simp only;cases Nat.beq es' es
      ·rfl
      ·simp only[cond_true,Qj h,F6]
     show Rel (Ug (Oz hp) (.sl es) (.view id es' off n) fun c m=>K c m []) _
     rw[this];exact hb _
   ·refine Ij hn fun z n c=>?_
    cases z
    ·exact hK _ _ _ (by simp)
    ·exact hK _ _ _ (by simp)
 ·exact Uo hn fun _=>hK _ _ _ (by simp)
theorem Y3 (hn:Rel none none){mv:Bool}{S:Nat->Prop}(hS:∀i,S i->hp i=Fd i∨(hp i=none∧∀b,Rel none b)):∀{ts:List CT}{ps:List PV}{K:List PV->List Nat->List Nat->Option R}{K':List PV->List Nat->List Nat->Option R'},(∀p∈ps,∀i∈A7 p,S i) ->
  (∀c m x,(∀i∈m++x,hp i≠none∧S i)->Rel (K c m x) (K' c m x))->Rel (OE mv hp ts ps K) (OE mv Fd ts ps K')
 |[],[],_,_,_,hK=>hK _ _ _ (by simp)
 |[],_::_,_,_,_,_=>hn
 |_::_,[],_,_,_,_=>hn
 |_::_,p::ps,_,_,hp_,hK=>Aoq hn hS (hp_ p (by simp)) fun _ m x hm=>Y3 hn hS (fun q hq=>hp_ q (by simp[hq])) fun _ ms xs WQ=>hK _ _ _ fun i hi=>by
   simp only[List.mem_append] at hi hm WQ;rcases hi with (hi|hi)|(hi|hi)
   ·exact hm i (.inl hi)
   ·exact WQ i (.inl hi)
   ·exact hm i (.inr hi)
   ·exact WQ i (.inr hi)
theorem Afm (hn:Rel none none){C:Kf}{f:FuncId}{i:Nat}{t:TypeId}{p:PV}{K:PV->List Nat->List Nat->List J9->Option R}{K':PV->List Nat->List Nat->List J9->Option R'}{S:Nat->Prop}(hS:∀i,S i->hp i=Fd i∨(hp i=none∧∀b,Rel none b))
  (hp_:∀i∈Cm p,S i)(hc:∀i∈Cm p,∀c,Fd i=some (.st c)->∀q∈c,∀k∈A7 q,S k)
  (hK:∀v m x l,(∀i∈m++x++l.flatMap J9.ids,hp i≠none∧S i)->Rel (K v m x l) (K' v m x l)):Rel (NW C P f hp i t p K) (NW C P f Fd i t p K'):=by
 unfold NW;split
 ·split
  ·rename_i id off;have B6:S id:=hp_ id (by simp[Cm,Cw,A7])
   rcases hS id B6 with h|⟨h,hb⟩
   ·rw[h];split
    ·rename_i c hc1;refine Bj hn fun _=>Y3 hn hS (fun q hq k hk=>hc id (by simp[Cm,Cw,A7]) c hc1 q (List.mem_of_mem_drop (List.mem_of_mem_take hq)) k hk) fun cs m x hm=>hK _ _ _ _ fun k hk=>?_
     rcases List.mem_append.1 hk with hk|hk
     ·exact hm k hk
     ·simp only[List.flatMap_cons,List.flatMap_nil,J9.ids,List.append_nil,List.mem_singleton] at hk;subst hk;exact⟨by rw[h,hc1];simp,B6⟩
    ·exact hn
   ·rw[h];exact hb _
  ·exact hn
 ·cases C.lnd f i
  ·cases C6 P t
   ·exact Y3 hn hS (fun q hq k hk=>by
     simp at hq;subst hq;exact hp_ k (P4 hk)) fun cs m x hm=>Cc hn fun _ _ _=>Hs hn (hK _ _ _ _ (by simpa using hm))
   ·refine Oh hn fun cs hcs=>Y3 hn hS (fun q hq k hk=>hp_ k ?_) fun cs m x hm=>hK _ _ _ _ (by simpa using hm)
    subst hcs;exact List.mem_flatMap.2 ⟨q,hq,hk⟩
  ·refine Ey hn fun e he=>?_
   unfold Ar9;split
   ·rename_i id es' off n;have B6:S id:=hp_ id (by simp[Cm,Cw,A7])
    rcases hS id B6 with h|⟨h,hb⟩
    ·rw[h];split
     ·rename_i c hc1;refine Bj hn fun _=>hK _ _ _ _ fun k hk=>?_
      simp only[List.nil_append,List.flatMap_cons,List.flatMap_nil,J9.ids,List.append_nil,List.mem_singleton] at hk;subst hk;exact⟨by rw[h,hc1];simp,B6⟩
     ·exact hn
    ·rw[h];exact hb _
   ·exact Ij hn fun _ _ _=>Bj hn fun _=>hK _ _ _ _ (by simp[J9.ids])
theorem UF (hn:Rel none none){C:Kf}{f:FuncId}{S:Nat->Prop}(hS:∀i,S i->hp i=Fd i∨(hp i=none∧∀b,Rel none b)):∀{ts:List TypeId}{ps:List PV}{i:Nat}{K:List PV->List Nat->List Nat->List J9->Option R}{K':List PV->List Nat->List Nat->List J9->Option R'},
  (∀p∈ps,∀i∈Cm p,S i)->(∀p∈ps,∀i∈Cm p,∀c,Fd i=some (.st c)->∀q∈c,∀k∈A7 q,S k) ->
  (∀v m x l,(∀i∈m++x++l.flatMap J9.ids,hp i≠none∧S i)->Rel (K v m x l) (K' v m x l))->Rel (Abn C P f hp i ts ps K) (Abn C P f Fd i ts ps K')
 |[],[],_,_,_,_,_,hK=>hK _ _ _ _ (by simp)
 |[],_::_,_,_,_,_,_,_=>hn
 |_::_,[],_,_,_,_,_,_=>hn
 |_::_,p::ps,_,_,_,hp_,hc,hK=>Afm hn hS (hp_ p (by simp)) (hc p (by simp)) fun _ m x l hm=>UF hn hS (fun q hq=>hp_ q (by simp[hq])) (fun q hq=>hc q (by simp[hq])) fun _ ms xs ls WQ=>hK _ _ _ _ fun i hi=>by
   simp only[List.mem_append,List.flatMap_append] at hi hm WQ;rcases hi with ((hi|hi)|(hi|hi))|(hi|hi)
   ·exact hm i (.inl (.inl hi))
   ·exact WQ i (.inl (.inl hi))
   ·exact hm i (.inl (.inr hi))
   ·exact WQ i (.inl (.inr hi))
   ·exact hm i (.inr hi)
   ·exact WQ i (.inr hi)
theorem Aum (hn:Rel none none){t:Nat}{ct:CT}{was p:PV}{K:Nat->PV->List (Nat × Cb)->Option R} {K':Nat->PV->List (Nat × Cb)->Option R'} (hK:∀t c b,(∀q∈b,∃k,q.1=nid N k)->Rel (K t c b) (K' t c b)):Rel (Ani N t ct was p K) (Ani N t ct was p K'):=by
 unfold Ani;split
 ·split
  ·exact Ame hn fun _ _=>hK _ _ _ (by intro q hq;simp only[List.mem_singleton] at hq;subst hq;exact⟨t,rfl⟩)
  ·exact Ij hn fun _ _ _=>hK _ _ _ (by simp)
 ·exact Uo hn fun _=>hK _ _ _ (by simp)
theorem Abi (hn:Rel none none):∀{cts:List CT}{ws ps:List PV}{t:Nat}{K:Nat->List PV->List (Nat × Cb)->Option R} {K':Nat->List PV->List (Nat × Cb)->Option R'},(∀t c b,(∀q∈b,∃k,q.1=nid N k)->Rel (K t c b) (K' t c b))->Rel (ZI N t cts ws ps K) (ZI N t cts ws ps K')
 |[],[],_,_,_,_,hK=>Hs hn (hK _ _ _ (by simp))
 |[],_::_,_,_,_,_,_=>hn
 |_::_,[],_,_,_,_,_=>hn
 |_::_,_::_,_,_,_,_,hK=>Cc hn fun _ _ _=>Aum hn fun _ _ b hb=>Abi hn fun _ _ bs UL=>hK _ _ _ fun q hq=>by
   rcases List.mem_append.1 hq with h|h
   ·exact hb q h
   ·exact UL q h
theorem DN (hn:Rel none none){S:Nat->Prop}{dst:Option Nat}:∀{l:List J9}{ro:List (List PV)} {t:Nat}{h0 h1:Nat->Option Cb}{K:(Nat->Option Cb)->List (Nat × Cb)->Option R} {K':(Nat->Option Cb)->List (Nat × Cb)->Option R'},
  XV N S dst hp Fd h0 h1->(∀i∈l.flatMap J9.ids,hp i≠none∧S i∧hp i=Fd i)->(∀h0' ZM b,XV N S dst hp Fd h0' ZM->(∀q∈b,∃k,q.1=nid N k)->Rel (K h0' b) (K' ZM b))->Rel (HW N t l ro h0 K) (HW N t l ro h1 K')
 |[],_,_,_,_,_,_,hT,_,hK=>Hs hn (hK _ _ _ hT (by simp))
 |.var id off cts ws::l,ro,t,h0,h1,K,K',hT,hl,hK=>by
  unfold HW;refine Cc hn fun cs ro _=>Abi hn fun t' cs' bs UL=>?_
  have B6:=hl id (by simp[J9.ids])
  rw[←hT.same id B6.2.2];split
  ·exact DN hn (DE B6.2.1 B6.1 hT) (fun i hi=>hl i (by simp only[List.flatMap_cons,List.mem_append];exact .inr hi)) fun h0' ZM b hT' hb=>hK _ _ _ hT' fun q hq=>by
    rcases List.mem_append.1 hq with h|h
    ·exact UL q h
    ·exact hb q h
  ·exact hn
 |.row id::l,ro,t,h0,h1,K,K',hT,hl,hK=>by
  unfold HW;have B6:=hl id (by simp[J9.ids])
  exact Cc hn fun cs ro _=>DN hn (DE B6.2.1 B6.1 hT) (fun i hi=>hl i (by simp only[List.flatMap_cons,List.mem_append];exact .inr hi)) hK
 |.none::l,ro,t,h0,h1,K,K',hT,hl,hK=>by
  unfold HW;exact Cc hn fun cs ro _=>DN hn hT (fun i hi=>hl i (by simp only[List.flatMap_cons,List.mem_append];exact .inr hi)) hK
theorem Afd (h:∀i,N<=i->hp i=Fd i)(hN:0<N):∀k t,Aga N hp k t=Aga N Fd k t
 |0,_=>rfl
 |k+1,t=>by
  unfold Aga;rw[h (nid N t) (by unfold nid;exact Nat.le_mul_of_pos_right _ (by omega)),Afd h hN k (t+1)]
theorem Abh {h0 h1:Nat->Option Cb}:∀{nw:List (Nat × Cb)},(∀q∈nw,h0 q.1=h1 q.1)->Cx h0 nw=Cx h1 nw
 |[],_=>rfl
 |(i,b)::nw,h=>by
  unfold Cx;rw[h (i,b) (by simp),Abh (fun q hq=>h q (by simp[hq]))]
theorem UO {S:Nat->Prop}{dst:Option Nat}{h0 h1:Nat->Option Cb}(hT:XV N S dst hp Fd h0 h1):∀{nw:List (Nat × Cb)} {g0 g1:Nat->Option Cb},XV N S dst hp Fd g0 g1->(∀q∈nw,N<=q.1∨dst=some q.1)->(∀q∈nw,hp q.1=none)->XV N S dst hp Fd (Bc g0 nw) (Bc g1 nw)
 |[],_,_,h,_,_=>h
 |(i,b)::nw,g0,g1,h,hi,hz=>by
  refine UO hT (nw:=nw) ⟨fun k hk=>?_,fun k hN hd hk=>?_,fun k hk=>?_,fun k hn hk=>?_⟩ (fun q hq=>hi q (by simp[hq])) (fun q hq=>hz q (by simp[hq]))
  ·by_cases e:k=i
   ·subst e;rw[A5];simp
   ·rw[Ax _ _ e];exact h.keep k hk
  ·have e:k≠i:=by
    rintro rfl
    rcases hi (k,b) (by simp) with q|q
    ·simp only at q;omega
    ·exact hd q
   rw[Ax _ _ e,Ax _ _ e];exact h.off k hN hd hk
  ·by_cases e:k=i
   ·subst e;rw[A5,A5]
   ·rw[Ax _ _ e,Ax _ _ e];exact h.same k hk
  ·rw[Ax _ _ (by rintro rfl;exact hk (hz (k,b) (by simp)))];exact h.far k hn hk
theorem A3u {S:Nat->Prop}{dst:Option Nat}{m x:List Nat}(hm:∀i∈m++x,hp i≠none∧S i):XV N S dst hp Fd (CN (Ak hp m) x) (CN (Ak Fd m) x):=by
 refine⟨fun i hi h=>?_,fun i hN hd hi=>?_,fun i hi=>?_,fun i hn hi=>?_⟩
 ·rw[I5] at h;have h1:Ak hp m i≠none:=fun e=>hi (F3.1 e)
  split at h
  ·cases hq:Ak hp m i with
   |none=>exact h1 hq
   |some b=>rw[hq] at h;cases h
  ·exact h1 h
 ·have e:i ∉ m∧i ∉ x:=by
   refine⟨fun h=>?_,fun h=>?_⟩<;>(rcases hi with hi|hi)
   ·exact hi (hm i (by simp[h])).2
   ·exact (hm i (by simp[h])).1 hi
   ·exact hi (hm i (by simp[h])).2
   ·exact (hm i (by simp[h])).1 hi
  rw[I5,I5,if_neg e.2,if_neg e.2,Cz,Cz,if_neg e.1,if_neg e.1];exact⟨rfl,rfl⟩
 ·rw[I5,I5,Cz,Cz,hi]
 ·rw[I5,Cz,if_neg (fun h=>hn (hm i (by simp[h])).2),if_neg (fun h=>hn (hm i (by simp[h])).2)]
theorem Ahr (hn:Rel none none){C:Kf}{call:Ah}{f:FuncId}{c:Call}{K:St->Option R}{K':St->Option R'}{S:Nat->Prop}(O3:c.args.toList.map (C8 tm)=c.args.toList.map (C8 tm')) (hS:∀i,S i->hp i=Fd i∨(hp i=none∧∀b,Rel none b))
  (hp_:∀p∈c.args.toList.map (C8 tm'),∀i∈Cm p,S i) (hc:∀p∈c.args.toList.map (C8 tm'),∀i∈Cm p,∀c,Fd i=some (.st c)->∀q∈c,∀k∈A7 q,S k)
  (hdd:∀d,o.dst=some d->hp d=Fd d)(hNN:∀i,N<=i->hp i=Fd i)
  (hK:∀v Di H0,XV N S o.dst hp Fd Di H0->Rel (K ⟨Cn tm o.dst v,Di⟩) (K' ⟨Cn tm' o.dst v,H0⟩)):Rel (MK C P N call ⟨tm,hp⟩ o f c K) (MK C P N call ⟨tm',Fd⟩ o f c K'):=by
 unfold MK;simp only[O3];refine UF hn hS hp_ hc fun vs m x l hm=>Bj hn fun hb=>Aa8 hn fun rv ro=>NY hn fun ws bs UL=>Bj hn fun _=>?_
 simp only[Bool.and_eq_true] at hb;have hN:0<N:=Nat.lt_of_succ_le (Nat.le_of_ble_eq_true hb.1.2);rw[Afd hNN hN];by_cases Ael:∃i∈l.flatMap J9.ids,hp i≠Fd i
 ·obtain⟨i,hi,Fu⟩:=Ael;obtain⟨h1,h2⟩:=hm i (List.mem_append.2 (.inr hi));rcases hS i h2 with h|⟨h,_⟩
  ·exact absurd h Fu
  ·exact absurd h h1
 have hl:∀i∈l.flatMap J9.ids,hp i≠none∧S i∧hp i=Fd i:=fun i hi=>⟨(hm i (List.mem_append.2 (.inr hi))).1,(hm i (List.mem_append.2 (.inr hi))).2,Classical.byContradiction fun h=>Ael ⟨i,hi,h⟩⟩
 have hT0:XV N S o.dst hp Fd (CN (Ak hp m) x) (CN (Ak Fd m) x):=A3u fun i hi=>hm i (List.mem_append.2 (.inl hi))
 refine DN hn hT0 hl fun h0 h1 bs' hT Bby=>?_
 have Anl:∀q∈bs++bs',N<=q.1∨o.dst=some q.1:=by
  intro q hq;rcases List.mem_append.1 hq with hq|hq
  ·obtain⟨j,hj⟩:=UL q hq;cases hd:o.dst with
   |none=>
    rw[hd] at hj;left;rw[hj];exact Nat.le_add_right _ _
   |some d=>
    rw[hd] at hj;change q.1=d+N*j at hj;cases j with
    |zero=>right;rw[hj];simp
    |succ j=>left;rw[hj,Nat.mul_add];omega
  ·obtain⟨k,hk⟩:=Bby q hq;left;rw[hk];unfold nid;exact Nat.le_mul_of_pos_right _ (by omega)
 have Zt:∀q∈bs++bs',h0 q.1=h1 q.1:=by
  intro q hq;refine hT.same q.1 ?_;rcases Anl q hq with h|h
  ·exact hNN _ h
  ·exact hdd _ h
 rw[Abh Zt]
 exact Bj hn fun hb=>hK _ _ _ (UO hT hT Anl fun q hq=>by
  cases hz:hp q.1 with
  |none=>rfl
  |some c=>exact absurd ((Zt q hq).trans ((Ck hb).1 q.1 q.2 hq)) (hT.keep q.1 (by rw[hz];simp)))
theorem Pp (hn:Rel none none){C:Kf}{call:Ah}{K:St->Option R}{K':St->Option R'}(O3:∀x∈o.op.operands.toList,C8 tm x=C8 tm' x)
  (hS:∀i,GK o tm' Fd i->hp i=Fd i∨(hp i=none∧∀b,Rel none b)) (hdd:∀d,o.dst=some d->hp d=Fd d)(hNN:∀i,N<=i->hp i=Fd i)
  (hK:∀v Di H0,XV N (GK o tm' Fd) o.dst hp Fd Di H0->Rel (K ⟨Cn tm o.dst v,Di⟩) (K' ⟨Cn tm' o.dst v,H0⟩)):Rel (ER C P N call ⟨tm,hp⟩ o K) (ER C P N call ⟨tm',Fd⟩ o K'):=by
 unfold ER;have hl:∀x∈o.op.operands.toList,∀i∈Cm (C8 tm' x),GK o tm' Fd i:=fun x hx i hi=>.inl ⟨x,hx,hi⟩
 have QN:Tf o.op=false->∀x∈o.op.operands.toList,∀i∈Cm (C8 tm' x),∀c,Fd i=some (.st c)->∀q∈c,∀k∈A7 q,GK o tm' Fd k:=fun ha x hx i hi c hc q hq k hk=>.inr ⟨ha,i,c,⟨x,hx,hi⟩,hc,q,hq,hk⟩
 generalize hLd:GK o tm' Fd=S at *
 generalize hop:o.op=op at *
 split
 ·rename_i t x y;simp only[O3 x (by simp[Op.operands]),O3 y (by simp[Op.operands])]
  refine Bj hn fun hd=>Afq (N:=N) hn hS (fun i hi=>hl x (by simp[Op.operands]) i (P4 hi)) (fun i hi=>hl y (by simp[Op.operands]) i (Ir hi)) fun Di H0 hh=>?_
  have hd':=Option.isNone_iff_eq_none.1 hd;have:=hK .top Di H0 (by rw[hd'];exact hh)
  rw[hd'] at this;exact this
 ·rename_i c
  have Ps:∀x∈c.args.toList,x∈(Op.call c).operands.toList:=by
   intro x hx;simp only[Op.operands,Call.operands,Array.toList_append,List.mem_append];exact .inr hx
  split
  ·rename_i hc;refine Ey hn fun d hd=>Cc hn fun x _ hx=>Cc hn fun y _ hy=>Hs hn (Cc hn fun _ _ _=>Cc hn fun _ _ _=>?_)
   subst hy;have hxm:=Ps x (by rw[hx];simp)
   have hym:=Ps y (by rw[hx];simp)
   simp only[O3 x hxm,O3 y hym];refine IW hn hS (hdd d hd) (fun i hi=>hl x hxm i (Ir hi)) (fun i hi=>hl y hym i (Ir hi)) fun v Di H0 hh=>?_
   have:=hK v Di H0 (by rw[hd];exact hh N)
   rw[hd] at this;exact this
  ·rename_i hc;refine Cc hn fun x _ hx=>Cc hn fun y _ hy=>Hs hn (Cc hn fun _ _ _=>Cc hn fun _ _ _=>?_)
   subst hy;have hxm:=Ps x (by rw[hx];simp)
   have hym:=Ps y (by rw[hx];simp)
   simp only[O3 x hxm,O3 y hym];exact Ajv hn hS (fun i hi=>hl x hxm i (Ir hi)) (fun i hi=>hl y hym i (Ir hi)) hK
  ·rename_i f hcf;refine Ahr hn (List.map_congr_left fun x hx=>O3 x (Ps x hx)) hS (fun p hp i hi=>?_) (fun p hp i hi=>?_) hdd hNN hK
   ·obtain⟨x,hx,rfl⟩:=List.mem_map.1 hp;exact hl x (Ps x hx) i hi
   ·obtain⟨x,hx,rfl⟩:=List.mem_map.1 hp;exact QN (by simp only[Tf,hcf]) x (Ps x hx) i hi
  ·exact hn
 ·exact hn
theorem UT (hn:Rel none none){C:Kf}{call:Ah}{K:St->Option R}{K':St->Option R'}(O3:∀x∈o.op.operands.toList,C8 tm x=C8 tm' x)(hK:∀v Di,(∀i,hp i≠none->Di i≠none)->Rel (K ⟨Cn tm o.dst v,Di⟩) (K' ⟨Cn tm' o.dst v,Di⟩)):Rel (ER C P N call ⟨tm,hp⟩ o K) (ER C P N call ⟨tm',hp⟩ o K'):=
 Pp hn O3 (fun _ _=>.inl rfl) (fun _ _=>rfl) (fun _ _=>rfl) fun v Di H0 hT=>by
  have:Di=H0:=funext fun i=>hT.same i rfl
  subst this;exact hK v Di hT.keep
end
section
variable {R:Type} {r:R} {C:Kf} {P:Program} {N:Nat} {call:Ah} {ops:Array Oper} {o x:Oper} {s:St} {K:St->Option R}
theorem Adz {tm:Nat->PV}{hp Di:Nat->Option Cb}{tm':Nat->PV}{q:GS}(hm:Lo P o.op=false)(ht:∀t∈looks ops o,tm t=tm' t)(h:gE C P N call ops o ⟨tm,hp⟩=some q):gE C P N call ops o ⟨tm',Di⟩=some q:=
 KS (s:=⟨tm,hp⟩) (s':=⟨tm',Di⟩) ht (fun h=>by rw[hm] at h;cases h) h
theorem MU {tm:Nat->PV}{hp:Nat->Option Cb}(hm:Lo P o.op=false)(h:Es C P N call ops o ⟨tm,hp⟩ K=some r):
  ∃v nw,gE C P N call ops o ⟨tm,hp⟩=some (v,[],nw)∧Jh N o.dst=true∧Cx hp nw=true∧(∀p∈nw,o.dst=some p.1)∧K ⟨Cn tm o.dst v,Bc hp nw⟩=some r:=by
 have hM:Zd C P o.op=false:=by
  cases hh:Zd C P o.op
  ·rfl
  ·rw[IP hh] at hm;cases hm
 rw[P3 (by simp[Ka,hM])] at h
 cases e:gE C P N call ops o ⟨tm,hp⟩ with
 |none=>rw[e] at h;cases h
 |some q=>
  obtain⟨v,fz,nw⟩:=q;obtain⟨h1,h2⟩:=(BZ e).1 hm;simp only at h1 h2;subst h1;rw[e] at h;obtain⟨hb,h⟩:=A3 h;simp only[Bool.and_eq_true] at hb;exact⟨v,nw,rfl,hb.1,hb.2,h2,h⟩
theorem SX {tm:Nat->PV}{hp:Nat->Option Cb}{v:PV}{nw:List (Nat × Cb)} (hm:Lo P o.op=false)(e:gE C P N call ops o ⟨tm,hp⟩=some (v,[],nw)) (hd:Jh N o.dst=true)(ha:Cx hp nw=true)(h:K ⟨Cn tm o.dst v,Bc hp nw⟩=some r):Es C P N call ops o ⟨tm,hp⟩ K=some r:=by
 have hM:Zd C P o.op=false:=by
  cases hh:Zd C P o.op
  ·rfl
  ·rw[IP hh] at hm;cases hm
 rw[P3 (by simp[Ka,hM]),e]
 show Aw _ _=_;have ha':Cx hp nw=true:=ha;rw[hd,ha'];exact h
theorem R9 {hp:Nat->Option Cb}{nw:List (Nat × Cb)} (ha:Cx hp nw=true){i:Nat}(hi:∀p∈nw,p.1≠i):Bc hp nw i=hp i:=
 (Gp (Ck ha).2).2 i fun b hb=>hi _ hb rfl
theorem Avq {hp Di:Nat->Option Cb}{nw:List (Nat × Cb)} (ha:Cx hp nw=true){g:Nat->Option Cb}(h1:∀i,(∀p∈nw,p.1≠i)->g i=Di i) (h2:∀i,(∃p∈nw,p.1=i)->g i=Bc hp nw i) (ha':Cx Di nw=true):g=Bc Di nw:=by
 funext i
 by_cases h:∃p∈nw,p.1=i
 ·rw[h2 i h];obtain⟨⟨j,b⟩,hp,rfl⟩:=h;rw[(Gp (Ck ha).2).1 j b hp,(Gp (Ck ha').2).1 j b hp]
 ·have h':∀p∈nw,p.1≠i:=fun p hp e=>h ⟨p,hp,e⟩
  rw[h1 i h',R9 ha' h']
theorem Ax5 (ap:JG C P ops x o)(hx:Ka C P ops x s.tm=true)
  (h:Es C P N call ops x s (fun s1=>Es C P N call ops o s1 K)=some r):Es C P N call ops o s (fun s1=>Es C P N call ops x s1 K)=some r:=by
 have hm:Lo P o.op=false:=ap.mx (by unfold Ka at hx;simp only[Bool.and_eq_true] at hx;exact hx.1)
 rw[Mz hx] at h;obtain⟨tm,hp⟩:=s;have look:∀v,∀t∈looks ops o,Cn tm x.dst v t=tm t:=fun v=>G8 ap.xo
 have h1:=Pp (P:=P) (N:=N) (o:=x) (tm:=tm) (tm':=tm) (hp:=hp) (Fd:=hp) (K:=fun s1=>Es C P N call ops o s1 K) (K':=fun _=>none)
  (Rel:=fun (a:Option R)(_:Option R)=>a=some r->∃v nw,gE C P N call ops o ⟨tm,hp⟩=some (v,[],nw)∧Jh N o.dst=true∧(∀p∈nw,o.dst=some p.1)∧Cx hp nw=true) (fun h=>by cases h) (fun _ _=>rfl) (fun _ _=>.inl rfl) (fun _ _=>rfl) (fun _ _=>rfl) (fun v Di _ hT h=>by
   obtain⟨u,nw,hu,hd,ha,hn,_⟩:=MU hm h;refine⟨u,nw,Adz hm (look v) hu,hd,hn,Xm ha fun i b hi=>?_⟩
   cases hh:hp i with
   |none=>rfl
   |some c=>exact absurd ((Ck ha).1 i b hi) (hT.keep i (by rw[hh];simp))) h
 obtain⟨v,nw,hv,hd,hn,ha⟩:=h1;refine SX hm hv hd ha ?_;have t2:∀t∈looks ops x,tm t=Cn tm o.dst v t:=fun t ht=>(G8 ap.ox t ht).symm
 rw[Mz (by rw[←K8 t2];exact hx)]
 refine Pp (P:=P) (N:=N) (o:=x) (tm:=tm) (tm':=Cn tm o.dst v) (hp:=hp) (Fd:=Bc hp nw) (Rel:=fun (a b:Option R)=>a=some r->b=some r) (fun h=>by cases h) (H7 t2) (fun i _=>?_) (fun d hxd=>?_) (fun i hi=>(R9 ha fun p hp e=>by have:=Xa hd (hn p hp);omega).symm) (fun u Di H0 hT h=>?_) h
 ·by_cases hi:∃p∈nw,p.1=i
  ·obtain⟨⟨j,b⟩,Fd,rfl⟩:=hi;exact .inr ⟨(Ck ha).1 j b Fd,fun _ h=>by cases h⟩
  ·exact .inl (R9 ha fun p hp e=>hi ⟨p,hp,e⟩).symm
 ·refine (R9 ha fun p hp e=>?_).symm
  have:=hn p hp;rw[e] at this;exact ap.ne d hxd this
 ·obtain⟨v',nw',U5,_,ha',_,h'⟩:=MU hm h;have he:=Adz (Di:=hp) hm (look u) U5;rw[hv] at he;simp only[Option.some.injEq,Prod.mk.injEq,true_and] at he;obtain⟨rfl,rfl⟩:=he
  have hh:H0=Bc Di nw:=by
   refine Avq ha (fun i hi=>?_) (fun i hi=>?_) ha'
   ·exact (hT.same i (R9 ha hi).symm).symm
   ·obtain⟨⟨j,b⟩,Fd,rfl⟩:=hi;refine (hT.off j (Xa hd (hn _ Fd)) (fun e=>ap.ne j e (hn _ Fd)) (.inr ((Ck ha).1 j b Fd))).2
  rw[hh,←Pt ap.ne];exact h'
theorem Azi (hw:Has C P o s)(ap:JG C P ops x o)(ho:Ka C P ops o s.tm=true)
  (h:Es C P N call ops x s (fun s1=>Es C P N call ops o s1 K)=some r):Es C P N call ops o s (fun s1=>Es C P N call ops x s1 K)=some r:=by
 have hm:Lo P x.op=false:=ap.mo (by unfold Ka at ho;simp only[Bool.and_eq_true] at ho;exact ho.1)
 obtain⟨tm,hp⟩:=s;obtain⟨v,nw,hv,hd,ha,hn,h1⟩:=MU hm h;have t1:∀t∈looks ops o,Cn tm x.dst v t=tm t:=G8 ap.xo;change Es C P N call ops o ⟨Cn tm x.dst v,Bc hp nw⟩ K=some r at h1;rw[Mz (by rw[K8 t1];exact ho)] at h1
 rw[Mz ho];have hMo:Zd C P o.op=true:=by unfold Ka at ho;simp only[Bool.and_eq_true] at ho;exact ho.1
 have A07:∀i,GK o tm hp i->hp i≠none:=by
  rintro i (⟨y,hy,hi⟩|⟨BE,id,c,⟨y,hy,hi⟩,hc,p,Fd,hk⟩)
  ·exact hw.1 y hy i hi
  ·exact hw.2 hMo BE y hy id hi c hc p Fd i hk
 refine Pp (P:=P) (N:=N) (o:=o) (tm:=Cn tm x.dst v) (tm':=tm) (hp:=Bc hp nw) (Fd:=hp) (Rel:=fun (a b:Option R)=>a=some r->b=some r) (fun h=>by cases h) (H7 t1) (fun i hi=>?_) (fun d hod=>?_) (fun i hi=>R9 ha fun p hp e=>by have:=Xa hd (hn p hp);omega) (fun u Di H0 hT h=>?_) h1
 ·refine .inl (R9 ha fun p Di e=>A07 i hi ?_)
  rw[←e];exact (Ck ha).1 p.1 p.2 Di
 ·refine R9 ha fun p Di e=>?_
  have:=hn p Di;rw[e] at this;exact ap.ne d this hod
 ·have V6:∀p∈nw,Di p.1=Bc hp nw p.1∧H0 p.1=none:=by
   intro p hp2;have hno:=(Ck ha).1 p.1 p.2 hp2;have h3:=hT.off p.1 (Xa hd (hn p hp2)) (fun e=>ap.ne p.1 (hn p hp2) e) (.inl fun hL=>A07 _ hL hno)
   exact⟨h3.1,h3.2.trans hno⟩
  have ha':Cx H0 nw=true:=Xm ha fun i b hi=>(V6 (i,b) hi).2
  refine SX hm (Adz hm (fun t ht=>(G8 ap.ox t ht).symm) hv) hd ha' ?_
  have hh:Di=Bc H0 nw:=by
   refine Avq ha (fun i hi=>?_) (fun i hi=>?_) ha'
   ·exact hT.same i (R9 ha hi)
   ·obtain⟨p,hp2,rfl⟩:=hi;exact (V6 p hp2).1
  rw[←Pt ap.ne,←hh];exact h
theorem A7u (hw:Has C P o s)(ap:JG C P ops x o)
  (h:Es C P N call ops x s (fun s1=>Es C P N call ops o s1 K)=some r):Es C P N call ops o s (fun s1=>Es C P N call ops x s1 K)=some r:=by
 cases hx:Ka C P ops x s.tm
 ·cases ho:Ka C P ops o s.tm
  ·exact Amp hw ap.xo ap.ne ap.ox hx ho h
  ·exact Azi hw ap ho h
 ·exact Ax5 ap hx h
theorem Pu (h:BJ P o.op=true):Zd C P o.op=false:=by
 unfold BJ at h;split at h
 ·rename_i ho;rw[ho];rfl
 ·rename_i ho;rw[ho];rfl
 ·cases h
def XO (P:Program)(ops:Array Oper)(o:Oper)(tm:Nat->PV):Prop:=BJ P o.op=true∨I4 ops o tm=some false
theorem HN {tm tm':Nat->PV}(h:∀t∈looks ops o,tm t=tm' t)(hl:XO P ops o tm):XO P ops o tm':=by
 rcases hl with hl|hl
 ·exact .inl hl
 ·exact .inr (by rw[←Qd h];exact hl)
theorem Aaj {tm:Nat->PV}(hl:XO P ops o tm):Ka C P ops o tm=false:=by
 rcases hl with hl|hl
 ·simp[Ka,Pu hl]
 ·simp[Ka,hl]
theorem Ak7 {q:GS}(hl:XO P ops o s.tm)(h:gE C P N call ops o s=some q):q.2.1=[]∧q.2.2=[]:=by
 unfold gE at h;split at h
 ·cases h
 ·rename_i hv
  have hl:BJ P o.op=true:=by
   rcases hl with hl|hl
   ·exact hl
   ·rw[hv] at hl;cases hl
  rw[Pu hl] at h;have h:An5 C P N call o s=some q:=h;unfold BJ at hl;split at hl
  ·rename_i t a ho;unfold An5 WD at h;rw[ho] at h
   have:=Aba (P:=P) (f:=rd s.hp) (f':=rd s.hp) (g:=Oz s.hp) (g':=Oz s.hp) (t:=t) (x:=C8 s.tm a) (Rel:=fun (a b:Option GS)=>∀q,a=some q->q.2.1=[]∧q.2.2=[])
    (K:=fun v=>some (v,[],[])) (K':=fun v=>some (v,[],[])) (fun _ h=>by cases h) (fun _ _=>.inl ⟨rfl,rfl⟩) (fun v q hq=>by cases hq;exact⟨rfl,rfl⟩)
   exact this q h
  ·rename_i src dst y ho;unfold An5 WD at h;rw[ho] at h;simp only at h;unfold UX at h;split at hl
   ·rename_i hd;rw[hd] at h;simp only at h;split at h
    ·obtain⟨_,_,h⟩:=Ff h;obtain⟨_,_,h⟩:=D7 h;cases h;exact⟨rfl,rfl⟩
    ·split at h
     ·exact LL (f:=Oz s.hp) (f':=Oz s.hp) (K':=fun _ _=>(none:Option GS)) (Rel:=fun (a _:Option GS)=>a=some q->q.2.1=[]∧q.2.2=[]) (fun h=>by cases h) (fun _ _=>.inl rfl) (fun n c h=>by
       obtain⟨_,h⟩:=A3 h;obtain⟨_,_,h⟩:=D7 h;obtain⟨_,_,h⟩:=D7 h;cases h;exact⟨rfl,rfl⟩) h
     ·cases h
    ·cases h
   ·cases hl
  ·cases hl
 ·cases h;exact⟨rfl,rfl⟩
theorem Apb {tm tm':Nat->PV}{hp:Nat->Option Cb}(h:∀t∈looks ops o,tm t=tm' t){i:Nat}(hi:GK o tm hp i):GK o tm' hp i:=by
 have he:=H7 (ops:=ops) (o:=o) h;rcases hi with⟨y,hy,hi⟩|⟨BE,id,c,⟨y,hy,hi⟩,hc,q⟩
 ·exact .inl ⟨y,hy,by rw[←he y hy];exact hi⟩
 ·exact .inr ⟨BE,id,c,⟨y,hy,by rw[←he y hy];exact hi⟩,hc,q⟩
theorem A0w {hp Di:Nat->Option Cb}{i:Nat}(h:Di i=hp i):rd Di i=rd hp i∧Oz Di i=Oz hp i:=by
 unfold rd Oz;rw[h];exact⟨rfl,rfl⟩
theorem LZ {tm:Nat->PV}{hp:Nat->Option Cb}(hl:XO P ops o tm)(h:Es C P N call ops o ⟨tm,hp⟩ K=some r):
  ∃v,gE C P N call ops o ⟨tm,hp⟩=some (v,[],[])∧Jh N o.dst=true∧K ⟨Cn tm o.dst v,hp⟩=some r:=by
 rw[P3 (Aaj hl)] at h;cases e:gE C P N call ops o ⟨tm,hp⟩ with
 |none=>rw[e] at h;cases h
 |some q=>
  obtain⟨v,fz,nw⟩:=q;obtain⟨h1,h2⟩:=Ak7 hl e;simp only at h1 h2;subst h1;subst h2;rw[e] at h;obtain⟨hb,h⟩:=A3 h;simp only[Bool.and_eq_true] at hb;exact⟨v,rfl,hb.1,h⟩
theorem SL {tm:Nat->PV}{hp:Nat->Option Cb}{v:PV}(hl:XO P ops o tm)(e:gE C P N call ops o ⟨tm,hp⟩=some (v,[],[])) (hd:Jh N o.dst=true)(h:K ⟨Cn tm o.dst v,hp⟩=some r):Es C P N call ops o ⟨tm,hp⟩ K=some r:=by
 rw[P3 (Aaj hl),e];show Aw _ _=_;have ha:Cx hp []=true:=rfl;simp only[hd,ha,Bool.and_self];exact h
theorem Ax6 (hw:Has C P o s)(xo:∀d,x.dst=some d->d ∉ looks ops o)(ne:∀d,x.dst=some d->o.dst≠some d)(ox:∀d,o.dst=some d->d ∉ looks ops x)(hl:XO P ops o s.tm)
  (Ahl:∀y∈o.op.operands.toList,∀i∈Cm (C8 s.tm y),¬GK x s.tm s.hp i) (hx:Ka C P ops x s.tm=true)
  (h:Es C P N call ops x s (fun s1=>Es C P N call ops o s1 K)=some r):Es C P N call ops o s (fun s1=>Es C P N call ops x s1 K)=some r:=by
 rw[Mz hx] at h;obtain⟨tm,hp⟩:=s;have look:∀v,∀t∈looks ops o,Cn tm x.dst v t=tm t:=fun v=>G8 xo
 have back:∀{u:PV} {Di:Nat->Option Cb} {q:GS},(∀y∈o.op.operands.toList,∀i∈Cm (C8 tm y),Di i=hp i)->gE C P N call ops o ⟨Cn tm x.dst u,Di⟩=some q->gE C P N call ops o ⟨tm,hp⟩=some q:=
  fun hh e=>KS (s:=⟨Cn tm x.dst _,_⟩) (s':=⟨tm,hp⟩) (look _) (fun _ y hy i hi=>.inl (A0w (hh y hy i hi))) e
 have h1:=Pp (P:=P) (N:=N) (o:=x) (tm:=tm) (tm':=tm) (hp:=hp) (Fd:=hp) (K:=fun s1=>Es C P N call ops o s1 K) (K':=fun _=>none)
  (Rel:=fun (a:Option R)(_:Option R)=>a=some r->∃v,gE C P N call ops o ⟨tm,hp⟩=some (v,[],[])∧Jh N o.dst=true) (fun h=>by cases h) (fun _ _=>rfl) (fun _ _=>.inl rfl) (fun _ _=>rfl) (fun _ _=>rfl) (fun v Di _ hT h=>by
   obtain⟨u,hu,hd,_⟩:=LZ (HN (fun t ht=>(look v t ht).symm) hl) h
   exact⟨u,back (fun y hy i hi=>hT.far i (Ahl y hy i hi) (hw.1 y hy i hi)) hu,hd⟩) h
 obtain⟨v,hv,hd⟩:=h1;refine SL hl hv hd ?_;have t2:∀t∈looks ops x,tm t=Cn tm o.dst v t:=fun t ht=>(G8 ox t ht).symm
 rw[Mz (by rw[←K8 t2];exact hx)]
 refine Pp (P:=P) (N:=N) (o:=x) (tm:=tm) (tm':=Cn tm o.dst v) (hp:=hp) (Fd:=hp) (Rel:=fun (a b:Option R)=>a=some r->b=some r) (fun h=>by cases h) (H7 t2) (fun _ _=>.inl rfl) (fun _ _=>rfl) (fun _ _=>rfl) (fun u Di H0 hT h=>?_) h
 have e1:Di=H0:=funext fun i=>hT.same i rfl
 subst e1;obtain⟨v',U5,_,h'⟩:=LZ (HN (fun t ht=>(look u t ht).symm) hl) h
 have he:=back (fun y hy i hi=>hT.far i (fun hR=>Ahl y hy i hi (Apb (fun t ht=>(t2 t ht).symm) hR)) (hw.1 y hy i hi)) U5
 rw[hv] at he;simp only[Option.some.injEq,Prod.mk.injEq,and_true] at he;subst he;rw[←Pt ne];exact h'
theorem Azc (xo:∀d,x.dst=some d->d ∉ looks ops o)(ne:∀d,x.dst=some d->o.dst≠some d)(ox:∀d,o.dst=some d->d ∉ looks ops x)(hl:XO P ops x s.tm)
  (Ahl:∀y∈x.op.operands.toList,∀i∈Cm (C8 s.tm y),¬GK o s.tm s.hp i) (ho:Ka C P ops o s.tm=true)
  (h:Es C P N call ops x s (fun s1=>Es C P N call ops o s1 K)=some r):Es C P N call ops o s (fun s1=>Es C P N call ops x s1 K)=some r:=by
 obtain⟨tm,hp⟩:=s;obtain⟨v,hv,hd,h1⟩:=LZ hl h;have t1:∀t∈looks ops o,Cn tm x.dst v t=tm t:=G8 xo;rw[Mz (by rw[K8 t1];exact ho)] at h1
 rw[Mz ho];refine Pp (P:=P) (N:=N) (o:=o) (tm:=Cn tm x.dst v) (tm':=tm) (hp:=hp) (Fd:=hp) (Rel:=fun (a b:Option R)=>a=some r->b=some r) (fun h=>by cases h) (H7 t1) (fun _ _=>.inl rfl) (fun _ _=>rfl) (fun _ _=>rfl) (fun u Di H0 hT h=>?_) h1
 have e1:Di=H0:=funext fun i=>hT.same i rfl
 subst e1;have t2:∀t∈looks ops x,tm t=Cn tm o.dst u t:=fun t ht=>(G8 ox t ht).symm
 refine SL (HN t2 hl) (KS (s:=⟨tm,hp⟩) (s':=⟨Cn tm o.dst u,Di⟩) t2 (fun _ y hy i hi=>?_) hv) hd ?_
 ·have hi:i∈Cm (C8 tm y):=by rw[H7 t2 y hy];exact hi
  by_cases hn:hp i=none
  ·exact .inr ⟨Ams hn,Qj hn⟩
  ·obtain⟨h3,h4⟩:=A0w (hT.far i (Ahl y hy i hi) hn);exact .inl ⟨h3.symm,h4.symm⟩
 ·rw[←Pt ne];exact h
def Abj (P:Program)(x:Oper)(s s1:St):Prop:=(∀t,x.dst≠some t->s1.tm t=s.tm t)∧(∀i,s.hp i≠none->s1.hp i≠none)∧(Lo P x.op=false->∀i,s.hp i≠none->s1.hp i=s.hp i)
theorem U8 {tm:Nat->PV}{d:Option Tmp}{v:PV}{t:Nat}(h:d≠some t):Cn tm d v t=tm t:=by
 cases d with
 |none=>rfl
 |some d=>exact Ax _ _ (by rintro rfl;exact h rfl)
theorem TT {K':St->Option R}(h:Es C P N call ops x s K=some r)(hK:∀s1,Abj P x s s1->K s1=some r->K' s1=some r):Es C P N call ops x s K'=some r:=by
 cases hx:Ka C P ops x s.tm
 ·rw[P3 hx] at h ⊢;cases ex:gE C P N call ops x s with
  |none=>rw[ex] at h;cases h
  |some q=>
   rw[ex] at h;obtain⟨hb,h1⟩:=A3 h;simp only[Bool.and_eq_true] at hb;show Aw _ _=_;rw[hb.1,hb.2];refine hK _ ⟨fun t ht=>U8 ht,fun i hi=>Tk hb.2 hi,fun hm i hi=>?_⟩ h1
   show Bc (Ak s.hp q.2.1) q.2.2 i=s.hp i;rw[Jd hb.2 hi,((BZ ex).1 hm).1];simp
 ·rw[Mz hx] at h ⊢
  exact UT (P:=P) (N:=N) (o:=x) (tm:=s.tm) (tm':=s.tm) (hp:=s.hp) (Rel:=fun (a b:Option R)=>a=some r->b=some r) (fun h=>by cases h) (fun _ _=>rfl) (fun v Di hh h=>hK _ ⟨fun t ht=>U8 ht,hh,fun hm=>by
   have hM:Zd C P x.op=true:=by unfold Ka at hx;simp only[Bool.and_eq_true] at hx;exact hx.1
   rw[IP hM] at hm;cases hm⟩ h) h
theorem Has.keeps {s1:St}(h:Has C P o s)(ap:JG C P ops x o)(hk:Abj P x s s1):Has C P o s1:=by
 have hop:∀y∈o.op.operands.toList,C8 s1.tm y=C8 s.tm y:=fun y hy=>H7 (ops:=ops) (o:=o) (fun t ht=>hk.1 t fun hd=>ap.xo t hd ht) y hy
 refine⟨fun y hy i hi=>?_,fun hM hA y hy i hi c hc p hp k hkk=>?_⟩
 ·rw[hop y hy] at hi;exact hk.2.1 i (h.1 y hy i hi)
 ·rw[hop y hy] at hi;have hi0:=h.1 y hy i hi;rw[hk.2.2 (ap.mo hM) i hi0] at hc;exact hk.2.1 k (h.2 hM hA y hy i hi c hc p hp k hkk)
theorem WK:∀(l:List Oper){s:St}{K:St->Option R},Has C P o s->(∀x∈l,JG C P ops x o)->S7 C P N call ops l s (fun s1=>Es C P N call ops o s1 K)=some r->Es C P N call ops o s (fun s1=>S7 C P N call ops l s1 K)=some r
 |[],_,_,_,_,h=>h
 |x::l,s,K,hw,ap,h=>by
  refine A7u hw (ap x (by simp)) ?_
  refine TT (K:=fun s1=>S7 C P N call ops l s1 (fun s2=>Es C P N call ops o s2 K)) h fun s1 hk h1=>?_
  exact WK l (hw.keeps (ap x (by simp)) hk) (fun y hy=>ap y (List.mem_cons_of_mem _ hy)) h1
theorem AP:∀(l l':List Oper){s:St}{K:St->Option R},S7 C P N call ops (l++l') s K=S7 C P N call ops l s (fun s1=>S7 C P N call ops l' s1 K)
 |[],_,_,_=>rfl
 |x::l,l',s,K=>by
  show Es C P N call ops x s (fun s1=>S7 C P N call ops (l++l') s1 K)=Es C P N call ops x s (fun s1=>S7 C P N call ops l s1 _)
  congr 1
  funext s1
  exact AP l l'
theorem Apl {l l':List Oper}(hw:Has C P o s)(ap:∀x∈l,JG C P ops x o)(h:S7 C P N call ops (l++o::l') s K=some r):Es C P N call ops o s (fun s1=>S7 C P N call ops (l++l') s1 K)=some r:=by
 rw[AP] at h;have:=WK l hw ap h;refine TT this fun s1 _ h1=>?_
 rw[AP];exact h1
end
open Go.RowKit
section
variable {R:Type} {r:R} {P:Program} {N:Nat} {w0:World} {X0:Gg} {Y:Nat->Prop} {β β':Bt} {s:St} {a:Act} {w w':World} {o:Oper} {ops:Array Oper} {C:Kf} {call:Ah} {K:St->Option R}
theorem Yb (h:Ch N w0 X0 Y β s a w){j d:Nat}(hd:(ops[j]?).bind (·.dst)=some d) {v:Value}(ht:s.tm d=.sc v):yielded ops a.tmps j=match v with | .bool b=>some b|_=>none:=by
 have Cq:d<N:=by
  rcases Nat.lt_or_ge d N with h'|h'
  ·exact h'
  ·rw[h.tmo d h'] at ht;cases ht
 have hv:=h.tms d Cq;rw[ht] at hv;have hv:=Mw hv;have Agx:d<a.tmps.size:=by rw[h.tsz];exact Cq
 have he:a.tmps[d]?=some v:=by
  rw[Array.getElem?_eq_getElem Agx];simp[Agx] at hv;rw[hv]
 unfold yielded;rw[hd];simp only[Option.bind_some,he];cases v<;>rfl
theorem HA (h:Ch N w0 X0 Y β s a w){G:Xl}(Kg:QA P G w0 X0)(Dj:∀f args res,call f args=some res->Dl G P f args res){i:Nat}(hi:ops[i]?=some o) (hk:Es C P N call ops o s K=some r):
  ∃s',K s'=some r∧∀(next:Act->World->Prop) (Q:Exit->Act->World->Prop),(∀a' w' β',Ch N w0 X0 Y β' s' a' w'->next a' w')->wpOp P ops Q i next a w:=by
 rw[RN] at hk
 have hw:∀b,I4 ops o s.tm=some b->Region.wanted o (yielded ops a.tmps)=b:=by
  intro b hb;unfold I4 at hb;unfold Region.wanted;cases hg:o.guard with
  |none=>rw[hg] at hb;simpa using hb
  |some q=>
   obtain⟨j,want⟩:=q;rw[hg] at hb;simp only at hb ⊢;cases hd:(ops[j]?).bind (·.dst) with
   |none=>rw[hd] at hb;cases hb
   |some d=>
    rw[hd] at hb;simp only at hb;split at hb
    ·rename_i b' ht;rw[Yb h hd ht];simp at hb;rw[←hb];cases b'<;>cases want<;>rfl
    ·rename_i ht;rw[Yb h hd ht];simp at hb;rw[hb];rfl
    ·cases hb
 split at hk
 ·cases hk
 ·rename_i hv;obtain⟨s',hs',hn⟩:=VU h Kg Dj hk;refine⟨s',hs',fun next Q TC=>?_⟩
  unfold wpOp;rw[hi];simp only[hw _ hv,if_true];exact .inl (hn next Q TC)
 ·rename_i hv;obtain⟨hd,hk⟩:=A3 hk;refine⟨_,hk,fun next Q TC=>?_⟩
  unfold wpOp;rw[hi];simp only[hw _ hv];refine TC _ _ β (h.put hd (A8.sc _) (by simp[Cm,Cw,A7]))
theorem Ch.known (h:Ch N w0 X0 Y β s a w){d:Nat}(hd:s.tm d=.ub):∃b,Ch N w0 X0 Y β ⟨Ds s.tm d (.sc (.bool b)),s.hp⟩ a w:=by
 have Cq:d<N:=by
  rcases Nat.lt_or_ge d N with h'|h'
  ·exact h'
  ·rw[h.tmo d h'] at hd;cases hd
 have hu:=h.tms d Cq;rw[hd] at hu;have Nu:A8 w (Du s.hp β Y) .ub (a.tmps.getD d undef):=hu
 obtain⟨b,hv⟩:∃b,a.tmps.getD d undef=.bool b:=by
  generalize a.tmps.getD d undef=x at Nu;cases Nu with
  |ub b=>exact⟨b,rfl⟩
 refine⟨b,⟨h.dfr,h.tsz,fun i hi=>?_,fun i hi=>?_,h.box,h.inj,h.blt,fun i hi=>?_,h.wfB,h.ownd,h.rngB,h.pin,h.stp,h.Yx,h.Ylt,h.fr⟩⟩
 ·show Ds s.tm d _ i=_;rw[Ax _ _ (by omega)]
  exact h.tmo i hi
 ·by_cases e:i=d
  ·subst e;show Et _ _ _ (Ds s.tm i _ i) _;rw[A5,hv];exact A8.sc _
  ·show Et _ _ _ (Ds s.tm d _ i) _;rw[Ax _ _ e];exact h.tms i hi
 ·by_cases e:i=d
  ·subst e;show ∀id∈Cm (Ds s.tm i _ i),_;rw[A5];simp[Cm,Cw,A7]
  ·show ∀id∈Cm (Ds s.tm d _ i),_;rw[Ax _ _ e];exact h.wfT i hi
theorem Aae {x y:Option R}(h:Zf x y=some r):x=some r∧y=some r:=by
 unfold Zf at h;split at h
 ·rename_i e;exact⟨h,e ▸ h⟩
 ·cases h
theorem Y4 (h:Ch N w0 X0 Y β s a w){F:St->Option R}(hk:Akr ops o s F=some r):∃s',F s'=some r∧Ch N w0 X0 Y β s' a w:=by
 unfold Akr at hk;split at hk
 ·exact⟨s,hk,h⟩
 ·split at hk
  ·exact⟨s,hk,h⟩
  ·split at hk
   ·rename_i d _ ht;obtain⟨b,hb⟩:=h.known ht;obtain⟨h1,h2⟩:=Aae hk;cases b
    ·exact⟨_,h2,hb⟩
    ·exact⟨_,h1,hb⟩
   ·exact⟨s,hk,h⟩
theorem JN {G:Xl}(Kg:QA P G w0 X0)(Dj:∀f args res,call f args=some res->Dl G P f args res){Q:Exit->Act->World->Prop}(hQ:∀s' a' w' β',K s'=some r->Ch N w0 X0 Y β' s' a' w'->Q .normal a' w'):
  ∀(l:List Nat) (os:List Oper),l.length=os.length->(∀(k i:Nat),l[k]?=some i->ops[i]?=os[k]?)->∀{s:St} {a:Act} {w:World} {β:Bt},Ch N w0 X0 Y β s a w->L7 C P N call ops os s K=some r->wpOps P ops Q l a w
 |[],[],_,_,s,a,w,β,h,hk=>by
  show Q .normal a w;exact hQ s a w β hk h
 |[],_::_,hl,_,_,_,_,_,_,_=>by cases hl
 |_::_,[],hl,_,_,_,_,_,_,_=>by cases hl
 |i::l,o::os,hl,hi,s,a,w,β,h,hk=>by
  rw[wpOps_cons];obtain⟨s1,hk,h⟩:=Y4 h hk;obtain⟨s',hs',hn⟩:=HA h Kg Dj (by simpa using hi 0 i rfl) hk
  exact hn _ _ fun a' w' β' h'=>JN Kg Dj hQ l os (by simpa using hl) (fun k j hj=>by simpa using hi (k+1) j (by simpa using hj)) h' hs'
theorem Ch.drew (h:Ch N w0 X0 Y β s a w):Ch N w0 X0 Y β s a { w with drawn:=w.drawn+1 }:=by
 have:=h.stepR (d:=none) (v:=.top) (nw:=[]) (val:=undef) (w':={ w with drawn:=w.drawn+1 }) (β':=β) rfl rfl
  ⟨rfl,rfl,rfl,⟨Nat.le_refl _,fun _ _ _=>rfl,fun _ _=>Nat.le_refl _⟩,fun _ _=>rfl,by simp,by simp,by simp,by simp,by simp,.top _,by simp[Cm,Cw,A7]⟩
 exact this
theorem Ab6 (h:Ch N w0 X0 Y β s a w){G:Xl}(Kg:QA P G w0 X0)(Dj:∀f args res,call f args=some res->Dl G P f args res){id:Nat}{Q:Exit->Act->World->Prop}
  (hk:L7 C P N call ops ops.toList s K=some r)(hQ:∀s' a' w' β',K s'=some r->Ch N w0 X0 Y β' s' a' w'->Q .normal a' w'):(Code.region id ops false).wp P Q a w:=by
 refine wp_region (JN Kg Dj hQ (List.range ops.size) ops.toList (by simp) (fun k i hi=>?_) h hk)
 rw[List.getElem?_range] at hi
 ·simp at hi;subst hi;simp
 ·rcases Nat.lt_or_ge k ops.size with h'|h'
  ·exact h'
  ·rw[List.getElem?_eq_none (by simpa using h')] at hi;cases hi
def Sc (n:Nat)(listed:Array Bool):List Nat:=(List.range n).filter fun i=> !listed.getD i true
def A3h (ops:Array Oper)(listed:Array Bool)(o:Oper):Prop:=∀e∈o.after,Region.binds .any e=true->listed.getD e.on false=true
theorem testBit_or {a b j:Nat}:(a ||| b).testBit j=(a.testBit j||b.testBit j):=Nat.testBit_or a b j
theorem ZO {acc:List Nat}{j:Nat}:∀(es:List Edge)(v:Nat),(es.foldl (fun s e=>bif Region.binds .any e then s ||| 2 ^ e.on ||| acc.getD e.on 0 else s) v).testBit j=true ->
  v.testBit j=true∨∃e∈es,Region.binds .any e=true∧(j=e.on∨(acc.getD e.on 0).testBit j=true)
 |[],v,h=>.inl h
 |e::es,v,h=>by
  rcases ZO es _ h with h|⟨e',he',h⟩
  ·cases hb:Region.binds .any e<;>simp only[hb] at h
   ·exact .inl h
   ·simp only[cond_true,Nat.testBit_or,Bool.or_eq_true] at h;rcases h with (h|h)|h
    ·exact .inl h
    ·refine .inr ⟨e,by simp,hb,.inl ?_⟩
     rw[Nat.testBit_two_pow] at h;exact (of_decide_eq_true h).symm
    ·exact .inr ⟨e,by simp,hb,.inr h⟩
  ·exact .inr ⟨e',by simp[he'],h⟩
theorem Ym {listed:Array Bool}(hc:∀(j:Nat) oj,ops[j]?=some oj->listed.getD j false=true->A3h ops listed oj):
  ∀(rest done:List Oper) (acc:List Nat),ops.toList=done++rest->acc.length=done.length ->
   (∀(k:Nat) o,done[k]?=some o->A3h ops listed o->∀j,(acc.getD k 0).testBit j=true->listed.getD j false=true) ->
   ∀(k:Nat) o,ops[k]?=some o->A3h ops listed o->∀j,((Mp rest acc).getD k 0).testBit j=true->listed.getD j false=true
 |[],done,acc,he,_,h,k,o,ho,hf,j,hj=>by
  refine h k o ?_ hf j hj;rw[List.append_nil] at he;rw[←he]
  simpa using ho
 |o'::rest,done,acc,he,hl,h,k,o,ho,hf,j,hj=>by
  refine Ym hc rest (done++[o']) _ (by rw[he];simp) (by simp[hl]) ?_ k o ho hf j hj
  intro k o ho hf j hj;rcases Nat.lt_trichotomy k done.length with Cq|heq|hgt
  ·rw[List.getElem?_append_left Cq] at ho;rw[List.getD_eq_getElem?_getD,List.getElem?_append_left (by omega),←List.getD_eq_getElem?_getD] at hj
   exact h k o ho hf j hj
  ·subst heq;simp at ho;subst ho;rw[←hl] at hj;simp only[List.getD_eq_getElem?_getD,List.getElem?_append_right (Nat.le_refl _),Nat.sub_self,List.getElem?_cons_zero,Option.getD_some] at hj
   have hj:(o'.after.toList.foldl (fun s e=>bif Region.binds .any e then s ||| 2 ^ e.on ||| acc.getD e.on 0 else s) 0).testBit j=true:=by
    simpa only[List.getD_eq_getElem?_getD] using hj
   rcases ZO _ _ hj with h0|⟨e,hm,hb,h1⟩
   ·simp at h0
   ·have LW:=hf e (by simpa using hm) hb
    rcases h1 with h1|h1
    ·rw[h1];exact LW
    ·cases hd:done[e.on]? with
     |none=>
      have:acc.getD e.on 0=0:=by
       rw[List.getD_eq_getElem?_getD,List.getElem?_eq_none (by rw[hl];exact List.getElem?_eq_none_iff.1 hd)]
       rfl
      rw[this] at h1;simp at h1
     |some oe=>
      have hoe:ops[e.on]?=some oe:=by
       rw[←Array.getElem?_toList,he,List.getElem?_append_left (by
        rcases Nat.lt_or_ge e.on done.length with h'|h'
        ·exact h'
        ·rw[List.getElem?_eq_none h'] at hd;cases hd)]
       exact hd
      exact h e.on oe hd (hc e.on oe hoe LW) j h1
  ·rw[List.getElem?_eq_none (by simp;omega)] at ho
   cases ho
theorem JL {bs:List Nat}:∀(l:List Oper)(n:Nat),SE C P ops bs l n=true->∀(k:Nat) o,l[k]?=some o->∀(j:Nat) x,ops[j]?=some x->j<n+k->WY C P ops x o=true->(bs.getD (n+k) 0).testBit j=true
 |[],_,_,k,o,ho,_,_,_,_,_=>by simp at ho
 |o'::l,n,h,k,o,ho,j,x,hx,hj,AK=>by
  simp only[SE,Bool.and_eq_true] at h;cases k with
  |zero=>
   simp at ho;subst ho
   have:=List.all_eq_true.1 h.1 (x,j) (by
    rw[List.mem_zipIdx_iff_getElem?]
    simpa using hx)
   simp only[AK,Bool.not_true,Bool.or_false,Bool.or_eq_true,Bool.not_eq_true'] at this;rcases this with h'|h'
   ·have:Nat.blt j n=true:=Nat.ble_eq_true_of_le (by omega)
    rw[this] at h';cases h'
   ·exact h'
  |succ k=>
   have:=JL l (n+1) h.2 k o (by simpa using ho) j x hx (by omega) AK
   rwa [show n+(k+1)=n+1+k by omega]
theorem N6 {n i:Nat}{listed:Array Bool}:i∈Sc n listed↔i<n∧listed.getD i true=false:=by
 unfold Sc;simp[List.mem_filter]
theorem HY {n i:Nat}{listed:Array Bool}(hi:i∈Sc n listed)(Mo:listed.size=n):∃l1 l2,Sc n listed=l1++i::l2∧Sc n (listed.setIfInBounds i true)=l1++l2∧∀j∈l1,j<i:=by
 obtain⟨Cq,O2⟩:=N6.1 hi
 have hr:List.range n=List.range i++i::(List.range (n-i-1)).map (i+1 + ·):=by
  conv=>lhs;rw[show n=i+(1+(n-i-1)) by omega]
  rw[List.range_add,List.range_add];simp[Nat.add_assoc]
 refine⟨(List.range i).filter fun i=> !listed.getD i true,((List.range (n-i-1)).map (i+1 + ·)).filter fun i=> !listed.getD i true,?_,?_,fun j hj=>?_⟩
 ·unfold Sc;rw[hr,List.filter_append,List.filter_cons_of_pos (by rw[O2];rfl)]
 ·unfold Sc;rw[hr,List.filter_append,List.filter_cons_of_neg (by simp[Mo,Cq])]
  congr 1
  ·refine List.filter_congr fun j hj=>?_
   rw[getD_set_ne true (by have:=List.mem_range.1 hj;omega)]
  ·refine List.filter_congr fun j hj=>?_
   obtain⟨k,_,rfl⟩:=List.mem_map.1 hj;rw[getD_set_ne true (by omega)]
 ·exact List.mem_range.1 (List.mem_filter.1 hj).1
theorem Auh (h:Ch N w0 X0 Y β s a w)(o:Oper):Has C P o s:=by
 refine⟨fun y _ i hi=>Hp h y i hi,fun _ _ y _ i hi c hc p hp k hk=>h.wfB i c hc p hp k hk⟩
theorem ZZ (Arg:(ops.toList.zipIdx.all fun q=>q.1.after.toList.all fun e=> !Region.binds .any e||Nat.blt e.on q.2)=true) {listed:Array Bool}(inv:HeadInv .any ops ops.size listed)(hr:Region.ready .any ops listed=[]):Sc ops.size listed=[]:=by
 cases hp:Sc ops.size listed with
 |nil=>rfl
 |cons i l=>
  exfalso;have hi:i∈Sc ops.size listed:=by rw[hp];simp
  obtain⟨Cq,O2⟩:=N6.1 hi;obtain⟨l1,l2,h1,_,h3⟩:=HY hi inv.size
  have LW:l1=[]:=by
   cases l1 with
   |nil=>rfl
   |cons j l1=>
    rw[hp] at h1;simp at h1;have:=h3 j (by simp)
    omega
  subst LW
  have Baf:∀j,j<i->listed.getD j false=true:=by
   intro j hj;cases hh:listed.getD j false with
   |true=>rfl
   |false=>
    have:j∈Sc ops.size listed:=N6.2 ⟨by omega,getD_in (by rw[inv.size];omega) hh⟩
    have hs:(Sc ops.size listed).Pairwise (· < ·):=List.Pairwise.filter _ List.pairwise_lt_range
    rw[h1] at this hs;simp at this;rcases this with e|e
    ·omega
    ·have:=(List.pairwise_cons.1 hs).1 j e;omega
  have:i∈Region.ready .any ops listed:=by
   refine mem_ready.2 ⟨O2,ops[i],Array.getElem?_eq_getElem Cq,fun e he hb=>Baf _ ?_⟩
   have:=List.all_eq_true.1 Arg (ops[i],i) (by
    rw[List.mem_zipIdx_iff_getElem?];simp[Cq])
   have:=List.all_eq_true.1 this e (Array.mem_toList_iff.2 he);simp only[hb,Bool.not_true,Bool.false_or] at this;exact Nat.lt_of_succ_le (Nat.le_of_ble_eq_true this)
  rw[hr] at this;simp at this
theorem Adv {G:Xl}(Kg:QA P G w0 X0)(Dj:∀f args res,call f args=some res->Dl G P f args res)(hok:SO C P ops=true){Q:Exit->Act->World->Prop}(hQ:∀s' a' w' β',K s'=some r->Ch N w0 X0 Y β' s' a' w'->Q .normal a' w'):
  ∀(fuel:Nat) {listed:Array Bool} {s:St} {a:Act} {w:World} {β:Bt},HeadInv .any ops ops.size listed->(Sc ops.size listed).length=fuel->Ch N w0 X0 Y β s a w->S7 C P N call ops ((Sc ops.size listed).filterMap (ops[·]?)) s K=some r->wpAny P .any ops Q fuel listed a w:=by
 unfold SO at hok;simp only[Bool.and_eq_true] at hok;obtain⟨Arg,A23⟩:=hok;intro fuel
 induction fuel with
 |zero=>
  intro listed s a w β inv hf h hk;have hp:=List.eq_nil_of_length_eq_zero hf;rw[hp] at hk;refine⟨?_,hQ s a w β hk h⟩;cases hr:Region.ready .any ops listed with
  |nil=>rfl
  |cons i l=>
   exfalso;have hi:i∈Region.ready .any ops listed:=by rw[hr];simp
   obtain⟨O2,o,ho,_⟩:=mem_ready.1 hi;have:i∈Sc ops.size listed:=N6.2 ⟨(Array.getElem?_eq_some_iff.1 ho).1,O2⟩;rw[hp] at this;simp at this
 |succ fuel ih=>
  intro listed s a w β inv hf h hk;refine⟨fun hr=>?_,fun i hi=>?_⟩
  ·rw[ZZ Arg inv hr] at hf;cases hf
  ·obtain⟨O2,o,ho,Y9⟩:=mem_ready.1 hi;have Cq:i<ops.size:=(Array.getElem?_eq_some_iff.1 ho).1;obtain⟨l1,l2,h1,h2,h3⟩:=HY (N6.2 ⟨Cq,O2⟩) inv.size;rw[h1,List.filterMap_append,List.filterMap_cons_some ho] at hk
   have BE:∀x∈l1.filterMap (ops[·]?),JG C P ops x o:=by
    intro x hx;obtain⟨j,hj,hxj⟩:=List.mem_filterMap.1 hx;refine Aqo ?_;cases AK:WY C P ops x o with
    |false=>rfl
    |true=>
     exfalso;have YS:=JL ops.toList 0 A23 i o (by simpa using ho) j x hxj (by have:=h3 j hj;omega) AK
     rw[Nat.zero_add] at YS;have hjl:=Ym (listed:=listed) (fun j oj hj hl=>inv.closed j oj hj hl) ops.toList [] [] (by simp) rfl (by simp) i o ho Y9 j YS
     have:j∈Sc ops.size listed:=by rw[h1];simp[hj]
     have:=getD_both (N6.1 this).2;rw[hjl] at this;cases this
   obtain⟨s',hs',hn⟩:=HA h Kg Dj ho (Apl (Auh h o) BE hk);refine hn _ _ fun a' w' β' h'=>ih (inv.set hi Cq) ?_ h' ?_
   ·rw[h2];rw[h1] at hf;simp at hf ⊢;omega
   ·rw[h2,List.filterMap_append];exact hs'
theorem Wp (h:Ch N w0 X0 Y β s a w){G:Xl}(Kg:QA P G w0 X0)(Dj:∀f args res,call f args=some res->Dl G P f args res)(hm:P.follows .mixedOrders=true)(hok:SO C P ops=true){Q:Exit->Act->World->Prop}
  (hk:S7 C P N call ops ops.toList s K=some r)(hQ:∀s' a' w' β',K s'=some r->Ch N w0 X0 Y β' s' a' w'->Q .normal a' w'):wpAny P .any ops Q ops.size (Array.replicate ops.size false) a { w with drawn:=w.drawn+1 }:=by
 have hp:Sc ops.size (Array.replicate ops.size false)=List.range ops.size:=by
  unfold Sc;refine List.filter_eq_self.2 fun i hi=>?_
  have:=List.mem_range.1 hi;simp[this]
 refine Adv (C:=C) Kg Dj hok hQ ops.size ⟨by simp,fun j oj _ hl=>(by rw[getD_replicate_false] at hl;cases hl),fun t ht ht'=>by omega⟩ (by rw[hp];simp) h.drew ?_
 rw[hp]
 have:(List.range ops.size).filterMap (ops[·]?)=ops.toList:=by
  refine List.ext_getElem? fun k=>?_
  have:∀(n:Nat),n<=ops.size->(List.range n).filterMap (ops[·]?)=ops.toList.take n:=by
   intro n
   induction n with
   |zero=>intro _;rfl
   |succ n ih=>
    intro hn;rw[List.range_succ,List.filterMap_append,ih (by omega),List.take_add_one]
    congr 1
    have:ops[n]?=some ops[n]:=Array.getElem?_eq_getElem (by omega)
    simp[this]
  rw[this ops.size (Nat.le_refl _)]
  congr 1
  exact List.take_of_length_le (by simp)
 rw[this];exact hk
theorem Adb (h:Ch N w0 X0 Y β s a w){G:Xl}(Kg:QA P G w0 X0)(Dj:∀f args res,call f args=some res->Dl G P f args res)(hm:P.follows .mixedOrders=true)(hok:SO C P ops=true){id:Nat}{Q:Exit->Act->World->Prop}
  (hk:S7 C P N call ops ops.toList s K=some r)(hQ:∀s' a' w' β',K s'=some r->Ch N w0 X0 Y β' s' a' w'->Q .normal a' w'):(Code.region id ops true).wp P Q a w:=
 wp_region_any hm (Wp h Kg Dj hm hok hk hQ)
end
end
section
open Go.RowKit
section
variable {R R':Type} {Rel:Option R->Option R'->Prop} {P:Program} {N:Nat} {tm tm':Nat->PV} {hp Fd:Nat->Option Cb} {o:Oper}
theorem Anc (hn:Rel none none){C:Kf}{call:Ah}{K:St->Option R}{K':St->Option R'}(BE:Tf o.op=true)(O3:∀x∈o.op.operands.toList,C8 tm x=C8 tm' x)
  (hS:∀i,GK o tm' Fd i->hp i=Fd i∨(hp i=none∧∀b,Rel none b)) (hdd:∀d,o.dst=some d->hp d=Fd d)
  (hK:∀v Di H0,(∀M,XV M (GK o tm' Fd) o.dst hp Fd Di H0)->Rel (K ⟨Cn tm o.dst v,Di⟩) (K' ⟨Cn tm' o.dst v,H0⟩)):Rel (ER C P N call ⟨tm,hp⟩ o K) (ER C P N call ⟨tm',Fd⟩ o K'):=by
 unfold ER;have hl:∀x∈o.op.operands.toList,∀i∈Cm (C8 tm' x),GK o tm' Fd i:=fun x hx i hi=>.inl ⟨x,hx,hi⟩
 generalize hLd:GK o tm' Fd=S at *
 generalize hop:o.op=op at *
 unfold Tf at BE;split at BE
 ·rename_i c
  have Ps:∀x∈c.args.toList,x∈(Op.call c).operands.toList:=by
   intro x hx;simp only[Op.operands,Call.operands,Array.toList_append,List.mem_append];exact .inr hx
  split at BE
  ·rename_i hc;simp only[hc];refine Ey hn fun d hd=>Cc hn fun x _ hx=>Cc hn fun y _ hy=>Hs hn (Cc hn fun _ _ _=>Cc hn fun _ _ _=>?_)
   subst hy;have hxm:=Ps x (by rw[hx];simp)
   have hym:=Ps y (by rw[hx];simp)
   simp only[O3 x hxm,O3 y hym];refine IW hn hS (hdd d hd) (fun i hi=>hl x hxm i (Ir hi)) (fun i hi=>hl y hym i (Ir hi)) fun v Di H0 hh=>?_
   have:=hK v Di H0 (by rw[hd];exact hh)
   rw[hd] at this;exact this
  ·cases BE
 ·cases BE
theorem Xh {C:Kf}{call:Ah}(BE:Tf o.op=true)(O3:∀x∈o.op.operands.toList,C8 tm x=C8 tm' x)(hS:∀i,GK o tm' Fd i->hp i=Fd i)(hdd:∀d,o.dst=some d->hp d=Fd d){s1:St}
  (h:ER C P N call ⟨tm,hp⟩ o some=some s1):∃v Di H0,s1=⟨Cn tm o.dst v,Di⟩∧ER C P N call ⟨tm',Fd⟩ o some=some ⟨Cn tm' o.dst v,H0⟩∧∀M,XV M (GK o tm' Fd) o.dst hp Fd Di H0:=by
 have:=Anc (P:=P) (N:=N) (C:=C) (call:=call) (o:=o) (tm:=tm) (tm':=tm') (hp:=hp) (Fd:=Fd) (K:=some) (K':=some)
  (Rel:=fun (a b:Option St)=>∀s1,a=some s1->∃v Di H0,s1=⟨Cn tm o.dst v,Di⟩∧b=some ⟨Cn tm' o.dst v,H0⟩∧∀M,XV M (GK o tm' Fd) o.dst hp Fd Di H0) (fun _ h=>by cases h) BE O3 (fun i hi=>.inl (hS i hi)) hdd
  (fun v Di H0 hT s1 h=>by cases h;exact⟨v,Di,H0,rfl,rfl,hT⟩)
 exact this s1 h
end
section
variable {R R':Type} {r:R} {r':R'} {C:Kf} {P:Program} {N:Nat} {call:Ah} {ops:Array Oper} {o x:Oper} {s s1 s2:St} {K:St->Option R}
theorem BS {tm:Nat->PV}(h:Ka C P ops o tm=true):Zd C P o.op=true:=by
 unfold Ka at h;simp only[Bool.and_eq_true] at h;exact h.1
theorem Acx (h:Tf o.op=true):Zd C P o.op=true:=by
 unfold Tf at h;split at h
 ·rename_i c hc;rw[hc];split at h
  ·rename_i hcc;simp only[Zd,hcc];exact h
  ·cases h
 ·cases h
theorem Sw (h:Es C P N call ops x s K=some r):∃s1,Es C P N call ops x s some=some s1∧Abj P x s s1∧(BJ P x.op=true->s1.hp=s.hp)∧K s1=some r:=by
 cases hx:Ka C P ops x s.tm
 ·rw[P3 hx] at h ⊢;cases ex:gE C P N call ops x s with
  |none=>rw[ex] at h;cases h
  |some q=>
   rw[ex] at h;obtain⟨hb,h1⟩:=A3 h;simp only[Bool.and_eq_true] at hb;refine⟨_,?_,⟨fun t ht=>U8 ht,fun i hi=>Tk hb.2 hi,fun hm i hi=>?_⟩,fun hl=>?_,h1⟩
   ·show Aw _ _=_;rw[hb.1,hb.2];rfl
   ·show Bc (Ak s.hp q.2.1) q.2.2 i=s.hp i;rw[Jd hb.2 hi,((BZ ex).1 hm).1];simp
   ·show Bc (Ak s.hp q.2.1) q.2.2=s.hp;obtain⟨h1,h2⟩:=Ak7 (.inl hl) ex;rw[h1,h2]
    funext i
    show Ak s.hp [] i=_;rw[Cz];simp
 ·rw[Mz hx] at h ⊢
  exact UT (P:=P) (N:=N) (o:=x) (tm:=s.tm) (tm':=s.tm) (hp:=s.hp) (K':=some) (Rel:=fun (a:Option R) (b:Option St)=>a=some r->∃s1,b=some s1∧Abj P x s s1∧(BJ P x.op=true->s1.hp=s.hp)∧K s1=some r) (fun h=>by cases h) (fun _ _=>rfl) (fun v Di hh h=>⟨_,rfl,⟨fun t ht=>U8 ht,hh,fun hm=>(by
   rw[IP (BS hx)] at hm;cases hm)⟩,fun hl=>(by
   have:=BS hx;rw[Pu hl] at this;cases this),h⟩) h
theorem EA {K':St->Option R'}(h:Es C P N call ops x s some=some s1)(hk:K' s1=some r'):Es C P N call ops x s K'=some r':=by
 cases hx:Ka C P ops x s.tm
 ·rw[P3 hx] at h ⊢;cases ex:gE C P N call ops x s with
  |none=>rw[ex] at h;cases h
  |some q=>
   rw[ex] at h;obtain⟨hb,h1⟩:=A3 h;show Aw _ _=_;rw[hb];cases h1;exact hk
 ·rw[Mz hx] at h ⊢;exact UT (P:=P) (N:=N) (o:=x) (tm:=s.tm) (tm':=s.tm) (hp:=s.hp) (K:=some) (Rel:=fun (a:Option St) (b:Option R')=>a=some s1->b=some r') (fun h=>by cases h) (fun _ _=>rfl) (fun v Di hh h=>by cases h;exact hk) h
theorem Acc {d:Nat}{t tx:TypeId}{b y:PV}(h:Un P N s d t tx b y K=some r):s.hp d=none:=by
 unfold Un at h;split at h
 ·obtain⟨_,h⟩:=A3 h;cases hI:LR P tx
  ·rw[hI,cond_false] at h;refine NF (P:=P) (tm:=s.tm) (tm':=s.tm) (hp:=s.hp) (Fd:=s.hp) (S:=fun _=>True) (K':=fun _ _=>(none:Option R)) (Rel:=fun (a:Option R) (_:Option R)=>a=some r->s.hp d=none) (fun h=>by cases h) (fun _ _=>.inl rfl) (fun _ _=>trivial) (fun m new h=>?_) h
   split at h
   ·split at h
    ·obtain⟨hb,_⟩:=A3 h;simp only[Bool.and_eq_true,Option.isNone_iff_eq_none] at hb;simp only[hb]
    ·cases h
   ·obtain⟨_,_,_,h,_⟩:=Ik h;obtain⟨hb,_⟩:=A3 h;simp only[Bool.and_eq_true,Option.isNone_iff_eq_none] at hb;simp only[hb]
  ·rw[hI,cond_true] at h;unfold BC at h;obtain⟨_,_,_,h⟩:=Eo h;obtain⟨_,_,_,h,_⟩:=Ik h;obtain⟨hb,_⟩:=A3 h;simp only[Bool.and_eq_true,Option.isNone_iff_eq_none] at hb;simp only[hb]
 ·cases h
theorem Axb (hw:Has C P o s)(hwx:∀y∈x.op.operands.toList,∀i∈Cm (C8 s.tm y),s.hp i≠none) (xo:∀d,x.dst=some d->d ∉ looks ops o)(ne:∀d,x.dst=some d->o.dst≠some d)(ox:∀d,o.dst=some d->d ∉ looks ops x)
  (El:Tf x.op=true)(hao:Tf o.op=true)(Ahl:∀i,GK x s.tm s.hp i->¬GK o s.tm s.hp i)(hx:Ka C P ops x s.tm=true)(ho:Ka C P ops o s.tm=true)
  (h:Es C P N call ops x s (fun s1=>Es C P N call ops o s1 K)=some r):Es C P N call ops o s (fun s1=>Es C P N call ops x s1 K)=some r:=by
 obtain⟨tm,hp⟩:=s;obtain⟨s1,e1,_,_,h⟩:=Sw h;obtain⟨s2,e2,_,_,h⟩:=Sw h;rw[Mz hx] at e1
 have hSx:∀i,GK x tm hp i->hp i≠none:=by
  rintro i (⟨y,hy,hi⟩|⟨BE,_⟩)
  ·exact hwx y hy i hi
  ·rw[El] at BE;cases BE
 have hSo:∀i,GK o tm hp i->hp i≠none:=by
  rintro i (⟨y,hy,hi⟩|⟨BE,_⟩)
  ·exact hw.1 y hy i hi
  ·rw[hao] at BE;cases BE
 obtain⟨vx,hpx,Axv,rfl,e1',T1⟩:=Xh El (fun _ _=>rfl) (fun _ _=>rfl) (fun _ _=>rfl) e1
 have:Axv=hpx:=by
  rw[e1] at e1';injection e1' with q;injection q with _ q;exact q.symm
 subst this;have t1:∀t∈looks ops o,Cn tm x.dst vx t=tm t:=G8 xo;have t1o:=H7 (ops:=ops) (o:=o) t1;rw[Mz (by rw[K8 t1];exact ho)] at e2
 have hRo:∀i,GK o (Cn tm x.dst vx) Axv i↔GK o tm hp i:=by
  intro i;constructor
  ·rintro (⟨y,hy,hi⟩|⟨BE,_⟩)
   ·exact .inl ⟨y,hy,by rw[←t1o y hy];exact hi⟩
   ·rw[hao] at BE;cases BE
  ·rintro (⟨y,hy,hi⟩|⟨BE,_⟩)
   ·exact .inl ⟨y,hy,by rw[t1o y hy];exact hi⟩
   ·rw[hao] at BE;cases BE
 have Azx:∀{s:St} {o:Oper} {s2:St},Tf o.op=true->ER C P N call s o some=some s2->∀d,o.dst=some d->s.hp d=none:=by
  intro s o s2 hao e d hd;unfold ER at e;unfold Tf at hao;split at hao
  ·rename_i c hc;rw[hc] at e;simp only at e;split at hao
   ·rename_i hcc;rw[hcc] at e;simp only[hd,F6] at e;obtain⟨_,_,_,e⟩:=Bw e;obtain⟨_,_,_,e⟩:=Bw e;obtain⟨_,e⟩:=Ex e;obtain⟨_,_,_,e⟩:=Bw e;obtain⟨_,_,_,e⟩:=Bw e;exact Acc e
   ·cases hao
  ·cases hao
 have Bb8:∀d,o.dst=some d->hp d=none:=by
  intro d hd;have h0:=Azx hao e2 d hd;cases hh:hp d with
  |none=>rfl
  |some b=>exact absurd h0 ((T1 0).keep d (by rw[hh];simp))
 have A8b:=Azx El e1;simp only at A8b;have hoS:∀d,o.dst=some d->¬GK x tm hp d:=fun d hd hR=>hSx d hR (Bb8 d hd)
 have hxS:∀d,x.dst=some d->¬GK o tm hp d:=fun d hd hR=>hSo d hR (A8b d hd)
 obtain⟨vo,Bbg,hpo,rfl,e3,T2⟩:=Xh (tm':=tm) (Fd:=hp) hao t1o (fun i hi=>(T1 0).far i (fun hR=>Ahl i hR hi) (hSo i hi)) (fun d hd=>((T1 (d+1)).off d (by omega) (fun e=>ne d e hd) (.inl (hoS d hd))).1) e2
 obtain⟨vo',Bao,Ag2,e3a,e3b,T3⟩:=Xh (tm':=tm) (Fd:=hp) hao (fun _ _=>rfl) (fun _ _=>rfl) (fun _ _=>rfl) e3
 rw[e3] at e3b
 have Bch:Bao=hpo∧Ag2=hpo:=by
  injection e3a with _ q1;injection e3b with q2;injection q2 with _ q3;exact⟨q1.symm,q3.symm⟩
 obtain⟨rfl,rfl⟩:=Bch;have t2:∀t∈looks ops x,tm t=Cn tm o.dst vo t:=fun t ht=>(G8 ox t ht).symm
 have t2x:=H7 (ops:=ops) (o:=x) t2
 have hRx:∀i,GK x (Cn tm o.dst vo) Ag2 i↔GK x tm hp i:=by
  intro i;constructor
  ·rintro (⟨y,hy,hi⟩|⟨BE,_⟩)
   ·exact .inl ⟨y,hy,by rw[t2x y hy];exact hi⟩
   ·rw[El] at BE;cases BE
  ·rintro (⟨y,hy,hi⟩|⟨BE,_⟩)
   ·exact .inl ⟨y,hy,by rw[←t2x y hy];exact hi⟩
   ·rw[El] at BE;cases BE
 obtain⟨vx2,Bcx,Bbz,e4a,e4,T4⟩:=Xh (tm':=Cn tm o.dst vo) (Fd:=Ag2) El t2x (fun i hi=>((T3 0).far i (Ahl i ((hRx i).1 hi)) (hSx i ((hRx i).1 hi))).symm) (fun d hd=>((T3 (d+1)).off d (by omega) (fun e=>ne d hd e) (.inl (hxS d hd))).1.symm) e1
 have hvx:Cn tm x.dst vx=Cn tm x.dst vx2∧Axv=Bcx:=by
  injection e4a with q1 q2;exact⟨q1,q2⟩
 obtain⟨hvx,rfl⟩:=hvx;obtain⟨_,hq1,RT,e5a,e5b,T5⟩:=Xh (tm':=Cn tm x.dst vx) (Fd:=Axv) hao (fun _ _=>rfl) (fun _ _=>rfl) (fun _ _=>rfl) e2
 have hq:hq1=Bbg:=by injection e5a with _ q1;exact q1.symm
 subst hq;obtain⟨_,hu1,hu2,e6a,e6b,T6⟩:=Xh (tm':=Cn tm o.dst vo) (Fd:=Ag2) El (fun _ _=>rfl) (fun _ _=>rfl) (fun _ _=>rfl) e4
 have hu:hu1=Bbz:=by injection e6a with _ q1;exact q1.symm
 subst hu
 have Ps:hq1=hu1:=by
  funext i
  by_cases hi:GK o tm hp i∨o.dst=some i
  ·have hxi:¬GK x tm hp i:=by
    rcases hi with hi|hi
    ·exact fun hR=>Ahl i hR hi
    ·exact hoS i hi
   have hdi:x.dst≠some i:=by
    rcases hi with hi|hi
    ·exact fun e=>hxS i e hi
    ·exact fun e=>ne i e hi
   rw[(T2 0).same i ((T1 (i+1)).off i (by omega) hdi (.inl hxi)).1]
   exact ((T6 (i+1)).off i (by omega) hdi (.inl fun hR=>hxi ((hRx i).1 hR))).1.symm
  ·have hoi:¬GK o tm hp i:=fun e=>hi (.inl e)
   have hdi:o.dst≠some i:=fun e=>hi (.inr e)
   rw[((T5 (i+1)).off i (by omega) hdi (.inl fun hR=>hoi ((hRo i).1 hR))).1]
   exact (T4 0).same i ((T3 (i+1)).off i (by omega) hdi (.inl hoi)).1.symm
 refine EA (s1:=⟨Cn tm o.dst vo,Ag2⟩) (by rw[Mz ho];exact e3) ?_
 refine EA (s1:=⟨Cn (Cn tm o.dst vo) x.dst vx2,hu1⟩) (by rw[Mz (by rw[←K8 t2];exact hx)];exact e4) ?_
 rw[←Pt ne,←hvx,←Ps];exact h
theorem KV (hM:Zd C P o.op=true){i:Nat}(h:GK o s.tm s.hp i):i∈Rt C P s o:=by
 unfold Rt;rw[hM];cases hA:Tf o.op
 ·simp only[Bool.not_false,Bool.and_self,cond_true,List.mem_append];rcases h with⟨y,hy,hi⟩|⟨_,id,c,⟨y,hy,hi⟩,hc,p,hp,hk⟩
  ·exact .inl (List.mem_flatMap.2 ⟨y,hy,hi⟩)
  ·refine .inr (List.mem_flatMap.2 ⟨id,List.mem_flatMap.2 ⟨y,hy,hi⟩,?_⟩);rw[hc];exact List.mem_flatMap.2 ⟨p,hp,hk⟩
 ·simp only[Bool.not_true,Bool.and_false,cond_false,Bool.or_true,cond_true];rcases h with⟨y,hy,hi⟩|⟨hn,_⟩
  ·exact List.mem_flatMap.2 ⟨y,hy,hi⟩
  ·rw[hA] at hn;cases hn
theorem SB (hl:Zd C P o.op=true∨BJ P o.op=true){y:Operand}(hy:y∈o.op.operands.toList){i:Nat}(h:i∈Cm (C8 s.tm y)):i∈Rt C P s o:=by
 rcases hl with hM|hl
 ·exact KV hM (.inl ⟨y,hy,h⟩)
 ·unfold Rt;rw[Pu hl,hl];exact List.mem_flatMap.2 ⟨y,hy,h⟩
theorem Ag7 (ht:∀t∈looks ops o,s1.tm t=s.tm t)(hh:Zd C P o.op=true->Tf o.op=false->∀y∈o.op.operands.toList,∀i∈Cm (C8 s.tm y),s1.hp i=s.hp i):Rt C P s1 o=Rt C P s o:=by
 have he:=H7 (ops:=ops) (o:=o) ht
 have hl:(o.op.operands.toList.flatMap fun y=>Cm (C8 s1.tm y))=o.op.operands.toList.flatMap fun y=>Cm (C8 s.tm y):=by
  have A3s:∀l:List Operand,(∀y∈l,C8 s1.tm y=C8 s.tm y)->(l.flatMap fun y=>Cm (C8 s1.tm y))=l.flatMap fun y=>Cm (C8 s.tm y):=by
   intro l
   induction l with
   |nil=>intro _;rfl
   |cons a l ih=>intro h;simp only[List.flatMap_cons];rw[h a (by simp),ih fun y hy=>h y (by simp[hy])]
  exact A3s _ he
 unfold Rt;simp only[hl];cases hM:(Zd C P o.op && !Tf o.op)
 ·rfl
 ·simp only[cond_true];simp only[Bool.and_eq_true,Bool.not_eq_true'] at hM
  congr 1
  have A3s:∀l:List Nat,(∀i∈l,s1.hp i=s.hp i)->(l.flatMap fun i=>match s1.hp i with|some (.st c)=>c.flatMap A7|_=>[])=l.flatMap fun i=>match s.hp i with|some (.st c)=>c.flatMap A7|_=>[]:=by
   intro l
   induction l with
   |nil=>intro _;rfl
   |cons a l ih=>intro h;simp only[List.flatMap_cons];rw[h a (by simp),ih fun y hy=>h y (by simp[hy])]
  exact A3s _ fun i hi=>by
   obtain⟨y,hy,hi⟩:=List.mem_flatMap.1 hi;exact hh hM.1 hM.2 y hy i hi
theorem IJ {a b:List Nat}(h:Am2 a b=true){i:Nat}(ha:i∈a)(hb:i∈b):False:=by
 have:=List.all_eq_true.1 h i ha;have h2:b.any (Nat.beq i)=true:=List.any_eq_true.2 ⟨i,hb,Nat.beq_refl i⟩;rw[h2] at this;cases this
theorem Aoe {a b:List Nat}(h:Am2 a b=true):Am2 b a=true:=by
 refine List.all_eq_true.2 fun i hi=>?_
 cases hc:a.any (Nat.beq i)
 ·rfl
 ·obtain⟨j,hj,e⟩:=List.any_eq_true.1 hc;rw[Nat.eq_of_beq_eq_true e] at hi;exact (IJ h hj hi).elim
theorem GM:Pf C P x o=Pf C P o x:=by
 unfold Pf;cases Zd C P x.op<;>cases Zd C P o.op<;>cases BJ P x.op<;>cases BJ P o.op<;>cases Tf x.op<;>cases Tf o.op<;>rfl
structure Rc (C:Kf) (P:Program) (ops:Array Oper) (x o:Oper):Prop where
 xo:∀d,x.dst=some d->d ∉ looks ops o
 ne:∀d,x.dst=some d->o.dst≠some d
 ox:∀d,o.dst=some d->d ∉ looks ops x
 me:Y2 C P x o=false∨Pf C P x o=true
theorem Anm (h:Ar5 C P ops x o=false):Rc C P ops x o:=by
 unfold Ar5 at h;simp only[Bool.or_eq_false_iff] at h;obtain⟨h1,h2⟩:=h;have hT:=h1;unfold Aq2 at h1;simp only[Bool.or_eq_false_iff] at h1
 have a1:WY C P ops x o=false∨Y2 C P x o=true:=by
  cases hc:Y2 C P x o
  ·left;unfold WY;unfold Y2 at hc;simp only[Bool.or_eq_false_iff] at hc ⊢;exact⟨⟨⟨h1.1,h1.2⟩,hc.1⟩,hc.2⟩
  ·exact .inr rfl
 refine⟨fun d hd=>?_,fun d hd he=>?_,fun d hd=>?_,?_⟩
 ·have:=h1.1;simp only[hd,Bool.or_eq_false_iff] at this;exact X9 this.1
 ·have:=h1.1;simp only[hd,he,Bool.or_eq_false_iff] at this;rw[Nat.beq_refl] at this;cases this.2
 ·have:=h1.2;simp only[hd] at this;exact X9 this
 ·cases hc:Y2 C P x o
  ·exact .inl rfl
  ·rw[hc] at h2;right
   simpa using h2
theorem Rc.apart (ap:Rc C P ops x o)(h:Y2 C P x o=false):JG C P ops x o:=by
 unfold Y2 at h;simp only[Bool.or_eq_false_iff,Bool.and_eq_false_iff] at h;refine⟨ap.xo,ap.ne,ap.ox,fun hm=>?_,fun hm=>?_⟩
 ·rcases h.1 with h|h
  ·rw[hm] at h;cases h
  ·exact h
 ·rcases h.2 with h|h
  ·rw[hm] at h;cases h
  ·exact h
theorem Rc.same (ap:Rc C P ops x o)(hk:Abj P x s s1)(hl:BJ P x.op=true->s1.hp=s.hp)(hM:Zd C P o.op=true)(hA:Tf o.op=false){i:Nat}(hi:s.hp i≠none):s1.hp i=s.hp i:=by
 rcases ap.me with h|h
 ·exact hk.2.2 ((ap.apart h).mo hM) i hi
 ·unfold Pf at h;rw[hA] at h;simp only[Bool.and_false,Bool.or_false,Bool.or_eq_true,Bool.and_eq_true] at h;rcases h with h|h
  ·have:=h.2;rw[Pu (C:=C) (P:=P) this] at hM;cases hM
  ·rw[hl h.2]
theorem Has.keepsS (h:Has C P o s)(ap:Rc C P ops x o)(hk:Abj P x s s1)(hl:BJ P x.op=true->s1.hp=s.hp):Has C P o s1:=by
 have hop:∀y∈o.op.operands.toList,C8 s1.tm y=C8 s.tm y:=fun y hy=>H7 (ops:=ops) (o:=o) (fun t ht=>hk.1 t fun hd=>ap.xo t hd ht) y hy
 refine⟨fun y hy i hi=>?_,fun hM hA y hy i hi c hc p hp k hkk=>?_⟩
 ·rw[hop y hy] at hi;exact hk.2.1 i (h.1 y hy i hi)
 ·rw[hop y hy] at hi;rw[ap.same hk hl hM hA (h.1 y hy i hi)] at hc;exact hk.2.1 k (h.2 hM hA y hy i hi c hc p hp k hkk)
theorem Rc.symm (ap:Rc C P ops x o):Rc C P ops o x:=by
 refine⟨ap.ox,fun d hd he=>ap.ne d he hd,ap.xo,?_⟩
 rcases ap.me with h|h
 ·left;unfold Y2 at h ⊢;rw[Bool.or_comm];exact h
 ·right;rw[GM];exact h
theorem A79 (hw:Has C P o s)(hwx:Pf C P x o=true->∀i∈Rt C P s x,s.hp i≠none)(ap:Rc C P ops x o)(hd:Pf C P x o=true->Am2 (Rt C P s x) (Rt C P s o)=true)
  (h:Es C P N call ops x s (fun s1=>Es C P N call ops o s1 K)=some r):Es C P N call ops o s (fun s1=>Es C P N call ops x s1 K)=some r:=by
 rcases ap.me with hm|hm
 ·exact A7u hw (ap.apart hm) h
 ·have hd:=hd hm;have hwx:=hwx hm;cases hx:Ka C P ops x s.tm
  ·cases ho:Ka C P ops o s.tm
   ·exact Amp hw ap.xo ap.ne ap.ox hx ho h
   ·have hMo:=BS ho
    have hlx:XO P ops x s.tm:=by
     cases hl:BJ P x.op
     ·right
      have hMx:Zd C P x.op=true:=by
       unfold Pf at hm;simp only[hl,Bool.and_false,Bool.or_false,Bool.or_eq_true,Bool.and_eq_true] at hm;rcases hm with hm|hm
       ·exact hm.1
       ·exact Acx hm.1
      cases hv:I4 ops x s.tm with
      |none=>
       exfalso;rw[P3 hx] at h;unfold gE at h;rw[hv] at h;cases h
      |some b=>
       cases b
       ·rfl
       ·unfold Ka at hx;rw[hMx,hv] at hx;cases hx
     ·exact .inl hl
    refine Azc ap.xo ap.ne ap.ox hlx (fun y hy i hi hR=>?_) ho h
    refine IJ hd (SB ?_ hy hi) (KV hMo hR);unfold Pf at hm;simp only[Bool.or_eq_true,Bool.and_eq_true] at hm;rcases hm with (hm|hm)|hm
    ·exact .inl hm.1
    ·exact .inr hm.2
    ·exact .inl (Acx hm.1)
  ·have hMx:=BS hx;cases ho:Ka C P ops o s.tm
   ·have hlo:XO P ops o s.tm:=by
     cases hl:BJ P o.op
     ·right
      have hMo:Zd C P o.op=true:=by
       unfold Pf at hm;simp only[hl,Bool.and_false,Bool.false_or,Bool.or_eq_true,Bool.and_eq_true] at hm;rcases hm with hm|hm
       ·exact hm.1
       ·exact Acx hm.2
      cases hv:I4 ops o s.tm with
      |none=>
       exfalso;obtain⟨s1,_,hk,_,h⟩:=Sw h;have hv1:I4 ops o s1.tm=none:=by rw[Qd (fun t ht=>hk.1 t fun hd=>ap.xo t hd ht)];exact hv
       rw[P3 (by unfold Ka;rw[hv1];cases Zd C P o.op<;>rfl)] at h
       unfold gE at h;rw[hv1] at h;cases h
      |some b=>
       cases b
       ·rfl
       ·unfold Ka at ho;rw[hMo,hv] at ho;cases ho
     ·exact .inl hl
    refine Ax6 hw ap.xo ap.ne ap.ox hlo (fun y hy i hi hR=>?_) hx h
    refine IJ hd (KV hMx hR) (SB ?_ hy hi);unfold Pf at hm;simp only[Bool.or_eq_true,Bool.and_eq_true] at hm;rcases hm with (hm|hm)|hm
    ·exact .inr hm.2
    ·exact .inl hm.1
    ·exact .inl (Acx hm.2)
   ·have hMo:=BS ho;unfold Pf at hm;simp only[Bool.or_eq_true,Bool.and_eq_true] at hm;rcases hm with (hm|hm)|hm
    ·rw[Pu (C:=C) (P:=P) hm.2] at hMo;cases hMo
    ·rw[Pu (C:=C) (P:=P) hm.2] at hMx;cases hMx
    ·exact Axb hw (fun y hy i hi=>hwx i (SB (.inl hMx) hy hi)) ap.xo ap.ne ap.ox hm.1 hm.2 (fun i h1 h2=>IJ hd (KV hMx h1) (KV hMo h2)) hx ho h
theorem Aq8 {α:Type}(a b:α)(l:List α)(f:α->Bool):(a::b::l).all f=(b::a::l).all f:=by
 simp only[List.all_cons];cases f a<;>cases f b<;>rfl
theorem OR {bs:List (List Nat)}:∀(l:List Nat){dn dn':List (Nat × Oper × List Nat)} {s:St}{K:St->Option R},(∀f,dn.all f=dn'.all f)->L6 C P N call ops bs dn l s K=L6 C P N call ops bs dn' l s K
 |[],_,_,_,_,_=>rfl
 |i::l,dn,dn',s,K,h=>by
  unfold L6;cases ops[i]? with
  |none=>rfl
  |some o=>
   simp only[F6,h]
   congr 2
   funext s'
   exact OR l fun f=>by simp only[List.all_cons,h]
theorem VX {bs:List Nat}{i:Nat}(hi:ops[i]?=some o):(PA C P ops bs).getD i []=JQ C P ops bs i o:=by
 unfold PA;rw[List.getD_eq_getElem?_getD,List.getElem?_map,List.getElem?_zipIdx,Array.getElem?_toList,hi];simp
theorem X8 {bs:List Nat}{i j:Nat}:j∈JQ C P ops bs i o↔∃x,ops[j]?=some x∧Pf C P x o=true∧(Nat.blt j i&&(bs.getD i 0).testBit j)=false∧(Nat.blt i j&&(bs.getD j 0).testBit i)=false:=by
 unfold JQ;simp only[List.mem_map,List.mem_filter,Bool.and_eq_true,Bool.not_eq_true',Prod.exists];constructor
 ·rintro⟨x,k,⟨hm,⟨h1,h2⟩,h3⟩,rfl⟩
  rw[List.mem_zipIdx_iff_getElem?] at hm;exact⟨x,by simpa using hm,h1,h2,h3⟩
 ·rintro⟨x,hx,h1,h2,h3⟩
  refine⟨x,j,⟨?_,⟨h1,h2⟩,h3⟩,rfl⟩;rw[List.mem_zipIdx_iff_getElem?]
  simpa using hx
theorem RQ {sm:List (List Nat)} {i j:Nat}(h:j∈sm.getD i []):QO C P sm s i o=Rt C P s o:=by
 unfold QO;split
 ·rename_i e;rw[e] at h;simp at h
 ·rfl
theorem Asy {sm:List (List Nat)} {i:Nat}(h:sm.getD i []≠[]->Rt C P s1 o=Rt C P s o):QO C P sm s1 i o=QO C P sm s i o:=by
 unfold QO;split
 ·rfl
 ·rename_i e;exact h (by rw[e];simp)
theorem Al9 {l:List Nat}{j:Nat}:l.any (Nat.beq j)=true↔j∈l:=by
 constructor
 ·intro h;obtain⟨k,hk,e⟩:=List.any_eq_true.1 h;rw[Nat.eq_of_beq_eq_true e];exact hk
 ·intro h;exact List.any_eq_true.2 ⟨j,h,Nat.beq_refl j⟩
theorem IM {bs:List Nat}{sm:List (List Nat)} (hsm:sm=PA C P ops bs){i:Nat}(hi:ops[i]?=some o) {l':List Nat}:∀(l:List Nat){dn:List (Nat × Oper × List Nat)} {s:St}{K:St->Option R},Has C P o s ->
  (∀j∈l,j<i∧(bs.getD i 0).testBit j=false∧∀x,ops[j]?=some x->Rc C P ops x o)->L6 C P N call ops sm dn (l++i::l') s K=some r ->
  dn.all (YI C P sm s i o)=true∧Es C P N call ops o s (fun s1=>L6 C P N call ops sm ((i,o,QO C P sm s i o)::dn) (l++l') s1 K)=some r
 |[],dn,s,K,hw,_,h=>by
  simp only[List.nil_append] at h ⊢;unfold L6 at h;rw[hi] at h;simp only[F6] at h;obtain⟨hb,h⟩:=A3 h;simp only[Bool.and_eq_true] at hb;exact⟨hb.1,h⟩
 |j::l,dn,s,K,hw,hl,h=>by
  simp only[List.cons_append] at h ⊢;unfold L6 at h;obtain⟨hji,YS,BE⟩:=hl j (by simp)
  cases hj:ops[j]? with
  |none=>rw[hj] at h;cases h
  |some x=>
   rw[hj] at h;simp only[F6] at h;obtain⟨hb,h⟩:=A3 h;simp only[Bool.and_eq_true] at hb;have ap:=BE x hj
   have hex:∀k∈QO C P sm s j x,s.hp k≠none:=fun k hk=>by
    have:=List.all_eq_true.1 hb.2 k hk;intro e;rw[e] at this;cases this
   obtain⟨s1,e1,Em,LW,h1⟩:=Sw h;obtain⟨ha,h2⟩:=IM hsm hi l (hw.keepsS ap Em LW) (fun k hk=>hl k (by simp[hk])) h1
   have Bbn:Rt C P s1 o=Rt C P s o:=Ag7 (ops:=ops) (fun t ht=>Em.1 t fun hd=>ap.xo t hd ht) fun hM hA y hy k hk=>ap.same Em LW hM hA (hw.1 y hy k hk)
   have hr1:QO C P sm s1 i o=QO C P sm s i o:=Asy fun _=>Bbn
   rw[List.all_cons,Bool.and_eq_true] at ha
   have A8i:Nat.blt i j=false:=by
    cases hh:Nat.blt i j
    ·rfl
    ·have:=Nat.le_of_ble_eq_true hh;omega
   have hmi:Pf C P x o=true->j∈sm.getD i []:=fun hs=>by
    rw[hsm,VX hi];exact X8.2 ⟨x,hj,hs,by rw[YS,Bool.and_false],by rw[A8i,Bool.false_and]⟩
   have hmj:Pf C P x o=true->i∈sm.getD j []:=fun hs=>by
    rw[hsm,VX hj];exact X8.2 ⟨o,hi,by rw[GM];exact hs,by rw[A8i,Bool.false_and],by rw[YS,Bool.and_false]⟩
   have A0u:Pf C P x o=true->Am2 (QO C P sm s j x) (QO C P sm s i o)=true:=by
    intro hs;have:=ha.1;unfold YI at this;rw[Al9.2 (hmi hs),hr1] at this
    simpa using this
   have hok:∀q,YI C P sm s1 i o q=YI C P sm s i o q:=fun q=>by unfold YI;rw[hr1]
   have Y9:dn.all (YI C P sm s i o)=true:=by
    refine List.all_eq_true.2 fun q hq=>?_
    rw[←hok];exact List.all_eq_true.1 ha.2 q hq
   refine⟨Y9,?_⟩;rw[hr1] at h2
   have h3:=A79 hw (fun hs k hk=>hex k (by rw[RQ (hmj hs)];exact hk)) ap (fun hs=>by have:=A0u hs;rw[RQ (hmj hs),RQ (hmi hs)] at this;exact this)
    (EA (K':=fun s1=>Es C P N call ops o s1 (fun s2=>L6 C P N call ops sm ((i,o,QO C P sm s i o)::(j,x,QO C P sm s j x)::dn) (l++l') s2 K)) e1 h2)
   obtain⟨s2,e2,Ha,QN,h4⟩:=Sw h3;refine EA e2 ?_
   have hr2:QO C P sm s2 j x=QO C P sm s j x:=Asy fun Fu=>by
    obtain⟨q,hq⟩:=List.exists_mem_of_ne_nil _ Fu;refine Ag7 (ops:=ops) (fun t ht=>Ha.1 t fun hd=>ap.ox t hd ht) fun hM hA y hy k hk=>ap.symm.same Ha QN hM hA (hex k ?_)
    rw[RQ hq];exact SB (.inl hM) hy hk
   unfold L6;rw[hj];simp only[F6]
   have hc:(((i,o,QO C P sm s i o)::dn).all (YI C P sm s2 j x)&&(QO C P sm s2 j x).all fun k=>(s2.hp k).isSome)=true:=by
    simp only[List.all_cons,Bool.and_eq_true];refine⟨⟨?_,?_⟩,?_⟩
    ·unfold YI;simp only[hr2];cases hs:(sm.getD j []).any (Nat.beq i)
     ·rfl
     ·have hm:=Al9.1 hs;rw[hsm,VX hj] at hm;obtain⟨o',ho',hso,_⟩:=X8.1 hm;rw[hi] at ho';cases ho';rw[GM] at hso;rw[Aoe (A0u hso)];rfl
    ·refine List.all_eq_true.2 fun q hq=>?_
     have:=List.all_eq_true.1 hb.1 q hq;unfold YI at this ⊢;rw[hr2];exact this
    ·rw[hr2];refine List.all_eq_true.2 fun k hk=>?_
     have:=Ha.2.1 k (hex k hk);cases hh:s2.hp k with
     |none=>exact absurd hh this
     |some _=>rfl
   rw[hc,hr2];show Es C P N call ops x s2 _=some r
   have:(fun s'=>L6 C P N call ops sm ((j,x,QO C P sm s j x)::(i,o,QO C P sm s i o)::dn) (l++l') s' K)=fun s2=>L6 C P N call ops sm ((i,o,QO C P sm s i o)::(j,x,QO C P sm s j x)::dn) (l++l') s2 K:=by
    funext s'
    exact OR _ fun f=>Aq8 _ _ _ f
   rw[this];exact h4
end
section
variable {R:Type} {r:R} {P:Program} {N:Nat} {w0:World} {X0:Gg} {Y:Nat->Prop} {β β':Bt} {s:St} {a:Act} {w w':World} {o:Oper} {ops:Array Oper} {C:Kf} {call:Ah} {K:St->Option R}
theorem FO {bs:List Nat}:∀(l:List Oper)(n:Nat),KG C P ops bs l n=true->∀(k:Nat) o,l[k]?=some o->∀(j:Nat) x,ops[j]?=some x->j<n+k->Ar5 C P ops x o=true->(bs.getD (n+k) 0).testBit j=true
 |[],_,_,k,o,ho,_,_,_,_,_=>by simp at ho
 |o'::l,n,h,k,o,ho,j,x,hx,hj,AK=>by
  simp only[KG,Bool.and_eq_true] at h;cases k with
  |zero=>
   simp at ho;subst ho
   have:=List.all_eq_true.1 h.1 (x,j) (by
    rw[List.mem_zipIdx_iff_getElem?]
    simpa using hx)
   simp only[AK,Bool.not_true,Bool.or_false,Bool.or_eq_true,Bool.not_eq_true'] at this;rcases this with h'|h'
   ·have:Nat.blt j n=true:=Nat.ble_eq_true_of_le (by omega)
    rw[this] at h';cases h'
   ·exact h'
  |succ k=>
   have:=FO l (n+1) h.2 k o (by simpa using ho) j x hx (by omega) AK
   rwa [show n+(k+1)=n+1+k by omega]
theorem Acd {G:Xl}(Kg:QA P G w0 X0)(Dj:∀f args res,call f args=some res->Dl G P f args res)(hok:SJ C P ops=true){Q:Exit->Act->World->Prop}(hQ:∀s' a' w' β',K s'=some r->Ch N w0 X0 Y β' s' a' w'->Q .normal a' w'):
  ∀(fuel:Nat) {dn:List (Nat × Oper × List Nat)} {listed:Array Bool} {s:St} {a:Act} {w:World} {β:Bt},HeadInv .any ops ops.size listed->(Sc ops.size listed).length=fuel->Ch N w0 X0 Y β s a w->L6 C P N call ops (PA C P ops (Mp ops.toList [])) dn (Sc ops.size listed) s K=some r->wpAny P .any ops Q fuel listed a w:=by
 unfold SJ at hok;simp only[Bool.and_eq_true] at hok;obtain⟨Arg,A23⟩:=hok;intro fuel
 induction fuel with
 |zero=>
  intro dn listed s a w β inv hf h hk;have hp:=List.eq_nil_of_length_eq_zero hf;rw[hp] at hk;refine⟨?_,hQ s a w β hk h⟩;cases hr:Region.ready .any ops listed with
  |nil=>rfl
  |cons i l=>
   exfalso;have hi:i∈Region.ready .any ops listed:=by rw[hr];simp
   obtain⟨O2,o,ho,_⟩:=mem_ready.1 hi;have:i∈Sc ops.size listed:=N6.2 ⟨(Array.getElem?_eq_some_iff.1 ho).1,O2⟩;rw[hp] at this;simp at this
 |succ fuel ih=>
  intro dn listed s a w β inv hf h hk;refine⟨fun hr=>?_,fun i hi=>?_⟩
  ·rw[ZZ Arg inv hr] at hf;cases hf
  ·obtain⟨O2,o,ho,Y9⟩:=mem_ready.1 hi;have Cq:i<ops.size:=(Array.getElem?_eq_some_iff.1 ho).1;obtain⟨l1,l2,h1,h2,h3⟩:=HY (N6.2 ⟨Cq,O2⟩) inv.size;rw[h1] at hk
   have hnb:∀j∈l1,((Mp ops.toList []).getD i 0).testBit j=false:=by
    intro j hj;cases YS:((Mp ops.toList []).getD i 0).testBit j with
    |false=>rfl
    |true=>
     exfalso;have hjl:=Ym (listed:=listed) (fun j oj hj hl=>inv.closed j oj hj hl) ops.toList [] [] (by simp) rfl (by simp) i o ho Y9 j YS
     have:j∈Sc ops.size listed:=by rw[h1];simp[hj]
     have:=getD_both (N6.1 this).2;rw[hjl] at this;cases this
   have BE:∀j∈l1,j<i∧((Mp ops.toList []).getD i 0).testBit j=false∧∀x,ops[j]?=some x->Rc C P ops x o:=by
    intro j hj;refine⟨h3 j hj,hnb j hj,fun x hxj=>Anm ?_⟩
    cases AK:Ar5 C P ops x o with
    |false=>rfl
    |true=>
     exfalso;have YS:=FO ops.toList 0 A23 i o (by simpa using ho) j x hxj (by have:=h3 j hj;omega) AK
     rw[Nat.zero_add,hnb j hj] at YS;cases YS
   obtain⟨s',hs',hn⟩:=HA h Kg Dj ho (IM rfl ho l1 (Auh h o) BE hk).2;refine hn _ _ fun a' w' β' h'=>ih (dn:=(i,o,QO C P (PA C P ops (Mp ops.toList [])) s i o)::dn) (inv.set hi Cq) ?_ h' ?_
   ·rw[h2];rw[h1] at hf;simp at hf ⊢;omega
   ·rw[h2];exact hs'
theorem Zr (h:Ch N w0 X0 Y β s a w){G:Xl}(Kg:QA P G w0 X0)(Dj:∀f args res,call f args=some res->Dl G P f args res)(hm:P.follows .mixedOrders=true)(hok:SJ C P ops=true){Q:Exit->Act->World->Prop}
  (hk:L6 C P N call ops (PA C P ops (Mp ops.toList [])) [] (List.range ops.size) s K=some r) (hQ:∀s' a' w' β',K s'=some r->Ch N w0 X0 Y β' s' a' w'->Q .normal a' w'):wpAny P .any ops Q ops.size (Array.replicate ops.size false) a { w with drawn:=w.drawn+1 }:=by
 have hp:Sc ops.size (Array.replicate ops.size false)=List.range ops.size:=by
  unfold Sc;refine List.filter_eq_self.2 fun i hi=>?_
  have:=List.mem_range.1 hi;simp[this]
 refine Acd (C:=C) (dn:=[]) Kg Dj hok hQ ops.size ⟨by simp,fun j oj _ hl=>(by rw[getD_replicate_false] at hl;cases hl),fun t ht ht'=>by omega⟩ (by rw[hp];simp) h.drew ?_
 rw[hp];exact hk
theorem Aho (h:Ch N w0 X0 Y β s a w){G:Xl}(Kg:QA P G w0 X0)(Dj:∀f args res,call f args=some res->Dl G P f args res)(hm:P.follows .mixedOrders=true)(hok:SJ C P ops=true){id:Nat}{Q:Exit->Act->World->Prop}
  (hk:L6 C P N call ops (PA C P ops (Mp ops.toList [])) [] (List.range ops.size) s K=some r) (hQ:∀s' a' w' β',K s'=some r->Ch N w0 X0 Y β' s' a' w'->Q .normal a' w'):(Code.region id ops true).wp P Q a w:=
 wp_region_any hm (Zr h Kg Dj hm hok hk hQ)
end
open Go.RowKit
section
variable {R:Type} {r:R} {N:Nat} {w0:World} {X0:Gg} {Y:Nat->Prop} {β β':Bt} {s:St} {a:Act} {w w':World}
theorem Au0 {i:Nat}(hi:i<a.tmps.size):a.put (some i) (a.tmps.getD i undef)=a:=by
 obtain⟨tmps,dfr⟩:=a;change i<tmps.size at hi
 have:tmps.setIfInBounds i (tmps.getD i undef)=tmps:=by
  apply Array.ext_getElem?;intro k;by_cases e:i=k
  ·subst e;simp[hi]
  ·rw[Array.getElem?_setIfInBounds_ne e]
 simp only[Act.put,this]
theorem Al6 {A:Nat->Prop}{es:Nat}{v:Value}(h:A8 w A (.lst true es 0 []) v):v=.slice none 0 0:=by
 cases h;rfl
theorem Alw {id:Nat}(B6:s.hp id=none){v:PV}{val:Value}(hv:Et w (Du (Bc s.hp [(id,.ar false [])]) (Ds β id none) Y) (Ds β id none) v val) (hr:∀i∈Cm v,s.hp i≠none∨i=id):
  Abo Y β s w v [(id,.ar false [])] val w (Ds β id none):=by
 refine⟨rfl,rfl,rfl,C2.refl _ _,fun j hj=>Ax _ _ (by rintro rfl;exact hj B6),?_,?_,?_,?_,?_,hv,?_⟩
 ·intro j bx hm;simp at hm;rw[hm.2];trivial
 ·intro j bx hm;simp at hm;obtain⟨rfl,rfl⟩:=hm;exact .inl ⟨A5 _ _ _,rfl⟩
 ·intro j bx k q hm hq;simp at hm;obtain⟨rfl,rfl⟩:=hm;rw[A5] at hq;cases hq
 ·intro j bx j' bx' k q q' hm Sm _ _;simp at hm Sm;rw[hm.1,Sm.1]
 ·intro j cells hm;simp at hm
 ·intro j hj;rcases hr j hj with h|rfl
  ·exact .inl h
  ·exact .inr ⟨.ar false [],by simp⟩
theorem YR (h:Ch N w0 X0 Y β s a w)(i:Nat):∃β',Ch N w0 X0 Y β' (RX N s i) a w:=by
 unfold RX;split
 ·rename_i es ht
  have Cq:i<N:=by
   rcases Nat.lt_or_ge i N with h'|h'
   ·exact h'
   ·rw[h.tmo i h'] at ht;cases ht
  have hv:=h.tms i Cq;rw[ht] at hv;have hv:=Al6 hv;have hd:Jh N (some i)=true:=by simp[Jh,Nat.blt];omega
  have go:∀j,s.hp j=none->∃β',Ch N w0 X0 Y β' ⟨Ds s.tm i (.view j es 0 0),Ds s.hp j (some (.ar false []))⟩ a w:=by
   intro j hn;have:=h.stepR (d:=some i) hd (by simp[Cx,hn]) (Alw (v:=.view j es 0 0) (val:=.slice none 0 0) hn (.inl ⟨A5 _ _ _,rfl,rfl,none,rfl⟩) (by simp[Cm,Cw,A7]))
   rw[←hv,Au0 (by rw[h.tsz];exact Cq)] at this
   exact⟨_,this⟩
  cases hn:(s.hp i).isNone
  ·cases hn2:(s.hp (i+N*3000)).isNone
   ·exact⟨β,h⟩
   ·exact go _ (by simpa using hn2)
  ·exact go _ (by simpa using hn)
 ·exact⟨β,h⟩
theorem Ch.recell (h:Ch N w0 X0 Y β s a w){id:Nat}{c c':List PV}(h0:s.hp id=some (.st c)) (hl:c'.length=c.length)
  (hc:∀(j:Nat) p,c'[j]?=some p->∃q,c[j]?=some q∧(∀v,Cu w (Du s.hp β Y) β q v->Cu w (Du s.hp β Y) β p v)∧∀i∈A7 p,s.hp i≠none):
  Ch N w0 X0 Y β ⟨s.tm,Ds s.hp id (some (.st c'))⟩ a w:=by
 have J2:∀i,C5 (Ds s.hp id (some (.st c')) i)↔C5 (s.hp i):=by
  intro i;by_cases e:i=id
  ·subst e;rw[A5,h0];exact Iff.rfl
  ·rw[Ax _ _ e]
 have hX:HZ (Ds s.hp id (some (.st c'))) β=HZ s.hp β:=by
  funext b
  apply propext;constructor
  ·rintro⟨i,o,hl,hb⟩;exact⟨i,o,(J2 i).1 hl,hb⟩
  ·rintro⟨i,o,hl,hb⟩;exact⟨i,o,(J2 i).2 hl,hb⟩
 have hA:Du (Ds s.hp id (some (.st c'))) β Y=Du s.hp β Y:=by
  funext b;unfold Du;rw[hX]
 have Fu:∀i,s.hp i≠none->Ds s.hp id (some (.st c')) i≠none:=by
  intro i hi;by_cases e:i=id
  ·subst e;rw[A5];simp
  ·rw[Ax _ _ e];exact hi
 have Bcb:∀i,Ds s.hp id (some (.st c')) i≠none->s.hp i≠none:=by
  intro i hi;by_cases e:i=id
  ·subst e;rw[h0];simp
  ·rw[Ax _ _ e] at hi;exact hi
 refine⟨h.dfr,h.tsz,h.tmo,?_,?_,?_,?_,?_,?_,?_,?_,fun i hi=>⟨Fu _ (h.pin i hi).1,(h.pin i hi).2⟩,?_,?_,h.Ylt,h.fr⟩
 ·intro i hi;show Et w (Du (Ds s.hp id _) β Y) β _ _;rw[hA];exact h.tms i hi
 ·intro i b hb;show Wx w (Du (Ds s.hp id _) β Y) β i b;rw[hA];by_cases e:i=id
  ·subst e;change Ds s.hp i (some (.st c')) i=some b at hb;rw[A5] at hb;cases hb;obtain⟨b,o,h1,h2,h3⟩:=h.box i _ h0;refine⟨b,o,h1,fun j p hj=>?_,fun j hj=>h3 j (by rw[←hl];exact hj)⟩
   obtain⟨q,hq,hqp,_⟩:=hc j p hj;obtain⟨v,hv,hr⟩:=h2 j q hq;exact⟨v,hv,hqp v hr⟩
  ·change Ds s.hp id (some (.st c')) i=some b at hb;rw[Ax _ _ e] at hb;exact h.box i b hb
 ·intro i i' b o o' hl Pn hb J0;exact h.inj i i' b o o' ((J2 i).1 hl) ((J2 i').1 Pn) hb J0
 ·intro i b o hn hb;exact h.blt i b o (Bcb i hn) hb
 ·intro i hi j hj;exact Fu j (h.wfT i hi j hj)
 ·intro i cells hb p hp j hj;change Ds s.hp id (some (.st c')) i=_ at hb;by_cases e:i=id
  ·subst e;rw[A5] at hb;cases hb;obtain⟨k,hk⟩:=List.mem_iff_getElem?.1 hp;obtain⟨_,_,_,hr⟩:=hc k p hk;exact Fu j (hr j hj)
  ·rw[Ax _ _ e] at hb;exact Fu j (h.wfB i cells hb p hp j hj)
 ·intro b hb;exact h.ownd b (by rw[←hX];exact hb)
 ·intro i bx b o hb hlb hβ Cq j hj;change Ds s.hp id (some (.st c')) i=some bx at hb;by_cases e:i=id
  ·subst e;rw[A5] at hb;cases hb;exact h.rngB i _ b o h0 trivial hβ Cq j (by unfold BR at hj ⊢;simp only[hl] at hj;exact hj)
  ·rw[Ax _ _ e] at hb;exact h.rngB i bx b o hb hlb hβ Cq j hj
 ·intro i c1 b o hb hβ Cq;change Ds s.hp id (some (.st c')) i=_ at hb;by_cases e:i=id
  ·subst e;exact h.stp i c b o h0 hβ Cq
  ·rw[Ax _ _ e] at hb;exact h.stp i c1 b o hb hβ Cq
 ·intro b hY hb;exact h.Yx b hY (by rw[←hX];exact hb)
theorem YY (h:Ch N w0 X0 Y β s a w)(id j:Nat):∃β',Ch N w0 X0 Y β' (Ac4 N id s j) a w:=by
 unfold Ac4;split
 ·rename_i c h0;split
  ·rename_i es hj;cases hn:(s.hp (id+N*(j+1))).isNone
   ·exact⟨β,h⟩
   ·have hn:s.hp (id+N*(j+1))=none:=by simpa using hn
    have Fu:id≠id+N*(j+1):=by
     intro e;rw[←e,h0] at hn;cases hn
    have h1:=h.stepR (d:=none) (v:=.top) (val:=undef) rfl (by simp[Cx,hn]) (Alw hn (.top _) (by simp[Cm,Cw,A7]))
    change Ch N w0 X0 Y (Ds β (id+N*(j+1)) none) ⟨s.tm,Ds s.hp (id+N*(j+1)) (some (.ar false []))⟩ a w at h1
    have h2:=h1.recell (id:=id) (c:=c) (c':=c.set j (.view (id+N*(j+1)) es 0 0)) (by show Ds _ _ _ _=_;rw[Ax _ _ Fu];exact h0) (by simp) (by
     intro k p hp;by_cases e:k=j
     ·subst e
      have Cq:k<c.length:=by
       rcases Nat.lt_or_ge k c.length with h'|h'
       ·exact h'
       ·rw[List.getElem?_eq_none h'] at hj;cases hj
      rw[List.getElem?_set_self Cq] at hp;cases hp;refine⟨_,hj,fun v hv=>.inl ⟨A5 _ _ _,rfl,rfl,none,Al6 hv⟩,fun i hi=>?_⟩
      simp[A7] at hi;subst hi;show Ds _ _ _ _≠none;rw[A5];simp
     ·rw[List.getElem?_set_ne (fun h=>e h.symm)] at hp
      refine⟨p,hp,fun _ hv=>hv,fun i hi=>?_⟩
      have:=h.wfB id c h0 p (List.mem_of_getElem? hp) i hi;show Ds _ _ _ _≠none;by_cases e':i=id+N*(j+1)
      ·subst e';rw[A5];simp
      ·rw[Ax _ _ e'];exact this)
    refine⟨Ds β (id+N*(j+1)) none,?_⟩;have e3:Ds (Ds s.hp (id+N*(j+1)) (some (.ar false []))) id (some (.st (c.set j (.view (id+N*(j+1)) es 0 0))))=Ds (Ds s.hp id (some (.st (c.set j (.view (id+N*(j+1)) es 0 0))))) (id+N*(j+1)) (some (.ar false [])):=Ae5 _ _ _ (fun h=>Fu h.symm)
    change Ch N w0 X0 Y (Ds β (id+N*(j+1)) none) ⟨s.tm,Ds (Ds s.hp (id+N*(j+1)) (some (.ar false []))) id (some (.st (c.set j (.view (id+N*(j+1)) es 0 0))))⟩ a w at h2;rw[e3] at h2;exact h2
  ·exact⟨β,h⟩
 ·exact⟨β,h⟩
theorem Vn {f:St->Nat->St}(hf:∀s β,Ch N w0 X0 Y β s a w->∀i,∃β',Ch N w0 X0 Y β' (f s i) a w):∀(l:List Nat){s:St}{β:Bt},Ch N w0 X0 Y β s a w->∃β',Ch N w0 X0 Y β' (l.foldl f s) a w
 |[],_,β,h=>⟨β,h⟩
 |i::l,s,β,h=>by
  obtain⟨β1,h1⟩:=hf s β h i;exact Vn hf l h1
theorem Ad4 (h:Ch N w0 X0 Y β s a w)(i:Nat):∃β',Ch N w0 X0 Y β' (Adq N s i) a w:=by
 unfold Adq;split
 ·split
  ·exact Vn (fun s β h i=>YY h _ i) _ h
  ·exact⟨β,h⟩
 ·exact⟨β,h⟩
theorem Abp:∀{m:List (Nat × Nat)},F7 (m.map (·.2))=true->∀{i i' j:Nat},(i,j)∈m->(i',j)∈m->i=i'
 |[],_,_,_,_,h,_=>by simp at h
 |(x,y)::m,hn,i,i',j,h,h'=>by
  simp only[List.map_cons,F7,Bool.and_eq_true,Bool.not_eq_true'] at hn
  have hy:∀k,(k,y) ∉ m:=by
   intro k hk;exact X9 hn.1 (List.mem_map.2 ⟨(k,y),hk,rfl⟩)
  rcases List.mem_cons.1 h with e|h
  ·cases e;rcases List.mem_cons.1 h' with e|h'
   ·cases e;rfl
   ·exact absurd h' (hy _)
  ·rcases List.mem_cons.1 h' with e|h'
   ·cases e;exact absurd h (hy _)
   ·exact Abp hn.2 h h'
theorem LY:∀{m:List (Nat × Nat)},F7 (m.map (·.1))=true->∀{i j j':Nat},(i,j)∈m->(i,j')∈m->j=j'
 |[],_,_,_,_,h,_=>by simp at h
 |(x,y)::m,hn,i,j,j',h,h'=>by
  simp only[List.map_cons,F7,Bool.and_eq_true,Bool.not_eq_true'] at hn
  have hx:∀k,(x,k) ∉ m:=by
   intro k hk;exact X9 hn.1 (List.mem_map.2 ⟨(x,k),hk,rfl⟩)
  rcases List.mem_cons.1 h with e|h
  ·cases e;rcases List.mem_cons.1 h' with e|h'
   ·cases e;rfl
   ·exact absurd h' (hx _)
  ·rcases List.mem_cons.1 h' with e|h'
   ·cases e;exact absurd h (hx _)
   ·exact LY hn.2 h h'
theorem Sj {i j:Nat}(h:Nat.beq i j=false):i≠j:=by rintro rfl;rw[Nat.beq_refl] at h;cases h
theorem LF:∀{m:List (Nat × Nat)} {i j:Nat},EX m i=some j->(i,j)∈m
 |[],_,_,h=>by cases h
 |(x,y)::m,i,j,h=>by
  unfold EX at h;cases hb:Nat.beq i x<;>rw[hb] at h
  ·exact List.mem_cons_of_mem _ (LF h)
  ·have:=Nat.eq_of_beq_eq_true hb;cases h;rw[this];simp
theorem MO {m:List (Nat × Nat)} {hp:Nat->Option Cb}:∀{l:List (Nat × Nat)} {j:Nat}{b:Cb},B7 (Rx m hp l) j=some b->∃i b0,(i,j)∈l∧hp i=some b0∧b=Ayi m b0
 |[],_,_,h=>by cases h
 |(x,y)::l,j,b,h=>by
  unfold Rx at h;cases hx:hp x with
  |none=>
   rw[hx] at h;obtain⟨i,b0,h1,h2⟩:=MO h;exact⟨i,b0,List.mem_cons_of_mem _ h1,h2⟩
  |some bx=>
   rw[hx] at h;simp only[B7] at h;cases hb:Nat.beq j y<;>rw[hb] at h
   ·obtain⟨i,b0,h1,h2⟩:=MO h;exact⟨i,b0,List.mem_cons_of_mem _ h1,h2⟩
   ·have:=Nat.eq_of_beq_eq_true hb;subst this;cases h;exact⟨x,bx,by simp,hx,rfl⟩
theorem T9 {m:List (Nat × Nat)} {hp:Nat->Option Cb}:∀{l:List (Nat × Nat)} {i j:Nat},(i,j)∈l->hp i≠none->B7 (Rx m hp l) j≠none
 |[],_,_,h,_=>by simp at h
 |(x,y)::l,i,j,h,hi=>by
  unfold Rx;cases hx:hp x with
  |none=>
   rcases List.mem_cons.1 h with e|h
   ·cases e;exact absurd hx hi
   ·exact T9 h hi
  |some bx=>
   simp only[B7];cases hb:Nat.beq j y
   ·rcases List.mem_cons.1 h with e|h
    ·cases e;exact absurd rfl (Sj hb)
    ·exact T9 h hi
   ·simp
def XR (m:List (Nat × Nat)) (j:Nat):Option Nat:=
 match m with
 |[]=>none
 |(x,y)::r=>bif Nat.beq j y then some x else XR r j
theorem Alu:∀{m:List (Nat × Nat)} {i j:Nat},XR m j=some i->(i,j)∈m
 |[],_,_,h=>by cases h
 |(x,y)::m,i,j,h=>by
  unfold XR at h;cases hb:Nat.beq j y<;>rw[hb] at h
  ·exact List.mem_cons_of_mem _ (Alu h)
  ·have:=Nat.eq_of_beq_eq_true hb;cases h;rw[this];simp
theorem Agu:∀{m:List (Nat × Nat)} {i j:Nat},(i,j)∈m->∃k,XR m j=some k
 |[],_,_,h=>by simp at h
 |(x,y)::m,i,j,h=>by
  unfold XR;cases hb:Nat.beq j y
  ·rcases List.mem_cons.1 h with e|h
   ·cases e;exact absurd rfl (Sj hb)
   ·exact Agu h
  ·exact⟨x,rfl⟩
theorem Ad0 {f:Nat->PV}:∀{l:List Nat}{i:Nat},lk (l.map fun i=>(i,f i)) i=if i∈l then f i else .top
 |[],_=>rfl
 |x::l,i=>by
  simp only[List.map_cons,lk];cases hb:Nat.beq i x
  ·have:=Sj hb;simp only[cond_false,Ad0,List.mem_cons,this,false_or]
  ·have:=Nat.eq_of_beq_eq_true hb;subst this;simp
theorem ZH {m:Nat}:∀{n i:Nat},i∈Rf m n->i<n
 |0,_,h=>by simp[Rf] at h
 |n+1,i,h=>by
  simp only[Rf,List.mem_append] at h;rcases h with h|h
  ·have:=ZH h;omega
  ·cases hb:m.testBit n<;>rw[hb] at h
   ·simp at h
   ·simp at h;omega
theorem Ad2 (h:Ch N w0 X0 Y β s a w){m:List (Nat × Nat)} (h1:F7 (m.map (·.1))=true) (h2:F7 (m.map (·.2))=true) {ls:List Nat}(hls:∀i∈ls,i<N)(hpn:∀i,X0.pn i->(D0 N i,D0 N i)∈m):
  ∃β',Ch N w0 X0 Y β' ⟨lk (ls.map fun i=>(i,Am1 m (s.tm i))),B7 (Rx m s.hp m)⟩ a w:=by
 refine⟨fun j=>(XR m j).bind β,?_⟩
 have hβ:∀{i j:Nat},(i,j)∈m->(XR m j).bind β=β i:=by
  intro i j hm;obtain⟨k,hk⟩:=Agu hm;rw[hk];have:=Abp h2 (Alu hk) hm;subst this;rfl
 have hold:∀{j:Nat} {b:Cb},B7 (Rx m s.hp m) j=some b->∃i b0,(i,j)∈m∧s.hp i=some b0∧b=Ayi m b0∧(XR m j).bind β=β i:=by
  intro j b hb;obtain⟨i,b0,hm,h3,h4⟩:=MO hb;exact⟨i,b0,hm,h3,h4,hβ hm⟩
 have J2:∀{j:Nat},C5 (B7 (Rx m s.hp m) j)->∃i,(i,j)∈m∧C5 (s.hp i)∧(XR m j).bind β=β i:=by
  intro j hl;cases hb:B7 (Rx m s.hp m) j with
  |none=>rw[hb] at hl;exact hl.elim
  |some b=>
   obtain⟨i,b0,hm,h3,rfl,h5⟩:=hold hb;refine⟨i,hm,?_,h5⟩;rw[hb] at hl;rw[h3];cases b0<;>exact hl
 have hX:∀b,HZ (B7 (Rx m s.hp m)) (fun j=>(XR m j).bind β) b->HZ s.hp β b:=by
  rintro b ⟨j,o,hl,hb⟩
  obtain⟨i,_,Pn,e⟩:=J2 hl;exact⟨i,o,Pn,by rw[←e];exact hb⟩
 have hA:∀b,Du (B7 (Rx m s.hp m)) (fun j=>(XR m j).bind β) Y b->Du s.hp β Y b:=fun b hb=>hb.imp (hX b) id
 have hC:∀p v,Cu w (Du s.hp β Y) β p v->Cu w (Du (B7 (Rx m s.hp m)) (fun j=>(XR m j).bind β) Y) (fun j=>(XR m j).bind β) (Ako m p) v:=by
  intro p v hp;cases p with
  |view id es off n=>
   show Cu _ _ _ (match EX m id with|some j=>.view j es off n|none=>.top) v
   cases hj:EX m id with
   |some j=>
    have e:=hβ (LF hj);rcases hp with⟨e1,e2⟩|⟨b,o,x,cap,e1,e2⟩
    ·exact .inl ⟨by show (XR m j).bind β=none;rw[e];exact e1,e2⟩
    ·exact .inr ⟨b,o,x,cap,by show (XR m j).bind β=_;rw[e];exact e1,e2⟩
   |none=>exact A8.top _
  |ptr id off=>
   show Cu _ _ _ (match EX m id with|some j=>.ptr j off|none=>.top) v
   cases hj:EX m id with
   |some j=>
    have e:=hβ (LF hj);obtain⟨b,o,e1,e2⟩:=hp;exact⟨b,o,by show (XR m j).bind β=_;rw[e];exact e1,e2⟩
   |none=>exact A8.top _
  |sc v=>exact A8.step (C2.refl _ _) (fun b _=>hA b) hp
  |lst z es n c=>exact A8.step (C2.refl _ _) (fun b _=>hA b) hp
  |iptr c off=>exact Cu.step (p:=.iptr c off) (C2.refl _ _) (fun b _=>hA b) (by simp[A7]) hp
  |_=>exact A8.top _
 have hV:∀p v,Et w (Du s.hp β Y) β p v->Et w (Du (B7 (Rx m s.hp m)) (fun j=>(XR m j).bind β) Y) (fun j=>(XR m j).bind β) (Am1 m p) v:=by
  intro p v hp;cases p with
  |agg c=>
   obtain⟨vs,e1,e2⟩:=hp;refine⟨vs,e1,B8.of_at (by simp;exact e2.len) fun i q u hq hu=>?_⟩
   rw[List.getElem?_map] at hq;cases hc:c[i]? with
   |none=>rw[hc] at hq;cases hq
   |some q0=>
    rw[hc] at hq;cases hq;exact hC _ _ (e2.at_ hc hu)
  |view id es off n=>
   have:=hC (.view id es off n) v hp;change Cu _ _ _ (match EX m id with|some j=>.view j es off n|none=>.top) v at this
   show Et _ _ _ (match EX m id with|some j=>.view j es off n|none=>.top) v
   cases hj:EX m id<;>rw[hj] at this<;>exact this
  |ptr id off=>
   have:=hC (.ptr id off) v hp;change Cu _ _ _ (match EX m id with|some j=>.ptr j off|none=>.top) v at this
   show Et _ _ _ (match EX m id with|some j=>.ptr j off|none=>.top) v
   cases hj:EX m id<;>rw[hj] at this<;>exact this
  |sc v'=>exact hC (.sc v') v hp
  |lst z es n c=>exact hC (.lst z es n c) v hp
  |iptr c off=>exact hC (.iptr c off) v hp
  |_=>exact A8.top _
 have hrC:∀p i,i∈A7 (Ako m p)->∃k∈A7 p,(k,i)∈m:=by
  intro p i hi;cases p with
  |view id es off n=>
   change i∈A7 (match EX m id with|some j=>.view j es off n|none=>.top) at hi
   cases hj:EX m id<;>rw[hj] at hi
   ·simp[A7] at hi
   ·simp[A7] at hi;subst hi;exact⟨id,by simp[A7],LF hj⟩
  |ptr id off=>
   change i∈A7 (match EX m id with|some j=>.ptr j off|none=>.top) at hi
   cases hj:EX m id<;>rw[hj] at hi
   ·simp[A7] at hi
   ·simp[A7] at hi;subst hi;exact⟨id,by simp[A7],LF hj⟩
  |_=>simp[Ako,A7] at hi
 have hrV:∀p i,i∈Cm (Am1 m p)->∃k∈Cm p,(k,i)∈m:=by
  intro p i hi;cases p with
  |agg c=>
   simp only[Am1,Cm,Cw,List.mem_flatMap,List.mem_map] at hi;obtain⟨_,⟨q,hq,rfl⟩,hi⟩:=hi;obtain⟨k,hk,hm⟩:=hrC q i hi;exact⟨k,by simp only[Cm,Cw,List.mem_flatMap];exact⟨q,hq,hk⟩,hm⟩
  |view id es off n=>
   refine (hrC (.view id es off n) i ?_).imp fun k hk=>hk
   change i∈Cm (match EX m id with|some j=>.view j es off n|none=>.top) at hi
   show i∈A7 (match EX m id with|some j=>.view j es off n|none=>.top)
   cases hj:EX m id<;>rw[hj] at hi<;>exact hi
  |ptr id off=>
   refine (hrC (.ptr id off) i ?_).imp fun k hk=>hk
   change i∈Cm (match EX m id with|some j=>.ptr j off|none=>.top) at hi
   show i∈A7 (match EX m id with|some j=>.ptr j off|none=>.top)
   cases hj:EX m id<;>rw[hj] at hi<;>exact hi
  |_=>simp[Am1,Ako,Cm,Cw,A7] at hi
 refine⟨h.dfr,h.tsz,?_,?_,?_,?_,?_,?_,?_,?_,?_,?_,?_,?_,h.Ylt,h.fr⟩
 ·intro i hi;show lk _ i=_;rw[Ad0,if_neg (fun hm=>by have:=hls i hm;omega)]
 ·intro i hi;show Et w _ _ (lk _ i) _;rw[Ad0];split
  ·exact hV _ _ (h.tms i hi)
  ·exact A8.top _
 ·intro j b hb;obtain⟨i,b0,hm,h3,rfl,e⟩:=hold hb;have Ow:=h.box i b0 h3;cases b0 with
  |st c=>
   obtain⟨b,o,e1,e2,e3⟩:=Ow;refine⟨b,o,by show (XR m j).bind β=_;rw[e];exact e1,fun k p hp=>?_,fun k hk=>e3 k (by simpa using hk)⟩
   rw[List.getElem?_map] at hp;cases hc:c[k]? with
   |none=>rw[hc] at hp;cases hp
   |some q=>
    rw[hc] at hp;cases hp;obtain⟨v,hv,hr⟩:=e2 k q hc;exact⟨v,hv,hC _ _ hr⟩
  |ar fz c=>
   have:=Wx.step' hA Ow;show Wx _ _ _ _ (.ar fz c);rcases this with⟨e1,e2⟩|⟨b,o,e1,e2⟩
   ·exact .inl ⟨by show (XR m j).bind β=_;rw[e];exact e1,e2⟩
   ·exact .inr ⟨b,o,by show (XR m j).bind β=_;rw[e];exact e1,e2⟩
  |mv=>exact trivial
 ·intro j j' b o o' hl Pn hb J0;obtain⟨i,hm,LW,e⟩:=J2 hl;obtain⟨i',Sm,Bb6,e'⟩:=J2 Pn;have:=h.inj i i' b o o' LW Bb6 (by rw[←e];exact hb) (by rw[←e'];exact J0)
  subst this;exact LY h1 hm Sm
 ·intro j b o hn hb;cases hj:B7 (Rx m s.hp m) j with
  |none=>exact absurd hj hn
  |some bx=>
   obtain⟨i,b0,_,h3,_,e⟩:=hold hj;exact h.blt i b o (by rw[h3];simp) (by rw[←e];exact hb)
 ·intro i hi j hj;change j∈Cm (lk _ i) at hj;rw[Ad0] at hj;split at hj
  ·obtain⟨k,hk,hm⟩:=hrV _ j hj;exact T9 hm (h.wfT i hi k hk)
  ·simp[Cm,Cw,A7] at hj
 ·intro j cells hb p hp k hk;obtain⟨i,b0,_,h3,h4,_⟩:=hold hb;cases b0 with
  |st c=>
   cases h4;obtain⟨q,hq,rfl⟩:=List.mem_map.1 hp;obtain⟨k',J4,hm⟩:=hrC q k hk;exact T9 hm (h.wfB i c h3 q hq k' J4)
  |ar fz c=>cases h4
  |mv=>cases h4
 ·intro b hb;exact h.ownd b (hX b hb)
 ·intro j bx b o hb hlb hβ1 Cq k hk;obtain⟨i,b0,_,h3,h4,e⟩:=hold hb;subst h4;refine h.rngB i b0 b o h3 ?_ (by rw[←e];exact hβ1) Cq k ?_
  ·cases b0<;>exact hlb
  ·cases b0 with
   |st c=>simpa [BR,Ayi] using hk
   |ar fz c=>exact hk
   |mv=>exact hk
 ·intro i hi;exact⟨T9 (hpn i hi) (h.pin i hi).1,(hβ (hpn i hi)).trans (h.pin i hi).2⟩
 ·intro j c b o hb hβ1 Cq;obtain⟨i,b0,hm,h3,h4,e⟩:=hold hb;cases b0 with
  |st c0=>
   obtain⟨k,rfl,hk⟩:=h.stp i c0 b o h3 (by rw[←e];exact hβ1) Cq
   exact⟨k,LY h1 hm (hpn k hk),hk⟩
  |ar fz c0=>cases h4
  |mv=>cases h4
 ·intro b hY hb;exact h.Yx b hY (hX b hb)
theorem DR {m:List (Nat × Nat)} {q:Nat × Nat}{o n:Nat}(h:q∈m):q∈Aaa m o n:=by
 unfold Aaa;split
 ·exact h
 ·exact List.mem_append.2 (.inl h)
theorem Q4 {q:Nat × Nat}{new:Nat}:∀{c:List PV}{j:Nat}{m:List (Nat × Nat)},q∈m->q∈Yp N new c j m
 |[],_,_,h=>h
 |p::c,j,m,h=>by
  unfold Yp;split
  ·rename_i e;cases e
  ·rename_i e;cases e;exact Q4 (DR h)
  ·rename_i e;cases e;exact Q4 h
theorem Aer {q:Nat × Nat}{m:List (Nat × Nat)} {i:Nat}(h:q∈m):q∈RR N s m i:=by
 unfold RR;split
 ·exact DR h
 ·split
  ·exact h
  ·split
   ·exact Q4 (DR h)
   ·exact DR h
 ·exact Q4 h
 ·exact h
theorem JB {q:Nat × Nat}:∀{l:List Nat}{m:List (Nat × Nat)},q∈m->q∈l.foldl (RR N s) m
 |[],_,h=>h
 |_::l,_,h=>JB (l:=l) (Aer h)
theorem Yu {q:Nat × Nat}{m:List (Nat × Nat)} (h:q∈m):∀k,q∈BP N s.hp k m
 |0=>h
 |k+1=>by
  unfold BP;split
  ·exact Q4 (Yu h k)
  ·exact Yu h k
theorem Abr:∀{k i:Nat},i<k->s.hp (D0 N i)≠none->(D0 N i,D0 N i)∈Agj N s.hp k
 |0,_,h,_=>by omega
 |k+1,i,h,hn=>by
  unfold Agj;by_cases e:i=k
  ·subst e
   have:(s.hp (D0 N i)).isSome=true:=by
    cases hq:s.hp (D0 N i) with
    |none=>exact absurd hq hn
    |some b=>rfl
   rw[this];simp
  ·have:=Abr (k:=k) (i:=i) (by omega) hn
   cases (s.hp (D0 N k)).isSome
   ·exact this
   ·exact List.mem_append.2 (.inl this)
theorem PB (h:Ch N w0 X0 Y β s a w){L:Nat}{q:Bool}{K:St->Option R}(hk:Alx N (Rf L N) q s K=some r):∃β' s',K s'=some r∧Ch N w0 X0 Y β' s' a w:=by
 unfold Alx at hk;obtain⟨hb,Em⟩:=A3 hk;simp only[Bool.and_eq_true] at hb
 obtain⟨β2,h2⟩:∃β2,Ch N w0 X0 Y β2 (bif q then s else (Rf L N).foldl (Adq N) ((Rf L N).foldl (RX N) s)) a w:=by
  cases q
  ·obtain⟨β1,h1⟩:=Vn (fun s β h i=>YR h i) (Rf L N) h
   obtain⟨β2,h2⟩:=Vn (fun s β h i=>Ad4 h i) (Rf L N) h1
   exact⟨β2,h2⟩
  ·exact⟨β,h⟩
 obtain⟨β3,h3⟩:=Ad2 h2 hb.1 hb.2 (ls:=Rf L N) (fun i hi=>ZH hi) (fun i hi=>JB (Yu (Abr (X0.p8 i hi) (h2.pin i hi).1) 8))
 exact⟨β3,_,Em,h3⟩
theorem Cl (h:Ch N w0 X0 Y β s a w){L:Nat}{K:St->Option R}(hk:Jz N L s K=some r):∃β' s',K s'=some r∧Ch N w0 X0 Y β' s' a w:=PB h hk
theorem OU (h:Ch N w0 X0 Y β s a w){L:Nat}{K:St->Option R}(hk:Agz N L s K=some r):∃β' s',K s'=some r∧Ch N w0 X0 Y β' s' a w:=PB h hk
end
open Go.RowKit
section
variable {R:Type} {r:R} {P:Program} {N:Nat} {w0:World} {X0:Gg} {Y:Nat->Prop} {C:Kf} {call:Ah}
theorem DI {n:Nat}{F:St->Option R}{s:St}(h:WH n F s=some r):F s=some r:=by
 unfold WH at h;split at h
 ·cases h
 ·exact h
theorem PC {β:Bt}{s:St}{a:Act}{w:World}(h:Ch N w0 X0 Y β s a w){c:Operand}{kt kf:St->Option R}(hk:Aul s c kt kf=some r):(a.eval c=.bool true∧kt s=some r)∨(a.eval c=.bool false∧kf s=some r):=by
 unfold Aul at hk;split at hk
 ·rename_i d;split at hk
  ·rename_i b ht;have hv:a.eval (.tmp d)=.bool b:=Dv h (x:=.tmp d) ht;cases b
   ·change kf ⟨Ds s.tm d (.sc (.bool false)),s.hp⟩=some r at hk;rw[IQ s.tm ht] at hk;exact .inr ⟨hv,hk⟩
   ·change kt ⟨Ds s.tm d (.sc (.bool true)),s.hp⟩=some r at hk;rw[IQ s.tm ht] at hk;exact .inl ⟨hv,hk⟩
  ·rename_i ht;have hu:=Ec h (.tmp d);change Et _ _ _ (s.tm d) _ at hu;rw[ht] at hu;have Nu:A8 w _ .ub (a.eval (.tmp d)):=hu
   obtain⟨b,hv⟩:∃b,a.eval (.tmp d)=.bool b:=by
    generalize a.eval (.tmp d)=x at Nu;cases Nu with
    |ub b=>exact⟨b,rfl⟩
   obtain⟨h1,h2⟩:=Aae hk;cases b
   ·exact .inr ⟨hv,h2⟩
   ·exact .inl ⟨hv,h1⟩
  ·cases hk
 ·exact .inl ⟨rfl,hk⟩
 ·exact .inr ⟨rfl,hk⟩
 ·cases hk
theorem UW {c:Code}{Q:Exit->Act->World->Prop}{F:(St->Option R)->St->Option R} {nm:St->(St->Option R)->Option R}
  (hnm:∀{β s a w} {K:St->Option R},Ch N w0 X0 Y β s a w->nm s K=some r->∃β' s',K s'=some r∧Ch N w0 X0 Y β' s' a w)
  (hF:∀{β s a w} {K:St->Option R}{Q':Act->World->Prop},Ch N w0 X0 Y β s a w->F K s=some r->(∀s' a' w' β',K s'=some r->Ch N w0 X0 Y β' s' a' w'->Q' a' w')->c.wp P (Exit.then Q' Q) a w):
  ∀(n:Nat) {β s a w},Ch N w0 X0 Y β s a w->XT F nm n s=some r->Code.rounds P c Q n a w
 |0,_,_,_,_,_,hk=>by cases hk
 |n+1,β,s,a,w,h,hk=>by
  rw[rounds_succ];refine hF h hk fun s' a' w' β' J4 h'=>?_
  obtain⟨β1,s1,Em,h1⟩:=hnm h' J4;exact UW hnm hF n h1 Em
theorem GL {G:Xl}(Kg:QA P G w0 X0)(Dj:∀f args res,call f args=some res->Dl G P f args res)(hm:P.follows .mixedOrders=true){fu:Nat}:
  ∀(c:Code) {ln:Nat} {lx:Nat->Nat} {lr:Nat} {kn:St->Option R} {kx:Nat->St->Option R} {kr:St->Option R} {β:Bt} {s:St} {a:Act} {w:World} {Q:Exit->Act->World->Prop},Ch N w0 X0 Y β s a w ->
   Oj C P fu N call c ln lx lr kn kx kr s=some r->(∀s' a' w' β',kn s'=some r->Ch N w0 X0 Y β' s' a' w'->Q .normal a' w') ->
   (∀id s' a' w' β',kx id s'=some r->Ch N w0 X0 Y β' s' a' w'->Q (.exit id) a' w')->(∀s' a' w' β',kr s'=some r->Ch N w0 X0 Y β' s' a' w'->Q .ret a' w')->c.wp P Q a w:=by
 intro c
 induction c with
 |skip=>intro ln lx lr kn kx kr β s a w Q h hk hn hx hr;exact wp_skip (hn s a w β hk h)
 |region id ops draw=>
  intro ln lx lr kn kx kr β s a w Q h hk hn hx hr;unfold Oj at hk;cases draw
  ·simp only[XZ,Bool.false_and,cond_false] at hk;exact Ab6 h Kg Dj hk hn
  ·simp only[XZ,Av1,Bool.true_and,cond_true] at hk;cases hb:SO C P ops<;>rw[hb] at hk
   ·obtain⟨J0,Em⟩:=A3 (show Aw _ _=some r from hk)
    exact Aho h Kg Dj hm J0 Em hn
   ·exact Adb h Kg Dj hm hb hk hn
 |seq c1 c2 ih1 ih2=>
  intro ln lx lr kn kx kr β s a w Q h hk hn hx hr;unfold Oj at hk
  refine wp_seq (ih1 h hk (fun s' a' w' β' J4 h'=>by
    cases hc:Alb P c1 c2
    ·rw[hc] at J4;exact ih2 h' J4 hn hx hr
    ·rw[hc] at J4;cases hq:JK c1 c2
     ·rw[hq] at J4;obtain⟨β1,s1,Em,h1⟩:=Cl h' (show Jz _ _ _ _=some r from J4)
      exact ih2 h1 (DI Em) hn hx hr
     ·rw[hq] at J4;obtain⟨β1,s1,Em,h1⟩:=OU h' (show Agz _ _ _ _=some r from J4)
      exact ih2 h1 (DI Em) hn hx hr) (fun id s' a' w' β' J4 h'=>hx id s' a' w' β' J4 h') (fun s' a' w' β' J4 h'=>hr s' a' w' β' J4 h'))
 |cond c c1 c2 ih1 ih2=>
  intro ln lx lr kn kx kr β s a w Q h hk hn hx hr;unfold Oj at hk;rcases PC h hk with⟨hc,Em⟩|⟨hc,Em⟩
  ·exact wp_cond_true hc (ih1 h Em hn hx hr)
  ·exact wp_cond_false hc (ih2 h Em hn hx hr)
 |block id c ih=>
  intro ln lx lr kn kx kr β s a w Q h hk hn hx hr;unfold Oj at hk;refine wp_block (ih h hk (fun s' a' w' β' J4 h'=>hn s' a' w' β' J4 h') (fun j s' a' w' β' J4 h'=>?_) (fun s' a' w' β' J4 h'=>hr s' a' w' β' J4 h'))
  show (if j=id then _ else _)
  by_cases e:j=id
  ·subst e;rw[if_pos rfl];rw[Nat.beq_refl] at J4;exact hn s' a' w' β' J4 h'
  ·rw[if_neg e]
   have:Nat.beq j id=false:=by
    cases hb:Nat.beq j id
    ·rfl
    ·exact absurd (Nat.eq_of_beq_eq_true hb) e
   rw[this] at J4;exact hx j s' a' w' β' J4 h'
 |loop c ih=>
  intro ln lx lr kn kx kr β s a w Q h hk hn hx hr;unfold Oj at hk;obtain⟨β1,s1,Em,h1⟩:=Cl h hk;refine wp_loop_rounds fu (UW (fun h hk=>Cl h hk) (fun h hk hQ=>?_) fu h1 Em)
  exact ih h hk hQ (fun id s' a' w' β' J4 h'=>hx id s' a' w' β' J4 h') (fun s' a' w' β' J4 h'=>hr s' a' w' β' J4 h')
 |«exit» id=>intro ln lx lr kn kx kr β s a w Q h hk hn hx hr;exact wp_exit (hx id s a w β hk h)
 |ret=>intro ln lx lr kn kx kr β s a w Q h hk hn hx hr;exact wp_ret (hr s a w β hk h)
 |_=>intro ln lx lr kn kx kr β s a w Q h hk hn hx hr;cases hk
end
open Go.RowKit
theorem R7:∀{l:List (Nat × Cb)} {i:Nat}{b:Cb},B7 l i=some b->(i,b)∈l
 |[],_,_,h=>by cases h
 |(j,c)::l,i,b,h=>by
  unfold B7 at h;cases hb:Nat.beq i j<;>rw[hb] at h
  ·exact List.mem_cons_of_mem _ (R7 h)
  ·have:=Nat.eq_of_beq_eq_true hb;cases h;rw[this];simp
theorem Ab7:∀{l:List (Nat × Cb)},(l.map (·.1)).Nodup->∀{i b},(i,b)∈l->B7 l i=some b
 |[],_,_,_,h=>by cases h
 |(j,c)::l,hn,i,b,h=>by
  simp only[List.map_cons,List.nodup_cons] at hn;unfold B7;rcases List.mem_cons.1 h with e|h
  ·cases e;simp only[Nat.beq_refl,cond_true]
  ·have:Nat.beq i j=false:=by
    cases hb:Nat.beq i j
    ·rfl
    ·exact absurd (Nat.eq_of_beq_eq_true hb ▸ List.mem_map.2 ⟨_,h,rfl⟩) hn.1
   simp only[this,cond_false];exact Ab7 hn.2 h
section
variable {R:Type} {r:R} {P:Program} {N:Nat} {w0:World} {X0:Gg} {Y:Nat->Prop} {β β':Bt} {s:St} {a:Act} {w w':World} {A:Nat->Prop}
theorem Aqe {id:Nat}{t:CT}{p:PV}{K:PV->List (Nat × Cb)->Option R} (hk:Avn id t p K=some r):
  (∃c,K c []=some r∧FJ c∧∀w A q u,Kp w A q p u->A8 w A c u)∨∃es n cc,p=.own es n cc∧K (.view id es 0 n) [(id,.ar false cc)]=some r:=by
 have tree:∀t',(NI t' p fun c=>K c [])=some r->∃c,K c []=some r∧FJ c∧∀w A q u,Kp w A q p u->A8 w A c u:=by
  intro t' hk;obtain⟨c,hk,hT,SK,hv⟩:=R8 hk;refine⟨c,hk,hT,fun w A q u h=>(hv w A (fun _=>none) u ?_).1⟩
  cases p<;>first|exact h|exact SK.elim
 unfold Avn at hk;cases t with
 |sl es=>
  dsimp only at hk;split at hk
  ·rename_i es' n c;cases hb:Nat.beq es' es<;>rw[hb] at hk
   ·cases hk
   ·have:=Nat.eq_of_beq_eq_true hb;subst this;exact .inr ⟨_,_,_,rfl,hk⟩
  ·exact .inl (tree (.sl es) hk)
 |int k=>exact .inl (tree _ hk)
 |bool=>exact .inl (tree _ hk)
 |str=>exact .inl (tree _ hk)
 |any=>exact .inl (tree _ hk)
theorem Wy:∀{ts:List CT}{id:Nat}{ps:List PV}{K:List PV->List (Nat × Cb)->Option R},OC N id ts ps K=some r ->
  ∃cs bs,∃qs:List (Nat × Nat),K cs bs=some r∧cs.length=ps.length∧ps.length=ts.length∧bs.map (·.1)=qs.map (·.1)∧(∀q∈qs,∀q'∈qs,q.2=q'.2->q.1=q'.1) ∧
   (∀i bx,(i,bx)∈bs->∃c,bx=.ar false c)∧(∀c∈cs,XN c)∧(∀c∈cs,∀i∈A7 c,∃bx,(i,bx)∈bs) ∧
   ∀(w:World) (A:Nat->Prop) (own β':Bt) (j0:Nat) (us:List Value),(∀q∈qs,β' q.1=own (j0+q.2))->H4 w A own j0 ps us->B8 (Cu w A β') cs us∧∀i bx,(i,bx)∈bs->Wx w A β' i bx
 |[],id,ps,K,hk=>by
  obtain⟨rfl,hk⟩:=Ex hk;refine⟨[],[],[],hk,rfl,rfl,rfl,by simp,by simp,by simp,by simp,fun w A own β' j0 us _ h=>⟨?_,by simp⟩⟩
  cases us with
  |nil=>trivial
  |cons u us=>exact h.elim
 |t::ts,id,ps,K,hk=>by
  unfold OC at hk;obtain⟨p,ps',QC,Em⟩:=Bw hk;subst QC;rcases Aqe Em with⟨c,Ha,hT,hv⟩|⟨es,n,cc,rfl,Ha⟩
  ·obtain⟨cs,bs,qs,Wb,hl,QN,hb,RT,I6,hF,Pw,V4⟩:=Wy Ha;refine⟨c::cs,bs,qs.map (fun q=>(q.1,q.2+1)),Wb,by simp[hl],by simp[QN],by rw[hb];simp,?_,I6,?_,?_,fun w A own β' j0 us hβ ho=>?_⟩
   ·intro q hq q' Iv e;obtain⟨q0,HH,rfl⟩:=List.mem_map.1 hq;obtain⟨q1,Oa,rfl⟩:=List.mem_map.1 Iv;exact RT q0 HH q1 Oa (by simp only at e;omega)
   ·intro y hy;rcases List.mem_cons.1 hy with rfl|hy
    ·exact Y6 hT
    ·exact hF y hy
   ·intro y hy i hi;rcases List.mem_cons.1 hy with rfl|hy
    ·rw[Ll hT] at hi;cases hi
    ·exact Pw y hy i hi
   ·cases us with
    |nil=>exact ho.elim
    |cons u us=>
     obtain⟨h1,h2⟩:=V4 w A own β' (j0+1) us (fun q hq=>by rw[hβ _ (List.mem_map_of_mem hq)];congr 1;simp only;omega) ho.2
     exact⟨⟨Aq1 (hv w A _ u ho.1),h1⟩,h2⟩
  ·obtain⟨cs,bs,qs,Wb,hl,QN,hb,RT,I6,hF,Pw,V4⟩:=Wy Ha;refine⟨_::cs,(id,.ar false cc)::bs,(id,0)::qs.map (fun q=>(q.1,q.2+1)),Wb,by simp[hl],by simp[QN],by simp only[List.map_cons,hb];simp,?_,?_,?_,?_,fun w A own β' j0 us hβ ho=>?_⟩
   ·intro q hq q' Iv e;rcases List.mem_cons.1 hq with rfl|hq
    ·rcases List.mem_cons.1 Iv with rfl|Iv
     ·rfl
     ·obtain⟨q0,HH,rfl⟩:=List.mem_map.1 Iv;simp only at e;omega
    ·obtain⟨q0,HH,rfl⟩:=List.mem_map.1 hq;rcases List.mem_cons.1 Iv with rfl|Iv
     ·simp only at e;omega
     ·obtain⟨q1,Oa,rfl⟩:=List.mem_map.1 Iv;exact RT q0 HH q1 Oa (by simp only at e;omega)
   ·intro i bx hm;rcases List.mem_cons.1 hm with e|hm
    ·cases e;exact⟨cc,rfl⟩
    ·exact I6 i bx hm
   ·intro y hy;rcases List.mem_cons.1 hy with rfl|hy
    ·trivial
    ·exact hF y hy
   ·intro y hy i hi;rcases List.mem_cons.1 hy with rfl|hy
    ·simp only[A7,List.mem_singleton] at hi;subst hi;exact⟨_,List.mem_cons_self⟩
    ·obtain⟨bx,Ow⟩:=Pw y hy i hi;exact⟨bx,List.mem_cons_of_mem _ Ow⟩
   ·cases us with
    |nil=>exact ho.elim
    |cons u us=>
     obtain⟨h1,h2⟩:=V4 w A own β' (j0+1) us (fun q hq=>by rw[hβ _ (List.mem_cons_of_mem _ (List.mem_map_of_mem hq))];congr 1;simp only;omega) ho.2
     have h0:=hβ (id,0) List.mem_cons_self;simp only[Nat.add_zero] at h0;refine⟨⟨?_,h1⟩,fun i bx hm=>?_⟩
     ·rcases ho.1 with⟨h3,rfl,_,h5⟩|⟨b,ob,cap,h3,h4,h5,h6,h7,_⟩
      ·exact .inl ⟨h0.trans h3,rfl,rfl,h5⟩
      ·exact .inr ⟨b,ob,ob,cap,h0.trans h3,h4,.inl rfl,h5,h6,h7⟩
     ·rcases List.mem_cons.1 hm with e|hm
      ·cases e;exact JP ho.1 h0
      ·exact h2 i bx hm
theorem Aw1 {i:Nat}{t:TypeId}{p:PV}{K:PV->List (Nat × Cb)->Option R} (hk:inK P N i t p K=some r):
  ∃v bs,∃qs:List (Nat × Nat),K v bs=some r∧bs.map (·.1)=qs.map (·.1)∧(∀q∈qs,∀q'∈qs,q.2=q'.2->q.1=q'.1)∧(JM p=true->(D0 N i,0)∈qs∧i<8) ∧
   (∀id bx,(id,bx)∈bs->C5 (some bx)∧∀c,bx=.st c->id=D0 N i∧JM p=true)∧(∀id∈Cm v,∃bx,(id,bx)∈bs)∧MQ bs ∧
   ∀(w:World) (A:Nat->Prop) (bt β':Bt) (u:Value),(∀q∈qs,β' q.1=bt q.2)->Ag6 w A bt p u->Et w A β' v u∧(∀id bx,(id,bx)∈bs->Wx w A β' id bx) ∧
    ∀id bx b o,(id,bx)∈bs->β' id=some (b,o)->∀j,BR bx o j->A5j bt p b j:=by
 have owns:∀{bs:List (Nat × Cb)} {qs:List (Nat × Nat)},bs.map (·.1)=qs.map (·.1)->(∀i bx,(i,bx)∈bs->∃c,bx=.ar false c)->∀{bt β':Bt},(∀q∈qs,β' q.1=bt (1+q.2))->∀id bx b o,(id,bx)∈bs->β' id=some (b,o)->∀j,BR bx o j->∃k o',bt (k+1)=some (b,o')∧o'<=j:=by
  intro bs qs hb I6 bt β' hβ id bx b o hm hbo j hj;have:id∈qs.map (·.1):=by rw[←hb];exact List.mem_map.2 ⟨_,hm,rfl⟩
  obtain⟨q,hq,rfl⟩:=List.mem_map.1 this;obtain⟨c,rfl⟩:=I6 _ _ hm;rw[hβ q hq,Nat.add_comm] at hbo;exact⟨q.2,o,hbo,hj⟩
 have nost:∀{bs:List (Nat × Cb)},(∀i bx,(i,bx)∈bs->∃c,bx=.ar false c)->MQ bs:=by
  intro bs I6 id cells hm;obtain⟨c,e⟩:=I6 id _ hm;cases e
 unfold inK at hk;split at hk
 ·rename_i e he;obtain⟨ps,rfl,Em⟩:=Aa3 hk;obtain⟨hi8,Ha⟩:=A3 Em;have hi8:i<8:=Nat.lt_of_succ_le (Nat.le_of_ble_eq_true hi8);obtain⟨cs,bs,qs,Wb,hl,QN,hb,RT,I6,hF,Pw,hv⟩:=Wy Ha;refine⟨_,_,(D0 N i,0)::qs.map (fun q=>(q.1,q.2+1)),Wb,by simp only[List.map_cons,hb];simp,?_,fun _=>⟨List.mem_cons_self,hi8⟩,?_,?_,?_,fun w A bt β' u hβ hp=>?_⟩
  ·intro q hq q' Iv e;rcases List.mem_cons.1 hq with rfl|hq
   ·rcases List.mem_cons.1 Iv with rfl|Iv
    ·rfl
    ·obtain⟨q0,HH,rfl⟩:=List.mem_map.1 Iv;simp only at e;omega
   ·obtain⟨q0,HH,rfl⟩:=List.mem_map.1 hq;rcases List.mem_cons.1 Iv with rfl|Iv
    ·simp only at e;omega
    ·obtain⟨q1,Oa,rfl⟩:=List.mem_map.1 Iv;exact RT q0 HH q1 Oa (by simp only at e;omega)
  ·intro id bx hm;rcases List.mem_cons.1 hm with e|hm
   ·cases e;exact⟨trivial,fun _ _=>⟨rfl,rfl⟩⟩
   ·obtain⟨c,rfl⟩:=I6 id bx hm;exact⟨trivial,fun _ e=>by cases e⟩
  ·intro id B6;simp only[Cm,Cw,A7,List.mem_singleton] at B6;subst B6;exact⟨_,List.mem_cons_self⟩
  ·intro id cells hm c hc k hk;rcases List.mem_cons.1 hm with e|hm
   ·cases e;obtain⟨bx,Ow⟩:=Pw c hc k hk;exact⟨bx,List.mem_cons_of_mem _ Ow⟩
   ·obtain⟨c,e⟩:=I6 id _ hm;cases e
  ·obtain⟨b,o,h1,rfl,_,vs,h3,h4,h5⟩:=hp;have h0:=hβ (D0 N i,0) List.mem_cons_self;simp only at h0;have hβ1:∀q∈qs,β' q.1=bt (1+q.2):=fun q hq=>by rw[hβ _ (List.mem_cons_of_mem _ (List.mem_map_of_mem hq)),Nat.add_comm]
   obtain⟨h6,h7⟩:=hv w A bt β' 1 vs hβ1 h3;refine⟨⟨b,o,h0.trans h1,by simp⟩,fun id bx hm=>?_,fun id bx b' o' hm J0 j hj=>?_⟩
   ·rcases List.mem_cons.1 hm with e|hm
    ·cases e;refine⟨b,o,h0.trans h1,fun k c hk=>?_,fun k hk=>h5 k (by omega)⟩
     obtain⟨v,hv,hcr⟩:=h6.get hk;exact⟨v,h4 k v hv,hcr⟩
    ·exact h7 id bx hm
   ·rcases List.mem_cons.1 hm with e|hm
    ·cases e;rw[h0] at J0;have hj:o'<=j∧j<o'+cs.length:=hj;exact .inr ⟨o',ps,J0,hj.1,.inl ⟨rfl,by omega⟩⟩
    ·exact .inl (owns hb I6 hβ1 id bx b' o' hm J0 j hj)
 ·split at hk
  ·rename_i ps;obtain⟨e,he,Em⟩:=D7 hk;obtain⟨hi8,Ha⟩:=A3 Em;have hi8:i<8:=Nat.lt_of_succ_le (Nat.le_of_ble_eq_true hi8);obtain⟨q,qr,hq,Wb⟩:=Bw Ha;subst hq;obtain⟨RF,V5⟩:=Ex Wb;subst RF;unfold F5 at V5;split at V5
   ·rename_i es' n c;cases hb:Nat.beq es' (Bz P e)<;>rw[hb] at V5
    ·cases V5
    ·have ON:=Nat.eq_of_beq_eq_true hb;subst ON;refine⟨_,_,[(D0 N i,0)],V5,rfl,by simp,fun _=>⟨by simp,hi8⟩,?_,?_,?_,fun w A bt β' u hβ hp=>?_⟩
     ·intro id bx hm;simp only[List.mem_singleton] at hm;cases hm;exact⟨trivial,fun _ e=>by cases e⟩
     ·intro id B6;simp only[Cm,Cw,A7,List.mem_singleton] at B6;subst B6;exact⟨_,List.mem_cons_self⟩
     ·intro id cells hm;simp only[List.mem_singleton] at hm;cases hm
     ·obtain⟨es,n',c',h1,h2⟩:=hp;cases h1;have h0:=hβ (D0 N i,0) List.mem_cons_self;simp only at h0;refine⟨?_,fun id bx hm=>?_,fun id bx b' o' hm J0 j hj=>?_⟩
      ·rcases h2 with⟨h3,rfl,_,h5⟩|⟨b,ob,cap,h3,h4,h5,h6,h7,_⟩
       ·exact .inl ⟨h0.trans h3,rfl,rfl,h5⟩
       ·exact .inr ⟨b,ob,ob,cap,h0.trans h3,h4,.inl rfl,h5,h6,h7⟩
      ·simp only[List.mem_singleton] at hm;cases hm;exact JP h2 h0
      ·simp only[List.mem_singleton] at hm;cases hm;rw[h0] at J0;exact .inr ⟨o',_,J0,hj,.inr rfl⟩
   ·cases V5
  ·rename_i hnt;cases Jc:C6 P t<;>rw[Jc] at hk
   ·simp only[cond_false] at hk;obtain⟨cs,bs,qs,Wb,hl,QN,hb,RT,I6,hF,Pw,hv⟩:=Wy hk;obtain⟨c,cs',hcs,V5⟩:=Bw Wb;subst hcs;obtain⟨RF,hk5⟩:=Ex V5;subst RF;have hFc:=hF c (by simp)
    have hnL:JM p=false∨∃ps,p=.pbox ps:=by
     cases p<;>first|exact .inl rfl|exact .inr ⟨_,rfl⟩|exact absurd rfl (hnt _)
    have hpb:∀ps,p ≠ .pbox ps:=by
     rintro ps rfl
     cases hts:L8 P t with
     |nil=>rw[hts] at QN;simp at QN
     |cons t' ts=>
      rw[hts] at hk;unfold OC Avn at hk;obtain⟨q,qs1,hq,Em⟩:=Bw hk;cases hq;cases t'<;>simp[NI,Fa,Ae,B3,Fk,fnK] at Em
    have hpa:∀ps,p ≠ .agg ps:=by
     rintro ps rfl
     cases hts:L8 P t with
     |nil=>rw[hts] at QN;simp at QN
     |cons t' ts=>
      rw[hts] at hk;unfold OC Avn at hk;obtain⟨q,qs1,hq,Em⟩:=Bw hk;cases hq;cases t'<;>simp[NI,Fa,Ae,B3,Fk,fnK] at Em
    have hnL:JM p=false:=hnL.elim id (fun ⟨ps,e⟩=>absurd e (hpb ps))
    have FZ:Cm c=A7 c:=by cases c<;>first|rfl|exact hFc.elim
    refine⟨c,bs,qs.map (fun q=>(q.1,q.2+1)),hk5,by rw[hb];simp,?_,(fun h=>by rw[hnL] at h;cases h),?_,fun id B6=>Pw c (by simp) id (by rw[←FZ];exact B6),nost I6,fun w A bt β' u hβ hp=>?_⟩
    ·intro q hq q' Iv e;obtain⟨q0,HH,rfl⟩:=List.mem_map.1 hq;obtain⟨q1,Oa,rfl⟩:=List.mem_map.1 Iv;exact RT q0 HH q1 Oa (by simp only at e;omega)
    ·intro id bx hm;obtain⟨c,rfl⟩:=I6 id bx hm;exact⟨trivial,fun _ e=>by cases e⟩
    ·have Di:Kp w A (bt 1) p u:=by cases p<;>first|exact hp.2|exact absurd rfl (hpa _)|exact absurd rfl (hpb _)|exact absurd rfl (hnt _)
     have hβ1:∀q∈qs,β' q.1=bt (1+q.2):=fun q hq=>by rw[hβ _ (List.mem_map_of_mem hq),Nat.add_comm]
     obtain⟨h6,h7⟩:=hv w A bt β' 1 [u] hβ1 ⟨Di,trivial⟩;refine⟨?_,h7,fun id bx b' o' hm J0 j hj=>.inl (owns hb I6 hβ1 id bx b' o' hm J0 j hj)⟩
     have h8:=h6.1;cases c<;>first|exact h8|exact hFc.elim
   ·simp only[cond_true] at hk;obtain⟨ps,hp0,Em⟩:=Kz hk;subst hp0;obtain⟨cs,bs,qs,Wb,hl,QN,hb,RT,I6,hF,Pw,hv⟩:=Wy Em;refine⟨_,bs,qs.map (fun q=>(q.1,q.2+1)),Wb,by rw[hb];simp,?_,(fun h=>by cases h),?_,fun id B6=>?_,nost I6,fun w A bt β' u hβ hp=>?_⟩
    ·intro q hq q' Iv e;obtain⟨q0,HH,rfl⟩:=List.mem_map.1 hq;obtain⟨q1,Oa,rfl⟩:=List.mem_map.1 Iv;exact RT q0 HH q1 Oa (by simp only at e;omega)
    ·intro id bx hm;obtain⟨c,rfl⟩:=I6 id bx hm;exact⟨trivial,fun _ e=>by cases e⟩
    ·obtain⟨c,hc,hi⟩:=List.mem_flatMap.1 (show id∈cs.flatMap A7 from B6)
     exact Pw c hc id hi
    ·obtain⟨vs,h1,_,h3⟩:=hp;have hβ1:∀q∈qs,β' q.1=bt (1+q.2):=fun q hq=>by rw[hβ _ (List.mem_map_of_mem hq),Nat.add_comm]
     obtain⟨h6,h7⟩:=hv w A bt β' 1 vs hβ1 h3;exact⟨⟨vs,h1,h6⟩,h7,fun id bx b' o' hm J0 j hj=>.inl (owns hb I6 hβ1 id bx b' o' hm J0 j hj)⟩
theorem Ag5:∀{ts:List TypeId}{i:Nat}{ps:List PV}{K:List (Nat × PV)->List (Nat × Cb)->Option R},Ais P N i ts ps K=some r ->
  ∃tms bs,∃qs:List (Nat × Nat × Nat),K tms bs=some r∧bs.map (·.1)=qs.map (·.1)∧(∀q∈qs,i<=q.2.1)∧(∀q∈qs,∀q'∈qs,q.2=q'.2->q.1=q'.1) ∧
   (∀k p,ps[k]?=some p->JM p=true->(D0 N (i+k),i+k,0)∈qs∧i+k<8)∧(∀id bx,(id,bx)∈bs->C5 (some bx)∧∀c,bx=.st c->∃k p,ps[k]?=some p∧JM p=true∧id=D0 N (i+k)) ∧
   (∀j,∀id∈Cm (lk tms j),∃bx,(id,bx)∈bs)∧MQ bs ∧
   ∀(w:World) (A:Nat->Prop) (bt:OZ) (β':Bt) (us:List Value),(∀q∈qs,β' q.1=bt q.2.1 q.2.2)->Qm w A bt i ps us ->
    (∀j,(∃u,i<=j∧us[j-i]?=some u∧Et w A β' (lk tms j) u)∨(lk tms j=.top∧(i<=j->us[j-i]?=none)))∧(∀id bx,(id,bx)∈bs->Wx w A β' id bx) ∧
    ∀id bx b o,(id,bx)∈bs->β' id=some (b,o)->∀j,BR bx o j->∃k p,ps[k]?=some p∧A5j (bt (i+k)) p b j
 |[],i,ps,K,hk=>by
  obtain⟨QC,hk⟩:=Ex hk;subst QC;refine⟨[],[],[],hk,rfl,by simp,by simp,by simp,by simp,(fun j id B6=>by cases B6),(by intro i cells hm;cases hm),fun w A bt β' us _ h=>?_⟩
  cases us with
  |nil=>exact⟨fun j=>.inr ⟨rfl,fun _=>by simp⟩,by simp,by simp⟩
  |cons u us=>exact h.elim
 |t::ts,i,ps,K,hk=>by
  unfold Ais at hk;obtain⟨p,ps',QC,Em⟩:=Bw hk;subst QC;obtain⟨v,bs,qs,Ha,hb,hqi,CK,Ow,hr,hri,hv⟩:=Aw1 Em;obtain⟨tms,bs',qs',Wb,J0,A3a,Bb3,A7n,Bal,hr',A9z,U5⟩:=Ag5 Ha;refine⟨(i,v)::tms,bs++bs',qs.map (fun q=>(q.1,i,q.2))++qs',Wb,by simp only[List.map_append,hb,J0];simp,?_,?_,?_,?_,?_,?_,fun w A bt β' us hβ hp=>?_⟩
  ·intro q hq;rcases List.mem_append.1 hq with hq|hq
   ·obtain⟨q0,HH,rfl⟩:=List.mem_map.1 hq;exact Nat.le_refl _
   ·have:=A3a q hq;omega
  ·intro q hq q' Iv e;rcases List.mem_append.1 hq with hq|hq
   ·obtain⟨q0,HH,rfl⟩:=List.mem_map.1 hq;rcases List.mem_append.1 Iv with Iv|Iv
    ·obtain⟨q1,Oa,rfl⟩:=List.mem_map.1 Iv;simp only[Prod.mk.injEq,true_and] at e;exact hqi q0 HH q1 Oa e
    ·have:=A3a q' Iv;rw[←e] at this;simp only at this;omega
   ·have h5:=A3a q hq;rcases List.mem_append.1 Iv with Iv|Iv
    ·obtain⟨q1,Oa,rfl⟩:=List.mem_map.1 Iv;rw[e] at h5;simp only at h5;omega
    ·exact Bb3 q hq q' Iv e
  ·intro k p' J4 hL;cases k with
   |zero=>
    simp only[List.getElem?_cons_zero,Option.some.injEq] at J4;subst J4;obtain⟨h1,h2⟩:=CK hL;exact⟨List.mem_append.2 (.inl (List.mem_map.2 ⟨_,h1,rfl⟩)),h2⟩
   |succ k=>
    obtain⟨h1,h2⟩:=A7n k p' (by simpa using J4) hL
    rw[show i+1+k=i+(k+1) by omega] at h1 h2
    exact⟨List.mem_append.2 (.inr h1),h2⟩
  ·intro id bx hm;rcases List.mem_append.1 hm with hm|hm
   ·obtain⟨h1,h2⟩:=Ow id bx hm;exact⟨h1,fun c hc=>⟨0,p,rfl,(h2 c hc).2,(h2 c hc).1⟩⟩
   ·obtain⟨h1,h2⟩:=Bal id bx hm;refine⟨h1,fun c hc=>?_⟩
    obtain⟨k,p',h3,h4,h5⟩:=h2 c hc;exact⟨k+1,p',by simpa using h3,h4,by rw[h5,show i+1+k=i+(k+1) by omega]⟩
  ·intro j id B6;unfold lk at B6;cases hbq:Nat.beq j i<;>rw[hbq] at B6
   ·obtain⟨bx,h1⟩:=hr' j id B6;exact⟨bx,List.mem_append.2 (.inr h1)⟩
   ·obtain⟨bx,h1⟩:=hr id B6;exact⟨bx,List.mem_append.2 (.inl h1)⟩
  ·intro id cells hm c hc k hk;rcases List.mem_append.1 hm with hm|hm
   ·obtain⟨bx,h1⟩:=hri id cells hm c hc k hk;exact⟨bx,List.mem_append.2 (.inl h1)⟩
   ·obtain⟨bx,h1⟩:=A9z id cells hm c hc k hk;exact⟨bx,List.mem_append.2 (.inr h1)⟩
  ·cases us with
   |nil=>exact hp.elim
   |cons u us=>
    obtain⟨h1,h2,h3⟩:=hv w A (bt i) β' u (fun q hq=>hβ _ (List.mem_append.2 (.inl (List.mem_map_of_mem hq)))) hp.1
    obtain⟨ZM,h2',h3'⟩:=U5 w A bt β' us (fun q hq=>hβ q (List.mem_append.2 (.inr hq))) hp.2
    refine⟨fun j=>?_,fun id bx hm=>?_,fun id bx b o hm hbo j hj=>?_⟩
    ·unfold lk;cases hbq:Nat.beq j i
     ·have Fu:=Sj hbq;simp only[cond_false];rcases ZM j with⟨u',h4,h5,h6⟩|⟨h4,h5⟩
      ·refine .inl ⟨u',by omega,?_,h6⟩
       rw[show j-i=(j-(i+1))+1 by omega]
       simpa using h5
      ·refine .inr ⟨h4,fun hij=>?_⟩
       rw[show j-i=(j-(i+1))+1 by omega]
       simpa using h5 (by omega)
     ·have:=Nat.eq_of_beq_eq_true hbq;subst this;exact .inl ⟨u,Nat.le_refl _,by simp,h1⟩
    ·rcases List.mem_append.1 hm with hm|hm
     ·exact h2 id bx hm
     ·exact h2' id bx hm
    ·rcases List.mem_append.1 hm with hm|hm
     ·exact⟨0,p,rfl,h3 id bx b o hm hbo j hj⟩
     ·obtain⟨k,p',h4,h5⟩:=h3' id bx b o hm hbo j hj;exact⟨k+1,p',by simpa using h4,by rw[show i+(k+1)=i+1+k by omega];exact h5⟩
def IC (bt:OZ)(args:List PV)(h8:∀k p,args[k]?=some p->JM p=true->k<8):Gg:=
 ⟨BtX bt,Aab bt args,fun i=>∃p,args[i]?=some p∧JM p=true,fun i=>bt i 0,fun i ⟨p,h1,h2⟩=>h8 i p h1 h2⟩
theorem NA {ts:List TypeId}{args:List PV}{us:List Value}{bt:OZ}{K:List (Nat × PV)->List (Nat × Cb)->Option R} (DY:Ins w Y bt args us)(hk:Ais P N 0 ts args K=some r):
  ∃tms bs,K tms bs=some r∧(Cx (fun _=>none) bs=true->us.length<=N->∃(h8:∀k p,args[k]?=some p->JM p=true->k<8),∃β0,
   Ch N w (IC bt args h8) Y β0 ⟨lk tms,B7 bs⟩ { tmps:=us.toArray++Array.replicate (N-us.toArray.size) undef,defers:=[] } w):=by
 obtain⟨tms,bs,qs,Em,hb,HH,hqi,CK,Ow,hr,hri,hv⟩:=Ag5 hk;refine⟨tms,bs,Em,fun V8 hN=>?_⟩
 have Ait:=Y0 V8
 have h8:∀k p,args[k]?=some p->JM p=true->k<8:=fun k p h1 h2=>by
  have:=(CK k p h1 h2).2;omega
 have XE:(qs.map (·.1)).Nodup:=by rw[←hb];exact Ait
 obtain⟨β0,hβ0⟩:∃β0:Bt,∀q∈qs,β0 q.1=bt q.2.1 q.2.2:=by
  have:∀(l:List (Nat × Nat × Nat)),(l.map (·.1)).Nodup->∃β0:Bt,∀q∈l,β0 q.1=bt q.2.1 q.2.2:=by
   intro l
   induction l with
   |nil=>intro _;exact⟨fun _=>none,by simp⟩
   |cons q l ih=>
    intro hn;simp only[List.map_cons,List.nodup_cons] at hn;obtain⟨b1,h1⟩:=ih hn.2;refine⟨Ds b1 q.1 (bt q.2.1 q.2.2),fun q' Iv=>?_⟩
    rcases List.mem_cons.1 Iv with rfl|Iv
    ·exact A5 _ _ _
    ·have Fu:q'.1≠q.1:=fun e=>hn.1 (by rw[←e];exact List.mem_map.2 ⟨q',Iv,rfl⟩)
     rw[Ax _ _ Fu];exact h1 q' Iv
  exact this qs XE
 refine⟨h8,β0,?_⟩;obtain⟨hs,hbr,hL⟩:=hv w _ bt β0 us hβ0 DY.args
 have hqm:∀id bx,(id,bx)∈bs->∃ik,(id,ik)∈qs∧β0 id=bt ik.1 ik.2:=by
  intro id bx hm;have:id∈qs.map (·.1):=by rw[←hb];exact List.mem_map.2 ⟨_,hm,rfl⟩
  obtain⟨q,hq,rfl⟩:=List.mem_map.1 this;exact⟨q.2,hq,hβ0 q hq⟩
 have hX:∀b,HZ (B7 bs) β0 b->BtX bt b:=by
  rintro b ⟨id,o,hl,hβ⟩
  cases hq:B7 bs id with
  |none=>rw[hq] at hl;exact hl.elim
  |some bx=>
   obtain⟨ik,_,h2⟩:=hqm id bx (R7 hq);rw[h2] at hβ;exact⟨_,_,_,hβ⟩
 have hA:∀b,Du (B7 bs) β0 Y b->BtX bt b∨Y b:=fun b hb=>hb.imp (hX b) id
 have Axk:∀{p:PV} {u:Value},Et w (fun b=>BtX bt b∨Y b) β0 p u->Et w (Du (B7 bs) β0 Y) β0 p u:=fun h=>h.step (C2.refl _ _) (fun b _=>hA b) (fun _ _=>rfl)
 refine⟨rfl,by simp;omega,fun i hi=>?_,fun i hi=>?_,?_,?_,?_,fun i hi id B6=>?_,?_,fun b hb=>.inl (hX b hb),?_,?_,?_,fun b hY hXb=>DY.Yx b hY (hX b hXb),DY.Ylt,⟨rfl,rfl,rfl,C2.refl _ _,fun _ _ _ _=>⟨rfl,rfl⟩⟩⟩
 ·rcases hs i with⟨u,_,h,_⟩|⟨h,_⟩
  ·rw[Nat.sub_zero,List.getElem?_eq_none (by omega)] at h;cases h
  ·exact h
 ·rcases hs i with⟨u,_,h,hv⟩|⟨h,h'⟩
  ·rw[Nat.sub_zero] at h
   have Cq:i<us.length:=by
    rcases Nat.lt_or_ge i us.length with h'|h'
    ·exact h'
    ·rw[List.getElem?_eq_none h'] at h;cases h
   have:(us.toArray++Array.replicate (N-us.toArray.size) undef).getD i undef=u:=by
    rw[Array.getD_eq_getD_getElem?,Array.getElem?_append_left (by simpa using Cq)]
    simp[h]
   show Et w _ _ _ ((us.toArray++Array.replicate (N-us.toArray.size) undef).getD i undef);rw[this];exact Axk hv
  ·show Et w _ _ (lk tms i) _;rw[h];exact A8.top _
 ·intro id bx hq;exact (hbr id bx (R7 hq)).step' hA
 ·intro id id' b o o' hl Pn hβ hβ';cases hq:B7 bs id with
  |none=>change C5 (B7 bs id) at hl;rw[hq] at hl;exact hl.elim
  |some bx=>
   cases Iv:B7 bs id' with
   |none=>change C5 (B7 bs id') at Pn;rw[Iv] at Pn;exact Pn.elim
   |some bx'=>
    obtain⟨ik,h1,h2⟩:=hqm id bx (R7 hq);obtain⟨ik',ZM,h2'⟩:=hqm id' bx' (R7 Iv);rw[h2] at hβ;rw[h2'] at hβ';obtain⟨h3,h4⟩:=DY.inj _ _ _ _ b o o' hβ hβ';exact hqi _ h1 _ ZM (Prod.ext h3 h4)
 ·intro id b o hn hβ;cases hq:B7 bs id with
  |none=>exact absurd hq hn
  |some bx=>
   obtain⟨ik,h1,h2⟩:=hqm id bx (R7 hq);rw[h2] at hβ;exact DY.lt b ⟨_,_,_,hβ⟩
 ·obtain⟨bx,hm⟩:=hr i id B6;show B7 bs id≠none;rw[Ab7 Ait hm];simp
 ·intro id cells hq c hc k hk;obtain⟨bx,hm⟩:=hri id cells (R7 hq) c hc k hk;show B7 bs k≠none;rw[Ab7 Ait hm];simp
 ·intro id bx b o hq hl hβ _ j hj;obtain⟨k,p,h1,h2⟩:=hL id bx b o (R7 hq) hβ j hj;rw[Nat.zero_add] at h2;exact⟨k,p,h1,h2⟩
 ·rintro i ⟨p,h1,h2⟩
  have h3:=(CK i p h1 h2).1;rw[Nat.zero_add] at h3;refine⟨?_,hβ0 _ h3⟩;have:D0 N i∈bs.map (·.1):=by rw[hb];exact List.mem_map.2 ⟨_,h3,rfl⟩
  obtain⟨⟨id,bx⟩,hm,e⟩:=List.mem_map.1 this;show B7 bs (D0 N i)≠none;rw[←e,Ab7 Ait hm];simp
 ·intro id c b o hq _ _;obtain⟨k,p,h1,h2,h3⟩:=(Ow id _ (R7 hq)).2 c rfl;rw[Nat.zero_add] at h3;exact⟨k,h3,p,h1,h2⟩
end
open Go.RowKit
def Q7 (β:Bt)(l:List (Option Nat)) (j:Nat):Option (Nat × Nat):=((l[j]?).bind id).bind β
section
variable {R:Type} {r:R} {P:Program} {N:Nat} {w0:World} {X0:Gg} {Y:Nat->Prop} {β β':Bt} {s:St} {a:Act} {w w':World} {A:Nat->Prop}
def Ar2 (s:St)(l:List (Option Nat)):Prop:=∀id,some id∈l->C5 (s.hp id)
def R4 (s:St)(z:List Nat):Prop:=∀id∈z,∃f c,s.hp id=some (.ar f c)
theorem ZX (h : Ch N w0 X0 Y β s a w) {shr : Bool} {t : CT} {p : PV} {K : PV -> List Nat -> List Nat -> Option R} (hk : Amo shr s.hp t p K = some r) :
    ∃ c q z, K c (Option.toList q) z = some r ∧ (∀ x, c ≠ .agg x ∧ c ≠ .pbox x) ∧ XN p ∧ (∀ id, q = some id -> ∃ c, s.hp id = some (.ar false c)) ∧ R4 s z ∧
      ∀ (fz : List Nat) A u, (∀ i ∈ z, i ∈ fz) -> R4 s fz -> (∀ b, A b -> Du (Ak s.hp fz) β Y b) -> Cu w (Du s.hp β Y) β p u -> Kp w A (q.bind β) c u := by
  have notree : ∀ {c : PV}, FJ c -> ∀ x, c ≠ .agg x ∧ c ≠ .pbox x := fun hT x => ⟨JU hT x, by rintro rfl; exact hT⟩
  unfold Amo at hk
  cases shr <;> simp only[cond_true, cond_false] at hk
  · have tree : ∀ t', (∀ es, t' ≠ .sl es) -> (NI t' p fun c => K c [] []) = some r -> ∃ c q z, K c (Option.toList q) z = some r ∧ (∀ x, c ≠ .agg x ∧ c ≠ .pbox x) ∧ XN p ∧ (∀ id, q = some id -> ∃ c, s.hp id = some (.ar false c)) ∧ R4 s z ∧
        ∀ (fz : List Nat) A u, (∀ i ∈ z, i ∈ fz) -> R4 s fz -> (∀ b, A b -> Du (Ak s.hp fz) β Y b) -> Cu w (Du s.hp β Y) β p u -> Kp w A (q.bind β) c u := by
      intro t' Fu hk
      obtain⟨c, Em, hT, SK, hv⟩ := R8 hk
      refine⟨c, none, [], Em, notree hT, Y6 SK, by simp, (by intro i hi; cases hi), fun fz A u _ _ hA hc => Px hT ?_⟩
      exact (hv w _ β u hc).1.step (C2.refl _ _) (fun b _ hb => Sx (hA b hb))
    unfold A0z at hk
    cases t with
    | sl es =>
      dsimp only at hk
      split at hk
      · rename_i id es' off n
        cases hb : (Nat.beq es' es && Nat.beq off 0) <;> rw[hb] at hk
        · cases hk
        · simp only[Bool.and_eq_true] at hb
          have he := Nat.eq_of_beq_eq_true hb.1
          have ho := Nat.eq_of_beq_eq_true hb.2
          subst he ho
          simp only[cond_true] at hk
          split at hk
          · rename_i c h0
            obtain⟨hl, Em⟩ := A3 hk
            refine⟨_, some id, [], Em, by simp, trivial, fun i hi => by cases hi; exact⟨c, h0⟩, (by intro i hi; cases hi), fun fz A u _ _ hA hc => ?_⟩
            rcases hc with⟨h1, _, rfl, h4⟩ | ⟨b, o, x, cap, h1, h2, hx, h3, h4, h5⟩
            · exact .inl ⟨h1, rfl, by simp, h4⟩
            · have hx : x = o := by rcases hx with e | ⟨_, e⟩ <;> omega
              subst hx
              rcases h.box id _ h0 with⟨h6, _⟩ | ⟨b', o', h6, h7, h8, _⟩
              · rw[h1] at h6; cases h6
              · rw[h1] at h6
                cases h6
                refine .inr ⟨b, x, cap, h1, h2, h3, h4, h5, fun j q hq => ?_, fun j hj AE => h8 rfl j hj AE⟩
                rw[List.getElem?_take] at hq
                split at hq
                · obtain⟨v, hv, h9, ht⟩ := h7 j q hq
                  exact⟨v, hv, h9, ht.step (C2.refl _ _) (fun b _ hb => Sx (hA b hb))⟩
                · cases hq
          · cases hk
      · obtain⟨z, n, c, Em, hp⟩ := Ik hk
        obtain⟨hz, Ha⟩ := A3 Em
        subst hz
        have hpF : XN p := by rcases hp with e | ⟨e, _⟩ <;> (rw[e]; trivial)
        refine⟨_, none, [], Ha, by simp, hpF, by simp, (by intro i hi; cases hi), fun fz A u _ _ _ hc => ?_⟩
        have hu : u = .slice none 0 0 := by
          rcases hp with rfl | ⟨rfl, _⟩
          · cases hc; rfl
          · exact A8.val hc
        exact .inl ⟨rfl, rfl, rfl, none, hu⟩
    | int k => exact tree _ (by simp) hk
    | bool => exact tree _ (by simp) hk
    | str => exact tree _ (by simp) hk
    | any => exact tree _ (by simp) hk
  · obtain⟨c, m, Em, hT, hF, hm, hv⟩ := WR h hk
    exact⟨c, none, m, Em, notree hT, hF, by simp, hm, fun fz A u h1 h2 hA hc => Px hT ((hv fz h1 h2 u hc).1.step (C2.refl _ _) (fun b _ hb => hA b hb))⟩
structure RK (s:St) (β:Bt) (Y:Nat->Prop) (w:World) (cs:List PV) (l:List (Option Nat)) (z:List Nat) (ps:List PV):Prop where
 len:l.length=cs.length
 pl:cs.length=ps.length
 na:∀c∈cs,∀x,c ≠ .agg x∧c ≠ .pbox x
 fr:∀p∈ps,XN p
 own:∀id,some id∈l->∃c,s.hp id=some (.ar false c)
 row:R4 s z
 sem:∀(fz:List Nat) A us,(∀i∈z,i∈fz)->R4 s fz->(∀b,A b->Du (Ak s.hp fz) β Y b)->B8 (Cu w (Du s.hp β Y) β) ps us->∀own j0,(∀j,j<l.length->own (j0+j)=Q7 β l j)->H4 w A own j0 cs us
theorem RK.nil:RK s β Y w [] [] [] []:=⟨rfl,rfl,by simp,by simp,by simp,(by intro i hi;cases hi),fun fz A us _ _ _ hu own j0 _=>by
 cases us with
 |nil=>trivial
 |cons u us=>exact hu.elim⟩
theorem RK.cons {c p:PV}{q:Option Nat}{z zs:List Nat}{cs ps:List PV}{l:List (Option Nat)} (MP:∀x,c ≠ .agg x∧c ≠ .pbox x)(hF:XN p)(hq:∀id,q=some id->∃c,s.hp id=some (.ar false c)) (hz:R4 s z)
  (hv:∀(fz:List Nat) A u,(∀i∈z,i∈fz)->R4 s fz->(∀b,A b->Du (Ak s.hp fz) β Y b)->Cu w (Du s.hp β Y) β p u->Kp w A (q.bind β) c u) (H:RK s β Y w cs l zs ps):RK s β Y w (c::cs) (q::l) (z++zs) (p::ps):=by
 refine⟨by simp[H.len],by simp[H.pl],?_,?_,?_,?_,fun fz A us hz1 hz2 hA hu own j0 Ho=>?_⟩
 ·intro x hx;rcases List.mem_cons.1 hx with rfl|hx
  ·exact MP
  ·exact H.na x hx
 ·intro x hx;rcases List.mem_cons.1 hx with rfl|hx
  ·exact hF
  ·exact H.fr x hx
 ·intro id B6;rcases List.mem_cons.1 B6 with e|B6
  ·exact hq id e.symm
  ·exact H.own id B6
 ·intro i hi;rcases List.mem_append.1 hi with hi|hi
  ·exact hz i hi
  ·exact H.row i hi
 ·cases us with
  |nil=>exact hu.elim
  |cons u us=>
   have h0:=Ho 0 (by simp)
   rw[Nat.add_zero] at h0;refine⟨?_,H.sem fz A us (fun i hi=>hz1 i (by simp[hi])) hz2 hA hu.2 own (j0+1) fun j hj=>?_⟩
   ·rw[h0];exact hv fz A u (fun i hi=>hz1 i (by simp[hi])) hz2 hA hu.1
   ·have:=Ho (j+1) (by simp;omega)
    rw[show j0+1+j=j0+(j+1) by omega,this]
    simp[Q7]
theorem Y1 (h:Ch N w0 X0 Y β s a w){shr:Bool}:∀{ts:List CT}{ps:List PV}{K:List PV->List Nat->List Nat->Option R},MM shr s.hp ts ps K=some r ->
  ∃cs l z,K cs (l.filterMap id) z=some r∧RK s β Y w cs l z ps
 |[],[],K,hk=>⟨[],[],[],hk,RK.nil⟩
 |[],_::_,K,hk=>by cases hk
 |_::_,[],K,hk=>by cases hk
 |t::ts,p::ps,K,hk=>by
  unfold MM at hk;obtain⟨c,q,z,Em,MP,hF,hq,hz,hv⟩:=ZX h hk;obtain⟨cs,l,zs,Ha,H⟩:=Y1 h Em;refine⟨c::cs,q::l,z++zs,?_,RK.cons MP hF hq hz hv H⟩;cases q<;>exact Ha
theorem OY (h:Ch N w0 X0 Y β s a w):∀{ts:List CT}{ws ps:List PV}{K:List PV->List Nat->List Nat->Option R},SD s.hp ts ws ps K=some r ->
  ∃cs l z,K cs (l.filterMap id) z=some r∧cs.length=ws.length∧RK s β Y w cs l z ps
 |[],[],[],K,hk=>⟨[],[],[],hk,rfl,RK.nil⟩
 |[],_::_,_,K,hk=>by cases hk
 |[],[],_::_,K,hk=>by cases hk
 |_::_,[],_,K,hk=>by cases hk
 |_::_,_::_,[],K,hk=>by cases hk
 |t::ts,x::ws,p::ps,K,hk=>by
  unfold SD at hk;obtain⟨c,q,z,Em,MP,hF,hq,hz,hv⟩:=ZX h hk;obtain⟨cs,l,zs,Ha,hl,H⟩:=OY h Em;refine⟨c::cs,q::l,z++zs,?_,by simp[hl],RK.cons MP hF hq hz hv H⟩
  cases q<;>exact Ha
theorem Aiv {own:Bt}{zz j:Nat}{p:PV}{u:Value}(hp:∀x,p ≠ .agg x∧p ≠ .pbox x)(h:H4 w A own j [p] [u]):Axe w A own zz j p u:=by
 cases p<;>first|exact h.1|exact absurd rfl (hp _).1|exact absurd rfl (hp _).2
theorem Aky (h:Ch N w0 X0 Y β s a w){id b o:Nat}{c cs:List PV}{l:List (Option Nat)} {z:List Nat}(h0:s.hp id=some (.st c)) (hβ:β id=some (b,o)) (H:RK s β Y w cs l z c){fz:List Nat}{A:Nat->Prop}(h1:∀i∈z,i∈fz)(h2:R4 s fz)(hA:∀b,A b->Du (Ak s.hp fz) β Y b)
  {own:Bt} {j0:Nat} (Ho:∀j,j<l.length->own (j0+j)=Q7 β l j):Azn w A own j0 b o cs:=by
 obtain⟨b',o',I6,Pw,hb3⟩:=h.box id _ h0;rw[hβ] at I6;cases I6;refine⟨c.mapIdx (fun j _=>(w.cell? ⟨b,o+j,none⟩).getD undef),H.sem fz A _ h1 h2 hA ?_ own j0 Ho,?_,fun k hk=>hb3 k (by have:=H.pl;omega)⟩
 ·refine B8.of_at (by simp) fun j p v hp hv=>?_
  obtain⟨u,hu,hcr⟩:=Pw j p hp;rw[List.getElem?_mapIdx,hp,Option.map_some,hu] at hv;simp at hv;subst hv;exact hcr
 ·intro k v hkv;rw[List.getElem?_mapIdx] at hkv;cases hp:c[k]? with
  |none=>rw[hp] at hkv;cases hkv
  |some p=>
   obtain⟨u,hu,hcr⟩:=Pw k p hp;rw[hp,Option.map_some,hu] at hkv;simp at hkv;subst hkv;exact hu
theorem Ao0 (h:Ch N w0 X0 Y β s a w){shr:Bool}{t:TypeId}{p:PV}{u:Value}(hp:Et w (Du s.hp β Y) β p u) {K:PV->List Nat->List Nat->Option R}(hk:Avs P shr s.hp t p K=some r):
  ∃v l z,K v (l.filterMap id) z=some r∧l.length=plc v∧Ar2 s l∧R4 s z ∧
   ∀(fz:List Nat) A zz,(∀i∈z,i∈fz)->R4 s fz->(∀b,A b->Du (Ak s.hp fz) β Y b)->(∀id c b o,some id∈l->s.hp id=some (.st c)->β id=some (b,o)->zz<=b) ->
    ∀own j0,(∀j,j<l.length->own (j0+j)=Q7 β l j)->Axe w A own zz j0 v u:=by
 unfold Avs at hk;split at hk
 ·rename_i e he;split at hk
  ·rename_i id off;split at hk
   ·rename_i c h0;obtain⟨hof,Em⟩:=A3 hk;have hof:=Nat.eq_of_beq_eq_true hof;subst hof;obtain⟨cs,l,z,Ha,H⟩:=Y1 h Em;obtain⟨b,o,hβ,hu⟩:=hp;refine⟨.pbox cs,some id::l,z,Ha,by simp only[plc,List.length_cons,H.len];omega,?_,H.row,fun fz A zz h1 h2 hA hz own j0 Ho=>?_⟩
    ·intro i hi;rcases List.mem_cons.1 hi with e|hi
     ·cases e;rw[h0];trivial
     ·obtain⟨c',X4⟩:=H.own i hi;rw[X4];trivial
    ·have h3:=Ho 0 (by simp)
     rw[Nat.add_zero] at h3;refine⟨b,o,by rw[h3];exact hβ,hz id c b o (by simp) h0 hβ,by rw[hu,Nat.add_zero],Aky h h0 hβ H h1 h2 hA fun j hj=>?_⟩
     have:=Ho (j+1) (by simp;omega)
     rw[show j0+1+j=j0+(j+1) by omega,this]
     simp[Q7]
   ·cases hk
  ·cases hk
 ·cases Jc:C6 P t<;>rw[Jc] at hk<;>simp only[cond_true,cond_false] at hk
  ·obtain⟨cs,l,z,Em,H⟩:=Y1 h hk;obtain⟨c,cs',hcs,Ha⟩:=Bw Em;subst hcs;obtain⟨RF,Wb⟩:=Ex Ha;subst RF;have MP:=H.na c (by simp)
   have hc1:plc c=1:=by cases c<;>first|rfl|exact absurd rfl (MP _).1|exact absurd rfl (MP _).2
   have hF:=H.fr p (by simp)
   refine⟨c,l,z,Wb,by rw[hc1];exact H.len,fun i hi=>?_,H.row,fun fz A zz h1 h2 hA _ own j0 Ho=>Aiv MP (H.sem fz A [u] h1 h2 hA ⟨?_,trivial⟩ own j0 Ho)⟩
   ·obtain⟨c',X4⟩:=H.own i hi;rw[X4];trivial
   ·cases p<;>first|exact hp|exact hF.elim
  ·obtain⟨ps,QC,Em⟩:=Kz hk;subst QC;obtain⟨cs,l,z,Ha,H⟩:=Y1 h Em;obtain⟨vs,hu,V4⟩:=hp;refine⟨.agg cs,l,z,Ha,H.len,fun i hi=>?_,H.row,fun fz A zz h1 h2 hA _ own j0 Ho=>⟨vs,hu,H.sem fz A vs h1 h2 hA V4 own j0 Ho⟩⟩
   obtain⟨c',X4⟩:=H.own i hi;rw[X4];trivial
def Ada (P:Program)(tmps:Array Value)(w:World)(rv:ResultVar)(u:Value):Prop:=
  (match rv with
   |.tmp t=>(pure (tmps.getD t undef):Sem Value)
   |.cell a t=>do loadVar t (←asAddr (tmps.getD a undef))).run P w=.ok u w
theorem Asx (h:Ch N w0 X0 Y β s a w)(t:Nat):Et w (Du s.hp β Y) β (s.tm t) (a.tmps.getD t undef):=by
 rcases Nat.lt_or_ge t N with h'|h'
 ·exact h.tms t h'
 ·rw[h.tmo t h'];exact A8.top _
theorem Anv (h:Ch N w0 X0 Y β s a w){rv:ResultVar}{K:PV->Option R}(hk:Au3 P s rv K=some r):∃p u,K p=some r∧Ada P a.tmps w rv u∧Et w (Du s.hp β Y) β p u:=by
 unfold Au3 at hk;split at hk
 ·rename_i t;exact⟨_,_,hk,rfl,Asx h t⟩
 ·rename_i x t;obtain⟨v,ad,val,Em,El,hl,hv,_⟩:=Ae6 h (Asx h x) hk;refine⟨v,val,Em,?_,hv⟩;unfold Ada;simp[El,asAddr,hl]
theorem HB {l l':List (Option Nat)} {j:Nat}(h:j<l.length):Q7 β (l++l') j=Q7 β l j:=by
 unfold Q7;rw[List.getElem?_append_left h]
theorem IA {l l':List (Option Nat)} {j:Nat}:Q7 β (l++l') (l.length+j)=Q7 β l' j:=by
 unfold Q7;rw[List.getElem?_append_right (by omega),Nat.add_sub_cancel_left]
theorem UD (h:Ch N w0 X0 Y β s a w){shr:Bool}:∀{rs:List ResultVar}{ts:List TypeId}{K:List PV->List Nat->List Nat->Option R},Ab5 P shr s rs ts K=some r ->
  ∃vs l z us,K vs (l.filterMap id) z=some r∧B8 (Ada P a.tmps w) rs us∧l.length=S9 vs∧Ar2 s l∧R4 s z ∧
   ∀(fz:List Nat) A zz,(∀i∈z,i∈fz)->R4 s fz->(∀b,A b->Du (Ak s.hp fz) β Y b)->(∀id c b o,some id∈l->s.hp id=some (.st c)->β id=some (b,o)->zz<=b) ->
    ∀own j0,(∀j,j<l.length->own (j0+j)=Q7 β l j)->Amd w A own zz j0 vs us
 |[],[],K,hk=>⟨[],[],[],[],hk,trivial,rfl,(by intro id B6;cases B6),(by intro id B6;cases B6),fun _ _ _ _ _ _ _ _ _ _=>trivial⟩
 |[],_::_,K,hk=>by cases hk
 |_::_,[],K,hk=>by cases hk
 |rv::rs,t::ts,K,hk=>by
  unfold Ab5 at hk;obtain⟨p,u,Em,hu,hp⟩:=Anv h hk;obtain⟨v,l,z,Ha,hl,hL,hz,hv⟩:=Ao0 h hp Em;obtain⟨vs,l',z',us,Wb,hus,Pn,hL',hz',V4⟩:=UD h Ha;refine⟨v::vs,l++l',z++z',u::us,?_,⟨hu,hus⟩,by simp only[List.length_append,S9,List.map_cons,List.sum_cons,hl];rw[Pn];rfl,?_,?_,fun fz A zz h1 h2 hA G0 own j0 Ho=>⟨?_,?_⟩⟩
  ·rw[List.filterMap_append];exact Wb
  ·intro id B6;rcases List.mem_append.1 B6 with B6|B6
   ·exact hL id B6
   ·exact hL' id B6
  ·intro id B6;rcases List.mem_append.1 B6 with B6|B6
   ·exact hz id B6
   ·exact hz' id B6
  ·exact hv fz A zz (fun i hi=>h1 i (by simp[hi])) h2 hA (fun id c b o hi=>G0 id c b o (by simp[hi])) own j0 fun j hj=>by rw[Ho j (by simp;omega),HB hj]
  ·refine V4 fz A zz (fun i hi=>h1 i (by simp[hi])) h2 hA (fun id c b o hi=>G0 id c b o (by simp[hi])) own (j0+plc v) fun j hj=>?_
   rw[←hl,Nat.add_assoc,Ho (l.length+j) (by simp;omega),IA]
theorem Yv (h:Ch N w0 X0 Y β s a w){bt:OZ}(hpt:∀i,X0.pt i=bt i 0):∀{ts:List TypeId}{i:Nat}{ps:List PV}{K:List (List PV)->List Nat->List Nat->List Nat->Option R},NT P N s.hp i ts ps K=some r ->
  (∀k p,ps[k]?=some p->JM p=true->X0.pn (i+k)) ->
  ∃os l z q,K os (l.filterMap id) z q=some r∧(∀id,some id∈l->∃c,s.hp id=some (.ar false c))∧R4 s z∧(∀id∈q,C5 (s.hp id))∧(∀k p,ps[k]?=some p->JM p=true->D0 N (i+k)∈q) ∧
   ∀(fz:List Nat) A,(∀i∈z,i∈fz)->R4 s fz->(∀i∈q,i ∉ fz)->(∀b,A b->Du (Ak s.hp fz) β Y b) ->
    ∀own j0,(∀j,j<l.length->own (j0+j)=Q7 β l j)->FS w A own bt j0 i ps os
 |[],i,ps,K,hk,_=>by
  obtain⟨QC,hk⟩:=Ex hk;subst QC;exact⟨[],[],[],[],hk,by simp,(by intro id B6;cases B6),by simp,by simp,fun _ _ _ _ _ _ _ _ _=>rfl⟩
 |t::ts,i,ps,K,hk,hpn=>by
  unfold NT at hk;obtain⟨p,ps',QC,Em⟩:=Bw hk;subst QC
  have A12:∀k p,ps'[k]?=some p->JM p=true->X0.pn (i+1+k):=fun k p' h1 h2=>by
   have:=hpn (k+1) p' (by simpa using h1) h2
   rw[show i+1+k=i+(k+1) by omega]
   exact this
  have hpq:∀{q:List Nat},(JM p=true->D0 N i∈q)->(∀k p,ps'[k]?=some p->JM p=true->D0 N (i+1+k)∈q)->∀k p',(p::ps')[k]?=some p'->JM p'=true->D0 N (i+k)∈q:=by
   intro q h1 h2 k p' h3 h4;cases k with
   |zero=>
    simp only[List.getElem?_cons_zero,Option.some.injEq] at h3;subst h3;exact h1 h4
   |succ k=>
    have:=h2 k p' (by simpa using h3) h4
    rw[show i+1+k=i+(k+1) by omega] at this
    exact this
  split at Em
  ·rename_i ws;obtain⟨e,he,Ha⟩:=D7 Em;split at Ha
   ·rename_i c h0;obtain⟨cs,l,z,Wb,AK,H⟩:=OY h Ha;obtain⟨os,l',z',q,V5,hL',hz',Iv,hpi,hv⟩:=Yv h hpt Wb A12;refine⟨cs::os,l++l',z++z',D0 N i::q,by rw[List.filterMap_append];exact V5,?_,?_,?_,hpq (fun _=>List.mem_cons_self) (fun k p h1 h2=>List.mem_cons_of_mem _ (hpi k p h1 h2)),fun fz A h1 h2 h3 hA own j0 Ho=>?_⟩
    ·intro id B6;rcases List.mem_append.1 B6 with B6|B6
     ·exact H.own id B6
     ·exact hL' id B6
    ·intro id B6;rcases List.mem_append.1 B6 with B6|B6
     ·exact H.row id B6
     ·exact hz' id B6
    ·intro id B6;rcases List.mem_cons.1 B6 with rfl|B6
     ·rw[h0];trivial
     ·exact Iv id B6
    ·have CK:=(h.pin i (by have:=hpn 0 _ rfl rfl;rwa [Nat.add_zero] at this)).2
     obtain⟨b,o,I6,_,_⟩:=h.box _ _ h0;rw[I6,hpt] at CK;refine⟨⟨b,o,CK.symm,AK,Aky h h0 I6 H (fun i hi=>h1 i (by simp[hi])) h2 hA fun j hj=>by rw[Ho j (by simp;omega),HB hj]⟩,?_⟩
     refine hv fz A (fun i hi=>h1 i (by simp[hi])) h2 (fun i hi=>h3 i (by simp[hi])) hA own (j0+cs.length) fun j hj=>?_
     rw[←H.len,Nat.add_assoc,Ho (l.length+j) (by simp;omega),IA]
   ·cases Ha
  ·split at Em
   ·rename_i c h0;obtain⟨os,l',z',q,V5,hL',hz',Iv,hpi,hv⟩:=Yv h hpt Em A12;refine⟨c::os,l',z',D0 N i::q,V5,hL',hz',?_,hpq (fun _=>List.mem_cons_self) (fun k p h1 h2=>List.mem_cons_of_mem _ (hpi k p h1 h2)),fun fz A h1 h2 h3 hA own j0 Ho=>⟨?_,hv fz A h1 h2 (fun i hi=>h3 i (by simp[hi])) hA own j0 Ho⟩⟩
    ·intro id B6;rcases List.mem_cons.1 B6 with rfl|B6
     ·rw[h0];trivial
     ·exact Iv id B6
    ·have CK:=(h.pin i (by have:=hpn 0 _ rfl rfl;rwa [Nat.add_zero] at this)).2
     rw[hpt] at CK;rcases h.box _ _ h0 with⟨h4,h5⟩|⟨b,o,h4,h5,h6,_⟩
     ·exact .inl ⟨by rw[←CK];exact h4,h5⟩
     ·exact .inr ⟨b,o,by rw[←CK];exact h4,h5.weak (fun b _ hb=>Sx (hA b hb)),h6 rfl⟩
   ·cases Em
  ·rename_i hn1 hn2;have hnL:JM p=false:=by cases p<;>first|rfl|exact absurd rfl (hn1 _)|exact absurd rfl (hn2 _)
   obtain⟨os,l',z',q,V5,hL',hz',Iv,hpi,hv⟩:=Yv h hpt Em A12;refine⟨os,l',z',q,V5,hL',hz',Iv,hpq (fun e=>by rw[hnL] at e;cases e) hpi,fun fz A h1 h2 h3 hA own j0 Ho=>?_⟩
   have:=hv fz A h1 h2 h3 hA own j0 Ho;cases p<;>first|exact this|cases hnL
theorem Ahg {f:ResultVar->Sem Value}:∀{rs:List ResultVar}{us:List Value},B8 (fun rv u=>(f rv).run P w=.ok u w) rs us->(rs.mapM f).run P w=.ok us w
 |[],[],_=>by simp
 |[],_::_,h=>h.elim
 |_::_,[],h=>h.elim
 |rv::rs,u::us,h=>by
  rw[List.mapM_cons];simp[h.1,Ahg h.2]
theorem Afh {fn:Func}{us:List Value}(h:B8 (Ada P a.tmps w) fn.results.toList us):(results fn a.tmps).run P w=.ok (M2 us) w:=by
 unfold results;rw[Array.mapM_eq_mapM_toList];simp only[map_eq_pure_bind,bind_assoc,pure_bind,Sem.run_bind];refine Eq.trans (congrArg (fun x=>Result.andThen x _) (Ahg h)) ?_
 simp only[Result.andThen_ok,Sem.run_pure]
 congr 1
 clear h
 match us with
 |[]=>rfl
 |[u]=>rfl
 |u::v::us=>exact dif_neg (by simp)
theorem Af1:∀{l:List (Option Nat)},F7 (l.filterMap id)=true->∀{j j' i:Nat},l[j]?=some (some i)->l[j']?=some (some i)->j=j'
 |[],_,j,j',i,h,_=>by simp at h
 |q::l,hn,j,j',i,h,h'=>by
  have hn':F7 (l.filterMap id)=true:=by
   cases q with
   |none=>exact hn
   |some x=>
    simp only[List.filterMap_cons,id_eq,F7,Bool.and_eq_true] at hn;exact hn.2
  have hq:∀(x k:Nat),q=some x->l[k]?≠some (some x):=by
   intro x k e hk;subst e;simp only[List.filterMap_cons,id_eq,F7,Bool.and_eq_true,Bool.not_eq_true'] at hn;exact X9 hn.1 (List.mem_filterMap.2 ⟨some x,List.mem_of_getElem? hk,rfl⟩)
  cases j with
  |zero=>
   cases j' with
   |zero=>rfl
   |succ k'=>
    simp at h h';exact absurd h' (hq i k' h)
  |succ k=>
   cases j' with
   |zero=>
    simp at h h';exact absurd h (hq i k h')
   |succ k'=>
    simp at h h';rw[Af1 hn' h h']
theorem DM {C:Kf}{f:FuncId}{fn:Func}{args:List PV}{res:A4}{w:World}{Y:Nat->Prop}{bt:OZ}{us:List Value}(DY:Ins w Y bt args us){h8:∀k p,args[k]?=some p->JM p=true->k<8}
  {s':St} {a':Act} {w':World} {β':Bt} (hr:Aeq C P f fn args s'=some res) (h:Ch fn.ntmps w (IC bt args h8) Y β' s' a' w'):
  a'.defers=[]∧∃v,(results fn a'.tmps).run P w'=.ok v w'∧∃vs own,Ending.returned v=.returned (M2 vs)∧Out w w' Y bt args own res vs:=by
 unfold Aeq at hr;obtain⟨vs,l,z,us',hr1,hus,hll,hL,hz,hv⟩:=UD h hr;obtain⟨os,l',z',q,hr2,hL',hz',hq,hpi,U5⟩:=Yv h (bt:=bt) (fun _=>rfl) hr1 (fun k p h1 h2=>by rw[Nat.zero_add];exact⟨p,h1,h2⟩)
 obtain⟨XJ,hr3⟩:=A3 hr2;cases hr3;simp only[Bool.and_eq_true] at XJ;obtain⟨XJ,A3o⟩:=XJ;obtain⟨hn1,hn2,hn3⟩:=Mu XJ
 have NL:∀i∈z++z',i ∉ (l.filterMap id++l'.filterMap id)++q:=by
  intro i hi Sm;have:=List.all_eq_true.1 A3o i hi;have h2:((l.filterMap id++l'.filterMap id)++q).any (Nat.beq i)=true:=List.any_eq_true.2 ⟨i,Sm,Nat.beq_refl i⟩;rw[h2] at this;cases this
 have Apm:R4 s' (z++z'):=by
  intro i hi;rcases List.mem_append.1 hi with hi|hi
  ·exact hz i hi
  ·exact hz' i hi
 refine⟨h.dfr,M2 us',Afh hus,us',Q7 β' (l++l'),rfl,?_⟩;have Baw:F7 ((l++l').filterMap id)=true:=by rw[List.filterMap_append];exact hn1
 have Ho:∀j b o,Q7 β' (l++l') j=some (b,o)->∃id,(l++l')[j]?=some (some id)∧β' id=some (b,o):=by
  intro j b o hj;unfold Q7 at hj;cases hlj:(l++l')[j]? with
  |none=>rw[hlj] at hj;cases hj
  |some q=>
   cases q with
   |none=>rw[hlj] at hj;cases hj
   |some id=>
    rw[hlj] at hj;exact⟨id,rfl,hj⟩
 have Ps:∀(j i:Nat),(l++l')[j]?=some (some i)->i∈l.filterMap id++l'.filterMap id:=by
  intro j i hj;rw[←List.filterMap_append];exact List.mem_filterMap.2 ⟨some i,List.mem_of_getElem? hj,rfl⟩
 have J2:∀(j i:Nat),(l++l')[j]?=some (some i)->C5 (s'.hp i):=by
  intro j i hj;rcases List.mem_append.1 (List.mem_of_getElem? hj) with Sm|Sm
  ·exact hL i Sm
  ·obtain⟨c,hc⟩:=hL' i Sm;rw[hc];trivial
 have A0b:∀i,i∈(l.filterMap id++l'.filterMap id)++q->Ak s'.hp (z++z') i=s'.hp i:=by
  intro i hi;rw[Cz,if_neg (fun Sm=>NL i Sm hi)]
 have A0k:∀i b o,bt i 0=some (b,o)->D0 fn.ntmps i∈q∧C5 (s'.hp (D0 fn.ntmps i))∧β' (D0 fn.ntmps i)=some (b,o):=by
  intro i b o XK;obtain⟨p,h1,h2⟩:=DY.l0 i _ XK;have h3:=hpi i p h1 h2;rw[Nat.zero_add] at h3;exact⟨h3,hq _ h3,(h.pin i ⟨p,h1,h2⟩).2.trans XK⟩
 have hAO:∀b,TG bt (Q7 β' (l++l')) Y b->Du (Ak s'.hp (z++z')) β' Y b:=by
  rintro b (⟨j,o,hj⟩|⟨i,o,XK⟩|hY)
  ·obtain⟨id,h1,h2⟩:=Ho j b o hj;refine .inl ⟨id,o,?_,h2⟩;rw[A0b id (List.mem_append.2 (.inl (Ps j id h1)))];exact J2 j id h1
  ·obtain⟨h1,h2,h3⟩:=A0k i b o XK;refine .inl ⟨_,o,?_,h3⟩;rw[A0b _ (List.mem_append.2 (.inr h1))];exact h2
  ·exact .inr hY
 have HT:∀(j id b o:Nat),(l++l')[j]?=some (some id)->β' id=some (b,o)->b<w.heap.size->∃i k o',bt i (k+1)=some (b,o'):=by
  intro j id b o hj hβ Cq;rcases h.ownd b ⟨id,o,J2 j id hj,hβ⟩ with⟨i,k,o',XK⟩|hge
  ·cases k with
   |zero=>
    obtain⟨h1,h2,h3⟩:=A0k i b o' XK;have:=h.inj id _ b o o' (J2 j id hj) h2 hβ h3;subst this;exact absurd h1 (hn3 _ (Ps j _ hj))
   |succ k=>exact⟨i,k,o',XK⟩
  ·omega
 refine⟨h.fr.os,h.fr.tape,h.fr.output,h.fr.step,h.fr.rng,?_,?_,?_,?_⟩
 ·refine hv (z++z') _ _ (fun i hi=>List.mem_append.2 (.inl hi)) Apm hAO (fun id c b o hi hc hβ=>?_) _ 0 (fun j hj=>by rw[Nat.zero_add,HB hj])
  rcases Nat.lt_or_ge b w.heap.size with Cq|hge
  ·obtain⟨k,J4,p,h1,h2⟩:=h.stp id c b o hc hβ Cq;have h3:=hpi k p h1 h2;rw[Nat.zero_add,←J4] at h3;obtain⟨j,hj⟩:=List.mem_iff_getElem?.1 hi;refine absurd h3 (hn3 id ?_);exact List.mem_append.2 (.inl (List.mem_filterMap.2 ⟨some id,hi,rfl⟩))
  ·exact hge
 ·refine U5 (z++z') _ (fun i hi=>List.mem_append.2 (.inr hi)) Apm (fun i hi Sm=>NL i Sm (List.mem_append.2 (.inr hi))) hAO _ _ (fun j hj=>?_)
  rw[←hll,IA]
 ·intro j b o hj;obtain⟨id,h1,h2⟩:=Ho j b o hj;refine⟨h.blt id b o (Dy (J2 j id h1)) h2,fun Cq=>⟨HT j id b o h1 h2 Cq,fun x hx=>?_⟩⟩
  cases Ow:s'.hp id with
  |none=>have:=J2 j id h1;rw[Ow] at this;exact this.elim
  |some bx=>
   have LW:=J2 j id h1;rw[Ow] at LW;cases bx with
   |st c=>
    obtain⟨k,J4,p,h3,h4⟩:=h.stp id c b o Ow h2 Cq;have h5:=hpi k p h3 h4;rw[Nat.zero_add,←J4] at h5;exact absurd h5 (hn3 _ (Ps j _ h1))
   |ar fz c=>exact h.rngB id _ b o Ow LW h2 Cq x hx
   |mv=>exact LW.elim
 ·intro j j' b o o' hj AE;obtain⟨id,h1,h2⟩:=Ho j b o hj;obtain⟨id',ZM,h2'⟩:=Ho j' b o' AE;have:=h.inj id id' b o o' (J2 j id h1) (J2 j' id' ZM) h2 h2';subst this;exact Af1 Baw h1 ZM
theorem VZ {G:Xl}(Kg:NoNG P)(hm:P.follows .mixedOrders=true){C:Kf}{fu:Nat}{call:Ah}(Dj:∀f args res,call f args=some res->Dl G P f args res){f:FuncId}{fn:Func}{c:Code}(hf:P.funcs[f]?=some fn) (hb:fn.body=some c)
  {args:List PV} {res:A4} (hk:Aw0 C P fu call f fn c args=some res):Dl G P f args res:=by
 refine⟨⟨fn,hf,by rw[hb];rfl⟩,fun w Y bt us DY hG hGY=>?_⟩
 unfold Aw0 at hk;obtain⟨tms,bs,Em,G0⟩:=NA DY hk;obtain⟨I6,Ha⟩:=A3 Em;simp only[Bool.and_eq_true] at I6
 have Hw:us.length<=fn.ntmps:=by
  rw[←DY.args.len];exact Nat.le_of_ble_eq_true I6.1
 obtain⟨h8,β0,hs⟩:=G0 I6.2 Hw;refine calls_of_wp hf hb ?_;have hE:QA P G w (IC bt args h8):=⟨Kg,fun w' YC=>G.stable w w' (fun b hb Cq=>YC.step.keep b Cq (hGY b hb).2) hG,hGY⟩
 refine GL hE Dj hm c hs Ha (fun s' a' w' β' hr h=>DM DY hr h) (fun id s' a' w' β' hr h=>by cases hr) (fun s' a' w' β' hr h=>DM DY hr h)
def Als (G:Xl)(P:Program)(C:Kf):Prop:=∀f g args res,C.ext f=some g->g args=some res->Dl G P f args res
theorem DD {G:Xl}(Kg:NoNG P)(hm:P.follows .mixedOrders=true){C:Kf}(hx:Als G P C){fu:Nat}:∀(d:Nat)(f:FuncId)(args:List PV)(res:A4),Ad C P fu d f args=some res->Dl G P f args res
 |0,_,_,_,h=>by cases h
 |d+1,f,args,res,h=>by
  unfold Ad at h;split at h
  ·rename_i g hg;exact hx f g args res hg h
  ·split at h
   ·cases h
   ·rename_i fn hf;split at h
    ·cases h
    ·rename_i c hb;exact VZ Kg hm (DD Kg hm hx d) hf hb h
end
open Go.ChangeShapes Go.WideShapes Go.ChangeAt Go.RowKit Go.Deep
def Ad8 (P:Program):List Field->Nat->Nat->Bool
 |[],i,n=>Nat.beq i n
 |f::r,i,n=>Nat.beq f.offset i&&Ad8 P r (i+P.cellsOf f.type) n
def Sl (P:Program):Nat->TypeId->Bool
 |0,_=>false
 |d+1,t=>
  match P.underlying t with
  |some .bool=>true
  |some (.int _)=>true
  |some .string=>true
  |some (.slice e)=>Sl P d e&&Nat.blt 0 (P.cellsOf e)
  |some (.struct fs)=>Ad8 P fs.toList 0 (P.cellsOf t)&&fs.toList.all fun f=>Sl P d f.type
  |some (.array n e)=>Nat.beq (P.cellsOf t) (n*P.cellsOf e)&&Sl P d e
  |_=>false
def WT (P:Program):Nat->TypeId->List PV->Prop
 |0,_,_=>False
 |d+1,t,ps=>
  match P.underlying t with
  |some .bool=>∃b,ps=[.sc (.bool b)]
  |some (.int k)=>∃n,ps=[.sc (.int k n)]∧(Lit.int k n).wf=true
  |some .string=>∃s:ByteArray,ps=[.sc (.string s)]∧s.size<=maxLen
  |some (.slice e)=>∃rows:List (List PV),ps=[.lst false (P.cellsOf e) rows.length rows.flatten]∧rows.length<=maxLen∧∀r∈rows,r.length=P.cellsOf e∧WT P d e r
  |some (.struct fs)=>∃rows:List (List PV),ps=rows.flatten∧B8 (fun f r=>WT P d f.type r) fs.toList rows
  |some (.array n e)=>∃rows:List (List PV),ps=rows.flatten∧rows.length=n∧∀r∈rows,r.length=P.cellsOf e∧WT P d e r
  |_=>False
def WTv (P:Program)(t:TypeId)(p:PV):Prop:=
 match C6 P t with
 |true=>∃ps,p=.agg ps∧WT P 12 t ps
 |false=>WT P 12 t [p]
section
variable {P:Program} {d:Nat} {t e:TypeId} {ps:List PV}
theorem Ayl (hu:P.underlying t=some .bool):WT P (d+1) t ps↔∃b,ps=[.sc (.bool b)]:=by
 show (match P.underlying t with|some .bool=>_|some (.int k)=>_|some .string=>_|some (.slice e)=>_|some (.struct fs)=>_|some (.array n e)=>_|_=>_)↔_
 rw[hu]
theorem Aq4 {k:IntKind}(hu:P.underlying t=some (.int k)):WT P (d+1) t ps↔∃n,ps=[.sc (.int k n)]∧(Lit.int k n).wf=true:=by
 show (match P.underlying t with|some .bool=>_|some (.int k)=>_|some .string=>_|some (.slice e)=>_|some (.struct fs)=>_|some (.array n e)=>_|_=>_)↔_
 rw[hu]
theorem Aag (hu:P.underlying t=some .string):WT P (d+1) t ps↔∃s:ByteArray,ps=[.sc (.string s)]∧s.size<=maxLen:=by
 show (match P.underlying t with|some .bool=>_|some (.int k)=>_|some .string=>_|some (.slice e)=>_|some (.struct fs)=>_|some (.array n e)=>_|_=>_)↔_
 rw[hu]
theorem Afa (hu:P.underlying t=some (.slice e)):WT P (d+1) t ps↔∃rows:List (List PV),ps=[.lst false (P.cellsOf e) rows.length rows.flatten]∧rows.length<=maxLen∧∀r∈rows,r.length=P.cellsOf e∧WT P d e r:=by
 show (match P.underlying t with|some .bool=>_|some (.int k)=>_|some .string=>_|some (.slice e)=>_|some (.struct fs)=>_|some (.array n e)=>_|_=>_)↔_
 rw[hu]
theorem ZL {fs:Array Field}(hu:P.underlying t=some (.struct fs)):WT P (d+1) t ps↔∃rows:List (List PV),ps=rows.flatten∧B8 (fun f r=>WT P d f.type r) fs.toList rows:=by
 show (match P.underlying t with|some .bool=>_|some (.int k)=>_|some .string=>_|some (.slice e)=>_|some (.struct fs)=>_|some (.array n e)=>_|_=>_)↔_
 rw[hu]
theorem Ark {n:Nat}(hu:P.underlying t=some (.array n e)):WT P (d+1) t ps↔∃rows:List (List PV),ps=rows.flatten∧rows.length=n∧∀r∈rows,r.length=P.cellsOf e∧WT P d e r:=by
 show (match P.underlying t with|some .bool=>_|some (.int k)=>_|some .string=>_|some (.slice e)=>_|some (.struct fs)=>_|some (.array n e)=>_|_=>_)↔_
 rw[hu]
end
inductive Ki where
 |bool
 |int (k:IntKind)
 |str
 |sl (e:TypeId)
 |st (ts:List TypeId)
 |ar (n:Nat) (e:TypeId)
 |no
def P6 (P:Program)(t:TypeId):Ki:=
 match P.underlying t with
 |some .bool=>.bool
 |some (.int k)=>.int k
 |some .string=>.str
 |some (.slice e)=>.sl e
 |some (.struct fs)=>.st (fs.toList.map (·.type))
 |some (.array n e)=>.ar n e
 |_=>.no
section
variable {P:Program} {d:Nat} {t e:TypeId} {ps:List PV} {p:PV}
theorem B8.map_left {α β γ:Type}{g:α->γ}{R:γ->β->Prop}:∀{l:List α}{r:List β},B8 (fun a b=>R (g a) b) l r->B8 R (l.map g) r
 |[],[],_=>trivial
 |_::_,_::_,h=>⟨h.1,B8.map_left h.2⟩
 |[],_::_,h=>h.elim
 |_::_,[],h=>h.elim
theorem B8.cons_inv {α β:Type}{R:α->β->Prop}{a:α}{zs:List α}:∀{rs:List β},B8 R (a::zs) rs->∃r rs',rs=r::rs'∧R a r∧B8 R zs rs'
 |[],h=>h.elim
 |r::rs,h=>⟨r,rs,rfl,h.1,h.2⟩
theorem B8.nil_inv {α β:Type}{R:α->β->Prop}:∀{rs:List β},B8 R ([]:List α) rs->rs=[]
 |[],_=>rfl
 |_::_,h=>h.elim
theorem Vw {k:IntKind}(hk:P6 P t=.int k)(h:WT P d t ps):∃n,ps=[.sc (.int k n)]∧(Lit.int k n).wf=true:=by
 cases d with
 |zero=>exact h.elim
 |succ d=>
 unfold P6 at hk;split at hk<;>first|cases hk|skip
 rename_i hu;exact (Aq4 hu).1 h
theorem A3n (hk:P6 P t=.str)(h:WT P d t ps):∃s:ByteArray,ps=[.sc (.string s)]∧s.size<=maxLen:=by
 cases d with
 |zero=>exact h.elim
 |succ d=>
 unfold P6 at hk;split at hk<;>first|cases hk|skip
 rename_i hu;exact (Aag hu).1 h
theorem A01 (hk:P6 P t=.sl e)(h:WT P d t ps):∃rows:List (List PV),ps=[.lst false (P.cellsOf e) rows.length rows.flatten]∧rows.length<=maxLen∧∀r∈rows,r.length=P.cellsOf e∧WT P (d-1) e r:=by
 cases d with
 |zero=>exact h.elim
 |succ d=>
 rw[Nat.add_sub_cancel];unfold P6 at hk;split at hk<;>first|cases hk|skip
 rename_i hu;exact (Afa hu).1 h
theorem ZQ {ts:List TypeId}(hk:P6 P t=.st ts)(h:WT P d t ps):∃rows:List (List PV),ps=rows.flatten∧B8 (WT P (d-1)) ts rows:=by
 cases d with
 |zero=>exact h.elim
 |succ d=>
 rw[Nat.add_sub_cancel];unfold P6 at hk;split at hk<;>first|cases hk|skip
 rename_i fs hu;obtain⟨rows,h1,h2⟩:=(ZL hu).1 h;exact⟨rows,h1,B8.map_left h2⟩
theorem Awt (hk:C6 P t=true)(h:WTv P t p):∃ps,p=.agg ps∧WT P 12 t ps:=by
 unfold WTv at h;rw[hk] at h;exact h
theorem Azq (hk:C6 P t=false)(h:WTv P t p):WT P 12 t [p]:=by
 unfold WTv at h;rw[hk] at h;exact h
theorem Qs {α:Type}(f:α->List PV)(Q:α->Prop):∀{rows:List (List PV)},(∀r∈rows,∃x,r=f x∧Q x)->∃xs:List α,rows.flatten=xs.flatMap f∧rows.length=xs.length∧∀x∈xs,Q x
 |[],_=>⟨[],rfl,rfl,by simp⟩
 |r::rows,h=>by
  obtain⟨x,h1,h2⟩:=h r (by simp)
  obtain⟨xs,h3,h4,h5⟩:=Qs (rows:=rows) f Q fun r hr=>h r (by simp[hr])
  refine⟨x::xs,by simp[h1,h3],by simp[h4],fun y hy=>?_⟩
  rcases List.mem_cons.1 hy with rfl|hy
  ·exact h2
  ·exact h5 y hy
end
abbrev No:Nat->Prop:=fun _=>False
section
variable {H:Type} {enc:TypeId × Value->H} {P:Program} {w:World} {base:Nat} {held:Bool}
theorem B8.flat {α β:Type}{R:α->β->Prop}:∀{l:List Nat}{f:Nat->List α}{g:Nat->List β},(∀i∈l,B8 R (f i) (g i))->B8 R (l.map f).flatten (l.map g).flatten
 |[],_,_,_=>trivial
 |i::l,f,g,h=>by
  simp only[List.map_cons,List.flatten_cons];exact (h i (by simp)).app (B8.flat fun j hj=>h j (by simp[hj]))
theorem Ank {a:Addr}{v:Value}(h:w.cell? a=some v):a.spot=none∧a.block<w.heap.size:=by
 unfold World.cell? at h;split at h
 ·rename_i c t f e;refine⟨?_,?_⟩
  ·cases hs:a.spot with
   |none=>rfl
   |some x=>rw[hs] at h;simp at h
  ·rcases Nat.lt_or_ge a.block w.heap.size with h1|h1
   ·exact h1
   ·rw[Array.getElem?_eq_none h1] at e;cases e
 ·cases h
theorem VD {α:Type}{g:Nat->List α}{es:Nat}:∀{n:Nat},(∀i,i<n->(g i).length=es)->((List.range n).map g).flatten.length=n*es
 |0,_=>by simp
 |n+1,h=>by
  rw[List.range_succ,List.map_append,List.flatten_append,List.length_append,VD (fun i hi=>h i (by omega))]
  simp[h n (by omega),Nat.succ_mul]
theorem SV {a:Addr}{g:Nat->List Value}{es:Nat}:∀{n:Nat},(∀i,i<n->(g i).length=es)->(∀i,i<n->∀k,k<es->w.cell? (a.add (i*es+k))=(g i)[k]?) ->
  ∀j,j<n*es->w.cell? (a.add j)=(((List.range n).map g).flatten)[j]?
 |0,_,_,j,hj=>by omega
 |n+1,hl,hc,j,hj=>by
  have hfl:=VD (fun i (hi:i<n)=>hl i (by omega))
  rw[List.range_succ,List.map_append,List.flatten_append,List.getElem?_append,hfl];rw[Nat.succ_mul] at hj;split
  ·rename_i h1;exact SV (fun i hi=>hl i (by omega)) (fun i hi=>hc i (by omega)) j h1
  ·rename_i h1;have:=hc n (by omega) (j-n*es) (by omega)
   rw[show n*es+(j-n*es)=j by omega] at this
   simpa using this
abbrev TR (w:World)(c:PV)(v:Value):Prop:=(FJ c∧A8 w No c v)∧v.oneCell'=true
theorem PR {d:Nat}{cs:List Value}{n:Nat}(hn:cs.length=n):∀(l:List Field)(i:Nat),Ad8 P l i n=true ->
  (∀f∈l,∃ps,WT P d f.type ps∧B8 (TR w) ps ((cs.drop f.offset).take (P.cellsOf f.type)))->∃rows:List (List PV),B8 (fun f r=>WT P d f.type r) l rows∧B8 (TR w) rows.flatten (cs.drop i)
 |[],i,ho,_=>by
  have:=Nat.eq_of_beq_eq_true ho;refine⟨[],trivial,?_⟩;rw[List.drop_of_length_le (by omega)]
  trivial
 |f::l,i,ho,h=>by
  simp only[Ad8,Bool.and_eq_true] at ho;have ho1:=Nat.eq_of_beq_eq_true ho.1;obtain⟨ps,h1,h2⟩:=h f (by simp)
  obtain⟨rows,h3,h4⟩:=PR hn l _ ho.2 fun g hg=>h g (by simp[hg])
  refine⟨ps::rows,⟨h1,h3⟩,?_⟩;rw[ho1] at h2;have:cs.drop i=(cs.drop i).take (P.cellsOf f.type)++cs.drop (i+P.cellsOf f.type):=by rw[←List.drop_drop];exact (List.take_append_drop _ _).symm
  rw[this,List.flatten_cons];exact h2.app h4
theorem VI {d:Nat}{e:TypeId}{cs:List Value}{k:Nat}:∀(n:Nat),n*k<=cs.length ->
  (∀i,i<n->∃ps,(ps.length=k∧WT P d e ps)∧B8 (TR w) ps ((cs.drop (i*k)).take k))->∃rows:List (List PV),rows.length=n∧(∀r∈rows,r.length=k∧WT P d e r)∧B8 (TR w) rows.flatten (cs.take (n*k))
 |0,_,_=>⟨[],rfl,by simp,by simp[B8]⟩
 |n+1,hl,h=>by
  rw[Nat.succ_mul] at hl;obtain⟨rows,h1,h2,h3⟩:=VI n (by omega) fun i hi=>h i (by omega)
  obtain⟨ps,h4,h5⟩:=h n (by omega)
  refine⟨rows++[ps],by simp[h1],?_,?_⟩
  ·intro r hr;rcases List.mem_append.1 hr with hr|hr
   ·exact h2 r hr
   ·rw[List.mem_singleton.1 hr];exact h4
  ·rw[List.flatten_append,Nat.succ_mul,List.take_add];refine h3.app ?_
   simpa using h5
theorem DW:∀(d:Nat)(t:TypeId),Sl P d t=true->∀(fuel:Nat)(cs:List Value)(x:DataW H × List MemPlace),DataW.trod enc P w base (fun _=>true) held fuel t cs=some x ->
  ∃ps,WT P d t ps∧B8 (TR w) ps cs
 |0,_,h,_,_,_,_=>by cases h
 |d+1,t,hp,fuel,cs,x,h=>by
  unfold Sl at hp;split at hp
  ·rename_i hu;obtain⟨b,rfl,_⟩:=DataW.trod_bool hu h;simp only[Ayl hu];exact⟨[.sc (.bool b)],⟨b,rfl⟩,⟨⟨trivial,A8.sc _⟩,rfl⟩,trivial⟩
  ·rename_i k hu;obtain⟨n,rfl,_,hw⟩:=DataW.trod_int hu h;simp only[Aq4 hu];exact⟨[.sc (.int k n)],⟨n,rfl,hw⟩,⟨⟨trivial,A8.sc _⟩,rfl⟩,trivial⟩
  ·rename_i hu;obtain⟨s,rfl,_,hw⟩:=DataW.trod_string hu h;simp only[Aag hu];exact⟨[.sc (.string s)],⟨s,rfl,hw⟩,⟨⟨trivial,A8.sc _⟩,rfl⟩,trivial⟩
  ·rename_i e hu;simp only[Bool.and_eq_true] at hp;have ON:0<P.cellsOf e:=Nat.lt_of_succ_le (Nat.le_of_ble_eq_true hp.2);simp only[Afa hu];rcases open_slice hu h with⟨rfl,_⟩|⟨a,len,cap,m,n,D,Pl,rfl,_,hl,hm,hmm,_,hi⟩
   ·exact⟨[.lst false (P.cellsOf e) 0 []],⟨[],by simp,by simp,by simp⟩,⟨⟨trivial,A8.lnil _ _⟩,rfl⟩,trivial⟩
   ·simp only[if_true] at hmm;subst hmm
    have hi':∀i,i<len->∃q:List PV × List Value,(q.2.length=P.cellsOf e∧(∀k,k<P.cellsOf e->w.cell? (a.add (i*P.cellsOf e+k))=q.2[k]?))∧WT P d e q.1∧B8 (TR w) q.1 q.2:=by
     intro i Cq;obtain⟨cs',hc,ht⟩:=hi i (by omega)
     obtain⟨_,AK,hat⟩:=World.cells?_some hc;obtain⟨ps,h1,h2⟩:=DW d e hp.1 _ _ _ ht;exact⟨(ps,cs'),⟨AK,fun k hk=>by rw[←Pv.add_add];exact hat k hk⟩,h1,h2⟩
    obtain⟨F,hF⟩:=choose_lt hi';refine⟨[.lst false (P.cellsOf e) len ((List.range len).map fun i=>(F i).1).flatten],⟨(List.range len).map fun i=>(F i).1,by simp,by simp;omega,?_⟩,⟨⟨trivial,?_⟩,rfl⟩,trivial⟩
    ·intro r hr;obtain⟨i,hi1,rfl⟩:=List.mem_map.1 hr;have hi2:=List.mem_range.1 hi1;exact⟨by rw[(hF i hi2).2.2.len];exact (hF i hi2).1.1,(hF i hi2).2.1⟩
    ·rcases Nat.eq_zero_or_pos len with h0|h0
     ·subst h0;exact A8.lemp _ _ _
     ·have Y9:B8 (TR w) ((List.range len).map fun i=>(F i).1).flatten ((List.range len).map fun i=>(F i).2).flatten:=B8.flat fun i hi=>(hF i (List.mem_range.1 hi)).2.2
      have hcell:=SV (w:=w) (a:=a) (g:=fun i=>(F i).2) (fun i hi=>(hF i hi).1.1) (fun i hi=>(hF i hi).1.2)
      have Hw:=VD (g:=fun i=>(F i).2) (fun i (hi:i<len)=>(hF i hi).1.1)
      have h00:w.cell? a≠none:=by
       have:=hcell 0 (Nat.mul_pos h0 ON);rw[show a.add 0=a by unfold Addr.add;simp] at this
       rw[this,List.getElem?_eq_getElem (by rw[Hw];exact Nat.mul_pos h0 ON)]
       simp
      obtain⟨v0,hv0⟩:=Option.ne_none_iff_exists'.1 h00;obtain⟨hs,hb⟩:=Ank hv0
      have key:∀j c,(((List.range len).map fun i=>(F i).1).flatten)[j]?=some c->∃v,w.cell? (a.add j)=some v∧TR w c v:=by
       intro j c hj
       have hlj:j<len*P.cellsOf e:=by
        rw[←Hw,←Y9.len];rcases Nat.lt_or_ge j (((List.range len).map fun i=>(F i).1).flatten).length with h1|h1
        ·exact h1
        ·rw[List.getElem?_eq_none h1] at hj;cases hj
       have h1:=hcell j hlj;rw[List.getElem?_eq_getElem (by rw[Hw];exact hlj)] at h1
       exact⟨_,h1,Y9.at_ hj (List.getElem?_eq_getElem (by rw[Hw];exact hlj))⟩
      refine A8.lst _ _ _ a _ (fun j=>(w.cell? (a.add j)).getD undef) hs hb (fun h=>h) hl (fun j c hj=>?_) (fun j c hj=>?_) (fun j c hj=>?_)
      ·obtain⟨v,hv,_⟩:=key j c hj;rw[hv];rfl
      ·obtain⟨v,hv,ht⟩:=key j c hj;rw[hv];exact ht.2
      ·obtain⟨v,hv,ht⟩:=key j c hj;rw[hv];exact ht.1.2
  ·rename_i fs hu;simp only[Bool.and_eq_true] at hp;simp only[ZL hu];obtain⟨xs,n,_,_,Hw,hxl,hf⟩:=DataW.trod_struct hu h
   obtain⟨rows,h1,h2⟩:=PR (P:=P) (w:=w) (d:=d) Hw fs.toList 0 hp.1 fun f hf'=>by
    obtain⟨i,hi⟩:=List.mem_iff_getElem?.1 hf';have hi':fs[i]?=some f:=by simpa using hi
    have Cq:i<fs.size:=(Array.getElem?_eq_some_iff.1 hi').1;have h3:=hf i f hi';rw[List.getElem?_eq_getElem (by omega)] at h3
    exact DW d f.type (List.all_eq_true.1 hp.2 f hf') _ _ _ h3
   exact⟨_,⟨rows,rfl,h1⟩,by simpa using h2⟩
  ·rename_i n e hu;simp only[Bool.and_eq_true] at hp;simp only[Ark hu];obtain⟨xs,m,_,_,Hw,hxl,hf⟩:=DataW.trod_array hu h;have Mo:=Nat.eq_of_beq_eq_true hp.1
   obtain⟨rows,h1,h2,h3⟩:=VI (P:=P) (w:=w) (d:=d) (e:=e) (cs:=cs) (k:=P.cellsOf e) n (by omega) fun i hi=>by
    have h3:=hf i hi;rw[List.getElem?_eq_getElem (by omega)] at h3
    obtain⟨ps,h4,h5⟩:=DW d e hp.2 _ _ _ h3;refine⟨ps,⟨?_,h4⟩,h5⟩;rw[h5.len,List.length_take,List.length_drop,Hw,Mo];have:(i+1)*P.cellsOf e<=n*P.cellsOf e:=Nat.mul_le_mul_right _ hi;rw[Nat.succ_mul] at this;omega
   refine⟨_,⟨rows,rfl,h1,h2⟩,?_⟩;rw[List.take_of_length_le (by omega)] at h3
   exact h3
  ·cases hp
theorem Aqp {r:Reach}{b0:Nat}{t:TypeId}{v:Value}{dd:DataW H}{p:List MemPlace}(hp:Sl P 12 t=true)(hv:Value.okWide P w r b0 t v)(h:DataW.Trod enc P w base (fun _=>true) held t v dd p):
  ∃q,WTv P t q∧Wh w No q v:=by
 obtain⟨fuel,hf⟩:=h;obtain⟨ps,h1,h2⟩:=DW 12 t hp fuel _ _ hf;unfold WTv C6
 have two:∀{cs:Array Value},v=.agg cs->∃q,(∃ps,q=.agg ps∧WT P 12 t ps)∧Wh w No q v:=by
  intro cs e;subst e;exact⟨.agg ps,⟨ps,rfl,h1⟩,cs.toList,by simp,h2.mono fun c v h=>h.1⟩
 have one:v.cells.toList=[v]->∃q,WT P 12 t [q]∧Wh w No q v:=by
  intro e;rw[e] at h2
  match ps,h2 with
  |[q],h2=>
   refine⟨q,h1,?_⟩;have h3:=h2.1.1;cases q<;>first|exact h3|exact h3.1.elim
  |[],h2=>exact h2.elim
  |_::_::_,h2=>exact h2.2.elim
 unfold Sl at hp;split at hp
 ·rename_i hu;simp only[hu];obtain⟨b,rfl,_⟩:=open_bool hu hv ⟨fuel,hf⟩;exact one rfl
 ·rename_i k hu;simp only[hu];obtain⟨b,rfl,_⟩:=open_int hu hv ⟨fuel,hf⟩;exact one rfl
 ·rename_i hu;simp only[hu];obtain⟨b,rfl,_⟩:=ChangeMaps.open_string hu hv ⟨fuel,hf⟩;exact one rfl
 ·rename_i e hu;simp only[hu];obtain⟨a,len,cap,rfl⟩:=okWide_slice hu hv;exact one rfl
 ·rename_i fs hu;simp only[hu];obtain⟨cs,rfl,_⟩:=okWide_struct hu hv;exact two rfl
 ·rename_i n e hu;simp only[hu];unfold Value.okWide at hv;simp only[hu] at hv;obtain⟨cs,rfl,_⟩:=hv;exact two rfl
 ·cases hp
theorem Abw:∀{ts:List TypeId}{vs:List Value}{ds:List (DataW H)} {p:List MemPlace}{r:Reach}{b0:Nat},(ts.all fun t=>Sl P 12 t)=true->(∀(j:Nat) t v,ts[j]?=some t->vs[j]?=some v->Value.okWide P w r b0 t v) ->
  DataW.TrodAll enc P w base (fun _=>true) held ts vs ds p->∃qs,B8 (WTv P) ts qs∧B8 (Wh w No) qs vs
 |[],[],[],_,_,_,_,_,_=>⟨[],trivial,trivial⟩
 |t::ts,v::vs,d::ds,_,r,b0,hp,hv,⟨p,q,h1,h2,_⟩=>by
  simp only[List.all_cons,Bool.and_eq_true] at hp;obtain⟨x,h3,h4⟩:=Aqp hp.1 (hv 0 t v rfl rfl) h1;obtain⟨xs,h5,h6⟩:=Abw hp.2 (fun j t v ht U5=>hv (j+1) t v ht U5) h2
  exact⟨x::xs,⟨h3,h5⟩,h4,h6⟩
 |[],_::_,_,_,_,_,_,_,h=>by cases h
 |[],[],_::_,_,_,_,_,_,h=>by cases h
 |_::_,[],_,_,_,_,_,_,h=>by cases h
 |_::_,_::_,[],_,_,_,_,_,h=>by cases h
theorem FY (hl:laidOutB P=true){W W':World}{sp:Nat->Bool}:∀{ts:List TypeId}{vs:List Value}{ds:List (DataW H)} {p:List MemPlace},(ts.all fun t=>P.readableRec t&&Nat.blt t P.types.size)=true ->
  DataW.TrodAll enc P W 0 (fun _=>true) true ts vs ds p->(∀x∈p,W.sameAt W' x)->(∀x∈p,sp x.block=true)->DataW.TrodAll enc P W' 0 sp true ts vs ds p
 |[],[],[],_,_,h,_,_=>h
 |t::ts,v::vs,d::ds,_,hr,⟨p,q,h1,h2,e⟩,hs,hsp=>by
  simp only[List.all_cons,Bool.and_eq_true] at hr;refine⟨p,q,WideElems.Trod_stays hl hr.1.1 (Nat.lt_of_succ_le (Nat.le_of_ble_eq_true hr.1.2)) h1 (fun x hx=>hs x ?_) (fun x hx=>hsp x ?_),FY hl hr.2 h2 (fun x hx=>hs x ?_) (fun x hx=>hsp x ?_),e⟩
  all_goals rw[e,List.mem_append]
  ·exact .inl hx
  ·exact .inl hx
  ·exact .inr hx
  ·exact .inr hx
 |[],_::_,_,_,_,h,_,_=>by cases h
 |[],[],_::_,_,_,h,_,_=>by cases h
 |_::_,[],_,_,_,h,_,_=>by cases h
 |_::_,_::_,[],_,_,h,_,_=>by cases h
theorem YT {f:Func}{s:ChangeSpec}{apart fresh Add again:Bool}{W W':World}{args:Array Value}{v:Value}{ds gs:List (DataW H)} {before pa pv:List MemPlace}
  (hW:DataW.Whole enc P f.params.toList s.vars apart W args.toList ds gs before)
  (A8a:∀(b:Nat)(sp:Nat->Bool)(hd:Bool),DataW.TrodAll enc P W' b sp hd f.resultTypes.toList (v.resultList f.resultTypes.size) (s.fn H (ds++gs)).results [])
  (Fo:∀sp:Nat->Bool,(∀p∈before,sp p.block=true)->DataW.TrodAll enc P W' 0 sp true f.params.toList args.toList (s.fn H (ds++gs)).args pa)
  (Agt:∀sp:Nat->Bool,(∀p∈before,sp p.block=true)->DataW.TrodVars enc P W' sp s.vars (s.fn H (ds++gs)).vars pv)
  (QC:before=pa++pv)(hb:Below W.heap.size W W')
  (hok:∀(j:Nat)(t:TypeId)(r:Value),f.resultTypes[j]?=some t->(v.resultList f.resultTypes.size)[j]?=some r->Value.okWide P W' .any 0 t r):
  s.post enc P f apart fresh Add again W args v W':=by
 have Cq:∀p∈before,p.block<W.heap.size:=fun p hp=>hW.lt p hp
 have hold:∀p∈before,(fun b=>decide (b<W.heap.size)) p.block=true:=fun p hp=>by simpa using Cq p hp
 refine⟨ds,gs,before,[],pa,pv,hW,A8a _ _ _,Fo _ hold,Agt _ hold,World.keptBut_mono (fun p hp=>⟨hp,?_⟩) (hb.frame (· ∈ before)),fun _=>?_⟩
 ·rw[QC,List.mem_append] at hp;exact Or.inr hp
 ·obtain⟨_,_,_,_,_,hz,hn⟩:=hW;refine⟨hok,_,_,([]++pa)++pv,⟨[]++pa,pv,trodAll_append (Fo _ (fun _ _=>rfl)) (A8a _ _ _),Agt _ (fun _ _=>rfl),rfl,?_,?_⟩,?_⟩
  ·intro b off hp;have DY:MemPlace.cell b off∈before:=by rw[QC];simpa using hp
   rw[hb.frozen (Cq _ DY)];exact hz b off DY
  ·intro ha;have:=hn ha;rw[QC] at this
   simpa using this
  ·intro p hp _;rw[QC]
   simpa using hp
theorem law_contract {G:Xl}{C:Kf}(hx:Als G P C)(Kg:NoNG P)(hm:P.follows .mixedOrders=true)(hl:laidOutB P=true){f:FuncId}{fn:Func}{s:ChangeSpec}{tb:TypeId}(hfn:P.funcs[f]?=some fn)
  (Agt:s.vars=[]) (A8p:∀ds:List (DataW H),ds.length=fn.params.size->s.fn H ds={ results:=[.lit (.bool true)],args:=ds }) (A4p:(fn.params.toList.all fun t=>Sl P 12 t)=true)
  (A74:(fn.params.toList.all fun t=>P.readableRec t&&Nat.blt t P.types.size)=true) (hrt:fn.resultTypes = #[tb]) (hub:P.underlying tb=some .bool)
  {apart fresh Add again:Bool} (W:World) (base:Nat) (args:Array Value) (ds gs:List (DataW H)) (before:List MemPlace)
  (hval:∀(j:Nat) t v,fn.params[j]?=some t->args[j]?=some v->Value.okWide P W .any base t v)
  (hW:DataW.Whole enc P fn.params.toList s.vars apart W args.toList ds gs before)
  (Bbe:∀qs:List PV,B8 (WTv P) fn.params.toList qs->∃fu d,Ad C P fu d f qs=some ⟨[.sc (.bool true)],[]⟩) (hG:G.ok W)(hGY:∀b,G.bl b->b<W.heap.size):
  Calls P f args W fun e W'=>∃v,e=.returned v∧s.post enc P fn apart fresh Add again W args v W':=by
 have hW':=hW;obtain⟨p,q,hA,hV,rfl,NL,XJ⟩:=hW;rw[Agt] at hV;obtain⟨rfl,rfl⟩:=trodVars_none hV;obtain⟨qs,h1,h2⟩:=Abw A4p (fun j t v ht hv=>hval j t v (by simpa using ht) (by simpa using hv)) hA
 obtain⟨fu,d,hc⟩:=Bbe qs h1;have hS:=(DD Kg hm hx d f qs _ hc).2 W No BA args.toList (Afy (fun b h=>h.elim) h2) hG (fun b hb=>⟨hGY b hb,Rr b⟩)
 rw[Array.toArray_toList] at hS;refine hS.mono fun e W' ⟨vs,own,he,ho⟩=>?_
 have hv:=ho.vals
 have V4:vs=[.bool true]:=by
  match vs,hv with
  |[u],hv=>
   have:A8 W' _ (.sc (.bool true)) u:=hv.1;rw[this.val]
  |[],hv=>exact hv.elim
  |_::_::_,hv=>exact hv.2.elim
 subst V4;subst he;have hb:Below W.heap.size W W':=⟨ho.os,ho.tape,ho.output,ho.ext.size,fun k hk=>ho.ext.keep k hk (Rr k)⟩
 have Cq:∀x∈p,x.block<W.heap.size:=fun x hx=>hW'.lt x (by simpa using hx)
 have Hw:ds.length=fn.params.size:=by
  have:∀{ts:List TypeId} {vs:List Value} {ds:List (DataW H)} {p:List MemPlace},DataW.TrodAll enc P W 0 (fun _=>true) true ts vs ds p->ds.length=ts.length:=by
   intro ts
   induction ts with
   |nil=>intro vs ds p h;cases vs<;>cases ds<;>first|rfl|cases h
   |cons t ts ih=>
    intro vs ds p h;cases vs with
    |nil=>cases h
    |cons v vs=>
     cases ds with
     |nil=>cases h
     |cons d ds=>obtain⟨_,_,_,h2,_⟩:=h;simp[ih h2]
  simpa using this hA
 have hsp:=A8p (ds++[]) (by simpa using Hw)
 refine⟨_,rfl,YT (pa:=p) (pv:=[]) hW' ?_ ?_ ?_ rfl hb ?_⟩
 ·intro b sp hd;rw[hsp,hrt];exact trodAll_mk1 (shut_bool hub _)
 ·intro sp Bb9;rw[hsp];simp only[List.append_nil];exact FY hl A74 hA (fun x hx=>hb.same (Cq x hx)) (fun x hx=>Bb9 x (by simpa using hx))
 ·intro sp _;rw[hsp,Agt];rfl
 ·exact ok_one hrt rfl (okWide_bool_mk hub _)
end
end
section
open Go.Proofs.Tryz (prog)
set_option maxRecDepth 100000
theorem Ads {d:Nat}{ps:List PV}{k:IntKind}{t e:TypeId}(hk:P6 prog t=.sl e)(hc:prog.cellsOf e=1)(he:P6 prog e=.int k)(h:WT prog d t ps):
  ∃l:List Int,ps=[.lst false 1 l.length (Af k l)]∧l.length<=maxLen∧∀n∈l,(Lit.int k n).wf=true:=by
 obtain⟨rows,rfl,hl,hr⟩:=A01 hk h;obtain⟨l,h1,h2,h3⟩:=Qs (A2q k) (fun n=>(Lit.int k n).wf=true) fun r hrr=>Vw he (hr r hrr).2
 refine⟨l,?_,by omega,h3⟩
 rw[h1,h2,hc]
theorem Ajk {d:Nat}{ps:List PV}{k:Nat}{t e:TypeId}(hk:P6 prog t=.sl e)(hc:prog.cellsOf e=k)(h:WT prog d t ps):
  ∃rows:List (List PV),ps=[.lst false k rows.length rows.flatten]∧rows.length<=maxLen∧∀r∈rows,r.length=k∧WT prog (d-1) e r:=by
 subst hc;exact A01 hk h
theorem Acw {n:Int}(h:(Lit.int .u64 n).wf=true):0<=n∧n<=18446744073709551615:=by
 simp[Lit.wf,IntKind.min,IntKind.max,IntKind.signed,IntKind.bits] at h;omega
theorem Aqd {p:PV}{k:IntKind}{t e:TypeId}(ha:C6 prog t=false)(hk:P6 prog t=.sl e)(hc:prog.cellsOf e=1)(he:P6 prog e=.int k)(h:WTv prog t p):
  ∃l:List Int,p=.lst false 1 l.length (Af k l)∧l.length<=maxLen∧∀n∈l,(Lit.int k n).wf=true:=by
 have h':=Azq (P:=prog) (t:=t) (p:=p) ha h;obtain⟨l,h1,h2,h3⟩:=Ads hk hc he h';exact⟨l,by injection h1,h2,h3⟩
end
section
open Go.IntKind (wrap)
theorem Dc:type_of% @Bool.not_true:=@Bool.not_true
theorem Hg:type_of% @Bool.not_false:=@Bool.not_false
theorem Dr:type_of% @Nat.mul_one:=@Nat.mul_one
theorem Cv:type_of% @Nat.zero_add:=@Nat.zero_add
theorem Dt:type_of% @List.drop_zero.{0}:=@List.drop_zero
theorem Jq:type_of% @List.take_of_length_le.{0}:=@List.take_of_length_le
theorem Hi:type_of% @List.length_append.{0}:=@List.length_append
theorem Ye:type_of% @List.length_nil.{0}:=@List.length_nil
theorem H5:type_of% @List.length_cons.{0}:=@List.length_cons
theorem Je:type_of% @Int.toNat_natCast:=@Int.toNat_natCast
theorem Bp:type_of% @if_neg.{1}:=@if_neg
theorem Co:type_of% @if_pos.{1}:=@if_pos
theorem Zzp:type_of% @List.cons_append.{0}:=@List.cons_append
theorem ZG:type_of% @List.nil_append.{0}:=@List.nil_append
theorem Zzr:type_of% @Nat.add_zero:=@Nat.add_zero
theorem QV:type_of% @List.append_assoc.{0}:=@List.append_assoc
theorem VR:type_of% @List.map_cons.{0,0}:=@List.map_cons
end
section
open Go.Proofs.Tryz (prog)
open Go.IntKind (wrap)
set_option maxRecDepth 100000
abbrev Rz:FuncId:=147
theorem EV {xs:FuncId->Option (List PV->Option A4)} (fu d:Nat)(a0 a1:Int):Ad (CX xs) prog fu (d+1) Rz [.sc (.int .u64 a0),.sc (.int .i64 a1)]=(fun (call:Ah)=>Aa (wrap .u64 a1) fun x1=>Aa (Wo .u64 x1 63) fun x2=>Aw (decide (0<=x2))<|Aa (Jf .u64 a0 x2) fun x3=>Aa (wrap .u64 (64-x2)) fun x4=>Aw (decide (0<=x4))<|Aa (Ft .u64 a0 x4) fun x5=>Aa (ior .u64 x3 x5) fun x6=>some (A4.mk [.sc (.int .u64 x6)] [])) (Ad (CX xs) prog fu d):=by kernel_rfl
abbrev Hm:FuncId:=86
noncomputable def Jv (fu:Nat)(call:Ah)(Bq:Nat)(a0:List PV)(nn y0 y1:Nat)(y2:List PV)(y3 y4:Int)(y5:List PV):Option A4:=Dd CB prog fu call 86 Tryz.f86 (B9 Tryz.f86) [.lst false 1 Bq a0] [.r,.r,.l,.r,.l] nn ⟨lk [(3,(.view 3 1 0 y0)),(11,(.lst false 1 y1 y2)),(12,(.sc (.int .i64 y3))),(13,(.sc (.int .i64 y4)))],B7 [(3,(.ar false y5))]⟩
noncomputable def Mn (fu:Nat)(call:Ah)(Bq:Nat)(a0:List PV)(m0 nn y0:Nat)(y1:Int)(y2:Nat)(y3:List PV)(y4 y5 y6:Int)(y7:List PV):Option A4:=Dd CB prog fu call 86 Tryz.f86 (B9 Tryz.f86) [.lst false 1 Bq a0] [.r,.r,.l,.r,.l,.i m0,.r,.r,.l,.l,.r,.r,.l] nn ⟨lk [(3,(.view 3 1 0 y0)),(5,(.sc (.int .u64 y1))),(11,(.lst false 1 y2 y3)),(12,(.sc (.int .i64 y4))),(13,(.sc (.int .i64 y5))),(17,(.sc (.int .i64 y6)))],B7 [(3,(.ar false y7))]⟩
theorem Vg (fu:Nat)(call:Ah)(Bq:Nat)(a0:List PV)(nn y0 y1:Nat)(y2:List PV)(y3 y4:Int)(y5:List PV):Jv fu call Bq a0 (nn+1) y0 y1 y2 y3 y4 y5=(Bm (decide (y4<y3)) (Aw (decide (0<=y4)&&decide (y4<(↑y1:Int)))<|Ae .u64 (List.getD y2 (Int.toNat y4*1) .top) fun x2=>Mn fu call Bq a0 nn (fu) (y0) x2 (y1) (y2) (y3) (y4) 0 (y5)) (Aw (decide (y0*1<=y5.length))<|some (A4.mk [.own 1 y0 (List.take (y0*1) y5)] []))):=by kernel_rfl
theorem Vp (fu:Nat)(call:Ah)(Bq:Nat)(a0:List PV)(m0 nn y0:Nat)(y1:Int)(y2:Nat)(y3:List PV)(y4 y5 y6:Int)(y7:List PV):Mn fu call Bq a0 m0 (nn+1) y0 y1 y2 y3 y4 y5 y6 y7=(Bm (decide (y6<8)) (Aa (wrap .i64 (8*y6)) fun x3=>Aa (wrap .i64 (56-x3)) fun x4=>Aw (decide (0<=x4))<|Aa (Ft .u64 y1 x4) fun x5=>Aa (wrap .u8 x5) fun x6=>Aw (decide (y0*1<=y7.length)&&true&&decide ((y0+1)*1<=1099511627776)&&decide (y0+1<=1099511627776))<|Aa (y0+1) fun x7=>Aa (List.take (y0*1) y7++[.sc (.int .u8 x6)]) fun x8=>Aa (wrap .i64 (y6+1)) fun x9=>Mn fu call Bq a0 m0 (nn) x7 (y1) (y2) (y3) (y4) (y5) x9 x8) (Aa (wrap .i64 (y5+1)) fun Cy=>Jv fu call Bq a0 (m0) (y0) (y2) (y3) (y4) Cy (y7))):=by kernel_rfl
theorem ST {xs:FuncId->Option (List PV->Option A4)} (fu d Bq:Nat)(a0:List PV):Ad (CX xs) prog fu (d+1) Hm [.lst false 1 Bq a0]=(fun (call:Ah)=>Aa (wrap .i64 (8*(↑Bq:Int))) fun x1=>Aw (decide (0<=x1)&&decide (x1*1<=1099511627776)&&decide (x1<=1099511627776))<|Jv fu call Bq a0 (fu) 0 (Bq) (a0) ((↑Bq:Int)) 0 ([])) (Ad (CX xs) prog fu d):=by kernel_rfl
abbrev Zj:FuncId:=135
noncomputable def Lq (fu:Nat)(call:Ah)(Bq:Nat)(a0:List PV)(nn:Nat)(y0:Int)(y1:Nat)(y2:List PV)(y3 y4:Int):Option A4:=Dd CB prog fu call 135 Tryz.f135 (B9 Tryz.f135) [.lst false 1 Bq a0] [.r,.r,.l,.r,.l] nn ⟨lk [(3,(.sc (.int .u64 y0))),(6,(.lst false 1 y1 y2)),(7,(.sc (.int .i64 y3))),(8,(.sc (.int .i64 y4)))],B7 []⟩
theorem Ts (fu:Nat)(call:Ah)(Bq:Nat)(a0:List PV)(nn:Nat)(y0:Int)(y1:Nat)(y2:List PV)(y3 y4:Int):Lq fu call Bq a0 (nn+1) y0 y1 y2 y3 y4=(Bm (decide (y4<y3)) (Aw (decide (0<=y4)&&decide (y4<(↑y1:Int)))<|Ae .u8 (List.getD y2 (Int.toNat y4*1) .top) fun x1=>Aa (wrap .u64 x1) fun x2=>Aa (wrap .i64 (8*y4)) fun x3=>Aw (decide (0<=x3))<|Aa (Jf .u64 x2 x3) fun x4=>Aa (ior .u64 y0 x4) fun x5=>Aa (wrap .i64 (y4+1)) fun x6=>Lq fu call Bq a0 (nn) x5 (y1) (y2) (y3) x6) (some (A4.mk [.sc (.int .u64 y0)] []))):=by kernel_rfl
theorem RD {xs:FuncId->Option (List PV->Option A4)} (fu d Bq:Nat)(a0:List PV):Ad (CX xs) prog fu (d+1) Zj [.lst false 1 Bq a0]=(fun (call:Ah)=>Lq fu call Bq a0 (fu) 0 (Bq) (a0) ((↑Bq:Int)) 0) (Ad (CX xs) prog fu d):=by kernel_rfl
abbrev O8:FuncId:=136
noncomputable def Hf (fu:Nat)(call:Ah)(Ag Ai:Int)(Ay Bv a1:Int)(nn:Nat)(y0 y1:Int)(y2 y3:Int)(y4 y5:Int):Option A4:=Dd CB prog fu call 136 Tryz.f136 (B9 Tryz.f136) [.pbox [.sc (.int .u64 Ag),.sc (.int .u64 Ai),.sc (.int .u64 Ay),.sc (.int .u64 Bv)],.sc (.int .i64 a1)] [.r,.l] nn ⟨lk [(0,(.ptr 288000 0)),(4,(.sc (.int .i64 y0))),(5,(.sc (.int .i64 y1)))],B7 [(288000,(.st [(.sc (.int .u64 y2)),(.sc (.int .u64 y3)),(.sc (.int .u64 y4)),(.sc (.int .u64 y5))]))]⟩
theorem Mh (fu:Nat)(call:Ah)(Ag Ai:Int)(Ay Bv a1:Int)(nn:Nat)(y0 y1:Int)(y2 y3:Int)(y4 y5:Int):Hf fu call Ag Ai Ay Bv a1 (nn+1) y0 y1 y2 y3 y4 y5=(Bm (decide (y1<y0)) (Aa (wrap .u64 (y2+y3)) fun x1=>Aj (call 147 [.sc (.int .u64 y3),.sc (.int .i64 13)]) fun x2 x3=>Ac x3<|Ab x2 fun x4 x5=>Ae .u64 x4 fun x6=>Ac x5<|Aa (Fg .u64 x6 x1) fun x7=>Aj (call 147 [.sc (.int .u64 x1),.sc (.int .i64 32)]) fun x8 x9=>Ac x9<|Ab x8 fun Cy C4=>Ae .u64 Cy fun D1=>Ac C4<|Aa (wrap .u64 (y4+y5)) fun Ed=>Aj (call 147 [.sc (.int .u64 y5),.sc (.int .i64 16)]) fun Dn Eg=>Ac Eg<|Ab Dn fun Ez Fq=>Ae .u64 Ez fun F9=>Ac Fq<|Aa (Fg .u64 F9 Ed) fun Fp=>Aa (wrap .u64 (D1+Fp)) fun F2=>Aj (call 147 [.sc (.int .u64 Fp),.sc (.int .i64 21)]) fun Iw Hl=>Ac Hl<|Ab Iw fun H3 E5=>Ae .u64 H3 fun Ep=>Ac E5<|Aa (Fg .u64 Ep F2) fun G2=>Aa (wrap .u64 (Ed+x7)) fun I1=>Aj (call 147 [.sc (.int .u64 x7),.sc (.int .i64 17)]) fun Gs Ml=>Ac Ml<|Ab Gs fun L5 J6=>Ae .u64 L5 fun Le=>Ac J6<|Aa (Fg .u64 Le I1) fun Mc=>Aj (call 147 [.sc (.int .u64 I1),.sc (.int .i64 32)]) fun Nh Nw=>Ac Nw<|Ab Nh fun Qa Sb=>Ae .u64 Qa fun Ip=>Ac Sb<|Aa (wrap .i64 (y1+1)) fun Lf=>Hf fu call Ag Ai Ay Bv a1 (nn) (y0) Lf F2 Mc Ip G2) (some (A4.mk [] [[.sc (.int .u64 y2),.sc (.int .u64 y3),.sc (.int .u64 y4),.sc (.int .u64 y5)]]))):=by kernel_rfl
theorem Z3 {xs:FuncId->Option (List PV->Option A4)} (fu d:Nat)(Ag Ai:Int)(Ay Bv a1:Int):Ad (CX xs) prog fu (d+1) O8 [.pbox [.sc (.int .u64 Ag),.sc (.int .u64 Ai),.sc (.int .u64 Ay),.sc (.int .u64 Bv)],.sc (.int .i64 a1)]=(fun (call:Ah)=>Hf fu call Ag Ai Ay Bv a1 (fu) (a1) 0 (Ag) (Ai) (Ay) (Bv)) (Ad (CX xs) prog fu d):=by kernel_rfl
abbrev Pb:FuncId:=134
theorem Z5 {xs:FuncId->Option (List PV->Option A4)} (fu d:Nat)(Ag Ai:Int)(Ay Bv a1:Int):Ad (CX xs) prog fu (d+1) Pb [.pbox [.sc (.int .u64 Ag),.sc (.int .u64 Ai),.sc (.int .u64 Ay),.sc (.int .u64 Bv)],.sc (.int .u64 a1)]=(fun (call:Ah)=>Aa (Fg .u64 Bv a1) fun x1=>Aj (call 136 [.pbox [.sc (.int .u64 Ag),.sc (.int .u64 Ai),.sc (.int .u64 Ay),.sc (.int .u64 x1)],.sc (.int .i64 2)]) fun x2 x3=>Ac x2<|Ab x3 fun x4 x5=>Ab x4 fun x6 x7=>Ae .u64 x6 fun x8=>Ab x7 fun x9 Cy=>Ae .u64 x9 fun C4=>Ab Cy fun D1 Ed=>Ae .u64 D1 fun Dn=>Ab Ed fun Eg Ez=>Ae .u64 Eg fun Fq=>Ac Ez<|Ac x5<|Aa (Fg .u64 x8 a1) fun F9=>some (A4.mk [] [[.sc (.int .u64 F9),.sc (.int .u64 C4),.sc (.int .u64 Dn),.sc (.int .u64 Fq)]])) (Ad (CX xs) prog fu d):=by kernel_rfl
abbrev JC:FuncId:=109
noncomputable def Mj (fu:Nat)(call:Ah)(a0 a1:Int)(Mf:Nat)(a2:List PV)(nn y0:Nat)(y1:List PV)(y2 y3:Int)(y4 y5:Int)(y6 y7 y8:Int):Option A4:=Dd CB prog fu call 109 Tryz.f109 (B9 Tryz.f109) [.sc (.int .u64 a0),.sc (.int .u64 a1),.lst false 1 Mf a2] [.r,.r,.r,.l,.r,.l] nn ⟨lk [(2,(.lst false 1 y0 y1)),(7,(.ptr 7 0)),(8,(.sc (.int .i64 y2))),(22,(.sc (.int .i64 y3))),(23,(.sc (.int .i64 y4)))],B7 [(7,(.st [(.sc (.int .u64 y5)),(.sc (.int .u64 y6)),(.sc (.int .u64 y7)),(.sc (.int .u64 y8))]))]⟩
theorem Zo (fu:Nat)(call:Ah)(a0 a1:Int)(Mf:Nat)(a2:List PV)(nn y0:Nat)(y1:List PV)(y2 y3:Int)(y4 y5:Int)(y6 y7 y8:Int):Mj fu call a0 a1 Mf a2 (nn+1) y0 y1 y2 y3 y4 y5 y6 y7 y8=(Bm (decide (y4<y3)) (Aa (wrap .i64 (8*y4)) fun x6=>Aa (wrap .i64 (8*y4)) fun x7=>Aa (wrap .i64 (x7+8)) fun x8=>Aw (decide (0<=x6))<|Aw (decide (0<=x8))<|Aw (decide (Int.toNat x6<=Int.toNat x8)&&decide (Int.toNat x8<=y0))<|Aa (Int.toNat x8-Int.toNat x6) fun x9=>Aa (List.take (x9*1) (List.drop (Int.toNat x6*1) y1)) fun Cy=>Aj (call 135 [.lst false 1 x9 Cy]) fun C4 D1=>Ac D1<|Ab C4 fun Ed Dn=>Ae .u64 Ed fun Eg=>Ac Dn<|Aj (call 134 [.pbox [.sc (.int .u64 y5),.sc (.int .u64 y6),.sc (.int .u64 y7),.sc (.int .u64 y8)],.sc (.int .u64 Eg)]) fun Ez Fq=>Ac Ez<|Ab Fq fun F9 Fp=>Ab F9 fun F2 Iw=>Ae .u64 F2 fun Hl=>Ab Iw fun H3 E5=>Ae .u64 H3 fun Ep=>Ab E5 fun G2 I1=>Ae .u64 G2 fun Gs=>Ab I1 fun Ml L5=>Ae .u64 Ml fun J6=>Ac L5<|Ac Fp<|Aa (wrap .i64 (y4+1)) fun Le=>Mj fu call a0 a1 Mf a2 (nn) (y0) (y1) (y2) (y3) Le Hl Ep Gs J6) (Aa (wrap .i64 (8*y2)) fun Mc=>Aw (decide (0<=Mc))<|Aw (decide (Int.toNat Mc<=y0)&&decide (y0<=y0))<|Aa (y0-Int.toNat Mc) fun Nh=>Aa (List.take (Nh*1) (List.drop (Int.toNat Mc*1) y1)) fun Nw=>Aj (call 135 [.lst false 1 Nh Nw]) fun Qa Sb=>Ac Sb<|Ab Qa fun Ip Lf=>Ae .u64 Ip fun Rj=>Ac Lf<|Aa (wrap .u64 (↑y0:Int)) fun V9=>Aa (Jf .u64 V9 56) fun Rb=>Aa (ior .u64 Rj Rb) fun Zb=>Aj (call 134 [.pbox [.sc (.int .u64 y5),.sc (.int .u64 y6),.sc (.int .u64 y7),.sc (.int .u64 y8)],.sc (.int .u64 Zb)]) fun Za Wc=>Ac Za<|Ab Wc fun Wa Wt=>Ab Wa fun Xr Xi=>Ae .u64 Xr fun Ze=>Ab Xi fun Y8 Xz=>Ae .u64 Y8 fun AN=>Ab Xz fun AG Yd=>Ae .u64 AG fun Zq=>Ab Yd fun AJ Yz=>Ae .u64 AJ fun CJ=>Ac Yz<|Ac Wt<|Aa (Fg .u64 Zq 255) fun AB=>Aj (call 136 [.pbox [.sc (.int .u64 Ze),.sc (.int .u64 AN),.sc (.int .u64 AB),.sc (.int .u64 CJ)],.sc (.int .i64 4)]) fun AF DT=>Ac AF<|Ab DT fun AC Zn=>Ab AC fun Y5 Wd=>Ae .u64 Y5 fun AM=>Ab Wd fun DF AD=>Ae .u64 DF fun CW=>Ab AD fun AL CF=>Ae .u64 AL fun ET=>Ab CF fun Zu EQ=>Ae .u64 Zu fun IH=>Ac EQ<|Ac Zn<|Aa (Fg .u64 AM CW) fun AH=>Aa (Fg .u64 AH ET) fun GO=>Aa (Fg .u64 GO IH) fun JJ=>some (A4.mk [.sc (.int .u64 JJ)] []))):=by kernel_rfl
theorem Ad1 {xs:FuncId->Option (List PV->Option A4)} (fu d:Nat)(a0 a1:Int)(Mf:Nat)(a2:List PV):Ad (CX xs) prog fu (d+1) JC [.sc (.int .u64 a0),.sc (.int .u64 a1),.lst false 1 Mf a2]=(fun (call:Ah)=>Aa (Fg .u64 a0 8317987319222330741) fun x1=>Aa (Fg .u64 a1 7237128888997146477) fun x2=>Aa (Fg .u64 a0 7816392313619706465) fun x3=>Aa (Fg .u64 a1 8387220255154660723) fun x4=>Aa (wrap .i64 (Int.tdiv (↑Mf:Int) 8)) fun x5=>Mj fu call a0 a1 Mf a2 (fu) (Mf) (a2) x5 x5 0 x1 x2 x3 x4) (Ad (CX xs) prog fu d):=by kernel_rfl
abbrev V2:FuncId:=66
theorem XQ {xs:FuncId->Option (List PV->Option A4)} (fu d:Nat)(a0:Int)(Q9:Nat)(a1:List PV):Ad (CX xs) prog fu (d+1) V2 [.sc (.int .i64 a0),.lst false 1 Q9 a1]=(fun (call:Ah)=>Aa (wrap .u64 a0) fun x1=>Aj (call 109 [.sc (.int .u64 x1),.sc (.int .u64 0),.lst false 1 Q9 a1]) fun x2 x3=>Ac x3<|Ab x2 fun x4 x5=>Ae .u64 x4 fun x6=>Ac x5<|some (A4.mk [.sc (.int .u64 x6)] [])) (Ad (CX xs) prog fu d):=by kernel_rfl
abbrev LO:FuncId:=137
theorem Adp {xs:FuncId->Option (List PV->Option A4)} (fu d:Nat)(a0 a1:Int)(Mf:Nat)(a2:List PV):Ad (CX xs) prog fu (d+1) LO [.sc (.int .u64 a0),.sc (.int .i64 a1),.lst false 1 Mf a2]=(fun (call:Ah)=>Aa (wrap .u64 a1) fun x1=>Aa (wrap .u64 (1+x1)) fun x2=>Aj (call 109 [.sc (.int .u64 a0),.sc (.int .u64 x2),.lst false 1 Mf a2]) fun x3 x4=>Ac x4<|Ab x3 fun x5 x6=>Ae .u64 x5 fun x7=>Ac x6<|some (A4.mk [.sc (.int .u64 x7)] [])) (Ad (CX xs) prog fu d):=by kernel_rfl
abbrev S5:FuncId:=128
theorem IB {xs:FuncId->Option (List PV->Option A4)} (fu d:Nat)(a0 a1:Int):Ad (CX xs) prog fu (d+1) S5 [.sc (.int .u64 a0),.sc (.int .u64 a1)]=(fun (call:Ah)=>Aw (decide (0<=a1))<|Aa (Jf .u64 a0 a1) fun x1=>Aa (wrap .u64 (64-a1)) fun x2=>Aw (decide (0<=x2))<|Aa (Ft .u64 a0 x2) fun x3=>Aa (ior .u64 x1 x3) fun x4=>some (A4.mk [.sc (.int .u64 x4)] [])) (Ad (CX xs) prog fu d):=by kernel_rfl
abbrev R2:FuncId:=103
theorem FG {xs:FuncId->Option (List PV->Option A4)} (fu d:Nat)(Ag Ai:Int)(Ay Bv:Int):Ad (CX xs) prog fu (d+1) R2 [.agg [.sc (.int .u64 Ag),.sc (.int .u64 Ai),.sc (.int .u64 Ay),.sc (.int .u64 Bv)]]=(fun (call:Ah)=>Aa (wrap .u64 (Ag+Ai)) fun x1=>Aj (call 128 [.sc (.int .u64 Ai),.sc (.int .u64 13)]) fun x2 x3=>Ac x3<|Ab x2 fun x4 x5=>Ae .u64 x4 fun x6=>Ac x5<|Aa (Fg .u64 x6 x1) fun x7=>Aj (call 128 [.sc (.int .u64 x1),.sc (.int .u64 32)]) fun x8 x9=>Ac x9<|Ab x8 fun Cy C4=>Ae .u64 Cy fun D1=>Ac C4<|Aa (wrap .u64 (Ay+Bv)) fun Ed=>Aj (call 128 [.sc (.int .u64 Bv),.sc (.int .u64 16)]) fun Dn Eg=>Ac Eg<|Ab Dn fun Ez Fq=>Ae .u64 Ez fun F9=>Ac Fq<|Aa (Fg .u64 F9 Ed) fun Fp=>Aa (wrap .u64 (D1+Fp)) fun F2=>Aj (call 128 [.sc (.int .u64 Fp),.sc (.int .u64 21)]) fun Iw Hl=>Ac Hl<|Ab Iw fun H3 E5=>Ae .u64 H3 fun Ep=>Ac E5<|Aa (Fg .u64 Ep F2) fun G2=>Aa (wrap .u64 (Ed+x7)) fun I1=>Aj (call 128 [.sc (.int .u64 x7),.sc (.int .u64 17)]) fun Gs Ml=>Ac Ml<|Ab Gs fun L5 J6=>Ae .u64 L5 fun Le=>Ac J6<|Aa (Fg .u64 Le I1) fun Mc=>Aj (call 128 [.sc (.int .u64 I1),.sc (.int .u64 32)]) fun Nh Nw=>Ac Nw<|Ab Nh fun Qa Sb=>Ae .u64 Qa fun Ip=>Ac Sb<|some (A4.mk [.agg [.sc (.int .u64 F2),.sc (.int .u64 Mc),.sc (.int .u64 Ip),.sc (.int .u64 G2)]] [])) (Ad (CX xs) prog fu d):=by kernel_rfl
abbrev U7:FuncId:=61
noncomputable def Ht (fu:Nat)(call:Ah)(a0 a1:Int)(Mf:Nat)(a2:List PV)(nn y0:Nat)(y1:List PV)(y2:Int)(y3:List PV):Option A4:=Dd CB prog fu call 61 Tryz.f61 (B9 Tryz.f61) [.sc (.int .u64 a0),.sc (.int .u64 a1),.lst false 1 Mf a2] [.r,.r,.l,.r,.l] nn ⟨lk [(2,(.lst false 1 y0 y1)),(7,(.ptr 7 0)),(8,(.sc (.int .i64 y2)))],B7 [(7,(.ar false y3))]⟩
noncomputable def Gh (fu:Nat)(call:Ah)(a0 a1:Int)(Mf:Nat)(a2:List PV)(m0 nn y0:Nat)(y1:List PV)(y2 y3 y4:Int)(y5:List PV):Option A4:=Dd CB prog fu call 61 Tryz.f61 (B9 Tryz.f61) [.sc (.int .u64 a0),.sc (.int .u64 a1),.lst false 1 Mf a2] [.r,.r,.l,.r,.l,.i m0,.r,.l,.l,.r,.l,.r,.l] nn ⟨lk [(2,(.lst false 1 y0 y1)),(7,(.ptr 7 0)),(8,(.sc (.int .i64 y2))),(9,(.sc (.int .u64 y3))),(10,(.sc (.int .i64 y4)))],B7 [(7,(.ar false y5))]⟩
theorem Qt (fu:Nat)(call:Ah)(a0 a1:Int)(Mf:Nat)(a2:List PV)(nn y0:Nat)(y1:List PV)(y2:Int)(y3:List PV):Ht fu call a0 a1 Mf a2 (nn+1) y0 y1 y2 y3=(Bm (decide (y2<=(↑y0:Int))) (Gh fu call a0 a1 Mf a2 nn (fu) (y0) (y1) (y2) 0 7 (y3)) (Ae .u64 (List.getD y3 2 .top) fun x5=>Aa (Fg .u64 x5 255) fun x6=>Aw (decide (3<=y3.length))<|Aa (B4 y3 [.sc (.int .u64 x6)] 2) fun x7=>Ae .u64 (List.getD x7 0 .top) fun x8=>Ae .u64 (List.getD x7 1 .top) fun x9=>Ae .u64 (List.getD x7 2 .top) fun Cy=>Ae .u64 (List.getD x7 3 .top) fun C4=>Aj (call 103 [.agg [.sc (.int .u64 x8),.sc (.int .u64 x9),.sc (.int .u64 Cy),.sc (.int .u64 C4)]]) fun D1 Ed=>Ac Ed<|Ab D1 fun Dn Eg=>Ef Dn fun Ez=>Ab Ez fun Fq F9=>Ae .u64 Fq fun Fp=>Ab F9 fun F2 Iw=>Ae .u64 F2 fun Hl=>Ab Iw fun H3 E5=>Ae .u64 H3 fun Ep=>Ab E5 fun G2 I1=>Ae .u64 G2 fun Gs=>Ac I1<|Ac Eg<|Aj (call 103 [.agg [.sc (.int .u64 Fp),.sc (.int .u64 Hl),.sc (.int .u64 Ep),.sc (.int .u64 Gs)]]) fun Ml L5=>Ac L5<|Ab Ml fun J6 Le=>Ef J6 fun Mc=>Ab Mc fun Nh Nw=>Ae .u64 Nh fun Qa=>Ab Nw fun Sb Ip=>Ae .u64 Sb fun Lf=>Ab Ip fun Rj V9=>Ae .u64 Rj fun Rb=>Ab V9 fun Zb Za=>Ae .u64 Zb fun Wc=>Ac Za<|Ac Le<|Aj (call 103 [.agg [.sc (.int .u64 Qa),.sc (.int .u64 Lf),.sc (.int .u64 Rb),.sc (.int .u64 Wc)]]) fun Wa Wt=>Ac Wt<|Ab Wa fun Xr Xi=>Ef Xr fun Ze=>Ab Ze fun Y8 Xz=>Ae .u64 Y8 fun AN=>Ab Xz fun AG Yd=>Ae .u64 AG fun Zq=>Ab Yd fun AJ Yz=>Ae .u64 AJ fun CJ=>Ab Yz fun AB AF=>Ae .u64 AB fun DT=>Ac AF<|Ac Xi<|Aj (call 103 [.agg [.sc (.int .u64 AN),.sc (.int .u64 Zq),.sc (.int .u64 CJ),.sc (.int .u64 DT)]]) fun AC Zn=>Ac Zn<|Ab AC fun Y5 Wd=>Ef Y5 fun AM=>Ab AM fun DF AD=>Ae .u64 DF fun CW=>Ab AD fun AL CF=>Ae .u64 AL fun ET=>Ab CF fun Zu EQ=>Ae .u64 Zu fun IH=>Ab EQ fun AH GO=>Ae .u64 AH fun JJ=>Ac GO<|Ac Wd<|Aw (decide (4<=x7.length))<|Aa (B4 x7 [.sc (.int .u64 CW),.sc (.int .u64 ET),.sc (.int .u64 IH),.sc (.int .u64 JJ)] 0) fun GB=>Ae .u64 (List.getD GB 0 .top) fun JS=>Ae .u64 (List.getD GB 1 .top) fun PD=>Aa (Fg .u64 JS PD) fun XF=>Ae .u64 (List.getD GB 2 .top) fun OV=>Aa (Fg .u64 XF OV) fun UA=>Ae .u64 (List.getD GB 3 .top) fun SF=>Aa (Fg .u64 UA SF) fun RC=>some (A4.mk [.sc (.int .u64 RC)] []))):=by kernel_rfl
theorem Qy (fu:Nat)(call:Ah)(a0 a1:Int)(Mf:Nat)(a2:List PV)(m0 nn y0:Nat)(y1:List PV)(y2 y3 y4:Int)(y5:List PV):Gh fu call a0 a1 Mf a2 m0 (nn+1) y0 y1 y2 y3 y4 y5=(Bm (decide (y4>=0)) (Aa (wrap .i64 (y2+y4)) fun QT=>Bm (decide (QT<(↑y0:Int))) (Aa (wrap .i64 (y2+y4)) fun IG=>Aw (decide (0<=IG)&&decide (IG<(↑y0:Int)))<|Ae .u8 (List.getD y1 (Int.toNat IG*1) .top) fun RP=>Aa (Jf .u64 y3 8) fun QY=>Aa (wrap .u64 RP) fun YW=>Aa (ior .u64 QY YW) fun LX=>Aa (wrap .i64 (y4-1)) fun XG=>Gh fu call a0 a1 Mf a2 m0 (nn) (y0) (y1) (y2) LX XG (y5)) (Bm (y4==7) (Aa (wrap .u8 (↑y0:Int)) fun x95=>Aa (Jf .u64 y3 8) fun YG=>Aa (wrap .u64 x95) fun ND=>Aa (ior .u64 YG ND) fun LU=>Aa (wrap .i64 (y4-1)) fun XD=>Gh fu call a0 a1 Mf a2 m0 (nn) (y0) (y1) (y2) LU XD (y5)) (Aa (Jf .u64 y3 8) fun Vs=>Aa (ior .u64 Vs 0) fun Vt=>Aa (wrap .i64 (y4-1)) fun Jg=>Gh fu call a0 a1 Mf a2 m0 (nn) (y0) (y1) (y2) Vt Jg (y5)))) (Ae .u64 (List.getD y5 3 .top) fun Lm=>Aa (Fg .u64 Lm y3) fun Uk=>Aw (decide (4<=y5.length))<|Aa (B4 y5 [.sc (.int .u64 Uk)] 3) fun Tb=>Ae .u64 (List.getD Tb 0 .top) fun Sh=>Ae .u64 (List.getD Tb 1 .top) fun Nt=>Ae .u64 (List.getD Tb 2 .top) fun X7=>Ae .u64 (List.getD Tb 3 .top) fun Z8=>Aj (call 103 [.agg [.sc (.int .u64 Sh),.sc (.int .u64 Nt),.sc (.int .u64 X7),.sc (.int .u64 Z8)]]) fun DB CV=>Ac CV<|Ab DB fun I8 Mt=>Ef I8 fun EP=>Ab EP fun EO Yj=>Ae .u64 EO fun EJ=>Ab Yj fun FH BQ=>Ae .u64 FH fun EK=>Ab BQ fun ES AO=>Ae .u64 ES fun BV=>Ab AO fun CZ FD=>Ae .u64 CZ fun CL=>Ac FD<|Ac Mt<|Aj (call 103 [.agg [.sc (.int .u64 EJ),.sc (.int .u64 EK),.sc (.int .u64 BV),.sc (.int .u64 CL)]]) fun HR RH=>Ac RH<|Ab HR fun MH EN=>Ef MH fun ZC=>Ab ZC fun QS TZ=>Ae .u64 QS fun NM=>Ab TZ fun YA WV=>Ae .u64 YA fun YZ=>Ab WV fun ZD UP=>Ae .u64 ZD fun UE=>Ab UP fun UI WA=>Ae .u64 UI fun TY=>Ac WA<|Ac EN<|Aw (decide (4<=Tb.length))<|Aa (B4 Tb [.sc (.int .u64 NM),.sc (.int .u64 YZ),.sc (.int .u64 UE),.sc (.int .u64 TY)] 0) fun MT=>Ae .u64 (List.getD MT 0 .top) fun QJ=>Aa (Fg .u64 QJ y3) fun VE=>Aw (decide (1<=MT.length))<|Aa (B4 MT [.sc (.int .u64 VE)] 0) fun TQ=>Aa (wrap .i64 (y2+8)) fun WX=>Ht fu call a0 a1 Mf a2 (m0) (y0) (y1) WX TQ)):=by kernel_rfl
theorem IZ {xs:FuncId->Option (List PV->Option A4)} (fu d:Nat)(a0 a1:Int)(Mf:Nat)(a2:List PV):Ad (CX xs) prog fu (d+1) U7 [.sc (.int .u64 a0),.sc (.int .u64 a1),.lst false 1 Mf a2]=(fun (call:Ah)=>Aa (Fg .u64 a0 8317987319222330741) fun x1=>Aa (Fg .u64 a1 7237128888997146477) fun x2=>Aa (Fg .u64 a0 7816392313619706465) fun x3=>Aa (Fg .u64 a1 8387220255154660723) fun x4=>Ht fu call a0 a1 Mf a2 (fu) (Mf) (a2) 0 ([.sc (.int .u64 x1),.sc (.int .u64 x2),.sc (.int .u64 x3),.sc (.int .u64 x4)])) (Ad (CX xs) prog fu d):=by kernel_rfl
abbrev Mv:FuncId:=33
theorem GA {xs:FuncId->Option (List PV->Option A4)} (fu d:Nat)(a0:Int)(Q9:Nat)(a1:List PV):Ad (CX xs) prog fu (d+1) Mv [.sc (.int .i64 a0),.lst false 1 Q9 a1]=(fun (call:Ah)=>Aa (wrap .u64 a0) fun x1=>Aj (call 61 [.sc (.int .u64 x1),.sc (.int .u64 0),.lst false 1 Q9 a1]) fun x2 x3=>Ac x3<|Ab x2 fun x4 x5=>Ae .u64 x4 fun x6=>Ac x5<|some (A4.mk [.sc (.int .u64 x6)] [])) (Ad (CX xs) prog fu d):=by kernel_rfl
abbrev Vi:FuncId:=85
theorem JX {xs:FuncId->Option (List PV->Option A4)} (fu d:Nat)(a0 a1:Int)(Mf:Nat)(a2:List PV):Ad (CX xs) prog fu (d+1) Vi [.sc (.int .u64 a0),.sc (.int .i64 a1),.lst false 1 Mf a2]=(fun (call:Ah)=>Aa (wrap .u64 a1) fun x1=>Aa (wrap .u64 (1+x1)) fun x2=>Aj (call 61 [.sc (.int .u64 a0),.sc (.int .u64 x2),.lst false 1 Mf a2]) fun x3 x4=>Ac x4<|Ab x3 fun x5 x6=>Ae .u64 x5 fun x7=>Ac x6<|some (A4.mk [.sc (.int .u64 x7)] [])) (Ad (CX xs) prog fu d):=by kernel_rfl
abbrev F0:FuncId:=79
noncomputable def Gt (fu:Nat)(call:Ah)(Bq:Nat)(a0:List PV)(nn y0:Nat)(y1:List PV)(y2:Nat)(y3:Int)(y4:List PV):Option A4:=Dd CB prog fu call 79 Tryz.f79 (B9 Tryz.f79) [.lst false 1 Bq a0] [.r,.r,.l,.r,.l] nn ⟨lk [(0,(.lst false 1 y0 y1)),(3,(.view 3 1 0 y2)),(4,(.sc (.int .i64 y3)))],B7 [(3,(.ar false y4))]⟩
noncomputable def Ic (fu:Nat)(call:Ah)(Bq:Nat)(a0:List PV)(m0 nn y0:Nat)(y1:List PV)(y2:Nat)(y3 y4:Int)(y5:List PV):Option A4:=Dd CB prog fu call 79 Tryz.f79 (B9 Tryz.f79) [.lst false 1 Bq a0] [.r,.r,.l,.r,.l,.i m0,.r,.l,.l,.r,.l] nn ⟨lk [(0,(.lst false 1 y0 y1)),(3,(.view 3 1 0 y2)),(4,(.sc (.int .i64 y3))),(5,(.sc (.int .i64 y4)))],B7 [(3,(.ar false y5))]⟩
theorem Ok (fu:Nat)(call:Ah)(Bq:Nat)(a0:List PV)(nn y0:Nat)(y1:List PV)(y2:Nat)(y3:Int)(y4:List PV):Gt fu call Bq a0 (nn+1) y0 y1 y2 y3 y4=(Bm (decide (y3<(↑y0:Int))) (Ic fu call Bq a0 nn (fu) (y0) (y1) (y2) (y3) 7 (y4)) (Aw (decide (y2*1<=y4.length))<|some (A4.mk [.own 1 y2 (List.take (y2*1) y4)] []))):=by kernel_rfl
theorem Nz (fu:Nat)(call:Ah)(Bq:Nat)(a0:List PV)(m0 nn y0:Nat)(y1:List PV)(y2:Nat)(y3 y4:Int)(y5:List PV):Ic fu call Bq a0 m0 (nn+1) y0 y1 y2 y3 y4 y5=(Bm (decide (y4>=0)) (Aw (decide (0<=y3)&&decide (y3<(↑y0:Int)))<|Ae .u64 (List.getD y1 (Int.toNat y3*1) .top) fun x1=>Aa (wrap .i64 (8*y4)) fun x2=>Aa (wrap .u64 x2) fun x3=>Aw (decide (0<=x3))<|Aa (Ft .u64 x1 x3) fun x4=>Aa (wrap .u8 x4) fun x5=>Aw (decide (y2*1<=y5.length)&&true&&decide ((y2+1)*1<=1099511627776)&&decide (y2+1<=1099511627776))<|Aa (y2+1) fun x6=>Aa (List.take (y2*1) y5++[.sc (.int .u8 x5)]) fun x7=>Aa (wrap .i64 (y4-1)) fun x8=>Ic fu call Bq a0 m0 (nn) (y0) (y1) x6 (y3) x8 x7) (Aa (wrap .i64 (y3+1)) fun x9=>Gt fu call Bq a0 (m0) (y0) (y1) (y2) x9 (y5))):=by kernel_rfl
theorem EM {xs:FuncId->Option (List PV->Option A4)} (fu d Bq:Nat)(a0:List PV):Ad (CX xs) prog fu (d+1) F0 [.lst false 1 Bq a0]=(fun (call:Ah)=>Gt fu call Bq a0 (fu) (Bq) (a0) 0 0 ([])) (Ad (CX xs) prog fu d):=by kernel_rfl
end
section
open Go.IntKind (wrap)
def rot (x k:Int):Int:=ior .u64 (Jf .u64 x k) (Ft .u64 x (64-k))
structure W4 where
 a:Int
 b:Int
 c:Int
 d:Int
def W4.cells (v:W4):List PV:=[.sc (.int .u64 v.a),.sc (.int .u64 v.b),.sc (.int .u64 v.c),.sc (.int .u64 v.d)]
def Bbw (v:W4):W4:=⟨rot (wrap .u64 (v.a+v.b)) 32,Fg .u64 (rot v.b 13) (wrap .u64 (v.a+v.b)),wrap .u64 (v.c+v.d),Fg .u64 (rot v.d 16) (wrap .u64 (v.c+v.d))⟩
def A90 (v:W4):W4:=⟨wrap .u64 (v.a+v.d),Fg .u64 (rot v.b 17) (wrap .u64 (v.c+v.b)),rot (wrap .u64 (v.c+v.b)) 32,Fg .u64 (rot v.d 21) (wrap .u64 (v.a+v.d))⟩
def XC (v:W4):W4:=A90 (Bbw v)
def Aix:Nat->W4->W4
 |0,v=>v
 |n+1,v=>Aix n (XC v)
def A7j (r:W4)(m:Int):W4:=⟨Fg .u64 r.a m,r.b,r.c,r.d⟩
def Xc (v:W4)(m:Int):W4:=A7j (Aix 2 ⟨v.a,v.b,v.c,Fg .u64 v.d m⟩) m
def Wv:List Int->Int
 |[]=>0
 |b::r=>b+256*Wv r
def XU:Nat->W4->List Int->W4
 |0,v,_=>v
 |n+1,v,l=>XU n (Xc v (Wv (l.take 8))) (l.drop 8)
def A13 (k0 k1:Int):W4:=⟨Fg .u64 k0 8317987319222330741,Fg .u64 k1 7237128888997146477,Fg .u64 k0 7816392313619706465,Fg .u64 k1 8387220255154660723⟩
def Aob (v:W4):W4:=Aix 4 ⟨v.a,v.b,Fg .u64 v.c 255,v.d⟩
def Anu (v:W4):Int:=Fg .u64 (Fg .u64 (Fg .u64 v.a v.b) v.c) v.d
def Rk (l:List Int):Int:=Wv (l.drop (8*(l.length / 8)))+72057594037927936*((l.length:Int) % 256)
def Aw4 (k0 k1:Int)(l:List Int):Int:=Anu (Aob (Xc (XU (l.length / 8) (A13 k0 k1) l) (Rk l)))
def Rm (dom:Int)(l:List Int):Int:=Aw4 (wrap .u64 dom) 0 l
def Ayg (key dom:Int)(l:List Int):Int:=Aw4 key (wrap .u64 (1+wrap .u64 dom)) l
def M3 (l:List Int):Prop:=∀b∈l,0<=b∧b<=255
theorem Yk:∀{l:List Int},M3 l->0<=Wv l∧Wv l<256 ^ l.length
 |[],_=>by simp[Wv]
 |b::r,h=>by
  have h1:=h b (by simp)
  have h2:=Yk (l:=r) fun x hx=>h x (by simp[hx])
  have h3:(256:Int) ^ (b::r).length=256 ^ r.length*256:=by rw[H5,Int.pow_succ]
  simp only[Wv];omega
theorem GY:∀(l r:List Int),Wv (l++r)=Wv l+256 ^ l.length*Wv r
 |[],r=>by simp[Wv]
 |b::l,r=>by
  have ih:=GY l r;simp only[Zzp,Wv,H5,Int.pow_succ];rw[ih,Int.mul_add];have:(256:Int)*(256 ^ l.length*Wv r)=256 ^ l.length*256*Wv r:=by rw[←Int.mul_assoc,Int.mul_comm 256]
  omega
theorem Acf {a c:Int}(k b:Nat)(h0:0<=a)(h1:a<((2 ^ k:Nat):Int)) (hc:c=((b*2 ^ k:Nat):Int)) (h:a+c<=18446744073709551615):ior .u64 a c=a+c∧ior .u64 c a=a+c:=by
 obtain⟨n,rfl⟩:=Int.eq_ofNat_of_zero_le h0;subst hc;have hn:n<2 ^ k:=by omega
 generalize hB:b*2 ^ k=m at h
 have e4:(BitVec.ofInt 64 (n:Int)).toNat=n:=by
  rw[BitVec.toNat_ofInt];omega
 have e5:(BitVec.ofInt 64 (m:Int)).toNat=m:=by
  rw[BitVec.toNat_ofInt];omega
 have e6:m ||| n=m+n:=by
  have:=Nat.shiftLeft_add_eq_or_of_lt hn b;rw[Nat.shiftLeft_eq,hB] at this;exact this.symm
 constructor
 ·show wrap .u64 ((BitVec.ofInt 64 (n:Int) ||| BitVec.ofInt 64 (m:Int)).toNat:Int)=_;rw[BitVec.toNat_or,e4,e5,Nat.or_comm,e6,C3 (by omega) (by omega)]
  omega
 ·show wrap .u64 ((BitVec.ofInt 64 (m:Int) ||| BitVec.ofInt 64 (n:Int)).toNat:Int)=_;rw[BitVec.toNat_or,e4,e5,e6,C3 (by omega) (by omega)]
  omega
theorem Alk {a k:Int}(h0:0<=a)(hk:0<=k)(J4:k<=64)(h:a*((2 ^ k.toNat:Nat):Int)<=18446744073709551615):Jf .u64 a k=a*((2 ^ k.toNat:Nat):Int):=by
 show wrap .u64 (a*2 ^ (min k.toNat IntKind.u64.bits))=_;have e:min k.toNat IntKind.u64.bits=k.toNat:=Nat.min_eq_left (by show k.toNat<=64;omega)
 have e2:(2:Int) ^ k.toNat=((2 ^ k.toNat:Nat):Int):=by simp
 rw[e,e2,C3 (Int.mul_nonneg h0 (Int.natCast_nonneg _)) h]
end
end Go.Proofs.YtpogefhpiaaliaaGreatDoor.Pv
