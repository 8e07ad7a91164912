/-
  The proof of AttestationModels, part 3 (texts PvX4 PvX5 PvO Al GnA Dg0).
-/
import Derived.Test.YtgfgmbpmghgbkaaGreatDoorMB
import Derived.StillTail
import Derived.WalkKit
import Derived.ProofKit
import Derived.OpenShut
import Derived.ShutString
import Derived.ChangeOld
import Derived.Below
import Derived.Deep.Slices
import Derived.ChangeSame
import Derived.WideKeyArgs
import Derived.Carry
import Derived.Test.YtgfgmbpmghgbkaaGreatDoorRows
set_option linter.unusedSimpArgs false
set_option linter.unusedVariables false
namespace Go.Proofs.YtgfgmbpmghgbkaaGreatDoor.Pv
section
section
variable {R R':Type} {Rel:Option R->Option R'->Prop}
theorem Jk (hn:Rel none none){k:IntKind}{p:PV}{K:Int->Option R}{K':Int->Option R'}(hK:∀n,Rel (K n) (K' n)):Rel (Af k p K) (Af k p K'):=by
 unfold Af;split
 ·split<;>first|exact hK _|exact hn
 ·exact hn
theorem Eu (hn:Rel none none){p:PV}{K:IntKind->Int->Option R}{K':IntKind->Int->Option R'}(hK:∀k n,Rel (K k n) (K' k n)):Rel (Ec p K) (Ec p K'):=by
 unfold Ec;split<;>first|exact hK _ _|exact hn
theorem Hx (hn:Rel none none){p:PV}{K:Bool->Option R}{K':Bool->Option R'}(hK:∀n,Rel (K n) (K' n)):Rel (Bz p K) (Bz p K'):=by
 unfold Bz;split<;>first|exact hK _|exact hn
theorem Hh (hn:Rel none none){p:PV}{K:ByteArray->Option R}{K':ByteArray->Option R'}(hK:∀n,Rel (K n) (K' n)):Rel (Cn p K) (Cn p K'):=by
 unfold Cn;split<;>first|exact hK _|exact hn
theorem Gw (hn:Rel none none){es:Nat}{p:PV}{K:Bool->Nat->List PV->Option R}{K':Bool->Nat->List PV->Option R'}(hK:∀z n c,Rel (K z n c) (K' z n c)):Rel (Ih es p K) (Ih es p K'):=by
 unfold Ih;split
 ·rename_i es' _ _;cases Nat.beq es' es
  ·exact hn
  ·exact hK _ _ _
 ·exact hK _ _ _
 ·exact hn
theorem A3v (hn:Rel none none){es:Nat}{p:PV}{K:PV->Option R}{K':PV->Option R'}(hK:∀p,Rel (K p) (K' p)):Rel (fsK es p K) (fsK es p K'):=by
 unfold fsK;split
 ·rename_i es' _ _;cases Nat.beq es' es
  ·exact hn
  ·exact hK _
 ·exact Gw hn fun _ _ _=>hK _
theorem Avv (hn:Rel none none){es:Nat}{p:PV}{K:Nat->List PV->Option R}{K':Nat->List PV->Option R'}(hK:∀n c,Rel (K n c) (K' n c)):Rel (Dk es p K) (Dk es p K'):=by
 unfold Dk;split
 ·rename_i es' _ _;cases Nat.beq es' es
  ·exact hn
  ·exact hK _ _
 ·exact hn
theorem Bi (hn:Rel none none){b:Bool}{K:Option R}{K':Option R'}(hK:b=true->Rel K K'):Rel (Aq b K) (Aq b K'):=by
 cases b
 ·exact hn
 ·exact hK rfl
theorem Ah2 {b:Bool}{x y:Option R}{x' y':Option R'}(hx:Rel x x')(hy:Rel y y'):Rel (A4 b x y) (A4 b x' y'):=by
 cases b
 ·exact hy
 ·exact hx
theorem Ei (hn:Rel none none){α:Type}{o:Option α}{K:α->Option R}{K':α->Option R'}(hK:∀a,o=some a->Rel (K a) (K' a)):Rel (Ez o K) (Ez o K'):=by
 cases o
 ·exact hn
 ·exact hK _ rfl
theorem B7 (hn:Rel none none){α:Type}{l:List α}{K:α->List α->Option R}{K':α->List α->Option R'}(hK:∀a r,l=a::r->Rel (K a r) (K' a r)):Rel (Ab l K) (Ab l K'):=by
 cases l
 ·exact hn
 ·exact hK _ _ rfl
theorem F5 (hn:Rel none none){α:Type}{l:List α}{K:Option R}{K':Option R'}(hK:Rel K K'):Rel (Ac l K) (Ac l K'):=by
 cases l
 ·exact hK
 ·exact hn
theorem Lh (hn:Rel none none){p:PV}{K:List PV->Option R}{K':List PV->Option R'}(hK:∀c,p=.agg c->Rel (K c) (K' c)):Rel (Cu p K) (Cu p K'):=by
 unfold Cu;split
 ·exact hK _ rfl
 ·exact hn
theorem Ax0 (hn:Rel none none){p:PV}{K:List PV->Option R}{K':List PV->Option R'}(hK:∀c,Rel (K c) (K' c)):Rel (Adn p K) (Adn p K'):=by
 unfold Adn;split
 ·exact hK _
 ·exact hn
theorem Anj (hn:Rel none none){r:Option Ay}{K:List PV->List (List PV)->Option R} {K':List PV->List (List PV)->Option R'} (hK:∀v o,Rel (K v o) (K' v o)):Rel (Ag r K) (Ag r K'):=by
 unfold Ag;split
 ·exact hK _ _
 ·exact hn
theorem Avi (hn:Rel none none){p:PV}{K:Value->Option R}{K':Value->Option R'}(hK:∀v,Rel (K v) (K' v)):Rel (fnK p K) (fnK p K'):=by
 unfold fnK;split
 ·exact hK _
 ·exact hn
theorem A5m (hn:Rel none none){p:PV}{K:FuncId->Option R}{K':FuncId->Option R'}(hK:∀v,Rel (K v) (K' v)):Rel (fvK p K) (fvK p K'):=by
 unfold fvK;split
 ·rename_i f a b;cases (a.isEmpty&&b.isEmpty)
  ·exact hn
  ·exact hK _
 ·exact hn
theorem R8 (hn:Rel none none){t:CT}{p:PV}{K:PV->Option R}{K':PV->Option R'}(hK:∀p,Rel (K p) (K' p)):Rel (tcK t p K) (tcK t p K'):=by
 unfold tcK;split
 ·exact Jk hn fun _=>hK _
 ·exact Hx hn fun _=>hK _
 ·exact Hh hn fun _=>hK _
 ·exact Gw hn fun _ _ _=>hK _
 ·exact Avi hn fun _=>hK _
theorem A5f (hn:Rel none none){t:CT}{p:PV}{K:PV->Option R}{K':PV->Option R'}(hK:∀p,Rel (K p) (K' p)):Rel (fcK t p K) (fcK t p K'):=by
 unfold fcK;split
 ·exact A3v hn hK
 ·exact R8 hn hK
theorem Uo (hn:Rel none none):∀{ts:List CT}{cells:List PV}{off:Nat}{K:List PV->Option R}{K':List PV->Option R'},(∀c,Rel (K c) (K' c))->Rel (Xy ts cells off K) (Xy ts cells off K')
 |[],_,_,_,_,hK=>hK _
 |_::_,_,_,_,_,hK=>R8 hn fun _=>Uo hn fun _=>hK _
theorem Qw (hn:Rel none none):∀{ts:List CT}{cells:List PV}{off:Nat}{K:List PV->Option R}{K':List PV->Option R'},(∀c,Rel (K c) (K' c))->Rel (Sr ts cells off K) (Sr ts cells off K')
 |[],_,_,_,_,hK=>hK _
 |_::_,_,_,_,_,hK=>A5f hn fun _=>Qw hn fun _=>hK _
theorem Adj (hn:Rel none none){g:Bool}{cells:List PV}{K:PV->Option R}{K':PV->Option R'}(hK:∀p,Rel (K p) (K' p)):Rel (mkV g cells K) (mkV g cells K'):=by
 cases g
 ·exact B7 hn fun _ _ _=>F5 hn (hK _)
 ·exact hK _
theorem A3z (hn:Rel none none){P:Program}{t:TypeId}{v:Value}{K:PV->Option R}{K':PV->Option R'}(hK:∀p,Cs p=[]->Rel (K p) (K' p)) (hK':∀c,Rel (K (.agg c)) (K' (.agg c))):Rel (cvK P t v K) (cvK P t v K'):=by
 unfold cvK;split
 ·exact Bi hn fun _=>Uo hn fun _=>hK' _
 ·split
  ·exact hK _ rfl
  ·exact hn
 ·exact hK _ rfl
theorem A2v (hn:Rel none none){op:BinOp}{x y:Int}{K:Bool->Option R}{K':Bool->Option R'}(hK:∀n,Rel (K n) (K' n)):Rel (A4l op x y K) (A4l op x y K'):=by
 unfold A4l;split<;>first|exact hK _|exact hn
theorem As0 (hn:Rel none none){op:BinOp}{k:IntKind}{x y:Int}{K:PV->Option R}{K':PV->Option R'}(hK:∀n,Rel (K n) (K' n)):Rel (Aka op k x y K) (Aka op k x y K'):=by
 unfold Aka;split<;>first|exact hK _|exact Bi hn fun _=>hK _|exact A2v hn fun _=>hK _
theorem Ati (hn:Rel none none){op:BinOp}{x y:ByteArray}{K:PV->Option R}{K':PV->Option R'}(hK:∀n,Rel (K n) (K' n)):Rel (Aid op x y K) (Aid op x y K'):=by
 unfold Aid;split<;>first|exact hK _|exact Bi hn fun _=>hK _|exact hn
theorem Amt (hn:Rel none none){e:Bool}{p:PV}{K:PV->Option R}{K':PV->Option R'}(hK:∀n,Rel (K n) (K' n)):Rel (Ak0 e p K) (Ak0 e p K'):=by
 unfold Ak0;split<;>first|exact hK _|exact Ah2 (hK _) (Ah2 (hK _) (hK _))|exact Ah2 (hK _) (hK _)|exact hn
theorem Asc (hn:Rel none none):∀{ts:List CT}{ps qs:List PV}{K:Bool->Option R}{K':Bool->Option R'},(∀b,Rel (K b) (K' b))->Rel (Aku ts ps qs K) (Aku ts ps qs K'):=by
 intro ts
 induction ts with
 |nil=>
  intro ps qs K K' hK;cases ps<;>cases qs<;>first|exact hK _|exact hn
 |cons t ts ih=>
  intro ps qs K K' hK;cases ps with
  |nil=>cases t<;>cases qs<;>exact hn
  |cons p ps=>
   cases qs with
   |nil=>cases t<;>exact hn
   |cons q qs=>
    cases t
    ·exact Jk hn fun _=>Jk hn fun _=>ih fun _=>hK _
    ·exact Hx hn fun _=>Hx hn fun _=>ih fun _=>hK _
    ·exact Hh hn fun _=>Hh hn fun _=>ih fun _=>hK _
    ·exact hn
    ·exact hn
theorem A03 (hn:Rel none none){P:Program}{op:BinOp}{t:TypeId}{x y:PV}{K:PV->Option R}{K':PV->Option R'}(hK:∀p,Rel (K p) (K' p)):Rel (A08 P op t x y K) (A08 P op t x y K'):=by
 unfold A08;split
 ·split
  ·exact Jk hn fun _=>Eu hn fun _ _=>Bi hn fun _=>hK _
  ·exact Jk hn fun _=>Eu hn fun _ _=>Bi hn fun _=>hK _
  ·exact Jk hn fun _=>Jk hn fun _=>As0 hn hK
 ·exact Hh hn fun _=>Hh hn fun _=>Ati hn hK
 ·split
  ·exact Hx hn fun _=>Hx hn fun _=>hK _
  ·exact Hx hn fun _=>Hx hn fun _=>hK _
  ·exact hn
 ·split
  ·exact Amt hn fun _=>hK _
  ·exact Amt hn fun _=>hK _
  ·exact hn
 ·exact hn
theorem Asj (hn:Rel none none){P:Program}{op:BinOp}{t:TypeId}{x y:PV}{K:PV->Option R}{K':PV->Option R'}(hK:∀p,Rel (K p) (K' p)):Rel (Y2 P op t x y K) (Y2 P op t x y K'):=by
 unfold Y2;split
 ·split
  ·exact Bi hn fun _=>Lh hn fun _ _=>Lh hn fun _ _=>Asc hn fun _=>hK _
  ·exact Bi hn fun _=>Lh hn fun _ _=>Lh hn fun _ _=>Asc hn fun _=>hK _
  ·exact hn
 ·exact A03 hn hK
theorem A4k (hn:Rel none none){op:UnOp}{x:PV}{K:PV->Option R}{K':PV->Option R'}(hK:∀p,Rel (K p) (K' p)):Rel (unK op x K) (unK op x K'):=by
 unfold unK;split<;>first|exact Hx hn fun _=>hK _|exact Eu hn fun _ _=>hK _|exact hn
theorem Ip (hn:Rel none none){p:Option PV}{d:Nat}{K:Nat->Option R}{K':Nat->Option R'}(hK:∀n,Rel (K n) (K' n)):Rel (Od p d K) (Od p d K'):=by
 unfold Od;split
 ·exact hK _
 ·exact Eu hn fun _ _=>Bi hn fun _=>hK _
theorem Ae5 (hn:Rel none none){x:PV}{d:Nat}{K:PV->Option R}{K':PV->Option R'}(hK:∀n,Rel (K n) (K' n)):Rel (X1 x d K) (X1 x d K'):=by
 unfold X1;split<;>first|exact hK _|exact hn
theorem Akl (hn:Rel none none){P:Program}{t:TypeId}{x:PV}{i:Int}{K:PV->Option R}{K':PV->Option R'}(hK:∀p,Rel (K p) (K' p)):Rel (M2 P t x i K) (M2 P t x i K'):=by
 unfold M2;split
 ·exact Bi hn fun _=>Bi hn fun _=>Ae5 hn hK
 ·refine Bi hn fun _=>?_
  split
  ·exact Bi hn fun _=>Bi hn fun _=>hK _
  ·exact Gw hn fun _ _ _=>Bi hn fun _=>hK _
 ·exact hn
theorem Afb (hn:Rel none none){H8:Nat->Option (Nat × Nat)}:∀{ps:List (Nat × PV)} {cells:List PV}{K:List PV->Option R}{K':List PV->Option R'},(∀c,Rel (K c) (K' c))->Rel (X6 H8 ps cells K) (X6 H8 ps cells K')
 |[],_,_,_,hK=>hK _
 |(_,_)::_,_,_,_,hK=>Ei hn fun _ _=>Bi hn fun _=>Afb hn hK
theorem Xx (hn:Rel none none){P:Program}{t:TypeId}{K:List PV->Option R}{K':List PV->Option R'}(hK:∀p,Rel (K p) (K' p)):Rel (Ia P t K) (Ia P t K'):=
 Ei hn fun _ _=>Bi hn fun _=>Uo hn hK
theorem Azv (hn:Rel none none){x y:PV}{K:PV->Option R}{K':PV->Option R'}(hK:∀p,Rel (K p) (K' p)):Rel (A4b x y K) (A4b x y K'):=
 Eu hn fun _ _=>Jk hn fun _=>hK _
theorem A18 (hn:Rel none none){x y:PV}{K:PV->Option R}{K':PV->Option R'}(hK:∀p,Rel (K p) (K' p)):Rel (A5c x y K) (A5c x y K'):=
 Eu hn fun _ _=>Jk hn fun _=>hK _
theorem A26 (hn:Rel none none){P:Program}{t:TypeId}{x:PV}{K:Nat->Option R}{K':Nat->Option R'}(hK:∀p,Rel (K p) (K' p)):Rel (Awx P t x K) (Awx P t x K'):=by
 unfold Awx;split
 ·exact Hh hn fun _=>hK _
 ·exact hK _
 ·split
  ·exact Bi hn fun _=>hK _
  ·exact Gw hn fun _ _ _=>hK _
 ·exact hn
def Agr (Rel:Option R->Option R'->Prop)(f f':Nat->Option (List PV)) (l:List Nat):Prop:=∀i∈l,f i=f' i∨(f i=none∧∀b,Rel none b)
variable {f f':Nat->Option (List PV)}
theorem Agr.sub {l l':List Nat}(h:Agr Rel f f' l)(hs:∀i∈l',i∈l):Agr Rel f f' l':=fun i hi=>h i (hs i hi)
theorem Acv (hn:Rel none none){l:List Nat}{id:Nat}(hf:Agr Rel f f' l)(hi:id∈l){K:List PV->Option R}{K':List PV->Option R'}(hK:∀c,f id=some c->Rel (K c) (K' c)):Rel (Ez (f id) K) (Ez (f' id) K'):=by
 rcases hf id hi with h|⟨h,hb⟩
 ·rw [←h];exact Ei hn hK
 ·rw [h];exact hb _
theorem Ado (hn:Rel none none){es:Nat}{p:PV}{K:Nat->List PV->Option R}{K':Nat->List PV->Option R'}(hf:Agr Rel f f' (Bd p)) (hK:∀n c,Rel (K n c) (K' n c)):Rel (Aty f es p K) (Aty f' es p K'):=by
 unfold Aty;split
 ·rename_i id es' off n;cases Nat.beq es' es
  ·exact hn
  ·exact Acv hn hf (by simp [Bd]) fun _ _=>Bi hn fun _=>hK _ _
 ·exact Gw hn fun _ _ _=>hK _ _
theorem A1j (hn:Rel none none){t:CT}{p:PV}{K:PV->List Nat->Option R}{K':PV->List Nat->Option R'}(hf:Agr Rel f f' (Bd p)) (hK:∀c m,(∀i∈m,f i≠none)->Rel (K c m) (K' c m)):Rel (Re f t p K) (Re f' t p K'):=by
 unfold Re;split
 ·split
  ·rename_i id es' off n;cases Nat.beq es' _
   ·exact hn
   ·exact Acv hn hf (by simp [Bd]) fun c hc=>Bi hn fun _=>hK _ _ (by simp [hc])
  ·exact Gw hn fun _ _ _=>hK _ _ (by simp)
 ·exact R8 hn fun _=>hK _ _ (by simp)
theorem Yq (hn:Rel none none):∀{ts:List CT}{ps:List PV}{K:List PV->List Nat->Option R}{K':List PV->List Nat->Option R'},Agr Rel f f' (ps.flatMap Bd)->(∀c m,(∀i∈m,f i≠none)->Rel (K c m) (K' c m))->Rel (P3 f ts ps K) (P3 f' ts ps K')
 |[],[],_,_,_,hK=>hK _ _ (by simp)
 |[],_::_,_,_,_,_=>hn
 |_::_,[],_,_,_,_=>hn
 |_::_,p::ps,_,_,hf,hK=>A1j hn (fun i hi=>hf i (by simp only [List.flatMap_cons,List.mem_append];exact .inl hi)) fun _ m hm=>Yq hn (fun i hi=>hf i (by simp only [List.flatMap_cons,List.mem_append];exact .inr hi)) fun _ ms hms=>hK _ _ fun i hi=>by
   rcases List.mem_append.1 hi with h|h
   ·exact hm i h
   ·exact hms i h
theorem A0k (hn:Rel none none){P:Program}{t:TypeId}{p:PV}{K:PV->List Nat->Option R}{K':PV->List Nat->Option R'}(hf:Agr Rel f f' (Dc p)) (hK:∀c m,(∀i∈m,f i≠none)->Rel (K c m) (K' c m)):Rel (As3 P f t p K) (As3 P f' t p K'):=by
 unfold As3
 have h1:∀i,i∈[p].flatMap Bd->i∈Dc p:=by
  intro i hi;simp only [List.flatMap_cons,List.flatMap_nil,List.append_nil] at hi;cases p<;>first|exact hi|simp [Bd] at hi
 cases Df P t
 ·exact Yq hn (fun i hi=>hf i (h1 i hi)) fun _ _ hm=>B7 hn fun _ _ _=>F5 hn (hK _ _ hm)
 ·refine Lh hn fun c hc=>?_
  subst hc;exact Yq hn (fun i hi=>hf i hi) fun _ _ hm=>hK _ _ hm
theorem Amr (hn:Rel none none){P:Program}:∀{ts:List TypeId}{ps:List PV}{K:List PV->List Nat->Option R}{K':List PV->List Nat->Option R'},Agr Rel f f' (ps.flatMap Dc)->(∀c m,(∀i∈m,f i≠none)->Rel (K c m) (K' c m))->Rel (Akp P f ts ps K) (Akp P f' ts ps K')
 |[],[],_,_,_,hK=>hK _ _ (by simp)
 |[],_::_,_,_,_,_=>hn
 |_::_,[],_,_,_,_=>hn
 |_::_,p::ps,_,_,hf,hK=>A0k hn (fun i hi=>hf i (by simp only [List.flatMap_cons,List.mem_append];exact .inl hi)) fun _ m hm=>Amr hn (fun i hi=>hf i (by simp only [List.flatMap_cons,List.mem_append];exact .inr hi)) fun _ ms hms=>hK _ _ fun i hi=>by
   rcases List.mem_append.1 hi with h|h
   ·exact hm i h
   ·exact hms i h
theorem Ata (hn:Rel none none){P:Program}{t:TypeId}{x:PV}{lo hi:Option PV}{K:PV->Option R}{K':PV->Option R'}(hf:(∃n e,P.underlying t=some (.array n e))->Agr Rel f f' (Bd x)) (hK:∀c,Rel (K c) (K' c)):Rel (Aep P f t x lo hi K) (Aep P f' t x lo hi K'):=by
 unfold Aep;split
 ·exact Hh hn fun _=>Ip hn fun _=>Ip hn fun _=>Bi hn fun _=>hK _
 ·refine Bi hn fun _=>?_
  split
  ·exact Bi hn fun _=>Ip hn fun _=>Ip hn fun _=>Bi hn fun _=>hK _
  ·exact Gw hn fun _ _ _=>Ip hn fun _=>Ip hn fun _=>Bi hn fun _=>hK _
 ·rename_i n e hu;refine Bi hn fun _=>?_
  split
  ·rename_i id off;exact Acv hn (hf ⟨_,_,hu⟩) (by simp [Bd]) fun _ _=>Bi hn fun _=>Ip hn fun _=>Ip hn fun _=>Bi hn fun _=>hK _
  ·exact hn
 ·exact hn
theorem Amu {g g':Nat->Option (List PV)} (hn:Rel none none){P:Program}{t:TypeId}{x:PV}{K:PV->Option R}{K':PV->Option R'}(hf:∀i∈Bd x,(f i=f' i∧g i=g' i)∨(f i=none∧g i=none∧∀b,Rel none b)) (hK:∀c,Rel (K c) (K' c)):Rel (Aea P f g t x K) (Aea P f' g' t x K'):=by
 unfold Aea;split
 ·rename_i id off;refine Bi hn fun _=>?_
  rcases hf id (by simp [Bd]) with ⟨h1,h2⟩|⟨h1,h2,h3⟩
  ·rw [←h1,←h2];split
   ·exact Uo hn fun _=>Adj hn fun _=>hK _
   ·exact Ei hn fun _ _=>Qw hn fun _=>Adj hn hK
  ·rw [h1,h2];exact h3 _
 ·exact Bi hn fun _=>Uo hn fun _=>Adj hn fun _=>hK _
 ·exact hn
theorem Ayt (hn:Rel none none){P:Program}{d:Nat}{src dst:TypeId}{x:PV}{K:PV->List (Nat × Ck)->Option R} {K':PV->List (Nat × Ck)->Option R'} (hf:P.underlying dst=some .string->Agr Rel f f' (Bd x)) (hK:∀v b,(∀q∈b,q.1=d)->Rel (K v b) (K' v b)):Rel (Ai4 P f d src dst x K) (Ai4 P f' d src dst x K'):=by
 unfold Ai4;split
 ·exact Bi hn fun _=>Eu hn fun _ _=>hK _ _ (by simp)
 ·rename_i hds;split
  ·exact Hh hn fun _=>hK _ _ (by simp)
  ·split
   ·exact Ado hn (hf hds) fun _ _=>Bi hn fun _=>Ei hn fun _ _=>hK _ _ (by simp)
   ·exact hn
  ·exact hn
 ·split
  ·exact Hh hn fun _=>Bi hn fun _=>hK _ _ (by simp)
  ·exact hn
 ·exact hn
theorem A15 (hn:Rel none none){shr:Bool}{id:Nat}{t:CT}{p:PV}{K:PV->List (Nat × Ck)->Option R} {K':PV->List (Nat × Ck)->Option R'} (hK:∀c b,(∀q∈b,q.1=id)->Rel (K c b) (K' c b)):Rel (A0q shr id t p K) (A0q shr id t p K'):=by
 unfold A0q;split
 ·cases shr
  ·exact Avv hn fun _ _=>hK _ _ (by simp)
  ·exact Gw hn fun _ _ _=>hK _ _ (by simp)
 ·exact R8 hn fun _=>hK _ _ (by simp)
theorem Yp (hn:Rel none none){shr:Bool}{N:Nat}:∀{ts:List CT}{id:Nat}{ps:List PV}{K:List PV->List (Nat × Ck)->Option R} {K':List PV->List (Nat × Ck)->Option R'},(∀c b,(∀q∈b,∃j,q.1=id+N*j)->Rel (K c b) (K' c b))->Rel (V4 shr N id ts ps K) (V4 shr N id ts ps K')
 |[],_,_,_,_,hK=>F5 hn (hK _ _ (by simp))
 |_::_,id,_,_,_,hK=>B7 hn fun _ _ _=>A15 hn fun _ b hb=>Yp hn fun _ bs hbs=>hK _ _ fun q hq=>by
   rcases List.mem_append.1 hq with h|h
   ·exact ⟨0,by rw [hb q h];simp⟩
   ·obtain ⟨j,hj⟩:=hbs q h;exact ⟨j+1,by rw [hj,Nat.mul_add];omega⟩
theorem A1d (hn:Rel none none){P:Program}{shr:Bool}{N id:Nat}{t:TypeId}{p:PV}{K:PV->List (Nat × Ck)->Option R} {K':PV->List (Nat × Ck)->Option R'} (hK:∀c b,(∀q∈b,∃j,q.1=id+N*j)->Rel (K c b) (K' c b)):Rel (Axo P shr N id t p K) (Axo P shr N id t p K'):=by
 unfold Axo;split
 ·refine Ax0 hn fun ps=>Yp hn fun _ _ hb=>hK _ _ fun q hq=>?_
  rcases List.mem_cons.1 hq with rfl|hq
  ·exact ⟨0,by simp⟩
  ·obtain ⟨j,hj⟩:=hb q hq;exact ⟨j+1,by rw [hj,Nat.mul_add];omega⟩
 cases Df P t
 ·exact Yp hn fun _ _ hb=>B7 hn fun _ _ _=>F5 hn (hK _ _ hb)
 ·exact Lh hn fun _ _=>Yp hn fun _ _ hb=>hK _ _ hb
theorem Aeq (hn:Rel none none){P:Program}{shr:Bool}{N:Nat}:∀{ts:List TypeId}{id:Nat}{ps:List PV}{K:List PV->List (Nat × Ck)->Option R} {K':List PV->List (Nat × Ck)->Option R'},(∀c b,(∀q∈b,∃j,q.1=id+N*j)->Rel (K c b) (K' c b))->Rel (Agq P shr N id ts ps K) (Agq P shr N id ts ps K')
 |[],_,_,_,_,hK=>F5 hn (hK _ _ (by simp))
 |t::_,id,_,_,_,hK=>B7 hn fun _ _ _=>A1d hn fun _ b hb=>Aeq hn fun _ bs hbs=>hK _ _ fun q hq=>by
   rcases List.mem_append.1 hq with h|h
   ·exact hb q h
   ·obtain ⟨j,hj⟩:=hbs q h;exact ⟨Arf P t+j,by rw [hj,Nat.mul_add];omega⟩
end
theorem Xd {p:PV}{i:Nat}(h:i∈Bd p):i∈Dc p:=by cases p<;>first|exact h|simp [Bd] at h
theorem Gp {p:PV}{i:Nat}(h:i∈Dc p):i∈Cs p:=by cases p<;>first|exact h|simp [Dc,Bd] at h
theorem Mu {p:PV}{i:Nat}(h:i∈Bd p):i∈Cs p:=Gp (Xd h)
section
variable {R R':Type} {Rel:Option R->Option R'->Prop} {P:Program} {N:Nat} {tm tm':Nat->PV} {f f' g g':Nat->Option (List PV)} {o:Oper}
theorem Aj6 (hn:Rel none none){t:TypeId}{x:Operand}{K:PV->Option R}{K':PV->Option R'}(hx:C1 tm x=C1 tm' x)(hK:∀p,Rel (K p) (K' p)):Rel (Aey P t tm x K) (Aey P t tm' x K'):=by
 unfold Aey;split
 ·exact A3z hn (fun _ _=>hK _) (fun _=>hK _)
 ·rw [hx];exact hK _
theorem A0w (hn:Rel none none){t:CT}{p:PV}{K:PV->Option R}{K':PV->Option R'}(hK:∀p,Bd p=[]->Rel (K p) (K' p)):Rel (tcK t p K) (tcK t p K'):=by
 unfold tcK;split
 ·exact Jk hn fun _=>hK _ rfl
 ·exact Hx hn fun _=>hK _ rfl
 ·exact Hh hn fun _=>hK _ rfl
 ·exact Gw hn fun _ _ _=>hK _ rfl
 ·exact Avi hn fun _=>hK _ rfl
theorem Amg (hn:Rel none none):∀{ts:List CT}{cells:List PV}{off:Nat}{K:List PV->Option R}{K':List PV->Option R'},(∀c,(∀p∈c,Bd p=[])->Rel (K c) (K' c))->Rel (Xy ts cells off K) (Xy ts cells off K')
 |[],_,_,_,_,hK=>hK _ (by simp)
 |_::_,_,_,_,_,hK=>A0w hn fun c hc=>Amg hn fun cs hcs=>hK _ (by
   intro p hp;rcases List.mem_cons.1 hp with h|h
   ·rw [h];exact hc
   ·exact hcs p h)
theorem Ac4 (hn:Rel none none){t:TypeId}{K:List PV->Option R}{K':List PV->Option R'}(hK:∀c,(∀p∈c,Bd p=[])->Rel (K c) (K' c)):Rel (Ia P t K) (Ia P t K'):=
 Ei hn fun _ _=>Bi hn fun _=>Amg hn hK
theorem Xb {p c:PV}(h:c∈cellsOf p){i:Nat}(hi:i∈Bd c):i∈Dc p:=by
 unfold cellsOf at h;split at h
 ·exact List.mem_flatMap.2 ⟨c,h,hi⟩
 ·simp at h;subst h;exact Xd hi
theorem Avb {cells new:List PV}{off:Nat}{c:PV}(h:c∈B8 cells new off):c∈cells∨c∈new:=by
 unfold B8 at h;rcases List.mem_append.1 h with h|h
 ·rcases List.mem_append.1 h with h|h
  ·exact .inl (List.mem_of_mem_take h)
  ·exact .inr h
 ·exact .inl (List.mem_of_mem_drop h)
theorem Ai7 (hn:Rel none none){H8:Nat->Option (Nat × Nat)} {S:Nat->Prop}:∀{ps:List (Nat × PV)} {cells:List PV}{K:List PV->Option R}{K':List PV->Option R'},(∀c∈cells,∀i∈Bd c,S i)->(∀q∈ps,∀i∈Dc q.2,S i) ->
  (∀cs,(∀c∈cs,∀i∈Bd c,S i)->Rel (K cs) (K' cs))->Rel (X6 H8 ps cells K) (X6 H8 ps cells K')
 |[],_,_,_,h1,_,hK=>hK _ h1
 |(_,p)::_,_,_,_,h1,h2,hK=>Ei hn fun _ _=>Bi hn fun _=>Ai7 hn (fun c hc i hi=>by
   rcases Avb hc with h|h
   ·exact h1 c h i hi
   ·exact h2 (_,p) List.mem_cons_self i (Xb h hi)) (fun q hq=>h2 q (List.mem_cons_of_mem _ hq)) hK
theorem Agb (hn:Rel none none):∀{ts:List CT}{ps:List PV}{K:List PV->List Nat->Option R}{K':List PV->List Nat->Option R'},(∀t∈ts,∀es,t ≠ .sl es)->(∀c,Rel (K c []) (K' c []))->Rel (P3 g ts ps K) (P3 g' ts ps K')
 |[],[],_,_,_,hK=>hK _
 |[],_::_,_,_,_,_=>hn
 |_::_,[],_,_,_,_=>hn
 |t::ts,p::ps,K,K',ht,hK=>by
  show Rel (Re g t p _) (Re g' t p _)
  have:∀{g:Nat->Option (List PV)} {S:Type} {L:PV->List Nat->Option S},Re g t p L=tcK t p fun c=>L c []:=by
   intro g S L;cases t with
   |sl es=>exact absurd rfl (ht _ (by simp) es)
   |_=>rfl
  rw [this,this];exact R8 hn fun c=>Agb hn (fun t h=>ht t (by simp [h])) fun cs=>hK _
theorem A1e (hn:Rel none none){es:Nat}{t:TypeId}{x:PV}{K:Nat->List PV->Option R}{K':Nat->List PV->Option R'}(hx:Agr Rel g g' (Bd x)) (hK:∀m c,Rel (K m c) (K' m c)):Rel (At8 P g es t x K) (At8 P g' es t x K'):=by
 unfold At8;split
 ·exact Bi hn fun _=>Hh hn fun _=>hK _ _
 ·exact Ado hn hx hK
 ·exact hn
theorem A17 (hn:Rel none none){t:TypeId}{x:PV}{K:Nat->Option R}{K':Nat->Option R'}(hK:∀n,Rel (K n) (K' n)):Rel (Axm P t x K) (Axm P t x K'):=by
 unfold Axm;split
 ·exact Gw hn fun _ _ _=>Bi hn fun _=>hK _
 ·exact hn
theorem Arl (hn:Rel none none){d:Nat}{t tx:TypeId}{x:PV}{K:PV->List (Nat × Ck)->Option R} {K':PV->List (Nat × Ck)->Option R'} (hx:Agr Rel g g' (Bd x)) (hK:∀v nw,Rel (K v nw) (K' v nw)):Rel (Yl P g d t tx x K) (Yl P g' d t tx x K'):=by
 unfold Yl;split
 ·exact Bi hn fun _=>A1e hn hx fun _ _=>Bi hn fun _=>hK _ _
 ·exact hn
theorem Aju (hn:Rel none none){C:Jf}{call:Am}{K:PV->List Nat->List (Nat × Ck)->Option R} {K':PV->List Nat->List (Nat × Ck)->Option R'}
  (htm:∀x∈o.op.operands.toList,C1 tm x=C1 tm' x)
  (hfg:I0 P o.op=true->∀x∈o.op.operands.toList,∀i∈Cs (C1 tm' x),(f i=f' i∧g i=g' i)∨(f i=none∧g i=none∧∀b,Rel none b))
  (hK:∀v fz nw,(I0 P o.op=false->fz=[]∧∀q∈nw,o.dst=some q.1)->(∀i∈fz,g i≠none)->Rel (K v fz nw) (K' v fz nw)):
  Rel (Ajq C P N call tm f g o K) (Ajq C P N call tm' f' g' o K'):=by
 have h0:∀v,Rel (K v [] []) (K' v [] []):=fun v=>hK v [] [] (fun _=>⟨rfl,by simp⟩) (by simp)
 have hf:I0 P o.op=true->∀x∈o.op.operands.toList,Agr Rel f f' (Cs (C1 tm' x)):=fun h x hx i hi=>(hfg h x hx i hi).imp (·.1) fun h=>⟨h.1,h.2.2⟩
 have hg:I0 P o.op=true->∀x∈o.op.operands.toList,Agr Rel g g' (Cs (C1 tm' x)):=fun h x hx i hi=>(hfg h x hx i hi).imp (·.2) fun h=>⟨h.2.1,h.2.2⟩
 unfold Ajq;generalize hop:o.op=op at *
 split
 ·exact Aj6 hn (htm _ (by simp [Op.operands])) h0
 ·exact Aj6 hn (htm _ (by simp [Op.operands])) h0
 ·rename_i c x y;rw [htm c (by simp [Op.operands]),htm x (by simp [Op.operands]),htm y (by simp [Op.operands])]
  exact Hx hn fun _=>Ah2 (h0 _) (h0 _)
 ·exact Ei hn fun d hd=>Xx hn fun _=>hK _ _ _ (fun _=>⟨rfl,by simp [hd]⟩) (by simp)
 ·rename_i t x;rw [htm x (by simp [Op.operands])]
  refine Ei hn fun d hd=>Bi hn fun _=>?_
  cases Xh P t
  ·exact Qw hn fun _=>hK _ _ _ (fun _=>⟨rfl,by simp [hd]⟩) (by simp)
  ·exact Uo hn fun _=>hK _ _ _ (fun _=>⟨rfl,by simp [hd]⟩) (by simp)
 ·rename_i t ps
  have:(ps.toList.map fun q=>(q.1,C1 tm q.2))=ps.toList.map fun q=>(q.1,C1 tm' q.2):=by
   apply List.map_congr_left;intro q hq;rw [htm q.2 (by simp only [Op.operands];exact List.mem_map_of_mem hq)]
  rw [this];exact Bi hn fun _=>Xx hn fun _=>Afb hn fun _=>Qw hn fun _=>h0 _
 ·rename_i t n ps
  have:(ps.toList.map fun q=>(q.1,C1 tm q.2))=ps.toList.map fun q=>(q.1,C1 tm' q.2):=by
   apply List.map_congr_left;intro q hq;rw [htm q.2 (by simp only [Op.operands];exact List.mem_map_of_mem hq)]
  rw [this];refine Ei hn fun d hd=>?_
  split
  ·rename_i e hu;cases hsl:Kz P [e]
   ·refine Bi hn fun _=>Ac4 hn fun z hz=>Afb hn fun cs=>Agb hn ?_ fun cs'=>hK _ _ _ (fun _=>⟨rfl,by simp [hd]⟩) (by simp)
    intro c hc es he;obtain ⟨l,hl,hc⟩:=List.mem_flatten.1 hc;rw [List.eq_of_mem_replicate hl] at hc;subst he
    have:Kz P [e]=true:=by
     unfold Kz;simp only [List.any_cons,List.any_nil,Bool.or_false,Bool.or_eq_true];exact .inr (List.any_eq_true.2 ⟨_,hc,rfl⟩)
    rw [this] at hsl;cases hsl
   refine Bi hn fun _=>Ac4 hn fun z hz=>Ai7 (S:=fun i=>∃x∈(Op.buildSlice t n ps).operands.toList,i∈Cs (C1 tm' x)) hn ?_ ?_ fun cs hcs=>?_
   ·intro c hc i hi;obtain ⟨l,hl,hc⟩:=List.mem_flatten.1 hc;rw [List.eq_of_mem_replicate hl] at hc;rw [hz c hc] at hi;simp at hi
   ·intro q hq i hi;obtain ⟨q',hq',rfl⟩:=List.mem_map.1 hq;exact ⟨q'.2,by simp only [Op.operands];exact List.mem_map_of_mem hq',Gp hi⟩
   ·refine Yq hn (fun i hi=>?_) fun cs' m hm=>hK _ _ _ (fun h=>by simp [I0,hu,hsl] at h) hm
    obtain ⟨c,hc,hi⟩:=List.mem_flatMap.1 hi;obtain ⟨x,hx,hxi⟩:=hcs c hc i hi;exact hg (by simp [I0,hu,hsl]) x hx i hxi
  ·exact hn
 ·rename_i t x;rw [htm x (by simp [Op.operands])]
  exact Amu hn (fun i hi=>hfg (by simp [I0]) x (by simp [Op.operands]) i (Mu hi)) h0
 ·rename_i x;rw [htm x (by simp [Op.operands])]
  exact Ae5 hn h0
 ·rename_i op' t x y _;rw [htm x (by simp [Op.operands]),htm y (by simp [Op.operands])]
  exact Asj hn h0
 ·rename_i op' t x;rw [htm x (by simp [Op.operands])]
  exact A4k hn h0
 ·rename_i src dst x;rw [htm x (by simp [Op.operands])]
  exact Ayt hn (fun hds i hi=>hg (by simp [I0,hds]) x (by simp [Op.operands]) i (Mu hi)) fun v b hb=>Ei hn fun d hd=>hK _ _ _ (fun _=>⟨rfl,fun q hq=>by rw [hd,hb q hq,hd];rfl⟩) (by simp)
 ·rename_i t x y;rw [htm x (by simp [Op.operands]),htm y (by simp [Op.operands])]
  refine Ei hn fun d hd=>?_
  split
  ·exact Eu hn fun _ _=>Eu hn fun _ _=>Bi hn fun _=>Xx hn fun _=>hK _ _ _ (fun _=>⟨rfl,by simp [hd]⟩) (by simp)
  ·exact hn
 ·rename_i t x lo hi mx;split
  ·rw [htm x (by simp [Op.operands])]
   have h1:lo.map (C1 tm)=lo.map (C1 tm'):=by
    cases lo with
    |none=>rfl
    |some y=>simp only [Option.map_some];rw [htm y (by simp [Op.operands])]
   have h2:hi.map (C1 tm)=hi.map (C1 tm'):=by
    cases hi with
    |none=>rfl
    |some y=>simp only [Option.map_some];rw [htm y (by simp [Op.operands])]
   rw [h1,h2];exact Ata hn (fun ⟨n,e,he⟩ i hi=>hf (by simp [I0,he]) x (by simp [Op.operands]) i (Mu hi)) h0
  ·exact hn
 ·rename_i t x fl;rw [htm x (by simp [Op.operands])]
  exact Ei hn fun _ _=>Bi hn fun _=>Ae5 hn h0
 ·rename_i t x fl;rw [htm x (by simp [Op.operands])]
  exact Ei hn fun _ _=>Bi hn fun _=>Lh hn fun _ _=>Qw hn fun _=>Adj hn h0
 ·rename_i t x i;rw [htm x (by simp [Op.operands]),htm i (by simp [Op.operands])]
  exact Eu hn fun _ _=>Akl hn h0
 ·rename_i t x i;rw [htm x (by simp [Op.operands]),htm i (by simp [Op.operands])]
  refine Eu hn fun _ _=>?_
  split
  ·exact Hh hn fun _=>Bi hn fun _=>Ei hn fun _ _=>h0 _
  ·exact Lh hn fun _ _=>Bi hn fun _=>Qw hn fun _=>Adj hn h0
  ·exact hn
 ·rename_i x i;rw [htm x (by simp [Op.operands])]
  split
  ·exact Ei hn fun _ _=>h0 _
  ·exact hn
 ·rename_i c
  have hmem:∀x∈c.args.toList,x∈(Op.call c).operands.toList:=by
   intro x hx;simp only [Op.operands,Call.operands,Array.toList_append,List.mem_append];exact .inr hx
  have rc:∀fn,I0 P (.call c)=true->Rel (Ai9 C P N call tm g o c fn K) (Ai9 C P N call tm' g' o c fn K'):=by
   intro fn hmm;unfold Ai9;have:c.args.toList.map (C1 tm)=c.args.toList.map (C1 tm'):=List.map_congr_left fun x hx=>htm x (hmem x hx)
   rw [this];refine Amr hn (fun i hi=>?_) fun vs m hm=>Anj hn fun rv ro=>F5 hn (Bi hn fun _=>Aeq hn fun ws bs hbs=>Bi hn fun _=>hK _ _ _ (fun h=>by rw [hmm] at h;cases h) (fun i hi=>?_))
   ·obtain ⟨p,hp,hi⟩:=List.mem_flatMap.1 hi;obtain ⟨x,hx,rfl⟩:=List.mem_map.1 hp;exact hg hmm x (hmem x hx) i (Gp hi)
   ·have hi':i∈m:=by
     cases hq:Kz P (P8 P o.type)<;>rw [hq] at hi
     ·simp at hi
     ·exact hi
    exact hm i hi'
  split
  ·refine B7 hn fun x _ hx=>B7 hn fun _ _ _=>?_
   rw [htm x (hmem x (by rw [hx];simp))]
   exact A26 hn fun _=>h0 _
  ·refine B7 hn fun x _ hx=>B7 hn fun _ _ _=>?_
   rw [htm x (hmem x (by rw [hx];simp))]
   exact A17 hn fun _=>h0 _
  ·refine B7 hn fun x _ hx=>B7 hn fun y _ hy=>F5 hn ?_
   subst hy;rw [htm x (hmem x (by rw [hx];simp)),htm y (hmem y (by rw [hx];simp))]
   exact Azv hn h0
  ·refine B7 hn fun x _ hx=>B7 hn fun y _ hy=>F5 hn ?_
   subst hy;rw [htm x (hmem x (by rw [hx];simp)),htm y (hmem y (by rw [hx];simp))]
   exact A18 hn h0
  ·rename_i hc;have hmm:I0 P (.call c)=true:=by simp [I0,hc]
   refine Bi hn fun _=>Ei hn fun d hd=>B7 hn fun _ _ hb=>B7 hn fun x _ hx=>F5 hn (B7 hn fun _ _ _=>B7 hn fun _ _ _=>?_)
   have hxm:x∈c.args.toList:=by rw [hb,hx];simp
   rw [htm x (hmem x hxm)];exact Arl hn (fun i hi=>hg hmm x (hmem x hxm) i (Mu hi)) fun v nw=>hK _ _ _ (fun h=>by rw [hmm] at h;cases h) (by simp)
  ·rename_i fn hc;have hmm:I0 P (.call c)=true:=by simp [I0,hc]
   exact rc fn hmm
  ·rename_i t hc;have hmm:I0 P (.call c)=true:=by simp [I0,hc]
   have ht:=htm (.tmp t) (by simp [Op.operands,Call.operands,hc])
   change tm t=tm' t at ht;rw [ht];exact A5m hn fun fn=>rc fn hmm
  ·exact hn
 ·exact hn
variable {hp:Nat->Option Ck}
end
open Go.RowKit
abbrev Aa7:=PV × List Nat × List (Nat × Ck)
def H7 (ops:Array Oper)(o:Oper)(tm:Nat->PV):Option Bool:=
 match o.guard with
 |none=>some true
 |some (j,want)=>
  match (ops[j]?).bind (·.dst) with
  |none=>none
  |some d=>
   match tm d with
   |.sc (.bool b)=>some (b==want)
   |.sc (.tuple _)=>some false
   |_=>none
section
variable {R:Type} {r:R} {C:Jf} {P:Program} {N:Nat} {call:Am} {ops:Array Oper} {o x:Oper} {s:St} {K:St->Option R}
theorem Apl:Ee C P N call ops o s K=match H7 ops o s.tm with
  |none=>none
  |some true=>Arh C P N call o s K
  |some false=>Aq (Hm N o.dst) (K ⟨Cb s.tm o.dst (.sc undef),s.hp⟩):=by
 unfold Ee H7;cases o.guard with
 |none=>rfl
 |some q=>
  obtain ⟨j,want⟩:=q;cases hd:(ops[j]?).bind (·.dst) with
  |none=>simp [hd]
  |some d=>
   simp only [hd];cases ht:s.tm d with
   |sc v=>
    cases v with
    |bool b=>
     cases b<;>cases want<;>simp only [A4,cond_true,cond_false,Ad4 s.tm ht]<;>rfl
    |_=>rfl
   |_=>rfl
def Ayb (C:Jf)(P:Program)(N:Nat)(call:Am)(o:Oper)(s:St):Option Aa7:=
 Ajq C P N call s.tm (rd s.hp) (L5 s.hp) o fun v fz nw=>some (v,fz,nw)
theorem A46 {K:PV->List Nat->List (Nat × Ck)->Option R}:Ajq C P N call s.tm (rd s.hp) (L5 s.hp) o K=(Ayb C P N call o s).bind fun q=>K q.1 q.2.1 q.2.2:=by
 refine Aju (Rel:=fun (a:Option R) (b:Option Aa7)=>a=b.bind fun q=>K q.1 q.2.1 q.2.2) (K:=K) (K':=fun v fz nw=>some (v,fz,nw)) rfl (fun _ _=>rfl) (fun _ _ _ _ _=>.inl ⟨rfl,rfl⟩) fun v fz nw _ _=>rfl
theorem Aup {q:Aa7}(h:Ayb C P N call o s=some q):(I0 P o.op=false->q.2.1=[]∧∀p∈q.2.2,o.dst=some p.1)∧∀i∈q.2.1,L5 s.hp i≠none:=by
 have:=Aju (C:=C) (P:=P) (N:=N) (call:=call) (o:=o) (tm:=s.tm) (tm':=s.tm) (f:=rd s.hp) (f':=rd s.hp) (g:=L5 s.hp) (g':=L5 s.hp)
  (Rel:=fun (a:Option Aa7)(_:Option Aa7)=>∀q,a=some q->(I0 P o.op=false->q.2.1=[]∧∀p∈q.2.2,o.dst=some p.1)∧∀i∈q.2.1,L5 s.hp i≠none)
  (K:=fun v fz nw=>some (v,fz,nw)) (K':=fun v fz nw=>some (v,fz,nw)) (fun _ h=>by cases h) (fun _ _=>rfl) (fun _ _ _ _ _=>.inl ⟨rfl,rfl⟩) (fun v fz nw h1 h2 q hq=>by cases hq;exact ⟨h1,h2⟩)
 exact this q h
def gE (C:Jf)(P:Program)(N:Nat)(call:Am)(ops:Array Oper)(o:Oper)(s:St):Option Aa7:=
 match H7 ops o s.tm with
 |none=>none
 |some true=>bif Vo C P o.op then none else Ayb C P N call o s
 |some false=>some (.sc undef,[],[])
def H2 (C:Jf)(P:Program)(ops:Array Oper)(o:Oper)(tm:Nat->PV):Bool:=Vo C P o.op&&(H7 ops o tm==some true)
theorem Mz (h:H2 C P ops o s.tm=false):Ee C P N call ops o s K=(gE C P N call ops o s).bind fun q=>Afv N s o.dst q.1 q.2.1 q.2.2 K:=by
 rw [Apl];unfold gE;unfold H2 at h;cases hv:H7 ops o s.tm with
 |none=>rfl
 |some b=>
  rw [hv] at h;cases b with
  |false=>
   show Aq _ _=Afv N s o.dst (.sc undef) [] [] K;unfold Afv;have h1:Cp s.hp []=true:=rfl;have h2:Be (Ao s.hp []) []=s.hp:=rfl;rw [h1,h2,Bool.and_true]
  |true=>
   have hm:Vo C P o.op=false:=by simpa using h
   simp only [Arh,hm,cond_false];exact A46
theorem Jx (h:H2 C P ops o s.tm=true):Ee C P N call ops o s K=Zn C P N call s o K:=by
 rw [Apl];unfold H2 at h;simp only [Bool.and_eq_true,beq_iff_eq] at h;rw [h.2];simp only [Arh,h.1,cond_true]
theorem Xk {q:Aa7}(h:gE C P N call ops o s=some q):(I0 P o.op=false->q.2.1=[]∧∀p∈q.2.2,o.dst=some p.1)∧∀i∈q.2.1,L5 s.hp i≠none:=by
 unfold gE at h;split at h
 ·cases h
 ·cases hm:Vo C P o.op<;>rw [hm] at h
  ·exact Aup h
  ·cases h
 ·cases h;exact ⟨fun _=>⟨rfl,by simp⟩,by simp⟩
theorem Ge {tm tm':Nat->PV}(h:∀t∈looks ops o,tm t=tm' t):∀y∈o.op.operands.toList,C1 tm y=C1 tm' y:=by
 intro y hy;cases y with
 |tmp t=>
  refine h t ?_;unfold looks A0e;refine List.mem_append.2 (.inl (List.mem_filterMap.2 ⟨.tmp t,hy,rfl⟩))
 |const v=>cases v<;>rfl
 |func f=>rfl
 |«global» g=>rfl
theorem M4 {tm tm':Nat->PV}(h:∀t∈looks ops o,tm t=tm' t):H7 ops o tm=H7 ops o tm':=by
 unfold H7;cases hg:o.guard with
 |none=>rfl
 |some q=>
  obtain ⟨j,want⟩:=q;cases hd:(ops[j]?).bind (·.dst) with
  |none=>simp [hd]
  |some d=>
   have:tm d=tm' d:=h d (by
    unfold looks;rw [hg];refine List.mem_append.2 (.inr ?_);simp only [hd];simp)
   simp only [hd,this]
theorem Aeb {s':St}{q:Aa7}(ht:∀t∈looks ops o,s.tm t=s'.tm t)
  (hm:I0 P o.op=true->∀y∈o.op.operands.toList,∀i∈Cs (C1 s'.tm y),(rd s.hp i=rd s'.hp i∧L5 s.hp i=L5 s'.hp i)∨(rd s.hp i=none∧L5 s.hp i=none))
  (h:gE C P N call ops o s=some q):gE C P N call ops o s'=some q:=by
 unfold gE at h ⊢;rw [←M4 ht];split at h
 ·cases h
 ·cases hM:Vo C P o.op<;>rw [hM] at h
  ·have:=Aju (C:=C) (P:=P) (N:=N) (call:=call) (o:=o) (tm:=s.tm) (tm':=s'.tm) (f:=rd s.hp) (f':=rd s'.hp) (g:=L5 s.hp) (g':=L5 s'.hp)
    (Rel:=fun (a b:Option Aa7)=>a=some q->b=some q)
    (K:=fun v fz nw=>some (v,fz,nw)) (K':=fun v fz nw=>some (v,fz,nw)) (fun h=>h) (Ge ht)
    (fun hm' y hy i hi=>(hm hm' y hy i hi).imp id fun h=>⟨h.1,h.2,fun _ h=>by cases h⟩) (fun v fz nw _ _ h=>h)
   exact this h
  ·cases h
 ·exact h
end
open Go.RowKit
theorem Tz:∀{nw:List (Nat × Ck)} {hp hp':Nat->Option Ck},Cp hp nw=true->(∀i b,(i,b)∈nw->hp' i=none)->Cp hp' nw=true
 |[],_,_,_,_=>rfl
 |(i,b)::nw,hp,hp',h,h'=>by
  simp only [Cp,Bool.and_eq_true,Option.isNone_iff_eq_none] at h ⊢;exact ⟨⟨h' i b (by simp),h.1.2⟩,Tz h.2 fun j c hj=>h' j c (by simp [hj])⟩
section
variable {hp:Nat->Option Ck} {fz:List Nat} {nw:List (Nat × Ck)}
theorem G9 (ha:Cp hp nw=true){i:Nat}(hi:hp i≠none):Be (Ao hp fz) nw i=if i∈fz then (hp i).map W8 else hp i:=by
 obtain ⟨h1,h2⟩:=Cc ha;rw [(Fe h2).2 i (fun bx hb=>hi (h1 i bx hb)),Cr]
theorem Kk (ha:Cp hp nw=true){i:Nat}{b:Ck}(hi:(i,b)∈nw):Be (Ao hp fz) nw i=some b:=
 (Fe (Cc ha).2).1 i b hi
theorem Qy (ha:Cp hp nw=true){i:Nat}(hi:hp i=none)(hn:∀b,(i,b) ∉ nw):Be (Ao hp fz) nw i=none:=by
 rw [(Fe (Cc ha).2).2 i hn,Cr,hi];simp
theorem Qp (ha:Cp hp nw=true){i:Nat}(hi:hp i≠none):Be (Ao hp fz) nw i≠none:=by
 rw [G9 ha hi];cases h:hp i with
 |none=>exact absurd h hi
 |some b=>split<;>simp
theorem A4n (b:Option Ck):(match b.map W8 with|some (.st c)=>some c|some (.ar _ c)=>some c|_=>none)=(match b with|some (.st c)=>some c|some (.ar _ c)=>some c|_=>none):=by
 cases b with
 |none=>rfl
 |some b=>cases b<;>rfl
theorem A0u (b:Option Ck):(match b.map W8 with|some (.ar _ c)=>some c|_=>none)=(match b with|some (.ar _ c)=>some c|_=>none):=by
 cases b with
 |none=>rfl
 |some b=>cases b<;>rfl
theorem Aqp (ha:Cp hp nw=true){i:Nat}(hi:hp i≠none):rd (Be (Ao hp fz) nw) i=rd hp i:=by
 unfold rd;rw [G9 ha hi];by_cases h:i∈fz
 ·rw [if_pos h];exact A4n _
 ·rw [if_neg h]
theorem Ann (ha:Cp hp nw=true){i:Nat}(hi:hp i≠none):L5 (Be (Ao hp fz) nw) i=L5 hp i:=by
 unfold L5;rw [G9 ha hi];by_cases h:i∈fz
 ·rw [if_pos h];exact A0u _
 ·rw [if_neg h]
theorem Avn {i:Nat}(hi:hp i=none):rd hp i=none:=by unfold rd;rw [hi]
theorem Nt {i:Nat}(hi:hp i=none):L5 hp i=none:=by unfold L5;rw [hi]
theorem A9y (b:Option Ck):(b.map W8).map W8=b.map W8:=by
 cases b with
 |none=>rfl
 |some b=>cases b<;>rfl
theorem Atk {fx fo:List Nat}{nx no:List (Nat × Ck)} (hx:Cp hp nx=true)(ho:Cp (Be (Ao hp fx) nx) no=true) (ho':Cp hp no=true)
  (hx':Cp (Be (Ao hp fo) no) nx=true) (h1:∀i∈fx,hp i≠none)(h2:∀i∈fo,hp i≠none):
  Be (Ao (Be (Ao hp fx) nx) fo) no=Be (Ao (Be (Ao hp fo) no) fx) nx:=by
 funext i
 by_cases hi:hp i=none
 ·by_cases hno:∃b,(i,b)∈no
  ·obtain ⟨b,hb⟩:=hno
   have hnx:∀b',(i,b') ∉ nx:=fun b' hb'=>by
    have:=(Cc ho).1 i b hb;rw [Kk hx hb'] at this;cases this
   rw [Kk ho hb,G9 hx' (by rw [Kk ho' hb];simp),Kk ho' hb,if_neg (fun h=>h1 i h hi)]
  ·have hno:∀b,(i,b) ∉ no:=fun b hb=>hno ⟨b,hb⟩
   by_cases hnx:∃b,(i,b)∈nx
   ·obtain ⟨b,hb⟩:=hnx;rw [Kk hx' hb,G9 ho (by rw [Kk hx hb];simp),Kk hx hb,if_neg (fun h=>h2 i h hi)]
   ·have hnx:∀b,(i,b) ∉ nx:=fun b hb=>hnx ⟨b,hb⟩
    rw [Qy ho (Qy hx hi hnx) hno,Qy hx' (Qy ho' hi hno) hnx]
 ·rw [G9 ho (Qp hx hi),G9 hx hi,G9 hx' (Qp ho' hi),G9 ho' hi];split<;>split<;>first|rfl|rw [A9y]
end
section
variable {R:Type} {r:R} {C:Jf} {P:Program} {N:Nat} {call:Am} {ops:Array Oper} {o x:Oper} {s:St} {K:St->Option R}
structure Acn (C:Jf) (P:Program) (ops:Array Oper) (x o:Oper):Prop where
 xo:∀d,x.dst=some d->d ∉ looks ops o
 ne:∀d,x.dst=some d->o.dst≠some d
 ox:∀d,o.dst=some d->d ∉ looks ops x
 mx:Vo C P x.op=true->I0 P o.op=false
 mo:Vo C P o.op=true->I0 P x.op=false
theorem Vp {l:List Nat}{d:Nat}(h:l.any (Nat.beq d)=false):d ∉ l:=by
 intro hm;have:l.any (Nat.beq d)=true:=List.any_eq_true.2 ⟨d,hm,Nat.beq_refl d⟩;rw [this] at h;cases h
theorem A0b (h:Ako C P ops x o=false):Acn C P ops x o:=by
 unfold Ako at h;simp only [Bool.or_eq_false_iff,Bool.and_eq_false_iff] at h;obtain ⟨⟨⟨h1,h2⟩,h3⟩,h4⟩:=h;refine ⟨fun d hd=>?_,fun d hd he=>?_,fun d hd=>?_,fun hm=>?_,fun hm=>?_⟩
 ·simp only [hd,Bool.or_eq_false_iff] at h1;exact Vp h1.1
 ·simp only [hd,he,Bool.or_eq_false_iff] at h1;rw [Nat.beq_refl] at h1;cases h1.2
 ·simp only [hd] at h2;exact Vp h2
 ·rw [hm] at h3;rcases h3 with h|h
  ·cases h
  ·exact h
 ·rw [hm] at h4;rcases h4 with h|h
  ·cases h
  ·exact h
theorem Fs {tm:Nat->PV}{d:Option Tmp}{v:PV}{l:List Nat}(h:∀i,d=some i->i ∉ l):∀t∈l,Cb tm d v t=tm t:=by
 intro t ht;cases d with
 |none=>rfl
 |some d=>exact A3 _ _ (by rintro rfl;exact h _ rfl ht)
theorem Mv {tm:Nat->PV}{d e:Option Tmp}{u v:PV}(h:∀i,d=some i->e≠some i):Cb (Cb tm d u) e v=Cb (Cb tm e v) d u:=by
 cases d with
 |none=>rfl
 |some d=>
  cases e with
  |none=>rfl
  |some e=>exact Aq0 _ _ _ (by rintro rfl;exact h _ rfl rfl)
def Has (C:Jf)(P:Program)(o:Oper)(s:St):Prop:=(∀y∈o.op.operands.toList,∀i∈Cs (C1 s.tm y),s.hp i≠none) ∧
 (Vo C P o.op=true->Qq o.op=false->∀y∈o.op.operands.toList,∀i∈Cs (C1 s.tm y),∀c,s.hp i=some (.st c)->∀p∈c,∀k∈Bd p,s.hp k≠none)
theorem Ij {tm tm':Nat->PV}(h:∀t∈looks ops o,tm t=tm' t):H2 C P ops o tm=H2 C P ops o tm':=by
 unfold H2;rw [M4 h]
theorem Awa (hw:Has C P o s)(xo:∀d,x.dst=some d->d ∉ looks ops o)(ne:∀d,x.dst=some d->o.dst≠some d)(ox:∀d,o.dst=some d->d ∉ looks ops x)(hx:H2 C P ops x s.tm=false)(ho:H2 C P ops o s.tm=false)
  (h:Ee C P N call ops x s (fun s1=>Ee C P N call ops o s1 K)=some r):Ee C P N call ops o s (fun s1=>Ee C P N call ops x s1 K)=some r:=by
 rw [Mz hx] at h;cases ex:gE C P N call ops x s with
 |none=>rw [ex] at h;cases h
 |some q=>
 obtain ⟨vx,fx,nx⟩:=q;rw [ex] at h;obtain ⟨hb,h1⟩:=A7 h;simp only [Bool.and_eq_true] at hb;have t1:∀t∈looks ops o,Cb s.tm x.dst vx t=s.tm t:=Fs xo;change Ee C P N call ops o ⟨Cb s.tm x.dst vx,Be (Ao s.hp fx) nx⟩ K=some r at h1;rw [Mz (by rw [Ij t1];exact ho)] at h1
 cases eo:gE C P N call ops o ⟨Cb s.tm x.dst vx,Be (Ao s.hp fx) nx⟩ with
 |none=>rw [eo] at h1;cases h1
 |some q=>
 obtain ⟨vo,fo,no⟩:=q;rw [eo] at h1;obtain ⟨hc,h2⟩:=A7 h1;change K ⟨Cb (Cb s.tm x.dst vx) o.dst vo,Be (Ao (Be (Ao s.hp fx) nx) fo) no⟩=some r at h2;simp only [Bool.and_eq_true] at hc
 have eo':gE C P N call ops o s=some (vo,fo,no):=by
  refine Aeb t1 (fun _ y hy i hi=>?_) eo
  have:=hw.1 y hy i hi;exact .inl ⟨Aqp hb.2 this,Ann hb.2 this⟩
 have ho':Cp s.hp no=true:=Tz hc.2 fun i b hi=>by
  cases hs:s.hp i with
  |none=>rfl
  |some c=>exact absurd ((Cc hc.2).1 i b hi) (Qp hb.2 (by rw [hs];simp))
 rw [Mz ho,eo']
 have hx':Cp (Be (Ao s.hp fo) no) nx=true:=Tz hb.2 fun i b hi=>by
  refine Qy ho' ((Cc hb.2).1 i b hi) fun c hc'=>?_
  have:=(Cc hc.2).1 i c hc';rw [Kk hb.2 hi] at this;cases this
 have t2:∀t∈looks ops x,s.tm t=Cb s.tm o.dst vo t:=fun t ht=>(Fs ox t ht).symm
 have ex':gE C P N call ops x ⟨Cb s.tm o.dst vo,Be (Ao s.hp fo) no⟩=some (vx,fx,nx):=by
  refine Aeb t2 (fun _ y hy i hi=>?_) ex
  by_cases hs:s.hp i=none
  ·exact .inr ⟨Avn hs,Nt hs⟩
  ·exact .inl ⟨(Aqp ho' hs).symm,(Ann ho' hs).symm⟩
 show Aq _ _=_;rw [hc.1,ho'];show Ee C P N call ops x ⟨Cb s.tm o.dst vo,Be (Ao s.hp fo) no⟩ K=some r;rw [Mz (by rw [←Ij t2];exact hx),ex']
 show Aq _ _=_;rw [hb.1,hx'];rw [←h2];have hfx:∀i∈fx,s.hp i≠none:=fun i hi hs=>(Xk ex).2 i hi (Nt hs)
 have hfo:∀i∈fo,s.hp i≠none:=fun i hi hs=>(Xk eo').2 i hi (Nt hs)
 show K ⟨Cb (Cb s.tm o.dst vo) x.dst vx,Be (Ao (Be (Ao s.hp fo) no) fx) nx⟩=K _;rw [Mv ne,Atk hb.2 hc.2 ho' hx' hfx hfo]
end
open Go.RowKit
theorem Acy {C:Jf}{P:Program}{o:Op}(h:Vo C P o=true):I0 P o=true:=by
 unfold Vo at h;split at h
 ·rfl
 ·rename_i c;unfold I0;simp only;split at h<;>rename_i hc
  ·rw [hc]
  ·rw [hc]
  ·cases h
  ·rw [hc]
  ·cases h
 ·cases h
structure Tch (N:Nat) (S:Nat->Prop) (dst:Option Nat) (hp hp1 hp' hp1':Nat->Option Ck):Prop where
 keep:∀i,hp i≠none->hp' i≠none
 off:∀i,i<N->dst≠some i->(¬S i∨hp i=none)->hp' i=hp i∧hp1' i=hp1 i
 same:∀i,hp i=hp1 i->hp' i=hp1' i
 far:∀i,¬S i->hp i≠none->hp' i=hp i
section
variable {R R':Type} {Rel:Option R->Option R'->Prop} {P:Program} {N:Nat} {tm tm':Nat->PV} {hp hp1:Nat->Option Ck} {f f':Nat->Option (List PV)} {o:Oper}
theorem Anw (hn:Rel none none){t:CT}{p:PV}{K:PV->List Nat->Option R}{K':PV->List Nat->Option R'}(hf:Agr Rel f f' (Bd p)) (hK:∀c m,(∀i∈m,f i≠none∧i∈Bd p)->Rel (K c m) (K' c m)):Rel (Re f t p K) (Re f' t p K'):=by
 unfold Re;split
 ·split
  ·rename_i id es' off n;cases Nat.beq es' _
   ·exact hn
   ·exact Acv hn hf (by simp [Bd]) fun c hc=>Bi hn fun _=>hK _ _ (by simp [hc,Bd])
  ·exact Gw hn fun _ _ _=>hK _ _ (by simp)
 ·exact R8 hn fun _=>hK _ _ (by simp)
theorem Ah9 (hn:Rel none none):∀{ts:List CT}{ps:List PV}{K:List PV->List Nat->Option R}{K':List PV->List Nat->Option R'},Agr Rel f f' (ps.flatMap Bd)->(∀c m,(∀i∈m,f i≠none∧i∈ps.flatMap Bd)->Rel (K c m) (K' c m))->Rel (P3 f ts ps K) (P3 f' ts ps K')
 |[],[],_,_,_,hK=>hK _ _ (by simp)
 |[],_::_,_,_,_,_=>hn
 |_::_,[],_,_,_,_=>hn
 |_::_,p::ps,_,_,hf,hK=>Anw hn (fun i hi=>hf i (by simp only [List.flatMap_cons,List.mem_append];exact .inl hi)) fun _ m hm=>Ah9 hn (fun i hi=>hf i (by simp only [List.flatMap_cons,List.mem_append];exact .inr hi)) fun _ ms hms=>hK _ _ fun i hi=>by
   simp only [List.flatMap_cons,List.mem_append];rcases List.mem_append.1 hi with h|h
   ·exact ⟨(hm i h).1,.inl (hm i h).2⟩
   ·exact ⟨(hms i h).1,.inr (hms i h).2⟩
theorem Yw {S:Nat->Prop}{dst:Option Nat}{id:Nat}{b:Ck}{h0 h1:Nat->Option Ck}(hS:S id)(hid:hp id≠none)(h:Tch N S dst hp hp1 h0 h1):Tch N S dst hp hp1 (Dg h0 id (some b)) (Dg h1 id (some b)):=by
 refine ⟨fun i hi=>?_,fun i hN hd hi=>?_,fun i hi=>?_,fun i hn hi=>?_⟩
 ·by_cases e:i=id
  ·subst e;rw [A8];simp
  ·rw [A3 _ _ e];exact h.keep i hi
 ·have e:i≠id:=by
   rintro rfl
   rcases hi with hi|hi
   ·exact hi hS
   ·exact hid hi
  rw [A3 _ _ e,A3 _ _ e];exact h.off i hN hd hi
 ·by_cases e:i=id
  ·subst e;rw [A8,A8]
  ·rw [A3 _ _ e,A3 _ _ e];exact h.same i hi
 ·rw [A3 _ _ (by rintro rfl;exact hn hS)];exact h.far i hn hi
theorem Aoj {S:Nat->Prop}{d:Nat}{b:Ck}{h0 h1:Nat->Option Ck}(hz:hp d=none)(h:Tch N S (some d) hp hp1 h0 h1):Tch N S (some d) hp hp1 (Dg h0 d (some b)) (Dg h1 d (some b)):=by
 refine ⟨fun i hi=>?_,fun i hN hd hi=>?_,fun i hi=>?_,fun i hn hi=>?_⟩
 ·by_cases e:i=d
  ·subst e;rw [A8];simp
  ·rw [A3 _ _ e];exact h.keep i hi
 ·have e:i≠d:=by rintro rfl;exact hd rfl
  rw [A3 _ _ e,A3 _ _ e];exact h.off i hN hd hi
 ·by_cases e:i=d
  ·subst e;rw [A8,A8]
  ·rw [A3 _ _ e,A3 _ _ e];exact h.same i hi
 ·rw [A3 _ _ (by rintro rfl;exact hi hz)];exact h.far i hn hi
theorem Xs (S:Nat->Prop)(dst:Option Nat):Tch N S dst hp hp1 hp hp1:=⟨fun _ h=>h,fun _ _ _ _=>⟨rfl,rfl⟩,fun _ h=>h,fun _ _ _=>rfl⟩
theorem At9 {S:Nat->Prop}{dst:Option Nat}{m:List Nat}(hm:∀i∈m,hp i≠none∧S i):Tch N S dst hp hp1 (Ao hp m) (Ao hp1 m):=by
 refine ⟨fun i hi=>fun h=>hi (Ex.1 h),fun i hN hd hi=>?_,fun i hi=>?_,fun i hn hi=>?_⟩
 ·have e:i ∉ m:=by
   intro h;rcases hi with hi|hi
   ·exact hi (hm i h).2
   ·exact (hm i h).1 hi
  rw [Cr,Cr,if_neg e,if_neg e];exact ⟨rfl,rfl⟩
 ·rw [Cr,Cr,hi]
 ·rw [Cr,if_neg (fun h=>hn (hm i h).2)]
theorem Apn {S:Nat->Prop}(h:∀i,S i->hp i=hp1 i∨(hp i=none∧∀b,Rel none b)) {l:List Nat}(hl:∀i∈l,S i):Agr Rel (L5 hp) (L5 hp1) l:=by
 intro i hi;rcases h i (hl i hi) with h|⟨h,h'⟩
 ·left;unfold L5;rw [h]
 ·exact .inr ⟨Nt h,h'⟩
theorem Ar0 (hn:Rel none none){t:TypeId}{a x:PV}{K:St->Option R}{K':St->Option R'}{S:Nat->Prop}(hS:∀i,S i->hp i=hp1 i∨(hp i=none∧∀b,Rel none b)) (ha:∀i∈Bd a,S i)(hx:∀i∈Dc x,S i)
  (hK:∀hp' hp1',Tch N S none hp hp1 hp' hp1'->Rel (K ⟨tm,hp'⟩) (K' ⟨tm',hp1'⟩)):Rel (Afu P ⟨tm,hp⟩ t a x K) (Afu P ⟨tm',hp1⟩ t a x K'):=by
 unfold Afu;split
 ·rename_i id off;show Rel (match hp id with|some (.st c)=>_|some (.ar false c)=>_|_=>none) (match hp1 id with|some (.st c)=>_|some (.ar false c)=>_|_=>none)
  have hid:S id:=ha id (by simp [Bd])
  rcases hS id hid with h|⟨h,hb⟩
  ·rw [←h];split
   ·rename_i c hc;exact Bi hn fun _=>Qw hn fun _=>hK _ _ (Yw hid (by rw [hc];simp) (Xs _ _))
   ·rename_i c hc;refine Bi hn fun _=>Ah9 hn (Apn hS fun i hi=>hx i ?_) fun _ m hm=>Bi hn fun _=>hK _ _ (Yw hid (by rw [hc];simp) (At9 fun i hi=>⟨fun h=>(hm i hi).1 (Nt h),hx i ?_⟩))
    ·obtain ⟨c,hc,hi⟩:=List.mem_flatMap.1 hi;exact Xb hc hi
    ·obtain ⟨c,hc,hi⟩:=List.mem_flatMap.1 (hm i hi).2;exact Xb hc hi
   ·exact hn
  ·rw [h];exact hb _
 ·exact hn
theorem Aew (hn:Rel none none){es:Nat}{t:TypeId}{x:PV}{K:Nat->List PV->Option R}{K':Nat->List PV->Option R'}{S:Nat->Prop}(hS:∀i,S i->hp i=hp1 i∨(hp i=none∧∀b,Rel none b)) (hx:∀i∈Dc x,S i)(hK:∀m c,Rel (K m c) (K' m c)):Rel (Asy P ⟨tm,hp⟩ es t x K) (Asy P ⟨tm',hp1⟩ es t x K'):=by
 unfold Asy At8;split
 ·exact Bi hn fun _=>Hh hn fun _=>hK _ _
 ·exact Ado hn (Apn hS fun i hi=>hx i (Xd hi)) hK
 ·exact hn
theorem Ac9 (hn:Rel none none){d:Nat}{t tx:TypeId}{b x:PV}{K:St->Option R}{K':St->Option R'}{S:Nat->Prop}(hS:∀i,S i->hp i=hp1 i∨(hp i=none∧∀b,Rel none b)) (hdd:hp d=hp1 d)(hb:∀i∈Dc b,S i)(hx:∀i∈Dc x,S i)
  (hK:∀v hp' hp1',(∀M,Tch M S (some d) hp hp1 hp' hp1')->Rel (K ⟨Dg tm d v,hp'⟩) (K' ⟨Dg tm' d v,hp1'⟩)):Rel (R4 P N ⟨tm,hp⟩ d t tx b x K) (R4 P N ⟨tm',hp1⟩ d t tx b x K'):=by
 unfold R4;split
 ·refine Bi hn fun _=>?_
  cases Adv P tx
  rotate_left
  ·show Rel (W7 P N ⟨tm,hp⟩ d _ b x K) (W7 P N ⟨tm',hp1⟩ d _ b x K');refine Eu hn fun _ n=>Gw hn fun z _ _=>?_
   show Rel (Aq (z&&Nat.blt d N&&(hp d).isNone&&_&&_&&_) _) (Aq (z&&Nat.blt d N&&(hp1 d).isNone&&_&&_&&_) _);rw [←hdd];exact Bi hn fun hb=>hK _ _ _ (fun M=>Aoj (by simp only [Bool.and_eq_true,Option.isNone_iff_eq_none] at hb;simp only [hb]) (Xs _ _))
  rw [cond_false,cond_false];refine Aew hn hS hx fun m new=>?_
  split
  ·rename_i id es off n;show Rel (match hp id with|some (.ar false c)=>Aq (Nat.beq es _&&Nat.beq off 0&&Nat.blt d N&&(hp d).isNone&&_&&_&&_&&_) _|_=>none) (match hp1 id with|some (.ar false c)=>Aq (Nat.beq es _&&Nat.beq off 0&&Nat.blt d N&&(hp1 d).isNone&&_&&_&&_&&_) _|_=>none)
   have hid:S id:=hb id (by simp [Dc,Bd])
   rw [←hdd];rcases hS id hid with h|⟨h,hbb⟩
   ·rw [←h];split
    ·rename_i c hc;exact Bi hn fun hb=>hK _ _ _ (fun M=>Aoj (by simp only [Bool.and_eq_true,Option.isNone_iff_eq_none] at hb;simp only [hb]) (Yw hid (by rw [hc];simp) (Xs _ _)))
    ·exact hn
   ·rw [h];exact hbb _
  ·refine Gw hn fun z _ _=>?_
   show Rel (Aq (z&&Nat.blt d N&&(hp d).isNone&&_&&_&&_) _) (Aq (z&&Nat.blt d N&&(hp1 d).isNone&&_&&_&&_) _);rw [←hdd];exact Bi hn fun hb=>hK _ _ _ (fun M=>Aoj (by simp only [Bool.and_eq_true,Option.isNone_iff_eq_none] at hb;simp only [hb]) (Xs _ _))
 ·exact hn
theorem At3 (hn:Rel none none){d:Option Tmp}{t tx:TypeId}{b x:PV}{K:St->Option R}{K':St->Option R'}{S:Nat->Prop}(hS:∀i,S i->hp i=hp1 i∨(hp i=none∧∀b,Rel none b)) (hb:∀i∈Dc b,S i)(hx:∀i∈Dc x,S i)
  (hK:∀v hp' hp1',Tch N S d hp hp1 hp' hp1'->Rel (K ⟨Cb tm d v,hp'⟩) (K' ⟨Cb tm' d v,hp1'⟩)):Rel (An6 P N ⟨tm,hp⟩ d t tx b x K) (An6 P N ⟨tm',hp1⟩ d t tx b x K'):=by
 unfold An6;split
 ·refine Bi hn fun _=>?_
  refine Aew hn hS hx fun m new=>?_
  split
  ·rename_i id es off n;show Rel (match hp id with|some (.ar false c)=>Aq (Nat.beq es _&&_&&_) _|_=>none) (match hp1 id with|some (.ar false c)=>Aq (Nat.beq es _&&_&&_) _|_=>none)
   have hid:S id:=hb id (by simp [Dc,Bd])
   rcases hS id hid with h|⟨h,hbb⟩
   ·rw [←h];split
    ·rename_i c hc;exact Bi hn fun _=>hK _ _ _ (Yw hid (by rw [hc];simp) (Xs _ _))
    ·exact hn
   ·rw [h];exact hbb _
  ·exact hn
 ·exact hn
def A5u (o:Oper)(tm:Nat->PV)(i:Nat):Prop:=∃x∈o.op.operands.toList,i∈Cs (C1 tm x)
def Rch (o:Oper)(tm:Nat->PV)(hp:Nat->Option Ck)(i:Nat):Prop:=A5u o tm i∨Qq o.op=false∧∃id c,A5u o tm id∧hp id=some (.st c)∧∃p∈c,i∈Bd p
theorem Aw1 (hn:Rel none none){mv:Bool}{t:CT}{p:PV}{K:PV->List Nat->List Nat->Option R}{K':PV->List Nat->List Nat->Option R'}{S:Nat->Prop}(hS:∀i,S i->hp i=hp1 i∨(hp i=none∧∀b,Rel none b)) (hp_:∀i∈Bd p,S i)
  (hK:∀c m x,(∀i∈m++x,hp i≠none∧S i)->Rel (K c m x) (K' c m x)):Rel (Aw5 mv hp t p K) (Aw5 mv hp1 t p K'):=by
 have frz:∀{t:CT} {p:PV},(∀i∈Bd p,S i)->Rel (Re (L5 hp) t p fun c m=>K c m []) (Re (L5 hp1) t p fun c m=>K' c m []):=fun h=>Anw hn (Apn hS h) fun c m hm=>hK _ _ _ fun i hi=>by
  rw [List.append_nil] at hi;exact ⟨fun e=>(hm i hi).1 (Nt e),h i (hm i hi).2⟩
 unfold Aw5;split
 ·rename_i es;cases mv<;>simp only [cond_true,cond_false]
  ·exact frz hp_
  ·split
   ·rename_i id es' off n;rcases hS id (hp_ id (by simp [Bd])) with h|⟨h,hb⟩
    ·rw [←h];split
     ·rename_i c hc;cases (Nat.beq es' es&&Nat.beq off 0)<;>simp only [cond_true,cond_false]
      ·exact frz hp_
      ·exact Bi hn fun _=>hK _ _ _ fun i hi=>by
        simp only [List.nil_append,List.mem_singleton] at hi;subst hi;exact ⟨by rw [hc];simp,hp_ i (by simp [Bd])⟩
     ·exact frz hp_
    ·rw [h]
     have:(Re (L5 hp) (.sl es) (.view id es' off n) fun c m=>K c m [])=none:=by
      unfold Re;simp only;cases Nat.beq es' es
      ·rfl
      ·simp only [cond_true,Nt h,Ez]
     show Rel (Re (L5 hp) (.sl es) (.view id es' off n) fun c m=>K c m []) _
     rw [this];exact hb _
   ·refine Gw hn fun z n c=>?_
    cases z
    ·exact hK _ _ _ (by simp)
    ·exact hK _ _ _ (by simp)
 ·exact R8 hn fun _=>hK _ _ _ (by simp)
theorem U6 (hn:Rel none none){mv:Bool}{S:Nat->Prop}(hS:∀i,S i->hp i=hp1 i∨(hp i=none∧∀b,Rel none b)):∀{ts:List CT}{ps:List PV}{K:List PV->List Nat->List Nat->Option R}{K':List PV->List Nat->List Nat->Option R'},(∀p∈ps,∀i∈Bd p,S i) ->
  (∀c m x,(∀i∈m++x,hp i≠none∧S i)->Rel (K c m x) (K' c m x))->Rel (Ag1 mv hp ts ps K) (Ag1 mv hp1 ts ps K')
 |[],[],_,_,_,hK=>hK _ _ _ (by simp)
 |[],_::_,_,_,_,_=>hn
 |_::_,[],_,_,_,_=>hn
 |_::_,p::ps,_,_,hp_,hK=>Aw1 hn hS (hp_ p (by simp)) fun _ m x hm=>U6 hn hS (fun q hq=>hp_ q (by simp [hq])) fun _ ms xs hms=>hK _ _ _ fun i hi=>by
   simp only [List.mem_append] at hi hm hms;rcases hi with (hi|hi)|(hi|hi)
   ·exact hm i (.inl hi)
   ·exact hms i (.inl hi)
   ·exact hm i (.inr hi)
   ·exact hms i (.inr hi)
theorem Aqh (hn:Rel none none){C:Jf}{f:FuncId}{i:Nat}{t:TypeId}{p:PV}{K:PV->List Nat->List Nat->List Hw->Option R}{K':PV->List Nat->List Nat->List Hw->Option R'}{S:Nat->Prop}(hS:∀i,S i->hp i=hp1 i∨(hp i=none∧∀b,Rel none b))
  (hp_:∀i∈Cs p,S i)(hc:∀i∈Cs p,∀c,hp1 i=some (.st c)->∀q∈c,∀k∈Bd q,S k)
  (hK:∀v m x l,(∀i∈m++x++l.flatMap Hw.ids,hp i≠none∧S i)->Rel (K v m x l) (K' v m x l)):Rel (Ae9 C P f hp i t p K) (Ae9 C P f hp1 i t p K'):=by
 unfold Ae9;split
 ·split
  ·rename_i id off;have hid:S id:=hp_ id (by simp [Cs,Dc,Bd])
   rcases hS id hid with h|⟨h,hb⟩
   ·rw [h];split
    ·rename_i c hc1;refine Bi hn fun _=>U6 hn hS (fun q hq k hk=>hc id (by simp [Cs,Dc,Bd]) c hc1 q (List.mem_of_mem_drop (List.mem_of_mem_take hq)) k hk) fun cs m x hm=>hK _ _ _ _ fun k hk=>?_
     rcases List.mem_append.1 hk with hk|hk
     ·exact hm k hk
     ·simp only [List.flatMap_cons,List.flatMap_nil,Hw.ids,List.append_nil,List.mem_singleton] at hk;subst hk;exact ⟨by rw [h,hc1];simp,hid⟩
    ·exact hn
   ·rw [h];exact hb _
  ·exact hn
 ·cases C.lnd f i
  ·cases Df P t
   ·exact U6 hn hS (fun q hq k hk=>by
     simp at hq;subst hq;exact hp_ k (Mu hk)) fun cs m x hm=>B7 hn fun _ _ _=>F5 hn (hK _ _ _ _ (by simpa using hm))
   ·refine Lh hn fun cs hcs=>U6 hn hS (fun q hq k hk=>hp_ k ?_) fun cs m x hm=>hK _ _ _ _ (by simpa using hm)
    subst hcs;exact List.mem_flatMap.2 ⟨q,hq,hk⟩
  ·refine Ei hn fun e he=>?_
   unfold A0t;split
   ·rename_i id es' off n;have hid:S id:=hp_ id (by simp [Cs,Dc,Bd])
    rcases hS id hid with h|⟨h,hb⟩
    ·rw [h];split
     ·rename_i c hc1;refine Bi hn fun _=>hK _ _ _ _ fun k hk=>?_
      simp only [List.nil_append,List.flatMap_cons,List.flatMap_nil,Hw.ids,List.append_nil,List.mem_singleton] at hk;subst hk;exact ⟨by rw [h,hc1];simp,hid⟩
     ·exact hn
    ·rw [h];exact hb _
   ·exact Gw hn fun _ _ _=>Bi hn fun _=>hK _ _ _ _ (by simp [Hw.ids])
theorem Aj2 (hn:Rel none none){C:Jf}{f:FuncId}{S:Nat->Prop}(hS:∀i,S i->hp i=hp1 i∨(hp i=none∧∀b,Rel none b)):∀{ts:List TypeId}{ps:List PV}{i:Nat}{K:List PV->List Nat->List Nat->List Hw->Option R}{K':List PV->List Nat->List Nat->List Hw->Option R'},
  (∀p∈ps,∀i∈Cs p,S i)->(∀p∈ps,∀i∈Cs p,∀c,hp1 i=some (.st c)->∀q∈c,∀k∈Bd q,S k) ->
  (∀v m x l,(∀i∈m++x++l.flatMap Hw.ids,hp i≠none∧S i)->Rel (K v m x l) (K' v m x l))->Rel (Ant C P f hp i ts ps K) (Ant C P f hp1 i ts ps K')
 |[],[],_,_,_,_,_,hK=>hK _ _ _ _ (by simp)
 |[],_::_,_,_,_,_,_,_=>hn
 |_::_,[],_,_,_,_,_,_=>hn
 |_::_,p::ps,_,_,_,hp_,hc,hK=>Aqh hn hS (hp_ p (by simp)) (hc p (by simp)) fun _ m x l hm=>Aj2 hn hS (fun q hq=>hp_ q (by simp [hq])) (fun q hq=>hc q (by simp [hq])) fun _ ms xs ls hms=>hK _ _ _ _ fun i hi=>by
   simp only [List.mem_append,List.flatMap_append] at hi hm hms;rcases hi with ((hi|hi)|(hi|hi))|(hi|hi)
   ·exact hm i (.inl (.inl hi))
   ·exact hms i (.inl (.inl hi))
   ·exact hm i (.inl (.inr hi))
   ·exact hms i (.inl (.inr hi))
   ·exact hm i (.inr hi)
   ·exact hms i (.inr hi)
theorem Azo (hn:Rel none none){t:Nat}{ct:CT}{was p:PV}{K:Nat->PV->List (Nat × Ck)->Option R} {K':Nat->PV->List (Nat × Ck)->Option R'} (hK:∀t c b,(∀q∈b,∃k,q.1=nid N k)->Rel (K t c b) (K' t c b)):Rel (Aw6 N t ct was p K) (Aw6 N t ct was p K'):=by
 unfold Aw6;split
 ·split
  ·exact Avv hn fun _ _=>hK _ _ _ (by intro q hq;simp only [List.mem_singleton] at hq;subst hq;exact ⟨t,rfl⟩)
  ·exact Gw hn fun _ _ _=>hK _ _ _ (by simp)
 ·exact R8 hn fun _=>hK _ _ _ (by simp)
theorem Am5 (hn:Rel none none):∀{cts:List CT}{ws ps:List PV}{t:Nat}{K:Nat->List PV->List (Nat × Ck)->Option R} {K':Nat->List PV->List (Nat × Ck)->Option R'},(∀t c b,(∀q∈b,∃k,q.1=nid N k)->Rel (K t c b) (K' t c b))->Rel (An5 N t cts ws ps K) (An5 N t cts ws ps K')
 |[],[],_,_,_,_,hK=>F5 hn (hK _ _ _ (by simp))
 |[],_::_,_,_,_,_,_=>hn
 |_::_,[],_,_,_,_,_=>hn
 |_::_,_::_,_,_,_,_,hK=>B7 hn fun _ _ _=>Azo hn fun _ _ b hb=>Am5 hn fun _ _ bs hbs=>hK _ _ _ fun q hq=>by
   rcases List.mem_append.1 hq with h|h
   ·exact hb q h
   ·exact hbs q h
theorem Y3 (hn:Rel none none){S:Nat->Prop}{dst:Option Nat}:∀{l:List Hw}{ro:List (List PV)} {t:Nat}{h0 h1:Nat->Option Ck}{K:(Nat->Option Ck)->List (Nat × Ck)->Option R} {K':(Nat->Option Ck)->List (Nat × Ck)->Option R'},
  Tch N S dst hp hp1 h0 h1->(∀i∈l.flatMap Hw.ids,hp i≠none∧S i∧hp i=hp1 i)->(∀h0' h1' b,Tch N S dst hp hp1 h0' h1'->(∀q∈b,∃k,q.1=nid N k)->Rel (K h0' b) (K' h1' b))->Rel (Aa6 N t l ro h0 K) (Aa6 N t l ro h1 K')
 |[],_,_,_,_,_,_,hT,_,hK=>F5 hn (hK _ _ _ hT (by simp))
 |.var id off cts ws::l,ro,t,h0,h1,K,K',hT,hl,hK=>by
  unfold Aa6;refine B7 hn fun cs ro _=>Am5 hn fun t' cs' bs hbs=>?_
  have hid:=hl id (by simp [Hw.ids])
  rw [←hT.same id hid.2.2];split
  ·exact Y3 hn (Yw hid.2.1 hid.1 hT) (fun i hi=>hl i (by simp only [List.flatMap_cons,List.mem_append];exact .inr hi)) fun h0' h1' b hT' hb=>hK _ _ _ hT' fun q hq=>by
    rcases List.mem_append.1 hq with h|h
    ·exact hbs q h
    ·exact hb q h
  ·exact hn
 |.row id::l,ro,t,h0,h1,K,K',hT,hl,hK=>by
  unfold Aa6;have hid:=hl id (by simp [Hw.ids])
  exact B7 hn fun cs ro _=>Y3 hn (Yw hid.2.1 hid.1 hT) (fun i hi=>hl i (by simp only [List.flatMap_cons,List.mem_append];exact .inr hi)) hK
 |.none::l,ro,t,h0,h1,K,K',hT,hl,hK=>by
  unfold Aa6;exact B7 hn fun cs ro _=>Y3 hn hT (fun i hi=>hl i (by simp only [List.flatMap_cons,List.mem_append];exact .inr hi)) hK
theorem Ash (h:∀i,N<=i->hp i=hp1 i)(hN:0<N):∀k t,Ark N hp k t=Ark N hp1 k t
 |0,_=>rfl
 |k+1,t=>by
  unfold Ark;rw [h (nid N t) (by unfold nid;exact Nat.le_mul_of_pos_right _ (by omega)),Ash h hN k (t+1)]
theorem Amd {h0 h1:Nat->Option Ck}:∀{nw:List (Nat × Ck)},(∀q∈nw,h0 q.1=h1 q.1)->Cp h0 nw=Cp h1 nw
 |[],_=>rfl
 |(i,b)::nw,h=>by
  unfold Cp;rw [h (i,b) (by simp),Amd (fun q hq=>h q (by simp [hq]))]
theorem Akz {S:Nat->Prop}{dst:Option Nat}{h0 h1:Nat->Option Ck}(hT:Tch N S dst hp hp1 h0 h1):∀{nw:List (Nat × Ck)} {g0 g1:Nat->Option Ck},Tch N S dst hp hp1 g0 g1->(∀q∈nw,N<=q.1∨dst=some q.1)->(∀q∈nw,hp q.1=none)->Tch N S dst hp hp1 (Be g0 nw) (Be g1 nw)
 |[],_,_,h,_,_=>h
 |(i,b)::nw,g0,g1,h,hi,hz=>by
  refine Akz hT (nw:=nw) ⟨fun k hk=>?_,fun k hN hd hk=>?_,fun k hk=>?_,fun k hn hk=>?_⟩ (fun q hq=>hi q (by simp [hq])) (fun q hq=>hz q (by simp [hq]))
  ·by_cases e:k=i
   ·subst e;rw [A8];simp
   ·rw [A3 _ _ e];exact h.keep k hk
  ·have e:k≠i:=by
    rintro rfl
    rcases hi (k,b) (by simp) with q|q
    ·simp only at q;omega
    ·exact hd q
   rw [A3 _ _ e,A3 _ _ e];exact h.off k hN hd hk
  ·by_cases e:k=i
   ·subst e;rw [A8,A8]
   ·rw [A3 _ _ e,A3 _ _ e];exact h.same k hk
  ·rw [A3 _ _ (by rintro rfl;exact hk (hz (k,b) (by simp)))];exact h.far k hn hk
theorem A7x {S:Nat->Prop}{dst:Option Nat}{m x:List Nat}(hm:∀i∈m++x,hp i≠none∧S i):Tch N S dst hp hp1 (Yb (Ao hp m) x) (Yb (Ao hp1 m) x):=by
 refine ⟨fun i hi h=>?_,fun i hN hd hi=>?_,fun i hi=>?_,fun i hn hi=>?_⟩
 ·rw [G8] at h;have h1:Ao hp m i≠none:=fun e=>hi (Ex.1 e)
  split at h
  ·cases hq:Ao hp m i with
   |none=>exact h1 hq
   |some b=>rw [hq] at h;cases h
  ·exact h1 h
 ·have e:i ∉ m∧i ∉ x:=by
   refine ⟨fun h=>?_,fun h=>?_⟩<;>(rcases hi with hi|hi)
   ·exact hi (hm i (by simp [h])).2
   ·exact (hm i (by simp [h])).1 hi
   ·exact hi (hm i (by simp [h])).2
   ·exact (hm i (by simp [h])).1 hi
  rw [G8,G8,if_neg e.2,if_neg e.2,Cr,Cr,if_neg e.1,if_neg e.1];exact ⟨rfl,rfl⟩
 ·rw [G8,G8,Cr,Cr,hi]
 ·rw [G8,Cr,if_neg (fun h=>hn (hm i (by simp [h])).2),if_neg (fun h=>hn (hm i (by simp [h])).2)]
theorem Asb (hn:Rel none none){C:Jf}{call:Am}{f:FuncId}{c:Call}{K:St->Option R}{K':St->Option R'}{S:Nat->Prop}(htm:c.args.toList.map (C1 tm)=c.args.toList.map (C1 tm')) (hS:∀i,S i->hp i=hp1 i∨(hp i=none∧∀b,Rel none b))
  (hp_:∀p∈c.args.toList.map (C1 tm'),∀i∈Cs p,S i) (hc:∀p∈c.args.toList.map (C1 tm'),∀i∈Cs p,∀c,hp1 i=some (.st c)->∀q∈c,∀k∈Bd q,S k)
  (hdd:∀d,o.dst=some d->hp d=hp1 d)(hNN:∀i,N<=i->hp i=hp1 i)
  (hK:∀v hp' hp1',Tch N S o.dst hp hp1 hp' hp1'->Rel (K ⟨Cb tm o.dst v,hp'⟩) (K' ⟨Cb tm' o.dst v,hp1'⟩)):Rel (Aft C P N call ⟨tm,hp⟩ o f c K) (Aft C P N call ⟨tm',hp1⟩ o f c K'):=by
 unfold Aft;simp only [htm];refine Aj2 hn hS hp_ hc fun vs m x l hm=>Bi hn fun hb=>Anj hn fun rv ro=>Aeq hn fun ws bs hbs=>Bi hn fun _=>?_
 simp only [Bool.and_eq_true] at hb;have hN:0<N:=Nat.lt_of_succ_le (Nat.le_of_ble_eq_true hb.1.2);rw [Ash hNN hN];by_cases hbad:∃i∈l.flatMap Hw.ids,hp i≠hp1 i
 ·obtain ⟨i,hi,hne⟩:=hbad;obtain ⟨h1,h2⟩:=hm i (List.mem_append.2 (.inr hi));rcases hS i h2 with h|⟨h,_⟩
  ·exact absurd h hne
  ·exact absurd h h1
 have hl:∀i∈l.flatMap Hw.ids,hp i≠none∧S i∧hp i=hp1 i:=fun i hi=>⟨(hm i (List.mem_append.2 (.inr hi))).1,(hm i (List.mem_append.2 (.inr hi))).2,Classical.byContradiction fun h=>hbad ⟨i,hi,h⟩⟩
 have hT0:Tch N S o.dst hp hp1 (Yb (Ao hp m) x) (Yb (Ao hp1 m) x):=A7x fun i hi=>hm i (List.mem_append.2 (.inl hi))
 refine Y3 hn hT0 hl fun h0 h1 bs' hT hbs'=>?_
 have hids:∀q∈bs++bs',N<=q.1∨o.dst=some q.1:=by
  intro q hq;rcases List.mem_append.1 hq with hq|hq
  ·obtain ⟨j,hj⟩:=hbs q hq;cases hd:o.dst with
   |none=>
    rw [hd] at hj;left;rw [hj];exact Nat.le_add_right _ _
   |some d=>
    rw [hd] at hj;change q.1=d+N*j at hj;cases j with
    |zero=>right;rw [hj];simp
    |succ j=>left;rw [hj,Nat.mul_add];omega
  ·obtain ⟨k,hk⟩:=hbs' q hq;left;rw [hk];unfold nid;exact Nat.le_mul_of_pos_right _ (by omega)
 have hsame:∀q∈bs++bs',h0 q.1=h1 q.1:=by
  intro q hq;refine hT.same q.1 ?_;rcases hids q hq with h|h
  ·exact hNN _ h
  ·exact hdd _ h
 rw [Amd hsame]
 exact Bi hn fun hb=>hK _ _ _ (Akz hT hT hids fun q hq=>by
  cases hz:hp q.1 with
  |none=>rfl
  |some c=>exact absurd ((hsame q hq).trans ((Cc hb).1 q.1 q.2 hq)) (hT.keep q.1 (by rw [hz];simp)))
theorem M1 (hn:Rel none none){C:Jf}{call:Am}{K:St->Option R}{K':St->Option R'}(htm:∀x∈o.op.operands.toList,C1 tm x=C1 tm' x)
  (hS:∀i,Rch o tm' hp1 i->hp i=hp1 i∨(hp i=none∧∀b,Rel none b)) (hdd:∀d,o.dst=some d->hp d=hp1 d)(hNN:∀i,N<=i->hp i=hp1 i)
  (hK:∀v hp' hp1',Tch N (Rch o tm' hp1) o.dst hp hp1 hp' hp1'->Rel (K ⟨Cb tm o.dst v,hp'⟩) (K' ⟨Cb tm' o.dst v,hp1'⟩)):Rel (Zn C P N call ⟨tm,hp⟩ o K) (Zn C P N call ⟨tm',hp1⟩ o K'):=by
 unfold Zn;have hl:∀x∈o.op.operands.toList,∀i∈Cs (C1 tm' x),Rch o tm' hp1 i:=fun x hx i hi=>.inl ⟨x,hx,hi⟩
 have hl2:Qq o.op=false->∀x∈o.op.operands.toList,∀i∈Cs (C1 tm' x),∀c,hp1 i=some (.st c)->∀q∈c,∀k∈Bd q,Rch o tm' hp1 k:=fun ha x hx i hi c hc q hq k hk=>.inr ⟨ha,i,c,⟨x,hx,hi⟩,hc,q,hq,hk⟩
 generalize hLd:Rch o tm' hp1=S at *
 generalize hop:o.op=op at *
 split
 ·rename_i t x y;simp only [htm x (by simp [Op.operands]),htm y (by simp [Op.operands])]
  refine Bi hn fun hd=>Ar0 (N:=N) hn hS (fun i hi=>hl x (by simp [Op.operands]) i (Mu hi)) (fun i hi=>hl y (by simp [Op.operands]) i (Gp hi)) fun hp' hp1' hh=>?_
  have hd':=Option.isNone_iff_eq_none.1 hd;have:=hK .top hp' hp1' (by rw [hd'];exact hh)
  rw [hd'] at this;exact this
 ·rename_i c
  have hmem:∀x∈c.args.toList,x∈(Op.call c).operands.toList:=by
   intro x hx;simp only [Op.operands,Call.operands,Array.toList_append,List.mem_append];exact .inr hx
  split
  ·rename_i hc;refine Ei hn fun d hd=>B7 hn fun x _ hx=>B7 hn fun y _ hy=>F5 hn (B7 hn fun _ _ _=>B7 hn fun _ _ _=>?_)
   subst hy;have hxm:=hmem x (by rw [hx];simp)
   have hym:=hmem y (by rw [hx];simp)
   simp only [htm x hxm,htm y hym];refine Ac9 hn hS (hdd d hd) (fun i hi=>hl x hxm i (Gp hi)) (fun i hi=>hl y hym i (Gp hi)) fun v hp' hp1' hh=>?_
   have:=hK v hp' hp1' (by rw [hd];exact hh N)
   rw [hd] at this;exact this
  ·rename_i hc;refine B7 hn fun x _ hx=>B7 hn fun y _ hy=>F5 hn (B7 hn fun _ _ _=>B7 hn fun _ _ _=>?_)
   subst hy;have hxm:=hmem x (by rw [hx];simp)
   have hym:=hmem y (by rw [hx];simp)
   simp only [htm x hxm,htm y hym];exact At3 hn hS (fun i hi=>hl x hxm i (Gp hi)) (fun i hi=>hl y hym i (Gp hi)) hK
  ·rename_i f hcf;refine Asb hn (List.map_congr_left fun x hx=>htm x (hmem x hx)) hS (fun p hp i hi=>?_) (fun p hp i hi=>?_) hdd hNN hK
   ·obtain ⟨x,hx,rfl⟩:=List.mem_map.1 hp;exact hl x (hmem x hx) i hi
   ·obtain ⟨x,hx,rfl⟩:=List.mem_map.1 hp;exact hl2 (by simp only [Qq,hcf]) x (hmem x hx) i hi
  ·exact hn
 ·exact hn
theorem Akr (hn:Rel none none){C:Jf}{call:Am}{K:St->Option R}{K':St->Option R'}(htm:∀x∈o.op.operands.toList,C1 tm x=C1 tm' x)(hK:∀v hp',(∀i,hp i≠none->hp' i≠none)->Rel (K ⟨Cb tm o.dst v,hp'⟩) (K' ⟨Cb tm' o.dst v,hp'⟩)):Rel (Zn C P N call ⟨tm,hp⟩ o K) (Zn C P N call ⟨tm',hp⟩ o K'):=
 M1 hn htm (fun _ _=>.inl rfl) (fun _ _=>rfl) (fun _ _=>rfl) fun v hp' hp1' hT=>by
  have:hp'=hp1':=funext fun i=>hT.same i rfl
  subst this;exact hK v hp' hT.keep
end
section
variable {R:Type} {r:R} {C:Jf} {P:Program} {N:Nat} {call:Am} {ops:Array Oper} {o x:Oper} {s:St} {K:St->Option R}
theorem Aoc {tm:Nat->PV}{hp hp':Nat->Option Ck}{tm':Nat->PV}{q:Aa7}(hm:I0 P o.op=false)(ht:∀t∈looks ops o,tm t=tm' t)(h:gE C P N call ops o ⟨tm,hp⟩=some q):gE C P N call ops o ⟨tm',hp'⟩=some q:=
 Aeb (s:=⟨tm,hp⟩) (s':=⟨tm',hp'⟩) ht (fun h=>by rw [hm] at h;cases h) h
theorem Afo {tm:Nat->PV}{hp:Nat->Option Ck}(hm:I0 P o.op=false)(h:Ee C P N call ops o ⟨tm,hp⟩ K=some r):
  ∃v nw,gE C P N call ops o ⟨tm,hp⟩=some (v,[],nw)∧Hm N o.dst=true∧Cp hp nw=true∧(∀p∈nw,o.dst=some p.1)∧K ⟨Cb tm o.dst v,Be hp nw⟩=some r:=by
 have hM:Vo C P o.op=false:=by
  cases hh:Vo C P o.op
  ·rfl
  ·rw [Acy hh] at hm;cases hm
 rw [Mz (by simp [H2,hM])] at h
 cases e:gE C P N call ops o ⟨tm,hp⟩ with
 |none=>rw [e] at h;cases h
 |some q=>
  obtain ⟨v,fz,nw⟩:=q;obtain ⟨h1,h2⟩:=(Xk e).1 hm;simp only at h1 h2;subst h1;rw [e] at h;obtain ⟨hb,h⟩:=A7 h;simp only [Bool.and_eq_true] at hb;exact ⟨v,nw,rfl,hb.1,hb.2,h2,h⟩
theorem Ak2 {tm:Nat->PV}{hp:Nat->Option Ck}{v:PV}{nw:List (Nat × Ck)} (hm:I0 P o.op=false)(e:gE C P N call ops o ⟨tm,hp⟩=some (v,[],nw)) (hd:Hm N o.dst=true)(ha:Cp hp nw=true)(h:K ⟨Cb tm o.dst v,Be hp nw⟩=some r):Ee C P N call ops o ⟨tm,hp⟩ K=some r:=by
 have hM:Vo C P o.op=false:=by
  cases hh:Vo C P o.op
  ·rfl
  ·rw [Acy hh] at hm;cases hm
 rw [Mz (by simp [H2,hM]),e]
 show Aq _ _=_;have ha':Cp hp nw=true:=ha;rw [hd,ha'];exact h
theorem Pk {hp:Nat->Option Ck}{nw:List (Nat × Ck)} (ha:Cp hp nw=true){i:Nat}(hi:∀p∈nw,p.1≠i):Be hp nw i=hp i:=
 (Fe (Cc ha).2).2 i fun b hb=>hi _ hb rfl
theorem A2m {hp hp':Nat->Option Ck}{nw:List (Nat × Ck)} (ha:Cp hp nw=true){g:Nat->Option Ck}(h1:∀i,(∀p∈nw,p.1≠i)->g i=hp' i) (h2:∀i,(∃p∈nw,p.1=i)->g i=Be hp nw i) (ha':Cp hp' nw=true):g=Be hp' nw:=by
 funext i
 by_cases h:∃p∈nw,p.1=i
 ·rw [h2 i h];obtain ⟨⟨j,b⟩,hp,rfl⟩:=h;rw [(Fe (Cc ha).2).1 j b hp,(Fe (Cc ha').2).1 j b hp]
 ·have h':∀p∈nw,p.1≠i:=fun p hp e=>h ⟨p,hp,e⟩
  rw [h1 i h',Pk ha' h']
theorem A4p (ap:Acn C P ops x o)(hx:H2 C P ops x s.tm=true)
  (h:Ee C P N call ops x s (fun s1=>Ee C P N call ops o s1 K)=some r):Ee C P N call ops o s (fun s1=>Ee C P N call ops x s1 K)=some r:=by
 have hm:I0 P o.op=false:=ap.mx (by unfold H2 at hx;simp only [Bool.and_eq_true] at hx;exact hx.1)
 rw [Jx hx] at h;obtain ⟨tm,hp⟩:=s;have look:∀v,∀t∈looks ops o,Cb tm x.dst v t=tm t:=fun v=>Fs ap.xo
 have h1:=M1 (P:=P) (N:=N) (o:=x) (tm:=tm) (tm':=tm) (hp:=hp) (hp1:=hp) (K:=fun s1=>Ee C P N call ops o s1 K) (K':=fun _=>none)
  (Rel:=fun (a:Option R)(_:Option R)=>a=some r->∃v nw,gE C P N call ops o ⟨tm,hp⟩=some (v,[],nw)∧Hm N o.dst=true∧(∀p∈nw,o.dst=some p.1)∧Cp hp nw=true) (fun h=>by cases h) (fun _ _=>rfl) (fun _ _=>.inl rfl) (fun _ _=>rfl) (fun _ _=>rfl) (fun v hp' _ hT h=>by
   obtain ⟨u,nw,hu,hd,ha,hn,_⟩:=Afo hm h;refine ⟨u,nw,Aoc hm (look v) hu,hd,hn,Tz ha fun i b hi=>?_⟩
   cases hh:hp i with
   |none=>rfl
   |some c=>exact absurd ((Cc ha).1 i b hi) (hT.keep i (by rw [hh];simp))) h
 obtain ⟨v,nw,hv,hd,hn,ha⟩:=h1;refine Ak2 hm hv hd ha ?_;have t2:∀t∈looks ops x,tm t=Cb tm o.dst v t:=fun t ht=>(Fs ap.ox t ht).symm
 rw [Jx (by rw [←Ij t2];exact hx)]
 refine M1 (P:=P) (N:=N) (o:=x) (tm:=tm) (tm':=Cb tm o.dst v) (hp:=hp) (hp1:=Be hp nw) (Rel:=fun (a b:Option R)=>a=some r->b=some r) (fun h=>by cases h) (Ge t2) (fun i _=>?_) (fun d hxd=>?_) (fun i hi=>(Pk ha fun p hp e=>by have:=Ub hd (hn p hp);omega).symm) (fun u hp' hp1' hT h=>?_) h
 ·by_cases hi:∃p∈nw,p.1=i
  ·obtain ⟨⟨j,b⟩,hp1,rfl⟩:=hi;exact .inr ⟨(Cc ha).1 j b hp1,fun _ h=>by cases h⟩
  ·exact .inl (Pk ha fun p hp e=>hi ⟨p,hp,e⟩).symm
 ·refine (Pk ha fun p hp e=>?_).symm
  have:=hn p hp;rw [e] at this;exact ap.ne d hxd this
 ·obtain ⟨v',nw',hv',_,ha',_,h'⟩:=Afo hm h;have he:=Aoc (hp':=hp) hm (look u) hv';rw [hv] at he;simp only [Option.some.injEq,Prod.mk.injEq,true_and] at he;obtain ⟨rfl,rfl⟩:=he
  have hh:hp1'=Be hp' nw:=by
   refine A2m ha (fun i hi=>?_) (fun i hi=>?_) ha'
   ·exact (hT.same i (Pk ha hi).symm).symm
   ·obtain ⟨⟨j,b⟩,hp1,rfl⟩:=hi;refine (hT.off j (Ub hd (hn _ hp1)) (fun e=>ap.ne j e (hn _ hp1)) (.inr ((Cc ha).1 j b hp1))).2
  rw [hh,←Mv ap.ne];exact h'
theorem A4h (hw:Has C P o s)(ap:Acn C P ops x o)(ho:H2 C P ops o s.tm=true)
  (h:Ee C P N call ops x s (fun s1=>Ee C P N call ops o s1 K)=some r):Ee C P N call ops o s (fun s1=>Ee C P N call ops x s1 K)=some r:=by
 have hm:I0 P x.op=false:=ap.mo (by unfold H2 at ho;simp only [Bool.and_eq_true] at ho;exact ho.1)
 obtain ⟨tm,hp⟩:=s;obtain ⟨v,nw,hv,hd,ha,hn,h1⟩:=Afo hm h;have t1:∀t∈looks ops o,Cb tm x.dst v t=tm t:=Fs ap.xo;change Ee C P N call ops o ⟨Cb tm x.dst v,Be hp nw⟩ K=some r at h1;rw [Jx (by rw [Ij t1];exact ho)] at h1
 rw [Jx ho];have hMo:Vo C P o.op=true:=by unfold H2 at ho;simp only [Bool.and_eq_true] at ho;exact ho.1
 have hlead:∀i,Rch o tm hp i->hp i≠none:=by
  rintro i (⟨y,hy,hi⟩|⟨hap,id,c,⟨y,hy,hi⟩,hc,p,hp1,hk⟩)
  ·exact hw.1 y hy i hi
  ·exact hw.2 hMo hap y hy id hi c hc p hp1 i hk
 refine M1 (P:=P) (N:=N) (o:=o) (tm:=Cb tm x.dst v) (tm':=tm) (hp:=Be hp nw) (hp1:=hp) (Rel:=fun (a b:Option R)=>a=some r->b=some r) (fun h=>by cases h) (Ge t1) (fun i hi=>?_) (fun d hod=>?_) (fun i hi=>Pk ha fun p hp e=>by have:=Ub hd (hn p hp);omega) (fun u hp' hp1' hT h=>?_) h1
 ·refine .inl (Pk ha fun p hp' e=>hlead i hi ?_)
  rw [←e];exact (Cc ha).1 p.1 p.2 hp'
 ·refine Pk ha fun p hp' e=>?_
  have:=hn p hp';rw [e] at this;exact ap.ne d this hod
 ·have hoff:∀p∈nw,hp' p.1=Be hp nw p.1∧hp1' p.1=none:=by
   intro p hp2;have hno:=(Cc ha).1 p.1 p.2 hp2;have h3:=hT.off p.1 (Ub hd (hn p hp2)) (fun e=>ap.ne p.1 (hn p hp2) e) (.inl fun hL=>hlead _ hL hno)
   exact ⟨h3.1,h3.2.trans hno⟩
  have ha':Cp hp1' nw=true:=Tz ha fun i b hi=>(hoff (i,b) hi).2
  refine Ak2 hm (Aoc hm (fun t ht=>(Fs ap.ox t ht).symm) hv) hd ha' ?_
  have hh:hp'=Be hp1' nw:=by
   refine A2m ha (fun i hi=>?_) (fun i hi=>?_) ha'
   ·exact hT.same i (Pk ha hi)
   ·obtain ⟨p,hp2,rfl⟩:=hi;exact (hoff p hp2).1
  rw [←Mv ap.ne,←hh];exact h
theorem A97 (hw:Has C P o s)(ap:Acn C P ops x o)
  (h:Ee C P N call ops x s (fun s1=>Ee C P N call ops o s1 K)=some r):Ee C P N call ops o s (fun s1=>Ee C P N call ops x s1 K)=some r:=by
 cases hx:H2 C P ops x s.tm
 ·cases ho:H2 C P ops o s.tm
  ·exact Awa hw ap.xo ap.ne ap.ox hx ho h
  ·exact A4h hw ap ho h
 ·exact A4p ap hx h
theorem My (h:W5 P o.op=true):Vo C P o.op=false:=by
 unfold W5 at h;split at h
 ·rename_i ho;rw [ho];rfl
 ·rename_i ho;rw [ho];rfl
 ·cases h
def Al9 (P:Program)(ops:Array Oper)(o:Oper)(tm:Nat->PV):Prop:=W5 P o.op=true∨H7 ops o tm=some false
theorem Abr {tm tm':Nat->PV}(h:∀t∈looks ops o,tm t=tm' t)(hl:Al9 P ops o tm):Al9 P ops o tm':=by
 rcases hl with hl|hl
 ·exact .inl hl
 ·exact .inr (by rw [←M4 h];exact hl)
theorem Amo {tm:Nat->PV}(hl:Al9 P ops o tm):H2 C P ops o tm=false:=by
 rcases hl with hl|hl
 ·simp [H2,My hl]
 ·simp [H2,hl]
theorem Avg {q:Aa7}(hl:Al9 P ops o s.tm)(h:gE C P N call ops o s=some q):q.2.1=[]∧q.2.2=[]:=by
 unfold gE at h;split at h
 ·cases h
 ·rename_i hv
  have hl:W5 P o.op=true:=by
   rcases hl with hl|hl
   ·exact hl
   ·rw [hv] at hl;cases hl
  rw [My hl] at h;have h:Ayb C P N call o s=some q:=h;unfold W5 at hl;split at hl
  ·rename_i t a ho;unfold Ayb Ajq at h;rw [ho] at h
   have:=Amu (P:=P) (f:=rd s.hp) (f':=rd s.hp) (g:=L5 s.hp) (g':=L5 s.hp) (t:=t) (x:=C1 s.tm a) (Rel:=fun (a b:Option Aa7)=>∀q,a=some q->q.2.1=[]∧q.2.2=[])
    (K:=fun v=>some (v,[],[])) (K':=fun v=>some (v,[],[])) (fun _ h=>by cases h) (fun _ _=>.inl ⟨rfl,rfl⟩) (fun v q hq=>by cases hq;exact ⟨rfl,rfl⟩)
   exact this q h
  ·rename_i src dst y ho;unfold Ayb Ajq at h;rw [ho] at h;simp only at h;unfold Ai4 at h;split at hl
   ·rename_i hd;rw [hd] at h;simp only at h;split at h
    ·obtain ⟨_,_,h⟩:=Gg h;obtain ⟨_,_,h⟩:=Dv h;cases h;exact ⟨rfl,rfl⟩
    ·split at h
     ·exact Ado (f:=L5 s.hp) (f':=L5 s.hp) (K':=fun _ _=>(none:Option Aa7)) (Rel:=fun (a _:Option Aa7)=>a=some q->q.2.1=[]∧q.2.2=[]) (fun h=>by cases h) (fun _ _=>.inl rfl) (fun n c h=>by
       obtain ⟨_,h⟩:=A7 h;obtain ⟨_,_,h⟩:=Dv h;obtain ⟨_,_,h⟩:=Dv h;cases h;exact ⟨rfl,rfl⟩) h
     ·cases h
    ·cases h
   ·cases hl
  ·cases hl
 ·cases h;exact ⟨rfl,rfl⟩
theorem Aya {tm tm':Nat->PV}{hp:Nat->Option Ck}(h:∀t∈looks ops o,tm t=tm' t){i:Nat}(hi:Rch o tm hp i):Rch o tm' hp i:=by
 have he:=Ge (ops:=ops) (o:=o) h;rcases hi with ⟨y,hy,hi⟩|⟨hap,id,c,⟨y,hy,hi⟩,hc,q⟩
 ·exact .inl ⟨y,hy,by rw [←he y hy];exact hi⟩
 ·exact .inr ⟨hap,id,c,⟨y,hy,by rw [←he y hy];exact hi⟩,hc,q⟩
theorem A5s {hp hp':Nat->Option Ck}{i:Nat}(h:hp' i=hp i):rd hp' i=rd hp i∧L5 hp' i=L5 hp i:=by
 unfold rd L5;rw [h];exact ⟨rfl,rfl⟩
theorem Afc {tm:Nat->PV}{hp:Nat->Option Ck}(hl:Al9 P ops o tm)(h:Ee C P N call ops o ⟨tm,hp⟩ K=some r):
  ∃v,gE C P N call ops o ⟨tm,hp⟩=some (v,[],[])∧Hm N o.dst=true∧K ⟨Cb tm o.dst v,hp⟩=some r:=by
 rw [Mz (Amo hl)] at h;cases e:gE C P N call ops o ⟨tm,hp⟩ with
 |none=>rw [e] at h;cases h
 |some q=>
  obtain ⟨v,fz,nw⟩:=q;obtain ⟨h1,h2⟩:=Avg hl e;simp only at h1 h2;subst h1;subst h2;rw [e] at h;obtain ⟨hb,h⟩:=A7 h;simp only [Bool.and_eq_true] at hb;exact ⟨v,rfl,hb.1,h⟩
theorem Aj8 {tm:Nat->PV}{hp:Nat->Option Ck}{v:PV}(hl:Al9 P ops o tm)(e:gE C P N call ops o ⟨tm,hp⟩=some (v,[],[])) (hd:Hm N o.dst=true)(h:K ⟨Cb tm o.dst v,hp⟩=some r):Ee C P N call ops o ⟨tm,hp⟩ K=some r:=by
 rw [Mz (Amo hl),e];show Aq _ _=_;have ha:Cp hp []=true:=rfl;simp only [hd,ha,Bool.and_self];exact h
theorem A4j (hw:Has C P o s)(xo:∀d,x.dst=some d->d ∉ looks ops o)(ne:∀d,x.dst=some d->o.dst≠some d)(ox:∀d,o.dst=some d->d ∉ looks ops x)(hl:Al9 P ops o s.tm)
  (hfar:∀y∈o.op.operands.toList,∀i∈Cs (C1 s.tm y),¬Rch x s.tm s.hp i) (hx:H2 C P ops x s.tm=true)
  (h:Ee C P N call ops x s (fun s1=>Ee C P N call ops o s1 K)=some r):Ee C P N call ops o s (fun s1=>Ee C P N call ops x s1 K)=some r:=by
 rw [Jx hx] at h;obtain ⟨tm,hp⟩:=s;have look:∀v,∀t∈looks ops o,Cb tm x.dst v t=tm t:=fun v=>Fs xo
 have back:∀{u:PV} {hp':Nat->Option Ck} {q:Aa7},(∀y∈o.op.operands.toList,∀i∈Cs (C1 tm y),hp' i=hp i)->gE C P N call ops o ⟨Cb tm x.dst u,hp'⟩=some q->gE C P N call ops o ⟨tm,hp⟩=some q:=
  fun hh e=>Aeb (s:=⟨Cb tm x.dst _,_⟩) (s':=⟨tm,hp⟩) (look _) (fun _ y hy i hi=>.inl (A5s (hh y hy i hi))) e
 have h1:=M1 (P:=P) (N:=N) (o:=x) (tm:=tm) (tm':=tm) (hp:=hp) (hp1:=hp) (K:=fun s1=>Ee C P N call ops o s1 K) (K':=fun _=>none)
  (Rel:=fun (a:Option R)(_:Option R)=>a=some r->∃v,gE C P N call ops o ⟨tm,hp⟩=some (v,[],[])∧Hm N o.dst=true) (fun h=>by cases h) (fun _ _=>rfl) (fun _ _=>.inl rfl) (fun _ _=>rfl) (fun _ _=>rfl) (fun v hp' _ hT h=>by
   obtain ⟨u,hu,hd,_⟩:=Afc (Abr (fun t ht=>(look v t ht).symm) hl) h
   exact ⟨u,back (fun y hy i hi=>hT.far i (hfar y hy i hi) (hw.1 y hy i hi)) hu,hd⟩) h
 obtain ⟨v,hv,hd⟩:=h1;refine Aj8 hl hv hd ?_;have t2:∀t∈looks ops x,tm t=Cb tm o.dst v t:=fun t ht=>(Fs ox t ht).symm
 rw [Jx (by rw [←Ij t2];exact hx)]
 refine M1 (P:=P) (N:=N) (o:=x) (tm:=tm) (tm':=Cb tm o.dst v) (hp:=hp) (hp1:=hp) (Rel:=fun (a b:Option R)=>a=some r->b=some r) (fun h=>by cases h) (Ge t2) (fun _ _=>.inl rfl) (fun _ _=>rfl) (fun _ _=>rfl) (fun u hp' hp1' hT h=>?_) h
 have e1:hp'=hp1':=funext fun i=>hT.same i rfl
 subst e1;obtain ⟨v',hv',_,h'⟩:=Afc (Abr (fun t ht=>(look u t ht).symm) hl) h
 have he:=back (fun y hy i hi=>hT.far i (fun hR=>hfar y hy i hi (Aya (fun t ht=>(t2 t ht).symm) hR)) (hw.1 y hy i hi)) hv'
 rw [hv] at he;simp only [Option.some.injEq,Prod.mk.injEq,and_true] at he;subst he;rw [←Mv ne];exact h'
theorem A5d (xo:∀d,x.dst=some d->d ∉ looks ops o)(ne:∀d,x.dst=some d->o.dst≠some d)(ox:∀d,o.dst=some d->d ∉ looks ops x)(hl:Al9 P ops x s.tm)
  (hfar:∀y∈x.op.operands.toList,∀i∈Cs (C1 s.tm y),¬Rch o s.tm s.hp i) (ho:H2 C P ops o s.tm=true)
  (h:Ee C P N call ops x s (fun s1=>Ee C P N call ops o s1 K)=some r):Ee C P N call ops o s (fun s1=>Ee C P N call ops x s1 K)=some r:=by
 obtain ⟨tm,hp⟩:=s;obtain ⟨v,hv,hd,h1⟩:=Afc hl h;have t1:∀t∈looks ops o,Cb tm x.dst v t=tm t:=Fs xo;rw [Jx (by rw [Ij t1];exact ho)] at h1
 rw [Jx ho];refine M1 (P:=P) (N:=N) (o:=o) (tm:=Cb tm x.dst v) (tm':=tm) (hp:=hp) (hp1:=hp) (Rel:=fun (a b:Option R)=>a=some r->b=some r) (fun h=>by cases h) (Ge t1) (fun _ _=>.inl rfl) (fun _ _=>rfl) (fun _ _=>rfl) (fun u hp' hp1' hT h=>?_) h1
 have e1:hp'=hp1':=funext fun i=>hT.same i rfl
 subst e1;have t2:∀t∈looks ops x,tm t=Cb tm o.dst u t:=fun t ht=>(Fs ox t ht).symm
 refine Aj8 (Abr t2 hl) (Aeb (s:=⟨tm,hp⟩) (s':=⟨Cb tm o.dst u,hp'⟩) t2 (fun _ y hy i hi=>?_) hv) hd ?_
 ·have hi:i∈Cs (C1 tm y):=by rw [Ge t2 y hy];exact hi
  by_cases hn:hp i=none
  ·exact .inr ⟨Avn hn,Nt hn⟩
  ·obtain ⟨h3,h4⟩:=A5s (hT.far i (hfar y hy i hi) hn);exact .inl ⟨h3.symm,h4.symm⟩
 ·rw [←Mv ne];exact h
def Anp (P:Program)(x:Oper)(s s1:St):Prop:=(∀t,x.dst≠some t->s1.tm t=s.tm t)∧(∀i,s.hp i≠none->s1.hp i≠none)∧(I0 P x.op=false->∀i,s.hp i≠none->s1.hp i=s.hp i)
theorem Sh {tm:Nat->PV}{d:Option Tmp}{v:PV}{t:Nat}(h:d≠some t):Cb tm d v t=tm t:=by
 cases d with
 |none=>rfl
 |some d=>exact A3 _ _ (by rintro rfl;exact h rfl)
theorem Akt {K':St->Option R}(h:Ee C P N call ops x s K=some r)(hK:∀s1,Anp P x s s1->K s1=some r->K' s1=some r):Ee C P N call ops x s K'=some r:=by
 cases hx:H2 C P ops x s.tm
 ·rw [Mz hx] at h ⊢;cases ex:gE C P N call ops x s with
  |none=>rw [ex] at h;cases h
  |some q=>
   rw [ex] at h;obtain ⟨hb,h1⟩:=A7 h;simp only [Bool.and_eq_true] at hb;show Aq _ _=_;rw [hb.1,hb.2];refine hK _ ⟨fun t ht=>Sh ht,fun i hi=>Qp hb.2 hi,fun hm i hi=>?_⟩ h1
   show Be (Ao s.hp q.2.1) q.2.2 i=s.hp i;rw [G9 hb.2 hi,((Xk ex).1 hm).1];simp
 ·rw [Jx hx] at h ⊢
  exact Akr (P:=P) (N:=N) (o:=x) (tm:=s.tm) (tm':=s.tm) (hp:=s.hp) (Rel:=fun (a b:Option R)=>a=some r->b=some r) (fun h=>by cases h) (fun _ _=>rfl) (fun v hp' hh h=>hK _ ⟨fun t ht=>Sh ht,hh,fun hm=>by
   have hM:Vo C P x.op=true:=by unfold H2 at hx;simp only [Bool.and_eq_true] at hx;exact hx.1
   rw [Acy hM] at hm;cases hm⟩ h) h
theorem Has.keeps {s1:St}(h:Has C P o s)(ap:Acn C P ops x o)(hk:Anp P x s s1):Has C P o s1:=by
 have hop:∀y∈o.op.operands.toList,C1 s1.tm y=C1 s.tm y:=fun y hy=>Ge (ops:=ops) (o:=o) (fun t ht=>hk.1 t fun hd=>ap.xo t hd ht) y hy
 refine ⟨fun y hy i hi=>?_,fun hM hA y hy i hi c hc p hp k hkk=>?_⟩
 ·rw [hop y hy] at hi;exact hk.2.1 i (h.1 y hy i hi)
 ·rw [hop y hy] at hi;have hi0:=h.1 y hy i hi;rw [hk.2.2 (ap.mo hM) i hi0] at hc;exact hk.2.1 k (h.2 hM hA y hy i hi c hc p hp k hkk)
theorem Ait:∀(l:List Oper){s:St}{K:St->Option R},Has C P o s->(∀x∈l,Acn C P ops x o)->R7 C P N call ops l s (fun s1=>Ee C P N call ops o s1 K)=some r->Ee C P N call ops o s (fun s1=>R7 C P N call ops l s1 K)=some r
 |[],_,_,_,_,h=>h
 |x::l,s,K,hw,ap,h=>by
  refine A97 hw (ap x (by simp)) ?_
  refine Akt (K:=fun s1=>R7 C P N call ops l s1 (fun s2=>Ee C P N call ops o s2 K)) h fun s1 hk h1=>?_
  exact Ait l (hw.keeps (ap x (by simp)) hk) (fun y hy=>ap y (List.mem_cons_of_mem _ hy)) h1
theorem Xn:∀(l l':List Oper){s:St}{K:St->Option R},R7 C P N call ops (l++l') s K=R7 C P N call ops l s (fun s1=>R7 C P N call ops l' s1 K)
 |[],_,_,_=>rfl
 |x::l,l',s,K=>by
  show Ee C P N call ops x s (fun s1=>R7 C P N call ops (l++l') s1 K)=Ee C P N call ops x s (fun s1=>R7 C P N call ops l s1 _)
  congr 1
  funext s1
  exact Xn l l'
theorem Ax1 {l l':List Oper}(hw:Has C P o s)(ap:∀x∈l,Acn C P ops x o)(h:R7 C P N call ops (l++o::l') s K=some r):Ee C P N call ops o s (fun s1=>R7 C P N call ops (l++l') s1 K)=some r:=by
 rw [Xn] at h;have:=Ait l hw ap h;refine Akt this fun s1 _ h1=>?_
 rw [Xn];exact h1
end
open Go.RowKit
section
variable {R:Type} {r:R} {P:Program} {N:Nat} {w0:World} {X0:Jc} {Y:Nat->Prop} {β β':Bt} {s:St} {a:Act} {w w':World} {o:Oper} {ops:Array Oper} {C:Jf} {call:Am} {K:St->Option R}
theorem Aj5 (h:D0 N w0 X0 Y β s a w){j d:Nat}(hd:(ops[j]?).bind (·.dst)=some d) {v:Value}(ht:s.tm d=.sc v):yielded ops a.tmps j=match v with | .bool b=>some b|_=>none:=by
 have hlt:d<N:=by
  rcases Nat.lt_or_ge d N with h'|h'
  ·exact h'
  ·rw [h.tmo d h'] at ht;cases ht
 have hv:=h.tms d hlt;rw [ht] at hv;have hv:=Ae8 hv;have hlt':d<a.tmps.size:=by rw [h.tsz];exact hlt
 have he:a.tmps[d]?=some v:=by
  rw [Array.getElem?_eq_getElem hlt'];simp [hlt'] at hv;rw [hv]
 unfold yielded;rw [hd];simp only [Option.bind_some,he];cases v<;>rfl
theorem Aby (h:D0 N w0 X0 Y β s a w){G:Glo}(hNG:Env P G w0 X0)(hcall:∀f args res,call f args=some res->G7 G P f args res){i:Nat}(hi:ops[i]?=some o) (hk:Ee C P N call ops o s K=some r):
  ∃s',K s'=some r∧∀(next:Act->World->Prop) (Q:Exit->Act->World->Prop),(∀a' w' β',D0 N w0 X0 Y β' s' a' w'->next a' w')->wpOp P ops Q i next a w:=by
 rw [Apl] at hk
 have hw:∀b,H7 ops o s.tm=some b->Region.wanted o (yielded ops a.tmps)=b:=by
  intro b hb;unfold H7 at hb;unfold Region.wanted;cases hg:o.guard with
  |none=>rw [hg] at hb;simpa using hb
  |some q=>
   obtain ⟨j,want⟩:=q;rw [hg] at hb;simp only at hb ⊢;cases hd:(ops[j]?).bind (·.dst) with
   |none=>rw [hd] at hb;cases hb
   |some d=>
    rw [hd] at hb;simp only at hb;split at hb
    ·rename_i b' ht;rw [Aj5 h hd ht];simp at hb;rw [←hb];cases b'<;>cases want<;>rfl
    ·rename_i ht;rw [Aj5 h hd ht];simp at hb;rw [hb];rfl
    ·cases hb
 split at hk
 ·cases hk
 ·rename_i hv;obtain ⟨s',hs',hn⟩:=Atz h hNG hcall hk;refine ⟨s',hs',fun next Q hnext=>?_⟩
  unfold wpOp;rw [hi];simp only [hw _ hv,if_true];exact .inl (hn next Q hnext)
 ·rename_i hv;obtain ⟨hd,hk⟩:=A7 hk;refine ⟨_,hk,fun next Q hnext=>?_⟩
  unfold wpOp;rw [hi];simp only [hw _ hv];refine hnext _ _ β (h.put hd (Bq.sc _) (by simp [Cs,Dc,Bd]))
theorem D0.known (h:D0 N w0 X0 Y β s a w){d:Nat}(hd:s.tm d=.ub):∃b,D0 N w0 X0 Y β ⟨Dg s.tm d (.sc (.bool b)),s.hp⟩ a w:=by
 have hlt:d<N:=by
  rcases Nat.lt_or_ge d N with h'|h'
  ·exact h'
  ·rw [h.tmo d h'] at hd;cases hd
 have hu:=h.tms d hlt;rw [hd] at hu;have hu':Bq w (D3 s.hp β Y) .ub (a.tmps.getD d undef):=hu
 obtain ⟨b,hv⟩:∃b,a.tmps.getD d undef=.bool b:=by
  generalize a.tmps.getD d undef=x at hu';cases hu' with
  |ub b=>exact ⟨b,rfl⟩
 refine ⟨b,⟨h.dfr,h.tsz,fun i hi=>?_,fun i hi=>?_,h.box,h.inj,h.blt,fun i hi=>?_,h.wfB,h.ownd,h.rngB,h.pin,h.stp,h.Yx,h.Ylt,h.fr⟩⟩
 ·show Dg s.tm d _ i=_;rw [A3 _ _ (by omega)]
  exact h.tmo i hi
 ·by_cases e:i=d
  ·subst e;show Fj _ _ _ (Dg s.tm i _ i) _;rw [A8,hv];exact Bq.sc _
  ·show Fj _ _ _ (Dg s.tm d _ i) _;rw [A3 _ _ e];exact h.tms i hi
 ·by_cases e:i=d
  ·subst e;show ∀id∈Cs (Dg s.tm i _ i),_;rw [A8];simp [Cs,Dc,Bd]
  ·show ∀id∈Cs (Dg s.tm d _ i),_;rw [A3 _ _ e];exact h.wfT i hi
theorem Am2 {x y:Option R}(h:Aaa x y=some r):x=some r∧y=some r:=by
 unfold Aaa at h;split at h
 ·rename_i e;exact ⟨h,e ▸ h⟩
 ·cases h
theorem Aok (h:D0 N w0 X0 Y β s a w){F:St->Option R}(hk:Au4 ops o s F=some r):∃s',F s'=some r∧D0 N w0 X0 Y β s' a w:=by
 unfold Au4 at hk;split at hk
 ·exact ⟨s,hk,h⟩
 ·split at hk
  ·exact ⟨s,hk,h⟩
  ·split at hk
   ·rename_i d _ ht;obtain ⟨b,hb⟩:=h.known ht;obtain ⟨h1,h2⟩:=Am2 hk;cases b
    ·exact ⟨_,h2,hb⟩
    ·exact ⟨_,h1,hb⟩
   ·exact ⟨s,hk,h⟩
theorem Adf {G:Glo}(hNG:Env P G w0 X0)(hcall:∀f args res,call f args=some res->G7 G P f args res){Q:Exit->Act->World->Prop}(hQ:∀s' a' w' β',K s'=some r->D0 N w0 X0 Y β' s' a' w'->Q .normal a' w'):
  ∀(l:List Nat) (os:List Oper),l.length=os.length->(∀(k i:Nat),l[k]?=some i->ops[i]?=os[k]?)->∀{s:St} {a:Act} {w:World} {β:Bt},D0 N w0 X0 Y β s a w->Aob C P N call ops os s K=some r->wpOps P ops Q l a w
 |[],[],_,_,s,a,w,β,h,hk=>by
  show Q .normal a w;exact hQ s a w β hk h
 |[],_::_,hl,_,_,_,_,_,_,_=>by cases hl
 |_::_,[],hl,_,_,_,_,_,_,_=>by cases hl
 |i::l,o::os,hl,hi,s,a,w,β,h,hk=>by
  rw [wpOps_cons];obtain ⟨s1,hk,h⟩:=Aok h hk;obtain ⟨s',hs',hn⟩:=Aby h hNG hcall (by simpa using hi 0 i rfl) hk
  exact hn _ _ fun a' w' β' h'=>Adf hNG hcall hQ l os (by simpa using hl) (fun k j hj=>by simpa using hi (k+1) j (by simpa using hj)) h' hs'
theorem D0.drew (h:D0 N w0 X0 Y β s a w):D0 N w0 X0 Y β s a { w with drawn:=w.drawn+1 }:=by
 have:=h.stepR (d:=none) (v:=.top) (nw:=[]) (val:=undef) (w':={ w with drawn:=w.drawn+1 }) (β':=β) rfl rfl
  ⟨rfl,rfl,rfl,⟨Nat.le_refl _,fun _ _ _=>rfl,fun _ _=>Nat.le_refl _⟩,fun _ _=>rfl,by simp,by simp,by simp,by simp,by simp,.top _,by simp [Cs,Dc,Bd]⟩
 exact this
theorem Apt (h:D0 N w0 X0 Y β s a w){G:Glo}(hNG:Env P G w0 X0)(hcall:∀f args res,call f args=some res->G7 G P f args res){id:Nat}{Q:Exit->Act->World->Prop}
  (hk:Aob C P N call ops ops.toList s K=some r)(hQ:∀s' a' w' β',K s'=some r->D0 N w0 X0 Y β' s' a' w'->Q .normal a' w'):(Code.region id ops false).wp P Q a w:=by
 refine wp_region (Adf hNG hcall hQ (List.range ops.size) ops.toList (by simp) (fun k i hi=>?_) h hk)
 rw [List.getElem?_range] at hi
 ·simp at hi;subst hi;simp
 ·rcases Nat.lt_or_ge k ops.size with h'|h'
  ·exact h'
  ·rw [List.getElem?_eq_none (by simpa using h')] at hi;cases hi
def Po (n:Nat)(listed:Array Bool):List Nat:=(List.range n).filter fun i=> !listed.getD i true
def A68 (ops:Array Oper)(listed:Array Bool)(o:Oper):Prop:=∀e∈o.after,Region.binds .any e=true->listed.getD e.on false=true
theorem testBit_or {a b j:Nat}:(a ||| b).testBit j=(a.testBit j||b.testBit j):=Nat.testBit_or a b j
theorem An7 {acc:List Nat}{j:Nat}:∀(es:List Edge)(v:Nat),(es.foldl (fun s e=>bif Region.binds .any e then s ||| 2 ^ e.on ||| acc.getD e.on 0 else s) v).testBit j=true ->
  v.testBit j=true∨∃e∈es,Region.binds .any e=true∧(j=e.on∨(acc.getD e.on 0).testBit j=true)
 |[],v,h=>.inl h
 |e::es,v,h=>by
  rcases An7 es _ h with h|⟨e',he',h⟩
  ·cases hb:Region.binds .any e<;>simp only [hb] at h
   ·exact .inl h
   ·simp only [cond_true,Nat.testBit_or,Bool.or_eq_true] at h;rcases h with (h|h)|h
    ·exact .inl h
    ·refine .inr ⟨e,by simp,hb,.inl ?_⟩
     rw [Nat.testBit_two_pow] at h;exact (of_decide_eq_true h).symm
    ·exact .inr ⟨e,by simp,hb,.inr h⟩
  ·exact .inr ⟨e',by simp [he'],h⟩
theorem Vd {listed:Array Bool}(hc:∀(j:Nat) oj,ops[j]?=some oj->listed.getD j false=true->A68 ops listed oj):
  ∀(rest done:List Oper) (acc:List Nat),ops.toList=done++rest->acc.length=done.length ->
   (∀(k:Nat) o,done[k]?=some o->A68 ops listed o->∀j,(acc.getD k 0).testBit j=true->listed.getD j false=true) ->
   ∀(k:Nat) o,ops[k]?=some o->A68 ops listed o->∀j,((Kn rest acc).getD k 0).testBit j=true->listed.getD j false=true
 |[],done,acc,he,_,h,k,o,ho,hf,j,hj=>by
  refine h k o ?_ hf j hj;rw [List.append_nil] at he;rw [←he]
  simpa using ho
 |o'::rest,done,acc,he,hl,h,k,o,ho,hf,j,hj=>by
  refine Vd hc rest (done++[o']) _ (by rw [he];simp) (by simp [hl]) ?_ k o ho hf j hj
  intro k o ho hf j hj;rcases Nat.lt_trichotomy k done.length with hlt|heq|hgt
  ·rw [List.getElem?_append_left hlt] at ho;rw [List.getD_eq_getElem?_getD,List.getElem?_append_left (by omega),←List.getD_eq_getElem?_getD] at hj
   exact h k o ho hf j hj
  ·subst heq;simp at ho;subst ho;rw [←hl] at hj;simp only [List.getD_eq_getElem?_getD,List.getElem?_append_right (Nat.le_refl _),Nat.sub_self,List.getElem?_cons_zero,Option.getD_some] at hj
   have hj:(o'.after.toList.foldl (fun s e=>bif Region.binds .any e then s ||| 2 ^ e.on ||| acc.getD e.on 0 else s) 0).testBit j=true:=by
    simpa only [List.getD_eq_getElem?_getD] using hj
   rcases An7 _ _ hj with h0|⟨e,hm,hb,h1⟩
   ·simp at h0
   ·have hl1:=hf e (by simpa using hm) hb
    rcases h1 with h1|h1
    ·rw [h1];exact hl1
    ·cases hd:done[e.on]? with
     |none=>
      have:acc.getD e.on 0=0:=by
       rw [List.getD_eq_getElem?_getD,List.getElem?_eq_none (by rw [hl];exact List.getElem?_eq_none_iff.1 hd)]
       rfl
      rw [this] at h1;simp at h1
     |some oe=>
      have hoe:ops[e.on]?=some oe:=by
       rw [←Array.getElem?_toList,he,List.getElem?_append_left (by
        rcases Nat.lt_or_ge e.on done.length with h'|h'
        ·exact h'
        ·rw [List.getElem?_eq_none h'] at hd;cases hd)]
       exact hd
      exact h e.on oe hd (hc e.on oe hoe hl1) j h1
  ·rw [List.getElem?_eq_none (by simp;omega)] at ho
   cases ho
theorem Ady {bs:List Nat}:∀(l:List Oper)(n:Nat),Ah3 C P ops bs l n=true->∀(k:Nat) o,l[k]?=some o->∀(j:Nat) x,ops[j]?=some x->j<n+k->Ako C P ops x o=true->(bs.getD (n+k) 0).testBit j=true
 |[],_,_,k,o,ho,_,_,_,_,_=>by simp at ho
 |o'::l,n,h,k,o,ho,j,x,hx,hj,hcl=>by
  simp only [Ah3,Bool.and_eq_true] at h;cases k with
  |zero=>
   simp at ho;subst ho
   have:=List.all_eq_true.1 h.1 (x,j) (by
    rw [List.mem_zipIdx_iff_getElem?]
    simpa using hx)
   simp only [hcl,Bool.not_true,Bool.or_false,Bool.or_eq_true,Bool.not_eq_true'] at this;rcases this with h'|h'
   ·have:Nat.blt j n=true:=Nat.ble_eq_true_of_le (by omega)
    rw [this] at h';cases h'
   ·exact h'
  |succ k=>
   have:=Ady l (n+1) h.2 k o (by simpa using ho) j x hx (by omega) hcl
   rwa [show n+(k+1)=n+1+k by omega]
theorem Ld {n i:Nat}{listed:Array Bool}:i∈Po n listed↔i<n∧listed.getD i true=false:=by
 unfold Po;simp [List.mem_filter]
theorem Aay {n i:Nat}{listed:Array Bool}(hi:i∈Po n listed)(hsz:listed.size=n):∃l1 l2,Po n listed=l1++i::l2∧Po n (listed.setIfInBounds i true)=l1++l2∧∀j∈l1,j<i:=by
 obtain ⟨hlt,hun⟩:=Ld.1 hi
 have hr:List.range n=List.range i++i::(List.range (n-i-1)).map (i+1 + ·):=by
  conv=>lhs;rw [show n=i+(1+(n-i-1)) by omega]
  rw [List.range_add,List.range_add];simp [Nat.add_assoc]
 refine ⟨(List.range i).filter fun i=> !listed.getD i true,((List.range (n-i-1)).map (i+1 + ·)).filter fun i=> !listed.getD i true,?_,?_,fun j hj=>?_⟩
 ·unfold Po;rw [hr,List.filter_append,List.filter_cons_of_pos (by rw [hun];rfl)]
 ·unfold Po;rw [hr,List.filter_append,List.filter_cons_of_neg (by simp [hsz,hlt])]
  congr 1
  ·refine List.filter_congr fun j hj=>?_
   rw [getD_set_ne true (by have:=List.mem_range.1 hj;omega)]
  ·refine List.filter_congr fun j hj=>?_
   obtain ⟨k,_,rfl⟩:=List.mem_map.1 hj;rw [getD_set_ne true (by omega)]
 ·exact List.mem_range.1 (List.mem_filter.1 hj).1
theorem A0z (h:D0 N w0 X0 Y β s a w)(o:Oper):Has C P o s:=by
 refine ⟨fun y _ i hi=>F3 h y i hi,fun _ _ y _ i hi c hc p hp k hk=>h.wfB i c hc p hp k hk⟩
theorem Amm (hok1:(ops.toList.zipIdx.all fun q=>q.1.after.toList.all fun e=> !Region.binds .any e||Nat.blt e.on q.2)=true) {listed:Array Bool}(inv:HeadInv .any ops ops.size listed)(hr:Region.ready .any ops listed=[]):Po ops.size listed=[]:=by
 cases hp:Po ops.size listed with
 |nil=>rfl
 |cons i l=>
  exfalso;have hi:i∈Po ops.size listed:=by rw [hp];simp
  obtain ⟨hlt,hun⟩:=Ld.1 hi;obtain ⟨l1,l2,h1,_,h3⟩:=Aay hi inv.size
  have hl1:l1=[]:=by
   cases l1 with
   |nil=>rfl
   |cons j l1=>
    rw [hp] at h1;simp at h1;have:=h3 j (by simp)
    omega
  subst hl1
  have hmin:∀j,j<i->listed.getD j false=true:=by
   intro j hj;cases hh:listed.getD j false with
   |true=>rfl
   |false=>
    have:j∈Po ops.size listed:=Ld.2 ⟨by omega,getD_in (by rw [inv.size];omega) hh⟩
    have hs:(Po ops.size listed).Pairwise (· < ·):=List.Pairwise.filter _ List.pairwise_lt_range
    rw [h1] at this hs;simp at this;rcases this with e|e
    ·omega
    ·have:=(List.pairwise_cons.1 hs).1 j e;omega
  have:i∈Region.ready .any ops listed:=by
   refine mem_ready.2 ⟨hun,ops[i],Array.getElem?_eq_getElem hlt,fun e he hb=>hmin _ ?_⟩
   have:=List.all_eq_true.1 hok1 (ops[i],i) (by
    rw [List.mem_zipIdx_iff_getElem?];simp [hlt])
   have:=List.all_eq_true.1 this e (Array.mem_toList_iff.2 he);simp only [hb,Bool.not_true,Bool.false_or] at this;exact Nat.lt_of_succ_le (Nat.le_of_ble_eq_true this)
  rw [hr] at this;simp at this
theorem Ao5 {G:Glo}(hNG:Env P G w0 X0)(hcall:∀f args res,call f args=some res->G7 G P f args res)(hok:Ar7 C P ops=true){Q:Exit->Act->World->Prop}(hQ:∀s' a' w' β',K s'=some r->D0 N w0 X0 Y β' s' a' w'->Q .normal a' w'):
  ∀(fuel:Nat) {listed:Array Bool} {s:St} {a:Act} {w:World} {β:Bt},HeadInv .any ops ops.size listed->(Po ops.size listed).length=fuel->D0 N w0 X0 Y β s a w->R7 C P N call ops ((Po ops.size listed).filterMap (ops[·]?)) s K=some r->wpAny P .any ops Q fuel listed a w:=by
 unfold Ar7 at hok;simp only [Bool.and_eq_true] at hok;obtain ⟨hok1,hok2⟩:=hok;intro fuel
 induction fuel with
 |zero=>
  intro listed s a w β inv hf h hk;have hp:=List.eq_nil_of_length_eq_zero hf;rw [hp] at hk;refine ⟨?_,hQ s a w β hk h⟩;cases hr:Region.ready .any ops listed with
  |nil=>rfl
  |cons i l=>
   exfalso;have hi:i∈Region.ready .any ops listed:=by rw [hr];simp
   obtain ⟨hun,o,ho,_⟩:=mem_ready.1 hi;have:i∈Po ops.size listed:=Ld.2 ⟨(Array.getElem?_eq_some_iff.1 ho).1,hun⟩;rw [hp] at this;simp at this
 |succ fuel ih=>
  intro listed s a w β inv hf h hk;refine ⟨fun hr=>?_,fun i hi=>?_⟩
  ·rw [Amm hok1 inv hr] at hf;cases hf
  ·obtain ⟨hun,o,ho,hall⟩:=mem_ready.1 hi;have hlt:i<ops.size:=(Array.getElem?_eq_some_iff.1 ho).1;obtain ⟨l1,l2,h1,h2,h3⟩:=Aay (Ld.2 ⟨hlt,hun⟩) inv.size;rw [h1,List.filterMap_append,List.filterMap_cons_some ho] at hk
   have hap:∀x∈l1.filterMap (ops[·]?),Acn C P ops x o:=by
    intro x hx;obtain ⟨j,hj,hxj⟩:=List.mem_filterMap.1 hx;refine A0b ?_;cases hcl:Ako C P ops x o with
    |false=>rfl
    |true=>
     exfalso;have hbit:=Ady ops.toList 0 hok2 i o (by simpa using ho) j x hxj (by have:=h3 j hj;omega) hcl
     rw [Nat.zero_add] at hbit;have hjl:=Vd (listed:=listed) (fun j oj hj hl=>inv.closed j oj hj hl) ops.toList [] [] (by simp) rfl (by simp) i o ho hall j hbit
     have:j∈Po ops.size listed:=by rw [h1];simp [hj]
     have:=getD_both (Ld.1 this).2;rw [hjl] at this;cases this
   obtain ⟨s',hs',hn⟩:=Aby h hNG hcall ho (Ax1 (A0z h o) hap hk);refine hn _ _ fun a' w' β' h'=>ih (inv.set hi hlt) ?_ h' ?_
   ·rw [h2];rw [h1] at hf;simp at hf ⊢;omega
   ·rw [h2,List.filterMap_append];exact hs'
theorem Apq (h:D0 N w0 X0 Y β s a w){G:Glo}(hNG:Env P G w0 X0)(hcall:∀f args res,call f args=some res->G7 G P f args res)(hm:P.follows .mixedOrders=true)(hok:Ar7 C P ops=true){id:Nat}{Q:Exit->Act->World->Prop}
  (hk:R7 C P N call ops ops.toList s K=some r)(hQ:∀s' a' w' β',K s'=some r->D0 N w0 X0 Y β' s' a' w'->Q .normal a' w'):(Code.region id ops true).wp P Q a w:=by
 have hp:Po ops.size (Array.replicate ops.size false)=List.range ops.size:=by
  unfold Po;refine List.filter_eq_self.2 fun i hi=>?_
  have:=List.mem_range.1 hi;simp [this]
 refine wp_region_any hm (Ao5 (C:=C) hNG hcall hok hQ ops.size ⟨by simp,fun j oj _ hl=>(by rw [getD_replicate_false] at hl;cases hl),fun t ht ht'=>by omega⟩ (by rw [hp];simp) h.drew ?_)
 rw [hp]
 have:(List.range ops.size).filterMap (ops[·]?)=ops.toList:=by
  refine List.ext_getElem? fun k=>?_
  have:∀(n:Nat),n<=ops.size->(List.range n).filterMap (ops[·]?)=ops.toList.take n:=by
   intro n
   induction n with
   |zero=>intro _;rfl
   |succ n ih=>
    intro hn;rw [List.range_succ,List.filterMap_append,ih (by omega),List.take_add_one]
    congr 1
    have:ops[n]?=some ops[n]:=Array.getElem?_eq_getElem (by omega)
    simp [this]
  rw [this ops.size (Nat.le_refl _)]
  congr 1
  exact List.take_of_length_le (by simp)
 rw [this];exact hk
end
end
section
open Go.RowKit
section
variable {R R':Type} {Rel:Option R->Option R'->Prop} {P:Program} {N:Nat} {tm tm':Nat->PV} {hp hp1:Nat->Option Ck} {o:Oper}
theorem Aw8 (hn:Rel none none){C:Jf}{call:Am}{K:St->Option R}{K':St->Option R'}(hap:Qq o.op=true)(htm:∀x∈o.op.operands.toList,C1 tm x=C1 tm' x)
  (hS:∀i,Rch o tm' hp1 i->hp i=hp1 i∨(hp i=none∧∀b,Rel none b)) (hdd:∀d,o.dst=some d->hp d=hp1 d)
  (hK:∀v hp' hp1',(∀M,Tch M (Rch o tm' hp1) o.dst hp hp1 hp' hp1')->Rel (K ⟨Cb tm o.dst v,hp'⟩) (K' ⟨Cb tm' o.dst v,hp1'⟩)):Rel (Zn C P N call ⟨tm,hp⟩ o K) (Zn C P N call ⟨tm',hp1⟩ o K'):=by
 unfold Zn;have hl:∀x∈o.op.operands.toList,∀i∈Cs (C1 tm' x),Rch o tm' hp1 i:=fun x hx i hi=>.inl ⟨x,hx,hi⟩
 generalize hLd:Rch o tm' hp1=S at *
 generalize hop:o.op=op at *
 unfold Qq at hap;split at hap
 ·rename_i c
  have hmem:∀x∈c.args.toList,x∈(Op.call c).operands.toList:=by
   intro x hx;simp only [Op.operands,Call.operands,Array.toList_append,List.mem_append];exact .inr hx
  split at hap
  ·rename_i hc;simp only [hc];refine Ei hn fun d hd=>B7 hn fun x _ hx=>B7 hn fun y _ hy=>F5 hn (B7 hn fun _ _ _=>B7 hn fun _ _ _=>?_)
   subst hy;have hxm:=hmem x (by rw [hx];simp)
   have hym:=hmem y (by rw [hx];simp)
   simp only [htm x hxm,htm y hym];refine Ac9 hn hS (hdd d hd) (fun i hi=>hl x hxm i (Gp hi)) (fun i hi=>hl y hym i (Gp hi)) fun v hp' hp1' hh=>?_
   have:=hK v hp' hp1' (by rw [hd];exact hh)
   rw [hd] at this;exact this
  ·cases hap
 ·cases hap
theorem S7 {C:Jf}{call:Am}(hap:Qq o.op=true)(htm:∀x∈o.op.operands.toList,C1 tm x=C1 tm' x)(hS:∀i,Rch o tm' hp1 i->hp i=hp1 i)(hdd:∀d,o.dst=some d->hp d=hp1 d){s1:St}
  (h:Zn C P N call ⟨tm,hp⟩ o some=some s1):∃v hp' hp1',s1=⟨Cb tm o.dst v,hp'⟩∧Zn C P N call ⟨tm',hp1⟩ o some=some ⟨Cb tm' o.dst v,hp1'⟩∧∀M,Tch M (Rch o tm' hp1) o.dst hp hp1 hp' hp1':=by
 have:=Aw8 (P:=P) (N:=N) (C:=C) (call:=call) (o:=o) (tm:=tm) (tm':=tm') (hp:=hp) (hp1:=hp1) (K:=some) (K':=some)
  (Rel:=fun (a b:Option St)=>∀s1,a=some s1->∃v hp' hp1',s1=⟨Cb tm o.dst v,hp'⟩∧b=some ⟨Cb tm' o.dst v,hp1'⟩∧∀M,Tch M (Rch o tm' hp1) o.dst hp hp1 hp' hp1') (fun _ h=>by cases h) hap htm (fun i hi=>.inl (hS i hi)) hdd
  (fun v hp' hp1' hT s1 h=>by cases h;exact ⟨v,hp',hp1',rfl,rfl,hT⟩)
 exact this s1 h
end
section
variable {R R':Type} {r:R} {r':R'} {C:Jf} {P:Program} {N:Nat} {call:Am} {ops:Array Oper} {o x:Oper} {s s1 s2:St} {K:St->Option R}
theorem Xa {tm:Nat->PV}(h:H2 C P ops o tm=true):Vo C P o.op=true:=by
 unfold H2 at h;simp only [Bool.and_eq_true] at h;exact h.1
theorem Apv (h:Qq o.op=true):Vo C P o.op=true:=by
 unfold Qq at h;split at h
 ·rename_i c hc;rw [hc];split at h
  ·rename_i hcc;simp only [Vo,hcc];exact h
  ·cases h
 ·cases h
theorem Qi (h:Ee C P N call ops x s K=some r):∃s1,Ee C P N call ops x s some=some s1∧Anp P x s s1∧(W5 P x.op=true->s1.hp=s.hp)∧K s1=some r:=by
 cases hx:H2 C P ops x s.tm
 ·rw [Mz hx] at h ⊢;cases ex:gE C P N call ops x s with
  |none=>rw [ex] at h;cases h
  |some q=>
   rw [ex] at h;obtain ⟨hb,h1⟩:=A7 h;simp only [Bool.and_eq_true] at hb;refine ⟨_,?_,⟨fun t ht=>Sh ht,fun i hi=>Qp hb.2 hi,fun hm i hi=>?_⟩,fun hl=>?_,h1⟩
   ·show Aq _ _=_;rw [hb.1,hb.2];rfl
   ·show Be (Ao s.hp q.2.1) q.2.2 i=s.hp i;rw [G9 hb.2 hi,((Xk ex).1 hm).1];simp
   ·show Be (Ao s.hp q.2.1) q.2.2=s.hp;obtain ⟨h1,h2⟩:=Avg (.inl hl) ex;rw [h1,h2]
    funext i
    show Ao s.hp [] i=_;rw [Cr];simp
 ·rw [Jx hx] at h ⊢
  exact Akr (P:=P) (N:=N) (o:=x) (tm:=s.tm) (tm':=s.tm) (hp:=s.hp) (K':=some) (Rel:=fun (a:Option R) (b:Option St)=>a=some r->∃s1,b=some s1∧Anp P x s s1∧(W5 P x.op=true->s1.hp=s.hp)∧K s1=some r) (fun h=>by cases h) (fun _ _=>rfl) (fun v hp' hh h=>⟨_,rfl,⟨fun t ht=>Sh ht,hh,fun hm=>(by
   rw [Acy (Xa hx)] at hm;cases hm)⟩,fun hl=>(by
   have:=Xa hx;rw [My hl] at this;cases this),h⟩) h
theorem Y8 {K':St->Option R'}(h:Ee C P N call ops x s some=some s1)(hk:K' s1=some r'):Ee C P N call ops x s K'=some r':=by
 cases hx:H2 C P ops x s.tm
 ·rw [Mz hx] at h ⊢;cases ex:gE C P N call ops x s with
  |none=>rw [ex] at h;cases h
  |some q=>
   rw [ex] at h;obtain ⟨hb,h1⟩:=A7 h;show Aq _ _=_;rw [hb];cases h1;exact hk
 ·rw [Jx hx] at h ⊢;exact Akr (P:=P) (N:=N) (o:=x) (tm:=s.tm) (tm':=s.tm) (hp:=s.hp) (K:=some) (Rel:=fun (a:Option St) (b:Option R')=>a=some s1->b=some r') (fun h=>by cases h) (fun _ _=>rfl) (fun v hp' hh h=>by cases h;exact hk) h
theorem Ap4 {d:Nat}{t tx:TypeId}{b y:PV}(h:R4 P N s d t tx b y K=some r):s.hp d=none:=by
 unfold R4 at h;split at h
 ·obtain ⟨_,h⟩:=A7 h;cases hI:Adv P tx
  ·rw [hI,cond_false] at h;refine Aew (P:=P) (tm:=s.tm) (tm':=s.tm) (hp:=s.hp) (hp1:=s.hp) (S:=fun _=>True) (K':=fun _ _=>(none:Option R)) (Rel:=fun (a:Option R) (_:Option R)=>a=some r->s.hp d=none) (fun h=>by cases h) (fun _ _=>.inl rfl) (fun _ _=>trivial) (fun m new h=>?_) h
   split at h
   ·split at h
    ·obtain ⟨hb,_⟩:=A7 h;simp only [Bool.and_eq_true,Option.isNone_iff_eq_none] at hb;simp only [hb]
    ·cases h
   ·obtain ⟨_,_,_,h,_⟩:=Gz h;obtain ⟨hb,_⟩:=A7 h;simp only [Bool.and_eq_true,Option.isNone_iff_eq_none] at hb;simp only [hb]
  ·rw [hI,cond_true] at h;unfold W7 at h;obtain ⟨_,_,_,h⟩:=Ea h;obtain ⟨_,_,_,h,_⟩:=Gz h;obtain ⟨hb,_⟩:=A7 h;simp only [Bool.and_eq_true,Option.isNone_iff_eq_none] at hb;simp only [hb]
 ·cases h
theorem A48 (hw:Has C P o s)(hwx:∀y∈x.op.operands.toList,∀i∈Cs (C1 s.tm y),s.hp i≠none) (xo:∀d,x.dst=some d->d ∉ looks ops o)(ne:∀d,x.dst=some d->o.dst≠some d)(ox:∀d,o.dst=some d->d ∉ looks ops x)
  (hax:Qq x.op=true)(hao:Qq o.op=true)(hfar:∀i,Rch x s.tm s.hp i->¬Rch o s.tm s.hp i)(hx:H2 C P ops x s.tm=true)(ho:H2 C P ops o s.tm=true)
  (h:Ee C P N call ops x s (fun s1=>Ee C P N call ops o s1 K)=some r):Ee C P N call ops o s (fun s1=>Ee C P N call ops x s1 K)=some r:=by
 obtain ⟨tm,hp⟩:=s;obtain ⟨s1,e1,_,_,h⟩:=Qi h;obtain ⟨s2,e2,_,_,h⟩:=Qi h;rw [Jx hx] at e1
 have hSx:∀i,Rch x tm hp i->hp i≠none:=by
  rintro i (⟨y,hy,hi⟩|⟨hap,_⟩)
  ·exact hwx y hy i hi
  ·rw [hax] at hap;cases hap
 have hSo:∀i,Rch o tm hp i->hp i≠none:=by
  rintro i (⟨y,hy,hi⟩|⟨hap,_⟩)
  ·exact hw.1 y hy i hi
  ·rw [hao] at hap;cases hap
 obtain ⟨vx,hpx,hpx',rfl,e1',T1⟩:=S7 hax (fun _ _=>rfl) (fun _ _=>rfl) (fun _ _=>rfl) e1
 have:hpx'=hpx:=by
  rw [e1] at e1';injection e1' with q;injection q with _ q;exact q.symm
 subst this;have t1:∀t∈looks ops o,Cb tm x.dst vx t=tm t:=Fs xo;have t1o:=Ge (ops:=ops) (o:=o) t1;rw [Jx (by rw [Ij t1];exact ho)] at e2
 have hRo:∀i,Rch o (Cb tm x.dst vx) hpx' i↔Rch o tm hp i:=by
  intro i;constructor
  ·rintro (⟨y,hy,hi⟩|⟨hap,_⟩)
   ·exact .inl ⟨y,hy,by rw [←t1o y hy];exact hi⟩
   ·rw [hao] at hap;cases hap
  ·rintro (⟨y,hy,hi⟩|⟨hap,_⟩)
   ·exact .inl ⟨y,hy,by rw [t1o y hy];exact hi⟩
   ·rw [hao] at hap;cases hap
 have hfree:∀{s:St} {o:Oper} {s2:St},Qq o.op=true->Zn C P N call s o some=some s2->∀d,o.dst=some d->s.hp d=none:=by
  intro s o s2 hao e d hd;unfold Zn at e;unfold Qq at hao;split at hao
  ·rename_i c hc;rw [hc] at e;simp only at e;split at hao
   ·rename_i hcc;rw [hcc] at e;simp only [hd,Ez] at e;obtain ⟨_,_,_,e⟩:=Bo e;obtain ⟨_,_,_,e⟩:=Bo e;obtain ⟨_,e⟩:=Eb e;obtain ⟨_,_,_,e⟩:=Bo e;obtain ⟨_,_,_,e⟩:=Bo e;exact Ap4 e
   ·cases hao
  ·cases hao
 have hpo0:∀d,o.dst=some d->hp d=none:=by
  intro d hd;have h0:=hfree hao e2 d hd;cases hh:hp d with
  |none=>rfl
  |some b=>exact absurd h0 ((T1 0).keep d (by rw [hh];simp))
 have hpx0:=hfree hax e1;simp only at hpx0;have hoS:∀d,o.dst=some d->¬Rch x tm hp d:=fun d hd hR=>hSx d hR (hpo0 d hd)
 have hxS:∀d,x.dst=some d->¬Rch o tm hp d:=fun d hd hR=>hSo d hR (hpx0 d hd)
 obtain ⟨vo,hpxo,hpo,rfl,e3,T2⟩:=S7 (tm':=tm) (hp1:=hp) hao t1o (fun i hi=>(T1 0).far i (fun hR=>hfar i hR hi) (hSo i hi)) (fun d hd=>((T1 (d+1)).off d (by omega) (fun e=>ne d e hd) (.inl (hoS d hd))).1) e2
 obtain ⟨vo',hpo',hpo'',e3a,e3b,T3⟩:=S7 (tm':=tm) (hp1:=hp) hao (fun _ _=>rfl) (fun _ _=>rfl) (fun _ _=>rfl) e3
 rw [e3] at e3b
 have hpoe:hpo'=hpo∧hpo''=hpo:=by
  injection e3a with _ q1;injection e3b with q2;injection q2 with _ q3;exact ⟨q1.symm,q3.symm⟩
 obtain ⟨rfl,rfl⟩:=hpoe;have t2:∀t∈looks ops x,tm t=Cb tm o.dst vo t:=fun t ht=>(Fs ox t ht).symm
 have t2x:=Ge (ops:=ops) (o:=x) t2
 have hRx:∀i,Rch x (Cb tm o.dst vo) hpo'' i↔Rch x tm hp i:=by
  intro i;constructor
  ·rintro (⟨y,hy,hi⟩|⟨hap,_⟩)
   ·exact .inl ⟨y,hy,by rw [t2x y hy];exact hi⟩
   ·rw [hax] at hap;cases hap
  ·rintro (⟨y,hy,hi⟩|⟨hap,_⟩)
   ·exact .inl ⟨y,hy,by rw [←t2x y hy];exact hi⟩
   ·rw [hax] at hap;cases hap
 obtain ⟨vx2,hpx2,hpox,e4a,e4,T4⟩:=S7 (tm':=Cb tm o.dst vo) (hp1:=hpo'') hax t2x (fun i hi=>((T3 0).far i (hfar i ((hRx i).1 hi)) (hSx i ((hRx i).1 hi))).symm) (fun d hd=>((T3 (d+1)).off d (by omega) (fun e=>ne d hd e) (.inl (hxS d hd))).1.symm) e1
 have hvx:Cb tm x.dst vx=Cb tm x.dst vx2∧hpx'=hpx2:=by
  injection e4a with q1 q2;exact ⟨q1,q2⟩
 obtain ⟨hvx,rfl⟩:=hvx;obtain ⟨_,hq1,hq2,e5a,e5b,T5⟩:=S7 (tm':=Cb tm x.dst vx) (hp1:=hpx') hao (fun _ _=>rfl) (fun _ _=>rfl) (fun _ _=>rfl) e2
 have hq:hq1=hpxo:=by injection e5a with _ q1;exact q1.symm
 subst hq;obtain ⟨_,hu1,hu2,e6a,e6b,T6⟩:=S7 (tm':=Cb tm o.dst vo) (hp1:=hpo'') hax (fun _ _=>rfl) (fun _ _=>rfl) (fun _ _=>rfl) e4
 have hu:hu1=hpox:=by injection e6a with _ q1;exact q1.symm
 subst hu
 have hmem:hq1=hu1:=by
  funext i
  by_cases hi:Rch o tm hp i∨o.dst=some i
  ·have hxi:¬Rch x tm hp i:=by
    rcases hi with hi|hi
    ·exact fun hR=>hfar i hR hi
    ·exact hoS i hi
   have hdi:x.dst≠some i:=by
    rcases hi with hi|hi
    ·exact fun e=>hxS i e hi
    ·exact fun e=>ne i e hi
   rw [(T2 0).same i ((T1 (i+1)).off i (by omega) hdi (.inl hxi)).1]
   exact ((T6 (i+1)).off i (by omega) hdi (.inl fun hR=>hxi ((hRx i).1 hR))).1.symm
  ·have hoi:¬Rch o tm hp i:=fun e=>hi (.inl e)
   have hdi:o.dst≠some i:=fun e=>hi (.inr e)
   rw [((T5 (i+1)).off i (by omega) hdi (.inl fun hR=>hoi ((hRo i).1 hR))).1]
   exact (T4 0).same i ((T3 (i+1)).off i (by omega) hdi (.inl hoi)).1.symm
 refine Y8 (s1:=⟨Cb tm o.dst vo,hpo''⟩) (by rw [Jx ho];exact e3) ?_
 refine Y8 (s1:=⟨Cb (Cb tm o.dst vo) x.dst vx2,hu1⟩) (by rw [Jx (by rw [←Ij t2];exact hx)];exact e4) ?_
 rw [←Mv ne,←hvx,←hmem];exact h
theorem Adz (hM:Vo C P o.op=true){i:Nat}(h:Rch o s.tm s.hp i):i∈Pb C P s o:=by
 unfold Pb;rw [hM];cases hA:Qq o.op
 ·simp only [Bool.not_false,Bool.and_self,cond_true,List.mem_append];rcases h with ⟨y,hy,hi⟩|⟨_,id,c,⟨y,hy,hi⟩,hc,p,hp,hk⟩
  ·exact .inl (List.mem_flatMap.2 ⟨y,hy,hi⟩)
  ·refine .inr (List.mem_flatMap.2 ⟨id,List.mem_flatMap.2 ⟨y,hy,hi⟩,?_⟩);rw [hc];exact List.mem_flatMap.2 ⟨p,hp,hk⟩
 ·simp only [Bool.not_true,Bool.and_false,cond_false,Bool.or_true,cond_true];rcases h with ⟨y,hy,hi⟩|⟨hn,_⟩
  ·exact List.mem_flatMap.2 ⟨y,hy,hi⟩
  ·rw [hA] at hn;cases hn
theorem Ah1 (hl:Vo C P o.op=true∨W5 P o.op=true){y:Operand}(hy:y∈o.op.operands.toList){i:Nat}(h:i∈Cs (C1 s.tm y)):i∈Pb C P s o:=by
 rcases hl with hM|hl
 ·exact Adz hM (.inl ⟨y,hy,h⟩)
 ·unfold Pb;rw [My hl,hl];exact List.mem_flatMap.2 ⟨y,hy,h⟩
theorem Aqs (ht:∀t∈looks ops o,s1.tm t=s.tm t)(hh:Vo C P o.op=true->Qq o.op=false->∀y∈o.op.operands.toList,∀i∈Cs (C1 s.tm y),s1.hp i=s.hp i):Pb C P s1 o=Pb C P s o:=by
 have he:=Ge (ops:=ops) (o:=o) ht
 have hl:(o.op.operands.toList.flatMap fun y=>Cs (C1 s1.tm y))=o.op.operands.toList.flatMap fun y=>Cs (C1 s.tm y):=by
  have hgen:∀l:List Operand,(∀y∈l,C1 s1.tm y=C1 s.tm y)->(l.flatMap fun y=>Cs (C1 s1.tm y))=l.flatMap fun y=>Cs (C1 s.tm y):=by
   intro l
   induction l with
   |nil=>intro _;rfl
   |cons a l ih=>intro h;simp only [List.flatMap_cons];rw [h a (by simp),ih fun y hy=>h y (by simp [hy])]
  exact hgen _ he
 unfold Pb;simp only [hl];cases hM:(Vo C P o.op && !Qq o.op)
 ·rfl
 ·simp only [cond_true];simp only [Bool.and_eq_true,Bool.not_eq_true'] at hM
  congr 1
  have hgen:∀l:List Nat,(∀i∈l,s1.hp i=s.hp i)->(l.flatMap fun i=>match s1.hp i with|some (.st c)=>c.flatMap Bd|_=>[])=l.flatMap fun i=>match s.hp i with|some (.st c)=>c.flatMap Bd|_=>[]:=by
   intro l
   induction l with
   |nil=>intro _;rfl
   |cons a l ih=>intro h;simp only [List.flatMap_cons];rw [h a (by simp),ih fun y hy=>h y (by simp [hy])]
  exact hgen _ fun i hi=>by
   obtain ⟨y,hy,hi⟩:=List.mem_flatMap.1 hi;exact hh hM.1 hM.2 y hy i hi
theorem Adm {a b:List Nat}(h:Axb a b=true){i:Nat}(ha:i∈a)(hb:i∈b):False:=by
 have:=List.all_eq_true.1 h i ha;have h2:b.any (Nat.beq i)=true:=List.any_eq_true.2 ⟨i,hb,Nat.beq_refl i⟩;rw [h2] at this;cases this
theorem Aw2 {a b:List Nat}(h:Axb a b=true):Axb b a=true:=by
 refine List.all_eq_true.2 fun i hi=>?_
 cases hc:a.any (Nat.beq i)
 ·rfl
 ·obtain ⟨j,hj,e⟩:=List.any_eq_true.1 hc;rw [Nat.eq_of_beq_eq_true e] at hi;exact (Adm h hj hi).elim
theorem Abv:Mc C P x o=Mc C P o x:=by
 unfold Mc;cases Vo C P x.op<;>cases Vo C P o.op<;>cases W5 P x.op<;>cases W5 P o.op<;>cases Qq x.op<;>cases Qq o.op<;>rfl
structure Ob (C:Jf) (P:Program) (ops:Array Oper) (x o:Oper):Prop where
 xo:∀d,x.dst=some d->d ∉ looks ops o
 ne:∀d,x.dst=some d->o.dst≠some d
 ox:∀d,o.dst=some d->d ∉ looks ops x
 me:Vs C P x o=false∨Mc C P x o=true
theorem Ayc (h:A1o C P ops x o=false):Ob C P ops x o:=by
 unfold A1o at h;simp only [Bool.or_eq_false_iff] at h;obtain ⟨h1,h2⟩:=h;have hT:=h1;unfold Azu at h1;simp only [Bool.or_eq_false_iff] at h1
 have a1:Ako C P ops x o=false∨Vs C P x o=true:=by
  cases hc:Vs C P x o
  ·left;unfold Ako;unfold Vs at hc;simp only [Bool.or_eq_false_iff] at hc ⊢;exact ⟨⟨⟨h1.1,h1.2⟩,hc.1⟩,hc.2⟩
  ·exact .inr rfl
 refine ⟨fun d hd=>?_,fun d hd he=>?_,fun d hd=>?_,?_⟩
 ·have:=h1.1;simp only [hd,Bool.or_eq_false_iff] at this;exact Vp this.1
 ·have:=h1.1;simp only [hd,he,Bool.or_eq_false_iff] at this;rw [Nat.beq_refl] at this;cases this.2
 ·have:=h1.2;simp only [hd] at this;exact Vp this
 ·cases hc:Vs C P x o
  ·exact .inl rfl
  ·rw [hc] at h2;right
   simpa using h2
theorem Ob.apart (ap:Ob C P ops x o)(h:Vs C P x o=false):Acn C P ops x o:=by
 unfold Vs at h;simp only [Bool.or_eq_false_iff,Bool.and_eq_false_iff] at h;refine ⟨ap.xo,ap.ne,ap.ox,fun hm=>?_,fun hm=>?_⟩
 ·rcases h.1 with h|h
  ·rw [hm] at h;cases h
  ·exact h
 ·rcases h.2 with h|h
  ·rw [hm] at h;cases h
  ·exact h
theorem Ob.same (ap:Ob C P ops x o)(hk:Anp P x s s1)(hl:W5 P x.op=true->s1.hp=s.hp)(hM:Vo C P o.op=true)(hA:Qq o.op=false){i:Nat}(hi:s.hp i≠none):s1.hp i=s.hp i:=by
 rcases ap.me with h|h
 ·exact hk.2.2 ((ap.apart h).mo hM) i hi
 ·unfold Mc at h;rw [hA] at h;simp only [Bool.and_false,Bool.or_false,Bool.or_eq_true,Bool.and_eq_true] at h;rcases h with h|h
  ·have:=h.2;rw [My (C:=C) (P:=P) this] at hM;cases hM
  ·rw [hl h.2]
theorem Has.keepsS (h:Has C P o s)(ap:Ob C P ops x o)(hk:Anp P x s s1)(hl:W5 P x.op=true->s1.hp=s.hp):Has C P o s1:=by
 have hop:∀y∈o.op.operands.toList,C1 s1.tm y=C1 s.tm y:=fun y hy=>Ge (ops:=ops) (o:=o) (fun t ht=>hk.1 t fun hd=>ap.xo t hd ht) y hy
 refine ⟨fun y hy i hi=>?_,fun hM hA y hy i hi c hc p hp k hkk=>?_⟩
 ·rw [hop y hy] at hi;exact hk.2.1 i (h.1 y hy i hi)
 ·rw [hop y hy] at hi;rw [ap.same hk hl hM hA (h.1 y hy i hi)] at hc;exact hk.2.1 k (h.2 hM hA y hy i hi c hc p hp k hkk)
theorem Ob.symm (ap:Ob C P ops x o):Ob C P ops o x:=by
 refine ⟨ap.ox,fun d hd he=>ap.ne d he hd,ap.xo,?_⟩
 rcases ap.me with h|h
 ·left;unfold Vs at h ⊢;rw [Bool.or_comm];exact h
 ·right;rw [Abv];exact h
theorem Baf (hw:Has C P o s)(hwx:Mc C P x o=true->∀i∈Pb C P s x,s.hp i≠none)(ap:Ob C P ops x o)(hd:Mc C P x o=true->Axb (Pb C P s x) (Pb C P s o)=true)
  (h:Ee C P N call ops x s (fun s1=>Ee C P N call ops o s1 K)=some r):Ee C P N call ops o s (fun s1=>Ee C P N call ops x s1 K)=some r:=by
 rcases ap.me with hm|hm
 ·exact A97 hw (ap.apart hm) h
 ·have hd:=hd hm;have hwx:=hwx hm;cases hx:H2 C P ops x s.tm
  ·cases ho:H2 C P ops o s.tm
   ·exact Awa hw ap.xo ap.ne ap.ox hx ho h
   ·have hMo:=Xa ho
    have hlx:Al9 P ops x s.tm:=by
     cases hl:W5 P x.op
     ·right
      have hMx:Vo C P x.op=true:=by
       unfold Mc at hm;simp only [hl,Bool.and_false,Bool.or_false,Bool.or_eq_true,Bool.and_eq_true] at hm;rcases hm with hm|hm
       ·exact hm.1
       ·exact Apv hm.1
      cases hv:H7 ops x s.tm with
      |none=>
       exfalso;rw [Mz hx] at h;unfold gE at h;rw [hv] at h;cases h
      |some b=>
       cases b
       ·rfl
       ·unfold H2 at hx;rw [hMx,hv] at hx;cases hx
     ·exact .inl hl
    refine A5d ap.xo ap.ne ap.ox hlx (fun y hy i hi hR=>?_) ho h
    refine Adm hd (Ah1 ?_ hy hi) (Adz hMo hR);unfold Mc at hm;simp only [Bool.or_eq_true,Bool.and_eq_true] at hm;rcases hm with (hm|hm)|hm
    ·exact .inl hm.1
    ·exact .inr hm.2
    ·exact .inl (Apv hm.1)
  ·have hMx:=Xa hx;cases ho:H2 C P ops o s.tm
   ·have hlo:Al9 P ops o s.tm:=by
     cases hl:W5 P o.op
     ·right
      have hMo:Vo C P o.op=true:=by
       unfold Mc at hm;simp only [hl,Bool.and_false,Bool.false_or,Bool.or_eq_true,Bool.and_eq_true] at hm;rcases hm with hm|hm
       ·exact hm.1
       ·exact Apv hm.2
      cases hv:H7 ops o s.tm with
      |none=>
       exfalso;obtain ⟨s1,_,hk,_,h⟩:=Qi h;have hv1:H7 ops o s1.tm=none:=by rw [M4 (fun t ht=>hk.1 t fun hd=>ap.xo t hd ht)];exact hv
       rw [Mz (by unfold H2;rw [hv1];cases Vo C P o.op<;>rfl)] at h
       unfold gE at h;rw [hv1] at h;cases h
      |some b=>
       cases b
       ·rfl
       ·unfold H2 at ho;rw [hMo,hv] at ho;cases ho
     ·exact .inl hl
    refine A4j hw ap.xo ap.ne ap.ox hlo (fun y hy i hi hR=>?_) hx h
    refine Adm hd (Adz hMx hR) (Ah1 ?_ hy hi);unfold Mc at hm;simp only [Bool.or_eq_true,Bool.and_eq_true] at hm;rcases hm with (hm|hm)|hm
    ·exact .inr hm.2
    ·exact .inl hm.1
    ·exact .inl (Apv hm.2)
   ·have hMo:=Xa ho;unfold Mc at hm;simp only [Bool.or_eq_true,Bool.and_eq_true] at hm;rcases hm with (hm|hm)|hm
    ·rw [My (C:=C) (P:=P) hm.2] at hMo;cases hMo
    ·rw [My (C:=C) (P:=P) hm.2] at hMx;cases hMx
    ·exact A48 hw (fun y hy i hi=>hwx i (Ah1 (.inl hMx) hy hi)) ap.xo ap.ne ap.ox hm.1 hm.2 (fun i h1 h2=>Adm hd (Adz hMx h1) (Adz hMo h2)) hx ho h
theorem A3i {α:Type}(a b:α)(l:List α)(f:α->Bool):(a::b::l).all f=(b::a::l).all f:=by
 simp only [List.all_cons];cases f a<;>cases f b<;>rfl
theorem Agc {bs:List (List Nat)}:∀(l:List Nat){dn dn':List (Nat × Oper × List Nat)} {s:St}{K:St->Option R},(∀f,dn.all f=dn'.all f)->Jy C P N call ops bs dn l s K=Jy C P N call ops bs dn' l s K
 |[],_,_,_,_,_=>rfl
 |i::l,dn,dn',s,K,h=>by
  unfold Jy;cases ops[i]? with
  |none=>rfl
  |some o=>
   simp only [Ez,h]
   congr 2
   funext s'
   exact Agc l fun f=>by simp only [List.all_cons,h]
theorem Aji {bs:List Nat}{i:Nat}(hi:ops[i]?=some o):(Aiq C P ops bs).getD i []=Aei C P ops bs i o:=by
 unfold Aiq;rw [List.getD_eq_getElem?_getD,List.getElem?_map,List.getElem?_zipIdx,Array.getElem?_toList,hi];simp
theorem Vm {bs:List Nat}{i j:Nat}:j∈Aei C P ops bs i o↔∃x,ops[j]?=some x∧Mc C P x o=true∧(Nat.blt j i&&(bs.getD i 0).testBit j)=false∧(Nat.blt i j&&(bs.getD j 0).testBit i)=false:=by
 unfold Aei;simp only [List.mem_map,List.mem_filter,Bool.and_eq_true,Bool.not_eq_true',Prod.exists];constructor
 ·rintro ⟨x,k,⟨hm,⟨h1,h2⟩,h3⟩,rfl⟩
  rw [List.mem_zipIdx_iff_getElem?] at hm;exact ⟨x,by simpa using hm,h1,h2,h3⟩
 ·rintro ⟨x,hx,h1,h2,h3⟩
  refine ⟨x,j,⟨?_,⟨h1,h2⟩,h3⟩,rfl⟩;rw [List.mem_zipIdx_iff_getElem?]
  simpa using hx
theorem Ah7 {sm:List (List Nat)} {i j:Nat}(h:j∈sm.getD i []):rch C P sm s i o=Pb C P s o:=by
 unfold rch;split
 ·rename_i e;rw [e] at h;simp at h
 ·rfl
theorem A06 {sm:List (List Nat)} {i:Nat}(h:sm.getD i []≠[]->Pb C P s1 o=Pb C P s o):rch C P sm s1 i o=rch C P sm s i o:=by
 unfold rch;split
 ·rfl
 ·rename_i e;exact h (by rw [e];simp)
theorem Awk {l:List Nat}{j:Nat}:l.any (Nat.beq j)=true↔j∈l:=by
 constructor
 ·intro h;obtain ⟨k,hk,e⟩:=List.any_eq_true.1 h;rw [Nat.eq_of_beq_eq_true e];exact hk
 ·intro h;exact List.any_eq_true.2 ⟨j,h,Nat.beq_refl j⟩
theorem Acm {bs:List Nat}{sm:List (List Nat)} (hsm:sm=Aiq C P ops bs){i:Nat}(hi:ops[i]?=some o) {l':List Nat}:∀(l:List Nat){dn:List (Nat × Oper × List Nat)} {s:St}{K:St->Option R},Has C P o s ->
  (∀j∈l,j<i∧(bs.getD i 0).testBit j=false∧∀x,ops[j]?=some x->Ob C P ops x o)->Jy C P N call ops sm dn (l++i::l') s K=some r ->
  dn.all (Al5 C P sm s i o)=true∧Ee C P N call ops o s (fun s1=>Jy C P N call ops sm ((i,o,rch C P sm s i o)::dn) (l++l') s1 K)=some r
 |[],dn,s,K,hw,_,h=>by
  simp only [List.nil_append] at h ⊢;unfold Jy at h;rw [hi] at h;simp only [Ez] at h;obtain ⟨hb,h⟩:=A7 h;simp only [Bool.and_eq_true] at hb;exact ⟨hb.1,h⟩
 |j::l,dn,s,K,hw,hl,h=>by
  simp only [List.cons_append] at h ⊢;unfold Jy at h;obtain ⟨hji,hbit,hap⟩:=hl j (by simp)
  cases hj:ops[j]? with
  |none=>rw [hj] at h;cases h
  |some x=>
   rw [hj] at h;simp only [Ez] at h;obtain ⟨hb,h⟩:=A7 h;simp only [Bool.and_eq_true] at hb;have ap:=hap x hj
   have hex:∀k∈rch C P sm s j x,s.hp k≠none:=fun k hk=>by
    have:=List.all_eq_true.1 hb.2 k hk;intro e;rw [e] at this;cases this
   obtain ⟨s1,e1,hk1,hl1,h1⟩:=Qi h;obtain ⟨ha,h2⟩:=Acm hsm hi l (hw.keepsS ap hk1 hl1) (fun k hk=>hl k (by simp [hk])) h1
   have hr1':Pb C P s1 o=Pb C P s o:=Aqs (ops:=ops) (fun t ht=>hk1.1 t fun hd=>ap.xo t hd ht) fun hM hA y hy k hk=>ap.same hk1 hl1 hM hA (hw.1 y hy k hk)
   have hr1:rch C P sm s1 i o=rch C P sm s i o:=A06 fun _=>hr1'
   rw [List.all_cons,Bool.and_eq_true] at ha
   have hji':Nat.blt i j=false:=by
    cases hh:Nat.blt i j
    ·rfl
    ·have:=Nat.le_of_ble_eq_true hh;omega
   have hmi:Mc C P x o=true->j∈sm.getD i []:=fun hs=>by
    rw [hsm,Aji hi];exact Vm.2 ⟨x,hj,hs,by rw [hbit,Bool.and_false],by rw [hji',Bool.false_and]⟩
   have hmj:Mc C P x o=true->i∈sm.getD j []:=fun hs=>by
    rw [hsm,Aji hj];exact Vm.2 ⟨o,hi,by rw [Abv];exact hs,by rw [hji',Bool.false_and],by rw [hbit,Bool.and_false]⟩
   have hsoft:Mc C P x o=true->Axb (rch C P sm s j x) (rch C P sm s i o)=true:=by
    intro hs;have:=ha.1;unfold Al5 at this;rw [Awk.2 (hmi hs),hr1] at this
    simpa using this
   have hok:∀q,Al5 C P sm s1 i o q=Al5 C P sm s i o q:=fun q=>by unfold Al5;rw [hr1]
   have hall:dn.all (Al5 C P sm s i o)=true:=by
    refine List.all_eq_true.2 fun q hq=>?_
    rw [←hok];exact List.all_eq_true.1 ha.2 q hq
   refine ⟨hall,?_⟩;rw [hr1] at h2
   have h3:=Baf hw (fun hs k hk=>hex k (by rw [Ah7 (hmj hs)];exact hk)) ap (fun hs=>by have:=hsoft hs;rw [Ah7 (hmj hs),Ah7 (hmi hs)] at this;exact this)
    (Y8 (K':=fun s1=>Ee C P N call ops o s1 (fun s2=>Jy C P N call ops sm ((i,o,rch C P sm s i o)::(j,x,rch C P sm s j x)::dn) (l++l') s2 K)) e1 h2)
   obtain ⟨s2,e2,hk2,hl2,h4⟩:=Qi h3;refine Y8 e2 ?_
   have hr2:rch C P sm s2 j x=rch C P sm s j x:=A06 fun hne=>by
    obtain ⟨q,hq⟩:=List.exists_mem_of_ne_nil _ hne;refine Aqs (ops:=ops) (fun t ht=>hk2.1 t fun hd=>ap.ox t hd ht) fun hM hA y hy k hk=>ap.symm.same hk2 hl2 hM hA (hex k ?_)
    rw [Ah7 hq];exact Ah1 (.inl hM) hy hk
   unfold Jy;rw [hj];simp only [Ez]
   have hc:(((i,o,rch C P sm s i o)::dn).all (Al5 C P sm s2 j x)&&(rch C P sm s2 j x).all fun k=>(s2.hp k).isSome)=true:=by
    simp only [List.all_cons,Bool.and_eq_true];refine ⟨⟨?_,?_⟩,?_⟩
    ·unfold Al5;simp only [hr2];cases hs:(sm.getD j []).any (Nat.beq i)
     ·rfl
     ·have hm:=Awk.1 hs;rw [hsm,Aji hj] at hm;obtain ⟨o',ho',hso,_⟩:=Vm.1 hm;rw [hi] at ho';cases ho';rw [Abv] at hso;rw [Aw2 (hsoft hso)];rfl
    ·refine List.all_eq_true.2 fun q hq=>?_
     have:=List.all_eq_true.1 hb.1 q hq;unfold Al5 at this ⊢;rw [hr2];exact this
    ·rw [hr2];refine List.all_eq_true.2 fun k hk=>?_
     have:=hk2.2.1 k (hex k hk);cases hh:s2.hp k with
     |none=>exact absurd hh this
     |some _=>rfl
   rw [hc,hr2];show Ee C P N call ops x s2 _=some r
   have:(fun s'=>Jy C P N call ops sm ((j,x,rch C P sm s j x)::(i,o,rch C P sm s i o)::dn) (l++l') s' K)=fun s2=>Jy C P N call ops sm ((i,o,rch C P sm s i o)::(j,x,rch C P sm s j x)::dn) (l++l') s2 K:=by
    funext s'
    exact Agc _ fun f=>A3i _ _ _ f
   rw [this];exact h4
end
section
variable {R:Type} {r:R} {P:Program} {N:Nat} {w0:World} {X0:Jc} {Y:Nat->Prop} {β β':Bt} {s:St} {a:Act} {w w':World} {o:Oper} {ops:Array Oper} {C:Jf} {call:Am} {K:St->Option R}
theorem Aak {bs:List Nat}:∀(l:List Oper)(n:Nat),Ad7 C P ops bs l n=true->∀(k:Nat) o,l[k]?=some o->∀(j:Nat) x,ops[j]?=some x->j<n+k->A1o C P ops x o=true->(bs.getD (n+k) 0).testBit j=true
 |[],_,_,k,o,ho,_,_,_,_,_=>by simp at ho
 |o'::l,n,h,k,o,ho,j,x,hx,hj,hcl=>by
  simp only [Ad7,Bool.and_eq_true] at h;cases k with
  |zero=>
   simp at ho;subst ho
   have:=List.all_eq_true.1 h.1 (x,j) (by
    rw [List.mem_zipIdx_iff_getElem?]
    simpa using hx)
   simp only [hcl,Bool.not_true,Bool.or_false,Bool.or_eq_true,Bool.not_eq_true'] at this;rcases this with h'|h'
   ·have:Nat.blt j n=true:=Nat.ble_eq_true_of_le (by omega)
    rw [this] at h';cases h'
   ·exact h'
  |succ k=>
   have:=Aak l (n+1) h.2 k o (by simpa using ho) j x hx (by omega) hcl
   rwa [show n+(k+1)=n+1+k by omega]
theorem Ao8 {G:Glo}(hNG:Env P G w0 X0)(hcall:∀f args res,call f args=some res->G7 G P f args res)(hok:Aol C P ops=true){Q:Exit->Act->World->Prop}(hQ:∀s' a' w' β',K s'=some r->D0 N w0 X0 Y β' s' a' w'->Q .normal a' w'):
  ∀(fuel:Nat) {dn:List (Nat × Oper × List Nat)} {listed:Array Bool} {s:St} {a:Act} {w:World} {β:Bt},HeadInv .any ops ops.size listed->(Po ops.size listed).length=fuel->D0 N w0 X0 Y β s a w->Jy C P N call ops (Aiq C P ops (Kn ops.toList [])) dn (Po ops.size listed) s K=some r->wpAny P .any ops Q fuel listed a w:=by
 unfold Aol at hok;simp only [Bool.and_eq_true] at hok;obtain ⟨hok1,hok2⟩:=hok;intro fuel
 induction fuel with
 |zero=>
  intro dn listed s a w β inv hf h hk;have hp:=List.eq_nil_of_length_eq_zero hf;rw [hp] at hk;refine ⟨?_,hQ s a w β hk h⟩;cases hr:Region.ready .any ops listed with
  |nil=>rfl
  |cons i l=>
   exfalso;have hi:i∈Region.ready .any ops listed:=by rw [hr];simp
   obtain ⟨hun,o,ho,_⟩:=mem_ready.1 hi;have:i∈Po ops.size listed:=Ld.2 ⟨(Array.getElem?_eq_some_iff.1 ho).1,hun⟩;rw [hp] at this;simp at this
 |succ fuel ih=>
  intro dn listed s a w β inv hf h hk;refine ⟨fun hr=>?_,fun i hi=>?_⟩
  ·rw [Amm hok1 inv hr] at hf;cases hf
  ·obtain ⟨hun,o,ho,hall⟩:=mem_ready.1 hi;have hlt:i<ops.size:=(Array.getElem?_eq_some_iff.1 ho).1;obtain ⟨l1,l2,h1,h2,h3⟩:=Aay (Ld.2 ⟨hlt,hun⟩) inv.size;rw [h1] at hk
   have hnb:∀j∈l1,((Kn ops.toList []).getD i 0).testBit j=false:=by
    intro j hj;cases hbit:((Kn ops.toList []).getD i 0).testBit j with
    |false=>rfl
    |true=>
     exfalso;have hjl:=Vd (listed:=listed) (fun j oj hj hl=>inv.closed j oj hj hl) ops.toList [] [] (by simp) rfl (by simp) i o ho hall j hbit
     have:j∈Po ops.size listed:=by rw [h1];simp [hj]
     have:=getD_both (Ld.1 this).2;rw [hjl] at this;cases this
   have hap:∀j∈l1,j<i∧((Kn ops.toList []).getD i 0).testBit j=false∧∀x,ops[j]?=some x->Ob C P ops x o:=by
    intro j hj;refine ⟨h3 j hj,hnb j hj,fun x hxj=>Ayc ?_⟩
    cases hcl:A1o C P ops x o with
    |false=>rfl
    |true=>
     exfalso;have hbit:=Aak ops.toList 0 hok2 i o (by simpa using ho) j x hxj (by have:=h3 j hj;omega) hcl
     rw [Nat.zero_add,hnb j hj] at hbit;cases hbit
   obtain ⟨s',hs',hn⟩:=Aby h hNG hcall ho (Acm rfl ho l1 (A0z h o) hap hk).2;refine hn _ _ fun a' w' β' h'=>ih (dn:=(i,o,rch C P (Aiq C P ops (Kn ops.toList [])) s i o)::dn) (inv.set hi hlt) ?_ h' ?_
   ·rw [h2];rw [h1] at hf;simp at hf ⊢;omega
   ·rw [h2];exact hs'
theorem Aqf (h:D0 N w0 X0 Y β s a w){G:Glo}(hNG:Env P G w0 X0)(hcall:∀f args res,call f args=some res->G7 G P f args res)(hm:P.follows .mixedOrders=true)(hok:Aol C P ops=true){id:Nat}{Q:Exit->Act->World->Prop}
  (hk:Jy C P N call ops (Aiq C P ops (Kn ops.toList [])) [] (List.range ops.size) s K=some r) (hQ:∀s' a' w' β',K s'=some r->D0 N w0 X0 Y β' s' a' w'->Q .normal a' w'):(Code.region id ops true).wp P Q a w:=by
 have hp:Po ops.size (Array.replicate ops.size false)=List.range ops.size:=by
  unfold Po;refine List.filter_eq_self.2 fun i hi=>?_
  have:=List.mem_range.1 hi;simp [this]
 refine wp_region_any hm (Ao8 (C:=C) (dn:=[]) hNG hcall hok hQ ops.size ⟨by simp,fun j oj _ hl=>(by rw [getD_replicate_false] at hl;cases hl),fun t ht ht'=>by omega⟩ (by rw [hp];simp) h.drew ?_)
 rw [hp];exact hk
end
open Go.RowKit
section
variable {R:Type} {r:R} {N:Nat} {w0:World} {X0:Jc} {Y:Nat->Prop} {β β':Bt} {s:St} {a:Act} {w w':World}
theorem A2x {i:Nat}(hi:i<a.tmps.size):a.put (some i) (a.tmps.getD i undef)=a:=by
 obtain ⟨tmps,dfr⟩:=a;change i<tmps.size at hi
 have:tmps.setIfInBounds i (tmps.getD i undef)=tmps:=by
  apply Array.ext_getElem?;intro k;by_cases e:i=k
  ·subst e;simp [hi]
  ·rw [Array.getElem?_setIfInBounds_ne e]
 simp only [Act.put,this]
theorem Av9 {A:Nat->Prop}{es:Nat}{v:Value}(h:Bq w A (.lst true es 0 []) v):v=.slice none 0 0:=by
 cases h;rfl
theorem Avw {id:Nat}(hid:s.hp id=none){v:PV}{val:Value}(hv:Fj w (D3 (Be s.hp [(id,.ar false [])]) (Dg β id none) Y) (Dg β id none) v val) (hr:∀i∈Cs v,s.hp i≠none∨i=id):
  An0 Y β s w v [(id,.ar false [])] val w (Dg β id none):=by
 refine ⟨rfl,rfl,rfl,Cx.refl _ _,fun j hj=>A3 _ _ (by rintro rfl;exact hj hid),?_,?_,?_,?_,?_,hv,?_⟩
 ·intro j bx hm;simp at hm;rw [hm.2];trivial
 ·intro j bx hm;simp at hm;obtain ⟨rfl,rfl⟩:=hm;exact .inl ⟨A8 _ _ _,rfl⟩
 ·intro j bx k q hm hq;simp at hm;obtain ⟨rfl,rfl⟩:=hm;rw [A8] at hq;cases hq
 ·intro j bx j' bx' k q q' hm hm' _ _;simp at hm hm';rw [hm.1,hm'.1]
 ·intro j cells hm;simp at hm
 ·intro j hj;rcases hr j hj with h|rfl
  ·exact .inl h
  ·exact .inr ⟨.ar false [],by simp⟩
theorem Alp (h:D0 N w0 X0 Y β s a w)(i:Nat):∃β',D0 N w0 X0 Y β' (Aoy s i) a w:=by
 unfold Aoy;split
 ·rename_i es ht;cases hn:(s.hp i).isNone
  ·exact ⟨β,h⟩
  ·have hn:s.hp i=none:=by simpa using hn
   have hlt:i<N:=by
    rcases Nat.lt_or_ge i N with h'|h'
    ·exact h'
    ·rw [h.tmo i h'] at ht;cases ht
   have hv:=h.tms i hlt;rw [ht] at hv;have hv:=Av9 hv;have hd:Hm N (some i)=true:=by simp [Hm,Nat.blt];omega
   have:=h.stepR (d:=some i) hd (by simp [Cp,hn]) (Avw (v:=.view i es 0 0) (val:=.slice none 0 0) hn (.inl ⟨A8 _ _ _,rfl,rfl,rfl⟩) (by simp [Cs,Dc,Bd]))
   rw [←hv,A2x (by rw [h.tsz];exact hlt)] at this
   exact ⟨_,this⟩
 ·exact ⟨β,h⟩
theorem D0.recell (h:D0 N w0 X0 Y β s a w){id:Nat}{c c':List PV}(h0:s.hp id=some (.st c)) (hl:c'.length=c.length)
  (hc:∀(j:Nat) p,c'[j]?=some p->∃q,c[j]?=some q∧(∀v,Cz w (D3 s.hp β Y) β q v->Cz w (D3 s.hp β Y) β p v)∧∀i∈Bd p,s.hp i≠none):
  D0 N w0 X0 Y β ⟨s.tm,Dg s.hp id (some (.st c'))⟩ a w:=by
 have hlive:∀i,D1 (Dg s.hp id (some (.st c')) i)↔D1 (s.hp i):=by
  intro i;by_cases e:i=id
  ·subst e;rw [A8,h0];exact Iff.rfl
  ·rw [A3 _ _ e]
 have hX:Xof (Dg s.hp id (some (.st c'))) β=Xof s.hp β:=by
  funext b
  apply propext;constructor
  ·rintro ⟨i,o,hl,hb⟩;exact ⟨i,o,(hlive i).1 hl,hb⟩
  ·rintro ⟨i,o,hl,hb⟩;exact ⟨i,o,(hlive i).2 hl,hb⟩
 have hA:D3 (Dg s.hp id (some (.st c'))) β Y=D3 s.hp β Y:=by
  funext b;unfold D3;rw [hX]
 have hne:∀i,s.hp i≠none->Dg s.hp id (some (.st c')) i≠none:=by
  intro i hi;by_cases e:i=id
  ·subst e;rw [A8];simp
  ·rw [A3 _ _ e];exact hi
 have hne':∀i,Dg s.hp id (some (.st c')) i≠none->s.hp i≠none:=by
  intro i hi;by_cases e:i=id
  ·subst e;rw [h0];simp
  ·rw [A3 _ _ e] at hi;exact hi
 refine ⟨h.dfr,h.tsz,h.tmo,?_,?_,?_,?_,?_,?_,?_,?_,fun i hi=>⟨hne _ (h.pin i hi).1,(h.pin i hi).2⟩,?_,?_,h.Ylt,h.fr⟩
 ·intro i hi;show Fj w (D3 (Dg s.hp id _) β Y) β _ _;rw [hA];exact h.tms i hi
 ·intro i b hb;show Ux w (D3 (Dg s.hp id _) β Y) β i b;rw [hA];by_cases e:i=id
  ·subst e;change Dg s.hp i (some (.st c')) i=some b at hb;rw [A8] at hb;cases hb;obtain ⟨b,o,h1,h2,h3⟩:=h.box i _ h0;refine ⟨b,o,h1,fun j p hj=>?_,fun j hj=>h3 j (by rw [←hl];exact hj)⟩
   obtain ⟨q,hq,hqp,_⟩:=hc j p hj;obtain ⟨v,hv,hr⟩:=h2 j q hq;exact ⟨v,hv,hqp v hr⟩
  ·change Dg s.hp id (some (.st c')) i=some b at hb;rw [A3 _ _ e] at hb;exact h.box i b hb
 ·intro i i' b o o' hl hl' hb hb';exact h.inj i i' b o o' ((hlive i).1 hl) ((hlive i').1 hl') hb hb'
 ·intro i b o hn hb;exact h.blt i b o (hne' i hn) hb
 ·intro i hi j hj;exact hne j (h.wfT i hi j hj)
 ·intro i cells hb p hp j hj;change Dg s.hp id (some (.st c')) i=_ at hb;by_cases e:i=id
  ·subst e;rw [A8] at hb;cases hb;obtain ⟨k,hk⟩:=List.mem_iff_getElem?.1 hp;obtain ⟨_,_,_,hr⟩:=hc k p hk;exact hne j (hr j hj)
  ·rw [A3 _ _ e] at hb;exact hne j (h.wfB i cells hb p hp j hj)
 ·intro b hb;exact h.ownd b (by rw [←hX];exact hb)
 ·intro i bx b o hb hlb hβ hlt j hj;change Dg s.hp id (some (.st c')) i=some bx at hb;by_cases e:i=id
  ·subst e;rw [A8] at hb;cases hb;exact h.rngB i _ b o h0 trivial hβ hlt j (by unfold BR at hj ⊢;simp only [hl] at hj;exact hj)
  ·rw [A3 _ _ e] at hb;exact h.rngB i bx b o hb hlb hβ hlt j hj
 ·intro i c1 b o hb hβ hlt;change Dg s.hp id (some (.st c')) i=_ at hb;by_cases e:i=id
  ·subst e;exact h.stp i c b o h0 hβ hlt
  ·rw [A3 _ _ e] at hb;exact h.stp i c1 b o hb hβ hlt
 ·intro b hY hb;exact h.Yx b hY (by rw [←hX];exact hb)
theorem Al8 (h:D0 N w0 X0 Y β s a w)(id j:Nat):∃β',D0 N w0 X0 Y β' (Apd N id s j) a w:=by
 unfold Apd;split
 ·rename_i c h0;split
  ·rename_i es hj;cases hn:(s.hp (id+N*(j+1))).isNone
   ·exact ⟨β,h⟩
   ·have hn:s.hp (id+N*(j+1))=none:=by simpa using hn
    have hne:id≠id+N*(j+1):=by
     intro e;rw [←e,h0] at hn;cases hn
    have h1:=h.stepR (d:=none) (v:=.top) (val:=undef) rfl (by simp [Cp,hn]) (Avw hn (.top _) (by simp [Cs,Dc,Bd]))
    change D0 N w0 X0 Y (Dg β (id+N*(j+1)) none) ⟨s.tm,Dg s.hp (id+N*(j+1)) (some (.ar false []))⟩ a w at h1
    have h2:=h1.recell (id:=id) (c:=c) (c':=c.set j (.view (id+N*(j+1)) es 0 0)) (by show Dg _ _ _ _=_;rw [A3 _ _ hne];exact h0) (by simp) (by
     intro k p hp;by_cases e:k=j
     ·subst e
      have hlt:k<c.length:=by
       rcases Nat.lt_or_ge k c.length with h'|h'
       ·exact h'
       ·rw [List.getElem?_eq_none h'] at hj;cases hj
      rw [List.getElem?_set_self hlt] at hp;cases hp;refine ⟨_,hj,fun v hv=>.inl ⟨A8 _ _ _,rfl,rfl,Av9 hv⟩,fun i hi=>?_⟩
      simp [Bd] at hi;subst hi;show Dg _ _ _ _≠none;rw [A8];simp
     ·rw [List.getElem?_set_ne (fun h=>e h.symm)] at hp
      refine ⟨p,hp,fun _ hv=>hv,fun i hi=>?_⟩
      have:=h.wfB id c h0 p (List.mem_of_getElem? hp) i hi;show Dg _ _ _ _≠none;by_cases e':i=id+N*(j+1)
      ·subst e';rw [A8];simp
      ·rw [A3 _ _ e'];exact this)
    refine ⟨Dg β (id+N*(j+1)) none,?_⟩;have e3:Dg (Dg s.hp (id+N*(j+1)) (some (.ar false []))) id (some (.st (c.set j (.view (id+N*(j+1)) es 0 0))))=Dg (Dg s.hp id (some (.st (c.set j (.view (id+N*(j+1)) es 0 0))))) (id+N*(j+1)) (some (.ar false [])):=Aq0 _ _ _ (fun h=>hne h.symm)
    change D0 N w0 X0 Y (Dg β (id+N*(j+1)) none) ⟨s.tm,Dg (Dg s.hp (id+N*(j+1)) (some (.ar false []))) id (some (.st (c.set j (.view (id+N*(j+1)) es 0 0))))⟩ a w at h2;rw [e3] at h2;exact h2
  ·exact ⟨β,h⟩
 ·exact ⟨β,h⟩
theorem R2 {f:St->Nat->St}(hf:∀s β,D0 N w0 X0 Y β s a w->∀i,∃β',D0 N w0 X0 Y β' (f s i) a w):∀(l:List Nat){s:St}{β:Bt},D0 N w0 X0 Y β s a w->∃β',D0 N w0 X0 Y β' (l.foldl f s) a w
 |[],_,β,h=>⟨β,h⟩
 |i::l,s,β,h=>by
  obtain ⟨β1,h1⟩:=hf s β h i;exact R2 hf l h1
theorem Ap2 (h:D0 N w0 X0 Y β s a w)(i:Nat):∃β',D0 N w0 X0 Y β' (Au8 N s i) a w:=by
 unfold Au8;split
 ·split
  ·exact R2 (fun s β h i=>Al8 h _ i) _ h
  ·exact ⟨β,h⟩
 ·exact ⟨β,h⟩
theorem Anl:∀{m:List (Nat × Nat)},Ey (m.map (·.2))=true->∀{i i' j:Nat},(i,j)∈m->(i',j)∈m->i=i'
 |[],_,_,_,_,h,_=>by simp at h
 |(x,y)::m,hn,i,i',j,h,h'=>by
  simp only [List.map_cons,Ey,Bool.and_eq_true,Bool.not_eq_true'] at hn
  have hy:∀k,(k,y) ∉ m:=by
   intro k hk;exact Vp hn.1 (List.mem_map.2 ⟨(k,y),hk,rfl⟩)
  rcases List.mem_cons.1 h with e|h
  ·cases e;rcases List.mem_cons.1 h' with e|h'
   ·cases e;rfl
   ·exact absurd h' (hy _)
  ·rcases List.mem_cons.1 h' with e|h'
   ·cases e;exact absurd h (hy _)
   ·exact Anl hn.2 h h'
theorem Afk:∀{m:List (Nat × Nat)},Ey (m.map (·.1))=true->∀{i j j':Nat},(i,j)∈m->(i,j')∈m->j=j'
 |[],_,_,_,_,h,_=>by simp at h
 |(x,y)::m,hn,i,j,j',h,h'=>by
  simp only [List.map_cons,Ey,Bool.and_eq_true,Bool.not_eq_true'] at hn
  have hx:∀k,(x,k) ∉ m:=by
   intro k hk;exact Vp hn.1 (List.mem_map.2 ⟨(x,k),hk,rfl⟩)
  rcases List.mem_cons.1 h with e|h
  ·cases e;rcases List.mem_cons.1 h' with e|h'
   ·cases e;rfl
   ·exact absurd h' (hx _)
  ·rcases List.mem_cons.1 h' with e|h'
   ·cases e;exact absurd h (hx _)
   ·exact Afk hn.2 h h'
theorem Pf {i j:Nat}(h:Nat.beq i j=false):i≠j:=by rintro rfl;rw [Nat.beq_refl] at h;cases h
theorem Ad5:∀{m:List (Nat × Nat)} {i j:Nat},Z1 m i=some j->(i,j)∈m
 |[],_,_,h=>by cases h
 |(x,y)::m,i,j,h=>by
  unfold Z1 at h;cases hb:Nat.beq i x<;>rw [hb] at h
  ·exact List.mem_cons_of_mem _ (Ad5 h)
  ·have:=Nat.eq_of_beq_eq_true hb;cases h;rw [this];simp
theorem Afn {m:List (Nat × Nat)} {hp:Nat->Option Ck}:∀{l:List (Nat × Nat)} {j:Nat}{b:Ck},Gn (O4 m hp l) j=some b->∃i b0,(i,j)∈l∧hp i=some b0∧b=A42 m b0
 |[],_,_,h=>by cases h
 |(x,y)::l,j,b,h=>by
  unfold O4 at h;cases hx:hp x with
  |none=>
   rw [hx] at h;obtain ⟨i,b0,h1,h2⟩:=Afn h;exact ⟨i,b0,List.mem_cons_of_mem _ h1,h2⟩
  |some bx=>
   rw [hx] at h;simp only [Gn] at h;cases hb:Nat.beq j y<;>rw [hb] at h
   ·obtain ⟨i,b0,h1,h2⟩:=Afn h;exact ⟨i,b0,List.mem_cons_of_mem _ h1,h2⟩
   ·have:=Nat.eq_of_beq_eq_true hb;subst this;cases h;exact ⟨x,bx,by simp,hx,rfl⟩
theorem P4 {m:List (Nat × Nat)} {hp:Nat->Option Ck}:∀{l:List (Nat × Nat)} {i j:Nat},(i,j)∈l->hp i≠none->Gn (O4 m hp l) j≠none
 |[],_,_,h,_=>by simp at h
 |(x,y)::l,i,j,h,hi=>by
  unfold O4;cases hx:hp x with
  |none=>
   rcases List.mem_cons.1 h with e|h
   ·cases e;exact absurd hx hi
   ·exact P4 h hi
  |some bx=>
   simp only [Gn];cases hb:Nat.beq j y
   ·rcases List.mem_cons.1 h with e|h
    ·cases e;exact absurd rfl (Pf hb)
    ·exact P4 h hi
   ·simp
def lkr (m:List (Nat × Nat)) (j:Nat):Option Nat:=
 match m with
 |[]=>none
 |(x,y)::r=>bif Nat.beq j y then some x else lkr r j
theorem Awr:∀{m:List (Nat × Nat)} {i j:Nat},lkr m j=some i->(i,j)∈m
 |[],_,_,h=>by cases h
 |(x,y)::m,i,j,h=>by
  unfold lkr at h;cases hb:Nat.beq j y<;>rw [hb] at h
  ·exact List.mem_cons_of_mem _ (Awr h)
  ·have:=Nat.eq_of_beq_eq_true hb;cases h;rw [this];simp
theorem Asf:∀{m:List (Nat × Nat)} {i j:Nat},(i,j)∈m->∃k,lkr m j=some k
 |[],_,_,h=>by simp at h
 |(x,y)::m,i,j,h=>by
  unfold lkr;cases hb:Nat.beq j y
  ·rcases List.mem_cons.1 h with e|h
   ·cases e;exact absurd rfl (Pf hb)
   ·exact Asf h
  ·exact ⟨x,rfl⟩
theorem Aom {f:Nat->PV}:∀{l:List Nat}{i:Nat},lk (l.map fun i=>(i,f i)) i=if i∈l then f i else .top
 |[],_=>rfl
 |x::l,i=>by
  simp only [List.map_cons,lk];cases hb:Nat.beq i x
  ·have:=Pf hb;simp only [cond_false,Aom,List.mem_cons,this,false_or]
  ·have:=Nat.eq_of_beq_eq_true hb;subst this;simp
theorem An4 {m:Nat}:∀{n i:Nat},i∈W3 m n->i<n
 |0,_,h=>by simp [W3] at h
 |n+1,i,h=>by
  simp only [W3,List.mem_append] at h;rcases h with h|h
  ·have:=An4 h;omega
  ·cases hb:m.testBit n<;>rw [hb] at h
   ·simp at h
   ·simp at h;omega
theorem Aov (h:D0 N w0 X0 Y β s a w){m:List (Nat × Nat)} (h1:Ey (m.map (·.1))=true) (h2:Ey (m.map (·.2))=true) {ls:List Nat}(hls:∀i∈ls,i<N)(hpn:∀i,X0.pn i->(D9 N i,D9 N i)∈m):
  ∃β',D0 N w0 X0 Y β' ⟨lk (ls.map fun i=>(i,Ayd m (s.tm i))),Gn (O4 m s.hp m)⟩ a w:=by
 refine ⟨fun j=>(lkr m j).bind β,?_⟩
 have hβ:∀{i j:Nat},(i,j)∈m->(lkr m j).bind β=β i:=by
  intro i j hm;obtain ⟨k,hk⟩:=Asf hm;rw [hk];have:=Anl h2 (Awr hk) hm;subst this;rfl
 have hold:∀{j:Nat} {b:Ck},Gn (O4 m s.hp m) j=some b->∃i b0,(i,j)∈m∧s.hp i=some b0∧b=A42 m b0∧(lkr m j).bind β=β i:=by
  intro j b hb;obtain ⟨i,b0,hm,h3,h4⟩:=Afn hb;exact ⟨i,b0,hm,h3,h4,hβ hm⟩
 have hlive:∀{j:Nat},D1 (Gn (O4 m s.hp m) j)->∃i,(i,j)∈m∧D1 (s.hp i)∧(lkr m j).bind β=β i:=by
  intro j hl;cases hb:Gn (O4 m s.hp m) j with
  |none=>rw [hb] at hl;exact hl.elim
  |some b=>
   obtain ⟨i,b0,hm,h3,rfl,h5⟩:=hold hb;refine ⟨i,hm,?_,h5⟩;rw [hb] at hl;rw [h3];cases b0<;>exact hl
 have hX:∀b,Xof (Gn (O4 m s.hp m)) (fun j=>(lkr m j).bind β) b->Xof s.hp β b:=by
  rintro b ⟨j,o,hl,hb⟩
  obtain ⟨i,_,hl',e⟩:=hlive hl;exact ⟨i,o,hl',by rw [←e];exact hb⟩
 have hA:∀b,D3 (Gn (O4 m s.hp m)) (fun j=>(lkr m j).bind β) Y b->D3 s.hp β Y b:=fun b hb=>hb.imp (hX b) id
 have hC:∀p v,Cz w (D3 s.hp β Y) β p v->Cz w (D3 (Gn (O4 m s.hp m)) (fun j=>(lkr m j).bind β) Y) (fun j=>(lkr m j).bind β) (Auv m p) v:=by
  intro p v hp;cases p with
  |view id es off n=>
   show Cz _ _ _ (match Z1 m id with|some j=>.view j es off n|none=>.top) v
   cases hj:Z1 m id with
   |some j=>
    have e:=hβ (Ad5 hj);rcases hp with ⟨e1,e2⟩|⟨b,o,x,cap,e1,e2⟩
    ·exact .inl ⟨by show (lkr m j).bind β=none;rw [e];exact e1,e2⟩
    ·exact .inr ⟨b,o,x,cap,by show (lkr m j).bind β=_;rw [e];exact e1,e2⟩
   |none=>exact Bq.top _
  |ptr id off=>
   show Cz _ _ _ (match Z1 m id with|some j=>.ptr j off|none=>.top) v
   cases hj:Z1 m id with
   |some j=>
    have e:=hβ (Ad5 hj);obtain ⟨b,o,e1,e2⟩:=hp;exact ⟨b,o,by show (lkr m j).bind β=_;rw [e];exact e1,e2⟩
   |none=>exact Bq.top _
  |sc v=>exact Bq.step (Cx.refl _ _) (fun b _=>hA b) hp
  |lst z es n c=>exact Bq.step (Cx.refl _ _) (fun b _=>hA b) hp
  |iptr c off=>exact Cz.step (p:=.iptr c off) (Cx.refl _ _) (fun b _=>hA b) (by simp [Bd]) hp
  |_=>exact Bq.top _
 have hV:∀p v,Fj w (D3 s.hp β Y) β p v->Fj w (D3 (Gn (O4 m s.hp m)) (fun j=>(lkr m j).bind β) Y) (fun j=>(lkr m j).bind β) (Ayd m p) v:=by
  intro p v hp;cases p with
  |agg c=>
   obtain ⟨vs,e1,e2⟩:=hp;refine ⟨vs,e1,B5.of_at (by simp;exact e2.len) fun i q u hq hu=>?_⟩
   rw [List.getElem?_map] at hq;cases hc:c[i]? with
   |none=>rw [hc] at hq;cases hq
   |some q0=>
    rw [hc] at hq;cases hq;exact hC _ _ (e2.at_ hc hu)
  |view id es off n=>
   have:=hC (.view id es off n) v hp;change Cz _ _ _ (match Z1 m id with|some j=>.view j es off n|none=>.top) v at this
   show Fj _ _ _ (match Z1 m id with|some j=>.view j es off n|none=>.top) v
   cases hj:Z1 m id<;>rw [hj] at this<;>exact this
  |ptr id off=>
   have:=hC (.ptr id off) v hp;change Cz _ _ _ (match Z1 m id with|some j=>.ptr j off|none=>.top) v at this
   show Fj _ _ _ (match Z1 m id with|some j=>.ptr j off|none=>.top) v
   cases hj:Z1 m id<;>rw [hj] at this<;>exact this
  |sc v'=>exact hC (.sc v') v hp
  |lst z es n c=>exact hC (.lst z es n c) v hp
  |iptr c off=>exact hC (.iptr c off) v hp
  |_=>exact Bq.top _
 have hrC:∀p i,i∈Bd (Auv m p)->∃k∈Bd p,(k,i)∈m:=by
  intro p i hi;cases p with
  |view id es off n=>
   change i∈Bd (match Z1 m id with|some j=>.view j es off n|none=>.top) at hi
   cases hj:Z1 m id<;>rw [hj] at hi
   ·simp [Bd] at hi
   ·simp [Bd] at hi;subst hi;exact ⟨id,by simp [Bd],Ad5 hj⟩
  |ptr id off=>
   change i∈Bd (match Z1 m id with|some j=>.ptr j off|none=>.top) at hi
   cases hj:Z1 m id<;>rw [hj] at hi
   ·simp [Bd] at hi
   ·simp [Bd] at hi;subst hi;exact ⟨id,by simp [Bd],Ad5 hj⟩
  |_=>simp [Auv,Bd] at hi
 have hrV:∀p i,i∈Cs (Ayd m p)->∃k∈Cs p,(k,i)∈m:=by
  intro p i hi;cases p with
  |agg c=>
   simp only [Ayd,Cs,Dc,List.mem_flatMap,List.mem_map] at hi;obtain ⟨_,⟨q,hq,rfl⟩,hi⟩:=hi;obtain ⟨k,hk,hm⟩:=hrC q i hi;exact ⟨k,by simp only [Cs,Dc,List.mem_flatMap];exact ⟨q,hq,hk⟩,hm⟩
  |view id es off n=>
   refine (hrC (.view id es off n) i ?_).imp fun k hk=>hk
   change i∈Cs (match Z1 m id with|some j=>.view j es off n|none=>.top) at hi
   show i∈Bd (match Z1 m id with|some j=>.view j es off n|none=>.top)
   cases hj:Z1 m id<;>rw [hj] at hi<;>exact hi
  |ptr id off=>
   refine (hrC (.ptr id off) i ?_).imp fun k hk=>hk
   change i∈Cs (match Z1 m id with|some j=>.ptr j off|none=>.top) at hi
   show i∈Bd (match Z1 m id with|some j=>.ptr j off|none=>.top)
   cases hj:Z1 m id<;>rw [hj] at hi<;>exact hi
  |_=>simp [Ayd,Auv,Cs,Dc,Bd] at hi
 refine ⟨h.dfr,h.tsz,?_,?_,?_,?_,?_,?_,?_,?_,?_,?_,?_,?_,h.Ylt,h.fr⟩
 ·intro i hi;show lk _ i=_;rw [Aom,if_neg (fun hm=>by have:=hls i hm;omega)]
 ·intro i hi;show Fj w _ _ (lk _ i) _;rw [Aom];split
  ·exact hV _ _ (h.tms i hi)
  ·exact Bq.top _
 ·intro j b hb;obtain ⟨i,b0,hm,h3,rfl,e⟩:=hold hb;have hbx:=h.box i b0 h3;cases b0 with
  |st c=>
   obtain ⟨b,o,e1,e2,e3⟩:=hbx;refine ⟨b,o,by show (lkr m j).bind β=_;rw [e];exact e1,fun k p hp=>?_,fun k hk=>e3 k (by simpa using hk)⟩
   rw [List.getElem?_map] at hp;cases hc:c[k]? with
   |none=>rw [hc] at hp;cases hp
   |some q=>
    rw [hc] at hp;cases hp;obtain ⟨v,hv,hr⟩:=e2 k q hc;exact ⟨v,hv,hC _ _ hr⟩
  |ar fz c=>
   have:=Ux.step' hA hbx;show Ux _ _ _ _ (.ar fz c);rcases this with ⟨e1,e2⟩|⟨b,o,e1,e2⟩
   ·exact .inl ⟨by show (lkr m j).bind β=_;rw [e];exact e1,e2⟩
   ·exact .inr ⟨b,o,by show (lkr m j).bind β=_;rw [e];exact e1,e2⟩
  |mv=>exact trivial
 ·intro j j' b o o' hl hl' hb hb';obtain ⟨i,hm,hl1,e⟩:=hlive hl;obtain ⟨i',hm',hl1',e'⟩:=hlive hl';have:=h.inj i i' b o o' hl1 hl1' (by rw [←e];exact hb) (by rw [←e'];exact hb')
  subst this;exact Afk h1 hm hm'
 ·intro j b o hn hb;cases hj:Gn (O4 m s.hp m) j with
  |none=>exact absurd hj hn
  |some bx=>
   obtain ⟨i,b0,_,h3,_,e⟩:=hold hj;exact h.blt i b o (by rw [h3];simp) (by rw [←e];exact hb)
 ·intro i hi j hj;change j∈Cs (lk _ i) at hj;rw [Aom] at hj;split at hj
  ·obtain ⟨k,hk,hm⟩:=hrV _ j hj;exact P4 hm (h.wfT i hi k hk)
  ·simp [Cs,Dc,Bd] at hj
 ·intro j cells hb p hp k hk;obtain ⟨i,b0,_,h3,h4,_⟩:=hold hb;cases b0 with
  |st c=>
   cases h4;obtain ⟨q,hq,rfl⟩:=List.mem_map.1 hp;obtain ⟨k',hk',hm⟩:=hrC q k hk;exact P4 hm (h.wfB i c h3 q hq k' hk')
  |ar fz c=>cases h4
  |mv=>cases h4
 ·intro b hb;exact h.ownd b (hX b hb)
 ·intro j bx b o hb hlb hβ1 hlt k hk;obtain ⟨i,b0,_,h3,h4,e⟩:=hold hb;subst h4;refine h.rngB i b0 b o h3 ?_ (by rw [←e];exact hβ1) hlt k ?_
  ·cases b0<;>exact hlb
  ·cases b0 with
   |st c=>simpa [BR,A42] using hk
   |ar fz c=>exact hk
   |mv=>exact hk
 ·intro i hi;exact ⟨P4 (hpn i hi) (h.pin i hi).1,(hβ (hpn i hi)).trans (h.pin i hi).2⟩
 ·intro j c b o hb hβ1 hlt;obtain ⟨i,b0,hm,h3,h4,e⟩:=hold hb;cases b0 with
  |st c0=>
   obtain ⟨k,rfl,hk⟩:=h.stp i c0 b o h3 (by rw [←e];exact hβ1) hlt
   exact ⟨k,Afk h1 hm (hpn k hk),hk⟩
  |ar fz c0=>cases h4
  |mv=>cases h4
 ·intro b hY hb;exact h.Yx b hY (hX b hb)
theorem Yy {m:List (Nat × Nat)} {q:Nat × Nat}{o n:Nat}(h:q∈m):q∈Ani m o n:=by
 unfold Ani;split
 ·exact h
 ·exact List.mem_append.2 (.inl h)
theorem Oa {q:Nat × Nat}{new:Nat}:∀{c:List PV}{j:Nat}{m:List (Nat × Nat)},q∈m->q∈Vt N new c j m
 |[],_,_,h=>h
 |p::c,j,m,h=>by
  unfold Vt;split
  ·rename_i e;cases e
  ·rename_i e;cases e;exact Oa (Yy h)
  ·rename_i e;cases e;exact Oa h
theorem Ara {q:Nat × Nat}{m:List (Nat × Nat)} {i:Nat}(h:q∈m):q∈Ahz N s m i:=by
 unfold Ahz;split
 ·exact Yy h
 ·split
  ·exact h
  ·split
   ·exact Oa (Yy h)
   ·exact Yy h
 ·exact Oa h
 ·exact h
theorem Ad1 {q:Nat × Nat}:∀{l:List Nat}{m:List (Nat × Nat)},q∈m->q∈l.foldl (Ahz N s) m
 |[],_,h=>h
 |_::l,_,h=>Ad1 (l:=l) (Ara h)
theorem Uw {q:Nat × Nat}{m:List (Nat × Nat)} (h:q∈m):∀k,q∈Xi N s.hp k m
 |0=>h
 |k+1=>by
  unfold Xi;split
  ·exact Oa (Uw h k)
  ·exact Uw h k
theorem Anq:∀{k i:Nat},i<k->s.hp (D9 N i)≠none->(D9 N i,D9 N i)∈Arp N s.hp k
 |0,_,h,_=>by omega
 |k+1,i,h,hn=>by
  unfold Arp;by_cases e:i=k
  ·subst e
   have:(s.hp (D9 N i)).isSome=true:=by
    cases hq:s.hp (D9 N i) with
    |none=>exact absurd hq hn
    |some b=>rfl
   rw [this];simp
  ·have:=Anq (k:=k) (i:=i) (by omega) hn
   cases (s.hp (D9 N k)).isSome
   ·exact this
   ·exact List.mem_append.2 (.inl this)
theorem Yh (h:D0 N w0 X0 Y β s a w){L:Nat}{K:St->Option R}(hk:Aac N L s K=some r):∃β' s',K s'=some r∧D0 N w0 X0 Y β' s' a w:=by
 unfold Aac A5x at hk;obtain ⟨hb,hk1⟩:=A7 hk;simp only [Bool.and_eq_true] at hb;obtain ⟨β1,h1⟩:=R2 (fun s β h i=>Alp h i) (W3 L N) h
 obtain ⟨β2,h2⟩:=R2 (fun s β h i=>Ap2 h i) (W3 L N) h1
 obtain ⟨β3,h3⟩:=Aov h2 hb.1 hb.2 (ls:=W3 L N) (fun i hi=>An4 hi) (fun i hi=>Ad1 (Uw (Anq (X0.p8 i hi) (h2.pin i hi).1) 8))
 exact ⟨β3,_,hk1,h3⟩
end
open Go.RowKit
section
variable {R:Type} {r:R} {P:Program} {N:Nat} {w0:World} {X0:Jc} {Y:Nat->Prop} {C:Jf} {call:Am}
theorem Ayx {n:Nat}{F:St->Option R}{s:St}(h:Aro n F s=some r):F s=some r:=by
 unfold Aro at h;split at h
 ·cases h
 ·exact h
theorem Arv {β:Bt}{s:St}{a:Act}{w:World}(h:D0 N w0 X0 Y β s a w){c:Operand}{kt kf:St->Option R}(hk:A0y s c kt kf=some r):(a.eval c=.bool true∧kt s=some r)∨(a.eval c=.bool false∧kf s=some r):=by
 unfold A0y at hk;split at hk
 ·rename_i d;split at hk
  ·rename_i b ht;have hv:a.eval (.tmp d)=.bool b:=De h (x:=.tmp d) ht;cases b
   ·change kf ⟨Dg s.tm d (.sc (.bool false)),s.hp⟩=some r at hk;rw [Ad4 s.tm ht] at hk;exact .inr ⟨hv,hk⟩
   ·change kt ⟨Dg s.tm d (.sc (.bool true)),s.hp⟩=some r at hk;rw [Ad4 s.tm ht] at hk;exact .inl ⟨hv,hk⟩
  ·rename_i ht;have hu:=Dy h (.tmp d);change Fj _ _ _ (s.tm d) _ at hu;rw [ht] at hu;have hu':Bq w _ .ub (a.eval (.tmp d)):=hu
   obtain ⟨b,hv⟩:∃b,a.eval (.tmp d)=.bool b:=by
    generalize a.eval (.tmp d)=x at hu';cases hu' with
    |ub b=>exact ⟨b,rfl⟩
   obtain ⟨h1,h2⟩:=Am2 hk;cases b
   ·exact .inr ⟨hv,h2⟩
   ·exact .inl ⟨hv,h1⟩
  ·cases hk
 ·exact .inl ⟨rfl,hk⟩
 ·exact .inr ⟨rfl,hk⟩
 ·cases hk
theorem Aic {c:Code}{Q:Exit->Act->World->Prop}{F:(St->Option R)->St->Option R} {nm:St->(St->Option R)->Option R}
  (hnm:∀{β s a w} {K:St->Option R},D0 N w0 X0 Y β s a w->nm s K=some r->∃β' s',K s'=some r∧D0 N w0 X0 Y β' s' a w)
  (hF:∀{β s a w} {K:St->Option R}{Q':Act->World->Prop},D0 N w0 X0 Y β s a w->F K s=some r->(∀s' a' w' β',K s'=some r->D0 N w0 X0 Y β' s' a' w'->Q' a' w')->c.wp P (Exit.then Q' Q) a w):
  ∀(n:Nat) {β s a w},D0 N w0 X0 Y β s a w->A19 F nm n s=some r->Code.rounds P c Q n a w
 |0,_,_,_,_,_,hk=>by cases hk
 |n+1,β,s,a,w,h,hk=>by
  rw [rounds_succ];refine hF h hk fun s' a' w' β' hk' h'=>?_
  obtain ⟨β1,s1,hk1,h1⟩:=hnm h' hk';exact Aic hnm hF n h1 hk1
theorem At4 {G:Glo}(hNG:Env P G w0 X0)(hcall:∀f args res,call f args=some res->G7 G P f args res)(hm:P.follows .mixedOrders=true){fu:Nat}:
  ∀(c:Code) {ln:Nat} {lx:Nat->Nat} {lr:Nat} {kn:St->Option R} {kx:Nat->St->Option R} {kr:St->Option R} {β:Bt} {s:St} {a:Act} {w:World} {Q:Exit->Act->World->Prop},D0 N w0 X0 Y β s a w ->
   Vn C P fu N call c ln lx lr kn kx kr s=some r->(∀s' a' w' β',kn s'=some r->D0 N w0 X0 Y β' s' a' w'->Q .normal a' w') ->
   (∀id s' a' w' β',kx id s'=some r->D0 N w0 X0 Y β' s' a' w'->Q (.exit id) a' w')->(∀s' a' w' β',kr s'=some r->D0 N w0 X0 Y β' s' a' w'->Q .ret a' w')->c.wp P Q a w:=by
 intro c
 induction c with
 |skip=>intro ln lx lr kn kx kr β s a w Q h hk hn hx hr;exact wp_skip (hn s a w β hk h)
 |region id ops draw=>
  intro ln lx lr kn kx kr β s a w Q h hk hn hx hr;unfold Vn at hk;cases draw
  ·simp only [Aw7,Bool.false_and,cond_false] at hk;exact Apt h hNG hcall hk hn
  ·simp only [Aw7,A5y,Bool.true_and,cond_true] at hk;cases hb:Ar7 C P ops<;>rw [hb] at hk
   ·obtain ⟨hb',hk1⟩:=A7 (show Aq _ _=some r from hk)
    exact Aqf h hNG hcall hm hb' hk1 hn
   ·exact Apq h hNG hcall hm hb hk hn
 |seq c1 c2 ih1 ih2=>
  intro ln lx lr kn kx kr β s a w Q h hk hn hx hr;unfold Vn at hk
  refine wp_seq (ih1 h hk (fun s' a' w' β' hk' h'=>by
    cases hc:Azx P c1 c2
    ·rw [hc] at hk';exact ih2 h' hk' hn hx hr
    ·rw [hc] at hk';obtain ⟨β1,s1,hk1,h1⟩:=Yh h' (show Aac _ _ _ _=some r from hk')
     exact ih2 h1 (Ayx hk1) hn hx hr) (fun id s' a' w' β' hk' h'=>hx id s' a' w' β' hk' h') (fun s' a' w' β' hk' h'=>hr s' a' w' β' hk' h'))
 |cond c c1 c2 ih1 ih2=>
  intro ln lx lr kn kx kr β s a w Q h hk hn hx hr;unfold Vn at hk;rcases Arv h hk with ⟨hc,hk1⟩|⟨hc,hk1⟩
  ·exact wp_cond_true hc (ih1 h hk1 hn hx hr)
  ·exact wp_cond_false hc (ih2 h hk1 hn hx hr)
 |block id c ih=>
  intro ln lx lr kn kx kr β s a w Q h hk hn hx hr;unfold Vn at hk;refine wp_block (ih h hk (fun s' a' w' β' hk' h'=>hn s' a' w' β' hk' h') (fun j s' a' w' β' hk' h'=>?_) (fun s' a' w' β' hk' h'=>hr s' a' w' β' hk' h'))
  show (if j=id then _ else _)
  by_cases e:j=id
  ·subst e;rw [if_pos rfl];rw [Nat.beq_refl] at hk';exact hn s' a' w' β' hk' h'
  ·rw [if_neg e]
   have:Nat.beq j id=false:=by
    cases hb:Nat.beq j id
    ·rfl
    ·exact absurd (Nat.eq_of_beq_eq_true hb) e
   rw [this] at hk';exact hx j s' a' w' β' hk' h'
 |loop c ih=>
  intro ln lx lr kn kx kr β s a w Q h hk hn hx hr;unfold Vn at hk;obtain ⟨β1,s1,hk1,h1⟩:=Yh h hk;refine wp_loop_rounds fu (Aic (fun h hk=>Yh h hk) (fun h hk hQ=>?_) fu h1 hk1)
  exact ih h hk hQ (fun id s' a' w' β' hk' h'=>hx id s' a' w' β' hk' h') (fun s' a' w' β' hk' h'=>hr s' a' w' β' hk' h')
 |«exit» id=>intro ln lx lr kn kx kr β s a w Q h hk hn hx hr;exact wp_exit (hx id s a w β hk h)
 |ret=>intro ln lx lr kn kx kr β s a w Q h hk hn hx hr;exact wp_ret (hr s a w β hk h)
 |_=>intro ln lx lr kn kx kr β s a w Q h hk hn hx hr;cases hk
end
open Go.RowKit
theorem Pr:∀{l:List (Nat × Ck)} {i:Nat}{b:Ck},Gn l i=some b->(i,b)∈l
 |[],_,_,h=>by cases h
 |(j,c)::l,i,b,h=>by
  unfold Gn at h;cases hb:Nat.beq i j<;>rw [hb] at h
  ·exact List.mem_cons_of_mem _ (Pr h)
  ·have:=Nat.eq_of_beq_eq_true hb;cases h;rw [this];simp
theorem Apx:∀{l:List (Nat × Ck)},(l.map (·.1)).Nodup->∀{i b},(i,b)∈l->Gn l i=some b
 |[],_,_,_,h=>by cases h
 |(j,c)::l,hn,i,b,h=>by
  simp only [List.map_cons,List.nodup_cons] at hn;unfold Gn;rcases List.mem_cons.1 h with e|h
  ·cases e;simp only [Nat.beq_refl,cond_true]
  ·have:Nat.beq i j=false:=by
    cases hb:Nat.beq i j
    ·rfl
    ·exact absurd (Nat.eq_of_beq_eq_true hb ▸ List.mem_map.2 ⟨_,h,rfl⟩) hn.1
   simp only [this,cond_false];exact Apx hn.2 h
section
variable {R:Type} {r:R} {P:Program} {N:Nat} {w0:World} {X0:Jc} {Y:Nat->Prop} {β β':Bt} {s:St} {a:Act} {w w':World} {A:Nat->Prop}
theorem A27 {id:Nat}{t:CT}{p:PV}{K:PV->List (Nat × Ck)->Option R} (hk:A24 id t p K=some r):
  (∃c,K c []=some r∧isT c∧∀w A q u,H9 w A q p u->Bq w A c u)∨∃es n cc,p=.own es n cc∧K (.view id es 0 n) [(id,.ar false cc)]=some r:=by
 have tree:∀t',(tcK t' p fun c=>K c [])=some r->∃c,K c []=some r∧isT c∧∀w A q u,H9 w A q p u->Bq w A c u:=by
  intro t' hk;obtain ⟨c,hk,hT,hpT,hv⟩:=Ph hk;refine ⟨c,hk,hT,fun w A q u h=>(hv w A (fun _=>none) u ?_).1⟩
  cases p<;>first|exact h|exact hpT.elim
 unfold A24 at hk;cases t with
 |sl es=>
  dsimp only at hk;split at hk
  ·rename_i es' n c;cases hb:Nat.beq es' es<;>rw [hb] at hk
   ·cases hk
   ·have:=Nat.eq_of_beq_eq_true hb;subst this;exact .inr ⟨_,_,_,rfl,hk⟩
  ·exact .inl (tree (.sl es) hk)
 |int k=>exact .inl (tree _ hk)
 |bool=>exact .inl (tree _ hk)
 |str=>exact .inl (tree _ hk)
 |any=>exact .inl (tree _ hk)
theorem Ui:∀{ts:List CT}{id:Nat}{ps:List PV}{K:List PV->List (Nat × Ck)->Option R},Agi N id ts ps K=some r ->
  ∃cs bs,∃qs:List (Nat × Nat),K cs bs=some r∧cs.length=ps.length∧ps.length=ts.length∧bs.map (·.1)=qs.map (·.1)∧(∀q∈qs,∀q'∈qs,q.2=q'.2->q.1=q'.1) ∧
   (∀i bx,(i,bx)∈bs->∃c,bx=.ar false c)∧(∀c∈cs,isF c)∧(∀c∈cs,∀i∈Bd c,∃bx,(i,bx)∈bs) ∧
   ∀(w:World) (A:Nat->Prop) (own β':Bt) (j0:Nat) (us:List Value),(∀q∈qs,β' q.1=own (j0+q.2))->Gd w A own j0 ps us->B5 (Cz w A β') cs us∧∀i bx,(i,bx)∈bs->Ux w A β' i bx
 |[],id,ps,K,hk=>by
  obtain ⟨rfl,hk⟩:=Eb hk;refine ⟨[],[],[],hk,rfl,rfl,rfl,by simp,by simp,by simp,by simp,fun w A own β' j0 us _ h=>⟨?_,by simp⟩⟩
  cases us with
  |nil=>trivial
  |cons u us=>exact h.elim
 |t::ts,id,ps,K,hk=>by
  unfold Agi at hk;obtain ⟨p,ps',hps,hk1⟩:=Bo hk;subst hps;rcases A27 hk1 with ⟨c,hk2,hT,hv⟩|⟨es,n,cc,rfl,hk2⟩
  ·obtain ⟨cs,bs,qs,hk3,hl,hl2,hb,hq2,hb1,hF,hb2,hvs⟩:=Ui hk2;refine ⟨c::cs,bs,qs.map (fun q=>(q.1,q.2+1)),hk3,by simp [hl],by simp [hl2],by rw [hb];simp,?_,hb1,?_,?_,fun w A own β' j0 us hβ ho=>?_⟩
   ·intro q hq q' hq' e;obtain ⟨q0,hq0,rfl⟩:=List.mem_map.1 hq;obtain ⟨q1,hq1',rfl⟩:=List.mem_map.1 hq';exact hq2 q0 hq0 q1 hq1' (by simp only at e;omega)
   ·intro y hy;rcases List.mem_cons.1 hy with rfl|hy
    ·exact Yz hT
    ·exact hF y hy
   ·intro y hy i hi;rcases List.mem_cons.1 hy with rfl|hy
    ·rw [Kc hT] at hi;cases hi
    ·exact hb2 y hy i hi
   ·cases us with
    |nil=>exact ho.elim
    |cons u us=>
     obtain ⟨h1,h2⟩:=hvs w A own β' (j0+1) us (fun q hq=>by rw [hβ _ (List.mem_map_of_mem hq)];congr 1;simp only;omega) ho.2
     exact ⟨⟨A2j (hv w A _ u ho.1),h1⟩,h2⟩
  ·obtain ⟨cs,bs,qs,hk3,hl,hl2,hb,hq2,hb1,hF,hb2,hvs⟩:=Ui hk2;refine ⟨_::cs,(id,.ar false cc)::bs,(id,0)::qs.map (fun q=>(q.1,q.2+1)),hk3,by simp [hl],by simp [hl2],by simp only [List.map_cons,hb];simp,?_,?_,?_,?_,fun w A own β' j0 us hβ ho=>?_⟩
   ·intro q hq q' hq' e;rcases List.mem_cons.1 hq with rfl|hq
    ·rcases List.mem_cons.1 hq' with rfl|hq'
     ·rfl
     ·obtain ⟨q0,hq0,rfl⟩:=List.mem_map.1 hq';simp only at e;omega
    ·obtain ⟨q0,hq0,rfl⟩:=List.mem_map.1 hq;rcases List.mem_cons.1 hq' with rfl|hq'
     ·simp only at e;omega
     ·obtain ⟨q1,hq1',rfl⟩:=List.mem_map.1 hq';exact hq2 q0 hq0 q1 hq1' (by simp only at e;omega)
   ·intro i bx hm;rcases List.mem_cons.1 hm with e|hm
    ·cases e;exact ⟨cc,rfl⟩
    ·exact hb1 i bx hm
   ·intro y hy;rcases List.mem_cons.1 hy with rfl|hy
    ·trivial
    ·exact hF y hy
   ·intro y hy i hi;rcases List.mem_cons.1 hy with rfl|hy
    ·simp only [Bd,List.mem_singleton] at hi;subst hi;exact ⟨_,List.mem_cons_self⟩
    ·obtain ⟨bx,hbx⟩:=hb2 y hy i hi;exact ⟨bx,List.mem_cons_of_mem _ hbx⟩
   ·cases us with
    |nil=>exact ho.elim
    |cons u us=>
     obtain ⟨h1,h2⟩:=hvs w A own β' (j0+1) us (fun q hq=>by rw [hβ _ (List.mem_cons_of_mem _ (List.mem_map_of_mem hq))];congr 1;simp only;omega) ho.2
     have h0:=hβ (id,0) List.mem_cons_self;simp only [Nat.add_zero] at h0;refine ⟨⟨?_,h1⟩,fun i bx hm=>?_⟩
     ·rcases ho.1 with ⟨h3,rfl,_,h5⟩|⟨b,ob,cap,h3,h4,h5,h6,h7,_⟩
      ·exact .inl ⟨h0.trans h3,rfl,rfl,h5⟩
      ·exact .inr ⟨b,ob,ob,cap,h0.trans h3,h4,.inl rfl,h5,h6,h7⟩
     ·rcases List.mem_cons.1 hm with e|hm
      ·cases e;exact Ada ho.1 h0
      ·exact h2 i bx hm
theorem A33 {i:Nat}{t:TypeId}{p:PV}{K:PV->List (Nat × Ck)->Option R} (hk:inK P N i t p K=some r):
  ∃v bs,∃qs:List (Nat × Nat),K v bs=some r∧bs.map (·.1)=qs.map (·.1)∧(∀q∈qs,∀q'∈qs,q.2=q'.2->q.1=q'.1)∧(isL p=true->(D9 N i,0)∈qs∧i<8) ∧
   (∀id bx,(id,bx)∈bs->D1 (some bx)∧∀c,bx=.st c->id=D9 N i∧isL p=true)∧(∀id∈Cs v,∃bx,(id,bx)∈bs)∧Aes bs ∧
   ∀(w:World) (A:Nat->Prop) (bt β':Bt) (u:Value),(∀q∈qs,β' q.1=bt q.2)->Art w A bt p u->Fj w A β' v u∧(∀id bx,(id,bx)∈bs->Ux w A β' id bx) ∧
    ∀id bx b o,(id,bx)∈bs->β' id=some (b,o)->∀j,BR bx o j->A9c bt p b j:=by
 have owns:∀{bs:List (Nat × Ck)} {qs:List (Nat × Nat)},bs.map (·.1)=qs.map (·.1)->(∀i bx,(i,bx)∈bs->∃c,bx=.ar false c)->∀{bt β':Bt},(∀q∈qs,β' q.1=bt (1+q.2))->∀id bx b o,(id,bx)∈bs->β' id=some (b,o)->∀j,BR bx o j->∃k o',bt (k+1)=some (b,o')∧o'<=j:=by
  intro bs qs hb hb1 bt β' hβ id bx b o hm hbo j hj;have:id∈qs.map (·.1):=by rw [←hb];exact List.mem_map.2 ⟨_,hm,rfl⟩
  obtain ⟨q,hq,rfl⟩:=List.mem_map.1 this;obtain ⟨c,rfl⟩:=hb1 _ _ hm;rw [hβ q hq,Nat.add_comm] at hbo;exact ⟨q.2,o,hbo,hj⟩
 have nost:∀{bs:List (Nat × Ck)},(∀i bx,(i,bx)∈bs->∃c,bx=.ar false c)->Aes bs:=by
  intro bs hb1 id cells hm;obtain ⟨c,e⟩:=hb1 id _ hm;cases e
 unfold inK at hk;split at hk
 ·rename_i e he;obtain ⟨ps,rfl,hk1⟩:=Anz hk;obtain ⟨hi8,hk2⟩:=A7 hk1;have hi8:i<8:=Nat.lt_of_succ_le (Nat.le_of_ble_eq_true hi8);obtain ⟨cs,bs,qs,hk3,hl,hl2,hb,hq2,hb1,hF,hb2,hv⟩:=Ui hk2;refine ⟨_,_,(D9 N i,0)::qs.map (fun q=>(q.1,q.2+1)),hk3,by simp only [List.map_cons,hb];simp,?_,fun _=>⟨List.mem_cons_self,hi8⟩,?_,?_,?_,fun w A bt β' u hβ hp=>?_⟩
  ·intro q hq q' hq' e;rcases List.mem_cons.1 hq with rfl|hq
   ·rcases List.mem_cons.1 hq' with rfl|hq'
    ·rfl
    ·obtain ⟨q0,hq0,rfl⟩:=List.mem_map.1 hq';simp only at e;omega
   ·obtain ⟨q0,hq0,rfl⟩:=List.mem_map.1 hq;rcases List.mem_cons.1 hq' with rfl|hq'
    ·simp only at e;omega
    ·obtain ⟨q1,hq1',rfl⟩:=List.mem_map.1 hq';exact hq2 q0 hq0 q1 hq1' (by simp only at e;omega)
  ·intro id bx hm;rcases List.mem_cons.1 hm with e|hm
   ·cases e;exact ⟨trivial,fun _ _=>⟨rfl,rfl⟩⟩
   ·obtain ⟨c,rfl⟩:=hb1 id bx hm;exact ⟨trivial,fun _ e=>by cases e⟩
  ·intro id hid;simp only [Cs,Dc,Bd,List.mem_singleton] at hid;subst hid;exact ⟨_,List.mem_cons_self⟩
  ·intro id cells hm c hc k hk;rcases List.mem_cons.1 hm with e|hm
   ·cases e;obtain ⟨bx,hbx⟩:=hb2 c hc k hk;exact ⟨bx,List.mem_cons_of_mem _ hbx⟩
   ·obtain ⟨c,e⟩:=hb1 id _ hm;cases e
  ·obtain ⟨b,o,h1,rfl,_,vs,h3,h4,h5⟩:=hp;have h0:=hβ (D9 N i,0) List.mem_cons_self;simp only at h0;have hβ1:∀q∈qs,β' q.1=bt (1+q.2):=fun q hq=>by rw [hβ _ (List.mem_cons_of_mem _ (List.mem_map_of_mem hq)),Nat.add_comm]
   obtain ⟨h6,h7⟩:=hv w A bt β' 1 vs hβ1 h3;refine ⟨⟨b,o,h0.trans h1,by simp⟩,fun id bx hm=>?_,fun id bx b' o' hm hb' j hj=>?_⟩
   ·rcases List.mem_cons.1 hm with e|hm
    ·cases e;refine ⟨b,o,h0.trans h1,fun k c hk=>?_,fun k hk=>h5 k (by omega)⟩
     obtain ⟨v,hv,hcr⟩:=h6.get hk;exact ⟨v,h4 k v hv,hcr⟩
    ·exact h7 id bx hm
   ·rcases List.mem_cons.1 hm with e|hm
    ·cases e;rw [h0] at hb';have hj:o'<=j∧j<o'+cs.length:=hj;exact .inr ⟨o',ps,hb',hj.1,.inl ⟨rfl,by omega⟩⟩
    ·exact .inl (owns hb hb1 hβ1 id bx b' o' hm hb' j hj)
 ·split at hk
  ·rename_i ps;obtain ⟨e,he,hk1⟩:=Dv hk;obtain ⟨hi8,hk2⟩:=A7 hk1;have hi8:i<8:=Nat.lt_of_succ_le (Nat.le_of_ble_eq_true hi8);obtain ⟨q,qr,hq,hk3⟩:=Bo hk2;subst hq;obtain ⟨hnil,hk4⟩:=Eb hk3;subst hnil;unfold Dk at hk4;split at hk4
   ·rename_i es' n c;cases hb:Nat.beq es' (Bu P e)<;>rw [hb] at hk4
    ·cases hk4
    ·have hes:=Nat.eq_of_beq_eq_true hb;subst hes;refine ⟨_,_,[(D9 N i,0)],hk4,rfl,by simp,fun _=>⟨by simp,hi8⟩,?_,?_,?_,fun w A bt β' u hβ hp=>?_⟩
     ·intro id bx hm;simp only [List.mem_singleton] at hm;cases hm;exact ⟨trivial,fun _ e=>by cases e⟩
     ·intro id hid;simp only [Cs,Dc,Bd,List.mem_singleton] at hid;subst hid;exact ⟨_,List.mem_cons_self⟩
     ·intro id cells hm;simp only [List.mem_singleton] at hm;cases hm
     ·obtain ⟨es,n',c',h1,h2⟩:=hp;cases h1;have h0:=hβ (D9 N i,0) List.mem_cons_self;simp only at h0;refine ⟨?_,fun id bx hm=>?_,fun id bx b' o' hm hb' j hj=>?_⟩
      ·rcases h2 with ⟨h3,rfl,_,h5⟩|⟨b,ob,cap,h3,h4,h5,h6,h7,_⟩
       ·exact .inl ⟨h0.trans h3,rfl,rfl,h5⟩
       ·exact .inr ⟨b,ob,ob,cap,h0.trans h3,h4,.inl rfl,h5,h6,h7⟩
      ·simp only [List.mem_singleton] at hm;cases hm;exact Ada h2 h0
      ·simp only [List.mem_singleton] at hm;cases hm;rw [h0] at hb';exact .inr ⟨o',_,hb',hj,.inr rfl⟩
   ·cases hk4
  ·rename_i hnt;cases hagg:Df P t<;>rw [hagg] at hk
   ·simp only [cond_false] at hk;obtain ⟨cs,bs,qs,hk3,hl,hl2,hb,hq2,hb1,hF,hb2,hv⟩:=Ui hk;obtain ⟨c,cs',hcs,hk4⟩:=Bo hk3;subst hcs;obtain ⟨hnil,hk5⟩:=Eb hk4;subst hnil;have hFc:=hF c (by simp)
    have hnL:isL p=false∨∃ps,p=.pbox ps:=by
     cases p<;>first|exact .inl rfl|exact .inr ⟨_,rfl⟩|exact absurd rfl (hnt _)
    have hpb:∀ps,p ≠ .pbox ps:=by
     rintro ps rfl
     cases hts:Jg P t with
     |nil=>rw [hts] at hl2;simp at hl2
     |cons t' ts=>
      rw [hts] at hk;unfold Agi A24 at hk;obtain ⟨q,qs1,hq,hk1⟩:=Bo hk;cases hq;cases t'<;>simp [tcK,Ih,Af,Bz,Cn,fnK] at hk1
    have hpa:∀ps,p ≠ .agg ps:=by
     rintro ps rfl
     cases hts:Jg P t with
     |nil=>rw [hts] at hl2;simp at hl2
     |cons t' ts=>
      rw [hts] at hk;unfold Agi A24 at hk;obtain ⟨q,qs1,hq,hk1⟩:=Bo hk;cases hq;cases t'<;>simp [tcK,Ih,Af,Bz,Cn,fnK] at hk1
    have hnL:isL p=false:=hnL.elim id (fun ⟨ps,e⟩=>absurd e (hpb ps))
    have hrefs:Cs c=Bd c:=by cases c<;>first|rfl|exact hFc.elim
    refine ⟨c,bs,qs.map (fun q=>(q.1,q.2+1)),hk5,by rw [hb];simp,?_,(fun h=>by rw [hnL] at h;cases h),?_,fun id hid=>hb2 c (by simp) id (by rw [←hrefs];exact hid),nost hb1,fun w A bt β' u hβ hp=>?_⟩
    ·intro q hq q' hq' e;obtain ⟨q0,hq0,rfl⟩:=List.mem_map.1 hq;obtain ⟨q1,hq1',rfl⟩:=List.mem_map.1 hq';exact hq2 q0 hq0 q1 hq1' (by simp only at e;omega)
    ·intro id bx hm;obtain ⟨c,rfl⟩:=hb1 id bx hm;exact ⟨trivial,fun _ e=>by cases e⟩
    ·have hp':H9 w A (bt 1) p u:=by cases p<;>first|exact hp.2|exact absurd rfl (hpa _)|exact absurd rfl (hpb _)|exact absurd rfl (hnt _)
     have hβ1:∀q∈qs,β' q.1=bt (1+q.2):=fun q hq=>by rw [hβ _ (List.mem_map_of_mem hq),Nat.add_comm]
     obtain ⟨h6,h7⟩:=hv w A bt β' 1 [u] hβ1 ⟨hp',trivial⟩;refine ⟨?_,h7,fun id bx b' o' hm hb' j hj=>.inl (owns hb hb1 hβ1 id bx b' o' hm hb' j hj)⟩
     have h8:=h6.1;cases c<;>first|exact h8|exact hFc.elim
   ·simp only [cond_true] at hk;obtain ⟨ps,hp0,hk1⟩:=Is hk;subst hp0;obtain ⟨cs,bs,qs,hk3,hl,hl2,hb,hq2,hb1,hF,hb2,hv⟩:=Ui hk1;refine ⟨_,bs,qs.map (fun q=>(q.1,q.2+1)),hk3,by rw [hb];simp,?_,(fun h=>by cases h),?_,fun id hid=>?_,nost hb1,fun w A bt β' u hβ hp=>?_⟩
    ·intro q hq q' hq' e;obtain ⟨q0,hq0,rfl⟩:=List.mem_map.1 hq;obtain ⟨q1,hq1',rfl⟩:=List.mem_map.1 hq';exact hq2 q0 hq0 q1 hq1' (by simp only at e;omega)
    ·intro id bx hm;obtain ⟨c,rfl⟩:=hb1 id bx hm;exact ⟨trivial,fun _ e=>by cases e⟩
    ·obtain ⟨c,hc,hi⟩:=List.mem_flatMap.1 (show id∈cs.flatMap Bd from hid)
     exact hb2 c hc id hi
    ·obtain ⟨vs,h1,_,h3⟩:=hp;have hβ1:∀q∈qs,β' q.1=bt (1+q.2):=fun q hq=>by rw [hβ _ (List.mem_map_of_mem hq),Nat.add_comm]
     obtain ⟨h6,h7⟩:=hv w A bt β' 1 vs hβ1 h3;exact ⟨⟨vs,h1,h6⟩,h7,fun id bx b' o' hm hb' j hj=>.inl (owns hb hb1 hβ1 id bx b' o' hm hb' j hj)⟩
theorem Aqe:∀{ts:List TypeId}{i:Nat}{ps:List PV}{K:List (Nat × PV)->List (Nat × Ck)->Option R},A2r P N i ts ps K=some r ->
  ∃tms bs,∃qs:List (Nat × Nat × Nat),K tms bs=some r∧bs.map (·.1)=qs.map (·.1)∧(∀q∈qs,i<=q.2.1)∧(∀q∈qs,∀q'∈qs,q.2=q'.2->q.1=q'.1) ∧
   (∀k p,ps[k]?=some p->isL p=true->(D9 N (i+k),i+k,0)∈qs∧i+k<8)∧(∀id bx,(id,bx)∈bs->D1 (some bx)∧∀c,bx=.st c->∃k p,ps[k]?=some p∧isL p=true∧id=D9 N (i+k)) ∧
   (∀j,∀id∈Cs (lk tms j),∃bx,(id,bx)∈bs)∧Aes bs ∧
   ∀(w:World) (A:Nat->Prop) (bt:Bt2) (β':Bt) (us:List Value),(∀q∈qs,β' q.1=bt q.2.1 q.2.2)->Ou w A bt i ps us ->
    (∀j,(∃u,i<=j∧us[j-i]?=some u∧Fj w A β' (lk tms j) u)∨(lk tms j=.top∧(i<=j->us[j-i]?=none)))∧(∀id bx,(id,bx)∈bs->Ux w A β' id bx) ∧
    ∀id bx b o,(id,bx)∈bs->β' id=some (b,o)->∀j,BR bx o j->∃k p,ps[k]?=some p∧A9c (bt (i+k)) p b j
 |[],i,ps,K,hk=>by
  obtain ⟨hps,hk⟩:=Eb hk;subst hps;refine ⟨[],[],[],hk,rfl,by simp,by simp,by simp,by simp,(fun j id hid=>by cases hid),(by intro i cells hm;cases hm),fun w A bt β' us _ h=>?_⟩
  cases us with
  |nil=>exact ⟨fun j=>.inr ⟨rfl,fun _=>by simp⟩,by simp,by simp⟩
  |cons u us=>exact h.elim
 |t::ts,i,ps,K,hk=>by
  unfold A2r at hk;obtain ⟨p,ps',hps,hk1⟩:=Bo hk;subst hps;obtain ⟨v,bs,qs,hk2,hb,hqi,hpin,hbx,hr,hri,hv⟩:=A33 hk1;obtain ⟨tms,bs',qs',hk3,hb',hq0',hqi',hpin',hbx',hr',hri',hv'⟩:=Aqe hk2;refine ⟨(i,v)::tms,bs++bs',qs.map (fun q=>(q.1,i,q.2))++qs',hk3,by simp only [List.map_append,hb,hb'];simp,?_,?_,?_,?_,?_,?_,fun w A bt β' us hβ hp=>?_⟩
  ·intro q hq;rcases List.mem_append.1 hq with hq|hq
   ·obtain ⟨q0,hq0,rfl⟩:=List.mem_map.1 hq;exact Nat.le_refl _
   ·have:=hq0' q hq;omega
  ·intro q hq q' hq' e;rcases List.mem_append.1 hq with hq|hq
   ·obtain ⟨q0,hq0,rfl⟩:=List.mem_map.1 hq;rcases List.mem_append.1 hq' with hq'|hq'
    ·obtain ⟨q1,hq1',rfl⟩:=List.mem_map.1 hq';simp only [Prod.mk.injEq,true_and] at e;exact hqi q0 hq0 q1 hq1' e
    ·have:=hq0' q' hq';rw [←e] at this;simp only at this;omega
   ·have h5:=hq0' q hq;rcases List.mem_append.1 hq' with hq'|hq'
    ·obtain ⟨q1,hq1',rfl⟩:=List.mem_map.1 hq';rw [e] at h5;simp only at h5;omega
    ·exact hqi' q hq q' hq' e
  ·intro k p' hk' hL;cases k with
   |zero=>
    simp only [List.getElem?_cons_zero,Option.some.injEq] at hk';subst hk';obtain ⟨h1,h2⟩:=hpin hL;exact ⟨List.mem_append.2 (.inl (List.mem_map.2 ⟨_,h1,rfl⟩)),h2⟩
   |succ k=>
    obtain ⟨h1,h2⟩:=hpin' k p' (by simpa using hk') hL
    rw [show i+1+k=i+(k+1) by omega] at h1 h2
    exact ⟨List.mem_append.2 (.inr h1),h2⟩
  ·intro id bx hm;rcases List.mem_append.1 hm with hm|hm
   ·obtain ⟨h1,h2⟩:=hbx id bx hm;exact ⟨h1,fun c hc=>⟨0,p,rfl,(h2 c hc).2,(h2 c hc).1⟩⟩
   ·obtain ⟨h1,h2⟩:=hbx' id bx hm;refine ⟨h1,fun c hc=>?_⟩
    obtain ⟨k,p',h3,h4,h5⟩:=h2 c hc;exact ⟨k+1,p',by simpa using h3,h4,by rw [h5,show i+1+k=i+(k+1) by omega]⟩
  ·intro j id hid;unfold lk at hid;cases hbq:Nat.beq j i<;>rw [hbq] at hid
   ·obtain ⟨bx,h1⟩:=hr' j id hid;exact ⟨bx,List.mem_append.2 (.inr h1)⟩
   ·obtain ⟨bx,h1⟩:=hr id hid;exact ⟨bx,List.mem_append.2 (.inl h1)⟩
  ·intro id cells hm c hc k hk;rcases List.mem_append.1 hm with hm|hm
   ·obtain ⟨bx,h1⟩:=hri id cells hm c hc k hk;exact ⟨bx,List.mem_append.2 (.inl h1)⟩
   ·obtain ⟨bx,h1⟩:=hri' id cells hm c hc k hk;exact ⟨bx,List.mem_append.2 (.inr h1)⟩
  ·cases us with
   |nil=>exact hp.elim
   |cons u us=>
    obtain ⟨h1,h2,h3⟩:=hv w A (bt i) β' u (fun q hq=>hβ _ (List.mem_append.2 (.inl (List.mem_map_of_mem hq)))) hp.1
    obtain ⟨h1',h2',h3'⟩:=hv' w A bt β' us (fun q hq=>hβ q (List.mem_append.2 (.inr hq))) hp.2
    refine ⟨fun j=>?_,fun id bx hm=>?_,fun id bx b o hm hbo j hj=>?_⟩
    ·unfold lk;cases hbq:Nat.beq j i
     ·have hne:=Pf hbq;simp only [cond_false];rcases h1' j with ⟨u',h4,h5,h6⟩|⟨h4,h5⟩
      ·refine .inl ⟨u',by omega,?_,h6⟩
       rw [show j-i=(j-(i+1))+1 by omega]
       simpa using h5
      ·refine .inr ⟨h4,fun hij=>?_⟩
       rw [show j-i=(j-(i+1))+1 by omega]
       simpa using h5 (by omega)
     ·have:=Nat.eq_of_beq_eq_true hbq;subst this;exact .inl ⟨u,Nat.le_refl _,by simp,h1⟩
    ·rcases List.mem_append.1 hm with hm|hm
     ·exact h2 id bx hm
     ·exact h2' id bx hm
    ·rcases List.mem_append.1 hm with hm|hm
     ·exact ⟨0,p,rfl,h3 id bx b o hm hbo j hj⟩
     ·obtain ⟨k,p',h4,h5⟩:=h3' id bx b o hm hbo j hj;exact ⟨k+1,p',by simpa using h4,by rw [show i+(k+1)=i+1+k by omega];exact h5⟩
def As8 (bt:Bt2)(args:List PV)(h8:∀k p,args[k]?=some p->isL p=true->k<8):Jc:=
 ⟨BtX bt,Ams bt args,fun i=>∃p,args[i]?=some p∧isL p=true,fun i=>bt i 0,fun i ⟨p,h1,h2⟩=>h8 i p h1 h2⟩
theorem Ay5 {ts:List TypeId}{args:List PV}{us:List Value}{bt:Bt2}{K:List (Nat × PV)->List (Nat × Ck)->Option R} (hin:Ins w Y bt args us)(hk:A2r P N 0 ts args K=some r):
  ∃tms bs,K tms bs=some r∧(Cp (fun _=>none) bs=true->us.length<=N->∃(h8:∀k p,args[k]?=some p->isL p=true->k<8),∃β0,
   D0 N w (As8 bt args h8) Y β0 ⟨lk tms,Gn bs⟩ { tmps:=us.toArray++Array.replicate (N-us.toArray.size) undef,defers:=[] } w):=by
 obtain ⟨tms,bs,qs,hk1,hb,hq0,hqi,hpin,hbx,hr,hri,hv⟩:=Aqe hk;refine ⟨tms,bs,hk1,fun hab hN=>?_⟩
 have hnod:=U0 hab
 have h8:∀k p,args[k]?=some p->isL p=true->k<8:=fun k p h1 h2=>by
  have:=(hpin k p h1 h2).2;omega
 have hqn:(qs.map (·.1)).Nodup:=by rw [←hb];exact hnod
 obtain ⟨β0,hβ0⟩:∃β0:Bt,∀q∈qs,β0 q.1=bt q.2.1 q.2.2:=by
  have:∀(l:List (Nat × Nat × Nat)),(l.map (·.1)).Nodup->∃β0:Bt,∀q∈l,β0 q.1=bt q.2.1 q.2.2:=by
   intro l
   induction l with
   |nil=>intro _;exact ⟨fun _=>none,by simp⟩
   |cons q l ih=>
    intro hn;simp only [List.map_cons,List.nodup_cons] at hn;obtain ⟨b1,h1⟩:=ih hn.2;refine ⟨Dg b1 q.1 (bt q.2.1 q.2.2),fun q' hq'=>?_⟩
    rcases List.mem_cons.1 hq' with rfl|hq'
    ·exact A8 _ _ _
    ·have hne:q'.1≠q.1:=fun e=>hn.1 (by rw [←e];exact List.mem_map.2 ⟨q',hq',rfl⟩)
     rw [A3 _ _ hne];exact h1 q' hq'
  exact this qs hqn
 refine ⟨h8,β0,?_⟩;obtain ⟨hs,hbr,hL⟩:=hv w _ bt β0 us hβ0 hin.args
 have hqm:∀id bx,(id,bx)∈bs->∃ik,(id,ik)∈qs∧β0 id=bt ik.1 ik.2:=by
  intro id bx hm;have:id∈qs.map (·.1):=by rw [←hb];exact List.mem_map.2 ⟨_,hm,rfl⟩
  obtain ⟨q,hq,rfl⟩:=List.mem_map.1 this;exact ⟨q.2,hq,hβ0 q hq⟩
 have hX:∀b,Xof (Gn bs) β0 b->BtX bt b:=by
  rintro b ⟨id,o,hl,hβ⟩
  cases hq:Gn bs id with
  |none=>rw [hq] at hl;exact hl.elim
  |some bx=>
   obtain ⟨ik,_,h2⟩:=hqm id bx (Pr hq);rw [h2] at hβ;exact ⟨_,_,_,hβ⟩
 have hA:∀b,D3 (Gn bs) β0 Y b->BtX bt b∨Y b:=fun b hb=>hb.imp (hX b) id
 have hput:∀{p:PV} {u:Value},Fj w (fun b=>BtX bt b∨Y b) β0 p u->Fj w (D3 (Gn bs) β0 Y) β0 p u:=fun h=>h.step (Cx.refl _ _) (fun b _=>hA b) (fun _ _=>rfl)
 refine ⟨rfl,by simp;omega,fun i hi=>?_,fun i hi=>?_,?_,?_,?_,fun i hi id hid=>?_,?_,fun b hb=>.inl (hX b hb),?_,?_,?_,fun b hY hXb=>hin.Yx b hY (hX b hXb),hin.Ylt,⟨rfl,rfl,rfl,Cx.refl _ _,fun _ _ _ _=>⟨rfl,rfl⟩⟩⟩
 ·rcases hs i with ⟨u,_,h,_⟩|⟨h,_⟩
  ·rw [Nat.sub_zero,List.getElem?_eq_none (by omega)] at h;cases h
  ·exact h
 ·rcases hs i with ⟨u,_,h,hv⟩|⟨h,h'⟩
  ·rw [Nat.sub_zero] at h
   have hlt:i<us.length:=by
    rcases Nat.lt_or_ge i us.length with h'|h'
    ·exact h'
    ·rw [List.getElem?_eq_none h'] at h;cases h
   have:(us.toArray++Array.replicate (N-us.toArray.size) undef).getD i undef=u:=by
    rw [Array.getD_eq_getD_getElem?,Array.getElem?_append_left (by simpa using hlt)]
    simp [h]
   show Fj w _ _ _ ((us.toArray++Array.replicate (N-us.toArray.size) undef).getD i undef);rw [this];exact hput hv
  ·show Fj w _ _ (lk tms i) _;rw [h];exact Bq.top _
 ·intro id bx hq;exact (hbr id bx (Pr hq)).step' hA
 ·intro id id' b o o' hl hl' hβ hβ';cases hq:Gn bs id with
  |none=>change D1 (Gn bs id) at hl;rw [hq] at hl;exact hl.elim
  |some bx=>
   cases hq':Gn bs id' with
   |none=>change D1 (Gn bs id') at hl';rw [hq'] at hl';exact hl'.elim
   |some bx'=>
    obtain ⟨ik,h1,h2⟩:=hqm id bx (Pr hq);obtain ⟨ik',h1',h2'⟩:=hqm id' bx' (Pr hq');rw [h2] at hβ;rw [h2'] at hβ';obtain ⟨h3,h4⟩:=hin.inj _ _ _ _ b o o' hβ hβ';exact hqi _ h1 _ h1' (Prod.ext h3 h4)
 ·intro id b o hn hβ;cases hq:Gn bs id with
  |none=>exact absurd hq hn
  |some bx=>
   obtain ⟨ik,h1,h2⟩:=hqm id bx (Pr hq);rw [h2] at hβ;exact hin.lt b ⟨_,_,_,hβ⟩
 ·obtain ⟨bx,hm⟩:=hr i id hid;show Gn bs id≠none;rw [Apx hnod hm];simp
 ·intro id cells hq c hc k hk;obtain ⟨bx,hm⟩:=hri id cells (Pr hq) c hc k hk;show Gn bs k≠none;rw [Apx hnod hm];simp
 ·intro id bx b o hq hl hβ _ j hj;obtain ⟨k,p,h1,h2⟩:=hL id bx b o (Pr hq) hβ j hj;rw [Nat.zero_add] at h2;exact ⟨k,p,h1,h2⟩
 ·rintro i ⟨p,h1,h2⟩
  have h3:=(hpin i p h1 h2).1;rw [Nat.zero_add] at h3;refine ⟨?_,hβ0 _ h3⟩;have:D9 N i∈bs.map (·.1):=by rw [hb];exact List.mem_map.2 ⟨_,h3,rfl⟩
  obtain ⟨⟨id,bx⟩,hm,e⟩:=List.mem_map.1 this;show Gn bs (D9 N i)≠none;rw [←e,Apx hnod hm];simp
 ·intro id c b o hq _ _;obtain ⟨k,p,h1,h2,h3⟩:=(hbx id _ (Pr hq)).2 c rfl;rw [Nat.zero_add] at h3;exact ⟨k,h3,p,h1,h2⟩
end
open Go.RowKit
def M8 (β:Bt)(l:List (Option Nat)) (j:Nat):Option (Nat × Nat):=((l[j]?).bind id).bind β
section
variable {R:Type} {r:R} {P:Program} {N:Nat} {w0:World} {X0:Jc} {Y:Nat->Prop} {β β':Bt} {s:St} {a:Act} {w w':World} {A:Nat->Prop}
def Az7 (s:St)(l:List (Option Nat)):Prop:=∀id,some id∈l->D1 (s.hp id)
def O5 (s:St)(z:List Nat):Prop:=∀id∈z,∃f c,s.hp id=some (.ar f c)
theorem Anr (h : D0 N w0 X0 Y β s a w) {shr : Bool} {t : CT} {p : PV} {K : PV -> List Nat -> List Nat -> Option R} (hk : Avz shr s.hp t p K = some r) :
    ∃ c q z, K c (Option.toList q) z = some r ∧ (∀ x, c ≠ .agg x ∧ c ≠ .pbox x) ∧ isF p ∧ (∀ id, q = some id -> ∃ c, s.hp id = some (.ar false c)) ∧ O5 s z ∧
      ∀ (fz : List Nat) A u, (∀ i ∈ z, i ∈ fz) -> O5 s fz -> (∀ b, A b -> D3 (Ao s.hp fz) β Y b) -> Cz w (D3 s.hp β Y) β p u -> H9 w A (q.bind β) c u := by
  have notree : ∀ {c : PV}, isT c -> ∀ x, c ≠ .agg x ∧ c ≠ .pbox x := fun hT x => ⟨Ahy hT x, by rintro rfl; exact hT⟩
  unfold Avz at hk
  cases shr <;> simp only [cond_true, cond_false] at hk
  · have tree : ∀ t', (∀ es, t' ≠ .sl es) -> (tcK t' p fun c => K c [] []) = some r -> ∃ c q z, K c (Option.toList q) z = some r ∧ (∀ x, c ≠ .agg x ∧ c ≠ .pbox x) ∧ isF p ∧ (∀ id, q = some id -> ∃ c, s.hp id = some (.ar false c)) ∧ O5 s z ∧
        ∀ (fz : List Nat) A u, (∀ i ∈ z, i ∈ fz) -> O5 s fz -> (∀ b, A b -> D3 (Ao s.hp fz) β Y b) -> Cz w (D3 s.hp β Y) β p u -> H9 w A (q.bind β) c u := by
      intro t' hne hk
      obtain ⟨c, hk1, hT, hpT, hv⟩ := Ph hk
      refine ⟨c, none, [], hk1, notree hT, Yz hpT, by simp, (by intro i hi; cases hi), fun fz A u _ _ hA hc => Mt hT ?_⟩
      exact (hv w _ β u hc).1.step (Cx.refl _ _) (fun b _ hb => Qa (hA b hb))
    unfold A5o at hk
    cases t with
    | sl es =>
      dsimp only at hk
      split at hk
      · rename_i id es' off n
        cases hb : (Nat.beq es' es && Nat.beq off 0) <;> rw [hb] at hk
        · cases hk
        · simp only [Bool.and_eq_true] at hb
          have he := Nat.eq_of_beq_eq_true hb.1
          have ho := Nat.eq_of_beq_eq_true hb.2
          subst he ho
          simp only [cond_true] at hk
          split at hk
          · rename_i c h0
            obtain ⟨hl, hk1⟩ := A7 hk
            refine ⟨_, some id, [], hk1, by simp, trivial, fun i hi => by cases hi; exact ⟨c, h0⟩, (by intro i hi; cases hi), fun fz A u _ _ hA hc => ?_⟩
            rcases hc with ⟨h1, _, rfl, h4⟩ | ⟨b, o, x, cap, h1, h2, hx, h3, h4, h5⟩
            · exact .inl ⟨h1, rfl, by simp, h4⟩
            · have hx : x = o := by rcases hx with e | ⟨_, e⟩ <;> omega
              subst hx
              rcases h.box id _ h0 with ⟨h6, _⟩ | ⟨b', o', h6, h7, h8, _⟩
              · rw [h1] at h6; cases h6
              · rw [h1] at h6
                cases h6
                refine .inr ⟨b, x, cap, h1, h2, h3, h4, h5, fun j q hq => ?_, fun j hj hj' => h8 rfl j hj hj'⟩
                rw [List.getElem?_take] at hq
                split at hq
                · obtain ⟨v, hv, h9, ht⟩ := h7 j q hq
                  exact ⟨v, hv, h9, ht.step (Cx.refl _ _) (fun b _ hb => Qa (hA b hb))⟩
                · cases hq
          · cases hk
      · obtain ⟨z, n, c, hk1, hp⟩ := Gz hk
        obtain ⟨hz, hk2⟩ := A7 hk1
        subst hz
        have hpF : isF p := by rcases hp with e | ⟨e, _⟩ <;> (rw [e]; trivial)
        refine ⟨_, none, [], hk2, by simp, hpF, by simp, (by intro i hi; cases hi), fun fz A u _ _ _ hc => ?_⟩
        have hu : u = .slice none 0 0 := by
          rcases hp with rfl | ⟨rfl, _⟩
          · cases hc; rfl
          · exact Bq.val hc
        exact .inl ⟨rfl, rfl, rfl, hu⟩
    | int k => exact tree _ (by simp) hk
    | bool => exact tree _ (by simp) hk
    | str => exact tree _ (by simp) hk
    | any => exact tree _ (by simp) hk
  · obtain ⟨c, m, hk1, hT, hF, hm, hv⟩ := Aiz h hk
    exact ⟨c, none, m, hk1, notree hT, hF, by simp, hm, fun fz A u h1 h2 hA hc => Mt hT ((hv fz h1 h2 u hc).1.step (Cx.refl _ _) (fun b _ hb => hA b hb))⟩
structure Ahs (s:St) (β:Bt) (Y:Nat->Prop) (w:World) (cs:List PV) (l:List (Option Nat)) (z:List Nat) (ps:List PV):Prop where
 len:l.length=cs.length
 pl:cs.length=ps.length
 na:∀c∈cs,∀x,c ≠ .agg x∧c ≠ .pbox x
 fr:∀p∈ps,isF p
 own:∀id,some id∈l->∃c,s.hp id=some (.ar false c)
 row:O5 s z
 sem:∀(fz:List Nat) A us,(∀i∈z,i∈fz)->O5 s fz->(∀b,A b->D3 (Ao s.hp fz) β Y b)->B5 (Cz w (D3 s.hp β Y) β) ps us->∀own j0,(∀j,j<l.length->own (j0+j)=M8 β l j)->Gd w A own j0 cs us
theorem Ahs.nil:Ahs s β Y w [] [] [] []:=⟨rfl,rfl,by simp,by simp,by simp,(by intro i hi;cases hi),fun fz A us _ _ _ hu own j0 _=>by
 cases us with
 |nil=>trivial
 |cons u us=>exact hu.elim⟩
theorem Ahs.cons {c p:PV}{q:Option Nat}{z zs:List Nat}{cs ps:List PV}{l:List (Option Nat)} (hna:∀x,c ≠ .agg x∧c ≠ .pbox x)(hF:isF p)(hq:∀id,q=some id->∃c,s.hp id=some (.ar false c)) (hz:O5 s z)
  (hv:∀(fz:List Nat) A u,(∀i∈z,i∈fz)->O5 s fz->(∀b,A b->D3 (Ao s.hp fz) β Y b)->Cz w (D3 s.hp β Y) β p u->H9 w A (q.bind β) c u) (H:Ahs s β Y w cs l zs ps):Ahs s β Y w (c::cs) (q::l) (z++zs) (p::ps):=by
 refine ⟨by simp [H.len],by simp [H.pl],?_,?_,?_,?_,fun fz A us hz1 hz2 hA hu own j0 hown=>?_⟩
 ·intro x hx;rcases List.mem_cons.1 hx with rfl|hx
  ·exact hna
  ·exact H.na x hx
 ·intro x hx;rcases List.mem_cons.1 hx with rfl|hx
  ·exact hF
  ·exact H.fr x hx
 ·intro id hid;rcases List.mem_cons.1 hid with e|hid
  ·exact hq id e.symm
  ·exact H.own id hid
 ·intro i hi;rcases List.mem_append.1 hi with hi|hi
  ·exact hz i hi
  ·exact H.row i hi
 ·cases us with
  |nil=>exact hu.elim
  |cons u us=>
   have h0:=hown 0 (by simp)
   rw [Nat.add_zero] at h0;refine ⟨?_,H.sem fz A us (fun i hi=>hz1 i (by simp [hi])) hz2 hA hu.2 own (j0+1) fun j hj=>?_⟩
   ·rw [h0];exact hv fz A u (fun i hi=>hz1 i (by simp [hi])) hz2 hA hu.1
   ·have:=hown (j+1) (by simp;omega)
    rw [show j0+1+j=j0+(j+1) by omega,this]
    simp [M8]
theorem Ve (h:D0 N w0 X0 Y β s a w){shr:Bool}:∀{ts:List CT}{ps:List PV}{K:List PV->List Nat->List Nat->Option R},Aen shr s.hp ts ps K=some r ->
  ∃cs l z,K cs (l.filterMap id) z=some r∧Ahs s β Y w cs l z ps
 |[],[],K,hk=>⟨[],[],[],hk,Ahs.nil⟩
 |[],_::_,K,hk=>by cases hk
 |_::_,[],K,hk=>by cases hk
 |t::ts,p::ps,K,hk=>by
  unfold Aen at hk;obtain ⟨c,q,z,hk1,hna,hF,hq,hz,hv⟩:=Anr h hk;obtain ⟨cs,l,zs,hk2,H⟩:=Ve h hk1;refine ⟨c::cs,q::l,z++zs,?_,Ahs.cons hna hF hq hz hv H⟩;cases q<;>exact hk2
theorem Ag4 (h:D0 N w0 X0 Y β s a w):∀{ts:List CT}{ws ps:List PV}{K:List PV->List Nat->List Nat->Option R},Ah4 s.hp ts ws ps K=some r ->
  ∃cs l z,K cs (l.filterMap id) z=some r∧cs.length=ws.length∧Ahs s β Y w cs l z ps
 |[],[],[],K,hk=>⟨[],[],[],hk,rfl,Ahs.nil⟩
 |[],_::_,_,K,hk=>by cases hk
 |[],[],_::_,K,hk=>by cases hk
 |_::_,[],_,K,hk=>by cases hk
 |_::_,_::_,[],K,hk=>by cases hk
 |t::ts,x::ws,p::ps,K,hk=>by
  unfold Ah4 at hk;obtain ⟨c,q,z,hk1,hna,hF,hq,hz,hv⟩:=Anr h hk;obtain ⟨cs,l,zs,hk2,hl,H⟩:=Ag4 h hk1;refine ⟨c::cs,q::l,z++zs,?_,by simp [hl],Ahs.cons hna hF hq hz hv H⟩
  cases q<;>exact hk2
theorem Au2 {own:Bt}{zz j:Nat}{p:PV}{u:Value}(hp:∀x,p ≠ .agg x∧p ≠ .pbox x)(h:Gd w A own j [p] [u]):A3y w A own zz j p u:=by
 cases p<;>first|exact h.1|exact absurd rfl (hp _).1|exact absurd rfl (hp _).2
theorem Awg (h:D0 N w0 X0 Y β s a w){id b o:Nat}{c cs:List PV}{l:List (Option Nat)} {z:List Nat}(h0:s.hp id=some (.st c)) (hβ:β id=some (b,o)) (H:Ahs s β Y w cs l z c){fz:List Nat}{A:Nat->Prop}(h1:∀i∈z,i∈fz)(h2:O5 s fz)(hA:∀b,A b->D3 (Ao s.hp fz) β Y b)
  {own:Bt} {j0:Nat} (hown:∀j,j<l.length->own (j0+j)=M8 β l j):A4t w A own j0 b o cs:=by
 obtain ⟨b',o',hb1,hb2,hb3⟩:=h.box id _ h0;rw [hβ] at hb1;cases hb1;refine ⟨c.mapIdx (fun j _=>(w.cell? ⟨b,o+j,none⟩).getD undef),H.sem fz A _ h1 h2 hA ?_ own j0 hown,?_,fun k hk=>hb3 k (by have:=H.pl;omega)⟩
 ·refine B5.of_at (by simp) fun j p v hp hv=>?_
  obtain ⟨u,hu,hcr⟩:=hb2 j p hp;rw [List.getElem?_mapIdx,hp,Option.map_some,hu] at hv;simp at hv;subst hv;exact hcr
 ·intro k v hkv;rw [List.getElem?_mapIdx] at hkv;cases hp:c[k]? with
  |none=>rw [hp] at hkv;cases hkv
  |some p=>
   obtain ⟨u,hu,hcr⟩:=hb2 k p hp;rw [hp,Option.map_some,hu] at hkv;simp at hkv;subst hkv;exact hu
theorem Ayi (h:D0 N w0 X0 Y β s a w){shr:Bool}{t:TypeId}{p:PV}{u:Value}(hp:Fj w (D3 s.hp β Y) β p u) {K:PV->List Nat->List Nat->Option R}(hk:A3a P shr s.hp t p K=some r):
  ∃v l z,K v (l.filterMap id) z=some r∧l.length=plc v∧Az7 s l∧O5 s z ∧
   ∀(fz:List Nat) A zz,(∀i∈z,i∈fz)->O5 s fz->(∀b,A b->D3 (Ao s.hp fz) β Y b)->(∀id c b o,some id∈l->s.hp id=some (.st c)->β id=some (b,o)->zz<=b) ->
    ∀own j0,(∀j,j<l.length->own (j0+j)=M8 β l j)->A3y w A own zz j0 v u:=by
 unfold A3a at hk;split at hk
 ·rename_i e he;split at hk
  ·rename_i id off;split at hk
   ·rename_i c h0;obtain ⟨hof,hk1⟩:=A7 hk;have hof:=Nat.eq_of_beq_eq_true hof;subst hof;obtain ⟨cs,l,z,hk2,H⟩:=Ve h hk1;obtain ⟨b,o,hβ,hu⟩:=hp;refine ⟨.pbox cs,some id::l,z,hk2,by simp only [plc,List.length_cons,H.len];omega,?_,H.row,fun fz A zz h1 h2 hA hz own j0 hown=>?_⟩
    ·intro i hi;rcases List.mem_cons.1 hi with e|hi
     ·cases e;rw [h0];trivial
     ·obtain ⟨c',hc'⟩:=H.own i hi;rw [hc'];trivial
    ·have h3:=hown 0 (by simp)
     rw [Nat.add_zero] at h3;refine ⟨b,o,by rw [h3];exact hβ,hz id c b o (by simp) h0 hβ,by rw [hu,Nat.add_zero],Awg h h0 hβ H h1 h2 hA fun j hj=>?_⟩
     have:=hown (j+1) (by simp;omega)
     rw [show j0+1+j=j0+(j+1) by omega,this]
     simp [M8]
   ·cases hk
  ·cases hk
 ·cases hagg:Df P t<;>rw [hagg] at hk<;>simp only [cond_true,cond_false] at hk
  ·obtain ⟨cs,l,z,hk1,H⟩:=Ve h hk;obtain ⟨c,cs',hcs,hk2⟩:=Bo hk1;subst hcs;obtain ⟨hnil,hk3⟩:=Eb hk2;subst hnil;have hna:=H.na c (by simp)
   have hc1:plc c=1:=by cases c<;>first|rfl|exact absurd rfl (hna _).1|exact absurd rfl (hna _).2
   have hF:=H.fr p (by simp)
   refine ⟨c,l,z,hk3,by rw [hc1];exact H.len,fun i hi=>?_,H.row,fun fz A zz h1 h2 hA _ own j0 hown=>Au2 hna (H.sem fz A [u] h1 h2 hA ⟨?_,trivial⟩ own j0 hown)⟩
   ·obtain ⟨c',hc'⟩:=H.own i hi;rw [hc'];trivial
   ·cases p<;>first|exact hp|exact hF.elim
  ·obtain ⟨ps,hps,hk1⟩:=Is hk;subst hps;obtain ⟨cs,l,z,hk2,H⟩:=Ve h hk1;obtain ⟨vs,hu,hvs⟩:=hp;refine ⟨.agg cs,l,z,hk2,H.len,fun i hi=>?_,H.row,fun fz A zz h1 h2 hA _ own j0 hown=>⟨vs,hu,H.sem fz A vs h1 h2 hA hvs own j0 hown⟩⟩
   obtain ⟨c',hc'⟩:=H.own i hi;rw [hc'];trivial
def Apr (P:Program)(tmps:Array Value)(w:World)(rv:ResultVar)(u:Value):Prop:=
  (match rv with
   |.tmp t=>(pure (tmps.getD t undef):Sem Value)
   |.cell a t=>do loadVar t (←asAddr (tmps.getD a undef))).run P w=.ok u w
theorem A09 (h:D0 N w0 X0 Y β s a w)(t:Nat):Fj w (D3 s.hp β Y) β (s.tm t) (a.tmps.getD t undef):=by
 rcases Nat.lt_or_ge t N with h'|h'
 ·exact h.tms t h'
 ·rw [h.tmo t h'];exact Bq.top _
theorem Ay3 (h:D0 N w0 X0 Y β s a w){rv:ResultVar}{K:PV->Option R}(hk:A1w P s rv K=some r):∃p u,K p=some r∧Apr P a.tmps w rv u∧Fj w (D3 s.hp β Y) β p u:=by
 unfold A1w at hk;split at hk
 ·rename_i t;exact ⟨_,_,hk,rfl,A09 h t⟩
 ·rename_i x t;obtain ⟨v,ad,val,hk1,hax,hl,hv,_⟩:=Asq h (A09 h x) hk;refine ⟨v,val,hk1,?_,hv⟩;unfold Apr;simp [hax,asAddr,hl]
theorem Aa2 {l l':List (Option Nat)} {j:Nat}(h:j<l.length):M8 β (l++l') j=M8 β l j:=by
 unfold M8;rw [List.getElem?_append_left h]
theorem Ab0 {l l':List (Option Nat)} {j:Nat}:M8 β (l++l') (l.length+j)=M8 β l' j:=by
 unfold M8;rw [List.getElem?_append_right (by omega),Nat.add_sub_cancel_left]
theorem Ajn (h:D0 N w0 X0 Y β s a w){shr:Bool}:∀{rs:List ResultVar}{ts:List TypeId}{K:List PV->List Nat->List Nat->Option R},Aou P shr s rs ts K=some r ->
  ∃vs l z us,K vs (l.filterMap id) z=some r∧B5 (Apr P a.tmps w) rs us∧l.length=Sz vs∧Az7 s l∧O5 s z ∧
   ∀(fz:List Nat) A zz,(∀i∈z,i∈fz)->O5 s fz->(∀b,A b->D3 (Ao s.hp fz) β Y b)->(∀id c b o,some id∈l->s.hp id=some (.st c)->β id=some (b,o)->zz<=b) ->
    ∀own j0,(∀j,j<l.length->own (j0+j)=M8 β l j)->Awi w A own zz j0 vs us
 |[],[],K,hk=>⟨[],[],[],[],hk,trivial,rfl,(by intro id hid;cases hid),(by intro id hid;cases hid),fun _ _ _ _ _ _ _ _ _ _=>trivial⟩
 |[],_::_,K,hk=>by cases hk
 |_::_,[],K,hk=>by cases hk
 |rv::rs,t::ts,K,hk=>by
  unfold Aou at hk;obtain ⟨p,u,hk1,hu,hp⟩:=Ay3 h hk;obtain ⟨v,l,z,hk2,hl,hL,hz,hv⟩:=Ayi h hp hk1;obtain ⟨vs,l',z',us,hk3,hus,hl',hL',hz',hvs⟩:=Ajn h hk2;refine ⟨v::vs,l++l',z++z',u::us,?_,⟨hu,hus⟩,by simp only [List.length_append,Sz,List.map_cons,List.sum_cons,hl];rw [hl'];rfl,?_,?_,fun fz A zz h1 h2 hA hst own j0 hown=>⟨?_,?_⟩⟩
  ·rw [List.filterMap_append];exact hk3
  ·intro id hid;rcases List.mem_append.1 hid with hid|hid
   ·exact hL id hid
   ·exact hL' id hid
  ·intro id hid;rcases List.mem_append.1 hid with hid|hid
   ·exact hz id hid
   ·exact hz' id hid
  ·exact hv fz A zz (fun i hi=>h1 i (by simp [hi])) h2 hA (fun id c b o hi=>hst id c b o (by simp [hi])) own j0 fun j hj=>by rw [hown j (by simp;omega),Aa2 hj]
  ·refine hvs fz A zz (fun i hi=>h1 i (by simp [hi])) h2 hA (fun id c b o hi=>hst id c b o (by simp [hi])) own (j0+plc v) fun j hj=>?_
   rw [←hl,Nat.add_assoc,hown (l.length+j) (by simp;omega),Ab0]
theorem Vi (h:D0 N w0 X0 Y β s a w){bt:Bt2}(hpt:∀i,X0.pt i=bt i 0):∀{ts:List TypeId}{i:Nat}{ps:List PV}{K:List (List PV)->List Nat->List Nat->List Nat->Option R},Afy P N s.hp i ts ps K=some r ->
  (∀k p,ps[k]?=some p->isL p=true->X0.pn (i+k)) ->
  ∃os l z q,K os (l.filterMap id) z q=some r∧(∀id,some id∈l->∃c,s.hp id=some (.ar false c))∧O5 s z∧(∀id∈q,D1 (s.hp id))∧(∀k p,ps[k]?=some p->isL p=true->D9 N (i+k)∈q) ∧
   ∀(fz:List Nat) A,(∀i∈z,i∈fz)->O5 s fz->(∀i∈q,i ∉ fz)->(∀b,A b->D3 (Ao s.hp fz) β Y b) ->
    ∀own j0,(∀j,j<l.length->own (j0+j)=M8 β l j)->Adq w A own bt j0 i ps os
 |[],i,ps,K,hk,_=>by
  obtain ⟨hps,hk⟩:=Eb hk;subst hps;exact ⟨[],[],[],[],hk,by simp,(by intro id hid;cases hid),by simp,by simp,fun _ _ _ _ _ _ _ _ _=>rfl⟩
 |t::ts,i,ps,K,hk,hpn=>by
  unfold Afy at hk;obtain ⟨p,ps',hps,hk1⟩:=Bo hk;subst hps
  have hpn':∀k p,ps'[k]?=some p->isL p=true->X0.pn (i+1+k):=fun k p' h1 h2=>by
   have:=hpn (k+1) p' (by simpa using h1) h2
   rw [show i+1+k=i+(k+1) by omega]
   exact this
  have hpq:∀{q:List Nat},(isL p=true->D9 N i∈q)->(∀k p,ps'[k]?=some p->isL p=true->D9 N (i+1+k)∈q)->∀k p',(p::ps')[k]?=some p'->isL p'=true->D9 N (i+k)∈q:=by
   intro q h1 h2 k p' h3 h4;cases k with
   |zero=>
    simp only [List.getElem?_cons_zero,Option.some.injEq] at h3;subst h3;exact h1 h4
   |succ k=>
    have:=h2 k p' (by simpa using h3) h4
    rw [show i+1+k=i+(k+1) by omega] at this
    exact this
  split at hk1
  ·rename_i ws;obtain ⟨e,he,hk2⟩:=Dv hk1;split at hk2
   ·rename_i c h0;obtain ⟨cs,l,z,hk3,hcl,H⟩:=Ag4 h hk2;obtain ⟨os,l',z',q,hk4,hL',hz',hq',hpi,hv⟩:=Vi h hpt hk3 hpn';refine ⟨cs::os,l++l',z++z',D9 N i::q,by rw [List.filterMap_append];exact hk4,?_,?_,?_,hpq (fun _=>List.mem_cons_self) (fun k p h1 h2=>List.mem_cons_of_mem _ (hpi k p h1 h2)),fun fz A h1 h2 h3 hA own j0 hown=>?_⟩
    ·intro id hid;rcases List.mem_append.1 hid with hid|hid
     ·exact H.own id hid
     ·exact hL' id hid
    ·intro id hid;rcases List.mem_append.1 hid with hid|hid
     ·exact H.row id hid
     ·exact hz' id hid
    ·intro id hid;rcases List.mem_cons.1 hid with rfl|hid
     ·rw [h0];trivial
     ·exact hq' id hid
    ·have hpin:=(h.pin i (by have:=hpn 0 _ rfl rfl;rwa [Nat.add_zero] at this)).2
     obtain ⟨b,o,hb1,_,_⟩:=h.box _ _ h0;rw [hb1,hpt] at hpin;refine ⟨⟨b,o,hpin.symm,hcl,Awg h h0 hb1 H (fun i hi=>h1 i (by simp [hi])) h2 hA fun j hj=>by rw [hown j (by simp;omega),Aa2 hj]⟩,?_⟩
     refine hv fz A (fun i hi=>h1 i (by simp [hi])) h2 (fun i hi=>h3 i (by simp [hi])) hA own (j0+cs.length) fun j hj=>?_
     rw [←H.len,Nat.add_assoc,hown (l.length+j) (by simp;omega),Ab0]
   ·cases hk2
  ·split at hk1
   ·rename_i c h0;obtain ⟨os,l',z',q,hk4,hL',hz',hq',hpi,hv⟩:=Vi h hpt hk1 hpn';refine ⟨c::os,l',z',D9 N i::q,hk4,hL',hz',?_,hpq (fun _=>List.mem_cons_self) (fun k p h1 h2=>List.mem_cons_of_mem _ (hpi k p h1 h2)),fun fz A h1 h2 h3 hA own j0 hown=>⟨?_,hv fz A h1 h2 (fun i hi=>h3 i (by simp [hi])) hA own j0 hown⟩⟩
    ·intro id hid;rcases List.mem_cons.1 hid with rfl|hid
     ·rw [h0];trivial
     ·exact hq' id hid
    ·have hpin:=(h.pin i (by have:=hpn 0 _ rfl rfl;rwa [Nat.add_zero] at this)).2
     rw [hpt] at hpin;rcases h.box _ _ h0 with ⟨h4,h5⟩|⟨b,o,h4,h5,h6,_⟩
     ·exact .inl ⟨by rw [←hpin];exact h4,h5⟩
     ·exact .inr ⟨b,o,by rw [←hpin];exact h4,h5.weak (fun b _ hb=>Qa (hA b hb)),h6 rfl⟩
   ·cases hk1
  ·rename_i hn1 hn2;have hnL:isL p=false:=by cases p<;>first|rfl|exact absurd rfl (hn1 _)|exact absurd rfl (hn2 _)
   obtain ⟨os,l',z',q,hk4,hL',hz',hq',hpi,hv⟩:=Vi h hpt hk1 hpn';refine ⟨os,l',z',q,hk4,hL',hz',hq',hpq (fun e=>by rw [hnL] at e;cases e) hpi,fun fz A h1 h2 h3 hA own j0 hown=>?_⟩
   have:=hv fz A h1 h2 h3 hA own j0 hown;cases p<;>first|exact this|cases hnL
theorem Aqd {f:ResultVar->Sem Value}:∀{rs:List ResultVar}{us:List Value},B5 (fun rv u=>(f rv).run P w=.ok u w) rs us->(rs.mapM f).run P w=.ok us w
 |[],[],_=>by simp
 |[],_::_,h=>h.elim
 |_::_,[],h=>h.elim
 |rv::rs,u::us,h=>by
  rw [List.mapM_cons];simp [h.1,Aqd h.2]
theorem Arz {fn:Func}{us:List Value}(h:B5 (Apr P a.tmps w) fn.results.toList us):(results fn a.tmps).run P w=.ok (Oj us) w:=by
 unfold results;rw [Array.mapM_eq_mapM_toList];simp only [map_eq_pure_bind,bind_assoc,pure_bind,Sem.run_bind];refine Eq.trans (congrArg (fun x=>Result.andThen x _) (Aqd h)) ?_
 simp only [Result.andThen_ok,Sem.run_pure]
 congr 1
 clear h
 match us with
 |[]=>rfl
 |[u]=>rfl
 |u::v::us=>exact dif_neg (by simp)
theorem Aq2:∀{l:List (Option Nat)},Ey (l.filterMap id)=true->∀{j j' i:Nat},l[j]?=some (some i)->l[j']?=some (some i)->j=j'
 |[],_,j,j',i,h,_=>by simp at h
 |q::l,hn,j,j',i,h,h'=>by
  have hn':Ey (l.filterMap id)=true:=by
   cases q with
   |none=>exact hn
   |some x=>
    simp only [List.filterMap_cons,id_eq,Ey,Bool.and_eq_true] at hn;exact hn.2
  have hq:∀(x k:Nat),q=some x->l[k]?≠some (some x):=by
   intro x k e hk;subst e;simp only [List.filterMap_cons,id_eq,Ey,Bool.and_eq_true,Bool.not_eq_true'] at hn;exact Vp hn.1 (List.mem_filterMap.2 ⟨some x,List.mem_of_getElem? hk,rfl⟩)
  cases j with
  |zero=>
   cases j' with
   |zero=>rfl
   |succ k'=>
    simp at h h';exact absurd h' (hq i k' h)
  |succ k=>
   cases j' with
   |zero=>
    simp at h h';exact absurd h (hq i k h')
   |succ k'=>
    simp at h h';rw [Aq2 hn' h h']
theorem Asz {G:Glo}(hNG:NoNG P)(hm:P.follows .mixedOrders=true){C:Jf}{fu:Nat}{call:Am}(hcall:∀f args res,call f args=some res->G7 G P f args res){f:FuncId}{fn:Func}{c:Code}(hf:P.funcs[f]?=some fn) (hb:fn.body=some c)
  {args:List PV} {res:Ay} (hk:A8p C P fu call f fn c args=some res):G7 G P f args res:=by
 refine ⟨⟨fn,hf,by rw [hb];rfl⟩,fun w Y bt us hin hG hGY=>?_⟩
 unfold A8p at hk;obtain ⟨tms,bs,hk1,hst⟩:=Ay5 hin hk;obtain ⟨hb1,hk2⟩:=A7 hk1;simp only [Bool.and_eq_true] at hb1
 have hlen:us.length<=fn.ntmps:=by
  rw [←hin.args.len];exact Nat.le_of_ble_eq_true hb1.1
 obtain ⟨h8,β0,hs⟩:=hst hb1.2 hlen;refine calls_of_wp hf hb ?_
 have fin:∀(s':St) (a':Act) (w':World) (β':Bt),Axw C P f fn args s'=some res->D0 fn.ntmps w (As8 bt args h8) Y β' s' a' w' ->
   a'.defers=[]∧∃v,(results fn a'.tmps).run P w'=.ok v w'∧∃vs own,Ending.returned v=.returned (Oj vs)∧Out w w' Y bt args own res vs:=by
  intro s' a' w' β' hr h;unfold Axw at hr;obtain ⟨vs,l,z,us',hr1,hus,hll,hL,hz,hv⟩:=Ajn h hr;obtain ⟨os,l',z',q,hr2,hL',hz',hq,hpi,hv'⟩:=Vi h (bt:=bt) (fun _=>rfl) hr1 (fun k p h1 h2=>by rw [Nat.zero_add];exact ⟨p,h1,h2⟩)
  obtain ⟨hnd,hr3⟩:=A7 hr2;cases hr3;simp only [Bool.and_eq_true] at hnd;obtain ⟨hnd,hdis⟩:=hnd;obtain ⟨hn1,hn2,hn3⟩:=Ju hnd
  have hfz:∀i∈z++z',i ∉ (l.filterMap id++l'.filterMap id)++q:=by
   intro i hi hm';have:=List.all_eq_true.1 hdis i hi;have h2:((l.filterMap id++l'.filterMap id)++q).any (Nat.beq i)=true:=List.any_eq_true.2 ⟨i,hm',Nat.beq_refl i⟩;rw [h2] at this;cases this
  have hrow:O5 s' (z++z'):=by
   intro i hi;rcases List.mem_append.1 hi with hi|hi
   ·exact hz i hi
   ·exact hz' i hi
  refine ⟨h.dfr,Oj us',Arz hus,us',M8 β' (l++l'),rfl,?_⟩;have hnd':Ey ((l++l').filterMap id)=true:=by rw [List.filterMap_append];exact hn1
  have hown:∀j b o,M8 β' (l++l') j=some (b,o)->∃id,(l++l')[j]?=some (some id)∧β' id=some (b,o):=by
   intro j b o hj;unfold M8 at hj;cases hlj:(l++l')[j]? with
   |none=>rw [hlj] at hj;cases hj
   |some q=>
    cases q with
    |none=>rw [hlj] at hj;cases hj
    |some id=>
     rw [hlj] at hj;exact ⟨id,rfl,hj⟩
  have hmem:∀(j i:Nat),(l++l')[j]?=some (some i)->i∈l.filterMap id++l'.filterMap id:=by
   intro j i hj;rw [←List.filterMap_append];exact List.mem_filterMap.2 ⟨some i,List.mem_of_getElem? hj,rfl⟩
  have hlive:∀(j i:Nat),(l++l')[j]?=some (some i)->D1 (s'.hp i):=by
   intro j i hj;rcases List.mem_append.1 (List.mem_of_getElem? hj) with hm'|hm'
   ·exact hL i hm'
   ·obtain ⟨c,hc⟩:=hL' i hm';rw [hc];trivial
  have hunfz:∀i,i∈(l.filterMap id++l'.filterMap id)++q->Ao s'.hp (z++z') i=s'.hp i:=by
   intro i hi;rw [Cr,if_neg (fun hm'=>hfz i hm' hi)]
  have hpinL:∀i b o,bt i 0=some (b,o)->D9 fn.ntmps i∈q∧D1 (s'.hp (D9 fn.ntmps i))∧β' (D9 fn.ntmps i)=some (b,o):=by
   intro i b o hb0;obtain ⟨p,h1,h2⟩:=hin.l0 i _ hb0;have h3:=hpi i p h1 h2;rw [Nat.zero_add] at h3;exact ⟨h3,hq _ h3,(h.pin i ⟨p,h1,h2⟩).2.trans hb0⟩
  have hAO:∀b,As2 bt (M8 β' (l++l')) Y b->D3 (Ao s'.hp (z++z')) β' Y b:=by
   rintro b (⟨j,o,hj⟩|⟨i,o,hb0⟩|hY)
   ·obtain ⟨id,h1,h2⟩:=hown j b o hj;refine .inl ⟨id,o,?_,h2⟩;rw [hunfz id (List.mem_append.2 (.inl (hmem j id h1)))];exact hlive j id h1
   ·obtain ⟨h1,h2,h3⟩:=hpinL i b o hb0;refine .inl ⟨_,o,?_,h3⟩;rw [hunfz _ (List.mem_append.2 (.inr h1))];exact h2
   ·exact .inr hY
  have hnew:∀(j id b o:Nat),(l++l')[j]?=some (some id)->β' id=some (b,o)->b<w.heap.size->∃i k o',bt i (k+1)=some (b,o'):=by
   intro j id b o hj hβ hlt;rcases h.ownd b ⟨id,o,hlive j id hj,hβ⟩ with ⟨i,k,o',hb0⟩|hge
   ·cases k with
    |zero=>
     obtain ⟨h1,h2,h3⟩:=hpinL i b o' hb0;have:=h.inj id _ b o o' (hlive j id hj) h2 hβ h3;subst this;exact absurd h1 (hn3 _ (hmem j _ hj))
    |succ k=>exact ⟨i,k,o',hb0⟩
   ·omega
  refine ⟨h.fr.os,h.fr.tape,h.fr.output,h.fr.step,h.fr.rng,?_,?_,?_,?_⟩
  ·refine hv (z++z') _ _ (fun i hi=>List.mem_append.2 (.inl hi)) hrow hAO (fun id c b o hi hc hβ=>?_) _ 0 (fun j hj=>by rw [Nat.zero_add,Aa2 hj])
   rcases Nat.lt_or_ge b w.heap.size with hlt|hge
   ·obtain ⟨k,hk',p,h1,h2⟩:=h.stp id c b o hc hβ hlt;have h3:=hpi k p h1 h2;rw [Nat.zero_add,←hk'] at h3;obtain ⟨j,hj⟩:=List.mem_iff_getElem?.1 hi;refine absurd h3 (hn3 id ?_);exact List.mem_append.2 (.inl (List.mem_filterMap.2 ⟨some id,hi,rfl⟩))
   ·exact hge
  ·refine hv' (z++z') _ (fun i hi=>List.mem_append.2 (.inr hi)) hrow (fun i hi hm'=>hfz i hm' (List.mem_append.2 (.inr hi))) hAO _ _ (fun j hj=>?_)
   rw [←hll,Ab0]
  ·intro j b o hj;obtain ⟨id,h1,h2⟩:=hown j b o hj;refine ⟨h.blt id b o (Dr (hlive j id h1)) h2,fun hlt=>⟨hnew j id b o h1 h2 hlt,fun x hx=>?_⟩⟩
   cases hbx:s'.hp id with
   |none=>have:=hlive j id h1;rw [hbx] at this;exact this.elim
   |some bx=>
    have hl1:=hlive j id h1;rw [hbx] at hl1;cases bx with
    |st c=>
     obtain ⟨k,hk',p,h3,h4⟩:=h.stp id c b o hbx h2 hlt;have h5:=hpi k p h3 h4;rw [Nat.zero_add,←hk'] at h5;exact absurd h5 (hn3 _ (hmem j _ h1))
    |ar fz c=>exact h.rngB id _ b o hbx hl1 h2 hlt x hx
    |mv=>exact hl1.elim
  ·intro j j' b o o' hj hj';obtain ⟨id,h1,h2⟩:=hown j b o hj;obtain ⟨id',h1',h2'⟩:=hown j' b o' hj';have:=h.inj id id' b o o' (hlive j id h1) (hlive j' id' h1') h2 h2';subst this;exact Aq2 hnd' h1 h1'
 have hE:Env P G w (As8 bt args h8):=⟨hNG,fun w' hfr=>G.stable w w' (fun b hb hlt=>hfr.step.keep b hlt (hGY b hb).2) hG,hGY⟩
 refine At4 hE hcall hm c hs hk2 (fun s' a' w' β' hr h=>fin s' a' w' β' hr h) (fun id s' a' w' β' hr h=>by cases hr) (fun s' a' w' β' hr h=>fin s' a' w' β' hr h)
def A1z (G:Glo)(P:Program)(C:Jf):Prop:=∀f g args res,C.ext f=some g->g args=some res->G7 G P f args res
theorem Ag7 {G:Glo}(hNG:NoNG P)(hm:P.follows .mixedOrders=true){C:Jf}(hx:A1z G P C){fu:Nat}:∀(d:Nat)(f:FuncId)(args:List PV)(res:Ay),Ae C P fu d f args=some res->G7 G P f args res
 |0,_,_,_,h=>by cases h
 |d+1,f,args,res,h=>by
  unfold Ae at h;split at h
  ·rename_i g hg;exact hx f g args res hg h
  ·split at h
   ·cases h
   ·rename_i fn hf;split at h
    ·cases h
    ·rename_i c hb;exact Asz hNG hm (Ag7 hNG hm hx d) hf hb h
end
open Go.ChangeShapes Go.WideShapes Go.ChangeAt Go.RowKit Go.Deep
def Ao0 (P:Program):List Field->Nat->Nat->Bool
 |[],i,n=>Nat.beq i n
 |f::r,i,n=>Nat.beq f.offset i&&Ao0 P r (i+P.cellsOf f.type) n
def Pp (P:Program):Nat->TypeId->Bool
 |0,_=>false
 |d+1,t=>
  match P.underlying t with
  |some .bool=>true
  |some (.int _)=>true
  |some .string=>true
  |some (.slice e)=>Pp P d e&&Nat.blt 0 (P.cellsOf e)
  |some (.struct fs)=>Ao0 P fs.toList 0 (P.cellsOf t)&&fs.toList.all fun f=>Pp P d f.type
  |some (.array n e)=>Nat.beq (P.cellsOf t) (n*P.cellsOf e)&&Pp P d e
  |_=>false
def WT (P:Program):Nat->TypeId->List PV->Prop
 |0,_,_=>False
 |d+1,t,ps=>
  match P.underlying t with
  |some .bool=>∃b,ps=[.sc (.bool b)]
  |some (.int k)=>∃n,ps=[.sc (.int k n)]∧(Lit.int k n).wf=true
  |some .string=>∃s:ByteArray,ps=[.sc (.string s)]∧s.size<=maxLen
  |some (.slice e)=>∃rows:List (List PV),ps=[.lst false (P.cellsOf e) rows.length rows.flatten]∧rows.length<=maxLen∧∀r∈rows,r.length=P.cellsOf e∧WT P d e r
  |some (.struct fs)=>∃rows:List (List PV),ps=rows.flatten∧B5 (fun f r=>WT P d f.type r) fs.toList rows
  |some (.array n e)=>∃rows:List (List PV),ps=rows.flatten∧rows.length=n∧∀r∈rows,r.length=P.cellsOf e∧WT P d e r
  |_=>False
def WTv (P:Program)(t:TypeId)(p:PV):Prop:=
 match Df P t with
 |true=>∃ps,p=.agg ps∧WT P 12 t ps
 |false=>WT P 12 t [p]
section
variable {P:Program} {d:Nat} {t e:TypeId} {ps:List PV}
theorem A4m (hu:P.underlying t=some .bool):WT P (d+1) t ps↔∃b,ps=[.sc (.bool b)]:=by
 show (match P.underlying t with|some .bool=>_|some (.int k)=>_|some .string=>_|some (.slice e)=>_|some (.struct fs)=>_|some (.array n e)=>_|_=>_)↔_
 rw [hu]
theorem A3m {k:IntKind}(hu:P.underlying t=some (.int k)):WT P (d+1) t ps↔∃n,ps=[.sc (.int k n)]∧(Lit.int k n).wf=true:=by
 show (match P.underlying t with|some .bool=>_|some (.int k)=>_|some .string=>_|some (.slice e)=>_|some (.struct fs)=>_|some (.array n e)=>_|_=>_)↔_
 rw [hu]
theorem Ax9 (hu:P.underlying t=some .string):WT P (d+1) t ps↔∃s:ByteArray,ps=[.sc (.string s)]∧s.size<=maxLen:=by
 show (match P.underlying t with|some .bool=>_|some (.int k)=>_|some .string=>_|some (.slice e)=>_|some (.struct fs)=>_|some (.array n e)=>_|_=>_)↔_
 rw [hu]
theorem Azm (hu:P.underlying t=some (.slice e)):WT P (d+1) t ps↔∃rows:List (List PV),ps=[.lst false (P.cellsOf e) rows.length rows.flatten]∧rows.length<=maxLen∧∀r∈rows,r.length=P.cellsOf e∧WT P d e r:=by
 show (match P.underlying t with|some .bool=>_|some (.int k)=>_|some .string=>_|some (.slice e)=>_|some (.struct fs)=>_|some (.array n e)=>_|_=>_)↔_
 rw [hu]
theorem Ank {fs:Array Field}(hu:P.underlying t=some (.struct fs)):WT P (d+1) t ps↔∃rows:List (List PV),ps=rows.flatten∧B5 (fun f r=>WT P d f.type r) fs.toList rows:=by
 show (match P.underlying t with|some .bool=>_|some (.int k)=>_|some .string=>_|some (.slice e)=>_|some (.struct fs)=>_|some (.array n e)=>_|_=>_)↔_
 rw [hu]
theorem A2p {n:Nat}(hu:P.underlying t=some (.array n e)):WT P (d+1) t ps↔∃rows:List (List PV),ps=rows.flatten∧rows.length=n∧∀r∈rows,r.length=P.cellsOf e∧WT P d e r:=by
 show (match P.underlying t with|some .bool=>_|some (.int k)=>_|some .string=>_|some (.slice e)=>_|some (.struct fs)=>_|some (.array n e)=>_|_=>_)↔_
 rw [hu]
end
inductive Ki where
 |bool
 |int (k:IntKind)
 |str
 |sl (e:TypeId)
 |st (ts:List TypeId)
 |ar (n:Nat) (e:TypeId)
 |no
def Ajc (P:Program)(t:TypeId):Ki:=
 match P.underlying t with
 |some .bool=>.bool
 |some (.int k)=>.int k
 |some .string=>.str
 |some (.slice e)=>.sl e
 |some (.struct fs)=>.st (fs.toList.map (·.type))
 |some (.array n e)=>.ar n e
 |_=>.no
section
variable {P:Program} {d:Nat} {t e:TypeId} {ps:List PV} {p:PV}
theorem B5.map_left {α β γ:Type}{g:α->γ}{R:γ->β->Prop}:∀{l:List α}{r:List β},B5 (fun a b=>R (g a) b) l r->B5 R (l.map g) r
 |[],[],_=>trivial
 |_::_,_::_,h=>⟨h.1,B5.map_left h.2⟩
 |[],_::_,h=>h.elim
 |_::_,[],h=>h.elim
theorem B5.cons_inv {α β:Type}{R:α->β->Prop}{a:α}{zs:List α}:∀{rs:List β},B5 R (a::zs) rs->∃r rs',rs=r::rs'∧R a r∧B5 R zs rs'
 |[],h=>h.elim
 |r::rs,h=>⟨r,rs,rfl,h.1,h.2⟩
theorem B5.nil_inv {α β:Type}{R:α->β->Prop}:∀{rs:List β},B5 R ([]:List α) rs->rs=[]
 |[],_=>rfl
 |_::_,h=>h.elim
theorem Aur {k:IntKind}(hk:Ajc P t=.int k)(h:WT P d t ps):∃n,ps=[.sc (.int k n)]∧(Lit.int k n).wf=true:=by
 cases d with
 |zero=>exact h.elim
 |succ d=>
 unfold Ajc at hk;split at hk<;>first|cases hk|skip
 rename_i hu;exact (A3m hu).1 h
theorem Ban {ts:List TypeId}(hk:Ajc P t=.st ts)(h:WT P d t ps):∃rows:List (List PV),ps=rows.flatten∧B5 (WT P (d-1)) ts rows:=by
 cases d with
 |zero=>exact h.elim
 |succ d=>
 rw [Nat.add_sub_cancel];unfold Ajc at hk;split at hk<;>first|cases hk|skip
 rename_i fs hu;obtain ⟨rows,h1,h2⟩:=(Ank hu).1 h;exact ⟨rows,h1,B5.map_left h2⟩
theorem A4y (hk:Df P t=true)(h:WTv P t p):∃ps,p=.agg ps∧WT P 12 t ps:=by
 unfold WTv at h;rw [hk] at h;exact h
theorem A4e (hk:Df P t=false)(h:WTv P t p):WT P 12 t [p]:=by
 unfold WTv at h;rw [hk] at h;exact h
theorem Ah8 {k:IntKind}(ha:Df P t=false)(hk:Ajc P t=.int k)(h:WTv P t p):∃n,p=.sc (.int k n)∧(Lit.int k n).wf=true:=by
 obtain ⟨b,e,h⟩:=Aur hk (A4e ha h);exact ⟨b,by injection e,h⟩
end
abbrev No:Nat->Prop:=fun _=>False
section
variable {H:Type} {enc:TypeId × Value->H} {P:Program} {w:World} {base:Nat} {held:Bool}
theorem B5.flat {α β:Type}{R:α->β->Prop}:∀{l:List Nat}{f:Nat->List α}{g:Nat->List β},(∀i∈l,B5 R (f i) (g i))->B5 R (l.map f).flatten (l.map g).flatten
 |[],_,_,_=>trivial
 |i::l,f,g,h=>by
  simp only [List.map_cons,List.flatten_cons];exact (h i (by simp)).app (B5.flat fun j hj=>h j (by simp [hj]))
theorem Axy {a:Addr}{v:Value}(h:w.cell? a=some v):a.spot=none∧a.block<w.heap.size:=by
 unfold World.cell? at h;split at h
 ·rename_i c t f e;refine ⟨?_,?_⟩
  ·cases hs:a.spot with
   |none=>rfl
   |some x=>rw [hs] at h;simp at h
  ·rcases Nat.lt_or_ge a.block w.heap.size with h1|h1
   ·exact h1
   ·rw [Array.getElem?_eq_none h1] at e;cases e
 ·cases h
theorem Ajs {α:Type}{g:Nat->List α}{es:Nat}:∀{n:Nat},(∀i,i<n->(g i).length=es)->((List.range n).map g).flatten.length=n*es
 |0,_=>by simp
 |n+1,h=>by
  rw [List.range_succ,List.map_append,List.flatten_append,List.length_append,Ajs (fun i hi=>h i (by omega))]
  simp [h n (by omega),Nat.succ_mul]
theorem Akw {a:Addr}{g:Nat->List Value}{es:Nat}:∀{n:Nat},(∀i,i<n->(g i).length=es)->(∀i,i<n->∀k,k<es->w.cell? (a.add (i*es+k))=(g i)[k]?) ->
  ∀j,j<n*es->w.cell? (a.add j)=(((List.range n).map g).flatten)[j]?
 |0,_,_,j,hj=>by omega
 |n+1,hl,hc,j,hj=>by
  have hfl:=Ajs (fun i (hi:i<n)=>hl i (by omega))
  rw [List.range_succ,List.map_append,List.flatten_append,List.getElem?_append,hfl];rw [Nat.succ_mul] at hj;split
  ·rename_i h1;exact Akw (fun i hi=>hl i (by omega)) (fun i hi=>hc i (by omega)) j h1
  ·rename_i h1;have:=hc n (by omega) (j-n*es) (by omega)
   rw [show n*es+(j-n*es)=j by omega] at this
   simpa using this
abbrev TR (w:World)(c:PV)(v:Value):Prop:=(isT c∧Bq w No c v)∧v.oneCell'=true
theorem Agk {d:Nat}{cs:List Value}{n:Nat}(hn:cs.length=n):∀(l:List Field)(i:Nat),Ao0 P l i n=true ->
  (∀f∈l,∃ps,WT P d f.type ps∧B5 (TR w) ps ((cs.drop f.offset).take (P.cellsOf f.type)))->∃rows:List (List PV),B5 (fun f r=>WT P d f.type r) l rows∧B5 (TR w) rows.flatten (cs.drop i)
 |[],i,ho,_=>by
  have:=Nat.eq_of_beq_eq_true ho;refine ⟨[],trivial,?_⟩;rw [List.drop_of_length_le (by omega)]
  trivial
 |f::l,i,ho,h=>by
  simp only [Ao0,Bool.and_eq_true] at ho;have ho1:=Nat.eq_of_beq_eq_true ho.1;obtain ⟨ps,h1,h2⟩:=h f (by simp)
  obtain ⟨rows,h3,h4⟩:=Agk hn l _ ho.2 fun g hg=>h g (by simp [hg])
  refine ⟨ps::rows,⟨h1,h3⟩,?_⟩;rw [ho1] at h2;have:cs.drop i=(cs.drop i).take (P.cellsOf f.type)++cs.drop (i+P.cellsOf f.type):=by rw [←List.drop_drop];exact (List.take_append_drop _ _).symm
  rw [this,List.flatten_cons];exact h2.app h4
theorem Ail {d:Nat}{e:TypeId}{cs:List Value}{k:Nat}:∀(n:Nat),n*k<=cs.length ->
  (∀i,i<n->∃ps,(ps.length=k∧WT P d e ps)∧B5 (TR w) ps ((cs.drop (i*k)).take k))->∃rows:List (List PV),rows.length=n∧(∀r∈rows,r.length=k∧WT P d e r)∧B5 (TR w) rows.flatten (cs.take (n*k))
 |0,_,_=>⟨[],rfl,by simp,by simp [B5]⟩
 |n+1,hl,h=>by
  rw [Nat.succ_mul] at hl;obtain ⟨rows,h1,h2,h3⟩:=Ail n (by omega) fun i hi=>h i (by omega)
  obtain ⟨ps,h4,h5⟩:=h n (by omega)
  refine ⟨rows++[ps],by simp [h1],?_,?_⟩
  ·intro r hr;rcases List.mem_append.1 hr with hr|hr
   ·exact h2 r hr
   ·rw [List.mem_singleton.1 hr];exact h4
  ·rw [List.flatten_append,Nat.succ_mul,List.take_add];refine h3.app ?_
   simpa using h5
theorem Y7:∀(d:Nat)(t:TypeId),Pp P d t=true->∀(fuel:Nat)(cs:List Value)(x:DataW H × List MemPlace),DataW.trod enc P w base (fun _=>true) held fuel t cs=some x ->
  ∃ps,WT P d t ps∧B5 (TR w) ps cs
 |0,_,h,_,_,_,_=>by cases h
 |d+1,t,hp,fuel,cs,x,h=>by
  unfold Pp at hp;split at hp
  ·rename_i hu;obtain ⟨b,rfl,_⟩:=DataW.trod_bool hu h;simp only [A4m hu];exact ⟨[.sc (.bool b)],⟨b,rfl⟩,⟨⟨trivial,Bq.sc _⟩,rfl⟩,trivial⟩
  ·rename_i k hu;obtain ⟨n,rfl,_,hw⟩:=DataW.trod_int hu h;simp only [A3m hu];exact ⟨[.sc (.int k n)],⟨n,rfl,hw⟩,⟨⟨trivial,Bq.sc _⟩,rfl⟩,trivial⟩
  ·rename_i hu;obtain ⟨s,rfl,_,hw⟩:=DataW.trod_string hu h;simp only [Ax9 hu];exact ⟨[.sc (.string s)],⟨s,rfl,hw⟩,⟨⟨trivial,Bq.sc _⟩,rfl⟩,trivial⟩
  ·rename_i e hu;simp only [Bool.and_eq_true] at hp;have hes:0<P.cellsOf e:=Nat.lt_of_succ_le (Nat.le_of_ble_eq_true hp.2);simp only [Azm hu];rcases open_slice hu h with ⟨rfl,_⟩|⟨a,len,cap,m,n,D,Pl,rfl,_,hl,hm,hmm,_,hi⟩
   ·exact ⟨[.lst false (P.cellsOf e) 0 []],⟨[],by simp,by simp,by simp⟩,⟨⟨trivial,Bq.lnil _ _⟩,rfl⟩,trivial⟩
   ·simp only [if_true] at hmm;subst hmm
    have hi':∀i,i<len->∃q:List PV × List Value,(q.2.length=P.cellsOf e∧(∀k,k<P.cellsOf e->w.cell? (a.add (i*P.cellsOf e+k))=q.2[k]?))∧WT P d e q.1∧B5 (TR w) q.1 q.2:=by
     intro i hlt;obtain ⟨cs',hc,ht⟩:=hi i (by omega)
     obtain ⟨_,hcl,hat⟩:=World.cells?_some hc;obtain ⟨ps,h1,h2⟩:=Y7 d e hp.1 _ _ _ ht;exact ⟨(ps,cs'),⟨hcl,fun k hk=>by rw [←Pv.add_add];exact hat k hk⟩,h1,h2⟩
    obtain ⟨F,hF⟩:=choose_lt hi';refine ⟨[.lst false (P.cellsOf e) len ((List.range len).map fun i=>(F i).1).flatten],⟨(List.range len).map fun i=>(F i).1,by simp,by simp;omega,?_⟩,⟨⟨trivial,?_⟩,rfl⟩,trivial⟩
    ·intro r hr;obtain ⟨i,hi1,rfl⟩:=List.mem_map.1 hr;have hi2:=List.mem_range.1 hi1;exact ⟨by rw [(hF i hi2).2.2.len];exact (hF i hi2).1.1,(hF i hi2).2.1⟩
    ·rcases Nat.eq_zero_or_pos len with h0|h0
     ·subst h0;exact Bq.lemp _ _ _
     ·have hall:B5 (TR w) ((List.range len).map fun i=>(F i).1).flatten ((List.range len).map fun i=>(F i).2).flatten:=B5.flat fun i hi=>(hF i (List.mem_range.1 hi)).2.2
      have hcell:=Akw (w:=w) (a:=a) (g:=fun i=>(F i).2) (fun i hi=>(hF i hi).1.1) (fun i hi=>(hF i hi).1.2)
      have hlen:=Ajs (g:=fun i=>(F i).2) (fun i (hi:i<len)=>(hF i hi).1.1)
      have h00:w.cell? a≠none:=by
       have:=hcell 0 (Nat.mul_pos h0 hes);rw [show a.add 0=a by unfold Addr.add;simp] at this
       rw [this,List.getElem?_eq_getElem (by rw [hlen];exact Nat.mul_pos h0 hes)]
       simp
      obtain ⟨v0,hv0⟩:=Option.ne_none_iff_exists'.1 h00;obtain ⟨hs,hb⟩:=Axy hv0
      have key:∀j c,(((List.range len).map fun i=>(F i).1).flatten)[j]?=some c->∃v,w.cell? (a.add j)=some v∧TR w c v:=by
       intro j c hj
       have hlj:j<len*P.cellsOf e:=by
        rw [←hlen,←hall.len];rcases Nat.lt_or_ge j (((List.range len).map fun i=>(F i).1).flatten).length with h1|h1
        ·exact h1
        ·rw [List.getElem?_eq_none h1] at hj;cases hj
       have h1:=hcell j hlj;rw [List.getElem?_eq_getElem (by rw [hlen];exact hlj)] at h1
       exact ⟨_,h1,hall.at_ hj (List.getElem?_eq_getElem (by rw [hlen];exact hlj))⟩
      refine Bq.lst _ _ _ a _ (fun j=>(w.cell? (a.add j)).getD undef) hs hb (fun h=>h) hl (fun j c hj=>?_) (fun j c hj=>?_) (fun j c hj=>?_)
      ·obtain ⟨v,hv,_⟩:=key j c hj;rw [hv];rfl
      ·obtain ⟨v,hv,ht⟩:=key j c hj;rw [hv];exact ht.2
      ·obtain ⟨v,hv,ht⟩:=key j c hj;rw [hv];exact ht.1.2
  ·rename_i fs hu;simp only [Bool.and_eq_true] at hp;simp only [Ank hu];obtain ⟨xs,n,_,_,hlen,hxl,hf⟩:=DataW.trod_struct hu h
   obtain ⟨rows,h1,h2⟩:=Agk (P:=P) (w:=w) (d:=d) hlen fs.toList 0 hp.1 fun f hf'=>by
    obtain ⟨i,hi⟩:=List.mem_iff_getElem?.1 hf';have hi':fs[i]?=some f:=by simpa using hi
    have hlt:i<fs.size:=(Array.getElem?_eq_some_iff.1 hi').1;have h3:=hf i f hi';rw [List.getElem?_eq_getElem (by omega)] at h3
    exact Y7 d f.type (List.all_eq_true.1 hp.2 f hf') _ _ _ h3
   exact ⟨_,⟨rows,rfl,h1⟩,by simpa using h2⟩
  ·rename_i n e hu;simp only [Bool.and_eq_true] at hp;simp only [A2p hu];obtain ⟨xs,m,_,_,hlen,hxl,hf⟩:=DataW.trod_array hu h;have hsz:=Nat.eq_of_beq_eq_true hp.1
   obtain ⟨rows,h1,h2,h3⟩:=Ail (P:=P) (w:=w) (d:=d) (e:=e) (cs:=cs) (k:=P.cellsOf e) n (by omega) fun i hi=>by
    have h3:=hf i hi;rw [List.getElem?_eq_getElem (by omega)] at h3
    obtain ⟨ps,h4,h5⟩:=Y7 d e hp.2 _ _ _ h3;refine ⟨ps,⟨?_,h4⟩,h5⟩;rw [h5.len,List.length_take,List.length_drop,hlen,hsz];have:(i+1)*P.cellsOf e<=n*P.cellsOf e:=Nat.mul_le_mul_right _ hi;rw [Nat.succ_mul] at this;omega
   refine ⟨_,⟨rows,rfl,h1,h2⟩,?_⟩;rw [List.take_of_length_le (by omega)] at h3
   exact h3
  ·cases hp
theorem A1h {r:Reach}{b0:Nat}{t:TypeId}{v:Value}{dd:DataW H}{p:List MemPlace}(hp:Pp P 12 t=true)(hv:Value.okWide P w r b0 t v)(h:DataW.Trod enc P w base (fun _=>true) held t v dd p):
  ∃q,WTv P t q∧U9 w No q v:=by
 obtain ⟨fuel,hf⟩:=h;obtain ⟨ps,h1,h2⟩:=Y7 12 t hp fuel _ _ hf;unfold WTv Df
 have two:∀{cs:Array Value},v=.agg cs->∃q,(∃ps,q=.agg ps∧WT P 12 t ps)∧U9 w No q v:=by
  intro cs e;subst e;exact ⟨.agg ps,⟨ps,rfl,h1⟩,cs.toList,by simp,h2.mono fun c v h=>h.1⟩
 have one:v.cells.toList=[v]->∃q,WT P 12 t [q]∧U9 w No q v:=by
  intro e;rw [e] at h2
  match ps,h2 with
  |[q],h2=>
   refine ⟨q,h1,?_⟩;have h3:=h2.1.1;cases q<;>first|exact h3|exact h3.1.elim
  |[],h2=>exact h2.elim
  |_::_::_,h2=>exact h2.2.elim
 unfold Pp at hp;split at hp
 ·rename_i hu;simp only [hu];obtain ⟨b,rfl,_⟩:=open_bool hu hv ⟨fuel,hf⟩;exact one rfl
 ·rename_i k hu;simp only [hu];obtain ⟨b,rfl,_⟩:=open_int hu hv ⟨fuel,hf⟩;exact one rfl
 ·rename_i hu;simp only [hu];obtain ⟨b,rfl,_⟩:=ChangeMaps.open_string hu hv ⟨fuel,hf⟩;exact one rfl
 ·rename_i e hu;simp only [hu];obtain ⟨a,len,cap,rfl⟩:=okWide_slice hu hv;exact one rfl
 ·rename_i fs hu;simp only [hu];obtain ⟨cs,rfl,_⟩:=okWide_struct hu hv;exact two rfl
 ·rename_i n e hu;simp only [hu];unfold Value.okWide at hv;simp only [hu] at hv;obtain ⟨cs,rfl,_⟩:=hv;exact two rfl
 ·cases hp
theorem Anf:∀{ts:List TypeId}{vs:List Value}{ds:List (DataW H)} {p:List MemPlace}{r:Reach}{b0:Nat},(ts.all fun t=>Pp P 12 t)=true->(∀(j:Nat) t v,ts[j]?=some t->vs[j]?=some v->Value.okWide P w r b0 t v) ->
  DataW.TrodAll enc P w base (fun _=>true) held ts vs ds p->∃qs,B5 (WTv P) ts qs∧B5 (U9 w No) qs vs
 |[],[],[],_,_,_,_,_,_=>⟨[],trivial,trivial⟩
 |t::ts,v::vs,d::ds,_,r,b0,hp,hv,⟨p,q,h1,h2,_⟩=>by
  simp only [List.all_cons,Bool.and_eq_true] at hp;obtain ⟨x,h3,h4⟩:=A1h hp.1 (hv 0 t v rfl rfl) h1;obtain ⟨xs,h5,h6⟩:=Anf hp.2 (fun j t v ht hv'=>hv (j+1) t v ht hv') h2
  exact ⟨x::xs,⟨h3,h5⟩,h4,h6⟩
 |[],_::_,_,_,_,_,_,_,h=>by cases h
 |[],[],_::_,_,_,_,_,_,h=>by cases h
 |_::_,[],_,_,_,_,_,_,h=>by cases h
 |_::_,_::_,[],_,_,_,_,_,h=>by cases h
theorem Aae (hl:laidOutB P=true){W W':World}{sp:Nat->Bool}:∀{ts:List TypeId}{vs:List Value}{ds:List (DataW H)} {p:List MemPlace},(ts.all fun t=>P.readableRec t&&Nat.blt t P.types.size)=true ->
  DataW.TrodAll enc P W 0 (fun _=>true) true ts vs ds p->(∀x∈p,W.sameAt W' x)->(∀x∈p,sp x.block=true)->DataW.TrodAll enc P W' 0 sp true ts vs ds p
 |[],[],[],_,_,h,_,_=>h
 |t::ts,v::vs,d::ds,_,hr,⟨p,q,h1,h2,e⟩,hs,hsp=>by
  simp only [List.all_cons,Bool.and_eq_true] at hr;refine ⟨p,q,WideElems.Trod_stays hl hr.1.1 (Nat.lt_of_succ_le (Nat.le_of_ble_eq_true hr.1.2)) h1 (fun x hx=>hs x ?_) (fun x hx=>hsp x ?_),Aae hl hr.2 h2 (fun x hx=>hs x ?_) (fun x hx=>hsp x ?_),e⟩
  all_goals rw [e,List.mem_append]
  ·exact .inl hx
  ·exact .inl hx
  ·exact .inr hx
  ·exact .inr hx
 |[],_::_,_,_,_,h,_,_=>by cases h
 |[],[],_::_,_,_,h,_,_=>by cases h
 |_::_,[],_,_,_,h,_,_=>by cases h
 |_::_,_::_,[],_,_,h,_,_=>by cases h
theorem Al3 {f:Func}{s:ChangeSpec}{apart fresh handsOn again:Bool}{W W':World}{args:Array Value}{v:Value}{ds gs:List (DataW H)} {before pa pv:List MemPlace}
  (hW:DataW.Whole enc P f.params.toList s.vars apart W args.toList ds gs before)
  (hres:∀(b:Nat)(sp:Nat->Bool)(hd:Bool),DataW.TrodAll enc P W' b sp hd f.resultTypes.toList (v.resultList f.resultTypes.size) (s.fn H (ds++gs)).results [])
  (hargs:∀sp:Nat->Bool,(∀p∈before,sp p.block=true)->DataW.TrodAll enc P W' 0 sp true f.params.toList args.toList (s.fn H (ds++gs)).args pa)
  (hvars:∀sp:Nat->Bool,(∀p∈before,sp p.block=true)->DataW.TrodVars enc P W' sp s.vars (s.fn H (ds++gs)).vars pv)
  (hps:before=pa++pv)(hb:Below W.heap.size W W')
  (hok:∀(j:Nat)(t:TypeId)(r:Value),f.resultTypes[j]?=some t->(v.resultList f.resultTypes.size)[j]?=some r->Value.okWide P W' .any 0 t r):
  s.post enc P f apart fresh handsOn again W args v W':=by
 have hlt:∀p∈before,p.block<W.heap.size:=fun p hp=>hW.lt p hp
 have hold:∀p∈before,(fun b=>decide (b<W.heap.size)) p.block=true:=fun p hp=>by simpa using hlt p hp
 refine ⟨ds,gs,before,[],pa,pv,hW,hres _ _ _,hargs _ hold,hvars _ hold,World.keptBut_mono (fun p hp=>⟨hp,?_⟩) (hb.frame (· ∈ before)),fun _=>?_⟩
 ·rw [hps,List.mem_append] at hp;exact Or.inr hp
 ·obtain ⟨_,_,_,_,_,hz,hn⟩:=hW;refine ⟨hok,_,_,([]++pa)++pv,⟨[]++pa,pv,trodAll_append (hargs _ (fun _ _=>rfl)) (hres _ _ _),hvars _ (fun _ _=>rfl),rfl,?_,?_⟩,?_⟩
  ·intro b off hp;have hin:MemPlace.cell b off∈before:=by rw [hps];simpa using hp
   rw [hb.frozen (hlt _ hin)];exact hz b off hin
  ·intro ha;have:=hn ha;rw [hps] at this
   simpa using this
  ·intro p hp _;rw [hps]
   simpa using hp
theorem law_contract {G:Glo}{C:Jf}(hx:A1z G P C)(hNG:NoNG P)(hm:P.follows .mixedOrders=true)(hl:laidOutB P=true){f:FuncId}{fn:Func}{s:ChangeSpec}{tb:TypeId}(hfn:P.funcs[f]?=some fn)
  (hvars:s.vars=[]) (hspec:∀ds:List (DataW H),ds.length=fn.params.size->s.fn H ds={ results:=[.lit (.bool true)],args:=ds }) (hplain:(fn.params.toList.all fun t=>Pp P 12 t)=true)
  (hread:(fn.params.toList.all fun t=>P.readableRec t&&Nat.blt t P.types.size)=true) (hrt:fn.resultTypes = #[tb]) (hub:P.underlying tb=some .bool)
  {apart fresh handsOn again:Bool} (W:World) (base:Nat) (args:Array Value) (ds gs:List (DataW H)) (before:List MemPlace)
  (hval:∀(j:Nat) t v,fn.params[j]?=some t->args[j]?=some v->Value.okWide P W .any base t v)
  (hW:DataW.Whole enc P fn.params.toList s.vars apart W args.toList ds gs before)
  (hlaw:∀qs:List PV,B5 (WTv P) fn.params.toList qs->∃fu d,Ae C P fu d f qs=some ⟨[.sc (.bool true)],[]⟩) (hG:G.ok W)(hGY:∀b,G.bl b->b<W.heap.size):
  Calls P f args W fun e W'=>∃v,e=.returned v∧s.post enc P fn apart fresh handsOn again W args v W':=by
 have hW':=hW;obtain ⟨p,q,hA,hV,rfl,hfz,hnd⟩:=hW;rw [hvars] at hV;obtain ⟨rfl,rfl⟩:=trodVars_none hV;obtain ⟨qs,h1,h2⟩:=Anf hplain (fun j t v ht hv=>hval j t v (by simpa using ht) (by simpa using hv)) hA
 obtain ⟨fu,d,hc⟩:=hlaw qs h1;have hS:=(Ag7 hNG hm hx d f qs _ hc).2 W No Azq args.toList (Arm (fun b h=>h.elim) h2) hG (fun b hb=>⟨hGY b hb,Ak1 b⟩)
 rw [Array.toArray_toList] at hS;refine hS.mono fun e W' ⟨vs,own,he,ho⟩=>?_
 have hv:=ho.vals
 have hvs:vs=[.bool true]:=by
  match vs,hv with
  |[u],hv=>
   have:Bq W' _ (.sc (.bool true)) u:=hv.1;rw [this.val]
  |[],hv=>exact hv.elim
  |_::_::_,hv=>exact hv.2.elim
 subst hvs;subst he;have hb:Below W.heap.size W W':=⟨ho.os,ho.tape,ho.output,ho.ext.size,fun k hk=>ho.ext.keep k hk (Ak1 k)⟩
 have hlt:∀x∈p,x.block<W.heap.size:=fun x hx=>hW'.lt x (by simpa using hx)
 have hlen:ds.length=fn.params.size:=by
  have:∀{ts:List TypeId} {vs:List Value} {ds:List (DataW H)} {p:List MemPlace},DataW.TrodAll enc P W 0 (fun _=>true) true ts vs ds p->ds.length=ts.length:=by
   intro ts
   induction ts with
   |nil=>intro vs ds p h;cases vs<;>cases ds<;>first|rfl|cases h
   |cons t ts ih=>
    intro vs ds p h;cases vs with
    |nil=>cases h
    |cons v vs=>
     cases ds with
     |nil=>cases h
     |cons d ds=>obtain ⟨_,_,_,h2,_⟩:=h;simp [ih h2]
  simpa using this hA
 have hsp:=hspec (ds++[]) (by simpa using hlen)
 refine ⟨_,rfl,Al3 (pa:=p) (pv:=[]) hW' ?_ ?_ ?_ rfl hb ?_⟩
 ·intro b sp hd;rw [hsp,hrt];exact trodAll_mk1 (shut_bool hub _)
 ·intro sp hspb;rw [hsp];simp only [List.append_nil];exact Aae hl hread hA (fun x hx=>hb.same (hlt x hx)) (fun x hx=>hspb x (by simpa using hx))
 ·intro sp _;rw [hsp,hvars];rfl
 ·exact ok_one hrt rfl (okWide_bool_mk hub _)
end
end
section
set_option maxRecDepth 100000
theorem A9q {n:Int}(h:(Lit.int .u8 n).wf=true):0<=n∧n<=255:=by
 simp [Lit.wf,IntKind.min,IntKind.max,IntKind.signed,IntKind.bits] at h;omega
theorem A8d {n:Int}(h:(Lit.int .u64 n).wf=true):0<=n∧n<=18446744073709551615:=by
 simp [Lit.wf,IntKind.min,IntKind.max,IntKind.signed,IntKind.bits] at h;omega
end
section
theorem Bs:type_of% @Bool.not_true:=@Bool.not_true
theorem B4:type_of% @Bool.not_false:=@Bool.not_false
theorem Bj:type_of% @Nat.mul_one:=@Nat.mul_one
theorem Bw:type_of% @Nat.zero_add:=@Nat.zero_add
theorem Cf:type_of% @List.drop_zero.{0}:=@List.drop_zero
theorem Iv:type_of% @List.take_of_length_le.{0}:=@List.take_of_length_le
theorem Hz:type_of% @List.length_append.{0}:=@List.length_append
theorem Y6:type_of% @List.length_nil.{0}:=@List.length_nil
theorem Iw:type_of% @List.length_cons.{0}:=@List.length_cons
theorem Hr:type_of% @Int.toNat_natCast:=@Int.toNat_natCast
theorem A0:type_of% @if_neg.{1}:=@if_neg
theorem Bm:type_of% @if_pos.{1}:=@if_pos
theorem Zzm:type_of% @Bool.true_and:=@Bool.true_and
theorem Zzq:type_of% @List.nil_append.{0}:=@List.nil_append
theorem Zzr:type_of% @Nat.add_zero:=@Nat.add_zero
theorem Zzv:type_of% @List.append_assoc.{0}:=@List.append_assoc
theorem Zzw:type_of% @List.map_cons.{0,0}:=@List.map_cons
end
section
set_option maxRecDepth 100000
abbrev Ov:FuncId:=141
theorem Zo (fu d:Nat)(a0 a1:Int):Ae C0 Tryz.prog fu (d+1) Ov [.sc (.int .u64 a0),.sc (.int .i64 a1)]=(fun (call:Am)=>Aa (IntKind.wrap .u64 a1) fun x1=>Aa (E9 .u64 x1 63) fun x2=>Aq (decide (0<=x2))<|Aa (Fb .u64 a0 x2) fun x3=>Aa (IntKind.wrap .u64 (64-x2)) fun x4=>Aq (decide (0<=x4))<|Aa (Eg .u64 a0 x4) fun x5=>Aa (Y9 .u64 x3 x5) fun x6=>some (Ay.mk [.sc (.int .u64 x6)] [])) (Ae C0 Tryz.prog fu d):=by kernel_rfl
abbrev He:FuncId:=108
noncomputable def Hu (fu:Nat)(call:Am)(a0n:Nat)(a0:List PV)(nn y0 y1:Nat)(y2:List PV)(y3 y4:Int)(y5:List PV):Option Ay:=Db C0 Tryz.prog fu call 108 Tryz.f108 (Ch Tryz.f108) [.lst false 1 a0n a0] [.r,.r,.l,.r,.l] nn ⟨lk [(3,(.view 3 1 0 y0)),(11,(.lst false 1 y1 y2)),(12,(.sc (.int .i64 y3))),(13,(.sc (.int .i64 y4)))],Gn [(3,(.ar false y5))]⟩
noncomputable def Jr (fu:Nat)(call:Am)(a0n:Nat)(a0:List PV)(m0 nn y0:Nat)(y1:Int)(y2:Nat)(y3:List PV)(y4 y5 y6:Int)(y7:List PV):Option Ay:=Db C0 Tryz.prog fu call 108 Tryz.f108 (Ch Tryz.f108) [.lst false 1 a0n a0] [.r,.r,.l,.r,.l,.i m0,.r,.r,.l,.l,.r,.r,.l] nn ⟨lk [(3,(.view 3 1 0 y0)),(5,(.sc (.int .u64 y1))),(11,(.lst false 1 y2 y3)),(12,(.sc (.int .i64 y4))),(13,(.sc (.int .i64 y5))),(17,(.sc (.int .i64 y6)))],Gn [(3,(.ar false y7))]⟩
theorem Ru (fu:Nat)(call:Am)(a0n:Nat)(a0:List PV)(nn y0 y1:Nat)(y2:List PV)(y3 y4:Int)(y5:List PV):Hu fu call a0n a0 (nn+1) y0 y1 y2 y3 y4 y5=(A4 (decide (y4<y3)) (Aq (decide (0<=y4)&&decide (y4<(↑y1:Int)))<|Af .u64 (List.getD y2 (Int.toNat y4*1) .top) fun x2=>Jr fu call a0n a0 nn (fu) (y0) x2 (y1) (y2) (y3) (y4) 0 (y5)) (Aq (decide (y0*1<=List.length y5))<|some (Ay.mk [.own 1 y0 (List.take (y0*1) y5)] []))):=by kernel_rfl
theorem Sm (fu:Nat)(call:Am)(a0n:Nat)(a0:List PV)(m0 nn y0:Nat)(y1:Int)(y2:Nat)(y3:List PV)(y4 y5 y6:Int)(y7:List PV):Jr fu call a0n a0 m0 (nn+1) y0 y1 y2 y3 y4 y5 y6 y7=(A4 (decide (y6<8)) (Aa (IntKind.wrap .i64 (8*y6)) fun x3=>Aa (IntKind.wrap .i64 (56-x3)) fun x4=>Aq (decide (0<=x4))<|Aa (Eg .u64 y1 x4) fun x5=>Aa (IntKind.wrap .u8 x5) fun x6=>Aq (decide (y0*1<=List.length y7)&&true&&decide ((y0+1)*1<=1099511627776)&&decide (y0+1<=1099511627776))<|Aa (y0+1) fun x7=>Aa (List.take (y0*1) y7++[.sc (.int .u8 x6)]) fun x8=>Aa (IntKind.wrap .i64 (y6+1)) fun x9=>Jr fu call a0n a0 m0 (nn) x7 (y1) (y2) (y3) (y4) (y5) x9 x8) (Aa (IntKind.wrap .i64 (y5+1)) fun Cd=>Hu fu call a0n a0 (m0) (y0) (y2) (y3) (y4) Cd (y7))):=by kernel_rfl
theorem Aja (fu d a0n:Nat)(a0:List PV):Ae C0 Tryz.prog fu (d+1) He [.lst false 1 a0n a0]=(fun (call:Am)=>Aa (IntKind.wrap .i64 (8*(↑a0n:Int))) fun x1=>Aq (decide (0<=x1)&&decide (x1*1<=1099511627776)&&decide (x1<=1099511627776))<|Hu fu call a0n a0 (fu) 0 (a0n) (a0) ((↑a0n:Int)) 0 ([])) (Ae C0 Tryz.prog fu d):=by kernel_rfl
abbrev Vv:FuncId:=131
noncomputable def Iy (fu:Nat)(call:Am)(a0n:Nat)(a0:List PV)(nn:Nat)(y0:Int)(y1:Nat)(y2:List PV)(y3 y4:Int):Option Ay:=Db C0 Tryz.prog fu call 131 Tryz.f131 (Ch Tryz.f131) [.lst false 1 a0n a0] [.r,.r,.l,.r,.l] nn ⟨lk [(3,(.sc (.int .u64 y0))),(6,(.lst false 1 y1 y2)),(7,(.sc (.int .i64 y3))),(8,(.sc (.int .i64 y4)))],Gn []⟩
theorem Qe (fu:Nat)(call:Am)(a0n:Nat)(a0:List PV)(nn:Nat)(y0:Int)(y1:Nat)(y2:List PV)(y3 y4:Int):Iy fu call a0n a0 (nn+1) y0 y1 y2 y3 y4=(A4 (decide (y4<y3)) (Aq (decide (0<=y4)&&decide (y4<(↑y1:Int)))<|Af .u8 (List.getD y2 (Int.toNat y4*1) .top) fun x1=>Aa (IntKind.wrap .u64 x1) fun x2=>Aa (IntKind.wrap .i64 (8*y4)) fun x3=>Aq (decide (0<=x3))<|Aa (Fb .u64 x2 x3) fun x4=>Aa (Y9 .u64 y0 x4) fun x5=>Aa (IntKind.wrap .i64 (y4+1)) fun x6=>Iy fu call a0n a0 (nn) x5 (y1) (y2) (y3) x6) (some (Ay.mk [.sc (.int .u64 y0)] []))):=by kernel_rfl
theorem Ahw (fu d a0n:Nat)(a0:List PV):Ae C0 Tryz.prog fu (d+1) Vv [.lst false 1 a0n a0]=(fun (call:Am)=>Iy fu call a0n a0 (fu) 0 (a0n) (a0) ((↑a0n:Int)) 0) (Ae C0 Tryz.prog fu d):=by kernel_rfl
abbrev Mo:FuncId:=132
noncomputable def Fw (fu:Nat)(call:Am)(a0_0 a0_1:Int)(a0_2 a0_3 a1:Int)(nn:Nat)(y0 y1:Int)(y2 y3:Int)(y4 y5:Int):Option Ay:=Db C0 Tryz.prog fu call 132 Tryz.f132 (Ch Tryz.f132) [.pbox [.sc (.int .u64 a0_0),.sc (.int .u64 a0_1),.sc (.int .u64 a0_2),.sc (.int .u64 a0_3)],.sc (.int .i64 a1)] [.r,.l] nn ⟨lk [(0,(.ptr 288000 0)),(4,(.sc (.int .i64 y0))),(5,(.sc (.int .i64 y1)))],Gn [(288000,(.st [(.sc (.int .u64 y2)),(.sc (.int .u64 y3)),(.sc (.int .u64 y4)),(.sc (.int .u64 y5))]))]⟩
theorem Jp (fu:Nat)(call:Am)(a0_0 a0_1:Int)(a0_2 a0_3 a1:Int)(nn:Nat)(y0 y1:Int)(y2 y3:Int)(y4 y5:Int):Fw fu call a0_0 a0_1 a0_2 a0_3 a1 (nn+1) y0 y1 y2 y3 y4 y5=(A4 (decide (y1<y0)) (Aa (IntKind.wrap .u64 (y2+y3)) fun x1=>Ag (call 141 [.sc (.int .u64 y3),.sc (.int .i64 13)]) fun x2 x3=>Ac x3<|Ab x2 fun x4 x5=>Af .u64 x4 fun x6=>Ac x5<|Aa (Em .u64 x6 x1) fun x7=>Ag (call 141 [.sc (.int .u64 x1),.sc (.int .i64 32)]) fun x8 x9=>Ac x9<|Ab x8 fun Cd Bp=>Af .u64 Cd fun C4=>Ac Bp<|Aa (IntKind.wrap .u64 (y4+y5)) fun Da=>Ag (call 141 [.sc (.int .u64 y5),.sc (.int .i64 16)]) fun Cq C9=>Ac C9<|Ab Cq fun Do Du=>Af .u64 Do fun D5=>Ac Du<|Aa (Em .u64 D5 Da) fun D7=>Aa (IntKind.wrap .u64 (C4+D7)) fun Eh=>Ag (call 141 [.sc (.int .u64 D7),.sc (.int .i64 21)]) fun Fy Ci=>Ac Ci<|Ab Fy fun Fn Ds=>Af .u64 Fn fun Bx=>Ac Ds<|Aa (Em .u64 Bx Eh) fun Fc=>Aa (IntKind.wrap .u64 (Da+x7)) fun Ft=>Ag (call 141 [.sc (.int .u64 x7),.sc (.int .i64 17)]) fun Bk Cg=>Ac Cg<|Ab Bk fun Hg Gf=>Af .u64 Hg fun Ie=>Ac Gf<|Aa (Em .u64 Ie Ft) fun H0=>Ag (call 141 [.sc (.int .u64 Ft),.sc (.int .i64 32)]) fun Jn Gt=>Ac Gt<|Ab Jn fun Ix M5=>Af .u64 Ix fun F0=>Ac M5<|Aa (IntKind.wrap .i64 (y1+1)) fun H5=>Fw fu call a0_0 a0_1 a0_2 a0_3 a1 (nn) (y0) H5 Eh H0 F0 Fc) (some (Ay.mk [] [[.sc (.int .u64 y2),.sc (.int .u64 y3),.sc (.int .u64 y4),.sc (.int .u64 y5)]]))):=by kernel_rfl
theorem Wm (fu d:Nat)(a0_0 a0_1:Int)(a0_2 a0_3 a1:Int):Ae C0 Tryz.prog fu (d+1) Mo [.pbox [.sc (.int .u64 a0_0),.sc (.int .u64 a0_1),.sc (.int .u64 a0_2),.sc (.int .u64 a0_3)],.sc (.int .i64 a1)]=(fun (call:Am)=>Fw fu call a0_0 a0_1 a0_2 a0_3 a1 (fu) (a1) 0 (a0_0) (a0_1) (a0_2) (a0_3)) (Ae C0 Tryz.prog fu d):=by kernel_rfl
abbrev Mh:FuncId:=130
theorem Wh (fu d:Nat)(a0_0 a0_1:Int)(a0_2 a0_3 a1:Int):Ae C0 Tryz.prog fu (d+1) Mh [.pbox [.sc (.int .u64 a0_0),.sc (.int .u64 a0_1),.sc (.int .u64 a0_2),.sc (.int .u64 a0_3)],.sc (.int .u64 a1)]=(fun (call:Am)=>Aa (Em .u64 a0_3 a1) fun x1=>Ag (call 132 [.pbox [.sc (.int .u64 a0_0),.sc (.int .u64 a0_1),.sc (.int .u64 a0_2),.sc (.int .u64 x1)],.sc (.int .i64 2)]) fun x2 x3=>Ac x2<|Ab x3 fun x4 x5=>Ab x4 fun x6 x7=>Af .u64 x6 fun x8=>Ab x7 fun x9 Cd=>Af .u64 x9 fun Bp=>Ab Cd fun C4 Da=>Af .u64 C4 fun Cq=>Ab Da fun C9 Do=>Af .u64 C9 fun Du=>Ac Do<|Ac x5<|Aa (Em .u64 x8 a1) fun D5=>some (Ay.mk [] [[.sc (.int .u64 D5),.sc (.int .u64 Bp),.sc (.int .u64 Cq),.sc (.int .u64 Du)]])) (Ae C0 Tryz.prog fu d):=by kernel_rfl
abbrev Adh:FuncId:=119
noncomputable def Jj (fu:Nat)(call:Am)(a0 a1:Int)(a2n:Nat)(a2:List PV)(nn y0:Nat)(y1:List PV)(y2 y3:Int)(y4 y5:Int)(y6 y7 y8:Int):Option Ay:=Db C0 Tryz.prog fu call 119 Tryz.f119 (Ch Tryz.f119) [.sc (.int .u64 a0),.sc (.int .u64 a1),.lst false 1 a2n a2] [.r,.r,.r,.l,.r,.l] nn ⟨lk [(2,(.lst false 1 y0 y1)),(7,(.ptr 7 0)),(8,(.sc (.int .i64 y2))),(22,(.sc (.int .i64 y3))),(23,(.sc (.int .i64 y4)))],Gn [(7,(.st [(.sc (.int .u64 y5)),(.sc (.int .u64 y6)),(.sc (.int .u64 y7)),(.sc (.int .u64 y8))]))]⟩
theorem V0 (fu:Nat)(call:Am)(a0 a1:Int)(a2n:Nat)(a2:List PV)(nn y0:Nat)(y1:List PV)(y2 y3:Int)(y4 y5:Int)(y6 y7 y8:Int):Jj fu call a0 a1 a2n a2 (nn+1) y0 y1 y2 y3 y4 y5 y6 y7 y8=(A4 (decide (y4<y3)) (Aa (IntKind.wrap .i64 (8*y4)) fun x6=>Aa (IntKind.wrap .i64 (8*y4)) fun x7=>Aa (IntKind.wrap .i64 (x7+8)) fun x8=>Aq (decide (0<=x6))<|Aq (decide (0<=x8))<|Aq (decide (Int.toNat x6<=Int.toNat x8)&&decide (Int.toNat x8<=y0))<|Aa (Int.toNat x8-Int.toNat x6) fun x9=>Aa (List.take (x9*1) (List.drop (Int.toNat x6*1) y1)) fun Cd=>Ag (call 131 [.lst false 1 x9 Cd]) fun Bp C4=>Ac C4<|Ab Bp fun Da Cq=>Af .u64 Da fun C9=>Ac Cq<|Ag (call 130 [.pbox [.sc (.int .u64 y5),.sc (.int .u64 y6),.sc (.int .u64 y7),.sc (.int .u64 y8)],.sc (.int .u64 C9)]) fun Do Du=>Ac Do<|Ab Du fun D5 D7=>Ab D5 fun Eh Fy=>Af .u64 Eh fun Ci=>Ab Fy fun Fn Ds=>Af .u64 Fn fun Bx=>Ab Ds fun Fc Ft=>Af .u64 Fc fun Bk=>Ab Ft fun Cg Hg=>Af .u64 Cg fun Gf=>Ac Hg<|Ac D7<|Aa (IntKind.wrap .i64 (y4+1)) fun Ie=>Jj fu call a0 a1 a2n a2 (nn) (y0) (y1) (y2) (y3) Ie Ci Bx Bk Gf) (Aa (IntKind.wrap .i64 (8*y2)) fun H0=>Aq (decide (0<=H0))<|Aq (decide (Int.toNat H0<=y0)&&decide (y0<=y0))<|Aa (y0-Int.toNat H0) fun Jn=>Aa (List.take (Jn*1) (List.drop (Int.toNat H0*1) y1)) fun Gt=>Ag (call 131 [.lst false 1 Jn Gt]) fun Ix M5=>Ac M5<|Ab Ix fun F0 H5=>Af .u64 F0 fun Rh=>Ac H5<|Aa (IntKind.wrap .u64 (↑y0:Int)) fun R6=>Aa (Fb .u64 R6 56) fun L6=>Aa (Y9 .u64 Rh L6) fun Rl=>Ag (call 130 [.pbox [.sc (.int .u64 y5),.sc (.int .u64 y6),.sc (.int .u64 y7),.sc (.int .u64 y8)],.sc (.int .u64 Rl)]) fun Pu Lx=>Ac Pu<|Ab Lx fun Q6 Rj=>Ab Q6 fun Oc Pw=>Af .u64 Oc fun Sd=>Ab Pw fun Pq Rx=>Af .u64 Pq fun Lz=>Ab Rx fun Py Rr=>Af .u64 Py fun Ts=>Ab Rr fun Pi Q9=>Af .u64 Pi fun S5=>Ac Q9<|Ac Rj<|Aa (Em .u64 Ts 255) fun Uv=>Ag (call 132 [.pbox [.sc (.int .u64 Sd),.sc (.int .u64 Lz),.sc (.int .u64 Uv),.sc (.int .u64 S5)],.sc (.int .i64 4)]) fun Oe Ro=>Ac Oe<|Ab Ro fun V9 Uq=>Ab V9 fun Q7 S6=>Af .u64 Q7 fun S1=>Ab S6 fun Ty Up=>Af .u64 Ty fun Us=>Ab Up fun Q8 Ws=>Af .u64 Q8 fun Wj=>Ab Ws fun Ur V1=>Af .u64 Ur fun Wu=>Ac V1<|Ac Uq<|Aa (Em .u64 S1 Us) fun V7=>Aa (Em .u64 V7 Wj) fun Wt=>Aa (Em .u64 Wt Wu) fun Za=>some (Ay.mk [.sc (.int .u64 Za)] []))):=by kernel_rfl
theorem Aoi (fu d:Nat)(a0 a1:Int)(a2n:Nat)(a2:List PV):Ae C0 Tryz.prog fu (d+1) Adh [.sc (.int .u64 a0),.sc (.int .u64 a1),.lst false 1 a2n a2]=(fun (call:Am)=>Aa (Em .u64 a0 8317987319222330741) fun x1=>Aa (Em .u64 a1 7237128888997146477) fun x2=>Aa (Em .u64 a0 7816392313619706465) fun x3=>Aa (Em .u64 a1 8387220255154660723) fun x4=>Aa (IntKind.wrap .i64 (Int.tdiv (↑a2n:Int) 8)) fun x5=>Jj fu call a0 a1 a2n a2 (fu) (a2n) (a2) x5 x5 0 x1 x2 x3 x4) (Ae C0 Tryz.prog fu d):=by kernel_rfl
abbrev S3:FuncId:=107
theorem Ale (fu d:Nat)(a0:Int)(a1n:Nat)(a1:List PV):Ae C0 Tryz.prog fu (d+1) S3 [.sc (.int .i64 a0),.lst false 1 a1n a1]=(fun (call:Am)=>Aa (IntKind.wrap .u64 a0) fun x1=>Ag (call 119 [.sc (.int .u64 x1),.sc (.int .u64 0),.lst false 1 a1n a1]) fun x2 x3=>Ac x3<|Ab x2 fun x4 x5=>Af .u64 x4 fun x6=>Ac x5<|some (Ay.mk [.sc (.int .u64 x6)] [])) (Ae C0 Tryz.prog fu d):=by kernel_rfl
abbrev Qs:FuncId:=115
theorem Abe (fu d:Nat)(a0 a1:Int):Ae C0 Tryz.prog fu (d+1) Qs [.sc (.int .u64 a0),.sc (.int .u64 a1)]=(fun (call:Am)=>Aq (decide (0<=a1))<|Aa (Fb .u64 a0 a1) fun x1=>Aa (IntKind.wrap .u64 (64-a1)) fun x2=>Aq (decide (0<=x2))<|Aa (Eg .u64 a0 x2) fun x3=>Aa (Y9 .u64 x1 x3) fun x4=>some (Ay.mk [.sc (.int .u64 x4)] [])) (Ae C0 Tryz.prog fu d):=by kernel_rfl
abbrev O2:FuncId:=99
theorem Zi (fu d:Nat)(a0_0 a0_1:Int)(a0_2 a0_3:Int):Ae C0 Tryz.prog fu (d+1) O2 [.agg [.sc (.int .u64 a0_0),.sc (.int .u64 a0_1),.sc (.int .u64 a0_2),.sc (.int .u64 a0_3)]]=(fun (call:Am)=>Aa (IntKind.wrap .u64 (a0_0+a0_1)) fun x1=>Ag (call 115 [.sc (.int .u64 a0_1),.sc (.int .u64 13)]) fun x2 x3=>Ac x3<|Ab x2 fun x4 x5=>Af .u64 x4 fun x6=>Ac x5<|Aa (Em .u64 x6 x1) fun x7=>Ag (call 115 [.sc (.int .u64 x1),.sc (.int .u64 32)]) fun x8 x9=>Ac x9<|Ab x8 fun Cd Bp=>Af .u64 Cd fun C4=>Ac Bp<|Aa (IntKind.wrap .u64 (a0_2+a0_3)) fun Da=>Ag (call 115 [.sc (.int .u64 a0_3),.sc (.int .u64 16)]) fun Cq C9=>Ac C9<|Ab Cq fun Do Du=>Af .u64 Do fun D5=>Ac Du<|Aa (Em .u64 D5 Da) fun D7=>Aa (IntKind.wrap .u64 (C4+D7)) fun Eh=>Ag (call 115 [.sc (.int .u64 D7),.sc (.int .u64 21)]) fun Fy Ci=>Ac Ci<|Ab Fy fun Fn Ds=>Af .u64 Fn fun Bx=>Ac Ds<|Aa (Em .u64 Bx Eh) fun Fc=>Aa (IntKind.wrap .u64 (Da+x7)) fun Ft=>Ag (call 115 [.sc (.int .u64 x7),.sc (.int .u64 17)]) fun Bk Cg=>Ac Cg<|Ab Bk fun Hg Gf=>Af .u64 Hg fun Ie=>Ac Gf<|Aa (Em .u64 Ie Ft) fun H0=>Ag (call 115 [.sc (.int .u64 Ft),.sc (.int .u64 32)]) fun Jn Gt=>Ac Gt<|Ab Jn fun Ix M5=>Af .u64 Ix fun F0=>Ac M5<|some (Ay.mk [.agg [.sc (.int .u64 Eh),.sc (.int .u64 H0),.sc (.int .u64 F0),.sc (.int .u64 Fc)]] [])) (Ae C0 Tryz.prog fu d):=by kernel_rfl
abbrev Sa:FuncId:=74
noncomputable def F1 (fu:Nat)(call:Am)(a0 a1:Int)(a2n:Nat)(a2:List PV)(nn y0:Nat)(y1:List PV)(y2:Int)(y3:List PV):Option Ay:=Db C0 Tryz.prog fu call 74 Tryz.f74 (Ch Tryz.f74) [.sc (.int .u64 a0),.sc (.int .u64 a1),.lst false 1 a2n a2] [.r,.r,.l,.r,.l] nn ⟨lk [(2,(.lst false 1 y0 y1)),(7,(.ptr 7 0)),(8,(.sc (.int .i64 y2)))],Gn [(7,(.ar false y3))]⟩
noncomputable def Fa (fu:Nat)(call:Am)(a0 a1:Int)(a2n:Nat)(a2:List PV)(m0 nn y0:Nat)(y1:List PV)(y2 y3 y4:Int)(y5:List PV):Option Ay:=Db C0 Tryz.prog fu call 74 Tryz.f74 (Ch Tryz.f74) [.sc (.int .u64 a0),.sc (.int .u64 a1),.lst false 1 a2n a2] [.r,.r,.l,.r,.l,.i m0,.r,.l,.l,.r,.l,.r,.l] nn ⟨lk [(2,(.lst false 1 y0 y1)),(7,(.ptr 7 0)),(8,(.sc (.int .i64 y2))),(9,(.sc (.int .u64 y3))),(10,(.sc (.int .i64 y4)))],Gn [(7,(.ar false y5))]⟩
theorem M9 (fu:Nat)(call:Am)(a0 a1:Int)(a2n:Nat)(a2:List PV)(nn y0:Nat)(y1:List PV)(y2:Int)(y3:List PV):F1 fu call a0 a1 a2n a2 (nn+1) y0 y1 y2 y3=(A4 (decide (y2<=(↑y0:Int))) (Fa fu call a0 a1 a2n a2 nn (fu) (y0) (y1) (y2) 0 7 (y3)) (Af .u64 (List.getD y3 2 .top) fun x5=>Aa (Em .u64 x5 255) fun x6=>Aq (decide (3<=List.length y3))<|Aa (B8 y3 [.sc (.int .u64 x6)] 2) fun x7=>Af .u64 (List.getD x7 0 .top) fun x8=>Af .u64 (List.getD x7 1 .top) fun x9=>Af .u64 (List.getD x7 2 .top) fun Cd=>Af .u64 (List.getD x7 3 .top) fun Bp=>Ag (call 99 [.agg [.sc (.int .u64 x8),.sc (.int .u64 x9),.sc (.int .u64 Cd),.sc (.int .u64 Bp)]]) fun C4 Da=>Ac Da<|Ab C4 fun Cq C9=>Cu Cq fun Do=>Ab Do fun Du D5=>Af .u64 Du fun D7=>Ab D5 fun Eh Fy=>Af .u64 Eh fun Ci=>Ab Fy fun Fn Ds=>Af .u64 Fn fun Bx=>Ab Ds fun Fc Ft=>Af .u64 Fc fun Bk=>Ac Ft<|Ac C9<|Ag (call 99 [.agg [.sc (.int .u64 D7),.sc (.int .u64 Ci),.sc (.int .u64 Bx),.sc (.int .u64 Bk)]]) fun Cg Hg=>Ac Hg<|Ab Cg fun Gf Ie=>Cu Gf fun H0=>Ab H0 fun Jn Gt=>Af .u64 Jn fun Ix=>Ab Gt fun M5 F0=>Af .u64 M5 fun H5=>Ab F0 fun Rh R6=>Af .u64 Rh fun L6=>Ab R6 fun Rl Pu=>Af .u64 Rl fun Lx=>Ac Pu<|Ac Ie<|Ag (call 99 [.agg [.sc (.int .u64 Ix),.sc (.int .u64 H5),.sc (.int .u64 L6),.sc (.int .u64 Lx)]]) fun Q6 Rj=>Ac Rj<|Ab Q6 fun Oc Pw=>Cu Oc fun Sd=>Ab Sd fun Pq Rx=>Af .u64 Pq fun Lz=>Ab Rx fun Py Rr=>Af .u64 Py fun Ts=>Ab Rr fun Pi Q9=>Af .u64 Pi fun S5=>Ab Q9 fun Uv Oe=>Af .u64 Uv fun Ro=>Ac Oe<|Ac Pw<|Ag (call 99 [.agg [.sc (.int .u64 Lz),.sc (.int .u64 Ts),.sc (.int .u64 S5),.sc (.int .u64 Ro)]]) fun V9 Uq=>Ac Uq<|Ab V9 fun Q7 S6=>Cu Q7 fun S1=>Ab S1 fun Ty Up=>Af .u64 Ty fun Us=>Ab Up fun Q8 Ws=>Af .u64 Q8 fun Wj=>Ab Ws fun Ur V1=>Af .u64 Ur fun Wu=>Ab V1 fun V7 Wt=>Af .u64 V7 fun Za=>Ac Wt<|Ac S6<|Aq (decide (4<=List.length x7))<|Aa (B8 x7 [.sc (.int .u64 Us),.sc (.int .u64 Wj),.sc (.int .u64 Wu),.sc (.int .u64 Za)] 0) fun x80=>Af .u64 (List.getD x80 0 .top) fun x81=>Af .u64 (List.getD x80 1 .top) fun x82=>Aa (Em .u64 x81 x82) fun x83=>Af .u64 (List.getD x80 2 .top) fun Z9=>Aa (Em .u64 x83 Z9) fun x85=>Af .u64 (List.getD x80 3 .top) fun x86=>Aa (Em .u64 x85 x86) fun x87=>some (Ay.mk [.sc (.int .u64 x87)] []))):=by kernel_rfl
theorem Nu (fu:Nat)(call:Am)(a0 a1:Int)(a2n:Nat)(a2:List PV)(m0 nn y0:Nat)(y1:List PV)(y2 y3 y4:Int)(y5:List PV):Fa fu call a0 a1 a2n a2 m0 (nn+1) y0 y1 y2 y3 y4 y5=(A4 (decide (y4>=0)) (Aa (IntKind.wrap .i64 (y2+y4)) fun Rm=>A4 (decide (Rm<(↑y0:Int))) (Aa (IntKind.wrap .i64 (y2+y4)) fun S9=>Aq (decide (0<=S9)&&decide (S9<(↑y0:Int)))<|Af .u8 (List.getD y1 (Int.toNat S9*1) .top) fun Vx=>Aa (Fb .u64 y3 8) fun x91=>Aa (IntKind.wrap .u64 Vx) fun x92=>Aa (Y9 .u64 x91 x92) fun x93=>Aa (IntKind.wrap .i64 (y4-1)) fun x94=>Fa fu call a0 a1 a2n a2 m0 (nn) (y0) (y1) (y2) x93 x94 (y5)) (A4 (y4==7) (Aa (IntKind.wrap .u8 (↑y0:Int)) fun x95=>Aa (Fb .u64 y3 8) fun x96=>Aa (IntKind.wrap .u64 x95) fun x97=>Aa (Y9 .u64 x96 x97) fun x98=>Aa (IntKind.wrap .i64 (y4-1)) fun x99=>Fa fu call a0 a1 a2n a2 m0 (nn) (y0) (y1) (y2) x98 x99 (y5)) (Aa (Fb .u64 y3 8) fun Tt=>Aa (Y9 .u64 Tt 0) fun Qd=>Aa (IntKind.wrap .i64 (y4-1)) fun G5=>Fa fu call a0 a1 a2n a2 m0 (nn) (y0) (y1) (y2) Qd G5 (y5)))) (Af .u64 (List.getD y5 3 .top) fun Jm=>Aa (Em .u64 Jm y3) fun S0=>Aq (decide (4<=List.length y5))<|Aa (B8 y5 [.sc (.int .u64 S0)] 3) fun Pn=>Af .u64 (List.getD Pn 0 .top) fun Oh=>Af .u64 (List.getD Pn 1 .top) fun Kl=>Af .u64 (List.getD Pn 2 .top) fun Wd=>Af .u64 (List.getD Pn 3 .top) fun Xr=>Ag (call 99 [.agg [.sc (.int .u64 Oh),.sc (.int .u64 Kl),.sc (.int .u64 Wd),.sc (.int .u64 Xr)]]) fun Vu Wo=>Ac Wo<|Ab Vu fun Ig Km=>Cu Ig fun Abb=>Ab Abb fun Aa3 Om=>Af .u64 Aa3 fun S2=>Ab Om fun Aba Zm=>Af .u64 Aba fun Abj=>Ab Zm fun Z7 Zp=>Af .u64 Z7 fun Abu=>Ab Zp fun Aa8 Zk=>Af .u64 Aa8 fun Rc=>Ac Zk<|Ac Km<|Ag (call 99 [.agg [.sc (.int .u64 S2),.sc (.int .u64 Abj),.sc (.int .u64 Abu),.sc (.int .u64 Rc)]]) fun Ut Acc=>Ac Acc<|Ab Ut fun Abk Zl=>Cu Abk fun Afe=>Ab Afe fun Aaz Ab3=>Af .u64 Aaz fun Ac8=>Ab Ab3 fun Ae6 Ahu=>Af .u64 Ae6 fun Ahf=>Ab Ahu fun Aex Z2=>Af .u64 Aex fun Ac6=>Ab Z2 fun Abx Adl=>Af .u64 Abx fun Afa=>Ac Adl<|Ac Zl<|Aq (decide (4<=List.length Pn))<|Aa (B8 Pn [.sc (.int .u64 Ac8),.sc (.int .u64 Ahf),.sc (.int .u64 Ac6),.sc (.int .u64 Afa)] 0) fun Abf=>Af .u64 (List.getD Abf 0 .top) fun Z6=>Aa (Em .u64 Z6 y3) fun Zt=>Aq (decide (1<=List.length Abf))<|Aa (B8 Abf [.sc (.int .u64 Zt)] 0) fun Ae1=>Aa (IntKind.wrap .i64 (y2+8)) fun Aeu=>F1 fu call a0 a1 a2n a2 (m0) (y0) (y1) Aeu Ae1)):=by kernel_rfl
theorem Acx (fu d:Nat)(a0 a1:Int)(a2n:Nat)(a2:List PV):Ae C0 Tryz.prog fu (d+1) Sa [.sc (.int .u64 a0),.sc (.int .u64 a1),.lst false 1 a2n a2]=(fun (call:Am)=>Aa (Em .u64 a0 8317987319222330741) fun x1=>Aa (Em .u64 a1 7237128888997146477) fun x2=>Aa (Em .u64 a0 7816392313619706465) fun x3=>Aa (Em .u64 a1 8387220255154660723) fun x4=>F1 fu call a0 a1 a2n a2 (fu) (a2n) (a2) 0 ([.sc (.int .u64 x1),.sc (.int .u64 x2),.sc (.int .u64 x3),.sc (.int .u64 x4)])) (Ae C0 Tryz.prog fu d):=by kernel_rfl
abbrev Jt:FuncId:=46
theorem Aar (fu d:Nat)(a0:Int)(a1n:Nat)(a1:List PV):Ae C0 Tryz.prog fu (d+1) Jt [.sc (.int .i64 a0),.lst false 1 a1n a1]=(fun (call:Am)=>Aa (IntKind.wrap .u64 a0) fun x1=>Ag (call 74 [.sc (.int .u64 x1),.sc (.int .u64 0),.lst false 1 a1n a1]) fun x2 x3=>Ac x3<|Ab x2 fun x4 x5=>Af .u64 x4 fun x6=>Ac x5<|some (Ay.mk [.sc (.int .u64 x6)] [])) (Ae C0 Tryz.prog fu d):=by kernel_rfl
abbrev Si:FuncId:=79
theorem Ads (fu d:Nat)(a0 a1:Int)(a2n:Nat)(a2:List PV):Ae C0 Tryz.prog fu (d+1) Si [.sc (.int .u64 a0),.sc (.int .i64 a1),.lst false 1 a2n a2]=(fun (call:Am)=>Aa (IntKind.wrap .u64 a1) fun x1=>Aa (IntKind.wrap .u64 (1+x1)) fun x2=>Ag (call 74 [.sc (.int .u64 a0),.sc (.int .u64 x2),.lst false 1 a2n a2]) fun x3 x4=>Ac x4<|Ab x3 fun x5 x6=>Af .u64 x5 fun x7=>Ac x6<|some (Ay.mk [.sc (.int .u64 x7)] [])) (Ae C0 Tryz.prog fu d):=by kernel_rfl
abbrev D6:FuncId:=38
noncomputable def Fi (fu:Nat)(call:Am)(a0n:Nat)(a0:List PV)(nn y0:Nat)(y1:List PV)(y2:Nat)(y3:Int)(y4:List PV):Option Ay:=Db C0 Tryz.prog fu call 38 Tryz.f38 (Ch Tryz.f38) [.lst false 1 a0n a0] [.r,.r,.l,.r,.l] nn ⟨lk [(0,(.lst false 1 y0 y1)),(3,(.view 3 1 0 y2)),(4,(.sc (.int .i64 y3)))],Gn [(3,(.ar false y4))]⟩
noncomputable def Gk (fu:Nat)(call:Am)(a0n:Nat)(a0:List PV)(m0 nn y0:Nat)(y1:List PV)(y2:Nat)(y3 y4:Int)(y5:List PV):Option Ay:=Db C0 Tryz.prog fu call 38 Tryz.f38 (Ch Tryz.f38) [.lst false 1 a0n a0] [.r,.r,.l,.r,.l,.i m0,.r,.l,.l,.r,.l] nn ⟨lk [(0,(.lst false 1 y0 y1)),(3,(.view 3 1 0 y2)),(4,(.sc (.int .i64 y3))),(5,(.sc (.int .i64 y4)))],Gn [(3,(.ar false y5))]⟩
theorem Ln (fu:Nat)(call:Am)(a0n:Nat)(a0:List PV)(nn y0:Nat)(y1:List PV)(y2:Nat)(y3:Int)(y4:List PV):Fi fu call a0n a0 (nn+1) y0 y1 y2 y3 y4=(A4 (decide (y3<(↑y0:Int))) (Gk fu call a0n a0 nn (fu) (y0) (y1) (y2) (y3) 7 (y4)) (Aq (decide (y2*1<=List.length y4))<|some (Ay.mk [.own 1 y2 (List.take (y2*1) y4)] []))):=by kernel_rfl
theorem Ll (fu:Nat)(call:Am)(a0n:Nat)(a0:List PV)(m0 nn y0:Nat)(y1:List PV)(y2:Nat)(y3 y4:Int)(y5:List PV):Gk fu call a0n a0 m0 (nn+1) y0 y1 y2 y3 y4 y5=(A4 (decide (y4>=0)) (Aq (decide (0<=y3)&&decide (y3<(↑y0:Int)))<|Af .u64 (List.getD y1 (Int.toNat y3*1) .top) fun x1=>Aa (IntKind.wrap .i64 (8*y4)) fun x2=>Aa (IntKind.wrap .u64 x2) fun x3=>Aq (decide (0<=x3))<|Aa (Eg .u64 x1 x3) fun x4=>Aa (IntKind.wrap .u8 x4) fun x5=>Aq (decide (y2*1<=List.length y5)&&true&&decide ((y2+1)*1<=1099511627776)&&decide (y2+1<=1099511627776))<|Aa (y2+1) fun x6=>Aa (List.take (y2*1) y5++[.sc (.int .u8 x5)]) fun x7=>Aa (IntKind.wrap .i64 (y4-1)) fun x8=>Gk fu call a0n a0 m0 (nn) (y0) (y1) x6 (y3) x8 x7) (Aa (IntKind.wrap .i64 (y3+1)) fun x9=>Fi fu call a0n a0 (m0) (y0) (y1) (y2) x9 (y5))):=by kernel_rfl
theorem Z3 (fu d a0n:Nat)(a0:List PV):Ae C0 Tryz.prog fu (d+1) D6 [.lst false 1 a0n a0]=(fun (call:Am)=>Fi fu call a0n a0 (fu) (a0n) (a0) 0 0 ([])) (Ae C0 Tryz.prog fu d):=by kernel_rfl
abbrev Q2:FuncId:=53
noncomputable def G3 (fu:Nat)(call:Am)(a0n:Nat)(a0:List PV)(nn y0:Nat)(y1:List PV)(y2 y3:Int):Option Ay:=Db C0 Tryz.prog fu call 53 Tryz.f53 (Ch Tryz.f53) [.lst false 1 a0n a0] [.r,.r,.l,.r,.l] nn ⟨lk [(0,(.lst false 1 y0 y1)),(3,(.sc (.int .u64 y2))),(4,(.sc (.int .i64 y3)))],Gn []⟩
theorem Mm (fu:Nat)(call:Am)(a0n:Nat)(a0:List PV)(nn y0:Nat)(y1:List PV)(y2 y3:Int):G3 fu call a0n a0 (nn+1) y0 y1 y2 y3=(A4 (decide (y3<8)) (A4 (decide (y3<(↑y0:Int))) (Aa (Fb .u64 y2 8) fun x1=>Aq (decide (0<=y3)&&decide (y3<(↑y0:Int)))<|Af .u8 (List.getD y1 (Int.toNat y3*1) .top) fun x2=>Aa (IntKind.wrap .u64 x2) fun x3=>Aa (Y9 .u64 x1 x3) fun x4=>Aa (IntKind.wrap .i64 (y3+1)) fun x5=>G3 fu call a0n a0 (nn) (y0) (y1) x4 x5) (some (Ay.mk [.sc (.int .u64 y2)] []))) (some (Ay.mk [.sc (.int .u64 y2)] []))):=by kernel_rfl
theorem Aa5 (fu d a0n:Nat)(a0:List PV):Ae C0 Tryz.prog fu (d+1) Q2 [.lst false 1 a0n a0]=(fun (call:Am)=>G3 fu call a0n a0 (fu) (a0n) (a0) 0 0) (Ae C0 Tryz.prog fu d):=by kernel_rfl
end
section
def rot (x k:Int):Int:=Y9 .u64 (Fb .u64 x k) (Eg .u64 x (64-k))
structure W4 where
 a:Int
 b:Int
 c:Int
 d:Int
def W4.cells (v:W4):List PV:=[.sc (.int .u64 v.a),.sc (.int .u64 v.b),.sc (.int .u64 v.c),.sc (.int .u64 v.d)]
def Bbk (v:W4):W4:=⟨rot (IntKind.wrap .u64 (v.a+v.b)) 32,Em .u64 (rot v.b 13) (IntKind.wrap .u64 (v.a+v.b)),IntKind.wrap .u64 (v.c+v.d),Em .u64 (rot v.d 16) (IntKind.wrap .u64 (v.c+v.d))⟩
def Ba2 (v:W4):W4:=⟨IntKind.wrap .u64 (v.a+v.d),Em .u64 (rot v.b 17) (IntKind.wrap .u64 (v.c+v.b)),rot (IntKind.wrap .u64 (v.c+v.b)) 32,Em .u64 (rot v.d 21) (IntKind.wrap .u64 (v.a+v.d))⟩
def rnd (v:W4):W4:=Ba2 (Bbk v)
def As4:Nat->W4->W4
 |0,v=>v
 |n+1,v=>As4 n (rnd v)
def A99 (r:W4)(m:Int):W4:=⟨Em .u64 r.a m,r.b,r.c,r.d⟩
def Uj (v:W4)(m:Int):W4:=A99 (As4 2 ⟨v.a,v.b,v.c,Em .u64 v.d m⟩) m
def Tc:List Int->Int
 |[]=>0
 |b::r=>b+256*Tc r
def Alt:Nat->W4->List Int->W4
 |0,v,_=>v
 |n+1,v,l=>Alt n (Uj v (Tc (l.take 8))) (l.drop 8)
def A8h (k0 k1:Int):W4:=⟨Em .u64 k0 8317987319222330741,Em .u64 k1 7237128888997146477,Em .u64 k0 7816392313619706465,Em .u64 k1 8387220255154660723⟩
def Axu (v:W4):W4:=As4 4 ⟨v.a,v.b,Em .u64 v.c 255,v.d⟩
def Ayr (v:W4):Int:=Em .u64 (Em .u64 (Em .u64 v.a v.b) v.c) v.d
def Oo (l:List Int):Int:=Tc (l.drop (8*(l.length / 8)))+72057594037927936*((l.length:Int) % 256)
def A5a (k0 k1:Int)(l:List Int):Int:=Ayr (Axu (Uj (Alt (l.length / 8) (A8h k0 k1) l) (Oo l)))
def D8 (dom:Int)(l:List Int):Int:=A5a (IntKind.wrap .u64 dom) 0 l
def A4a (key dom:Int)(l:List Int):Int:=A5a key (IntKind.wrap .u64 (1+IntKind.wrap .u64 dom)) l
def Hf (l:List Int):Prop:=∀b∈l,0<=b∧b<=255
theorem Uy:∀{l:List Int},Hf l->0<=Tc l∧Tc l<256 ^ l.length
 |[],_=>by simp [Tc]
 |b::r,h=>by
  have h1:=h b (by simp)
  have h2:=Uy (l:=r) fun x hx=>h x (by simp [hx])
  have h3:(256:Int) ^ (b::r).length=256 ^ r.length*256:=by rw [Iw,Int.pow_succ]
  simp only [Tc];omega
theorem Abo:∀(l r:List Int),Tc (l++r)=Tc l+256 ^ l.length*Tc r
 |[],r=>by simp [Tc]
 |b::l,r=>by
  have ih:=Abo l r;simp only [List.cons_append,Tc,Iw,Int.pow_succ];rw [ih,Int.mul_add];have:(256:Int)*(256 ^ l.length*Tc r)=256 ^ l.length*256*Tc r:=by rw [←Int.mul_assoc,Int.mul_comm 256]
  omega
theorem Aoe {a c:Int}(k b:Nat)(h0:0<=a)(h1:a<((2 ^ k:Nat):Int)) (hc:c=((b*2 ^ k:Nat):Int)) (h:a+c<=18446744073709551615):Y9 .u64 a c=a+c∧Y9 .u64 c a=a+c:=by
 obtain ⟨n,rfl⟩:=Int.eq_ofNat_of_zero_le h0;subst hc;have hn:n<2 ^ k:=by omega
 generalize hB:b*2 ^ k=m at h
 have e4:(BitVec.ofInt 64 (n:Int)).toNat=n:=by
  rw [BitVec.toNat_ofInt];omega
 have e5:(BitVec.ofInt 64 (m:Int)).toNat=m:=by
  rw [BitVec.toNat_ofInt];omega
 have e6:m ||| n=m+n:=by
  have:=Nat.shiftLeft_add_eq_or_of_lt hn b;rw [Nat.shiftLeft_eq,hB] at this;exact this.symm
 constructor
 ·show IntKind.wrap .u64 ((BitVec.ofInt 64 (n:Int) ||| BitVec.ofInt 64 (m:Int)).toNat:Int)=_;rw [BitVec.toNat_or,e4,e5,Nat.or_comm,e6,B6 (by omega) (by omega)]
  omega
 ·show IntKind.wrap .u64 ((BitVec.ofInt 64 (m:Int) ||| BitVec.ofInt 64 (n:Int)).toNat:Int)=_;rw [BitVec.toNat_or,e4,e5,e6,B6 (by omega) (by omega)]
  omega
theorem Avj {a k:Int}(h0:0<=a)(hk:0<=k)(hk':k<=64)(h:a*((2 ^ k.toNat:Nat):Int)<=18446744073709551615):Fb .u64 a k=a*((2 ^ k.toNat:Nat):Int):=by
 show IntKind.wrap .u64 (a*2 ^ (min k.toNat IntKind.u64.bits))=_;have e:min k.toNat IntKind.u64.bits=k.toNat:=Nat.min_eq_left (by show k.toNat<=64;omega)
 have e2:(2:Int) ^ k.toNat=((2 ^ k.toNat:Nat):Int):=by simp
 rw [e,e2,B6 (Int.mul_nonneg h0 (Int.natCast_nonneg _)) h]
end
end Go.Proofs.YtgfgmbpmghgbkaaGreatDoor.Pv
