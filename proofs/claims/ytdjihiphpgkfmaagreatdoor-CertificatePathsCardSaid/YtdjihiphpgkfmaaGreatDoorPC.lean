/-
  The proof of CertificatePaths, part 3.
-/
import Derived.Test.YtdjihiphpgkfmaaGreatDoorPB
import Derived.StillTail
import Derived.WalkKit
import Derived.ProofKit
import Derived.OpenShut
import Derived.ShutString
import Derived.ChangeOld
import Derived.Below
import Derived.Deep.Slices
import Derived.ChangeSame
import Derived.WideKeyArgs
import Derived.Carry
import Derived.Test.YtdjihiphpgkfmaaGreatDoorRows
set_option linter.unusedSimpArgs false
set_option linter.unusedVariables false
namespace Go.Proofs.YtdjihiphpgkfmaaGreatDoor.Pv
section
section
variable {R R':Type} {Rel:Option R->Option R'->Prop}
theorem I0 (hn:Rel none none){k:IntKind}{p:PV}{K:Int->Option R}{K':Int->Option R'}(hK:∀n,Rel (K n) (K' n)):Rel (Ad k p K) (Ad k p K'):=by
 unfold Ad;split
 ·split<;>first|exact hK _|exact hn
 ·exact hn
theorem Eg (hn:Rel none none){p:PV}{K:IntKind->Int->Option R}{K':IntKind->Int->Option R'}(hK:∀k n,Rel (K k n) (K' k n)):Rel (Dw p K) (Dw p K'):=by
 unfold Dw;split<;>first|exact hK _ _|exact hn
theorem Hp (hn:Rel none none){p:PV}{K:Bool->Option R}{K':Bool->Option R'}(hK:∀n,Rel (K n) (K' n)):Rel (Bj p K) (Bj p K'):=by
 unfold Bj;split<;>first|exact hK _|exact hn
theorem G8 (hn:Rel none none){p:PV}{K:ByteArray->Option R}{K':ByteArray->Option R'}(hK:∀n,Rel (K n) (K' n)):Rel (Cj p K) (Cj p K'):=by
 unfold Cj;split<;>first|exact hK _|exact hn
theorem Gs (hn:Rel none none){es:Nat}{p:PV}{K:Bool->Nat->List PV->Option R}{K':Bool->Nat->List PV->Option R'}(hK:∀z n c,Rel (K z n c) (K' z n c)):Rel (Fk es p K) (Fk es p K'):=by
 unfold Fk;split
 ·rename_i es' _ _;cases Nat.beq es' es
  ·exact hn
  ·exact hK _ _ _
 ·exact hK _ _ _
 ·exact hn
theorem Ak7 (hn:Rel none none){es:Nat}{p:PV}{K:PV->Option R}{K':PV->Option R'}(hK:∀p,Rel (K p) (K' p)):Rel (fsK es p K) (fsK es p K'):=by
 unfold fsK;split
 ·rename_i es' _ _;cases Nat.beq es' es
  ·exact hn
  ·exact hK _
 ·exact Gs hn fun _ _ _=>hK _
theorem Acu (hn:Rel none none){es:Nat}{p:PV}{K:Nat->List PV->Option R}{K':Nat->List PV->Option R'}(hK:∀n c,Rel (K n c) (K' n c)):Rel (Es es p K) (Es es p K'):=by
 unfold Es;split
 ·rename_i es' _ _;cases Nat.beq es' es
  ·exact hn
  ·exact hK _ _
 ·exact hn
theorem Ba (hn:Rel none none){b:Bool}{K:Option R}{K':Option R'}(hK:b=true->Rel K K'):Rel (Au b K) (Au b K'):=by
 cases b
 ·exact hn
 ·exact hK rfl
theorem IY {b:Bool}{x y:Option R}{x' y':Option R'}(hx:Rel x x')(hy:Rel y y'):Rel (A9 b x y) (A9 b x' y'):=by
 cases b
 ·exact hy
 ·exact hx
theorem D2 (hn:Rel none none){α:Type}{o:Option α}{K:α->Option R}{K':α->Option R'}(hK:∀a,o=some a->Rel (K a) (K' a)):Rel (E5 o K) (E5 o K'):=by
 cases o
 ·exact hn
 ·exact hK _ rfl
theorem Bl (hn:Rel none none){α:Type}{l:List α}{K:α->List α->Option R}{K':α->List α->Option R'}(hK:∀a r,l=a::r->Rel (K a r) (K' a r)):Rel (Ab l K) (Ab l K'):=by
 cases l
 ·exact hn
 ·exact hK _ _ rfl
theorem Fw (hn:Rel none none){α:Type}{l:List α}{K:Option R}{K':Option R'}(hK:Rel K K'):Rel (Ac l K) (Ac l K'):=by
 cases l
 ·exact hK
 ·exact hn
theorem J9 (hn:Rel none none){p:PV}{K:List PV->Option R}{K':List PV->Option R'}(hK:∀c,p=.agg c->Rel (K c) (K' c)):Rel (C4 p K) (C4 p K'):=by
 unfold C4;split
 ·exact hK _ rfl
 ·exact hn
theorem Agg (hn:Rel none none){p:PV}{K:List PV->Option R}{K':List PV->Option R'}(hK:∀c,Rel (K c) (K' c)):Rel (Y9 p K) (Y9 p K'):=by
 unfold Y9;split
 ·exact hK _
 ·exact hn
theorem QE (hn:Rel none none){r:Option A0}{K:List PV->List (List PV)->Option R} {K':List PV->List (List PV)->Option R'} (hK:∀v o,Rel (K v o) (K' v o)):Rel (Ag r K) (Ag r K'):=by
 unfold Ag;split
 ·exact hK _ _
 ·exact hn
theorem Adr (hn:Rel none none){p:PV}{K:Value->Option R}{K':Value->Option R'}(hK:∀v,Rel (K v) (K' v)):Rel (fnK p K) (fnK p K'):=by
 unfold fnK;split
 ·exact hK _
 ·exact hn
theorem Als (hn:Rel none none){p:PV}{K:FuncId->Option R}{K':FuncId->Option R'}(hK:∀v,Rel (K v) (K' v)):Rel (fvK p K) (fvK p K'):=by
 unfold fvK;split
 ·rename_i f a b;cases (a.isEmpty&&b.isEmpty)
  ·exact hn
  ·exact hK _
 ·exact hn
theorem Rc (hn:Rel none none){t:CT}{p:PV}{K:PV->Option R}{K':PV->Option R'}(hK:∀p,Rel (K p) (K' p)):Rel (FK t p K) (FK t p K'):=by
 unfold FK;split
 ·exact I0 hn fun _=>hK _
 ·exact Hp hn fun _=>hK _
 ·exact G8 hn fun _=>hK _
 ·exact Gs hn fun _ _ _=>hK _
 ·exact Adr hn fun _=>hK _
theorem Alj (hn:Rel none none){t:CT}{p:PV}{K:PV->Option R}{K':PV->Option R'}(hK:∀p,Rel (K p) (K' p)):Rel (fcK t p K) (fcK t p K'):=by
 unfold fcK;split
 ·exact Ak7 hn hK
 ·exact Rc hn hK
theorem Sr (hn:Rel none none):∀{ts:List CT}{cells:List PV}{off:Nat}{K:List PV->Option R}{K':List PV->Option R'},(∀c,Rel (K c) (K' c))->Rel (Wa ts cells off K) (Wa ts cells off K')
 |[],_,_,_,_,hK=>hK _
 |_::_,_,_,_,_,hK=>Rc hn fun _=>Sr hn fun _=>hK _
theorem Pz (hn:Rel none none):∀{ts:List CT}{cells:List PV}{off:Nat}{K:List PV->Option R}{K':List PV->Option R'},(∀c,Rel (K c) (K' c))->Rel (Ry ts cells off K) (Ry ts cells off K')
 |[],_,_,_,_,hK=>hK _
 |_::_,_,_,_,_,hK=>Alj hn fun _=>Pz hn fun _=>hK _
theorem BQ (hn:Rel none none){g:Bool}{cells:List PV}{K:PV->Option R}{K':PV->Option R'}(hK:∀p,Rel (K p) (K' p)):Rel (mkV g cells K) (mkV g cells K'):=by
 cases g
 ·exact Bl hn fun _ _ _=>Fw hn (hK _)
 ·exact hK _
theorem Al7 (hn:Rel none none){P:Program}{t:TypeId}{v:Value}{K:PV->Option R}{K':PV->Option R'}(hK:∀p,Bx p=[]->Rel (K p) (K' p)) (hK':∀c,Rel (K (.agg c)) (K' (.agg c))):Rel (cvK P t v K) (cvK P t v K'):=by
 unfold cvK;split
 ·exact Ba hn fun _=>Sr hn fun _=>hK' _
 ·split
  ·exact hK _ rfl
  ·exact hn
 ·exact hK _ rfl
theorem Ajc (hn:Rel none none){op:BinOp}{x y:Int}{K:Bool->Option R}{K':Bool->Option R'}(hK:∀n,Rel (K n) (K' n)):Rel (Aky op x y K) (Aky op x y K'):=by
 unfold Aky;split<;>first|exact hK _|exact hn
theorem Ab9 (hn:Rel none none){op:BinOp}{k:IntKind}{x y:Int}{K:PV->Option R}{K':PV->Option R'}(hK:∀n,Rel (K n) (K' n)):Rel (KF op k x y K) (KF op k x y K'):=by
 unfold KF;split<;>first|exact hK _|exact Ba hn fun _=>hK _|exact Ajc hn fun _=>hK _
theorem Abl (hn:Rel none none){op:BinOp}{x y:ByteArray}{K:PV->Option R}{K':PV->Option R'}(hK:∀n,Rel (K n) (K' n)):Rel (LZ op x y K) (LZ op x y K'):=by
 unfold LZ;split<;>first|exact hK _|exact Ba hn fun _=>hK _|exact hn
theorem QI (hn:Rel none none){e:Bool}{p:PV}{K:PV->Option R}{K':PV->Option R'}(hK:∀n,Rel (K n) (K' n)):Rel (LV e p K) (LV e p K'):=by
 unfold LV;split<;>first|exact hK _|exact IY (hK _) (IY (hK _) (hK _))|exact IY (hK _) (hK _)|exact hn
theorem WB (hn:Rel none none):∀{ts:List CT}{ps qs:List PV}{K:Bool->Option R}{K':Bool->Option R'},(∀b,Rel (K b) (K' b))->Rel (KI ts ps qs K) (KI ts ps qs K'):=by
 intro ts
 induction ts with
 |nil=>
  intro ps qs K K' hK;cases ps<;>cases qs<;>first|exact hK _|exact hn
 |cons t ts ih=>
  intro ps qs K K' hK;cases ps with
  |nil=>cases t<;>cases qs<;>exact hn
  |cons p ps=>
   cases qs with
   |nil=>cases t<;>exact hn
   |cons q qs=>
    cases t
    ·exact I0 hn fun _=>I0 hn fun _=>ih fun _=>hK _
    ·exact Hp hn fun _=>Hp hn fun _=>ih fun _=>hK _
    ·exact G8 hn fun _=>G8 hn fun _=>ih fun _=>hK _
    ·exact hn
    ·exact hn
theorem Ag1 (hn:Rel none none){P:Program}{op:BinOp}{t:TypeId}{x y:PV}{K:PV->Option R}{K':PV->Option R'}(hK:∀p,Rel (K p) (K' p)):Rel (Aj9 P op t x y K) (Aj9 P op t x y K'):=by
 unfold Aj9;split
 ·split
  ·exact I0 hn fun _=>Eg hn fun _ _=>Ba hn fun _=>hK _
  ·exact I0 hn fun _=>Eg hn fun _ _=>Ba hn fun _=>hK _
  ·exact I0 hn fun _=>I0 hn fun _=>Ab9 hn hK
 ·exact G8 hn fun _=>G8 hn fun _=>Abl hn hK
 ·split
  ·exact Hp hn fun _=>Hp hn fun _=>hK _
  ·exact Hp hn fun _=>Hp hn fun _=>hK _
  ·exact hn
 ·split
  ·exact QI hn fun _=>hK _
  ·exact QI hn fun _=>hK _
  ·exact hn
 ·exact hn
theorem XU (hn:Rel none none){P:Program}{op:BinOp}{t:TypeId}{x y:PV}{K:PV->Option R}{K':PV->Option R'}(hK:∀p,Rel (K p) (K' p)):Rel (Xi P op t x y K) (Xi P op t x y K'):=by
 unfold Xi;split
 ·split
  ·exact Ba hn fun _=>J9 hn fun _ _=>J9 hn fun _ _=>WB hn fun _=>hK _
  ·exact Ba hn fun _=>J9 hn fun _ _=>J9 hn fun _ _=>WB hn fun _=>hK _
  ·exact hn
 ·exact Ag1 hn hK
theorem Akp (hn:Rel none none){op:UnOp}{x:PV}{K:PV->Option R}{K':PV->Option R'}(hK:∀p,Rel (K p) (K' p)):Rel (unK op x K) (unK op x K'):=by
 unfold unK;split<;>first|exact Hp hn fun _=>hK _|exact Eg hn fun _ _=>hK _|exact hn
theorem Ib (hn:Rel none none){p:Option PV}{d:Nat}{K:Nat->Option R}{K':Nat->Option R'}(hK:∀n,Rel (K n) (K' n)):Rel (Nv p d K) (Nv p d K'):=by
 unfold Nv;split
 ·exact hK _
 ·exact Eg hn fun _ _=>Ba hn fun _=>hK _
theorem FL (hn:Rel none none){x:PV}{d:Nat}{K:PV->Option R}{K':PV->Option R'}(hK:∀n,Rel (K n) (K' n)):Rel (V5 x d K) (V5 x d K'):=by
 unfold V5;split<;>first|exact hK _|exact hn
theorem MB (hn:Rel none none){P:Program}{t:TypeId}{x:PV}{i:Int}{K:PV->Option R}{K':PV->Option R'}(hK:∀p,Rel (K p) (K' p)):Rel (Mn P t x i K) (Mn P t x i K'):=by
 unfold Mn;split
 ·exact Ba hn fun _=>Ba hn fun _=>FL hn hK
 ·refine Ba hn fun _=>?_
  split
  ·exact Ba hn fun _=>Ba hn fun _=>hK _
  ·exact Gs hn fun _ _ _=>Ba hn fun _=>hK _
 ·exact hn
theorem EN (hn:Rel none none){Hy:Nat->Option (Nat × Nat)}:∀{ps:List (Nat × PV)} {cells:List PV}{K:List PV->Option R}{K':List PV->Option R'},(∀c,Rel (K c) (K' c))->Rel (Vr Hy ps cells K) (Vr Hy ps cells K')
 |[],_,_,_,hK=>hK _
 |(_,_)::_,_,_,_,hK=>D2 hn fun _ _=>Ba hn fun _=>EN hn hK
theorem V4 (hn:Rel none none){P:Program}{t:TypeId}{K:List PV->Option R}{K':List PV->Option R'}(hK:∀p,Rel (K p) (K' p)):Rel (Hw P t K) (Hw P t K'):=
 D2 hn fun _ _=>Ba hn fun _=>Sr hn hK
theorem Aiw (hn:Rel none none){x y:PV}{K:PV->Option R}{K':PV->Option R'}(hK:∀p,Rel (K p) (K' p)):Rel (Ami x y K) (Ami x y K'):=
 Eg hn fun _ _=>I0 hn fun _=>hK _
theorem Ah7 (hn:Rel none none){x y:PV}{K:PV->Option R}{K':PV->Option R'}(hK:∀p,Rel (K p) (K' p)):Rel (Alv x y K) (Alv x y K'):=
 Eg hn fun _ _=>I0 hn fun _=>hK _
theorem Ahq (hn:Rel none none){P:Program}{t:TypeId}{x:PV}{K:Nat->Option R}{K':Nat->Option R'}(hK:∀p,Rel (K p) (K' p)):Rel (Ae6 P t x K) (Ae6 P t x K'):=by
 unfold Ae6;split
 ·exact G8 hn fun _=>hK _
 ·exact hK _
 ·split
  ·exact Ba hn fun _=>hK _
  ·exact Gs hn fun _ _ _=>hK _
 ·exact hn
def VA (Rel:Option R->Option R'->Prop)(f f':Nat->Option (List PV)) (l:List Nat):Prop:=∀i∈l,f i=f' i∨(f i=none∧∀b,Rel none b)
variable {f f':Nat->Option (List PV)}
theorem VA.sub {l l':List Nat}(h:VA Rel f f' l)(hs:∀i∈l',i∈l):VA Rel f f' l':=fun i hi=>h i (hs i hi)
theorem BK (hn:Rel none none){l:List Nat}{id:Nat}(hf:VA Rel f f' l)(hi:id∈l){K:List PV->Option R}{K':List PV->Option R'}(hK:∀c,f id=some c->Rel (K c) (K' c)):Rel (E5 (f id) K) (E5 (f' id) K'):=by
 rcases hf id hi with h|⟨h,hb⟩
 ·rw [←h];exact D2 hn hK
 ·rw [h];exact hb _
theorem DO (hn:Rel none none){es:Nat}{p:PV}{K:Nat->List PV->Option R}{K':Nat->List PV->Option R'}(hf:VA Rel f f' (Ay p)) (hK:∀n c,Rel (K n c) (K' n c)):Rel (Abr f es p K) (Abr f' es p K'):=by
 unfold Abr;split
 ·rename_i id es' off n;cases Nat.beq es' es
  ·exact hn
  ·exact BK hn hf (by simp [Ay]) fun _ _=>Ba hn fun _=>hK _ _
 ·exact Gs hn fun _ _ _=>hK _ _
theorem Aji (hn:Rel none none){t:CT}{p:PV}{K:PV->List Nat->Option R}{K':PV->List Nat->Option R'}(hf:VA Rel f f' (Ay p)) (hK:∀c m,(∀i∈m,f i≠none)->Rel (K c m) (K' c m)):Rel (Qy f t p K) (Qy f' t p K'):=by
 unfold Qy;split
 ·split
  ·rename_i id es' off n;cases Nat.beq es' _
   ·exact hn
   ·exact BK hn hf (by simp [Ay]) fun c hc=>Ba hn fun _=>hK _ _ (by simp [hc])
  ·exact Gs hn fun _ _ _=>hK _ _ (by simp)
 ·exact Rc hn fun _=>hK _ _ (by simp)
theorem Xc (hn:Rel none none):∀{ts:List CT}{ps:List PV}{K:List PV->List Nat->Option R}{K':List PV->List Nat->Option R'},VA Rel f f' (ps.flatMap Ay)->(∀c m,(∀i∈m,f i≠none)->Rel (K c m) (K' c m))->Rel (Po f ts ps K) (Po f' ts ps K')
 |[],[],_,_,_,hK=>hK _ _ (by simp)
 |[],_::_,_,_,_,_=>hn
 |_::_,[],_,_,_,_=>hn
 |_::_,p::ps,_,_,hf,hK=>Aji hn (fun i hi=>hf i (by simp only [List.flatMap_cons,List.mem_append];exact .inl hi)) fun _ m hm=>Xc hn (fun i hi=>hf i (by simp only [List.flatMap_cons,List.mem_append];exact .inr hi)) fun _ ms hms=>hK _ _ fun i hi=>by
   rcases List.mem_append.1 hi with h|h
   ·exact hm i h
   ·exact hms i h
theorem Ajt (hn:Rel none none){P:Program}{t:TypeId}{p:PV}{K:PV->List Nat->Option R}{K':PV->List Nat->Option R'}(hf:VA Rel f f' (Cf p)) (hK:∀c m,(∀i∈m,f i≠none)->Rel (K c m) (K' c m)):Rel (Abe P f t p K) (Abe P f' t p K'):=by
 unfold Abe
 have h1:∀i,i∈[p].flatMap Ay->i∈Cf p:=by
  intro i hi;simp only [List.flatMap_cons,List.flatMap_nil,List.append_nil] at hi;cases p<;>first|exact hi|simp [Ay] at hi
 cases Cv P t
 ·exact Xc hn (fun i hi=>hf i (h1 i hi)) fun _ _ hm=>Bl hn fun _ _ _=>Fw hn (hK _ _ hm)
 ·refine J9 hn fun c hc=>?_
  subst hc;exact Xc hn (fun i hi=>hf i hi) fun _ _ hm=>hK _ _ hm
theorem PE (hn:Rel none none){P:Program}:∀{ts:List TypeId}{ps:List PV}{K:List PV->List Nat->Option R}{K':List PV->List Nat->Option R'},VA Rel f f' (ps.flatMap Cf)->(∀c m,(∀i∈m,f i≠none)->Rel (K c m) (K' c m))->Rel (KA P f ts ps K) (KA P f' ts ps K')
 |[],[],_,_,_,hK=>hK _ _ (by simp)
 |[],_::_,_,_,_,_=>hn
 |_::_,[],_,_,_,_=>hn
 |_::_,p::ps,_,_,hf,hK=>Ajt hn (fun i hi=>hf i (by simp only [List.flatMap_cons,List.mem_append];exact .inl hi)) fun _ m hm=>PE hn (fun i hi=>hf i (by simp only [List.flatMap_cons,List.mem_append];exact .inr hi)) fun _ ms hms=>hK _ _ fun i hi=>by
   rcases List.mem_append.1 hi with h|h
   ·exact hm i h
   ·exact hms i h
theorem Aa5 (hn:Rel none none){P:Program}{t:TypeId}{x:PV}{lo hi:Option PV}{K:PV->Option R}{K':PV->Option R'}(hf:(∃n e,P.underlying t=some (.array n e))->VA Rel f f' (Ay x)) (hK:∀c,Rel (K c) (K' c)):Rel (FD P f t x lo hi K) (FD P f' t x lo hi K'):=by
 unfold FD;split
 ·exact G8 hn fun _=>Ib hn fun _=>Ib hn fun _=>Ba hn fun _=>hK _
 ·refine Ba hn fun _=>?_
  split
  ·exact Ba hn fun _=>Ib hn fun _=>Ib hn fun _=>Ba hn fun _=>hK _
  ·exact Gs hn fun _ _ _=>Ib hn fun _=>Ib hn fun _=>Ba hn fun _=>hK _
 ·rename_i n e hu;refine Ba hn fun _=>?_
  split
  ·rename_i id off;exact BK hn (hf ⟨_,_,hu⟩) (by simp [Ay]) fun _ _=>Ba hn fun _=>Ib hn fun _=>Ib hn fun _=>Ba hn fun _=>hK _
  ·exact hn
 ·exact hn
theorem RA {g g':Nat->Option (List PV)} (hn:Rel none none){P:Program}{t:TypeId}{x:PV}{K:PV->Option R}{K':PV->Option R'}(hf:∀i∈Ay x,(f i=f' i∧g i=g' i)∨(f i=none∧g i=none∧∀b,Rel none b)) (hK:∀c,Rel (K c) (K' c)):Rel (DW P f g t x K) (DW P f' g' t x K'):=by
 unfold DW;split
 ·rename_i id off;refine Ba hn fun _=>?_
  rcases hf id (by simp [Ay]) with ⟨h1,h2⟩|⟨h1,h2,h3⟩
  ·rw [←h1,←h2];split
   ·exact Sr hn fun _=>BQ hn fun _=>hK _
   ·exact D2 hn fun _ _=>Pz hn fun _=>BQ hn hK
  ·rw [h1,h2];exact h3 _
 ·exact Ba hn fun _=>Sr hn fun _=>BQ hn fun _=>hK _
 ·exact hn
theorem Afl (hn:Rel none none){P:Program}{d:Nat}{src dst:TypeId}{x:PV}{K:PV->List (Nat × Bn)->Option R} {K':PV->List (Nat × Bn)->Option R'} (hf:P.underlying dst=some .string->VA Rel f f' (Ay x)) (hK:∀v b,(∀q∈b,q.1=d)->Rel (K v b) (K' v b)):Rel (NK P f d src dst x K) (NK P f' d src dst x K'):=by
 unfold NK;split
 ·exact Ba hn fun _=>Eg hn fun _ _=>hK _ _ (by simp)
 ·rename_i hds;split
  ·exact G8 hn fun _=>hK _ _ (by simp)
  ·split
   ·exact DO hn (hf hds) fun _ _=>Ba hn fun _=>D2 hn fun _ _=>hK _ _ (by simp)
   ·exact hn
  ·exact hn
 ·split
  ·exact G8 hn fun _=>Ba hn fun _=>hK _ _ (by simp)
  ·exact hn
 ·exact hn
theorem Agu (hn:Rel none none){shr:Bool}{id:Nat}{t:CT}{p:PV}{K:PV->List (Nat × Bn)->Option R} {K':PV->List (Nat × Bn)->Option R'} (hK:∀c b,(∀q∈b,q.1=id)->Rel (K c b) (K' c b)):Rel (Ag9 shr id t p K) (Ag9 shr id t p K'):=by
 unfold Ag9;split
 ·cases shr
  ·exact Acu hn fun _ _=>hK _ _ (by simp)
  ·exact Gs hn fun _ _ _=>hK _ _ (by simp)
 ·exact Rc hn fun _=>hK _ _ (by simp)
theorem Xm (hn:Rel none none){shr:Bool}{N:Nat}:∀{ts:List CT}{id:Nat}{ps:List PV}{K:List PV->List (Nat × Bn)->Option R} {K':List PV->List (Nat × Bn)->Option R'},(∀c b,(∀q∈b,∃j,q.1=id+N*j)->Rel (K c b) (K' c b))->Rel (Ss shr N id ts ps K) (Ss shr N id ts ps K')
 |[],_,_,_,_,hK=>Fw hn (hK _ _ (by simp))
 |_::_,id,_,_,_,hK=>Bl hn fun _ _ _=>Agu hn fun _ b hb=>Xm hn fun _ bs hbs=>hK _ _ fun q hq=>by
   rcases List.mem_append.1 hq with h|h
   ·exact ⟨0,by rw [hb q h];simp⟩
   ·obtain ⟨j,hj⟩:=hbs q h;exact ⟨j+1,by rw [hj,Nat.mul_add];omega⟩
theorem Ajg (hn:Rel none none){P:Program}{shr:Bool}{N id:Nat}{t:TypeId}{p:PV}{K:PV->List (Nat × Bn)->Option R} {K':PV->List (Nat × Bn)->Option R'} (hK:∀c b,(∀q∈b,∃j,q.1=id+N*j)->Rel (K c b) (K' c b)):Rel (Agc P shr N id t p K) (Agc P shr N id t p K'):=by
 unfold Agc;split
 ·refine Agg hn fun ps=>Xm hn fun _ _ hb=>hK _ _ fun q hq=>?_
  rcases List.mem_cons.1 hq with rfl|hq
  ·exact ⟨0,by simp⟩
  ·obtain ⟨j,hj⟩:=hb q hq;exact ⟨j+1,by rw [hj,Nat.mul_add];omega⟩
 cases Cv P t
 ·exact Xm hn fun _ _ hb=>Bl hn fun _ _ _=>Fw hn (hK _ _ hb)
 ·exact J9 hn fun _ _=>Xm hn fun _ _ hb=>hK _ _ hb
theorem FJ (hn:Rel none none){P:Program}{shr:Bool}{N:Nat}:∀{ts:List TypeId}{id:Nat}{ps:List PV}{K:List PV->List (Nat × Bn)->Option R} {K':List PV->List (Nat × Bn)->Option R'},(∀c b,(∀q∈b,∃j,q.1=id+N*j)->Rel (K c b) (K' c b))->Rel (HB P shr N id ts ps K) (HB P shr N id ts ps K')
 |[],_,_,_,_,hK=>Fw hn (hK _ _ (by simp))
 |t::_,id,_,_,_,hK=>Bl hn fun _ _ _=>Ajg hn fun _ b hb=>FJ hn fun _ bs hbs=>hK _ _ fun q hq=>by
   rcases List.mem_append.1 hq with h|h
   ·exact hb q h
   ·obtain ⟨j,hj⟩:=hbs q h;exact ⟨XT P t+j,by rw [hj,Nat.mul_add];omega⟩
end
theorem V1 {p:PV}{i:Nat}(h:i∈Ay p):i∈Cf p:=by cases p<;>first|exact h|simp [Ay] at h
theorem Gh {p:PV}{i:Nat}(h:i∈Cf p):i∈Bx p:=by cases p<;>first|exact h|simp [Cf,Ay] at h
theorem L7 {p:PV}{i:Nat}(h:i∈Ay p):i∈Bx p:=Gh (V1 h)
section
variable {R R':Type} {Rel:Option R->Option R'->Prop} {P:Program} {N:Nat} {tm tm':Nat->PV} {f f' g g':Nat->Option (List PV)} {o:Oper}
theorem NI (hn:Rel none none){t:TypeId}{x:Operand}{K:PV->Option R}{K':PV->Option R'}(hx:Cm tm x=Cm tm' x)(hK:∀p,Rel (K p) (K' p)):Rel (EW P t tm x K) (EW P t tm' x K'):=by
 unfold EW;split
 ·exact Al7 hn (fun _ _=>hK _) (fun _=>hK _)
 ·rw [hx];exact hK _
theorem Ajf (hn:Rel none none){t:CT}{p:PV}{K:PV->Option R}{K':PV->Option R'}(hK:∀p,Ay p=[]->Rel (K p) (K' p)):Rel (FK t p K) (FK t p K'):=by
 unfold FK;split
 ·exact I0 hn fun _=>hK _ rfl
 ·exact Hp hn fun _=>hK _ rfl
 ·exact G8 hn fun _=>hK _ rfl
 ·exact Gs hn fun _ _ _=>hK _ rfl
 ·exact Adr hn fun _=>hK _ rfl
theorem QA (hn:Rel none none):∀{ts:List CT}{cells:List PV}{off:Nat}{K:List PV->Option R}{K':List PV->Option R'},(∀c,(∀p∈c,Ay p=[])->Rel (K c) (K' c))->Rel (Wa ts cells off K) (Wa ts cells off K')
 |[],_,_,_,_,hK=>hK _ (by simp)
 |_::_,_,_,_,_,hK=>Ajf hn fun c hc=>QA hn fun cs hcs=>hK _ (by
   intro p hp;rcases List.mem_cons.1 hp with h|h
   ·rw [h];exact hc
   ·exact hcs p h)
theorem ED (hn:Rel none none){t:TypeId}{K:List PV->Option R}{K':List PV->Option R'}(hK:∀c,(∀p∈c,Ay p=[])->Rel (K c) (K' c)):Rel (Hw P t K) (Hw P t K'):=
 D2 hn fun _ _=>Ba hn fun _=>QA hn hK
theorem Wf {p c:PV}(h:c∈cellsOf p){i:Nat}(hi:i∈Ay c):i∈Cf p:=by
 unfold cellsOf at h;split at h
 ·exact List.mem_flatMap.2 ⟨c,h,hi⟩
 ·simp at h;subst h;exact V1 hi
theorem Abq {cells new:List PV}{off:Nat}{c:PV}(h:c∈Bd cells new off):c∈cells∨c∈new:=by
 unfold Bd at h;rcases List.mem_append.1 h with h|h
 ·rcases List.mem_append.1 h with h|h
  ·exact .inl (List.mem_of_mem_take h)
  ·exact .inr h
 ·exact .inl (List.mem_of_mem_drop h)
theorem KE (hn:Rel none none){Hy:Nat->Option (Nat × Nat)} {S:Nat->Prop}:∀{ps:List (Nat × PV)} {cells:List PV}{K:List PV->Option R}{K':List PV->Option R'},(∀c∈cells,∀i∈Ay c,S i)->(∀q∈ps,∀i∈Cf q.2,S i) ->
  (∀cs,(∀c∈cs,∀i∈Ay c,S i)->Rel (K cs) (K' cs))->Rel (Vr Hy ps cells K) (Vr Hy ps cells K')
 |[],_,_,_,h1,_,hK=>hK _ h1
 |(_,p)::_,_,_,_,h1,h2,hK=>D2 hn fun _ _=>Ba hn fun _=>KE hn (fun c hc i hi=>by
   rcases Abq hc with h|h
   ·exact h1 c h i hi
   ·exact h2 (_,p) List.mem_cons_self i (Wf h hi)) (fun q hq=>h2 q (List.mem_cons_of_mem _ hq)) hK
theorem HH (hn:Rel none none):∀{ts:List CT}{ps:List PV}{K:List PV->List Nat->Option R}{K':List PV->List Nat->Option R'},(∀t∈ts,∀es,t ≠ .sl es)->(∀c,Rel (K c []) (K' c []))->Rel (Po g ts ps K) (Po g' ts ps K')
 |[],[],_,_,_,hK=>hK _
 |[],_::_,_,_,_,_=>hn
 |_::_,[],_,_,_,_=>hn
 |t::ts,p::ps,K,K',ht,hK=>by
  show Rel (Qy g t p _) (Qy g' t p _)
  have:∀{g:Nat->Option (List PV)} {S:Type} {L:PV->List Nat->Option S},Qy g t p L=FK t p fun c=>L c []:=by
   intro g S L;cases t with
   |sl es=>exact absurd rfl (ht _ (by simp) es)
   |_=>rfl
  rw [this,this];exact Rc hn fun c=>HH hn (fun t h=>ht t (by simp [h])) fun cs=>hK _
theorem Ahe (hn:Rel none none){es:Nat}{t:TypeId}{x:PV}{K:Nat->List PV->Option R}{K':Nat->List PV->Option R'}(hx:VA Rel g g' (Ay x)) (hK:∀m c,Rel (K m c) (K' m c)):Rel (Abm P g es t x K) (Abm P g' es t x K'):=by
 unfold Abm;split
 ·exact Ba hn fun _=>G8 hn fun _=>hK _ _
 ·exact DO hn hx hK
 ·exact hn
theorem Ajl (hn:Rel none none){t:TypeId}{x:PV}{K:Nat->Option R}{K':Nat->Option R'}(hK:∀n,Rel (K n) (K' n)):Rel (Aeb P t x K) (Aeb P t x K'):=by
 unfold Aeb;split
 ·exact Gs hn fun _ _ _=>Ba hn fun _=>hK _
 ·exact hn
theorem XE (hn:Rel none none){d:Nat}{t tx:TypeId}{x:PV}{K:PV->List (Nat × Bn)->Option R} {K':PV->List (Nat × Bn)->Option R'} (hx:VA Rel g g' (Ay x)) (hK:∀v nw,Rel (K v nw) (K' v nw)):Rel (Xp P g d t tx x K) (Xp P g' d t tx x K'):=by
 unfold Xp;split
 ·exact Ba hn fun _=>Ahe hn hx fun _ _=>Ba hn fun _=>hK _ _
 ·exact hn
theorem JZ (hn:Rel none none){C:Hs}{call:Ah}{K:PV->List Nat->List (Nat × Bn)->Option R} {K':PV->List Nat->List (Nat × Bn)->Option R'}
  (htm:∀x∈o.op.operands.toList,Cm tm x=Cm tm' x)
  (hfg:Ij P o.op=true->∀x∈o.op.operands.toList,∀i∈Bx (Cm tm' x),(f i=f' i∧g i=g' i)∨(f i=none∧g i=none∧∀b,Rel none b))
  (hK:∀v fz nw,(Ij P o.op=false->fz=[]∧∀q∈nw,o.dst=some q.1)->(∀i∈fz,g i≠none)->Rel (K v fz nw) (K' v fz nw)):
  Rel (MH C P N call tm f g o K) (MH C P N call tm' f' g' o K'):=by
 have h0:∀v,Rel (K v [] []) (K' v [] []):=fun v=>hK v [] [] (fun _=>⟨rfl,by simp⟩) (by simp)
 have hf:Ij P o.op=true->∀x∈o.op.operands.toList,VA Rel f f' (Bx (Cm tm' x)):=fun h x hx i hi=>(hfg h x hx i hi).imp (·.1) fun h=>⟨h.1,h.2.2⟩
 have hg:Ij P o.op=true->∀x∈o.op.operands.toList,VA Rel g g' (Bx (Cm tm' x)):=fun h x hx i hi=>(hfg h x hx i hi).imp (·.2) fun h=>⟨h.2.1,h.2.2⟩
 unfold MH;generalize hop:o.op=op at *
 split
 ·exact NI hn (htm _ (by simp [Op.operands])) h0
 ·exact NI hn (htm _ (by simp [Op.operands])) h0
 ·rename_i c x y;rw [htm c (by simp [Op.operands]),htm x (by simp [Op.operands]),htm y (by simp [Op.operands])]
  exact Hp hn fun _=>IY (h0 _) (h0 _)
 ·exact D2 hn fun d hd=>V4 hn fun _=>hK _ _ _ (fun _=>⟨rfl,by simp [hd]⟩) (by simp)
 ·rename_i t x;rw [htm x (by simp [Op.operands])]
  refine D2 hn fun d hd=>Ba hn fun _=>?_
  cases V7 P t
  ·exact Pz hn fun _=>hK _ _ _ (fun _=>⟨rfl,by simp [hd]⟩) (by simp)
  ·exact Sr hn fun _=>hK _ _ _ (fun _=>⟨rfl,by simp [hd]⟩) (by simp)
 ·rename_i t ps
  have:(ps.toList.map fun q=>(q.1,Cm tm q.2))=ps.toList.map fun q=>(q.1,Cm tm' q.2):=by
   apply List.map_congr_left;intro q hq;rw [htm q.2 (by simp only [Op.operands];exact List.mem_map_of_mem hq)]
  rw [this];exact Ba hn fun _=>V4 hn fun _=>EN hn fun _=>Pz hn fun _=>h0 _
 ·rename_i t n ps
  have:(ps.toList.map fun q=>(q.1,Cm tm q.2))=ps.toList.map fun q=>(q.1,Cm tm' q.2):=by
   apply List.map_congr_left;intro q hq;rw [htm q.2 (by simp only [Op.operands];exact List.mem_map_of_mem hq)]
  rw [this];refine D2 hn fun d hd=>?_
  split
  ·rename_i e hu;cases hsl:Kt P [e]
   ·refine Ba hn fun _=>ED hn fun z hz=>EN hn fun cs=>HH hn ?_ fun cs'=>hK _ _ _ (fun _=>⟨rfl,by simp [hd]⟩) (by simp)
    intro c hc es he;obtain ⟨l,hl,hc⟩:=List.mem_flatten.1 hc;rw [List.eq_of_mem_replicate hl] at hc;subst he
    have:Kt P [e]=true:=by
     unfold Kt;simp only [List.any_cons,List.any_nil,Bool.or_false,Bool.or_eq_true];exact .inr (List.any_eq_true.2 ⟨_,hc,rfl⟩)
    rw [this] at hsl;cases hsl
   refine Ba hn fun _=>ED hn fun z hz=>KE (S:=fun i=>∃x∈(Op.buildSlice t n ps).operands.toList,i∈Bx (Cm tm' x)) hn ?_ ?_ fun cs hcs=>?_
   ·intro c hc i hi;obtain ⟨l,hl,hc⟩:=List.mem_flatten.1 hc;rw [List.eq_of_mem_replicate hl] at hc;rw [hz c hc] at hi;simp at hi
   ·intro q hq i hi;obtain ⟨q',hq',rfl⟩:=List.mem_map.1 hq;exact ⟨q'.2,by simp only [Op.operands];exact List.mem_map_of_mem hq',Gh hi⟩
   ·refine Xc hn (fun i hi=>?_) fun cs' m hm=>hK _ _ _ (fun h=>by simp [Ij,hu,hsl] at h) hm
    obtain ⟨c,hc,hi⟩:=List.mem_flatMap.1 hi;obtain ⟨x,hx,hxi⟩:=hcs c hc i hi;exact hg (by simp [Ij,hu,hsl]) x hx i hxi
  ·exact hn
 ·rename_i t x;rw [htm x (by simp [Op.operands])]
  exact RA hn (fun i hi=>hfg (by simp [Ij]) x (by simp [Op.operands]) i (L7 hi)) h0
 ·rename_i x;rw [htm x (by simp [Op.operands])]
  exact FL hn h0
 ·rename_i op' t x y _;rw [htm x (by simp [Op.operands]),htm y (by simp [Op.operands])]
  exact XU hn h0
 ·rename_i op' t x;rw [htm x (by simp [Op.operands])]
  exact Akp hn h0
 ·rename_i src dst x;rw [htm x (by simp [Op.operands])]
  exact Afl hn (fun hds i hi=>hg (by simp [Ij,hds]) x (by simp [Op.operands]) i (L7 hi)) fun v b hb=>D2 hn fun d hd=>hK _ _ _ (fun _=>⟨rfl,fun q hq=>by rw [hd,hb q hq,hd];rfl⟩) (by simp)
 ·rename_i t x y;rw [htm x (by simp [Op.operands]),htm y (by simp [Op.operands])]
  refine D2 hn fun d hd=>?_
  split
  ·exact Eg hn fun _ _=>Eg hn fun _ _=>Ba hn fun _=>V4 hn fun _=>hK _ _ _ (fun _=>⟨rfl,by simp [hd]⟩) (by simp)
  ·exact hn
 ·rename_i t x lo hi mx;split
  ·rw [htm x (by simp [Op.operands])]
   have h1:lo.map (Cm tm)=lo.map (Cm tm'):=by
    cases lo with
    |none=>rfl
    |some y=>simp only [Option.map_some];rw [htm y (by simp [Op.operands])]
   have h2:hi.map (Cm tm)=hi.map (Cm tm'):=by
    cases hi with
    |none=>rfl
    |some y=>simp only [Option.map_some];rw [htm y (by simp [Op.operands])]
   rw [h1,h2];exact Aa5 hn (fun ⟨n,e,he⟩ i hi=>hf (by simp [Ij,he]) x (by simp [Op.operands]) i (L7 hi)) h0
  ·exact hn
 ·rename_i t x fl;rw [htm x (by simp [Op.operands])]
  exact D2 hn fun _ _=>Ba hn fun _=>FL hn h0
 ·rename_i t x fl;rw [htm x (by simp [Op.operands])]
  exact D2 hn fun _ _=>Ba hn fun _=>J9 hn fun _ _=>Pz hn fun _=>BQ hn h0
 ·rename_i t x i;rw [htm x (by simp [Op.operands]),htm i (by simp [Op.operands])]
  exact Eg hn fun _ _=>MB hn h0
 ·rename_i t x i;rw [htm x (by simp [Op.operands]),htm i (by simp [Op.operands])]
  refine Eg hn fun _ _=>?_
  split
  ·exact G8 hn fun _=>Ba hn fun _=>D2 hn fun _ _=>h0 _
  ·exact J9 hn fun _ _=>Ba hn fun _=>Pz hn fun _=>BQ hn h0
  ·exact hn
 ·rename_i x i;rw [htm x (by simp [Op.operands])]
  split
  ·exact D2 hn fun _ _=>h0 _
  ·exact hn
 ·rename_i c
  have hmem:∀x∈c.args.toList,x∈(Op.call c).operands.toList:=by
   intro x hx;simp only [Op.operands,Call.operands,Array.toList_append,List.mem_append];exact .inr hx
  have rc:∀fn,Ij P (.call c)=true->Rel (ME C P N call tm g o c fn K) (ME C P N call tm' g' o c fn K'):=by
   intro fn hmm;unfold ME;have:c.args.toList.map (Cm tm)=c.args.toList.map (Cm tm'):=List.map_congr_left fun x hx=>htm x (hmem x hx)
   rw [this];refine PE hn (fun i hi=>?_) fun vs m hm=>QE hn fun rv ro=>Fw hn (Ba hn fun _=>FJ hn fun ws bs hbs=>Ba hn fun _=>hK _ _ _ (fun h=>by rw [hmm] at h;cases h) (fun i hi=>?_))
   ·obtain ⟨p,hp,hi⟩:=List.mem_flatMap.1 hi;obtain ⟨x,hx,rfl⟩:=List.mem_map.1 hp;exact hg hmm x (hmem x hx) i (Gh hi)
   ·have hi':i∈m:=by
     cases hq:Kt P (P9 P o.type)<;>rw [hq] at hi
     ·simp at hi
     ·exact hi
    exact hm i hi'
  split
  ·refine Bl hn fun x _ hx=>Bl hn fun _ _ _=>?_
   rw [htm x (hmem x (by rw [hx];simp))]
   exact Ahq hn fun _=>h0 _
  ·refine Bl hn fun x _ hx=>Bl hn fun _ _ _=>?_
   rw [htm x (hmem x (by rw [hx];simp))]
   exact Ajl hn fun _=>h0 _
  ·refine Bl hn fun x _ hx=>Bl hn fun y _ hy=>Fw hn ?_
   subst hy;rw [htm x (hmem x (by rw [hx];simp)),htm y (hmem y (by rw [hx];simp))]
   exact Aiw hn h0
  ·refine Bl hn fun x _ hx=>Bl hn fun y _ hy=>Fw hn ?_
   subst hy;rw [htm x (hmem x (by rw [hx];simp)),htm y (hmem y (by rw [hx];simp))]
   exact Ah7 hn h0
  ·rename_i hc;have hmm:Ij P (.call c)=true:=by simp [Ij,hc]
   refine Ba hn fun _=>D2 hn fun d hd=>Bl hn fun _ _ hb=>Bl hn fun x _ hx=>Fw hn (Bl hn fun _ _ _=>Bl hn fun _ _ _=>?_)
   have hxm:x∈c.args.toList:=by rw [hb,hx];simp
   rw [htm x (hmem x hxm)];exact XE hn (fun i hi=>hg hmm x (hmem x hxm) i (L7 hi)) fun v nw=>hK _ _ _ (fun h=>by rw [hmm] at h;cases h) (by simp)
  ·rename_i fn hc;have hmm:Ij P (.call c)=true:=by simp [Ij,hc]
   exact rc fn hmm
  ·rename_i t hc;have hmm:Ij P (.call c)=true:=by simp [Ij,hc]
   have ht:=htm (.tmp t) (by simp [Op.operands,Call.operands,hc])
   change tm t=tm' t at ht;rw [ht];exact Als hn fun fn=>rc fn hmm
  ·exact hn
 ·exact hn
variable {hp:Nat->Option Bn}
end
open Go.RowKit
abbrev AD:=PV × List Nat × List (Nat × Bn)
def Gy (ops:Array Oper)(o:Oper)(tm:Nat->PV):Option Bool:=
 match o.guard with
 |none=>some true
 |some (j,want)=>
  match (ops[j]?).bind (·.dst) with
  |none=>none
  |some d=>
   match tm d with
   |.sc (.bool b)=>some (b==want)
   |.sc (.tuple _)=>some false
   |_=>none
section
variable {R:Type} {r:R} {C:Hs} {P:Program} {N:Nat} {call:Ah} {ops:Array Oper} {o x:Oper} {s:St} {K:St->Option R}
theorem JA:Du C P N call ops o s K=match Gy ops o s.tm with
  |none=>none
  |some true=>YU C P N call o s K
  |some false=>Au (He N o.dst) (K ⟨Bp s.tm o.dst (.sc undef),s.hp⟩):=by
 unfold Du Gy;cases o.guard with
 |none=>rfl
 |some q=>
  obtain ⟨j,want⟩:=q;cases hd:(ops[j]?).bind (·.dst) with
  |none=>simp [hd]
  |some d=>
   simp only [hd];cases ht:s.tm d with
   |sc v=>
    cases v with
    |bool b=>
     cases b<;>cases want<;>simp only [A9,cond_true,cond_false,CY s.tm ht]<;>rfl
    |_=>rfl
   |_=>rfl
def Aef (C:Hs)(P:Program)(N:Nat)(call:Ah)(o:Oper)(s:St):Option AD:=
 MH C P N call s.tm (rd s.hp) (Kz s.hp) o fun v fz nw=>some (v,fz,nw)
theorem Amn {K:PV->List Nat->List (Nat × Bn)->Option R}:MH C P N call s.tm (rd s.hp) (Kz s.hp) o K=(Aef C P N call o s).bind fun q=>K q.1 q.2.1 q.2.2:=by
 refine JZ (Rel:=fun (a:Option R) (b:Option AD)=>a=b.bind fun q=>K q.1 q.2.1 q.2.2) (K:=K) (K':=fun v fz nw=>some (v,fz,nw)) rfl (fun _ _=>rfl) (fun _ _ _ _ _=>.inl ⟨rfl,rfl⟩) fun v fz nw _ _=>rfl
theorem Abf {q:AD}(h:Aef C P N call o s=some q):(Ij P o.op=false->q.2.1=[]∧∀p∈q.2.2,o.dst=some p.1)∧∀i∈q.2.1,Kz s.hp i≠none:=by
 have:=JZ (C:=C) (P:=P) (N:=N) (call:=call) (o:=o) (tm:=s.tm) (tm':=s.tm) (f:=rd s.hp) (f':=rd s.hp) (g:=Kz s.hp) (g':=Kz s.hp)
  (Rel:=fun (a:Option AD)(_:Option AD)=>∀q,a=some q->(Ij P o.op=false->q.2.1=[]∧∀p∈q.2.2,o.dst=some p.1)∧∀i∈q.2.1,Kz s.hp i≠none)
  (K:=fun v fz nw=>some (v,fz,nw)) (K':=fun v fz nw=>some (v,fz,nw)) (fun _ h=>by cases h) (fun _ _=>rfl) (fun _ _ _ _ _=>.inl ⟨rfl,rfl⟩) (fun v fz nw h1 h2 q hq=>by cases hq;exact ⟨h1,h2⟩)
 exact this q h
def gE (C:Hs)(P:Program)(N:Nat)(call:Ah)(ops:Array Oper)(o:Oper)(s:St):Option AD:=
 match Gy ops o s.tm with
 |none=>none
 |some true=>bif Ul C P o.op then none else Aef C P N call o s
 |some false=>some (.sc undef,[],[])
def Ht (C:Hs)(P:Program)(ops:Array Oper)(o:Oper)(tm:Nat->PV):Bool:=Ul C P o.op&&(Gy ops o tm==some true)
theorem L5 (h:Ht C P ops o s.tm=false):Du C P N call ops o s K=(gE C P N call ops o s).bind fun q=>FO N s o.dst q.1 q.2.1 q.2.2 K:=by
 rw [JA];unfold gE;unfold Ht at h;cases hv:Gy ops o s.tm with
 |none=>rfl
 |some b=>
  rw [hv] at h;cases b with
  |false=>
   show Au _ _=FO N s o.dst (.sc undef) [] [] K;unfold FO;have h1:B9 s.hp []=true:=rfl;have h2:A3 (Ai s.hp []) []=s.hp:=rfl;rw [h1,h2,Bool.and_true]
  |true=>
   have hm:Ul C P o.op=false:=by simpa using h
   simp only [YU,hm,cond_false];exact Amn
theorem Jh (h:Ht C P ops o s.tm=true):Du C P N call ops o s K=X1 C P N call s o K:=by
 rw [JA];unfold Ht at h;simp only [Bool.and_eq_true,beq_iff_eq] at h;rw [h.2];simp only [YU,h.1,cond_true]
theorem W7 {q:AD}(h:gE C P N call ops o s=some q):(Ij P o.op=false->q.2.1=[]∧∀p∈q.2.2,o.dst=some p.1)∧∀i∈q.2.1,Kz s.hp i≠none:=by
 unfold gE at h;split at h
 ·cases h
 ·cases hm:Ul C P o.op<;>rw [hm] at h
  ·exact Abf h
  ·cases h
 ·cases h;exact ⟨fun _=>⟨rfl,by simp⟩,by simp⟩
theorem F9 {tm tm':Nat->PV}(h:∀t∈looks ops o,tm t=tm' t):∀y∈o.op.operands.toList,Cm tm y=Cm tm' y:=by
 intro y hy;cases y with
 |tmp t=>
  refine h t ?_;unfold looks Aij;refine List.mem_append.2 (.inl (List.mem_filterMap.2 ⟨.tmp t,hy,rfl⟩))
 |const v=>cases v<;>rfl
 |func f=>rfl
 |«global» g=>rfl
theorem Mq {tm tm':Nat->PV}(h:∀t∈looks ops o,tm t=tm' t):Gy ops o tm=Gy ops o tm':=by
 unfold Gy;cases hg:o.guard with
 |none=>rfl
 |some q=>
  obtain ⟨j,want⟩:=q;cases hd:(ops[j]?).bind (·.dst) with
  |none=>simp [hd]
  |some d=>
   have:tm d=tm' d:=h d (by
    unfold looks;rw [hg];refine List.mem_append.2 (.inr ?_);simp only [hd];simp)
   simp only [hd,this]
theorem CK {s':St}{q:AD}(ht:∀t∈looks ops o,s.tm t=s'.tm t)
  (hm:Ij P o.op=true->∀y∈o.op.operands.toList,∀i∈Bx (Cm s'.tm y),(rd s.hp i=rd s'.hp i∧Kz s.hp i=Kz s'.hp i)∨(rd s.hp i=none∧Kz s.hp i=none))
  (h:gE C P N call ops o s=some q):gE C P N call ops o s'=some q:=by
 unfold gE at h ⊢;rw [←Mq ht];split at h
 ·cases h
 ·cases hM:Ul C P o.op<;>rw [hM] at h
  ·have:=JZ (C:=C) (P:=P) (N:=N) (call:=call) (o:=o) (tm:=s.tm) (tm':=s'.tm) (f:=rd s.hp) (f':=rd s'.hp) (g:=Kz s.hp) (g':=Kz s'.hp)
    (Rel:=fun (a b:Option AD)=>a=some q->b=some q)
    (K:=fun v fz nw=>some (v,fz,nw)) (K':=fun v fz nw=>some (v,fz,nw)) (fun h=>h) (F9 ht)
    (fun hm' y hy i hi=>(hm hm' y hy i hi).imp id fun h=>⟨h.1,h.2,fun _ h=>by cases h⟩) (fun v fz nw _ _ h=>h)
   exact this h
  ·cases h
 ·exact h
end
open Go.RowKit
theorem S6:∀{nw:List (Nat × Bn)} {hp hp':Nat->Option Bn},B9 hp nw=true->(∀i b,(i,b)∈nw->hp' i=none)->B9 hp' nw=true
 |[],_,_,_,_=>rfl
 |(i,b)::nw,hp,hp',h,h'=>by
  simp only [B9,Bool.and_eq_true,Option.isNone_iff_eq_none] at h ⊢;exact ⟨⟨h' i b (by simp),h.1.2⟩,S6 h.2 fun j c hj=>h' j c (by simp [hj])⟩
section
variable {hp:Nat->Option Bn} {fz:List Nat} {nw:List (Nat × Bn)}
theorem G4 (ha:B9 hp nw=true){i:Nat}(hi:hp i≠none):A3 (Ai hp fz) nw i=if i∈fz then (hp i).map Wn else hp i:=by
 obtain ⟨h1,h2⟩:=Bq ha;rw [(Ew h2).2 i (fun bx hb=>hi (h1 i bx hb)),Ca]
theorem J1 (ha:B9 hp nw=true){i:Nat}{b:Bn}(hi:(i,b)∈nw):A3 (Ai hp fz) nw i=some b:=
 (Ew (Bq ha).2).1 i b hi
theorem Qf (ha:B9 hp nw=true){i:Nat}(hi:hp i=none)(hn:∀b,(i,b) ∉ nw):A3 (Ai hp fz) nw i=none:=by
 rw [(Ew (Bq ha).2).2 i hn,Ca,hi];simp
theorem Qk (ha:B9 hp nw=true){i:Nat}(hi:hp i≠none):A3 (Ai hp fz) nw i≠none:=by
 rw [G4 ha hi];cases h:hp i with
 |none=>exact absurd h hi
 |some b=>split<;>simp
theorem Ak2 (b:Option Bn):(match b.map Wn with|some (.st c)=>some c|some (.ar _ c)=>some c|_=>none)=(match b with|some (.st c)=>some c|some (.ar _ c)=>some c|_=>none):=by
 cases b with
 |none=>rfl
 |some b=>cases b<;>rfl
theorem Aio (b:Option Bn):(match b.map Wn with|some (.ar _ c)=>some c|_=>none)=(match b with|some (.ar _ c)=>some c|_=>none):=by
 cases b with
 |none=>rfl
 |some b=>cases b<;>rfl
theorem VY (ha:B9 hp nw=true){i:Nat}(hi:hp i≠none):rd (A3 (Ai hp fz) nw) i=rd hp i:=by
 unfold rd;rw [G4 ha hi];by_cases h:i∈fz
 ·rw [if_pos h];exact Ak2 _
 ·rw [if_neg h]
theorem QR (ha:B9 hp nw=true){i:Nat}(hi:hp i≠none):Kz (A3 (Ai hp fz) nw) i=Kz hp i:=by
 unfold Kz;rw [G4 ha hi];by_cases h:i∈fz
 ·rw [if_pos h];exact Aio _
 ·rw [if_neg h]
theorem Ada {i:Nat}(hi:hp i=none):rd hp i=none:=by unfold rd;rw [hi]
theorem Mz {i:Nat}(hi:hp i=none):Kz hp i=none:=by unfold Kz;rw [hi]
theorem At6 (b:Option Bn):(b.map Wn).map Wn=b.map Wn:=by
 cases b with
 |none=>rfl
 |some b=>cases b<;>rfl
theorem Ab2 {fx fo:List Nat}{nx no:List (Nat × Bn)} (hx:B9 hp nx=true)(ho:B9 (A3 (Ai hp fx) nx) no=true) (ho':B9 hp no=true)
  (hx':B9 (A3 (Ai hp fo) no) nx=true) (h1:∀i∈fx,hp i≠none)(h2:∀i∈fo,hp i≠none):
  A3 (Ai (A3 (Ai hp fx) nx) fo) no=A3 (Ai (A3 (Ai hp fo) no) fx) nx:=by
 funext i
 by_cases hi:hp i=none
 ·by_cases hno:∃b,(i,b)∈no
  ·obtain ⟨b,hb⟩:=hno
   have hnx:∀b',(i,b') ∉ nx:=fun b' hb'=>by
    have:=(Bq ho).1 i b hb;rw [J1 hx hb'] at this;cases this
   rw [J1 ho hb,G4 hx' (by rw [J1 ho' hb];simp),J1 ho' hb,if_neg (fun h=>h1 i h hi)]
  ·have hno:∀b,(i,b) ∉ no:=fun b hb=>hno ⟨b,hb⟩
   by_cases hnx:∃b,(i,b)∈nx
   ·obtain ⟨b,hb⟩:=hnx;rw [J1 hx' hb,G4 ho (by rw [J1 hx hb];simp),J1 hx hb,if_neg (fun h=>h2 i h hi)]
   ·have hnx:∀b,(i,b) ∉ nx:=fun b hb=>hnx ⟨b,hb⟩
    rw [Qf ho (Qf hx hi hnx) hno,Qf hx' (Qf ho' hi hno) hnx]
 ·rw [G4 ho (Qk hx hi),G4 hx hi,G4 hx' (Qk ho' hi),G4 ho' hi];split<;>split<;>first|rfl|rw [At6]
end
section
variable {R:Type} {r:R} {C:Hs} {P:Program} {N:Nat} {call:Ah} {ops:Array Oper} {o x:Oper} {s:St} {K:St->Option R}
structure BM (C:Hs) (P:Program) (ops:Array Oper) (x o:Oper):Prop where
 xo:∀d,x.dst=some d->d ∉ looks ops o
 ne:∀d,x.dst=some d->o.dst≠some d
 ox:∀d,o.dst=some d->d ∉ looks ops x
 mx:Ul C P x.op=true->Ij P o.op=false
 mo:Ul C P o.op=true->Ij P x.op=false
theorem Tz {l:List Nat}{d:Nat}(h:l.any (Nat.beq d)=false):d ∉ l:=by
 intro hm;have:l.any (Nat.beq d)=true:=List.any_eq_true.2 ⟨d,hm,Nat.beq_refl d⟩;rw [this] at h;cases h
theorem Aiv (h:LS C P ops x o=false):BM C P ops x o:=by
 unfold LS at h;simp only [Bool.or_eq_false_iff,Bool.and_eq_false_iff] at h;obtain ⟨⟨⟨h1,h2⟩,h3⟩,h4⟩:=h;refine ⟨fun d hd=>?_,fun d hd he=>?_,fun d hd=>?_,fun hm=>?_,fun hm=>?_⟩
 ·simp only [hd,Bool.or_eq_false_iff] at h1;exact Tz h1.1
 ·simp only [hd,he,Bool.or_eq_false_iff] at h1;rw [Nat.beq_refl] at h1;cases h1.2
 ·simp only [hd] at h2;exact Tz h2
 ·rw [hm] at h3;rcases h3 with h|h
  ·cases h
  ·exact h
 ·rw [hm] at h4;rcases h4 with h|h
  ·cases h
  ·exact h
theorem Ff {tm:Nat->PV}{d:Option Tmp}{v:PV}{l:List Nat}(h:∀i,d=some i->i ∉ l):∀t∈l,Bp tm d v t=tm t:=by
 intro t ht;cases d with
 |none=>rfl
 |some d=>exact Av _ _ (by rintro rfl;exact h _ rfl ht)
theorem Mc {tm:Nat->PV}{d e:Option Tmp}{u v:PV}(h:∀i,d=some i->e≠some i):Bp (Bp tm d u) e v=Bp (Bp tm e v) d u:=by
 cases d with
 |none=>rfl
 |some d=>
  cases e with
  |none=>rfl
  |some e=>exact XC _ _ _ (by rintro rfl;exact h _ rfl rfl)
def ZL (C:Hs)(P:Program)(o:Oper)(s:St):Prop:=(∀y∈o.op.operands.toList,∀i∈Bx (Cm s.tm y),s.hp i≠none) ∧
 (Ul C P o.op=true->P4 o.op=false->∀y∈o.op.operands.toList,∀i∈Bx (Cm s.tm y),∀c,s.hp i=some (.st c)->∀p∈c,∀k∈Ay p,s.hp k≠none)
theorem H9 {tm tm':Nat->PV}(h:∀t∈looks ops o,tm t=tm' t):Ht C P ops o tm=Ht C P ops o tm':=by
 unfold Ht;rw [Mq h]
theorem Acb (hw:ZL C P o s)(xo:∀d,x.dst=some d->d ∉ looks ops o)(ne:∀d,x.dst=some d->o.dst≠some d)(ox:∀d,o.dst=some d->d ∉ looks ops x)(hx:Ht C P ops x s.tm=false)(ho:Ht C P ops o s.tm=false)
  (h:Du C P N call ops x s (fun s1=>Du C P N call ops o s1 K)=some r):Du C P N call ops o s (fun s1=>Du C P N call ops x s1 K)=some r:=by
 rw [L5 hx] at h;cases ex:gE C P N call ops x s with
 |none=>rw [ex] at h;cases h
 |some q=>
 obtain ⟨vx,fx,nx⟩:=q;rw [ex] at h;obtain ⟨hb,h1⟩:=Ax h;simp only [Bool.and_eq_true] at hb;have t1:∀t∈looks ops o,Bp s.tm x.dst vx t=s.tm t:=Ff xo;change Du C P N call ops o ⟨Bp s.tm x.dst vx,A3 (Ai s.hp fx) nx⟩ K=some r at h1;rw [L5 (by rw [H9 t1];exact ho)] at h1
 cases eo:gE C P N call ops o ⟨Bp s.tm x.dst vx,A3 (Ai s.hp fx) nx⟩ with
 |none=>rw [eo] at h1;cases h1
 |some q=>
 obtain ⟨vo,fo,no⟩:=q;rw [eo] at h1;obtain ⟨hc,h2⟩:=Ax h1;change K ⟨Bp (Bp s.tm x.dst vx) o.dst vo,A3 (Ai (A3 (Ai s.hp fx) nx) fo) no⟩=some r at h2;simp only [Bool.and_eq_true] at hc
 have eo':gE C P N call ops o s=some (vo,fo,no):=by
  refine CK t1 (fun _ y hy i hi=>?_) eo
  have:=hw.1 y hy i hi;exact .inl ⟨VY hb.2 this,QR hb.2 this⟩
 have ho':B9 s.hp no=true:=S6 hc.2 fun i b hi=>by
  cases hs:s.hp i with
  |none=>rfl
  |some c=>exact absurd ((Bq hc.2).1 i b hi) (Qk hb.2 (by rw [hs];simp))
 rw [L5 ho,eo']
 have hx':B9 (A3 (Ai s.hp fo) no) nx=true:=S6 hb.2 fun i b hi=>by
  refine Qf ho' ((Bq hb.2).1 i b hi) fun c hc'=>?_
  have:=(Bq hc.2).1 i c hc';rw [J1 hb.2 hi] at this;cases this
 have t2:∀t∈looks ops x,s.tm t=Bp s.tm o.dst vo t:=fun t ht=>(Ff ox t ht).symm
 have ex':gE C P N call ops x ⟨Bp s.tm o.dst vo,A3 (Ai s.hp fo) no⟩=some (vx,fx,nx):=by
  refine CK t2 (fun _ y hy i hi=>?_) ex
  by_cases hs:s.hp i=none
  ·exact .inr ⟨Ada hs,Mz hs⟩
  ·exact .inl ⟨(VY ho' hs).symm,(QR ho' hs).symm⟩
 show Au _ _=_;rw [hc.1,ho'];show Du C P N call ops x ⟨Bp s.tm o.dst vo,A3 (Ai s.hp fo) no⟩ K=some r;rw [L5 (by rw [←H9 t2];exact hx),ex']
 show Au _ _=_;rw [hb.1,hx'];rw [←h2];have hfx:∀i∈fx,s.hp i≠none:=fun i hi hs=>(W7 ex).2 i hi (Mz hs)
 have hfo:∀i∈fo,s.hp i≠none:=fun i hi hs=>(W7 eo').2 i hi (Mz hs)
 show K ⟨Bp (Bp s.tm o.dst vo) x.dst vx,A3 (Ai (A3 (Ai s.hp fo) no) fx) nx⟩=K _;rw [Mc ne,Ab2 hb.2 hc.2 ho' hx' hfx hfo]
end
open Go.RowKit
theorem BL {C:Hs}{P:Program}{o:Op}(h:Ul C P o=true):Ij P o=true:=by
 unfold Ul at h;split at h
 ·rfl
 ·rename_i c;unfold Ij;simp only;split at h<;>rename_i hc
  ·rw [hc]
  ·rw [hc]
  ·cases h
  ·rw [hc]
  ·cases h
 ·cases h
structure OU (N:Nat) (S:Nat->Prop) (dst:Option Nat) (hp hp1 hp' hp1':Nat->Option Bn):Prop where
 keep:∀i,hp i≠none->hp' i≠none
 off:∀i,i<N->dst≠some i->(¬S i∨hp i=none)->hp' i=hp i∧hp1' i=hp1 i
 same:∀i,hp i=hp1 i->hp' i=hp1' i
 far:∀i,¬S i->hp i≠none->hp' i=hp i
section
variable {R R':Type} {Rel:Option R->Option R'->Prop} {P:Program} {N:Nat} {tm tm':Nat->PV} {hp hp1:Nat->Option Bn} {f f':Nat->Option (List PV)} {o:Oper}
theorem QM (hn:Rel none none){t:CT}{p:PV}{K:PV->List Nat->Option R}{K':PV->List Nat->Option R'}(hf:VA Rel f f' (Ay p)) (hK:∀c m,(∀i∈m,f i≠none∧i∈Ay p)->Rel (K c m) (K' c m)):Rel (Qy f t p K) (Qy f' t p K'):=by
 unfold Qy;split
 ·split
  ·rename_i id es' off n;cases Nat.beq es' _
   ·exact hn
   ·exact BK hn hf (by simp [Ay]) fun c hc=>Ba hn fun _=>hK _ _ (by simp [hc,Ay])
  ·exact Gs hn fun _ _ _=>hK _ _ (by simp)
 ·exact Rc hn fun _=>hK _ _ (by simp)
theorem LQ (hn:Rel none none):∀{ts:List CT}{ps:List PV}{K:List PV->List Nat->Option R}{K':List PV->List Nat->Option R'},VA Rel f f' (ps.flatMap Ay)->(∀c m,(∀i∈m,f i≠none∧i∈ps.flatMap Ay)->Rel (K c m) (K' c m))->Rel (Po f ts ps K) (Po f' ts ps K')
 |[],[],_,_,_,hK=>hK _ _ (by simp)
 |[],_::_,_,_,_,_=>hn
 |_::_,[],_,_,_,_=>hn
 |_::_,p::ps,_,_,hf,hK=>QM hn (fun i hi=>hf i (by simp only [List.flatMap_cons,List.mem_append];exact .inl hi)) fun _ m hm=>LQ hn (fun i hi=>hf i (by simp only [List.flatMap_cons,List.mem_append];exact .inr hi)) fun _ ms hms=>hK _ _ fun i hi=>by
   simp only [List.flatMap_cons,List.mem_append];rcases List.mem_append.1 hi with h|h
   ·exact ⟨(hm i h).1,.inl (hm i h).2⟩
   ·exact ⟨(hms i h).1,.inr (hms i h).2⟩
theorem Xu {S:Nat->Prop}{dst:Option Nat}{id:Nat}{b:Bn}{h0 h1:Nat->Option Bn}(hS:S id)(hid:hp id≠none)(h:OU N S dst hp hp1 h0 h1):OU N S dst hp hp1 (Cz h0 id (some b)) (Cz h1 id (some b)):=by
 refine ⟨fun i hi=>?_,fun i hN hd hi=>?_,fun i hi=>?_,fun i hn hi=>?_⟩
 ·by_cases e:i=id
  ·subst e;rw [Az];simp
  ·rw [Av _ _ e];exact h.keep i hi
 ·have e:i≠id:=by
   rintro rfl
   rcases hi with hi|hi
   ·exact hi hS
   ·exact hid hi
  rw [Av _ _ e,Av _ _ e];exact h.off i hN hd hi
 ·by_cases e:i=id
  ·subst e;rw [Az,Az]
  ·rw [Av _ _ e,Av _ _ e];exact h.same i hi
 ·rw [Av _ _ (by rintro rfl;exact hn hS)];exact h.far i hn hi
theorem UO {S:Nat->Prop}{d:Nat}{b:Bn}{h0 h1:Nat->Option Bn}(hz:hp d=none)(h:OU N S (some d) hp hp1 h0 h1):OU N S (some d) hp hp1 (Cz h0 d (some b)) (Cz h1 d (some b)):=by
 refine ⟨fun i hi=>?_,fun i hN hd hi=>?_,fun i hi=>?_,fun i hn hi=>?_⟩
 ·by_cases e:i=d
  ·subst e;rw [Az];simp
  ·rw [Av _ _ e];exact h.keep i hi
 ·have e:i≠d:=by rintro rfl;exact hd rfl
  rw [Av _ _ e,Av _ _ e];exact h.off i hN hd hi
 ·by_cases e:i=d
  ·subst e;rw [Az,Az]
  ·rw [Av _ _ e,Av _ _ e];exact h.same i hi
 ·rw [Av _ _ (by rintro rfl;exact hi hz)];exact h.far i hn hi
theorem Vx (S:Nat->Prop)(dst:Option Nat):OU N S dst hp hp1 hp hp1:=⟨fun _ h=>h,fun _ _ _ _=>⟨rfl,rfl⟩,fun _ h=>h,fun _ _ _=>rfl⟩
theorem Aaf {S:Nat->Prop}{dst:Option Nat}{m:List Nat}(hm:∀i∈m,hp i≠none∧S i):OU N S dst hp hp1 (Ai hp m) (Ai hp1 m):=by
 refine ⟨fun i hi=>fun h=>hi (Ef.1 h),fun i hN hd hi=>?_,fun i hi=>?_,fun i hn hi=>?_⟩
 ·have e:i ∉ m:=by
   intro h;rcases hi with hi|hi
   ·exact hi (hm i h).2
   ·exact (hm i h).1 hi
  rw [Ca,Ca,if_neg e,if_neg e];exact ⟨rfl,rfl⟩
 ·rw [Ca,Ca,hi]
 ·rw [Ca,if_neg (fun h=>hn (hm i h).2)]
theorem ST {S:Nat->Prop}(h:∀i,S i->hp i=hp1 i∨(hp i=none∧∀b,Rel none b)) {l:List Nat}(hl:∀i∈l,S i):VA Rel (Kz hp) (Kz hp1) l:=by
 intro i hi;rcases h i (hl i hi) with h|⟨h,h'⟩
 ·left;unfold Kz;rw [h]
 ·exact .inr ⟨Mz h,h'⟩
theorem VG (hn:Rel none none){t:TypeId}{a x:PV}{K:St->Option R}{K':St->Option R'}{S:Nat->Prop}(hS:∀i,S i->hp i=hp1 i∨(hp i=none∧∀b,Rel none b)) (ha:∀i∈Ay a,S i)(hx:∀i∈Cf x,S i)
  (hK:∀hp' hp1',OU N S none hp hp1 hp' hp1'->Rel (K ⟨tm,hp'⟩) (K' ⟨tm',hp1'⟩)):Rel (EM P ⟨tm,hp⟩ t a x K) (EM P ⟨tm',hp1⟩ t a x K'):=by
 unfold EM;split
 ·rename_i id off;show Rel (match hp id with|some (.st c)=>_|some (.ar false c)=>_|_=>none) (match hp1 id with|some (.st c)=>_|some (.ar false c)=>_|_=>none)
  have hid:S id:=ha id (by simp [Ay])
  rcases hS id hid with h|⟨h,hb⟩
  ·rw [←h];split
   ·rename_i c hc;exact Ba hn fun _=>Pz hn fun _=>hK _ _ (Xu hid (by rw [hc];simp) (Vx _ _))
   ·rename_i c hc;refine Ba hn fun _=>LQ hn (ST hS fun i hi=>hx i ?_) fun _ m hm=>Ba hn fun _=>hK _ _ (Xu hid (by rw [hc];simp) (Aaf fun i hi=>⟨fun h=>(hm i hi).1 (Mz h),hx i ?_⟩))
    ·obtain ⟨c,hc,hi⟩:=List.mem_flatMap.1 hi;exact Wf hc hi
    ·obtain ⟨c,hc,hi⟩:=List.mem_flatMap.1 (hm i hi).2;exact Wf hc hi
   ·exact hn
  ·rw [h];exact hb _
 ·exact hn
theorem FF (hn:Rel none none){es:Nat}{t:TypeId}{x:PV}{K:Nat->List PV->Option R}{K':Nat->List PV->Option R'}{S:Nat->Prop}(hS:∀i,S i->hp i=hp1 i∨(hp i=none∧∀b,Rel none b)) (hx:∀i∈Cf x,S i)(hK:∀m c,Rel (K m c) (K' m c)):Rel (Abi P ⟨tm,hp⟩ es t x K) (Abi P ⟨tm',hp1⟩ es t x K'):=by
 unfold Abi Abm;split
 ·exact Ba hn fun _=>G8 hn fun _=>hK _ _
 ·exact DO hn (ST hS fun i hi=>hx i (V1 hi)) hK
 ·exact hn
theorem DR (hn:Rel none none){d:Nat}{t tx:TypeId}{b x:PV}{K:St->Option R}{K':St->Option R'}{S:Nat->Prop}(hS:∀i,S i->hp i=hp1 i∨(hp i=none∧∀b,Rel none b)) (hdd:hp d=hp1 d)(hb:∀i∈Cf b,S i)(hx:∀i∈Cf x,S i)
  (hK:∀v hp' hp1',(∀M,OU M S (some d) hp hp1 hp' hp1')->Rel (K ⟨Cz tm d v,hp'⟩) (K' ⟨Cz tm' d v,hp1'⟩)):Rel (Rg P N ⟨tm,hp⟩ d t tx b x K) (Rg P N ⟨tm',hp1⟩ d t tx b x K'):=by
 unfold Rg;split
 ·refine Ba hn fun _=>?_
  cases BP P tx
  rotate_left
  ·show Rel (V3 P N ⟨tm,hp⟩ d _ b x K) (V3 P N ⟨tm',hp1⟩ d _ b x K');refine Eg hn fun _ n=>Gs hn fun z _ _=>?_
   show Rel (Au (z&&Nat.blt d N&&(hp d).isNone&&_&&_&&_) _) (Au (z&&Nat.blt d N&&(hp1 d).isNone&&_&&_&&_) _);rw [←hdd];exact Ba hn fun hb=>hK _ _ _ (fun M=>UO (by simp only [Bool.and_eq_true,Option.isNone_iff_eq_none] at hb;simp only [hb]) (Vx _ _))
  rw [cond_false,cond_false];refine FF hn hS hx fun m new=>?_
  split
  ·rename_i id es off n;show Rel (match hp id with|some (.ar false c)=>Au (Nat.beq es _&&Nat.beq off 0&&Nat.blt d N&&(hp d).isNone&&_&&_&&_&&_) _|_=>none) (match hp1 id with|some (.ar false c)=>Au (Nat.beq es _&&Nat.beq off 0&&Nat.blt d N&&(hp1 d).isNone&&_&&_&&_&&_) _|_=>none)
   have hid:S id:=hb id (by simp [Cf,Ay])
   rw [←hdd];rcases hS id hid with h|⟨h,hbb⟩
   ·rw [←h];split
    ·rename_i c hc;exact Ba hn fun hb=>hK _ _ _ (fun M=>UO (by simp only [Bool.and_eq_true,Option.isNone_iff_eq_none] at hb;simp only [hb]) (Xu hid (by rw [hc];simp) (Vx _ _)))
    ·exact hn
   ·rw [h];exact hbb _
  ·refine Gs hn fun z _ _=>?_
   show Rel (Au (z&&Nat.blt d N&&(hp d).isNone&&_&&_&&_) _) (Au (z&&Nat.blt d N&&(hp1 d).isNone&&_&&_&&_) _);rw [←hdd];exact Ba hn fun hb=>hK _ _ _ (fun M=>UO (by simp only [Bool.and_eq_true,Option.isNone_iff_eq_none] at hb;simp only [hb]) (Vx _ _))
 ·exact hn
theorem ZY (hn:Rel none none){d:Option Tmp}{t tx:TypeId}{b x:PV}{K:St->Option R}{K':St->Option R'}{S:Nat->Prop}(hS:∀i,S i->hp i=hp1 i∨(hp i=none∧∀b,Rel none b)) (hb:∀i∈Cf b,S i)(hx:∀i∈Cf x,S i)
  (hK:∀v hp' hp1',OU N S d hp hp1 hp' hp1'->Rel (K ⟨Bp tm d v,hp'⟩) (K' ⟨Bp tm' d v,hp1'⟩)):Rel (QF P N ⟨tm,hp⟩ d t tx b x K) (QF P N ⟨tm',hp1⟩ d t tx b x K'):=by
 unfold QF;split
 ·refine Ba hn fun _=>?_
  refine FF hn hS hx fun m new=>?_
  split
  ·rename_i id es off n;show Rel (match hp id with|some (.ar false c)=>Au (Nat.beq es _&&_&&_) _|_=>none) (match hp1 id with|some (.ar false c)=>Au (Nat.beq es _&&_&&_) _|_=>none)
   have hid:S id:=hb id (by simp [Cf,Ay])
   rcases hS id hid with h|⟨h,hbb⟩
   ·rw [←h];split
    ·rename_i c hc;exact Ba hn fun _=>hK _ _ _ (Xu hid (by rw [hc];simp) (Vx _ _))
    ·exact hn
   ·rw [h];exact hbb _
  ·exact hn
 ·exact hn
def Am9 (o:Oper)(tm:Nat->PV)(i:Nat):Prop:=∃x∈o.op.operands.toList,i∈Bx (Cm tm x)
def AC (o:Oper)(tm:Nat->PV)(hp:Nat->Option Bn)(i:Nat):Prop:=Am9 o tm i∨P4 o.op=false∧∃id c,Am9 o tm id∧hp id=some (.st c)∧∃p∈c,i∈Ay p
theorem Afy (hn:Rel none none){mv:Bool}{t:CT}{p:PV}{K:PV->List Nat->List Nat->Option R}{K':PV->List Nat->List Nat->Option R'}{S:Nat->Prop}(hS:∀i,S i->hp i=hp1 i∨(hp i=none∧∀b,Rel none b)) (hp_:∀i∈Ay p,S i)
  (hK:∀c m x,(∀i∈m++x,hp i≠none∧S i)->Rel (K c m x) (K' c m x)):Rel (Af7 mv hp t p K) (Af7 mv hp1 t p K'):=by
 have frz:∀{t:CT} {p:PV},(∀i∈Ay p,S i)->Rel (Qy (Kz hp) t p fun c m=>K c m []) (Qy (Kz hp1) t p fun c m=>K' c m []):=fun h=>QM hn (ST hS h) fun c m hm=>hK _ _ _ fun i hi=>by
  rw [List.append_nil] at hi;exact ⟨fun e=>(hm i hi).1 (Mz e),h i (hm i hi).2⟩
 unfold Af7;split
 ·rename_i es;cases mv<;>simp only [cond_true,cond_false]
  ·exact frz hp_
  ·split
   ·rename_i id es' off n;rcases hS id (hp_ id (by simp [Ay])) with h|⟨h,hb⟩
    ·rw [←h];split
     ·rename_i c hc;cases (Nat.beq es' es&&Nat.beq off 0)<;>simp only [cond_true,cond_false]
      ·exact frz hp_
      ·exact Ba hn fun _=>hK _ _ _ fun i hi=>by
        simp only [List.nil_append,List.mem_singleton] at hi;subst hi;exact ⟨by rw [hc];simp,hp_ i (by simp [Ay])⟩
     ·exact frz hp_
    ·rw [h]
     have:(Qy (Kz hp) (.sl es) (.view id es' off n) fun c m=>K c m [])=none:=by
      unfold Qy;simp only;cases Nat.beq es' es
      ·rfl
      ·simp only [cond_true,Mz h,E5]
     show Rel (Qy (Kz hp) (.sl es) (.view id es' off n) fun c m=>K c m []) _
     rw [this];exact hb _
   ·refine Gs hn fun z n c=>?_
    cases z
    ·exact hK _ _ _ (by simp)
    ·exact hK _ _ _ (by simp)
 ·exact Rc hn fun _=>hK _ _ _ (by simp)
theorem Tw (hn:Rel none none){mv:Bool}{S:Nat->Prop}(hS:∀i,S i->hp i=hp1 i∨(hp i=none∧∀b,Rel none b)):∀{ts:List CT}{ps:List PV}{K:List PV->List Nat->List Nat->Option R}{K':List PV->List Nat->List Nat->Option R'},(∀p∈ps,∀i∈Ay p,S i) ->
  (∀c m x,(∀i∈m++x,hp i≠none∧S i)->Rel (K c m x) (K' c m x))->Rel (HA mv hp ts ps K) (HA mv hp1 ts ps K')
 |[],[],_,_,_,hK=>hK _ _ _ (by simp)
 |[],_::_,_,_,_,_=>hn
 |_::_,[],_,_,_,_=>hn
 |_::_,p::ps,_,_,hp_,hK=>Afy hn hS (hp_ p (by simp)) fun _ m x hm=>Tw hn hS (fun q hq=>hp_ q (by simp [hq])) fun _ ms xs hms=>hK _ _ _ fun i hi=>by
   simp only [List.mem_append] at hi hm hms;rcases hi with (hi|hi)|(hi|hi)
   ·exact hm i (.inl hi)
   ·exact hms i (.inl hi)
   ·exact hm i (.inr hi)
   ·exact hms i (.inr hi)
theorem WE (hn:Rel none none){C:Hs}{f:FuncId}{i:Nat}{t:TypeId}{p:PV}{K:PV->List Nat->List Nat->List Hq->Option R}{K':PV->List Nat->List Nat->List Hq->Option R'}{S:Nat->Prop}(hS:∀i,S i->hp i=hp1 i∨(hp i=none∧∀b,Rel none b))
  (hp_:∀i∈Bx p,S i)(hc:∀i∈Bx p,∀c,hp1 i=some (.st c)->∀q∈c,∀k∈Ay q,S k)
  (hK:∀v m x l,(∀i∈m++x++l.flatMap Hq.ids,hp i≠none∧S i)->Rel (K v m x l) (K' v m x l)):Rel (FE C P f hp i t p K) (FE C P f hp1 i t p K'):=by
 unfold FE;split
 ·split
  ·rename_i id off;have hid:S id:=hp_ id (by simp [Bx,Cf,Ay])
   rcases hS id hid with h|⟨h,hb⟩
   ·rw [h];split
    ·rename_i c hc1;refine Ba hn fun _=>Tw hn hS (fun q hq k hk=>hc id (by simp [Bx,Cf,Ay]) c hc1 q (List.mem_of_mem_drop (List.mem_of_mem_take hq)) k hk) fun cs m x hm=>hK _ _ _ _ fun k hk=>?_
     rcases List.mem_append.1 hk with hk|hk
     ·exact hm k hk
     ·simp only [List.flatMap_cons,List.flatMap_nil,Hq.ids,List.append_nil,List.mem_singleton] at hk;subst hk;exact ⟨by rw [h,hc1];simp,hid⟩
    ·exact hn
   ·rw [h];exact hb _
  ·exact hn
 ·cases C.lnd f i
  ·cases Cv P t
   ·exact Tw hn hS (fun q hq k hk=>by
     simp at hq;subst hq;exact hp_ k (L7 hk)) fun cs m x hm=>Bl hn fun _ _ _=>Fw hn (hK _ _ _ _ (by simpa using hm))
   ·refine J9 hn fun cs hcs=>Tw hn hS (fun q hq k hk=>hp_ k ?_) fun cs m x hm=>hK _ _ _ _ (by simpa using hm)
    subst hcs;exact List.mem_flatMap.2 ⟨q,hq,hk⟩
  ·refine D2 hn fun e he=>?_
   unfold Agx;split
   ·rename_i id es' off n;have hid:S id:=hp_ id (by simp [Bx,Cf,Ay])
    rcases hS id hid with h|⟨h,hb⟩
    ·rw [h];split
     ·rename_i c hc1;refine Ba hn fun _=>hK _ _ _ _ fun k hk=>?_
      simp only [List.nil_append,List.flatMap_cons,List.flatMap_nil,Hq.ids,List.append_nil,List.mem_singleton] at hk;subst hk;exact ⟨by rw [h,hc1];simp,hid⟩
     ·exact hn
    ·rw [h];exact hb _
   ·exact Gs hn fun _ _ _=>Ba hn fun _=>hK _ _ _ _ (by simp [Hq.ids])
theorem JK (hn:Rel none none){C:Hs}{f:FuncId}{S:Nat->Prop}(hS:∀i,S i->hp i=hp1 i∨(hp i=none∧∀b,Rel none b)):∀{ts:List TypeId}{ps:List PV}{i:Nat}{K:List PV->List Nat->List Nat->List Hq->Option R}{K':List PV->List Nat->List Nat->List Hq->Option R'},
  (∀p∈ps,∀i∈Bx p,S i)->(∀p∈ps,∀i∈Bx p,∀c,hp1 i=some (.st c)->∀q∈c,∀k∈Ay q,S k) ->
  (∀v m x l,(∀i∈m++x++l.flatMap Hq.ids,hp i≠none∧S i)->Rel (K v m x l) (K' v m x l))->Rel (PW C P f hp i ts ps K) (PW C P f hp1 i ts ps K')
 |[],[],_,_,_,_,_,hK=>hK _ _ _ _ (by simp)
 |[],_::_,_,_,_,_,_,_=>hn
 |_::_,[],_,_,_,_,_,_=>hn
 |_::_,p::ps,_,_,_,hp_,hc,hK=>WE hn hS (hp_ p (by simp)) (hc p (by simp)) fun _ m x l hm=>JK hn hS (fun q hq=>hp_ q (by simp [hq])) (fun q hq=>hc q (by simp [hq])) fun _ ms xs ls hms=>hK _ _ _ _ fun i hi=>by
   simp only [List.mem_append,List.flatMap_append] at hi hm hms;rcases hi with ((hi|hi)|(hi|hi))|(hi|hi)
   ·exact hm i (.inl (.inl hi))
   ·exact hms i (.inl (.inl hi))
   ·exact hm i (.inl (.inr hi))
   ·exact hms i (.inl (.inr hi))
   ·exact hm i (.inr hi)
   ·exact hms i (.inr hi)
theorem Ajy (hn:Rel none none){t:Nat}{ct:CT}{was p:PV}{K:Nat->PV->List (Nat × Bn)->Option R} {K':Nat->PV->List (Nat × Bn)->Option R'} (hK:∀t c b,(∀q∈b,∃k,q.1=ZI N k)->Rel (K t c b) (K' t c b)):Rel (Afw N t ct was p K) (Afw N t ct was p K'):=by
 unfold Afw;split
 ·split
  ·exact Acu hn fun _ _=>hK _ _ _ (by intro q hq;simp only [List.mem_singleton] at hq;subst hq;exact ⟨t,rfl⟩)
  ·exact Gs hn fun _ _ _=>hK _ _ _ (by simp)
 ·exact Rc hn fun _=>hK _ _ _ (by simp)
theorem RF (hn:Rel none none):∀{cts:List CT}{ws ps:List PV}{t:Nat}{K:Nat->List PV->List (Nat × Bn)->Option R} {K':Nat->List PV->List (Nat × Bn)->Option R'},(∀t c b,(∀q∈b,∃k,q.1=ZI N k)->Rel (K t c b) (K' t c b))->Rel (QS N t cts ws ps K) (QS N t cts ws ps K')
 |[],[],_,_,_,_,hK=>Fw hn (hK _ _ _ (by simp))
 |[],_::_,_,_,_,_,_=>hn
 |_::_,[],_,_,_,_,_=>hn
 |_::_,_::_,_,_,_,_,hK=>Bl hn fun _ _ _=>Ajy hn fun _ _ b hb=>RF hn fun _ _ bs hbs=>hK _ _ _ fun q hq=>by
   rcases List.mem_append.1 hq with h|h
   ·exact hb q h
   ·exact hbs q h
theorem Xr (hn:Rel none none){S:Nat->Prop}{dst:Option Nat}:∀{l:List Hq}{ro:List (List PV)} {t:Nat}{h0 h1:Nat->Option Bn}{K:(Nat->Option Bn)->List (Nat × Bn)->Option R} {K':(Nat->Option Bn)->List (Nat × Bn)->Option R'},
  OU N S dst hp hp1 h0 h1->(∀i∈l.flatMap Hq.ids,hp i≠none∧S i∧hp i=hp1 i)->(∀h0' h1' b,OU N S dst hp hp1 h0' h1'->(∀q∈b,∃k,q.1=ZI N k)->Rel (K h0' b) (K' h1' b))->Rel (AK N t l ro h0 K) (AK N t l ro h1 K')
 |[],_,_,_,_,_,_,hT,_,hK=>Fw hn (hK _ _ _ hT (by simp))
 |.var id off cts ws::l,ro,t,h0,h1,K,K',hT,hl,hK=>by
  unfold AK;refine Bl hn fun cs ro _=>RF hn fun t' cs' bs hbs=>?_
  have hid:=hl id (by simp [Hq.ids])
  rw [←hT.same id hid.2.2];split
  ·exact Xr hn (Xu hid.2.1 hid.1 hT) (fun i hi=>hl i (by simp only [List.flatMap_cons,List.mem_append];exact .inr hi)) fun h0' h1' b hT' hb=>hK _ _ _ hT' fun q hq=>by
    rcases List.mem_append.1 hq with h|h
    ·exact hbs q h
    ·exact hb q h
  ·exact hn
 |.row id::l,ro,t,h0,h1,K,K',hT,hl,hK=>by
  unfold AK;have hid:=hl id (by simp [Hq.ids])
  exact Bl hn fun cs ro _=>Xr hn (Xu hid.2.1 hid.1 hT) (fun i hi=>hl i (by simp only [List.flatMap_cons,List.mem_append];exact .inr hi)) hK
 |.none::l,ro,t,h0,h1,K,K',hT,hl,hK=>by
  unfold AK;exact Bl hn fun cs ro _=>Xr hn hT (fun i hi=>hl i (by simp only [List.flatMap_cons,List.mem_append];exact .inr hi)) hK
theorem YX (h:∀i,N<=i->hp i=hp1 i)(hN:0<N):∀k t,WN N hp k t=WN N hp1 k t
 |0,_=>rfl
 |k+1,t=>by
  unfold WN;rw [h (ZI N t) (by unfold ZI;exact Nat.le_mul_of_pos_right _ (by omega)),YX h hN k (t+1)]
theorem PX {h0 h1:Nat->Option Bn}:∀{nw:List (Nat × Bn)},(∀q∈nw,h0 q.1=h1 q.1)->B9 h0 nw=B9 h1 nw
 |[],_=>rfl
 |(i,b)::nw,h=>by
  unfold B9;rw [h (i,b) (by simp),PX (fun q hq=>h q (by simp [hq]))]
theorem NH {S:Nat->Prop}{dst:Option Nat}{h0 h1:Nat->Option Bn}(hT:OU N S dst hp hp1 h0 h1):∀{nw:List (Nat × Bn)} {g0 g1:Nat->Option Bn},OU N S dst hp hp1 g0 g1->(∀q∈nw,N<=q.1∨dst=some q.1)->(∀q∈nw,hp q.1=none)->OU N S dst hp hp1 (A3 g0 nw) (A3 g1 nw)
 |[],_,_,h,_,_=>h
 |(i,b)::nw,g0,g1,h,hi,hz=>by
  refine NH hT (nw:=nw) ⟨fun k hk=>?_,fun k hN hd hk=>?_,fun k hk=>?_,fun k hn hk=>?_⟩ (fun q hq=>hi q (by simp [hq])) (fun q hq=>hz q (by simp [hq]))
  ·by_cases e:k=i
   ·subst e;rw [Az];simp
   ·rw [Av _ _ e];exact h.keep k hk
  ·have e:k≠i:=by
    rintro rfl
    rcases hi (k,b) (by simp) with q|q
    ·simp only at q;omega
    ·exact hd q
   rw [Av _ _ e,Av _ _ e];exact h.off k hN hd hk
  ·by_cases e:k=i
   ·subst e;rw [Az,Az]
   ·rw [Av _ _ e,Av _ _ e];exact h.same k hk
  ·rw [Av _ _ (by rintro rfl;exact hk (hz (k,b) (by simp)))];exact h.far k hn hk
theorem Aqm {S:Nat->Prop}{dst:Option Nat}{m x:List Nat}(hm:∀i∈m++x,hp i≠none∧S i):OU N S dst hp hp1 (Vv (Ai hp m) x) (Vv (Ai hp1 m) x):=by
 refine ⟨fun i hi h=>?_,fun i hN hd hi=>?_,fun i hi=>?_,fun i hn hi=>?_⟩
 ·rw [G3] at h;have h1:Ai hp m i≠none:=fun e=>hi (Ef.1 e)
  split at h
  ·cases hq:Ai hp m i with
   |none=>exact h1 hq
   |some b=>rw [hq] at h;cases h
  ·exact h1 h
 ·have e:i ∉ m∧i ∉ x:=by
   refine ⟨fun h=>?_,fun h=>?_⟩<;>(rcases hi with hi|hi)
   ·exact hi (hm i (by simp [h])).2
   ·exact (hm i (by simp [h])).1 hi
   ·exact hi (hm i (by simp [h])).2
   ·exact (hm i (by simp [h])).1 hi
  rw [G3,G3,if_neg e.2,if_neg e.2,Ca,Ca,if_neg e.1,if_neg e.1];exact ⟨rfl,rfl⟩
 ·rw [G3,G3,Ca,Ca,hi]
 ·rw [G3,Ca,if_neg (fun h=>hn (hm i (by simp [h])).2),if_neg (fun h=>hn (hm i (by simp [h])).2)]
theorem XG (hn:Rel none none){C:Hs}{call:Ah}{f:FuncId}{c:Call}{K:St->Option R}{K':St->Option R'}{S:Nat->Prop}(htm:c.args.toList.map (Cm tm)=c.args.toList.map (Cm tm')) (hS:∀i,S i->hp i=hp1 i∨(hp i=none∧∀b,Rel none b))
  (hp_:∀p∈c.args.toList.map (Cm tm'),∀i∈Bx p,S i) (hc:∀p∈c.args.toList.map (Cm tm'),∀i∈Bx p,∀c,hp1 i=some (.st c)->∀q∈c,∀k∈Ay q,S k)
  (hdd:∀d,o.dst=some d->hp d=hp1 d)(hNN:∀i,N<=i->hp i=hp1 i)
  (hK:∀v hp' hp1',OU N S o.dst hp hp1 hp' hp1'->Rel (K ⟨Bp tm o.dst v,hp'⟩) (K' ⟨Bp tm' o.dst v,hp1'⟩)):Rel (FX C P N call ⟨tm,hp⟩ o f c K) (FX C P N call ⟨tm',hp1⟩ o f c K'):=by
 unfold FX;simp only [htm];refine JK hn hS hp_ hc fun vs m x l hm=>Ba hn fun hb=>QE hn fun rv ro=>FJ hn fun ws bs hbs=>Ba hn fun _=>?_
 simp only [Bool.and_eq_true] at hb;have hN:0<N:=Nat.lt_of_succ_le (Nat.le_of_ble_eq_true hb.1.2);rw [YX hNN hN];by_cases hbad:∃i∈l.flatMap Hq.ids,hp i≠hp1 i
 ·obtain ⟨i,hi,hne⟩:=hbad;obtain ⟨h1,h2⟩:=hm i (List.mem_append.2 (.inr hi));rcases hS i h2 with h|⟨h,_⟩
  ·exact absurd h hne
  ·exact absurd h h1
 have hl:∀i∈l.flatMap Hq.ids,hp i≠none∧S i∧hp i=hp1 i:=fun i hi=>⟨(hm i (List.mem_append.2 (.inr hi))).1,(hm i (List.mem_append.2 (.inr hi))).2,Classical.byContradiction fun h=>hbad ⟨i,hi,h⟩⟩
 have hT0:OU N S o.dst hp hp1 (Vv (Ai hp m) x) (Vv (Ai hp1 m) x):=Aqm fun i hi=>hm i (List.mem_append.2 (.inl hi))
 refine Xr hn hT0 hl fun h0 h1 bs' hT hbs'=>?_
 have hids:∀q∈bs++bs',N<=q.1∨o.dst=some q.1:=by
  intro q hq;rcases List.mem_append.1 hq with hq|hq
  ·obtain ⟨j,hj⟩:=hbs q hq;cases hd:o.dst with
   |none=>
    rw [hd] at hj;left;rw [hj];exact Nat.le_add_right _ _
   |some d=>
    rw [hd] at hj;change q.1=d+N*j at hj;cases j with
    |zero=>right;rw [hj];simp
    |succ j=>left;rw [hj,Nat.mul_add];omega
  ·obtain ⟨k,hk⟩:=hbs' q hq;left;rw [hk];unfold ZI;exact Nat.le_mul_of_pos_right _ (by omega)
 have hsame:∀q∈bs++bs',h0 q.1=h1 q.1:=by
  intro q hq;refine hT.same q.1 ?_;rcases hids q hq with h|h
  ·exact hNN _ h
  ·exact hdd _ h
 rw [PX hsame]
 exact Ba hn fun hb=>hK _ _ _ (NH hT hT hids fun q hq=>by
  cases hz:hp q.1 with
  |none=>rfl
  |some c=>exact absurd ((hsame q hq).trans ((Bq hb).1 q.1 q.2 hq)) (hT.keep q.1 (by rw [hz];simp)))
theorem L8 (hn:Rel none none){C:Hs}{call:Ah}{K:St->Option R}{K':St->Option R'}(htm:∀x∈o.op.operands.toList,Cm tm x=Cm tm' x)
  (hS:∀i,AC o tm' hp1 i->hp i=hp1 i∨(hp i=none∧∀b,Rel none b)) (hdd:∀d,o.dst=some d->hp d=hp1 d)(hNN:∀i,N<=i->hp i=hp1 i)
  (hK:∀v hp' hp1',OU N (AC o tm' hp1) o.dst hp hp1 hp' hp1'->Rel (K ⟨Bp tm o.dst v,hp'⟩) (K' ⟨Bp tm' o.dst v,hp1'⟩)):Rel (X1 C P N call ⟨tm,hp⟩ o K) (X1 C P N call ⟨tm',hp1⟩ o K'):=by
 unfold X1;have hl:∀x∈o.op.operands.toList,∀i∈Bx (Cm tm' x),AC o tm' hp1 i:=fun x hx i hi=>.inl ⟨x,hx,hi⟩
 have hl2:P4 o.op=false->∀x∈o.op.operands.toList,∀i∈Bx (Cm tm' x),∀c,hp1 i=some (.st c)->∀q∈c,∀k∈Ay q,AC o tm' hp1 k:=fun ha x hx i hi c hc q hq k hk=>.inr ⟨ha,i,c,⟨x,hx,hi⟩,hc,q,hq,hk⟩
 generalize hLd:AC o tm' hp1=S at *
 generalize hop:o.op=op at *
 split
 ·rename_i t x y;simp only [htm x (by simp [Op.operands]),htm y (by simp [Op.operands])]
  refine Ba hn fun hd=>VG (N:=N) hn hS (fun i hi=>hl x (by simp [Op.operands]) i (L7 hi)) (fun i hi=>hl y (by simp [Op.operands]) i (Gh hi)) fun hp' hp1' hh=>?_
  have hd':=Option.isNone_iff_eq_none.1 hd;have:=hK .top hp' hp1' (by rw [hd'];exact hh)
  rw [hd'] at this;exact this
 ·rename_i c
  have hmem:∀x∈c.args.toList,x∈(Op.call c).operands.toList:=by
   intro x hx;simp only [Op.operands,Call.operands,Array.toList_append,List.mem_append];exact .inr hx
  split
  ·rename_i hc;refine D2 hn fun d hd=>Bl hn fun x _ hx=>Bl hn fun y _ hy=>Fw hn (Bl hn fun _ _ _=>Bl hn fun _ _ _=>?_)
   subst hy;have hxm:=hmem x (by rw [hx];simp)
   have hym:=hmem y (by rw [hx];simp)
   simp only [htm x hxm,htm y hym];refine DR hn hS (hdd d hd) (fun i hi=>hl x hxm i (Gh hi)) (fun i hi=>hl y hym i (Gh hi)) fun v hp' hp1' hh=>?_
   have:=hK v hp' hp1' (by rw [hd];exact hh N)
   rw [hd] at this;exact this
  ·rename_i hc;refine Bl hn fun x _ hx=>Bl hn fun y _ hy=>Fw hn (Bl hn fun _ _ _=>Bl hn fun _ _ _=>?_)
   subst hy;have hxm:=hmem x (by rw [hx];simp)
   have hym:=hmem y (by rw [hx];simp)
   simp only [htm x hxm,htm y hym];exact ZY hn hS (fun i hi=>hl x hxm i (Gh hi)) (fun i hi=>hl y hym i (Gh hi)) hK
  ·rename_i f hcf;refine XG hn (List.map_congr_left fun x hx=>htm x (hmem x hx)) hS (fun p hp i hi=>?_) (fun p hp i hi=>?_) hdd hNN hK
   ·obtain ⟨x,hx,rfl⟩:=List.mem_map.1 hp;exact hl x (hmem x hx) i hi
   ·obtain ⟨x,hx,rfl⟩:=List.mem_map.1 hp;exact hl2 (by simp only [P4,hcf]) x (hmem x hx) i hi
  ·exact hn
 ·exact hn
theorem LN (hn:Rel none none){C:Hs}{call:Ah}{K:St->Option R}{K':St->Option R'}(htm:∀x∈o.op.operands.toList,Cm tm x=Cm tm' x)(hK:∀v hp',(∀i,hp i≠none->hp' i≠none)->Rel (K ⟨Bp tm o.dst v,hp'⟩) (K' ⟨Bp tm' o.dst v,hp'⟩)):Rel (X1 C P N call ⟨tm,hp⟩ o K) (X1 C P N call ⟨tm',hp⟩ o K'):=
 L8 hn htm (fun _ _=>.inl rfl) (fun _ _=>rfl) (fun _ _=>rfl) fun v hp' hp1' hT=>by
  have:hp'=hp1':=funext fun i=>hT.same i rfl
  subst this;exact hK v hp' hT.keep
end
section
variable {R:Type} {r:R} {C:Hs} {P:Program} {N:Nat} {call:Ah} {ops:Array Oper} {o x:Oper} {s:St} {K:St->Option R}
theorem UK {tm:Nat->PV}{hp hp':Nat->Option Bn}{tm':Nat->PV}{q:AD}(hm:Ij P o.op=false)(ht:∀t∈looks ops o,tm t=tm' t)(h:gE C P N call ops o ⟨tm,hp⟩=some q):gE C P N call ops o ⟨tm',hp'⟩=some q:=
 CK (s:=⟨tm,hp⟩) (s':=⟨tm',hp'⟩) ht (fun h=>by rw [hm] at h;cases h) h
theorem EZ {tm:Nat->PV}{hp:Nat->Option Bn}(hm:Ij P o.op=false)(h:Du C P N call ops o ⟨tm,hp⟩ K=some r):
  ∃v nw,gE C P N call ops o ⟨tm,hp⟩=some (v,[],nw)∧He N o.dst=true∧B9 hp nw=true∧(∀p∈nw,o.dst=some p.1)∧K ⟨Bp tm o.dst v,A3 hp nw⟩=some r:=by
 have hM:Ul C P o.op=false:=by
  cases hh:Ul C P o.op
  ·rfl
  ·rw [BL hh] at hm;cases hm
 rw [L5 (by simp [Ht,hM])] at h
 cases e:gE C P N call ops o ⟨tm,hp⟩ with
 |none=>rw [e] at h;cases h
 |some q=>
  obtain ⟨v,fz,nw⟩:=q;obtain ⟨h1,h2⟩:=(W7 e).1 hm;simp only at h1 h2;subst h1;rw [e] at h;obtain ⟨hb,h⟩:=Ax h;simp only [Bool.and_eq_true] at hb;exact ⟨v,nw,rfl,hb.1,hb.2,h2,h⟩
theorem KQ {tm:Nat->PV}{hp:Nat->Option Bn}{v:PV}{nw:List (Nat × Bn)} (hm:Ij P o.op=false)(e:gE C P N call ops o ⟨tm,hp⟩=some (v,[],nw)) (hd:He N o.dst=true)(ha:B9 hp nw=true)(h:K ⟨Bp tm o.dst v,A3 hp nw⟩=some r):Du C P N call ops o ⟨tm,hp⟩ K=some r:=by
 have hM:Ul C P o.op=false:=by
  cases hh:Ul C P o.op
  ·rfl
  ·rw [BL hh] at hm;cases hm
 rw [L5 (by simp [Ht,hM]),e]
 show Au _ _=_;have ha':B9 hp nw=true:=ha;rw [hd,ha'];exact h
theorem O9 {hp:Nat->Option Bn}{nw:List (Nat × Bn)} (ha:B9 hp nw=true){i:Nat}(hi:∀p∈nw,p.1≠i):A3 hp nw i=hp i:=
 (Ew (Bq ha).2).2 i fun b hb=>hi _ hb rfl
theorem Ajm {hp hp':Nat->Option Bn}{nw:List (Nat × Bn)} (ha:B9 hp nw=true){g:Nat->Option Bn}(h1:∀i,(∀p∈nw,p.1≠i)->g i=hp' i) (h2:∀i,(∃p∈nw,p.1=i)->g i=A3 hp nw i) (ha':B9 hp' nw=true):g=A3 hp' nw:=by
 funext i
 by_cases h:∃p∈nw,p.1=i
 ·rw [h2 i h];obtain ⟨⟨j,b⟩,hp,rfl⟩:=h;rw [(Ew (Bq ha).2).1 j b hp,(Ew (Bq ha').2).1 j b hp]
 ·have h':∀p∈nw,p.1≠i:=fun p hp e=>h ⟨p,hp,e⟩
  rw [h1 i h',O9 ha' h']
theorem Akz (ap:BM C P ops x o)(hx:Ht C P ops x s.tm=true)
  (h:Du C P N call ops x s (fun s1=>Du C P N call ops o s1 K)=some r):Du C P N call ops o s (fun s1=>Du C P N call ops x s1 K)=some r:=by
 have hm:Ij P o.op=false:=ap.mx (by unfold Ht at hx;simp only [Bool.and_eq_true] at hx;exact hx.1)
 rw [Jh hx] at h;obtain ⟨tm,hp⟩:=s;have look:∀v,∀t∈looks ops o,Bp tm x.dst v t=tm t:=fun v=>Ff ap.xo
 have h1:=L8 (P:=P) (N:=N) (o:=x) (tm:=tm) (tm':=tm) (hp:=hp) (hp1:=hp) (K:=fun s1=>Du C P N call ops o s1 K) (K':=fun _=>none)
  (Rel:=fun (a:Option R)(_:Option R)=>a=some r->∃v nw,gE C P N call ops o ⟨tm,hp⟩=some (v,[],nw)∧He N o.dst=true∧(∀p∈nw,o.dst=some p.1)∧B9 hp nw=true) (fun h=>by cases h) (fun _ _=>rfl) (fun _ _=>.inl rfl) (fun _ _=>rfl) (fun _ _=>rfl) (fun v hp' _ hT h=>by
   obtain ⟨u,nw,hu,hd,ha,hn,_⟩:=EZ hm h;refine ⟨u,nw,UK hm (look v) hu,hd,hn,S6 ha fun i b hi=>?_⟩
   cases hh:hp i with
   |none=>rfl
   |some c=>exact absurd ((Bq ha).1 i b hi) (hT.keep i (by rw [hh];simp))) h
 obtain ⟨v,nw,hv,hd,hn,ha⟩:=h1;refine KQ hm hv hd ha ?_;have t2:∀t∈looks ops x,tm t=Bp tm o.dst v t:=fun t ht=>(Ff ap.ox t ht).symm
 rw [Jh (by rw [←H9 t2];exact hx)]
 refine L8 (P:=P) (N:=N) (o:=x) (tm:=tm) (tm':=Bp tm o.dst v) (hp:=hp) (hp1:=A3 hp nw) (Rel:=fun (a b:Option R)=>a=some r->b=some r) (fun h=>by cases h) (F9 t2) (fun i _=>?_) (fun d hxd=>?_) (fun i hi=>(O9 ha fun p hp e=>by have:=R8 hd (hn p hp);omega).symm) (fun u hp' hp1' hT h=>?_) h
 ·by_cases hi:∃p∈nw,p.1=i
  ·obtain ⟨⟨j,b⟩,hp1,rfl⟩:=hi;exact .inr ⟨(Bq ha).1 j b hp1,fun _ h=>by cases h⟩
  ·exact .inl (O9 ha fun p hp e=>hi ⟨p,hp,e⟩).symm
 ·refine (O9 ha fun p hp e=>?_).symm
  have:=hn p hp;rw [e] at this;exact ap.ne d hxd this
 ·obtain ⟨v',nw',hv',_,ha',_,h'⟩:=EZ hm h;have he:=UK (hp':=hp) hm (look u) hv';rw [hv] at he;simp only [Option.some.injEq,Prod.mk.injEq,true_and] at he;obtain ⟨rfl,rfl⟩:=he
  have hh:hp1'=A3 hp' nw:=by
   refine Ajm ha (fun i hi=>?_) (fun i hi=>?_) ha'
   ·exact (hT.same i (O9 ha hi).symm).symm
   ·obtain ⟨⟨j,b⟩,hp1,rfl⟩:=hi;refine (hT.off j (R8 hd (hn _ hp1)) (fun e=>ap.ne j e (hn _ hp1)) (.inr ((Bq ha).1 j b hp1))).2
  rw [hh,←Mc ap.ne];exact h'
theorem Akt (hw:ZL C P o s)(ap:BM C P ops x o)(ho:Ht C P ops o s.tm=true)
  (h:Du C P N call ops x s (fun s1=>Du C P N call ops o s1 K)=some r):Du C P N call ops o s (fun s1=>Du C P N call ops x s1 K)=some r:=by
 have hm:Ij P x.op=false:=ap.mo (by unfold Ht at ho;simp only [Bool.and_eq_true] at ho;exact ho.1)
 obtain ⟨tm,hp⟩:=s;obtain ⟨v,nw,hv,hd,ha,hn,h1⟩:=EZ hm h;have t1:∀t∈looks ops o,Bp tm x.dst v t=tm t:=Ff ap.xo;change Du C P N call ops o ⟨Bp tm x.dst v,A3 hp nw⟩ K=some r at h1;rw [Jh (by rw [H9 t1];exact ho)] at h1
 rw [Jh ho];have hMo:Ul C P o.op=true:=by unfold Ht at ho;simp only [Bool.and_eq_true] at ho;exact ho.1
 have hlead:∀i,AC o tm hp i->hp i≠none:=by
  rintro i (⟨y,hy,hi⟩|⟨hap,id,c,⟨y,hy,hi⟩,hc,p,hp1,hk⟩)
  ·exact hw.1 y hy i hi
  ·exact hw.2 hMo hap y hy id hi c hc p hp1 i hk
 refine L8 (P:=P) (N:=N) (o:=o) (tm:=Bp tm x.dst v) (tm':=tm) (hp:=A3 hp nw) (hp1:=hp) (Rel:=fun (a b:Option R)=>a=some r->b=some r) (fun h=>by cases h) (F9 t1) (fun i hi=>?_) (fun d hod=>?_) (fun i hi=>O9 ha fun p hp e=>by have:=R8 hd (hn p hp);omega) (fun u hp' hp1' hT h=>?_) h1
 ·refine .inl (O9 ha fun p hp' e=>hlead i hi ?_)
  rw [←e];exact (Bq ha).1 p.1 p.2 hp'
 ·refine O9 ha fun p hp' e=>?_
  have:=hn p hp';rw [e] at this;exact ap.ne d this hod
 ·have hoff:∀p∈nw,hp' p.1=A3 hp nw p.1∧hp1' p.1=none:=by
   intro p hp2;have hno:=(Bq ha).1 p.1 p.2 hp2;have h3:=hT.off p.1 (R8 hd (hn p hp2)) (fun e=>ap.ne p.1 (hn p hp2) e) (.inl fun hL=>hlead _ hL hno)
   exact ⟨h3.1,h3.2.trans hno⟩
  have ha':B9 hp1' nw=true:=S6 ha fun i b hi=>(hoff (i,b) hi).2
  refine KQ hm (UK hm (fun t ht=>(Ff ap.ox t ht).symm) hv) hd ha' ?_
  have hh:hp'=A3 hp1' nw:=by
   refine Ajm ha (fun i hi=>?_) (fun i hi=>?_) ha'
   ·exact hT.same i (O9 ha hi)
   ·obtain ⟨p,hp2,rfl⟩:=hi;exact (hoff p hp2).1
  rw [←Mc ap.ne,←hh];exact h
theorem As9 (hw:ZL C P o s)(ap:BM C P ops x o)
  (h:Du C P N call ops x s (fun s1=>Du C P N call ops o s1 K)=some r):Du C P N call ops o s (fun s1=>Du C P N call ops x s1 K)=some r:=by
 cases hx:Ht C P ops x s.tm
 ·cases ho:Ht C P ops o s.tm
  ·exact Acb hw ap.xo ap.ne ap.ox hx ho h
  ·exact Akt hw ap ho h
 ·exact Akz ap hx h
theorem Me (h:V2 P o.op=true):Ul C P o.op=false:=by
 unfold V2 at h;split at h
 ·rename_i ho;rw [ho];rfl
 ·rename_i ho;rw [ho];rfl
 ·cases h
def OS (P:Program)(ops:Array Oper)(o:Oper)(tm:Nat->PV):Prop:=V2 P o.op=true∨Gy ops o tm=some false
theorem AY {tm tm':Nat->PV}(h:∀t∈looks ops o,tm t=tm' t)(hl:OS P ops o tm):OS P ops o tm':=by
 rcases hl with hl|hl
 ·exact .inl hl
 ·exact .inr (by rw [←Mq h];exact hl)
theorem OZ {tm:Nat->PV}(hl:OS P ops o tm):Ht C P ops o tm=false:=by
 rcases hl with hl|hl
 ·simp [Ht,Me hl]
 ·simp [Ht,hl]
theorem Ac0 {q:AD}(hl:OS P ops o s.tm)(h:gE C P N call ops o s=some q):q.2.1=[]∧q.2.2=[]:=by
 unfold gE at h;split at h
 ·cases h
 ·rename_i hv
  have hl:V2 P o.op=true:=by
   rcases hl with hl|hl
   ·exact hl
   ·rw [hv] at hl;cases hl
  rw [Me hl] at h;have h:Aef C P N call o s=some q:=h;unfold V2 at hl;split at hl
  ·rename_i t a ho;unfold Aef MH at h;rw [ho] at h
   have:=RA (P:=P) (f:=rd s.hp) (f':=rd s.hp) (g:=Kz s.hp) (g':=Kz s.hp) (t:=t) (x:=Cm s.tm a) (Rel:=fun (a b:Option AD)=>∀q,a=some q->q.2.1=[]∧q.2.2=[])
    (K:=fun v=>some (v,[],[])) (K':=fun v=>some (v,[],[])) (fun _ h=>by cases h) (fun _ _=>.inl ⟨rfl,rfl⟩) (fun v q hq=>by cases hq;exact ⟨rfl,rfl⟩)
   exact this q h
  ·rename_i src dst y ho;unfold Aef MH at h;rw [ho] at h;simp only at h;unfold NK at h;split at hl
   ·rename_i hd;rw [hd] at h;simp only at h;split at h
    ·obtain ⟨_,_,h⟩:=Gb h;obtain ⟨_,_,h⟩:=Dd h;cases h;exact ⟨rfl,rfl⟩
    ·split at h
     ·exact DO (f:=Kz s.hp) (f':=Kz s.hp) (K':=fun _ _=>(none:Option AD)) (Rel:=fun (a _:Option AD)=>a=some q->q.2.1=[]∧q.2.2=[]) (fun h=>by cases h) (fun _ _=>.inl rfl) (fun n c h=>by
       obtain ⟨_,h⟩:=Ax h;obtain ⟨_,_,h⟩:=Dd h;obtain ⟨_,_,h⟩:=Dd h;cases h;exact ⟨rfl,rfl⟩) h
     ·cases h
    ·cases h
   ·cases hl
  ·cases hl
 ·cases h;exact ⟨rfl,rfl⟩
theorem Afi {tm tm':Nat->PV}{hp:Nat->Option Bn}(h:∀t∈looks ops o,tm t=tm' t){i:Nat}(hi:AC o tm hp i):AC o tm' hp i:=by
 have he:=F9 (ops:=ops) (o:=o) h;rcases hi with ⟨y,hy,hi⟩|⟨hap,id,c,⟨y,hy,hi⟩,hc,q⟩
 ·exact .inl ⟨y,hy,by rw [←he y hy];exact hi⟩
 ·exact .inr ⟨hap,id,c,⟨y,hy,by rw [←he y hy];exact hi⟩,hc,q⟩
theorem Amz {hp hp':Nat->Option Bn}{i:Nat}(h:hp' i=hp i):rd hp' i=rd hp i∧Kz hp' i=Kz hp i:=by
 unfold rd Kz;rw [h];exact ⟨rfl,rfl⟩
theorem EK {tm:Nat->PV}{hp:Nat->Option Bn}(hl:OS P ops o tm)(h:Du C P N call ops o ⟨tm,hp⟩ K=some r):
  ∃v,gE C P N call ops o ⟨tm,hp⟩=some (v,[],[])∧He N o.dst=true∧K ⟨Bp tm o.dst v,hp⟩=some r:=by
 rw [L5 (OZ hl)] at h;cases e:gE C P N call ops o ⟨tm,hp⟩ with
 |none=>rw [e] at h;cases h
 |some q=>
  obtain ⟨v,fz,nw⟩:=q;obtain ⟨h1,h2⟩:=Ac0 hl e;simp only at h1 h2;subst h1;subst h2;rw [e] at h;obtain ⟨hb,h⟩:=Ax h;simp only [Bool.and_eq_true] at hb;exact ⟨v,rfl,hb.1,h⟩
theorem NN {tm:Nat->PV}{hp:Nat->Option Bn}{v:PV}(hl:OS P ops o tm)(e:gE C P N call ops o ⟨tm,hp⟩=some (v,[],[])) (hd:He N o.dst=true)(h:K ⟨Bp tm o.dst v,hp⟩=some r):Du C P N call ops o ⟨tm,hp⟩ K=some r:=by
 rw [L5 (OZ hl),e];show Au _ _=_;have ha:B9 hp []=true:=rfl;simp only [hd,ha,Bool.and_self];exact h
theorem Alo (hw:ZL C P o s)(xo:∀d,x.dst=some d->d ∉ looks ops o)(ne:∀d,x.dst=some d->o.dst≠some d)(ox:∀d,o.dst=some d->d ∉ looks ops x)(hl:OS P ops o s.tm)
  (hfar:∀y∈o.op.operands.toList,∀i∈Bx (Cm s.tm y),¬AC x s.tm s.hp i) (hx:Ht C P ops x s.tm=true)
  (h:Du C P N call ops x s (fun s1=>Du C P N call ops o s1 K)=some r):Du C P N call ops o s (fun s1=>Du C P N call ops x s1 K)=some r:=by
 rw [Jh hx] at h;obtain ⟨tm,hp⟩:=s;have look:∀v,∀t∈looks ops o,Bp tm x.dst v t=tm t:=fun v=>Ff xo
 have back:∀{u:PV} {hp':Nat->Option Bn} {q:AD},(∀y∈o.op.operands.toList,∀i∈Bx (Cm tm y),hp' i=hp i)->gE C P N call ops o ⟨Bp tm x.dst u,hp'⟩=some q->gE C P N call ops o ⟨tm,hp⟩=some q:=
  fun hh e=>CK (s:=⟨Bp tm x.dst _,_⟩) (s':=⟨tm,hp⟩) (look _) (fun _ y hy i hi=>.inl (Amz (hh y hy i hi))) e
 have h1:=L8 (P:=P) (N:=N) (o:=x) (tm:=tm) (tm':=tm) (hp:=hp) (hp1:=hp) (K:=fun s1=>Du C P N call ops o s1 K) (K':=fun _=>none)
  (Rel:=fun (a:Option R)(_:Option R)=>a=some r->∃v,gE C P N call ops o ⟨tm,hp⟩=some (v,[],[])∧He N o.dst=true) (fun h=>by cases h) (fun _ _=>rfl) (fun _ _=>.inl rfl) (fun _ _=>rfl) (fun _ _=>rfl) (fun v hp' _ hT h=>by
   obtain ⟨u,hu,hd,_⟩:=EK (AY (fun t ht=>(look v t ht).symm) hl) h
   exact ⟨u,back (fun y hy i hi=>hT.far i (hfar y hy i hi) (hw.1 y hy i hi)) hu,hd⟩) h
 obtain ⟨v,hv,hd⟩:=h1;refine NN hl hv hd ?_;have t2:∀t∈looks ops x,tm t=Bp tm o.dst v t:=fun t ht=>(Ff ox t ht).symm
 rw [Jh (by rw [←H9 t2];exact hx)]
 refine L8 (P:=P) (N:=N) (o:=x) (tm:=tm) (tm':=Bp tm o.dst v) (hp:=hp) (hp1:=hp) (Rel:=fun (a b:Option R)=>a=some r->b=some r) (fun h=>by cases h) (F9 t2) (fun _ _=>.inl rfl) (fun _ _=>rfl) (fun _ _=>rfl) (fun u hp' hp1' hT h=>?_) h
 have e1:hp'=hp1':=funext fun i=>hT.same i rfl
 subst e1;obtain ⟨v',hv',_,h'⟩:=EK (AY (fun t ht=>(look u t ht).symm) hl) h
 have he:=back (fun y hy i hi=>hT.far i (fun hR=>hfar y hy i hi (Afi (fun t ht=>(t2 t ht).symm) hR)) (hw.1 y hy i hi)) hv'
 rw [hv] at he;simp only [Option.some.injEq,Prod.mk.injEq,and_true] at he;subst he;rw [←Mc ne];exact h'
theorem Akx (xo:∀d,x.dst=some d->d ∉ looks ops o)(ne:∀d,x.dst=some d->o.dst≠some d)(ox:∀d,o.dst=some d->d ∉ looks ops x)(hl:OS P ops x s.tm)
  (hfar:∀y∈x.op.operands.toList,∀i∈Bx (Cm s.tm y),¬AC o s.tm s.hp i) (ho:Ht C P ops o s.tm=true)
  (h:Du C P N call ops x s (fun s1=>Du C P N call ops o s1 K)=some r):Du C P N call ops o s (fun s1=>Du C P N call ops x s1 K)=some r:=by
 obtain ⟨tm,hp⟩:=s;obtain ⟨v,hv,hd,h1⟩:=EK hl h;have t1:∀t∈looks ops o,Bp tm x.dst v t=tm t:=Ff xo;rw [Jh (by rw [H9 t1];exact ho)] at h1
 rw [Jh ho];refine L8 (P:=P) (N:=N) (o:=o) (tm:=Bp tm x.dst v) (tm':=tm) (hp:=hp) (hp1:=hp) (Rel:=fun (a b:Option R)=>a=some r->b=some r) (fun h=>by cases h) (F9 t1) (fun _ _=>.inl rfl) (fun _ _=>rfl) (fun _ _=>rfl) (fun u hp' hp1' hT h=>?_) h1
 have e1:hp'=hp1':=funext fun i=>hT.same i rfl
 subst e1;have t2:∀t∈looks ops x,tm t=Bp tm o.dst u t:=fun t ht=>(Ff ox t ht).symm
 refine NN (AY t2 hl) (CK (s:=⟨tm,hp⟩) (s':=⟨Bp tm o.dst u,hp'⟩) t2 (fun _ y hy i hi=>?_) hv) hd ?_
 ·have hi:i∈Bx (Cm tm y):=by rw [F9 t2 y hy];exact hi
  by_cases hn:hp i=none
  ·exact .inr ⟨Ada hn,Mz hn⟩
  ·obtain ⟨h3,h4⟩:=Amz (hT.far i (hfar y hy i hi) hn);exact .inl ⟨h3.symm,h4.symm⟩
 ·rw [←Mc ne];exact h
def QN (P:Program)(x:Oper)(s s1:St):Prop:=(∀t,x.dst≠some t->s1.tm t=s.tm t)∧(∀i,s.hp i≠none->s1.hp i≠none)∧(Ij P x.op=false->∀i,s.hp i≠none->s1.hp i=s.hp i)
theorem Rj {tm:Nat->PV}{d:Option Tmp}{v:PV}{t:Nat}(h:d≠some t):Bp tm d v t=tm t:=by
 cases d with
 |none=>rfl
 |some d=>exact Av _ _ (by rintro rfl;exact h rfl)
theorem NE {K':St->Option R}(h:Du C P N call ops x s K=some r)(hK:∀s1,QN P x s s1->K s1=some r->K' s1=some r):Du C P N call ops x s K'=some r:=by
 cases hx:Ht C P ops x s.tm
 ·rw [L5 hx] at h ⊢;cases ex:gE C P N call ops x s with
  |none=>rw [ex] at h;cases h
  |some q=>
   rw [ex] at h;obtain ⟨hb,h1⟩:=Ax h;simp only [Bool.and_eq_true] at hb;show Au _ _=_;rw [hb.1,hb.2];refine hK _ ⟨fun t ht=>Rj ht,fun i hi=>Qk hb.2 hi,fun hm i hi=>?_⟩ h1
   show A3 (Ai s.hp q.2.1) q.2.2 i=s.hp i;rw [G4 hb.2 hi,((W7 ex).1 hm).1];simp
 ·rw [Jh hx] at h ⊢
  exact LN (P:=P) (N:=N) (o:=x) (tm:=s.tm) (tm':=s.tm) (hp:=s.hp) (Rel:=fun (a b:Option R)=>a=some r->b=some r) (fun h=>by cases h) (fun _ _=>rfl) (fun v hp' hh h=>hK _ ⟨fun t ht=>Rj ht,hh,fun hm=>by
   have hM:Ul C P x.op=true:=by unfold Ht at hx;simp only [Bool.and_eq_true] at hx;exact hx.1
   rw [BL hM] at hm;cases hm⟩ h) h
theorem ZL.keeps {s1:St}(h:ZL C P o s)(ap:BM C P ops x o)(hk:QN P x s s1):ZL C P o s1:=by
 have hop:∀y∈o.op.operands.toList,Cm s1.tm y=Cm s.tm y:=fun y hy=>F9 (ops:=ops) (o:=o) (fun t ht=>hk.1 t fun hd=>ap.xo t hd ht) y hy
 refine ⟨fun y hy i hi=>?_,fun hM hA y hy i hi c hc p hp k hkk=>?_⟩
 ·rw [hop y hy] at hi;exact hk.2.1 i (h.1 y hy i hi)
 ·rw [hop y hy] at hi;have hi0:=h.1 y hy i hi;rw [hk.2.2 (ap.mo hM) i hi0] at hc;exact hk.2.1 k (h.2 hM hA y hy i hi c hc p hp k hkk)
theorem LJ:∀(l:List Oper){s:St}{K:St->Option R},ZL C P o s->(∀x∈l,BM C P ops x o)->P5 C P N call ops l s (fun s1=>Du C P N call ops o s1 K)=some r->Du C P N call ops o s (fun s1=>P5 C P N call ops l s1 K)=some r
 |[],_,_,_,_,h=>h
 |x::l,s,K,hw,ap,h=>by
  refine As9 hw (ap x (by simp)) ?_
  refine NE (K:=fun s1=>P5 C P N call ops l s1 (fun s2=>Du C P N call ops o s2 K)) h fun s1 hk h1=>?_
  exact LJ l (hw.keeps (ap x (by simp)) hk) (fun y hy=>ap y (List.mem_cons_of_mem _ hy)) h1
theorem V0:∀(l l':List Oper){s:St}{K:St->Option R},P5 C P N call ops (l++l') s K=P5 C P N call ops l s (fun s1=>P5 C P N call ops l' s1 K)
 |[],_,_,_=>rfl
 |x::l,l',s,K=>by
  show Du C P N call ops x s (fun s1=>P5 C P N call ops (l++l') s1 K)=Du C P N call ops x s (fun s1=>P5 C P N call ops l s1 _)
  congr 1
  funext s1
  exact V0 l l'
theorem Afn {l l':List Oper}(hw:ZL C P o s)(ap:∀x∈l,BM C P ops x o)(h:P5 C P N call ops (l++o::l') s K=some r):Du C P N call ops o s (fun s1=>P5 C P N call ops (l++l') s1 K)=some r:=by
 rw [V0] at h;have:=LJ l hw ap h;refine NE this fun s1 _ h1=>?_
 rw [V0];exact h1
end
open Go.RowKit
section
variable {R:Type} {r:R} {P:Program} {N:Nat} {w0:World} {X0:Fh} {Y:Nat->Prop} {β β':Bt} {s:St} {a:Act} {w w':World} {o:Oper} {ops:Array Oper} {C:Hs} {call:Ah} {K:St->Option R}
theorem Ud (h:B4 N w0 X0 Y β s a w){j d:Nat}(hd:(ops[j]?).bind (·.dst)=some d) {v:Value}(ht:s.tm d=.sc v):yielded ops a.tmps j=match v with | .bool b=>some b|_=>none:=by
 have hlt:d<N:=by
  rcases Nat.lt_or_ge d N with h'|h'
  ·exact h'
  ·rw [h.tmo d h'] at ht;cases ht
 have hv:=h.tms d hlt;rw [ht] at hv;have hv:=Ql hv;have hlt':d<a.tmps.size:=by rw [h.tsz];exact hlt
 have he:a.tmps[d]?=some v:=by
  rw [Array.getElem?_eq_getElem hlt'];simp [hlt'] at hv;rw [hv]
 unfold yielded;rw [hd];simp only [Option.bind_some,he];cases v<;>rfl
theorem AV (h:B4 N w0 X0 Y β s a w){G:Vq}(hNG:IM P G w0 X0)(hcall:∀f args res,call f args=some res->C9 G P f args res){i:Nat}(hi:ops[i]?=some o) (hk:Du C P N call ops o s K=some r):
  ∃s',K s'=some r∧∀(next:Act->World->Prop) (Q:Exit->Act->World->Prop),(∀a' w' β',B4 N w0 X0 Y β' s' a' w'->next a' w')->wpOp P ops Q i next a w:=by
 rw [JA] at hk
 have hw:∀b,Gy ops o s.tm=some b->Region.wanted o (yielded ops a.tmps)=b:=by
  intro b hb;unfold Gy at hb;unfold Region.wanted;cases hg:o.guard with
  |none=>rw [hg] at hb;simpa using hb
  |some q=>
   obtain ⟨j,want⟩:=q;rw [hg] at hb;simp only at hb ⊢;cases hd:(ops[j]?).bind (·.dst) with
   |none=>rw [hd] at hb;cases hb
   |some d=>
    rw [hd] at hb;simp only at hb;split at hb
    ·rename_i b' ht;rw [Ud h hd ht];simp at hb;rw [←hb];cases b'<;>cases want<;>rfl
    ·rename_i ht;rw [Ud h hd ht];simp at hb;rw [hb];rfl
    ·cases hb
 split at hk
 ·cases hk
 ·rename_i hv;obtain ⟨s',hs',hn⟩:=KM h hNG hcall hk;refine ⟨s',hs',fun next Q hnext=>?_⟩
  unfold wpOp;rw [hi];simp only [hw _ hv,if_true];exact .inl (hn next Q hnext)
 ·rename_i hv;obtain ⟨hd,hk⟩:=Ax hk;refine ⟨_,hk,fun next Q hnext=>?_⟩
  unfold wpOp;rw [hi];simp only [hw _ hv];refine hnext _ _ β (h.put hd (A7.sc _) (by simp [Bx,Cf,Ay]))
theorem B4.known (h:B4 N w0 X0 Y β s a w){d:Nat}(hd:s.tm d=.ub):∃b,B4 N w0 X0 Y β ⟨Cz s.tm d (.sc (.bool b)),s.hp⟩ a w:=by
 have hlt:d<N:=by
  rcases Nat.lt_or_ge d N with h'|h'
  ·exact h'
  ·rw [h.tmo d h'] at hd;cases hd
 have hu:=h.tms d hlt;rw [hd] at hu;have hu':A7 w (C1 s.hp β Y) .ub (a.tmps.getD d undef):=hu
 obtain ⟨b,hv⟩:∃b,a.tmps.getD d undef=.bool b:=by
  generalize a.tmps.getD d undef=x at hu';cases hu' with
  |ub b=>exact ⟨b,rfl⟩
 refine ⟨b,⟨h.dfr,h.tsz,fun i hi=>?_,fun i hi=>?_,h.box,h.inj,h.blt,fun i hi=>?_,h.wfB,h.ownd,h.rngB,h.pin,h.stp,h.Yx,h.Ylt,h.fr⟩⟩
 ·show Cz s.tm d _ i=_;rw [Av _ _ (by omega)]
  exact h.tmo i hi
 ·by_cases e:i=d
  ·subst e;show Dx _ _ _ (Cz s.tm i _ i) _;rw [Az,hv];exact A7.sc _
  ·show Dx _ _ _ (Cz s.tm d _ i) _;rw [Av _ _ e];exact h.tms i hi
 ·by_cases e:i=d
  ·subst e;show ∀id∈Bx (Cz s.tm i _ i),_;rw [Az];simp [Bx,Cf,Ay]
  ·show ∀id∈Bx (Cz s.tm d _ i),_;rw [Av _ _ e];exact h.wfT i hi
theorem QP {x y:Option R}(h:Yu x y=some r):x=some r∧y=some r:=by
 unfold Yu at h;split at h
 ·rename_i e;exact ⟨h,e ▸ h⟩
 ·cases h
theorem Tt (h:B4 N w0 X0 Y β s a w){F:St->Option R}(hk:Ab3 ops o s F=some r):∃s',F s'=some r∧B4 N w0 X0 Y β s' a w:=by
 unfold Ab3 at hk;split at hk
 ·exact ⟨s,hk,h⟩
 ·split at hk
  ·exact ⟨s,hk,h⟩
  ·split at hk
   ·rename_i d _ ht;obtain ⟨b,hb⟩:=h.known ht;obtain ⟨h1,h2⟩:=QP hk;cases b
    ·exact ⟨_,h2,hb⟩
    ·exact ⟨_,h1,hb⟩
   ·exact ⟨s,hk,h⟩
theorem DH {G:Vq}(hNG:IM P G w0 X0)(hcall:∀f args res,call f args=some res->C9 G P f args res){Q:Exit->Act->World->Prop}(hQ:∀s' a' w' β',K s'=some r->B4 N w0 X0 Y β' s' a' w'->Q .normal a' w'):
  ∀(l:List Nat) (os:List Oper),l.length=os.length->(∀(k i:Nat),l[k]?=some i->ops[i]?=os[k]?)->∀{s:St} {a:Act} {w:World} {β:Bt},B4 N w0 X0 Y β s a w->Nx C P N call ops os s K=some r->wpOps P ops Q l a w
 |[],[],_,_,s,a,w,β,h,hk=>by
  show Q .normal a w;exact hQ s a w β hk h
 |[],_::_,hl,_,_,_,_,_,_,_=>by cases hl
 |_::_,[],hl,_,_,_,_,_,_,_=>by cases hl
 |i::l,o::os,hl,hi,s,a,w,β,h,hk=>by
  rw [wpOps_cons];obtain ⟨s1,hk,h⟩:=Tt h hk;obtain ⟨s',hs',hn⟩:=AV h hNG hcall (by simpa using hi 0 i rfl) hk
  exact hn _ _ fun a' w' β' h'=>DH hNG hcall hQ l os (by simpa using hl) (fun k j hj=>by simpa using hi (k+1) j (by simpa using hj)) h' hs'
theorem B4.drew (h:B4 N w0 X0 Y β s a w):B4 N w0 X0 Y β s a { w with drawn:=w.drawn+1 }:=by
 have:=h.stepR (d:=none) (v:=.top) (nw:=[]) (val:=undef) (w':={ w with drawn:=w.drawn+1 }) (β':=β) rfl rfl
  ⟨rfl,rfl,rfl,⟨Nat.le_refl _,fun _ _ _=>rfl,fun _ _=>Nat.le_refl _⟩,fun _ _=>rfl,by simp,by simp,by simp,by simp,by simp,.top _,by simp [Bx,Cf,Ay]⟩
 exact this
theorem UM (h:B4 N w0 X0 Y β s a w){G:Vq}(hNG:IM P G w0 X0)(hcall:∀f args res,call f args=some res->C9 G P f args res){id:Nat}{Q:Exit->Act->World->Prop}
  (hk:Nx C P N call ops ops.toList s K=some r)(hQ:∀s' a' w' β',K s'=some r->B4 N w0 X0 Y β' s' a' w'->Q .normal a' w'):(Code.region id ops false).wp P Q a w:=by
 refine wp_region (DH hNG hcall hQ (List.range ops.size) ops.toList (by simp) (fun k i hi=>?_) h hk)
 rw [List.getElem?_range] at hi
 ·simp at hi;subst hi;simp
 ·rcases Nat.lt_or_ge k ops.size with h'|h'
  ·exact h'
  ·rw [List.getElem?_eq_none (by simpa using h')] at hi;cases hi
def O0 (n:Nat)(listed:Array Bool):List Nat:=(List.range n).filter fun i=> !listed.getD i true
def Aoh (ops:Array Oper)(listed:Array Bool)(o:Oper):Prop:=∀e∈o.after,Region.binds .any e=true->listed.getD e.on false=true
theorem testBit_or {a b j:Nat}:(a ||| b).testBit j=(a.testBit j||b.testBit j):=Nat.testBit_or a b j
theorem RQ {acc:List Nat}{j:Nat}:∀(es:List Edge)(v:Nat),(es.foldl (fun s e=>bif Region.binds .any e then s ||| 2 ^ e.on ||| acc.getD e.on 0 else s) v).testBit j=true ->
  v.testBit j=true∨∃e∈es,Region.binds .any e=true∧(j=e.on∨(acc.getD e.on 0).testBit j=true)
 |[],v,h=>.inl h
 |e::es,v,h=>by
  rcases RQ es _ h with h|⟨e',he',h⟩
  ·cases hb:Region.binds .any e<;>simp only [hb] at h
   ·exact .inl h
   ·simp only [cond_true,Nat.testBit_or,Bool.or_eq_true] at h;rcases h with (h|h)|h
    ·exact .inl h
    ·refine .inr ⟨e,by simp,hb,.inl ?_⟩
     rw [Nat.testBit_two_pow] at h;exact (of_decide_eq_true h).symm
    ·exact .inr ⟨e,by simp,hb,.inr h⟩
  ·exact .inr ⟨e',by simp [he'],h⟩
theorem Ue {listed:Array Bool}(hc:∀(j:Nat) oj,ops[j]?=some oj->listed.getD j false=true->Aoh ops listed oj):
  ∀(rest done:List Oper) (acc:List Nat),ops.toList=done++rest->acc.length=done.length ->
   (∀(k:Nat) o,done[k]?=some o->Aoh ops listed o->∀j,(acc.getD k 0).testBit j=true->listed.getD j false=true) ->
   ∀(k:Nat) o,ops[k]?=some o->Aoh ops listed o->∀j,((Jb rest acc).getD k 0).testBit j=true->listed.getD j false=true
 |[],done,acc,he,_,h,k,o,ho,hf,j,hj=>by
  refine h k o ?_ hf j hj;rw [List.append_nil] at he;rw [←he]
  simpa using ho
 |o'::rest,done,acc,he,hl,h,k,o,ho,hf,j,hj=>by
  refine Ue hc rest (done++[o']) _ (by rw [he];simp) (by simp [hl]) ?_ k o ho hf j hj
  intro k o ho hf j hj;rcases Nat.lt_trichotomy k done.length with hlt|heq|hgt
  ·rw [List.getElem?_append_left hlt] at ho;rw [List.getD_eq_getElem?_getD,List.getElem?_append_left (by omega),←List.getD_eq_getElem?_getD] at hj
   exact h k o ho hf j hj
  ·subst heq;simp at ho;subst ho;rw [←hl] at hj;simp only [List.getD_eq_getElem?_getD,List.getElem?_append_right (Nat.le_refl _),Nat.sub_self,List.getElem?_cons_zero,Option.getD_some] at hj
   have hj:(o'.after.toList.foldl (fun s e=>bif Region.binds .any e then s ||| 2 ^ e.on ||| acc.getD e.on 0 else s) 0).testBit j=true:=by
    simpa only [List.getD_eq_getElem?_getD] using hj
   rcases RQ _ _ hj with h0|⟨e,hm,hb,h1⟩
   ·simp at h0
   ·have hl1:=hf e (by simpa using hm) hb
    rcases h1 with h1|h1
    ·rw [h1];exact hl1
    ·cases hd:done[e.on]? with
     |none=>
      have:acc.getD e.on 0=0:=by
       rw [List.getD_eq_getElem?_getD,List.getElem?_eq_none (by rw [hl];exact List.getElem?_eq_none_iff.1 hd)]
       rfl
      rw [this] at h1;simp at h1
     |some oe=>
      have hoe:ops[e.on]?=some oe:=by
       rw [←Array.getElem?_toList,he,List.getElem?_append_left (by
        rcases Nat.lt_or_ge e.on done.length with h'|h'
        ·exact h'
        ·rw [List.getElem?_eq_none h'] at hd;cases hd)]
       exact hd
      exact h e.on oe hd (hc e.on oe hoe hl1) j h1
  ·rw [List.getElem?_eq_none (by simp;omega)] at ho
   cases ho
theorem EC {bs:List Nat}:∀(l:List Oper)(n:Nat),IR C P ops bs l n=true->∀(k:Nat) o,l[k]?=some o->∀(j:Nat) x,ops[j]?=some x->j<n+k->LS C P ops x o=true->(bs.getD (n+k) 0).testBit j=true
 |[],_,_,k,o,ho,_,_,_,_,_=>by simp at ho
 |o'::l,n,h,k,o,ho,j,x,hx,hj,hcl=>by
  simp only [IR,Bool.and_eq_true] at h;cases k with
  |zero=>
   simp at ho;subst ho
   have:=List.all_eq_true.1 h.1 (x,j) (by
    rw [List.mem_zipIdx_iff_getElem?]
    simpa using hx)
   simp only [hcl,Bool.not_true,Bool.or_false,Bool.or_eq_true,Bool.not_eq_true'] at this;rcases this with h'|h'
   ·have:Nat.blt j n=true:=Nat.ble_eq_true_of_le (by omega)
    rw [this] at h';cases h'
   ·exact h'
  |succ k=>
   have:=EC l (n+1) h.2 k o (by simpa using ho) j x hx (by omega) hcl
   rwa [show n+(k+1)=n+1+k by omega]
theorem Km {n i:Nat}{listed:Array Bool}:i∈O0 n listed↔i<n∧listed.getD i true=false:=by
 unfold O0;simp [List.mem_filter]
theorem AJ {n i:Nat}{listed:Array Bool}(hi:i∈O0 n listed)(hsz:listed.size=n):∃l1 l2,O0 n listed=l1++i::l2∧O0 n (listed.setIfInBounds i true)=l1++l2∧∀j∈l1,j<i:=by
 obtain ⟨hlt,hun⟩:=Km.1 hi
 have hr:List.range n=List.range i++i::(List.range (n-i-1)).map (i+1 + ·):=by
  conv=>lhs;rw [show n=i+(1+(n-i-1)) by omega]
  rw [List.range_add,List.range_add];simp [Nat.add_assoc]
 refine ⟨(List.range i).filter fun i=> !listed.getD i true,((List.range (n-i-1)).map (i+1 + ·)).filter fun i=> !listed.getD i true,?_,?_,fun j hj=>?_⟩
 ·unfold O0;rw [hr,List.filter_append,List.filter_cons_of_pos (by rw [hun];rfl)]
 ·unfold O0;rw [hr,List.filter_append,List.filter_cons_of_neg (by simp [hsz,hlt])]
  congr 1
  ·refine List.filter_congr fun j hj=>?_
   rw [getD_set_ne true (by have:=List.mem_range.1 hj;omega)]
  ·refine List.filter_congr fun j hj=>?_
   obtain ⟨k,_,rfl⟩:=List.mem_map.1 hj;rw [getD_set_ne true (by omega)]
 ·exact List.mem_range.1 (List.mem_filter.1 hj).1
theorem Aj5 (h:B4 N w0 X0 Y β s a w)(o:Oper):ZL C P o s:=by
 refine ⟨fun y _ i hi=>Fu h y i hi,fun _ _ y _ i hi c hc p hp k hk=>h.wfB i c hc p hp k hk⟩
theorem PY (hok1:(ops.toList.zipIdx.all fun q=>q.1.after.toList.all fun e=> !Region.binds .any e||Nat.blt e.on q.2)=true) {listed:Array Bool}(inv:HeadInv .any ops ops.size listed)(hr:Region.ready .any ops listed=[]):O0 ops.size listed=[]:=by
 cases hp:O0 ops.size listed with
 |nil=>rfl
 |cons i l=>
  exfalso;have hi:i∈O0 ops.size listed:=by rw [hp];simp
  obtain ⟨hlt,hun⟩:=Km.1 hi;obtain ⟨l1,l2,h1,_,h3⟩:=AJ hi inv.size
  have hl1:l1=[]:=by
   cases l1 with
   |nil=>rfl
   |cons j l1=>
    rw [hp] at h1;simp at h1;have:=h3 j (by simp)
    omega
  subst hl1
  have hmin:∀j,j<i->listed.getD j false=true:=by
   intro j hj;cases hh:listed.getD j false with
   |true=>rfl
   |false=>
    have:j∈O0 ops.size listed:=Km.2 ⟨by omega,getD_in (by rw [inv.size];omega) hh⟩
    have hs:(O0 ops.size listed).Pairwise (· < ·):=List.Pairwise.filter _ List.pairwise_lt_range
    rw [h1] at this hs;simp at this;rcases this with e|e
    ·omega
    ·have:=(List.pairwise_cons.1 hs).1 j e;omega
  have:i∈Region.ready .any ops listed:=by
   refine mem_ready.2 ⟨hun,ops[i],Array.getElem?_eq_getElem hlt,fun e he hb=>hmin _ ?_⟩
   have:=List.all_eq_true.1 hok1 (ops[i],i) (by
    rw [List.mem_zipIdx_iff_getElem?];simp [hlt])
   have:=List.all_eq_true.1 this e (Array.mem_toList_iff.2 he);simp only [hb,Bool.not_true,Bool.false_or] at this;exact Nat.lt_of_succ_le (Nat.le_of_ble_eq_true this)
  rw [hr] at this;simp at this
theorem TJ {G:Vq}(hNG:IM P G w0 X0)(hcall:∀f args res,call f args=some res->C9 G P f args res)(hok:JF C P ops=true){Q:Exit->Act->World->Prop}(hQ:∀s' a' w' β',K s'=some r->B4 N w0 X0 Y β' s' a' w'->Q .normal a' w'):
  ∀(fuel:Nat) {listed:Array Bool} {s:St} {a:Act} {w:World} {β:Bt},HeadInv .any ops ops.size listed->(O0 ops.size listed).length=fuel->B4 N w0 X0 Y β s a w->P5 C P N call ops ((O0 ops.size listed).filterMap (ops[·]?)) s K=some r->wpAny P .any ops Q fuel listed a w:=by
 unfold JF at hok;simp only [Bool.and_eq_true] at hok;obtain ⟨hok1,hok2⟩:=hok;intro fuel
 induction fuel with
 |zero=>
  intro listed s a w β inv hf h hk;have hp:=List.eq_nil_of_length_eq_zero hf;rw [hp] at hk;refine ⟨?_,hQ s a w β hk h⟩;cases hr:Region.ready .any ops listed with
  |nil=>rfl
  |cons i l=>
   exfalso;have hi:i∈Region.ready .any ops listed:=by rw [hr];simp
   obtain ⟨hun,o,ho,_⟩:=mem_ready.1 hi;have:i∈O0 ops.size listed:=Km.2 ⟨(Array.getElem?_eq_some_iff.1 ho).1,hun⟩;rw [hp] at this;simp at this
 |succ fuel ih=>
  intro listed s a w β inv hf h hk;refine ⟨fun hr=>?_,fun i hi=>?_⟩
  ·rw [PY hok1 inv hr] at hf;cases hf
  ·obtain ⟨hun,o,ho,hall⟩:=mem_ready.1 hi;have hlt:i<ops.size:=(Array.getElem?_eq_some_iff.1 ho).1;obtain ⟨l1,l2,h1,h2,h3⟩:=AJ (Km.2 ⟨hlt,hun⟩) inv.size;rw [h1,List.filterMap_append,List.filterMap_cons_some ho] at hk
   have hap:∀x∈l1.filterMap (ops[·]?),BM C P ops x o:=by
    intro x hx;obtain ⟨j,hj,hxj⟩:=List.mem_filterMap.1 hx;refine Aiv ?_;cases hcl:LS C P ops x o with
    |false=>rfl
    |true=>
     exfalso;have hbit:=EC ops.toList 0 hok2 i o (by simpa using ho) j x hxj (by have:=h3 j hj;omega) hcl
     rw [Nat.zero_add] at hbit;have hjl:=Ue (listed:=listed) (fun j oj hj hl=>inv.closed j oj hj hl) ops.toList [] [] (by simp) rfl (by simp) i o ho hall j hbit
     have:j∈O0 ops.size listed:=by rw [h1];simp [hj]
     have:=getD_both (Km.1 this).2;rw [hjl] at this;cases this
   obtain ⟨s',hs',hn⟩:=AV h hNG hcall ho (Afn (Aj5 h o) hap hk);refine hn _ _ fun a' w' β' h'=>ih (inv.set hi hlt) ?_ h' ?_
   ·rw [h2];rw [h1] at hf;simp at hf ⊢;omega
   ·rw [h2,List.filterMap_append];exact hs'
theorem S1 (h:B4 N w0 X0 Y β s a w){G:Vq}(hNG:IM P G w0 X0)(hcall:∀f args res,call f args=some res->C9 G P f args res)(hm:P.follows .mixedOrders=true)(hok:JF C P ops=true){Q:Exit->Act->World->Prop}
  (hk:P5 C P N call ops ops.toList s K=some r)(hQ:∀s' a' w' β',K s'=some r->B4 N w0 X0 Y β' s' a' w'->Q .normal a' w'):wpAny P .any ops Q ops.size (Array.replicate ops.size false) a { w with drawn:=w.drawn+1 }:=by
 have hp:O0 ops.size (Array.replicate ops.size false)=List.range ops.size:=by
  unfold O0;refine List.filter_eq_self.2 fun i hi=>?_
  have:=List.mem_range.1 hi;simp [this]
 refine TJ (C:=C) hNG hcall hok hQ ops.size ⟨by simp,fun j oj _ hl=>(by rw [getD_replicate_false] at hl;cases hl),fun t ht ht'=>by omega⟩ (by rw [hp];simp) h.drew ?_
 rw [hp]
 have:(List.range ops.size).filterMap (ops[·]?)=ops.toList:=by
  refine List.ext_getElem? fun k=>?_
  have:∀(n:Nat),n<=ops.size->(List.range n).filterMap (ops[·]?)=ops.toList.take n:=by
   intro n
   induction n with
   |zero=>intro _;rfl
   |succ n ih=>
    intro hn;rw [List.range_succ,List.filterMap_append,ih (by omega),List.take_add_one]
    congr 1
    have:ops[n]?=some ops[n]:=Array.getElem?_eq_getElem (by omega)
    simp [this]
  rw [this ops.size (Nat.le_refl _)]
  congr 1
  exact List.take_of_length_le (by simp)
 rw [this];exact hk
theorem SD (h:B4 N w0 X0 Y β s a w){G:Vq}(hNG:IM P G w0 X0)(hcall:∀f args res,call f args=some res->C9 G P f args res)(hm:P.follows .mixedOrders=true)(hok:JF C P ops=true){id:Nat}{Q:Exit->Act->World->Prop}
  (hk:P5 C P N call ops ops.toList s K=some r)(hQ:∀s' a' w' β',K s'=some r->B4 N w0 X0 Y β' s' a' w'->Q .normal a' w'):(Code.region id ops true).wp P Q a w:=
 wp_region_any hm (S1 h hNG hcall hm hok hk hQ)
end
end
section
open Go.RowKit
section
variable {R R':Type} {Rel:Option R->Option R'->Prop} {P:Program} {N:Nat} {tm tm':Nat->PV} {hp hp1:Nat->Option Bn} {o:Oper}
theorem Afc (hn:Rel none none){C:Hs}{call:Ah}{K:St->Option R}{K':St->Option R'}(hap:P4 o.op=true)(htm:∀x∈o.op.operands.toList,Cm tm x=Cm tm' x)
  (hS:∀i,AC o tm' hp1 i->hp i=hp1 i∨(hp i=none∧∀b,Rel none b)) (hdd:∀d,o.dst=some d->hp d=hp1 d)
  (hK:∀v hp' hp1',(∀M,OU M (AC o tm' hp1) o.dst hp hp1 hp' hp1')->Rel (K ⟨Bp tm o.dst v,hp'⟩) (K' ⟨Bp tm' o.dst v,hp1'⟩)):Rel (X1 C P N call ⟨tm,hp⟩ o K) (X1 C P N call ⟨tm',hp1⟩ o K'):=by
 unfold X1;have hl:∀x∈o.op.operands.toList,∀i∈Bx (Cm tm' x),AC o tm' hp1 i:=fun x hx i hi=>.inl ⟨x,hx,hi⟩
 generalize hLd:AC o tm' hp1=S at *
 generalize hop:o.op=op at *
 unfold P4 at hap;split at hap
 ·rename_i c
  have hmem:∀x∈c.args.toList,x∈(Op.call c).operands.toList:=by
   intro x hx;simp only [Op.operands,Call.operands,Array.toList_append,List.mem_append];exact .inr hx
  split at hap
  ·rename_i hc;simp only [hc];refine D2 hn fun d hd=>Bl hn fun x _ hx=>Bl hn fun y _ hy=>Fw hn (Bl hn fun _ _ _=>Bl hn fun _ _ _=>?_)
   subst hy;have hxm:=hmem x (by rw [hx];simp)
   have hym:=hmem y (by rw [hx];simp)
   simp only [htm x hxm,htm y hym];refine DR hn hS (hdd d hd) (fun i hi=>hl x hxm i (Gh hi)) (fun i hi=>hl y hym i (Gh hi)) fun v hp' hp1' hh=>?_
   have:=hK v hp' hp1' (by rw [hd];exact hh)
   rw [hd] at this;exact this
  ·cases hap
 ·cases hap
theorem So {C:Hs}{call:Ah}(hap:P4 o.op=true)(htm:∀x∈o.op.operands.toList,Cm tm x=Cm tm' x)(hS:∀i,AC o tm' hp1 i->hp i=hp1 i)(hdd:∀d,o.dst=some d->hp d=hp1 d){s1:St}
  (h:X1 C P N call ⟨tm,hp⟩ o some=some s1):∃v hp' hp1',s1=⟨Bp tm o.dst v,hp'⟩∧X1 C P N call ⟨tm',hp1⟩ o some=some ⟨Bp tm' o.dst v,hp1'⟩∧∀M,OU M (AC o tm' hp1) o.dst hp hp1 hp' hp1':=by
 have:=Afc (P:=P) (N:=N) (C:=C) (call:=call) (o:=o) (tm:=tm) (tm':=tm') (hp:=hp) (hp1:=hp1) (K:=some) (K':=some)
  (Rel:=fun (a b:Option St)=>∀s1,a=some s1->∃v hp' hp1',s1=⟨Bp tm o.dst v,hp'⟩∧b=some ⟨Bp tm' o.dst v,hp1'⟩∧∀M,OU M (AC o tm' hp1) o.dst hp hp1 hp' hp1') (fun _ h=>by cases h) hap htm (fun i hi=>.inl (hS i hi)) hdd
  (fun v hp' hp1' hT s1 h=>by cases h;exact ⟨v,hp',hp1',rfl,rfl,hT⟩)
 exact this s1 h
end
section
variable {R R':Type} {r:R} {r':R'} {C:Hs} {P:Program} {N:Nat} {call:Ah} {ops:Array Oper} {o x:Oper} {s s1 s2:St} {K:St->Option R}
theorem V8 {tm:Nat->PV}(h:Ht C P ops o tm=true):Ul C P o.op=true:=by
 unfold Ht at h;simp only [Bool.and_eq_true] at h;exact h.1
theorem UB (h:P4 o.op=true):Ul C P o.op=true:=by
 unfold P4 at h;split at h
 ·rename_i c hc;rw [hc];split at h
  ·rename_i hcc;simp only [Ul,hcc];exact h
  ·cases h
 ·cases h
theorem Pp (h:Du C P N call ops x s K=some r):∃s1,Du C P N call ops x s some=some s1∧QN P x s s1∧(V2 P x.op=true->s1.hp=s.hp)∧K s1=some r:=by
 cases hx:Ht C P ops x s.tm
 ·rw [L5 hx] at h ⊢;cases ex:gE C P N call ops x s with
  |none=>rw [ex] at h;cases h
  |some q=>
   rw [ex] at h;obtain ⟨hb,h1⟩:=Ax h;simp only [Bool.and_eq_true] at hb;refine ⟨_,?_,⟨fun t ht=>Rj ht,fun i hi=>Qk hb.2 hi,fun hm i hi=>?_⟩,fun hl=>?_,h1⟩
   ·show Au _ _=_;rw [hb.1,hb.2];rfl
   ·show A3 (Ai s.hp q.2.1) q.2.2 i=s.hp i;rw [G4 hb.2 hi,((W7 ex).1 hm).1];simp
   ·show A3 (Ai s.hp q.2.1) q.2.2=s.hp;obtain ⟨h1,h2⟩:=Ac0 (.inl hl) ex;rw [h1,h2]
    funext i
    show Ai s.hp [] i=_;rw [Ca];simp
 ·rw [Jh hx] at h ⊢
  exact LN (P:=P) (N:=N) (o:=x) (tm:=s.tm) (tm':=s.tm) (hp:=s.hp) (K':=some) (Rel:=fun (a:Option R) (b:Option St)=>a=some r->∃s1,b=some s1∧QN P x s s1∧(V2 P x.op=true->s1.hp=s.hp)∧K s1=some r) (fun h=>by cases h) (fun _ _=>rfl) (fun v hp' hh h=>⟨_,rfl,⟨fun t ht=>Rj ht,hh,fun hm=>(by
   rw [BL (V8 hx)] at hm;cases hm)⟩,fun hl=>(by
   have:=V8 hx;rw [Me hl] at this;cases this),h⟩) h
theorem Xn {K':St->Option R'}(h:Du C P N call ops x s some=some s1)(hk:K' s1=some r'):Du C P N call ops x s K'=some r':=by
 cases hx:Ht C P ops x s.tm
 ·rw [L5 hx] at h ⊢;cases ex:gE C P N call ops x s with
  |none=>rw [ex] at h;cases h
  |some q=>
   rw [ex] at h;obtain ⟨hb,h1⟩:=Ax h;show Au _ _=_;rw [hb];cases h1;exact hk
 ·rw [Jh hx] at h ⊢;exact LN (P:=P) (N:=N) (o:=x) (tm:=s.tm) (tm':=s.tm) (hp:=s.hp) (K:=some) (Rel:=fun (a:Option St) (b:Option R')=>a=some s1->b=some r') (fun h=>by cases h) (fun _ _=>rfl) (fun v hp' hh h=>by cases h;exact hk) h
theorem TA {d:Nat}{t tx:TypeId}{b y:PV}(h:Rg P N s d t tx b y K=some r):s.hp d=none:=by
 unfold Rg at h;split at h
 ·obtain ⟨_,h⟩:=Ax h;cases hI:BP P tx
  ·rw [hI,cond_false] at h;refine FF (P:=P) (tm:=s.tm) (tm':=s.tm) (hp:=s.hp) (hp1:=s.hp) (S:=fun _=>True) (K':=fun _ _=>(none:Option R)) (Rel:=fun (a:Option R) (_:Option R)=>a=some r->s.hp d=none) (fun h=>by cases h) (fun _ _=>.inl rfl) (fun _ _=>trivial) (fun m new h=>?_) h
   split at h
   ·split at h
    ·obtain ⟨hb,_⟩:=Ax h;simp only [Bool.and_eq_true,Option.isNone_iff_eq_none] at hb;simp only [hb]
    ·cases h
   ·obtain ⟨_,_,_,h,_⟩:=Gt h;obtain ⟨hb,_⟩:=Ax h;simp only [Bool.and_eq_true,Option.isNone_iff_eq_none] at hb;simp only [hb]
  ·rw [hI,cond_true] at h;unfold V3 at h;obtain ⟨_,_,_,h⟩:=Dp h;obtain ⟨_,_,_,h,_⟩:=Gt h;obtain ⟨hb,_⟩:=Ax h;simp only [Bool.and_eq_true,Option.isNone_iff_eq_none] at hb;simp only [hb]
 ·cases h
theorem Alz (hw:ZL C P o s)(hwx:∀y∈x.op.operands.toList,∀i∈Bx (Cm s.tm y),s.hp i≠none) (xo:∀d,x.dst=some d->d ∉ looks ops o)(ne:∀d,x.dst=some d->o.dst≠some d)(ox:∀d,o.dst=some d->d ∉ looks ops x)
  (hax:P4 x.op=true)(hao:P4 o.op=true)(hfar:∀i,AC x s.tm s.hp i->¬AC o s.tm s.hp i)(hx:Ht C P ops x s.tm=true)(ho:Ht C P ops o s.tm=true)
  (h:Du C P N call ops x s (fun s1=>Du C P N call ops o s1 K)=some r):Du C P N call ops o s (fun s1=>Du C P N call ops x s1 K)=some r:=by
 obtain ⟨tm,hp⟩:=s;obtain ⟨s1,e1,_,_,h⟩:=Pp h;obtain ⟨s2,e2,_,_,h⟩:=Pp h;rw [Jh hx] at e1
 have hSx:∀i,AC x tm hp i->hp i≠none:=by
  rintro i (⟨y,hy,hi⟩|⟨hap,_⟩)
  ·exact hwx y hy i hi
  ·rw [hax] at hap;cases hap
 have hSo:∀i,AC o tm hp i->hp i≠none:=by
  rintro i (⟨y,hy,hi⟩|⟨hap,_⟩)
  ·exact hw.1 y hy i hi
  ·rw [hao] at hap;cases hap
 obtain ⟨vx,hpx,hpx',rfl,e1',T1⟩:=So hax (fun _ _=>rfl) (fun _ _=>rfl) (fun _ _=>rfl) e1
 have:hpx'=hpx:=by
  rw [e1] at e1';injection e1' with q;injection q with _ q;exact q.symm
 subst this;have t1:∀t∈looks ops o,Bp tm x.dst vx t=tm t:=Ff xo;have t1o:=F9 (ops:=ops) (o:=o) t1;rw [Jh (by rw [H9 t1];exact ho)] at e2
 have hRo:∀i,AC o (Bp tm x.dst vx) hpx' i↔AC o tm hp i:=by
  intro i;constructor
  ·rintro (⟨y,hy,hi⟩|⟨hap,_⟩)
   ·exact .inl ⟨y,hy,by rw [←t1o y hy];exact hi⟩
   ·rw [hao] at hap;cases hap
  ·rintro (⟨y,hy,hi⟩|⟨hap,_⟩)
   ·exact .inl ⟨y,hy,by rw [t1o y hy];exact hi⟩
   ·rw [hao] at hap;cases hap
 have hfree:∀{s:St} {o:Oper} {s2:St},P4 o.op=true->X1 C P N call s o some=some s2->∀d,o.dst=some d->s.hp d=none:=by
  intro s o s2 hao e d hd;unfold X1 at e;unfold P4 at hao;split at hao
  ·rename_i c hc;rw [hc] at e;simp only at e;split at hao
   ·rename_i hcc;rw [hcc] at e;simp only [hd,E5] at e;obtain ⟨_,_,_,e⟩:=Be e;obtain ⟨_,_,_,e⟩:=Be e;obtain ⟨_,e⟩:=Dt e;obtain ⟨_,_,_,e⟩:=Be e;obtain ⟨_,_,_,e⟩:=Be e;exact TA e
   ·cases hao
  ·cases hao
 have hpo0:∀d,o.dst=some d->hp d=none:=by
  intro d hd;have h0:=hfree hao e2 d hd;cases hh:hp d with
  |none=>rfl
  |some b=>exact absurd h0 ((T1 0).keep d (by rw [hh];simp))
 have hpx0:=hfree hax e1;simp only at hpx0;have hoS:∀d,o.dst=some d->¬AC x tm hp d:=fun d hd hR=>hSx d hR (hpo0 d hd)
 have hxS:∀d,x.dst=some d->¬AC o tm hp d:=fun d hd hR=>hSo d hR (hpx0 d hd)
 obtain ⟨vo,hpxo,hpo,rfl,e3,T2⟩:=So (tm':=tm) (hp1:=hp) hao t1o (fun i hi=>(T1 0).far i (fun hR=>hfar i hR hi) (hSo i hi)) (fun d hd=>((T1 (d+1)).off d (by omega) (fun e=>ne d e hd) (.inl (hoS d hd))).1) e2
 obtain ⟨vo',hpo',hpo'',e3a,e3b,T3⟩:=So (tm':=tm) (hp1:=hp) hao (fun _ _=>rfl) (fun _ _=>rfl) (fun _ _=>rfl) e3
 rw [e3] at e3b
 have hpoe:hpo'=hpo∧hpo''=hpo:=by
  injection e3a with _ q1;injection e3b with q2;injection q2 with _ q3;exact ⟨q1.symm,q3.symm⟩
 obtain ⟨rfl,rfl⟩:=hpoe;have t2:∀t∈looks ops x,tm t=Bp tm o.dst vo t:=fun t ht=>(Ff ox t ht).symm
 have t2x:=F9 (ops:=ops) (o:=x) t2
 have hRx:∀i,AC x (Bp tm o.dst vo) hpo'' i↔AC x tm hp i:=by
  intro i;constructor
  ·rintro (⟨y,hy,hi⟩|⟨hap,_⟩)
   ·exact .inl ⟨y,hy,by rw [t2x y hy];exact hi⟩
   ·rw [hax] at hap;cases hap
  ·rintro (⟨y,hy,hi⟩|⟨hap,_⟩)
   ·exact .inl ⟨y,hy,by rw [←t2x y hy];exact hi⟩
   ·rw [hax] at hap;cases hap
 obtain ⟨vx2,hpx2,hpox,e4a,e4,T4⟩:=So (tm':=Bp tm o.dst vo) (hp1:=hpo'') hax t2x (fun i hi=>((T3 0).far i (hfar i ((hRx i).1 hi)) (hSx i ((hRx i).1 hi))).symm) (fun d hd=>((T3 (d+1)).off d (by omega) (fun e=>ne d hd e) (.inl (hxS d hd))).1.symm) e1
 have hvx:Bp tm x.dst vx=Bp tm x.dst vx2∧hpx'=hpx2:=by
  injection e4a with q1 q2;exact ⟨q1,q2⟩
 obtain ⟨hvx,rfl⟩:=hvx;obtain ⟨_,hq1,hq2,e5a,e5b,T5⟩:=So (tm':=Bp tm x.dst vx) (hp1:=hpx') hao (fun _ _=>rfl) (fun _ _=>rfl) (fun _ _=>rfl) e2
 have hq:hq1=hpxo:=by injection e5a with _ q1;exact q1.symm
 subst hq;obtain ⟨_,hu1,hu2,e6a,e6b,T6⟩:=So (tm':=Bp tm o.dst vo) (hp1:=hpo'') hax (fun _ _=>rfl) (fun _ _=>rfl) (fun _ _=>rfl) e4
 have hu:hu1=hpox:=by injection e6a with _ q1;exact q1.symm
 subst hu
 have hmem:hq1=hu1:=by
  funext i
  by_cases hi:AC o tm hp i∨o.dst=some i
  ·have hxi:¬AC x tm hp i:=by
    rcases hi with hi|hi
    ·exact fun hR=>hfar i hR hi
    ·exact hoS i hi
   have hdi:x.dst≠some i:=by
    rcases hi with hi|hi
    ·exact fun e=>hxS i e hi
    ·exact fun e=>ne i e hi
   rw [(T2 0).same i ((T1 (i+1)).off i (by omega) hdi (.inl hxi)).1]
   exact ((T6 (i+1)).off i (by omega) hdi (.inl fun hR=>hxi ((hRx i).1 hR))).1.symm
  ·have hoi:¬AC o tm hp i:=fun e=>hi (.inl e)
   have hdi:o.dst≠some i:=fun e=>hi (.inr e)
   rw [((T5 (i+1)).off i (by omega) hdi (.inl fun hR=>hoi ((hRo i).1 hR))).1]
   exact (T4 0).same i ((T3 (i+1)).off i (by omega) hdi (.inl hoi)).1.symm
 refine Xn (s1:=⟨Bp tm o.dst vo,hpo''⟩) (by rw [Jh ho];exact e3) ?_
 refine Xn (s1:=⟨Bp (Bp tm o.dst vo) x.dst vx2,hu1⟩) (by rw [Jh (by rw [←H9 t2];exact hx)];exact e4) ?_
 rw [←Mc ne,←hvx,←hmem];exact h
theorem CG (hM:Ul C P o.op=true){i:Nat}(h:AC o s.tm s.hp i):i∈Oc C P s o:=by
 unfold Oc;rw [hM];cases hA:P4 o.op
 ·simp only [Bool.not_false,Bool.and_self,cond_true,List.mem_append];rcases h with ⟨y,hy,hi⟩|⟨_,id,c,⟨y,hy,hi⟩,hc,p,hp,hk⟩
  ·exact .inl (List.mem_flatMap.2 ⟨y,hy,hi⟩)
  ·refine .inr (List.mem_flatMap.2 ⟨id,List.mem_flatMap.2 ⟨y,hy,hi⟩,?_⟩);rw [hc];exact List.mem_flatMap.2 ⟨p,hp,hk⟩
 ·simp only [Bool.not_true,Bool.and_false,cond_false,Bool.or_true,cond_true];rcases h with ⟨y,hy,hi⟩|⟨hn,_⟩
  ·exact List.mem_flatMap.2 ⟨y,hy,hi⟩
  ·rw [hA] at hn;cases hn
theorem IL (hl:Ul C P o.op=true∨V2 P o.op=true){y:Operand}(hy:y∈o.op.operands.toList){i:Nat}(h:i∈Bx (Cm s.tm y)):i∈Oc C P s o:=by
 rcases hl with hM|hl
 ·exact CG hM (.inl ⟨y,hy,h⟩)
 ·unfold Oc;rw [Me hl,hl];exact List.mem_flatMap.2 ⟨y,hy,h⟩
theorem WZ (ht:∀t∈looks ops o,s1.tm t=s.tm t)(hh:Ul C P o.op=true->P4 o.op=false->∀y∈o.op.operands.toList,∀i∈Bx (Cm s.tm y),s1.hp i=s.hp i):Oc C P s1 o=Oc C P s o:=by
 have he:=F9 (ops:=ops) (o:=o) ht
 have hl:(o.op.operands.toList.flatMap fun y=>Bx (Cm s1.tm y))=o.op.operands.toList.flatMap fun y=>Bx (Cm s.tm y):=by
  have hgen:∀l:List Operand,(∀y∈l,Cm s1.tm y=Cm s.tm y)->(l.flatMap fun y=>Bx (Cm s1.tm y))=l.flatMap fun y=>Bx (Cm s.tm y):=by
   intro l
   induction l with
   |nil=>intro _;rfl
   |cons a l ih=>intro h;simp only [List.flatMap_cons];rw [h a (by simp),ih fun y hy=>h y (by simp [hy])]
  exact hgen _ he
 unfold Oc;simp only [hl];cases hM:(Ul C P o.op && !P4 o.op)
 ·rfl
 ·simp only [cond_true];simp only [Bool.and_eq_true,Bool.not_eq_true'] at hM
  congr 1
  have hgen:∀l:List Nat,(∀i∈l,s1.hp i=s.hp i)->(l.flatMap fun i=>match s1.hp i with|some (.st c)=>c.flatMap Ay|_=>[])=l.flatMap fun i=>match s.hp i with|some (.st c)=>c.flatMap Ay|_=>[]:=by
   intro l
   induction l with
   |nil=>intro _;rfl
   |cons a l ih=>intro h;simp only [List.flatMap_cons];rw [h a (by simp),ih fun y hy=>h y (by simp [hy])]
  exact hgen _ fun i hi=>by
   obtain ⟨y,hy,hi⟩:=List.mem_flatMap.1 hi;exact hh hM.1 hM.2 y hy i hi
theorem BN {a b:List Nat}(h:Aea a b=true){i:Nat}(ha:i∈a)(hb:i∈b):False:=by
 have:=List.all_eq_true.1 h i ha;have h2:b.any (Nat.beq i)=true:=List.any_eq_true.2 ⟨i,hb,Nat.beq_refl i⟩;rw [h2] at this;cases this
theorem Aeu {a b:List Nat}(h:Aea a b=true):Aea b a=true:=by
 refine List.all_eq_true.2 fun i hi=>?_
 cases hc:a.any (Nat.beq i)
 ·rfl
 ·obtain ⟨j,hj,e⟩:=List.any_eq_true.1 hc;rw [Nat.eq_of_beq_eq_true e] at hi;exact (BN h hj hi).elim
theorem Zn:Lg C P x o=Lg C P o x:=by
 unfold Lg;cases Ul C P x.op<;>cases Ul C P o.op<;>cases V2 P x.op<;>cases V2 P o.op<;>cases P4 x.op<;>cases P4 o.op<;>rfl
structure Nn (C:Hs) (P:Program) (ops:Array Oper) (x o:Oper):Prop where
 xo:∀d,x.dst=some d->d ∉ looks ops o
 ne:∀d,x.dst=some d->o.dst≠some d
 ox:∀d,o.dst=some d->d ∉ looks ops x
 me:T0 C P x o=false∨Lg C P x o=true
theorem Aeo (h:Ajq C P ops x o=false):Nn C P ops x o:=by
 unfold Ajq at h;simp only [Bool.or_eq_false_iff] at h;obtain ⟨h1,h2⟩:=h;have hT:=h1;unfold Aip at h1;simp only [Bool.or_eq_false_iff] at h1
 have a1:LS C P ops x o=false∨T0 C P x o=true:=by
  cases hc:T0 C P x o
  ·left;unfold LS;unfold T0 at hc;simp only [Bool.or_eq_false_iff] at hc ⊢;exact ⟨⟨⟨h1.1,h1.2⟩,hc.1⟩,hc.2⟩
  ·exact .inr rfl
 refine ⟨fun d hd=>?_,fun d hd he=>?_,fun d hd=>?_,?_⟩
 ·have:=h1.1;simp only [hd,Bool.or_eq_false_iff] at this;exact Tz this.1
 ·have:=h1.1;simp only [hd,he,Bool.or_eq_false_iff] at this;rw [Nat.beq_refl] at this;cases this.2
 ·have:=h1.2;simp only [hd] at this;exact Tz this
 ·cases hc:T0 C P x o
  ·exact .inl rfl
  ·rw [hc] at h2;right
   simpa using h2
theorem Nn.apart (ap:Nn C P ops x o)(h:T0 C P x o=false):BM C P ops x o:=by
 unfold T0 at h;simp only [Bool.or_eq_false_iff,Bool.and_eq_false_iff] at h;refine ⟨ap.xo,ap.ne,ap.ox,fun hm=>?_,fun hm=>?_⟩
 ·rcases h.1 with h|h
  ·rw [hm] at h;cases h
  ·exact h
 ·rcases h.2 with h|h
  ·rw [hm] at h;cases h
  ·exact h
theorem Nn.same (ap:Nn C P ops x o)(hk:QN P x s s1)(hl:V2 P x.op=true->s1.hp=s.hp)(hM:Ul C P o.op=true)(hA:P4 o.op=false){i:Nat}(hi:s.hp i≠none):s1.hp i=s.hp i:=by
 rcases ap.me with h|h
 ·exact hk.2.2 ((ap.apart h).mo hM) i hi
 ·unfold Lg at h;rw [hA] at h;simp only [Bool.and_false,Bool.or_false,Bool.or_eq_true,Bool.and_eq_true] at h;rcases h with h|h
  ·have:=h.2;rw [Me (C:=C) (P:=P) this] at hM;cases hM
  ·rw [hl h.2]
theorem ZL.keepsS (h:ZL C P o s)(ap:Nn C P ops x o)(hk:QN P x s s1)(hl:V2 P x.op=true->s1.hp=s.hp):ZL C P o s1:=by
 have hop:∀y∈o.op.operands.toList,Cm s1.tm y=Cm s.tm y:=fun y hy=>F9 (ops:=ops) (o:=o) (fun t ht=>hk.1 t fun hd=>ap.xo t hd ht) y hy
 refine ⟨fun y hy i hi=>?_,fun hM hA y hy i hi c hc p hp k hkk=>?_⟩
 ·rw [hop y hy] at hi;exact hk.2.1 i (h.1 y hy i hi)
 ·rw [hop y hy] at hi;rw [ap.same hk hl hM hA (h.1 y hy i hi)] at hc;exact hk.2.1 k (h.2 hM hA y hy i hi c hc p hp k hkk)
theorem Nn.symm (ap:Nn C P ops x o):Nn C P ops o x:=by
 refine ⟨ap.ox,fun d hd he=>ap.ne d he hd,ap.xo,?_⟩
 rcases ap.me with h|h
 ·left;unfold T0 at h ⊢;rw [Bool.or_comm];exact h
 ·right;rw [Zn];exact h
theorem Atf (hw:ZL C P o s)(hwx:Lg C P x o=true->∀i∈Oc C P s x,s.hp i≠none)(ap:Nn C P ops x o)(hd:Lg C P x o=true->Aea (Oc C P s x) (Oc C P s o)=true)
  (h:Du C P N call ops x s (fun s1=>Du C P N call ops o s1 K)=some r):Du C P N call ops o s (fun s1=>Du C P N call ops x s1 K)=some r:=by
 rcases ap.me with hm|hm
 ·exact As9 hw (ap.apart hm) h
 ·have hd:=hd hm;have hwx:=hwx hm;cases hx:Ht C P ops x s.tm
  ·cases ho:Ht C P ops o s.tm
   ·exact Acb hw ap.xo ap.ne ap.ox hx ho h
   ·have hMo:=V8 ho
    have hlx:OS P ops x s.tm:=by
     cases hl:V2 P x.op
     ·right
      have hMx:Ul C P x.op=true:=by
       unfold Lg at hm;simp only [hl,Bool.and_false,Bool.or_false,Bool.or_eq_true,Bool.and_eq_true] at hm;rcases hm with hm|hm
       ·exact hm.1
       ·exact UB hm.1
      cases hv:Gy ops x s.tm with
      |none=>
       exfalso;rw [L5 hx] at h;unfold gE at h;rw [hv] at h;cases h
      |some b=>
       cases b
       ·rfl
       ·unfold Ht at hx;rw [hMx,hv] at hx;cases hx
     ·exact .inl hl
    refine Akx ap.xo ap.ne ap.ox hlx (fun y hy i hi hR=>?_) ho h
    refine BN hd (IL ?_ hy hi) (CG hMo hR);unfold Lg at hm;simp only [Bool.or_eq_true,Bool.and_eq_true] at hm;rcases hm with (hm|hm)|hm
    ·exact .inl hm.1
    ·exact .inr hm.2
    ·exact .inl (UB hm.1)
  ·have hMx:=V8 hx;cases ho:Ht C P ops o s.tm
   ·have hlo:OS P ops o s.tm:=by
     cases hl:V2 P o.op
     ·right
      have hMo:Ul C P o.op=true:=by
       unfold Lg at hm;simp only [hl,Bool.and_false,Bool.false_or,Bool.or_eq_true,Bool.and_eq_true] at hm;rcases hm with hm|hm
       ·exact hm.1
       ·exact UB hm.2
      cases hv:Gy ops o s.tm with
      |none=>
       exfalso;obtain ⟨s1,_,hk,_,h⟩:=Pp h;have hv1:Gy ops o s1.tm=none:=by rw [Mq (fun t ht=>hk.1 t fun hd=>ap.xo t hd ht)];exact hv
       rw [L5 (by unfold Ht;rw [hv1];cases Ul C P o.op<;>rfl)] at h
       unfold gE at h;rw [hv1] at h;cases h
      |some b=>
       cases b
       ·rfl
       ·unfold Ht at ho;rw [hMo,hv] at ho;cases ho
     ·exact .inl hl
    refine Alo hw ap.xo ap.ne ap.ox hlo (fun y hy i hi hR=>?_) hx h
    refine BN hd (CG hMx hR) (IL ?_ hy hi);unfold Lg at hm;simp only [Bool.or_eq_true,Bool.and_eq_true] at hm;rcases hm with (hm|hm)|hm
    ·exact .inr hm.2
    ·exact .inl hm.1
    ·exact .inl (UB hm.2)
   ·have hMo:=V8 ho;unfold Lg at hm;simp only [Bool.or_eq_true,Bool.and_eq_true] at hm;rcases hm with (hm|hm)|hm
    ·rw [Me (C:=C) (P:=P) hm.2] at hMo;cases hMo
    ·rw [Me (C:=C) (P:=P) hm.2] at hMx;cases hMx
    ·exact Alz hw (fun y hy i hi=>hwx i (IL (.inl hMx) hy hi)) ap.xo ap.ne ap.ox hm.1 hm.2 (fun i h1 h2=>BN hd (CG hMx h1) (CG hMo h2)) hx ho h
theorem Aka {α:Type}(a b:α)(l:List α)(f:α->Bool):(a::b::l).all f=(b::a::l).all f:=by
 simp only [List.all_cons];cases f a<;>cases f b<;>rfl
theorem HC {bs:List (List Nat)}:∀(l:List Nat){dn dn':List (Nat × Oper × List Nat)} {s:St}{K:St->Option R},(∀f,dn.all f=dn'.all f)->Iv C P N call ops bs dn l s K=Iv C P N call ops bs dn' l s K
 |[],_,_,_,_,_=>rfl
 |i::l,dn,dn',s,K,h=>by
  unfold Iv;cases ops[i]? with
  |none=>rfl
  |some o=>
   simp only [E5,h]
   congr 2
   funext s'
   exact HC l fun f=>by simp only [List.all_cons,h]
theorem KS {bs:List Nat}{i:Nat}(hi:ops[i]?=some o):(GK C P ops bs).getD i []=DC C P ops bs i o:=by
 unfold GK;rw [List.getD_eq_getElem?_getD,List.getElem?_map,List.getElem?_zipIdx,Array.getElem?_toList,hi];simp
theorem Un {bs:List Nat}{i j:Nat}:j∈DC C P ops bs i o↔∃x,ops[j]?=some x∧Lg C P x o=true∧(Nat.blt j i&&(bs.getD i 0).testBit j)=false∧(Nat.blt i j&&(bs.getD j 0).testBit i)=false:=by
 unfold DC;simp only [List.mem_map,List.mem_filter,Bool.and_eq_true,Bool.not_eq_true',Prod.exists];constructor
 ·rintro ⟨x,k,⟨hm,⟨h1,h2⟩,h3⟩,rfl⟩
  rw [List.mem_zipIdx_iff_getElem?] at hm;exact ⟨x,by simpa using hm,h1,h2,h3⟩
 ·rintro ⟨x,hx,h1,h2,h3⟩
  refine ⟨x,j,⟨?_,⟨h1,h2⟩,h3⟩,rfl⟩;rw [List.mem_zipIdx_iff_getElem?]
  simpa using hx
theorem IZ {sm:List (List Nat)} {i j:Nat}(h:j∈sm.getD i []):HY C P sm s i o=Oc C P s o:=by
 unfold HY;split
 ·rename_i e;rw [e] at h;simp at h
 ·rfl
theorem Ago {sm:List (List Nat)} {i:Nat}(h:sm.getD i []≠[]->Oc C P s1 o=Oc C P s o):HY C P sm s1 i o=HY C P sm s i o:=by
 unfold HY;split
 ·rfl
 ·rename_i e;exact h (by rw [e];simp)
theorem Adk {l:List Nat}{j:Nat}:l.any (Nat.beq j)=true↔j∈l:=by
 constructor
 ·intro h;obtain ⟨k,hk,e⟩:=List.any_eq_true.1 h;rw [Nat.eq_of_beq_eq_true e];exact hk
 ·intro h;exact List.any_eq_true.2 ⟨j,h,Nat.beq_refl j⟩
theorem CW {bs:List Nat}{sm:List (List Nat)} (hsm:sm=GK C P ops bs){i:Nat}(hi:ops[i]?=some o) {l':List Nat}:∀(l:List Nat){dn:List (Nat × Oper × List Nat)} {s:St}{K:St->Option R},ZL C P o s ->
  (∀j∈l,j<i∧(bs.getD i 0).testBit j=false∧∀x,ops[j]?=some x->Nn C P ops x o)->Iv C P N call ops sm dn (l++i::l') s K=some r ->
  dn.all (OE C P sm s i o)=true∧Du C P N call ops o s (fun s1=>Iv C P N call ops sm ((i,o,HY C P sm s i o)::dn) (l++l') s1 K)=some r
 |[],dn,s,K,hw,_,h=>by
  simp only [List.nil_append] at h ⊢;unfold Iv at h;rw [hi] at h;simp only [E5] at h;obtain ⟨hb,h⟩:=Ax h;simp only [Bool.and_eq_true] at hb;exact ⟨hb.1,h⟩
 |j::l,dn,s,K,hw,hl,h=>by
  simp only [List.cons_append] at h ⊢;unfold Iv at h;obtain ⟨hji,hbit,hap⟩:=hl j (by simp)
  cases hj:ops[j]? with
  |none=>rw [hj] at h;cases h
  |some x=>
   rw [hj] at h;simp only [E5] at h;obtain ⟨hb,h⟩:=Ax h;simp only [Bool.and_eq_true] at hb;have ap:=hap x hj
   have hex:∀k∈HY C P sm s j x,s.hp k≠none:=fun k hk=>by
    have:=List.all_eq_true.1 hb.2 k hk;intro e;rw [e] at this;cases this
   obtain ⟨s1,e1,hk1,hl1,h1⟩:=Pp h;obtain ⟨ha,h2⟩:=CW hsm hi l (hw.keepsS ap hk1 hl1) (fun k hk=>hl k (by simp [hk])) h1
   have hr1':Oc C P s1 o=Oc C P s o:=WZ (ops:=ops) (fun t ht=>hk1.1 t fun hd=>ap.xo t hd ht) fun hM hA y hy k hk=>ap.same hk1 hl1 hM hA (hw.1 y hy k hk)
   have hr1:HY C P sm s1 i o=HY C P sm s i o:=Ago fun _=>hr1'
   rw [List.all_cons,Bool.and_eq_true] at ha
   have hji':Nat.blt i j=false:=by
    cases hh:Nat.blt i j
    ·rfl
    ·have:=Nat.le_of_ble_eq_true hh;omega
   have hmi:Lg C P x o=true->j∈sm.getD i []:=fun hs=>by
    rw [hsm,KS hi];exact Un.2 ⟨x,hj,hs,by rw [hbit,Bool.and_false],by rw [hji',Bool.false_and]⟩
   have hmj:Lg C P x o=true->i∈sm.getD j []:=fun hs=>by
    rw [hsm,KS hj];exact Un.2 ⟨o,hi,by rw [Zn];exact hs,by rw [hji',Bool.false_and],by rw [hbit,Bool.and_false]⟩
   have hsoft:Lg C P x o=true->Aea (HY C P sm s j x) (HY C P sm s i o)=true:=by
    intro hs;have:=ha.1;unfold OE at this;rw [Adk.2 (hmi hs),hr1] at this
    simpa using this
   have hok:∀q,OE C P sm s1 i o q=OE C P sm s i o q:=fun q=>by unfold OE;rw [hr1]
   have hall:dn.all (OE C P sm s i o)=true:=by
    refine List.all_eq_true.2 fun q hq=>?_
    rw [←hok];exact List.all_eq_true.1 ha.2 q hq
   refine ⟨hall,?_⟩;rw [hr1] at h2
   have h3:=Atf hw (fun hs k hk=>hex k (by rw [IZ (hmj hs)];exact hk)) ap (fun hs=>by have:=hsoft hs;rw [IZ (hmj hs),IZ (hmi hs)] at this;exact this)
    (Xn (K':=fun s1=>Du C P N call ops o s1 (fun s2=>Iv C P N call ops sm ((i,o,HY C P sm s i o)::(j,x,HY C P sm s j x)::dn) (l++l') s2 K)) e1 h2)
   obtain ⟨s2,e2,hk2,hl2,h4⟩:=Pp h3;refine Xn e2 ?_
   have hr2:HY C P sm s2 j x=HY C P sm s j x:=Ago fun hne=>by
    obtain ⟨q,hq⟩:=List.exists_mem_of_ne_nil _ hne;refine WZ (ops:=ops) (fun t ht=>hk2.1 t fun hd=>ap.ox t hd ht) fun hM hA y hy k hk=>ap.symm.same hk2 hl2 hM hA (hex k ?_)
    rw [IZ hq];exact IL (.inl hM) hy hk
   unfold Iv;rw [hj];simp only [E5]
   have hc:(((i,o,HY C P sm s i o)::dn).all (OE C P sm s2 j x)&&(HY C P sm s2 j x).all fun k=>(s2.hp k).isSome)=true:=by
    simp only [List.all_cons,Bool.and_eq_true];refine ⟨⟨?_,?_⟩,?_⟩
    ·unfold OE;simp only [hr2];cases hs:(sm.getD j []).any (Nat.beq i)
     ·rfl
     ·have hm:=Adk.1 hs;rw [hsm,KS hj] at hm;obtain ⟨o',ho',hso,_⟩:=Un.1 hm;rw [hi] at ho';cases ho';rw [Zn] at hso;rw [Aeu (hsoft hso)];rfl
    ·refine List.all_eq_true.2 fun q hq=>?_
     have:=List.all_eq_true.1 hb.1 q hq;unfold OE at this ⊢;rw [hr2];exact this
    ·rw [hr2];refine List.all_eq_true.2 fun k hk=>?_
     have:=hk2.2.1 k (hex k hk);cases hh:s2.hp k with
     |none=>exact absurd hh this
     |some _=>rfl
   rw [hc,hr2];show Du C P N call ops x s2 _=some r
   have:(fun s'=>Iv C P N call ops sm ((j,x,HY C P sm s j x)::(i,o,HY C P sm s i o)::dn) (l++l') s' K)=fun s2=>Iv C P N call ops sm ((i,o,HY C P sm s i o)::(j,x,HY C P sm s j x)::dn) (l++l') s2 K:=by
    funext s'
    exact HC _ fun f=>Aka _ _ _ f
   rw [this];exact h4
end
section
variable {R:Type} {r:R} {P:Program} {N:Nat} {w0:World} {X0:Fh} {Y:Nat->Prop} {β β':Bt} {s:St} {a:Act} {w w':World} {o:Oper} {ops:Array Oper} {C:Hs} {call:Ah} {K:St->Option R}
theorem Zb {bs:List Nat}:∀(l:List Oper)(n:Nat),DG C P ops bs l n=true->∀(k:Nat) o,l[k]?=some o->∀(j:Nat) x,ops[j]?=some x->j<n+k->Ajq C P ops x o=true->(bs.getD (n+k) 0).testBit j=true
 |[],_,_,k,o,ho,_,_,_,_,_=>by simp at ho
 |o'::l,n,h,k,o,ho,j,x,hx,hj,hcl=>by
  simp only [DG,Bool.and_eq_true] at h;cases k with
  |zero=>
   simp at ho;subst ho
   have:=List.all_eq_true.1 h.1 (x,j) (by
    rw [List.mem_zipIdx_iff_getElem?]
    simpa using hx)
   simp only [hcl,Bool.not_true,Bool.or_false,Bool.or_eq_true,Bool.not_eq_true'] at this;rcases this with h'|h'
   ·have:Nat.blt j n=true:=Nat.ble_eq_true_of_le (by omega)
    rw [this] at h';cases h'
   ·exact h'
  |succ k=>
   have:=Zb l (n+1) h.2 k o (by simpa using ho) j x hx (by omega) hcl
   rwa [show n+(k+1)=n+1+k by omega]
theorem TU {G:Vq}(hNG:IM P G w0 X0)(hcall:∀f args res,call f args=some res->C9 G P f args res)(hok:LR C P ops=true){Q:Exit->Act->World->Prop}(hQ:∀s' a' w' β',K s'=some r->B4 N w0 X0 Y β' s' a' w'->Q .normal a' w'):
  ∀(fuel:Nat) {dn:List (Nat × Oper × List Nat)} {listed:Array Bool} {s:St} {a:Act} {w:World} {β:Bt},HeadInv .any ops ops.size listed->(O0 ops.size listed).length=fuel->B4 N w0 X0 Y β s a w->Iv C P N call ops (GK C P ops (Jb ops.toList [])) dn (O0 ops.size listed) s K=some r->wpAny P .any ops Q fuel listed a w:=by
 unfold LR at hok;simp only [Bool.and_eq_true] at hok;obtain ⟨hok1,hok2⟩:=hok;intro fuel
 induction fuel with
 |zero=>
  intro dn listed s a w β inv hf h hk;have hp:=List.eq_nil_of_length_eq_zero hf;rw [hp] at hk;refine ⟨?_,hQ s a w β hk h⟩;cases hr:Region.ready .any ops listed with
  |nil=>rfl
  |cons i l=>
   exfalso;have hi:i∈Region.ready .any ops listed:=by rw [hr];simp
   obtain ⟨hun,o,ho,_⟩:=mem_ready.1 hi;have:i∈O0 ops.size listed:=Km.2 ⟨(Array.getElem?_eq_some_iff.1 ho).1,hun⟩;rw [hp] at this;simp at this
 |succ fuel ih=>
  intro dn listed s a w β inv hf h hk;refine ⟨fun hr=>?_,fun i hi=>?_⟩
  ·rw [PY hok1 inv hr] at hf;cases hf
  ·obtain ⟨hun,o,ho,hall⟩:=mem_ready.1 hi;have hlt:i<ops.size:=(Array.getElem?_eq_some_iff.1 ho).1;obtain ⟨l1,l2,h1,h2,h3⟩:=AJ (Km.2 ⟨hlt,hun⟩) inv.size;rw [h1] at hk
   have hnb:∀j∈l1,((Jb ops.toList []).getD i 0).testBit j=false:=by
    intro j hj;cases hbit:((Jb ops.toList []).getD i 0).testBit j with
    |false=>rfl
    |true=>
     exfalso;have hjl:=Ue (listed:=listed) (fun j oj hj hl=>inv.closed j oj hj hl) ops.toList [] [] (by simp) rfl (by simp) i o ho hall j hbit
     have:j∈O0 ops.size listed:=by rw [h1];simp [hj]
     have:=getD_both (Km.1 this).2;rw [hjl] at this;cases this
   have hap:∀j∈l1,j<i∧((Jb ops.toList []).getD i 0).testBit j=false∧∀x,ops[j]?=some x->Nn C P ops x o:=by
    intro j hj;refine ⟨h3 j hj,hnb j hj,fun x hxj=>Aeo ?_⟩
    cases hcl:Ajq C P ops x o with
    |false=>rfl
    |true=>
     exfalso;have hbit:=Zb ops.toList 0 hok2 i o (by simpa using ho) j x hxj (by have:=h3 j hj;omega) hcl
     rw [Nat.zero_add,hnb j hj] at hbit;cases hbit
   obtain ⟨s',hs',hn⟩:=AV h hNG hcall ho (CW rfl ho l1 (Aj5 h o) hap hk).2;refine hn _ _ fun a' w' β' h'=>ih (dn:=(i,o,HY C P (GK C P ops (Jb ops.toList [])) s i o)::dn) (inv.set hi hlt) ?_ h' ?_
   ·rw [h2];rw [h1] at hf;simp at hf ⊢;omega
   ·rw [h2];exact hs'
theorem Uz (h:B4 N w0 X0 Y β s a w){G:Vq}(hNG:IM P G w0 X0)(hcall:∀f args res,call f args=some res->C9 G P f args res)(hm:P.follows .mixedOrders=true)(hok:LR C P ops=true){Q:Exit->Act->World->Prop}
  (hk:Iv C P N call ops (GK C P ops (Jb ops.toList [])) [] (List.range ops.size) s K=some r) (hQ:∀s' a' w' β',K s'=some r->B4 N w0 X0 Y β' s' a' w'->Q .normal a' w'):wpAny P .any ops Q ops.size (Array.replicate ops.size false) a { w with drawn:=w.drawn+1 }:=by
 have hp:O0 ops.size (Array.replicate ops.size false)=List.range ops.size:=by
  unfold O0;refine List.filter_eq_self.2 fun i hi=>?_
  have:=List.mem_range.1 hi;simp [this]
 refine TU (C:=C) (dn:=[]) hNG hcall hok hQ ops.size ⟨by simp,fun j oj _ hl=>(by rw [getD_replicate_false] at hl;cases hl),fun t ht ht'=>by omega⟩ (by rw [hp];simp) h.drew ?_
 rw [hp];exact hk
theorem WX (h:B4 N w0 X0 Y β s a w){G:Vq}(hNG:IM P G w0 X0)(hcall:∀f args res,call f args=some res->C9 G P f args res)(hm:P.follows .mixedOrders=true)(hok:LR C P ops=true){id:Nat}{Q:Exit->Act->World->Prop}
  (hk:Iv C P N call ops (GK C P ops (Jb ops.toList [])) [] (List.range ops.size) s K=some r) (hQ:∀s' a' w' β',K s'=some r->B4 N w0 X0 Y β' s' a' w'->Q .normal a' w'):(Code.region id ops true).wp P Q a w:=
 wp_region_any hm (Uz h hNG hcall hm hok hk hQ)
end
open Go.RowKit
section
variable {R:Type} {r:R} {N:Nat} {w0:World} {X0:Fh} {Y:Nat->Prop} {β β':Bt} {s:St} {a:Act} {w w':World}
theorem Ahz {i:Nat}(hi:i<a.tmps.size):a.put (some i) (a.tmps.getD i undef)=a:=by
 obtain ⟨tmps,dfr⟩:=a;change i<tmps.size at hi
 have:tmps.setIfInBounds i (tmps.getD i undef)=tmps:=by
  apply Array.ext_getElem?;intro k;by_cases e:i=k
  ·subst e;simp [hi]
  ·rw [Array.getElem?_setIfInBounds_ne e]
 simp only [Act.put,this]
theorem Acd {A:Nat->Prop}{es:Nat}{v:Value}(h:A7 w A (.lst true es 0 []) v):v=.slice none 0 0:=by
 cases h;rfl
theorem Ace {id:Nat}(hid:s.hp id=none){v:PV}{val:Value}(hv:Dx w (C1 (A3 s.hp [(id,.ar false [])]) (Cz β id none) Y) (Cz β id none) v val) (hr:∀i∈Bx v,s.hp i≠none∨i=id):
  OY Y β s w v [(id,.ar false [])] val w (Cz β id none):=by
 refine ⟨rfl,rfl,rfl,Cb.refl _ _,fun j hj=>Av _ _ (by rintro rfl;exact hj hid),?_,?_,?_,?_,?_,hv,?_⟩
 ·intro j bx hm;simp at hm;rw [hm.2];trivial
 ·intro j bx hm;simp at hm;obtain ⟨rfl,rfl⟩:=hm;exact .inl ⟨Az _ _ _,rfl⟩
 ·intro j bx k q hm hq;simp at hm;obtain ⟨rfl,rfl⟩:=hm;rw [Az] at hq;cases hq
 ·intro j bx j' bx' k q q' hm hm' _ _;simp at hm hm';rw [hm.1,hm'.1]
 ·intro j cells hm;simp at hm
 ·intro j hj;rcases hr j hj with h|rfl
  ·exact .inl h
  ·exact .inr ⟨.ar false [],by simp⟩
theorem OP (h:B4 N w0 X0 Y β s a w)(i:Nat):∃β',B4 N w0 X0 Y β' (JB s i) a w:=by
 unfold JB;split
 ·rename_i es ht;cases hn:(s.hp i).isNone
  ·exact ⟨β,h⟩
  ·have hn:s.hp i=none:=by simpa using hn
   have hlt:i<N:=by
    rcases Nat.lt_or_ge i N with h'|h'
    ·exact h'
    ·rw [h.tmo i h'] at ht;cases ht
   have hv:=h.tms i hlt;rw [ht] at hv;have hv:=Acd hv;have hd:He N (some i)=true:=by simp [He,Nat.blt];omega
   have:=h.stepR (d:=some i) hd (by simp [B9,hn]) (Ace (v:=.view i es 0 0) (val:=.slice none 0 0) hn (.inl ⟨Az _ _ _,rfl,rfl,rfl⟩) (by simp [Bx,Cf,Ay]))
   rw [←hv,Ahz (by rw [h.tsz];exact hlt)] at this
   exact ⟨_,this⟩
 ·exact ⟨β,h⟩
theorem B4.recell (h:B4 N w0 X0 Y β s a w){id:Nat}{c c':List PV}(h0:s.hp id=some (.st c)) (hl:c'.length=c.length)
  (hc:∀(j:Nat) p,c'[j]?=some p->∃q,c[j]?=some q∧(∀v,Cc w (C1 s.hp β Y) β q v->Cc w (C1 s.hp β Y) β p v)∧∀i∈Ay p,s.hp i≠none):
  B4 N w0 X0 Y β ⟨s.tm,Cz s.hp id (some (.st c'))⟩ a w:=by
 have hlive:∀i,Cg (Cz s.hp id (some (.st c')) i)↔Cg (s.hp i):=by
  intro i;by_cases e:i=id
  ·subst e;rw [Az,h0];exact Iff.rfl
  ·rw [Av _ _ e]
 have hX:BV (Cz s.hp id (some (.st c'))) β=BV s.hp β:=by
  funext b
  apply propext;constructor
  ·rintro ⟨i,o,hl,hb⟩;exact ⟨i,o,(hlive i).1 hl,hb⟩
  ·rintro ⟨i,o,hl,hb⟩;exact ⟨i,o,(hlive i).2 hl,hb⟩
 have hA:C1 (Cz s.hp id (some (.st c'))) β Y=C1 s.hp β Y:=by
  funext b;unfold C1;rw [hX]
 have hne:∀i,s.hp i≠none->Cz s.hp id (some (.st c')) i≠none:=by
  intro i hi;by_cases e:i=id
  ·subst e;rw [Az];simp
  ·rw [Av _ _ e];exact hi
 have hne':∀i,Cz s.hp id (some (.st c')) i≠none->s.hp i≠none:=by
  intro i hi;by_cases e:i=id
  ·subst e;rw [h0];simp
  ·rw [Av _ _ e] at hi;exact hi
 refine ⟨h.dfr,h.tsz,h.tmo,?_,?_,?_,?_,?_,?_,?_,?_,fun i hi=>⟨hne _ (h.pin i hi).1,(h.pin i hi).2⟩,?_,?_,h.Ylt,h.fr⟩
 ·intro i hi;show Dx w (C1 (Cz s.hp id _) β Y) β _ _;rw [hA];exact h.tms i hi
 ·intro i b hb;show Sz w (C1 (Cz s.hp id _) β Y) β i b;rw [hA];by_cases e:i=id
  ·subst e;change Cz s.hp i (some (.st c')) i=some b at hb;rw [Az] at hb;cases hb;obtain ⟨b,o,h1,h2,h3⟩:=h.box i _ h0;refine ⟨b,o,h1,fun j p hj=>?_,fun j hj=>h3 j (by rw [←hl];exact hj)⟩
   obtain ⟨q,hq,hqp,_⟩:=hc j p hj;obtain ⟨v,hv,hr⟩:=h2 j q hq;exact ⟨v,hv,hqp v hr⟩
  ·change Cz s.hp id (some (.st c')) i=some b at hb;rw [Av _ _ e] at hb;exact h.box i b hb
 ·intro i i' b o o' hl hl' hb hb';exact h.inj i i' b o o' ((hlive i).1 hl) ((hlive i').1 hl') hb hb'
 ·intro i b o hn hb;exact h.blt i b o (hne' i hn) hb
 ·intro i hi j hj;exact hne j (h.wfT i hi j hj)
 ·intro i cells hb p hp j hj;change Cz s.hp id (some (.st c')) i=_ at hb;by_cases e:i=id
  ·subst e;rw [Az] at hb;cases hb;obtain ⟨k,hk⟩:=List.mem_iff_getElem?.1 hp;obtain ⟨_,_,_,hr⟩:=hc k p hk;exact hne j (hr j hj)
  ·rw [Av _ _ e] at hb;exact hne j (h.wfB i cells hb p hp j hj)
 ·intro b hb;exact h.ownd b (by rw [←hX];exact hb)
 ·intro i bx b o hb hlb hβ hlt j hj;change Cz s.hp id (some (.st c')) i=some bx at hb;by_cases e:i=id
  ·subst e;rw [Az] at hb;cases hb;exact h.rngB i _ b o h0 trivial hβ hlt j (by unfold BR at hj ⊢;simp only [hl] at hj;exact hj)
  ·rw [Av _ _ e] at hb;exact h.rngB i bx b o hb hlb hβ hlt j hj
 ·intro i c1 b o hb hβ hlt;change Cz s.hp id (some (.st c')) i=_ at hb;by_cases e:i=id
  ·subst e;exact h.stp i c b o h0 hβ hlt
  ·rw [Av _ _ e] at hb;exact h.stp i c1 b o hb hβ hlt
 ·intro b hY hb;exact h.Yx b hY (by rw [←hX];exact hb)
theorem OV (h:B4 N w0 X0 Y β s a w)(id j:Nat):∃β',B4 N w0 X0 Y β' (UN N id s j) a w:=by
 unfold UN;split
 ·rename_i c h0;split
  ·rename_i es hj;cases hn:(s.hp (id+N*(j+1))).isNone
   ·exact ⟨β,h⟩
   ·have hn:s.hp (id+N*(j+1))=none:=by simpa using hn
    have hne:id≠id+N*(j+1):=by
     intro e;rw [←e,h0] at hn;cases hn
    have h1:=h.stepR (d:=none) (v:=.top) (val:=undef) rfl (by simp [B9,hn]) (Ace hn (.top _) (by simp [Bx,Cf,Ay]))
    change B4 N w0 X0 Y (Cz β (id+N*(j+1)) none) ⟨s.tm,Cz s.hp (id+N*(j+1)) (some (.ar false []))⟩ a w at h1
    have h2:=h1.recell (id:=id) (c:=c) (c':=c.set j (.view (id+N*(j+1)) es 0 0)) (by show Cz _ _ _ _=_;rw [Av _ _ hne];exact h0) (by simp) (by
     intro k p hp;by_cases e:k=j
     ·subst e
      have hlt:k<c.length:=by
       rcases Nat.lt_or_ge k c.length with h'|h'
       ·exact h'
       ·rw [List.getElem?_eq_none h'] at hj;cases hj
      rw [List.getElem?_set_self hlt] at hp;cases hp;refine ⟨_,hj,fun v hv=>.inl ⟨Az _ _ _,rfl,rfl,Acd hv⟩,fun i hi=>?_⟩
      simp [Ay] at hi;subst hi;show Cz _ _ _ _≠none;rw [Az];simp
     ·rw [List.getElem?_set_ne (fun h=>e h.symm)] at hp
      refine ⟨p,hp,fun _ hv=>hv,fun i hi=>?_⟩
      have:=h.wfB id c h0 p (List.mem_of_getElem? hp) i hi;show Cz _ _ _ _≠none;by_cases e':i=id+N*(j+1)
      ·subst e';rw [Az];simp
      ·rw [Av _ _ e'];exact this)
    refine ⟨Cz β (id+N*(j+1)) none,?_⟩;have e3:Cz (Cz s.hp (id+N*(j+1)) (some (.ar false []))) id (some (.st (c.set j (.view (id+N*(j+1)) es 0 0))))=Cz (Cz s.hp id (some (.st (c.set j (.view (id+N*(j+1)) es 0 0))))) (id+N*(j+1)) (some (.ar false [])):=XC _ _ _ (fun h=>hne h.symm)
    change B4 N w0 X0 Y (Cz β (id+N*(j+1)) none) ⟨s.tm,Cz (Cz s.hp (id+N*(j+1)) (some (.ar false []))) id (some (.st (c.set j (.view (id+N*(j+1)) es 0 0))))⟩ a w at h2;rw [e3] at h2;exact h2
  ·exact ⟨β,h⟩
 ·exact ⟨β,h⟩
theorem Q5 {f:St->Nat->St}(hf:∀s β,B4 N w0 X0 Y β s a w->∀i,∃β',B4 N w0 X0 Y β' (f s i) a w):∀(l:List Nat){s:St}{β:Bt},B4 N w0 X0 Y β s a w->∃β',B4 N w0 X0 Y β' (l.foldl f s) a w
 |[],_,β,h=>⟨β,h⟩
 |i::l,s,β,h=>by
  obtain ⟨β1,h1⟩:=hf s β h i;exact Q5 hf l h1
theorem TO (h:B4 N w0 X0 Y β s a w)(i:Nat):∃β',B4 N w0 X0 Y β' (TC N s i) a w:=by
 unfold TC;split
 ·split
  ·exact Q5 (fun s β h i=>OV h _ i) _ h
  ·exact ⟨β,h⟩
 ·exact ⟨β,h⟩
theorem PL:∀{m:List (Nat × Nat)},Ej (m.map (·.2))=true->∀{i i' j:Nat},(i,j)∈m->(i',j)∈m->i=i'
 |[],_,_,_,_,h,_=>by simp at h
 |(x,y)::m,hn,i,i',j,h,h'=>by
  simp only [List.map_cons,Ej,Bool.and_eq_true,Bool.not_eq_true'] at hn
  have hy:∀k,(k,y) ∉ m:=by
   intro k hk;exact Tz hn.1 (List.mem_map.2 ⟨(k,y),hk,rfl⟩)
  rcases List.mem_cons.1 h with e|h
  ·cases e;rcases List.mem_cons.1 h' with e|h'
   ·cases e;rfl
   ·exact absurd h' (hy _)
  ·rcases List.mem_cons.1 h' with e|h'
   ·cases e;exact absurd h (hy _)
   ·exact PL hn.2 h h'
theorem FU:∀{m:List (Nat × Nat)},Ej (m.map (·.1))=true->∀{i j j':Nat},(i,j)∈m->(i,j')∈m->j=j'
 |[],_,_,_,_,h,_=>by simp at h
 |(x,y)::m,hn,i,j,j',h,h'=>by
  simp only [List.map_cons,Ej,Bool.and_eq_true,Bool.not_eq_true'] at hn
  have hx:∀k,(x,k) ∉ m:=by
   intro k hk;exact Tz hn.1 (List.mem_map.2 ⟨(x,k),hk,rfl⟩)
  rcases List.mem_cons.1 h with e|h
  ·cases e;rcases List.mem_cons.1 h' with e|h'
   ·cases e;rfl
   ·exact absurd h' (hx _)
  ·rcases List.mem_cons.1 h' with e|h'
   ·cases e;exact absurd h (hx _)
   ·exact FU hn.2 h h'
theorem O8 {i j:Nat}(h:Nat.beq i j=false):i≠j:=by rintro rfl;rw [Nat.beq_refl] at h;cases h
theorem DA:∀{m:List (Nat × Nat)} {i j:Nat},Yg m i=some j->(i,j)∈m
 |[],_,_,h=>by cases h
 |(x,y)::m,i,j,h=>by
  unfold Yg at h;cases hb:Nat.beq i x<;>rw [hb] at h
  ·exact List.mem_cons_of_mem _ (DA h)
  ·have:=Nat.eq_of_beq_eq_true hb;cases h;rw [this];simp
theorem GC {m:List (Nat × Nat)} {hp:Nat->Option Bn}:∀{l:List (Nat × Nat)} {j:Nat}{b:Bn},B7 (On m hp l) j=some b->∃i b0,(i,j)∈l∧hp i=some b0∧b=Al4 m b0
 |[],_,_,h=>by cases h
 |(x,y)::l,j,b,h=>by
  unfold On at h;cases hx:hp x with
  |none=>
   rw [hx] at h;obtain ⟨i,b0,h1,h2⟩:=GC h;exact ⟨i,b0,List.mem_cons_of_mem _ h1,h2⟩
  |some bx=>
   rw [hx] at h;simp only [B7] at h;cases hb:Nat.beq j y<;>rw [hb] at h
   ·obtain ⟨i,b0,h1,h2⟩:=GC h;exact ⟨i,b0,List.mem_cons_of_mem _ h1,h2⟩
   ·have:=Nat.eq_of_beq_eq_true hb;subst this;cases h;exact ⟨x,bx,by simp,hx,rfl⟩
theorem Qp {m:List (Nat × Nat)} {hp:Nat->Option Bn}:∀{l:List (Nat × Nat)} {i j:Nat},(i,j)∈l->hp i≠none->B7 (On m hp l) j≠none
 |[],_,_,h,_=>by simp at h
 |(x,y)::l,i,j,h,hi=>by
  unfold On;cases hx:hp x with
  |none=>
   rcases List.mem_cons.1 h with e|h
   ·cases e;exact absurd hx hi
   ·exact Qp h hi
  |some bx=>
   simp only [B7];cases hb:Nat.beq j y
   ·rcases List.mem_cons.1 h with e|h
    ·cases e;exact absurd rfl (O8 hb)
    ·exact Qp h hi
   ·simp
def OH (m:List (Nat × Nat)) (j:Nat):Option Nat:=
 match m with
 |[]=>none
 |(x,y)::r=>bif Nat.beq j y then some x else OH r j
theorem Adf:∀{m:List (Nat × Nat)} {i j:Nat},OH m j=some i->(i,j)∈m
 |[],_,_,h=>by cases h
 |(x,y)::m,i,j,h=>by
  unfold OH at h;cases hb:Nat.beq j y<;>rw [hb] at h
  ·exact List.mem_cons_of_mem _ (Adf h)
  ·have:=Nat.eq_of_beq_eq_true hb;cases h;rw [this];simp
theorem WW:∀{m:List (Nat × Nat)} {i j:Nat},(i,j)∈m->∃k,OH m j=some k
 |[],_,_,h=>by simp at h
 |(x,y)::m,i,j,h=>by
  unfold OH;cases hb:Nat.beq j y
  ·rcases List.mem_cons.1 h with e|h
   ·cases e;exact absurd rfl (O8 hb)
   ·exact WW h
  ·exact ⟨x,rfl⟩
theorem US {f:Nat->PV}:∀{l:List Nat}{i:Nat},lk (l.map fun i=>(i,f i)) i=if i∈l then f i else .top
 |[],_=>rfl
 |x::l,i=>by
  simp only [List.map_cons,lk];cases hb:Nat.beq i x
  ·have:=O8 hb;simp only [cond_false,US,List.mem_cons,this,false_or]
  ·have:=Nat.eq_of_beq_eq_true hb;subst this;simp
theorem RR {m:Nat}:∀{n i:Nat},i∈Nt m n->i<n
 |0,_,h=>by simp [Nt] at h
 |n+1,i,h=>by
  simp only [Nt,List.mem_append] at h;rcases h with h|h
  ·have:=RR h;omega
  ·cases hb:m.testBit n<;>rw [hb] at h
   ·simp at h
   ·simp at h;omega
theorem TM (h:B4 N w0 X0 Y β s a w){m:List (Nat × Nat)} (h1:Ej (m.map (·.1))=true) (h2:Ej (m.map (·.2))=true) {ls:List Nat}(hls:∀i∈ls,i<N)(hpn:∀i,X0.pn i->(C6 N i,C6 N i)∈m):
  ∃β',B4 N w0 X0 Y β' ⟨lk (ls.map fun i=>(i,Ae3 m (s.tm i))),B7 (On m s.hp m)⟩ a w:=by
 refine ⟨fun j=>(OH m j).bind β,?_⟩
 have hβ:∀{i j:Nat},(i,j)∈m->(OH m j).bind β=β i:=by
  intro i j hm;obtain ⟨k,hk⟩:=WW hm;rw [hk];have:=PL h2 (Adf hk) hm;subst this;rfl
 have hold:∀{j:Nat} {b:Bn},B7 (On m s.hp m) j=some b->∃i b0,(i,j)∈m∧s.hp i=some b0∧b=Al4 m b0∧(OH m j).bind β=β i:=by
  intro j b hb;obtain ⟨i,b0,hm,h3,h4⟩:=GC hb;exact ⟨i,b0,hm,h3,h4,hβ hm⟩
 have hlive:∀{j:Nat},Cg (B7 (On m s.hp m) j)->∃i,(i,j)∈m∧Cg (s.hp i)∧(OH m j).bind β=β i:=by
  intro j hl;cases hb:B7 (On m s.hp m) j with
  |none=>rw [hb] at hl;exact hl.elim
  |some b=>
   obtain ⟨i,b0,hm,h3,rfl,h5⟩:=hold hb;refine ⟨i,hm,?_,h5⟩;rw [hb] at hl;rw [h3];cases b0<;>exact hl
 have hX:∀b,BV (B7 (On m s.hp m)) (fun j=>(OH m j).bind β) b->BV s.hp β b:=by
  rintro b ⟨j,o,hl,hb⟩
  obtain ⟨i,_,hl',e⟩:=hlive hl;exact ⟨i,o,hl',by rw [←e];exact hb⟩
 have hA:∀b,C1 (B7 (On m s.hp m)) (fun j=>(OH m j).bind β) Y b->C1 s.hp β Y b:=fun b hb=>hb.imp (hX b) id
 have hC:∀p v,Cc w (C1 s.hp β Y) β p v->Cc w (C1 (B7 (On m s.hp m)) (fun j=>(OH m j).bind β) Y) (fun j=>(OH m j).bind β) (Aao m p) v:=by
  intro p v hp;cases p with
  |view id es off n=>
   show Cc _ _ _ (match Yg m id with|some j=>.view j es off n|none=>.top) v
   cases hj:Yg m id with
   |some j=>
    have e:=hβ (DA hj);rcases hp with ⟨e1,e2⟩|⟨b,o,x,cap,e1,e2⟩
    ·exact .inl ⟨by show (OH m j).bind β=none;rw [e];exact e1,e2⟩
    ·exact .inr ⟨b,o,x,cap,by show (OH m j).bind β=_;rw [e];exact e1,e2⟩
   |none=>exact A7.top _
  |ptr id off=>
   show Cc _ _ _ (match Yg m id with|some j=>.ptr j off|none=>.top) v
   cases hj:Yg m id with
   |some j=>
    have e:=hβ (DA hj);obtain ⟨b,o,e1,e2⟩:=hp;exact ⟨b,o,by show (OH m j).bind β=_;rw [e];exact e1,e2⟩
   |none=>exact A7.top _
  |sc v=>exact A7.step (Cb.refl _ _) (fun b _=>hA b) hp
  |lst z es n c=>exact A7.step (Cb.refl _ _) (fun b _=>hA b) hp
  |iptr c off=>exact Cc.step (p:=.iptr c off) (Cb.refl _ _) (fun b _=>hA b) (by simp [Ay]) hp
  |_=>exact A7.top _
 have hV:∀p v,Dx w (C1 s.hp β Y) β p v->Dx w (C1 (B7 (On m s.hp m)) (fun j=>(OH m j).bind β) Y) (fun j=>(OH m j).bind β) (Ae3 m p) v:=by
  intro p v hp;cases p with
  |agg c=>
   obtain ⟨vs,e1,e2⟩:=hp;refine ⟨vs,e1,Bk.of_at (by simp;exact e2.len) fun i q u hq hu=>?_⟩
   rw [List.getElem?_map] at hq;cases hc:c[i]? with
   |none=>rw [hc] at hq;cases hq
   |some q0=>
    rw [hc] at hq;cases hq;exact hC _ _ (e2.at_ hc hu)
  |view id es off n=>
   have:=hC (.view id es off n) v hp;change Cc _ _ _ (match Yg m id with|some j=>.view j es off n|none=>.top) v at this
   show Dx _ _ _ (match Yg m id with|some j=>.view j es off n|none=>.top) v
   cases hj:Yg m id<;>rw [hj] at this<;>exact this
  |ptr id off=>
   have:=hC (.ptr id off) v hp;change Cc _ _ _ (match Yg m id with|some j=>.ptr j off|none=>.top) v at this
   show Dx _ _ _ (match Yg m id with|some j=>.ptr j off|none=>.top) v
   cases hj:Yg m id<;>rw [hj] at this<;>exact this
  |sc v'=>exact hC (.sc v') v hp
  |lst z es n c=>exact hC (.lst z es n c) v hp
  |iptr c off=>exact hC (.iptr c off) v hp
  |_=>exact A7.top _
 have hrC:∀p i,i∈Ay (Aao m p)->∃k∈Ay p,(k,i)∈m:=by
  intro p i hi;cases p with
  |view id es off n=>
   change i∈Ay (match Yg m id with|some j=>.view j es off n|none=>.top) at hi
   cases hj:Yg m id<;>rw [hj] at hi
   ·simp [Ay] at hi
   ·simp [Ay] at hi;subst hi;exact ⟨id,by simp [Ay],DA hj⟩
  |ptr id off=>
   change i∈Ay (match Yg m id with|some j=>.ptr j off|none=>.top) at hi
   cases hj:Yg m id<;>rw [hj] at hi
   ·simp [Ay] at hi
   ·simp [Ay] at hi;subst hi;exact ⟨id,by simp [Ay],DA hj⟩
  |_=>simp [Aao,Ay] at hi
 have hrV:∀p i,i∈Bx (Ae3 m p)->∃k∈Bx p,(k,i)∈m:=by
  intro p i hi;cases p with
  |agg c=>
   simp only [Ae3,Bx,Cf,List.mem_flatMap,List.mem_map] at hi;obtain ⟨_,⟨q,hq,rfl⟩,hi⟩:=hi;obtain ⟨k,hk,hm⟩:=hrC q i hi;exact ⟨k,by simp only [Bx,Cf,List.mem_flatMap];exact ⟨q,hq,hk⟩,hm⟩
  |view id es off n=>
   refine (hrC (.view id es off n) i ?_).imp fun k hk=>hk
   change i∈Bx (match Yg m id with|some j=>.view j es off n|none=>.top) at hi
   show i∈Ay (match Yg m id with|some j=>.view j es off n|none=>.top)
   cases hj:Yg m id<;>rw [hj] at hi<;>exact hi
  |ptr id off=>
   refine (hrC (.ptr id off) i ?_).imp fun k hk=>hk
   change i∈Bx (match Yg m id with|some j=>.ptr j off|none=>.top) at hi
   show i∈Ay (match Yg m id with|some j=>.ptr j off|none=>.top)
   cases hj:Yg m id<;>rw [hj] at hi<;>exact hi
  |_=>simp [Ae3,Aao,Bx,Cf,Ay] at hi
 refine ⟨h.dfr,h.tsz,?_,?_,?_,?_,?_,?_,?_,?_,?_,?_,?_,?_,h.Ylt,h.fr⟩
 ·intro i hi;show lk _ i=_;rw [US,if_neg (fun hm=>by have:=hls i hm;omega)]
 ·intro i hi;show Dx w _ _ (lk _ i) _;rw [US];split
  ·exact hV _ _ (h.tms i hi)
  ·exact A7.top _
 ·intro j b hb;obtain ⟨i,b0,hm,h3,rfl,e⟩:=hold hb;have hbx:=h.box i b0 h3;cases b0 with
  |st c=>
   obtain ⟨b,o,e1,e2,e3⟩:=hbx;refine ⟨b,o,by show (OH m j).bind β=_;rw [e];exact e1,fun k p hp=>?_,fun k hk=>e3 k (by simpa using hk)⟩
   rw [List.getElem?_map] at hp;cases hc:c[k]? with
   |none=>rw [hc] at hp;cases hp
   |some q=>
    rw [hc] at hp;cases hp;obtain ⟨v,hv,hr⟩:=e2 k q hc;exact ⟨v,hv,hC _ _ hr⟩
  |ar fz c=>
   have:=Sz.step' hA hbx;show Sz _ _ _ _ (.ar fz c);rcases this with ⟨e1,e2⟩|⟨b,o,e1,e2⟩
   ·exact .inl ⟨by show (OH m j).bind β=_;rw [e];exact e1,e2⟩
   ·exact .inr ⟨b,o,by show (OH m j).bind β=_;rw [e];exact e1,e2⟩
  |mv=>exact trivial
 ·intro j j' b o o' hl hl' hb hb';obtain ⟨i,hm,hl1,e⟩:=hlive hl;obtain ⟨i',hm',hl1',e'⟩:=hlive hl';have:=h.inj i i' b o o' hl1 hl1' (by rw [←e];exact hb) (by rw [←e'];exact hb')
  subst this;exact FU h1 hm hm'
 ·intro j b o hn hb;cases hj:B7 (On m s.hp m) j with
  |none=>exact absurd hj hn
  |some bx=>
   obtain ⟨i,b0,_,h3,_,e⟩:=hold hj;exact h.blt i b o (by rw [h3];simp) (by rw [←e];exact hb)
 ·intro i hi j hj;change j∈Bx (lk _ i) at hj;rw [US] at hj;split at hj
  ·obtain ⟨k,hk,hm⟩:=hrV _ j hj;exact Qp hm (h.wfT i hi k hk)
  ·simp [Bx,Cf,Ay] at hj
 ·intro j cells hb p hp k hk;obtain ⟨i,b0,_,h3,h4,_⟩:=hold hb;cases b0 with
  |st c=>
   cases h4;obtain ⟨q,hq,rfl⟩:=List.mem_map.1 hp;obtain ⟨k',hk',hm⟩:=hrC q k hk;exact Qp hm (h.wfB i c h3 q hq k' hk')
  |ar fz c=>cases h4
  |mv=>cases h4
 ·intro b hb;exact h.ownd b (hX b hb)
 ·intro j bx b o hb hlb hβ1 hlt k hk;obtain ⟨i,b0,_,h3,h4,e⟩:=hold hb;subst h4;refine h.rngB i b0 b o h3 ?_ (by rw [←e];exact hβ1) hlt k ?_
  ·cases b0<;>exact hlb
  ·cases b0 with
   |st c=>simpa [BR,Al4] using hk
   |ar fz c=>exact hk
   |mv=>exact hk
 ·intro i hi;exact ⟨Qp (hpn i hi) (h.pin i hi).1,(hβ (hpn i hi)).trans (h.pin i hi).2⟩
 ·intro j c b o hb hβ1 hlt;obtain ⟨i,b0,hm,h3,h4,e⟩:=hold hb;cases b0 with
  |st c0=>
   obtain ⟨k,rfl,hk⟩:=h.stp i c0 b o h3 (by rw [←e];exact hβ1) hlt
   exact ⟨k,FU h1 hm (hpn k hk),hk⟩
  |ar fz c0=>cases h4
  |mv=>cases h4
 ·intro b hY hb;exact h.Yx b hY (hX b hb)
theorem Xk {m:List (Nat × Nat)} {q:Nat × Nat}{o n:Nat}(h:q∈m):q∈RI m o n:=by
 unfold RI;split
 ·exact h
 ·exact List.mem_append.2 (.inl h)
theorem Nk {q:Nat × Nat}{new:Nat}:∀{c:List PV}{j:Nat}{m:List (Nat × Nat)},q∈m->q∈Ty N new c j m
 |[],_,_,h=>h
 |p::c,j,m,h=>by
  unfold Ty;split
  ·rename_i e;cases e
  ·rename_i e;cases e;exact Nk (Xk h)
  ·rename_i e;cases e;exact Nk h
theorem VV {q:Nat × Nat}{m:List (Nat × Nat)} {i:Nat}(h:q∈m):q∈JC N s m i:=by
 unfold JC;split
 ·exact Xk h
 ·split
  ·exact h
  ·split
   ·exact Nk (Xk h)
   ·exact Xk h
 ·exact Nk h
 ·exact h
theorem DZ {q:Nat × Nat}:∀{l:List Nat}{m:List (Nat × Nat)},q∈m->q∈l.foldl (JC N s) m
 |[],_,h=>h
 |_::l,_,h=>DZ (l:=l) (VV h)
theorem Tx {q:Nat × Nat}{m:List (Nat × Nat)} (h:q∈m):∀k,q∈Wr N s.hp k m
 |0=>h
 |k+1=>by
  unfold Wr;split
  ·exact Nk (Tx h k)
  ·exact Tx h k
theorem RM:∀{k i:Nat},i<k->s.hp (C6 N i)≠none->(C6 N i,C6 N i)∈VB N s.hp k
 |0,_,h,_=>by omega
 |k+1,i,h,hn=>by
  unfold VB;by_cases e:i=k
  ·subst e
   have:(s.hp (C6 N i)).isSome=true:=by
    cases hq:s.hp (C6 N i) with
    |none=>exact absurd hq hn
    |some b=>rfl
   rw [this];simp
  ·have:=RM (k:=k) (i:=i) (by omega) hn
   cases (s.hp (C6 N k)).isSome
   ·exact this
   ·exact List.mem_append.2 (.inl this)
theorem GT (h:B4 N w0 X0 Y β s a w){L:Nat}{q:Bool}{K:St->Option R}(hk:Acn N (Nt L N) q s K=some r):∃β' s',K s'=some r∧B4 N w0 X0 Y β' s' a w:=by
 unfold Acn at hk;obtain ⟨hb,hk1⟩:=Ax hk;simp only [Bool.and_eq_true] at hb
 obtain ⟨β2,h2⟩:∃β2,B4 N w0 X0 Y β2 (bif q then s else (Nt L N).foldl (TC N) ((Nt L N).foldl JB s)) a w:=by
  cases q
  ·obtain ⟨β1,h1⟩:=Q5 (fun s β h i=>OP h i) (Nt L N) h
   obtain ⟨β2,h2⟩:=Q5 (fun s β h i=>TO h i) (Nt L N) h1
   exact ⟨β2,h2⟩
  ·exact ⟨β,h⟩
 obtain ⟨β3,h3⟩:=TM h2 hb.1 hb.2 (ls:=Nt L N) (fun i hi=>RR hi) (fun i hi=>DZ (Tx (RM (X0.p8 i hi) (h2.pin i hi).1) 8))
 exact ⟨β3,_,hk1,h3⟩
theorem Do (h:B4 N w0 X0 Y β s a w){L:Nat}{K:St->Option R}(hk:Lo N L s K=some r):∃β' s',K s'=some r∧B4 N w0 X0 Y β' s' a w:=GT h hk
theorem GY (h:B4 N w0 X0 Y β s a w){L:Nat}{K:St->Option R}(hk:ZH N L s K=some r):∃β' s',K s'=some r∧B4 N w0 X0 Y β' s' a w:=GT h hk
end
open Go.RowKit
section
variable {R:Type} {r:R} {P:Program} {N:Nat} {w0:World} {X0:Fh} {Y:Nat->Prop} {C:Hs} {call:Ah}
theorem Xf {n:Nat}{F:St->Option R}{s:St}(h:NF n F s=some r):F s=some r:=by
 unfold NF at h;split at h
 ·cases h
 ·exact h
theorem GO {β:Bt}{s:St}{a:Act}{w:World}(h:B4 N w0 X0 Y β s a w){c:Operand}{kt kf:St->Option R}(hk:Aj6 s c kt kf=some r):(a.eval c=.bool true∧kt s=some r)∨(a.eval c=.bool false∧kf s=some r):=by
 unfold Aj6 at hk;split at hk
 ·rename_i d;split at hk
  ·rename_i b ht;have hv:a.eval (.tmp d)=.bool b:=Cx h (x:=.tmp d) ht;cases b
   ·change kf ⟨Cz s.tm d (.sc (.bool false)),s.hp⟩=some r at hk;rw [CY s.tm ht] at hk;exact .inr ⟨hv,hk⟩
   ·change kt ⟨Cz s.tm d (.sc (.bool true)),s.hp⟩=some r at hk;rw [CY s.tm ht] at hk;exact .inl ⟨hv,hk⟩
  ·rename_i ht;have hu:=Df h (.tmp d);change Dx _ _ _ (s.tm d) _ at hu;rw [ht] at hu;have hu':A7 w _ .ub (a.eval (.tmp d)):=hu
   obtain ⟨b,hv⟩:∃b,a.eval (.tmp d)=.bool b:=by
    generalize a.eval (.tmp d)=x at hu';cases hu' with
    |ub b=>exact ⟨b,rfl⟩
   obtain ⟨h1,h2⟩:=QP hk;cases b
   ·exact .inr ⟨hv,h2⟩
   ·exact .inl ⟨hv,h1⟩
  ·cases hk
 ·exact .inl ⟨rfl,hk⟩
 ·exact .inr ⟨rfl,hk⟩
 ·cases hk
theorem JR {c:Code}{Q:Exit->Act->World->Prop}{F:(St->Option R)->St->Option R} {nm:St->(St->Option R)->Option R}
  (hnm:∀{β s a w} {K:St->Option R},B4 N w0 X0 Y β s a w->nm s K=some r->∃β' s',K s'=some r∧B4 N w0 X0 Y β' s' a w)
  (hF:∀{β s a w} {K:St->Option R}{Q':Act->World->Prop},B4 N w0 X0 Y β s a w->F K s=some r->(∀s' a' w' β',K s'=some r->B4 N w0 X0 Y β' s' a' w'->Q' a' w')->c.wp P (Exit.then Q' Q) a w):
  ∀(n:Nat) {β s a w},B4 N w0 X0 Y β s a w->WC F nm n s=some r->Code.rounds P c Q n a w
 |0,_,_,_,_,_,hk=>by cases hk
 |n+1,β,s,a,w,h,hk=>by
  rw [rounds_succ];refine hF h hk fun s' a' w' β' hk' h'=>?_
  obtain ⟨β1,s1,hk1,h1⟩:=hnm h' hk';exact JR hnm hF n h1 hk1
theorem LC {G:Vq}(hNG:IM P G w0 X0)(hcall:∀f args res,call f args=some res->C9 G P f args res)(hm:P.follows .mixedOrders=true){fu:Nat}:
  ∀(c:Code) {ln:Nat} {lx:Nat->Nat} {lr:Nat} {kn:St->Option R} {kx:Nat->St->Option R} {kr:St->Option R} {β:Bt} {s:St} {a:Act} {w:World} {Q:Exit->Act->World->Prop},B4 N w0 X0 Y β s a w ->
   Lf C P fu N call c ln lx lr kn kx kr s=some r->(∀s' a' w' β',kn s'=some r->B4 N w0 X0 Y β' s' a' w'->Q .normal a' w') ->
   (∀id s' a' w' β',kx id s'=some r->B4 N w0 X0 Y β' s' a' w'->Q (.exit id) a' w')->(∀s' a' w' β',kr s'=some r->B4 N w0 X0 Y β' s' a' w'->Q .ret a' w')->c.wp P Q a w:=by
 intro c
 induction c with
 |skip=>intro ln lx lr kn kx kr β s a w Q h hk hn hx hr;exact wp_skip (hn s a w β hk h)
 |region id ops draw=>
  intro ln lx lr kn kx kr β s a w Q h hk hn hx hr;unfold Lf at hk;cases draw
  ·simp only [OB,Bool.false_and,cond_false] at hk;exact UM h hNG hcall hk hn
  ·simp only [OB,Ajw,Bool.true_and,cond_true] at hk;cases hb:JF C P ops<;>rw [hb] at hk
   ·obtain ⟨hb',hk1⟩:=Ax (show Au _ _=some r from hk)
    exact WX h hNG hcall hm hb' hk1 hn
   ·exact SD h hNG hcall hm hb hk hn
 |seq c1 c2 ih1 ih2=>
  intro ln lx lr kn kx kr β s a w Q h hk hn hx hr;unfold Lf at hk
  refine wp_seq (ih1 h hk (fun s' a' w' β' hk' h'=>by
    cases hc:Acw P c1 c2
    ·rw [hc] at hk';exact ih2 h' hk' hn hx hr
    ·rw [hc] at hk';cases hq:CR c1 c2
     ·rw [hq] at hk';obtain ⟨β1,s1,hk1,h1⟩:=Do h' (show Lo _ _ _ _=some r from hk')
      exact ih2 h1 (Xf hk1) hn hx hr
     ·rw [hq] at hk';obtain ⟨β1,s1,hk1,h1⟩:=GY h' (show ZH _ _ _ _=some r from hk')
      exact ih2 h1 (Xf hk1) hn hx hr) (fun id s' a' w' β' hk' h'=>hx id s' a' w' β' hk' h') (fun s' a' w' β' hk' h'=>hr s' a' w' β' hk' h'))
 |cond c c1 c2 ih1 ih2=>
  intro ln lx lr kn kx kr β s a w Q h hk hn hx hr;unfold Lf at hk;rcases GO h hk with ⟨hc,hk1⟩|⟨hc,hk1⟩
  ·exact wp_cond_true hc (ih1 h hk1 hn hx hr)
  ·exact wp_cond_false hc (ih2 h hk1 hn hx hr)
 |block id c ih=>
  intro ln lx lr kn kx kr β s a w Q h hk hn hx hr;unfold Lf at hk;refine wp_block (ih h hk (fun s' a' w' β' hk' h'=>hn s' a' w' β' hk' h') (fun j s' a' w' β' hk' h'=>?_) (fun s' a' w' β' hk' h'=>hr s' a' w' β' hk' h'))
  show (if j=id then _ else _)
  by_cases e:j=id
  ·subst e;rw [if_pos rfl];rw [Nat.beq_refl] at hk';exact hn s' a' w' β' hk' h'
  ·rw [if_neg e]
   have:Nat.beq j id=false:=by
    cases hb:Nat.beq j id
    ·rfl
    ·exact absurd (Nat.eq_of_beq_eq_true hb) e
   rw [this] at hk';exact hx j s' a' w' β' hk' h'
 |loop c ih=>
  intro ln lx lr kn kx kr β s a w Q h hk hn hx hr;unfold Lf at hk;obtain ⟨β1,s1,hk1,h1⟩:=Do h hk;refine wp_loop_rounds fu (JR (fun h hk=>Do h hk) (fun h hk hQ=>?_) fu h1 hk1)
  exact ih h hk hQ (fun id s' a' w' β' hk' h'=>hx id s' a' w' β' hk' h') (fun s' a' w' β' hk' h'=>hr s' a' w' β' hk' h')
 |«exit» id=>intro ln lx lr kn kx kr β s a w Q h hk hn hx hr;exact wp_exit (hx id s a w β hk h)
 |ret=>intro ln lx lr kn kx kr β s a w Q h hk hn hx hr;exact wp_ret (hr s a w β hk h)
 |_=>intro ln lx lr kn kx kr β s a w Q h hk hn hx hr;cases hk
end
open Go.RowKit
theorem O1:∀{l:List (Nat × Bn)} {i:Nat}{b:Bn},B7 l i=some b->(i,b)∈l
 |[],_,_,h=>by cases h
 |(j,c)::l,i,b,h=>by
  unfold B7 at h;cases hb:Nat.beq i j<;>rw [hb] at h
  ·exact List.mem_cons_of_mem _ (O1 h)
  ·have:=Nat.eq_of_beq_eq_true hb;cases h;rw [this];simp
theorem UJ:∀{l:List (Nat × Bn)},(l.map (·.1)).Nodup->∀{i b},(i,b)∈l->B7 l i=some b
 |[],_,_,_,h=>by cases h
 |(j,c)::l,hn,i,b,h=>by
  simp only [List.map_cons,List.nodup_cons] at hn;unfold B7;rcases List.mem_cons.1 h with e|h
  ·cases e;simp only [Nat.beq_refl,cond_true]
  ·have:Nat.beq i j=false:=by
    cases hb:Nat.beq i j
    ·rfl
    ·exact absurd (Nat.eq_of_beq_eq_true hb ▸ List.mem_map.2 ⟨_,h,rfl⟩) hn.1
   simp only [this,cond_false];exact UJ hn.2 h
section
variable {R:Type} {r:R} {P:Program} {N:Nat} {w0:World} {X0:Fh} {Y:Nat->Prop} {β β':Bt} {s:St} {a:Act} {w w':World} {A:Nat->Prop}
theorem Ais {id:Nat}{t:CT}{p:PV}{K:PV->List (Nat × Bn)->Option R} (hk:Aia id t p K=some r):
  (∃c,K c []=some r∧Zc c∧∀w A q u,Hz w A q p u->A7 w A c u)∨∃es n cc,p=.own es n cc∧K (.view id es 0 n) [(id,.ar false cc)]=some r:=by
 have tree:∀t',(FK t' p fun c=>K c [])=some r->∃c,K c []=some r∧Zc c∧∀w A q u,Hz w A q p u->A7 w A c u:=by
  intro t' hk;obtain ⟨c,hk,hT,hpT,hv⟩:=Pc hk;refine ⟨c,hk,hT,fun w A q u h=>(hv w A (fun _=>none) u ?_).1⟩
  cases p<;>first|exact h|exact hpT.elim
 unfold Aia at hk;cases t with
 |sl es=>
  dsimp only at hk;split at hk
  ·rename_i es' n c;cases hb:Nat.beq es' es<;>rw [hb] at hk
   ·cases hk
   ·have:=Nat.eq_of_beq_eq_true hb;subst this;exact .inr ⟨_,_,_,rfl,hk⟩
  ·exact .inl (tree (.sl es) hk)
 |int k=>exact .inl (tree _ hk)
 |bool=>exact .inl (tree _ hk)
 |str=>exact .inl (tree _ hk)
 |any=>exact .inl (tree _ hk)
theorem R9:∀{ts:List CT}{id:Nat}{ps:List PV}{K:List PV->List (Nat × Bn)->Option R},GU N id ts ps K=some r ->
  ∃cs bs,∃qs:List (Nat × Nat),K cs bs=some r∧cs.length=ps.length∧ps.length=ts.length∧bs.map (·.1)=qs.map (·.1)∧(∀q∈qs,∀q'∈qs,q.2=q'.2->q.1=q'.1) ∧
   (∀i bx,(i,bx)∈bs->∃c,bx=.ar false c)∧(∀c∈cs,OO c)∧(∀c∈cs,∀i∈Ay c,∃bx,(i,bx)∈bs) ∧
   ∀(w:World) (A:Nat->Prop) (own β':Bt) (j0:Nat) (us:List Value),(∀q∈qs,β' q.1=own (j0+q.2))->F7 w A own j0 ps us->Bk (Cc w A β') cs us∧∀i bx,(i,bx)∈bs->Sz w A β' i bx
 |[],id,ps,K,hk=>by
  obtain ⟨rfl,hk⟩:=Dt hk;refine ⟨[],[],[],hk,rfl,rfl,rfl,by simp,by simp,by simp,by simp,fun w A own β' j0 us _ h=>⟨?_,by simp⟩⟩
  cases us with
  |nil=>trivial
  |cons u us=>exact h.elim
 |t::ts,id,ps,K,hk=>by
  unfold GU at hk;obtain ⟨p,ps',hps,hk1⟩:=Be hk;subst hps;rcases Ais hk1 with ⟨c,hk2,hT,hv⟩|⟨es,n,cc,rfl,hk2⟩
  ·obtain ⟨cs,bs,qs,hk3,hl,hl2,hb,hq2,hb1,hF,hb2,hvs⟩:=R9 hk2;refine ⟨c::cs,bs,qs.map (fun q=>(q.1,q.2+1)),hk3,by simp [hl],by simp [hl2],by rw [hb];simp,?_,hb1,?_,?_,fun w A own β' j0 us hβ ho=>?_⟩
   ·intro q hq q' hq' e;obtain ⟨q0,hq0,rfl⟩:=List.mem_map.1 hq;obtain ⟨q1,hq1',rfl⟩:=List.mem_map.1 hq';exact hq2 q0 hq0 q1 hq1' (by simp only at e;omega)
   ·intro y hy;rcases List.mem_cons.1 hy with rfl|hy
    ·exact Uv hT
    ·exact hF y hy
   ·intro y hy i hi;rcases List.mem_cons.1 hy with rfl|hy
    ·rw [Ik hT] at hi;cases hi
    ·exact hb2 y hy i hi
   ·cases us with
    |nil=>exact ho.elim
    |cons u us=>
     obtain ⟨h1,h2⟩:=hvs w A own β' (j0+1) us (fun q hq=>by rw [hβ _ (List.mem_map_of_mem hq)];congr 1;simp only;omega) ho.2
     exact ⟨⟨Agy (hv w A _ u ho.1),h1⟩,h2⟩
  ·obtain ⟨cs,bs,qs,hk3,hl,hl2,hb,hq2,hb1,hF,hb2,hvs⟩:=R9 hk2;refine ⟨_::cs,(id,.ar false cc)::bs,(id,0)::qs.map (fun q=>(q.1,q.2+1)),hk3,by simp [hl],by simp [hl2],by simp only [List.map_cons,hb];simp,?_,?_,?_,?_,fun w A own β' j0 us hβ ho=>?_⟩
   ·intro q hq q' hq' e;rcases List.mem_cons.1 hq with rfl|hq
    ·rcases List.mem_cons.1 hq' with rfl|hq'
     ·rfl
     ·obtain ⟨q0,hq0,rfl⟩:=List.mem_map.1 hq';simp only at e;omega
    ·obtain ⟨q0,hq0,rfl⟩:=List.mem_map.1 hq;rcases List.mem_cons.1 hq' with rfl|hq'
     ·simp only at e;omega
     ·obtain ⟨q1,hq1',rfl⟩:=List.mem_map.1 hq';exact hq2 q0 hq0 q1 hq1' (by simp only at e;omega)
   ·intro i bx hm;rcases List.mem_cons.1 hm with e|hm
    ·cases e;exact ⟨cc,rfl⟩
    ·exact hb1 i bx hm
   ·intro y hy;rcases List.mem_cons.1 hy with rfl|hy
    ·trivial
    ·exact hF y hy
   ·intro y hy i hi;rcases List.mem_cons.1 hy with rfl|hy
    ·simp only [Ay,List.mem_singleton] at hi;subst hi;exact ⟨_,List.mem_cons_self⟩
    ·obtain ⟨bx,hbx⟩:=hb2 y hy i hi;exact ⟨bx,List.mem_cons_of_mem _ hbx⟩
   ·cases us with
    |nil=>exact ho.elim
    |cons u us=>
     obtain ⟨h1,h2⟩:=hvs w A own β' (j0+1) us (fun q hq=>by rw [hβ _ (List.mem_cons_of_mem _ (List.mem_map_of_mem hq))];congr 1;simp only;omega) ho.2
     have h0:=hβ (id,0) List.mem_cons_self;simp only [Nat.add_zero] at h0;refine ⟨⟨?_,h1⟩,fun i bx hm=>?_⟩
     ·rcases ho.1 with ⟨h3,rfl,_,h5⟩|⟨b,ob,cap,h3,h4,h5,h6,h7,_⟩
      ·exact .inl ⟨h0.trans h3,rfl,rfl,h5⟩
      ·exact .inr ⟨b,ob,ob,cap,h0.trans h3,h4,.inl rfl,h5,h6,h7⟩
     ·rcases List.mem_cons.1 hm with e|hm
      ·cases e;exact DF ho.1 h0
      ·exact h2 i bx hm
theorem Ak9 {i:Nat}{t:TypeId}{p:PV}{K:PV->List (Nat × Bn)->Option R} (hk:inK P N i t p K=some r):
  ∃v bs,∃qs:List (Nat × Nat),K v bs=some r∧bs.map (·.1)=qs.map (·.1)∧(∀q∈qs,∀q'∈qs,q.2=q'.2->q.1=q'.1)∧(EH p=true->(C6 N i,0)∈qs∧i<8) ∧
   (∀id bx,(id,bx)∈bs->Cg (some bx)∧∀c,bx=.st c->id=C6 N i∧EH p=true)∧(∀id∈Bx v,∃bx,(id,bx)∈bs)∧FZ bs ∧
   ∀(w:World) (A:Nat->Prop) (bt β':Bt) (u:Value),(∀q∈qs,β' q.1=bt q.2)->VH w A bt p u->Dx w A β' v u∧(∀id bx,(id,bx)∈bs->Sz w A β' id bx) ∧
    ∀id bx b o,(id,bx)∈bs->β' id=some (b,o)->∀j,BR bx o j->Apn bt p b j:=by
 have owns:∀{bs:List (Nat × Bn)} {qs:List (Nat × Nat)},bs.map (·.1)=qs.map (·.1)->(∀i bx,(i,bx)∈bs->∃c,bx=.ar false c)->∀{bt β':Bt},(∀q∈qs,β' q.1=bt (1+q.2))->∀id bx b o,(id,bx)∈bs->β' id=some (b,o)->∀j,BR bx o j->∃k o',bt (k+1)=some (b,o')∧o'<=j:=by
  intro bs qs hb hb1 bt β' hβ id bx b o hm hbo j hj;have:id∈qs.map (·.1):=by rw [←hb];exact List.mem_map.2 ⟨_,hm,rfl⟩
  obtain ⟨q,hq,rfl⟩:=List.mem_map.1 this;obtain ⟨c,rfl⟩:=hb1 _ _ hm;rw [hβ q hq,Nat.add_comm] at hbo;exact ⟨q.2,o,hbo,hj⟩
 have nost:∀{bs:List (Nat × Bn)},(∀i bx,(i,bx)∈bs->∃c,bx=.ar false c)->FZ bs:=by
  intro bs hb1 id cells hm;obtain ⟨c,e⟩:=hb1 id _ hm;cases e
 unfold inK at hk;split at hk
 ·rename_i e he;obtain ⟨ps,rfl,hk1⟩:=RS hk;obtain ⟨hi8,hk2⟩:=Ax hk1;have hi8:i<8:=Nat.lt_of_succ_le (Nat.le_of_ble_eq_true hi8);obtain ⟨cs,bs,qs,hk3,hl,hl2,hb,hq2,hb1,hF,hb2,hv⟩:=R9 hk2;refine ⟨_,_,(C6 N i,0)::qs.map (fun q=>(q.1,q.2+1)),hk3,by simp only [List.map_cons,hb];simp,?_,fun _=>⟨List.mem_cons_self,hi8⟩,?_,?_,?_,fun w A bt β' u hβ hp=>?_⟩
  ·intro q hq q' hq' e;rcases List.mem_cons.1 hq with rfl|hq
   ·rcases List.mem_cons.1 hq' with rfl|hq'
    ·rfl
    ·obtain ⟨q0,hq0,rfl⟩:=List.mem_map.1 hq';simp only at e;omega
   ·obtain ⟨q0,hq0,rfl⟩:=List.mem_map.1 hq;rcases List.mem_cons.1 hq' with rfl|hq'
    ·simp only at e;omega
    ·obtain ⟨q1,hq1',rfl⟩:=List.mem_map.1 hq';exact hq2 q0 hq0 q1 hq1' (by simp only at e;omega)
  ·intro id bx hm;rcases List.mem_cons.1 hm with e|hm
   ·cases e;exact ⟨trivial,fun _ _=>⟨rfl,rfl⟩⟩
   ·obtain ⟨c,rfl⟩:=hb1 id bx hm;exact ⟨trivial,fun _ e=>by cases e⟩
  ·intro id hid;simp only [Bx,Cf,Ay,List.mem_singleton] at hid;subst hid;exact ⟨_,List.mem_cons_self⟩
  ·intro id cells hm c hc k hk;rcases List.mem_cons.1 hm with e|hm
   ·cases e;obtain ⟨bx,hbx⟩:=hb2 c hc k hk;exact ⟨bx,List.mem_cons_of_mem _ hbx⟩
   ·obtain ⟨c,e⟩:=hb1 id _ hm;cases e
  ·obtain ⟨b,o,h1,rfl,_,vs,h3,h4,h5⟩:=hp;have h0:=hβ (C6 N i,0) List.mem_cons_self;simp only at h0;have hβ1:∀q∈qs,β' q.1=bt (1+q.2):=fun q hq=>by rw [hβ _ (List.mem_cons_of_mem _ (List.mem_map_of_mem hq)),Nat.add_comm]
   obtain ⟨h6,h7⟩:=hv w A bt β' 1 vs hβ1 h3;refine ⟨⟨b,o,h0.trans h1,by simp⟩,fun id bx hm=>?_,fun id bx b' o' hm hb' j hj=>?_⟩
   ·rcases List.mem_cons.1 hm with e|hm
    ·cases e;refine ⟨b,o,h0.trans h1,fun k c hk=>?_,fun k hk=>h5 k (by omega)⟩
     obtain ⟨v,hv,hcr⟩:=h6.get hk;exact ⟨v,h4 k v hv,hcr⟩
    ·exact h7 id bx hm
   ·rcases List.mem_cons.1 hm with e|hm
    ·cases e;rw [h0] at hb';have hj:o'<=j∧j<o'+cs.length:=hj;exact .inr ⟨o',ps,hb',hj.1,.inl ⟨rfl,by omega⟩⟩
    ·exact .inl (owns hb hb1 hβ1 id bx b' o' hm hb' j hj)
 ·split at hk
  ·rename_i ps;obtain ⟨e,he,hk1⟩:=Dd hk;obtain ⟨hi8,hk2⟩:=Ax hk1;have hi8:i<8:=Nat.lt_of_succ_le (Nat.le_of_ble_eq_true hi8);obtain ⟨q,qr,hq,hk3⟩:=Be hk2;subst hq;obtain ⟨hnil,hk4⟩:=Dt hk3;subst hnil;unfold Es at hk4;split at hk4
   ·rename_i es' n c;cases hb:Nat.beq es' (Bi P e)<;>rw [hb] at hk4
    ·cases hk4
    ·have hes:=Nat.eq_of_beq_eq_true hb;subst hes;refine ⟨_,_,[(C6 N i,0)],hk4,rfl,by simp,fun _=>⟨by simp,hi8⟩,?_,?_,?_,fun w A bt β' u hβ hp=>?_⟩
     ·intro id bx hm;simp only [List.mem_singleton] at hm;cases hm;exact ⟨trivial,fun _ e=>by cases e⟩
     ·intro id hid;simp only [Bx,Cf,Ay,List.mem_singleton] at hid;subst hid;exact ⟨_,List.mem_cons_self⟩
     ·intro id cells hm;simp only [List.mem_singleton] at hm;cases hm
     ·obtain ⟨es,n',c',h1,h2⟩:=hp;cases h1;have h0:=hβ (C6 N i,0) List.mem_cons_self;simp only at h0;refine ⟨?_,fun id bx hm=>?_,fun id bx b' o' hm hb' j hj=>?_⟩
      ·rcases h2 with ⟨h3,rfl,_,h5⟩|⟨b,ob,cap,h3,h4,h5,h6,h7,_⟩
       ·exact .inl ⟨h0.trans h3,rfl,rfl,h5⟩
       ·exact .inr ⟨b,ob,ob,cap,h0.trans h3,h4,.inl rfl,h5,h6,h7⟩
      ·simp only [List.mem_singleton] at hm;cases hm;exact DF h2 h0
      ·simp only [List.mem_singleton] at hm;cases hm;rw [h0] at hb';exact .inr ⟨o',_,hb',hj,.inr rfl⟩
   ·cases hk4
  ·rename_i hnt;cases hagg:Cv P t<;>rw [hagg] at hk
   ·simp only [cond_false] at hk;obtain ⟨cs,bs,qs,hk3,hl,hl2,hb,hq2,hb1,hF,hb2,hv⟩:=R9 hk;obtain ⟨c,cs',hcs,hk4⟩:=Be hk3;subst hcs;obtain ⟨hnil,hk5⟩:=Dt hk4;subst hnil;have hFc:=hF c (by simp)
    have hnL:EH p=false∨∃ps,p=.pbox ps:=by
     cases p<;>first|exact .inl rfl|exact .inr ⟨_,rfl⟩|exact absurd rfl (hnt _)
    have hpb:∀ps,p ≠ .pbox ps:=by
     rintro ps rfl
     cases hts:Iz P t with
     |nil=>rw [hts] at hl2;simp at hl2
     |cons t' ts=>
      rw [hts] at hk;unfold GU Aia at hk;obtain ⟨q,qs1,hq,hk1⟩:=Be hk;cases hq;cases t'<;>simp [FK,Fk,Ad,Bj,Cj,fnK] at hk1
    have hpa:∀ps,p ≠ .agg ps:=by
     rintro ps rfl
     cases hts:Iz P t with
     |nil=>rw [hts] at hl2;simp at hl2
     |cons t' ts=>
      rw [hts] at hk;unfold GU Aia at hk;obtain ⟨q,qs1,hq,hk1⟩:=Be hk;cases hq;cases t'<;>simp [FK,Fk,Ad,Bj,Cj,fnK] at hk1
    have hnL:EH p=false:=hnL.elim id (fun ⟨ps,e⟩=>absurd e (hpb ps))
    have hrefs:Bx c=Ay c:=by cases c<;>first|rfl|exact hFc.elim
    refine ⟨c,bs,qs.map (fun q=>(q.1,q.2+1)),hk5,by rw [hb];simp,?_,(fun h=>by rw [hnL] at h;cases h),?_,fun id hid=>hb2 c (by simp) id (by rw [←hrefs];exact hid),nost hb1,fun w A bt β' u hβ hp=>?_⟩
    ·intro q hq q' hq' e;obtain ⟨q0,hq0,rfl⟩:=List.mem_map.1 hq;obtain ⟨q1,hq1',rfl⟩:=List.mem_map.1 hq';exact hq2 q0 hq0 q1 hq1' (by simp only at e;omega)
    ·intro id bx hm;obtain ⟨c,rfl⟩:=hb1 id bx hm;exact ⟨trivial,fun _ e=>by cases e⟩
    ·have hp':Hz w A (bt 1) p u:=by cases p<;>first|exact hp.2|exact absurd rfl (hpa _)|exact absurd rfl (hpb _)|exact absurd rfl (hnt _)
     have hβ1:∀q∈qs,β' q.1=bt (1+q.2):=fun q hq=>by rw [hβ _ (List.mem_map_of_mem hq),Nat.add_comm]
     obtain ⟨h6,h7⟩:=hv w A bt β' 1 [u] hβ1 ⟨hp',trivial⟩;refine ⟨?_,h7,fun id bx b' o' hm hb' j hj=>.inl (owns hb hb1 hβ1 id bx b' o' hm hb' j hj)⟩
     have h8:=h6.1;cases c<;>first|exact h8|exact hFc.elim
   ·simp only [cond_true] at hk;obtain ⟨ps,hp0,hk1⟩:=Id hk;subst hp0;obtain ⟨cs,bs,qs,hk3,hl,hl2,hb,hq2,hb1,hF,hb2,hv⟩:=R9 hk1;refine ⟨_,bs,qs.map (fun q=>(q.1,q.2+1)),hk3,by rw [hb];simp,?_,(fun h=>by cases h),?_,fun id hid=>?_,nost hb1,fun w A bt β' u hβ hp=>?_⟩
    ·intro q hq q' hq' e;obtain ⟨q0,hq0,rfl⟩:=List.mem_map.1 hq;obtain ⟨q1,hq1',rfl⟩:=List.mem_map.1 hq';exact hq2 q0 hq0 q1 hq1' (by simp only at e;omega)
    ·intro id bx hm;obtain ⟨c,rfl⟩:=hb1 id bx hm;exact ⟨trivial,fun _ e=>by cases e⟩
    ·obtain ⟨c,hc,hi⟩:=List.mem_flatMap.1 (show id∈cs.flatMap Ay from hid)
     exact hb2 c hc id hi
    ·obtain ⟨vs,h1,_,h3⟩:=hp;have hβ1:∀q∈qs,β' q.1=bt (1+q.2):=fun q hq=>by rw [hβ _ (List.mem_map_of_mem hq),Nat.add_comm]
     obtain ⟨h6,h7⟩:=hv w A bt β' 1 vs hβ1 h3;exact ⟨⟨vs,h1,h6⟩,h7,fun id bx b' o' hm hb' j hj=>.inl (owns hb hb1 hβ1 id bx b' o' hm hb' j hj)⟩
theorem VZ:∀{ts:List TypeId}{i:Nat}{ps:List PV}{K:List (Nat × PV)->List (Nat × Bn)->Option R},Afp P N i ts ps K=some r ->
  ∃tms bs,∃qs:List (Nat × Nat × Nat),K tms bs=some r∧bs.map (·.1)=qs.map (·.1)∧(∀q∈qs,i<=q.2.1)∧(∀q∈qs,∀q'∈qs,q.2=q'.2->q.1=q'.1) ∧
   (∀k p,ps[k]?=some p->EH p=true->(C6 N (i+k),i+k,0)∈qs∧i+k<8)∧(∀id bx,(id,bx)∈bs->Cg (some bx)∧∀c,bx=.st c->∃k p,ps[k]?=some p∧EH p=true∧id=C6 N (i+k)) ∧
   (∀j,∀id∈Bx (lk tms j),∃bx,(id,bx)∈bs)∧FZ bs ∧
   ∀(w:World) (A:Nat->Prop) (bt:IV) (β':Bt) (us:List Value),(∀q∈qs,β' q.1=bt q.2.1 q.2.2)->Ow w A bt i ps us ->
    (∀j,(∃u,i<=j∧us[j-i]?=some u∧Dx w A β' (lk tms j) u)∨(lk tms j=.top∧(i<=j->us[j-i]?=none)))∧(∀id bx,(id,bx)∈bs->Sz w A β' id bx) ∧
    ∀id bx b o,(id,bx)∈bs->β' id=some (b,o)->∀j,BR bx o j->∃k p,ps[k]?=some p∧Apn (bt (i+k)) p b j
 |[],i,ps,K,hk=>by
  obtain ⟨hps,hk⟩:=Dt hk;subst hps;refine ⟨[],[],[],hk,rfl,by simp,by simp,by simp,by simp,(fun j id hid=>by cases hid),(by intro i cells hm;cases hm),fun w A bt β' us _ h=>?_⟩
  cases us with
  |nil=>exact ⟨fun j=>.inr ⟨rfl,fun _=>by simp⟩,by simp,by simp⟩
  |cons u us=>exact h.elim
 |t::ts,i,ps,K,hk=>by
  unfold Afp at hk;obtain ⟨p,ps',hps,hk1⟩:=Be hk;subst hps;obtain ⟨v,bs,qs,hk2,hb,hqi,hpin,hbx,hr,hri,hv⟩:=Ak9 hk1;obtain ⟨tms,bs',qs',hk3,hb',hq0',hqi',hpin',hbx',hr',hri',hv'⟩:=VZ hk2;refine ⟨(i,v)::tms,bs++bs',qs.map (fun q=>(q.1,i,q.2))++qs',hk3,by simp only [List.map_append,hb,hb'];simp,?_,?_,?_,?_,?_,?_,fun w A bt β' us hβ hp=>?_⟩
  ·intro q hq;rcases List.mem_append.1 hq with hq|hq
   ·obtain ⟨q0,hq0,rfl⟩:=List.mem_map.1 hq;exact Nat.le_refl _
   ·have:=hq0' q hq;omega
  ·intro q hq q' hq' e;rcases List.mem_append.1 hq with hq|hq
   ·obtain ⟨q0,hq0,rfl⟩:=List.mem_map.1 hq;rcases List.mem_append.1 hq' with hq'|hq'
    ·obtain ⟨q1,hq1',rfl⟩:=List.mem_map.1 hq';simp only [Prod.mk.injEq,true_and] at e;exact hqi q0 hq0 q1 hq1' e
    ·have:=hq0' q' hq';rw [←e] at this;simp only at this;omega
   ·have h5:=hq0' q hq;rcases List.mem_append.1 hq' with hq'|hq'
    ·obtain ⟨q1,hq1',rfl⟩:=List.mem_map.1 hq';rw [e] at h5;simp only at h5;omega
    ·exact hqi' q hq q' hq' e
  ·intro k p' hk' hL;cases k with
   |zero=>
    simp only [List.getElem?_cons_zero,Option.some.injEq] at hk';subst hk';obtain ⟨h1,h2⟩:=hpin hL;exact ⟨List.mem_append.2 (.inl (List.mem_map.2 ⟨_,h1,rfl⟩)),h2⟩
   |succ k=>
    obtain ⟨h1,h2⟩:=hpin' k p' (by simpa using hk') hL
    rw [show i+1+k=i+(k+1) by omega] at h1 h2
    exact ⟨List.mem_append.2 (.inr h1),h2⟩
  ·intro id bx hm;rcases List.mem_append.1 hm with hm|hm
   ·obtain ⟨h1,h2⟩:=hbx id bx hm;exact ⟨h1,fun c hc=>⟨0,p,rfl,(h2 c hc).2,(h2 c hc).1⟩⟩
   ·obtain ⟨h1,h2⟩:=hbx' id bx hm;refine ⟨h1,fun c hc=>?_⟩
    obtain ⟨k,p',h3,h4,h5⟩:=h2 c hc;exact ⟨k+1,p',by simpa using h3,h4,by rw [h5,show i+1+k=i+(k+1) by omega]⟩
  ·intro j id hid;unfold lk at hid;cases hbq:Nat.beq j i<;>rw [hbq] at hid
   ·obtain ⟨bx,h1⟩:=hr' j id hid;exact ⟨bx,List.mem_append.2 (.inr h1)⟩
   ·obtain ⟨bx,h1⟩:=hr id hid;exact ⟨bx,List.mem_append.2 (.inl h1)⟩
  ·intro id cells hm c hc k hk;rcases List.mem_append.1 hm with hm|hm
   ·obtain ⟨bx,h1⟩:=hri id cells hm c hc k hk;exact ⟨bx,List.mem_append.2 (.inl h1)⟩
   ·obtain ⟨bx,h1⟩:=hri' id cells hm c hc k hk;exact ⟨bx,List.mem_append.2 (.inr h1)⟩
  ·cases us with
   |nil=>exact hp.elim
   |cons u us=>
    obtain ⟨h1,h2,h3⟩:=hv w A (bt i) β' u (fun q hq=>hβ _ (List.mem_append.2 (.inl (List.mem_map_of_mem hq)))) hp.1
    obtain ⟨h1',h2',h3'⟩:=hv' w A bt β' us (fun q hq=>hβ q (List.mem_append.2 (.inr hq))) hp.2
    refine ⟨fun j=>?_,fun id bx hm=>?_,fun id bx b o hm hbo j hj=>?_⟩
    ·unfold lk;cases hbq:Nat.beq j i
     ·have hne:=O8 hbq;simp only [cond_false];rcases h1' j with ⟨u',h4,h5,h6⟩|⟨h4,h5⟩
      ·refine .inl ⟨u',by omega,?_,h6⟩
       rw [show j-i=(j-(i+1))+1 by omega]
       simpa using h5
      ·refine .inr ⟨h4,fun hij=>?_⟩
       rw [show j-i=(j-(i+1))+1 by omega]
       simpa using h5 (by omega)
     ·have:=Nat.eq_of_beq_eq_true hbq;subst this;exact .inl ⟨u,Nat.le_refl _,by simp,h1⟩
    ·rcases List.mem_append.1 hm with hm|hm
     ·exact h2 id bx hm
     ·exact h2' id bx hm
    ·rcases List.mem_append.1 hm with hm|hm
     ·exact ⟨0,p,rfl,h3 id bx b o hm hbo j hj⟩
     ·obtain ⟨k,p',h4,h5⟩:=h3' id bx b o hm hbo j hj;exact ⟨k+1,p',by simpa using h4,by rw [show i+(k+1)=i+1+k by omega];exact h5⟩
def JE (bt:IV)(args:List PV)(h8:∀k p,args[k]?=some p->EH p=true->k<8):Fh:=
 ⟨BtX bt,QB bt args,fun i=>∃p,args[i]?=some p∧EH p=true,fun i=>bt i 0,fun i ⟨p,h1,h2⟩=>h8 i p h1 h2⟩
theorem QZ {ts:List TypeId}{args:List PV}{us:List Value}{bt:IV}{K:List (Nat × PV)->List (Nat × Bn)->Option R} (hin:Ins w Y bt args us)(hk:Afp P N 0 ts args K=some r):
  ∃tms bs,K tms bs=some r∧(B9 (fun _=>none) bs=true->us.length<=N->∃(h8:∀k p,args[k]?=some p->EH p=true->k<8),∃β0,
   B4 N w (JE bt args h8) Y β0 ⟨lk tms,B7 bs⟩ { tmps:=us.toArray++Array.replicate (N-us.toArray.size) undef,defers:=[] } w):=by
 obtain ⟨tms,bs,qs,hk1,hb,hq0,hqi,hpin,hbx,hr,hri,hv⟩:=VZ hk;refine ⟨tms,bs,hk1,fun hab hN=>?_⟩
 have hnod:=Uf hab
 have h8:∀k p,args[k]?=some p->EH p=true->k<8:=fun k p h1 h2=>by
  have:=(hpin k p h1 h2).2;omega
 have hqn:(qs.map (·.1)).Nodup:=by rw [←hb];exact hnod
 obtain ⟨β0,hβ0⟩:∃β0:Bt,∀q∈qs,β0 q.1=bt q.2.1 q.2.2:=by
  have:∀(l:List (Nat × Nat × Nat)),(l.map (·.1)).Nodup->∃β0:Bt,∀q∈l,β0 q.1=bt q.2.1 q.2.2:=by
   intro l
   induction l with
   |nil=>intro _;exact ⟨fun _=>none,by simp⟩
   |cons q l ih=>
    intro hn;simp only [List.map_cons,List.nodup_cons] at hn;obtain ⟨b1,h1⟩:=ih hn.2;refine ⟨Cz b1 q.1 (bt q.2.1 q.2.2),fun q' hq'=>?_⟩
    rcases List.mem_cons.1 hq' with rfl|hq'
    ·exact Az _ _ _
    ·have hne:q'.1≠q.1:=fun e=>hn.1 (by rw [←e];exact List.mem_map.2 ⟨q',hq',rfl⟩)
     rw [Av _ _ hne];exact h1 q' hq'
  exact this qs hqn
 refine ⟨h8,β0,?_⟩;obtain ⟨hs,hbr,hL⟩:=hv w _ bt β0 us hβ0 hin.args
 have hqm:∀id bx,(id,bx)∈bs->∃ik,(id,ik)∈qs∧β0 id=bt ik.1 ik.2:=by
  intro id bx hm;have:id∈qs.map (·.1):=by rw [←hb];exact List.mem_map.2 ⟨_,hm,rfl⟩
  obtain ⟨q,hq,rfl⟩:=List.mem_map.1 this;exact ⟨q.2,hq,hβ0 q hq⟩
 have hX:∀b,BV (B7 bs) β0 b->BtX bt b:=by
  rintro b ⟨id,o,hl,hβ⟩
  cases hq:B7 bs id with
  |none=>rw [hq] at hl;exact hl.elim
  |some bx=>
   obtain ⟨ik,_,h2⟩:=hqm id bx (O1 hq);rw [h2] at hβ;exact ⟨_,_,_,hβ⟩
 have hA:∀b,C1 (B7 bs) β0 Y b->BtX bt b∨Y b:=fun b hb=>hb.imp (hX b) id
 have hput:∀{p:PV} {u:Value},Dx w (fun b=>BtX bt b∨Y b) β0 p u->Dx w (C1 (B7 bs) β0 Y) β0 p u:=fun h=>h.step (Cb.refl _ _) (fun b _=>hA b) (fun _ _=>rfl)
 refine ⟨rfl,by simp;omega,fun i hi=>?_,fun i hi=>?_,?_,?_,?_,fun i hi id hid=>?_,?_,fun b hb=>.inl (hX b hb),?_,?_,?_,fun b hY hXb=>hin.Yx b hY (hX b hXb),hin.Ylt,⟨rfl,rfl,rfl,Cb.refl _ _,fun _ _ _ _=>⟨rfl,rfl⟩⟩⟩
 ·rcases hs i with ⟨u,_,h,_⟩|⟨h,_⟩
  ·rw [Nat.sub_zero,List.getElem?_eq_none (by omega)] at h;cases h
  ·exact h
 ·rcases hs i with ⟨u,_,h,hv⟩|⟨h,h'⟩
  ·rw [Nat.sub_zero] at h
   have hlt:i<us.length:=by
    rcases Nat.lt_or_ge i us.length with h'|h'
    ·exact h'
    ·rw [List.getElem?_eq_none h'] at h;cases h
   have:(us.toArray++Array.replicate (N-us.toArray.size) undef).getD i undef=u:=by
    rw [Array.getD_eq_getD_getElem?,Array.getElem?_append_left (by simpa using hlt)]
    simp [h]
   show Dx w _ _ _ ((us.toArray++Array.replicate (N-us.toArray.size) undef).getD i undef);rw [this];exact hput hv
  ·show Dx w _ _ (lk tms i) _;rw [h];exact A7.top _
 ·intro id bx hq;exact (hbr id bx (O1 hq)).step' hA
 ·intro id id' b o o' hl hl' hβ hβ';cases hq:B7 bs id with
  |none=>change Cg (B7 bs id) at hl;rw [hq] at hl;exact hl.elim
  |some bx=>
   cases hq':B7 bs id' with
   |none=>change Cg (B7 bs id') at hl';rw [hq'] at hl';exact hl'.elim
   |some bx'=>
    obtain ⟨ik,h1,h2⟩:=hqm id bx (O1 hq);obtain ⟨ik',h1',h2'⟩:=hqm id' bx' (O1 hq');rw [h2] at hβ;rw [h2'] at hβ';obtain ⟨h3,h4⟩:=hin.inj _ _ _ _ b o o' hβ hβ';exact hqi _ h1 _ h1' (Prod.ext h3 h4)
 ·intro id b o hn hβ;cases hq:B7 bs id with
  |none=>exact absurd hq hn
  |some bx=>
   obtain ⟨ik,h1,h2⟩:=hqm id bx (O1 hq);rw [h2] at hβ;exact hin.lt b ⟨_,_,_,hβ⟩
 ·obtain ⟨bx,hm⟩:=hr i id hid;show B7 bs id≠none;rw [UJ hnod hm];simp
 ·intro id cells hq c hc k hk;obtain ⟨bx,hm⟩:=hri id cells (O1 hq) c hc k hk;show B7 bs k≠none;rw [UJ hnod hm];simp
 ·intro id bx b o hq hl hβ _ j hj;obtain ⟨k,p,h1,h2⟩:=hL id bx b o (O1 hq) hβ j hj;rw [Nat.zero_add] at h2;exact ⟨k,p,h1,h2⟩
 ·rintro i ⟨p,h1,h2⟩
  have h3:=(hpin i p h1 h2).1;rw [Nat.zero_add] at h3;refine ⟨?_,hβ0 _ h3⟩;have:C6 N i∈bs.map (·.1):=by rw [hb];exact List.mem_map.2 ⟨_,h3,rfl⟩
  obtain ⟨⟨id,bx⟩,hm,e⟩:=List.mem_map.1 this;show B7 bs (C6 N i)≠none;rw [←e,UJ hnod hm];simp
 ·intro id c b o hq _ _;obtain ⟨k,p,h1,h2,h3⟩:=(hbx id _ (O1 hq)).2 c rfl;rw [Nat.zero_add] at h3;exact ⟨k,h3,p,h1,h2⟩
end
open Go.RowKit
def M2 (β:Bt)(l:List (Option Nat)) (j:Nat):Option (Nat × Nat):=((l[j]?).bind id).bind β
section
variable {R:Type} {r:R} {P:Program} {N:Nat} {w0:World} {X0:Fh} {Y:Nat->Prop} {β β':Bt} {s:St} {a:Act} {w w':World} {A:Nat->Prop}
def Ahw (s:St)(l:List (Option Nat)):Prop:=∀id,some id∈l->Cg (s.hp id)
def Ox (s:St)(z:List Nat):Prop:=∀id∈z,∃f c,s.hp id=some (.ar f c)
theorem QH (h : B4 N w0 X0 Y β s a w) {shr : Bool} {t : CT} {p : PV} {K : PV -> List Nat -> List Nat -> Option R} (hk : Ado shr s.hp t p K = some r) :
    ∃ c q z, K c (Option.toList q) z = some r ∧ (∀ x, c ≠ .agg x ∧ c ≠ .pbox x) ∧ OO p ∧ (∀ id, q = some id -> ∃ c, s.hp id = some (.ar false c)) ∧ Ox s z ∧
      ∀ (fz : List Nat) A u, (∀ i ∈ z, i ∈ fz) -> Ox s fz -> (∀ b, A b -> C1 (Ai s.hp fz) β Y b) -> Cc w (C1 s.hp β Y) β p u -> Hz w A (q.bind β) c u := by
  have notree : ∀ {c : PV}, Zc c -> ∀ x, c ≠ .agg x ∧ c ≠ .pbox x := fun hT x => ⟨DT hT x, by rintro rfl; exact hT⟩
  unfold Ado at hk
  cases shr <;> simp only [cond_true, cond_false] at hk
  · have tree : ∀ t', (∀ es, t' ≠ .sl es) -> (FK t' p fun c => K c [] []) = some r -> ∃ c q z, K c (Option.toList q) z = some r ∧ (∀ x, c ≠ .agg x ∧ c ≠ .pbox x) ∧ OO p ∧ (∀ id, q = some id -> ∃ c, s.hp id = some (.ar false c)) ∧ Ox s z ∧
        ∀ (fz : List Nat) A u, (∀ i ∈ z, i ∈ fz) -> Ox s fz -> (∀ b, A b -> C1 (Ai s.hp fz) β Y b) -> Cc w (C1 s.hp β Y) β p u -> Hz w A (q.bind β) c u := by
      intro t' hne hk
      obtain ⟨c, hk1, hT, hpT, hv⟩ := Pc hk
      refine ⟨c, none, [], hk1, notree hT, Uv hpT, by simp, (by intro i hi; cases hi), fun fz A u _ _ hA hc => Ml hT ?_⟩
      exact (hv w _ β u hc).1.step (Cb.refl _ _) (fun b _ hb => P6 (hA b hb))
    unfold Ank at hk
    cases t with
    | sl es =>
      dsimp only at hk
      split at hk
      · rename_i id es' off n
        cases hb : (Nat.beq es' es && Nat.beq off 0) <;> rw [hb] at hk
        · cases hk
        · simp only [Bool.and_eq_true] at hb
          have he := Nat.eq_of_beq_eq_true hb.1
          have ho := Nat.eq_of_beq_eq_true hb.2
          subst he ho
          simp only [cond_true] at hk
          split at hk
          · rename_i c h0
            obtain ⟨hl, hk1⟩ := Ax hk
            refine ⟨_, some id, [], hk1, by simp, trivial, fun i hi => by cases hi; exact ⟨c, h0⟩, (by intro i hi; cases hi), fun fz A u _ _ hA hc => ?_⟩
            rcases hc with ⟨h1, _, rfl, h4⟩ | ⟨b, o, x, cap, h1, h2, hx, h3, h4, h5⟩
            · exact .inl ⟨h1, rfl, by simp, h4⟩
            · have hx : x = o := by rcases hx with e | ⟨_, e⟩ <;> omega
              subst hx
              rcases h.box id _ h0 with ⟨h6, _⟩ | ⟨b', o', h6, h7, h8, _⟩
              · rw [h1] at h6; cases h6
              · rw [h1] at h6
                cases h6
                refine .inr ⟨b, x, cap, h1, h2, h3, h4, h5, fun j q hq => ?_, fun j hj hj' => h8 rfl j hj hj'⟩
                rw [List.getElem?_take] at hq
                split at hq
                · obtain ⟨v, hv, h9, ht⟩ := h7 j q hq
                  exact ⟨v, hv, h9, ht.step (Cb.refl _ _) (fun b _ hb => P6 (hA b hb))⟩
                · cases hq
          · cases hk
      · obtain ⟨z, n, c, hk1, hp⟩ := Gt hk
        obtain ⟨hz, hk2⟩ := Ax hk1
        subst hz
        have hpF : OO p := by rcases hp with e | ⟨e, _⟩ <;> (rw [e]; trivial)
        refine ⟨_, none, [], hk2, by simp, hpF, by simp, (by intro i hi; cases hi), fun fz A u _ _ _ hc => ?_⟩
        have hu : u = .slice none 0 0 := by
          rcases hp with rfl | ⟨rfl, _⟩
          · cases hc; rfl
          · exact A7.val hc
        exact .inl ⟨rfl, rfl, rfl, hu⟩
    | int k => exact tree _ (by simp) hk
    | bool => exact tree _ (by simp) hk
    | str => exact tree _ (by simp) hk
    | any => exact tree _ (by simp) hk
  · obtain ⟨c, m, hk1, hT, hF, hm, hv⟩ := MR h hk
    exact ⟨c, none, m, hk1, notree hT, hF, by simp, hm, fun fz A u h1 h2 hA hc => Ml hT ((hv fz h1 h2 u hc).1.step (Cb.refl _ _) (fun b _ hb => hA b hb))⟩
structure ID (s:St) (β:Bt) (Y:Nat->Prop) (w:World) (cs:List PV) (l:List (Option Nat)) (z:List Nat) (ps:List PV):Prop where
 len:l.length=cs.length
 pl:cs.length=ps.length
 na:∀c∈cs,∀x,c ≠ .agg x∧c ≠ .pbox x
 fr:∀p∈ps,OO p
 own:∀id,some id∈l->∃c,s.hp id=some (.ar false c)
 row:Ox s z
 sem:∀(fz:List Nat) A us,(∀i∈z,i∈fz)->Ox s fz->(∀b,A b->C1 (Ai s.hp fz) β Y b)->Bk (Cc w (C1 s.hp β Y) β) ps us->∀own j0,(∀j,j<l.length->own (j0+j)=M2 β l j)->F7 w A own j0 cs us
theorem ID.nil:ID s β Y w [] [] [] []:=⟨rfl,rfl,by simp,by simp,by simp,(by intro i hi;cases hi),fun fz A us _ _ _ hu own j0 _=>by
 cases us with
 |nil=>trivial
 |cons u us=>exact hu.elim⟩
theorem ID.cons {c p:PV}{q:Option Nat}{z zs:List Nat}{cs ps:List PV}{l:List (Option Nat)} (hna:∀x,c ≠ .agg x∧c ≠ .pbox x)(hF:OO p)(hq:∀id,q=some id->∃c,s.hp id=some (.ar false c)) (hz:Ox s z)
  (hv:∀(fz:List Nat) A u,(∀i∈z,i∈fz)->Ox s fz->(∀b,A b->C1 (Ai s.hp fz) β Y b)->Cc w (C1 s.hp β Y) β p u->Hz w A (q.bind β) c u) (H:ID s β Y w cs l zs ps):ID s β Y w (c::cs) (q::l) (z++zs) (p::ps):=by
 refine ⟨by simp [H.len],by simp [H.pl],?_,?_,?_,?_,fun fz A us hz1 hz2 hA hu own j0 hown=>?_⟩
 ·intro x hx;rcases List.mem_cons.1 hx with rfl|hx
  ·exact hna
  ·exact H.na x hx
 ·intro x hx;rcases List.mem_cons.1 hx with rfl|hx
  ·exact hF
  ·exact H.fr x hx
 ·intro id hid;rcases List.mem_cons.1 hid with e|hid
  ·exact hq id e.symm
  ·exact H.own id hid
 ·intro i hi;rcases List.mem_append.1 hi with hi|hi
  ·exact hz i hi
  ·exact H.row i hi
 ·cases us with
  |nil=>exact hu.elim
  |cons u us=>
   have h0:=hown 0 (by simp)
   rw [Nat.add_zero] at h0;refine ⟨?_,H.sem fz A us (fun i hi=>hz1 i (by simp [hi])) hz2 hA hu.2 own (j0+1) fun j hj=>?_⟩
   ·rw [h0];exact hv fz A u (fun i hi=>hz1 i (by simp [hi])) hz2 hA hu.1
   ·have:=hown (j+1) (by simp;omega)
    rw [show j0+1+j=j0+(j+1) by omega,this]
    simp [M2]
theorem Tr (h:B4 N w0 X0 Y β s a w){shr:Bool}:∀{ts:List CT}{ps:List PV}{K:List PV->List Nat->List Nat->Option R},FV shr s.hp ts ps K=some r ->
  ∃cs l z,K cs (l.filterMap id) z=some r∧ID s β Y w cs l z ps
 |[],[],K,hk=>⟨[],[],[],hk,ID.nil⟩
 |[],_::_,K,hk=>by cases hk
 |_::_,[],K,hk=>by cases hk
 |t::ts,p::ps,K,hk=>by
  unfold FV at hk;obtain ⟨c,q,z,hk1,hna,hF,hq,hz,hv⟩:=QH h hk;obtain ⟨cs,l,zs,hk2,H⟩:=Tr h hk1;refine ⟨c::cs,q::l,z++zs,?_,ID.cons hna hF hq hz hv H⟩;cases q<;>exact hk2
theorem HG (h:B4 N w0 X0 Y β s a w):∀{ts:List CT}{ws ps:List PV}{K:List PV->List Nat->List Nat->Option R},IQ s.hp ts ws ps K=some r ->
  ∃cs l z,K cs (l.filterMap id) z=some r∧cs.length=ws.length∧ID s β Y w cs l z ps
 |[],[],[],K,hk=>⟨[],[],[],hk,rfl,ID.nil⟩
 |[],_::_,_,K,hk=>by cases hk
 |[],[],_::_,K,hk=>by cases hk
 |_::_,[],_,K,hk=>by cases hk
 |_::_,_::_,[],K,hk=>by cases hk
 |t::ts,x::ws,p::ps,K,hk=>by
  unfold IQ at hk;obtain ⟨c,q,z,hk1,hna,hF,hq,hz,hv⟩:=QH h hk;obtain ⟨cs,l,zs,hk2,hl,H⟩:=HG h hk1;refine ⟨c::cs,q::l,z++zs,?_,by simp [hl],ID.cons hna hF hq hz hv H⟩
  cases q<;>exact hk2
theorem Aa8 {own:Bt}{zz j:Nat}{p:PV}{u:Value}(hp:∀x,p ≠ .agg x∧p ≠ .pbox x)(h:F7 w A own j [p] [u]):Akv w A own zz j p u:=by
 cases p<;>first|exact h.1|exact absurd rfl (hp _).1|exact absurd rfl (hp _).2
theorem Ac5 (h:B4 N w0 X0 Y β s a w){id b o:Nat}{c cs:List PV}{l:List (Option Nat)} {z:List Nat}(h0:s.hp id=some (.st c)) (hβ:β id=some (b,o)) (H:ID s β Y w cs l z c){fz:List Nat}{A:Nat->Prop}(h1:∀i∈z,i∈fz)(h2:Ox s fz)(hA:∀b,A b->C1 (Ai s.hp fz) β Y b)
  {own:Bt} {j0:Nat} (hown:∀j,j<l.length->own (j0+j)=M2 β l j):Al0 w A own j0 b o cs:=by
 obtain ⟨b',o',hb1,hb2,hb3⟩:=h.box id _ h0;rw [hβ] at hb1;cases hb1;refine ⟨c.mapIdx (fun j _=>(w.cell? ⟨b,o+j,none⟩).getD undef),H.sem fz A _ h1 h2 hA ?_ own j0 hown,?_,fun k hk=>hb3 k (by have:=H.pl;omega)⟩
 ·refine Bk.of_at (by simp) fun j p v hp hv=>?_
  obtain ⟨u,hu,hcr⟩:=hb2 j p hp;rw [List.getElem?_mapIdx,hp,Option.map_some,hu] at hv;simp at hv;subst hv;exact hcr
 ·intro k v hkv;rw [List.getElem?_mapIdx] at hkv;cases hp:c[k]? with
  |none=>rw [hp] at hkv;cases hkv
  |some p=>
   obtain ⟨u,hu,hcr⟩:=hb2 k p hp;rw [hp,Option.map_some,hu] at hkv;simp at hkv;subst hkv;exact hu
theorem Afs (h:B4 N w0 X0 Y β s a w){shr:Bool}{t:TypeId}{p:PV}{u:Value}(hp:Dx w (C1 s.hp β Y) β p u) {K:PV->List Nat->List Nat->Option R}(hk:Ai5 P shr s.hp t p K=some r):
  ∃v l z,K v (l.filterMap id) z=some r∧l.length=plc v∧Ahw s l∧Ox s z ∧
   ∀(fz:List Nat) A zz,(∀i∈z,i∈fz)->Ox s fz->(∀b,A b->C1 (Ai s.hp fz) β Y b)->(∀id c b o,some id∈l->s.hp id=some (.st c)->β id=some (b,o)->zz<=b) ->
    ∀own j0,(∀j,j<l.length->own (j0+j)=M2 β l j)->Akv w A own zz j0 v u:=by
 unfold Ai5 at hk;split at hk
 ·rename_i e he;split at hk
  ·rename_i id off;split at hk
   ·rename_i c h0;obtain ⟨hof,hk1⟩:=Ax hk;have hof:=Nat.eq_of_beq_eq_true hof;subst hof;obtain ⟨cs,l,z,hk2,H⟩:=Tr h hk1;obtain ⟨b,o,hβ,hu⟩:=hp;refine ⟨.pbox cs,some id::l,z,hk2,by simp only [plc,List.length_cons,H.len];omega,?_,H.row,fun fz A zz h1 h2 hA hz own j0 hown=>?_⟩
    ·intro i hi;rcases List.mem_cons.1 hi with e|hi
     ·cases e;rw [h0];trivial
     ·obtain ⟨c',hc'⟩:=H.own i hi;rw [hc'];trivial
    ·have h3:=hown 0 (by simp)
     rw [Nat.add_zero] at h3;refine ⟨b,o,by rw [h3];exact hβ,hz id c b o (by simp) h0 hβ,by rw [hu,Nat.add_zero],Ac5 h h0 hβ H h1 h2 hA fun j hj=>?_⟩
     have:=hown (j+1) (by simp;omega)
     rw [show j0+1+j=j0+(j+1) by omega,this]
     simp [M2]
   ·cases hk
  ·cases hk
 ·cases hagg:Cv P t<;>rw [hagg] at hk<;>simp only [cond_true,cond_false] at hk
  ·obtain ⟨cs,l,z,hk1,H⟩:=Tr h hk;obtain ⟨c,cs',hcs,hk2⟩:=Be hk1;subst hcs;obtain ⟨hnil,hk3⟩:=Dt hk2;subst hnil;have hna:=H.na c (by simp)
   have hc1:plc c=1:=by cases c<;>first|rfl|exact absurd rfl (hna _).1|exact absurd rfl (hna _).2
   have hF:=H.fr p (by simp)
   refine ⟨c,l,z,hk3,by rw [hc1];exact H.len,fun i hi=>?_,H.row,fun fz A zz h1 h2 hA _ own j0 hown=>Aa8 hna (H.sem fz A [u] h1 h2 hA ⟨?_,trivial⟩ own j0 hown)⟩
   ·obtain ⟨c',hc'⟩:=H.own i hi;rw [hc'];trivial
   ·cases p<;>first|exact hp|exact hF.elim
  ·obtain ⟨ps,hps,hk1⟩:=Id hk;subst hps;obtain ⟨cs,l,z,hk2,H⟩:=Tr h hk1;obtain ⟨vs,hu,hvs⟩:=hp;refine ⟨.agg cs,l,z,hk2,H.len,fun i hi=>?_,H.row,fun fz A zz h1 h2 hA _ own j0 hown=>⟨vs,hu,H.sem fz A vs h1 h2 hA hvs own j0 hown⟩⟩
   obtain ⟨c',hc'⟩:=H.own i hi;rw [hc'];trivial
def SN (P:Program)(tmps:Array Value)(w:World)(rv:ResultVar)(u:Value):Prop:=
  (match rv with
   |.tmp t=>(pure (tmps.getD t undef):Sem Value)
   |.cell a t=>do loadVar t (←asAddr (tmps.getD a undef))).run P w=.ok u w
theorem Ai8 (h:B4 N w0 X0 Y β s a w)(t:Nat):Dx w (C1 s.hp β Y) β (s.tm t) (a.tmps.getD t undef):=by
 rcases Nat.lt_or_ge t N with h'|h'
 ·exact h.tms t h'
 ·rw [h.tmo t h'];exact A7.top _
theorem Aeh (h:B4 N w0 X0 Y β s a w){rv:ResultVar}{K:PV->Option R}(hk:Ahm P s rv K=some r):∃p u,K p=some r∧SN P a.tmps w rv u∧Dx w (C1 s.hp β Y) β p u:=by
 unfold Ahm at hk;split at hk
 ·rename_i t;exact ⟨_,_,hk,rfl,Ai8 h t⟩
 ·rename_i x t;obtain ⟨v,ad,val,hk1,hax,hl,hv,_⟩:=XV h (Ai8 h x) hk;refine ⟨v,val,hk1,?_,hv⟩;unfold SN;simp [hax,asAddr,hl]
theorem AG {l l':List (Option Nat)} {j:Nat}(h:j<l.length):M2 β (l++l') j=M2 β l j:=by
 unfold M2;rw [List.getElem?_append_left h]
theorem AU {l l':List (Option Nat)} {j:Nat}:M2 β (l++l') (l.length+j)=M2 β l' j:=by
 unfold M2;rw [List.getElem?_append_right (by omega),Nat.add_sub_cancel_left]
theorem KR (h:B4 N w0 X0 Y β s a w){shr:Bool}:∀{rs:List ResultVar}{ts:List TypeId}{K:List PV->List Nat->List Nat->Option R},UW P shr s rs ts K=some r ->
  ∃vs l z us,K vs (l.filterMap id) z=some r∧Bk (SN P a.tmps w) rs us∧l.length=Ru vs∧Ahw s l∧Ox s z ∧
   ∀(fz:List Nat) A zz,(∀i∈z,i∈fz)->Ox s fz->(∀b,A b->C1 (Ai s.hp fz) β Y b)->(∀id c b o,some id∈l->s.hp id=some (.st c)->β id=some (b,o)->zz<=b) ->
    ∀own j0,(∀j,j<l.length->own (j0+j)=M2 β l j)->Acz w A own zz j0 vs us
 |[],[],K,hk=>⟨[],[],[],[],hk,trivial,rfl,(by intro id hid;cases hid),(by intro id hid;cases hid),fun _ _ _ _ _ _ _ _ _ _=>trivial⟩
 |[],_::_,K,hk=>by cases hk
 |_::_,[],K,hk=>by cases hk
 |rv::rs,t::ts,K,hk=>by
  unfold UW at hk;obtain ⟨p,u,hk1,hu,hp⟩:=Aeh h hk;obtain ⟨v,l,z,hk2,hl,hL,hz,hv⟩:=Afs h hp hk1;obtain ⟨vs,l',z',us,hk3,hus,hl',hL',hz',hvs⟩:=KR h hk2;refine ⟨v::vs,l++l',z++z',u::us,?_,⟨hu,hus⟩,by simp only [List.length_append,Ru,List.map_cons,List.sum_cons,hl];rw [hl'];rfl,?_,?_,fun fz A zz h1 h2 hA hst own j0 hown=>⟨?_,?_⟩⟩
  ·rw [List.filterMap_append];exact hk3
  ·intro id hid;rcases List.mem_append.1 hid with hid|hid
   ·exact hL id hid
   ·exact hL' id hid
  ·intro id hid;rcases List.mem_append.1 hid with hid|hid
   ·exact hz id hid
   ·exact hz' id hid
  ·exact hv fz A zz (fun i hi=>h1 i (by simp [hi])) h2 hA (fun id c b o hi=>hst id c b o (by simp [hi])) own j0 fun j hj=>by rw [hown j (by simp;omega),AG hj]
  ·refine hvs fz A zz (fun i hi=>h1 i (by simp [hi])) h2 hA (fun id c b o hi=>hst id c b o (by simp [hi])) own (j0+plc v) fun j hj=>?_
   rw [←hl,Nat.add_assoc,hown (l.length+j) (by simp;omega),AU]
theorem Us (h:B4 N w0 X0 Y β s a w){bt:IV}(hpt:∀i,X0.pt i=bt i 0):∀{ts:List TypeId}{i:Nat}{ps:List PV}{K:List (List PV)->List Nat->List Nat->List Nat->Option R},EL P N s.hp i ts ps K=some r ->
  (∀k p,ps[k]?=some p->EH p=true->X0.pn (i+k)) ->
  ∃os l z q,K os (l.filterMap id) z q=some r∧(∀id,some id∈l->∃c,s.hp id=some (.ar false c))∧Ox s z∧(∀id∈q,Cg (s.hp id))∧(∀k p,ps[k]?=some p->EH p=true->C6 N (i+k)∈q) ∧
   ∀(fz:List Nat) A,(∀i∈z,i∈fz)->Ox s fz->(∀i∈q,i ∉ fz)->(∀b,A b->C1 (Ai s.hp fz) β Y b) ->
    ∀own j0,(∀j,j<l.length->own (j0+j)=M2 β l j)->CD w A own bt j0 i ps os
 |[],i,ps,K,hk,_=>by
  obtain ⟨hps,hk⟩:=Dt hk;subst hps;exact ⟨[],[],[],[],hk,by simp,(by intro id hid;cases hid),by simp,by simp,fun _ _ _ _ _ _ _ _ _=>rfl⟩
 |t::ts,i,ps,K,hk,hpn=>by
  unfold EL at hk;obtain ⟨p,ps',hps,hk1⟩:=Be hk;subst hps
  have hpn':∀k p,ps'[k]?=some p->EH p=true->X0.pn (i+1+k):=fun k p' h1 h2=>by
   have:=hpn (k+1) p' (by simpa using h1) h2
   rw [show i+1+k=i+(k+1) by omega]
   exact this
  have hpq:∀{q:List Nat},(EH p=true->C6 N i∈q)->(∀k p,ps'[k]?=some p->EH p=true->C6 N (i+1+k)∈q)->∀k p',(p::ps')[k]?=some p'->EH p'=true->C6 N (i+k)∈q:=by
   intro q h1 h2 k p' h3 h4;cases k with
   |zero=>
    simp only [List.getElem?_cons_zero,Option.some.injEq] at h3;subst h3;exact h1 h4
   |succ k=>
    have:=h2 k p' (by simpa using h3) h4
    rw [show i+1+k=i+(k+1) by omega] at this
    exact this
  split at hk1
  ·rename_i ws;obtain ⟨e,he,hk2⟩:=Dd hk1;split at hk2
   ·rename_i c h0;obtain ⟨cs,l,z,hk3,hcl,H⟩:=HG h hk2;obtain ⟨os,l',z',q,hk4,hL',hz',hq',hpi,hv⟩:=Us h hpt hk3 hpn';refine ⟨cs::os,l++l',z++z',C6 N i::q,by rw [List.filterMap_append];exact hk4,?_,?_,?_,hpq (fun _=>List.mem_cons_self) (fun k p h1 h2=>List.mem_cons_of_mem _ (hpi k p h1 h2)),fun fz A h1 h2 h3 hA own j0 hown=>?_⟩
    ·intro id hid;rcases List.mem_append.1 hid with hid|hid
     ·exact H.own id hid
     ·exact hL' id hid
    ·intro id hid;rcases List.mem_append.1 hid with hid|hid
     ·exact H.row id hid
     ·exact hz' id hid
    ·intro id hid;rcases List.mem_cons.1 hid with rfl|hid
     ·rw [h0];trivial
     ·exact hq' id hid
    ·have hpin:=(h.pin i (by have:=hpn 0 _ rfl rfl;rwa [Nat.add_zero] at this)).2
     obtain ⟨b,o,hb1,_,_⟩:=h.box _ _ h0;rw [hb1,hpt] at hpin;refine ⟨⟨b,o,hpin.symm,hcl,Ac5 h h0 hb1 H (fun i hi=>h1 i (by simp [hi])) h2 hA fun j hj=>by rw [hown j (by simp;omega),AG hj]⟩,?_⟩
     refine hv fz A (fun i hi=>h1 i (by simp [hi])) h2 (fun i hi=>h3 i (by simp [hi])) hA own (j0+cs.length) fun j hj=>?_
     rw [←H.len,Nat.add_assoc,hown (l.length+j) (by simp;omega),AU]
   ·cases hk2
  ·split at hk1
   ·rename_i c h0;obtain ⟨os,l',z',q,hk4,hL',hz',hq',hpi,hv⟩:=Us h hpt hk1 hpn';refine ⟨c::os,l',z',C6 N i::q,hk4,hL',hz',?_,hpq (fun _=>List.mem_cons_self) (fun k p h1 h2=>List.mem_cons_of_mem _ (hpi k p h1 h2)),fun fz A h1 h2 h3 hA own j0 hown=>⟨?_,hv fz A h1 h2 (fun i hi=>h3 i (by simp [hi])) hA own j0 hown⟩⟩
    ·intro id hid;rcases List.mem_cons.1 hid with rfl|hid
     ·rw [h0];trivial
     ·exact hq' id hid
    ·have hpin:=(h.pin i (by have:=hpn 0 _ rfl rfl;rwa [Nat.add_zero] at this)).2
     rw [hpt] at hpin;rcases h.box _ _ h0 with ⟨h4,h5⟩|⟨b,o,h4,h5,h6,_⟩
     ·exact .inl ⟨by rw [←hpin];exact h4,h5⟩
     ·exact .inr ⟨b,o,by rw [←hpin];exact h4,h5.weak (fun b _ hb=>P6 (hA b hb)),h6 rfl⟩
   ·cases hk1
  ·rename_i hn1 hn2;have hnL:EH p=false:=by cases p<;>first|rfl|exact absurd rfl (hn1 _)|exact absurd rfl (hn2 _)
   obtain ⟨os,l',z',q,hk4,hL',hz',hq',hpi,hv⟩:=Us h hpt hk1 hpn';refine ⟨os,l',z',q,hk4,hL',hz',hq',hpq (fun e=>by rw [hnL] at e;cases e) hpi,fun fz A h1 h2 h3 hA own j0 hown=>?_⟩
   have:=hv fz A h1 h2 h3 hA own j0 hown;cases p<;>first|exact this|cases hnL
theorem XF {f:ResultVar->Sem Value}:∀{rs:List ResultVar}{us:List Value},Bk (fun rv u=>(f rv).run P w=.ok u w) rs us->(rs.mapM f).run P w=.ok us w
 |[],[],_=>by simp
 |[],_::_,h=>h.elim
 |_::_,[],h=>h.elim
 |rv::rs,u::us,h=>by
  rw [List.mapM_cons];simp [h.1,XF h.2]
theorem VK {fn:Func}{us:List Value}(h:Bk (SN P a.tmps w) fn.results.toList us):(results fn a.tmps).run P w=.ok (Mj us) w:=by
 unfold results;rw [Array.mapM_eq_mapM_toList];simp only [map_eq_pure_bind,bind_assoc,pure_bind,Sem.run_bind];refine Eq.trans (congrArg (fun x=>Result.andThen x _) (XF h)) ?_
 simp only [Result.andThen_ok,Sem.run_pure]
 congr 1
 clear h
 match us with
 |[]=>rfl
 |[u]=>rfl
 |u::v::us=>exact dif_neg (by simp)
theorem WV:∀{l:List (Option Nat)},Ej (l.filterMap id)=true->∀{j j' i:Nat},l[j]?=some (some i)->l[j']?=some (some i)->j=j'
 |[],_,j,j',i,h,_=>by simp at h
 |q::l,hn,j,j',i,h,h'=>by
  have hn':Ej (l.filterMap id)=true:=by
   cases q with
   |none=>exact hn
   |some x=>
    simp only [List.filterMap_cons,id_eq,Ej,Bool.and_eq_true] at hn;exact hn.2
  have hq:∀(x k:Nat),q=some x->l[k]?≠some (some x):=by
   intro x k e hk;subst e;simp only [List.filterMap_cons,id_eq,Ej,Bool.and_eq_true,Bool.not_eq_true'] at hn;exact Tz hn.1 (List.mem_filterMap.2 ⟨some x,List.mem_of_getElem? hk,rfl⟩)
  cases j with
  |zero=>
   cases j' with
   |zero=>rfl
   |succ k'=>
    simp at h h';exact absurd h' (hq i k' h)
  |succ k=>
   cases j' with
   |zero=>
    simp at h h';exact absurd h (hq i k h')
   |succ k'=>
    simp at h h';rw [WV hn' h h']
theorem EJ {C:Hs}{f:FuncId}{fn:Func}{args:List PV}{res:A0}{w:World}{Y:Nat->Prop}{bt:IV}{us:List Value}(hin:Ins w Y bt args us){h8:∀k p,args[k]?=some p->EH p=true->k<8}
  {s':St} {a':Act} {w':World} {β':Bt} (hr:Ab7 C P f fn args s'=some res) (h:B4 fn.ntmps w (JE bt args h8) Y β' s' a' w'):
  a'.defers=[]∧∃v,(results fn a'.tmps).run P w'=.ok v w'∧∃vs own,Ending.returned v=.returned (Mj vs)∧Out w w' Y bt args own res vs:=by
 unfold Ab7 at hr;obtain ⟨vs,l,z,us',hr1,hus,hll,hL,hz,hv⟩:=KR h hr;obtain ⟨os,l',z',q,hr2,hL',hz',hq,hpi,hv'⟩:=Us h (bt:=bt) (fun _=>rfl) hr1 (fun k p h1 h2=>by rw [Nat.zero_add];exact ⟨p,h1,h2⟩)
 obtain ⟨hnd,hr3⟩:=Ax hr2;cases hr3;simp only [Bool.and_eq_true] at hnd;obtain ⟨hnd,hdis⟩:=hnd;obtain ⟨hn1,hn2,hn3⟩:=Jl hnd
 have hfz:∀i∈z++z',i ∉ (l.filterMap id++l'.filterMap id)++q:=by
  intro i hi hm';have:=List.all_eq_true.1 hdis i hi;have h2:((l.filterMap id++l'.filterMap id)++q).any (Nat.beq i)=true:=List.any_eq_true.2 ⟨i,hm',Nat.beq_refl i⟩;rw [h2] at this;cases this
 have hrow:Ox s' (z++z'):=by
  intro i hi;rcases List.mem_append.1 hi with hi|hi
  ·exact hz i hi
  ·exact hz' i hi
 refine ⟨h.dfr,Mj us',VK hus,us',M2 β' (l++l'),rfl,?_⟩;have hnd':Ej ((l++l').filterMap id)=true:=by rw [List.filterMap_append];exact hn1
 have hown:∀j b o,M2 β' (l++l') j=some (b,o)->∃id,(l++l')[j]?=some (some id)∧β' id=some (b,o):=by
  intro j b o hj;unfold M2 at hj;cases hlj:(l++l')[j]? with
  |none=>rw [hlj] at hj;cases hj
  |some q=>
   cases q with
   |none=>rw [hlj] at hj;cases hj
   |some id=>
    rw [hlj] at hj;exact ⟨id,rfl,hj⟩
 have hmem:∀(j i:Nat),(l++l')[j]?=some (some i)->i∈l.filterMap id++l'.filterMap id:=by
  intro j i hj;rw [←List.filterMap_append];exact List.mem_filterMap.2 ⟨some i,List.mem_of_getElem? hj,rfl⟩
 have hlive:∀(j i:Nat),(l++l')[j]?=some (some i)->Cg (s'.hp i):=by
  intro j i hj;rcases List.mem_append.1 (List.mem_of_getElem? hj) with hm'|hm'
  ·exact hL i hm'
  ·obtain ⟨c,hc⟩:=hL' i hm';rw [hc];trivial
 have hunfz:∀i,i∈(l.filterMap id++l'.filterMap id)++q->Ai s'.hp (z++z') i=s'.hp i:=by
  intro i hi;rw [Ca,if_neg (fun hm'=>hfz i hm' hi)]
 have hpinL:∀i b o,bt i 0=some (b,o)->C6 fn.ntmps i∈q∧Cg (s'.hp (C6 fn.ntmps i))∧β' (C6 fn.ntmps i)=some (b,o):=by
  intro i b o hb0;obtain ⟨p,h1,h2⟩:=hin.l0 i _ hb0;have h3:=hpi i p h1 h2;rw [Nat.zero_add] at h3;exact ⟨h3,hq _ h3,(h.pin i ⟨p,h1,h2⟩).2.trans hb0⟩
 have hAO:∀b,SK bt (M2 β' (l++l')) Y b->C1 (Ai s'.hp (z++z')) β' Y b:=by
  rintro b (⟨j,o,hj⟩|⟨i,o,hb0⟩|hY)
  ·obtain ⟨id,h1,h2⟩:=hown j b o hj;refine .inl ⟨id,o,?_,h2⟩;rw [hunfz id (List.mem_append.2 (.inl (hmem j id h1)))];exact hlive j id h1
  ·obtain ⟨h1,h2,h3⟩:=hpinL i b o hb0;refine .inl ⟨_,o,?_,h3⟩;rw [hunfz _ (List.mem_append.2 (.inr h1))];exact h2
  ·exact .inr hY
 have hnew:∀(j id b o:Nat),(l++l')[j]?=some (some id)->β' id=some (b,o)->b<w.heap.size->∃i k o',bt i (k+1)=some (b,o'):=by
  intro j id b o hj hβ hlt;rcases h.ownd b ⟨id,o,hlive j id hj,hβ⟩ with ⟨i,k,o',hb0⟩|hge
  ·cases k with
   |zero=>
    obtain ⟨h1,h2,h3⟩:=hpinL i b o' hb0;have:=h.inj id _ b o o' (hlive j id hj) h2 hβ h3;subst this;exact absurd h1 (hn3 _ (hmem j _ hj))
   |succ k=>exact ⟨i,k,o',hb0⟩
  ·omega
 refine ⟨h.fr.os,h.fr.tape,h.fr.output,h.fr.step,h.fr.rng,?_,?_,?_,?_⟩
 ·refine hv (z++z') _ _ (fun i hi=>List.mem_append.2 (.inl hi)) hrow hAO (fun id c b o hi hc hβ=>?_) _ 0 (fun j hj=>by rw [Nat.zero_add,AG hj])
  rcases Nat.lt_or_ge b w.heap.size with hlt|hge
  ·obtain ⟨k,hk',p,h1,h2⟩:=h.stp id c b o hc hβ hlt;have h3:=hpi k p h1 h2;rw [Nat.zero_add,←hk'] at h3;obtain ⟨j,hj⟩:=List.mem_iff_getElem?.1 hi;refine absurd h3 (hn3 id ?_);exact List.mem_append.2 (.inl (List.mem_filterMap.2 ⟨some id,hi,rfl⟩))
  ·exact hge
 ·refine hv' (z++z') _ (fun i hi=>List.mem_append.2 (.inr hi)) hrow (fun i hi hm'=>hfz i hm' (List.mem_append.2 (.inr hi))) hAO _ _ (fun j hj=>?_)
  rw [←hll,AU]
 ·intro j b o hj;obtain ⟨id,h1,h2⟩:=hown j b o hj;refine ⟨h.blt id b o (C2 (hlive j id h1)) h2,fun hlt=>⟨hnew j id b o h1 h2 hlt,fun x hx=>?_⟩⟩
  cases hbx:s'.hp id with
  |none=>have:=hlive j id h1;rw [hbx] at this;exact this.elim
  |some bx=>
   have hl1:=hlive j id h1;rw [hbx] at hl1;cases bx with
   |st c=>
    obtain ⟨k,hk',p,h3,h4⟩:=h.stp id c b o hbx h2 hlt;have h5:=hpi k p h3 h4;rw [Nat.zero_add,←hk'] at h5;exact absurd h5 (hn3 _ (hmem j _ h1))
   |ar fz c=>exact h.rngB id _ b o hbx hl1 h2 hlt x hx
   |mv=>exact hl1.elim
 ·intro j j' b o o' hj hj';obtain ⟨id,h1,h2⟩:=hown j b o hj;obtain ⟨id',h1',h2'⟩:=hown j' b o' hj';have:=h.inj id id' b o o' (hlive j id h1) (hlive j' id' h1') h2 h2';subst this;exact WV hnd' h1 h1'
theorem MF {G:Vq}(hNG:NoNG P)(hm:P.follows .mixedOrders=true){C:Hs}{fu:Nat}{call:Ah}(hcall:∀f args res,call f args=some res->C9 G P f args res){f:FuncId}{fn:Func}{c:Code}(hf:P.funcs[f]?=some fn) (hb:fn.body=some c)
  {args:List PV} {res:A0} (hk:Ak4 C P fu call f fn c args=some res):C9 G P f args res:=by
 refine ⟨⟨fn,hf,by rw [hb];rfl⟩,fun w Y bt us hin hG hGY=>?_⟩
 unfold Ak4 at hk;obtain ⟨tms,bs,hk1,hst⟩:=QZ hin hk;obtain ⟨hb1,hk2⟩:=Ax hk1;simp only [Bool.and_eq_true] at hb1
 have hlen:us.length<=fn.ntmps:=by
  rw [←hin.args.len];exact Nat.le_of_ble_eq_true hb1.1
 obtain ⟨h8,β0,hs⟩:=hst hb1.2 hlen;refine calls_of_wp hf hb ?_;have hE:IM P G w (JE bt args h8):=⟨hNG,fun w' hfr=>G.stable w w' (fun b hb hlt=>hfr.step.keep b hlt (hGY b hb).2) hG,hGY⟩
 refine LC hE hcall hm c hs hk2 (fun s' a' w' β' hr h=>EJ hin hr h) (fun id s' a' w' β' hr h=>by cases hr) (fun s' a' w' β' hr h=>EJ hin hr h)
def Adj (G:Vq)(P:Program)(C:Hs):Prop:=∀f g args res,C.ext f=some g->g args=some res->C9 G P f args res
theorem W6 {G:Vq}(hNG:NoNG P)(hm:P.follows .mixedOrders=true){C:Hs}(hx:Adj G P C){fu:Nat}:∀(d:Nat)(f:FuncId)(args:List PV)(res:A0),Ae C P fu d f args=some res->C9 G P f args res
 |0,_,_,_,h=>by cases h
 |d+1,f,args,res,h=>by
  unfold Ae at h;split at h
  ·rename_i g hg;exact hx f g args res hg h
  ·split at h
   ·cases h
   ·rename_i fn hf;split at h
    ·cases h
    ·rename_i c hb;exact MF hNG hm (W6 hNG hm hx d) hf hb h
end
open Go.ChangeShapes Go.WideShapes Go.ChangeAt Go.RowKit Go.Deep
def UU (P:Program):List Field->Nat->Nat->Bool
 |[],i,n=>Nat.beq i n
 |f::r,i,n=>Nat.beq f.offset i&&UU P r (i+P.cellsOf f.type) n
def O5 (P:Program):Nat->TypeId->Bool
 |0,_=>false
 |d+1,t=>
  match P.underlying t with
  |some .bool=>true
  |some (.int _)=>true
  |some .string=>true
  |some (.slice e)=>O5 P d e&&Nat.blt 0 (P.cellsOf e)
  |some (.struct fs)=>UU P fs.toList 0 (P.cellsOf t)&&fs.toList.all fun f=>O5 P d f.type
  |some (.array n e)=>Nat.beq (P.cellsOf t) (n*P.cellsOf e)&&O5 P d e
  |_=>false
def WT (P:Program):Nat->TypeId->List PV->Prop
 |0,_,_=>False
 |d+1,t,ps=>
  match P.underlying t with
  |some .bool=>∃b,ps=[.sc (.bool b)]
  |some (.int k)=>∃n,ps=[.sc (.int k n)]∧(Lit.int k n).wf=true
  |some .string=>∃s:ByteArray,ps=[.sc (.string s)]∧s.size<=maxLen
  |some (.slice e)=>∃rows:List (List PV),ps=[.lst false (P.cellsOf e) rows.length rows.flatten]∧rows.length<=maxLen∧∀r∈rows,r.length=P.cellsOf e∧WT P d e r
  |some (.struct fs)=>∃rows:List (List PV),ps=rows.flatten∧Bk (fun f r=>WT P d f.type r) fs.toList rows
  |some (.array n e)=>∃rows:List (List PV),ps=rows.flatten∧rows.length=n∧∀r∈rows,r.length=P.cellsOf e∧WT P d e r
  |_=>False
def WTv (P:Program)(t:TypeId)(p:PV):Prop:=
 match Cv P t with
 |true=>∃ps,p=.agg ps∧WT P 12 t ps
 |false=>WT P 12 t [p]
section
variable {P:Program} {d:Nat} {t e:TypeId} {ps:List PV}
theorem Acq (hu:P.underlying t=some .bool):WT P (d+1) t ps↔∃b,ps=[.sc (.bool b)]:=by
 show (match P.underlying t with|some .bool=>_|some (.int k)=>_|some .string=>_|some (.slice e)=>_|some (.struct fs)=>_|some (.array n e)=>_|_=>_)↔_
 rw [hu]
theorem Ah2 {k:IntKind}(hu:P.underlying t=some (.int k)):WT P (d+1) t ps↔∃n,ps=[.sc (.int k n)]∧(Lit.int k n).wf=true:=by
 show (match P.underlying t with|some .bool=>_|some (.int k)=>_|some .string=>_|some (.slice e)=>_|some (.struct fs)=>_|some (.array n e)=>_|_=>_)↔_
 rw [hu]
theorem RW (hu:P.underlying t=some .string):WT P (d+1) t ps↔∃s:ByteArray,ps=[.sc (.string s)]∧s.size<=maxLen:=by
 show (match P.underlying t with|some .bool=>_|some (.int k)=>_|some .string=>_|some (.slice e)=>_|some (.struct fs)=>_|some (.array n e)=>_|_=>_)↔_
 rw [hu]
theorem WH (hu:P.underlying t=some (.slice e)):WT P (d+1) t ps↔∃rows:List (List PV),ps=[.lst false (P.cellsOf e) rows.length rows.flatten]∧rows.length<=maxLen∧∀r∈rows,r.length=P.cellsOf e∧WT P d e r:=by
 show (match P.underlying t with|some .bool=>_|some (.int k)=>_|some .string=>_|some (.slice e)=>_|some (.struct fs)=>_|some (.array n e)=>_|_=>_)↔_
 rw [hu]
theorem QW {fs:Array Field}(hu:P.underlying t=some (.struct fs)):WT P (d+1) t ps↔∃rows:List (List PV),ps=rows.flatten∧Bk (fun f r=>WT P d f.type r) fs.toList rows:=by
 show (match P.underlying t with|some .bool=>_|some (.int k)=>_|some .string=>_|some (.slice e)=>_|some (.struct fs)=>_|some (.array n e)=>_|_=>_)↔_
 rw [hu]
theorem Ah3 {n:Nat}(hu:P.underlying t=some (.array n e)):WT P (d+1) t ps↔∃rows:List (List PV),ps=rows.flatten∧rows.length=n∧∀r∈rows,r.length=P.cellsOf e∧WT P d e r:=by
 show (match P.underlying t with|some .bool=>_|some (.int k)=>_|some .string=>_|some (.slice e)=>_|some (.struct fs)=>_|some (.array n e)=>_|_=>_)↔_
 rw [hu]
end
inductive Ki where
 |bool
 |int (k:IntKind)
 |str
 |sl (e:TypeId)
 |st (ts:List TypeId)
 |ar (n:Nat) (e:TypeId)
 |no
def Iw (P:Program)(t:TypeId):Ki:=
 match P.underlying t with
 |some .bool=>.bool
 |some (.int k)=>.int k
 |some .string=>.str
 |some (.slice e)=>.sl e
 |some (.struct fs)=>.st (fs.toList.map (·.type))
 |some (.array n e)=>.ar n e
 |_=>.no
section
variable {P:Program} {d:Nat} {t e:TypeId} {ps:List PV} {p:PV}
theorem Bk.map_left {α β γ:Type}{g:α->γ}{R:γ->β->Prop}:∀{l:List α}{r:List β},Bk (fun a b=>R (g a) b) l r->Bk R (l.map g) r
 |[],[],_=>trivial
 |_::_,_::_,h=>⟨h.1,Bk.map_left h.2⟩
 |[],_::_,h=>h.elim
 |_::_,[],h=>h.elim
theorem Bk.cons_inv {α β:Type}{R:α->β->Prop}{a:α}{zs:List α}:∀{rs:List β},Bk R (a::zs) rs->∃r rs',rs=r::rs'∧R a r∧Bk R zs rs'
 |[],h=>h.elim
 |r::rs,h=>⟨r,rs,rfl,h.1,h.2⟩
theorem Bk.nil_inv {α β:Type}{R:α->β->Prop}:∀{rs:List β},Bk R ([]:List α) rs->rs=[]
 |[],_=>rfl
 |_::_,h=>h.elim
theorem Amm (hk:Iw P t=.bool)(h:WT P d t ps):∃b,ps=[.sc (.bool b)]:=by
 cases d with
 |zero=>exact h.elim
 |succ d=>
 unfold Iw at hk;split at hk<;>first|cases hk|skip
 rename_i hu;exact (Acq hu).1 h
theorem Nu {k:IntKind}(hk:Iw P t=.int k)(h:WT P d t ps):∃n,ps=[.sc (.int k n)]∧(Lit.int k n).wf=true:=by
 cases d with
 |zero=>exact h.elim
 |succ d=>
 unfold Iw at hk;split at hk<;>first|cases hk|skip
 rename_i hu;exact (Ah2 hu).1 h
theorem TL (hk:Iw P t=.str)(h:WT P d t ps):∃s:ByteArray,ps=[.sc (.string s)]∧s.size<=maxLen:=by
 cases d with
 |zero=>exact h.elim
 |succ d=>
 unfold Iw at hk;split at hk<;>first|cases hk|skip
 rename_i hu;exact (RW hu).1 h
theorem And (hk:Iw P t=.sl e)(h:WT P d t ps):∃rows:List (List PV),ps=[.lst false (P.cellsOf e) rows.length rows.flatten]∧rows.length<=maxLen∧∀r∈rows,r.length=P.cellsOf e∧WT P (d-1) e r:=by
 cases d with
 |zero=>exact h.elim
 |succ d=>
 rw [Nat.add_sub_cancel];unfold Iw at hk;split at hk<;>first|cases hk|skip
 rename_i hu;exact (WH hu).1 h
theorem YW {ts:List TypeId}(hk:Iw P t=.st ts)(h:WT P d t ps):∃rows:List (List PV),ps=rows.flatten∧Bk (WT P (d-1)) ts rows:=by
 cases d with
 |zero=>exact h.elim
 |succ d=>
 rw [Nat.add_sub_cancel];unfold Iw at hk;split at hk<;>first|cases hk|skip
 rename_i fs hu;obtain ⟨rows,h1,h2⟩:=(QW hu).1 h;exact ⟨rows,h1,Bk.map_left h2⟩
theorem TF (hk:Cv P t=false)(h:WTv P t p):WT P 12 t [p]:=by
 unfold WTv at h;rw [hk] at h;exact h
theorem Al3 {k:IntKind}(ha:Cv P t=false)(hk:Iw P t=.int k)(h:WTv P t p):∃n,p=.sc (.int k n)∧(Lit.int k n).wf=true:=by
 obtain ⟨b,e,h⟩:=Nu hk (TF ha h);exact ⟨b,by injection e,h⟩
theorem Aa9 (ha:Cv P t=false)(hk:Iw P t=.sl e)(h:WTv P t p):∃rows:List (List PV),p=.lst false (P.cellsOf e) rows.length rows.flatten∧rows.length<=maxLen∧∀r∈rows,r.length=P.cellsOf e∧WT P (12-1) e r:=by
 obtain ⟨b,e,h⟩:=And hk (TF ha h);exact ⟨b,by injection e,h⟩
theorem Ms {α:Type}(f:α->List PV)(Q:α->Prop):∀{rows:List (List PV)},(∀r∈rows,∃x,r=f x∧Q x)->∃xs:List α,rows.flatten=xs.flatMap f∧rows.length=xs.length∧∀x∈xs,Q x
 |[],_=>⟨[],rfl,rfl,by simp⟩
 |r::rows,h=>by
  obtain ⟨x,h1,h2⟩:=h r (by simp)
  obtain ⟨xs,h3,h4,h5⟩:=Ms (rows:=rows) f Q fun r hr=>h r (by simp [hr])
  refine ⟨x::xs,by simp [h1,h3],by simp [h4],fun y hy=>?_⟩
  rcases List.mem_cons.1 hy with rfl|hy
  ·exact h2
  ·exact h5 y hy
end
abbrev No:Nat->Prop:=fun _=>False
section
variable {H:Type} {enc:TypeId × Value->H} {P:Program} {w:World} {base:Nat} {held:Bool}
theorem Bk.flat {α β:Type}{R:α->β->Prop}:∀{l:List Nat}{f:Nat->List α}{g:Nat->List β},(∀i∈l,Bk R (f i) (g i))->Bk R (l.map f).flatten (l.map g).flatten
 |[],_,_,_=>trivial
 |i::l,f,g,h=>by
  simp only [List.map_cons,List.flatten_cons];exact (h i (by simp)).app (Bk.flat fun j hj=>h j (by simp [hj]))
theorem Ad3 {a:Addr}{v:Value}(h:w.cell? a=some v):a.spot=none∧a.block<w.heap.size:=by
 unfold World.cell? at h;split at h
 ·rename_i c t f e;refine ⟨?_,?_⟩
  ·cases hs:a.spot with
   |none=>rfl
   |some x=>rw [hs] at h;simp at h
  ·rcases Nat.lt_or_ge a.block w.heap.size with h1|h1
   ·exact h1
   ·rw [Array.getElem?_eq_none h1] at e;cases e
 ·cases h
theorem MK {α:Type}{g:Nat->List α}{es:Nat}:∀{n:Nat},(∀i,i<n->(g i).length=es)->((List.range n).map g).flatten.length=n*es
 |0,_=>by simp
 |n+1,h=>by
  rw [List.range_succ,List.map_append,List.flatten_append,List.length_append,MK (fun i hi=>h i (by omega))]
  simp [h n (by omega),Nat.succ_mul]
theorem JJ {a:Addr}{g:Nat->List Value}{es:Nat}:∀{n:Nat},(∀i,i<n->(g i).length=es)->(∀i,i<n->∀k,k<es->w.cell? (a.add (i*es+k))=(g i)[k]?) ->
  ∀j,j<n*es->w.cell? (a.add j)=(((List.range n).map g).flatten)[j]?
 |0,_,_,j,hj=>by omega
 |n+1,hl,hc,j,hj=>by
  have hfl:=MK (fun i (hi:i<n)=>hl i (by omega))
  rw [List.range_succ,List.map_append,List.flatten_append,List.getElem?_append,hfl];rw [Nat.succ_mul] at hj;split
  ·rename_i h1;exact JJ (fun i hi=>hl i (by omega)) (fun i hi=>hc i (by omega)) j h1
  ·rename_i h1;have:=hc n (by omega) (j-n*es) (by omega)
   rw [show n*es+(j-n*es)=j by omega] at this
   simpa using this
abbrev TR (w:World)(c:PV)(v:Value):Prop:=(Zc c∧A7 w No c v)∧v.oneCell'=true
theorem GJ {d:Nat}{cs:List Value}{n:Nat}(hn:cs.length=n):∀(l:List Field)(i:Nat),UU P l i n=true ->
  (∀f∈l,∃ps,WT P d f.type ps∧Bk (TR w) ps ((cs.drop f.offset).take (P.cellsOf f.type)))->∃rows:List (List PV),Bk (fun f r=>WT P d f.type r) l rows∧Bk (TR w) rows.flatten (cs.drop i)
 |[],i,ho,_=>by
  have:=Nat.eq_of_beq_eq_true ho;refine ⟨[],trivial,?_⟩;rw [List.drop_of_length_le (by omega)]
  trivial
 |f::l,i,ho,h=>by
  simp only [UU,Bool.and_eq_true] at ho;have ho1:=Nat.eq_of_beq_eq_true ho.1;obtain ⟨ps,h1,h2⟩:=h f (by simp)
  obtain ⟨rows,h3,h4⟩:=GJ hn l _ ho.2 fun g hg=>h g (by simp [hg])
  refine ⟨ps::rows,⟨h1,h3⟩,?_⟩;rw [ho1] at h2;have:cs.drop i=(cs.drop i).take (P.cellsOf f.type)++cs.drop (i+P.cellsOf f.type):=by rw [←List.drop_drop];exact (List.take_append_drop _ _).symm
  rw [this,List.flatten_cons];exact h2.app h4
theorem MG {d:Nat}{e:TypeId}{cs:List Value}{k:Nat}:∀(n:Nat),n*k<=cs.length ->
  (∀i,i<n->∃ps,(ps.length=k∧WT P d e ps)∧Bk (TR w) ps ((cs.drop (i*k)).take k))->∃rows:List (List PV),rows.length=n∧(∀r∈rows,r.length=k∧WT P d e r)∧Bk (TR w) rows.flatten (cs.take (n*k))
 |0,_,_=>⟨[],rfl,by simp,by simp [Bk]⟩
 |n+1,hl,h=>by
  rw [Nat.succ_mul] at hl;obtain ⟨rows,h1,h2,h3⟩:=MG n (by omega) fun i hi=>h i (by omega)
  obtain ⟨ps,h4,h5⟩:=h n (by omega)
  refine ⟨rows++[ps],by simp [h1],?_,?_⟩
  ·intro r hr;rcases List.mem_append.1 hr with hr|hr
   ·exact h2 r hr
   ·rw [List.mem_singleton.1 hr];exact h4
  ·rw [List.flatten_append,Nat.succ_mul,List.take_add];refine h3.app ?_
   simpa using h5
theorem Xl:∀(d:Nat)(t:TypeId),O5 P d t=true->∀(fuel:Nat)(cs:List Value)(x:DataW H × List MemPlace),DataW.trod enc P w base (fun _=>true) held fuel t cs=some x ->
  ∃ps,WT P d t ps∧Bk (TR w) ps cs
 |0,_,h,_,_,_,_=>by cases h
 |d+1,t,hp,fuel,cs,x,h=>by
  unfold O5 at hp;split at hp
  ·rename_i hu;obtain ⟨b,rfl,_⟩:=DataW.trod_bool hu h;simp only [Acq hu];exact ⟨[.sc (.bool b)],⟨b,rfl⟩,⟨⟨trivial,A7.sc _⟩,rfl⟩,trivial⟩
  ·rename_i k hu;obtain ⟨n,rfl,_,hw⟩:=DataW.trod_int hu h;simp only [Ah2 hu];exact ⟨[.sc (.int k n)],⟨n,rfl,hw⟩,⟨⟨trivial,A7.sc _⟩,rfl⟩,trivial⟩
  ·rename_i hu;obtain ⟨s,rfl,_,hw⟩:=DataW.trod_string hu h;simp only [RW hu];exact ⟨[.sc (.string s)],⟨s,rfl,hw⟩,⟨⟨trivial,A7.sc _⟩,rfl⟩,trivial⟩
  ·rename_i e hu;simp only [Bool.and_eq_true] at hp;have hes:0<P.cellsOf e:=Nat.lt_of_succ_le (Nat.le_of_ble_eq_true hp.2);simp only [WH hu];rcases open_slice hu h with ⟨rfl,_⟩|⟨a,len,cap,m,n,D,Pl,rfl,_,hl,hm,hmm,_,hi⟩
   ·exact ⟨[.lst false (P.cellsOf e) 0 []],⟨[],by simp,by simp,by simp⟩,⟨⟨trivial,A7.lnil _ _⟩,rfl⟩,trivial⟩
   ·simp only [if_true] at hmm;subst hmm
    have hi':∀i,i<len->∃q:List PV × List Value,(q.2.length=P.cellsOf e∧(∀k,k<P.cellsOf e->w.cell? (a.add (i*P.cellsOf e+k))=q.2[k]?))∧WT P d e q.1∧Bk (TR w) q.1 q.2:=by
     intro i hlt;obtain ⟨cs',hc,ht⟩:=hi i (by omega)
     obtain ⟨_,hcl,hat⟩:=World.cells?_some hc;obtain ⟨ps,h1,h2⟩:=Xl d e hp.1 _ _ _ ht;exact ⟨(ps,cs'),⟨hcl,fun k hk=>by rw [←Pv.add_add];exact hat k hk⟩,h1,h2⟩
    obtain ⟨F,hF⟩:=choose_lt hi';refine ⟨[.lst false (P.cellsOf e) len ((List.range len).map fun i=>(F i).1).flatten],⟨(List.range len).map fun i=>(F i).1,by simp,by simp;omega,?_⟩,⟨⟨trivial,?_⟩,rfl⟩,trivial⟩
    ·intro r hr;obtain ⟨i,hi1,rfl⟩:=List.mem_map.1 hr;have hi2:=List.mem_range.1 hi1;exact ⟨by rw [(hF i hi2).2.2.len];exact (hF i hi2).1.1,(hF i hi2).2.1⟩
    ·rcases Nat.eq_zero_or_pos len with h0|h0
     ·subst h0;exact A7.lemp _ _ _
     ·have hall:Bk (TR w) ((List.range len).map fun i=>(F i).1).flatten ((List.range len).map fun i=>(F i).2).flatten:=Bk.flat fun i hi=>(hF i (List.mem_range.1 hi)).2.2
      have hcell:=JJ (w:=w) (a:=a) (g:=fun i=>(F i).2) (fun i hi=>(hF i hi).1.1) (fun i hi=>(hF i hi).1.2)
      have hlen:=MK (g:=fun i=>(F i).2) (fun i (hi:i<len)=>(hF i hi).1.1)
      have h00:w.cell? a≠none:=by
       have:=hcell 0 (Nat.mul_pos h0 hes);rw [show a.add 0=a by unfold Addr.add;simp] at this
       rw [this,List.getElem?_eq_getElem (by rw [hlen];exact Nat.mul_pos h0 hes)]
       simp
      obtain ⟨v0,hv0⟩:=Option.ne_none_iff_exists'.1 h00;obtain ⟨hs,hb⟩:=Ad3 hv0
      have key:∀j c,(((List.range len).map fun i=>(F i).1).flatten)[j]?=some c->∃v,w.cell? (a.add j)=some v∧TR w c v:=by
       intro j c hj
       have hlj:j<len*P.cellsOf e:=by
        rw [←hlen,←hall.len];rcases Nat.lt_or_ge j (((List.range len).map fun i=>(F i).1).flatten).length with h1|h1
        ·exact h1
        ·rw [List.getElem?_eq_none h1] at hj;cases hj
       have h1:=hcell j hlj;rw [List.getElem?_eq_getElem (by rw [hlen];exact hlj)] at h1
       exact ⟨_,h1,hall.at_ hj (List.getElem?_eq_getElem (by rw [hlen];exact hlj))⟩
      refine A7.lst _ _ _ a _ (fun j=>(w.cell? (a.add j)).getD undef) hs hb (fun h=>h) hl (fun j c hj=>?_) (fun j c hj=>?_) (fun j c hj=>?_)
      ·obtain ⟨v,hv,_⟩:=key j c hj;rw [hv];rfl
      ·obtain ⟨v,hv,ht⟩:=key j c hj;rw [hv];exact ht.2
      ·obtain ⟨v,hv,ht⟩:=key j c hj;rw [hv];exact ht.1.2
  ·rename_i fs hu;simp only [Bool.and_eq_true] at hp;simp only [QW hu];obtain ⟨xs,n,_,_,hlen,hxl,hf⟩:=DataW.trod_struct hu h
   obtain ⟨rows,h1,h2⟩:=GJ (P:=P) (w:=w) (d:=d) hlen fs.toList 0 hp.1 fun f hf'=>by
    obtain ⟨i,hi⟩:=List.mem_iff_getElem?.1 hf';have hi':fs[i]?=some f:=by simpa using hi
    have hlt:i<fs.size:=(Array.getElem?_eq_some_iff.1 hi').1;have h3:=hf i f hi';rw [List.getElem?_eq_getElem (by omega)] at h3
    exact Xl d f.type (List.all_eq_true.1 hp.2 f hf') _ _ _ h3
   exact ⟨_,⟨rows,rfl,h1⟩,by simpa using h2⟩
  ·rename_i n e hu;simp only [Bool.and_eq_true] at hp;simp only [Ah3 hu];obtain ⟨xs,m,_,_,hlen,hxl,hf⟩:=DataW.trod_array hu h;have hsz:=Nat.eq_of_beq_eq_true hp.1
   obtain ⟨rows,h1,h2,h3⟩:=MG (P:=P) (w:=w) (d:=d) (e:=e) (cs:=cs) (k:=P.cellsOf e) n (by omega) fun i hi=>by
    have h3:=hf i hi;rw [List.getElem?_eq_getElem (by omega)] at h3
    obtain ⟨ps,h4,h5⟩:=Xl d e hp.2 _ _ _ h3;refine ⟨ps,⟨?_,h4⟩,h5⟩;rw [h5.len,List.length_take,List.length_drop,hlen,hsz];have:(i+1)*P.cellsOf e<=n*P.cellsOf e:=Nat.mul_le_mul_right _ hi;rw [Nat.succ_mul] at this;omega
   refine ⟨_,⟨rows,rfl,h1,h2⟩,?_⟩;rw [List.take_of_length_le (by omega)] at h3
   exact h3
  ·cases hp
theorem Ahr {r:Reach}{b0:Nat}{t:TypeId}{v:Value}{dd:DataW H}{p:List MemPlace}(hp:O5 P 12 t=true)(hv:Value.okWide P w r b0 t v)(h:DataW.Trod enc P w base (fun _=>true) held t v dd p):
  ∃q,WTv P t q∧Uq w No q v:=by
 obtain ⟨fuel,hf⟩:=h;obtain ⟨ps,h1,h2⟩:=Xl 12 t hp fuel _ _ hf;unfold WTv Cv
 have two:∀{cs:Array Value},v=.agg cs->∃q,(∃ps,q=.agg ps∧WT P 12 t ps)∧Uq w No q v:=by
  intro cs e;subst e;exact ⟨.agg ps,⟨ps,rfl,h1⟩,cs.toList,by simp,h2.mono fun c v h=>h.1⟩
 have one:v.cells.toList=[v]->∃q,WT P 12 t [q]∧Uq w No q v:=by
  intro e;rw [e] at h2
  match ps,h2 with
  |[q],h2=>
   refine ⟨q,h1,?_⟩;have h3:=h2.1.1;cases q<;>first|exact h3|exact h3.1.elim
  |[],h2=>exact h2.elim
  |_::_::_,h2=>exact h2.2.elim
 unfold O5 at hp;split at hp
 ·rename_i hu;simp only [hu];obtain ⟨b,rfl,_⟩:=open_bool hu hv ⟨fuel,hf⟩;exact one rfl
 ·rename_i k hu;simp only [hu];obtain ⟨b,rfl,_⟩:=open_int hu hv ⟨fuel,hf⟩;exact one rfl
 ·rename_i hu;simp only [hu];obtain ⟨b,rfl,_⟩:=ChangeMaps.open_string hu hv ⟨fuel,hf⟩;exact one rfl
 ·rename_i e hu;simp only [hu];obtain ⟨a,len,cap,rfl⟩:=okWide_slice hu hv;exact one rfl
 ·rename_i fs hu;simp only [hu];obtain ⟨cs,rfl,_⟩:=okWide_struct hu hv;exact two rfl
 ·rename_i n e hu;simp only [hu];unfold Value.okWide at hv;simp only [hu] at hv;obtain ⟨cs,rfl,_⟩:=hv;exact two rfl
 ·cases hp
theorem QQ:∀{ts:List TypeId}{vs:List Value}{ds:List (DataW H)} {p:List MemPlace}{r:Reach}{b0:Nat},(ts.all fun t=>O5 P 12 t)=true->(∀(j:Nat) t v,ts[j]?=some t->vs[j]?=some v->Value.okWide P w r b0 t v) ->
  DataW.TrodAll enc P w base (fun _=>true) held ts vs ds p->∃qs,Bk (WTv P) ts qs∧Bk (Uq w No) qs vs
 |[],[],[],_,_,_,_,_,_=>⟨[],trivial,trivial⟩
 |t::ts,v::vs,d::ds,_,r,b0,hp,hv,⟨p,q,h1,h2,_⟩=>by
  simp only [List.all_cons,Bool.and_eq_true] at hp;obtain ⟨x,h3,h4⟩:=Ahr hp.1 (hv 0 t v rfl rfl) h1;obtain ⟨xs,h5,h6⟩:=QQ hp.2 (fun j t v ht hv'=>hv (j+1) t v ht hv') h2
  exact ⟨x::xs,⟨h3,h5⟩,h4,h6⟩
 |[],_::_,_,_,_,_,_,_,h=>by cases h
 |[],[],_::_,_,_,_,_,_,h=>by cases h
 |_::_,[],_,_,_,_,_,_,h=>by cases h
 |_::_,_::_,[],_,_,_,_,_,h=>by cases h
theorem Y0 (hl:laidOutB P=true){W W':World}{sp:Nat->Bool}:∀{ts:List TypeId}{vs:List Value}{ds:List (DataW H)} {p:List MemPlace},(ts.all fun t=>P.readableRec t&&Nat.blt t P.types.size)=true ->
  DataW.TrodAll enc P W 0 (fun _=>true) true ts vs ds p->(∀x∈p,W.sameAt W' x)->(∀x∈p,sp x.block=true)->DataW.TrodAll enc P W' 0 sp true ts vs ds p
 |[],[],[],_,_,h,_,_=>h
 |t::ts,v::vs,d::ds,_,hr,⟨p,q,h1,h2,e⟩,hs,hsp=>by
  simp only [List.all_cons,Bool.and_eq_true] at hr;refine ⟨p,q,WideElems.Trod_stays hl hr.1.1 (Nat.lt_of_succ_le (Nat.le_of_ble_eq_true hr.1.2)) h1 (fun x hx=>hs x ?_) (fun x hx=>hsp x ?_),Y0 hl hr.2 h2 (fun x hx=>hs x ?_) (fun x hx=>hsp x ?_),e⟩
  all_goals rw [e,List.mem_append]
  ·exact .inl hx
  ·exact .inl hx
  ·exact .inr hx
  ·exact .inr hx
 |[],_::_,_,_,_,h,_,_=>by cases h
 |[],[],_::_,_,_,h,_,_=>by cases h
 |_::_,[],_,_,_,h,_,_=>by cases h
 |_::_,_::_,[],_,_,h,_,_=>by cases h
theorem NT {f:Func}{s:ChangeSpec}{apart fresh handsOn again:Bool}{W W':World}{args:Array Value}{v:Value}{ds gs:List (DataW H)} {before pa pv:List MemPlace}
  (hW:DataW.Whole enc P f.params.toList s.vars apart W args.toList ds gs before)
  (hres:∀(b:Nat)(sp:Nat->Bool)(hd:Bool),DataW.TrodAll enc P W' b sp hd f.resultTypes.toList (v.resultList f.resultTypes.size) (s.fn H (ds++gs)).results [])
  (hargs:∀sp:Nat->Bool,(∀p∈before,sp p.block=true)->DataW.TrodAll enc P W' 0 sp true f.params.toList args.toList (s.fn H (ds++gs)).args pa)
  (hvars:∀sp:Nat->Bool,(∀p∈before,sp p.block=true)->DataW.TrodVars enc P W' sp s.vars (s.fn H (ds++gs)).vars pv)
  (hps:before=pa++pv)(hb:Below W.heap.size W W')
  (hok:∀(j:Nat)(t:TypeId)(r:Value),f.resultTypes[j]?=some t->(v.resultList f.resultTypes.size)[j]?=some r->Value.okWide P W' .any 0 t r):
  s.post enc P f apart fresh handsOn again W args v W':=by
 have hlt:∀p∈before,p.block<W.heap.size:=fun p hp=>hW.lt p hp
 have hold:∀p∈before,(fun b=>decide (b<W.heap.size)) p.block=true:=fun p hp=>by simpa using hlt p hp
 refine ⟨ds,gs,before,[],pa,pv,hW,hres _ _ _,hargs _ hold,hvars _ hold,World.keptBut_mono (fun p hp=>⟨hp,?_⟩) (hb.frame (· ∈ before)),fun _=>?_⟩
 ·rw [hps,List.mem_append] at hp;exact Or.inr hp
 ·obtain ⟨_,_,_,_,_,hz,hn⟩:=hW;refine ⟨hok,_,_,([]++pa)++pv,⟨[]++pa,pv,trodAll_append (hargs _ (fun _ _=>rfl)) (hres _ _ _),hvars _ (fun _ _=>rfl),rfl,?_,?_⟩,?_⟩
  ·intro b off hp;have hin:MemPlace.cell b off∈before:=by rw [hps];simpa using hp
   rw [hb.frozen (hlt _ hin)];exact hz b off hin
  ·intro ha;have:=hn ha;rw [hps] at this
   simpa using this
  ·intro p hp _;rw [hps]
   simpa using hp
theorem law_contract {G:Vq}{C:Hs}(hx:Adj G P C)(hNG:NoNG P)(hm:P.follows .mixedOrders=true)(hl:laidOutB P=true){f:FuncId}{fn:Func}{s:ChangeSpec}{tb:TypeId}(hfn:P.funcs[f]?=some fn)
  (hvars:s.vars=[]) (hspec:∀ds:List (DataW H),ds.length=fn.params.size->s.fn H ds={ results:=[.lit (.bool true)],args:=ds }) (hplain:(fn.params.toList.all fun t=>O5 P 12 t)=true)
  (hread:(fn.params.toList.all fun t=>P.readableRec t&&Nat.blt t P.types.size)=true) (hrt:fn.resultTypes = #[tb]) (hub:P.underlying tb=some .bool)
  {apart fresh handsOn again:Bool} (W:World) (base:Nat) (args:Array Value) (ds gs:List (DataW H)) (before:List MemPlace)
  (hval:∀(j:Nat) t v,fn.params[j]?=some t->args[j]?=some v->Value.okWide P W .any base t v)
  (hW:DataW.Whole enc P fn.params.toList s.vars apart W args.toList ds gs before)
  (hlaw:∀qs:List PV,Bk (WTv P) fn.params.toList qs->∃fu d,Ae C P fu d f qs=some ⟨[.sc (.bool true)],[]⟩) (hG:G.ok W)(hGY:∀b,G.bl b->b<W.heap.size):
  Calls P f args W fun e W'=>∃v,e=.returned v∧s.post enc P fn apart fresh handsOn again W args v W':=by
 have hW':=hW;obtain ⟨p,q,hA,hV,rfl,hfz,hnd⟩:=hW;rw [hvars] at hV;obtain ⟨rfl,rfl⟩:=trodVars_none hV;obtain ⟨qs,h1,h2⟩:=QQ hplain (fun j t v ht hv=>hval j t v (by simpa using ht) (by simpa using hv)) hA
 obtain ⟨fu,d,hc⟩:=hlaw qs h1;have hS:=(W6 hNG hm hx d f qs _ hc).2 W No OD args.toList (XR (fun b h=>h.elim) h2) hG (fun b hb=>⟨hGY b hb,Wt b⟩)
 rw [Array.toArray_toList] at hS;refine hS.mono fun e W' ⟨vs,own,he,ho⟩=>?_
 have hv:=ho.vals
 have hvs:vs=[.bool true]:=by
  match vs,hv with
  |[u],hv=>
   have:A7 W' _ (.sc (.bool true)) u:=hv.1;rw [this.val]
  |[],hv=>exact hv.elim
  |_::_::_,hv=>exact hv.2.elim
 subst hvs;subst he;have hb:Below W.heap.size W W':=⟨ho.os,ho.tape,ho.output,ho.ext.size,fun k hk=>ho.ext.keep k hk (Wt k)⟩
 have hlt:∀x∈p,x.block<W.heap.size:=fun x hx=>hW'.lt x (by simpa using hx)
 have hlen:ds.length=fn.params.size:=by
  have:∀{ts:List TypeId} {vs:List Value} {ds:List (DataW H)} {p:List MemPlace},DataW.TrodAll enc P W 0 (fun _=>true) true ts vs ds p->ds.length=ts.length:=by
   intro ts
   induction ts with
   |nil=>intro vs ds p h;cases vs<;>cases ds<;>first|rfl|cases h
   |cons t ts ih=>
    intro vs ds p h;cases vs with
    |nil=>cases h
    |cons v vs=>
     cases ds with
     |nil=>cases h
     |cons d ds=>obtain ⟨_,_,_,h2,_⟩:=h;simp [ih h2]
  simpa using this hA
 have hsp:=hspec (ds++[]) (by simpa using hlen)
 refine ⟨_,rfl,NT (pa:=p) (pv:=[]) hW' ?_ ?_ ?_ rfl hb ?_⟩
 ·intro b sp hd;rw [hsp,hrt];exact trodAll_mk1 (shut_bool hub _)
 ·intro sp hspb;rw [hsp];simp only [List.append_nil];exact Y0 hl hread hA (fun x hx=>hb.same (hlt x hx)) (fun x hx=>hspb x (by simpa using hx))
 ·intro sp _;rw [hsp,hvars];rfl
 ·exact ok_one hrt rfl (okWide_bool_mk hub _)
end
end
section
set_option maxRecDepth 100000
theorem SV {d:Nat}{ps:List PV}{k:IntKind}{t e:TypeId}(hk:Iw Tryz.prog t=.sl e)(hc:Tryz.prog.cellsOf e=1)(he:Iw Tryz.prog e=.int k)(h:WT Tryz.prog d t ps):
  ∃l:List Int,ps=[.lst false 1 l.length (Af k l)]∧l.length<=maxLen∧∀n∈l,(Lit.int k n).wf=true:=by
 obtain ⟨rows,rfl,hl,hr⟩:=And hk h;obtain ⟨l,h1,h2,h3⟩:=Ms (Aqq k) (fun n=>(Lit.int k n).wf=true) fun r hrr=>Nu he (hr r hrr).2
 refine ⟨l,?_,by omega,h3⟩
 rw [h1,h2,hc]
theorem ML {n:Int}(h:(Lit.int .u64 n).wf=true):0<=n∧n<=18446744073709551615:=by
 simp [Lit.wf,IntKind.min,IntKind.max,IntKind.signed,IntKind.bits] at h;omega
theorem Ahl {p:PV}{k:IntKind}{t e:TypeId}(ha:Cv Tryz.prog t=false)(hk:Iw Tryz.prog t=.sl e)(hc:Tryz.prog.cellsOf e=1)(he:Iw Tryz.prog e=.int k)(h:WTv Tryz.prog t p):
  ∃l:List Int,p=.lst false 1 l.length (Af k l)∧l.length<=maxLen∧∀n∈l,(Lit.int k n).wf=true:=by
 have h':=TF (P:=Tryz.prog) (t:=t) (p:=p) ha h;obtain ⟨l,h1,h2,h3⟩:=SV hk hc he h';exact ⟨l,by injection h1,h2,h3⟩
end
section
open Go.IntKind (wrap)
theorem Ck:type_of% @Bool.not_true:=@Bool.not_true
theorem Cn:type_of% @Bool.not_false:=@Bool.not_false
theorem B8:type_of% @Nat.mul_one:=@Nat.mul_one
theorem Br:type_of% @Nat.zero_add:=@Nat.zero_add
theorem E6:type_of% @List.drop_zero.{0}:=@List.drop_zero
theorem Tp:type_of% @List.take_of_length_le.{0}:=@List.take_of_length_le
theorem Kh:type_of% @List.length_append.{0}:=@List.length_append
theorem Zw:type_of% @List.length_nil.{0}:=@List.length_nil
theorem Jd:type_of% @List.length_cons.{0}:=@List.length_cons
theorem Gu:type_of% @Int.toNat_natCast:=@Int.toNat_natCast
theorem A5:type_of% @if_neg.{1}:=@if_neg
theorem Bu:type_of% @if_pos.{1}:=@if_pos
theorem Zzq:type_of% @List.nil_append.{0}:=@List.nil_append
theorem J6:type_of% @Nat.add_zero:=@Nat.add_zero
theorem ZK:type_of% @List.append_assoc.{0}:=@List.append_assoc
theorem Zzw:type_of% @List.map_cons.{0,0}:=@List.map_cons
end
section
open Go.IntKind (wrap)
set_option maxRecDepth 100000
abbrev Ok:FuncId:=132
theorem Yn {xs:FuncId->Option (List PV->Option A0)} (fu d:Nat)(a0 a1:Int):Ae (CX xs) Tryz.prog fu (d+1) Ok [.sc (.int .u64 a0),.sc (.int .i64 a1)]=(fun (call:Ah)=>Aa (wrap .u64 a1) fun x1=>Aa (Qu .u64 x1 63) fun x2=>Au (decide (0<=x2))<|Aa (Hc .u64 a0 x2) fun x3=>Aa (wrap .u64 (64-x2)) fun x4=>Au (decide (0<=x4))<|Aa (D8 .u64 a0 x4) fun x5=>Aa (RD .u64 x3 x5) fun x6=>some (A0.mk [.sc (.int .u64 x6)] [])) (Ae (CX xs) Tryz.prog fu d):=by kernel_rfl
abbrev Ft:FuncId:=89
noncomputable def Hm (fu:Nat)(call:Ah)(a0n:Nat)(a0:List PV)(nn y0 y1:Nat)(y2:List PV)(y3 y4:Int)(y5:List PV):Option A0:=Co CB Tryz.prog fu call 89 Tryz.f89 (Bm Tryz.f89) [.lst false 1 a0n a0] [.r,.r,.l,.r,.l] nn ⟨lk [(3,(.view 3 1 0 y0)),(11,(.lst false 1 y1 y2)),(12,(.sc (.int .i64 y3))),(13,(.sc (.int .i64 y4)))],B7 [(3,(.ar false y5))]⟩
noncomputable def I9 (fu:Nat)(call:Ah)(a0n:Nat)(a0:List PV)(m0 nn y0:Nat)(y1:Int)(y2:Nat)(y3:List PV)(y4 y5 y6:Int)(y7:List PV):Option A0:=Co CB Tryz.prog fu call 89 Tryz.f89 (Bm Tryz.f89) [.lst false 1 a0n a0] [.r,.r,.l,.r,.l,.i m0,.r,.r,.l,.l,.r,.r,.l] nn ⟨lk [(3,(.view 3 1 0 y0)),(5,(.sc (.int .u64 y1))),(11,(.lst false 1 y2 y3)),(12,(.sc (.int .i64 y4))),(13,(.sc (.int .i64 y5))),(17,(.sc (.int .i64 y6)))],B7 [(3,(.ar false y7))]⟩
theorem Ro (fu:Nat)(call:Ah)(a0n:Nat)(a0:List PV)(nn y0 y1:Nat)(y2:List PV)(y3 y4:Int)(y5:List PV):Hm fu call a0n a0 (nn+1) y0 y1 y2 y3 y4 y5=(A9 (decide (y4<y3)) (Au (decide (0<=y4)&&decide (y4<(↑y1:Int)))<|Ad .u64 (List.getD y2 (Int.toNat y4*1) .top) fun x2=>I9 fu call a0n a0 nn (fu) (y0) x2 (y1) (y2) (y3) (y4) 0 (y5)) (Au (decide (y0*1<=y5.length))<|some (A0.mk [.own 1 y0 (List.take (y0*1) y5)] []))):=by kernel_rfl
theorem Q8 (fu:Nat)(call:Ah)(a0n:Nat)(a0:List PV)(m0 nn y0:Nat)(y1:Int)(y2:Nat)(y3:List PV)(y4 y5 y6:Int)(y7:List PV):I9 fu call a0n a0 m0 (nn+1) y0 y1 y2 y3 y4 y5 y6 y7=(A9 (decide (y6<8)) (Aa (wrap .i64 (8*y6)) fun x3=>Aa (wrap .i64 (56-x3)) fun x4=>Au (decide (0<=x4))<|Aa (D8 .u64 y1 x4) fun x5=>Aa (wrap .u8 x5) fun x6=>Au (decide (y0*1<=y7.length)&&true&&decide ((y0+1)*1<=1099511627776)&&decide (y0+1<=1099511627776))<|Aa (y0+1) fun x7=>Aa (List.take (y0*1) y7++[.sc (.int .u8 x6)]) fun x8=>Aa (wrap .i64 (y6+1)) fun x9=>I9 fu call a0n a0 m0 (nn) x7 (y1) (y2) (y3) (y4) (y5) x9 x8) (Aa (wrap .i64 (y5+1)) fun Cl=>Hm fu call a0n a0 (m0) (y0) (y2) (y3) (y4) Cl (y7))):=by kernel_rfl
theorem NL {xs:FuncId->Option (List PV->Option A0)} (fu d a0n:Nat)(a0:List PV):Ae (CX xs) Tryz.prog fu (d+1) Ft [.lst false 1 a0n a0]=(fun (call:Ah)=>Aa (wrap .i64 (8*(↑a0n:Int))) fun x1=>Au (decide (0<=x1)&&decide (x1*1<=1099511627776)&&decide (x1<=1099511627776))<|Hm fu call a0n a0 (fu) 0 (a0n) (a0) ((↑a0n:Int)) 0 ([])) (Ae (CX xs) Tryz.prog fu d):=by kernel_rfl
abbrev U5:FuncId:=121
noncomputable def Io (fu:Nat)(call:Ah)(a0n:Nat)(a0:List PV)(nn:Nat)(y0:Int)(y1:Nat)(y2:List PV)(y3 y4:Int):Option A0:=Co CB Tryz.prog fu call 121 Tryz.f121 (Bm Tryz.f121) [.lst false 1 a0n a0] [.r,.r,.l,.r,.l] nn ⟨lk [(3,(.sc (.int .u64 y0))),(6,(.lst false 1 y1 y2)),(7,(.sc (.int .i64 y3))),(8,(.sc (.int .i64 y4)))],B7 []⟩
theorem Pm (fu:Nat)(call:Ah)(a0n:Nat)(a0:List PV)(nn:Nat)(y0:Int)(y1:Nat)(y2:List PV)(y3 y4:Int):Io fu call a0n a0 (nn+1) y0 y1 y2 y3 y4=(A9 (decide (y4<y3)) (Au (decide (0<=y4)&&decide (y4<(↑y1:Int)))<|Ad .u8 (List.getD y2 (Int.toNat y4*1) .top) fun x1=>Aa (wrap .u64 x1) fun x2=>Aa (wrap .i64 (8*y4)) fun x3=>Au (decide (0<=x3))<|Aa (Hc .u64 x2 x3) fun x4=>Aa (RD .u64 y0 x4) fun x5=>Aa (wrap .i64 (y4+1)) fun x6=>Io fu call a0n a0 (nn) x5 (y1) (y2) (y3) x6) (some (A0.mk [.sc (.int .u64 y0)] []))):=by kernel_rfl
theorem IK {xs:FuncId->Option (List PV->Option A0)} (fu d a0n:Nat)(a0:List PV):Ae (CX xs) Tryz.prog fu (d+1) U5 [.lst false 1 a0n a0]=(fun (call:Ah)=>Io fu call a0n a0 (fu) 0 (a0n) (a0) ((↑a0n:Int)) 0) (Ae (CX xs) Tryz.prog fu d):=by kernel_rfl
abbrev Ls:FuncId:=122
noncomputable def Fm (fu:Nat)(call:Ah)(a0_0 a0_1:Int)(a0_2 a0_3 a1:Int)(nn:Nat)(y0 y1:Int)(y2 y3:Int)(y4 y5:Int):Option A0:=Co CB Tryz.prog fu call 122 Tryz.f122 (Bm Tryz.f122) [.pbox [.sc (.int .u64 a0_0),.sc (.int .u64 a0_1),.sc (.int .u64 a0_2),.sc (.int .u64 a0_3)],.sc (.int .i64 a1)] [.r,.l] nn ⟨lk [(0,(.ptr 288000 0)),(4,(.sc (.int .i64 y0))),(5,(.sc (.int .i64 y1)))],B7 [(288000,(.st [(.sc (.int .u64 y2)),(.sc (.int .u64 y3)),(.sc (.int .u64 y4)),(.sc (.int .u64 y5))]))]⟩
theorem I7 (fu:Nat)(call:Ah)(a0_0 a0_1:Int)(a0_2 a0_3 a1:Int)(nn:Nat)(y0 y1:Int)(y2 y3:Int)(y4 y5:Int):Fm fu call a0_0 a0_1 a0_2 a0_3 a1 (nn+1) y0 y1 y2 y3 y4 y5=(A9 (decide (y1<y0)) (Aa (wrap .u64 (y2+y3)) fun x1=>Ag (call 132 [.sc (.int .u64 y3),.sc (.int .i64 13)]) fun x2 x3=>Ac x3<|Ab x2 fun x4 x5=>Ad .u64 x4 fun x6=>Ac x5<|Aa (D1 .u64 x6 x1) fun x7=>Ag (call 132 [.sc (.int .u64 x1),.sc (.int .i64 32)]) fun x8 x9=>Ac x9<|Ab x8 fun Cl Cw=>Ad .u64 Cl fun Dl=>Ac Cw<|Aa (wrap .u64 (y4+y5)) fun Ds=>Ag (call 132 [.sc (.int .u64 y5),.sc (.int .i64 16)]) fun Dk D9=>Ac D9<|Ab Dk fun Ea En=>Ad .u64 Ea fun E1=>Ac En<|Aa (D1 .u64 E1 Ds) fun Fg=>Aa (wrap .u64 (Dl+Fg)) fun Fp=>Ag (call 132 [.sc (.int .u64 Fg),.sc (.int .i64 21)]) fun Ho Hb=>Ac Hb<|Ab Ho fun Hr Dz=>Ad .u64 Hr fun Dq=>Ac Dz<|Aa (D1 .u64 Dq Fp) fun F5=>Aa (wrap .u64 (Ds+x7)) fun H3=>Ag (call 132 [.sc (.int .u64 x7),.sc (.int .i64 17)]) fun E2 Jg=>Ac Jg<|Ab E2 fun L6 J3=>Ad .u64 L6 fun Mp=>Ac J3<|Aa (D1 .u64 Mp H3) fun Mg=>Ag (call 132 [.sc (.int .u64 H3),.sc (.int .i64 32)]) fun Nm Pt=>Ac Pt<|Ab Nm fun P7 R4=>Ad .u64 P7 fun Hi=>Ac R4<|Aa (wrap .i64 (y1+1)) fun J8=>Fm fu call a0_0 a0_1 a0_2 a0_3 a1 (nn) (y0) J8 Fp Mg Hi F5) (some (A0.mk [] [[.sc (.int .u64 y2),.sc (.int .u64 y3),.sc (.int .u64 y4),.sc (.int .u64 y5)]]))):=by kernel_rfl
theorem Vh {xs:FuncId->Option (List PV->Option A0)} (fu d:Nat)(a0_0 a0_1:Int)(a0_2 a0_3 a1:Int):Ae (CX xs) Tryz.prog fu (d+1) Ls [.pbox [.sc (.int .u64 a0_0),.sc (.int .u64 a0_1),.sc (.int .u64 a0_2),.sc (.int .u64 a0_3)],.sc (.int .i64 a1)]=(fun (call:Ah)=>Fm fu call a0_0 a0_1 a0_2 a0_3 a1 (fu) (a1) 0 (a0_0) (a0_1) (a0_2) (a0_3)) (Ae (CX xs) Tryz.prog fu d):=by kernel_rfl
abbrev Lm:FuncId:=120
theorem Vm {xs:FuncId->Option (List PV->Option A0)} (fu d:Nat)(a0_0 a0_1:Int)(a0_2 a0_3 a1:Int):Ae (CX xs) Tryz.prog fu (d+1) Lm [.pbox [.sc (.int .u64 a0_0),.sc (.int .u64 a0_1),.sc (.int .u64 a0_2),.sc (.int .u64 a0_3)],.sc (.int .u64 a1)]=(fun (call:Ah)=>Aa (D1 .u64 a0_3 a1) fun x1=>Ag (call 122 [.pbox [.sc (.int .u64 a0_0),.sc (.int .u64 a0_1),.sc (.int .u64 a0_2),.sc (.int .u64 x1)],.sc (.int .i64 2)]) fun x2 x3=>Ac x2<|Ab x3 fun x4 x5=>Ab x4 fun x6 x7=>Ad .u64 x6 fun x8=>Ab x7 fun x9 Cl=>Ad .u64 x9 fun Cw=>Ab Cl fun Dl Ds=>Ad .u64 Dl fun Dk=>Ab Ds fun D9 Ea=>Ad .u64 D9 fun En=>Ac Ea<|Ac x5<|Aa (D1 .u64 x8 a1) fun E1=>some (A0.mk [] [[.sc (.int .u64 E1),.sc (.int .u64 Cw),.sc (.int .u64 Dk),.sc (.int .u64 En)]])) (Ae (CX xs) Tryz.prog fu d):=by kernel_rfl
abbrev BH:FuncId:=103
noncomputable def I4 (fu:Nat)(call:Ah)(a0 a1:Int)(a2n:Nat)(a2:List PV)(nn y0:Nat)(y1:List PV)(y2 y3:Int)(y4 y5:Int)(y6 y7 y8:Int):Option A0:=Co CB Tryz.prog fu call 103 Tryz.f103 (Bm Tryz.f103) [.sc (.int .u64 a0),.sc (.int .u64 a1),.lst false 1 a2n a2] [.r,.r,.r,.l,.r,.l] nn ⟨lk [(2,(.lst false 1 y0 y1)),(7,(.ptr 7 0)),(8,(.sc (.int .i64 y2))),(22,(.sc (.int .i64 y3))),(23,(.sc (.int .i64 y4)))],B7 [(7,(.st [(.sc (.int .u64 y5)),(.sc (.int .u64 y6)),(.sc (.int .u64 y7)),(.sc (.int .u64 y8))]))]⟩
theorem Vd (fu:Nat)(call:Ah)(a0 a1:Int)(a2n:Nat)(a2:List PV)(nn y0:Nat)(y1:List PV)(y2 y3:Int)(y4 y5:Int)(y6 y7 y8:Int):I4 fu call a0 a1 a2n a2 (nn+1) y0 y1 y2 y3 y4 y5 y6 y7 y8=(A9 (decide (y4<y3)) (Aa (wrap .i64 (8*y4)) fun x6=>Aa (wrap .i64 (8*y4)) fun x7=>Aa (wrap .i64 (x7+8)) fun x8=>Au (decide (0<=x6))<|Au (decide (0<=x8))<|Au (decide (Int.toNat x6<=Int.toNat x8)&&decide (Int.toNat x8<=y0))<|Aa (Int.toNat x8-Int.toNat x6) fun x9=>Aa (List.take (x9*1) (List.drop (Int.toNat x6*1) y1)) fun Cl=>Ag (call 121 [.lst false 1 x9 Cl]) fun Cw Dl=>Ac Dl<|Ab Cw fun Ds Dk=>Ad .u64 Ds fun D9=>Ac Dk<|Ag (call 120 [.pbox [.sc (.int .u64 y5),.sc (.int .u64 y6),.sc (.int .u64 y7),.sc (.int .u64 y8)],.sc (.int .u64 D9)]) fun Ea En=>Ac Ea<|Ab En fun E1 Fg=>Ab E1 fun Fp Ho=>Ad .u64 Fp fun Hb=>Ab Ho fun Hr Dz=>Ad .u64 Hr fun Dq=>Ab Dz fun F5 H3=>Ad .u64 F5 fun E2=>Ab H3 fun Jg L6=>Ad .u64 Jg fun J3=>Ac L6<|Ac Fg<|Aa (wrap .i64 (y4+1)) fun Mp=>I4 fu call a0 a1 a2n a2 (nn) (y0) (y1) (y2) (y3) Mp Hb Dq E2 J3) (Aa (wrap .i64 (8*y2)) fun Mg=>Au (decide (0<=Mg))<|Au (decide (Int.toNat Mg<=y0)&&decide (y0<=y0))<|Aa (y0-Int.toNat Mg) fun Nm=>Aa (List.take (Nm*1) (List.drop (Int.toNat Mg*1) y1)) fun Pt=>Ag (call 121 [.lst false 1 Nm Pt]) fun P7 R4=>Ac R4<|Ab P7 fun Hi J8=>Ad .u64 Hi fun Uy=>Ac J8<|Aa (wrap .u64 (↑y0:Int)) fun Y8=>Aa (Hc .u64 Y8 56) fun Ph=>Aa (RD .u64 Uy Ph) fun Nw=>Ag (call 120 [.pbox [.sc (.int .u64 y5),.sc (.int .u64 y6),.sc (.int .u64 y7),.sc (.int .u64 y8)],.sc (.int .u64 Nw)]) fun Uo Sb=>Ac Uo<|Ab Sb fun To Xt=>Ab To fun Yh Sd=>Ad .u64 Yh fun We=>Ab Sd fun Yk Xe=>Ad .u64 Yk fun O3=>Ab Xe fun Yl DK=>Ad .u64 Yl fun BC=>Ab DK fun Y3 U7=>Ad .u64 Y3 fun X7=>Ac U7<|Ac Xt<|Aa (D1 .u64 BC 255) fun BA=>Ag (call 122 [.pbox [.sc (.int .u64 We),.sc (.int .u64 O3),.sc (.int .u64 BA),.sc (.int .u64 X7)],.sc (.int .i64 4)]) fun Zd Y6=>Ac Zd<|Ab Y6 fun BB Y1=>Ab BB fun Za Xv=>Ad .u64 Za fun Xj=>Ab Xv fun EB Zs=>Ad .u64 EB fun Y2=>Ab Zs fun Zf Zz=>Ad .u64 Zf fun EG=>Ab Zz fun Zk Y4=>Ad .u64 Zk fun GZ=>Ac Y4<|Ac Y1<|Aa (D1 .u64 Xj Y2) fun BE=>Aa (D1 .u64 BE EG) fun FP=>Aa (D1 .u64 FP GZ) fun IU=>some (A0.mk [.sc (.int .u64 IU)] []))):=by kernel_rfl
theorem SJ {xs:FuncId->Option (List PV->Option A0)} (fu d:Nat)(a0 a1:Int)(a2n:Nat)(a2:List PV):Ae (CX xs) Tryz.prog fu (d+1) BH [.sc (.int .u64 a0),.sc (.int .u64 a1),.lst false 1 a2n a2]=(fun (call:Ah)=>Aa (D1 .u64 a0 8317987319222330741) fun x1=>Aa (D1 .u64 a1 7237128888997146477) fun x2=>Aa (D1 .u64 a0 7816392313619706465) fun x3=>Aa (D1 .u64 a1 8387220255154660723) fun x4=>Aa (wrap .i64 (Int.tdiv (↑a2n:Int) 8)) fun x5=>I4 fu call a0 a1 a2n a2 (fu) (a2n) (a2) x5 x5 0 x1 x2 x3 x4) (Ae (CX xs) Tryz.prog fu d):=by kernel_rfl
abbrev R0:FuncId:=73
theorem OT {xs:FuncId->Option (List PV->Option A0)} (fu d:Nat)(a0:Int)(a1n:Nat)(a1:List PV):Ae (CX xs) Tryz.prog fu (d+1) R0 [.sc (.int .i64 a0),.lst false 1 a1n a1]=(fun (call:Ah)=>Aa (wrap .u64 a0) fun x1=>Ag (call 103 [.sc (.int .u64 x1),.sc (.int .u64 0),.lst false 1 a1n a1]) fun x2 x3=>Ac x3<|Ab x2 fun x4 x5=>Ad .u64 x4 fun x6=>Ac x5<|some (A0.mk [.sc (.int .u64 x6)] [])) (Ae (CX xs) Tryz.prog fu d):=by kernel_rfl
abbrev BS:FuncId:=123
theorem UL {xs:FuncId->Option (List PV->Option A0)} (fu d:Nat)(a0 a1:Int)(a2n:Nat)(a2:List PV):Ae (CX xs) Tryz.prog fu (d+1) BS [.sc (.int .u64 a0),.sc (.int .i64 a1),.lst false 1 a2n a2]=(fun (call:Ah)=>Aa (wrap .u64 a1) fun x1=>Aa (wrap .u64 (1+x1)) fun x2=>Ag (call 103 [.sc (.int .u64 a0),.sc (.int .u64 x2),.lst false 1 a2n a2]) fun x3 x4=>Ac x4<|Ab x3 fun x5 x6=>Ad .u64 x5 fun x7=>Ac x6<|some (A0.mk [.sc (.int .u64 x7)] [])) (Ae (CX xs) Tryz.prog fu d):=by kernel_rfl
abbrev Pk:FuncId:=117
theorem AH {xs:FuncId->Option (List PV->Option A0)} (fu d:Nat)(a0 a1:Int):Ae (CX xs) Tryz.prog fu (d+1) Pk [.sc (.int .u64 a0),.sc (.int .u64 a1)]=(fun (call:Ah)=>Au (decide (0<=a1))<|Aa (Hc .u64 a0 a1) fun x1=>Aa (wrap .u64 (64-a1)) fun x2=>Au (decide (0<=x2))<|Aa (D8 .u64 a0 x2) fun x3=>Aa (RD .u64 x1 x3) fun x4=>some (A0.mk [.sc (.int .u64 x4)] [])) (Ae (CX xs) Tryz.prog fu d):=by kernel_rfl
abbrev Nz:FuncId:=98
theorem Xx {xs:FuncId->Option (List PV->Option A0)} (fu d:Nat)(a0_0 a0_1:Int)(a0_2 a0_3:Int):Ae (CX xs) Tryz.prog fu (d+1) Nz [.agg [.sc (.int .u64 a0_0),.sc (.int .u64 a0_1),.sc (.int .u64 a0_2),.sc (.int .u64 a0_3)]]=(fun (call:Ah)=>Aa (wrap .u64 (a0_0+a0_1)) fun x1=>Ag (call 117 [.sc (.int .u64 a0_1),.sc (.int .u64 13)]) fun x2 x3=>Ac x3<|Ab x2 fun x4 x5=>Ad .u64 x4 fun x6=>Ac x5<|Aa (D1 .u64 x6 x1) fun x7=>Ag (call 117 [.sc (.int .u64 x1),.sc (.int .u64 32)]) fun x8 x9=>Ac x9<|Ab x8 fun Cl Cw=>Ad .u64 Cl fun Dl=>Ac Cw<|Aa (wrap .u64 (a0_2+a0_3)) fun Ds=>Ag (call 117 [.sc (.int .u64 a0_3),.sc (.int .u64 16)]) fun Dk D9=>Ac D9<|Ab Dk fun Ea En=>Ad .u64 Ea fun E1=>Ac En<|Aa (D1 .u64 E1 Ds) fun Fg=>Aa (wrap .u64 (Dl+Fg)) fun Fp=>Ag (call 117 [.sc (.int .u64 Fg),.sc (.int .u64 21)]) fun Ho Hb=>Ac Hb<|Ab Ho fun Hr Dz=>Ad .u64 Hr fun Dq=>Ac Dz<|Aa (D1 .u64 Dq Fp) fun F5=>Aa (wrap .u64 (Ds+x7)) fun H3=>Ag (call 117 [.sc (.int .u64 x7),.sc (.int .u64 17)]) fun E2 Jg=>Ac Jg<|Ab E2 fun L6 J3=>Ad .u64 L6 fun Mp=>Ac J3<|Aa (D1 .u64 Mp H3) fun Mg=>Ag (call 117 [.sc (.int .u64 H3),.sc (.int .u64 32)]) fun Nm Pt=>Ac Pt<|Ab Nm fun P7 R4=>Ad .u64 P7 fun Hi=>Ac R4<|some (A0.mk [.agg [.sc (.int .u64 Fp),.sc (.int .u64 Mg),.sc (.int .u64 Hi),.sc (.int .u64 F5)]] [])) (Ae (CX xs) Tryz.prog fu d):=by kernel_rfl
abbrev Rh:FuncId:=65
noncomputable def Fx (fu:Nat)(call:Ah)(a0 a1:Int)(a2n:Nat)(a2:List PV)(nn y0:Nat)(y1:List PV)(y2:Int)(y3:List PV):Option A0:=Co CB Tryz.prog fu call 65 Tryz.f65 (Bm Tryz.f65) [.sc (.int .u64 a0),.sc (.int .u64 a1),.lst false 1 a2n a2] [.r,.r,.l,.r,.l] nn ⟨lk [(2,(.lst false 1 y0 y1)),(7,(.ptr 7 0)),(8,(.sc (.int .i64 y2)))],B7 [(7,(.ar false y3))]⟩
noncomputable def Er (fu:Nat)(call:Ah)(a0 a1:Int)(a2n:Nat)(a2:List PV)(m0 nn y0:Nat)(y1:List PV)(y2 y3 y4:Int)(y5:List PV):Option A0:=Co CB Tryz.prog fu call 65 Tryz.f65 (Bm Tryz.f65) [.sc (.int .u64 a0),.sc (.int .u64 a1),.lst false 1 a2n a2] [.r,.r,.l,.r,.l,.i m0,.r,.l,.l,.r,.l,.r,.l] nn ⟨lk [(2,(.lst false 1 y0 y1)),(7,(.ptr 7 0)),(8,(.sc (.int .i64 y2))),(9,(.sc (.int .u64 y3))),(10,(.sc (.int .i64 y4)))],B7 [(7,(.ar false y5))]⟩
theorem M8 (fu:Nat)(call:Ah)(a0 a1:Int)(a2n:Nat)(a2:List PV)(nn y0:Nat)(y1:List PV)(y2:Int)(y3:List PV):Fx fu call a0 a1 a2n a2 (nn+1) y0 y1 y2 y3=(A9 (decide (y2<=(↑y0:Int))) (Er fu call a0 a1 a2n a2 nn (fu) (y0) (y1) (y2) 0 7 (y3)) (Ad .u64 (List.getD y3 2 .top) fun x5=>Aa (D1 .u64 x5 255) fun x6=>Au (decide (3<=y3.length))<|Aa (Bd y3 [.sc (.int .u64 x6)] 2) fun x7=>Ad .u64 (List.getD x7 0 .top) fun x8=>Ad .u64 (List.getD x7 1 .top) fun x9=>Ad .u64 (List.getD x7 2 .top) fun Cl=>Ad .u64 (List.getD x7 3 .top) fun Cw=>Ag (call 98 [.agg [.sc (.int .u64 x8),.sc (.int .u64 x9),.sc (.int .u64 Cl),.sc (.int .u64 Cw)]]) fun Dl Ds=>Ac Ds<|Ab Dl fun Dk D9=>C4 Dk fun Ea=>Ab Ea fun En E1=>Ad .u64 En fun Fg=>Ab E1 fun Fp Ho=>Ad .u64 Fp fun Hb=>Ab Ho fun Hr Dz=>Ad .u64 Hr fun Dq=>Ab Dz fun F5 H3=>Ad .u64 F5 fun E2=>Ac H3<|Ac D9<|Ag (call 98 [.agg [.sc (.int .u64 Fg),.sc (.int .u64 Hb),.sc (.int .u64 Dq),.sc (.int .u64 E2)]]) fun Jg L6=>Ac L6<|Ab Jg fun J3 Mp=>C4 J3 fun Mg=>Ab Mg fun Nm Pt=>Ad .u64 Nm fun P7=>Ab Pt fun R4 Hi=>Ad .u64 R4 fun J8=>Ab Hi fun Uy Y8=>Ad .u64 Uy fun Ph=>Ab Y8 fun Nw Uo=>Ad .u64 Nw fun Sb=>Ac Uo<|Ac Mp<|Ag (call 98 [.agg [.sc (.int .u64 P7),.sc (.int .u64 J8),.sc (.int .u64 Ph),.sc (.int .u64 Sb)]]) fun To Xt=>Ac Xt<|Ab To fun Yh Sd=>C4 Yh fun We=>Ab We fun Yk Xe=>Ad .u64 Yk fun O3=>Ab Xe fun Yl DK=>Ad .u64 Yl fun BC=>Ab DK fun Y3 U7=>Ad .u64 Y3 fun X7=>Ab U7 fun BA Zd=>Ad .u64 BA fun Y6=>Ac Zd<|Ac Sd<|Ag (call 98 [.agg [.sc (.int .u64 O3),.sc (.int .u64 BC),.sc (.int .u64 X7),.sc (.int .u64 Y6)]]) fun BB Y1=>Ac Y1<|Ab BB fun Za Xv=>C4 Za fun Xj=>Ab Xj fun EB Zs=>Ad .u64 EB fun Y2=>Ab Zs fun Zf Zz=>Ad .u64 Zf fun EG=>Ab Zz fun Zk Y4=>Ad .u64 Zk fun GZ=>Ab Y4 fun BE FP=>Ad .u64 BE fun IU=>Ac FP<|Ac Xv<|Au (decide (4<=x7.length))<|Aa (Bd x7 [.sc (.int .u64 Y2),.sc (.int .u64 EG),.sc (.int .u64 GZ),.sc (.int .u64 IU)] 0) fun IW=>Ad .u64 (List.getD IW 0 .top) fun UI=>Ad .u64 (List.getD IW 1 .top) fun NQ=>Aa (D1 .u64 UI NQ) fun RU=>Ad .u64 (List.getD IW 2 .top) fun OL=>Aa (D1 .u64 RU OL) fun ZG=>Ad .u64 (List.getD IW 3 .top) fun WJ=>Aa (D1 .u64 ZG WJ) fun UX=>some (A0.mk [.sc (.int .u64 UX)] []))):=by kernel_rfl
theorem Mw (fu:Nat)(call:Ah)(a0 a1:Int)(a2n:Nat)(a2:List PV)(m0 nn y0:Nat)(y1:List PV)(y2 y3 y4:Int)(y5:List PV):Er fu call a0 a1 a2n a2 m0 (nn+1) y0 y1 y2 y3 y4 y5=(A9 (decide (y4>=0)) (Aa (wrap .i64 (y2+y4)) fun TX=>A9 (decide (TX<(↑y0:Int))) (Aa (wrap .i64 (y2+y4)) fun EI=>Au (decide (0<=EI)&&decide (EI<(↑y0:Int)))<|Ad .u8 (List.getD y1 (Int.toNat EI*1) .top) fun RG=>Aa (Hc .u64 y3 8) fun SE=>Aa (wrap .u64 RG) fun YA=>Aa (RD .u64 SE YA) fun VI=>Aa (wrap .i64 (y4-1)) fun x94=>Er fu call a0 a1 a2n a2 m0 (nn) (y0) (y1) (y2) VI x94 (y5)) (A9 (y4==7) (Aa (wrap .u8 (↑y0:Int)) fun x95=>Aa (Hc .u64 y3 8) fun x96=>Aa (wrap .u64 x95) fun UZ=>Aa (RD .u64 x96 UZ) fun ZM=>Aa (wrap .i64 (y4-1)) fun ZN=>Er fu call a0 a1 a2n a2 m0 (nn) (y0) (y1) (y2) ZM ZN (y5)) (Aa (Hc .u64 y3 8) fun Ys=>Aa (RD .u64 Ys 0) fun Xb=>Aa (wrap .i64 (y4-1)) fun H5=>Er fu call a0 a1 a2n a2 m0 (nn) (y0) (y1) (y2) Xb H5 (y5)))) (Ad .u64 (List.getD y5 3 .top) fun D7=>Aa (D1 .u64 D7 y3) fun Z6=>Au (decide (4<=y5.length))<|Aa (Bd y5 [.sc (.int .u64 Z6)] 3) fun Tl=>Ad .u64 (List.getD Tl 0 .top) fun R7=>Ad .u64 (List.getD Tl 1 .top) fun Kx=>Ad .u64 (List.getD Tl 2 .top) fun Zu=>Ad .u64 (List.getD Tl 3 .top) fun AM=>Ag (call 98 [.agg [.sc (.int .u64 R7),.sc (.int .u64 Kx),.sc (.int .u64 Zu),.sc (.int .u64 AM)]]) fun Z4 Zr=>Ac Zr<|Ab Z4 fun Iy Kl=>C4 Iy fun AW=>Ab AW fun Zh AP=>Ad .u64 Zh fun FS=>Ab AP fun Ub Vw=>Ad .u64 Ub fun Yi=>Ab Vw fun X9 Zo=>Ad .u64 X9 fun BI=>Ab Zo fun Tg R3=>Ad .u64 Tg fun Qt=>Ac R3<|Ac Kl<|Ag (call 98 [.agg [.sc (.int .u64 FS),.sc (.int .u64 Yi),.sc (.int .u64 BI),.sc (.int .u64 Qt)]]) fun Tu Vl=>Ac Vl<|Ab Tu fun CF Zi=>C4 CF fun JN=>Ab JN fun EO Zp=>Ad .u64 EO fun IF=>Ab Zp fun JL LF=>Ad .u64 JL fun NX=>Ab LF fun LD FB=>Ad .u64 LD fun IC=>Ab FB fun JQ MS=>Ad .u64 JQ fun LX=>Ac MS<|Ac Zi<|Au (decide (4<=Tl.length))<|Aa (Bd Tl [.sc (.int .u64 IF),.sc (.int .u64 NX),.sc (.int .u64 IC),.sc (.int .u64 LX)] 0) fun FR=>Ad .u64 (List.getD FR 0 .top) fun IG=>Aa (D1 .u64 IG y3) fun IA=>Au (decide (1<=FR.length))<|Aa (Bd FR [.sc (.int .u64 IA)] 0) fun HU=>Aa (wrap .i64 (y2+8)) fun NG=>Fx fu call a0 a1 a2n a2 (m0) (y0) (y1) NG HU)):=by kernel_rfl
theorem CV {xs:FuncId->Option (List PV->Option A0)} (fu d:Nat)(a0 a1:Int)(a2n:Nat)(a2:List PV):Ae (CX xs) Tryz.prog fu (d+1) Rh [.sc (.int .u64 a0),.sc (.int .u64 a1),.lst false 1 a2n a2]=(fun (call:Ah)=>Aa (D1 .u64 a0 8317987319222330741) fun x1=>Aa (D1 .u64 a1 7237128888997146477) fun x2=>Aa (D1 .u64 a0 7816392313619706465) fun x3=>Aa (D1 .u64 a1 8387220255154660723) fun x4=>Fx fu call a0 a1 a2n a2 (fu) (a2n) (a2) 0 ([.sc (.int .u64 x1),.sc (.int .u64 x2),.sc (.int .u64 x3),.sc (.int .u64 x4)])) (Ae (CX xs) Tryz.prog fu d):=by kernel_rfl
abbrev Jo:FuncId:=34
theorem AF {xs:FuncId->Option (List PV->Option A0)} (fu d:Nat)(a0:Int)(a1n:Nat)(a1:List PV):Ae (CX xs) Tryz.prog fu (d+1) Jo [.sc (.int .i64 a0),.lst false 1 a1n a1]=(fun (call:Ah)=>Aa (wrap .u64 a0) fun x1=>Ag (call 65 [.sc (.int .u64 x1),.sc (.int .u64 0),.lst false 1 a1n a1]) fun x2 x3=>Ac x3<|Ab x2 fun x4 x5=>Ad .u64 x4 fun x6=>Ac x5<|some (A0.mk [.sc (.int .u64 x6)] [])) (Ae (CX xs) Tryz.prog fu d):=by kernel_rfl
abbrev Re:FuncId:=88
theorem DU {xs:FuncId->Option (List PV->Option A0)} (fu d:Nat)(a0 a1:Int)(a2n:Nat)(a2:List PV):Ae (CX xs) Tryz.prog fu (d+1) Re [.sc (.int .u64 a0),.sc (.int .i64 a1),.lst false 1 a2n a2]=(fun (call:Ah)=>Aa (wrap .u64 a1) fun x1=>Aa (wrap .u64 (1+x1)) fun x2=>Ag (call 65 [.sc (.int .u64 a0),.sc (.int .u64 x2),.lst false 1 a2n a2]) fun x3 x4=>Ac x4<|Ab x3 fun x5 x6=>Ad .u64 x5 fun x7=>Ac x6<|some (A0.mk [.sc (.int .u64 x7)] [])) (Ae (CX xs) Tryz.prog fu d):=by kernel_rfl
abbrev Ee:FuncId:=84
noncomputable def Ez (fu:Nat)(call:Ah)(a0n:Nat)(a0:List PV)(nn y0:Nat)(y1:List PV)(y2:Nat)(y3:Int)(y4:List PV):Option A0:=Co CB Tryz.prog fu call 84 Tryz.f84 (Bm Tryz.f84) [.lst false 1 a0n a0] [.r,.r,.l,.r,.l] nn ⟨lk [(0,(.lst false 1 y0 y1)),(3,(.view 3 1 0 y2)),(4,(.sc (.int .i64 y3)))],B7 [(3,(.ar false y4))]⟩
noncomputable def Gc (fu:Nat)(call:Ah)(a0n:Nat)(a0:List PV)(m0 nn y0:Nat)(y1:List PV)(y2:Nat)(y3 y4:Int)(y5:List PV):Option A0:=Co CB Tryz.prog fu call 84 Tryz.f84 (Bm Tryz.f84) [.lst false 1 a0n a0] [.r,.r,.l,.r,.l,.i m0,.r,.l,.l,.r,.l] nn ⟨lk [(0,(.lst false 1 y0 y1)),(3,(.view 3 1 0 y2)),(4,(.sc (.int .i64 y3))),(5,(.sc (.int .i64 y4)))],B7 [(3,(.ar false y5))]⟩
theorem Kv (fu:Nat)(call:Ah)(a0n:Nat)(a0:List PV)(nn y0:Nat)(y1:List PV)(y2:Nat)(y3:Int)(y4:List PV):Ez fu call a0n a0 (nn+1) y0 y1 y2 y3 y4=(A9 (decide (y3<(↑y0:Int))) (Gc fu call a0n a0 nn (fu) (y0) (y1) (y2) (y3) 7 (y4)) (Au (decide (y2*1<=y4.length))<|some (A0.mk [.own 1 y2 (List.take (y2*1) y4)] []))):=by kernel_rfl
theorem Kn (fu:Nat)(call:Ah)(a0n:Nat)(a0:List PV)(m0 nn y0:Nat)(y1:List PV)(y2:Nat)(y3 y4:Int)(y5:List PV):Gc fu call a0n a0 m0 (nn+1) y0 y1 y2 y3 y4 y5=(A9 (decide (y4>=0)) (Au (decide (0<=y3)&&decide (y3<(↑y0:Int)))<|Ad .u64 (List.getD y1 (Int.toNat y3*1) .top) fun x1=>Aa (wrap .i64 (8*y4)) fun x2=>Aa (wrap .u64 x2) fun x3=>Au (decide (0<=x3))<|Aa (D8 .u64 x1 x3) fun x4=>Aa (wrap .u8 x4) fun x5=>Au (decide (y2*1<=y5.length)&&true&&decide ((y2+1)*1<=1099511627776)&&decide (y2+1<=1099511627776))<|Aa (y2+1) fun x6=>Aa (List.take (y2*1) y5++[.sc (.int .u8 x5)]) fun x7=>Aa (wrap .i64 (y4-1)) fun x8=>Gc fu call a0n a0 m0 (nn) (y0) (y1) x6 (y3) x8 x7) (Aa (wrap .i64 (y3+1)) fun x9=>Ez fu call a0n a0 (m0) (y0) (y1) (y2) x9 (y5))):=by kernel_rfl
theorem Ye {xs:FuncId->Option (List PV->Option A0)} (fu d a0n:Nat)(a0:List PV):Ae (CX xs) Tryz.prog fu (d+1) Ee [.lst false 1 a0n a0]=(fun (call:Ah)=>Ez fu call a0n a0 (fu) (a0n) (a0) 0 0 ([])) (Ae (CX xs) Tryz.prog fu d):=by kernel_rfl
end
section
open Go.IntKind (wrap)
def rot (x k:Int):Int:=RD .u64 (Hc .u64 x k) (D8 .u64 x (64-k))
structure W4 where
 a:Int
 b:Int
 c:Int
 d:Int
def W4.cells (v:W4):List PV:=[.sc (.int .u64 v.a),.sc (.int .u64 v.b),.sc (.int .u64 v.c),.sc (.int .u64 v.d)]
def Au5 (v:W4):W4:=⟨rot (wrap .u64 (v.a+v.b)) 32,D1 .u64 (rot v.b 13) (wrap .u64 (v.a+v.b)),wrap .u64 (v.c+v.d),D1 .u64 (rot v.d 16) (wrap .u64 (v.c+v.d))⟩
def A16 (v:W4):W4:=⟨wrap .u64 (v.a+v.d),D1 .u64 (rot v.b 17) (wrap .u64 (v.c+v.b)),rot (wrap .u64 (v.c+v.b)) 32,D1 .u64 (rot v.d 21) (wrap .u64 (v.a+v.d))⟩
def NR (v:W4):W4:=A16 (Au5 v)
def Ab4:Nat->W4->W4
 |0,v=>v
 |n+1,v=>Ab4 n (NR v)
def Atw (r:W4)(m:Int):W4:=⟨D1 .u64 r.a m,r.b,r.c,r.d⟩
def Tn (v:W4)(m:Int):W4:=Atw (Ab4 2 ⟨v.a,v.b,v.c,D1 .u64 v.d m⟩) m
def Sy:List Int->Int
 |[]=>0
 |b::r=>b+256*Sy r
def OA:Nat->W4->List Int->W4
 |0,v,_=>v
 |n+1,v,l=>OA n (Tn v (Sy (l.take 8))) (l.drop 8)
def Ap9 (k0 k1:Int):W4:=⟨D1 .u64 k0 8317987319222330741,D1 .u64 k1 7237128888997146477,D1 .u64 k0 7816392313619706465,D1 .u64 k1 8387220255154660723⟩
def Ad7 (v:W4):W4:=Ab4 4 ⟨v.a,v.b,D1 .u64 v.c 255,v.d⟩
def Aga (v:W4):Int:=D1 .u64 (D1 .u64 (D1 .u64 v.a v.b) v.c) v.d
def Ny (l:List Int):Int:=Sy (l.drop (8*(l.length / 8)))+72057594037927936*((l.length:Int) % 256)
def Amd (k0 k1:Int)(l:List Int):Int:=Aga (Ad7 (Tn (OA (l.length / 8) (Ap9 k0 k1) l) (Ny l)))
def Nb (dom:Int)(l:List Int):Int:=Amd (wrap .u64 dom) 0 l
def Amg (key dom:Int)(l:List Int):Int:=Amd key (wrap .u64 (1+wrap .u64 dom)) l
def Kw (l:List Int):Prop:=∀b∈l,0<=b∧b<=255
theorem Uj:∀{l:List Int},Kw l->0<=Sy l∧Sy l<256 ^ l.length
 |[],_=>by simp [Sy]
 |b::r,h=>by
  have h1:=h b (by simp)
  have h2:=Uj (l:=r) fun x hx=>h x (by simp [hx])
  have h3:(256:Int) ^ (b::r).length=256 ^ r.length*256:=by rw [Jd,Int.pow_succ]
  simp only [Sy];omega
theorem Zj:∀(l r:List Int),Sy (l++r)=Sy l+256 ^ l.length*Sy r
 |[],r=>by simp [Sy]
 |b::l,r=>by
  have ih:=Zj l r;simp only [List.cons_append,Sy,Jd,Int.pow_succ];rw [ih,Int.mul_add];have:(256:Int)*(256 ^ l.length*Sy r)=256 ^ l.length*256*Sy r:=by rw [←Int.mul_assoc,Int.mul_comm 256]
  omega
theorem UQ {a c:Int}(k b:Nat)(h0:0<=a)(h1:a<((2 ^ k:Nat):Int)) (hc:c=((b*2 ^ k:Nat):Int)) (h:a+c<=18446744073709551615):RD .u64 a c=a+c∧RD .u64 c a=a+c:=by
 obtain ⟨n,rfl⟩:=Int.eq_ofNat_of_zero_le h0;subst hc;have hn:n<2 ^ k:=by omega
 generalize hB:b*2 ^ k=m at h
 have e4:(BitVec.ofInt 64 (n:Int)).toNat=n:=by
  rw [BitVec.toNat_ofInt];omega
 have e5:(BitVec.ofInt 64 (m:Int)).toNat=m:=by
  rw [BitVec.toNat_ofInt];omega
 have e6:m ||| n=m+n:=by
  have:=Nat.shiftLeft_add_eq_or_of_lt hn b;rw [Nat.shiftLeft_eq,hB] at this;exact this.symm
 constructor
 ·show wrap .u64 ((BitVec.ofInt 64 (n:Int) ||| BitVec.ofInt 64 (m:Int)).toNat:Int)=_;rw [BitVec.toNat_or,e4,e5,Nat.or_comm,e6,Cq (by omega) (by omega)]
  omega
 ·show wrap .u64 ((BitVec.ofInt 64 (m:Int) ||| BitVec.ofInt 64 (n:Int)).toNat:Int)=_;rw [BitVec.toNat_or,e4,e5,e6,Cq (by omega) (by omega)]
  omega
theorem Acx {a k:Int}(h0:0<=a)(hk:0<=k)(hk':k<=64)(h:a*((2 ^ k.toNat:Nat):Int)<=18446744073709551615):Hc .u64 a k=a*((2 ^ k.toNat:Nat):Int):=by
 show wrap .u64 (a*2 ^ (min k.toNat IntKind.u64.bits))=_;have e:min k.toNat IntKind.u64.bits=k.toNat:=Nat.min_eq_left (by show k.toNat<=64;omega)
 have e2:(2:Int) ^ k.toNat=((2 ^ k.toNat:Nat):Int):=by simp
 rw [e,e2,Cq (Int.mul_nonneg h0 (Int.natCast_nonneg _)) h]
end
end Go.Proofs.YtdjihiphpgkfmaaGreatDoor.Pv
