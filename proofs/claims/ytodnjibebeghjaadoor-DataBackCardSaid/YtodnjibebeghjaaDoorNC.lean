/-
  The proof of DataBack, part 3.
-/
import Derived.Test.YtodnjibebeghjaaDoorNB
import Derived.StillTail
import Derived.WalkKit
import Derived.ProofKit
import Derived.OpenShut
import Derived.ShutString
import Derived.ChangeOld
import Derived.Below
import Derived.Deep.Slices
import Derived.ChangeSame
import Derived.WideKeyArgs
import Derived.Carry
import Derived.Test.YtodnjibebeghjaaDoorRows
set_option linter.unusedSimpArgs false
set_option linter.unusedVariables false
namespace Go.Proofs.YtodnjibebeghjaaDoor.Pv
section
section
variable {R R':Type} {Rel:Option R->Option R'->Prop}
theorem G4 (hn:Rel none none){k:IntKind}{p:PV}{K:Int->Option R}{K':Int->Option R'}(hK:∀n,Rel (K n) (K' n)):Rel (Ak k p K) (Ak k p K'):=by
 unfold Ak;split
 ·split<;>first|exact hK _|exact hn
 ·exact hn
theorem Dt (hn:Rel none none){p:PV}{K:IntKind->Int->Option R}{K':IntKind->Int->Option R'}(hK:∀k n,Rel (K k n) (K' k n)):Rel (Df p K) (Df p K'):=by
 unfold Df;split<;>first|exact hK _ _|exact hn
theorem Fx (hn:Rel none none){p:PV}{K:Bool->Option R}{K':Bool->Option R'}(hK:∀n,Rel (K n) (K' n)):Rel (Ao p K) (Ao p K'):=by
 unfold Ao;split<;>first|exact hK _|exact hn
theorem Ev (hn:Rel none none){p:PV}{K:ByteArray->Option R}{K':ByteArray->Option R'}(hK:∀n,Rel (K n) (K' n)):Rel (Az p K) (Az p K'):=by
 unfold Az;split<;>first|exact hK _|exact hn
theorem Ez (hn:Rel none none){es:Nat}{p:PV}{K:Bool->Nat->List PV->Option R}{K':Bool->Nat->List PV->Option R'}(hK:∀z n c,Rel (K z n c) (K' z n c)):Rel (Ke es p K) (Ke es p K'):=by
 unfold Ke;split
 ·rename_i es' _ _;cases Nat.beq es' es
  ·exact hn
  ·exact hK _ _ _
 ·exact hK _ _ _
 ·exact hn
theorem Ah9 (hn:Rel none none){es:Nat}{p:PV}{K:PV->Option R}{K':PV->Option R'}(hK:∀p,Rel (K p) (K' p)):Rel (fsK es p K) (fsK es p K'):=by
 unfold fsK;split
 ·rename_i es' _ _;cases Nat.beq es' es
  ·exact hn
  ·exact hK _
 ·exact Ez hn fun _ _ _=>hK _
theorem WY (hn:Rel none none){es:Nat}{p:PV}{K:Nat->List PV->Option R}{K':Nat->List PV->Option R'}(hK:∀n c,Rel (K n c) (K' n c)):Rel (FE es p K) (FE es p K'):=by
 unfold FE;split
 ·rename_i es' _ _;cases Nat.beq es' es
  ·exact hn
  ·exact hK _ _
 ·exact hn
theorem Aw (hn:Rel none none){b:Bool}{K:Option R}{K':Option R'}(hK:b=true->Rel K K'):Rel (Be b K) (Be b K'):=by
 cases b
 ·exact hn
 ·exact hK rfl
theorem Z3 {b:Bool}{x y:Option R}{x' y':Option R'}(hx:Rel x x')(hy:Rel y y'):Rel (Bf b x y) (Bf b x' y'):=by
 cases b
 ·exact hy
 ·exact hx
theorem Cx (hn:Rel none none){α:Type}{o:Option α}{K:α->Option R}{K':α->Option R'}(hK:∀a,o=some a->Rel (K a) (K' a)):Rel (Do o K) (Do o K'):=by
 cases o
 ·exact hn
 ·exact hK _ rfl
theorem Bg (hn:Rel none none){α:Type}{l:List α}{K:α->List α->Option R}{K':α->List α->Option R'}(hK:∀a r,l=a::r->Rel (K a r) (K' a r)):Rel (Aa l K) (Aa l K'):=by
 cases l
 ·exact hn
 ·exact hK _ _ rfl
theorem Em (hn:Rel none none){α:Type}{l:List α}{K:Option R}{K':Option R'}(hK:Rel K K'):Rel (Ad l K) (Ad l K'):=by
 cases l
 ·exact hK
 ·exact hn
theorem Hy (hn:Rel none none){p:PV}{K:List PV->Option R}{K':List PV->Option R'}(hK:∀c,p=.agg c->Rel (K c) (K' c)):Rel (E3 p K) (E3 p K'):=by
 unfold E3;split
 ·exact hK _ rfl
 ·exact hn
theorem Abu (hn:Rel none none){p:PV}{K:List PV->Option R}{K':List PV->Option R'}(hK:∀c,Rel (K c) (K' c)):Rel (Si p K) (Si p K'):=by
 unfold Si;split
 ·exact hK _
 ·exact hn
theorem IR (hn:Rel none none){r:Option Ay}{K:List PV->List (List PV)->Option R} {K':List PV->List (List PV)->Option R'} (hK:∀v o,Rel (K v o) (K' v o)):Rel (Ah r K) (Ah r K'):=by
 unfold Ah;split
 ·exact hK _ _
 ·exact hn
theorem YG (hn:Rel none none){p:PV}{K:Value->Option R}{K':Value->Option R'}(hK:∀v,Rel (K v) (K' v)):Rel (fnK p K) (fnK p K'):=by
 unfold fnK;split
 ·exact hK _
 ·exact hK _
 ·exact hn
theorem Aid (hn:Rel none none){p:PV}{K:FuncId->Option R}{K':FuncId->Option R'}(hK:∀v,Rel (K v) (K' v)):Rel (fvK p K) (fvK p K'):=by
 unfold fvK;split
 ·rename_i f a b;cases (a.isEmpty&&b.isEmpty)
  ·exact hn
  ·exact hK _
 ·exact hn
theorem L0 (hn:Rel none none){t:CT}{p:PV}{K:PV->Option R}{K':PV->Option R'}(hK:∀p,Rel (K p) (K' p)):Rel (Xg t p K) (Xg t p K'):=by
 unfold Xg;split
 ·exact G4 hn fun _=>hK _
 ·exact Fx hn fun _=>hK _
 ·exact Ev hn fun _=>hK _
 ·exact Ez hn fun _ _ _=>hK _
 ·exact YG hn fun _=>hK _
theorem Ahr (hn:Rel none none){t:CT}{p:PV}{K:PV->Option R}{K':PV->Option R'}(hK:∀p,Rel (K p) (K' p)):Rel (fcK t p K) (fcK t p K'):=by
 unfold fcK;split
 ·exact Ah9 hn hK
 ·exact L0 hn hK
theorem M0 (hn:Rel none none):∀{ts:List CT}{cells:List PV}{off:Nat}{K:List PV->Option R}{K':List PV->Option R'},(∀c,Rel (K c) (K' c))->Rel (Pb ts cells off K) (Pb ts cells off K')
 |[],_,_,_,_,hK=>hK _
 |_::_,_,_,_,_,hK=>L0 hn fun _=>M0 hn fun _=>hK _
theorem Kw (hn:Rel none none):∀{ts:List CT}{cells:List PV}{off:Nat}{K:List PV->Option R}{K':List PV->Option R'},(∀c,Rel (K c) (K' c))->Rel (Lr ts cells off K) (Lr ts cells off K')
 |[],_,_,_,_,hK=>hK _
 |_::_,_,_,_,_,hK=>Ahr hn fun _=>Kw hn fun _=>hK _
theorem Uq (hn:Rel none none){g:Bool}{cells:List PV}{K:PV->Option R}{K':PV->Option R'}(hK:∀p,Rel (K p) (K' p)):Rel (YF g cells K) (YF g cells K'):=by
 cases g
 ·exact Bg hn fun _ _ _=>Em hn (hK _)
 ·exact hK _
theorem WK (hn:Rel none none){P:Program}{t:TypeId}{v:Value}{K:PV->Option R}{K':PV->Option R'}(hK:∀p,Br p=[]->Rel (K p) (K' p)) (hK':∀c,Rel (K (.agg c)) (K' (.agg c))):Rel (cvK P t v K) (cvK P t v K'):=by
 unfold cvK;split
 ·exact Aw hn fun _=>M0 hn fun _=>hK' _
 ·split
  ·exact hK _ rfl
  ·exact hn
 ·exact hK _ rfl
theorem Ac9 (hn:Rel none none){op:BinOp}{x y:Int}{K:Bool->Option R}{K':Bool->Option R'}(hK:∀n,Rel (K n) (K' n)):Rel (Aic op x y K) (Aic op x y K'):=by
 unfold Aic;split<;>first|exact hK _|exact hn
theorem WE (hn:Rel none none){op:BinOp}{k:IntKind}{x y:Int}{K:PV->Option R}{K':PV->Option R'}(hK:∀n,Rel (K n) (K' n)):Rel (EC op k x y K) (EC op k x y K'):=by
 unfold EC;split<;>first|exact hK _|exact Aw hn fun _=>hK _|exact Ac9 hn fun _=>hK _
theorem UH (hn:Rel none none){op:BinOp}{x y:ByteArray}{K:PV->Option R}{K':PV->Option R'}(hK:∀n,Rel (K n) (K' n)):Rel (BD op x y K) (BD op x y K'):=by
 unfold BD;split<;>first|exact hK _|exact Aw hn fun _=>hK _|exact hn
theorem HU (hn:Rel none none){e:Bool}{p:PV}{K:PV->Option R}{K':PV->Option R'}(hK:∀n,Rel (K n) (K' n)):Rel (CS e p K) (CS e p K'):=by
 unfold CS;split<;>first|exact hK _|exact Z3 (hK _) (Z3 (hK _) (hK _))|exact Z3 (hK _) (hK _)|exact hn
theorem OW (hn:Rel none none):∀{ts:List CT}{ps qs:List PV}{K:Bool->Option R}{K':Bool->Option R'},(∀b,Rel (K b) (K' b))->Rel (Ji ts ps qs K) (Ji ts ps qs K'):=by
 intro ts
 induction ts with
 |nil=>
  intro ps qs K K' hK;cases ps<;>cases qs<;>first|exact hK _|exact hn
 |cons t ts ih=>
  intro ps qs K K' hK;cases ps with
  |nil=>cases t<;>cases qs<;>exact hn
  |cons p ps=>
   cases qs with
   |nil=>cases t<;>exact hn
   |cons q qs=>
    cases t
    ·exact G4 hn fun _=>G4 hn fun _=>ih fun _=>hK _
    ·exact Fx hn fun _=>Fx hn fun _=>ih fun _=>hK _
    ·exact Ev hn fun _=>Ev hn fun _=>ih fun _=>hK _
    ·exact hn
    ·exact hn
theorem Adl (hn:Rel none none){P:Program}{op:BinOp}{t:TypeId}{x y:PV}{K:PV->Option R}{K':PV->Option R'}(hK:∀p,Rel (K p) (K' p)):Rel (Acx P op t x y K) (Acx P op t x y K'):=by
 unfold Acx;split
 ·split
  ·exact G4 hn fun _=>Dt hn fun _ _=>Aw hn fun _=>hK _
  ·exact G4 hn fun _=>Dt hn fun _ _=>Aw hn fun _=>hK _
  ·exact G4 hn fun _=>G4 hn fun _=>WE hn hK
 ·exact Ev hn fun _=>Ev hn fun _=>UH hn hK
 ·split
  ·exact Fx hn fun _=>Fx hn fun _=>hK _
  ·exact Fx hn fun _=>Fx hn fun _=>hK _
  ·exact hn
 ·split
  ·exact HU hn fun _=>hK _
  ·exact HU hn fun _=>hK _
  ·exact hn
 ·split
  ·exact hK _
  ·exact hK _
  ·exact hn
 ·exact hn
theorem QB (hn:Rel none none){P:Program}{op:BinOp}{t:TypeId}{x y:PV}{K:PV->Option R}{K':PV->Option R'}(hK:∀p,Rel (K p) (K' p)):Rel (Rj P op t x y K) (Rj P op t x y K'):=by
 unfold Rj;split
 ·split
  ·exact Aw hn fun _=>Hy hn fun _ _=>Hy hn fun _ _=>OW hn fun _=>hK _
  ·exact Aw hn fun _=>Hy hn fun _ _=>Hy hn fun _ _=>OW hn fun _=>hK _
  ·exact hn
 ·exact Adl hn hK
theorem Ahs (hn:Rel none none){op:UnOp}{x:PV}{K:PV->Option R}{K':PV->Option R'}(hK:∀p,Rel (K p) (K' p)):Rel (unK op x K) (unK op x K'):=by
 unfold unK;split<;>first|exact Fx hn fun _=>hK _|exact Dt hn fun _ _=>hK _|exact hn
theorem Dr (hn:Rel none none){p:Option PV}{d:Nat}{K:Nat->Option R}{K':Nat->Option R'}(hK:∀n,Rel (K n) (K' n)):Rel (F2 p d K) (F2 p d K'):=by
 unfold F2;split
 ·exact hK _
 ·exact Dt hn fun _ _=>Aw hn fun _=>hK _
theorem Xy (hn:Rel none none){x:PV}{d:Nat}{K:PV->Option R}{K':PV->Option R'}(hK:∀n,Rel (K n) (K' n)):Rel (Qs x d K) (Qs x d K'):=by
 unfold Qs;split<;>first|exact hK _|exact hn
theorem DG (hn:Rel none none){P:Program}{t:TypeId}{x:PV}{i:Int}{K:PV->Option R}{K':PV->Option R'}(hK:∀p,Rel (K p) (K' p)):Rel (Ip P t x i K) (Ip P t x i K'):=by
 unfold Ip;split
 ·exact Aw hn fun _=>Aw hn fun _=>Xy hn hK
 ·refine Aw hn fun _=>?_
  split
  ·exact Aw hn fun _=>Aw hn fun _=>hK _
  ·exact Ez hn fun _ _ _=>Aw hn fun _=>hK _
 ·exact hn
theorem X4 (hn:Rel none none){F5:Nat->Option (Nat × Nat)}:∀{ps:List (Nat × PV)} {cells:List PV}{K:List PV->Option R}{K':List PV->Option R'},(∀c,Rel (K c) (K' c))->Rel (Pj F5 ps cells K) (Pj F5 ps cells K')
 |[],_,_,_,hK=>hK _
 |(_,_)::_,_,_,_,hK=>Cx hn fun _ _=>Aw hn fun _=>X4 hn hK
theorem Qp (hn:Rel none none){P:Program}{t:TypeId}{K:List PV->Option R}{K':List PV->Option R'}(hK:∀p,Rel (K p) (K' p)):Rel (F6 P t K) (F6 P t K'):=
 Cx hn fun _ _=>Aw hn fun _=>M0 hn hK
theorem Aga (hn:Rel none none){x y:PV}{K:PV->Option R}{K':PV->Option R'}(hK:∀p,Rel (K p) (K' p)):Rel (Aji x y K) (Aji x y K'):=
 Dt hn fun _ _=>G4 hn fun _=>hK _
theorem Ac0 (hn:Rel none none){x y:PV}{K:PV->Option R}{K':PV->Option R'}(hK:∀p,Rel (K p) (K' p)):Rel (Ai7 x y K) (Ai7 x y K'):=
 Dt hn fun _ _=>G4 hn fun _=>hK _
theorem Aeq (hn:Rel none none){P:Program}{t:TypeId}{x:PV}{K:Nat->Option R}{K':Nat->Option R'}(hK:∀p,Rel (K p) (K' p)):Rel (Abi P t x K) (Abi P t x K'):=by
 unfold Abi;split
 ·exact Ev hn fun _=>hK _
 ·exact hK _
 ·split
  ·exact Aw hn fun _=>hK _
  ·exact Ez hn fun _ _ _=>hK _
 ·exact hn
def MV (Rel:Option R->Option R'->Prop)(f f':Nat->Option (List PV)) (l:List Nat):Prop:=∀i∈l,f i=f' i∨(f i=none∧∀b,Rel none b)
variable {f f':Nat->Option (List PV)}
theorem MV.sub {l l':List Nat}(h:MV Rel f f' l)(hs:∀i∈l',i∈l):MV Rel f f' l':=fun i hi=>h i (hs i hi)
theorem Us (hn:Rel none none){l:List Nat}{id:Nat}(hf:MV Rel f f' l)(hi:id∈l){K:List PV->Option R}{K':List PV->Option R'}(hK:∀c,f id=some c->Rel (K c) (K' c)):Rel (Do (f id) K) (Do (f' id) K'):=by
 rcases hf id hi with h|⟨h,hb⟩
 ·rw[←h];exact Cx hn hK
 ·rw[h];exact hb _
theorem Na (hn:Rel none none){es:Nat}{p:PV}{K:Nat->List PV->Option R}{K':Nat->List PV->Option R'}(hf:MV Rel f f' (An p)) (hK:∀n c,Rel (K n c) (K' n c)):Rel (OY f es p K) (OY f' es p K'):=by
 unfold OY;split
 ·rename_i id es' off n;cases Nat.beq es' es
  ·exact hn
  ·exact Us hn hf (by simp[An]) fun _ _=>Aw hn fun _=>hK _ _
 ·exact Ez hn fun _ _ _=>hK _ _
theorem Agd (hn:Rel none none){t:CT}{p:PV}{K:PV->List Nat->Option R}{K':PV->List Nat->Option R'}(hf:MV Rel f f' (An p)) (hK:∀c m,(∀i∈m,f i≠none)->Rel (K c m) (K' c m)):Rel (Ls f t p K) (Ls f' t p K'):=by
 unfold Ls;split
 ·split
  ·rename_i id es' off n;cases Nat.beq es' _
   ·exact hn
   ·exact Us hn hf (by simp[An]) fun c hc=>Aw hn fun _=>hK _ _ (by simp[hc])
  ·exact Ez hn fun _ _ _=>hK _ _ (by simp)
 ·exact L0 hn fun _=>hK _ _ (by simp)
theorem Q9 (hn:Rel none none):∀{ts:List CT}{ps:List PV}{K:List PV->List Nat->Option R}{K':List PV->List Nat->Option R'},MV Rel f f' (ps.flatMap An)->(∀c m,(∀i∈m,f i≠none)->Rel (K c m) (K' c m))->Rel (Le f ts ps K) (Le f' ts ps K')
 |[],[],_,_,_,hK=>hK _ _ (by simp)
 |[],_::_,_,_,_,_=>hn
 |_::_,[],_,_,_,_=>hn
 |_::_,p::ps,_,_,hf,hK=>Agd hn (fun i hi=>hf i (by simp only[List.flatMap_cons,List.mem_append];exact .inl hi)) fun _ m hm=>Q9 hn (fun i hi=>hf i (by simp only[List.flatMap_cons,List.mem_append];exact .inr hi)) fun _ ms CL=>hK _ _ fun i hi=>by
   rcases List.mem_append.1 hi with h|h
   ·exact hm i h
   ·exact CL i h
theorem Afd (hn:Rel none none){P:Program}{t:TypeId}{p:PV}{K:PV->List Nat->Option R}{K':PV->List Nat->Option R'}(hf:MV Rel f f' (B8 p)) (hK:∀c m,(∀i∈m,f i≠none)->Rel (K c m) (K' c m)):Rel (WD P f t p K) (WD P f' t p K'):=by
 unfold WD
 have h1:∀i,i∈[p].flatMap An->i∈B8 p:=by
  intro i hi;simp only[List.flatMap_cons,List.flatMap_nil,List.append_nil] at hi;cases p<;>first|exact hi|simp[An] at hi
 cases B4 P t
 ·exact Q9 hn (fun i hi=>hf i (h1 i hi)) fun _ _ hm=>Bg hn fun _ _ _=>Em hn (hK _ _ hm)
 ·refine Hy hn fun c hc=>?_
  subst hc;exact Q9 hn (fun i hi=>hf i hi) fun _ _ hm=>hK _ _ hm
theorem HI (hn:Rel none none){P:Program}:∀{ts:List TypeId}{ps:List PV}{K:List PV->List Nat->Option R}{K':List PV->List Nat->Option R'},MV Rel f f' (ps.flatMap B8)->(∀c m,(∀i∈m,f i≠none)->Rel (K c m) (K' c m))->Rel (DQ P f ts ps K) (DQ P f' ts ps K')
 |[],[],_,_,_,hK=>hK _ _ (by simp)
 |[],_::_,_,_,_,_=>hn
 |_::_,[],_,_,_,_=>hn
 |_::_,p::ps,_,_,hf,hK=>Afd hn (fun i hi=>hf i (by simp only[List.flatMap_cons,List.mem_append];exact .inl hi)) fun _ m hm=>HI hn (fun i hi=>hf i (by simp only[List.flatMap_cons,List.mem_append];exact .inr hi)) fun _ ms CL=>hK _ _ fun i hi=>by
   rcases List.mem_append.1 hi with h|h
   ·exact hm i h
   ·exact CL i h
theorem TC (hn:Rel none none){P:Program}{t:TypeId}{x:PV}{lo hi:Option PV}{K:PV->Option R}{K':PV->Option R'}(hf:(∃n e,P.underlying t=some (.array n e))->MV Rel f f' (An x)) (hK:∀c,Rel (K c) (K' c)):Rel (Ya P f t x lo hi K) (Ya P f' t x lo hi K'):=by
 unfold Ya;split
 ·exact Ev hn fun _=>Dr hn fun _=>Dr hn fun _=>Aw hn fun _=>hK _
 ·refine Aw hn fun _=>?_
  split
  ·exact Aw hn fun _=>Dr hn fun _=>Dr hn fun _=>Aw hn fun _=>hK _
  ·exact Ez hn fun _ _ _=>Dr hn fun _=>Dr hn fun _=>Aw hn fun _=>hK _
 ·rename_i n e hu;refine Aw hn fun _=>?_
  split
  ·rename_i id off;exact Us hn (hf ⟨_,_,hu⟩) (by simp[An]) fun _ _=>Aw hn fun _=>Dr hn fun _=>Dr hn fun _=>Aw hn fun _=>hK _
  ·exact hn
 ·exact hn
theorem NZ (hn:Rel none none){P:Program}{d:Nat}{t:TypeId}{x:PV}{lo hi mx:Option PV}{K:PV->List (Nat × Bl)->Option R} {K':PV->List (Nat × Bl)->Option R'} (hK:∀c,Rel (K c [(d,.ar false [])]) (K' c [(d,.ar false [])])):Rel (Rh P d t x lo hi mx K) (Rh P d t x lo hi mx K'):=by
 unfold Rh;split
 ·refine Aw hn fun _=>?_
  split
  ·exact Aw hn fun _=>Dr hn fun _=>Dr hn fun _=>Dr hn fun _=>Aw hn fun _=>hK _
  ·exact Ez hn fun _ _ _=>Dr hn fun _=>Dr hn fun _=>Dr hn fun _=>Aw hn fun _=>hK _
 ·exact hn
theorem HX {nz:Bool}{g g':Nat->Option (List PV)} (hn:Rel none none){P:Program}{t:TypeId}{x:PV}{K:PV->Option R}{K':PV->Option R'}(hf:∀i∈An x,(f i=f' i∧g i=g' i)∨(f i=none∧g i=none∧∀b,Rel none b)) (hK:∀c,Rel (K c) (K' c)):Rel (Vh nz P f g t x K) (Vh nz P f' g' t x K'):=by
 unfold Vh;split
 ·rename_i id off;refine Aw hn fun _=>?_
  rcases hf id (by simp[An]) with⟨h1,h2⟩|⟨h1,h2,h3⟩
  ·rw[←h1,←h2];split
   ·exact M0 hn fun _=>Uq hn fun _=>hK _
   ·exact Cx hn fun _ _=>Kw hn fun _=>Uq hn hK
  ·rw[h1,h2];exact h3 _
 ·exact Aw hn fun _=>M0 hn fun _=>Uq hn fun _=>hK _
 ·exact hn
theorem Aad (hn:Rel none none){P:Program}{d:Nat}{src dst:TypeId}{x:PV}{K:PV->List (Nat × Bl)->Option R} {K':PV->List (Nat × Bl)->Option R'} (hf:P.underlying dst=some .string->MV Rel f f' (An x)) (hK:∀v b,(∀q∈b,q.1=d)->Rel (K v b) (K' v b)):Rel (DJ P f d src dst x K) (DJ P f' d src dst x K'):=by
 unfold DJ;split
 ·exact Aw hn fun _=>Dt hn fun _ _=>hK _ _ (by simp)
 ·rename_i hds;split
  ·exact Ev hn fun _=>hK _ _ (by simp)
  ·split
   ·exact Na hn (hf hds) fun _ _=>Aw hn fun _=>Cx hn fun _ _=>hK _ _ (by simp)
   ·exact Na hn (hf hds) fun _ _=>Aw hn fun _=>Cx hn fun _ _=>hK _ _ (by simp)
   ·exact hn
  ·exact hn
 ·split
  ·exact Ev hn fun _=>Aw hn fun _=>hK _ _ (by simp)
  ·exact hn
 ·exact hn
theorem Agj (hn:Rel none none){shr:Bool}{id:Nat}{t:CT}{p:PV}{K:PV->List (Nat × Bl)->Option R} {K':PV->List (Nat × Bl)->Option R'} (hK:∀c b,(∀q∈b,q.1=id)->Rel (K c b) (K' c b)):Rel (Afx shr id t p K) (Afx shr id t p K'):=by
 unfold Afx;split
 ·cases shr
  ·exact WY hn fun _ _=>hK _ _ (by simp)
  ·exact Ez hn fun _ _ _=>hK _ _ (by simp)
 ·exact L0 hn fun _=>hK _ _ (by simp)
theorem Re (hn:Rel none none){shr:Bool}{N:Nat}:∀{ts:List CT}{id:Nat}{ps:List PV}{K:List PV->List (Nat × Bl)->Option R} {K':List PV->List (Nat × Bl)->Option R'},(∀c b,(∀q∈b,∃j,q.1=id+N*j)->Rel (K c b) (K' c b))->Rel (Nr shr N id ts ps K) (Nr shr N id ts ps K')
 |[],_,_,_,_,hK=>Em hn (hK _ _ (by simp))
 |_::_,id,_,_,_,hK=>Bg hn fun _ _ _=>Agj hn fun _ b hb=>Re hn fun _ bs FQ=>hK _ _ fun q hq=>by
   rcases List.mem_append.1 hq with h|h
   ·exact⟨0,by rw[hb q h];simp⟩
   ·obtain⟨j,hj⟩:=FQ q h;exact⟨j+1,by rw[hj,Nat.mul_add];omega⟩
theorem Adu (hn:Rel none none){P:Program}{shr:Bool}{N id:Nat}{t:TypeId}{p:PV}{K:PV->List (Nat × Bl)->Option R} {K':PV->List (Nat × Bl)->Option R'} (hK:∀c b,(∀q∈b,∃j,q.1=id+N*j)->Rel (K c b) (K' c b)):Rel (ZW P shr N id t p K) (ZW P shr N id t p K'):=by
 unfold ZW;split
 ·refine Abu hn fun ps=>Re hn fun _ _ hb=>hK _ _ fun q hq=>?_
  rcases List.mem_cons.1 hq with rfl|hq
  ·exact⟨0,by simp⟩
  ·obtain⟨j,hj⟩:=hb q hq;exact⟨j+1,by rw[hj,Nat.mul_add];omega⟩
 cases B4 P t
 ·exact Re hn fun _ _ hb=>Bg hn fun _ _ _=>Em hn (hK _ _ hb)
 ·exact Hy hn fun _ _=>Re hn fun _ _ hb=>hK _ _ hb
theorem Wi (hn:Rel none none){P:Program}{shr:Bool}{N:Nat}:∀{ts:List TypeId}{id:Nat}{ps:List PV}{K:List PV->List (Nat × Bl)->Option R} {K':List PV->List (Nat × Bl)->Option R'},(∀c b,(∀q∈b,∃j,q.1=id+N*j)->Rel (K c b) (K' c b))->Rel (Yp P shr N id ts ps K) (Yp P shr N id ts ps K')
 |[],_,_,_,_,hK=>Em hn (hK _ _ (by simp))
 |t::_,id,_,_,_,hK=>Bg hn fun _ _ _=>Adu hn fun _ b hb=>Wi hn fun _ bs FQ=>hK _ _ fun q hq=>by
   rcases List.mem_append.1 hq with h|h
   ·exact hb q h
   ·obtain⟨j,hj⟩:=FQ q h;exact⟨OH P t+j,by rw[hj,Nat.mul_add];omega⟩
end
theorem Qr {p:PV}{i:Nat}(h:i∈An p):i∈B8 p:=by cases p<;>first|exact h|simp[An] at h
theorem E0 {p:PV}{i:Nat}(h:i∈B8 p):i∈Br p:=by cases p<;>first|exact h|simp[B8,An] at h
theorem Iq {p:PV}{i:Nat}(h:i∈An p):i∈Br p:=E0 (Qr h)
section
variable {R R':Type} {Rel:Option R->Option R'->Prop} {P:Program} {N:Nat} {tm tm':Nat->PV} {f f' g g':Nat->Option (List PV)} {o:Oper}
theorem DC (hn:Rel none none){t:TypeId}{x:Operand}{K:PV->Option R}{K':PV->Option R'}(hx:Bz tm x=Bz tm' x)(hK:∀p,Rel (K p) (K' p)):Rel (Xt P t tm x K) (Xt P t tm' x K'):=by
 unfold Xt;split
 ·exact WK hn (fun _ _=>hK _) (fun _=>hK _)
 ·rw[hx];exact hK _
theorem Ac1 (hn:Rel none none){t:CT}{p:PV}{K:PV->Option R}{K':PV->Option R'}(hK:∀p,An p=[]->Rel (K p) (K' p)):Rel (Xg t p K) (Xg t p K'):=by
 unfold Xg;split
 ·exact G4 hn fun _=>hK _ rfl
 ·exact Fx hn fun _=>hK _ rfl
 ·exact Ev hn fun _=>hK _ rfl
 ·exact Ez hn fun _ _ _=>hK _ rfl
 ·exact YG hn fun _=>hK _ rfl
theorem IQ (hn:Rel none none):∀{ts:List CT}{cells:List PV}{off:Nat}{K:List PV->Option R}{K':List PV->Option R'},(∀c,(∀p∈c,An p=[])->Rel (K c) (K' c))->Rel (Pb ts cells off K) (Pb ts cells off K')
 |[],_,_,_,_,hK=>hK _ (by simp)
 |_::_,_,_,_,_,hK=>Ac1 hn fun c hc=>IQ hn fun cs AE=>hK _ (by
   intro p hp;rcases List.mem_cons.1 hp with h|h
   ·rw[h];exact hc
   ·exact AE p h)
theorem Ux (hn:Rel none none){t:TypeId}{K:List PV->Option R}{K':List PV->Option R'}(hK:∀c,(∀p∈c,An p=[])->Rel (K c) (K' c)):Rel (F6 P t K) (F6 P t K'):=
 Cx hn fun _ _=>Aw hn fun _=>IQ hn hK
theorem Pt {p c:PV}(h:c∈cellsOf p){i:Nat}(hi:i∈An c):i∈B8 p:=by
 unfold cellsOf at h;split at h
 ·exact List.mem_flatMap.2 ⟨c,h,hi⟩
 ·simp at h;subst h;exact Qr hi
theorem TZ {cells new:List PV}{off:Nat}{c:PV}(h:c∈Ca cells new off):c∈cells∨c∈new:=by
 unfold Ca at h;rcases List.mem_append.1 h with h|h
 ·rcases List.mem_append.1 h with h|h
  ·exact .inl (List.mem_of_mem_take h)
  ·exact .inr h
 ·exact .inl (List.mem_of_mem_drop h)
theorem BK (hn:Rel none none){F5:Nat->Option (Nat × Nat)} {S:Nat->Prop}:∀{ps:List (Nat × PV)} {cells:List PV}{K:List PV->Option R}{K':List PV->Option R'},(∀c∈cells,∀i∈An c,S i)->(∀q∈ps,∀i∈B8 q.2,S i) ->
  (∀cs,(∀c∈cs,∀i∈An c,S i)->Rel (K cs) (K' cs))->Rel (Pj F5 ps cells K) (Pj F5 ps cells K')
 |[],_,_,_,h1,_,hK=>hK _ h1
 |(_,p)::_,_,_,_,h1,h2,hK=>Cx hn fun _ _=>Aw hn fun _=>BK hn (fun c hc i hi=>by
   rcases TZ hc with h|h
   ·exact h1 c h i hi
   ·exact h2 (_,p) List.mem_cons_self i (Pt h hi)) (fun q hq=>h2 q (List.mem_cons_of_mem _ hq)) hK
theorem Yw (hn:Rel none none):∀{ts:List CT}{ps:List PV}{K:List PV->List Nat->Option R}{K':List PV->List Nat->Option R'},(∀t∈ts,∀es,t ≠ .sl es)->(∀c,Rel (K c []) (K' c []))->Rel (Le g ts ps K) (Le g' ts ps K')
 |[],[],_,_,_,hK=>hK _
 |[],_::_,_,_,_,_=>hn
 |_::_,[],_,_,_,_=>hn
 |t::ts,p::ps,K,K',ht,hK=>by
  show Rel (Ls g t p _) (Ls g' t p _)
  have:∀{g:Nat->Option (List PV)} {S:Type} {L:PV->List Nat->Option S},Ls g t p L=Xg t p fun c=>L c []:=by
   intro g S L;cases t with
   |sl es=>exact absurd rfl (ht _ (by simp) es)
   |_=>rfl
  rw[this,this];exact L0 hn fun c=>Yw hn (fun t h=>ht t (by simp[h])) fun cs=>hK _
theorem Afz (hn:Rel none none){es:Nat}{t:TypeId}{x:PV}{K:Nat->List PV->Option R}{K':Nat->List PV->Option R'}(hx:MV Rel g g' (An x)) (hK:∀m c,Rel (K m c) (K' m c)):Rel (VA P g es t x K) (VA P g' es t x K'):=by
 unfold VA;split
 ·exact Aw hn fun _=>Ev hn fun _=>hK _ _
 ·exact Na hn hx hK
 ·exact hn
theorem Aes (hn:Rel none none){t:TypeId}{x:PV}{K:Nat->Option R}{K':Nat->Option R'}(hK:∀n,Rel (K n) (K' n)):Rel (Aba P t x K) (Aba P t x K'):=by
 unfold Aba;split
 ·exact Ez hn fun _ _ _=>Aw hn fun _=>hK _
 ·exact hn
theorem PW (hn:Rel none none){d:Nat}{t tx:TypeId}{x:PV}{K:PV->List (Nat × Bl)->Option R} {K':PV->List (Nat × Bl)->Option R'} (hx:MV Rel g g' (An x)) (hK:∀v nw,Rel (K v nw) (K' v nw)):Rel (Qy P g d t tx x K) (Qy P g' d t tx x K'):=by
 unfold Qy;split
 ·exact Aw hn fun _=>Afz hn hx fun _ _=>Aw hn fun _=>hK _ _
 ·exact hn
theorem BZ (hn:Rel none none){C:F4}{call:Ax}{K:PV->List Nat->List (Nat × Bl)->Option R} {K':PV->List Nat->List (Nat × Bl)->Option R'}
  (H4:∀x∈o.op.operands.toList,Bz tm x=Bz tm' x)
  (hfg:Gl P o.op=true->∀x∈o.op.operands.toList,∀i∈Br (Bz tm' x),(f i=f' i∧g i=g' i)∨(f i=none∧g i=none∧∀b,Rel none b))
  (hK:∀v fz nw,(Gl P o.op=false->fz=[]∧∀q∈nw,o.dst=some q.1)->(∀i∈fz,g i≠none)->Rel (K v fz nw) (K' v fz nw)):
  Rel (DP C P N call tm f g o K) (DP C P N call tm' f' g' o K'):=by
 have h0:∀v,Rel (K v [] []) (K' v [] []):=fun v=>hK v [] [] (fun _=>⟨rfl,by simp⟩) (by simp)
 have hf:Gl P o.op=true->∀x∈o.op.operands.toList,MV Rel f f' (Br (Bz tm' x)):=fun h x hx i hi=>(hfg h x hx i hi).imp (·.1) fun h=>⟨h.1,h.2.2⟩
 have hg:Gl P o.op=true->∀x∈o.op.operands.toList,MV Rel g g' (Br (Bz tm' x)):=fun h x hx i hi=>(hfg h x hx i hi).imp (·.2) fun h=>⟨h.2.1,h.2.2⟩
 unfold DP;generalize hop:o.op=op at *
 split
 ·exact DC hn (H4 _ (by simp[Op.operands])) h0
 ·exact DC hn (H4 _ (by simp[Op.operands])) h0
 ·rename_i c x y;rw[H4 c (by simp[Op.operands]),H4 x (by simp[Op.operands]),H4 y (by simp[Op.operands])]
  exact Fx hn fun _=>Z3 (h0 _) (h0 _)
 ·exact Cx hn fun d hd=>Qp hn fun _=>hK _ _ _ (fun _=>⟨rfl,by simp[hd]⟩) (by simp)
 ·rename_i t x;rw[H4 x (by simp[Op.operands])]
  refine Cx hn fun d hd=>Aw hn fun _=>?_
  cases Pk P t
  ·exact Kw hn fun _=>hK _ _ _ (fun _=>⟨rfl,by simp[hd]⟩) (by simp)
  ·exact M0 hn fun _=>hK _ _ _ (fun _=>⟨rfl,by simp[hd]⟩) (by simp)
 ·rename_i t ps
  have:(ps.toList.map fun q=>(q.1,Bz tm q.2))=ps.toList.map fun q=>(q.1,Bz tm' q.2):=by
   apply List.map_congr_left;intro q hq;rw[H4 q.2 (by simp only[Op.operands];exact List.mem_map_of_mem hq)]
  rw[this];exact Aw hn fun _=>Qp hn fun _=>X4 hn fun _=>Kw hn fun _=>h0 _
 ·rename_i t n ps
  have:(ps.toList.map fun q=>(q.1,Bz tm q.2))=ps.toList.map fun q=>(q.1,Bz tm' q.2):=by
   apply List.map_congr_left;intro q hq;rw[H4 q.2 (by simp only[Op.operands];exact List.mem_map_of_mem hq)]
  rw[this];refine Cx hn fun d hd=>?_
  split
  ·rename_i e hu;cases OG:H3 P [e]
   ·refine Aw hn fun _=>Ux hn fun z hz=>X4 hn fun cs=>Yw hn ?_ fun cs'=>hK _ _ _ (fun _=>⟨rfl,by simp[hd]⟩) (by simp)
    intro c hc es he;obtain⟨l,hl,hc⟩:=List.mem_flatten.1 hc;rw[List.eq_of_mem_replicate hl] at hc;subst he
    have:H3 P [e]=true:=by
     unfold H3;simp only[List.any_cons,List.any_nil,Bool.or_false,Bool.or_eq_true];exact .inr (List.any_eq_true.2 ⟨_,hc,rfl⟩)
    rw[this] at OG;cases OG
   refine Aw hn fun _=>Ux hn fun z hz=>BK (S:=fun i=>∃x∈(Op.buildSlice t n ps).operands.toList,i∈Br (Bz tm' x)) hn ?_ ?_ fun cs AE=>?_
   ·intro c hc i hi;obtain⟨l,hl,hc⟩:=List.mem_flatten.1 hc;rw[List.eq_of_mem_replicate hl] at hc;rw[hz c hc] at hi;simp at hi
   ·intro q hq i hi;obtain⟨q',E2,rfl⟩:=List.mem_map.1 hq;exact⟨q'.2,by simp only[Op.operands];exact List.mem_map_of_mem E2,E0 hi⟩
   ·refine Q9 hn (fun i hi=>?_) fun cs' m hm=>hK _ _ _ (fun h=>by simp[Gl,hu,OG] at h) hm
    obtain⟨c,hc,hi⟩:=List.mem_flatMap.1 hi;obtain⟨x,hx,hxi⟩:=AE c hc i hi;exact hg (by simp[Gl,hu,OG]) x hx i hxi
  ·exact hn
 ·rename_i t x;rw[H4 x (by simp[Op.operands])]
  exact HX hn (fun i hi=>hfg (by simp[Gl]) x (by simp[Op.operands]) i (Iq hi)) h0
 ·rename_i x;rw[H4 x (by simp[Op.operands])]
  exact Xy hn h0
 ·rename_i op' t x y _;rw[H4 x (by simp[Op.operands]),H4 y (by simp[Op.operands])]
  exact QB hn h0
 ·rename_i op' t x;rw[H4 x (by simp[Op.operands])]
  exact Ahs hn h0
 ·rename_i src dst x;rw[H4 x (by simp[Op.operands])]
  exact Aad hn (fun hds i hi=>hg (by simp[Gl,hds]) x (by simp[Op.operands]) i (Iq hi)) fun v b hb=>Cx hn fun d hd=>hK _ _ _ (fun _=>⟨rfl,fun q hq=>by rw[hd,hb q hq,hd];rfl⟩) (by simp)
 ·rename_i t x y;rw[H4 x (by simp[Op.operands]),H4 y (by simp[Op.operands])]
  refine Cx hn fun d hd=>?_
  split
  ·exact Dt hn fun _ _=>Dt hn fun _ _=>Aw hn fun _=>Qp hn fun _=>hK _ _ _ (fun _=>⟨rfl,by simp[hd]⟩) (by simp)
  ·exact hn
 ·rename_i t x lo hi mx;split
  ·rw[H4 x (by simp[Op.operands])]
   have h1:lo.map (Bz tm)=lo.map (Bz tm'):=by
    cases lo with
    |none=>rfl
    |some y=>simp only[Option.map_some];rw[H4 y (by simp[Op.operands])]
   have h2:hi.map (Bz tm)=hi.map (Bz tm'):=by
    cases hi with
    |none=>rfl
    |some y=>simp only[Option.map_some];rw[H4 y (by simp[Op.operands])]
   rw[h1,h2];exact TC hn (fun ⟨n,e,he⟩ i hi=>hf (by simp[Gl,he]) x (by simp[Op.operands]) i (Iq hi)) h0
  ·rename_i m;rw[H4 x (by simp[Op.operands])]
   have h1:lo.map (Bz tm)=lo.map (Bz tm'):=by
    cases lo with
    |none=>rfl
    |some y=>simp only[Option.map_some];rw[H4 y (by simp[Op.operands])]
   have h2:hi.map (Bz tm)=hi.map (Bz tm'):=by
    cases hi with
    |none=>rfl
    |some y=>simp only[Option.map_some];rw[H4 y (by simp[Op.operands])]
   rw[h1,h2,H4 m (by simp[Op.operands])]
   exact Cx hn fun d hd=>NZ hn fun c=>hK _ _ _ (fun _=>⟨rfl,by simp[hd]⟩) (by simp)
 ·rename_i t x fl;rw[H4 x (by simp[Op.operands])]
  exact Cx hn fun _ _=>Aw hn fun _=>Xy hn h0
 ·rename_i t x fl;rw[H4 x (by simp[Op.operands])]
  exact Cx hn fun _ _=>Aw hn fun _=>Hy hn fun _ _=>Kw hn fun _=>Uq hn h0
 ·rename_i t x i;rw[H4 x (by simp[Op.operands]),H4 i (by simp[Op.operands])]
  exact Dt hn fun _ _=>DG hn h0
 ·rename_i t x i;rw[H4 x (by simp[Op.operands]),H4 i (by simp[Op.operands])]
  refine Dt hn fun _ _=>?_
  split
  ·exact Ev hn fun _=>Aw hn fun _=>Cx hn fun _ _=>h0 _
  ·exact Hy hn fun _ _=>Aw hn fun _=>Kw hn fun _=>Uq hn h0
  ·exact hn
 ·rename_i t x k ok;rw[H4 x (by simp[Op.operands]),H4 k (by simp[Op.operands])]
  split
  ·refine Aw hn fun _=>?_
   split
   ·exact Ev hn fun _=>Cx hn fun _ _=>WK hn (fun _ _=>Aw hn fun _=>h0 _) (fun _=>Aw hn fun _=>h0 _)
   ·exact hn
  ·exact hn
 ·rename_i x i;rw[H4 x (by simp[Op.operands])]
  split
  ·exact Cx hn fun _ _=>h0 _
  ·exact hn
 ·rename_i c
  have Ij:∀x∈c.args.toList,x∈(Op.call c).operands.toList:=by
   intro x hx;simp only[Op.operands,Call.operands,Array.toList_append,List.mem_append];exact .inr hx
  have rc:∀fn,Gl P (.call c)=true->Rel (CN C P N call tm g o c fn K) (CN C P N call tm' g' o c fn K'):=by
   intro fn RO;unfold CN;have:c.args.toList.map (Bz tm)=c.args.toList.map (Bz tm'):=List.map_congr_left fun x hx=>H4 x (Ij x hx)
   rw[this];refine HI hn (fun i hi=>?_) fun vs m hm=>IR hn fun rv ro=>Em hn (Aw hn fun _=>Wi hn fun ws bs FQ=>Aw hn fun _=>hK _ _ _ (fun h=>by rw[RO] at h;cases h) (fun i hi=>?_))
   ·obtain⟨p,hp,hi⟩:=List.mem_flatMap.1 hi;obtain⟨x,hx,rfl⟩:=List.mem_map.1 hp;exact hg RO x (Ij x hx) i (E0 hi)
   ·have RP:i∈m:=by
     cases hq:H3 P (K0 P o.type)<;>rw[hq] at hi
     ·simp at hi
     ·exact hi
    exact hm i RP
  split
  ·refine Bg hn fun x _ hx=>Bg hn fun _ _ _=>?_
   rw[H4 x (Ij x (by rw[hx];simp))]
   exact Aeq hn fun _=>h0 _
  ·refine Bg hn fun x _ hx=>Bg hn fun _ _ _=>?_
   rw[H4 x (Ij x (by rw[hx];simp))]
   exact Aes hn fun _=>h0 _
  ·refine Bg hn fun x _ hx=>Bg hn fun y _ hy=>Em hn ?_
   subst hy;rw[H4 x (Ij x (by rw[hx];simp)),H4 y (Ij y (by rw[hx];simp))]
   exact Aga hn h0
  ·refine Bg hn fun x _ hx=>Bg hn fun y _ hy=>Em hn ?_
   subst hy;rw[H4 x (Ij x (by rw[hx];simp)),H4 y (Ij y (by rw[hx];simp))]
   exact Ac0 hn h0
  ·rename_i hc;have RO:Gl P (.call c)=true:=by simp[Gl,hc]
   refine Aw hn fun _=>Cx hn fun d hd=>Bg hn fun _ _ hb=>Bg hn fun x _ hx=>Em hn (Bg hn fun _ _ _=>Bg hn fun _ _ _=>?_)
   have hxm:x∈c.args.toList:=by rw[hb,hx];simp
   rw[H4 x (Ij x hxm)];exact PW hn (fun i hi=>hg RO x (Ij x hxm) i (Iq hi)) fun v nw=>hK _ _ _ (fun h=>by rw[RO] at h;cases h) (by simp)
  ·rename_i fn hc;have RO:Gl P (.call c)=true:=by simp[Gl,hc]
   exact rc fn RO
  ·rename_i t hc;have RO:Gl P (.call c)=true:=by simp[Gl,hc]
   have ht:=H4 (.tmp t) (by simp[Op.operands,Call.operands,hc])
   change tm t=tm' t at ht;rw[ht];exact Aid hn fun fn=>rc fn RO
  ·exact hn
 ·exact hn
variable {hp:Nat->Option Bl}
end
open Go.RowKit
abbrev Qb:=PV × List Nat × List (Nat × Bl)
def F3 (ops:Array Oper)(o:Oper)(tm:Nat->PV):Option Bool:=
 match o.guard with
 |none=>some true
 |some (j,want)=>
  match (ops[j]?).bind (·.dst) with
  |none=>none
  |some d=>
   match tm d with
   |.sc (.bool b)=>some (b==want)
   |.sc (.tuple _)=>some false
   |_=>none
section
variable {R:Type} {r:R} {C:F4} {P:Program} {N:Nat} {call:Ax} {ops:Array Oper} {o x:Oper} {s:St} {K:St->Option R}
theorem KB:De C P N call ops o s K=match F3 ops o s.tm with
  |none=>none
  |some true=>NK C P N call o s K
  |some false=>Be (Fk N o.dst) (K ⟨Bj s.tm o.dst (.sc undef),s.hp⟩):=by
 unfold De F3;cases o.guard with
 |none=>rfl
 |some q=>
  obtain⟨j,want⟩:=q;cases hd:(ops[j]?).bind (·.dst) with
  |none=>simp[hd]
  |some d=>
   simp only[hd];cases ht:s.tm d with
   |sc v=>
    cases v with
    |bool b=>
     cases b<;>cases want<;>simp only[Bf,cond_true,cond_false,Tq s.tm ht]<;>rfl
    |_=>rfl
   |_=>rfl
def Abn (C:F4)(P:Program)(N:Nat)(call:Ax)(o:Oper)(s:St):Option Qb:=
 DP C P N call s.tm (rd s.hp) (Hq s.hp) o fun v fz nw=>some (v,fz,nw)
theorem Aix {K:PV->List Nat->List (Nat × Bl)->Option R}:DP C P N call s.tm (rd s.hp) (Hq s.hp) o K=(Abn C P N call o s).bind fun q=>K q.1 q.2.1 q.2.2:=by
 refine BZ (Rel:=fun (a:Option R) (b:Option Qb)=>a=b.bind fun q=>K q.1 q.2.1 q.2.2) (K:=K) (K':=fun v fz nw=>some (v,fz,nw)) rfl (fun _ _=>rfl) (fun _ _ _ _ _=>.inl ⟨rfl,rfl⟩) fun v fz nw _ _=>rfl
theorem SY {q:Qb}(h:Abn C P N call o s=some q):(Gl P o.op=false->q.2.1=[]∧∀p∈q.2.2,o.dst=some p.1)∧∀i∈q.2.1,Hq s.hp i≠none:=by
 have:=BZ (C:=C) (P:=P) (N:=N) (call:=call) (o:=o) (tm:=s.tm) (tm':=s.tm) (f:=rd s.hp) (f':=rd s.hp) (g:=Hq s.hp) (g':=Hq s.hp)
  (Rel:=fun (a:Option Qb)(_:Option Qb)=>∀q,a=some q->(Gl P o.op=false->q.2.1=[]∧∀p∈q.2.2,o.dst=some p.1)∧∀i∈q.2.1,Hq s.hp i≠none)
  (K:=fun v fz nw=>some (v,fz,nw)) (K':=fun v fz nw=>some (v,fz,nw)) (fun _ h=>by cases h) (fun _ _=>rfl) (fun _ _ _ _ _=>.inl ⟨rfl,rfl⟩) (fun v fz nw h1 h2 q hq=>by cases hq;exact⟨h1,h2⟩)
 exact this q h
def gE (C:F4)(P:Program)(N:Nat)(call:Ax)(ops:Array Oper)(o:Oper)(s:St):Option Qb:=
 match F3 ops o s.tm with
 |none=>none
 |some true=>bif On C P o.op then none else Abn C P N call o s
 |some false=>some (.sc undef,[],[])
def Fy (C:F4)(P:Program)(ops:Array Oper)(o:Oper)(tm:Nat->PV):Bool:=On C P o.op&&(F3 ops o tm==some true)
theorem Iv (h:Fy C P ops o s.tm=false):De C P N call ops o s K=(gE C P N call ops o s).bind fun q=>Xl N s o.dst q.1 q.2.1 q.2.2 K:=by
 rw[KB];unfold gE;unfold Fy at h;cases hv:F3 ops o s.tm with
 |none=>rfl
 |some b=>
  rw[hv] at h;cases b with
  |false=>
   show Be _ _=Xl N s o.dst (.sc undef) [] [] K;unfold Xl;have h1:Bo s.hp []=true:=rfl;have h2:Ap (Af s.hp []) []=s.hp:=rfl;rw[h1,h2,Bool.and_true]
  |true=>
   have hm:On C P o.op=false:=by simpa using h
   simp only[NK,hm,cond_false];exact Aix
theorem G7 (h:Fy C P ops o s.tm=true):De C P N call ops o s K=Rx C P N call s o K:=by
 rw[KB];unfold Fy at h;simp only[Bool.and_eq_true,beq_iff_eq] at h;rw[h.2];simp only[NK,h.1,cond_true]
theorem Qt {q:Qb}(h:gE C P N call ops o s=some q):(Gl P o.op=false->q.2.1=[]∧∀p∈q.2.2,o.dst=some p.1)∧∀i∈q.2.1,Hq s.hp i≠none:=by
 unfold gE at h;split at h
 ·cases h
 ·cases hm:On C P o.op<;>rw[hm] at h
  ·exact SY h
  ·cases h
 ·cases h;exact⟨fun _=>⟨rfl,by simp⟩,by simp⟩
theorem Eu {tm tm':Nat->PV}(h:∀t∈looks ops o,tm t=tm' t):∀y∈o.op.operands.toList,Bz tm y=Bz tm' y:=by
 intro y hy;cases y with
 |tmp t=>
  refine h t ?_;unfold looks Age;refine List.mem_append.2 (.inl (List.mem_filterMap.2 ⟨.tmp t,hy,rfl⟩))
 |const v=>cases v<;>rfl
 |func f=>rfl
 |«global» g=>rfl
theorem Iw {tm tm':Nat->PV}(h:∀t∈looks ops o,tm t=tm' t):F3 ops o tm=F3 ops o tm':=by
 unfold F3;cases hg:o.guard with
 |none=>rfl
 |some q=>
  obtain⟨j,want⟩:=q;cases hd:(ops[j]?).bind (·.dst) with
  |none=>simp[hd]
  |some d=>
   have:tm d=tm' d:=h d (by
    unfold looks;rw[hg];refine List.mem_append.2 (.inr ?_);simp only[hd];simp)
   simp only[hd,this]
theorem T9 {s':St}{q:Qb}(ht:∀t∈looks ops o,s.tm t=s'.tm t)
  (hm:Gl P o.op=true->∀y∈o.op.operands.toList,∀i∈Br (Bz s'.tm y),(rd s.hp i=rd s'.hp i∧Hq s.hp i=Hq s'.hp i)∨(rd s.hp i=none∧Hq s.hp i=none))
  (h:gE C P N call ops o s=some q):gE C P N call ops o s'=some q:=by
 unfold gE at h ⊢;rw[←Iw ht];split at h
 ·cases h
 ·cases hM:On C P o.op<;>rw[hM] at h
  ·have:=BZ (C:=C) (P:=P) (N:=N) (call:=call) (o:=o) (tm:=s.tm) (tm':=s'.tm) (f:=rd s.hp) (f':=rd s'.hp) (g:=Hq s.hp) (g':=Hq s'.hp)
    (Rel:=fun (a b:Option Qb)=>a=some q->b=some q)
    (K:=fun v fz nw=>some (v,fz,nw)) (K':=fun v fz nw=>some (v,fz,nw)) (fun h=>h) (Eu ht)
    (fun Ia y hy i hi=>(hm Ia y hy i hi).imp id fun h=>⟨h.1,h.2,fun _ h=>by cases h⟩) (fun v fz nw _ _ h=>h)
   exact this h
  ·cases h
 ·exact h
end
open Go.RowKit
theorem M9:∀{nw:List (Nat × Bl)} {hp Cn:Nat->Option Bl},Bo hp nw=true->(∀i b,(i,b)∈nw->Cn i=none)->Bo Cn nw=true
 |[],_,_,_,_=>rfl
 |(i,b)::nw,hp,Cn,h,h'=>by
  simp only[Bo,Bool.and_eq_true,Option.isNone_iff_eq_none] at h ⊢;exact⟨⟨h' i b (by simp),h.1.2⟩,M9 h.2 fun j c hj=>h' j c (by simp[hj])⟩
section
variable {hp:Nat->Option Bl} {fz:List Nat} {nw:List (Nat × Bl)}
theorem Fb (ha:Bo hp nw=true){i:Nat}(hi:hp i≠none):Ap (Af hp fz) nw i=if i∈fz then (hp i).map Qj else hp i:=by
 obtain⟨h1,h2⟩:=Bi ha;rw[(D2 h2).2 i (fun bx hb=>hi (h1 i bx hb)),Bv]
theorem Hj (ha:Bo hp nw=true){i:Nat}{b:Bl}(hi:(i,b)∈nw):Ap (Af hp fz) nw i=some b:=
 (D2 (Bi ha).2).1 i b hi
theorem Kv (ha:Bo hp nw=true){i:Nat}(hi:hp i=none)(hn:∀b,(i,b) ∉ nw):Ap (Af hp fz) nw i=none:=by
 rw[(D2 (Bi ha).2).2 i hn,Bv,hi];simp
theorem K4 (ha:Bo hp nw=true){i:Nat}(hi:hp i≠none):Ap (Af hp fz) nw i≠none:=by
 rw[Fb ha hi];cases h:hp i with
 |none=>exact absurd h hi
 |some b=>split<;>simp
theorem Ai4 (b:Option Bl):(match b.map Qj with|some (.st c)=>some c|some (.ar _ c)=>some c|_=>none)=(match b with|some (.st c)=>some c|some (.ar _ c)=>some c|_=>none):=by
 cases b with
 |none=>rfl
 |some b=>cases b<;>rfl
theorem Ado (b:Option Bl):(match b.map Qj with|some (.ar _ c)=>some c|_=>none)=(match b with|some (.ar _ c)=>some c|_=>none):=by
 cases b with
 |none=>rfl
 |some b=>cases b<;>rfl
theorem RK (ha:Bo hp nw=true){i:Nat}(hi:hp i≠none):rd (Ap (Af hp fz) nw) i=rd hp i:=by
 unfold rd;rw[Fb ha hi];by_cases h:i∈fz
 ·rw[if_pos h];exact Ai4 _
 ·rw[if_neg h]
theorem HA (ha:Bo hp nw=true){i:Nat}(hi:hp i≠none):Hq (Ap (Af hp fz) nw) i=Hq hp i:=by
 unfold Hq;rw[Fb ha hi];by_cases h:i∈fz
 ·rw[if_pos h];exact Ado _
 ·rw[if_neg h]
theorem XK {i:Nat}(hi:hp i=none):rd hp i=none:=by unfold rd;rw[hi]
theorem I5 {i:Nat}(hi:hp i=none):Hq hp i=none:=by unfold Hq;rw[hi]
theorem Arr (b:Option Bl):(b.map Qj).map Qj=b.map Qj:=by
 cases b with
 |none=>rfl
 |some b=>cases b<;>rfl
theorem UN {fx fo:List Nat}{nx no:List (Nat × Bl)} (hx:Bo hp nx=true)(ho:Bo (Ap (Af hp fx) nx) no=true) (QH:Bo hp no=true)
  (Qk:Bo (Ap (Af hp fo) no) nx=true) (h1:∀i∈fx,hp i≠none)(h2:∀i∈fo,hp i≠none):
  Ap (Af (Ap (Af hp fx) nx) fo) no=Ap (Af (Ap (Af hp fo) no) fx) nx:=by
 funext i
 by_cases hi:hp i=none
 ·by_cases LT:∃b,(i,b)∈no
  ·obtain⟨b,hb⟩:=LT
   have hnx:∀b',(i,b') ∉ nx:=fun b' Gy=>by
    have:=(Bi ho).1 i b hb;rw[Hj hx Gy] at this;cases this
   rw[Hj ho hb,Fb Qk (by rw[Hj QH hb];simp),Hj QH hb,if_neg (fun h=>h1 i h hi)]
  ·have LT:∀b,(i,b) ∉ no:=fun b hb=>LT ⟨b,hb⟩
   by_cases hnx:∃b,(i,b)∈nx
   ·obtain⟨b,hb⟩:=hnx;rw[Hj Qk hb,Fb ho (by rw[Hj hx hb];simp),Hj hx hb,if_neg (fun h=>h2 i h hi)]
   ·have hnx:∀b,(i,b) ∉ nx:=fun b hb=>hnx ⟨b,hb⟩
    rw[Kv ho (Kv hx hi hnx) LT,Kv Qk (Kv QH hi LT) hnx]
 ·rw[Fb ho (K4 hx hi),Fb hx hi,Fb Qk (K4 QH hi),Fb QH hi];split<;>split<;>first|rfl|rw[Arr]
end
section
variable {R:Type} {r:R} {C:F4} {P:Program} {N:Nat} {call:Ax} {ops:Array Oper} {o x:Oper} {s:St} {K:St->Option R}
structure Vm (C:F4) (P:Program) (ops:Array Oper) (x o:Oper):Prop where
 xo:∀d,x.dst=some d->d ∉ looks ops o
 ne:∀d,x.dst=some d->o.dst≠some d
 ox:∀d,o.dst=some d->d ∉ looks ops x
 mx:On C P x.op=true->Gl P o.op=false
 mo:On C P o.op=true->Gl P x.op=false
theorem Oo {l:List Nat}{d:Nat}(h:l.any (Nat.beq d)=false):d ∉ l:=by
 intro hm;have:l.any (Nat.beq d)=true:=List.any_eq_true.2 ⟨d,hm,Nat.beq_refl d⟩;rw[this] at h;cases h
theorem Adg (h:CZ C P ops x o=false):Vm C P ops x o:=by
 unfold CZ at h;simp only[Bool.or_eq_false_iff,Bool.and_eq_false_iff] at h;obtain⟨⟨⟨h1,h2⟩,h3⟩,h4⟩:=h;refine⟨fun d hd=>?_,fun d hd he=>?_,fun d hd=>?_,fun hm=>?_,fun hm=>?_⟩
 ·simp only[hd,Bool.or_eq_false_iff] at h1;exact Oo h1.1
 ·simp only[hd,he,Bool.or_eq_false_iff] at h1;rw[Nat.beq_refl] at h1;cases h1.2
 ·simp only[hd] at h2;exact Oo h2
 ·rw[hm] at h3;rcases h3 with h|h
  ·cases h
  ·exact h
 ·rw[hm] at h4;rcases h4 with h|h
  ·cases h
  ·exact h
theorem Ea {tm:Nat->PV}{d:Option Tmp}{v:PV}{l:List Nat}(h:∀i,d=some i->i ∉ l):∀t∈l,Bj tm d v t=tm t:=by
 intro t ht;cases d with
 |none=>rfl
 |some d=>exact Ai _ _ (by rintro rfl;exact h _ rfl ht)
theorem Ic {tm:Nat->PV}{d e:Option Tmp}{u v:PV}(h:∀i,d=some i->e≠some i):Bj (Bj tm d u) e v=Bj (Bj tm e v) d u:=by
 cases d with
 |none=>rfl
 |some d=>
  cases e with
  |none=>rfl
  |some e=>exact MZ _ _ _ (by rintro rfl;exact h _ rfl rfl)
def RS (C:F4)(P:Program)(o:Oper)(s:St):Prop:=(∀y∈o.op.operands.toList,∀i∈Br (Bz s.tm y),s.hp i≠none) ∧
 (On C P o.op=true->K2 o.op=false->∀y∈o.op.operands.toList,∀i∈Br (Bz s.tm y),∀c,s.hp i=some (.st c)->∀p∈c,∀k∈An p,s.hp k≠none)
theorem Gi {tm tm':Nat->PV}(h:∀t∈looks ops o,tm t=tm' t):Fy C P ops o tm=Fy C P ops o tm':=by
 unfold Fy;rw[Iw h]
theorem XE (hw:RS C P o s)(xo:∀d,x.dst=some d->d ∉ looks ops o)(ne:∀d,x.dst=some d->o.dst≠some d)(ox:∀d,o.dst=some d->d ∉ looks ops x)(hx:Fy C P ops x s.tm=false)(ho:Fy C P ops o s.tm=false)
  (h:De C P N call ops x s (fun s1=>De C P N call ops o s1 K)=some r):De C P N call ops o s (fun s1=>De C P N call ops x s1 K)=some r:=by
 rw[Iv hx] at h;cases ex:gE C P N call ops x s with
 |none=>rw[ex] at h;cases h
 |some q=>
 obtain⟨vx,fx,nx⟩:=q;rw[ex] at h;obtain⟨hb,h1⟩:=Al h;simp only[Bool.and_eq_true] at hb;have t1:∀t∈looks ops o,Bj s.tm x.dst vx t=s.tm t:=Ea xo;change De C P N call ops o ⟨Bj s.tm x.dst vx,Ap (Af s.hp fx) nx⟩ K=some r at h1;rw[Iv (by rw[Gi t1];exact ho)] at h1
 cases eo:gE C P N call ops o ⟨Bj s.tm x.dst vx,Ap (Af s.hp fx) nx⟩ with
 |none=>rw[eo] at h1;cases h1
 |some q=>
 obtain⟨vo,fo,no⟩:=q;rw[eo] at h1;obtain⟨hc,h2⟩:=Al h1;change K ⟨Bj (Bj s.tm x.dst vx) o.dst vo,Ap (Af (Ap (Af s.hp fx) nx) fo) no⟩=some r at h2;simp only[Bool.and_eq_true] at hc
 have eo':gE C P N call ops o s=some (vo,fo,no):=by
  refine T9 t1 (fun _ y hy i hi=>?_) eo
  have:=hw.1 y hy i hi;exact .inl ⟨RK hb.2 this,HA hb.2 this⟩
 have QH:Bo s.hp no=true:=M9 hc.2 fun i b hi=>by
  cases hs:s.hp i with
  |none=>rfl
  |some c=>exact absurd ((Bi hc.2).1 i b hi) (K4 hb.2 (by rw[hs];simp))
 rw[Iv ho,eo']
 have Qk:Bo (Ap (Af s.hp fo) no) nx=true:=M9 hb.2 fun i b hi=>by
  refine Kv QH ((Bi hb.2).1 i b hi) fun c Ob=>?_
  have:=(Bi hc.2).1 i c Ob;rw[Hj hb.2 hi] at this;cases this
 have t2:∀t∈looks ops x,s.tm t=Bj s.tm o.dst vo t:=fun t ht=>(Ea ox t ht).symm
 have ex':gE C P N call ops x ⟨Bj s.tm o.dst vo,Ap (Af s.hp fo) no⟩=some (vx,fx,nx):=by
  refine T9 t2 (fun _ y hy i hi=>?_) ex
  by_cases hs:s.hp i=none
  ·exact .inr ⟨XK hs,I5 hs⟩
  ·exact .inl ⟨(RK QH hs).symm,(HA QH hs).symm⟩
 show Be _ _=_;rw[hc.1,QH];show De C P N call ops x ⟨Bj s.tm o.dst vo,Ap (Af s.hp fo) no⟩ K=some r;rw[Iv (by rw[←Gi t2];exact hx),ex']
 show Be _ _=_;rw[hb.1,Qk];rw[←h2];have hfx:∀i∈fx,s.hp i≠none:=fun i hi hs=>(Qt ex).2 i hi (I5 hs)
 have hfo:∀i∈fo,s.hp i≠none:=fun i hi hs=>(Qt eo').2 i hi (I5 hs)
 show K ⟨Bj (Bj s.tm o.dst vo) x.dst vx,Ap (Af (Ap (Af s.hp fo) no) fx) nx⟩=K _;rw[Ic ne,UN hb.2 hc.2 QH Qk hfx hfo]
end
open Go.RowKit
theorem Ur {C:F4}{P:Program}{o:Op}(h:On C P o=true):Gl P o=true:=by
 unfold On at h;split at h
 ·rfl
 ·rename_i c;unfold Gl;simp only;split at h<;>rename_i hc
  ·rw[hc]
  ·rw[hc]
  ·cases h
  ·rw[hc]
  ·cases h
 ·cases h
structure FS (N:Nat) (S:Nat->Prop) (dst:Option Nat) (hp Cd Cn Er:Nat->Option Bl):Prop where
 keep:∀i,hp i≠none->Cn i≠none
 off:∀i,i<N->dst≠some i->(¬S i∨hp i=none)->Cn i=hp i∧Er i=Cd i
 same:∀i,hp i=Cd i->Cn i=Er i
 far:∀i,¬S i->hp i≠none->Cn i=hp i
section
variable {R R':Type} {Rel:Option R->Option R'->Prop} {P:Program} {N:Nat} {tm tm':Nat->PV} {hp Cd:Nat->Option Bl} {f f':Nat->Option (List PV)} {o:Oper}
theorem HK (hn:Rel none none){t:CT}{p:PV}{K:PV->List Nat->Option R}{K':PV->List Nat->Option R'}(hf:MV Rel f f' (An p)) (hK:∀c m,(∀i∈m,f i≠none∧i∈An p)->Rel (K c m) (K' c m)):Rel (Ls f t p K) (Ls f' t p K'):=by
 unfold Ls;split
 ·split
  ·rename_i id es' off n;cases Nat.beq es' _
   ·exact hn
   ·exact Us hn hf (by simp[An]) fun c hc=>Aw hn fun _=>hK _ _ (by simp[hc,An])
  ·exact Ez hn fun _ _ _=>hK _ _ (by simp)
 ·exact L0 hn fun _=>hK _ _ (by simp)
theorem CU (hn:Rel none none):∀{ts:List CT}{ps:List PV}{K:List PV->List Nat->Option R}{K':List PV->List Nat->Option R'},MV Rel f f' (ps.flatMap An)->(∀c m,(∀i∈m,f i≠none∧i∈ps.flatMap An)->Rel (K c m) (K' c m))->Rel (Le f ts ps K) (Le f' ts ps K')
 |[],[],_,_,_,hK=>hK _ _ (by simp)
 |[],_::_,_,_,_,_=>hn
 |_::_,[],_,_,_,_=>hn
 |_::_,p::ps,_,_,hf,hK=>HK hn (fun i hi=>hf i (by simp only[List.flatMap_cons,List.mem_append];exact .inl hi)) fun _ m hm=>CU hn (fun i hi=>hf i (by simp only[List.flatMap_cons,List.mem_append];exact .inr hi)) fun _ ms CL=>hK _ _ fun i hi=>by
   simp only[List.flatMap_cons,List.mem_append];rcases List.mem_append.1 hi with h|h
   ·exact⟨(hm i h).1,.inl (hm i h).2⟩
   ·exact⟨(CL i h).1,.inr (CL i h).2⟩
theorem Rd {S:Nat->Prop}{dst:Option Nat}{id:Nat}{b:Bl}{h0 h1:Nat->Option Bl}(hS:S id)(Bh:hp id≠none)(h:FS N S dst hp Cd h0 h1):FS N S dst hp Cd (Ch h0 id (some b)) (Ch h1 id (some b)):=by
 refine⟨fun i hi=>?_,fun i hN hd hi=>?_,fun i hi=>?_,fun i hn hi=>?_⟩
 ·by_cases e:i=id
  ·subst e;rw[Am];simp
  ·rw[Ai _ _ e];exact h.keep i hi
 ·have e:i≠id:=by
   rintro rfl
   rcases hi with hi|hi
   ·exact hi hS
   ·exact Bh hi
  rw[Ai _ _ e,Ai _ _ e];exact h.off i hN hd hi
 ·by_cases e:i=id
  ·subst e;rw[Am,Am]
  ·rw[Ai _ _ e,Ai _ _ e];exact h.same i hi
 ·rw[Ai _ _ (by rintro rfl;exact hn hS)];exact h.far i hn hi
theorem LJ {S:Nat->Prop}{d:Nat}{b:Bl}{h0 h1:Nat->Option Bl}(hz:hp d=none)(h:FS N S (some d) hp Cd h0 h1):FS N S (some d) hp Cd (Ch h0 d (some b)) (Ch h1 d (some b)):=by
 refine⟨fun i hi=>?_,fun i hN hd hi=>?_,fun i hi=>?_,fun i hn hi=>?_⟩
 ·by_cases e:i=d
  ·subst e;rw[Am];simp
  ·rw[Ai _ _ e];exact h.keep i hi
 ·have e:i≠d:=by rintro rfl;exact hd rfl
  rw[Ai _ _ e,Ai _ _ e];exact h.off i hN hd hi
 ·by_cases e:i=d
  ·subst e;rw[Am,Am]
  ·rw[Ai _ _ e,Ai _ _ e];exact h.same i hi
 ·rw[Ai _ _ (by rintro rfl;exact hi hz)];exact h.far i hn hi
theorem Qi (S:Nat->Prop)(dst:Option Nat):FS N S dst hp Cd hp Cd:=⟨fun _ h=>h,fun _ _ _ _=>⟨rfl,rfl⟩,fun _ h=>h,fun _ _ _=>rfl⟩
theorem TK {S:Nat->Prop}{dst:Option Nat}{m:List Nat}(hm:∀i∈m,hp i≠none∧S i):FS N S dst hp Cd (Af hp m) (Af Cd m):=by
 refine⟨fun i hi=>fun h=>hi (Du.1 h),fun i hN hd hi=>?_,fun i hi=>?_,fun i hn hi=>?_⟩
 ·have e:i ∉ m:=by
   intro h;rcases hi with hi|hi
   ·exact hi (hm i h).2
   ·exact (hm i h).1 hi
  rw[Bv,Bv,if_neg e,if_neg e];exact⟨rfl,rfl⟩
 ·rw[Bv,Bv,hi]
 ·rw[Bv,if_neg (fun h=>hn (hm i h).2)]
theorem KY {S:Nat->Prop}(h:∀i,S i->hp i=Cd i∨(hp i=none∧∀b,Rel none b)) {l:List Nat}(hl:∀i∈l,S i):MV Rel (Hq hp) (Hq Cd) l:=by
 intro i hi;rcases h i (hl i hi) with h|⟨h,h'⟩
 ·left;unfold Hq;rw[h]
 ·exact .inr ⟨I5 h,h'⟩
theorem PA (hn:Rel none none){t:TypeId}{a x:PV}{K:St->Option R}{K':St->Option R'}{S:Nat->Prop}(hS:∀i,S i->hp i=Cd i∨(hp i=none∧∀b,Rel none b)) (ha:∀i∈An a,S i)(hx:∀i∈B8 x,S i)
  (hK:∀Cn Er,FS N S none hp Cd Cn Er->Rel (K ⟨tm,Cn⟩) (K' ⟨tm',Er⟩)):Rel (Xk P ⟨tm,hp⟩ t a x K) (Xk P ⟨tm',Cd⟩ t a x K'):=by
 unfold Xk;split
 ·rename_i id off;show Rel (match hp id with|some (.st c)=>_|some (.ar false c)=>_|_=>none) (match Cd id with|some (.st c)=>_|some (.ar false c)=>_|_=>none)
  have Bh:S id:=ha id (by simp[An])
  rcases hS id Bh with h|⟨h,hb⟩
  ·rw[←h];split
   ·rename_i c hc;exact Aw hn fun _=>Kw hn fun _=>hK _ _ (Rd Bh (by rw[hc];simp) (Qi _ _))
   ·rename_i c hc;refine Aw hn fun _=>CU hn (KY hS fun i hi=>hx i ?_) fun _ m hm=>Aw hn fun _=>hK _ _ (Rd Bh (by rw[hc];simp) (TK fun i hi=>⟨fun h=>(hm i hi).1 (I5 h),hx i ?_⟩))
    ·obtain⟨c,hc,hi⟩:=List.mem_flatMap.1 hi;exact Pt hc hi
    ·obtain⟨c,hc,hi⟩:=List.mem_flatMap.1 (hm i hi).2;exact Pt hc hi
   ·exact hn
  ·rw[h];exact hb _
 ·exact hn
theorem Wk (hn:Rel none none){es:Nat}{t:TypeId}{x:PV}{K:Nat->List PV->Option R}{K':Nat->List PV->Option R'}{S:Nat->Prop}(hS:∀i,S i->hp i=Cd i∨(hp i=none∧∀b,Rel none b)) (hx:∀i∈B8 x,S i)(hK:∀m c,Rel (K m c) (K' m c)):Rel (SE P ⟨tm,hp⟩ es t x K) (SE P ⟨tm',Cd⟩ es t x K'):=by
 unfold SE VA;split
 ·exact Aw hn fun _=>Ev hn fun _=>hK _ _
 ·exact Na hn (KY hS fun i hi=>hx i (Qr hi)) hK
 ·exact hn
theorem U8 (hn:Rel none none){d:Nat}{t tx:TypeId}{b x:PV}{K:St->Option R}{K':St->Option R'}{S:Nat->Prop}(hS:∀i,S i->hp i=Cd i∨(hp i=none∧∀b,Rel none b)) (GX:hp d=Cd d)(hb:∀i∈B8 b,S i)(hx:∀i∈B8 x,S i)
  (hK:∀v Cn Er,(∀M,FS M S (some d) hp Cd Cn Er)->Rel (K ⟨Ch tm d v,Cn⟩) (K' ⟨Ch tm' d v,Er⟩)):Rel (Lz P N ⟨tm,hp⟩ d t tx b x K) (Lz P N ⟨tm',Cd⟩ d t tx b x K'):=by
 unfold Lz;split
 ·refine Aw hn fun _=>?_
  cases Up P tx
  rotate_left
  ·show Rel (Pw P N ⟨tm,hp⟩ d _ b x K) (Pw P N ⟨tm',Cd⟩ d _ b x K');refine Dt hn fun _ n=>Ez hn fun z _ _=>?_
   show Rel (Be (z&&Nat.blt d N&&(hp d).isNone&&_&&_&&_) _) (Be (z&&Nat.blt d N&&(Cd d).isNone&&_&&_&&_) _);rw[←GX];exact Aw hn fun hb=>hK _ _ _ (fun M=>LJ (by simp only[Bool.and_eq_true,Option.isNone_iff_eq_none] at hb;simp only[hb]) (Qi _ _))
  rw[cond_false,cond_false];refine Wk hn hS hx fun m new=>?_
  split
  ·rename_i id es off n;show Rel (match hp id with|some (.ar false c)=>Be (Nat.beq es _&&Nat.beq off 0&&Nat.blt d N&&(hp d).isNone&&_&&_&&_&&_) _|_=>none) (match Cd id with|some (.ar false c)=>Be (Nat.beq es _&&Nat.beq off 0&&Nat.blt d N&&(Cd d).isNone&&_&&_&&_&&_) _|_=>none)
   have Bh:S id:=hb id (by simp[B8,An])
   rw[←GX];rcases hS id Bh with h|⟨h,hbb⟩
   ·rw[←h];split
    ·rename_i c hc;exact Aw hn fun hb=>hK _ _ _ (fun M=>LJ (by simp only[Bool.and_eq_true,Option.isNone_iff_eq_none] at hb;simp only[hb]) (Rd Bh (by rw[hc];simp) (Qi _ _)))
    ·exact hn
   ·rw[h];exact hbb _
  ·refine Ez hn fun z _ _=>?_
   show Rel (Be (z&&Nat.blt d N&&(hp d).isNone&&_&&_&&_) _) (Be (z&&Nat.blt d N&&(Cd d).isNone&&_&&_&&_) _);rw[←GX];exact Aw hn fun hb=>hK _ _ _ (fun M=>LJ (by simp only[Bool.and_eq_true,Option.isNone_iff_eq_none] at hb;simp only[hb]) (Qi _ _))
 ·exact hn
theorem SK (hn:Rel none none){d:Option Tmp}{t tx:TypeId}{b x:PV}{K:St->Option R}{K':St->Option R'}{S:Nat->Prop}(hS:∀i,S i->hp i=Cd i∨(hp i=none∧∀b,Rel none b)) (hb:∀i∈B8 b,S i)(hx:∀i∈B8 x,S i)
  (hK:∀v Cn Er,FS N S d hp Cd Cn Er->Rel (K ⟨Bj tm d v,Cn⟩) (K' ⟨Bj tm' d v,Er⟩)):Rel (HO P N ⟨tm,hp⟩ d t tx b x K) (HO P N ⟨tm',Cd⟩ d t tx b x K'):=by
 unfold HO;split
 ·refine Aw hn fun _=>?_
  refine Wk hn hS hx fun m new=>?_
  split
  ·rename_i id es off n;show Rel (match hp id with|some (.ar false c)=>Be (Nat.beq es _&&_&&_) _|_=>none) (match Cd id with|some (.ar false c)=>Be (Nat.beq es _&&_&&_) _|_=>none)
   have Bh:S id:=hb id (by simp[B8,An])
   rcases hS id Bh with h|⟨h,hbb⟩
   ·rw[←h];split
    ·rename_i c hc;exact Aw hn fun _=>hK _ _ _ (Rd Bh (by rw[hc];simp) (Qi _ _))
    ·exact hn
   ·rw[h];exact hbb _
  ·exact hn
 ·exact hn
def Ak6 (o:Oper)(tm:Nat->PV)(i:Nat):Prop:=∃x∈o.op.operands.toList,i∈Br (Bz tm x)
def S6 (o:Oper)(tm:Nat->PV)(hp:Nat->Option Bl)(i:Nat):Prop:=Ak6 o tm i∨K2 o.op=false∧∃id c,Ak6 o tm id∧hp id=some (.st c)∧∃p∈c,i∈An p
theorem Aag (hn:Rel none none){mv:Bool}{t:CT}{p:PV}{K:PV->List Nat->List Nat->Option R}{K':PV->List Nat->List Nat->Option R'}{S:Nat->Prop}(hS:∀i,S i->hp i=Cd i∨(hp i=none∧∀b,Rel none b)) (hp_:∀i∈An p,S i)
  (hK:∀c m x,(∀i∈m++x,hp i≠none∧S i)->Rel (K c m x) (K' c m x)):Rel (YU mv hp t p K) (YU mv Cd t p K'):=by
 have frz:∀{t:CT} {p:PV},(∀i∈An p,S i)->Rel (Ls (Hq hp) t p fun c m=>K c m []) (Ls (Hq Cd) t p fun c m=>K' c m []):=fun h=>HK hn (KY hS h) fun c m hm=>hK _ _ _ fun i hi=>by
  rw[List.append_nil] at hi;exact⟨fun e=>(hm i hi).1 (I5 e),h i (hm i hi).2⟩
 unfold YU;split
 ·rename_i es;cases mv<;>simp only[cond_true,cond_false]
  ·exact frz hp_
  ·split
   ·rename_i id es' off n;rcases hS id (hp_ id (by simp[An])) with h|⟨h,hb⟩
    ·rw[←h];split
     ·rename_i c hc;cases (Nat.beq es' es&&Nat.beq off 0)<;>simp only[cond_true,cond_false]
      ·exact frz hp_
      ·exact Aw hn fun _=>hK _ _ _ fun i hi=>by
        simp only[List.nil_append,List.mem_singleton] at hi;subst hi;exact⟨by rw[hc];simp,hp_ i (by simp[An])⟩
     ·exact frz hp_
    ·rw[h]
     have:(Ls (Hq hp) (.sl es) (.view id es' off n) fun c m=>K c m [])=none:=by
      unfold Ls;simp only;cases Nat.beq es' es
      ·rfl
      ·simp only[cond_true,I5 h,Do]
     show Rel (Ls (Hq hp) (.sl es) (.view id es' off n) fun c m=>K c m []) _
     rw[this];exact hb _
   ·refine Ez hn fun z n c=>?_
    cases z
    ·exact hK _ _ _ (by simp)
    ·exact hK _ _ _ (by simp)
 ·exact L0 hn fun _=>hK _ _ _ (by simp)
theorem N0 (hn:Rel none none){mv:Bool}{S:Nat->Prop}(hS:∀i,S i->hp i=Cd i∨(hp i=none∧∀b,Rel none b)):∀{ts:List CT}{ps:List PV}{K:List PV->List Nat->List Nat->Option R}{K':List PV->List Nat->List Nat->Option R'},(∀p∈ps,∀i∈An p,S i) ->
  (∀c m x,(∀i∈m++x,hp i≠none∧S i)->Rel (K c m x) (K' c m x))->Rel (Ys mv hp ts ps K) (Ys mv Cd ts ps K')
 |[],[],_,_,_,hK=>hK _ _ _ (by simp)
 |[],_::_,_,_,_,_=>hn
 |_::_,[],_,_,_,_=>hn
 |_::_,p::ps,_,_,hp_,hK=>Aag hn hS (hp_ p (by simp)) fun _ m x hm=>N0 hn hS (fun q hq=>hp_ q (by simp[hq])) fun _ ms xs CL=>hK _ _ _ fun i hi=>by
   simp only[List.mem_append] at hi hm CL;rcases hi with (hi|hi)|(hi|hi)
   ·exact hm i (.inl hi)
   ·exact CL i (.inl hi)
   ·exact hm i (.inr hi)
   ·exact CL i (.inr hi)
theorem PM (hn:Rel none none){C:F4}{f:FuncId}{i:Nat}{t:TypeId}{p:PV}{K:PV->List Nat->List Nat->List Fw->Option R}{K':PV->List Nat->List Nat->List Fw->Option R'}{S:Nat->Prop}(hS:∀i,S i->hp i=Cd i∨(hp i=none∧∀b,Rel none b))
  (hp_:∀i∈Br p,S i)(hc:∀i∈Br p,∀c,Cd i=some (.st c)->∀q∈c,∀k∈An q,S k)
  (hK:∀v m x l,(∀i∈m++x++l.flatMap Fw.ids,hp i≠none∧S i)->Rel (K v m x l) (K' v m x l)):Rel (Xo C P f hp i t p K) (Xo C P f Cd i t p K'):=by
 unfold Xo;split
 ·split
  ·rename_i id off;have Bh:S id:=hp_ id (by simp[Br,B8,An])
   rcases hS id Bh with h|⟨h,hb⟩
   ·rw[h];split
    ·rename_i c EZ;refine Aw hn fun _=>N0 hn hS (fun q hq k hk=>hc id (by simp[Br,B8,An]) c EZ q (List.mem_of_mem_drop (List.mem_of_mem_take hq)) k hk) fun cs m x hm=>hK _ _ _ _ fun k hk=>?_
     rcases List.mem_append.1 hk with hk|hk
     ·exact hm k hk
     ·simp only[List.flatMap_cons,List.flatMap_nil,Fw.ids,List.append_nil,List.mem_singleton] at hk;subst hk;exact⟨by rw[h,EZ];simp,Bh⟩
    ·exact hn
   ·rw[h];exact hb _
  ·exact hn
 ·cases C.lnd f i
  ·cases B4 P t
   ·exact N0 hn hS (fun q hq k hk=>by
     simp at hq;subst hq;exact hp_ k (Iq hk)) fun cs m x hm=>Bg hn fun _ _ _=>Em hn (hK _ _ _ _ (by simpa using hm))
   ·refine Hy hn fun cs AE=>N0 hn hS (fun q hq k hk=>hp_ k ?_) fun cs m x hm=>hK _ _ _ _ (by simpa using hm)
    subst AE;exact List.mem_flatMap.2 ⟨q,hq,hk⟩
  ·refine Cx hn fun e he=>?_
   unfold Aft;split
   ·rename_i id es' off n;have Bh:S id:=hp_ id (by simp[Br,B8,An])
    rcases hS id Bh with h|⟨h,hb⟩
    ·rw[h];split
     ·rename_i c EZ;refine Aw hn fun _=>hK _ _ _ _ fun k hk=>?_
      simp only[List.nil_append,List.flatMap_cons,List.flatMap_nil,Fw.ids,List.append_nil,List.mem_singleton] at hk;subst hk;exact⟨by rw[h,EZ];simp,Bh⟩
     ·exact hn
    ·rw[h];exact hb _
   ·exact Ez hn fun _ _ _=>Aw hn fun _=>hK _ _ _ _ (by simp[Fw.ids])
theorem CR (hn:Rel none none){C:F4}{f:FuncId}{S:Nat->Prop}(hS:∀i,S i->hp i=Cd i∨(hp i=none∧∀b,Rel none b)):∀{ts:List TypeId}{ps:List PV}{i:Nat}{K:List PV->List Nat->List Nat->List Fw->Option R}{K':List PV->List Nat->List Nat->List Fw->Option R'},
  (∀p∈ps,∀i∈Br p,S i)->(∀p∈ps,∀i∈Br p,∀c,Cd i=some (.st c)->∀q∈c,∀k∈An q,S k) ->
  (∀v m x l,(∀i∈m++x++l.flatMap Fw.ids,hp i≠none∧S i)->Rel (K v m x l) (K' v m x l))->Rel (JH C P f hp i ts ps K) (JH C P f Cd i ts ps K')
 |[],[],_,_,_,_,_,hK=>hK _ _ _ _ (by simp)
 |[],_::_,_,_,_,_,_,_=>hn
 |_::_,[],_,_,_,_,_,_=>hn
 |_::_,p::ps,_,_,_,hp_,hc,hK=>PM hn hS (hp_ p (by simp)) (hc p (by simp)) fun _ m x l hm=>CR hn hS (fun q hq=>hp_ q (by simp[hq])) (fun q hq=>hc q (by simp[hq])) fun _ ms xs ls CL=>hK _ _ _ _ fun i hi=>by
   simp only[List.mem_append,List.flatMap_append] at hi hm CL;rcases hi with ((hi|hi)|(hi|hi))|(hi|hi)
   ·exact hm i (.inl (.inl hi))
   ·exact CL i (.inl (.inl hi))
   ·exact hm i (.inl (.inr hi))
   ·exact CL i (.inl (.inr hi))
   ·exact hm i (.inr hi)
   ·exact CL i (.inr hi)
theorem Adt (hn:Rel none none){t:Nat}{ct:CT}{was p:PV}{K:Nat->PV->List (Nat × Bl)->Option R} {K':Nat->PV->List (Nat × Bl)->Option R'} (hK:∀t c b,(∀q∈b,∃k,q.1=RT N k)->Rel (K t c b) (K' t c b)):Rel (ZH N t ct was p K) (ZH N t ct was p K'):=by
 unfold ZH;split
 ·split
  ·exact WY hn fun _ _=>hK _ _ _ (by intro q hq;simp only[List.mem_singleton] at hq;subst hq;exact⟨t,rfl⟩)
  ·exact Ez hn fun _ _ _=>hK _ _ _ (by simp)
 ·exact L0 hn fun _=>hK _ _ _ (by simp)
theorem IU (hn:Rel none none):∀{cts:List CT}{ws ps:List PV}{t:Nat}{K:Nat->List PV->List (Nat × Bl)->Option R} {K':Nat->List PV->List (Nat × Bl)->Option R'},(∀t c b,(∀q∈b,∃k,q.1=RT N k)->Rel (K t c b) (K' t c b))->Rel (IM N t cts ws ps K) (IM N t cts ws ps K')
 |[],[],_,_,_,_,hK=>Em hn (hK _ _ _ (by simp))
 |[],_::_,_,_,_,_,_=>hn
 |_::_,[],_,_,_,_,_=>hn
 |_::_,_::_,_,_,_,_,hK=>Bg hn fun _ _ _=>Adt hn fun _ _ b hb=>IU hn fun _ _ bs FQ=>hK _ _ _ fun q hq=>by
   rcases List.mem_append.1 hq with h|h
   ·exact hb q h
   ·exact FQ q h
theorem Ri (hn:Rel none none){S:Nat->Prop}{dst:Option Nat}:∀{l:List Fw}{ro:List (List PV)} {t:Nat}{h0 h1:Nat->Option Bl}{K:(Nat->Option Bl)->List (Nat × Bl)->Option R} {K':(Nat->Option Bl)->List (Nat × Bl)->Option R'},
  FS N S dst hp Cd h0 h1->(∀i∈l.flatMap Fw.ids,hp i≠none∧S i∧hp i=Cd i)->(∀h0' LI b,FS N S dst hp Cd h0' LI->(∀q∈b,∃k,q.1=RT N k)->Rel (K h0' b) (K' LI b))->Rel (Sv N t l ro h0 K) (Sv N t l ro h1 K')
 |[],_,_,_,_,_,_,hT,_,hK=>Em hn (hK _ _ _ hT (by simp))
 |.var id off cts ws::l,ro,t,h0,h1,K,K',hT,hl,hK=>by
  unfold Sv;refine Bg hn fun cs ro _=>IU hn fun t' cs' bs FQ=>?_
  have Bh:=hl id (by simp[Fw.ids])
  rw[←hT.same id Bh.2.2];split
  ·exact Ri hn (Rd Bh.2.1 Bh.1 hT) (fun i hi=>hl i (by simp only[List.flatMap_cons,List.mem_append];exact .inr hi)) fun h0' LI b hT' hb=>hK _ _ _ hT' fun q hq=>by
    rcases List.mem_append.1 hq with h|h
    ·exact FQ q h
    ·exact hb q h
  ·exact hn
 |.row id::l,ro,t,h0,h1,K,K',hT,hl,hK=>by
  unfold Sv;have Bh:=hl id (by simp[Fw.ids])
  exact Bg hn fun cs ro _=>Ri hn (Rd Bh.2.1 Bh.1 hT) (fun i hi=>hl i (by simp only[List.flatMap_cons,List.mem_append];exact .inr hi)) hK
 |.none::l,ro,t,h0,h1,K,K',hT,hl,hK=>by
  unfold Sv;exact Bg hn fun cs ro _=>Ri hn hT (fun i hi=>hl i (by simp only[List.flatMap_cons,List.mem_append];exact .inr hi)) hK
theorem OC (h:∀i,N<=i->hp i=Cd i)(hN:0<N):∀k t,OO N hp k t=OO N Cd k t
 |0,_=>rfl
 |k+1,t=>by
  unfold OO;rw[h (RT N t) (by unfold RT;exact Nat.le_mul_of_pos_right _ (by omega)),OC h hN k (t+1)]
theorem HC {h0 h1:Nat->Option Bl}:∀{nw:List (Nat × Bl)},(∀q∈nw,h0 q.1=h1 q.1)->Bo h0 nw=Bo h1 nw
 |[],_=>rfl
 |(i,b)::nw,h=>by
  unfold Bo;rw[h (i,b) (by simp),HC (fun q hq=>h q (by simp[hq]))]
theorem DU {S:Nat->Prop}{dst:Option Nat}{h0 h1:Nat->Option Bl}(hT:FS N S dst hp Cd h0 h1):∀{nw:List (Nat × Bl)} {g0 g1:Nat->Option Bl},FS N S dst hp Cd g0 g1->(∀q∈nw,N<=q.1∨dst=some q.1)->(∀q∈nw,hp q.1=none)->FS N S dst hp Cd (Ap g0 nw) (Ap g1 nw)
 |[],_,_,h,_,_=>h
 |(i,b)::nw,g0,g1,h,hi,hz=>by
  refine DU hT (nw:=nw) ⟨fun k hk=>?_,fun k hN hd hk=>?_,fun k hk=>?_,fun k hn hk=>?_⟩ (fun q hq=>hi q (by simp[hq])) (fun q hq=>hz q (by simp[hq]))
  ·by_cases e:k=i
   ·subst e;rw[Am];simp
   ·rw[Ai _ _ e];exact h.keep k hk
  ·have e:k≠i:=by
    rintro rfl
    rcases hi (k,b) (by simp) with q|q
    ·simp only at q;omega
    ·exact hd q
   rw[Ai _ _ e,Ai _ _ e];exact h.off k hN hd hk
  ·by_cases e:k=i
   ·subst e;rw[Am,Am]
   ·rw[Ai _ _ e,Ai _ _ e];exact h.same k hk
  ·rw[Ai _ _ (by rintro rfl;exact hk (hz (k,b) (by simp)))];exact h.far k hn hk
theorem Anj {S:Nat->Prop}{dst:Option Nat}{m x:List Nat}(hm:∀i∈m++x,hp i≠none∧S i):FS N S dst hp Cd (Po (Af hp m) x) (Po (Af Cd m) x):=by
 refine⟨fun i hi h=>?_,fun i hN hd hi=>?_,fun i hi=>?_,fun i hn hi=>?_⟩
 ·rw[Fa] at h;have h1:Af hp m i≠none:=fun e=>hi (Du.1 e)
  split at h
  ·cases hq:Af hp m i with
   |none=>exact h1 hq
   |some b=>rw[hq] at h;cases h
  ·exact h1 h
 ·have e:i ∉ m∧i ∉ x:=by
   refine⟨fun h=>?_,fun h=>?_⟩<;>(rcases hi with hi|hi)
   ·exact hi (hm i (by simp[h])).2
   ·exact (hm i (by simp[h])).1 hi
   ·exact hi (hm i (by simp[h])).2
   ·exact (hm i (by simp[h])).1 hi
  rw[Fa,Fa,if_neg e.2,if_neg e.2,Bv,Bv,if_neg e.1,if_neg e.1];exact⟨rfl,rfl⟩
 ·rw[Fa,Fa,Bv,Bv,hi]
 ·rw[Fa,Bv,if_neg (fun h=>hn (hm i (by simp[h])).2),if_neg (fun h=>hn (hm i (by simp[h])).2)]
theorem PO (hn:Rel none none){C:F4}{call:Ax}{f:FuncId}{c:Call}{K:St->Option R}{K':St->Option R'}{S:Nat->Prop}(H4:c.args.toList.map (Bz tm)=c.args.toList.map (Bz tm')) (hS:∀i,S i->hp i=Cd i∨(hp i=none∧∀b,Rel none b))
  (hp_:∀p∈c.args.toList.map (Bz tm'),∀i∈Br p,S i) (hc:∀p∈c.args.toList.map (Bz tm'),∀i∈Br p,∀c,Cd i=some (.st c)->∀q∈c,∀k∈An q,S k)
  (GX:∀d,o.dst=some d->hp d=Cd d)(hNN:∀i,N<=i->hp i=Cd i)
  (hK:∀v Cn Er,FS N S o.dst hp Cd Cn Er->Rel (K ⟨Bj tm o.dst v,Cn⟩) (K' ⟨Bj tm' o.dst v,Er⟩)):Rel (Xa C P N call ⟨tm,hp⟩ o f c K) (Xa C P N call ⟨tm',Cd⟩ o f c K'):=by
 unfold Xa;simp only[H4];refine CR hn hS hp_ hc fun vs m x l hm=>Aw hn fun hb=>IR hn fun rv ro=>Wi hn fun ws bs FQ=>Aw hn fun _=>?_
 simp only[Bool.and_eq_true] at hb;have hN:0<N:=Nat.lt_of_succ_le (Nat.le_of_ble_eq_true hb.1.2);rw[OC hNN hN];by_cases Aa0:∃i∈l.flatMap Fw.ids,hp i≠Cd i
 ·obtain⟨i,hi,Ei⟩:=Aa0;obtain⟨h1,h2⟩:=hm i (List.mem_append.2 (.inr hi));rcases hS i h2 with h|⟨h,_⟩
  ·exact absurd h Ei
  ·exact absurd h h1
 have hl:∀i∈l.flatMap Fw.ids,hp i≠none∧S i∧hp i=Cd i:=fun i hi=>⟨(hm i (List.mem_append.2 (.inr hi))).1,(hm i (List.mem_append.2 (.inr hi))).2,Classical.byContradiction fun h=>Aa0 ⟨i,hi,h⟩⟩
 have hT0:FS N S o.dst hp Cd (Po (Af hp m) x) (Po (Af Cd m) x):=Anj fun i hi=>hm i (List.mem_append.2 (.inl hi))
 refine Ri hn hT0 hl fun h0 h1 bs' hT A2y=>?_
 have Aan:∀q∈bs++bs',N<=q.1∨o.dst=some q.1:=by
  intro q hq;rcases List.mem_append.1 hq with hq|hq
  ·obtain⟨j,hj⟩:=FQ q hq;cases hd:o.dst with
   |none=>
    rw[hd] at hj;left;rw[hj];exact Nat.le_add_right _ _
   |some d=>
    rw[hd] at hj;change q.1=d+N*j at hj;cases j with
    |zero=>right;rw[hj];simp
    |succ j=>left;rw[hj,Nat.mul_add];omega
  ·obtain⟨k,hk⟩:=A2y q hq;left;rw[hk];unfold RT;exact Nat.le_mul_of_pos_right _ (by omega)
 have Yl:∀q∈bs++bs',h0 q.1=h1 q.1:=by
  intro q hq;refine hT.same q.1 ?_;rcases Aan q hq with h|h
  ·exact hNN _ h
  ·exact GX _ h
 rw[HC Yl]
 exact Aw hn fun hb=>hK _ _ _ (DU hT hT Aan fun q hq=>by
  cases hz:hp q.1 with
  |none=>rfl
  |some c=>exact absurd ((Yl q hq).trans ((Bi hb).1 q.1 q.2 hq)) (hT.keep q.1 (by rw[hz];simp)))
theorem Iu (hn:Rel none none){C:F4}{call:Ax}{K:St->Option R}{K':St->Option R'}(H4:∀x∈o.op.operands.toList,Bz tm x=Bz tm' x)
  (hS:∀i,S6 o tm' Cd i->hp i=Cd i∨(hp i=none∧∀b,Rel none b)) (GX:∀d,o.dst=some d->hp d=Cd d)(hNN:∀i,N<=i->hp i=Cd i)
  (hK:∀v Cn Er,FS N (S6 o tm' Cd) o.dst hp Cd Cn Er->Rel (K ⟨Bj tm o.dst v,Cn⟩) (K' ⟨Bj tm' o.dst v,Er⟩)):Rel (Rx C P N call ⟨tm,hp⟩ o K) (Rx C P N call ⟨tm',Cd⟩ o K'):=by
 unfold Rx;have hl:∀x∈o.op.operands.toList,∀i∈Br (Bz tm' x),S6 o tm' Cd i:=fun x hx i hi=>.inl ⟨x,hx,hi⟩
 have Pg:K2 o.op=false->∀x∈o.op.operands.toList,∀i∈Br (Bz tm' x),∀c,Cd i=some (.st c)->∀q∈c,∀k∈An q,S6 o tm' Cd k:=fun ha x hx i hi c hc q hq k hk=>.inr ⟨ha,i,c,⟨x,hx,hi⟩,hc,q,hq,hk⟩
 generalize hLd:S6 o tm' Cd=S at *
 generalize hop:o.op=op at *
 split
 ·rename_i t x y;simp only[H4 x (by simp[Op.operands]),H4 y (by simp[Op.operands])]
  refine Aw hn fun hd=>PA (N:=N) hn hS (fun i hi=>hl x (by simp[Op.operands]) i (Iq hi)) (fun i hi=>hl y (by simp[Op.operands]) i (E0 hi)) fun Cn Er hh=>?_
  have hd':=Option.isNone_iff_eq_none.1 hd;have:=hK .top Cn Er (by rw[hd'];exact hh)
  rw[hd'] at this;exact this
 ·rename_i c
  have Ij:∀x∈c.args.toList,x∈(Op.call c).operands.toList:=by
   intro x hx;simp only[Op.operands,Call.operands,Array.toList_append,List.mem_append];exact .inr hx
  split
  ·rename_i hc;refine Cx hn fun d hd=>Bg hn fun x _ hx=>Bg hn fun y _ hy=>Em hn (Bg hn fun _ _ _=>Bg hn fun _ _ _=>?_)
   subst hy;have hxm:=Ij x (by rw[hx];simp)
   have hym:=Ij y (by rw[hx];simp)
   simp only[H4 x hxm,H4 y hym];refine U8 hn hS (GX d hd) (fun i hi=>hl x hxm i (E0 hi)) (fun i hi=>hl y hym i (E0 hi)) fun v Cn Er hh=>?_
   have:=hK v Cn Er (by rw[hd];exact hh N)
   rw[hd] at this;exact this
  ·rename_i hc;refine Bg hn fun x _ hx=>Bg hn fun y _ hy=>Em hn (Bg hn fun _ _ _=>Bg hn fun _ _ _=>?_)
   subst hy;have hxm:=Ij x (by rw[hx];simp)
   have hym:=Ij y (by rw[hx];simp)
   simp only[H4 x hxm,H4 y hym];exact SK hn hS (fun i hi=>hl x hxm i (E0 hi)) (fun i hi=>hl y hym i (E0 hi)) hK
  ·rename_i f hcf;refine PO hn (List.map_congr_left fun x hx=>H4 x (Ij x hx)) hS (fun p hp i hi=>?_) (fun p hp i hi=>?_) GX hNN hK
   ·obtain⟨x,hx,rfl⟩:=List.mem_map.1 hp;exact hl x (Ij x hx) i hi
   ·obtain⟨x,hx,rfl⟩:=List.mem_map.1 hp;exact Pg (by simp only[K2,hcf]) x (Ij x hx) i hi
  ·exact hn
 ·exact hn
theorem CY (hn:Rel none none){C:F4}{call:Ax}{K:St->Option R}{K':St->Option R'}(H4:∀x∈o.op.operands.toList,Bz tm x=Bz tm' x)(hK:∀v Cn,(∀i,hp i≠none->Cn i≠none)->Rel (K ⟨Bj tm o.dst v,Cn⟩) (K' ⟨Bj tm' o.dst v,Cn⟩)):Rel (Rx C P N call ⟨tm,hp⟩ o K) (Rx C P N call ⟨tm',hp⟩ o K'):=
 Iu hn H4 (fun _ _=>.inl rfl) (fun _ _=>rfl) (fun _ _=>rfl) fun v Cn Er hT=>by
  have:Cn=Er:=funext fun i=>hT.same i rfl
  subst this;exact hK v Cn hT.keep
end
section
variable {R:Type} {r:R} {C:F4} {P:Program} {N:Nat} {call:Ax} {ops:Array Oper} {o x:Oper} {s:St} {K:St->Option R}
theorem KL {tm:Nat->PV}{hp Cn:Nat->Option Bl}{tm':Nat->PV}{q:Qb}(hm:Gl P o.op=false)(ht:∀t∈looks ops o,tm t=tm' t)(h:gE C P N call ops o ⟨tm,hp⟩=some q):gE C P N call ops o ⟨tm',Cn⟩=some q:=
 T9 (s:=⟨tm,hp⟩) (s':=⟨tm',Cn⟩) ht (fun h=>by rw[hm] at h;cases h) h
theorem Xb {tm:Nat->PV}{hp:Nat->Option Bl}(hm:Gl P o.op=false)(h:De C P N call ops o ⟨tm,hp⟩ K=some r):
  ∃v nw,gE C P N call ops o ⟨tm,hp⟩=some (v,[],nw)∧Fk N o.dst=true∧Bo hp nw=true∧(∀p∈nw,o.dst=some p.1)∧K ⟨Bj tm o.dst v,Ap hp nw⟩=some r:=by
 have hM:On C P o.op=false:=by
  cases hh:On C P o.op
  ·rfl
  ·rw[Ur hh] at hm;cases hm
 rw[Iv (by simp[Fy,hM])] at h
 cases e:gE C P N call ops o ⟨tm,hp⟩ with
 |none=>rw[e] at h;cases h
 |some q=>
  obtain⟨v,fz,nw⟩:=q;obtain⟨h1,h2⟩:=(Qt e).1 hm;simp only at h1 h2;subst h1;rw[e] at h;obtain⟨hb,h⟩:=Al h;simp only[Bool.and_eq_true] at hb;exact⟨v,nw,rfl,hb.1,hb.2,h2,h⟩
theorem DF {tm:Nat->PV}{hp:Nat->Option Bl}{v:PV}{nw:List (Nat × Bl)} (hm:Gl P o.op=false)(e:gE C P N call ops o ⟨tm,hp⟩=some (v,[],nw)) (hd:Fk N o.dst=true)(ha:Bo hp nw=true)(h:K ⟨Bj tm o.dst v,Ap hp nw⟩=some r):De C P N call ops o ⟨tm,hp⟩ K=some r:=by
 have hM:On C P o.op=false:=by
  cases hh:On C P o.op
  ·rfl
  ·rw[Ur hh] at hm;cases hm
 rw[Iv (by simp[Fy,hM]),e]
 show Be _ _=_;have ha':Bo hp nw=true:=ha;rw[hd,ha'];exact h
theorem Kb {hp:Nat->Option Bl}{nw:List (Nat × Bl)} (ha:Bo hp nw=true){i:Nat}(hi:∀p∈nw,p.1≠i):Ap hp nw i=hp i:=
 (D2 (Bi ha).2).2 i fun b hb=>hi _ hb rfl
theorem Afp {hp Cn:Nat->Option Bl}{nw:List (Nat × Bl)} (ha:Bo hp nw=true){g:Nat->Option Bl}(h1:∀i,(∀p∈nw,p.1≠i)->g i=Cn i) (h2:∀i,(∃p∈nw,p.1=i)->g i=Ap hp nw i) (ha':Bo Cn nw=true):g=Ap Cn nw:=by
 funext i
 by_cases h:∃p∈nw,p.1=i
 ·rw[h2 i h];obtain⟨⟨j,b⟩,hp,rfl⟩:=h;rw[(D2 (Bi ha).2).1 j b hp,(D2 (Bi ha').2).1 j b hp]
 ·have h':∀p∈nw,p.1≠i:=fun p hp e=>h ⟨p,hp,e⟩
  rw[h1 i h',Kb ha' h']
theorem Aj6 (ap:Vm C P ops x o)(hx:Fy C P ops x s.tm=true)
  (h:De C P N call ops x s (fun s1=>De C P N call ops o s1 K)=some r):De C P N call ops o s (fun s1=>De C P N call ops x s1 K)=some r:=by
 have hm:Gl P o.op=false:=ap.mx (by unfold Fy at hx;simp only[Bool.and_eq_true] at hx;exact hx.1)
 rw[G7 hx] at h;obtain⟨tm,hp⟩:=s;have look:∀v,∀t∈looks ops o,Bj tm x.dst v t=tm t:=fun v=>Ea ap.xo
 have h1:=Iu (P:=P) (N:=N) (o:=x) (tm:=tm) (tm':=tm) (hp:=hp) (Cd:=hp) (K:=fun s1=>De C P N call ops o s1 K) (K':=fun _=>none)
  (Rel:=fun (a:Option R)(_:Option R)=>a=some r->∃v nw,gE C P N call ops o ⟨tm,hp⟩=some (v,[],nw)∧Fk N o.dst=true∧(∀p∈nw,o.dst=some p.1)∧Bo hp nw=true) (fun h=>by cases h) (fun _ _=>rfl) (fun _ _=>.inl rfl) (fun _ _=>rfl) (fun _ _=>rfl) (fun v Cn _ hT h=>by
   obtain⟨u,nw,hu,hd,ha,hn,_⟩:=Xb hm h;refine⟨u,nw,KL hm (look v) hu,hd,hn,M9 ha fun i b hi=>?_⟩
   cases hh:hp i with
   |none=>rfl
   |some c=>exact absurd ((Bi ha).1 i b hi) (hT.keep i (by rw[hh];simp))) h
 obtain⟨v,nw,hv,hd,hn,ha⟩:=h1;refine DF hm hv hd ha ?_;have t2:∀t∈looks ops x,tm t=Bj tm o.dst v t:=fun t ht=>(Ea ap.ox t ht).symm
 rw[G7 (by rw[←Gi t2];exact hx)]
 refine Iu (P:=P) (N:=N) (o:=x) (tm:=tm) (tm':=Bj tm o.dst v) (hp:=hp) (Cd:=Ap hp nw) (Rel:=fun (a b:Option R)=>a=some r->b=some r) (fun h=>by cases h) (Eu t2) (fun i _=>?_) (fun d hxd=>?_) (fun i hi=>(Kb ha fun p hp e=>by have:=Nh hd (hn p hp);omega).symm) (fun u Cn Er hT h=>?_) h
 ·by_cases hi:∃p∈nw,p.1=i
  ·obtain⟨⟨j,b⟩,Cd,rfl⟩:=hi;exact .inr ⟨(Bi ha).1 j b Cd,fun _ h=>by cases h⟩
  ·exact .inl (Kb ha fun p hp e=>hi ⟨p,hp,e⟩).symm
 ·refine (Kb ha fun p hp e=>?_).symm
  have:=hn p hp;rw[e] at this;exact ap.ne d hxd this
 ·obtain⟨v',nw',Lx,_,ha',_,h'⟩:=Xb hm h;have he:=KL (Cn:=hp) hm (look u) Lx;rw[hv] at he;simp only[Option.some.injEq,Prod.mk.injEq,true_and] at he;obtain⟨rfl,rfl⟩:=he
  have hh:Er=Ap Cn nw:=by
   refine Afp ha (fun i hi=>?_) (fun i hi=>?_) ha'
   ·exact (hT.same i (Kb ha hi).symm).symm
   ·obtain⟨⟨j,b⟩,Cd,rfl⟩:=hi;refine (hT.off j (Nh hd (hn _ Cd)) (fun e=>ap.ne j e (hn _ Cd)) (.inr ((Bi ha).1 j b Cd))).2
  rw[hh,←Ic ap.ne];exact h'
theorem Aje (hw:RS C P o s)(ap:Vm C P ops x o)(ho:Fy C P ops o s.tm=true)
  (h:De C P N call ops x s (fun s1=>De C P N call ops o s1 K)=some r):De C P N call ops o s (fun s1=>De C P N call ops x s1 K)=some r:=by
 have hm:Gl P x.op=false:=ap.mo (by unfold Fy at ho;simp only[Bool.and_eq_true] at ho;exact ho.1)
 obtain⟨tm,hp⟩:=s;obtain⟨v,nw,hv,hd,ha,hn,h1⟩:=Xb hm h;have t1:∀t∈looks ops o,Bj tm x.dst v t=tm t:=Ea ap.xo;change De C P N call ops o ⟨Bj tm x.dst v,Ap hp nw⟩ K=some r at h1;rw[G7 (by rw[Gi t1];exact ho)] at h1
 rw[G7 ho];have hMo:On C P o.op=true:=by unfold Fy at ho;simp only[Bool.and_eq_true] at ho;exact ho.1
 have Alh:∀i,S6 o tm hp i->hp i≠none:=by
  rintro i (⟨y,hy,hi⟩|⟨P9,id,c,⟨y,hy,hi⟩,hc,p,Cd,hk⟩)
  ·exact hw.1 y hy i hi
  ·exact hw.2 hMo P9 y hy id hi c hc p Cd i hk
 refine Iu (P:=P) (N:=N) (o:=o) (tm:=Bj tm x.dst v) (tm':=tm) (hp:=Ap hp nw) (Cd:=hp) (Rel:=fun (a b:Option R)=>a=some r->b=some r) (fun h=>by cases h) (Eu t1) (fun i hi=>?_) (fun d hod=>?_) (fun i hi=>Kb ha fun p hp e=>by have:=Nh hd (hn p hp);omega) (fun u Cn Er hT h=>?_) h1
 ·refine .inl (Kb ha fun p Cn e=>Alh i hi ?_)
  rw[←e];exact (Bi ha).1 p.1 p.2 Cn
 ·refine Kb ha fun p Cn e=>?_
  have:=hn p Cn;rw[e] at this;exact ap.ne d this hod
 ·have Mp:∀p∈nw,Cn p.1=Ap hp nw p.1∧Er p.1=none:=by
   intro p hp2;have LT:=(Bi ha).1 p.1 p.2 hp2;have h3:=hT.off p.1 (Nh hd (hn p hp2)) (fun e=>ap.ne p.1 (hn p hp2) e) (.inl fun hL=>Alh _ hL LT)
   exact⟨h3.1,h3.2.trans LT⟩
  have ha':Bo Er nw=true:=M9 ha fun i b hi=>(Mp (i,b) hi).2
  refine DF hm (KL hm (fun t ht=>(Ea ap.ox t ht).symm) hv) hd ha' ?_
  have hh:Cn=Ap Er nw:=by
   refine Afp ha (fun i hi=>?_) (fun i hi=>?_) ha'
   ·exact hT.same i (Kb ha hi)
   ·obtain⟨p,hp2,rfl⟩:=hi;exact (Mp p hp2).1
  rw[←Ic ap.ne,←hh];exact h
theorem Asu (hw:RS C P o s)(ap:Vm C P ops x o)
  (h:De C P N call ops x s (fun s1=>De C P N call ops o s1 K)=some r):De C P N call ops o s (fun s1=>De C P N call ops x s1 K)=some r:=by
 cases hx:Fy C P ops x s.tm
 ·cases ho:Fy C P ops o s.tm
  ·exact XE hw ap.xo ap.ne ap.ox hx ho h
  ·exact Aje hw ap ho h
 ·exact Aj6 ap hx h
theorem Is (h:Qq P o.op=true):On C P o.op=false:=by
 unfold Qq at h;split at h
 ·rename_i ho;rw[ho];rfl
 ·rename_i ho;rw[ho];rfl
 ·cases h
def FF (P:Program)(ops:Array Oper)(o:Oper)(tm:Nat->PV):Prop:=Qq P o.op=true∨F3 ops o tm=some false
theorem S1 {tm tm':Nat->PV}(h:∀t∈looks ops o,tm t=tm' t)(hl:FF P ops o tm):FF P ops o tm':=by
 rcases hl with hl|hl
 ·exact .inl hl
 ·exact .inr (by rw[←Iw h];exact hl)
theorem HF {tm:Nat->PV}(hl:FF P ops o tm):Fy C P ops o tm=false:=by
 rcases hl with hl|hl
 ·simp[Fy,Is hl]
 ·simp[Fy,hl]
theorem XT {q:Qb}(hl:FF P ops o s.tm)(h:gE C P N call ops o s=some q):q.2.1=[]∧q.2.2=[]:=by
 unfold gE at h;split at h
 ·cases h
 ·rename_i hv
  have hl:Qq P o.op=true:=by
   rcases hl with hl|hl
   ·exact hl
   ·rw[hv] at hl;cases hl
  rw[Is hl] at h;have h:Abn C P N call o s=some q:=h;unfold Qq at hl;split at hl
  ·rename_i t a ho;unfold Abn DP at h;rw[ho] at h
   have:=HX (nz:=C.nz N) (P:=P) (f:=rd s.hp) (f':=rd s.hp) (g:=Hq s.hp) (g':=Hq s.hp) (t:=t) (x:=Bz s.tm a) (Rel:=fun (a b:Option Qb)=>∀q,a=some q->q.2.1=[]∧q.2.2=[])
    (K:=fun v=>some (v,[],[])) (K':=fun v=>some (v,[],[])) (fun _ h=>by cases h) (fun _ _=>.inl ⟨rfl,rfl⟩) (fun v q hq=>by cases hq;exact⟨rfl,rfl⟩)
   exact this q h
  ·rename_i src dst y ho;unfold Abn DP at h;rw[ho] at h;simp only at h;unfold DJ at h;split at hl
   ·rename_i hd;rw[hd] at h;simp only at h;split at h
    ·obtain⟨_,_,h⟩:=Dd h;obtain⟨_,_,h⟩:=B7 h;cases h;exact⟨rfl,rfl⟩
    ·split at h
     ·exact Na (f:=Hq s.hp) (f':=Hq s.hp) (K':=fun _ _=>(none:Option Qb)) (Rel:=fun (a _:Option Qb)=>a=some q->q.2.1=[]∧q.2.2=[]) (fun h=>by cases h) (fun _ _=>.inl rfl) (fun n c h=>by
       obtain⟨_,h⟩:=Al h;obtain⟨_,_,h⟩:=B7 h;obtain⟨_,_,h⟩:=B7 h;cases h;exact⟨rfl,rfl⟩) h
     ·exact Na (f:=Hq s.hp) (f':=Hq s.hp) (K':=fun _ _=>(none:Option Qb)) (Rel:=fun (a _:Option Qb)=>a=some q->q.2.1=[]∧q.2.2=[]) (fun h=>by cases h) (fun _ _=>.inl rfl) (fun n c h=>by
       obtain⟨_,h⟩:=Al h;obtain⟨_,_,h⟩:=B7 h;obtain⟨_,_,h⟩:=B7 h;cases h;exact⟨rfl,rfl⟩) h
     ·cases h
    ·cases h
   ·cases hl
  ·cases hl
 ·cases h;exact⟨rfl,rfl⟩
theorem Abm {tm tm':Nat->PV}{hp:Nat->Option Bl}(h:∀t∈looks ops o,tm t=tm' t){i:Nat}(hi:S6 o tm hp i):S6 o tm' hp i:=by
 have he:=Eu (ops:=ops) (o:=o) h;rcases hi with⟨y,hy,hi⟩|⟨P9,id,c,⟨y,hy,hi⟩,hc,q⟩
 ·exact .inl ⟨y,hy,by rw[←he y hy];exact hi⟩
 ·exact .inr ⟨P9,id,c,⟨y,hy,by rw[←he y hy];exact hi⟩,hc,q⟩
theorem Ak3 {hp Cn:Nat->Option Bl}{i:Nat}(h:Cn i=hp i):rd Cn i=rd hp i∧Hq Cn i=Hq hp i:=by
 unfold rd Hq;rw[h];exact⟨rfl,rfl⟩
theorem Xu {tm:Nat->PV}{hp:Nat->Option Bl}(hl:FF P ops o tm)(h:De C P N call ops o ⟨tm,hp⟩ K=some r):
  ∃v,gE C P N call ops o ⟨tm,hp⟩=some (v,[],[])∧Fk N o.dst=true∧K ⟨Bj tm o.dst v,hp⟩=some r:=by
 rw[Iv (HF hl)] at h;cases e:gE C P N call ops o ⟨tm,hp⟩ with
 |none=>rw[e] at h;cases h
 |some q=>
  obtain⟨v,fz,nw⟩:=q;obtain⟨h1,h2⟩:=XT hl e;simp only at h1 h2;subst h1;subst h2;rw[e] at h;obtain⟨hb,h⟩:=Al h;simp only[Bool.and_eq_true] at hb;exact⟨v,rfl,hb.1,h⟩
theorem DH {tm:Nat->PV}{hp:Nat->Option Bl}{v:PV}(hl:FF P ops o tm)(e:gE C P N call ops o ⟨tm,hp⟩=some (v,[],[])) (hd:Fk N o.dst=true)(h:K ⟨Bj tm o.dst v,hp⟩=some r):De C P N call ops o ⟨tm,hp⟩ K=some r:=by
 rw[Iv (HF hl),e];show Be _ _=_;have ha:Bo hp []=true:=rfl;simp only[hd,ha,Bool.and_self];exact h
theorem Ahk (hw:RS C P o s)(xo:∀d,x.dst=some d->d ∉ looks ops o)(ne:∀d,x.dst=some d->o.dst≠some d)(ox:∀d,o.dst=some d->d ∉ looks ops x)(hl:FF P ops o s.tm)
  (OL:∀y∈o.op.operands.toList,∀i∈Br (Bz s.tm y),¬S6 x s.tm s.hp i) (hx:Fy C P ops x s.tm=true)
  (h:De C P N call ops x s (fun s1=>De C P N call ops o s1 K)=some r):De C P N call ops o s (fun s1=>De C P N call ops x s1 K)=some r:=by
 rw[G7 hx] at h;obtain⟨tm,hp⟩:=s;have look:∀v,∀t∈looks ops o,Bj tm x.dst v t=tm t:=fun v=>Ea xo
 have Agv:∀{u:PV} {Cn:Nat->Option Bl} {q:Qb},(∀y∈o.op.operands.toList,∀i∈Br (Bz tm y),Cn i=hp i)->gE C P N call ops o ⟨Bj tm x.dst u,Cn⟩=some q->gE C P N call ops o ⟨tm,hp⟩=some q:=
  fun hh e=>T9 (s:=⟨Bj tm x.dst _,_⟩) (s':=⟨tm,hp⟩) (look _) (fun _ y hy i hi=>.inl (Ak3 (hh y hy i hi))) e
 have h1:=Iu (P:=P) (N:=N) (o:=x) (tm:=tm) (tm':=tm) (hp:=hp) (Cd:=hp) (K:=fun s1=>De C P N call ops o s1 K) (K':=fun _=>none)
  (Rel:=fun (a:Option R)(_:Option R)=>a=some r->∃v,gE C P N call ops o ⟨tm,hp⟩=some (v,[],[])∧Fk N o.dst=true) (fun h=>by cases h) (fun _ _=>rfl) (fun _ _=>.inl rfl) (fun _ _=>rfl) (fun _ _=>rfl) (fun v Cn _ hT h=>by
   obtain⟨u,hu,hd,_⟩:=Xu (S1 (fun t ht=>(look v t ht).symm) hl) h
   exact⟨u,Agv (fun y hy i hi=>hT.far i (OL y hy i hi) (hw.1 y hy i hi)) hu,hd⟩) h
 obtain⟨v,hv,hd⟩:=h1;refine DH hl hv hd ?_;have t2:∀t∈looks ops x,tm t=Bj tm o.dst v t:=fun t ht=>(Ea ox t ht).symm
 rw[G7 (by rw[←Gi t2];exact hx)]
 refine Iu (P:=P) (N:=N) (o:=x) (tm:=tm) (tm':=Bj tm o.dst v) (hp:=hp) (Cd:=hp) (Rel:=fun (a b:Option R)=>a=some r->b=some r) (fun h=>by cases h) (Eu t2) (fun _ _=>.inl rfl) (fun _ _=>rfl) (fun _ _=>rfl) (fun u Cn Er hT h=>?_) h
 have e1:Cn=Er:=funext fun i=>hT.same i rfl
 subst e1;obtain⟨v',Lx,_,h'⟩:=Xu (S1 (fun t ht=>(look u t ht).symm) hl) h
 have he:=Agv (fun y hy i hi=>hT.far i (fun hR=>OL y hy i hi (Abm (fun t ht=>(t2 t ht).symm) hR)) (hw.1 y hy i hi)) Lx
 rw[hv] at he;simp only[Option.some.injEq,Prod.mk.injEq,and_true] at he;subst he;rw[←Ic ne];exact h'
theorem Ahu (xo:∀d,x.dst=some d->d ∉ looks ops o)(ne:∀d,x.dst=some d->o.dst≠some d)(ox:∀d,o.dst=some d->d ∉ looks ops x)(hl:FF P ops x s.tm)
  (OL:∀y∈x.op.operands.toList,∀i∈Br (Bz s.tm y),¬S6 o s.tm s.hp i) (ho:Fy C P ops o s.tm=true)
  (h:De C P N call ops x s (fun s1=>De C P N call ops o s1 K)=some r):De C P N call ops o s (fun s1=>De C P N call ops x s1 K)=some r:=by
 obtain⟨tm,hp⟩:=s;obtain⟨v,hv,hd,h1⟩:=Xu hl h;have t1:∀t∈looks ops o,Bj tm x.dst v t=tm t:=Ea xo;rw[G7 (by rw[Gi t1];exact ho)] at h1
 rw[G7 ho];refine Iu (P:=P) (N:=N) (o:=o) (tm:=Bj tm x.dst v) (tm':=tm) (hp:=hp) (Cd:=hp) (Rel:=fun (a b:Option R)=>a=some r->b=some r) (fun h=>by cases h) (Eu t1) (fun _ _=>.inl rfl) (fun _ _=>rfl) (fun _ _=>rfl) (fun u Cn Er hT h=>?_) h1
 have e1:Cn=Er:=funext fun i=>hT.same i rfl
 subst e1;have t2:∀t∈looks ops x,tm t=Bj tm o.dst u t:=fun t ht=>(Ea ox t ht).symm
 refine DH (S1 t2 hl) (T9 (s:=⟨tm,hp⟩) (s':=⟨Bj tm o.dst u,Cn⟩) t2 (fun _ y hy i hi=>?_) hv) hd ?_
 ·have hi:i∈Br (Bz tm y):=by rw[Eu t2 y hy];exact hi
  by_cases hn:hp i=none
  ·exact .inr ⟨XK hn,I5 hn⟩
  ·obtain⟨h3,h4⟩:=Ak3 (hT.far i (OL y hy i hi) hn);exact .inl ⟨h3.symm,h4.symm⟩
 ·rw[←Ic ne];exact h
def HM (P:Program)(x:Oper)(s s1:St):Prop:=(∀t,x.dst≠some t->s1.tm t=s.tm t)∧(∀i,s.hp i≠none->s1.hp i≠none)∧(Gl P x.op=false->∀i,s.hp i≠none->s1.hp i=s.hp i)
theorem L4 {tm:Nat->PV}{d:Option Tmp}{v:PV}{t:Nat}(h:d≠some t):Bj tm d v t=tm t:=by
 cases d with
 |none=>rfl
 |some d=>exact Ai _ _ (by rintro rfl;exact h rfl)
theorem EK {K':St->Option R}(h:De C P N call ops x s K=some r)(hK:∀s1,HM P x s s1->K s1=some r->K' s1=some r):De C P N call ops x s K'=some r:=by
 cases hx:Fy C P ops x s.tm
 ·rw[Iv hx] at h ⊢;cases ex:gE C P N call ops x s with
  |none=>rw[ex] at h;cases h
  |some q=>
   rw[ex] at h;obtain⟨hb,h1⟩:=Al h;simp only[Bool.and_eq_true] at hb;show Be _ _=_;rw[hb.1,hb.2];refine hK _ ⟨fun t ht=>L4 ht,fun i hi=>K4 hb.2 hi,fun hm i hi=>?_⟩ h1
   show Ap (Af s.hp q.2.1) q.2.2 i=s.hp i;rw[Fb hb.2 hi,((Qt ex).1 hm).1];simp
 ·rw[G7 hx] at h ⊢
  exact CY (P:=P) (N:=N) (o:=x) (tm:=s.tm) (tm':=s.tm) (hp:=s.hp) (Rel:=fun (a b:Option R)=>a=some r->b=some r) (fun h=>by cases h) (fun _ _=>rfl) (fun v Cn hh h=>hK _ ⟨fun t ht=>L4 ht,hh,fun hm=>by
   have hM:On C P x.op=true:=by unfold Fy at hx;simp only[Bool.and_eq_true] at hx;exact hx.1
   rw[Ur hM] at hm;cases hm⟩ h) h
theorem RS.keeps {s1:St}(h:RS C P o s)(ap:Vm C P ops x o)(hk:HM P x s s1):RS C P o s1:=by
 have hop:∀y∈o.op.operands.toList,Bz s1.tm y=Bz s.tm y:=fun y hy=>Eu (ops:=ops) (o:=o) (fun t ht=>hk.1 t fun hd=>ap.xo t hd ht) y hy
 refine⟨fun y hy i hi=>?_,fun hM hA y hy i hi c hc p hp k hkk=>?_⟩
 ·rw[hop y hy] at hi;exact hk.2.1 i (h.1 y hy i hi)
 ·rw[hop y hy] at hi;have hi0:=h.1 y hy i hi;rw[hk.2.2 (ap.mo hM) i hi0] at hc;exact hk.2.1 k (h.2 hM hA y hy i hi c hc p hp k hkk)
theorem BG:∀(l:List Oper){s:St}{K:St->Option R},RS C P o s->(∀x∈l,Vm C P ops x o)->Lb C P N call ops l s (fun s1=>De C P N call ops o s1 K)=some r->De C P N call ops o s (fun s1=>Lb C P N call ops l s1 K)=some r
 |[],_,_,_,_,h=>h
 |x::l,s,K,hw,ap,h=>by
  refine Asu hw (ap x (by simp)) ?_
  refine EK (K:=fun s1=>Lb C P N call ops l s1 (fun s2=>De C P N call ops o s2 K)) h fun s1 hk h1=>?_
  exact BG l (hw.keeps (ap x (by simp)) hk) (fun y hy=>ap y (List.mem_cons_of_mem _ hy)) h1
theorem P7:∀(l l':List Oper){s:St}{K:St->Option R},Lb C P N call ops (l++l') s K=Lb C P N call ops l s (fun s1=>Lb C P N call ops l' s1 K)
 |[],_,_,_=>rfl
 |x::l,l',s,K=>by
  show De C P N call ops x s (fun s1=>Lb C P N call ops (l++l') s1 K)=De C P N call ops x s (fun s1=>Lb C P N call ops l s1 _)
  congr 1
  funext s1
  exact P7 l l'
theorem Abs {l l':List Oper}(hw:RS C P o s)(ap:∀x∈l,Vm C P ops x o)(h:Lb C P N call ops (l++o::l') s K=some r):De C P N call ops o s (fun s1=>Lb C P N call ops (l++l') s1 K)=some r:=by
 rw[P7] at h;have:=BG l hw ap h;refine EK this fun s1 _ h1=>?_
 rw[P7];exact h1
end
open Go.RowKit
section
variable {R:Type} {r:R} {P:Program} {N:Nat} {w0:World} {X0:Gu} {Y:Nat->Prop} {β β':Bt} {s:St} {a:Act} {w w':World} {o:Oper} {ops:Array Oper} {C:F4} {call:Ax} {K:St->Option R}
theorem CQ (h:Cl N w0 X0 Y β s a w){j d:Nat}(hd:(ops[j]?).bind (·.dst)=some d) {v:Value}(ht:s.tm d=.sc v):yielded ops a.tmps j=match v with | .bool b=>some b|_=>none:=by
 have B5:d<N:=by
  rcases Nat.lt_or_ge d N with h'|h'
  ·exact h'
  ·rw[h.tmo d h'] at ht;cases ht
 have hv:=h.tms d B5;rw[ht] at hv;have hv:=Wu hv;have Ad5:d<a.tmps.size:=by rw[h.tsz];exact B5
 have he:a.tmps[d]?=some v:=by
  rw[Array.getElem?_eq_getElem Ad5];simp[Ad5] at hv;rw[hv]
 unfold yielded;rw[hd];simp only[Option.bind_some,he];cases v<;>rfl
theorem Sr (h:Cl N w0 X0 Y β s a w){G:S2}(Iy:OE P G w0 X0)(Dl:∀f args res,call f args=some res->C4 G P f args res){i:Nat}(hi:ops[i]?=some o) (hk:De C P N call ops o s K=some r):
  ∃s',K s'=some r∧∀(next:Act->World->Prop) (Q:Exit->Act->World->Prop),(∀a' w' β',Cl N w0 X0 Y β' s' a' w'->next a' w')->wpOp P ops Q i next a w:=by
 rw[KB] at hk
 have hw:∀b,F3 ops o s.tm=some b->Region.wanted o (yielded ops a.tmps)=b:=by
  intro b hb;unfold F3 at hb;unfold Region.wanted;cases hg:o.guard with
  |none=>rw[hg] at hb;simpa using hb
  |some q=>
   obtain⟨j,want⟩:=q;rw[hg] at hb;simp only at hb ⊢;cases hd:(ops[j]?).bind (·.dst) with
   |none=>rw[hd] at hb;cases hb
   |some d=>
    rw[hd] at hb;simp only at hb;split at hb
    ·rename_i b' ht;rw[CQ h hd ht];simp at hb;rw[←hb];cases b'<;>cases want<;>rfl
    ·rename_i ht;rw[CQ h hd ht];simp at hb;rw[hb];rfl
    ·cases hb
 split at hk
 ·cases hk
 ·rename_i hv;obtain⟨s',hs',hn⟩:=TT h Iy Dl hk;refine⟨s',hs',fun next Q Ady=>?_⟩
  unfold wpOp;rw[hi];simp only[hw _ hv,if_true];exact .inl (hn next Q Ady)
 ·rename_i hv;obtain⟨hd,hk⟩:=Al hk;refine⟨_,hk,fun next Q Ady=>?_⟩
  unfold wpOp;rw[hi];simp only[hw _ hv];refine Ady _ _ β (h.put hd (Au.sc _) (by simp[Br,B8,An]))
theorem Cl.known (h:Cl N w0 X0 Y β s a w){d:Nat}(hd:s.tm d=.ub):∃b,Cl N w0 X0 Y β ⟨Ch s.tm d (.sc (.bool b)),s.hp⟩ a w:=by
 have B5:d<N:=by
  rcases Nat.lt_or_ge d N with h'|h'
  ·exact h'
  ·rw[h.tmo d h'] at hd;cases hd
 have hu:=h.tms d B5;rw[hd] at hu;have Ho:Au w (Cw s.hp β Y) .ub (a.tmps.getD d undef):=hu
 obtain⟨b,hv⟩:∃b,a.tmps.getD d undef=.bool b:=by
  generalize a.tmps.getD d undef=x at Ho;cases Ho with
  |ub b=>exact⟨b,rfl⟩
 refine⟨b,⟨h.dfr,h.tsz,fun i hi=>?_,fun i hi=>?_,h.box,h.inj,h.blt,fun i hi=>?_,h.wfB,h.ownd,h.rngB,h.pin,h.stp,h.Yx,h.Ylt,h.fr⟩⟩
 ·show Ch s.tm d _ i=_;rw[Ai _ _ (by omega)]
  exact h.tmo i hi
 ·by_cases e:i=d
  ·subst e;show D5 _ _ _ (Ch s.tm i _ i) _;rw[Am,hv];exact Au.sc _
  ·show D5 _ _ _ (Ch s.tm d _ i) _;rw[Ai _ _ e];exact h.tms i hi
 ·by_cases e:i=d
  ·subst e;show ∀id∈Br (Ch s.tm i _ i),_;rw[Am];simp[Br,B8,An]
  ·show ∀id∈Br (Ch s.tm d _ i),_;rw[Ai _ _ e];exact h.wfT i hi
theorem IX {x y:Option R}(h:GZ x y=some r):x=some r∧y=some r:=by
 unfold GZ at h;split at h
 ·rename_i e;exact⟨h,e ▸ h⟩
 ·cases h
theorem JZ (h:Cl N w0 X0 Y β s a w){F:St->Option R}(hk:WF ops o s F=some r):∃s',F s'=some r∧Cl N w0 X0 Y β s' a w:=by
 unfold WF at hk;split at hk
 ·exact⟨s,hk,h⟩
 ·split at hk
  ·exact⟨s,hk,h⟩
  ·split at hk
   ·rename_i d _ ht;obtain⟨b,hb⟩:=h.known ht;obtain⟨h1,h2⟩:=IX hk;cases b
    ·exact⟨_,h2,hb⟩
    ·exact⟨_,h1,hb⟩
   ·exact⟨s,hk,h⟩
theorem U0 {G:S2}(Iy:OE P G w0 X0)(Dl:∀f args res,call f args=some res->C4 G P f args res){Q:Exit->Act->World->Prop}(hQ:∀s' a' w' β',K s'=some r->Cl N w0 X0 Y β' s' a' w'->Q .normal a' w'):
  ∀(l:List Nat) (os:List Oper),l.length=os.length->(∀(k i:Nat),l[k]?=some i->ops[i]?=os[k]?)->∀{s:St} {a:Act} {w:World} {β:Bt},Cl N w0 X0 Y β s a w->KP C P N call ops os s K=some r->wpOps P ops Q l a w
 |[],[],_,_,s,a,w,β,h,hk=>by
  show Q .normal a w;exact hQ s a w β hk h
 |[],_::_,hl,_,_,_,_,_,_,_=>by cases hl
 |_::_,[],hl,_,_,_,_,_,_,_=>by cases hl
 |i::l,o::os,hl,hi,s,a,w,β,h,hk=>by
  rw[wpOps_cons];obtain⟨s1,hk,h⟩:=JZ h hk;obtain⟨s',hs',hn⟩:=Sr h Iy Dl (by simpa using hi 0 i rfl) hk
  exact hn _ _ fun a' w' β' h'=>U0 Iy Dl hQ l os (by simpa using hl) (fun k j hj=>by simpa using hi (k+1) j (by simpa using hj)) h' hs'
theorem Cl.drew (h:Cl N w0 X0 Y β s a w):Cl N w0 X0 Y β s a { w with drawn:=w.drawn+1 }:=by
 have:=h.stepR (d:=none) (v:=.top) (nw:=[]) (val:=undef) (w':={ w with drawn:=w.drawn+1 }) (β':=β) rfl rfl
  ⟨rfl,rfl,rfl,⟨Nat.le_refl _,fun _ _ _=>rfl,fun _ _=>Gf.refl _ _⟩,fun _ _=>rfl,by simp,by simp,by simp,by simp,by simp,.top _,by simp[Br,B8,An]⟩
 exact this
theorem LN (h:Cl N w0 X0 Y β s a w){G:S2}(Iy:OE P G w0 X0)(Dl:∀f args res,call f args=some res->C4 G P f args res){id:Nat}{Q:Exit->Act->World->Prop}
  (hk:KP C P N call ops ops.toList s K=some r)(hQ:∀s' a' w' β',K s'=some r->Cl N w0 X0 Y β' s' a' w'->Q .normal a' w'):(Code.region id ops false).wp P Q a w:=by
 refine wp_region (U0 Iy Dl hQ (List.range ops.size) ops.toList (by simp) (fun k i hi=>?_) h hk)
 rw[List.getElem?_range] at hi
 ·simp at hi;subst hi;simp
 ·rcases Nat.lt_or_ge k ops.size with h'|h'
  ·exact h'
  ·rw[List.getElem?_eq_none (by simpa using h')] at hi;cases hi
def Kn (n:Nat)(listed:Array Bool):List Nat:=(List.range n).filter fun i=> !listed.getD i true
def Ank (ops:Array Oper)(listed:Array Bool)(o:Oper):Prop:=∀e∈o.after,Region.binds .any e=true->listed.getD e.on false=true
theorem testBit_or {a b j:Nat}:(a ||| b).testBit j=(a.testBit j||b.testBit j):=Nat.testBit_or a b j
theorem HT {acc:List Nat}{j:Nat}:∀(es:List Edge)(v:Nat),(es.foldl (fun s e=>bif Region.binds .any e then s ||| 2 ^ e.on ||| acc.getD e.on 0 else s) v).testBit j=true ->
  v.testBit j=true∨∃e∈es,Region.binds .any e=true∧(j=e.on∨(acc.getD e.on 0).testBit j=true)
 |[],v,h=>.inl h
 |e::es,v,h=>by
  rcases HT es _ h with h|⟨e',he',h⟩
  ·cases hb:Region.binds .any e<;>simp only[hb] at h
   ·exact .inl h
   ·simp only[cond_true,Nat.testBit_or,Bool.or_eq_true] at h;rcases h with (h|h)|h
    ·exact .inl h
    ·refine .inr ⟨e,by simp,hb,.inl ?_⟩
     rw[Nat.testBit_two_pow] at h;exact (of_decide_eq_true h).symm
    ·exact .inr ⟨e,by simp,hb,.inr h⟩
  ·exact .inr ⟨e',by simp[he'],h⟩
theorem N6 {listed:Array Bool}(hc:∀(j:Nat) oj,ops[j]?=some oj->listed.getD j false=true->Ank ops listed oj):
  ∀(rest done:List Oper) (acc:List Nat),ops.toList=done++rest->acc.length=done.length ->
   (∀(k:Nat) o,done[k]?=some o->Ank ops listed o->∀j,(acc.getD k 0).testBit j=true->listed.getD j false=true) ->
   ∀(k:Nat) o,ops[k]?=some o->Ank ops listed o->∀j,((G5 rest acc).getD k 0).testBit j=true->listed.getD j false=true
 |[],done,acc,he,_,h,k,o,ho,hf,j,hj=>by
  refine h k o ?_ hf j hj;rw[List.append_nil] at he;rw[←he]
  simpa using ho
 |o'::rest,done,acc,he,hl,h,k,o,ho,hf,j,hj=>by
  refine N6 hc rest (done++[o']) _ (by rw[he];simp) (by simp[hl]) ?_ k o ho hf j hj
  intro k o ho hf j hj;rcases Nat.lt_trichotomy k done.length with B5|heq|hgt
  ·rw[List.getElem?_append_left B5] at ho;rw[List.getD_eq_getElem?_getD,List.getElem?_append_left (by omega),←List.getD_eq_getElem?_getD] at hj
   exact h k o ho hf j hj
  ·subst heq;simp at ho;subst ho;rw[←hl] at hj;simp only[List.getD_eq_getElem?_getD,List.getElem?_append_right (Nat.le_refl _),Nat.sub_self,List.getElem?_cons_zero,Option.getD_some] at hj
   have hj:(o'.after.toList.foldl (fun s e=>bif Region.binds .any e then s ||| 2 ^ e.on ||| acc.getD e.on 0 else s) 0).testBit j=true:=by
    simpa only[List.getD_eq_getElem?_getD] using hj
   rcases HT _ _ hj with h0|⟨e,hm,hb,h1⟩
   ·simp at h0
   ·have DL:=hf e (by simpa using hm) hb
    rcases h1 with h1|h1
    ·rw[h1];exact DL
    ·cases hd:done[e.on]? with
     |none=>
      have:acc.getD e.on 0=0:=by
       rw[List.getD_eq_getElem?_getD,List.getElem?_eq_none (by rw[hl];exact List.getElem?_eq_none_iff.1 hd)]
       rfl
      rw[this] at h1;simp at h1
     |some oe=>
      have hoe:ops[e.on]?=some oe:=by
       rw[←Array.getElem?_toList,he,List.getElem?_append_left (by
        rcases Nat.lt_or_ge e.on done.length with h'|h'
        ·exact h'
        ·rw[List.getElem?_eq_none h'] at hd;cases hd)]
       exact hd
      exact h e.on oe hd (hc e.on oe hoe DL) j h1
  ·rw[List.getElem?_eq_none (by simp;omega)] at ho
   cases ho
theorem Un {bs:List Nat}:∀(l:List Oper)(n:Nat),AK C P ops bs l n=true->∀(k:Nat) o,l[k]?=some o->∀(j:Nat) x,ops[j]?=some x->j<n+k->CZ C P ops x o=true->(bs.getD (n+k) 0).testBit j=true
 |[],_,_,k,o,ho,_,_,_,_,_=>by simp at ho
 |o'::l,n,h,k,o,ho,j,x,hx,hj,Jg=>by
  simp only[AK,Bool.and_eq_true] at h;cases k with
  |zero=>
   simp at ho;subst ho
   have:=List.all_eq_true.1 h.1 (x,j) (by
    rw[List.mem_zipIdx_iff_getElem?]
    simpa using hx)
   simp only[Jg,Bool.not_true,Bool.or_false,Bool.or_eq_true,Bool.not_eq_true'] at this;rcases this with h'|h'
   ·have:Nat.blt j n=true:=Nat.ble_eq_true_of_le (by omega)
    rw[this] at h';cases h'
   ·exact h'
  |succ k=>
   have:=Un l (n+1) h.2 k o (by simpa using ho) j x hx (by omega) Jg
   rwa [show n+(k+1)=n+1+k by omega]
theorem Hp {n i:Nat}{listed:Array Bool}:i∈Kn n listed↔i<n∧listed.getD i true=false:=by
 unfold Kn;simp[List.mem_filter]
theorem Su {n i:Nat}{listed:Array Bool}(hi:i∈Kn n listed)(Ln:listed.size=n):∃l1 l2,Kn n listed=l1++i::l2∧Kn n (listed.setIfInBounds i true)=l1++l2∧∀j∈l1,j<i:=by
 obtain⟨B5,H6⟩:=Hp.1 hi
 have hr:List.range n=List.range i++i::(List.range (n-i-1)).map (i+1 + ·):=by
  conv=>lhs;rw[show n=i+(1+(n-i-1)) by omega]
  rw[List.range_add,List.range_add];simp[Nat.add_assoc]
 refine⟨(List.range i).filter fun i=> !listed.getD i true,((List.range (n-i-1)).map (i+1 + ·)).filter fun i=> !listed.getD i true,?_,?_,fun j hj=>?_⟩
 ·unfold Kn;rw[hr,List.filter_append,List.filter_cons_of_pos (by rw[H6];rfl)]
 ·unfold Kn;rw[hr,List.filter_append,List.filter_cons_of_neg (by simp[Ln,B5])]
  congr 1
  ·refine List.filter_congr fun j hj=>?_
   rw[getD_set_ne true (by have:=List.mem_range.1 hj;omega)]
  ·refine List.filter_congr fun j hj=>?_
   obtain⟨k,_,rfl⟩:=List.mem_map.1 hj;rw[getD_set_ne true (by omega)]
 ·exact List.mem_range.1 (List.mem_filter.1 hj).1
theorem Afc (h:Cl N w0 X0 Y β s a w)(o:Oper):RS C P o s:=by
 refine⟨fun y _ i hi=>Eh h y i hi,fun _ _ y _ i hi c hc p hp k hk=>h.wfB i c hc p hp k hk⟩
theorem JA (Adz:(ops.toList.zipIdx.all fun q=>q.1.after.toList.all fun e=> !Region.binds .any e||Nat.blt e.on q.2)=true) {listed:Array Bool}(inv:HeadInv .any ops ops.size listed)(hr:Region.ready .any ops listed=[]):Kn ops.size listed=[]:=by
 cases hp:Kn ops.size listed with
 |nil=>rfl
 |cons i l=>
  exfalso;have hi:i∈Kn ops.size listed:=by rw[hp];simp
  obtain⟨B5,H6⟩:=Hp.1 hi;obtain⟨l1,l2,h1,_,h3⟩:=Su hi inv.size
  have DL:l1=[]:=by
   cases l1 with
   |nil=>rfl
   |cons j l1=>
    rw[hp] at h1;simp at h1;have:=h3 j (by simp)
    omega
  subst DL
  have Axo:∀j,j<i->listed.getD j false=true:=by
   intro j hj;cases hh:listed.getD j false with
   |true=>rfl
   |false=>
    have:j∈Kn ops.size listed:=Hp.2 ⟨by omega,getD_in (by rw[inv.size];omega) hh⟩
    have hs:(Kn ops.size listed).Pairwise (· < ·):=List.Pairwise.filter _ List.pairwise_lt_range
    rw[h1] at this hs;simp at this;rcases this with e|e
    ·omega
    ·have:=(List.pairwise_cons.1 hs).1 j e;omega
  have:i∈Region.ready .any ops listed:=by
   refine mem_ready.2 ⟨H6,ops[i],Array.getElem?_eq_getElem B5,fun e he hb=>Axo _ ?_⟩
   have:=List.all_eq_true.1 Adz (ops[i],i) (by
    rw[List.mem_zipIdx_iff_getElem?];simp[B5])
   have:=List.all_eq_true.1 this e (Array.mem_toList_iff.2 he);simp only[hb,Bool.not_true,Bool.false_or] at this;exact Nat.lt_of_succ_le (Nat.le_of_ble_eq_true this)
  rw[hr] at this;simp at this
theorem JO {G:S2}(Iy:OE P G w0 X0)(Dl:∀f args res,call f args=some res->C4 G P f args res)(hok:HJ C P ops=true){Q:Exit->Act->World->Prop}(hQ:∀s' a' w' β',K s'=some r->Cl N w0 X0 Y β' s' a' w'->Q .normal a' w'):
  ∀(fuel:Nat) {listed:Array Bool} {s:St} {a:Act} {w:World} {β:Bt},HeadInv .any ops ops.size listed->(Kn ops.size listed).length=fuel->Cl N w0 X0 Y β s a w->Lb C P N call ops ((Kn ops.size listed).filterMap (ops[·]?)) s K=some r->wpAny P .any ops Q fuel listed a w:=by
 unfold HJ at hok;simp only[Bool.and_eq_true] at hok;obtain⟨Adz,Am2⟩:=hok;intro fuel
 induction fuel with
 |zero=>
  intro listed s a w β inv hf h hk;have hp:=List.eq_nil_of_length_eq_zero hf;rw[hp] at hk;refine⟨?_,hQ s a w β hk h⟩;cases hr:Region.ready .any ops listed with
  |nil=>rfl
  |cons i l=>
   exfalso;have hi:i∈Region.ready .any ops listed:=by rw[hr];simp
   obtain⟨H6,o,ho,_⟩:=mem_ready.1 hi;have:i∈Kn ops.size listed:=Hp.2 ⟨(Array.getElem?_eq_some_iff.1 ho).1,H6⟩;rw[hp] at this;simp at this
 |succ fuel ih=>
  intro listed s a w β inv hf h hk;refine⟨fun hr=>?_,fun i hi=>?_⟩
  ·rw[JA Adz inv hr] at hf;cases hf
  ·obtain⟨H6,o,ho,Lt⟩:=mem_ready.1 hi;have B5:i<ops.size:=(Array.getElem?_eq_some_iff.1 ho).1;obtain⟨l1,l2,h1,h2,h3⟩:=Su (Hp.2 ⟨B5,H6⟩) inv.size;rw[h1,List.filterMap_append,List.filterMap_cons_some ho] at hk
   have P9:∀x∈l1.filterMap (ops[·]?),Vm C P ops x o:=by
    intro x hx;obtain⟨j,hj,hxj⟩:=List.mem_filterMap.1 hx;refine Adg ?_;cases Jg:CZ C P ops x o with
    |false=>rfl
    |true=>
     exfalso;have FX:=Un ops.toList 0 Am2 i o (by simpa using ho) j x hxj (by have:=h3 j hj;omega) Jg
     rw[Nat.zero_add] at FX;have hjl:=N6 (listed:=listed) (fun j oj hj hl=>inv.closed j oj hj hl) ops.toList [] [] (by simp) rfl (by simp) i o ho Lt j FX
     have:j∈Kn ops.size listed:=by rw[h1];simp[hj]
     have:=getD_both (Hp.1 this).2;rw[hjl] at this;cases this
   obtain⟨s',hs',hn⟩:=Sr h Iy Dl ho (Abs (Afc h o) P9 hk);refine hn _ _ fun a' w' β' h'=>ih (inv.set hi B5) ?_ h' ?_
   ·rw[h2];rw[h1] at hf;simp at hf ⊢;omega
   ·rw[h2,List.filterMap_append];exact hs'
theorem Xw (h:Cl N w0 X0 Y β s a w){G:S2}(Iy:OE P G w0 X0)(Dl:∀f args res,call f args=some res->C4 G P f args res)(hm:P.follows .mixedOrders=true)(hok:HJ C P ops=true){Q:Exit->Act->World->Prop}
  (hk:Lb C P N call ops ops.toList s K=some r)(hQ:∀s' a' w' β',K s'=some r->Cl N w0 X0 Y β' s' a' w'->Q .normal a' w'):wpAny P .any ops Q ops.size (Array.replicate ops.size false) a { w with drawn:=w.drawn+1 }:=by
 have hp:Kn ops.size (Array.replicate ops.size false)=List.range ops.size:=by
  unfold Kn;refine List.filter_eq_self.2 fun i hi=>?_
  have:=List.mem_range.1 hi;simp[this]
 refine JO (C:=C) Iy Dl hok hQ ops.size ⟨by simp,fun j oj _ hl=>(by rw[getD_replicate_false] at hl;cases hl),fun t ht ht'=>by omega⟩ (by rw[hp];simp) h.drew ?_
 rw[hp]
 have:(List.range ops.size).filterMap (ops[·]?)=ops.toList:=by
  refine List.ext_getElem? fun k=>?_
  have:∀(n:Nat),n<=ops.size->(List.range n).filterMap (ops[·]?)=ops.toList.take n:=by
   intro n
   induction n with
   |zero=>intro _;rfl
   |succ n ih=>
    intro hn;rw[List.range_succ,List.filterMap_append,ih (by omega),List.take_add_one]
    congr 1
    have:ops[n]?=some ops[n]:=Array.getElem?_eq_getElem (by omega)
    simp[this]
  rw[this ops.size (Nat.le_refl _)]
  congr 1
  exact List.take_of_length_le (by simp)
 rw[this];exact hk
theorem JS (h:Cl N w0 X0 Y β s a w){G:S2}(Iy:OE P G w0 X0)(Dl:∀f args res,call f args=some res->C4 G P f args res)(hm:P.follows .mixedOrders=true)(hok:HJ C P ops=true){id:Nat}{Q:Exit->Act->World->Prop}
  (hk:Lb C P N call ops ops.toList s K=some r)(hQ:∀s' a' w' β',K s'=some r->Cl N w0 X0 Y β' s' a' w'->Q .normal a' w'):(Code.region id ops true).wp P Q a w:=
 wp_region_any hm (Xw h Iy Dl hm hok hk hQ)
end
end
section
open Go.RowKit
section
variable {R R':Type} {Rel:Option R->Option R'->Prop} {P:Program} {N:Nat} {tm tm':Nat->PV} {hp Cd:Nat->Option Bl} {o:Oper}
theorem Abv (hn:Rel none none){C:F4}{call:Ax}{K:St->Option R}{K':St->Option R'}(P9:K2 o.op=true)(H4:∀x∈o.op.operands.toList,Bz tm x=Bz tm' x)
  (hS:∀i,S6 o tm' Cd i->hp i=Cd i∨(hp i=none∧∀b,Rel none b)) (GX:∀d,o.dst=some d->hp d=Cd d)
  (hK:∀v Cn Er,(∀M,FS M (S6 o tm' Cd) o.dst hp Cd Cn Er)->Rel (K ⟨Bj tm o.dst v,Cn⟩) (K' ⟨Bj tm' o.dst v,Er⟩)):Rel (Rx C P N call ⟨tm,hp⟩ o K) (Rx C P N call ⟨tm',Cd⟩ o K'):=by
 unfold Rx;have hl:∀x∈o.op.operands.toList,∀i∈Br (Bz tm' x),S6 o tm' Cd i:=fun x hx i hi=>.inl ⟨x,hx,hi⟩
 generalize hLd:S6 o tm' Cd=S at *
 generalize hop:o.op=op at *
 unfold K2 at P9;split at P9
 ·rename_i c
  have Ij:∀x∈c.args.toList,x∈(Op.call c).operands.toList:=by
   intro x hx;simp only[Op.operands,Call.operands,Array.toList_append,List.mem_append];exact .inr hx
  split at P9
  ·rename_i hc;simp only[hc];refine Cx hn fun d hd=>Bg hn fun x _ hx=>Bg hn fun y _ hy=>Em hn (Bg hn fun _ _ _=>Bg hn fun _ _ _=>?_)
   subst hy;have hxm:=Ij x (by rw[hx];simp)
   have hym:=Ij y (by rw[hx];simp)
   simp only[H4 x hxm,H4 y hym];refine U8 hn hS (GX d hd) (fun i hi=>hl x hxm i (E0 hi)) (fun i hi=>hl y hym i (E0 hi)) fun v Cn Er hh=>?_
   have:=hK v Cn Er (by rw[hd];exact hh)
   rw[hd] at this;exact this
  ·cases P9
 ·cases P9
theorem Ni {C:F4}{call:Ax}(P9:K2 o.op=true)(H4:∀x∈o.op.operands.toList,Bz tm x=Bz tm' x)(hS:∀i,S6 o tm' Cd i->hp i=Cd i)(GX:∀d,o.dst=some d->hp d=Cd d){s1:St}
  (h:Rx C P N call ⟨tm,hp⟩ o some=some s1):∃v Cn Er,s1=⟨Bj tm o.dst v,Cn⟩∧Rx C P N call ⟨tm',Cd⟩ o some=some ⟨Bj tm' o.dst v,Er⟩∧∀M,FS M (S6 o tm' Cd) o.dst hp Cd Cn Er:=by
 have:=Abv (P:=P) (N:=N) (C:=C) (call:=call) (o:=o) (tm:=tm) (tm':=tm') (hp:=hp) (Cd:=Cd) (K:=some) (K':=some)
  (Rel:=fun (a b:Option St)=>∀s1,a=some s1->∃v Cn Er,s1=⟨Bj tm o.dst v,Cn⟩∧b=some ⟨Bj tm' o.dst v,Er⟩∧∀M,FS M (S6 o tm' Cd) o.dst hp Cd Cn Er) (fun _ h=>by cases h) P9 H4 (fun i hi=>.inl (hS i hi)) GX
  (fun v Cn Er hT s1 h=>by cases h;exact⟨v,Cn,Er,rfl,rfl,hT⟩)
 exact this s1 h
end
section
variable {R R':Type} {r:R} {r':R'} {C:F4} {P:Program} {N:Nat} {call:Ax} {ops:Array Oper} {o x:Oper} {s s1 s2:St} {K:St->Option R}
theorem Qg {tm:Nat->PV}(h:Fy C P ops o tm=true):On C P o.op=true:=by
 unfold Fy at h;simp only[Bool.and_eq_true] at h;exact h.1
theorem KC (h:K2 o.op=true):On C P o.op=true:=by
 unfold K2 at h;split at h
 ·rename_i c hc;rw[hc];split at h
  ·rename_i YN;simp only[On,YN];exact h
  ·cases h
 ·cases h
theorem K7 (h:De C P N call ops x s K=some r):∃s1,De C P N call ops x s some=some s1∧HM P x s s1∧(Qq P x.op=true->s1.hp=s.hp)∧K s1=some r:=by
 cases hx:Fy C P ops x s.tm
 ·rw[Iv hx] at h ⊢;cases ex:gE C P N call ops x s with
  |none=>rw[ex] at h;cases h
  |some q=>
   rw[ex] at h;obtain⟨hb,h1⟩:=Al h;simp only[Bool.and_eq_true] at hb;refine⟨_,?_,⟨fun t ht=>L4 ht,fun i hi=>K4 hb.2 hi,fun hm i hi=>?_⟩,fun hl=>?_,h1⟩
   ·show Be _ _=_;rw[hb.1,hb.2];rfl
   ·show Ap (Af s.hp q.2.1) q.2.2 i=s.hp i;rw[Fb hb.2 hi,((Qt ex).1 hm).1];simp
   ·show Ap (Af s.hp q.2.1) q.2.2=s.hp;obtain⟨h1,h2⟩:=XT (.inl hl) ex;rw[h1,h2]
    funext i
    show Af s.hp [] i=_;rw[Bv];simp
 ·rw[G7 hx] at h ⊢
  exact CY (P:=P) (N:=N) (o:=x) (tm:=s.tm) (tm':=s.tm) (hp:=s.hp) (K':=some) (Rel:=fun (a:Option R) (b:Option St)=>a=some r->∃s1,b=some s1∧HM P x s s1∧(Qq P x.op=true->s1.hp=s.hp)∧K s1=some r) (fun h=>by cases h) (fun _ _=>rfl) (fun v Cn hh h=>⟨_,rfl,⟨fun t ht=>L4 ht,hh,fun hm=>(by
   rw[Ur (Qg hx)] at hm;cases hm)⟩,fun hl=>(by
   have:=Qg hx;rw[Is hl] at this;cases this),h⟩) h
theorem Q2 {K':St->Option R'}(h:De C P N call ops x s some=some s1)(hk:K' s1=some r'):De C P N call ops x s K'=some r':=by
 cases hx:Fy C P ops x s.tm
 ·rw[Iv hx] at h ⊢;cases ex:gE C P N call ops x s with
  |none=>rw[ex] at h;cases h
  |some q=>
   rw[ex] at h;obtain⟨hb,h1⟩:=Al h;show Be _ _=_;rw[hb];cases h1;exact hk
 ·rw[G7 hx] at h ⊢;exact CY (P:=P) (N:=N) (o:=x) (tm:=s.tm) (tm':=s.tm) (hp:=s.hp) (K:=some) (Rel:=fun (a:Option St) (b:Option R')=>a=some s1->b=some r') (fun h=>by cases h) (fun _ _=>rfl) (fun v Cn hh h=>by cases h;exact hk) h
theorem KF {d:Nat}{t tx:TypeId}{b y:PV}(h:Lz P N s d t tx b y K=some r):s.hp d=none:=by
 unfold Lz at h;split at h
 ·obtain⟨_,h⟩:=Al h;cases hI:Up P tx
  ·rw[hI,cond_false] at h;refine Wk (P:=P) (tm:=s.tm) (tm':=s.tm) (hp:=s.hp) (Cd:=s.hp) (S:=fun _=>True) (K':=fun _ _=>(none:Option R)) (Rel:=fun (a:Option R) (_:Option R)=>a=some r->s.hp d=none) (fun h=>by cases h) (fun _ _=>.inl rfl) (fun _ _=>trivial) (fun m new h=>?_) h
   split at h
   ·split at h
    ·obtain⟨hb,_⟩:=Al h;simp only[Bool.and_eq_true,Option.isNone_iff_eq_none] at hb;simp only[hb]
    ·cases h
   ·obtain⟨_,_,_,h,_⟩:=Ew h;obtain⟨hb,_⟩:=Al h;simp only[Bool.and_eq_true,Option.isNone_iff_eq_none] at hb;simp only[hb]
  ·rw[hI,cond_true] at h;unfold Pw at h;obtain⟨_,_,_,h⟩:=Db h;obtain⟨_,_,_,h,_⟩:=Ew h;obtain⟨hb,_⟩:=Al h;simp only[Bool.and_eq_true,Option.isNone_iff_eq_none] at hb;simp only[hb]
 ·cases h
theorem Ait (hw:RS C P o s)(hwx:∀y∈x.op.operands.toList,∀i∈Br (Bz s.tm y),s.hp i≠none) (xo:∀d,x.dst=some d->d ∉ looks ops o)(ne:∀d,x.dst=some d->o.dst≠some d)(ox:∀d,o.dst=some d->d ∉ looks ops x)
  (Cz:K2 x.op=true)(ZK:K2 o.op=true)(OL:∀i,S6 x s.tm s.hp i->¬S6 o s.tm s.hp i)(hx:Fy C P ops x s.tm=true)(ho:Fy C P ops o s.tm=true)
  (h:De C P N call ops x s (fun s1=>De C P N call ops o s1 K)=some r):De C P N call ops o s (fun s1=>De C P N call ops x s1 K)=some r:=by
 obtain⟨tm,hp⟩:=s;obtain⟨s1,e1,_,_,h⟩:=K7 h;obtain⟨s2,e2,_,_,h⟩:=K7 h;rw[G7 hx] at e1
 have hSx:∀i,S6 x tm hp i->hp i≠none:=by
  rintro i (⟨y,hy,hi⟩|⟨P9,_⟩)
  ·exact hwx y hy i hi
  ·rw[Cz] at P9;cases P9
 have hSo:∀i,S6 o tm hp i->hp i≠none:=by
  rintro i (⟨y,hy,hi⟩|⟨P9,_⟩)
  ·exact hw.1 y hy i hi
  ·rw[ZK] at P9;cases P9
 obtain⟨vx,hpx,Ai1,rfl,e1',T1⟩:=Ni Cz (fun _ _=>rfl) (fun _ _=>rfl) (fun _ _=>rfl) e1
 have:Ai1=hpx:=by
  rw[e1] at e1';injection e1' with q;injection q with _ q;exact q.symm
 subst this;have t1:∀t∈looks ops o,Bj tm x.dst vx t=tm t:=Ea xo;have t1o:=Eu (ops:=ops) (o:=o) t1;rw[G7 (by rw[Gi t1];exact ho)] at e2
 have hRo:∀i,S6 o (Bj tm x.dst vx) Ai1 i↔S6 o tm hp i:=by
  intro i;constructor
  ·rintro (⟨y,hy,hi⟩|⟨P9,_⟩)
   ·exact .inl ⟨y,hy,by rw[←t1o y hy];exact hi⟩
   ·rw[ZK] at P9;cases P9
  ·rintro (⟨y,hy,hi⟩|⟨P9,_⟩)
   ·exact .inl ⟨y,hy,by rw[t1o y hy];exact hi⟩
   ·rw[ZK] at P9;cases P9
 have Aky:∀{s:St} {o:Oper} {s2:St},K2 o.op=true->Rx C P N call s o some=some s2->∀d,o.dst=some d->s.hp d=none:=by
  intro s o s2 ZK e d hd;unfold Rx at e;unfold K2 at ZK;split at ZK
  ·rename_i c hc;rw[hc] at e;simp only at e;split at ZK
   ·rename_i YN;rw[YN] at e;simp only[hd,Do] at e;obtain⟨_,_,_,e⟩:=A7 e;obtain⟨_,_,_,e⟩:=A7 e;obtain⟨_,e⟩:=Dc e;obtain⟨_,_,_,e⟩:=A7 e;obtain⟨_,_,_,e⟩:=A7 e;exact KF e
   ·cases ZK
  ·cases ZK
 have A2h:∀d,o.dst=some d->hp d=none:=by
  intro d hd;have h0:=Aky ZK e2 d hd;cases hh:hp d with
  |none=>rfl
  |some b=>exact absurd h0 ((T1 0).keep d (by rw[hh];simp))
 have Auc:=Aky Cz e1;simp only at Auc;have hoS:∀d,o.dst=some d->¬S6 x tm hp d:=fun d hd hR=>hSx d hR (A2h d hd)
 have hxS:∀d,x.dst=some d->¬S6 o tm hp d:=fun d hd hR=>hSo d hR (Auc d hd)
 obtain⟨vo,A7r,hpo,rfl,e3,T2⟩:=Ni (tm':=tm) (Cd:=hp) ZK t1o (fun i hi=>(T1 0).far i (fun hR=>OL i hR hi) (hSo i hi)) (fun d hd=>((T1 (d+1)).off d (by omega) (fun e=>ne d e hd) (.inl (hoS d hd))).1) e2
 obtain⟨vo',Az6,QI,e3a,e3b,T3⟩:=Ni (tm':=tm) (Cd:=hp) ZK (fun _ _=>rfl) (fun _ _=>rfl) (fun _ _=>rfl) e3
 rw[e3] at e3b
 have A2i:Az6=hpo∧QI=hpo:=by
  injection e3a with _ q1;injection e3b with q2;injection q2 with _ q3;exact⟨q1.symm,q3.symm⟩
 obtain⟨rfl,rfl⟩:=A2i;have t2:∀t∈looks ops x,tm t=Bj tm o.dst vo t:=fun t ht=>(Ea ox t ht).symm
 have t2x:=Eu (ops:=ops) (o:=x) t2
 have hRx:∀i,S6 x (Bj tm o.dst vo) QI i↔S6 x tm hp i:=by
  intro i;constructor
  ·rintro (⟨y,hy,hi⟩|⟨P9,_⟩)
   ·exact .inl ⟨y,hy,by rw[t2x y hy];exact hi⟩
   ·rw[Cz] at P9;cases P9
  ·rintro (⟨y,hy,hi⟩|⟨P9,_⟩)
   ·exact .inl ⟨y,hy,by rw[←t2x y hy];exact hi⟩
   ·rw[Cz] at P9;cases P9
 obtain⟨vx2,A0g,Axa,e4a,e4,T4⟩:=Ni (tm':=Bj tm o.dst vo) (Cd:=QI) Cz t2x (fun i hi=>((T3 0).far i (OL i ((hRx i).1 hi)) (hSx i ((hRx i).1 hi))).symm) (fun d hd=>((T3 (d+1)).off d (by omega) (fun e=>ne d hd e) (.inl (hxS d hd))).1.symm) e1
 have hvx:Bj tm x.dst vx=Bj tm x.dst vx2∧Ai1=A0g:=by
  injection e4a with q1 q2;exact⟨q1,q2⟩
 obtain⟨hvx,rfl⟩:=hvx;obtain⟨_,Rv,Kp,e5a,e5b,T5⟩:=Ni (tm':=Bj tm x.dst vx) (Cd:=Ai1) ZK (fun _ _=>rfl) (fun _ _=>rfl) (fun _ _=>rfl) e2
 have hq:Rv=A7r:=by injection e5a with _ q1;exact q1.symm
 subst hq;obtain⟨_,hu1,hu2,e6a,e6b,T6⟩:=Ni (tm':=Bj tm o.dst vo) (Cd:=QI) Cz (fun _ _=>rfl) (fun _ _=>rfl) (fun _ _=>rfl) e4
 have hu:hu1=Axa:=by injection e6a with _ q1;exact q1.symm
 subst hu
 have Ij:Rv=hu1:=by
  funext i
  by_cases hi:S6 o tm hp i∨o.dst=some i
  ·have hxi:¬S6 x tm hp i:=by
    rcases hi with hi|hi
    ·exact fun hR=>OL i hR hi
    ·exact hoS i hi
   have hdi:x.dst≠some i:=by
    rcases hi with hi|hi
    ·exact fun e=>hxS i e hi
    ·exact fun e=>ne i e hi
   rw[(T2 0).same i ((T1 (i+1)).off i (by omega) hdi (.inl hxi)).1]
   exact ((T6 (i+1)).off i (by omega) hdi (.inl fun hR=>hxi ((hRx i).1 hR))).1.symm
  ·have hoi:¬S6 o tm hp i:=fun e=>hi (.inl e)
   have hdi:o.dst≠some i:=fun e=>hi (.inr e)
   rw[((T5 (i+1)).off i (by omega) hdi (.inl fun hR=>hoi ((hRo i).1 hR))).1]
   exact (T4 0).same i ((T3 (i+1)).off i (by omega) hdi (.inl hoi)).1.symm
 refine Q2 (s1:=⟨Bj tm o.dst vo,QI⟩) (by rw[G7 ho];exact e3) ?_
 refine Q2 (s1:=⟨Bj (Bj tm o.dst vo) x.dst vx2,hu1⟩) (by rw[G7 (by rw[←Gi t2];exact hx)];exact e4) ?_
 rw[←Ic ne,←hvx,←Ij];exact h
theorem Tr (hM:On C P o.op=true){i:Nat}(h:S6 o s.tm s.hp i):i∈J0 C P s o:=by
 unfold J0;rw[hM];cases hA:K2 o.op
 ·simp only[Bool.not_false,Bool.and_self,cond_true,List.mem_append];rcases h with⟨y,hy,hi⟩|⟨_,id,c,⟨y,hy,hi⟩,hc,p,hp,hk⟩
  ·exact .inl (List.mem_flatMap.2 ⟨y,hy,hi⟩)
  ·refine .inr (List.mem_flatMap.2 ⟨id,List.mem_flatMap.2 ⟨y,hy,hi⟩,?_⟩);rw[hc];exact List.mem_flatMap.2 ⟨p,hp,hk⟩
 ·simp only[Bool.not_true,Bool.and_false,cond_false,Bool.or_true,cond_true];rcases h with⟨y,hy,hi⟩|⟨hn,_⟩
  ·exact List.mem_flatMap.2 ⟨y,hy,hi⟩
  ·rw[hA] at hn;cases hn
theorem AG (hl:On C P o.op=true∨Qq P o.op=true){y:Operand}(hy:y∈o.op.operands.toList){i:Nat}(h:i∈Br (Bz s.tm y)):i∈J0 C P s o:=by
 rcases hl with hM|hl
 ·exact Tr hM (.inl ⟨y,hy,h⟩)
 ·unfold J0;rw[Is hl,hl];exact List.mem_flatMap.2 ⟨y,hy,h⟩
theorem NF (ht:∀t∈looks ops o,s1.tm t=s.tm t)(hh:On C P o.op=true->K2 o.op=false->∀y∈o.op.operands.toList,∀i∈Br (Bz s.tm y),s1.hp i=s.hp i):J0 C P s1 o=J0 C P s o:=by
 have he:=Eu (ops:=ops) (o:=o) ht
 have hl:(o.op.operands.toList.flatMap fun y=>Br (Bz s1.tm y))=o.op.operands.toList.flatMap fun y=>Br (Bz s.tm y):=by
  have Amh:∀l:List Operand,(∀y∈l,Bz s1.tm y=Bz s.tm y)->(l.flatMap fun y=>Br (Bz s1.tm y))=l.flatMap fun y=>Br (Bz s.tm y):=by
   intro l
   induction l with
   |nil=>intro _;rfl
   |cons a l ih=>intro h;simp only[List.flatMap_cons];rw[h a (by simp),ih fun y hy=>h y (by simp[hy])]
  exact Amh _ he
 unfold J0;simp only[hl];cases hM:(On C P o.op && !K2 o.op)
 ·rfl
 ·simp only[cond_true];simp only[Bool.and_eq_true,Bool.not_eq_true'] at hM
  congr 1
  have Amh:∀l:List Nat,(∀i∈l,s1.hp i=s.hp i)->(l.flatMap fun i=>match s1.hp i with|some (.st c)=>c.flatMap An|_=>[])=l.flatMap fun i=>match s.hp i with|some (.st c)=>c.flatMap An|_=>[]:=by
   intro l
   induction l with
   |nil=>intro _;rfl
   |cons a l ih=>intro h;simp only[List.flatMap_cons];rw[h a (by simp),ih fun y hy=>h y (by simp[hy])]
  exact Amh _ fun i hi=>by
   obtain⟨y,hy,hi⟩:=List.mem_flatMap.1 hi;exact hh hM.1 hM.2 y hy i hi
theorem Vz {a b:List Nat}(h:Aa6 a b=true){i:Nat}(ha:i∈a)(hb:i∈b):False:=by
 have:=List.all_eq_true.1 h i ha;have h2:b.any (Nat.beq i)=true:=List.any_eq_true.2 ⟨i,hb,Nat.beq_refl i⟩;rw[h2] at this;cases this
theorem Abt {a b:List Nat}(h:Aa6 a b=true):Aa6 b a=true:=by
 refine List.all_eq_true.2 fun i hi=>?_
 cases hc:a.any (Nat.beq i)
 ·rfl
 ·obtain⟨j,hj,e⟩:=List.any_eq_true.1 hc;rw[Nat.eq_of_beq_eq_true e] at hi;exact (Vz h hj hi).elim
theorem Sq:H7 C P x o=H7 C P o x:=by
 unfold H7;cases On C P x.op<;>cases On C P o.op<;>cases Qq P x.op<;>cases Qq P o.op<;>cases K2 x.op<;>cases K2 o.op<;>rfl
structure Jp (C:F4) (P:Program) (ops:Array Oper) (x o:Oper):Prop where
 xo:∀d,x.dst=some d->d ∉ looks ops o
 ne:∀d,x.dst=some d->o.dst≠some d
 ox:∀d,o.dst=some d->d ∉ looks ops x
 me:Ny C P x o=false∨H7 C P x o=true
theorem Abj (h:Aey C P ops x o=false):Jp C P ops x o:=by
 unfold Aey at h;simp only[Bool.or_eq_false_iff] at h;obtain⟨h1,h2⟩:=h;have hT:=h1;unfold Aci at h1;simp only[Bool.or_eq_false_iff] at h1
 have a1:CZ C P ops x o=false∨Ny C P x o=true:=by
  cases hc:Ny C P x o
  ·left;unfold CZ;unfold Ny at hc;simp only[Bool.or_eq_false_iff] at hc ⊢;exact⟨⟨⟨h1.1,h1.2⟩,hc.1⟩,hc.2⟩
  ·exact .inr rfl
 refine⟨fun d hd=>?_,fun d hd he=>?_,fun d hd=>?_,?_⟩
 ·have:=h1.1;simp only[hd,Bool.or_eq_false_iff] at this;exact Oo this.1
 ·have:=h1.1;simp only[hd,he,Bool.or_eq_false_iff] at this;rw[Nat.beq_refl] at this;cases this.2
 ·have:=h1.2;simp only[hd] at this;exact Oo this
 ·cases hc:Ny C P x o
  ·exact .inl rfl
  ·rw[hc] at h2;right
   simpa using h2
theorem Jp.apart (ap:Jp C P ops x o)(h:Ny C P x o=false):Vm C P ops x o:=by
 unfold Ny at h;simp only[Bool.or_eq_false_iff,Bool.and_eq_false_iff] at h;refine⟨ap.xo,ap.ne,ap.ox,fun hm=>?_,fun hm=>?_⟩
 ·rcases h.1 with h|h
  ·rw[hm] at h;cases h
  ·exact h
 ·rcases h.2 with h|h
  ·rw[hm] at h;cases h
  ·exact h
theorem Jp.same (ap:Jp C P ops x o)(hk:HM P x s s1)(hl:Qq P x.op=true->s1.hp=s.hp)(hM:On C P o.op=true)(hA:K2 o.op=false){i:Nat}(hi:s.hp i≠none):s1.hp i=s.hp i:=by
 rcases ap.me with h|h
 ·exact hk.2.2 ((ap.apart h).mo hM) i hi
 ·unfold H7 at h;rw[hA] at h;simp only[Bool.and_false,Bool.or_false,Bool.or_eq_true,Bool.and_eq_true] at h;rcases h with h|h
  ·have:=h.2;rw[Is (C:=C) (P:=P) this] at hM;cases hM
  ·rw[hl h.2]
theorem RS.keepsS (h:RS C P o s)(ap:Jp C P ops x o)(hk:HM P x s s1)(hl:Qq P x.op=true->s1.hp=s.hp):RS C P o s1:=by
 have hop:∀y∈o.op.operands.toList,Bz s1.tm y=Bz s.tm y:=fun y hy=>Eu (ops:=ops) (o:=o) (fun t ht=>hk.1 t fun hd=>ap.xo t hd ht) y hy
 refine⟨fun y hy i hi=>?_,fun hM hA y hy i hi c hc p hp k hkk=>?_⟩
 ·rw[hop y hy] at hi;exact hk.2.1 i (h.1 y hy i hi)
 ·rw[hop y hy] at hi;rw[ap.same hk hl hM hA (h.1 y hy i hi)] at hc;exact hk.2.1 k (h.2 hM hA y hy i hi c hc p hp k hkk)
theorem Jp.symm (ap:Jp C P ops x o):Jp C P ops o x:=by
 refine⟨ap.ox,fun d hd he=>ap.ne d he hd,ap.xo,?_⟩
 rcases ap.me with h|h
 ·left;unfold Ny at h ⊢;rw[Bool.or_comm];exact h
 ·right;rw[Sq];exact h
theorem Au4 (hw:RS C P o s)(hwx:H7 C P x o=true->∀i∈J0 C P s x,s.hp i≠none)(ap:Jp C P ops x o)(hd:H7 C P x o=true->Aa6 (J0 C P s x) (J0 C P s o)=true)
  (h:De C P N call ops x s (fun s1=>De C P N call ops o s1 K)=some r):De C P N call ops o s (fun s1=>De C P N call ops x s1 K)=some r:=by
 rcases ap.me with hm|hm
 ·exact Asu hw (ap.apart hm) h
 ·have hd:=hd hm;have hwx:=hwx hm;cases hx:Fy C P ops x s.tm
  ·cases ho:Fy C P ops o s.tm
   ·exact XE hw ap.xo ap.ne ap.ox hx ho h
   ·have hMo:=Qg ho
    have hlx:FF P ops x s.tm:=by
     cases hl:Qq P x.op
     ·right
      have hMx:On C P x.op=true:=by
       unfold H7 at hm;simp only[hl,Bool.and_false,Bool.or_false,Bool.or_eq_true,Bool.and_eq_true] at hm;rcases hm with hm|hm
       ·exact hm.1
       ·exact KC hm.1
      cases hv:F3 ops x s.tm with
      |none=>
       exfalso;rw[Iv hx] at h;unfold gE at h;rw[hv] at h;cases h
      |some b=>
       cases b
       ·rfl
       ·unfold Fy at hx;rw[hMx,hv] at hx;cases hx
     ·exact .inl hl
    refine Ahu ap.xo ap.ne ap.ox hlx (fun y hy i hi hR=>?_) ho h
    refine Vz hd (AG ?_ hy hi) (Tr hMo hR);unfold H7 at hm;simp only[Bool.or_eq_true,Bool.and_eq_true] at hm;rcases hm with (hm|hm)|hm
    ·exact .inl hm.1
    ·exact .inr hm.2
    ·exact .inl (KC hm.1)
  ·have hMx:=Qg hx;cases ho:Fy C P ops o s.tm
   ·have hlo:FF P ops o s.tm:=by
     cases hl:Qq P o.op
     ·right
      have hMo:On C P o.op=true:=by
       unfold H7 at hm;simp only[hl,Bool.and_false,Bool.false_or,Bool.or_eq_true,Bool.and_eq_true] at hm;rcases hm with hm|hm
       ·exact hm.1
       ·exact KC hm.2
      cases hv:F3 ops o s.tm with
      |none=>
       exfalso;obtain⟨s1,_,hk,_,h⟩:=K7 h;have hv1:F3 ops o s1.tm=none:=by rw[Iw (fun t ht=>hk.1 t fun hd=>ap.xo t hd ht)];exact hv
       rw[Iv (by unfold Fy;rw[hv1];cases On C P o.op<;>rfl)] at h
       unfold gE at h;rw[hv1] at h;cases h
      |some b=>
       cases b
       ·rfl
       ·unfold Fy at ho;rw[hMo,hv] at ho;cases ho
     ·exact .inl hl
    refine Ahk hw ap.xo ap.ne ap.ox hlo (fun y hy i hi hR=>?_) hx h
    refine Vz hd (Tr hMx hR) (AG ?_ hy hi);unfold H7 at hm;simp only[Bool.or_eq_true,Bool.and_eq_true] at hm;rcases hm with (hm|hm)|hm
    ·exact .inr hm.2
    ·exact .inl hm.1
    ·exact .inl (KC hm.2)
   ·have hMo:=Qg ho;unfold H7 at hm;simp only[Bool.or_eq_true,Bool.and_eq_true] at hm;rcases hm with (hm|hm)|hm
    ·rw[Is (C:=C) (P:=P) hm.2] at hMo;cases hMo
    ·rw[Is (C:=C) (P:=P) hm.2] at hMx;cases hMx
    ·exact Ait hw (fun y hy i hi=>hwx i (AG (.inl hMx) hy hi)) ap.xo ap.ne ap.ox hm.1 hm.2 (fun i h1 h2=>Vz hd (Tr hMx h1) (Tr hMo h2)) hx ho h
theorem Adw {α:Type}(a b:α)(l:List α)(f:α->Bool):(a::b::l).all f=(b::a::l).all f:=by
 simp only[List.all_cons];cases f a<;>cases f b<;>rfl
theorem Y8 {bs:List (List Nat)}:∀(l:List Nat){dn dn':List (Nat × Oper × List Nat)} {s:St}{K:St->Option R},(∀f,dn.all f=dn'.all f)->Gz C P N call ops bs dn l s K=Gz C P N call ops bs dn' l s K
 |[],_,_,_,_,_=>rfl
 |i::l,dn,dn',s,K,h=>by
  unfold Gz;cases ops[i]? with
  |none=>rfl
  |some o=>
   simp only[Do,h]
   congr 2
   funext s'
   exact Y8 l fun f=>by simp only[List.all_cons,h]
theorem ER {bs:List Nat}{i:Nat}(hi:ops[i]?=some o):(Yz C P ops bs).getD i []=U7 C P ops bs i o:=by
 unfold Yz;rw[List.getD_eq_getElem?_getD,List.getElem?_map,List.getElem?_zipIdx,Array.getElem?_toList,hi];simp
theorem Of {bs:List Nat}{i j:Nat}:j∈U7 C P ops bs i o↔∃x,ops[j]?=some x∧H7 C P x o=true∧(Nat.blt j i&&(bs.getD i 0).testBit j)=false∧(Nat.blt i j&&(bs.getD j 0).testBit i)=false:=by
 unfold U7;simp only[List.mem_map,List.mem_filter,Bool.and_eq_true,Bool.not_eq_true',Prod.exists];constructor
 ·rintro⟨x,k,⟨hm,⟨h1,h2⟩,h3⟩,rfl⟩
  rw[List.mem_zipIdx_iff_getElem?] at hm;exact⟨x,by simpa using hm,h1,h2,h3⟩
 ·rintro⟨x,hx,h1,h2,h3⟩
  refine⟨x,j,⟨?_,⟨h1,h2⟩,h3⟩,rfl⟩;rw[List.mem_zipIdx_iff_getElem?]
  simpa using hx
theorem AA {sm:List (List Nat)} {i j:Nat}(h:j∈sm.getD i []):Ze C P sm s i o=J0 C P s o:=by
 unfold Ze;split
 ·rename_i e;rw[e] at h;simp at h
 ·rfl
theorem Aem {sm:List (List Nat)} {i:Nat}(h:sm.getD i []≠[]->J0 C P s1 o=J0 C P s o):Ze C P sm s1 i o=Ze C P sm s i o:=by
 unfold Ze;split
 ·rfl
 ·rename_i e;exact h (by rw[e];simp)
theorem WP {l:List Nat}{j:Nat}:l.any (Nat.beq j)=true↔j∈l:=by
 constructor
 ·intro h;obtain⟨k,hk,e⟩:=List.any_eq_true.1 h;rw[Nat.eq_of_beq_eq_true e];exact hk
 ·intro h;exact List.any_eq_true.2 ⟨j,h,Nat.beq_refl j⟩
theorem Tw {bs:List Nat}{sm:List (List Nat)} (hsm:sm=Yz C P ops bs){i:Nat}(hi:ops[i]?=some o) {l':List Nat}:∀(l:List Nat){dn:List (Nat × Oper × List Nat)} {s:St}{K:St->Option R},RS C P o s ->
  (∀j∈l,j<i∧(bs.getD i 0).testBit j=false∧∀x,ops[j]?=some x->Jp C P ops x o)->Gz C P N call ops sm dn (l++i::l') s K=some r ->
  dn.all (FZ C P sm s i o)=true∧De C P N call ops o s (fun s1=>Gz C P N call ops sm ((i,o,Ze C P sm s i o)::dn) (l++l') s1 K)=some r
 |[],dn,s,K,hw,_,h=>by
  simp only[List.nil_append] at h ⊢;unfold Gz at h;rw[hi] at h;simp only[Do] at h;obtain⟨hb,h⟩:=Al h;simp only[Bool.and_eq_true] at hb;exact⟨hb.1,h⟩
 |j::l,dn,s,K,hw,hl,h=>by
  simp only[List.cons_append] at h ⊢;unfold Gz at h;obtain⟨hji,FX,P9⟩:=hl j (by simp)
  cases hj:ops[j]? with
  |none=>rw[hj] at h;cases h
  |some x=>
   rw[hj] at h;simp only[Do] at h;obtain⟨hb,h⟩:=Al h;simp only[Bool.and_eq_true] at hb;have ap:=P9 x hj
   have hex:∀k∈Ze C P sm s j x,s.hp k≠none:=fun k hk=>by
    have:=List.all_eq_true.1 hb.2 k hk;intro e;rw[e] at this;cases this
   obtain⟨s1,e1,Dm,DL,h1⟩:=K7 h;obtain⟨ha,h2⟩:=Tw hsm hi l (hw.keepsS ap Dm DL) (fun k hk=>hl k (by simp[hk])) h1
   have A5r:J0 C P s1 o=J0 C P s o:=NF (ops:=ops) (fun t ht=>Dm.1 t fun hd=>ap.xo t hd ht) fun hM hA y hy k hk=>ap.same Dm DL hM hA (hw.1 y hy k hk)
   have EX:Ze C P sm s1 i o=Ze C P sm s i o:=Aem fun _=>A5r
   rw[List.all_cons,Bool.and_eq_true] at ha
   have As6:Nat.blt i j=false:=by
    cases hh:Nat.blt i j
    ·rfl
    ·have:=Nat.le_of_ble_eq_true hh;omega
   have hmi:H7 C P x o=true->j∈sm.getD i []:=fun hs=>by
    rw[hsm,ER hi];exact Of.2 ⟨x,hj,hs,by rw[FX,Bool.and_false],by rw[As6,Bool.false_and]⟩
   have hmj:H7 C P x o=true->i∈sm.getD j []:=fun hs=>by
    rw[hsm,ER hj];exact Of.2 ⟨o,hi,by rw[Sq];exact hs,by rw[As6,Bool.false_and],by rw[FX,Bool.and_false]⟩
   have Akw:H7 C P x o=true->Aa6 (Ze C P sm s j x) (Ze C P sm s i o)=true:=by
    intro hs;have:=ha.1;unfold FZ at this;rw[WP.2 (hmi hs),EX] at this
    simpa using this
   have hok:∀q,FZ C P sm s1 i o q=FZ C P sm s i o q:=fun q=>by unfold FZ;rw[EX]
   have Lt:dn.all (FZ C P sm s i o)=true:=by
    refine List.all_eq_true.2 fun q hq=>?_
    rw[←hok];exact List.all_eq_true.1 ha.2 q hq
   refine⟨Lt,?_⟩;rw[EX] at h2
   have h3:=Au4 hw (fun hs k hk=>hex k (by rw[AA (hmj hs)];exact hk)) ap (fun hs=>by have:=Akw hs;rw[AA (hmj hs),AA (hmi hs)] at this;exact this)
    (Q2 (K':=fun s1=>De C P N call ops o s1 (fun s2=>Gz C P N call ops sm ((i,o,Ze C P sm s i o)::(j,x,Ze C P sm s j x)::dn) (l++l') s2 K)) e1 h2)
   obtain⟨s2,e2,D8,Pg,h4⟩:=K7 h3;refine Q2 e2 ?_
   have HH:Ze C P sm s2 j x=Ze C P sm s j x:=Aem fun Ei=>by
    obtain⟨q,hq⟩:=List.exists_mem_of_ne_nil _ Ei;refine NF (ops:=ops) (fun t ht=>D8.1 t fun hd=>ap.ox t hd ht) fun hM hA y hy k hk=>ap.symm.same D8 Pg hM hA (hex k ?_)
    rw[AA hq];exact AG (.inl hM) hy hk
   unfold Gz;rw[hj];simp only[Do]
   have hc:(((i,o,Ze C P sm s i o)::dn).all (FZ C P sm s2 j x)&&(Ze C P sm s2 j x).all fun k=>(s2.hp k).isSome)=true:=by
    simp only[List.all_cons,Bool.and_eq_true];refine⟨⟨?_,?_⟩,?_⟩
    ·unfold FZ;simp only[HH];cases hs:(sm.getD j []).any (Nat.beq i)
     ·rfl
     ·have hm:=WP.1 hs;rw[hsm,ER hj] at hm;obtain⟨o',QH,YQ,_⟩:=Of.1 hm;rw[hi] at QH;cases QH;rw[Sq] at YQ;rw[Abt (Akw YQ)];rfl
    ·refine List.all_eq_true.2 fun q hq=>?_
     have:=List.all_eq_true.1 hb.1 q hq;unfold FZ at this ⊢;rw[HH];exact this
    ·rw[HH];refine List.all_eq_true.2 fun k hk=>?_
     have:=D8.2.1 k (hex k hk);cases hh:s2.hp k with
     |none=>exact absurd hh this
     |some _=>rfl
   rw[hc,HH];show De C P N call ops x s2 _=some r
   have:(fun s'=>Gz C P N call ops sm ((j,x,Ze C P sm s j x)::(i,o,Ze C P sm s i o)::dn) (l++l') s' K)=fun s2=>Gz C P N call ops sm ((i,o,Ze C P sm s i o)::(j,x,Ze C P sm s j x)::dn) (l++l') s2 K:=by
    funext s'
    exact Y8 _ fun f=>Adw _ _ _ f
   rw[this];exact h4
end
section
variable {R:Type} {r:R} {P:Program} {N:Nat} {w0:World} {X0:Gu} {Y:Nat->Prop} {β β':Bt} {s:St} {a:Act} {w w':World} {o:Oper} {ops:Array Oper} {C:F4} {call:Ax} {K:St->Option R}
theorem Sc {bs:List Nat}:∀(l:List Oper)(n:Nat),Vf C P ops bs l n=true->∀(k:Nat) o,l[k]?=some o->∀(j:Nat) x,ops[j]?=some x->j<n+k->Aey C P ops x o=true->(bs.getD (n+k) 0).testBit j=true
 |[],_,_,k,o,ho,_,_,_,_,_=>by simp at ho
 |o'::l,n,h,k,o,ho,j,x,hx,hj,Jg=>by
  simp only[Vf,Bool.and_eq_true] at h;cases k with
  |zero=>
   simp at ho;subst ho
   have:=List.all_eq_true.1 h.1 (x,j) (by
    rw[List.mem_zipIdx_iff_getElem?]
    simpa using hx)
   simp only[Jg,Bool.not_true,Bool.or_false,Bool.or_eq_true,Bool.not_eq_true'] at this;rcases this with h'|h'
   ·have:Nat.blt j n=true:=Nat.ble_eq_true_of_le (by omega)
    rw[this] at h';cases h'
   ·exact h'
  |succ k=>
   have:=Sc l (n+1) h.2 k o (by simpa using ho) j x hx (by omega) Jg
   rwa [show n+(k+1)=n+1+k by omega]
theorem KG {G:S2}(Iy:OE P G w0 X0)(Dl:∀f args res,call f args=some res->C4 G P f args res)(hok:DY C P ops=true){Q:Exit->Act->World->Prop}(hQ:∀s' a' w' β',K s'=some r->Cl N w0 X0 Y β' s' a' w'->Q .normal a' w'):
  ∀(fuel:Nat) {dn:List (Nat × Oper × List Nat)} {listed:Array Bool} {s:St} {a:Act} {w:World} {β:Bt},HeadInv .any ops ops.size listed->(Kn ops.size listed).length=fuel->Cl N w0 X0 Y β s a w->Gz C P N call ops (Yz C P ops (G5 ops.toList [])) dn (Kn ops.size listed) s K=some r->wpAny P .any ops Q fuel listed a w:=by
 unfold DY at hok;simp only[Bool.and_eq_true] at hok;obtain⟨Adz,Am2⟩:=hok;intro fuel
 induction fuel with
 |zero=>
  intro dn listed s a w β inv hf h hk;have hp:=List.eq_nil_of_length_eq_zero hf;rw[hp] at hk;refine⟨?_,hQ s a w β hk h⟩;cases hr:Region.ready .any ops listed with
  |nil=>rfl
  |cons i l=>
   exfalso;have hi:i∈Region.ready .any ops listed:=by rw[hr];simp
   obtain⟨H6,o,ho,_⟩:=mem_ready.1 hi;have:i∈Kn ops.size listed:=Hp.2 ⟨(Array.getElem?_eq_some_iff.1 ho).1,H6⟩;rw[hp] at this;simp at this
 |succ fuel ih=>
  intro dn listed s a w β inv hf h hk;refine⟨fun hr=>?_,fun i hi=>?_⟩
  ·rw[JA Adz inv hr] at hf;cases hf
  ·obtain⟨H6,o,ho,Lt⟩:=mem_ready.1 hi;have B5:i<ops.size:=(Array.getElem?_eq_some_iff.1 ho).1;obtain⟨l1,l2,h1,h2,h3⟩:=Su (Hp.2 ⟨B5,H6⟩) inv.size;rw[h1] at hk
   have hnb:∀j∈l1,((G5 ops.toList []).getD i 0).testBit j=false:=by
    intro j hj;cases FX:((G5 ops.toList []).getD i 0).testBit j with
    |false=>rfl
    |true=>
     exfalso;have hjl:=N6 (listed:=listed) (fun j oj hj hl=>inv.closed j oj hj hl) ops.toList [] [] (by simp) rfl (by simp) i o ho Lt j FX
     have:j∈Kn ops.size listed:=by rw[h1];simp[hj]
     have:=getD_both (Hp.1 this).2;rw[hjl] at this;cases this
   have P9:∀j∈l1,j<i∧((G5 ops.toList []).getD i 0).testBit j=false∧∀x,ops[j]?=some x->Jp C P ops x o:=by
    intro j hj;refine⟨h3 j hj,hnb j hj,fun x hxj=>Abj ?_⟩
    cases Jg:Aey C P ops x o with
    |false=>rfl
    |true=>
     exfalso;have FX:=Sc ops.toList 0 Am2 i o (by simpa using ho) j x hxj (by have:=h3 j hj;omega) Jg
     rw[Nat.zero_add,hnb j hj] at FX;cases FX
   obtain⟨s',hs',hn⟩:=Sr h Iy Dl ho (Tw rfl ho l1 (Afc h o) P9 hk).2;refine hn _ _ fun a' w' β' h'=>ih (dn:=(i,o,Ze C P (Yz C P ops (G5 ops.toList [])) s i o)::dn) (inv.set hi B5) ?_ h' ?_
   ·rw[h2];rw[h1] at hf;simp at hf ⊢;omega
   ·rw[h2];exact hs'
theorem Zj (h:Cl N w0 X0 Y β s a w){G:S2}(Iy:OE P G w0 X0)(Dl:∀f args res,call f args=some res->C4 G P f args res)(hm:P.follows .mixedOrders=true)(hok:DY C P ops=true){Q:Exit->Act->World->Prop}
  (hk:Gz C P N call ops (Yz C P ops (G5 ops.toList [])) [] (List.range ops.size) s K=some r) (hQ:∀s' a' w' β',K s'=some r->Cl N w0 X0 Y β' s' a' w'->Q .normal a' w'):wpAny P .any ops Q ops.size (Array.replicate ops.size false) a { w with drawn:=w.drawn+1 }:=by
 have hp:Kn ops.size (Array.replicate ops.size false)=List.range ops.size:=by
  unfold Kn;refine List.filter_eq_self.2 fun i hi=>?_
  have:=List.mem_range.1 hi;simp[this]
 refine KG (C:=C) (dn:=[]) Iy Dl hok hQ ops.size ⟨by simp,fun j oj _ hl=>(by rw[getD_replicate_false] at hl;cases hl),fun t ht ht'=>by omega⟩ (by rw[hp];simp) h.drew ?_
 rw[hp];exact hk
theorem NP (h:Cl N w0 X0 Y β s a w){G:S2}(Iy:OE P G w0 X0)(Dl:∀f args res,call f args=some res->C4 G P f args res)(hm:P.follows .mixedOrders=true)(hok:DY C P ops=true){id:Nat}{Q:Exit->Act->World->Prop}
  (hk:Gz C P N call ops (Yz C P ops (G5 ops.toList [])) [] (List.range ops.size) s K=some r) (hQ:∀s' a' w' β',K s'=some r->Cl N w0 X0 Y β' s' a' w'->Q .normal a' w'):(Code.region id ops true).wp P Q a w:=
 wp_region_any hm (Zj h Iy Dl hm hok hk hQ)
end
open Go.RowKit
section
variable {R:Type} {r:R} {N:Nat} {w0:World} {X0:Gu} {Y:Nat->Prop} {β β':Bt} {s:St} {a:Act} {w w':World}
theorem Aea {i:Nat}(hi:i<a.tmps.size):a.put (some i) (a.tmps.getD i undef)=a:=by
 obtain⟨tmps,dfr⟩:=a;change i<tmps.size at hi
 have:tmps.setIfInBounds i (tmps.getD i undef)=tmps:=by
  apply Array.ext_getElem?;intro k;by_cases e:i=k
  ·subst e;simp[hi]
  ·rw[Array.getElem?_setIfInBounds_ne e]
 simp only[Act.put,this]
theorem YM {A:Nat->Prop}{es:Nat}{v:Value}(h:Au w A (.lst true es 0 []) v):v=.slice none 0 0:=by
 cases h;rfl
theorem WJ {id:Nat}(Bh:s.hp id=none){v:PV}{val:Value}(hv:D5 w (Cw (Ap s.hp [(id,.ar false [])]) (Ch β id none) Y) (Ch β id none) v val) (hr:∀i∈Br v,s.hp i≠none∨i=id):
  GN Y β s w v [(id,.ar false [])] val w (Ch β id none):=by
 refine⟨rfl,rfl,rfl,B6.refl _ _,fun j hj=>Ai _ _ (by rintro rfl;exact hj Bh),?_,?_,?_,?_,?_,hv,?_⟩
 ·intro j bx hm;simp at hm;rw[hm.2];trivial
 ·intro j bx hm;simp at hm;obtain⟨rfl,rfl⟩:=hm;exact .inl ⟨Am _ _ _,rfl⟩
 ·intro j bx k q hm hq;simp at hm;obtain⟨rfl,rfl⟩:=hm;rw[Am] at hq;cases hq
 ·intro j bx j' bx' k q q' hm Ia _ _;simp at hm Ia;rw[hm.1,Ia.1]
 ·intro j cells hm;simp at hm
 ·intro j hj;rcases hr j hj with h|rfl
  ·exact .inl h
  ·exact .inr ⟨.ar false [],by simp⟩
theorem GH (h:Cl N w0 X0 Y β s a w)(i:Nat):∃β',Cl N w0 X0 Y β' (Z9 N s i) a w:=by
 unfold Z9;split
 ·rename_i es ht
  have B5:i<N:=by
   rcases Nat.lt_or_ge i N with h'|h'
   ·exact h'
   ·rw[h.tmo i h'] at ht;cases ht
  have hv:=h.tms i B5;rw[ht] at hv;have hv:=YM hv;have hd:Fk N (some i)=true:=by simp[Fk,Nat.blt];omega
  have go:∀j,s.hp j=none->∃β',Cl N w0 X0 Y β' ⟨Ch s.tm i (.view j es 0 0),Ch s.hp j (some (.ar false []))⟩ a w:=by
   intro j hn;have:=h.stepR (d:=some i) hd (by simp[Bo,hn]) (WJ (v:=.view j es 0 0) (val:=.slice none 0 0) hn (.inl ⟨Am _ _ _,rfl,rfl,none,rfl⟩) (by simp[Br,B8,An]))
   rw[←hv,Aea (by rw[h.tsz];exact B5)] at this
   exact⟨_,this⟩
  cases hn:(s.hp i).isNone
  ·cases hn2:(s.hp (i+N*3000)).isNone
   ·exact⟨β,h⟩
   ·exact go _ (by simpa using hn2)
  ·exact go _ (by simpa using hn)
 ·exact⟨β,h⟩
theorem Cl.recell (h:Cl N w0 X0 Y β s a w){id:Nat}{c c':List PV}(h0:s.hp id=some (.st c)) (hl:c'.length=c.length)
  (hc:∀(j:Nat) p,c'[j]?=some p->∃q,c[j]?=some q∧(∀v,Bw w (Cw s.hp β Y) β q v->Bw w (Cw s.hp β Y) β p v)∧∀i∈An p,s.hp i≠none):
  Cl N w0 X0 Y β ⟨s.tm,Ch s.hp id (some (.st c'))⟩ a w:=by
 have Ft:∀i,Cy (Ch s.hp id (some (.st c')) i)↔Cy (s.hp i):=by
  intro i;by_cases e:i=id
  ·subst e;rw[Am,h0];exact Iff.rfl
  ·rw[Ai _ _ e]
 have hX:KJ (Ch s.hp id (some (.st c'))) β=KJ s.hp β:=by
  funext b
  apply propext;constructor
  ·rintro⟨i,o,hl,hb⟩;exact⟨i,o,(Ft i).1 hl,hb⟩
  ·rintro⟨i,o,hl,hb⟩;exact⟨i,o,(Ft i).2 hl,hb⟩
 have hA:Cw (Ch s.hp id (some (.st c'))) β Y=Cw s.hp β Y:=by
  funext b;unfold Cw;rw[hX]
 have Ei:∀i,s.hp i≠none->Ch s.hp id (some (.st c')) i≠none:=by
  intro i hi;by_cases e:i=id
  ·subst e;rw[Am];simp
  ·rw[Ai _ _ e];exact hi
 have Apj:∀i,Ch s.hp id (some (.st c')) i≠none->s.hp i≠none:=by
  intro i hi;by_cases e:i=id
  ·subst e;rw[h0];simp
  ·rw[Ai _ _ e] at hi;exact hi
 refine⟨h.dfr,h.tsz,h.tmo,?_,?_,?_,?_,?_,?_,?_,?_,fun i hi=>⟨Ei _ (h.pin i hi).1,(h.pin i hi).2⟩,?_,?_,h.Ylt,h.fr⟩
 ·intro i hi;show D5 w (Cw (Ch s.hp id _) β Y) β _ _;rw[hA];exact h.tms i hi
 ·intro i b hb;show Ol w (Cw (Ch s.hp id _) β Y) β i b;rw[hA];by_cases e:i=id
  ·subst e;change Ch s.hp i (some (.st c')) i=some b at hb;rw[Am] at hb;cases hb;obtain⟨b,o,h1,h2,h3⟩:=h.box i _ h0;refine⟨b,o,h1,fun j p hj=>?_,fun j hj=>h3 j (by rw[←hl];exact hj)⟩
   obtain⟨q,hq,hqp,_⟩:=hc j p hj;obtain⟨v,hv,hr⟩:=h2 j q hq;exact⟨v,hv,hqp v hr⟩
  ·change Ch s.hp id (some (.st c')) i=some b at hb;rw[Ai _ _ e] at hb;exact h.box i b hb
 ·intro i i' b o o' hl Ib hb Gy;exact h.inj i i' b o o' ((Ft i).1 hl) ((Ft i').1 Ib) hb Gy
 ·intro i b o hn hb;exact h.blt i b o (Apj i hn) hb
 ·intro i hi j hj;exact Ei j (h.wfT i hi j hj)
 ·intro i cells hb p hp j hj;change Ch s.hp id (some (.st c')) i=_ at hb;by_cases e:i=id
  ·subst e;rw[Am] at hb;cases hb;obtain⟨k,hk⟩:=List.mem_iff_getElem?.1 hp;obtain⟨_,_,_,hr⟩:=hc k p hk;exact Ei j (hr j hj)
  ·rw[Ai _ _ e] at hb;exact Ei j (h.wfB i cells hb p hp j hj)
 ·intro b hb;exact h.ownd b (by rw[←hX];exact hb)
 ·intro i bx b o hb hlb hβ B5 j hj;change Ch s.hp id (some (.st c')) i=some bx at hb;by_cases e:i=id
  ·subst e;rw[Am] at hb;cases hb;exact h.rngB i _ b o h0 trivial hβ B5 j (by unfold BR at hj ⊢;simp only[hl] at hj;exact hj)
  ·rw[Ai _ _ e] at hb;exact h.rngB i bx b o hb hlb hβ B5 j hj
 ·intro i c1 b o hb hβ B5;change Ch s.hp id (some (.st c')) i=_ at hb;by_cases e:i=id
  ·subst e;exact h.stp i c b o h0 hβ B5
  ·rw[Ai _ _ e] at hb;exact h.stp i c1 b o hb hβ B5
 ·intro b hY hb;exact h.Yx b hY (by rw[←hX];exact hb)
theorem GC (h:Cl N w0 X0 Y β s a w)(id j:Nat):∃β',Cl N w0 X0 Y β' (LL N id s j) a w:=by
 unfold LL;split
 ·rename_i c h0;split
  ·rename_i es hj;cases hn:(s.hp (id+N*(j+1))).isNone
   ·exact⟨β,h⟩
   ·have hn:s.hp (id+N*(j+1))=none:=by simpa using hn
    have Ei:id≠id+N*(j+1):=by
     intro e;rw[←e,h0] at hn;cases hn
    have h1:=h.stepR (d:=none) (v:=.top) (val:=undef) rfl (by simp[Bo,hn]) (WJ hn (.top _) (by simp[Br,B8,An]))
    change Cl N w0 X0 Y (Ch β (id+N*(j+1)) none) ⟨s.tm,Ch s.hp (id+N*(j+1)) (some (.ar false []))⟩ a w at h1
    have h2:=h1.recell (id:=id) (c:=c) (c':=c.set j (.view (id+N*(j+1)) es 0 0)) (by show Ch _ _ _ _=_;rw[Ai _ _ Ei];exact h0) (by simp) (by
     intro k p hp;by_cases e:k=j
     ·subst e
      have B5:k<c.length:=by
       rcases Nat.lt_or_ge k c.length with h'|h'
       ·exact h'
       ·rw[List.getElem?_eq_none h'] at hj;cases hj
      rw[List.getElem?_set_self B5] at hp;cases hp;refine⟨_,hj,fun v hv=>.inl ⟨Am _ _ _,rfl,rfl,none,YM hv⟩,fun i hi=>?_⟩
      simp[An] at hi;subst hi;show Ch _ _ _ _≠none;rw[Am];simp
     ·rw[List.getElem?_set_ne (fun h=>e h.symm)] at hp
      refine⟨p,hp,fun _ hv=>hv,fun i hi=>?_⟩
      have:=h.wfB id c h0 p (List.mem_of_getElem? hp) i hi;show Ch _ _ _ _≠none;by_cases e':i=id+N*(j+1)
      ·subst e';rw[Am];simp
      ·rw[Ai _ _ e'];exact this)
    refine⟨Ch β (id+N*(j+1)) none,?_⟩;have e3:Ch (Ch s.hp (id+N*(j+1)) (some (.ar false []))) id (some (.st (c.set j (.view (id+N*(j+1)) es 0 0))))=Ch (Ch s.hp id (some (.st (c.set j (.view (id+N*(j+1)) es 0 0))))) (id+N*(j+1)) (some (.ar false [])):=MZ _ _ _ (fun h=>Ei h.symm)
    change Cl N w0 X0 Y (Ch β (id+N*(j+1)) none) ⟨s.tm,Ch (Ch s.hp (id+N*(j+1)) (some (.ar false []))) id (some (.st (c.set j (.view (id+N*(j+1)) es 0 0))))⟩ a w at h2;rw[e3] at h2;exact h2
  ·exact⟨β,h⟩
 ·exact⟨β,h⟩
theorem Lw {f:St->Nat->St}(hf:∀s β,Cl N w0 X0 Y β s a w->∀i,∃β',Cl N w0 X0 Y β' (f s i) a w):∀(l:List Nat){s:St}{β:Bt},Cl N w0 X0 Y β s a w->∃β',Cl N w0 X0 Y β' (l.foldl f s) a w
 |[],_,β,h=>⟨β,h⟩
 |i::l,s,β,h=>by
  obtain⟨β1,h1⟩:=hf s β h i;exact Lw hf l h1
theorem KQ (h:Cl N w0 X0 Y β s a w)(i:Nat):∃β',Cl N w0 X0 Y β' (LE N s i) a w:=by
 unfold LE;split
 ·split
  ·exact Lw (fun s β h i=>GC h _ i) _ h
  ·exact⟨β,h⟩
 ·exact⟨β,h⟩
theorem IF:∀{m:List (Nat × Nat)},Dv (m.map (·.2))=true->∀{i i' j:Nat},(i,j)∈m->(i',j)∈m->i=i'
 |[],_,_,_,_,h,_=>by simp at h
 |(x,y)::m,hn,i,i',j,h,h'=>by
  simp only[List.map_cons,Dv,Bool.and_eq_true,Bool.not_eq_true'] at hn
  have hy:∀k,(k,y) ∉ m:=by
   intro k hk;exact Oo hn.1 (List.mem_map.2 ⟨(k,y),hk,rfl⟩)
  rcases List.mem_cons.1 h with e|h
  ·cases e;rcases List.mem_cons.1 h' with e|h'
   ·cases e;rfl
   ·exact absurd h' (hy _)
  ·rcases List.mem_cons.1 h' with e|h'
   ·cases e;exact absurd h (hy _)
   ·exact IF hn.2 h h'
theorem Wm:∀{m:List (Nat × Nat)},Dv (m.map (·.1))=true->∀{i j j':Nat},(i,j)∈m->(i,j')∈m->j=j'
 |[],_,_,_,_,h,_=>by simp at h
 |(x,y)::m,hn,i,j,j',h,h'=>by
  simp only[List.map_cons,Dv,Bool.and_eq_true,Bool.not_eq_true'] at hn
  have hx:∀k,(x,k) ∉ m:=by
   intro k hk;exact Oo hn.1 (List.mem_map.2 ⟨(x,k),hk,rfl⟩)
  rcases List.mem_cons.1 h with e|h
  ·cases e;rcases List.mem_cons.1 h' with e|h'
   ·cases e;rfl
   ·exact absurd h' (hx _)
  ·rcases List.mem_cons.1 h' with e|h'
   ·cases e;exact absurd h (hx _)
   ·exact Wm hn.2 h h'
theorem Kg {i j:Nat}(h:Nat.beq i j=false):i≠j:=by rintro rfl;rw[Nat.beq_refl] at h;cases h
theorem Uc:∀{m:List (Nat × Nat)} {i j:Nat},R4 m i=some j->(i,j)∈m
 |[],_,_,h=>by cases h
 |(x,y)::m,i,j,h=>by
  unfold R4 at h;cases hb:Nat.beq i x<;>rw[hb] at h
  ·exact List.mem_cons_of_mem _ (Uc h)
  ·have:=Nat.eq_of_beq_eq_true hb;cases h;rw[this];simp
theorem Xn {m:List (Nat × Nat)} {hp:Nat->Option Bl}:∀{l:List (Nat × Nat)} {j:Nat}{b:Bl},Jt (J8 m hp l) j=some b->∃i b0,(i,j)∈l∧hp i=some b0∧b=Ai9 m b0
 |[],_,_,h=>by cases h
 |(x,y)::l,j,b,h=>by
  unfold J8 at h;cases hx:hp x with
  |none=>
   rw[hx] at h;obtain⟨i,b0,h1,h2⟩:=Xn h;exact⟨i,b0,List.mem_cons_of_mem _ h1,h2⟩
  |some bx=>
   rw[hx] at h;simp only[Jt] at h;cases hb:Nat.beq j y<;>rw[hb] at h
   ·obtain⟨i,b0,h1,h2⟩:=Xn h;exact⟨i,b0,List.mem_cons_of_mem _ h1,h2⟩
   ·have:=Nat.eq_of_beq_eq_true hb;subst this;cases h;exact⟨x,bx,by simp,hx,rfl⟩
theorem K8 {m:List (Nat × Nat)} {hp:Nat->Option Bl}:∀{l:List (Nat × Nat)} {i j:Nat},(i,j)∈l->hp i≠none->Jt (J8 m hp l) j≠none
 |[],_,_,h,_=>by simp at h
 |(x,y)::l,i,j,h,hi=>by
  unfold J8;cases hx:hp x with
  |none=>
   rcases List.mem_cons.1 h with e|h
   ·cases e;exact absurd hx hi
   ·exact K8 h hi
  |some bx=>
   simp only[Jt];cases hb:Nat.beq j y
   ·rcases List.mem_cons.1 h with e|h
    ·cases e;exact absurd rfl (Kg hb)
    ·exact K8 h hi
   ·simp
def FP (m:List (Nat × Nat)) (j:Nat):Option Nat:=
 match m with
 |[]=>none
 |(x,y)::r=>bif Nat.beq j y then some x else FP r j
theorem WV:∀{m:List (Nat × Nat)} {i j:Nat},FP m j=some i->(i,j)∈m
 |[],_,_,h=>by cases h
 |(x,y)::m,i,j,h=>by
  unfold FP at h;cases hb:Nat.beq j y<;>rw[hb] at h
  ·exact List.mem_cons_of_mem _ (WV h)
  ·have:=Nat.eq_of_beq_eq_true hb;cases h;rw[this];simp
theorem OJ:∀{m:List (Nat × Nat)} {i j:Nat},(i,j)∈m->∃k,FP m j=some k
 |[],_,_,h=>by simp at h
 |(x,y)::m,i,j,h=>by
  unfold FP;cases hb:Nat.beq j y
  ·rcases List.mem_cons.1 h with e|h
   ·cases e;exact absurd rfl (Kg hb)
   ·exact OJ h
  ·exact⟨x,rfl⟩
theorem LP {f:Nat->PV}:∀{l:List Nat}{i:Nat},lk (l.map fun i=>(i,f i)) i=if i∈l then f i else .top
 |[],_=>rfl
 |x::l,i=>by
  simp only[List.map_cons,lk];cases hb:Nat.beq i x
  ·have:=Kg hb;simp only[cond_false,LP,List.mem_cons,this,false_or]
  ·have:=Nat.eq_of_beq_eq_true hb;subst this;simp
theorem IC {m:Nat}:∀{n i:Nat},i∈Jo m n->i<n
 |0,_,h=>by simp[Jo] at h
 |n+1,i,h=>by
  simp only[Jo,List.mem_append] at h;rcases h with h|h
  ·have:=IC h;omega
  ·cases hb:m.testBit n<;>rw[hb] at h
   ·simp at h
   ·simp at h;omega
theorem LC (h:Cl N w0 X0 Y β s a w){m:List (Nat × Nat)} (h1:Dv (m.map (·.1))=true) (h2:Dv (m.map (·.2))=true) {ls:List Nat}(hls:∀i∈ls,i<N)(hpn:∀i,X0.pn i->(C9 N i,C9 N i)∈m):
  ∃β',Cl N w0 X0 Y β' ⟨lk (ls.map fun i=>(i,ZX m (s.tm i))),Jt (J8 m s.hp m)⟩ a w:=by
 refine⟨fun j=>(FP m j).bind β,?_⟩
 have hβ:∀{i j:Nat},(i,j)∈m->(FP m j).bind β=β i:=by
  intro i j hm;obtain⟨k,hk⟩:=OJ hm;rw[hk];have:=IF h2 (WV hk) hm;subst this;rfl
 have hold:∀{j:Nat} {b:Bl},Jt (J8 m s.hp m) j=some b->∃i b0,(i,j)∈m∧s.hp i=some b0∧b=Ai9 m b0∧(FP m j).bind β=β i:=by
  intro j b hb;obtain⟨i,b0,hm,h3,h4⟩:=Xn hb;exact⟨i,b0,hm,h3,h4,hβ hm⟩
 have Ft:∀{j:Nat},Cy (Jt (J8 m s.hp m) j)->∃i,(i,j)∈m∧Cy (s.hp i)∧(FP m j).bind β=β i:=by
  intro j hl;cases hb:Jt (J8 m s.hp m) j with
  |none=>rw[hb] at hl;exact hl.elim
  |some b=>
   obtain⟨i,b0,hm,h3,rfl,h5⟩:=hold hb;refine⟨i,hm,?_,h5⟩;rw[hb] at hl;rw[h3];cases b0<;>exact hl
 have hX:∀b,KJ (Jt (J8 m s.hp m)) (fun j=>(FP m j).bind β) b->KJ s.hp β b:=by
  rintro b ⟨j,o,hl,hb⟩
  obtain⟨i,_,Ib,e⟩:=Ft hl;exact⟨i,o,Ib,by rw[←e];exact hb⟩
 have hA:∀b,Cw (Jt (J8 m s.hp m)) (fun j=>(FP m j).bind β) Y b->Cw s.hp β Y b:=fun b hb=>hb.imp (hX b) id
 have hC:∀p v,Bw w (Cw s.hp β Y) β p v->Bw w (Cw (Jt (J8 m s.hp m)) (fun j=>(FP m j).bind β) Y) (fun j=>(FP m j).bind β) (SX m p) v:=by
  intro p v hp;cases p with
  |view id es off n=>
   show Bw _ _ _ (match R4 m id with|some j=>.view j es off n|none=>.top) v
   cases hj:R4 m id with
   |some j=>
    have e:=hβ (Uc hj);rcases hp with⟨e1,e2⟩|⟨b,o,x,cap,e1,e2⟩
    ·exact .inl ⟨by show (FP m j).bind β=none;rw[e];exact e1,e2⟩
    ·exact .inr ⟨b,o,x,cap,by show (FP m j).bind β=_;rw[e];exact e1,e2⟩
   |none=>exact Au.top _
  |ptr id off=>
   show Bw _ _ _ (match R4 m id with|some j=>.ptr j off|none=>.top) v
   cases hj:R4 m id with
   |some j=>
    have e:=hβ (Uc hj);obtain⟨b,o,e1,e2⟩:=hp;exact⟨b,o,by show (FP m j).bind β=_;rw[e];exact e1,e2⟩
   |none=>exact Au.top _
  |sc v=>exact Au.step (B6.refl _ _) (fun b _=>hA b) hp
  |lst z es n c=>exact Au.step (B6.refl _ _) (fun b _=>hA b) hp
  |iptr c off=>exact Bw.step (p:=.iptr c off) (B6.refl _ _) (fun b _=>hA b) (by simp[An]) hp
  |_=>exact Au.top _
 have hV:∀p v,D5 w (Cw s.hp β Y) β p v->D5 w (Cw (Jt (J8 m s.hp m)) (fun j=>(FP m j).bind β) Y) (fun j=>(FP m j).bind β) (ZX m p) v:=by
  intro p v hp;cases p with
  |agg c=>
   obtain⟨vs,e1,e2⟩:=hp;refine⟨vs,e1,Bc.of_at (by simp;exact e2.len) fun i q u hq hu=>?_⟩
   rw[List.getElem?_map] at hq;cases hc:c[i]? with
   |none=>rw[hc] at hq;cases hq
   |some q0=>
    rw[hc] at hq;cases hq;exact hC _ _ (e2.at_ hc hu)
  |view id es off n=>
   have:=hC (.view id es off n) v hp;change Bw _ _ _ (match R4 m id with|some j=>.view j es off n|none=>.top) v at this
   show D5 _ _ _ (match R4 m id with|some j=>.view j es off n|none=>.top) v
   cases hj:R4 m id<;>rw[hj] at this<;>exact this
  |ptr id off=>
   have:=hC (.ptr id off) v hp;change Bw _ _ _ (match R4 m id with|some j=>.ptr j off|none=>.top) v at this
   show D5 _ _ _ (match R4 m id with|some j=>.ptr j off|none=>.top) v
   cases hj:R4 m id<;>rw[hj] at this<;>exact this
  |sc v'=>exact hC (.sc v') v hp
  |lst z es n c=>exact hC (.lst z es n c) v hp
  |iptr c off=>exact hC (.iptr c off) v hp
  |_=>exact Au.top _
 have hrC:∀p i,i∈An (SX m p)->∃k∈An p,(k,i)∈m:=by
  intro p i hi;cases p with
  |view id es off n=>
   change i∈An (match R4 m id with|some j=>.view j es off n|none=>.top) at hi
   cases hj:R4 m id<;>rw[hj] at hi
   ·simp[An] at hi
   ·simp[An] at hi;subst hi;exact⟨id,by simp[An],Uc hj⟩
  |ptr id off=>
   change i∈An (match R4 m id with|some j=>.ptr j off|none=>.top) at hi
   cases hj:R4 m id<;>rw[hj] at hi
   ·simp[An] at hi
   ·simp[An] at hi;subst hi;exact⟨id,by simp[An],Uc hj⟩
  |_=>simp[SX,An] at hi
 have hrV:∀p i,i∈Br (ZX m p)->∃k∈Br p,(k,i)∈m:=by
  intro p i hi;cases p with
  |agg c=>
   simp only[ZX,Br,B8,List.mem_flatMap,List.mem_map] at hi;obtain⟨_,⟨q,hq,rfl⟩,hi⟩:=hi;obtain⟨k,hk,hm⟩:=hrC q i hi;exact⟨k,by simp only[Br,B8,List.mem_flatMap];exact⟨q,hq,hk⟩,hm⟩
  |view id es off n=>
   refine (hrC (.view id es off n) i ?_).imp fun k hk=>hk
   change i∈Br (match R4 m id with|some j=>.view j es off n|none=>.top) at hi
   show i∈An (match R4 m id with|some j=>.view j es off n|none=>.top)
   cases hj:R4 m id<;>rw[hj] at hi<;>exact hi
  |ptr id off=>
   refine (hrC (.ptr id off) i ?_).imp fun k hk=>hk
   change i∈Br (match R4 m id with|some j=>.ptr j off|none=>.top) at hi
   show i∈An (match R4 m id with|some j=>.ptr j off|none=>.top)
   cases hj:R4 m id<;>rw[hj] at hi<;>exact hi
  |_=>simp[ZX,SX,Br,B8,An] at hi
 refine⟨h.dfr,h.tsz,?_,?_,?_,?_,?_,?_,?_,?_,?_,?_,?_,?_,h.Ylt,h.fr⟩
 ·intro i hi;show lk _ i=_;rw[LP,if_neg (fun hm=>by have:=hls i hm;omega)]
 ·intro i hi;show D5 w _ _ (lk _ i) _;rw[LP];split
  ·exact hV _ _ (h.tms i hi)
  ·exact Au.top _
 ·intro j b hb;obtain⟨i,b0,hm,h3,rfl,e⟩:=hold hb;have Jl:=h.box i b0 h3;cases b0 with
  |st c=>
   obtain⟨b,o,e1,e2,e3⟩:=Jl;refine⟨b,o,by show (FP m j).bind β=_;rw[e];exact e1,fun k p hp=>?_,fun k hk=>e3 k (by simpa using hk)⟩
   rw[List.getElem?_map] at hp;cases hc:c[k]? with
   |none=>rw[hc] at hp;cases hp
   |some q=>
    rw[hc] at hp;cases hp;obtain⟨v,hv,hr⟩:=e2 k q hc;exact⟨v,hv,hC _ _ hr⟩
  |ar fz c=>
   have:=Ol.step' hA Jl;show Ol _ _ _ _ (.ar fz c);rcases this with⟨e1,e2⟩|⟨b,o,e1,e2⟩
   ·exact .inl ⟨by show (FP m j).bind β=_;rw[e];exact e1,e2⟩
   ·exact .inr ⟨b,o,by show (FP m j).bind β=_;rw[e];exact e1,e2⟩
  |mv=>exact trivial
 ·intro j j' b o o' hl Ib hb Gy;obtain⟨i,hm,DL,e⟩:=Ft hl;obtain⟨i',Ia,A52,e'⟩:=Ft Ib;have:=h.inj i i' b o o' DL A52 (by rw[←e];exact hb) (by rw[←e'];exact Gy)
  subst this;exact Wm h1 hm Ia
 ·intro j b o hn hb;cases hj:Jt (J8 m s.hp m) j with
  |none=>exact absurd hj hn
  |some bx=>
   obtain⟨i,b0,_,h3,_,e⟩:=hold hj;exact h.blt i b o (by rw[h3];simp) (by rw[←e];exact hb)
 ·intro i hi j hj;change j∈Br (lk _ i) at hj;rw[LP] at hj;split at hj
  ·obtain⟨k,hk,hm⟩:=hrV _ j hj;exact K8 hm (h.wfT i hi k hk)
  ·simp[Br,B8,An] at hj
 ·intro j cells hb p hp k hk;obtain⟨i,b0,_,h3,h4,_⟩:=hold hb;cases b0 with
  |st c=>
   cases h4;obtain⟨q,hq,rfl⟩:=List.mem_map.1 hp;obtain⟨k',Jm,hm⟩:=hrC q k hk;exact K8 hm (h.wfB i c h3 q hq k' Jm)
  |ar fz c=>cases h4
  |mv=>cases h4
 ·intro b hb;exact h.ownd b (hX b hb)
 ·intro j bx b o hb hlb hβ1 B5 k hk;obtain⟨i,b0,_,h3,h4,e⟩:=hold hb;subst h4;refine h.rngB i b0 b o h3 ?_ (by rw[←e];exact hβ1) B5 k ?_
  ·cases b0<;>exact hlb
  ·cases b0 with
   |st c=>simpa [BR,Ai9] using hk
   |ar fz c=>exact hk
   |mv=>exact hk
 ·intro i hi;exact⟨K8 (hpn i hi) (h.pin i hi).1,(hβ (hpn i hi)).trans (h.pin i hi).2⟩
 ·intro j c b o hb hβ1 B5;obtain⟨i,b0,hm,h3,h4,e⟩:=hold hb;cases b0 with
  |st c0=>
   obtain⟨k,rfl,hk⟩:=h.stp i c0 b o h3 (by rw[←e];exact hβ1) B5
   exact⟨k,Wm h1 hm (hpn k hk),hk⟩
  |ar fz c0=>cases h4
  |mv=>cases h4
 ·intro b hY hb;exact h.Yx b hY (hX b hb)
theorem Rc {m:List (Nat × Nat)} {q:Nat × Nat}{o n:Nat}(h:q∈m):q∈HB m o n:=by
 unfold HB;split
 ·exact h
 ·exact List.mem_append.2 (.inl h)
theorem I2 {q:Nat × Nat}{new:Nat}:∀{c:List PV}{j:Nat}{m:List (Nat × Nat)},q∈m->q∈N5 N new c j m
 |[],_,_,h=>h
 |p::c,j,m,h=>by
  unfold N5;split
  ·rename_i e;cases e
  ·rename_i e;cases e;exact I2 (Rc h)
  ·rename_i e;cases e;exact I2 h
theorem RL {q:Nat × Nat}{m:List (Nat × Nat)} {i:Nat}(h:q∈m):q∈AF N s m i:=by
 unfold AF;split
 ·exact Rc h
 ·split
  ·exact h
  ·split
   ·exact I2 (Rc h)
   ·exact Rc h
 ·exact I2 h
 ·exact h
theorem Uy {q:Nat × Nat}:∀{l:List Nat}{m:List (Nat × Nat)},q∈m->q∈l.foldl (AF N s) m
 |[],_,h=>h
 |_::l,_,h=>Uy (l:=l) (RL h)
theorem Oe {q:Nat × Nat}{m:List (Nat × Nat)} (h:q∈m):∀k,q∈Pp N s.hp k m
 |0=>h
 |k+1=>by
  unfold Pp;split
  ·exact I2 (Oe h k)
  ·exact Oe h k
theorem HR:∀{k i:Nat},i<k->s.hp (C9 N i)≠none->(C9 N i,C9 N i)∈NX N s.hp k
 |0,_,h,_=>by omega
 |k+1,i,h,hn=>by
  unfold NX;by_cases e:i=k
  ·subst e
   have:(s.hp (C9 N i)).isSome=true:=by
    cases hq:s.hp (C9 N i) with
    |none=>exact absurd hq hn
    |some b=>rfl
   rw[this];simp
  ·have:=HR (k:=k) (i:=i) (by omega) hn
   cases (s.hp (C9 N k)).isSome
   ·exact this
   ·exact List.mem_append.2 (.inl this)
theorem Yh (h:Cl N w0 X0 Y β s a w){L:Nat}{q:Bool}{K:St->Option R}(hk:XQ N (Jo L N) q s K=some r):∃β' s',K s'=some r∧Cl N w0 X0 Y β' s' a w:=by
 unfold XQ at hk;obtain⟨hb,Dm⟩:=Al hk;simp only[Bool.and_eq_true] at hb
 obtain⟨β2,h2⟩:∃β2,Cl N w0 X0 Y β2 (bif q then s else (Jo L N).foldl (LE N) ((Jo L N).foldl (Z9 N) s)) a w:=by
  cases q
  ·obtain⟨β1,h1⟩:=Lw (fun s β h i=>GH h i) (Jo L N) h
   obtain⟨β2,h2⟩:=Lw (fun s β h i=>KQ h i) (Jo L N) h1
   exact⟨β2,h2⟩
  ·exact⟨β,h⟩
 obtain⟨β3,h3⟩:=LC h2 hb.1 hb.2 (ls:=Jo L N) (fun i hi=>IC hi) (fun i hi=>Uy (Oe (HR (X0.p8 i hi) (h2.pin i hi).1) 8))
 exact⟨β3,_,Dm,h3⟩
theorem Qm (h:Cl N w0 X0 Y β s a w){L:Nat}{K:St->Option R}(hk:Vc N L s K=some r):∃β' s',K s'=some r∧Cl N w0 X0 Y β' s' a w:=Yh h hk
theorem QK (h:Cl N w0 X0 Y β s a w){L:Nat}{K:St->Option R}(hk:YI N L s K=some r):∃β' s',K s'=some r∧Cl N w0 X0 Y β' s' a w:=Yh h hk
end
open Go.RowKit
section
variable {R:Type} {r:R} {P:Program} {N:Nat} {w0:World} {X0:Gu} {Y:Nat->Prop} {C:F4} {call:Ax}
theorem HS {n:Nat}{F:St->Option R}{s:St}(h:AW n F s=some r):F s=some r:=by
 unfold AW at h;split at h
 ·cases h
 ·exact h
theorem OT {β:Bt}{s:St}{a:Act}{w:World}(h:Cl N w0 X0 Y β s a w){c:Operand}{kt kf:St->Option R}(hk:Aer s c kt kf=some r):(a.eval c=.bool true∧kt s=some r)∨(a.eval c=.bool false∧kf s=some r):=by
 unfold Aer at hk;split at hk
 ·rename_i d;split at hk
  ·rename_i b ht;have hv:a.eval (.tmp d)=.bool b:=B3 h (x:=.tmp d) ht;cases b
   ·change kf ⟨Ch s.tm d (.sc (.bool false)),s.hp⟩=some r at hk;rw[Tq s.tm ht] at hk;exact .inr ⟨hv,hk⟩
   ·change kt ⟨Ch s.tm d (.sc (.bool true)),s.hp⟩=some r at hk;rw[Tq s.tm ht] at hk;exact .inl ⟨hv,hk⟩
  ·rename_i ht;have hu:=Cq h (.tmp d);change D5 _ _ _ (s.tm d) _ at hu;rw[ht] at hu;have Ho:Au w _ .ub (a.eval (.tmp d)):=hu
   obtain⟨b,hv⟩:∃b,a.eval (.tmp d)=.bool b:=by
    generalize a.eval (.tmp d)=x at Ho;cases Ho with
    |ub b=>exact⟨b,rfl⟩
   obtain⟨h1,h2⟩:=IX hk;cases b
   ·exact .inr ⟨hv,h2⟩
   ·exact .inl ⟨hv,h1⟩
  ·cases hk
 ·exact .inl ⟨rfl,hk⟩
 ·exact .inr ⟨rfl,hk⟩
 ·cases hk
theorem AY {c:Code}{Q:Exit->Act->World->Prop}{F:(St->Option R)->St->Option R} {nm:St->(St->Option R)->Option R}
  (FY:∀{β s a w} {K:St->Option R},Cl N w0 X0 Y β s a w->nm s K=some r->∃β' s',K s'=some r∧Cl N w0 X0 Y β' s' a w)
  (hF:∀{β s a w} {K:St->Option R}{Q':Act->World->Prop},Cl N w0 X0 Y β s a w->F K s=some r->(∀s' a' w' β',K s'=some r->Cl N w0 X0 Y β' s' a' w'->Q' a' w')->c.wp P (Exit.then Q' Q) a w):
  ∀(n:Nat) {β s a w},Cl N w0 X0 Y β s a w->Aev F nm n s=some r->Code.rounds P c Q n a w
 |0,_,_,_,_,_,hk=>by cases hk
 |n+1,β,s,a,w,h,hk=>by
  rw[rounds_succ];refine hF h hk fun s' a' w' β' Jm h'=>?_
  obtain⟨β1,s1,Dm,h1⟩:=FY h' Jm;exact AY FY hF n h1 Dm
theorem TX {G:S2}(Iy:OE P G w0 X0)(Dl:∀f args res,call f args=some res->C4 G P f args res)(hm:P.follows .mixedOrders=true){fu:Nat}:
  ∀(c:Code) {ln:Nat} {lx:Nat->Nat} {lr:Nat} {kn:St->Option R} {kx:Nat->St->Option R} {kr:St->Option R} {β:Bt} {s:St} {a:Act} {w:World} {Q:Exit->Act->World->Prop},Cl N w0 X0 Y β s a w ->
   Mn C P fu N call c ln lx lr kn kx kr s=some r->(∀s' a' w' β',kn s'=some r->Cl N w0 X0 Y β' s' a' w'->Q .normal a' w') ->
   (∀id s' a' w' β',kx id s'=some r->Cl N w0 X0 Y β' s' a' w'->Q (.exit id) a' w')->(∀s' a' w' β',kr s'=some r->Cl N w0 X0 Y β' s' a' w'->Q .ret a' w')->c.wp P Q a w:=by
 intro c
 induction c with
 |skip=>intro ln lx lr kn kx kr β s a w Q h hk hn hx hr;exact wp_skip (hn s a w β hk h)
 |region id ops draw=>
  intro ln lx lr kn kx kr β s a w Q h hk hn hx hr;unfold Mn at hk;cases draw
  ·simp only[NW,Bool.false_and,cond_false] at hk;exact LN h Iy Dl hk hn
  ·simp only[NW,Alk,Bool.true_and,cond_true] at hk;cases hb:HJ C P ops<;>rw[hb] at hk
   ·obtain⟨Gy,Dm⟩:=Al (show Be _ _=some r from hk)
    exact NP h Iy Dl hm Gy Dm hn
   ·exact JS h Iy Dl hm hb hk hn
 |seq c1 c2 ih1 ih2=>
  intro ln lx lr kn kx kr β s a w Q h hk hn hx hr;unfold Mn at hk
  refine wp_seq (ih1 h hk (fun s' a' w' β' Jm h'=>by
    cases hc:Ac6 P c1 c2
    ·rw[hc] at Jm;exact ih2 h' Jm hn hx hr
    ·rw[hc] at Jm;cases hq:Z6 c1 c2
     ·rw[hq] at Jm;obtain⟨β1,s1,Dm,h1⟩:=Qm h' (show Vc _ _ _ _=some r from Jm)
      exact ih2 h1 (HS Dm) hn hx hr
     ·rw[hq] at Jm;obtain⟨β1,s1,Dm,h1⟩:=QK h' (show YI _ _ _ _=some r from Jm)
      exact ih2 h1 (HS Dm) hn hx hr) (fun id s' a' w' β' Jm h'=>hx id s' a' w' β' Jm h') (fun s' a' w' β' Jm h'=>hr s' a' w' β' Jm h'))
 |cond c c1 c2 ih1 ih2=>
  intro ln lx lr kn kx kr β s a w Q h hk hn hx hr;unfold Mn at hk;rcases OT h hk with⟨hc,Dm⟩|⟨hc,Dm⟩
  ·exact wp_cond_true hc (ih1 h Dm hn hx hr)
  ·exact wp_cond_false hc (ih2 h Dm hn hx hr)
 |block id c ih=>
  intro ln lx lr kn kx kr β s a w Q h hk hn hx hr;unfold Mn at hk;refine wp_block (ih h hk (fun s' a' w' β' Jm h'=>hn s' a' w' β' Jm h') (fun j s' a' w' β' Jm h'=>?_) (fun s' a' w' β' Jm h'=>hr s' a' w' β' Jm h'))
  show (if j=id then _ else _)
  by_cases e:j=id
  ·subst e;rw[if_pos rfl];rw[Nat.beq_refl] at Jm;exact hn s' a' w' β' Jm h'
  ·rw[if_neg e]
   have:Nat.beq j id=false:=by
    cases hb:Nat.beq j id
    ·rfl
    ·exact absurd (Nat.eq_of_beq_eq_true hb) e
   rw[this] at Jm;exact hx j s' a' w' β' Jm h'
 |loop c ih=>
  intro ln lx lr kn kx kr β s a w Q h hk hn hx hr;unfold Mn at hk;obtain⟨β1,s1,Dm,h1⟩:=Qm h hk;refine wp_loop_rounds fu (AY (fun h hk=>Qm h hk) (fun h hk hQ=>?_) fu h1 Dm)
  exact ih h hk hQ (fun id s' a' w' β' Jm h'=>hx id s' a' w' β' Jm h') (fun s' a' w' β' Jm h'=>hr s' a' w' β' Jm h')
 |«exit» id=>intro ln lx lr kn kx kr β s a w Q h hk hn hx hr;exact wp_exit (hx id s a w β hk h)
 |ret=>intro ln lx lr kn kx kr β s a w Q h hk hn hx hr;exact wp_ret (hr s a w β hk h)
 |_=>intro ln lx lr kn kx kr β s a w Q h hk hn hx hr;cases hk
end
open Go.RowKit
theorem Kj:∀{l:List (Nat × Bl)} {i:Nat}{b:Bl},Jt l i=some b->(i,b)∈l
 |[],_,_,h=>by cases h
 |(j,c)::l,i,b,h=>by
  unfold Jt at h;cases hb:Nat.beq i j<;>rw[hb] at h
  ·exact List.mem_cons_of_mem _ (Kj h)
  ·have:=Nat.eq_of_beq_eq_true hb;cases h;rw[this];simp
theorem MF:∀{l:List (Nat × Bl)},(l.map (·.1)).Nodup->∀{i b},(i,b)∈l->Jt l i=some b
 |[],_,_,_,h=>by cases h
 |(j,c)::l,hn,i,b,h=>by
  simp only[List.map_cons,List.nodup_cons] at hn;unfold Jt;rcases List.mem_cons.1 h with e|h
  ·cases e;simp only[Nat.beq_refl,cond_true]
  ·have:Nat.beq i j=false:=by
    cases hb:Nat.beq i j
    ·rfl
    ·exact absurd (Nat.eq_of_beq_eq_true hb ▸ List.mem_map.2 ⟨_,h,rfl⟩) hn.1
   simp only[this,cond_false];exact MF hn.2 h
section
variable {R:Type} {r:R} {P:Program} {N:Nat} {w0:World} {X0:Gu} {Y:Nat->Prop} {β β':Bt} {s:St} {a:Act} {w w':World} {A:Nat->Prop}
theorem Ae4 {id:Nat}{t:CT}{p:PV}{K:PV->List (Nat × Bl)->Option R} (hk:Ad1 id t p K=some r):
  (∃c,K c []=some r∧Sg c∧∀w A q u,Fm w A q p u->Au w A c u)∨∃es n cc,p=.own es n cc∧K (.view id es 0 n) [(id,.ar false cc)]=some r:=by
 have tree:∀t',(Xg t' p fun c=>K c [])=some r->∃c,K c []=some r∧Sg c∧∀w A q u,Fm w A q p u->Au w A c u:=by
  intro t' hk;obtain⟨c,hk,hT,BE,hv⟩:=Kc hk;refine⟨c,hk,hT,fun w A q u h=>(hv w A (fun _=>none) u ?_).1⟩
  cases p<;>first|exact h|exact BE.elim
 unfold Ad1 at hk;cases t with
 |sl es=>
  dsimp only at hk;split at hk
  ·rename_i es' n c;cases hb:Nat.beq es' es<;>rw[hb] at hk
   ·cases hk
   ·have:=Nat.eq_of_beq_eq_true hb;subst this;exact .inr ⟨_,_,_,rfl,hk⟩
  ·exact .inl (tree (.sl es) hk)
 |int k=>exact .inl (tree _ hk)
 |bool=>exact .inl (tree _ hk)
 |str=>exact .inl (tree _ hk)
 |any=>exact .inl (tree _ hk)
theorem Mw:∀{ts:List CT}{id:Nat}{ps:List PV}{K:List PV->List (Nat × Bl)->Option R},Y3 N id ts ps K=some r ->
  ∃cs bs,∃qs:List (Nat × Nat),K cs bs=some r∧cs.length=ps.length∧ps.length=ts.length∧bs.map (·.1)=qs.map (·.1)∧(∀q∈qs,∀q'∈qs,q.2=q'.2->q.1=q'.1) ∧
   (∀i bx,(i,bx)∈bs->∃c,bx=.ar false c)∧(∀c∈cs,GD c)∧(∀c∈cs,∀i∈An c,∃bx,(i,bx)∈bs) ∧
   ∀(w:World) (A:Nat->Prop) (own β':Bt) (j0:Nat) (us:List Value),(∀q∈qs,β' q.1=own (j0+q.2))->Ed w A own j0 ps us->Bc (Bw w A β') cs us∧∀i bx,(i,bx)∈bs->Ol w A β' i bx
 |[],id,ps,K,hk=>by
  obtain⟨rfl,hk⟩:=Dc hk;refine⟨[],[],[],hk,rfl,rfl,rfl,by simp,by simp,by simp,by simp,fun w A own β' j0 us _ h=>⟨?_,by simp⟩⟩
  cases us with
  |nil=>trivial
  |cons u us=>exact h.elim
 |t::ts,id,ps,K,hk=>by
  unfold Y3 at hk;obtain⟨p,ps',Zk,Dm⟩:=A7 hk;subst Zk;rcases Ae4 Dm with⟨c,D8,hT,hv⟩|⟨es,n,cc,rfl,D8⟩
  ·obtain⟨cs,bs,qs,Jn,hl,Pg,hb,Kp,En,hF,G3,O9⟩:=Mw D8;refine⟨c::cs,bs,qs.map (fun q=>(q.1,q.2+1)),Jn,by simp[hl],by simp[Pg],by rw[hb];simp,?_,En,?_,?_,fun w A own β' j0 us hβ ho=>?_⟩
   ·intro q hq q' E2 e;obtain⟨q0,R0,rfl⟩:=List.mem_map.1 hq;obtain⟨q1,Hz,rfl⟩:=List.mem_map.1 E2;exact Kp q0 R0 q1 Hz (by simp only at e;omega)
   ·intro y hy;rcases List.mem_cons.1 hy with rfl|hy
    ·exact Ok hT
    ·exact hF y hy
   ·intro y hy i hi;rcases List.mem_cons.1 hy with rfl|hy
    ·rw[Gq hT] at hi;cases hi
    ·exact G3 y hy i hi
   ·cases us with
    |nil=>exact ho.elim
    |cons u us=>
     obtain⟨h1,h2⟩:=O9 w A own β' (j0+1) us (fun q hq=>by rw[hβ _ (List.mem_map_of_mem hq)];congr 1;simp only;omega) ho.2
     exact⟨⟨Agt (hv w A _ u ho.1),h1⟩,h2⟩
  ·obtain⟨cs,bs,qs,Jn,hl,Pg,hb,Kp,En,hF,G3,O9⟩:=Mw D8;refine⟨_::cs,(id,.ar false cc)::bs,(id,0)::qs.map (fun q=>(q.1,q.2+1)),Jn,by simp[hl],by simp[Pg],by simp only[List.map_cons,hb];simp,?_,?_,?_,?_,fun w A own β' j0 us hβ ho=>?_⟩
   ·intro q hq q' E2 e;rcases List.mem_cons.1 hq with rfl|hq
    ·rcases List.mem_cons.1 E2 with rfl|E2
     ·rfl
     ·obtain⟨q0,R0,rfl⟩:=List.mem_map.1 E2;simp only at e;omega
    ·obtain⟨q0,R0,rfl⟩:=List.mem_map.1 hq;rcases List.mem_cons.1 E2 with rfl|E2
     ·simp only at e;omega
     ·obtain⟨q1,Hz,rfl⟩:=List.mem_map.1 E2;exact Kp q0 R0 q1 Hz (by simp only at e;omega)
   ·intro i bx hm;rcases List.mem_cons.1 hm with e|hm
    ·cases e;exact⟨cc,rfl⟩
    ·exact En i bx hm
   ·intro y hy;rcases List.mem_cons.1 hy with rfl|hy
    ·trivial
    ·exact hF y hy
   ·intro y hy i hi;rcases List.mem_cons.1 hy with rfl|hy
    ·simp only[An,List.mem_singleton] at hi;subst hi;exact⟨_,List.mem_cons_self⟩
    ·obtain⟨bx,Jl⟩:=G3 y hy i hi;exact⟨bx,List.mem_cons_of_mem _ Jl⟩
   ·cases us with
    |nil=>exact ho.elim
    |cons u us=>
     obtain⟨h1,h2⟩:=O9 w A own β' (j0+1) us (fun q hq=>by rw[hβ _ (List.mem_cons_of_mem _ (List.mem_map_of_mem hq))];congr 1;simp only;omega) ho.2
     have h0:=hβ (id,0) List.mem_cons_self;simp only[Nat.add_zero] at h0;refine⟨⟨?_,h1⟩,fun i bx hm=>?_⟩
     ·rcases ho.1 with⟨h3,rfl,_,h5⟩|⟨b,ob,cap,h3,h4,h5,h6,h7,_⟩
      ·exact .inl ⟨h0.trans h3,rfl,rfl,h5⟩
      ·exact .inr ⟨b,ob,ob,cap,h0.trans h3,h4,.inl rfl,h5,h6,h7⟩
     ·rcases List.mem_cons.1 hm with e|hm
      ·cases e;exact Ty ho.1 h0
      ·exact h2 i bx hm
theorem Ajt {i:Nat}{t:TypeId}{p:PV}{K:PV->List (Nat × Bl)->Option R} (hk:inK P N i t p K=some r):
  ∃v bs,∃qs:List (Nat × Nat),K v bs=some r∧bs.map (·.1)=qs.map (·.1)∧(∀q∈qs,∀q'∈qs,q.2=q'.2->q.1=q'.1)∧(V7 p=true->(C9 N i,0)∈qs∧i<8) ∧
   (∀id bx,(id,bx)∈bs->Cy (some bx)∧∀c,bx=.st c->id=C9 N i∧V7 p=true)∧(∀id∈Br v,∃bx,(id,bx)∈bs)∧Xe bs ∧
   ∀(w:World) (A:Nat->Prop) (bt β':Bt) (u:Value),(∀q∈qs,β' q.1=bt q.2)->OQ w A bt p u->D5 w A β' v u∧(∀id bx,(id,bx)∈bs->Ol w A β' id bx) ∧
    ∀id bx b o,(id,bx)∈bs->β' id=some (b,o)->∀j,BR bx o j->Aoo bt p b j:=by
 have owns:∀{bs:List (Nat × Bl)} {qs:List (Nat × Nat)},bs.map (·.1)=qs.map (·.1)->(∀i bx,(i,bx)∈bs->∃c,bx=.ar false c)->∀{bt β':Bt},(∀q∈qs,β' q.1=bt (1+q.2))->∀id bx b o,(id,bx)∈bs->β' id=some (b,o)->∀j,BR bx o j->∃k o',bt (k+1)=some (b,o')∧o'<=j:=by
  intro bs qs hb En bt β' hβ id bx b o hm KK j hj;have:id∈qs.map (·.1):=by rw[←hb];exact List.mem_map.2 ⟨_,hm,rfl⟩
  obtain⟨q,hq,rfl⟩:=List.mem_map.1 this;obtain⟨c,rfl⟩:=En _ _ hm;rw[hβ q hq,Nat.add_comm] at KK;exact⟨q.2,o,KK,hj⟩
 have nost:∀{bs:List (Nat × Bl)},(∀i bx,(i,bx)∈bs->∃c,bx=.ar false c)->Xe bs:=by
  intro bs En id cells hm;obtain⟨c,e⟩:=En id _ hm;cases e
 unfold inK at hk;split at hk
 ·rename_i e he;obtain⟨ps,rfl,Dm⟩:=HW hk;obtain⟨hi8,D8⟩:=Al Dm;have hi8:i<8:=Nat.lt_of_succ_le (Nat.le_of_ble_eq_true hi8);obtain⟨cs,bs,qs,Jn,hl,Pg,hb,Kp,En,hF,G3,hv⟩:=Mw D8;refine⟨_,_,(C9 N i,0)::qs.map (fun q=>(q.1,q.2+1)),Jn,by simp only[List.map_cons,hb];simp,?_,fun _=>⟨List.mem_cons_self,hi8⟩,?_,?_,?_,fun w A bt β' u hβ hp=>?_⟩
  ·intro q hq q' E2 e;rcases List.mem_cons.1 hq with rfl|hq
   ·rcases List.mem_cons.1 E2 with rfl|E2
    ·rfl
    ·obtain⟨q0,R0,rfl⟩:=List.mem_map.1 E2;simp only at e;omega
   ·obtain⟨q0,R0,rfl⟩:=List.mem_map.1 hq;rcases List.mem_cons.1 E2 with rfl|E2
    ·simp only at e;omega
    ·obtain⟨q1,Hz,rfl⟩:=List.mem_map.1 E2;exact Kp q0 R0 q1 Hz (by simp only at e;omega)
  ·intro id bx hm;rcases List.mem_cons.1 hm with e|hm
   ·cases e;exact⟨trivial,fun _ _=>⟨rfl,rfl⟩⟩
   ·obtain⟨c,rfl⟩:=En id bx hm;exact⟨trivial,fun _ e=>by cases e⟩
  ·intro id Bh;simp only[Br,B8,An,List.mem_singleton] at Bh;subst Bh;exact⟨_,List.mem_cons_self⟩
  ·intro id cells hm c hc k hk;rcases List.mem_cons.1 hm with e|hm
   ·cases e;obtain⟨bx,Jl⟩:=G3 c hc k hk;exact⟨bx,List.mem_cons_of_mem _ Jl⟩
   ·obtain⟨c,e⟩:=En id _ hm;cases e
  ·obtain⟨b,o,h1,rfl,_,vs,h3,h4,h5⟩:=hp;have h0:=hβ (C9 N i,0) List.mem_cons_self;simp only at h0;have hβ1:∀q∈qs,β' q.1=bt (1+q.2):=fun q hq=>by rw[hβ _ (List.mem_cons_of_mem _ (List.mem_map_of_mem hq)),Nat.add_comm]
   obtain⟨h6,h7⟩:=hv w A bt β' 1 vs hβ1 h3;refine⟨⟨b,o,h0.trans h1,by simp⟩,fun id bx hm=>?_,fun id bx b' o' hm Gy j hj=>?_⟩
   ·rcases List.mem_cons.1 hm with e|hm
    ·cases e;refine⟨b,o,h0.trans h1,fun k c hk=>?_,fun k hk=>h5 k (by omega)⟩
     obtain⟨v,hv,ON⟩:=h6.get hk;exact⟨v,h4 k v hv,ON⟩
    ·exact h7 id bx hm
   ·rcases List.mem_cons.1 hm with e|hm
    ·cases e;rw[h0] at Gy;have hj:o'<=j∧j<o'+cs.length:=hj;exact .inr ⟨o',ps,Gy,hj.1,.inl ⟨rfl,by omega⟩⟩
    ·exact .inl (owns hb En hβ1 id bx b' o' hm Gy j hj)
 ·split at hk
  ·rename_i ps;obtain⟨e,he,Dm⟩:=B7 hk;obtain⟨hi8,D8⟩:=Al Dm;have hi8:i<8:=Nat.lt_of_succ_le (Nat.le_of_ble_eq_true hi8);obtain⟨q,qr,hq,Jn⟩:=A7 D8;subst hq;obtain⟨Wz,Rw⟩:=Dc Jn;subst Wz;unfold FE at Rw;split at Rw
   ·rename_i es' n c;cases hb:Nat.beq es' (A8 P e)<;>rw[hb] at Rw
    ·cases Rw
    ·have R5:=Nat.eq_of_beq_eq_true hb;subst R5;refine⟨_,_,[(C9 N i,0)],Rw,rfl,by simp,fun _=>⟨by simp,hi8⟩,?_,?_,?_,fun w A bt β' u hβ hp=>?_⟩
     ·intro id bx hm;simp only[List.mem_singleton] at hm;cases hm;exact⟨trivial,fun _ e=>by cases e⟩
     ·intro id Bh;simp only[Br,B8,An,List.mem_singleton] at Bh;subst Bh;exact⟨_,List.mem_cons_self⟩
     ·intro id cells hm;simp only[List.mem_singleton] at hm;cases hm
     ·obtain⟨es,n',c',h1,h2⟩:=hp;cases h1;have h0:=hβ (C9 N i,0) List.mem_cons_self;simp only at h0;refine⟨?_,fun id bx hm=>?_,fun id bx b' o' hm Gy j hj=>?_⟩
      ·rcases h2 with⟨h3,rfl,_,h5⟩|⟨b,ob,cap,h3,h4,h5,h6,h7,_⟩
       ·exact .inl ⟨h0.trans h3,rfl,rfl,h5⟩
       ·exact .inr ⟨b,ob,ob,cap,h0.trans h3,h4,.inl rfl,h5,h6,h7⟩
      ·simp only[List.mem_singleton] at hm;cases hm;exact Ty h2 h0
      ·simp only[List.mem_singleton] at hm;cases hm;rw[h0] at Gy;exact .inr ⟨o',_,Gy,hj,.inr rfl⟩
   ·cases Rw
  ·rename_i UC;cases Fc:B4 P t<;>rw[Fc] at hk
   ·simp only[cond_false] at hk;obtain⟨cs,bs,qs,Jn,hl,Pg,hb,Kp,En,hF,G3,hv⟩:=Mw hk;obtain⟨c,cs',AE,Rw⟩:=A7 Jn;subst AE;obtain⟨Wz,UQ⟩:=Dc Rw;subst Wz;have hFc:=hF c (by simp)
    have hnL:V7 p=false∨∃ps,p=.pbox ps:=by
     cases p<;>first|exact .inl rfl|exact .inr ⟨_,rfl⟩|exact absurd rfl (UC _)
    have hpb:∀ps,p ≠ .pbox ps:=by
     rintro ps rfl
     cases MU:G1 P t with
     |nil=>rw[MU] at Pg;simp at Pg
     |cons t' ts=>
      rw[MU] at hk;unfold Y3 Ad1 at hk;obtain⟨q,qs1,hq,Dm⟩:=A7 hk;cases hq;cases t'<;>simp[Xg,Ke,Ak,Ao,Az,fnK] at Dm
    have hpa:∀ps,p ≠ .agg ps:=by
     rintro ps rfl
     cases MU:G1 P t with
     |nil=>rw[MU] at Pg;simp at Pg
     |cons t' ts=>
      rw[MU] at hk;unfold Y3 Ad1 at hk;obtain⟨q,qs1,hq,Dm⟩:=A7 hk;cases hq;cases t'<;>simp[Xg,Ke,Ak,Ao,Az,fnK] at Dm
    have hnL:V7 p=false:=hnL.elim id (fun ⟨ps,e⟩=>absurd e (hpb ps))
    have R8:Br c=An c:=by cases c<;>first|rfl|exact hFc.elim
    refine⟨c,bs,qs.map (fun q=>(q.1,q.2+1)),UQ,by rw[hb];simp,?_,(fun h=>by rw[hnL] at h;cases h),?_,fun id Bh=>G3 c (by simp) id (by rw[←R8];exact Bh),nost En,fun w A bt β' u hβ hp=>?_⟩
    ·intro q hq q' E2 e;obtain⟨q0,R0,rfl⟩:=List.mem_map.1 hq;obtain⟨q1,Hz,rfl⟩:=List.mem_map.1 E2;exact Kp q0 R0 q1 Hz (by simp only at e;omega)
    ·intro id bx hm;obtain⟨c,rfl⟩:=En id bx hm;exact⟨trivial,fun _ e=>by cases e⟩
    ·have Cn:Fm w A (bt 1) p u:=by cases p<;>first|exact hp.2|exact absurd rfl (hpa _)|exact absurd rfl (hpb _)|exact absurd rfl (UC _)
     have hβ1:∀q∈qs,β' q.1=bt (1+q.2):=fun q hq=>by rw[hβ _ (List.mem_map_of_mem hq),Nat.add_comm]
     obtain⟨h6,h7⟩:=hv w A bt β' 1 [u] hβ1 ⟨Cn,trivial⟩;refine⟨?_,h7,fun id bx b' o' hm Gy j hj=>.inl (owns hb En hβ1 id bx b' o' hm Gy j hj)⟩
     have h8:=h6.1;cases c<;>first|exact h8|exact hFc.elim
   ·simp only[cond_true] at hk;obtain⟨ps,Gw,Dm⟩:=Gb hk;subst Gw;obtain⟨cs,bs,qs,Jn,hl,Pg,hb,Kp,En,hF,G3,hv⟩:=Mw Dm;refine⟨_,bs,qs.map (fun q=>(q.1,q.2+1)),Jn,by rw[hb];simp,?_,(fun h=>by cases h),?_,fun id Bh=>?_,nost En,fun w A bt β' u hβ hp=>?_⟩
    ·intro q hq q' E2 e;obtain⟨q0,R0,rfl⟩:=List.mem_map.1 hq;obtain⟨q1,Hz,rfl⟩:=List.mem_map.1 E2;exact Kp q0 R0 q1 Hz (by simp only at e;omega)
    ·intro id bx hm;obtain⟨c,rfl⟩:=En id bx hm;exact⟨trivial,fun _ e=>by cases e⟩
    ·obtain⟨c,hc,hi⟩:=List.mem_flatMap.1 (show id∈cs.flatMap An from Bh)
     exact G3 c hc id hi
    ·obtain⟨vs,h1,_,h3⟩:=hp;have hβ1:∀q∈qs,β' q.1=bt (1+q.2):=fun q hq=>by rw[hβ _ (List.mem_map_of_mem hq),Nat.add_comm]
     obtain⟨h6,h7⟩:=hv w A bt β' 1 vs hβ1 h3;exact⟨⟨vs,h1,h6⟩,h7,fun id bx b' o' hm Gy j hj=>.inl (owns hb En hβ1 id bx b' o' hm Gy j hj)⟩
theorem QL:∀{ts:List TypeId}{i:Nat}{ps:List PV}{K:List (Nat × PV)->List (Nat × Bl)->Option R},Afj P N i ts ps K=some r ->
  ∃tms bs,∃qs:List (Nat × Nat × Nat),K tms bs=some r∧bs.map (·.1)=qs.map (·.1)∧(∀q∈qs,i<=q.2.1)∧(∀q∈qs,∀q'∈qs,q.2=q'.2->q.1=q'.1) ∧
   (∀k p,ps[k]?=some p->V7 p=true->(C9 N (i+k),i+k,0)∈qs∧i+k<8)∧(∀id bx,(id,bx)∈bs->Cy (some bx)∧∀c,bx=.st c->∃k p,ps[k]?=some p∧V7 p=true∧id=C9 N (i+k)) ∧
   (∀j,∀id∈Br (lk tms j),∃bx,(id,bx)∈bs)∧Xe bs ∧
   ∀(w:World) (A:Nat->Prop) (bt:V6) (β':Bt) (us:List Value),(∀q∈qs,β' q.1=bt q.2.1 q.2.2)->Jb w A bt i ps us ->
    (∀j,(∃u,i<=j∧us[j-i]?=some u∧D5 w A β' (lk tms j) u)∨(lk tms j=.top∧(i<=j->us[j-i]?=none)))∧(∀id bx,(id,bx)∈bs->Ol w A β' id bx) ∧
    ∀id bx b o,(id,bx)∈bs->β' id=some (b,o)->∀j,BR bx o j->∃k p,ps[k]?=some p∧Aoo (bt (i+k)) p b j
 |[],i,ps,K,hk=>by
  obtain⟨Zk,hk⟩:=Dc hk;subst Zk;refine⟨[],[],[],hk,rfl,by simp,by simp,by simp,by simp,(fun j id Bh=>by cases Bh),(by intro i cells hm;cases hm),fun w A bt β' us _ h=>?_⟩
  cases us with
  |nil=>exact⟨fun j=>.inr ⟨rfl,fun _=>by simp⟩,by simp,by simp⟩
  |cons u us=>exact h.elim
 |t::ts,i,ps,K,hk=>by
  unfold Afj at hk;obtain⟨p,ps',Zk,Dm⟩:=A7 hk;subst Zk;obtain⟨v,bs,qs,D8,hb,hqi,DK,Jl,hr,WG,hv⟩:=Ajt Dm;obtain⟨tms,bs',qs',Jn,Gy,An5,A7o,As9,A3l,hr',A4y,Lx⟩:=QL D8;refine⟨(i,v)::tms,bs++bs',qs.map (fun q=>(q.1,i,q.2))++qs',Jn,by simp only[List.map_append,hb,Gy];simp,?_,?_,?_,?_,?_,?_,fun w A bt β' us hβ hp=>?_⟩
  ·intro q hq;rcases List.mem_append.1 hq with hq|hq
   ·obtain⟨q0,R0,rfl⟩:=List.mem_map.1 hq;exact Nat.le_refl _
   ·have:=An5 q hq;omega
  ·intro q hq q' E2 e;rcases List.mem_append.1 hq with hq|hq
   ·obtain⟨q0,R0,rfl⟩:=List.mem_map.1 hq;rcases List.mem_append.1 E2 with E2|E2
    ·obtain⟨q1,Hz,rfl⟩:=List.mem_map.1 E2;simp only[Prod.mk.injEq,true_and] at e;exact hqi q0 R0 q1 Hz e
    ·have:=An5 q' E2;rw[←e] at this;simp only at this;omega
   ·have h5:=An5 q hq;rcases List.mem_append.1 E2 with E2|E2
    ·obtain⟨q1,Hz,rfl⟩:=List.mem_map.1 E2;rw[e] at h5;simp only at h5;omega
    ·exact A7o q hq q' E2 e
  ·intro k p' Jm hL;cases k with
   |zero=>
    simp only[List.getElem?_cons_zero,Option.some.injEq] at Jm;subst Jm;obtain⟨h1,h2⟩:=DK hL;exact⟨List.mem_append.2 (.inl (List.mem_map.2 ⟨_,h1,rfl⟩)),h2⟩
   |succ k=>
    obtain⟨h1,h2⟩:=As9 k p' (by simpa using Jm) hL
    rw[show i+1+k=i+(k+1) by omega] at h1 h2
    exact⟨List.mem_append.2 (.inr h1),h2⟩
  ·intro id bx hm;rcases List.mem_append.1 hm with hm|hm
   ·obtain⟨h1,h2⟩:=Jl id bx hm;exact⟨h1,fun c hc=>⟨0,p,rfl,(h2 c hc).2,(h2 c hc).1⟩⟩
   ·obtain⟨h1,h2⟩:=A3l id bx hm;refine⟨h1,fun c hc=>?_⟩
    obtain⟨k,p',h3,h4,h5⟩:=h2 c hc;exact⟨k+1,p',by simpa using h3,h4,by rw[h5,show i+1+k=i+(k+1) by omega]⟩
  ·intro j id Bh;unfold lk at Bh;cases hbq:Nat.beq j i<;>rw[hbq] at Bh
   ·obtain⟨bx,h1⟩:=hr' j id Bh;exact⟨bx,List.mem_append.2 (.inr h1)⟩
   ·obtain⟨bx,h1⟩:=hr id Bh;exact⟨bx,List.mem_append.2 (.inl h1)⟩
  ·intro id cells hm c hc k hk;rcases List.mem_append.1 hm with hm|hm
   ·obtain⟨bx,h1⟩:=WG id cells hm c hc k hk;exact⟨bx,List.mem_append.2 (.inl h1)⟩
   ·obtain⟨bx,h1⟩:=A4y id cells hm c hc k hk;exact⟨bx,List.mem_append.2 (.inr h1)⟩
  ·cases us with
   |nil=>exact hp.elim
   |cons u us=>
    obtain⟨h1,h2,h3⟩:=hv w A (bt i) β' u (fun q hq=>hβ _ (List.mem_append.2 (.inl (List.mem_map_of_mem hq)))) hp.1
    obtain⟨LI,h2',h3'⟩:=Lx w A bt β' us (fun q hq=>hβ q (List.mem_append.2 (.inr hq))) hp.2
    refine⟨fun j=>?_,fun id bx hm=>?_,fun id bx b o hm KK j hj=>?_⟩
    ·unfold lk;cases hbq:Nat.beq j i
     ·have Ei:=Kg hbq;simp only[cond_false];rcases LI j with⟨u',h4,h5,h6⟩|⟨h4,h5⟩
      ·refine .inl ⟨u',by omega,?_,h6⟩
       rw[show j-i=(j-(i+1))+1 by omega]
       simpa using h5
      ·refine .inr ⟨h4,fun hij=>?_⟩
       rw[show j-i=(j-(i+1))+1 by omega]
       simpa using h5 (by omega)
     ·have:=Nat.eq_of_beq_eq_true hbq;subst this;exact .inl ⟨u,Nat.le_refl _,by simp,h1⟩
    ·rcases List.mem_append.1 hm with hm|hm
     ·exact h2 id bx hm
     ·exact h2' id bx hm
    ·rcases List.mem_append.1 hm with hm|hm
     ·exact⟨0,p,rfl,h3 id bx b o hm KK j hj⟩
     ·obtain⟨k,p',h4,h5⟩:=h3' id bx b o hm KK j hj;exact⟨k+1,p',by simpa using h4,by rw[show i+(k+1)=i+1+k by omega];exact h5⟩
def VV (bt:V6)(args:List PV)(h8:∀k p,args[k]?=some p->V7 p=true->k<8):Gu:=
 ⟨ZZ bt,BL bt args,fun i=>∃p,args[i]?=some p∧V7 p=true,fun i=>bt i 0,fun i ⟨p,h1,h2⟩=>h8 i p h1 h2⟩
theorem Abf {ts:List TypeId}{args:List PV}{us:List Value}{bt:V6}{K:List (Nat × PV)->List (Nat × Bl)->Option R} (DN:Ins w Y bt args us)(hk:Afj P N 0 ts args K=some r):
  ∃tms bs,K tms bs=some r∧(Bo (fun _=>none) bs=true->us.length<=N->∃(h8:∀k p,args[k]?=some p->V7 p=true->k<8),∃β0,
   Cl N w (VV bt args h8) Y β0 ⟨lk tms,Jt bs⟩ { tmps:=us.toArray++Array.replicate (N-us.toArray.size) undef,defers:=[] } w):=by
 obtain⟨tms,bs,qs,Dm,hb,R0,hqi,DK,Jl,hr,WG,hv⟩:=QL hk;refine⟨tms,bs,Dm,fun Mq hN=>?_⟩
 have VK:=N7 Mq
 have h8:∀k p,args[k]?=some p->V7 p=true->k<8:=fun k p h1 h2=>by
  have:=(DK k p h1 h2).2;omega
 have ES:(qs.map (·.1)).Nodup:=by rw[←hb];exact VK
 obtain⟨β0,hβ0⟩:∃β0:Bt,∀q∈qs,β0 q.1=bt q.2.1 q.2.2:=by
  have:∀(l:List (Nat × Nat × Nat)),(l.map (·.1)).Nodup->∃β0:Bt,∀q∈l,β0 q.1=bt q.2.1 q.2.2:=by
   intro l
   induction l with
   |nil=>intro _;exact⟨fun _=>none,by simp⟩
   |cons q l ih=>
    intro hn;simp only[List.map_cons,List.nodup_cons] at hn;obtain⟨b1,h1⟩:=ih hn.2;refine⟨Ch b1 q.1 (bt q.2.1 q.2.2),fun q' E2=>?_⟩
    rcases List.mem_cons.1 E2 with rfl|E2
    ·exact Am _ _ _
    ·have Ei:q'.1≠q.1:=fun e=>hn.1 (by rw[←e];exact List.mem_map.2 ⟨q',E2,rfl⟩)
     rw[Ai _ _ Ei];exact h1 q' E2
  exact this qs ES
 refine⟨h8,β0,?_⟩;obtain⟨hs,MM,hL⟩:=hv w _ bt β0 us hβ0 DN.args
 have hqm:∀id bx,(id,bx)∈bs->∃ik,(id,ik)∈qs∧β0 id=bt ik.1 ik.2:=by
  intro id bx hm;have:id∈qs.map (·.1):=by rw[←hb];exact List.mem_map.2 ⟨_,hm,rfl⟩
  obtain⟨q,hq,rfl⟩:=List.mem_map.1 this;exact⟨q.2,hq,hβ0 q hq⟩
 have hX:∀b,KJ (Jt bs) β0 b->ZZ bt b:=by
  rintro b ⟨id,o,hl,hβ⟩
  cases hq:Jt bs id with
  |none=>rw[hq] at hl;exact hl.elim
  |some bx=>
   obtain⟨ik,_,h2⟩:=hqm id bx (Kj hq);rw[h2] at hβ;exact⟨_,_,_,hβ⟩
 have hA:∀b,Cw (Jt bs) β0 Y b->ZZ bt b∨Y b:=fun b hb=>hb.imp (hX b) id
 have Ah4:∀{p:PV} {u:Value},D5 w (fun b=>ZZ bt b∨Y b) β0 p u->D5 w (Cw (Jt bs) β0 Y) β0 p u:=fun h=>h.step (B6.refl _ _) (fun b _=>hA b) (fun _ _=>rfl)
 refine⟨rfl,by simp;omega,fun i hi=>?_,fun i hi=>?_,?_,?_,?_,fun i hi id Bh=>?_,?_,fun b hb=>.inl (hX b hb),?_,?_,?_,fun b hY hXb=>DN.Yx b hY (hX b hXb),DN.Ylt,⟨rfl,rfl,rfl,B6.refl _ _,fun _ _ _ _=>⟨rfl,rfl⟩⟩⟩
 ·rcases hs i with⟨u,_,h,_⟩|⟨h,_⟩
  ·rw[Nat.sub_zero,List.getElem?_eq_none (by omega)] at h;cases h
  ·exact h
 ·rcases hs i with⟨u,_,h,hv⟩|⟨h,h'⟩
  ·rw[Nat.sub_zero] at h
   have B5:i<us.length:=by
    rcases Nat.lt_or_ge i us.length with h'|h'
    ·exact h'
    ·rw[List.getElem?_eq_none h'] at h;cases h
   have:(us.toArray++Array.replicate (N-us.toArray.size) undef).getD i undef=u:=by
    rw[Array.getD_eq_getD_getElem?,Array.getElem?_append_left (by simpa using B5)]
    simp[h]
   show D5 w _ _ _ ((us.toArray++Array.replicate (N-us.toArray.size) undef).getD i undef);rw[this];exact Ah4 hv
  ·show D5 w _ _ (lk tms i) _;rw[h];exact Au.top _
 ·intro id bx hq;exact (MM id bx (Kj hq)).step' hA
 ·intro id id' b o o' hl Ib hβ hβ';cases hq:Jt bs id with
  |none=>change Cy (Jt bs id) at hl;rw[hq] at hl;exact hl.elim
  |some bx=>
   cases E2:Jt bs id' with
   |none=>change Cy (Jt bs id') at Ib;rw[E2] at Ib;exact Ib.elim
   |some bx'=>
    obtain⟨ik,h1,h2⟩:=hqm id bx (Kj hq);obtain⟨ik',LI,h2'⟩:=hqm id' bx' (Kj E2);rw[h2] at hβ;rw[h2'] at hβ';obtain⟨h3,h4⟩:=DN.inj _ _ _ _ b o o' hβ hβ';exact hqi _ h1 _ LI (Prod.ext h3 h4)
 ·intro id b o hn hβ;cases hq:Jt bs id with
  |none=>exact absurd hq hn
  |some bx=>
   obtain⟨ik,h1,h2⟩:=hqm id bx (Kj hq);rw[h2] at hβ;exact DN.lt b ⟨_,_,_,hβ⟩
 ·obtain⟨bx,hm⟩:=hr i id Bh;show Jt bs id≠none;rw[MF VK hm];simp
 ·intro id cells hq c hc k hk;obtain⟨bx,hm⟩:=WG id cells (Kj hq) c hc k hk;show Jt bs k≠none;rw[MF VK hm];simp
 ·intro id bx b o hq hl hβ _ j hj;obtain⟨k,p,h1,h2⟩:=hL id bx b o (Kj hq) hβ j hj;rw[Nat.zero_add] at h2;exact⟨k,p,h1,h2⟩
 ·rintro i ⟨p,h1,h2⟩
  have h3:=(DK i p h1 h2).1;rw[Nat.zero_add] at h3;refine⟨?_,hβ0 _ h3⟩;have:C9 N i∈bs.map (·.1):=by rw[hb];exact List.mem_map.2 ⟨_,h3,rfl⟩
  obtain⟨⟨id,bx⟩,hm,e⟩:=List.mem_map.1 this;show Jt bs (C9 N i)≠none;rw[←e,MF VK hm];simp
 ·intro id c b o hq _ _;obtain⟨k,p,h1,h2,h3⟩:=(Jl id _ (Kj hq)).2 c rfl;rw[Nat.zero_add] at h3;exact⟨k,h3,p,h1,h2⟩
end
open Go.RowKit
def Jk (β:Bt)(l:List (Option Nat)) (j:Nat):Option (Nat × Nat):=((l[j]?).bind id).bind β
section
variable {R:Type} {r:R} {P:Program} {N:Nat} {w0:World} {X0:Gu} {Y:Nat->Prop} {β β':Bt} {s:St} {a:Act} {w w':World} {A:Nat->Prop}
def Af8 (s:St)(l:List (Option Nat)):Prop:=∀id,some id∈l->Cy (s.hp id)
def Jw (s:St)(z:List Nat):Prop:=∀id∈z,∃f c,s.hp id=some (.ar f c)
theorem JE (h : Cl N w0 X0 Y β s a w) {shr : Bool} {t : CT} {p : PV} {K : PV -> List Nat -> List Nat -> Option R} (hk : YB shr s.hp t p K = some r) :
    ∃ c q z, K c (Option.toList q) z = some r ∧ (∀ x, c ≠ .agg x ∧ c ≠ .pbox x) ∧ GD p ∧ (∀ id, q = some id -> ∃ c, s.hp id = some (.ar false c)) ∧ Jw s z ∧
      ∀ (fz : List Nat) A u, (∀ i ∈ z, i ∈ fz) -> Jw s fz -> (∀ b, A b -> Cw (Af s.hp fz) β Y b) -> Bw w (Cw s.hp β Y) β p u -> Fm w A (q.bind β) c u := by
  have notree : ∀ {c : PV}, Sg c -> ∀ x, c ≠ .agg x ∧ c ≠ .pbox x := fun hT x => ⟨Vx hT x, by rintro rfl; exact hT⟩
  unfold YB at hk
  cases shr <;> simp only[cond_true, cond_false] at hk
  · have tree : ∀ t', (∀ es, t' ≠ .sl es) -> (Xg t' p fun c => K c [] []) = some r -> ∃ c q z, K c (Option.toList q) z = some r ∧ (∀ x, c ≠ .agg x ∧ c ≠ .pbox x) ∧ GD p ∧ (∀ id, q = some id -> ∃ c, s.hp id = some (.ar false c)) ∧ Jw s z ∧
        ∀ (fz : List Nat) A u, (∀ i ∈ z, i ∈ fz) -> Jw s fz -> (∀ b, A b -> Cw (Af s.hp fz) β Y b) -> Bw w (Cw s.hp β Y) β p u -> Fm w A (q.bind β) c u := by
      intro t' Ei hk
      obtain⟨c, Dm, hT, BE, hv⟩ := Kc hk
      refine⟨c, none, [], Dm, notree hT, Ok BE, by simp, (by intro i hi; cases hi), fun fz A u _ _ hA hc => Io hT ?_⟩
      exact (hv w _ β u hc).1.step (B6.refl _ _) (fun b _ hb => K9 (hA b hb))
    unfold Aly at hk
    cases t with
    | sl es =>
      dsimp only at hk
      split at hk
      · rename_i id es' off n
        cases hb : (Nat.beq es' es && Nat.beq off 0) <;> rw[hb] at hk
        · cases hk
        · simp only[Bool.and_eq_true] at hb
          have he := Nat.eq_of_beq_eq_true hb.1
          have ho := Nat.eq_of_beq_eq_true hb.2
          subst he ho
          simp only[cond_true] at hk
          split at hk
          · rename_i c h0
            obtain⟨hl, Dm⟩ := Al hk
            refine⟨_, some id, [], Dm, by simp, trivial, fun i hi => by cases hi; exact⟨c, h0⟩, (by intro i hi; cases hi), fun fz A u _ _ hA hc => ?_⟩
            rcases hc with⟨h1, _, rfl, h4⟩ | ⟨b, o, x, cap, h1, h2, hx, h3, h4, h5⟩
            · exact .inl ⟨h1, rfl, by simp, h4⟩
            · have hx : x = o := by rcases hx with e | ⟨_, e⟩ <;> omega
              subst hx
              rcases h.box id _ h0 with⟨h6, _⟩ | ⟨b', o', h6, h7, h8, _⟩
              · rw[h1] at h6; cases h6
              · rw[h1] at h6
                cases h6
                refine .inr ⟨b, x, cap, h1, h2, h3, h4, h5, fun j q hq => ?_, fun j hj Pc => h8 rfl j hj Pc⟩
                rw[List.getElem?_take] at hq
                split at hq
                · obtain⟨v, hv, h9, ht⟩ := h7 j q hq
                  exact⟨v, hv, h9, ht.step (B6.refl _ _) (fun b _ hb => K9 (hA b hb))⟩
                · cases hq
          · cases hk
      · obtain⟨z, n, c, Dm, hp⟩ := Ew hk
        obtain⟨hz, D8⟩ := Al Dm
        subst hz
        have hpF : GD p := by rcases hp with e | ⟨e, _⟩ <;> (rw[e]; trivial)
        refine⟨_, none, [], D8, by simp, hpF, by simp, (by intro i hi; cases hi), fun fz A u _ _ _ hc => ?_⟩
        have hu : u = .slice none 0 0 := by
          rcases hp with rfl | ⟨rfl, _⟩
          · cases hc; rfl
          · exact Au.val hc
        exact .inl ⟨rfl, rfl, rfl, none, hu⟩
    | int k => exact tree _ (by simp) hk
    | bool => exact tree _ (by simp) hk
    | str => exact tree _ (by simp) hk
    | any => exact tree _ (by simp) hk
  · obtain⟨c, m, Dm, hT, hF, hm, hv⟩ := BT h hk
    exact⟨c, none, m, Dm, notree hT, hF, by simp, hm, fun fz A u h1 h2 hA hc => Io hT ((hv fz h1 h2 u hc).1.step (B6.refl _ _) (fun b _ hb => hA b hb))⟩
structure Zs (s:St) (β:Bt) (Y:Nat->Prop) (w:World) (cs:List PV) (l:List (Option Nat)) (z:List Nat) (ps:List PV):Prop where
 len:l.length=cs.length
 pl:cs.length=ps.length
 na:∀c∈cs,∀x,c ≠ .agg x∧c ≠ .pbox x
 fr:∀p∈ps,GD p
 own:∀id,some id∈l->∃c,s.hp id=some (.ar false c)
 row:Jw s z
 sem:∀(fz:List Nat) A us,(∀i∈z,i∈fz)->Jw s fz->(∀b,A b->Cw (Af s.hp fz) β Y b)->Bc (Bw w (Cw s.hp β Y) β) ps us->∀own j0,(∀j,j<l.length->own (j0+j)=Jk β l j)->Ed w A own j0 cs us
theorem Zs.nil:Zs s β Y w [] [] [] []:=⟨rfl,rfl,by simp,by simp,by simp,(by intro i hi;cases hi),fun fz A us _ _ _ hu own j0 _=>by
 cases us with
 |nil=>trivial
 |cons u us=>exact hu.elim⟩
theorem Zs.cons {c p:PV}{q:Option Nat}{z zs:List Nat}{cs ps:List PV}{l:List (Option Nat)} (X9:∀x,c ≠ .agg x∧c ≠ .pbox x)(hF:GD p)(hq:∀id,q=some id->∃c,s.hp id=some (.ar false c)) (hz:Jw s z)
  (hv:∀(fz:List Nat) A u,(∀i∈z,i∈fz)->Jw s fz->(∀b,A b->Cw (Af s.hp fz) β Y b)->Bw w (Cw s.hp β Y) β p u->Fm w A (q.bind β) c u) (H:Zs s β Y w cs l zs ps):Zs s β Y w (c::cs) (q::l) (z++zs) (p::ps):=by
 refine⟨by simp[H.len],by simp[H.pl],?_,?_,?_,?_,fun fz A us SB L9 hA hu own j0 Fj=>?_⟩
 ·intro x hx;rcases List.mem_cons.1 hx with rfl|hx
  ·exact X9
  ·exact H.na x hx
 ·intro x hx;rcases List.mem_cons.1 hx with rfl|hx
  ·exact hF
  ·exact H.fr x hx
 ·intro id Bh;rcases List.mem_cons.1 Bh with e|Bh
  ·exact hq id e.symm
  ·exact H.own id Bh
 ·intro i hi;rcases List.mem_append.1 hi with hi|hi
  ·exact hz i hi
  ·exact H.row i hi
 ·cases us with
  |nil=>exact hu.elim
  |cons u us=>
   have h0:=Fj 0 (by simp)
   rw[Nat.add_zero] at h0;refine⟨?_,H.sem fz A us (fun i hi=>SB i (by simp[hi])) L9 hA hu.2 own (j0+1) fun j hj=>?_⟩
   ·rw[h0];exact hv fz A u (fun i hi=>SB i (by simp[hi])) L9 hA hu.1
   ·have:=Fj (j+1) (by simp;omega)
    rw[show j0+1+j=j0+(j+1) by omega,this]
    simp[Jk]
theorem Og (h:Cl N w0 X0 Y β s a w){shr:Bool}:∀{ts:List CT}{ps:List PV}{K:List PV->List Nat->List Nat->Option R},W0 shr s.hp ts ps K=some r ->
  ∃cs l z,K cs (l.filterMap id) z=some r∧Zs s β Y w cs l z ps
 |[],[],K,hk=>⟨[],[],[],hk,Zs.nil⟩
 |[],_::_,K,hk=>by cases hk
 |_::_,[],K,hk=>by cases hk
 |t::ts,p::ps,K,hk=>by
  unfold W0 at hk;obtain⟨c,q,z,Dm,X9,hF,hq,hz,hv⟩:=JE h hk;obtain⟨cs,l,zs,D8,H⟩:=Og h Dm;refine⟨c::cs,q::l,z++zs,?_,Zs.cons X9 hF hq hz hv H⟩;cases q<;>exact D8
theorem Yn (h:Cl N w0 X0 Y β s a w):∀{ts:List CT}{ws ps:List PV}{K:List PV->List Nat->List Nat->Option R},Z7 s.hp ts ws ps K=some r ->
  ∃cs l z,K cs (l.filterMap id) z=some r∧cs.length=ws.length∧Zs s β Y w cs l z ps
 |[],[],[],K,hk=>⟨[],[],[],hk,rfl,Zs.nil⟩
 |[],_::_,_,K,hk=>by cases hk
 |[],[],_::_,K,hk=>by cases hk
 |_::_,[],_,K,hk=>by cases hk
 |_::_,_::_,[],K,hk=>by cases hk
 |t::ts,x::ws,p::ps,K,hk=>by
  unfold Z7 at hk;obtain⟨c,q,z,Dm,X9,hF,hq,hz,hv⟩:=JE h hk;obtain⟨cs,l,zs,D8,hl,H⟩:=Yn h Dm;refine⟨c::cs,q::l,z++zs,?_,by simp[hl],Zs.cons X9 hF hq hz hv H⟩
  cases q<;>exact D8
theorem VP {own:Bt}{zz j:Nat}{p:PV}{u:Value}(hp:∀x,p ≠ .agg x∧p ≠ .pbox x)(h:Ed w A own j [p] [u]):Aib w A own zz j p u:=by
 cases p<;>first|exact h.1|exact absurd rfl (hp _).1|exact absurd rfl (hp _).2
theorem XW (h:Cl N w0 X0 Y β s a w){id b o:Nat}{c cs:List PV}{l:List (Option Nat)} {z:List Nat}(h0:s.hp id=some (.st c)) (hβ:β id=some (b,o)) (H:Zs s β Y w cs l z c){fz:List Nat}{A:Nat->Prop}(h1:∀i∈z,i∈fz)(h2:Jw s fz)(hA:∀b,A b->Cw (Af s.hp fz) β Y b)
  {own:Bt} {j0:Nat} (Fj:∀j,j<l.length->own (j0+j)=Jk β l j):Aeh w A own j0 b o cs:=by
 obtain⟨b',o',En,G3,Sk⟩:=h.box id _ h0;rw[hβ] at En;cases En;refine⟨c.mapIdx (fun j _=>(w.cell? ⟨b,o+j,none⟩).getD undef),H.sem fz A _ h1 h2 hA ?_ own j0 Fj,?_,fun k hk=>Sk k (by have:=H.pl;omega)⟩
 ·refine Bc.of_at (by simp) fun j p v hp hv=>?_
  obtain⟨u,hu,ON⟩:=G3 j p hp;rw[List.getElem?_mapIdx,hp,Option.map_some,hu] at hv;simp at hv;subst hv;exact ON
 ·intro k v ZP;rw[List.getElem?_mapIdx] at ZP;cases hp:c[k]? with
  |none=>rw[hp] at ZP;cases ZP
  |some p=>
   obtain⟨u,hu,ON⟩:=G3 k p hp;rw[hp,Option.map_some,hu] at ZP;simp at ZP;subst ZP;exact hu
theorem YT (h:Cl N w0 X0 Y β s a w){shr:Bool}{t:TypeId}{p:PV}{u:Value}(hp:D5 w (Cw s.hp β Y) β p u) {K:PV->List Nat->List Nat->Option R}(hk:Agl P shr s.hp t p K=some r):
  ∃v l z,K v (l.filterMap id) z=some r∧l.length=plc v∧Af8 s l∧Jw s z ∧
   ∀(fz:List Nat) A zz,(∀i∈z,i∈fz)->Jw s fz->(∀b,A b->Cw (Af s.hp fz) β Y b)->(∀id c b o,some id∈l->s.hp id=some (.st c)->β id=some (b,o)->zz<=b) ->
    ∀own j0,(∀j,j<l.length->own (j0+j)=Jk β l j)->Aib w A own zz j0 v u:=by
 unfold Agl at hk;split at hk
 ·rename_i e he;split at hk
  ·rename_i id off;split at hk
   ·rename_i c h0;obtain⟨hof,Dm⟩:=Al hk;have hof:=Nat.eq_of_beq_eq_true hof;subst hof;obtain⟨cs,l,z,D8,H⟩:=Og h Dm;obtain⟨b,o,hβ,hu⟩:=hp;refine⟨.pbox cs,some id::l,z,D8,by simp only[plc,List.length_cons,H.len];omega,?_,H.row,fun fz A zz h1 h2 hA hz own j0 Fj=>?_⟩
    ·intro i hi;rcases List.mem_cons.1 hi with e|hi
     ·cases e;rw[h0];trivial
     ·obtain⟨c',Ob⟩:=H.own i hi;rw[Ob];trivial
    ·have h3:=Fj 0 (by simp)
     rw[Nat.add_zero] at h3;refine⟨b,o,by rw[h3];exact hβ,hz id c b o (by simp) h0 hβ,by rw[hu,Nat.add_zero],XW h h0 hβ H h1 h2 hA fun j hj=>?_⟩
     have:=Fj (j+1) (by simp;omega)
     rw[show j0+1+j=j0+(j+1) by omega,this]
     simp[Jk]
   ·cases hk
  ·cases hk
 ·cases Fc:B4 P t<;>rw[Fc] at hk<;>simp only[cond_true,cond_false] at hk
  ·obtain⟨cs,l,z,Dm,H⟩:=Og h hk;obtain⟨c,cs',AE,D8⟩:=A7 Dm;subst AE;obtain⟨Wz,Jn⟩:=Dc D8;subst Wz;have X9:=H.na c (by simp)
   have EZ:plc c=1:=by cases c<;>first|rfl|exact absurd rfl (X9 _).1|exact absurd rfl (X9 _).2
   have hF:=H.fr p (by simp)
   refine⟨c,l,z,Jn,by rw[EZ];exact H.len,fun i hi=>?_,H.row,fun fz A zz h1 h2 hA _ own j0 Fj=>VP X9 (H.sem fz A [u] h1 h2 hA ⟨?_,trivial⟩ own j0 Fj)⟩
   ·obtain⟨c',Ob⟩:=H.own i hi;rw[Ob];trivial
   ·cases p<;>first|exact hp|exact hF.elim
  ·obtain⟨ps,Zk,Dm⟩:=Gb hk;subst Zk;obtain⟨cs,l,z,D8,H⟩:=Og h Dm;obtain⟨vs,hu,O9⟩:=hp;refine⟨.agg cs,l,z,D8,H.len,fun i hi=>?_,H.row,fun fz A zz h1 h2 hA _ own j0 Fj=>⟨vs,hu,H.sem fz A vs h1 h2 hA O9 own j0 Fj⟩⟩
   obtain⟨c',Ob⟩:=H.own i hi;rw[Ob];trivial
def MG (P:Program)(tmps:Array Value)(w:World)(rv:ResultVar)(u:Value):Prop:=
  (match rv with
   |.tmp t=>(pure (tmps.getD t undef):Sem Value)
   |.cell a t=>do loadVar t (←asAddr (tmps.getD a undef))).run P w=.ok u w
theorem Ae9 (h:Cl N w0 X0 Y β s a w)(t:Nat):D5 w (Cw s.hp β Y) β (s.tm t) (a.tmps.getD t undef):=by
 rcases Nat.lt_or_ge t N with h'|h'
 ·exact h.tms t h'
 ·rw[h.tmo t h'];exact Au.top _
theorem ZU (h:Cl N w0 X0 Y β s a w){rv:ResultVar}{K:PV->Option R}(hk:Aew P s rv K=some r):∃p u,K p=some r∧MG P a.tmps w rv u∧D5 w (Cw s.hp β Y) β p u:=by
 unfold Aew at hk;split at hk
 ·rename_i t;exact⟨_,_,hk,rfl,Ae9 h t⟩
 ·rename_i x t;obtain⟨v,ad,val,Dm,Cz,hl,hv,_⟩:=OK h (Ae9 h x) hk;refine⟨v,val,Dm,?_,hv⟩;unfold MG;simp[Cz,asAddr,hl]
theorem Ta {l l':List (Option Nat)} {j:Nat}(h:j<l.length):Jk β (l++l') j=Jk β l j:=by
 unfold Jk;rw[List.getElem?_append_left h]
theorem S3 {l l':List (Option Nat)} {j:Nat}:Jk β (l++l') (l.length+j)=Jk β l' j:=by
 unfold Jk;rw[List.getElem?_append_right (by omega),Nat.add_sub_cancel_left]
theorem CA (h:Cl N w0 X0 Y β s a w){shr:Bool}:∀{rs:List ResultVar}{ts:List TypeId}{K:List PV->List Nat->List Nat->Option R},KN P shr s rs ts K=some r ->
  ∃vs l z us,K vs (l.filterMap id) z=some r∧Bc (MG P a.tmps w) rs us∧l.length=Jv vs∧Af8 s l∧Jw s z ∧
   ∀(fz:List Nat) A zz,(∀i∈z,i∈fz)->Jw s fz->(∀b,A b->Cw (Af s.hp fz) β Y b)->(∀id c b o,some id∈l->s.hp id=some (.st c)->β id=some (b,o)->zz<=b) ->
    ∀own j0,(∀j,j<l.length->own (j0+j)=Jk β l j)->GM w A own zz j0 vs us
 |[],[],K,hk=>⟨[],[],[],[],hk,trivial,rfl,(by intro id Bh;cases Bh),(by intro id Bh;cases Bh),fun _ _ _ _ _ _ _ _ _ _=>trivial⟩
 |[],_::_,K,hk=>by cases hk
 |_::_,[],K,hk=>by cases hk
 |rv::rs,t::ts,K,hk=>by
  unfold KN at hk;obtain⟨p,u,Dm,hu,hp⟩:=ZU h hk;obtain⟨v,l,z,D8,hl,hL,hz,hv⟩:=YT h hp Dm;obtain⟨vs,l',z',us,Jn,hus,Ib,hL',hz',O9⟩:=CA h D8;refine⟨v::vs,l++l',z++z',u::us,?_,⟨hu,hus⟩,by simp only[List.length_append,Jv,List.map_cons,List.sum_cons,hl];rw[Ib];rfl,?_,?_,fun fz A zz h1 h2 hA Fh own j0 Fj=>⟨?_,?_⟩⟩
  ·rw[List.filterMap_append];exact Jn
  ·intro id Bh;rcases List.mem_append.1 Bh with Bh|Bh
   ·exact hL id Bh
   ·exact hL' id Bh
  ·intro id Bh;rcases List.mem_append.1 Bh with Bh|Bh
   ·exact hz id Bh
   ·exact hz' id Bh
  ·exact hv fz A zz (fun i hi=>h1 i (by simp[hi])) h2 hA (fun id c b o hi=>Fh id c b o (by simp[hi])) own j0 fun j hj=>by rw[Fj j (by simp;omega),Ta hj]
  ·refine O9 fz A zz (fun i hi=>h1 i (by simp[hi])) h2 hA (fun id c b o hi=>Fh id c b o (by simp[hi])) own (j0+plc v) fun j hj=>?_
   rw[←hl,Nat.add_assoc,Fj (l.length+j) (by simp;omega),S3]
theorem N1 (h:Cl N w0 X0 Y β s a w){bt:V6}(hpt:∀i,X0.pt i=bt i 0):∀{ts:List TypeId}{i:Nat}{ps:List PV}{K:List (List PV)->List Nat->List Nat->List Nat->Option R},Xz P N s.hp i ts ps K=some r ->
  (∀k p,ps[k]?=some p->V7 p=true->X0.pn (i+k)) ->
  ∃os l z q,K os (l.filterMap id) z q=some r∧(∀id,some id∈l->∃c,s.hp id=some (.ar false c))∧Jw s z∧(∀id∈q,Cy (s.hp id))∧(∀k p,ps[k]?=some p->V7 p=true->C9 N (i+k)∈q) ∧
   ∀(fz:List Nat) A,(∀i∈z,i∈fz)->Jw s fz->(∀i∈q,i ∉ fz)->(∀b,A b->Cw (Af s.hp fz) β Y b) ->
    ∀own j0,(∀j,j<l.length->own (j0+j)=Jk β l j)->Sb w A own bt j0 i ps os
 |[],i,ps,K,hk,_=>by
  obtain⟨Zk,hk⟩:=Dc hk;subst Zk;exact⟨[],[],[],[],hk,by simp,(by intro id Bh;cases Bh),by simp,by simp,fun _ _ _ _ _ _ _ _ _=>rfl⟩
 |t::ts,i,ps,K,hk,hpn=>by
  unfold Xz at hk;obtain⟨p,ps',Zk,Dm⟩:=A7 hk;subst Zk
  have Ao6:∀k p,ps'[k]?=some p->V7 p=true->X0.pn (i+1+k):=fun k p' h1 h2=>by
   have:=hpn (k+1) p' (by simpa using h1) h2
   rw[show i+1+k=i+(k+1) by omega]
   exact this
  have hpq:∀{q:List Nat},(V7 p=true->C9 N i∈q)->(∀k p,ps'[k]?=some p->V7 p=true->C9 N (i+1+k)∈q)->∀k p',(p::ps')[k]?=some p'->V7 p'=true->C9 N (i+k)∈q:=by
   intro q h1 h2 k p' h3 h4;cases k with
   |zero=>
    simp only[List.getElem?_cons_zero,Option.some.injEq] at h3;subst h3;exact h1 h4
   |succ k=>
    have:=h2 k p' (by simpa using h3) h4
    rw[show i+1+k=i+(k+1) by omega] at this
    exact this
  split at Dm
  ·rename_i ws;obtain⟨e,he,D8⟩:=B7 Dm;split at D8
   ·rename_i c h0;obtain⟨cs,l,z,Jn,Jg,H⟩:=Yn h D8;obtain⟨os,l',z',q,Rw,hL',hz',E2,hpi,hv⟩:=N1 h hpt Jn Ao6;refine⟨cs::os,l++l',z++z',C9 N i::q,by rw[List.filterMap_append];exact Rw,?_,?_,?_,hpq (fun _=>List.mem_cons_self) (fun k p h1 h2=>List.mem_cons_of_mem _ (hpi k p h1 h2)),fun fz A h1 h2 h3 hA own j0 Fj=>?_⟩
    ·intro id Bh;rcases List.mem_append.1 Bh with Bh|Bh
     ·exact H.own id Bh
     ·exact hL' id Bh
    ·intro id Bh;rcases List.mem_append.1 Bh with Bh|Bh
     ·exact H.row id Bh
     ·exact hz' id Bh
    ·intro id Bh;rcases List.mem_cons.1 Bh with rfl|Bh
     ·rw[h0];trivial
     ·exact E2 id Bh
    ·have DK:=(h.pin i (by have:=hpn 0 _ rfl rfl;rwa [Nat.add_zero] at this)).2
     obtain⟨b,o,En,_,_⟩:=h.box _ _ h0;rw[En,hpt] at DK;refine⟨⟨b,o,DK.symm,Jg,XW h h0 En H (fun i hi=>h1 i (by simp[hi])) h2 hA fun j hj=>by rw[Fj j (by simp;omega),Ta hj]⟩,?_⟩
     refine hv fz A (fun i hi=>h1 i (by simp[hi])) h2 (fun i hi=>h3 i (by simp[hi])) hA own (j0+cs.length) fun j hj=>?_
     rw[←H.len,Nat.add_assoc,Fj (l.length+j) (by simp;omega),S3]
   ·cases D8
  ·split at Dm
   ·rename_i c h0;obtain⟨os,l',z',q,Rw,hL',hz',E2,hpi,hv⟩:=N1 h hpt Dm Ao6;refine⟨c::os,l',z',C9 N i::q,Rw,hL',hz',?_,hpq (fun _=>List.mem_cons_self) (fun k p h1 h2=>List.mem_cons_of_mem _ (hpi k p h1 h2)),fun fz A h1 h2 h3 hA own j0 Fj=>⟨?_,hv fz A h1 h2 (fun i hi=>h3 i (by simp[hi])) hA own j0 Fj⟩⟩
    ·intro id Bh;rcases List.mem_cons.1 Bh with rfl|Bh
     ·rw[h0];trivial
     ·exact E2 id Bh
    ·have DK:=(h.pin i (by have:=hpn 0 _ rfl rfl;rwa [Nat.add_zero] at this)).2
     rw[hpt] at DK;rcases h.box _ _ h0 with⟨h4,h5⟩|⟨b,o,h4,h5,h6,_⟩
     ·exact .inl ⟨by rw[←DK];exact h4,h5⟩
     ·exact .inr ⟨b,o,by rw[←DK];exact h4,h5.weak (fun b _ hb=>K9 (hA b hb)),h6 rfl⟩
   ·cases Dm
  ·rename_i PE hn2;have hnL:V7 p=false:=by cases p<;>first|rfl|exact absurd rfl (PE _)|exact absurd rfl (hn2 _)
   obtain⟨os,l',z',q,Rw,hL',hz',E2,hpi,hv⟩:=N1 h hpt Dm Ao6;refine⟨os,l',z',q,Rw,hL',hz',E2,hpq (fun e=>by rw[hnL] at e;cases e) hpi,fun fz A h1 h2 h3 hA own j0 Fj=>?_⟩
   have:=hv fz A h1 h2 h3 hA own j0 Fj;cases p<;>first|exact this|cases hnL
theorem NC {f:ResultVar->Sem Value}:∀{rs:List ResultVar}{us:List Value},Bc (fun rv u=>(f rv).run P w=.ok u w) rs us->(rs.mapM f).run P w=.ok us w
 |[],[],_=>by simp
 |[],_::_,h=>h.elim
 |_::_,[],h=>h.elim
 |rv::rs,u::us,h=>by
  rw[List.mapM_cons];simp[h.1,NC h.2]
theorem PT {fn:Func}{us:List Value}(h:Bc (MG P a.tmps w) fn.results.toList us):(results fn a.tmps).run P w=.ok (Gv us) w:=by
 unfold results;rw[Array.mapM_eq_mapM_toList];simp only[map_eq_pure_bind,bind_assoc,pure_bind,Sem.run_bind];refine Eq.trans (congrArg (fun x=>Result.andThen x _) (NC h)) ?_
 simp only[Result.andThen_ok,Sem.run_pure]
 congr 1
 clear h
 match us with
 |[]=>rfl
 |[u]=>rfl
 |u::v::us=>exact dif_neg (by simp)
theorem RG:∀{l:List (Option Nat)},Dv (l.filterMap id)=true->∀{j j' i:Nat},l[j]?=some (some i)->l[j']?=some (some i)->j=j'
 |[],_,j,j',i,h,_=>by simp at h
 |q::l,hn,j,j',i,h,h'=>by
  have hn':Dv (l.filterMap id)=true:=by
   cases q with
   |none=>exact hn
   |some x=>
    simp only[List.filterMap_cons,id_eq,Dv,Bool.and_eq_true] at hn;exact hn.2
  have hq:∀(x k:Nat),q=some x->l[k]?≠some (some x):=by
   intro x k e hk;subst e;simp only[List.filterMap_cons,id_eq,Dv,Bool.and_eq_true,Bool.not_eq_true'] at hn;exact Oo hn.1 (List.mem_filterMap.2 ⟨some x,List.mem_of_getElem? hk,rfl⟩)
  cases j with
  |zero=>
   cases j' with
   |zero=>rfl
   |succ k'=>
    simp at h h';exact absurd h' (hq i k' h)
  |succ k=>
   cases j' with
   |zero=>
    simp at h h';exact absurd h (hq i k h')
   |succ k'=>
    simp at h h';rw[RG hn' h h']
theorem JC {C:F4}{f:FuncId}{fn:Func}{args:List PV}{res:Ay}{w:World}{Y:Nat->Prop}{bt:V6}{us:List Value}(DN:Ins w Y bt args us){h8:∀k p,args[k]?=some p->V7 p=true->k<8}
  {s':St} {a':Act} {w':World} {β':Bt} (hr:ZV C P f fn args s'=some res) (h:Cl fn.ntmps w (VV bt args h8) Y β' s' a' w'):
  a'.defers=[]∧∃v,(results fn a'.tmps).run P w'=.ok v w'∧∃vs own,Ending.returned v=.returned (Gv vs)∧Out w w' Y bt args own res vs:=by
 unfold ZV at hr;obtain⟨vs,l,z,us',EX,hus,hll,hL,hz,hv⟩:=CA h hr;obtain⟨os,l',z',q,HH,hL',hz',hq,hpi,Lx⟩:=N1 h (bt:=bt) (fun _=>rfl) EX (fun k p h1 h2=>by rw[Nat.zero_add];exact⟨p,h1,h2⟩)
 obtain⟨hnd,XC⟩:=Al HH;cases XC;simp only[Bool.and_eq_true] at hnd;obtain⟨hnd,Apd⟩:=hnd;obtain⟨PE,hn2,hn3⟩:=G6 hnd
 have Xd:∀i∈z++z',i ∉ (l.filterMap id++l'.filterMap id)++q:=by
  intro i hi Ia;have:=List.all_eq_true.1 Apd i hi;have h2:((l.filterMap id++l'.filterMap id)++q).any (Nat.beq i)=true:=List.any_eq_true.2 ⟨i,Ia,Nat.beq_refl i⟩;rw[h2] at this;cases this
 have Aay:Jw s' (z++z'):=by
  intro i hi;rcases List.mem_append.1 hi with hi|hi
  ·exact hz i hi
  ·exact hz' i hi
 refine⟨h.dfr,Gv us',PT hus,us',Jk β' (l++l'),rfl,?_⟩;have Azz:Dv ((l++l').filterMap id)=true:=by rw[List.filterMap_append];exact PE
 have Fj:∀j b o,Jk β' (l++l') j=some (b,o)->∃id,(l++l')[j]?=some (some id)∧β' id=some (b,o):=by
  intro j b o hj;unfold Jk at hj;cases hlj:(l++l')[j]? with
  |none=>rw[hlj] at hj;cases hj
  |some q=>
   cases q with
   |none=>rw[hlj] at hj;cases hj
   |some id=>
    rw[hlj] at hj;exact⟨id,rfl,hj⟩
 have Ij:∀(j i:Nat),(l++l')[j]?=some (some i)->i∈l.filterMap id++l'.filterMap id:=by
  intro j i hj;rw[←List.filterMap_append];exact List.mem_filterMap.2 ⟨some i,List.mem_of_getElem? hj,rfl⟩
 have Ft:∀(j i:Nat),(l++l')[j]?=some (some i)->Cy (s'.hp i):=by
  intro j i hj;rcases List.mem_append.1 (List.mem_of_getElem? hj) with Ia|Ia
  ·exact hL i Ia
  ·obtain⟨c,hc⟩:=hL' i Ia;rw[hc];trivial
 have Alj:∀i,i∈(l.filterMap id++l'.filterMap id)++q->Af s'.hp (z++z') i=s'.hp i:=by
  intro i hi;rw[Bv,if_neg (fun Ia=>Xd i Ia hi)]
 have Alr:∀i b o,bt i 0=some (b,o)->C9 fn.ntmps i∈q∧Cy (s'.hp (C9 fn.ntmps i))∧β' (C9 fn.ntmps i)=some (b,o):=by
  intro i b o FJ;obtain⟨p,h1,h2⟩:=DN.l0 i _ FJ;have h3:=hpi i p h1 h2;rw[Nat.zero_add] at h3;exact⟨h3,hq _ h3,(h.pin i ⟨p,h1,h2⟩).2.trans FJ⟩
 have hAO:∀b,CM bt (Jk β' (l++l')) Y b->Cw (Af s'.hp (z++z')) β' Y b:=by
  rintro b (⟨j,o,hj⟩|⟨i,o,FJ⟩|hY)
  ·obtain⟨id,h1,h2⟩:=Fj j b o hj;refine .inl ⟨id,o,?_,h2⟩;rw[Alj id (List.mem_append.2 (.inl (Ij j id h1)))];exact Ft j id h1
  ·obtain⟨h1,h2,h3⟩:=Alr i b o FJ;refine .inl ⟨_,o,?_,h3⟩;rw[Alj _ (List.mem_append.2 (.inr h1))];exact h2
  ·exact .inr hY
 have Sz:∀(j id b o:Nat),(l++l')[j]?=some (some id)->β' id=some (b,o)->b<w.heap.size->∃i k o',bt i (k+1)=some (b,o'):=by
  intro j id b o hj hβ B5;rcases h.ownd b ⟨id,o,Ft j id hj,hβ⟩ with⟨i,k,o',FJ⟩|hge
  ·cases k with
   |zero=>
    obtain⟨h1,h2,h3⟩:=Alr i b o' FJ;have:=h.inj id _ b o o' (Ft j id hj) h2 hβ h3;subst this;exact absurd h1 (hn3 _ (Ij j _ hj))
   |succ k=>exact⟨i,k,o',FJ⟩
  ·omega
 refine⟨h.fr.os,h.fr.tape,h.fr.output,h.fr.step,h.fr.rng,?_,?_,?_,?_⟩
 ·refine hv (z++z') _ _ (fun i hi=>List.mem_append.2 (.inl hi)) Aay hAO (fun id c b o hi hc hβ=>?_) _ 0 (fun j hj=>by rw[Nat.zero_add,Ta hj])
  rcases Nat.lt_or_ge b w.heap.size with B5|hge
  ·obtain⟨k,Jm,p,h1,h2⟩:=h.stp id c b o hc hβ B5;have h3:=hpi k p h1 h2;rw[Nat.zero_add,←Jm] at h3;obtain⟨j,hj⟩:=List.mem_iff_getElem?.1 hi;refine absurd h3 (hn3 id ?_);exact List.mem_append.2 (.inl (List.mem_filterMap.2 ⟨some id,hi,rfl⟩))
  ·exact hge
 ·refine Lx (z++z') _ (fun i hi=>List.mem_append.2 (.inr hi)) Aay (fun i hi Ia=>Xd i Ia (List.mem_append.2 (.inr hi))) hAO _ _ (fun j hj=>?_)
  rw[←hll,S3]
 ·intro j b o hj;obtain⟨id,h1,h2⟩:=Fj j b o hj;refine⟨h.blt id b o (Co (Ft j id h1)) h2,fun B5=>⟨Sz j id b o h1 h2 B5,fun x hx=>?_⟩⟩
  cases Jl:s'.hp id with
  |none=>have:=Ft j id h1;rw[Jl] at this;exact this.elim
  |some bx=>
   have DL:=Ft j id h1;rw[Jl] at DL;cases bx with
   |st c=>
    obtain⟨k,Jm,p,h3,h4⟩:=h.stp id c b o Jl h2 B5;have h5:=hpi k p h3 h4;rw[Nat.zero_add,←Jm] at h5;exact absurd h5 (hn3 _ (Ij j _ h1))
   |ar fz c=>exact h.rngB id _ b o Jl DL h2 B5 x hx
   |mv=>exact DL.elim
 ·intro j j' b o o' hj Pc;obtain⟨id,h1,h2⟩:=Fj j b o hj;obtain⟨id',LI,h2'⟩:=Fj j' b o' Pc;have:=h.inj id id' b o o' (Ft j id h1) (Ft j' id' LI) h2 h2';subst this;exact RG Azz h1 LI
theorem VY {G:S2}(Iy:NoNG P)(hm:P.follows .mixedOrders=true){C:F4}{fu:Nat}{call:Ax}(Dl:∀f args res,call f args=some res->C4 G P f args res){f:FuncId}{fn:Func}{c:Code}(hf:P.funcs[f]?=some fn) (hb:fn.body=some c)
  {args:List PV} {res:Ay} (hk:Amg C P fu call f fn c args=some res):C4 G P f args res:=by
 refine⟨⟨fn,hf,by rw[hb];rfl⟩,fun w Y bt us DN hG hGY=>?_⟩
 unfold Amg at hk;obtain⟨tms,bs,Dm,Fh⟩:=Abf DN hk;obtain⟨En,D8⟩:=Al Dm;simp only[Bool.and_eq_true] at En
 have Dj:us.length<=fn.ntmps:=by
  rw[←DN.args.len];exact Nat.le_of_ble_eq_true En.1
 obtain⟨h8,β0,hs⟩:=Fh En.2 Dj;refine calls_of_wp hf hb ?_;have hE:OE P G w (VV bt args h8):=⟨Iy,fun w' hfr=>G.stable w w' (fun b hb B5=>hfr.step.keep b B5 (hGY b hb).2) hG,hGY⟩
 refine TX hE Dl hm c hs D8 (fun s' a' w' β' hr h=>JC DN hr h) (fun id s' a' w' β' hr h=>by cases hr) (fun s' a' w' β' hr h=>JC DN hr h)
def HQ (G:S2)(P:Program)(C:F4):Prop:=∀f g args res,C.ext f=some g->g args=some res->C4 G P f args res
theorem He {G:S2}(Iy:NoNG P)(hm:P.follows .mixedOrders=true){C:F4}(hx:HQ G P C){fu:Nat}:∀(d:Nat)(f:FuncId)(args:List PV)(res:Ay),Ae C P fu d f args=some res->C4 G P f args res
 |0,_,_,_,h=>by cases h
 |d+1,f,args,res,h=>by
  unfold Ae at h;split at h
  ·rename_i g hg;exact hx f g args res hg h
  ·split at h
   ·cases h
   ·rename_i fn hf;split at h
    ·cases h
    ·rename_i c hb;exact VY Iy hm (He Iy hm hx d) hf hb h
end
open Go.ChangeShapes Go.WideShapes Go.ChangeAt Go.RowKit Go.Deep
def KA (P:Program):List Field->Nat->Nat->Bool
 |[],i,n=>Nat.beq i n
 |f::r,i,n=>Nat.beq f.offset i&&KA P r (i+P.cellsOf f.type) n
def Kd (P:Program):Nat->TypeId->Bool
 |0,_=>false
 |d+1,t=>
  match P.underlying t with
  |some .bool=>true
  |some (.int _)=>true
  |some .string=>true
  |some (.slice e)=>Kd P d e&&Nat.blt 0 (P.cellsOf e)
  |some (.struct fs)=>KA P fs.toList 0 (P.cellsOf t)&&fs.toList.all fun f=>Kd P d f.type
  |some (.array n e)=>Nat.beq (P.cellsOf t) (n*P.cellsOf e)&&Kd P d e
  |_=>false
def WT (P:Program):Nat->TypeId->List PV->Prop
 |0,_,_=>False
 |d+1,t,ps=>
  match P.underlying t with
  |some .bool=>∃b,ps=[.sc (.bool b)]
  |some (.int k)=>∃n,ps=[.sc (.int k n)]∧(Lit.int k n).wf=true
  |some .string=>∃s:ByteArray,ps=[.sc (.string s)]∧s.size<=maxLen
  |some (.slice e)=>∃rows:List (List PV),ps=[.lst false (P.cellsOf e) rows.length rows.flatten]∧rows.length<=maxLen∧∀r∈rows,r.length=P.cellsOf e∧WT P d e r
  |some (.struct fs)=>∃rows:List (List PV),ps=rows.flatten∧Bc (fun f r=>WT P d f.type r) fs.toList rows
  |some (.array n e)=>∃rows:List (List PV),ps=rows.flatten∧rows.length=n∧∀r∈rows,r.length=P.cellsOf e∧WT P d e r
  |_=>False
def WTv (P:Program)(t:TypeId)(p:PV):Prop:=
 match B4 P t with
 |true=>∃ps,p=.agg ps∧WT P 12 t ps
 |false=>WT P 12 t [p]
section
variable {P:Program} {d:Nat} {t e:TypeId} {ps:List PV}
theorem Aig (hu:P.underlying t=some .bool):WT P (d+1) t ps↔∃b,ps=[.sc (.bool b)]:=by
 show (match P.underlying t with|some .bool=>_|some (.int k)=>_|some .string=>_|some (.slice e)=>_|some (.struct fs)=>_|some (.array n e)=>_|_=>_)↔_
 rw[hu]
theorem Ack {k:IntKind}(hu:P.underlying t=some (.int k)):WT P (d+1) t ps↔∃n,ps=[.sc (.int k n)]∧(Lit.int k n).wf=true:=by
 show (match P.underlying t with|some .bool=>_|some (.int k)=>_|some .string=>_|some (.slice e)=>_|some (.struct fs)=>_|some (.array n e)=>_|_=>_)↔_
 rw[hu]
theorem Aa9 (hu:P.underlying t=some .string):WT P (d+1) t ps↔∃s:ByteArray,ps=[.sc (.string s)]∧s.size<=maxLen:=by
 show (match P.underlying t with|some .bool=>_|some (.int k)=>_|some .string=>_|some (.slice e)=>_|some (.struct fs)=>_|some (.array n e)=>_|_=>_)↔_
 rw[hu]
theorem NM (hu:P.underlying t=some (.slice e)):WT P (d+1) t ps↔∃rows:List (List PV),ps=[.lst false (P.cellsOf e) rows.length rows.flatten]∧rows.length<=maxLen∧∀r∈rows,r.length=P.cellsOf e∧WT P d e r:=by
 show (match P.underlying t with|some .bool=>_|some (.int k)=>_|some .string=>_|some (.slice e)=>_|some (.struct fs)=>_|some (.array n e)=>_|_=>_)↔_
 rw[hu]
theorem YY {fs:Array Field}(hu:P.underlying t=some (.struct fs)):WT P (d+1) t ps↔∃rows:List (List PV),ps=rows.flatten∧Bc (fun f r=>WT P d f.type r) fs.toList rows:=by
 show (match P.underlying t with|some .bool=>_|some (.int k)=>_|some .string=>_|some (.slice e)=>_|some (.struct fs)=>_|some (.array n e)=>_|_=>_)↔_
 rw[hu]
theorem Ae5 {n:Nat}(hu:P.underlying t=some (.array n e)):WT P (d+1) t ps↔∃rows:List (List PV),ps=rows.flatten∧rows.length=n∧∀r∈rows,r.length=P.cellsOf e∧WT P d e r:=by
 show (match P.underlying t with|some .bool=>_|some (.int k)=>_|some .string=>_|some (.slice e)=>_|some (.struct fs)=>_|some (.array n e)=>_|_=>_)↔_
 rw[hu]
end
inductive Ki where
 |bool
 |int (k:IntKind)
 |str
 |sl (e:TypeId)
 |st (ts:List TypeId)
 |ar (n:Nat) (e:TypeId)
 |no
def Pm (P:Program)(t:TypeId):Ki:=
 match P.underlying t with
 |some .bool=>.bool
 |some (.int k)=>.int k
 |some .string=>.str
 |some (.slice e)=>.sl e
 |some (.struct fs)=>.st (fs.toList.map (·.type))
 |some (.array n e)=>.ar n e
 |_=>.no
section
variable {P:Program} {d:Nat} {t e:TypeId} {ps:List PV} {p:PV}
theorem Bc.cons_inv {α β:Type}{R:α->β->Prop}{a:α}{zs:List α}:∀{rs:List β},Bc R (a::zs) rs->∃r rs',rs=r::rs'∧R a r∧Bc R zs rs'
 |[],h=>h.elim
 |r::rs,h=>⟨r,rs,rfl,h.1,h.2⟩
theorem Bc.nil_inv {α β:Type}{R:α->β->Prop}:∀{rs:List β},Bc R ([]:List α) rs->rs=[]
 |[],_=>rfl
 |_::_,h=>h.elim
theorem Ao8 {k:IntKind}(hk:Pm P t=.int k)(h:WT P d t ps):∃n,ps=[.sc (.int k n)]∧(Lit.int k n).wf=true:=by
 cases d with
 |zero=>exact h.elim
 |succ d=>
 unfold Pm at hk;split at hk<;>first|cases hk|skip
 rename_i hu;exact (Ack hu).1 h
theorem Arj (hk:Pm P t=.sl e)(h:WT P d t ps):∃rows:List (List PV),ps=[.lst false (P.cellsOf e) rows.length rows.flatten]∧rows.length<=maxLen∧∀r∈rows,r.length=P.cellsOf e∧WT P (d-1) e r:=by
 cases d with
 |zero=>exact h.elim
 |succ d=>
 rw[Nat.add_sub_cancel];unfold Pm at hk;split at hk<;>first|cases hk|skip
 rename_i hu;exact (NM hu).1 h
theorem Aiz (hk:B4 P t=false)(h:WTv P t p):WT P 12 t [p]:=by
 unfold WTv at h;rw[hk] at h;exact h
theorem Yk {α:Type}(f:α->List PV)(Q:α->Prop):∀{rows:List (List PV)},(∀r∈rows,∃x,r=f x∧Q x)->∃xs:List α,rows.flatten=xs.flatMap f∧rows.length=xs.length∧∀x∈xs,Q x
 |[],_=>⟨[],rfl,rfl,by simp⟩
 |r::rows,h=>by
  obtain⟨x,h1,h2⟩:=h r (by simp)
  obtain⟨xs,h3,h4,h5⟩:=Yk (rows:=rows) f Q fun r hr=>h r (by simp[hr])
  refine⟨x::xs,by simp[h1,h3],by simp[h4],fun y hy=>?_⟩
  rcases List.mem_cons.1 hy with rfl|hy
  ·exact h2
  ·exact h5 y hy
end
abbrev No:Nat->Prop:=fun _=>False
section
variable {H:Type} {enc:TypeId × Value->H} {P:Program} {w:World} {base:Nat} {held:Bool}
theorem Bc.flat {α β:Type}{R:α->β->Prop}:∀{l:List Nat}{f:Nat->List α}{g:Nat->List β},(∀i∈l,Bc R (f i) (g i))->Bc R (l.map f).flatten (l.map g).flatten
 |[],_,_,_=>trivial
 |i::l,f,g,h=>by
  simp only[List.map_cons,List.flatten_cons];exact (h i (by simp)).app (Bc.flat fun j hj=>h j (by simp[hj]))
theorem Aai {a:Addr}{v:Value}(h:w.cell? a=some v):a.spot=none∧a.block<w.heap.size:=by
 unfold World.cell? at h;split at h
 ·rename_i c t f e;refine⟨?_,?_⟩
  ·cases hs:a.spot with
   |none=>rfl
   |some x=>rw[hs] at h;simp at h
  ·rcases Nat.lt_or_ge a.block w.heap.size with h1|h1
   ·exact h1
   ·rw[Array.getElem?_eq_none h1] at e;cases e
 ·cases h
theorem CE {α:Type}{g:Nat->List α}{es:Nat}:∀{n:Nat},(∀i,i<n->(g i).length=es)->((List.range n).map g).flatten.length=n*es
 |0,_=>by simp
 |n+1,h=>by
  rw[List.range_succ,List.map_append,List.flatten_append,List.length_append,CE (fun i hi=>h i (by omega))]
  simp[h n (by omega),Nat.succ_mul]
theorem DM {a:Addr}{g:Nat->List Value}{es:Nat}:∀{n:Nat},(∀i,i<n->(g i).length=es)->(∀i,i<n->∀k,k<es->w.cell? (a.add (i*es+k))=(g i)[k]?) ->
  ∀j,j<n*es->w.cell? (a.add j)=(((List.range n).map g).flatten)[j]?
 |0,_,_,j,hj=>by omega
 |n+1,hl,hc,j,hj=>by
  have FU:=CE (fun i (hi:i<n)=>hl i (by omega))
  rw[List.range_succ,List.map_append,List.flatten_append,List.getElem?_append,FU];rw[Nat.succ_mul] at hj;split
  ·rename_i h1;exact DM (fun i hi=>hl i (by omega)) (fun i hi=>hc i (by omega)) j h1
  ·rename_i h1;have:=hc n (by omega) (j-n*es) (by omega)
   rw[show n*es+(j-n*es)=j by omega] at this
   simpa using this
abbrev TR (w:World)(c:PV)(v:Value):Prop:=(Sg c∧Au w No c v)∧v.oneCell'=true
theorem Y1 {d:Nat}{cs:List Value}{n:Nat}(hn:cs.length=n):∀(l:List Field)(i:Nat),KA P l i n=true ->
  (∀f∈l,∃ps,WT P d f.type ps∧Bc (TR w) ps ((cs.drop f.offset).take (P.cellsOf f.type)))->∃rows:List (List PV),Bc (fun f r=>WT P d f.type r) l rows∧Bc (TR w) rows.flatten (cs.drop i)
 |[],i,ho,_=>by
  have:=Nat.eq_of_beq_eq_true ho;refine⟨[],trivial,?_⟩;rw[List.drop_of_length_le (by omega)]
  trivial
 |f::l,i,ho,h=>by
  simp only[KA,Bool.and_eq_true] at ho;have ho1:=Nat.eq_of_beq_eq_true ho.1;obtain⟨ps,h1,h2⟩:=h f (by simp)
  obtain⟨rows,h3,h4⟩:=Y1 hn l _ ho.2 fun g hg=>h g (by simp[hg])
  refine⟨ps::rows,⟨h1,h3⟩,?_⟩;rw[ho1] at h2;have:cs.drop i=(cs.drop i).take (P.cellsOf f.type)++cs.drop (i+P.cellsOf f.type):=by rw[←List.drop_drop];exact (List.take_append_drop _ _).symm
  rw[this,List.flatten_cons];exact h2.app h4
theorem BC {d:Nat}{e:TypeId}{cs:List Value}{k:Nat}:∀(n:Nat),n*k<=cs.length ->
  (∀i,i<n->∃ps,(ps.length=k∧WT P d e ps)∧Bc (TR w) ps ((cs.drop (i*k)).take k))->∃rows:List (List PV),rows.length=n∧(∀r∈rows,r.length=k∧WT P d e r)∧Bc (TR w) rows.flatten (cs.take (n*k))
 |0,_,_=>⟨[],rfl,by simp,by simp[Bc]⟩
 |n+1,hl,h=>by
  rw[Nat.succ_mul] at hl;obtain⟨rows,h1,h2,h3⟩:=BC n (by omega) fun i hi=>h i (by omega)
  obtain⟨ps,h4,h5⟩:=h n (by omega)
  refine⟨rows++[ps],by simp[h1],?_,?_⟩
  ·intro r hr;rcases List.mem_append.1 hr with hr|hr
   ·exact h2 r hr
   ·rw[List.mem_singleton.1 hr];exact h4
  ·rw[List.flatten_append,Nat.succ_mul,List.take_add];refine h3.app ?_
   simpa using h5
theorem Qx:∀(d:Nat)(t:TypeId),Kd P d t=true->∀(fuel:Nat)(cs:List Value)(x:DataW H × List MemPlace),DataW.trod enc P w base (fun _=>true) held fuel t cs=some x ->
  ∃ps,WT P d t ps∧Bc (TR w) ps cs
 |0,_,h,_,_,_,_=>by cases h
 |d+1,t,hp,fuel,cs,x,h=>by
  unfold Kd at hp;split at hp
  ·rename_i hu;obtain⟨b,rfl,_⟩:=DataW.trod_bool hu h;simp only[Aig hu];exact⟨[.sc (.bool b)],⟨b,rfl⟩,⟨⟨trivial,Au.sc _⟩,rfl⟩,trivial⟩
  ·rename_i k hu;obtain⟨n,rfl,_,hw⟩:=DataW.trod_int hu h;simp only[Ack hu];exact⟨[.sc (.int k n)],⟨n,rfl,hw⟩,⟨⟨trivial,Au.sc _⟩,rfl⟩,trivial⟩
  ·rename_i hu;obtain⟨s,rfl,_,hw⟩:=DataW.trod_string hu h;simp only[Aa9 hu];exact⟨[.sc (.string s)],⟨s,rfl,hw⟩,⟨⟨trivial,Au.sc _⟩,rfl⟩,trivial⟩
  ·rename_i e hu;simp only[Bool.and_eq_true] at hp;have R5:0<P.cellsOf e:=Nat.lt_of_succ_le (Nat.le_of_ble_eq_true hp.2);simp only[NM hu];rcases open_slice hu h with⟨rfl,_⟩|⟨a,len,cap,m,n,D,Pl,rfl,_,hl,hm,RO,_,hi⟩
   ·exact⟨[.lst false (P.cellsOf e) 0 []],⟨[],by simp,by simp,by simp⟩,⟨⟨trivial,Au.lnil _ _⟩,rfl⟩,trivial⟩
   ·simp only[if_true] at RO;subst RO
    have RP:∀i,i<len->∃q:List PV × List Value,(q.2.length=P.cellsOf e∧(∀k,k<P.cellsOf e->w.cell? (a.add (i*P.cellsOf e+k))=q.2[k]?))∧WT P d e q.1∧Bc (TR w) q.1 q.2:=by
     intro i B5;obtain⟨cs',hc,ht⟩:=hi i (by omega)
     obtain⟨_,Jg,hat⟩:=World.cells?_some hc;obtain⟨ps,h1,h2⟩:=Qx d e hp.1 _ _ _ ht;exact⟨(ps,cs'),⟨Jg,fun k hk=>by rw[←Pv.add_add];exact hat k hk⟩,h1,h2⟩
    obtain⟨F,hF⟩:=choose_lt RP;refine⟨[.lst false (P.cellsOf e) len ((List.range len).map fun i=>(F i).1).flatten],⟨(List.range len).map fun i=>(F i).1,by simp,by simp;omega,?_⟩,⟨⟨trivial,?_⟩,rfl⟩,trivial⟩
    ·intro r hr;obtain⟨i,hi1,rfl⟩:=List.mem_map.1 hr;have hi2:=List.mem_range.1 hi1;exact⟨by rw[(hF i hi2).2.2.len];exact (hF i hi2).1.1,(hF i hi2).2.1⟩
    ·rcases Nat.eq_zero_or_pos len with h0|h0
     ·subst h0;exact Au.lemp _ _ _
     ·have Lt:Bc (TR w) ((List.range len).map fun i=>(F i).1).flatten ((List.range len).map fun i=>(F i).2).flatten:=Bc.flat fun i hi=>(hF i (List.mem_range.1 hi)).2.2
      have Cp:=DM (w:=w) (a:=a) (g:=fun i=>(F i).2) (fun i hi=>(hF i hi).1.1) (fun i hi=>(hF i hi).1.2)
      have Dj:=CE (g:=fun i=>(F i).2) (fun i (hi:i<len)=>(hF i hi).1.1)
      have h00:w.cell? a≠none:=by
       have:=Cp 0 (Nat.mul_pos h0 R5);rw[show a.add 0=a by unfold Addr.add;simp] at this
       rw[this,List.getElem?_eq_getElem (by rw[Dj];exact Nat.mul_pos h0 R5)]
       simp
      obtain⟨v0,hv0⟩:=Option.ne_none_iff_exists'.1 h00;obtain⟨hs,hb⟩:=Aai hv0
      have key:∀j c,(((List.range len).map fun i=>(F i).1).flatten)[j]?=some c->∃v,w.cell? (a.add j)=some v∧TR w c v:=by
       intro j c hj
       have hlj:j<len*P.cellsOf e:=by
        rw[←Dj,←Lt.len];rcases Nat.lt_or_ge j (((List.range len).map fun i=>(F i).1).flatten).length with h1|h1
        ·exact h1
        ·rw[List.getElem?_eq_none h1] at hj;cases hj
       have h1:=Cp j hlj;rw[List.getElem?_eq_getElem (by rw[Dj];exact hlj)] at h1
       exact⟨_,h1,Lt.at_ hj (List.getElem?_eq_getElem (by rw[Dj];exact hlj))⟩
      refine Au.lst _ _ _ a _ (fun j=>(w.cell? (a.add j)).getD undef) hs hb (fun h=>h) hl (fun j c hj=>?_) (fun j c hj=>?_) (fun j c hj=>?_)
      ·obtain⟨v,hv,_⟩:=key j c hj;rw[hv];rfl
      ·obtain⟨v,hv,ht⟩:=key j c hj;rw[hv];exact ht.2
      ·obtain⟨v,hv,ht⟩:=key j c hj;rw[hv];exact ht.1.2
  ·rename_i fs hu;simp only[Bool.and_eq_true] at hp;simp only[YY hu];obtain⟨xs,n,_,_,Dj,hxl,hf⟩:=DataW.trod_struct hu h
   obtain⟨rows,h1,h2⟩:=Y1 (P:=P) (w:=w) (d:=d) Dj fs.toList 0 hp.1 fun f hf'=>by
    obtain⟨i,hi⟩:=List.mem_iff_getElem?.1 hf';have RP:fs[i]?=some f:=by simpa using hi
    have B5:i<fs.size:=(Array.getElem?_eq_some_iff.1 RP).1;have h3:=hf i f RP;rw[List.getElem?_eq_getElem (by omega)] at h3
    exact Qx d f.type (List.all_eq_true.1 hp.2 f hf') _ _ _ h3
   exact⟨_,⟨rows,rfl,h1⟩,by simpa using h2⟩
  ·rename_i n e hu;simp only[Bool.and_eq_true] at hp;simp only[Ae5 hu];obtain⟨xs,m,_,_,Dj,hxl,hf⟩:=DataW.trod_array hu h;have Ln:=Nat.eq_of_beq_eq_true hp.1
   obtain⟨rows,h1,h2,h3⟩:=BC (P:=P) (w:=w) (d:=d) (e:=e) (cs:=cs) (k:=P.cellsOf e) n (by omega) fun i hi=>by
    have h3:=hf i hi;rw[List.getElem?_eq_getElem (by omega)] at h3
    obtain⟨ps,h4,h5⟩:=Qx d e hp.2 _ _ _ h3;refine⟨ps,⟨?_,h4⟩,h5⟩;rw[h5.len,List.length_take,List.length_drop,Dj,Ln];have:(i+1)*P.cellsOf e<=n*P.cellsOf e:=Nat.mul_le_mul_right _ hi;rw[Nat.succ_mul] at this;omega
   refine⟨_,⟨rows,rfl,h1,h2⟩,?_⟩;rw[List.take_of_length_le (by omega)] at h3
   exact h3
  ·cases hp
theorem Aff {r:Reach}{b0:Nat}{t:TypeId}{v:Value}{dd:DataW H}{p:List MemPlace}(hp:Kd P 12 t=true)(hv:Value.okWide P w r b0 t v)(h:DataW.Trod enc P w base (fun _=>true) held t v dd p):
  ∃q,WTv P t q∧Nx w No q v:=by
 obtain⟨fuel,hf⟩:=h;obtain⟨ps,h1,h2⟩:=Qx 12 t hp fuel _ _ hf;unfold WTv B4
 have two:∀{cs:Array Value},v=.agg cs->∃q,(∃ps,q=.agg ps∧WT P 12 t ps)∧Nx w No q v:=by
  intro cs e;subst e;exact⟨.agg ps,⟨ps,rfl,h1⟩,cs.toList,by simp,h2.mono fun c v h=>h.1⟩
 have one:v.cells.toList=[v]->∃q,WT P 12 t [q]∧Nx w No q v:=by
  intro e;rw[e] at h2
  match ps,h2 with
  |[q],h2=>
   refine⟨q,h1,?_⟩;have h3:=h2.1.1;cases q<;>first|exact h3|exact h3.1.elim
  |[],h2=>exact h2.elim
  |_::_::_,h2=>exact h2.2.elim
 unfold Kd at hp;split at hp
 ·rename_i hu;simp only[hu];obtain⟨b,rfl,_⟩:=open_bool hu hv ⟨fuel,hf⟩;exact one rfl
 ·rename_i k hu;simp only[hu];obtain⟨b,rfl,_⟩:=open_int hu hv ⟨fuel,hf⟩;exact one rfl
 ·rename_i hu;simp only[hu];obtain⟨b,rfl,_⟩:=ChangeMaps.open_string hu hv ⟨fuel,hf⟩;exact one rfl
 ·rename_i e hu;simp only[hu];obtain⟨a,len,cap,rfl⟩:=okWide_slice hu hv;exact one rfl
 ·rename_i fs hu;simp only[hu];obtain⟨cs,rfl,_⟩:=okWide_struct hu hv;exact two rfl
 ·rename_i n e hu;simp only[hu];unfold Value.okWide at hv;simp only[hu] at hv;obtain⟨cs,rfl,_⟩:=hv;exact two rfl
 ·cases hp
theorem GO:∀{ts:List TypeId}{vs:List Value}{ds:List (DataW H)} {p:List MemPlace}{r:Reach}{b0:Nat},(ts.all fun t=>Kd P 12 t)=true->(∀(j:Nat) t v,ts[j]?=some t->vs[j]?=some v->Value.okWide P w r b0 t v) ->
  DataW.TrodAll enc P w base (fun _=>true) held ts vs ds p->∃qs,Bc (WTv P) ts qs∧Bc (Nx w No) qs vs
 |[],[],[],_,_,_,_,_,_=>⟨[],trivial,trivial⟩
 |t::ts,v::vs,d::ds,_,r,b0,hp,hv,⟨p,q,h1,h2,_⟩=>by
  simp only[List.all_cons,Bool.and_eq_true] at hp;obtain⟨x,h3,h4⟩:=Aff hp.1 (hv 0 t v rfl rfl) h1;obtain⟨xs,h5,h6⟩:=GO hp.2 (fun j t v ht Lx=>hv (j+1) t v ht Lx) h2
  exact⟨x::xs,⟨h3,h5⟩,h4,h6⟩
 |[],_::_,_,_,_,_,_,_,h=>by cases h
 |[],[],_::_,_,_,_,_,_,h=>by cases h
 |_::_,[],_,_,_,_,_,_,h=>by cases h
 |_::_,_::_,[],_,_,_,_,_,h=>by cases h
theorem Se (hl:laidOutB P=true){W W':World}{sp:Nat->Bool}:∀{ts:List TypeId}{vs:List Value}{ds:List (DataW H)} {p:List MemPlace},(ts.all fun t=>P.readableRec t&&Nat.blt t P.types.size)=true ->
  DataW.TrodAll enc P W 0 (fun _=>true) true ts vs ds p->(∀x∈p,W.sameAt W' x)->(∀x∈p,sp x.block=true)->DataW.TrodAll enc P W' 0 sp true ts vs ds p
 |[],[],[],_,_,h,_,_=>h
 |t::ts,v::vs,d::ds,_,hr,⟨p,q,h1,h2,e⟩,hs,hsp=>by
  simp only[List.all_cons,Bool.and_eq_true] at hr;refine⟨p,q,WideElems.Trod_stays hl hr.1.1 (Nat.lt_of_succ_le (Nat.le_of_ble_eq_true hr.1.2)) h1 (fun x hx=>hs x ?_) (fun x hx=>hsp x ?_),Se hl hr.2 h2 (fun x hx=>hs x ?_) (fun x hx=>hsp x ?_),e⟩
  all_goals rw[e,List.mem_append]
  ·exact .inl hx
  ·exact .inl hx
  ·exact .inr hx
  ·exact .inr hx
 |[],_::_,_,_,_,h,_,_=>by cases h
 |[],[],_::_,_,_,h,_,_=>by cases h
 |_::_,[],_,_,_,h,_,_=>by cases h
 |_::_,_::_,[],_,_,h,_,_=>by cases h
theorem GF {f:Func}{s:ChangeSpec}{apart fresh KS again:Bool}{W W':World}{args:Array Value}{v:Value}{ds gs:List (DataW H)} {before pa pv:List MemPlace}
  (hW:DataW.Whole enc P f.params.toList s.vars apart W args.toList ds gs before)
  (Asz:∀(b:Nat)(sp:Nat->Bool)(hd:Bool),DataW.TrodAll enc P W' b sp hd f.resultTypes.toList (v.resultList f.resultTypes.size) (s.fn H (ds++gs)).results [])
  (El:∀sp:Nat->Bool,(∀p∈before,sp p.block=true)->DataW.TrodAll enc P W' 0 sp true f.params.toList args.toList (s.fn H (ds++gs)).args pa)
  (PS:∀sp:Nat->Bool,(∀p∈before,sp p.block=true)->DataW.TrodVars enc P W' sp s.vars (s.fn H (ds++gs)).vars pv)
  (Zk:before=pa++pv)(hb:Below W.heap.size W W')
  (hok:∀(j:Nat)(t:TypeId)(r:Value),f.resultTypes[j]?=some t->(v.resultList f.resultTypes.size)[j]?=some r->Value.okWide P W' .any 0 t r):
  s.post enc P f apart fresh KS again W args v W':=by
 have B5:∀p∈before,p.block<W.heap.size:=fun p hp=>hW.lt p hp
 have hold:∀p∈before,(fun b=>decide (b<W.heap.size)) p.block=true:=fun p hp=>by simpa using B5 p hp
 refine⟨ds,gs,before,[],pa,pv,hW,Asz _ _ _,El _ hold,PS _ hold,World.keptBut_mono (fun p hp=>⟨hp,?_⟩) (hb.frame (· ∈ before)),fun _=>?_⟩
 ·rw[Zk,List.mem_append] at hp;exact Or.inr hp
 ·obtain⟨_,_,_,_,_,hz,hn⟩:=hW;refine⟨hok,_,_,([]++pa)++pv,⟨[]++pa,pv,trodAll_append (El _ (fun _ _=>rfl)) (Asz _ _ _),PS _ (fun _ _=>rfl),rfl,?_,?_⟩,?_⟩
  ·intro b off hp;have DN:MemPlace.cell b off∈before:=by rw[Zk];simpa using hp
   rw[hb.frozen (B5 _ DN)];exact hz b off DN
  ·intro ha;have:=hn ha;rw[Zk] at this
   simpa using this
  ·intro p hp _;rw[Zk]
   simpa using hp
theorem law_contract {G:S2}{C:F4}(hx:HQ G P C)(Iy:NoNG P)(hm:P.follows .mixedOrders=true)(hl:laidOutB P=true){f:FuncId}{fn:Func}{s:ChangeSpec}{tb:TypeId}(hfn:P.funcs[f]?=some fn)
  (PS:s.vars=[]) (Atc:∀ds:List (DataW H),ds.length=fn.params.size->s.fn H ds={ results:=[.lit (.bool true)],args:=ds }) (An3:(fn.params.toList.all fun t=>Kd P 12 t)=true)
  (Arz:(fn.params.toList.all fun t=>P.readableRec t&&Nat.blt t P.types.size)=true) (hrt:fn.resultTypes = #[tb]) (hub:P.underlying tb=some .bool)
  {apart fresh KS again:Bool} (W:World) (base:Nat) (args:Array Value) (ds gs:List (DataW H)) (before:List MemPlace)
  (hval:∀(j:Nat) t v,fn.params[j]?=some t->args[j]?=some v->Value.okWide P W .any base t v)
  (hW:DataW.Whole enc P fn.params.toList s.vars apart W args.toList ds gs before)
  (A37:∀qs:List PV,Bc (WTv P) fn.params.toList qs->∃fu d,Ae C P fu d f qs=some ⟨[.sc (.bool true)],[]⟩) (hG:G.ok W)(hGY:∀b,G.bl b->b<W.heap.size):
  Calls P f args W fun e W'=>∃v,e=.returned v∧s.post enc P fn apart fresh KS again W args v W':=by
 have hW':=hW;obtain⟨p,q,hA,hV,rfl,Xd,hnd⟩:=hW;rw[PS] at hV;obtain⟨rfl,rfl⟩:=trodVars_none hV;obtain⟨qs,h1,h2⟩:=GO An3 (fun j t v ht hv=>hval j t v (by simpa using ht) (by simpa using hv)) hA
 obtain⟨fu,d,hc⟩:=A37 qs h1;have hS:=(He Iy hm hx d f qs _ hc).2 W No QA args.toList (OB (fun b h=>h.elim) h2) hG (fun b hb=>⟨hGY b hb,Nt b⟩)
 rw[Array.toArray_toList] at hS;refine hS.mono fun e W' ⟨vs,own,he,ho⟩=>?_
 have hv:=ho.vals
 have O9:vs=[.bool true]:=by
  match vs,hv with
  |[u],hv=>
   have:Au W' _ (.sc (.bool true)) u:=hv.1;rw[this.val]
  |[],hv=>exact hv.elim
  |_::_::_,hv=>exact hv.2.elim
 subst O9;subst he;have hb:Below W.heap.size W W':=⟨ho.os,ho.tape,ho.output,ho.ext.size,fun k hk=>ho.ext.keep k hk (Nt k)⟩
 have B5:∀x∈p,x.block<W.heap.size:=fun x hx=>hW'.lt x (by simpa using hx)
 have Dj:ds.length=fn.params.size:=by
  have:∀{ts:List TypeId} {vs:List Value} {ds:List (DataW H)} {p:List MemPlace},DataW.TrodAll enc P W 0 (fun _=>true) true ts vs ds p->ds.length=ts.length:=by
   intro ts
   induction ts with
   |nil=>intro vs ds p h;cases vs<;>cases ds<;>first|rfl|cases h
   |cons t ts ih=>
    intro vs ds p h;cases vs with
    |nil=>cases h
    |cons v vs=>
     cases ds with
     |nil=>cases h
     |cons d ds=>obtain⟨_,_,_,h2,_⟩:=h;simp[ih h2]
  simpa using this hA
 have hsp:=Atc (ds++[]) (by simpa using Dj)
 refine⟨_,rfl,GF (pa:=p) (pv:=[]) hW' ?_ ?_ ?_ rfl hb ?_⟩
 ·intro b sp hd;rw[hsp,hrt];exact trodAll_mk1 (shut_bool hub _)
 ·intro sp A1y;rw[hsp];simp only[List.append_nil];exact Se hl Arz hA (fun x hx=>hb.same (B5 x hx)) (fun x hx=>A1y x (by simpa using hx))
 ·intro sp _;rw[hsp,PS];rfl
 ·exact ok_one hrt rfl (okWide_bool_mk hub _)
end
end
section
open Go.Proofs.Tryd (prog)
set_option maxRecDepth 100000
theorem Aij {d:Nat}{ps:List PV}{k:IntKind}{t e:TypeId}(hk:Pm prog t=.sl e)(hc:prog.cellsOf e=1)(he:Pm prog e=.int k)(h:WT prog d t ps):
  ∃l:List Int,ps=[.lst false 1 l.length (Bk k l)]∧l.length<=maxLen∧∀n∈l,(Lit.int k n).wf=true:=by
 obtain⟨rows,rfl,hl,hr⟩:=Arj hk h;obtain⟨l,h1,h2,h3⟩:=Yk (Am9 k) (fun n=>(Lit.int k n).wf=true) fun r hrr=>Ao8 he (hr r hrr).2
 refine⟨l,?_,by omega,h3⟩
 rw[h1,h2,hc]
theorem QW {p:PV}{k:IntKind}{t e:TypeId}(ha:B4 prog t=false)(hk:Pm prog t=.sl e)(hc:prog.cellsOf e=1)(he:Pm prog e=.int k)(h:WTv prog t p):
  ∃l:List Int,p=.lst false 1 l.length (Bk k l)∧l.length<=maxLen∧∀n∈l,(Lit.int k n).wf=true:=by
 have h':=Aiz (P:=prog) (t:=t) (p:=p) ha h;obtain⟨l,h1,h2,h3⟩:=Aij hk hc he h';exact⟨l,by injection h1,h2,h3⟩
end
section
open Go.IntKind (wrap)
theorem C6:type_of% @Bool.not_true:=@Bool.not_true
theorem Ds:type_of% @Bool.not_false:=@Bool.not_false
theorem HD:type_of% @Nat.mul_one:=@Nat.mul_one
theorem Zzd:type_of% @Nat.zero_add:=@Nat.zero_add
theorem Zze:type_of% @List.drop_zero.{0}:=@List.drop_zero
theorem Zzf:type_of% @List.take_of_length_le.{0}:=@List.take_of_length_le
theorem Zzg:type_of% @List.length_append.{0}:=@List.length_append
theorem LB:type_of% @List.length_cons.{0}:=@List.length_cons
theorem O8:type_of% @Int.toNat_natCast:=@Int.toNat_natCast
theorem Cr:type_of% @if_neg.{1}:=@if_neg
theorem Dw:type_of% @if_pos.{1}:=@if_pos
theorem Zzp:type_of% @List.cons_append.{0}:=@List.cons_append
theorem Zzs:type_of% @Bool.false_and:=@Bool.false_and
end
section
open Go.Proofs.Tryd (prog)
open Go.IntKind (wrap)
set_option maxRecDepth 100000
abbrev K3:FuncId:=94
theorem S7 {xs:FuncId->Option (List PV->Option Ay)} (fu d:Nat)(a0 a1:Int):Ae (CX xs) prog fu (d+1) K3 [.sc (.int .u64 a0),.sc (.int .u64 a1)]=(fun (call:Ax)=>Be (decide (0<=a1))<|Ac (La .u64 a0 a1) fun x1=>Ac (wrap .u64 (64-a1)) fun x2=>Be (decide (0<=x2))<|Ac (FK .u64 a0 x2) fun x3=>Ac (ior .u64 x1 x3) fun x4=>some (Ay.mk [.sc (.int .u64 x4)] [])) (Ae (CX xs) prog fu d):=by kernel_rfl
abbrev J2:FuncId:=73
theorem Rk {xs:FuncId->Option (List PV->Option Ay)} (fu d:Nat)(B1 Bu:Int)(Qe Ua:Int):Ae (CX xs) prog fu (d+1) J2 [.agg [.sc (.int .u64 B1),.sc (.int .u64 Bu),.sc (.int .u64 Qe),.sc (.int .u64 Ua)]]=(fun (call:Ax)=>Ac (wrap .u64 (B1+Bu)) fun x1=>Ah (call 94 [.sc (.int .u64 Bu),.sc (.int .u64 13)]) fun x2 x3=>Ad x3<|Aa x2 fun x4 x5=>Ak .u64 x4 fun x6=>Ad x5<|Ac (Fo .u64 x6 x1) fun x7=>Ah (call 94 [.sc (.int .u64 x1),.sc (.int .u64 32)]) fun x8 x9=>Ad x9<|Aa x8 fun F9 M8=>Ak .u64 F9 fun Nw=>Ad M8<|Ac (wrap .u64 (Qe+Ua)) fun Fv=>Ah (call 94 [.sc (.int .u64 Ua),.sc (.int .u64 16)]) fun Ks Oa=>Ad Oa<|Aa Ks fun Ka Km=>Ak .u64 Ka fun Nl=>Ad Km<|Ac (Fo .u64 Nl Fv) fun Lg=>Ac (wrap .u64 (Nw+Lg)) fun Mv=>Ah (call 94 [.sc (.int .u64 Lg),.sc (.int .u64 21)]) fun Mu Ov=>Ad Ov<|Aa Mu fun Lv Ly=>Ak .u64 Lv fun Mr=>Ad Ly<|Ac (Fo .u64 Mr Mv) fun Oh=>Ac (wrap .u64 (Fv+x7)) fun O3=>Ah (call 94 [.sc (.int .u64 x7),.sc (.int .u64 17)]) fun Pd N4=>Ad N4<|Aa Pd fun Pr Pq=>Ak .u64 Pr fun Qo=>Ad Pq<|Ac (Fo .u64 Qo O3) fun Q1=>Ah (call 94 [.sc (.int .u64 O3),.sc (.int .u64 32)]) fun Qu Ry=>Ad Ry<|Aa Qu fun Q8 Tm=>Ak .u64 Q8 fun Ud=>Ad Tm<|some (Ay.mk [.agg [.sc (.int .u64 Mv),.sc (.int .u64 Q1),.sc (.int .u64 Ud),.sc (.int .u64 Oh)]] [])) (Ae (CX xs) prog fu d):=by kernel_rfl
abbrev L6:FuncId:=53
noncomputable def Ej (fu:Nat)(call:Ax)(a0 a1:Int)(KO:Nat)(a2:List PV)(nn y0:Nat)(y1:List PV)(y2:Int)(y3:List PV):Option Ay:=H9 CB prog fu call 53 Tryd.f53 (F1 Tryd.f53) [.sc (.int .u64 a0),.sc (.int .u64 a1),.lst false 1 KO a2] [.r,.r,.l,.r,.l] nn ⟨lk [(2,(.lst false 1 y0 y1)),(7,(.ptr 7 0)),(8,(.sc (.int .i64 y2)))],Jt [(7,(.ar false y3))]⟩
noncomputable def Dy (fu:Nat)(call:Ax)(a0 a1:Int)(KO:Nat)(a2:List PV)(m0 nn y0:Nat)(y1:List PV)(y2 y3 y4:Int)(y5:List PV):Option Ay:=H9 CB prog fu call 53 Tryd.f53 (F1 Tryd.f53) [.sc (.int .u64 a0),.sc (.int .u64 a1),.lst false 1 KO a2] [.r,.r,.l,.r,.l,.i m0,.r,.l,.l,.r,.l,.r,.l] nn ⟨lk [(2,(.lst false 1 y0 y1)),(7,(.ptr 7 0)),(8,(.sc (.int .i64 y2))),(9,(.sc (.int .u64 y3))),(10,(.sc (.int .i64 y4)))],Jt [(7,(.ar false y5))]⟩
theorem Iz (fu:Nat)(call:Ax)(a0 a1:Int)(KO:Nat)(a2:List PV)(nn y0:Nat)(y1:List PV)(y2:Int)(y3:List PV):Ej fu call a0 a1 KO a2 (nn+1) y0 y1 y2 y3=(Bf (decide (y2<=(↑y0:Int))) (Dy fu call a0 a1 KO a2 nn (fu) (y0) (y1) (y2) 0 7 (y3)) (Ak .u64 (List.getD y3 2 .top) fun x5=>Ac (Fo .u64 x5 255) fun x6=>Be (decide (3<=y3.length))<|Ac (Ca y3 [.sc (.int .u64 x6)] 2) fun x7=>Ak .u64 (List.getD x7 0 .top) fun x8=>Ak .u64 (List.getD x7 1 .top) fun x9=>Ak .u64 (List.getD x7 2 .top) fun F9=>Ak .u64 (List.getD x7 3 .top) fun M8=>Ah (call 73 [.agg [.sc (.int .u64 x8),.sc (.int .u64 x9),.sc (.int .u64 F9),.sc (.int .u64 M8)]]) fun Nw Fv=>Ad Fv<|Aa Nw fun Ks Oa=>E3 Ks fun Ka=>Aa Ka fun Km Nl=>Ak .u64 Km fun Lg=>Aa Nl fun Mv Mu=>Ak .u64 Mv fun Ov=>Aa Mu fun Lv Ly=>Ak .u64 Lv fun Mr=>Aa Ly fun Oh O3=>Ak .u64 Oh fun Pd=>Ad O3<|Ad Oa<|Ah (call 73 [.agg [.sc (.int .u64 Lg),.sc (.int .u64 Ov),.sc (.int .u64 Mr),.sc (.int .u64 Pd)]]) fun N4 Pr=>Ad Pr<|Aa N4 fun Pq Qo=>E3 Pq fun Q1=>Aa Q1 fun Qu Ry=>Ak .u64 Qu fun Q8=>Aa Ry fun Tm Ud=>Ak .u64 Tm fun Q5=>Aa Ud fun EJ EU=>Ak .u64 EJ fun Ps=>Aa EU fun Pe AN=>Ak .u64 Pe fun Y7=>Ad AN<|Ad Qo<|Ah (call 73 [.agg [.sc (.int .u64 Q8),.sc (.int .u64 Q5),.sc (.int .u64 Ps),.sc (.int .u64 Y7)]]) fun EN AH=>Ad AH<|Aa EN fun CH Zd=>E3 CH fun Za=>Aa Za fun Z4 M3=>Ak .u64 Z4 fun Q7=>Aa M3 fun Zm FI=>Ak .u64 Zm fun FD=>Aa FI fun FA EV=>Ak .u64 FA fun ET=>Aa EV fun FB FN=>Ak .u64 FB fun MT=>Ad FN<|Ad Zd<|Ah (call 73 [.agg [.sc (.int .u64 Q7),.sc (.int .u64 FD),.sc (.int .u64 ET),.sc (.int .u64 MT)]]) fun UF OS=>Ad OS<|Aa UF fun MK OV=>E3 MK fun MJ=>Aa MJ fun RM RZ=>Ak .u64 RM fun MS=>Aa RZ fun MW LR=>Ak .u64 MW fun HL=>Aa LR fun MO NB=>Ak .u64 MO fun SS=>Aa NB fun UD RX=>Ak .u64 UD fun UT=>Ad RX<|Ad OV<|Be (decide (4<=x7.length))<|Ac (Ca x7 [.sc (.int .u64 MS),.sc (.int .u64 HL),.sc (.int .u64 SS),.sc (.int .u64 UT)] 0) fun LQ=>Ak .u64 (List.getD LQ 0 .top) fun RU=>Ak .u64 (List.getD LQ 1 .top) fun VW=>Ac (Fo .u64 RU VW) fun YC=>Ak .u64 (List.getD LQ 2 .top) fun PH=>Ac (Fo .u64 YC PH) fun RN=>Ak .u64 (List.getD LQ 3 .top) fun XF=>Ac (Fo .u64 RN XF) fun SJ=>some (Ay.mk [.sc (.int .u64 SJ)] []))):=by kernel_rfl
theorem Jc (fu:Nat)(call:Ax)(a0 a1:Int)(KO:Nat)(a2:List PV)(m0 nn y0:Nat)(y1:List PV)(y2 y3 y4:Int)(y5:List PV):Dy fu call a0 a1 KO a2 m0 (nn+1) y0 y1 y2 y3 y4 y5=(Bf (decide (y4>=0)) (Ac (wrap .i64 (y2+y4)) fun ML=>Bf (decide (ML<(↑y0:Int))) (Ac (wrap .i64 (y2+y4)) fun RR=>Be (decide (0<=RR)&&decide (RR<(↑y0:Int)))<|Ak .u8 (List.getD y1 (Int.toNat RR*1) .top) fun TE=>Ac (La .u64 y3 8) fun RW=>Ac (wrap .u64 TE) fun RV=>Ac (ior .u64 RW RV) fun TL=>Ac (wrap .i64 (y4-1)) fun RQ=>Dy fu call a0 a1 KO a2 m0 (nn) (y0) (y1) (y2) TL RQ (y5)) (Bf (y4==7) (Ac (wrap .u8 (↑y0:Int)) fun VO=>Ac (La .u64 y3 8) fun YK=>Ac (wrap .u64 VO) fun PU=>Ac (ior .u64 YK PU) fun UL=>Ac (wrap .i64 (y4-1)) fun VZ=>Dy fu call a0 a1 KO a2 m0 (nn) (y0) (y1) (y2) UL VZ (y5)) (Ac (La .u64 y3 8) fun Qa=>Ac (ior .u64 Qa 0) fun Tg=>Ac (wrap .i64 (y4-1)) fun Ru=>Dy fu call a0 a1 KO a2 m0 (nn) (y0) (y1) (y2) Tg Ru (y5)))) (Ak .u64 (List.getD y5 3 .top) fun Tk=>Ac (Fo .u64 Tk y3) fun Tb=>Be (decide (4<=y5.length))<|Ac (Ca y5 [.sc (.int .u64 Tb)] 3) fun Mz=>Ak .u64 (List.getD Mz 0 .top) fun R6=>Ak .u64 (List.getD Mz 1 .top) fun Rs=>Ak .u64 (List.getD Mz 2 .top) fun V3=>Ak .u64 (List.getD Mz 3 .top) fun Ws=>Ah (call 73 [.agg [.sc (.int .u64 R6),.sc (.int .u64 Rs),.sc (.int .u64 V3),.sc (.int .u64 Ws)]]) fun Ts Xh=>Ad Xh<|Aa Ts fun Zg Uw=>E3 Zg fun Ww=>Aa Ww fun Zr Wg=>Ak .u64 Zr fun Wj=>Aa Wg fun Wc R1=>Ak .u64 Wc fun Rt=>Aa R1 fun Wa X8=>Ak .u64 Wa fun Sw=>Aa X8 fun Wl X7=>Ak .u64 Wl fun Uo=>Ad X7<|Ad Uw<|Ah (call 73 [.agg [.sc (.int .u64 Wj),.sc (.int .u64 Rt),.sc (.int .u64 Sw),.sc (.int .u64 Uo)]]) fun U5 Tx=>Ad Tx<|Aa U5 fun Rz Vi=>E3 Rz fun Wo=>Aa Wo fun Xj Wp=>Ak .u64 Xj fun Xp=>Aa Wp fun V9 X5=>Ak .u64 V9 fun Wb=>Aa X5 fun Z1 Xf=>Ak .u64 Z1 fun Wt=>Aa Xf fun Zh Wv=>Ak .u64 Zh fun Rm=>Ad Wv<|Ad Vi<|Be (decide (4<=Mz.length))<|Ac (Ca Mz [.sc (.int .u64 Xp),.sc (.int .u64 Wb),.sc (.int .u64 Wt),.sc (.int .u64 Rm)] 0) fun Te=>Ak .u64 (List.getD Te 0 .top) fun Wq=>Ac (Fo .u64 Wq y3) fun U6=>Be (decide (1<=Te.length))<|Ac (Ca Te [.sc (.int .u64 U6)] 0) fun Vj=>Ac (wrap .i64 (y2+8)) fun Vb=>Ej fu call a0 a1 KO a2 (m0) (y0) (y1) Vb Vj)):=by kernel_rfl
theorem Tu {xs:FuncId->Option (List PV->Option Ay)} (fu d:Nat)(a0 a1:Int)(KO:Nat)(a2:List PV):Ae (CX xs) prog fu (d+1) L6 [.sc (.int .u64 a0),.sc (.int .u64 a1),.lst false 1 KO a2]=(fun (call:Ax)=>Ac (Fo .u64 a0 8317987319222330741) fun x1=>Ac (Fo .u64 a1 7237128888997146477) fun x2=>Ac (Fo .u64 a0 7816392313619706465) fun x3=>Ac (Fo .u64 a1 8387220255154660723) fun x4=>Ej fu call a0 a1 KO a2 (fu) (KO) (a2) 0 ([.sc (.int .u64 x1),.sc (.int .u64 x2),.sc (.int .u64 x3),.sc (.int .u64 x4)])) (Ae (CX xs) prog fu d):=by kernel_rfl
abbrev L3:FuncId:=61
theorem Vv {xs:FuncId->Option (List PV->Option Ay)} (fu d:Nat)(a0 a1:Int)(KO:Nat)(a2:List PV):Ae (CX xs) prog fu (d+1) L3 [.sc (.int .u64 a0),.sc (.int .i64 a1),.lst false 1 KO a2]=(fun (call:Ax)=>Ac (wrap .u64 a1) fun x1=>Ac (wrap .u64 (1+x1)) fun x2=>Ah (call 53 [.sc (.int .u64 a0),.sc (.int .u64 x2),.lst false 1 KO a2]) fun x3 x4=>Ad x4<|Aa x3 fun x5 x6=>Ak .u64 x5 fun x7=>Ad x6<|some (Ay.mk [.sc (.int .u64 x7)] [])) (Ae (CX xs) prog fu d):=by kernel_rfl
abbrev E5:FuncId:=60
noncomputable def D4 (fu:Nat)(call:Ax)(Vl:Nat)(a0:List PV)(nn y0:Nat)(y1:List PV)(y2:Nat)(y3:Int)(y4:List PV):Option Ay:=H9 CB prog fu call 60 Tryd.f60 (F1 Tryd.f60) [.lst false 1 Vl a0] [.r,.r,.l,.r,.l] nn ⟨lk [(0,(.lst false 1 y0 y1)),(3,(.view 3 1 0 y2)),(4,(.sc (.int .i64 y3)))],Jt [(3,(.ar false y4))]⟩
noncomputable def Ex (fu:Nat)(call:Ax)(Vl:Nat)(a0:List PV)(m0 nn y0:Nat)(y1:List PV)(y2:Nat)(y3 y4:Int)(y5:List PV):Option Ay:=H9 CB prog fu call 60 Tryd.f60 (F1 Tryd.f60) [.lst false 1 Vl a0] [.r,.r,.l,.r,.l,.i m0,.r,.l,.l,.r,.l] nn ⟨lk [(0,(.lst false 1 y0 y1)),(3,(.view 3 1 0 y2)),(4,(.sc (.int .i64 y3))),(5,(.sc (.int .i64 y4)))],Jt [(3,(.ar false y5))]⟩
theorem Hs (fu:Nat)(call:Ax)(Vl:Nat)(a0:List PV)(nn y0:Nat)(y1:List PV)(y2:Nat)(y3:Int)(y4:List PV):D4 fu call Vl a0 (nn+1) y0 y1 y2 y3 y4=(Bf (decide (y3<(↑y0:Int))) (Ex fu call Vl a0 nn (fu) (y0) (y1) (y2) (y3) 7 (y4)) (Be (decide (y2*1<=y4.length))<|some (Ay.mk [.own 1 y2 (List.take (y2*1) y4)] []))):=by kernel_rfl
theorem Hx (fu:Nat)(call:Ax)(Vl:Nat)(a0:List PV)(m0 nn y0:Nat)(y1:List PV)(y2:Nat)(y3 y4:Int)(y5:List PV):Ex fu call Vl a0 m0 (nn+1) y0 y1 y2 y3 y4 y5=(Bf (decide (y4>=0)) (Be (decide (0<=y3)&&decide (y3<(↑y0:Int)))<|Ak .u64 (List.getD y1 (Int.toNat y3*1) .top) fun x1=>Ac (wrap .i64 (8*y4)) fun x2=>Ac (wrap .u64 x2) fun x3=>Be (decide (0<=x3))<|Ac (FK .u64 x1 x3) fun x4=>Ac (wrap .u8 x4) fun x5=>Be (decide (y2*1<=y5.length)&&true&&decide ((y2+1)*1<=1099511627776)&&decide (y2+1<=1099511627776))<|Ac (y2+1) fun x6=>Ac (List.take (y2*1) y5++[.sc (.int .u8 x5)]) fun x7=>Ac (wrap .i64 (y4-1)) fun x8=>Ex fu call Vl a0 m0 (nn) (y0) (y1) x6 (y3) x8 x7) (Ac (wrap .i64 (y3+1)) fun x9=>D4 fu call Vl a0 (m0) (y0) (y1) (y2) x9 (y5))):=by kernel_rfl
theorem Ro {xs:FuncId->Option (List PV->Option Ay)} (fu d Vl:Nat)(a0:List PV):Ae (CX xs) prog fu (d+1) E5 [.lst false 1 Vl a0]=(fun (call:Ax)=>D4 fu call Vl a0 (fu) (Vl) (a0) 0 0 ([])) (Ae (CX xs) prog fu d):=by kernel_rfl
end
section
open Go.IntKind (wrap)
def rot (x k:Int):Int:=ior .u64 (La .u64 x k) (FK .u64 x (64-k))
structure W4 where
 a:Int
 b:Int
 c:Int
 d:Int
def W4.cells (v:W4):List PV:=[.sc (.int .u64 v.a),.sc (.int .u64 v.b),.sc (.int .u64 v.c),.sc (.int .u64 v.d)]
def A0k (v:W4):W4:=⟨rot (wrap .u64 (v.a+v.b)) 32,Fo .u64 (rot v.b 13) (wrap .u64 (v.a+v.b)),wrap .u64 (v.c+v.d),Fo .u64 (rot v.d 16) (wrap .u64 (v.c+v.d))⟩
def A4s (v:W4):W4:=⟨wrap .u64 (v.a+v.d),Fo .u64 (rot v.b 17) (wrap .u64 (v.c+v.b)),rot (wrap .u64 (v.c+v.b)) 32,Fo .u64 (rot v.d 21) (wrap .u64 (v.a+v.d))⟩
def GE (v:W4):W4:=A4s (A0k v)
def An4:Nat->W4->W4
 |0,v=>v
 |n+1,v=>An4 n (GE v)
def Aus (r:W4)(m:Int):W4:=⟨Fo .u64 r.a m,r.b,r.c,r.d⟩
def RF (v:W4)(m:Int):W4:=Aus (An4 2 ⟨v.a,v.b,v.c,Fo .u64 v.d m⟩) m
def To:List Int->Int
 |[]=>0
 |b::r=>b+256*To r
def Aa3:Nat->W4->List Int->W4
 |0,v,_=>v
 |n+1,v,l=>Aa3 n (RF v (To (l.take 8))) (l.drop 8)
def Auf (k0 k1:Int):W4:=⟨Fo .u64 k0 8317987319222330741,Fo .u64 k1 7237128888997146477,Fo .u64 k0 7816392313619706465,Fo .u64 k1 8387220255154660723⟩
def Amf (v:W4):W4:=An4 4 ⟨v.a,v.b,Fo .u64 v.c 255,v.d⟩
def Ajg (v:W4):Int:=Fo .u64 (Fo .u64 (Fo .u64 v.a v.b) v.c) v.d
def JF (l:List Int):Int:=To (l.drop (8*(l.length / 8)))+72057594037927936*((l.length:Int) % 256)
def Avh (k0 k1:Int)(l:List Int):Int:=Ajg (Amf (RF (Aa3 (l.length / 8) (Auf k0 k1) l) (JF l)))
def Atk (key dom:Int)(l:List Int):Int:=Avh key (wrap .u64 (1+wrap .u64 dom)) l
def C8 (l:List Int):Prop:=∀b∈l,0<=b∧b<=255
theorem EM:∀{l:List Int},C8 l->0<=To l∧To l<256 ^ l.length
 |[],_=>by simp[To]
 |b::r,h=>by
  have h1:=h b (by simp)
  have h2:=EM (l:=r) fun x hx=>h x (by simp[hx])
  have h3:(256:Int) ^ (b::r).length=256 ^ r.length*256:=by rw[LB,Int.pow_succ]
  simp only[To];omega
theorem BP:∀(l r:List Int),To (l++r)=To l+256 ^ l.length*To r
 |[],r=>by simp[To]
 |b::l,r=>by
  have ih:=BP l r;simp only[Zzp,To,LB,Int.pow_succ];rw[ih,Int.mul_add];have:(256:Int)*(256 ^ l.length*To r)=256 ^ l.length*256*To r:=by rw[←Int.mul_assoc,Int.mul_comm 256]
  omega
theorem Aim {a c:Int}(k b:Nat)(h0:0<=a)(h1:a<((2 ^ k:Nat):Int)) (hc:c=((b*2 ^ k:Nat):Int)) (h:a+c<=18446744073709551615):ior .u64 a c=a+c∧ior .u64 c a=a+c:=by
 obtain⟨n,rfl⟩:=Int.eq_ofNat_of_zero_le h0;subst hc;have hn:n<2 ^ k:=by omega
 generalize hB:b*2 ^ k=m at h
 have e4:(BitVec.ofInt 64 (n:Int)).toNat=n:=by
  rw[BitVec.toNat_ofInt];omega
 have e5:(BitVec.ofInt 64 (m:Int)).toNat=m:=by
  rw[BitVec.toNat_ofInt];omega
 have e6:m ||| n=m+n:=by
  have:=Nat.shiftLeft_add_eq_or_of_lt hn b;rw[Nat.shiftLeft_eq,hB] at this;exact this.symm
 constructor
 ·show wrap .u64 ((BitVec.ofInt 64 (n:Int) ||| BitVec.ofInt 64 (m:Int)).toNat:Int)=_;rw[BitVec.toNat_or,e4,e5,Nat.or_comm,e6,I4 (by omega) (by omega)]
  omega
 ·show wrap .u64 ((BitVec.ofInt 64 (m:Int) ||| BitVec.ofInt 64 (n:Int)).toNat:Int)=_;rw[BitVec.toNat_or,e4,e5,e6,I4 (by omega) (by omega)]
  omega
theorem Air {a k:Int}(h0:0<=a)(hk:0<=k)(Jm:k<=64)(h:a*((2 ^ k.toNat:Nat):Int)<=18446744073709551615):La .u64 a k=a*((2 ^ k.toNat:Nat):Int):=by
 show wrap .u64 (a*2 ^ (min k.toNat IntKind.u64.bits))=_;have e:min k.toNat IntKind.u64.bits=k.toNat:=Nat.min_eq_left (by show k.toNat<=64;omega)
 have e2:(2:Int) ^ k.toNat=((2 ^ k.toNat:Nat):Int):=by simp
 rw[e,e2,I4 (Int.mul_nonneg h0 (Int.natCast_nonneg _)) h]
end
section
open Go.Proofs.Tryd (prog)
open Go.IntKind (wrap)
section
variable {fu d:Nat} {xs:FuncId->Option (List PV->Option Ay)}
theorem Af4 {x k:Int}(hk:k=13∨k=16∨k=17∨k=21∨k=32):Ae (CX xs) prog fu (d+1) K3 [.sc (.int .u64 x),.sc (.int .u64 k)]=some ⟨[.sc (.int .u64 (rot x k))],[]⟩:=by
 rw[S7];rcases hk with rfl|rfl|rfl|rfl|rfl<;>kernel_rfl
theorem Kq (k:IntKind)(l:List Int)(i:Nat):List.take i (Bk k l)=Bk k (l.take i):=by
 have:=XZ (EO k) l i
 simpa using this
theorem C8.drop {l:List Int}(h:C8 l)(i:Nat):C8 (l.drop i):=fun x hx=>h x (List.mem_of_mem_drop hx)
theorem C8.take {l:List Int}(h:C8 l)(i:Nat):C8 (l.take i):=fun x hx=>h x (List.mem_of_mem_take hx)
theorem Kt (v:W4):Ae (CX xs) prog fu (d+2) J2 [.agg [.sc (.int .u64 v.a),.sc (.int .u64 v.b),.sc (.int .u64 v.c),.sc (.int .u64 v.d)]]=some ⟨[.agg (GE v).cells],[]⟩:=by
 have r13:=fun x=>Af4 (xs:=xs) (fu:=fu) (d:=d) (x:=x) (k:=13) (by simp)
 have r16:=fun x=>Af4 (xs:=xs) (fu:=fu) (d:=d) (x:=x) (k:=16) (by simp)
 have r17:=fun x=>Af4 (xs:=xs) (fu:=fu) (d:=d) (x:=x) (k:=17) (by simp)
 have r21:=fun x=>Af4 (xs:=xs) (fu:=fu) (d:=d) (x:=x) (k:=21) (by simp)
 have r32:=fun x=>Af4 (xs:=xs) (fu:=fu) (d:=d) (x:=x) (k:=32) (by simp)
 rw[Rk];simp (disch:=omega) only[Dg,r13,r16,r17,r21,r32];rfl
def Pa (l:List Int)(i k:Nat):Int:=if i+k<l.length then l.getD (i+k) 0 else if k=7 then (l.length:Int) % 256 else 0
def pc (l:List Int)(i:Nat):List Int:=(List.range 8).map (Pa l i)
theorem A30 {l:List Int}(hb:C8 l)(i:Nat):C8 (pc l i):=by
 intro x hx;obtain⟨k,hk,rfl⟩:=List.mem_map.1 hx;unfold Pa;split
 ·rename_i h;rw[List.getD_eq_getElem?_getD,List.getElem?_eq_getElem h];exact hb _ (List.getElem_mem h)
 ·split<;>omega
theorem Aiy {l:List Int}{i:Nat}(h:i+8<=l.length):pc l i=(l.drop i).take 8:=by
 refine List.ext_getElem (by simp[pc];omega) fun k h1 h2=>?_
 have hk:k<8:=by simpa [pc] using h1
 simp only[pc,List.getElem_map,List.getElem_range,List.getElem_take,List.getElem_drop,Pa];rw[Dw (by omega),List.getD_eq_getElem?_getD,List.getElem?_eq_getElem (by omega)]
 rfl
theorem GV (x:Int):∀n,To (List.replicate n 0++[x])=256 ^ n*x
 |0=>by simp[To]
 |n+1=>by
  rw[List.replicate_succ,Zzp,To,GV x n,Int.pow_succ,Int.mul_comm (256 ^ n) 256,Int.mul_assoc];omega
theorem Akd {l:List Int}:To (pc l (8*(l.length / 8)))=JF l:=by
 have e:pc l (8*(l.length / 8))=l.drop (8*(l.length / 8))++(List.replicate (7-(l.length-8*(l.length / 8))) 0++[(l.length:Int) % 256]):=by
  refine List.ext_getElem (by simp[pc];omega) fun k h1 h2=>?_
  have hk:k<8:=by simpa [pc] using h1
  simp only[pc,List.getElem_map,List.getElem_range,Pa];by_cases hc:8*(l.length / 8)+k<l.length
  ·rw[Dw hc,List.getElem_append_left (by rw[List.length_drop];omega),List.getElem_drop,List.getD_eq_getElem?_getD,List.getElem?_eq_getElem hc]
   rfl
  ·rw[Cr hc,List.getElem_append_right (by rw[List.length_drop];omega)]
   by_cases h7:k=7
   ·rw[Dw h7,List.getElem_append_right (by simp;omega)]
    simp
   ·rw[Cr h7,List.getElem_append_left (by simp;omega)]
    simp
 rw[e,BP,GV];unfold JF
 have:(256:Int) ^ (l.drop (8*(l.length / 8))).length*(256 ^ (7-(l.length-8*(l.length / 8)))*((l.length:Int) % 256))=72057594037927936*((l.length:Int) % 256):=by
  rw[←Int.mul_assoc,←Int.pow_add,List.length_drop];have:l.length-8*(l.length / 8)+(7-(l.length-8*(l.length / 8)))=7:=by omega
  rw[this];rfl
 rw[this]
theorem Auu {a b:Int}(ha:0<=a)(ha':a<72057594037927936)(hb:0<=b)(Gy:b<=255):ior .u64 (La .u64 a 8) b=b+256*a:=by
 obtain⟨n,rfl⟩:=Int.eq_ofNat_of_zero_le ha
 have hs:La .u64 (n:Int) 8=((n*2 ^ 8:Nat):Int):=by
  have:=Air (a:=(n:Int)) (k:=8) (by omega) (by omega) (by omega) (by
   have:(2 ^ (8:Int).toNat:Nat)=256:=by decide
   rw[this];omega)
  rw[this];have:(2 ^ (8:Int).toNat:Nat)=256:=by decide
  rw[this];have:(2 ^ 8:Nat)=256:=by decide
  rw[this];omega
 have h8:(2 ^ 8:Nat)=256:=by decide
 rw[hs,(Aim (a:=b) 8 n hb (by rw[h8];omega) rfl (by rw[h8];omega)).2,h8]
 omega
theorem XU {a0 a1:Int}{n m0:Nat}{c:List PV}{l:List Int}(hb:C8 l)(hl:l.length<=1099511627776){i:Nat}(hi:i<=l.length)(v:W4):∀(j nn:Nat),j<=8->j<nn ->
  Dy fu (Ae (CX xs) prog fu (d+2)) a0 a1 n c m0 nn l.length (Bk .u8 l) i (To ((pc l i).drop j)) ((j:Int)-1) v.cells =
   Ej fu (Ae (CX xs) prog fu (d+2)) a0 a1 n c m0 l.length (Bk .u8 l) ((i+8:Nat):Int) (RF v (To (pc l i))).cells
 |_,0,_,h=>by omega
 |0,nn+1,hj,hn=>by
  have w8:wrap .i64 ((i:Int)+8)=((i+8:Nat):Int):=by rw[Bd (by omega) (by omega)];omega
  have r1:=Kt (xs:=xs) (fu:=fu) (d:=d) ⟨v.a,v.b,v.c,Fo .u64 v.d (To (pc l i))⟩;have r2:=Kt (xs:=xs) (fu:=fu) (d:=d) (GE ⟨v.a,v.b,v.c,Fo .u64 v.d (To (pc l i))⟩);have eA:RF v (To (pc l i))=Aus (GE (GE ⟨v.a,v.b,v.c,Fo .u64 v.d (To (pc l i))⟩)) (To (pc l i)):=rfl;rw[eA];generalize GE ⟨v.a,v.b,v.c,Fo .u64 v.d (To (pc l i))⟩=U at r1 r2 ⊢;generalize GE U=U2 at r2 ⊢;simp only[W4.cells] at r1 r2;rw[Jc,BU _ _ _ (by omega),Zze]
  simp only[W4.cells,List.getD_cons_zero,List.getD_cons_succ,EL,Lk];simp (disch:=first|omega|(simp;done)) only[Dg,Ca,List.take_succ_cons,List.take_zero,List.drop_succ_cons,Zze,List.drop_nil,Zzp,List.nil_append,List.append_nil,LB,List.length_nil,List.getD_cons_zero,List.getD_cons_succ,r1,r2,w8,Zzd,Nat.reduceAdd,Nat.reduceLeDiff,List.append_eq]
  rfl
 |j+1,nn+1,hj,hn=>by
  have ih:=XU (a0:=a0) (a1:=a1) (n:=n) (m0:=m0) (c:=c) hb hl hi v j nn (by omega) (by omega)
  have hw:wrap .i64 ((i:Int)+(((j+1:Nat):Int)-1))=((i+j:Nat):Int):=by rw[Bd (by omega) (by omega)];omega
  have wj:wrap .i64 (((j+1:Nat):Int)-1-1)=(j:Int)-1:=by rw[Bd (by omega) (by omega)];omega
  have hd:(pc l i).drop j=Pa l i j::(pc l i).drop (j+1):=by
   rw[List.drop_eq_getElem_cons (by simp[pc];omega)]
   simp[pc]
  have hB:=A30 hb i;have hbn:=EM (hB.drop (j+1))
  have hp7:(256:Int) ^ ((pc l i).drop (j+1)).length<=72057594037927936:=by
   have Dj:((pc l i).drop (j+1)).length<=7:=by simp[pc]
   have:(256:Nat) ^ ((pc l i).drop (j+1)).length<=256 ^ 7:=Nat.pow_le_pow_right (by omega) Dj
   have h2:(((256:Nat) ^ ((pc l i).drop (j+1)).length:Nat):Int)<=((256 ^ 7:Nat):Int):=by omega
   simpa using h2
  have ZE:0<=Pa l i j∧Pa l i j<=255:=hB _ (by rw[←Zze (l:=pc l i)];exact List.mem_of_mem_drop (i:=j) (by rw[Zze,hd];simp))
  have hj2:ior .u64 (La .u64 (To ((pc l i).drop (j+1))) 8) (Pa l i j)=To ((pc l i).drop j):=by
   rw[Auu hbn.1 (by omega) ZE.1 ZE.2,hd]
   rfl
  have wc:wrap .u64 (Pa l i j)=Pa l i j:=I4 (by omega) (by omega)
  rw[Jc,CF _ _ _ (by omega)]
  simp only[Lk,hw];by_cases c1:i+j<l.length
  ·have e:Pa l i j=l.getD (i+j) 0:=by unfold Pa;rw[Dw c1]
   have e2:l[i+j]?=some (Pa l i j):=by rw[e,List.getD_eq_getElem?_getD,List.getElem?_eq_getElem c1];rfl
   rw[CF _ _ _ (by omega)]
   simp (disch:=omega) only[Dg,O8,HD,ati e2,wc,hj2,wj];exact ih
  ·rw[BU _ _ _ (by omega)]
   by_cases h7:j=7
   ·subst h7;have e:Pa l i 7=(l.length:Int) % 256:=by unfold Pa;rw[Cr c1,Dw rfl]
    have e8:wrap .u8 (l.length:Int)=Pa l i 7:=by
     rw[e];simp only[wrap,IntKind.signed,IntKind.bits];simp
    rw[XO,Dw (by omega),e8,wc,hj2,wj]
    exact ih
   ·have e:Pa l i j=0:=by unfold Pa;rw[Cr c1,Cr h7]
    rw[e] at hj2;rw[XO,Cr (by omega),hj2,wj]
    exact ih
theorem HP {a0 a1:Int}{n:Nat}{c:List PV}{l:List Int}(hb:C8 l)(hl:l.length<=1099511627776)(E9:100<=fu):∀(k i nn:Nat)(v:W4),i+k=l.length / 8->k+1<nn ->
  Ej fu (Ae (CX xs) prog fu (d+2)) a0 a1 n c nn l.length (Bk .u8 l) ((8*i:Nat):Int) v.cells=some ⟨[.sc (.int .u64 (Ajg (Amf (RF (Aa3 k v (l.drop (8*i))) (JF l)))))],[]⟩
 |_,_,0,_,_,h=>by omega
 |k,i,nn+1,v,hi,hn=>by
  have step:=XU (xs:=xs) (fu:=fu) (d:=d) (a0:=a0) (a1:=a1) (n:=n) (m0:=nn) (c:=c) hb hl (i:=8*i) (by omega) v 8 fu (by omega) (by omega)
  have e0:To ((pc l (8*i)).drop 8)=0:=by rw[List.drop_of_length_le (by simp[pc])];rfl
  rw[e0] at step;rw[Iz,CF _ _ _ (by omega)]
  refine step.trans ?_;cases k with
  |zero=>
   have e:i=l.length / 8:=by omega
   subst e;rw[Akd];generalize hv:RF v (JF l)=u;obtain⟨nn',rfl⟩:∃nn',nn=nn'+1:=⟨nn-1,by omega⟩
   have r1:=Kt (xs:=xs) (fu:=fu) (d:=d) ⟨u.a,u.b,Fo .u64 u.c 255,u.d⟩;have r2:=Kt (xs:=xs) (fu:=fu) (d:=d) (GE ⟨u.a,u.b,Fo .u64 u.c 255,u.d⟩);have r3:=Kt (xs:=xs) (fu:=fu) (d:=d) (GE (GE ⟨u.a,u.b,Fo .u64 u.c 255,u.d⟩));have r4:=Kt (xs:=xs) (fu:=fu) (d:=d) (GE (GE (GE ⟨u.a,u.b,Fo .u64 u.c 255,u.d⟩)))
   have eF:Ajg (Amf (RF (Aa3 0 v (l.drop (8*(l.length / 8)))) (JF l)))=Ajg (GE (GE (GE (GE ⟨u.a,u.b,Fo .u64 u.c 255,u.d⟩)))):=by
    rw[Aa3,hv];rfl
   rw[eF];clear eF;generalize GE ⟨u.a,u.b,Fo .u64 u.c 255,u.d⟩=U1 at r1 r2 r3 r4 ⊢;generalize GE U1=U2 at r2 r3 r4 ⊢;generalize GE U2=U3 at r3 r4 ⊢;generalize GE U3=U4 at r4 ⊢;simp only[W4.cells] at r1 r2 r3 r4;rw[Iz,BU _ _ _ (by omega)]
   simp only[W4.cells,List.getD_cons_zero,List.getD_cons_succ,EL,Lk];simp (disch:=first|omega|(simp;done)) only[Dg,Ca,List.take_succ_cons,List.take_zero,List.drop_succ_cons,Zze,List.drop_nil,Zzp,List.nil_append,List.append_nil,LB,List.length_nil,List.getD_cons_zero,List.getD_cons_succ,r1,r2,r3,r4,Zzd,Nat.reduceAdd,Nat.reduceLeDiff,List.append_eq]
   rfl
  |succ k=>
   have ih:=HP (a0:=a0) (a1:=a1) (n:=n) (c:=c) hb hl E9 k (i+1) nn (RF v (To (pc l (8*i)))) (by omega) (by omega)
   rw[show 8*i+8=8*(i+1) by omega,ih,Aiy (by omega)]
   simp only[Aa3,List.drop_drop];rw[show 8*(i+1)=8*i+8 by omega]
theorem Ajf {l:List Int}(hb:C8 l)(hl:l.length<=1099511627776)(E9:100<=fu)(hf:l.length<fu)(k0 k1:Int):Ae (CX xs) prog fu (d+3) L6 [.sc (.int .u64 k0),.sc (.int .u64 k1),.lst false 1 l.length (Bk .u8 l)]=some ⟨[.sc (.int .u64 (Avh k0 k1 l))],[]⟩:=by
 rw[Tu];exact HP (xs:=xs) (fu:=fu) (d:=d) (a0:=k0) (a1:=k1) (n:=l.length) (c:=Bk .u8 l) hb hl E9 (l.length / 8) 0 fu (Auf k0 k1) (by omega) (by omega)
theorem Ahx {l:List Int}(hb:C8 l)(hl:l.length<=1099511627776)(E9:100<=fu)(hf:l.length<fu)(key dom:Int):Ae (CX xs) prog fu (d+4) L3 [.sc (.int .u64 key),.sc (.int .i64 dom),.lst false 1 l.length (Bk .u8 l)]=some ⟨[.sc (.int .u64 (Atk key dom l))],[]⟩:=by
 rw[Vv];have s:=Ajf (xs:=xs) (fu:=fu) (d:=d) hb hl E9 hf key (wrap .u64 (1+wrap .u64 dom));simp only[Dg,s];rfl
end
end
section
open Go.Proofs.Tryd (prog)
open Go.IntKind (wrap)
def Nz (w:Int)(k:Nat):Int:=wrap .u8 (FK .u64 w (56-8*(k:Int)))
def Nf (w:Int):List Int:=(List.range' 0 8).map (Nz w)
def Fq (ws:List Int):List Int:=ws.flatMap Nf
theorem Ig (w:Int):(Nf w).length=8:=rfl
section
variable {fu d:Nat} {xs:FuncId->Option (List PV->Option Ay)} {call:Ax} {n:Nat} {c:List PV}
theorem IK {ws:List Int}{w:Int}{m0 i:Nat}(hw:ws[i]?=some w):∀(r nn:Nat)(j:Int)(bs:List Int),j=(r:Int)-1->r<=8->r<nn->bs.length+r<=34359738368 ->
  Ex fu call n c m0 nn ws.length (Bk .u64 ws) bs.length i j (Bk .u8 bs) =
   D4 fu call n c m0 ws.length (Bk .u64 ws) (bs++(List.range' (8-r) r).map (Nz w)).length (wrap .i64 (i+1)) (Bk .u8 (bs++(List.range' (8-r) r).map (Nz w)))
 |r,0,j,bs,_,_,h,_=>by omega
 |0,nn+1,j,bs,hr,_,_,_=>by
  rw[Hx];simp (disch:=omega) only[Dg];simp
 |r+1,nn+1,j,bs,hr,Y6,hn,hb=>by
  have hi:=Anh hw;have ih:=IK (m0:=m0) hw r nn (j-1) (bs++[Nz w (8-(r+1))]) (by omega) (by omega) (by omega) (by simp;omega)
  have e8:=Dh .u8 bs
  have hx:wrap .u8 (FK .u64 w (wrap .u64 (wrap .i64 (8*j))))=Nz w (8-(r+1)):=by
   rw[Bd (by omega) (by omega),I4 (by omega) (by omega)]
   unfold Nz;rw[show 56-8*((8-(r+1):Nat):Int)=8*j by omega]
  have h0:0<=wrap .u64 (wrap .i64 (8*j)):=by
   rw[Bd (by omega) (by omega),I4 (by omega) (by omega)]
   omega
  have An7:List.range' (8-(r+1)) (r+1)=(8-(r+1))::List.range' (8-r) r:=by
   rw[List.range'_succ,show 8-(r+1)+1=8-r by omega]
  rw[Hx];simp (disch:=first|omega|exact h0) only[Dg,O8,HD,ati hw,hx,tki,Agg,Bd (x:=j-1)];rw[An7];simp only[Zzg,LB,List.length_nil,Zzd,List.append_assoc,List.map_cons,List.singleton_append] at ih ⊢;exact ih
theorem Yy {ws:List Int}(hl:ws.length<=1073741824)(E9:100<=fu):∀(r:List Int)(i nn:Nat)(bs:List Int),ws.drop i=r->r.length<nn->bs.length=8*i ->
  D4 fu call n c nn ws.length (Bk .u64 ws) bs.length i (Bk .u8 bs)=some ⟨[.own 1 (bs++Fq r).length (Bk .u8 (bs++Fq r))],[]⟩
 |r,i,0,_,_,h,_=>by omega
 |[],i,nn+1,bs,h,_,_=>by
  have:=drop_nil h;have e8:=Dh .u8 bs;rw[Hs];simp (disch:=omega) only[Dg,HD,tki,Fq,List.flatMap_nil,List.append_nil]
 |w::r,i,nn+1,bs,h,hn,hb=>by
  obtain⟨h1,h2,h3⟩:=Rb h;simp only[LB] at hn;rw[Hs];simp (disch:=omega) only[Dg];rw[IK h2 8 fu 7 bs rfl (by omega) (by omega) (by omega),Bd (by omega) (by omega)]
  have ih:=Yy hl E9 r (i+1) nn (bs++Nf w) h3 (by omega) (by simp[Ig];omega)
  have e:bs++Nf w++Fq r=bs++Fq (w::r):=by simp[Fq]
  rw[e] at ih;exact ih
theorem JK {ws:List Int}(hl:ws.length<=1073741824)(E9:100<=fu)(hf:ws.length<fu):Ae (CX xs) prog fu (d+1) E5 [.lst false 1 ws.length (Bk .u64 ws)]=some ⟨[.own 1 (Fq ws).length (Bk .u8 (Fq ws))],[]⟩:=by
 rw[Ro];exact Yy hl E9 ws 0 fu [] rfl hf rfl
end
end
section
open Go.IntKind (wrap)
theorem Afe (w:Int)(k:Nat):0<=Nz w k∧Nz w k<=255:=by
 unfold Nz;simp only[wrap,IntKind.signed,IntKind.bits];simp;omega
theorem XG (w:Int):C8 (Nf w):=by
 intro x hx;obtain⟨k,_,rfl⟩:=List.mem_map.1 hx;exact Afe w k
theorem Af1 (ws:List Int):C8 (Fq ws):=by
 intro x hx;obtain⟨w,_,hx⟩:=List.mem_flatMap.1 hx;exact XG w x hx
theorem BQ (ws:List Int):(Fq ws).length=8*ws.length:=by
 induction ws with
 |nil=>rfl
 |cons w ws ih=>
  show (Nf w++Fq ws).length=_;rw[Zzg,ih,Ig,LB];omega
end
section
open Go.IntKind (wrap)
def E4 (s:ByteArray):List Int:=s.data.toList.map fun b=>(b.toNat:Int)
def Ab (l:List Int):ByteArray:=⟨(l.map fun n=>n.toNat.toUInt8).toArray⟩
theorem Nj (s:ByteArray):(E4 s).length=s.size:=by
 unfold E4;rw[List.length_map];rfl
theorem LD (s:ByteArray):C8 (E4 s):=by
 intro x hx;obtain⟨b,_,rfl⟩:=List.mem_map.1 hx;have:=b.toNat_lt;omega
theorem Aj (l:List Int):(Ab l).size=l.length:=by
 show (l.map fun n=>n.toNat.toUInt8).toArray.size=_
 simp
theorem Ck {l:List Int}(h:C8 l):E4 (Ab l)=l:=by
 unfold E4 Ab;simp only[List.map_map]
 have:∀l:List Int,C8 l->List.map ((fun b:UInt8=>(b.toNat:Int)) ∘ fun n:Int=>n.toNat.toUInt8) l=l:=by
  intro l
  induction l with
  |nil=>intro _;rfl
  |cons x l ih=>
   intro h;have hx:=h x (by simp)
   rw[List.map_cons,ih fun y hy=>h y (by simp[hy])]
   congr 1
   show ((x.toNat.toUInt8.toNat:Nat):Int)=x;rw[Nat.toUInt8,UInt8.toNat_ofNat'];omega
 exact this l h
theorem Hw (s:ByteArray):Ab (E4 s)=s:=by
 unfold Ab E4;simp only[List.map_map]
 have:∀l:List UInt8,List.map ((fun n:Int=>n.toNat.toUInt8) ∘ fun b:UInt8=>(b.toNat:Int)) l=l:=by
  intro l
  induction l with
  |nil=>rfl
  |cons x l ih=>
   rw[List.map_cons,ih]
   congr 1
   show ((x.toNat:Int).toNat).toUInt8=x;rw[O8];simp
 rw[this]
theorem Zb:∀l:List Int,Ix (Bk .u8 l)=some (l.map fun n=>n.toNat.toUInt8)
 |[]=>rfl
 |x::l=>by
  show (Ix (Bk .u8 l)).map (x.toNat.toUInt8 :: ·)=_
  rw[Zb l];rfl
end
end Go.Proofs.YtodnjibebeghjaaDoor.Pv
