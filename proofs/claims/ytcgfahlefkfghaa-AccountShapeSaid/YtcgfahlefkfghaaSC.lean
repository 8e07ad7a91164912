/-
  The proof of AccountShape, part 3.
-/
import Derived.Test.YtcgfahlefkfghaaSB
import Derived.StillTail
import Derived.WalkKit
import Derived.ProofKit
import Derived.OpenShut
import Derived.ShutString
import Derived.ChangeOld
import Derived.Below
import Derived.Deep.Slices
import Derived.ChangeSame
import Derived.WideKeyArgs
import Derived.Carry
import Derived.Test.YtcgfahlefkfghaaRows
set_option linter.unusedSimpArgs false
set_option linter.unusedVariables false
namespace Go.Proofs.Ytcgfahlefkfghaa.Pv
section
section
variable {R R':Type} {Rel:Option R->Option R'->Prop}
theorem Gi (hn:Rel none none){k:IntKind}{p:PV}{K:Int->Option R}{K':Int->Option R'}(hK:∀n,Rel (K n) (K' n)):Rel (Ai k p K) (Ai k p K'):=by
 unfold Ai;split
 ·split<;>first|exact hK _|exact hn
 ·exact hn
theorem C2 (hn:Rel none none){p:PV}{K:IntKind->Int->Option R}{K':IntKind->Int->Option R'}(hK:∀k n,Rel (K k n) (K' k n)):Rel (Cp p K) (Cp p K'):=by
 unfold Cp;split<;>first|exact hK _ _|exact hn
theorem Fi (hn:Rel none none){p:PV}{K:Bool->Option R}{K':Bool->Option R'}(hK:∀n,Rel (K n) (K' n)):Rel (A5 p K) (A5 p K'):=by
 unfold A5;split<;>first|exact hK _|exact hn
theorem Ef (hn:Rel none none){p:PV}{K:ByteArray->Option R}{K':ByteArray->Option R'}(hK:∀n,Rel (K n) (K' n)):Rel (En p K) (En p K'):=by
 unfold En;split<;>first|exact hK _|exact hn
theorem Ed (hn:Rel none none){es:Nat}{p:PV}{K:Bool->Nat->List PV->Option R}{K':Bool->Nat->List PV->Option R'}(hK:∀z n c,Rel (K z n c) (K' z n c)):Rel (Eu es p K) (Eu es p K'):=by
 unfold Eu;split
 ·rename_i es' _ _;cases Nat.beq es' es
  ·exact hn
  ·exact hK _ _ _
 ·exact hK _ _ _
 ·exact hn
theorem Aeg (hn:Rel none none){es:Nat}{p:PV}{K:PV->Option R}{K':PV->Option R'}(hK:∀p,Rel (K p) (K' p)):Rel (fsK es p K) (fsK es p K'):=by
 unfold fsK;split
 ·rename_i es' _ _;cases Nat.beq es' es
  ·exact hn
  ·exact hK _
 ·exact Ed hn fun _ _ _=>hK _
theorem QB (hn:Rel none none){es:Nat}{p:PV}{K:Nat->List PV->Option R}{K':Nat->List PV->Option R'}(hK:∀n c,Rel (K n c) (K' n c)):Rel (Oc es p K) (Oc es p K'):=by
 unfold Oc;split
 ·rename_i es' _ _;cases Nat.beq es' es
  ·exact hn
  ·exact hK _ _
 ·exact hn
theorem Ao (hn:Rel none none){b:Bool}{K:Option R}{K':Option R'}(hK:b=true->Rel K K'):Rel (Au b K) (Au b K'):=by
 cases b
 ·exact hn
 ·exact hK rfl
theorem Xa {b:Bool}{x y:Option R}{x' y':Option R'}(hx:Rel x x')(hy:Rel y y'):Rel (Cg b x y) (Cg b x' y'):=by
 cases b
 ·exact hy
 ·exact hx
theorem Ce (hn:Rel none none){α:Type}{o:Option α}{K:α->Option R}{K':α->Option R'}(hK:∀a,o=some a->Rel (K a) (K' a)):Rel (C7 o K) (C7 o K'):=by
 cases o
 ·exact hn
 ·exact hK _ rfl
theorem Ax (hn:Rel none none){α:Type}{l:List α}{K:α->List α->Option R}{K':α->List α->Option R'}(hK:∀a r,l=a::r->Rel (K a r) (K' a r)):Rel (Ab l K) (Ab l K'):=by
 cases l
 ·exact hn
 ·exact hK _ _ rfl
theorem D2 (hn:Rel none none){α:Type}{l:List α}{K:Option R}{K':Option R'}(hK:Rel K K'):Rel (Ae l K) (Ae l K'):=by
 cases l
 ·exact hK
 ·exact hn
theorem G7 (hn:Rel none none){p:PV}{K:List PV->Option R}{K':List PV->Option R'}(hK:∀c,p=.agg c->Rel (K c) (K' c)):Rel (Fo p K) (Fo p K'):=by
 unfold Fo;split
 ·exact hK _ rfl
 ·exact hn
theorem TS (hn:Rel none none){p:PV}{K:List PV->Option R}{K':List PV->Option R'}(hK:∀c,Rel (K c) (K' c)):Rel (Qv p K) (Qv p K'):=by
 unfold Qv;split
 ·exact hK _
 ·exact hn
theorem BV (hn:Rel none none){r:Option Bb}{K:List PV->List (List PV)->Option R} {K':List PV->List (List PV)->Option R'} (hK:∀v o,Rel (K v o) (K' v o)):Rel (Ap r K) (Ap r K'):=by
 unfold Ap;split
 ·exact hK _ _
 ·exact hn
theorem PQ (hn:Rel none none){p:PV}{K:Value->Option R}{K':Value->Option R'}(hK:∀v,Rel (K v) (K' v)):Rel (VH p K) (VH p K'):=by
 unfold VH;split
 ·exact hK _
 ·exact hK _
 ·exact hn
theorem Aee (hn:Rel none none){p:PV}{K:FuncId->Option R}{K':FuncId->Option R'}(hK:∀v,Rel (K v) (K' v)):Rel (fvK p K) (fvK p K'):=by
 unfold fvK;split
 ·rename_i f a b;cases (a.isEmpty&&b.isEmpty)
  ·exact hn
  ·exact hK _
 ·exact hn
theorem Lh (hn:Rel none none){t:CT}{p:PV}{K:PV->Option R}{K':PV->Option R'}(hK:∀p,Rel (K p) (K' p)):Rel (Ug t p K) (Ug t p K'):=by
 unfold Ug;split
 ·exact Gi hn fun _=>hK _
 ·exact Fi hn fun _=>hK _
 ·exact Ef hn fun _=>hK _
 ·exact Ed hn fun _ _ _=>hK _
 ·exact PQ hn fun _=>hK _
theorem Aew (hn:Rel none none){t:CT}{p:PV}{K:PV->Option R}{K':PV->Option R'}(hK:∀p,Rel (K p) (K' p)):Rel (fcK t p K) (fcK t p K'):=by
 unfold fcK;split
 ·exact Aeg hn hK
 ·exact Lh hn hK
theorem Mb (hn:Rel none none):∀{ts:List CT}{cells:List PV}{off:Nat}{K:List PV->Option R}{K':List PV->Option R'},(∀c,Rel (K c) (K' c))->Rel (N8 ts cells off K) (N8 ts cells off K')
 |[],_,_,_,_,hK=>hK _
 |_::_,_,_,_,_,hK=>Lh hn fun _=>Mb hn fun _=>hK _
theorem Kn (hn:Rel none none):∀{ts:List CT}{cells:List PV}{off:Nat}{K:List PV->Option R}{K':List PV->Option R'},(∀c,Rel (K c) (K' c))->Rel (K4 ts cells off K) (K4 ts cells off K')
 |[],_,_,_,_,hK=>hK _
 |_::_,_,_,_,_,hK=>Aew hn fun _=>Kn hn fun _=>hK _
theorem Sh (hn:Rel none none){g:Bool}{cells:List PV}{K:PV->Option R}{K':PV->Option R'}(hK:∀p,Rel (K p) (K' p)):Rel (PC g cells K) (PC g cells K'):=by
 cases g
 ·exact Ax hn fun _ _ _=>D2 hn (hK _)
 ·exact hK _
theorem PI (hn:Rel none none){P:Program}{t:TypeId}{v:Value}{K:PV->Option R}{K':PV->Option R'}(hK:∀p,A9 p=[]->Rel (K p) (K' p)) (hK':∀c,Rel (K (.agg c)) (K' (.agg c))):Rel (cvK P t v K) (cvK P t v K'):=by
 unfold cvK;split
 ·exact Ao hn fun _=>Mb hn fun _=>hK' _
 ·split
  ·exact hK _ rfl
  ·exact hn
 ·exact hK _ rfl
theorem WM (hn:Rel none none){op:BinOp}{x y:Int}{K:Bool->Option R}{K':Bool->Option R'}(hK:∀n,Rel (K n) (K' n)):Rel (Acu op x y K) (Acu op x y K'):=by
 unfold Acu;split<;>first|exact hK _|exact hn
theorem MZ (hn:Rel none none){op:BinOp}{k:IntKind}{x y:Int}{K:PV->Option R}{K':PV->Option R'}(hK:∀n,Rel (K n) (K' n)):Rel (Yn op k x y K) (Yn op k x y K'):=by
 unfold Yn;split<;>first|exact hK _|exact Ao hn fun _=>hK _|exact WM hn fun _=>hK _
theorem NY (hn:Rel none none){op:BinOp}{x y:ByteArray}{K:PV->Option R}{K':PV->Option R'}(hK:∀n,Rel (K n) (K' n)):Rel (Zv op x y K) (Zv op x y K'):=by
 unfold Zv;split<;>first|exact hK _|exact Ao hn fun _=>hK _|exact hn
theorem CL (hn:Rel none none){e:Bool}{p:PV}{K:PV->Option R}{K':PV->Option R'}(hK:∀n,Rel (K n) (K' n)):Rel (Zh e p K) (Zh e p K'):=by
 unfold Zh;split<;>first|exact hK _|exact Xa (hK _) (Xa (hK _) (hK _))|exact Xa (hK _) (hK _)|exact hn
theorem JG (hn:Rel none none):∀{ts:List CT}{ps qs:List PV}{K:Bool->Option R}{K':Bool->Option R'},(∀b,Rel (K b) (K' b))->Rel (Io ts ps qs K) (Io ts ps qs K'):=by
 intro ts
 induction ts with
 |nil=>
  intro ps qs K K' hK;cases ps<;>cases qs<;>first|exact hK _|exact hn
 |cons t ts ih=>
  intro ps qs K K' hK;cases ps with
  |nil=>cases t<;>cases qs<;>exact hn
  |cons p ps=>
   cases qs with
   |nil=>cases t<;>exact hn
   |cons q qs=>
    cases t
    ·exact Gi hn fun _=>Gi hn fun _=>ih fun _=>hK _
    ·exact Fi hn fun _=>Fi hn fun _=>ih fun _=>hK _
    ·exact Ef hn fun _=>Ef hn fun _=>ih fun _=>hK _
    ·exact hn
    ·exact hn
theorem Aan (hn:Rel none none){P:Program}{op:BinOp}{t:TypeId}{x y:PV}{K:PV->Option R}{K':PV->Option R'}(hK:∀p,Rel (K p) (K' p)):Rel (YU P op t x y K) (YU P op t x y K'):=by
 unfold YU;split
 ·split
  ·exact Gi hn fun _=>C2 hn fun _ _=>Ao hn fun _=>hK _
  ·exact Gi hn fun _=>C2 hn fun _ _=>Ao hn fun _=>hK _
  ·exact Gi hn fun _=>Gi hn fun _=>MZ hn hK
 ·exact Ef hn fun _=>Ef hn fun _=>NY hn hK
 ·split
  ·exact Fi hn fun _=>Fi hn fun _=>hK _
  ·exact Fi hn fun _=>Fi hn fun _=>hK _
  ·exact hn
 ·split
  ·exact CL hn fun _=>hK _
  ·exact CL hn fun _=>hK _
  ·exact hn
 ·split
  ·exact hK _
  ·exact hK _
  ·exact hn
 ·exact hn
theorem JM (hn:Rel none none){P:Program}{op:BinOp}{t:TypeId}{x y:PV}{K:PV->Option R}{K':PV->Option R'}(hK:∀p,Rel (K p) (K' p)):Rel (Py P op t x y K) (Py P op t x y K'):=by
 unfold Py;split
 ·split
  ·exact Ao hn fun _=>G7 hn fun _ _=>G7 hn fun _ _=>JG hn fun _=>hK _
  ·exact Ao hn fun _=>G7 hn fun _ _=>G7 hn fun _ _=>JG hn fun _=>hK _
  ·exact hn
 ·exact Aan hn hK
theorem Acx (hn:Rel none none){op:UnOp}{x:PV}{K:PV->Option R}{K':PV->Option R'}(hK:∀p,Rel (K p) (K' p)):Rel (unK op x K) (unK op x K'):=by
 unfold unK;split<;>first|exact Fi hn fun _=>hK _|exact C2 hn fun _ _=>hK _|exact hn
theorem Cy (hn:Rel none none){p:Option PV}{d:Nat}{K:Nat->Option R}{K':Nat->Option R'}(hK:∀n,Rel (K n) (K' n)):Rel (Fl p d K) (Fl p d K'):=by
 unfold Fl;split
 ·exact hK _
 ·exact C2 hn fun _ _=>Ao hn fun _=>hK _
theorem Uj (hn:Rel none none){x:PV}{d:Nat}{K:PV->Option R}{K':PV->Option R'}(hK:∀n,Rel (K n) (K' n)):Rel (O3 x d K) (O3 x d K'):=by
 unfold O3;split<;>first|exact hK _|exact hn
theorem X4 (hn:Rel none none){P:Program}{t:TypeId}{x:PV}{i:Int}{K:PV->Option R}{K':PV->Option R'}(hK:∀p,Rel (K p) (K' p)):Rel (Ie P t x i K) (Ie P t x i K'):=by
 unfold Ie;split
 ·exact Ao hn fun _=>Ao hn fun _=>Uj hn hK
 ·refine Ao hn fun _=>?_
  split
  ·exact Ao hn fun _=>Ao hn fun _=>hK _
  ·exact Ed hn fun _ _ _=>Ao hn fun _=>hK _
 ·exact hn
theorem Up (hn:Rel none none){Fg:Nat->Option (Nat × Nat)}:∀{ps:List (Nat × PV)} {cells:List PV}{K:List PV->Option R}{K':List PV->Option R'},(∀c,Rel (K c) (K' c))->Rel (Pb Fg ps cells K) (Pb Fg ps cells K')
 |[],_,_,_,hK=>hK _
 |(_,_)::_,_,_,_,hK=>Ce hn fun _ _=>Ao hn fun _=>Up hn hK
theorem Oj (hn:Rel none none){P:Program}{t:TypeId}{K:List PV->Option R}{K':List PV->Option R'}(hK:∀p,Rel (K p) (K' p)):Rel (Fu P t K) (Fu P t K'):=
 Ce hn fun _ _=>Ao hn fun _=>Mb hn hK
theorem ZN (hn:Rel none none){x y:PV}{K:PV->Option R}{K':PV->Option R'}(hK:∀p,Rel (K p) (K' p)):Rel (Aem x y K) (Aem x y K'):=
 C2 hn fun _ _=>Gi hn fun _=>hK _
theorem WB (hn:Rel none none){x y:PV}{K:PV->Option R}{K':PV->Option R'}(hK:∀p,Rel (K p) (K' p)):Rel (Adk x y K) (Adk x y K'):=
 C2 hn fun _ _=>Gi hn fun _=>hK _
theorem YP (hn:Rel none none){P:Program}{t:TypeId}{x:PV}{K:Nat->Option R}{K':Nat->Option R'}(hK:∀p,Rel (K p) (K' p)):Rel (RS P t x K) (RS P t x K'):=by
 unfold RS;split
 ·exact Ef hn fun _=>hK _
 ·exact hK _
 ·split
  ·exact Ao hn fun _=>hK _
  ·exact Ed hn fun _ _ _=>hK _
 ·exact hn
def GO (Rel:Option R->Option R'->Prop)(f f':Nat->Option (List PV)) (l:List Nat):Prop:=∀i∈l,f i=f' i∨(f i=none∧∀b,Rel none b)
variable {f f':Nat->Option (List PV)}
theorem GO.sub {l l':List Nat}(h:GO Rel f f' l)(hs:∀i∈l',i∈l):GO Rel f f' l':=fun i hi=>h i (hs i hi)
theorem Tr (hn:Rel none none){l:List Nat}{id:Nat}(hf:GO Rel f f' l)(hi:id∈l){K:List PV->Option R}{K':List PV->Option R'}(hK:∀c,f id=some c->Rel (K c) (K' c)):Rel (C7 (f id) K) (C7 (f' id) K'):=by
 rcases hf id hi with h|⟨h,hb⟩
 ·rw[←h];exact Ce hn hK
 ·rw[h];exact hb _
theorem Ms (hn:Rel none none){es:Nat}{p:PV}{K:Nat->List PV->Option R}{K':Nat->List PV->Option R'}(hf:GO Rel f f' (Ak p)) (hK:∀n c,Rel (K n c) (K' n c)):Rel (HZ f es p K) (HZ f' es p K'):=by
 unfold HZ;split
 ·rename_i id es' off n;cases Nat.beq es' es
  ·exact hn
  ·exact Tr hn hf (by simp[Ak]) fun _ _=>Ao hn fun _=>hK _ _
 ·exact Ed hn fun _ _ _=>hK _ _
theorem Aax (hn:Rel none none){t:CT}{p:PV}{K:PV->List Nat->Option R}{K':PV->List Nat->Option R'}(hf:GO Rel f f' (Ak p)) (hK:∀c m,(∀i∈m,f i≠none)->Rel (K c m) (K' c m)):Rel (Kz f t p K) (Kz f' t p K'):=by
 unfold Kz;split
 ·split
  ·rename_i id es' off n;cases Nat.beq es' _
   ·exact hn
   ·exact Tr hn hf (by simp[Ak]) fun c hc=>Ao hn fun _=>hK _ _ (by simp[hc])
  ·exact Ed hn fun _ _ _=>hK _ _ (by simp)
 ·exact Lh hn fun _=>hK _ _ (by simp)
theorem Px (hn:Rel none none):∀{ts:List CT}{ps:List PV}{K:List PV->List Nat->Option R}{K':List PV->List Nat->Option R'},GO Rel f f' (ps.flatMap Ak)->(∀c m,(∀i∈m,f i≠none)->Rel (K c m) (K' c m))->Rel (Kb f ts ps K) (Kb f' ts ps K')
 |[],[],_,_,_,hK=>hK _ _ (by simp)
 |[],_::_,_,_,_,_=>hn
 |_::_,[],_,_,_,_=>hn
 |_::_,p::ps,_,_,hf,hK=>Aax hn (fun i hi=>hf i (by simp only[List.flatMap_cons,List.mem_append];exact .inl hi)) fun _ m hm=>Px hn (fun i hi=>hf i (by simp only[List.flatMap_cons,List.mem_append];exact .inr hi)) fun _ ms X7=>hK _ _ fun i hi=>by
   rcases List.mem_append.1 hi with h|h
   ·exact hm i h
   ·exact X7 i h
theorem ZB (hn:Rel none none){P:Program}{t:TypeId}{p:PV}{K:PV->List Nat->Option R}{K':PV->List Nat->Option R'}(hf:GO Rel f f' (Bn p)) (hK:∀c m,(∀i∈m,f i≠none)->Rel (K c m) (K' c m)):Rel (LX P f t p K) (LX P f' t p K'):=by
 unfold LX
 have h1:∀i,i∈[p].flatMap Ak->i∈Bn p:=by
  intro i hi;simp only[List.flatMap_cons,List.flatMap_nil,List.append_nil] at hi;cases p<;>first|exact hi|simp[Ak] at hi
 cases Bc P t
 ·exact Px hn (fun i hi=>hf i (h1 i hi)) fun _ _ hm=>Ax hn fun _ _ _=>D2 hn (hK _ _ hm)
 ·refine G7 hn fun c hc=>?_
  subst hc;exact Px hn (fun i hi=>hf i hi) fun _ _ hm=>hK _ _ hm
theorem BZ (hn:Rel none none){P:Program}:∀{ts:List TypeId}{ps:List PV}{K:List PV->List Nat->Option R}{K':List PV->List Nat->Option R'},GO Rel f f' (ps.flatMap Bn)->(∀c m,(∀i∈m,f i≠none)->Rel (K c m) (K' c m))->Rel (Ya P f ts ps K) (Ya P f' ts ps K')
 |[],[],_,_,_,hK=>hK _ _ (by simp)
 |[],_::_,_,_,_,_=>hn
 |_::_,[],_,_,_,_=>hn
 |_::_,p::ps,_,_,hf,hK=>ZB hn (fun i hi=>hf i (by simp only[List.flatMap_cons,List.mem_append];exact .inl hi)) fun _ m hm=>BZ hn (fun i hi=>hf i (by simp only[List.flatMap_cons,List.mem_append];exact .inr hi)) fun _ ms X7=>hK _ _ fun i hi=>by
   rcases List.mem_append.1 hi with h|h
   ·exact hm i h
   ·exact X7 i h
theorem LL (hn:Rel none none){P:Program}{t:TypeId}{x:PV}{lo hi:Option PV}{K:PV->Option R}{K':PV->Option R'}(hf:(∃n e,P.underlying t=some (.array n e))->GO Rel f f' (Ak x)) (hK:∀c,Rel (K c) (K' c)):Rel (Uq P f t x lo hi K) (Uq P f' t x lo hi K'):=by
 unfold Uq;split
 ·exact Ef hn fun _=>Cy hn fun _=>Cy hn fun _=>Ao hn fun _=>hK _
 ·refine Ao hn fun _=>?_
  split
  ·exact Ao hn fun _=>Cy hn fun _=>Cy hn fun _=>Ao hn fun _=>hK _
  ·exact Ed hn fun _ _ _=>Cy hn fun _=>Cy hn fun _=>Ao hn fun _=>hK _
 ·rename_i n e hu;refine Ao hn fun _=>?_
  split
  ·rename_i id off;exact Tr hn (hf ⟨_,_,hu⟩) (by simp[Ak]) fun _ _=>Ao hn fun _=>Cy hn fun _=>Cy hn fun _=>Ao hn fun _=>hK _
  ·exact hn
 ·exact hn
theorem KF (hn:Rel none none){P:Program}{d:Nat}{t:TypeId}{x:PV}{lo hi mx:Option PV}{K:PV->List (Nat × A3)->Option R} {K':PV->List (Nat × A3)->Option R'} (hK:∀c,Rel (K c [(d,.ar false [])]) (K' c [(d,.ar false [])])):Rel (Pn P d t x lo hi mx K) (Pn P d t x lo hi mx K'):=by
 unfold Pn;split
 ·refine Ao hn fun _=>?_
  split
  ·exact Ao hn fun _=>Cy hn fun _=>Cy hn fun _=>Cy hn fun _=>Ao hn fun _=>hK _
  ·exact Ed hn fun _ _ _=>Cy hn fun _=>Cy hn fun _=>Cy hn fun _=>Ao hn fun _=>hK _
 ·exact hn
theorem CR {nz:Bool}{g g':Nat->Option (List PV)} (hn:Rel none none){P:Program}{t:TypeId}{x:PV}{K:PV->Option R}{K':PV->Option R'}(hf:∀i∈Ak x,(f i=f' i∧g i=g' i)∨(f i=none∧g i=none∧∀b,Rel none b)) (hK:∀c,Rel (K c) (K' c)):Rel (R3 nz P f g t x K) (R3 nz P f' g' t x K'):=by
 unfold R3;split
 ·rename_i id off;refine Ao hn fun _=>?_
  rcases hf id (by simp[Ak]) with⟨h1,h2⟩|⟨h1,h2,h3⟩
  ·rw[←h1,←h2];split
   ·exact Mb hn fun _=>Sh hn fun _=>hK _
   ·exact Ce hn fun _ _=>Kn hn fun _=>Sh hn hK
  ·rw[h1,h2];exact h3 _
 ·exact Ao hn fun _=>Mb hn fun _=>Sh hn fun _=>hK _
 ·exact hn
theorem SI (hn:Rel none none){P:Program}{d:Nat}{src dst:TypeId}{x:PV}{K:PV->List (Nat × A3)->Option R} {K':PV->List (Nat × A3)->Option R'} (hf:P.underlying dst=some .string->GO Rel f f' (Ak x)) (hK:∀v b,(∀q∈b,q.1=d)->Rel (K v b) (K' v b)):Rel (Yt P f d src dst x K) (Yt P f' d src dst x K'):=by
 unfold Yt;split
 ·exact Ao hn fun _=>C2 hn fun _ _=>hK _ _ (by simp)
 ·rename_i hds;split
  ·exact Ef hn fun _=>hK _ _ (by simp)
  ·split
   ·exact Ms hn (hf hds) fun _ _=>Ao hn fun _=>Ce hn fun _ _=>hK _ _ (by simp)
   ·exact Ms hn (hf hds) fun _ _=>Ao hn fun _=>Ce hn fun _ _=>hK _ _ (by simp)
   ·exact hn
  ·exact hn
 ·split
  ·exact Ef hn fun _=>Ao hn fun _=>hK _ _ (by simp)
  ·exact hn
 ·exact hn
theorem WZ (hn:Rel none none){shr:Bool}{id:Nat}{t:CT}{p:PV}{K:PV->List (Nat × A3)->Option R} {K':PV->List (Nat × A3)->Option R'} (hK:∀c b,(∀q∈b,q.1=id)->Rel (K c b) (K' c b)):Rel (ZC shr id t p K) (ZC shr id t p K'):=by
 unfold ZC;split
 ·cases shr
  ·exact QB hn fun _ _=>hK _ _ (by simp)
  ·exact Ed hn fun _ _ _=>hK _ _ (by simp)
 ·exact Lh hn fun _=>hK _ _ (by simp)
theorem P4 (hn:Rel none none){shr:Bool}{N:Nat}:∀{ts:List CT}{id:Nat}{ps:List PV}{K:List PV->List (Nat × A3)->Option R} {K':List PV->List (Nat × A3)->Option R'},(∀c b,(∀q∈b,∃j,q.1=id+N*j)->Rel (K c b) (K' c b))->Rel (Mf shr N id ts ps K) (Mf shr N id ts ps K')
 |[],_,_,_,_,hK=>D2 hn (hK _ _ (by simp))
 |_::_,id,_,_,_,hK=>Ax hn fun _ _ _=>WZ hn fun _ b hb=>P4 hn fun _ bs We=>hK _ _ fun q hq=>by
   rcases List.mem_append.1 hq with h|h
   ·exact⟨0,by rw[hb q h];simp⟩
   ·obtain⟨j,hj⟩:=We q h;exact⟨j+1,by rw[hj,Nat.mul_add];omega⟩
theorem WD (hn:Rel none none){P:Program}{shr:Bool}{N id:Nat}{t:TypeId}{p:PV}{K:PV->List (Nat × A3)->Option R} {K':PV->List (Nat × A3)->Option R'} (hK:∀c b,(∀q∈b,∃j,q.1=id+N*j)->Rel (K c b) (K' c b)):Rel (UR P shr N id t p K) (UR P shr N id t p K'):=by
 unfold UR;split
 ·refine TS hn fun ps=>P4 hn fun _ _ hb=>hK _ _ fun q hq=>?_
  rcases List.mem_cons.1 hq with rfl|hq
  ·exact⟨0,by simp⟩
  ·obtain⟨j,hj⟩:=hb q hq;exact⟨j+1,by rw[hj,Nat.mul_add];omega⟩
 cases Bc P t
 ·exact P4 hn fun _ _ hb=>Ax hn fun _ _ _=>D2 hn (hK _ _ hb)
 ·exact G7 hn fun _ _=>P4 hn fun _ _ hb=>hK _ _ hb
theorem U6 (hn:Rel none none){P:Program}{shr:Bool}{N:Nat}:∀{ts:List TypeId}{id:Nat}{ps:List PV}{K:List PV->List (Nat × A3)->Option R} {K':List PV->List (Nat × A3)->Option R'},(∀c b,(∀q∈b,∃j,q.1=id+N*j)->Rel (K c b) (K' c b))->Rel (Wc P shr N id ts ps K) (Wc P shr N id ts ps K')
 |[],_,_,_,_,hK=>D2 hn (hK _ _ (by simp))
 |t::_,id,_,_,_,hK=>Ax hn fun _ _ _=>WD hn fun _ b hb=>U6 hn fun _ bs We=>hK _ _ fun q hq=>by
   rcases List.mem_append.1 hq with h|h
   ·exact hb q h
   ·obtain⟨j,hj⟩:=We q h;exact⟨HW P t+j,by rw[hj,Nat.mul_add];omega⟩
end
theorem Pe {p:PV}{i:Nat}(h:i∈Ak p):i∈Bn p:=by cases p<;>first|exact h|simp[Ak] at h
theorem Eh {p:PV}{i:Nat}(h:i∈Bn p):i∈A9 p:=by cases p<;>first|exact h|simp[Bn,Ak] at h
theorem Ih {p:PV}{i:Nat}(h:i∈Ak p):i∈A9 p:=Eh (Pe h)
section
variable {R R':Type} {Rel:Option R->Option R'->Prop} {P:Program} {N:Nat} {tm tm':Nat->PV} {f f' g g':Nat->Option (List PV)} {o:Oper}
theorem Z0 (hn:Rel none none){t:TypeId}{x:Operand}{K:PV->Option R}{K':PV->Option R'}(hx:Bf tm x=Bf tm' x)(hK:∀p,Rel (K p) (K' p)):Rel (Vj P t tm x K) (Vj P t tm' x K'):=by
 unfold Vj;split
 ·exact PI hn (fun _ _=>hK _) (fun _=>hK _)
 ·rw[hx];exact hK _
theorem XC (hn:Rel none none){t:CT}{p:PV}{K:PV->Option R}{K':PV->Option R'}(hK:∀p,Ak p=[]->Rel (K p) (K' p)):Rel (Ug t p K) (Ug t p K'):=by
 unfold Ug;split
 ·exact Gi hn fun _=>hK _ rfl
 ·exact Fi hn fun _=>hK _ rfl
 ·exact Ef hn fun _=>hK _ rfl
 ·exact Ed hn fun _ _ _=>hK _ rfl
 ·exact PQ hn fun _=>hK _ rfl
theorem CG (hn:Rel none none):∀{ts:List CT}{cells:List PV}{off:Nat}{K:List PV->Option R}{K':List PV->Option R'},(∀c,(∀p∈c,Ak p=[])->Rel (K c) (K' c))->Rel (N8 ts cells off K) (N8 ts cells off K')
 |[],_,_,_,_,hK=>hK _ (by simp)
 |_::_,_,_,_,_,hK=>XC hn fun c hc=>CG hn fun cs P0=>hK _ (by
   intro p hp;rcases List.mem_cons.1 hp with h|h
   ·rw[h];exact hc
   ·exact P0 p h)
theorem Sq (hn:Rel none none){t:TypeId}{K:List PV->Option R}{K':List PV->Option R'}(hK:∀c,(∀p∈c,Ak p=[])->Rel (K c) (K' c)):Rel (Fu P t K) (Fu P t K'):=
 Ce hn fun _ _=>Ao hn fun _=>CG hn hK
theorem Og {p c:PV}(h:c∈cellsOf p){i:Nat}(hi:i∈Ak c):i∈Bn p:=by
 unfold cellsOf at h;split at h
 ·exact List.mem_flatMap.2 ⟨c,h,hi⟩
 ·simp at h;subst h;exact Pe hi
theorem LS {cells new:List PV}{off:Nat}{c:PV}(h:c∈Bd cells new off):c∈cells∨c∈new:=by
 unfold Bd at h;rcases List.mem_append.1 h with h|h
 ·rcases List.mem_append.1 h with h|h
  ·exact .inl (List.mem_of_mem_take h)
  ·exact .inr h
 ·exact .inl (List.mem_of_mem_drop h)
theorem X8 (hn:Rel none none){Fg:Nat->Option (Nat × Nat)} {S:Nat->Prop}:∀{ps:List (Nat × PV)} {cells:List PV}{K:List PV->Option R}{K':List PV->Option R'},(∀c∈cells,∀i∈Ak c,S i)->(∀q∈ps,∀i∈Bn q.2,S i) ->
  (∀cs,(∀c∈cs,∀i∈Ak c,S i)->Rel (K cs) (K' cs))->Rel (Pb Fg ps cells K) (Pb Fg ps cells K')
 |[],_,_,_,h1,_,hK=>hK _ h1
 |(_,p)::_,_,_,_,h1,h2,hK=>Ce hn fun _ _=>Ao hn fun _=>X8 hn (fun c hc i hi=>by
   rcases LS hc with h|h
   ·exact h1 c h i hi
   ·exact h2 (_,p) List.mem_cons_self i (Og h hi)) (fun q hq=>h2 q (List.mem_cons_of_mem _ hq)) hK
theorem Vp (hn:Rel none none):∀{ts:List CT}{ps:List PV}{K:List PV->List Nat->Option R}{K':List PV->List Nat->Option R'},(∀t∈ts,∀es,t ≠ .sl es)->(∀c,Rel (K c []) (K' c []))->Rel (Kb g ts ps K) (Kb g' ts ps K')
 |[],[],_,_,_,hK=>hK _
 |[],_::_,_,_,_,_=>hn
 |_::_,[],_,_,_,_=>hn
 |t::ts,p::ps,K,K',ht,hK=>by
  show Rel (Kz g t p _) (Kz g' t p _)
  have:∀{g:Nat->Option (List PV)} {S:Type} {L:PV->List Nat->Option S},Kz g t p L=Ug t p fun c=>L c []:=by
   intro g S L;cases t with
   |sl es=>exact absurd rfl (ht _ (by simp) es)
   |_=>rfl
  rw[this,this];exact Lh hn fun c=>Vp hn (fun t h=>ht t (by simp[h])) fun cs=>hK _
theorem YM (hn:Rel none none){es:Nat}{t:TypeId}{x:PV}{K:Nat->List PV->Option R}{K':Nat->List PV->Option R'}(hx:GO Rel g g' (Ak x)) (hK:∀m c,Rel (K m c) (K' m c)):Rel (MD P g es t x K) (MD P g' es t x K'):=by
 unfold MD;split
 ·exact Ao hn fun _=>Ef hn fun _=>hK _ _
 ·exact Ms hn hx hK
 ·exact hn
theorem Ab0 (hn:Rel none none){t:TypeId}{x:PV}{K:Nat->Option R}{K':Nat->Option R'}(hK:∀n,Rel (K n) (K' n)):Rel (RR P t x K) (RR P t x K'):=by
 unfold RR;split
 ·exact Ed hn fun _ _ _=>Ao hn fun _=>hK _
 ·exact hn
theorem IG (hn:Rel none none){d:Nat}{t tx:TypeId}{x:PV}{K:PV->List (Nat × A3)->Option R} {K':PV->List (Nat × A3)->Option R'} (hx:GO Rel g g' (Ak x)) (hK:∀v nw,Rel (K v nw) (K' v nw)):Rel (Pu P g d t tx x K) (Pu P g' d t tx x K'):=by
 unfold Pu;split
 ·exact Ao hn fun _=>YM hn hx fun _ _=>Ao hn fun _=>hK _ _
 ·exact hn
theorem X6 (hn:Rel none none){C:Fy}{call:Aj}{K:PV->List Nat->List (Nat × A3)->Option R} {K':PV->List Nat->List (Nat × A3)->Option R'}
  (Hi:∀x∈o.op.operands.toList,Bf tm x=Bf tm' x)
  (hfg:F3 P o.op=true->∀x∈o.op.operands.toList,∀i∈A9 (Bf tm' x),(f i=f' i∧g i=g' i)∨(f i=none∧g i=none∧∀b,Rel none b))
  (hK:∀v fz nw,(F3 P o.op=false->fz=[]∧∀q∈nw,o.dst=some q.1)->(∀i∈fz,g i≠none)->Rel (K v fz nw) (K' v fz nw)):
  Rel (X1 C P N call tm f g o K) (X1 C P N call tm' f' g' o K'):=by
 have h0:∀v,Rel (K v [] []) (K' v [] []):=fun v=>hK v [] [] (fun _=>⟨rfl,by simp⟩) (by simp)
 have hf:F3 P o.op=true->∀x∈o.op.operands.toList,GO Rel f f' (A9 (Bf tm' x)):=fun h x hx i hi=>(hfg h x hx i hi).imp (·.1) fun h=>⟨h.1,h.2.2⟩
 have hg:F3 P o.op=true->∀x∈o.op.operands.toList,GO Rel g g' (A9 (Bf tm' x)):=fun h x hx i hi=>(hfg h x hx i hi).imp (·.2) fun h=>⟨h.2.1,h.2.2⟩
 unfold X1;generalize QW:o.op=op at *
 split
 ·exact Z0 hn (Hi _ (by simp[Op.operands])) h0
 ·exact Z0 hn (Hi _ (by simp[Op.operands])) h0
 ·rename_i c x y;rw[Hi c (by simp[Op.operands]),Hi x (by simp[Op.operands]),Hi y (by simp[Op.operands])]
  exact Fi hn fun _=>Xa (h0 _) (h0 _)
 ·exact Ce hn fun d hd=>Oj hn fun _=>hK _ _ _ (fun _=>⟨rfl,by simp[hd]⟩) (by simp)
 ·rename_i t x;rw[Hi x (by simp[Op.operands])]
  refine Ce hn fun d hd=>Ao hn fun _=>?_
  cases M7 P t
  ·exact Kn hn fun _=>hK _ _ _ (fun _=>⟨rfl,by simp[hd]⟩) (by simp)
  ·exact Mb hn fun _=>hK _ _ _ (fun _=>⟨rfl,by simp[hd]⟩) (by simp)
 ·rename_i t ps
  have:(ps.toList.map fun q=>(q.1,Bf tm q.2))=ps.toList.map fun q=>(q.1,Bf tm' q.2):=by
   apply List.map_congr_left;intro q hq;rw[Hi q.2 (by simp only[Op.operands];exact List.mem_map_of_mem hq)]
  rw[this];exact Ao hn fun _=>Oj hn fun _=>Up hn fun _=>Kn hn fun _=>h0 _
 ·rename_i t n ps
  have:(ps.toList.map fun q=>(q.1,Bf tm q.2))=ps.toList.map fun q=>(q.1,Bf tm' q.2):=by
   apply List.map_congr_left;intro q hq;rw[Hi q.2 (by simp only[Op.operands];exact List.mem_map_of_mem hq)]
  rw[this];refine Ce hn fun d hd=>?_
  split
  ·rename_i e hu;cases HL:Ha P [e]
   ·refine Ao hn fun _=>Sq hn fun z hz=>Up hn fun cs=>Vp hn ?_ fun cs'=>hK _ _ _ (fun _=>⟨rfl,by simp[hd]⟩) (by simp)
    intro c hc es he;obtain⟨l,hl,hc⟩:=List.mem_flatten.1 hc;rw[List.eq_of_mem_replicate hl] at hc;subst he
    have:Ha P [e]=true:=by
     unfold Ha;simp only[List.any_cons,List.any_nil,Bool.or_false,Bool.or_eq_true];exact .inr (List.any_eq_true.2 ⟨_,hc,rfl⟩)
    rw[this] at HL;cases HL
   refine Ao hn fun _=>Sq hn fun z hz=>X8 (S:=fun i=>∃x∈(Op.buildSlice t n ps).operands.toList,i∈A9 (Bf tm' x)) hn ?_ ?_ fun cs P0=>?_
   ·intro c hc i hi;obtain⟨l,hl,hc⟩:=List.mem_flatten.1 hc;rw[List.eq_of_mem_replicate hl] at hc;rw[hz c hc] at hi;simp at hi
   ·intro q hq i hi;obtain⟨q',Em,rfl⟩:=List.mem_map.1 hq;exact⟨q'.2,by simp only[Op.operands];exact List.mem_map_of_mem Em,Eh hi⟩
   ·refine Px hn (fun i hi=>?_) fun cs' m hm=>hK _ _ _ (fun h=>by simp[F3,hu,HL] at h) hm
    obtain⟨c,hc,hi⟩:=List.mem_flatMap.1 hi;obtain⟨x,hx,hxi⟩:=P0 c hc i hi;exact hg (by simp[F3,hu,HL]) x hx i hxi
  ·exact hn
 ·rename_i t x;rw[Hi x (by simp[Op.operands])]
  exact CR hn (fun i hi=>hfg (by simp[F3]) x (by simp[Op.operands]) i (Ih hi)) h0
 ·rename_i x;rw[Hi x (by simp[Op.operands])]
  exact Uj hn h0
 ·rename_i op' t x y _;rw[Hi x (by simp[Op.operands]),Hi y (by simp[Op.operands])]
  exact JM hn h0
 ·rename_i op' t x;rw[Hi x (by simp[Op.operands])]
  exact Acx hn h0
 ·rename_i src dst x;rw[Hi x (by simp[Op.operands])]
  exact SI hn (fun hds i hi=>hg (by simp[F3,hds]) x (by simp[Op.operands]) i (Ih hi)) fun v b hb=>Ce hn fun d hd=>hK _ _ _ (fun _=>⟨rfl,fun q hq=>by rw[hd,hb q hq,hd];rfl⟩) (by simp)
 ·rename_i t x y;rw[Hi x (by simp[Op.operands]),Hi y (by simp[Op.operands])]
  refine Ce hn fun d hd=>?_
  split
  ·exact C2 hn fun _ _=>C2 hn fun _ _=>Ao hn fun _=>Oj hn fun _=>hK _ _ _ (fun _=>⟨rfl,by simp[hd]⟩) (by simp)
  ·exact hn
 ·rename_i t x lo hi mx;split
  ·rw[Hi x (by simp[Op.operands])]
   have h1:lo.map (Bf tm)=lo.map (Bf tm'):=by
    cases lo with
    |none=>rfl
    |some y=>simp only[Option.map_some];rw[Hi y (by simp[Op.operands])]
   have h2:hi.map (Bf tm)=hi.map (Bf tm'):=by
    cases hi with
    |none=>rfl
    |some y=>simp only[Option.map_some];rw[Hi y (by simp[Op.operands])]
   rw[h1,h2];exact LL hn (fun ⟨n,e,he⟩ i hi=>hf (by simp[F3,he]) x (by simp[Op.operands]) i (Ih hi)) h0
  ·rename_i m;rw[Hi x (by simp[Op.operands])]
   have h1:lo.map (Bf tm)=lo.map (Bf tm'):=by
    cases lo with
    |none=>rfl
    |some y=>simp only[Option.map_some];rw[Hi y (by simp[Op.operands])]
   have h2:hi.map (Bf tm)=hi.map (Bf tm'):=by
    cases hi with
    |none=>rfl
    |some y=>simp only[Option.map_some];rw[Hi y (by simp[Op.operands])]
   rw[h1,h2,Hi m (by simp[Op.operands])]
   exact Ce hn fun d hd=>KF hn fun c=>hK _ _ _ (fun _=>⟨rfl,by simp[hd]⟩) (by simp)
 ·rename_i t x fl;rw[Hi x (by simp[Op.operands])]
  exact Ce hn fun _ _=>Ao hn fun _=>Uj hn h0
 ·rename_i t x fl;rw[Hi x (by simp[Op.operands])]
  exact Ce hn fun _ _=>Ao hn fun _=>G7 hn fun _ _=>Kn hn fun _=>Sh hn h0
 ·rename_i t x i;rw[Hi x (by simp[Op.operands]),Hi i (by simp[Op.operands])]
  exact C2 hn fun _ _=>X4 hn h0
 ·rename_i t x i;rw[Hi x (by simp[Op.operands]),Hi i (by simp[Op.operands])]
  refine C2 hn fun _ _=>?_
  split
  ·exact Ef hn fun _=>Ao hn fun _=>Ce hn fun _ _=>h0 _
  ·exact G7 hn fun _ _=>Ao hn fun _=>Kn hn fun _=>Sh hn h0
  ·exact hn
 ·rename_i t x k ok;rw[Hi x (by simp[Op.operands]),Hi k (by simp[Op.operands])]
  split
  ·refine Ao hn fun _=>?_
   split
   ·exact Ef hn fun _=>Ce hn fun _ _=>PI hn (fun _ _=>Ao hn fun _=>h0 _) (fun _=>Ao hn fun _=>h0 _)
   ·exact hn
  ·exact hn
 ·rename_i x i;rw[Hi x (by simp[Op.operands])]
  split
  ·exact Ce hn fun _ _=>h0 _
  ·exact hn
 ·rename_i c
  have Ig:∀x∈c.args.toList,x∈(Op.call c).operands.toList:=by
   intro x hx;simp only[Op.operands,Call.operands,Array.toList_append,List.mem_append];exact .inr hx
  have rc:∀fn,F3 P (.call c)=true->Rel (Y5 C P N call tm g o c fn K) (Y5 C P N call tm' g' o c fn K'):=by
   intro fn VW;unfold Y5;have:c.args.toList.map (Bf tm)=c.args.toList.map (Bf tm'):=List.map_congr_left fun x hx=>Hi x (Ig x hx)
   rw[this];refine BZ hn (fun i hi=>?_) fun vs m hm=>BV hn fun rv ro=>D2 hn (Ao hn fun _=>U6 hn fun ws bs We=>Ao hn fun _=>hK _ _ _ (fun h=>by rw[VW] at h;cases h) (fun i hi=>?_))
   ·obtain⟨p,hp,hi⟩:=List.mem_flatMap.1 hi;obtain⟨x,hx,rfl⟩:=List.mem_map.1 hp;exact hg VW x (Ig x hx) i (Eh hi)
   ·have EJ:i∈m:=by
     cases hq:Ha P (J8 P o.type)<;>rw[hq] at hi
     ·simp at hi
     ·exact hi
    exact hm i EJ
  split
  ·refine Ax hn fun x _ hx=>Ax hn fun _ _ _=>?_
   rw[Hi x (Ig x (by rw[hx];simp))]
   exact YP hn fun _=>h0 _
  ·refine Ax hn fun x _ hx=>Ax hn fun _ _ _=>?_
   rw[Hi x (Ig x (by rw[hx];simp))]
   exact Ab0 hn fun _=>h0 _
  ·refine Ax hn fun x _ hx=>Ax hn fun y _ hy=>D2 hn ?_
   subst hy;rw[Hi x (Ig x (by rw[hx];simp)),Hi y (Ig y (by rw[hx];simp))]
   exact ZN hn h0
  ·refine Ax hn fun x _ hx=>Ax hn fun y _ hy=>D2 hn ?_
   subst hy;rw[Hi x (Ig x (by rw[hx];simp)),Hi y (Ig y (by rw[hx];simp))]
   exact WB hn h0
  ·rename_i hc;have VW:F3 P (.call c)=true:=by simp[F3,hc]
   refine Ao hn fun _=>Ce hn fun d hd=>Ax hn fun _ _ hb=>Ax hn fun x _ hx=>D2 hn (Ax hn fun _ _ _=>Ax hn fun _ _ _=>?_)
   have VE:x∈c.args.toList:=by rw[hb,hx];simp
   rw[Hi x (Ig x VE)];exact IG hn (fun i hi=>hg VW x (Ig x VE) i (Ih hi)) fun v nw=>hK _ _ _ (fun h=>by rw[VW] at h;cases h) (by simp)
  ·rename_i fn hc;have VW:F3 P (.call c)=true:=by simp[F3,hc]
   exact rc fn VW
  ·rename_i t hc;have VW:F3 P (.call c)=true:=by simp[F3,hc]
   have ht:=Hi (.tmp t) (by simp[Op.operands,Call.operands,hc])
   change tm t=tm' t at ht;rw[ht];exact Aee hn fun fn=>rc fn VW
  ·exact hn
 ·exact hn
variable {hp:Nat->Option A3}
end
open Go.RowKit
abbrev Pc:=PV × List Nat × List (Nat × A3)
def Fs (ops:Array Oper)(o:Oper)(tm:Nat->PV):Option Bool:=
 match o.guard with
 |none=>some true
 |some (j,want)=>
  match (ops[j]?).bind (·.dst) with
  |none=>none
  |some d=>
   match tm d with
   |.sc (.bool b)=>some (b==want)
   |.sc (.tuple _)=>some false
   |_=>none
section
variable {R:Type} {r:R} {C:Fy} {P:Program} {N:Nat} {call:Aj} {ops:Array Oper} {o x:Oper} {s:St} {K:St->Option R}
theorem FK:Cr C P N call ops o s K=match Fs ops o s.tm with
  |none=>none
  |some true=>JN C P N call o s K
  |some false=>Au (E6 N o.dst) (K ⟨A2 s.tm o.dst (.sc undef),s.hp⟩):=by
 unfold Cr Fs;cases o.guard with
 |none=>rfl
 |some q=>
  obtain⟨j,want⟩:=q;cases hd:(ops[j]?).bind (·.dst) with
  |none=>simp[hd]
  |some d=>
   simp only[hd];cases ht:s.tm d with
   |sc v=>
    cases v with
    |bool b=>
     cases b<;>cases want<;>simp only[Cg,cond_true,cond_false,R4 s.tm ht]<;>rfl
    |_=>rfl
   |_=>rfl
def SZ (C:Fy)(P:Program)(N:Nat)(call:Aj)(o:Oper)(s:St):Option Pc:=
 X1 C P N call s.tm (rd s.hp) (Hf s.hp) o fun v fz nw=>some (v,fz,nw)
theorem Ael {K:PV->List Nat->List (Nat × A3)->Option R}:X1 C P N call s.tm (rd s.hp) (Hf s.hp) o K=(SZ C P N call o s).bind fun q=>K q.1 q.2.1 q.2.2:=by
 refine X6 (Rel:=fun (a:Option R) (b:Option Pc)=>a=b.bind fun q=>K q.1 q.2.1 q.2.2) (K:=K) (K':=fun v fz nw=>some (v,fz,nw)) rfl (fun _ _=>rfl) (fun _ _ _ _ _=>.inl ⟨rfl,rfl⟩) fun v fz nw _ _=>rfl
theorem LU {q:Pc}(h:SZ C P N call o s=some q):(F3 P o.op=false->q.2.1=[]∧∀p∈q.2.2,o.dst=some p.1)∧∀i∈q.2.1,Hf s.hp i≠none:=by
 have:=X6 (C:=C) (P:=P) (N:=N) (call:=call) (o:=o) (tm:=s.tm) (tm':=s.tm) (f:=rd s.hp) (f':=rd s.hp) (g:=Hf s.hp) (g':=Hf s.hp)
  (Rel:=fun (a:Option Pc)(_:Option Pc)=>∀q,a=some q->(F3 P o.op=false->q.2.1=[]∧∀p∈q.2.2,o.dst=some p.1)∧∀i∈q.2.1,Hf s.hp i≠none)
  (K:=fun v fz nw=>some (v,fz,nw)) (K':=fun v fz nw=>some (v,fz,nw)) (fun _ h=>by cases h) (fun _ _=>rfl) (fun _ _ _ _ _=>.inl ⟨rfl,rfl⟩) (fun v fz nw h1 h2 q hq=>by cases hq;exact⟨h1,h2⟩)
 exact this q h
def gE (C:Fy)(P:Program)(N:Nat)(call:Aj)(ops:Array Oper)(o:Oper)(s:St):Option Pc:=
 match Fs ops o s.tm with
 |none=>none
 |some true=>bif Na C P o.op then none else SZ C P N call o s
 |some false=>some (.sc undef,[],[])
def Fm (C:Fy)(P:Program)(ops:Array Oper)(o:Oper)(tm:Nat->PV):Bool:=Na C P o.op&&(Fs ops o tm==some true)
theorem H3 (h:Fm C P ops o s.tm=false):Cr C P N call ops o s K=(gE C P N call ops o s).bind fun q=>U9 N s o.dst q.1 q.2.1 q.2.2 K:=by
 rw[FK];unfold gE;unfold Fm at h;cases hv:Fs ops o s.tm with
 |none=>rfl
 |some b=>
  rw[hv] at h;cases b with
  |false=>
   show Au _ _=U9 N s o.dst (.sc undef) [] [] K;unfold U9;have h1:A8 s.hp []=true:=rfl;have h2:Al (Ac s.hp []) []=s.hp:=rfl;rw[h1,h2,Bool.and_true]
  |true=>
   have hm:Na C P o.op=false:=by simpa using h
   simp only[JN,hm,cond_false];exact Ael
theorem Gq (h:Fm C P ops o s.tm=true):Cr C P N call ops o s K=Qg C P N call s o K:=by
 rw[FK];unfold Fm at h;simp only[Bool.and_eq_true,beq_iff_eq] at h;rw[h.2];simp only[JN,h.1,cond_true]
theorem Pg {q:Pc}(h:gE C P N call ops o s=some q):(F3 P o.op=false->q.2.1=[]∧∀p∈q.2.2,o.dst=some p.1)∧∀i∈q.2.1,Hf s.hp i≠none:=by
 unfold gE at h;split at h
 ·cases h
 ·cases hm:Na C P o.op<;>rw[hm] at h
  ·exact LU h
  ·cases h
 ·cases h;exact⟨fun _=>⟨rfl,by simp⟩,by simp⟩
theorem D8 {tm tm':Nat->PV}(h:∀t∈C3 ops o,tm t=tm' t):∀y∈o.op.operands.toList,Bf tm y=Bf tm' y:=by
 intro y hy;cases y with
 |tmp t=>
  refine h t ?_;unfold C3 Abq;refine List.mem_append.2 (.inl (List.mem_filterMap.2 ⟨.tmp t,hy,rfl⟩))
 |const v=>cases v<;>rfl
 |func f=>rfl
 |«global» g=>rfl
theorem Il {tm tm':Nat->PV}(h:∀t∈C3 ops o,tm t=tm' t):Fs ops o tm=Fs ops o tm':=by
 unfold Fs;cases hg:o.guard with
 |none=>rfl
 |some q=>
  obtain⟨j,want⟩:=q;cases hd:(ops[j]?).bind (·.dst) with
  |none=>simp[hd]
  |some d=>
   have:tm d=tm' d:=h d (by
    unfold C3;rw[hg];refine List.mem_append.2 (.inr ?_);simp only[hd];simp)
   simp only[hd,this]
theorem Te {s':St}{q:Pc}(ht:∀t∈C3 ops o,s.tm t=s'.tm t)
  (hm:F3 P o.op=true->∀y∈o.op.operands.toList,∀i∈A9 (Bf s'.tm y),(rd s.hp i=rd s'.hp i∧Hf s.hp i=Hf s'.hp i)∨(rd s.hp i=none∧Hf s.hp i=none))
  (h:gE C P N call ops o s=some q):gE C P N call ops o s'=some q:=by
 unfold gE at h ⊢;rw[←Il ht];split at h
 ·cases h
 ·cases hM:Na C P o.op<;>rw[hM] at h
  ·have:=X6 (C:=C) (P:=P) (N:=N) (call:=call) (o:=o) (tm:=s.tm) (tm':=s'.tm) (f:=rd s.hp) (f':=rd s'.hp) (g:=Hf s.hp) (g':=Hf s'.hp)
    (Rel:=fun (a b:Option Pc)=>a=some q->b=some q)
    (K:=fun v fz nw=>some (v,fz,nw)) (K':=fun v fz nw=>some (v,fz,nw)) (fun h=>h) (D8 ht)
    (fun Jv y hy i hi=>(hm Jv y hy i hi).imp id fun h=>⟨h.1,h.2,fun _ h=>by cases h⟩) (fun v fz nw _ _ h=>h)
   exact this h
  ·cases h
 ·exact h
end
open Go.RowKit
theorem Mh:∀{nw:List (Nat × A3)} {hp B4:Nat->Option A3},A8 hp nw=true->(∀i b,(i,b)∈nw->B4 i=none)->A8 B4 nw=true
 |[],_,_,_,_=>rfl
 |(i,b)::nw,hp,B4,h,h'=>by
  simp only[A8,Bool.and_eq_true,Option.isNone_iff_eq_none] at h ⊢;exact⟨⟨h' i b (by simp),h.1.2⟩,Mh h.2 fun j c hj=>h' j c (by simp[hj])⟩
section
variable {hp:Nat->Option A3} {fz:List Nat} {nw:List (Nat × A3)}
theorem Ev (ha:A8 hp nw=true){i:Nat}(hi:hp i≠none):Al (Ac hp fz) nw i=if i∈fz then (hp i).map Pa else hp i:=by
 obtain⟨h1,h2⟩:=Az ha;rw[(Df h2).2 i (fun bx hb=>hi (h1 i bx hb)),Ba]
theorem Gy (ha:A8 hp nw=true){i:Nat}{b:A3}(hi:(i,b)∈nw):Al (Ac hp fz) nw i=some b:=
 (Df (Az ha).2).1 i b hi
theorem Kh (ha:A8 hp nw=true){i:Nat}(hi:hp i=none)(hn:∀b,(i,b) ∉ nw):Al (Ac hp fz) nw i=none:=by
 rw[(Df (Az ha).2).2 i hn,Ba,hi];simp
theorem Kq (ha:A8 hp nw=true){i:Nat}(hi:hp i≠none):Al (Ac hp fz) nw i≠none:=by
 rw[Ev ha hi];cases h:hp i with
 |none=>exact absurd h hi
 |some b=>split<;>simp
theorem Ac9 (b:Option A3):(match b.map Pa with|some (.st c)=>some c|some (.ar _ c)=>some c|_=>none)=(match b with|some (.st c)=>some c|some (.ar _ c)=>some c|_=>none):=by
 cases b with
 |none=>rfl
 |some b=>cases b<;>rfl
theorem Aac (b:Option A3):(match b.map Pa with|some (.ar _ c)=>some c|_=>none)=(match b with|some (.ar _ c)=>some c|_=>none):=by
 cases b with
 |none=>rfl
 |some b=>cases b<;>rfl
theorem KJ (ha:A8 hp nw=true){i:Nat}(hi:hp i≠none):rd (Al (Ac hp fz) nw) i=rd hp i:=by
 unfold rd;rw[Ev ha hi];by_cases h:i∈fz
 ·rw[if_pos h];exact Ac9 _
 ·rw[if_neg h]
theorem CA (ha:A8 hp nw=true){i:Nat}(hi:hp i≠none):Hf (Al (Ac hp fz) nw) i=Hf hp i:=by
 unfold Hf;rw[Ev ha hi];by_cases h:i∈fz
 ·rw[if_pos h];exact Aac _
 ·rw[if_neg h]
theorem QK {i:Nat}(hi:hp i=none):rd hp i=none:=by unfold rd;rw[hi]
theorem Iq {i:Nat}(hi:hp i=none):Hf hp i=none:=by unfold Hf;rw[hi]
theorem Anf (b:Option A3):(b.map Pa).map Pa=b.map Pa:=by
 cases b with
 |none=>rfl
 |some b=>cases b<;>rfl
theorem NF {fx fo:List Nat}{nx no:List (Nat × A3)} (hx:A8 hp nx=true)(ho:A8 (Al (Ac hp fx) nx) no=true) (HI:A8 hp no=true)
  (Qp:A8 (Al (Ac hp fo) no) nx=true) (h1:∀i∈fx,hp i≠none)(h2:∀i∈fo,hp i≠none):
  Al (Ac (Al (Ac hp fx) nx) fo) no=Al (Ac (Al (Ac hp fo) no) fx) nx:=by
 funext i
 by_cases hi:hp i=none
 ·by_cases KW:∃b,(i,b)∈no
  ·obtain⟨b,hb⟩:=KW
   have hnx:∀b',(i,b') ∉ nx:=fun b' F8=>by
    have:=(Az ho).1 i b hb;rw[Gy hx F8] at this;cases this
   rw[Gy ho hb,Ev Qp (by rw[Gy HI hb];simp),Gy HI hb,if_neg (fun h=>h1 i h hi)]
  ·have KW:∀b,(i,b) ∉ no:=fun b hb=>KW ⟨b,hb⟩
   by_cases hnx:∃b,(i,b)∈nx
   ·obtain⟨b,hb⟩:=hnx;rw[Gy Qp hb,Ev ho (by rw[Gy hx hb];simp),Gy hx hb,if_neg (fun h=>h2 i h hi)]
   ·have hnx:∀b,(i,b) ∉ nx:=fun b hb=>hnx ⟨b,hb⟩
    rw[Kh ho (Kh hx hi hnx) KW,Kh Qp (Kh HI hi KW) hnx]
 ·rw[Ev ho (Kq hx hi),Ev hx hi,Ev Qp (Kq HI hi),Ev HI hi];split<;>split<;>first|rfl|rw[Anf]
end
section
variable {R:Type} {r:R} {C:Fy} {P:Program} {N:Nat} {call:Aj} {ops:Array Oper} {o x:Oper} {s:St} {K:St->Option R}
structure Sp (C:Fy) (P:Program) (ops:Array Oper) (x o:Oper):Prop where
 xo:∀d,x.dst=some d->d ∉ C3 ops o
 ne:∀d,x.dst=some d->o.dst≠some d
 ox:∀d,o.dst=some d->d ∉ C3 ops x
 mx:Na C P x.op=true->F3 P o.op=false
 mo:Na C P o.op=true->F3 P x.op=false
theorem Nq {l:List Nat}{d:Nat}(h:l.any (Nat.beq d)=false):d ∉ l:=by
 intro hm;have:l.any (Nat.beq d)=true:=List.any_eq_true.2 ⟨d,hm,Nat.beq_refl d⟩;rw[this] at h;cases h
theorem ZL (h:Yj C P ops x o=false):Sp C P ops x o:=by
 unfold Yj at h;simp only[Bool.or_eq_false_iff,Bool.and_eq_false_iff] at h;obtain⟨⟨⟨h1,h2⟩,h3⟩,h4⟩:=h;refine⟨fun d hd=>?_,fun d hd he=>?_,fun d hd=>?_,fun hm=>?_,fun hm=>?_⟩
 ·simp only[hd,Bool.or_eq_false_iff] at h1;exact Nq h1.1
 ·simp only[hd,he,Bool.or_eq_false_iff] at h1;rw[Nat.beq_refl] at h1;cases h1.2
 ·simp only[hd] at h2;exact Nq h2
 ·rw[hm] at h3;rcases h3 with h|h
  ·cases h
  ·exact h
 ·rw[hm] at h4;rcases h4 with h|h
  ·cases h
  ·exact h
theorem Do {tm:Nat->PV}{d:Option Tmp}{v:PV}{l:List Nat}(h:∀i,d=some i->i ∉ l):∀t∈l,A2 tm d v t=tm t:=by
 intro t ht;cases d with
 |none=>rfl
 |some d=>exact Ad _ _ (by rintro rfl;exact h _ rfl ht)
theorem H5 {tm:Nat->PV}{d e:Option Tmp}{u v:PV}(h:∀i,d=some i->e≠some i):A2 (A2 tm d u) e v=A2 (A2 tm e v) d u:=by
 cases d with
 |none=>rfl
 |some d=>
  cases e with
  |none=>rfl
  |some e=>exact JX _ _ _ (by rintro rfl;exact h _ rfl rfl)
def LG (C:Fy)(P:Program)(o:Oper)(s:St):Prop:=(∀y∈o.op.operands.toList,∀i∈A9 (Bf s.tm y),s.hp i≠none) ∧
 (Na C P o.op=true->J9 o.op=false->∀y∈o.op.operands.toList,∀i∈A9 (Bf s.tm y),∀c,s.hp i=some (.st c)->∀p∈c,∀k∈Ak p,s.hp k≠none)
theorem Fz {tm tm':Nat->PV}(h:∀t∈C3 ops o,tm t=tm' t):Fm C P ops o tm=Fm C P ops o tm':=by
 unfold Fm;rw[Il h]
theorem QF (hw:LG C P o s)(xo:∀d,x.dst=some d->d ∉ C3 ops o)(ne:∀d,x.dst=some d->o.dst≠some d)(ox:∀d,o.dst=some d->d ∉ C3 ops x)(hx:Fm C P ops x s.tm=false)(ho:Fm C P ops o s.tm=false)
  (h:Cr C P N call ops x s (fun s1=>Cr C P N call ops o s1 K)=some r):Cr C P N call ops o s (fun s1=>Cr C P N call ops x s1 K)=some r:=by
 rw[H3 hx] at h;cases ex:gE C P N call ops x s with
 |none=>rw[ex] at h;cases h
 |some q=>
 obtain⟨vx,fx,nx⟩:=q;rw[ex] at h;obtain⟨hb,h1⟩:=Ag h;simp only[Bool.and_eq_true] at hb;have t1:∀t∈C3 ops o,A2 s.tm x.dst vx t=s.tm t:=Do xo;change Cr C P N call ops o ⟨A2 s.tm x.dst vx,Al (Ac s.hp fx) nx⟩ K=some r at h1;rw[H3 (by rw[Fz t1];exact ho)] at h1
 cases eo:gE C P N call ops o ⟨A2 s.tm x.dst vx,Al (Ac s.hp fx) nx⟩ with
 |none=>rw[eo] at h1;cases h1
 |some q=>
 obtain⟨vo,fo,no⟩:=q;rw[eo] at h1;obtain⟨hc,h2⟩:=Ag h1;change K ⟨A2 (A2 s.tm x.dst vx) o.dst vo,Al (Ac (Al (Ac s.hp fx) nx) fo) no⟩=some r at h2;simp only[Bool.and_eq_true] at hc
 have eo':gE C P N call ops o s=some (vo,fo,no):=by
  refine Te t1 (fun _ y hy i hi=>?_) eo
  have:=hw.1 y hy i hi;exact .inl ⟨KJ hb.2 this,CA hb.2 this⟩
 have HI:A8 s.hp no=true:=Mh hc.2 fun i b hi=>by
  cases hs:s.hp i with
  |none=>rfl
  |some c=>exact absurd ((Az hc.2).1 i b hi) (Kq hb.2 (by rw[hs];simp))
 rw[H3 ho,eo']
 have Qp:A8 (Al (Ac s.hp fo) no) nx=true:=Mh hb.2 fun i b hi=>by
  refine Kh HI ((Az hb.2).1 i b hi) fun c Nf=>?_
  have:=(Az hc.2).1 i c Nf;rw[Gy hb.2 hi] at this;cases this
 have t2:∀t∈C3 ops x,s.tm t=A2 s.tm o.dst vo t:=fun t ht=>(Do ox t ht).symm
 have ex':gE C P N call ops x ⟨A2 s.tm o.dst vo,Al (Ac s.hp fo) no⟩=some (vx,fx,nx):=by
  refine Te t2 (fun _ y hy i hi=>?_) ex
  by_cases hs:s.hp i=none
  ·exact .inr ⟨QK hs,Iq hs⟩
  ·exact .inl ⟨(KJ HI hs).symm,(CA HI hs).symm⟩
 show Au _ _=_;rw[hc.1,HI];show Cr C P N call ops x ⟨A2 s.tm o.dst vo,Al (Ac s.hp fo) no⟩ K=some r;rw[H3 (by rw[←Fz t2];exact hx),ex']
 show Au _ _=_;rw[hb.1,Qp];rw[←h2];have hfx:∀i∈fx,s.hp i≠none:=fun i hi hs=>(Pg ex).2 i hi (Iq hs)
 have hfo:∀i∈fo,s.hp i≠none:=fun i hi hs=>(Pg eo').2 i hi (Iq hs)
 show K ⟨A2 (A2 s.tm o.dst vo) x.dst vx,Al (Ac (Al (Ac s.hp fo) no) fx) nx⟩=K _;rw[H5 ne,NF hb.2 hc.2 HI Qp hfx hfo]
end
open Go.RowKit
theorem Sf {C:Fy}{P:Program}{o:Op}(h:Na C P o=true):F3 P o=true:=by
 unfold Na at h;split at h
 ·rfl
 ·rename_i c;unfold F3;simp only;split at h<;>rename_i hc
  ·rw[hc]
  ·rw[hc]
  ·cases h
  ·rw[hc]
  ·cases h
 ·cases h
structure AN (N:Nat) (S:Nat->Prop) (dst:Option Nat) (hp Cu B4 D6:Nat->Option A3):Prop where
 keep:∀i,hp i≠none->B4 i≠none
 off:∀i,i<N->dst≠some i->(¬S i∨hp i=none)->B4 i=hp i∧D6 i=Cu i
 same:∀i,hp i=Cu i->B4 i=D6 i
 far:∀i,¬S i->hp i≠none->B4 i=hp i
section
variable {R R':Type} {Rel:Option R->Option R'->Prop} {P:Program} {N:Nat} {tm tm':Nat->PV} {hp Cu:Nat->Option A3} {f f':Nat->Option (List PV)} {o:Oper}
theorem DL (hn:Rel none none){t:CT}{p:PV}{K:PV->List Nat->Option R}{K':PV->List Nat->Option R'}(hf:GO Rel f f' (Ak p)) (hK:∀c m,(∀i∈m,f i≠none∧i∈Ak p)->Rel (K c m) (K' c m)):Rel (Kz f t p K) (Kz f' t p K'):=by
 unfold Kz;split
 ·split
  ·rename_i id es' off n;cases Nat.beq es' _
   ·exact hn
   ·exact Tr hn hf (by simp[Ak]) fun c hc=>Ao hn fun _=>hK _ _ (by simp[hc,Ak])
  ·exact Ed hn fun _ _ _=>hK _ _ (by simp)
 ·exact Lh hn fun _=>hK _ _ (by simp)
theorem Yd (hn:Rel none none):∀{ts:List CT}{ps:List PV}{K:List PV->List Nat->Option R}{K':List PV->List Nat->Option R'},GO Rel f f' (ps.flatMap Ak)->(∀c m,(∀i∈m,f i≠none∧i∈ps.flatMap Ak)->Rel (K c m) (K' c m))->Rel (Kb f ts ps K) (Kb f' ts ps K')
 |[],[],_,_,_,hK=>hK _ _ (by simp)
 |[],_::_,_,_,_,_=>hn
 |_::_,[],_,_,_,_=>hn
 |_::_,p::ps,_,_,hf,hK=>DL hn (fun i hi=>hf i (by simp only[List.flatMap_cons,List.mem_append];exact .inl hi)) fun _ m hm=>Yd hn (fun i hi=>hf i (by simp only[List.flatMap_cons,List.mem_append];exact .inr hi)) fun _ ms X7=>hK _ _ fun i hi=>by
   simp only[List.flatMap_cons,List.mem_append];rcases List.mem_append.1 hi with h|h
   ·exact⟨(hm i h).1,.inl (hm i h).2⟩
   ·exact⟨(X7 i h).1,.inr (X7 i h).2⟩
theorem P1 {S:Nat->Prop}{dst:Option Nat}{id:Nat}{b:A3}{h0 h1:Nat->Option A3}(hS:S id)(hid:hp id≠none)(h:AN N S dst hp Cu h0 h1):AN N S dst hp Cu (Bu h0 id (some b)) (Bu h1 id (some b)):=by
 refine⟨fun i hi=>?_,fun i hN hd hi=>?_,fun i hi=>?_,fun i hn hi=>?_⟩
 ·by_cases e:i=id
  ·subst e;rw[Ah];simp
  ·rw[Ad _ _ e];exact h.keep i hi
 ·have e:i≠id:=by
   rintro rfl
   rcases hi with hi|hi
   ·exact hi hS
   ·exact hid hi
  rw[Ad _ _ e,Ad _ _ e];exact h.off i hN hd hi
 ·by_cases e:i=id
  ·subst e;rw[Ah,Ah]
  ·rw[Ad _ _ e,Ad _ _ e];exact h.same i hi
 ·rw[Ad _ _ (by rintro rfl;exact hn hS)];exact h.far i hn hi
theorem GF {S:Nat->Prop}{d:Nat}{b:A3}{h0 h1:Nat->Option A3}(hz:hp d=none)(h:AN N S (some d) hp Cu h0 h1):AN N S (some d) hp Cu (Bu h0 d (some b)) (Bu h1 d (some b)):=by
 refine⟨fun i hi=>?_,fun i hN hd hi=>?_,fun i hi=>?_,fun i hn hi=>?_⟩
 ·by_cases e:i=d
  ·subst e;rw[Ah];simp
  ·rw[Ad _ _ e];exact h.keep i hi
 ·have e:i≠d:=by rintro rfl;exact hd rfl
  rw[Ad _ _ e,Ad _ _ e];exact h.off i hN hd hi
 ·by_cases e:i=d
  ·subst e;rw[Ah,Ah]
  ·rw[Ad _ _ e,Ad _ _ e];exact h.same i hi
 ·rw[Ad _ _ (by rintro rfl;exact hi hz)];exact h.far i hn hi
theorem O1 (S:Nat->Prop)(dst:Option Nat):AN N S dst hp Cu hp Cu:=⟨fun _ h=>h,fun _ _ _ _=>⟨rfl,rfl⟩,fun _ h=>h,fun _ _ _=>rfl⟩
theorem LR {S:Nat->Prop}{dst:Option Nat}{m:List Nat}(hm:∀i∈m,hp i≠none∧S i):AN N S dst hp Cu (Ac hp m) (Ac Cu m):=by
 refine⟨fun i hi=>fun h=>hi (C5.1 h),fun i hN hd hi=>?_,fun i hi=>?_,fun i hn hi=>?_⟩
 ·have e:i ∉ m:=by
   intro h;rcases hi with hi|hi
   ·exact hi (hm i h).2
   ·exact (hm i h).1 hi
  rw[Ba,Ba,if_neg e,if_neg e];exact⟨rfl,rfl⟩
 ·rw[Ba,Ba,hi]
 ·rw[Ba,if_neg (fun h=>hn (hm i h).2)]
theorem EM {S:Nat->Prop}(h:∀i,S i->hp i=Cu i∨(hp i=none∧∀b,Rel none b)) {l:List Nat}(hl:∀i∈l,S i):GO Rel (Hf hp) (Hf Cu) l:=by
 intro i hi;rcases h i (hl i hi) with h|⟨h,h'⟩
 ·left;unfold Hf;rw[h]
 ·exact .inr ⟨Iq h,h'⟩
theorem KY (hn:Rel none none){t:TypeId}{a x:PV}{K:St->Option R}{K':St->Option R'}{S:Nat->Prop}(hS:∀i,S i->hp i=Cu i∨(hp i=none∧∀b,Rel none b)) (ha:∀i∈Ak a,S i)(hx:∀i∈Bn x,S i)
  (hK:∀B4 D6,AN N S none hp Cu B4 D6->Rel (K ⟨tm,B4⟩) (K' ⟨tm',D6⟩)):Rel (Uh P ⟨tm,hp⟩ t a x K) (Uh P ⟨tm',Cu⟩ t a x K'):=by
 unfold Uh;split
 ·rename_i id off;show Rel (match hp id with|some (.st c)=>_|some (.ar false c)=>_|_=>none) (match Cu id with|some (.st c)=>_|some (.ar false c)=>_|_=>none)
  have hid:S id:=ha id (by simp[Ak])
  rcases hS id hid with h|⟨h,hb⟩
  ·rw[←h];split
   ·rename_i c hc;exact Ao hn fun _=>Kn hn fun _=>hK _ _ (P1 hid (by rw[hc];simp) (O1 _ _))
   ·rename_i c hc;refine Ao hn fun _=>Yd hn (EM hS fun i hi=>hx i ?_) fun _ m hm=>Ao hn fun _=>hK _ _ (P1 hid (by rw[hc];simp) (LR fun i hi=>⟨fun h=>(hm i hi).1 (Iq h),hx i ?_⟩))
    ·obtain⟨c,hc,hi⟩:=List.mem_flatMap.1 hi;exact Og hc hi
    ·obtain⟨c,hc,hi⟩:=List.mem_flatMap.1 (hm i hi).2;exact Og hc hi
   ·exact hn
  ·rw[h];exact hb _
 ·exact hn
theorem U5 (hn:Rel none none){es:Nat}{t:TypeId}{x:PV}{K:Nat->List PV->Option R}{K':Nat->List PV->Option R'}{S:Nat->Prop}(hS:∀i,S i->hp i=Cu i∨(hp i=none∧∀b,Rel none b)) (hx:∀i∈Bn x,S i)(hK:∀m c,Rel (K m c) (K' m c)):Rel (OD P ⟨tm,hp⟩ es t x K) (OD P ⟨tm',Cu⟩ es t x K'):=by
 unfold OD MD;split
 ·exact Ao hn fun _=>Ef hn fun _=>hK _ _
 ·exact Ms hn (EM hS fun i hi=>hx i (Pe hi)) hK
 ·exact hn
theorem R7 (hn:Rel none none){d:Nat}{t tx:TypeId}{b x:PV}{K:St->Option R}{K':St->Option R'}{S:Nat->Prop}(hS:∀i,S i->hp i=Cu i∨(hp i=none∧∀b,Rel none b)) (VQ:hp d=Cu d)(hb:∀i∈Bn b,S i)(hx:∀i∈Bn x,S i)
  (hK:∀v B4 D6,(∀M,AN M S (some d) hp Cu B4 D6)->Rel (K ⟨Bu tm d v,B4⟩) (K' ⟨Bu tm' d v,D6⟩)):Rel (La P N ⟨tm,hp⟩ d t tx b x K) (La P N ⟨tm',Cu⟩ d t tx b x K'):=by
 unfold La;split
 ·refine Ao hn fun _=>?_
  cases Sb P tx
  rotate_left
  ·show Rel (O5 P N ⟨tm,hp⟩ d _ b x K) (O5 P N ⟨tm',Cu⟩ d _ b x K');refine C2 hn fun _ n=>Ed hn fun z _ _=>?_
   show Rel (Au (z&&Nat.blt d N&&(hp d).isNone&&_&&_&&_) _) (Au (z&&Nat.blt d N&&(Cu d).isNone&&_&&_&&_) _);rw[←VQ];exact Ao hn fun hb=>hK _ _ _ (fun M=>GF (by simp only[Bool.and_eq_true,Option.isNone_iff_eq_none] at hb;simp only[hb]) (O1 _ _))
  rw[cond_false,cond_false];refine U5 hn hS hx fun m new=>?_
  split
  ·rename_i id es off n;show Rel (match hp id with|some (.ar false c)=>Au (Nat.beq es _&&Nat.beq off 0&&Nat.blt d N&&(hp d).isNone&&_&&_&&_&&_) _|_=>none) (match Cu id with|some (.ar false c)=>Au (Nat.beq es _&&Nat.beq off 0&&Nat.blt d N&&(Cu d).isNone&&_&&_&&_&&_) _|_=>none)
   have hid:S id:=hb id (by simp[Bn,Ak])
   rw[←VQ];rcases hS id hid with h|⟨h,hbb⟩
   ·rw[←h];split
    ·rename_i c hc;exact Ao hn fun hb=>hK _ _ _ (fun M=>GF (by simp only[Bool.and_eq_true,Option.isNone_iff_eq_none] at hb;simp only[hb]) (P1 hid (by rw[hc];simp) (O1 _ _)))
    ·exact hn
   ·rw[h];exact hbb _
  ·refine Ed hn fun z _ _=>?_
   show Rel (Au (z&&Nat.blt d N&&(hp d).isNone&&_&&_&&_) _) (Au (z&&Nat.blt d N&&(Cu d).isNone&&_&&_&&_) _);rw[←VQ];exact Ao hn fun hb=>hK _ _ _ (fun M=>GF (by simp only[Bool.and_eq_true,Option.isNone_iff_eq_none] at hb;simp only[hb]) (O1 _ _))
 ·exact hn
theorem LZ (hn:Rel none none){d:Option Tmp}{t tx:TypeId}{b x:PV}{K:St->Option R}{K':St->Option R'}{S:Nat->Prop}(hS:∀i,S i->hp i=Cu i∨(hp i=none∧∀b,Rel none b)) (hb:∀i∈Bn b,S i)(hx:∀i∈Bn x,S i)
  (hK:∀v B4 D6,AN N S d hp Cu B4 D6->Rel (K ⟨A2 tm d v,B4⟩) (K' ⟨A2 tm' d v,D6⟩)):Rel (CU P N ⟨tm,hp⟩ d t tx b x K) (CU P N ⟨tm',Cu⟩ d t tx b x K'):=by
 unfold CU;split
 ·refine Ao hn fun _=>?_
  refine U5 hn hS hx fun m new=>?_
  split
  ·rename_i id es off n;show Rel (match hp id with|some (.ar false c)=>Au (Nat.beq es _&&_&&_) _|_=>none) (match Cu id with|some (.ar false c)=>Au (Nat.beq es _&&_&&_) _|_=>none)
   have hid:S id:=hb id (by simp[Bn,Ak])
   rcases hS id hid with h|⟨h,hbb⟩
   ·rw[←h];split
    ·rename_i c hc;exact Ao hn fun _=>hK _ _ _ (P1 hid (by rw[hc];simp) (O1 _ _))
    ·exact hn
   ·rw[h];exact hbb _
  ·exact hn
 ·exact hn
def Agi (o:Oper)(tm:Nat->PV)(i:Nat):Prop:=∃x∈o.op.operands.toList,i∈A9 (Bf tm x)
def Rw (o:Oper)(tm:Nat->PV)(hp:Nat->Option A3)(i:Nat):Prop:=Agi o tm i∨J9 o.op=false∧∃id c,Agi o tm id∧hp id=some (.st c)∧∃p∈c,i∈Ak p
theorem UX (hn:Rel none none){mv:Bool}{t:CT}{p:PV}{K:PV->List Nat->List Nat->Option R}{K':PV->List Nat->List Nat->Option R'}{S:Nat->Prop}(hS:∀i,S i->hp i=Cu i∨(hp i=none∧∀b,Rel none b)) (hp_:∀i∈Ak p,S i)
  (hK:∀c m x,(∀i∈m++x,hp i≠none∧S i)->Rel (K c m x) (K' c m x)):Rel (SO mv hp t p K) (SO mv Cu t p K'):=by
 have frz:∀{t:CT} {p:PV},(∀i∈Ak p,S i)->Rel (Kz (Hf hp) t p fun c m=>K c m []) (Kz (Hf Cu) t p fun c m=>K' c m []):=fun h=>DL hn (EM hS h) fun c m hm=>hK _ _ _ fun i hi=>by
  rw[List.append_nil] at hi;exact⟨fun e=>(hm i hi).1 (Iq e),h i (hm i hi).2⟩
 unfold SO;split
 ·rename_i es;cases mv<;>simp only[cond_true,cond_false]
  ·exact frz hp_
  ·split
   ·rename_i id es' off n;rcases hS id (hp_ id (by simp[Ak])) with h|⟨h,hb⟩
    ·rw[←h];split
     ·rename_i c hc;cases (Nat.beq es' es&&Nat.beq off 0)<;>simp only[cond_true,cond_false]
      ·exact frz hp_
      ·exact Ao hn fun _=>hK _ _ _ fun i hi=>by
        simp only[List.nil_append,List.mem_singleton] at hi;subst hi;exact⟨by rw[hc];simp,hp_ i (by simp[Ak])⟩
     ·exact frz hp_
    ·rw[h]
     have:(Kz (Hf hp) (.sl es) (.view id es' off n) fun c m=>K c m [])=none:=by
      unfold Kz;simp only;cases Nat.beq es' es
      ·rfl
      ·simp only[cond_true,Iq h,C7]
     show Rel (Kz (Hf hp) (.sl es) (.view id es' off n) fun c m=>K c m []) _
     rw[this];exact hb _
   ·refine Ed hn fun z n c=>?_
    cases z
    ·exact hK _ _ _ (by simp)
    ·exact hK _ _ _ (by simp)
 ·exact Lh hn fun _=>hK _ _ _ (by simp)
theorem Nb (hn:Rel none none){mv:Bool}{S:Nat->Prop}(hS:∀i,S i->hp i=Cu i∨(hp i=none∧∀b,Rel none b)):∀{ts:List CT}{ps:List PV}{K:List PV->List Nat->List Nat->Option R}{K':List PV->List Nat->List Nat->Option R'},(∀p∈ps,∀i∈Ak p,S i) ->
  (∀c m x,(∀i∈m++x,hp i≠none∧S i)->Rel (K c m x) (K' c m x))->Rel (Wb mv hp ts ps K) (Wb mv Cu ts ps K')
 |[],[],_,_,_,hK=>hK _ _ _ (by simp)
 |[],_::_,_,_,_,_=>hn
 |_::_,[],_,_,_,_=>hn
 |_::_,p::ps,_,_,hp_,hK=>UX hn hS (hp_ p (by simp)) fun _ m x hm=>Nb hn hS (fun q hq=>hp_ q (by simp[hq])) fun _ ms xs X7=>hK _ _ _ fun i hi=>by
   simp only[List.mem_append] at hi hm X7;rcases hi with (hi|hi)|(hi|hi)
   ·exact hm i (.inl hi)
   ·exact X7 i (.inl hi)
   ·exact hm i (.inr hi)
   ·exact X7 i (.inr hi)
theorem HB (hn:Rel none none){C:Fy}{f:FuncId}{i:Nat}{t:TypeId}{p:PV}{K:PV->List Nat->List Nat->List Fk->Option R}{K':PV->List Nat->List Nat->List Fk->Option R'}{S:Nat->Prop}(hS:∀i,S i->hp i=Cu i∨(hp i=none∧∀b,Rel none b))
  (hp_:∀i∈A9 p,S i)(hc:∀i∈A9 p,∀c,Cu i=some (.st c)->∀q∈c,∀k∈Ak q,S k)
  (hK:∀v m x l,(∀i∈m++x++l.flatMap Fk.ids,hp i≠none∧S i)->Rel (K v m x l) (K' v m x l)):Rel (Us C P f hp i t p K) (Us C P f Cu i t p K'):=by
 unfold Us;split
 ·split
  ·rename_i id off;have hid:S id:=hp_ id (by simp[A9,Bn,Ak])
   rcases hS id hid with h|⟨h,hb⟩
   ·rw[h];split
    ·rename_i c Z5;refine Ao hn fun _=>Nb hn hS (fun q hq k hk=>hc id (by simp[A9,Bn,Ak]) c Z5 q (List.mem_of_mem_drop (List.mem_of_mem_take hq)) k hk) fun cs m x hm=>hK _ _ _ _ fun k hk=>?_
     rcases List.mem_append.1 hk with hk|hk
     ·exact hm k hk
     ·simp only[List.flatMap_cons,List.flatMap_nil,Fk.ids,List.append_nil,List.mem_singleton] at hk;subst hk;exact⟨by rw[h,Z5];simp,hid⟩
    ·exact hn
   ·rw[h];exact hb _
  ·exact hn
 ·cases C.lnd f i
  ·cases Bc P t
   ·exact Nb hn hS (fun q hq k hk=>by
     simp at hq;subst hq;exact hp_ k (Ih hk)) fun cs m x hm=>Ax hn fun _ _ _=>D2 hn (hK _ _ _ _ (by simpa using hm))
   ·refine G7 hn fun cs P0=>Nb hn hS (fun q hq k hk=>hp_ k ?_) fun cs m x hm=>hK _ _ _ _ (by simpa using hm)
    subst P0;exact List.mem_flatMap.2 ⟨q,hq,hk⟩
  ·refine Ce hn fun e he=>?_
   unfold Abc;split
   ·rename_i id es' off n;have hid:S id:=hp_ id (by simp[A9,Bn,Ak])
    rcases hS id hid with h|⟨h,hb⟩
    ·rw[h];split
     ·rename_i c Z5;refine Ao hn fun _=>hK _ _ _ _ fun k hk=>?_
      simp only[List.nil_append,List.flatMap_cons,List.flatMap_nil,Fk.ids,List.append_nil,List.mem_singleton] at hk;subst hk;exact⟨by rw[h,Z5];simp,hid⟩
     ·exact hn
    ·rw[h];exact hb _
   ·exact Ed hn fun _ _ _=>Ao hn fun _=>hK _ _ _ _ (by simp[Fk.ids])
theorem Zl (hn:Rel none none){C:Fy}{f:FuncId}{S:Nat->Prop}(hS:∀i,S i->hp i=Cu i∨(hp i=none∧∀b,Rel none b)):∀{ts:List TypeId}{ps:List PV}{i:Nat}{K:List PV->List Nat->List Nat->List Fk->Option R}{K':List PV->List Nat->List Nat->List Fk->Option R'},
  (∀p∈ps,∀i∈A9 p,S i)->(∀p∈ps,∀i∈A9 p,∀c,Cu i=some (.st c)->∀q∈c,∀k∈Ak q,S k) ->
  (∀v m x l,(∀i∈m++x++l.flatMap Fk.ids,hp i≠none∧S i)->Rel (K v m x l) (K' v m x l))->Rel (CS C P f hp i ts ps K) (CS C P f Cu i ts ps K')
 |[],[],_,_,_,_,_,hK=>hK _ _ _ _ (by simp)
 |[],_::_,_,_,_,_,_,_=>hn
 |_::_,[],_,_,_,_,_,_=>hn
 |_::_,p::ps,_,_,_,hp_,hc,hK=>HB hn hS (hp_ p (by simp)) (hc p (by simp)) fun _ m x l hm=>Zl hn hS (fun q hq=>hp_ q (by simp[hq])) (fun q hq=>hc q (by simp[hq])) fun _ ms xs ls X7=>hK _ _ _ _ fun i hi=>by
   simp only[List.mem_append,List.flatMap_append] at hi hm X7;rcases hi with ((hi|hi)|(hi|hi))|(hi|hi)
   ·exact hm i (.inl (.inl hi))
   ·exact X7 i (.inl (.inl hi))
   ·exact hm i (.inl (.inr hi))
   ·exact X7 i (.inl (.inr hi))
   ·exact hm i (.inr hi)
   ·exact X7 i (.inr hi)
theorem Aah (hn:Rel none none){t:Nat}{ct:CT}{was p:PV}{K:Nat->PV->List (Nat × A3)->Option R} {K':Nat->PV->List (Nat × A3)->Option R'} (hK:∀t c b,(∀q∈b,∃k,q.1=LF N k)->Rel (K t c b) (K' t c b)):Rel (TK N t ct was p K) (TK N t ct was p K'):=by
 unfold TK;split
 ·split
  ·exact QB hn fun _ _=>hK _ _ _ (by intro q hq;simp only[List.mem_singleton] at hq;subst hq;exact⟨t,rfl⟩)
  ·exact Ed hn fun _ _ _=>hK _ _ _ (by simp)
 ·exact Lh hn fun _=>hK _ _ _ (by simp)
theorem BP (hn:Rel none none):∀{cts:List CT}{ws ps:List PV}{t:Nat}{K:Nat->List PV->List (Nat × A3)->Option R} {K':Nat->List PV->List (Nat × A3)->Option R'},(∀t c b,(∀q∈b,∃k,q.1=LF N k)->Rel (K t c b) (K' t c b))->Rel (DE N t cts ws ps K) (DE N t cts ws ps K')
 |[],[],_,_,_,_,hK=>D2 hn (hK _ _ _ (by simp))
 |[],_::_,_,_,_,_,_=>hn
 |_::_,[],_,_,_,_,_=>hn
 |_::_,_::_,_,_,_,_,hK=>Ax hn fun _ _ _=>Aah hn fun _ _ b hb=>BP hn fun _ _ bs We=>hK _ _ _ fun q hq=>by
   rcases List.mem_append.1 hq with h|h
   ·exact hb q h
   ·exact We q h
theorem P2 (hn:Rel none none){S:Nat->Prop}{dst:Option Nat}:∀{l:List Fk}{ro:List (List PV)} {t:Nat}{h0 h1:Nat->Option A3}{K:(Nat->Option A3)->List (Nat × A3)->Option R} {K':(Nat->Option A3)->List (Nat × A3)->Option R'},
  AN N S dst hp Cu h0 h1->(∀i∈l.flatMap Fk.ids,hp i≠none∧S i∧hp i=Cu i)->(∀h0' Qz b,AN N S dst hp Cu h0' Qz->(∀q∈b,∃k,q.1=LF N k)->Rel (K h0' b) (K' Qz b))->Rel (Rf N t l ro h0 K) (Rf N t l ro h1 K')
 |[],_,_,_,_,_,_,hT,_,hK=>D2 hn (hK _ _ _ hT (by simp))
 |.var id off cts ws::l,ro,t,h0,h1,K,K',hT,hl,hK=>by
  unfold Rf;refine Ax hn fun cs ro _=>BP hn fun t' cs' bs We=>?_
  have hid:=hl id (by simp[Fk.ids])
  rw[←hT.same id hid.2.2];split
  ·exact P2 hn (P1 hid.2.1 hid.1 hT) (fun i hi=>hl i (by simp only[List.flatMap_cons,List.mem_append];exact .inr hi)) fun h0' Qz b hT' hb=>hK _ _ _ hT' fun q hq=>by
    rcases List.mem_append.1 hq with h|h
    ·exact We q h
    ·exact hb q h
  ·exact hn
 |.row id::l,ro,t,h0,h1,K,K',hT,hl,hK=>by
  unfold Rf;have hid:=hl id (by simp[Fk.ids])
  exact Ax hn fun cs ro _=>P2 hn (P1 hid.2.1 hid.1 hT) (fun i hi=>hl i (by simp only[List.flatMap_cons,List.mem_append];exact .inr hi)) hK
 |.none::l,ro,t,h0,h1,K,K',hT,hl,hK=>by
  unfold Rf;exact Ax hn fun cs ro _=>P2 hn hT (fun i hi=>hl i (by simp only[List.flatMap_cons,List.mem_append];exact .inr hi)) hK
theorem IJ (h:∀i,N<=i->hp i=Cu i)(hN:0<N):∀k t,IU N hp k t=IU N Cu k t
 |0,_=>rfl
 |k+1,t=>by
  unfold IU;rw[h (LF N t) (by unfold LF;exact Nat.le_mul_of_pos_right _ (by omega)),IJ h hN k (t+1)]
theorem CW {h0 h1:Nat->Option A3}:∀{nw:List (Nat × A3)},(∀q∈nw,h0 q.1=h1 q.1)->A8 h0 nw=A8 h1 nw
 |[],_=>rfl
 |(i,b)::nw,h=>by
  unfold A8;rw[h (i,b) (by simp),CW (fun q hq=>h q (by simp[hq]))]
theorem Yw {S:Nat->Prop}{dst:Option Nat}{h0 h1:Nat->Option A3}(hT:AN N S dst hp Cu h0 h1):∀{nw:List (Nat × A3)} {g0 g1:Nat->Option A3},AN N S dst hp Cu g0 g1->(∀q∈nw,N<=q.1∨dst=some q.1)->(∀q∈nw,hp q.1=none)->AN N S dst hp Cu (Al g0 nw) (Al g1 nw)
 |[],_,_,h,_,_=>h
 |(i,b)::nw,g0,g1,h,hi,hz=>by
  refine Yw hT (nw:=nw) ⟨fun k hk=>?_,fun k hN hd hk=>?_,fun k hk=>?_,fun k hn hk=>?_⟩ (fun q hq=>hi q (by simp[hq])) (fun q hq=>hz q (by simp[hq]))
  ·by_cases e:k=i
   ·subst e;rw[Ah];simp
   ·rw[Ad _ _ e];exact h.keep k hk
  ·have e:k≠i:=by
    rintro rfl
    rcases hi (k,b) (by simp) with q|q
    ·simp only at q;omega
    ·exact hd q
   rw[Ad _ _ e,Ad _ _ e];exact h.off k hN hd hk
  ·by_cases e:k=i
   ·subst e;rw[Ah,Ah]
   ·rw[Ad _ _ e,Ad _ _ e];exact h.same k hk
  ·rw[Ad _ _ (by rintro rfl;exact hk (hz (k,b) (by simp)))];exact h.far k hn hk
theorem Ai8 {S:Nat->Prop}{dst:Option Nat}{m x:List Nat}(hm:∀i∈m++x,hp i≠none∧S i):AN N S dst hp Cu (Pk (Ac hp m) x) (Pk (Ac Cu m) x):=by
 refine⟨fun i hi h=>?_,fun i hN hd hi=>?_,fun i hi=>?_,fun i hn hi=>?_⟩
 ·rw[Ez] at h;have h1:Ac hp m i≠none:=fun e=>hi (C5.1 e)
  split at h
  ·cases hq:Ac hp m i with
   |none=>exact h1 hq
   |some b=>rw[hq] at h;cases h
  ·exact h1 h
 ·have e:i ∉ m∧i ∉ x:=by
   refine⟨fun h=>?_,fun h=>?_⟩<;>(rcases hi with hi|hi)
   ·exact hi (hm i (by simp[h])).2
   ·exact (hm i (by simp[h])).1 hi
   ·exact hi (hm i (by simp[h])).2
   ·exact (hm i (by simp[h])).1 hi
  rw[Ez,Ez,if_neg e.2,if_neg e.2,Ba,Ba,if_neg e.1,if_neg e.1];exact⟨rfl,rfl⟩
 ·rw[Ez,Ez,Ba,Ba,hi]
 ·rw[Ez,Ba,if_neg (fun h=>hn (hm i (by simp[h])).2),if_neg (fun h=>hn (hm i (by simp[h])).2)]
theorem IW (hn:Rel none none){C:Fy}{call:Aj}{f:FuncId}{c:Call}{K:St->Option R}{K':St->Option R'}{S:Nat->Prop}(Hi:c.args.toList.map (Bf tm)=c.args.toList.map (Bf tm')) (hS:∀i,S i->hp i=Cu i∨(hp i=none∧∀b,Rel none b))
  (hp_:∀p∈c.args.toList.map (Bf tm'),∀i∈A9 p,S i) (hc:∀p∈c.args.toList.map (Bf tm'),∀i∈A9 p,∀c,Cu i=some (.st c)->∀q∈c,∀k∈Ak q,S k)
  (VQ:∀d,o.dst=some d->hp d=Cu d)(hNN:∀i,N<=i->hp i=Cu i)
  (hK:∀v B4 D6,AN N S o.dst hp Cu B4 D6->Rel (K ⟨A2 tm o.dst v,B4⟩) (K' ⟨A2 tm' o.dst v,D6⟩)):Rel (Uy C P N call ⟨tm,hp⟩ o f c K) (Uy C P N call ⟨tm',Cu⟩ o f c K'):=by
 unfold Uy;simp only[Hi];refine Zl hn hS hp_ hc fun vs m x l hm=>Ao hn fun hb=>BV hn fun rv ro=>U6 hn fun ws bs We=>Ao hn fun _=>?_
 simp only[Bool.and_eq_true] at hb;have hN:0<N:=Nat.lt_of_succ_le (Nat.le_of_ble_eq_true hb.1.2);rw[IJ hNN hN];by_cases Aol:∃i∈l.flatMap Fk.ids,hp i≠Cu i
 ·obtain⟨i,hi,Gh⟩:=Aol;obtain⟨h1,h2⟩:=hm i (List.mem_append.2 (.inr hi));rcases hS i h2 with h|⟨h,_⟩
  ·exact absurd h Gh
  ·exact absurd h h1
 have hl:∀i∈l.flatMap Fk.ids,hp i≠none∧S i∧hp i=Cu i:=fun i hi=>⟨(hm i (List.mem_append.2 (.inr hi))).1,(hm i (List.mem_append.2 (.inr hi))).2,Classical.byContradiction fun h=>Aol ⟨i,hi,h⟩⟩
 have hT0:AN N S o.dst hp Cu (Pk (Ac hp m) x) (Pk (Ac Cu m) x):=Ai8 fun i hi=>hm i (List.mem_append.2 (.inl hi))
 refine P2 hn hT0 hl fun h0 h1 bs' hT Av7=>?_
 have RW:∀q∈bs++bs',N<=q.1∨o.dst=some q.1:=by
  intro q hq;rcases List.mem_append.1 hq with hq|hq
  ·obtain⟨j,hj⟩:=We q hq;cases hd:o.dst with
   |none=>
    rw[hd] at hj;left;rw[hj];exact Nat.le_add_right _ _
   |some d=>
    rw[hd] at hj;change q.1=d+N*j at hj;cases j with
    |zero=>right;rw[hj];simp
    |succ j=>left;rw[hj,Nat.mul_add];omega
  ·obtain⟨k,hk⟩:=Av7 q hq;left;rw[hk];unfold LF;exact Nat.le_mul_of_pos_right _ (by omega)
 have Vo:∀q∈bs++bs',h0 q.1=h1 q.1:=by
  intro q hq;refine hT.same q.1 ?_;rcases RW q hq with h|h
  ·exact hNN _ h
  ·exact VQ _ h
 rw[CW Vo]
 exact Ao hn fun hb=>hK _ _ _ (Yw hT hT RW fun q hq=>by
  cases hz:hp q.1 with
  |none=>rfl
  |some c=>exact absurd ((Vo q hq).trans ((Az hb).1 q.1 q.2 hq)) (hT.keep q.1 (by rw[hz];simp)))
theorem Ia (hn:Rel none none){C:Fy}{call:Aj}{K:St->Option R}{K':St->Option R'}(Hi:∀x∈o.op.operands.toList,Bf tm x=Bf tm' x)
  (hS:∀i,Rw o tm' Cu i->hp i=Cu i∨(hp i=none∧∀b,Rel none b)) (VQ:∀d,o.dst=some d->hp d=Cu d)(hNN:∀i,N<=i->hp i=Cu i)
  (hK:∀v B4 D6,AN N (Rw o tm' Cu) o.dst hp Cu B4 D6->Rel (K ⟨A2 tm o.dst v,B4⟩) (K' ⟨A2 tm' o.dst v,D6⟩)):Rel (Qg C P N call ⟨tm,hp⟩ o K) (Qg C P N call ⟨tm',Cu⟩ o K'):=by
 unfold Qg;have hl:∀x∈o.op.operands.toList,∀i∈A9 (Bf tm' x),Rw o tm' Cu i:=fun x hx i hi=>.inl ⟨x,hx,hi⟩
 have GR:J9 o.op=false->∀x∈o.op.operands.toList,∀i∈A9 (Bf tm' x),∀c,Cu i=some (.st c)->∀q∈c,∀k∈Ak q,Rw o tm' Cu k:=fun ha x hx i hi c hc q hq k hk=>.inr ⟨ha,i,c,⟨x,hx,hi⟩,hc,q,hq,hk⟩
 generalize hLd:Rw o tm' Cu=S at *
 generalize QW:o.op=op at *
 split
 ·rename_i t x y;simp only[Hi x (by simp[Op.operands]),Hi y (by simp[Op.operands])]
  refine Ao hn fun hd=>KY (N:=N) hn hS (fun i hi=>hl x (by simp[Op.operands]) i (Ih hi)) (fun i hi=>hl y (by simp[Op.operands]) i (Eh hi)) fun B4 D6 hh=>?_
  have hd':=Option.isNone_iff_eq_none.1 hd;have:=hK .top B4 D6 (by rw[hd'];exact hh)
  rw[hd'] at this;exact this
 ·rename_i c
  have Ig:∀x∈c.args.toList,x∈(Op.call c).operands.toList:=by
   intro x hx;simp only[Op.operands,Call.operands,Array.toList_append,List.mem_append];exact .inr hx
  split
  ·rename_i hc;refine Ce hn fun d hd=>Ax hn fun x _ hx=>Ax hn fun y _ hy=>D2 hn (Ax hn fun _ _ _=>Ax hn fun _ _ _=>?_)
   subst hy;have VE:=Ig x (by rw[hx];simp)
   have hym:=Ig y (by rw[hx];simp)
   simp only[Hi x VE,Hi y hym];refine R7 hn hS (VQ d hd) (fun i hi=>hl x VE i (Eh hi)) (fun i hi=>hl y hym i (Eh hi)) fun v B4 D6 hh=>?_
   have:=hK v B4 D6 (by rw[hd];exact hh N)
   rw[hd] at this;exact this
  ·rename_i hc;refine Ax hn fun x _ hx=>Ax hn fun y _ hy=>D2 hn (Ax hn fun _ _ _=>Ax hn fun _ _ _=>?_)
   subst hy;have VE:=Ig x (by rw[hx];simp)
   have hym:=Ig y (by rw[hx];simp)
   simp only[Hi x VE,Hi y hym];exact LZ hn hS (fun i hi=>hl x VE i (Eh hi)) (fun i hi=>hl y hym i (Eh hi)) hK
  ·rename_i f hcf;refine IW hn (List.map_congr_left fun x hx=>Hi x (Ig x hx)) hS (fun p hp i hi=>?_) (fun p hp i hi=>?_) VQ hNN hK
   ·obtain⟨x,hx,rfl⟩:=List.mem_map.1 hp;exact hl x (Ig x hx) i hi
   ·obtain⟨x,hx,rfl⟩:=List.mem_map.1 hp;exact GR (by simp only[J9,hcf]) x (Ig x hx) i hi
  ·exact hn
 ·exact hn
theorem Xt (hn:Rel none none){C:Fy}{call:Aj}{K:St->Option R}{K':St->Option R'}(Hi:∀x∈o.op.operands.toList,Bf tm x=Bf tm' x)(hK:∀v B4,(∀i,hp i≠none->B4 i≠none)->Rel (K ⟨A2 tm o.dst v,B4⟩) (K' ⟨A2 tm' o.dst v,B4⟩)):Rel (Qg C P N call ⟨tm,hp⟩ o K) (Qg C P N call ⟨tm',hp⟩ o K'):=
 Ia hn Hi (fun _ _=>.inl rfl) (fun _ _=>rfl) (fun _ _=>rfl) fun v B4 D6 hT=>by
  have:B4=D6:=funext fun i=>hT.same i rfl
  subst this;exact hK v B4 hT.keep
end
section
variable {R:Type} {r:R} {C:Fy} {P:Program} {N:Nat} {call:Aj} {ops:Array Oper} {o x:Oper} {s:St} {K:St->Option R}
theorem ET {tm:Nat->PV}{hp B4:Nat->Option A3}{tm':Nat->PV}{q:Pc}(hm:F3 P o.op=false)(ht:∀t∈C3 ops o,tm t=tm' t)(h:gE C P N call ops o ⟨tm,hp⟩=some q):gE C P N call ops o ⟨tm',B4⟩=some q:=
 Te (s:=⟨tm,hp⟩) (s':=⟨tm',B4⟩) ht (fun h=>by rw[hm] at h;cases h) h
theorem U0 {tm:Nat->PV}{hp:Nat->Option A3}(hm:F3 P o.op=false)(h:Cr C P N call ops o ⟨tm,hp⟩ K=some r):
  ∃v nw,gE C P N call ops o ⟨tm,hp⟩=some (v,[],nw)∧E6 N o.dst=true∧A8 hp nw=true∧(∀p∈nw,o.dst=some p.1)∧K ⟨A2 tm o.dst v,Al hp nw⟩=some r:=by
 have hM:Na C P o.op=false:=by
  cases hh:Na C P o.op
  ·rfl
  ·rw[Sf hh] at hm;cases hm
 rw[H3 (by simp[Fm,hM])] at h
 cases e:gE C P N call ops o ⟨tm,hp⟩ with
 |none=>rw[e] at h;cases h
 |some q=>
  obtain⟨v,fz,nw⟩:=q;obtain⟨h1,h2⟩:=(Pg e).1 hm;simp only at h1 h2;subst h1;rw[e] at h;obtain⟨hb,h⟩:=Ag h;simp only[Bool.and_eq_true] at hb;exact⟨v,nw,rfl,hb.1,hb.2,h2,h⟩
theorem Xx {tm:Nat->PV}{hp:Nat->Option A3}{v:PV}{nw:List (Nat × A3)} (hm:F3 P o.op=false)(e:gE C P N call ops o ⟨tm,hp⟩=some (v,[],nw)) (hd:E6 N o.dst=true)(ha:A8 hp nw=true)(h:K ⟨A2 tm o.dst v,Al hp nw⟩=some r):Cr C P N call ops o ⟨tm,hp⟩ K=some r:=by
 have hM:Na C P o.op=false:=by
  cases hh:Na C P o.op
  ·rfl
  ·rw[Sf hh] at hm;cases hm
 rw[H3 (by simp[Fm,hM]),e]
 show Au _ _=_;have VO:A8 hp nw=true:=ha;rw[hd,VO];exact h
theorem J2 {hp:Nat->Option A3}{nw:List (Nat × A3)} (ha:A8 hp nw=true){i:Nat}(hi:∀p∈nw,p.1≠i):Al hp nw i=hp i:=
 (Df (Az ha).2).2 i fun b hb=>hi _ hb rfl
theorem XT {hp B4:Nat->Option A3}{nw:List (Nat × A3)} (ha:A8 hp nw=true){g:Nat->Option A3}(h1:∀i,(∀p∈nw,p.1≠i)->g i=B4 i) (h2:∀i,(∃p∈nw,p.1=i)->g i=Al hp nw i) (VO:A8 B4 nw=true):g=Al B4 nw:=by
 funext i
 by_cases h:∃p∈nw,p.1=i
 ·rw[h2 i h];obtain⟨⟨j,b⟩,hp,rfl⟩:=h;rw[(Df (Az ha).2).1 j b hp,(Df (Az VO).2).1 j b hp]
 ·have h':∀p∈nw,p.1≠i:=fun p hp e=>h ⟨p,hp,e⟩
  rw[h1 i h',J2 VO h']
theorem Ad5 (ap:Sp C P ops x o)(hx:Fm C P ops x s.tm=true)
  (h:Cr C P N call ops x s (fun s1=>Cr C P N call ops o s1 K)=some r):Cr C P N call ops o s (fun s1=>Cr C P N call ops x s1 K)=some r:=by
 have hm:F3 P o.op=false:=ap.mx (by unfold Fm at hx;simp only[Bool.and_eq_true] at hx;exact hx.1)
 rw[Gq hx] at h;obtain⟨tm,hp⟩:=s;have look:∀v,∀t∈C3 ops o,A2 tm x.dst v t=tm t:=fun v=>Do ap.xo
 have h1:=Ia (P:=P) (N:=N) (o:=x) (tm:=tm) (tm':=tm) (hp:=hp) (Cu:=hp) (K:=fun s1=>Cr C P N call ops o s1 K) (K':=fun _=>none)
  (Rel:=fun (a:Option R)(_:Option R)=>a=some r->∃v nw,gE C P N call ops o ⟨tm,hp⟩=some (v,[],nw)∧E6 N o.dst=true∧(∀p∈nw,o.dst=some p.1)∧A8 hp nw=true) (fun h=>by cases h) (fun _ _=>rfl) (fun _ _=>.inl rfl) (fun _ _=>rfl) (fun _ _=>rfl) (fun v B4 _ hT h=>by
   obtain⟨u,nw,hu,hd,ha,hn,_⟩:=U0 hm h;refine⟨u,nw,ET hm (look v) hu,hd,hn,Mh ha fun i b hi=>?_⟩
   cases hh:hp i with
   |none=>rfl
   |some c=>exact absurd ((Az ha).1 i b hi) (hT.keep i (by rw[hh];simp))) h
 obtain⟨v,nw,hv,hd,hn,ha⟩:=h1;refine Xx hm hv hd ha ?_;have t2:∀t∈C3 ops x,tm t=A2 tm o.dst v t:=fun t ht=>(Do ap.ox t ht).symm
 rw[Gq (by rw[←Fz t2];exact hx)]
 refine Ia (P:=P) (N:=N) (o:=x) (tm:=tm) (tm':=A2 tm o.dst v) (hp:=hp) (Cu:=Al hp nw) (Rel:=fun (a b:Option R)=>a=some r->b=some r) (fun h=>by cases h) (D8 t2) (fun i _=>?_) (fun d hxd=>?_) (fun i hi=>(J2 ha fun p hp e=>by have:=Me hd (hn p hp);omega).symm) (fun u B4 D6 hT h=>?_) h
 ·by_cases hi:∃p∈nw,p.1=i
  ·obtain⟨⟨j,b⟩,Cu,rfl⟩:=hi;exact .inr ⟨(Az ha).1 j b Cu,fun _ h=>by cases h⟩
  ·exact .inl (J2 ha fun p hp e=>hi ⟨p,hp,e⟩).symm
 ·refine (J2 ha fun p hp e=>?_).symm
  have:=hn p hp;rw[e] at this;exact ap.ne d hxd this
 ·obtain⟨v',nw',Kv,_,VO,_,h'⟩:=U0 hm h;have he:=ET (B4:=hp) hm (look u) Kv;rw[hv] at he;simp only[Option.some.injEq,Prod.mk.injEq,true_and] at he;obtain⟨rfl,rfl⟩:=he
  have hh:D6=Al B4 nw:=by
   refine XT ha (fun i hi=>?_) (fun i hi=>?_) VO
   ·exact (hT.same i (J2 ha hi).symm).symm
   ·obtain⟨⟨j,b⟩,Cu,rfl⟩:=hi;refine (hT.off j (Me hd (hn _ Cu)) (fun e=>ap.ne j e (hn _ Cu)) (.inr ((Az ha).1 j b Cu))).2
  rw[hh,←H5 ap.ne];exact h'
theorem Aea (hw:LG C P o s)(ap:Sp C P ops x o)(ho:Fm C P ops o s.tm=true)
  (h:Cr C P N call ops x s (fun s1=>Cr C P N call ops o s1 K)=some r):Cr C P N call ops o s (fun s1=>Cr C P N call ops x s1 K)=some r:=by
 have hm:F3 P x.op=false:=ap.mo (by unfold Fm at ho;simp only[Bool.and_eq_true] at ho;exact ho.1)
 obtain⟨tm,hp⟩:=s;obtain⟨v,nw,hv,hd,ha,hn,h1⟩:=U0 hm h;have t1:∀t∈C3 ops o,A2 tm x.dst v t=tm t:=Do ap.xo;change Cr C P N call ops o ⟨A2 tm x.dst v,Al hp nw⟩ K=some r at h1;rw[Gq (by rw[Fz t1];exact ho)] at h1
 rw[Gq ho];have hMo:Na C P o.op=true:=by unfold Fm at ho;simp only[Bool.and_eq_true] at ho;exact ho.1
 have Afu:∀i,Rw o tm hp i->hp i≠none:=by
  rintro i (⟨y,hy,hi⟩|⟨I5,id,c,⟨y,hy,hi⟩,hc,p,Cu,hk⟩)
  ·exact hw.1 y hy i hi
  ·exact hw.2 hMo I5 y hy id hi c hc p Cu i hk
 refine Ia (P:=P) (N:=N) (o:=o) (tm:=A2 tm x.dst v) (tm':=tm) (hp:=Al hp nw) (Cu:=hp) (Rel:=fun (a b:Option R)=>a=some r->b=some r) (fun h=>by cases h) (D8 t1) (fun i hi=>?_) (fun d hod=>?_) (fun i hi=>J2 ha fun p hp e=>by have:=Me hd (hn p hp);omega) (fun u B4 D6 hT h=>?_) h1
 ·refine .inl (J2 ha fun p B4 e=>Afu i hi ?_)
  rw[←e];exact (Az ha).1 p.1 p.2 B4
 ·refine J2 ha fun p B4 e=>?_
  have:=hn p B4;rw[e] at this;exact ap.ne d this hod
 ·have Lu:∀p∈nw,B4 p.1=Al hp nw p.1∧D6 p.1=none:=by
   intro p hp2;have KW:=(Az ha).1 p.1 p.2 hp2;have h3:=hT.off p.1 (Me hd (hn p hp2)) (fun e=>ap.ne p.1 (hn p hp2) e) (.inl fun hL=>Afu _ hL KW)
   exact⟨h3.1,h3.2.trans KW⟩
  have VO:A8 D6 nw=true:=Mh ha fun i b hi=>(Lu (i,b) hi).2
  refine Xx hm (ET hm (fun t ht=>(Do ap.ox t ht).symm) hv) hd VO ?_
  have hh:B4=Al D6 nw:=by
   refine XT ha (fun i hi=>?_) (fun i hi=>?_) VO
   ·exact hT.same i (J2 ha hi)
   ·obtain⟨p,hp2,rfl⟩:=hi;exact (Lu p hp2).1
  rw[←H5 ap.ne,←hh];exact h
theorem Amz (hw:LG C P o s)(ap:Sp C P ops x o)
  (h:Cr C P N call ops x s (fun s1=>Cr C P N call ops o s1 K)=some r):Cr C P N call ops o s (fun s1=>Cr C P N call ops x s1 K)=some r:=by
 cases hx:Fm C P ops x s.tm
 ·cases ho:Fm C P ops o s.tm
  ·exact QF hw ap.xo ap.ne ap.ox hx ho h
  ·exact Aea hw ap ho h
 ·exact Ad5 ap hx h
theorem H4 (h:O0 P o.op=true):Na C P o.op=false:=by
 unfold O0 at h;split at h
 ·rename_i ho;rw[ho];rfl
 ·rename_i ho;rw[ho];rfl
 ·cases h
def AJ (P:Program)(ops:Array Oper)(o:Oper)(tm:Nat->PV):Prop:=O0 P o.op=true∨Fs ops o tm=some false
theorem Rl {tm tm':Nat->PV}(h:∀t∈C3 ops o,tm t=tm' t)(hl:AJ P ops o tm):AJ P ops o tm':=by
 rcases hl with hl|hl
 ·exact .inl hl
 ·exact .inr (by rw[←Il h];exact hl)
theorem CV {tm:Nat->PV}(hl:AJ P ops o tm):Fm C P ops o tm=false:=by
 rcases hl with hl|hl
 ·simp[Fm,H4 hl]
 ·simp[Fm,hl]
theorem PY {q:Pc}(hl:AJ P ops o s.tm)(h:gE C P N call ops o s=some q):q.2.1=[]∧q.2.2=[]:=by
 unfold gE at h;split at h
 ·cases h
 ·rename_i hv
  have hl:O0 P o.op=true:=by
   rcases hl with hl|hl
   ·exact hl
   ·rw[hv] at hl;cases hl
  rw[H4 hl] at h;have h:SZ C P N call o s=some q:=h;unfold O0 at hl;split at hl
  ·rename_i t a ho;unfold SZ X1 at h;rw[ho] at h
   have:=CR (nz:=C.nz N) (P:=P) (f:=rd s.hp) (f':=rd s.hp) (g:=Hf s.hp) (g':=Hf s.hp) (t:=t) (x:=Bf s.tm a) (Rel:=fun (a b:Option Pc)=>∀q,a=some q->q.2.1=[]∧q.2.2=[])
    (K:=fun v=>some (v,[],[])) (K':=fun v=>some (v,[],[])) (fun _ h=>by cases h) (fun _ _=>.inl ⟨rfl,rfl⟩) (fun v q hq=>by cases hq;exact⟨rfl,rfl⟩)
   exact this q h
  ·rename_i src dst y ho;unfold SZ X1 at h;rw[ho] at h;simp only at h;unfold Yt at h;split at hl
   ·rename_i hd;rw[hd] at h;simp only at h;split at h
    ·obtain⟨_,_,h⟩:=Cm h;obtain⟨_,_,h⟩:=Bm h;cases h;exact⟨rfl,rfl⟩
    ·split at h
     ·exact Ms (f:=Hf s.hp) (f':=Hf s.hp) (K':=fun _ _=>(none:Option Pc)) (Rel:=fun (a _:Option Pc)=>a=some q->q.2.1=[]∧q.2.2=[]) (fun h=>by cases h) (fun _ _=>.inl rfl) (fun n c h=>by
       obtain⟨_,h⟩:=Ag h;obtain⟨_,_,h⟩:=Bm h;obtain⟨_,_,h⟩:=Bm h;cases h;exact⟨rfl,rfl⟩) h
     ·exact Ms (f:=Hf s.hp) (f':=Hf s.hp) (K':=fun _ _=>(none:Option Pc)) (Rel:=fun (a _:Option Pc)=>a=some q->q.2.1=[]∧q.2.2=[]) (fun h=>by cases h) (fun _ _=>.inl rfl) (fun n c h=>by
       obtain⟨_,h⟩:=Ag h;obtain⟨_,_,h⟩:=Bm h;obtain⟨_,_,h⟩:=Bm h;cases h;exact⟨rfl,rfl⟩) h
     ·cases h
    ·cases h
   ·cases hl
  ·cases hl
 ·cases h;exact⟨rfl,rfl⟩
theorem TI {tm tm':Nat->PV}{hp:Nat->Option A3}(h:∀t∈C3 ops o,tm t=tm' t){i:Nat}(hi:Rw o tm hp i):Rw o tm' hp i:=by
 have he:=D8 (ops:=ops) (o:=o) h;rcases hi with⟨y,hy,hi⟩|⟨I5,id,c,⟨y,hy,hi⟩,hc,q⟩
 ·exact .inl ⟨y,hy,by rw[←he y hy];exact hi⟩
 ·exact .inr ⟨I5,id,c,⟨y,hy,by rw[←he y hy];exact hi⟩,hc,q⟩
theorem Ago {hp B4:Nat->Option A3}{i:Nat}(h:B4 i=hp i):rd B4 i=rd hp i∧Hf B4 i=Hf hp i:=by
 unfold rd Hf;rw[h];exact⟨rfl,rfl⟩
theorem Vb {tm:Nat->PV}{hp:Nat->Option A3}(hl:AJ P ops o tm)(h:Cr C P N call ops o ⟨tm,hp⟩ K=some r):
  ∃v,gE C P N call ops o ⟨tm,hp⟩=some (v,[],[])∧E6 N o.dst=true∧K ⟨A2 tm o.dst v,hp⟩=some r:=by
 rw[H3 (CV hl)] at h;cases e:gE C P N call ops o ⟨tm,hp⟩ with
 |none=>rw[e] at h;cases h
 |some q=>
  obtain⟨v,fz,nw⟩:=q;obtain⟨h1,h2⟩:=PY hl e;simp only at h1 h2;subst h1;subst h2;rw[e] at h;obtain⟨hb,h⟩:=Ag h;simp only[Bool.and_eq_true] at hb;exact⟨v,rfl,hb.1,h⟩
theorem Y8 {tm:Nat->PV}{hp:Nat->Option A3}{v:PV}(hl:AJ P ops o tm)(e:gE C P N call ops o ⟨tm,hp⟩=some (v,[],[])) (hd:E6 N o.dst=true)(h:K ⟨A2 tm o.dst v,hp⟩=some r):Cr C P N call ops o ⟨tm,hp⟩ K=some r:=by
 rw[H3 (CV hl),e];show Au _ _=_;have ha:A8 hp []=true:=rfl;simp only[hd,ha,Bool.and_self];exact h
theorem Afe (hw:LG C P o s)(xo:∀d,x.dst=some d->d ∉ C3 ops o)(ne:∀d,x.dst=some d->o.dst≠some d)(ox:∀d,o.dst=some d->d ∉ C3 ops x)(hl:AJ P ops o s.tm)
  (KX:∀y∈o.op.operands.toList,∀i∈A9 (Bf s.tm y),¬Rw x s.tm s.hp i) (hx:Fm C P ops x s.tm=true)
  (h:Cr C P N call ops x s (fun s1=>Cr C P N call ops o s1 K)=some r):Cr C P N call ops o s (fun s1=>Cr C P N call ops x s1 K)=some r:=by
 rw[Gq hx] at h;obtain⟨tm,hp⟩:=s;have look:∀v,∀t∈C3 ops o,A2 tm x.dst v t=tm t:=fun v=>Do xo
 have back:∀{u:PV} {B4:Nat->Option A3} {q:Pc},(∀y∈o.op.operands.toList,∀i∈A9 (Bf tm y),B4 i=hp i)->gE C P N call ops o ⟨A2 tm x.dst u,B4⟩=some q->gE C P N call ops o ⟨tm,hp⟩=some q:=
  fun hh e=>Te (s:=⟨A2 tm x.dst _,_⟩) (s':=⟨tm,hp⟩) (look _) (fun _ y hy i hi=>.inl (Ago (hh y hy i hi))) e
 have h1:=Ia (P:=P) (N:=N) (o:=x) (tm:=tm) (tm':=tm) (hp:=hp) (Cu:=hp) (K:=fun s1=>Cr C P N call ops o s1 K) (K':=fun _=>none)
  (Rel:=fun (a:Option R)(_:Option R)=>a=some r->∃v,gE C P N call ops o ⟨tm,hp⟩=some (v,[],[])∧E6 N o.dst=true) (fun h=>by cases h) (fun _ _=>rfl) (fun _ _=>.inl rfl) (fun _ _=>rfl) (fun _ _=>rfl) (fun v B4 _ hT h=>by
   obtain⟨u,hu,hd,_⟩:=Vb (Rl (fun t ht=>(look v t ht).symm) hl) h
   exact⟨u,back (fun y hy i hi=>hT.far i (KX y hy i hi) (hw.1 y hy i hi)) hu,hd⟩) h
 obtain⟨v,hv,hd⟩:=h1;refine Y8 hl hv hd ?_;have t2:∀t∈C3 ops x,tm t=A2 tm o.dst v t:=fun t ht=>(Do ox t ht).symm
 rw[Gq (by rw[←Fz t2];exact hx)]
 refine Ia (P:=P) (N:=N) (o:=x) (tm:=tm) (tm':=A2 tm o.dst v) (hp:=hp) (Cu:=hp) (Rel:=fun (a b:Option R)=>a=some r->b=some r) (fun h=>by cases h) (D8 t2) (fun _ _=>.inl rfl) (fun _ _=>rfl) (fun _ _=>rfl) (fun u B4 D6 hT h=>?_) h
 have e1:B4=D6:=funext fun i=>hT.same i rfl
 subst e1;obtain⟨v',Kv,_,h'⟩:=Vb (Rl (fun t ht=>(look u t ht).symm) hl) h
 have he:=back (fun y hy i hi=>hT.far i (fun hR=>KX y hy i hi (TI (fun t ht=>(t2 t ht).symm) hR)) (hw.1 y hy i hi)) Kv
 rw[hv] at he;simp only[Option.some.injEq,Prod.mk.injEq,and_true] at he;subst he;rw[←H5 ne];exact h'
theorem Ada (xo:∀d,x.dst=some d->d ∉ C3 ops o)(ne:∀d,x.dst=some d->o.dst≠some d)(ox:∀d,o.dst=some d->d ∉ C3 ops x)(hl:AJ P ops x s.tm)
  (KX:∀y∈x.op.operands.toList,∀i∈A9 (Bf s.tm y),¬Rw o s.tm s.hp i) (ho:Fm C P ops o s.tm=true)
  (h:Cr C P N call ops x s (fun s1=>Cr C P N call ops o s1 K)=some r):Cr C P N call ops o s (fun s1=>Cr C P N call ops x s1 K)=some r:=by
 obtain⟨tm,hp⟩:=s;obtain⟨v,hv,hd,h1⟩:=Vb hl h;have t1:∀t∈C3 ops o,A2 tm x.dst v t=tm t:=Do xo;rw[Gq (by rw[Fz t1];exact ho)] at h1
 rw[Gq ho];refine Ia (P:=P) (N:=N) (o:=o) (tm:=A2 tm x.dst v) (tm':=tm) (hp:=hp) (Cu:=hp) (Rel:=fun (a b:Option R)=>a=some r->b=some r) (fun h=>by cases h) (D8 t1) (fun _ _=>.inl rfl) (fun _ _=>rfl) (fun _ _=>rfl) (fun u B4 D6 hT h=>?_) h1
 have e1:B4=D6:=funext fun i=>hT.same i rfl
 subst e1;have t2:∀t∈C3 ops x,tm t=A2 tm o.dst u t:=fun t ht=>(Do ox t ht).symm
 refine Y8 (Rl t2 hl) (Te (s:=⟨tm,hp⟩) (s':=⟨A2 tm o.dst u,B4⟩) t2 (fun _ y hy i hi=>?_) hv) hd ?_
 ·have hi:i∈A9 (Bf tm y):=by rw[D8 t2 y hy];exact hi
  by_cases hn:hp i=none
  ·exact .inr ⟨QK hn,Iq hn⟩
  ·obtain⟨h3,h4⟩:=Ago (hT.far i (KX y hy i hi) hn);exact .inl ⟨h3.symm,h4.symm⟩
 ·rw[←H5 ne];exact h
def CM (P:Program)(x:Oper)(s s1:St):Prop:=(∀t,x.dst≠some t->s1.tm t=s.tm t)∧(∀i,s.hp i≠none->s1.hp i≠none)∧(F3 P x.op=false->∀i,s.hp i≠none->s1.hp i=s.hp i)
theorem Lk {tm:Nat->PV}{d:Option Tmp}{v:PV}{t:Nat}(h:d≠some t):A2 tm d v t=tm t:=by
 cases d with
 |none=>rfl
 |some d=>exact Ad _ _ (by rintro rfl;exact h rfl)
theorem Y2 {K':St->Option R}(h:Cr C P N call ops x s K=some r)(hK:∀s1,CM P x s s1->K s1=some r->K' s1=some r):Cr C P N call ops x s K'=some r:=by
 cases hx:Fm C P ops x s.tm
 ·rw[H3 hx] at h ⊢;cases ex:gE C P N call ops x s with
  |none=>rw[ex] at h;cases h
  |some q=>
   rw[ex] at h;obtain⟨hb,h1⟩:=Ag h;simp only[Bool.and_eq_true] at hb;show Au _ _=_;rw[hb.1,hb.2];refine hK _ ⟨fun t ht=>Lk ht,fun i hi=>Kq hb.2 hi,fun hm i hi=>?_⟩ h1
   show Al (Ac s.hp q.2.1) q.2.2 i=s.hp i;rw[Ev hb.2 hi,((Pg ex).1 hm).1];simp
 ·rw[Gq hx] at h ⊢
  exact Xt (P:=P) (N:=N) (o:=x) (tm:=s.tm) (tm':=s.tm) (hp:=s.hp) (Rel:=fun (a b:Option R)=>a=some r->b=some r) (fun h=>by cases h) (fun _ _=>rfl) (fun v B4 hh h=>hK _ ⟨fun t ht=>Lk ht,hh,fun hm=>by
   have hM:Na C P x.op=true:=by unfold Fm at hx;simp only[Bool.and_eq_true] at hx;exact hx.1
   rw[Sf hM] at hm;cases hm⟩ h) h
theorem LG.keeps {s1:St}(h:LG C P o s)(ap:Sp C P ops x o)(hk:CM P x s s1):LG C P o s1:=by
 have QW:∀y∈o.op.operands.toList,Bf s1.tm y=Bf s.tm y:=fun y hy=>D8 (ops:=ops) (o:=o) (fun t ht=>hk.1 t fun hd=>ap.xo t hd ht) y hy
 refine⟨fun y hy i hi=>?_,fun hM hA y hy i hi c hc p hp k hkk=>?_⟩
 ·rw[QW y hy] at hi;exact hk.2.1 i (h.1 y hy i hi)
 ·rw[QW y hy] at hi;have Qf:=h.1 y hy i hi;rw[hk.2.2 (ap.mo hM) i Qf] at hc;exact hk.2.1 k (h.2 hM hA y hy i hi c hc p hp k hkk)
theorem Zr:∀(l:List Oper){s:St}{K:St->Option R},LG C P o s->(∀x∈l,Sp C P ops x o)->Kg C P N call ops l s (fun s1=>Cr C P N call ops o s1 K)=some r->Cr C P N call ops o s (fun s1=>Kg C P N call ops l s1 K)=some r
 |[],_,_,_,_,h=>h
 |x::l,s,K,hw,ap,h=>by
  refine Amz hw (ap x (by simp)) ?_
  refine Y2 (K:=fun s1=>Kg C P N call ops l s1 (fun s2=>Cr C P N call ops o s2 K)) h fun s1 hk h1=>?_
  exact Zr l (hw.keeps (ap x (by simp)) hk) (fun y hy=>ap y (List.mem_cons_of_mem _ hy)) h1
theorem Oh:∀(l l':List Oper){s:St}{K:St->Option R},Kg C P N call ops (l++l') s K=Kg C P N call ops l s (fun s1=>Kg C P N call ops l' s1 K)
 |[],_,_,_=>rfl
 |x::l,l',s,K=>by
  show Cr C P N call ops x s (fun s1=>Kg C P N call ops (l++l') s1 K)=Cr C P N call ops x s (fun s1=>Kg C P N call ops l s1 _)
  congr 1
  funext s1
  exact Oh l l'
theorem TL {l l':List Oper}(hw:LG C P o s)(ap:∀x∈l,Sp C P ops x o)(h:Kg C P N call ops (l++o::l') s K=some r):Cr C P N call ops o s (fun s1=>Kg C P N call ops (l++l') s1 K)=some r:=by
 rw[Oh] at h;have:=Zr l hw ap h;refine Y2 this fun s1 _ h1=>?_
 rw[Oh];exact h1
end
open Go.RowKit
section
variable {R:Type} {r:R} {P:Program} {N:Nat} {w0:World} {X0:F9} {Y:Nat->Prop} {β β':Bt} {s:St} {a:Act} {w w':World} {o:Oper} {ops:Array Oper} {C:Fy} {call:Aj} {K:St->Option R}
theorem Yk (h:B3 N w0 X0 Y β s a w){j d:Nat}(hd:(ops[j]?).bind (·.dst)=some d) {v:Value}(ht:s.tm d=.sc v):yielded ops a.tmps j=match v with | .bool b=>some b|_=>none:=by
 have hlt:d<N:=by
  rcases Nat.lt_or_ge d N with h'|h'
  ·exact h'
  ·rw[h.tmo d h'] at ht;cases ht
 have hv:=h.tms d hlt;rw[ht] at hv;have hv:=Vc hv;have GK:d<a.tmps.size:=by rw[h.tsz];exact hlt
 have he:a.tmps[d]?=some v:=by
  rw[Array.getElem?_eq_getElem GK];simp[GK] at hv;rw[hv]
 unfold yielded;rw[hd];simp only[Option.bind_some,he];cases v<;>rfl
theorem Q5 (h:B3 N w0 X0 Y β s a w){G:Glo}(H1:IR P G w0 X0)(C4:∀f args res,call f args=some res->C1 G P f args res){i:Nat}(hi:ops[i]?=some o) (hk:Cr C P N call ops o s K=some r):
  ∃s',K s'=some r∧∀(next:Act->World->Prop) (Q:Exit->Act->World->Prop),(∀a' w' β',B3 N w0 X0 Y β' s' a' w'->next a' w')->wpOp P ops Q i next a w:=by
 rw[FK] at hk
 have hw:∀b,Fs ops o s.tm=some b->Region.wanted o (yielded ops a.tmps)=b:=by
  intro b hb;unfold Fs at hb;unfold Region.wanted;cases hg:o.guard with
  |none=>rw[hg] at hb;simpa using hb
  |some q=>
   obtain⟨j,want⟩:=q;rw[hg] at hb;simp only at hb ⊢;cases hd:(ops[j]?).bind (·.dst) with
   |none=>rw[hd] at hb;cases hb
   |some d=>
    rw[hd] at hb;simp only at hb;split at hb
    ·rename_i b' ht;rw[Yk h hd ht];simp at hb;rw[←hb];cases b'<;>cases want<;>rfl
    ·rename_i ht;rw[Yk h hd ht];simp at hb;rw[hb];rfl
    ·cases hb
 split at hk
 ·cases hk
 ·rename_i hv;obtain⟨s',hs',hn⟩:=ME h H1 C4 hk;refine⟨s',hs',fun next Q WP=>?_⟩
  unfold wpOp;rw[hi];simp only[hw _ hv,if_true];exact .inl (hn next Q WP)
 ·rename_i hv;obtain⟨hd,hk⟩:=Ag hk;refine⟨_,hk,fun next Q WP=>?_⟩
  unfold wpOp;rw[hi];simp only[hw _ hv];refine WP _ _ β (h.put hd (An.sc _) (by simp[A9,Bn,Ak]))
theorem B3.known (h:B3 N w0 X0 Y β s a w){d:Nat}(hd:s.tm d=.ub):∃b,B3 N w0 X0 Y β ⟨Bu s.tm d (.sc (.bool b)),s.hp⟩ a w:=by
 have hlt:d<N:=by
  rcases Nat.lt_or_ge d N with h'|h'
  ·exact h'
  ·rw[h.tmo d h'] at hd;cases hd
 have hu:=h.tms d hlt;rw[hd] at hu;have G4:An w (Cd s.hp β Y) .ub (a.tmps.getD d undef):=hu
 obtain⟨b,hv⟩:∃b,a.tmps.getD d undef=.bool b:=by
  generalize a.tmps.getD d undef=x at G4;cases G4 with
  |ub b=>exact⟨b,rfl⟩
 refine⟨b,⟨h.dfr,h.tsz,fun i hi=>?_,fun i hi=>?_,h.box,h.inj,h.blt,fun i hi=>?_,h.wfB,h.ownd,h.rngB,h.pin,h.stp,h.Yx,h.Ylt,h.fr⟩⟩
 ·show Bu s.tm d _ i=_;rw[Ad _ _ (by omega)]
  exact h.tmo i hi
 ·by_cases e:i=d
  ·subst e;show Di _ _ _ (Bu s.tm i _ i) _;rw[Ah,hv];exact An.sc _
  ·show Di _ _ _ (Bu s.tm d _ i) _;rw[Ad _ _ e];exact h.tms i hi
 ·by_cases e:i=d
  ·subst e;show ∀id∈A9 (Bu s.tm i _ i),_;rw[Ah];simp[A9,Bn,Ak]
  ·show ∀id∈A9 (Bu s.tm d _ i),_;rw[Ad _ _ e];exact h.wfT i hi
theorem DB {x y:Option R}(h:V1 x y=some r):x=some r∧y=some r:=by
 unfold V1 at h;split at h
 ·rename_i e;exact⟨h,e ▸ h⟩
 ·cases h
theorem EW (h:B3 N w0 X0 Y β s a w){F:St->Option R}(hk:MY ops o s F=some r):∃s',F s'=some r∧B3 N w0 X0 Y β s' a w:=by
 unfold MY at hk;split at hk
 ·exact⟨s,hk,h⟩
 ·split at hk
  ·exact⟨s,hk,h⟩
  ·split at hk
   ·rename_i d _ ht;obtain⟨b,hb⟩:=h.known ht;obtain⟨h1,h2⟩:=DB hk;cases b
    ·exact⟨_,h2,hb⟩
    ·exact⟨_,h1,hb⟩
   ·exact⟨s,hk,h⟩
theorem Sj {G:Glo}(H1:IR P G w0 X0)(C4:∀f args res,call f args=some res->C1 G P f args res){Q:Exit->Act->World->Prop}(hQ:∀s' a' w' β',K s'=some r->B3 N w0 X0 Y β' s' a' w'->Q .normal a' w'):
  ∀(l:List Nat) (os:List Oper),l.length=os.length->(∀(k i:Nat),l[k]?=some i->ops[i]?=os[k]?)->∀{s:St} {a:Act} {w:World} {β:Bt},B3 N w0 X0 Y β s a w->EO C P N call ops os s K=some r->wpOps P ops Q l a w
 |[],[],_,_,s,a,w,β,h,hk=>by
  show Q .normal a w;exact hQ s a w β hk h
 |[],_::_,hl,_,_,_,_,_,_,_=>by cases hl
 |_::_,[],hl,_,_,_,_,_,_,_=>by cases hl
 |i::l,o::os,hl,hi,s,a,w,β,h,hk=>by
  rw[wpOps_cons];obtain⟨s1,hk,h⟩:=EW h hk;obtain⟨s',hs',hn⟩:=Q5 h H1 C4 (by simpa using hi 0 i rfl) hk
  exact hn _ _ fun a' w' β' h'=>Sj H1 C4 hQ l os (by simpa using hl) (fun k j hj=>by simpa using hi (k+1) j (by simpa using hj)) h' hs'
theorem B3.drew (h:B3 N w0 X0 Y β s a w):B3 N w0 X0 Y β s a { w with drawn:=w.drawn+1 }:=by
 have:=h.stepR (d:=none) (v:=.top) (nw:=[]) (val:=undef) (w':={ w with drawn:=w.drawn+1 }) (β':=β) rfl rfl
  ⟨rfl,rfl,rfl,⟨Nat.le_refl _,fun _ _ _=>rfl,fun _ _=>Gd.refl _ _⟩,fun _ _=>rfl,by simp,by simp,by simp,by simp,by simp,.top _,by simp[A9,Bn,Ak]⟩
 exact this
theorem FI (h:B3 N w0 X0 Y β s a w){G:Glo}(H1:IR P G w0 X0)(C4:∀f args res,call f args=some res->C1 G P f args res){id:Nat}{Q:Exit->Act->World->Prop}
  (hk:EO C P N call ops ops.toList s K=some r)(hQ:∀s' a' w' β',K s'=some r->B3 N w0 X0 Y β' s' a' w'->Q .normal a' w'):(Code.region id ops false).wp P Q a w:=by
 refine wp_region (Sj H1 C4 hQ (List.range ops.size) ops.toList (by simp) (fun k i hi=>?_) h hk)
 rw[List.getElem?_range] at hi
 ·simp at hi;subst hi;simp
 ·rcases Nat.lt_or_ge k ops.size with h'|h'
  ·exact h'
  ·rw[List.getElem?_eq_none (by simpa using h')] at hi;cases hi
def Jw (n:Nat)(listed:Array Bool):List Nat:=(List.range n).filter fun i=> !listed.getD i true
def Aj7 (ops:Array Oper)(listed:Array Bool)(o:Oper):Prop:=∀e∈o.after,Region.binds .any e=true->listed.getD e.on false=true
theorem testBit_or {a b j:Nat}:(a ||| b).testBit j=(a.testBit j||b.testBit j):=Nat.testBit_or a b j
theorem DA {acc:List Nat}{j:Nat}:∀(es:List Edge)(v:Nat),(es.foldl (fun s e=>bif Region.binds .any e then s ||| 2 ^ e.on ||| acc.getD e.on 0 else s) v).testBit j=true ->
  v.testBit j=true∨∃e∈es,Region.binds .any e=true∧(j=e.on∨(acc.getD e.on 0).testBit j=true)
 |[],v,h=>.inl h
 |e::es,v,h=>by
  rcases DA es _ h with h|⟨e',he',h⟩
  ·cases hb:Region.binds .any e<;>simp only[hb] at h
   ·exact .inl h
   ·simp only[cond_true,Nat.testBit_or,Bool.or_eq_true] at h;rcases h with (h|h)|h
    ·exact .inl h
    ·refine .inr ⟨e,by simp,hb,.inl ?_⟩
     rw[Nat.testBit_two_pow] at h;exact (of_decide_eq_true h).symm
    ·exact .inr ⟨e,by simp,hb,.inr h⟩
  ·exact .inr ⟨e',by simp[he'],h⟩
theorem M5 {listed:Array Bool}(hc:∀(j:Nat) oj,ops[j]?=some oj->listed.getD j false=true->Aj7 ops listed oj):
  ∀(rest done:List Oper) (acc:List Nat),ops.toList=done++rest->acc.length=done.length ->
   (∀(k:Nat) o,done[k]?=some o->Aj7 ops listed o->∀j,(acc.getD k 0).testBit j=true->listed.getD j false=true) ->
   ∀(k:Nat) o,ops[k]?=some o->Aj7 ops listed o->∀j,((Gl rest acc).getD k 0).testBit j=true->listed.getD j false=true
 |[],done,acc,he,_,h,k,o,ho,hf,j,hj=>by
  refine h k o ?_ hf j hj;rw[List.append_nil] at he;rw[←he]
  simpa using ho
 |o'::rest,done,acc,he,hl,h,k,o,ho,hf,j,hj=>by
  refine M5 hc rest (done++[o']) _ (by rw[he];simp) (by simp[hl]) ?_ k o ho hf j hj
  intro k o ho hf j hj;rcases Nat.lt_trichotomy k done.length with hlt|GY|hgt
  ·rw[List.getElem?_append_left hlt] at ho;rw[List.getD_eq_getElem?_getD,List.getElem?_append_left (by omega),←List.getD_eq_getElem?_getD] at hj
   exact h k o ho hf j hj
  ·subst GY;simp at ho;subst ho;rw[←hl] at hj;simp only[List.getD_eq_getElem?_getD,List.getElem?_append_right (Nat.le_refl _),Nat.sub_self,List.getElem?_cons_zero,Option.getD_some] at hj
   have hj:(o'.after.toList.foldl (fun s e=>bif Region.binds .any e then s ||| 2 ^ e.on ||| acc.getD e.on 0 else s) 0).testBit j=true:=by
    simpa only[List.getD_eq_getElem?_getD] using hj
   rcases DA _ _ hj with h0|⟨e,hm,hb,h1⟩
   ·simp at h0
   ·have Ys:=hf e (by simpa using hm) hb
    rcases h1 with h1|h1
    ·rw[h1];exact Ys
    ·cases hd:done[e.on]? with
     |none=>
      have:acc.getD e.on 0=0:=by
       rw[List.getD_eq_getElem?_getD,List.getElem?_eq_none (by rw[hl];exact List.getElem?_eq_none_iff.1 hd)]
       rfl
      rw[this] at h1;simp at h1
     |some oe=>
      have hoe:ops[e.on]?=some oe:=by
       rw[←Array.getElem?_toList,he,List.getElem?_append_left (by
        rcases Nat.lt_or_ge e.on done.length with h'|h'
        ·exact h'
        ·rw[List.getElem?_eq_none h'] at hd;cases hd)]
       exact hd
      exact h e.on oe hd (hc e.on oe hoe Ys) j h1
  ·rw[List.getElem?_eq_none (by simp;omega)] at ho
   cases ho
theorem Su {bs:List Nat}:∀(l:List Oper)(n:Nat),Xh C P ops bs l n=true->∀(k:Nat) o,l[k]?=some o->∀(j:Nat) x,ops[j]?=some x->j<n+k->Yj C P ops x o=true->(bs.getD (n+k) 0).testBit j=true
 |[],_,_,k,o,ho,_,_,_,_,_=>by simp at ho
 |o'::l,n,h,k,o,ho,j,x,hx,hj,Lp=>by
  simp only[Xh,Bool.and_eq_true] at h;cases k with
  |zero=>
   simp at ho;subst ho
   have:=List.all_eq_true.1 h.1 (x,j) (by
    rw[List.mem_zipIdx_iff_getElem?]
    simpa using hx)
   simp only[Lp,Bool.not_true,Bool.or_false,Bool.or_eq_true,Bool.not_eq_true'] at this;rcases this with h'|h'
   ·have:Nat.blt j n=true:=Nat.ble_eq_true_of_le (by omega)
    rw[this] at h';cases h'
   ·exact h'
  |succ k=>
   have:=Su l (n+1) h.2 k o (by simpa using ho) j x hx (by omega) Lp
   rwa [show n+(k+1)=n+1+k by omega]
theorem G6 {n i:Nat}{listed:Array Bool}:i∈Jw n listed↔i<n∧listed.getD i true=false:=by
 unfold Jw;simp[List.mem_filter]
theorem Rt {n i:Nat}{listed:Array Bool}(hi:i∈Jw n listed)(J1:listed.size=n):∃l1 l2,Jw n listed=l1++i::l2∧Jw n (listed.setIfInBounds i true)=l1++l2∧∀j∈l1,j<i:=by
 obtain⟨hlt,Hl⟩:=G6.1 hi
 have hr:List.range n=List.range i++i::(List.range (n-i-1)).map (i+1 + ·):=by
  conv=>lhs;rw[show n=i+(1+(n-i-1)) by omega]
  rw[List.range_add,List.range_add];simp[Nat.add_assoc]
 refine⟨(List.range i).filter fun i=> !listed.getD i true,((List.range (n-i-1)).map (i+1 + ·)).filter fun i=> !listed.getD i true,?_,?_,fun j hj=>?_⟩
 ·unfold Jw;rw[hr,List.filter_append,List.filter_cons_of_pos (by rw[Hl];rfl)]
 ·unfold Jw;rw[hr,List.filter_append,List.filter_cons_of_neg (by simp[J1,hlt])]
  congr 1
  ·refine List.filter_congr fun j hj=>?_
   rw[getD_set_ne true (by have:=List.mem_range.1 hj;omega)]
  ·refine List.filter_congr fun j hj=>?_
   obtain⟨k,_,rfl⟩:=List.mem_map.1 hj;rw[getD_set_ne true (by omega)]
 ·exact List.mem_range.1 (List.mem_filter.1 hj).1
theorem Abn (h:B3 N w0 X0 Y β s a w)(o:Oper):LG C P o s:=by
 refine⟨fun y _ i hi=>D0 h y i hi,fun _ _ y _ i hi c hc p hp k hk=>h.wfB i c hc p hp k hk⟩
theorem CD (YL:(ops.toList.zipIdx.all fun q=>q.1.after.toList.all fun e=> !Region.binds .any e||Nat.blt e.on q.2)=true) {listed:Array Bool}(inv:HeadInv .any ops ops.size listed)(hr:Region.ready .any ops listed=[]):Jw ops.size listed=[]:=by
 cases hp:Jw ops.size listed with
 |nil=>rfl
 |cons i l=>
  exfalso;have hi:i∈Jw ops.size listed:=by rw[hp];simp
  obtain⟨hlt,Hl⟩:=G6.1 hi;obtain⟨l1,l2,h1,_,h3⟩:=Rt hi inv.size
  have Ys:l1=[]:=by
   cases l1 with
   |nil=>rfl
   |cons j l1=>
    rw[hp] at h1;simp at h1;have:=h3 j (by simp)
    omega
  subst Ys
  have Arw:∀j,j<i->listed.getD j false=true:=by
   intro j hj;cases hh:listed.getD j false with
   |true=>rfl
   |false=>
    have:j∈Jw ops.size listed:=G6.2 ⟨by omega,getD_in (by rw[inv.size];omega) hh⟩
    have hs:(Jw ops.size listed).Pairwise (· < ·):=List.Pairwise.filter _ List.pairwise_lt_range
    rw[h1] at this hs;simp at this;rcases this with e|e
    ·omega
    ·have:=(List.pairwise_cons.1 hs).1 j e;omega
  have:i∈Region.ready .any ops listed:=by
   refine mem_ready.2 ⟨Hl,ops[i],Array.getElem?_eq_getElem hlt,fun e he hb=>Arw _ ?_⟩
   have:=List.all_eq_true.1 YL (ops[i],i) (by
    rw[List.mem_zipIdx_iff_getElem?];simp[hlt])
   have:=List.all_eq_true.1 this e (Array.mem_toList_iff.2 he);simp only[hb,Bool.not_true,Bool.false_or] at this;exact Nat.lt_of_succ_le (Nat.le_of_ble_eq_true this)
  rw[hr] at this;simp at this
theorem DU {G:Glo}(H1:IR P G w0 X0)(C4:∀f args res,call f args=some res->C1 G P f args res)(K1:DJ C P ops=true){Q:Exit->Act->World->Prop}(hQ:∀s' a' w' β',K s'=some r->B3 N w0 X0 Y β' s' a' w'->Q .normal a' w'):
  ∀(fuel:Nat) {listed:Array Bool} {s:St} {a:Act} {w:World} {β:Bt},HeadInv .any ops ops.size listed->(Jw ops.size listed).length=fuel->B3 N w0 X0 Y β s a w->Kg C P N call ops ((Jw ops.size listed).filterMap (ops[·]?)) s K=some r->wpAny P .any ops Q fuel listed a w:=by
 unfold DJ at K1;simp only[Bool.and_eq_true] at K1;obtain⟨YL,Ag5⟩:=K1;intro fuel
 induction fuel with
 |zero=>
  intro listed s a w β inv hf h hk;have hp:=List.eq_nil_of_length_eq_zero hf;rw[hp] at hk;refine⟨?_,hQ s a w β hk h⟩;cases hr:Region.ready .any ops listed with
  |nil=>rfl
  |cons i l=>
   exfalso;have hi:i∈Region.ready .any ops listed:=by rw[hr];simp
   obtain⟨Hl,o,ho,_⟩:=mem_ready.1 hi;have:i∈Jw ops.size listed:=G6.2 ⟨(Array.getElem?_eq_some_iff.1 ho).1,Hl⟩;rw[hp] at this;simp at this
 |succ fuel ih=>
  intro listed s a w β inv hf h hk;refine⟨fun hr=>?_,fun i hi=>?_⟩
  ·rw[CD YL inv hr] at hf;cases hf
  ·obtain⟨Hl,o,ho,Jy⟩:=mem_ready.1 hi;have hlt:i<ops.size:=(Array.getElem?_eq_some_iff.1 ho).1;obtain⟨l1,l2,h1,h2,h3⟩:=Rt (G6.2 ⟨hlt,Hl⟩) inv.size;rw[h1,List.filterMap_append,List.filterMap_cons_some ho] at hk
   have I5:∀x∈l1.filterMap (ops[·]?),Sp C P ops x o:=by
    intro x hx;obtain⟨j,hj,hxj⟩:=List.mem_filterMap.1 hx;refine ZL ?_;cases Lp:Yj C P ops x o with
    |false=>rfl
    |true=>
     exfalso;have Qi:=Su ops.toList 0 Ag5 i o (by simpa using ho) j x hxj (by have:=h3 j hj;omega) Lp
     rw[Nat.zero_add] at Qi;have hjl:=M5 (listed:=listed) (fun j oj hj hl=>inv.closed j oj hj hl) ops.toList [] [] (by simp) rfl (by simp) i o ho Jy j Qi
     have:j∈Jw ops.size listed:=by rw[h1];simp[hj]
     have:=getD_both (G6.1 this).2;rw[hjl] at this;cases this
   obtain⟨s',hs',hn⟩:=Q5 h H1 C4 ho (TL (Abn h o) I5 hk);refine hn _ _ fun a' w' β' h'=>ih (inv.set hi hlt) ?_ h' ?_
   ·rw[h2];rw[h1] at hf;simp at hf ⊢;omega
   ·rw[h2,List.filterMap_append];exact hs'
theorem Vi (h:B3 N w0 X0 Y β s a w){G:Glo}(H1:IR P G w0 X0)(C4:∀f args res,call f args=some res->C1 G P f args res)(hm:P.follows .mixedOrders=true)(K1:DJ C P ops=true){Q:Exit->Act->World->Prop}
  (hk:Kg C P N call ops ops.toList s K=some r)(hQ:∀s' a' w' β',K s'=some r->B3 N w0 X0 Y β' s' a' w'->Q .normal a' w'):wpAny P .any ops Q ops.size (Array.replicate ops.size false) a { w with drawn:=w.drawn+1 }:=by
 have hp:Jw ops.size (Array.replicate ops.size false)=List.range ops.size:=by
  unfold Jw;refine List.filter_eq_self.2 fun i hi=>?_
  have:=List.mem_range.1 hi;simp[this]
 refine DU (C:=C) H1 C4 K1 hQ ops.size ⟨by simp,fun j oj _ hl=>(by rw[getD_replicate_false] at hl;cases hl),fun t ht ht'=>by omega⟩ (by rw[hp];simp) h.drew ?_
 rw[hp]
 have:(List.range ops.size).filterMap (ops[·]?)=ops.toList:=by
  refine List.ext_getElem? fun k=>?_
  have:∀(n:Nat),n<=ops.size->(List.range n).filterMap (ops[·]?)=ops.toList.take n:=by
   intro n
   induction n with
   |zero=>intro _;rfl
   |succ n ih=>
    intro hn;rw[List.range_succ,List.filterMap_append,ih (by omega),List.take_add_one]
    congr 1
    have:ops[n]?=some ops[n]:=Array.getElem?_eq_getElem (by omega)
    simp[this]
  rw[this ops.size (Nat.le_refl _)]
  congr 1
  exact List.take_of_length_le (by simp)
 rw[this];exact hk
theorem EK (h:B3 N w0 X0 Y β s a w){G:Glo}(H1:IR P G w0 X0)(C4:∀f args res,call f args=some res->C1 G P f args res)(hm:P.follows .mixedOrders=true)(K1:DJ C P ops=true){id:Nat}{Q:Exit->Act->World->Prop}
  (hk:Kg C P N call ops ops.toList s K=some r)(hQ:∀s' a' w' β',K s'=some r->B3 N w0 X0 Y β' s' a' w'->Q .normal a' w'):(Code.region id ops true).wp P Q a w:=
 wp_region_any hm (Vi h H1 C4 hm K1 hk hQ)
end
end
section
open Go.RowKit
section
variable {R R':Type} {Rel:Option R->Option R'->Prop} {P:Program} {N:Nat} {tm tm':Nat->PV} {hp Cu:Nat->Option A3} {o:Oper}
theorem VB (hn:Rel none none){C:Fy}{call:Aj}{K:St->Option R}{K':St->Option R'}(I5:J9 o.op=true)(Hi:∀x∈o.op.operands.toList,Bf tm x=Bf tm' x)
  (hS:∀i,Rw o tm' Cu i->hp i=Cu i∨(hp i=none∧∀b,Rel none b)) (VQ:∀d,o.dst=some d->hp d=Cu d)
  (hK:∀v B4 D6,(∀M,AN M (Rw o tm' Cu) o.dst hp Cu B4 D6)->Rel (K ⟨A2 tm o.dst v,B4⟩) (K' ⟨A2 tm' o.dst v,D6⟩)):Rel (Qg C P N call ⟨tm,hp⟩ o K) (Qg C P N call ⟨tm',Cu⟩ o K'):=by
 unfold Qg;have hl:∀x∈o.op.operands.toList,∀i∈A9 (Bf tm' x),Rw o tm' Cu i:=fun x hx i hi=>.inl ⟨x,hx,hi⟩
 generalize hLd:Rw o tm' Cu=S at *
 generalize QW:o.op=op at *
 unfold J9 at I5;split at I5
 ·rename_i c
  have Ig:∀x∈c.args.toList,x∈(Op.call c).operands.toList:=by
   intro x hx;simp only[Op.operands,Call.operands,Array.toList_append,List.mem_append];exact .inr hx
  split at I5
  ·rename_i hc;simp only[hc];refine Ce hn fun d hd=>Ax hn fun x _ hx=>Ax hn fun y _ hy=>D2 hn (Ax hn fun _ _ _=>Ax hn fun _ _ _=>?_)
   subst hy;have VE:=Ig x (by rw[hx];simp)
   have hym:=Ig y (by rw[hx];simp)
   simp only[Hi x VE,Hi y hym];refine R7 hn hS (VQ d hd) (fun i hi=>hl x VE i (Eh hi)) (fun i hi=>hl y hym i (Eh hi)) fun v B4 D6 hh=>?_
   have:=hK v B4 D6 (by rw[hd];exact hh)
   rw[hd] at this;exact this
  ·cases I5
 ·cases I5
theorem L6 {C:Fy}{call:Aj}(I5:J9 o.op=true)(Hi:∀x∈o.op.operands.toList,Bf tm x=Bf tm' x)(hS:∀i,Rw o tm' Cu i->hp i=Cu i)(VQ:∀d,o.dst=some d->hp d=Cu d){s1:St}
  (h:Qg C P N call ⟨tm,hp⟩ o some=some s1):∃v B4 D6,s1=⟨A2 tm o.dst v,B4⟩∧Qg C P N call ⟨tm',Cu⟩ o some=some ⟨A2 tm' o.dst v,D6⟩∧∀M,AN M (Rw o tm' Cu) o.dst hp Cu B4 D6:=by
 have:=VB (P:=P) (N:=N) (C:=C) (call:=call) (o:=o) (tm:=tm) (tm':=tm') (hp:=hp) (Cu:=Cu) (K:=some) (K':=some)
  (Rel:=fun (a b:Option St)=>∀s1,a=some s1->∃v B4 D6,s1=⟨A2 tm o.dst v,B4⟩∧b=some ⟨A2 tm' o.dst v,D6⟩∧∀M,AN M (Rw o tm' Cu) o.dst hp Cu B4 D6) (fun _ h=>by cases h) I5 Hi (fun i hi=>.inl (hS i hi)) VQ
  (fun v B4 D6 hT s1 h=>by cases h;exact⟨v,B4,D6,rfl,rfl,hT⟩)
 exact this s1 h
end
section
variable {R R':Type} {r:R} {r':R'} {C:Fy} {P:Program} {N:Nat} {call:Aj} {ops:Array Oper} {o x:Oper} {s s1 s2:St} {K:St->Option R}
theorem Pi {tm:Nat->PV}(h:Fm C P ops o tm=true):Na C P o.op=true:=by
 unfold Fm at h;simp only[Bool.and_eq_true] at h;exact h.1
theorem DX (h:J9 o.op=true):Na C P o.op=true:=by
 unfold J9 at h;split at h
 ·rename_i c hc;rw[hc];split at h
  ·rename_i hcc;simp only[Na,hcc];exact h
  ·cases h
 ·cases h
theorem Kf (h:Cr C P N call ops x s K=some r):∃s1,Cr C P N call ops x s some=some s1∧CM P x s s1∧(O0 P x.op=true->s1.hp=s.hp)∧K s1=some r:=by
 cases hx:Fm C P ops x s.tm
 ·rw[H3 hx] at h ⊢;cases ex:gE C P N call ops x s with
  |none=>rw[ex] at h;cases h
  |some q=>
   rw[ex] at h;obtain⟨hb,h1⟩:=Ag h;simp only[Bool.and_eq_true] at hb;refine⟨_,?_,⟨fun t ht=>Lk ht,fun i hi=>Kq hb.2 hi,fun hm i hi=>?_⟩,fun hl=>?_,h1⟩
   ·show Au _ _=_;rw[hb.1,hb.2];rfl
   ·show Al (Ac s.hp q.2.1) q.2.2 i=s.hp i;rw[Ev hb.2 hi,((Pg ex).1 hm).1];simp
   ·show Al (Ac s.hp q.2.1) q.2.2=s.hp;obtain⟨h1,h2⟩:=PY (.inl hl) ex;rw[h1,h2]
    funext i
    show Ac s.hp [] i=_;rw[Ba];simp
 ·rw[Gq hx] at h ⊢
  exact Xt (P:=P) (N:=N) (o:=x) (tm:=s.tm) (tm':=s.tm) (hp:=s.hp) (K':=some) (Rel:=fun (a:Option R) (b:Option St)=>a=some r->∃s1,b=some s1∧CM P x s s1∧(O0 P x.op=true->s1.hp=s.hp)∧K s1=some r) (fun h=>by cases h) (fun _ _=>rfl) (fun v B4 hh h=>⟨_,rfl,⟨fun t ht=>Lk ht,hh,fun hm=>(by
   rw[Sf (Pi hx)] at hm;cases hm)⟩,fun hl=>(by
   have:=Pi hx;rw[H4 hl] at this;cases this),h⟩) h
theorem Pz {K':St->Option R'}(h:Cr C P N call ops x s some=some s1)(hk:K' s1=some r'):Cr C P N call ops x s K'=some r':=by
 cases hx:Fm C P ops x s.tm
 ·rw[H3 hx] at h ⊢;cases ex:gE C P N call ops x s with
  |none=>rw[ex] at h;cases h
  |some q=>
   rw[ex] at h;obtain⟨hb,h1⟩:=Ag h;show Au _ _=_;rw[hb];cases h1;exact hk
 ·rw[Gq hx] at h ⊢;exact Xt (P:=P) (N:=N) (o:=x) (tm:=s.tm) (tm':=s.tm) (hp:=s.hp) (K:=some) (Rel:=fun (a:Option St) (b:Option R')=>a=some s1->b=some r') (fun h=>by cases h) (fun _ _=>rfl) (fun v B4 hh h=>by cases h;exact hk) h
theorem EI {d:Nat}{t tx:TypeId}{b y:PV}(h:La P N s d t tx b y K=some r):s.hp d=none:=by
 unfold La at h;split at h
 ·obtain⟨_,h⟩:=Ag h;cases hI:Sb P tx
  ·rw[hI,cond_false] at h;refine U5 (P:=P) (tm:=s.tm) (tm':=s.tm) (hp:=s.hp) (Cu:=s.hp) (S:=fun _=>True) (K':=fun _ _=>(none:Option R)) (Rel:=fun (a:Option R) (_:Option R)=>a=some r->s.hp d=none) (fun h=>by cases h) (fun _ _=>.inl rfl) (fun _ _=>trivial) (fun m new h=>?_) h
   split at h
   ·split at h
    ·obtain⟨hb,_⟩:=Ag h;simp only[Bool.and_eq_true,Option.isNone_iff_eq_none] at hb;simp only[hb]
    ·cases h
   ·obtain⟨_,_,_,h,_⟩:=Eg h;obtain⟨hb,_⟩:=Ag h;simp only[Bool.and_eq_true,Option.isNone_iff_eq_none] at hb;simp only[hb]
  ·rw[hI,cond_true] at h;unfold O5 at h;obtain⟨_,_,_,h⟩:=Ci h;obtain⟨_,_,_,h,_⟩:=Eg h;obtain⟨hb,_⟩:=Ag h;simp only[Bool.and_eq_true,Option.isNone_iff_eq_none] at hb;simp only[hb]
 ·cases h
theorem Ae3 (hw:LG C P o s)(hwx:∀y∈x.op.operands.toList,∀i∈A9 (Bf s.tm y),s.hp i≠none) (xo:∀d,x.dst=some d->d ∉ C3 ops o)(ne:∀d,x.dst=some d->o.dst≠some d)(ox:∀d,o.dst=some d->d ∉ C3 ops x)
  (Cf:J9 x.op=true)(RM:J9 o.op=true)(KX:∀i,Rw x s.tm s.hp i->¬Rw o s.tm s.hp i)(hx:Fm C P ops x s.tm=true)(ho:Fm C P ops o s.tm=true)
  (h:Cr C P N call ops x s (fun s1=>Cr C P N call ops o s1 K)=some r):Cr C P N call ops o s (fun s1=>Cr C P N call ops x s1 K)=some r:=by
 obtain⟨tm,hp⟩:=s;obtain⟨s1,e1,_,_,h⟩:=Kf h;obtain⟨s2,e2,_,_,h⟩:=Kf h;rw[Gq hx] at e1
 have hSx:∀i,Rw x tm hp i->hp i≠none:=by
  rintro i (⟨y,hy,hi⟩|⟨I5,_⟩)
  ·exact hwx y hy i hi
  ·rw[Cf] at I5;cases I5
 have hSo:∀i,Rw o tm hp i->hp i≠none:=by
  rintro i (⟨y,hy,hi⟩|⟨I5,_⟩)
  ·exact hw.1 y hy i hi
  ·rw[RM] at I5;cases I5
 obtain⟨vx,hpx,Afc,rfl,e1',T1⟩:=L6 Cf (fun _ _=>rfl) (fun _ _=>rfl) (fun _ _=>rfl) e1
 have:Afc=hpx:=by
  rw[e1] at e1';injection e1' with q;injection q with _ q;exact q.symm
 subst this;have t1:∀t∈C3 ops o,A2 tm x.dst vx t=tm t:=Do xo;have t1o:=D8 (ops:=ops) (o:=o) t1;rw[Gq (by rw[Fz t1];exact ho)] at e2
 have hRo:∀i,Rw o (A2 tm x.dst vx) Afc i↔Rw o tm hp i:=by
  intro i;constructor
  ·rintro (⟨y,hy,hi⟩|⟨I5,_⟩)
   ·exact .inl ⟨y,hy,by rw[←t1o y hy];exact hi⟩
   ·rw[RM] at I5;cases I5
  ·rintro (⟨y,hy,hi⟩|⟨I5,_⟩)
   ·exact .inl ⟨y,hy,by rw[t1o y hy];exact hi⟩
   ·rw[RM] at I5;cases I5
 have Agx:∀{s:St} {o:Oper} {s2:St},J9 o.op=true->Qg C P N call s o some=some s2->∀d,o.dst=some d->s.hp d=none:=by
  intro s o s2 RM e d hd;unfold Qg at e;unfold J9 at RM;split at RM
  ·rename_i c hc;rw[hc] at e;simp only at e;split at RM
   ·rename_i hcc;rw[hcc] at e;simp only[hd,C7] at e;obtain⟨_,_,_,e⟩:=Ar e;obtain⟨_,_,_,e⟩:=Ar e;obtain⟨_,e⟩:=Cl e;obtain⟨_,_,_,e⟩:=Ar e;obtain⟨_,_,_,e⟩:=Ar e;exact EI e
   ·cases RM
  ·cases RM
 have Ary:∀d,o.dst=some d->hp d=none:=by
  intro d hd;have h0:=Agx RM e2 d hd;cases hh:hp d with
  |none=>rfl
  |some b=>exact absurd h0 ((T1 0).keep d (by rw[hh];simp))
 have Aoa:=Agx Cf e1;simp only at Aoa;have hoS:∀d,o.dst=some d->¬Rw x tm hp d:=fun d hd hR=>hSx d hR (Ary d hd)
 have hxS:∀d,x.dst=some d->¬Rw o tm hp d:=fun d hd hR=>hSo d hR (Aoa d hd)
 obtain⟨vo,Aum,hpo,rfl,e3,T2⟩:=L6 (tm':=tm) (Cu:=hp) RM t1o (fun i hi=>(T1 0).far i (fun hR=>KX i hR hi) (hSo i hi)) (fun d hd=>((T1 (d+1)).off d (by omega) (fun e=>ne d e hd) (.inl (hoS d hd))).1) e2
 obtain⟨vo',Asz,IM,e3a,e3b,T3⟩:=L6 (tm':=tm) (Cu:=hp) RM (fun _ _=>rfl) (fun _ _=>rfl) (fun _ _=>rfl) e3
 rw[e3] at e3b
 have Av6:Asz=hpo∧IM=hpo:=by
  injection e3a with _ q1;injection e3b with q2;injection q2 with _ q3;exact⟨q1.symm,q3.symm⟩
 obtain⟨rfl,rfl⟩:=Av6;have t2:∀t∈C3 ops x,tm t=A2 tm o.dst vo t:=fun t ht=>(Do ox t ht).symm
 have t2x:=D8 (ops:=ops) (o:=x) t2
 have hRx:∀i,Rw x (A2 tm o.dst vo) IM i↔Rw x tm hp i:=by
  intro i;constructor
  ·rintro (⟨y,hy,hi⟩|⟨I5,_⟩)
   ·exact .inl ⟨y,hy,by rw[t2x y hy];exact hi⟩
   ·rw[Cf] at I5;cases I5
  ·rintro (⟨y,hy,hi⟩|⟨I5,_⟩)
   ·exact .inl ⟨y,hy,by rw[←t2x y hy];exact hi⟩
   ·rw[Cf] at I5;cases I5
 obtain⟨vx2,Aws,Avm,e4a,e4,T4⟩:=L6 (tm':=A2 tm o.dst vo) (Cu:=IM) Cf t2x (fun i hi=>((T3 0).far i (KX i ((hRx i).1 hi)) (hSx i ((hRx i).1 hi))).symm) (fun d hd=>((T3 (d+1)).off d (by omega) (fun e=>ne d hd e) (.inl (hxS d hd))).1.symm) e1
 have hvx:A2 tm x.dst vx=A2 tm x.dst vx2∧Afc=Aws:=by
  injection e4a with q1 q2;exact⟨q1,q2⟩
 obtain⟨hvx,rfl⟩:=hvx;obtain⟨_,AH,Wv,e5a,e5b,T5⟩:=L6 (tm':=A2 tm x.dst vx) (Cu:=Afc) RM (fun _ _=>rfl) (fun _ _=>rfl) (fun _ _=>rfl) e2
 have hq:AH=Aum:=by injection e5a with _ q1;exact q1.symm
 subst hq;obtain⟨_,hu1,hu2,e6a,e6b,T6⟩:=L6 (tm':=A2 tm o.dst vo) (Cu:=IM) Cf (fun _ _=>rfl) (fun _ _=>rfl) (fun _ _=>rfl) e4
 have hu:hu1=Avm:=by injection e6a with _ q1;exact q1.symm
 subst hu
 have Ig:AH=hu1:=by
  funext i
  by_cases hi:Rw o tm hp i∨o.dst=some i
  ·have hxi:¬Rw x tm hp i:=by
    rcases hi with hi|hi
    ·exact fun hR=>KX i hR hi
    ·exact hoS i hi
   have hdi:x.dst≠some i:=by
    rcases hi with hi|hi
    ·exact fun e=>hxS i e hi
    ·exact fun e=>ne i e hi
   rw[(T2 0).same i ((T1 (i+1)).off i (by omega) hdi (.inl hxi)).1]
   exact ((T6 (i+1)).off i (by omega) hdi (.inl fun hR=>hxi ((hRx i).1 hR))).1.symm
  ·have hoi:¬Rw o tm hp i:=fun e=>hi (.inl e)
   have hdi:o.dst≠some i:=fun e=>hi (.inr e)
   rw[((T5 (i+1)).off i (by omega) hdi (.inl fun hR=>hoi ((hRo i).1 hR))).1]
   exact (T4 0).same i ((T3 (i+1)).off i (by omega) hdi (.inl hoi)).1.symm
 refine Pz (s1:=⟨A2 tm o.dst vo,IM⟩) (by rw[Gq ho];exact e3) ?_
 refine Pz (s1:=⟨A2 (A2 tm o.dst vo) x.dst vx2,hu1⟩) (by rw[Gq (by rw[←Fz t2];exact hx)];exact e4) ?_
 rw[←H5 ne,←hvx,←Ig];exact h
theorem R9 (hM:Na C P o.op=true){i:Nat}(h:Rw o s.tm s.hp i):i∈Jo C P s o:=by
 unfold Jo;rw[hM];cases hA:J9 o.op
 ·simp only[Bool.not_false,Bool.and_self,cond_true,List.mem_append];rcases h with⟨y,hy,hi⟩|⟨_,id,c,⟨y,hy,hi⟩,hc,p,hp,hk⟩
  ·exact .inl (List.mem_flatMap.2 ⟨y,hy,hi⟩)
  ·refine .inr (List.mem_flatMap.2 ⟨id,List.mem_flatMap.2 ⟨y,hy,hi⟩,?_⟩);rw[hc];exact List.mem_flatMap.2 ⟨p,hp,hk⟩
 ·simp only[Bool.not_true,Bool.and_false,cond_false,Bool.or_true,cond_true];rcases h with⟨y,hy,hi⟩|⟨hn,_⟩
  ·exact List.mem_flatMap.2 ⟨y,hy,hi⟩
  ·rw[hA] at hn;cases hn
theorem W8 (hl:Na C P o.op=true∨O0 P o.op=true){y:Operand}(hy:y∈o.op.operands.toList){i:Nat}(h:i∈A9 (Bf s.tm y)):i∈Jo C P s o:=by
 rcases hl with hM|hl
 ·exact R9 hM (.inl ⟨y,hy,h⟩)
 ·unfold Jo;rw[H4 hl,hl];exact List.mem_flatMap.2 ⟨y,hy,h⟩
theorem KT (ht:∀t∈C3 ops o,s1.tm t=s.tm t)(hh:Na C P o.op=true->J9 o.op=false->∀y∈o.op.operands.toList,∀i∈A9 (Bf s.tm y),s1.hp i=s.hp i):Jo C P s1 o=Jo C P s o:=by
 have he:=D8 (ops:=ops) (o:=o) ht
 have hl:(o.op.operands.toList.flatMap fun y=>A9 (Bf s1.tm y))=o.op.operands.toList.flatMap fun y=>A9 (Bf s.tm y):=by
  have Ajl:∀l:List Operand,(∀y∈l,Bf s1.tm y=Bf s.tm y)->(l.flatMap fun y=>A9 (Bf s1.tm y))=l.flatMap fun y=>A9 (Bf s.tm y):=by
   intro l
   induction l with
   |nil=>intro _;rfl
   |cons a l ih=>intro h;simp only[List.flatMap_cons];rw[h a (by simp),ih fun y hy=>h y (by simp[hy])]
  exact Ajl _ he
 unfold Jo;simp only[hl];cases hM:(Na C P o.op && !J9 o.op)
 ·rfl
 ·simp only[cond_true];simp only[Bool.and_eq_true,Bool.not_eq_true'] at hM
  congr 1
  have Ajl:∀l:List Nat,(∀i∈l,s1.hp i=s.hp i)->(l.flatMap fun i=>match s1.hp i with|some (.st c)=>c.flatMap Ak|_=>[])=l.flatMap fun i=>match s.hp i with|some (.st c)=>c.flatMap Ak|_=>[]:=by
   intro l
   induction l with
   |nil=>intro _;rfl
   |cons a l ih=>intro h;simp only[List.flatMap_cons];rw[h a (by simp),ih fun y hy=>h y (by simp[hy])]
  exact Ajl _ fun i hi=>by
   obtain⟨y,hy,hi⟩:=List.mem_flatMap.1 hi;exact hh hM.1 hM.2 y hy i hi
theorem Tl {a b:List Nat}(h:TN a b=true){i:Nat}(ha:i∈a)(hb:i∈b):False:=by
 have:=List.all_eq_true.1 h i ha;have h2:b.any (Nat.beq i)=true:=List.any_eq_true.2 ⟨i,hb,Nat.beq_refl i⟩;rw[h2] at this;cases this
theorem RL {a b:List Nat}(h:TN a b=true):TN b a=true:=by
 refine List.all_eq_true.2 fun i hi=>?_
 cases hc:a.any (Nat.beq i)
 ·rfl
 ·obtain⟨j,hj,e⟩:=List.any_eq_true.1 hc;rw[Nat.eq_of_beq_eq_true e] at hi;exact (Tl h hj hi).elim
theorem Rr:Hr C P x o=Hr C P o x:=by
 unfold Hr;cases Na C P x.op<;>cases Na C P o.op<;>cases O0 P x.op<;>cases O0 P o.op<;>cases J9 x.op<;>cases J9 o.op<;>rfl
structure Jd (C:Fy) (P:Program) (ops:Array Oper) (x o:Oper):Prop where
 xo:∀d,x.dst=some d->d ∉ C3 ops o
 ne:∀d,x.dst=some d->o.dst≠some d
 ox:∀d,o.dst=some d->d ∉ C3 ops x
 me:Mz C P x o=false∨Hr C P x o=true
theorem TV (h:Abe C P ops x o=false):Jd C P ops x o:=by
 unfold Abe at h;simp only[Bool.or_eq_false_iff] at h;obtain⟨h1,h2⟩:=h;have hT:=h1;unfold Aaq at h1;simp only[Bool.or_eq_false_iff] at h1
 have a1:Yj C P ops x o=false∨Mz C P x o=true:=by
  cases hc:Mz C P x o
  ·left;unfold Yj;unfold Mz at hc;simp only[Bool.or_eq_false_iff] at hc ⊢;exact⟨⟨⟨h1.1,h1.2⟩,hc.1⟩,hc.2⟩
  ·exact .inr rfl
 refine⟨fun d hd=>?_,fun d hd he=>?_,fun d hd=>?_,?_⟩
 ·have:=h1.1;simp only[hd,Bool.or_eq_false_iff] at this;exact Nq this.1
 ·have:=h1.1;simp only[hd,he,Bool.or_eq_false_iff] at this;rw[Nat.beq_refl] at this;cases this.2
 ·have:=h1.2;simp only[hd] at this;exact Nq this
 ·cases hc:Mz C P x o
  ·exact .inl rfl
  ·rw[hc] at h2;right
   simpa using h2
theorem Jd.apart (ap:Jd C P ops x o)(h:Mz C P x o=false):Sp C P ops x o:=by
 unfold Mz at h;simp only[Bool.or_eq_false_iff,Bool.and_eq_false_iff] at h;refine⟨ap.xo,ap.ne,ap.ox,fun hm=>?_,fun hm=>?_⟩
 ·rcases h.1 with h|h
  ·rw[hm] at h;cases h
  ·exact h
 ·rcases h.2 with h|h
  ·rw[hm] at h;cases h
  ·exact h
theorem Jd.same (ap:Jd C P ops x o)(hk:CM P x s s1)(hl:O0 P x.op=true->s1.hp=s.hp)(hM:Na C P o.op=true)(hA:J9 o.op=false){i:Nat}(hi:s.hp i≠none):s1.hp i=s.hp i:=by
 rcases ap.me with h|h
 ·exact hk.2.2 ((ap.apart h).mo hM) i hi
 ·unfold Hr at h;rw[hA] at h;simp only[Bool.and_false,Bool.or_false,Bool.or_eq_true,Bool.and_eq_true] at h;rcases h with h|h
  ·have:=h.2;rw[H4 (C:=C) (P:=P) this] at hM;cases hM
  ·rw[hl h.2]
theorem LG.keepsS (h:LG C P o s)(ap:Jd C P ops x o)(hk:CM P x s s1)(hl:O0 P x.op=true->s1.hp=s.hp):LG C P o s1:=by
 have QW:∀y∈o.op.operands.toList,Bf s1.tm y=Bf s.tm y:=fun y hy=>D8 (ops:=ops) (o:=o) (fun t ht=>hk.1 t fun hd=>ap.xo t hd ht) y hy
 refine⟨fun y hy i hi=>?_,fun hM hA y hy i hi c hc p hp k hkk=>?_⟩
 ·rw[QW y hy] at hi;exact hk.2.1 i (h.1 y hy i hi)
 ·rw[QW y hy] at hi;rw[ap.same hk hl hM hA (h.1 y hy i hi)] at hc;exact hk.2.1 k (h.2 hM hA y hy i hi c hc p hp k hkk)
theorem Jd.symm (ap:Jd C P ops x o):Jd C P ops o x:=by
 refine⟨ap.ox,fun d hd he=>ap.ne d he hd,ap.xo,?_⟩
 rcases ap.me with h|h
 ·left;unfold Mz at h ⊢;rw[Bool.or_comm];exact h
 ·right;rw[Rr];exact h
theorem Amv (hw:LG C P o s)(hwx:Hr C P x o=true->∀i∈Jo C P s x,s.hp i≠none)(ap:Jd C P ops x o)(hd:Hr C P x o=true->TN (Jo C P s x) (Jo C P s o)=true)
  (h:Cr C P N call ops x s (fun s1=>Cr C P N call ops o s1 K)=some r):Cr C P N call ops o s (fun s1=>Cr C P N call ops x s1 K)=some r:=by
 rcases ap.me with hm|hm
 ·exact Amz hw (ap.apart hm) h
 ·have hd:=hd hm;have hwx:=hwx hm;cases hx:Fm C P ops x s.tm
  ·cases ho:Fm C P ops o s.tm
   ·exact QF hw ap.xo ap.ne ap.ox hx ho h
   ·have hMo:=Pi ho
    have hlx:AJ P ops x s.tm:=by
     cases hl:O0 P x.op
     ·right
      have hMx:Na C P x.op=true:=by
       unfold Hr at hm;simp only[hl,Bool.and_false,Bool.or_false,Bool.or_eq_true,Bool.and_eq_true] at hm;rcases hm with hm|hm
       ·exact hm.1
       ·exact DX hm.1
      cases hv:Fs ops x s.tm with
      |none=>
       exfalso;rw[H3 hx] at h;unfold gE at h;rw[hv] at h;cases h
      |some b=>
       cases b
       ·rfl
       ·unfold Fm at hx;rw[hMx,hv] at hx;cases hx
     ·exact .inl hl
    refine Ada ap.xo ap.ne ap.ox hlx (fun y hy i hi hR=>?_) ho h
    refine Tl hd (W8 ?_ hy hi) (R9 hMo hR);unfold Hr at hm;simp only[Bool.or_eq_true,Bool.and_eq_true] at hm;rcases hm with (hm|hm)|hm
    ·exact .inl hm.1
    ·exact .inr hm.2
    ·exact .inl (DX hm.1)
  ·have hMx:=Pi hx;cases ho:Fm C P ops o s.tm
   ·have hlo:AJ P ops o s.tm:=by
     cases hl:O0 P o.op
     ·right
      have hMo:Na C P o.op=true:=by
       unfold Hr at hm;simp only[hl,Bool.and_false,Bool.false_or,Bool.or_eq_true,Bool.and_eq_true] at hm;rcases hm with hm|hm
       ·exact hm.1
       ·exact DX hm.2
      cases hv:Fs ops o s.tm with
      |none=>
       exfalso;obtain⟨s1,_,hk,_,h⟩:=Kf h;have RI:Fs ops o s1.tm=none:=by rw[Il (fun t ht=>hk.1 t fun hd=>ap.xo t hd ht)];exact hv
       rw[H3 (by unfold Fm;rw[RI];cases Na C P o.op<;>rfl)] at h
       unfold gE at h;rw[RI] at h;cases h
      |some b=>
       cases b
       ·rfl
       ·unfold Fm at ho;rw[hMo,hv] at ho;cases ho
     ·exact .inl hl
    refine Afe hw ap.xo ap.ne ap.ox hlo (fun y hy i hi hR=>?_) hx h
    refine Tl hd (R9 hMx hR) (W8 ?_ hy hi);unfold Hr at hm;simp only[Bool.or_eq_true,Bool.and_eq_true] at hm;rcases hm with (hm|hm)|hm
    ·exact .inr hm.2
    ·exact .inl hm.1
    ·exact .inl (DX hm.2)
   ·have hMo:=Pi ho;unfold Hr at hm;simp only[Bool.or_eq_true,Bool.and_eq_true] at hm;rcases hm with (hm|hm)|hm
    ·rw[H4 (C:=C) (P:=P) hm.2] at hMo;cases hMo
    ·rw[H4 (C:=C) (P:=P) hm.2] at hMx;cases hMx
    ·exact Ae3 hw (fun y hy i hi=>hwx i (W8 (.inl hMx) hy hi)) ap.xo ap.ne ap.ox hm.1 hm.2 (fun i h1 h2=>Tl hd (R9 hMx h1) (R9 hMo h2)) hx ho h
theorem Aam {α:Type}(a b:α)(l:List α)(f:α->Bool):(a::b::l).all f=(b::a::l).all f:=by
 simp only[List.all_cons];cases f a<;>cases f b<;>rfl
theorem Vm {bs:List (List Nat)}:∀(l:List Nat){dn dn':List (Nat × Oper × List Nat)} {s:St}{K:St->Option R},(∀f,dn.all f=dn'.all f)->Ga C P N call ops bs dn l s K=Ga C P N call ops bs dn' l s K
 |[],_,_,_,_,_=>rfl
 |i::l,dn,dn',s,K,h=>by
  unfold Ga;cases ops[i]? with
  |none=>rfl
  |some o=>
   simp only[C7,h]
   congr 2
   funext s'
   exact Vm l fun f=>by simp only[List.all_cons,h]
theorem Xm {bs:List Nat}{i:Nat}(hi:ops[i]?=some o):(V3 C P ops bs).getD i []=R8 C P ops bs i o:=by
 unfold V3;rw[List.getD_eq_getElem?_getD,List.getElem?_map,List.getElem?_zipIdx,Array.getElem?_toList,hi];simp
theorem Np {bs:List Nat}{i j:Nat}:j∈R8 C P ops bs i o↔∃x,ops[j]?=some x∧Hr C P x o=true∧(Nat.blt j i&&(bs.getD i 0).testBit j)=false∧(Nat.blt i j&&(bs.getD j 0).testBit i)=false:=by
 unfold R8;simp only[List.mem_map,List.mem_filter,Bool.and_eq_true,Bool.not_eq_true',Prod.exists];constructor
 ·rintro⟨x,k,⟨hm,⟨h1,h2⟩,h3⟩,rfl⟩
  rw[List.mem_zipIdx_iff_getElem?] at hm;exact⟨x,by simpa using hm,h1,h2,h3⟩
 ·rintro⟨x,hx,h1,h2,h3⟩
  refine⟨x,j,⟨?_,⟨h1,h2⟩,h3⟩,rfl⟩;rw[List.mem_zipIdx_iff_getElem?]
  simpa using hx
theorem Xd {sm:List (List Nat)} {i j:Nat}(h:j∈sm.getD i []):Wp C P sm s i o=Jo C P s o:=by
 unfold Wp;split
 ·rename_i e;rw[e] at h;simp at h
 ·rfl
theorem Abo {sm:List (List Nat)} {i:Nat}(h:sm.getD i []≠[]->Jo C P s1 o=Jo C P s o):Wp C P sm s1 i o=Wp C P sm s i o:=by
 unfold Wp;split
 ·rfl
 ·rename_i e;exact h (by rw[e];simp)
theorem PU {l:List Nat}{j:Nat}:l.any (Nat.beq j)=true↔j∈l:=by
 constructor
 ·intro h;obtain⟨k,hk,e⟩:=List.any_eq_true.1 h;rw[Nat.eq_of_beq_eq_true e];exact hk
 ·intro h;exact List.any_eq_true.2 ⟨j,h,Nat.beq_refl j⟩
theorem Ss {bs:List Nat}{sm:List (List Nat)} (hsm:sm=V3 C P ops bs){i:Nat}(hi:ops[i]?=some o) {l':List Nat}:∀(l:List Nat){dn:List (Nat × Oper × List Nat)} {s:St}{K:St->Option R},LG C P o s ->
  (∀j∈l,j<i∧(bs.getD i 0).testBit j=false∧∀x,ops[j]?=some x->Jd C P ops x o)->Ga C P N call ops sm dn (l++i::l') s K=some r ->
  dn.all (BC C P sm s i o)=true∧Cr C P N call ops o s (fun s1=>Ga C P N call ops sm ((i,o,Wp C P sm s i o)::dn) (l++l') s1 K)=some r
 |[],dn,s,K,hw,_,h=>by
  simp only[List.nil_append] at h ⊢;unfold Ga at h;rw[hi] at h;simp only[C7] at h;obtain⟨hb,h⟩:=Ag h;simp only[Bool.and_eq_true] at hb;exact⟨hb.1,h⟩
 |j::l,dn,s,K,hw,hl,h=>by
  simp only[List.cons_append] at h ⊢;unfold Ga at h;obtain⟨hji,Qi,I5⟩:=hl j (by simp)
  cases hj:ops[j]? with
  |none=>rw[hj] at h;cases h
  |some x=>
   rw[hj] at h;simp only[C7] at h;obtain⟨hb,h⟩:=Ag h;simp only[Bool.and_eq_true] at hb;have ap:=I5 x hj
   have hex:∀k∈Wp C P sm s j x,s.hp k≠none:=fun k hk=>by
    have:=List.all_eq_true.1 hb.2 k hk;intro e;rw[e] at this;cases this
   obtain⟨s1,e1,C9,Ys,h1⟩:=Kf h;obtain⟨ha,h2⟩:=Ss hsm hi l (hw.keepsS ap C9 Ys) (fun k hk=>hl k (by simp[hk])) h1
   have Axd:Jo C P s1 o=Jo C P s o:=KT (ops:=ops) (fun t ht=>C9.1 t fun hd=>ap.xo t hd ht) fun hM hA y hy k hk=>ap.same C9 Ys hM hA (hw.1 y hy k hk)
   have hr1:Wp C P sm s1 i o=Wp C P sm s i o:=Abo fun _=>Axd
   rw[List.all_cons,Bool.and_eq_true] at ha
   have Am7:Nat.blt i j=false:=by
    cases hh:Nat.blt i j
    ·rfl
    ·have:=Nat.le_of_ble_eq_true hh;omega
   have hmi:Hr C P x o=true->j∈sm.getD i []:=fun hs=>by
    rw[hsm,Xm hi];exact Np.2 ⟨x,hj,hs,by rw[Qi,Bool.and_false],by rw[Am7,Bool.false_and]⟩
   have hmj:Hr C P x o=true->i∈sm.getD j []:=fun hs=>by
    rw[hsm,Xm hj];exact Np.2 ⟨o,hi,by rw[Rr];exact hs,by rw[Am7,Bool.false_and],by rw[Qi,Bool.and_false]⟩
   have Af4:Hr C P x o=true->TN (Wp C P sm s j x) (Wp C P sm s i o)=true:=by
    intro hs;have:=ha.1;unfold BC at this;rw[PU.2 (hmi hs),hr1] at this
    simpa using this
   have K1:∀q,BC C P sm s1 i o q=BC C P sm s i o q:=fun q=>by unfold BC;rw[hr1]
   have Jy:dn.all (BC C P sm s i o)=true:=by
    refine List.all_eq_true.2 fun q hq=>?_
    rw[←K1];exact List.all_eq_true.1 ha.2 q hq
   refine⟨Jy,?_⟩;rw[hr1] at h2
   have h3:=Amv hw (fun hs k hk=>hex k (by rw[Xd (hmj hs)];exact hk)) ap (fun hs=>by have:=Af4 hs;rw[Xd (hmj hs),Xd (hmi hs)] at this;exact this)
    (Pz (K':=fun s1=>Cr C P N call ops o s1 (fun s2=>Ga C P N call ops sm ((i,o,Wp C P sm s i o)::(j,x,Wp C P sm s j x)::dn) (l++l') s2 K)) e1 h2)
   obtain⟨s2,e2,D3,GR,h4⟩:=Kf h3;refine Pz e2 ?_
   have hr2:Wp C P sm s2 j x=Wp C P sm s j x:=Abo fun Gh=>by
    obtain⟨q,hq⟩:=List.exists_mem_of_ne_nil _ Gh;refine KT (ops:=ops) (fun t ht=>D3.1 t fun hd=>ap.ox t hd ht) fun hM hA y hy k hk=>ap.symm.same D3 GR hM hA (hex k ?_)
    rw[Xd hq];exact W8 (.inl hM) hy hk
   unfold Ga;rw[hj];simp only[C7]
   have hc:(((i,o,Wp C P sm s i o)::dn).all (BC C P sm s2 j x)&&(Wp C P sm s2 j x).all fun k=>(s2.hp k).isSome)=true:=by
    simp only[List.all_cons,Bool.and_eq_true];refine⟨⟨?_,?_⟩,?_⟩
    ·unfold BC;simp only[hr2];cases hs:(sm.getD j []).any (Nat.beq i)
     ·rfl
     ·have hm:=PU.1 hs;rw[hsm,Xm hj] at hm;obtain⟨o',HI,QC,_⟩:=Np.1 hm;rw[hi] at HI;cases HI;rw[Rr] at QC;rw[RL (Af4 QC)];rfl
    ·refine List.all_eq_true.2 fun q hq=>?_
     have:=List.all_eq_true.1 hb.1 q hq;unfold BC at this ⊢;rw[hr2];exact this
    ·rw[hr2];refine List.all_eq_true.2 fun k hk=>?_
     have:=D3.2.1 k (hex k hk);cases hh:s2.hp k with
     |none=>exact absurd hh this
     |some _=>rfl
   rw[hc,hr2];show Cr C P N call ops x s2 _=some r
   have:(fun s'=>Ga C P N call ops sm ((j,x,Wp C P sm s j x)::(i,o,Wp C P sm s i o)::dn) (l++l') s' K)=fun s2=>Ga C P N call ops sm ((i,o,Wp C P sm s i o)::(j,x,Wp C P sm s j x)::dn) (l++l') s2 K:=by
    funext s'
    exact Vm _ fun f=>Aam _ _ _ f
   rw[this];exact h4
end
section
variable {R:Type} {r:R} {P:Program} {N:Nat} {w0:World} {X0:F9} {Y:Nat->Prop} {β β':Bt} {s:St} {a:Act} {w w':World} {o:Oper} {ops:Array Oper} {C:Fy} {call:Aj} {K:St->Option R}
theorem Qr {bs:List Nat}:∀(l:List Oper)(n:Nat),Tt C P ops bs l n=true->∀(k:Nat) o,l[k]?=some o->∀(j:Nat) x,ops[j]?=some x->j<n+k->Abe C P ops x o=true->(bs.getD (n+k) 0).testBit j=true
 |[],_,_,k,o,ho,_,_,_,_,_=>by simp at ho
 |o'::l,n,h,k,o,ho,j,x,hx,hj,Lp=>by
  simp only[Tt,Bool.and_eq_true] at h;cases k with
  |zero=>
   simp at ho;subst ho
   have:=List.all_eq_true.1 h.1 (x,j) (by
    rw[List.mem_zipIdx_iff_getElem?]
    simpa using hx)
   simp only[Lp,Bool.not_true,Bool.or_false,Bool.or_eq_true,Bool.not_eq_true'] at this;rcases this with h'|h'
   ·have:Nat.blt j n=true:=Nat.ble_eq_true_of_le (by omega)
    rw[this] at h';cases h'
   ·exact h'
  |succ k=>
   have:=Qr l (n+1) h.2 k o (by simpa using ho) j x hx (by omega) Lp
   rwa [show n+(k+1)=n+1+k by omega]
theorem EX {G:Glo}(H1:IR P G w0 X0)(C4:∀f args res,call f args=some res->C1 G P f args res)(K1:Y0 C P ops=true){Q:Exit->Act->World->Prop}(hQ:∀s' a' w' β',K s'=some r->B3 N w0 X0 Y β' s' a' w'->Q .normal a' w'):
  ∀(fuel:Nat) {dn:List (Nat × Oper × List Nat)} {listed:Array Bool} {s:St} {a:Act} {w:World} {β:Bt},HeadInv .any ops ops.size listed->(Jw ops.size listed).length=fuel->B3 N w0 X0 Y β s a w->Ga C P N call ops (V3 C P ops (Gl ops.toList [])) dn (Jw ops.size listed) s K=some r->wpAny P .any ops Q fuel listed a w:=by
 unfold Y0 at K1;simp only[Bool.and_eq_true] at K1;obtain⟨YL,Ag5⟩:=K1;intro fuel
 induction fuel with
 |zero=>
  intro dn listed s a w β inv hf h hk;have hp:=List.eq_nil_of_length_eq_zero hf;rw[hp] at hk;refine⟨?_,hQ s a w β hk h⟩;cases hr:Region.ready .any ops listed with
  |nil=>rfl
  |cons i l=>
   exfalso;have hi:i∈Region.ready .any ops listed:=by rw[hr];simp
   obtain⟨Hl,o,ho,_⟩:=mem_ready.1 hi;have:i∈Jw ops.size listed:=G6.2 ⟨(Array.getElem?_eq_some_iff.1 ho).1,Hl⟩;rw[hp] at this;simp at this
 |succ fuel ih=>
  intro dn listed s a w β inv hf h hk;refine⟨fun hr=>?_,fun i hi=>?_⟩
  ·rw[CD YL inv hr] at hf;cases hf
  ·obtain⟨Hl,o,ho,Jy⟩:=mem_ready.1 hi;have hlt:i<ops.size:=(Array.getElem?_eq_some_iff.1 ho).1;obtain⟨l1,l2,h1,h2,h3⟩:=Rt (G6.2 ⟨hlt,Hl⟩) inv.size;rw[h1] at hk
   have VT:∀j∈l1,((Gl ops.toList []).getD i 0).testBit j=false:=by
    intro j hj;cases Qi:((Gl ops.toList []).getD i 0).testBit j with
    |false=>rfl
    |true=>
     exfalso;have hjl:=M5 (listed:=listed) (fun j oj hj hl=>inv.closed j oj hj hl) ops.toList [] [] (by simp) rfl (by simp) i o ho Jy j Qi
     have:j∈Jw ops.size listed:=by rw[h1];simp[hj]
     have:=getD_both (G6.1 this).2;rw[hjl] at this;cases this
   have I5:∀j∈l1,j<i∧((Gl ops.toList []).getD i 0).testBit j=false∧∀x,ops[j]?=some x->Jd C P ops x o:=by
    intro j hj;refine⟨h3 j hj,VT j hj,fun x hxj=>TV ?_⟩
    cases Lp:Abe C P ops x o with
    |false=>rfl
    |true=>
     exfalso;have Qi:=Qr ops.toList 0 Ag5 i o (by simpa using ho) j x hxj (by have:=h3 j hj;omega) Lp
     rw[Nat.zero_add,VT j hj] at Qi;cases Qi
   obtain⟨s',hs',hn⟩:=Q5 h H1 C4 ho (Ss rfl ho l1 (Abn h o) I5 hk).2;refine hn _ _ fun a' w' β' h'=>ih (dn:=(i,o,Wp C P (V3 C P ops (Gl ops.toList [])) s i o)::dn) (inv.set hi hlt) ?_ h' ?_
   ·rw[h2];rw[h1] at hf;simp at hf ⊢;omega
   ·rw[h2];exact hs'
theorem Wo (h:B3 N w0 X0 Y β s a w){G:Glo}(H1:IR P G w0 X0)(C4:∀f args res,call f args=some res->C1 G P f args res)(hm:P.follows .mixedOrders=true)(K1:Y0 C P ops=true){Q:Exit->Act->World->Prop}
  (hk:Ga C P N call ops (V3 C P ops (Gl ops.toList [])) [] (List.range ops.size) s K=some r) (hQ:∀s' a' w' β',K s'=some r->B3 N w0 X0 Y β' s' a' w'->Q .normal a' w'):wpAny P .any ops Q ops.size (Array.replicate ops.size false) a { w with drawn:=w.drawn+1 }:=by
 have hp:Jw ops.size (Array.replicate ops.size false)=List.range ops.size:=by
  unfold Jw;refine List.filter_eq_self.2 fun i hi=>?_
  have:=List.mem_range.1 hi;simp[this]
 refine EX (C:=C) (dn:=[]) H1 C4 K1 hQ ops.size ⟨by simp,fun j oj _ hl=>(by rw[getD_replicate_false] at hl;cases hl),fun t ht ht'=>by omega⟩ (by rw[hp];simp) h.drew ?_
 rw[hp];exact hk
theorem HP (h:B3 N w0 X0 Y β s a w){G:Glo}(H1:IR P G w0 X0)(C4:∀f args res,call f args=some res->C1 G P f args res)(hm:P.follows .mixedOrders=true)(K1:Y0 C P ops=true){id:Nat}{Q:Exit->Act->World->Prop}
  (hk:Ga C P N call ops (V3 C P ops (Gl ops.toList [])) [] (List.range ops.size) s K=some r) (hQ:∀s' a' w' β',K s'=some r->B3 N w0 X0 Y β' s' a' w'->Q .normal a' w'):(Code.region id ops true).wp P Q a w:=
 wp_region_any hm (Wo h H1 C4 hm K1 hk hQ)
end
open Go.RowKit
section
variable {R:Type} {r:R} {N:Nat} {w0:World} {X0:F9} {Y:Nat->Prop} {β β':Bt} {s:St} {a:Act} {w w':World}
theorem WF {i:Nat}(hi:i<a.tmps.size):a.put (some i) (a.tmps.getD i undef)=a:=by
 obtain⟨tmps,dfr⟩:=a;change i<tmps.size at hi
 have:tmps.setIfInBounds i (tmps.getD i undef)=tmps:=by
  apply Array.ext_getElem?;intro k;by_cases e:i=k
  ·subst e;simp[hi]
  ·rw[Array.getElem?_setIfInBounds_ne e]
 simp only[Act.put,this]
theorem OY {A:Nat->Prop}{es:Nat}{v:Value}(h:An w A (.lst true es 0 []) v):v=.slice none 0 0:=by
 cases h;rfl
theorem PK {id:Nat}(hid:s.hp id=none){v:PV}{val:Value}(hv:Di w (Cd (Al s.hp [(id,.ar false [])]) (Bu β id none) Y) (Bu β id none) v val) (hr:∀i∈A9 v,s.hp i≠none∨i=id):
  BH Y β s w v [(id,.ar false [])] val w (Bu β id none):=by
 refine⟨rfl,rfl,rfl,Bh.refl _ _,fun j hj=>Ad _ _ (by rintro rfl;exact hj hid),?_,?_,?_,?_,?_,hv,?_⟩
 ·intro j bx hm;simp at hm;rw[hm.2];trivial
 ·intro j bx hm;simp at hm;obtain⟨rfl,rfl⟩:=hm;exact .inl ⟨Ah _ _ _,rfl⟩
 ·intro j bx k q hm hq;simp at hm;obtain⟨rfl,rfl⟩:=hm;rw[Ah] at hq;cases hq
 ·intro j bx j' bx' k q q' hm Jv _ _;simp at hm Jv;rw[hm.1,Jv.1]
 ·intro j cells hm;simp at hm
 ·intro j hj;rcases hr j hj with h|rfl
  ·exact .inl h
  ·exact .inr ⟨.ar false [],by simp⟩
theorem AG (h:B3 N w0 X0 Y β s a w)(i:Nat):∃β',B3 N w0 X0 Y β' (Ww N s i) a w:=by
 unfold Ww;split
 ·rename_i es ht
  have hlt:i<N:=by
   rcases Nat.lt_or_ge i N with h'|h'
   ·exact h'
   ·rw[h.tmo i h'] at ht;cases ht
  have hv:=h.tms i hlt;rw[ht] at hv;have hv:=OY hv;have hd:E6 N (some i)=true:=by simp[E6,Nat.blt];omega
  have go:∀j,s.hp j=none->∃β',B3 N w0 X0 Y β' ⟨Bu s.tm i (.view j es 0 0),Bu s.hp j (some (.ar false []))⟩ a w:=by
   intro j hn;have:=h.stepR (d:=some i) hd (by simp[A8,hn]) (PK (v:=.view j es 0 0) (val:=.slice none 0 0) hn (.inl ⟨Ah _ _ _,rfl,rfl,none,rfl⟩) (by simp[A9,Bn,Ak]))
   rw[←hv,WF (by rw[h.tsz];exact hlt)] at this
   exact⟨_,this⟩
  cases hn:(s.hp i).isNone
  ·cases hn2:(s.hp (i+N*3000)).isNone
   ·exact⟨β,h⟩
   ·exact go _ (by simpa using hn2)
  ·exact go _ (by simpa using hn)
 ·exact⟨β,h⟩
theorem B3.recell (h:B3 N w0 X0 Y β s a w){id:Nat}{c c':List PV}(h0:s.hp id=some (.st c)) (hl:c'.length=c.length)
  (hc:∀(j:Nat) p,c'[j]?=some p->∃q,c[j]?=some q∧(∀v,Be w (Cd s.hp β Y) β q v->Be w (Cd s.hp β Y) β p v)∧∀i∈Ak p,s.hp i≠none):
  B3 N w0 X0 Y β ⟨s.tm,Bu s.hp id (some (.st c'))⟩ a w:=by
 have Fe:∀i,Cc (Bu s.hp id (some (.st c')) i)↔Cc (s.hp i):=by
  intro i;by_cases e:i=id
  ·subst e;rw[Ah,h0];exact Iff.rfl
  ·rw[Ad _ _ e]
 have hX:GG (Bu s.hp id (some (.st c'))) β=GG s.hp β:=by
  funext b
  apply propext;constructor
  ·rintro⟨i,o,hl,hb⟩;exact⟨i,o,(Fe i).1 hl,hb⟩
  ·rintro⟨i,o,hl,hb⟩;exact⟨i,o,(Fe i).2 hl,hb⟩
 have hA:Cd (Bu s.hp id (some (.st c'))) β Y=Cd s.hp β Y:=by
  funext b;unfold Cd;rw[hX]
 have Gh:∀i,s.hp i≠none->Bu s.hp id (some (.st c')) i≠none:=by
  intro i hi;by_cases e:i=id
  ·subst e;rw[Ah];simp
  ·rw[Ad _ _ e];exact hi
 have AY:∀i,Bu s.hp id (some (.st c')) i≠none->s.hp i≠none:=by
  intro i hi;by_cases e:i=id
  ·subst e;rw[h0];simp
  ·rw[Ad _ _ e] at hi;exact hi
 refine⟨h.dfr,h.tsz,h.tmo,?_,?_,?_,?_,?_,?_,?_,?_,fun i hi=>⟨Gh _ (h.pin i hi).1,(h.pin i hi).2⟩,?_,?_,h.Ylt,h.fr⟩
 ·intro i hi;show Di w (Cd (Bu s.hp id _) β Y) β _ _;rw[hA];exact h.tms i hi
 ·intro i b hb;show Nx w (Cd (Bu s.hp id _) β Y) β i b;rw[hA];by_cases e:i=id
  ·subst e;change Bu s.hp i (some (.st c')) i=some b at hb;rw[Ah] at hb;cases hb;obtain⟨b,o,h1,h2,h3⟩:=h.box i _ h0;refine⟨b,o,h1,fun j p hj=>?_,fun j hj=>h3 j (by rw[←hl];exact hj)⟩
   obtain⟨q,hq,hqp,_⟩:=hc j p hj;obtain⟨v,hv,hr⟩:=h2 j q hq;exact⟨v,hv,hqp v hr⟩
  ·change Bu s.hp id (some (.st c')) i=some b at hb;rw[Ad _ _ e] at hb;exact h.box i b hb
 ·intro i i' b o o' hl Hm hb F8;exact h.inj i i' b o o' ((Fe i).1 hl) ((Fe i').1 Hm) hb F8
 ·intro i b o hn hb;exact h.blt i b o (AY i hn) hb
 ·intro i hi j hj;exact Gh j (h.wfT i hi j hj)
 ·intro i cells hb p hp j hj;change Bu s.hp id (some (.st c')) i=_ at hb;by_cases e:i=id
  ·subst e;rw[Ah] at hb;cases hb;obtain⟨k,hk⟩:=List.mem_iff_getElem?.1 hp;obtain⟨_,_,_,hr⟩:=hc k p hk;exact Gh j (hr j hj)
  ·rw[Ad _ _ e] at hb;exact Gh j (h.wfB i cells hb p hp j hj)
 ·intro b hb;exact h.ownd b (by rw[←hX];exact hb)
 ·intro i bx b o hb hlb hβ hlt j hj;change Bu s.hp id (some (.st c')) i=some bx at hb;by_cases e:i=id
  ·subst e;rw[Ah] at hb;cases hb;exact h.rngB i _ b o h0 trivial hβ hlt j (by unfold BR at hj ⊢;simp only[hl] at hj;exact hj)
  ·rw[Ad _ _ e] at hb;exact h.rngB i bx b o hb hlb hβ hlt j hj
 ·intro i c1 b o hb hβ hlt;change Bu s.hp id (some (.st c')) i=_ at hb;by_cases e:i=id
  ·subst e;exact h.stp i c b o h0 hβ hlt
  ·rw[Ad _ _ e] at hb;exact h.stp i c1 b o hb hβ hlt
 ·intro b hY hb;exact h.Yx b hY (by rw[←hX];exact hb)
theorem AQ (h:B3 N w0 X0 Y β s a w)(id j:Nat):∃β',B3 N w0 X0 Y β' (GI N id s j) a w:=by
 unfold GI;split
 ·rename_i c h0;split
  ·rename_i es hj;cases hn:(s.hp (id+N*(j+1))).isNone
   ·exact⟨β,h⟩
   ·have hn:s.hp (id+N*(j+1))=none:=by simpa using hn
    have Gh:id≠id+N*(j+1):=by
     intro e;rw[←e,h0] at hn;cases hn
    have h1:=h.stepR (d:=none) (v:=.top) (val:=undef) rfl (by simp[A8,hn]) (PK hn (.top _) (by simp[A9,Bn,Ak]))
    change B3 N w0 X0 Y (Bu β (id+N*(j+1)) none) ⟨s.tm,Bu s.hp (id+N*(j+1)) (some (.ar false []))⟩ a w at h1
    have h2:=h1.recell (id:=id) (c:=c) (c':=c.set j (.view (id+N*(j+1)) es 0 0)) (by show Bu _ _ _ _=_;rw[Ad _ _ Gh];exact h0) (by simp) (by
     intro k p hp;by_cases e:k=j
     ·subst e
      have hlt:k<c.length:=by
       rcases Nat.lt_or_ge k c.length with h'|h'
       ·exact h'
       ·rw[List.getElem?_eq_none h'] at hj;cases hj
      rw[List.getElem?_set_self hlt] at hp;cases hp;refine⟨_,hj,fun v hv=>.inl ⟨Ah _ _ _,rfl,rfl,none,OY hv⟩,fun i hi=>?_⟩
      simp[Ak] at hi;subst hi;show Bu _ _ _ _≠none;rw[Ah];simp
     ·rw[List.getElem?_set_ne (fun h=>e h.symm)] at hp
      refine⟨p,hp,fun _ hv=>hv,fun i hi=>?_⟩
      have:=h.wfB id c h0 p (List.mem_of_getElem? hp) i hi;show Bu _ _ _ _≠none;by_cases e':i=id+N*(j+1)
      ·subst e';rw[Ah];simp
      ·rw[Ad _ _ e'];exact this)
    refine⟨Bu β (id+N*(j+1)) none,?_⟩;have e3:Bu (Bu s.hp (id+N*(j+1)) (some (.ar false []))) id (some (.st (c.set j (.view (id+N*(j+1)) es 0 0))))=Bu (Bu s.hp id (some (.st (c.set j (.view (id+N*(j+1)) es 0 0))))) (id+N*(j+1)) (some (.ar false [])):=JX _ _ _ (fun h=>Gh h.symm)
    change B3 N w0 X0 Y (Bu β (id+N*(j+1)) none) ⟨s.tm,Bu (Bu s.hp (id+N*(j+1)) (some (.ar false []))) id (some (.st (c.set j (.view (id+N*(j+1)) es 0 0))))⟩ a w at h2;rw[e3] at h2;exact h2
  ·exact⟨β,h⟩
 ·exact⟨β,h⟩
theorem K8 {f:St->Nat->St}(hf:∀s β,B3 N w0 X0 Y β s a w->∀i,∃β',B3 N w0 X0 Y β' (f s i) a w):∀(l:List Nat){s:St}{β:Bt},B3 N w0 X0 Y β s a w->∃β',B3 N w0 X0 Y β' (l.foldl f s) a w
 |[],_,β,h=>⟨β,h⟩
 |i::l,s,β,h=>by
  obtain⟨β1,h1⟩:=hf s β h i;exact K8 hf l h1
theorem FD (h:B3 N w0 X0 Y β s a w)(i:Nat):∃β',B3 N w0 X0 Y β' (FZ N s i) a w:=by
 unfold FZ;split
 ·split
  ·exact K8 (fun s β h i=>AQ h _ i) _ h
  ·exact⟨β,h⟩
 ·exact⟨β,h⟩
theorem CY:∀{m:List (Nat × Nat)},C8 (m.map (·.2))=true->∀{i i' j:Nat},(i,j)∈m->(i',j)∈m->i=i'
 |[],_,_,_,_,h,_=>by simp at h
 |(x,y)::m,hn,i,i',j,h,h'=>by
  simp only[List.map_cons,C8,Bool.and_eq_true,Bool.not_eq_true'] at hn
  have hy:∀k,(k,y) ∉ m:=by
   intro k hk;exact Nq hn.1 (List.mem_map.2 ⟨(k,y),hk,rfl⟩)
  rcases List.mem_cons.1 h with e|h
  ·cases e;rcases List.mem_cons.1 h' with e|h'
   ·cases e;rfl
   ·exact absurd h' (hy _)
  ·rcases List.mem_cons.1 h' with e|h'
   ·cases e;exact absurd h (hy _)
   ·exact CY hn.2 h h'
theorem Uk:∀{m:List (Nat × Nat)},C8 (m.map (·.1))=true->∀{i j j':Nat},(i,j)∈m->(i,j')∈m->j=j'
 |[],_,_,_,_,h,_=>by simp at h
 |(x,y)::m,hn,i,j,j',h,h'=>by
  simp only[List.map_cons,C8,Bool.and_eq_true,Bool.not_eq_true'] at hn
  have hx:∀k,(x,k) ∉ m:=by
   intro k hk;exact Nq hn.1 (List.mem_map.2 ⟨(x,k),hk,rfl⟩)
  rcases List.mem_cons.1 h with e|h
  ·cases e;rcases List.mem_cons.1 h' with e|h'
   ·cases e;rfl
   ·exact absurd h' (hx _)
  ·rcases List.mem_cons.1 h' with e|h'
   ·cases e;exact absurd h (hx _)
   ·exact Uk hn.2 h h'
theorem Jt {i j:Nat}(h:Nat.beq i j=false):i≠j:=by rintro rfl;rw[Nat.beq_refl] at h;cases h
theorem S1:∀{m:List (Nat × Nat)} {i j:Nat},Qd m i=some j->(i,j)∈m
 |[],_,_,h=>by cases h
 |(x,y)::m,i,j,h=>by
  unfold Qd at h;cases hb:Nat.beq i x<;>rw[hb] at h
  ·exact List.mem_cons_of_mem _ (S1 h)
  ·have:=Nat.eq_of_beq_eq_true hb;cases h;rw[this];simp
theorem Uf {m:List (Nat × Nat)} {hp:Nat->Option A3}:∀{l:List (Nat × Nat)} {j:Nat}{b:A3},Fw (Jj m hp l) j=some b->∃i b0,(i,j)∈l∧hp i=some b0∧b=Aeu m b0
 |[],_,_,h=>by cases h
 |(x,y)::l,j,b,h=>by
  unfold Jj at h;cases hx:hp x with
  |none=>
   rw[hx] at h;obtain⟨i,b0,h1,h2⟩:=Uf h;exact⟨i,b0,List.mem_cons_of_mem _ h1,h2⟩
  |some bx=>
   rw[hx] at h;simp only[Fw] at h;cases hb:Nat.beq j y<;>rw[hb] at h
   ·obtain⟨i,b0,h1,h2⟩:=Uf h;exact⟨i,b0,List.mem_cons_of_mem _ h1,h2⟩
   ·have:=Nat.eq_of_beq_eq_true hb;subst this;cases h;exact⟨x,bx,by simp,hx,rfl⟩
theorem Kl {m:List (Nat × Nat)} {hp:Nat->Option A3}:∀{l:List (Nat × Nat)} {i j:Nat},(i,j)∈l->hp i≠none->Fw (Jj m hp l) j≠none
 |[],_,_,h,_=>by simp at h
 |(x,y)::l,i,j,h,hi=>by
  unfold Jj;cases hx:hp x with
  |none=>
   rcases List.mem_cons.1 h with e|h
   ·cases e;exact absurd hx hi
   ·exact Kl h hi
  |some bx=>
   simp only[Fw];cases hb:Nat.beq j y
   ·rcases List.mem_cons.1 h with e|h
    ·cases e;exact absurd rfl (Jt hb)
    ·exact Kl h hi
   ·simp
def AM (m:List (Nat × Nat)) (j:Nat):Option Nat:=
 match m with
 |[]=>none
 |(x,y)::r=>bif Nat.beq j y then some x else AM r j
theorem OP:∀{m:List (Nat × Nat)} {i j:Nat},AM m j=some i->(i,j)∈m
 |[],_,_,h=>by cases h
 |(x,y)::m,i,j,h=>by
  unfold AM at h;cases hb:Nat.beq j y<;>rw[hb] at h
  ·exact List.mem_cons_of_mem _ (OP h)
  ·have:=Nat.eq_of_beq_eq_true hb;cases h;rw[this];simp
theorem JC:∀{m:List (Nat × Nat)} {i j:Nat},(i,j)∈m->∃k,AM m j=some k
 |[],_,_,h=>by simp at h
 |(x,y)::m,i,j,h=>by
  unfold AM;cases hb:Nat.beq j y
  ·rcases List.mem_cons.1 h with e|h
   ·cases e;exact absurd rfl (Jt hb)
   ·exact JC h
  ·exact⟨x,rfl⟩
theorem GD {f:Nat->PV}:∀{l:List Nat}{i:Nat},lk (l.map fun i=>(i,f i)) i=if i∈l then f i else .top
 |[],_=>rfl
 |x::l,i=>by
  simp only[List.map_cons,lk];cases hb:Nat.beq i x
  ·have:=Jt hb;simp only[cond_false,GD,List.mem_cons,this,false_or]
  ·have:=Nat.eq_of_beq_eq_true hb;subst this;simp
theorem DF {m:Nat}:∀{n i:Nat},i∈I8 m n->i<n
 |0,_,h=>by simp[I8] at h
 |n+1,i,h=>by
  simp only[I8,List.mem_append] at h;rcases h with h|h
  ·have:=DF h;omega
  ·cases hb:m.testBit n<;>rw[hb] at h
   ·simp at h
   ·simp at h;omega
theorem EP (h:B3 N w0 X0 Y β s a w){m:List (Nat × Nat)} (h1:C8 (m.map (·.1))=true) (h2:C8 (m.map (·.2))=true) {ls:List Nat}(hls:∀i∈ls,i<N)(hpn:∀i,X0.pn i->(Cj N i,Cj N i)∈m):
  ∃β',B3 N w0 X0 Y β' ⟨lk (ls.map fun i=>(i,SD m (s.tm i))),Fw (Jj m s.hp m)⟩ a w:=by
 refine⟨fun j=>(AM m j).bind β,?_⟩
 have hβ:∀{i j:Nat},(i,j)∈m->(AM m j).bind β=β i:=by
  intro i j hm;obtain⟨k,hk⟩:=JC hm;rw[hk];have:=CY h2 (OP hk) hm;subst this;rfl
 have hold:∀{j:Nat} {b:A3},Fw (Jj m s.hp m) j=some b->∃i b0,(i,j)∈m∧s.hp i=some b0∧b=Aeu m b0∧(AM m j).bind β=β i:=by
  intro j b hb;obtain⟨i,b0,hm,h3,h4⟩:=Uf hb;exact⟨i,b0,hm,h3,h4,hβ hm⟩
 have Fe:∀{j:Nat},Cc (Fw (Jj m s.hp m) j)->∃i,(i,j)∈m∧Cc (s.hp i)∧(AM m j).bind β=β i:=by
  intro j hl;cases hb:Fw (Jj m s.hp m) j with
  |none=>rw[hb] at hl;exact hl.elim
  |some b=>
   obtain⟨i,b0,hm,h3,rfl,h5⟩:=hold hb;refine⟨i,hm,?_,h5⟩;rw[hb] at hl;rw[h3];cases b0<;>exact hl
 have hX:∀b,GG (Fw (Jj m s.hp m)) (fun j=>(AM m j).bind β) b->GG s.hp β b:=by
  rintro b ⟨j,o,hl,hb⟩
  obtain⟨i,_,Hm,e⟩:=Fe hl;exact⟨i,o,Hm,by rw[←e];exact hb⟩
 have hA:∀b,Cd (Fw (Jj m s.hp m)) (fun j=>(AM m j).bind β) Y b->Cd s.hp β Y b:=fun b hb=>hb.imp (hX b) id
 have hC:∀p v,Be w (Cd s.hp β Y) β p v->Be w (Cd (Fw (Jj m s.hp m)) (fun j=>(AM m j).bind β) Y) (fun j=>(AM m j).bind β) (NN m p) v:=by
  intro p v hp;cases p with
  |view id es off n=>
   show Be _ _ _ (match Qd m id with|some j=>.view j es off n|none=>.top) v
   cases hj:Qd m id with
   |some j=>
    have e:=hβ (S1 hj);rcases hp with⟨e1,e2⟩|⟨b,o,x,cap,e1,e2⟩
    ·exact .inl ⟨by show (AM m j).bind β=none;rw[e];exact e1,e2⟩
    ·exact .inr ⟨b,o,x,cap,by show (AM m j).bind β=_;rw[e];exact e1,e2⟩
   |none=>exact An.top _
  |ptr id off=>
   show Be _ _ _ (match Qd m id with|some j=>.ptr j off|none=>.top) v
   cases hj:Qd m id with
   |some j=>
    have e:=hβ (S1 hj);obtain⟨b,o,e1,e2⟩:=hp;exact⟨b,o,by show (AM m j).bind β=_;rw[e];exact e1,e2⟩
   |none=>exact An.top _
  |sc v=>exact An.step (Bh.refl _ _) (fun b _=>hA b) hp
  |lst z es n c=>exact An.step (Bh.refl _ _) (fun b _=>hA b) hp
  |iptr c off=>exact Be.step (p:=.iptr c off) (Bh.refl _ _) (fun b _=>hA b) (by simp[Ak]) hp
  |_=>exact An.top _
 have hV:∀p v,Di w (Cd s.hp β Y) β p v->Di w (Cd (Fw (Jj m s.hp m)) (fun j=>(AM m j).bind β) Y) (fun j=>(AM m j).bind β) (SD m p) v:=by
  intro p v hp;cases p with
  |agg c=>
   obtain⟨vs,e1,e2⟩:=hp;refine⟨vs,e1,Av.of_at (by simp;exact e2.len) fun i q u hq hu=>?_⟩
   rw[List.getElem?_map] at hq;cases hc:c[i]? with
   |none=>rw[hc] at hq;cases hq
   |some q0=>
    rw[hc] at hq;cases hq;exact hC _ _ (e2.at_ hc hu)
  |view id es off n=>
   have:=hC (.view id es off n) v hp;change Be _ _ _ (match Qd m id with|some j=>.view j es off n|none=>.top) v at this
   show Di _ _ _ (match Qd m id with|some j=>.view j es off n|none=>.top) v
   cases hj:Qd m id<;>rw[hj] at this<;>exact this
  |ptr id off=>
   have:=hC (.ptr id off) v hp;change Be _ _ _ (match Qd m id with|some j=>.ptr j off|none=>.top) v at this
   show Di _ _ _ (match Qd m id with|some j=>.ptr j off|none=>.top) v
   cases hj:Qd m id<;>rw[hj] at this<;>exact this
  |sc v'=>exact hC (.sc v') v hp
  |lst z es n c=>exact hC (.lst z es n c) v hp
  |iptr c off=>exact hC (.iptr c off) v hp
  |_=>exact An.top _
 have hrC:∀p i,i∈Ak (NN m p)->∃k∈Ak p,(k,i)∈m:=by
  intro p i hi;cases p with
  |view id es off n=>
   change i∈Ak (match Qd m id with|some j=>.view j es off n|none=>.top) at hi
   cases hj:Qd m id<;>rw[hj] at hi
   ·simp[Ak] at hi
   ·simp[Ak] at hi;subst hi;exact⟨id,by simp[Ak],S1 hj⟩
  |ptr id off=>
   change i∈Ak (match Qd m id with|some j=>.ptr j off|none=>.top) at hi
   cases hj:Qd m id<;>rw[hj] at hi
   ·simp[Ak] at hi
   ·simp[Ak] at hi;subst hi;exact⟨id,by simp[Ak],S1 hj⟩
  |_=>simp[NN,Ak] at hi
 have hrV:∀p i,i∈A9 (SD m p)->∃k∈A9 p,(k,i)∈m:=by
  intro p i hi;cases p with
  |agg c=>
   simp only[SD,A9,Bn,List.mem_flatMap,List.mem_map] at hi;obtain⟨_,⟨q,hq,rfl⟩,hi⟩:=hi;obtain⟨k,hk,hm⟩:=hrC q i hi;exact⟨k,by simp only[A9,Bn,List.mem_flatMap];exact⟨q,hq,hk⟩,hm⟩
  |view id es off n=>
   refine (hrC (.view id es off n) i ?_).imp fun k hk=>hk
   change i∈A9 (match Qd m id with|some j=>.view j es off n|none=>.top) at hi
   show i∈Ak (match Qd m id with|some j=>.view j es off n|none=>.top)
   cases hj:Qd m id<;>rw[hj] at hi<;>exact hi
  |ptr id off=>
   refine (hrC (.ptr id off) i ?_).imp fun k hk=>hk
   change i∈A9 (match Qd m id with|some j=>.ptr j off|none=>.top) at hi
   show i∈Ak (match Qd m id with|some j=>.ptr j off|none=>.top)
   cases hj:Qd m id<;>rw[hj] at hi<;>exact hi
  |_=>simp[SD,NN,A9,Bn,Ak] at hi
 refine⟨h.dfr,h.tsz,?_,?_,?_,?_,?_,?_,?_,?_,?_,?_,?_,?_,h.Ylt,h.fr⟩
 ·intro i hi;show lk _ i=_;rw[GD,if_neg (fun hm=>by have:=hls i hm;omega)]
 ·intro i hi;show Di w _ _ (lk _ i) _;rw[GD];split
  ·exact hV _ _ (h.tms i hi)
  ·exact An.top _
 ·intro j b hb;obtain⟨i,b0,hm,h3,rfl,e⟩:=hold hb;have Jc:=h.box i b0 h3;cases b0 with
  |st c=>
   obtain⟨b,o,e1,e2,e3⟩:=Jc;refine⟨b,o,by show (AM m j).bind β=_;rw[e];exact e1,fun k p hp=>?_,fun k hk=>e3 k (by simpa using hk)⟩
   rw[List.getElem?_map] at hp;cases hc:c[k]? with
   |none=>rw[hc] at hp;cases hp
   |some q=>
    rw[hc] at hp;cases hp;obtain⟨v,hv,hr⟩:=e2 k q hc;exact⟨v,hv,hC _ _ hr⟩
  |ar fz c=>
   have:=Nx.step' hA Jc;show Nx _ _ _ _ (.ar fz c);rcases this with⟨e1,e2⟩|⟨b,o,e1,e2⟩
   ·exact .inl ⟨by show (AM m j).bind β=_;rw[e];exact e1,e2⟩
   ·exact .inr ⟨b,o,by show (AM m j).bind β=_;rw[e];exact e1,e2⟩
  |mv=>exact trivial
 ·intro j j' b o o' hl Hm hb F8;obtain⟨i,hm,Ys,e⟩:=Fe hl;obtain⟨i',Jv,Arz,e'⟩:=Fe Hm;have:=h.inj i i' b o o' Ys Arz (by rw[←e];exact hb) (by rw[←e'];exact F8)
  subst this;exact Uk h1 hm Jv
 ·intro j b o hn hb;cases hj:Fw (Jj m s.hp m) j with
  |none=>exact absurd hj hn
  |some bx=>
   obtain⟨i,b0,_,h3,_,e⟩:=hold hj;exact h.blt i b o (by rw[h3];simp) (by rw[←e];exact hb)
 ·intro i hi j hj;change j∈A9 (lk _ i) at hj;rw[GD] at hj;split at hj
  ·obtain⟨k,hk,hm⟩:=hrV _ j hj;exact Kl hm (h.wfT i hi k hk)
  ·simp[A9,Bn,Ak] at hj
 ·intro j cells hb p hp k hk;obtain⟨i,b0,_,h3,h4,_⟩:=hold hb;cases b0 with
  |st c=>
   cases h4;obtain⟨q,hq,rfl⟩:=List.mem_map.1 hp;obtain⟨k',Hj,hm⟩:=hrC q k hk;exact Kl hm (h.wfB i c h3 q hq k' Hj)
  |ar fz c=>cases h4
  |mv=>cases h4
 ·intro b hb;exact h.ownd b (hX b hb)
 ·intro j bx b o hb hlb hβ1 hlt k hk;obtain⟨i,b0,_,h3,h4,e⟩:=hold hb;subst h4;refine h.rngB i b0 b o h3 ?_ (by rw[←e];exact hβ1) hlt k ?_
  ·cases b0<;>exact hlb
  ·cases b0 with
   |st c=>simpa [BR,Aeu] using hk
   |ar fz c=>exact hk
   |mv=>exact hk
 ·intro i hi;exact⟨Kl (hpn i hi) (h.pin i hi).1,(hβ (hpn i hi)).trans (h.pin i hi).2⟩
 ·intro j c b o hb hβ1 hlt;obtain⟨i,b0,hm,h3,h4,e⟩:=hold hb;cases b0 with
  |st c0=>
   obtain⟨k,rfl,hk⟩:=h.stp i c0 b o h3 (by rw[←e];exact hβ1) hlt
   exact⟨k,Uk h1 hm (hpn k hk),hk⟩
  |ar fz c0=>cases h4
  |mv=>cases h4
 ·intro b hY hb;exact h.Yx b hY (hX b hb)
theorem Pm {m:List (Nat × Nat)} {q:Nat × Nat}{o n:Nat}(h:q∈m):q∈BG m o n:=by
 unfold BG;split
 ·exact h
 ·exact List.mem_append.2 (.inl h)
theorem I1 {q:Nat × Nat}{new:Nat}:∀{c:List PV}{j:Nat}{m:List (Nat × Nat)},q∈m->q∈Nh N new c j m
 |[],_,_,h=>h
 |p::c,j,m,h=>by
  unfold Nh;split
  ·rename_i e;cases e
  ·rename_i e;cases e;exact I1 (Pm h)
  ·rename_i e;cases e;exact I1 h
theorem JL {q:Nat × Nat}{m:List (Nat × Nat)} {i:Nat}(h:q∈m):q∈Xg N s m i:=by
 unfold Xg;split
 ·exact Pm h
 ·split
  ·exact h
  ·split
   ·exact I1 (Pm h)
   ·exact Pm h
 ·exact I1 h
 ·exact h
theorem Tb {q:Nat × Nat}:∀{l:List Nat}{m:List (Nat × Nat)},q∈m->q∈l.foldl (Xg N s) m
 |[],_,h=>h
 |_::l,_,h=>Tb (l:=l) (JL h)
theorem Nl {q:Nat × Nat}{m:List (Nat × Nat)} (h:q∈m):∀k,q∈Om N s.hp k m
 |0=>h
 |k+1=>by
  unfold Om;split
  ·exact I1 (Nl h k)
  ·exact Nl h k
theorem BW:∀{k i:Nat},i<k->s.hp (Cj N i)≠none->(Cj N i,Cj N i)∈KN N s.hp k
 |0,_,h,_=>by omega
 |k+1,i,h,hn=>by
  unfold KN;by_cases e:i=k
  ·subst e
   have:(s.hp (Cj N i)).isSome=true:=by
    cases hq:s.hp (Cj N i) with
    |none=>exact absurd hq hn
    |some b=>rfl
   rw[this];simp
  ·have:=BW (k:=k) (i:=i) (by omega) hn
   cases (s.hp (Cj N k)).isSome
   ·exact this
   ·exact List.mem_append.2 (.inl this)
theorem Vy (h:B3 N w0 X0 Y β s a w){L:Nat}{q:Bool}{K:St->Option R}(hk:QG N (I8 L N) q s K=some r):∃β' s',K s'=some r∧B3 N w0 X0 Y β' s' a w:=by
 unfold QG at hk;obtain⟨hb,C9⟩:=Ag hk;simp only[Bool.and_eq_true] at hb
 obtain⟨β2,h2⟩:∃β2,B3 N w0 X0 Y β2 (bif q then s else (I8 L N).foldl (FZ N) ((I8 L N).foldl (Ww N) s)) a w:=by
  cases q
  ·obtain⟨β1,h1⟩:=K8 (fun s β h i=>AG h i) (I8 L N) h
   obtain⟨β2,h2⟩:=K8 (fun s β h i=>FD h i) (I8 L N) h1
   exact⟨β2,h2⟩
  ·exact⟨β,h⟩
 obtain⟨β3,h3⟩:=EP h2 hb.1 hb.2 (ls:=I8 L N) (fun i hi=>DF hi) (fun i hi=>Tb (Nl (BW (X0.p8 i hi) (h2.pin i hi).1) 8))
 exact⟨β3,_,C9,h3⟩
theorem Oy (h:B3 N w0 X0 Y β s a w){L:Nat}{K:St->Option R}(hk:Sx N L s K=some r):∃β' s',K s'=some r∧B3 N w0 X0 Y β' s' a w:=Vy h hk
theorem ID (h:B3 N w0 X0 Y β s a w){L:Nat}{K:St->Option R}(hk:QL N L s K=some r):∃β' s',K s'=some r∧B3 N w0 X0 Y β' s' a w:=Vy h hk
end
open Go.RowKit
section
variable {R:Type} {r:R} {P:Program} {N:Nat} {w0:World} {X0:F9} {Y:Nat->Prop} {C:Fy} {call:Aj}
theorem CN {n:Nat}{F:St->Option R}{s:St}(h:Zs n F s=some r):F s=some r:=by
 unfold Zs at h;split at h
 ·cases h
 ·exact h
theorem HC {β:Bt}{s:St}{a:Act}{w:World}(h:B3 N w0 X0 Y β s a w){c:Operand}{kt kf:St->Option R}(hk:ZV s c kt kf=some r):(a.eval c=.bool true∧kt s=some r)∨(a.eval c=.bool false∧kf s=some r):=by
 unfold ZV at hk;split at hk
 ·rename_i d;split at hk
  ·rename_i b ht;have hv:a.eval (.tmp d)=.bool b:=Bl h (x:=.tmp d) ht;cases b
   ·change kf ⟨Bu s.tm d (.sc (.bool false)),s.hp⟩=some r at hk;rw[R4 s.tm ht] at hk;exact .inr ⟨hv,hk⟩
   ·change kt ⟨Bu s.tm d (.sc (.bool true)),s.hp⟩=some r at hk;rw[R4 s.tm ht] at hk;exact .inl ⟨hv,hk⟩
  ·rename_i ht;have hu:=Cb h (.tmp d);change Di _ _ _ (s.tm d) _ at hu;rw[ht] at hu;have G4:An w _ .ub (a.eval (.tmp d)):=hu
   obtain⟨b,hv⟩:∃b,a.eval (.tmp d)=.bool b:=by
    generalize a.eval (.tmp d)=x at G4;cases G4 with
    |ub b=>exact⟨b,rfl⟩
   obtain⟨h1,h2⟩:=DB hk;cases b
   ·exact .inr ⟨hv,h2⟩
   ·exact .inl ⟨hv,h1⟩
  ·cases hk
 ·exact .inl ⟨rfl,hk⟩
 ·exact .inr ⟨rfl,hk⟩
 ·cases hk
theorem Zy {c:Code}{Q:Exit->Act->World->Prop}{F:(St->Option R)->St->Option R} {nm:St->(St->Option R)->Option R}
  (hnm:∀{β s a w} {K:St->Option R},B3 N w0 X0 Y β s a w->nm s K=some r->∃β' s',K s'=some r∧B3 N w0 X0 Y β' s' a w)
  (hF:∀{β s a w} {K:St->Option R}{Q':Act->World->Prop},B3 N w0 X0 Y β s a w->F K s=some r->(∀s' a' w' β',K s'=some r->B3 N w0 X0 Y β' s' a' w'->Q' a' w')->c.wp P (Exit.then Q' Q) a w):
  ∀(n:Nat) {β s a w},B3 N w0 X0 Y β s a w->Aa3 F nm n s=some r->Code.rounds P c Q n a w
 |0,_,_,_,_,_,hk=>by cases hk
 |n+1,β,s,a,w,h,hk=>by
  rw[rounds_succ];refine hF h hk fun s' a' w' β' Hj h'=>?_
  obtain⟨β1,s1,C9,h1⟩:=hnm h' Hj;exact Zy hnm hF n h1 C9
theorem MH {G:Glo}(H1:IR P G w0 X0)(C4:∀f args res,call f args=some res->C1 G P f args res)(hm:P.follows .mixedOrders=true){fu:Nat}:
  ∀(c:Code) {ln:Nat} {lx:Nat->Nat} {lr:Nat} {kn:St->Option R} {kx:Nat->St->Option R} {kr:St->Option R} {β:Bt} {s:St} {a:Act} {w:World} {Q:Exit->Act->World->Prop},B3 N w0 X0 Y β s a w ->
   Ly C P fu N call c ln lx lr kn kx kr s=some r->(∀s' a' w' β',kn s'=some r->B3 N w0 X0 Y β' s' a' w'->Q .normal a' w') ->
   (∀id s' a' w' β',kx id s'=some r->B3 N w0 X0 Y β' s' a' w'->Q (.exit id) a' w')->(∀s' a' w' β',kr s'=some r->B3 N w0 X0 Y β' s' a' w'->Q .ret a' w')->c.wp P Q a w:=by
 intro c
 induction c with
 |skip=>intro ln lx lr kn kx kr β s a w Q h hk hn hx hr;exact wp_skip (hn s a w β hk h)
 |region id ops draw=>
  intro ln lx lr kn kx kr β s a w Q h hk hn hx hr;unfold Ly at hk;cases draw
  ·simp only[JB,Bool.false_and,cond_false] at hk;exact FI h H1 C4 hk hn
  ·simp only[JB,Af8,Bool.true_and,cond_true] at hk;cases hb:DJ C P ops<;>rw[hb] at hk
   ·obtain⟨F8,C9⟩:=Ag (show Au _ _=some r from hk)
    exact HP h H1 C4 hm F8 C9 hn
   ·exact EK h H1 C4 hm hb hk hn
 |seq c1 c2 ih1 ih2=>
  intro ln lx lr kn kx kr β s a w Q h hk hn hx hr;unfold Ly at hk
  refine wp_seq (ih1 h hk (fun s' a' w' β' Hj h'=>by
    cases hc:Abz P c1 c2
    ·rw[hc] at Hj;exact ih2 h' Hj hn hx hr
    ·rw[hc] at Hj;cases hq:Wx c1 c2
     ·rw[hq] at Hj;obtain⟨β1,s1,C9,h1⟩:=Oy h' (show Sx _ _ _ _=some r from Hj)
      exact ih2 h1 (CN C9) hn hx hr
     ·rw[hq] at Hj;obtain⟨β1,s1,C9,h1⟩:=ID h' (show QL _ _ _ _=some r from Hj)
      exact ih2 h1 (CN C9) hn hx hr) (fun id s' a' w' β' Hj h'=>hx id s' a' w' β' Hj h') (fun s' a' w' β' Hj h'=>hr s' a' w' β' Hj h'))
 |cond c c1 c2 ih1 ih2=>
  intro ln lx lr kn kx kr β s a w Q h hk hn hx hr;unfold Ly at hk;rcases HC h hk with⟨hc,C9⟩|⟨hc,C9⟩
  ·exact wp_cond_true hc (ih1 h C9 hn hx hr)
  ·exact wp_cond_false hc (ih2 h C9 hn hx hr)
 |block id c ih=>
  intro ln lx lr kn kx kr β s a w Q h hk hn hx hr;unfold Ly at hk;refine wp_block (ih h hk (fun s' a' w' β' Hj h'=>hn s' a' w' β' Hj h') (fun j s' a' w' β' Hj h'=>?_) (fun s' a' w' β' Hj h'=>hr s' a' w' β' Hj h'))
  show (if j=id then _ else _)
  by_cases e:j=id
  ·subst e;rw[if_pos rfl];rw[Nat.beq_refl] at Hj;exact hn s' a' w' β' Hj h'
  ·rw[if_neg e]
   have:Nat.beq j id=false:=by
    cases hb:Nat.beq j id
    ·rfl
    ·exact absurd (Nat.eq_of_beq_eq_true hb) e
   rw[this] at Hj;exact hx j s' a' w' β' Hj h'
 |loop c ih=>
  intro ln lx lr kn kx kr β s a w Q h hk hn hx hr;unfold Ly at hk;obtain⟨β1,s1,C9,h1⟩:=Oy h hk;refine wp_loop_rounds fu (Zy (fun h hk=>Oy h hk) (fun h hk hQ=>?_) fu h1 C9)
  exact ih h hk hQ (fun id s' a' w' β' Hj h'=>hx id s' a' w' β' Hj h') (fun s' a' w' β' Hj h'=>hr s' a' w' β' Hj h')
 |«exit» id=>intro ln lx lr kn kx kr β s a w Q h hk hn hx hr;exact wp_exit (hx id s a w β hk h)
 |ret=>intro ln lx lr kn kx kr β s a w Q h hk hn hx hr;exact wp_ret (hr s a w β hk h)
 |_=>intro ln lx lr kn kx kr β s a w Q h hk hn hx hr;cases hk
end
open Go.RowKit
theorem J0:∀{l:List (Nat × A3)} {i:Nat}{b:A3},Fw l i=some b->(i,b)∈l
 |[],_,_,h=>by cases h
 |(j,c)::l,i,b,h=>by
  unfold Fw at h;cases hb:Nat.beq i j<;>rw[hb] at h
  ·exact List.mem_cons_of_mem _ (J0 h)
  ·have:=Nat.eq_of_beq_eq_true hb;cases h;rw[this];simp
theorem FM:∀{l:List (Nat × A3)},(l.map (·.1)).Nodup->∀{i b},(i,b)∈l->Fw l i=some b
 |[],_,_,_,h=>by cases h
 |(j,c)::l,hn,i,b,h=>by
  simp only[List.map_cons,List.nodup_cons] at hn;unfold Fw;rcases List.mem_cons.1 h with e|h
  ·cases e;simp only[Nat.beq_refl,cond_true]
  ·have:Nat.beq i j=false:=by
    cases hb:Nat.beq i j
    ·rfl
    ·exact absurd (Nat.eq_of_beq_eq_true hb ▸ List.mem_map.2 ⟨_,h,rfl⟩) hn.1
   simp only[this,cond_false];exact FM hn.2 h
section
variable {R:Type} {r:R} {P:Program} {N:Nat} {w0:World} {X0:F9} {Y:Nat->Prop} {β β':Bt} {s:St} {a:Act} {w w':World} {A:Nat->Prop}
theorem ZE {id:Nat}{t:CT}{p:PV}{K:PV->List (Nat × A3)->Option R} (hk:WU id t p K=some r):
  (∃c,K c []=some r∧Ku c∧∀w A q u,E3 w A q p u->An w A c u)∨∃es n cc,p=.own es n cc∧K (.view id es 0 n) [(id,.ar false cc)]=some r:=by
 have tree:∀t',(Ug t' p fun c=>K c [])=some r->∃c,K c []=some r∧Ku c∧∀w A q u,E3 w A q p u->An w A c u:=by
  intro t' hk;obtain⟨c,hk,hT,Xo,hv⟩:=Jz hk;refine⟨c,hk,hT,fun w A q u h=>(hv w A (fun _=>none) u ?_).1⟩
  cases p<;>first|exact h|exact Xo.elim
 unfold WU at hk;cases t with
 |sl es=>
  dsimp only at hk;split at hk
  ·rename_i es' n c;cases hb:Nat.beq es' es<;>rw[hb] at hk
   ·cases hk
   ·have:=Nat.eq_of_beq_eq_true hb;subst this;exact .inr ⟨_,_,_,rfl,hk⟩
  ·exact .inl (tree (.sl es) hk)
 |int k=>exact .inl (tree _ hk)
 |bool=>exact .inl (tree _ hk)
 |str=>exact .inl (tree _ hk)
 |any=>exact .inl (tree _ hk)
theorem Mk:∀{ts:List CT}{id:Nat}{ps:List PV}{K:List PV->List (Nat × A3)->Option R},V5 N id ts ps K=some r ->
  ∃cs bs,∃qs:List (Nat × Nat),K cs bs=some r∧cs.length=ps.length∧ps.length=ts.length∧bs.map (·.1)=qs.map (·.1)∧(∀q∈qs,∀q'∈qs,q.2=q'.2->q.1=q'.1) ∧
   (∀i bx,(i,bx)∈bs->∃c,bx=.ar false c)∧(∀c∈cs,AV c)∧(∀c∈cs,∀i∈Ak c,∃bx,(i,bx)∈bs) ∧
   ∀(w:World) (A:Nat->Prop) (own β':Bt) (j0:Nat) (us:List Value),(∀q∈qs,β' q.1=own (j0+q.2))->Dx w A own j0 ps us->Av (Be w A β') cs us∧∀i bx,(i,bx)∈bs->Nx w A β' i bx
 |[],id,ps,K,hk=>by
  obtain⟨rfl,hk⟩:=Cl hk;refine⟨[],[],[],hk,rfl,rfl,rfl,by simp,by simp,by simp,by simp,fun w A own β' j0 us _ h=>⟨?_,by simp⟩⟩
  cases us with
  |nil=>trivial
  |cons u us=>exact h.elim
 |t::ts,id,ps,K,hk=>by
  unfold V5 at hk;obtain⟨p,ps',Z7,C9⟩:=Ar hk;subst Z7;rcases ZE C9 with⟨c,D3,hT,hv⟩|⟨es,n,cc,rfl,D3⟩
  ·obtain⟨cs,bs,qs,Mx,hl,GR,hb,Wv,Er,hF,Im,Ex⟩:=Mk D3;refine⟨c::cs,bs,qs.map (fun q=>(q.1,q.2+1)),Mx,by simp[hl],by simp[GR],by rw[hb];simp,?_,Er,?_,?_,fun w A own β' j0 us hβ ho=>?_⟩
   ·intro q hq q' Em e;obtain⟨q0,Rc,rfl⟩:=List.mem_map.1 hq;obtain⟨q1,Hg,rfl⟩:=List.mem_map.1 Em;exact Wv q0 Rc q1 Hg (by simp only at e;omega)
   ·intro y hy;rcases List.mem_cons.1 hy with rfl|hy
    ·exact Nv hT
    ·exact hF y hy
   ·intro y hy i hi;rcases List.mem_cons.1 hy with rfl|hy
    ·rw[F5 hT] at hi;cases hi
    ·exact Im y hy i hi
   ·cases us with
    |nil=>exact ho.elim
    |cons u us=>
     obtain⟨h1,h2⟩:=Ex w A own β' (j0+1) us (fun q hq=>by rw[hβ _ (List.mem_map_of_mem hq)];congr 1;simp only;omega) ho.2
     exact⟨⟨Ab3 (hv w A _ u ho.1),h1⟩,h2⟩
  ·obtain⟨cs,bs,qs,Mx,hl,GR,hb,Wv,Er,hF,Im,Ex⟩:=Mk D3;refine⟨_::cs,(id,.ar false cc)::bs,(id,0)::qs.map (fun q=>(q.1,q.2+1)),Mx,by simp[hl],by simp[GR],by simp only[List.map_cons,hb];simp,?_,?_,?_,?_,fun w A own β' j0 us hβ ho=>?_⟩
   ·intro q hq q' Em e;rcases List.mem_cons.1 hq with rfl|hq
    ·rcases List.mem_cons.1 Em with rfl|Em
     ·rfl
     ·obtain⟨q0,Rc,rfl⟩:=List.mem_map.1 Em;simp only at e;omega
    ·obtain⟨q0,Rc,rfl⟩:=List.mem_map.1 hq;rcases List.mem_cons.1 Em with rfl|Em
     ·simp only at e;omega
     ·obtain⟨q1,Hg,rfl⟩:=List.mem_map.1 Em;exact Wv q0 Rc q1 Hg (by simp only at e;omega)
   ·intro i bx hm;rcases List.mem_cons.1 hm with e|hm
    ·cases e;exact⟨cc,rfl⟩
    ·exact Er i bx hm
   ·intro y hy;rcases List.mem_cons.1 hy with rfl|hy
    ·trivial
    ·exact hF y hy
   ·intro y hy i hi;rcases List.mem_cons.1 hy with rfl|hy
    ·simp only[Ak,List.mem_singleton] at hi;subst hi;exact⟨_,List.mem_cons_self⟩
    ·obtain⟨bx,Jc⟩:=Im y hy i hi;exact⟨bx,List.mem_cons_of_mem _ Jc⟩
   ·cases us with
    |nil=>exact ho.elim
    |cons u us=>
     obtain⟨h1,h2⟩:=Ex w A own β' (j0+1) us (fun q hq=>by rw[hβ _ (List.mem_cons_of_mem _ (List.mem_map_of_mem hq))];congr 1;simp only;omega) ho.2
     have h0:=hβ (id,0) List.mem_cons_self;simp only[Nat.add_zero] at h0;refine⟨⟨?_,h1⟩,fun i bx hm=>?_⟩
     ·rcases ho.1 with⟨h3,rfl,_,h5⟩|⟨b,ob,cap,h3,h4,h5,h6,h7,_⟩
      ·exact .inl ⟨h0.trans h3,rfl,rfl,h5⟩
      ·exact .inr ⟨b,ob,ob,cap,h0.trans h3,h4,.inl rfl,h5,h6,h7⟩
     ·rcases List.mem_cons.1 hm with e|hm
      ·cases e;exact Tj ho.1 h0
      ·exact h2 i bx hm
theorem Aez {i:Nat}{t:TypeId}{p:PV}{K:PV->List (Nat × A3)->Option R} (hk:inK P N i t p K=some r):
  ∃v bs,∃qs:List (Nat × Nat),K v bs=some r∧bs.map (·.1)=qs.map (·.1)∧(∀q∈qs,∀q'∈qs,q.2=q'.2->q.1=q'.1)∧(S8 p=true->(Cj N i,0)∈qs∧i<8) ∧
   (∀id bx,(id,bx)∈bs->Cc (some bx)∧∀c,bx=.st c->id=Cj N i∧S8 p=true)∧(∀id∈A9 v,∃bx,(id,bx)∈bs)∧Ur bs ∧
   ∀(w:World) (A:Nat->Prop) (bt β':Bt) (u:Value),(∀q∈qs,β' q.1=bt q.2)->AD w A bt p u->Di w A β' v u∧(∀id bx,(id,bx)∈bs->Nx w A β' id bx) ∧
    ∀id bx b o,(id,bx)∈bs->β' id=some (b,o)->∀j,BR bx o j->Aio bt p b j:=by
 have owns:∀{bs:List (Nat × A3)} {qs:List (Nat × Nat)},bs.map (·.1)=qs.map (·.1)->(∀i bx,(i,bx)∈bs->∃c,bx=.ar false c)->∀{bt β':Bt},(∀q∈qs,β' q.1=bt (1+q.2))->∀id bx b o,(id,bx)∈bs->β' id=some (b,o)->∀j,BR bx o j->∃k o',bt (k+1)=some (b,o')∧o'<=j:=by
  intro bs qs hb Er bt β' hβ id bx b o hm ES j hj;have:id∈qs.map (·.1):=by rw[←hb];exact List.mem_map.2 ⟨_,hm,rfl⟩
  obtain⟨q,hq,rfl⟩:=List.mem_map.1 this;obtain⟨c,rfl⟩:=Er _ _ hm;rw[hβ q hq,Nat.add_comm] at ES;exact⟨q.2,o,ES,hj⟩
 have nost:∀{bs:List (Nat × A3)},(∀i bx,(i,bx)∈bs->∃c,bx=.ar false c)->Ur bs:=by
  intro bs Er id cells hm;obtain⟨c,e⟩:=Er id _ hm;cases e
 unfold inK at hk;split at hk
 ·rename_i e he;obtain⟨ps,rfl,C9⟩:=DN hk;obtain⟨hi8,D3⟩:=Ag C9;have hi8:i<8:=Nat.lt_of_succ_le (Nat.le_of_ble_eq_true hi8);obtain⟨cs,bs,qs,Mx,hl,GR,hb,Wv,Er,hF,Im,hv⟩:=Mk D3;refine⟨_,_,(Cj N i,0)::qs.map (fun q=>(q.1,q.2+1)),Mx,by simp only[List.map_cons,hb];simp,?_,fun _=>⟨List.mem_cons_self,hi8⟩,?_,?_,?_,fun w A bt β' u hβ hp=>?_⟩
  ·intro q hq q' Em e;rcases List.mem_cons.1 hq with rfl|hq
   ·rcases List.mem_cons.1 Em with rfl|Em
    ·rfl
    ·obtain⟨q0,Rc,rfl⟩:=List.mem_map.1 Em;simp only at e;omega
   ·obtain⟨q0,Rc,rfl⟩:=List.mem_map.1 hq;rcases List.mem_cons.1 Em with rfl|Em
    ·simp only at e;omega
    ·obtain⟨q1,Hg,rfl⟩:=List.mem_map.1 Em;exact Wv q0 Rc q1 Hg (by simp only at e;omega)
  ·intro id bx hm;rcases List.mem_cons.1 hm with e|hm
   ·cases e;exact⟨trivial,fun _ _=>⟨rfl,rfl⟩⟩
   ·obtain⟨c,rfl⟩:=Er id bx hm;exact⟨trivial,fun _ e=>by cases e⟩
  ·intro id hid;simp only[A9,Bn,Ak,List.mem_singleton] at hid;subst hid;exact⟨_,List.mem_cons_self⟩
  ·intro id cells hm c hc k hk;rcases List.mem_cons.1 hm with e|hm
   ·cases e;obtain⟨bx,Jc⟩:=Im c hc k hk;exact⟨bx,List.mem_cons_of_mem _ Jc⟩
   ·obtain⟨c,e⟩:=Er id _ hm;cases e
  ·obtain⟨b,o,h1,rfl,_,vs,h3,h4,h5⟩:=hp;have h0:=hβ (Cj N i,0) List.mem_cons_self;simp only at h0;have hβ1:∀q∈qs,β' q.1=bt (1+q.2):=fun q hq=>by rw[hβ _ (List.mem_cons_of_mem _ (List.mem_map_of_mem hq)),Nat.add_comm]
   obtain⟨h6,h7⟩:=hv w A bt β' 1 vs hβ1 h3;refine⟨⟨b,o,h0.trans h1,by simp⟩,fun id bx hm=>?_,fun id bx b' o' hm F8 j hj=>?_⟩
   ·rcases List.mem_cons.1 hm with e|hm
    ·cases e;refine⟨b,o,h0.trans h1,fun k c hk=>?_,fun k hk=>h5 k (by omega)⟩
     obtain⟨v,hv,GP⟩:=h6.get hk;exact⟨v,h4 k v hv,GP⟩
    ·exact h7 id bx hm
   ·rcases List.mem_cons.1 hm with e|hm
    ·cases e;rw[h0] at F8;have hj:o'<=j∧j<o'+cs.length:=hj;exact .inr ⟨o',ps,F8,hj.1,.inl ⟨rfl,by omega⟩⟩
    ·exact .inl (owns hb Er hβ1 id bx b' o' hm F8 j hj)
 ·split at hk
  ·rename_i ps;obtain⟨e,he,C9⟩:=Bm hk;obtain⟨hi8,D3⟩:=Ag C9;have hi8:i<8:=Nat.lt_of_succ_le (Nat.le_of_ble_eq_true hi8);obtain⟨q,qr,hq,Mx⟩:=Ar D3;subst hq;obtain⟨Rq,Ue⟩:=Cl Mx;subst Rq;unfold Oc at Ue;split at Ue
   ·rename_i es' n c;cases hb:Nat.beq es' (At P e)<;>rw[hb] at Ue
    ·cases Ue
    ·have R2:=Nat.eq_of_beq_eq_true hb;subst R2;refine⟨_,_,[(Cj N i,0)],Ue,rfl,by simp,fun _=>⟨by simp,hi8⟩,?_,?_,?_,fun w A bt β' u hβ hp=>?_⟩
     ·intro id bx hm;simp only[List.mem_singleton] at hm;cases hm;exact⟨trivial,fun _ e=>by cases e⟩
     ·intro id hid;simp only[A9,Bn,Ak,List.mem_singleton] at hid;subst hid;exact⟨_,List.mem_cons_self⟩
     ·intro id cells hm;simp only[List.mem_singleton] at hm;cases hm
     ·obtain⟨es,n',c',h1,h2⟩:=hp;cases h1;have h0:=hβ (Cj N i,0) List.mem_cons_self;simp only at h0;refine⟨?_,fun id bx hm=>?_,fun id bx b' o' hm F8 j hj=>?_⟩
      ·rcases h2 with⟨h3,rfl,_,h5⟩|⟨b,ob,cap,h3,h4,h5,h6,h7,_⟩
       ·exact .inl ⟨h0.trans h3,rfl,rfl,h5⟩
       ·exact .inr ⟨b,ob,ob,cap,h0.trans h3,h4,.inl rfl,h5,h6,h7⟩
      ·simp only[List.mem_singleton] at hm;cases hm;exact Tj h2 h0
      ·simp only[List.mem_singleton] at hm;cases hm;rw[h0] at F8;exact .inr ⟨o',_,F8,hj,.inr rfl⟩
   ·cases Ue
  ·rename_i NU;cases Ew:Bc P t<;>rw[Ew] at hk
   ·simp only[cond_false] at hk;obtain⟨cs,bs,qs,Mx,hl,GR,hb,Wv,Er,hF,Im,hv⟩:=Mk hk;obtain⟨c,cs',P0,Ue⟩:=Ar Mx;subst P0;obtain⟨Rq,hk5⟩:=Cl Ue;subst Rq;have hFc:=hF c (by simp)
    have YQ:S8 p=false∨∃ps,p=.pbox ps:=by
     cases p<;>first|exact .inl rfl|exact .inr ⟨_,rfl⟩|exact absurd rfl (NU _)
    have hpb:∀ps,p ≠ .pbox ps:=by
     rintro ps rfl
     cases hts:Gc P t with
     |nil=>rw[hts] at GR;simp at GR
     |cons t' ts=>
      rw[hts] at hk;unfold V5 WU at hk;obtain⟨q,qs1,hq,C9⟩:=Ar hk;cases hq;cases t'<;>simp[Ug,Eu,Ai,A5,En,VH] at C9
    have hpa:∀ps,p ≠ .agg ps:=by
     rintro ps rfl
     cases hts:Gc P t with
     |nil=>rw[hts] at GR;simp at GR
     |cons t' ts=>
      rw[hts] at hk;unfold V5 WU at hk;obtain⟨q,qs1,hq,C9⟩:=Ar hk;cases hq;cases t'<;>simp[Ug,Eu,Ai,A5,En,VH] at C9
    have YQ:S8 p=false:=YQ.elim id (fun ⟨ps,e⟩=>absurd e (hpb ps))
    have Qt:A9 c=Ak c:=by cases c<;>first|rfl|exact hFc.elim
    refine⟨c,bs,qs.map (fun q=>(q.1,q.2+1)),hk5,by rw[hb];simp,?_,(fun h=>by rw[YQ] at h;cases h),?_,fun id hid=>Im c (by simp) id (by rw[←Qt];exact hid),nost Er,fun w A bt β' u hβ hp=>?_⟩
    ·intro q hq q' Em e;obtain⟨q0,Rc,rfl⟩:=List.mem_map.1 hq;obtain⟨q1,Hg,rfl⟩:=List.mem_map.1 Em;exact Wv q0 Rc q1 Hg (by simp only at e;omega)
    ·intro id bx hm;obtain⟨c,rfl⟩:=Er id bx hm;exact⟨trivial,fun _ e=>by cases e⟩
    ·have B4:E3 w A (bt 1) p u:=by cases p<;>first|exact hp.2|exact absurd rfl (hpa _)|exact absurd rfl (hpb _)|exact absurd rfl (NU _)
     have hβ1:∀q∈qs,β' q.1=bt (1+q.2):=fun q hq=>by rw[hβ _ (List.mem_map_of_mem hq),Nat.add_comm]
     obtain⟨h6,h7⟩:=hv w A bt β' 1 [u] hβ1 ⟨B4,trivial⟩;refine⟨?_,h7,fun id bx b' o' hm F8 j hj=>.inl (owns hb Er hβ1 id bx b' o' hm F8 j hj)⟩
     have h8:=h6.1;cases c<;>first|exact h8|exact hFc.elim
   ·simp only[cond_true] at hk;obtain⟨ps,hp0,C9⟩:=F0 hk;subst hp0;obtain⟨cs,bs,qs,Mx,hl,GR,hb,Wv,Er,hF,Im,hv⟩:=Mk C9;refine⟨_,bs,qs.map (fun q=>(q.1,q.2+1)),Mx,by rw[hb];simp,?_,(fun h=>by cases h),?_,fun id hid=>?_,nost Er,fun w A bt β' u hβ hp=>?_⟩
    ·intro q hq q' Em e;obtain⟨q0,Rc,rfl⟩:=List.mem_map.1 hq;obtain⟨q1,Hg,rfl⟩:=List.mem_map.1 Em;exact Wv q0 Rc q1 Hg (by simp only at e;omega)
    ·intro id bx hm;obtain⟨c,rfl⟩:=Er id bx hm;exact⟨trivial,fun _ e=>by cases e⟩
    ·obtain⟨c,hc,hi⟩:=List.mem_flatMap.1 (show id∈cs.flatMap Ak from hid)
     exact Im c hc id hi
    ·obtain⟨vs,h1,_,h3⟩:=hp;have hβ1:∀q∈qs,β' q.1=bt (1+q.2):=fun q hq=>by rw[hβ _ (List.mem_map_of_mem hq),Nat.add_comm]
     obtain⟨h6,h7⟩:=hv w A bt β' 1 vs hβ1 h3;exact⟨⟨vs,h1,h6⟩,h7,fun id bx b' o' hm F8 j hj=>.inl (owns hb Er hβ1 id bx b' o' hm F8 j hj)⟩
theorem JV:∀{ts:List TypeId}{i:Nat}{ps:List PV}{K:List (Nat × PV)->List (Nat × A3)->Option R},WX P N i ts ps K=some r ->
  ∃tms bs,∃qs:List (Nat × Nat × Nat),K tms bs=some r∧bs.map (·.1)=qs.map (·.1)∧(∀q∈qs,i<=q.2.1)∧(∀q∈qs,∀q'∈qs,q.2=q'.2->q.1=q'.1) ∧
   (∀k p,ps[k]?=some p->S8 p=true->(Cj N (i+k),i+k,0)∈qs∧i+k<8)∧(∀id bx,(id,bx)∈bs->Cc (some bx)∧∀c,bx=.st c->∃k p,ps[k]?=some p∧S8 p=true∧id=Cj N (i+k)) ∧
   (∀j,∀id∈A9 (lk tms j),∃bx,(id,bx)∈bs)∧Ur bs ∧
   ∀(w:World) (A:Nat->Prop) (bt:Th) (β':Bt) (us:List Value),(∀q∈qs,β' q.1=bt q.2.1 q.2.2)->I0 w A bt i ps us ->
    (∀j,(∃u,i<=j∧us[j-i]?=some u∧Di w A β' (lk tms j) u)∨(lk tms j=.top∧(i<=j->us[j-i]?=none)))∧(∀id bx,(id,bx)∈bs->Nx w A β' id bx) ∧
    ∀id bx b o,(id,bx)∈bs->β' id=some (b,o)->∀j,BR bx o j->∃k p,ps[k]?=some p∧Aio (bt (i+k)) p b j
 |[],i,ps,K,hk=>by
  obtain⟨Z7,hk⟩:=Cl hk;subst Z7;refine⟨[],[],[],hk,rfl,by simp,by simp,by simp,by simp,(fun j id hid=>by cases hid),(by intro i cells hm;cases hm),fun w A bt β' us _ h=>?_⟩
  cases us with
  |nil=>exact⟨fun j=>.inr ⟨rfl,fun _=>by simp⟩,by simp,by simp⟩
  |cons u us=>exact h.elim
 |t::ts,i,ps,K,hk=>by
  unfold WX at hk;obtain⟨p,ps',Z7,C9⟩:=Ar hk;subst Z7;obtain⟨v,bs,qs,D3,hb,hqi,Zo,Jc,hr,MO,hv⟩:=Aez C9;obtain⟨tms,bs',qs',Mx,F8,Aj8,Au0,Ano,Awf,hr',Asn,Kv⟩:=JV D3;refine⟨(i,v)::tms,bs++bs',qs.map (fun q=>(q.1,i,q.2))++qs',Mx,by simp only[List.map_append,hb,F8];simp,?_,?_,?_,?_,?_,?_,fun w A bt β' us hβ hp=>?_⟩
  ·intro q hq;rcases List.mem_append.1 hq with hq|hq
   ·obtain⟨q0,Rc,rfl⟩:=List.mem_map.1 hq;exact Nat.le_refl _
   ·have:=Aj8 q hq;omega
  ·intro q hq q' Em e;rcases List.mem_append.1 hq with hq|hq
   ·obtain⟨q0,Rc,rfl⟩:=List.mem_map.1 hq;rcases List.mem_append.1 Em with Em|Em
    ·obtain⟨q1,Hg,rfl⟩:=List.mem_map.1 Em;simp only[Prod.mk.injEq,true_and] at e;exact hqi q0 Rc q1 Hg e
    ·have:=Aj8 q' Em;rw[←e] at this;simp only at this;omega
   ·have h5:=Aj8 q hq;rcases List.mem_append.1 Em with Em|Em
    ·obtain⟨q1,Hg,rfl⟩:=List.mem_map.1 Em;rw[e] at h5;simp only at h5;omega
    ·exact Au0 q hq q' Em e
  ·intro k p' Hj hL;cases k with
   |zero=>
    simp only[List.getElem?_cons_zero,Option.some.injEq] at Hj;subst Hj;obtain⟨h1,h2⟩:=Zo hL;exact⟨List.mem_append.2 (.inl (List.mem_map.2 ⟨_,h1,rfl⟩)),h2⟩
   |succ k=>
    obtain⟨h1,h2⟩:=Ano k p' (by simpa using Hj) hL
    rw[show i+1+k=i+(k+1) by omega] at h1 h2
    exact⟨List.mem_append.2 (.inr h1),h2⟩
  ·intro id bx hm;rcases List.mem_append.1 hm with hm|hm
   ·obtain⟨h1,h2⟩:=Jc id bx hm;exact⟨h1,fun c hc=>⟨0,p,rfl,(h2 c hc).2,(h2 c hc).1⟩⟩
   ·obtain⟨h1,h2⟩:=Awf id bx hm;refine⟨h1,fun c hc=>?_⟩
    obtain⟨k,p',h3,h4,h5⟩:=h2 c hc;exact⟨k+1,p',by simpa using h3,h4,by rw[h5,show i+1+k=i+(k+1) by omega]⟩
  ·intro j id hid;unfold lk at hid;cases hbq:Nat.beq j i<;>rw[hbq] at hid
   ·obtain⟨bx,h1⟩:=hr' j id hid;exact⟨bx,List.mem_append.2 (.inr h1)⟩
   ·obtain⟨bx,h1⟩:=hr id hid;exact⟨bx,List.mem_append.2 (.inl h1)⟩
  ·intro id cells hm c hc k hk;rcases List.mem_append.1 hm with hm|hm
   ·obtain⟨bx,h1⟩:=MO id cells hm c hc k hk;exact⟨bx,List.mem_append.2 (.inl h1)⟩
   ·obtain⟨bx,h1⟩:=Asn id cells hm c hc k hk;exact⟨bx,List.mem_append.2 (.inr h1)⟩
  ·cases us with
   |nil=>exact hp.elim
   |cons u us=>
    obtain⟨h1,h2,h3⟩:=hv w A (bt i) β' u (fun q hq=>hβ _ (List.mem_append.2 (.inl (List.mem_map_of_mem hq)))) hp.1
    obtain⟨Qz,PP,h3'⟩:=Kv w A bt β' us (fun q hq=>hβ q (List.mem_append.2 (.inr hq))) hp.2
    refine⟨fun j=>?_,fun id bx hm=>?_,fun id bx b o hm ES j hj=>?_⟩
    ·unfold lk;cases hbq:Nat.beq j i
     ·have Gh:=Jt hbq;simp only[cond_false];rcases Qz j with⟨u',h4,h5,h6⟩|⟨h4,h5⟩
      ·refine .inl ⟨u',by omega,?_,h6⟩
       rw[show j-i=(j-(i+1))+1 by omega]
       simpa using h5
      ·refine .inr ⟨h4,fun hij=>?_⟩
       rw[show j-i=(j-(i+1))+1 by omega]
       simpa using h5 (by omega)
     ·have:=Nat.eq_of_beq_eq_true hbq;subst this;exact .inl ⟨u,Nat.le_refl _,by simp,h1⟩
    ·rcases List.mem_append.1 hm with hm|hm
     ·exact h2 id bx hm
     ·exact PP id bx hm
    ·rcases List.mem_append.1 hm with hm|hm
     ·exact⟨0,p,rfl,h3 id bx b o hm ES j hj⟩
     ·obtain⟨k,p',h4,h5⟩:=h3' id bx b o hm ES j hj;exact⟨k+1,p',by simpa using h4,by rw[show i+(k+1)=i+1+k by omega];exact h5⟩
def MS (bt:Th)(args:List PV)(h8:∀k p,args[k]?=some p->S8 p=true->k<8):F9:=
 ⟨VS bt,Yh bt args,fun i=>∃p,args[i]?=some p∧S8 p=true,fun i=>bt i 0,fun i ⟨p,h1,h2⟩=>h8 i p h1 h2⟩
theorem SN {ts:List TypeId}{args:List PV}{us:List Value}{bt:Th}{K:List (Nat × PV)->List (Nat × A3)->Option R} (hin:Ins w Y bt args us)(hk:WX P N 0 ts args K=some r):
  ∃tms bs,K tms bs=some r∧(A8 (fun _=>none) bs=true->us.length<=N->∃(h8:∀k p,args[k]?=some p->S8 p=true->k<8),∃β0,
   B3 N w (MS bt args h8) Y β0 ⟨lk tms,Fw bs⟩ { tmps:=us.toArray++Array.replicate (N-us.toArray.size) undef,defers:=[] } w):=by
 obtain⟨tms,bs,qs,C9,hb,Rc,hqi,Zo,Jc,hr,MO,hv⟩:=JV hk;refine⟨tms,bs,C9,fun L0 hN=>?_⟩
 have MG:=Nn L0
 have h8:∀k p,args[k]?=some p->S8 p=true->k<8:=fun k p h1 h2=>by
  have:=(Zo k p h1 h2).2;omega
 have Z6:(qs.map (·.1)).Nodup:=by rw[←hb];exact MG
 obtain⟨β0,hβ0⟩:∃β0:Bt,∀q∈qs,β0 q.1=bt q.2.1 q.2.2:=by
  have:∀(l:List (Nat × Nat × Nat)),(l.map (·.1)).Nodup->∃β0:Bt,∀q∈l,β0 q.1=bt q.2.1 q.2.2:=by
   intro l
   induction l with
   |nil=>intro _;exact⟨fun _=>none,by simp⟩
   |cons q l ih=>
    intro hn;simp only[List.map_cons,List.nodup_cons] at hn;obtain⟨b1,h1⟩:=ih hn.2;refine⟨Bu b1 q.1 (bt q.2.1 q.2.2),fun q' Em=>?_⟩
    rcases List.mem_cons.1 Em with rfl|Em
    ·exact Ah _ _ _
    ·have Gh:q'.1≠q.1:=fun e=>hn.1 (by rw[←e];exact List.mem_map.2 ⟨q',Em,rfl⟩)
     rw[Ad _ _ Gh];exact h1 q' Em
  exact this qs Z6
 refine⟨h8,β0,?_⟩;obtain⟨hs,GU,hL⟩:=hv w _ bt β0 us hβ0 hin.args
 have hqm:∀id bx,(id,bx)∈bs->∃ik,(id,ik)∈qs∧β0 id=bt ik.1 ik.2:=by
  intro id bx hm;have:id∈qs.map (·.1):=by rw[←hb];exact List.mem_map.2 ⟨_,hm,rfl⟩
  obtain⟨q,hq,rfl⟩:=List.mem_map.1 this;exact⟨q.2,hq,hβ0 q hq⟩
 have hX:∀b,GG (Fw bs) β0 b->VS bt b:=by
  rintro b ⟨id,o,hl,hβ⟩
  cases hq:Fw bs id with
  |none=>rw[hq] at hl;exact hl.elim
  |some bx=>
   obtain⟨ik,_,h2⟩:=hqm id bx (J0 hq);rw[h2] at hβ;exact⟨_,_,_,hβ⟩
 have hA:∀b,Cd (Fw bs) β0 Y b->VS bt b∨Y b:=fun b hb=>hb.imp (hX b) id
 have Add:∀{p:PV} {u:Value},Di w (fun b=>VS bt b∨Y b) β0 p u->Di w (Cd (Fw bs) β0 Y) β0 p u:=fun h=>h.step (Bh.refl _ _) (fun b _=>hA b) (fun _ _=>rfl)
 refine⟨rfl,by simp;omega,fun i hi=>?_,fun i hi=>?_,?_,?_,?_,fun i hi id hid=>?_,?_,fun b hb=>.inl (hX b hb),?_,?_,?_,fun b hY hXb=>hin.Yx b hY (hX b hXb),hin.Ylt,⟨rfl,rfl,rfl,Bh.refl _ _,fun _ _ _ _=>⟨rfl,rfl⟩⟩⟩
 ·rcases hs i with⟨u,_,h,_⟩|⟨h,_⟩
  ·rw[Nat.sub_zero,List.getElem?_eq_none (by omega)] at h;cases h
  ·exact h
 ·rcases hs i with⟨u,_,h,hv⟩|⟨h,h'⟩
  ·rw[Nat.sub_zero] at h
   have hlt:i<us.length:=by
    rcases Nat.lt_or_ge i us.length with h'|h'
    ·exact h'
    ·rw[List.getElem?_eq_none h'] at h;cases h
   have:(us.toArray++Array.replicate (N-us.toArray.size) undef).getD i undef=u:=by
    rw[Array.getD_eq_getD_getElem?,Array.getElem?_append_left (by simpa using hlt)]
    simp[h]
   show Di w _ _ _ ((us.toArray++Array.replicate (N-us.toArray.size) undef).getD i undef);rw[this];exact Add hv
  ·show Di w _ _ (lk tms i) _;rw[h];exact An.top _
 ·intro id bx hq;exact (GU id bx (J0 hq)).step' hA
 ·intro id id' b o o' hl Hm hβ hβ';cases hq:Fw bs id with
  |none=>change Cc (Fw bs id) at hl;rw[hq] at hl;exact hl.elim
  |some bx=>
   cases Em:Fw bs id' with
   |none=>change Cc (Fw bs id') at Hm;rw[Em] at Hm;exact Hm.elim
   |some bx'=>
    obtain⟨ik,h1,h2⟩:=hqm id bx (J0 hq);obtain⟨ik',Qz,PP⟩:=hqm id' bx' (J0 Em);rw[h2] at hβ;rw[PP] at hβ';obtain⟨h3,h4⟩:=hin.inj _ _ _ _ b o o' hβ hβ';exact hqi _ h1 _ Qz (Prod.ext h3 h4)
 ·intro id b o hn hβ;cases hq:Fw bs id with
  |none=>exact absurd hq hn
  |some bx=>
   obtain⟨ik,h1,h2⟩:=hqm id bx (J0 hq);rw[h2] at hβ;exact hin.lt b ⟨_,_,_,hβ⟩
 ·obtain⟨bx,hm⟩:=hr i id hid;show Fw bs id≠none;rw[FM MG hm];simp
 ·intro id cells hq c hc k hk;obtain⟨bx,hm⟩:=MO id cells (J0 hq) c hc k hk;show Fw bs k≠none;rw[FM MG hm];simp
 ·intro id bx b o hq hl hβ _ j hj;obtain⟨k,p,h1,h2⟩:=hL id bx b o (J0 hq) hβ j hj;rw[Nat.zero_add] at h2;exact⟨k,p,h1,h2⟩
 ·rintro i ⟨p,h1,h2⟩
  have h3:=(Zo i p h1 h2).1;rw[Nat.zero_add] at h3;refine⟨?_,hβ0 _ h3⟩;have:Cj N i∈bs.map (·.1):=by rw[hb];exact List.mem_map.2 ⟨_,h3,rfl⟩
  obtain⟨⟨id,bx⟩,hm,e⟩:=List.mem_map.1 this;show Fw bs (Cj N i)≠none;rw[←e,FM MG hm];simp
 ·intro id c b o hq _ _;obtain⟨k,p,h1,h2,h3⟩:=(Jc id _ (J0 hq)).2 c rfl;rw[Nat.zero_add] at h3;exact⟨k,h3,p,h1,h2⟩
end
open Go.RowKit
def Iv (β:Bt)(l:List (Option Nat)) (j:Nat):Option (Nat × Nat):=((l[j]?).bind id).bind β
section
variable {R:Type} {r:R} {P:Program} {N:Nat} {w0:World} {X0:F9} {Y:Nat->Prop} {β β':Bt} {s:St} {a:Act} {w w':World} {A:Nat->Prop}
def XH (s:St)(l:List (Option Nat)):Prop:=∀id,some id∈l->Cc (s.hp id)
def Jl (s:St)(z:List Nat):Prop:=∀id∈z,∃f c,s.hp id=some (.ar f c)
theorem DQ (h : B3 N w0 X0 Y β s a w) {shr : Bool} {t : CT} {p : PV} {K : PV -> List Nat -> List Nat -> Option R} (hk : PG shr s.hp t p K = some r) :
    ∃ c q z, K c (Option.toList q) z = some r ∧ (∀ x, c ≠ .agg x ∧ c ≠ .pbox x) ∧ AV p ∧ (∀ id, q = some id -> ∃ c, s.hp id = some (.ar false c)) ∧ Jl s z ∧
      ∀ (fz : List Nat) A u, (∀ i ∈ z, i ∈ fz) -> Jl s fz -> (∀ b, A b -> Cd (Ac s.hp fz) β Y b) -> Be w (Cd s.hp β Y) β p u -> E3 w A (q.bind β) c u := by
  have notree : ∀ {c : PV}, Ku c -> ∀ x, c ≠ .agg x ∧ c ≠ .pbox x := fun hT x => ⟨Sz hT x, by rintro rfl; exact hT⟩
  unfold PG at hk
  cases shr <;> simp only[cond_true, cond_false] at hk
  · have tree : ∀ t', (∀ es, t' ≠ .sl es) -> (Ug t' p fun c => K c [] []) = some r -> ∃ c q z, K c (Option.toList q) z = some r ∧ (∀ x, c ≠ .agg x ∧ c ≠ .pbox x) ∧ AV p ∧ (∀ id, q = some id -> ∃ c, s.hp id = some (.ar false c)) ∧ Jl s z ∧
        ∀ (fz : List Nat) A u, (∀ i ∈ z, i ∈ fz) -> Jl s fz -> (∀ b, A b -> Cd (Ac s.hp fz) β Y b) -> Be w (Cd s.hp β Y) β p u -> E3 w A (q.bind β) c u := by
      intro t' Gh hk
      obtain⟨c, C9, hT, Xo, hv⟩ := Jz hk
      refine⟨c, none, [], C9, notree hT, Nv Xo, by simp, (by intro i hi; cases hi), fun fz A u _ _ hA hc => H7 hT ?_⟩
      exact (hv w _ β u hc).1.step (Bh.refl _ _) (fun b _ hb => Kj (hA b hb))
    unfold Agj at hk
    cases t with
    | sl es =>
      dsimp only at hk
      split at hk
      · rename_i id es' off n
        cases hb : (Nat.beq es' es && Nat.beq off 0) <;> rw[hb] at hk
        · cases hk
        · simp only[Bool.and_eq_true] at hb
          have he := Nat.eq_of_beq_eq_true hb.1
          have ho := Nat.eq_of_beq_eq_true hb.2
          subst he ho
          simp only[cond_true] at hk
          split at hk
          · rename_i c h0
            obtain⟨hl, C9⟩ := Ag hk
            refine⟨_, some id, [], C9, by simp, trivial, fun i hi => by cases hi; exact⟨c, h0⟩, (by intro i hi; cases hi), fun fz A u _ _ hA hc => ?_⟩
            rcases hc with⟨h1, _, rfl, h4⟩ | ⟨b, o, x, cap, h1, h2, hx, h3, h4, h5⟩
            · exact .inl ⟨h1, rfl, by simp, h4⟩
            · have hx : x = o := by rcases hx with e | ⟨_, e⟩ <;> omega
              subst hx
              rcases h.box id _ h0 with⟨h6, _⟩ | ⟨b', o', h6, h7, h8, _⟩
              · rw[h1] at h6; cases h6
              · rw[h1] at h6
                cases h6
                refine .inr ⟨b, x, cap, h1, h2, h3, h4, h5, fun j q hq => ?_, fun j hj Kw => h8 rfl j hj Kw⟩
                rw[List.getElem?_take] at hq
                split at hq
                · obtain⟨v, hv, h9, ht⟩ := h7 j q hq
                  exact⟨v, hv, h9, ht.step (Bh.refl _ _) (fun b _ hb => Kj (hA b hb))⟩
                · cases hq
          · cases hk
      · obtain⟨z, n, c, C9, hp⟩ := Eg hk
        obtain⟨hz, D3⟩ := Ag C9
        subst hz
        have hpF : AV p := by rcases hp with e | ⟨e, _⟩ <;> (rw[e]; trivial)
        refine⟨_, none, [], D3, by simp, hpF, by simp, (by intro i hi; cases hi), fun fz A u _ _ _ hc => ?_⟩
        have hu : u = .slice none 0 0 := by
          rcases hp with rfl | ⟨rfl, _⟩
          · cases hc; rfl
          · exact An.val hc
        exact .inl ⟨rfl, rfl, rfl, none, hu⟩
    | int k => exact tree _ (by simp) hk
    | bool => exact tree _ (by simp) hk
    | str => exact tree _ (by simp) hk
    | any => exact tree _ (by simp) hk
  · obtain⟨c, m, C9, hT, hF, hm, hv⟩ := Xw h hk
    exact⟨c, none, m, C9, notree hT, hF, by simp, hm, fun fz A u h1 h2 hA hc => H7 hT ((hv fz h1 h2 u hc).1.step (Bh.refl _ _) (fun b _ hb => hA b hb))⟩
structure Wu (s:St) (β:Bt) (Y:Nat->Prop) (w:World) (cs:List PV) (l:List (Option Nat)) (z:List Nat) (ps:List PV):Prop where
 len:l.length=cs.length
 pl:cs.length=ps.length
 na:∀c∈cs,∀x,c ≠ .agg x∧c ≠ .pbox x
 fr:∀p∈ps,AV p
 own:∀id,some id∈l->∃c,s.hp id=some (.ar false c)
 row:Jl s z
 sem:∀(fz:List Nat) A us,(∀i∈z,i∈fz)->Jl s fz->(∀b,A b->Cd (Ac s.hp fz) β Y b)->Av (Be w (Cd s.hp β Y) β) ps us->∀own j0,(∀j,j<l.length->own (j0+j)=Iv β l j)->Dx w A own j0 cs us
theorem Wu.nil:Wu s β Y w [] [] [] []:=⟨rfl,rfl,by simp,by simp,by simp,(by intro i hi;cases hi),fun fz A us _ _ _ hu own j0 _=>by
 cases us with
 |nil=>trivial
 |cons u us=>exact hu.elim⟩
theorem Wu.cons {c p:PV}{q:Option Nat}{z zs:List Nat}{cs ps:List PV}{l:List (Option Nat)} (Uu:∀x,c ≠ .agg x∧c ≠ .pbox x)(hF:AV p)(hq:∀id,q=some id->∃c,s.hp id=some (.ar false c)) (hz:Jl s z)
  (hv:∀(fz:List Nat) A u,(∀i∈z,i∈fz)->Jl s fz->(∀b,A b->Cd (Ac s.hp fz) β Y b)->Be w (Cd s.hp β Y) β p u->E3 w A (q.bind β) c u) (H:Wu s β Y w cs l zs ps):Wu s β Y w (c::cs) (q::l) (z++zs) (p::ps):=by
 refine⟨by simp[H.len],by simp[H.pl],?_,?_,?_,?_,fun fz A us hz1 hz2 hA hu own j0 hown=>?_⟩
 ·intro x hx;rcases List.mem_cons.1 hx with rfl|hx
  ·exact Uu
  ·exact H.na x hx
 ·intro x hx;rcases List.mem_cons.1 hx with rfl|hx
  ·exact hF
  ·exact H.fr x hx
 ·intro id hid;rcases List.mem_cons.1 hid with e|hid
  ·exact hq id e.symm
  ·exact H.own id hid
 ·intro i hi;rcases List.mem_append.1 hi with hi|hi
  ·exact hz i hi
  ·exact H.row i hi
 ·cases us with
  |nil=>exact hu.elim
  |cons u us=>
   have h0:=hown 0 (by simp)
   rw[Nat.add_zero] at h0;refine⟨?_,H.sem fz A us (fun i hi=>hz1 i (by simp[hi])) hz2 hA hu.2 own (j0+1) fun j hj=>?_⟩
   ·rw[h0];exact hv fz A u (fun i hi=>hz1 i (by simp[hi])) hz2 hA hu.1
   ·have:=hown (j+1) (by simp;omega)
    rw[show j0+1+j=j0+(j+1) by omega,this]
    simp[Iv]
theorem M9 (h:B3 N w0 X0 Y β s a w){shr:Bool}:∀{ts:List CT}{ps:List PV}{K:List PV->List Nat->List Nat->Option R},Ul shr s.hp ts ps K=some r ->
  ∃cs l z,K cs (l.filterMap id) z=some r∧Wu s β Y w cs l z ps
 |[],[],K,hk=>⟨[],[],[],hk,Wu.nil⟩
 |[],_::_,K,hk=>by cases hk
 |_::_,[],K,hk=>by cases hk
 |t::ts,p::ps,K,hk=>by
  unfold Ul at hk;obtain⟨c,q,z,C9,Uu,hF,hq,hz,hv⟩:=DQ h hk;obtain⟨cs,l,zs,D3,H⟩:=M9 h C9;refine⟨c::cs,q::l,z++zs,?_,Wu.cons Uu hF hq hz hv H⟩;cases q<;>exact D3
theorem Vu (h:B3 N w0 X0 Y β s a w):∀{ts:List CT}{ws ps:List PV}{K:List PV->List Nat->List Nat->Option R},W9 s.hp ts ws ps K=some r ->
  ∃cs l z,K cs (l.filterMap id) z=some r∧cs.length=ws.length∧Wu s β Y w cs l z ps
 |[],[],[],K,hk=>⟨[],[],[],hk,rfl,Wu.nil⟩
 |[],_::_,_,K,hk=>by cases hk
 |[],[],_::_,K,hk=>by cases hk
 |_::_,[],_,K,hk=>by cases hk
 |_::_,_::_,[],K,hk=>by cases hk
 |t::ts,x::ws,p::ps,K,hk=>by
  unfold W9 at hk;obtain⟨c,q,z,C9,Uu,hF,hq,hz,hv⟩:=DQ h hk;obtain⟨cs,l,zs,D3,hl,H⟩:=Vu h C9;refine⟨c::cs,q::l,z++zs,?_,by simp[hl],Wu.cons Uu hF hq hz hv H⟩
  cases q<;>exact D3
theorem LN {own:Bt}{zz j:Nat}{p:PV}{u:Value}(hp:∀x,p ≠ .agg x∧p ≠ .pbox x)(h:Dx w A own j [p] [u]):Adf w A own zz j p u:=by
 cases p<;>first|exact h.1|exact absurd rfl (hp _).1|exact absurd rfl (hp _).2
theorem PJ (h:B3 N w0 X0 Y β s a w){id b o:Nat}{c cs:List PV}{l:List (Option Nat)} {z:List Nat}(h0:s.hp id=some (.st c)) (hβ:β id=some (b,o)) (H:Wu s β Y w cs l z c){fz:List Nat}{A:Nat->Prop}(h1:∀i∈z,i∈fz)(h2:Jl s fz)(hA:∀b,A b->Cd (Ac s.hp fz) β Y b)
  {own:Bt} {j0:Nat} (hown:∀j,j<l.length->own (j0+j)=Iv β l j):Afd w A own j0 b o cs:=by
 obtain⟨b',o',Er,Im,FH⟩:=h.box id _ h0;rw[hβ] at Er;cases Er;refine⟨c.mapIdx (fun j _=>(w.cell? ⟨b,o+j,none⟩).getD undef),H.sem fz A _ h1 h2 hA ?_ own j0 hown,?_,fun k hk=>FH k (by have:=H.pl;omega)⟩
 ·refine Av.of_at (by simp) fun j p v hp hv=>?_
  obtain⟨u,hu,GP⟩:=Im j p hp;rw[List.getElem?_mapIdx,hp,Option.map_some,hu] at hv;simp at hv;subst hv;exact GP
 ·intro k v RH;rw[List.getElem?_mapIdx] at RH;cases hp:c[k]? with
  |none=>rw[hp] at RH;cases RH
  |some p=>
   obtain⟨u,hu,GP⟩:=Im k p hp;rw[hp,Option.map_some,hu] at RH;simp at RH;subst RH;exact hu
theorem SE (h:B3 N w0 X0 Y β s a w){shr:Bool}{t:TypeId}{p:PV}{u:Value}(hp:Di w (Cd s.hp β Y) β p u) {K:PV->List Nat->List Nat->Option R}(hk:Abg P shr s.hp t p K=some r):
  ∃v l z,K v (l.filterMap id) z=some r∧l.length=ST v∧XH s l∧Jl s z ∧
   ∀(fz:List Nat) A zz,(∀i∈z,i∈fz)->Jl s fz->(∀b,A b->Cd (Ac s.hp fz) β Y b)->(∀id c b o,some id∈l->s.hp id=some (.st c)->β id=some (b,o)->zz<=b) ->
    ∀own j0,(∀j,j<l.length->own (j0+j)=Iv β l j)->Adf w A own zz j0 v u:=by
 unfold Abg at hk;split at hk
 ·rename_i e he;split at hk
  ·rename_i id off;split at hk
   ·rename_i c h0;obtain⟨hof,C9⟩:=Ag hk;have hof:=Nat.eq_of_beq_eq_true hof;subst hof;obtain⟨cs,l,z,D3,H⟩:=M9 h C9;obtain⟨b,o,hβ,hu⟩:=hp;refine⟨.pbox cs,some id::l,z,D3,by simp only[ST,List.length_cons,H.len];omega,?_,H.row,fun fz A zz h1 h2 hA hz own j0 hown=>?_⟩
    ·intro i hi;rcases List.mem_cons.1 hi with e|hi
     ·cases e;rw[h0];trivial
     ·obtain⟨c',Nf⟩:=H.own i hi;rw[Nf];trivial
    ·have h3:=hown 0 (by simp)
     rw[Nat.add_zero] at h3;refine⟨b,o,by rw[h3];exact hβ,hz id c b o (by simp) h0 hβ,by rw[hu,Nat.add_zero],PJ h h0 hβ H h1 h2 hA fun j hj=>?_⟩
     have:=hown (j+1) (by simp;omega)
     rw[show j0+1+j=j0+(j+1) by omega,this]
     simp[Iv]
   ·cases hk
  ·cases hk
 ·cases Ew:Bc P t<;>rw[Ew] at hk<;>simp only[cond_true,cond_false] at hk
  ·obtain⟨cs,l,z,C9,H⟩:=M9 h hk;obtain⟨c,cs',P0,D3⟩:=Ar C9;subst P0;obtain⟨Rq,Mx⟩:=Cl D3;subst Rq;have Uu:=H.na c (by simp)
   have Z5:ST c=1:=by cases c<;>first|rfl|exact absurd rfl (Uu _).1|exact absurd rfl (Uu _).2
   have hF:=H.fr p (by simp)
   refine⟨c,l,z,Mx,by rw[Z5];exact H.len,fun i hi=>?_,H.row,fun fz A zz h1 h2 hA _ own j0 hown=>LN Uu (H.sem fz A [u] h1 h2 hA ⟨?_,trivial⟩ own j0 hown)⟩
   ·obtain⟨c',Nf⟩:=H.own i hi;rw[Nf];trivial
   ·cases p<;>first|exact hp|exact hF.elim
  ·obtain⟨ps,Z7,C9⟩:=F0 hk;subst Z7;obtain⟨cs,l,z,D3,H⟩:=M9 h C9;obtain⟨vs,hu,Ex⟩:=hp;refine⟨.agg cs,l,z,D3,H.len,fun i hi=>?_,H.row,fun fz A zz h1 h2 hA _ own j0 hown=>⟨vs,hu,H.sem fz A vs h1 h2 hA Ex own j0 hown⟩⟩
   obtain⟨c',Nf⟩:=H.own i hi;rw[Nf];trivial
def EG (P:Program)(tmps:Array Value)(w:World)(rv:ResultVar)(u:Value):Prop:=
  (match rv with
   |.tmp t=>(pure (tmps.getD t undef):Sem Value)
   |.cell a t=>do loadVar t (←asAddr (tmps.getD a undef))).run P w=.ok u w
theorem Abm (h:B3 N w0 X0 Y β s a w)(t:Nat):Di w (Cd s.hp β Y) β (s.tm t) (a.tmps.getD t undef):=by
 rcases Nat.lt_or_ge t N with h'|h'
 ·exact h.tms t h'
 ·rw[h.tmo t h'];exact An.top _
theorem TU (h:B3 N w0 X0 Y β s a w){rv:ResultVar}{K:PV->Option R}(hk:Abf P s rv K=some r):∃p u,K p=some r∧EG P a.tmps w rv u∧Di w (Cd s.hp β Y) β p u:=by
 unfold Abf at hk;split at hk
 ·rename_i t;exact⟨_,_,hk,rfl,Abm h t⟩
 ·rename_i x t;obtain⟨v,ad,val,C9,Cf,hl,hv,_⟩:=IV h (Abm h x) hk;refine⟨v,val,C9,?_,hv⟩;unfold EG;simp[Cf,asAddr,hl]
theorem Ro {l l':List (Option Nat)} {j:Nat}(h:j<l.length):Iv β (l++l') j=Iv β l j:=by
 unfold Iv;rw[List.getElem?_append_left h]
theorem Rv {l l':List (Option Nat)} {j:Nat}:Iv β (l++l') (l.length+j)=Iv β l' j:=by
 unfold Iv;rw[List.getElem?_append_right (by omega),Nat.add_sub_cancel_left]
theorem Z2 (h:B3 N w0 X0 Y β s a w){shr:Bool}:∀{rs:List ResultVar}{ts:List TypeId}{K:List PV->List Nat->List Nat->Option R},EY P shr s rs ts K=some r ->
  ∃vs l z us,K vs (l.filterMap id) z=some r∧Av (EG P a.tmps w) rs us∧l.length=He vs∧XH s l∧Jl s z ∧
   ∀(fz:List Nat) A zz,(∀i∈z,i∈fz)->Jl s fz->(∀b,A b->Cd (Ac s.hp fz) β Y b)->(∀id c b o,some id∈l->s.hp id=some (.st c)->β id=some (b,o)->zz<=b) ->
    ∀own j0,(∀j,j<l.length->own (j0+j)=Iv β l j)->JY w A own zz j0 vs us
 |[],[],K,hk=>⟨[],[],[],[],hk,trivial,rfl,(by intro id hid;cases hid),(by intro id hid;cases hid),fun _ _ _ _ _ _ _ _ _ _=>trivial⟩
 |[],_::_,K,hk=>by cases hk
 |_::_,[],K,hk=>by cases hk
 |rv::rs,t::ts,K,hk=>by
  unfold EY at hk;obtain⟨p,u,C9,hu,hp⟩:=TU h hk;obtain⟨v,l,z,D3,hl,hL,hz,hv⟩:=SE h hp C9;obtain⟨vs,l',z',us,Mx,PM,Hm,RC,UD,Ex⟩:=Z2 h D3;refine⟨v::vs,l++l',z++z',u::us,?_,⟨hu,PM⟩,by simp only[List.length_append,He,List.map_cons,List.sum_cons,hl];rw[Hm];rfl,?_,?_,fun fz A zz h1 h2 hA Jp own j0 hown=>⟨?_,?_⟩⟩
  ·rw[List.filterMap_append];exact Mx
  ·intro id hid;rcases List.mem_append.1 hid with hid|hid
   ·exact hL id hid
   ·exact RC id hid
  ·intro id hid;rcases List.mem_append.1 hid with hid|hid
   ·exact hz id hid
   ·exact UD id hid
  ·exact hv fz A zz (fun i hi=>h1 i (by simp[hi])) h2 hA (fun id c b o hi=>Jp id c b o (by simp[hi])) own j0 fun j hj=>by rw[hown j (by simp;omega),Ro hj]
  ·refine Ex fz A zz (fun i hi=>h1 i (by simp[hi])) h2 hA (fun id c b o hi=>Jp id c b o (by simp[hi])) own (j0+ST v) fun j hj=>?_
   rw[←hl,Nat.add_assoc,hown (l.length+j) (by simp;omega),Rv]
theorem M6 (h:B3 N w0 X0 Y β s a w){bt:Th}(hpt:∀i,X0.pt i=bt i 0):∀{ts:List TypeId}{i:Nat}{ps:List PV}{K:List (List PV)->List Nat->List Nat->List Nat->Option R},Vg P N s.hp i ts ps K=some r ->
  (∀k p,ps[k]?=some p->S8 p=true->X0.pn (i+k)) ->
  ∃os l z q,K os (l.filterMap id) z q=some r∧(∀id,some id∈l->∃c,s.hp id=some (.ar false c))∧Jl s z∧(∀id∈q,Cc (s.hp id))∧(∀k p,ps[k]?=some p->S8 p=true->Cj N (i+k)∈q) ∧
   ∀(fz:List Nat) A,(∀i∈z,i∈fz)->Jl s fz->(∀i∈q,i ∉ fz)->(∀b,A b->Cd (Ac s.hp fz) β Y b) ->
    ∀own j0,(∀j,j<l.length->own (j0+j)=Iv β l j)->F1 w A own bt j0 i ps os
 |[],i,ps,K,hk,_=>by
  obtain⟨Z7,hk⟩:=Cl hk;subst Z7;exact⟨[],[],[],[],hk,by simp,(by intro id hid;cases hid),by simp,by simp,fun _ _ _ _ _ _ _ _ _=>rfl⟩
 |t::ts,i,ps,K,hk,hpn=>by
  unfold Vg at hk;obtain⟨p,ps',Z7,C9⟩:=Ar hk;subst Z7
  have Ahb:∀k p,ps'[k]?=some p->S8 p=true->X0.pn (i+1+k):=fun k p' h1 h2=>by
   have:=hpn (k+1) p' (by simpa using h1) h2
   rw[show i+1+k=i+(k+1) by omega]
   exact this
  have hpq:∀{q:List Nat},(S8 p=true->Cj N i∈q)->(∀k p,ps'[k]?=some p->S8 p=true->Cj N (i+1+k)∈q)->∀k p',(p::ps')[k]?=some p'->S8 p'=true->Cj N (i+k)∈q:=by
   intro q h1 h2 k p' h3 h4;cases k with
   |zero=>
    simp only[List.getElem?_cons_zero,Option.some.injEq] at h3;subst h3;exact h1 h4
   |succ k=>
    have:=h2 k p' (by simpa using h3) h4
    rw[show i+1+k=i+(k+1) by omega] at this
    exact this
  split at C9
  ·rename_i ws;obtain⟨e,he,D3⟩:=Bm C9;split at D3
   ·rename_i c h0;obtain⟨cs,l,z,Mx,Lp,H⟩:=Vu h D3;obtain⟨os,l',z',q,Ue,RC,UD,Em,hpi,hv⟩:=M6 h hpt Mx Ahb;refine⟨cs::os,l++l',z++z',Cj N i::q,by rw[List.filterMap_append];exact Ue,?_,?_,?_,hpq (fun _=>List.mem_cons_self) (fun k p h1 h2=>List.mem_cons_of_mem _ (hpi k p h1 h2)),fun fz A h1 h2 h3 hA own j0 hown=>?_⟩
    ·intro id hid;rcases List.mem_append.1 hid with hid|hid
     ·exact H.own id hid
     ·exact RC id hid
    ·intro id hid;rcases List.mem_append.1 hid with hid|hid
     ·exact H.row id hid
     ·exact UD id hid
    ·intro id hid;rcases List.mem_cons.1 hid with rfl|hid
     ·rw[h0];trivial
     ·exact Em id hid
    ·have Zo:=(h.pin i (by have:=hpn 0 _ rfl rfl;rwa [Nat.add_zero] at this)).2
     obtain⟨b,o,Er,_,_⟩:=h.box _ _ h0;rw[Er,hpt] at Zo;refine⟨⟨b,o,Zo.symm,Lp,PJ h h0 Er H (fun i hi=>h1 i (by simp[hi])) h2 hA fun j hj=>by rw[hown j (by simp;omega),Ro hj]⟩,?_⟩
     refine hv fz A (fun i hi=>h1 i (by simp[hi])) h2 (fun i hi=>h3 i (by simp[hi])) hA own (j0+cs.length) fun j hj=>?_
     rw[←H.len,Nat.add_assoc,hown (l.length+j) (by simp;omega),Rv]
   ·cases D3
  ·split at C9
   ·rename_i c h0;obtain⟨os,l',z',q,Ue,RC,UD,Em,hpi,hv⟩:=M6 h hpt C9 Ahb;refine⟨c::os,l',z',Cj N i::q,Ue,RC,UD,?_,hpq (fun _=>List.mem_cons_self) (fun k p h1 h2=>List.mem_cons_of_mem _ (hpi k p h1 h2)),fun fz A h1 h2 h3 hA own j0 hown=>⟨?_,hv fz A h1 h2 (fun i hi=>h3 i (by simp[hi])) hA own j0 hown⟩⟩
    ·intro id hid;rcases List.mem_cons.1 hid with rfl|hid
     ·rw[h0];trivial
     ·exact Em id hid
    ·have Zo:=(h.pin i (by have:=hpn 0 _ rfl rfl;rwa [Nat.add_zero] at this)).2
     rw[hpt] at Zo;rcases h.box _ _ h0 with⟨h4,h5⟩|⟨b,o,h4,h5,h6,_⟩
     ·exact .inl ⟨by rw[←Zo];exact h4,h5⟩
     ·exact .inr ⟨b,o,by rw[←Zo];exact h4,h5.weak (fun b _ hb=>Kj (hA b hb)),h6 rfl⟩
   ·cases C9
  ·rename_i hn1 hn2;have YQ:S8 p=false:=by cases p<;>first|rfl|exact absurd rfl (hn1 _)|exact absurd rfl (hn2 _)
   obtain⟨os,l',z',q,Ue,RC,UD,Em,hpi,hv⟩:=M6 h hpt C9 Ahb;refine⟨os,l',z',q,Ue,RC,UD,Em,hpq (fun e=>by rw[YQ] at e;cases e) hpi,fun fz A h1 h2 h3 hA own j0 hown=>?_⟩
   have:=hv fz A h1 h2 h3 hA own j0 hown;cases p<;>first|exact this|cases YQ
theorem HQ {f:ResultVar->Sem Value}:∀{rs:List ResultVar}{us:List Value},Av (fun rv u=>(f rv).run P w=.ok u w) rs us->(rs.mapM f).run P w=.ok us w
 |[],[],_=>by simp
 |[],_::_,h=>h.elim
 |_::_,[],h=>h.elim
 |rv::rs,u::us,h=>by
  rw[List.mapM_cons];simp[h.1,HQ h.2]
theorem KB {fn:Func}{us:List Value}(h:Av (EG P a.tmps w) fn.results.toList us):(results fn a.tmps).run P w=.ok (Dy us) w:=by
 unfold results;rw[Array.mapM_eq_mapM_toList];simp only[map_eq_pure_bind,bind_assoc,pure_bind,Sem.run_bind];refine Eq.trans (congrArg (fun x=>Result.andThen x _) (HQ h)) ?_
 simp only[Result.andThen_ok,Sem.run_pure]
 congr 1
 clear h
 match us with
 |[]=>rfl
 |[u]=>rfl
 |u::v::us=>exact dif_neg (by simp)
theorem KH:∀{l:List (Option Nat)},C8 (l.filterMap id)=true->∀{j j' i:Nat},l[j]?=some (some i)->l[j']?=some (some i)->j=j'
 |[],_,j,j',i,h,_=>by simp at h
 |q::l,hn,j,j',i,h,h'=>by
  have hn':C8 (l.filterMap id)=true:=by
   cases q with
   |none=>exact hn
   |some x=>
    simp only[List.filterMap_cons,id_eq,C8,Bool.and_eq_true] at hn;exact hn.2
  have hq:∀(x k:Nat),q=some x->l[k]?≠some (some x):=by
   intro x k e hk;subst e;simp only[List.filterMap_cons,id_eq,C8,Bool.and_eq_true,Bool.not_eq_true'] at hn;exact Nq hn.1 (List.mem_filterMap.2 ⟨some x,List.mem_of_getElem? hk,rfl⟩)
  cases j with
  |zero=>
   cases j' with
   |zero=>rfl
   |succ k'=>
    simp at h h';exact absurd h' (hq i k' h)
  |succ k=>
   cases j' with
   |zero=>
    simp at h h';exact absurd h (hq i k h')
   |succ k'=>
    simp at h h';rw[KH hn' h h']
theorem CC {C:Fy}{f:FuncId}{fn:Func}{args:List PV}{res:Bb}{w:World}{Y:Nat->Prop}{bt:Th}{us:List Value}(hin:Ins w Y bt args us){h8:∀k p,args[k]?=some p->S8 p=true->k<8}
  {s':St} {a':Act} {w':World} {β':Bt} (hr:UB C P f fn args s'=some res) (h:B3 fn.ntmps w (MS bt args h8) Y β' s' a' w'):
  a'.defers=[]∧∃v,(results fn a'.tmps).run P w'=.ok v w'∧∃vs own,Ending.returned v=.returned (Dy vs)∧QN w w' Y bt args own res vs:=by
 unfold UB at hr;obtain⟨vs,l,z,us',hr1,PM,hll,hL,hz,hv⟩:=Z2 h hr;obtain⟨os,l',z',q,hr2,RC,UD,hq,hpi,Kv⟩:=M6 h (bt:=bt) (fun _=>rfl) hr1 (fun k p h1 h2=>by rw[Nat.zero_add];exact⟨p,h1,h2⟩)
 obtain⟨hnd,hr3⟩:=Ag hr2;cases hr3;simp only[Bool.and_eq_true] at hnd;obtain⟨hnd,Aix⟩:=hnd;obtain⟨hn1,hn2,hn3⟩:=Gn hnd
 have N1:∀i∈z++z',i ∉ (l.filterMap id++l'.filterMap id)++q:=by
  intro i hi Jv;have:=List.all_eq_true.1 Aix i hi;have h2:((l.filterMap id++l'.filterMap id)++q).any (Nat.beq i)=true:=List.any_eq_true.2 ⟨i,Jv,Nat.beq_refl i⟩;rw[h2] at this;cases this
 have UM:Jl s' (z++z'):=by
  intro i hi;rcases List.mem_append.1 hi with hi|hi
  ·exact hz i hi
  ·exact UD i hi
 refine⟨h.dfr,Dy us',KB PM,us',Iv β' (l++l'),rfl,?_⟩;have Avx:C8 ((l++l').filterMap id)=true:=by rw[List.filterMap_append];exact hn1
 have hown:∀j b o,Iv β' (l++l') j=some (b,o)->∃id,(l++l')[j]?=some (some id)∧β' id=some (b,o):=by
  intro j b o hj;unfold Iv at hj;cases hlj:(l++l')[j]? with
  |none=>rw[hlj] at hj;cases hj
  |some q=>
   cases q with
   |none=>rw[hlj] at hj;cases hj
   |some id=>
    rw[hlj] at hj;exact⟨id,rfl,hj⟩
 have Ig:∀(j i:Nat),(l++l')[j]?=some (some i)->i∈l.filterMap id++l'.filterMap id:=by
  intro j i hj;rw[←List.filterMap_append];exact List.mem_filterMap.2 ⟨some i,List.mem_of_getElem? hj,rfl⟩
 have Fe:∀(j i:Nat),(l++l')[j]?=some (some i)->Cc (s'.hp i):=by
  intro j i hj;rcases List.mem_append.1 (List.mem_of_getElem? hj) with Jv|Jv
  ·exact hL i Jv
  ·obtain⟨c,hc⟩:=RC i Jv;rw[hc];trivial
 have Af0:∀i,i∈(l.filterMap id++l'.filterMap id)++q->Ac s'.hp (z++z') i=s'.hp i:=by
  intro i hi;rw[Ba,if_neg (fun Jv=>N1 i Jv hi)]
 have Af6:∀i b o,bt i 0=some (b,o)->Cj fn.ntmps i∈q∧Cc (s'.hp (Cj fn.ntmps i))∧β' (Cj fn.ntmps i)=some (b,o):=by
  intro i b o KU;obtain⟨p,h1,h2⟩:=hin.l0 i _ KU;have h3:=hpi i p h1 h2;rw[Nat.zero_add] at h3;exact⟨h3,hq _ h3,(h.pin i ⟨p,h1,h2⟩).2.trans KU⟩
 have hAO:∀b,Ky bt (Iv β' (l++l')) Y b->Cd (Ac s'.hp (z++z')) β' Y b:=by
  rintro b (⟨j,o,hj⟩|⟨i,o,KU⟩|hY)
  ·obtain⟨id,h1,h2⟩:=hown j b o hj;refine .inl ⟨id,o,?_,h2⟩;rw[Af0 id (List.mem_append.2 (.inl (Ig j id h1)))];exact Fe j id h1
  ·obtain⟨h1,h2,h3⟩:=Af6 i b o KU;refine .inl ⟨_,o,?_,h3⟩;rw[Af0 _ (List.mem_append.2 (.inr h1))];exact h2
  ·exact .inr hY
 have Rz:∀(j id b o:Nat),(l++l')[j]?=some (some id)->β' id=some (b,o)->b<w.heap.size->∃i k o',bt i (k+1)=some (b,o'):=by
  intro j id b o hj hβ hlt;rcases h.ownd b ⟨id,o,Fe j id hj,hβ⟩ with⟨i,k,o',KU⟩|VU
  ·cases k with
   |zero=>
    obtain⟨h1,h2,h3⟩:=Af6 i b o' KU;have:=h.inj id _ b o o' (Fe j id hj) h2 hβ h3;subst this;exact absurd h1 (hn3 _ (Ig j _ hj))
   |succ k=>exact⟨i,k,o',KU⟩
  ·omega
 refine⟨h.fr.os,h.fr.tape,h.fr.output,h.fr.step,h.fr.rng,?_,?_,?_,?_⟩
 ·refine hv (z++z') _ _ (fun i hi=>List.mem_append.2 (.inl hi)) UM hAO (fun id c b o hi hc hβ=>?_) _ 0 (fun j hj=>by rw[Nat.zero_add,Ro hj])
  rcases Nat.lt_or_ge b w.heap.size with hlt|VU
  ·obtain⟨k,Hj,p,h1,h2⟩:=h.stp id c b o hc hβ hlt;have h3:=hpi k p h1 h2;rw[Nat.zero_add,←Hj] at h3;obtain⟨j,hj⟩:=List.mem_iff_getElem?.1 hi;refine absurd h3 (hn3 id ?_);exact List.mem_append.2 (.inl (List.mem_filterMap.2 ⟨some id,hi,rfl⟩))
  ·exact VU
 ·refine Kv (z++z') _ (fun i hi=>List.mem_append.2 (.inr hi)) UM (fun i hi Jv=>N1 i Jv (List.mem_append.2 (.inr hi))) hAO _ _ (fun j hj=>?_)
  rw[←hll,Rv]
 ·intro j b o hj;obtain⟨id,h1,h2⟩:=hown j b o hj;refine⟨h.blt id b o (Ca (Fe j id h1)) h2,fun hlt=>⟨Rz j id b o h1 h2 hlt,fun x hx=>?_⟩⟩
  cases Jc:s'.hp id with
  |none=>have:=Fe j id h1;rw[Jc] at this;exact this.elim
  |some bx=>
   have Ys:=Fe j id h1;rw[Jc] at Ys;cases bx with
   |st c=>
    obtain⟨k,Hj,p,h3,h4⟩:=h.stp id c b o Jc h2 hlt;have h5:=hpi k p h3 h4;rw[Nat.zero_add,←Hj] at h5;exact absurd h5 (hn3 _ (Ig j _ h1))
   |ar fz c=>exact h.rngB id _ b o Jc Ys h2 hlt x hx
   |mv=>exact Ys.elim
 ·intro j j' b o o' hj Kw;obtain⟨id,h1,h2⟩:=hown j b o hj;obtain⟨id',Qz,PP⟩:=hown j' b o' Kw;have:=h.inj id id' b o o' (Fe j id h1) (Fe j' id' Qz) h2 PP;subst this;exact KH Avx h1 Qz
theorem LK {G:Glo}(H1:NoNG P)(hm:P.follows .mixedOrders=true){C:Fy}{fu:Nat}{call:Aj}(C4:∀f args res,call f args=some res->C1 G P f args res){f:FuncId}{fn:Func}{c:Code}(hf:P.funcs[f]?=some fn) (hb:fn.body=some c)
  {args:List PV} {res:Bb} (hk:Aki C P fu call f fn c args=some res):C1 G P f args res:=by
 refine⟨⟨fn,hf,by rw[hb];rfl⟩,fun w Y bt us hin hG hGY=>?_⟩
 unfold Aki at hk;obtain⟨tms,bs,C9,Jp⟩:=SN hin hk;obtain⟨Er,D3⟩:=Ag C9;simp only[Bool.and_eq_true] at Er
 have Dv:us.length<=fn.ntmps:=by
  rw[←hin.args.len];exact Nat.le_of_ble_eq_true Er.1
 obtain⟨h8,β0,hs⟩:=Jp Er.2 Dv;refine calls_of_wp hf hb ?_;have hE:IR P G w (MS bt args h8):=⟨H1,fun w' hfr=>G.stable w w' (fun b hb hlt=>hfr.step.keep b hlt (hGY b hb).2) hG,hGY⟩
 refine MH hE C4 hm c hs D3 (fun s' a' w' β' hr h=>CC hin hr h) (fun id s' a' w' β' hr h=>by cases hr) (fun s' a' w' β' hr h=>CC hin hr h)
def ExtOk (G:Glo)(P:Program)(C:Fy):Prop:=∀f g args res,C.ext f=some g->g args=some res->C1 G P f args res
theorem Of {G:Glo}(H1:NoNG P)(hm:P.follows .mixedOrders=true){C:Fy}(hx:ExtOk G P C){fu:Nat}:∀(d:Nat)(f:FuncId)(args:List PV)(res:Bb),Af C P fu d f args=some res->C1 G P f args res
 |0,_,_,_,h=>by cases h
 |d+1,f,args,res,h=>by
  unfold Af at h;split at h
  ·rename_i g hg;exact hx f g args res hg h
  ·split at h
   ·cases h
   ·rename_i fn hf;split at h
    ·cases h
    ·rename_i c hb;exact LK H1 hm (Of H1 hm hx d) hf hb h
end
open Go.ChangeShapes Go.WideShapes Go.ChangeAt Go.RowKit Go.Deep
def EN (P:Program):List Field->Nat->Nat->Bool
 |[],i,n=>Nat.beq i n
 |f::r,i,n=>Nat.beq f.offset i&&EN P r (i+P.cellsOf f.type) n
def J3 (P:Program):Nat->TypeId->Bool
 |0,_=>false
 |d+1,t=>
  match P.underlying t with
  |some .bool=>true
  |some (.int _)=>true
  |some .string=>true
  |some (.slice e)=>J3 P d e&&Nat.blt 0 (P.cellsOf e)
  |some (.struct fs)=>EN P fs.toList 0 (P.cellsOf t)&&fs.toList.all fun f=>J3 P d f.type
  |some (.array n e)=>Nat.beq (P.cellsOf t) (n*P.cellsOf e)&&J3 P d e
  |_=>false
def WT (P:Program):Nat->TypeId->List PV->Prop
 |0,_,_=>False
 |d+1,t,ps=>
  match P.underlying t with
  |some .bool=>∃b,ps=[.sc (.bool b)]
  |some (.int k)=>∃n,ps=[.sc (.int k n)]∧(Lit.int k n).wf=true
  |some .string=>∃s:ByteArray,ps=[.sc (.string s)]∧s.size<=maxLen
  |some (.slice e)=>∃rows:List (List PV),ps=[.lst false (P.cellsOf e) rows.length rows.flatten]∧rows.length<=maxLen∧∀r∈rows,r.length=P.cellsOf e∧WT P d e r
  |some (.struct fs)=>∃rows:List (List PV),ps=rows.flatten∧Av (fun f r=>WT P d f.type r) fs.toList rows
  |some (.array n e)=>∃rows:List (List PV),ps=rows.flatten∧rows.length=n∧∀r∈rows,r.length=P.cellsOf e∧WT P d e r
  |_=>False
def WTv (P:Program)(t:TypeId)(p:PV):Prop:=
 match Bc P t with
 |true=>∃ps,p=.agg ps∧WT P 12 t ps
 |false=>WT P 12 t [p]
section
variable {P:Program} {d:Nat} {t e:TypeId} {ps:List PV}
theorem Aeo (hu:P.underlying t=some .bool):WT P (d+1) t ps↔∃b,ps=[.sc (.bool b)]:=by
 show (match P.underlying t with|some .bool=>_|some (.int k)=>_|some .string=>_|some (.slice e)=>_|some (.struct fs)=>_|some (.array n e)=>_|_=>_)↔_
 rw[hu]
theorem Aba {k:IntKind}(hu:P.underlying t=some (.int k)):WT P (d+1) t ps↔∃n,ps=[.sc (.int k n)]∧(Lit.int k n).wf=true:=by
 show (match P.underlying t with|some .bool=>_|some (.int k)=>_|some .string=>_|some (.slice e)=>_|some (.struct fs)=>_|some (.array n e)=>_|_=>_)↔_
 rw[hu]
theorem DC (hu:P.underlying t=some .string):WT P (d+1) t ps↔∃s:ByteArray,ps=[.sc (.string s)]∧s.size<=maxLen:=by
 show (match P.underlying t with|some .bool=>_|some (.int k)=>_|some .string=>_|some (.slice e)=>_|some (.struct fs)=>_|some (.array n e)=>_|_=>_)↔_
 rw[hu]
theorem JU (hu:P.underlying t=some (.slice e)):WT P (d+1) t ps↔∃rows:List (List PV),ps=[.lst false (P.cellsOf e) rows.length rows.flatten]∧rows.length<=maxLen∧∀r∈rows,r.length=P.cellsOf e∧WT P d e r:=by
 show (match P.underlying t with|some .bool=>_|some (.int k)=>_|some .string=>_|some (.slice e)=>_|some (.struct fs)=>_|some (.array n e)=>_|_=>_)↔_
 rw[hu]
theorem SW {fs:Array Field}(hu:P.underlying t=some (.struct fs)):WT P (d+1) t ps↔∃rows:List (List PV),ps=rows.flatten∧Av (fun f r=>WT P d f.type r) fs.toList rows:=by
 show (match P.underlying t with|some .bool=>_|some (.int k)=>_|some .string=>_|some (.slice e)=>_|some (.struct fs)=>_|some (.array n e)=>_|_=>_)↔_
 rw[hu]
theorem Aa5 {n:Nat}(hu:P.underlying t=some (.array n e)):WT P (d+1) t ps↔∃rows:List (List PV),ps=rows.flatten∧rows.length=n∧∀r∈rows,r.length=P.cellsOf e∧WT P d e r:=by
 show (match P.underlying t with|some .bool=>_|some (.int k)=>_|some .string=>_|some (.slice e)=>_|some (.struct fs)=>_|some (.array n e)=>_|_=>_)↔_
 rw[hu]
end
inductive Ki where
 |bool
 |int (k:IntKind)
 |str
 |sl (e:TypeId)
 |st (ts:List TypeId)
 |ar (n:Nat) (e:TypeId)
 |no
def Jb (P:Program)(t:TypeId):Ki:=
 match P.underlying t with
 |some .bool=>.bool
 |some (.int k)=>.int k
 |some .string=>.str
 |some (.slice e)=>.sl e
 |some (.struct fs)=>.st (fs.toList.map (·.type))
 |some (.array n e)=>.ar n e
 |_=>.no
section
variable {P:Program} {d:Nat} {t e:TypeId} {ps:List PV} {p:PV}
theorem Av.cons_inv {α β:Type}{R:α->β->Prop}{a:α}{zs:List α}:∀{rs:List β},Av R (a::zs) rs->∃r rs',rs=r::rs'∧R a r∧Av R zs rs'
 |[],h=>h.elim
 |r::rs,h=>⟨r,rs,rfl,h.1,h.2⟩
theorem Av.nil_inv {α β:Type}{R:α->β->Prop}:∀{rs:List β},Av R ([]:List α) rs->rs=[]
 |[],_=>rfl
 |_::_,h=>h.elim
theorem XA {k:IntKind}(hk:Jb P t=.int k)(h:WT P d t ps):∃n,ps=[.sc (.int k n)]∧(Lit.int k n).wf=true:=by
 cases d with
 |zero=>exact h.elim
 |succ d=>
 unfold Jb at hk;split at hk<;>first|cases hk|skip
 rename_i hu;exact (Aba hu).1 h
theorem Alm (hk:Jb P t=.str)(h:WT P d t ps):∃s:ByteArray,ps=[.sc (.string s)]∧s.size<=maxLen:=by
 cases d with
 |zero=>exact h.elim
 |succ d=>
 unfold Jb at hk;split at hk<;>first|cases hk|skip
 rename_i hu;exact (DC hu).1 h
theorem An6 (hk:Jb P t=.sl e)(h:WT P d t ps):∃rows:List (List PV),ps=[.lst false (P.cellsOf e) rows.length rows.flatten]∧rows.length<=maxLen∧∀r∈rows,r.length=P.cellsOf e∧WT P (d-1) e r:=by
 cases d with
 |zero=>exact h.elim
 |succ d=>
 rw[Nat.add_sub_cancel];unfold Jb at hk;split at hk<;>first|cases hk|skip
 rename_i hu;exact (JU hu).1 h
theorem FC (hk:Bc P t=false)(h:WTv P t p):WT P 12 t [p]:=by
 unfold WTv at h;rw[hk] at h;exact h
theorem Adi {k:IntKind}(ha:Bc P t=false)(hk:Jb P t=.int k)(h:WTv P t p):∃n,p=.sc (.int k n)∧(Lit.int k n).wf=true:=by
 obtain⟨b,e,h⟩:=XA hk (FC ha h);exact⟨b,by injection e,h⟩
theorem Acv (ha:Bc P t=false)(hk:Jb P t=.str)(h:WTv P t p):∃s:ByteArray,p=.sc (.string s)∧s.size<=maxLen:=by
 obtain⟨b,e,h⟩:=Alm hk (FC ha h);exact⟨b,by injection e,h⟩
theorem Vq {α:Type}(f:α->List PV)(Q:α->Prop):∀{rows:List (List PV)},(∀r∈rows,∃x,r=f x∧Q x)->∃xs:List α,rows.flatten=xs.flatMap f∧rows.length=xs.length∧∀x∈xs,Q x
 |[],_=>⟨[],rfl,rfl,by simp⟩
 |r::rows,h=>by
  obtain⟨x,h1,h2⟩:=h r (by simp)
  obtain⟨xs,h3,h4,h5⟩:=Vq (rows:=rows) f Q fun r hr=>h r (by simp[hr])
  refine⟨x::xs,by simp[h1,h3],by simp[h4],fun y hy=>?_⟩
  rcases List.mem_cons.1 hy with rfl|hy
  ·exact h2
  ·exact h5 y hy
end
abbrev No:Nat->Prop:=fun _=>False
section
variable {H:Type} {enc:TypeId × Value->H} {P:Program} {w:World} {base:Nat} {held:Bool}
theorem Av.flat {α β:Type}{R:α->β->Prop}:∀{l:List Nat}{f:Nat->List α}{g:Nat->List β},(∀i∈l,Av R (f i) (g i))->Av R (l.map f).flatten (l.map g).flatten
 |[],_,_,_=>trivial
 |i::l,f,g,h=>by
  simp only[List.map_cons,List.flatten_cons];exact (h i (by simp)).app (Av.flat fun j hj=>h j (by simp[hj]))
theorem RB {a:Addr}{v:Value}(h:w.cell? a=some v):a.spot=none∧a.block<w.heap.size:=by
 unfold World.cell? at h;split at h
 ·rename_i c t f e;refine⟨?_,?_⟩
  ·cases hs:a.spot with
   |none=>rfl
   |some x=>rw[hs] at h;simp at h
  ·rcases Nat.lt_or_ge a.block w.heap.size with h1|h1
   ·exact h1
   ·rw[Array.getElem?_eq_none h1] at e;cases e
 ·cases h
theorem Ye {α:Type}{g:Nat->List α}{es:Nat}:∀{n:Nat},(∀i,i<n->(g i).length=es)->((List.range n).map g).flatten.length=n*es
 |0,_=>by simp
 |n+1,h=>by
  rw[List.range_succ,List.map_append,List.flatten_append,List.length_append,Ye (fun i hi=>h i (by omega))]
  simp[h n (by omega),Nat.succ_mul]
theorem Zb {a:Addr}{g:Nat->List Value}{es:Nat}:∀{n:Nat},(∀i,i<n->(g i).length=es)->(∀i,i<n->∀k,k<es->w.cell? (a.add (i*es+k))=(g i)[k]?) ->
  ∀j,j<n*es->w.cell? (a.add j)=(((List.range n).map g).flatten)[j]?
 |0,_,_,j,hj=>by omega
 |n+1,hl,hc,j,hj=>by
  have CZ:=Ye (fun i (hi:i<n)=>hl i (by omega))
  rw[List.range_succ,List.map_append,List.flatten_append,List.getElem?_append,CZ];rw[Nat.succ_mul] at hj;split
  ·rename_i h1;exact Zb (fun i hi=>hl i (by omega)) (fun i hi=>hc i (by omega)) j h1
  ·rename_i h1;have:=hc n (by omega) (j-n*es) (by omega)
   rw[show n*es+(j-n*es)=j by omega] at this
   simpa using this
abbrev TR (w:World)(c:PV)(v:Value):Prop:=(Ku c∧An w No c v)∧v.oneCell'=true
theorem Vv {d:Nat}{cs:List Value}{n:Nat}(hn:cs.length=n):∀(l:List Field)(i:Nat),EN P l i n=true ->
  (∀f∈l,∃ps,WT P d f.type ps∧Av (TR w) ps ((cs.drop f.offset).take (P.cellsOf f.type)))->∃rows:List (List PV),Av (fun f r=>WT P d f.type r) l rows∧Av (TR w) rows.flatten (cs.drop i)
 |[],i,ho,_=>by
  have:=Nat.eq_of_beq_eq_true ho;refine⟨[],trivial,?_⟩;rw[List.drop_of_length_le (by omega)]
  trivial
 |f::l,i,ho,h=>by
  simp only[EN,Bool.and_eq_true] at ho;have ho1:=Nat.eq_of_beq_eq_true ho.1;obtain⟨ps,h1,h2⟩:=h f (by simp)
  obtain⟨rows,h3,h4⟩:=Vv hn l _ ho.2 fun g hg=>h g (by simp[hg])
  refine⟨ps::rows,⟨h1,h3⟩,?_⟩;rw[ho1] at h2;have:cs.drop i=(cs.drop i).take (P.cellsOf f.type)++cs.drop (i+P.cellsOf f.type):=by rw[←List.drop_drop];exact (List.take_append_drop _ _).symm
  rw[this,List.flatten_cons];exact h2.app h4
theorem Zp {d:Nat}{e:TypeId}{cs:List Value}{k:Nat}:∀(n:Nat),n*k<=cs.length ->
  (∀i,i<n->∃ps,(ps.length=k∧WT P d e ps)∧Av (TR w) ps ((cs.drop (i*k)).take k))->∃rows:List (List PV),rows.length=n∧(∀r∈rows,r.length=k∧WT P d e r)∧Av (TR w) rows.flatten (cs.take (n*k))
 |0,_,_=>⟨[],rfl,by simp,by simp[Av]⟩
 |n+1,hl,h=>by
  rw[Nat.succ_mul] at hl;obtain⟨rows,h1,h2,h3⟩:=Zp n (by omega) fun i hi=>h i (by omega)
  obtain⟨ps,h4,h5⟩:=h n (by omega)
  refine⟨rows++[ps],by simp[h1],?_,?_⟩
  ·intro r hr;rcases List.mem_append.1 hr with hr|hr
   ·exact h2 r hr
   ·rw[List.mem_singleton.1 hr];exact h4
  ·rw[List.flatten_append,Nat.succ_mul,List.take_add];refine h3.app ?_
   simpa using h5
theorem Pr:∀(d:Nat)(t:TypeId),J3 P d t=true->∀(fuel:Nat)(cs:List Value)(x:DataW H × List MemPlace),DataW.trod enc P w base (fun _=>true) held fuel t cs=some x ->
  ∃ps,WT P d t ps∧Av (TR w) ps cs
 |0,_,h,_,_,_,_=>by cases h
 |d+1,t,hp,fuel,cs,x,h=>by
  unfold J3 at hp;split at hp
  ·rename_i hu;obtain⟨b,rfl,_⟩:=DataW.trod_bool hu h;simp only[Aeo hu];exact⟨[.sc (.bool b)],⟨b,rfl⟩,⟨⟨trivial,An.sc _⟩,rfl⟩,trivial⟩
  ·rename_i k hu;obtain⟨n,rfl,_,hw⟩:=DataW.trod_int hu h;simp only[Aba hu];exact⟨[.sc (.int k n)],⟨n,rfl,hw⟩,⟨⟨trivial,An.sc _⟩,rfl⟩,trivial⟩
  ·rename_i hu;obtain⟨s,rfl,_,hw⟩:=DataW.trod_string hu h;simp only[DC hu];exact⟨[.sc (.string s)],⟨s,rfl,hw⟩,⟨⟨trivial,An.sc _⟩,rfl⟩,trivial⟩
  ·rename_i e hu;simp only[Bool.and_eq_true] at hp;have R2:0<P.cellsOf e:=Nat.lt_of_succ_le (Nat.le_of_ble_eq_true hp.2);simp only[JU hu];rcases open_slice hu h with⟨rfl,_⟩|⟨a,len,cap,m,n,D,Pl,rfl,_,hl,hm,VW,_,hi⟩
   ·exact⟨[.lst false (P.cellsOf e) 0 []],⟨[],by simp,by simp,by simp⟩,⟨⟨trivial,An.lnil _ _⟩,rfl⟩,trivial⟩
   ·simp only[if_true] at VW;subst VW
    have EJ:∀i,i<len->∃q:List PV × List Value,(q.2.length=P.cellsOf e∧(∀k,k<P.cellsOf e->w.cell? (a.add (i*P.cellsOf e+k))=q.2[k]?))∧WT P d e q.1∧Av (TR w) q.1 q.2:=by
     intro i hlt;obtain⟨cs',hc,ht⟩:=hi i (by omega)
     obtain⟨_,Lp,hat⟩:=World.cells?_some hc;obtain⟨ps,h1,h2⟩:=Pr d e hp.1 _ _ _ ht;exact⟨(ps,cs'),⟨Lp,fun k hk=>by rw[←Pv.add_add];exact hat k hk⟩,h1,h2⟩
    obtain⟨F,hF⟩:=choose_lt EJ;refine⟨[.lst false (P.cellsOf e) len ((List.range len).map fun i=>(F i).1).flatten],⟨(List.range len).map fun i=>(F i).1,by simp,by simp;omega,?_⟩,⟨⟨trivial,?_⟩,rfl⟩,trivial⟩
    ·intro r hr;obtain⟨i,hi1,rfl⟩:=List.mem_map.1 hr;have hi2:=List.mem_range.1 hi1;exact⟨by rw[(hF i hi2).2.2.len];exact (hF i hi2).1.1,(hF i hi2).2.1⟩
    ·rcases Nat.eq_zero_or_pos len with h0|h0
     ·subst h0;exact An.lemp _ _ _
     ·have Jy:Av (TR w) ((List.range len).map fun i=>(F i).1).flatten ((List.range len).map fun i=>(F i).2).flatten:=Av.flat fun i hi=>(hF i (List.mem_range.1 hi)).2.2
      have hcell:=Zb (w:=w) (a:=a) (g:=fun i=>(F i).2) (fun i hi=>(hF i hi).1.1) (fun i hi=>(hF i hi).1.2)
      have Dv:=Ye (g:=fun i=>(F i).2) (fun i (hi:i<len)=>(hF i hi).1.1)
      have h00:w.cell? a≠none:=by
       have:=hcell 0 (Nat.mul_pos h0 R2);rw[show a.add 0=a by unfold Addr.add;simp] at this
       rw[this,List.getElem?_eq_getElem (by rw[Dv];exact Nat.mul_pos h0 R2)]
       simp
      obtain⟨v0,hv0⟩:=Option.ne_none_iff_exists'.1 h00;obtain⟨hs,hb⟩:=RB hv0
      have key:∀j c,(((List.range len).map fun i=>(F i).1).flatten)[j]?=some c->∃v,w.cell? (a.add j)=some v∧TR w c v:=by
       intro j c hj
       have hlj:j<len*P.cellsOf e:=by
        rw[←Dv,←Jy.len];rcases Nat.lt_or_ge j (((List.range len).map fun i=>(F i).1).flatten).length with h1|h1
        ·exact h1
        ·rw[List.getElem?_eq_none h1] at hj;cases hj
       have h1:=hcell j hlj;rw[List.getElem?_eq_getElem (by rw[Dv];exact hlj)] at h1
       exact⟨_,h1,Jy.at_ hj (List.getElem?_eq_getElem (by rw[Dv];exact hlj))⟩
      refine An.lst _ _ _ a _ (fun j=>(w.cell? (a.add j)).getD undef) hs hb (fun h=>h) hl (fun j c hj=>?_) (fun j c hj=>?_) (fun j c hj=>?_)
      ·obtain⟨v,hv,_⟩:=key j c hj;rw[hv];rfl
      ·obtain⟨v,hv,ht⟩:=key j c hj;rw[hv];exact ht.2
      ·obtain⟨v,hv,ht⟩:=key j c hj;rw[hv];exact ht.1.2
  ·rename_i fs hu;simp only[Bool.and_eq_true] at hp;simp only[SW hu];obtain⟨xs,n,_,_,Dv,hxl,hf⟩:=DataW.trod_struct hu h
   obtain⟨rows,h1,h2⟩:=Vv (P:=P) (w:=w) (d:=d) Dv fs.toList 0 hp.1 fun f RQ=>by
    obtain⟨i,hi⟩:=List.mem_iff_getElem?.1 RQ;have EJ:fs[i]?=some f:=by simpa using hi
    have hlt:i<fs.size:=(Array.getElem?_eq_some_iff.1 EJ).1;have h3:=hf i f EJ;rw[List.getElem?_eq_getElem (by omega)] at h3
    exact Pr d f.type (List.all_eq_true.1 hp.2 f RQ) _ _ _ h3
   exact⟨_,⟨rows,rfl,h1⟩,by simpa using h2⟩
  ·rename_i n e hu;simp only[Bool.and_eq_true] at hp;simp only[Aa5 hu];obtain⟨xs,m,_,_,Dv,hxl,hf⟩:=DataW.trod_array hu h;have J1:=Nat.eq_of_beq_eq_true hp.1
   obtain⟨rows,h1,h2,h3⟩:=Zp (P:=P) (w:=w) (d:=d) (e:=e) (cs:=cs) (k:=P.cellsOf e) n (by omega) fun i hi=>by
    have h3:=hf i hi;rw[List.getElem?_eq_getElem (by omega)] at h3
    obtain⟨ps,h4,h5⟩:=Pr d e hp.2 _ _ _ h3;refine⟨ps,⟨?_,h4⟩,h5⟩;rw[h5.len,List.length_take,List.length_drop,Dv,J1];have:(i+1)*P.cellsOf e<=n*P.cellsOf e:=Nat.mul_le_mul_right _ hi;rw[Nat.succ_mul] at this;omega
   refine⟨_,⟨rows,rfl,h1,h2⟩,?_⟩;rw[List.take_of_length_le (by omega)] at h3
   exact h3
  ·cases hp
theorem Ab2 {r:Reach}{b0:Nat}{t:TypeId}{v:Value}{dd:DataW H}{p:List MemPlace}(hp:J3 P 12 t=true)(hv:Value.okWide P w r b0 t v)(h:DataW.Trod enc P w base (fun _=>true) held t v dd p):
  ∃q,WTv P t q∧Id w No q v:=by
 obtain⟨fuel,hf⟩:=h;obtain⟨ps,h1,h2⟩:=Pr 12 t hp fuel _ _ hf;unfold WTv Bc
 have two:∀{cs:Array Value},v=.agg cs->∃q,(∃ps,q=.agg ps∧WT P 12 t ps)∧Id w No q v:=by
  intro cs e;subst e;exact⟨.agg ps,⟨ps,rfl,h1⟩,cs.toList,by simp,h2.mono fun c v h=>h.1⟩
 have one:v.cells.toList=[v]->∃q,WT P 12 t [q]∧Id w No q v:=by
  intro e;rw[e] at h2
  match ps,h2 with
  |[q],h2=>
   refine⟨q,h1,?_⟩;have h3:=h2.1.1;cases q<;>first|exact h3|exact h3.1.elim
  |[],h2=>exact h2.elim
  |_::_::_,h2=>exact h2.2.elim
 unfold J3 at hp;split at hp
 ·rename_i hu;simp only[hu];obtain⟨b,rfl,_⟩:=open_bool hu hv ⟨fuel,hf⟩;exact one rfl
 ·rename_i k hu;simp only[hu];obtain⟨b,rfl,_⟩:=open_int hu hv ⟨fuel,hf⟩;exact one rfl
 ·rename_i hu;simp only[hu];obtain⟨b,rfl,_⟩:=ChangeMaps.open_string hu hv ⟨fuel,hf⟩;exact one rfl
 ·rename_i e hu;simp only[hu];obtain⟨a,len,cap,rfl⟩:=okWide_slice hu hv;exact one rfl
 ·rename_i fs hu;simp only[hu];obtain⟨cs,rfl,_⟩:=okWide_struct hu hv;exact two rfl
 ·rename_i n e hu;simp only[hu];unfold Value.okWide at hv;simp only[hu] at hv;obtain⟨cs,rfl,_⟩:=hv;exact two rfl
 ·cases hp
theorem CF:∀{ts:List TypeId}{vs:List Value}{ds:List (DataW H)} {p:List MemPlace}{r:Reach}{b0:Nat},(ts.all fun t=>J3 P 12 t)=true->(∀(j:Nat) t v,ts[j]?=some t->vs[j]?=some v->Value.okWide P w r b0 t v) ->
  DataW.TrodAll enc P w base (fun _=>true) held ts vs ds p->∃qs,Av (WTv P) ts qs∧Av (Id w No) qs vs
 |[],[],[],_,_,_,_,_,_=>⟨[],trivial,trivial⟩
 |t::ts,v::vs,d::ds,_,r,b0,hp,hv,⟨p,q,h1,h2,_⟩=>by
  simp only[List.all_cons,Bool.and_eq_true] at hp;obtain⟨x,h3,h4⟩:=Ab2 hp.1 (hv 0 t v rfl rfl) h1;obtain⟨xs,h5,h6⟩:=CF hp.2 (fun j t v ht Kv=>hv (j+1) t v ht Kv) h2
  exact⟨x::xs,⟨h3,h5⟩,h4,h6⟩
 |[],_::_,_,_,_,_,_,_,h=>by cases h
 |[],[],_::_,_,_,_,_,_,h=>by cases h
 |_::_,[],_,_,_,_,_,_,h=>by cases h
 |_::_,_::_,[],_,_,_,_,_,h=>by cases h
theorem Qy (hl:laidOutB P=true){W W':World}{sp:Nat->Bool}:∀{ts:List TypeId}{vs:List Value}{ds:List (DataW H)} {p:List MemPlace},(ts.all fun t=>P.readableRec t&&Nat.blt t P.types.size)=true ->
  DataW.TrodAll enc P W 0 (fun _=>true) true ts vs ds p->(∀x∈p,W.sameAt W' x)->(∀x∈p,sp x.block=true)->DataW.TrodAll enc P W' 0 sp true ts vs ds p
 |[],[],[],_,_,h,_,_=>h
 |t::ts,v::vs,d::ds,_,hr,⟨p,q,h1,h2,e⟩,hs,VK=>by
  simp only[List.all_cons,Bool.and_eq_true] at hr;refine⟨p,q,WideElems.Trod_stays hl hr.1.1 (Nat.lt_of_succ_le (Nat.le_of_ble_eq_true hr.1.2)) h1 (fun x hx=>hs x ?_) (fun x hx=>VK x ?_),Qy hl hr.2 h2 (fun x hx=>hs x ?_) (fun x hx=>VK x ?_),e⟩
  all_goals rw[e,List.mem_append]
  ·exact .inl hx
  ·exact .inl hx
  ·exact .inr hx
  ·exact .inr hx
 |[],_::_,_,_,_,h,_,_=>by cases h
 |[],[],_::_,_,_,h,_,_=>by cases h
 |_::_,[],_,_,_,h,_,_=>by cases h
 |_::_,_::_,[],_,_,h,_,_=>by cases h
theorem BF {f:Func}{s:ChangeSpec}{apart fresh FF again:Bool}{W W':World}{args:Array Value}{v:Value}{ds gs:List (DataW H)} {before pa pv:List MemPlace}
  (hW:DataW.Whole enc P f.params.toList s.vars apart W args.toList ds gs before)
  (Anj:∀(b:Nat)(sp:Nat->Bool)(hd:Bool),DataW.TrodAll enc P W' b sp hd f.resultTypes.toList (v.resultList f.resultTypes.size) (s.fn H (ds++gs)).results [])
  (Dp:∀sp:Nat->Bool,(∀p∈before,sp p.block=true)->DataW.TrodAll enc P W' 0 sp true f.params.toList args.toList (s.fn H (ds++gs)).args pa)
  (II:∀sp:Nat->Bool,(∀p∈before,sp p.block=true)->DataW.TrodVars enc P W' sp s.vars (s.fn H (ds++gs)).vars pv)
  (Z7:before=pa++pv)(hb:Below W.heap.size W W')
  (K1:∀(j:Nat)(t:TypeId)(r:Value),f.resultTypes[j]?=some t->(v.resultList f.resultTypes.size)[j]?=some r->Value.okWide P W' .any 0 t r):
  s.post enc P f apart fresh FF again W args v W':=by
 have hlt:∀p∈before,p.block<W.heap.size:=fun p hp=>hW.lt p hp
 have hold:∀p∈before,(fun b=>decide (b<W.heap.size)) p.block=true:=fun p hp=>by simpa using hlt p hp
 refine⟨ds,gs,before,[],pa,pv,hW,Anj _ _ _,Dp _ hold,II _ hold,World.keptBut_mono (fun p hp=>⟨hp,?_⟩) (hb.frame (· ∈ before)),fun _=>?_⟩
 ·rw[Z7,List.mem_append] at hp;exact Or.inr hp
 ·obtain⟨_,_,_,_,_,hz,hn⟩:=hW;refine⟨K1,_,_,([]++pa)++pv,⟨[]++pa,pv,trodAll_append (Dp _ (fun _ _=>rfl)) (Anj _ _ _),II _ (fun _ _=>rfl),rfl,?_,?_⟩,?_⟩
  ·intro b off hp;have hin:MemPlace.cell b off∈before:=by rw[Z7];simpa using hp
   rw[hb.frozen (hlt _ hin)];exact hz b off hin
  ·intro ha;have:=hn ha;rw[Z7] at this
   simpa using this
  ·intro p hp _;rw[Z7]
   simpa using hp
theorem law_contract {G:Glo}{C:Fy}(hx:ExtOk G P C)(H1:NoNG P)(hm:P.follows .mixedOrders=true)(hl:laidOutB P=true){f:FuncId}{fn:Func}{s:ChangeSpec}{tb:TypeId}(hfn:P.funcs[f]?=some fn)
  (II:s.vars=[]) (Aot:∀ds:List (DataW H),ds.length=fn.params.size->s.fn H ds={ results:=[.lit (.bool true)],args:=ds }) (Ajq:(fn.params.toList.all fun t=>J3 P 12 t)=true)
  (Anb:(fn.params.toList.all fun t=>P.readableRec t&&Nat.blt t P.types.size)=true) (hrt:fn.resultTypes = #[tb]) (hub:P.underlying tb=some .bool)
  {apart fresh FF again:Bool} (W:World) (base:Nat) (args:Array Value) (ds gs:List (DataW H)) (before:List MemPlace)
  (hval:∀(j:Nat) t v,fn.params[j]?=some t->args[j]?=some v->Value.okWide P W .any base t v)
  (hW:DataW.Whole enc P fn.params.toList s.vars apart W args.toList ds gs before)
  (Aud:∀qs:List PV,Av (WTv P) fn.params.toList qs->∃fu d,Af C P fu d f qs=some ⟨[.sc (.bool true)],[]⟩) (hG:G.ok W)(hGY:∀b,G.bl b->b<W.heap.size):
  Calls P f args W fun e W'=>∃v,e=.returned v∧s.post enc P fn apart fresh FF again W args v W':=by
 have hW':=hW;obtain⟨p,q,hA,hV,rfl,N1,hnd⟩:=hW;rw[II] at hV;obtain⟨rfl,rfl⟩:=trodVars_none hV;obtain⟨qs,h1,h2⟩:=CF Ajq (fun j t v ht hv=>hval j t v (by simpa using ht) (by simpa using hv)) hA
 obtain⟨fu,d,hc⟩:=Aud qs h1;have hS:=(Of H1 hm hx d f qs _ hc).2 W No K0 args.toList (Y7 (fun b h=>h.elim) h2) hG (fun b hb=>⟨hGY b hb,Tf b⟩)
 rw[Array.toArray_toList] at hS;refine hS.mono fun e W' ⟨vs,own,he,ho⟩=>?_
 have hv:=ho.vals
 have Ex:vs=[.bool true]:=by
  match vs,hv with
  |[u],hv=>
   have:An W' _ (.sc (.bool true)) u:=hv.1;rw[this.val]
  |[],hv=>exact hv.elim
  |_::_::_,hv=>exact hv.2.elim
 subst Ex;subst he;have hb:Below W.heap.size W W':=⟨ho.os,ho.tape,ho.output,ho.ext.size,fun k hk=>ho.ext.keep k hk (Tf k)⟩
 have hlt:∀x∈p,x.block<W.heap.size:=fun x hx=>hW'.lt x (by simpa using hx)
 have Dv:ds.length=fn.params.size:=by
  have:∀{ts:List TypeId} {vs:List Value} {ds:List (DataW H)} {p:List MemPlace},DataW.TrodAll enc P W 0 (fun _=>true) true ts vs ds p->ds.length=ts.length:=by
   intro ts
   induction ts with
   |nil=>intro vs ds p h;cases vs<;>cases ds<;>first|rfl|cases h
   |cons t ts ih=>
    intro vs ds p h;cases vs with
    |nil=>cases h
    |cons v vs=>
     cases ds with
     |nil=>cases h
     |cons d ds=>obtain⟨_,_,_,h2,_⟩:=h;simp[ih h2]
  simpa using this hA
 have VK:=Aot (ds++[]) (by simpa using Dv)
 refine⟨_,rfl,BF (pa:=p) (pv:=[]) hW' ?_ ?_ ?_ rfl hb ?_⟩
 ·intro b sp hd;rw[VK,hrt];exact trodAll_mk1 (shut_bool hub _)
 ·intro sp At7;rw[VK];simp only[List.append_nil];exact Qy hl Anb hA (fun x hx=>hb.same (hlt x hx)) (fun x hx=>At7 x (by simpa using hx))
 ·intro sp _;rw[VK,II];rfl
 ·exact ok_one hrt rfl (okWide_bool_mk hub _)
end
end
section
open Go.Proofs.Try (prog)
set_option maxRecDepth 100000
theorem Afb {d:Nat}{ps:List PV}{k:IntKind}{t e:TypeId}(hk:Jb prog t=.sl e)(hc:prog.cellsOf e=1)(he:Jb prog e=.int k)(h:WT prog d t ps):
  ∃l:List Int,ps=[.lst false 1 l.length (Aq k l)]∧l.length<=maxLen∧∀n∈l,(Lit.int k n).wf=true:=by
 obtain⟨rows,rfl,hl,hr⟩:=An6 hk h;obtain⟨l,h1,h2,h3⟩:=Vq (Aja k) (fun n=>(Lit.int k n).wf=true) fun r hrr=>XA he (hr r hrr).2
 refine⟨l,?_,by omega,h3⟩
 rw[h1,h2,hc]
theorem Aaf {p:PV}{k:IntKind}{t e:TypeId}(ha:Bc prog t=false)(hk:Jb prog t=.sl e)(hc:prog.cellsOf e=1)(he:Jb prog e=.int k)(h:WTv prog t p):
  ∃l:List Int,p=.lst false 1 l.length (Aq k l)∧l.length<=maxLen∧∀n∈l,(Lit.int k n).wf=true:=by
 have h':=FC (P:=prog) (t:=t) (p:=p) ha h;obtain⟨l,h1,h2,h3⟩:=Afb hk hc he h';exact⟨l,by injection h1,h2,h3⟩
end
section
open Go.IntKind (wrap)
theorem VP:type_of% @Bool.not_true:=@Bool.not_true
theorem VR:type_of% @Bool.not_false:=@Bool.not_false
theorem Fx:type_of% @Nat.mul_one:=@Nat.mul_one
theorem Fv:type_of% @Nat.zero_add:=@Nat.zero_add
theorem Ik:type_of% @List.drop_zero.{0}:=@List.drop_zero
theorem Qq:type_of% @List.take_of_length_le.{0}:=@List.take_of_length_le
theorem Yb:type_of% @List.length_append.{0}:=@List.length_append
theorem N6:type_of% @List.length_nil.{0}:=@List.length_nil
theorem MI:type_of% @List.length_cons.{0}:=@List.length_cons
theorem S3:type_of% @Int.toNat_natCast:=@Int.toNat_natCast
theorem Lz:type_of% @if_neg.{1}:=@if_neg
theorem Lw:type_of% @if_pos.{1}:=@if_pos
theorem Zzv:type_of% @List.append_assoc.{0}:=@List.append_assoc
end
section
open Go.Proofs.Try (prog)
open Go.IntKind (wrap)
set_option maxRecDepth 100000
abbrev Jm:FuncId:=75
theorem Ql {xs:FuncId->Option (List PV->Option Bb)} (fu d:Nat)(a0 a1:Int):Af (CX xs) prog fu (d+1) Jm [.sc (.int .u64 a0),.sc (.int .i64 a1)]=(fun (call:Aj)=>Aa (wrap .u64 a1) fun x1=>Aa (QY .u64 x1 63) fun x2=>Au (decide (0<=x2))<|Aa (Ho .u64 a0 x2) fun x3=>Aa (wrap .u64 (64-x2)) fun x4=>Au (decide (0<=x4))<|Aa (AU .u64 a0 x4) fun x5=>Aa (Xj .u64 x3 x5) fun x6=>some (Bb.mk [.sc (.int .u64 x6)] [])) (Af (CX xs) prog fu d):=by kernel_rfl
abbrev G5:FuncId:=50
noncomputable def Fh (fu:Nat)(call:Aj)(a0n:Nat)(a0:List PV)(nn y0 y1:Nat)(y2:List PV)(y3 y4:Int)(y5:List PV):Option Bb:=Cw CB prog fu call 50 Try.f50 (Bz Try.f50) [.lst false 1 a0n a0] [.r,.r,.l,.r,.l] nn ⟨lk [(3,(.view 3 1 0 y0)),(11,(.lst false 1 y1 y2)),(12,(.sc (.int .i64 y3))),(13,(.sc (.int .i64 y4)))],Fw [(3,(.ar false y5))]⟩
noncomputable def Gj (fu:Nat)(call:Aj)(a0n:Nat)(a0:List PV)(m0 nn y0:Nat)(y1:Int)(y2:Nat)(y3:List PV)(y4 y5 y6:Int)(y7:List PV):Option Bb:=Cw CB prog fu call 50 Try.f50 (Bz Try.f50) [.lst false 1 a0n a0] [.r,.r,.l,.r,.l,.i m0,.r,.r,.l,.l,.r,.r,.l] nn ⟨lk [(3,(.view 3 1 0 y0)),(5,(.sc (.int .u64 y1))),(11,(.lst false 1 y2 y3)),(12,(.sc (.int .i64 y4))),(13,(.sc (.int .i64 y5))),(17,(.sc (.int .i64 y6)))],Fw [(3,(.ar false y7))]⟩
theorem Le (fu:Nat)(call:Aj)(a0n:Nat)(a0:List PV)(nn y0 y1:Nat)(y2:List PV)(y3 y4:Int)(y5:List PV):Fh fu call a0n a0 (nn+1) y0 y1 y2 y3 y4 y5=(Cg (decide (y4<y3)) (Au (decide (0<=y4)&&decide (y4<(↑y1:Int)))<|Ai .u64 (List.getD y2 (Int.toNat y4*1) .top) fun x2=>Gj fu call a0n a0 nn (fu) (y0) x2 (y1) (y2) (y3) (y4) 0 (y5)) (Au (decide (y0*1<=y5.length))<|some (Bb.mk [.own 1 y0 (List.take (y0*1) y5)] []))):=by kernel_rfl
theorem Lo (fu:Nat)(call:Aj)(a0n:Nat)(a0:List PV)(m0 nn y0:Nat)(y1:Int)(y2:Nat)(y3:List PV)(y4 y5 y6:Int)(y7:List PV):Gj fu call a0n a0 m0 (nn+1) y0 y1 y2 y3 y4 y5 y6 y7=(Cg (decide (y6<8)) (Aa (wrap .i64 (8*y6)) fun x3=>Aa (wrap .i64 (56-x3)) fun x4=>Au (decide (0<=x4))<|Aa (AU .u64 y1 x4) fun x5=>Aa (wrap .u8 x5) fun x6=>Au (decide (y0*1<=y7.length)&&true&&decide ((y0+1)*1<=1099511627776)&&decide (y0+1<=1099511627776))<|Aa (y0+1) fun x7=>Aa (List.take (y0*1) y7++[.sc (.int .u8 x6)]) fun x8=>Aa (wrap .i64 (y6+1)) fun x9=>Gj fu call a0n a0 m0 (nn) x7 (y1) (y2) (y3) (y4) (y5) x9 x8) (Aa (wrap .i64 (y5+1)) fun L3=>Fh fu call a0n a0 (m0) (y0) (y2) (y3) (y4) L3 (y7))):=by kernel_rfl
theorem Zw {xs:FuncId->Option (List PV->Option Bb)} (fu d a0n:Nat)(a0:List PV):Af (CX xs) prog fu (d+1) G5 [.lst false 1 a0n a0]=(fun (call:Aj)=>Aa (wrap .i64 (8*(↑a0n:Int))) fun x1=>Au (decide (0<=x1)&&decide (x1*1<=1099511627776)&&decide (x1<=1099511627776))<|Fh fu call a0n a0 (fu) 0 (a0n) (a0) ((↑a0n:Int)) 0 ([])) (Af (CX xs) prog fu d):=by kernel_rfl
abbrev N2:FuncId:=60
noncomputable def F6 (fu:Nat)(call:Aj)(a0n:Nat)(a0:List PV)(nn:Nat)(y0:Int)(y1:Nat)(y2:List PV)(y3 y4:Int):Option Bb:=Cw CB prog fu call 60 Try.f60 (Bz Try.f60) [.lst false 1 a0n a0] [.r,.r,.l,.r,.l] nn ⟨lk [(3,(.sc (.int .u64 y0))),(6,(.lst false 1 y1 y2)),(7,(.sc (.int .i64 y3))),(8,(.sc (.int .i64 y4)))],Fw []⟩
theorem Ka (fu:Nat)(call:Aj)(a0n:Nat)(a0:List PV)(nn:Nat)(y0:Int)(y1:Nat)(y2:List PV)(y3 y4:Int):F6 fu call a0n a0 (nn+1) y0 y1 y2 y3 y4=(Cg (decide (y4<y3)) (Au (decide (0<=y4)&&decide (y4<(↑y1:Int)))<|Ai .u8 (List.getD y2 (Int.toNat y4*1) .top) fun x1=>Aa (wrap .u64 x1) fun x2=>Aa (wrap .i64 (8*y4)) fun x3=>Au (decide (0<=x3))<|Aa (Ho .u64 x2 x3) fun x4=>Aa (Xj .u64 y0 x4) fun x5=>Aa (wrap .i64 (y4+1)) fun x6=>F6 fu call a0n a0 (nn) x5 (y1) (y2) (y3) x6) (some (Bb.mk [.sc (.int .u64 y0)] []))):=by kernel_rfl
theorem Wk {xs:FuncId->Option (List PV->Option Bb)} (fu d a0n:Nat)(a0:List PV):Af (CX xs) prog fu (d+1) N2 [.lst false 1 a0n a0]=(fun (call:Aj)=>F6 fu call a0n a0 (fu) 0 (a0n) (a0) ((↑a0n:Int)) 0) (Af (CX xs) prog fu d):=by kernel_rfl
abbrev H0:FuncId:=61
noncomputable def Dr (fu:Nat)(call:Aj)(D1 Ds:Int)(E2 Gf a1:Int)(nn:Nat)(y0 y1:Int)(y2 y3:Int)(y4 y5:Int):Option Bb:=Cw CB prog fu call 61 Try.f61 (Bz Try.f61) [.pbox [.sc (.int .u64 D1),.sc (.int .u64 Ds),.sc (.int .u64 E2),.sc (.int .u64 Gf)],.sc (.int .i64 a1)] [.r,.l] nn ⟨lk [(0,(.ptr 288000 0)),(4,(.sc (.int .i64 y0))),(5,(.sc (.int .i64 y1)))],Fw [(288000,(.st [(.sc (.int .u64 y2)),(.sc (.int .u64 y3)),(.sc (.int .u64 y4)),(.sc (.int .u64 y5))]))]⟩
theorem Gg (fu:Nat)(call:Aj)(D1 Ds:Int)(E2 Gf a1:Int)(nn:Nat)(y0 y1:Int)(y2 y3:Int)(y4 y5:Int):Dr fu call D1 Ds E2 Gf a1 (nn+1) y0 y1 y2 y3 y4 y5=(Cg (decide (y1<y0)) (Aa (wrap .u64 (y2+y3)) fun x1=>Ap (call 75 [.sc (.int .u64 y3),.sc (.int .i64 13)]) fun x2 x3=>Ae x3<|Ab x2 fun x4 x5=>Ai .u64 x4 fun x6=>Ae x5<|Aa (C6 .u64 x6 x1) fun x7=>Ap (call 75 [.sc (.int .u64 x1),.sc (.int .i64 32)]) fun x8 x9=>Ae x9<|Ab x8 fun L3 Oa=>Ai .u64 L3 fun K3=>Ae Oa<|Aa (wrap .u64 (y4+y5)) fun Rs=>Ap (call 75 [.sc (.int .u64 y5),.sc (.int .i64 16)]) fun Nw O8=>Ae O8<|Ab Nw fun Ud T9=>Ai .u64 Ud fun Pt=>Ae T9<|Aa (C6 .u64 Pt Rs) fun Lg=>Aa (wrap .u64 (K3+Lg)) fun Q4=>Ap (call 75 [.sc (.int .u64 Lg),.sc (.int .i64 21)]) fun Q8 Wy=>Ae Wy<|Ab Q8 fun V2 Rb=>Ai .u64 V2 fun GT=>Ae Rb<|Aa (C6 .u64 GT Q4) fun GZ=>Aa (wrap .u64 (Rs+x7)) fun Wi=>Ap (call 75 [.sc (.int .u64 x7),.sc (.int .i64 17)]) fun OC KD=>Ae KD<|Ab OC fun Ri Ut=>Ai .u64 Ri fun HH=>Ae Ut<|Aa (C6 .u64 HH Wi) fun CJ=>Ap (call 75 [.sc (.int .u64 Wi),.sc (.int .i64 32)]) fun Xy JT=>Ae JT<|Ab Xy fun EU Xe=>Ai .u64 EU fun HO=>Ae Xe<|Aa (wrap .i64 (y1+1)) fun NQ=>Dr fu call D1 Ds E2 Gf a1 (nn) (y0) NQ Q4 CJ HO GZ) (some (Bb.mk [] [[.sc (.int .u64 y2),.sc (.int .u64 y3),.sc (.int .u64 y4),.sc (.int .u64 y5)]]))):=by kernel_rfl
theorem Ob {xs:FuncId->Option (List PV->Option Bb)} (fu d:Nat)(D1 Ds:Int)(E2 Gf a1:Int):Af (CX xs) prog fu (d+1) H0 [.pbox [.sc (.int .u64 D1),.sc (.int .u64 Ds),.sc (.int .u64 E2),.sc (.int .u64 Gf)],.sc (.int .i64 a1)]=(fun (call:Aj)=>Dr fu call D1 Ds E2 Gf a1 (fu) (a1) 0 (D1) (Ds) (E2) (Gf)) (Af (CX xs) prog fu d):=by kernel_rfl
abbrev Hs:FuncId:=59
theorem N7 {xs:FuncId->Option (List PV->Option Bb)} (fu d:Nat)(D1 Ds:Int)(E2 Gf a1:Int):Af (CX xs) prog fu (d+1) Hs [.pbox [.sc (.int .u64 D1),.sc (.int .u64 Ds),.sc (.int .u64 E2),.sc (.int .u64 Gf)],.sc (.int .u64 a1)]=(fun (call:Aj)=>Aa (C6 .u64 Gf a1) fun x1=>Ap (call 61 [.pbox [.sc (.int .u64 D1),.sc (.int .u64 Ds),.sc (.int .u64 E2),.sc (.int .u64 x1)],.sc (.int .i64 2)]) fun x2 x3=>Ae x2<|Ab x3 fun x4 x5=>Ab x4 fun x6 x7=>Ai .u64 x6 fun x8=>Ab x7 fun x9 L3=>Ai .u64 x9 fun Oa=>Ab L3 fun K3 Rs=>Ai .u64 K3 fun Nw=>Ab Rs fun O8 Ud=>Ai .u64 O8 fun T9=>Ae Ud<|Ae x5<|Aa (C6 .u64 x8 a1) fun Pt=>some (Bb.mk [] [[.sc (.int .u64 Pt),.sc (.int .u64 Oa),.sc (.int .u64 Nw),.sc (.int .u64 T9)]])) (Af (CX xs) prog fu d):=by kernel_rfl
abbrev Tn:FuncId:=49
noncomputable def Ge (fu:Nat)(call:Aj)(a0 a1:Int)(Ot:Nat)(a2:List PV)(nn y0:Nat)(y1:List PV)(y2 y3:Int)(y4 y5:Int)(y6 y7 y8:Int):Option Bb:=Cw CB prog fu call 49 Try.f49 (Bz Try.f49) [.sc (.int .u64 a0),.sc (.int .u64 a1),.lst false 1 Ot a2] [.r,.r,.r,.l,.r,.l] nn ⟨lk [(2,(.lst false 1 y0 y1)),(7,(.ptr 7 0)),(8,(.sc (.int .i64 y2))),(22,(.sc (.int .i64 y3))),(23,(.sc (.int .i64 y4)))],Fw [(7,(.st [(.sc (.int .u64 y5)),(.sc (.int .u64 y6)),(.sc (.int .u64 y7)),(.sc (.int .u64 y8))]))]⟩
theorem N0 (fu:Nat)(call:Aj)(a0 a1:Int)(Ot:Nat)(a2:List PV)(nn y0:Nat)(y1:List PV)(y2 y3:Int)(y4 y5:Int)(y6 y7 y8:Int):Ge fu call a0 a1 Ot a2 (nn+1) y0 y1 y2 y3 y4 y5 y6 y7 y8=(Cg (decide (y4<y3)) (Aa (wrap .i64 (8*y4)) fun x6=>Aa (wrap .i64 (8*y4)) fun x7=>Aa (wrap .i64 (x7+8)) fun x8=>Au (decide (0<=x6))<|Au (decide (0<=x8))<|Au (decide (Int.toNat x6<=Int.toNat x8)&&decide (Int.toNat x8<=y0))<|Aa (Int.toNat x8-Int.toNat x6) fun x9=>Aa (List.take (x9*1) (List.drop (Int.toNat x6*1) y1)) fun L3=>Ap (call 60 [.lst false 1 x9 L3]) fun Oa K3=>Ae K3<|Ab Oa fun Rs Nw=>Ai .u64 Rs fun O8=>Ae Nw<|Ap (call 59 [.pbox [.sc (.int .u64 y5),.sc (.int .u64 y6),.sc (.int .u64 y7),.sc (.int .u64 y8)],.sc (.int .u64 O8)]) fun Ud T9=>Ae Ud<|Ab T9 fun Pt Lg=>Ab Pt fun Q4 Q8=>Ai .u64 Q4 fun Wy=>Ab Q8 fun V2 Rb=>Ai .u64 V2 fun GT=>Ab Rb fun GZ Wi=>Ai .u64 GZ fun OC=>Ab Wi fun KD Ri=>Ai .u64 KD fun Ut=>Ae Ri<|Ae Lg<|Aa (wrap .i64 (y4+1)) fun HH=>Ge fu call a0 a1 Ot a2 (nn) (y0) (y1) (y2) (y3) HH Wy GT OC Ut) (Aa (wrap .i64 (8*y2)) fun CJ=>Au (decide (0<=CJ))<|Au (decide (Int.toNat CJ<=y0)&&decide (y0<=y0))<|Aa (y0-Int.toNat CJ) fun Xy=>Aa (List.take (Xy*1) (List.drop (Int.toNat CJ*1) y1)) fun JT=>Ap (call 60 [.lst false 1 Xy JT]) fun EU Xe=>Ae Xe<|Ab EU fun HO NQ=>Ai .u64 HO fun GQ=>Ae NQ<|Aa (wrap .u64 (↑y0:Int)) fun VN=>Aa (Ho .u64 VN 56) fun TF=>Aa (Xj .u64 GQ TF) fun VX=>Ap (call 59 [.pbox [.sc (.int .u64 y5),.sc (.int .u64 y6),.sc (.int .u64 y7),.sc (.int .u64 y8)],.sc (.int .u64 VX)]) fun ON RO=>Ae ON<|Ab RO fun TE RD=>Ab TE fun UQ UW=>Ai .u64 UQ fun DS=>Ab UW fun PE VI=>Ai .u64 PE fun QR=>Ab VI fun DM OW=>Ai .u64 DM fun SU=>Ab OW fun SY MT=>Ai .u64 SY fun RE=>Ae MT<|Ae RD<|Aa (C6 .u64 SU 255) fun UF=>Ap (call 61 [.pbox [.sc (.int .u64 DS),.sc (.int .u64 QR),.sc (.int .u64 UF),.sc (.int .u64 RE)],.sc (.int .i64 4)]) fun KS LC=>Ae KS<|Ab LC fun x63 x64=>Ab x63 fun VM YB=>Ai .u64 VM fun x67=>Ab YB fun SS x69=>Ai .u64 SS fun ZP=>Ab x69 fun XS x72=>Ai .u64 XS fun x73=>Ab x72 fun PN VA=>Ai .u64 PN fun x76=>Ae VA<|Ae x64<|Aa (C6 .u64 x67 ZP) fun x77=>Aa (C6 .u64 x77 x73) fun x78=>Aa (C6 .u64 x78 x76) fun x79=>some (Bb.mk [.sc (.int .u64 x79)] []))):=by kernel_rfl
theorem FP {xs:FuncId->Option (List PV->Option Bb)} (fu d:Nat)(a0 a1:Int)(Ot:Nat)(a2:List PV):Af (CX xs) prog fu (d+1) Tn [.sc (.int .u64 a0),.sc (.int .u64 a1),.lst false 1 Ot a2]=(fun (call:Aj)=>Aa (C6 .u64 a0 8317987319222330741) fun x1=>Aa (C6 .u64 a1 7237128888997146477) fun x2=>Aa (C6 .u64 a0 7816392313619706465) fun x3=>Aa (C6 .u64 a1 8387220255154660723) fun x4=>Aa (wrap .i64 (Int.tdiv (↑Ot:Int) 8)) fun x5=>Ge fu call a0 a1 Ot a2 (fu) (Ot) (a2) x5 x5 0 x1 x2 x3 x4) (Af (CX xs) prog fu d):=by kernel_rfl
abbrev S7:FuncId:=33
theorem DZ {xs:FuncId->Option (List PV->Option Bb)} (fu d:Nat)(a0 a1:Int)(Ot:Nat)(a2:List PV):Af (CX xs) prog fu (d+1) S7 [.sc (.int .u64 a0),.sc (.int .i64 a1),.lst false 1 Ot a2]=(fun (call:Aj)=>Aa (wrap .u64 a1) fun x1=>Aa (wrap .u64 (1+x1)) fun x2=>Ap (call 49 [.sc (.int .u64 a0),.sc (.int .u64 x2),.lst false 1 Ot a2]) fun x3 x4=>Ae x4<|Ab x3 fun x5 x6=>Ai .u64 x5 fun x7=>Ae x6<|some (Bb.mk [.sc (.int .u64 x7)] [])) (Af (CX xs) prog fu d):=by kernel_rfl
abbrev Kr:FuncId:=81
theorem Rn {xs:FuncId->Option (List PV->Option Bb)} (fu d:Nat)(a0 a1:Int):Af (CX xs) prog fu (d+1) Kr [.sc (.int .u64 a0),.sc (.int .u64 a1)]=(fun (call:Aj)=>Au (decide (0<=a1))<|Aa (Ho .u64 a0 a1) fun x1=>Aa (wrap .u64 (64-a1)) fun x2=>Au (decide (0<=x2))<|Aa (AU .u64 a0 x2) fun x3=>Aa (Xj .u64 x1 x3) fun x4=>some (Bb.mk [.sc (.int .u64 x4)] [])) (Af (CX xs) prog fu d):=by kernel_rfl
abbrev Jn:FuncId:=73
theorem Qa {xs:FuncId->Option (List PV->Option Bb)} (fu d:Nat)(D1 Ds:Int)(E2 Gf:Int):Af (CX xs) prog fu (d+1) Jn [.agg [.sc (.int .u64 D1),.sc (.int .u64 Ds),.sc (.int .u64 E2),.sc (.int .u64 Gf)]]=(fun (call:Aj)=>Aa (wrap .u64 (D1+Ds)) fun x1=>Ap (call 81 [.sc (.int .u64 Ds),.sc (.int .u64 13)]) fun x2 x3=>Ae x3<|Ab x2 fun x4 x5=>Ai .u64 x4 fun x6=>Ae x5<|Aa (C6 .u64 x6 x1) fun x7=>Ap (call 81 [.sc (.int .u64 x1),.sc (.int .u64 32)]) fun x8 x9=>Ae x9<|Ab x8 fun L3 Oa=>Ai .u64 L3 fun K3=>Ae Oa<|Aa (wrap .u64 (E2+Gf)) fun Rs=>Ap (call 81 [.sc (.int .u64 Gf),.sc (.int .u64 16)]) fun Nw O8=>Ae O8<|Ab Nw fun Ud T9=>Ai .u64 Ud fun Pt=>Ae T9<|Aa (C6 .u64 Pt Rs) fun Lg=>Aa (wrap .u64 (K3+Lg)) fun Q4=>Ap (call 81 [.sc (.int .u64 Lg),.sc (.int .u64 21)]) fun Q8 Wy=>Ae Wy<|Ab Q8 fun V2 Rb=>Ai .u64 V2 fun GT=>Ae Rb<|Aa (C6 .u64 GT Q4) fun GZ=>Aa (wrap .u64 (Rs+x7)) fun Wi=>Ap (call 81 [.sc (.int .u64 x7),.sc (.int .u64 17)]) fun OC KD=>Ae KD<|Ab OC fun Ri Ut=>Ai .u64 Ri fun HH=>Ae Ut<|Aa (C6 .u64 HH Wi) fun CJ=>Ap (call 81 [.sc (.int .u64 Wi),.sc (.int .u64 32)]) fun Xy JT=>Ae JT<|Ab Xy fun EU Xe=>Ai .u64 EU fun HO=>Ae Xe<|some (Bb.mk [.agg [.sc (.int .u64 Q4),.sc (.int .u64 CJ),.sc (.int .u64 HO),.sc (.int .u64 GZ)]] [])) (Af (CX xs) prog fu d):=by kernel_rfl
abbrev Li:FuncId:=56
noncomputable def Dz (fu:Nat)(call:Aj)(a0 a1:Int)(Ot:Nat)(a2:List PV)(nn y0:Nat)(y1:List PV)(y2:Int)(y3:List PV):Option Bb:=Cw CB prog fu call 56 Try.f56 (Bz Try.f56) [.sc (.int .u64 a0),.sc (.int .u64 a1),.lst false 1 Ot a2] [.r,.r,.l,.r,.l] nn ⟨lk [(2,(.lst false 1 y0 y1)),(7,(.ptr 7 0)),(8,(.sc (.int .i64 y2)))],Fw [(7,(.ar false y3))]⟩
noncomputable def Db (fu:Nat)(call:Aj)(a0 a1:Int)(Ot:Nat)(a2:List PV)(m0 nn y0:Nat)(y1:List PV)(y2 y3 y4:Int)(y5:List PV):Option Bb:=Cw CB prog fu call 56 Try.f56 (Bz Try.f56) [.sc (.int .u64 a0),.sc (.int .u64 a1),.lst false 1 Ot a2] [.r,.r,.l,.r,.l,.i m0,.r,.l,.l,.r,.l,.r,.l] nn ⟨lk [(2,(.lst false 1 y0 y1)),(7,(.ptr 7 0)),(8,(.sc (.int .i64 y2))),(9,(.sc (.int .u64 y3))),(10,(.sc (.int .i64 y4)))],Fw [(7,(.ar false y5))]⟩
theorem I2 (fu:Nat)(call:Aj)(a0 a1:Int)(Ot:Nat)(a2:List PV)(nn y0:Nat)(y1:List PV)(y2:Int)(y3:List PV):Dz fu call a0 a1 Ot a2 (nn+1) y0 y1 y2 y3=(Cg (decide (y2<=(↑y0:Int))) (Db fu call a0 a1 Ot a2 nn (fu) (y0) (y1) (y2) 0 7 (y3)) (Ai .u64 (List.getD y3 2 .top) fun x5=>Aa (C6 .u64 x5 255) fun x6=>Au (decide (3<=y3.length))<|Aa (Bd y3 [.sc (.int .u64 x6)] 2) fun x7=>Ai .u64 (List.getD x7 0 .top) fun x8=>Ai .u64 (List.getD x7 1 .top) fun x9=>Ai .u64 (List.getD x7 2 .top) fun L3=>Ai .u64 (List.getD x7 3 .top) fun Oa=>Ap (call 73 [.agg [.sc (.int .u64 x8),.sc (.int .u64 x9),.sc (.int .u64 L3),.sc (.int .u64 Oa)]]) fun K3 Rs=>Ae Rs<|Ab K3 fun Nw O8=>Fo Nw fun Ud=>Ab Ud fun T9 Pt=>Ai .u64 T9 fun Lg=>Ab Pt fun Q4 Q8=>Ai .u64 Q4 fun Wy=>Ab Q8 fun V2 Rb=>Ai .u64 V2 fun GT=>Ab Rb fun GZ Wi=>Ai .u64 GZ fun OC=>Ae Wi<|Ae O8<|Ap (call 73 [.agg [.sc (.int .u64 Lg),.sc (.int .u64 Wy),.sc (.int .u64 GT),.sc (.int .u64 OC)]]) fun KD Ri=>Ae Ri<|Ab KD fun Ut HH=>Fo Ut fun CJ=>Ab CJ fun Xy JT=>Ai .u64 Xy fun EU=>Ab JT fun Xe HO=>Ai .u64 Xe fun NQ=>Ab HO fun GQ VN=>Ai .u64 GQ fun TF=>Ab VN fun VX ON=>Ai .u64 VX fun RO=>Ae ON<|Ae HH<|Ap (call 73 [.agg [.sc (.int .u64 EU),.sc (.int .u64 NQ),.sc (.int .u64 TF),.sc (.int .u64 RO)]]) fun TE RD=>Ae RD<|Ab TE fun UQ UW=>Fo UQ fun DS=>Ab DS fun PE VI=>Ai .u64 PE fun QR=>Ab VI fun DM OW=>Ai .u64 DM fun SU=>Ab OW fun SY MT=>Ai .u64 SY fun RE=>Ab MT fun UF KS=>Ai .u64 UF fun LC=>Ae KS<|Ae UW<|Ap (call 73 [.agg [.sc (.int .u64 QR),.sc (.int .u64 SU),.sc (.int .u64 RE),.sc (.int .u64 LC)]]) fun x63 x64=>Ae x64<|Ab x63 fun VM YB=>Fo VM fun x67=>Ab x67 fun SS x69=>Ai .u64 SS fun ZP=>Ab x69 fun XS x72=>Ai .u64 XS fun x73=>Ab x72 fun PN VA=>Ai .u64 PN fun x76=>Ab VA fun x77 x78=>Ai .u64 x77 fun x79=>Ae x78<|Ae YB<|Au (decide (4<=x7.length))<|Aa (Bd x7 [.sc (.int .u64 ZP),.sc (.int .u64 x73),.sc (.int .u64 x76),.sc (.int .u64 x79)] 0) fun x80=>Ai .u64 (List.getD x80 0 .top) fun x81=>Ai .u64 (List.getD x80 1 .top) fun x82=>Aa (C6 .u64 x81 x82) fun x83=>Ai .u64 (List.getD x80 2 .top) fun x84=>Aa (C6 .u64 x83 x84) fun x85=>Ai .u64 (List.getD x80 3 .top) fun x86=>Aa (C6 .u64 x85 x86) fun x87=>some (Bb.mk [.sc (.int .u64 x87)] []))):=by kernel_rfl
theorem In (fu:Nat)(call:Aj)(a0 a1:Int)(Ot:Nat)(a2:List PV)(m0 nn y0:Nat)(y1:List PV)(y2 y3 y4:Int)(y5:List PV):Db fu call a0 a1 Ot a2 m0 (nn+1) y0 y1 y2 y3 y4 y5=(Cg (decide (y4>=0)) (Aa (wrap .i64 (y2+y4)) fun x88=>Cg (decide (x88<(↑y0:Int))) (Aa (wrap .i64 (y2+y4)) fun x89=>Au (decide (0<=x89)&&decide (x89<(↑y0:Int)))<|Ai .u8 (List.getD y1 (Int.toNat x89*1) .top) fun x90=>Aa (Ho .u64 y3 8) fun x91=>Aa (wrap .u64 x90) fun x92=>Aa (Xj .u64 x91 x92) fun x93=>Aa (wrap .i64 (y4-1)) fun x94=>Db fu call a0 a1 Ot a2 m0 (nn) (y0) (y1) (y2) x93 x94 (y5)) (Cg (y4==7) (Aa (wrap .u8 (↑y0:Int)) fun x95=>Aa (Ho .u64 y3 8) fun x96=>Aa (wrap .u64 x95) fun x97=>Aa (Xj .u64 x96 x97) fun x98=>Aa (wrap .i64 (y4-1)) fun x99=>Db fu call a0 a1 Ot a2 m0 (nn) (y0) (y1) (y2) x98 x99 (y5)) (Aa (Ho .u64 y3 8) fun Abu=>Aa (Xj .u64 Abu 0) fun Aa9=>Aa (wrap .i64 (y4-1)) fun WW=>Db fu call a0 a1 Ot a2 m0 (nn) (y0) (y1) (y2) Aa9 WW (y5)))) (Ai .u64 (List.getD y5 3 .top) fun YK=>Aa (C6 .u64 YK y3) fun ZY=>Au (decide (4<=y5.length))<|Aa (Bd y5 [.sc (.int .u64 ZY)] 3) fun BA=>Ai .u64 (List.getD BA 0 .top) fun Aa6=>Ai .u64 (List.getD BA 1 .top) fun Aeh=>Ai .u64 (List.getD BA 2 .top) fun SF=>Ai .u64 (List.getD BA 3 .top) fun UI=>Ap (call 73 [.agg [.sc (.int .u64 Aa6),.sc (.int .u64 Aeh),.sc (.int .u64 SF),.sc (.int .u64 UI)]]) fun WR Abj=>Ae Abj<|Ab WR fun RT Abd=>Fo RT fun WC=>Ab WC fun WH Aae=>Ai .u64 WH fun ZT=>Ab Aae fun Ac2 Abw=>Ai .u64 Ac2 fun ZI=>Ab Abw fun ZM Afo=>Ai .u64 ZM fun YX=>Ab Afo fun XQ WJ=>Ai .u64 XQ fun XN=>Ae WJ<|Ae Abd<|Ap (call 73 [.agg [.sc (.int .u64 ZT),.sc (.int .u64 ZI),.sc (.int .u64 YX),.sc (.int .u64 XN)]]) fun SV YY=>Ae YY<|Ab SV fun XJ XR=>Fo XJ fun YO=>Ab YO fun Abl XL=>Ai .u64 Abl fun Aby=>Ab XL fun Aaa Abv=>Ai .u64 Aaa fun ZX=>Ab Abv fun Abk Adn=>Ai .u64 Abk fun Ae7=>Ab Adn fun XG Abs=>Ai .u64 XG fun WS=>Ae Abs<|Ae XR<|Au (decide (4<=BA.length))<|Aa (Bd BA [.sc (.int .u64 Aby),.sc (.int .u64 ZX),.sc (.int .u64 Ae7),.sc (.int .u64 WS)] 0) fun OB=>Ai .u64 (List.getD OB 0 .top) fun WQ=>Aa (C6 .u64 WQ y3) fun XB=>Au (decide (1<=OB.length))<|Aa (Bd OB [.sc (.int .u64 XB)] 0) fun Aai=>Aa (wrap .i64 (y2+8)) fun ZW=>Dz fu call a0 a1 Ot a2 (m0) (y0) (y1) ZW Aai)):=by kernel_rfl
theorem To {xs:FuncId->Option (List PV->Option Bb)} (fu d:Nat)(a0 a1:Int)(Ot:Nat)(a2:List PV):Af (CX xs) prog fu (d+1) Li [.sc (.int .u64 a0),.sc (.int .u64 a1),.lst false 1 Ot a2]=(fun (call:Aj)=>Aa (C6 .u64 a0 8317987319222330741) fun x1=>Aa (C6 .u64 a1 7237128888997146477) fun x2=>Aa (C6 .u64 a0 7816392313619706465) fun x3=>Aa (C6 .u64 a1 8387220255154660723) fun x4=>Dz fu call a0 a1 Ot a2 (fu) (Ot) (a2) 0 ([.sc (.int .u64 x1),.sc (.int .u64 x2),.sc (.int .u64 x3),.sc (.int .u64 x4)])) (Af (CX xs) prog fu d):=by kernel_rfl
abbrev Lc:FuncId:=45
theorem Sr {xs:FuncId->Option (List PV->Option Bb)} (fu d:Nat)(a0 a1:Int)(Ot:Nat)(a2:List PV):Af (CX xs) prog fu (d+1) Lc [.sc (.int .u64 a0),.sc (.int .i64 a1),.lst false 1 Ot a2]=(fun (call:Aj)=>Aa (wrap .u64 a1) fun x1=>Aa (wrap .u64 (1+x1)) fun x2=>Ap (call 56 [.sc (.int .u64 a0),.sc (.int .u64 x2),.lst false 1 Ot a2]) fun x3 x4=>Ae x4<|Ab x3 fun x5 x6=>Ai .u64 x5 fun x7=>Ae x6<|some (Bb.mk [.sc (.int .u64 x7)] [])) (Af (CX xs) prog fu d):=by kernel_rfl
abbrev Eo:FuncId:=47
noncomputable def Dj (fu:Nat)(call:Aj)(a0n:Nat)(a0:List PV)(nn y0:Nat)(y1:List PV)(y2:Nat)(y3:Int)(y4:List PV):Option Bb:=Cw CB prog fu call 47 Try.f47 (Bz Try.f47) [.lst false 1 a0n a0] [.r,.r,.l,.r,.l] nn ⟨lk [(0,(.lst false 1 y0 y1)),(3,(.view 3 1 0 y2)),(4,(.sc (.int .i64 y3)))],Fw [(3,(.ar false y4))]⟩
noncomputable def Eb (fu:Nat)(call:Aj)(a0n:Nat)(a0:List PV)(m0 nn y0:Nat)(y1:List PV)(y2:Nat)(y3 y4:Int)(y5:List PV):Option Bb:=Cw CB prog fu call 47 Try.f47 (Bz Try.f47) [.lst false 1 a0n a0] [.r,.r,.l,.r,.l,.i m0,.r,.l,.l,.r,.l] nn ⟨lk [(0,(.lst false 1 y0 y1)),(3,(.view 3 1 0 y2)),(4,(.sc (.int .i64 y3))),(5,(.sc (.int .i64 y4)))],Fw [(3,(.ar false y5))]⟩
theorem Hb (fu:Nat)(call:Aj)(a0n:Nat)(a0:List PV)(nn y0:Nat)(y1:List PV)(y2:Nat)(y3:Int)(y4:List PV):Dj fu call a0n a0 (nn+1) y0 y1 y2 y3 y4=(Cg (decide (y3<(↑y0:Int))) (Eb fu call a0n a0 nn (fu) (y0) (y1) (y2) (y3) 7 (y4)) (Au (decide (y2*1<=y4.length))<|some (Bb.mk [.own 1 y2 (List.take (y2*1) y4)] []))):=by kernel_rfl
theorem G9 (fu:Nat)(call:Aj)(a0n:Nat)(a0:List PV)(m0 nn y0:Nat)(y1:List PV)(y2:Nat)(y3 y4:Int)(y5:List PV):Eb fu call a0n a0 m0 (nn+1) y0 y1 y2 y3 y4 y5=(Cg (decide (y4>=0)) (Au (decide (0<=y3)&&decide (y3<(↑y0:Int)))<|Ai .u64 (List.getD y1 (Int.toNat y3*1) .top) fun x1=>Aa (wrap .i64 (8*y4)) fun x2=>Aa (wrap .u64 x2) fun x3=>Au (decide (0<=x3))<|Aa (AU .u64 x1 x3) fun x4=>Aa (wrap .u8 x4) fun x5=>Au (decide (y2*1<=y5.length)&&true&&decide ((y2+1)*1<=1099511627776)&&decide (y2+1<=1099511627776))<|Aa (y2+1) fun x6=>Aa (List.take (y2*1) y5++[.sc (.int .u8 x5)]) fun x7=>Aa (wrap .i64 (y4-1)) fun x8=>Eb fu call a0n a0 m0 (nn) (y0) (y1) x6 (y3) x8 x7) (Aa (wrap .i64 (y3+1)) fun x9=>Dj fu call a0n a0 (m0) (y0) (y1) (y2) x9 (y5))):=by kernel_rfl
theorem Qh {xs:FuncId->Option (List PV->Option Bb)} (fu d a0n:Nat)(a0:List PV):Af (CX xs) prog fu (d+1) Eo [.lst false 1 a0n a0]=(fun (call:Aj)=>Dj fu call a0n a0 (fu) (a0n) (a0) 0 0 ([])) (Af (CX xs) prog fu d):=by kernel_rfl
end
section
open Go.IntKind (wrap)
def rot (x k:Int):Int:=Xj .u64 (Ho .u64 x k) (AU .u64 x (64-k))
structure W4 where
 a:Int
 b:Int
 c:Int
 d:Int
def W4.cells (v:W4):List PV:=[.sc (.int .u64 v.a),.sc (.int .u64 v.b),.sc (.int .u64 v.c),.sc (.int .u64 v.d)]
def Aro (v:W4):W4:=⟨rot (wrap .u64 (v.a+v.b)) 32,C6 .u64 (rot v.b 13) (wrap .u64 (v.a+v.b)),wrap .u64 (v.c+v.d),C6 .u64 (rot v.d 16) (wrap .u64 (v.c+v.d))⟩
def Ar4 (v:W4):W4:=⟨wrap .u64 (v.a+v.d),C6 .u64 (rot v.b 17) (wrap .u64 (v.c+v.b)),rot (wrap .u64 (v.c+v.b)) 32,C6 .u64 (rot v.d 21) (wrap .u64 (v.a+v.d))⟩
def AB (v:W4):W4:=Ar4 (Aro v)
def NS:Nat->W4->W4
 |0,v=>v
 |n+1,v=>NS n (AB v)
def Anx (r:W4)(m:Int):W4:=⟨C6 .u64 r.a m,r.b,r.c,r.d⟩
def Mv (v:W4)(m:Int):W4:=Anx (NS 2 ⟨v.a,v.b,v.c,C6 .u64 v.d m⟩) m
def Ml:List Int->Int
 |[]=>0
 |b::r=>b+256*Ml r
def AF:Nat->W4->List Int->W4
 |0,v,_=>v
 |n+1,v,l=>AF n (Mv v (Ml (l.take 8))) (l.drop 8)
def Ai9 (k0 k1:Int):W4:=⟨C6 .u64 k0 8317987319222330741,C6 .u64 k1 7237128888997146477,C6 .u64 k0 7816392313619706465,C6 .u64 k1 8387220255154660723⟩
def SB (v:W4):W4:=NS 4 ⟨v.a,v.b,C6 .u64 v.c 255,v.d⟩
def TP (v:W4):Int:=C6 .u64 (C6 .u64 (C6 .u64 v.a v.b) v.c) v.d
def Ji (l:List Int):Int:=Ml (l.drop (8*(l.length / 8)))+72057594037927936*((l.length:Int) % 256)
def Air (k0 k1:Int)(l:List Int):Int:=TP (SB (Mv (AF (l.length / 8) (Ai9 k0 k1) l) (Ji l)))
def AE (key dom:Int)(l:List Int):Int:=Air key (wrap .u64 (1+wrap .u64 dom)) l
def R1 (l:List Int):Prop:=∀b∈l,0<=b∧b<=255
theorem M8:∀{l:List Int},R1 l->0<=Ml l∧Ml l<256 ^ l.length
 |[],_=>by simp[Ml]
 |b::r,h=>by
  have h1:=h b (by simp)
  have h2:=M8 (l:=r) fun x hx=>h x (by simp[hx])
  have h3:(256:Int) ^ (b::r).length=256 ^ r.length*256:=by rw[MI,Int.pow_succ]
  simp only[Ml];omega
theorem Rp:∀(l r:List Int),Ml (l++r)=Ml l+256 ^ l.length*Ml r
 |[],r=>by simp[Ml]
 |b::l,r=>by
  have ih:=Rp l r;simp only[List.cons_append,Ml,MI,Int.pow_succ];rw[ih,Int.mul_add];have:(256:Int)*(256 ^ l.length*Ml r)=256 ^ l.length*256*Ml r:=by rw[←Int.mul_assoc,Int.mul_comm 256]
  omega
theorem DV {a c:Int}(k b:Nat)(h0:0<=a)(h1:a<((2 ^ k:Nat):Int)) (hc:c=((b*2 ^ k:Nat):Int)) (h:a+c<=18446744073709551615):Xj .u64 a c=a+c∧Xj .u64 c a=a+c:=by
 obtain⟨n,rfl⟩:=Int.eq_ofNat_of_zero_le h0;subst hc;have hn:n<2 ^ k:=by omega
 generalize hB:b*2 ^ k=m at h
 have e4:(BitVec.ofInt 64 (n:Int)).toNat=n:=by
  rw[BitVec.toNat_ofInt];omega
 have e5:(BitVec.ofInt 64 (m:Int)).toNat=m:=by
  rw[BitVec.toNat_ofInt];omega
 have e6:m ||| n=m+n:=by
  have:=Nat.shiftLeft_add_eq_or_of_lt hn b;rw[Nat.shiftLeft_eq,hB] at this;exact this.symm
 constructor
 ·show wrap .u64 ((BitVec.ofInt 64 (n:Int) ||| BitVec.ofInt 64 (m:Int)).toNat:Int)=_;rw[BitVec.toNat_or,e4,e5,Nat.or_comm,e6,Dq (by omega) (by omega)]
  omega
 ·show wrap .u64 ((BitVec.ofInt 64 (m:Int) ||| BitVec.ofInt 64 (n:Int)).toNat:Int)=_;rw[BitVec.toNat_or,e4,e5,e6,Dq (by omega) (by omega)]
  omega
theorem PX {a k:Int}(h0:0<=a)(hk:0<=k)(Hj:k<=64)(h:a*((2 ^ k.toNat:Nat):Int)<=18446744073709551615):Ho .u64 a k=a*((2 ^ k.toNat:Nat):Int):=by
 show wrap .u64 (a*2 ^ (min k.toNat IntKind.u64.bits))=_;have e:min k.toNat IntKind.u64.bits=k.toNat:=Nat.min_eq_left (by show k.toNat<=64;omega)
 have e2:(2:Int) ^ k.toNat=((2 ^ k.toNat:Nat):Int):=by simp
 rw[e,e2,Dq (Int.mul_nonneg h0 (Int.natCast_nonneg _)) h]
end
end Go.Proofs.Ytcgfahlefkfghaa.Pv
