/-
  The proof of RegistrationBinds, part 3.
-/
import Derived.Test.YtamoegpkglhedaaGreatDoorBB
import Derived.StillTail
import Derived.WalkKit
import Derived.ProofKit
import Derived.OpenShut
import Derived.ShutString
import Derived.ChangeOld
import Derived.Below
import Derived.Deep.Slices
import Derived.ChangeSame
import Derived.WideKeyArgs
import Derived.Carry
import Derived.Test.YtamoegpkglhedaaGreatDoorRows
set_option linter.unusedSimpArgs false
set_option linter.unusedVariables false
namespace Go.Proofs.YtamoegpkglhedaaGreatDoor.Pv
open Go.IntKind (wrap)
open Go.Proofs.Tryz (prog)
set_option maxRecDepth 1000000
noncomputable section
section
section
variable {R R':Type}{Rel:Option R->Option R'->Prop}
theorem Kh(hn:Rel none none){k:IntKind}{p:PV}{K:Int->Option R}{K':Int->Option R'}(hK:∀n,Rel (K n) (K' n)):Rel (Ba k p K) (Ba k p K'):=by
 unfold Ba;split
 ·split<;>first|exact hK _|exact hn
 ·exact hn
theorem E6(hn:Rel none none){p:PV}{K:IntKind->Int->Option R}{K':IntKind->Int->Option R'}(hK:∀k n,Rel (K k n) (K' k n)):Rel (Ei p K) (Ei p K'):=by unfold Ei;split<;>first|exact hK _ _|exact hn
theorem Ig(hn:Rel none none){p:PV}{K:Bool->Option R}{K':Bool->Option R'}(hK:∀n,Rel (K n) (K' n)):Rel (Bm p K) (Bm p K'):=by unfold Bm;split<;>first|exact hK _|exact hn
theorem Gn(hn:Rel none none){p:PV}{K:ByteArray->Option R}{K':ByteArray->Option R'}(hK:∀n,Rel (K n) (K' n)):Rel (Bu p K) (Bu p K'):=by unfold Bu;split<;>first|exact hK _|exact hn
theorem Gu(hn:Rel none none){es:Nat}{p:PV}{K:Bool->Nat->Ae->Option R}{K':Bool->Nat->Ae->Option R'}(hK:∀z n c,Rel (K z n c) (K' z n c)):Rel (Vn es p K) (Vn es p K'):=by
 unfold Vn;split
 ·rename_i es' _ _;cases Nat.beq es' es
  ·exact hn
  ·exact hK _ _ _
 ·exact hK _ _ _
 ·exact hn
theorem Avz(hn:Rel none none){es:Nat}{p:PV}{K:PV->Option R}{K':PV->Option R'}(hK:∀p,Rel (K p) (K' p)):Rel (fsK es p K) (fsK es p K'):=by
 unfold fsK;split
 ·rename_i es' _ _;cases Nat.beq es' es
  ·exact hn
  ·exact hK _
 ·exact Gu hn fun _ _ _=>hK _
theorem Aj5(hn:Rel none none){es:Nat}{p:PV}{K:Nat->Ae->Option R}{K':Nat->Ae->Option R'}(hK:∀n c,Rel (K n c) (K' n c)):Rel (Lg es p K) (Lg es p K'):=by
 unfold Lg;split
 ·rename_i es' _ _;cases Nat.beq es' es
  ·exact hn
  ·exact hK _ _
 ·exact hn
theorem Ax(hn:Rel none none){b:Bool}{K:Option R}{K':Option R'}(hK:b=true->Rel K K'):Rel (Ar b K) (Ar b K'):=by
 cases b
 ·exact hn
 ·exact hK rfl
theorem NV{b:Bool}{x y:Option R}{x' y':Option R'}(hx:Rel x x')(hy:Rel y y'):Rel (Ay b x y) (Ay b x' y'):=by
 cases b
 ·exact hy
 ·exact hx
theorem Ea(hn:Rel none none){α:Type}{o:Option α}{K:α->Option R}{K':α->Option R'}(hK:∀a,o=some a->Rel (K a) (K' a)):Rel (Dj o K) (Dj o K'):=by
 cases o
 ·exact hn
 ·exact hK _ rfl
theorem B8(hn:Rel none none){α:Type}{l:List α}{K:α->List α->Option R}{K':α->List α->Option R'}(hK:∀a r,l=a::r->Rel (K a r) (K' a r)):Rel (Ai l K) (Ai l K'):=by
 cases l
 ·exact hn
 ·exact hK _ _ rfl
theorem Gm(hn:Rel none none){α:Type}{l:List α}{K:Option R}{K':Option R'}(hK:Rel K K'):Rel (Ao l K) (Ao l K'):=by
 cases l
 ·exact hK
 ·exact hn
theorem M0(hn:Rel none none){p:PV}{K:Ae->Option R}{K':Ae->Option R'}(hK:∀c,p=.agg c->Rel (K c) (K' c)):Rel (Ef p K) (Ef p K'):=by
 unfold Ef;split
 ·exact hK _ rfl
 ·exact hn
theorem Am8(hn:Rel none none){p:PV}{K:Ae->Option R}{K':Ae->Option R'}(hK:∀c,Rel (K c) (K' c)):Rel (BU p K) (BU p K'):=by
 unfold BU;split
 ·exact hK _
 ·exact hn
theorem XL(hn:Rel none none){r:Option A4}{K:Ae->List Ae->Option R}{K':Ae->List Ae->Option R'}(hK:∀v o,Rel (K v o) (K' v o)):Rel (Bv r K) (Bv r K'):=by
 unfold Bv;split
 ·exact hK _ _
 ·exact hn
theorem Ai1(hn:Rel none none){p:PV}{K:Value->Option R}{K':Value->Option R'}(hK:∀v,Rel (K v) (K' v)):Rel (fnK p K) (fnK p K'):=by
 unfold fnK;split
 ·exact hK _
 ·exact hK _
 ·exact hn
theorem Ay3(hn:Rel none none){p:PV}{K:FuncId->Option R}{K':FuncId->Option R'}(hK:∀v,Rel (K v) (K' v)):Rel (fvK p K) (fvK p K'):=by
 unfold fvK;split
 ·rename_i f a b;cases (a.isEmpty&&b.isEmpty)
  ·exact hn
  ·exact hK _
 ·exact hn
theorem Tk(hn:Rel none none){t:CT}{p:PV}{K:PV->Option R}{K':PV->Option R'}(hK:∀p,Rel (K p) (K' p)):Rel (IB t p K) (IB t p K'):=by
 unfold IB;split
 ·exact Kh hn fun _=>hK _
 ·exact Ig hn fun _=>hK _
 ·exact Gn hn fun _=>hK _
 ·exact Gu hn fun _ _ _=>hK _
 ·exact Ai1 hn fun _=>hK _
theorem Ayw(hn:Rel none none){t:CT}{p:PV}{K:PV->Option R}{K':PV->Option R'}(hK:∀p,Rel (K p) (K' p)):Rel (fcK t p K) (fcK t p K'):=by
 unfold fcK;split
 ·exact Avz hn hK
 ·exact Tk hn hK
theorem Uw(hn:Rel none none):∀{ts:List CT}{cells:Ae}{off:Nat}{K:Ae->Option R}{K':Ae->Option R'},(∀c,Rel (K c) (K' c))->Rel (Xn ts cells off K) (Xn ts cells off K')
 |[],_,_,_,_,hK=>hK _
 |_::_,_,_,_,_,hK=>Tk hn fun _=>Uw hn fun _=>hK _
theorem R9(hn:Rel none none):∀{ts:List CT}{cells:Ae}{off:Nat}{K:Ae->Option R}{K':Ae->Option R'},(∀c,Rel (K c) (K' c))->Rel (Sj ts cells off K) (Sj ts cells off K')
 |[],_,_,_,_,hK=>hK _
 |_::_,_,_,_,_,hK=>Ayw hn fun _=>R9 hn fun _=>hK _
theorem GS(hn:Rel none none){g:Bool}{cells:Ae}{K:PV->Option R}{K':PV->Option R'}(hK:∀p,Rel (K p) (K' p)):Rel (mkV g cells K) (mkV g cells K'):=by
 cases g
 ·exact B8 hn fun _ _ _=>Gm hn (hK _)
 ·exact hK _
theorem Akg(hn:Rel none none){P:Program}{t:TypeId}{v:Value}{K:PV->Option R}{K':PV->Option R'}(hK:∀p,Ci p=[]->Rel (K p) (K' p))(hK':∀c,Rel (K (.agg c)) (K' (.agg c))):Rel (cvK P t v K) (cvK P t v K'):=by
 unfold cvK;split
 ·exact Ax hn fun _=>Uw hn fun _=>hK' _
 ·split
  ·exact hK _ rfl
  ·exact hn
 ·exact hK _ rfl
theorem Ap1(hn:Rel none none){op:BinOp}{x y:Int}{K:Bool->Option R}{K':Bool->Option R'}(hK:∀n,Rel (K n) (K' n)):Rel (Ax9 op x y K) (Ax9 op x y K'):=by unfold Ax9;split<;>first|exact hK _|exact hn
theorem Ag5(hn:Rel none none){op:BinOp}{k:IntKind}{x y:Int}{K:PV->Option R}{K':PV->Option R'}(hK:∀n,Rel (K n) (K' n)):Rel (RY op k x y K) (RY op k x y K'):=by unfold RY;split<;>first|exact hK _|exact Ax hn fun _=>hK _|exact Ap1 hn fun _=>hK _
theorem Agl(hn:Rel none none){op:BinOp}{x y:ByteArray}{K:PV->Option R}{K':PV->Option R'}(hK:∀n,Rel (K n) (K' n)):Rel (PP op x y K) (PP op x y K'):=by unfold PP;split<;>first|exact hK _|exact Ax hn fun _=>hK _|exact hn
theorem UQ(hn:Rel none none){e:Bool}{p:PV}{K:PV->Option R}{K':PV->Option R'}(hK:∀n,Rel (K n) (K' n)):Rel (SL e p K) (SL e p K'):=by unfold SL;split<;>first|exact hK _|exact NV (hK _) (NV (hK _) (hK _))|exact NV (hK _) (hK _)|exact hn
theorem Afm(hn:Rel none none):∀{ts:List CT}{ps qs:Ae}{K:Bool->Option R}{K':Bool->Option R'},(∀b,Rel (K b) (K' b))->Rel (O3 ts ps qs K) (O3 ts ps qs K'):=by
 intro ts
 induction ts with
 |nil=>
  intro ps qs K K' hK;cases ps<;>cases qs<;>first|exact hK _|exact hn
 |cons t ts ih=>
  intro ps qs K K' hK;cases ps with
  |nil=>cases t<;>cases qs<;>exact hn
  |cons p ps=>
   cases qs with
   |nil=>cases t<;>exact hn
   |cons q qs=>
    cases t
    ·exact Kh hn fun _=>Kh hn fun _=>ih fun _=>hK _
    ·exact Ig hn fun _=>Ig hn fun _=>ih fun _=>hK _
    ·exact Gn hn fun _=>Gn hn fun _=>ih fun _=>hK _
    ·exact hn
    ·exact hn
theorem As3(hn:Rel none none){P:Program}{op:BinOp}{t:TypeId}{x y:PV}{K:PV->Option R}{K':PV->Option R'}(hK:∀p,Rel (K p) (K' p)):Rel (Aq0 P op t x y K) (Aq0 P op t x y K'):=by
 unfold Aq0;split
 ·split
  ·exact Kh hn fun _=>E6 hn fun _ _=>Ax hn fun _=>hK _
  ·exact Kh hn fun _=>E6 hn fun _ _=>Ax hn fun _=>hK _
  ·exact Kh hn fun _=>Kh hn fun _=>Ag5 hn hK
 ·exact Gn hn fun _=>Gn hn fun _=>Agl hn hK
 ·split
  ·exact Ig hn fun _=>Ig hn fun _=>hK _
  ·exact Ig hn fun _=>Ig hn fun _=>hK _
  ·exact hn
 ·split
  ·exact UQ hn fun _=>hK _
  ·exact UQ hn fun _=>hK _
  ·exact hn
 ·split
  ·exact hK _
  ·exact hK _
  ·exact hn
 ·exact hn
theorem Ack(hn:Rel none none){P:Program}{op:BinOp}{t:TypeId}{x y:PV}{K:PV->Option R}{K':PV->Option R'}(hK:∀p,Rel (K p) (K' p)):Rel (AE P op t x y K) (AE P op t x y K'):=by
 unfold AE;split
 ·split
  ·exact Ax hn fun _=>M0 hn fun _ _=>M0 hn fun _ _=>Afm hn fun _=>hK _
  ·exact Ax hn fun _=>M0 hn fun _ _=>M0 hn fun _ _=>Afm hn fun _=>hK _
  ·exact hn
 ·exact As3 hn hK
theorem Ayu(hn:Rel none none){op:UnOp}{x:PV}{K:PV->Option R}{K':PV->Option R'}(hK:∀p,Rel (K p) (K' p)):Rel (unK op x K) (unK op x K'):=by unfold unK;split<;>first|exact Ig hn fun _=>hK _|exact E6 hn fun _ _=>hK _|exact hn
theorem E4(hn:Rel none none){p:Option PV}{d:Nat}{K:Nat->Option R}{K':Nat->Option R'}(hK:∀n,Rel (K n) (K' n)):Rel (Il p d K) (Il p d K'):=by
 unfold Il;split
 ·exact hK _
 ·exact E6 hn fun _ _=>Ax hn fun _=>hK _
theorem IZ(hn:Rel none none){x:PV}{d:Nat}{K:PV->Option R}{K':PV->Option R'}(hK:∀n,Rel (K n) (K' n)):Rel (Zh x d K) (Zh x d K'):=by unfold Zh;split<;>first|exact hK _|exact hn
theorem OR(hn:Rel none none){P:Program}{t:TypeId}{x:PV}{i:Int}{K:PV->Option R}{K':PV->Option R'}(hK:∀p,Rel (K p) (K' p)):Rel (Nx P t x i K) (Nx P t x i K'):=by
 unfold Nx;split
 ·exact Ax hn fun _=>Ax hn fun _=>IZ hn hK
 ·refine Ax hn fun _=>?_;split
  ·exact Ax hn fun _=>Ax hn fun _=>hK _
  ·exact Gu hn fun _ _ _=>Ax hn fun _=>hK _
 ·exact hn
theorem JY(hn:Rel none none){Is:Nat->Option (Nat × Nat)}:∀{ps:List (Nat × PV)} {cells:Ae}{K:Ae->Option R}{K':Ae->Option R'},(∀c,Rel (K c) (K' c))->Rel (Zs Is ps cells K) (Zs Is ps cells K')
 |[],_,_,_,hK=>hK _
 |(_,_)::_,_,_,_,hK=>Ea hn fun _ _=>Ax hn fun _=>JY hn hK
theorem Yj(hn:Rel none none){P:Program}{t:TypeId}{K:Ae->Option R}{K':Ae->Option R'}(hK:∀p,Rel (K p) (K' p)):Rel (Iv P t K) (Iv P t K'):=
 Ea hn fun _ _=>Ax hn fun _=>Uw hn hK
theorem Atq(hn:Rel none none){x y:PV}{K:PV->Option R}{K':PV->Option R'}(hK:∀p,Rel (K p) (K' p)):Rel (Aw0 x y K) (Aw0 x y K'):=
 E6 hn fun _ _=>Kh hn fun _=>hK _
theorem Asb(hn:Rel none none){x y:PV}{K:PV->Option R}{K':PV->Option R'}(hK:∀p,Rel (K p) (K' p)):Rel (Axl x y K) (Axl x y K'):=
 E6 hn fun _ _=>Kh hn fun _=>hK _
theorem Ap8(hn:Rel none none){P:Program}{t:TypeId}{x:PV}{K:Nat->Option R}{K':Nat->Option R'}(hK:∀p,Rel (K p) (K' p)):Rel (Al5 P t x K) (Al5 P t x K'):=by
 unfold Al5;split
 ·exact Gn hn fun _=>hK _
 ·exact hK _
 ·split
  ·exact Ax hn fun _=>hK _
  ·exact Gu hn fun _ _ _=>hK _
 ·exact hn
def Agr(Rel:Option R->Option R'->Prop)(f f':Nat->Option Ae)(l:B2):Prop:=∀i∈l,f i=f' i\/(f i=none/\∀b,Rel none b)
variable {f f':Nat->Option Ae}
theorem Agr.sub{l l':B2}(h:Agr Rel f f' l)(hs:∀i∈l',i∈l):Agr Rel f f' l':=fun i hi=>h i (hs i hi)
theorem HP(hn:Rel none none){l:B2}{id:Nat}(hf:Agr Rel f f' l)(hi:id∈l){K:Ae->Option R}{K':Ae->Option R'}(hK:∀c,f id=some c->Rel (K c) (K' c)):Rel (Dj (f id) K) (Dj (f' id) K'):=by
 rcases hf id hi with h|⟨h,hb⟩
 ·rw[<-h];exact Ea hn hK
 ·rw[h];exact hb _
theorem Uy(hn:Rel none none){es:Nat}{p:PV}{K:Nat->Ae->Option R}{K':Nat->Ae->Option R'}(hf:Agr Rel f f' (At p))(hK:∀n c,Rel (K n c) (K' n c)):Rel (Adk f es p K) (Adk f' es p K'):=by
 unfold Adk;split
 ·rename_i id es' off n;cases Nat.beq es' es
  ·exact hn
  ·exact HP hn hf (by simp[At]) fun _ _=>Ax hn fun _=>hK _ _
 ·exact Gu hn fun _ _ _=>hK _ _
theorem Arh(hn:Rel none none){t:CT}{p:PV}{K:PV->B2->Option R}{K':PV->B2->Option R'}(hf:Agr Rel f f' (At p))(hK:∀c m,(∀i∈m,f i≠none)->Rel (K c m) (K' c m)):Rel (Su f t p K) (Su f' t p K'):=by
 unfold Su;split
 ·split
  ·rename_i id es' off n;cases Nat.beq es' _
   ·exact hn
   ·exact HP hn hf (by simp[At]) fun c hc=>Ax hn fun _=>hK _ _ (by simp[hc])
  ·exact Gu hn fun _ _ _=>hK _ _ (by simp)
 ·exact Tk hn fun _=>hK _ _ (by simp)
theorem AF(hn:Rel none none):∀{ts:List CT}{ps:Ae}{K:Ae->B2->Option R}{K':Ae->B2->Option R'},Agr Rel f f' (ps.flatMap At)->(∀c m,(∀i∈m,f i≠none)->Rel (K c m) (K' c m))->Rel (Rr f ts ps K) (Rr f' ts ps K')
 |[],[],_,_,_,hK=>hK _ _ (by simp)
 |[],_::_,_,_,_,_=>hn
 |_::_,[],_,_,_,_=>hn
 |_::_,p::ps,_,_,hf,hK=>Arh hn (fun i hi=>hf i (by simp only[K8,Bx];exact .inl hi)) fun _ m hm=>AF hn (fun i hi=>hf i (by simp only[K8,Bx];exact .inr hi)) fun _ ms OZ=>hK _ _ fun i hi=>by
   rcases Bx.1 hi with h|h
   ·exact hm i h
   ·exact OZ i h
theorem Ap7(hn:Rel none none){P:Program}{t:TypeId}{p:PV}{K:PV->B2->Option R}{K':PV->B2->Option R'}(hf:Agr Rel f f' (Cy p))(hK:∀c m,(∀i∈m,f i≠none)->Rel (K c m) (K' c m)):Rel (Aik P f t p K) (Aik P f' t p K'):=by
 unfold Aik
 have h1:∀i,i∈[p].flatMap At->i∈Cy p:=by
  intro i hi;simp only[K8,List.flatMap_nil,List.append_nil] at hi;cases p<;>first|exact hi|simp[At] at hi
 cases Ch P t
 ·exact AF hn (fun i hi=>hf i (h1 i hi)) fun _ _ hm=>B8 hn fun _ _ _=>Gm hn (hK _ _ hm)
 ·refine M0 hn fun c hc=>?_;subst hc;exact AF hn (fun i hi=>hf i hi) fun _ _ hm=>hK _ _ hm
theorem VM(hn:Rel none none){P:Program}:∀{ts:List TypeId}{ps:Ae}{K:Ae->B2->Option R}{K':Ae->B2->Option R'},Agr Rel f f' (ps.flatMap Cy)->(∀c m,(∀i∈m,f i≠none)->Rel (K c m) (K' c m))->Rel (RI P f ts ps K) (RI P f' ts ps K')
 |[],[],_,_,_,hK=>hK _ _ (by simp)
 |[],_::_,_,_,_,_=>hn
 |_::_,[],_,_,_,_=>hn
 |_::_,p::ps,_,_,hf,hK=>Ap7 hn (fun i hi=>hf i (by simp only[K8,Bx];exact .inl hi)) fun _ m hm=>VM hn (fun i hi=>hf i (by simp only[K8,Bx];exact .inr hi)) fun _ ms OZ=>hK _ _ fun i hi=>by
   rcases Bx.1 hi with h|h
   ·exact hm i h
   ·exact OZ i h
theorem Agm(hn:Rel none none){P:Program}{t:TypeId}{x:PV}{lo hi:Option PV}{K:PV->Option R}{K':PV->Option R'}(hf:(∃n e,P.underlying t=some (.array n e))->Agr Rel f f' (At x))(hK:∀c,Rel (K c) (K' c)):Rel (IR P f t x lo hi K) (IR P f' t x lo hi K'):=by
 unfold IR;split
 ·exact Gn hn fun _=>E4 hn fun _=>E4 hn fun _=>Ax hn fun _=>hK _
 ·refine Ax hn fun _=>?_;split
  ·exact Ax hn fun _=>E4 hn fun _=>E4 hn fun _=>Ax hn fun _=>hK _
  ·exact Gu hn fun _ _ _=>E4 hn fun _=>E4 hn fun _=>Ax hn fun _=>hK _
 ·rename_i n e hu;refine Ax hn fun _=>?_;split
  ·rename_i id off;exact HP hn (hf ⟨_,_,hu⟩) (by simp[At]) fun _ _=>Ax hn fun _=>E4 hn fun _=>E4 hn fun _=>Ax hn fun _=>hK _
  ·exact hn
 ·exact hn
theorem Aea(hn:Rel none none){P:Program}{d:Nat}{t:TypeId}{x:PV}{lo hi mx:Option PV}{K:PV->List (Nat × B7)->Option R}{K':PV->List (Nat × B7)->Option R'}(hK:∀c,Rel (K c [(d,.ar false [])]) (K' c [(d,.ar false [])])):Rel (Z9 P d t x lo hi mx K) (Z9 P d t x lo hi mx K'):=by
 unfold Z9;split
 ·refine Ax hn fun _=>?_;split
  ·exact Ax hn fun _=>E4 hn fun _=>E4 hn fun _=>E4 hn fun _=>Ax hn fun _=>hK _
  ·exact Gu hn fun _ _ _=>E4 hn fun _=>E4 hn fun _=>E4 hn fun _=>Ax hn fun _=>hK _
 ·exact hn
theorem XJ{nz:Bool}{g g':Nat->Option Ae}(hn:Rel none none){P:Program}{t:TypeId}{x:PV}{K:PV->Option R}{K':PV->Option R'}(hf:∀i∈At x,(f i=f' i/\g i=g' i)\/(f i=none/\g i=none/\∀b,Rel none b))(hK:∀c,Rel (K c) (K' c)):Rel (EV nz P f g t x K) (EV nz P f' g' t x K'):=by
 unfold EV;split
 ·rename_i id off;refine Ax hn fun _=>?_;rcases hf id (by simp[At]) with⟨h1,h2⟩|⟨h1,h2,h3⟩
  ·rw[<-h1,<-h2];split
   ·exact Uw hn fun _=>GS hn fun _=>hK _
   ·exact Ea hn fun _ _=>R9 hn fun _=>GS hn hK
  ·rw[h1,h2];exact h3 _
 ·exact Ax hn fun _=>Uw hn fun _=>GS hn fun _=>hK _
 ·exact hn
theorem Al0(hn:Rel none none){P:Program}{d:Nat}{src dst:TypeId}{x:PV}{K:PV->List (Nat × B7)->Option R}{K':PV->List (Nat × B7)->Option R'}(hf:P.underlying dst=some .string->Agr Rel f f' (At x))(hK:∀v b,(∀q∈b,q.1=d)->Rel (K v b) (K' v b)):Rel (RN P f d src dst x K) (RN P f' d src dst x K'):=by
 unfold RN;split
 ·exact Ax hn fun _=>E6 hn fun _ _=>hK _ _ (by simp)
 ·rename_i hds;split
  ·exact Gn hn fun _=>hK _ _ (by simp)
  ·split
   ·exact Uy hn (hf hds) fun _ _=>Ax hn fun _=>Ea hn fun _ _=>hK _ _ (by simp)
   ·exact Uy hn (hf hds) fun _ _=>Ax hn fun _=>Ea hn fun _ _=>hK _ _ (by simp)
   ·exact hn
  ·exact hn
 ·split
  ·exact Gn hn fun _=>Ax hn fun _=>hK _ _ (by simp)
  ·exact hn
 ·exact hn
theorem Atv(hn:Rel none none){shr:Bool}{id:Nat}{t:CT}{p:PV}{K:PV->List (Nat × B7)->Option R}{K':PV->List (Nat × B7)->Option R'}(hK:∀c b,(∀q∈b,q.1=id)->Rel (K c b) (K' c b)):Rel (Arb shr id t p K) (Arb shr id t p K'):=by
 unfold Arb;split
 ·cases shr
  ·exact Aj5 hn fun _ _=>hK _ _ (by simp)
  ·exact Gu hn fun _ _ _=>hK _ _ (by simp)
 ·exact Tk hn fun _=>hK _ _ (by simp)
theorem AX(hn:Rel none none){shr:Bool}{N:Nat}:∀{ts:List CT}{id:Nat}{ps:Ae}{K:Ae->List (Nat × B7)->Option R} {K':Ae->List (Nat × B7)->Option R'},(∀c b,(∀q∈b,∃j,q.1=id+N*j)->Rel (K c b) (K' c b))->Rel (Ux shr N id ts ps K) (Ux shr N id ts ps K')
 |[],_,_,_,_,hK=>Gm hn (hK _ _ (by simp))
 |_::_,id,_,_,_,hK=>B8 hn fun _ _ _=>Atv hn fun _ b hb=>AX hn fun _ bs hbs=>hK _ _ fun q hq=>by
   rcases Bx.1 hq with h|h
   ·exact⟨0,by rw[hb q h];simp⟩
   ·obtain⟨j,hj⟩:=hbs q h;exact⟨j+1,by rw[hj,Nat.mul_add];omega⟩
theorem Asx(hn:Rel none none){P:Program}{shr:Bool}{N id:Nat}{t:TypeId}{p:PV}{K:PV->List (Nat × B7)->Option R}{K':PV->List (Nat × B7)->Option R'}(hK:∀c b,(∀q∈b,∃j,q.1=id+N*j)->Rel (K c b) (K' c b)):Rel (Amw P shr N id t p K) (Amw P shr N id t p K'):=by
 unfold Amw;split
 ·refine Am8 hn fun ps=>AX hn fun _ _ hb=>hK _ _ fun q hq=>?_;rcases List.mem_cons.1 hq with rfl|hq
  ·exact⟨0,by simp⟩
  ·obtain⟨j,hj⟩:=hb q hq;exact⟨j+1,by rw[hj,Nat.mul_add];omega⟩
 cases Ch P t
 ·exact AX hn fun _ _ hb=>B8 hn fun _ _ _=>Gm hn (hK _ _ hb)
 ·exact M0 hn fun _ _=>AX hn fun _ _ hb=>hK _ _ hb
theorem JL(hn:Rel none none){P:Program}{shr:Bool}{N:Nat}:∀{ts:List TypeId}{id:Nat}{ps:Ae}{K:Ae->List (Nat × B7)->Option R} {K':Ae->List (Nat × B7)->Option R'},(∀c b,(∀q∈b,∃j,q.1=id+N*j)->Rel (K c b) (K' c b))->Rel (LF P shr N id ts ps K) (LF P shr N id ts ps K')
 |[],_,_,_,_,hK=>Gm hn (hK _ _ (by simp))
 |t::_,id,_,_,_,hK=>B8 hn fun _ _ _=>Asx hn fun _ b hb=>JL hn fun _ bs hbs=>hK _ _ fun q hq=>by
   rcases Bx.1 hq with h|h
   ·exact hb q h
   ·obtain⟨j,hj⟩:=hbs q h;exact⟨Adg P t+j,by rw[hj,Nat.mul_add];omega⟩
end
theorem Yr{p:PV}{i:Nat}(h:i∈At p):i∈Cy p:=by cases p<;>first|exact h|simp[At] at h
theorem Ji{p:PV}{i:Nat}(h:i∈Cy p):i∈Ci p:=by cases p<;>first|exact h|simp[Cy,At] at h
theorem N5{p:PV}{i:Nat}(h:i∈At p):i∈Ci p:=Ji (Yr h)
section
variable {R R':Type}{Rel:Option R->Option R'->Prop}{P:Program}{N:Nat}{tm tm':Nat->PV}{f f' g g':Nat->Option Ae}{o:Oper}
theorem OX(hn:Rel none none){t:TypeId}{x:Operand}{K:PV->Option R}{K':PV->Option R'}(hx:Cp tm x=Cp tm' x)(hK:∀p,Rel (K p) (K' p)):Rel (IE P t tm x K) (IE P t tm' x K'):=by
 unfold IE;split
 ·exact Akg hn (fun _ _=>hK _) (fun _=>hK _)
 ·rw[hx];exact hK _
theorem Arn(hn:Rel none none){t:CT}{p:PV}{K:PV->Option R}{K':PV->Option R'}(hK:∀p,At p=[]->Rel (K p) (K' p)):Rel (IB t p K) (IB t p K'):=by
 unfold IB;split
 ·exact Kh hn fun _=>hK _ rfl
 ·exact Ig hn fun _=>hK _ rfl
 ·exact Gn hn fun _=>hK _ rfl
 ·exact Gu hn fun _ _ _=>hK _ rfl
 ·exact Ai1 hn fun _=>hK _ rfl
theorem XP(hn:Rel none none):∀{ts:List CT}{cells:Ae}{off:Nat}{K:Ae->Option R}{K':Ae->Option R'},(∀c,(∀p∈c,At p=[])->Rel (K c) (K' c))->Rel (Xn ts cells off K) (Xn ts cells off K')
 |[],_,_,_,_,hK=>hK _ (by simp)
 |_::_,_,_,_,_,hK=>Arn hn fun c hc=>XP hn fun cs LI=>hK _ (by
   intro p hp;rcases List.mem_cons.1 hp with h|h
   ·rw[h];exact hc
   ·exact LI p h)
theorem FK(hn:Rel none none){t:TypeId}{K:Ae->Option R}{K':Ae->Option R'}(hK:∀c,(∀p∈c,At p=[])->Rel (K c) (K' c)):Rel (Iv P t K) (Iv P t K'):=
 Ea hn fun _ _=>Ax hn fun _=>XP hn hK
theorem Y8{p c:PV}(h:c∈cellsOf p){i:Nat}(hi:i∈At c):i∈Cy p:=by
 unfold cellsOf at h;split at h
 ·exact List.mem_flatMap.2 ⟨c,h,hi⟩
 ·simp at h;subst h;exact Yr hi
theorem Agb{cells new:Ae}{off:Nat}{c:PV}(h:c∈B5 cells new off):c∈cells\/c∈new:=by
 unfold B5 at h;rcases Bx.1 h with h|h
 ·rcases Bx.1 h with h|h
  ·exact .inl (List.mem_of_mem_take h)
  ·exact .inr h
 ·exact .inl (List.mem_of_mem_drop h)
theorem QU(hn:Rel none none){Is:Nat->Option (Nat × Nat)}{S:Nat->Prop}:∀{ps:List (Nat × PV)} {cells:Ae}{K:Ae->Option R}{K':Ae->Option R'},(∀c∈cells,∀i∈At c,S i)->(∀q∈ps,∀i∈Cy q.2,S i) ->
  (∀cs,(∀c∈cs,∀i∈At c,S i)->Rel (K cs) (K' cs))->Rel (Zs Is ps cells K) (Zs Is ps cells K')
 |[],_,_,_,h1,_,hK=>hK _ h1
 |(_,p)::_,_,_,_,h1,h2,hK=>Ea hn fun _ _=>Ax hn fun _=>QU hn (fun c hc i hi=>by
   rcases Agb hc with h|h
   ·exact h1 c h i hi
   ·exact h2 (_,p) DW i (Y8 h hi)) (fun q hq=>h2 q (Ut _ hq)) hK
theorem KQ(hn:Rel none none):∀{ts:List CT}{ps:Ae}{K:Ae->B2->Option R}{K':Ae->B2->Option R'},(∀t∈ts,∀es,t ≠ .sl es)->(∀c,Rel (K c []) (K' c []))->Rel (Rr g ts ps K) (Rr g' ts ps K')
 |[],[],_,_,_,hK=>hK _
 |[],_::_,_,_,_,_=>hn
 |_::_,[],_,_,_,_=>hn
 |t::ts,p::ps,K,K',ht,hK=>by
  show Rel (Su g t p _) (Su g' t p _)
  have:∀{g:Nat->Option Ae} {S:Type} {L:PV->B2->Option S},Su g t p L=IB t p fun c=>L c []:=by
   intro g S L;cases t with
   |sl es=>exact absurd rfl (ht _ (by simp) es)
   |_=>rfl
  rw[this,this];exact Tk hn fun c=>KQ hn (fun t h=>ht t (by simp[h])) fun cs=>hK _
theorem Ar2(hn:Rel none none){es:Nat}{t:TypeId}{x:PV}{K:Nat->Ae->Option R}{K':Nat->Ae->Option R'}(hx:Agr Rel g g' (At x))(hK:∀m c,Rel (K m c) (K' m c)):Rel (Ain P g es t x K) (Ain P g' es t x K'):=by
 unfold Ain;split
 ·exact Ax hn fun _=>Gn hn fun _=>hK _ _
 ·exact Uy hn hx hK
 ·exact hn
theorem Aqv(hn:Rel none none){t:TypeId}{x:PV}{K:Nat->Option R}{K':Nat->Option R'}(hK:∀n,Rel (K n) (K' n)):Rel (Alx P t x K) (Alx P t x K'):=by
 unfold Alx;split
 ·exact Gu hn fun _ _ _=>Ax hn fun _=>hK _
 ·exact hn
theorem Aes(hn:Rel none none){d:Nat}{t tx:TypeId}{x:PV}{K:PV->List (Nat × B7)->Option R}{K':PV->List (Nat × B7)->Option R'}(hx:Agr Rel g g' (At x))(hK:∀v nw,Rel (K v nw) (K' v nw)):Rel (AM P g d t tx x K) (AM P g' d t tx x K'):=by
 unfold AM;split
 ·exact Ax hn fun _=>Ar2 hn hx fun _ _=>Ax hn fun _=>hK _ _
 ·exact hn
theorem PL(hn:Rel none none){C:G3}{call:Aq}{K:PV->B2->List (Nat × B7)->Option R}{K':PV->B2->List (Nat × B7)->Option R'}(On:∀x∈o.op.operands.toList,Cp tm x=Cp tm' x)(hfg:Jn P o.op=true->∀x∈o.op.operands.toList,∀i∈Ci (Cp tm' x),(f i=f' i/\g i=g' i)\/(f i=none/\g i=none/\∀b,Rel none b))(hK:∀v fz nw,(Jn P o.op=false->fz=[]/\∀q∈nw,o.dst=some q.1)->(∀i∈fz,g i≠none)->Rel (K v fz nw) (K' v fz nw)):
  Rel (QA C P N call tm f g o K) (QA C P N call tm' f' g' o K'):=by
 have h0:∀v,Rel (K v [] []) (K' v [] []):=fun v=>hK v [] [] (fun _=>⟨rfl,by simp⟩) (by simp);have hf:Jn P o.op=true->∀x∈o.op.operands.toList,Agr Rel f f' (Ci (Cp tm' x)):=fun h x hx i hi=>(hfg h x hx i hi).imp (·.1) fun h=>⟨h.1,h.2.2⟩;have hg:Jn P o.op=true->∀x∈o.op.operands.toList,Agr Rel g g' (Ci (Cp tm' x)):=fun h x hx i hi=>(hfg h x hx i hi).imp (·.2) fun h=>⟨h.2.1,h.2.2⟩;unfold QA;generalize hop:o.op=op at *
 split
 ·exact OX hn (On _ (by simp[Op.operands])) h0
 ·exact OX hn (On _ (by simp[Op.operands])) h0
 ·rename_i c x y;rw[On c (by simp[Op.operands]),On x (by simp[Op.operands]),On y (by simp[Op.operands])];exact Ig hn fun _=>NV (h0 _) (h0 _)
 ·exact Ea hn fun d hd=>Yj hn fun _=>hK _ _ _ (fun _=>⟨rfl,by simp[hd]⟩) (by simp)
 ·rename_i t x;rw[On x (by simp[Op.operands])];refine Ea hn fun d hd=>Ax hn fun _=>?_;cases V6 P t
  ·exact R9 hn fun _=>hK _ _ _ (fun _=>⟨rfl,by simp[hd]⟩) (by simp)
  ·exact Uw hn fun _=>hK _ _ _ (fun _=>⟨rfl,by simp[hd]⟩) (by simp)
 ·rename_i t ps
  have:(ps.toList.map fun q=>(q.1,Cp tm q.2))=ps.toList.map fun q=>(q.1,Cp tm' q.2):=by
   apply List.map_congr_left;intro q hq;rw[On q.2 (by simp only[Op.operands];exact List.mem_map_of_mem hq)]
  rw[this];exact Ax hn fun _=>Yj hn fun _=>JY hn fun _=>R9 hn fun _=>h0 _
 ·rename_i t n ps
  have:(ps.toList.map fun q=>(q.1,Cp tm q.2))=ps.toList.map fun q=>(q.1,Cp tm' q.2):=by
   apply List.map_congr_left;intro q hq;rw[On q.2 (by simp only[Op.operands];exact List.mem_map_of_mem hq)]
  rw[this];refine Ea hn fun d hd=>?_;split
  ·rename_i e hu;cases hsl:Mv P [e]
   ·refine Ax hn fun _=>FK hn fun z hz=>JY hn fun cs=>KQ hn ?_ fun cs'=>hK _ _ _ (fun _=>⟨rfl,by simp[hd]⟩) (by simp);intro c hc es he;obtain⟨l,hl,hc⟩:=List.mem_flatten.1 hc;rw[List.eq_of_mem_replicate hl] at hc;subst he
    have:Mv P [e]=true:=by
     unfold Mv;simp only[List.any_cons,List.any_nil,Bool.or_false,Bool.or_eq_true];exact .inr (List.any_eq_true.2 ⟨_,hc,rfl⟩)
    rw[this] at hsl;cases hsl
   refine Ax hn fun _=>FK hn fun z hz=>QU (S:=fun i=>∃x∈(Op.buildSlice t n ps).operands.toList,i∈Ci (Cp tm' x)) hn ?_ ?_ fun cs LI=>?_
   ·intro c hc i hi;obtain⟨l,hl,hc⟩:=List.mem_flatten.1 hc;rw[List.eq_of_mem_replicate hl] at hc;rw[hz c hc] at hi;simp at hi
   ·intro q hq i hi;obtain⟨q',G2,rfl⟩:=List.mem_map.1 hq;exact⟨q'.2,by simp only[Op.operands];exact List.mem_map_of_mem G2,Ji hi⟩
   ·refine AF hn (fun i hi=>?_) fun cs' m hm=>hK _ _ _ (fun h=>by simp[Jn,hu,hsl] at h) hm;obtain⟨c,hc,hi⟩:=List.mem_flatMap.1 hi;obtain⟨x,hx,hxi⟩:=LI c hc i hi;exact hg (by simp[Jn,hu,hsl]) x hx i hxi
  ·exact hn
 ·rename_i t x;rw[On x (by simp[Op.operands])];exact XJ hn (fun i hi=>hfg (by simp[Jn]) x (by simp[Op.operands]) i (N5 hi)) h0
 ·rename_i x;rw[On x (by simp[Op.operands])];exact IZ hn h0
 ·rename_i op' t x y _;rw[On x (by simp[Op.operands]),On y (by simp[Op.operands])];exact Ack hn h0
 ·rename_i op' t x;rw[On x (by simp[Op.operands])];exact Ayu hn h0
 ·rename_i src dst x;rw[On x (by simp[Op.operands])];exact Al0 hn (fun hds i hi=>hg (by simp[Jn,hds]) x (by simp[Op.operands]) i (N5 hi)) fun v b hb=>Ea hn fun d hd=>hK _ _ _ (fun _=>⟨rfl,fun q hq=>by rw[hd,hb q hq,hd];rfl⟩) (by simp)
 ·rename_i t x y;rw[On x (by simp[Op.operands]),On y (by simp[Op.operands])];refine Ea hn fun d hd=>?_;split
  ·exact E6 hn fun _ _=>E6 hn fun _ _=>Ax hn fun _=>Yj hn fun _=>hK _ _ _ (fun _=>⟨rfl,by simp[hd]⟩) (by simp)
  ·exact hn
 ·rename_i t x lo hi mx;split
  ·rw[On x (by simp[Op.operands])]
   have h1:lo.map (Cp tm)=lo.map (Cp tm'):=by
    cases lo with
    |none=>rfl
    |some y=>simp only[Option.map_some];rw[On y (by simp[Op.operands])]
   have h2:hi.map (Cp tm)=hi.map (Cp tm'):=by
    cases hi with
    |none=>rfl
    |some y=>simp only[Option.map_some];rw[On y (by simp[Op.operands])]
   rw[h1,h2];exact Agm hn (fun ⟨n,e,he⟩ i hi=>hf (by simp[Jn,he]) x (by simp[Op.operands]) i (N5 hi)) h0
  ·rename_i m;rw[On x (by simp[Op.operands])]
   have h1:lo.map (Cp tm)=lo.map (Cp tm'):=by
    cases lo with
    |none=>rfl
    |some y=>simp only[Option.map_some];rw[On y (by simp[Op.operands])]
   have h2:hi.map (Cp tm)=hi.map (Cp tm'):=by
    cases hi with
    |none=>rfl
    |some y=>simp only[Option.map_some];rw[On y (by simp[Op.operands])]
   rw[h1,h2,On m (by simp[Op.operands])];exact Ea hn fun d hd=>Aea hn fun c=>hK _ _ _ (fun _=>⟨rfl,by simp[hd]⟩) (by simp)
 ·rename_i t x fl;rw[On x (by simp[Op.operands])];exact Ea hn fun _ _=>Ax hn fun _=>IZ hn h0
 ·rename_i t x fl;rw[On x (by simp[Op.operands])];exact Ea hn fun _ _=>Ax hn fun _=>M0 hn fun _ _=>R9 hn fun _=>GS hn h0
 ·rename_i t x i;rw[On x (by simp[Op.operands]),On i (by simp[Op.operands])];exact E6 hn fun _ _=>OR hn h0
 ·rename_i t x i;rw[On x (by simp[Op.operands]),On i (by simp[Op.operands])];refine E6 hn fun _ _=>?_;split
  ·exact Gn hn fun _=>Ax hn fun _=>Ea hn fun _ _=>h0 _
  ·exact M0 hn fun _ _=>Ax hn fun _=>R9 hn fun _=>GS hn h0
  ·exact hn
 ·rename_i t x k ok;rw[On x (by simp[Op.operands]),On k (by simp[Op.operands])];split
  ·refine Ax hn fun _=>?_;split
   ·exact Gn hn fun _=>Ea hn fun _ _=>Akg hn (fun _ _=>Ax hn fun _=>h0 _) (fun _=>Ax hn fun _=>h0 _)
   ·exact hn
  ·exact hn
 ·rename_i x i;rw[On x (by simp[Op.operands])];split
  ·exact Ea hn fun _ _=>h0 _
  ·exact hn
 ·rename_i c
  have Sw:∀x∈c.args.toList,x∈(Op.call c).operands.toList:=by
   intro x hx;simp only[Op.operands,Call.operands,Array.toList_append,Bx];exact .inr hx
  have rc:∀fn,Jn P (.call c)=true->Rel (OK C P N call tm g o c fn K) (OK C P N call tm' g' o c fn K'):=by
   intro fn hmm;unfold OK;have:c.args.toList.map (Cp tm)=c.args.toList.map (Cp tm'):=List.map_congr_left fun x hx=>On x (Sw x hx);rw[this];refine VM hn (fun i hi=>?_) fun vs m hm=>XL hn fun rv ro=>Gm hn (Ax hn fun _=>JL hn fun ws bs hbs=>Ax hn fun _=>hK _ _ _ (fun h=>by rw[hmm] at h;cases h) (fun i hi=>?_))
   ·obtain⟨p,hp,hi⟩:=List.mem_flatMap.1 hi;obtain⟨x,hx,rfl⟩:=List.mem_map.1 hp;exact hg hmm x (Sw x hx) i (Ji hi)
   ·have hi':i∈m:=by
     cases hq:Mv P (Sa P o.type)<;>rw[hq] at hi
     ·simp at hi
     ·exact hi
    exact hm i hi'
  split
  ·refine B8 hn fun x _ hx=>B8 hn fun _ _ _=>?_;rw[On x (Sw x (by rw[hx];simp))]
   exact Ap8 hn fun _=>h0 _
  ·refine B8 hn fun x _ hx=>B8 hn fun _ _ _=>?_;rw[On x (Sw x (by rw[hx];simp))]
   exact Aqv hn fun _=>h0 _
  ·refine B8 hn fun x _ hx=>B8 hn fun y _ hy=>Gm hn ?_;subst hy;rw[On x (Sw x (by rw[hx];simp)),On y (Sw y (by rw[hx];simp))]
   exact Atq hn h0
  ·refine B8 hn fun x _ hx=>B8 hn fun y _ hy=>Gm hn ?_;subst hy;rw[On x (Sw x (by rw[hx];simp)),On y (Sw y (by rw[hx];simp))]
   exact Asb hn h0
  ·rename_i hc;have hmm:Jn P (.call c)=true:=by simp[Jn,hc]
   refine Ax hn fun _=>Ea hn fun d hd=>B8 hn fun _ _ hb=>B8 hn fun x _ hx=>Gm hn (B8 hn fun _ _ _=>B8 hn fun _ _ _=>?_);have hxm:x∈c.args.toList:=by rw[hb,hx];simp
   rw[On x (Sw x hxm)];exact Aes hn (fun i hi=>hg hmm x (Sw x hxm) i (N5 hi)) fun v nw=>hK _ _ _ (fun h=>by rw[hmm] at h;cases h) (by simp)
  ·rename_i fn hc;have hmm:Jn P (.call c)=true:=by simp[Jn,hc]
   exact rc fn hmm
  ·rename_i t hc;have hmm:Jn P (.call c)=true:=by simp[Jn,hc]
   have ht:=On (.tmp t) (by simp[Op.operands,Call.operands,hc]);change tm t=tm' t at ht;rw[ht];exact Ay3 hn fun fn=>rc fn hmm
  ·exact hn
 ·exact hn
variable {hp:Nat->Option B7}
end
open Go.RowKit
abbrev Y7:=PV × B2 × List (Nat × B7)
def Im(ops:Array Oper)(o:Oper)(tm:Nat->PV):Option Bool:=
 match o.guard with
 |none=>some true
 |some (j,want)=>
  match (ops[j]?).bind (·.dst) with
  |none=>none
  |some d=>
   match tm d with
   |.sc (.bool b)=>some (b==want)
   |.sc (.tuple _)=>some false
   |_=>none
section
variable {R:Type}{r:R}{C:G3}{P:Program}{N:Nat}{call:Aq}{ops:Array Oper}{o x:Oper}{s:St}{K:St->Option R}
theorem Aak:Es C P N call ops o s K=match Im ops o s.tm with
  |none=>none
  |some true=>Ad0 C P N call o s K
  |some false=>Ar (Hx N o.dst) (K ⟨C8 s.tm o.dst (.sc undef),s.hp⟩):=by
 unfold Es Im;cases o.guard with
 |none=>rfl
 |some q=>
  obtain⟨j,want⟩:=q;cases hd:(ops[j]?).bind (·.dst) with
  |none=>simp[hd]
  |some d=>
   simp only[hd];cases ht:s.tm d with
   |sc v=>
    cases v with
    |bool b=>
     cases b<;>cases want<;>simp only[Ay,cond_true,cond_false,HQ s.tm ht]<;>rfl
    |_=>rfl
   |_=>rfl
def Aly(C:G3)(P:Program)(N:Nat)(call:Aq)(o:Oper)(s:St):Option Y7:=
 QA C P N call s.tm (rd s.hp) (Mh s.hp) o fun v fz nw=>some (v,fz,nw)
theorem Avs{K:PV->B2->List (Nat × B7)->Option R}:QA C P N call s.tm (rd s.hp) (Mh s.hp) o K=(Aly C P N call o s).bind fun q=>K q.1 q.2.1 q.2.2:=by refine PL (Rel:=fun (a:Option R) (b:Option Y7)=>a=b.bind fun q=>K q.1 q.2.1 q.2.2) (K:=K) (K':=fun v fz nw=>some (v,fz,nw)) rfl (fun _ _=>rfl) (fun _ _ _ _ _=>.inl ⟨rfl,rfl⟩) fun v fz nw _ _=>rfl
theorem Af8{q:Y7}(h:Aly C P N call o s=some q):(Jn P o.op=false->q.2.1=[]/\∀p∈q.2.2,o.dst=some p.1)/\∀i∈q.2.1,Mh s.hp i≠none:=by
 have:=PL (C:=C) (P:=P) (N:=N) (call:=call) (o:=o) (tm:=s.tm) (tm':=s.tm) (f:=rd s.hp) (f':=rd s.hp) (g:=Mh s.hp) (g':=Mh s.hp)
  (Rel:=fun (a:Option Y7)(_:Option Y7)=>∀q,a=some q->(Jn P o.op=false->q.2.1=[]/\∀p∈q.2.2,o.dst=some p.1)/\∀i∈q.2.1,Mh s.hp i≠none)
  (K:=fun v fz nw=>some (v,fz,nw)) (K':=fun v fz nw=>some (v,fz,nw)) (fun _ h=>by cases h) (fun _ _=>rfl) (fun _ _ _ _ _=>.inl ⟨rfl,rfl⟩) (fun v fz nw h1 h2 q hq=>by cases hq;exact⟨h1,h2⟩)
 exact this q h
def gE(C:G3)(P:Program)(N:Nat)(call:Aq)(ops:Array Oper)(o:Oper)(s:St):Option Y7:=
 match Im ops o s.tm with
 |none=>none
 |some true=>bif X3 C P o.op then none else Aly C P N call o s
 |some false=>some (.sc undef,[],[])
def I7(C:G3)(P:Program)(ops:Array Oper)(o:Oper)(tm:Nat->PV):Bool:=X3 C P o.op&&(Im ops o tm==some true)
theorem Nr(h:I7 C P ops o s.tm=false):Es C P N call ops o s K=(gE C P N call ops o s).bind fun q=>JZ N s o.dst q.1 q.2.1 q.2.2 K:=by
 rw[Aak];unfold gE;unfold I7 at h;cases hv:Im ops o s.tm with
 |none=>rfl
 |some b=>
  rw[hv] at h;cases b with
  |false=>
   show Ar _ _=JZ N s o.dst (.sc undef) [] [] K;unfold JZ;have h1:Ca s.hp []=true:=rfl;have h2:Av (Af s.hp []) []=s.hp:=rfl;rw[h1,h2,Bool.and_true]
  |true=>
   have hm:X3 C P o.op=false:=by simpa using h
   simp only[Ad0,hm,cond_false];exact Avs
theorem Rs(h:I7 C P ops o s.tm=true):Es C P N call ops o s K=YT C P N call s o K:=by rw[Aak];unfold I7 at h;simp only[E0,beq_iff_eq] at h;rw[h.2];simp only[Ad0,h.1,cond_true]
theorem Zo{q:Y7}(h:gE C P N call ops o s=some q):(Jn P o.op=false->q.2.1=[]/\∀p∈q.2.2,o.dst=some p.1)/\∀i∈q.2.1,Mh s.hp i≠none:=by
 unfold gE at h;split at h
 ·cases h
 ·cases hm:X3 C P o.op<;>rw[hm] at h
  ·exact Af8 h
  ·cases h
 ·cases h;exact⟨fun _=>⟨rfl,by simp⟩,by simp⟩
theorem Id{tm tm':Nat->PV}(h:∀t∈looks ops o,tm t=tm' t):∀y∈o.op.operands.toList,Cp tm y=Cp tm' y:=by
 intro y hy;cases y with
 |tmp t=>
  refine h t ?_;unfold looks Aub;refine Bx.2 (.inl (List.mem_filterMap.2 ⟨.tmp t,hy,rfl⟩))
 |const v=>cases v<;>rfl
 |func f=>rfl
 |«global» g=>rfl
theorem Ob{tm tm':Nat->PV}(h:∀t∈looks ops o,tm t=tm' t):Im ops o tm=Im ops o tm':=by
 unfold Im;cases hg:o.guard with
 |none=>rfl
 |some q=>
  obtain⟨j,want⟩:=q;cases hd:(ops[j]?).bind (·.dst) with
  |none=>simp[hd]
  |some d=>
   have:tm d=tm' d:=h d (by
    unfold looks;rw[hg];refine Bx.2 (.inr ?_);simp only[hd];simp)
   simp only[hd,this]
theorem EZ{s':St}{q:Y7}(ht:∀t∈looks ops o,s.tm t=s'.tm t)(hm:Jn P o.op=true->∀y∈o.op.operands.toList,∀i∈Ci (Cp s'.tm y),(rd s.hp i=rd s'.hp i/\Mh s.hp i=Mh s'.hp i)\/(rd s.hp i=none/\Mh s.hp i=none))(h:gE C P N call ops o s=some q):gE C P N call ops o s'=some q:=by
 unfold gE at h ⊢;rw[<-Ob ht];split at h
 ·cases h
 ·cases hM:X3 C P o.op<;>rw[hM] at h
  ·have:=PL (C:=C) (P:=P) (N:=N) (call:=call) (o:=o) (tm:=s.tm) (tm':=s'.tm) (f:=rd s.hp) (f':=rd s'.hp) (g:=Mh s.hp) (g':=Mh s'.hp)
    (Rel:=fun (a b:Option Y7)=>a=some q->b=some q)
    (K:=fun v fz nw=>some (v,fz,nw)) (K':=fun v fz nw=>some (v,fz,nw)) (fun h=>h) (Id ht)
    (fun M8 y hy i hi=>(hm M8 y hy i hi).imp id fun h=>⟨h.1,h.2,fun _ h=>by cases h⟩) (fun v fz nw _ _ h=>h)
   exact this h
  ·cases h
 ·exact h
end
open Go.RowKit
theorem Uv:∀{nw:List (Nat × B7)} {hp D1:Nat->Option B7},Ca hp nw=true->(∀i b,(i,b)∈nw->D1 i=none)->Ca D1 nw=true
 |[],_,_,_,_=>rfl
 |(i,b)::nw,hp,D1,h,h'=>by
  simp only[Ca,E0,Option.isNone_iff_eq_none] at h ⊢;exact⟨⟨h' i b (by simp),h.1.2⟩,Uv h.2 fun j c hj=>h' j c (by simp[hj])⟩
section
variable {hp:Nat->Option B7}{fz:B2}{nw:List (Nat × B7)}
theorem Hf(ha:Ca hp nw=true){i:Nat}(hi:hp i≠none):Av (Af hp fz) nw i=if i∈fz then (hp i).map Zl else hp i:=by obtain⟨h1,h2⟩:=B3 ha;rw[(Fi h2).2 i (fun bx hb=>hi (h1 i bx hb)),Cg]
theorem Ll(ha:Ca hp nw=true){i:Nat}{b:B7}(hi:(i,b)∈nw):Av (Af hp fz) nw i=some b:=
 (Fi (B3 ha).2).1 i b hi
theorem Ra(ha:Ca hp nw=true){i:Nat}(hi:hp i=none)(hn:∀b,(i,b) ∉ nw):Av (Af hp fz) nw i=none:=by rw[(Fi (B3 ha).2).2 i hn,Cg,hi];simp
theorem Rm(ha:Ca hp nw=true){i:Nat}(hi:hp i≠none):Av (Af hp fz) nw i≠none:=by
 rw[Hf ha hi];cases h:hp i with
 |none=>exact absurd h hi
 |some b=>split<;>simp
theorem Av6(b:Option B7):(match b.map Zl with|some (.st c)=>some c|some (.ar _ c)=>some c|_=>none)=(match b with|some (.st c)=>some c|some (.ar _ c)=>some c|_=>none):=by
 cases b with
 |none=>rfl
 |some b=>cases b<;>rfl
theorem Apw(b:Option B7):(match b.map Zl with|some (.ar _ c)=>some c|_=>none)=(match b with|some (.ar _ c)=>some c|_=>none):=by
 cases b with
 |none=>rfl
 |some b=>cases b<;>rfl
theorem Aef(ha:Ca hp nw=true){i:Nat}(hi:hp i≠none):rd (Av (Af hp fz) nw) i=rd hp i:=by
 unfold rd;rw[Hf ha hi];by_cases h:i∈fz
 ·rw[Cx h];exact Av6 _
 ·rw[Br h]
theorem VX(ha:Ca hp nw=true){i:Nat}(hi:hp i≠none):Mh (Av (Af hp fz) nw) i=Mh hp i:=by
 unfold Mh;rw[Hf ha hi];by_cases h:i∈fz
 ·rw[Cx h];exact Apw _
 ·rw[Br h]
theorem Aj8{i:Nat}(hi:hp i=none):rd hp i=none:=by unfold rd;rw[hi]
theorem Oo{i:Nat}(hi:hp i=none):Mh hp i=none:=by unfold Mh;rw[hi]
theorem A7s(b:Option B7):(b.map Zl).map Zl=b.map Zl:=by
 cases b with
 |none=>rfl
 |some b=>cases b<;>rfl
theorem Ag6{fx fo:B2}{nx no:List (Nat × B7)}(hx:Ca hp nx=true)(ho:Ca (Av (Af hp fx) nx) no=true)(ho':Ca hp no=true)(Xa:Ca (Av (Af hp fo) no) nx=true)(h1:∀i∈fx,hp i≠none)(h2:∀i∈fo,hp i≠none):
  Av (Af (Av (Af hp fx) nx) fo) no=Av (Af (Av (Af hp fo) no) fx) nx:=by
 funext i
 by_cases hi:hp i=none
 ·by_cases ZW:∃b,(i,b)∈no
  ·obtain⟨b,hb⟩:=ZW
   have hnx:∀b',(i,b') ∉ nx:=fun b' Jz=>by
    have:=(B3 ho).1 i b hb;rw[Ll hx Jz] at this;cases this
   rw[Ll ho hb,Hf Xa (by rw[Ll ho' hb];simp),Ll ho' hb,Br (fun h=>h1 i h hi)]
  ·have ZW:∀b,(i,b) ∉ no:=fun b hb=>ZW ⟨b,hb⟩;by_cases hnx:∃b,(i,b)∈nx
   ·obtain⟨b,hb⟩:=hnx;rw[Ll Xa hb,Hf ho (by rw[Ll hx hb];simp),Ll hx hb,Br (fun h=>h2 i h hi)]
   ·have hnx:∀b,(i,b) ∉ nx:=fun b hb=>hnx ⟨b,hb⟩;rw[Ra ho (Ra hx hi hnx) ZW,Ra Xa (Ra ho' hi ZW) hnx]
 ·rw[Hf ho (Rm hx hi),Hf hx hi,Hf Xa (Rm ho' hi),Hf ho' hi];split<;>split<;>first|rfl|rw[A7s]
end
section
variable {R:Type}{r:R}{C:G3}{P:Program}{N:Nat}{call:Aq}{ops:Array Oper}{o x:Oper}{s:St}{K:St->Option R}
structure FA(C:G3)(P:Program)(ops:Array Oper)(x o:Oper):Prop where
 xo:∀d,x.dst=some d->d ∉ looks ops o
 ne:∀d,x.dst=some d->o.dst≠some d
 ox:∀d,o.dst=some d->d ∉ looks ops x
 mx:X3 C P x.op=true->Jn P o.op=false
 mo:X3 C P o.op=true->Jn P x.op=false
theorem Wi{l:B2}{d:Nat}(h:l.any (Nat.beq d)=false):d ∉ l:=by intro hm;have:l.any (Nat.beq d)=true:=List.any_eq_true.2 ⟨d,hm,Qq d⟩;rw[this] at h;cases h
theorem Asm(h:QZ C P ops x o=false):FA C P ops x o:=by
 unfold QZ at h;simp only[Bool.or_eq_false_iff,Bool.and_eq_false_iff] at h;obtain⟨⟨⟨h1,h2⟩,h3⟩,h4⟩:=h;refine⟨fun d hd=>?_,fun d hd he=>?_,fun d hd=>?_,fun hm=>?_,fun hm=>?_⟩
 ·simp only[hd,Bool.or_eq_false_iff] at h1;exact Wi h1.1
 ·simp only[hd,he,Bool.or_eq_false_iff] at h1;rw[Qq] at h1;cases h1.2
 ·simp only[hd] at h2;exact Wi h2
 ·rw[hm] at h3;rcases h3 with h|h
  ·cases h
  ·exact h
 ·rw[hm] at h4;rcases h4 with h|h
  ·cases h
  ·exact h
theorem G0{tm:Nat->PV}{d:Option Tmp}{v:PV}{l:B2}(h:∀i,d=some i->i ∉ l):∀t∈l,C8 tm d v t=tm t:=by
 intro t ht;cases d with
 |none=>rfl
 |some d=>exact Al _ _ (by rintro rfl;exact h _ rfl ht)
theorem R3{tm:Nat->PV}{d e:Option Tmp}{u v:PV}(h:∀i,d=some i->e≠some i):C8 (C8 tm d u) e v=C8 (C8 tm e v) d u:=by
 cases d with
 |none=>rfl
 |some d=>
  cases e with
  |none=>rfl
  |some e=>exact Afo _ _ _ (by rintro rfl;exact h _ rfl rfl)
def Has(C:G3)(P:Program)(o:Oper)(s:St):Prop:=(∀y∈o.op.operands.toList,∀i∈Ci (Cp s.tm y),s.hp i≠none) /\
 (X3 C P o.op=true->MU o.op=false->∀y∈o.op.operands.toList,∀i∈Ci (Cp s.tm y),∀c,s.hp i=some (.st c)->∀p∈c,∀k∈At p,s.hp k≠none)
theorem N3{tm tm':Nat->PV}(h:∀t∈looks ops o,tm t=tm' t):I7 C P ops o tm=I7 C P ops o tm':=by unfold I7;rw[Ob h]
theorem Ajg(hw:Has C P o s)(xo:∀d,x.dst=some d->d ∉ looks ops o)(ne:∀d,x.dst=some d->o.dst≠some d)(ox:∀d,o.dst=some d->d ∉ looks ops x)(hx:I7 C P ops x s.tm=false)(ho:I7 C P ops o s.tm=false)(h:Es C P N call ops x s (fun s1=>Es C P N call ops o s1 K)=some r):Es C P N call ops o s (fun s1=>Es C P N call ops x s1 K)=some r:=by
 rw[Nr hx] at h;cases ex:gE C P N call ops x s with
 |none=>rw[ex] at h;cases h
 |some q=>
 obtain⟨vx,fx,nx⟩:=q;rw[ex] at h;obtain⟨hb,h1⟩:=Am h;simp only[E0] at hb;have t1:∀t∈looks ops o,C8 s.tm x.dst vx t=s.tm t:=G0 xo;change Es C P N call ops o ⟨C8 s.tm x.dst vx,Av (Af s.hp fx) nx⟩ K=some r at h1;rw[Nr (by rw[N3 t1];exact ho)] at h1
 cases eo:gE C P N call ops o ⟨C8 s.tm x.dst vx,Av (Af s.hp fx) nx⟩ with
 |none=>rw[eo] at h1;cases h1
 |some q=>
 obtain⟨vo,fo,no⟩:=q;rw[eo] at h1;obtain⟨hc,h2⟩:=Am h1;change K ⟨C8 (C8 s.tm x.dst vx) o.dst vo,Av (Af (Av (Af s.hp fx) nx) fo) no⟩=some r at h2;simp only[E0] at hc
 have eo':gE C P N call ops o s=some (vo,fo,no):=by
  refine EZ t1 (fun _ y hy i hi=>?_) eo;have:=hw.1 y hy i hi;exact .inl ⟨Aef hb.2 this,VX hb.2 this⟩
 have ho':Ca s.hp no=true:=Uv hc.2 fun i b hi=>by
  cases hs:s.hp i with
  |none=>rfl
  |some c=>exact absurd ((B3 hc.2).1 i b hi) (Rm hb.2 (by rw[hs];simp))
 rw[Nr ho,eo']
 have Xa:Ca (Av (Af s.hp fo) no) nx=true:=Uv hb.2 fun i b hi=>by
  refine Ra ho' ((B3 hb.2).1 i b hi) fun c Rd=>?_;have:=(B3 hc.2).1 i c Rd;rw[Ll hb.2 hi] at this;cases this
 have t2:∀t∈looks ops x,s.tm t=C8 s.tm o.dst vo t:=fun t ht=>(G0 ox t ht).symm
 have ex':gE C P N call ops x ⟨C8 s.tm o.dst vo,Av (Af s.hp fo) no⟩=some (vx,fx,nx):=by
  refine EZ t2 (fun _ y hy i hi=>?_) ex;by_cases hs:s.hp i=none
  ·exact .inr ⟨Aj8 hs,Oo hs⟩
  ·exact .inl ⟨(Aef ho' hs).symm,(VX ho' hs).symm⟩
 show Ar _ _=_;rw[hc.1,ho'];show Es C P N call ops x ⟨C8 s.tm o.dst vo,Av (Af s.hp fo) no⟩ K=some r;rw[Nr (by rw[<-N3 t2];exact hx),ex']
 show Ar _ _=_;rw[hb.1,Xa];rw[<-h2];have hfx:∀i∈fx,s.hp i≠none:=fun i hi hs=>(Zo ex).2 i hi (Oo hs);have hfo:∀i∈fo,s.hp i≠none:=fun i hi hs=>(Zo eo').2 i hi (Oo hs);show K ⟨C8 (C8 s.tm o.dst vo) x.dst vx,Av (Af (Av (Af s.hp fo) no) fx) nx⟩=K _;rw[R3 ne,Ag6 hb.2 hc.2 ho' Xa hfx hfo]
end
open Go.RowKit
theorem FI{C:G3}{P:Program}{o:Op}(h:X3 C P o=true):Jn P o=true:=by
 unfold X3 at h;split at h
 ·rfl
 ·rename_i c;unfold Jn;simp only;split at h<;>rename_i hc
  ·rw[hc]
  ·rw[hc]
  ·cases h
  ·rw[hc]
  ·cases h
 ·cases h
structure Tch(N:Nat)(S:Nat->Prop)(dst:Option Nat)(hp Fb D1 J7:Nat->Option B7):Prop where
 keep:∀i,hp i≠none->D1 i≠none
 off:∀i,i<N->dst≠some i->(¬S i\/hp i=none)->D1 i=hp i/\J7 i=Fb i
 same:∀i,hp i=Fb i->D1 i=J7 i
 far:∀i,¬S i->hp i≠none->D1 i=hp i
section
variable {R R':Type}{Rel:Option R->Option R'->Prop}{P:Program}{N:Nat}{tm tm':Nat->PV}{hp Fb:Nat->Option B7}{f f':Nat->Option Ae}{o:Oper}
theorem XN(hn:Rel none none){t:CT}{p:PV}{K:PV->B2->Option R}{K':PV->B2->Option R'}(hf:Agr Rel f f' (At p))(hK:∀c m,(∀i∈m,f i≠none/\i∈At p)->Rel (K c m) (K' c m)):Rel (Su f t p K) (Su f' t p K'):=by
 unfold Su;split
 ·split
  ·rename_i id es' off n;cases Nat.beq es' _
   ·exact hn
   ·exact HP hn hf (by simp[At]) fun c hc=>Ax hn fun _=>hK _ _ (by simp[hc,At])
  ·exact Gu hn fun _ _ _=>hK _ _ (by simp)
 ·exact Tk hn fun _=>hK _ _ (by simp)
theorem PO(hn:Rel none none):∀{ts:List CT}{ps:Ae}{K:Ae->B2->Option R}{K':Ae->B2->Option R'},Agr Rel f f' (ps.flatMap At)->(∀c m,(∀i∈m,f i≠none/\i∈ps.flatMap At)->Rel (K c m) (K' c m))->Rel (Rr f ts ps K) (Rr f' ts ps K')
 |[],[],_,_,_,hK=>hK _ _ (by simp)
 |[],_::_,_,_,_,_=>hn
 |_::_,[],_,_,_,_=>hn
 |_::_,p::ps,_,_,hf,hK=>XN hn (fun i hi=>hf i (by simp only[K8,Bx];exact .inl hi)) fun _ m hm=>PO hn (fun i hi=>hf i (by simp only[K8,Bx];exact .inr hi)) fun _ ms OZ=>hK _ _ fun i hi=>by
   simp only[K8,Bx];rcases Bx.1 hi with h|h
   ·exact⟨(hm i h).1,.inl (hm i h).2⟩
   ·exact⟨(OZ i h).1,.inr (OZ i h).2⟩
theorem Z6{S:Nat->Prop}{dst:Option Nat}{id:Nat}{b:B7}{h0 h1:Nat->Option B7}(hS:S id)(B1:hp id≠none)(h:Tch N S dst hp Fb h0 h1):Tch N S dst hp Fb (Db h0 id (some b)) (Db h1 id (some b)):=by
 refine⟨fun i hi=>?_,fun i hN hd hi=>?_,fun i hi=>?_,fun i hn hi=>?_⟩
 ·by_cases e:i=id
  ·subst e;rw[An];simp
  ·rw[Al _ _ e];exact h.keep i hi
 ·have e:i≠id:=by
   rintro rfl
   rcases hi with hi|hi
   ·exact hi hS
   ·exact B1 hi
  rw[Al _ _ e,Al _ _ e];exact h.off i hN hd hi
 ·by_cases e:i=id
  ·subst e;rw[An,An]
  ·rw[Al _ _ e,Al _ _ e];exact h.same i hi
 ·rw[Al _ _ (by rintro rfl;exact hn hS)];exact h.far i hn hi
theorem ZU{S:Nat->Prop}{d:Nat}{b:B7}{h0 h1:Nat->Option B7}(hz:hp d=none)(h:Tch N S (some d) hp Fb h0 h1):Tch N S (some d) hp Fb (Db h0 d (some b)) (Db h1 d (some b)):=by
 refine⟨fun i hi=>?_,fun i hN hd hi=>?_,fun i hi=>?_,fun i hn hi=>?_⟩
 ·by_cases e:i=d
  ·subst e;rw[An];simp
  ·rw[Al _ _ e];exact h.keep i hi
 ·have e:i≠d:=by rintro rfl;exact hd rfl
  rw[Al _ _ e,Al _ _ e];exact h.off i hN hd hi
 ·by_cases e:i=d
  ·subst e;rw[An,An]
  ·rw[Al _ _ e,Al _ _ e];exact h.same i hi
 ·rw[Al _ _ (by rintro rfl;exact hi hz)];exact h.far i hn hi
theorem Yu(S:Nat->Prop)(dst:Option Nat):Tch N S dst hp Fb hp Fb:=⟨fun _ h=>h,fun _ _ _ _=>⟨rfl,rfl⟩,fun _ h=>h,fun _ _ _=>rfl⟩
theorem Ahy{S:Nat->Prop}{dst:Option Nat}{m:B2}(hm:∀i∈m,hp i≠none/\S i):Tch N S dst hp Fb (Af hp m) (Af Fb m):=by
 refine⟨fun i hi=>fun h=>hi (E7.1 h),fun i hN hd hi=>?_,fun i hi=>?_,fun i hn hi=>?_⟩
 ·have e:i ∉ m:=by
   intro h;rcases hi with hi|hi
   ·exact hi (hm i h).2
   ·exact (hm i h).1 hi
  rw[Cg,Cg,Br e,Br e];exact⟨rfl,rfl⟩
 ·rw[Cg,Cg,hi]
 ·rw[Cg,Br (fun h=>hn (hm i h).2)]
theorem Aah{S:Nat->Prop}(h:∀i,S i->hp i=Fb i\/(hp i=none/\∀b,Rel none b)){l:B2}(hl:∀i∈l,S i):Agr Rel (Mh hp) (Mh Fb) l:=by
 intro i hi;rcases h i (hl i hi) with h|⟨h,h'⟩
 ·left;unfold Mh;rw[h]
 ·exact .inr ⟨Oo h,h'⟩
theorem Acs(hn:Rel none none){t:TypeId}{a x:PV}{K:St->Option R}{K':St->Option R'}{S:Nat->Prop}(hS:∀i,S i->hp i=Fb i\/(hp i=none/\∀b,Rel none b))(ha:∀i∈At a,S i)(hx:∀i∈Cy x,S i)(hK:∀D1 J7,Tch N S none hp Fb D1 J7->Rel (K ⟨tm,D1⟩) (K' ⟨tm',J7⟩)):Rel (JJ P ⟨tm,hp⟩ t a x K) (JJ P ⟨tm',Fb⟩ t a x K'):=by
 unfold JJ;split
 ·rename_i id off;show Rel (match hp id with|some (.st c)=>_|some (.ar false c)=>_|_=>none) (match Fb id with|some (.st c)=>_|some (.ar false c)=>_|_=>none);have B1:S id:=ha id (by simp[At]);rcases hS id B1 with h|⟨h,hb⟩
  ·rw[<-h];split
   ·rename_i c hc;exact Ax hn fun _=>R9 hn fun _=>hK _ _ (Z6 B1 (by rw[hc];simp) (Yu _ _))
   ·rename_i c hc;refine Ax hn fun _=>PO hn (Aah hS fun i hi=>hx i ?_) fun _ m hm=>Ax hn fun _=>hK _ _ (Z6 B1 (by rw[hc];simp) (Ahy fun i hi=>⟨fun h=>(hm i hi).1 (Oo h),hx i ?_⟩))
    ·obtain⟨c,hc,hi⟩:=List.mem_flatMap.1 hi;exact Y8 hc hi
    ·obtain⟨c,hc,hi⟩:=List.mem_flatMap.1 (hm i hi).2;exact Y8 hc hi
   ·exact hn
  ·rw[h];exact hb _
 ·exact hn
theorem UN(hn:Rel none none){es:Nat}{t:TypeId}{x:PV}{K:Nat->Ae->Option R}{K':Nat->Ae->Option R'}{S:Nat->Prop}(hS:∀i,S i->hp i=Fb i\/(hp i=none/\∀b,Rel none b))(hx:∀i∈Cy x,S i)(hK:∀m c,Rel (K m c) (K' m c)):Rel (Agf P ⟨tm,hp⟩ es t x K) (Agf P ⟨tm',Fb⟩ es t x K'):=by
 unfold Agf Ain;split
 ·exact Ax hn fun _=>Gn hn fun _=>hK _ _
 ·exact Uy hn (Aah hS fun i hi=>hx i (Yr hi)) hK
 ·exact hn
theorem ZX(hn:Rel none none){d:Nat}{t tx:TypeId}{b x:PV}{K:St->Option R}{K':St->Option R'}{S:Nat->Prop}(hS:∀i,S i->hp i=Fb i\/(hp i=none/\∀b,Rel none b))(hdd:hp d=Fb d)(hb:∀i∈Cy b,S i)(hx:∀i∈Cy x,S i)(hK:∀v D1 J7,(∀M,Tch M S (some d) hp Fb D1 J7)->Rel (K ⟨Db tm d v,D1⟩) (K' ⟨Db tm' d v,J7⟩)):Rel (Z7 P N ⟨tm,hp⟩ d t tx b x K) (Z7 P N ⟨tm',Fb⟩ d t tx b x K'):=by
 unfold Z7;split
 ·refine Ax hn fun _=>?_;cases NP P tx
  rotate_left
  ·show Rel (FT P N ⟨tm,hp⟩ d _ b x K) (FT P N ⟨tm',Fb⟩ d _ b x K');refine E6 hn fun _ n=>Gu hn fun z _ _=>?_;show Rel (Ar (z&&Nat.blt d N&&(hp d).isNone&&_&&_&&_) _) (Ar (z&&Nat.blt d N&&(Fb d).isNone&&_&&_&&_) _);rw[<-hdd];exact Ax hn fun hb=>hK _ _ _ (fun M=>ZU (by simp only[E0,Option.isNone_iff_eq_none] at hb;simp only[hb]) (Yu _ _))
  rw[cond_false,cond_false];refine UN hn hS hx fun m new=>?_;split
  ·rename_i id es off n;show Rel (match hp id with|some (.ar false c)=>Ar (Nat.beq es _&&Nat.beq off 0&&Nat.blt d N&&(hp d).isNone&&_&&_&&_&&_) _|_=>none) (match Fb id with|some (.ar false c)=>Ar (Nat.beq es _&&Nat.beq off 0&&Nat.blt d N&&(Fb d).isNone&&_&&_&&_&&_) _|_=>none);have B1:S id:=hb id (by simp[Cy,At]);rw[<-hdd];rcases hS id B1 with h|⟨h,hbb⟩
   ·rw[<-h];split
    ·rename_i c hc;exact Ax hn fun hb=>hK _ _ _ (fun M=>ZU (by simp only[E0,Option.isNone_iff_eq_none] at hb;simp only[hb]) (Z6 B1 (by rw[hc];simp) (Yu _ _)))
    ·exact hn
   ·rw[h];exact hbb _
  ·refine Gu hn fun z _ _=>?_;show Rel (Ar (z&&Nat.blt d N&&(hp d).isNone&&_&&_&&_) _) (Ar (z&&Nat.blt d N&&(Fb d).isNone&&_&&_&&_) _);rw[<-hdd];exact Ax hn fun hb=>hK _ _ _ (fun M=>ZU (by simp only[E0,Option.isNone_iff_eq_none] at hb;simp only[hb]) (Yu _ _))
 ·exact hn
theorem Ahs(hn:Rel none none){d:Option Tmp}{t tx:TypeId}{b x:PV}{K:St->Option R}{K':St->Option R'}{S:Nat->Prop}(hS:∀i,S i->hp i=Fb i\/(hp i=none/\∀b,Rel none b))(hb:∀i∈Cy b,S i)(hx:∀i∈Cy x,S i)(hK:∀v D1 J7,Tch N S d hp Fb D1 J7->Rel (K ⟨C8 tm d v,D1⟩) (K' ⟨C8 tm' d v,J7⟩)):Rel (WW P N ⟨tm,hp⟩ d t tx b x K) (WW P N ⟨tm',Fb⟩ d t tx b x K'):=by
 unfold WW;split
 ·refine Ax hn fun _=>?_;refine UN hn hS hx fun m new=>?_;split
  ·rename_i id es off n;show Rel (match hp id with|some (.ar false c)=>Ar (Nat.beq es _&&_&&_) _|_=>none) (match Fb id with|some (.ar false c)=>Ar (Nat.beq es _&&_&&_) _|_=>none);have B1:S id:=hb id (by simp[Cy,At]);rcases hS id B1 with h|⟨h,hbb⟩
   ·rw[<-h];split
    ·rename_i c hc;exact Ax hn fun _=>hK _ _ _ (Z6 B1 (by rw[hc];simp) (Yu _ _))
    ·exact hn
   ·rw[h];exact hbb _
  ·exact hn
 ·exact hn
def Az0(o:Oper)(tm:Nat->PV)(i:Nat):Prop:=∃x∈o.op.operands.toList,i∈Ci (Cp tm x)
def Rch(o:Oper)(tm:Nat->PV)(hp:Nat->Option B7)(i:Nat):Prop:=Az0 o tm i\/MU o.op=false/\∃id c,Az0 o tm id/\hp id=some (.st c)/\∃p∈c,i∈At p
theorem Aob(hn:Rel none none){mv:Bool}{t:CT}{p:PV}{K:PV->B2->B2->Option R}{K':PV->B2->B2->Option R'}{S:Nat->Prop}(hS:∀i,S i->hp i=Fb i\/(hp i=none/\∀b,Rel none b))(hp_:∀i∈At p,S i)(hK:∀c m x,(∀i∈m++x,hp i≠none/\S i)->Rel (K c m x) (K' c m x)):Rel (Anm mv hp t p K) (Anm mv Fb t p K'):=by
 have frz:∀{t:CT} {p:PV},(∀i∈At p,S i)->Rel (Su (Mh hp) t p fun c m=>K c m []) (Su (Mh Fb) t p fun c m=>K' c m []):=fun h=>XN hn (Aah hS h) fun c m hm=>hK _ _ _ fun i hi=>by
  rw[List.append_nil] at hi;exact⟨fun e=>(hm i hi).1 (Oo e),h i (hm i hi).2⟩
 unfold Anm;split
 ·rename_i es;cases mv<;>simp only[cond_true,cond_false]
  ·exact frz hp_
  ·split
   ·rename_i id es' off n;rcases hS id (hp_ id (by simp[At])) with h|⟨h,hb⟩
    ·rw[<-h];split
     ·rename_i c hc;cases (Nat.beq es' es&&Nat.beq off 0)<;>simp only[cond_true,cond_false]
      ·exact frz hp_
      ·exact Ax hn fun _=>hK _ _ _ fun i hi=>by
        simp only[NL,R8] at hi;subst hi;exact⟨by rw[hc];simp,hp_ i (by simp[At])⟩
     ·exact frz hp_
    ·rw[h]
     have:(Su (Mh hp) (.sl es) (.view id es' off n) fun c m=>K c m [])=none:=by
      unfold Su;simp only;cases Nat.beq es' es
      ·rfl
      ·simp only[cond_true,Oo h,Dj]
     show Rel (Su (Mh hp) (.sl es) (.view id es' off n) fun c m=>K c m []) _;rw[this];exact hb _
   ·refine Gu hn fun z n c=>?_;cases z
    ·exact hK _ _ _ (by simp)
    ·exact hK _ _ _ (by simp)
 ·exact Tk hn fun _=>hK _ _ _ (by simp)
theorem Wj(hn:Rel none none){mv:Bool}{S:Nat->Prop}(hS:∀i,S i->hp i=Fb i\/(hp i=none/\∀b,Rel none b)):∀{ts:List CT}{ps:Ae}{K:Ae->B2->B2->Option R}{K':Ae->B2->B2->Option R'},(∀p∈ps,∀i∈At p,S i) ->
  (∀c m x,(∀i∈m++x,hp i≠none/\S i)->Rel (K c m x) (K' c m x))->Rel (KN mv hp ts ps K) (KN mv Fb ts ps K')
 |[],[],_,_,_,hK=>hK _ _ _ (by simp)
 |[],_::_,_,_,_,_=>hn
 |_::_,[],_,_,_,_=>hn
 |_::_,p::ps,_,_,hp_,hK=>Aob hn hS (hp_ p (by simp)) fun _ m x hm=>Wj hn hS (fun q hq=>hp_ q (by simp[hq])) fun _ ms xs OZ=>hK _ _ _ fun i hi=>by
   simp only[Bx] at hi hm OZ;rcases hi with (hi|hi)|(hi|hi)
   ·exact hm i (.inl hi)
   ·exact OZ i (.inl hi)
   ·exact hm i (.inr hi)
   ·exact OZ i (.inr hi)
theorem Ad8(hn:Rel none none){C:G3}{f:FuncId}{i:Nat}{t:TypeId}{p:PV}{K:PV->B2->B2->List Ih->Option R}{K':PV->B2->B2->List Ih->Option R'}{S:Nat->Prop}(hS:∀i,S i->hp i=Fb i\/(hp i=none/\∀b,Rel none b))(hp_:∀i∈Ci p,S i)(hc:∀i∈Ci p,∀c,Fb i=some (.st c)->∀q∈c,∀k∈At q,S k)(hK:∀v m x l,(∀i∈m++x++l.flatMap Ih.ids,hp i≠none/\S i)->Rel (K v m x l) (K' v m x l)):Rel (IJ C P f hp i t p K) (IJ C P f Fb i t p K'):=by
 unfold IJ;split
 ·split
  ·rename_i id off;have B1:S id:=hp_ id (by simp[Ci,Cy,At]);rcases hS id B1 with h|⟨h,hb⟩
   ·rw[h];split
    ·rename_i c TB;refine Ax hn fun _=>Wj hn hS (fun q hq k hk=>hc id (by simp[Ci,Cy,At]) c TB q (List.mem_of_mem_drop (List.mem_of_mem_take hq)) k hk) fun cs m x hm=>hK _ _ _ _ fun k hk=>?_;rcases Bx.1 hk with hk|hk
     ·exact hm k hk
     ·simp only[K8,List.flatMap_nil,Ih.ids,List.append_nil,R8] at hk;subst hk;exact⟨by rw[h,TB];simp,B1⟩
    ·exact hn
   ·rw[h];exact hb _
  ·exact hn
 ·cases C.lnd f i
  ·cases Ch P t
   ·exact Wj hn hS (fun q hq k hk=>by
     simp at hq;subst hq;exact hp_ k (N5 hk)) fun cs m x hm=>B8 hn fun _ _ _=>Gm hn (hK _ _ _ _ (by simpa using hm))
   ·refine M0 hn fun cs LI=>Wj hn hS (fun q hq k hk=>hp_ k ?_) fun cs m x hm=>hK _ _ _ _ (by simpa using hm);subst LI;exact List.mem_flatMap.2 ⟨q,hq,hk⟩
  ·refine Ea hn fun e he=>?_;unfold Ao1;split
   ·rename_i id es' off n;have B1:S id:=hp_ id (by simp[Ci,Cy,At]);rcases hS id B1 with h|⟨h,hb⟩
    ·rw[h];split
     ·rename_i c TB;refine Ax hn fun _=>hK _ _ _ _ fun k hk=>?_;simp only[NL,K8,List.flatMap_nil,Ih.ids,List.append_nil,R8] at hk;subst hk;exact⟨by rw[h,TB];simp,B1⟩
     ·exact hn
    ·rw[h];exact hb _
   ·exact Gu hn fun _ _ _=>Ax hn fun _=>hK _ _ _ _ (by simp[Ih.ids])
theorem SM(hn:Rel none none){C:G3}{f:FuncId}{S:Nat->Prop}(hS:∀i,S i->hp i=Fb i\/(hp i=none/\∀b,Rel none b)):∀{ts:List TypeId}{ps:Ae}{i:Nat}{K:Ae->B2->B2->List Ih->Option R}{K':Ae->B2->B2->List Ih->Option R'},
  (∀p∈ps,∀i∈Ci p,S i)->(∀p∈ps,∀i∈Ci p,∀c,Fb i=some (.st c)->∀q∈c,∀k∈At q,S k) ->
  (∀v m x l,(∀i∈m++x++l.flatMap Ih.ids,hp i≠none/\S i)->Rel (K v m x l) (K' v m x l))->Rel (UI C P f hp i ts ps K) (UI C P f Fb i ts ps K')
 |[],[],_,_,_,_,_,hK=>hK _ _ _ _ (by simp)
 |[],_::_,_,_,_,_,_,_=>hn
 |_::_,[],_,_,_,_,_,_=>hn
 |_::_,p::ps,_,_,_,hp_,hc,hK=>Ad8 hn hS (hp_ p (by simp)) (hc p (by simp)) fun _ m x l hm=>SM hn hS (fun q hq=>hp_ q (by simp[hq])) (fun q hq=>hc q (by simp[hq])) fun _ ms xs ls OZ=>hK _ _ _ _ fun i hi=>by
   simp only[Bx,List.flatMap_append] at hi hm OZ;rcases hi with ((hi|hi)|(hi|hi))|(hi|hi)
   ·exact hm i (.inl (.inl hi))
   ·exact OZ i (.inl (.inl hi))
   ·exact hm i (.inl (.inr hi))
   ·exact OZ i (.inl (.inr hi))
   ·exact hm i (.inr hi)
   ·exact OZ i (.inr hi)
theorem Ap5(hn:Rel none none){t:Nat}{ct:CT}{was p:PV}{K:Nat->PV->List (Nat × B7)->Option R}{K':Nat->PV->List (Nat × B7)->Option R'}(hK:∀t c b,(∀q∈b,∃k,q.1=nid N k)->Rel (K t c b) (K' t c b)):Rel (Amd N t ct was p K) (Amd N t ct was p K'):=by
 unfold Amd;split
 ·split
  ·exact Aj5 hn fun _ _=>hK _ _ _ (by intro q hq;simp only[R8] at hq;subst hq;exact⟨t,rfl⟩)
  ·exact Gu hn fun _ _ _=>hK _ _ _ (by simp)
 ·exact Tk hn fun _=>hK _ _ _ (by simp)
theorem WD(hn:Rel none none):∀{cts:List CT}{ws ps:Ae}{t:Nat}{K:Nat->Ae->List (Nat × B7)->Option R} {K':Nat->Ae->List (Nat × B7)->Option R'},(∀t c b,(∀q∈b,∃k,q.1=nid N k)->Rel (K t c b) (K' t c b))->Rel (UP N t cts ws ps K) (UP N t cts ws ps K')
 |[],[],_,_,_,_,hK=>Gm hn (hK _ _ _ (by simp))
 |[],_::_,_,_,_,_,_=>hn
 |_::_,[],_,_,_,_,_=>hn
 |_::_,_::_,_,_,_,_,hK=>B8 hn fun _ _ _=>Ap5 hn fun _ _ b hb=>WD hn fun _ _ bs hbs=>hK _ _ _ fun q hq=>by
   rcases Bx.1 hq with h|h
   ·exact hb q h
   ·exact hbs q h
theorem AO(hn:Rel none none){S:Nat->Prop}{dst:Option Nat}:∀{l:List Ih}{ro:List Ae} {t:Nat}{h0 h1:Nat->Option B7}{K:(Nat->Option B7)->List (Nat × B7)->Option R} {K':(Nat->Option B7)->List (Nat × B7)->Option R'},
  Tch N S dst hp Fb h0 h1->(∀i∈l.flatMap Ih.ids,hp i≠none/\S i/\hp i=Fb i)->(∀h0' h1' b,Tch N S dst hp Fb h0' h1'->(∀q∈b,∃k,q.1=nid N k)->Rel (K h0' b) (K' h1' b))->Rel (EH N t l ro h0 K) (EH N t l ro h1 K')
 |[],_,_,_,_,_,_,hT,_,hK=>Gm hn (hK _ _ _ hT (by simp))
 |.var id off cts ws::l,ro,t,h0,h1,K,K',hT,hl,hK=>by
  unfold EH;refine B8 hn fun cs ro _=>WD hn fun t' cs' bs hbs=>?_;have B1:=hl id (by simp[Ih.ids]);rw[<-hT.same id B1.2.2];split
  ·exact AO hn (Z6 B1.2.1 B1.1 hT) (fun i hi=>hl i (by simp only[K8,Bx];exact .inr hi)) fun h0' h1' b hT' hb=>hK _ _ _ hT' fun q hq=>by
    rcases Bx.1 hq with h|h
    ·exact hbs q h
    ·exact hb q h
  ·exact hn
 |.row id::l,ro,t,h0,h1,K,K',hT,hl,hK=>by
  unfold EH;have B1:=hl id (by simp[Ih.ids]);exact B8 hn fun cs ro _=>AO hn (Z6 B1.2.1 B1.1 hT) (fun i hi=>hl i (by simp only[K8,Bx];exact .inr hi)) hK
 |.none::l,ro,t,h0,h1,K,K',hT,hl,hK=>by
  unfold EH;exact B8 hn fun cs ro _=>AO hn hT (fun i hi=>hl i (by simp only[K8,Bx];exact .inr hi)) hK
theorem Ac1(h:∀i,N<=i->hp i=Fb i)(hN:0<N):∀k t,Ac0 N hp k t=Ac0 N Fb k t
 |0,_=>rfl
 |k+1,t=>by
  unfold Ac0;rw[h (nid N t) (by unfold nid;exact Nat.le_mul_of_pos_right _ (by omega)),Ac1 h hN k (t+1)]
theorem VL{h0 h1:Nat->Option B7}:∀{nw:List (Nat × B7)},(∀q∈nw,h0 q.1=h1 q.1)->Ca h0 nw=Ca h1 nw
 |[],_=>rfl
 |(i,b)::nw,h=>by
  unfold Ca;rw[h (i,b) (by simp),VL (fun q hq=>h q (by simp[hq]))]
theorem QS{S:Nat->Prop}{dst:Option Nat}{h0 h1:Nat->Option B7}(hT:Tch N S dst hp Fb h0 h1):∀{nw:List (Nat × B7)} {g0 g1:Nat->Option B7},Tch N S dst hp Fb g0 g1->(∀q∈nw,N<=q.1\/dst=some q.1)->(∀q∈nw,hp q.1=none)->Tch N S dst hp Fb (Av g0 nw) (Av g1 nw)
 |[],_,_,h,_,_=>h
 |(i,b)::nw,g0,g1,h,hi,hz=>by
  refine QS hT (nw:=nw) ⟨fun k hk=>?_,fun k hN hd hk=>?_,fun k hk=>?_,fun k hn hk=>?_⟩ (fun q hq=>hi q (by simp[hq])) (fun q hq=>hz q (by simp[hq]))
  ·by_cases e:k=i
   ·subst e;rw[An];simp
   ·rw[Al _ _ e];exact h.keep k hk
  ·have e:k≠i:=by
    rintro rfl
    rcases hi (k,b) (by simp) with q|q
    ·simp only at q;omega
    ·exact hd q
   rw[Al _ _ e,Al _ _ e];exact h.off k hN hd hk
  ·by_cases e:k=i
   ·subst e;rw[An,An]
   ·rw[Al _ _ e,Al _ _ e];exact h.same k hk
  ·rw[Al _ _ (by rintro rfl;exact hk (hz (k,b) (by simp)))];exact h.far k hn hk
theorem A2s{S:Nat->Prop}{dst:Option Nat}{m x:B2}(hm:∀i∈m++x,hp i≠none/\S i):Tch N S dst hp Fb (Yv (Af hp m) x) (Yv (Af Fb m) x):=by
 refine⟨fun i hi h=>?_,fun i hN hd hi=>?_,fun i hi=>?_,fun i hn hi=>?_⟩
 ·rw[Hc] at h;have h1:Af hp m i≠none:=fun e=>hi (E7.1 e);split at h
  ·cases hq:Af hp m i with
   |none=>exact h1 hq
   |some b=>rw[hq] at h;cases h
  ·exact h1 h
 ·have e:i ∉ m/\i ∉ x:=by
   refine⟨fun h=>?_,fun h=>?_⟩<;>(rcases hi with hi|hi)
   ·exact hi (hm i (by simp[h])).2
   ·exact (hm i (by simp[h])).1 hi
   ·exact hi (hm i (by simp[h])).2
   ·exact (hm i (by simp[h])).1 hi
  rw[Hc,Hc,Br e.2,Br e.2,Cg,Cg,Br e.1,Br e.1];exact⟨rfl,rfl⟩
 ·rw[Hc,Hc,Cg,Cg,hi]
 ·rw[Hc,Cg,Br (fun h=>hn (hm i (by simp[h])).2),Br (fun h=>hn (hm i (by simp[h])).2)]
theorem Acf(hn:Rel none none){C:G3}{call:Aq}{f:FuncId}{c:Call}{K:St->Option R}{K':St->Option R'}{S:Nat->Prop}(On:c.args.toList.map (Cp tm)=c.args.toList.map (Cp tm'))(hS:∀i,S i->hp i=Fb i\/(hp i=none/\∀b,Rel none b))(hp_:∀p∈c.args.toList.map (Cp tm'),∀i∈Ci p,S i)(hc:∀p∈c.args.toList.map (Cp tm'),∀i∈Ci p,∀c,Fb i=some (.st c)->∀q∈c,∀k∈At q,S k)(hdd:∀d,o.dst=some d->hp d=Fb d)(hNN:∀i,N<=i->hp i=Fb i)(hK:∀v D1 J7,Tch N S o.dst hp Fb D1 J7->Rel (K ⟨C8 tm o.dst v,D1⟩) (K' ⟨C8 tm' o.dst v,J7⟩)):Rel (IV C P N call ⟨tm,hp⟩ o f c K) (IV C P N call ⟨tm',Fb⟩ o f c K'):=by
 unfold IV;simp only[On];refine SM hn hS hp_ hc fun vs m x l hm=>Ax hn fun hb=>XL hn fun rv ro=>JL hn fun ws bs hbs=>Ax hn fun _=>?_;simp only[E0] at hb;have hN:0<N:=Nat.lt_of_succ_le (Pf hb.1.2);rw[Ac1 hNN hN];by_cases Ald:∃i∈l.flatMap Ih.ids,hp i≠Fb i
 ·obtain⟨i,hi,Hp⟩:=Ald;obtain⟨h1,h2⟩:=hm i (Bx.2 (.inr hi));rcases hS i h2 with h|⟨h,_⟩
  ·exact absurd h Hp
  ·exact absurd h h1
 have hl:∀i∈l.flatMap Ih.ids,hp i≠none/\S i/\hp i=Fb i:=fun i hi=>⟨(hm i (Bx.2 (.inr hi))).1,(hm i (Bx.2 (.inr hi))).2,Classical.byContradiction fun h=>Ald ⟨i,hi,h⟩⟩;have hT0:Tch N S o.dst hp Fb (Yv (Af hp m) x) (Yv (Af Fb m) x):=A2s fun i hi=>hm i (Bx.2 (.inl hi));refine AO hn hT0 hl fun h0 h1 bs' hT Bfo=>?_
 have An1:∀q∈bs++bs',N<=q.1\/o.dst=some q.1:=by
  intro q hq;rcases Bx.1 hq with hq|hq
  ·obtain⟨j,hj⟩:=hbs q hq;cases hd:o.dst with
   |none=>
    rw[hd] at hj;left;rw[hj];exact Nat.le_add_right _ _
   |some d=>
    rw[hd] at hj;change q.1=d+N*j at hj;cases j with
    |zero=>right;rw[hj];simp
    |succ j=>left;rw[hj,Nat.mul_add];omega
  ·obtain⟨k,hk⟩:=Bfo q hq;left;rw[hk];unfold nid;exact Nat.le_mul_of_pos_right _ (by omega)
 have LJ:∀q∈bs++bs',h0 q.1=h1 q.1:=by
  intro q hq;refine hT.same q.1 ?_;rcases An1 q hq with h|h
  ·exact hNN _ h
  ·exact hdd _ h
 rw[VL LJ]
 exact Ax hn fun hb=>hK _ _ _ (QS hT hT An1 fun q hq=>by
  cases hz:hp q.1 with
  |none=>rfl
  |some c=>exact absurd ((LJ q hq).trans ((B3 hb).1 q.1 q.2 hq)) (hT.keep q.1 (by rw[hz];simp)))
theorem N9(hn:Rel none none){C:G3}{call:Aq}{K:St->Option R}{K':St->Option R'}(On:∀x∈o.op.operands.toList,Cp tm x=Cp tm' x)(hS:∀i,Rch o tm' Fb i->hp i=Fb i\/(hp i=none/\∀b,Rel none b))(hdd:∀d,o.dst=some d->hp d=Fb d)(hNN:∀i,N<=i->hp i=Fb i)(hK:∀v D1 J7,Tch N (Rch o tm' Fb) o.dst hp Fb D1 J7->Rel (K ⟨C8 tm o.dst v,D1⟩) (K' ⟨C8 tm' o.dst v,J7⟩)):Rel (YT C P N call ⟨tm,hp⟩ o K) (YT C P N call ⟨tm',Fb⟩ o K'):=by
 unfold YT;have hl:∀x∈o.op.operands.toList,∀i∈Ci (Cp tm' x),Rch o tm' Fb i:=fun x hx i hi=>.inl ⟨x,hx,hi⟩;have Ww:MU o.op=false->∀x∈o.op.operands.toList,∀i∈Ci (Cp tm' x),∀c,Fb i=some (.st c)->∀q∈c,∀k∈At q,Rch o tm' Fb k:=fun ha x hx i hi c hc q hq k hk=>.inr ⟨ha,i,c,⟨x,hx,hi⟩,hc,q,hq,hk⟩;generalize hLd:Rch o tm' Fb=S at *
 generalize hop:o.op=op at *
 split
 ·rename_i t x y;simp only[On x (by simp[Op.operands]),On y (by simp[Op.operands])];refine Ax hn fun hd=>Acs (N:=N) hn hS (fun i hi=>hl x (by simp[Op.operands]) i (N5 hi)) (fun i hi=>hl y (by simp[Op.operands]) i (Ji hi)) fun D1 J7 hh=>?_;have hd':=Option.isNone_iff_eq_none.1 hd;have:=hK .top D1 J7 (by rw[hd'];exact hh)
  rw[hd'] at this;exact this
 ·rename_i c
  have Sw:∀x∈c.args.toList,x∈(Op.call c).operands.toList:=by
   intro x hx;simp only[Op.operands,Call.operands,Array.toList_append,Bx];exact .inr hx
  split
  ·rename_i hc;refine Ea hn fun d hd=>B8 hn fun x _ hx=>B8 hn fun y _ hy=>Gm hn (B8 hn fun _ _ _=>B8 hn fun _ _ _=>?_);subst hy;have hxm:=Sw x (by rw[hx];simp)
   have hym:=Sw y (by rw[hx];simp)
   simp only[On x hxm,On y hym];refine ZX hn hS (hdd d hd) (fun i hi=>hl x hxm i (Ji hi)) (fun i hi=>hl y hym i (Ji hi)) fun v D1 J7 hh=>?_;have:=hK v D1 J7 (by rw[hd];exact hh N)
   rw[hd] at this;exact this
  ·rename_i hc;refine B8 hn fun x _ hx=>B8 hn fun y _ hy=>Gm hn (B8 hn fun _ _ _=>B8 hn fun _ _ _=>?_);subst hy;have hxm:=Sw x (by rw[hx];simp)
   have hym:=Sw y (by rw[hx];simp)
   simp only[On x hxm,On y hym];exact Ahs hn hS (fun i hi=>hl x hxm i (Ji hi)) (fun i hi=>hl y hym i (Ji hi)) hK
  ·rename_i f hcf;refine Acf hn (List.map_congr_left fun x hx=>On x (Sw x hx)) hS (fun p hp i hi=>?_) (fun p hp i hi=>?_) hdd hNN hK
   ·obtain⟨x,hx,rfl⟩:=List.mem_map.1 hp;exact hl x (Sw x hx) i hi
   ·obtain⟨x,hx,rfl⟩:=List.mem_map.1 hp;exact Ww (by simp only[MU,hcf]) x (Sw x hx) i hi
  ·exact hn
 ·exact hn
theorem PF(hn:Rel none none){C:G3}{call:Aq}{K:St->Option R}{K':St->Option R'}(On:∀x∈o.op.operands.toList,Cp tm x=Cp tm' x)(hK:∀v D1,(∀i,hp i≠none->D1 i≠none)->Rel (K ⟨C8 tm o.dst v,D1⟩) (K' ⟨C8 tm' o.dst v,D1⟩)):Rel (YT C P N call ⟨tm,hp⟩ o K) (YT C P N call ⟨tm',hp⟩ o K'):=
 N9 hn On (fun _ _=>.inl rfl) (fun _ _=>rfl) (fun _ _=>rfl) fun v D1 J7 hT=>by
  have:D1=J7:=funext fun i=>hT.same i rfl;subst this;exact hK v D1 hT.keep
end
section
variable {R:Type}{r:R}{C:G3}{P:Program}{N:Nat}{call:Aq}{ops:Array Oper}{o x:Oper}{s:St}{K:St->Option R}
theorem YR{tm:Nat->PV}{hp D1:Nat->Option B7}{tm':Nat->PV}{q:Y7}(hm:Jn P o.op=false)(ht:∀t∈looks ops o,tm t=tm' t)(h:gE C P N call ops o ⟨tm,hp⟩=some q):gE C P N call ops o ⟨tm',D1⟩=some q:=
 EZ (s:=⟨tm,hp⟩) (s':=⟨tm',D1⟩) ht (fun h=>by rw[hm] at h;cases h) h
theorem IH{tm:Nat->PV}{hp:Nat->Option B7}(hm:Jn P o.op=false)(h:Es C P N call ops o ⟨tm,hp⟩ K=some r):
  ∃v nw,gE C P N call ops o ⟨tm,hp⟩=some (v,[],nw)/\Hx N o.dst=true/\Ca hp nw=true/\(∀p∈nw,o.dst=some p.1)/\K ⟨C8 tm o.dst v,Av hp nw⟩=some r:=by
 have hM:X3 C P o.op=false:=by
  cases hh:X3 C P o.op
  ·rfl
  ·rw[FI hh] at hm;cases hm
 rw[Nr (by simp[I7,hM])] at h;cases e:gE C P N call ops o ⟨tm,hp⟩ with
 |none=>rw[e] at h;cases h
 |some q=>
  obtain⟨v,fz,nw⟩:=q;obtain⟨h1,h2⟩:=(Zo e).1 hm;simp only at h1 h2;subst h1;rw[e] at h;obtain⟨hb,h⟩:=Am h;simp only[E0] at hb;exact⟨v,nw,rfl,hb.1,hb.2,h2,h⟩
theorem OJ{tm:Nat->PV}{hp:Nat->Option B7}{v:PV}{nw:List (Nat × B7)}(hm:Jn P o.op=false)(e:gE C P N call ops o ⟨tm,hp⟩=some (v,[],nw))(hd:Hx N o.dst=true)(ha:Ca hp nw=true)(h:K ⟨C8 tm o.dst v,Av hp nw⟩=some r):Es C P N call ops o ⟨tm,hp⟩ K=some r:=by
 have hM:X3 C P o.op=false:=by
  cases hh:X3 C P o.op
  ·rfl
  ·rw[FI hh] at hm;cases hm
 rw[Nr (by simp[I7,hM]),e];show Ar _ _=_;have ha':Ca hp nw=true:=ha;rw[hd,ha'];exact h
theorem Qt{hp:Nat->Option B7}{nw:List (Nat × B7)}(ha:Ca hp nw=true){i:Nat}(hi:∀p∈nw,p.1≠i):Av hp nw i=hp i:=
 (Fi (B3 ha).2).2 i fun b hb=>hi _ hb rfl
theorem Ar6{hp D1:Nat->Option B7}{nw:List (Nat × B7)}(ha:Ca hp nw=true){g:Nat->Option B7}(h1:∀i,(∀p∈nw,p.1≠i)->g i=D1 i)(h2:∀i,(∃p∈nw,p.1=i)->g i=Av hp nw i)(ha':Ca D1 nw=true):g=Av D1 nw:=by
 funext i
 by_cases h:∃p∈nw,p.1=i
 ·rw[h2 i h];obtain⟨⟨j,b⟩,hp,rfl⟩:=h;rw[(Fi (B3 ha).2).1 j b hp,(Fi (B3 ha').2).1 j b hp]
 ·have h':∀p∈nw,p.1≠i:=fun p hp e=>h ⟨p,hp,e⟩;rw[h1 i h',Qt ha' h']
theorem Aw5(ap:FA C P ops x o)(hx:I7 C P ops x s.tm=true)(h:Es C P N call ops x s (fun s1=>Es C P N call ops o s1 K)=some r):Es C P N call ops o s (fun s1=>Es C P N call ops x s1 K)=some r:=by
 have hm:Jn P o.op=false:=ap.mx (by unfold I7 at hx;simp only[E0] at hx;exact hx.1)
 rw[Rs hx] at h;obtain⟨tm,hp⟩:=s;have look:∀v,∀t∈looks ops o,C8 tm x.dst v t=tm t:=fun v=>G0 ap.xo
 have h1:=N9 (P:=P) (N:=N) (o:=x) (tm:=tm) (tm':=tm) (hp:=hp) (Fb:=hp) (K:=fun s1=>Es C P N call ops o s1 K) (K':=fun _=>none)
  (Rel:=fun (a:Option R)(_:Option R)=>a=some r->∃v nw,gE C P N call ops o ⟨tm,hp⟩=some (v,[],nw)/\Hx N o.dst=true/\(∀p∈nw,o.dst=some p.1)/\Ca hp nw=true) (fun h=>by cases h) (fun _ _=>rfl) (fun _ _=>.inl rfl) (fun _ _=>rfl) (fun _ _=>rfl) (fun v D1 _ hT h=>by
   obtain⟨u,nw,hu,hd,ha,hn,_⟩:=IH hm h;refine⟨u,nw,YR hm (look v) hu,hd,hn,Uv ha fun i b hi=>?_⟩;cases hh:hp i with
   |none=>rfl
   |some c=>exact absurd ((B3 ha).1 i b hi) (hT.keep i (by rw[hh];simp))) h
 obtain⟨v,nw,hv,hd,hn,ha⟩:=h1;refine OJ hm hv hd ha ?_;have t2:∀t∈looks ops x,tm t=C8 tm o.dst v t:=fun t ht=>(G0 ap.ox t ht).symm;rw[Rs (by rw[<-N3 t2];exact hx)]
 refine N9 (P:=P) (N:=N) (o:=x) (tm:=tm) (tm':=C8 tm o.dst v) (hp:=hp) (Fb:=Av hp nw) (Rel:=fun (a b:Option R)=>a=some r->b=some r) (fun h=>by cases h) (Id t2) (fun i _=>?_) (fun d hxd=>?_) (fun i hi=>(Qt ha fun p hp e=>by have:=Vc hd (hn p hp);omega).symm) (fun u D1 J7 hT h=>?_) h
 ·by_cases hi:∃p∈nw,p.1=i
  ·obtain⟨⟨j,b⟩,Fb,rfl⟩:=hi;exact .inr ⟨(B3 ha).1 j b Fb,fun _ h=>by cases h⟩
  ·exact .inl (Qt ha fun p hp e=>hi ⟨p,hp,e⟩).symm
 ·refine (Qt ha fun p hp e=>?_).symm;have:=hn p hp;rw[e] at this;exact ap.ne d hxd this
 ·obtain⟨v',nw',Tj,_,ha',_,h'⟩:=IH hm h;have he:=YR (D1:=hp) hm (look u) Tj;rw[hv] at he;simp only[Option.some.injEq,Prod.mk.injEq,true_and] at he;obtain⟨rfl,rfl⟩:=he
  have hh:J7=Av D1 nw:=by
   refine Ar6 ha (fun i hi=>?_) (fun i hi=>?_) ha'
   ·exact (hT.same i (Qt ha hi).symm).symm
   ·obtain⟨⟨j,b⟩,Fb,rfl⟩:=hi;refine (hT.off j (Vc hd (hn _ Fb)) (fun e=>ap.ne j e (hn _ Fb)) (.inr ((B3 ha).1 j b Fb))).2
  rw[hh,<-R3 ap.ne];exact h'
theorem Aza(hw:Has C P o s)(ap:FA C P ops x o)(ho:I7 C P ops o s.tm=true)(h:Es C P N call ops x s (fun s1=>Es C P N call ops o s1 K)=some r):Es C P N call ops o s (fun s1=>Es C P N call ops x s1 K)=some r:=by
 have hm:Jn P x.op=false:=ap.mo (by unfold I7 at ho;simp only[E0] at ho;exact ho.1)
 obtain⟨tm,hp⟩:=s;obtain⟨v,nw,hv,hd,ha,hn,h1⟩:=IH hm h;have t1:∀t∈looks ops o,C8 tm x.dst v t=tm t:=G0 ap.xo;change Es C P N call ops o ⟨C8 tm x.dst v,Av hp nw⟩ K=some r at h1;rw[Rs (by rw[N3 t1];exact ho)] at h1
 rw[Rs ho];have hMo:X3 C P o.op=true:=by unfold I7 at ho;simp only[E0] at ho;exact ho.1
 have Azz:∀i,Rch o tm hp i->hp i≠none:=by
  rintro i (⟨y,hy,hi⟩|⟨hap,id,c,⟨y,hy,hi⟩,hc,p,Fb,hk⟩)
  ·exact hw.1 y hy i hi
  ·exact hw.2 hMo hap y hy id hi c hc p Fb i hk
 refine N9 (P:=P) (N:=N) (o:=o) (tm:=C8 tm x.dst v) (tm':=tm) (hp:=Av hp nw) (Fb:=hp) (Rel:=fun (a b:Option R)=>a=some r->b=some r) (fun h=>by cases h) (Id t1) (fun i hi=>?_) (fun d hod=>?_) (fun i hi=>Qt ha fun p hp e=>by have:=Vc hd (hn p hp);omega) (fun u D1 J7 hT h=>?_) h1
 ·refine .inl (Qt ha fun p D1 e=>Azz i hi ?_);rw[<-e];exact (B3 ha).1 p.1 p.2 D1
 ·refine Qt ha fun p D1 e=>?_;have:=hn p D1;rw[e] at this;exact ap.ne d this hod
 ·have Uf:∀p∈nw,D1 p.1=Av hp nw p.1/\J7 p.1=none:=by
   intro p hp2;have ZW:=(B3 ha).1 p.1 p.2 hp2;have h3:=hT.off p.1 (Vc hd (hn p hp2)) (fun e=>ap.ne p.1 (hn p hp2) e) (.inl fun hL=>Azz _ hL ZW);exact⟨h3.1,h3.2.trans ZW⟩
  have ha':Ca J7 nw=true:=Uv ha fun i b hi=>(Uf (i,b) hi).2;refine OJ hm (YR hm (fun t ht=>(G0 ap.ox t ht).symm) hv) hd ha' ?_
  have hh:D1=Av J7 nw:=by
   refine Ar6 ha (fun i hi=>?_) (fun i hi=>?_) ha'
   ·exact hT.same i (Qt ha hi)
   ·obtain⟨p,hp2,rfl⟩:=hi;exact (Uf p hp2).1
  rw[<-R3 ap.ne,<-hh];exact h
theorem Baq(hw:Has C P o s)(ap:FA C P ops x o)(h:Es C P N call ops x s (fun s1=>Es C P N call ops o s1 K)=some r):Es C P N call ops o s (fun s1=>Es C P N call ops x s1 K)=some r:=by
 cases hx:I7 C P ops x s.tm
 ·cases ho:I7 C P ops o s.tm
  ·exact Ajg hw ap.xo ap.ne ap.ox hx ho h
  ·exact Aza hw ap ho h
 ·exact Aw5 ap hx h
theorem N0(h:Ym P o.op=true):X3 C P o.op=false:=by
 unfold Ym at h;split at h
 ·rename_i ho;rw[ho];rfl
 ·rename_i ho;rw[ho];rfl
 ·cases h
def TJ(P:Program)(ops:Array Oper)(o:Oper)(tm:Nat->PV):Prop:=Ym P o.op=true\/Im ops o tm=some false
theorem EC{tm tm':Nat->PV}(h:∀t∈looks ops o,tm t=tm' t)(hl:TJ P ops o tm):TJ P ops o tm':=by
 rcases hl with hl|hl
 ·exact .inl hl
 ·exact .inr (by rw[<-Ob h];exact hl)
theorem US{tm:Nat->PV}(hl:TJ P ops o tm):I7 C P ops o tm=false:=by
 rcases hl with hl|hl
 ·simp[I7,N0 hl]
 ·simp[I7,hl]
theorem Ai7{q:Y7}(hl:TJ P ops o s.tm)(h:gE C P N call ops o s=some q):q.2.1=[]/\q.2.2=[]:=by
 unfold gE at h;split at h
 ·cases h
 ·rename_i hv
  have hl:Ym P o.op=true:=by
   rcases hl with hl|hl
   ·exact hl
   ·rw[hv] at hl;cases hl
  rw[N0 hl] at h;have h:Aly C P N call o s=some q:=h;unfold Ym at hl;split at hl
  ·rename_i t a ho;unfold Aly QA at h;rw[ho] at h
   have:=XJ (nz:=C.nz N) (P:=P) (f:=rd s.hp) (f':=rd s.hp) (g:=Mh s.hp) (g':=Mh s.hp) (t:=t) (x:=Cp s.tm a) (Rel:=fun (a b:Option Y7)=>∀q,a=some q->q.2.1=[]/\q.2.2=[])
    (K:=fun v=>some (v,[],[])) (K':=fun v=>some (v,[],[])) (fun _ h=>by cases h) (fun _ _=>.inl ⟨rfl,rfl⟩) (fun v q hq=>by cases hq;exact⟨rfl,rfl⟩)
   exact this q h
  ·rename_i src dst y ho;unfold Aly QA at h;rw[ho] at h;simp only at h;unfold RN at h;split at hl
   ·rename_i hd;rw[hd] at h;simp only at h;split at h
    ·obtain⟨_,_,h⟩:=Eg h;obtain⟨_,_,h⟩:=Cw h;cases h;exact⟨rfl,rfl⟩
    ·split at h
     ·exact Uy (f:=Mh s.hp) (f':=Mh s.hp) (K':=fun _ _=>(none:Option Y7)) (Rel:=fun (a _:Option Y7)=>a=some q->q.2.1=[]/\q.2.2=[]) (fun h=>by cases h) (fun _ _=>.inl rfl) (fun n c h=>by
       obtain⟨_,h⟩:=Am h;obtain⟨_,_,h⟩:=Cw h;obtain⟨_,_,h⟩:=Cw h;cases h;exact⟨rfl,rfl⟩) h
     ·exact Uy (f:=Mh s.hp) (f':=Mh s.hp) (K':=fun _ _=>(none:Option Y7)) (Rel:=fun (a _:Option Y7)=>a=some q->q.2.1=[]/\q.2.2=[]) (fun h=>by cases h) (fun _ _=>.inl rfl) (fun n c h=>by
       obtain⟨_,h⟩:=Am h;obtain⟨_,_,h⟩:=Cw h;obtain⟨_,_,h⟩:=Cw h;cases h;exact⟨rfl,rfl⟩) h
     ·cases h
    ·cases h
   ·cases hl
  ·cases hl
 ·cases h;exact⟨rfl,rfl⟩
theorem Alc{tm tm':Nat->PV}{hp:Nat->Option B7}(h:∀t∈looks ops o,tm t=tm' t){i:Nat}(hi:Rch o tm hp i):Rch o tm' hp i:=by
 have he:=Id (ops:=ops) (o:=o) h;rcases hi with⟨y,hy,hi⟩|⟨hap,id,c,⟨y,hy,hi⟩,hc,q⟩
 ·exact .inl ⟨y,hy,by rw[<-he y hy];exact hi⟩
 ·exact .inr ⟨hap,id,c,⟨y,hy,by rw[<-he y hy];exact hi⟩,hc,q⟩
theorem Azf{hp D1:Nat->Option B7}{i:Nat}(h:D1 i=hp i):rd D1 i=rd hp i/\Mh D1 i=Mh hp i:=by unfold rd Mh;rw[h];exact⟨rfl,rfl⟩
theorem IC{tm:Nat->PV}{hp:Nat->Option B7}(hl:TJ P ops o tm)(h:Es C P N call ops o ⟨tm,hp⟩ K=some r):
  ∃v,gE C P N call ops o ⟨tm,hp⟩=some (v,[],[])/\Hx N o.dst=true/\K ⟨C8 tm o.dst v,hp⟩=some r:=by
 rw[Nr (US hl)] at h;cases e:gE C P N call ops o ⟨tm,hp⟩ with
 |none=>rw[e] at h;cases h
 |some q=>
  obtain⟨v,fz,nw⟩:=q;obtain⟨h1,h2⟩:=Ai7 hl e;simp only at h1 h2;subst h1;subst h2;rw[e] at h;obtain⟨hb,h⟩:=Am h;simp only[E0] at hb;exact⟨v,rfl,hb.1,h⟩
theorem OW{tm:Nat->PV}{hp:Nat->Option B7}{v:PV}(hl:TJ P ops o tm)(e:gE C P N call ops o ⟨tm,hp⟩=some (v,[],[]))(hd:Hx N o.dst=true)(h:K ⟨C8 tm o.dst v,hp⟩=some r):Es C P N call ops o ⟨tm,hp⟩ K=some r:=by rw[Nr (US hl),e];show Ar _ _=_;have ha:Ca hp []=true:=rfl;simp only[hd,ha,Bool.and_self];exact h
theorem Axn(hw:Has C P o s)(xo:∀d,x.dst=some d->d ∉ looks ops o)(ne:∀d,x.dst=some d->o.dst≠some d)(ox:∀d,o.dst=some d->d ∉ looks ops x)(hl:TJ P ops o s.tm)(Ay5:∀y∈o.op.operands.toList,∀i∈Ci (Cp s.tm y),¬Rch x s.tm s.hp i)(hx:I7 C P ops x s.tm=true)(h:Es C P N call ops x s (fun s1=>Es C P N call ops o s1 K)=some r):Es C P N call ops o s (fun s1=>Es C P N call ops x s1 K)=some r:=by
 rw[Rs hx] at h;obtain⟨tm,hp⟩:=s;have look:∀v,∀t∈looks ops o,C8 tm x.dst v t=tm t:=fun v=>G0 xo
 have Axw:∀{u:PV} {D1:Nat->Option B7} {q:Y7},(∀y∈o.op.operands.toList,∀i∈Ci (Cp tm y),D1 i=hp i)->gE C P N call ops o ⟨C8 tm x.dst u,D1⟩=some q->gE C P N call ops o ⟨tm,hp⟩=some q:=
  fun hh e=>EZ (s:=⟨C8 tm x.dst _,_⟩) (s':=⟨tm,hp⟩) (look _) (fun _ y hy i hi=>.inl (Azf (hh y hy i hi))) e
 have h1:=N9 (P:=P) (N:=N) (o:=x) (tm:=tm) (tm':=tm) (hp:=hp) (Fb:=hp) (K:=fun s1=>Es C P N call ops o s1 K) (K':=fun _=>none)
  (Rel:=fun (a:Option R)(_:Option R)=>a=some r->∃v,gE C P N call ops o ⟨tm,hp⟩=some (v,[],[])/\Hx N o.dst=true) (fun h=>by cases h) (fun _ _=>rfl) (fun _ _=>.inl rfl) (fun _ _=>rfl) (fun _ _=>rfl) (fun v D1 _ hT h=>by
   obtain⟨u,hu,hd,_⟩:=IC (EC (fun t ht=>(look v t ht).symm) hl) h;exact⟨u,Axw (fun y hy i hi=>hT.far i (Ay5 y hy i hi) (hw.1 y hy i hi)) hu,hd⟩) h
 obtain⟨v,hv,hd⟩:=h1;refine OW hl hv hd ?_;have t2:∀t∈looks ops x,tm t=C8 tm o.dst v t:=fun t ht=>(G0 ox t ht).symm;rw[Rs (by rw[<-N3 t2];exact hx)]
 refine N9 (P:=P) (N:=N) (o:=x) (tm:=tm) (tm':=C8 tm o.dst v) (hp:=hp) (Fb:=hp) (Rel:=fun (a b:Option R)=>a=some r->b=some r) (fun h=>by cases h) (Id t2) (fun _ _=>.inl rfl) (fun _ _=>rfl) (fun _ _=>rfl) (fun u D1 J7 hT h=>?_) h;have e1:D1=J7:=funext fun i=>hT.same i rfl;subst e1;obtain⟨v',Tj,_,h'⟩:=IC (EC (fun t ht=>(look u t ht).symm) hl) h;have he:=Axw (fun y hy i hi=>hT.far i (fun hR=>Ay5 y hy i hi (Alc (fun t ht=>(t2 t ht).symm) hR)) (hw.1 y hy i hi)) Tj;rw[hv] at he;simp only[Option.some.injEq,Prod.mk.injEq,and_true] at he;subst he;rw[<-R3 ne];exact h'
theorem Avq(xo:∀d,x.dst=some d->d ∉ looks ops o)(ne:∀d,x.dst=some d->o.dst≠some d)(ox:∀d,o.dst=some d->d ∉ looks ops x)(hl:TJ P ops x s.tm)(Ay5:∀y∈x.op.operands.toList,∀i∈Ci (Cp s.tm y),¬Rch o s.tm s.hp i)(ho:I7 C P ops o s.tm=true)(h:Es C P N call ops x s (fun s1=>Es C P N call ops o s1 K)=some r):Es C P N call ops o s (fun s1=>Es C P N call ops x s1 K)=some r:=by
 obtain⟨tm,hp⟩:=s;obtain⟨v,hv,hd,h1⟩:=IC hl h;have t1:∀t∈looks ops o,C8 tm x.dst v t=tm t:=G0 xo;rw[Rs (by rw[N3 t1];exact ho)] at h1
 rw[Rs ho];refine N9 (P:=P) (N:=N) (o:=o) (tm:=C8 tm x.dst v) (tm':=tm) (hp:=hp) (Fb:=hp) (Rel:=fun (a b:Option R)=>a=some r->b=some r) (fun h=>by cases h) (Id t1) (fun _ _=>.inl rfl) (fun _ _=>rfl) (fun _ _=>rfl) (fun u D1 J7 hT h=>?_) h1;have e1:D1=J7:=funext fun i=>hT.same i rfl;subst e1;have t2:∀t∈looks ops x,tm t=C8 tm o.dst u t:=fun t ht=>(G0 ox t ht).symm;refine OW (EC t2 hl) (EZ (s:=⟨tm,hp⟩) (s':=⟨C8 tm o.dst u,D1⟩) t2 (fun _ y hy i hi=>?_) hv) hd ?_
 ·have hi:i∈Ci (Cp tm y):=by rw[Id t2 y hy];exact hi
  by_cases hn:hp i=none
  ·exact .inr ⟨Aj8 hn,Oo hn⟩
  ·obtain⟨h3,h4⟩:=Azf (hT.far i (Ay5 y hy i hi) hn);exact .inl ⟨h3.symm,h4.symm⟩
 ·rw[<-R3 ne];exact h
def WJ(P:Program)(x:Oper)(s s1:St):Prop:=(∀t,x.dst≠some t->s1.tm t=s.tm t)/\(∀i,s.hp i≠none->s1.hp i≠none)/\(Jn P x.op=false->∀i,s.hp i≠none->s1.hp i=s.hp i)
theorem Tt{tm:Nat->PV}{d:Option Tmp}{v:PV}{t:Nat}(h:d≠some t):C8 tm d v t=tm t:=by
 cases d with
 |none=>rfl
 |some d=>exact Al _ _ (by rintro rfl;exact h rfl)
theorem RG{K':St->Option R}(h:Es C P N call ops x s K=some r)(hK:∀s1,WJ P x s s1->K s1=some r->K' s1=some r):Es C P N call ops x s K'=some r:=by
 cases hx:I7 C P ops x s.tm
 ·rw[Nr hx] at h ⊢;cases ex:gE C P N call ops x s with
  |none=>rw[ex] at h;cases h
  |some q=>
   rw[ex] at h;obtain⟨hb,h1⟩:=Am h;simp only[E0] at hb;show Ar _ _=_;rw[hb.1,hb.2];refine hK _ ⟨fun t ht=>Tt ht,fun i hi=>Rm hb.2 hi,fun hm i hi=>?_⟩ h1;show Av (Af s.hp q.2.1) q.2.2 i=s.hp i;rw[Hf hb.2 hi,((Zo ex).1 hm).1];simp
 ·rw[Rs hx] at h ⊢
  exact PF (P:=P) (N:=N) (o:=x) (tm:=s.tm) (tm':=s.tm) (hp:=s.hp) (Rel:=fun (a b:Option R)=>a=some r->b=some r) (fun h=>by cases h) (fun _ _=>rfl) (fun v D1 hh h=>hK _ ⟨fun t ht=>Tt ht,hh,fun hm=>by
   have hM:X3 C P x.op=true:=by unfold I7 at hx;simp only[E0] at hx;exact hx.1
   rw[FI hM] at hm;cases hm⟩ h) h
theorem Has.keeps{s1:St}(h:Has C P o s)(ap:FA C P ops x o)(hk:WJ P x s s1):Has C P o s1:=by
 have hop:∀y∈o.op.operands.toList,Cp s1.tm y=Cp s.tm y:=fun y hy=>Id (ops:=ops) (o:=o) (fun t ht=>hk.1 t fun hd=>ap.xo t hd ht) y hy;refine⟨fun y hy i hi=>?_,fun hM hA y hy i hi c hc p hp k hkk=>?_⟩
 ·rw[hop y hy] at hi;exact hk.2.1 i (h.1 y hy i hi)
 ·rw[hop y hy] at hi;have hi0:=h.1 y hy i hi;rw[hk.2.2 (ap.mo hM) i hi0] at hc;exact hk.2.1 k (h.2 hM hA y hy i hi c hc p hp k hkk)
theorem SE:∀(l:List Oper){s:St}{K:St->Option R},Has C P o s->(∀x∈l,FA C P ops x o)->P4 C P N call ops l s (fun s1=>Es C P N call ops o s1 K)=some r->Es C P N call ops o s (fun s1=>P4 C P N call ops l s1 K)=some r
 |[],_,_,_,_,h=>h
 |x::l,s,K,hw,ap,h=>by
  refine Baq hw (ap x (by simp)) ?_;refine RG (K:=fun s1=>P4 C P N call ops l s1 (fun s2=>Es C P N call ops o s2 K)) h fun s1 hk h1=>?_;exact SE l (hw.keeps (ap x (by simp)) hk) (fun y hy=>ap y (Ut _ hy)) h1
theorem Y6:∀(l l':List Oper){s:St}{K:St->Option R},P4 C P N call ops (l++l') s K=P4 C P N call ops l s (fun s1=>P4 C P N call ops l' s1 K)
 |[],_,_,_=>rfl
 |x::l,l',s,K=>by
  show Es C P N call ops x s (fun s1=>P4 C P N call ops (l++l') s1 K)=Es C P N call ops x s (fun s1=>P4 C P N call ops l s1 _)
  congr 1
  funext s1
  exact Y6 l l'
theorem Anp{l l':List Oper}(hw:Has C P o s)(ap:∀x∈l,FA C P ops x o)(h:P4 C P N call ops (l++o::l') s K=some r):Es C P N call ops o s (fun s1=>P4 C P N call ops (l++l') s1 K)=some r:=by rw[Y6] at h;have:=SE l hw ap h;refine RG this fun s1 _ h1=>?_;rw[Y6];exact h1
end
open Go.RowKit
section
variable {R:Type}{r:R}{P:Program}{N:Nat}{w0:World}{X0:J8}{Y:Nat->Prop}{β β':Bt}{s:St}{a:Act}{w w':World}{o:Oper}{ops:Array Oper}{C:G3}{call:Aq}{K:St->Option R}
theorem OH(h:Di N w0 X0 Y β s a w){j d:Nat}(hd:(ops[j]?).bind (·.dst)=some d){v:Value}(ht:s.tm d=.sc v):yielded ops a.tmps j=match v with | .bool b=>some b|_=>none:=by
 have Cq:d<N:=by
  rcases Ik d N with h'|h'
  ·exact h'
  ·rw[h.tmo d h'] at ht;cases ht
 have hv:=h.tms d Cq;rw[ht] at hv;have hv:=JF hv;have Ark:d<a.tmps.size:=by rw[h.tsz];exact Cq
 have he:a.tmps[d]?=some v:=by
  rw[Array.getElem?_eq_getElem Ark];simp[Ark] at hv;rw[hv]
 unfold yielded;rw[hd];simp only[Option.bind_some,he];cases v<;>rfl
theorem DO(h:Di N w0 X0 Y β s a w){G:CK}(Oc:Env P G w0 X0)(Ez:∀f args res,call f args=some res->C6 G P f args res){i:Nat}(hi:ops[i]?=some o)(hk:Es C P N call ops o s K=some r):
  ∃s',K s'=some r/\∀(next:Act->World->Prop) (Q:Exit->Act->World->Prop),(∀a' w' β',Di N w0 X0 Y β' s' a' w'->next a' w')->wpOp P ops Q i next a w:=by
 rw[Aak] at hk
 have hw:∀b,Im ops o s.tm=some b->Region.wanted o (yielded ops a.tmps)=b:=by
  intro b hb;unfold Im at hb;unfold Region.wanted;cases hg:o.guard with
  |none=>rw[hg] at hb;simpa using hb
  |some q=>
   obtain⟨j,want⟩:=q;rw[hg] at hb;simp only at hb ⊢;cases hd:(ops[j]?).bind (·.dst) with
   |none=>rw[hd] at hb;cases hb
   |some d=>
    rw[hd] at hb;simp only at hb;split at hb
    ·rename_i b' ht;rw[OH h hd ht];simp at hb;rw[<-hb];cases b'<;>cases want<;>rfl
    ·rename_i ht;rw[OH h hd ht];simp at hb;rw[hb];rfl
    ·cases hb
 split at hk
 ·cases hk
 ·rename_i hv;obtain⟨s',hs',hn⟩:=Agn h Oc Ez hk;refine⟨s',hs',fun next Q Ask=>?_⟩;unfold wpOp;rw[hi];simp only[hw _ hv,if_true];exact .inl (hn next Q Ask)
 ·rename_i hv;obtain⟨hd,hk⟩:=Am hk;refine⟨_,hk,fun next Q Ask=>?_⟩;unfold wpOp;rw[hi];simp only[hw _ hv];refine Ask _ _ β (h.put hd (Au.sc _) (by simp[Ci,Cy,At]))
theorem Di.known(h:Di N w0 X0 Y β s a w){d:Nat}(hd:s.tm d=.ub):∃b,Di N w0 X0 Y β ⟨Db s.tm d (.sc (.bool b)),s.hp⟩ a w:=by
 have Cq:d<N:=by
  rcases Ik d N with h'|h'
  ·exact h'
  ·rw[h.tmo d h'] at hd;cases hd
 have hu:=h.tms d Cq;rw[hd] at hu;have Lz:Au w (D2 s.hp β Y) .ub (a.tmps.getD d undef):=hu
 obtain⟨b,hv⟩:∃b,a.tmps.getD d undef=.bool b:=by
  generalize a.tmps.getD d undef=x at Lz;cases Lz with
  |ub b=>exact⟨b,rfl⟩
 refine⟨b,⟨h.dfr,h.tsz,fun i hi=>?_,fun i hi=>?_,h.box,h.inj,h.blt,fun i hi=>?_,h.wfB,h.ownd,h.rngB,h.pin,h.stp,h.Yx,h.Ylt,h.fr⟩⟩
 ·show Db s.tm d _ i=_;rw[Al _ _ (by omega)];exact h.tmo i hi
 ·by_cases e:i=d
  ·subst e;show Fn _ _ _ (Db s.tm i _ i) _;rw[An,hv];exact Au.sc _
  ·show Fn _ _ _ (Db s.tm d _ i) _;rw[Al _ _ e];exact h.tms i hi
 ·by_cases e:i=d
  ·subst e;show ∀id∈Ci (Db s.tm i _ i),_;rw[An];simp[Ci,Cy,At]
  ·show ∀id∈Ci (Db s.tm d _ i),_;rw[Al _ _ e];exact h.wfT i hi
theorem WZ{x y:Option R}(h:Wt x y=some r):x=some r/\y=some r:=by
 unfold Wt at h;split at h
 ·rename_i e;exact⟨h,e ▸ h⟩
 ·cases h
theorem Aac(h:Di N w0 X0 Y β s a w){F:St->Option R}(hk:OB ops o s F=some r):∃s',F s'=some r/\Di N w0 X0 Y β s' a w:=by
 unfold OB at hk;split at hk
 ·exact⟨s,hk,h⟩
 ·split at hk
  ·exact⟨s,hk,h⟩
  ·split at hk
   ·rename_i d _ ht;obtain⟨b,hb⟩:=h.known ht;obtain⟨h1,h2⟩:=WZ hk;cases b
    ·exact⟨_,h2,hb⟩
    ·exact⟨_,h1,hb⟩
   ·exact⟨s,hk,h⟩
theorem HH{G:CK}(Oc:Env P G w0 X0)(Ez:∀f args res,call f args=some res->C6 G P f args res){Q:Exit->Act->World->Prop}(hQ:∀s' a' w' β',K s'=some r->Di N w0 X0 Y β' s' a' w'->Q .normal a' w'):
  ∀(l:B2) (os:List Oper),l.length=os.length->(∀(k i:Nat),l[k]?=some i->ops[i]?=os[k]?)->∀{s:St} {a:Act} {w:World} {β:Bt},Di N w0 X0 Y β s a w->JI C P N call ops os s K=some r->wpOps P ops Q l a w
 |[],[],_,_,s,a,w,β,h,hk=>by
  show Q .normal a w;exact hQ s a w β hk h
 |[],_::_,hl,_,_,_,_,_,_,_=>by cases hl
 |_::_,[],hl,_,_,_,_,_,_,_=>by cases hl
 |i::l,o::os,hl,hi,s,a,w,β,h,hk=>by
  rw[wpOps_cons];obtain⟨s1,hk,h⟩:=Aac h hk;obtain⟨s',hs',hn⟩:=DO h Oc Ez (by simpa using hi 0 i rfl) hk;exact hn _ _ fun a' w' β' h'=>HH Oc Ez hQ l os (by simpa using hl) (fun k j hj=>by simpa using hi (k+1) j (by simpa using hj)) h' hs'
theorem Di.drew(h:Di N w0 X0 Y β s a w):Di N w0 X0 Y β s a { w with drawn:=w.drawn+1 }:=by
 have:=h.stepR (d:=none) (v:=.top) (nw:=[]) (val:=undef) (w':={ w with drawn:=w.drawn+1 }) (β':=β) rfl rfl
  ⟨rfl,rfl,rfl,⟨Cs _,fun _ _ _=>rfl,fun _ _=>Io.refl _ _⟩,fun _ _=>rfl,by simp,by simp,by simp,by simp,by simp,.top _,by simp[Ci,Cy,At]⟩
 exact this
theorem YO(h:Di N w0 X0 Y β s a w){G:CK}(Oc:Env P G w0 X0)(Ez:∀f args res,call f args=some res->C6 G P f args res){id:Nat}{Q:Exit->Act->World->Prop}(hk:JI C P N call ops ops.toList s K=some r)(hQ:∀s' a' w' β',K s'=some r->Di N w0 X0 Y β' s' a' w'->Q .normal a' w'):(Code.region id ops false).wp P Q a w:=by
 refine wp_region (HH Oc Ez hQ (List.range ops.size) ops.toList (by simp) (fun k i hi=>?_) h hk);rw[List.getElem?_range] at hi
 ·simp at hi;subst hi;simp
 ·rcases Ik k ops.size with h'|h'
  ·exact h'
  ·rw[List.getElem?_eq_none (by simpa using h')] at hi;cases hi
def Qy(n:Nat)(listed:Array Bool):B2:=(List.range n).filter fun i=> !listed.getD i true
def A08(ops:Array Oper)(listed:Array Bool)(o:Oper):Prop:=∀e∈o.after,Region.binds .any e=true->listed.getD e.on false=true
theorem testBit_or{a b j:Nat}:(a ||| b).testBit j=(a.testBit j||b.testBit j):=Nat.testBit_or a b j
theorem VQ{acc:B2}{j:Nat}:∀(es:List Edge)(v:Nat),(es.foldl (fun s e=>bif Region.binds .any e then s ||| 2 ^ e.on ||| acc.getD e.on 0 else s) v).testBit j=true ->
  v.testBit j=true\/∃e∈es,Region.binds .any e=true/\(j=e.on\/(acc.getD e.on 0).testBit j=true)
 |[],v,h=>.inl h
 |e::es,v,h=>by
  rcases VQ es _ h with h|⟨e',he',h⟩
  ·cases hb:Region.binds .any e<;>simp only[hb] at h
   ·exact .inl h
   ·simp only[cond_true,Nat.testBit_or,Bool.or_eq_true] at h;rcases h with (h|h)|h
    ·exact .inl h
    ·refine .inr ⟨e,by simp,hb,.inl ?_⟩;rw[Nat.testBit_two_pow] at h;exact (of_decide_eq_true h).symm
    ·exact .inr ⟨e,by simp,hb,.inr h⟩
  ·exact .inr ⟨e',by simp[he'],h⟩
theorem Wo{listed:Array Bool}(hc:∀(j:Nat) oj,ops[j]?=some oj->listed.getD j false=true->A08 ops listed oj):
  ∀(rest done:List Oper) (acc:B2),ops.toList=done++rest->acc.length=done.length ->
   (∀(k:Nat) o,done[k]?=some o->A08 ops listed o->∀j,(acc.getD k 0).testBit j=true->listed.getD j false=true) ->
   ∀(k:Nat) o,ops[k]?=some o->A08 ops listed o->∀j,((Jt rest acc).getD k 0).testBit j=true->listed.getD j false=true
 |[],done,acc,he,_,h,k,o,ho,hf,j,hj=>by
  refine h k o ?_ hf j hj;rw[List.append_nil] at he;rw[<-he]
  simpa using ho
 |o'::rest,done,acc,he,hl,h,k,o,ho,hf,j,hj=>by
  refine Wo hc rest (done++[o']) _ (by rw[he];simp) (by simp[hl]) ?_ k o ho hf j hj
  intro k o ho hf j hj;rcases Nat.lt_trichotomy k done.length with Cq|heq|hgt
  ·rw[List.getElem?_append_left Cq] at ho;rw[List.getD_eq_getElem?_getD,List.getElem?_append_left (by omega),<-List.getD_eq_getElem?_getD] at hj;exact h k o ho hf j hj
  ·subst heq;simp at ho;subst ho;rw[<-hl] at hj;simp only[List.getD_eq_getElem?_getD,List.getElem?_append_right (Cs _),Nat.sub_self,List.getElem?_cons_zero,Option.getD_some] at hj
   have hj:(o'.after.toList.foldl (fun s e=>bif Region.binds .any e then s ||| 2 ^ e.on ||| acc.getD e.on 0 else s) 0).testBit j=true:=by
    simpa only[List.getD_eq_getElem?_getD] using hj
   rcases VQ _ _ hj with h0|⟨e,hm,hb,h1⟩
   ·simp at h0
   ·have QF:=hf e (by simpa using hm) hb;rcases h1 with h1|h1
    ·rw[h1];exact QF
    ·cases hd:done[e.on]? with
     |none=>
      have:acc.getD e.on 0=0:=by
       rw[List.getD_eq_getElem?_getD,List.getElem?_eq_none (by rw[hl];exact List.getElem?_eq_none_iff.1 hd)]
       rfl
      rw[this] at h1;simp at h1
     |some oe=>
      have hoe:ops[e.on]?=some oe:=by
       rw[<-Array.getElem?_toList,he,List.getElem?_append_left (by
        rcases Ik e.on done.length with h'|h'
        ·exact h'
        ·rw[List.getElem?_eq_none h'] at hd;cases hd)]
       exact hd
      exact h e.on oe hd (hc e.on oe hoe QF) j h1
  ·rw[List.getElem?_eq_none (by simp;omega)] at ho
   cases ho
theorem GC{bs:B2}:∀(l:List Oper)(n:Nat),NO C P ops bs l n=true->∀(k:Nat) o,l[k]?=some o->∀(j:Nat) x,ops[j]?=some x->j<n+k->QZ C P ops x o=true->(bs.getD (n+k) 0).testBit j=true
 |[],_,_,k,o,ho,_,_,_,_,_=>by simp at ho
 |o'::l,n,h,k,o,ho,j,x,hx,hj,Se=>by
  simp only[NO,E0] at h;cases k with
  |zero=>
   simp at ho;subst ho
   have:=List.all_eq_true.1 h.1 (x,j) (by
    rw[List.mem_zipIdx_iff_getElem?]
    simpa using hx)
   simp only[Se,G9,Bool.or_false,Bool.or_eq_true,Bool.not_eq_true'] at this;rcases this with h'|h'
   ·have:Nat.blt j n=true:=Nat.ble_eq_true_of_le (by omega);rw[this] at h';cases h'
   ·exact h'
  |succ k=>
   have:=GC l (n+1) h.2 k o (by simpa using ho) j x hx (by omega) Se
   rwa [show n+(k+1)=n+1+k by omega]
theorem Mm{n i:Nat}{listed:Array Bool}:i∈Qy n listed↔i<n/\listed.getD i true=false:=by unfold Qy;simp[List.mem_filter]
theorem DE{n i:Nat}{listed:Array Bool}(hi:i∈Qy n listed)(Tq:listed.size=n):∃l1 l2,Qy n listed=l1++i::l2/\Qy n (listed.setIfInBounds i true)=l1++l2/\∀j∈l1,j<i:=by
 obtain⟨Cq,M2⟩:=Mm.1 hi
 have hr:List.range n=List.range i++i::(List.range (n-i-1)).map (i+1 + ·):=by
  conv=>lhs;rw[show n=i+(1+(n-i-1)) by omega]
  rw[List.range_add,List.range_add];simp[Ps]
 refine⟨(List.range i).filter fun i=> !listed.getD i true,((List.range (n-i-1)).map (i+1 + ·)).filter fun i=> !listed.getD i true,?_,?_,fun j hj=>?_⟩
 ·unfold Qy;rw[hr,List.filter_append,List.filter_cons_of_pos (by rw[M2];rfl)]
 ·unfold Qy;rw[hr,List.filter_append,List.filter_cons_of_neg (by simp[Tq,Cq])]
  congr 1
  ·refine List.filter_congr fun j hj=>?_;rw[getD_set_ne true (by have:=List.mem_range.1 hj;omega)]
  ·refine List.filter_congr fun j hj=>?_;obtain⟨k,_,rfl⟩:=List.mem_map.1 hj;rw[getD_set_ne true (by omega)]
 ·exact List.mem_range.1 (List.mem_filter.1 hj).1
theorem Aqt(h:Di N w0 X0 Y β s a w)(o:Oper):Has C P o s:=by refine⟨fun y _ i hi=>F7 h y i hi,fun _ _ y _ i hi c hc p hp k hk=>h.wfB i c hc p hp k hk⟩
theorem WG(Aqn:(ops.toList.zipIdx.all fun q=>q.1.after.toList.all fun e=> !Region.binds .any e||Nat.blt e.on q.2)=true){listed:Array Bool}(inv:HeadInv .any ops ops.size listed)(hr:Region.ready .any ops listed=[]):Qy ops.size listed=[]:=by
 cases hp:Qy ops.size listed with
 |nil=>rfl
 |cons i l=>
  exfalso;have hi:i∈Qy ops.size listed:=by rw[hp];simp
  obtain⟨Cq,M2⟩:=Mm.1 hi;obtain⟨l1,l2,h1,_,h3⟩:=DE hi inv.size
  have QF:l1=[]:=by
   cases l1 with
   |nil=>rfl
   |cons j l1=>
    rw[hp] at h1;simp at h1;have:=h3 j (by simp);omega
  subst QF
  have Bd9:∀j,j<i->listed.getD j false=true:=by
   intro j hj;cases hh:listed.getD j false with
   |true=>rfl
   |false=>
    have:j∈Qy ops.size listed:=Mm.2 ⟨by omega,getD_in (by rw[inv.size];omega) hh⟩
    have hs:(Qy ops.size listed).Pairwise (· < ·):=List.Pairwise.filter _ List.pairwise_lt_range;rw[h1] at this hs;simp at this;rcases this with e|e
    ·omega
    ·have:=(List.pairwise_cons.1 hs).1 j e;omega
  have:i∈Region.ready .any ops listed:=by
   refine mem_ready.2 ⟨M2,ops[i],Array.getElem?_eq_getElem Cq,fun e he hb=>Bd9 _ ?_⟩
   have:=List.all_eq_true.1 Aqn (ops[i],i) (by
    rw[List.mem_zipIdx_iff_getElem?];simp[Cq])
   have:=List.all_eq_true.1 this e (Array.mem_toList_iff.2 he);simp only[hb,G9,Bool.false_or] at this;exact Nat.lt_of_succ_le (Pf this)
  rw[hr] at this;simp at this
theorem Aad{G:CK}(Oc:Env P G w0 X0)(Ez:∀f args res,call f args=some res->C6 G P f args res)(hok:SB C P ops=true){Q:Exit->Act->World->Prop}(hQ:∀s' a' w' β',K s'=some r->Di N w0 X0 Y β' s' a' w'->Q .normal a' w'):
  ∀(fuel:Nat) {listed:Array Bool} {s:St} {a:Act} {w:World} {β:Bt},HeadInv .any ops ops.size listed->(Qy ops.size listed).length=fuel->Di N w0 X0 Y β s a w->P4 C P N call ops ((Qy ops.size listed).filterMap (ops[·]?)) s K=some r->wpAny P .any ops Q fuel listed a w:=by
 unfold SB at hok;simp only[E0] at hok;obtain⟨Aqn,A26⟩:=hok;intro fuel
 induction fuel with
 |zero=>
  intro listed s a w β inv hf h hk;have hp:=List.eq_nil_of_length_eq_zero hf;rw[hp] at hk;refine⟨?_,hQ s a w β hk h⟩;cases hr:Region.ready .any ops listed with
  |nil=>rfl
  |cons i l=>
   exfalso;have hi:i∈Region.ready .any ops listed:=by rw[hr];simp
   obtain⟨M2,o,ho,_⟩:=mem_ready.1 hi;have:i∈Qy ops.size listed:=Mm.2 ⟨(Array.getElem?_eq_some_iff.1 ho).1,M2⟩;rw[hp] at this;simp at this
 |succ fuel ih=>
  intro listed s a w β inv hf h hk;refine⟨fun hr=>?_,fun i hi=>?_⟩
  ·rw[WG Aqn inv hr] at hf;cases hf
  ·obtain⟨M2,o,ho,Sv⟩:=mem_ready.1 hi;have Cq:i<ops.size:=(Array.getElem?_eq_some_iff.1 ho).1;obtain⟨l1,l2,h1,h2,h3⟩:=DE (Mm.2 ⟨Cq,M2⟩) inv.size;rw[h1,List.filterMap_append,List.filterMap_cons_some ho] at hk
   have hap:∀x∈l1.filterMap (ops[·]?),FA C P ops x o:=by
    intro x hx;obtain⟨j,hj,hxj⟩:=List.mem_filterMap.1 hx;refine Asm ?_;cases Se:QZ C P ops x o with
    |false=>rfl
    |true=>
     exfalso;have TU:=GC ops.toList 0 A26 i o (by simpa using ho) j x hxj (by have:=h3 j hj;omega) Se
     rw[Ip] at TU;have hjl:=Wo (listed:=listed) (fun j oj hj hl=>inv.closed j oj hj hl) ops.toList [] [] (by simp) rfl (by simp) i o ho Sv j TU;have:j∈Qy ops.size listed:=by rw[h1];simp[hj]
     have:=getD_both (Mm.1 this).2;rw[hjl] at this;cases this
   obtain⟨s',hs',hn⟩:=DO h Oc Ez ho (Anp (Aqt h o) hap hk);refine hn _ _ fun a' w' β' h'=>ih (inv.set hi Cq) ?_ h' ?_
   ·rw[h2];rw[h1] at hf;simp at hf ⊢;omega
   ·rw[h2,List.filterMap_append];exact hs'
theorem JX(h:Di N w0 X0 Y β s a w){G:CK}(Oc:Env P G w0 X0)(Ez:∀f args res,call f args=some res->C6 G P f args res)(hm:P.follows .mixedOrders=true)(hok:SB C P ops=true){Q:Exit->Act->World->Prop}(hk:P4 C P N call ops ops.toList s K=some r)(hQ:∀s' a' w' β',K s'=some r->Di N w0 X0 Y β' s' a' w'->Q .normal a' w'):wpAny P .any ops Q ops.size (Array.replicate ops.size false) a { w with drawn:=w.drawn+1 }:=by
 have hp:Qy ops.size (Array.replicate ops.size false)=List.range ops.size:=by
  unfold Qy;refine List.filter_eq_self.2 fun i hi=>?_;have:=List.mem_range.1 hi;simp[this]
 refine Aad (C:=C) Oc Ez hok hQ ops.size ⟨by simp,fun j oj _ hl=>(by rw[getD_replicate_false] at hl;cases hl),fun t ht ht'=>by omega⟩ (by rw[hp];simp) h.drew ?_
 rw[hp]
 have:(List.range ops.size).filterMap (ops[·]?)=ops.toList:=by
  refine List.ext_getElem? fun k=>?_
  have:∀(n:Nat),n<=ops.size->(List.range n).filterMap (ops[·]?)=ops.toList.take n:=by
   intro n
   induction n with
   |zero=>intro _;rfl
   |succ n ih=>
    intro hn;rw[List.range_succ,List.filterMap_append,ih (by omega),List.take_add_one]
    congr 1
    have:ops[n]?=some ops[n]:=Array.getElem?_eq_getElem (by omega);simp[this]
  rw[this ops.size (Cs _)]
  congr 1
  exact H5 (by simp)
 rw[this];exact hk
theorem XW(h:Di N w0 X0 Y β s a w){G:CK}(Oc:Env P G w0 X0)(Ez:∀f args res,call f args=some res->C6 G P f args res)(hm:P.follows .mixedOrders=true)(hok:SB C P ops=true){id:Nat}{Q:Exit->Act->World->Prop}(hk:P4 C P N call ops ops.toList s K=some r)(hQ:∀s' a' w' β',K s'=some r->Di N w0 X0 Y β' s' a' w'->Q .normal a' w'):(Code.region id ops true).wp P Q a w:=
 wp_region_any hm (JX h Oc Ez hm hok hk hQ)
end
end
section
open Go.RowKit
section
variable {R R':Type}{Rel:Option R->Option R'->Prop}{P:Program}{N:Nat}{tm tm':Nat->PV}{hp Fb:Nat->Option B7}{o:Oper}
end
section
variable {R R':Type}{r:R}{r':R'}{C:G3}{P:Program}{N:Nat}{call:Aq}{ops:Array Oper}{o x:Oper}{s s1 s2:St}{K:St->Option R}
theorem Zv{tm:Nat->PV}(h:I7 C P ops o tm=true):X3 C P o.op=true:=by unfold I7 at h;simp only[E0] at h;exact h.1
theorem EG(h:Es C P N call ops x s K=some r):∃s1,Es C P N call ops x s some=some s1/\WJ P x s s1/\(Ym P x.op=true->s1.hp=s.hp)/\K s1=some r:=by
 cases hx:I7 C P ops x s.tm
 ·rw[Nr hx] at h ⊢;cases ex:gE C P N call ops x s with
  |none=>rw[ex] at h;cases h
  |some q=>
   rw[ex] at h;obtain⟨hb,h1⟩:=Am h;simp only[E0] at hb;refine⟨_,?_,⟨fun t ht=>Tt ht,fun i hi=>Rm hb.2 hi,fun hm i hi=>?_⟩,fun hl=>?_,h1⟩
   ·show Ar _ _=_;rw[hb.1,hb.2];rfl
   ·show Av (Af s.hp q.2.1) q.2.2 i=s.hp i;rw[Hf hb.2 hi,((Zo ex).1 hm).1];simp
   ·show Av (Af s.hp q.2.1) q.2.2=s.hp;obtain⟨h1,h2⟩:=Ai7 (.inl hl) ex;rw[h1,h2]
    funext i
    show Af s.hp [] i=_;rw[Cg];simp
 ·rw[Rs hx] at h ⊢
  exact PF (P:=P) (N:=N) (o:=x) (tm:=s.tm) (tm':=s.tm) (hp:=s.hp) (K':=some) (Rel:=fun (a:Option R) (b:Option St)=>a=some r->∃s1,b=some s1/\WJ P x s s1/\(Ym P x.op=true->s1.hp=s.hp)/\K s1=some r) (fun h=>by cases h) (fun _ _=>rfl) (fun v D1 hh h=>⟨_,rfl,⟨fun t ht=>Tt ht,hh,fun hm=>(by
   rw[FI (Zv hx)] at hm;cases hm)⟩,fun hl=>(by
   have:=Zv hx;rw[N0 hl] at this;cases this),h⟩) h
theorem VU{K':St->Option R'}(h:Es C P N call ops x s some=some s1)(hk:K' s1=some r'):Es C P N call ops x s K'=some r':=by
 cases hx:I7 C P ops x s.tm
 ·rw[Nr hx] at h ⊢;cases ex:gE C P N call ops x s with
  |none=>rw[ex] at h;cases h
  |some q=>
   rw[ex] at h;obtain⟨hb,h1⟩:=Am h;show Ar _ _=_;rw[hb];cases h1;exact hk
 ·rw[Rs hx] at h ⊢;exact PF (P:=P) (N:=N) (o:=x) (tm:=s.tm) (tm':=s.tm) (hp:=s.hp) (K:=some) (Rel:=fun (a:Option St) (b:Option R')=>a=some s1->b=some r') (fun h=>by cases h) (fun _ _=>rfl) (fun v D1 hh h=>by cases h;exact hk) h
theorem Aaj(hM:X3 C P o.op=true){i:Nat}(h:Rch o s.tm s.hp i):i∈P3 C P s o:=by
 unfold P3;rw[hM];cases hA:MU o.op
 ·simp only[Kd,Bool.and_self,cond_true,Bx];rcases h with⟨y,hy,hi⟩|⟨_,id,c,⟨y,hy,hi⟩,hc,p,hp,hk⟩
  ·exact .inl (List.mem_flatMap.2 ⟨y,hy,hi⟩)
  ·refine .inr (List.mem_flatMap.2 ⟨id,List.mem_flatMap.2 ⟨y,hy,hi⟩,?_⟩);rw[hc];exact List.mem_flatMap.2 ⟨p,hp,hk⟩
 ·simp only[G9,Bool.and_false,cond_false,Bool.or_true,cond_true];rcases h with⟨y,hy,hi⟩|⟨hn,_⟩
  ·exact List.mem_flatMap.2 ⟨y,hy,hi⟩
  ·rw[hA] at hn;cases hn
theorem Aag(hl:X3 C P o.op=true\/Ym P o.op=true){y:Operand}(hy:y∈o.op.operands.toList){i:Nat}(h:i∈Ci (Cp s.tm y)):i∈P3 C P s o:=by
 rcases hl with hM|hl
 ·exact Aaj hM (.inl ⟨y,hy,h⟩)
 ·unfold P3;rw[N0 hl,hl];exact List.mem_flatMap.2 ⟨y,hy,h⟩
theorem Ab1(ht:∀t∈looks ops o,s1.tm t=s.tm t)(hh:X3 C P o.op=true->MU o.op=false->∀y∈o.op.operands.toList,∀i∈Ci (Cp s.tm y),s1.hp i=s.hp i):P3 C P s1 o=P3 C P s o:=by
 have he:=Id (ops:=ops) (o:=o) ht
 have hl:(o.op.operands.toList.flatMap fun y=>Ci (Cp s1.tm y))=o.op.operands.toList.flatMap fun y=>Ci (Cp s.tm y):=by
  have A2c:∀l:List Operand,(∀y∈l,Cp s1.tm y=Cp s.tm y)->(l.flatMap fun y=>Ci (Cp s1.tm y))=l.flatMap fun y=>Ci (Cp s.tm y):=by
   intro l
   induction l with
   |nil=>intro _;rfl
   |cons a l ih=>intro h;simp only[K8];rw[h a (by simp),ih fun y hy=>h y (by simp[hy])]
  exact A2c _ he
 unfold P3;simp only[hl];cases hM:(X3 C P o.op && !MU o.op)
 ·rfl
 ·simp only[cond_true];simp only[E0,Bool.not_eq_true'] at hM
  congr 1
  have A2c:∀l:B2,(∀i∈l,s1.hp i=s.hp i)->(l.flatMap fun i=>match s1.hp i with|some (.st c)=>c.flatMap At|_=>[])=l.flatMap fun i=>match s.hp i with|some (.st c)=>c.flatMap At|_=>[]:=by
   intro l
   induction l with
   |nil=>intro _;rfl
   |cons a l ih=>intro h;simp only[K8];rw[h a (by simp),ih fun y hy=>h y (by simp[hy])]
  exact A2c _ fun i hi=>by
   obtain⟨y,hy,hi⟩:=List.mem_flatMap.1 hi;exact hh hM.1 hM.2 y hy i hi
theorem PG{a b:B2}(h:Am7 a b=true){i:Nat}(ha:i∈a)(hb:i∈b):False:=by have:=List.all_eq_true.1 h i ha;have h2:b.any (Nat.beq i)=true:=List.any_eq_true.2 ⟨i,hb,Qq i⟩;rw[h2] at this;cases this
theorem Aml{a b:B2}(h:Am7 a b=true):Am7 b a=true:=by
 refine List.all_eq_true.2 fun i hi=>?_;cases hc:a.any (Nat.beq i)
 ·rfl
 ·obtain⟨j,hj,e⟩:=List.any_eq_true.1 hc;rw[Dc e] at hi;exact (PG h hj hi).elim
theorem DK:Nb C P x o=Nb C P o x:=by unfold Nb;cases X3 C P x.op<;>cases X3 C P o.op<;>cases Ym P x.op<;>cases Ym P o.op<;>cases MU x.op<;>cases MU o.op<;>rfl
structure Pt(C:G3)(P:Program)(ops:Array Oper)(x o:Oper):Prop where
 xo:∀d,x.dst=some d->d ∉ looks ops o
 ne:∀d,x.dst=some d->o.dst≠some d
 ox:∀d,o.dst=some d->d ∉ looks ops x
 me:Vq C P x o=false\/Nb C P x o=true
theorem Anr(h:Ase C P ops x o=false):Pt C P ops x o:=by
 unfold Ase at h;simp only[Bool.or_eq_false_iff] at h;obtain⟨h1,h2⟩:=h;have hT:=h1;unfold Aun at h1;simp only[Bool.or_eq_false_iff] at h1
 have a1:QZ C P ops x o=false\/Vq C P x o=true:=by
  cases hc:Vq C P x o
  ·left;unfold QZ;unfold Vq at hc;simp only[Bool.or_eq_false_iff] at hc ⊢;exact⟨⟨⟨h1.1,h1.2⟩,hc.1⟩,hc.2⟩
  ·exact .inr rfl
 refine⟨fun d hd=>?_,fun d hd he=>?_,fun d hd=>?_,?_⟩
 ·have:=h1.1;simp only[hd,Bool.or_eq_false_iff] at this;exact Wi this.1
 ·have:=h1.1;simp only[hd,he,Bool.or_eq_false_iff] at this;rw[Qq] at this;cases this.2
 ·have:=h1.2;simp only[hd] at this;exact Wi this
 ·cases hc:Vq C P x o
  ·exact .inl rfl
  ·rw[hc] at h2;right
   simpa using h2
theorem Pt.apart(ap:Pt C P ops x o)(h:Vq C P x o=false):FA C P ops x o:=by
 unfold Vq at h;simp only[Bool.or_eq_false_iff,Bool.and_eq_false_iff] at h;refine⟨ap.xo,ap.ne,ap.ox,fun hm=>?_,fun hm=>?_⟩
 ·rcases h.1 with h|h
  ·rw[hm] at h;cases h
  ·exact h
 ·rcases h.2 with h|h
  ·rw[hm] at h;cases h
  ·exact h
theorem Pt.same(ap:Pt C P ops x o)(hk:WJ P x s s1)(hl:Ym P x.op=true->s1.hp=s.hp)(hM:X3 C P o.op=true)(hA:MU o.op=false){i:Nat}(hi:s.hp i≠none):s1.hp i=s.hp i:=by
 rcases ap.me with h|h
 ·exact hk.2.2 ((ap.apart h).mo hM) i hi
 ·unfold Nb at h;simp only[Bool.and_false,Bool.or_false,Bool.or_eq_true,E0] at h;rcases h with h|h
  ·have:=h.2;rw[N0 (C:=C) (P:=P) this] at hM;cases hM
  ·rw[hl h.2]
theorem Has.keepsS(h:Has C P o s)(ap:Pt C P ops x o)(hk:WJ P x s s1)(hl:Ym P x.op=true->s1.hp=s.hp):Has C P o s1:=by
 have hop:∀y∈o.op.operands.toList,Cp s1.tm y=Cp s.tm y:=fun y hy=>Id (ops:=ops) (o:=o) (fun t ht=>hk.1 t fun hd=>ap.xo t hd ht) y hy;refine⟨fun y hy i hi=>?_,fun hM hA y hy i hi c hc p hp k hkk=>?_⟩
 ·rw[hop y hy] at hi;exact hk.2.1 i (h.1 y hy i hi)
 ·rw[hop y hy] at hi;rw[ap.same hk hl hM hA (h.1 y hy i hi)] at hc;exact hk.2.1 k (h.2 hM hA y hy i hi c hc p hp k hkk)
theorem Pt.symm(ap:Pt C P ops x o):Pt C P ops o x:=by
 refine⟨ap.ox,fun d hd he=>ap.ne d he hd,ap.xo,?_⟩;rcases ap.me with h|h
 ·left;unfold Vq at h ⊢;rw[Bool.or_comm];exact h
 ·right;rw[DK];exact h
theorem A54(hw:Has C P o s)(hwx:Nb C P x o=true->∀i∈P3 C P s x,s.hp i≠none)(ap:Pt C P ops x o)(hd:Nb C P x o=true->Am7 (P3 C P s x) (P3 C P s o)=true)(h:Es C P N call ops x s (fun s1=>Es C P N call ops o s1 K)=some r):Es C P N call ops o s (fun s1=>Es C P N call ops x s1 K)=some r:=by
 rcases ap.me with hm|hm
 ·exact Baq hw (ap.apart hm) h
 ·have hd:=hd hm;have hwx:=hwx hm;cases hx:I7 C P ops x s.tm
  ·cases ho:I7 C P ops o s.tm
   ·exact Ajg hw ap.xo ap.ne ap.ox hx ho h
   ·have hMo:=Zv ho
    have hlx:TJ P ops x s.tm:=by
     cases hl:Ym P x.op
     ·right
      have hMx:X3 C P x.op=true:=by
       unfold Nb at hm;simp only[hl,Bool.and_false,Bool.or_false,Bool.or_eq_true,E0] at hm;exact hm.1
      cases hv:Im ops x s.tm with
      |none=>
       exfalso;rw[Nr hx] at h;unfold gE at h;rw[hv] at h;cases h
      |some b=>
       cases b
       ·rfl
       ·unfold I7 at hx;rw[hMx,hv] at hx;cases hx
     ·exact .inl hl
    refine Avq ap.xo ap.ne ap.ox hlx (fun y hy i hi hR=>?_) ho h;refine PG hd (Aag ?_ hy hi) (Aaj hMo hR);unfold Nb at hm;simp only[Bool.or_eq_true,E0] at hm;rcases hm with hm|hm
    ·exact .inl hm.1
    ·exact .inr hm.2
  ·have hMx:=Zv hx;cases ho:I7 C P ops o s.tm
   ·have hlo:TJ P ops o s.tm:=by
     cases hl:Ym P o.op
     ·right
      have hMo:X3 C P o.op=true:=by
       unfold Nb at hm;simp only[hl,Bool.and_false,Bool.false_or,Bool.or_eq_true,E0] at hm;exact hm.1
      cases hv:Im ops o s.tm with
      |none=>
       exfalso;obtain⟨s1,_,hk,_,h⟩:=EG h;have hv1:Im ops o s1.tm=none:=by rw[Ob (fun t ht=>hk.1 t fun hd=>ap.xo t hd ht)];exact hv
       rw[Nr (by unfold I7;rw[hv1];cases X3 C P o.op<;>rfl)] at h
       unfold gE at h;rw[hv1] at h;cases h
      |some b=>
       cases b
       ·rfl
       ·unfold I7 at ho;rw[hMo,hv] at ho;cases ho
     ·exact .inl hl
    refine Axn hw ap.xo ap.ne ap.ox hlo (fun y hy i hi hR=>?_) hx h;refine PG hd (Aaj hMx hR) (Aag ?_ hy hi);unfold Nb at hm;simp only[Bool.or_eq_true,E0] at hm;rcases hm with hm|hm
    ·exact .inr hm.2
    ·exact .inl hm.1
   ·have hMo:=Zv ho;unfold Nb at hm;simp only[Bool.or_eq_true,E0] at hm;rcases hm with hm|hm
    ·rw[N0 (C:=C) (P:=P) hm.2] at hMo;cases hMo
    ·rw[N0 (C:=C) (P:=P) hm.2] at hMx;cases hMx
theorem Ao2{α:Type}(a b:α)(l:List α)(f:α->Bool):(a::b::l).all f=(b::a::l).all f:=by simp only[List.all_cons];cases f a<;>cases f b<;>rfl
theorem KZ{bs:List B2}:∀(l:B2){dn dn':List (Nat × Oper × B2)} {s:St}{K:St->Option R},(∀f,dn.all f=dn'.all f)->I6 C P N call ops bs dn l s K=I6 C P N call ops bs dn' l s K
 |[],_,_,_,_,_=>rfl
 |i::l,dn,dn',s,K,h=>by
  unfold I6;cases ops[i]? with
  |none=>rfl
  |some o=>
   simp only[Dj,h]
   congr 2
   funext s'
   exact KZ l fun f=>by simp only[List.all_cons,h]
theorem RD{bs:B2}{i:Nat}(hi:ops[i]?=some o):(HM C P ops bs).getD i []=GB C P ops bs i o:=by unfold HM;rw[List.getD_eq_getElem?_getD,List.getElem?_map,List.getElem?_zipIdx,Array.getElem?_toList,hi];simp
theorem Wp{bs:B2}{i j:Nat}:j∈GB C P ops bs i o↔∃x,ops[j]?=some x/\Nb C P x o=true/\(Nat.blt j i&&(bs.getD i 0).testBit j)=false/\(Nat.blt i j&&(bs.getD j 0).testBit i)=false:=by
 unfold GB;simp only[List.mem_map,List.mem_filter,E0,Bool.not_eq_true',Prod.exists];constructor
 ·rintro⟨x,k,⟨hm,⟨h1,h2⟩,h3⟩,rfl⟩
  rw[List.mem_zipIdx_iff_getElem?] at hm;exact⟨x,by simpa using hm,h1,h2,h3⟩
 ·rintro⟨x,hx,h1,h2,h3⟩
  refine⟨x,j,⟨?_,⟨h1,h2⟩,h3⟩,rfl⟩;rw[List.mem_zipIdx_iff_getElem?]
  simpa using hx
theorem NT{sm:List B2}{i j:Nat}(h:j∈sm.getD i []):MS C P sm s i o=P3 C P s o:=by
 unfold MS;split
 ·rename_i e;rw[e] at h;simp at h
 ·rfl
theorem Aq9{sm:List B2}{i:Nat}(h:sm.getD i []≠[]->P3 C P s1 o=P3 C P s o):MS C P sm s1 i o=MS C P sm s i o:=by
 unfold MS;split
 ·rfl
 ·rename_i e;exact h (by rw[e];simp)
theorem Aju{l:B2}{j:Nat}:l.any (Nat.beq j)=true↔j∈l:=by
 constructor
 ·intro h;obtain⟨k,hk,e⟩:=List.any_eq_true.1 h;rw[Dc e];exact hk
 ·intro h;exact List.any_eq_true.2 ⟨j,h,Qq j⟩
theorem GP{bs:B2}{sm:List B2}(hsm:sm=HM C P ops bs){i:Nat}(hi:ops[i]?=some o){l':B2}:∀(l:B2){dn:List (Nat × Oper × B2)} {s:St}{K:St->Option R},Has C P o s ->
  (∀j∈l,j<i/\(bs.getD i 0).testBit j=false/\∀x,ops[j]?=some x->Pt C P ops x o)->I6 C P N call ops sm dn (l++i::l') s K=some r ->
  dn.all (TQ C P sm s i o)=true/\Es C P N call ops o s (fun s1=>I6 C P N call ops sm ((i,o,MS C P sm s i o)::dn) (l++l') s1 K)=some r
 |[],dn,s,K,hw,_,h=>by
  simp only[NL] at h ⊢;unfold I6 at h;rw[hi] at h;simp only[Dj] at h;obtain⟨hb,h⟩:=Am h;simp only[E0] at hb;exact⟨hb.1,h⟩
 |j::l,dn,s,K,hw,hl,h=>by
  simp only[Zzp] at h ⊢;unfold I6 at h;obtain⟨hji,TU,hap⟩:=hl j (by simp);cases hj:ops[j]? with
  |none=>rw[hj] at h;cases h
  |some x=>
   rw[hj] at h;simp only[Dj] at h;obtain⟨hb,h⟩:=Am h;simp only[E0] at hb;have ap:=hap x hj
   have hex:∀k∈MS C P sm s j x,s.hp k≠none:=fun k hk=>by
    have:=List.all_eq_true.1 hb.2 k hk;intro e;rw[e] at this;cases this
   obtain⟨s1,e1,E8,QF,h1⟩:=EG h;obtain⟨ha,h2⟩:=GP hsm hi l (hw.keepsS ap E8 QF) (fun k hk=>hl k (by simp[hk])) h1;have Bc7:P3 C P s1 o=P3 C P s o:=Ab1 (ops:=ops) (fun t ht=>E8.1 t fun hd=>ap.xo t hd ht) fun hM hA y hy k hk=>ap.same E8 QF hM hA (hw.1 y hy k hk);have TE:MS C P sm s1 i o=MS C P sm s i o:=Aq9 fun _=>Bc7;rw[List.all_cons,E0] at ha
   have A63:Nat.blt i j=false:=by
    cases hh:Nat.blt i j
    ·rfl
    ·have:=Pf hh;omega
   have hmi:Nb C P x o=true->j∈sm.getD i []:=fun hs=>by
    rw[hsm,RD hi];exact Wp.2 ⟨x,hj,hs,by rw[TU,Bool.and_false],by rw[A63,SU]⟩
   have hmj:Nb C P x o=true->i∈sm.getD j []:=fun hs=>by
    rw[hsm,RD hj];exact Wp.2 ⟨o,hi,by rw[DK];exact hs,by rw[A63,SU],by rw[TU,Bool.and_false]⟩
   have A0v:Nb C P x o=true->Am7 (MS C P sm s j x) (MS C P sm s i o)=true:=by
    intro hs;have:=ha.1;unfold TQ at this;rw[Aju.2 (hmi hs),TE] at this
    simpa using this
   have hok:∀q,TQ C P sm s1 i o q=TQ C P sm s i o q:=fun q=>by unfold TQ;rw[TE]
   have Sv:dn.all (TQ C P sm s i o)=true:=by
    refine List.all_eq_true.2 fun q hq=>?_;rw[<-hok];exact List.all_eq_true.1 ha.2 q hq
   refine⟨Sv,?_⟩;rw[TE] at h2
   have h3:=A54 hw (fun hs k hk=>hex k (by rw[NT (hmj hs)];exact hk)) ap (fun hs=>by have:=A0v hs;rw[NT (hmj hs),NT (hmi hs)] at this;exact this)
    (VU (K':=fun s1=>Es C P N call ops o s1 (fun s2=>I6 C P N call ops sm ((i,o,MS C P sm s i o)::(j,x,MS C P sm s j x)::dn) (l++l') s2 K)) e1 h2)
   obtain⟨s2,e2,F2,Ww,h4⟩:=EG h3;refine VU e2 ?_
   have UU:MS C P sm s2 j x=MS C P sm s j x:=Aq9 fun Hp=>by
    obtain⟨q,hq⟩:=List.exists_mem_of_ne_nil _ Hp;refine Ab1 (ops:=ops) (fun t ht=>F2.1 t fun hd=>ap.ox t hd ht) fun hM hA y hy k hk=>ap.symm.same F2 Ww hM hA (hex k ?_);rw[NT hq];exact Aag (.inl hM) hy hk
   unfold I6;rw[hj];simp only[Dj]
   have hc:(((i,o,MS C P sm s i o)::dn).all (TQ C P sm s2 j x)&&(MS C P sm s2 j x).all fun k=>(s2.hp k).isSome)=true:=by
    simp only[List.all_cons,E0];refine⟨⟨?_,?_⟩,?_⟩
    ·unfold TQ;simp only[UU];cases hs:(sm.getD j []).any (Nat.beq i)
     ·rfl
     ·have hm:=Aju.1 hs;rw[hsm,RD hj] at hm;obtain⟨o',ho',hso,_⟩:=Wp.1 hm;rw[hi] at ho';cases ho';rw[DK] at hso;rw[Aml (A0v hso)];rfl
    ·refine List.all_eq_true.2 fun q hq=>?_;have:=List.all_eq_true.1 hb.1 q hq;unfold TQ at this ⊢;rw[UU];exact this
    ·rw[UU];refine List.all_eq_true.2 fun k hk=>?_;have:=F2.2.1 k (hex k hk);cases hh:s2.hp k with
     |none=>exact absurd hh this
     |some _=>rfl
   rw[hc,UU];show Es C P N call ops x s2 _=some r
   have:(fun s'=>I6 C P N call ops sm ((j,x,MS C P sm s j x)::(i,o,MS C P sm s i o)::dn) (l++l') s' K)=fun s2=>I6 C P N call ops sm ((i,o,MS C P sm s i o)::(j,x,MS C P sm s j x)::dn) (l++l') s2 K:=by
    funext s'
    exact KZ _ fun f=>Ao2 _ _ _ f
   rw[this];exact h4
end
section
variable {R:Type}{r:R}{P:Program}{N:Nat}{w0:World}{X0:J8}{Y:Nat->Prop}{β β':Bt}{s:St}{a:Act}{w w':World}{o:Oper}{ops:Array Oper}{C:G3}{call:Aq}{K:St->Option R}
theorem CH{bs:B2}:∀(l:List Oper)(n:Nat),GN C P ops bs l n=true->∀(k:Nat) o,l[k]?=some o->∀(j:Nat) x,ops[j]?=some x->j<n+k->Ase C P ops x o=true->(bs.getD (n+k) 0).testBit j=true
 |[],_,_,k,o,ho,_,_,_,_,_=>by simp at ho
 |o'::l,n,h,k,o,ho,j,x,hx,hj,Se=>by
  simp only[GN,E0] at h;cases k with
  |zero=>
   simp at ho;subst ho
   have:=List.all_eq_true.1 h.1 (x,j) (by
    rw[List.mem_zipIdx_iff_getElem?]
    simpa using hx)
   simp only[Se,G9,Bool.or_false,Bool.or_eq_true,Bool.not_eq_true'] at this;rcases this with h'|h'
   ·have:Nat.blt j n=true:=Nat.ble_eq_true_of_le (by omega);rw[this] at h';cases h'
   ·exact h'
  |succ k=>
   have:=CH l (n+1) h.2 k o (by simpa using ho) j x hx (by omega) Se
   rwa [show n+(k+1)=n+1+k by omega]
theorem YY{G:CK}(Oc:Env P G w0 X0)(Ez:∀f args res,call f args=some res->C6 G P f args res)(hok:JC C P ops=true){Q:Exit->Act->World->Prop}(hQ:∀s' a' w' β',K s'=some r->Di N w0 X0 Y β' s' a' w'->Q .normal a' w'):
  ∀(fuel:Nat) {dn:List (Nat × Oper × B2)} {listed:Array Bool} {s:St} {a:Act} {w:World} {β:Bt},HeadInv .any ops ops.size listed->(Qy ops.size listed).length=fuel->Di N w0 X0 Y β s a w->I6 C P N call ops (HM C P ops (Jt ops.toList [])) dn (Qy ops.size listed) s K=some r->wpAny P .any ops Q fuel listed a w:=by
 unfold JC at hok;simp only[E0] at hok;obtain⟨Aqn,A26⟩:=hok;intro fuel
 induction fuel with
 |zero=>
  intro dn listed s a w β inv hf h hk;have hp:=List.eq_nil_of_length_eq_zero hf;rw[hp] at hk;refine⟨?_,hQ s a w β hk h⟩;cases hr:Region.ready .any ops listed with
  |nil=>rfl
  |cons i l=>
   exfalso;have hi:i∈Region.ready .any ops listed:=by rw[hr];simp
   obtain⟨M2,o,ho,_⟩:=mem_ready.1 hi;have:i∈Qy ops.size listed:=Mm.2 ⟨(Array.getElem?_eq_some_iff.1 ho).1,M2⟩;rw[hp] at this;simp at this
 |succ fuel ih=>
  intro dn listed s a w β inv hf h hk;refine⟨fun hr=>?_,fun i hi=>?_⟩
  ·rw[WG Aqn inv hr] at hf;cases hf
  ·obtain⟨M2,o,ho,Sv⟩:=mem_ready.1 hi;have Cq:i<ops.size:=(Array.getElem?_eq_some_iff.1 ho).1;obtain⟨l1,l2,h1,h2,h3⟩:=DE (Mm.2 ⟨Cq,M2⟩) inv.size;rw[h1] at hk
   have hnb:∀j∈l1,((Jt ops.toList []).getD i 0).testBit j=false:=by
    intro j hj;cases TU:((Jt ops.toList []).getD i 0).testBit j with
    |false=>rfl
    |true=>
     exfalso;have hjl:=Wo (listed:=listed) (fun j oj hj hl=>inv.closed j oj hj hl) ops.toList [] [] (by simp) rfl (by simp) i o ho Sv j TU;have:j∈Qy ops.size listed:=by rw[h1];simp[hj]
     have:=getD_both (Mm.1 this).2;rw[hjl] at this;cases this
   have hap:∀j∈l1,j<i/\((Jt ops.toList []).getD i 0).testBit j=false/\∀x,ops[j]?=some x->Pt C P ops x o:=by
    intro j hj;refine⟨h3 j hj,hnb j hj,fun x hxj=>Anr ?_⟩;cases Se:Ase C P ops x o with
    |false=>rfl
    |true=>
     exfalso;have TU:=CH ops.toList 0 A26 i o (by simpa using ho) j x hxj (by have:=h3 j hj;omega) Se
     rw[Ip,hnb j hj] at TU;cases TU
   obtain⟨s',hs',hn⟩:=DO h Oc Ez ho (GP rfl ho l1 (Aqt h o) hap hk).2;refine hn _ _ fun a' w' β' h'=>ih (dn:=(i,o,MS C P (HM C P ops (Jt ops.toList [])) s i o)::dn) (inv.set hi Cq) ?_ h' ?_
   ·rw[h2];rw[h1] at hf;simp at hf ⊢;omega
   ·rw[h2];exact hs'
theorem MD(h:Di N w0 X0 Y β s a w){G:CK}(Oc:Env P G w0 X0)(Ez:∀f args res,call f args=some res->C6 G P f args res)(hm:P.follows .mixedOrders=true)(hok:JC C P ops=true){Q:Exit->Act->World->Prop}(hk:I6 C P N call ops (HM C P ops (Jt ops.toList [])) [] (List.range ops.size) s K=some r)(hQ:∀s' a' w' β',K s'=some r->Di N w0 X0 Y β' s' a' w'->Q .normal a' w'):wpAny P .any ops Q ops.size (Array.replicate ops.size false) a { w with drawn:=w.drawn+1 }:=by
 have hp:Qy ops.size (Array.replicate ops.size false)=List.range ops.size:=by
  unfold Qy;refine List.filter_eq_self.2 fun i hi=>?_;have:=List.mem_range.1 hi;simp[this]
 refine YY (C:=C) (dn:=[]) Oc Ez hok hQ ops.size ⟨by simp,fun j oj _ hl=>(by rw[getD_replicate_false] at hl;cases hl),fun t ht ht'=>by omega⟩ (by rw[hp];simp) h.drew ?_
 rw[hp];exact hk
theorem Aeq(h:Di N w0 X0 Y β s a w){G:CK}(Oc:Env P G w0 X0)(Ez:∀f args res,call f args=some res->C6 G P f args res)(hm:P.follows .mixedOrders=true)(hok:JC C P ops=true){id:Nat}{Q:Exit->Act->World->Prop}(hk:I6 C P N call ops (HM C P ops (Jt ops.toList [])) [] (List.range ops.size) s K=some r)(hQ:∀s' a' w' β',K s'=some r->Di N w0 X0 Y β' s' a' w'->Q .normal a' w'):(Code.region id ops true).wp P Q a w:=
 wp_region_any hm (MD h Oc Ez hm hok hk hQ)
end
open Go.RowKit
section
variable {R:Type}{r:R}{N:Nat}{w0:World}{X0:J8}{Y:Nat->Prop}{β β':Bt}{s:St}{a:Act}{w w':World}
theorem Aro{i:Nat}(hi:i<a.tmps.size):a.put (some i) (a.tmps.getD i undef)=a:=by
 obtain⟨tmps,dfr⟩:=a;change i<tmps.size at hi
 have:tmps.setIfInBounds i (tmps.getD i undef)=tmps:=by
  apply Array.ext_getElem?;intro k;by_cases e:i=k
  ·subst e;simp[hi]
  ·rw[Array.getElem?_setIfInBounds_ne e]
 simp only[Act.put,this]
theorem Akw{A:Nat->Prop}{es:Nat}{v:Value}(h:Au w A (.lst true es 0 []) v):v=.slice none 0 0:=by cases h;rfl
theorem Ajc{id:Nat}(B1:s.hp id=none){v:PV}{val:Value}(hv:Fn w (D2 (Av s.hp [(id,.ar false [])]) (Db β id none) Y) (Db β id none) v val)(hr:∀i∈Ci v,s.hp i≠none\/i=id):
  WO Y β s w v [(id,.ar false [])] val w (Db β id none):=by
 refine⟨rfl,rfl,rfl,Ct.refl _ _,fun j hj=>Al _ _ (by rintro rfl;exact hj B1),?_,?_,?_,?_,?_,hv,?_⟩
 ·intro j bx hm;simp at hm;rw[hm.2];trivial
 ·intro j bx hm;simp at hm;obtain⟨rfl,rfl⟩:=hm;exact .inl ⟨An _ _ _,rfl⟩
 ·intro j bx k q hm hq;simp at hm;obtain⟨rfl,rfl⟩:=hm;rw[An] at hq;cases hq
 ·intro j bx j' bx' k q q' hm M8 _ _;simp at hm M8;rw[hm.1,M8.1]
 ·intro j cells hm;simp at hm
 ·intro j hj;rcases hr j hj with h|rfl
  ·exact .inl h
  ·exact .inr ⟨.ar false [],by simp⟩
theorem UB(h:Di N w0 X0 Y β s a w)(i:Nat):∃β',Di N w0 X0 Y β' (FY N s i) a w:=by
 unfold FY;split
 ·rename_i es ht
  have Cq:i<N:=by
   rcases Ik i N with h'|h'
   ·exact h'
   ·rw[h.tmo i h'] at ht;cases ht
  have hv:=h.tms i Cq;rw[ht] at hv;have hv:=Akw hv;have hd:Hx N (some i)=true:=by simp[Hx,Nat.blt];omega
  have go:∀j,s.hp j=none->∃β',Di N w0 X0 Y β' ⟨Db s.tm i (.view j es 0 0),Db s.hp j (some (.ar false []))⟩ a w:=by
   intro j hn;have:=h.stepR (d:=some i) hd (by simp[Ca,hn]) (Ajc (v:=.view j es 0 0) (val:=.slice none 0 0) hn (.inl ⟨An _ _ _,rfl,rfl,none,rfl⟩) (by simp[Ci,Cy,At]));rw[<-hv,Aro (by rw[h.tsz];exact Cq)] at this
   exact⟨_,this⟩
  cases hn:(s.hp i).isNone
  ·cases hn2:(s.hp (i+N*3000)).isNone
   ·exact⟨β,h⟩
   ·exact go _ (by simpa using hn2)
  ·exact go _ (by simpa using hn)
 ·exact⟨β,h⟩
theorem Di.recell(h:Di N w0 X0 Y β s a w){id:Nat}{c c':Ae}(h0:s.hp id=some (.st c))(hl:c'.length=c.length)(hc:∀(j:Nat) p,c'[j]?=some p->∃q,c[j]?=some q/\(∀v,Cj w (D2 s.hp β Y) β q v->Cj w (D2 s.hp β Y) β p v)/\∀i∈At p,s.hp i≠none):
  Di N w0 X0 Y β ⟨s.tm,Db s.hp id (some (.st c'))⟩ a w:=by
 have Ia:∀i,D3 (Db s.hp id (some (.st c')) i)↔D3 (s.hp i):=by
  intro i;by_cases e:i=id
  ·subst e;rw[An,h0];exact Iff.rfl
  ·rw[Al _ _ e]
 have hX:ZF (Db s.hp id (some (.st c'))) β=ZF s.hp β:=by
  funext b
  apply propext;constructor
  ·rintro⟨i,o,hl,hb⟩;exact⟨i,o,(Ia i).1 hl,hb⟩
  ·rintro⟨i,o,hl,hb⟩;exact⟨i,o,(Ia i).2 hl,hb⟩
 have hA:D2 (Db s.hp id (some (.st c'))) β Y=D2 s.hp β Y:=by
  funext b;unfold D2;rw[hX]
 have Hp:∀i,s.hp i≠none->Db s.hp id (some (.st c')) i≠none:=by
  intro i hi;by_cases e:i=id
  ·subst e;rw[An];simp
  ·rw[Al _ _ e];exact hi
 have A1x:∀i,Db s.hp id (some (.st c')) i≠none->s.hp i≠none:=by
  intro i hi;by_cases e:i=id
  ·subst e;rw[h0];simp
  ·rw[Al _ _ e] at hi;exact hi
 refine⟨h.dfr,h.tsz,h.tmo,?_,?_,?_,?_,?_,?_,?_,?_,fun i hi=>⟨Hp _ (h.pin i hi).1,(h.pin i hi).2⟩,?_,?_,h.Ylt,h.fr⟩
 ·intro i hi;show Fn w (D2 (Db s.hp id _) β Y) β _ _;rw[hA];exact h.tms i hi
 ·intro i b hb;show V3 w (D2 (Db s.hp id _) β Y) β i b;rw[hA];by_cases e:i=id
  ·subst e;change Db s.hp i (some (.st c')) i=some b at hb;rw[An] at hb;cases hb;obtain⟨b,o,h1,h2,h3⟩:=h.box i _ h0;refine⟨b,o,h1,fun j p hj=>?_,fun j hj=>h3 j (by rw[<-hl];exact hj)⟩
   obtain⟨q,hq,hqp,_⟩:=hc j p hj;obtain⟨v,hv,hr⟩:=h2 j q hq;exact⟨v,hv,hqp v hr⟩
  ·change Db s.hp id (some (.st c')) i=some b at hb;rw[Al _ _ e] at hb;exact h.box i b hb
 ·intro i i' b o o' hl N2 hb Jz;exact h.inj i i' b o o' ((Ia i).1 hl) ((Ia i').1 N2) hb Jz
 ·intro i b o hn hb;exact h.blt i b o (A1x i hn) hb
 ·intro i hi j hj;exact Hp j (h.wfT i hi j hj)
 ·intro i cells hb p hp j hj;change Db s.hp id (some (.st c')) i=_ at hb;by_cases e:i=id
  ·subst e;rw[An] at hb;cases hb;obtain⟨k,hk⟩:=List.mem_iff_getElem?.1 hp;obtain⟨_,_,_,hr⟩:=hc k p hk;exact Hp j (hr j hj)
  ·rw[Al _ _ e] at hb;exact Hp j (h.wfB i cells hb p hp j hj)
 ·intro b hb;exact h.ownd b (by rw[<-hX];exact hb)
 ·intro i bx b o hb hlb hβ Cq j hj;change Db s.hp id (some (.st c')) i=some bx at hb;by_cases e:i=id
  ·subst e;rw[An] at hb;cases hb;exact h.rngB i _ b o h0 trivial hβ Cq j (by unfold BR at hj ⊢;simp only[hl] at hj;exact hj)
  ·rw[Al _ _ e] at hb;exact h.rngB i bx b o hb hlb hβ Cq j hj
 ·intro i c1 b o hb hβ Cq;change Db s.hp id (some (.st c')) i=_ at hb;by_cases e:i=id
  ·subst e;exact h.stp i c b o h0 hβ Cq
  ·rw[Al _ _ e] at hb;exact h.stp i c1 b o hb hβ Cq
 ·intro b hY hb;exact h.Yx b hY (by rw[<-hX];exact hb)
theorem TI(h:Di N w0 X0 Y β s a w)(id j:Nat):∃β',Di N w0 X0 Y β' (ZP N id s j) a w:=by
 unfold ZP;split
 ·rename_i c h0;split
  ·rename_i es hj;cases hn:(s.hp (id+N*(j+1))).isNone
   ·exact⟨β,h⟩
   ·have hn:s.hp (id+N*(j+1))=none:=by simpa using hn
    have Hp:id≠id+N*(j+1):=by
     intro e;rw[<-e,h0] at hn;cases hn
    have h1:=h.stepR (d:=none) (v:=.top) (val:=undef) rfl (by simp[Ca,hn]) (Ajc hn (.top _) (by simp[Ci,Cy,At]));change Di N w0 X0 Y (Db β (id+N*(j+1)) none) ⟨s.tm,Db s.hp (id+N*(j+1)) (some (.ar false []))⟩ a w at h1
    have h2:=h1.recell (id:=id) (c:=c) (c':=c.set j (.view (id+N*(j+1)) es 0 0)) (by show Db _ _ _ _=_;rw[Al _ _ Hp];exact h0) (by simp) (by
     intro k p hp;by_cases e:k=j
     ·subst e
      have Cq:k<c.length:=by
       rcases Ik k c.length with h'|h'
       ·exact h'
       ·rw[List.getElem?_eq_none h'] at hj;cases hj
      rw[List.getElem?_set_self Cq] at hp;cases hp;refine⟨_,hj,fun v hv=>.inl ⟨An _ _ _,rfl,rfl,none,Akw hv⟩,fun i hi=>?_⟩;simp[At] at hi;subst hi;show Db _ _ _ _≠none;rw[An];simp
     ·rw[List.getElem?_set_ne (fun h=>e h.symm)] at hp;refine⟨p,hp,fun _ hv=>hv,fun i hi=>?_⟩;have:=h.wfB id c h0 p (List.mem_of_getElem? hp) i hi;show Db _ _ _ _≠none;by_cases e':i=id+N*(j+1)
      ·subst e';rw[An];simp
      ·rw[Al _ _ e'];exact this)
    refine⟨Db β (id+N*(j+1)) none,?_⟩;have e3:Db (Db s.hp (id+N*(j+1)) (some (.ar false []))) id (some (.st (c.set j (.view (id+N*(j+1)) es 0 0))))=Db (Db s.hp id (some (.st (c.set j (.view (id+N*(j+1)) es 0 0))))) (id+N*(j+1)) (some (.ar false [])):=Afo _ _ _ (fun h=>Hp h.symm);change Di N w0 X0 Y (Db β (id+N*(j+1)) none) ⟨s.tm,Db (Db s.hp (id+N*(j+1)) (some (.ar false []))) id (some (.st (c.set j (.view (id+N*(j+1)) es 0 0))))⟩ a w at h2;rw[e3] at h2;exact h2
  ·exact⟨β,h⟩
 ·exact⟨β,h⟩
theorem Tf{f:St->Nat->St}(hf:∀s β,Di N w0 X0 Y β s a w->∀i,∃β',Di N w0 X0 Y β' (f s i) a w):∀(l:B2){s:St}{β:Bt},Di N w0 X0 Y β s a w->∃β',Di N w0 X0 Y β' (l.foldl f s) a w
 |[],_,β,h=>⟨β,h⟩
 |i::l,s,β,h=>by
  obtain⟨β1,h1⟩:=hf s β h i;exact Tf hf l h1
theorem Aaw(h:Di N w0 X0 Y β s a w)(i:Nat):∃β',Di N w0 X0 Y β' (SR N s i) a w:=by
 unfold SR;split
 ·split
  ·exact Tf (fun s β h i=>TI h _ i) _ h
  ·exact⟨β,h⟩
 ·exact⟨β,h⟩
theorem XO:∀{m:List (Nat × Nat)},Et (m.map (·.2))=true->∀{i i' j:Nat},(i,j)∈m->(i',j)∈m->i=i'
 |[],_,_,_,_,h,_=>by simp at h
 |(x,y)::m,hn,i,i',j,h,h'=>by
  simp only[Vv,Et,E0,Bool.not_eq_true'] at hn
  have hy:∀k,(k,y) ∉ m:=by
   intro k hk;exact Wi hn.1 (List.mem_map.2 ⟨(k,y),hk,rfl⟩)
  rcases List.mem_cons.1 h with e|h
  ·cases e;rcases List.mem_cons.1 h' with e|h'
   ·cases e;rfl
   ·exact absurd h' (hy _)
  ·rcases List.mem_cons.1 h' with e|h'
   ·cases e;exact absurd h (hy _)
   ·exact XO hn.2 h h'
theorem JQ:∀{m:List (Nat × Nat)},Et (m.map (·.1))=true->∀{i j j':Nat},(i,j)∈m->(i,j')∈m->j=j'
 |[],_,_,_,_,h,_=>by simp at h
 |(x,y)::m,hn,i,j,j',h,h'=>by
  simp only[Vv,Et,E0,Bool.not_eq_true'] at hn
  have hx:∀k,(x,k) ∉ m:=by
   intro k hk;exact Wi hn.1 (List.mem_map.2 ⟨(x,k),hk,rfl⟩)
  rcases List.mem_cons.1 h with e|h
  ·cases e;rcases List.mem_cons.1 h' with e|h'
   ·cases e;rfl
   ·exact absurd h' (hx _)
  ·rcases List.mem_cons.1 h' with e|h'
   ·cases e;exact absurd h (hx _)
   ·exact JQ hn.2 h h'
theorem Qw{i j:Nat}(h:Nat.beq i j=false):i≠j:=by rintro rfl;rw[Qq] at h;cases h
theorem GT:∀{m:List (Nat × Nat)} {i j:Nat},BQ m i=some j->(i,j)∈m
 |[],_,_,h=>by cases h
 |(x,y)::m,i,j,h=>by
  unfold BQ at h;cases hb:Nat.beq i x<;>rw[hb] at h
  ·exact Ut _ (GT h)
  ·have:=Dc hb;cases h;rw[this];simp
theorem JN{m:List (Nat × Nat)}{hp:Nat->Option B7}:∀{l:List (Nat × Nat)} {j:Nat}{b:B7},Fx (Pg m hp l) j=some b->∃i b0,(i,j)∈l/\hp i=some b0/\b=Ax3 m b0
 |[],_,_,h=>by cases h
 |(x,y)::l,j,b,h=>by
  unfold Pg at h;cases hx:hp x with
  |none=>
   rw[hx] at h;obtain⟨i,b0,h1,h2⟩:=JN h;exact⟨i,b0,Ut _ h1,h2⟩
  |some bx=>
   rw[hx] at h;simp only[Fx] at h;cases hb:Nat.beq j y<;>rw[hb] at h
   ·obtain⟨i,b0,h1,h2⟩:=JN h;exact⟨i,b0,Ut _ h1,h2⟩
   ·have:=Dc hb;subst this;cases h;exact⟨x,bx,by simp,hx,rfl⟩
theorem Rn{m:List (Nat × Nat)}{hp:Nat->Option B7}:∀{l:List (Nat × Nat)} {i j:Nat},(i,j)∈l->hp i≠none->Fx (Pg m hp l) j≠none
 |[],_,_,h,_=>by simp at h
 |(x,y)::l,i,j,h,hi=>by
  unfold Pg;cases hx:hp x with
  |none=>
   rcases List.mem_cons.1 h with e|h
   ·cases e;exact absurd hx hi
   ·exact Rn h hi
  |some bx=>
   simp only[Fx];cases hb:Nat.beq j y
   ·rcases List.mem_cons.1 h with e|h
    ·cases e;exact absurd rfl (Qw hb)
    ·exact Rn h hi
   ·simp
def TV(m:List (Nat × Nat))(j:Nat):Option Nat:=
 match m with
 |[]=>none
 |(x,y)::r=>bif Nat.beq j y then some x else TV r j
theorem Akt:∀{m:List (Nat × Nat)} {i j:Nat},TV m j=some i->(i,j)∈m
 |[],_,_,h=>by cases h
 |(x,y)::m,i,j,h=>by
  unfold TV at h;cases hb:Nat.beq j y<;>rw[hb] at h
  ·exact Ut _ (Akt h)
  ·have:=Dc hb;cases h;rw[this];simp
theorem Ado:∀{m:List (Nat × Nat)} {i j:Nat},(i,j)∈m->∃k,TV m j=some k
 |[],_,_,h=>by simp at h
 |(x,y)::m,i,j,h=>by
  unfold TV;cases hb:Nat.beq j y
  ·rcases List.mem_cons.1 h with e|h
   ·cases e;exact absurd rfl (Qw hb)
   ·exact Ado h
  ·exact⟨x,rfl⟩
theorem ZK{f:Nat->PV}:∀{l:B2}{i:Nat},lk (l.map fun i=>(i,f i)) i=if i∈l then f i else .top
 |[],_=>rfl
 |x::l,i=>by
  simp only[Vv,lk];cases hb:Nat.beq i x
  ·have:=Qw hb;simp only[cond_false,ZK,List.mem_cons,this,false_or]
  ·have:=Dc hb;subst this;simp
theorem VW{m:Nat}:∀{n i:Nat},i∈I1 m n->i<n
 |0,_,h=>by simp[I1] at h
 |n+1,i,h=>by
  simp only[I1,Bx] at h;rcases h with h|h
  ·have:=VW h;omega
  ·cases hb:m.testBit n<;>rw[hb] at h
   ·simp at h
   ·simp at h;omega
theorem YF(h:Di N w0 X0 Y β s a w){m:List (Nat × Nat)}(h1:Et (m.map (·.1))=true)(h2:Et (m.map (·.2))=true){ls:B2}(hls:∀i∈ls,i<N)(hpn:∀i,X0.pn i->(Eb N i,Eb N i)∈m):
  ∃β',Di N w0 X0 Y β' ⟨lk (ls.map fun i=>(i,Agj m (s.tm i))),Fx (Pg m s.hp m)⟩ a w:=by
 refine⟨fun j=>(TV m j).bind β,?_⟩
 have hβ:∀{i j:Nat},(i,j)∈m->(TV m j).bind β=β i:=by
  intro i j hm;obtain⟨k,hk⟩:=Ado hm;rw[hk];have:=XO h2 (Akt hk) hm;subst this;rfl
 have hold:∀{j:Nat} {b:B7},Fx (Pg m s.hp m) j=some b->∃i b0,(i,j)∈m/\s.hp i=some b0/\b=Ax3 m b0/\(TV m j).bind β=β i:=by
  intro j b hb;obtain⟨i,b0,hm,h3,h4⟩:=JN hb;exact⟨i,b0,hm,h3,h4,hβ hm⟩
 have Ia:∀{j:Nat},D3 (Fx (Pg m s.hp m) j)->∃i,(i,j)∈m/\D3 (s.hp i)/\(TV m j).bind β=β i:=by
  intro j hl;cases hb:Fx (Pg m s.hp m) j with
  |none=>rw[hb] at hl;exact hl.elim
  |some b=>
   obtain⟨i,b0,hm,h3,rfl,h5⟩:=hold hb;refine⟨i,hm,?_,h5⟩;rw[hb] at hl;rw[h3];cases b0<;>exact hl
 have hX:∀b,ZF (Fx (Pg m s.hp m)) (fun j=>(TV m j).bind β) b->ZF s.hp β b:=by
  rintro b ⟨j,o,hl,hb⟩
  obtain⟨i,_,N2,e⟩:=Ia hl;exact⟨i,o,N2,by rw[<-e];exact hb⟩
 have hA:∀b,D2 (Fx (Pg m s.hp m)) (fun j=>(TV m j).bind β) Y b->D2 s.hp β Y b:=fun b hb=>hb.imp (hX b) id
 have hC:∀p v,Cj w (D2 s.hp β Y) β p v->Cj w (D2 (Fx (Pg m s.hp m)) (fun j=>(TV m j).bind β) Y) (fun j=>(TV m j).bind β) (Ag0 m p) v:=by
  intro p v hp;cases p with
  |view id es off n=>
   show Cj _ _ _ (match BQ m id with|some j=>.view j es off n|none=>.top) v;cases hj:BQ m id with
   |some j=>
    have e:=hβ (GT hj);rcases hp with⟨e1,e2⟩|⟨b,o,x,cap,e1,e2⟩
    ·exact .inl ⟨by show (TV m j).bind β=none;rw[e];exact e1,e2⟩
    ·exact .inr ⟨b,o,x,cap,by show (TV m j).bind β=_;rw[e];exact e1,e2⟩
   |none=>exact Au.top _
  |ptr id off=>
   show Cj _ _ _ (match BQ m id with|some j=>.ptr j off|none=>.top) v;cases hj:BQ m id with
   |some j=>
    have e:=hβ (GT hj);obtain⟨b,o,e1,e2⟩:=hp;exact⟨b,o,by show (TV m j).bind β=_;rw[e];exact e1,e2⟩
   |none=>exact Au.top _
  |sc v=>exact Au.step (Ct.refl _ _) (fun b _=>hA b) hp
  |lst z es n c=>exact Au.step (Ct.refl _ _) (fun b _=>hA b) hp
  |iptr c off=>exact Cj.step (p:=.iptr c off) (Ct.refl _ _) (fun b _=>hA b) (by simp[At]) hp
  |_=>exact Au.top _
 have hV:∀p v,Fn w (D2 s.hp β Y) β p v->Fn w (D2 (Fx (Pg m s.hp m)) (fun j=>(TV m j).bind β) Y) (fun j=>(TV m j).bind β) (Agj m p) v:=by
  intro p v hp;cases p with
  |agg c=>
   obtain⟨vs,e1,e2⟩:=hp;refine⟨vs,e1,Bj.of_at (by simp;exact e2.len) fun i q u hq hu=>?_⟩
   rw[List.getElem?_map] at hq;cases hc:c[i]? with
   |none=>rw[hc] at hq;cases hq
   |some q0=>
    rw[hc] at hq;cases hq;exact hC _ _ (e2.at_ hc hu)
  |view id es off n=>
   have:=hC (.view id es off n) v hp;change Cj _ _ _ (match BQ m id with|some j=>.view j es off n|none=>.top) v at this;show Fn _ _ _ (match BQ m id with|some j=>.view j es off n|none=>.top) v;cases hj:BQ m id<;>rw[hj] at this<;>exact this
  |ptr id off=>
   have:=hC (.ptr id off) v hp;change Cj _ _ _ (match BQ m id with|some j=>.ptr j off|none=>.top) v at this;show Fn _ _ _ (match BQ m id with|some j=>.ptr j off|none=>.top) v;cases hj:BQ m id<;>rw[hj] at this<;>exact this
  |sc v'=>exact hC (.sc v') v hp
  |lst z es n c=>exact hC (.lst z es n c) v hp
  |iptr c off=>exact hC (.iptr c off) v hp
  |_=>exact Au.top _
 have hrC:∀p i,i∈At (Ag0 m p)->∃k∈At p,(k,i)∈m:=by
  intro p i hi;cases p with
  |view id es off n=>
   change i∈At (match BQ m id with|some j=>.view j es off n|none=>.top) at hi;cases hj:BQ m id<;>rw[hj] at hi
   ·simp[At] at hi
   ·simp[At] at hi;subst hi;exact⟨id,by simp[At],GT hj⟩
  |ptr id off=>
   change i∈At (match BQ m id with|some j=>.ptr j off|none=>.top) at hi;cases hj:BQ m id<;>rw[hj] at hi
   ·simp[At] at hi
   ·simp[At] at hi;subst hi;exact⟨id,by simp[At],GT hj⟩
  |_=>simp[Ag0,At] at hi
 have hrV:∀p i,i∈Ci (Agj m p)->∃k∈Ci p,(k,i)∈m:=by
  intro p i hi;cases p with
  |agg c=>
   simp only[Agj,Ci,Cy,List.mem_flatMap,List.mem_map] at hi;obtain⟨_,⟨q,hq,rfl⟩,hi⟩:=hi;obtain⟨k,hk,hm⟩:=hrC q i hi;exact⟨k,by simp only[Ci,Cy,List.mem_flatMap];exact⟨q,hq,hk⟩,hm⟩
  |view id es off n=>
   refine (hrC (.view id es off n) i ?_).imp fun k hk=>hk;change i∈Ci (match BQ m id with|some j=>.view j es off n|none=>.top) at hi;show i∈At (match BQ m id with|some j=>.view j es off n|none=>.top);cases hj:BQ m id<;>rw[hj] at hi<;>exact hi
  |ptr id off=>
   refine (hrC (.ptr id off) i ?_).imp fun k hk=>hk;change i∈Ci (match BQ m id with|some j=>.ptr j off|none=>.top) at hi;show i∈At (match BQ m id with|some j=>.ptr j off|none=>.top);cases hj:BQ m id<;>rw[hj] at hi<;>exact hi
  |_=>simp[Agj,Ag0,Ci,Cy,At] at hi
 refine⟨h.dfr,h.tsz,?_,?_,?_,?_,?_,?_,?_,?_,?_,?_,?_,?_,h.Ylt,h.fr⟩
 ·intro i hi;show lk _ i=_;rw[ZK,Br (fun hm=>by have:=hls i hm;omega)]
 ·intro i hi;show Fn w _ _ (lk _ i) _;rw[ZK];split
  ·exact hV _ _ (h.tms i hi)
  ·exact Au.top _
 ·intro j b hb;obtain⟨i,b0,hm,h3,rfl,e⟩:=hold hb;have Pm:=h.box i b0 h3;cases b0 with
  |st c=>
   obtain⟨b,o,e1,e2,e3⟩:=Pm;refine⟨b,o,by show (TV m j).bind β=_;rw[e];exact e1,fun k p hp=>?_,fun k hk=>e3 k (by simpa using hk)⟩
   rw[List.getElem?_map] at hp;cases hc:c[k]? with
   |none=>rw[hc] at hp;cases hp
   |some q=>
    rw[hc] at hp;cases hp;obtain⟨v,hv,hr⟩:=e2 k q hc;exact⟨v,hv,hC _ _ hr⟩
  |ar fz c=>
   have:=V3.step' hA Pm;show V3 _ _ _ _ (.ar fz c);rcases this with⟨e1,e2⟩|⟨b,o,e1,e2⟩
   ·exact .inl ⟨by show (TV m j).bind β=_;rw[e];exact e1,e2⟩
   ·exact .inr ⟨b,o,by show (TV m j).bind β=_;rw[e];exact e1,e2⟩
  |mv=>exact trivial
 ·intro j j' b o o' hl N2 hb Jz;obtain⟨i,hm,QF,e⟩:=Ia hl;obtain⟨i',M8,Bgh,e'⟩:=Ia N2;have:=h.inj i i' b o o' QF Bgh (by rw[<-e];exact hb) (by rw[<-e'];exact Jz)
  subst this;exact JQ h1 hm M8
 ·intro j b o hn hb;cases hj:Fx (Pg m s.hp m) j with
  |none=>exact absurd hj hn
  |some bx=>
   obtain⟨i,b0,_,h3,_,e⟩:=hold hj;exact h.blt i b o (by rw[h3];simp) (by rw[<-e];exact hb)
 ·intro i hi j hj;change j∈Ci (lk _ i) at hj;rw[ZK] at hj;split at hj
  ·obtain⟨k,hk,hm⟩:=hrV _ j hj;exact Rn hm (h.wfT i hi k hk)
  ·simp[Ci,Cy,At] at hj
 ·intro j cells hb p hp k hk;obtain⟨i,b0,_,h3,h4,_⟩:=hold hb;cases b0 with
  |st c=>
   cases h4;obtain⟨q,hq,rfl⟩:=List.mem_map.1 hp;obtain⟨k',Pk,hm⟩:=hrC q k hk;exact Rn hm (h.wfB i c h3 q hq k' Pk)
  |ar fz c=>cases h4
  |mv=>cases h4
 ·intro b hb;exact h.ownd b (hX b hb)
 ·intro j bx b o hb hlb hβ1 Cq k hk;obtain⟨i,b0,_,h3,h4,e⟩:=hold hb;subst h4;refine h.rngB i b0 b o h3 ?_ (by rw[<-e];exact hβ1) Cq k ?_
  ·cases b0<;>exact hlb
  ·cases b0 with
   |st c=>simpa [BR,Ax3] using hk
   |ar fz c=>exact hk
   |mv=>exact hk
 ·intro i hi;exact⟨Rn (hpn i hi) (h.pin i hi).1,(hβ (hpn i hi)).trans (h.pin i hi).2⟩
 ·intro j c b o hb hβ1 Cq;obtain⟨i,b0,hm,h3,h4,e⟩:=hold hb;cases b0 with
  |st c0=>
   obtain⟨k,rfl,hk⟩:=h.stp i c0 b o h3 (by rw[<-e];exact hβ1) Cq
   exact⟨k,JQ h1 hm (hpn k hk),hk⟩
  |ar fz c0=>cases h4
  |mv=>cases h4
 ·intro b hY hb;exact h.Yx b hY (hX b hb)
theorem AN{m:List (Nat × Nat)}{q:Nat × Nat}{o n:Nat}(h:q∈m):q∈WF m o n:=by
 unfold WF;split
 ·exact h
 ·exact Bx.2 (.inl h)
theorem Oi{q:Nat × Nat}{new:Nat}:∀{c:Ae}{j:Nat}{m:List (Nat × Nat)},q∈m->q∈Vs N new c j m
 |[],_,_,h=>h
 |p::c,j,m,h=>by
  unfold Vs;split
  ·rename_i e;cases e
  ·rename_i e;cases e;exact Oi (AN h)
  ·rename_i e;cases e;exact Oi h
theorem Ac3{q:Nat × Nat}{m:List (Nat × Nat)}{i:Nat}(h:q∈m):q∈GM N s m i:=by
 unfold GM;split
 ·exact AN h
 ·split
  ·exact h
  ·split
   ·exact Oi (AN h)
   ·exact AN h
 ·exact Oi h
 ·exact h
theorem EO{q:Nat × Nat}:∀{l:B2}{m:List (Nat × Nat)},q∈m->q∈l.foldl (GM N s) m
 |[],_,h=>h
 |_::l,_,h=>EO (l:=l) (Ac3 h)
theorem Vz{q:Nat × Nat}{m:List (Nat × Nat)}(h:q∈m):∀k,q∈Ze N s.hp k m
 |0=>h
 |k+1=>by
  unfold Ze;split
  ·exact Oi (Vz h k)
  ·exact Vz h k
theorem XG:∀{k i:Nat},i<k->s.hp (Eb N i)≠none->(Eb N i,Eb N i)∈Adj N s.hp k
 |0,_,h,_=>by omega
 |k+1,i,h,hn=>by
  unfold Adj;by_cases e:i=k
  ·subst e
   have:(s.hp (Eb N i)).isSome=true:=by
    cases hq:s.hp (Eb N i) with
    |none=>exact absurd hq hn
    |some b=>rfl
   rw[this];simp
  ·have:=XG (k:=k) (i:=i) (by omega) hn;cases (s.hp (Eb N k)).isSome
   ·exact this
   ·exact Bx.2 (.inl this)
theorem LP(h:Di N w0 X0 Y β s a w){L:Nat}{q:Bool}{K:St->Option R}(hk:OO N (I1 L N) q s K=some r):∃β' s',K s'=some r/\Di N w0 X0 Y β' s' a w:=by
 unfold OO at hk;obtain⟨hb,E8⟩:=Am hk;simp only[E0] at hb
 obtain⟨β2,h2⟩:∃β2,Di N w0 X0 Y β2 (bif q then s else (I1 L N).foldl (SR N) ((I1 L N).foldl (FY N) s)) a w:=by
  cases q
  ·obtain⟨β1,h1⟩:=Tf (fun s β h i=>UB h i) (I1 L N) h;obtain⟨β2,h2⟩:=Tf (fun s β h i=>Aaw h i) (I1 L N) h1;exact⟨β2,h2⟩
  ·exact⟨β,h⟩
 obtain⟨β3,h3⟩:=YF h2 hb.1 hb.2 (ls:=I1 L N) (fun i hi=>VW hi) (fun i hi=>EO (Vz (XG (X0.p8 i hi) (h2.pin i hi).1) 8));exact⟨β3,_,E8,h3⟩
theorem Zg(h:Di N w0 X0 Y β s a w){L:Nat}{K:St->Option R}(hk:HG N L s K=some r):∃β' s',K s'=some r/\Di N w0 X0 Y β' s' a w:=LP h hk
theorem Ab3(h:Di N w0 X0 Y β s a w){L:Nat}{K:St->Option R}(hk:Ak4 N L s K=some r):∃β' s',K s'=some r/\Di N w0 X0 Y β' s' a w:=LP h hk
end
open Go.RowKit
section
variable {R:Type}{r:R}{P:Program}{N:Nat}{w0:World}{X0:J8}{Y:Nat->Prop}{C:G3}{call:Aq}
theorem VC{n:Nat}{F:St->Option R}{s:St}(h:FJ n F s=some r):F s=some r:=by
 unfold FJ at h;split at h
 ·cases h
 ·exact h
theorem Aek{β:Bt}{s:St}{a:Act}{w:World}(h:Di N w0 X0 Y β s a w){c:Operand}{kt kf:St->Option R}(hk:Afi s c kt kf=some r):(a.eval c=.bool true/\kt s=some r)\/(a.eval c=.bool false/\kf s=some r):=by
 unfold Afi at hk;split at hk
 ·rename_i d;split at hk
  ·rename_i b ht;have hv:a.eval (.tmp d)=.bool b:=Co h (x:=.tmp d) ht;cases b
   ·change kf ⟨Db s.tm d (.sc (.bool false)),s.hp⟩=some r at hk;rw[HQ s.tm ht] at hk;exact .inr ⟨hv,hk⟩
   ·change kt ⟨Db s.tm d (.sc (.bool true)),s.hp⟩=some r at hk;rw[HQ s.tm ht] at hk;exact .inl ⟨hv,hk⟩
  ·rename_i ht;have hu:=Dr h (.tmp d);change Fn _ _ _ (s.tm d) _ at hu;rw[ht] at hu;have Lz:Au w _ .ub (a.eval (.tmp d)):=hu
   obtain⟨b,hv⟩:∃b,a.eval (.tmp d)=.bool b:=by
    generalize a.eval (.tmp d)=x at Lz;cases Lz with
    |ub b=>exact⟨b,rfl⟩
   obtain⟨h1,h2⟩:=WZ hk;cases b
   ·exact .inr ⟨hv,h2⟩
   ·exact .inl ⟨hv,h1⟩
  ·cases hk
 ·exact .inl ⟨rfl,hk⟩
 ·exact .inr ⟨rfl,hk⟩
 ·cases hk
theorem QR{c:Code}{Q:Exit->Act->World->Prop}{F:(St->Option R)->St->Option R}{nm:St->(St->Option R)->Option R}(TS:∀{β s a w} {K:St->Option R},Di N w0 X0 Y β s a w->nm s K=some r->∃β' s',K s'=some r/\Di N w0 X0 Y β' s' a w)(hF:∀{β s a w} {K:St->Option R}{Q':Act->World->Prop},Di N w0 X0 Y β s a w->F K s=some r->(∀s' a' w' β',K s'=some r->Di N w0 X0 Y β' s' a' w'->Q' a' w')->c.wp P (Exit.then Q' Q) a w):
  ∀(n:Nat) {β s a w},Di N w0 X0 Y β s a w->Aih F nm n s=some r->Code.rounds P c Q n a w
 |0,_,_,_,_,_,hk=>by cases hk
 |n+1,β,s,a,w,h,hk=>by
  rw[rounds_succ];refine hF h hk fun s' a' w' β' Pk h'=>?_;obtain⟨β1,s1,E8,h1⟩:=TS h' Pk;exact QR TS hF n h1 E8
theorem Ags{G:CK}(Oc:Env P G w0 X0)(Ez:∀f args res,call f args=some res->C6 G P f args res)(hm:P.follows .mixedOrders=true){fu:Nat}:
  ∀(c:Code) {ln:Nat} {lx:Nat->Nat} {lr:Nat} {kn:St->Option R} {kx:Nat->St->Option R} {kr:St->Option R} {β:Bt} {s:St} {a:Act} {w:World} {Q:Exit->Act->World->Prop},Di N w0 X0 Y β s a w ->
   M3 C P fu N call c ln lx lr kn kx kr s=some r->(∀s' a' w' β',kn s'=some r->Di N w0 X0 Y β' s' a' w'->Q .normal a' w') ->
   (∀id s' a' w' β',kx id s'=some r->Di N w0 X0 Y β' s' a' w'->Q (.exit id) a' w')->(∀s' a' w' β',kr s'=some r->Di N w0 X0 Y β' s' a' w'->Q .ret a' w')->c.wp P Q a w:=by
 intro c
 induction c with
 |skip=>intro ln lx lr kn kx kr β s a w Q h hk hn hx hr;exact wp_skip (hn s a w β hk h)
 |region id ops draw=>
  intro ln lx lr kn kx kr β s a w Q h hk hn hx hr;unfold M3 at hk;cases draw
  ·simp only[MB,SU,cond_false] at hk;exact YO h Oc Ez hk hn
  ·simp only[MB,Aq5,YD,cond_true] at hk;cases hb:SB C P ops<;>rw[hb] at hk
   ·obtain⟨Jz,E8⟩:=Am (show Ar _ _=some r from hk);exact Aeq h Oc Ez hm Jz E8 hn
   ·exact XW h Oc Ez hm hb hk hn
 |seq c1 c2 ih1 ih2=>
  intro ln lx lr kn kx kr β s a w Q h hk hn hx hr;unfold M3 at hk
  refine wp_seq (ih1 h hk (fun s' a' w' β' Pk h'=>by
    cases hc:Ad7 P c1 c2
    ·rw[hc] at Pk;exact ih2 h' Pk hn hx hr
    ·rw[hc] at Pk;cases hq:Wl c1 c2
     ·rw[hq] at Pk;obtain⟨β1,s1,E8,h1⟩:=Zg h' (show HG _ _ _ _=some r from Pk);exact ih2 h1 (VC E8) hn hx hr
     ·rw[hq] at Pk;obtain⟨β1,s1,E8,h1⟩:=Ab3 h' (show Ak4 _ _ _ _=some r from Pk);exact ih2 h1 (VC E8) hn hx hr) (fun id s' a' w' β' Pk h'=>hx id s' a' w' β' Pk h') (fun s' a' w' β' Pk h'=>hr s' a' w' β' Pk h'))
 |cond c c1 c2 ih1 ih2=>
  intro ln lx lr kn kx kr β s a w Q h hk hn hx hr;unfold M3 at hk;rcases Aek h hk with⟨hc,E8⟩|⟨hc,E8⟩
  ·exact wp_cond_true hc (ih1 h E8 hn hx hr)
  ·exact wp_cond_false hc (ih2 h E8 hn hx hr)
 |block id c ih=>
  intro ln lx lr kn kx kr β s a w Q h hk hn hx hr;unfold M3 at hk;refine wp_block (ih h hk (fun s' a' w' β' Pk h'=>hn s' a' w' β' Pk h') (fun j s' a' w' β' Pk h'=>?_) (fun s' a' w' β' Pk h'=>hr s' a' w' β' Pk h'));show (if j=id then _ else _);by_cases e:j=id
  ·subst e;rw[Cx rfl];rw[Qq] at Pk;exact hn s' a' w' β' Pk h'
  ·rw[Br e]
   have:Nat.beq j id=false:=by
    cases hb:Nat.beq j id
    ·rfl
    ·exact absurd (Dc hb) e
   rw[this] at Pk;exact hx j s' a' w' β' Pk h'
 |loop c ih=>
  intro ln lx lr kn kx kr β s a w Q h hk hn hx hr;unfold M3 at hk;obtain⟨β1,s1,E8,h1⟩:=Zg h hk;refine wp_loop_rounds fu (QR (fun h hk=>Zg h hk) (fun h hk hQ=>?_) fu h1 E8);exact ih h hk hQ (fun id s' a' w' β' Pk h'=>hx id s' a' w' β' Pk h') (fun s' a' w' β' Pk h'=>hr s' a' w' β' Pk h')
 |«exit» id=>intro ln lx lr kn kx kr β s a w Q h hk hn hx hr;exact wp_exit (hx id s a w β hk h)
 |ret=>intro ln lx lr kn kx kr β s a w Q h hk hn hx hr;exact wp_ret (hr s a w β hk h)
 |_=>intro ln lx lr kn kx kr β s a w Q h hk hn hx hr;cases hk
end
open Go.RowKit
theorem Qv:∀{l:List (Nat × B7)} {i:Nat}{b:B7},Fx l i=some b->(i,b)∈l
 |[],_,_,h=>by cases h
 |(j,c)::l,i,b,h=>by
  unfold Fx at h;cases hb:Nat.beq i j<;>rw[hb] at h
  ·exact Ut _ (Qv h)
  ·have:=Dc hb;cases h;rw[this];simp
theorem Aao:∀{l:List (Nat × B7)},(l.map (·.1)).Nodup->∀{i b},(i,b)∈l->Fx l i=some b
 |[],_,_,_,h=>by cases h
 |(j,c)::l,hn,i,b,h=>by
  simp only[Vv,List.nodup_cons] at hn;unfold Fx;rcases List.mem_cons.1 h with e|h
  ·cases e;simp only[Qq,cond_true]
  ·have:Nat.beq i j=false:=by
    cases hb:Nat.beq i j
    ·rfl
    ·exact absurd (Dc hb ▸ List.mem_map.2 ⟨_,h,rfl⟩) hn.1
   simp only[this,cond_false];exact Aao hn.2 h
section
variable {R:Type}{r:R}{P:Program}{N:Nat}{w0:World}{X0:J8}{Y:Nat->Prop}{β β':Bt}{s:St}{a:Act}{w w':World}{A:Nat->Prop}
theorem As6{id:Nat}{t:CT}{p:PV}{K:PV->List (Nat × B7)->Option R}(hk:Auh id t p K=some r):
  (∃c,K c []=some r/\CJ c/\∀w A q u,Hs w A q p u->Au w A c u)\/∃es n cc,p=.own es n cc/\K (.view id es 0 n) [(id,.ar false cc)]=some r:=by
 have tree:∀t',(IB t' p fun c=>K c [])=some r->∃c,K c []=some r/\CJ c/\∀w A q u,Hs w A q p u->Au w A c u:=by
  intro t' hk;obtain⟨c,hk,hT,RQ,hv⟩:=Qs hk;refine⟨c,hk,hT,fun w A q u h=>(hv w A (fun _=>none) u ?_).1⟩;cases p<;>first|exact h|exact RQ.elim
 unfold Auh at hk;cases t with
 |sl es=>
  dsimp only at hk;split at hk
  ·rename_i es' n c;cases hb:Nat.beq es' es<;>rw[hb] at hk
   ·cases hk
   ·have:=Dc hb;subst this;exact .inr ⟨_,_,_,rfl,hk⟩
  ·exact .inl (tree (.sl es) hk)
 |int k=>exact .inl (tree _ hk)
 |bool=>exact .inl (tree _ hk)
 |str=>exact .inl (tree _ hk)
 |any=>exact .inl (tree _ hk)
theorem Vb:∀{ts:List CT}{id:Nat}{ps:Ae}{K:Ae->List (Nat × B7)->Option R},LL N id ts ps K=some r ->
  ∃cs bs,∃qs:List (Nat × Nat),K cs bs=some r/\cs.length=ps.length/\ps.length=ts.length/\bs.map (·.1)=qs.map (·.1)/\(∀q∈qs,∀q'∈qs,q.2=q'.2->q.1=q'.1) /\
   (∀i bx,(i,bx)∈bs->∃c,bx=.ar false c)/\(∀c∈cs,UC c)/\(∀c∈cs,∀i∈At c,∃bx,(i,bx)∈bs) /\
   ∀(w:World) (A:Nat->Prop) (own β':Bt) (j0:Nat) (us:List Value),(∀q∈qs,β' q.1=own (j0+q.2))->F0 w A own j0 ps us->Bj (Cj w A β') cs us/\∀i bx,(i,bx)∈bs->V3 w A β' i bx
 |[],id,ps,K,hk=>by
  obtain⟨rfl,hk⟩:=Em hk;refine⟨[],[],[],hk,rfl,rfl,rfl,by simp,by simp,by simp,by simp,fun w A own β' j0 us _ h=>⟨?_,by simp⟩⟩;cases us with
  |nil=>trivial
  |cons u us=>exact h.elim
 |t::ts,id,ps,K,hk=>by
  unfold LL at hk;obtain⟨p,ps',ME,E8⟩:=Bn hk;subst ME;rcases As6 E8 with⟨c,F2,hT,hv⟩|⟨es,n,cc,rfl,F2⟩
  ·obtain⟨cs,bs,qs,Pp,hl,Ww,hb,Ot,F3,hF,Iy,X5⟩:=Vb F2;refine⟨c::cs,bs,qs.map (fun q=>(q.1,q.2+1)),Pp,by simp[hl],by simp[Ww],by rw[hb];simp,?_,F3,?_,?_,fun w A own β' j0 us hβ ho=>?_⟩
   ·intro q hq q' G2 e;obtain⟨q0,ED,rfl⟩:=List.mem_map.1 hq;obtain⟨q1,Mr,rfl⟩:=List.mem_map.1 G2;exact Ot q0 ED q1 Mr (by simp only at e;omega)
   ·intro y hy;rcases List.mem_cons.1 hy with rfl|hy
    ·exact Wg hT
    ·exact hF y hy
   ·intro y hy i hi;rcases List.mem_cons.1 hy with rfl|hy
    ·rw[Jk hT] at hi;cases hi
    ·exact Iy y hy i hi
   ·cases us with
    |nil=>exact ho.elim
    |cons u us=>
     obtain⟨h1,h2⟩:=X5 w A own β' (j0+1) us (fun q hq=>by rw[hβ _ (List.mem_map_of_mem hq)];congr 1;simp only;omega) ho.2
     exact⟨⟨Aqa (hv w A _ u ho.1),h1⟩,h2⟩
  ·obtain⟨cs,bs,qs,Pp,hl,Ww,hb,Ot,F3,hF,Iy,X5⟩:=Vb F2;refine⟨_::cs,(id,.ar false cc)::bs,(id,0)::qs.map (fun q=>(q.1,q.2+1)),Pp,by simp[hl],by simp[Ww],by simp only[Vv,hb];simp,?_,?_,?_,?_,fun w A own β' j0 us hβ ho=>?_⟩
   ·intro q hq q' G2 e;rcases List.mem_cons.1 hq with rfl|hq
    ·rcases List.mem_cons.1 G2 with rfl|G2
     ·rfl
     ·obtain⟨q0,ED,rfl⟩:=List.mem_map.1 G2;simp only at e;omega
    ·obtain⟨q0,ED,rfl⟩:=List.mem_map.1 hq;rcases List.mem_cons.1 G2 with rfl|G2
     ·simp only at e;omega
     ·obtain⟨q1,Mr,rfl⟩:=List.mem_map.1 G2;exact Ot q0 ED q1 Mr (by simp only at e;omega)
   ·intro i bx hm;rcases List.mem_cons.1 hm with e|hm
    ·cases e;exact⟨cc,rfl⟩
    ·exact F3 i bx hm
   ·intro y hy;rcases List.mem_cons.1 hy with rfl|hy
    ·trivial
    ·exact hF y hy
   ·intro y hy i hi;rcases List.mem_cons.1 hy with rfl|hy
    ·simp only[At,R8] at hi;subst hi;exact⟨_,DW⟩
    ·obtain⟨bx,Pm⟩:=Iy y hy i hi;exact⟨bx,Ut _ Pm⟩
   ·cases us with
    |nil=>exact ho.elim
    |cons u us=>
     obtain⟨h1,h2⟩:=X5 w A own β' (j0+1) us (fun q hq=>by rw[hβ _ (Ut _ (List.mem_map_of_mem hq))];congr 1;simp only;omega) ho.2
     have h0:=hβ (id,0) DW;simp only[ZG] at h0;refine⟨⟨?_,h1⟩,fun i bx hm=>?_⟩
     ·rcases ho.1 with⟨h3,rfl,_,h5⟩|⟨b,ob,cap,h3,h4,h5,h6,h7,_⟩
      ·exact .inl ⟨h0.trans h3,rfl,rfl,h5⟩
      ·exact .inr ⟨b,ob,ob,cap,h0.trans h3,h4,.inl rfl,h5,h6,h7⟩
     ·rcases List.mem_cons.1 hm with e|hm
      ·cases e;exact HB ho.1 h0
      ·exact h2 i bx hm
theorem Awl{i:Nat}{t:TypeId}{p:PV}{K:PV->List (Nat × B7)->Option R}(hk:inK P N i t p K=some r):
  ∃v bs,∃qs:List (Nat × Nat),K v bs=some r/\bs.map (·.1)=qs.map (·.1)/\(∀q∈qs,∀q'∈qs,q.2=q'.2->q.1=q'.1)/\(HU p=true->(Eb N i,0)∈qs/\i<8) /\
   (∀id bx,(id,bx)∈bs->D3 (some bx)/\∀c,bx=.st c->id=Eb N i/\HU p=true)/\(∀id∈Ci v,∃bx,(id,bx)∈bs)/\KF bs /\
   ∀(w:World) (A:Nat->Prop) (bt β':Bt) (u:Value),(∀q∈qs,β' q.1=bt q.2)->Aff w A bt p u->Fn w A β' v u/\(∀id bx,(id,bx)∈bs->V3 w A β' id bx) /\
    ∀id bx b o,(id,bx)∈bs->β' id=some (b,o)->∀j,BR bx o j->A2y bt p b j:=by
 have owns:∀{bs:List (Nat × B7)} {qs:List (Nat × Nat)},bs.map (·.1)=qs.map (·.1)->(∀i bx,(i,bx)∈bs->∃c,bx=.ar false c)->∀{bt β':Bt},(∀q∈qs,β' q.1=bt (1+q.2))->∀id bx b o,(id,bx)∈bs->β' id=some (b,o)->∀j,BR bx o j->∃k o',bt (k+1)=some (b,o')/\o'<=j:=by
  intro bs qs hb F3 bt β' hβ id bx b o hm ZA j hj;have:id∈qs.map (·.1):=by rw[<-hb];exact List.mem_map.2 ⟨_,hm,rfl⟩
  obtain⟨q,hq,rfl⟩:=List.mem_map.1 this;obtain⟨c,rfl⟩:=F3 _ _ hm;rw[hβ q hq,Nat.add_comm] at ZA;exact⟨q.2,o,ZA,hj⟩
 have nost:∀{bs:List (Nat × B7)},(∀i bx,(i,bx)∈bs->∃c,bx=.ar false c)->KF bs:=by
  intro bs F3 id cells hm;obtain⟨c,e⟩:=F3 id _ hm;cases e
 unfold inK at hk;split at hk
 ·rename_i e he;obtain⟨ps,rfl,E8⟩:=XM hk;obtain⟨hi8,F2⟩:=Am E8;have hi8:i<8:=Nat.lt_of_succ_le (Pf hi8);obtain⟨cs,bs,qs,Pp,hl,Ww,hb,Ot,F3,hF,Iy,hv⟩:=Vb F2;refine⟨_,_,(Eb N i,0)::qs.map (fun q=>(q.1,q.2+1)),Pp,by simp only[Vv,hb];simp,?_,fun _=>⟨DW,hi8⟩,?_,?_,?_,fun w A bt β' u hβ hp=>?_⟩
  ·intro q hq q' G2 e;rcases List.mem_cons.1 hq with rfl|hq
   ·rcases List.mem_cons.1 G2 with rfl|G2
    ·rfl
    ·obtain⟨q0,ED,rfl⟩:=List.mem_map.1 G2;simp only at e;omega
   ·obtain⟨q0,ED,rfl⟩:=List.mem_map.1 hq;rcases List.mem_cons.1 G2 with rfl|G2
    ·simp only at e;omega
    ·obtain⟨q1,Mr,rfl⟩:=List.mem_map.1 G2;exact Ot q0 ED q1 Mr (by simp only at e;omega)
  ·intro id bx hm;rcases List.mem_cons.1 hm with e|hm
   ·cases e;exact⟨trivial,fun _ _=>⟨rfl,rfl⟩⟩
   ·obtain⟨c,rfl⟩:=F3 id bx hm;exact⟨trivial,fun _ e=>by cases e⟩
  ·intro id B1;simp only[Ci,Cy,At,R8] at B1;subst B1;exact⟨_,DW⟩
  ·intro id cells hm c hc k hk;rcases List.mem_cons.1 hm with e|hm
   ·cases e;obtain⟨bx,Pm⟩:=Iy c hc k hk;exact⟨bx,Ut _ Pm⟩
   ·obtain⟨c,e⟩:=F3 id _ hm;cases e
  ·obtain⟨b,o,h1,rfl,_,vs,h3,h4,h5⟩:=hp;have h0:=hβ (Eb N i,0) DW;simp only at h0;have hβ1:∀q∈qs,β' q.1=bt (1+q.2):=fun q hq=>by rw[hβ _ (Ut _ (List.mem_map_of_mem hq)),Nat.add_comm]
   obtain⟨h6,h7⟩:=hv w A bt β' 1 vs hβ1 h3;refine⟨⟨b,o,h0.trans h1,by simp⟩,fun id bx hm=>?_,fun id bx b' o' hm Jz j hj=>?_⟩
   ·rcases List.mem_cons.1 hm with e|hm
    ·cases e;refine⟨b,o,h0.trans h1,fun k c hk=>?_,fun k hk=>h5 k (by omega)⟩;obtain⟨v,hv,hcr⟩:=h6.get hk;exact⟨v,h4 k v hv,hcr⟩
    ·exact h7 id bx hm
   ·rcases List.mem_cons.1 hm with e|hm
    ·cases e;rw[h0] at Jz;have hj:o'<=j/\j<o'+cs.length:=hj;exact .inr ⟨o',ps,Jz,hj.1,.inl ⟨rfl,by omega⟩⟩
    ·exact .inl (owns hb F3 hβ1 id bx b' o' hm Jz j hj)
 ·split at hk
  ·rename_i ps;obtain⟨e,he,E8⟩:=Cw hk;obtain⟨hi8,F2⟩:=Am E8;have hi8:i<8:=Nat.lt_of_succ_le (Pf hi8);obtain⟨q,qr,hq,Pp⟩:=Bn F2;subst hq;obtain⟨IY,AW⟩:=Em Pp;subst IY;unfold Lg at AW;split at AW
   ·rename_i es' n c;cases hb:Nat.beq es' (A9 P e)<;>rw[hb] at AW
    ·cases AW
    ·have BH:=Dc hb;subst BH;refine⟨_,_,[(Eb N i,0)],AW,rfl,by simp,fun _=>⟨by simp,hi8⟩,?_,?_,?_,fun w A bt β' u hβ hp=>?_⟩
     ·intro id bx hm;simp only[R8] at hm;cases hm;exact⟨trivial,fun _ e=>by cases e⟩
     ·intro id B1;simp only[Ci,Cy,At,R8] at B1;subst B1;exact⟨_,DW⟩
     ·intro id cells hm;simp only[R8] at hm;cases hm
     ·obtain⟨es,n',c',h1,h2⟩:=hp;cases h1;have h0:=hβ (Eb N i,0) DW;simp only at h0;refine⟨?_,fun id bx hm=>?_,fun id bx b' o' hm Jz j hj=>?_⟩
      ·rcases h2 with⟨h3,rfl,_,h5⟩|⟨b,ob,cap,h3,h4,h5,h6,h7,_⟩
       ·exact .inl ⟨h0.trans h3,rfl,rfl,h5⟩
       ·exact .inr ⟨b,ob,ob,cap,h0.trans h3,h4,.inl rfl,h5,h6,h7⟩
      ·simp only[R8] at hm;cases hm;exact HB h2 h0
      ·simp only[R8] at hm;cases hm;rw[h0] at Jz;exact .inr ⟨o',_,Jz,hj,.inr rfl⟩
   ·cases AW
  ·rename_i hnt;cases Hj:Ch P t<;>rw[Hj] at hk
   ·simp only[cond_false] at hk;obtain⟨cs,bs,qs,Pp,hl,Ww,hb,Ot,F3,hF,Iy,hv⟩:=Vb hk;obtain⟨c,cs',LI,AW⟩:=Bn Pp;subst LI;obtain⟨IY,hk5⟩:=Em AW;subst IY;have hFc:=hF c (by simp)
    have hnL:HU p=false\/∃ps,p=.pbox ps:=by
     cases p<;>first|exact .inl rfl|exact .inr ⟨_,rfl⟩|exact absurd rfl (hnt _)
    have hpb:∀ps,p ≠ .pbox ps:=by
     rintro ps rfl
     cases hts:Kc P t with
     |nil=>rw[hts] at Ww;simp at Ww
     |cons t' ts=>
      rw[hts] at hk;unfold LL Auh at hk;obtain⟨q,qs1,hq,E8⟩:=Bn hk;cases hq;cases t'<;>simp[IB,Vn,Ba,Bm,Bu,fnK] at E8
    have hpa:∀ps,p ≠ .agg ps:=by
     rintro ps rfl
     cases hts:Kc P t with
     |nil=>rw[hts] at Ww;simp at Ww
     |cons t' ts=>
      rw[hts] at hk;unfold LL Auh at hk;obtain⟨q,qs1,hq,E8⟩:=Bn hk;cases hq;cases t'<;>simp[IB,Vn,Ba,Bm,Bu,fnK] at E8
    have hnL:HU p=false:=hnL.elim id (fun ⟨ps,e⟩=>absurd e (hpb ps));have CC:Ci c=At c:=by cases c<;>first|rfl|exact hFc.elim
    refine⟨c,bs,qs.map (fun q=>(q.1,q.2+1)),hk5,by rw[hb];simp,?_,(fun h=>by rw[hnL] at h;cases h),?_,fun id B1=>Iy c (by simp) id (by rw[<-CC];exact B1),nost F3,fun w A bt β' u hβ hp=>?_⟩
    ·intro q hq q' G2 e;obtain⟨q0,ED,rfl⟩:=List.mem_map.1 hq;obtain⟨q1,Mr,rfl⟩:=List.mem_map.1 G2;exact Ot q0 ED q1 Mr (by simp only at e;omega)
    ·intro id bx hm;obtain⟨c,rfl⟩:=F3 id bx hm;exact⟨trivial,fun _ e=>by cases e⟩
    ·have D1:Hs w A (bt 1) p u:=by cases p<;>first|exact hp.2|exact absurd rfl (hpa _)|exact absurd rfl (hpb _)|exact absurd rfl (hnt _)
     have hβ1:∀q∈qs,β' q.1=bt (1+q.2):=fun q hq=>by rw[hβ _ (List.mem_map_of_mem hq),Nat.add_comm]
     obtain⟨h6,h7⟩:=hv w A bt β' 1 [u] hβ1 ⟨D1,trivial⟩;refine⟨?_,h7,fun id bx b' o' hm Jz j hj=>.inl (owns hb F3 hβ1 id bx b' o' hm Jz j hj)⟩;have h8:=h6.1;cases c<;>first|exact h8|exact hFc.elim
   ·simp only[cond_true] at hk;obtain⟨ps,hp0,E8⟩:=Jb hk;subst hp0;obtain⟨cs,bs,qs,Pp,hl,Ww,hb,Ot,F3,hF,Iy,hv⟩:=Vb E8;refine⟨_,bs,qs.map (fun q=>(q.1,q.2+1)),Pp,by rw[hb];simp,?_,(fun h=>by cases h),?_,fun id B1=>?_,nost F3,fun w A bt β' u hβ hp=>?_⟩
    ·intro q hq q' G2 e;obtain⟨q0,ED,rfl⟩:=List.mem_map.1 hq;obtain⟨q1,Mr,rfl⟩:=List.mem_map.1 G2;exact Ot q0 ED q1 Mr (by simp only at e;omega)
    ·intro id bx hm;obtain⟨c,rfl⟩:=F3 id bx hm;exact⟨trivial,fun _ e=>by cases e⟩
    ·obtain⟨c,hc,hi⟩:=List.mem_flatMap.1 (show id∈cs.flatMap At from B1);exact Iy c hc id hi
    ·obtain⟨vs,h1,_,h3⟩:=hp;have hβ1:∀q∈qs,β' q.1=bt (1+q.2):=fun q hq=>by rw[hβ _ (List.mem_map_of_mem hq),Nat.add_comm]
     obtain⟨h6,h7⟩:=hv w A bt β' 1 vs hβ1 h3;exact⟨⟨vs,h1,h6⟩,h7,fun id bx b' o' hm Jz j hj=>.inl (owns hb F3 hβ1 id bx b' o' hm Jz j hj)⟩
theorem Ab7:∀{ts:List TypeId}{i:Nat}{ps:Ae}{K:List (Nat × PV)->List (Nat × B7)->Option R},Anq P N i ts ps K=some r ->
  ∃tms bs,∃qs:List (Nat × Nat × Nat),K tms bs=some r/\bs.map (·.1)=qs.map (·.1)/\(∀q∈qs,i<=q.2.1)/\(∀q∈qs,∀q'∈qs,q.2=q'.2->q.1=q'.1) /\
   (∀k p,ps[k]?=some p->HU p=true->(Eb N (i+k),i+k,0)∈qs/\i+k<8)/\(∀id bx,(id,bx)∈bs->D3 (some bx)/\∀c,bx=.st c->∃k p,ps[k]?=some p/\HU p=true/\id=Eb N (i+k)) /\
   (∀j,∀id∈Ci (lk tms j),∃bx,(id,bx)∈bs)/\KF bs /\
   ∀(w:World) (A:Nat->Prop) (bt:HW) (β':Bt) (us:List Value),(∀q∈qs,β' q.1=bt q.2.1 q.2.2)->O4 w A bt i ps us ->
    (∀j,(∃u,i<=j/\us[j-i]?=some u/\Fn w A β' (lk tms j) u)\/(lk tms j=.top/\(i<=j->us[j-i]?=none)))/\(∀id bx,(id,bx)∈bs->V3 w A β' id bx) /\
    ∀id bx b o,(id,bx)∈bs->β' id=some (b,o)->∀j,BR bx o j->∃k p,ps[k]?=some p/\A2y (bt (i+k)) p b j
 |[],i,ps,K,hk=>by
  obtain⟨ME,hk⟩:=Em hk;subst ME;refine⟨[],[],[],hk,rfl,by simp,by simp,by simp,by simp,(fun j id B1=>by cases B1),(by intro i cells hm;cases hm),fun w A bt β' us _ h=>?_⟩
  cases us with
  |nil=>exact⟨fun j=>.inr ⟨rfl,fun _=>by simp⟩,by simp,by simp⟩
  |cons u us=>exact h.elim
 |t::ts,i,ps,K,hk=>by
  unfold Anq at hk;obtain⟨p,ps',ME,E8⟩:=Bn hk;subst ME;obtain⟨v,bs,qs,F2,hb,hqi,PW,Pm,hr,hri,hv⟩:=Awl E8;obtain⟨tms,bs',qs',Pp,Jz,A2p,Bek,A6m,Bdl,hr',Bf5,Tj⟩:=Ab7 F2;refine⟨(i,v)::tms,bs++bs',qs.map (fun q=>(q.1,i,q.2))++qs',Pp,by simp only[List.map_append,hb,Jz];simp,?_,?_,?_,?_,?_,?_,fun w A bt β' us hβ hp=>?_⟩
  ·intro q hq;rcases Bx.1 hq with hq|hq
   ·obtain⟨q0,ED,rfl⟩:=List.mem_map.1 hq;exact Cs _
   ·have:=A2p q hq;omega
  ·intro q hq q' G2 e;rcases Bx.1 hq with hq|hq
   ·obtain⟨q0,ED,rfl⟩:=List.mem_map.1 hq;rcases Bx.1 G2 with G2|G2
    ·obtain⟨q1,Mr,rfl⟩:=List.mem_map.1 G2;simp only[Prod.mk.injEq,true_and] at e;exact hqi q0 ED q1 Mr e
    ·have:=A2p q' G2;rw[<-e] at this;simp only at this;omega
   ·have h5:=A2p q hq;rcases Bx.1 G2 with G2|G2
    ·obtain⟨q1,Mr,rfl⟩:=List.mem_map.1 G2;rw[e] at h5;simp only at h5;omega
    ·exact Bek q hq q' G2 e
  ·intro k p' Pk hL;cases k with
   |zero=>
    simp only[List.getElem?_cons_zero,Option.some.injEq] at Pk;subst Pk;obtain⟨h1,h2⟩:=PW hL;exact⟨Bx.2 (.inl (List.mem_map.2 ⟨_,h1,rfl⟩)),h2⟩
   |succ k=>
    obtain⟨h1,h2⟩:=A6m k p' (by simpa using Pk) hL;rw[show i+1+k=i+(k+1) by omega] at h1 h2;exact⟨Bx.2 (.inr h1),h2⟩
  ·intro id bx hm;rcases Bx.1 hm with hm|hm
   ·obtain⟨h1,h2⟩:=Pm id bx hm;exact⟨h1,fun c hc=>⟨0,p,rfl,(h2 c hc).2,(h2 c hc).1⟩⟩
   ·obtain⟨h1,h2⟩:=Bdl id bx hm;refine⟨h1,fun c hc=>?_⟩;obtain⟨k,p',h3,h4,h5⟩:=h2 c hc;exact⟨k+1,p',by simpa using h3,h4,by rw[h5,show i+1+k=i+(k+1) by omega]⟩
  ·intro j id B1;unfold lk at B1;cases hbq:Nat.beq j i<;>rw[hbq] at B1
   ·obtain⟨bx,h1⟩:=hr' j id B1;exact⟨bx,Bx.2 (.inr h1)⟩
   ·obtain⟨bx,h1⟩:=hr id B1;exact⟨bx,Bx.2 (.inl h1)⟩
  ·intro id cells hm c hc k hk;rcases Bx.1 hm with hm|hm
   ·obtain⟨bx,h1⟩:=hri id cells hm c hc k hk;exact⟨bx,Bx.2 (.inl h1)⟩
   ·obtain⟨bx,h1⟩:=Bf5 id cells hm c hc k hk;exact⟨bx,Bx.2 (.inr h1)⟩
  ·cases us with
   |nil=>exact hp.elim
   |cons u us=>
    obtain⟨h1,h2,h3⟩:=hv w A (bt i) β' u (fun q hq=>hβ _ (Bx.2 (.inl (List.mem_map_of_mem hq)))) hp.1;obtain⟨h1',h2',h3'⟩:=Tj w A bt β' us (fun q hq=>hβ q (Bx.2 (.inr hq))) hp.2;refine⟨fun j=>?_,fun id bx hm=>?_,fun id bx b o hm ZA j hj=>?_⟩
    ·unfold lk;cases hbq:Nat.beq j i
     ·have Hp:=Qw hbq;simp only[cond_false];rcases h1' j with⟨u',h4,h5,h6⟩|⟨h4,h5⟩
      ·refine .inl ⟨u',by omega,?_,h6⟩;rw[show j-i=(j-(i+1))+1 by omega]
       simpa using h5
      ·refine .inr ⟨h4,fun hij=>?_⟩;rw[show j-i=(j-(i+1))+1 by omega]
       simpa using h5 (by omega)
     ·have:=Dc hbq;subst this;exact .inl ⟨u,Cs _,by simp,h1⟩
    ·rcases Bx.1 hm with hm|hm
     ·exact h2 id bx hm
     ·exact h2' id bx hm
    ·rcases Bx.1 hm with hm|hm
     ·exact⟨0,p,rfl,h3 id bx b o hm ZA j hj⟩
     ·obtain⟨k,p',h4,h5⟩:=h3' id bx b o hm ZA j hj;exact⟨k+1,p',by simpa using h4,by rw[show i+(k+1)=i+1+k by omega];exact h5⟩
def Agh(bt:HW)(args:Ae)(h8:∀k p,args[k]?=some p->HU p=true->k<8):J8:=
 ⟨BtX bt,PY bt args,fun i=>∃p,args[i]?=some p/\HU p=true,fun i=>bt i 0,fun i ⟨p,h1,h2⟩=>h8 i p h1 h2⟩
theorem Anl{ts:List TypeId}{args:Ae}{us:List Value}{bt:HW}{K:List (Nat × PV)->List (Nat × B7)->Option R}(HX:Ins w Y bt args us)(hk:Anq P N 0 ts args K=some r):
  ∃tms bs,K tms bs=some r/\(Ca (fun _=>none) bs=true->us.length<=N->∃(h8:∀k p,args[k]?=some p->HU p=true->k<8),∃β0,
   Di N w (Agh bt args h8) Y β0 ⟨lk tms,Fx bs⟩ { tmps:=us.toArray++Array.replicate (N-us.toArray.size) undef,defers:=[] } w):=by
 obtain⟨tms,bs,qs,E8,hb,ED,hqi,PW,Pm,hr,hri,hv⟩:=Ab7 hk;refine⟨tms,bs,E8,fun Ui hN=>?_⟩;have Ail:=Ws Ui
 have h8:∀k p,args[k]?=some p->HU p=true->k<8:=fun k p h1 h2=>by
  have:=(PW k p h1 h2).2;omega
 have TF:(qs.map (·.1)).Nodup:=by rw[<-hb];exact Ail
 obtain⟨β0,hβ0⟩:∃β0:Bt,∀q∈qs,β0 q.1=bt q.2.1 q.2.2:=by
  have:∀(l:List (Nat × Nat × Nat)),(l.map (·.1)).Nodup->∃β0:Bt,∀q∈l,β0 q.1=bt q.2.1 q.2.2:=by
   intro l
   induction l with
   |nil=>intro _;exact⟨fun _=>none,by simp⟩
   |cons q l ih=>
    intro hn;simp only[Vv,List.nodup_cons] at hn;obtain⟨b1,h1⟩:=ih hn.2;refine⟨Db b1 q.1 (bt q.2.1 q.2.2),fun q' G2=>?_⟩;rcases List.mem_cons.1 G2 with rfl|G2
    ·exact An _ _ _
    ·have Hp:q'.1≠q.1:=fun e=>hn.1 (by rw[<-e];exact List.mem_map.2 ⟨q',G2,rfl⟩)
     rw[Al _ _ Hp];exact h1 q' G2
  exact this qs TF
 refine⟨h8,β0,?_⟩;obtain⟨hs,hbr,hL⟩:=hv w _ bt β0 us hβ0 HX.args
 have hqm:∀id bx,(id,bx)∈bs->∃ik,(id,ik)∈qs/\β0 id=bt ik.1 ik.2:=by
  intro id bx hm;have:id∈qs.map (·.1):=by rw[<-hb];exact List.mem_map.2 ⟨_,hm,rfl⟩
  obtain⟨q,hq,rfl⟩:=List.mem_map.1 this;exact⟨q.2,hq,hβ0 q hq⟩
 have hX:∀b,ZF (Fx bs) β0 b->BtX bt b:=by
  rintro b ⟨id,o,hl,hβ⟩
  cases hq:Fx bs id with
  |none=>rw[hq] at hl;exact hl.elim
  |some bx=>
   obtain⟨ik,_,h2⟩:=hqm id bx (Qv hq);rw[h2] at hβ;exact⟨_,_,_,hβ⟩
 have hA:∀b,D2 (Fx bs) β0 Y b->BtX bt b\/Y b:=fun b hb=>hb.imp (hX b) id;have Ay1:∀{p:PV} {u:Value},Fn w (fun b=>BtX bt b\/Y b) β0 p u->Fn w (D2 (Fx bs) β0 Y) β0 p u:=fun h=>h.step (Ct.refl _ _) (fun b _=>hA b) (fun _ _=>rfl);refine⟨rfl,by simp;omega,fun i hi=>?_,fun i hi=>?_,?_,?_,?_,fun i hi id B1=>?_,?_,fun b hb=>.inl (hX b hb),?_,?_,?_,fun b hY hXb=>HX.Yx b hY (hX b hXb),HX.Ylt,⟨rfl,rfl,rfl,Ct.refl _ _,fun _ _ _ _=>⟨rfl,rfl⟩⟩⟩
 ·rcases hs i with⟨u,_,h,_⟩|⟨h,_⟩
  ·rw[Nat.sub_zero,List.getElem?_eq_none (by omega)] at h;cases h
  ·exact h
 ·rcases hs i with⟨u,_,h,hv⟩|⟨h,h'⟩
  ·rw[Nat.sub_zero] at h
   have Cq:i<us.length:=by
    rcases Ik i us.length with h'|h'
    ·exact h'
    ·rw[List.getElem?_eq_none h'] at h;cases h
   have:(us.toArray++Array.replicate (N-us.toArray.size) undef).getD i undef=u:=by
    rw[Array.getD_eq_getD_getElem?,Array.getElem?_append_left (by simpa using Cq)];simp[h]
   show Fn w _ _ _ ((us.toArray++Array.replicate (N-us.toArray.size) undef).getD i undef);rw[this];exact Ay1 hv
  ·show Fn w _ _ (lk tms i) _;rw[h];exact Au.top _
 ·intro id bx hq;exact (hbr id bx (Qv hq)).step' hA
 ·intro id id' b o o' hl N2 hβ hβ';cases hq:Fx bs id with
  |none=>change D3 (Fx bs id) at hl;rw[hq] at hl;exact hl.elim
  |some bx=>
   cases G2:Fx bs id' with
   |none=>change D3 (Fx bs id') at N2;rw[G2] at N2;exact N2.elim
   |some bx'=>
    obtain⟨ik,h1,h2⟩:=hqm id bx (Qv hq);obtain⟨ik',h1',h2'⟩:=hqm id' bx' (Qv G2);rw[h2] at hβ;rw[h2'] at hβ';obtain⟨h3,h4⟩:=HX.inj _ _ _ _ b o o' hβ hβ';exact hqi _ h1 _ h1' (Prod.ext h3 h4)
 ·intro id b o hn hβ;cases hq:Fx bs id with
  |none=>exact absurd hq hn
  |some bx=>
   obtain⟨ik,h1,h2⟩:=hqm id bx (Qv hq);rw[h2] at hβ;exact HX.lt b ⟨_,_,_,hβ⟩
 ·obtain⟨bx,hm⟩:=hr i id B1;show Fx bs id≠none;rw[Aao Ail hm];simp
 ·intro id cells hq c hc k hk;obtain⟨bx,hm⟩:=hri id cells (Qv hq) c hc k hk;show Fx bs k≠none;rw[Aao Ail hm];simp
 ·intro id bx b o hq hl hβ _ j hj;obtain⟨k,p,h1,h2⟩:=hL id bx b o (Qv hq) hβ j hj;rw[Ip] at h2;exact⟨k,p,h1,h2⟩
 ·rintro i ⟨p,h1,h2⟩
  have h3:=(PW i p h1 h2).1;rw[Ip] at h3;refine⟨?_,hβ0 _ h3⟩;have:Eb N i∈bs.map (·.1):=by rw[hb];exact List.mem_map.2 ⟨_,h3,rfl⟩
  obtain⟨⟨id,bx⟩,hm,e⟩:=List.mem_map.1 this;show Fx bs (Eb N i)≠none;rw[<-e,Aao Ail hm];simp
 ·intro id c b o hq _ _;obtain⟨k,p,h1,h2,h3⟩:=(Pm id _ (Qv hq)).2 c rfl;rw[Ip] at h3;exact⟨k,h3,p,h1,h2⟩
end
open Go.RowKit
def Oz(β:Bt)(l:List (Option Nat))(j:Nat):Option (Nat × Nat):=((l[j]?).bind id).bind β
section
variable {R:Type}{r:R}{P:Program}{N:Nat}{w0:World}{X0:J8}{Y:Nat->Prop}{β β':Bt}{s:St}{a:Act}{w w':World}{A:Nat->Prop}
def Arz(s:St)(l:List (Option Nat)):Prop:=∀id,some id∈l->D3 (s.hp id)
def Qa(s:St)(z:B2):Prop:=∀id∈z,∃f c,s.hp id=some (.ar f c)
theorem VD(h : Di N w0 X0 Y β s a w){shr : Bool}{t : CT}{p : PV}{K : PV -> B2 -> B2 -> Option R}(hk : Ajm shr s.hp t p K = some r):
    ∃ c q z, K c (Option.toList q) z = some r /\ (∀ x, c ≠ .agg x /\ c ≠ .pbox x) /\ UC p /\ (∀ id, q = some id -> ∃ c, s.hp id = some (.ar false c)) /\ Qa s z /\
      ∀ (fz : B2) A u, (∀ i ∈ z, i ∈ fz) -> Qa s fz -> (∀ b, A b -> D2 (Af s.hp fz) β Y b) -> Cj w (D2 s.hp β Y) β p u -> Hs w A (q.bind β) c u := by
  have notree : ∀ {c : PV}, CJ c -> ∀ x, c ≠ .agg x /\ c ≠ .pbox x := fun hT x => ⟨EY hT x, by rintro rfl; exact hT⟩
  unfold Ajm at hk
  cases shr <;> simp only[cond_true, cond_false] at hk
  · have tree : ∀ t', (∀ es, t' ≠ .sl es) -> (IB t' p fun c => K c [] []) = some r -> ∃ c q z, K c (Option.toList q) z = some r /\ (∀ x, c ≠ .agg x /\ c ≠ .pbox x) /\ UC p /\ (∀ id, q = some id -> ∃ c, s.hp id = some (.ar false c)) /\ Qa s z /\
        ∀ (fz : B2) A u, (∀ i ∈ z, i ∈ fz) -> Qa s fz -> (∀ b, A b -> D2 (Af s.hp fz) β Y b) -> Cj w (D2 s.hp β Y) β p u -> Hs w A (q.bind β) c u := by
      intro t' Hp hk
      obtain⟨c, E8, hT, RQ, hv⟩ := Qs hk
      refine⟨c, none, [], E8, notree hT, Wg RQ, by simp, (by intro i hi; cases hi), fun fz A u _ _ hA hc => N8 hT ?_⟩
      exact (hv w _ β u hc).1.step (Ct.refl _ _) (fun b _ hb => R2 (hA b hb))
    unfold A0r at hk
    cases t with
    | sl es =>
      dsimp only at hk
      split at hk
      · rename_i id es' off n
        cases hb : (Nat.beq es' es && Nat.beq off 0) <;> rw[hb] at hk
        · cases hk
        · simp only[E0] at hb
          have he := Dc hb.1
          have ho := Dc hb.2
          subst he ho
          simp only[cond_true] at hk
          split at hk
          · rename_i c h0
            obtain⟨hl, E8⟩ := Am hk
            refine⟨_, some id, [], E8, by simp, trivial, fun i hi => by cases hi; exact⟨c, h0⟩, (by intro i hi; cases hi), fun fz A u _ _ hA hc => ?_⟩
            rcases hc with⟨h1, _, rfl, h4⟩ | ⟨b, o, x, cap, h1, h2, hx, h3, h4, h5⟩
            · exact .inl ⟨h1, rfl, by simp, h4⟩
            · have hx : x = o := by rcases hx with e | ⟨_, e⟩ <;> omega
              subst hx
              rcases h.box id _ h0 with⟨h6, _⟩ | ⟨b', o', h6, h7, h8, _⟩
              · rw[h1] at h6; cases h6
              · rw[h1] at h6
                cases h6
                refine .inr ⟨b, x, cap, h1, h2, h3, h4, h5, fun j q hq => ?_, fun j hj Ya => h8 rfl j hj Ya⟩
                rw[List.getElem?_take] at hq
                split at hq
                · obtain⟨v, hv, h9, ht⟩ := h7 j q hq
                  exact⟨v, hv, h9, ht.step (Ct.refl _ _) (fun b _ hb => R2 (hA b hb))⟩
                · cases hq
          · cases hk
      · obtain⟨z, n, c, E8, hp⟩ := H4 hk
        obtain⟨hz, F2⟩ := Am E8
        subst hz
        have hpF : UC p := by rcases hp with e | ⟨e, _⟩ <;> (rw[e]; trivial)
        refine⟨_, none, [], F2, by simp, hpF, by simp, (by intro i hi; cases hi), fun fz A u _ _ _ hc => ?_⟩
        have hu : u = .slice none 0 0 := by
          rcases hp with rfl | ⟨rfl, _⟩
          · cases hc; rfl
          · exact Au.val hc
        exact .inl ⟨rfl, rfl, rfl, none, hu⟩
    | int k => exact tree _ (by simp) hk
    | bool => exact tree _ (by simp) hk
    | str => exact tree _ (by simp) hk
    | any => exact tree _ (by simp) hk
  · obtain⟨c, m, E8, hT, hF, hm, hv⟩ := RR h hk
    exact⟨c, none, m, E8, notree hT, hF, by simp, hm, fun fz A u h1 h2 hA hc => N8 hT ((hv fz h1 h2 u hc).1.step (Ct.refl _ _) (fun b _ hb => hA b hb))⟩
structure MF(s:St)(β:Bt)(Y:Nat->Prop)(w:World)(cs:Ae)(l:List (Option Nat))(z:B2)(ps:Ae):Prop where
 len:l.length=cs.length
 pl:cs.length=ps.length
 na:∀c∈cs,∀x,c ≠ .agg x/\c ≠ .pbox x
 fr:∀p∈ps,UC p
 own:∀id,some id∈l->∃c,s.hp id=some (.ar false c)
 row:Qa s z
 sem:∀(fz:B2) A us,(∀i∈z,i∈fz)->Qa s fz->(∀b,A b->D2 (Af s.hp fz) β Y b)->Bj (Cj w (D2 s.hp β Y) β) ps us->∀own j0,(∀j,j<l.length->own (j0+j)=Oz β l j)->F0 w A own j0 cs us
theorem MF.nil:MF s β Y w [] [] [] []:=⟨rfl,rfl,by simp,by simp,by simp,(by intro i hi;cases hi),fun fz A us _ _ _ hu own j0 _=>by
 cases us with
 |nil=>trivial
 |cons u us=>exact hu.elim⟩
theorem MF.cons{c p:PV}{q:Option Nat}{z zs:B2}{cs ps:Ae}{l:List (Option Nat)}(IM:∀x,c ≠ .agg x/\c ≠ .pbox x)(hF:UC p)(hq:∀id,q=some id->∃c,s.hp id=some (.ar false c))(hz:Qa s z)(hv:∀(fz:B2) A u,(∀i∈z,i∈fz)->Qa s fz->(∀b,A b->D2 (Af s.hp fz) β Y b)->Cj w (D2 s.hp β Y) β p u->Hs w A (q.bind β) c u)(H:MF s β Y w cs l zs ps):MF s β Y w (c::cs) (q::l) (z++zs) (p::ps):=by
 refine⟨by simp[H.len],by simp[H.pl],?_,?_,?_,?_,fun fz A us hz1 hz2 hA hu own j0 Ix=>?_⟩
 ·intro x hx;rcases List.mem_cons.1 hx with rfl|hx
  ·exact IM
  ·exact H.na x hx
 ·intro x hx;rcases List.mem_cons.1 hx with rfl|hx
  ·exact hF
  ·exact H.fr x hx
 ·intro id B1;rcases List.mem_cons.1 B1 with e|B1
  ·exact hq id e.symm
  ·exact H.own id B1
 ·intro i hi;rcases Bx.1 hi with hi|hi
  ·exact hz i hi
  ·exact H.row i hi
 ·cases us with
  |nil=>exact hu.elim
  |cons u us=>
   have h0:=Ix 0 (by simp);rw[ZG] at h0;refine⟨?_,H.sem fz A us (fun i hi=>hz1 i (by simp[hi])) hz2 hA hu.2 own (j0+1) fun j hj=>?_⟩
   ·rw[h0];exact hv fz A u (fun i hi=>hz1 i (by simp[hi])) hz2 hA hu.1
   ·have:=Ix (j+1) (by simp;omega)
    rw[show j0+1+j=j0+(j+1) by omega,this];simp[Oz]
theorem V5(h:Di N w0 X0 Y β s a w){shr:Bool}:∀{ts:List CT}{ps:Ae}{K:Ae->B2->B2->Option R},KB shr s.hp ts ps K=some r ->
  ∃cs l z,K cs (l.filterMap id) z=some r/\MF s β Y w cs l z ps
 |[],[],K,hk=>⟨[],[],[],hk,MF.nil⟩
 |[],_::_,K,hk=>by cases hk
 |_::_,[],K,hk=>by cases hk
 |t::ts,p::ps,K,hk=>by
  unfold KB at hk;obtain⟨c,q,z,E8,IM,hF,hq,hz,hv⟩:=VD h hk;obtain⟨cs,l,zs,F2,H⟩:=V5 h E8;refine⟨c::cs,q::l,z++zs,?_,MF.cons IM hF hq hz hv H⟩;cases q<;>exact F2
theorem KH(h:Di N w0 X0 Y β s a w):∀{ts:List CT}{ws ps:Ae}{K:Ae->B2->B2->Option R},NG s.hp ts ws ps K=some r ->
  ∃cs l z,K cs (l.filterMap id) z=some r/\cs.length=ws.length/\MF s β Y w cs l z ps
 |[],[],[],K,hk=>⟨[],[],[],hk,rfl,MF.nil⟩
 |[],_::_,_,K,hk=>by cases hk
 |[],[],_::_,K,hk=>by cases hk
 |_::_,[],_,K,hk=>by cases hk
 |_::_,_::_,[],K,hk=>by cases hk
 |t::ts,x::ws,p::ps,K,hk=>by
  unfold NG at hk;obtain⟨c,q,z,E8,IM,hF,hq,hz,hv⟩:=VD h hk;obtain⟨cs,l,zs,F2,hl,H⟩:=KH h E8;refine⟨c::cs,q::l,z++zs,?_,by simp[hl],MF.cons IM hF hq hz hv H⟩;cases q<;>exact F2
theorem Ahw{own:Bt}{zz j:Nat}{p:PV}{u:Value}(hp:∀x,p ≠ .agg x/\p ≠ .pbox x)(h:F0 w A own j [p] [u]):Ayj w A own zz j p u:=by cases p<;>first|exact h.1|exact absurd rfl (hp _).1|exact absurd rfl (hp _).2
theorem Ajr(h:Di N w0 X0 Y β s a w){id b o:Nat}{c cs:Ae}{l:List (Option Nat)}{z:B2}(h0:s.hp id=some (.st c))(hβ:β id=some (b,o))(H:MF s β Y w cs l z c){fz:B2}{A:Nat->Prop}(h1:∀i∈z,i∈fz)(h2:Qa s fz)(hA:∀b,A b->D2 (Af s.hp fz) β Y b){own:Bt}{j0:Nat}(Ix:∀j,j<l.length->own (j0+j)=Oz β l j):Ao6 w A own j0 b o cs:=by
 obtain⟨b',o',F3,Iy,LB⟩:=h.box id _ h0;rw[hβ] at F3;cases F3;refine⟨c.mapIdx (fun j _=>(w.cell? ⟨b,o+j,none⟩).getD undef),H.sem fz A _ h1 h2 hA ?_ own j0 Ix,?_,fun k hk=>LB k (by have:=H.pl;omega)⟩
 ·refine Bj.of_at (by simp) fun j p v hp hv=>?_;obtain⟨u,hu,hcr⟩:=Iy j p hp;rw[List.getElem?_mapIdx,hp,Option.map_some,hu] at hv;simp at hv;subst hv;exact hcr
 ·intro k v hkv;rw[List.getElem?_mapIdx] at hkv;cases hp:c[k]? with
  |none=>rw[hp] at hkv;cases hkv
  |some p=>
   obtain⟨u,hu,hcr⟩:=Iy k p hp;rw[hp,Option.map_some,hu] at hkv;simp at hkv;subst hkv;exact hu
theorem Amz(h:Di N w0 X0 Y β s a w){shr:Bool}{t:TypeId}{p:PV}{u:Value}(hp:Fn w (D2 s.hp β Y) β p u){K:PV->B2->B2->Option R}(hk:Aq3 P shr s.hp t p K=some r):
  ∃v l z,K v (l.filterMap id) z=some r/\l.length=plc v/\Arz s l/\Qa s z /\
   ∀(fz:B2) A zz,(∀i∈z,i∈fz)->Qa s fz->(∀b,A b->D2 (Af s.hp fz) β Y b)->(∀id c b o,some id∈l->s.hp id=some (.st c)->β id=some (b,o)->zz<=b) ->
    ∀own j0,(∀j,j<l.length->own (j0+j)=Oz β l j)->Ayj w A own zz j0 v u:=by
 unfold Aq3 at hk;split at hk
 ·rename_i e he;split at hk
  ·rename_i id off;split at hk
   ·rename_i c h0;obtain⟨hof,E8⟩:=Am hk;have hof:=Dc hof;subst hof;obtain⟨cs,l,z,F2,H⟩:=V5 h E8;obtain⟨b,o,hβ,hu⟩:=hp;refine⟨.pbox cs,some id::l,z,F2,by simp only[plc,Po,H.len];omega,?_,H.row,fun fz A zz h1 h2 hA hz own j0 Ix=>?_⟩
    ·intro i hi;rcases List.mem_cons.1 hi with e|hi
     ·cases e;rw[h0];trivial
     ·obtain⟨c',Rd⟩:=H.own i hi;rw[Rd];trivial
    ·have h3:=Ix 0 (by simp);rw[ZG] at h3;refine⟨b,o,by rw[h3];exact hβ,hz id c b o (by simp) h0 hβ,by rw[hu,ZG],Ajr h h0 hβ H h1 h2 hA fun j hj=>?_⟩
     have:=Ix (j+1) (by simp;omega)
     rw[show j0+1+j=j0+(j+1) by omega,this];simp[Oz]
   ·cases hk
  ·cases hk
 ·cases Hj:Ch P t<;>rw[Hj] at hk<;>simp only[cond_true,cond_false] at hk
  ·obtain⟨cs,l,z,E8,H⟩:=V5 h hk;obtain⟨c,cs',LI,F2⟩:=Bn E8;subst LI;obtain⟨IY,Pp⟩:=Em F2;subst IY;have IM:=H.na c (by simp);have TB:plc c=1:=by cases c<;>first|rfl|exact absurd rfl (IM _).1|exact absurd rfl (IM _).2
   have hF:=H.fr p (by simp);refine⟨c,l,z,Pp,by rw[TB];exact H.len,fun i hi=>?_,H.row,fun fz A zz h1 h2 hA _ own j0 Ix=>Ahw IM (H.sem fz A [u] h1 h2 hA ⟨?_,trivial⟩ own j0 Ix)⟩
   ·obtain⟨c',Rd⟩:=H.own i hi;rw[Rd];trivial
   ·cases p<;>first|exact hp|exact hF.elim
  ·obtain⟨ps,ME,E8⟩:=Jb hk;subst ME;obtain⟨cs,l,z,F2,H⟩:=V5 h E8;obtain⟨vs,hu,X5⟩:=hp;refine⟨.agg cs,l,z,F2,H.len,fun i hi=>?_,H.row,fun fz A zz h1 h2 hA _ own j0 Ix=>⟨vs,hu,H.sem fz A vs h1 h2 hA X5 own j0 Ix⟩⟩;obtain⟨c',Rd⟩:=H.own i hi;rw[Rd];trivial
def Aau(P:Program)(tmps:Array Value)(w:World)(rv:ResultVar)(u:Value):Prop:=
  (match rv with
   |.tmp t=>(pure (tmps.getD t undef):Sem Value)
   |.cell a t=>do loadVar t (<-asAddr (tmps.getD a undef))).run P w=.ok u w
theorem Apc(h:Di N w0 X0 Y β s a w)(t:Nat):Fn w (D2 s.hp β Y) β (s.tm t) (a.tmps.getD t undef):=by
 rcases Ik t N with h'|h'
 ·exact h.tms t h'
 ·rw[h.tmo t h'];exact Au.top _
theorem Alo(h:Di N w0 X0 Y β s a w){rv:ResultVar}{K:PV->Option R}(hk:Arr P s rv K=some r):∃p u,K p=some r/\Aau P a.tmps w rv u/\Fn w (D2 s.hp β Y) β p u:=by
 unfold Arr at hk;split at hk
 ·rename_i t;exact⟨_,_,hk,rfl,Apc h t⟩
 ·rename_i x t;obtain⟨v,ad,val,E8,Ed,hl,hv,_⟩:=Aca h (Apc h x) hk;refine⟨v,val,E8,?_,hv⟩;unfold Aau;simp[Ed,asAddr,hl]
theorem DM{l l':List (Option Nat)}{j:Nat}(h:j<l.length):Oz β (l++l') j=Oz β l j:=by unfold Oz;rw[List.getElem?_append_left h]
theorem CW{l l':List (Option Nat)}{j:Nat}:Oz β (l++l') (l.length+j)=Oz β l' j:=by unfold Oz;rw[List.getElem?_append_right (by omega),Nat.add_sub_cancel_left]
theorem RA(h:Di N w0 X0 Y β s a w){shr:Bool}:∀{rs:List ResultVar}{ts:List TypeId}{K:Ae->B2->B2->Option R},Aav P shr s rs ts K=some r ->
  ∃vs l z us,K vs (l.filterMap id) z=some r/\Bj (Aau P a.tmps w) rs us/\l.length=Pq vs/\Arz s l/\Qa s z /\
   ∀(fz:B2) A zz,(∀i∈z,i∈fz)->Qa s fz->(∀b,A b->D2 (Af s.hp fz) β Y b)->(∀id c b o,some id∈l->s.hp id=some (.st c)->β id=some (b,o)->zz<=b) ->
    ∀own j0,(∀j,j<l.length->own (j0+j)=Oz β l j)->XI w A own zz j0 vs us
 |[],[],K,hk=>⟨[],[],[],[],hk,trivial,rfl,(by intro id B1;cases B1),(by intro id B1;cases B1),fun _ _ _ _ _ _ _ _ _ _=>trivial⟩
 |[],_::_,K,hk=>by cases hk
 |_::_,[],K,hk=>by cases hk
 |rv::rs,t::ts,K,hk=>by
  unfold Aav at hk;obtain⟨p,u,E8,hu,hp⟩:=Alo h hk;obtain⟨v,l,z,F2,hl,hL,hz,hv⟩:=Amz h hp E8;obtain⟨vs,l',z',us,Pp,hus,N2,hL',hz',X5⟩:=RA h F2;refine⟨v::vs,l++l',z++z',u::us,?_,⟨hu,hus⟩,by simp only[Vo,Pq,Vv,List.sum_cons,hl];rw[N2];rfl,?_,?_,fun fz A zz h1 h2 hA Hr own j0 Ix=>⟨?_,?_⟩⟩
  ·rw[List.filterMap_append];exact Pp
  ·intro id B1;rcases Bx.1 B1 with B1|B1
   ·exact hL id B1
   ·exact hL' id B1
  ·intro id B1;rcases Bx.1 B1 with B1|B1
   ·exact hz id B1
   ·exact hz' id B1
  ·exact hv fz A zz (fun i hi=>h1 i (by simp[hi])) h2 hA (fun id c b o hi=>Hr id c b o (by simp[hi])) own j0 fun j hj=>by rw[Ix j (by simp;omega),DM hj]
  ·refine X5 fz A zz (fun i hi=>h1 i (by simp[hi])) h2 hA (fun id c b o hi=>Hr id c b o (by simp[hi])) own (j0+plc v) fun j hj=>?_;rw[<-hl,Ps,Ix (l.length+j) (by simp;omega),CW]
theorem V9(h:Di N w0 X0 Y β s a w){bt:HW}(hpt:∀i,X0.pt i=bt i 0):∀{ts:List TypeId}{i:Nat}{ps:Ae}{K:List Ae->B2->B2->B2->Option R},JA P N s.hp i ts ps K=some r ->
  (∀k p,ps[k]?=some p->HU p=true->X0.pn (i+k)) ->
  ∃os l z q,K os (l.filterMap id) z q=some r/\(∀id,some id∈l->∃c,s.hp id=some (.ar false c))/\Qa s z/\(∀id∈q,D3 (s.hp id))/\(∀k p,ps[k]?=some p->HU p=true->Eb N (i+k)∈q) /\
   ∀(fz:B2) A,(∀i∈z,i∈fz)->Qa s fz->(∀i∈q,i ∉ fz)->(∀b,A b->D2 (Af s.hp fz) β Y b) ->
    ∀own j0,(∀j,j<l.length->own (j0+j)=Oz β l j)->CM w A own bt j0 i ps os
 |[],i,ps,K,hk,_=>by
  obtain⟨ME,hk⟩:=Em hk;subst ME;exact⟨[],[],[],[],hk,by simp,(by intro id B1;cases B1),by simp,by simp,fun _ _ _ _ _ _ _ _ _=>rfl⟩
 |t::ts,i,ps,K,hk,hpn=>by
  unfold JA at hk;obtain⟨p,ps',ME,E8⟩:=Bn hk;subst ME
  have A21:∀k p,ps'[k]?=some p->HU p=true->X0.pn (i+1+k):=fun k p' h1 h2=>by
   have:=hpn (k+1) p' (by simpa using h1) h2;rw[show i+1+k=i+(k+1) by omega];exact this
  have hpq:∀{q:B2},(HU p=true->Eb N i∈q)->(∀k p,ps'[k]?=some p->HU p=true->Eb N (i+1+k)∈q)->∀k p',(p::ps')[k]?=some p'->HU p'=true->Eb N (i+k)∈q:=by
   intro q h1 h2 k p' h3 h4;cases k with
   |zero=>
    simp only[List.getElem?_cons_zero,Option.some.injEq] at h3;subst h3;exact h1 h4
   |succ k=>
    have:=h2 k p' (by simpa using h3) h4;rw[show i+1+k=i+(k+1) by omega] at this;exact this
  split at E8
  ·rename_i ws;obtain⟨e,he,F2⟩:=Cw E8;split at F2
   ·rename_i c h0;obtain⟨cs,l,z,Pp,Se,H⟩:=KH h F2;obtain⟨os,l',z',q,AW,hL',hz',G2,hpi,hv⟩:=V9 h hpt Pp A21;refine⟨cs::os,l++l',z++z',Eb N i::q,by rw[List.filterMap_append];exact AW,?_,?_,?_,hpq (fun _=>DW) (fun k p h1 h2=>Ut _ (hpi k p h1 h2)),fun fz A h1 h2 h3 hA own j0 Ix=>?_⟩
    ·intro id B1;rcases Bx.1 B1 with B1|B1
     ·exact H.own id B1
     ·exact hL' id B1
    ·intro id B1;rcases Bx.1 B1 with B1|B1
     ·exact H.row id B1
     ·exact hz' id B1
    ·intro id B1;rcases List.mem_cons.1 B1 with rfl|B1
     ·rw[h0];trivial
     ·exact G2 id B1
    ·have PW:=(h.pin i (by have:=hpn 0 _ rfl rfl;rwa [ZG] at this)).2
     obtain⟨b,o,F3,_,_⟩:=h.box _ _ h0;rw[F3,hpt] at PW;refine⟨⟨b,o,PW.symm,Se,Ajr h h0 F3 H (fun i hi=>h1 i (by simp[hi])) h2 hA fun j hj=>by rw[Ix j (by simp;omega),DM hj]⟩,?_⟩
     refine hv fz A (fun i hi=>h1 i (by simp[hi])) h2 (fun i hi=>h3 i (by simp[hi])) hA own (j0+cs.length) fun j hj=>?_;rw[<-H.len,Ps,Ix (l.length+j) (by simp;omega),CW]
   ·cases F2
  ·split at E8
   ·rename_i c h0;obtain⟨os,l',z',q,AW,hL',hz',G2,hpi,hv⟩:=V9 h hpt E8 A21;refine⟨c::os,l',z',Eb N i::q,AW,hL',hz',?_,hpq (fun _=>DW) (fun k p h1 h2=>Ut _ (hpi k p h1 h2)),fun fz A h1 h2 h3 hA own j0 Ix=>⟨?_,hv fz A h1 h2 (fun i hi=>h3 i (by simp[hi])) hA own j0 Ix⟩⟩
    ·intro id B1;rcases List.mem_cons.1 B1 with rfl|B1
     ·rw[h0];trivial
     ·exact G2 id B1
    ·have PW:=(h.pin i (by have:=hpn 0 _ rfl rfl;rwa [ZG] at this)).2
     rw[hpt] at PW;rcases h.box _ _ h0 with⟨h4,h5⟩|⟨b,o,h4,h5,h6,_⟩
     ·exact .inl ⟨by rw[<-PW];exact h4,h5⟩
     ·exact .inr ⟨b,o,by rw[<-PW];exact h4,h5.weak (fun b _ hb=>R2 (hA b hb)),h6 rfl⟩
   ·cases E8
  ·rename_i hn1 hn2;have hnL:HU p=false:=by cases p<;>first|rfl|exact absurd rfl (hn1 _)|exact absurd rfl (hn2 _)
   obtain⟨os,l',z',q,AW,hL',hz',G2,hpi,hv⟩:=V9 h hpt E8 A21;refine⟨os,l',z',q,AW,hL',hz',G2,hpq (fun e=>by rw[hnL] at e;cases e) hpi,fun fz A h1 h2 h3 hA own j0 Ix=>?_⟩
   have:=hv fz A h1 h2 h3 hA own j0 Ix;cases p<;>first|exact this|cases hnL
theorem Acb{f:ResultVar->Sem Value}:∀{rs:List ResultVar}{us:List Value},Bj (fun rv u=>(f rv).run P w=.ok u w) rs us->(rs.mapM f).run P w=.ok us w
 |[],[],_=>by simp
 |[],_::_,h=>h.elim
 |_::_,[],h=>h.elim
 |rv::rs,u::us,h=>by
  rw[List.mapM_cons];simp[h.1,Acb h.2]
theorem Ab5{fn:Func}{us:List Value}(h:Bj (Aau P a.tmps w) fn.results.toList us):(results fn a.tmps).run P w=.ok (J9 us) w:=by
 unfold results;rw[Array.mapM_eq_mapM_toList];simp only[map_eq_pure_bind,bind_assoc,pure_bind,Sem.run_bind];refine Eq.trans (congrArg (fun x=>Result.andThen x _) (Acb h)) ?_;simp only[Result.andThen_ok,Sem.run_pure]
 congr 1
 clear h
 match us with
 |[]=>rfl
 |[u]=>rfl
 |u::v::us=>exact dif_neg (by simp)
theorem Adc:∀{l:List (Option Nat)},Et (l.filterMap id)=true->∀{j j' i:Nat},l[j]?=some (some i)->l[j']?=some (some i)->j=j'
 |[],_,j,j',i,h,_=>by simp at h
 |q::l,hn,j,j',i,h,h'=>by
  have hn':Et (l.filterMap id)=true:=by
   cases q with
   |none=>exact hn
   |some x=>
    simp only[List.filterMap_cons,id_eq,Et,E0] at hn;exact hn.2
  have hq:∀(x k:Nat),q=some x->l[k]?≠some (some x):=by
   intro x k e hk;subst e;simp only[List.filterMap_cons,id_eq,Et,E0,Bool.not_eq_true'] at hn;exact Wi hn.1 (List.mem_filterMap.2 ⟨some x,List.mem_of_getElem? hk,rfl⟩)
  cases j with
  |zero=>
   cases j' with
   |zero=>rfl
   |succ k'=>
    simp at h h';exact absurd h' (hq i k' h)
  |succ k=>
   cases j' with
   |zero=>
    simp at h h';exact absurd h (hq i k h')
   |succ k'=>
    simp at h h';rw[Adc hn' h h']
theorem XF{C:G3}{f:FuncId}{fn:Func}{args:Ae}{res:A4}{w:World}{Y:Nat->Prop}{bt:HW}{us:List Value}(HX:Ins w Y bt args us){h8:∀k p,args[k]?=some p->HU p=true->k<8}{s':St}{a':Act}{w':World}{β':Bt}(hr:UF C P f fn args s'=some res)(h:Di fn.ntmps w (Agh bt args h8) Y β' s' a' w'):
  a'.defers=[]/\∃v,(results fn a'.tmps).run P w'=.ok v w'/\∃vs own,Ending.returned v=.returned (J9 vs)/\Out w w' Y bt args own res vs:=by
 unfold UF at hr;obtain⟨vs,l,z,us',TE,hus,hll,hL,hz,hv⟩:=RA h hr;obtain⟨os,l',z',q,UU,hL',hz',hq,hpi,Tj⟩:=V9 h (bt:=bt) (fun _=>rfl) TE (fun k p h1 h2=>by rw[Ip];exact⟨p,h1,h2⟩)
 obtain⟨hnd,hr3⟩:=Am UU;cases hr3;simp only[E0] at hnd;obtain⟨hnd,A2f⟩:=hnd;obtain⟨hn1,hn2,hn3⟩:=K4 hnd
 have JP:∀i∈z++z',i ∉ (l.filterMap id++l'.filterMap id)++q:=by
  intro i hi M8;have:=List.all_eq_true.1 A2f i hi;have h2:((l.filterMap id++l'.filterMap id)++q).any (Nat.beq i)=true:=List.any_eq_true.2 ⟨i,M8,Qq i⟩;rw[h2] at this;cases this
 have Amk:Qa s' (z++z'):=by
  intro i hi;rcases Bx.1 hi with hi|hi
  ·exact hz i hi
  ·exact hz' i hi
 refine⟨h.dfr,J9 us',Ab5 hus,us',Oz β' (l++l'),rfl,?_⟩;have Bee:Et ((l++l').filterMap id)=true:=by rw[List.filterMap_append];exact hn1
 have Ix:∀j b o,Oz β' (l++l') j=some (b,o)->∃id,(l++l')[j]?=some (some id)/\β' id=some (b,o):=by
  intro j b o hj;unfold Oz at hj;cases hlj:(l++l')[j]? with
  |none=>rw[hlj] at hj;cases hj
  |some q=>
   cases q with
   |none=>rw[hlj] at hj;cases hj
   |some id=>
    rw[hlj] at hj;exact⟨id,rfl,hj⟩
 have Sw:∀(j i:Nat),(l++l')[j]?=some (some i)->i∈l.filterMap id++l'.filterMap id:=by
  intro j i hj;rw[<-List.filterMap_append];exact List.mem_filterMap.2 ⟨some i,List.mem_of_getElem? hj,rfl⟩
 have Ia:∀(j i:Nat),(l++l')[j]?=some (some i)->D3 (s'.hp i):=by
  intro j i hj;rcases Bx.1 (List.mem_of_getElem? hj) with M8|M8
  ·exact hL i M8
  ·obtain⟨c,hc⟩:=hL' i M8;rw[hc];trivial
 have Aze:∀i,i∈(l.filterMap id++l'.filterMap id)++q->Af s'.hp (z++z') i=s'.hp i:=by
  intro i hi;rw[Cg,Br (fun M8=>JP i M8 hi)]
 have Azi:∀i b o,bt i 0=some (b,o)->Eb fn.ntmps i∈q/\D3 (s'.hp (Eb fn.ntmps i))/\β' (Eb fn.ntmps i)=some (b,o):=by
  intro i b o ZE;obtain⟨p,h1,h2⟩:=HX.l0 i _ ZE;have h3:=hpi i p h1 h2;rw[Ip] at h3;exact⟨h3,hq _ h3,(h.pin i ⟨p,h1,h2⟩).2.trans ZE⟩
 have hAO:∀b,QQ bt (Oz β' (l++l')) Y b->D2 (Af s'.hp (z++z')) β' Y b:=by
  rintro b (⟨j,o,hj⟩|⟨i,o,ZE⟩|hY)
  ·obtain⟨id,h1,h2⟩:=Ix j b o hj;refine .inl ⟨id,o,?_,h2⟩;rw[Aze id (Bx.2 (.inl (Sw j id h1)))];exact Ia j id h1
  ·obtain⟨h1,h2,h3⟩:=Azi i b o ZE;refine .inl ⟨_,o,?_,h3⟩;rw[Aze _ (Bx.2 (.inr h1))];exact h2
  ·exact .inr hY
 have DF:∀(j id b o:Nat),(l++l')[j]?=some (some id)->β' id=some (b,o)->b<w.heap.size->∃i k o',bt i (k+1)=some (b,o'):=by
  intro j id b o hj hβ Cq;rcases h.ownd b ⟨id,o,Ia j id hj,hβ⟩ with⟨i,k,o',ZE⟩|hge
  ·cases k with
   |zero=>
    obtain⟨h1,h2,h3⟩:=Azi i b o' ZE;have:=h.inj id _ b o o' (Ia j id hj) h2 hβ h3;subst this;exact absurd h1 (hn3 _ (Sw j _ hj))
   |succ k=>exact⟨i,k,o',ZE⟩
  ·omega
 refine⟨h.fr.os,h.fr.tape,h.fr.output,h.fr.step,h.fr.rng,?_,?_,?_,?_⟩
 ·refine hv (z++z') _ _ (fun i hi=>Bx.2 (.inl hi)) Amk hAO (fun id c b o hi hc hβ=>?_) _ 0 (fun j hj=>by rw[Ip,DM hj]);rcases Ik b w.heap.size with Cq|hge
  ·obtain⟨k,Pk,p,h1,h2⟩:=h.stp id c b o hc hβ Cq;have h3:=hpi k p h1 h2;rw[Ip,<-Pk] at h3;obtain⟨j,hj⟩:=List.mem_iff_getElem?.1 hi;refine absurd h3 (hn3 id ?_);exact Bx.2 (.inl (List.mem_filterMap.2 ⟨some id,hi,rfl⟩))
  ·exact hge
 ·refine Tj (z++z') _ (fun i hi=>Bx.2 (.inr hi)) Amk (fun i hi M8=>JP i M8 (Bx.2 (.inr hi))) hAO _ _ (fun j hj=>?_);rw[<-hll,CW]
 ·intro j b o hj;obtain⟨id,h1,h2⟩:=Ix j b o hj;refine⟨h.blt id b o (Dp (Ia j id h1)) h2,fun Cq=>⟨DF j id b o h1 h2 Cq,fun x hx=>?_⟩⟩;cases Pm:s'.hp id with
  |none=>have:=Ia j id h1;rw[Pm] at this;exact this.elim
  |some bx=>
   have QF:=Ia j id h1;rw[Pm] at QF;cases bx with
   |st c=>
    obtain⟨k,Pk,p,h3,h4⟩:=h.stp id c b o Pm h2 Cq;have h5:=hpi k p h3 h4;rw[Ip,<-Pk] at h5;exact absurd h5 (hn3 _ (Sw j _ h1))
   |ar fz c=>exact h.rngB id _ b o Pm QF h2 Cq x hx
   |mv=>exact QF.elim
 ·intro j j' b o o' hj Ya;obtain⟨id,h1,h2⟩:=Ix j b o hj;obtain⟨id',h1',h2'⟩:=Ix j' b o' Ya;have:=h.inj id id' b o o' (Ia j id h1) (Ia j' id' h1') h2 h2';subst this;exact Adc Bee h1 h1'
theorem Ag8{G:CK}(Oc:NoNG P)(hm:P.follows .mixedOrders=true){C:G3}{fu:Nat}{call:Aq}(Ez:∀f args res,call f args=some res->C6 G P f args res){f:FuncId}{fn:Func}{c:Code}(hf:P.funcs[f]?=some fn)(hb:fn.body=some c){args:Ae}{res:A4}(hk:Al2 C P fu call f fn c args=some res):C6 G P f args res:=by
 refine⟨⟨fn,hf,by rw[hb];rfl⟩,fun w Y bt us HX hG hGY=>?_⟩
 unfold Al2 at hk;obtain⟨tms,bs,E8,Hr⟩:=Anl HX hk;obtain⟨F3,F2⟩:=Am E8;simp only[E0] at F3
 have Eh:us.length<=fn.ntmps:=by
  rw[<-HX.args.len];exact Pf F3.1
 obtain⟨h8,β0,hs⟩:=Hr F3.2 Eh;refine calls_of_wp hf hb ?_;have hE:Env P G w (Agh bt args h8):=⟨Oc,fun w' hfr=>G.stable w w' (fun b hb Cq=>hfr.step.keep b Cq (hGY b hb).2) hG,hGY⟩
 refine Ags hE Ez hm c hs F2 (fun s' a' w' β' hr h=>XF HX hr h) (fun id s' a' w' β' hr h=>by cases hr) (fun s' a' w' β' hr h=>XF HX hr h)
def GX(G:CK)(P:Program)(C:G3):Prop:=∀f g args res,C.ext f=some g->g args=some res->C6 G P f args res
theorem Dm{G:CK}(Oc:NoNG P)(hm:P.follows .mixedOrders=true){C:G3}(hx:GX G P C){fu:Nat}:∀(d:Nat)(f:FuncId)(args:Ae)(res:A4),Ac C P fu d f args=some res->C6 G P f args res
 |0,_,_,_,h=>by cases h
 |d+1,f,args,res,h=>by
  unfold Ac at h;split at h
  ·rename_i g hg;exact hx f g args res hg h
  ·split at h
   ·cases h
   ·rename_i fn hf;split at h
    ·cases h
    ·rename_i c hb;exact Ag8 Oc hm (Dm Oc hm hx d) hf hb h
end
open Go.ChangeShapes Go.WideShapes Go.ChangeAt Go.RowKit Go.Deep
def Aa3(P:Program):List Field->Nat->Nat->Bool
 |[],i,n=>Nat.beq i n
 |f::r,i,n=>Nat.beq f.offset i&&Aa3 P r (i+P.cellsOf f.type) n
def Qu(P:Program):Nat->TypeId->Bool
 |0,_=>false
 |d+1,t=>
  match P.underlying t with
  |some .bool=>true
  |some (.int _)=>true
  |some .string=>true
  |some (.slice e)=>Qu P d e&&Nat.blt 0 (P.cellsOf e)
  |some (.struct fs)=>Aa3 P fs.toList 0 (P.cellsOf t)&&fs.toList.all fun f=>Qu P d f.type
  |some (.array n e)=>Nat.beq (P.cellsOf t) (n*P.cellsOf e)&&Qu P d e
  |_=>false
def WT(P:Program):Nat->TypeId->Ae->Prop
 |0,_,_=>False
 |d+1,t,ps=>
  match P.underlying t with
  |some .bool=>∃b,ps=[.sc (.bool b)]
  |some (.int k)=>∃n,ps=[.sc (.int k n)]/\(Lit.int k n).wf=true
  |some .string=>∃s:ByteArray,ps=[.sc (.string s)]/\s.size<=maxLen
  |some (.slice e)=>∃rows:List Ae,ps=[.lst false (P.cellsOf e) rows.length rows.flatten]/\rows.length<=maxLen/\∀r∈rows,r.length=P.cellsOf e/\WT P d e r
  |some (.struct fs)=>∃rows:List Ae,ps=rows.flatten/\Bj (fun f r=>WT P d f.type r) fs.toList rows
  |some (.array n e)=>∃rows:List Ae,ps=rows.flatten/\rows.length=n/\∀r∈rows,r.length=P.cellsOf e/\WT P d e r
  |_=>False
def WTv(P:Program)(t:TypeId)(p:PV):Prop:=
 match Ch P t with
 |true=>∃ps,p=.agg ps/\WT P 12 t ps
 |false=>WT P 12 t [p]
section
variable {P:Program}{d:Nat}{t e:TypeId}{ps:Ae}
theorem Ai5(hu:P.underlying t=some .bool):WT P (d+1) t ps↔∃b,ps=[.sc (.bool b)]:=by show (match P.underlying t with|some .bool=>_|some (.int k)=>_|some .string=>_|some (.slice e)=>_|some (.struct fs)=>_|some (.array n e)=>_|_=>_)↔_;rw[hu]
theorem As1{k:IntKind}(hu:P.underlying t=some (.int k)):WT P (d+1) t ps↔∃n,ps=[.sc (.int k n)]/\(Lit.int k n).wf=true:=by show (match P.underlying t with|some .bool=>_|some (.int k)=>_|some .string=>_|some (.slice e)=>_|some (.struct fs)=>_|some (.array n e)=>_|_=>_)↔_;rw[hu]
theorem WU(hu:P.underlying t=some .string):WT P (d+1) t ps↔∃s:ByteArray,ps=[.sc (.string s)]/\s.size<=maxLen:=by show (match P.underlying t with|some .bool=>_|some (.int k)=>_|some .string=>_|some (.slice e)=>_|some (.struct fs)=>_|some (.array n e)=>_|_=>_)↔_;rw[hu]
theorem Abx(hu:P.underlying t=some (.slice e)):WT P (d+1) t ps↔∃rows:List Ae,ps=[.lst false (P.cellsOf e) rows.length rows.flatten]/\rows.length<=maxLen/\∀r∈rows,r.length=P.cellsOf e/\WT P d e r:=by show (match P.underlying t with|some .bool=>_|some (.int k)=>_|some .string=>_|some (.slice e)=>_|some (.struct fs)=>_|some (.array n e)=>_|_=>_)↔_;rw[hu]
theorem Aoc{fs:Array Field}(hu:P.underlying t=some (.struct fs)):WT P (d+1) t ps↔∃rows:List Ae,ps=rows.flatten/\Bj (fun f r=>WT P d f.type r) fs.toList rows:=by show (match P.underlying t with|some .bool=>_|some (.int k)=>_|some .string=>_|some (.slice e)=>_|some (.struct fs)=>_|some (.array n e)=>_|_=>_)↔_;rw[hu]
theorem Aqy{n:Nat}(hu:P.underlying t=some (.array n e)):WT P (d+1) t ps↔∃rows:List Ae,ps=rows.flatten/\rows.length=n/\∀r∈rows,r.length=P.cellsOf e/\WT P d e r:=by show (match P.underlying t with|some .bool=>_|some (.int k)=>_|some .string=>_|some (.slice e)=>_|some (.struct fs)=>_|some (.array n e)=>_|_=>_)↔_;rw[hu]
end
inductive Ki where
 |bool
 |int (k:IntKind)
 |str
 |sl (e:TypeId)
 |st (ts:List TypeId)
 |ar (n:Nat) (e:TypeId)
 |no
def K1(P:Program)(t:TypeId):Ki:=
 match P.underlying t with
 |some .bool=>.bool
 |some (.int k)=>.int k
 |some .string=>.str
 |some (.slice e)=>.sl e
 |some (.struct fs)=>.st (fs.toList.map (·.type))
 |some (.array n e)=>.ar n e
 |_=>.no
section
variable {P:Program}{d:Nat}{t e:TypeId}{ps:Ae}{p:PV}
theorem Bj.cons_inv{α β:Type}{R:α->β->Prop}{a:α}{zs:List α}:∀{rs:List β},Bj R (a::zs) rs->∃r rs',rs=r::rs'/\R a r/\Bj R zs rs'
 |[],h=>h.elim
 |r::rs,h=>⟨r,rs,rfl,h.1,h.2⟩
theorem Bj.nil_inv{α β:Type}{R:α->β->Prop}:∀{rs:List β},Bj R ([]:List α) rs->rs=[]
 |[],_=>rfl
 |_::_,h=>h.elim
theorem Awr(hk:K1 P t=.bool)(h:WT P d t ps):∃b,ps=[.sc (.bool b)]:=by
 cases d with
 |zero=>exact h.elim
 |succ d=>
 unfold K1 at hk;split at hk<;>first|cases hk|skip
 rename_i hu;exact (Ai5 hu).1 h
theorem Ap9{k:IntKind}(hk:K1 P t=.int k)(h:WT P d t ps):∃n,ps=[.sc (.int k n)]/\(Lit.int k n).wf=true:=by
 cases d with
 |zero=>exact h.elim
 |succ d=>
 unfold K1 at hk;split at hk<;>first|cases hk|skip
 rename_i hu;exact (As1 hu).1 h
theorem A4a(hk:K1 P t=.str)(h:WT P d t ps):∃s:ByteArray,ps=[.sc (.string s)]/\s.size<=maxLen:=by
 cases d with
 |zero=>exact h.elim
 |succ d=>
 unfold K1 at hk;split at hk<;>first|cases hk|skip
 rename_i hu;exact (WU hu).1 h
theorem A6d(hk:K1 P t=.sl e)(h:WT P d t ps):∃rows:List Ae,ps=[.lst false (P.cellsOf e) rows.length rows.flatten]/\rows.length<=maxLen/\∀r∈rows,r.length=P.cellsOf e/\WT P (d-1) e r:=by
 cases d with
 |zero=>exact h.elim
 |succ d=>
 rw[Nat.add_sub_cancel];unfold K1 at hk;split at hk<;>first|cases hk|skip
 rename_i hu;exact (Abx hu).1 h
theorem NW(hk:Ch P t=false)(h:WTv P t p):WT P 12 t [p]:=by unfold WTv at h;rw[hk] at h;exact h
theorem Ary(ha:Ch P t=false)(hk:K1 P t=.bool)(h:WTv P t p):∃b,p=.sc (.bool b):=by obtain⟨b,e⟩:=Awr hk (NW ha h);exact⟨b,by injection e⟩
theorem Aar{k:IntKind}(ha:Ch P t=false)(hk:K1 P t=.int k)(h:WTv P t p):∃n,p=.sc (.int k n)/\(Lit.int k n).wf=true:=by obtain⟨b,e,h⟩:=Ap9 hk (NW ha h);exact⟨b,by injection e,h⟩
theorem Awa(ha:Ch P t=false)(hk:K1 P t=.str)(h:WTv P t p):∃s:ByteArray,p=.sc (.string s)/\s.size<=maxLen:=by obtain⟨b,e,h⟩:=A4a hk (NW ha h);exact⟨b,by injection e,h⟩
theorem LK{α:Type}(f:α->Ae)(Q:α->Prop):∀{rows:List Ae},(∀r∈rows,∃x,r=f x/\Q x)->∃xs:List α,rows.flatten=xs.flatMap f/\rows.length=xs.length/\∀x∈xs,Q x
 |[],_=>⟨[],rfl,rfl,by simp⟩
 |r::rows,h=>by
  obtain⟨x,h1,h2⟩:=h r (by simp);obtain⟨xs,h3,h4,h5⟩:=LK (rows:=rows) f Q fun r hr=>h r (by simp[hr]);refine⟨x::xs,by simp[h1,h3],by simp[h4],fun y hy=>?_⟩;rcases List.mem_cons.1 hy with rfl|hy
  ·exact h2
  ·exact h5 y hy
end
abbrev No:Nat->Prop:=fun _=>False
section
variable {H:Type}{enc:TypeId × Value->H}{P:Program}{w:World}{base:Nat}{held:Bool}
theorem Bj.flat{α β:Type}{R:α->β->Prop}:∀{l:B2}{f:Nat->List α}{g:Nat->List β},(∀i∈l,Bj R (f i) (g i))->Bj R (l.map f).flatten (l.map g).flatten
 |[],_,_,_=>trivial
 |i::l,f,g,h=>by
  simp only[Vv,List.flatten_cons];exact (h i (by simp)).app (Bj.flat fun j hj=>h j (by simp[hj]))
theorem Am9{a:Addr}{v:Value}(h:w.cell? a=some v):a.spot=none/\a.block<w.heap.size:=by
 unfold World.cell? at h;split at h
 ·rename_i c t f e;refine⟨?_,?_⟩
  ·cases hs:a.spot with
   |none=>rfl
   |some x=>rw[hs] at h;simp at h
  ·rcases Ik a.block w.heap.size with h1|h1
   ·exact h1
   ·rw[Array.getElem?_eq_none h1] at e;cases e
 ·cases h
theorem RM{α:Type}{g:Nat->List α}{es:Nat}:∀{n:Nat},(∀i,i<n->(g i).length=es)->((List.range n).map g).flatten.length=n*es
 |0,_=>by simp
 |n+1,h=>by
  rw[List.range_succ,List.map_append,List.flatten_append,Vo,RM (fun i hi=>h i (by omega))];simp[h n (by omega),Nat.succ_mul]
theorem RK{a:Addr}{g:Nat->List Value}{es:Nat}:∀{n:Nat},(∀i,i<n->(g i).length=es)->(∀i,i<n->∀k,k<es->w.cell? (a.add (i*es+k))=(g i)[k]?) ->
  ∀j,j<n*es->w.cell? (a.add j)=(((List.range n).map g).flatten)[j]?
 |0,_,_,j,hj=>by omega
 |n+1,hl,hc,j,hj=>by
  have LH:=RM (fun i (hi:i<n)=>hl i (by omega));rw[List.range_succ,List.map_append,List.flatten_append,List.getElem?_append,LH];rw[Nat.succ_mul] at hj;split
  ·rename_i h1;exact RK (fun i hi=>hl i (by omega)) (fun i hi=>hc i (by omega)) j h1
  ·rename_i h1;have:=hc n (by omega) (j-n*es) (by omega);rw[show n*es+(j-n*es)=j by omega] at this
   simpa using this
abbrev TR(w:World)(c:PV)(v:Value):Prop:=(CJ c/\Au w No c v)/\v.oneCell'=true
theorem LM{d:Nat}{cs:List Value}{n:Nat}(hn:cs.length=n):∀(l:List Field)(i:Nat),Aa3 P l i n=true ->
  (∀f∈l,∃ps,WT P d f.type ps/\Bj (TR w) ps ((cs.drop f.offset).take (P.cellsOf f.type)))->∃rows:List Ae,Bj (fun f r=>WT P d f.type r) l rows/\Bj (TR w) rows.flatten (cs.drop i)
 |[],i,ho,_=>by
  have:=Dc ho;refine⟨[],trivial,?_⟩;rw[List.drop_of_length_le (by omega)];trivial
 |f::l,i,ho,h=>by
  simp only[Aa3,E0] at ho;have ho1:=Dc ho.1;obtain⟨ps,h1,h2⟩:=h f (by simp);obtain⟨rows,h3,h4⟩:=LM hn l _ ho.2 fun g hg=>h g (by simp[hg]);refine⟨ps::rows,⟨h1,h3⟩,?_⟩;rw[ho1] at h2;have:cs.drop i=(cs.drop i).take (P.cellsOf f.type)++cs.drop (i+P.cellsOf f.type):=by rw[<-List.drop_drop];exact (List.take_append_drop _ _).symm
  rw[this,List.flatten_cons];exact h2.app h4
theorem SO{d:Nat}{e:TypeId}{cs:List Value}{k:Nat}:∀(n:Nat),n*k<=cs.length ->
  (∀i,i<n->∃ps,(ps.length=k/\WT P d e ps)/\Bj (TR w) ps ((cs.drop (i*k)).take k))->∃rows:List Ae,rows.length=n/\(∀r∈rows,r.length=k/\WT P d e r)/\Bj (TR w) rows.flatten (cs.take (n*k))
 |0,_,_=>⟨[],rfl,by simp,by simp[Bj]⟩
 |n+1,hl,h=>by
  rw[Nat.succ_mul] at hl;obtain⟨rows,h1,h2,h3⟩:=SO n (by omega) fun i hi=>h i (by omega);obtain⟨ps,h4,h5⟩:=h n (by omega);refine⟨rows++[ps],by simp[h1],?_,?_⟩
  ·intro r hr;rcases Bx.1 hr with hr|hr
   ·exact h2 r hr
   ·rw[R8.1 hr];exact h4
  ·rw[List.flatten_append,Nat.succ_mul,List.take_add];refine h3.app ?_
   simpa using h5
theorem AP:∀(d:Nat)(t:TypeId),Qu P d t=true->∀(fuel:Nat)(cs:List Value)(x:DataW H × List MemPlace),DataW.trod enc P w base (fun _=>true) held fuel t cs=some x ->
  ∃ps,WT P d t ps/\Bj (TR w) ps cs
 |0,_,h,_,_,_,_=>by cases h
 |d+1,t,hp,fuel,cs,x,h=>by
  unfold Qu at hp;split at hp
  ·rename_i hu;obtain⟨b,rfl,_⟩:=DataW.trod_bool hu h;simp only[Ai5 hu];exact⟨[.sc (.bool b)],⟨b,rfl⟩,⟨⟨trivial,Au.sc _⟩,rfl⟩,trivial⟩
  ·rename_i k hu;obtain⟨n,rfl,_,hw⟩:=DataW.trod_int hu h;simp only[As1 hu];exact⟨[.sc (.int k n)],⟨n,rfl,hw⟩,⟨⟨trivial,Au.sc _⟩,rfl⟩,trivial⟩
  ·rename_i hu;obtain⟨s,rfl,_,hw⟩:=DataW.trod_string hu h;simp only[WU hu];exact⟨[.sc (.string s)],⟨s,rfl,hw⟩,⟨⟨trivial,Au.sc _⟩,rfl⟩,trivial⟩
  ·rename_i e hu;simp only[E0] at hp;have BH:0<P.cellsOf e:=Nat.lt_of_succ_le (Pf hp.2);simp only[Abx hu];rcases open_slice hu h with⟨rfl,_⟩|⟨a,len,cap,m,n,D,Pl,rfl,_,hl,hm,hmm,_,hi⟩
   ·exact⟨[.lst false (P.cellsOf e) 0 []],⟨[],by simp,by simp,by simp⟩,⟨⟨trivial,Au.lnil _ _⟩,rfl⟩,trivial⟩
   ·simp only[if_true] at hmm;subst hmm
    have hi':∀i,i<len->∃q:Ae × List Value,(q.2.length=P.cellsOf e/\(∀k,k<P.cellsOf e->w.cell? (a.add (i*P.cellsOf e+k))=q.2[k]?))/\WT P d e q.1/\Bj (TR w) q.1 q.2:=by
     intro i Cq;obtain⟨cs',hc,ht⟩:=hi i (by omega);obtain⟨_,Se,hat⟩:=World.cells?_some hc;obtain⟨ps,h1,h2⟩:=AP d e hp.1 _ _ _ ht;exact⟨(ps,cs'),⟨Se,fun k hk=>by rw[<-Pv.add_add];exact hat k hk⟩,h1,h2⟩
    obtain⟨F,hF⟩:=choose_lt hi';refine⟨[.lst false (P.cellsOf e) len ((List.range len).map fun i=>(F i).1).flatten],⟨(List.range len).map fun i=>(F i).1,by simp,by simp;omega,?_⟩,⟨⟨trivial,?_⟩,rfl⟩,trivial⟩
    ·intro r hr;obtain⟨i,hi1,rfl⟩:=List.mem_map.1 hr;have hi2:=List.mem_range.1 hi1;exact⟨by rw[(hF i hi2).2.2.len];exact (hF i hi2).1.1,(hF i hi2).2.1⟩
    ·rcases Nat.eq_zero_or_pos len with h0|h0
     ·subst h0;exact Au.lemp _ _ _
     ·have Sv:Bj (TR w) ((List.range len).map fun i=>(F i).1).flatten ((List.range len).map fun i=>(F i).2).flatten:=Bj.flat fun i hi=>(hF i (List.mem_range.1 hi)).2.2;have hcell:=RK (w:=w) (a:=a) (g:=fun i=>(F i).2) (fun i hi=>(hF i hi).1.1) (fun i hi=>(hF i hi).1.2);have Eh:=RM (g:=fun i=>(F i).2) (fun i (hi:i<len)=>(hF i hi).1.1)
      have h00:w.cell? a≠none:=by
       have:=hcell 0 (Nat.mul_pos h0 BH);rw[show a.add 0=a by unfold Addr.add;simp] at this
       rw[this,List.getElem?_eq_getElem (by rw[Eh];exact Nat.mul_pos h0 BH)]
       simp
      obtain⟨v0,hv0⟩:=Option.ne_none_iff_exists'.1 h00;obtain⟨hs,hb⟩:=Am9 hv0
      have key:∀j c,(((List.range len).map fun i=>(F i).1).flatten)[j]?=some c->∃v,w.cell? (a.add j)=some v/\TR w c v:=by
       intro j c hj
       have hlj:j<len*P.cellsOf e:=by
        rw[<-Eh,<-Sv.len];rcases Ik j (((List.range len).map fun i=>(F i).1).flatten).length with h1|h1
        ·exact h1
        ·rw[List.getElem?_eq_none h1] at hj;cases hj
       have h1:=hcell j hlj;rw[List.getElem?_eq_getElem (by rw[Eh];exact hlj)] at h1
       exact⟨_,h1,Sv.at_ hj (List.getElem?_eq_getElem (by rw[Eh];exact hlj))⟩
      refine Au.lst _ _ _ a _ (fun j=>(w.cell? (a.add j)).getD undef) hs hb (fun h=>h) hl (fun j c hj=>?_) (fun j c hj=>?_) (fun j c hj=>?_)
      ·obtain⟨v,hv,_⟩:=key j c hj;rw[hv];rfl
      ·obtain⟨v,hv,ht⟩:=key j c hj;rw[hv];exact ht.2
      ·obtain⟨v,hv,ht⟩:=key j c hj;rw[hv];exact ht.1.2
  ·rename_i fs hu;simp only[E0] at hp;simp only[Aoc hu];obtain⟨xs,n,_,_,Eh,hxl,hf⟩:=DataW.trod_struct hu h
   obtain⟨rows,h1,h2⟩:=LM (P:=P) (w:=w) (d:=d) Eh fs.toList 0 hp.1 fun f hf'=>by
    obtain⟨i,hi⟩:=List.mem_iff_getElem?.1 hf';have hi':fs[i]?=some f:=by simpa using hi
    have Cq:i<fs.size:=(Array.getElem?_eq_some_iff.1 hi').1;have h3:=hf i f hi';rw[List.getElem?_eq_getElem (by omega)] at h3;exact AP d f.type (List.all_eq_true.1 hp.2 f hf') _ _ _ h3
   exact⟨_,⟨rows,rfl,h1⟩,by simpa using h2⟩
  ·rename_i n e hu;simp only[E0] at hp;simp only[Aqy hu];obtain⟨xs,m,_,_,Eh,hxl,hf⟩:=DataW.trod_array hu h;have Tq:=Dc hp.1
   obtain⟨rows,h1,h2,h3⟩:=SO (P:=P) (w:=w) (d:=d) (e:=e) (cs:=cs) (k:=P.cellsOf e) n (by omega) fun i hi=>by
    have h3:=hf i hi;rw[List.getElem?_eq_getElem (by omega)] at h3;obtain⟨ps,h4,h5⟩:=AP d e hp.2 _ _ _ h3;refine⟨ps,⟨?_,h4⟩,h5⟩;rw[h5.len,List.length_take,List.length_drop,Eh,Tq];have:(i+1)*P.cellsOf e<=n*P.cellsOf e:=Nat.mul_le_mul_right _ hi;rw[Nat.succ_mul] at this;omega
   refine⟨_,⟨rows,rfl,h1,h2⟩,?_⟩;rw[H5 (by omega)] at h3;exact h3
  ·cases hp
theorem Aso{r:Reach}{b0:Nat}{t:TypeId}{v:Value}{dd:DataW H}{p:List MemPlace}(hp:Qu P 12 t=true)(hv:Value.okWide P w r b0 t v)(h:DataW.Trod enc P w base (fun _=>true) held t v dd p):
  ∃q,WTv P t q/\V7 w No q v:=by
 obtain⟨fuel,hf⟩:=h;obtain⟨ps,h1,h2⟩:=AP 12 t hp fuel _ _ hf;unfold WTv Ch
 have two:∀{cs:Array Value},v=.agg cs->∃q,(∃ps,q=.agg ps/\WT P 12 t ps)/\V7 w No q v:=by
  intro cs e;subst e;exact⟨.agg ps,⟨ps,rfl,h1⟩,cs.toList,by simp,h2.mono fun c v h=>h.1⟩
 have one:v.cells.toList=[v]->∃q,WT P 12 t [q]/\V7 w No q v:=by
  intro e;rw[e] at h2
  match ps,h2 with
  |[q],h2=>
   refine⟨q,h1,?_⟩;have h3:=h2.1.1;cases q<;>first|exact h3|exact h3.1.elim
  |[],h2=>exact h2.elim
  |_::_::_,h2=>exact h2.2.elim
 unfold Qu at hp;split at hp
 ·rename_i hu;simp only[hu];obtain⟨b,rfl,_⟩:=open_bool hu hv ⟨fuel,hf⟩;exact one rfl
 ·rename_i k hu;simp only[hu];obtain⟨b,rfl,_⟩:=open_int hu hv ⟨fuel,hf⟩;exact one rfl
 ·rename_i hu;simp only[hu];obtain⟨b,rfl,_⟩:=ChangeMaps.open_string hu hv ⟨fuel,hf⟩;exact one rfl
 ·rename_i e hu;simp only[hu];obtain⟨a,len,cap,rfl⟩:=okWide_slice hu hv;exact one rfl
 ·rename_i fs hu;simp only[hu];obtain⟨cs,rfl,_⟩:=okWide_struct hu hv;exact two rfl
 ·rename_i n e hu;simp only[hu];unfold Value.okWide at hv;simp only[hu] at hv;obtain⟨cs,rfl,_⟩:=hv;exact two rfl
 ·cases hp
theorem WI:∀{ts:List TypeId}{vs:List Value}{ds:List (DataW H)} {p:List MemPlace}{r:Reach}{b0:Nat},(ts.all fun t=>Qu P 12 t)=true->(∀(j:Nat) t v,ts[j]?=some t->vs[j]?=some v->Value.okWide P w r b0 t v) ->
  DataW.TrodAll enc P w base (fun _=>true) held ts vs ds p->∃qs,Bj (WTv P) ts qs/\Bj (V7 w No) qs vs
 |[],[],[],_,_,_,_,_,_=>⟨[],trivial,trivial⟩
 |t::ts,v::vs,d::ds,_,r,b0,hp,hv,⟨p,q,h1,h2,_⟩=>by
  simp only[List.all_cons,E0] at hp;obtain⟨x,h3,h4⟩:=Aso hp.1 (hv 0 t v rfl rfl) h1;obtain⟨xs,h5,h6⟩:=WI hp.2 (fun j t v ht Tj=>hv (j+1) t v ht Tj) h2;exact⟨x::xs,⟨h3,h5⟩,h4,h6⟩
 |[],_::_,_,_,_,_,_,_,h=>by cases h
 |[],[],_::_,_,_,_,_,_,h=>by cases h
 |_::_,[],_,_,_,_,_,_,h=>by cases h
 |_::_,_::_,[],_,_,_,_,_,h=>by cases h
theorem CL(hl:laidOutB P=true){W W':World}{sp:Nat->Bool}:∀{ts:List TypeId}{vs:List Value}{ds:List (DataW H)} {p:List MemPlace},(ts.all fun t=>P.readableRec t&&Nat.blt t P.types.size)=true ->
  DataW.TrodAll enc P W 0 (fun _=>true) true ts vs ds p->(∀x∈p,W.sameAt W' x)->(∀x∈p,sp x.block=true)->DataW.TrodAll enc P W' 0 sp true ts vs ds p
 |[],[],[],_,_,h,_,_=>h
 |t::ts,v::vs,d::ds,_,hr,⟨p,q,h1,h2,e⟩,hs,hsp=>by
  simp only[List.all_cons,E0] at hr;refine⟨p,q,WideElems.Trod_stays hl hr.1.1 (Nat.lt_of_succ_le (Pf hr.1.2)) h1 (fun x hx=>hs x ?_) (fun x hx=>hsp x ?_),CL hl hr.2 h2 (fun x hx=>hs x ?_) (fun x hx=>hsp x ?_),e⟩
  all_goals rw[e,Bx]
  ·exact .inl hx
  ·exact .inl hx
  ·exact .inr hx
  ·exact .inr hx
 |[],_::_,_,_,_,h,_,_=>by cases h
 |[],[],_::_,_,_,h,_,_=>by cases h
 |_::_,[],_,_,_,h,_,_=>by cases h
 |_::_,_::_,[],_,_,h,_,_=>by cases h
theorem TX{f:Func}{s:ChangeSpec}{apart fresh ZJ again:Bool}{W W':World}{args:Array Value}{v:Value}{ds gs:List (DataW H)}{before pa pv:List MemPlace}(hW:DataW.Whole enc P f.params.toList s.vars apart W args.toList ds gs before)(A65:∀(b:Nat)(sp:Nat->Bool)(hd:Bool),DataW.TrodAll enc P W' b sp hd f.resultTypes.toList (v.resultList f.resultTypes.size) (s.fn H (ds++gs)).results [])(F6:∀sp:Nat->Bool,(∀p∈before,sp p.block=true)->DataW.TrodAll enc P W' 0 sp true f.params.toList args.toList (s.fn H (ds++gs)).args pa)(Adi:∀sp:Nat->Bool,(∀p∈before,sp p.block=true)->DataW.TrodVars enc P W' sp s.vars (s.fn H (ds++gs)).vars pv)(ME:before=pa++pv)(hb:Below W.heap.size W W')(hok:∀(j:Nat)(t:TypeId)(r:Value),f.resultTypes[j]?=some t->(v.resultList f.resultTypes.size)[j]?=some r->Value.okWide P W' .any 0 t r):
  s.post enc P f apart fresh ZJ again W args v W':=by
 have Cq:∀p∈before,p.block<W.heap.size:=fun p hp=>hW.lt p hp;have hold:∀p∈before,(fun b=>decide (b<W.heap.size)) p.block=true:=fun p hp=>by simpa using Cq p hp
 refine⟨ds,gs,before,[],pa,pv,hW,A65 _ _ _,F6 _ hold,Adi _ hold,World.keptBut_mono (fun p hp=>⟨hp,?_⟩) (hb.frame (· ∈ before)),fun _=>?_⟩
 ·rw[ME,Bx] at hp;exact Or.inr hp
 ·obtain⟨_,_,_,_,_,hz,hn⟩:=hW;refine⟨hok,_,_,([]++pa)++pv,⟨[]++pa,pv,trodAll_append (F6 _ (fun _ _=>rfl)) (A65 _ _ _),Adi _ (fun _ _=>rfl),rfl,?_,?_⟩,?_⟩
  ·intro b off hp;have HX:MemPlace.cell b off∈before:=by rw[ME];simpa using hp
   rw[hb.frozen (Cq _ HX)];exact hz b off HX
  ·intro ha;have:=hn ha;rw[ME] at this
   simpa using this
  ·intro p hp _;rw[ME]
   simpa using hp
theorem law_contract{G:CK}{C:G3}(hx:GX G P C)(Oc:NoNG P)(hm:P.follows .mixedOrders=true)(hl:laidOutB P=true){f:FuncId}{fn:Func}{s:ChangeSpec}{tb:TypeId}(hfn:P.funcs[f]?=some fn)(Adi:s.vars=[])(Baa:∀ds:List (DataW H),ds.length=fn.params.size->s.fn H ds={ results:=[.lit (.bool true)],args:=ds })(A35:(fn.params.toList.all fun t=>Qu P 12 t)=true)(A9w:(fn.params.toList.all fun t=>P.readableRec t&&Nat.blt t P.types.size)=true)(hrt:fn.resultTypes = #[tb])(hub:P.underlying tb=some .bool){apart fresh ZJ again:Bool}(W:World)(base:Nat)(args:Array Value)(ds gs:List (DataW H))(before:List MemPlace)(hval:∀(j:Nat) t v,fn.params[j]?=some t->args[j]?=some v->Value.okWide P W .any base t v)(hW:DataW.Whole enc P fn.params.toList s.vars apart W args.toList ds gs before)(Bem:∀qs:Ae,Bj (WTv P) fn.params.toList qs->∃fu d,Ac C P fu d f qs=some ⟨[.sc (.bool true)],[]⟩)(hG:G.ok W)(hGY:∀b,G.bl b->b<W.heap.size):
  Calls P f args W fun e W'=>∃v,e=.returned v/\s.post enc P fn apart fresh ZJ again W args v W':=by
 have hW':=hW;obtain⟨p,q,hA,hV,rfl,JP,hnd⟩:=hW;rw[Adi] at hV;obtain⟨rfl,rfl⟩:=trodVars_none hV;obtain⟨qs,h1,h2⟩:=WI A35 (fun j t v ht hv=>hval j t v (by simpa using ht) (by simpa using hv)) hA;obtain⟨fu,d,hc⟩:=Bem qs h1;have hS:=(Dm Oc hm hx d f qs _ hc).2 W No Abd args.toList (OU (fun b h=>h.elim) h2) hG (fun b hb=>⟨hGY b hb,Tp b⟩);rw[Array.toArray_toList] at hS;refine hS.mono fun e W' ⟨vs,own,he,ho⟩=>?_;have hv:=ho.vals
 have X5:vs=[.bool true]:=by
  match vs,hv with
  |[u],hv=>
   have:Au W' _ (.sc (.bool true)) u:=hv.1;rw[this.val]
  |[],hv=>exact hv.elim
  |_::_::_,hv=>exact hv.2.elim
 subst X5;subst he;have hb:Below W.heap.size W W':=⟨ho.os,ho.tape,ho.output,ho.ext.size,fun k hk=>ho.ext.keep k hk (Tp k)⟩
 have Cq:∀x∈p,x.block<W.heap.size:=fun x hx=>hW'.lt x (by simpa using hx)
 have Eh:ds.length=fn.params.size:=by
  have:∀{ts:List TypeId} {vs:List Value} {ds:List (DataW H)} {p:List MemPlace},DataW.TrodAll enc P W 0 (fun _=>true) true ts vs ds p->ds.length=ts.length:=by
   intro ts
   induction ts with
   |nil=>intro vs ds p h;cases vs<;>cases ds<;>first|rfl|cases h
   |cons t ts ih=>
    intro vs ds p h;cases vs with
    |nil=>cases h
    |cons v vs=>
     cases ds with
     |nil=>cases h
     |cons d ds=>obtain⟨_,_,_,h2,_⟩:=h;simp[ih h2]
  simpa using this hA
 have hsp:=Baa (ds++[]) (by simpa using Eh);refine⟨_,rfl,TX (pa:=p) (pv:=[]) hW' ?_ ?_ ?_ rfl hb ?_⟩
 ·intro b sp hd;rw[hsp,hrt];exact trodAll_mk1 (shut_bool hub _)
 ·intro sp Bec;rw[hsp];simp only[List.append_nil];exact CL hl A9w hA (fun x hx=>hb.same (Cq x hx)) (fun x hx=>Bec x (by simpa using hx))
 ·intro sp _;rw[hsp,Adi];rfl
 ·exact ok_one hrt rfl (okWide_bool_mk hub _)
end
end
section
open Go.Proofs.Tryz (prog)
theorem Aw4{d:Nat}{ps:Ae}{k:IntKind}{t e:TypeId}(hk:K1 prog t=.sl e)(hc:prog.cellsOf e=1)(he:K1 prog e=.int k)(h:WT prog d t ps):
  ∃l:Aj,ps=[.lst false 1 l.length (Ad k l)]/\l.length<=maxLen/\∀n∈l,(Lit.int k n).wf=true:=by
 obtain⟨rows,rfl,hl,hr⟩:=A6d hk h;obtain⟨l,h1,h2,h3⟩:=LK (A4t k) (fun n=>(Lit.int k n).wf=true) fun r hrr=>Ap9 he (hr r hrr).2;refine⟨l,?_,by omega,h3⟩;rw[h1,h2,hc]
theorem A0d{n:Int}(h:(Lit.int .u8 n).wf=true):0<=n/\n<=255:=by simp[Lit.wf,IntKind.min,IntKind.max,IntKind.signed,IntKind.bits] at h;omega
theorem Aeh{p:PV}{k:IntKind}{t e:TypeId}(ha:Ch prog t=false)(hk:K1 prog t=.sl e)(hc:prog.cellsOf e=1)(he:K1 prog e=.int k)(h:WTv prog t p):
  ∃l:Aj,p=.lst false 1 l.length (Ad k l)/\l.length<=maxLen/\∀n∈l,(Lit.int k n).wf=true:=by
 have h':=NW (P:=prog) (t:=t) (p:=p) ha h;obtain⟨l,h1,h2,h3⟩:=Aw4 hk hc he h';exact⟨l,by injection h1,h2,h3⟩
end
instance : Coe Int PV:=⟨fun x=>.sc (.int .i64 x)⟩
instance : Coe Bool PV:=⟨fun x=>.sc (.bool x)⟩
instance : Coe ByteArray PV:=⟨fun x=>.sc (.string x)⟩
abbrev Cz(x:Bool):PV:=.sc (.bool x)
abbrev Bk(x:ByteArray):PV:=.sc (.string x)
theorem Bb{x:Int}(h1:-9223372036854775808<=x:=by omega)(h2:x<=9223372036854775807:=by omega):IntKind.wrap .i64 x=x:=F8 h1 h2
theorem E9{x:Int}(h1:0<=x:=by omega)(h2:x<=18446744073709551615:=by omega):IntKind.wrap .u64 x=x:=wrap_u64 h1 h2
theorem Bq{x y:Int}(h1:-9223372036854775808<=x:=by omega)(h2:x<=9223372036854775807:=by omega)(h:x=y:=by omega):IntKind.wrap .i64 x=y:=(F8 h1 h2).trans h
abbrev Aw(x:Int):PV:=.sc (.int .i64 x)
abbrev Ah(x:Int):PV:=.sc (.int .u64 x)
abbrev As(k n:Nat)(l:Ae):PV:=.lst false k n l
abbrev Bg(l:Ae):Option A4:=some ⟨l,[]⟩
abbrev Dv(c:Option A4)(k:PV->Ae->Option A4):Option A4:=Bv c fun x y=>Ao y<|Ai x k
abbrev Do(k:IntKind)(l:Ae)(f:Int->Ae->Option A4):Option A4:=Ai l fun x y=>Ba k x fun z=>f z y
abbrev Ge(k:IntKind)(c:Option A4)(f:Int->Option A4):Option A4:=Bv c fun x y=>Ao y<|Ai x fun z t=>Ba k z fun u=>Ao t<|f u
abbrev Wv(k:Nat)(l:Ae)(f:Nat->Ae->Ae->Option A4):Option A4:=Ai l fun x y=>Vn k x fun _ n c=>f n c y
abbrev JG(k:Nat)(l:Ae)(f:Nat->Ae->Ae->Option A4):Option A4:=Ai l fun x y=>Lg k x fun n c=>f n c y
abbrev Q6(l:Ae)(f:Bool->Option A4):Option A4:=Ai l fun x y=>Bm x fun z=>Ao y<|f z
abbrev Dl(k:IntKind)(l:Ae)(f:Int->Option A4):Option A4:=Ai l fun x y=>Ba k x fun z=>Ao y<|f z
abbrev ZzA(n k m:Nat)(l e:Ae)(f:Nat->Ae->Option A4):Option A4:=Ar (decide (n*k<=l.length)&&true&&decide ((n+1)*m<=1099511627776)&&decide (n+1<=1099511627776))<|f (n+1) (List.take (n*k) l++e)
abbrev K0(fu:Nat)(call:Aq)(i:FuncId)(f:Func):=A8t CB prog fu call i f (ZV f)
inductive ZzQ:Bool->Bool->Prop
|t:ZzQ true true
|f:ZzQ false false
theorem Jc{R:Type}{b c:Bool}{x y r:Option R}(h:ZzQ b c)(k:(match (generalizing:=false) c with|true=>x|false=>y)=r):Ay b x y=r:=by cases h<;>exact k
theorem Ja:type_of% gT/\type_of% gF/\type_of% @Bool.not_true/\type_of% @Bool.not_false/\type_of% @decide_eq_true/\type_of% @decide_eq_false/\type_of% @decide_true/\type_of% @decide_false:=⟨gT,gF,@Bool.not_true,@Bool.not_false,@decide_eq_true,@decide_eq_false,@decide_true,@decide_false⟩
theorem A6(n k m:Nat)(l e:Ae)(f:Nat->Ae->Option A4):ZzA n k m l e f=(Ar (decide (n*k<=l.length)&&true&&decide ((n+1)*m<=1099511627776)&&decide (n+1<=1099511627776))<|f (n+1) (List.take (n*k) l++e)):=by exact id rfl
abbrev Pn(C:G3)(fu d:Nat)(F:FuncId)(l:Ae)(b:Aq->Option A4):Prop:=Ac C prog fu (d+1) F l=b (Ac C prog fu d)
section
variable {xs:FuncId->Option (Ae->Option A4)}(fu d:Nat)(call:Aq)
theorem AZ(Z Y:Int):Pn (CX xs) fu d 146 [Ah Z,Y] fun call=>Aa (wrap .u64 Y) fun a=>Aa (Du .u64 a 63) fun a=>Ar (decide (0<=a))<|Aa (Fp .u64 Z a) fun b=>Aa (wrap .u64 (64-a)) fun a=>Ar (decide (0<=a))<|Aa (Gw .u64 Z a) fun a=>Aa (DU .u64 b a) fun a=>Bg [Ah a]:=by show _=_;kernel_rfl
def H8(Z:Nat)(Y:Ae)(X W V:Nat)(U:Ae)(T S:Int)(Q:Ae):Option A4:=K0 fu call 66 Tryz.f66 [As 1 Z Y] [.r,.r,.l,.r,.l] X ⟨lk [(3,.view 3 1 0 W),(11,As 1 V U),(12,T),(13,S)],Fx [(3,.ar false Q)]⟩
def Kz(Z:Nat)(Y:Ae)(X W V:Nat)(U:Int)(T:Nat)(S:Ae)(Q P O:Int)(N:Ae):Option A4:=K0 fu call 66 Tryz.f66 [As 1 Z Y] [.r,.r,.l,.r,.l,.i X,.r,.r,.l,.l,.r,.r,.l] W ⟨lk [(3,.view 3 1 0 V),(5,Ah U),(11,As 1 T S),(12,Q),(13,P),(17,O)],Fx [(3,.ar false N)]⟩
theorem To(T:Nat)(S:Ae)(Q Y W:Nat)(V:Ae)(U Z:Int)(X:Ae):H8 fu call T S (Q+1) Y W V U Z X=(Ay (decide (Z<U)) (Ar (decide (0<=Z)&&decide (Z<(↑W:Int)))<|Ba .u64 (V.getD (Z.toNat*1) .top) fun a=>Kz fu call T S Q fu Y a W V U Z 0 X) (Ar (decide (Y*1<=X.length))<|Bg [.own 1 Y (X.take (Y*1))])):=by kernel_rfl
theorem Ti(Y:Nat)(X:Ae)(W N V:Nat)(U:Int)(T:Nat)(S:Ae)(Q P Z:Int)(O:Ae):Kz fu call Y X W (N+1) V U T S Q P Z O=(Ay (decide (Z<8)) (Aa (wrap .i64 (8*Z)) fun a=>Aa (wrap .i64 (56-a)) fun a=>Ar (decide (0<=a))<|Aa (Gw .u64 U a) fun a=>Aa (wrap .u8 a) fun a=>ZzA V 1 1 O [.sc (.int .u8 a)] fun a b=>Aa (wrap .i64 (Z+1)) fun c=>Kz fu call Y X W N a U T S Q P c b) (Aa (wrap .i64 (P+1)) fun a=>H8 fu call Y X W V T S Q a O)):=by kernel_rfl
theorem RE(Z:Nat)(Y:Ae):Pn (CX xs) fu d 66 [As 1 Z Y] fun call=>Aa (wrap .i64 (8*(↑Z:Int))) fun a=>Ar (decide (0<=a)&&decide (a*1<=1099511627776)&&decide (a<=1099511627776))<|H8 fu call Z Y fu 0 Z Y (↑Z:Int) 0 ([]):=by show _=_;kernel_rfl
def Jr(Z:Nat)(Y:Ae)(X:Nat)(W:Int)(V:Nat)(U:Ae)(T S:Int):Option A4:=K0 fu call 124 Tryz.f124 [As 1 Z Y] [.r,.r,.l,.r,.l] X ⟨lk [(3,Ah W),(6,As 1 V U),(7,T),(8,S)],Fx []⟩
theorem Rb(U:Nat)(T:Ae)(S:Nat)(Y:Int)(X:Nat)(W:Ae)(V Z:Int):Jr fu call U T (S+1) Y X W V Z=(Ay (decide (Z<V)) (Ar (decide (0<=Z)&&decide (Z<(↑X:Int)))<|Ba .u8 (W.getD (Z.toNat*1) .top) fun a=>Aa (wrap .u64 a) fun a=>Aa (wrap .i64 (8*Z)) fun b=>Ar (decide (0<=b))<|Aa (Fp .u64 a b) fun a=>Aa (DU .u64 Y a) fun a=>Aa (wrap .i64 (Z+1)) fun b=>Jr fu call U T S a X W V b) (Bg [Ah Y])):=by kernel_rfl
theorem MH(Z:Nat)(Y:Ae):Pn (CX xs) fu d 124 [As 1 Z Y] fun call=>Jr fu call Z Y fu 0 Z Y (↑Z:Int) 0:=by show _=_;kernel_rfl
def Fw(Z Y:Int)(X W V:Int)(U:Nat)(T S:Int)(Q P:Int)(O N:Int):Option A4:=K0 fu call 125 Tryz.f125 [.pbox [Ah Z,Ah Y,Ah X,Ah W],V] [.r,.l] U ⟨lk [(0,.ptr 288000 0),(4,T),(5,S)],Fx [(288000,.st [Ah Q,Ah P,Ah O,Ah N])]⟩
theorem Kr(T S:Int)(Q P O:Int)(N:Nat)(X W:Int)(V Z:Int)(U Y:Int):Fw fu call T S Q P O (N+1) X W V Z U Y=(Ay (decide (W<X)) (Aa (wrap .u64 (V+Z)) fun a=>Ge .u64 (call 146 [Ah Z,(13:Int)]) fun b=>Aa (Ee .u64 b a) fun b=>Ge .u64 (call 146 [Ah a,(32:Int)]) fun a=>Aa (wrap .u64 (U+Y)) fun c=>Ge .u64 (call 146 [Ah Y,(16:Int)]) fun e=>Aa (Ee .u64 e c) fun e=>Aa (wrap .u64 (a+e)) fun a=>Ge .u64 (call 146 [Ah e,(21:Int)]) fun e=>Aa (Ee .u64 e a) fun e=>Aa (wrap .u64 (c+b)) fun c=>Ge .u64 (call 146 [Ah b,(17:Int)]) fun b=>Aa (Ee .u64 b c) fun b=>Ge .u64 (call 146 [Ah c,(32:Int)]) fun c=>Aa (wrap .i64 (W+1)) fun f=>Fw fu call T S Q P O N X f a b c e) (some ⟨[],[[Ah V,Ah Z,Ah U,Ah Y]]⟩)):=by kernel_rfl
theorem Xj(Z Y:Int)(X W V:Int):Pn (CX xs) fu d 125 [.pbox [Ah Z,Ah Y,Ah X,Ah W],V] fun call=>Fw fu call Z Y X W V fu V 0 Z Y X (W):=by show _=_;kernel_rfl
theorem Xx(Y X:Int)(W V Z:Int):Pn (CX xs) fu d 123 [.pbox [Ah Y,Ah X,Ah W,Ah V],Ah Z] fun call=>Aa (Ee .u64 V Z) fun a=>Bv (call 125 [.pbox [Ah Y,Ah X,Ah W,Ah a],(2:Int)]) fun a b=>Ao a<|Ai b fun a b=>Do .u64 a fun a c=>Do .u64 c fun c e=>Do .u64 e fun e f=>Dl .u64 f fun f=>Ao b<|Aa (Ee .u64 a Z) fun a=>some ⟨[],[[Ah a,Ah c,Ah e,Ah f]]⟩:=by show _=_;kernel_rfl
def Kj(Z Y:Int)(X:Nat)(W:Ae)(V U:Nat)(T:Ae)(S Q:Int)(P O:Int)(N M L:Int):Option A4:=K0 fu call 98 Tryz.f98 [Ah Z,Ah Y,As 1 X W] [.r,.r,.r,.l,.r,.l] V ⟨lk [(2,As 1 U T),(7,.ptr 7 0),(8,S),(22,Q),(23,P)],Fx [(7,.st [Ah O,Ah N,Ah M,Ah L])]⟩
theorem Xc(P O:Int)(N:Nat)(M:Ae)(L Z:Nat)(X:Ae)(W V:Int)(Y U:Int)(T S Q:Int):Kj fu call P O N M (L+1) Z X W V Y U T S Q=((fun g:PV=>Ay (decide (Y<V)) (Aa (wrap .i64 (8*Y)) fun a=>Aa (wrap .i64 (8*Y)) fun b=>Aa (wrap .i64 (b+8)) fun b=>Ar (decide (0<=a))<|Ar (decide (0<=b))<|Ar (decide (a.toNat<=b.toNat)&&decide (b.toNat<=Z))<|Aa (b.toNat-a.toNat) fun b=>Aa (List.take (b*1) (X.drop (a.toNat*1))) fun a=>Ge .u64 (call 124 [As 1 b a]) fun a=>Bv (call 123 [g,Ah a]) fun a b=>Ao a<|Ai b fun a b=>Do .u64 a fun a c=>Do .u64 c fun c e=>Do .u64 e fun e f=>Dl .u64 f fun f=>Ao b<|Aa (wrap .i64 (Y+1)) fun b=>Kj fu call P O N M L Z X W V b a c e f) (Aa (wrap .i64 (8*W)) fun a=>Ar (decide (0<=a))<|Ar (decide (a.toNat<=Z)&&decide (Z<=Z))<|Aa (Z-a.toNat) fun b=>Aa (List.take (b*1) (X.drop (a.toNat*1))) fun a=>Ge .u64 (call 124 [As 1 b a]) fun a=>Aa (wrap .u64 (↑Z:Int)) fun b=>Aa (Fp .u64 b 56) fun b=>Aa (DU .u64 a b) fun a=>Bv (call 123 [g,Ah a]) fun a b=>Ao a<|Ai b fun a b=>Do .u64 a fun a c=>Do .u64 c fun c e=>Do .u64 e fun e f=>Dl .u64 f fun f=>Ao b<|Aa (Ee .u64 e 255) fun b=>Bv (call 125 [.pbox [Ah a,Ah c,Ah b,Ah f],(4:Int)]) fun a b=>Ao a<|Ai b fun a b=>Do .u64 a fun a c=>Do .u64 c fun c e=>Do .u64 e fun e f=>Dl .u64 f fun f=>Ao b<|Aa (Ee .u64 a c) fun a=>Aa (Ee .u64 a e) fun a=>Aa (Ee .u64 a f) fun a=>Bg [Ah a])) (.pbox [Ah U,Ah T,Ah S,Ah Q])):=by kernel_rfl
theorem ZS(Z Y:Int)(X:Nat)(W:Ae):Pn (CX xs) fu d 98 [Ah Z,Ah Y,As 1 X W] fun call=>Aa (Ee .u64 Z 8317987319222330741) fun a=>Aa (Ee .u64 Y 7237128888997146477) fun b=>Aa (Ee .u64 Z 7816392313619706465) fun c=>Aa (Ee .u64 Y 8387220255154660723) fun e=>Aa (wrap .i64 (Int.tdiv (↑X:Int) 8)) fun f=>Kj fu call Z Y X W fu X W f f 0 a b c e:=by show _=_;kernel_rfl
theorem TK(Z:Int)(Y:Nat)(X:Ae):Pn (CX xs) fu d 64 [Z,As 1 Y X] fun call=>Aa (wrap .u64 Z) fun a=>Ge .u64 (call 98 [Ah a,Ah 0,As 1 Y X]) fun a=>Bg [Ah a]:=by show _=_;kernel_rfl
theorem CV(Y Z:Int):Pn (CX xs) fu d 136 [Ah Y,Ah Z] fun call=>Ar (decide (0<=Z))<|Aa (Fp .u64 Y Z) fun a=>Aa (wrap .u64 (64-Z)) fun b=>Ar (decide (0<=b))<|Aa (Gw .u64 Y b) fun b=>Aa (DU .u64 a b) fun a=>Bg [Ah a]:=by show _=_;kernel_rfl
theorem BC(X Z:Int)(W Y:Int):Pn (CX xs) fu d 112 [.agg [Ah X,Ah Z,Ah W,Ah Y]] fun call=>Aa (wrap .u64 (X+Z)) fun a=>Ge .u64 (call 136 [Ah Z,Ah 13]) fun b=>Aa (Ee .u64 b a) fun b=>Ge .u64 (call 136 [Ah a,Ah 32]) fun a=>Aa (wrap .u64 (W+Y)) fun c=>Ge .u64 (call 136 [Ah Y,Ah 16]) fun e=>Aa (Ee .u64 e c) fun e=>Aa (wrap .u64 (a+e)) fun a=>Ge .u64 (call 136 [Ah e,Ah 21]) fun e=>Aa (Ee .u64 e a) fun e=>Aa (wrap .u64 (c+b)) fun c=>Ge .u64 (call 136 [Ah b,Ah 17]) fun b=>Aa (Ee .u64 b c) fun b=>Ge .u64 (call 136 [Ah c,Ah 32]) fun c=>Bg [.agg [Ah a,Ah b,Ah c,Ah e]]:=by show _=_;kernel_rfl
def Ga(Z Y:Int)(X:Nat)(W:Ae)(V U:Nat)(T:Ae)(S:Int)(Q:Ae):Option A4:=K0 fu call 79 Tryz.f79 [Ah Z,Ah Y,As 1 X W] [.r,.r,.l,.r,.l] V ⟨lk [(2,As 1 U T),(7,.ptr 7 0),(8,S)],Fx [(7,.ar false Q)]⟩
def Fd(Z Y:Int)(X:Nat)(W:Ae)(V U T:Nat)(S:Ae)(Q P O:Int)(N:Ae):Option A4:=K0 fu call 79 Tryz.f79 [Ah Z,Ah Y,As 1 X W] [.r,.r,.l,.r,.l,.i V,.r,.l,.l,.r,.l,.r,.l] U ⟨lk [(2,As 1 T S),(7,.ptr 7 0),(8,Q),(9,Ah P),(10,O)],Fx [(7,.ar false N)]⟩
theorem Ph(W V:Int)(U:Nat)(T:Ae)(S Y:Nat)(Q:Ae)(X:Int)(Z:Ae):Ga fu call W V U T (S+1) Y Q X Z=(Ay (decide (X<=(↑Y:Int))) (Fd fu call W V U T S fu Y Q X 0 7 Z) (Ba .u64 (Z.getD 2 .top) fun a=>Aa (Ee .u64 a 255) fun a=>Ar (decide (3<=Z.length))<|Aa (B5 Z [Ah a] 2) fun a=>Ba .u64 (a.getD 0 .top) fun b=>Ba .u64 (a.getD 1 .top) fun c=>Ba .u64 (a.getD 2 .top) fun e=>Ba .u64 (a.getD 3 .top) fun f=>Dv (call 112 [.agg [Ah b,Ah c,Ah e,Ah f]]) fun b c=>Ef b fun b=>Do .u64 b fun b e=>Do .u64 e fun e f=>Do .u64 f fun f g=>Dl .u64 g fun g=>Ao c<|Dv (call 112 [.agg [Ah b,Ah e,Ah f,Ah g]]) fun b c=>Ef b fun b=>Do .u64 b fun b e=>Do .u64 e fun e f=>Do .u64 f fun f g=>Dl .u64 g fun g=>Ao c<|Dv (call 112 [.agg [Ah b,Ah e,Ah f,Ah g]]) fun b c=>Ef b fun b=>Do .u64 b fun b e=>Do .u64 e fun e f=>Do .u64 f fun f g=>Dl .u64 g fun g=>Ao c<|Dv (call 112 [.agg [Ah b,Ah e,Ah f,Ah g]]) fun b c=>Ef b fun b=>Do .u64 b fun b e=>Do .u64 e fun e f=>Do .u64 f fun f g=>Dl .u64 g fun g=>Ao c<|Ar (decide (4<=a.length))<|Aa (B5 a [Ah b,Ah e,Ah f,Ah g] 0) fun a=>Ba .u64 (a.getD 0 .top) fun b=>Ba .u64 (a.getD 1 .top) fun c=>Aa (Ee .u64 b c) fun b=>Ba .u64 (a.getD 2 .top) fun c=>Aa (Ee .u64 b c) fun b=>Ba .u64 (a.getD 3 .top) fun a=>Aa (Ee .u64 b a) fun a=>Bg [Ah a])):=by kernel_rfl
theorem Pe(T S:Int)(Q:Nat)(P:Ae)(O N Z:Nat)(V:Ae)(X U Y:Int)(W:Ae):Fd fu call T S Q P O (N+1) Z V X U Y W=(Ay (decide (Y>=0)) (Aa (wrap .i64 (X+Y)) fun a=>Ay (decide (a<(↑Z:Int))) (Aa (wrap .i64 (X+Y)) fun a=>Ar (decide (0<=a)&&decide (a<(↑Z:Int)))<|Ba .u8 (V.getD (a.toNat*1) .top) fun a=>Aa (Fp .u64 U 8) fun b=>Aa (wrap .u64 a) fun a=>Aa (DU .u64 b a) fun a=>Aa (wrap .i64 (Y-1)) fun b=>Fd fu call T S Q P O N Z V X a b W) (Ay (Y==7) (Aa (wrap .u8 (↑Z:Int)) fun a=>Aa (Fp .u64 U 8) fun b=>Aa (wrap .u64 a) fun a=>Aa (DU .u64 b a) fun a=>Aa (wrap .i64 (Y-1)) fun b=>Fd fu call T S Q P O N Z V X a b W) (Aa (Fp .u64 U 8) fun a=>Aa (DU .u64 a 0) fun a=>Aa (wrap .i64 (Y-1)) fun b=>Fd fu call T S Q P O N Z V X a b W))) (Ba .u64 (W.getD 3 .top) fun a=>Aa (Ee .u64 a U) fun a=>Ar (decide (4<=W.length))<|Aa (B5 W [Ah a] 3) fun a=>Ba .u64 (a.getD 0 .top) fun b=>Ba .u64 (a.getD 1 .top) fun c=>Ba .u64 (a.getD 2 .top) fun e=>Ba .u64 (a.getD 3 .top) fun f=>Dv (call 112 [.agg [Ah b,Ah c,Ah e,Ah f]]) fun b c=>Ef b fun b=>Do .u64 b fun b e=>Do .u64 e fun e f=>Do .u64 f fun f g=>Dl .u64 g fun g=>Ao c<|Dv (call 112 [.agg [Ah b,Ah e,Ah f,Ah g]]) fun b c=>Ef b fun b=>Do .u64 b fun b e=>Do .u64 e fun e f=>Do .u64 f fun f g=>Dl .u64 g fun g=>Ao c<|Ar (decide (4<=a.length))<|Aa (B5 a [Ah b,Ah e,Ah f,Ah g] 0) fun a=>Ba .u64 (a.getD 0 .top) fun b=>Aa (Ee .u64 b U) fun b=>Ar (decide (1<=a.length))<|Aa (B5 a [Ah b] 0) fun a=>Aa (wrap .i64 (X+8)) fun b=>Ga fu call T S Q P O Z V b a)):=by kernel_rfl
theorem FN(Z Y:Int)(X:Nat)(W:Ae):Pn (CX xs) fu d 79 [Ah Z,Ah Y,As 1 X W] fun call=>Aa (Ee .u64 Z 8317987319222330741) fun a=>Aa (Ee .u64 Y 7237128888997146477) fun b=>Aa (Ee .u64 Z 7816392313619706465) fun c=>Aa (Ee .u64 Y 8387220255154660723) fun e=>Ga fu call Z Y X W fu X W 0 ([Ah a,Ah b,Ah c,Ah e]):=by show _=_;kernel_rfl
theorem CQ(Z:Int)(Y:Nat)(X:Ae):Pn (CX xs) fu d 45 [Z,As 1 Y X] fun call=>Aa (wrap .u64 Z) fun a=>Ge .u64 (call 79 [Ah a,Ah 0,As 1 Y X]) fun a=>Bg [Ah a]:=by show _=_;kernel_rfl
theorem FZ(Z Y:Int)(X:Nat)(W:Ae):Pn (CX xs) fu d 73 [Ah Z,Y,As 1 X W] fun call=>Aa (wrap .u64 Y) fun a=>Aa (wrap .u64 (1+a)) fun a=>Ge .u64 (call 79 [Ah Z,Ah a,As 1 X W]) fun a=>Bg [Ah a]:=by show _=_;kernel_rfl
def Fk(Z:Nat)(Y:Ae)(X W:Nat)(V:Ae)(U:Nat)(T:Int)(S:Ae):Option A4:=K0 fu call 50 Tryz.f50 [As 1 Z Y] [.r,.r,.l,.r,.l] X ⟨lk [(0,As 1 W V),(3,.view 3 1 0 U),(4,T)],Fx [(3,.ar false S)]⟩
def Gp(Z:Nat)(Y:Ae)(X W V:Nat)(U:Ae)(T:Nat)(S Q:Int)(P:Ae):Option A4:=K0 fu call 50 Tryz.f50 [As 1 Z Y] [.r,.r,.l,.r,.l,.i X,.r,.l,.l,.r,.l] W ⟨lk [(0,As 1 V U),(3,.view 3 1 0 T),(4,S),(5,Q)],Fx [(3,.ar false P)]⟩
theorem Ml(V:Nat)(U:Ae)(T X:Nat)(S:Ae)(Z:Nat)(W:Int)(Y:Ae):Fk fu call V U (T+1) X S Z W Y=(Ay (decide (W<(↑X:Int))) (Gp fu call V U T fu X S Z W 7 Y) (Ar (decide (Z*1<=Y.length))<|Bg [.own 1 Z (Y.take (Z*1))])):=by kernel_rfl
theorem Mf(V:Nat)(U:Ae)(T P Y:Nat)(X:Ae)(S:Nat)(Z W:Int)(Q:Ae):Gp fu call V U T (P+1) Y X S Z W Q=(Ay (decide (W>=0)) (Ar (decide (0<=Z)&&decide (Z<(↑Y:Int)))<|Ba .u64 (X.getD (Z.toNat*1) .top) fun a=>Aa (wrap .i64 (8*W)) fun b=>Aa (wrap .u64 b) fun b=>Ar (decide (0<=b))<|Aa (Gw .u64 a b) fun a=>Aa (wrap .u8 a) fun a=>ZzA S 1 1 Q [.sc (.int .u8 a)] fun a b=>Aa (wrap .i64 (W-1)) fun c=>Gp fu call V U T P Y X a Z c b) (Aa (wrap .i64 (Z+1)) fun a=>Fk fu call V U T Y X S a Q)):=by kernel_rfl
theorem BE(Z:Nat)(Y:Ae):Pn (CX xs) fu d 50 [As 1 Z Y] fun call=>Fk fu call Z Y fu Z Y 0 0 ([]):=by show _=_;kernel_rfl
end
def rot(x k:Int):Int:=DU .u64 (Fp .u64 x k) (Gw .u64 x (64-k))
structure W4 where
 a:Int
 b:Int
 c:Int
 d:Int
def W4.cells(v:W4):Ae:=[Ah v.a,Ah v.b,Ah v.c,Ah v.d]
def A6s(v:W4):W4:=⟨rot (wrap .u64 (v.a+v.b)) 32,Ee .u64 (rot v.b 13) (wrap .u64 (v.a+v.b)),wrap .u64 (v.c+v.d),Ee .u64 (rot v.d 16) (wrap .u64 (v.c+v.d))⟩
def A9k(v:W4):W4:=⟨wrap .u64 (v.a+v.d),Ee .u64 (rot v.b 17) (wrap .u64 (v.c+v.b)),rot (wrap .u64 (v.c+v.b)) 32,Ee .u64 (rot v.d 21) (wrap .u64 (v.a+v.d))⟩
def NJ(v:W4):W4:=A9k (A6s v)
def YL:Nat->W4->W4
 |0,v=>v
 |n+1,v=>YL n (NJ v)
def A0y(r:W4)(m:Int):W4:=⟨Ee .u64 r.a m,r.b,r.c,r.d⟩
def L5(v:W4)(m:Int):W4:=A0y (YL 2 ⟨v.a,v.b,v.c,Ee .u64 v.d m⟩) m
def Px:Aj->Int
 |[]=>0
 |b::r=>b+256*Px r
def FH:Nat->W4->Aj->W4
 |0,v,_=>v
 |n+1,v,l=>FH n (L5 v (Px (l.take 8))) (l.drop 8)
def Aim(k0 k1:Int):W4:=⟨Ee .u64 k0 8317987319222330741,Ee .u64 k1 7237128888997146477,Ee .u64 k0 7816392313619706465,Ee .u64 k1 8387220255154660723⟩
def Ac6(v:W4):W4:=YL 4 ⟨v.a,v.b,Ee .u64 v.c 255,v.d⟩
def Ab9(v:W4):Int:=Ee .u64 (Ee .u64 (Ee .u64 v.a v.b) v.c) v.d
def Lk(l:Aj):Int:=Px (l.drop (8*(l.length / 8)))+72057594037927936*((l.length:Int) % 256)
def Afn(k0 k1:Int)(l:Aj):Int:=Ab9 (Ac6 (L5 (FH (l.length / 8) (Aim k0 k1) l) (Lk l)))
def B6(dom:Int)(l:Aj):Int:=Afn (wrap .u64 dom) 0 l
def Atb(key dom:Int)(l:Aj):Int:=Afn key (wrap .u64 (1+wrap .u64 dom)) l
def Cm(l:Aj):Prop:=∀b∈l,0<=b/\b<=255
theorem Q8:∀{l:Aj},Cm l->0<=Px l/\Px l<256 ^ l.length
 |[],_=>by simp[Px]
 |b::r,h=>by
  have h1:=h b (by simp);have h2:=Q8 (l:=r) fun x hx=>h x (by simp[hx]);have h3:(256:Int) ^ (b::r).length=256 ^ r.length*256:=by rw[Po,Int.pow_succ]
  simp only[Px];omega
theorem DZ:∀(l r:Aj),Px (l++r)=Px l+256 ^ l.length*Px r
 |[],r=>by simp[Px]
 |b::l,r=>by
  have ih:=DZ l r;simp only[Zzp,Px,Po,Int.pow_succ];rw[ih,Int.mul_add];have:(256:Int)*(256 ^ l.length*Px r)=256 ^ l.length*256*Px r:=by rw[<-Int.mul_assoc,Int.mul_comm 256]
  omega
theorem EP{a c:Int}(k b:Nat)(h0:0<=a)(h1:a<((2 ^ k:Nat):Int))(hc:c=((b*2 ^ k:Nat):Int))(h:a+c<=18446744073709551615):DU .u64 a c=a+c/\DU .u64 c a=a+c:=by
 obtain⟨n,rfl⟩:=Int.eq_ofNat_of_zero_le h0;subst hc;have hn:n<2 ^ k:=by omega
 generalize hB:b*2 ^ k=m at h
 have e4:(BitVec.ofInt 64 (n:Int)).toNat=n:=by
  rw[BitVec.toNat_ofInt];omega
 have e5:(BitVec.ofInt 64 (m:Int)).toNat=m:=by
  rw[BitVec.toNat_ofInt];omega
 have e6:m ||| n=m+n:=by
  have:=Nat.shiftLeft_add_eq_or_of_lt hn b;rw[Nat.shiftLeft_eq,hB] at this;exact this.symm
 constructor
 ·show wrap .u64 ((BitVec.ofInt 64 (n:Int) ||| BitVec.ofInt 64 (m:Int)).toNat:Int)=_;rw[BitVec.toNat_or,e4,e5,Nat.or_comm,e6,E9];omega
 ·show wrap .u64 ((BitVec.ofInt 64 (m:Int) ||| BitVec.ofInt 64 (n:Int)).toNat:Int)=_;rw[BitVec.toNat_or,e4,e5,e6,E9];omega
theorem NU{a k:Int}(h0:0<=a)(hk:0<=k)(Pk:k<=64)(h:a*((2 ^ k.toNat:Nat):Int)<=18446744073709551615):Fp .u64 a k=a*((2 ^ k.toNat:Nat):Int):=by
 show wrap .u64 (a*2 ^ (min k.toNat IntKind.u64.bits))=_;have e:min k.toNat IntKind.u64.bits=k.toNat:=Nat.min_eq_left (by show k.toNat<=64;omega)
 have e2:(2:Int) ^ k.toNat=((2 ^ k.toNat:Nat):Int):=by simp
 rw[e,e2,wrap_u64 (Int.mul_nonneg h0 (Int.natCast_nonneg _)) h]
section
variable {fu d:Nat}{xs:FuncId->Option (Ae->Option A4)}
theorem Ar5{x k:Int}(hk:k=13\/k=16\/k=17\/k=21\/k=32):Ac (CX xs) prog fu (d+1) 146 [Ah x,Aw k]=some ⟨[Ah (rot x k)],[]⟩:=by rw[AZ];rcases hk with rfl|rfl|rfl|rfl|rfl<;>kernel_rfl
theorem At3{x k:Int}(hk:k=13\/k=16\/k=17\/k=21\/k=32):Ac (CX xs) prog fu (d+1) 136 [Ah x,Ah k]=some ⟨[Ah (rot x k)],[]⟩:=by rw[CV];rcases hk with rfl|rfl|rfl|rfl|rfl<;>kernel_rfl
theorem KR{a0 a1 a2 a3 a4:Int}:∀(k i nn:Nat)(v:W4),k<nn->i+k<=100 ->
  Fw fu (Ac (CX xs) prog fu (d+1)) a0 a1 a2 a3 a4 nn ((i+k:Nat):Int) i v.a v.b v.c v.d=some ⟨[],[(YL k v).cells]⟩
 |_,_,0,_,h,_=>by omega
 |0,i,nn+1,v,h,hi=>by
  rw[Kr,Hk _ _ _ (by omega)];rfl
 |k+1,i,nn+1,v,h,hi=>by
  have ih:=KR (a0:=a0) (a1:=a1) (a2:=a2) (a3:=a3) (a4:=a4) k (i+1) nn (NJ v) (by omega) (by omega);have w:wrap .i64 ((i:Int)+1)=((i+1:Nat):Int):=Bq
  have r13:=fun x=>Ar5 (xs:=xs) (fu:=fu) (d:=d) (x:=x) (k:=13) (by simp);have r16:=fun x=>Ar5 (xs:=xs) (fu:=fu) (d:=d) (x:=x) (k:=16) (by simp);have r17:=fun x=>Ar5 (xs:=xs) (fu:=fu) (d:=d) (x:=x) (k:=17) (by simp);have r21:=fun x=>Ar5 (xs:=xs) (fu:=fu) (d:=d) (x:=x) (k:=21) (by simp);have r32:=fun x=>Ar5 (xs:=xs) (fu:=fu) (d:=d) (x:=x) (k:=32) (by simp);rw[Kr];simp(disch:=omega)only[A5,A6,r13,r16,r17,r21,r32,w];rw[show i+(k+1)=i+1+k by omega];exact ih
theorem WP(k:Nat)(hk:k<=4)(Bi:100<=fu)(v:W4):Ac (CX xs) prog fu (d+2) 125 [.pbox [Ah v.a,Ah v.b,Ah v.c,Ah v.d],Aw k]=some ⟨[],[(YL k v).cells]⟩:=by rw[Xj];have:=KR (xs:=xs) (fu:=fu) (d:=d) (a0:=v.a) (a1:=v.b) (a2:=v.c) (a3:=v.d) (a4:=k) k 0 fu v (by omega) (by omega);rw[Ip] at this;exact this
theorem UO(Bi:100<=fu)(v:W4)(m:Int):Ac (CX xs) prog fu (d+3) 123 [.pbox [Ah v.a,Ah v.b,Ah v.c,Ah v.d],Ah m]=some ⟨[],[(L5 v m).cells]⟩:=by rw[Xx];have r2:=WP (xs:=xs) (fu:=fu) (d:=d) 2 (by omega) Bi ⟨v.a,v.b,v.c,Ee .u64 v.d m⟩;have e2:((2:Nat):Int)=2:=rfl;rw[e2] at r2;unfold L5;generalize YL 2 ⟨v.a,v.b,v.c,Ee .u64 v.d m⟩=R at r2 ⊢;simp only[W4.cells] at r2;simp only[A5,A6,r2];rfl
theorem A9v{a b:Int}{k:Nat}(hk:k<8)(ha:0<=a)(ha':a<((2 ^ (8*k):Nat):Int))(hb:0<=b)(Jz:b<=255):DU .u64 a (Fp .u64 b (8*(k:Int)))=a+((2 ^ (8*k):Nat):Int)*b:=by
 obtain⟨n,rfl⟩:=Int.eq_ofNat_of_zero_le hb;have e:(8*(k:Int)).toNat=8*k:=by omega
 have hp:n*2 ^ (8*k)<=255*2 ^ (8*k):=Nat.mul_le_mul_right _ (by omega);have h56:2 ^ (8*k)<=2 ^ 56:=Nat.pow_le_pow_right (by omega) (by omega);have e56:(2:Nat) ^ 56=72057594037927936:=by decide
 rw[e56] at h56;generalize hP:2 ^ (8*k)=p at *
 have Ad6:n*p<=255*p:=hp
 have hs:Fp .u64 (n:Int) (8*(k:Int))=(n:Int)*((2 ^ (8*(k:Int)).toNat:Nat):Int):=NU (by omega) (by omega) (by omega) (by
  rw[e,hP];have:((n*p:Nat):Int)<=((255*p:Nat):Int):=by omega
  rw[<-Int.natCast_mul];omega)
 rw[hs,e,hP]
 have:=(EP (a:=a) (c:=((n*p:Nat):Int)) (8*k) n ha (by rw[hP];exact ha') (by rw[hP]) (by
  have:((n*p:Nat):Int)<=((255*p:Nat):Int):=by omega
  omega)).1
 rw[<-Int.natCast_mul,this,Int.mul_comm ((p:Nat):Int),<-Int.natCast_mul]
theorem A7d(k:Nat):((2 ^ (8*k):Nat):Int)=256 ^ k:=by rw[Nat.pow_mul];simp
theorem KY{call:Aq}{n:Nat}{c:Ae}{l:Aj}(hb:Cm l)(hl:l.length<=8):∀(r:Aj)(i nn:Nat),l.drop i=r->r.length<nn->i<=l.length ->
  Jr fu call n c nn (Px (l.take i)) l.length (Ad .u8 l) l.length i=some ⟨[Ah (Px l)],[]⟩
 |_,_,0,_,h,_=>by omega
 |[],i,nn+1,h,hn,hi=>by
  have:=drop_nil h;rw[Rb,Hk _ _ _ (by omega),H5 (by omega)]
 |b::r,i,nn+1,h,hn,hi=>by
  obtain⟨h1,h2,h3⟩:=D8 h;simp only[Po] at hn;have ih:=KY (call:=call) (n:=n) (c:=c) hb hl r (i+1) nn h3 (by omega) (by omega);have hbb:=hb b (List.mem_of_getElem? h2);have w:wrap .i64 ((i:Int)+1)=((i+1:Nat):Int):=Bq
  have w8:wrap .i64 (8*(i:Int))=8*(i:Int):=Bb;have wb:wrap .u64 b=b:=E9;have A1d:=Q8 (l:=l.take i) fun x hx=>hb x (List.mem_of_mem_take hx);have htl:(l.take i).length=i:=by rw[List.length_take];omega
  rw[htl] at A1d
  have hj:DU .u64 (Px (l.take i)) (Fp .u64 b (8*(i:Int)))=Px (l.take (i+1)):=by
   rw[A9v (by omega) A1d.1 (by rw[A7d];exact A1d.2) hbb.1 hbb.2,List.take_add_one,h2,DZ,htl,A7d]
   simp[Px]
  rw[Rb];simp(disch:=omega)only[A5,A6,Jp,Kb,GG h2,w,w8,wb,hj];exact ih
theorem WC{l:Aj}(hb:Cm l)(hl:l.length<=8)(Bi:100<=fu):Ac (CX xs) prog fu (d+1) 124 [.lst false 1 l.length (Ad .u8 l)]=some ⟨[Ah (Px l)],[]⟩:=by rw[MH];exact KY hb hl l 0 fu rfl (by omega) (by omega)
theorem Lo(k:IntKind)(l:Aj)(i:Nat):List.drop i (Ad k l)=Ad k (l.drop i):=by
 have:=ZY (EJ k) l i
 simpa using this
theorem Ie(k:IntKind)(l:Aj)(i:Nat):List.take i (Ad k l)=Ad k (l.take i):=by
 have:=Ak2 (EJ k) l i
 simpa using this
theorem Cm.drop{l:Aj}(h:Cm l)(i:Nat):Cm (l.drop i):=fun x hx=>h x (List.mem_of_mem_drop hx)
theorem Cm.take{l:Aj}(h:Cm l)(i:Nat):Cm (l.take i):=fun x hx=>h x (List.mem_of_mem_take hx)
theorem Axr{a0 a1:Int}{n:Nat}{c:Ae}{l:Aj}(hb:Cm l)(hl:l.length<=1099511627776)(Bi:100<=fu)(nn:Nat)(v:W4):
  Kj fu (Ac (CX xs) prog fu (d+3)) a0 a1 n c (nn+1) l.length (Ad .u8 l) ((l.length / 8:Nat):Int) ((l.length / 8:Nat):Int) ((l.length / 8:Nat):Int) v.a v.b v.c v.d=some ⟨[Ah (Ab9 (Ac6 (L5 v (Lk l))))],[]⟩:=by
 have w8:wrap .i64 (8*((l.length / 8:Nat):Int))=((8*(l.length / 8):Nat):Int):=Bq
 have wl:wrap .u64 (l.length:Int)=l.length:=E9;have hdl:(l.drop (8*(l.length / 8))).length=l.length-8*(l.length / 8):=List.length_drop;have li:=WC (xs:=xs) (fu:=fu) (d:=d+2) (hb.drop (8*(l.length / 8))) (by omega) Bi;rw[hdl] at li;have tk:List.take (l.length-8*(l.length / 8)) (Ad .u8 (l.drop (8*(l.length / 8))))=Ad .u8 (l.drop (8*(l.length / 8))):=H5 (by rw[Ak,hdl];omega)
 have hbn:=Q8 (hb.drop (8*(l.length / 8)));rw[hdl] at hbn
 have hp7:(256:Int) ^ (l.length-8*(l.length / 8))<=256 ^ 7:=by
  have:(256:Nat) ^ (l.length-8*(l.length / 8))<=256 ^ 7:=Nat.pow_le_pow_right (by omega) (by omega);have h2:(((256:Nat) ^ (l.length-8*(l.length / 8)):Nat):Int)<=((256 ^ 7:Nat):Int):=by omega
  simpa using h2
 have PH:DU .u64 (Px (l.drop (8*(l.length / 8)))) (Fp .u64 (l.length:Int) 56)=Lk l:=by
  have hs:Fp .u64 (l.length:Int) 56=(((l.length % 256)*2 ^ 56:Nat):Int):=by
   show wrap .u64 ((l.length:Int)*2 ^ (min (56:Int).toNat IntKind.u64.bits))=_;have h2:(2:Int) ^ (min (56:Int).toNat IntKind.u64.bits)=72057594037927936:=by decide
   have h3:(2:Nat) ^ 56=72057594037927936:=by decide
   rw[h2,h3];simp only[wrap,IntKind.signed,IntKind.bits];simp;omega
  have h56:(256:Int) ^ 7=((2 ^ 56:Nat):Int):=by decide
  have h3:(2:Nat) ^ 56=72057594037927936:=by decide
  rw[hs,(EP 56 (l.length % 256) hbn.1 (by omega) rfl (by omega)).1];unfold Lk;omega
 have ab:=UO (xs:=xs) (fu:=fu) (d:=d) Bi v (Lk l);have r4:=WP (xs:=xs) (fu:=fu) (d:=d+1) 4 (by omega) Bi ⟨(L5 v (Lk l)).a,(L5 v (Lk l)).b,Ee .u64 (L5 v (Lk l)).c 255,(L5 v (Lk l)).d⟩;have e4:((4:Nat):Int)=4:=rfl;rw[e4] at r4;unfold Ac6;generalize L5 v (Lk l)=U at ab r4 ⊢;generalize YL 4 ⟨U.a,U.b,Ee .u64 U.c 255,U.d⟩=R at r4 ⊢;simp only[W4.cells] at ab r4;rw[Xc];simp(disch:=omega)only[A5,A6,Jp,Kb,w8,wl,Lo,tk,li,PH,ab,r4];rfl
theorem Acr{a0 a1:Int}{n:Nat}{c:Ae}{l:Aj}(hb:Cm l)(hl:l.length<=1099511627776)(Bi:100<=fu):∀(k i nn:Nat)(v:W4),i+k=l.length / 8->k<nn ->
  Kj fu (Ac (CX xs) prog fu (d+3)) a0 a1 n c nn l.length (Ad .u8 l) ((l.length / 8:Nat):Int) ((l.length / 8:Nat):Int) i v.a v.b v.c v.d=some ⟨[Ah (Ab9 (Ac6 (L5 (FH k v (l.drop (8*i))) (Lk l))))],[]⟩
 |_,_,0,_,_,h=>by omega
 |0,i,nn+1,v,hi,hn=>by
  have e:i=l.length / 8:=by omega
  subst e;exact Axr hb hl Bi nn v
 |k+1,i,nn+1,v,hi,hn=>by
  have w:wrap .i64 ((i:Int)+1)=((i+1:Nat):Int):=Bq
  have w8:wrap .i64 (8*(i:Int))=((8*i:Nat):Int):=Bq
  have w88:wrap .i64 (((8*i:Nat):Int)+8)=((8*i+8:Nat):Int):=Bq
  have hdl:((l.drop (8*i)).take 8).length=8:=by rw[List.length_take,List.length_drop];omega
  have li:=WC (xs:=xs) (fu:=fu) (d:=d+2) ((hb.drop (8*i)).take 8) (by omega) Bi;rw[hdl] at li;have e8:8*i+8-8*i=8:=by omega
  have ab:=UO (xs:=xs) (fu:=fu) (d:=d) Bi v (Px ((l.drop (8*i)).take 8));have ih:=Acr (a0:=a0) (a1:=a1) (n:=n) (c:=c) hb hl Bi k (i+1) nn (L5 v (Px ((l.drop (8*i)).take 8))) (by omega) (by omega)
  have eN:FH (k+1) v (l.drop (8*i))=FH k (L5 v (Px ((l.drop (8*i)).take 8))) (l.drop (8*(i+1))):=by
   rw[FH,List.drop_drop,show 8*i+8=8*(i+1) by omega]
  rw[eN];generalize L5 v (Px ((l.drop (8*i)).take 8))=U at ab ih ⊢;simp only[W4.cells] at ab;rw[Xc];simp(disch:=omega)only[A5,A6,Jp,Kb,w,w8,w88,e8,Lo,Ie,li,ab];exact ih
theorem App{l:Aj}(hb:Cm l)(hl:l.length<=1099511627776)(Bi:100<=fu)(hf:l.length<fu)(k0 k1:Int):Ac (CX xs) prog fu (d+4) 98 [Ah k0,Ah k1,.lst false 1 l.length (Ad .u8 l)]=some ⟨[Ah (Afn k0 k1 l)],[]⟩:=by
 rw[ZS]
 have w:wrap .i64 (Int.tdiv (l.length:Int) 8)=((l.length / 8:Nat):Int):=by
  rw[Int.tdiv_eq_ediv_of_nonneg (by omega),Bb];omega
 have lp:=Acr (xs:=xs) (fu:=fu) (d:=d) (a0:=k0) (a1:=k1) (n:=l.length) (c:=Ad .u8 l) hb hl Bi (l.length / 8) 0 fu (Aim k0 k1) (by omega) (by omega);simp only[F5,w];exact lp
theorem NI{l:Aj}(hb:Cm l)(hl:l.length<=1099511627776)(Bi:100<=fu)(hf:l.length<fu)(dom:Int):Ac (CX xs) prog fu (d+5) 64 [Aw dom,.lst false 1 l.length (Ad .u8 l)]=some ⟨[Ah (B6 dom l)],[]⟩:=by rw[TK];have s:=App (xs:=xs) (fu:=fu) (d:=d) hb hl Bi hf (wrap .u64 dom) 0;simp only[A5,A6,s];rfl
theorem Q2(v:W4):Ac (CX xs) prog fu (d+2) 112 [.agg [Ah v.a,Ah v.b,Ah v.c,Ah v.d]]=some ⟨[.agg (NJ v).cells],[]⟩:=by have r13:=fun x=>At3 (xs:=xs) (fu:=fu) (d:=d) (x:=x) (k:=13) (by simp);have r16:=fun x=>At3 (xs:=xs) (fu:=fu) (d:=d) (x:=x) (k:=16) (by simp);have r17:=fun x=>At3 (xs:=xs) (fu:=fu) (d:=d) (x:=x) (k:=17) (by simp);have r21:=fun x=>At3 (xs:=xs) (fu:=fu) (d:=d) (x:=x) (k:=21) (by simp);have r32:=fun x=>At3 (xs:=xs) (fu:=fu) (d:=d) (x:=x) (k:=32) (by simp);rw[BC];simp(disch:=omega)only[A5,A6,r13,r16,r17,r21,r32];rfl
def X7(l:Aj)(i k:Nat):Int:=if i+k<l.length then l.getD (i+k) 0 else if k=7 then (l.length:Int) % 256 else 0
def pc(l:Aj)(i:Nat):Aj:=(List.range 8).map (X7 l i)
theorem Bfs{l:Aj}(hb:Cm l)(i:Nat):Cm (pc l i):=by
 intro x hx;obtain⟨k,hk,rfl⟩:=List.mem_map.1 hx;unfold X7;split
 ·rename_i h;rw[List.getD_eq_getElem?_getD,List.getElem?_eq_getElem h];exact hb _ (List.getElem_mem h)
 ·split<;>omega
theorem Ayr{l:Aj}{i:Nat}(h:i+8<=l.length):pc l i=(l.drop i).take 8:=by
 refine List.ext_getElem (by simp[pc];omega) fun k h1 h2=>?_
 have hk:k<8:=by simpa [pc] using h1
 simp only[pc,List.getElem_map,List.getElem_range,List.getElem_take,List.getElem_drop,X7];rw[Cx (by omega),List.getD_eq_getElem?_getD,List.getElem?_eq_getElem (by omega)];rfl
theorem XC(x:Int):∀n,Px (List.replicate n 0++[x])=256 ^ n*x
 |0=>by simp[Px]
 |n+1=>by
  rw[List.replicate_succ,Zzp,Px,XC x n,Int.pow_succ,Int.mul_comm (256 ^ n) 256,Int.mul_assoc];omega
theorem Awc{l:Aj}:Px (pc l (8*(l.length / 8)))=Lk l:=by
 have e:pc l (8*(l.length / 8))=l.drop (8*(l.length / 8))++(List.replicate (7-(l.length-8*(l.length / 8))) 0++[(l.length:Int) % 256]):=by
  refine List.ext_getElem (by simp[pc];omega) fun k h1 h2=>?_
  have hk:k<8:=by simpa [pc] using h1
  simp only[pc,List.getElem_map,List.getElem_range,X7];by_cases hc:8*(l.length / 8)+k<l.length
  ·rw[Cx hc,List.getElem_append_left (by rw[List.length_drop];omega),List.getElem_drop,List.getD_eq_getElem?_getD,List.getElem?_eq_getElem hc]
   rfl
  ·rw[Br hc,List.getElem_append_right (by rw[List.length_drop];omega)]
   by_cases h7:k=7
   ·rw[Cx h7,List.getElem_append_right (by simp;omega)]
    simp
   ·rw[Br h7,List.getElem_append_left (by simp;omega)]
    simp
 rw[e,DZ,XC];unfold Lk
 have:(256:Int) ^ (l.drop (8*(l.length / 8))).length*(256 ^ (7-(l.length-8*(l.length / 8)))*((l.length:Int) % 256))=72057594037927936*((l.length:Int) % 256):=by
  rw[<-Int.mul_assoc,<-Int.pow_add,List.length_drop];have:l.length-8*(l.length / 8)+(7-(l.length-8*(l.length / 8)))=7:=by omega
  rw[this];rfl
 rw[this]
theorem A7t{a b:Int}(ha:0<=a)(ha':a<72057594037927936)(hb:0<=b)(Jz:b<=255):DU .u64 (Fp .u64 a 8) b=b+256*a:=by
 obtain⟨n,rfl⟩:=Int.eq_ofNat_of_zero_le ha
 have hs:Fp .u64 (n:Int) 8=((n*2 ^ 8:Nat):Int):=by
  have:=NU (a:=(n:Int)) (k:=8) (by omega) (by omega) (by omega) (by
   have:(2 ^ (8:Int).toNat:Nat)=256:=by decide
   rw[this];omega)
  rw[this];have:(2 ^ (8:Int).toNat:Nat)=256:=by decide
  rw[this];have:(2 ^ 8:Nat)=256:=by decide
  rw[this];omega
 have h8:(2 ^ 8:Nat)=256:=by decide
 rw[hs,(EP (a:=b) 8 n hb (by rw[h8];omega) rfl (by rw[h8];omega)).2,h8]
 omega
theorem Akm{a0 a1:Int}{n m0:Nat}{c:Ae}{l:Aj}(hb:Cm l)(hl:l.length<=1099511627776){i:Nat}(hi:i<=l.length)(v:W4):∀(j nn:Nat),j<=8->j<nn ->
  Fd fu (Ac (CX xs) prog fu (d+2)) a0 a1 n c m0 nn l.length (Ad .u8 l) i (Px ((pc l i).drop j)) ((j:Int)-1) v.cells =
   Ga fu (Ac (CX xs) prog fu (d+2)) a0 a1 n c m0 l.length (Ad .u8 l) ((i+8:Nat):Int) (L5 v (Px (pc l i))).cells
 |_,0,_,h=>by omega
 |0,nn+1,hj,hn=>by
  have w8:wrap .i64 ((i:Int)+8)=((i+8:Nat):Int):=Bq
  have r1:=Q2 (xs:=xs) (fu:=fu) (d:=d) ⟨v.a,v.b,v.c,Ee .u64 v.d (Px (pc l i))⟩;have r2:=Q2 (xs:=xs) (fu:=fu) (d:=d) (NJ ⟨v.a,v.b,v.c,Ee .u64 v.d (Px (pc l i))⟩);have eA:L5 v (Px (pc l i))=A0y (NJ (NJ ⟨v.a,v.b,v.c,Ee .u64 v.d (Px (pc l i))⟩)) (Px (pc l i)):=rfl;rw[eA];generalize NJ ⟨v.a,v.b,v.c,Ee .u64 v.d (Px (pc l i))⟩=U at r1 r2 ⊢;generalize NJ U=U2 at r2 ⊢;simp only[W4.cells] at r1 r2;rw[Pe,Hk _ _ _ (by omega),Ma];simp only[W4.cells,List.getD_cons_zero,List.getD_cons_succ,PA,F5];simp (disch:=first|omega|(simp;done)) only[A5,A6,B5,List.take_succ_cons,List.take_zero,List.drop_succ_cons,Ma,List.drop_nil,Zzp,NL,List.append_nil,Po,NS,List.getD_cons_zero,List.getD_cons_succ,r1,r2,w8,Ip,Nat.reduceAdd,Nat.reduceLeDiff,List.append_eq]
  rfl
 |j+1,nn+1,hj,hn=>by
  have ih:=Akm (a0:=a0) (a1:=a1) (n:=n) (m0:=m0) (c:=c) hb hl hi v j nn (by omega) (by omega);have hw:wrap .i64 ((i:Int)+(((j+1:Nat):Int)-1))=((i+j:Nat):Int):=Bq
  have wj:wrap .i64 (((j+1:Nat):Int)-1-1)=(j:Int)-1:=Bq
  have hd:(pc l i).drop j=X7 l i j::(pc l i).drop (j+1):=by
   rw[List.drop_eq_getElem_cons (by simp[pc];omega)]
   simp[pc]
  have hB:=Bfs hb i;have hbn:=Q8 (hB.drop (j+1))
  have hp7:(256:Int) ^ ((pc l i).drop (j+1)).length<=72057594037927936:=by
   have Eh:((pc l i).drop (j+1)).length<=7:=by simp[pc]
   have:(256:Nat) ^ ((pc l i).drop (j+1)).length<=256 ^ 7:=Nat.pow_le_pow_right (by omega) Eh;have h2:(((256:Nat) ^ ((pc l i).drop (j+1)).length:Nat):Int)<=((256 ^ 7:Nat):Int):=by omega
   simpa using h2
  have hc0:0<=X7 l i j/\X7 l i j<=255:=hB _ (by rw[<-Ma (l:=pc l i)];exact List.mem_of_mem_drop (i:=j) (by rw[Ma,hd];simp))
  have hj2:DU .u64 (Fp .u64 (Px ((pc l i).drop (j+1))) 8) (X7 l i j)=Px ((pc l i).drop j):=by
   rw[A7t hbn.1 (by omega) hc0.1 hc0.2,hd];rfl
  have wc:wrap .u64 (X7 l i j)=X7 l i j:=E9;rw[Pe,OM _ _ _ (by omega)];simp only[F5,hw];by_cases c1:i+j<l.length
  ·have e:X7 l i j=l.getD (i+j) 0:=by unfold X7;rw[Cx c1]
   have e2:l[i+j]?=some (X7 l i j):=by rw[e,List.getD_eq_getElem?_getD,List.getElem?_eq_getElem c1];rfl
   rw[OM _ _ _ (by omega)];simp(disch:=omega)only[A5,A6,Jp,Kb,GG e2,wc,hj2,wj];exact ih
  ·rw[Hk _ _ _ (by omega)];by_cases h7:j=7
   ·subst h7;have e:X7 l i 7=(l.length:Int) % 256:=by unfold X7;rw[Br c1,Cx rfl]
    have e8:wrap .u8 (l.length:Int)=X7 l i 7:=by
     rw[e];simp only[wrap,IntKind.signed,IntKind.bits];simp
    rw[Od,Cx (by omega),e8,wc,hj2,wj];exact ih
   ·have e:X7 l i j=0:=by unfold X7;rw[Br c1,Br h7]
    rw[e] at hj2;rw[Od,Br (by omega),hj2,wj];exact ih
theorem VT{a0 a1:Int}{n:Nat}{c:Ae}{l:Aj}(hb:Cm l)(hl:l.length<=1099511627776)(Bi:100<=fu):∀(k i nn:Nat)(v:W4),i+k=l.length / 8->k+1<nn ->
  Ga fu (Ac (CX xs) prog fu (d+2)) a0 a1 n c nn l.length (Ad .u8 l) ((8*i:Nat):Int) v.cells=some ⟨[Ah (Ab9 (Ac6 (L5 (FH k v (l.drop (8*i))) (Lk l))))],[]⟩
 |_,_,0,_,_,h=>by omega
 |k,i,nn+1,v,hi,hn=>by
  have step:=Akm (xs:=xs) (fu:=fu) (d:=d) (a0:=a0) (a1:=a1) (n:=n) (m0:=nn) (c:=c) hb hl (i:=8*i) (by omega) v 8 fu (by omega) (by omega);have e0:Px ((pc l (8*i)).drop 8)=0:=by rw[List.drop_of_length_le (by simp[pc])];rfl
  rw[e0] at step;rw[Ph,OM _ _ _ (by omega)];refine step.trans ?_;cases k with
  |zero=>
   have e:i=l.length / 8:=by omega
   subst e;rw[Awc];generalize hv:L5 v (Lk l)=u;obtain⟨nn',rfl⟩:∃nn',nn=nn'+1:=⟨nn-1,by omega⟩
   have r1:=Q2 (xs:=xs) (fu:=fu) (d:=d) ⟨u.a,u.b,Ee .u64 u.c 255,u.d⟩;have r2:=Q2 (xs:=xs) (fu:=fu) (d:=d) (NJ ⟨u.a,u.b,Ee .u64 u.c 255,u.d⟩);have r3:=Q2 (xs:=xs) (fu:=fu) (d:=d) (NJ (NJ ⟨u.a,u.b,Ee .u64 u.c 255,u.d⟩));have r4:=Q2 (xs:=xs) (fu:=fu) (d:=d) (NJ (NJ (NJ ⟨u.a,u.b,Ee .u64 u.c 255,u.d⟩)))
   have eF:Ab9 (Ac6 (L5 (FH 0 v (l.drop (8*(l.length / 8)))) (Lk l)))=Ab9 (NJ (NJ (NJ (NJ ⟨u.a,u.b,Ee .u64 u.c 255,u.d⟩)))):=by
    rw[FH,hv];rfl
   rw[eF];clear eF;generalize NJ ⟨u.a,u.b,Ee .u64 u.c 255,u.d⟩=U1 at r1 r2 r3 r4 ⊢;generalize NJ U1=U2 at r2 r3 r4 ⊢;generalize NJ U2=U3 at r3 r4 ⊢;generalize NJ U3=U4 at r4 ⊢;simp only[W4.cells] at r1 r2 r3 r4;rw[Ph,Hk _ _ _ (by omega)];simp only[W4.cells,List.getD_cons_zero,List.getD_cons_succ,PA,F5];simp (disch:=first|omega|(simp;done)) only[A5,A6,B5,List.take_succ_cons,List.take_zero,List.drop_succ_cons,Ma,List.drop_nil,Zzp,NL,List.append_nil,Po,NS,List.getD_cons_zero,List.getD_cons_succ,r1,r2,r3,r4,Ip,Nat.reduceAdd,Nat.reduceLeDiff,List.append_eq]
   rfl
  |succ k=>
   have ih:=VT (a0:=a0) (a1:=a1) (n:=n) (c:=c) hb hl Bi k (i+1) nn (L5 v (Px (pc l (8*i)))) (by omega) (by omega);rw[show 8*i+8=8*(i+1) by omega,ih,Ayr (by omega)];simp only[FH,List.drop_drop];rw[show 8*(i+1)=8*i+8 by omega]
theorem Aa5{l:Aj}(hb:Cm l)(hl:l.length<=1099511627776)(Bi:100<=fu)(hf:l.length<fu)(k0 k1:Int):Ac (CX xs) prog fu (d+3) 79 [Ah k0,Ah k1,.lst false 1 l.length (Ad .u8 l)]=some ⟨[Ah (Afn k0 k1 l)],[]⟩:=by rw[FN];exact VT (xs:=xs) (fu:=fu) (d:=d) (a0:=k0) (a1:=k1) (n:=l.length) (c:=Ad .u8 l) hb hl Bi (l.length / 8) 0 fu (Aim k0 k1) (by omega) (by omega)
theorem GJ{l:Aj}(hb:Cm l)(hl:l.length<=1099511627776)(Bi:100<=fu)(hf:l.length<fu)(dom:Int):Ac (CX xs) prog fu (d+4) 45 [Aw dom,.lst false 1 l.length (Ad .u8 l)]=some ⟨[Ah (B6 dom l)],[]⟩:=by rw[CQ];have s:=Aa5 (xs:=xs) (fu:=fu) (d:=d) hb hl Bi hf (wrap .u64 dom) 0;simp only[A5,A6,s];rfl
theorem Ajq{l:Aj}(hb:Cm l)(hl:l.length<=1099511627776)(Bi:100<=fu)(hf:l.length<fu)(key dom:Int):Ac (CX xs) prog fu (d+4) 73 [Ah key,Aw dom,.lst false 1 l.length (Ad .u8 l)]=some ⟨[Ah (Atb key dom l)],[]⟩:=by rw[FZ];have s:=Aa5 (xs:=xs) (fu:=fu) (d:=d) hb hl Bi hf key (wrap .u64 (1+wrap .u64 dom));simp only[A5,A6,s];rfl
end
def D6(w:Int)(k:Nat):Int:=wrap .u8 (Gw .u64 w (56-8*(k:Int)))
def Bf(w:Int):Aj:=(List.range' 0 8).map (D6 w)
def Ap(ws:Aj):Aj:=ws.flatMap Bf
theorem B4(w:Int):(Bf w).length=8:=rfl
section
variable {fu d:Nat}{xs:FuncId->Option (Ae->Option A4)}{call:Aq}{n:Nat}{c:Ae}
theorem Abw{ws:Aj}{w:Int}{m0 l:Nat}{i k:Int}:∀(r j nn:Nat)(bs:Aj),8-j=r->r<nn->j<=8->bs.length+r<=34359738368 ->
  Kz fu call n c m0 nn bs.length w l (Ad .u64 ws) k i j (Ad .u8 bs) =
   H8 fu call n c m0 (bs++(List.range' j (8-j)).map (D6 w)).length l (Ad .u64 ws) k (wrap .i64 (i+1)) (Ad .u8 (bs++(List.range' j (8-j)).map (D6 w)))
 |r,j,0,bs,_,h,_,_=>by omega
 |0,j,nn+1,bs,hr,_,hj,_=>by
  have e:j=8:=by omega
  subst e;rw[Ti];simp(disch:=omega)only[A5,A6];simp
 |r+1,j,nn+1,bs,hr,hn,hj,hb=>by
  have ih:=Abw (ws:=ws) (w:=w) (m0:=m0) (l:=l) (i:=i) (k:=k) r (j+1) nn (bs++[D6 w j]) (by omega) (by omega) (by omega) (by simp;omega)
  have e8:=Ak .u8 bs;rw[Ti]
  have hx:wrap .u8 (Gw .u64 w (wrap .i64 (56-wrap .i64 (8*(j:Int)))))=D6 w j:=by
   rw[F8 (x:=8*(j:Int)) (by omega) (by omega),Bb];rfl
  have h0:0<=wrap .i64 (56-wrap .i64 (8*(j:Int))):=by
   rw[F8 (x:=8*(j:Int)) (by omega) (by omega),Bb];omega
  have Ahm:List.range' j (8-j)=j::List.range' (j+1) (8-(j+1)):=by
   rw[show 8-j=(8-(j+1))+1 by omega];exact List.range'_succ
  simp (disch:=first|omega|exact h0) only[A5,A6,Kb,hx,NY,Uu,F8 (x:=(j:Int)+1)];rw[Ahm];simp only[Vo,Po,NS,Ip,Zzv,Vv,List.singleton_append] at ih ⊢;exact ih
theorem PM{ws:Aj}(hl:ws.length<=1073741824)(Bi:100<=fu):∀(r:Aj)(i nn:Nat)(bs:Aj),ws.drop i=r->r.length<nn->bs.length=8*i ->
  H8 fu call n c nn bs.length ws.length (Ad .u64 ws) ws.length i (Ad .u8 bs)=some ⟨[.own 1 (bs++Ap r).length (Ad .u8 (bs++Ap r))],[]⟩
 |r,i,0,_,_,h,_=>by omega
 |[],i,nn+1,bs,h,_,_=>by
  have:=drop_nil h;have e8:=Ak .u8 bs;rw[To];simp(disch:=omega)only[A5,A6,Kb,NY,Ap,List.flatMap_nil,List.append_nil]
 |w::r,i,nn+1,bs,h,hn,hb=>by
  obtain⟨h1,h2,h3⟩:=D8 h;simp only[Po] at hn;rw[To];simp(disch:=omega)only[A5,A6,Jp,Kb,GG h2];rw[show (0:Int)=((0:Nat):Int) from rfl,Abw 8 0 fu bs rfl (by omega) (by omega) (by omega),Bb];have ih:=PM hl Bi r (i+1) nn (bs++Bf w) h3 (by omega) (by simp[B4];omega)
  have e:bs++Bf w++Ap r=bs++Ap (w::r):=by simp[Ap]
  rw[e] at ih;exact ih
theorem Yq{ws:Aj}(hl:ws.length<=1073741824)(Bi:100<=fu)(hf:ws.length<fu):Ac (CX xs) prog fu (d+1) 66 [.lst false 1 ws.length (Ad .u64 ws)]=some ⟨[.own 1 (Ap ws).length (Ad .u8 (Ap ws))],[]⟩:=by rw[RE];simp(disch:=omega)only[A5,A6,F8,Int.mul_one];exact PM hl Bi ws 0 fu [] rfl hf rfl
theorem XD{ws:Aj}{w:Int}{m0 i:Nat}(hw:ws[i]?=some w):∀(r nn:Nat)(j:Int)(bs:Aj),j=(r:Int)-1->r<=8->r<nn->bs.length+r<=34359738368 ->
  Gp fu call n c m0 nn ws.length (Ad .u64 ws) bs.length i j (Ad .u8 bs) =
   Fk fu call n c m0 ws.length (Ad .u64 ws) (bs++(List.range' (8-r) r).map (D6 w)).length (wrap .i64 (i+1)) (Ad .u8 (bs++(List.range' (8-r) r).map (D6 w)))
 |r,0,j,bs,_,_,h,_=>by omega
 |0,nn+1,j,bs,hr,_,_,_=>by
  rw[Mf];simp(disch:=omega)only[A5,A6];simp
 |r+1,nn+1,j,bs,hr,ET,hn,hb=>by
  have hi:=A36 hw;have ih:=XD (m0:=m0) hw r nn (j-1) (bs++[D6 w (8-(r+1))]) (by omega) (by omega) (by omega) (by simp;omega)
  have e8:=Ak .u8 bs
  have hx:wrap .u8 (Gw .u64 w (wrap .u64 (wrap .i64 (8*j))))=D6 w (8-(r+1)):=by
   rw[Bb,E9];unfold D6;rw[show 56-8*((8-(r+1):Nat):Int)=8*j by omega]
  have h0:0<=wrap .u64 (wrap .i64 (8*j)):=by
   rw[Bb,E9];omega
  have Ahm:List.range' (8-(r+1)) (r+1)=(8-(r+1))::List.range' (8-r) r:=by
   rw[List.range'_succ,show 8-(r+1)+1=8-r by omega]
  rw[Mf];simp (disch:=first|omega|exact h0) only[A5,A6,Jp,Kb,GG hw,hx,NY,Uu,F8 (x:=j-1)];rw[Ahm];simp only[Vo,Po,NS,Ip,Zzv,Vv,List.singleton_append] at ih ⊢;exact ih
theorem LR{ws:Aj}(hl:ws.length<=1073741824)(Bi:100<=fu):∀(r:Aj)(i nn:Nat)(bs:Aj),ws.drop i=r->r.length<nn->bs.length=8*i ->
  Fk fu call n c nn ws.length (Ad .u64 ws) bs.length i (Ad .u8 bs)=some ⟨[.own 1 (bs++Ap r).length (Ad .u8 (bs++Ap r))],[]⟩
 |r,i,0,_,_,h,_=>by omega
 |[],i,nn+1,bs,h,_,_=>by
  have:=drop_nil h;have e8:=Ak .u8 bs;rw[Ml];simp(disch:=omega)only[A5,A6,Kb,NY,Ap,List.flatMap_nil,List.append_nil]
 |w::r,i,nn+1,bs,h,hn,hb=>by
  obtain⟨h1,h2,h3⟩:=D8 h;simp only[Po] at hn;rw[Ml];simp(disch:=omega)only[A5,A6];rw[XD h2 8 fu 7 bs rfl (by omega) (by omega) (by omega),Bb];have ih:=LR hl Bi r (i+1) nn (bs++Bf w) h3 (by omega) (by simp[B4];omega)
  have e:bs++Bf w++Ap r=bs++Ap (w::r):=by simp[Ap]
  rw[e] at ih;exact ih
theorem Ic{ws:Aj}(hl:ws.length<=1073741824)(Bi:100<=fu)(hf:ws.length<fu):Ac (CX xs) prog fu (d+1) 50 [.lst false 1 ws.length (Ad .u64 ws)]=some ⟨[.own 1 (Ap ws).length (Ad .u8 (Ap ws))],[]⟩:=by rw[BE];exact LR hl Bi ws 0 fu [] rfl hf rfl
end
abbrev Mq(a b:Int):Int:=DU .u64 (Fp .u64 a 8) (wrap .u64 b)
def Anv(bs:Aj):Int:=bs.foldl Mq 0
theorem A8r{q:Int}(h0:0<=q)(h1:q<=18446744073709551615):Mq (q / 256) (wrap .u8 q)=q:=by
 have e1:Fp .u64 (q / 256) 8=q / 256*256:=by
  unfold Fp;have:((8:Int).toNat.min IntKind.u64.bits)=8:=by decide
  show wrap .u64 (q / 256*2 ^ (min (8:Int).toNat IntKind.u64.bits))=_;have h2:(2:Int) ^ (min (8:Int).toNat IntKind.u64.bits)=256:=by decide
  rw[h2,E9]
 have e2:wrap .u8 q=q % 256:=by
  simp only[wrap,IntKind.signed,IntKind.bits];simp
 have e3:wrap .u64 (q % 256)=q % 256:=E9;unfold Mq;rw[e1,e2,e3];obtain⟨n,rfl⟩:=Int.eq_ofNat_of_zero_le h0;have hn:n<18446744073709551616:=by omega
 have e4:(BitVec.ofInt 64 ((n:Int) / 256*256)).toNat=n / 256*256:=by
  rw[BitVec.toNat_ofInt];omega
 have e5:(BitVec.ofInt 64 ((n:Int) % 256)).toNat=n % 256:=by
  rw[BitVec.toNat_ofInt];omega
 have e6:n / 256*256 ||| n % 256=n:=by
  have:=Nat.shiftLeft_add_eq_or_of_lt (show n % 256<2 ^ 8 by omega) (n / 256);rw[Nat.shiftLeft_eq] at this;rw[<-this];omega
 unfold DU;show wrap .u64 ((BitVec.ofInt 64 ((n:Int) / 256*256) ||| BitVec.ofInt 64 ((n:Int) % 256)).toNat:Int)=n;rw[BitVec.toNat_or,e4,e5,e6,E9]
theorem Am4{w:Int}(k:Nat)(hk:k<8):D6 w k=wrap .u8 (w / 2 ^ (56-8*k)):=by
 unfold D6 Gw;have e:(56-8*(k:Int)).toNat=56-8*k:=by omega
 rw[e,Nat.min_eq_left (by show 56-8*k<=64;omega),Int.fdiv_eq_ediv_of_nonneg _ (Int.le_of_lt (Int.pow_pos (by omega)))]
theorem KC{w:Int}(h0:0<=w)(h1:w<=18446744073709551615):Anv (Bf w)=w:=by
 have st:∀(k:Nat) (D:Int),k<8->(2:Int) ^ (56-8*k)=D->0<D->Mq (w / D / 256) (D6 w k)=w / D:=by
  intro k D hk hD hp;rw[Am4 k hk,hD];exact A8r (Int.ediv_nonneg h0 (Int.le_of_lt hp)) (Int.le_trans (Int.ediv_le_self _ h0) h1)
 have s0:=st 0 72057594037927936 (by omega) (by decide) (by omega);have s1:=st 1 281474976710656 (by omega) (by decide) (by omega);have s2:=st 2 1099511627776 (by omega) (by decide) (by omega);have s3:=st 3 4294967296 (by omega) (by decide) (by omega);have s4:=st 4 16777216 (by omega) (by decide) (by omega);have s5:=st 5 65536 (by omega) (by decide) (by omega);have s6:=st 6 256 (by omega) (by decide) (by omega);have s7:=st 7 1 (by omega) (by decide) (by omega);rw[show w / 72057594037927936 / 256=0 by omega] at s0;rw[show w / 281474976710656 / 256=w / 72057594037927936 by omega] at s1;rw[show w / 1099511627776 / 256=w / 281474976710656 by omega] at s2;rw[show w / 4294967296 / 256=w / 1099511627776 by omega] at s3;rw[show w / 16777216 / 256=w / 4294967296 by omega] at s4;rw[show w / 65536 / 256=w / 16777216 by omega] at s5;rw[show w / 256 / 256=w / 65536 by omega] at s6
 rw[show w / 1 / 256=w / 256 by omega,show w / 1=w by omega] at s7;show Mq (Mq (Mq (Mq (Mq (Mq (Mq (Mq 0 (D6 w 0)) (D6 w 1)) (D6 w 2)) (D6 w 3)) (D6 w 4)) (D6 w 5)) (D6 w 6)) (D6 w 7)=w;rw[s0,s1,s2,s3,s4,s5,s6,s7]
end
end Go.Proofs.YtamoegpkglhedaaGreatDoor.Pv
