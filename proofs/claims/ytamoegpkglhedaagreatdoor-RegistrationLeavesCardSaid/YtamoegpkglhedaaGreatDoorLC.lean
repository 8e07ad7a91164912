/-
  The proof of RegistrationLeaves, part 3.
-/
import Derived.Test.YtamoegpkglhedaaGreatDoorLB
import Derived.StillTail
import Derived.WalkKit
import Derived.ProofKit
import Derived.OpenShut
import Derived.ShutString
import Derived.ChangeOld
import Derived.Below
import Derived.Deep.Slices
import Derived.ChangeSame
import Derived.WideKeyArgs
import Derived.Carry
import Derived.Test.YtamoegpkglhedaaGreatDoorRows
set_option linter.unusedSimpArgs false
set_option linter.unusedVariables false
namespace Go.Proofs.YtamoegpkglhedaaGreatDoor.Pv
open Go.IntKind (wrap)
open Go.Proofs.Tryz (prog)
set_option maxRecDepth 1000000
noncomputable section
section
section
variable {R R':Type}{Rel:Option R->Option R'->Prop}
theorem Kh(hn:Rel none none){k:IntKind}{p:PV}{K:Int->Option R}{K':Int->Option R'}(hK:∀n,Rel (K n) (K' n)):Rel (Bc k p K) (Bc k p K'):=by
 unfold Bc;split
 ·split<;>first|exact hK _|exact hn
 ·exact hn
theorem Ex(hn:Rel none none){p:PV}{K:IntKind->Int->Option R}{K':IntKind->Int->Option R'}(hK:∀k n,Rel (K k n) (K' k n)):Rel (Ea p K) (Ea p K'):=by unfold Ea;split<;>first|exact hK _ _|exact hn
theorem H6(hn:Rel none none){p:PV}{K:Bool->Option R}{K':Bool->Option R'}(hK:∀n,Rel (K n) (K' n)):Rel (Bu p K) (Bu p K'):=by unfold Bu;split<;>first|exact hK _|exact hn
theorem Gq(hn:Rel none none){p:PV}{K:ByteArray->Option R}{K':ByteArray->Option R'}(hK:∀n,Rel (K n) (K' n)):Rel (Bv p K) (Bv p K'):=by unfold Bv;split<;>first|exact hK _|exact hn
theorem Gn(hn:Rel none none){es:Nat}{p:PV}{K:Bool->Nat->Ad->Option R}{K':Bool->Nat->Ad->Option R'}(hK:∀z n c,Rel (K z n c) (K' z n c)):Rel (Xd es p K) (Xd es p K'):=by
 unfold Xd;split
 ·rename_i es' _ _;cases Nat.beq es' es
  ·exact hn
  ·exact hK _ _ _
 ·exact hK _ _ _
 ·exact hn
theorem Au1(hn:Rel none none){es:Nat}{p:PV}{K:PV->Option R}{K':PV->Option R'}(hK:∀p,Rel (K p) (K' p)):Rel (fsK es p K) (fsK es p K'):=by
 unfold fsK;split
 ·rename_i es' _ _;cases Nat.beq es' es
  ·exact hn
  ·exact hK _
 ·exact Gn hn fun _ _ _=>hK _
theorem Aiq(hn:Rel none none){es:Nat}{p:PV}{K:Nat->Ad->Option R}{K':Nat->Ad->Option R'}(hK:∀n c,Rel (K n c) (K' n c)):Rel (Lg es p K) (Lg es p K'):=by
 unfold Lg;split
 ·rename_i es' _ _;cases Nat.beq es' es
  ·exact hn
  ·exact hK _ _
 ·exact hn
theorem Av(hn:Rel none none){b:Bool}{K:Option R}{K':Option R'}(hK:b=true->Rel K K'):Rel (Ar b K) (Ar b K'):=by
 cases b
 ·exact hn
 ·exact hK rfl
theorem MG{b:Bool}{x y:Option R}{x' y':Option R'}(hx:Rel x x')(hy:Rel y y'):Rel (Ax b x y) (Ax b x' y'):=by
 cases b
 ·exact hy
 ·exact hx
theorem D1(hn:Rel none none){α:Type}{o:Option α}{K:α->Option R}{K':α->Option R'}(hK:∀a,o=some a->Rel (K a) (K' a)):Rel (Ds o K) (Ds o K'):=by
 cases o
 ·exact hn
 ·exact hK _ rfl
theorem B3(hn:Rel none none){α:Type}{l:List α}{K:α->List α->Option R}{K':α->List α->Option R'}(hK:∀a r,l=a::r->Rel (K a r) (K' a r)):Rel (Ai l K) (Ai l K'):=by
 cases l
 ·exact hn
 ·exact hK _ _ rfl
theorem Gs(hn:Rel none none){α:Type}{l:List α}{K:Option R}{K':Option R'}(hK:Rel K K'):Rel (Ap l K) (Ap l K'):=by
 cases l
 ·exact hK
 ·exact hn
theorem Mj(hn:Rel none none){p:PV}{K:Ad->Option R}{K':Ad->Option R'}(hK:∀c,p=.agg c->Rel (K c) (K' c)):Rel (Ep p K) (Ep p K'):=by
 unfold Ep;split
 ·exact hK _ rfl
 ·exact hn
theorem Akh(hn:Rel none none){p:PV}{K:Ad->Option R}{K':Ad->Option R'}(hK:∀c,Rel (K c) (K' c)):Rel (BI p K) (BI p K'):=by
 unfold BI;split
 ·exact hK _
 ·exact hn
theorem TU(hn:Rel none none){r:Option A1}{K:Ad->List Ad->Option R}{K':Ad->List Ad->Option R'}(hK:∀v o,Rel (K v o) (K' v o)):Rel (Bm r K) (Bm r K'):=by
 unfold Bm;split
 ·exact hK _ _
 ·exact hn
theorem Aik(hn:Rel none none){p:PV}{K:Value->Option R}{K':Value->Option R'}(hK:∀v,Rel (K v) (K' v)):Rel (fnK p K) (fnK p K'):=by
 unfold fnK;split
 ·exact hK _
 ·exact hK _
 ·exact hn
theorem Aui(hn:Rel none none){p:PV}{K:FuncId->Option R}{K':FuncId->Option R'}(hK:∀v,Rel (K v) (K' v)):Rel (fvK p K) (fvK p K'):=by
 unfold fvK;split
 ·rename_i f a b;cases (a.isEmpty&&b.isEmpty)
  ·exact hn
  ·exact hK _
 ·exact hn
theorem Td(hn:Rel none none){t:CT}{p:PV}{K:PV->Option R}{K':PV->Option R'}(hK:∀p,Rel (K p) (K' p)):Rel (IJ t p K) (IJ t p K'):=by
 unfold IJ;split
 ·exact Kh hn fun _=>hK _
 ·exact H6 hn fun _=>hK _
 ·exact Gq hn fun _=>hK _
 ·exact Gn hn fun _ _ _=>hK _
 ·exact Aik hn fun _=>hK _
theorem Atw(hn:Rel none none){t:CT}{p:PV}{K:PV->Option R}{K':PV->Option R'}(hK:∀p,Rel (K p) (K' p)):Rel (fcK t p K) (fcK t p K'):=by
 unfold fcK;split
 ·exact Au1 hn hK
 ·exact Td hn hK
theorem T6(hn:Rel none none):∀{ts:List CT}{cells:Ad}{off:Nat}{K:Ad->Option R}{K':Ad->Option R'},(∀c,Rel (K c) (K' c))->Rel (Wn ts cells off K) (Wn ts cells off K')
 |[],_,_,_,_,hK=>hK _
 |_::_,_,_,_,_,hK=>Td hn fun _=>T6 hn fun _=>hK _
theorem Qz(hn:Rel none none):∀{ts:List CT}{cells:Ad}{off:Nat}{K:Ad->Option R}{K':Ad->Option R'},(∀c,Rel (K c) (K' c))->Rel (R5 ts cells off K) (R5 ts cells off K')
 |[],_,_,_,_,hK=>hK _
 |_::_,_,_,_,_,hK=>Atw hn fun _=>Qz hn fun _=>hK _
theorem DT(hn:Rel none none){g:Bool}{cells:Ad}{K:PV->Option R}{K':PV->Option R'}(hK:∀p,Rel (K p) (K' p)):Rel (mkV g cells K) (mkV g cells K'):=by
 cases g
 ·exact B3 hn fun _ _ _=>Gs hn (hK _)
 ·exact hK _
theorem Ahh(hn:Rel none none){P:Program}{t:TypeId}{v:Value}{K:PV->Option R}{K':PV->Option R'}(hK:∀p,Cc p=[]->Rel (K p) (K' p))(hK':∀c,Rel (K (.agg c)) (K' (.agg c))):Rel (cvK P t v K) (cvK P t v K'):=by
 unfold cvK;split
 ·exact Av hn fun _=>T6 hn fun _=>hK' _
 ·split
  ·exact hK _ rfl
  ·exact hn
 ·exact hK _ rfl
theorem Asb(hn:Rel none none){op:BinOp}{x y:Int}{K:Bool->Option R}{K':Bool->Option R'}(hK:∀n,Rel (K n) (K' n)):Rel (As7 op x y K) (As7 op x y K'):=by unfold As7;split<;>first|exact hK _|exact hn
theorem Ae9(hn:Rel none none){op:BinOp}{k:IntKind}{x y:Int}{K:PV->Option R}{K':PV->Option R'}(hK:∀n,Rel (K n) (K' n)):Rel (QZ op k x y K) (QZ op k x y K'):=by unfold QZ;split<;>first|exact hK _|exact Av hn fun _=>hK _|exact Asb hn fun _=>hK _
theorem Aei(hn:Rel none none){op:BinOp}{x y:ByteArray}{K:PV->Option R}{K':PV->Option R'}(hK:∀n,Rel (K n) (K' n)):Rel (QO op x y K) (QO op x y K'):=by unfold QO;split<;>first|exact hK _|exact Av hn fun _=>hK _|exact hn
theorem UW(hn:Rel none none){e:Bool}{p:PV}{K:PV->Option R}{K':PV->Option R'}(hK:∀n,Rel (K n) (K' n)):Rel (QK e p K) (QK e p K'):=by unfold QK;split<;>first|exact hK _|exact MG (hK _) (MG (hK _) (hK _))|exact MG (hK _) (hK _)|exact hn
theorem Ab6(hn:Rel none none):∀{ts:List CT}{ps qs:Ad}{K:Bool->Option R}{K':Bool->Option R'},(∀b,Rel (K b) (K' b))->Rel (Oa ts ps qs K) (Oa ts ps qs K'):=by
 intro ts
 induction ts with
 |nil=>
  intro ps qs K K' hK;cases ps<;>cases qs<;>first|exact hK _|exact hn
 |cons t ts ih=>
  intro ps qs K K' hK;cases ps with
  |nil=>cases t<;>cases qs<;>exact hn
  |cons p ps=>
   cases qs with
   |nil=>cases t<;>exact hn
   |cons q qs=>
    cases t
    ·exact Kh hn fun _=>Kh hn fun _=>ih fun _=>hK _
    ·exact H6 hn fun _=>H6 hn fun _=>ih fun _=>hK _
    ·exact Gq hn fun _=>Gq hn fun _=>ih fun _=>hK _
    ·exact hn
    ·exact hn
theorem Aoz(hn:Rel none none){P:Program}{op:BinOp}{t:TypeId}{x y:PV}{K:PV->Option R}{K':PV->Option R'}(hK:∀p,Rel (K p) (K' p)):Rel (Aqq P op t x y K) (Aqq P op t x y K'):=by
 unfold Aqq;split
 ·split
  ·exact Kh hn fun _=>Ex hn fun _ _=>Av hn fun _=>hK _
  ·exact Kh hn fun _=>Ex hn fun _ _=>Av hn fun _=>hK _
  ·exact Kh hn fun _=>Kh hn fun _=>Ae9 hn hK
 ·exact Gq hn fun _=>Gq hn fun _=>Aei hn hK
 ·split
  ·exact H6 hn fun _=>H6 hn fun _=>hK _
  ·exact H6 hn fun _=>H6 hn fun _=>hK _
  ·exact hn
 ·split
  ·exact UW hn fun _=>hK _
  ·exact UW hn fun _=>hK _
  ·exact hn
 ·split
  ·exact hK _
  ·exact hK _
  ·exact hn
 ·exact hn
theorem Aap(hn:Rel none none){P:Program}{op:BinOp}{t:TypeId}{x y:PV}{K:PV->Option R}{K':PV->Option R'}(hK:∀p,Rel (K p) (K' p)):Rel (Zq P op t x y K) (Zq P op t x y K'):=by
 unfold Zq;split
 ·split
  ·exact Av hn fun _=>Mj hn fun _ _=>Mj hn fun _ _=>Ab6 hn fun _=>hK _
  ·exact Av hn fun _=>Mj hn fun _ _=>Mj hn fun _ _=>Ab6 hn fun _=>hK _
  ·exact hn
 ·exact Aoz hn hK
theorem Atl(hn:Rel none none){op:UnOp}{x:PV}{K:PV->Option R}{K':PV->Option R'}(hK:∀p,Rel (K p) (K' p)):Rel (unK op x K) (unK op x K'):=by unfold unK;split<;>first|exact H6 hn fun _=>hK _|exact Ex hn fun _ _=>hK _|exact hn
theorem Eu(hn:Rel none none){p:Option PV}{d:Nat}{K:Nat->Option R}{K':Nat->Option R'}(hK:∀n,Rel (K n) (K' n)):Rel (Ie p d K) (Ie p d K'):=by
 unfold Ie;split
 ·exact hK _
 ·exact Ex hn fun _ _=>Av hn fun _=>hK _
theorem HW(hn:Rel none none){x:PV}{d:Nat}{K:PV->Option R}{K':PV->Option R'}(hK:∀n,Rel (K n) (K' n)):Rel (Zb x d K) (Zb x d K'):=by unfold Zb;split<;>first|exact hK _|exact hn
theorem NU(hn:Rel none none){P:Program}{t:TypeId}{x:PV}{i:Int}{K:PV->Option R}{K':PV->Option R'}(hK:∀p,Rel (K p) (K' p)):Rel (Nq P t x i K) (Nq P t x i K'):=by
 unfold Nq;split
 ·exact Av hn fun _=>Av hn fun _=>HW hn hK
 ·refine Av hn fun _=>?_;split
  ·exact Av hn fun _=>Av hn fun _=>hK _
  ·exact Gn hn fun _ _ _=>Av hn fun _=>hK _
 ·exact hn
theorem IF(hn:Rel none none){Ii:Nat->Option (Nat × Nat)}:∀{ps:List (Nat × PV)} {cells:Ad}{K:Ad->Option R}{K':Ad->Option R'},(∀c,Rel (K c) (K' c))->Rel (Yf Ii ps cells K) (Yf Ii ps cells K')
 |[],_,_,_,hK=>hK _
 |(_,_)::_,_,_,_,hK=>D1 hn fun _ _=>Av hn fun _=>IF hn hK
theorem Xm(hn:Rel none none){P:Program}{t:TypeId}{K:Ad->Option R}{K':Ad->Option R'}(hK:∀p,Rel (K p) (K' p)):Rel (Ip P t K) (Ip P t K'):=
 D1 hn fun _ _=>Av hn fun _=>T6 hn hK
theorem Aqs(hn:Rel none none){x y:PV}{K:PV->Option R}{K':PV->Option R'}(hK:∀p,Rel (K p) (K' p)):Rel (As9 x y K) (As9 x y K'):=
 Ex hn fun _ _=>Kh hn fun _=>hK _
theorem Asd(hn:Rel none none){x y:PV}{K:PV->Option R}{K':PV->Option R'}(hK:∀p,Rel (K p) (K' p)):Rel (Awc x y K) (Awc x y K'):=
 Ex hn fun _ _=>Kh hn fun _=>hK _
theorem Ap1(hn:Rel none none){P:Program}{t:TypeId}{x:PV}{K:Nat->Option R}{K':Nat->Option R'}(hK:∀p,Rel (K p) (K' p)):Rel (Alf P t x K) (Alf P t x K'):=by
 unfold Alf;split
 ·exact Gq hn fun _=>hK _
 ·exact hK _
 ·split
  ·exact Av hn fun _=>hK _
  ·exact Gn hn fun _ _ _=>hK _
 ·exact hn
def ZZ(Rel:Option R->Option R'->Prop)(f f':Nat->Option Ad)(l:Bz):Prop:=∀i∈l,f i=f' i\/(f i=none/\∀b,Rel none b)
variable {f f':Nat->Option Ad}
theorem ZZ.sub{l l':Bz}(h:ZZ Rel f f' l)(hs:∀i∈l',i∈l):ZZ Rel f f' l':=fun i hi=>h i (hs i hi)
theorem ED(hn:Rel none none){l:Bz}{id:Nat}(hf:ZZ Rel f f' l)(hi:id∈l){K:Ad->Option R}{K':Ad->Option R'}(hK:∀c,f id=some c->Rel (K c) (K' c)):Rel (Ds (f id) K) (Ds (f' id) K'):=by
 rcases hf id hi with h|⟨h,hb⟩
 ·rw[<-h];exact D1 hn hK
 ·rw[h];exact hb _
theorem Ur(hn:Rel none none){es:Nat}{p:PV}{K:Nat->Ad->Option R}{K':Nat->Ad->Option R'}(hf:ZZ Rel f f' (As p))(hK:∀n c,Rel (K n c) (K' n c)):Rel (Adf f es p K) (Adf f' es p K'):=by
 unfold Adf;split
 ·rename_i id es' off n;cases Nat.beq es' es
  ·exact hn
  ·exact ED hn hf (by simp[As]) fun _ _=>Av hn fun _=>hK _ _
 ·exact Gn hn fun _ _ _=>hK _ _
theorem Ao1(hn:Rel none none){t:CT}{p:PV}{K:PV->Bz->Option R}{K':PV->Bz->Option R'}(hf:ZZ Rel f f' (As p))(hK:∀c m,(∀i∈m,f i≠none)->Rel (K c m) (K' c m)):Rel (R6 f t p K) (R6 f' t p K'):=by
 unfold R6;split
 ·split
  ·rename_i id es' off n;cases Nat.beq es' _
   ·exact hn
   ·exact ED hn hf (by simp[As]) fun c hc=>Av hn fun _=>hK _ _ (by simp[hc])
  ·exact Gn hn fun _ _ _=>hK _ _ (by simp)
 ·exact Td hn fun _=>hK _ _ (by simp)
theorem Z3(hn:Rel none none):∀{ts:List CT}{ps:Ad}{K:Ad->Bz->Option R}{K':Ad->Bz->Option R'},ZZ Rel f f' (ps.flatMap As)->(∀c m,(∀i∈m,f i≠none)->Rel (K c m) (K' c m))->Rel (Rn f ts ps K) (Rn f' ts ps K')
 |[],[],_,_,_,hK=>hK _ _ (by simp)
 |[],_::_,_,_,_,_=>hn
 |_::_,[],_,_,_,_=>hn
 |_::_,p::ps,_,_,hf,hK=>Ao1 hn (fun i hi=>hf i (by simp only[Kb,Bn];exact .inl hi)) fun _ m hm=>Z3 hn (fun i hi=>hf i (by simp only[Kb,Bn];exact .inr hi)) fun _ ms OK=>hK _ _ fun i hi=>by
   rcases Bn.1 hi with h|h
   ·exact hm i h
   ·exact OK i h
theorem Apf(hn:Rel none none){P:Program}{t:TypeId}{p:PV}{K:PV->Bz->Option R}{K':PV->Bz->Option R'}(hf:ZZ Rel f f' (Ct p))(hK:∀c m,(∀i∈m,f i≠none)->Rel (K c m) (K' c m)):Rel (Af9 P f t p K) (Af9 P f' t p K'):=by
 unfold Af9
 have h1:∀i,i∈[p].flatMap As->i∈Ct p:=by
  intro i hi;simp only[Kb,List.flatMap_nil,List.append_nil] at hi;cases p<;>first|exact hi|simp[As] at hi
 cases Cj P t
 ·exact Z3 hn (fun i hi=>hf i (h1 i hi)) fun _ _ hm=>B3 hn fun _ _ _=>Gs hn (hK _ _ hm)
 ·refine Mj hn fun c hc=>?_;subst hc;exact Z3 hn (fun i hi=>hf i hi) fun _ _ hm=>hK _ _ hm
theorem UY(hn:Rel none none){P:Program}:∀{ts:List TypeId}{ps:Ad}{K:Ad->Bz->Option R}{K':Ad->Bz->Option R'},ZZ Rel f f' (ps.flatMap Ct)->(∀c m,(∀i∈m,f i≠none)->Rel (K c m) (K' c m))->Rel (OQ P f ts ps K) (OQ P f' ts ps K')
 |[],[],_,_,_,hK=>hK _ _ (by simp)
 |[],_::_,_,_,_,_=>hn
 |_::_,[],_,_,_,_=>hn
 |_::_,p::ps,_,_,hf,hK=>Apf hn (fun i hi=>hf i (by simp only[Kb,Bn];exact .inl hi)) fun _ m hm=>UY hn (fun i hi=>hf i (by simp only[Kb,Bn];exact .inr hi)) fun _ ms OK=>hK _ _ fun i hi=>by
   rcases Bn.1 hi with h|h
   ·exact hm i h
   ·exact OK i h
theorem Aep(hn:Rel none none){P:Program}{t:TypeId}{x:PV}{lo hi:Option PV}{K:PV->Option R}{K':PV->Option R'}(hf:(∃n e,P.underlying t=some (.array n e))->ZZ Rel f f' (As x))(hK:∀c,Rel (K c) (K' c)):Rel (IL P f t x lo hi K) (IL P f' t x lo hi K'):=by
 unfold IL;split
 ·exact Gq hn fun _=>Eu hn fun _=>Eu hn fun _=>Av hn fun _=>hK _
 ·refine Av hn fun _=>?_;split
  ·exact Av hn fun _=>Eu hn fun _=>Eu hn fun _=>Av hn fun _=>hK _
  ·exact Gn hn fun _ _ _=>Eu hn fun _=>Eu hn fun _=>Av hn fun _=>hK _
 ·rename_i n e hu;refine Av hn fun _=>?_;split
  ·rename_i id off;exact ED hn (hf ⟨_,_,hu⟩) (by simp[As]) fun _ _=>Av hn fun _=>Eu hn fun _=>Eu hn fun _=>Av hn fun _=>hK _
  ·exact hn
 ·exact hn
theorem Aai(hn:Rel none none){P:Program}{d:Nat}{t:TypeId}{x:PV}{lo hi mx:Option PV}{K:PV->List (Nat × B2)->Option R}{K':PV->List (Nat × B2)->Option R'}(hK:∀c,Rel (K c [(d,.ar false [])]) (K' c [(d,.ar false [])])):Rel (Zz P d t x lo hi mx K) (Zz P d t x lo hi mx K'):=by
 unfold Zz;split
 ·refine Av hn fun _=>?_;split
  ·exact Av hn fun _=>Eu hn fun _=>Eu hn fun _=>Eu hn fun _=>Av hn fun _=>hK _
  ·exact Gn hn fun _ _ _=>Eu hn fun _=>Eu hn fun _=>Eu hn fun _=>Av hn fun _=>hK _
 ·exact hn
theorem VO{nz:Bool}{g g':Nat->Option Ad}(hn:Rel none none){P:Program}{t:TypeId}{x:PV}{K:PV->Option R}{K':PV->Option R'}(hf:∀i∈As x,(f i=f' i/\g i=g' i)\/(f i=none/\g i=none/\∀b,Rel none b))(hK:∀c,Rel (K c) (K' c)):Rel (EO nz P f g t x K) (EO nz P f' g' t x K'):=by
 unfold EO;split
 ·rename_i id off;refine Av hn fun _=>?_;rcases hf id (by simp[As]) with⟨h1,h2⟩|⟨h1,h2,h3⟩
  ·rw[<-h1,<-h2];split
   ·exact T6 hn fun _=>DT hn fun _=>hK _
   ·exact D1 hn fun _ _=>Qz hn fun _=>DT hn hK
  ·rw[h1,h2];exact h3 _
 ·exact Av hn fun _=>T6 hn fun _=>DT hn fun _=>hK _
 ·exact hn
theorem Akk(hn:Rel none none){P:Program}{d:Nat}{src dst:TypeId}{x:PV}{K:PV->List (Nat × B2)->Option R}{K':PV->List (Nat × B2)->Option R'}(hf:P.underlying dst=some .string->ZZ Rel f f' (As x))(hK:∀v b,(∀q∈b,q.1=d)->Rel (K v b) (K' v b)):Rel (PI P f d src dst x K) (PI P f' d src dst x K'):=by
 unfold PI;split
 ·exact Av hn fun _=>Ex hn fun _ _=>hK _ _ (by simp)
 ·rename_i hds;split
  ·exact Gq hn fun _=>hK _ _ (by simp)
  ·split
   ·exact Ur hn (hf hds) fun _ _=>Av hn fun _=>D1 hn fun _ _=>hK _ _ (by simp)
   ·exact Ur hn (hf hds) fun _ _=>Av hn fun _=>D1 hn fun _ _=>hK _ _ (by simp)
   ·exact hn
  ·exact hn
 ·split
  ·exact Gq hn fun _=>Av hn fun _=>hK _ _ (by simp)
  ·exact hn
 ·exact hn
theorem Aoh(hn:Rel none none){shr:Bool}{id:Nat}{t:CT}{p:PV}{K:PV->List (Nat × B2)->Option R}{K':PV->List (Nat × B2)->Option R'}(hK:∀c b,(∀q∈b,q.1=id)->Rel (K c b) (K' c b)):Rel (Are shr id t p K) (Are shr id t p K'):=by
 unfold Are;split
 ·cases shr
  ·exact Aiq hn fun _ _=>hK _ _ (by simp)
  ·exact Gn hn fun _ _ _=>hK _ _ (by simp)
 ·exact Td hn fun _=>hK _ _ (by simp)
theorem Zp(hn:Rel none none){shr:Bool}{N:Nat}:∀{ts:List CT}{id:Nat}{ps:Ad}{K:Ad->List (Nat × B2)->Option R} {K':Ad->List (Nat × B2)->Option R'},(∀c b,(∀q∈b,∃j,q.1=id+N*j)->Rel (K c b) (K' c b))->Rel (Uc shr N id ts ps K) (Uc shr N id ts ps K')
 |[],_,_,_,_,hK=>Gs hn (hK _ _ (by simp))
 |_::_,id,_,_,_,hK=>B3 hn fun _ _ _=>Aoh hn fun _ b hb=>Zp hn fun _ bs hbs=>hK _ _ fun q hq=>by
   rcases Bn.1 hq with h|h
   ·exact⟨0,by rw[hb q h];simp⟩
   ·obtain⟨j,hj⟩:=hbs q h;exact⟨j+1,by rw[hj,Nat.mul_add];omega⟩
theorem An0(hn:Rel none none){P:Program}{shr:Bool}{N id:Nat}{t:TypeId}{p:PV}{K:PV->List (Nat × B2)->Option R}{K':PV->List (Nat × B2)->Option R'}(hK:∀c b,(∀q∈b,∃j,q.1=id+N*j)->Rel (K c b) (K' c b)):Rel (Ak0 P shr N id t p K) (Ak0 P shr N id t p K'):=by
 unfold Ak0;split
 ·refine Akh hn fun ps=>Zp hn fun _ _ hb=>hK _ _ fun q hq=>?_;rcases List.mem_cons.1 hq with rfl|hq
  ·exact⟨0,by simp⟩
  ·obtain⟨j,hj⟩:=hb q hq;exact⟨j+1,by rw[hj,Nat.mul_add];omega⟩
 cases Cj P t
 ·exact Zp hn fun _ _ hb=>B3 hn fun _ _ _=>Gs hn (hK _ _ hb)
 ·exact Mj hn fun _ _=>Zp hn fun _ _ hb=>hK _ _ hb
theorem HJ(hn:Rel none none){P:Program}{shr:Bool}{N:Nat}:∀{ts:List TypeId}{id:Nat}{ps:Ad}{K:Ad->List (Nat × B2)->Option R} {K':Ad->List (Nat × B2)->Option R'},(∀c b,(∀q∈b,∃j,q.1=id+N*j)->Rel (K c b) (K' c b))->Rel (KG P shr N id ts ps K) (KG P shr N id ts ps K')
 |[],_,_,_,_,hK=>Gs hn (hK _ _ (by simp))
 |t::_,id,_,_,_,hK=>B3 hn fun _ _ _=>An0 hn fun _ b hb=>HJ hn fun _ bs hbs=>hK _ _ fun q hq=>by
   rcases Bn.1 hq with h|h
   ·exact hb q h
   ·obtain⟨j,hj⟩:=hbs q h;exact⟨Ade P t+j,by rw[hj,Nat.mul_add];omega⟩
end
theorem Yn{p:PV}{i:Nat}(h:i∈As p):i∈Ct p:=by cases p<;>first|exact h|simp[As] at h
theorem Iv{p:PV}{i:Nat}(h:i∈Ct p):i∈Cc p:=by cases p<;>first|exact h|simp[Ct,As] at h
theorem Nf{p:PV}{i:Nat}(h:i∈As p):i∈Cc p:=Iv (Yn h)
section
variable {R R':Type}{Rel:Option R->Option R'->Prop}{P:Program}{N:Nat}{tm tm':Nat->PV}{f f' g g':Nat->Option Ad}{o:Oper}
theorem OJ(hn:Rel none none){t:TypeId}{x:Operand}{K:PV->Option R}{K':PV->Option R'}(hx:Ck tm x=Ck tm' x)(hK:∀p,Rel (K p) (K' p)):Rel (GY P t tm x K) (GY P t tm' x K'):=by
 unfold GY;split
 ·exact Ahh hn (fun _ _=>hK _) (fun _=>hK _)
 ·rw[hx];exact hK _
theorem Ary(hn:Rel none none){t:CT}{p:PV}{K:PV->Option R}{K':PV->Option R'}(hK:∀p,As p=[]->Rel (K p) (K' p)):Rel (IJ t p K) (IJ t p K'):=by
 unfold IJ;split
 ·exact Kh hn fun _=>hK _ rfl
 ·exact H6 hn fun _=>hK _ rfl
 ·exact Gq hn fun _=>hK _ rfl
 ·exact Gn hn fun _ _ _=>hK _ rfl
 ·exact Aik hn fun _=>hK _ rfl
theorem SY(hn:Rel none none):∀{ts:List CT}{cells:Ad}{off:Nat}{K:Ad->Option R}{K':Ad->Option R'},(∀c,(∀p∈c,As p=[])->Rel (K c) (K' c))->Rel (Wn ts cells off K) (Wn ts cells off K')
 |[],_,_,_,_,hK=>hK _ (by simp)
 |_::_,_,_,_,_,hK=>Ary hn fun c hc=>SY hn fun cs KL=>hK _ (by
   intro p hp;rcases List.mem_cons.1 hp with h|h
   ·rw[h];exact hc
   ·exact KL p h)
theorem FK(hn:Rel none none){t:TypeId}{K:Ad->Option R}{K':Ad->Option R'}(hK:∀c,(∀p∈c,As p=[])->Rel (K c) (K' c)):Rel (Ip P t K) (Ip P t K'):=
 D1 hn fun _ _=>Av hn fun _=>SY hn hK
theorem Y0{p c:PV}(h:c∈cellsOf p){i:Nat}(hi:i∈As c):i∈Ct p:=by
 unfold cellsOf at h;split at h
 ·exact List.mem_flatMap.2 ⟨c,h,hi⟩
 ·simp at h;subst h;exact Yn hi
theorem Aeh{cells new:Ad}{off:Nat}{c:PV}(h:c∈B1 cells new off):c∈cells\/c∈new:=by
 unfold B1 at h;rcases Bn.1 h with h|h
 ·rcases Bn.1 h with h|h
  ·exact .inl (List.mem_of_mem_take h)
  ·exact .inr h
 ·exact .inl (List.mem_of_mem_drop h)
theorem OW(hn:Rel none none){Ii:Nat->Option (Nat × Nat)}{S:Nat->Prop}:∀{ps:List (Nat × PV)} {cells:Ad}{K:Ad->Option R}{K':Ad->Option R'},(∀c∈cells,∀i∈As c,S i)->(∀q∈ps,∀i∈Ct q.2,S i) ->
  (∀cs,(∀c∈cs,∀i∈As c,S i)->Rel (K cs) (K' cs))->Rel (Yf Ii ps cells K) (Yf Ii ps cells K')
 |[],_,_,_,h1,_,hK=>hK _ h1
 |(_,p)::_,_,_,_,h1,h2,hK=>D1 hn fun _ _=>Av hn fun _=>OW hn (fun c hc i hi=>by
   rcases Aeh hc with h|h
   ·exact h1 c h i hi
   ·exact h2 (_,p) CG i (Y0 h hi)) (fun q hq=>h2 q (Uf _ hq)) hK
theorem JG(hn:Rel none none):∀{ts:List CT}{ps:Ad}{K:Ad->Bz->Option R}{K':Ad->Bz->Option R'},(∀t∈ts,∀es,t ≠ .sl es)->(∀c,Rel (K c []) (K' c []))->Rel (Rn g ts ps K) (Rn g' ts ps K')
 |[],[],_,_,_,hK=>hK _
 |[],_::_,_,_,_,_=>hn
 |_::_,[],_,_,_,_=>hn
 |t::ts,p::ps,K,K',ht,hK=>by
  show Rel (R6 g t p _) (R6 g' t p _)
  have:∀{g:Nat->Option Ad} {S:Type} {L:PV->Bz->Option S},R6 g t p L=IJ t p fun c=>L c []:=by
   intro g S L;cases t with
   |sl es=>exact absurd rfl (ht _ (by simp) es)
   |_=>rfl
  rw[this,this];exact Td hn fun c=>JG hn (fun t h=>ht t (by simp[h])) fun cs=>hK _
theorem Aq3(hn:Rel none none){es:Nat}{t:TypeId}{x:PV}{K:Nat->Ad->Option R}{K':Nat->Ad->Option R'}(hx:ZZ Rel g g' (As x))(hK:∀m c,Rel (K m c) (K' m c)):Rel (Af4 P g es t x K) (Af4 P g' es t x K'):=by
 unfold Af4;split
 ·exact Av hn fun _=>Gq hn fun _=>hK _ _
 ·exact Ur hn hx hK
 ·exact hn
theorem Aq2(hn:Rel none none){t:TypeId}{x:PV}{K:Nat->Option R}{K':Nat->Option R'}(hK:∀n,Rel (K n) (K' n)):Rel (Amk P t x K) (Amk P t x K'):=by
 unfold Amk;split
 ·exact Gn hn fun _ _ _=>Av hn fun _=>hK _
 ·exact hn
theorem Abb(hn:Rel none none){d:Nat}{t tx:TypeId}{x:PV}{K:PV->List (Nat × B2)->Option R}{K':PV->List (Nat × B2)->Option R'}(hx:ZZ Rel g g' (As x))(hK:∀v nw,Rel (K v nw) (K' v nw)):Rel (Zm P g d t tx x K) (Zm P g' d t tx x K'):=by
 unfold Zm;split
 ·exact Av hn fun _=>Aq3 hn hx fun _ _=>Av hn fun _=>hK _ _
 ·exact hn
theorem QQ(hn:Rel none none){C:Gw}{call:Aq}{K:PV->Bz->List (Nat × B2)->Option R}{K':PV->Bz->List (Nat × B2)->Option R'}(N1:∀x∈o.op.operands.toList,Ck tm x=Ck tm' x)(hfg:Jk P o.op=true->∀x∈o.op.operands.toList,∀i∈Cc (Ck tm' x),(f i=f' i/\g i=g' i)\/(f i=none/\g i=none/\∀b,Rel none b))(hK:∀v fz nw,(Jk P o.op=false->fz=[]/\∀q∈nw,o.dst=some q.1)->(∀i∈fz,g i≠none)->Rel (K v fz nw) (K' v fz nw)):
  Rel (MQ C P N call tm f g o K) (MQ C P N call tm' f' g' o K'):=by
 have h0:∀v,Rel (K v [] []) (K' v [] []):=fun v=>hK v [] [] (fun _=>⟨rfl,by simp⟩) (by simp);have hf:Jk P o.op=true->∀x∈o.op.operands.toList,ZZ Rel f f' (Cc (Ck tm' x)):=fun h x hx i hi=>(hfg h x hx i hi).imp (·.1) fun h=>⟨h.1,h.2.2⟩;have hg:Jk P o.op=true->∀x∈o.op.operands.toList,ZZ Rel g g' (Cc (Ck tm' x)):=fun h x hx i hi=>(hfg h x hx i hi).imp (·.2) fun h=>⟨h.2.1,h.2.2⟩;unfold MQ;generalize hop:o.op=op at *
 split
 ·exact OJ hn (N1 _ (by simp[Op.operands])) h0
 ·exact OJ hn (N1 _ (by simp[Op.operands])) h0
 ·rename_i c x y;rw[N1 c (by simp[Op.operands]),N1 x (by simp[Op.operands]),N1 y (by simp[Op.operands])];exact H6 hn fun _=>MG (h0 _) (h0 _)
 ·exact D1 hn fun d hd=>Xm hn fun _=>hK _ _ _ (fun _=>⟨rfl,by simp[hd]⟩) (by simp)
 ·rename_i t x;rw[N1 x (by simp[Op.operands])];refine D1 hn fun d hd=>Av hn fun _=>?_;cases Vp P t
  ·exact Qz hn fun _=>hK _ _ _ (fun _=>⟨rfl,by simp[hd]⟩) (by simp)
  ·exact T6 hn fun _=>hK _ _ _ (fun _=>⟨rfl,by simp[hd]⟩) (by simp)
 ·rename_i t ps
  have:(ps.toList.map fun q=>(q.1,Ck tm q.2))=ps.toList.map fun q=>(q.1,Ck tm' q.2):=by
   apply List.map_congr_left;intro q hq;rw[N1 q.2 (by simp only[Op.operands];exact List.mem_map_of_mem hq)]
  rw[this];exact Av hn fun _=>Xm hn fun _=>IF hn fun _=>Qz hn fun _=>h0 _
 ·rename_i t n ps
  have:(ps.toList.map fun q=>(q.1,Ck tm q.2))=ps.toList.map fun q=>(q.1,Ck tm' q.2):=by
   apply List.map_congr_left;intro q hq;rw[N1 q.2 (by simp only[Op.operands];exact List.mem_map_of_mem hq)]
  rw[this];refine D1 hn fun d hd=>?_;split
  ·rename_i e hu;cases hsl:Ly P [e]
   ·refine Av hn fun _=>FK hn fun z hz=>IF hn fun cs=>JG hn ?_ fun cs'=>hK _ _ _ (fun _=>⟨rfl,by simp[hd]⟩) (by simp);intro c hc es he;obtain⟨l,hl,hc⟩:=List.mem_flatten.1 hc;rw[List.eq_of_mem_replicate hl] at hc;subst he
    have:Ly P [e]=true:=by
     unfold Ly;simp only[List.any_cons,List.any_nil,Bool.or_false,Bool.or_eq_true];exact .inr (List.any_eq_true.2 ⟨_,hc,rfl⟩)
    rw[this] at hsl;cases hsl
   refine Av hn fun _=>FK hn fun z hz=>OW (S:=fun i=>∃x∈(Op.buildSlice t n ps).operands.toList,i∈Cc (Ck tm' x)) hn ?_ ?_ fun cs KL=>?_
   ·intro c hc i hi;obtain⟨l,hl,hc⟩:=List.mem_flatten.1 hc;rw[List.eq_of_mem_replicate hl] at hc;rw[hz c hc] at hi;simp at hi
   ·intro q hq i hi;obtain⟨q',Gv,rfl⟩:=List.mem_map.1 hq;exact⟨q'.2,by simp only[Op.operands];exact List.mem_map_of_mem Gv,Iv hi⟩
   ·refine Z3 hn (fun i hi=>?_) fun cs' m hm=>hK _ _ _ (fun h=>by simp[Jk,hu,hsl] at h) hm;obtain⟨c,hc,hi⟩:=List.mem_flatMap.1 hi;obtain⟨x,hx,hxi⟩:=KL c hc i hi;exact hg (by simp[Jk,hu,hsl]) x hx i hxi
  ·exact hn
 ·rename_i t x;rw[N1 x (by simp[Op.operands])];exact VO hn (fun i hi=>hfg (by simp[Jk]) x (by simp[Op.operands]) i (Nf hi)) h0
 ·rename_i x;rw[N1 x (by simp[Op.operands])];exact HW hn h0
 ·rename_i op' t x y _;rw[N1 x (by simp[Op.operands]),N1 y (by simp[Op.operands])];exact Aap hn h0
 ·rename_i op' t x;rw[N1 x (by simp[Op.operands])];exact Atl hn h0
 ·rename_i src dst x;rw[N1 x (by simp[Op.operands])];exact Akk hn (fun hds i hi=>hg (by simp[Jk,hds]) x (by simp[Op.operands]) i (Nf hi)) fun v b hb=>D1 hn fun d hd=>hK _ _ _ (fun _=>⟨rfl,fun q hq=>by rw[hd,hb q hq,hd];rfl⟩) (by simp)
 ·rename_i t x y;rw[N1 x (by simp[Op.operands]),N1 y (by simp[Op.operands])];refine D1 hn fun d hd=>?_;split
  ·exact Ex hn fun _ _=>Ex hn fun _ _=>Av hn fun _=>Xm hn fun _=>hK _ _ _ (fun _=>⟨rfl,by simp[hd]⟩) (by simp)
  ·exact hn
 ·rename_i t x lo hi mx;split
  ·rw[N1 x (by simp[Op.operands])]
   have h1:lo.map (Ck tm)=lo.map (Ck tm'):=by
    cases lo with
    |none=>rfl
    |some y=>simp only[Option.map_some];rw[N1 y (by simp[Op.operands])]
   have h2:hi.map (Ck tm)=hi.map (Ck tm'):=by
    cases hi with
    |none=>rfl
    |some y=>simp only[Option.map_some];rw[N1 y (by simp[Op.operands])]
   rw[h1,h2];exact Aep hn (fun ⟨n,e,he⟩ i hi=>hf (by simp[Jk,he]) x (by simp[Op.operands]) i (Nf hi)) h0
  ·rename_i m;rw[N1 x (by simp[Op.operands])]
   have h1:lo.map (Ck tm)=lo.map (Ck tm'):=by
    cases lo with
    |none=>rfl
    |some y=>simp only[Option.map_some];rw[N1 y (by simp[Op.operands])]
   have h2:hi.map (Ck tm)=hi.map (Ck tm'):=by
    cases hi with
    |none=>rfl
    |some y=>simp only[Option.map_some];rw[N1 y (by simp[Op.operands])]
   rw[h1,h2,N1 m (by simp[Op.operands])];exact D1 hn fun d hd=>Aai hn fun c=>hK _ _ _ (fun _=>⟨rfl,by simp[hd]⟩) (by simp)
 ·rename_i t x fl;rw[N1 x (by simp[Op.operands])];exact D1 hn fun _ _=>Av hn fun _=>HW hn h0
 ·rename_i t x fl;rw[N1 x (by simp[Op.operands])];exact D1 hn fun _ _=>Av hn fun _=>Mj hn fun _ _=>Qz hn fun _=>DT hn h0
 ·rename_i t x i;rw[N1 x (by simp[Op.operands]),N1 i (by simp[Op.operands])];exact Ex hn fun _ _=>NU hn h0
 ·rename_i t x i;rw[N1 x (by simp[Op.operands]),N1 i (by simp[Op.operands])];refine Ex hn fun _ _=>?_;split
  ·exact Gq hn fun _=>Av hn fun _=>D1 hn fun _ _=>h0 _
  ·exact Mj hn fun _ _=>Av hn fun _=>Qz hn fun _=>DT hn h0
  ·exact hn
 ·rename_i t x k ok;rw[N1 x (by simp[Op.operands]),N1 k (by simp[Op.operands])];split
  ·refine Av hn fun _=>?_;split
   ·exact Gq hn fun _=>D1 hn fun _ _=>Ahh hn (fun _ _=>Av hn fun _=>h0 _) (fun _=>Av hn fun _=>h0 _)
   ·exact hn
  ·exact hn
 ·rename_i x i;rw[N1 x (by simp[Op.operands])];split
  ·exact D1 hn fun _ _=>h0 _
  ·exact hn
 ·rename_i c
  have Sa:∀x∈c.args.toList,x∈(Op.call c).operands.toList:=by
   intro x hx;simp only[Op.operands,Call.operands,Array.toList_append,Bn];exact .inr hx
  have rc:∀fn,Jk P (.call c)=true->Rel (OZ C P N call tm g o c fn K) (OZ C P N call tm' g' o c fn K'):=by
   intro fn hmm;unfold OZ;have:c.args.toList.map (Ck tm)=c.args.toList.map (Ck tm'):=List.map_congr_left fun x hx=>N1 x (Sa x hx);rw[this];refine UY hn (fun i hi=>?_) fun vs m hm=>TU hn fun rv ro=>Gs hn (Av hn fun _=>HJ hn fun ws bs hbs=>Av hn fun _=>hK _ _ _ (fun h=>by rw[hmm] at h;cases h) (fun i hi=>?_))
   ·obtain⟨p,hp,hi⟩:=List.mem_flatMap.1 hi;obtain⟨x,hx,rfl⟩:=List.mem_map.1 hp;exact hg hmm x (Sa x hx) i (Iv hi)
   ·have hi':i∈m:=by
     cases hq:Ly P (Rh P o.type)<;>rw[hq] at hi
     ·simp at hi
     ·exact hi
    exact hm i hi'
  split
  ·refine B3 hn fun x _ hx=>B3 hn fun _ _ _=>?_;rw[N1 x (Sa x (by rw[hx];simp))]
   exact Ap1 hn fun _=>h0 _
  ·refine B3 hn fun x _ hx=>B3 hn fun _ _ _=>?_;rw[N1 x (Sa x (by rw[hx];simp))]
   exact Aq2 hn fun _=>h0 _
  ·refine B3 hn fun x _ hx=>B3 hn fun y _ hy=>Gs hn ?_;subst hy;rw[N1 x (Sa x (by rw[hx];simp)),N1 y (Sa y (by rw[hx];simp))]
   exact Aqs hn h0
  ·refine B3 hn fun x _ hx=>B3 hn fun y _ hy=>Gs hn ?_;subst hy;rw[N1 x (Sa x (by rw[hx];simp)),N1 y (Sa y (by rw[hx];simp))]
   exact Asd hn h0
  ·rename_i hc;have hmm:Jk P (.call c)=true:=by simp[Jk,hc]
   refine Av hn fun _=>D1 hn fun d hd=>B3 hn fun _ _ hb=>B3 hn fun x _ hx=>Gs hn (B3 hn fun _ _ _=>B3 hn fun _ _ _=>?_);have hxm:x∈c.args.toList:=by rw[hb,hx];simp
   rw[N1 x (Sa x hxm)];exact Abb hn (fun i hi=>hg hmm x (Sa x hxm) i (Nf hi)) fun v nw=>hK _ _ _ (fun h=>by rw[hmm] at h;cases h) (by simp)
  ·rename_i fn hc;have hmm:Jk P (.call c)=true:=by simp[Jk,hc]
   exact rc fn hmm
  ·rename_i t hc;have hmm:Jk P (.call c)=true:=by simp[Jk,hc]
   have ht:=N1 (.tmp t) (by simp[Op.operands,Call.operands,hc]);change tm t=tm' t at ht;rw[ht];exact Aui hn fun fn=>rc fn hmm
  ·exact hn
 ·exact hn
variable {hp:Nat->Option B2}
end
open Go.RowKit
abbrev Xy:=PV × Bz × List (Nat × B2)
def Im(ops:Array Oper)(o:Oper)(tm:Nat->PV):Option Bool:=
 match o.guard with
 |none=>some true
 |some (j,want)=>
  match (ops[j]?).bind (·.dst) with
  |none=>none
  |some d=>
   match tm d with
   |.sc (.bool b)=>some (b==want)
   |.sc (.tuple _)=>some false
   |_=>none
section
variable {R:Type}{r:R}{C:Gw}{P:Program}{N:Nat}{call:Aq}{ops:Array Oper}{o x:Oper}{s:St}{K:St->Option R}
theorem ZA:El C P N call ops o s K=match Im ops o s.tm with
  |none=>none
  |some true=>Adu C P N call o s K
  |some false=>Ar (Hp N o.dst) (K ⟨C4 s.tm o.dst (.sc undef),s.hp⟩):=by
 unfold El Im;cases o.guard with
 |none=>rfl
 |some q=>
  obtain⟨j,want⟩:=q;cases hd:(ops[j]?).bind (·.dst) with
  |none=>simp[hd]
  |some d=>
   simp only[hd];cases ht:s.tm d with
   |sc v=>
    cases v with
    |bool b=>
     cases b<;>cases want<;>simp only[Ax,cond_true,cond_false,GK s.tm ht]<;>rfl
    |_=>rfl
   |_=>rfl
def Al5(C:Gw)(P:Program)(N:Nat)(call:Aq)(o:Oper)(s:St):Option Xy:=
 MQ C P N call s.tm (rd s.hp) (Mm s.hp) o fun v fz nw=>some (v,fz,nw)
theorem Auv{K:PV->Bz->List (Nat × B2)->Option R}:MQ C P N call s.tm (rd s.hp) (Mm s.hp) o K=(Al5 C P N call o s).bind fun q=>K q.1 q.2.1 q.2.2:=by refine QQ (Rel:=fun (a:Option R) (b:Option Xy)=>a=b.bind fun q=>K q.1 q.2.1 q.2.2) (K:=K) (K':=fun v fz nw=>some (v,fz,nw)) rfl (fun _ _=>rfl) (fun _ _ _ _ _=>.inl ⟨rfl,rfl⟩) fun v fz nw _ _=>rfl
theorem Afe{q:Xy}(h:Al5 C P N call o s=some q):(Jk P o.op=false->q.2.1=[]/\∀p∈q.2.2,o.dst=some p.1)/\∀i∈q.2.1,Mm s.hp i≠none:=by
 have:=QQ (C:=C) (P:=P) (N:=N) (call:=call) (o:=o) (tm:=s.tm) (tm':=s.tm) (f:=rd s.hp) (f':=rd s.hp) (g:=Mm s.hp) (g':=Mm s.hp)
  (Rel:=fun (a:Option Xy)(_:Option Xy)=>∀q,a=some q->(Jk P o.op=false->q.2.1=[]/\∀p∈q.2.2,o.dst=some p.1)/\∀i∈q.2.1,Mm s.hp i≠none)
  (K:=fun v fz nw=>some (v,fz,nw)) (K':=fun v fz nw=>some (v,fz,nw)) (fun _ h=>by cases h) (fun _ _=>rfl) (fun _ _ _ _ _=>.inl ⟨rfl,rfl⟩) (fun v fz nw h1 h2 q hq=>by cases hq;exact⟨h1,h2⟩)
 exact this q h
def gE(C:Gw)(P:Program)(N:Nat)(call:Aq)(ops:Array Oper)(o:Oper)(s:St):Option Xy:=
 match Im ops o s.tm with
 |none=>none
 |some true=>bif Ws C P o.op then none else Al5 C P N call o s
 |some false=>some (.sc undef,[],[])
def I4(C:Gw)(P:Program)(ops:Array Oper)(o:Oper)(tm:Nat->PV):Bool:=Ws C P o.op&&(Im ops o tm==some true)
theorem Nr(h:I4 C P ops o s.tm=false):El C P N call ops o s K=(gE C P N call ops o s).bind fun q=>HG N s o.dst q.1 q.2.1 q.2.2 K:=by
 rw[ZA];unfold gE;unfold I4 at h;cases hv:Im ops o s.tm with
 |none=>rfl
 |some b=>
  rw[hv] at h;cases b with
  |false=>
   show Ar _ _=HG N s o.dst (.sc undef) [] [] K;unfold HG;have h1:B6 s.hp []=true:=rfl;have h2:Au (Af s.hp []) []=s.hp:=rfl;rw[h1,h2,Bool.and_true]
  |true=>
   have hm:Ws C P o.op=false:=by simpa using h
   simp only[Adu,hm,cond_false];exact Auv
theorem Q9(h:I4 C P ops o s.tm=true):El C P N call ops o s K=XA C P N call s o K:=by rw[ZA];unfold I4 at h;simp only[Er,beq_iff_eq] at h;rw[h.2];simp only[Adu,h.1,cond_true]
theorem Ym{q:Xy}(h:gE C P N call ops o s=some q):(Jk P o.op=false->q.2.1=[]/\∀p∈q.2.2,o.dst=some p.1)/\∀i∈q.2.1,Mm s.hp i≠none:=by
 unfold gE at h;split at h
 ·cases h
 ·cases hm:Ws C P o.op<;>rw[hm] at h
  ·exact Afe h
  ·cases h
 ·cases h;exact⟨fun _=>⟨rfl,by simp⟩,by simp⟩
theorem H9{tm tm':Nat->PV}(h:∀t∈looks ops o,tm t=tm' t):∀y∈o.op.operands.toList,Ck tm y=Ck tm' y:=by
 intro y hy;cases y with
 |tmp t=>
  refine h t ?_;unfold looks Ao5;refine Bn.2 (.inl (List.mem_filterMap.2 ⟨.tmp t,hy,rfl⟩))
 |const v=>cases v<;>rfl
 |func f=>rfl
 |«global» g=>rfl
theorem Nx{tm tm':Nat->PV}(h:∀t∈looks ops o,tm t=tm' t):Im ops o tm=Im ops o tm':=by
 unfold Im;cases hg:o.guard with
 |none=>rfl
 |some q=>
  obtain⟨j,want⟩:=q;cases hd:(ops[j]?).bind (·.dst) with
  |none=>simp[hd]
  |some d=>
   have:tm d=tm' d:=h d (by
    unfold looks;rw[hg];refine Bn.2 (.inr ?_);simp only[hd];simp)
   simp only[hd,this]
theorem EK{s':St}{q:Xy}(ht:∀t∈looks ops o,s.tm t=s'.tm t)(hm:Jk P o.op=true->∀y∈o.op.operands.toList,∀i∈Cc (Ck s'.tm y),(rd s.hp i=rd s'.hp i/\Mm s.hp i=Mm s'.hp i)\/(rd s.hp i=none/\Mm s.hp i=none))(h:gE C P N call ops o s=some q):gE C P N call ops o s'=some q:=by
 unfold gE at h ⊢;rw[<-Nx ht];split at h
 ·cases h
 ·cases hM:Ws C P o.op<;>rw[hM] at h
  ·have:=QQ (C:=C) (P:=P) (N:=N) (call:=call) (o:=o) (tm:=s.tm) (tm':=s'.tm) (f:=rd s.hp) (f':=rd s'.hp) (g:=Mm s.hp) (g':=Mm s'.hp)
    (Rel:=fun (a b:Option Xy)=>a=some q->b=some q)
    (K:=fun v fz nw=>some (v,fz,nw)) (K':=fun v fz nw=>some (v,fz,nw)) (fun h=>h) (H9 ht)
    (fun M6 y hy i hi=>(hm M6 y hy i hi).imp id fun h=>⟨h.1,h.2,fun _ h=>by cases h⟩) (fun v fz nw _ _ h=>h)
   exact this h
  ·cases h
 ·exact h
end
open Go.RowKit
theorem Ug:∀{nw:List (Nat × B2)} {hp Dr:Nat->Option B2},B6 hp nw=true->(∀i b,(i,b)∈nw->Dr i=none)->B6 Dr nw=true
 |[],_,_,_,_=>rfl
 |(i,b)::nw,hp,Dr,h,h'=>by
  simp only[B6,Er,Option.isNone_iff_eq_none] at h ⊢;exact⟨⟨h' i b (by simp),h.1.2⟩,Ug h.2 fun j c hj=>h' j c (by simp[hj])⟩
section
variable {hp:Nat->Option B2}{fz:Bz}{nw:List (Nat × B2)}
theorem Hl(ha:B6 hp nw=true){i:Nat}(hi:hp i≠none):Au (Af hp fz) nw i=if i∈fz then (hp i).map Yp else hp i:=by obtain⟨h1,h2⟩:=B0 ha;rw[(E8 h2).2 i (fun bx hb=>hi (h1 i bx hb)),Ca]
theorem K8(ha:B6 hp nw=true){i:Nat}{b:B2}(hi:(i,b)∈nw):Au (Af hp fz) nw i=some b:=
 (E8 (B0 ha).2).1 i b hi
theorem Rm(ha:B6 hp nw=true){i:Nat}(hi:hp i=none)(hn:∀b,(i,b) ∉ nw):Au (Af hp fz) nw i=none:=by rw[(E8 (B0 ha).2).2 i hn,Ca,hi];simp
theorem Rs(ha:B6 hp nw=true){i:Nat}(hi:hp i≠none):Au (Af hp fz) nw i≠none:=by
 rw[Hl ha hi];cases h:hp i with
 |none=>exact absurd h hi
 |some b=>split<;>simp
theorem As0(b:Option B2):(match b.map Yp with|some (.st c)=>some c|some (.ar _ c)=>some c|_=>none)=(match b with|some (.st c)=>some c|some (.ar _ c)=>some c|_=>none):=by
 cases b with
 |none=>rfl
 |some b=>cases b<;>rfl
theorem Ap7(b:Option B2):(match b.map Yp with|some (.ar _ c)=>some c|_=>none)=(match b with|some (.ar _ c)=>some c|_=>none):=by
 cases b with
 |none=>rfl
 |some b=>cases b<;>rfl
theorem Aa2(ha:B6 hp nw=true){i:Nat}(hi:hp i≠none):rd (Au (Af hp fz) nw) i=rd hp i:=by
 unfold rd;rw[Hl ha hi];by_cases h:i∈fz
 ·rw[Cy h];exact As0 _
 ·rw[Bl h]
theorem VC(ha:B6 hp nw=true){i:Nat}(hi:hp i≠none):Mm (Au (Af hp fz) nw) i=Mm hp i:=by
 unfold Mm;rw[Hl ha hi];by_cases h:i∈fz
 ·rw[Cy h];exact Ap7 _
 ·rw[Bl h]
theorem Ah7{i:Nat}(hi:hp i=none):rd hp i=none:=by unfold rd;rw[hi]
theorem Ov{i:Nat}(hi:hp i=none):Mm hp i=none:=by unfold Mm;rw[hi]
theorem A3i(b:Option B2):(b.map Yp).map Yp=b.map Yp:=by
 cases b with
 |none=>rfl
 |some b=>cases b<;>rfl
theorem Agv{fx fo:Bz}{nx no:List (Nat × B2)}(hx:B6 hp nx=true)(ho:B6 (Au (Af hp fx) nx) no=true)(ho':B6 hp no=true)(Wc:B6 (Au (Af hp fo) no) nx=true)(h1:∀i∈fx,hp i≠none)(h2:∀i∈fo,hp i≠none):
  Au (Af (Au (Af hp fx) nx) fo) no=Au (Af (Au (Af hp fo) no) fx) nx:=by
 funext i
 by_cases hi:hp i=none
 ·by_cases XH:∃b,(i,b)∈no
  ·obtain⟨b,hb⟩:=XH
   have hnx:∀b',(i,b') ∉ nx:=fun b' Jp=>by
    have:=(B0 ho).1 i b hb;rw[K8 hx Jp] at this;cases this
   rw[K8 ho hb,Hl Wc (by rw[K8 ho' hb];simp),K8 ho' hb,Bl (fun h=>h1 i h hi)]
  ·have XH:∀b,(i,b) ∉ no:=fun b hb=>XH ⟨b,hb⟩;by_cases hnx:∃b,(i,b)∈nx
   ·obtain⟨b,hb⟩:=hnx;rw[K8 Wc hb,Hl ho (by rw[K8 hx hb];simp),K8 hx hb,Bl (fun h=>h2 i h hi)]
   ·have hnx:∀b,(i,b) ∉ nx:=fun b hb=>hnx ⟨b,hb⟩;rw[Rm ho (Rm hx hi hnx) XH,Rm Wc (Rm ho' hi XH) hnx]
 ·rw[Hl ho (Rs hx hi),Hl hx hi,Hl Wc (Rs ho' hi),Hl ho' hi];split<;>split<;>first|rfl|rw[A3i]
end
section
variable {R:Type}{r:R}{C:Gw}{P:Program}{N:Nat}{call:Aq}{ops:Array Oper}{o x:Oper}{s:St}{K:St->Option R}
structure ER(C:Gw)(P:Program)(ops:Array Oper)(x o:Oper):Prop where
 xo:∀d,x.dst=some d->d ∉ looks ops o
 ne:∀d,x.dst=some d->o.dst≠some d
 ox:∀d,o.dst=some d->d ∉ looks ops x
 mx:Ws C P x.op=true->Jk P o.op=false
 mo:Ws C P o.op=true->Jk P x.op=false
theorem Vf{l:Bz}{d:Nat}(h:l.any (Nat.beq d)=false):d ∉ l:=by intro hm;have:l.any (Nat.beq d)=true:=List.any_eq_true.2 ⟨d,hm,Qi d⟩;rw[this] at h;cases h
theorem Aqa(h:MR C P ops x o=false):ER C P ops x o:=by
 unfold MR at h;simp only[Bool.or_eq_false_iff,Bool.and_eq_false_iff] at h;obtain⟨⟨⟨h1,h2⟩,h3⟩,h4⟩:=h;refine⟨fun d hd=>?_,fun d hd he=>?_,fun d hd=>?_,fun hm=>?_,fun hm=>?_⟩
 ·simp only[hd,Bool.or_eq_false_iff] at h1;exact Vf h1.1
 ·simp only[hd,he,Bool.or_eq_false_iff] at h1;rw[Qi] at h1;cases h1.2
 ·simp only[hd] at h2;exact Vf h2
 ·rw[hm] at h3;rcases h3 with h|h
  ·cases h
  ·exact h
 ·rw[hm] at h4;rcases h4 with h|h
  ·cases h
  ·exact h
theorem Gt{tm:Nat->PV}{d:Option Tmp}{v:PV}{l:Bz}(h:∀i,d=some i->i ∉ l):∀t∈l,C4 tm d v t=tm t:=by
 intro t ht;cases d with
 |none=>rfl
 |some d=>exact Ak _ _ (by rintro rfl;exact h _ rfl ht)
theorem Qv{tm:Nat->PV}{d e:Option Tmp}{u v:PV}(h:∀i,d=some i->e≠some i):C4 (C4 tm d u) e v=C4 (C4 tm e v) d u:=by
 cases d with
 |none=>rfl
 |some d=>
  cases e with
  |none=>rfl
  |some e=>exact Aa5 _ _ _ (by rintro rfl;exact h _ rfl rfl)
def Has(C:Gw)(P:Program)(o:Oper)(s:St):Prop:=(∀y∈o.op.operands.toList,∀i∈Cc (Ck s.tm y),s.hp i≠none) /\
 (Ws C P o.op=true->LT o.op=false->∀y∈o.op.operands.toList,∀i∈Cc (Ck s.tm y),∀c,s.hp i=some (.st c)->∀p∈c,∀k∈As p,s.hp k≠none)
theorem Ns{tm tm':Nat->PV}(h:∀t∈looks ops o,tm t=tm' t):I4 C P ops o tm=I4 C P ops o tm':=by unfold I4;rw[Nx h]
theorem Ag7(hw:Has C P o s)(xo:∀d,x.dst=some d->d ∉ looks ops o)(ne:∀d,x.dst=some d->o.dst≠some d)(ox:∀d,o.dst=some d->d ∉ looks ops x)(hx:I4 C P ops x s.tm=false)(ho:I4 C P ops o s.tm=false)(h:El C P N call ops x s (fun s1=>El C P N call ops o s1 K)=some r):El C P N call ops o s (fun s1=>El C P N call ops x s1 K)=some r:=by
 rw[Nr hx] at h;cases ex:gE C P N call ops x s with
 |none=>rw[ex] at h;cases h
 |some q=>
 obtain⟨vx,fx,nx⟩:=q;rw[ex] at h;obtain⟨hb,h1⟩:=Am h;simp only[Er] at hb;have t1:∀t∈looks ops o,C4 s.tm x.dst vx t=s.tm t:=Gt xo;change El C P N call ops o ⟨C4 s.tm x.dst vx,Au (Af s.hp fx) nx⟩ K=some r at h1;rw[Nr (by rw[Ns t1];exact ho)] at h1
 cases eo:gE C P N call ops o ⟨C4 s.tm x.dst vx,Au (Af s.hp fx) nx⟩ with
 |none=>rw[eo] at h1;cases h1
 |some q=>
 obtain⟨vo,fo,no⟩:=q;rw[eo] at h1;obtain⟨hc,h2⟩:=Am h1;change K ⟨C4 (C4 s.tm x.dst vx) o.dst vo,Au (Af (Au (Af s.hp fx) nx) fo) no⟩=some r at h2;simp only[Er] at hc
 have eo':gE C P N call ops o s=some (vo,fo,no):=by
  refine EK t1 (fun _ y hy i hi=>?_) eo;have:=hw.1 y hy i hi;exact .inl ⟨Aa2 hb.2 this,VC hb.2 this⟩
 have ho':B6 s.hp no=true:=Ug hc.2 fun i b hi=>by
  cases hs:s.hp i with
  |none=>rfl
  |some c=>exact absurd ((B0 hc.2).1 i b hi) (Rs hb.2 (by rw[hs];simp))
 rw[Nr ho,eo']
 have Wc:B6 (Au (Af s.hp fo) no) nx=true:=Ug hb.2 fun i b hi=>by
  refine Rm ho' ((B0 hb.2).1 i b hi) fun c Q1=>?_;have:=(B0 hc.2).1 i c Q1;rw[K8 hb.2 hi] at this;cases this
 have t2:∀t∈looks ops x,s.tm t=C4 s.tm o.dst vo t:=fun t ht=>(Gt ox t ht).symm
 have ex':gE C P N call ops x ⟨C4 s.tm o.dst vo,Au (Af s.hp fo) no⟩=some (vx,fx,nx):=by
  refine EK t2 (fun _ y hy i hi=>?_) ex;by_cases hs:s.hp i=none
  ·exact .inr ⟨Ah7 hs,Ov hs⟩
  ·exact .inl ⟨(Aa2 ho' hs).symm,(VC ho' hs).symm⟩
 show Ar _ _=_;rw[hc.1,ho'];show El C P N call ops x ⟨C4 s.tm o.dst vo,Au (Af s.hp fo) no⟩ K=some r;rw[Nr (by rw[<-Ns t2];exact hx),ex']
 show Ar _ _=_;rw[hb.1,Wc];rw[<-h2];have hfx:∀i∈fx,s.hp i≠none:=fun i hi hs=>(Ym ex).2 i hi (Ov hs);have hfo:∀i∈fo,s.hp i≠none:=fun i hi hs=>(Ym eo').2 i hi (Ov hs);show K ⟨C4 (C4 s.tm o.dst vo) x.dst vx,Au (Af (Au (Af s.hp fo) no) fx) nx⟩=K _;rw[Qv ne,Agv hb.2 hc.2 ho' Wc hfx hfo]
end
open Go.RowKit
theorem FQ{C:Gw}{P:Program}{o:Op}(h:Ws C P o=true):Jk P o=true:=by
 unfold Ws at h;split at h
 ·rfl
 ·rename_i c;unfold Jk;simp only;split at h<;>rename_i hc
  ·rw[hc]
  ·rw[hc]
  ·cases h
  ·rw[hc]
  ·cases h
 ·cases h
structure ZW(N:Nat)(S:Nat->Prop)(dst:Option Nat)(hp E1 Dr Jz:Nat->Option B2):Prop where
 keep:∀i,hp i≠none->Dr i≠none
 off:∀i,i<N->dst≠some i->(¬S i\/hp i=none)->Dr i=hp i/\Jz i=E1 i
 same:∀i,hp i=E1 i->Dr i=Jz i
 far:∀i,¬S i->hp i≠none->Dr i=hp i
section
variable {R R':Type}{Rel:Option R->Option R'->Prop}{P:Program}{N:Nat}{tm tm':Nat->PV}{hp E1:Nat->Option B2}{f f':Nat->Option Ad}{o:Oper}
theorem TB(hn:Rel none none){t:CT}{p:PV}{K:PV->Bz->Option R}{K':PV->Bz->Option R'}(hf:ZZ Rel f f' (As p))(hK:∀c m,(∀i∈m,f i≠none/\i∈As p)->Rel (K c m) (K' c m)):Rel (R6 f t p K) (R6 f' t p K'):=by
 unfold R6;split
 ·split
  ·rename_i id es' off n;cases Nat.beq es' _
   ·exact hn
   ·exact ED hn hf (by simp[As]) fun c hc=>Av hn fun _=>hK _ _ (by simp[hc,As])
  ·exact Gn hn fun _ _ _=>hK _ _ (by simp)
 ·exact Td hn fun _=>hK _ _ (by simp)
theorem PT(hn:Rel none none):∀{ts:List CT}{ps:Ad}{K:Ad->Bz->Option R}{K':Ad->Bz->Option R'},ZZ Rel f f' (ps.flatMap As)->(∀c m,(∀i∈m,f i≠none/\i∈ps.flatMap As)->Rel (K c m) (K' c m))->Rel (Rn f ts ps K) (Rn f' ts ps K')
 |[],[],_,_,_,hK=>hK _ _ (by simp)
 |[],_::_,_,_,_,_=>hn
 |_::_,[],_,_,_,_=>hn
 |_::_,p::ps,_,_,hf,hK=>TB hn (fun i hi=>hf i (by simp only[Kb,Bn];exact .inl hi)) fun _ m hm=>PT hn (fun i hi=>hf i (by simp only[Kb,Bn];exact .inr hi)) fun _ ms OK=>hK _ _ fun i hi=>by
   simp only[Kb,Bn];rcases Bn.1 hi with h|h
   ·exact⟨(hm i h).1,.inl (hm i h).2⟩
   ·exact⟨(OK i h).1,.inr (OK i h).2⟩
theorem Zi{S:Nat->Prop}{dst:Option Nat}{id:Nat}{b:B2}{h0 h1:Nat->Option B2}(hS:S id)(Bx:hp id≠none)(h:ZW N S dst hp E1 h0 h1):ZW N S dst hp E1 (C7 h0 id (some b)) (C7 h1 id (some b)):=by
 refine⟨fun i hi=>?_,fun i hN hd hi=>?_,fun i hi=>?_,fun i hn hi=>?_⟩
 ·by_cases e:i=id
  ·subst e;rw[An];simp
  ·rw[Ak _ _ e];exact h.keep i hi
 ·have e:i≠id:=by
   rintro rfl
   rcases hi with hi|hi
   ·exact hi hS
   ·exact Bx hi
  rw[Ak _ _ e,Ak _ _ e];exact h.off i hN hd hi
 ·by_cases e:i=id
  ·subst e;rw[An,An]
  ·rw[Ak _ _ e,Ak _ _ e];exact h.same i hi
 ·rw[Ak _ _ (by rintro rfl;exact hn hS)];exact h.far i hn hi
theorem XD{S:Nat->Prop}{d:Nat}{b:B2}{h0 h1:Nat->Option B2}(hz:hp d=none)(h:ZW N S (some d) hp E1 h0 h1):ZW N S (some d) hp E1 (C7 h0 d (some b)) (C7 h1 d (some b)):=by
 refine⟨fun i hi=>?_,fun i hN hd hi=>?_,fun i hi=>?_,fun i hn hi=>?_⟩
 ·by_cases e:i=d
  ·subst e;rw[An];simp
  ·rw[Ak _ _ e];exact h.keep i hi
 ·have e:i≠d:=by rintro rfl;exact hd rfl
  rw[Ak _ _ e,Ak _ _ e];exact h.off i hN hd hi
 ·by_cases e:i=d
  ·subst e;rw[An,An]
  ·rw[Ak _ _ e,Ak _ _ e];exact h.same i hi
 ·rw[Ak _ _ (by rintro rfl;exact hi hz)];exact h.far i hn hi
theorem Yl(S:Nat->Prop)(dst:Option Nat):ZW N S dst hp E1 hp E1:=⟨fun _ h=>h,fun _ _ _ _=>⟨rfl,rfl⟩,fun _ h=>h,fun _ _ _=>rfl⟩
theorem Agu{S:Nat->Prop}{dst:Option Nat}{m:Bz}(hm:∀i∈m,hp i≠none/\S i):ZW N S dst hp E1 (Af hp m) (Af E1 m):=by
 refine⟨fun i hi=>fun h=>hi (Ew.1 h),fun i hN hd hi=>?_,fun i hi=>?_,fun i hn hi=>?_⟩
 ·have e:i ∉ m:=by
   intro h;rcases hi with hi|hi
   ·exact hi (hm i h).2
   ·exact (hm i h).1 hi
  rw[Ca,Ca,Bl e,Bl e];exact⟨rfl,rfl⟩
 ·rw[Ca,Ca,hi]
 ·rw[Ca,Bl (fun h=>hn (hm i h).2)]
theorem YO{S:Nat->Prop}(h:∀i,S i->hp i=E1 i\/(hp i=none/\∀b,Rel none b)){l:Bz}(hl:∀i∈l,S i):ZZ Rel (Mm hp) (Mm E1) l:=by
 intro i hi;rcases h i (hl i hi) with h|⟨h,h'⟩
 ·left;unfold Mm;rw[h]
 ·exact .inr ⟨Ov h,h'⟩
theorem Adx(hn:Rel none none){t:TypeId}{a x:PV}{K:St->Option R}{K':St->Option R'}{S:Nat->Prop}(hS:∀i,S i->hp i=E1 i\/(hp i=none/\∀b,Rel none b))(ha:∀i∈As a,S i)(hx:∀i∈Ct x,S i)(hK:∀Dr Jz,ZW N S none hp E1 Dr Jz->Rel (K ⟨tm,Dr⟩) (K' ⟨tm',Jz⟩)):Rel (IB P ⟨tm,hp⟩ t a x K) (IB P ⟨tm',E1⟩ t a x K'):=by
 unfold IB;split
 ·rename_i id off;show Rel (match hp id with|some (.st c)=>_|some (.ar false c)=>_|_=>none) (match E1 id with|some (.st c)=>_|some (.ar false c)=>_|_=>none);have Bx:S id:=ha id (by simp[As]);rcases hS id Bx with h|⟨h,hb⟩
  ·rw[<-h];split
   ·rename_i c hc;exact Av hn fun _=>Qz hn fun _=>hK _ _ (Zi Bx (by rw[hc];simp) (Yl _ _))
   ·rename_i c hc;refine Av hn fun _=>PT hn (YO hS fun i hi=>hx i ?_) fun _ m hm=>Av hn fun _=>hK _ _ (Zi Bx (by rw[hc];simp) (Agu fun i hi=>⟨fun h=>(hm i hi).1 (Ov h),hx i ?_⟩))
    ·obtain⟨c,hc,hi⟩:=List.mem_flatMap.1 hi;exact Y0 hc hi
    ·obtain⟨c,hc,hi⟩:=List.mem_flatMap.1 (hm i hi).2;exact Y0 hc hi
   ·exact hn
  ·rw[h];exact hb _
 ·exact hn
theorem UP(hn:Rel none none){es:Nat}{t:TypeId}{x:PV}{K:Nat->Ad->Option R}{K':Nat->Ad->Option R'}{S:Nat->Prop}(hS:∀i,S i->hp i=E1 i\/(hp i=none/\∀b,Rel none b))(hx:∀i∈Ct x,S i)(hK:∀m c,Rel (K m c) (K' m c)):Rel (Age P ⟨tm,hp⟩ es t x K) (Age P ⟨tm',E1⟩ es t x K'):=by
 unfold Age Af4;split
 ·exact Av hn fun _=>Gq hn fun _=>hK _ _
 ·exact Ur hn (YO hS fun i hi=>hx i (Yn hi)) hK
 ·exact hn
theorem WB(hn:Rel none none){d:Nat}{t tx:TypeId}{b x:PV}{K:St->Option R}{K':St->Option R'}{S:Nat->Prop}(hS:∀i,S i->hp i=E1 i\/(hp i=none/\∀b,Rel none b))(hdd:hp d=E1 d)(hb:∀i∈Ct b,S i)(hx:∀i∈Ct x,S i)(hK:∀v Dr Jz,(∀M,ZW M S (some d) hp E1 Dr Jz)->Rel (K ⟨C7 tm d v,Dr⟩) (K' ⟨C7 tm' d v,Jz⟩)):Rel (Zv P N ⟨tm,hp⟩ d t tx b x K) (Zv P N ⟨tm',E1⟩ d t tx b x K'):=by
 unfold Zv;split
 ·refine Av hn fun _=>?_;cases MA P tx
  rotate_left
  ·show Rel (GE P N ⟨tm,hp⟩ d _ b x K) (GE P N ⟨tm',E1⟩ d _ b x K');refine Ex hn fun _ n=>Gn hn fun z _ _=>?_;show Rel (Ar (z&&Nat.blt d N&&(hp d).isNone&&_&&_&&_) _) (Ar (z&&Nat.blt d N&&(E1 d).isNone&&_&&_&&_) _);rw[<-hdd];exact Av hn fun hb=>hK _ _ _ (fun M=>XD (by simp only[Er,Option.isNone_iff_eq_none] at hb;simp only[hb]) (Yl _ _))
  rw[cond_false,cond_false];refine UP hn hS hx fun m new=>?_;split
  ·rename_i id es off n;show Rel (match hp id with|some (.ar false c)=>Ar (Nat.beq es _&&Nat.beq off 0&&Nat.blt d N&&(hp d).isNone&&_&&_&&_&&_) _|_=>none) (match E1 id with|some (.ar false c)=>Ar (Nat.beq es _&&Nat.beq off 0&&Nat.blt d N&&(E1 d).isNone&&_&&_&&_&&_) _|_=>none);have Bx:S id:=hb id (by simp[Ct,As]);rw[<-hdd];rcases hS id Bx with h|⟨h,hbb⟩
   ·rw[<-h];split
    ·rename_i c hc;exact Av hn fun hb=>hK _ _ _ (fun M=>XD (by simp only[Er,Option.isNone_iff_eq_none] at hb;simp only[hb]) (Zi Bx (by rw[hc];simp) (Yl _ _)))
    ·exact hn
   ·rw[h];exact hbb _
  ·refine Gn hn fun z _ _=>?_;show Rel (Ar (z&&Nat.blt d N&&(hp d).isNone&&_&&_&&_) _) (Ar (z&&Nat.blt d N&&(E1 d).isNone&&_&&_&&_) _);rw[<-hdd];exact Av hn fun hb=>hK _ _ _ (fun M=>XD (by simp only[Er,Option.isNone_iff_eq_none] at hb;simp only[hb]) (Yl _ _))
 ·exact hn
theorem Agc(hn:Rel none none){d:Option Tmp}{t tx:TypeId}{b x:PV}{K:St->Option R}{K':St->Option R'}{S:Nat->Prop}(hS:∀i,S i->hp i=E1 i\/(hp i=none/\∀b,Rel none b))(hb:∀i∈Ct b,S i)(hx:∀i∈Ct x,S i)(hK:∀v Dr Jz,ZW N S d hp E1 Dr Jz->Rel (K ⟨C4 tm d v,Dr⟩) (K' ⟨C4 tm' d v,Jz⟩)):Rel (TT P N ⟨tm,hp⟩ d t tx b x K) (TT P N ⟨tm',E1⟩ d t tx b x K'):=by
 unfold TT;split
 ·refine Av hn fun _=>?_;refine UP hn hS hx fun m new=>?_;split
  ·rename_i id es off n;show Rel (match hp id with|some (.ar false c)=>Ar (Nat.beq es _&&_&&_) _|_=>none) (match E1 id with|some (.ar false c)=>Ar (Nat.beq es _&&_&&_) _|_=>none);have Bx:S id:=hb id (by simp[Ct,As]);rcases hS id Bx with h|⟨h,hbb⟩
   ·rw[<-h];split
    ·rename_i c hc;exact Av hn fun _=>hK _ _ _ (Zi Bx (by rw[hc];simp) (Yl _ _))
    ·exact hn
   ·rw[h];exact hbb _
  ·exact hn
 ·exact hn
def Axx(o:Oper)(tm:Nat->PV)(i:Nat):Prop:=∃x∈o.op.operands.toList,i∈Cc (Ck tm x)
def Rch(o:Oper)(tm:Nat->PV)(hp:Nat->Option B2)(i:Nat):Prop:=Axx o tm i\/LT o.op=false/\∃id c,Axx o tm id/\hp id=some (.st c)/\∃p∈c,i∈As p
theorem Aj4(hn:Rel none none){mv:Bool}{t:CT}{p:PV}{K:PV->Bz->Bz->Option R}{K':PV->Bz->Bz->Option R'}{S:Nat->Prop}(hS:∀i,S i->hp i=E1 i\/(hp i=none/\∀b,Rel none b))(hp_:∀i∈As p,S i)(hK:∀c m x,(∀i∈m++x,hp i≠none/\S i)->Rel (K c m x) (K' c m x)):Rel (Aji mv hp t p K) (Aji mv E1 t p K'):=by
 have frz:∀{t:CT} {p:PV},(∀i∈As p,S i)->Rel (R6 (Mm hp) t p fun c m=>K c m []) (R6 (Mm E1) t p fun c m=>K' c m []):=fun h=>TB hn (YO hS h) fun c m hm=>hK _ _ _ fun i hi=>by
  rw[List.append_nil] at hi;exact⟨fun e=>(hm i hi).1 (Ov e),h i (hm i hi).2⟩
 unfold Aji;split
 ·rename_i es;cases mv<;>simp only[cond_true,cond_false]
  ·exact frz hp_
  ·split
   ·rename_i id es' off n;rcases hS id (hp_ id (by simp[As])) with h|⟨h,hb⟩
    ·rw[<-h];split
     ·rename_i c hc;cases (Nat.beq es' es&&Nat.beq off 0)<;>simp only[cond_true,cond_false]
      ·exact frz hp_
      ·exact Av hn fun _=>hK _ _ _ fun i hi=>by
        simp only[NK,Sc] at hi;subst hi;exact⟨by rw[hc];simp,hp_ i (by simp[As])⟩
     ·exact frz hp_
    ·rw[h]
     have:(R6 (Mm hp) (.sl es) (.view id es' off n) fun c m=>K c m [])=none:=by
      unfold R6;simp only;cases Nat.beq es' es
      ·rfl
      ·simp only[cond_true,Ov h,Ds]
     show Rel (R6 (Mm hp) (.sl es) (.view id es' off n) fun c m=>K c m []) _;rw[this];exact hb _
   ·refine Gn hn fun z n c=>?_;cases z
    ·exact hK _ _ _ (by simp)
    ·exact hK _ _ _ (by simp)
 ·exact Td hn fun _=>hK _ _ _ (by simp)
theorem Vj(hn:Rel none none){mv:Bool}{S:Nat->Prop}(hS:∀i,S i->hp i=E1 i\/(hp i=none/\∀b,Rel none b)):∀{ts:List CT}{ps:Ad}{K:Ad->Bz->Bz->Option R}{K':Ad->Bz->Bz->Option R'},(∀p∈ps,∀i∈As p,S i) ->
  (∀c m x,(∀i∈m++x,hp i≠none/\S i)->Rel (K c m x) (K' c m x))->Rel (JI mv hp ts ps K) (JI mv E1 ts ps K')
 |[],[],_,_,_,hK=>hK _ _ _ (by simp)
 |[],_::_,_,_,_,_=>hn
 |_::_,[],_,_,_,_=>hn
 |_::_,p::ps,_,_,hp_,hK=>Aj4 hn hS (hp_ p (by simp)) fun _ m x hm=>Vj hn hS (fun q hq=>hp_ q (by simp[hq])) fun _ ms xs OK=>hK _ _ _ fun i hi=>by
   simp only[Bn] at hi hm OK;rcases hi with (hi|hi)|(hi|hi)
   ·exact hm i (.inl hi)
   ·exact OK i (.inl hi)
   ·exact hm i (.inr hi)
   ·exact OK i (.inr hi)
theorem Abw(hn:Rel none none){C:Gw}{f:FuncId}{i:Nat}{t:TypeId}{p:PV}{K:PV->Bz->Bz->List H8->Option R}{K':PV->Bz->Bz->List H8->Option R'}{S:Nat->Prop}(hS:∀i,S i->hp i=E1 i\/(hp i=none/\∀b,Rel none b))(hp_:∀i∈Cc p,S i)(hc:∀i∈Cc p,∀c,E1 i=some (.st c)->∀q∈c,∀k∈As q,S k)(hK:∀v m x l,(∀i∈m++x++l.flatMap H8.ids,hp i≠none/\S i)->Rel (K v m x l) (K' v m x l)):Rel (HA C P f hp i t p K) (HA C P f E1 i t p K'):=by
 unfold HA;split
 ·split
  ·rename_i id off;have Bx:S id:=hp_ id (by simp[Cc,Ct,As]);rcases hS id Bx with h|⟨h,hb⟩
   ·rw[h];split
    ·rename_i c RL;refine Av hn fun _=>Vj hn hS (fun q hq k hk=>hc id (by simp[Cc,Ct,As]) c RL q (List.mem_of_mem_drop (List.mem_of_mem_take hq)) k hk) fun cs m x hm=>hK _ _ _ _ fun k hk=>?_;rcases Bn.1 hk with hk|hk
     ·exact hm k hk
     ·simp only[Kb,List.flatMap_nil,H8.ids,List.append_nil,Sc] at hk;subst hk;exact⟨by rw[h,RL];simp,Bx⟩
    ·exact hn
   ·rw[h];exact hb _
  ·exact hn
 ·cases C.lnd f i
  ·cases Cj P t
   ·exact Vj hn hS (fun q hq k hk=>by
     simp at hq;subst hq;exact hp_ k (Nf hk)) fun cs m x hm=>B3 hn fun _ _ _=>Gs hn (hK _ _ _ _ (by simpa using hm))
   ·refine Mj hn fun cs KL=>Vj hn hS (fun q hq k hk=>hp_ k ?_) fun cs m x hm=>hK _ _ _ _ (by simpa using hm);subst KL;exact List.mem_flatMap.2 ⟨q,hq,hk⟩
  ·refine D1 hn fun e he=>?_;unfold An6;split
   ·rename_i id es' off n;have Bx:S id:=hp_ id (by simp[Cc,Ct,As]);rcases hS id Bx with h|⟨h,hb⟩
    ·rw[h];split
     ·rename_i c RL;refine Av hn fun _=>hK _ _ _ _ fun k hk=>?_;simp only[NK,Kb,List.flatMap_nil,H8.ids,List.append_nil,Sc] at hk;subst hk;exact⟨by rw[h,RL];simp,Bx⟩
     ·exact hn
    ·rw[h];exact hb _
   ·exact Gn hn fun _ _ _=>Av hn fun _=>hK _ _ _ _ (by simp[H8.ids])
theorem NL(hn:Rel none none){C:Gw}{f:FuncId}{S:Nat->Prop}(hS:∀i,S i->hp i=E1 i\/(hp i=none/\∀b,Rel none b)):∀{ts:List TypeId}{ps:Ad}{i:Nat}{K:Ad->Bz->Bz->List H8->Option R}{K':Ad->Bz->Bz->List H8->Option R'},
  (∀p∈ps,∀i∈Cc p,S i)->(∀p∈ps,∀i∈Cc p,∀c,E1 i=some (.st c)->∀q∈c,∀k∈As q,S k) ->
  (∀v m x l,(∀i∈m++x++l.flatMap H8.ids,hp i≠none/\S i)->Rel (K v m x l) (K' v m x l))->Rel (TA C P f hp i ts ps K) (TA C P f E1 i ts ps K')
 |[],[],_,_,_,_,_,hK=>hK _ _ _ _ (by simp)
 |[],_::_,_,_,_,_,_,_=>hn
 |_::_,[],_,_,_,_,_,_=>hn
 |_::_,p::ps,_,_,_,hp_,hc,hK=>Abw hn hS (hp_ p (by simp)) (hc p (by simp)) fun _ m x l hm=>NL hn hS (fun q hq=>hp_ q (by simp[hq])) (fun q hq=>hc q (by simp[hq])) fun _ ms xs ls OK=>hK _ _ _ _ fun i hi=>by
   simp only[Bn,List.flatMap_append] at hi hm OK;rcases hi with ((hi|hi)|(hi|hi))|(hi|hi)
   ·exact hm i (.inl (.inl hi))
   ·exact OK i (.inl (.inl hi))
   ·exact hm i (.inl (.inr hi))
   ·exact OK i (.inl (.inr hi))
   ·exact hm i (.inr hi)
   ·exact OK i (.inr hi)
theorem Apy(hn:Rel none none){t:Nat}{ct:CT}{was p:PV}{K:Nat->PV->List (Nat × B2)->Option R}{K':Nat->PV->List (Nat × B2)->Option R'}(hK:∀t c b,(∀q∈b,∃k,q.1=nid N k)->Rel (K t c b) (K' t c b)):Rel (Alt N t ct was p K) (Alt N t ct was p K'):=by
 unfold Alt;split
 ·split
  ·exact Aiq hn fun _ _=>hK _ _ _ (by intro q hq;simp only[Sc] at hq;subst hq;exact⟨t,rfl⟩)
  ·exact Gn hn fun _ _ _=>hK _ _ _ (by simp)
 ·exact Td hn fun _=>hK _ _ _ (by simp)
theorem SQ(hn:Rel none none):∀{cts:List CT}{ws ps:Ad}{t:Nat}{K:Nat->Ad->List (Nat × B2)->Option R} {K':Nat->Ad->List (Nat × B2)->Option R'},(∀t c b,(∀q∈b,∃k,q.1=nid N k)->Rel (K t c b) (K' t c b))->Rel (UU N t cts ws ps K) (UU N t cts ws ps K')
 |[],[],_,_,_,_,hK=>Gs hn (hK _ _ _ (by simp))
 |[],_::_,_,_,_,_,_=>hn
 |_::_,[],_,_,_,_,_=>hn
 |_::_,_::_,_,_,_,_,hK=>B3 hn fun _ _ _=>Apy hn fun _ _ b hb=>SQ hn fun _ _ bs hbs=>hK _ _ _ fun q hq=>by
   rcases Bn.1 hq with h|h
   ·exact hb q h
   ·exact hbs q h
theorem Zs(hn:Rel none none){S:Nat->Prop}{dst:Option Nat}:∀{l:List H8}{ro:List Ad} {t:Nat}{h0 h1:Nat->Option B2}{K:(Nat->Option B2)->List (Nat × B2)->Option R} {K':(Nat->Option B2)->List (Nat × B2)->Option R'},
  ZW N S dst hp E1 h0 h1->(∀i∈l.flatMap H8.ids,hp i≠none/\S i/\hp i=E1 i)->(∀h0' XB b,ZW N S dst hp E1 h0' XB->(∀q∈b,∃k,q.1=nid N k)->Rel (K h0' b) (K' XB b))->Rel (CZ N t l ro h0 K) (CZ N t l ro h1 K')
 |[],_,_,_,_,_,_,hT,_,hK=>Gs hn (hK _ _ _ hT (by simp))
 |.var id off cts ws::l,ro,t,h0,h1,K,K',hT,hl,hK=>by
  unfold CZ;refine B3 hn fun cs ro _=>SQ hn fun t' cs' bs hbs=>?_;have Bx:=hl id (by simp[H8.ids]);rw[<-hT.same id Bx.2.2];split
  ·exact Zs hn (Zi Bx.2.1 Bx.1 hT) (fun i hi=>hl i (by simp only[Kb,Bn];exact .inr hi)) fun h0' XB b hT' hb=>hK _ _ _ hT' fun q hq=>by
    rcases Bn.1 hq with h|h
    ·exact hbs q h
    ·exact hb q h
  ·exact hn
 |.row id::l,ro,t,h0,h1,K,K',hT,hl,hK=>by
  unfold CZ;have Bx:=hl id (by simp[H8.ids]);exact B3 hn fun cs ro _=>Zs hn (Zi Bx.2.1 Bx.1 hT) (fun i hi=>hl i (by simp only[Kb,Bn];exact .inr hi)) hK
 |.none::l,ro,t,h0,h1,K,K',hT,hl,hK=>by
  unfold CZ;exact B3 hn fun cs ro _=>Zs hn hT (fun i hi=>hl i (by simp only[Kb,Bn];exact .inr hi)) hK
theorem Adr(h:∀i,N<=i->hp i=E1 i)(hN:0<N):∀k t,Acm N hp k t=Acm N E1 k t
 |0,_=>rfl
 |k+1,t=>by
  unfold Acm;rw[h (nid N t) (by unfold nid;exact Nat.le_mul_of_pos_right _ (by omega)),Adr h hN k (t+1)]
theorem TH{h0 h1:Nat->Option B2}:∀{nw:List (Nat × B2)},(∀q∈nw,h0 q.1=h1 q.1)->B6 h0 nw=B6 h1 nw
 |[],_=>rfl
 |(i,b)::nw,h=>by
  unfold B6;rw[h (i,b) (by simp),TH (fun q hq=>h q (by simp[hq]))]
theorem QB{S:Nat->Prop}{dst:Option Nat}{h0 h1:Nat->Option B2}(hT:ZW N S dst hp E1 h0 h1):∀{nw:List (Nat × B2)} {g0 g1:Nat->Option B2},ZW N S dst hp E1 g0 g1->(∀q∈nw,N<=q.1\/dst=some q.1)->(∀q∈nw,hp q.1=none)->ZW N S dst hp E1 (Au g0 nw) (Au g1 nw)
 |[],_,_,h,_,_=>h
 |(i,b)::nw,g0,g1,h,hi,hz=>by
  refine QB hT (nw:=nw) ⟨fun k hk=>?_,fun k hN hd hk=>?_,fun k hk=>?_,fun k hn hk=>?_⟩ (fun q hq=>hi q (by simp[hq])) (fun q hq=>hz q (by simp[hq]))
  ·by_cases e:k=i
   ·subst e;rw[An];simp
   ·rw[Ak _ _ e];exact h.keep k hk
  ·have e:k≠i:=by
    rintro rfl
    rcases hi (k,b) (by simp) with q|q
    ·simp only at q;omega
    ·exact hd q
   rw[Ak _ _ e,Ak _ _ e];exact h.off k hN hd hk
  ·by_cases e:k=i
   ·subst e;rw[An,An]
   ·rw[Ak _ _ e,Ak _ _ e];exact h.same k hk
  ·rw[Ak _ _ (by rintro rfl;exact hk (hz (k,b) (by simp)))];exact h.far k hn hk
theorem A16{S:Nat->Prop}{dst:Option Nat}{m x:Bz}(hm:∀i∈m++x,hp i≠none/\S i):ZW N S dst hp E1 (Xx (Af hp m) x) (Xx (Af E1 m) x):=by
 refine⟨fun i hi h=>?_,fun i hN hd hi=>?_,fun i hi=>?_,fun i hn hi=>?_⟩
 ·rw[Hj] at h;have h1:Af hp m i≠none:=fun e=>hi (Ew.1 e);split at h
  ·cases hq:Af hp m i with
   |none=>exact h1 hq
   |some b=>rw[hq] at h;cases h
  ·exact h1 h
 ·have e:i ∉ m/\i ∉ x:=by
   refine⟨fun h=>?_,fun h=>?_⟩<;>(rcases hi with hi|hi)
   ·exact hi (hm i (by simp[h])).2
   ·exact (hm i (by simp[h])).1 hi
   ·exact hi (hm i (by simp[h])).2
   ·exact (hm i (by simp[h])).1 hi
  rw[Hj,Hj,Bl e.2,Bl e.2,Ca,Ca,Bl e.1,Bl e.1];exact⟨rfl,rfl⟩
 ·rw[Hj,Hj,Ca,Ca,hi]
 ·rw[Hj,Ca,Bl (fun h=>hn (hm i (by simp[h])).2),Bl (fun h=>hn (hm i (by simp[h])).2)]
theorem Aar(hn:Rel none none){C:Gw}{call:Aq}{f:FuncId}{c:Call}{K:St->Option R}{K':St->Option R'}{S:Nat->Prop}(N1:c.args.toList.map (Ck tm)=c.args.toList.map (Ck tm'))(hS:∀i,S i->hp i=E1 i\/(hp i=none/\∀b,Rel none b))(hp_:∀p∈c.args.toList.map (Ck tm'),∀i∈Cc p,S i)(hc:∀p∈c.args.toList.map (Ck tm'),∀i∈Cc p,∀c,E1 i=some (.st c)->∀q∈c,∀k∈As q,S k)(hdd:∀d,o.dst=some d->hp d=E1 d)(hNN:∀i,N<=i->hp i=E1 i)(hK:∀v Dr Jz,ZW N S o.dst hp E1 Dr Jz->Rel (K ⟨C4 tm o.dst v,Dr⟩) (K' ⟨C4 tm' o.dst v,Jz⟩)):Rel (HZ C P N call ⟨tm,hp⟩ o f c K) (HZ C P N call ⟨tm',E1⟩ o f c K'):=by
 unfold HZ;simp only[N1];refine NL hn hS hp_ hc fun vs m x l hm=>Av hn fun hb=>TU hn fun rv ro=>HJ hn fun ws bs hbs=>Av hn fun _=>?_;simp only[Er] at hb;have hN:0<N:=Nat.lt_of_succ_le (Oj hb.1.2);rw[Adr hNN hN];by_cases Ajv:∃i∈l.flatMap H8.ids,hp i≠E1 i
 ·obtain⟨i,hi,G6⟩:=Ajv;obtain⟨h1,h2⟩:=hm i (Bn.2 (.inr hi));rcases hS i h2 with h|⟨h,_⟩
  ·exact absurd h G6
  ·exact absurd h h1
 have hl:∀i∈l.flatMap H8.ids,hp i≠none/\S i/\hp i=E1 i:=fun i hi=>⟨(hm i (Bn.2 (.inr hi))).1,(hm i (Bn.2 (.inr hi))).2,Classical.byContradiction fun h=>Ajv ⟨i,hi,h⟩⟩;have hT0:ZW N S o.dst hp E1 (Xx (Af hp m) x) (Xx (Af E1 m) x):=A16 fun i hi=>hm i (Bn.2 (.inl hi));refine Zs hn hT0 hl fun h0 h1 bs' hT Bdv=>?_
 have Aj1:∀q∈bs++bs',N<=q.1\/o.dst=some q.1:=by
  intro q hq;rcases Bn.1 hq with hq|hq
  ·obtain⟨j,hj⟩:=hbs q hq;cases hd:o.dst with
   |none=>
    rw[hd] at hj;left;rw[hj];exact Nat.le_add_right _ _
   |some d=>
    rw[hd] at hj;change q.1=d+N*j at hj;cases j with
    |zero=>right;rw[hj];simp
    |succ j=>left;rw[hj,Nat.mul_add];omega
  ·obtain⟨k,hk⟩:=Bdv q hq;left;rw[hk];unfold nid;exact Nat.le_mul_of_pos_right _ (by omega)
 have JF:∀q∈bs++bs',h0 q.1=h1 q.1:=by
  intro q hq;refine hT.same q.1 ?_;rcases Aj1 q hq with h|h
  ·exact hNN _ h
  ·exact hdd _ h
 rw[TH JF]
 exact Av hn fun hb=>hK _ _ _ (QB hT hT Aj1 fun q hq=>by
  cases hz:hp q.1 with
  |none=>rfl
  |some c=>exact absurd ((JF q hq).trans ((B0 hb).1 q.1 q.2 hq)) (hT.keep q.1 (by rw[hz];simp)))
theorem Nm(hn:Rel none none){C:Gw}{call:Aq}{K:St->Option R}{K':St->Option R'}(N1:∀x∈o.op.operands.toList,Ck tm x=Ck tm' x)(hS:∀i,Rch o tm' E1 i->hp i=E1 i\/(hp i=none/\∀b,Rel none b))(hdd:∀d,o.dst=some d->hp d=E1 d)(hNN:∀i,N<=i->hp i=E1 i)(hK:∀v Dr Jz,ZW N (Rch o tm' E1) o.dst hp E1 Dr Jz->Rel (K ⟨C4 tm o.dst v,Dr⟩) (K' ⟨C4 tm' o.dst v,Jz⟩)):Rel (XA C P N call ⟨tm,hp⟩ o K) (XA C P N call ⟨tm',E1⟩ o K'):=by
 unfold XA;have hl:∀x∈o.op.operands.toList,∀i∈Cc (Ck tm' x),Rch o tm' E1 i:=fun x hx i hi=>.inl ⟨x,hx,hi⟩;have Wd:LT o.op=false->∀x∈o.op.operands.toList,∀i∈Cc (Ck tm' x),∀c,E1 i=some (.st c)->∀q∈c,∀k∈As q,Rch o tm' E1 k:=fun ha x hx i hi c hc q hq k hk=>.inr ⟨ha,i,c,⟨x,hx,hi⟩,hc,q,hq,hk⟩;generalize hLd:Rch o tm' E1=S at *
 generalize hop:o.op=op at *
 split
 ·rename_i t x y;simp only[N1 x (by simp[Op.operands]),N1 y (by simp[Op.operands])];refine Av hn fun hd=>Adx (N:=N) hn hS (fun i hi=>hl x (by simp[Op.operands]) i (Nf hi)) (fun i hi=>hl y (by simp[Op.operands]) i (Iv hi)) fun Dr Jz hh=>?_;have hd':=Option.isNone_iff_eq_none.1 hd;have:=hK .top Dr Jz (by rw[hd'];exact hh)
  rw[hd'] at this;exact this
 ·rename_i c
  have Sa:∀x∈c.args.toList,x∈(Op.call c).operands.toList:=by
   intro x hx;simp only[Op.operands,Call.operands,Array.toList_append,Bn];exact .inr hx
  split
  ·rename_i hc;refine D1 hn fun d hd=>B3 hn fun x _ hx=>B3 hn fun y _ hy=>Gs hn (B3 hn fun _ _ _=>B3 hn fun _ _ _=>?_);subst hy;have hxm:=Sa x (by rw[hx];simp)
   have hym:=Sa y (by rw[hx];simp)
   simp only[N1 x hxm,N1 y hym];refine WB hn hS (hdd d hd) (fun i hi=>hl x hxm i (Iv hi)) (fun i hi=>hl y hym i (Iv hi)) fun v Dr Jz hh=>?_;have:=hK v Dr Jz (by rw[hd];exact hh N)
   rw[hd] at this;exact this
  ·rename_i hc;refine B3 hn fun x _ hx=>B3 hn fun y _ hy=>Gs hn (B3 hn fun _ _ _=>B3 hn fun _ _ _=>?_);subst hy;have hxm:=Sa x (by rw[hx];simp)
   have hym:=Sa y (by rw[hx];simp)
   simp only[N1 x hxm,N1 y hym];exact Agc hn hS (fun i hi=>hl x hxm i (Iv hi)) (fun i hi=>hl y hym i (Iv hi)) hK
  ·rename_i f hcf;refine Aar hn (List.map_congr_left fun x hx=>N1 x (Sa x hx)) hS (fun p hp i hi=>?_) (fun p hp i hi=>?_) hdd hNN hK
   ·obtain⟨x,hx,rfl⟩:=List.mem_map.1 hp;exact hl x (Sa x hx) i hi
   ·obtain⟨x,hx,rfl⟩:=List.mem_map.1 hp;exact Wd (by simp only[LT,hcf]) x (Sa x hx) i hi
  ·exact hn
 ·exact hn
theorem MZ(hn:Rel none none){C:Gw}{call:Aq}{K:St->Option R}{K':St->Option R'}(N1:∀x∈o.op.operands.toList,Ck tm x=Ck tm' x)(hK:∀v Dr,(∀i,hp i≠none->Dr i≠none)->Rel (K ⟨C4 tm o.dst v,Dr⟩) (K' ⟨C4 tm' o.dst v,Dr⟩)):Rel (XA C P N call ⟨tm,hp⟩ o K) (XA C P N call ⟨tm',hp⟩ o K'):=
 Nm hn N1 (fun _ _=>.inl rfl) (fun _ _=>rfl) (fun _ _=>rfl) fun v Dr Jz hT=>by
  have:Dr=Jz:=funext fun i=>hT.same i rfl;subst this;exact hK v Dr hT.keep
end
section
variable {R:Type}{r:R}{C:Gw}{P:Program}{N:Nat}{call:Aq}{ops:Array Oper}{o x:Oper}{s:St}{K:St->Option R}
theorem YJ{tm:Nat->PV}{hp Dr:Nat->Option B2}{tm':Nat->PV}{q:Xy}(hm:Jk P o.op=false)(ht:∀t∈looks ops o,tm t=tm' t)(h:gE C P N call ops o ⟨tm,hp⟩=some q):gE C P N call ops o ⟨tm',Dr⟩=some q:=
 EK (s:=⟨tm,hp⟩) (s':=⟨tm',Dr⟩) ht (fun h=>by rw[hm] at h;cases h) h
theorem HM{tm:Nat->PV}{hp:Nat->Option B2}(hm:Jk P o.op=false)(h:El C P N call ops o ⟨tm,hp⟩ K=some r):
  ∃v nw,gE C P N call ops o ⟨tm,hp⟩=some (v,[],nw)/\Hp N o.dst=true/\B6 hp nw=true/\(∀p∈nw,o.dst=some p.1)/\K ⟨C4 tm o.dst v,Au hp nw⟩=some r:=by
 have hM:Ws C P o.op=false:=by
  cases hh:Ws C P o.op
  ·rfl
  ·rw[FQ hh] at hm;cases hm
 rw[Nr (by simp[I4,hM])] at h;cases e:gE C P N call ops o ⟨tm,hp⟩ with
 |none=>rw[e] at h;cases h
 |some q=>
  obtain⟨v,fz,nw⟩:=q;obtain⟨h1,h2⟩:=(Ym e).1 hm;simp only at h1 h2;subst h1;rw[e] at h;obtain⟨hb,h⟩:=Am h;simp only[Er] at hb;exact⟨v,nw,rfl,hb.1,hb.2,h2,h⟩
theorem OM{tm:Nat->PV}{hp:Nat->Option B2}{v:PV}{nw:List (Nat × B2)}(hm:Jk P o.op=false)(e:gE C P N call ops o ⟨tm,hp⟩=some (v,[],nw))(hd:Hp N o.dst=true)(ha:B6 hp nw=true)(h:K ⟨C4 tm o.dst v,Au hp nw⟩=some r):El C P N call ops o ⟨tm,hp⟩ K=some r:=by
 have hM:Ws C P o.op=false:=by
  cases hh:Ws C P o.op
  ·rfl
  ·rw[FQ hh] at hm;cases hm
 rw[Nr (by simp[I4,hM]),e];show Ar _ _=_;have ha':B6 hp nw=true:=ha;rw[hd,ha'];exact h
theorem Qg{hp:Nat->Option B2}{nw:List (Nat × B2)}(ha:B6 hp nw=true){i:Nat}(hi:∀p∈nw,p.1≠i):Au hp nw i=hp i:=
 (E8 (B0 ha).2).2 i fun b hb=>hi _ hb rfl
theorem Ar1{hp Dr:Nat->Option B2}{nw:List (Nat × B2)}(ha:B6 hp nw=true){g:Nat->Option B2}(h1:∀i,(∀p∈nw,p.1≠i)->g i=Dr i)(h2:∀i,(∃p∈nw,p.1=i)->g i=Au hp nw i)(ha':B6 Dr nw=true):g=Au Dr nw:=by
 funext i
 by_cases h:∃p∈nw,p.1=i
 ·rw[h2 i h];obtain⟨⟨j,b⟩,hp,rfl⟩:=h;rw[(E8 (B0 ha).2).1 j b hp,(E8 (B0 ha').2).1 j b hp]
 ·have h':∀p∈nw,p.1≠i:=fun p hp e=>h ⟨p,hp,e⟩;rw[h1 i h',Qg ha' h']
theorem Au8(ap:ER C P ops x o)(hx:I4 C P ops x s.tm=true)(h:El C P N call ops x s (fun s1=>El C P N call ops o s1 K)=some r):El C P N call ops o s (fun s1=>El C P N call ops x s1 K)=some r:=by
 have hm:Jk P o.op=false:=ap.mx (by unfold I4 at hx;simp only[Er] at hx;exact hx.1)
 rw[Q9 hx] at h;obtain⟨tm,hp⟩:=s;have look:∀v,∀t∈looks ops o,C4 tm x.dst v t=tm t:=fun v=>Gt ap.xo
 have h1:=Nm (P:=P) (N:=N) (o:=x) (tm:=tm) (tm':=tm) (hp:=hp) (E1:=hp) (K:=fun s1=>El C P N call ops o s1 K) (K':=fun _=>none)
  (Rel:=fun (a:Option R)(_:Option R)=>a=some r->∃v nw,gE C P N call ops o ⟨tm,hp⟩=some (v,[],nw)/\Hp N o.dst=true/\(∀p∈nw,o.dst=some p.1)/\B6 hp nw=true) (fun h=>by cases h) (fun _ _=>rfl) (fun _ _=>.inl rfl) (fun _ _=>rfl) (fun _ _=>rfl) (fun v Dr _ hT h=>by
   obtain⟨u,nw,hu,hd,ha,hn,_⟩:=HM hm h;refine⟨u,nw,YJ hm (look v) hu,hd,hn,Ug ha fun i b hi=>?_⟩;cases hh:hp i with
   |none=>rfl
   |some c=>exact absurd ((B0 ha).1 i b hi) (hT.keep i (by rw[hh];simp))) h
 obtain⟨v,nw,hv,hd,hn,ha⟩:=h1;refine OM hm hv hd ha ?_;have t2:∀t∈looks ops x,tm t=C4 tm o.dst v t:=fun t ht=>(Gt ap.ox t ht).symm;rw[Q9 (by rw[<-Ns t2];exact hx)]
 refine Nm (P:=P) (N:=N) (o:=x) (tm:=tm) (tm':=C4 tm o.dst v) (hp:=hp) (E1:=Au hp nw) (Rel:=fun (a b:Option R)=>a=some r->b=some r) (fun h=>by cases h) (H9 t2) (fun i _=>?_) (fun d hxd=>?_) (fun i hi=>(Qg ha fun p hp e=>by have:=Ty hd (hn p hp);omega).symm) (fun u Dr Jz hT h=>?_) h
 ·by_cases hi:∃p∈nw,p.1=i
  ·obtain⟨⟨j,b⟩,E1,rfl⟩:=hi;exact .inr ⟨(B0 ha).1 j b E1,fun _ h=>by cases h⟩
  ·exact .inl (Qg ha fun p hp e=>hi ⟨p,hp,e⟩).symm
 ·refine (Qg ha fun p hp e=>?_).symm;have:=hn p hp;rw[e] at this;exact ap.ne d hxd this
 ·obtain⟨v',nw',S0,_,ha',_,h'⟩:=HM hm h;have he:=YJ (Dr:=hp) hm (look u) S0;rw[hv] at he;simp only[Option.some.injEq,Prod.mk.injEq,true_and] at he;obtain⟨rfl,rfl⟩:=he
  have hh:Jz=Au Dr nw:=by
   refine Ar1 ha (fun i hi=>?_) (fun i hi=>?_) ha'
   ·exact (hT.same i (Qg ha hi).symm).symm
   ·obtain⟨⟨j,b⟩,E1,rfl⟩:=hi;refine (hT.off j (Ty hd (hn _ E1)) (fun e=>ap.ne j e (hn _ E1)) (.inr ((B0 ha).1 j b E1))).2
  rw[hh,<-Qv ap.ne];exact h'
theorem As8(hw:Has C P o s)(ap:ER C P ops x o)(ho:I4 C P ops o s.tm=true)(h:El C P N call ops x s (fun s1=>El C P N call ops o s1 K)=some r):El C P N call ops o s (fun s1=>El C P N call ops x s1 K)=some r:=by
 have hm:Jk P x.op=false:=ap.mo (by unfold I4 at ho;simp only[Er] at ho;exact ho.1)
 obtain⟨tm,hp⟩:=s;obtain⟨v,nw,hv,hd,ha,hn,h1⟩:=HM hm h;have t1:∀t∈looks ops o,C4 tm x.dst v t=tm t:=Gt ap.xo;change El C P N call ops o ⟨C4 tm x.dst v,Au hp nw⟩ K=some r at h1;rw[Q9 (by rw[Ns t1];exact ho)] at h1
 rw[Q9 ho];have hMo:Ws C P o.op=true:=by unfold I4 at ho;simp only[Er] at ho;exact ho.1
 have Ayc:∀i,Rch o tm hp i->hp i≠none:=by
  rintro i (⟨y,hy,hi⟩|⟨hap,id,c,⟨y,hy,hi⟩,hc,p,E1,hk⟩)
  ·exact hw.1 y hy i hi
  ·exact hw.2 hMo hap y hy id hi c hc p E1 i hk
 refine Nm (P:=P) (N:=N) (o:=o) (tm:=C4 tm x.dst v) (tm':=tm) (hp:=Au hp nw) (E1:=hp) (Rel:=fun (a b:Option R)=>a=some r->b=some r) (fun h=>by cases h) (H9 t1) (fun i hi=>?_) (fun d hod=>?_) (fun i hi=>Qg ha fun p hp e=>by have:=Ty hd (hn p hp);omega) (fun u Dr Jz hT h=>?_) h1
 ·refine .inl (Qg ha fun p Dr e=>Ayc i hi ?_);rw[<-e];exact (B0 ha).1 p.1 p.2 Dr
 ·refine Qg ha fun p Dr e=>?_;have:=hn p Dr;rw[e] at this;exact ap.ne d this hod
 ·have Tg:∀p∈nw,Dr p.1=Au hp nw p.1/\Jz p.1=none:=by
   intro p hp2;have XH:=(B0 ha).1 p.1 p.2 hp2;have h3:=hT.off p.1 (Ty hd (hn p hp2)) (fun e=>ap.ne p.1 (hn p hp2) e) (.inl fun hL=>Ayc _ hL XH);exact⟨h3.1,h3.2.trans XH⟩
  have ha':B6 Jz nw=true:=Ug ha fun i b hi=>(Tg (i,b) hi).2;refine OM hm (YJ hm (fun t ht=>(Gt ap.ox t ht).symm) hv) hd ha' ?_
  have hh:Dr=Au Jz nw:=by
   refine Ar1 ha (fun i hi=>?_) (fun i hi=>?_) ha'
   ·exact hT.same i (Qg ha hi)
   ·obtain⟨p,hp2,rfl⟩:=hi;exact (Tg p hp2).1
  rw[<-Qv ap.ne,<-hh];exact h
theorem A5z(hw:Has C P o s)(ap:ER C P ops x o)(h:El C P N call ops x s (fun s1=>El C P N call ops o s1 K)=some r):El C P N call ops o s (fun s1=>El C P N call ops x s1 K)=some r:=by
 cases hx:I4 C P ops x s.tm
 ·cases ho:I4 C P ops o s.tm
  ·exact Ag7 hw ap.xo ap.ne ap.ox hx ho h
  ·exact As8 hw ap ho h
 ·exact Au8 ap hx h
theorem Nh(h:Yk P o.op=true):Ws C P o.op=false:=by
 unfold Yk at h;split at h
 ·rename_i ho;rw[ho];rfl
 ·rename_i ho;rw[ho];rfl
 ·cases h
def SH(P:Program)(ops:Array Oper)(o:Oper)(tm:Nat->PV):Prop:=Yk P o.op=true\/Im ops o tm=some false
theorem CW{tm tm':Nat->PV}(h:∀t∈looks ops o,tm t=tm' t)(hl:SH P ops o tm):SH P ops o tm':=by
 rcases hl with hl|hl
 ·exact .inl hl
 ·exact .inr (by rw[<-Nx h];exact hl)
theorem VL{tm:Nat->PV}(hl:SH P ops o tm):I4 C P ops o tm=false:=by
 rcases hl with hl|hl
 ·simp[I4,Nh hl]
 ·simp[I4,hl]
theorem Ahu{q:Xy}(hl:SH P ops o s.tm)(h:gE C P N call ops o s=some q):q.2.1=[]/\q.2.2=[]:=by
 unfold gE at h;split at h
 ·cases h
 ·rename_i hv
  have hl:Yk P o.op=true:=by
   rcases hl with hl|hl
   ·exact hl
   ·rw[hv] at hl;cases hl
  rw[Nh hl] at h;have h:Al5 C P N call o s=some q:=h;unfold Yk at hl;split at hl
  ·rename_i t a ho;unfold Al5 MQ at h;rw[ho] at h
   have:=VO (nz:=C.nz N) (P:=P) (f:=rd s.hp) (f':=rd s.hp) (g:=Mm s.hp) (g':=Mm s.hp) (t:=t) (x:=Ck s.tm a) (Rel:=fun (a b:Option Xy)=>∀q,a=some q->q.2.1=[]/\q.2.2=[])
    (K:=fun v=>some (v,[],[])) (K':=fun v=>some (v,[],[])) (fun _ h=>by cases h) (fun _ _=>.inl ⟨rfl,rfl⟩) (fun v q hq=>by cases hq;exact⟨rfl,rfl⟩)
   exact this q h
  ·rename_i src dst y ho;unfold Al5 MQ at h;rw[ho] at h;simp only at h;unfold PI at h;split at hl
   ·rename_i hd;rw[hd] at h;simp only at h;split at h
    ·obtain⟨_,_,h⟩:=D9 h;obtain⟨_,_,h⟩:=Cs h;cases h;exact⟨rfl,rfl⟩
    ·split at h
     ·exact Ur (f:=Mm s.hp) (f':=Mm s.hp) (K':=fun _ _=>(none:Option Xy)) (Rel:=fun (a _:Option Xy)=>a=some q->q.2.1=[]/\q.2.2=[]) (fun h=>by cases h) (fun _ _=>.inl rfl) (fun n c h=>by
       obtain⟨_,h⟩:=Am h;obtain⟨_,_,h⟩:=Cs h;obtain⟨_,_,h⟩:=Cs h;cases h;exact⟨rfl,rfl⟩) h
     ·exact Ur (f:=Mm s.hp) (f':=Mm s.hp) (K':=fun _ _=>(none:Option Xy)) (Rel:=fun (a _:Option Xy)=>a=some q->q.2.1=[]/\q.2.2=[]) (fun h=>by cases h) (fun _ _=>.inl rfl) (fun n c h=>by
       obtain⟨_,h⟩:=Am h;obtain⟨_,_,h⟩:=Cs h;obtain⟨_,_,h⟩:=Cs h;cases h;exact⟨rfl,rfl⟩) h
     ·cases h
    ·cases h
   ·cases hl
  ·cases hl
 ·cases h;exact⟨rfl,rfl⟩
theorem Ak3{tm tm':Nat->PV}{hp:Nat->Option B2}(h:∀t∈looks ops o,tm t=tm' t){i:Nat}(hi:Rch o tm hp i):Rch o tm' hp i:=by
 have he:=H9 (ops:=ops) (o:=o) h;rcases hi with⟨y,hy,hi⟩|⟨hap,id,c,⟨y,hy,hi⟩,hc,q⟩
 ·exact .inl ⟨y,hy,by rw[<-he y hy];exact hi⟩
 ·exact .inr ⟨hap,id,c,⟨y,hy,by rw[<-he y hy];exact hi⟩,hc,q⟩
theorem Axu{hp Dr:Nat->Option B2}{i:Nat}(h:Dr i=hp i):rd Dr i=rd hp i/\Mm Dr i=Mm hp i:=by unfold rd Mm;rw[h];exact⟨rfl,rfl⟩
theorem IM{tm:Nat->PV}{hp:Nat->Option B2}(hl:SH P ops o tm)(h:El C P N call ops o ⟨tm,hp⟩ K=some r):
  ∃v,gE C P N call ops o ⟨tm,hp⟩=some (v,[],[])/\Hp N o.dst=true/\K ⟨C4 tm o.dst v,hp⟩=some r:=by
 rw[Nr (VL hl)] at h;cases e:gE C P N call ops o ⟨tm,hp⟩ with
 |none=>rw[e] at h;cases h
 |some q=>
  obtain⟨v,fz,nw⟩:=q;obtain⟨h1,h2⟩:=Ahu hl e;simp only at h1 h2;subst h1;subst h2;rw[e] at h;obtain⟨hb,h⟩:=Am h;simp only[Er] at hb;exact⟨v,rfl,hb.1,h⟩
theorem PM{tm:Nat->PV}{hp:Nat->Option B2}{v:PV}(hl:SH P ops o tm)(e:gE C P N call ops o ⟨tm,hp⟩=some (v,[],[]))(hd:Hp N o.dst=true)(h:K ⟨C4 tm o.dst v,hp⟩=some r):El C P N call ops o ⟨tm,hp⟩ K=some r:=by rw[Nr (VL hl),e];show Ar _ _=_;have ha:B6 hp []=true:=rfl;simp only[hd,ha,Bool.and_self];exact h
theorem Atn(hw:Has C P o s)(xo:∀d,x.dst=some d->d ∉ looks ops o)(ne:∀d,x.dst=some d->o.dst≠some d)(ox:∀d,o.dst=some d->d ∉ looks ops x)(hl:SH P ops o s.tm)(As4:∀y∈o.op.operands.toList,∀i∈Cc (Ck s.tm y),¬Rch x s.tm s.hp i)(hx:I4 C P ops x s.tm=true)(h:El C P N call ops x s (fun s1=>El C P N call ops o s1 K)=some r):El C P N call ops o s (fun s1=>El C P N call ops x s1 K)=some r:=by
 rw[Q9 hx] at h;obtain⟨tm,hp⟩:=s;have look:∀v,∀t∈looks ops o,C4 tm x.dst v t=tm t:=fun v=>Gt xo
 have Atu:∀{u:PV} {Dr:Nat->Option B2} {q:Xy},(∀y∈o.op.operands.toList,∀i∈Cc (Ck tm y),Dr i=hp i)->gE C P N call ops o ⟨C4 tm x.dst u,Dr⟩=some q->gE C P N call ops o ⟨tm,hp⟩=some q:=
  fun hh e=>EK (s:=⟨C4 tm x.dst _,_⟩) (s':=⟨tm,hp⟩) (look _) (fun _ y hy i hi=>.inl (Axu (hh y hy i hi))) e
 have h1:=Nm (P:=P) (N:=N) (o:=x) (tm:=tm) (tm':=tm) (hp:=hp) (E1:=hp) (K:=fun s1=>El C P N call ops o s1 K) (K':=fun _=>none)
  (Rel:=fun (a:Option R)(_:Option R)=>a=some r->∃v,gE C P N call ops o ⟨tm,hp⟩=some (v,[],[])/\Hp N o.dst=true) (fun h=>by cases h) (fun _ _=>rfl) (fun _ _=>.inl rfl) (fun _ _=>rfl) (fun _ _=>rfl) (fun v Dr _ hT h=>by
   obtain⟨u,hu,hd,_⟩:=IM (CW (fun t ht=>(look v t ht).symm) hl) h;exact⟨u,Atu (fun y hy i hi=>hT.far i (As4 y hy i hi) (hw.1 y hy i hi)) hu,hd⟩) h
 obtain⟨v,hv,hd⟩:=h1;refine PM hl hv hd ?_;have t2:∀t∈looks ops x,tm t=C4 tm o.dst v t:=fun t ht=>(Gt ox t ht).symm;rw[Q9 (by rw[<-Ns t2];exact hx)]
 refine Nm (P:=P) (N:=N) (o:=x) (tm:=tm) (tm':=C4 tm o.dst v) (hp:=hp) (E1:=hp) (Rel:=fun (a b:Option R)=>a=some r->b=some r) (fun h=>by cases h) (H9 t2) (fun _ _=>.inl rfl) (fun _ _=>rfl) (fun _ _=>rfl) (fun u Dr Jz hT h=>?_) h;have e1:Dr=Jz:=funext fun i=>hT.same i rfl;subst e1;obtain⟨v',S0,_,h'⟩:=IM (CW (fun t ht=>(look u t ht).symm) hl) h;have he:=Atu (fun y hy i hi=>hT.far i (fun hR=>As4 y hy i hi (Ak3 (fun t ht=>(t2 t ht).symm) hR)) (hw.1 y hy i hi)) S0;rw[hv] at he;simp only[Option.some.injEq,Prod.mk.injEq,and_true] at he;subst he;rw[<-Qv ne];exact h'
theorem Auh(xo:∀d,x.dst=some d->d ∉ looks ops o)(ne:∀d,x.dst=some d->o.dst≠some d)(ox:∀d,o.dst=some d->d ∉ looks ops x)(hl:SH P ops x s.tm)(As4:∀y∈x.op.operands.toList,∀i∈Cc (Ck s.tm y),¬Rch o s.tm s.hp i)(ho:I4 C P ops o s.tm=true)(h:El C P N call ops x s (fun s1=>El C P N call ops o s1 K)=some r):El C P N call ops o s (fun s1=>El C P N call ops x s1 K)=some r:=by
 obtain⟨tm,hp⟩:=s;obtain⟨v,hv,hd,h1⟩:=IM hl h;have t1:∀t∈looks ops o,C4 tm x.dst v t=tm t:=Gt xo;rw[Q9 (by rw[Ns t1];exact ho)] at h1
 rw[Q9 ho];refine Nm (P:=P) (N:=N) (o:=o) (tm:=C4 tm x.dst v) (tm':=tm) (hp:=hp) (E1:=hp) (Rel:=fun (a b:Option R)=>a=some r->b=some r) (fun h=>by cases h) (H9 t1) (fun _ _=>.inl rfl) (fun _ _=>rfl) (fun _ _=>rfl) (fun u Dr Jz hT h=>?_) h1;have e1:Dr=Jz:=funext fun i=>hT.same i rfl;subst e1;have t2:∀t∈looks ops x,tm t=C4 tm o.dst u t:=fun t ht=>(Gt ox t ht).symm;refine PM (CW t2 hl) (EK (s:=⟨tm,hp⟩) (s':=⟨C4 tm o.dst u,Dr⟩) t2 (fun _ y hy i hi=>?_) hv) hd ?_
 ·have hi:i∈Cc (Ck tm y):=by rw[H9 t2 y hy];exact hi
  by_cases hn:hp i=none
  ·exact .inr ⟨Ah7 hn,Ov hn⟩
  ·obtain⟨h3,h4⟩:=Axu (hT.far i (As4 y hy i hi) hn);exact .inl ⟨h3.symm,h4.symm⟩
 ·rw[<-Qv ne];exact h
def TE(P:Program)(x:Oper)(s s1:St):Prop:=(∀t,x.dst≠some t->s1.tm t=s.tm t)/\(∀i,s.hp i≠none->s1.hp i≠none)/\(Jk P x.op=false->∀i,s.hp i≠none->s1.hp i=s.hp i)
theorem S6{tm:Nat->PV}{d:Option Tmp}{v:PV}{t:Nat}(h:d≠some t):C4 tm d v t=tm t:=by
 cases d with
 |none=>rfl
 |some d=>exact Ak _ _ (by rintro rfl;exact h rfl)
theorem OO{K':St->Option R}(h:El C P N call ops x s K=some r)(hK:∀s1,TE P x s s1->K s1=some r->K' s1=some r):El C P N call ops x s K'=some r:=by
 cases hx:I4 C P ops x s.tm
 ·rw[Nr hx] at h ⊢;cases ex:gE C P N call ops x s with
  |none=>rw[ex] at h;cases h
  |some q=>
   rw[ex] at h;obtain⟨hb,h1⟩:=Am h;simp only[Er] at hb;show Ar _ _=_;rw[hb.1,hb.2];refine hK _ ⟨fun t ht=>S6 ht,fun i hi=>Rs hb.2 hi,fun hm i hi=>?_⟩ h1;show Au (Af s.hp q.2.1) q.2.2 i=s.hp i;rw[Hl hb.2 hi,((Ym ex).1 hm).1];simp
 ·rw[Q9 hx] at h ⊢
  exact MZ (P:=P) (N:=N) (o:=x) (tm:=s.tm) (tm':=s.tm) (hp:=s.hp) (Rel:=fun (a b:Option R)=>a=some r->b=some r) (fun h=>by cases h) (fun _ _=>rfl) (fun v Dr hh h=>hK _ ⟨fun t ht=>S6 ht,hh,fun hm=>by
   have hM:Ws C P x.op=true:=by unfold I4 at hx;simp only[Er] at hx;exact hx.1
   rw[FQ hM] at hm;cases hm⟩ h) h
theorem Has.keeps{s1:St}(h:Has C P o s)(ap:ER C P ops x o)(hk:TE P x s s1):Has C P o s1:=by
 have hop:∀y∈o.op.operands.toList,Ck s1.tm y=Ck s.tm y:=fun y hy=>H9 (ops:=ops) (o:=o) (fun t ht=>hk.1 t fun hd=>ap.xo t hd ht) y hy;refine⟨fun y hy i hi=>?_,fun hM hA y hy i hi c hc p hp k hkk=>?_⟩
 ·rw[hop y hy] at hi;exact hk.2.1 i (h.1 y hy i hi)
 ·rw[hop y hy] at hi;have hi0:=h.1 y hy i hi;rw[hk.2.2 (ap.mo hM) i hi0] at hc;exact hk.2.1 k (h.2 hM hA y hy i hi c hc p hp k hkk)
theorem MN:∀(l:List Oper){s:St}{K:St->Option R},Has C P o s->(∀x∈l,ER C P ops x o)->Pn C P N call ops l s (fun s1=>El C P N call ops o s1 K)=some r->El C P N call ops o s (fun s1=>Pn C P N call ops l s1 K)=some r
 |[],_,_,_,_,h=>h
 |x::l,s,K,hw,ap,h=>by
  refine A5z hw (ap x (by simp)) ?_;refine OO (K:=fun s1=>Pn C P N call ops l s1 (fun s2=>El C P N call ops o s2 K)) h fun s1 hk h1=>?_;exact MN l (hw.keeps (ap x (by simp)) hk) (fun y hy=>ap y (Uf _ hy)) h1
theorem Yq:∀(l l':List Oper){s:St}{K:St->Option R},Pn C P N call ops (l++l') s K=Pn C P N call ops l s (fun s1=>Pn C P N call ops l' s1 K)
 |[],_,_,_=>rfl
 |x::l,l',s,K=>by
  show El C P N call ops x s (fun s1=>Pn C P N call ops (l++l') s1 K)=El C P N call ops x s (fun s1=>Pn C P N call ops l s1 _)
  congr 1
  funext s1
  exact Yq l l'
theorem Aj9{l l':List Oper}(hw:Has C P o s)(ap:∀x∈l,ER C P ops x o)(h:Pn C P N call ops (l++o::l') s K=some r):El C P N call ops o s (fun s1=>Pn C P N call ops (l++l') s1 K)=some r:=by rw[Yq] at h;have:=MN l hw ap h;refine OO this fun s1 _ h1=>?_;rw[Yq];exact h1
end
open Go.RowKit
section
variable {R:Type}{r:R}{P:Program}{N:Nat}{w0:World}{X0:Jw}{Y:Nat->Prop}{β β':Bt}{s:St}{a:Act}{w w':World}{o:Oper}{ops:Array Oper}{C:Gw}{call:Aq}{K:St->Option R}
theorem NP(h:Df N w0 X0 Y β s a w){j d:Nat}(hd:(ops[j]?).bind (·.dst)=some d){v:Value}(ht:s.tm d=.sc v):yielded ops a.tmps j=match v with | .bool b=>some b|_=>none:=by
 have Cm:d<N:=by
  rcases Id d N with h'|h'
  ·exact h'
  ·rw[h.tmo d h'] at ht;cases ht
 have hv:=h.tms d Cm;rw[ht] at hv;have hv:=HY hv;have Aob:d<a.tmps.size:=by rw[h.tsz];exact Cm
 have he:a.tmps[d]?=some v:=by
  rw[Array.getElem?_eq_getElem Aob];simp[Aob] at hv;rw[hv]
 unfold yielded;rw[hd];simp only[Option.bind_some,he];cases v<;>rfl
theorem BL(h:Df N w0 X0 Y β s a w){G:BE}(Nz:Env P G w0 X0)(Eo:∀f args res,call f args=some res->Cx G P f args res){i:Nat}(hi:ops[i]?=some o)(hk:El C P N call ops o s K=some r):
  ∃s',K s'=some r/\∀(next:Act->World->Prop) (Q:Exit->Act->World->Prop),(∀a' w' β',Df N w0 X0 Y β' s' a' w'->next a' w')->wpOp P ops Q i next a w:=by
 rw[ZA] at hk
 have hw:∀b,Im ops o s.tm=some b->Region.wanted o (yielded ops a.tmps)=b:=by
  intro b hb;unfold Im at hb;unfold Region.wanted;cases hg:o.guard with
  |none=>rw[hg] at hb;simpa using hb
  |some q=>
   obtain⟨j,want⟩:=q;rw[hg] at hb;simp only at hb ⊢;cases hd:(ops[j]?).bind (·.dst) with
   |none=>rw[hd] at hb;cases hb
   |some d=>
    rw[hd] at hb;simp only at hb;split at hb
    ·rename_i b' ht;rw[NP h hd ht];simp at hb;rw[<-hb];cases b'<;>cases want<;>rfl
    ·rename_i ht;rw[NP h hd ht];simp at hb;rw[hb];rfl
    ·cases hb
 split at hk
 ·cases hk
 ·rename_i hv;obtain⟨s',hs',hn⟩:=Afn h Nz Eo hk;refine⟨s',hs',fun next Q Aoq=>?_⟩;unfold wpOp;rw[hi];simp only[hw _ hv,if_true];exact .inl (hn next Q Aoq)
 ·rename_i hv;obtain⟨hd,hk⟩:=Am hk;refine⟨_,hk,fun next Q Aoq=>?_⟩;unfold wpOp;rw[hi];simp only[hw _ hv];refine Aoq _ _ β (h.put hd (At.sc _) (by simp[Cc,Ct,As]))
theorem Df.known(h:Df N w0 X0 Y β s a w){d:Nat}(hd:s.tm d=.ub):∃b,Df N w0 X0 Y β ⟨C7 s.tm d (.sc (.bool b)),s.hp⟩ a w:=by
 have Cm:d<N:=by
  rcases Id d N with h'|h'
  ·exact h'
  ·rw[h.tmo d h'] at hd;cases hd
 have hu:=h.tms d Cm;rw[hd] at hu;have Lk:At w (Dt s.hp β Y) .ub (a.tmps.getD d undef):=hu
 obtain⟨b,hv⟩:∃b,a.tmps.getD d undef=.bool b:=by
  generalize a.tmps.getD d undef=x at Lk;cases Lk with
  |ub b=>exact⟨b,rfl⟩
 refine⟨b,⟨h.dfr,h.tsz,fun i hi=>?_,fun i hi=>?_,h.box,h.inj,h.blt,fun i hi=>?_,h.wfB,h.ownd,h.rngB,h.pin,h.stp,h.Yx,h.Ylt,h.fr⟩⟩
 ·show C7 s.tm d _ i=_;rw[Ak _ _ (by omega)];exact h.tmo i hi
 ·by_cases e:i=d
  ·subst e;show Fg _ _ _ (C7 s.tm i _ i) _;rw[An,hv];exact At.sc _
  ·show Fg _ _ _ (C7 s.tm d _ i) _;rw[Ak _ _ e];exact h.tms i hi
 ·by_cases e:i=d
  ·subst e;show ∀id∈Cc (C7 s.tm i _ i),_;rw[An];simp[Cc,Ct,As]
  ·show ∀id∈Cc (C7 s.tm d _ i),_;rw[Ak _ _ e];exact h.wfT i hi
theorem VM{x y:Option R}(h:V8 x y=some r):x=some r/\y=some r:=by
 unfold V8 at h;split at h
 ·rename_i e;exact⟨h,e ▸ h⟩
 ·cases h
theorem WO(h:Df N w0 X0 Y β s a w){F:St->Option R}(hk:PB ops o s F=some r):∃s',F s'=some r/\Df N w0 X0 Y β s' a w:=by
 unfold PB at hk;split at hk
 ·exact⟨s,hk,h⟩
 ·split at hk
  ·exact⟨s,hk,h⟩
  ·split at hk
   ·rename_i d _ ht;obtain⟨b,hb⟩:=h.known ht;obtain⟨h1,h2⟩:=VM hk;cases b
    ·exact⟨_,h2,hb⟩
    ·exact⟨_,h1,hb⟩
   ·exact⟨s,hk,h⟩
theorem FM{G:BE}(Nz:Env P G w0 X0)(Eo:∀f args res,call f args=some res->Cx G P f args res){Q:Exit->Act->World->Prop}(hQ:∀s' a' w' β',K s'=some r->Df N w0 X0 Y β' s' a' w'->Q .normal a' w'):
  ∀(l:Bz) (os:List Oper),l.length=os.length->(∀(k i:Nat),l[k]?=some i->ops[i]?=os[k]?)->∀{s:St} {a:Act} {w:World} {β:Bt},Df N w0 X0 Y β s a w->HD C P N call ops os s K=some r->wpOps P ops Q l a w
 |[],[],_,_,s,a,w,β,h,hk=>by
  show Q .normal a w;exact hQ s a w β hk h
 |[],_::_,hl,_,_,_,_,_,_,_=>by cases hl
 |_::_,[],hl,_,_,_,_,_,_,_=>by cases hl
 |i::l,o::os,hl,hi,s,a,w,β,h,hk=>by
  rw[wpOps_cons];obtain⟨s1,hk,h⟩:=WO h hk;obtain⟨s',hs',hn⟩:=BL h Nz Eo (by simpa using hi 0 i rfl) hk;exact hn _ _ fun a' w' β' h'=>FM Nz Eo hQ l os (by simpa using hl) (fun k j hj=>by simpa using hi (k+1) j (by simpa using hj)) h' hs'
theorem Df.drew(h:Df N w0 X0 Y β s a w):Df N w0 X0 Y β s a { w with drawn:=w.drawn+1 }:=by
 have:=h.stepR (d:=none) (v:=.top) (nw:=[]) (val:=undef) (w':={ w with drawn:=w.drawn+1 }) (β':=β) rfl rfl
  ⟨rfl,rfl,rfl,⟨Cn _,fun _ _ _=>rfl,fun _ _=>Ij.refl _ _⟩,fun _ _=>rfl,by simp,by simp,by simp,by simp,by simp,.top _,by simp[Cc,Ct,As]⟩
 exact this
theorem YN(h:Df N w0 X0 Y β s a w){G:BE}(Nz:Env P G w0 X0)(Eo:∀f args res,call f args=some res->Cx G P f args res){id:Nat}{Q:Exit->Act->World->Prop}(hk:HD C P N call ops ops.toList s K=some r)(hQ:∀s' a' w' β',K s'=some r->Df N w0 X0 Y β' s' a' w'->Q .normal a' w'):(Code.region id ops false).wp P Q a w:=by
 refine wp_region (FM Nz Eo hQ (List.range ops.size) ops.toList (by simp) (fun k i hi=>?_) h hk);rw[List.getElem?_range] at hi
 ·simp at hi;subst hi;simp
 ·rcases Id k ops.size with h'|h'
  ·exact h'
  ·rw[List.getElem?_eq_none (by simpa using h')] at hi;cases hi
def Qc(n:Nat)(listed:Array Bool):Bz:=(List.range n).filter fun i=> !listed.getD i true
def Ayu(ops:Array Oper)(listed:Array Bool)(o:Oper):Prop:=∀e∈o.after,Region.binds .any e=true->listed.getD e.on false=true
theorem testBit_or{a b j:Nat}:(a ||| b).testBit j=(a.testBit j||b.testBit j):=Nat.testBit_or a b j
theorem UI{acc:Bz}{j:Nat}:∀(es:List Edge)(v:Nat),(es.foldl (fun s e=>bif Region.binds .any e then s ||| 2 ^ e.on ||| acc.getD e.on 0 else s) v).testBit j=true ->
  v.testBit j=true\/∃e∈es,Region.binds .any e=true/\(j=e.on\/(acc.getD e.on 0).testBit j=true)
 |[],v,h=>.inl h
 |e::es,v,h=>by
  rcases UI es _ h with h|⟨e',he',h⟩
  ·cases hb:Region.binds .any e<;>simp only[hb] at h
   ·exact .inl h
   ·simp only[cond_true,Nat.testBit_or,Bool.or_eq_true] at h;rcases h with (h|h)|h
    ·exact .inl h
    ·refine .inr ⟨e,by simp,hb,.inl ?_⟩;rw[Nat.testBit_two_pow] at h;exact (of_decide_eq_true h).symm
    ·exact .inr ⟨e,by simp,hb,.inr h⟩
  ·exact .inr ⟨e',by simp[he'],h⟩
theorem Vm{listed:Array Bool}(hc:∀(j:Nat) oj,ops[j]?=some oj->listed.getD j false=true->Ayu ops listed oj):
  ∀(rest done:List Oper) (acc:Bz),ops.toList=done++rest->acc.length=done.length ->
   (∀(k:Nat) o,done[k]?=some o->Ayu ops listed o->∀j,(acc.getD k 0).testBit j=true->listed.getD j false=true) ->
   ∀(k:Nat) o,ops[k]?=some o->Ayu ops listed o->∀j,((Jd rest acc).getD k 0).testBit j=true->listed.getD j false=true
 |[],done,acc,he,_,h,k,o,ho,hf,j,hj=>by
  refine h k o ?_ hf j hj;rw[List.append_nil] at he;rw[<-he]
  simpa using ho
 |o'::rest,done,acc,he,hl,h,k,o,ho,hf,j,hj=>by
  refine Vm hc rest (done++[o']) _ (by rw[he];simp) (by simp[hl]) ?_ k o ho hf j hj
  intro k o ho hf j hj;rcases Nat.lt_trichotomy k done.length with Cm|heq|hgt
  ·rw[List.getElem?_append_left Cm] at ho;rw[List.getD_eq_getElem?_getD,List.getElem?_append_left (by omega),<-List.getD_eq_getElem?_getD] at hj;exact h k o ho hf j hj
  ·subst heq;simp at ho;subst ho;rw[<-hl] at hj;simp only[List.getD_eq_getElem?_getD,List.getElem?_append_right (Cn _),Nat.sub_self,List.getElem?_cons_zero,Option.getD_some] at hj
   have hj:(o'.after.toList.foldl (fun s e=>bif Region.binds .any e then s ||| 2 ^ e.on ||| acc.getD e.on 0 else s) 0).testBit j=true:=by
    simpa only[List.getD_eq_getElem?_getD] using hj
   rcases UI _ _ hj with h0|⟨e,hm,hb,h1⟩
   ·simp at h0
   ·have NN:=hf e (by simpa using hm) hb;rcases h1 with h1|h1
    ·rw[h1];exact NN
    ·cases hd:done[e.on]? with
     |none=>
      have:acc.getD e.on 0=0:=by
       rw[List.getD_eq_getElem?_getD,List.getElem?_eq_none (by rw[hl];exact List.getElem?_eq_none_iff.1 hd)]
       rfl
      rw[this] at h1;simp at h1
     |some oe=>
      have hoe:ops[e.on]?=some oe:=by
       rw[<-Array.getElem?_toList,he,List.getElem?_append_left (by
        rcases Id e.on done.length with h'|h'
        ·exact h'
        ·rw[List.getElem?_eq_none h'] at hd;cases hd)]
       exact hd
      exact h e.on oe hd (hc e.on oe hoe NN) j h1
  ·rw[List.getElem?_eq_none (by simp;omega)] at ho
   cases ho
theorem GI{bs:Bz}:∀(l:List Oper)(n:Nat),MD C P ops bs l n=true->∀(k:Nat) o,l[k]?=some o->∀(j:Nat) x,ops[j]?=some x->j<n+k->MR C P ops x o=true->(bs.getD (n+k) 0).testBit j=true
 |[],_,_,k,o,ho,_,_,_,_,_=>by simp at ho
 |o'::l,n,h,k,o,ho,j,x,hx,hj,O7=>by
  simp only[MD,Er] at h;cases k with
  |zero=>
   simp at ho;subst ho
   have:=List.all_eq_true.1 h.1 (x,j) (by
    rw[List.mem_zipIdx_iff_getElem?]
    simpa using hx)
   simp only[O7,Hn,Bool.or_false,Bool.or_eq_true,Bool.not_eq_true'] at this;rcases this with h'|h'
   ·have:Nat.blt j n=true:=Nat.ble_eq_true_of_le (by omega);rw[this] at h';cases h'
   ·exact h'
  |succ k=>
   have:=GI l (n+1) h.2 k o (by simpa using ho) j x hx (by omega) O7
   rwa [show n+(k+1)=n+1+k by omega]
theorem Ma{n i:Nat}{listed:Array Bool}:i∈Qc n listed↔i<n/\listed.getD i true=false:=by unfold Qc;simp[List.mem_filter]
theorem BU{n i:Nat}{listed:Array Bool}(hi:i∈Qc n listed)(Sx:listed.size=n):∃l1 l2,Qc n listed=l1++i::l2/\Qc n (listed.setIfInBounds i true)=l1++l2/\∀j∈l1,j<i:=by
 obtain⟨Cm,Mq⟩:=Ma.1 hi
 have hr:List.range n=List.range i++i::(List.range (n-i-1)).map (i+1 + ·):=by
  conv=>lhs;rw[show n=i+(1+(n-i-1)) by omega]
  rw[List.range_add,List.range_add];simp[Pi]
 refine⟨(List.range i).filter fun i=> !listed.getD i true,((List.range (n-i-1)).map (i+1 + ·)).filter fun i=> !listed.getD i true,?_,?_,fun j hj=>?_⟩
 ·unfold Qc;rw[hr,List.filter_append,List.filter_cons_of_pos (by rw[Mq];rfl)]
 ·unfold Qc;rw[hr,List.filter_append,List.filter_cons_of_neg (by simp[Sx,Cm])]
  congr 1
  ·refine List.filter_congr fun j hj=>?_;rw[getD_set_ne true (by have:=List.mem_range.1 hj;omega)]
  ·refine List.filter_congr fun j hj=>?_;obtain⟨k,_,rfl⟩:=List.mem_map.1 hj;rw[getD_set_ne true (by omega)]
 ·exact List.mem_range.1 (List.mem_filter.1 hj).1
theorem And(h:Df N w0 X0 Y β s a w)(o:Oper):Has C P o s:=by refine⟨fun y _ i hi=>F4 h y i hi,fun _ _ y _ i hi c hc p hp k hk=>h.wfB i c hc p hp k hk⟩
theorem SR(Arr:(ops.toList.zipIdx.all fun q=>q.1.after.toList.all fun e=> !Region.binds .any e||Nat.blt e.on q.2)=true){listed:Array Bool}(inv:HeadInv .any ops ops.size listed)(hr:Region.ready .any ops listed=[]):Qc ops.size listed=[]:=by
 cases hp:Qc ops.size listed with
 |nil=>rfl
 |cons i l=>
  exfalso;have hi:i∈Qc ops.size listed:=by rw[hp];simp
  obtain⟨Cm,Mq⟩:=Ma.1 hi;obtain⟨l1,l2,h1,_,h3⟩:=BU hi inv.size
  have NN:l1=[]:=by
   cases l1 with
   |nil=>rfl
   |cons j l1=>
    rw[hp] at h1;simp at h1;have:=h3 j (by simp);omega
  subst NN
  have Bch:∀j,j<i->listed.getD j false=true:=by
   intro j hj;cases hh:listed.getD j false with
   |true=>rfl
   |false=>
    have:j∈Qc ops.size listed:=Ma.2 ⟨by omega,getD_in (by rw[inv.size];omega) hh⟩
    have hs:(Qc ops.size listed).Pairwise (· < ·):=List.Pairwise.filter _ List.pairwise_lt_range;rw[h1] at this hs;simp at this;rcases this with e|e
    ·omega
    ·have:=(List.pairwise_cons.1 hs).1 j e;omega
  have:i∈Region.ready .any ops listed:=by
   refine mem_ready.2 ⟨Mq,ops[i],Array.getElem?_eq_getElem Cm,fun e he hb=>Bch _ ?_⟩
   have:=List.all_eq_true.1 Arr (ops[i],i) (by
    rw[List.mem_zipIdx_iff_getElem?];simp[Cm])
   have:=List.all_eq_true.1 this e (Array.mem_toList_iff.2 he);simp only[hb,Hn,Bool.false_or] at this;exact Nat.lt_of_succ_le (Oj this)
  rw[hr] at this;simp at this
theorem XE{G:BE}(Nz:Env P G w0 X0)(Eo:∀f args res,call f args=some res->Cx G P f args res)(hok:PE C P ops=true){Q:Exit->Act->World->Prop}(hQ:∀s' a' w' β',K s'=some r->Df N w0 X0 Y β' s' a' w'->Q .normal a' w'):
  ∀(fuel:Nat) {listed:Array Bool} {s:St} {a:Act} {w:World} {β:Bt},HeadInv .any ops ops.size listed->(Qc ops.size listed).length=fuel->Df N w0 X0 Y β s a w->Pn C P N call ops ((Qc ops.size listed).filterMap (ops[·]?)) s K=some r->wpAny P .any ops Q fuel listed a w:=by
 unfold PE at hok;simp only[Er] at hok;obtain⟨Arr,Azl⟩:=hok;intro fuel
 induction fuel with
 |zero=>
  intro listed s a w β inv hf h hk;have hp:=List.eq_nil_of_length_eq_zero hf;rw[hp] at hk;refine⟨?_,hQ s a w β hk h⟩;cases hr:Region.ready .any ops listed with
  |nil=>rfl
  |cons i l=>
   exfalso;have hi:i∈Region.ready .any ops listed:=by rw[hr];simp
   obtain⟨Mq,o,ho,_⟩:=mem_ready.1 hi;have:i∈Qc ops.size listed:=Ma.2 ⟨(Array.getElem?_eq_some_iff.1 ho).1,Mq⟩;rw[hp] at this;simp at this
 |succ fuel ih=>
  intro listed s a w β inv hf h hk;refine⟨fun hr=>?_,fun i hi=>?_⟩
  ·rw[SR Arr inv hr] at hf;cases hf
  ·obtain⟨Mq,o,ho,Si⟩:=mem_ready.1 hi;have Cm:i<ops.size:=(Array.getElem?_eq_some_iff.1 ho).1;obtain⟨l1,l2,h1,h2,h3⟩:=BU (Ma.2 ⟨Cm,Mq⟩) inv.size;rw[h1,List.filterMap_append,List.filterMap_cons_some ho] at hk
   have hap:∀x∈l1.filterMap (ops[·]?),ER C P ops x o:=by
    intro x hx;obtain⟨j,hj,hxj⟩:=List.mem_filterMap.1 hx;refine Aqa ?_;cases O7:MR C P ops x o with
    |false=>rfl
    |true=>
     exfalso;have RQ:=GI ops.toList 0 Azl i o (by simpa using ho) j x hxj (by have:=h3 j hj;omega) O7
     rw[Ig] at RQ;have hjl:=Vm (listed:=listed) (fun j oj hj hl=>inv.closed j oj hj hl) ops.toList [] [] (by simp) rfl (by simp) i o ho Si j RQ;have:j∈Qc ops.size listed:=by rw[h1];simp[hj]
     have:=getD_both (Ma.1 this).2;rw[hjl] at this;cases this
   obtain⟨s',hs',hn⟩:=BL h Nz Eo ho (Aj9 (And h o) hap hk);refine hn _ _ fun a' w' β' h'=>ih (inv.set hi Cm) ?_ h' ?_
   ·rw[h2];rw[h1] at hf;simp at hf ⊢;omega
   ·rw[h2,List.filterMap_append];exact hs'
theorem HT(h:Df N w0 X0 Y β s a w){G:BE}(Nz:Env P G w0 X0)(Eo:∀f args res,call f args=some res->Cx G P f args res)(hm:P.follows .mixedOrders=true)(hok:PE C P ops=true){Q:Exit->Act->World->Prop}(hk:Pn C P N call ops ops.toList s K=some r)(hQ:∀s' a' w' β',K s'=some r->Df N w0 X0 Y β' s' a' w'->Q .normal a' w'):wpAny P .any ops Q ops.size (Array.replicate ops.size false) a { w with drawn:=w.drawn+1 }:=by
 have hp:Qc ops.size (Array.replicate ops.size false)=List.range ops.size:=by
  unfold Qc;refine List.filter_eq_self.2 fun i hi=>?_;have:=List.mem_range.1 hi;simp[this]
 refine XE (C:=C) Nz Eo hok hQ ops.size ⟨by simp,fun j oj _ hl=>(by rw[getD_replicate_false] at hl;cases hl),fun t ht ht'=>by omega⟩ (by rw[hp];simp) h.drew ?_
 rw[hp]
 have:(List.range ops.size).filterMap (ops[·]?)=ops.toList:=by
  refine List.ext_getElem? fun k=>?_
  have:∀(n:Nat),n<=ops.size->(List.range n).filterMap (ops[·]?)=ops.toList.take n:=by
   intro n
   induction n with
   |zero=>intro _;rfl
   |succ n ih=>
    intro hn;rw[List.range_succ,List.filterMap_append,ih (by omega),List.take_add_one]
    congr 1
    have:ops[n]?=some ops[n]:=Array.getElem?_eq_getElem (by omega);simp[this]
  rw[this ops.size (Cn _)]
  congr 1
  exact Ji (by simp)
 rw[this];exact hk
theorem XS(h:Df N w0 X0 Y β s a w){G:BE}(Nz:Env P G w0 X0)(Eo:∀f args res,call f args=some res->Cx G P f args res)(hm:P.follows .mixedOrders=true)(hok:PE C P ops=true){id:Nat}{Q:Exit->Act->World->Prop}(hk:Pn C P N call ops ops.toList s K=some r)(hQ:∀s' a' w' β',K s'=some r->Df N w0 X0 Y β' s' a' w'->Q .normal a' w'):(Code.region id ops true).wp P Q a w:=
 wp_region_any hm (HT h Nz Eo hm hok hk hQ)
end
end
section
open Go.RowKit
section
variable {R R':Type}{Rel:Option R->Option R'->Prop}{P:Program}{N:Nat}{tm tm':Nat->PV}{hp E1:Nat->Option B2}{o:Oper}
end
section
variable {R R':Type}{r:R}{r':R'}{C:Gw}{P:Program}{N:Nat}{call:Aq}{ops:Array Oper}{o x:Oper}{s s1 s2:St}{K:St->Option R}
theorem Yz{tm:Nat->PV}(h:I4 C P ops o tm=true):Ws C P o.op=true:=by unfold I4 at h;simp only[Er] at h;exact h.1
theorem CR(h:El C P N call ops x s K=some r):∃s1,El C P N call ops x s some=some s1/\TE P x s s1/\(Yk P x.op=true->s1.hp=s.hp)/\K s1=some r:=by
 cases hx:I4 C P ops x s.tm
 ·rw[Nr hx] at h ⊢;cases ex:gE C P N call ops x s with
  |none=>rw[ex] at h;cases h
  |some q=>
   rw[ex] at h;obtain⟨hb,h1⟩:=Am h;simp only[Er] at hb;refine⟨_,?_,⟨fun t ht=>S6 ht,fun i hi=>Rs hb.2 hi,fun hm i hi=>?_⟩,fun hl=>?_,h1⟩
   ·show Ar _ _=_;rw[hb.1,hb.2];rfl
   ·show Au (Af s.hp q.2.1) q.2.2 i=s.hp i;rw[Hl hb.2 hi,((Ym ex).1 hm).1];simp
   ·show Au (Af s.hp q.2.1) q.2.2=s.hp;obtain⟨h1,h2⟩:=Ahu (.inl hl) ex;rw[h1,h2]
    funext i
    show Af s.hp [] i=_;rw[Ca];simp
 ·rw[Q9 hx] at h ⊢
  exact MZ (P:=P) (N:=N) (o:=x) (tm:=s.tm) (tm':=s.tm) (hp:=s.hp) (K':=some) (Rel:=fun (a:Option R) (b:Option St)=>a=some r->∃s1,b=some s1/\TE P x s s1/\(Yk P x.op=true->s1.hp=s.hp)/\K s1=some r) (fun h=>by cases h) (fun _ _=>rfl) (fun v Dr hh h=>⟨_,rfl,⟨fun t ht=>S6 ht,hh,fun hm=>(by
   rw[FQ (Yz hx)] at hm;cases hm)⟩,fun hl=>(by
   have:=Yz hx;rw[Nh hl] at this;cases this),h⟩) h
theorem VN{K':St->Option R'}(h:El C P N call ops x s some=some s1)(hk:K' s1=some r'):El C P N call ops x s K'=some r':=by
 cases hx:I4 C P ops x s.tm
 ·rw[Nr hx] at h ⊢;cases ex:gE C P N call ops x s with
  |none=>rw[ex] at h;cases h
  |some q=>
   rw[ex] at h;obtain⟨hb,h1⟩:=Am h;show Ar _ _=_;rw[hb];cases h1;exact hk
 ·rw[Q9 hx] at h ⊢;exact MZ (P:=P) (N:=N) (o:=x) (tm:=s.tm) (tm':=s.tm) (hp:=s.hp) (K:=some) (Rel:=fun (a:Option St) (b:Option R')=>a=some s1->b=some r') (fun h=>by cases h) (fun _ _=>rfl) (fun v Dr hh h=>by cases h;exact hk) h
theorem XY(hM:Ws C P o.op=true){i:Nat}(h:Rch o s.tm s.hp i):i∈Pp C P s o:=by
 unfold Pp;rw[hM];cases hA:LT o.op
 ·simp only[Km,Bool.and_self,cond_true,Bn];rcases h with⟨y,hy,hi⟩|⟨_,id,c,⟨y,hy,hi⟩,hc,p,hp,hk⟩
  ·exact .inl (List.mem_flatMap.2 ⟨y,hy,hi⟩)
  ·refine .inr (List.mem_flatMap.2 ⟨id,List.mem_flatMap.2 ⟨y,hy,hi⟩,?_⟩);rw[hc];exact List.mem_flatMap.2 ⟨p,hp,hk⟩
 ·simp only[Hn,Bool.and_false,cond_false,Bool.or_true,cond_true];rcases h with⟨y,hy,hi⟩|⟨hn,_⟩
  ·exact List.mem_flatMap.2 ⟨y,hy,hi⟩
  ·rw[hA] at hn;cases hn
theorem ZF(hl:Ws C P o.op=true\/Yk P o.op=true){y:Operand}(hy:y∈o.op.operands.toList){i:Nat}(h:i∈Cc (Ck s.tm y)):i∈Pp C P s o:=by
 rcases hl with hM|hl
 ·exact XY hM (.inl ⟨y,hy,h⟩)
 ·unfold Pp;rw[Nh hl,hl];exact List.mem_flatMap.2 ⟨y,hy,h⟩
theorem Adh(ht:∀t∈looks ops o,s1.tm t=s.tm t)(hh:Ws C P o.op=true->LT o.op=false->∀y∈o.op.operands.toList,∀i∈Cc (Ck s.tm y),s1.hp i=s.hp i):Pp C P s1 o=Pp C P s o:=by
 have he:=H9 (ops:=ops) (o:=o) ht
 have hl:(o.op.operands.toList.flatMap fun y=>Cc (Ck s1.tm y))=o.op.operands.toList.flatMap fun y=>Cc (Ck s.tm y):=by
  have A1b:∀l:List Operand,(∀y∈l,Ck s1.tm y=Ck s.tm y)->(l.flatMap fun y=>Cc (Ck s1.tm y))=l.flatMap fun y=>Cc (Ck s.tm y):=by
   intro l
   induction l with
   |nil=>intro _;rfl
   |cons a l ih=>intro h;simp only[Kb];rw[h a (by simp),ih fun y hy=>h y (by simp[hy])]
  exact A1b _ he
 unfold Pp;simp only[hl];cases hM:(Ws C P o.op && !LT o.op)
 ·rfl
 ·simp only[cond_true];simp only[Er,Bool.not_eq_true'] at hM
  congr 1
  have A1b:∀l:Bz,(∀i∈l,s1.hp i=s.hp i)->(l.flatMap fun i=>match s1.hp i with|some (.st c)=>c.flatMap As|_=>[])=l.flatMap fun i=>match s.hp i with|some (.st c)=>c.flatMap As|_=>[]:=by
   intro l
   induction l with
   |nil=>intro _;rfl
   |cons a l ih=>intro h;simp only[Kb];rw[h a (by simp),ih fun y hy=>h y (by simp[hy])]
  exact A1b _ fun i hi=>by
   obtain⟨y,hy,hi⟩:=List.mem_flatMap.1 hi;exact hh hM.1 hM.2 y hy i hi
theorem QG{a b:Bz}(h:Als a b=true){i:Nat}(ha:i∈a)(hb:i∈b):False:=by have:=List.all_eq_true.1 h i ha;have h2:b.any (Nat.beq i)=true:=List.any_eq_true.2 ⟨i,hb,Qi i⟩;rw[h2] at this;cases this
theorem Ajj{a b:Bz}(h:Als a b=true):Als b a=true:=by
 refine List.all_eq_true.2 fun i hi=>?_;cases hc:a.any (Nat.beq i)
 ·rfl
 ·obtain⟨j,hj,e⟩:=List.any_eq_true.1 hc;rw[C6 e] at hi;exact (QG h hj hi).elim
theorem BQ:M8 C P x o=M8 C P o x:=by unfold M8;cases Ws C P x.op<;>cases Ws C P o.op<;>cases Yk P x.op<;>cases Yk P o.op<;>cases LT x.op<;>cases LT o.op<;>rfl
structure Pf(C:Gw)(P:Program)(ops:Array Oper)(x o:Oper):Prop where
 xo:∀d,x.dst=some d->d ∉ looks ops o
 ne:∀d,x.dst=some d->o.dst≠some d
 ox:∀d,o.dst=some d->d ∉ looks ops x
 me:Vc C P x o=false\/M8 C P x o=true
theorem Ak4(h:Art C P ops x o=false):Pf C P ops x o:=by
 unfold Art at h;simp only[Bool.or_eq_false_iff] at h;obtain⟨h1,h2⟩:=h;have hT:=h1;unfold Aow at h1;simp only[Bool.or_eq_false_iff] at h1
 have a1:MR C P ops x o=false\/Vc C P x o=true:=by
  cases hc:Vc C P x o
  ·left;unfold MR;unfold Vc at hc;simp only[Bool.or_eq_false_iff] at hc ⊢;exact⟨⟨⟨h1.1,h1.2⟩,hc.1⟩,hc.2⟩
  ·exact .inr rfl
 refine⟨fun d hd=>?_,fun d hd he=>?_,fun d hd=>?_,?_⟩
 ·have:=h1.1;simp only[hd,Bool.or_eq_false_iff] at this;exact Vf this.1
 ·have:=h1.1;simp only[hd,he,Bool.or_eq_false_iff] at this;rw[Qi] at this;cases this.2
 ·have:=h1.2;simp only[hd] at this;exact Vf this
 ·cases hc:Vc C P x o
  ·exact .inl rfl
  ·rw[hc] at h2;right
   simpa using h2
theorem Pf.apart(ap:Pf C P ops x o)(h:Vc C P x o=false):ER C P ops x o:=by
 unfold Vc at h;simp only[Bool.or_eq_false_iff,Bool.and_eq_false_iff] at h;refine⟨ap.xo,ap.ne,ap.ox,fun hm=>?_,fun hm=>?_⟩
 ·rcases h.1 with h|h
  ·rw[hm] at h;cases h
  ·exact h
 ·rcases h.2 with h|h
  ·rw[hm] at h;cases h
  ·exact h
theorem Pf.same(ap:Pf C P ops x o)(hk:TE P x s s1)(hl:Yk P x.op=true->s1.hp=s.hp)(hM:Ws C P o.op=true)(hA:LT o.op=false){i:Nat}(hi:s.hp i≠none):s1.hp i=s.hp i:=by
 rcases ap.me with h|h
 ·exact hk.2.2 ((ap.apart h).mo hM) i hi
 ·unfold M8 at h;simp only[Bool.and_false,Bool.or_false,Bool.or_eq_true,Er] at h;rcases h with h|h
  ·have:=h.2;rw[Nh (C:=C) (P:=P) this] at hM;cases hM
  ·rw[hl h.2]
theorem Has.keepsS(h:Has C P o s)(ap:Pf C P ops x o)(hk:TE P x s s1)(hl:Yk P x.op=true->s1.hp=s.hp):Has C P o s1:=by
 have hop:∀y∈o.op.operands.toList,Ck s1.tm y=Ck s.tm y:=fun y hy=>H9 (ops:=ops) (o:=o) (fun t ht=>hk.1 t fun hd=>ap.xo t hd ht) y hy;refine⟨fun y hy i hi=>?_,fun hM hA y hy i hi c hc p hp k hkk=>?_⟩
 ·rw[hop y hy] at hi;exact hk.2.1 i (h.1 y hy i hi)
 ·rw[hop y hy] at hi;rw[ap.same hk hl hM hA (h.1 y hy i hi)] at hc;exact hk.2.1 k (h.2 hM hA y hy i hi c hc p hp k hkk)
theorem Pf.symm(ap:Pf C P ops x o):Pf C P ops o x:=by
 refine⟨ap.ox,fun d hd he=>ap.ne d he hd,ap.xo,?_⟩;rcases ap.me with h|h
 ·left;unfold Vc at h ⊢;rw[Bool.or_comm];exact h
 ·right;rw[BQ];exact h
theorem A33(hw:Has C P o s)(hwx:M8 C P x o=true->∀i∈Pp C P s x,s.hp i≠none)(ap:Pf C P ops x o)(hd:M8 C P x o=true->Als (Pp C P s x) (Pp C P s o)=true)(h:El C P N call ops x s (fun s1=>El C P N call ops o s1 K)=some r):El C P N call ops o s (fun s1=>El C P N call ops x s1 K)=some r:=by
 rcases ap.me with hm|hm
 ·exact A5z hw (ap.apart hm) h
 ·have hd:=hd hm;have hwx:=hwx hm;cases hx:I4 C P ops x s.tm
  ·cases ho:I4 C P ops o s.tm
   ·exact Ag7 hw ap.xo ap.ne ap.ox hx ho h
   ·have hMo:=Yz ho
    have hlx:SH P ops x s.tm:=by
     cases hl:Yk P x.op
     ·right
      have hMx:Ws C P x.op=true:=by
       unfold M8 at hm;simp only[hl,Bool.and_false,Bool.or_false,Bool.or_eq_true,Er] at hm;exact hm.1
      cases hv:Im ops x s.tm with
      |none=>
       exfalso;rw[Nr hx] at h;unfold gE at h;rw[hv] at h;cases h
      |some b=>
       cases b
       ·rfl
       ·unfold I4 at hx;rw[hMx,hv] at hx;cases hx
     ·exact .inl hl
    refine Auh ap.xo ap.ne ap.ox hlx (fun y hy i hi hR=>?_) ho h;refine QG hd (ZF ?_ hy hi) (XY hMo hR);unfold M8 at hm;simp only[Bool.or_eq_true,Er] at hm;rcases hm with hm|hm
    ·exact .inl hm.1
    ·exact .inr hm.2
  ·have hMx:=Yz hx;cases ho:I4 C P ops o s.tm
   ·have hlo:SH P ops o s.tm:=by
     cases hl:Yk P o.op
     ·right
      have hMo:Ws C P o.op=true:=by
       unfold M8 at hm;simp only[hl,Bool.and_false,Bool.false_or,Bool.or_eq_true,Er] at hm;exact hm.1
      cases hv:Im ops o s.tm with
      |none=>
       exfalso;obtain⟨s1,_,hk,_,h⟩:=CR h;have hv1:Im ops o s1.tm=none:=by rw[Nx (fun t ht=>hk.1 t fun hd=>ap.xo t hd ht)];exact hv
       rw[Nr (by unfold I4;rw[hv1];cases Ws C P o.op<;>rfl)] at h
       unfold gE at h;rw[hv1] at h;cases h
      |some b=>
       cases b
       ·rfl
       ·unfold I4 at ho;rw[hMo,hv] at ho;cases ho
     ·exact .inl hl
    refine Atn hw ap.xo ap.ne ap.ox hlo (fun y hy i hi hR=>?_) hx h;refine QG hd (XY hMx hR) (ZF ?_ hy hi);unfold M8 at hm;simp only[Bool.or_eq_true,Er] at hm;rcases hm with hm|hm
    ·exact .inr hm.2
    ·exact .inl hm.1
   ·have hMo:=Yz ho;unfold M8 at hm;simp only[Bool.or_eq_true,Er] at hm;rcases hm with hm|hm
    ·rw[Nh (C:=C) (P:=P) hm.2] at hMo;cases hMo
    ·rw[Nh (C:=C) (P:=P) hm.2] at hMx;cases hMx
theorem Arw{α:Type}(a b:α)(l:List α)(f:α->Bool):(a::b::l).all f=(b::a::l).all f:=by simp only[List.all_cons];cases f a<;>cases f b<;>rfl
theorem KD{bs:List Bz}:∀(l:Bz){dn dn':List (Nat × Oper × Bz)} {s:St}{K:St->Option R},(∀f,dn.all f=dn'.all f)->I9 C P N call ops bs dn l s K=I9 C P N call ops bs dn' l s K
 |[],_,_,_,_,_=>rfl
 |i::l,dn,dn',s,K,h=>by
  unfold I9;cases ops[i]? with
  |none=>rfl
  |some o=>
   simp only[Ds,h]
   congr 2
   funext s'
   exact KD l fun f=>by simp only[List.all_cons,h]
theorem PJ{bs:Bz}{i:Nat}(hi:ops[i]?=some o):(DN C P ops bs).getD i []=EW C P ops bs i o:=by unfold DN;rw[List.getD_eq_getElem?_getD,List.getElem?_map,List.getElem?_zipIdx,Array.getElem?_toList,hi];simp
theorem Vo{bs:Bz}{i j:Nat}:j∈EW C P ops bs i o↔∃x,ops[j]?=some x/\M8 C P x o=true/\(Nat.blt j i&&(bs.getD i 0).testBit j)=false/\(Nat.blt i j&&(bs.getD j 0).testBit i)=false:=by
 unfold EW;simp only[List.mem_map,List.mem_filter,Er,Bool.not_eq_true',Prod.exists];constructor
 ·rintro⟨x,k,⟨hm,⟨h1,h2⟩,h3⟩,rfl⟩
  rw[List.mem_zipIdx_iff_getElem?] at hm;exact⟨x,by simpa using hm,h1,h2,h3⟩
 ·rintro⟨x,hx,h1,h2,h3⟩
  refine⟨x,j,⟨?_,⟨h1,h2⟩,h3⟩,rfl⟩;rw[List.mem_zipIdx_iff_getElem?]
  simpa using hx
theorem ML{sm:List Bz}{i j:Nat}(h:j∈sm.getD i []):LL C P sm s i o=Pp C P s o:=by
 unfold LL;split
 ·rename_i e;rw[e] at h;simp at h
 ·rfl
theorem Arv{sm:List Bz}{i:Nat}(h:sm.getD i []≠[]->Pp C P s1 o=Pp C P s o):LL C P sm s1 i o=LL C P sm s i o:=by
 unfold LL;split
 ·rfl
 ·rename_i e;exact h (by rw[e];simp)
theorem Ag9{l:Bz}{j:Nat}:l.any (Nat.beq j)=true↔j∈l:=by
 constructor
 ·intro h;obtain⟨k,hk,e⟩:=List.any_eq_true.1 h;rw[C6 e];exact hk
 ·intro h;exact List.any_eq_true.2 ⟨j,h,Qi j⟩
theorem FY{bs:Bz}{sm:List Bz}(hsm:sm=DN C P ops bs){i:Nat}(hi:ops[i]?=some o){l':Bz}:∀(l:Bz){dn:List (Nat × Oper × Bz)} {s:St}{K:St->Option R},Has C P o s ->
  (∀j∈l,j<i/\(bs.getD i 0).testBit j=false/\∀x,ops[j]?=some x->Pf C P ops x o)->I9 C P N call ops sm dn (l++i::l') s K=some r ->
  dn.all (RX C P sm s i o)=true/\El C P N call ops o s (fun s1=>I9 C P N call ops sm ((i,o,LL C P sm s i o)::dn) (l++l') s1 K)=some r
 |[],dn,s,K,hw,_,h=>by
  simp only[NK] at h ⊢;unfold I9 at h;rw[hi] at h;simp only[Ds] at h;obtain⟨hb,h⟩:=Am h;simp only[Er] at hb;exact⟨hb.1,h⟩
 |j::l,dn,s,K,hw,hl,h=>by
  simp only[Zzp] at h ⊢;unfold I9 at h;obtain⟨hji,RQ,hap⟩:=hl j (by simp);cases hj:ops[j]? with
  |none=>rw[hj] at h;cases h
  |some x=>
   rw[hj] at h;simp only[Ds] at h;obtain⟨hb,h⟩:=Am h;simp only[Er] at hb;have ap:=hap x hj
   have hex:∀k∈LL C P sm s j x,s.hp k≠none:=fun k hk=>by
    have:=List.all_eq_true.1 hb.2 k hk;intro e;rw[e] at this;cases this
   obtain⟨s1,e1,Ez,NN,h1⟩:=CR h;obtain⟨ha,h2⟩:=FY hsm hi l (hw.keepsS ap Ez NN) (fun k hk=>hl k (by simp[hk])) h1;have Bci:Pp C P s1 o=Pp C P s o:=Adh (ops:=ops) (fun t ht=>Ez.1 t fun hd=>ap.xo t hd ht) fun hM hA y hy k hk=>ap.same Ez NN hM hA (hw.1 y hy k hk);have RE:LL C P sm s1 i o=LL C P sm s i o:=Arv fun _=>Bci;rw[List.all_cons,Er] at ha
   have A70:Nat.blt i j=false:=by
    cases hh:Nat.blt i j
    ·rfl
    ·have:=Oj hh;omega
   have hmi:M8 C P x o=true->j∈sm.getD i []:=fun hs=>by
    rw[hsm,PJ hi];exact Vo.2 ⟨x,hj,hs,by rw[RQ,Bool.and_false],by rw[A70,RH]⟩
   have hmj:M8 C P x o=true->i∈sm.getD j []:=fun hs=>by
    rw[hsm,PJ hj];exact Vo.2 ⟨o,hi,by rw[BQ];exact hs,by rw[A70,RH],by rw[RQ,Bool.and_false]⟩
   have Axq:M8 C P x o=true->Als (LL C P sm s j x) (LL C P sm s i o)=true:=by
    intro hs;have:=ha.1;unfold RX at this;rw[Ag9.2 (hmi hs),RE] at this
    simpa using this
   have hok:∀q,RX C P sm s1 i o q=RX C P sm s i o q:=fun q=>by unfold RX;rw[RE]
   have Si:dn.all (RX C P sm s i o)=true:=by
    refine List.all_eq_true.2 fun q hq=>?_;rw[<-hok];exact List.all_eq_true.1 ha.2 q hq
   refine⟨Si,?_⟩;rw[RE] at h2
   have h3:=A33 hw (fun hs k hk=>hex k (by rw[ML (hmj hs)];exact hk)) ap (fun hs=>by have:=Axq hs;rw[ML (hmj hs),ML (hmi hs)] at this;exact this)
    (VN (K':=fun s1=>El C P N call ops o s1 (fun s2=>I9 C P N call ops sm ((i,o,LL C P sm s i o)::(j,x,LL C P sm s j x)::dn) (l++l') s2 K)) e1 h2)
   obtain⟨s2,e2,Fu,Wd,h4⟩:=CR h3;refine VN e2 ?_
   have VW:LL C P sm s2 j x=LL C P sm s j x:=Arv fun G6=>by
    obtain⟨q,hq⟩:=List.exists_mem_of_ne_nil _ G6;refine Adh (ops:=ops) (fun t ht=>Fu.1 t fun hd=>ap.ox t hd ht) fun hM hA y hy k hk=>ap.symm.same Fu Wd hM hA (hex k ?_);rw[ML hq];exact ZF (.inl hM) hy hk
   unfold I9;rw[hj];simp only[Ds]
   have hc:(((i,o,LL C P sm s i o)::dn).all (RX C P sm s2 j x)&&(LL C P sm s2 j x).all fun k=>(s2.hp k).isSome)=true:=by
    simp only[List.all_cons,Er];refine⟨⟨?_,?_⟩,?_⟩
    ·unfold RX;simp only[VW];cases hs:(sm.getD j []).any (Nat.beq i)
     ·rfl
     ·have hm:=Ag9.1 hs;rw[hsm,PJ hj] at hm;obtain⟨o',ho',hso,_⟩:=Vo.1 hm;rw[hi] at ho';cases ho';rw[BQ] at hso;rw[Ajj (Axq hso)];rfl
    ·refine List.all_eq_true.2 fun q hq=>?_;have:=List.all_eq_true.1 hb.1 q hq;unfold RX at this ⊢;rw[VW];exact this
    ·rw[VW];refine List.all_eq_true.2 fun k hk=>?_;have:=Fu.2.1 k (hex k hk);cases hh:s2.hp k with
     |none=>exact absurd hh this
     |some _=>rfl
   rw[hc,VW];show El C P N call ops x s2 _=some r
   have:(fun s'=>I9 C P N call ops sm ((j,x,LL C P sm s j x)::(i,o,LL C P sm s i o)::dn) (l++l') s' K)=fun s2=>I9 C P N call ops sm ((i,o,LL C P sm s i o)::(j,x,LL C P sm s j x)::dn) (l++l') s2 K:=by
    funext s'
    exact KD _ fun f=>Arw _ _ _ f
   rw[this];exact h4
end
section
variable {R:Type}{r:R}{P:Program}{N:Nat}{w0:World}{X0:Jw}{Y:Nat->Prop}{β β':Bt}{s:St}{a:Act}{w w':World}{o:Oper}{ops:Array Oper}{C:Gw}{call:Aq}{K:St->Option R}
theorem AX{bs:Bz}:∀(l:List Oper)(n:Nat),DW C P ops bs l n=true->∀(k:Nat) o,l[k]?=some o->∀(j:Nat) x,ops[j]?=some x->j<n+k->Art C P ops x o=true->(bs.getD (n+k) 0).testBit j=true
 |[],_,_,k,o,ho,_,_,_,_,_=>by simp at ho
 |o'::l,n,h,k,o,ho,j,x,hx,hj,O7=>by
  simp only[DW,Er] at h;cases k with
  |zero=>
   simp at ho;subst ho
   have:=List.all_eq_true.1 h.1 (x,j) (by
    rw[List.mem_zipIdx_iff_getElem?]
    simpa using hx)
   simp only[O7,Hn,Bool.or_false,Bool.or_eq_true,Bool.not_eq_true'] at this;rcases this with h'|h'
   ·have:Nat.blt j n=true:=Nat.ble_eq_true_of_le (by omega);rw[this] at h';cases h'
   ·exact h'
  |succ k=>
   have:=AX l (n+1) h.2 k o (by simpa using ho) j x hx (by omega) O7
   rwa [show n+(k+1)=n+1+k by omega]
theorem WN{G:BE}(Nz:Env P G w0 X0)(Eo:∀f args res,call f args=some res->Cx G P f args res)(hok:GW C P ops=true){Q:Exit->Act->World->Prop}(hQ:∀s' a' w' β',K s'=some r->Df N w0 X0 Y β' s' a' w'->Q .normal a' w'):
  ∀(fuel:Nat) {dn:List (Nat × Oper × Bz)} {listed:Array Bool} {s:St} {a:Act} {w:World} {β:Bt},HeadInv .any ops ops.size listed->(Qc ops.size listed).length=fuel->Df N w0 X0 Y β s a w->I9 C P N call ops (DN C P ops (Jd ops.toList [])) dn (Qc ops.size listed) s K=some r->wpAny P .any ops Q fuel listed a w:=by
 unfold GW at hok;simp only[Er] at hok;obtain⟨Arr,Azl⟩:=hok;intro fuel
 induction fuel with
 |zero=>
  intro dn listed s a w β inv hf h hk;have hp:=List.eq_nil_of_length_eq_zero hf;rw[hp] at hk;refine⟨?_,hQ s a w β hk h⟩;cases hr:Region.ready .any ops listed with
  |nil=>rfl
  |cons i l=>
   exfalso;have hi:i∈Region.ready .any ops listed:=by rw[hr];simp
   obtain⟨Mq,o,ho,_⟩:=mem_ready.1 hi;have:i∈Qc ops.size listed:=Ma.2 ⟨(Array.getElem?_eq_some_iff.1 ho).1,Mq⟩;rw[hp] at this;simp at this
 |succ fuel ih=>
  intro dn listed s a w β inv hf h hk;refine⟨fun hr=>?_,fun i hi=>?_⟩
  ·rw[SR Arr inv hr] at hf;cases hf
  ·obtain⟨Mq,o,ho,Si⟩:=mem_ready.1 hi;have Cm:i<ops.size:=(Array.getElem?_eq_some_iff.1 ho).1;obtain⟨l1,l2,h1,h2,h3⟩:=BU (Ma.2 ⟨Cm,Mq⟩) inv.size;rw[h1] at hk
   have hnb:∀j∈l1,((Jd ops.toList []).getD i 0).testBit j=false:=by
    intro j hj;cases RQ:((Jd ops.toList []).getD i 0).testBit j with
    |false=>rfl
    |true=>
     exfalso;have hjl:=Vm (listed:=listed) (fun j oj hj hl=>inv.closed j oj hj hl) ops.toList [] [] (by simp) rfl (by simp) i o ho Si j RQ;have:j∈Qc ops.size listed:=by rw[h1];simp[hj]
     have:=getD_both (Ma.1 this).2;rw[hjl] at this;cases this
   have hap:∀j∈l1,j<i/\((Jd ops.toList []).getD i 0).testBit j=false/\∀x,ops[j]?=some x->Pf C P ops x o:=by
    intro j hj;refine⟨h3 j hj,hnb j hj,fun x hxj=>Ak4 ?_⟩;cases O7:Art C P ops x o with
    |false=>rfl
    |true=>
     exfalso;have RQ:=AX ops.toList 0 Azl i o (by simpa using ho) j x hxj (by have:=h3 j hj;omega) O7
     rw[Ig,hnb j hj] at RQ;cases RQ
   obtain⟨s',hs',hn⟩:=BL h Nz Eo ho (FY rfl ho l1 (And h o) hap hk).2;refine hn _ _ fun a' w' β' h'=>ih (dn:=(i,o,LL C P (DN C P ops (Jd ops.toList [])) s i o)::dn) (inv.set hi Cm) ?_ h' ?_
   ·rw[h2];rw[h1] at hf;simp at hf ⊢;omega
   ·rw[h2];exact hs'
theorem KT(h:Df N w0 X0 Y β s a w){G:BE}(Nz:Env P G w0 X0)(Eo:∀f args res,call f args=some res->Cx G P f args res)(hm:P.follows .mixedOrders=true)(hok:GW C P ops=true){Q:Exit->Act->World->Prop}(hk:I9 C P N call ops (DN C P ops (Jd ops.toList [])) [] (List.range ops.size) s K=some r)(hQ:∀s' a' w' β',K s'=some r->Df N w0 X0 Y β' s' a' w'->Q .normal a' w'):wpAny P .any ops Q ops.size (Array.replicate ops.size false) a { w with drawn:=w.drawn+1 }:=by
 have hp:Qc ops.size (Array.replicate ops.size false)=List.range ops.size:=by
  unfold Qc;refine List.filter_eq_self.2 fun i hi=>?_;have:=List.mem_range.1 hi;simp[this]
 refine WN (C:=C) (dn:=[]) Nz Eo hok hQ ops.size ⟨by simp,fun j oj _ hl=>(by rw[getD_replicate_false] at hl;cases hl),fun t ht ht'=>by omega⟩ (by rw[hp];simp) h.drew ?_
 rw[hp];exact hk
theorem Adq(h:Df N w0 X0 Y β s a w){G:BE}(Nz:Env P G w0 X0)(Eo:∀f args res,call f args=some res->Cx G P f args res)(hm:P.follows .mixedOrders=true)(hok:GW C P ops=true){id:Nat}{Q:Exit->Act->World->Prop}(hk:I9 C P N call ops (DN C P ops (Jd ops.toList [])) [] (List.range ops.size) s K=some r)(hQ:∀s' a' w' β',K s'=some r->Df N w0 X0 Y β' s' a' w'->Q .normal a' w'):(Code.region id ops true).wp P Q a w:=
 wp_region_any hm (KT h Nz Eo hm hok hk hQ)
end
open Go.RowKit
section
variable {R:Type}{r:R}{N:Nat}{w0:World}{X0:Jw}{Y:Nat->Prop}{β β':Bt}{s:St}{a:Act}{w w':World}
theorem Anm{i:Nat}(hi:i<a.tmps.size):a.put (some i) (a.tmps.getD i undef)=a:=by
 obtain⟨tmps,dfr⟩:=a;change i<tmps.size at hi
 have:tmps.setIfInBounds i (tmps.getD i undef)=tmps:=by
  apply Array.ext_getElem?;intro k;by_cases e:i=k
  ·subst e;simp[hi]
  ·rw[Array.getElem?_setIfInBounds_ne e]
 simp only[Act.put,this]
theorem Aha{A:Nat->Prop}{es:Nat}{v:Value}(h:At w A (.lst true es 0 []) v):v=.slice none 0 0:=by cases h;rfl
theorem Ahc{id:Nat}(Bx:s.hp id=none){v:PV}{val:Value}(hv:Fg w (Dt (Au s.hp [(id,.ar false [])]) (C7 β id none) Y) (C7 β id none) v val)(hr:∀i∈Cc v,s.hp i≠none\/i=id):
  UR Y β s w v [(id,.ar false [])] val w (C7 β id none):=by
 refine⟨rfl,rfl,rfl,Cq.refl _ _,fun j hj=>Ak _ _ (by rintro rfl;exact hj Bx),?_,?_,?_,?_,?_,hv,?_⟩
 ·intro j bx hm;simp at hm;rw[hm.2];trivial
 ·intro j bx hm;simp at hm;obtain⟨rfl,rfl⟩:=hm;exact .inl ⟨An _ _ _,rfl⟩
 ·intro j bx k q hm hq;simp at hm;obtain⟨rfl,rfl⟩:=hm;rw[An] at hq;cases hq
 ·intro j bx j' bx' k q q' hm M6 _ _;simp at hm M6;rw[hm.1,M6.1]
 ·intro j cells hm;simp at hm
 ·intro j hj;rcases hr j hj with h|rfl
  ·exact .inl h
  ·exact .inr ⟨.ar false [],by simp⟩
theorem SJ(h:Df N w0 X0 Y β s a w)(i:Nat):∃β',Df N w0 X0 Y β' (FD N s i) a w:=by
 unfold FD;split
 ·rename_i es ht
  have Cm:i<N:=by
   rcases Id i N with h'|h'
   ·exact h'
   ·rw[h.tmo i h'] at ht;cases ht
  have hv:=h.tms i Cm;rw[ht] at hv;have hv:=Aha hv;have hd:Hp N (some i)=true:=by simp[Hp,Nat.blt];omega
  have go:∀j,s.hp j=none->∃β',Df N w0 X0 Y β' ⟨C7 s.tm i (.view j es 0 0),C7 s.hp j (some (.ar false []))⟩ a w:=by
   intro j hn;have:=h.stepR (d:=some i) hd (by simp[B6,hn]) (Ahc (v:=.view j es 0 0) (val:=.slice none 0 0) hn (.inl ⟨An _ _ _,rfl,rfl,none,rfl⟩) (by simp[Cc,Ct,As]));rw[<-hv,Anm (by rw[h.tsz];exact Cm)] at this
   exact⟨_,this⟩
  cases hn:(s.hp i).isNone
  ·cases hn2:(s.hp (i+N*3000)).isNone
   ·exact⟨β,h⟩
   ·exact go _ (by simpa using hn2)
  ·exact go _ (by simpa using hn)
 ·exact⟨β,h⟩
theorem Df.recell(h:Df N w0 X0 Y β s a w){id:Nat}{c c':Ad}(h0:s.hp id=some (.st c))(hl:c'.length=c.length)(hc:∀(j:Nat) p,c'[j]?=some p->∃q,c[j]?=some q/\(∀v,Cd w (Dt s.hp β Y) β q v->Cd w (Dt s.hp β Y) β p v)/\∀i∈As p,s.hp i≠none):
  Df N w0 X0 Y β ⟨s.tm,C7 s.hp id (some (.st c'))⟩ a w:=by
 have H0:∀i,Du (C7 s.hp id (some (.st c')) i)↔Du (s.hp i):=by
  intro i;by_cases e:i=id
  ·subst e;rw[An,h0];exact Iff.rfl
  ·rw[Ak _ _ e]
 have hX:ZM (C7 s.hp id (some (.st c'))) β=ZM s.hp β:=by
  funext b
  apply propext;constructor
  ·rintro⟨i,o,hl,hb⟩;exact⟨i,o,(H0 i).1 hl,hb⟩
  ·rintro⟨i,o,hl,hb⟩;exact⟨i,o,(H0 i).2 hl,hb⟩
 have hA:Dt (C7 s.hp id (some (.st c'))) β Y=Dt s.hp β Y:=by
  funext b;unfold Dt;rw[hX]
 have G6:∀i,s.hp i≠none->C7 s.hp id (some (.st c')) i≠none:=by
  intro i hi;by_cases e:i=id
  ·subst e;rw[An];simp
  ·rw[Ak _ _ e];exact hi
 have A1o:∀i,C7 s.hp id (some (.st c')) i≠none->s.hp i≠none:=by
  intro i hi;by_cases e:i=id
  ·subst e;rw[h0];simp
  ·rw[Ak _ _ e] at hi;exact hi
 refine⟨h.dfr,h.tsz,h.tmo,?_,?_,?_,?_,?_,?_,?_,?_,fun i hi=>⟨G6 _ (h.pin i hi).1,(h.pin i hi).2⟩,?_,?_,h.Ylt,h.fr⟩
 ·intro i hi;show Fg w (Dt (C7 s.hp id _) β Y) β _ _;rw[hA];exact h.tms i hi
 ·intro i b hb;show V2 w (Dt (C7 s.hp id _) β Y) β i b;rw[hA];by_cases e:i=id
  ·subst e;change C7 s.hp i (some (.st c')) i=some b at hb;rw[An] at hb;cases hb;obtain⟨b,o,h1,h2,h3⟩:=h.box i _ h0;refine⟨b,o,h1,fun j p hj=>?_,fun j hj=>h3 j (by rw[<-hl];exact hj)⟩
   obtain⟨q,hq,hqp,_⟩:=hc j p hj;obtain⟨v,hv,hr⟩:=h2 j q hq;exact⟨v,hv,hqp v hr⟩
  ·change C7 s.hp id (some (.st c')) i=some b at hb;rw[Ak _ _ e] at hb;exact h.box i b hb
 ·intro i i' b o o' hl Nj hb Jp;exact h.inj i i' b o o' ((H0 i).1 hl) ((H0 i').1 Nj) hb Jp
 ·intro i b o hn hb;exact h.blt i b o (A1o i hn) hb
 ·intro i hi j hj;exact G6 j (h.wfT i hi j hj)
 ·intro i cells hb p hp j hj;change C7 s.hp id (some (.st c')) i=_ at hb;by_cases e:i=id
  ·subst e;rw[An] at hb;cases hb;obtain⟨k,hk⟩:=List.mem_iff_getElem?.1 hp;obtain⟨_,_,_,hr⟩:=hc k p hk;exact G6 j (hr j hj)
  ·rw[Ak _ _ e] at hb;exact G6 j (h.wfB i cells hb p hp j hj)
 ·intro b hb;exact h.ownd b (by rw[<-hX];exact hb)
 ·intro i bx b o hb hlb hβ Cm j hj;change C7 s.hp id (some (.st c')) i=some bx at hb;by_cases e:i=id
  ·subst e;rw[An] at hb;cases hb;exact h.rngB i _ b o h0 trivial hβ Cm j (by unfold BR at hj ⊢;simp only[hl] at hj;exact hj)
  ·rw[Ak _ _ e] at hb;exact h.rngB i bx b o hb hlb hβ Cm j hj
 ·intro i c1 b o hb hβ Cm;change C7 s.hp id (some (.st c')) i=_ at hb;by_cases e:i=id
  ·subst e;exact h.stp i c b o h0 hβ Cm
  ·rw[Ak _ _ e] at hb;exact h.stp i c1 b o hb hβ Cm
 ·intro b hY hb;exact h.Yx b hY (by rw[<-hX];exact hb)
theorem RT(h:Df N w0 X0 Y β s a w)(id j:Nat):∃β',Df N w0 X0 Y β' (WG N id s j) a w:=by
 unfold WG;split
 ·rename_i c h0;split
  ·rename_i es hj;cases hn:(s.hp (id+N*(j+1))).isNone
   ·exact⟨β,h⟩
   ·have hn:s.hp (id+N*(j+1))=none:=by simpa using hn
    have G6:id≠id+N*(j+1):=by
     intro e;rw[<-e,h0] at hn;cases hn
    have h1:=h.stepR (d:=none) (v:=.top) (val:=undef) rfl (by simp[B6,hn]) (Ahc hn (.top _) (by simp[Cc,Ct,As]));change Df N w0 X0 Y (C7 β (id+N*(j+1)) none) ⟨s.tm,C7 s.hp (id+N*(j+1)) (some (.ar false []))⟩ a w at h1
    have h2:=h1.recell (id:=id) (c:=c) (c':=c.set j (.view (id+N*(j+1)) es 0 0)) (by show C7 _ _ _ _=_;rw[Ak _ _ G6];exact h0) (by simp) (by
     intro k p hp;by_cases e:k=j
     ·subst e
      have Cm:k<c.length:=by
       rcases Id k c.length with h'|h'
       ·exact h'
       ·rw[List.getElem?_eq_none h'] at hj;cases hj
      rw[List.getElem?_set_self Cm] at hp;cases hp;refine⟨_,hj,fun v hv=>.inl ⟨An _ _ _,rfl,rfl,none,Aha hv⟩,fun i hi=>?_⟩;simp[As] at hi;subst hi;show C7 _ _ _ _≠none;rw[An];simp
     ·rw[List.getElem?_set_ne (fun h=>e h.symm)] at hp;refine⟨p,hp,fun _ hv=>hv,fun i hi=>?_⟩;have:=h.wfB id c h0 p (List.mem_of_getElem? hp) i hi;show C7 _ _ _ _≠none;by_cases e':i=id+N*(j+1)
      ·subst e';rw[An];simp
      ·rw[Ak _ _ e'];exact this)
    refine⟨C7 β (id+N*(j+1)) none,?_⟩;have e3:C7 (C7 s.hp (id+N*(j+1)) (some (.ar false []))) id (some (.st (c.set j (.view (id+N*(j+1)) es 0 0))))=C7 (C7 s.hp id (some (.st (c.set j (.view (id+N*(j+1)) es 0 0))))) (id+N*(j+1)) (some (.ar false [])):=Aa5 _ _ _ (fun h=>G6 h.symm);change Df N w0 X0 Y (C7 β (id+N*(j+1)) none) ⟨s.tm,C7 (C7 s.hp (id+N*(j+1)) (some (.ar false []))) id (some (.st (c.set j (.view (id+N*(j+1)) es 0 0))))⟩ a w at h2;rw[e3] at h2;exact h2
  ·exact⟨β,h⟩
 ·exact⟨β,h⟩
theorem Sl{f:St->Nat->St}(hf:∀s β,Df N w0 X0 Y β s a w->∀i,∃β',Df N w0 X0 Y β' (f s i) a w):∀(l:Bz){s:St}{β:Bt},Df N w0 X0 Y β s a w->∃β',Df N w0 X0 Y β' (l.foldl f s) a w
 |[],_,β,h=>⟨β,h⟩
 |i::l,s,β,h=>by
  obtain⟨β1,h1⟩:=hf s β h i;exact Sl hf l h1
theorem WC(h:Df N w0 X0 Y β s a w)(i:Nat):∃β',Df N w0 X0 Y β' (OG N s i) a w:=by
 unfold OG;split
 ·split
  ·exact Sl (fun s β h i=>RT h _ i) _ h
  ·exact⟨β,h⟩
 ·exact⟨β,h⟩
theorem VV:∀{m:List (Nat × Nat)},Em (m.map (·.2))=true->∀{i i' j:Nat},(i,j)∈m->(i',j)∈m->i=i'
 |[],_,_,_,_,h,_=>by simp at h
 |(x,y)::m,hn,i,i',j,h,h'=>by
  simp only[U7,Em,Er,Bool.not_eq_true'] at hn
  have hy:∀k,(k,y) ∉ m:=by
   intro k hk;exact Vf hn.1 (List.mem_map.2 ⟨(k,y),hk,rfl⟩)
  rcases List.mem_cons.1 h with e|h
  ·cases e;rcases List.mem_cons.1 h' with e|h'
   ·cases e;rfl
   ·exact absurd h' (hy _)
  ·rcases List.mem_cons.1 h' with e|h'
   ·cases e;exact absurd h (hy _)
   ·exact VV hn.2 h h'
theorem HF:∀{m:List (Nat × Nat)},Em (m.map (·.1))=true->∀{i j j':Nat},(i,j)∈m->(i,j')∈m->j=j'
 |[],_,_,_,_,h,_=>by simp at h
 |(x,y)::m,hn,i,j,j',h,h'=>by
  simp only[U7,Em,Er,Bool.not_eq_true'] at hn
  have hx:∀k,(x,k) ∉ m:=by
   intro k hk;exact Vf hn.1 (List.mem_map.2 ⟨(x,k),hk,rfl⟩)
  rcases List.mem_cons.1 h with e|h
  ·cases e;rcases List.mem_cons.1 h' with e|h'
   ·cases e;rfl
   ·exact absurd h' (hx _)
  ·rcases List.mem_cons.1 h' with e|h'
   ·cases e;exact absurd h (hx _)
   ·exact HF hn.2 h h'
theorem Qm{i j:Nat}(h:Nat.beq i j=false):i≠j:=by rintro rfl;rw[Qi] at h;cases h
theorem DP:∀{m:List (Nat × Nat)} {i j:Nat},AK m i=some j->(i,j)∈m
 |[],_,_,h=>by cases h
 |(x,y)::m,i,j,h=>by
  unfold AK at h;cases hb:Nat.beq i x<;>rw[hb] at h
  ·exact Uf _ (DP h)
  ·have:=C6 hb;cases h;rw[this];simp
theorem IP{m:List (Nat × Nat)}{hp:Nat->Option B2}:∀{l:List (Nat × Nat)} {j:Nat}{b:B2},Fw (N5 m hp l) j=some b->∃i b0,(i,j)∈l/\hp i=some b0/\b=Avk m b0
 |[],_,_,h=>by cases h
 |(x,y)::l,j,b,h=>by
  unfold N5 at h;cases hx:hp x with
  |none=>
   rw[hx] at h;obtain⟨i,b0,h1,h2⟩:=IP h;exact⟨i,b0,Uf _ h1,h2⟩
  |some bx=>
   rw[hx] at h;simp only[Fw] at h;cases hb:Nat.beq j y<;>rw[hb] at h
   ·obtain⟨i,b0,h1,h2⟩:=IP h;exact⟨i,b0,Uf _ h1,h2⟩
   ·have:=C6 hb;subst this;cases h;exact⟨x,bx,by simp,hx,rfl⟩
theorem Ru{m:List (Nat × Nat)}{hp:Nat->Option B2}:∀{l:List (Nat × Nat)} {i j:Nat},(i,j)∈l->hp i≠none->Fw (N5 m hp l) j≠none
 |[],_,_,h,_=>by simp at h
 |(x,y)::l,i,j,h,hi=>by
  unfold N5;cases hx:hp x with
  |none=>
   rcases List.mem_cons.1 h with e|h
   ·cases e;exact absurd hx hi
   ·exact Ru h hi
  |some bx=>
   simp only[Fw];cases hb:Nat.beq j y
   ·rcases List.mem_cons.1 h with e|h
    ·cases e;exact absurd rfl (Qm hb)
    ·exact Ru h hi
   ·simp
def SK(m:List (Nat × Nat))(j:Nat):Option Nat:=
 match m with
 |[]=>none
 |(x,y)::r=>bif Nat.beq j y then some x else SK r j
theorem Aic:∀{m:List (Nat × Nat)} {i j:Nat},SK m j=some i->(i,j)∈m
 |[],_,_,h=>by cases h
 |(x,y)::m,i,j,h=>by
  unfold SK at h;cases hb:Nat.beq j y<;>rw[hb] at h
  ·exact Uf _ (Aic h)
  ·have:=C6 hb;cases h;rw[this];simp
theorem Acf:∀{m:List (Nat × Nat)} {i j:Nat},(i,j)∈m->∃k,SK m j=some k
 |[],_,_,h=>by simp at h
 |(x,y)::m,i,j,h=>by
  unfold SK;cases hb:Nat.beq j y
  ·rcases List.mem_cons.1 h with e|h
   ·cases e;exact absurd rfl (Qm hb)
   ·exact Acf h
  ·exact⟨x,rfl⟩
theorem XV{f:Nat->PV}:∀{l:Bz}{i:Nat},lk (l.map fun i=>(i,f i)) i=if i∈l then f i else .top
 |[],_=>rfl
 |x::l,i=>by
  simp only[U7,lk];cases hb:Nat.beq i x
  ·have:=Qm hb;simp only[cond_false,XV,List.mem_cons,this,false_or]
  ·have:=C6 hb;subst this;simp
theorem VH{m:Nat}:∀{n i:Nat},i∈I7 m n->i<n
 |0,_,h=>by simp[I7] at h
 |n+1,i,h=>by
  simp only[I7,Bn] at h;rcases h with h|h
  ·have:=VH h;omega
  ·cases hb:m.testBit n<;>rw[hb] at h
   ·simp at h
   ·simp at h;omega
theorem WK(h:Df N w0 X0 Y β s a w){m:List (Nat × Nat)}(h1:Em (m.map (·.1))=true)(h2:Em (m.map (·.2))=true){ls:Bz}(hls:∀i∈ls,i<N)(hpn:∀i,X0.pn i->(D5 N i,D5 N i)∈m):
  ∃β',Df N w0 X0 Y β' ⟨lk (ls.map fun i=>(i,Agl m (s.tm i))),Fw (N5 m s.hp m)⟩ a w:=by
 refine⟨fun j=>(SK m j).bind β,?_⟩
 have hβ:∀{i j:Nat},(i,j)∈m->(SK m j).bind β=β i:=by
  intro i j hm;obtain⟨k,hk⟩:=Acf hm;rw[hk];have:=VV h2 (Aic hk) hm;subst this;rfl
 have hold:∀{j:Nat} {b:B2},Fw (N5 m s.hp m) j=some b->∃i b0,(i,j)∈m/\s.hp i=some b0/\b=Avk m b0/\(SK m j).bind β=β i:=by
  intro j b hb;obtain⟨i,b0,hm,h3,h4⟩:=IP hb;exact⟨i,b0,hm,h3,h4,hβ hm⟩
 have H0:∀{j:Nat},Du (Fw (N5 m s.hp m) j)->∃i,(i,j)∈m/\Du (s.hp i)/\(SK m j).bind β=β i:=by
  intro j hl;cases hb:Fw (N5 m s.hp m) j with
  |none=>rw[hb] at hl;exact hl.elim
  |some b=>
   obtain⟨i,b0,hm,h3,rfl,h5⟩:=hold hb;refine⟨i,hm,?_,h5⟩;rw[hb] at hl;rw[h3];cases b0<;>exact hl
 have hX:∀b,ZM (Fw (N5 m s.hp m)) (fun j=>(SK m j).bind β) b->ZM s.hp β b:=by
  rintro b ⟨j,o,hl,hb⟩
  obtain⟨i,_,Nj,e⟩:=H0 hl;exact⟨i,o,Nj,by rw[<-e];exact hb⟩
 have hA:∀b,Dt (Fw (N5 m s.hp m)) (fun j=>(SK m j).bind β) Y b->Dt s.hp β Y b:=fun b hb=>hb.imp (hX b) id
 have hC:∀p v,Cd w (Dt s.hp β Y) β p v->Cd w (Dt (Fw (N5 m s.hp m)) (fun j=>(SK m j).bind β) Y) (fun j=>(SK m j).bind β) (Agq m p) v:=by
  intro p v hp;cases p with
  |view id es off n=>
   show Cd _ _ _ (match AK m id with|some j=>.view j es off n|none=>.top) v;cases hj:AK m id with
   |some j=>
    have e:=hβ (DP hj);rcases hp with⟨e1,e2⟩|⟨b,o,x,cap,e1,e2⟩
    ·exact .inl ⟨by show (SK m j).bind β=none;rw[e];exact e1,e2⟩
    ·exact .inr ⟨b,o,x,cap,by show (SK m j).bind β=_;rw[e];exact e1,e2⟩
   |none=>exact At.top _
  |ptr id off=>
   show Cd _ _ _ (match AK m id with|some j=>.ptr j off|none=>.top) v;cases hj:AK m id with
   |some j=>
    have e:=hβ (DP hj);obtain⟨b,o,e1,e2⟩:=hp;exact⟨b,o,by show (SK m j).bind β=_;rw[e];exact e1,e2⟩
   |none=>exact At.top _
  |sc v=>exact At.step (Cq.refl _ _) (fun b _=>hA b) hp
  |lst z es n c=>exact At.step (Cq.refl _ _) (fun b _=>hA b) hp
  |iptr c off=>exact Cd.step (p:=.iptr c off) (Cq.refl _ _) (fun b _=>hA b) (by simp[As]) hp
  |_=>exact At.top _
 have hV:∀p v,Fg w (Dt s.hp β Y) β p v->Fg w (Dt (Fw (N5 m s.hp m)) (fun j=>(SK m j).bind β) Y) (fun j=>(SK m j).bind β) (Agl m p) v:=by
  intro p v hp;cases p with
  |agg c=>
   obtain⟨vs,e1,e2⟩:=hp;refine⟨vs,e1,Be.of_at (by simp;exact e2.len) fun i q u hq hu=>?_⟩
   rw[List.getElem?_map] at hq;cases hc:c[i]? with
   |none=>rw[hc] at hq;cases hq
   |some q0=>
    rw[hc] at hq;cases hq;exact hC _ _ (e2.at_ hc hu)
  |view id es off n=>
   have:=hC (.view id es off n) v hp;change Cd _ _ _ (match AK m id with|some j=>.view j es off n|none=>.top) v at this;show Fg _ _ _ (match AK m id with|some j=>.view j es off n|none=>.top) v;cases hj:AK m id<;>rw[hj] at this<;>exact this
  |ptr id off=>
   have:=hC (.ptr id off) v hp;change Cd _ _ _ (match AK m id with|some j=>.ptr j off|none=>.top) v at this;show Fg _ _ _ (match AK m id with|some j=>.ptr j off|none=>.top) v;cases hj:AK m id<;>rw[hj] at this<;>exact this
  |sc v'=>exact hC (.sc v') v hp
  |lst z es n c=>exact hC (.lst z es n c) v hp
  |iptr c off=>exact hC (.iptr c off) v hp
  |_=>exact At.top _
 have hrC:∀p i,i∈As (Agq m p)->∃k∈As p,(k,i)∈m:=by
  intro p i hi;cases p with
  |view id es off n=>
   change i∈As (match AK m id with|some j=>.view j es off n|none=>.top) at hi;cases hj:AK m id<;>rw[hj] at hi
   ·simp[As] at hi
   ·simp[As] at hi;subst hi;exact⟨id,by simp[As],DP hj⟩
  |ptr id off=>
   change i∈As (match AK m id with|some j=>.ptr j off|none=>.top) at hi;cases hj:AK m id<;>rw[hj] at hi
   ·simp[As] at hi
   ·simp[As] at hi;subst hi;exact⟨id,by simp[As],DP hj⟩
  |_=>simp[Agq,As] at hi
 have hrV:∀p i,i∈Cc (Agl m p)->∃k∈Cc p,(k,i)∈m:=by
  intro p i hi;cases p with
  |agg c=>
   simp only[Agl,Cc,Ct,List.mem_flatMap,List.mem_map] at hi;obtain⟨_,⟨q,hq,rfl⟩,hi⟩:=hi;obtain⟨k,hk,hm⟩:=hrC q i hi;exact⟨k,by simp only[Cc,Ct,List.mem_flatMap];exact⟨q,hq,hk⟩,hm⟩
  |view id es off n=>
   refine (hrC (.view id es off n) i ?_).imp fun k hk=>hk;change i∈Cc (match AK m id with|some j=>.view j es off n|none=>.top) at hi;show i∈As (match AK m id with|some j=>.view j es off n|none=>.top);cases hj:AK m id<;>rw[hj] at hi<;>exact hi
  |ptr id off=>
   refine (hrC (.ptr id off) i ?_).imp fun k hk=>hk;change i∈Cc (match AK m id with|some j=>.ptr j off|none=>.top) at hi;show i∈As (match AK m id with|some j=>.ptr j off|none=>.top);cases hj:AK m id<;>rw[hj] at hi<;>exact hi
  |_=>simp[Agl,Agq,Cc,Ct,As] at hi
 refine⟨h.dfr,h.tsz,?_,?_,?_,?_,?_,?_,?_,?_,?_,?_,?_,?_,h.Ylt,h.fr⟩
 ·intro i hi;show lk _ i=_;rw[XV,Bl (fun hm=>by have:=hls i hm;omega)]
 ·intro i hi;show Fg w _ _ (lk _ i) _;rw[XV];split
  ·exact hV _ _ (h.tms i hi)
  ·exact At.top _
 ·intro j b hb;obtain⟨i,b0,hm,h3,rfl,e⟩:=hold hb;have O8:=h.box i b0 h3;cases b0 with
  |st c=>
   obtain⟨b,o,e1,e2,e3⟩:=O8;refine⟨b,o,by show (SK m j).bind β=_;rw[e];exact e1,fun k p hp=>?_,fun k hk=>e3 k (by simpa using hk)⟩
   rw[List.getElem?_map] at hp;cases hc:c[k]? with
   |none=>rw[hc] at hp;cases hp
   |some q=>
    rw[hc] at hp;cases hp;obtain⟨v,hv,hr⟩:=e2 k q hc;exact⟨v,hv,hC _ _ hr⟩
  |ar fz c=>
   have:=V2.step' hA O8;show V2 _ _ _ _ (.ar fz c);rcases this with⟨e1,e2⟩|⟨b,o,e1,e2⟩
   ·exact .inl ⟨by show (SK m j).bind β=_;rw[e];exact e1,e2⟩
   ·exact .inr ⟨b,o,by show (SK m j).bind β=_;rw[e];exact e1,e2⟩
  |mv=>exact trivial
 ·intro j j' b o o' hl Nj hb Jp;obtain⟨i,hm,NN,e⟩:=H0 hl;obtain⟨i',M6,A9w,e'⟩:=H0 Nj;have:=h.inj i i' b o o' NN A9w (by rw[<-e];exact hb) (by rw[<-e'];exact Jp)
  subst this;exact HF h1 hm M6
 ·intro j b o hn hb;cases hj:Fw (N5 m s.hp m) j with
  |none=>exact absurd hj hn
  |some bx=>
   obtain⟨i,b0,_,h3,_,e⟩:=hold hj;exact h.blt i b o (by rw[h3];simp) (by rw[<-e];exact hb)
 ·intro i hi j hj;change j∈Cc (lk _ i) at hj;rw[XV] at hj;split at hj
  ·obtain⟨k,hk,hm⟩:=hrV _ j hj;exact Ru hm (h.wfT i hi k hk)
  ·simp[Cc,Ct,As] at hj
 ·intro j cells hb p hp k hk;obtain⟨i,b0,_,h3,h4,_⟩:=hold hb;cases b0 with
  |st c=>
   cases h4;obtain⟨q,hq,rfl⟩:=List.mem_map.1 hp;obtain⟨k',Pb,hm⟩:=hrC q k hk;exact Ru hm (h.wfB i c h3 q hq k' Pb)
  |ar fz c=>cases h4
  |mv=>cases h4
 ·intro b hb;exact h.ownd b (hX b hb)
 ·intro j bx b o hb hlb hβ1 Cm k hk;obtain⟨i,b0,_,h3,h4,e⟩:=hold hb;subst h4;refine h.rngB i b0 b o h3 ?_ (by rw[<-e];exact hβ1) Cm k ?_
  ·cases b0<;>exact hlb
  ·cases b0 with
   |st c=>simpa [BR,Avk] using hk
   |ar fz c=>exact hk
   |mv=>exact hk
 ·intro i hi;exact⟨Ru (hpn i hi) (h.pin i hi).1,(hβ (hpn i hi)).trans (h.pin i hi).2⟩
 ·intro j c b o hb hβ1 Cm;obtain⟨i,b0,hm,h3,h4,e⟩:=hold hb;cases b0 with
  |st c0=>
   obtain⟨k,rfl,hk⟩:=h.stp i c0 b o h3 (by rw[<-e];exact hβ1) Cm
   exact⟨k,HF h1 hm (hpn k hk),hk⟩
  |ar fz c0=>cases h4
  |mv=>cases h4
 ·intro b hY hb;exact h.Yx b hY (hX b hb)
theorem Zo{m:List (Nat × Nat)}{q:Nat × Nat}{o n:Nat}(h:q∈m):q∈TF m o n:=by
 unfold TF;split
 ·exact h
 ·exact Bn.2 (.inl h)
theorem Om{q:Nat × Nat}{new:Nat}:∀{c:Ad}{j:Nat}{m:List (Nat × Nat)},q∈m->q∈Vg N new c j m
 |[],_,_,h=>h
 |p::c,j,m,h=>by
  unfold Vg;split
  ·rename_i e;cases e
  ·rename_i e;cases e;exact Om (Zo h)
  ·rename_i e;cases e;exact Om h
theorem Abe{q:Nat × Nat}{m:List (Nat × Nat)}{i:Nat}(h:q∈m):q∈EN N s m i:=by
 unfold EN;split
 ·exact Zo h
 ·split
  ·exact h
  ·split
   ·exact Om (Zo h)
   ·exact Zo h
 ·exact Om h
 ·exact h
theorem EX{q:Nat × Nat}:∀{l:Bz}{m:List (Nat × Nat)},q∈m->q∈l.foldl (EN N s) m
 |[],_,h=>h
 |_::l,_,h=>EX (l:=l) (Abe h)
theorem V5{q:Nat × Nat}{m:List (Nat × Nat)}(h:q∈m):∀k,q∈Y8 N s.hp k m
 |0=>h
 |k+1=>by
  unfold Y8;split
  ·exact Om (V5 h k)
  ·exact V5 h k
theorem UN:∀{k i:Nat},i<k->s.hp (D5 N i)≠none->(D5 N i,D5 N i)∈Acu N s.hp k
 |0,_,h,_=>by omega
 |k+1,i,h,hn=>by
  unfold Acu;by_cases e:i=k
  ·subst e
   have:(s.hp (D5 N i)).isSome=true:=by
    cases hq:s.hp (D5 N i) with
    |none=>exact absurd hq hn
    |some b=>rfl
   rw[this];simp
  ·have:=UN (k:=k) (i:=i) (by omega) hn;cases (s.hp (D5 N k)).isSome
   ·exact this
   ·exact Bn.2 (.inl this)
theorem KC(h:Df N w0 X0 Y β s a w){L:Nat}{q:Bool}{K:St->Option R}(hk:NJ N (I7 L N) q s K=some r):∃β' s',K s'=some r/\Df N w0 X0 Y β' s' a w:=by
 unfold NJ at hk;obtain⟨hb,Ez⟩:=Am hk;simp only[Er] at hb
 obtain⟨β2,h2⟩:∃β2,Df N w0 X0 Y β2 (bif q then s else (I7 L N).foldl (OG N) ((I7 L N).foldl (FD N) s)) a w:=by
  cases q
  ·obtain⟨β1,h1⟩:=Sl (fun s β h i=>SJ h i) (I7 L N) h;obtain⟨β2,h2⟩:=Sl (fun s β h i=>WC h i) (I7 L N) h1;exact⟨β2,h2⟩
  ·exact⟨β,h⟩
 obtain⟨β3,h3⟩:=WK h2 hb.1 hb.2 (ls:=I7 L N) (fun i hi=>VH hi) (fun i hi=>EX (V5 (UN (X0.p8 i hi) (h2.pin i hi).1) 8));exact⟨β3,_,Ez,h3⟩
theorem Xl(h:Df N w0 X0 Y β s a w){L:Nat}{K:St->Option R}(hk:DI N L s K=some r):∃β' s',K s'=some r/\Df N w0 X0 Y β' s' a w:=KC h hk
theorem Ac7(h:Df N w0 X0 Y β s a w){L:Nat}{K:St->Option R}(hk:Aie N L s K=some r):∃β' s',K s'=some r/\Df N w0 X0 Y β' s' a w:=KC h hk
end
open Go.RowKit
section
variable {R:Type}{r:R}{P:Program}{N:Nat}{w0:World}{X0:Jw}{Y:Nat->Prop}{C:Gw}{call:Aq}
theorem VF{n:Nat}{F:St->Option R}{s:St}(h:DR n F s=some r):F s=some r:=by
 unfold DR at h;split at h
 ·cases h
 ·exact h
theorem Acv{β:Bt}{s:St}{a:Act}{w:World}(h:Df N w0 X0 Y β s a w){c:Operand}{kt kf:St->Option R}(hk:Aa4 s c kt kf=some r):(a.eval c=.bool true/\kt s=some r)\/(a.eval c=.bool false/\kf s=some r):=by
 unfold Aa4 at hk;split at hk
 ·rename_i d;split at hk
  ·rename_i b ht;have hv:a.eval (.tmp d)=.bool b:=Cl h (x:=.tmp d) ht;cases b
   ·change kf ⟨C7 s.tm d (.sc (.bool false)),s.hp⟩=some r at hk;rw[GK s.tm ht] at hk;exact .inr ⟨hv,hk⟩
   ·change kt ⟨C7 s.tm d (.sc (.bool true)),s.hp⟩=some r at hk;rw[GK s.tm ht] at hk;exact .inl ⟨hv,hk⟩
  ·rename_i ht;have hu:=Dj h (.tmp d);change Fg _ _ _ (s.tm d) _ at hu;rw[ht] at hu;have Lk:At w _ .ub (a.eval (.tmp d)):=hu
   obtain⟨b,hv⟩:∃b,a.eval (.tmp d)=.bool b:=by
    generalize a.eval (.tmp d)=x at Lk;cases Lk with
    |ub b=>exact⟨b,rfl⟩
   obtain⟨h1,h2⟩:=VM hk;cases b
   ·exact .inr ⟨hv,h2⟩
   ·exact .inl ⟨hv,h1⟩
  ·cases hk
 ·exact .inl ⟨rfl,hk⟩
 ·exact .inr ⟨rfl,hk⟩
 ·cases hk
theorem ND{c:Code}{Q:Exit->Act->World->Prop}{F:(St->Option R)->St->Option R}{nm:St->(St->Option R)->Option R}(SM:∀{β s a w} {K:St->Option R},Df N w0 X0 Y β s a w->nm s K=some r->∃β' s',K s'=some r/\Df N w0 X0 Y β' s' a w)(hF:∀{β s a w} {K:St->Option R}{Q':Act->World->Prop},Df N w0 X0 Y β s a w->F K s=some r->(∀s' a' w' β',K s'=some r->Df N w0 X0 Y β' s' a' w'->Q' a' w')->c.wp P (Exit.then Q' Q) a w):
  ∀(n:Nat) {β s a w},Df N w0 X0 Y β s a w->Af0 F nm n s=some r->Code.rounds P c Q n a w
 |0,_,_,_,_,_,hk=>by cases hk
 |n+1,β,s,a,w,h,hk=>by
  rw[rounds_succ];refine hF h hk fun s' a' w' β' Pb h'=>?_;obtain⟨β1,s1,Ez,h1⟩:=SM h' Pb;exact ND SM hF n h1 Ez
theorem Ae7{G:BE}(Nz:Env P G w0 X0)(Eo:∀f args res,call f args=some res->Cx G P f args res)(hm:P.follows .mixedOrders=true){fu:Nat}:
  ∀(c:Code) {ln:Nat} {lx:Nat->Nat} {lr:Nat} {kn:St->Option R} {kx:Nat->St->Option R} {kr:St->Option R} {β:Bt} {s:St} {a:Act} {w:World} {Q:Exit->Act->World->Prop},Df N w0 X0 Y β s a w ->
   Mo C P fu N call c ln lx lr kn kx kr s=some r->(∀s' a' w' β',kn s'=some r->Df N w0 X0 Y β' s' a' w'->Q .normal a' w') ->
   (∀id s' a' w' β',kx id s'=some r->Df N w0 X0 Y β' s' a' w'->Q (.exit id) a' w')->(∀s' a' w' β',kr s'=some r->Df N w0 X0 Y β' s' a' w'->Q .ret a' w')->c.wp P Q a w:=by
 intro c
 induction c with
 |skip=>intro ln lx lr kn kx kr β s a w Q h hk hn hx hr;exact wp_skip (hn s a w β hk h)
 |region id ops draw=>
  intro ln lx lr kn kx kr β s a w Q h hk hn hx hr;unfold Mo at hk;cases draw
  ·simp only[KV,RH,cond_false] at hk;exact YN h Nz Eo hk hn
  ·simp only[KV,Aor,WU,cond_true] at hk;cases hb:PE C P ops<;>rw[hb] at hk
   ·obtain⟨Jp,Ez⟩:=Am (show Ar _ _=some r from hk);exact Adq h Nz Eo hm Jp Ez hn
   ·exact XS h Nz Eo hm hb hk hn
 |seq c1 c2 ih1 ih2=>
  intro ln lx lr kn kx kr β s a w Q h hk hn hx hr;unfold Mo at hk
  refine wp_seq (ih1 h hk (fun s' a' w' β' Pb h'=>by
    cases hc:Ads P c1 c2
    ·rw[hc] at Pb;exact ih2 h' Pb hn hx hr
    ·rw[hc] at Pb;cases hq:Vb c1 c2
     ·rw[hq] at Pb;obtain⟨β1,s1,Ez,h1⟩:=Xl h' (show DI _ _ _ _=some r from Pb);exact ih2 h1 (VF Ez) hn hx hr
     ·rw[hq] at Pb;obtain⟨β1,s1,Ez,h1⟩:=Ac7 h' (show Aie _ _ _ _=some r from Pb);exact ih2 h1 (VF Ez) hn hx hr) (fun id s' a' w' β' Pb h'=>hx id s' a' w' β' Pb h') (fun s' a' w' β' Pb h'=>hr s' a' w' β' Pb h'))
 |cond c c1 c2 ih1 ih2=>
  intro ln lx lr kn kx kr β s a w Q h hk hn hx hr;unfold Mo at hk;rcases Acv h hk with⟨hc,Ez⟩|⟨hc,Ez⟩
  ·exact wp_cond_true hc (ih1 h Ez hn hx hr)
  ·exact wp_cond_false hc (ih2 h Ez hn hx hr)
 |block id c ih=>
  intro ln lx lr kn kx kr β s a w Q h hk hn hx hr;unfold Mo at hk;refine wp_block (ih h hk (fun s' a' w' β' Pb h'=>hn s' a' w' β' Pb h') (fun j s' a' w' β' Pb h'=>?_) (fun s' a' w' β' Pb h'=>hr s' a' w' β' Pb h'));show (if j=id then _ else _);by_cases e:j=id
  ·subst e;rw[Cy rfl];rw[Qi] at Pb;exact hn s' a' w' β' Pb h'
  ·rw[Bl e]
   have:Nat.beq j id=false:=by
    cases hb:Nat.beq j id
    ·rfl
    ·exact absurd (C6 hb) e
   rw[this] at Pb;exact hx j s' a' w' β' Pb h'
 |loop c ih=>
  intro ln lx lr kn kx kr β s a w Q h hk hn hx hr;unfold Mo at hk;obtain⟨β1,s1,Ez,h1⟩:=Xl h hk;refine wp_loop_rounds fu (ND (fun h hk=>Xl h hk) (fun h hk hQ=>?_) fu h1 Ez);exact ih h hk hQ (fun id s' a' w' β' Pb h'=>hx id s' a' w' β' Pb h') (fun s' a' w' β' Pb h'=>hr s' a' w' β' Pb h')
 |«exit» id=>intro ln lx lr kn kx kr β s a w Q h hk hn hx hr;exact wp_exit (hx id s a w β hk h)
 |ret=>intro ln lx lr kn kx kr β s a w Q h hk hn hx hr;exact wp_ret (hr s a w β hk h)
 |_=>intro ln lx lr kn kx kr β s a w Q h hk hn hx hr;cases hk
end
open Go.RowKit
theorem Qf:∀{l:List (Nat × B2)} {i:Nat}{b:B2},Fw l i=some b->(i,b)∈l
 |[],_,_,h=>by cases h
 |(j,c)::l,i,b,h=>by
  unfold Fw at h;cases hb:Nat.beq i j<;>rw[hb] at h
  ·exact Uf _ (Qf h)
  ·have:=C6 hb;cases h;rw[this];simp
theorem WM:∀{l:List (Nat × B2)},(l.map (·.1)).Nodup->∀{i b},(i,b)∈l->Fw l i=some b
 |[],_,_,_,h=>by cases h
 |(j,c)::l,hn,i,b,h=>by
  simp only[U7,List.nodup_cons] at hn;unfold Fw;rcases List.mem_cons.1 h with e|h
  ·cases e;simp only[Qi,cond_true]
  ·have:Nat.beq i j=false:=by
    cases hb:Nat.beq i j
    ·rfl
    ·exact absurd (C6 hb ▸ List.mem_map.2 ⟨_,h,rfl⟩) hn.1
   simp only[this,cond_false];exact WM hn.2 h
section
variable {R:Type}{r:R}{P:Program}{N:Nat}{w0:World}{X0:Jw}{Y:Nat->Prop}{β β':Bt}{s:St}{a:Act}{w w':World}{A:Nat->Prop}
theorem Apn{id:Nat}{t:CT}{p:PV}{K:PV->List (Nat × B2)->Option R}(hk:Aqu id t p K=some r):
  (∃c,K c []=some r/\BG c/\∀w A q u,Ht w A q p u->At w A c u)\/∃es n cc,p=.own es n cc/\K (.view id es 0 n) [(id,.ar false cc)]=some r:=by
 have tree:∀t',(IJ t' p fun c=>K c [])=some r->∃c,K c []=some r/\BG c/\∀w A q u,Ht w A q p u->At w A c u:=by
  intro t' hk;obtain⟨c,hk,hT,NV,hv⟩:=Qk hk;refine⟨c,hk,hT,fun w A q u h=>(hv w A (fun _=>none) u ?_).1⟩;cases p<;>first|exact h|exact NV.elim
 unfold Aqu at hk;cases t with
 |sl es=>
  dsimp only at hk;split at hk
  ·rename_i es' n c;cases hb:Nat.beq es' es<;>rw[hb] at hk
   ·cases hk
   ·have:=C6 hb;subst this;exact .inr ⟨_,_,_,rfl,hk⟩
  ·exact .inl (tree (.sl es) hk)
 |int k=>exact .inl (tree _ hk)
 |bool=>exact .inl (tree _ hk)
 |str=>exact .inl (tree _ hk)
 |any=>exact .inl (tree _ hk)
theorem Ut:∀{ts:List CT}{id:Nat}{ps:Ad}{K:Ad->List (Nat × B2)->Option R},KJ N id ts ps K=some r ->
  ∃cs bs,∃qs:List (Nat × Nat),K cs bs=some r/\cs.length=ps.length/\ps.length=ts.length/\bs.map (·.1)=qs.map (·.1)/\(∀q∈qs,∀q'∈qs,q.2=q'.2->q.1=q'.1) /\
   (∀i bx,(i,bx)∈bs->∃c,bx=.ar false c)/\(∀c∈cs,RP c)/\(∀c∈cs,∀i∈As c,∃bx,(i,bx)∈bs) /\
   ∀(w:World) (A:Nat->Prop) (own β':Bt) (j0:Nat) (us:List Value),(∀q∈qs,β' q.1=own (j0+q.2))->Fs w A own j0 ps us->Be (Cd w A β') cs us/\∀i bx,(i,bx)∈bs->V2 w A β' i bx
 |[],id,ps,K,hk=>by
  obtain⟨rfl,hk⟩:=Eg hk;refine⟨[],[],[],hk,rfl,rfl,rfl,by simp,by simp,by simp,by simp,fun w A own β' j0 us _ h=>⟨?_,by simp⟩⟩;cases us with
  |nil=>trivial
  |cons u us=>exact h.elim
 |t::ts,id,ps,K,hk=>by
  unfold KJ at hk;obtain⟨p,ps',LH,Ez⟩:=Bf hk;subst LH;rcases Apn Ez with⟨c,Fu,hT,hv⟩|⟨es,n,cc,rfl,Fu⟩
  ·obtain⟨cs,bs,qs,Pa,hl,Wd,hb,Oc,Fv,hF,Ir,Wx⟩:=Ut Fu;refine⟨c::cs,bs,qs.map (fun q=>(q.1,q.2+1)),Pa,by simp[hl],by simp[Wd],by rw[hb];simp,?_,Fv,?_,?_,fun w A own β' j0 us hβ ho=>?_⟩
   ·intro q hq q' Gv e;obtain⟨q0,BK,rfl⟩:=List.mem_map.1 hq;obtain⟨q1,Lo,rfl⟩:=List.mem_map.1 Gv;exact Oc q0 BK q1 Lo (by simp only at e;omega)
   ·intro y hy;rcases List.mem_cons.1 hy with rfl|hy
    ·exact Vu hT
    ·exact hF y hy
   ·intro y hy i hi;rcases List.mem_cons.1 hy with rfl|hy
    ·rw[Jh hT] at hi;cases hi
    ·exact Ir y hy i hi
   ·cases us with
    |nil=>exact ho.elim
    |cons u us=>
     obtain⟨h1,h2⟩:=Wx w A own β' (j0+1) us (fun q hq=>by rw[hβ _ (List.mem_map_of_mem hq)];congr 1;simp only;omega) ho.2
     exact⟨⟨Apb (hv w A _ u ho.1),h1⟩,h2⟩
  ·obtain⟨cs,bs,qs,Pa,hl,Wd,hb,Oc,Fv,hF,Ir,Wx⟩:=Ut Fu;refine⟨_::cs,(id,.ar false cc)::bs,(id,0)::qs.map (fun q=>(q.1,q.2+1)),Pa,by simp[hl],by simp[Wd],by simp only[U7,hb];simp,?_,?_,?_,?_,fun w A own β' j0 us hβ ho=>?_⟩
   ·intro q hq q' Gv e;rcases List.mem_cons.1 hq with rfl|hq
    ·rcases List.mem_cons.1 Gv with rfl|Gv
     ·rfl
     ·obtain⟨q0,BK,rfl⟩:=List.mem_map.1 Gv;simp only at e;omega
    ·obtain⟨q0,BK,rfl⟩:=List.mem_map.1 hq;rcases List.mem_cons.1 Gv with rfl|Gv
     ·simp only at e;omega
     ·obtain⟨q1,Lo,rfl⟩:=List.mem_map.1 Gv;exact Oc q0 BK q1 Lo (by simp only at e;omega)
   ·intro i bx hm;rcases List.mem_cons.1 hm with e|hm
    ·cases e;exact⟨cc,rfl⟩
    ·exact Fv i bx hm
   ·intro y hy;rcases List.mem_cons.1 hy with rfl|hy
    ·trivial
    ·exact hF y hy
   ·intro y hy i hi;rcases List.mem_cons.1 hy with rfl|hy
    ·simp only[As,Sc] at hi;subst hi;exact⟨_,CG⟩
    ·obtain⟨bx,O8⟩:=Ir y hy i hi;exact⟨bx,Uf _ O8⟩
   ·cases us with
    |nil=>exact ho.elim
    |cons u us=>
     obtain⟨h1,h2⟩:=Wx w A own β' (j0+1) us (fun q hq=>by rw[hβ _ (Uf _ (List.mem_map_of_mem hq))];congr 1;simp only;omega) ho.2
     have h0:=hβ (id,0) CG;simp only[YI] at h0;refine⟨⟨?_,h1⟩,fun i bx hm=>?_⟩
     ·rcases ho.1 with⟨h3,rfl,_,h5⟩|⟨b,ob,cap,h3,h4,h5,h6,h7,_⟩
      ·exact .inl ⟨h0.trans h3,rfl,rfl,h5⟩
      ·exact .inr ⟨b,ob,ob,cap,h0.trans h3,h4,.inl rfl,h5,h6,h7⟩
     ·rcases List.mem_cons.1 hm with e|hm
      ·cases e;exact DX ho.1 h0
      ·exact h2 i bx hm
theorem Avz{i:Nat}{t:TypeId}{p:PV}{K:PV->List (Nat × B2)->Option R}(hk:inK P N i t p K=some r):
  ∃v bs,∃qs:List (Nat × Nat),K v bs=some r/\bs.map (·.1)=qs.map (·.1)/\(∀q∈qs,∀q'∈qs,q.2=q'.2->q.1=q'.1)/\(GT p=true->(D5 N i,0)∈qs/\i<8) /\
   (∀id bx,(id,bx)∈bs->Du (some bx)/\∀c,bx=.st c->id=D5 N i/\GT p=true)/\(∀id∈Cc v,∃bx,(id,bx)∈bs)/\HB bs /\
   ∀(w:World) (A:Nat->Prop) (bt β':Bt) (u:Value),(∀q∈qs,β' q.1=bt q.2)->Abz w A bt p u->Fg w A β' v u/\(∀id bx,(id,bx)∈bs->V2 w A β' id bx) /\
    ∀id bx b o,(id,bx)∈bs->β' id=some (b,o)->∀j,BR bx o j->Azq bt p b j:=by
 have owns:∀{bs:List (Nat × B2)} {qs:List (Nat × Nat)},bs.map (·.1)=qs.map (·.1)->(∀i bx,(i,bx)∈bs->∃c,bx=.ar false c)->∀{bt β':Bt},(∀q∈qs,β' q.1=bt (1+q.2))->∀id bx b o,(id,bx)∈bs->β' id=some (b,o)->∀j,BR bx o j->∃k o',bt (k+1)=some (b,o')/\o'<=j:=by
  intro bs qs hb Fv bt β' hβ id bx b o hm YW j hj;have:id∈qs.map (·.1):=by rw[<-hb];exact List.mem_map.2 ⟨_,hm,rfl⟩
  obtain⟨q,hq,rfl⟩:=List.mem_map.1 this;obtain⟨c,rfl⟩:=Fv _ _ hm;rw[hβ q hq,Nat.add_comm] at YW;exact⟨q.2,o,YW,hj⟩
 have nost:∀{bs:List (Nat × B2)},(∀i bx,(i,bx)∈bs->∃c,bx=.ar false c)->HB bs:=by
  intro bs Fv id cells hm;obtain⟨c,e⟩:=Fv id _ hm;cases e
 unfold inK at hk;split at hk
 ·rename_i e he;obtain⟨ps,rfl,Ez⟩:=VU hk;obtain⟨hi8,Fu⟩:=Am Ez;have hi8:i<8:=Nat.lt_of_succ_le (Oj hi8);obtain⟨cs,bs,qs,Pa,hl,Wd,hb,Oc,Fv,hF,Ir,hv⟩:=Ut Fu;refine⟨_,_,(D5 N i,0)::qs.map (fun q=>(q.1,q.2+1)),Pa,by simp only[U7,hb];simp,?_,fun _=>⟨CG,hi8⟩,?_,?_,?_,fun w A bt β' u hβ hp=>?_⟩
  ·intro q hq q' Gv e;rcases List.mem_cons.1 hq with rfl|hq
   ·rcases List.mem_cons.1 Gv with rfl|Gv
    ·rfl
    ·obtain⟨q0,BK,rfl⟩:=List.mem_map.1 Gv;simp only at e;omega
   ·obtain⟨q0,BK,rfl⟩:=List.mem_map.1 hq;rcases List.mem_cons.1 Gv with rfl|Gv
    ·simp only at e;omega
    ·obtain⟨q1,Lo,rfl⟩:=List.mem_map.1 Gv;exact Oc q0 BK q1 Lo (by simp only at e;omega)
  ·intro id bx hm;rcases List.mem_cons.1 hm with e|hm
   ·cases e;exact⟨trivial,fun _ _=>⟨rfl,rfl⟩⟩
   ·obtain⟨c,rfl⟩:=Fv id bx hm;exact⟨trivial,fun _ e=>by cases e⟩
  ·intro id Bx;simp only[Cc,Ct,As,Sc] at Bx;subst Bx;exact⟨_,CG⟩
  ·intro id cells hm c hc k hk;rcases List.mem_cons.1 hm with e|hm
   ·cases e;obtain⟨bx,O8⟩:=Ir c hc k hk;exact⟨bx,Uf _ O8⟩
   ·obtain⟨c,e⟩:=Fv id _ hm;cases e
  ·obtain⟨b,o,h1,rfl,_,vs,h3,h4,h5⟩:=hp;have h0:=hβ (D5 N i,0) CG;simp only at h0;have hβ1:∀q∈qs,β' q.1=bt (1+q.2):=fun q hq=>by rw[hβ _ (Uf _ (List.mem_map_of_mem hq)),Nat.add_comm]
   obtain⟨h6,h7⟩:=hv w A bt β' 1 vs hβ1 h3;refine⟨⟨b,o,h0.trans h1,by simp⟩,fun id bx hm=>?_,fun id bx b' o' hm Jp j hj=>?_⟩
   ·rcases List.mem_cons.1 hm with e|hm
    ·cases e;refine⟨b,o,h0.trans h1,fun k c hk=>?_,fun k hk=>h5 k (by omega)⟩;obtain⟨v,hv,hcr⟩:=h6.get hk;exact⟨v,h4 k v hv,hcr⟩
    ·exact h7 id bx hm
   ·rcases List.mem_cons.1 hm with e|hm
    ·cases e;rw[h0] at Jp;have hj:o'<=j/\j<o'+cs.length:=hj;exact .inr ⟨o',ps,Jp,hj.1,.inl ⟨rfl,by omega⟩⟩
    ·exact .inl (owns hb Fv hβ1 id bx b' o' hm Jp j hj)
 ·split at hk
  ·rename_i ps;obtain⟨e,he,Ez⟩:=Cs hk;obtain⟨hi8,Fu⟩:=Am Ez;have hi8:i<8:=Nat.lt_of_succ_le (Oj hi8);obtain⟨q,qr,hq,Pa⟩:=Bf Fu;subst hq;obtain⟨HQ,Zl⟩:=Eg Pa;subst HQ;unfold Lg at Zl;split at Zl
   ·rename_i es' n c;cases hb:Nat.beq es' (A7 P e)<;>rw[hb] at Zl
    ·cases Zl
    ·have AB:=C6 hb;subst AB;refine⟨_,_,[(D5 N i,0)],Zl,rfl,by simp,fun _=>⟨by simp,hi8⟩,?_,?_,?_,fun w A bt β' u hβ hp=>?_⟩
     ·intro id bx hm;simp only[Sc] at hm;cases hm;exact⟨trivial,fun _ e=>by cases e⟩
     ·intro id Bx;simp only[Cc,Ct,As,Sc] at Bx;subst Bx;exact⟨_,CG⟩
     ·intro id cells hm;simp only[Sc] at hm;cases hm
     ·obtain⟨es,n',c',h1,h2⟩:=hp;cases h1;have h0:=hβ (D5 N i,0) CG;simp only at h0;refine⟨?_,fun id bx hm=>?_,fun id bx b' o' hm Jp j hj=>?_⟩
      ·rcases h2 with⟨h3,rfl,_,h5⟩|⟨b,ob,cap,h3,h4,h5,h6,h7,_⟩
       ·exact .inl ⟨h0.trans h3,rfl,rfl,h5⟩
       ·exact .inr ⟨b,ob,ob,cap,h0.trans h3,h4,.inl rfl,h5,h6,h7⟩
      ·simp only[Sc] at hm;cases hm;exact DX h2 h0
      ·simp only[Sc] at hm;cases hm;rw[h0] at Jp;exact .inr ⟨o',_,Jp,hj,.inr rfl⟩
   ·cases Zl
  ·rename_i hnt;cases Hc:Cj P t<;>rw[Hc] at hk
   ·simp only[cond_false] at hk;obtain⟨cs,bs,qs,Pa,hl,Wd,hb,Oc,Fv,hF,Ir,hv⟩:=Ut hk;obtain⟨c,cs',KL,Zl⟩:=Bf Pa;subst KL;obtain⟨HQ,hk5⟩:=Eg Zl;subst HQ;have hFc:=hF c (by simp)
    have hnL:GT p=false\/∃ps,p=.pbox ps:=by
     cases p<;>first|exact .inl rfl|exact .inr ⟨_,rfl⟩|exact absurd rfl (hnt _)
    have hpb:∀ps,p ≠ .pbox ps:=by
     rintro ps rfl
     cases hts:J7 P t with
     |nil=>rw[hts] at Wd;simp at Wd
     |cons t' ts=>
      rw[hts] at hk;unfold KJ Aqu at hk;obtain⟨q,qs1,hq,Ez⟩:=Bf hk;cases hq;cases t'<;>simp[IJ,Xd,Bc,Bu,Bv,fnK] at Ez
    have hpa:∀ps,p ≠ .agg ps:=by
     rintro ps rfl
     cases hts:J7 P t with
     |nil=>rw[hts] at Wd;simp at Wd
     |cons t' ts=>
      rw[hts] at hk;unfold KJ Aqu at hk;obtain⟨q,qs1,hq,Ez⟩:=Bf hk;cases hq;cases t'<;>simp[IJ,Xd,Bc,Bu,Bv,fnK] at Ez
    have hnL:GT p=false:=hnL.elim id (fun ⟨ps,e⟩=>absurd e (hpb ps));have AR:Cc c=As c:=by cases c<;>first|rfl|exact hFc.elim
    refine⟨c,bs,qs.map (fun q=>(q.1,q.2+1)),hk5,by rw[hb];simp,?_,(fun h=>by rw[hnL] at h;cases h),?_,fun id Bx=>Ir c (by simp) id (by rw[<-AR];exact Bx),nost Fv,fun w A bt β' u hβ hp=>?_⟩
    ·intro q hq q' Gv e;obtain⟨q0,BK,rfl⟩:=List.mem_map.1 hq;obtain⟨q1,Lo,rfl⟩:=List.mem_map.1 Gv;exact Oc q0 BK q1 Lo (by simp only at e;omega)
    ·intro id bx hm;obtain⟨c,rfl⟩:=Fv id bx hm;exact⟨trivial,fun _ e=>by cases e⟩
    ·have Dr:Ht w A (bt 1) p u:=by cases p<;>first|exact hp.2|exact absurd rfl (hpa _)|exact absurd rfl (hpb _)|exact absurd rfl (hnt _)
     have hβ1:∀q∈qs,β' q.1=bt (1+q.2):=fun q hq=>by rw[hβ _ (List.mem_map_of_mem hq),Nat.add_comm]
     obtain⟨h6,h7⟩:=hv w A bt β' 1 [u] hβ1 ⟨Dr,trivial⟩;refine⟨?_,h7,fun id bx b' o' hm Jp j hj=>.inl (owns hb Fv hβ1 id bx b' o' hm Jp j hj)⟩;have h8:=h6.1;cases c<;>first|exact h8|exact hFc.elim
   ·simp only[cond_true] at hk;obtain⟨ps,hp0,Ez⟩:=Iw hk;subst hp0;obtain⟨cs,bs,qs,Pa,hl,Wd,hb,Oc,Fv,hF,Ir,hv⟩:=Ut Ez;refine⟨_,bs,qs.map (fun q=>(q.1,q.2+1)),Pa,by rw[hb];simp,?_,(fun h=>by cases h),?_,fun id Bx=>?_,nost Fv,fun w A bt β' u hβ hp=>?_⟩
    ·intro q hq q' Gv e;obtain⟨q0,BK,rfl⟩:=List.mem_map.1 hq;obtain⟨q1,Lo,rfl⟩:=List.mem_map.1 Gv;exact Oc q0 BK q1 Lo (by simp only at e;omega)
    ·intro id bx hm;obtain⟨c,rfl⟩:=Fv id bx hm;exact⟨trivial,fun _ e=>by cases e⟩
    ·obtain⟨c,hc,hi⟩:=List.mem_flatMap.1 (show id∈cs.flatMap As from Bx);exact Ir c hc id hi
    ·obtain⟨vs,h1,_,h3⟩:=hp;have hβ1:∀q∈qs,β' q.1=bt (1+q.2):=fun q hq=>by rw[hβ _ (List.mem_map_of_mem hq),Nat.add_comm]
     obtain⟨h6,h7⟩:=hv w A bt β' 1 vs hβ1 h3;exact⟨⟨vs,h1,h6⟩,h7,fun id bx b' o' hm Jp j hj=>.inl (owns hb Fv hβ1 id bx b' o' hm Jp j hj)⟩
theorem Aay:∀{ts:List TypeId}{i:Nat}{ps:Ad}{K:List (Nat × PV)->List (Nat × B2)->Option R},Aj3 P N i ts ps K=some r ->
  ∃tms bs,∃qs:List (Nat × Nat × Nat),K tms bs=some r/\bs.map (·.1)=qs.map (·.1)/\(∀q∈qs,i<=q.2.1)/\(∀q∈qs,∀q'∈qs,q.2=q'.2->q.1=q'.1) /\
   (∀k p,ps[k]?=some p->GT p=true->(D5 N (i+k),i+k,0)∈qs/\i+k<8)/\(∀id bx,(id,bx)∈bs->Du (some bx)/\∀c,bx=.st c->∃k p,ps[k]?=some p/\GT p=true/\id=D5 N (i+k)) /\
   (∀j,∀id∈Cc (lk tms j),∃bx,(id,bx)∈bs)/\HB bs /\
   ∀(w:World) (A:Nat->Prop) (bt:GQ) (β':Bt) (us:List Value),(∀q∈qs,β' q.1=bt q.2.1 q.2.2)->N9 w A bt i ps us ->
    (∀j,(∃u,i<=j/\us[j-i]?=some u/\Fg w A β' (lk tms j) u)\/(lk tms j=.top/\(i<=j->us[j-i]?=none)))/\(∀id bx,(id,bx)∈bs->V2 w A β' id bx) /\
    ∀id bx b o,(id,bx)∈bs->β' id=some (b,o)->∀j,BR bx o j->∃k p,ps[k]?=some p/\Azq (bt (i+k)) p b j
 |[],i,ps,K,hk=>by
  obtain⟨LH,hk⟩:=Eg hk;subst LH;refine⟨[],[],[],hk,rfl,by simp,by simp,by simp,by simp,(fun j id Bx=>by cases Bx),(by intro i cells hm;cases hm),fun w A bt β' us _ h=>?_⟩
  cases us with
  |nil=>exact⟨fun j=>.inr ⟨rfl,fun _=>by simp⟩,by simp,by simp⟩
  |cons u us=>exact h.elim
 |t::ts,i,ps,K,hk=>by
  unfold Aj3 at hk;obtain⟨p,ps',LH,Ez⟩:=Bf hk;subst LH;obtain⟨v,bs,qs,Fu,hb,hqi,NY,O8,hr,hri,hv⟩:=Avz Ez;obtain⟨tms,bs',qs',Pa,Jp,Azh,Bbz,A3p,Bac,hr',A95,S0⟩:=Aay Fu;refine⟨(i,v)::tms,bs++bs',qs.map (fun q=>(q.1,i,q.2))++qs',Pa,by simp only[List.map_append,hb,Jp];simp,?_,?_,?_,?_,?_,?_,fun w A bt β' us hβ hp=>?_⟩
  ·intro q hq;rcases Bn.1 hq with hq|hq
   ·obtain⟨q0,BK,rfl⟩:=List.mem_map.1 hq;exact Cn _
   ·have:=Azh q hq;omega
  ·intro q hq q' Gv e;rcases Bn.1 hq with hq|hq
   ·obtain⟨q0,BK,rfl⟩:=List.mem_map.1 hq;rcases Bn.1 Gv with Gv|Gv
    ·obtain⟨q1,Lo,rfl⟩:=List.mem_map.1 Gv;simp only[Prod.mk.injEq,true_and] at e;exact hqi q0 BK q1 Lo e
    ·have:=Azh q' Gv;rw[<-e] at this;simp only at this;omega
   ·have h5:=Azh q hq;rcases Bn.1 Gv with Gv|Gv
    ·obtain⟨q1,Lo,rfl⟩:=List.mem_map.1 Gv;rw[e] at h5;simp only at h5;omega
    ·exact Bbz q hq q' Gv e
  ·intro k p' Pb hL;cases k with
   |zero=>
    simp only[List.getElem?_cons_zero,Option.some.injEq] at Pb;subst Pb;obtain⟨h1,h2⟩:=NY hL;exact⟨Bn.2 (.inl (List.mem_map.2 ⟨_,h1,rfl⟩)),h2⟩
   |succ k=>
    obtain⟨h1,h2⟩:=A3p k p' (by simpa using Pb) hL;rw[show i+1+k=i+(k+1) by omega] at h1 h2;exact⟨Bn.2 (.inr h1),h2⟩
  ·intro id bx hm;rcases Bn.1 hm with hm|hm
   ·obtain⟨h1,h2⟩:=O8 id bx hm;exact⟨h1,fun c hc=>⟨0,p,rfl,(h2 c hc).2,(h2 c hc).1⟩⟩
   ·obtain⟨h1,h2⟩:=Bac id bx hm;refine⟨h1,fun c hc=>?_⟩;obtain⟨k,p',h3,h4,h5⟩:=h2 c hc;exact⟨k+1,p',by simpa using h3,h4,by rw[h5,show i+1+k=i+(k+1) by omega]⟩
  ·intro j id Bx;unfold lk at Bx;cases hbq:Nat.beq j i<;>rw[hbq] at Bx
   ·obtain⟨bx,h1⟩:=hr' j id Bx;exact⟨bx,Bn.2 (.inr h1)⟩
   ·obtain⟨bx,h1⟩:=hr id Bx;exact⟨bx,Bn.2 (.inl h1)⟩
  ·intro id cells hm c hc k hk;rcases Bn.1 hm with hm|hm
   ·obtain⟨bx,h1⟩:=hri id cells hm c hc k hk;exact⟨bx,Bn.2 (.inl h1)⟩
   ·obtain⟨bx,h1⟩:=A95 id cells hm c hc k hk;exact⟨bx,Bn.2 (.inr h1)⟩
  ·cases us with
   |nil=>exact hp.elim
   |cons u us=>
    obtain⟨h1,h2,h3⟩:=hv w A (bt i) β' u (fun q hq=>hβ _ (Bn.2 (.inl (List.mem_map_of_mem hq)))) hp.1;obtain⟨XB,h2',h3'⟩:=S0 w A bt β' us (fun q hq=>hβ q (Bn.2 (.inr hq))) hp.2;refine⟨fun j=>?_,fun id bx hm=>?_,fun id bx b o hm YW j hj=>?_⟩
    ·unfold lk;cases hbq:Nat.beq j i
     ·have G6:=Qm hbq;simp only[cond_false];rcases XB j with⟨u',h4,h5,h6⟩|⟨h4,h5⟩
      ·refine .inl ⟨u',by omega,?_,h6⟩;rw[show j-i=(j-(i+1))+1 by omega]
       simpa using h5
      ·refine .inr ⟨h4,fun hij=>?_⟩;rw[show j-i=(j-(i+1))+1 by omega]
       simpa using h5 (by omega)
     ·have:=C6 hbq;subst this;exact .inl ⟨u,Cn _,by simp,h1⟩
    ·rcases Bn.1 hm with hm|hm
     ·exact h2 id bx hm
     ·exact h2' id bx hm
    ·rcases Bn.1 hm with hm|hm
     ·exact⟨0,p,rfl,h3 id bx b o hm YW j hj⟩
     ·obtain⟨k,p',h4,h5⟩:=h3' id bx b o hm YW j hj;exact⟨k+1,p',by simpa using h4,by rw[show i+(k+1)=i+1+k by omega];exact h5⟩
def Afl(bt:GQ)(args:Ad)(h8:∀k p,args[k]?=some p->GT p=true->k<8):Jw:=
 ⟨BtX bt,QN bt args,fun i=>∃p,args[i]?=some p/\GT p=true,fun i=>bt i 0,fun i ⟨p,h1,h2⟩=>h8 i p h1 h2⟩
theorem Akd{ts:List TypeId}{args:Ad}{us:List Value}{bt:GQ}{K:List (Nat × PV)->List (Nat × B2)->Option R}(DH:Ins w Y bt args us)(hk:Aj3 P N 0 ts args K=some r):
  ∃tms bs,K tms bs=some r/\(B6 (fun _=>none) bs=true->us.length<=N->∃(h8:∀k p,args[k]?=some p->GT p=true->k<8),∃β0,
   Df N w (Afl bt args h8) Y β0 ⟨lk tms,Fw bs⟩ { tmps:=us.toArray++Array.replicate (N-us.toArray.size) undef,defers:=[] } w):=by
 obtain⟨tms,bs,qs,Ez,hb,BK,hqi,NY,O8,hr,hri,hv⟩:=Aay hk;refine⟨tms,bs,Ez,fun Tk hN=>?_⟩;have Afv:=Vd Tk
 have h8:∀k p,args[k]?=some p->GT p=true->k<8:=fun k p h1 h2=>by
  have:=(NY k p h1 h2).2;omega
 have RD:(qs.map (·.1)).Nodup:=by rw[<-hb];exact Afv
 obtain⟨β0,hβ0⟩:∃β0:Bt,∀q∈qs,β0 q.1=bt q.2.1 q.2.2:=by
  have:∀(l:List (Nat × Nat × Nat)),(l.map (·.1)).Nodup->∃β0:Bt,∀q∈l,β0 q.1=bt q.2.1 q.2.2:=by
   intro l
   induction l with
   |nil=>intro _;exact⟨fun _=>none,by simp⟩
   |cons q l ih=>
    intro hn;simp only[U7,List.nodup_cons] at hn;obtain⟨b1,h1⟩:=ih hn.2;refine⟨C7 b1 q.1 (bt q.2.1 q.2.2),fun q' Gv=>?_⟩;rcases List.mem_cons.1 Gv with rfl|Gv
    ·exact An _ _ _
    ·have G6:q'.1≠q.1:=fun e=>hn.1 (by rw[<-e];exact List.mem_map.2 ⟨q',Gv,rfl⟩)
     rw[Ak _ _ G6];exact h1 q' Gv
  exact this qs RD
 refine⟨h8,β0,?_⟩;obtain⟨hs,hbr,hL⟩:=hv w _ bt β0 us hβ0 DH.args
 have hqm:∀id bx,(id,bx)∈bs->∃ik,(id,ik)∈qs/\β0 id=bt ik.1 ik.2:=by
  intro id bx hm;have:id∈qs.map (·.1):=by rw[<-hb];exact List.mem_map.2 ⟨_,hm,rfl⟩
  obtain⟨q,hq,rfl⟩:=List.mem_map.1 this;exact⟨q.2,hq,hβ0 q hq⟩
 have hX:∀b,ZM (Fw bs) β0 b->BtX bt b:=by
  rintro b ⟨id,o,hl,hβ⟩
  cases hq:Fw bs id with
  |none=>rw[hq] at hl;exact hl.elim
  |some bx=>
   obtain⟨ik,_,h2⟩:=hqm id bx (Qf hq);rw[h2] at hβ;exact⟨_,_,_,hβ⟩
 have hA:∀b,Dt (Fw bs) β0 Y b->BtX bt b\/Y b:=fun b hb=>hb.imp (hX b) id;have Aun:∀{p:PV} {u:Value},Fg w (fun b=>BtX bt b\/Y b) β0 p u->Fg w (Dt (Fw bs) β0 Y) β0 p u:=fun h=>h.step (Cq.refl _ _) (fun b _=>hA b) (fun _ _=>rfl);refine⟨rfl,by simp;omega,fun i hi=>?_,fun i hi=>?_,?_,?_,?_,fun i hi id Bx=>?_,?_,fun b hb=>.inl (hX b hb),?_,?_,?_,fun b hY hXb=>DH.Yx b hY (hX b hXb),DH.Ylt,⟨rfl,rfl,rfl,Cq.refl _ _,fun _ _ _ _=>⟨rfl,rfl⟩⟩⟩
 ·rcases hs i with⟨u,_,h,_⟩|⟨h,_⟩
  ·rw[Nat.sub_zero,List.getElem?_eq_none (by omega)] at h;cases h
  ·exact h
 ·rcases hs i with⟨u,_,h,hv⟩|⟨h,h'⟩
  ·rw[Nat.sub_zero] at h
   have Cm:i<us.length:=by
    rcases Id i us.length with h'|h'
    ·exact h'
    ·rw[List.getElem?_eq_none h'] at h;cases h
   have:(us.toArray++Array.replicate (N-us.toArray.size) undef).getD i undef=u:=by
    rw[Array.getD_eq_getD_getElem?,Array.getElem?_append_left (by simpa using Cm)];simp[h]
   show Fg w _ _ _ ((us.toArray++Array.replicate (N-us.toArray.size) undef).getD i undef);rw[this];exact Aun hv
  ·show Fg w _ _ (lk tms i) _;rw[h];exact At.top _
 ·intro id bx hq;exact (hbr id bx (Qf hq)).step' hA
 ·intro id id' b o o' hl Nj hβ hβ';cases hq:Fw bs id with
  |none=>change Du (Fw bs id) at hl;rw[hq] at hl;exact hl.elim
  |some bx=>
   cases Gv:Fw bs id' with
   |none=>change Du (Fw bs id') at Nj;rw[Gv] at Nj;exact Nj.elim
   |some bx'=>
    obtain⟨ik,h1,h2⟩:=hqm id bx (Qf hq);obtain⟨ik',XB,h2'⟩:=hqm id' bx' (Qf Gv);rw[h2] at hβ;rw[h2'] at hβ';obtain⟨h3,h4⟩:=DH.inj _ _ _ _ b o o' hβ hβ';exact hqi _ h1 _ XB (Prod.ext h3 h4)
 ·intro id b o hn hβ;cases hq:Fw bs id with
  |none=>exact absurd hq hn
  |some bx=>
   obtain⟨ik,h1,h2⟩:=hqm id bx (Qf hq);rw[h2] at hβ;exact DH.lt b ⟨_,_,_,hβ⟩
 ·obtain⟨bx,hm⟩:=hr i id Bx;show Fw bs id≠none;rw[WM Afv hm];simp
 ·intro id cells hq c hc k hk;obtain⟨bx,hm⟩:=hri id cells (Qf hq) c hc k hk;show Fw bs k≠none;rw[WM Afv hm];simp
 ·intro id bx b o hq hl hβ _ j hj;obtain⟨k,p,h1,h2⟩:=hL id bx b o (Qf hq) hβ j hj;rw[Ig] at h2;exact⟨k,p,h1,h2⟩
 ·rintro i ⟨p,h1,h2⟩
  have h3:=(NY i p h1 h2).1;rw[Ig] at h3;refine⟨?_,hβ0 _ h3⟩;have:D5 N i∈bs.map (·.1):=by rw[hb];exact List.mem_map.2 ⟨_,h3,rfl⟩
  obtain⟨⟨id,bx⟩,hm,e⟩:=List.mem_map.1 this;show Fw bs (D5 N i)≠none;rw[<-e,WM Afv hm];simp
 ·intro id c b o hq _ _;obtain⟨k,p,h1,h2,h3⟩:=(O8 id _ (Qf hq)).2 c rfl;rw[Ig] at h3;exact⟨k,h3,p,h1,h2⟩
end
open Go.RowKit
def Ot(β:Bt)(l:List (Option Nat))(j:Nat):Option (Nat × Nat):=((l[j]?).bind id).bind β
section
variable {R:Type}{r:R}{P:Program}{N:Nat}{w0:World}{X0:Jw}{Y:Nat->Prop}{β β':Bt}{s:St}{a:Act}{w w':World}{A:Nat->Prop}
def Ane(s:St)(l:List (Option Nat)):Prop:=∀id,some id∈l->Du (s.hp id)
def Ps(s:St)(z:Bz):Prop:=∀id∈z,∃f c,s.hp id=some (.ar f c)
theorem UM(h : Df N w0 X0 Y β s a w){shr : Bool}{t : CT}{p : PV}{K : PV -> Bz -> Bz -> Option R}(hk : Ahj shr s.hp t p K = some r):
    ∃ c q z, K c (Option.toList q) z = some r /\ (∀ x, c ≠ .agg x /\ c ≠ .pbox x) /\ RP p /\ (∀ id, q = some id -> ∃ c, s.hp id = some (.ar false c)) /\ Ps s z /\
      ∀ (fz : Bz) A u, (∀ i ∈ z, i ∈ fz) -> Ps s fz -> (∀ b, A b -> Dt (Af s.hp fz) β Y b) -> Cd w (Dt s.hp β Y) β p u -> Ht w A (q.bind β) c u := by
  have notree : ∀ {c : PV}, BG c -> ∀ x, c ≠ .agg x /\ c ≠ .pbox x := fun hT x => ⟨GB hT x, by rintro rfl; exact hT⟩
  unfold Ahj at hk
  cases shr <;> simp only[cond_true, cond_false] at hk
  · have tree : ∀ t', (∀ es, t' ≠ .sl es) -> (IJ t' p fun c => K c [] []) = some r -> ∃ c q z, K c (Option.toList q) z = some r /\ (∀ x, c ≠ .agg x /\ c ≠ .pbox x) /\ RP p /\ (∀ id, q = some id -> ∃ c, s.hp id = some (.ar false c)) /\ Ps s z /\
        ∀ (fz : Bz) A u, (∀ i ∈ z, i ∈ fz) -> Ps s fz -> (∀ b, A b -> Dt (Af s.hp fz) β Y b) -> Cd w (Dt s.hp β Y) β p u -> Ht w A (q.bind β) c u := by
      intro t' G6 hk
      obtain⟨c, Ez, hT, NV, hv⟩ := Qk hk
      refine⟨c, none, [], Ez, notree hT, Vu NV, by simp, (by intro i hi; cases hi), fun fz A u _ _ hA hc => Nu hT ?_⟩
      exact (hv w _ β u hc).1.step (Cq.refl _ _) (fun b _ hb => Q5 (hA b hb))
    unfold Awx at hk
    cases t with
    | sl es =>
      dsimp only at hk
      split at hk
      · rename_i id es' off n
        cases hb : (Nat.beq es' es && Nat.beq off 0) <;> rw[hb] at hk
        · cases hk
        · simp only[Er] at hb
          have he := C6 hb.1
          have ho := C6 hb.2
          subst he ho
          simp only[cond_true] at hk
          split at hk
          · rename_i c h0
            obtain⟨hl, Ez⟩ := Am hk
            refine⟨_, some id, [], Ez, by simp, trivial, fun i hi => by cases hi; exact⟨c, h0⟩, (by intro i hi; cases hi), fun fz A u _ _ hA hc => ?_⟩
            rcases hc with⟨h1, _, rfl, h4⟩ | ⟨b, o, x, cap, h1, h2, hx, h3, h4, h5⟩
            · exact .inl ⟨h1, rfl, by simp, h4⟩
            · have hx : x = o := by rcases hx with e | ⟨_, e⟩ <;> omega
              subst hx
              rcases h.box id _ h0 with⟨h6, _⟩ | ⟨b', o', h6, h7, h8, _⟩
              · rw[h1] at h6; cases h6
              · rw[h1] at h6
                cases h6
                refine .inr ⟨b, x, cap, h1, h2, h3, h4, h5, fun j q hq => ?_, fun j hj Xj => h8 rfl j hj Xj⟩
                rw[List.getElem?_take] at hq
                split at hq
                · obtain⟨v, hv, h9, ht⟩ := h7 j q hq
                  exact⟨v, hv, h9, ht.step (Cq.refl _ _) (fun b _ hb => Q5 (hA b hb))⟩
                · cases hq
          · cases hk
      · obtain⟨z, n, c, Ez, hp⟩ := Hz hk
        obtain⟨hz, Fu⟩ := Am Ez
        subst hz
        have hpF : RP p := by rcases hp with e | ⟨e, _⟩ <;> (rw[e]; trivial)
        refine⟨_, none, [], Fu, by simp, hpF, by simp, (by intro i hi; cases hi), fun fz A u _ _ _ hc => ?_⟩
        have hu : u = .slice none 0 0 := by
          rcases hp with rfl | ⟨rfl, _⟩
          · cases hc; rfl
          · exact At.val hc
        exact .inl ⟨rfl, rfl, rfl, none, hu⟩
    | int k => exact tree _ (by simp) hk
    | bool => exact tree _ (by simp) hk
    | str => exact tree _ (by simp) hk
    | any => exact tree _ (by simp) hk
  · obtain⟨c, m, Ez, hT, hF, hm, hv⟩ := MW h hk
    exact⟨c, none, m, Ez, notree hT, hF, by simp, hm, fun fz A u h1 h2 hA hc => Nu hT ((hv fz h1 h2 u hc).1.step (Cq.refl _ _) (fun b _ hb => hA b hb))⟩
structure LK(s:St)(β:Bt)(Y:Nat->Prop)(w:World)(cs:Ad)(l:List (Option Nat))(z:Bz)(ps:Ad):Prop where
 len:l.length=cs.length
 pl:cs.length=ps.length
 na:∀c∈cs,∀x,c ≠ .agg x/\c ≠ .pbox x
 fr:∀p∈ps,RP p
 own:∀id,some id∈l->∃c,s.hp id=some (.ar false c)
 row:Ps s z
 sem:∀(fz:Bz) A us,(∀i∈z,i∈fz)->Ps s fz->(∀b,A b->Dt (Af s.hp fz) β Y b)->Be (Cd w (Dt s.hp β Y) β) ps us->∀own j0,(∀j,j<l.length->own (j0+j)=Ot β l j)->Fs w A own j0 cs us
theorem LK.nil:LK s β Y w [] [] [] []:=⟨rfl,rfl,by simp,by simp,by simp,(by intro i hi;cases hi),fun fz A us _ _ _ hu own j0 _=>by
 cases us with
 |nil=>trivial
 |cons u us=>exact hu.elim⟩
theorem LK.cons{c p:PV}{q:Option Nat}{z zs:Bz}{cs ps:Ad}{l:List (Option Nat)}(HE:∀x,c ≠ .agg x/\c ≠ .pbox x)(hF:RP p)(hq:∀id,q=some id->∃c,s.hp id=some (.ar false c))(hz:Ps s z)(hv:∀(fz:Bz) A u,(∀i∈z,i∈fz)->Ps s fz->(∀b,A b->Dt (Af s.hp fz) β Y b)->Cd w (Dt s.hp β Y) β p u->Ht w A (q.bind β) c u)(H:LK s β Y w cs l zs ps):LK s β Y w (c::cs) (q::l) (z++zs) (p::ps):=by
 refine⟨by simp[H.len],by simp[H.pl],?_,?_,?_,?_,fun fz A us hz1 ZX hA hu own j0 Iq=>?_⟩
 ·intro x hx;rcases List.mem_cons.1 hx with rfl|hx
  ·exact HE
  ·exact H.na x hx
 ·intro x hx;rcases List.mem_cons.1 hx with rfl|hx
  ·exact hF
  ·exact H.fr x hx
 ·intro id Bx;rcases List.mem_cons.1 Bx with e|Bx
  ·exact hq id e.symm
  ·exact H.own id Bx
 ·intro i hi;rcases Bn.1 hi with hi|hi
  ·exact hz i hi
  ·exact H.row i hi
 ·cases us with
  |nil=>exact hu.elim
  |cons u us=>
   have h0:=Iq 0 (by simp);rw[YI] at h0;refine⟨?_,H.sem fz A us (fun i hi=>hz1 i (by simp[hi])) ZX hA hu.2 own (j0+1) fun j hj=>?_⟩
   ·rw[h0];exact hv fz A u (fun i hi=>hz1 i (by simp[hi])) ZX hA hu.1
   ·have:=Iq (j+1) (by simp;omega)
    rw[show j0+1+j=j0+(j+1) by omega,this];simp[Ot]
theorem U6(h:Df N w0 X0 Y β s a w){shr:Bool}:∀{ts:List CT}{ps:Ad}{K:Ad->Bz->Bz->Option R},HS shr s.hp ts ps K=some r ->
  ∃cs l z,K cs (l.filterMap id) z=some r/\LK s β Y w cs l z ps
 |[],[],K,hk=>⟨[],[],[],hk,LK.nil⟩
 |[],_::_,K,hk=>by cases hk
 |_::_,[],K,hk=>by cases hk
 |t::ts,p::ps,K,hk=>by
  unfold HS at hk;obtain⟨c,q,z,Ez,HE,hF,hq,hz,hv⟩:=UM h hk;obtain⟨cs,l,zs,Fu,H⟩:=U6 h Ez;refine⟨c::cs,q::l,z++zs,?_,LK.cons HE hF hq hz hv H⟩;cases q<;>exact Fu
theorem JO(h:Df N w0 X0 Y β s a w):∀{ts:List CT}{ws ps:Ad}{K:Ad->Bz->Bz->Option R},MB s.hp ts ws ps K=some r ->
  ∃cs l z,K cs (l.filterMap id) z=some r/\cs.length=ws.length/\LK s β Y w cs l z ps
 |[],[],[],K,hk=>⟨[],[],[],hk,rfl,LK.nil⟩
 |[],_::_,_,K,hk=>by cases hk
 |[],[],_::_,K,hk=>by cases hk
 |_::_,[],_,K,hk=>by cases hk
 |_::_,_::_,[],K,hk=>by cases hk
 |t::ts,x::ws,p::ps,K,hk=>by
  unfold MB at hk;obtain⟨c,q,z,Ez,HE,hF,hq,hz,hv⟩:=UM h hk;obtain⟨cs,l,zs,Fu,hl,H⟩:=JO h Ez;refine⟨c::cs,q::l,z++zs,?_,by simp[hl],LK.cons HE hF hq hz hv H⟩;cases q<;>exact Fu
theorem Ael{own:Bt}{zz j:Nat}{p:PV}{u:Value}(hp:∀x,p ≠ .agg x/\p ≠ .pbox x)(h:Fs w A own j [p] [u]):Aty w A own zz j p u:=by cases p<;>first|exact h.1|exact absurd rfl (hp _).1|exact absurd rfl (hp _).2
theorem Ag5(h:Df N w0 X0 Y β s a w){id b o:Nat}{c cs:Ad}{l:List (Option Nat)}{z:Bz}(h0:s.hp id=some (.st c))(hβ:β id=some (b,o))(H:LK s β Y w cs l z c){fz:Bz}{A:Nat->Prop}(h1:∀i∈z,i∈fz)(h2:Ps s fz)(hA:∀b,A b->Dt (Af s.hp fz) β Y b){own:Bt}{j0:Nat}(Iq:∀j,j<l.length->own (j0+j)=Ot β l j):Aqf w A own j0 b o cs:=by
 obtain⟨b',o',Fv,Ir,JX⟩:=h.box id _ h0;rw[hβ] at Fv;cases Fv;refine⟨c.mapIdx (fun j _=>(w.cell? ⟨b,o+j,none⟩).getD undef),H.sem fz A _ h1 h2 hA ?_ own j0 Iq,?_,fun k hk=>JX k (by have:=H.pl;omega)⟩
 ·refine Be.of_at (by simp) fun j p v hp hv=>?_;obtain⟨u,hu,hcr⟩:=Ir j p hp;rw[List.getElem?_mapIdx,hp,Option.map_some,hu] at hv;simp at hv;subst hv;exact hcr
 ·intro k v hkv;rw[List.getElem?_mapIdx] at hkv;cases hp:c[k]? with
  |none=>rw[hp] at hkv;cases hkv
  |some p=>
   obtain⟨u,hu,hcr⟩:=Ir k p hp;rw[hp,Option.map_some,hu] at hkv;simp at hkv;subst hkv;exact hu
theorem Ame(h:Df N w0 X0 Y β s a w){shr:Bool}{t:TypeId}{p:PV}{u:Value}(hp:Fg w (Dt s.hp β Y) β p u){K:PV->Bz->Bz->Option R}(hk:Aok P shr s.hp t p K=some r):
  ∃v l z,K v (l.filterMap id) z=some r/\l.length=plc v/\Ane s l/\Ps s z /\
   ∀(fz:Bz) A zz,(∀i∈z,i∈fz)->Ps s fz->(∀b,A b->Dt (Af s.hp fz) β Y b)->(∀id c b o,some id∈l->s.hp id=some (.st c)->β id=some (b,o)->zz<=b) ->
    ∀own j0,(∀j,j<l.length->own (j0+j)=Ot β l j)->Aty w A own zz j0 v u:=by
 unfold Aok at hk;split at hk
 ·rename_i e he;split at hk
  ·rename_i id off;split at hk
   ·rename_i c h0;obtain⟨hof,Ez⟩:=Am hk;have hof:=C6 hof;subst hof;obtain⟨cs,l,z,Fu,H⟩:=U6 h Ez;obtain⟨b,o,hβ,hu⟩:=hp;refine⟨.pbox cs,some id::l,z,Fu,by simp only[plc,On,H.len];omega,?_,H.row,fun fz A zz h1 h2 hA hz own j0 Iq=>?_⟩
    ·intro i hi;rcases List.mem_cons.1 hi with e|hi
     ·cases e;rw[h0];trivial
     ·obtain⟨c',Q1⟩:=H.own i hi;rw[Q1];trivial
    ·have h3:=Iq 0 (by simp);rw[YI] at h3;refine⟨b,o,by rw[h3];exact hβ,hz id c b o (by simp) h0 hβ,by rw[hu,YI],Ag5 h h0 hβ H h1 h2 hA fun j hj=>?_⟩
     have:=Iq (j+1) (by simp;omega)
     rw[show j0+1+j=j0+(j+1) by omega,this];simp[Ot]
   ·cases hk
  ·cases hk
 ·cases Hc:Cj P t<;>rw[Hc] at hk<;>simp only[cond_true,cond_false] at hk
  ·obtain⟨cs,l,z,Ez,H⟩:=U6 h hk;obtain⟨c,cs',KL,Fu⟩:=Bf Ez;subst KL;obtain⟨HQ,Pa⟩:=Eg Fu;subst HQ;have HE:=H.na c (by simp);have RL:plc c=1:=by cases c<;>first|rfl|exact absurd rfl (HE _).1|exact absurd rfl (HE _).2
   have hF:=H.fr p (by simp);refine⟨c,l,z,Pa,by rw[RL];exact H.len,fun i hi=>?_,H.row,fun fz A zz h1 h2 hA _ own j0 Iq=>Ael HE (H.sem fz A [u] h1 h2 hA ⟨?_,trivial⟩ own j0 Iq)⟩
   ·obtain⟨c',Q1⟩:=H.own i hi;rw[Q1];trivial
   ·cases p<;>first|exact hp|exact hF.elim
  ·obtain⟨ps,LH,Ez⟩:=Iw hk;subst LH;obtain⟨cs,l,z,Fu,H⟩:=U6 h Ez;obtain⟨vs,hu,Wx⟩:=hp;refine⟨.agg cs,l,z,Fu,H.len,fun i hi=>?_,H.row,fun fz A zz h1 h2 hA _ own j0 Iq=>⟨vs,hu,H.sem fz A vs h1 h2 hA Wx own j0 Iq⟩⟩;obtain⟨c',Q1⟩:=H.own i hi;rw[Q1];trivial
def XM(P:Program)(tmps:Array Value)(w:World)(rv:ResultVar)(u:Value):Prop:=
  (match rv with
   |.tmp t=>(pure (tmps.getD t undef):Sem Value)
   |.cell a t=>do loadVar t (<-asAddr (tmps.getD a undef))).run P w=.ok u w
theorem Aqy(h:Df N w0 X0 Y β s a w)(t:Nat):Fg w (Dt s.hp β Y) β (s.tm t) (a.tmps.getD t undef):=by
 rcases Id t N with h'|h'
 ·exact h.tms t h'
 ·rw[h.tmo t h'];exact At.top _
theorem Ak7(h:Df N w0 X0 Y β s a w){rv:ResultVar}{K:PV->Option R}(hk:Aqw P s rv K=some r):∃p u,K p=some r/\XM P a.tmps w rv u/\Fg w (Dt s.hp β Y) β p u:=by
 unfold Aqw at hk;split at hk
 ·rename_i t;exact⟨_,_,hk,rfl,Aqy h t⟩
 ·rename_i x t;obtain⟨v,ad,val,Ez,D4,hl,hv,_⟩:=Abs h (Aqy h x) hk;refine⟨v,val,Ez,?_,hv⟩;unfold XM;simp[D4,asAddr,hl]
theorem DA{l l':List (Option Nat)}{j:Nat}(h:j<l.length):Ot β (l++l') j=Ot β l j:=by unfold Ot;rw[List.getElem?_append_left h]
theorem CE{l l':List (Option Nat)}{j:Nat}:Ot β (l++l') (l.length+j)=Ot β l' j:=by unfold Ot;rw[List.getElem?_append_right (by omega),Nat.add_sub_cancel_left]
theorem NG(h:Df N w0 X0 Y β s a w){shr:Bool}:∀{rs:List ResultVar}{ts:List TypeId}{K:Ad->Bz->Bz->Option R},XQ P shr s rs ts K=some r ->
  ∃vs l z us,K vs (l.filterMap id) z=some r/\Be (XM P a.tmps w) rs us/\l.length=Ph vs/\Ane s l/\Ps s z /\
   ∀(fz:Bz) A zz,(∀i∈z,i∈fz)->Ps s fz->(∀b,A b->Dt (Af s.hp fz) β Y b)->(∀id c b o,some id∈l->s.hp id=some (.st c)->β id=some (b,o)->zz<=b) ->
    ∀own j0,(∀j,j<l.length->own (j0+j)=Ot β l j)->TZ w A own zz j0 vs us
 |[],[],K,hk=>⟨[],[],[],[],hk,trivial,rfl,(by intro id Bx;cases Bx),(by intro id Bx;cases Bx),fun _ _ _ _ _ _ _ _ _ _=>trivial⟩
 |[],_::_,K,hk=>by cases hk
 |_::_,[],K,hk=>by cases hk
 |rv::rs,t::ts,K,hk=>by
  unfold XQ at hk;obtain⟨p,u,Ez,hu,hp⟩:=Ak7 h hk;obtain⟨v,l,z,Fu,hl,hL,hz,hv⟩:=Ame h hp Ez;obtain⟨vs,l',z',us,Pa,hus,Nj,hL',hz',Wx⟩:=NG h Fu;refine⟨v::vs,l++l',z++z',u::us,?_,⟨hu,hus⟩,by simp only[Xk,Ph,U7,List.sum_cons,hl];rw[Nj];rfl,?_,?_,fun fz A zz h1 h2 hA G0 own j0 Iq=>⟨?_,?_⟩⟩
  ·rw[List.filterMap_append];exact Pa
  ·intro id Bx;rcases Bn.1 Bx with Bx|Bx
   ·exact hL id Bx
   ·exact hL' id Bx
  ·intro id Bx;rcases Bn.1 Bx with Bx|Bx
   ·exact hz id Bx
   ·exact hz' id Bx
  ·exact hv fz A zz (fun i hi=>h1 i (by simp[hi])) h2 hA (fun id c b o hi=>G0 id c b o (by simp[hi])) own j0 fun j hj=>by rw[Iq j (by simp;omega),DA hj]
  ·refine Wx fz A zz (fun i hi=>h1 i (by simp[hi])) h2 hA (fun id c b o hi=>G0 id c b o (by simp[hi])) own (j0+plc v) fun j hj=>?_;rw[<-hl,Pi,Iq (l.length+j) (by simp;omega),CE]
theorem Vr(h:Df N w0 X0 Y β s a w){bt:GQ}(hpt:∀i,X0.pt i=bt i 0):∀{ts:List TypeId}{i:Nat}{ps:Ad}{K:List Ad->Bz->Bz->Bz->Option R},HH P N s.hp i ts ps K=some r ->
  (∀k p,ps[k]?=some p->GT p=true->X0.pn (i+k)) ->
  ∃os l z q,K os (l.filterMap id) z q=some r/\(∀id,some id∈l->∃c,s.hp id=some (.ar false c))/\Ps s z/\(∀id∈q,Du (s.hp id))/\(∀k p,ps[k]?=some p->GT p=true->D5 N (i+k)∈q) /\
   ∀(fz:Bz) A,(∀i∈z,i∈fz)->Ps s fz->(∀i∈q,i ∉ fz)->(∀b,A b->Dt (Af s.hp fz) β Y b) ->
    ∀own j0,(∀j,j<l.length->own (j0+j)=Ot β l j)->AV w A own bt j0 i ps os
 |[],i,ps,K,hk,_=>by
  obtain⟨LH,hk⟩:=Eg hk;subst LH;exact⟨[],[],[],[],hk,by simp,(by intro id Bx;cases Bx),by simp,by simp,fun _ _ _ _ _ _ _ _ _=>rfl⟩
 |t::ts,i,ps,K,hk,hpn=>by
  unfold HH at hk;obtain⟨p,ps',LH,Ez⟩:=Bf hk;subst LH
  have Ayt:∀k p,ps'[k]?=some p->GT p=true->X0.pn (i+1+k):=fun k p' h1 h2=>by
   have:=hpn (k+1) p' (by simpa using h1) h2;rw[show i+1+k=i+(k+1) by omega];exact this
  have hpq:∀{q:Bz},(GT p=true->D5 N i∈q)->(∀k p,ps'[k]?=some p->GT p=true->D5 N (i+1+k)∈q)->∀k p',(p::ps')[k]?=some p'->GT p'=true->D5 N (i+k)∈q:=by
   intro q h1 h2 k p' h3 h4;cases k with
   |zero=>
    simp only[List.getElem?_cons_zero,Option.some.injEq] at h3;subst h3;exact h1 h4
   |succ k=>
    have:=h2 k p' (by simpa using h3) h4;rw[show i+1+k=i+(k+1) by omega] at this;exact this
  split at Ez
  ·rename_i ws;obtain⟨e,he,Fu⟩:=Cs Ez;split at Fu
   ·rename_i c h0;obtain⟨cs,l,z,Pa,O7,H⟩:=JO h Fu;obtain⟨os,l',z',q,Zl,hL',hz',Gv,hpi,hv⟩:=Vr h hpt Pa Ayt;refine⟨cs::os,l++l',z++z',D5 N i::q,by rw[List.filterMap_append];exact Zl,?_,?_,?_,hpq (fun _=>CG) (fun k p h1 h2=>Uf _ (hpi k p h1 h2)),fun fz A h1 h2 h3 hA own j0 Iq=>?_⟩
    ·intro id Bx;rcases Bn.1 Bx with Bx|Bx
     ·exact H.own id Bx
     ·exact hL' id Bx
    ·intro id Bx;rcases Bn.1 Bx with Bx|Bx
     ·exact H.row id Bx
     ·exact hz' id Bx
    ·intro id Bx;rcases List.mem_cons.1 Bx with rfl|Bx
     ·rw[h0];trivial
     ·exact Gv id Bx
    ·have NY:=(h.pin i (by have:=hpn 0 _ rfl rfl;rwa [YI] at this)).2
     obtain⟨b,o,Fv,_,_⟩:=h.box _ _ h0;rw[Fv,hpt] at NY;refine⟨⟨b,o,NY.symm,O7,Ag5 h h0 Fv H (fun i hi=>h1 i (by simp[hi])) h2 hA fun j hj=>by rw[Iq j (by simp;omega),DA hj]⟩,?_⟩
     refine hv fz A (fun i hi=>h1 i (by simp[hi])) h2 (fun i hi=>h3 i (by simp[hi])) hA own (j0+cs.length) fun j hj=>?_;rw[<-H.len,Pi,Iq (l.length+j) (by simp;omega),CE]
   ·cases Fu
  ·split at Ez
   ·rename_i c h0;obtain⟨os,l',z',q,Zl,hL',hz',Gv,hpi,hv⟩:=Vr h hpt Ez Ayt;refine⟨c::os,l',z',D5 N i::q,Zl,hL',hz',?_,hpq (fun _=>CG) (fun k p h1 h2=>Uf _ (hpi k p h1 h2)),fun fz A h1 h2 h3 hA own j0 Iq=>⟨?_,hv fz A h1 h2 (fun i hi=>h3 i (by simp[hi])) hA own j0 Iq⟩⟩
    ·intro id Bx;rcases List.mem_cons.1 Bx with rfl|Bx
     ·rw[h0];trivial
     ·exact Gv id Bx
    ·have NY:=(h.pin i (by have:=hpn 0 _ rfl rfl;rwa [YI] at this)).2
     rw[hpt] at NY;rcases h.box _ _ h0 with⟨h4,h5⟩|⟨b,o,h4,h5,h6,_⟩
     ·exact .inl ⟨by rw[<-NY];exact h4,h5⟩
     ·exact .inr ⟨b,o,by rw[<-NY];exact h4,h5.weak (fun b _ hb=>Q5 (hA b hb)),h6 rfl⟩
   ·cases Ez
  ·rename_i hn1 hn2;have hnL:GT p=false:=by cases p<;>first|rfl|exact absurd rfl (hn1 _)|exact absurd rfl (hn2 _)
   obtain⟨os,l',z',q,Zl,hL',hz',Gv,hpi,hv⟩:=Vr h hpt Ez Ayt;refine⟨os,l',z',q,Zl,hL',hz',Gv,hpq (fun e=>by rw[hnL] at e;cases e) hpi,fun fz A h1 h2 h3 hA own j0 Iq=>?_⟩
   have:=hv fz A h1 h2 h3 hA own j0 Iq;cases p<;>first|exact this|cases hnL
theorem Aan{f:ResultVar->Sem Value}:∀{rs:List ResultVar}{us:List Value},Be (fun rv u=>(f rv).run P w=.ok u w) rs us->(rs.mapM f).run P w=.ok us w
 |[],[],_=>by simp
 |[],_::_,h=>h.elim
 |_::_,[],h=>h.elim
 |rv::rs,u::us,h=>by
  rw[List.mapM_cons];simp[h.1,Aan h.2]
theorem Ac2{fn:Func}{us:List Value}(h:Be (XM P a.tmps w) fn.results.toList us):(results fn a.tmps).run P w=.ok (J1 us) w:=by
 unfold results;rw[Array.mapM_eq_mapM_toList];simp only[map_eq_pure_bind,bind_assoc,pure_bind,Sem.run_bind];refine Eq.trans (congrArg (fun x=>Result.andThen x _) (Aan h)) ?_;simp only[Result.andThen_ok,Sem.run_pure]
 congr 1
 clear h
 match us with
 |[]=>rfl
 |[u]=>rfl
 |u::v::us=>exact dif_neg (by simp)
theorem Abc:∀{l:List (Option Nat)},Em (l.filterMap id)=true->∀{j j' i:Nat},l[j]?=some (some i)->l[j']?=some (some i)->j=j'
 |[],_,j,j',i,h,_=>by simp at h
 |q::l,hn,j,j',i,h,h'=>by
  have hn':Em (l.filterMap id)=true:=by
   cases q with
   |none=>exact hn
   |some x=>
    simp only[List.filterMap_cons,id_eq,Em,Er] at hn;exact hn.2
  have hq:∀(x k:Nat),q=some x->l[k]?≠some (some x):=by
   intro x k e hk;subst e;simp only[List.filterMap_cons,id_eq,Em,Er,Bool.not_eq_true'] at hn;exact Vf hn.1 (List.mem_filterMap.2 ⟨some x,List.mem_of_getElem? hk,rfl⟩)
  cases j with
  |zero=>
   cases j' with
   |zero=>rfl
   |succ k'=>
    simp at h h';exact absurd h' (hq i k' h)
  |succ k=>
   cases j' with
   |zero=>
    simp at h h';exact absurd h (hq i k h')
   |succ k'=>
    simp at h h';rw[Abc hn' h h']
theorem VB{C:Gw}{f:FuncId}{fn:Func}{args:Ad}{res:A1}{w:World}{Y:Nat->Prop}{bt:GQ}{us:List Value}(DH:Ins w Y bt args us){h8:∀k p,args[k]?=some p->GT p=true->k<8}{s':St}{a':Act}{w':World}{β':Bt}(hr:SD C P f fn args s'=some res)(h:Df fn.ntmps w (Afl bt args h8) Y β' s' a' w'):
  a'.defers=[]/\∃v,(results fn a'.tmps).run P w'=.ok v w'/\∃vs own,Ending.returned v=.returned (J1 vs)/\Out w w' Y bt args own res vs:=by
 unfold SD at hr;obtain⟨vs,l,z,us',RE,hus,hll,hL,hz,hv⟩:=NG h hr;obtain⟨os,l',z',q,VW,hL',hz',hq,hpi,S0⟩:=Vr h (bt:=bt) (fun _=>rfl) RE (fun k p h1 h2=>by rw[Ig];exact⟨p,h1,h2⟩)
 obtain⟨hnd,hr3⟩:=Am VW;cases hr3;simp only[Er] at hnd;obtain⟨hnd,A1i⟩:=hnd;obtain⟨hn1,hn2,hn3⟩:=Kq hnd
 have HO:∀i∈z++z',i ∉ (l.filterMap id++l'.filterMap id)++q:=by
  intro i hi M6;have:=List.all_eq_true.1 A1i i hi;have h2:((l.filterMap id++l'.filterMap id)++q).any (Nat.beq i)=true:=List.any_eq_true.2 ⟨i,M6,Qi i⟩;rw[h2] at this;cases this
 have Akg:Ps s' (z++z'):=by
  intro i hi;rcases Bn.1 hi with hi|hi
  ·exact hz i hi
  ·exact hz' i hi
 refine⟨h.dfr,J1 us',Ac2 hus,us',Ot β' (l++l'),rfl,?_⟩;have Bda:Em ((l++l').filterMap id)=true:=by rw[List.filterMap_append];exact hn1
 have Iq:∀j b o,Ot β' (l++l') j=some (b,o)->∃id,(l++l')[j]?=some (some id)/\β' id=some (b,o):=by
  intro j b o hj;unfold Ot at hj;cases hlj:(l++l')[j]? with
  |none=>rw[hlj] at hj;cases hj
  |some q=>
   cases q with
   |none=>rw[hlj] at hj;cases hj
   |some id=>
    rw[hlj] at hj;exact⟨id,rfl,hj⟩
 have Sa:∀(j i:Nat),(l++l')[j]?=some (some i)->i∈l.filterMap id++l'.filterMap id:=by
  intro j i hj;rw[<-List.filterMap_append];exact List.mem_filterMap.2 ⟨some i,List.mem_of_getElem? hj,rfl⟩
 have H0:∀(j i:Nat),(l++l')[j]?=some (some i)->Du (s'.hp i):=by
  intro j i hj;rcases Bn.1 (List.mem_of_getElem? hj) with M6|M6
  ·exact hL i M6
  ·obtain⟨c,hc⟩:=hL' i M6;rw[hc];trivial
 have Ax7:∀i,i∈(l.filterMap id++l'.filterMap id)++q->Af s'.hp (z++z') i=s'.hp i:=by
  intro i hi;rw[Ca,Bl (fun M6=>HO i M6 hi)]
 have Axw:∀i b o,bt i 0=some (b,o)->D5 fn.ntmps i∈q/\Du (s'.hp (D5 fn.ntmps i))/\β' (D5 fn.ntmps i)=some (b,o):=by
  intro i b o XR;obtain⟨p,h1,h2⟩:=DH.l0 i _ XR;have h3:=hpi i p h1 h2;rw[Ig] at h3;exact⟨h3,hq _ h3,(h.pin i ⟨p,h1,h2⟩).2.trans XR⟩
 have hAO:∀b,MX bt (Ot β' (l++l')) Y b->Dt (Af s'.hp (z++z')) β' Y b:=by
  rintro b (⟨j,o,hj⟩|⟨i,o,XR⟩|hY)
  ·obtain⟨id,h1,h2⟩:=Iq j b o hj;refine .inl ⟨id,o,?_,h2⟩;rw[Ax7 id (Bn.2 (.inl (Sa j id h1)))];exact H0 j id h1
  ·obtain⟨h1,h2,h3⟩:=Axw i b o XR;refine .inl ⟨_,o,?_,h3⟩;rw[Ax7 _ (Bn.2 (.inr h1))];exact h2
  ·exact .inr hY
 have CN:∀(j id b o:Nat),(l++l')[j]?=some (some id)->β' id=some (b,o)->b<w.heap.size->∃i k o',bt i (k+1)=some (b,o'):=by
  intro j id b o hj hβ Cm;rcases h.ownd b ⟨id,o,H0 j id hj,hβ⟩ with⟨i,k,o',XR⟩|hge
  ·cases k with
   |zero=>
    obtain⟨h1,h2,h3⟩:=Axw i b o' XR;have:=h.inj id _ b o o' (H0 j id hj) h2 hβ h3;subst this;exact absurd h1 (hn3 _ (Sa j _ hj))
   |succ k=>exact⟨i,k,o',XR⟩
  ·omega
 refine⟨h.fr.os,h.fr.tape,h.fr.output,h.fr.step,h.fr.rng,?_,?_,?_,?_⟩
 ·refine hv (z++z') _ _ (fun i hi=>Bn.2 (.inl hi)) Akg hAO (fun id c b o hi hc hβ=>?_) _ 0 (fun j hj=>by rw[Ig,DA hj]);rcases Id b w.heap.size with Cm|hge
  ·obtain⟨k,Pb,p,h1,h2⟩:=h.stp id c b o hc hβ Cm;have h3:=hpi k p h1 h2;rw[Ig,<-Pb] at h3;obtain⟨j,hj⟩:=List.mem_iff_getElem?.1 hi;refine absurd h3 (hn3 id ?_);exact Bn.2 (.inl (List.mem_filterMap.2 ⟨some id,hi,rfl⟩))
  ·exact hge
 ·refine S0 (z++z') _ (fun i hi=>Bn.2 (.inr hi)) Akg (fun i hi M6=>HO i M6 (Bn.2 (.inr hi))) hAO _ _ (fun j hj=>?_);rw[<-hll,CE]
 ·intro j b o hj;obtain⟨id,h1,h2⟩:=Iq j b o hj;refine⟨h.blt id b o (Di (H0 j id h1)) h2,fun Cm=>⟨CN j id b o h1 h2 Cm,fun x hx=>?_⟩⟩;cases O8:s'.hp id with
  |none=>have:=H0 j id h1;rw[O8] at this;exact this.elim
  |some bx=>
   have NN:=H0 j id h1;rw[O8] at NN;cases bx with
   |st c=>
    obtain⟨k,Pb,p,h3,h4⟩:=h.stp id c b o O8 h2 Cm;have h5:=hpi k p h3 h4;rw[Ig,<-Pb] at h5;exact absurd h5 (hn3 _ (Sa j _ h1))
   |ar fz c=>exact h.rngB id _ b o O8 NN h2 Cm x hx
   |mv=>exact NN.elim
 ·intro j j' b o o' hj Xj;obtain⟨id,h1,h2⟩:=Iq j b o hj;obtain⟨id',XB,h2'⟩:=Iq j' b o' Xj;have:=h.inj id id' b o o' (H0 j id h1) (H0 j' id' XB) h2 h2';subst this;exact Abc Bda h1 XB
theorem Agt{G:BE}(Nz:NoNG P)(hm:P.follows .mixedOrders=true){C:Gw}{fu:Nat}{call:Aq}(Eo:∀f args res,call f args=some res->Cx G P f args res){f:FuncId}{fn:Func}{c:Code}(hf:P.funcs[f]?=some fn)(hb:fn.body=some c){args:Ad}{res:A1}(hk:Al1 C P fu call f fn c args=some res):Cx G P f args res:=by
 refine⟨⟨fn,hf,by rw[hb];rfl⟩,fun w Y bt us DH hG hGY=>?_⟩
 unfold Al1 at hk;obtain⟨tms,bs,Ez,G0⟩:=Akd DH hk;obtain⟨Fv,Fu⟩:=Am Ez;simp only[Er] at Fv
 have Eb:us.length<=fn.ntmps:=by
  rw[<-DH.args.len];exact Oj Fv.1
 obtain⟨h8,β0,hs⟩:=G0 Fv.2 Eb;refine calls_of_wp hf hb ?_;have hE:Env P G w (Afl bt args h8):=⟨Nz,fun w' hfr=>G.stable w w' (fun b hb Cm=>hfr.step.keep b Cm (hGY b hb).2) hG,hGY⟩
 refine Ae7 hE Eo hm c hs Fu (fun s' a' w' β' hr h=>VB DH hr h) (fun id s' a' w' β' hr h=>by cases hr) (fun s' a' w' β' hr h=>VB DH hr h)
def ES(G:BE)(P:Program)(C:Gw):Prop:=∀f g args res,C.ext f=some g->g args=some res->Cx G P f args res
theorem Dh{G:BE}(Nz:NoNG P)(hm:P.follows .mixedOrders=true){C:Gw}(hx:ES G P C){fu:Nat}:∀(d:Nat)(f:FuncId)(args:Ad)(res:A1),Ac C P fu d f args=some res->Cx G P f args res
 |0,_,_,_,h=>by cases h
 |d+1,f,args,res,h=>by
  unfold Ac at h;split at h
  ·rename_i g hg;exact hx f g args res hg h
  ·split at h
   ·cases h
   ·rename_i fn hf;split at h
    ·cases h
    ·rename_i c hb;exact Agt Nz hm (Dh Nz hm hx d) hf hb h
end
open Go.ChangeShapes Go.WideShapes Go.ChangeAt Go.RowKit Go.Deep
def WW(P:Program):List Field->Nat->Nat->Bool
 |[],i,n=>Nat.beq i n
 |f::r,i,n=>Nat.beq f.offset i&&WW P r (i+P.cellsOf f.type) n
def Qb(P:Program):Nat->TypeId->Bool
 |0,_=>false
 |d+1,t=>
  match P.underlying t with
  |some .bool=>true
  |some (.int _)=>true
  |some .string=>true
  |some (.slice e)=>Qb P d e&&Nat.blt 0 (P.cellsOf e)
  |some (.struct fs)=>WW P fs.toList 0 (P.cellsOf t)&&fs.toList.all fun f=>Qb P d f.type
  |some (.array n e)=>Nat.beq (P.cellsOf t) (n*P.cellsOf e)&&Qb P d e
  |_=>false
def WT(P:Program):Nat->TypeId->Ad->Prop
 |0,_,_=>False
 |d+1,t,ps=>
  match P.underlying t with
  |some .bool=>∃b,ps=[.sc (.bool b)]
  |some (.int k)=>∃n,ps=[.sc (.int k n)]/\(Lit.int k n).wf=true
  |some .string=>∃s:ByteArray,ps=[.sc (.string s)]/\s.size<=maxLen
  |some (.slice e)=>∃rows:List Ad,ps=[.lst false (P.cellsOf e) rows.length rows.flatten]/\rows.length<=maxLen/\∀r∈rows,r.length=P.cellsOf e/\WT P d e r
  |some (.struct fs)=>∃rows:List Ad,ps=rows.flatten/\Be (fun f r=>WT P d f.type r) fs.toList rows
  |some (.array n e)=>∃rows:List Ad,ps=rows.flatten/\rows.length=n/\∀r∈rows,r.length=P.cellsOf e/\WT P d e r
  |_=>False
def WTv(P:Program)(t:TypeId)(p:PV):Prop:=
 match Cj P t with
 |true=>∃ps,p=.agg ps/\WT P 12 t ps
 |false=>WT P 12 t [p]
section
variable {P:Program}{d:Nat}{t e:TypeId}{ps:Ad}
theorem Aup(hu:P.underlying t=some .bool):WT P (d+1) t ps↔∃b,ps=[.sc (.bool b)]:=by show (match P.underlying t with|some .bool=>_|some (.int k)=>_|some .string=>_|some (.slice e)=>_|some (.struct fs)=>_|some (.array n e)=>_|_=>_)↔_;rw[hu]
theorem Aqr{k:IntKind}(hu:P.underlying t=some (.int k)):WT P (d+1) t ps↔∃n,ps=[.sc (.int k n)]/\(Lit.int k n).wf=true:=by show (match P.underlying t with|some .bool=>_|some (.int k)=>_|some .string=>_|some (.slice e)=>_|some (.struct fs)=>_|some (.array n e)=>_|_=>_)↔_;rw[hu]
theorem Alo(hu:P.underlying t=some .string):WT P (d+1) t ps↔∃s:ByteArray,ps=[.sc (.string s)]/\s.size<=maxLen:=by show (match P.underlying t with|some .bool=>_|some (.int k)=>_|some .string=>_|some (.slice e)=>_|some (.struct fs)=>_|some (.array n e)=>_|_=>_)↔_;rw[hu]
theorem Aq5(hu:P.underlying t=some (.slice e)):WT P (d+1) t ps↔∃rows:List Ad,ps=[.lst false (P.cellsOf e) rows.length rows.flatten]/\rows.length<=maxLen/\∀r∈rows,r.length=P.cellsOf e/\WT P d e r:=by show (match P.underlying t with|some .bool=>_|some (.int k)=>_|some .string=>_|some (.slice e)=>_|some (.struct fs)=>_|some (.array n e)=>_|_=>_)↔_;rw[hu]
theorem Ak1{fs:Array Field}(hu:P.underlying t=some (.struct fs)):WT P (d+1) t ps↔∃rows:List Ad,ps=rows.flatten/\Be (fun f r=>WT P d f.type r) fs.toList rows:=by show (match P.underlying t with|some .bool=>_|some (.int k)=>_|some .string=>_|some (.slice e)=>_|some (.struct fs)=>_|some (.array n e)=>_|_=>_)↔_;rw[hu]
theorem Aru{n:Nat}(hu:P.underlying t=some (.array n e)):WT P (d+1) t ps↔∃rows:List Ad,ps=rows.flatten/\rows.length=n/\∀r∈rows,r.length=P.cellsOf e/\WT P d e r:=by show (match P.underlying t with|some .bool=>_|some (.int k)=>_|some .string=>_|some (.slice e)=>_|some (.struct fs)=>_|some (.array n e)=>_|_=>_)↔_;rw[hu]
end
inductive Ki where
 |bool
 |int (k:IntKind)
 |str
 |sl (e:TypeId)
 |st (ts:List TypeId)
 |ar (n:Nat) (e:TypeId)
 |no
def Aek(P:Program)(t:TypeId):Ki:=
 match P.underlying t with
 |some .bool=>.bool
 |some (.int k)=>.int k
 |some .string=>.str
 |some (.slice e)=>.sl e
 |some (.struct fs)=>.st (fs.toList.map (·.type))
 |some (.array n e)=>.ar n e
 |_=>.no
section
variable {P:Program}{d:Nat}{t e:TypeId}{ps:Ad}{p:PV}
theorem Be.cons_inv{α β:Type}{R:α->β->Prop}{a:α}{zs:List α}:∀{rs:List β},Be R (a::zs) rs->∃r rs',rs=r::rs'/\R a r/\Be R zs rs'
 |[],h=>h.elim
 |r::rs,h=>⟨r,rs,rfl,h.1,h.2⟩
theorem Be.nil_inv{α β:Type}{R:α->β->Prop}:∀{rs:List β},Be R ([]:List α) rs->rs=[]
 |[],_=>rfl
 |_::_,h=>h.elim
theorem A08{k:IntKind}(hk:Aek P t=.int k)(h:WT P d t ps):∃n,ps=[.sc (.int k n)]/\(Lit.int k n).wf=true:=by
 cases d with
 |zero=>exact h.elim
 |succ d=>
 unfold Aek at hk;split at hk<;>first|cases hk|skip
 rename_i hu;exact (Aqr hu).1 h
theorem Av6(hk:Cj P t=false)(h:WTv P t p):WT P 12 t [p]:=by unfold WTv at h;rw[hk] at h;exact h
theorem Ahm{k:IntKind}(ha:Cj P t=false)(hk:Aek P t=.int k)(h:WTv P t p):∃n,p=.sc (.int k n)/\(Lit.int k n).wf=true:=by obtain⟨b,e,h⟩:=A08 hk (Av6 ha h);exact⟨b,by injection e,h⟩
end
abbrev No:Nat->Prop:=fun _=>False
section
variable {H:Type}{enc:TypeId × Value->H}{P:Program}{w:World}{base:Nat}{held:Bool}
theorem Be.flat{α β:Type}{R:α->β->Prop}:∀{l:Bz}{f:Nat->List α}{g:Nat->List β},(∀i∈l,Be R (f i) (g i))->Be R (l.map f).flatten (l.map g).flatten
 |[],_,_,_=>trivial
 |i::l,f,g,h=>by
  simp only[U7,List.flatten_cons];exact (h i (by simp)).app (Be.flat fun j hj=>h j (by simp[hj]))
theorem Amn{a:Addr}{v:Value}(h:w.cell? a=some v):a.spot=none/\a.block<w.heap.size:=by
 unfold World.cell? at h;split at h
 ·rename_i c t f e;refine⟨?_,?_⟩
  ·cases hs:a.spot with
   |none=>rfl
   |some x=>rw[hs] at h;simp at h
  ·rcases Id a.block w.heap.size with h1|h1
   ·exact h1
   ·rw[Array.getElem?_eq_none h1] at e;cases e
 ·cases h
theorem PS{α:Type}{g:Nat->List α}{es:Nat}:∀{n:Nat},(∀i,i<n->(g i).length=es)->((List.range n).map g).flatten.length=n*es
 |0,_=>by simp
 |n+1,h=>by
  rw[List.range_succ,List.map_append,List.flatten_append,Xk,PS (fun i hi=>h i (by omega))];simp[h n (by omega),Nat.succ_mul]
theorem MO{a:Addr}{g:Nat->List Value}{es:Nat}:∀{n:Nat},(∀i,i<n->(g i).length=es)->(∀i,i<n->∀k,k<es->w.cell? (a.add (i*es+k))=(g i)[k]?) ->
  ∀j,j<n*es->w.cell? (a.add j)=(((List.range n).map g).flatten)[j]?
 |0,_,_,j,hj=>by omega
 |n+1,hl,hc,j,hj=>by
  have IX:=PS (fun i (hi:i<n)=>hl i (by omega));rw[List.range_succ,List.map_append,List.flatten_append,List.getElem?_append,IX];rw[Nat.succ_mul] at hj;split
  ·rename_i h1;exact MO (fun i hi=>hl i (by omega)) (fun i hi=>hc i (by omega)) j h1
  ·rename_i h1;have:=hc n (by omega) (j-n*es) (by omega);rw[show n*es+(j-n*es)=j by omega] at this
   simpa using this
abbrev TR(w:World)(c:PV)(v:Value):Prop:=(BG c/\At w No c v)/\v.oneCell'=true
theorem JT{d:Nat}{cs:List Value}{n:Nat}(hn:cs.length=n):∀(l:List Field)(i:Nat),WW P l i n=true ->
  (∀f∈l,∃ps,WT P d f.type ps/\Be (TR w) ps ((cs.drop f.offset).take (P.cellsOf f.type)))->∃rows:List Ad,Be (fun f r=>WT P d f.type r) l rows/\Be (TR w) rows.flatten (cs.drop i)
 |[],i,ho,_=>by
  have:=C6 ho;refine⟨[],trivial,?_⟩;rw[List.drop_of_length_le (by omega)];trivial
 |f::l,i,ho,h=>by
  simp only[WW,Er] at ho;have ho1:=C6 ho.1;obtain⟨ps,h1,h2⟩:=h f (by simp);obtain⟨rows,h3,h4⟩:=JT hn l _ ho.2 fun g hg=>h g (by simp[hg]);refine⟨ps::rows,⟨h1,h3⟩,?_⟩;rw[ho1] at h2;have:cs.drop i=(cs.drop i).take (P.cellsOf f.type)++cs.drop (i+P.cellsOf f.type):=by rw[<-List.drop_drop];exact (List.take_append_drop _ _).symm
  rw[this,List.flatten_cons];exact h2.app h4
theorem PX{d:Nat}{e:TypeId}{cs:List Value}{k:Nat}:∀(n:Nat),n*k<=cs.length ->
  (∀i,i<n->∃ps,(ps.length=k/\WT P d e ps)/\Be (TR w) ps ((cs.drop (i*k)).take k))->∃rows:List Ad,rows.length=n/\(∀r∈rows,r.length=k/\WT P d e r)/\Be (TR w) rows.flatten (cs.take (n*k))
 |0,_,_=>⟨[],rfl,by simp,by simp[Be]⟩
 |n+1,hl,h=>by
  rw[Nat.succ_mul] at hl;obtain⟨rows,h1,h2,h3⟩:=PX n (by omega) fun i hi=>h i (by omega);obtain⟨ps,h4,h5⟩:=h n (by omega);refine⟨rows++[ps],by simp[h1],?_,?_⟩
  ·intro r hr;rcases Bn.1 hr with hr|hr
   ·exact h2 r hr
   ·rw[Sc.1 hr];exact h4
  ·rw[List.flatten_append,Nat.succ_mul,List.take_add];refine h3.app ?_
   simpa using h5
theorem Zg:∀(d:Nat)(t:TypeId),Qb P d t=true->∀(fuel:Nat)(cs:List Value)(x:DataW H × List MemPlace),DataW.trod enc P w base (fun _=>true) held fuel t cs=some x ->
  ∃ps,WT P d t ps/\Be (TR w) ps cs
 |0,_,h,_,_,_,_=>by cases h
 |d+1,t,hp,fuel,cs,x,h=>by
  unfold Qb at hp;split at hp
  ·rename_i hu;obtain⟨b,rfl,_⟩:=DataW.trod_bool hu h;simp only[Aup hu];exact⟨[.sc (.bool b)],⟨b,rfl⟩,⟨⟨trivial,At.sc _⟩,rfl⟩,trivial⟩
  ·rename_i k hu;obtain⟨n,rfl,_,hw⟩:=DataW.trod_int hu h;simp only[Aqr hu];exact⟨[.sc (.int k n)],⟨n,rfl,hw⟩,⟨⟨trivial,At.sc _⟩,rfl⟩,trivial⟩
  ·rename_i hu;obtain⟨s,rfl,_,hw⟩:=DataW.trod_string hu h;simp only[Alo hu];exact⟨[.sc (.string s)],⟨s,rfl,hw⟩,⟨⟨trivial,At.sc _⟩,rfl⟩,trivial⟩
  ·rename_i e hu;simp only[Er] at hp;have AB:0<P.cellsOf e:=Nat.lt_of_succ_le (Oj hp.2);simp only[Aq5 hu];rcases open_slice hu h with⟨rfl,_⟩|⟨a,len,cap,m,n,D,Pl,rfl,_,hl,hm,hmm,_,hi⟩
   ·exact⟨[.lst false (P.cellsOf e) 0 []],⟨[],by simp,by simp,by simp⟩,⟨⟨trivial,At.lnil _ _⟩,rfl⟩,trivial⟩
   ·simp only[if_true] at hmm;subst hmm
    have hi':∀i,i<len->∃q:Ad × List Value,(q.2.length=P.cellsOf e/\(∀k,k<P.cellsOf e->w.cell? (a.add (i*P.cellsOf e+k))=q.2[k]?))/\WT P d e q.1/\Be (TR w) q.1 q.2:=by
     intro i Cm;obtain⟨cs',hc,ht⟩:=hi i (by omega);obtain⟨_,O7,hat⟩:=World.cells?_some hc;obtain⟨ps,h1,h2⟩:=Zg d e hp.1 _ _ _ ht;exact⟨(ps,cs'),⟨O7,fun k hk=>by rw[<-Pv.add_add];exact hat k hk⟩,h1,h2⟩
    obtain⟨F,hF⟩:=choose_lt hi';refine⟨[.lst false (P.cellsOf e) len ((List.range len).map fun i=>(F i).1).flatten],⟨(List.range len).map fun i=>(F i).1,by simp,by simp;omega,?_⟩,⟨⟨trivial,?_⟩,rfl⟩,trivial⟩
    ·intro r hr;obtain⟨i,hi1,rfl⟩:=List.mem_map.1 hr;have hi2:=List.mem_range.1 hi1;exact⟨by rw[(hF i hi2).2.2.len];exact (hF i hi2).1.1,(hF i hi2).2.1⟩
    ·rcases Nat.eq_zero_or_pos len with h0|h0
     ·subst h0;exact At.lemp _ _ _
     ·have Si:Be (TR w) ((List.range len).map fun i=>(F i).1).flatten ((List.range len).map fun i=>(F i).2).flatten:=Be.flat fun i hi=>(hF i (List.mem_range.1 hi)).2.2;have hcell:=MO (w:=w) (a:=a) (g:=fun i=>(F i).2) (fun i hi=>(hF i hi).1.1) (fun i hi=>(hF i hi).1.2);have Eb:=PS (g:=fun i=>(F i).2) (fun i (hi:i<len)=>(hF i hi).1.1)
      have h00:w.cell? a≠none:=by
       have:=hcell 0 (Nat.mul_pos h0 AB);rw[show a.add 0=a by unfold Addr.add;simp] at this
       rw[this,List.getElem?_eq_getElem (by rw[Eb];exact Nat.mul_pos h0 AB)]
       simp
      obtain⟨v0,hv0⟩:=Option.ne_none_iff_exists'.1 h00;obtain⟨hs,hb⟩:=Amn hv0
      have key:∀j c,(((List.range len).map fun i=>(F i).1).flatten)[j]?=some c->∃v,w.cell? (a.add j)=some v/\TR w c v:=by
       intro j c hj
       have hlj:j<len*P.cellsOf e:=by
        rw[<-Eb,<-Si.len];rcases Id j (((List.range len).map fun i=>(F i).1).flatten).length with h1|h1
        ·exact h1
        ·rw[List.getElem?_eq_none h1] at hj;cases hj
       have h1:=hcell j hlj;rw[List.getElem?_eq_getElem (by rw[Eb];exact hlj)] at h1
       exact⟨_,h1,Si.at_ hj (List.getElem?_eq_getElem (by rw[Eb];exact hlj))⟩
      refine At.lst _ _ _ a _ (fun j=>(w.cell? (a.add j)).getD undef) hs hb (fun h=>h) hl (fun j c hj=>?_) (fun j c hj=>?_) (fun j c hj=>?_)
      ·obtain⟨v,hv,_⟩:=key j c hj;rw[hv];rfl
      ·obtain⟨v,hv,ht⟩:=key j c hj;rw[hv];exact ht.2
      ·obtain⟨v,hv,ht⟩:=key j c hj;rw[hv];exact ht.1.2
  ·rename_i fs hu;simp only[Er] at hp;simp only[Ak1 hu];obtain⟨xs,n,_,_,Eb,hxl,hf⟩:=DataW.trod_struct hu h
   obtain⟨rows,h1,h2⟩:=JT (P:=P) (w:=w) (d:=d) Eb fs.toList 0 hp.1 fun f hf'=>by
    obtain⟨i,hi⟩:=List.mem_iff_getElem?.1 hf';have hi':fs[i]?=some f:=by simpa using hi
    have Cm:i<fs.size:=(Array.getElem?_eq_some_iff.1 hi').1;have h3:=hf i f hi';rw[List.getElem?_eq_getElem (by omega)] at h3;exact Zg d f.type (List.all_eq_true.1 hp.2 f hf') _ _ _ h3
   exact⟨_,⟨rows,rfl,h1⟩,by simpa using h2⟩
  ·rename_i n e hu;simp only[Er] at hp;simp only[Aru hu];obtain⟨xs,m,_,_,Eb,hxl,hf⟩:=DataW.trod_array hu h;have Sx:=C6 hp.1
   obtain⟨rows,h1,h2,h3⟩:=PX (P:=P) (w:=w) (d:=d) (e:=e) (cs:=cs) (k:=P.cellsOf e) n (by omega) fun i hi=>by
    have h3:=hf i hi;rw[List.getElem?_eq_getElem (by omega)] at h3;obtain⟨ps,h4,h5⟩:=Zg d e hp.2 _ _ _ h3;refine⟨ps,⟨?_,h4⟩,h5⟩;rw[h5.len,List.length_take,List.length_drop,Eb,Sx];have:(i+1)*P.cellsOf e<=n*P.cellsOf e:=Nat.mul_le_mul_right _ hi;rw[Nat.succ_mul] at this;omega
   refine⟨_,⟨rows,rfl,h1,h2⟩,?_⟩;rw[Ji (by omega)] at h3;exact h3
  ·cases hp
theorem Aod{r:Reach}{b0:Nat}{t:TypeId}{v:Value}{dd:DataW H}{p:List MemPlace}(hp:Qb P 12 t=true)(hv:Value.okWide P w r b0 t v)(h:DataW.Trod enc P w base (fun _=>true) held t v dd p):
  ∃q,WTv P t q/\Vq w No q v:=by
 obtain⟨fuel,hf⟩:=h;obtain⟨ps,h1,h2⟩:=Zg 12 t hp fuel _ _ hf;unfold WTv Cj
 have two:∀{cs:Array Value},v=.agg cs->∃q,(∃ps,q=.agg ps/\WT P 12 t ps)/\Vq w No q v:=by
  intro cs e;subst e;exact⟨.agg ps,⟨ps,rfl,h1⟩,cs.toList,by simp,h2.mono fun c v h=>h.1⟩
 have one:v.cells.toList=[v]->∃q,WT P 12 t [q]/\Vq w No q v:=by
  intro e;rw[e] at h2
  match ps,h2 with
  |[q],h2=>
   refine⟨q,h1,?_⟩;have h3:=h2.1.1;cases q<;>first|exact h3|exact h3.1.elim
  |[],h2=>exact h2.elim
  |_::_::_,h2=>exact h2.2.elim
 unfold Qb at hp;split at hp
 ·rename_i hu;simp only[hu];obtain⟨b,rfl,_⟩:=open_bool hu hv ⟨fuel,hf⟩;exact one rfl
 ·rename_i k hu;simp only[hu];obtain⟨b,rfl,_⟩:=open_int hu hv ⟨fuel,hf⟩;exact one rfl
 ·rename_i hu;simp only[hu];obtain⟨b,rfl,_⟩:=ChangeMaps.open_string hu hv ⟨fuel,hf⟩;exact one rfl
 ·rename_i e hu;simp only[hu];obtain⟨a,len,cap,rfl⟩:=okWide_slice hu hv;exact one rfl
 ·rename_i fs hu;simp only[hu];obtain⟨cs,rfl,_⟩:=okWide_struct hu hv;exact two rfl
 ·rename_i n e hu;simp only[hu];unfold Value.okWide at hv;simp only[hu] at hv;obtain⟨cs,rfl,_⟩:=hv;exact two rfl
 ·cases hp
theorem TP:∀{ts:List TypeId}{vs:List Value}{ds:List (DataW H)} {p:List MemPlace}{r:Reach}{b0:Nat},(ts.all fun t=>Qb P 12 t)=true->(∀(j:Nat) t v,ts[j]?=some t->vs[j]?=some v->Value.okWide P w r b0 t v) ->
  DataW.TrodAll enc P w base (fun _=>true) held ts vs ds p->∃qs,Be (WTv P) ts qs/\Be (Vq w No) qs vs
 |[],[],[],_,_,_,_,_,_=>⟨[],trivial,trivial⟩
 |t::ts,v::vs,d::ds,_,r,b0,hp,hv,⟨p,q,h1,h2,_⟩=>by
  simp only[List.all_cons,Er] at hp;obtain⟨x,h3,h4⟩:=Aod hp.1 (hv 0 t v rfl rfl) h1;obtain⟨xs,h5,h6⟩:=TP hp.2 (fun j t v ht S0=>hv (j+1) t v ht S0) h2;exact⟨x::xs,⟨h3,h5⟩,h4,h6⟩
 |[],_::_,_,_,_,_,_,_,h=>by cases h
 |[],[],_::_,_,_,_,_,_,h=>by cases h
 |_::_,[],_,_,_,_,_,_,h=>by cases h
 |_::_,_::_,[],_,_,_,_,_,h=>by cases h
theorem BB(hl:laidOutB P=true){W W':World}{sp:Nat->Bool}:∀{ts:List TypeId}{vs:List Value}{ds:List (DataW H)} {p:List MemPlace},(ts.all fun t=>P.readableRec t&&Nat.blt t P.types.size)=true ->
  DataW.TrodAll enc P W 0 (fun _=>true) true ts vs ds p->(∀x∈p,W.sameAt W' x)->(∀x∈p,sp x.block=true)->DataW.TrodAll enc P W' 0 sp true ts vs ds p
 |[],[],[],_,_,h,_,_=>h
 |t::ts,v::vs,d::ds,_,hr,⟨p,q,h1,h2,e⟩,hs,hsp=>by
  simp only[List.all_cons,Er] at hr;refine⟨p,q,WideElems.Trod_stays hl hr.1.1 (Nat.lt_of_succ_le (Oj hr.1.2)) h1 (fun x hx=>hs x ?_) (fun x hx=>hsp x ?_),BB hl hr.2 h2 (fun x hx=>hs x ?_) (fun x hx=>hsp x ?_),e⟩
  all_goals rw[e,Bn]
  ·exact .inl hx
  ·exact .inl hx
  ·exact .inr hx
  ·exact .inr hx
 |[],_::_,_,_,_,h,_,_=>by cases h
 |[],[],_::_,_,_,h,_,_=>by cases h
 |_::_,[],_,_,_,h,_,_=>by cases h
 |_::_,_::_,[],_,_,h,_,_=>by cases h
theorem SN{f:Func}{s:ChangeSpec}{apart fresh WP again:Bool}{W W':World}{args:Array Value}{v:Value}{ds gs:List (DataW H)}{before pa pv:List MemPlace}(hW:DataW.Whole enc P f.params.toList s.vars apart W args.toList ds gs before)(A7c:∀(b:Nat)(sp:Nat->Bool)(hd:Bool),DataW.TrodAll enc P W' b sp hd f.resultTypes.toList (v.resultList f.resultTypes.size) (s.fn H (ds++gs)).results [])(F9:∀sp:Nat->Bool,(∀p∈before,sp p.block=true)->DataW.TrodAll enc P W' 0 sp true f.params.toList args.toList (s.fn H (ds++gs)).args pa)(Abl:∀sp:Nat->Bool,(∀p∈before,sp p.block=true)->DataW.TrodVars enc P W' sp s.vars (s.fn H (ds++gs)).vars pv)(LH:before=pa++pv)(hb:Below W.heap.size W W')(hok:∀(j:Nat)(t:TypeId)(r:Value),f.resultTypes[j]?=some t->(v.resultList f.resultTypes.size)[j]?=some r->Value.okWide P W' .any 0 t r):
  s.post enc P f apart fresh WP again W args v W':=by
 have Cm:∀p∈before,p.block<W.heap.size:=fun p hp=>hW.lt p hp;have hold:∀p∈before,(fun b=>decide (b<W.heap.size)) p.block=true:=fun p hp=>by simpa using Cm p hp
 refine⟨ds,gs,before,[],pa,pv,hW,A7c _ _ _,F9 _ hold,Abl _ hold,World.keptBut_mono (fun p hp=>⟨hp,?_⟩) (hb.frame (· ∈ before)),fun _=>?_⟩
 ·rw[LH,Bn] at hp;exact Or.inr hp
 ·obtain⟨_,_,_,_,_,hz,hn⟩:=hW;refine⟨hok,_,_,([]++pa)++pv,⟨[]++pa,pv,trodAll_append (F9 _ (fun _ _=>rfl)) (A7c _ _ _),Abl _ (fun _ _=>rfl),rfl,?_,?_⟩,?_⟩
  ·intro b off hp;have DH:MemPlace.cell b off∈before:=by rw[LH];simpa using hp
   rw[hb.frozen (Cm _ DH)];exact hz b off DH
  ·intro ha;have:=hn ha;rw[LH] at this
   simpa using this
  ·intro p hp _;rw[LH]
   simpa using hp
theorem law_contract{G:BE}{C:Gw}(hx:ES G P C)(Nz:NoNG P)(hm:P.follows .mixedOrders=true)(hl:laidOutB P=true){f:FuncId}{fn:Func}{s:ChangeSpec}{tb:TypeId}(hfn:P.funcs[f]?=some fn)(Abl:s.vars=[])(A7s:∀ds:List (DataW H),ds.length=fn.params.size->s.fn H ds={ results:=[.lit (.bool true)],args:=ds })(A1v:(fn.params.toList.all fun t=>Qb P 12 t)=true)(A64:(fn.params.toList.all fun t=>P.readableRec t&&Nat.blt t P.types.size)=true)(hrt:fn.resultTypes = #[tb])(hub:P.underlying tb=some .bool){apart fresh WP again:Bool}(W:World)(base:Nat)(args:Array Value)(ds gs:List (DataW H))(before:List MemPlace)(hval:∀(j:Nat) t v,fn.params[j]?=some t->args[j]?=some v->Value.okWide P W .any base t v)(hW:DataW.Whole enc P fn.params.toList s.vars apart W args.toList ds gs before)(Bcu:∀qs:Ad,Be (WTv P) fn.params.toList qs->∃fu d,Ac C P fu d f qs=some ⟨[.sc (.bool true)],[]⟩)(hG:G.ok W)(hGY:∀b,G.bl b->b<W.heap.size):
  Calls P f args W fun e W'=>∃v,e=.returned v/\s.post enc P fn apart fresh WP again W args v W':=by
 have hW':=hW;obtain⟨p,q,hA,hV,rfl,HO,hnd⟩:=hW;rw[Abl] at hV;obtain⟨rfl,rfl⟩:=trodVars_none hV;obtain⟨qs,h1,h2⟩:=TP A1v (fun j t v ht hv=>hval j t v (by simpa using ht) (by simpa using hv)) hA;obtain⟨fu,d,hc⟩:=Bcu qs h1;have hS:=(Dh Nz hm hx d f qs _ hc).2 W No YM args.toList (QL (fun b h=>h.elim) h2) hG (fun b hb=>⟨hGY b hb,Sn b⟩);rw[Array.toArray_toList] at hS;refine hS.mono fun e W' ⟨vs,own,he,ho⟩=>?_;have hv:=ho.vals
 have Wx:vs=[.bool true]:=by
  match vs,hv with
  |[u],hv=>
   have:At W' _ (.sc (.bool true)) u:=hv.1;rw[this.val]
  |[],hv=>exact hv.elim
  |_::_::_,hv=>exact hv.2.elim
 subst Wx;subst he;have hb:Below W.heap.size W W':=⟨ho.os,ho.tape,ho.output,ho.ext.size,fun k hk=>ho.ext.keep k hk (Sn k)⟩
 have Cm:∀x∈p,x.block<W.heap.size:=fun x hx=>hW'.lt x (by simpa using hx)
 have Eb:ds.length=fn.params.size:=by
  have:∀{ts:List TypeId} {vs:List Value} {ds:List (DataW H)} {p:List MemPlace},DataW.TrodAll enc P W 0 (fun _=>true) true ts vs ds p->ds.length=ts.length:=by
   intro ts
   induction ts with
   |nil=>intro vs ds p h;cases vs<;>cases ds<;>first|rfl|cases h
   |cons t ts ih=>
    intro vs ds p h;cases vs with
    |nil=>cases h
    |cons v vs=>
     cases ds with
     |nil=>cases h
     |cons d ds=>obtain⟨_,_,_,h2,_⟩:=h;simp[ih h2]
  simpa using this hA
 have hsp:=A7s (ds++[]) (by simpa using Eb);refine⟨_,rfl,SN (pa:=p) (pv:=[]) hW' ?_ ?_ ?_ rfl hb ?_⟩
 ·intro b sp hd;rw[hsp,hrt];exact trodAll_mk1 (shut_bool hub _)
 ·intro sp Bcp;rw[hsp];simp only[List.append_nil];exact BB hl A64 hA (fun x hx=>hb.same (Cm x hx)) (fun x hx=>Bcp x (by simpa using hx))
 ·intro sp _;rw[hsp,Abl];rfl
 ·exact ok_one hrt rfl (okWide_bool_mk hub _)
end
end
theorem A3t{n:Int}(h:(Lit.int .u8 n).wf=true):0<=n/\n<=255:=by simp[Lit.wf,IntKind.min,IntKind.max,IntKind.signed,IntKind.bits] at h;omega
instance : Coe Int PV:=⟨fun x=>.sc (.int .i64 x)⟩
instance : Coe Bool PV:=⟨fun x=>.sc (.bool x)⟩
instance : Coe ByteArray PV:=⟨fun x=>.sc (.string x)⟩
abbrev C9(x:Bool):PV:=.sc (.bool x)
abbrev Bo(x:ByteArray):PV:=.sc (.string x)
theorem Bb{x:Int}(h1:-9223372036854775808<=x:=by omega)(h2:x<=9223372036854775807:=by omega):IntKind.wrap .i64 x=x:=Fz h1 h2
theorem Ey{x:Int}(h1:0<=x:=by omega)(h2:x<=18446744073709551615:=by omega):IntKind.wrap .u64 x=x:=wrap_u64 h1 h2
theorem Bk{x y:Int}(h1:-9223372036854775808<=x:=by omega)(h2:x<=9223372036854775807:=by omega)(h:x=y:=by omega):IntKind.wrap .i64 x=y:=(Fz h1 h2).trans h
abbrev Aw(x:Int):PV:=.sc (.int .i64 x)
abbrev Ah(x:Int):PV:=.sc (.int .u64 x)
abbrev A5(k n:Nat)(l:Ad):PV:=.lst false k n l
abbrev Bj(l:Ad):Option A1:=some ⟨l,[]⟩
abbrev D6(c:Option A1)(k:PV->Ad->Option A1):Option A1:=Bm c fun x y=>Ap y<|Ai x k
abbrev Ee(k:IntKind)(l:Ad)(f:Int->Ad->Option A1):Option A1:=Ai l fun x y=>Bc k x fun z=>f z y
abbrev Gz(k:IntKind)(c:Option A1)(f:Int->Option A1):Option A1:=Bm c fun x y=>Ap y<|Ai x fun z t=>Bc k z fun u=>Ap t<|f u
abbrev Z7(k:Nat)(l:Ad)(f:Nat->Ad->Ad->Option A1):Option A1:=Ai l fun x y=>Xd k x fun _ n c=>f n c y
abbrev YL(k:Nat)(l:Ad)(f:Nat->Ad->Ad->Option A1):Option A1:=Ai l fun x y=>Lg k x fun n c=>f n c y
abbrev Qp(l:Ad)(f:Bool->Option A1):Option A1:=Ai l fun x y=>Bu x fun z=>Ap y<|f z
abbrev Dn(k:IntKind)(l:Ad)(f:Int->Option A1):Option A1:=Ai l fun x y=>Bc k x fun z=>Ap y<|f z
abbrev ZzA(n k m:Nat)(l e:Ad)(f:Nat->Ad->Option A1):Option A1:=Ar (decide (n*k<=l.length)&&true&&decide ((n+1)*m<=1099511627776)&&decide (n+1<=1099511627776))<|f (n+1) (List.take (n*k) l++e)
abbrev Ll(fu:Nat)(call:Aq)(i:FuncId)(f:Func):=A6q CB prog fu call i f (YQ f)
inductive ZzQ:Bool->Bool->Prop
|t:ZzQ true true
|f:ZzQ false false
theorem Ix{R:Type}{b c:Bool}{x y r:Option R}(h:ZzQ b c)(k:(match (generalizing:=false) c with|true=>x|false=>y)=r):Ax b x y=r:=by cases h<;>exact k
theorem I8:type_of% gT/\type_of% gF/\type_of% @Bool.not_true/\type_of% @Bool.not_false/\type_of% @decide_eq_true/\type_of% @decide_eq_false/\type_of% @decide_true/\type_of% @decide_false:=⟨gT,gF,@Bool.not_true,@Bool.not_false,@decide_eq_true,@decide_eq_false,@decide_true,@decide_false⟩
theorem A3(n k m:Nat)(l e:Ad)(f:Nat->Ad->Option A1):ZzA n k m l e f=(Ar (decide (n*k<=l.length)&&true&&decide ((n+1)*m<=1099511627776)&&decide (n+1<=1099511627776))<|f (n+1) (List.take (n*k) l++e)):=by exact id rfl
abbrev O9(C:Gw)(fu d:Nat)(F:FuncId)(l:Ad)(b:Aq->Option A1):Prop:=Ac C prog fu (d+1) F l=b (Ac C prog fu d)
section
variable {xs:FuncId->Option (Ad->Option A1)}(fu d:Nat)(call:Aq)
theorem AE(Z Y:Int):O9 (CX xs) fu d 146 [Ah Z,Y] fun call=>Aa (wrap .u64 Y) fun a=>Aa (D3 .u64 a 63) fun a=>Ar (decide (0<=a))<|Aa (Fb .u64 Z a) fun b=>Aa (wrap .u64 (64-a)) fun a=>Ar (decide (0<=a))<|Aa (Gl .u64 Z a) fun a=>Aa (CQ .u64 b a) fun a=>Bj [Ah a]:=by show _=_;kernel_rfl
def H1(Z:Nat)(Y:Ad)(X W V:Nat)(U:Ad)(T S:Int)(Q:Ad):Option A1:=Ll fu call 66 Tryz.f66 [A5 1 Z Y] [.r,.r,.l,.r,.l] X ⟨lk [(3,.view 3 1 0 W),(11,A5 1 V U),(12,T),(13,S)],Fw [(3,.ar false Q)]⟩
def Kp(Z:Nat)(Y:Ad)(X W V:Nat)(U:Int)(T:Nat)(S:Ad)(Q P O:Int)(N:Ad):Option A1:=Ll fu call 66 Tryz.f66 [A5 1 Z Y] [.r,.r,.l,.r,.l,.i X,.r,.r,.l,.l,.r,.r,.l] W ⟨lk [(3,.view 3 1 0 V),(5,Ah U),(11,A5 1 T S),(12,Q),(13,P),(17,O)],Fw [(3,.ar false N)]⟩
theorem Su(T:Nat)(S:Ad)(Q Y W:Nat)(V:Ad)(U Z:Int)(X:Ad):H1 fu call T S (Q+1) Y W V U Z X=(Ax (decide (Z<U)) (Ar (decide (0<=Z)&&decide (Z<(↑W:Int)))<|Bc .u64 (V.getD (Z.toNat*1) .top) fun a=>Kp fu call T S Q fu Y a W V U Z 0 X) (Ar (decide (Y*1<=X.length))<|Bj [.own 1 Y (X.take (Y*1))])):=by kernel_rfl
theorem Sk(Y:Nat)(X:Ad)(W N V:Nat)(U:Int)(T:Nat)(S:Ad)(Q P Z:Int)(O:Ad):Kp fu call Y X W (N+1) V U T S Q P Z O=(Ax (decide (Z<8)) (Aa (wrap .i64 (8*Z)) fun a=>Aa (wrap .i64 (56-a)) fun a=>Ar (decide (0<=a))<|Aa (Gl .u64 U a) fun a=>Aa (wrap .u8 a) fun a=>ZzA V 1 1 O [.sc (.int .u8 a)] fun a b=>Aa (wrap .i64 (Z+1)) fun c=>Kp fu call Y X W N a U T S Q P c b) (Aa (wrap .i64 (P+1)) fun a=>H1 fu call Y X W V T S Q a O)):=by kernel_rfl
theorem OR(Z:Nat)(Y:Ad):O9 (CX xs) fu d 66 [A5 1 Z Y] fun call=>Aa (wrap .i64 (8*(↑Z:Int))) fun a=>Ar (decide (0<=a)&&decide (a*1<=1099511627776)&&decide (a<=1099511627776))<|H1 fu call Z Y fu 0 Z Y (↑Z:Int) 0 ([]):=by show _=_;kernel_rfl
def Jl(Z:Nat)(Y:Ad)(X:Nat)(W:Int)(V:Nat)(U:Ad)(T S:Int):Option A1:=Ll fu call 124 Tryz.f124 [A5 1 Z Y] [.r,.r,.l,.r,.l] X ⟨lk [(3,Ah W),(6,A5 1 V U),(7,T),(8,S)],Fw []⟩
theorem Rv(U:Nat)(T:Ad)(S:Nat)(Y:Int)(X:Nat)(W:Ad)(V Z:Int):Jl fu call U T (S+1) Y X W V Z=(Ax (decide (Z<V)) (Ar (decide (0<=Z)&&decide (Z<(↑X:Int)))<|Bc .u8 (W.getD (Z.toNat*1) .top) fun a=>Aa (wrap .u64 a) fun a=>Aa (wrap .i64 (8*Z)) fun b=>Ar (decide (0<=b))<|Aa (Fb .u64 a b) fun a=>Aa (CQ .u64 Y a) fun a=>Aa (wrap .i64 (Z+1)) fun b=>Jl fu call U T S a X W V b) (Bj [Ah Y])):=by kernel_rfl
theorem LQ(Z:Nat)(Y:Ad):O9 (CX xs) fu d 124 [A5 1 Z Y] fun call=>Jl fu call Z Y fu 0 Z Y (↑Z:Int) 0:=by show _=_;kernel_rfl
def Fo(Z Y:Int)(X W V:Int)(U:Nat)(T S:Int)(Q P:Int)(O N:Int):Option A1:=Ll fu call 125 Tryz.f125 [.pbox [Ah Z,Ah Y,Ah X,Ah W],V] [.r,.l] U ⟨lk [(0,.ptr 288000 0),(4,T),(5,S)],Fw [(288000,.st [Ah Q,Ah P,Ah O,Ah N])]⟩
theorem Kk(T S:Int)(Q P O:Int)(N:Nat)(X W:Int)(V Z:Int)(U Y:Int):Fo fu call T S Q P O (N+1) X W V Z U Y=(Ax (decide (W<X)) (Aa (wrap .u64 (V+Z)) fun a=>Gz .u64 (call 146 [Ah Z,(13:Int)]) fun b=>Aa (D7 .u64 b a) fun b=>Gz .u64 (call 146 [Ah a,(32:Int)]) fun a=>Aa (wrap .u64 (U+Y)) fun c=>Gz .u64 (call 146 [Ah Y,(16:Int)]) fun e=>Aa (D7 .u64 e c) fun e=>Aa (wrap .u64 (a+e)) fun a=>Gz .u64 (call 146 [Ah e,(21:Int)]) fun e=>Aa (D7 .u64 e a) fun e=>Aa (wrap .u64 (c+b)) fun c=>Gz .u64 (call 146 [Ah b,(17:Int)]) fun b=>Aa (D7 .u64 b c) fun b=>Gz .u64 (call 146 [Ah c,(32:Int)]) fun c=>Aa (wrap .i64 (W+1)) fun f=>Fo fu call T S Q P O N X f a b c e) (some ⟨[],[[Ah V,Ah Z,Ah U,Ah Y]]⟩)):=by kernel_rfl
theorem Wz(Z Y:Int)(X W V:Int):O9 (CX xs) fu d 125 [.pbox [Ah Z,Ah Y,Ah X,Ah W],V] fun call=>Fo fu call Z Y X W V fu V 0 Z Y X (W):=by show _=_;kernel_rfl
theorem Wu(Y X:Int)(W V Z:Int):O9 (CX xs) fu d 123 [.pbox [Ah Y,Ah X,Ah W,Ah V],Ah Z] fun call=>Aa (D7 .u64 V Z) fun a=>Bm (call 125 [.pbox [Ah Y,Ah X,Ah W,Ah a],(2:Int)]) fun a b=>Ap a<|Ai b fun a b=>Ee .u64 a fun a c=>Ee .u64 c fun c e=>Ee .u64 e fun e f=>Dn .u64 f fun f=>Ap b<|Aa (D7 .u64 a Z) fun a=>some ⟨[],[[Ah a,Ah c,Ah e,Ah f]]⟩:=by show _=_;kernel_rfl
def Kl(Z Y:Int)(X:Nat)(W:Ad)(V U:Nat)(T:Ad)(S Q:Int)(P O:Int)(N M L:Int):Option A1:=Ll fu call 98 Tryz.f98 [Ah Z,Ah Y,A5 1 X W] [.r,.r,.r,.l,.r,.l] V ⟨lk [(2,A5 1 U T),(7,.ptr 7 0),(8,S),(22,Q),(23,P)],Fw [(7,.st [Ah O,Ah N,Ah M,Ah L])]⟩
theorem V6(P O:Int)(N:Nat)(M:Ad)(L Z:Nat)(X:Ad)(W V:Int)(Y U:Int)(T S Q:Int):Kl fu call P O N M (L+1) Z X W V Y U T S Q=((fun g:PV=>Ax (decide (Y<V)) (Aa (wrap .i64 (8*Y)) fun a=>Aa (wrap .i64 (8*Y)) fun b=>Aa (wrap .i64 (b+8)) fun b=>Ar (decide (0<=a))<|Ar (decide (0<=b))<|Ar (decide (a.toNat<=b.toNat)&&decide (b.toNat<=Z))<|Aa (b.toNat-a.toNat) fun b=>Aa (List.take (b*1) (X.drop (a.toNat*1))) fun a=>Gz .u64 (call 124 [A5 1 b a]) fun a=>Bm (call 123 [g,Ah a]) fun a b=>Ap a<|Ai b fun a b=>Ee .u64 a fun a c=>Ee .u64 c fun c e=>Ee .u64 e fun e f=>Dn .u64 f fun f=>Ap b<|Aa (wrap .i64 (Y+1)) fun b=>Kl fu call P O N M L Z X W V b a c e f) (Aa (wrap .i64 (8*W)) fun a=>Ar (decide (0<=a))<|Ar (decide (a.toNat<=Z)&&decide (Z<=Z))<|Aa (Z-a.toNat) fun b=>Aa (List.take (b*1) (X.drop (a.toNat*1))) fun a=>Gz .u64 (call 124 [A5 1 b a]) fun a=>Aa (wrap .u64 (↑Z:Int)) fun b=>Aa (Fb .u64 b 56) fun b=>Aa (CQ .u64 a b) fun a=>Bm (call 123 [g,Ah a]) fun a b=>Ap a<|Ai b fun a b=>Ee .u64 a fun a c=>Ee .u64 c fun c e=>Ee .u64 e fun e f=>Dn .u64 f fun f=>Ap b<|Aa (D7 .u64 e 255) fun b=>Bm (call 125 [.pbox [Ah a,Ah c,Ah b,Ah f],(4:Int)]) fun a b=>Ap a<|Ai b fun a b=>Ee .u64 a fun a c=>Ee .u64 c fun c e=>Ee .u64 e fun e f=>Dn .u64 f fun f=>Ap b<|Aa (D7 .u64 a c) fun a=>Aa (D7 .u64 a e) fun a=>Aa (D7 .u64 a f) fun a=>Bj [Ah a])) (.pbox [Ah U,Ah T,Ah S,Ah Q])):=by kernel_rfl
theorem YH(Z Y:Int)(X:Nat)(W:Ad):O9 (CX xs) fu d 98 [Ah Z,Ah Y,A5 1 X W] fun call=>Aa (D7 .u64 Z 8317987319222330741) fun a=>Aa (D7 .u64 Y 7237128888997146477) fun b=>Aa (D7 .u64 Z 7816392313619706465) fun c=>Aa (D7 .u64 Y 8387220255154660723) fun e=>Aa (wrap .i64 (Int.tdiv (↑X:Int) 8)) fun f=>Kl fu call Z Y X W fu X W f f 0 a b c e:=by show _=_;kernel_rfl
theorem SC(Z:Int)(Y:Nat)(X:Ad):O9 (CX xs) fu d 64 [Z,A5 1 Y X] fun call=>Aa (wrap .u64 Z) fun a=>Gz .u64 (call 98 [Ah a,Ah 0,A5 1 Y X]) fun a=>Bj [Ah a]:=by show _=_;kernel_rfl
theorem DE(Y Z:Int):O9 (CX xs) fu d 136 [Ah Y,Ah Z] fun call=>Ar (decide (0<=Z))<|Aa (Fb .u64 Y Z) fun a=>Aa (wrap .u64 (64-Z)) fun b=>Ar (decide (0<=b))<|Aa (Gl .u64 Y b) fun b=>Aa (CQ .u64 a b) fun a=>Bj [Ah a]:=by show _=_;kernel_rfl
theorem AG(X Z:Int)(W Y:Int):O9 (CX xs) fu d 112 [.agg [Ah X,Ah Z,Ah W,Ah Y]] fun call=>Aa (wrap .u64 (X+Z)) fun a=>Gz .u64 (call 136 [Ah Z,Ah 13]) fun b=>Aa (D7 .u64 b a) fun b=>Gz .u64 (call 136 [Ah a,Ah 32]) fun a=>Aa (wrap .u64 (W+Y)) fun c=>Gz .u64 (call 136 [Ah Y,Ah 16]) fun e=>Aa (D7 .u64 e c) fun e=>Aa (wrap .u64 (a+e)) fun a=>Gz .u64 (call 136 [Ah e,Ah 21]) fun e=>Aa (D7 .u64 e a) fun e=>Aa (wrap .u64 (c+b)) fun c=>Gz .u64 (call 136 [Ah b,Ah 17]) fun b=>Aa (D7 .u64 b c) fun b=>Gz .u64 (call 136 [Ah c,Ah 32]) fun c=>Bj [.agg [Ah a,Ah b,Ah c,Ah e]]:=by show _=_;kernel_rfl
def F7(Z Y:Int)(X:Nat)(W:Ad)(V U:Nat)(T:Ad)(S:Int)(Q:Ad):Option A1:=Ll fu call 79 Tryz.f79 [Ah Z,Ah Y,A5 1 X W] [.r,.r,.l,.r,.l] V ⟨lk [(2,A5 1 U T),(7,.ptr 7 0),(8,S)],Fw [(7,.ar false Q)]⟩
def E4(Z Y:Int)(X:Nat)(W:Ad)(V U T:Nat)(S:Ad)(Q P O:Int)(N:Ad):Option A1:=Ll fu call 79 Tryz.f79 [Ah Z,Ah Y,A5 1 X W] [.r,.r,.l,.r,.l,.i V,.r,.l,.l,.r,.l,.r,.l] U ⟨lk [(2,A5 1 T S),(7,.ptr 7 0),(8,Q),(9,Ah P),(10,O)],Fw [(7,.ar false N)]⟩
theorem Oh(W V:Int)(U:Nat)(T:Ad)(S Y:Nat)(Q:Ad)(X:Int)(Z:Ad):F7 fu call W V U T (S+1) Y Q X Z=(Ax (decide (X<=(↑Y:Int))) (E4 fu call W V U T S fu Y Q X 0 7 Z) (Bc .u64 (Z.getD 2 .top) fun a=>Aa (D7 .u64 a 255) fun a=>Ar (decide (3<=Z.length))<|Aa (B1 Z [Ah a] 2) fun a=>Bc .u64 (a.getD 0 .top) fun b=>Bc .u64 (a.getD 1 .top) fun c=>Bc .u64 (a.getD 2 .top) fun e=>Bc .u64 (a.getD 3 .top) fun f=>D6 (call 112 [.agg [Ah b,Ah c,Ah e,Ah f]]) fun b c=>Ep b fun b=>Ee .u64 b fun b e=>Ee .u64 e fun e f=>Ee .u64 f fun f g=>Dn .u64 g fun g=>Ap c<|D6 (call 112 [.agg [Ah b,Ah e,Ah f,Ah g]]) fun b c=>Ep b fun b=>Ee .u64 b fun b e=>Ee .u64 e fun e f=>Ee .u64 f fun f g=>Dn .u64 g fun g=>Ap c<|D6 (call 112 [.agg [Ah b,Ah e,Ah f,Ah g]]) fun b c=>Ep b fun b=>Ee .u64 b fun b e=>Ee .u64 e fun e f=>Ee .u64 f fun f g=>Dn .u64 g fun g=>Ap c<|D6 (call 112 [.agg [Ah b,Ah e,Ah f,Ah g]]) fun b c=>Ep b fun b=>Ee .u64 b fun b e=>Ee .u64 e fun e f=>Ee .u64 f fun f g=>Dn .u64 g fun g=>Ap c<|Ar (decide (4<=a.length))<|Aa (B1 a [Ah b,Ah e,Ah f,Ah g] 0) fun a=>Bc .u64 (a.getD 0 .top) fun b=>Bc .u64 (a.getD 1 .top) fun c=>Aa (D7 .u64 b c) fun b=>Bc .u64 (a.getD 2 .top) fun c=>Aa (D7 .u64 b c) fun b=>Bc .u64 (a.getD 3 .top) fun a=>Aa (D7 .u64 b a) fun a=>Bj [Ah a])):=by kernel_rfl
theorem N8(T S:Int)(Q:Nat)(P:Ad)(O N Z:Nat)(V:Ad)(X U Y:Int)(W:Ad):E4 fu call T S Q P O (N+1) Z V X U Y W=(Ax (decide (Y>=0)) (Aa (wrap .i64 (X+Y)) fun a=>Ax (decide (a<(↑Z:Int))) (Aa (wrap .i64 (X+Y)) fun a=>Ar (decide (0<=a)&&decide (a<(↑Z:Int)))<|Bc .u8 (V.getD (a.toNat*1) .top) fun a=>Aa (Fb .u64 U 8) fun b=>Aa (wrap .u64 a) fun a=>Aa (CQ .u64 b a) fun a=>Aa (wrap .i64 (Y-1)) fun b=>E4 fu call T S Q P O N Z V X a b W) (Ax (Y==7) (Aa (wrap .u8 (↑Z:Int)) fun a=>Aa (Fb .u64 U 8) fun b=>Aa (wrap .u64 a) fun a=>Aa (CQ .u64 b a) fun a=>Aa (wrap .i64 (Y-1)) fun b=>E4 fu call T S Q P O N Z V X a b W) (Aa (Fb .u64 U 8) fun a=>Aa (CQ .u64 a 0) fun a=>Aa (wrap .i64 (Y-1)) fun b=>E4 fu call T S Q P O N Z V X a b W))) (Bc .u64 (W.getD 3 .top) fun a=>Aa (D7 .u64 a U) fun a=>Ar (decide (4<=W.length))<|Aa (B1 W [Ah a] 3) fun a=>Bc .u64 (a.getD 0 .top) fun b=>Bc .u64 (a.getD 1 .top) fun c=>Bc .u64 (a.getD 2 .top) fun e=>Bc .u64 (a.getD 3 .top) fun f=>D6 (call 112 [.agg [Ah b,Ah c,Ah e,Ah f]]) fun b c=>Ep b fun b=>Ee .u64 b fun b e=>Ee .u64 e fun e f=>Ee .u64 f fun f g=>Dn .u64 g fun g=>Ap c<|D6 (call 112 [.agg [Ah b,Ah e,Ah f,Ah g]]) fun b c=>Ep b fun b=>Ee .u64 b fun b e=>Ee .u64 e fun e f=>Ee .u64 f fun f g=>Dn .u64 g fun g=>Ap c<|Ar (decide (4<=a.length))<|Aa (B1 a [Ah b,Ah e,Ah f,Ah g] 0) fun a=>Bc .u64 (a.getD 0 .top) fun b=>Aa (D7 .u64 b U) fun b=>Ar (decide (1<=a.length))<|Aa (B1 a [Ah b] 0) fun a=>Aa (wrap .i64 (X+8)) fun b=>F7 fu call T S Q P O Z V b a)):=by kernel_rfl
theorem EM(Z Y:Int)(X:Nat)(W:Ad):O9 (CX xs) fu d 79 [Ah Z,Ah Y,A5 1 X W] fun call=>Aa (D7 .u64 Z 8317987319222330741) fun a=>Aa (D7 .u64 Y 7237128888997146477) fun b=>Aa (D7 .u64 Z 7816392313619706465) fun c=>Aa (D7 .u64 Y 8387220255154660723) fun e=>F7 fu call Z Y X W fu X W 0 ([Ah a,Ah b,Ah c,Ah e]):=by show _=_;kernel_rfl
theorem CA(Z:Int)(Y:Nat)(X:Ad):O9 (CX xs) fu d 45 [Z,A5 1 Y X] fun call=>Aa (wrap .u64 Z) fun a=>Gz .u64 (call 79 [Ah a,Ah 0,A5 1 Y X]) fun a=>Bj [Ah a]:=by show _=_;kernel_rfl
theorem DZ(Z Y:Int)(X:Nat)(W:Ad):O9 (CX xs) fu d 73 [Ah Z,Y,A5 1 X W] fun call=>Aa (wrap .u64 Y) fun a=>Aa (wrap .u64 (1+a)) fun a=>Gz .u64 (call 79 [Ah Z,Ah a,A5 1 X W]) fun a=>Bj [Ah a]:=by show _=_;kernel_rfl
def Fd(Z:Nat)(Y:Ad)(X W:Nat)(V:Ad)(U:Nat)(T:Int)(S:Ad):Option A1:=Ll fu call 50 Tryz.f50 [A5 1 Z Y] [.r,.r,.l,.r,.l] X ⟨lk [(0,A5 1 W V),(3,.view 3 1 0 U),(4,T)],Fw [(3,.ar false S)]⟩
def Gg(Z:Nat)(Y:Ad)(X W V:Nat)(U:Ad)(T:Nat)(S Q:Int)(P:Ad):Option A1:=Ll fu call 50 Tryz.f50 [A5 1 Z Y] [.r,.r,.l,.r,.l,.i X,.r,.l,.l,.r,.l] W ⟨lk [(0,A5 1 V U),(3,.view 3 1 0 T),(4,S),(5,Q)],Fw [(3,.ar false P)]⟩
theorem Mb(V:Nat)(U:Ad)(T X:Nat)(S:Ad)(Z:Nat)(W:Int)(Y:Ad):Fd fu call V U (T+1) X S Z W Y=(Ax (decide (W<(↑X:Int))) (Gg fu call V U T fu X S Z W 7 Y) (Ar (decide (Z*1<=Y.length))<|Bj [.own 1 Z (Y.take (Z*1))])):=by kernel_rfl
theorem Lz(V:Nat)(U:Ad)(T P Y:Nat)(X:Ad)(S:Nat)(Z W:Int)(Q:Ad):Gg fu call V U T (P+1) Y X S Z W Q=(Ax (decide (W>=0)) (Ar (decide (0<=Z)&&decide (Z<(↑Y:Int)))<|Bc .u64 (X.getD (Z.toNat*1) .top) fun a=>Aa (wrap .i64 (8*W)) fun b=>Aa (wrap .u64 b) fun b=>Ar (decide (0<=b))<|Aa (Gl .u64 a b) fun a=>Aa (wrap .u8 a) fun a=>ZzA S 1 1 Q [.sc (.int .u8 a)] fun a b=>Aa (wrap .i64 (W-1)) fun c=>Gg fu call V U T P Y X a Z c b) (Aa (wrap .i64 (Z+1)) fun a=>Fd fu call V U T Y X S a Q)):=by kernel_rfl
theorem AD(Z:Nat)(Y:Ad):O9 (CX xs) fu d 50 [A5 1 Z Y] fun call=>Fd fu call Z Y fu Z Y 0 0 ([]):=by show _=_;kernel_rfl
end
def rot(x k:Int):Int:=CQ .u64 (Fb .u64 x k) (Gl .u64 x (64-k))
structure W4 where
 a:Int
 b:Int
 c:Int
 d:Int
def W4.cells(v:W4):Ad:=[Ah v.a,Ah v.b,Ah v.c,Ah v.d]
def A5u(v:W4):W4:=⟨rot (wrap .u64 (v.a+v.b)) 32,D7 .u64 (rot v.b 13) (wrap .u64 (v.a+v.b)),wrap .u64 (v.c+v.d),D7 .u64 (rot v.d 16) (wrap .u64 (v.c+v.d))⟩
def A31(v:W4):W4:=⟨wrap .u64 (v.a+v.d),D7 .u64 (rot v.b 17) (wrap .u64 (v.c+v.b)),rot (wrap .u64 (v.c+v.b)) 32,D7 .u64 (rot v.d 21) (wrap .u64 (v.a+v.d))⟩
def MJ(v:W4):W4:=A31 (A5u v)
def WD:Nat->W4->W4
 |0,v=>v
 |n+1,v=>WD n (MJ v)
def Ayr(r:W4)(m:Int):W4:=⟨D7 .u64 r.a m,r.b,r.c,r.d⟩
def Lm(v:W4)(m:Int):W4:=Ayr (WD 2 ⟨v.a,v.b,v.c,D7 .u64 v.d m⟩) m
def Pc:Aj->Int
 |[]=>0
 |b::r=>b+256*Pc r
def GF:Nat->W4->Aj->W4
 |0,v,_=>v
 |n+1,v,l=>GF n (Lm v (Pc (l.take 8))) (l.drop 8)
def Afc(k0 k1:Int):W4:=⟨D7 .u64 k0 8317987319222330741,D7 .u64 k1 7237128888997146477,D7 .u64 k0 7816392313619706465,D7 .u64 k1 8387220255154660723⟩
def Abp(v:W4):W4:=WD 4 ⟨v.a,v.b,D7 .u64 v.c 255,v.d⟩
def Acb(v:W4):Int:=D7 .u64 (D7 .u64 (D7 .u64 v.a v.b) v.c) v.d
def K0(l:Aj):Int:=Pc (l.drop (8*(l.length / 8)))+72057594037927936*((l.length:Int) % 256)
def Ab0(k0 k1:Int)(l:Aj):Int:=Acb (Abp (Lm (GF (l.length / 8) (Afc k0 k1) l) (K0 l)))
def D8(dom:Int)(l:Aj):Int:=Ab0 (wrap .u64 dom) 0 l
def Apu(key dom:Int)(l:Aj):Int:=Ab0 key (wrap .u64 (1+wrap .u64 dom)) l
def Cp(l:Aj):Prop:=∀b∈l,0<=b/\b<=255
theorem Rc:∀{l:Aj},Cp l->0<=Pc l/\Pc l<256 ^ l.length
 |[],_=>by simp[Pc]
 |b::r,h=>by
  have h1:=h b (by simp);have h2:=Rc (l:=r) fun x hx=>h x (by simp[hx]);have h3:(256:Int) ^ (b::r).length=256 ^ r.length*256:=by rw[On,Int.pow_succ]
  simp only[Pc];omega
theorem BV:∀(l r:Aj),Pc (l++r)=Pc l+256 ^ l.length*Pc r
 |[],r=>by simp[Pc]
 |b::l,r=>by
  have ih:=BV l r;simp only[Zzp,Pc,On,Int.pow_succ];rw[ih,Int.mul_add];have:(256:Int)*(256 ^ l.length*Pc r)=256 ^ l.length*256*Pc r:=by rw[<-Int.mul_assoc,Int.mul_comm 256]
  omega
theorem FT{a c:Int}(k b:Nat)(h0:0<=a)(h1:a<((2 ^ k:Nat):Int))(hc:c=((b*2 ^ k:Nat):Int))(h:a+c<=18446744073709551615):CQ .u64 a c=a+c/\CQ .u64 c a=a+c:=by
 obtain⟨n,rfl⟩:=Int.eq_ofNat_of_zero_le h0;subst hc;have hn:n<2 ^ k:=by omega
 generalize hB:b*2 ^ k=m at h
 have e4:(BitVec.ofInt 64 (n:Int)).toNat=n:=by
  rw[BitVec.toNat_ofInt];omega
 have e5:(BitVec.ofInt 64 (m:Int)).toNat=m:=by
  rw[BitVec.toNat_ofInt];omega
 have e6:m ||| n=m+n:=by
  have:=Nat.shiftLeft_add_eq_or_of_lt hn b;rw[Nat.shiftLeft_eq,hB] at this;exact this.symm
 constructor
 ·show wrap .u64 ((BitVec.ofInt 64 (n:Int) ||| BitVec.ofInt 64 (m:Int)).toNat:Int)=_;rw[BitVec.toNat_or,e4,e5,Nat.or_comm,e6,Ey];omega
 ·show wrap .u64 ((BitVec.ofInt 64 (m:Int) ||| BitVec.ofInt 64 (n:Int)).toNat:Int)=_;rw[BitVec.toNat_or,e4,e5,e6,Ey];omega
theorem LV{a k:Int}(h0:0<=a)(hk:0<=k)(Pb:k<=64)(h:a*((2 ^ k.toNat:Nat):Int)<=18446744073709551615):Fb .u64 a k=a*((2 ^ k.toNat:Nat):Int):=by
 show wrap .u64 (a*2 ^ (min k.toNat IntKind.u64.bits))=_;have e:min k.toNat IntKind.u64.bits=k.toNat:=Nat.min_eq_left (by show k.toNat<=64;omega)
 have e2:(2:Int) ^ k.toNat=((2 ^ k.toNat:Nat):Int):=by simp
 rw[e,e2,wrap_u64 (Int.mul_nonneg h0 (Int.natCast_nonneg _)) h]
section
variable {fu d:Nat}{xs:FuncId->Option (Ad->Option A1)}
theorem Aon{x k:Int}(hk:k=13\/k=16\/k=17\/k=21\/k=32):Ac (CX xs) prog fu (d+1) 146 [Ah x,Aw k]=some ⟨[Ah (rot x k)],[]⟩:=by rw[AE];rcases hk with rfl|rfl|rfl|rfl|rfl<;>kernel_rfl
theorem Aqt{x k:Int}(hk:k=13\/k=16\/k=17\/k=21\/k=32):Ac (CX xs) prog fu (d+1) 136 [Ah x,Ah k]=some ⟨[Ah (rot x k)],[]⟩:=by rw[DE];rcases hk with rfl|rfl|rfl|rfl|rfl<;>kernel_rfl
theorem JL{a0 a1 a2 a3 a4:Int}:∀(k i nn:Nat)(v:W4),k<nn->i+k<=100 ->
  Fo fu (Ac (CX xs) prog fu (d+1)) a0 a1 a2 a3 a4 nn ((i+k:Nat):Int) i v.a v.b v.c v.d=some ⟨[],[(WD k v).cells]⟩
 |_,_,0,_,h,_=>by omega
 |0,i,nn+1,v,h,hi=>by
  rw[Kk,Hh _ _ _ (by omega)];rfl
 |k+1,i,nn+1,v,h,hi=>by
  have ih:=JL (a0:=a0) (a1:=a1) (a2:=a2) (a3:=a3) (a4:=a4) k (i+1) nn (MJ v) (by omega) (by omega);have w:wrap .i64 ((i:Int)+1)=((i+1:Nat):Int):=Bk
  have r13:=fun x=>Aon (xs:=xs) (fu:=fu) (d:=d) (x:=x) (k:=13) (by simp);have r16:=fun x=>Aon (xs:=xs) (fu:=fu) (d:=d) (x:=x) (k:=16) (by simp);have r17:=fun x=>Aon (xs:=xs) (fu:=fu) (d:=d) (x:=x) (k:=17) (by simp);have r21:=fun x=>Aon (xs:=xs) (fu:=fu) (d:=d) (x:=x) (k:=21) (by simp);have r32:=fun x=>Aon (xs:=xs) (fu:=fu) (d:=d) (x:=x) (k:=32) (by simp);rw[Kk];simp(disch:=omega)only[A4,A3,r13,r16,r17,r21,r32,w];rw[show i+(k+1)=i+1+k by omega];exact ih
theorem UT(k:Nat)(hk:k<=4)(Bq:100<=fu)(v:W4):Ac (CX xs) prog fu (d+2) 125 [.pbox [Ah v.a,Ah v.b,Ah v.c,Ah v.d],Aw k]=some ⟨[],[(WD k v).cells]⟩:=by rw[Wz];have:=JL (xs:=xs) (fu:=fu) (d:=d) (a0:=v.a) (a1:=v.b) (a2:=v.c) (a3:=v.d) (a4:=k) k 0 fu v (by omega) (by omega);rw[Ig] at this;exact this
theorem TL(Bq:100<=fu)(v:W4)(m:Int):Ac (CX xs) prog fu (d+3) 123 [.pbox [Ah v.a,Ah v.b,Ah v.c,Ah v.d],Ah m]=some ⟨[],[(Lm v m).cells]⟩:=by rw[Wu];have r2:=UT (xs:=xs) (fu:=fu) (d:=d) 2 (by omega) Bq ⟨v.a,v.b,v.c,D7 .u64 v.d m⟩;have e2:((2:Nat):Int)=2:=rfl;rw[e2] at r2;unfold Lm;generalize WD 2 ⟨v.a,v.b,v.c,D7 .u64 v.d m⟩=R at r2 ⊢;simp only[W4.cells] at r2;simp only[A4,A3,r2];rfl
theorem A6u{a b:Int}{k:Nat}(hk:k<8)(ha:0<=a)(ha':a<((2 ^ (8*k):Nat):Int))(hb:0<=b)(Jp:b<=255):CQ .u64 a (Fb .u64 b (8*(k:Int)))=a+((2 ^ (8*k):Nat):Int)*b:=by
 obtain⟨n,rfl⟩:=Int.eq_ofNat_of_zero_le hb;have e:(8*(k:Int)).toNat=8*k:=by omega
 have hp:n*2 ^ (8*k)<=255*2 ^ (8*k):=Nat.mul_le_mul_right _ (by omega);have h56:2 ^ (8*k)<=2 ^ 56:=Nat.pow_le_pow_right (by omega) (by omega);have e56:(2:Nat) ^ 56=72057594037927936:=by decide
 rw[e56] at h56;generalize hP:2 ^ (8*k)=p at *
 have Aas:n*p<=255*p:=hp
 have hs:Fb .u64 (n:Int) (8*(k:Int))=(n:Int)*((2 ^ (8*(k:Int)).toNat:Nat):Int):=LV (by omega) (by omega) (by omega) (by
  rw[e,hP];have:((n*p:Nat):Int)<=((255*p:Nat):Int):=by omega
  rw[<-Int.natCast_mul];omega)
 rw[hs,e,hP]
 have:=(FT (a:=a) (c:=((n*p:Nat):Int)) (8*k) n ha (by rw[hP];exact ha') (by rw[hP]) (by
  have:((n*p:Nat):Int)<=((255*p:Nat):Int):=by omega
  omega)).1
 rw[<-Int.natCast_mul,this,Int.mul_comm ((p:Nat):Int),<-Int.natCast_mul]
theorem A44(k:Nat):((2 ^ (8*k):Nat):Int)=256 ^ k:=by rw[Nat.pow_mul];simp
theorem JB{call:Aq}{n:Nat}{c:Ad}{l:Aj}(hb:Cp l)(hl:l.length<=8):∀(r:Aj)(i nn:Nat),l.drop i=r->r.length<nn->i<=l.length ->
  Jl fu call n c nn (Pc (l.take i)) l.length (Ae .u8 l) l.length i=some ⟨[Ah (Pc l)],[]⟩
 |_,_,0,_,h,_=>by omega
 |[],i,nn+1,h,hn,hi=>by
  have:=drop_nil h;rw[Rv,Hh _ _ _ (by omega),Ji (by omega)]
 |b::r,i,nn+1,h,hn,hi=>by
  obtain⟨h1,h2,h3⟩:=Dx h;simp only[On] at hn;have ih:=JB (call:=call) (n:=n) (c:=c) hb hl r (i+1) nn h3 (by omega) (by omega);have hbb:=hb b (List.mem_of_getElem? h2);have w:wrap .i64 ((i:Int)+1)=((i+1:Nat):Int):=Bk
  have w8:wrap .i64 (8*(i:Int))=8*(i:Int):=Bb;have wb:wrap .u64 b=b:=Ey;have A1k:=Rc (l:=l.take i) fun x hx=>hb x (List.mem_of_mem_take hx);have htl:(l.take i).length=i:=by rw[List.length_take];omega
  rw[htl] at A1k
  have hj:CQ .u64 (Pc (l.take i)) (Fb .u64 b (8*(i:Int)))=Pc (l.take (i+1)):=by
   rw[A6u (by omega) A1k.1 (by rw[A44];exact A1k.2) hbb.1 hbb.2,List.take_add_one,h2,BV,htl,A44]
   simp[Pc]
  rw[Rv];simp(disch:=omega)only[A4,A3,Jg,J6,EA h2,w,w8,wb,hj];exact ih
theorem UF{l:Aj}(hb:Cp l)(hl:l.length<=8)(Bq:100<=fu):Ac (CX xs) prog fu (d+1) 124 [.lst false 1 l.length (Ae .u8 l)]=some ⟨[Ah (Pc l)],[]⟩:=by rw[LQ];exact JB hb hl l 0 fu rfl (by omega) (by omega)
theorem K9(k:IntKind)(l:Aj)(i:Nat):List.drop i (Ae k l)=Ae k (l.drop i):=by
 have:=ZK (GG k) l i
 simpa using this
theorem H7(k:IntKind)(l:Aj)(i:Nat):List.take i (Ae k l)=Ae k (l.take i):=by
 have:=Ahw (GG k) l i
 simpa using this
theorem Cp.drop{l:Aj}(h:Cp l)(i:Nat):Cp (l.drop i):=fun x hx=>h x (List.mem_of_mem_drop hx)
theorem Cp.take{l:Aj}(h:Cp l)(i:Nat):Cp (l.take i):=fun x hx=>h x (List.mem_of_mem_take hx)
theorem Au4{a0 a1:Int}{n:Nat}{c:Ad}{l:Aj}(hb:Cp l)(hl:l.length<=1099511627776)(Bq:100<=fu)(nn:Nat)(v:W4):
  Kl fu (Ac (CX xs) prog fu (d+3)) a0 a1 n c (nn+1) l.length (Ae .u8 l) ((l.length / 8:Nat):Int) ((l.length / 8:Nat):Int) ((l.length / 8:Nat):Int) v.a v.b v.c v.d=some ⟨[Ah (Acb (Abp (Lm v (K0 l))))],[]⟩:=by
 have w8:wrap .i64 (8*((l.length / 8:Nat):Int))=((8*(l.length / 8):Nat):Int):=Bk
 have wl:wrap .u64 (l.length:Int)=l.length:=Ey;have hdl:(l.drop (8*(l.length / 8))).length=l.length-8*(l.length / 8):=List.length_drop;have li:=UF (xs:=xs) (fu:=fu) (d:=d+2) (hb.drop (8*(l.length / 8))) (by omega) Bq;rw[hdl] at li;have tk:List.take (l.length-8*(l.length / 8)) (Ae .u8 (l.drop (8*(l.length / 8))))=Ae .u8 (l.drop (8*(l.length / 8))):=Ji (by rw[Al,hdl];omega)
 have hbn:=Rc (hb.drop (8*(l.length / 8)));rw[hdl] at hbn
 have hp7:(256:Int) ^ (l.length-8*(l.length / 8))<=256 ^ 7:=by
  have:(256:Nat) ^ (l.length-8*(l.length / 8))<=256 ^ 7:=Nat.pow_le_pow_right (by omega) (by omega);have h2:(((256:Nat) ^ (l.length-8*(l.length / 8)):Nat):Int)<=((256 ^ 7:Nat):Int):=by omega
  simpa using h2
 have NT:CQ .u64 (Pc (l.drop (8*(l.length / 8)))) (Fb .u64 (l.length:Int) 56)=K0 l:=by
  have hs:Fb .u64 (l.length:Int) 56=(((l.length % 256)*2 ^ 56:Nat):Int):=by
   show wrap .u64 ((l.length:Int)*2 ^ (min (56:Int).toNat IntKind.u64.bits))=_;have h2:(2:Int) ^ (min (56:Int).toNat IntKind.u64.bits)=72057594037927936:=by decide
   have h3:(2:Nat) ^ 56=72057594037927936:=by decide
   rw[h2,h3];simp only[wrap,IntKind.signed,IntKind.bits];simp;omega
  have h56:(256:Int) ^ 7=((2 ^ 56:Nat):Int):=by decide
  have h3:(2:Nat) ^ 56=72057594037927936:=by decide
  rw[hs,(FT 56 (l.length % 256) hbn.1 (by omega) rfl (by omega)).1];unfold K0;omega
 have ab:=TL (xs:=xs) (fu:=fu) (d:=d) Bq v (K0 l);have r4:=UT (xs:=xs) (fu:=fu) (d:=d+1) 4 (by omega) Bq ⟨(Lm v (K0 l)).a,(Lm v (K0 l)).b,D7 .u64 (Lm v (K0 l)).c 255,(Lm v (K0 l)).d⟩;have e4:((4:Nat):Int)=4:=rfl;rw[e4] at r4;unfold Abp;generalize Lm v (K0 l)=U at ab r4 ⊢;generalize WD 4 ⟨U.a,U.b,D7 .u64 U.c 255,U.d⟩=R at r4 ⊢;simp only[W4.cells] at ab r4;rw[V6];simp(disch:=omega)only[A4,A3,Jg,J6,w8,wl,K9,tk,li,NT,ab,r4];rfl
theorem Aat{a0 a1:Int}{n:Nat}{c:Ad}{l:Aj}(hb:Cp l)(hl:l.length<=1099511627776)(Bq:100<=fu):∀(k i nn:Nat)(v:W4),i+k=l.length / 8->k<nn ->
  Kl fu (Ac (CX xs) prog fu (d+3)) a0 a1 n c nn l.length (Ae .u8 l) ((l.length / 8:Nat):Int) ((l.length / 8:Nat):Int) i v.a v.b v.c v.d=some ⟨[Ah (Acb (Abp (Lm (GF k v (l.drop (8*i))) (K0 l))))],[]⟩
 |_,_,0,_,_,h=>by omega
 |0,i,nn+1,v,hi,hn=>by
  have e:i=l.length / 8:=by omega
  subst e;exact Au4 hb hl Bq nn v
 |k+1,i,nn+1,v,hi,hn=>by
  have w:wrap .i64 ((i:Int)+1)=((i+1:Nat):Int):=Bk
  have w8:wrap .i64 (8*(i:Int))=((8*i:Nat):Int):=Bk
  have w88:wrap .i64 (((8*i:Nat):Int)+8)=((8*i+8:Nat):Int):=Bk
  have hdl:((l.drop (8*i)).take 8).length=8:=by rw[List.length_take,List.length_drop];omega
  have li:=UF (xs:=xs) (fu:=fu) (d:=d+2) ((hb.drop (8*i)).take 8) (by omega) Bq;rw[hdl] at li;have e8:8*i+8-8*i=8:=by omega
  have ab:=TL (xs:=xs) (fu:=fu) (d:=d) Bq v (Pc ((l.drop (8*i)).take 8));have ih:=Aat (a0:=a0) (a1:=a1) (n:=n) (c:=c) hb hl Bq k (i+1) nn (Lm v (Pc ((l.drop (8*i)).take 8))) (by omega) (by omega)
  have eN:GF (k+1) v (l.drop (8*i))=GF k (Lm v (Pc ((l.drop (8*i)).take 8))) (l.drop (8*(i+1))):=by
   rw[GF,List.drop_drop,show 8*i+8=8*(i+1) by omega]
  rw[eN];generalize Lm v (Pc ((l.drop (8*i)).take 8))=U at ab ih ⊢;simp only[W4.cells] at ab;rw[V6];simp(disch:=omega)only[A4,A3,Jg,J6,w,w8,w88,e8,K9,H7,li,ab];exact ih
theorem Arp{l:Aj}(hb:Cp l)(hl:l.length<=1099511627776)(Bq:100<=fu)(hf:l.length<fu)(k0 k1:Int):Ac (CX xs) prog fu (d+4) 98 [Ah k0,Ah k1,.lst false 1 l.length (Ae .u8 l)]=some ⟨[Ah (Ab0 k0 k1 l)],[]⟩:=by
 rw[YH]
 have w:wrap .i64 (Int.tdiv (l.length:Int) 8)=((l.length / 8:Nat):Int):=by
  rw[Int.tdiv_eq_ediv_of_nonneg (by omega),Bb];omega
 have lp:=Aat (xs:=xs) (fu:=fu) (d:=d) (a0:=k0) (a1:=k1) (n:=l.length) (c:=Ae .u8 l) hb hl Bq (l.length / 8) 0 fu (Afc k0 k1) (by omega) (by omega);simp only[F5,w];exact lp
theorem MK{l:Aj}(hb:Cp l)(hl:l.length<=1099511627776)(Bq:100<=fu)(hf:l.length<fu)(dom:Int):Ac (CX xs) prog fu (d+5) 64 [Aw dom,.lst false 1 l.length (Ae .u8 l)]=some ⟨[Ah (D8 dom l)],[]⟩:=by rw[SC];have s:=Arp (xs:=xs) (fu:=fu) (d:=d) hb hl Bq hf (wrap .u64 dom) 0;simp only[A4,A3,s];rfl
theorem Qs(v:W4):Ac (CX xs) prog fu (d+2) 112 [.agg [Ah v.a,Ah v.b,Ah v.c,Ah v.d]]=some ⟨[.agg (MJ v).cells],[]⟩:=by have r13:=fun x=>Aqt (xs:=xs) (fu:=fu) (d:=d) (x:=x) (k:=13) (by simp);have r16:=fun x=>Aqt (xs:=xs) (fu:=fu) (d:=d) (x:=x) (k:=16) (by simp);have r17:=fun x=>Aqt (xs:=xs) (fu:=fu) (d:=d) (x:=x) (k:=17) (by simp);have r21:=fun x=>Aqt (xs:=xs) (fu:=fu) (d:=d) (x:=x) (k:=21) (by simp);have r32:=fun x=>Aqt (xs:=xs) (fu:=fu) (d:=d) (x:=x) (k:=32) (by simp);rw[AG];simp(disch:=omega)only[A4,A3,r13,r16,r17,r21,r32];rfl
def Ww(l:Aj)(i k:Nat):Int:=if i+k<l.length then l.getD (i+k) 0 else if k=7 then (l.length:Int) % 256 else 0
def pc(l:Aj)(i:Nat):Aj:=(List.range 8).map (Ww l i)
theorem Bbp{l:Aj}(hb:Cp l)(i:Nat):Cp (pc l i):=by
 intro x hx;obtain⟨k,hk,rfl⟩:=List.mem_map.1 hx;unfold Ww;split
 ·rename_i h;rw[List.getD_eq_getElem?_getD,List.getElem?_eq_getElem h];exact hb _ (List.getElem_mem h)
 ·split<;>omega
theorem Avm{l:Aj}{i:Nat}(h:i+8<=l.length):pc l i=(l.drop i).take 8:=by
 refine List.ext_getElem (by simp[pc];omega) fun k h1 h2=>?_
 have hk:k<8:=by simpa [pc] using h1
 simp only[pc,List.getElem_map,List.getElem_range,List.getElem_take,List.getElem_drop,Ww];rw[Cy (by omega),List.getD_eq_getElem?_getD,List.getElem?_eq_getElem (by omega)];rfl
theorem UX(x:Int):∀n,Pc (List.replicate n 0++[x])=256 ^ n*x
 |0=>by simp[Pc]
 |n+1=>by
  rw[List.replicate_succ,Zzp,Pc,UX x n,Int.pow_succ,Int.mul_comm (256 ^ n) 256,Int.mul_assoc];omega
theorem Awe{l:Aj}:Pc (pc l (8*(l.length / 8)))=K0 l:=by
 have e:pc l (8*(l.length / 8))=l.drop (8*(l.length / 8))++(List.replicate (7-(l.length-8*(l.length / 8))) 0++[(l.length:Int) % 256]):=by
  refine List.ext_getElem (by simp[pc];omega) fun k h1 h2=>?_
  have hk:k<8:=by simpa [pc] using h1
  simp only[pc,List.getElem_map,List.getElem_range,Ww];by_cases hc:8*(l.length / 8)+k<l.length
  ·rw[Cy hc,List.getElem_append_left (by rw[List.length_drop];omega),List.getElem_drop,List.getD_eq_getElem?_getD,List.getElem?_eq_getElem hc]
   rfl
  ·rw[Bl hc,List.getElem_append_right (by rw[List.length_drop];omega)]
   by_cases h7:k=7
   ·rw[Cy h7,List.getElem_append_right (by simp;omega)]
    simp
   ·rw[Bl h7,List.getElem_append_left (by simp;omega)]
    simp
 rw[e,BV,UX];unfold K0
 have:(256:Int) ^ (l.drop (8*(l.length / 8))).length*(256 ^ (7-(l.length-8*(l.length / 8)))*((l.length:Int) % 256))=72057594037927936*((l.length:Int) % 256):=by
  rw[<-Int.mul_assoc,<-Int.pow_add,List.length_drop];have:l.length-8*(l.length / 8)+(7-(l.length-8*(l.length / 8)))=7:=by omega
  rw[this];rfl
 rw[this]
theorem A37{a b:Int}(ha:0<=a)(ha':a<72057594037927936)(hb:0<=b)(Jp:b<=255):CQ .u64 (Fb .u64 a 8) b=b+256*a:=by
 obtain⟨n,rfl⟩:=Int.eq_ofNat_of_zero_le ha
 have hs:Fb .u64 (n:Int) 8=((n*2 ^ 8:Nat):Int):=by
  have:=LV (a:=(n:Int)) (k:=8) (by omega) (by omega) (by omega) (by
   have:(2 ^ (8:Int).toNat:Nat)=256:=by decide
   rw[this];omega)
  rw[this];have:(2 ^ (8:Int).toNat:Nat)=256:=by decide
  rw[this];have:(2 ^ 8:Nat)=256:=by decide
  rw[this];omega
 have h8:(2 ^ 8:Nat)=256:=by decide
 rw[hs,(FT (a:=b) 8 n hb (by rw[h8];omega) rfl (by rw[h8];omega)).2,h8]
 omega
theorem Ag8{a0 a1:Int}{n m0:Nat}{c:Ad}{l:Aj}(hb:Cp l)(hl:l.length<=1099511627776){i:Nat}(hi:i<=l.length)(v:W4):∀(j nn:Nat),j<=8->j<nn ->
  E4 fu (Ac (CX xs) prog fu (d+2)) a0 a1 n c m0 nn l.length (Ae .u8 l) i (Pc ((pc l i).drop j)) ((j:Int)-1) v.cells =
   F7 fu (Ac (CX xs) prog fu (d+2)) a0 a1 n c m0 l.length (Ae .u8 l) ((i+8:Nat):Int) (Lm v (Pc (pc l i))).cells
 |_,0,_,h=>by omega
 |0,nn+1,hj,hn=>by
  have w8:wrap .i64 ((i:Int)+8)=((i+8:Nat):Int):=Bk
  have r1:=Qs (xs:=xs) (fu:=fu) (d:=d) ⟨v.a,v.b,v.c,D7 .u64 v.d (Pc (pc l i))⟩;have r2:=Qs (xs:=xs) (fu:=fu) (d:=d) (MJ ⟨v.a,v.b,v.c,D7 .u64 v.d (Pc (pc l i))⟩);have eA:Lm v (Pc (pc l i))=Ayr (MJ (MJ ⟨v.a,v.b,v.c,D7 .u64 v.d (Pc (pc l i))⟩)) (Pc (pc l i)):=rfl;rw[eA];generalize MJ ⟨v.a,v.b,v.c,D7 .u64 v.d (Pc (pc l i))⟩=U at r1 r2 ⊢;generalize MJ U=U2 at r2 ⊢;simp only[W4.cells] at r1 r2;rw[N8,Hh _ _ _ (by omega),Ou];simp only[W4.cells,List.getD_cons_zero,List.getD_cons_succ,OP,F5];simp (disch:=first|omega|(simp;done)) only[A4,A3,B1,List.take_succ_cons,List.take_zero,List.drop_succ_cons,Ou,List.drop_nil,Zzp,NK,List.append_nil,On,LP,List.getD_cons_zero,List.getD_cons_succ,r1,r2,w8,Ig,Nat.reduceAdd,Nat.reduceLeDiff,List.append_eq]
  rfl
 |j+1,nn+1,hj,hn=>by
  have ih:=Ag8 (a0:=a0) (a1:=a1) (n:=n) (m0:=m0) (c:=c) hb hl hi v j nn (by omega) (by omega);have hw:wrap .i64 ((i:Int)+(((j+1:Nat):Int)-1))=((i+j:Nat):Int):=Bk
  have wj:wrap .i64 (((j+1:Nat):Int)-1-1)=(j:Int)-1:=Bk
  have hd:(pc l i).drop j=Ww l i j::(pc l i).drop (j+1):=by
   rw[List.drop_eq_getElem_cons (by simp[pc];omega)]
   simp[pc]
  have hB:=Bbp hb i;have hbn:=Rc (hB.drop (j+1))
  have hp7:(256:Int) ^ ((pc l i).drop (j+1)).length<=72057594037927936:=by
   have Eb:((pc l i).drop (j+1)).length<=7:=by simp[pc]
   have:(256:Nat) ^ ((pc l i).drop (j+1)).length<=256 ^ 7:=Nat.pow_le_pow_right (by omega) Eb;have h2:(((256:Nat) ^ ((pc l i).drop (j+1)).length:Nat):Int)<=((256 ^ 7:Nat):Int):=by omega
   simpa using h2
  have hc0:0<=Ww l i j/\Ww l i j<=255:=hB _ (by rw[<-Ou (l:=pc l i)];exact List.mem_of_mem_drop (i:=j) (by rw[Ou,hd];simp))
  have hj2:CQ .u64 (Fb .u64 (Pc ((pc l i).drop (j+1))) 8) (Ww l i j)=Pc ((pc l i).drop j):=by
   rw[A37 hbn.1 (by omega) hc0.1 hc0.2,hd];rfl
  have wc:wrap .u64 (Ww l i j)=Ww l i j:=Ey;rw[N8,ON _ _ _ (by omega)];simp only[F5,hw];by_cases c1:i+j<l.length
  ·have e:Ww l i j=l.getD (i+j) 0:=by unfold Ww;rw[Cy c1]
   have e2:l[i+j]?=some (Ww l i j):=by rw[e,List.getD_eq_getElem?_getD,List.getElem?_eq_getElem c1];rfl
   rw[ON _ _ _ (by omega)];simp(disch:=omega)only[A4,A3,Jg,J6,EA e2,wc,hj2,wj];exact ih
  ·rw[Hh _ _ _ (by omega)];by_cases h7:j=7
   ·subst h7;have e:Ww l i 7=(l.length:Int) % 256:=by unfold Ww;rw[Bl c1,Cy rfl]
    have e8:wrap .u8 (l.length:Int)=Ww l i 7:=by
     rw[e];simp only[wrap,IntKind.signed,IntKind.bits];simp
    rw[Ny,Cy (by omega),e8,wc,hj2,wj];exact ih
   ·have e:Ww l i j=0:=by unfold Ww;rw[Bl c1,Bl h7]
    rw[e] at hj2;rw[Ny,Bl (by omega),hj2,wj];exact ih
theorem TJ{a0 a1:Int}{n:Nat}{c:Ad}{l:Aj}(hb:Cp l)(hl:l.length<=1099511627776)(Bq:100<=fu):∀(k i nn:Nat)(v:W4),i+k=l.length / 8->k+1<nn ->
  F7 fu (Ac (CX xs) prog fu (d+2)) a0 a1 n c nn l.length (Ae .u8 l) ((8*i:Nat):Int) v.cells=some ⟨[Ah (Acb (Abp (Lm (GF k v (l.drop (8*i))) (K0 l))))],[]⟩
 |_,_,0,_,_,h=>by omega
 |k,i,nn+1,v,hi,hn=>by
  have step:=Ag8 (xs:=xs) (fu:=fu) (d:=d) (a0:=a0) (a1:=a1) (n:=n) (m0:=nn) (c:=c) hb hl (i:=8*i) (by omega) v 8 fu (by omega) (by omega);have e0:Pc ((pc l (8*i)).drop 8)=0:=by rw[List.drop_of_length_le (by simp[pc])];rfl
  rw[e0] at step;rw[Oh,ON _ _ _ (by omega)];refine step.trans ?_;cases k with
  |zero=>
   have e:i=l.length / 8:=by omega
   subst e;rw[Awe];generalize hv:Lm v (K0 l)=u;obtain⟨nn',rfl⟩:∃nn',nn=nn'+1:=⟨nn-1,by omega⟩
   have r1:=Qs (xs:=xs) (fu:=fu) (d:=d) ⟨u.a,u.b,D7 .u64 u.c 255,u.d⟩;have r2:=Qs (xs:=xs) (fu:=fu) (d:=d) (MJ ⟨u.a,u.b,D7 .u64 u.c 255,u.d⟩);have r3:=Qs (xs:=xs) (fu:=fu) (d:=d) (MJ (MJ ⟨u.a,u.b,D7 .u64 u.c 255,u.d⟩));have r4:=Qs (xs:=xs) (fu:=fu) (d:=d) (MJ (MJ (MJ ⟨u.a,u.b,D7 .u64 u.c 255,u.d⟩)))
   have eF:Acb (Abp (Lm (GF 0 v (l.drop (8*(l.length / 8)))) (K0 l)))=Acb (MJ (MJ (MJ (MJ ⟨u.a,u.b,D7 .u64 u.c 255,u.d⟩)))):=by
    rw[GF,hv];rfl
   rw[eF];clear eF;generalize MJ ⟨u.a,u.b,D7 .u64 u.c 255,u.d⟩=U1 at r1 r2 r3 r4 ⊢;generalize MJ U1=U2 at r2 r3 r4 ⊢;generalize MJ U2=U3 at r3 r4 ⊢;generalize MJ U3=U4 at r4 ⊢;simp only[W4.cells] at r1 r2 r3 r4;rw[Oh,Hh _ _ _ (by omega)];simp only[W4.cells,List.getD_cons_zero,List.getD_cons_succ,OP,F5];simp (disch:=first|omega|(simp;done)) only[A4,A3,B1,List.take_succ_cons,List.take_zero,List.drop_succ_cons,Ou,List.drop_nil,Zzp,NK,List.append_nil,On,LP,List.getD_cons_zero,List.getD_cons_succ,r1,r2,r3,r4,Ig,Nat.reduceAdd,Nat.reduceLeDiff,List.append_eq]
   rfl
  |succ k=>
   have ih:=TJ (a0:=a0) (a1:=a1) (n:=n) (c:=c) hb hl Bq k (i+1) nn (Lm v (Pc (pc l (8*i)))) (by omega) (by omega);rw[show 8*i+8=8*(i+1) by omega,ih,Avm (by omega)];simp only[GF,List.drop_drop];rw[show 8*(i+1)=8*i+8 by omega]
theorem ZS{l:Aj}(hb:Cp l)(hl:l.length<=1099511627776)(Bq:100<=fu)(hf:l.length<fu)(k0 k1:Int):Ac (CX xs) prog fu (d+3) 79 [Ah k0,Ah k1,.lst false 1 l.length (Ae .u8 l)]=some ⟨[Ah (Ab0 k0 k1 l)],[]⟩:=by rw[EM];exact TJ (xs:=xs) (fu:=fu) (d:=d) (a0:=k0) (a1:=k1) (n:=l.length) (c:=Ae .u8 l) hb hl Bq (l.length / 8) 0 fu (Afc k0 k1) (by omega) (by omega)
theorem EJ{l:Aj}(hb:Cp l)(hl:l.length<=1099511627776)(Bq:100<=fu)(hf:l.length<fu)(dom:Int):Ac (CX xs) prog fu (d+4) 45 [Aw dom,.lst false 1 l.length (Ae .u8 l)]=some ⟨[Ah (D8 dom l)],[]⟩:=by rw[CA];have s:=ZS (xs:=xs) (fu:=fu) (d:=d) hb hl Bq hf (wrap .u64 dom) 0;simp only[A4,A3,s];rfl
theorem Aja{l:Aj}(hb:Cp l)(hl:l.length<=1099511627776)(Bq:100<=fu)(hf:l.length<fu)(key dom:Int):Ac (CX xs) prog fu (d+4) 73 [Ah key,Aw dom,.lst false 1 l.length (Ae .u8 l)]=some ⟨[Ah (Apu key dom l)],[]⟩:=by rw[DZ];have s:=ZS (xs:=xs) (fu:=fu) (d:=d) hb hl Bq hf key (wrap .u64 (1+wrap .u64 dom));simp only[A4,A3,s];rfl
end
def Dw(w:Int)(k:Nat):Int:=wrap .u8 (Gl .u64 w (56-8*(k:Int)))
def Bp(w:Int):Aj:=(List.range' 0 8).map (Dw w)
def Ao(ws:Aj):Aj:=ws.flatMap Bp
theorem B5(w:Int):(Bp w).length=8:=rfl
section
variable {fu d:Nat}{xs:FuncId->Option (Ad->Option A1)}{call:Aq}{n:Nat}{c:Ad}
theorem Ado{ws:Aj}{w:Int}{m0 l:Nat}{i k:Int}:∀(r j nn:Nat)(bs:Aj),8-j=r->r<nn->j<=8->bs.length+r<=34359738368 ->
  Kp fu call n c m0 nn bs.length w l (Ae .u64 ws) k i j (Ae .u8 bs) =
   H1 fu call n c m0 (bs++(List.range' j (8-j)).map (Dw w)).length l (Ae .u64 ws) k (wrap .i64 (i+1)) (Ae .u8 (bs++(List.range' j (8-j)).map (Dw w)))
 |r,j,0,bs,_,h,_,_=>by omega
 |0,j,nn+1,bs,hr,_,hj,_=>by
  have e:j=8:=by omega
  subst e;rw[Sk];simp(disch:=omega)only[A4,A3];simp
 |r+1,j,nn+1,bs,hr,hn,hj,hb=>by
  have ih:=Ado (ws:=ws) (w:=w) (m0:=m0) (l:=l) (i:=i) (k:=k) r (j+1) nn (bs++[Dw w j]) (by omega) (by omega) (by omega) (by simp;omega)
  have e8:=Al .u8 bs;rw[Sk]
  have hx:wrap .u8 (Gl .u64 w (wrap .i64 (56-wrap .i64 (8*(j:Int)))))=Dw w j:=by
   rw[Fz (x:=8*(j:Int)) (by omega) (by omega),Bb];rfl
  have h0:0<=wrap .i64 (56-wrap .i64 (8*(j:Int))):=by
   rw[Fz (x:=8*(j:Int)) (by omega) (by omega),Bb];omega
  have Agk:List.range' j (8-j)=j::List.range' (j+1) (8-(j+1)):=by
   rw[show 8-j=(8-(j+1))+1 by omega];exact List.range'_succ
  simp (disch:=first|omega|exact h0) only[A4,A3,J6,hx,LX,Um,Fz (x:=(j:Int)+1)];rw[Agk];simp only[Xk,On,LP,Ig,Zzv,U7,List.singleton_append] at ih ⊢;exact ih
theorem NO{ws:Aj}(hl:ws.length<=1073741824)(Bq:100<=fu):∀(r:Aj)(i nn:Nat)(bs:Aj),ws.drop i=r->r.length<nn->bs.length=8*i ->
  H1 fu call n c nn bs.length ws.length (Ae .u64 ws) ws.length i (Ae .u8 bs)=some ⟨[.own 1 (bs++Ao r).length (Ae .u8 (bs++Ao r))],[]⟩
 |r,i,0,_,_,h,_=>by omega
 |[],i,nn+1,bs,h,_,_=>by
  have:=drop_nil h;have e8:=Al .u8 bs;rw[Su];simp(disch:=omega)only[A4,A3,J6,LX,Ao,List.flatMap_nil,List.append_nil]
 |w::r,i,nn+1,bs,h,hn,hb=>by
  obtain⟨h1,h2,h3⟩:=Dx h;simp only[On] at hn;rw[Su];simp(disch:=omega)only[A4,A3,Jg,J6,EA h2];rw[show (0:Int)=((0:Nat):Int) from rfl,Ado 8 0 fu bs rfl (by omega) (by omega) (by omega),Bb];have ih:=NO hl Bq r (i+1) nn (bs++Bp w) h3 (by omega) (by simp[B5];omega)
  have e:bs++Bp w++Ao r=bs++Ao (w::r):=by simp[Ao]
  rw[e] at ih;exact ih
theorem Xt{ws:Aj}(hl:ws.length<=1073741824)(Bq:100<=fu)(hf:ws.length<fu):Ac (CX xs) prog fu (d+1) 66 [.lst false 1 ws.length (Ae .u64 ws)]=some ⟨[.own 1 (Ao ws).length (Ae .u8 (Ao ws))],[]⟩:=by rw[OR];simp(disch:=omega)only[A4,A3,Fz,Int.mul_one];exact NO hl Bq ws 0 fu [] rfl hf rfl
theorem VD{ws:Aj}{w:Int}{m0 i:Nat}(hw:ws[i]?=some w):∀(r nn:Nat)(j:Int)(bs:Aj),j=(r:Int)-1->r<=8->r<nn->bs.length+r<=34359738368 ->
  Gg fu call n c m0 nn ws.length (Ae .u64 ws) bs.length i j (Ae .u8 bs) =
   Fd fu call n c m0 ws.length (Ae .u64 ws) (bs++(List.range' (8-r) r).map (Dw w)).length (wrap .i64 (i+1)) (Ae .u8 (bs++(List.range' (8-r) r).map (Dw w)))
 |r,0,j,bs,_,_,h,_=>by omega
 |0,nn+1,j,bs,hr,_,_,_=>by
  rw[Lz];simp(disch:=omega)only[A4,A3];simp
 |r+1,nn+1,j,bs,hr,FS,hn,hb=>by
  have hi:=A0r hw;have ih:=VD (m0:=m0) hw r nn (j-1) (bs++[Dw w (8-(r+1))]) (by omega) (by omega) (by omega) (by simp;omega)
  have e8:=Al .u8 bs
  have hx:wrap .u8 (Gl .u64 w (wrap .u64 (wrap .i64 (8*j))))=Dw w (8-(r+1)):=by
   rw[Bb,Ey];unfold Dw;rw[show 56-8*((8-(r+1):Nat):Int)=8*j by omega]
  have h0:0<=wrap .u64 (wrap .i64 (8*j)):=by
   rw[Bb,Ey];omega
  have Agk:List.range' (8-(r+1)) (r+1)=(8-(r+1))::List.range' (8-r) r:=by
   rw[List.range'_succ,show 8-(r+1)+1=8-r by omega]
  rw[Lz];simp (disch:=first|omega|exact h0) only[A4,A3,Jg,J6,EA hw,hx,LX,Um,Fz (x:=j-1)];rw[Agk];simp only[Xk,On,LP,Ig,Zzv,U7,List.singleton_append] at ih ⊢;exact ih
theorem JZ{ws:Aj}(hl:ws.length<=1073741824)(Bq:100<=fu):∀(r:Aj)(i nn:Nat)(bs:Aj),ws.drop i=r->r.length<nn->bs.length=8*i ->
  Fd fu call n c nn ws.length (Ae .u64 ws) bs.length i (Ae .u8 bs)=some ⟨[.own 1 (bs++Ao r).length (Ae .u8 (bs++Ao r))],[]⟩
 |r,i,0,_,_,h,_=>by omega
 |[],i,nn+1,bs,h,_,_=>by
  have:=drop_nil h;have e8:=Al .u8 bs;rw[Mb];simp(disch:=omega)only[A4,A3,J6,LX,Ao,List.flatMap_nil,List.append_nil]
 |w::r,i,nn+1,bs,h,hn,hb=>by
  obtain⟨h1,h2,h3⟩:=Dx h;simp only[On] at hn;rw[Mb];simp(disch:=omega)only[A4,A3];rw[VD h2 8 fu 7 bs rfl (by omega) (by omega) (by omega),Bb];have ih:=JZ hl Bq r (i+1) nn (bs++Bp w) h3 (by omega) (by simp[B5];omega)
  have e:bs++Bp w++Ao r=bs++Ao (w::r):=by simp[Ao]
  rw[e] at ih;exact ih
theorem Ia{ws:Aj}(hl:ws.length<=1073741824)(Bq:100<=fu)(hf:ws.length<fu):Ac (CX xs) prog fu (d+1) 50 [.lst false 1 ws.length (Ae .u64 ws)]=some ⟨[.own 1 (Ao ws).length (Ae .u8 (Ao ws))],[]⟩:=by rw[AD];exact JZ hl Bq ws 0 fu [] rfl hf rfl
end
abbrev Ml(a b:Int):Int:=CQ .u64 (Fb .u64 a 8) (wrap .u64 b)
def Amb(bs:Aj):Int:=bs.foldl Ml 0
theorem A6d{q:Int}(h0:0<=q)(h1:q<=18446744073709551615):Ml (q / 256) (wrap .u8 q)=q:=by
 have e1:Fb .u64 (q / 256) 8=q / 256*256:=by
  unfold Fb;have:((8:Int).toNat.min IntKind.u64.bits)=8:=by decide
  show wrap .u64 (q / 256*2 ^ (min (8:Int).toNat IntKind.u64.bits))=_;have h2:(2:Int) ^ (min (8:Int).toNat IntKind.u64.bits)=256:=by decide
  rw[h2,Ey]
 have e2:wrap .u8 q=q % 256:=by
  simp only[wrap,IntKind.signed,IntKind.bits];simp
 have e3:wrap .u64 (q % 256)=q % 256:=Ey;unfold Ml;rw[e1,e2,e3];obtain⟨n,rfl⟩:=Int.eq_ofNat_of_zero_le h0;have hn:n<18446744073709551616:=by omega
 have e4:(BitVec.ofInt 64 ((n:Int) / 256*256)).toNat=n / 256*256:=by
  rw[BitVec.toNat_ofInt];omega
 have e5:(BitVec.ofInt 64 ((n:Int) % 256)).toNat=n % 256:=by
  rw[BitVec.toNat_ofInt];omega
 have e6:n / 256*256 ||| n % 256=n:=by
  have:=Nat.shiftLeft_add_eq_or_of_lt (show n % 256<2 ^ 8 by omega) (n / 256);rw[Nat.shiftLeft_eq] at this;rw[<-this];omega
 unfold CQ;show wrap .u64 ((BitVec.ofInt 64 ((n:Int) / 256*256) ||| BitVec.ofInt 64 ((n:Int) % 256)).toNat:Int)=n;rw[BitVec.toNat_or,e4,e5,e6,Ey]
theorem Ak9{w:Int}(k:Nat)(hk:k<8):Dw w k=wrap .u8 (w / 2 ^ (56-8*k)):=by
 unfold Dw Gl;have e:(56-8*(k:Int)).toNat=56-8*k:=by omega
 rw[e,Nat.min_eq_left (by show 56-8*k<=64;omega),Int.fdiv_eq_ediv_of_nonneg _ (Int.le_of_lt (Int.pow_pos (by omega)))]
theorem HI{w:Int}(h0:0<=w)(h1:w<=18446744073709551615):Amb (Bp w)=w:=by
 have st:∀(k:Nat) (D:Int),k<8->(2:Int) ^ (56-8*k)=D->0<D->Ml (w / D / 256) (Dw w k)=w / D:=by
  intro k D hk hD hp;rw[Ak9 k hk,hD];exact A6d (Int.ediv_nonneg h0 (Int.le_of_lt hp)) (Int.le_trans (Int.ediv_le_self _ h0) h1)
 have s0:=st 0 72057594037927936 (by omega) (by decide) (by omega);have s1:=st 1 281474976710656 (by omega) (by decide) (by omega);have s2:=st 2 1099511627776 (by omega) (by decide) (by omega);have s3:=st 3 4294967296 (by omega) (by decide) (by omega);have s4:=st 4 16777216 (by omega) (by decide) (by omega);have s5:=st 5 65536 (by omega) (by decide) (by omega);have s6:=st 6 256 (by omega) (by decide) (by omega);have s7:=st 7 1 (by omega) (by decide) (by omega);rw[show w / 72057594037927936 / 256=0 by omega] at s0;rw[show w / 281474976710656 / 256=w / 72057594037927936 by omega] at s1;rw[show w / 1099511627776 / 256=w / 281474976710656 by omega] at s2;rw[show w / 4294967296 / 256=w / 1099511627776 by omega] at s3;rw[show w / 16777216 / 256=w / 4294967296 by omega] at s4;rw[show w / 65536 / 256=w / 16777216 by omega] at s5;rw[show w / 256 / 256=w / 65536 by omega] at s6
 rw[show w / 1 / 256=w / 256 by omega,show w / 1=w by omega] at s7;show Ml (Ml (Ml (Ml (Ml (Ml (Ml (Ml 0 (Dw w 0)) (Dw w 1)) (Dw w 2)) (Dw w 3)) (Dw w 4)) (Dw w 5)) (Dw w 6)) (Dw w 7)=w;rw[s0,s1,s2,s3,s4,s5,s6,s7]
end
end Go.Proofs.YtamoegpkglhedaaGreatDoor.Pv
