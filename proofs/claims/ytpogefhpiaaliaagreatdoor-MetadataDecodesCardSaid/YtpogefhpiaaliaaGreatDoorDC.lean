/-
  The proof of MetadataDecodes, part 3.
-/
import Derived.Test.YtpogefhpiaaliaaGreatDoorDB
import Derived.StillTail
import Derived.WalkKit
import Derived.ProofKit
import Derived.OpenShut
import Derived.ShutString
import Derived.ChangeOld
import Derived.Below
import Derived.Deep.Slices
import Derived.ChangeSame
import Derived.WideKeyArgs
import Derived.Carry
import Derived.Test.YtpogefhpiaaliaaGreatDoorRows
set_option linter.unusedSimpArgs false
set_option linter.unusedVariables false
namespace Go.Proofs.YtpogefhpiaaliaaGreatDoor.Pv
open Go.IntKind (wrap)
open Go.Proofs.Tryz (prog)
set_option maxRecDepth 1000000
noncomputable section
section
section
variable {R R':Type}{Rel:Option R->Option R'->Prop}
theorem M3(hn:Rel none none){k:IntKind}{p:PV}{K:Int->Option R}{K':Int->Option R'}(hK:∀n,Rel (K n) (K' n)):Rel (Be k p K) (Be k p K'):=by
 unfold Be;split
 ·split<;>first|exact hK _|exact hn
 ·exact hn
theorem Ga(hn:Rel none none){p:PV}{K:IntKind->Int->Option R}{K':IntKind->Int->Option R'}(hK:∀k n,Rel (K k n) (K' k n)):Rel (Fk p K) (Fk p K'):=by unfold Fk;split<;>first|exact hK _ _|exact hn
theorem Kg(hn:Rel none none){p:PV}{K:Bool->Option R}{K':Bool->Option R'}(hK:∀n,Rel (K n) (K' n)):Rel (Cg p K) (Cg p K'):=by unfold Cg;split<;>first|exact hK _|exact hn
theorem Jg(hn:Rel none none){p:PV}{K:ByteArray->Option R}{K':ByteArray->Option R'}(hK:∀n,Rel (K n) (K' n)):Rel (D8 p K) (D8 p K'):=by unfold D8;split<;>first|exact hK _|exact hn
theorem Iu(hn:Rel none none){es:Nat}{p:PV}{K:Bool->Nat->Ab->Option R}{K':Bool->Nat->Ab->Option R'}(hK:∀z n c,Rel (K z n c) (K' z n c)):Rel (Pq es p K) (Pq es p K'):=by
 unfold Pq;split
 ·rename_i es' _ _;cases Nat.beq es' es
  ·exact hn
  ·exact hK _ _ _
 ·exact hK _ _ _
 ·exact hn
theorem Awm(hn:Rel none none){es:Nat}{p:PV}{K:PV->Option R}{K':PV->Option R'}(hK:∀p,Rel (K p) (K' p)):Rel (fsK es p K) (fsK es p K'):=by
 unfold fsK;split
 ·rename_i es' _ _;cases Nat.beq es' es
  ·exact hn
  ·exact hK _
 ·exact Iu hn fun _ _ _=>hK _
theorem Amo(hn:Rel none none){es:Nat}{p:PV}{K:Nat->Ab->Option R}{K':Nat->Ab->Option R'}(hK:∀n c,Rel (K n c) (K' n c)):Rel (Je es p K) (Je es p K'):=by
 unfold Je;split
 ·rename_i es' _ _;cases Nat.beq es' es
  ·exact hn
  ·exact hK _ _
 ·exact hn
theorem Bl(hn:Rel none none){b:Bool}{K:Option R}{K':Option R'}(hK:b=true->Rel K K'):Rel (As b K) (As b K'):=by
 cases b
 ·exact hn
 ·exact hK rfl
theorem RY{b:Bool}{x y:Option R}{x' y':Option R'}(hx:Rel x x')(hy:Rel y y'):Rel (A3 b x y) (A3 b x' y'):=by
 cases b
 ·exact hy
 ·exact hx
theorem Ff(hn:Rel none none){α:Type}{o:Option α}{K:α->Option R}{K':α->Option R'}(hK:∀a,o=some a->Rel (K a) (K' a)):Rel (F3 o K) (F3 o K'):=by
 cases o
 ·exact hn
 ·exact hK _ rfl
theorem Cf(hn:Rel none none){α:Type}{l:List α}{K:α->List α->Option R}{K':α->List α->Option R'}(hK:∀a r,l=a::r->Rel (K a r) (K' a r)):Rel (Av l K) (Av l K'):=by
 cases l
 ·exact hn
 ·exact hK _ _ rfl
theorem H4(hn:Rel none none){α:Type}{l:List α}{K:Option R}{K':Option R'}(hK:Rel K K'):Rel (Aq l K) (Aq l K'):=by
 cases l
 ·exact hK
 ·exact hn
theorem On(hn:Rel none none){p:PV}{K:Ab->Option R}{K':Ab->Option R'}(hK:∀c,p=.agg c->Rel (K c) (K' c)):Rel (Dr p K) (Dr p K'):=by
 unfold Dr;split
 ·exact hK _ rfl
 ·exact hn
theorem Apu(hn:Rel none none){p:PV}{K:Ab->Option R}{K':Ab->Option R'}(hK:∀c,Rel (K c) (K' c)):Rel (GA p K) (GA p K'):=by
 unfold GA;split
 ·exact hK _
 ·exact hn
theorem ZW(hn:Rel none none){r:Option D0}{K:Ab->List Ab->Option R}{K':Ab->List Ab->Option R'}(hK:∀v o,Rel (K v o) (K' v o)):Rel (Bk r K) (Bk r K'):=by
 unfold Bk;split
 ·exact hK _ _
 ·exact hn
theorem Als(hn:Rel none none){p:PV}{K:Value->Option R}{K':Value->Option R'}(hK:∀v,Rel (K v) (K' v)):Rel (fnK p K) (fnK p K'):=by
 unfold fnK;split
 ·exact hK _
 ·exact hn
theorem Awn(hn:Rel none none){p:PV}{K:FuncId->Option R}{K':FuncId->Option R'}(hK:∀v,Rel (K v) (K' v)):Rel (fvK p K) (fvK p K'):=by
 unfold fvK;split
 ·rename_i f a b;cases (a.isEmpty&&b.isEmpty)
  ·exact hn
  ·exact hK _
 ·exact hn
theorem W5(hn:Rel none none){t:CT}{p:PV}{K:PV->Option R}{K':PV->Option R'}(hK:∀p,Rel (K p) (K' p)):Rel (NM t p K) (NM t p K'):=by
 unfold NM;split
 ·exact M3 hn fun _=>hK _
 ·exact Kg hn fun _=>hK _
 ·exact Jg hn fun _=>hK _
 ·exact Iu hn fun _ _ _=>hK _
 ·exact Als hn fun _=>hK _
theorem Axm(hn:Rel none none){t:CT}{p:PV}{K:PV->Option R}{K':PV->Option R'}(hK:∀p,Rel (K p) (K' p)):Rel (fcK t p K) (fcK t p K'):=by
 unfold fcK;split
 ·exact Awm hn hK
 ·exact W5 hn hK
theorem Zb(hn:Rel none none):∀{ts:List CT}{cells:Ab}{off:Nat}{K:Ab->Option R}{K':Ab->Option R'},(∀c,Rel (K c) (K' c))->Rel (DS ts cells off K) (DS ts cells off K')
 |[],_,_,_,_,hK=>hK _
 |_::_,_,_,_,_,hK=>W5 hn fun _=>Zb hn fun _=>hK _
theorem Vr(hn:Rel none none):∀{ts:List CT}{cells:Ab}{off:Nat}{K:Ab->Option R}{K':Ab->Option R'},(∀c,Rel (K c) (K' c))->Rel (Xj ts cells off K) (Xj ts cells off K')
 |[],_,_,_,_,hK=>hK _
 |_::_,_,_,_,_,hK=>Axm hn fun _=>Vr hn fun _=>hK _
theorem JV(hn:Rel none none){g:Bool}{cells:Ab}{K:PV->Option R}{K':PV->Option R'}(hK:∀p,Rel (K p) (K' p)):Rel (mkV g cells K) (mkV g cells K'):=by
 cases g
 ·exact Cf hn fun _ _ _=>H4 hn (hK _)
 ·exact hK _
theorem Axy(hn:Rel none none){P:Program}{t:TypeId}{v:Value}{K:PV->Option R}{K':PV->Option R'}(hK:∀p,Cn p=[]->Rel (K p) (K' p))(hK':∀c,Rel (K (.agg c)) (K' (.agg c))):Rel (cvK P t v K) (cvK P t v K'):=by
 unfold cvK;split
 ·exact Bl hn fun _=>Zb hn fun _=>hK' _
 ·split
  ·exact hK _ rfl
  ·exact hn
 ·exact hK _ rfl
theorem Auz(hn:Rel none none){op:BinOp}{x y:Int}{K:Bool->Option R}{K':Bool->Option R'}(hK:∀n,Rel (K n) (K' n)):Rel (Axl op x y K) (Axl op x y K'):=by unfold Axl;split<;>first|exact hK _|exact hn
theorem Akg(hn:Rel none none){op:BinOp}{k:IntKind}{x y:Int}{K:PV->Option R}{K':PV->Option R'}(hK:∀n,Rel (K n) (K' n)):Rel (UL op k x y K) (UL op k x y K'):=by unfold UL;split<;>first|exact hK _|exact Bl hn fun _=>hK _|exact Auz hn fun _=>hK _
theorem Ajf(hn:Rel none none){op:BinOp}{x y:ByteArray}{K:PV->Option R}{K':PV->Option R'}(hK:∀n,Rel (K n) (K' n)):Rel (WU op x y K) (WU op x y K'):=by unfold WU;split<;>first|exact hK _|exact Bl hn fun _=>hK _|exact hn
theorem Aar(hn:Rel none none){e:Bool}{p:PV}{K:PV->Option R}{K':PV->Option R'}(hK:∀n,Rel (K n) (K' n)):Rel (VC e p K) (VC e p K'):=by unfold VC;split<;>first|exact hK _|exact RY (hK _) (RY (hK _) (hK _))|exact RY (hK _) (hK _)|exact hn
theorem Aeq(hn:Rel none none):∀{ts:List CT}{ps qs:Ab}{K:Bool->Option R}{K':Bool->Option R'},(∀b,Rel (K b) (K' b))->Rel (Rv ts ps qs K) (Rv ts ps qs K'):=by
 intro ts
 induction ts with
 |nil=>
  intro ps qs K K' hK;cases ps<;>cases qs<;>first|exact hK _|exact hn
 |cons t ts ih=>
  intro ps qs K K' hK;cases ps with
  |nil=>cases t<;>cases qs<;>exact hn
  |cons p ps=>
   cases qs with
   |nil=>cases t<;>exact hn
   |cons q qs=>
    cases t
    ·exact M3 hn fun _=>M3 hn fun _=>ih fun _=>hK _
    ·exact Kg hn fun _=>Kg hn fun _=>ih fun _=>hK _
    ·exact Jg hn fun _=>Jg hn fun _=>ih fun _=>hK _
    ·exact hn
    ·exact hn
theorem Asb(hn:Rel none none){P:Program}{op:BinOp}{t:TypeId}{x y:PV}{K:PV->Option R}{K':PV->Option R'}(hK:∀p,Rel (K p) (K' p)):Rel (Asj P op t x y K) (Asj P op t x y K'):=by
 unfold Asj;split
 ·split
  ·exact M3 hn fun _=>Ga hn fun _ _=>Bl hn fun _=>hK _
  ·exact M3 hn fun _=>Ga hn fun _ _=>Bl hn fun _=>hK _
  ·exact M3 hn fun _=>M3 hn fun _=>Akg hn hK
 ·exact Jg hn fun _=>Jg hn fun _=>Ajf hn hK
 ·split
  ·exact Kg hn fun _=>Kg hn fun _=>hK _
  ·exact Kg hn fun _=>Kg hn fun _=>hK _
  ·exact hn
 ·split
  ·exact Aar hn fun _=>hK _
  ·exact Aar hn fun _=>hK _
  ·exact hn
 ·exact hn
theorem Afw(hn:Rel none none){P:Program}{op:BinOp}{t:TypeId}{x y:PV}{K:PV->Option R}{K':PV->Option R'}(hK:∀p,Rel (K p) (K' p)):Rel (EM P op t x y K) (EM P op t x y K'):=by
 unfold EM;split
 ·split
  ·exact Bl hn fun _=>On hn fun _ _=>On hn fun _ _=>Aeq hn fun _=>hK _
  ·exact Bl hn fun _=>On hn fun _ _=>On hn fun _ _=>Aeq hn fun _=>hK _
  ·exact hn
 ·exact Asb hn hK
theorem Axq(hn:Rel none none){op:UnOp}{x:PV}{K:PV->Option R}{K':PV->Option R'}(hK:∀p,Rel (K p) (K' p)):Rel (unK op x K) (unK op x K'):=by unfold unK;split<;>first|exact Kg hn fun _=>hK _|exact Ga hn fun _ _=>hK _|exact hn
theorem F6(hn:Rel none none){p:Option PV}{d:Nat}{K:Nat->Option R}{K':Nat->Option R'}(hK:∀n,Rel (K n) (K' n)):Rel (Kn p d K) (Kn p d K'):=by
 unfold Kn;split
 ·exact hK _
 ·exact Ga hn fun _ _=>Bl hn fun _=>hK _
theorem OL(hn:Rel none none){x:PV}{d:Nat}{K:PV->Option R}{K':PV->Option R'}(hK:∀n,Rel (K n) (K' n)):Rel (ED x d K) (ED x d K'):=by unfold ED;split<;>first|exact hK _|exact hn
theorem VJ(hn:Rel none none){P:Program}{t:TypeId}{x:PV}{i:Int}{K:PV->Option R}{K':PV->Option R'}(hK:∀p,Rel (K p) (K' p)):Rel (Ql P t x i K) (Ql P t x i K'):=by
 unfold Ql;split
 ·exact Bl hn fun _=>Bl hn fun _=>OL hn hK
 ·refine Bl hn fun _=>?_;split
  ·exact Bl hn fun _=>Bl hn fun _=>hK _
  ·exact Iu hn fun _ _ _=>Bl hn fun _=>hK _
 ·exact hn
theorem OO(hn:Rel none none){Kr:Nat->Option (Nat × Nat)}:∀{ps:List (Nat × PV)} {cells:Ab}{K:Ab->Option R}{K':Ab->Option R'},(∀c,Rel (K c) (K' c))->Rel (CH Kr ps cells K) (CH Kr ps cells K')
 |[],_,_,_,hK=>hK _
 |(_,_)::_,_,_,_,hK=>Ff hn fun _ _=>Bl hn fun _=>OO hn hK
theorem EB(hn:Rel none none){P:Program}{t:TypeId}{K:Ab->Option R}{K':Ab->Option R'}(hK:∀p,Rel (K p) (K' p)):Rel (Kv P t K) (Kv P t K'):=
 Ff hn fun _ _=>Bl hn fun _=>Zb hn hK
theorem Avj(hn:Rel none none){x y:PV}{K:PV->Option R}{K':PV->Option R'}(hK:∀p,Rel (K p) (K' p)):Rel (Ax6 x y K) (Ax6 x y K'):=
 Ga hn fun _ _=>M3 hn fun _=>hK _
theorem Aq4(hn:Rel none none){x y:PV}{K:PV->Option R}{K':PV->Option R'}(hK:∀p,Rel (K p) (K' p)):Rel (Axi x y K) (Axi x y K'):=
 Ga hn fun _ _=>M3 hn fun _=>hK _
theorem Asd(hn:Rel none none){P:Program}{t:TypeId}{x:PV}{K:Nat->Option R}{K':Nat->Option R'}(hK:∀p,Rel (K p) (K' p)):Rel (An2 P t x K) (An2 P t x K'):=by
 unfold An2;split
 ·exact Jg hn fun _=>hK _
 ·exact hK _
 ·split
  ·exact Bl hn fun _=>hK _
  ·exact Iu hn fun _ _ _=>hK _
 ·exact hn
def Agr(Rel:Option R->Option R'->Prop)(f f':Nat->Option Ab)(l:Cc):Prop:=∀i∈l,f i=f' i\/(f i=none/\∀b,Rel none b)
variable {f f':Nat->Option Ab}
theorem Agr.sub{l l':Cc}(h:Agr Rel f f' l)(hs:∀i∈l',i∈l):Agr Rel f f' l':=fun i hi=>h i (hs i hi)
theorem KO(hn:Rel none none){l:Cc}{id:Nat}(hf:Agr Rel f f' l)(hi:id∈l){K:Ab->Option R}{K':Ab->Option R'}(hK:∀c,f id=some c->Rel (K c) (K' c)):Rel (F3 (f id) K) (F3 (f' id) K'):=by
 rcases hf id hi with h|⟨h,hb⟩
 ·rw[<-h];exact Ff hn hK
 ·rw[h];exact hb _
theorem MI(hn:Rel none none){es:Nat}{p:PV}{K:Nat->Ab->Option R}{K':Nat->Ab->Option R'}(hf:Agr Rel f f' (A9 p))(hK:∀n c,Rel (K n c) (K' n c)):Rel (Ai0 f es p K) (Ai0 f' es p K'):=by
 unfold Ai0;split
 ·rename_i id es' off n;cases Nat.beq es' es
  ·exact hn
  ·exact KO hn hf (by simp[A9]) fun _ _=>Bl hn fun _=>hK _ _
 ·exact Iu hn fun _ _ _=>hK _ _
theorem Atb(hn:Rel none none){t:CT}{p:PV}{K:PV->Cc->Option R}{K':PV->Cc->Option R'}(hf:Agr Rel f f' (A9 p))(hK:∀c m,(∀i∈m,f i≠none)->Rel (K c m) (K' c m)):Rel (V0 f t p K) (V0 f' t p K'):=by
 unfold V0;split
 ·split
  ·rename_i id es' off n;cases Nat.beq es' _
   ·exact hn
   ·exact KO hn hf (by simp[A9]) fun c hc=>Bl hn fun _=>hK _ _ (by simp[hc])
  ·exact Iu hn fun _ _ _=>hK _ _ (by simp)
 ·exact W5 hn fun _=>hK _ _ (by simp)
theorem EX(hn:Rel none none):∀{ts:List CT}{ps:Ab}{K:Ab->Cc->Option R}{K':Ab->Cc->Option R'},Agr Rel f f' (ps.flatMap A9)->(∀c m,(∀i∈m,f i≠none)->Rel (K c m) (K' c m))->Rel (Vv f ts ps K) (Vv f' ts ps K')
 |[],[],_,_,_,hK=>hK _ _ (by simp)
 |[],_::_,_,_,_,_=>hn
 |_::_,[],_,_,_,_=>hn
 |_::_,p::ps,_,_,hf,hK=>Atb hn (fun i hi=>hf i (by simp only[Jr,Bz];exact .inl hi)) fun _ m hm=>EX hn (fun i hi=>hf i (by simp only[Jr,Bz];exact .inr hi)) fun _ ms SW=>hK _ _ fun i hi=>by
   rcases Bz.1 hi with h|h
   ·exact hm i h
   ·exact SW i h
theorem Ato(hn:Rel none none){P:Program}{t:TypeId}{p:PV}{K:PV->Cc->Option R}{K':PV->Cc->Option R'}(hf:Agr Rel f f' (C3 p))(hK:∀c m,(∀i∈m,f i≠none)->Rel (K c m) (K' c m)):Rel (Aiz P f t p K) (Aiz P f' t p K'):=by
 unfold Aiz
 have h1:∀i,i∈[p].flatMap A9->i∈C3 p:=by
  intro i hi;simp only[Jr,List.flatMap_nil,List.append_nil] at hi;cases p<;>first|exact hi|simp[A9] at hi
 cases Dd P t
 ·exact EX hn (fun i hi=>hf i (h1 i hi)) fun _ _ hm=>Cf hn fun _ _ _=>H4 hn (hK _ _ hm)
 ·refine On hn fun c hc=>?_;subst hc;exact EX hn (fun i hi=>hf i hi) fun _ _ hm=>hK _ _ hm
theorem Aav(hn:Rel none none){P:Program}:∀{ts:List TypeId}{ps:Ab}{K:Ab->Cc->Option R}{K':Ab->Cc->Option R'},Agr Rel f f' (ps.flatMap C3)->(∀c m,(∀i∈m,f i≠none)->Rel (K c m) (K' c m))->Rel (WJ P f ts ps K) (WJ P f' ts ps K')
 |[],[],_,_,_,hK=>hK _ _ (by simp)
 |[],_::_,_,_,_,_=>hn
 |_::_,[],_,_,_,_=>hn
 |_::_,p::ps,_,_,hf,hK=>Ato hn (fun i hi=>hf i (by simp only[Jr,Bz];exact .inl hi)) fun _ m hm=>Aav hn (fun i hi=>hf i (by simp only[Jr,Bz];exact .inr hi)) fun _ ms SW=>hK _ _ fun i hi=>by
   rcases Bz.1 hi with h|h
   ·exact hm i h
   ·exact SW i h
theorem Aji(hn:Rel none none){P:Program}{t:TypeId}{x:PV}{lo hi:Option PV}{K:PV->Option R}{K':PV->Option R'}(hf:(∃n e,P.underlying t=some (.array n e))->Agr Rel f f' (A9 x))(hK:∀c,Rel (K c) (K' c)):Rel (MU P f t x lo hi K) (MU P f' t x lo hi K'):=by
 unfold MU;split
 ·exact Jg hn fun _=>F6 hn fun _=>F6 hn fun _=>Bl hn fun _=>hK _
 ·refine Bl hn fun _=>?_;split
  ·exact Bl hn fun _=>F6 hn fun _=>F6 hn fun _=>Bl hn fun _=>hK _
  ·exact Iu hn fun _ _ _=>F6 hn fun _=>F6 hn fun _=>Bl hn fun _=>hK _
 ·rename_i n e hu;refine Bl hn fun _=>?_;split
  ·rename_i id off;exact KO hn (hf ⟨_,_,hu⟩) (by simp[A9]) fun _ _=>Bl hn fun _=>F6 hn fun _=>F6 hn fun _=>Bl hn fun _=>hK _
  ·exact hn
 ·exact hn
theorem Af8(hn:Rel none none){P:Program}{d:Nat}{t:TypeId}{x:PV}{lo hi mx:Option PV}{K:PV->List (Nat × Cb)->Option R}{K':PV->List (Nat × Cb)->Option R'}(hK:∀c,Rel (K c [(d,.ar false [])]) (K' c [(d,.ar false [])])):Rel (FA P d t x lo hi mx K) (FA P d t x lo hi mx K'):=by
 unfold FA;split
 ·refine Bl hn fun _=>?_;split
  ·exact Bl hn fun _=>F6 hn fun _=>F6 hn fun _=>F6 hn fun _=>Bl hn fun _=>hK _
  ·exact Iu hn fun _ _ _=>F6 hn fun _=>F6 hn fun _=>F6 hn fun _=>Bl hn fun _=>hK _
 ·exact hn
theorem Aat{g g':Nat->Option Ab}(hn:Rel none none){P:Program}{t:TypeId}{x:PV}{K:PV->Option R}{K':PV->Option R'}(hf:∀i∈A9 x,(f i=f' i/\g i=g' i)\/(f i=none/\g i=none/\∀b,Rel none b))(hK:∀c,Rel (K c) (K' c)):Rel (JY P f g t x K) (JY P f' g' t x K'):=by
 unfold JY;split
 ·rename_i id off;refine Bl hn fun _=>?_;rcases hf id (by simp[A9]) with⟨h1,h2⟩|⟨h1,h2,h3⟩
  ·rw[<-h1,<-h2];split
   ·exact Zb hn fun _=>JV hn fun _=>hK _
   ·exact Ff hn fun _ _=>Vr hn fun _=>JV hn hK
  ·rw[h1,h2];exact h3 _
 ·exact Bl hn fun _=>Zb hn fun _=>JV hn fun _=>hK _
 ·exact hn
theorem Ap2(hn:Rel none none){P:Program}{d:Nat}{src dst:TypeId}{x:PV}{K:PV->List (Nat × Cb)->Option R}{K':PV->List (Nat × Cb)->Option R'}(hf:P.underlying dst=some .string->Agr Rel f f' (A9 x))(hK:∀v b,(∀q∈b,q.1=d)->Rel (K v b) (K' v b)):Rel (TB P f d src dst x K) (TB P f' d src dst x K'):=by
 unfold TB;split
 ·exact Bl hn fun _=>Ga hn fun _ _=>hK _ _ (by simp)
 ·rename_i hds;split
  ·exact Jg hn fun _=>hK _ _ (by simp)
  ·split
   ·exact MI hn (hf hds) fun _ _=>Bl hn fun _=>Ff hn fun _ _=>hK _ _ (by simp)
   ·exact hn
  ·exact hn
 ·split
  ·exact Jg hn fun _=>Bl hn fun _=>hK _ _ (by simp)
  ·exact hn
 ·exact hn
theorem Atc(hn:Rel none none){shr:Bool}{id:Nat}{t:CT}{p:PV}{K:PV->List (Nat × Cb)->Option R}{K':PV->List (Nat × Cb)->Option R'}(hK:∀c b,(∀q∈b,q.1=id)->Rel (K c b) (K' c b)):Rel (Au2 shr id t p K) (Au2 shr id t p K'):=by
 unfold Au2;split
 ·cases shr
  ·exact Amo hn fun _ _=>hK _ _ (by simp)
  ·exact Iu hn fun _ _ _=>hK _ _ (by simp)
 ·exact W5 hn fun _=>hK _ _ (by simp)
theorem ES(hn:Rel none none){shr:Bool}{N:Nat}:∀{ts:List CT}{id:Nat}{ps:Ab}{K:Ab->List (Nat × Cb)->Option R} {K':Ab->List (Nat × Cb)->Option R'},(∀c b,(∀q∈b,∃j,q.1=id+N*j)->Rel (K c b) (K' c b))->Rel (Y3 shr N id ts ps K) (Y3 shr N id ts ps K')
 |[],_,_,_,_,hK=>H4 hn (hK _ _ (by simp))
 |_::_,id,_,_,_,hK=>Cf hn fun _ _ _=>Atc hn fun _ b hb=>ES hn fun _ bs UP=>hK _ _ fun q hq=>by
   rcases Bz.1 hq with h|h
   ·exact⟨0,by rw[hb q h];simp⟩
   ·obtain⟨j,hj⟩:=UP q h;exact⟨j+1,by rw[hj,Nat.mul_add];omega⟩
theorem At7(hn:Rel none none){P:Program}{shr:Bool}{N id:Nat}{t:TypeId}{p:PV}{K:PV->List (Nat × Cb)->Option R}{K':PV->List (Nat × Cb)->Option R'}(hK:∀c b,(∀q∈b,∃j,q.1=id+N*j)->Rel (K c b) (K' c b)):Rel (Anv P shr N id t p K) (Anv P shr N id t p K'):=by
 unfold Anv;split
 ·refine Apu hn fun ps=>ES hn fun _ _ hb=>hK _ _ fun q hq=>?_;rcases B6.1 hq with rfl|hq
  ·exact⟨0,by simp⟩
  ·obtain⟨j,hj⟩:=hb q hq;exact⟨j+1,by rw[hj,Nat.mul_add];omega⟩
 cases Dd P t
 ·exact ES hn fun _ _ hb=>Cf hn fun _ _ _=>H4 hn (hK _ _ hb)
 ·exact On hn fun _ _=>ES hn fun _ _ hb=>hK _ _ hb
theorem NJ(hn:Rel none none){P:Program}{shr:Bool}{N:Nat}:∀{ts:List TypeId}{id:Nat}{ps:Ab}{K:Ab->List (Nat × Cb)->Option R} {K':Ab->List (Nat × Cb)->Option R'},(∀c b,(∀q∈b,∃j,q.1=id+N*j)->Rel (K c b) (K' c b))->Rel (PG P shr N id ts ps K) (PG P shr N id ts ps K')
 |[],_,_,_,_,hK=>H4 hn (hK _ _ (by simp))
 |t::_,id,_,_,_,hK=>Cf hn fun _ _ _=>At7 hn fun _ b hb=>NJ hn fun _ bs UP=>hK _ _ fun q hq=>by
   rcases Bz.1 hq with h|h
   ·exact hb q h
   ·obtain⟨j,hj⟩:=UP q h;exact⟨Afk P t+j,by rw[hj,Nat.mul_add];omega⟩
end
theorem DA{p:PV}{i:Nat}(h:i∈A9 p):i∈C3 p:=by cases p<;>first|exact h|simp[A9] at h
theorem I0{p:PV}{i:Nat}(h:i∈C3 p):i∈Cn p:=by cases p<;>first|exact h|simp[C3,A9] at h
theorem Qi{p:PV}{i:Nat}(h:i∈A9 p):i∈Cn p:=I0 (DA h)
section
variable {R R':Type}{Rel:Option R->Option R'->Prop}{P:Program}{N:Nat}{tm tm':Nat->PV}{f f' g g':Nat->Option Ab}{o:Oper}
theorem SN(hn:Rel none none){t:TypeId}{x:Operand}{K:PV->Option R}{K':PV->Option R'}(hx:Db tm x=Db tm' x)(hK:∀p,Rel (K p) (K' p)):Rel (OC P t tm x K) (OC P t tm' x K'):=by
 unfold OC;split
 ·exact Axy hn (fun _ _=>hK _) (fun _=>hK _)
 ·rw[hx];exact hK _
theorem Auj(hn:Rel none none){t:CT}{p:PV}{K:PV->Option R}{K':PV->Option R'}(hK:∀p,A9 p=[]->Rel (K p) (K' p)):Rel (NM t p K) (NM t p K'):=by
 unfold NM;split
 ·exact M3 hn fun _=>hK _ rfl
 ·exact Kg hn fun _=>hK _ rfl
 ·exact Jg hn fun _=>hK _ rfl
 ·exact Iu hn fun _ _ _=>hK _ rfl
 ·exact Als hn fun _=>hK _ rfl
theorem ZC(hn:Rel none none):∀{ts:List CT}{cells:Ab}{off:Nat}{K:Ab->Option R}{K':Ab->Option R'},(∀c,(∀p∈c,A9 p=[])->Rel (K c) (K' c))->Rel (DS ts cells off K) (DS ts cells off K')
 |[],_,_,_,_,hK=>hK _ (by simp)
 |_::_,_,_,_,_,hK=>Auj hn fun c hc=>ZC hn fun cs hcs=>hK _ (by
   intro p hp;rcases B6.1 hp with h|h
   ·rw[h];exact hc
   ·exact hcs p h)
theorem KC(hn:Rel none none){t:TypeId}{K:Ab->Option R}{K':Ab->Option R'}(hK:∀c,(∀p∈c,A9 p=[])->Rel (K c) (K' c)):Rel (Kv P t K) (Kv P t K'):=
 Ff hn fun _ _=>Bl hn fun _=>ZC hn hK
theorem DD{p c:PV}(h:c∈cellsOf p){i:Nat}(hi:i∈A9 c):i∈C3 p:=by
 unfold cellsOf at h;split at h
 ·exact List.mem_flatMap.2 ⟨c,h,hi⟩
 ·simp at h;subst h;exact DA hi
theorem Akk{cells new:Ab}{off:Nat}{c:PV}(h:c∈Bx cells new off):c∈cells\/c∈new:=by
 unfold Bx at h;rcases Bz.1 h with h|h
 ·rcases Bz.1 h with h|h
  ·exact .inl (List.mem_of_mem_take h)
  ·exact .inr h
 ·exact .inl (List.mem_of_mem_drop h)
theorem WW(hn:Rel none none){Kr:Nat->Option (Nat × Nat)}{S:Nat->Prop}:∀{ps:List (Nat × PV)} {cells:Ab}{K:Ab->Option R}{K':Ab->Option R'},(∀c∈cells,∀i∈A9 c,S i)->(∀q∈ps,∀i∈C3 q.2,S i) ->
  (∀cs,(∀c∈cs,∀i∈A9 c,S i)->Rel (K cs) (K' cs))->Rel (CH Kr ps cells K) (CH Kr ps cells K')
 |[],_,_,_,h1,_,hK=>hK _ h1
 |(_,p)::_,_,_,_,h1,h2,hK=>Ff hn fun _ _=>Bl hn fun _=>WW hn (fun c hc i hi=>by
   rcases Akk hc with h|h
   ·exact h1 c h i hi
   ·exact h2 (_,p) LU i (DD h hi)) (fun q hq=>h2 q (Sh _ hq)) hK
theorem QN(hn:Rel none none):∀{ts:List CT}{ps:Ab}{K:Ab->Cc->Option R}{K':Ab->Cc->Option R'},(∀t∈ts,∀es,t ≠ .sl es)->(∀c,Rel (K c []) (K' c []))->Rel (Vv g ts ps K) (Vv g' ts ps K')
 |[],[],_,_,_,hK=>hK _
 |[],_::_,_,_,_,_=>hn
 |_::_,[],_,_,_,_=>hn
 |t::ts,p::ps,K,K',ht,hK=>by
  show Rel (V0 g t p _) (V0 g' t p _)
  have:∀{g:Nat->Option Ab} {S:Type} {L:PV->Cc->Option S},V0 g t p L=NM t p fun c=>L c []:=by
   intro g S L;cases t with
   |sl es=>exact absurd rfl (ht _ (by simp) es)
   |_=>rfl
  rw[this,this];exact W5 hn fun c=>QN hn (fun t h=>ht t (by simp[h])) fun cs=>hK _
theorem Avd(hn:Rel none none){es:Nat}{t:TypeId}{x:PV}{K:Nat->Ab->Option R}{K':Nat->Ab->Option R'}(hx:Agr Rel g g' (A9 x))(hK:∀m c,Rel (K m c) (K' m c)):Rel (Akp P g es t x K) (Akp P g' es t x K'):=by
 unfold Akp;split
 ·exact Bl hn fun _=>Jg hn fun _=>hK _ _
 ·exact MI hn hx hK
 ·exact hn
theorem Ar8(hn:Rel none none){t:TypeId}{x:PV}{K:Nat->Option R}{K':Nat->Option R'}(hK:∀n,Rel (K n) (K' n)):Rel (Ao4 P t x K) (Ao4 P t x K'):=by
 unfold Ao4;split
 ·exact Iu hn fun _ _ _=>Bl hn fun _=>hK _
 ·exact hn
theorem Aed(hn:Rel none none){d:Nat}{t tx:TypeId}{x:PV}{K:PV->List (Nat × Cb)->Option R}{K':PV->List (Nat × Cb)->Option R'}(hx:Agr Rel g g' (A9 x))(hK:∀v nw,Rel (K v nw) (K' v nw)):Rel (EO P g d t tx x K) (EO P g' d t tx x K'):=by
 unfold EO;split
 ·exact Bl hn fun _=>Avd hn hx fun _ _=>Bl hn fun _=>hK _ _
 ·exact hn
theorem TP(hn:Rel none none){C:Kk}{call:Bp}{K:PV->Cc->List (Nat × Cb)->Option R}{K':PV->Cc->List (Nat × Cb)->Option R'}(Pz:∀x∈o.op.operands.toList,Db tm x=Db tm' x)(hfg:L7 P o.op=true->∀x∈o.op.operands.toList,∀i∈Cn (Db tm' x),(f i=f' i/\g i=g' i)\/(f i=none/\g i=none/\∀b,Rel none b))(hK:∀v fz nw,(L7 P o.op=false->fz=[]/\∀q∈nw,o.dst=some q.1)->(∀i∈fz,g i≠none)->Rel (K v fz nw) (K' v fz nw)):
  Rel (VS C P N call tm f g o K) (VS C P N call tm' f' g' o K'):=by
 have h0:∀v,Rel (K v [] []) (K' v [] []):=fun v=>hK v [] [] (fun _=>⟨rfl,by simp⟩) (by simp);have hf:L7 P o.op=true->∀x∈o.op.operands.toList,Agr Rel f f' (Cn (Db tm' x)):=fun h x hx i hi=>(hfg h x hx i hi).imp (·.1) fun h=>⟨h.1,h.2.2⟩;have hg:L7 P o.op=true->∀x∈o.op.operands.toList,Agr Rel g g' (Cn (Db tm' x)):=fun h x hx i hi=>(hfg h x hx i hi).imp (·.2) fun h=>⟨h.2.1,h.2.2⟩;unfold VS;generalize hop:o.op=op at *
 split
 ·exact SN hn (Pz _ (by simp[Op.operands])) h0
 ·exact SN hn (Pz _ (by simp[Op.operands])) h0
 ·rename_i c x y;rw[Pz c (by simp[Op.operands]),Pz x (by simp[Op.operands]),Pz y (by simp[Op.operands])];exact Kg hn fun _=>RY (h0 _) (h0 _)
 ·exact Ff hn fun d hd=>EB hn fun _=>hK _ _ _ (fun _=>⟨rfl,by simp[hd]⟩) (by simp)
 ·rename_i t x;rw[Pz x (by simp[Op.operands])];refine Ff hn fun d hd=>Bl hn fun _=>?_;cases DN P t
  ·exact Vr hn fun _=>hK _ _ _ (fun _=>⟨rfl,by simp[hd]⟩) (by simp)
  ·exact Zb hn fun _=>hK _ _ _ (fun _=>⟨rfl,by simp[hd]⟩) (by simp)
 ·rename_i t ps
  have:(ps.toList.map fun q=>(q.1,Db tm q.2))=ps.toList.map fun q=>(q.1,Db tm' q.2):=by
   apply List.map_congr_left;intro q hq;rw[Pz q.2 (by simp only[Op.operands];exact List.mem_map_of_mem hq)]
  rw[this];exact Bl hn fun _=>EB hn fun _=>OO hn fun _=>Vr hn fun _=>h0 _
 ·rename_i t n ps
  have:(ps.toList.map fun q=>(q.1,Db tm q.2))=ps.toList.map fun q=>(q.1,Db tm' q.2):=by
   apply List.map_congr_left;intro q hq;rw[Pz q.2 (by simp only[Op.operands];exact List.mem_map_of_mem hq)]
  rw[this];refine Ff hn fun d hd=>?_;split
  ·rename_i e hu;cases SD:Oz P [e]
   ·refine Bl hn fun _=>KC hn fun z hz=>OO hn fun cs=>QN hn ?_ fun cs'=>hK _ _ _ (fun _=>⟨rfl,by simp[hd]⟩) (by simp);intro c hc es he;obtain⟨l,hl,hc⟩:=List.mem_flatten.1 hc;rw[List.eq_of_mem_replicate hl] at hc;subst he
    have:Oz P [e]=true:=by
     unfold Oz;simp only[List.any_cons,List.any_nil,Bool.or_false,Bool.or_eq_true];exact .inr (List.any_eq_true.2 ⟨_,hc,rfl⟩)
    rw[this] at SD;cases SD
   refine Bl hn fun _=>KC hn fun z hz=>WW (S:=fun i=>∃x∈(Op.buildSlice t n ps).operands.toList,i∈Cn (Db tm' x)) hn ?_ ?_ fun cs hcs=>?_
   ·intro c hc i hi;obtain⟨l,hl,hc⟩:=List.mem_flatten.1 hc;rw[List.eq_of_mem_replicate hl] at hc;rw[hz c hc] at hi;simp at hi
   ·intro q hq i hi;obtain⟨q',I4,rfl⟩:=List.mem_map.1 hq;exact⟨q'.2,by simp only[Op.operands];exact List.mem_map_of_mem I4,I0 hi⟩
   ·refine EX hn (fun i hi=>?_) fun cs' m hm=>hK _ _ _ (fun h=>by simp[L7,hu,SD] at h) hm;obtain⟨c,hc,hi⟩:=List.mem_flatMap.1 hi;obtain⟨x,hx,hxi⟩:=hcs c hc i hi;exact hg (by simp[L7,hu,SD]) x hx i hxi
  ·exact hn
 ·rename_i t x;rw[Pz x (by simp[Op.operands])];exact Aat hn (fun i hi=>hfg (by simp[L7]) x (by simp[Op.operands]) i (Qi hi)) h0
 ·rename_i x;rw[Pz x (by simp[Op.operands])];exact OL hn h0
 ·rename_i op' t x y _;rw[Pz x (by simp[Op.operands]),Pz y (by simp[Op.operands])];exact Afw hn h0
 ·rename_i op' t x;rw[Pz x (by simp[Op.operands])];exact Axq hn h0
 ·rename_i src dst x;rw[Pz x (by simp[Op.operands])];exact Ap2 hn (fun hds i hi=>hg (by simp[L7,hds]) x (by simp[Op.operands]) i (Qi hi)) fun v b hb=>Ff hn fun d hd=>hK _ _ _ (fun _=>⟨rfl,fun q hq=>by rw[hd,hb q hq,hd];rfl⟩) (by simp)
 ·rename_i t x y;rw[Pz x (by simp[Op.operands]),Pz y (by simp[Op.operands])];refine Ff hn fun d hd=>?_;split
  ·exact Ga hn fun _ _=>Ga hn fun _ _=>Bl hn fun _=>EB hn fun _=>hK _ _ _ (fun _=>⟨rfl,by simp[hd]⟩) (by simp)
  ·exact hn
 ·rename_i t x lo hi mx;split
  ·rw[Pz x (by simp[Op.operands])]
   have h1:lo.map (Db tm)=lo.map (Db tm'):=by
    cases lo with
    |none=>rfl
    |some y=>simp only[Option.map_some];rw[Pz y (by simp[Op.operands])]
   have h2:hi.map (Db tm)=hi.map (Db tm'):=by
    cases hi with
    |none=>rfl
    |some y=>simp only[Option.map_some];rw[Pz y (by simp[Op.operands])]
   rw[h1,h2];exact Aji hn (fun ⟨n,e,he⟩ i hi=>hf (by simp[L7,he]) x (by simp[Op.operands]) i (Qi hi)) h0
  ·rename_i m;rw[Pz x (by simp[Op.operands])]
   have h1:lo.map (Db tm)=lo.map (Db tm'):=by
    cases lo with
    |none=>rfl
    |some y=>simp only[Option.map_some];rw[Pz y (by simp[Op.operands])]
   have h2:hi.map (Db tm)=hi.map (Db tm'):=by
    cases hi with
    |none=>rfl
    |some y=>simp only[Option.map_some];rw[Pz y (by simp[Op.operands])]
   rw[h1,h2,Pz m (by simp[Op.operands])];exact Ff hn fun d hd=>Af8 hn fun c=>hK _ _ _ (fun _=>⟨rfl,by simp[hd]⟩) (by simp)
 ·rename_i t x fl;rw[Pz x (by simp[Op.operands])];exact Ff hn fun _ _=>Bl hn fun _=>OL hn h0
 ·rename_i t x fl;rw[Pz x (by simp[Op.operands])];exact Ff hn fun _ _=>Bl hn fun _=>On hn fun _ _=>Vr hn fun _=>JV hn h0
 ·rename_i t x i;rw[Pz x (by simp[Op.operands]),Pz i (by simp[Op.operands])];exact Ga hn fun _ _=>VJ hn h0
 ·rename_i t x i;rw[Pz x (by simp[Op.operands]),Pz i (by simp[Op.operands])];refine Ga hn fun _ _=>?_;split
  ·exact Jg hn fun _=>Bl hn fun _=>Ff hn fun _ _=>h0 _
  ·exact On hn fun _ _=>Bl hn fun _=>Vr hn fun _=>JV hn h0
  ·exact hn
 ·rename_i x i;rw[Pz x (by simp[Op.operands])];split
  ·exact Ff hn fun _ _=>h0 _
  ·exact hn
 ·rename_i c
  have Qr:∀x∈c.args.toList,x∈(Op.call c).operands.toList:=by
   intro x hx;simp only[Op.operands,Call.operands,Array.toList_append,Bz];exact .inr hx
  have rc:∀fn,L7 P (.call c)=true->Rel (UR C P N call tm g o c fn K) (UR C P N call tm' g' o c fn K'):=by
   intro fn hmm;unfold UR;have:c.args.toList.map (Db tm)=c.args.toList.map (Db tm'):=List.map_congr_left fun x hx=>Pz x (Qr x hx);rw[this];refine Aav hn (fun i hi=>?_) fun vs m hm=>ZW hn fun rv ro=>H4 hn (Bl hn fun _=>NJ hn fun ws bs UP=>Bl hn fun _=>hK _ _ _ (fun h=>by rw[hmm] at h;cases h) (fun i hi=>?_))
   ·obtain⟨p,hp,hi⟩:=List.mem_flatMap.1 hi;obtain⟨x,hx,rfl⟩:=List.mem_map.1 hp;exact hg hmm x (Qr x hx) i (I0 hi)
   ·have hi':i∈m:=by
     cases hq:Oz P (Ve P o.type)<;>rw[hq] at hi
     ·simp at hi
     ·exact hi
    exact hm i hi'
  split
  ·refine Cf hn fun x _ hx=>Cf hn fun _ _ _=>?_;rw[Pz x (Qr x (by rw[hx];simp))]
   exact Asd hn fun _=>h0 _
  ·refine Cf hn fun x _ hx=>Cf hn fun _ _ _=>?_;rw[Pz x (Qr x (by rw[hx];simp))]
   exact Ar8 hn fun _=>h0 _
  ·refine Cf hn fun x _ hx=>Cf hn fun y _ hy=>H4 hn ?_;subst hy;rw[Pz x (Qr x (by rw[hx];simp)),Pz y (Qr y (by rw[hx];simp))]
   exact Avj hn h0
  ·refine Cf hn fun x _ hx=>Cf hn fun y _ hy=>H4 hn ?_;subst hy;rw[Pz x (Qr x (by rw[hx];simp)),Pz y (Qr y (by rw[hx];simp))]
   exact Aq4 hn h0
  ·rename_i hc;have hmm:L7 P (.call c)=true:=by simp[L7,hc]
   refine Bl hn fun _=>Ff hn fun d hd=>Cf hn fun _ _ hb=>Cf hn fun x _ hx=>H4 hn (Cf hn fun _ _ _=>Cf hn fun _ _ _=>?_);have hxm:x∈c.args.toList:=by rw[hb,hx];simp
   rw[Pz x (Qr x hxm)];exact Aed hn (fun i hi=>hg hmm x (Qr x hxm) i (Qi hi)) fun v nw=>hK _ _ _ (fun h=>by rw[hmm] at h;cases h) (by simp)
  ·rename_i fn hc;have hmm:L7 P (.call c)=true:=by simp[L7,hc]
   exact rc fn hmm
  ·rename_i t hc;have hmm:L7 P (.call c)=true:=by simp[L7,hc]
   have ht:=Pz (.tmp t) (by simp[Op.operands,Call.operands,hc]);change tm t=tm' t at ht;rw[ht];exact Awn hn fun fn=>rc fn hmm
  ·exact hn
 ·exact hn
variable {hp:Nat->Option Cb}
end
open Go.RowKit
abbrev HQ:=PV × Cc × List (Nat × Cb)
def I6(ops:Array Oper)(o:Oper)(tm:Nat->PV):Option Bool:=
 match o.guard with
 |none=>some true
 |some (j,want)=>
  match (ops[j]?).bind (·.dst) with
  |none=>none
  |some d=>
   match tm d with
   |.sc (.bool b)=>some (b==want)
   |.sc (.tuple _)=>some false
   |_=>none
section
variable {R:Type}{r:R}{C:Kk}{P:Program}{N:Nat}{call:Bp}{ops:Array Oper}{o x:Oper}{s:St}{K:St->Option R}
theorem SB:Fd C P N call ops o s K=match I6 ops o s.tm with
  |none=>none
  |some true=>Ag9 C P N call o s K
  |some false=>As (Jt N o.dst) (K ⟨Co s.tm o.dst (.sc undef),s.hp⟩):=by
 unfold Fd I6;cases o.guard with
 |none=>rfl
 |some q=>
  obtain⟨j,want⟩:=q;cases hd:(ops[j]?).bind (·.dst) with
  |none=>simp[hd]
  |some d=>
   simp only[hd];cases ht:s.tm d with
   |sc v=>
    cases v with
    |bool b=>
     cases b<;>cases want<;>simp only[A3,cond_true,cond_false,MG s.tm ht]<;>rfl
    |_=>rfl
   |_=>rfl
def Aoc(C:Kk)(P:Program)(N:Nat)(call:Bp)(o:Oper)(s:St):Option HQ:=
 VS C P N call s.tm (rd s.hp) (Pw s.hp) o fun v fz nw=>some (v,fz,nw)
theorem Ayj{K:PV->Cc->List (Nat × Cb)->Option R}:VS C P N call s.tm (rd s.hp) (Pw s.hp) o K=(Aoc C P N call o s).bind fun q=>K q.1 q.2.1 q.2.2:=by refine TP (Rel:=fun (a:Option R) (b:Option HQ)=>a=b.bind fun q=>K q.1 q.2.1 q.2.2) (K:=K) (K':=fun v fz nw=>some (v,fz,nw)) rfl (fun _ _=>rfl) (fun _ _ _ _ _=>.inl ⟨rfl,rfl⟩) fun v fz nw _ _=>rfl
theorem Ajy{q:HQ}(h:Aoc C P N call o s=some q):(L7 P o.op=false->q.2.1=[]/\∀p∈q.2.2,o.dst=some p.1)/\∀i∈q.2.1,Pw s.hp i≠none:=by
 have:=TP (C:=C) (P:=P) (N:=N) (call:=call) (o:=o) (tm:=s.tm) (tm':=s.tm) (f:=rd s.hp) (f':=rd s.hp) (g:=Pw s.hp) (g':=Pw s.hp)
  (Rel:=fun (a:Option HQ)(_:Option HQ)=>∀q,a=some q->(L7 P o.op=false->q.2.1=[]/\∀p∈q.2.2,o.dst=some p.1)/\∀i∈q.2.1,Pw s.hp i≠none)
  (K:=fun v fz nw=>some (v,fz,nw)) (K':=fun v fz nw=>some (v,fz,nw)) (fun _ h=>by cases h) (fun _ _=>rfl) (fun _ _ _ _ _=>.inl ⟨rfl,rfl⟩) (fun v fz nw h1 h2 q hq=>by cases hq;exact⟨h1,h2⟩)
 exact this q h
def gE(C:Kk)(P:Program)(N:Nat)(call:Bp)(ops:Array Oper)(o:Oper)(s:St):Option HQ:=
 match I6 ops o s.tm with
 |none=>none
 |some true=>bif AU C P o.op then none else Aoc C P N call o s
 |some false=>some (.sc undef,[],[])
def Km(C:Kk)(P:Program)(ops:Array Oper)(o:Oper)(tm:Nat->PV):Bool:=AU C P o.op&&(I6 ops o tm==some true)
theorem Q3(h:Km C P ops o s.tm=false):Fd C P N call ops o s K=(gE C P N call ops o s).bind fun q=>ON N s o.dst q.1 q.2.1 q.2.2 K:=by
 rw[SB];unfold gE;unfold Km at h;cases hv:I6 ops o s.tm with
 |none=>rfl
 |some b=>
  rw[hv] at h;cases b with
  |false=>
   show As _ _=ON N s o.dst (.sc undef) [] [] K;unfold ON;have h1:C1 s.hp []=true:=rfl;have h2:Bf (Al s.hp []) []=s.hp:=rfl;rw[h1,h2,Bool.and_true]
  |true=>
   have hm:AU C P o.op=false:=by simpa using h
   simp only[Ag9,hm,cond_false];exact Ayj
theorem Nh(h:Km C P ops o s.tm=true):Fd C P N call ops o s K=FU C P N call s o K:=by rw[SB];unfold Km at h;simp only[G8,beq_iff_eq] at h;rw[h.2];simp only[Ag9,h.1,cond_true]
theorem DY{q:HQ}(h:gE C P N call ops o s=some q):(L7 P o.op=false->q.2.1=[]/\∀p∈q.2.2,o.dst=some p.1)/\∀i∈q.2.1,Pw s.hp i≠none:=by
 unfold gE at h;split at h
 ·cases h
 ·cases hm:AU C P o.op<;>rw[hm] at h
  ·exact Ajy h
  ·cases h
 ·cases h;exact⟨fun _=>⟨rfl,by simp⟩,by simp⟩
theorem Im{tm tm':Nat->PV}(h:∀t∈looks ops o,tm t=tm' t):∀y∈o.op.operands.toList,Db tm y=Db tm' y:=by
 intro y hy;cases y with
 |tmp t=>
  refine h t ?_;unfold looks Auc;refine Bz.2 (.inl (List.mem_filterMap.2 ⟨.tmp t,hy,rfl⟩))
 |const v=>cases v<;>rfl
 |func f=>rfl
 |«global» g=>rfl
theorem Q7{tm tm':Nat->PV}(h:∀t∈looks ops o,tm t=tm' t):I6 ops o tm=I6 ops o tm':=by
 unfold I6;cases hg:o.guard with
 |none=>rfl
 |some q=>
  obtain⟨j,want⟩:=q;cases hd:(ops[j]?).bind (·.dst) with
  |none=>simp[hd]
  |some d=>
   have:tm d=tm' d:=h d (by
    unfold looks;rw[hg];refine Bz.2 (.inr ?_);simp only[hd];simp)
   simp only[hd,this]
theorem KH{s':St}{q:HQ}(ht:∀t∈looks ops o,s.tm t=s'.tm t)(hm:L7 P o.op=true->∀y∈o.op.operands.toList,∀i∈Cn (Db s'.tm y),(rd s.hp i=rd s'.hp i/\Pw s.hp i=Pw s'.hp i)\/(rd s.hp i=none/\Pw s.hp i=none))(h:gE C P N call ops o s=some q):gE C P N call ops o s'=some q:=by
 unfold gE at h ⊢;rw[<-Q7 ht];split at h
 ·cases h
 ·cases hM:AU C P o.op<;>rw[hM] at h
  ·have:=TP (C:=C) (P:=P) (N:=N) (call:=call) (o:=o) (tm:=s.tm) (tm':=s'.tm) (f:=rd s.hp) (f':=rd s'.hp) (g:=Pw s.hp) (g':=Pw s'.hp)
    (Rel:=fun (a b:Option HQ)=>a=some q->b=some q)
    (K:=fun v fz nw=>some (v,fz,nw)) (K':=fun v fz nw=>some (v,fz,nw)) (fun h=>h) (Im ht)
    (fun M4 y hy i hi=>(hm M4 y hy i hi).imp id fun h=>⟨h.1,h.2,fun _ h=>by cases h⟩) (fun v fz nw _ _ h=>h)
   exact this h
  ·cases h
 ·exact h
end
open Go.RowKit
theorem Ym:∀{nw:List (Nat × Cb)} {hp Di:Nat->Option Cb},C1 hp nw=true->(∀i b,(i,b)∈nw->Di i=none)->C1 Di nw=true
 |[],_,_,_,_=>rfl
 |(i,b)::nw,hp,Di,h,h'=>by
  simp only[C1,G8,Option.isNone_iff_eq_none] at h ⊢;exact⟨⟨h' i b (by simp),h.1.2⟩,Ym h.2 fun j c hj=>h' j c (by simp[hj])⟩
section
variable {hp:Nat->Option Cb}{fz:Cc}{nw:List (Nat × Cb)}
theorem Jh(ha:C1 hp nw=true){i:Nat}(hi:hp i≠none):Bf (Al hp fz) nw i=if i∈fz then (hp i).map CM else hp i:=by obtain⟨h1,h2⟩:=Cl ha;rw[(Gy h2).2 i (fun bx hb=>hi (h1 i bx hb)),C5]
theorem Oc(ha:C1 hp nw=true){i:Nat}{b:Cb}(hi:(i,b)∈nw):Bf (Al hp fz) nw i=some b:=
 (Gy (Cl ha).2).1 i b hi
theorem Vh(ha:C1 hp nw=true){i:Nat}(hi:hp i=none)(hn:∀b,(i,b) ∉ nw):Bf (Al hp fz) nw i=none:=by rw[(Gy (Cl ha).2).2 i hn,C5,hi];simp
theorem Ue(ha:C1 hp nw=true){i:Nat}(hi:hp i≠none):Bf (Al hp fz) nw i≠none:=by
 rw[Jh ha hi];cases h:hp i with
 |none=>exact absurd h hi
 |some b=>split<;>simp
theorem Awo(b:Option Cb):(match b.map CM with|some (.st c)=>some c|some (.ar _ c)=>some c|_=>none)=(match b with|some (.st c)=>some c|some (.ar _ c)=>some c|_=>none):=by
 cases b with
 |none=>rfl
 |some b=>cases b<;>rfl
theorem Atz(b:Option Cb):(match b.map CM with|some (.ar _ c)=>some c|_=>none)=(match b with|some (.ar _ c)=>some c|_=>none):=by
 cases b with
 |none=>rfl
 |some b=>cases b<;>rfl
theorem Agw(ha:C1 hp nw=true){i:Nat}(hi:hp i≠none):rd (Bf (Al hp fz) nw) i=rd hp i:=by
 unfold rd;rw[Jh ha hi];by_cases h:i∈fz
 ·rw[Bq h];exact Awo _
 ·rw[A5 h]
theorem Aa5(ha:C1 hp nw=true){i:Nat}(hi:hp i≠none):Pw (Bf (Al hp fz) nw) i=Pw hp i:=by
 unfold Pw;rw[Jh ha hi];by_cases h:i∈fz
 ·rw[Bq h];exact Atz _
 ·rw[A5 h]
theorem Al5{i:Nat}(hi:hp i=none):rd hp i=none:=by unfold rd;rw[hi]
theorem Rj{i:Nat}(hi:hp i=none):Pw hp i=none:=by unfold Pw;rw[hi]
theorem A7i(b:Option Cb):(b.map CM).map CM=b.map CM:=by
 cases b with
 |none=>rfl
 |some b=>cases b<;>rfl
theorem Ajg{fx fo:Cc}{nx no:List (Nat × Cb)}(hx:C1 hp nx=true)(ho:C1 (Bf (Al hp fx) nx) no=true)(ho':C1 hp no=true)(Zj:C1 (Bf (Al hp fo) no) nx=true)(h1:∀i∈fx,hp i≠none)(h2:∀i∈fo,hp i≠none):
  Bf (Al (Bf (Al hp fx) nx) fo) no=Bf (Al (Bf (Al hp fo) no) fx) nx:=by
 funext i
 by_cases hi:hp i=none
 ·by_cases hno:∃b,(i,b)∈no
  ·obtain⟨b,hb⟩:=hno
   have hnx:∀b',(i,b') ∉ nx:=fun b' J8=>by
    have:=(Cl ho).1 i b hb;rw[Oc hx J8] at this;cases this
   rw[Oc ho hb,Jh Zj (by rw[Oc ho' hb];simp),Oc ho' hb,A5 (fun h=>h1 i h hi)]
  ·have hno:∀b,(i,b) ∉ no:=fun b hb=>hno ⟨b,hb⟩;by_cases hnx:∃b,(i,b)∈nx
   ·obtain⟨b,hb⟩:=hnx;rw[Oc Zj hb,Jh ho (by rw[Oc hx hb];simp),Oc hx hb,A5 (fun h=>h2 i h hi)]
   ·have hnx:∀b,(i,b) ∉ nx:=fun b hb=>hnx ⟨b,hb⟩;rw[Vh ho (Vh hx hi hnx) hno,Vh Zj (Vh ho' hi hno) hnx]
 ·rw[Jh ho (Ue hx hi),Jh hx hi,Jh Zj (Ue ho' hi),Jh ho' hi];split<;>split<;>first|rfl|rw[A7i]
end
section
variable {R:Type}{r:R}{C:Kk}{P:Program}{N:Nat}{call:Bp}{ops:Array Oper}{o x:Oper}{s:St}{K:St->Option R}
structure LX(C:Kk)(P:Program)(ops:Array Oper)(x o:Oper):Prop where
 xo:∀d,x.dst=some d->d ∉ looks ops o
 ne:∀d,x.dst=some d->o.dst≠some d
 ox:∀d,o.dst=some d->d ∉ looks ops x
 mx:AU C P x.op=true->L7 P o.op=false
 mo:AU C P o.op=true->L7 P x.op=false
theorem AR{l:Cc}{d:Nat}(h:l.any (Nat.beq d)=false):d ∉ l:=by intro hm;have:l.any (Nat.beq d)=true:=List.any_eq_true.2 ⟨d,hm,Pu d⟩;rw[this] at h;cases h
theorem Avo(h:VP C P ops x o=false):LX C P ops x o:=by
 unfold VP at h;simp only[Bool.or_eq_false_iff,Bool.and_eq_false_iff] at h;obtain⟨⟨⟨h1,h2⟩,h3⟩,h4⟩:=h;refine⟨fun d hd=>?_,fun d hd he=>?_,fun d hd=>?_,fun hm=>?_,fun hm=>?_⟩
 ·simp only[hd,Bool.or_eq_false_iff] at h1;exact AR h1.1
 ·simp only[hd,he,Bool.or_eq_false_iff] at h1;rw[Pu] at h1;cases h1.2
 ·simp only[hd] at h2;exact AR h2
 ·rw[hm] at h3;rcases h3 with h|h
  ·cases h
  ·exact h
 ·rw[hm] at h4;rcases h4 with h|h
  ·cases h
  ·exact h
theorem Hh{tm:Nat->PV}{d:Option Tmp}{v:PV}{l:Cc}(h:∀i,d=some i->i ∉ l):∀t∈l,Co tm d v t=tm t:=by
 intro t ht;cases d with
 |none=>rfl
 |some d=>exact Aw _ _ (by rintro rfl;exact h _ rfl ht)
theorem Qn{tm:Nat->PV}{d e:Option Tmp}{u v:PV}(h:∀i,d=some i->e≠some i):Co (Co tm d u) e v=Co (Co tm e v) d u:=by
 cases d with
 |none=>rfl
 |some d=>
  cases e with
  |none=>rfl
  |some e=>exact Ae5 _ _ _ (by rintro rfl;exact h _ rfl rfl)
def Has(C:Kk)(P:Program)(o:Oper)(s:St):Prop:=(∀y∈o.op.operands.toList,∀i∈Cn (Db s.tm y),s.hp i≠none) /\
 (AU C P o.op=true->Uv o.op=false->∀y∈o.op.operands.toList,∀i∈Cn (Db s.tm y),∀c,s.hp i=some (.st c)->∀p∈c,∀k∈A9 p,s.hp k≠none)
theorem Lt{tm tm':Nat->PV}(h:∀t∈looks ops o,tm t=tm' t):Km C P ops o tm=Km C P ops o tm':=by unfold Km;rw[Q7 h]
theorem Ale(hw:Has C P o s)(xo:∀d,x.dst=some d->d ∉ looks ops o)(ne:∀d,x.dst=some d->o.dst≠some d)(ox:∀d,o.dst=some d->d ∉ looks ops x)(hx:Km C P ops x s.tm=false)(ho:Km C P ops o s.tm=false)(h:Fd C P N call ops x s (fun s1=>Fd C P N call ops o s1 K)=some r):Fd C P N call ops o s (fun s1=>Fd C P N call ops x s1 K)=some r:=by
 rw[Q3 hx] at h;cases ex:gE C P N call ops x s with
 |none=>rw[ex] at h;cases h
 |some q=>
 obtain⟨vx,fx,nx⟩:=q;rw[ex] at h;obtain⟨hb,h1⟩:=Az h;simp only[G8] at hb;have t1:∀t∈looks ops o,Co s.tm x.dst vx t=s.tm t:=Hh xo;change Fd C P N call ops o ⟨Co s.tm x.dst vx,Bf (Al s.hp fx) nx⟩ K=some r at h1;rw[Q3 (by rw[Lt t1];exact ho)] at h1
 cases eo:gE C P N call ops o ⟨Co s.tm x.dst vx,Bf (Al s.hp fx) nx⟩ with
 |none=>rw[eo] at h1;cases h1
 |some q=>
 obtain⟨vo,fo,no⟩:=q;rw[eo] at h1;obtain⟨hc,h2⟩:=Az h1;change K ⟨Co (Co s.tm x.dst vx) o.dst vo,Bf (Al (Bf (Al s.hp fx) nx) fo) no⟩=some r at h2;simp only[G8] at hc
 have eo':gE C P N call ops o s=some (vo,fo,no):=by
  refine KH t1 (fun _ y hy i hi=>?_) eo;have:=hw.1 y hy i hi;exact .inl ⟨Agw hb.2 this,Aa5 hb.2 this⟩
 have ho':C1 s.hp no=true:=Ym hc.2 fun i b hi=>by
  cases hs:s.hp i with
  |none=>rfl
  |some c=>exact absurd ((Cl hc.2).1 i b hi) (Ue hb.2 (by rw[hs];simp))
 rw[Q3 ho,eo']
 have Zj:C1 (Bf (Al s.hp fo) no) nx=true:=Ym hb.2 fun i b hi=>by
  refine Vh ho' ((Cl hb.2).1 i b hi) fun c AL=>?_;have:=(Cl hc.2).1 i c AL;rw[Oc hb.2 hi] at this;cases this
 have t2:∀t∈looks ops x,s.tm t=Co s.tm o.dst vo t:=fun t ht=>(Hh ox t ht).symm
 have ex':gE C P N call ops x ⟨Co s.tm o.dst vo,Bf (Al s.hp fo) no⟩=some (vx,fx,nx):=by
  refine KH t2 (fun _ y hy i hi=>?_) ex;by_cases hs:s.hp i=none
  ·exact .inr ⟨Al5 hs,Rj hs⟩
  ·exact .inl ⟨(Agw ho' hs).symm,(Aa5 ho' hs).symm⟩
 show As _ _=_;rw[hc.1,ho'];show Fd C P N call ops x ⟨Co s.tm o.dst vo,Bf (Al s.hp fo) no⟩ K=some r;rw[Q3 (by rw[<-Lt t2];exact hx),ex']
 show As _ _=_;rw[hb.1,Zj];rw[<-h2];have hfx:∀i∈fx,s.hp i≠none:=fun i hi hs=>(DY ex).2 i hi (Rj hs);have hfo:∀i∈fo,s.hp i≠none:=fun i hi hs=>(DY eo').2 i hi (Rj hs);show K ⟨Co (Co s.tm o.dst vo) x.dst vx,Bf (Al (Bf (Al s.hp fo) no) fx) nx⟩=K _;rw[Qn ne,Ajg hb.2 hc.2 ho' Zj hfx hfo]
end
open Go.RowKit
theorem KW{C:Kk}{P:Program}{o:Op}(h:AU C P o=true):L7 P o=true:=by
 unfold AU at h;split at h
 ·rfl
 ·rename_i c;unfold L7;simp only;split at h<;>rename_i hc
  ·rw[hc]
  ·rw[hc]
  ·cases h
  ·rw[hc]
  ·cases h
 ·cases h
structure XY(N:Nat)(S:Nat->Prop)(dst:Option Nat)(hp Fs Di Id:Nat->Option Cb):Prop where
 keep:∀i,hp i≠none->Di i≠none
 off:∀i,i<N->dst≠some i->(¬S i\/hp i=none)->Di i=hp i/\Id i=Fs i
 same:∀i,hp i=Fs i->Di i=Id i
 far:∀i,¬S i->hp i≠none->Di i=hp i
section
variable {R R':Type}{Rel:Option R->Option R'->Prop}{P:Program}{N:Nat}{tm tm':Nat->PV}{hp Fs:Nat->Option Cb}{f f':Nat->Option Ab}{o:Oper}
theorem Aak(hn:Rel none none){t:CT}{p:PV}{K:PV->Cc->Option R}{K':PV->Cc->Option R'}(hf:Agr Rel f f' (A9 p))(hK:∀c m,(∀i∈m,f i≠none/\i∈A9 p)->Rel (K c m) (K' c m)):Rel (V0 f t p K) (V0 f' t p K'):=by
 unfold V0;split
 ·split
  ·rename_i id es' off n;cases Nat.beq es' _
   ·exact hn
   ·exact KO hn hf (by simp[A9]) fun c hc=>Bl hn fun _=>hK _ _ (by simp[hc,A9])
  ·exact Iu hn fun _ _ _=>hK _ _ (by simp)
 ·exact W5 hn fun _=>hK _ _ (by simp)
theorem WH(hn:Rel none none):∀{ts:List CT}{ps:Ab}{K:Ab->Cc->Option R}{K':Ab->Cc->Option R'},Agr Rel f f' (ps.flatMap A9)->(∀c m,(∀i∈m,f i≠none/\i∈ps.flatMap A9)->Rel (K c m) (K' c m))->Rel (Vv f ts ps K) (Vv f' ts ps K')
 |[],[],_,_,_,hK=>hK _ _ (by simp)
 |[],_::_,_,_,_,_=>hn
 |_::_,[],_,_,_,_=>hn
 |_::_,p::ps,_,_,hf,hK=>Aak hn (fun i hi=>hf i (by simp only[Jr,Bz];exact .inl hi)) fun _ m hm=>WH hn (fun i hi=>hf i (by simp only[Jr,Bz];exact .inr hi)) fun _ ms SW=>hK _ _ fun i hi=>by
   simp only[Jr,Bz];rcases Bz.1 hi with h|h
   ·exact⟨(hm i h).1,.inl (hm i h).2⟩
   ·exact⟨(SW i h).1,.inr (SW i h).2⟩
theorem EZ{S:Nat->Prop}{dst:Option Nat}{id:Nat}{b:Cb}{h0 h1:Nat->Option Cb}(hS:S id)(B5:hp id≠none)(h:XY N S dst hp Fs h0 h1):XY N S dst hp Fs (Dz h0 id (some b)) (Dz h1 id (some b)):=by
 refine⟨fun i hi=>?_,fun i hN hd hi=>?_,fun i hi=>?_,fun i hn hi=>?_⟩
 ·by_cases e:i=id
  ·subst e;rw[A8];simp
  ·rw[Aw _ _ e];exact h.keep i hi
 ·have e:i≠id:=by
   rintro rfl
   rcases hi with hi|hi
   ·exact hi hS
   ·exact B5 hi
  rw[Aw _ _ e,Aw _ _ e];exact h.off i hN hd hi
 ·by_cases e:i=id
  ·subst e;rw[A8,A8]
  ·rw[Aw _ _ e,Aw _ _ e];exact h.same i hi
 ·rw[Aw _ _ (by rintro rfl;exact hn hS)];exact h.far i hn hi
theorem Ac3{S:Nat->Prop}{d:Nat}{b:Cb}{h0 h1:Nat->Option Cb}(hz:hp d=none)(h:XY N S (some d) hp Fs h0 h1):XY N S (some d) hp Fs (Dz h0 d (some b)) (Dz h1 d (some b)):=by
 refine⟨fun i hi=>?_,fun i hN hd hi=>?_,fun i hi=>?_,fun i hn hi=>?_⟩
 ·by_cases e:i=d
  ·subst e;rw[A8];simp
  ·rw[Aw _ _ e];exact h.keep i hi
 ·have e:i≠d:=by rintro rfl;exact hd rfl
  rw[Aw _ _ e,Aw _ _ e];exact h.off i hN hd hi
 ·by_cases e:i=d
  ·subst e;rw[A8,A8]
  ·rw[Aw _ _ e,Aw _ _ e];exact h.same i hi
 ·rw[Aw _ _ (by rintro rfl;exact hi hz)];exact h.far i hn hi
theorem DO(S:Nat->Prop)(dst:Option Nat):XY N S dst hp Fs hp Fs:=⟨fun _ h=>h,fun _ _ _ _=>⟨rfl,rfl⟩,fun _ h=>h,fun _ _ _=>rfl⟩
theorem Aj8{S:Nat->Prop}{dst:Option Nat}{m:Cc}(hm:∀i∈m,hp i≠none/\S i):XY N S dst hp Fs (Al hp m) (Al Fs m):=by
 refine⟨fun i hi=>fun h=>hi (Gb.1 h),fun i hN hd hi=>?_,fun i hi=>?_,fun i hn hi=>?_⟩
 ·have e:i ∉ m:=by
   intro h;rcases hi with hi|hi
   ·exact hi (hm i h).2
   ·exact (hm i h).1 hi
  rw[C5,C5,A5 e,A5 e];exact⟨rfl,rfl⟩
 ·rw[C5,C5,hi]
 ·rw[C5,A5 (fun h=>hn (hm i h).2)]
theorem Acp{S:Nat->Prop}(h:∀i,S i->hp i=Fs i\/(hp i=none/\∀b,Rel none b)){l:Cc}(hl:∀i∈l,S i):Agr Rel (Pw hp) (Pw Fs) l:=by
 intro i hi;rcases h i (hl i hi) with h|⟨h,h'⟩
 ·left;unfold Pw;rw[h]
 ·exact .inr ⟨Rj h,h'⟩
theorem Ahi(hn:Rel none none){t:TypeId}{a x:PV}{K:St->Option R}{K':St->Option R'}{S:Nat->Prop}(hS:∀i,S i->hp i=Fs i\/(hp i=none/\∀b,Rel none b))(ha:∀i∈A9 a,S i)(hx:∀i∈C3 x,S i)(hK:∀Di Id,XY N S none hp Fs Di Id->Rel (K ⟨tm,Di⟩) (K' ⟨tm',Id⟩)):Rel (MV P ⟨tm,hp⟩ t a x K) (MV P ⟨tm',Fs⟩ t a x K'):=by
 unfold MV;split
 ·rename_i id off;show Rel (match hp id with|some (.st c)=>_|some (.ar false c)=>_|_=>none) (match Fs id with|some (.st c)=>_|some (.ar false c)=>_|_=>none);have B5:S id:=ha id (by simp[A9]);rcases hS id B5 with h|⟨h,hb⟩
  ·rw[<-h];split
   ·rename_i c hc;exact Bl hn fun _=>Vr hn fun _=>hK _ _ (EZ B5 (by rw[hc];simp) (DO _ _))
   ·rename_i c hc;refine Bl hn fun _=>WH hn (Acp hS fun i hi=>hx i ?_) fun _ m hm=>Bl hn fun _=>hK _ _ (EZ B5 (by rw[hc];simp) (Aj8 fun i hi=>⟨fun h=>(hm i hi).1 (Rj h),hx i ?_⟩))
    ·obtain⟨c,hc,hi⟩:=List.mem_flatMap.1 hi;exact DD hc hi
    ·obtain⟨c,hc,hi⟩:=List.mem_flatMap.1 (hm i hi).2;exact DD hc hi
   ·exact hn
  ·rw[h];exact hb _
 ·exact hn
theorem NN(hn:Rel none none){es:Nat}{t:TypeId}{x:PV}{K:Nat->Ab->Option R}{K':Nat->Ab->Option R'}{S:Nat->Prop}(hS:∀i,S i->hp i=Fs i\/(hp i=none/\∀b,Rel none b))(hx:∀i∈C3 x,S i)(hK:∀m c,Rel (K m c) (K' m c)):Rel (Aim P ⟨tm,hp⟩ es t x K) (Aim P ⟨tm',Fs⟩ es t x K'):=by
 unfold Aim Akp;split
 ·exact Bl hn fun _=>Jg hn fun _=>hK _ _
 ·exact MI hn (Acp hS fun i hi=>hx i (DA hi)) hK
 ·exact hn
theorem LC(hn:Rel none none){d:Nat}{t tx:TypeId}{b x:PV}{K:St->Option R}{K':St->Option R'}{S:Nat->Prop}(hS:∀i,S i->hp i=Fs i\/(hp i=none/\∀b,Rel none b))(hdd:hp d=Fs d)(hb:∀i∈C3 b,S i)(hx:∀i∈C3 x,S i)(hK:∀v Di Id,(∀M,XY M S (some d) hp Fs Di Id)->Rel (K ⟨Dz tm d v,Di⟩) (K' ⟨Dz tm' d v,Id⟩)):Rel (Wx P N ⟨tm,hp⟩ d t tx b x K) (Wx P N ⟨tm',Fs⟩ d t tx b x K'):=by
 unfold Wx;split
 ·refine Bl hn fun _=>?_;cases JG P tx
  rotate_left
  ·show Rel (CU P N ⟨tm,hp⟩ d _ b x K) (CU P N ⟨tm',Fs⟩ d _ b x K');refine Ga hn fun _ n=>Iu hn fun z _ _=>?_;show Rel (As (z&&Nat.blt d N&&(hp d).isNone&&_&&_&&_) _) (As (z&&Nat.blt d N&&(Fs d).isNone&&_&&_&&_) _);rw[<-hdd];exact Bl hn fun hb=>hK _ _ _ (fun M=>Ac3 (by simp only[G8,Option.isNone_iff_eq_none] at hb;simp only[hb]) (DO _ _))
  rw[cond_false,cond_false];refine NN hn hS hx fun m new=>?_;split
  ·rename_i id es off n;show Rel (match hp id with|some (.ar false c)=>As (Nat.beq es _&&Nat.beq off 0&&Nat.blt d N&&(hp d).isNone&&_&&_&&_&&_) _|_=>none) (match Fs id with|some (.ar false c)=>As (Nat.beq es _&&Nat.beq off 0&&Nat.blt d N&&(Fs d).isNone&&_&&_&&_&&_) _|_=>none);have B5:S id:=hb id (by simp[C3,A9]);rw[<-hdd];rcases hS id B5 with h|⟨h,hbb⟩
   ·rw[<-h];split
    ·rename_i c hc;exact Bl hn fun hb=>hK _ _ _ (fun M=>Ac3 (by simp only[G8,Option.isNone_iff_eq_none] at hb;simp only[hb]) (EZ B5 (by rw[hc];simp) (DO _ _)))
    ·exact hn
   ·rw[h];exact hbb _
  ·refine Iu hn fun z _ _=>?_;show Rel (As (z&&Nat.blt d N&&(hp d).isNone&&_&&_&&_) _) (As (z&&Nat.blt d N&&(Fs d).isNone&&_&&_&&_) _);rw[<-hdd];exact Bl hn fun hb=>hK _ _ _ (fun M=>Ac3 (by simp only[G8,Option.isNone_iff_eq_none] at hb;simp only[hb]) (DO _ _))
 ·exact hn
theorem Aj5(hn:Rel none none){d:Option Tmp}{t tx:TypeId}{b x:PV}{K:St->Option R}{K':St->Option R'}{S:Nat->Prop}(hS:∀i,S i->hp i=Fs i\/(hp i=none/\∀b,Rel none b))(hb:∀i∈C3 b,S i)(hx:∀i∈C3 x,S i)(hK:∀v Di Id,XY N S d hp Fs Di Id->Rel (K ⟨Co tm d v,Di⟩) (K' ⟨Co tm' d v,Id⟩)):Rel (Abf P N ⟨tm,hp⟩ d t tx b x K) (Abf P N ⟨tm',Fs⟩ d t tx b x K'):=by
 unfold Abf;split
 ·refine Bl hn fun _=>?_;refine NN hn hS hx fun m new=>?_;split
  ·rename_i id es off n;show Rel (match hp id with|some (.ar false c)=>As (Nat.beq es _&&_&&_) _|_=>none) (match Fs id with|some (.ar false c)=>As (Nat.beq es _&&_&&_) _|_=>none);have B5:S id:=hb id (by simp[C3,A9]);rcases hS id B5 with h|⟨h,hbb⟩
   ·rw[<-h];split
    ·rename_i c hc;exact Bl hn fun _=>hK _ _ _ (EZ B5 (by rw[hc];simp) (DO _ _))
    ·exact hn
   ·rw[h];exact hbb _
  ·exact hn
 ·exact hn
def Azl(o:Oper)(tm:Nat->PV)(i:Nat):Prop:=∃x∈o.op.operands.toList,i∈Cn (Db tm x)
def IK(o:Oper)(tm:Nat->PV)(hp:Nat->Option Cb)(i:Nat):Prop:=Azl o tm i\/Uv o.op=false/\∃id c,Azl o tm id/\hp id=some (.st c)/\∃p∈c,i∈A9 p
theorem Anr(hn:Rel none none){mv:Bool}{t:CT}{p:PV}{K:PV->Cc->Cc->Option R}{K':PV->Cc->Cc->Option R'}{S:Nat->Prop}(hS:∀i,S i->hp i=Fs i\/(hp i=none/\∀b,Rel none b))(hp_:∀i∈A9 p,S i)(hK:∀c m x,(∀i∈m++x,hp i≠none/\S i)->Rel (K c m x) (K' c m x)):Rel (Apj mv hp t p K) (Apj mv Fs t p K'):=by
 have frz:∀{t:CT} {p:PV},(∀i∈A9 p,S i)->Rel (V0 (Pw hp) t p fun c m=>K c m []) (V0 (Pw Fs) t p fun c m=>K' c m []):=fun h=>Aak hn (Acp hS h) fun c m hm=>hK _ _ _ fun i hi=>by
  rw[List.append_nil] at hi;exact⟨fun e=>(hm i hi).1 (Rj e),h i (hm i hi).2⟩
 unfold Apj;split
 ·rename_i es;cases mv<;>simp only[cond_true,cond_false]
  ·exact frz hp_
  ·split
   ·rename_i id es' off n;rcases hS id (hp_ id (by simp[A9])) with h|⟨h,hb⟩
    ·rw[<-h];split
     ·rename_i c hc;cases (Nat.beq es' es&&Nat.beq off 0)<;>simp only[cond_true,cond_false]
      ·exact frz hp_
      ·exact Bl hn fun _=>hK _ _ _ fun i hi=>by
        simp only[SR,Mv] at hi;subst hi;exact⟨by rw[hc];simp,hp_ i (by simp[A9])⟩
     ·exact frz hp_
    ·rw[h]
     have:(V0 (Pw hp) (.sl es) (.view id es' off n) fun c m=>K c m [])=none:=by
      unfold V0;simp only;cases Nat.beq es' es
      ·rfl
      ·simp only[cond_true,Rj h,F3]
     show Rel (V0 (Pw hp) (.sl es) (.view id es' off n) fun c m=>K c m []) _;rw[this];exact hb _
   ·refine Iu hn fun z n c=>?_;cases z
    ·exact hK _ _ _ (by simp)
    ·exact hK _ _ _ (by simp)
 ·exact W5 hn fun _=>hK _ _ _ (by simp)
theorem Z8(hn:Rel none none){mv:Bool}{S:Nat->Prop}(hS:∀i,S i->hp i=Fs i\/(hp i=none/\∀b,Rel none b)):∀{ts:List CT}{ps:Ab}{K:Ab->Cc->Cc->Option R}{K':Ab->Cc->Cc->Option R'},(∀p∈ps,∀i∈A9 p,S i) ->
  (∀c m x,(∀i∈m++x,hp i≠none/\S i)->Rel (K c m x) (K' c m x))->Rel (PQ mv hp ts ps K) (PQ mv Fs ts ps K')
 |[],[],_,_,_,hK=>hK _ _ _ (by simp)
 |[],_::_,_,_,_,_=>hn
 |_::_,[],_,_,_,_=>hn
 |_::_,p::ps,_,_,hp_,hK=>Anr hn hS (hp_ p (by simp)) fun _ m x hm=>Z8 hn hS (fun q hq=>hp_ q (by simp[hq])) fun _ ms xs SW=>hK _ _ _ fun i hi=>by
   simp only[Bz] at hi hm SW;rcases hi with (hi|hi)|(hi|hi)
   ·exact hm i (.inl hi)
   ·exact SW i (.inl hi)
   ·exact hm i (.inr hi)
   ·exact SW i (.inr hi)
theorem Ah1(hn:Rel none none){C:Kk}{f:FuncId}{i:Nat}{t:TypeId}{p:PV}{K:PV->Cc->Cc->List Kj->Option R}{K':PV->Cc->Cc->List Kj->Option R'}{S:Nat->Prop}(hS:∀i,S i->hp i=Fs i\/(hp i=none/\∀b,Rel none b))(hp_:∀i∈Cn p,S i)(hc:∀i∈Cn p,∀c,Fs i=some (.st c)->∀q∈c,∀k∈A9 q,S k)(hK:∀v m x l,(∀i∈m++x++l.flatMap Kj.ids,hp i≠none/\S i)->Rel (K v m x l) (K' v m x l)):Rel (NO C P f hp i t p K) (NO C P f Fs i t p K'):=by
 unfold NO;split
 ·split
  ·rename_i id off;have B5:S id:=hp_ id (by simp[Cn,C3,A9]);rcases hS id B5 with h|⟨h,hb⟩
   ·rw[h];split
    ·rename_i c hc1;refine Bl hn fun _=>Z8 hn hS (fun q hq k hk=>hc id (by simp[Cn,C3,A9]) c hc1 q (List.mem_of_mem_drop (List.mem_of_mem_take hq)) k hk) fun cs m x hm=>hK _ _ _ _ fun k hk=>?_;rcases Bz.1 hk with hk|hk
     ·exact hm k hk
     ·simp only[Jr,List.flatMap_nil,Kj.ids,List.append_nil,Mv] at hk;subst hk;exact⟨by rw[h,hc1];simp,B5⟩
    ·exact hn
   ·rw[h];exact hb _
  ·exact hn
 ·cases C.lnd f i
  ·cases Dd P t
   ·exact Z8 hn hS (fun q hq k hk=>by
     simp at hq;subst hq;exact hp_ k (Qi hk)) fun cs m x hm=>Cf hn fun _ _ _=>H4 hn (hK _ _ _ _ (by simpa using hm))
   ·refine On hn fun cs hcs=>Z8 hn hS (fun q hq k hk=>hp_ k ?_) fun cs m x hm=>hK _ _ _ _ (by simpa using hm);subst hcs;exact List.mem_flatMap.2 ⟨q,hq,hk⟩
  ·refine Ff hn fun e he=>?_;unfold Atm;split
   ·rename_i id es' off n;have B5:S id:=hp_ id (by simp[Cn,C3,A9]);rcases hS id B5 with h|⟨h,hb⟩
    ·rw[h];split
     ·rename_i c hc1;refine Bl hn fun _=>hK _ _ _ _ fun k hk=>?_;simp only[SR,Jr,List.flatMap_nil,Kj.ids,List.append_nil,Mv] at hk;subst hk;exact⟨by rw[h,hc1];simp,B5⟩
     ·exact hn
    ·rw[h];exact hb _
   ·exact Iu hn fun _ _ _=>Bl hn fun _=>hK _ _ _ _ (by simp[Kj.ids])
theorem SM(hn:Rel none none){C:Kk}{f:FuncId}{S:Nat->Prop}(hS:∀i,S i->hp i=Fs i\/(hp i=none/\∀b,Rel none b)):∀{ts:List TypeId}{ps:Ab}{i:Nat}{K:Ab->Cc->Cc->List Kj->Option R}{K':Ab->Cc->Cc->List Kj->Option R'},
  (∀p∈ps,∀i∈Cn p,S i)->(∀p∈ps,∀i∈Cn p,∀c,Fs i=some (.st c)->∀q∈c,∀k∈A9 q,S k) ->
  (∀v m x l,(∀i∈m++x++l.flatMap Kj.ids,hp i≠none/\S i)->Rel (K v m x l) (K' v m x l))->Rel (Aa7 C P f hp i ts ps K) (Aa7 C P f Fs i ts ps K')
 |[],[],_,_,_,_,_,hK=>hK _ _ _ _ (by simp)
 |[],_::_,_,_,_,_,_,_=>hn
 |_::_,[],_,_,_,_,_,_=>hn
 |_::_,p::ps,_,_,_,hp_,hc,hK=>Ah1 hn hS (hp_ p (by simp)) (hc p (by simp)) fun _ m x l hm=>SM hn hS (fun q hq=>hp_ q (by simp[hq])) (fun q hq=>hc q (by simp[hq])) fun _ ms xs ls SW=>hK _ _ _ _ fun i hi=>by
   simp only[Bz,List.flatMap_append] at hi hm SW;rcases hi with ((hi|hi)|(hi|hi))|(hi|hi)
   ·exact hm i (.inl (.inl hi))
   ·exact SW i (.inl (.inl hi))
   ·exact hm i (.inl (.inr hi))
   ·exact SW i (.inl (.inr hi))
   ·exact hm i (.inr hi)
   ·exact SW i (.inr hi)
theorem Atx(hn:Rel none none){t:Nat}{ct:CT}{was p:PV}{K:Nat->PV->List (Nat × Cb)->Option R}{K':Nat->PV->List (Nat × Cb)->Option R'}(hK:∀t c b,(∀q∈b,∃k,q.1=nid N k)->Rel (K t c b) (K' t c b)):Rel (An4 N t ct was p K) (An4 N t ct was p K'):=by
 unfold An4;split
 ·split
  ·exact Amo hn fun _ _=>hK _ _ _ (by intro q hq;simp only[Mv] at hq;subst hq;exact⟨t,rfl⟩)
  ·exact Iu hn fun _ _ _=>hK _ _ _ (by simp)
 ·exact W5 hn fun _=>hK _ _ _ (by simp)
theorem YZ(hn:Rel none none):∀{cts:List CT}{ws ps:Ab}{t:Nat}{K:Nat->Ab->List (Nat × Cb)->Option R} {K':Nat->Ab->List (Nat × Cb)->Option R'},(∀t c b,(∀q∈b,∃k,q.1=nid N k)->Rel (K t c b) (K' t c b))->Rel (ZN N t cts ws ps K) (ZN N t cts ws ps K')
 |[],[],_,_,_,_,hK=>H4 hn (hK _ _ _ (by simp))
 |[],_::_,_,_,_,_,_=>hn
 |_::_,[],_,_,_,_,_=>hn
 |_::_,_::_,_,_,_,_,hK=>Cf hn fun _ _ _=>Atx hn fun _ _ b hb=>YZ hn fun _ _ bs UP=>hK _ _ _ fun q hq=>by
   rcases Bz.1 hq with h|h
   ·exact hb q h
   ·exact UP q h
theorem EP(hn:Rel none none){S:Nat->Prop}{dst:Option Nat}:∀{l:List Kj}{ro:List Ab} {t:Nat}{h0 h1:Nat->Option Cb}{K:(Nat->Option Cb)->List (Nat × Cb)->Option R} {K':(Nat->Option Cb)->List (Nat × Cb)->Option R'},
  XY N S dst hp Fs h0 h1->(∀i∈l.flatMap Kj.ids,hp i≠none/\S i/\hp i=Fs i)->(∀h0' ZY b,XY N S dst hp Fs h0' ZY->(∀q∈b,∃k,q.1=nid N k)->Rel (K h0' b) (K' ZY b))->Rel (IY N t l ro h0 K) (IY N t l ro h1 K')
 |[],_,_,_,_,_,_,hT,_,hK=>H4 hn (hK _ _ _ hT (by simp))
 |.var id off cts ws::l,ro,t,h0,h1,K,K',hT,hl,hK=>by
  unfold IY;refine Cf hn fun cs ro _=>YZ hn fun t' cs' bs UP=>?_;have B5:=hl id (by simp[Kj.ids]);rw[<-hT.same id B5.2.2];split
  ·exact EP hn (EZ B5.2.1 B5.1 hT) (fun i hi=>hl i (by simp only[Jr,Bz];exact .inr hi)) fun h0' ZY b hT' hb=>hK _ _ _ hT' fun q hq=>by
    rcases Bz.1 hq with h|h
    ·exact UP q h
    ·exact hb q h
  ·exact hn
 |.row id::l,ro,t,h0,h1,K,K',hT,hl,hK=>by
  unfold IY;have B5:=hl id (by simp[Kj.ids]);exact Cf hn fun cs ro _=>EP hn (EZ B5.2.1 B5.1 hT) (fun i hi=>hl i (by simp only[Jr,Bz];exact .inr hi)) hK
 |.none::l,ro,t,h0,h1,K,K',hT,hl,hK=>by
  unfold IY;exact Cf hn fun cs ro _=>EP hn hT (fun i hi=>hl i (by simp only[Jr,Bz];exact .inr hi)) hK
theorem Ahz(h:∀i,N<=i->hp i=Fs i)(hN:0<N):∀k t,Afz N hp k t=Afz N Fs k t
 |0,_=>rfl
 |k+1,t=>by
  unfold Afz;rw[h (nid N t) (by unfold nid;exact Nat.le_mul_of_pos_right _ (by omega)),Ahz h hN k (t+1)]
theorem YU{h0 h1:Nat->Option Cb}:∀{nw:List (Nat × Cb)},(∀q∈nw,h0 q.1=h1 q.1)->C1 h0 nw=C1 h1 nw
 |[],_=>rfl
 |(i,b)::nw,h=>by
  unfold C1;rw[h (i,b) (by simp),YU (fun q hq=>h q (by simp[hq]))]
theorem WD{S:Nat->Prop}{dst:Option Nat}{h0 h1:Nat->Option Cb}(hT:XY N S dst hp Fs h0 h1):∀{nw:List (Nat × Cb)} {g0 g1:Nat->Option Cb},XY N S dst hp Fs g0 g1->(∀q∈nw,N<=q.1\/dst=some q.1)->(∀q∈nw,hp q.1=none)->XY N S dst hp Fs (Bf g0 nw) (Bf g1 nw)
 |[],_,_,h,_,_=>h
 |(i,b)::nw,g0,g1,h,hi,hz=>by
  refine WD hT (nw:=nw) ⟨fun k hk=>?_,fun k hN hd hk=>?_,fun k hk=>?_,fun k hn hk=>?_⟩ (fun q hq=>hi q (by simp[hq])) (fun q hq=>hz q (by simp[hq]))
  ·by_cases e:k=i
   ·subst e;rw[A8];simp
   ·rw[Aw _ _ e];exact h.keep k hk
  ·have e:k≠i:=by
    rintro rfl
    rcases hi (k,b) (by simp) with q|q
    ·simp only at q;omega
    ·exact hd q
   rw[Aw _ _ e,Aw _ _ e];exact h.off k hN hd hk
  ·by_cases e:k=i
   ·subst e;rw[A8,A8]
   ·rw[Aw _ _ e,Aw _ _ e];exact h.same k hk
  ·rw[Aw _ _ (by rintro rfl;exact hk (hz (k,b) (by simp)))];exact h.far k hn hk
theorem A1y{S:Nat->Prop}{dst:Option Nat}{m x:Cc}(hm:∀i∈m++x,hp i≠none/\S i):XY N S dst hp Fs (DB (Al hp m) x) (DB (Al Fs m) x):=by
 refine⟨fun i hi h=>?_,fun i hN hd hi=>?_,fun i hi=>?_,fun i hn hi=>?_⟩
 ·rw[Jf] at h;have h1:Al hp m i≠none:=fun e=>hi (Gb.1 e);split at h
  ·cases hq:Al hp m i with
   |none=>exact h1 hq
   |some b=>rw[hq] at h;cases h
  ·exact h1 h
 ·have e:i ∉ m/\i ∉ x:=by
   refine⟨fun h=>?_,fun h=>?_⟩<;>(rcases hi with hi|hi)
   ·exact hi (hm i (by simp[h])).2
   ·exact (hm i (by simp[h])).1 hi
   ·exact hi (hm i (by simp[h])).2
   ·exact (hm i (by simp[h])).1 hi
  rw[Jf,Jf,A5 e.2,A5 e.2,C5,C5,A5 e.1,A5 e.1];exact⟨rfl,rfl⟩
 ·rw[Jf,Jf,C5,C5,hi]
 ·rw[Jf,C5,A5 (fun h=>hn (hm i (by simp[h])).2),A5 (fun h=>hn (hm i (by simp[h])).2)]
theorem Aeh(hn:Rel none none){C:Kk}{call:Bp}{f:FuncId}{c:Call}{K:St->Option R}{K':St->Option R'}{S:Nat->Prop}(Pz:c.args.toList.map (Db tm)=c.args.toList.map (Db tm'))(hS:∀i,S i->hp i=Fs i\/(hp i=none/\∀b,Rel none b))(hp_:∀p∈c.args.toList.map (Db tm'),∀i∈Cn p,S i)(hc:∀p∈c.args.toList.map (Db tm'),∀i∈Cn p,∀c,Fs i=some (.st c)->∀q∈c,∀k∈A9 q,S k)(hdd:∀d,o.dst=some d->hp d=Fs d)(hNN:∀i,N<=i->hp i=Fs i)(hK:∀v Di Id,XY N S o.dst hp Fs Di Id->Rel (K ⟨Co tm o.dst v,Di⟩) (K' ⟨Co tm' o.dst v,Id⟩)):Rel (MT C P N call ⟨tm,hp⟩ o f c K) (MT C P N call ⟨tm',Fs⟩ o f c K'):=by
 unfold MT;simp only[Pz];refine SM hn hS hp_ hc fun vs m x l hm=>Bl hn fun hb=>ZW hn fun rv ro=>NJ hn fun ws bs UP=>Bl hn fun _=>?_;simp only[G8] at hb;have hN:0<N:=Nat.lt_of_succ_le (Xx hb.1.2);rw[Ahz hNN hN];by_cases Agk:∃i∈l.flatMap Kj.ids,hp i≠Fs i
 ·obtain⟨i,hi,Gz⟩:=Agk;obtain⟨h1,h2⟩:=hm i (Bz.2 (.inr hi));rcases hS i h2 with h|⟨h,_⟩
  ·exact absurd h Gz
  ·exact absurd h h1
 have hl:∀i∈l.flatMap Kj.ids,hp i≠none/\S i/\hp i=Fs i:=fun i hi=>⟨(hm i (Bz.2 (.inr hi))).1,(hm i (Bz.2 (.inr hi))).2,Classical.byContradiction fun h=>Agk ⟨i,hi,h⟩⟩;have hT0:XY N S o.dst hp Fs (DB (Al hp m) x) (DB (Al Fs m) x):=A1y fun i hi=>hm i (Bz.2 (.inl hi));refine EP hn hT0 hl fun h0 h1 bs' hT Bar=>?_
 have Ap4:∀q∈bs++bs',N<=q.1\/o.dst=some q.1:=by
  intro q hq;rcases Bz.1 hq with hq|hq
  ·obtain⟨j,hj⟩:=UP q hq;cases hd:o.dst with
   |none=>
    rw[hd] at hj;left;rw[hj];exact Nat.le_add_right _ _
   |some d=>
    rw[hd] at hj;change q.1=d+N*j at hj;cases j with
    |zero=>right;rw[hj];simp
    |succ j=>left;rw[hj,Nat.mul_add];omega
  ·obtain⟨k,hk⟩:=Bar q hq;left;rw[hk];unfold nid;exact Nat.le_mul_of_pos_right _ (by omega)
 have BK:∀q∈bs++bs',h0 q.1=h1 q.1:=by
  intro q hq;refine hT.same q.1 ?_;rcases Ap4 q hq with h|h
  ·exact hNN _ h
  ·exact hdd _ h
 rw[YU BK]
 exact Bl hn fun hb=>hK _ _ _ (WD hT hT Ap4 fun q hq=>by
  cases hz:hp q.1 with
  |none=>rfl
  |some c=>exact absurd ((BK q hq).trans ((Cl hb).1 q.1 q.2 hq)) (hT.keep q.1 (by rw[hz];simp)))
theorem Qu(hn:Rel none none){C:Kk}{call:Bp}{K:St->Option R}{K':St->Option R'}(Pz:∀x∈o.op.operands.toList,Db tm x=Db tm' x)(hS:∀i,IK o tm' Fs i->hp i=Fs i\/(hp i=none/\∀b,Rel none b))(hdd:∀d,o.dst=some d->hp d=Fs d)(hNN:∀i,N<=i->hp i=Fs i)(hK:∀v Di Id,XY N (IK o tm' Fs) o.dst hp Fs Di Id->Rel (K ⟨Co tm o.dst v,Di⟩) (K' ⟨Co tm' o.dst v,Id⟩)):Rel (FU C P N call ⟨tm,hp⟩ o K) (FU C P N call ⟨tm',Fs⟩ o K'):=by
 unfold FU;have hl:∀x∈o.op.operands.toList,∀i∈Cn (Db tm' x),IK o tm' Fs i:=fun x hx i hi=>.inl ⟨x,hx,hi⟩;have RQ:Uv o.op=false->∀x∈o.op.operands.toList,∀i∈Cn (Db tm' x),∀c,Fs i=some (.st c)->∀q∈c,∀k∈A9 q,IK o tm' Fs k:=fun ha x hx i hi c hc q hq k hk=>.inr ⟨ha,i,c,⟨x,hx,hi⟩,hc,q,hq,hk⟩;generalize hLd:IK o tm' Fs=S at *
 generalize hop:o.op=op at *
 split
 ·rename_i t x y;simp only[Pz x (by simp[Op.operands]),Pz y (by simp[Op.operands])];refine Bl hn fun hd=>Ahi (N:=N) hn hS (fun i hi=>hl x (by simp[Op.operands]) i (Qi hi)) (fun i hi=>hl y (by simp[Op.operands]) i (I0 hi)) fun Di Id hh=>?_;have hd':=Option.isNone_iff_eq_none.1 hd;have:=hK .top Di Id (by rw[hd'];exact hh)
  rw[hd'] at this;exact this
 ·rename_i c
  have Qr:∀x∈c.args.toList,x∈(Op.call c).operands.toList:=by
   intro x hx;simp only[Op.operands,Call.operands,Array.toList_append,Bz];exact .inr hx
  split
  ·rename_i hc;refine Ff hn fun d hd=>Cf hn fun x _ hx=>Cf hn fun y _ hy=>H4 hn (Cf hn fun _ _ _=>Cf hn fun _ _ _=>?_);subst hy;have hxm:=Qr x (by rw[hx];simp)
   have hym:=Qr y (by rw[hx];simp)
   simp only[Pz x hxm,Pz y hym];refine LC hn hS (hdd d hd) (fun i hi=>hl x hxm i (I0 hi)) (fun i hi=>hl y hym i (I0 hi)) fun v Di Id hh=>?_;have:=hK v Di Id (by rw[hd];exact hh N)
   rw[hd] at this;exact this
  ·rename_i hc;refine Cf hn fun x _ hx=>Cf hn fun y _ hy=>H4 hn (Cf hn fun _ _ _=>Cf hn fun _ _ _=>?_);subst hy;have hxm:=Qr x (by rw[hx];simp)
   have hym:=Qr y (by rw[hx];simp)
   simp only[Pz x hxm,Pz y hym];exact Aj5 hn hS (fun i hi=>hl x hxm i (I0 hi)) (fun i hi=>hl y hym i (I0 hi)) hK
  ·rename_i f hcf;refine Aeh hn (List.map_congr_left fun x hx=>Pz x (Qr x hx)) hS (fun p hp i hi=>?_) (fun p hp i hi=>?_) hdd hNN hK
   ·obtain⟨x,hx,rfl⟩:=List.mem_map.1 hp;exact hl x (Qr x hx) i hi
   ·obtain⟨x,hx,rfl⟩:=List.mem_map.1 hp;exact RQ (by simp only[Uv,hcf]) x (Qr x hx) i hi
  ·exact hn
 ·exact hn
theorem SY(hn:Rel none none){C:Kk}{call:Bp}{K:St->Option R}{K':St->Option R'}(Pz:∀x∈o.op.operands.toList,Db tm x=Db tm' x)(hK:∀v Di,(∀i,hp i≠none->Di i≠none)->Rel (K ⟨Co tm o.dst v,Di⟩) (K' ⟨Co tm' o.dst v,Di⟩)):Rel (FU C P N call ⟨tm,hp⟩ o K) (FU C P N call ⟨tm',hp⟩ o K'):=
 Qu hn Pz (fun _ _=>.inl rfl) (fun _ _=>rfl) (fun _ _=>rfl) fun v Di Id hT=>by
  have:Di=Id:=funext fun i=>hT.same i rfl;subst this;exact hK v Di hT.keep
end
section
variable {R:Type}{r:R}{C:Kk}{P:Program}{N:Nat}{call:Bp}{ops:Array Oper}{o x:Oper}{s:St}{K:St->Option R}
theorem Ado{tm:Nat->PV}{hp Di:Nat->Option Cb}{tm':Nat->PV}{q:HQ}(hm:L7 P o.op=false)(ht:∀t∈looks ops o,tm t=tm' t)(h:gE C P N call ops o ⟨tm,hp⟩=some q):gE C P N call ops o ⟨tm',Di⟩=some q:=
 KH (s:=⟨tm,hp⟩) (s':=⟨tm',Di⟩) ht (fun h=>by rw[hm] at h;cases h) h
theorem NI{tm:Nat->PV}{hp:Nat->Option Cb}(hm:L7 P o.op=false)(h:Fd C P N call ops o ⟨tm,hp⟩ K=some r):
  ∃v nw,gE C P N call ops o ⟨tm,hp⟩=some (v,[],nw)/\Jt N o.dst=true/\C1 hp nw=true/\(∀p∈nw,o.dst=some p.1)/\K ⟨Co tm o.dst v,Bf hp nw⟩=some r:=by
 have hM:AU C P o.op=false:=by
  cases hh:AU C P o.op
  ·rfl
  ·rw[KW hh] at hm;cases hm
 rw[Q3 (by simp[Km,hM])] at h;cases e:gE C P N call ops o ⟨tm,hp⟩ with
 |none=>rw[e] at h;cases h
 |some q=>
  obtain⟨v,fz,nw⟩:=q;obtain⟨h1,h2⟩:=(DY e).1 hm;simp only at h1 h2;subst h1;rw[e] at h;obtain⟨hb,h⟩:=Az h;simp only[G8] at hb;exact⟨v,nw,rfl,hb.1,hb.2,h2,h⟩
theorem UW{tm:Nat->PV}{hp:Nat->Option Cb}{v:PV}{nw:List (Nat × Cb)}(hm:L7 P o.op=false)(e:gE C P N call ops o ⟨tm,hp⟩=some (v,[],nw))(hd:Jt N o.dst=true)(ha:C1 hp nw=true)(h:K ⟨Co tm o.dst v,Bf hp nw⟩=some r):Fd C P N call ops o ⟨tm,hp⟩ K=some r:=by
 have hM:AU C P o.op=false:=by
  cases hh:AU C P o.op
  ·rfl
  ·rw[KW hh] at hm;cases hm
 rw[Q3 (by simp[Km,hM]),e];show As _ _=_;have ha':C1 hp nw=true:=ha;rw[hd,ha'];exact h
theorem Tq{hp:Nat->Option Cb}{nw:List (Nat × Cb)}(ha:C1 hp nw=true){i:Nat}(hi:∀p∈nw,p.1≠i):Bf hp nw i=hp i:=
 (Gy (Cl ha).2).2 i fun b hb=>hi _ hb rfl
theorem Aqp{hp Di:Nat->Option Cb}{nw:List (Nat × Cb)}(ha:C1 hp nw=true){g:Nat->Option Cb}(h1:∀i,(∀p∈nw,p.1≠i)->g i=Di i)(h2:∀i,(∃p∈nw,p.1=i)->g i=Bf hp nw i)(ha':C1 Di nw=true):g=Bf Di nw:=by
 funext i
 by_cases h:∃p∈nw,p.1=i
 ·rw[h2 i h];obtain⟨⟨j,b⟩,hp,rfl⟩:=h;rw[(Gy (Cl ha).2).1 j b hp,(Gy (Cl ha').2).1 j b hp]
 ·have h':∀p∈nw,p.1≠i:=fun p hp e=>h ⟨p,hp,e⟩;rw[h1 i h',Tq ha' h']
theorem Azc(ap:LX C P ops x o)(hx:Km C P ops x s.tm=true)(h:Fd C P N call ops x s (fun s1=>Fd C P N call ops o s1 K)=some r):Fd C P N call ops o s (fun s1=>Fd C P N call ops x s1 K)=some r:=by
 have hm:L7 P o.op=false:=ap.mx (by unfold Km at hx;simp only[G8] at hx;exact hx.1)
 rw[Nh hx] at h;obtain⟨tm,hp⟩:=s;have look:∀v,∀t∈looks ops o,Co tm x.dst v t=tm t:=fun v=>Hh ap.xo
 have h1:=Qu (P:=P) (N:=N) (o:=x) (tm:=tm) (tm':=tm) (hp:=hp) (Fs:=hp) (K:=fun s1=>Fd C P N call ops o s1 K) (K':=fun _=>none)
  (Rel:=fun (a:Option R)(_:Option R)=>a=some r->∃v nw,gE C P N call ops o ⟨tm,hp⟩=some (v,[],nw)/\Jt N o.dst=true/\(∀p∈nw,o.dst=some p.1)/\C1 hp nw=true) (fun h=>by cases h) (fun _ _=>rfl) (fun _ _=>.inl rfl) (fun _ _=>rfl) (fun _ _=>rfl) (fun v Di _ hT h=>by
   obtain⟨u,nw,hu,hd,ha,hn,_⟩:=NI hm h;refine⟨u,nw,Ado hm (look v) hu,hd,hn,Ym ha fun i b hi=>?_⟩;cases hh:hp i with
   |none=>rfl
   |some c=>exact absurd ((Cl ha).1 i b hi) (hT.keep i (by rw[hh];simp))) h
 obtain⟨v,nw,hv,hd,hn,ha⟩:=h1;refine UW hm hv hd ha ?_;have t2:∀t∈looks ops x,tm t=Co tm o.dst v t:=fun t ht=>(Hh ap.ox t ht).symm;rw[Nh (by rw[<-Lt t2];exact hx)]
 refine Qu (P:=P) (N:=N) (o:=x) (tm:=tm) (tm':=Co tm o.dst v) (hp:=hp) (Fs:=Bf hp nw) (Rel:=fun (a b:Option R)=>a=some r->b=some r) (fun h=>by cases h) (Im t2) (fun i _=>?_) (fun d hxd=>?_) (fun i hi=>(Tq ha fun p hp e=>by have:=Xy hd (hn p hp);omega).symm) (fun u Di Id hT h=>?_) h
 ·by_cases hi:∃p∈nw,p.1=i
  ·obtain⟨⟨j,b⟩,Fs,rfl⟩:=hi;exact .inr ⟨(Cl ha).1 j b Fs,fun _ h=>by cases h⟩
  ·exact .inl (Tq ha fun p hp e=>hi ⟨p,hp,e⟩).symm
 ·refine (Tq ha fun p hp e=>?_).symm;have:=hn p hp;rw[e] at this;exact ap.ne d hxd this
 ·obtain⟨v',nw',Wc,_,ha',_,h'⟩:=NI hm h;have he:=Ado (Di:=hp) hm (look u) Wc;rw[hv] at he;simp only[Option.some.injEq,Prod.mk.injEq,true_and] at he;obtain⟨rfl,rfl⟩:=he
  have hh:Id=Bf Di nw:=by
   refine Aqp ha (fun i hi=>?_) (fun i hi=>?_) ha'
   ·exact (hT.same i (Tq ha hi).symm).symm
   ·obtain⟨⟨j,b⟩,Fs,rfl⟩:=hi;refine (hT.off j (Xy hd (hn _ Fs)) (fun e=>ap.ne j e (hn _ Fs)) (.inr ((Cl ha).1 j b Fs))).2
  rw[hh,<-Qn ap.ne];exact h'
theorem Ayl(hw:Has C P o s)(ap:LX C P ops x o)(ho:Km C P ops o s.tm=true)(h:Fd C P N call ops x s (fun s1=>Fd C P N call ops o s1 K)=some r):Fd C P N call ops o s (fun s1=>Fd C P N call ops x s1 K)=some r:=by
 have hm:L7 P x.op=false:=ap.mo (by unfold Km at ho;simp only[G8] at ho;exact ho.1)
 obtain⟨tm,hp⟩:=s;obtain⟨v,nw,hv,hd,ha,hn,h1⟩:=NI hm h;have t1:∀t∈looks ops o,Co tm x.dst v t=tm t:=Hh ap.xo;change Fd C P N call ops o ⟨Co tm x.dst v,Bf hp nw⟩ K=some r at h1;rw[Nh (by rw[Lt t1];exact ho)] at h1
 rw[Nh ho];have hMo:AU C P o.op=true:=by unfold Km at ho;simp only[G8] at ho;exact ho.1
 have A0b:∀i,IK o tm hp i->hp i≠none:=by
  rintro i (⟨y,hy,hi⟩|⟨CQ,id,c,⟨y,hy,hi⟩,hc,p,Fs,hk⟩)
  ·exact hw.1 y hy i hi
  ·exact hw.2 hMo CQ y hy id hi c hc p Fs i hk
 refine Qu (P:=P) (N:=N) (o:=o) (tm:=Co tm x.dst v) (tm':=tm) (hp:=Bf hp nw) (Fs:=hp) (Rel:=fun (a b:Option R)=>a=some r->b=some r) (fun h=>by cases h) (Im t1) (fun i hi=>?_) (fun d hod=>?_) (fun i hi=>Tq ha fun p hp e=>by have:=Xy hd (hn p hp);omega) (fun u Di Id hT h=>?_) h1
 ·refine .inl (Tq ha fun p Di e=>A0b i hi ?_);rw[<-e];exact (Cl ha).1 p.1 p.2 Di
 ·refine Tq ha fun p Di e=>?_;have:=hn p Di;rw[e] at this;exact ap.ne d this hod
 ·have Xe:∀p∈nw,Di p.1=Bf hp nw p.1/\Id p.1=none:=by
   intro p hp2;have hno:=(Cl ha).1 p.1 p.2 hp2;have h3:=hT.off p.1 (Xy hd (hn p hp2)) (fun e=>ap.ne p.1 (hn p hp2) e) (.inl fun hL=>A0b _ hL hno);exact⟨h3.1,h3.2.trans hno⟩
  have ha':C1 Id nw=true:=Ym ha fun i b hi=>(Xe (i,b) hi).2;refine UW hm (Ado hm (fun t ht=>(Hh ap.ox t ht).symm) hv) hd ha' ?_
  have hh:Di=Bf Id nw:=by
   refine Aqp ha (fun i hi=>?_) (fun i hi=>?_) ha'
   ·exact hT.same i (Tq ha hi)
   ·obtain⟨p,hp2,rfl⟩:=hi;exact (Xe p hp2).1
  rw[<-Qn ap.ne,<-hh];exact h
theorem A7t(hw:Has C P o s)(ap:LX C P ops x o)(h:Fd C P N call ops x s (fun s1=>Fd C P N call ops o s1 K)=some r):Fd C P N call ops o s (fun s1=>Fd C P N call ops x s1 K)=some r:=by
 cases hx:Km C P ops x s.tm
 ·cases ho:Km C P ops o s.tm
  ·exact Ale hw ap.xo ap.ne ap.ox hx ho h
  ·exact Ayl hw ap ho h
 ·exact Azc ap hx h
theorem Qh(h:CZ P o.op=true):AU C P o.op=false:=by
 unfold CZ at h;split at h
 ·rename_i ho;rw[ho];rfl
 ·rename_i ho;rw[ho];rfl
 ·cases h
def XZ(P:Program)(ops:Array Oper)(o:Oper)(tm:Nat->PV):Prop:=CZ P o.op=true\/I6 ops o tm=some false
theorem IV{tm tm':Nat->PV}(h:∀t∈looks ops o,tm t=tm' t)(hl:XZ P ops o tm):XZ P ops o tm':=by
 rcases hl with hl|hl
 ·exact .inl hl
 ·exact .inr (by rw[<-Q7 h];exact hl)
theorem YT{tm:Nat->PV}(hl:XZ P ops o tm):Km C P ops o tm=false:=by
 rcases hl with hl|hl
 ·simp[Km,Qh hl]
 ·simp[Km,hl]
theorem Amb{q:HQ}(hl:XZ P ops o s.tm)(h:gE C P N call ops o s=some q):q.2.1=[]/\q.2.2=[]:=by
 unfold gE at h;split at h
 ·cases h
 ·rename_i hv
  have hl:CZ P o.op=true:=by
   rcases hl with hl|hl
   ·exact hl
   ·rw[hv] at hl;cases hl
  rw[Qh hl] at h;have h:Aoc C P N call o s=some q:=h;unfold CZ at hl;split at hl
  ·rename_i t a ho;unfold Aoc VS at h;rw[ho] at h
   have:=Aat (P:=P) (f:=rd s.hp) (f':=rd s.hp) (g:=Pw s.hp) (g':=Pw s.hp) (t:=t) (x:=Db s.tm a) (Rel:=fun (a b:Option HQ)=>∀q,a=some q->q.2.1=[]/\q.2.2=[])
    (K:=fun v=>some (v,[],[])) (K':=fun v=>some (v,[],[])) (fun _ h=>by cases h) (fun _ _=>.inl ⟨rfl,rfl⟩) (fun v q hq=>by cases hq;exact⟨rfl,rfl⟩)
   exact this q h
  ·rename_i src dst y ho;unfold Aoc VS at h;rw[ho] at h;simp only at h;unfold TB at h;split at hl
   ·rename_i hd;rw[hd] at h;simp only at h;split at h
    ·obtain⟨_,_,h⟩:=Fp h;obtain⟨_,_,h⟩:=Ed h;cases h;exact⟨rfl,rfl⟩
    ·split at h
     ·exact MI (f:=Pw s.hp) (f':=Pw s.hp) (K':=fun _ _=>(none:Option HQ)) (Rel:=fun (a _:Option HQ)=>a=some q->q.2.1=[]/\q.2.2=[]) (fun h=>by cases h) (fun _ _=>.inl rfl) (fun n c h=>by
       obtain⟨_,h⟩:=Az h;obtain⟨_,_,h⟩:=Ed h;obtain⟨_,_,h⟩:=Ed h;cases h;exact⟨rfl,rfl⟩) h
     ·cases h
    ·cases h
   ·cases hl
  ·cases hl
 ·cases h;exact⟨rfl,rfl⟩
theorem Aow{tm tm':Nat->PV}{hp:Nat->Option Cb}(h:∀t∈looks ops o,tm t=tm' t){i:Nat}(hi:IK o tm hp i):IK o tm' hp i:=by
 have he:=Im (ops:=ops) (o:=o) h;rcases hi with⟨y,hy,hi⟩|⟨CQ,id,c,⟨y,hy,hi⟩,hc,q⟩
 ·exact .inl ⟨y,hy,by rw[<-he y hy];exact hi⟩
 ·exact .inr ⟨CQ,id,c,⟨y,hy,by rw[<-he y hy];exact hi⟩,hc,q⟩
theorem A0f{hp Di:Nat->Option Cb}{i:Nat}(h:Di i=hp i):rd Di i=rd hp i/\Pw Di i=Pw hp i:=by unfold rd Pw;rw[h];exact⟨rfl,rfl⟩
theorem NZ{tm:Nat->PV}{hp:Nat->Option Cb}(hl:XZ P ops o tm)(h:Fd C P N call ops o ⟨tm,hp⟩ K=some r):
  ∃v,gE C P N call ops o ⟨tm,hp⟩=some (v,[],[])/\Jt N o.dst=true/\K ⟨Co tm o.dst v,hp⟩=some r:=by
 rw[Q3 (YT hl)] at h;cases e:gE C P N call ops o ⟨tm,hp⟩ with
 |none=>rw[e] at h;cases h
 |some q=>
  obtain⟨v,fz,nw⟩:=q;obtain⟨h1,h2⟩:=Amb hl e;simp only at h1 h2;subst h1;subst h2;rw[e] at h;obtain⟨hb,h⟩:=Az h;simp only[G8] at hb;exact⟨v,rfl,hb.1,h⟩
theorem WQ{tm:Nat->PV}{hp:Nat->Option Cb}{v:PV}(hl:XZ P ops o tm)(e:gE C P N call ops o ⟨tm,hp⟩=some (v,[],[]))(hd:Jt N o.dst=true)(h:K ⟨Co tm o.dst v,hp⟩=some r):Fd C P N call ops o ⟨tm,hp⟩ K=some r:=by rw[Q3 (YT hl),e];show As _ _=_;have ha:C1 hp []=true:=rfl;simp only[hd,ha,Bool.and_self];exact h
theorem Awk(hw:Has C P o s)(xo:∀d,x.dst=some d->d ∉ looks ops o)(ne:∀d,x.dst=some d->o.dst≠some d)(ox:∀d,o.dst=some d->d ∉ looks ops x)(hl:XZ P ops o s.tm)(Aep:∀y∈o.op.operands.toList,∀i∈Cn (Db s.tm y),¬IK x s.tm s.hp i)(hx:Km C P ops x s.tm=true)(h:Fd C P N call ops x s (fun s1=>Fd C P N call ops o s1 K)=some r):Fd C P N call ops o s (fun s1=>Fd C P N call ops x s1 K)=some r:=by
 rw[Nh hx] at h;obtain⟨tm,hp⟩:=s;have look:∀v,∀t∈looks ops o,Co tm x.dst v t=tm t:=fun v=>Hh xo
 have back:∀{u:PV} {Di:Nat->Option Cb} {q:HQ},(∀y∈o.op.operands.toList,∀i∈Cn (Db tm y),Di i=hp i)->gE C P N call ops o ⟨Co tm x.dst u,Di⟩=some q->gE C P N call ops o ⟨tm,hp⟩=some q:=
  fun hh e=>KH (s:=⟨Co tm x.dst _,_⟩) (s':=⟨tm,hp⟩) (look _) (fun _ y hy i hi=>.inl (A0f (hh y hy i hi))) e
 have h1:=Qu (P:=P) (N:=N) (o:=x) (tm:=tm) (tm':=tm) (hp:=hp) (Fs:=hp) (K:=fun s1=>Fd C P N call ops o s1 K) (K':=fun _=>none)
  (Rel:=fun (a:Option R)(_:Option R)=>a=some r->∃v,gE C P N call ops o ⟨tm,hp⟩=some (v,[],[])/\Jt N o.dst=true) (fun h=>by cases h) (fun _ _=>rfl) (fun _ _=>.inl rfl) (fun _ _=>rfl) (fun _ _=>rfl) (fun v Di _ hT h=>by
   obtain⟨u,hu,hd,_⟩:=NZ (IV (fun t ht=>(look v t ht).symm) hl) h;exact⟨u,back (fun y hy i hi=>hT.far i (Aep y hy i hi) (hw.1 y hy i hi)) hu,hd⟩) h
 obtain⟨v,hv,hd⟩:=h1;refine WQ hl hv hd ?_;have t2:∀t∈looks ops x,tm t=Co tm o.dst v t:=fun t ht=>(Hh ox t ht).symm;rw[Nh (by rw[<-Lt t2];exact hx)]
 refine Qu (P:=P) (N:=N) (o:=x) (tm:=tm) (tm':=Co tm o.dst v) (hp:=hp) (Fs:=hp) (Rel:=fun (a b:Option R)=>a=some r->b=some r) (fun h=>by cases h) (Im t2) (fun _ _=>.inl rfl) (fun _ _=>rfl) (fun _ _=>rfl) (fun u Di Id hT h=>?_) h;have e1:Di=Id:=funext fun i=>hT.same i rfl;subst e1;obtain⟨v',Wc,_,h'⟩:=NZ (IV (fun t ht=>(look u t ht).symm) hl) h;have he:=back (fun y hy i hi=>hT.far i (fun hR=>Aep y hy i hi (Aow (fun t ht=>(t2 t ht).symm) hR)) (hw.1 y hy i hi)) Wc;rw[hv] at he;simp only[Option.some.injEq,Prod.mk.injEq,and_true] at he;subst he;rw[<-Qn ne];exact h'
theorem Axb(xo:∀d,x.dst=some d->d ∉ looks ops o)(ne:∀d,x.dst=some d->o.dst≠some d)(ox:∀d,o.dst=some d->d ∉ looks ops x)(hl:XZ P ops x s.tm)(Aep:∀y∈x.op.operands.toList,∀i∈Cn (Db s.tm y),¬IK o s.tm s.hp i)(ho:Km C P ops o s.tm=true)(h:Fd C P N call ops x s (fun s1=>Fd C P N call ops o s1 K)=some r):Fd C P N call ops o s (fun s1=>Fd C P N call ops x s1 K)=some r:=by
 obtain⟨tm,hp⟩:=s;obtain⟨v,hv,hd,h1⟩:=NZ hl h;have t1:∀t∈looks ops o,Co tm x.dst v t=tm t:=Hh xo;rw[Nh (by rw[Lt t1];exact ho)] at h1
 rw[Nh ho];refine Qu (P:=P) (N:=N) (o:=o) (tm:=Co tm x.dst v) (tm':=tm) (hp:=hp) (Fs:=hp) (Rel:=fun (a b:Option R)=>a=some r->b=some r) (fun h=>by cases h) (Im t1) (fun _ _=>.inl rfl) (fun _ _=>rfl) (fun _ _=>rfl) (fun u Di Id hT h=>?_) h1;have e1:Di=Id:=funext fun i=>hT.same i rfl;subst e1;have t2:∀t∈looks ops x,tm t=Co tm o.dst u t:=fun t ht=>(Hh ox t ht).symm;refine WQ (IV t2 hl) (KH (s:=⟨tm,hp⟩) (s':=⟨Co tm o.dst u,Di⟩) t2 (fun _ y hy i hi=>?_) hv) hd ?_
 ·have hi:i∈Cn (Db tm y):=by rw[Im t2 y hy];exact hi
  by_cases hn:hp i=none
  ·exact .inr ⟨Al5 hn,Rj hn⟩
  ·obtain⟨h3,h4⟩:=A0f (hT.far i (Aep y hy i hi) hn);exact .inl ⟨h3.symm,h4.symm⟩
 ·rw[<-Qn ne];exact h
def Abk(P:Program)(x:Oper)(s s1:St):Prop:=(∀t,x.dst≠some t->s1.tm t=s.tm t)/\(∀i,s.hp i≠none->s1.hp i≠none)/\(L7 P x.op=false->∀i,s.hp i≠none->s1.hp i=s.hp i)
theorem Wi{tm:Nat->PV}{d:Option Tmp}{v:PV}{t:Nat}(h:d≠some t):Co tm d v t=tm t:=by
 cases d with
 |none=>rfl
 |some d=>exact Aw _ _ (by rintro rfl;exact h rfl)
theorem TN{K':St->Option R}(h:Fd C P N call ops x s K=some r)(hK:∀s1,Abk P x s s1->K s1=some r->K' s1=some r):Fd C P N call ops x s K'=some r:=by
 cases hx:Km C P ops x s.tm
 ·rw[Q3 hx] at h ⊢;cases ex:gE C P N call ops x s with
  |none=>rw[ex] at h;cases h
  |some q=>
   rw[ex] at h;obtain⟨hb,h1⟩:=Az h;simp only[G8] at hb;show As _ _=_;rw[hb.1,hb.2];refine hK _ ⟨fun t ht=>Wi ht,fun i hi=>Ue hb.2 hi,fun hm i hi=>?_⟩ h1;show Bf (Al s.hp q.2.1) q.2.2 i=s.hp i;rw[Jh hb.2 hi,((DY ex).1 hm).1];simp
 ·rw[Nh hx] at h ⊢
  exact SY (P:=P) (N:=N) (o:=x) (tm:=s.tm) (tm':=s.tm) (hp:=s.hp) (Rel:=fun (a b:Option R)=>a=some r->b=some r) (fun h=>by cases h) (fun _ _=>rfl) (fun v Di hh h=>hK _ ⟨fun t ht=>Wi ht,hh,fun hm=>by
   have hM:AU C P x.op=true:=by unfold Km at hx;simp only[G8] at hx;exact hx.1
   rw[KW hM] at hm;cases hm⟩ h) h
theorem Has.keeps{s1:St}(h:Has C P o s)(ap:LX C P ops x o)(hk:Abk P x s s1):Has C P o s1:=by
 have hop:∀y∈o.op.operands.toList,Db s1.tm y=Db s.tm y:=fun y hy=>Im (ops:=ops) (o:=o) (fun t ht=>hk.1 t fun hd=>ap.xo t hd ht) y hy;refine⟨fun y hy i hi=>?_,fun hM hA y hy i hi c hc p hp k hkk=>?_⟩
 ·rw[hop y hy] at hi;exact hk.2.1 i (h.1 y hy i hi)
 ·rw[hop y hy] at hi;have hi0:=h.1 y hy i hi;rw[hk.2.2 (ap.mo hM) i hi0] at hc;exact hk.2.1 k (h.2 hM hA y hy i hi c hc p hp k hkk)
theorem UF:∀(l:List Oper){s:St}{K:St->Option R},Has C P o s->(∀x∈l,LX C P ops x o)->Vk C P N call ops l s (fun s1=>Fd C P N call ops o s1 K)=some r->Fd C P N call ops o s (fun s1=>Vk C P N call ops l s1 K)=some r
 |[],_,_,_,_,h=>h
 |x::l,s,K,hw,ap,h=>by
  refine A7t hw (ap x (by simp)) ?_;refine TN (K:=fun s1=>Vk C P N call ops l s1 (fun s2=>Fd C P N call ops o s2 K)) h fun s1 hk h1=>?_;exact UF l (hw.keeps (ap x (by simp)) hk) (fun y hy=>ap y (Sh _ hy)) h1
theorem CW:∀(l l':List Oper){s:St}{K:St->Option R},Vk C P N call ops (l++l') s K=Vk C P N call ops l s (fun s1=>Vk C P N call ops l' s1 K)
 |[],_,_,_=>rfl
 |x::l,l',s,K=>by
  show Fd C P N call ops x s (fun s1=>Vk C P N call ops (l++l') s1 K)=Fd C P N call ops x s (fun s1=>Vk C P N call ops l s1 _)
  congr 1
  funext s1
  exact CW l l'
theorem Ap0{l l':List Oper}(hw:Has C P o s)(ap:∀x∈l,LX C P ops x o)(h:Vk C P N call ops (l++o::l') s K=some r):Fd C P N call ops o s (fun s1=>Vk C P N call ops (l++l') s1 K)=some r:=by rw[CW] at h;have:=UF l hw ap h;refine TN this fun s1 _ h1=>?_;rw[CW];exact h1
end
open Go.RowKit
section
variable {R:Type}{r:R}{P:Program}{N:Nat}{w0:World}{X0:Gn}{Y:Nat->Prop}{β β':Bt}{s:St}{a:Act}{w w':World}{o:Oper}{ops:Array Oper}{C:Kk}{call:Bp}{K:St->Option R}
theorem AF(h:Cj N w0 X0 Y β s a w){j d:Nat}(hd:(ops[j]?).bind (·.dst)=some d){v:Value}(ht:s.tm d=.sc v):yielded ops a.tmps j=match v with | .bool b=>some b|_=>none:=by
 have Cq:d<N:=by
  rcases Mi d N with h'|h'
  ·exact h'
  ·rw[h.tmo d h'] at ht;cases ht
 have hv:=h.tms d Cq;rw[ht] at hv;have hv:=Ni hv;have Agx:d<a.tmps.size:=by rw[h.tsz];exact Cq
 have he:a.tmps[d]?=some v:=by
  rw[Array.getElem?_eq_getElem Agx];simp[Agx] at hv;rw[hv]
 unfold yielded;rw[hd];simp only[Option.bind_some,he];cases v<;>rfl
theorem IX(h:Cj N w0 X0 Y β s a w){G:Zg}(Ks:QL P G w0 X0)(Dl:∀f args res,call f args=some res->Do G P f args res){i:Nat}(hi:ops[i]?=some o)(hk:Fd C P N call ops o s K=some r):
  ∃s',K s'=some r/\∀(next:Act->World->Prop) (Q:Exit->Act->World->Prop),(∀a' w' β',Cj N w0 X0 Y β' s' a' w'->next a' w')->wpOp P ops Q i next a w:=by
 rw[SB] at hk
 have hw:∀b,I6 ops o s.tm=some b->Region.wanted o (yielded ops a.tmps)=b:=by
  intro b hb;unfold I6 at hb;unfold Region.wanted;cases hg:o.guard with
  |none=>rw[hg] at hb;simpa using hb
  |some q=>
   obtain⟨j,want⟩:=q;rw[hg] at hb;simp only at hb ⊢;cases hd:(ops[j]?).bind (·.dst) with
   |none=>rw[hd] at hb;cases hb
   |some d=>
    rw[hd] at hb;simp only at hb;split at hb
    ·rename_i b' ht;rw[AF h hd ht];simp at hb;rw[<-hb];cases b'<;>cases want<;>rfl
    ·rename_i ht;rw[AF h hd ht];simp at hb;rw[hb];rfl
    ·cases hb
 split at hk
 ·cases hk
 ·rename_i hv;obtain⟨s',hs',hn⟩:=TZ h Ks Dl hk;refine⟨s',hs',fun next Q UT=>?_⟩;unfold wpOp;rw[hi];simp only[hw _ hv,if_true];exact .inl (hn next Q UT)
 ·rename_i hv;obtain⟨hd,hk⟩:=Az hk;refine⟨_,hk,fun next Q UT=>?_⟩;unfold wpOp;rw[hi];simp only[hw _ hv];refine UT _ _ β (h.put hd (Bd.sc _) (by simp[Cn,C3,A9]))
theorem Cj.known(h:Cj N w0 X0 Y β s a w){d:Nat}(hd:s.tm d=.ub):∃b,Cj N w0 X0 Y β ⟨Dz s.tm d (.sc (.bool b)),s.hp⟩ a w:=by
 have Cq:d<N:=by
  rcases Mi d N with h'|h'
  ·exact h'
  ·rw[h.tmo d h'] at hd;cases hd
 have hu:=h.tms d Cq;rw[hd] at hu;have Od:Bd w (D2 s.hp β Y) .ub (a.tmps.getD d undef):=hu
 obtain⟨b,hv⟩:∃b,a.tmps.getD d undef=.bool b:=by
  generalize a.tmps.getD d undef=x at Od;cases Od with
  |ub b=>exact⟨b,rfl⟩
 refine⟨b,⟨h.dfr,h.tsz,fun i hi=>?_,fun i hi=>?_,h.box,h.inj,h.blt,fun i hi=>?_,h.wfB,h.ownd,h.rngB,h.pin,h.stp,h.Yx,h.Ylt,h.fr⟩⟩
 ·show Dz s.tm d _ i=_;rw[Aw _ _ (by omega)];exact h.tmo i hi
 ·by_cases e:i=d
  ·subst e;show Fc _ _ _ (Dz s.tm i _ i) _;rw[A8,hv];exact Bd.sc _
  ·show Fc _ _ _ (Dz s.tm d _ i) _;rw[Aw _ _ e];exact h.tms i hi
 ·by_cases e:i=d
  ·subst e;show ∀id∈Cn (Dz s.tm i _ i),_;rw[A8];simp[Cn,C3,A9]
  ·show ∀id∈Cn (Dz s.tm d _ i),_;rw[Aw _ _ e];exact h.wfT i hi
theorem YR{x y:Option R}(h:BC x y=some r):x=some r/\y=some r:=by
 unfold BC at h;split at h
 ·rename_i e;exact⟨h,e ▸ h⟩
 ·cases h
theorem Zv(h:Cj N w0 X0 Y β s a w){F:St->Option R}(hk:Aj4 ops o s F=some r):∃s',F s'=some r/\Cj N w0 X0 Y β s' a w:=by
 unfold Aj4 at hk;split at hk
 ·exact⟨s,hk,h⟩
 ·split at hk
  ·exact⟨s,hk,h⟩
  ·split at hk
   ·rename_i d _ ht;obtain⟨b,hb⟩:=h.known ht;obtain⟨h1,h2⟩:=YR hk;cases b
    ·exact⟨_,h2,hb⟩
    ·exact⟨_,h1,hb⟩
   ·exact⟨s,hk,h⟩
theorem JL{G:Zg}(Ks:QL P G w0 X0)(Dl:∀f args res,call f args=some res->Do G P f args res){Q:Exit->Act->World->Prop}(hQ:∀s' a' w' β',K s'=some r->Cj N w0 X0 Y β' s' a' w'->Q .normal a' w'):
  ∀(l:Cc) (os:List Oper),l.length=os.length->(∀(k i:Nat),l[k]?=some i->ops[i]?=os[k]?)->∀{s:St} {a:Act} {w:World} {β:Bt},Cj N w0 X0 Y β s a w->Mw C P N call ops os s K=some r->wpOps P ops Q l a w
 |[],[],_,_,s,a,w,β,h,hk=>by
  show Q .normal a w;exact hQ s a w β hk h
 |[],_::_,hl,_,_,_,_,_,_,_=>by cases hl
 |_::_,[],hl,_,_,_,_,_,_,_=>by cases hl
 |i::l,o::os,hl,hi,s,a,w,β,h,hk=>by
  rw[wpOps_cons];obtain⟨s1,hk,h⟩:=Zv h hk;obtain⟨s',hs',hn⟩:=IX h Ks Dl (by simpa using hi 0 i rfl) hk;exact hn _ _ fun a' w' β' h'=>JL Ks Dl hQ l os (by simpa using hl) (fun k j hj=>by simpa using hi (k+1) j (by simpa using hj)) h' hs'
theorem Cj.drew(h:Cj N w0 X0 Y β s a w):Cj N w0 X0 Y β s a { w with drawn:=w.drawn+1 }:=by
 have:=h.stepR (d:=none) (v:=.top) (nw:=[]) (val:=undef) (w':={ w with drawn:=w.drawn+1 }) (β':=β) rfl rfl
  ⟨rfl,rfl,rfl,⟨C9 _,fun _ _ _=>rfl,fun _ _=>C9 _⟩,fun _ _=>rfl,by simp,by simp,by simp,by simp,by simp,.top _,by simp[Cn,C3,A9]⟩
 exact this
theorem Ach(h:Cj N w0 X0 Y β s a w){G:Zg}(Ks:QL P G w0 X0)(Dl:∀f args res,call f args=some res->Do G P f args res){id:Nat}{Q:Exit->Act->World->Prop}(hk:Mw C P N call ops ops.toList s K=some r)(hQ:∀s' a' w' β',K s'=some r->Cj N w0 X0 Y β' s' a' w'->Q .normal a' w'):(Code.region id ops false).wp P Q a w:=by
 refine wp_region (JL Ks Dl hQ (List.range ops.size) ops.toList (by simp) (fun k i hi=>?_) h hk);rw[List.getElem?_range] at hi
 ·simp at hi;subst hi;simp
 ·rcases Mi k ops.size with h'|h'
  ·exact h'
  ·rw[List.getElem?_eq_none (by simpa using h')] at hi;cases hi
def Tl(n:Nat)(listed:Array Bool):Cc:=(List.range n).filter fun i=> !listed.getD i true
def A3k(ops:Array Oper)(listed:Array Bool)(o:Oper):Prop:=∀e∈o.after,Region.binds .any e=true->listed.getD e.on false=true
theorem testBit_or{a b j:Nat}:(a ||| b).testBit j=(a.testBit j||b.testBit j):=Nat.testBit_or a b j
theorem Aam{acc:Cc}{j:Nat}:∀(es:List Edge)(v:Nat),(es.foldl (fun s e=>bif Region.binds .any e then s ||| 2 ^ e.on ||| acc.getD e.on 0 else s) v).testBit j=true ->
  v.testBit j=true\/∃e∈es,Region.binds .any e=true/\(j=e.on\/(acc.getD e.on 0).testBit j=true)
 |[],v,h=>.inl h
 |e::es,v,h=>by
  rcases Aam es _ h with h|⟨e',Y6,h⟩
  ·cases hb:Region.binds .any e<;>simp only[hb] at h
   ·exact .inl h
   ·simp only[cond_true,Nat.testBit_or,Bool.or_eq_true] at h;rcases h with (h|h)|h
    ·exact .inl h
    ·refine .inr ⟨e,by simp,hb,.inl ?_⟩;rw[Nat.testBit_two_pow] at h;exact (of_decide_eq_true h).symm
    ·exact .inr ⟨e,by simp,hb,.inr h⟩
  ·exact .inr ⟨e',by simp[Y6],h⟩
theorem AB{listed:Array Bool}(hc:∀(j:Nat) oj,ops[j]?=some oj->listed.getD j false=true->A3k ops listed oj):
  ∀(rest done:List Oper) (acc:Cc),ops.toList=done++rest->acc.length=done.length ->
   (∀(k:Nat) o,done[k]?=some o->A3k ops listed o->∀j,(acc.getD k 0).testBit j=true->listed.getD j false=true) ->
   ∀(k:Nat) o,ops[k]?=some o->A3k ops listed o->∀j,((Nd rest acc).getD k 0).testBit j=true->listed.getD j false=true
 |[],done,acc,he,_,h,k,o,ho,hf,j,hj=>by
  refine h k o ?_ hf j hj;rw[List.append_nil] at he;rw[<-he]
  simpa using ho
 |o'::rest,done,acc,he,hl,h,k,o,ho,hf,j,hj=>by
  refine AB hc rest (done++[o']) _ (by rw[he];simp) (by simp[hl]) ?_ k o ho hf j hj
  intro k o ho hf j hj;rcases Nat.lt_trichotomy k done.length with Cq|heq|hgt
  ·rw[List.getElem?_append_left Cq] at ho;rw[List.getD_eq_getElem?_getD,List.getElem?_append_left (by omega),<-List.getD_eq_getElem?_getD] at hj;exact h k o ho hf j hj
  ·subst heq;simp at ho;subst ho;rw[<-hl] at hj;simp only[List.getD_eq_getElem?_getD,List.getElem?_append_right (C9 _),Nat.sub_self,List.getElem?_cons_zero,Option.getD_some] at hj
   have hj:(o'.after.toList.foldl (fun s e=>bif Region.binds .any e then s ||| 2 ^ e.on ||| acc.getD e.on 0 else s) 0).testBit j=true:=by
    simpa only[List.getD_eq_getElem?_getD] using hj
   rcases Aam _ _ hj with h0|⟨e,hm,hb,h1⟩
   ·simp at h0
   ·have MQ:=hf e (by simpa using hm) hb;rcases h1 with h1|h1
    ·rw[h1];exact MQ
    ·cases hd:done[e.on]? with
     |none=>
      have:acc.getD e.on 0=0:=by
       rw[List.getD_eq_getElem?_getD,List.getElem?_eq_none (by rw[hl];exact List.getElem?_eq_none_iff.1 hd)]
       rfl
      rw[this] at h1;simp at h1
     |some oe=>
      have hoe:ops[e.on]?=some oe:=by
       rw[<-Array.getElem?_toList,he,List.getElem?_append_left (by
        rcases Mi e.on done.length with h'|h'
        ·exact h'
        ·rw[List.getElem?_eq_none h'] at hd;cases hd)]
       exact hd
      exact h e.on oe hd (hc e.on oe hoe MQ) j h1
  ·rw[List.getElem?_eq_none (by simp;omega)] at ho
   cases ho
theorem KJ{bs:Cc}:∀(l:List Oper)(n:Nat),SF C P ops bs l n=true->∀(k:Nat) o,l[k]?=some o->∀(j:Nat) x,ops[j]?=some x->j<n+k->VP C P ops x o=true->(bs.getD (n+k) 0).testBit j=true
 |[],_,_,k,o,ho,_,_,_,_,_=>by simp at ho
 |o'::l,n,h,k,o,ho,j,x,hx,hj,BW=>by
  simp only[SF,G8] at h;cases k with
  |zero=>
   simp at ho;subst ho
   have:=List.all_eq_true.1 h.1 (x,j) (by
    rw[List.mem_zipIdx_iff_getElem?]
    simpa using hx)
   simp only[BW,Cv,Bool.or_false,Bool.or_eq_true,Bool.not_eq_true'] at this;rcases this with h'|h'
   ·have:Nat.blt j n=true:=Nat.ble_eq_true_of_le (by omega);rw[this] at h';cases h'
   ·exact h'
  |succ k=>
   have:=KJ l (n+1) h.2 k o (by simpa using ho) j x hx (by omega) BW
   rwa [show n+(k+1)=n+1+k by omega]
theorem Ow{n i:Nat}{listed:Array Bool}:i∈Tl n listed↔i<n/\listed.getD i true=false:=by unfold Tl;simp[List.mem_filter]
theorem HA{n i:Nat}{listed:Array Bool}(hi:i∈Tl n listed)(Kz:listed.size=n):∃l1 l2,Tl n listed=l1++i::l2/\Tl n (listed.setIfInBounds i true)=l1++l2/\∀j∈l1,j<i:=by
 obtain⟨Cq,Pt⟩:=Ow.1 hi
 have hr:List.range n=List.range i++i::(List.range (n-i-1)).map (i+1 + ·):=by
  conv=>lhs;rw[show n=i+(1+(n-i-1)) by omega]
  rw[List.range_add,List.range_add];simp[Sb]
 refine⟨(List.range i).filter fun i=> !listed.getD i true,((List.range (n-i-1)).map (i+1 + ·)).filter fun i=> !listed.getD i true,?_,?_,fun j hj=>?_⟩
 ·unfold Tl;rw[hr,List.filter_append,List.filter_cons_of_pos (by rw[Pt];rfl)]
 ·unfold Tl;rw[hr,List.filter_append,List.filter_cons_of_neg (by simp[Kz,Cq])]
  congr 1
  ·refine List.filter_congr fun j hj=>?_;rw[getD_set_ne true (by have:=List.mem_range.1 hj;omega)]
  ·refine List.filter_congr fun j hj=>?_;obtain⟨k,_,rfl⟩:=List.mem_map.1 hj;rw[getD_set_ne true (by omega)]
 ·exact List.mem_range.1 (List.mem_filter.1 hj).1
theorem Au5(h:Cj N w0 X0 Y β s a w)(o:Oper):Has C P o s:=by refine⟨fun y _ i hi=>Hz h y i hi,fun _ _ y _ i hi c hc p hp k hk=>h.wfB i c hc p hp k hk⟩
theorem ZP(Ata:(ops.toList.zipIdx.all fun q=>q.1.after.toList.all fun e=> !Region.binds .any e||Nat.blt e.on q.2)=true){listed:Array Bool}(inv:HeadInv .any ops ops.size listed)(hr:Region.ready .any ops listed=[]):Tl ops.size listed=[]:=by
 cases hp:Tl ops.size listed with
 |nil=>rfl
 |cons i l=>
  exfalso;have hi:i∈Tl ops.size listed:=by rw[hp];simp
  obtain⟨Cq,Pt⟩:=Ow.1 hi;obtain⟨l1,l2,h1,_,h3⟩:=HA hi inv.size
  have MQ:l1=[]:=by
   cases l1 with
   |nil=>rfl
   |cons j l1=>
    rw[hp] at h1;simp at h1;have:=h3 j (by simp);omega
  subst MQ
  have A95:∀j,j<i->listed.getD j false=true:=by
   intro j hj;cases hh:listed.getD j false with
   |true=>rfl
   |false=>
    have:j∈Tl ops.size listed:=Ow.2 ⟨by omega,getD_in (by rw[inv.size];omega) hh⟩
    have hs:(Tl ops.size listed).Pairwise (· < ·):=List.Pairwise.filter _ List.pairwise_lt_range;rw[h1] at this hs;simp at this;rcases this with e|e
    ·omega
    ·have:=(List.pairwise_cons.1 hs).1 j e;omega
  have:i∈Region.ready .any ops listed:=by
   refine mem_ready.2 ⟨Pt,ops[i],Array.getElem?_eq_getElem Cq,fun e he hb=>A95 _ ?_⟩
   have:=List.all_eq_true.1 Ata (ops[i],i) (by
    rw[List.mem_zipIdx_iff_getElem?];simp[Cq])
   have:=List.all_eq_true.1 this e (Array.mem_toList_iff.2 he);simp only[hb,Cv,Bool.false_or] at this;exact Nat.lt_of_succ_le (Xx this)
  rw[hr] at this;simp at this
theorem Adr{G:Zg}(Ks:QL P G w0 X0)(Dl:∀f args res,call f args=some res->Do G P f args res)(hok:SV C P ops=true){Q:Exit->Act->World->Prop}(hQ:∀s' a' w' β',K s'=some r->Cj N w0 X0 Y β' s' a' w'->Q .normal a' w'):
  ∀(fuel:Nat) {listed:Array Bool} {s:St} {a:Act} {w:World} {β:Bt},HeadInv .any ops ops.size listed->(Tl ops.size listed).length=fuel->Cj N w0 X0 Y β s a w->Vk C P N call ops ((Tl ops.size listed).filterMap (ops[·]?)) s K=some r->wpAny P .any ops Q fuel listed a w:=by
 unfold SV at hok;simp only[G8] at hok;obtain⟨Ata,A3y⟩:=hok;intro fuel
 induction fuel with
 |zero=>
  intro listed s a w β inv hf h hk;have hp:=List.eq_nil_of_length_eq_zero hf;rw[hp] at hk;refine⟨?_,hQ s a w β hk h⟩;cases hr:Region.ready .any ops listed with
  |nil=>rfl
  |cons i l=>
   exfalso;have hi:i∈Region.ready .any ops listed:=by rw[hr];simp
   obtain⟨Pt,o,ho,_⟩:=mem_ready.1 hi;have:i∈Tl ops.size listed:=Ow.2 ⟨(Array.getElem?_eq_some_iff.1 ho).1,Pt⟩;rw[hp] at this;simp at this
 |succ fuel ih=>
  intro listed s a w β inv hf h hk;refine⟨fun hr=>?_,fun i hi=>?_⟩
  ·rw[ZP Ata inv hr] at hf;cases hf
  ·obtain⟨Pt,o,ho,Zr⟩:=mem_ready.1 hi;have Cq:i<ops.size:=(Array.getElem?_eq_some_iff.1 ho).1;obtain⟨l1,l2,h1,h2,h3⟩:=HA (Ow.2 ⟨Cq,Pt⟩) inv.size;rw[h1,List.filterMap_append,List.filterMap_cons_some ho] at hk
   have CQ:∀x∈l1.filterMap (ops[·]?),LX C P ops x o:=by
    intro x hx;obtain⟨j,hj,hxj⟩:=List.mem_filterMap.1 hx;refine Avo ?_;cases BW:VP C P ops x o with
    |false=>rfl
    |true=>
     exfalso;have YE:=KJ ops.toList 0 A3y i o (by simpa using ho) j x hxj (by have:=h3 j hj;omega) BW
     rw[Cm] at YE;have hjl:=AB (listed:=listed) (fun j oj hj hl=>inv.closed j oj hj hl) ops.toList [] [] (by simp) rfl (by simp) i o ho Zr j YE;have:j∈Tl ops.size listed:=by rw[h1];simp[hj]
     have:=getD_both (Ow.1 this).2;rw[hjl] at this;cases this
   obtain⟨s',hs',hn⟩:=IX h Ks Dl ho (Ap0 (Au5 h o) CQ hk);refine hn _ _ fun a' w' β' h'=>ih (inv.set hi Cq) ?_ h' ?_
   ·rw[h2];rw[h1] at hf;simp at hf ⊢;omega
   ·rw[h2,List.filterMap_append];exact hs'
theorem X4(h:Cj N w0 X0 Y β s a w){G:Zg}(Ks:QL P G w0 X0)(Dl:∀f args res,call f args=some res->Do G P f args res)(hm:P.follows .mixedOrders=true)(hok:SV C P ops=true){Q:Exit->Act->World->Prop}(hk:Vk C P N call ops ops.toList s K=some r)(hQ:∀s' a' w' β',K s'=some r->Cj N w0 X0 Y β' s' a' w'->Q .normal a' w'):wpAny P .any ops Q ops.size (Array.replicate ops.size false) a { w with drawn:=w.drawn+1 }:=by
 have hp:Tl ops.size (Array.replicate ops.size false)=List.range ops.size:=by
  unfold Tl;refine List.filter_eq_self.2 fun i hi=>?_;have:=List.mem_range.1 hi;simp[this]
 refine Adr (C:=C) Ks Dl hok hQ ops.size ⟨by simp,fun j oj _ hl=>(by rw[getD_replicate_false] at hl;cases hl),fun t ht ht'=>by omega⟩ (by rw[hp];simp) h.drew ?_
 rw[hp]
 have:(List.range ops.size).filterMap (ops[·]?)=ops.toList:=by
  refine List.ext_getElem? fun k=>?_
  have:∀(n:Nat),n<=ops.size->(List.range n).filterMap (ops[·]?)=ops.toList.take n:=by
   intro n
   induction n with
   |zero=>intro _;rfl
   |succ n ih=>
    intro hn;rw[List.range_succ,List.filterMap_append,ih (by omega),List.take_add_one]
    congr 1
    have:ops[n]?=some ops[n]:=Array.getElem?_eq_getElem (by omega);simp[this]
  rw[this ops.size (C9 _)]
  congr 1
  exact Gv (by simp)
 rw[this];exact hk
theorem Abp(h:Cj N w0 X0 Y β s a w){G:Zg}(Ks:QL P G w0 X0)(Dl:∀f args res,call f args=some res->Do G P f args res)(hm:P.follows .mixedOrders=true)(hok:SV C P ops=true){id:Nat}{Q:Exit->Act->World->Prop}(hk:Vk C P N call ops ops.toList s K=some r)(hQ:∀s' a' w' β',K s'=some r->Cj N w0 X0 Y β' s' a' w'->Q .normal a' w'):(Code.region id ops true).wp P Q a w:=
 wp_region_any hm (X4 h Ks Dl hm hok hk hQ)
end
end
section
open Go.RowKit
section
variable {R R':Type}{Rel:Option R->Option R'->Prop}{P:Program}{N:Nat}{tm tm':Nat->PV}{hp Fs:Nat->Option Cb}{o:Oper}
theorem Aot(hn:Rel none none){C:Kk}{call:Bp}{K:St->Option R}{K':St->Option R'}(CQ:Uv o.op=true)(Pz:∀x∈o.op.operands.toList,Db tm x=Db tm' x)(hS:∀i,IK o tm' Fs i->hp i=Fs i\/(hp i=none/\∀b,Rel none b))(hdd:∀d,o.dst=some d->hp d=Fs d)(hK:∀v Di Id,(∀M,XY M (IK o tm' Fs) o.dst hp Fs Di Id)->Rel (K ⟨Co tm o.dst v,Di⟩) (K' ⟨Co tm' o.dst v,Id⟩)):Rel (FU C P N call ⟨tm,hp⟩ o K) (FU C P N call ⟨tm',Fs⟩ o K'):=by
 unfold FU;have hl:∀x∈o.op.operands.toList,∀i∈Cn (Db tm' x),IK o tm' Fs i:=fun x hx i hi=>.inl ⟨x,hx,hi⟩;generalize hLd:IK o tm' Fs=S at *
 generalize hop:o.op=op at *
 unfold Uv at CQ;split at CQ
 ·rename_i c
  have Qr:∀x∈c.args.toList,x∈(Op.call c).operands.toList:=by
   intro x hx;simp only[Op.operands,Call.operands,Array.toList_append,Bz];exact .inr hx
  split at CQ
  ·rename_i hc;simp only[hc];refine Ff hn fun d hd=>Cf hn fun x _ hx=>Cf hn fun y _ hy=>H4 hn (Cf hn fun _ _ _=>Cf hn fun _ _ _=>?_);subst hy;have hxm:=Qr x (by rw[hx];simp)
   have hym:=Qr y (by rw[hx];simp)
   simp only[Pz x hxm,Pz y hym];refine LC hn hS (hdd d hd) (fun i hi=>hl x hxm i (I0 hi)) (fun i hi=>hl y hym i (I0 hi)) fun v Di Id hh=>?_;have:=hK v Di Id (by rw[hd];exact hh)
   rw[hd] at this;exact this
  ·cases CQ
 ·cases CQ
theorem Y8{C:Kk}{call:Bp}(CQ:Uv o.op=true)(Pz:∀x∈o.op.operands.toList,Db tm x=Db tm' x)(hS:∀i,IK o tm' Fs i->hp i=Fs i)(hdd:∀d,o.dst=some d->hp d=Fs d){s1:St}(h:FU C P N call ⟨tm,hp⟩ o some=some s1):∃v Di Id,s1=⟨Co tm o.dst v,Di⟩/\FU C P N call ⟨tm',Fs⟩ o some=some ⟨Co tm' o.dst v,Id⟩/\∀M,XY M (IK o tm' Fs) o.dst hp Fs Di Id:=by
 have:=Aot (P:=P) (N:=N) (C:=C) (call:=call) (o:=o) (tm:=tm) (tm':=tm') (hp:=hp) (Fs:=Fs) (K:=some) (K':=some)
  (Rel:=fun (a b:Option St)=>∀s1,a=some s1->∃v Di Id,s1=⟨Co tm o.dst v,Di⟩/\b=some ⟨Co tm' o.dst v,Id⟩/\∀M,XY M (IK o tm' Fs) o.dst hp Fs Di Id) (fun _ h=>by cases h) CQ Pz (fun i hi=>.inl (hS i hi)) hdd
  (fun v Di Id hT s1 h=>by cases h;exact⟨v,Di,Id,rfl,rfl,hT⟩)
 exact this s1 h
end
section
variable {R R':Type}{r:R}{r':R'}{C:Kk}{P:Program}{N:Nat}{call:Bp}{ops:Array Oper}{o x:Oper}{s s1 s2:St}{K:St->Option R}
theorem CL{tm:Nat->PV}(h:Km C P ops o tm=true):AU C P o.op=true:=by unfold Km at h;simp only[G8] at h;exact h.1
theorem Adb(h:Uv o.op=true):AU C P o.op=true:=by
 unfold Uv at h;split at h
 ·rename_i c hc;rw[hc];split at h
  ·rename_i hcc;simp only[AU,hcc];exact h
  ·cases h
 ·cases h
theorem Uy(h:Fd C P N call ops x s K=some r):∃s1,Fd C P N call ops x s some=some s1/\Abk P x s s1/\(CZ P x.op=true->s1.hp=s.hp)/\K s1=some r:=by
 cases hx:Km C P ops x s.tm
 ·rw[Q3 hx] at h ⊢;cases ex:gE C P N call ops x s with
  |none=>rw[ex] at h;cases h
  |some q=>
   rw[ex] at h;obtain⟨hb,h1⟩:=Az h;simp only[G8] at hb;refine⟨_,?_,⟨fun t ht=>Wi ht,fun i hi=>Ue hb.2 hi,fun hm i hi=>?_⟩,fun hl=>?_,h1⟩
   ·show As _ _=_;rw[hb.1,hb.2];rfl
   ·show Bf (Al s.hp q.2.1) q.2.2 i=s.hp i;rw[Jh hb.2 hi,((DY ex).1 hm).1];simp
   ·show Bf (Al s.hp q.2.1) q.2.2=s.hp;obtain⟨h1,h2⟩:=Amb (.inl hl) ex;rw[h1,h2]
    funext i
    show Al s.hp [] i=_;rw[C5];simp
 ·rw[Nh hx] at h ⊢
  exact SY (P:=P) (N:=N) (o:=x) (tm:=s.tm) (tm':=s.tm) (hp:=s.hp) (K':=some) (Rel:=fun (a:Option R) (b:Option St)=>a=some r->∃s1,b=some s1/\Abk P x s s1/\(CZ P x.op=true->s1.hp=s.hp)/\K s1=some r) (fun h=>by cases h) (fun _ _=>rfl) (fun v Di hh h=>⟨_,rfl,⟨fun t ht=>Wi ht,hh,fun hm=>(by
   rw[KW (CL hx)] at hm;cases hm)⟩,fun hl=>(by
   have:=CL hx;rw[Qh hl] at this;cases this),h⟩) h
theorem ER{K':St->Option R'}(h:Fd C P N call ops x s some=some s1)(hk:K' s1=some r'):Fd C P N call ops x s K'=some r':=by
 cases hx:Km C P ops x s.tm
 ·rw[Q3 hx] at h ⊢;cases ex:gE C P N call ops x s with
  |none=>rw[ex] at h;cases h
  |some q=>
   rw[ex] at h;obtain⟨hb,h1⟩:=Az h;show As _ _=_;rw[hb];cases h1;exact hk
 ·rw[Nh hx] at h ⊢;exact SY (P:=P) (N:=N) (o:=x) (tm:=s.tm) (tm':=s.tm) (hp:=s.hp) (K:=some) (Rel:=fun (a:Option St) (b:Option R')=>a=some s1->b=some r') (fun h=>by cases h) (fun _ _=>rfl) (fun v Di hh h=>by cases h;exact hk) h
theorem Adc{d:Nat}{t tx:TypeId}{b y:PV}(h:Wx P N s d t tx b y K=some r):s.hp d=none:=by
 unfold Wx at h;split at h
 ·obtain⟨_,h⟩:=Az h;cases hI:JG P tx
  ·rw[hI,cond_false] at h;refine NN (P:=P) (tm:=s.tm) (tm':=s.tm) (hp:=s.hp) (Fs:=s.hp) (S:=fun _=>True) (K':=fun _ _=>(none:Option R)) (Rel:=fun (a:Option R) (_:Option R)=>a=some r->s.hp d=none) (fun h=>by cases h) (fun _ _=>.inl rfl) (fun _ _=>trivial) (fun m new h=>?_) h;split at h
   ·split at h
    ·obtain⟨hb,_⟩:=Az h;simp only[G8,Option.isNone_iff_eq_none] at hb;simp only[hb]
    ·cases h
   ·obtain⟨_,_,_,h,_⟩:=Iy h;obtain⟨hb,_⟩:=Az h;simp only[G8,Option.isNone_iff_eq_none] at hb;simp only[hb]
  ·rw[hI,cond_true] at h;unfold CU at h;obtain⟨_,_,_,h⟩:=Fa h;obtain⟨_,_,_,h,_⟩:=Iy h;obtain⟨hb,_⟩:=Az h;simp only[G8,Option.isNone_iff_eq_none] at hb;simp only[hb]
 ·cases h
theorem Ayc(hw:Has C P o s)(hwx:∀y∈x.op.operands.toList,∀i∈Cn (Db s.tm y),s.hp i≠none)(xo:∀d,x.dst=some d->d ∉ looks ops o)(ne:∀d,x.dst=some d->o.dst≠some d)(ox:∀d,o.dst=some d->d ∉ looks ops x)(Ez:Uv x.op=true)(hao:Uv o.op=true)(Aep:∀i,IK x s.tm s.hp i->¬IK o s.tm s.hp i)(hx:Km C P ops x s.tm=true)(ho:Km C P ops o s.tm=true)(h:Fd C P N call ops x s (fun s1=>Fd C P N call ops o s1 K)=some r):Fd C P N call ops o s (fun s1=>Fd C P N call ops x s1 K)=some r:=by
 obtain⟨tm,hp⟩:=s;obtain⟨s1,e1,_,_,h⟩:=Uy h;obtain⟨s2,e2,_,_,h⟩:=Uy h;rw[Nh hx] at e1
 have hSx:∀i,IK x tm hp i->hp i≠none:=by
  rintro i (⟨y,hy,hi⟩|⟨CQ,_⟩)
  ·exact hwx y hy i hi
  ·rw[Ez] at CQ;cases CQ
 have hSo:∀i,IK o tm hp i->hp i≠none:=by
  rintro i (⟨y,hy,hi⟩|⟨CQ,_⟩)
  ·exact hw.1 y hy i hi
  ·rw[hao] at CQ;cases CQ
 obtain⟨vx,hpx,Aw0,rfl,e1',T1⟩:=Y8 Ez (fun _ _=>rfl) (fun _ _=>rfl) (fun _ _=>rfl) e1
 have:Aw0=hpx:=by
  rw[e1] at e1';injection e1' with q;injection q with _ q;exact q.symm
 subst this;have t1:∀t∈looks ops o,Co tm x.dst vx t=tm t:=Hh xo;have t1o:=Im (ops:=ops) (o:=o) t1;rw[Nh (by rw[Lt t1];exact ho)] at e2
 have hRo:∀i,IK o (Co tm x.dst vx) Aw0 i↔IK o tm hp i:=by
  intro i;constructor
  ·rintro (⟨y,hy,hi⟩|⟨CQ,_⟩)
   ·exact .inl ⟨y,hy,by rw[<-t1o y hy];exact hi⟩
   ·rw[hao] at CQ;cases CQ
  ·rintro (⟨y,hy,hi⟩|⟨CQ,_⟩)
   ·exact .inl ⟨y,hy,by rw[t1o y hy];exact hi⟩
   ·rw[hao] at CQ;cases CQ
 have Azs:∀{s:St} {o:Oper} {s2:St},Uv o.op=true->FU C P N call s o some=some s2->∀d,o.dst=some d->s.hp d=none:=by
  intro s o s2 hao e d hd;unfold FU at e;unfold Uv at hao;split at hao
  ·rename_i c hc;rw[hc] at e;simp only at e;split at hao
   ·rename_i hcc;rw[hcc] at e;simp only[hd,F3] at e;obtain⟨_,_,_,e⟩:=Br e;obtain⟨_,_,_,e⟩:=Br e;obtain⟨_,e⟩:=Fg e;obtain⟨_,_,_,e⟩:=Br e;obtain⟨_,_,_,e⟩:=Br e;exact Adc e
   ·cases hao
  ·cases hao
 have Bb4:∀d,o.dst=some d->hp d=none:=by
  intro d hd;have h0:=Azs hao e2 d hd;cases hh:hp d with
  |none=>rfl
  |some b=>exact absurd h0 ((T1 0).keep d (by rw[hh];simp))
 have A5z:=Azs Ez e1;simp only at A5z;have hoS:∀d,o.dst=some d->¬IK x tm hp d:=fun d hd hR=>hSx d hR (Bb4 d hd);have hxS:∀d,x.dst=some d->¬IK o tm hp d:=fun d hd hR=>hSo d hR (A5z d hd);obtain⟨vo,A99,hpo,rfl,e3,T2⟩:=Y8 (tm':=tm) (Fs:=hp) hao t1o (fun i hi=>(T1 0).far i (fun hR=>Aep i hR hi) (hSo i hi)) (fun d hd=>((T1 (d+1)).off d (by omega) (fun e=>ne d e hd) (.inl (hoS d hd))).1) e2;obtain⟨vo',Bas,Ae9,e3a,e3b,T3⟩:=Y8 (tm':=tm) (Fs:=hp) hao (fun _ _=>rfl) (fun _ _=>rfl) (fun _ _=>rfl) e3;rw[e3] at e3b
 have A9i:Bas=hpo/\Ae9=hpo:=by
  injection e3a with _ q1;injection e3b with q2;injection q2 with _ q3;exact⟨q1.symm,q3.symm⟩
 obtain⟨rfl,rfl⟩:=A9i;have t2:∀t∈looks ops x,tm t=Co tm o.dst vo t:=fun t ht=>(Hh ox t ht).symm;have t2x:=Im (ops:=ops) (o:=x) t2
 have hRx:∀i,IK x (Co tm o.dst vo) Ae9 i↔IK x tm hp i:=by
  intro i;constructor
  ·rintro (⟨y,hy,hi⟩|⟨CQ,_⟩)
   ·exact .inl ⟨y,hy,by rw[t2x y hy];exact hi⟩
   ·rw[Ez] at CQ;cases CQ
  ·rintro (⟨y,hy,hi⟩|⟨CQ,_⟩)
   ·exact .inl ⟨y,hy,by rw[<-t2x y hy];exact hi⟩
   ·rw[Ez] at CQ;cases CQ
 obtain⟨vx2,Bao,Bbv,e4a,e4,T4⟩:=Y8 (tm':=Co tm o.dst vo) (Fs:=Ae9) Ez t2x (fun i hi=>((T3 0).far i (Aep i ((hRx i).1 hi)) (hSx i ((hRx i).1 hi))).symm) (fun d hd=>((T3 (d+1)).off d (by omega) (fun e=>ne d hd e) (.inl (hxS d hd))).1.symm) e1
 have hvx:Co tm x.dst vx=Co tm x.dst vx2/\Aw0=Bao:=by
  injection e4a with q1 q2;exact⟨q1,q2⟩
 obtain⟨hvx,rfl⟩:=hvx;obtain⟨_,YV,RZ,e5a,e5b,T5⟩:=Y8 (tm':=Co tm x.dst vx) (Fs:=Aw0) hao (fun _ _=>rfl) (fun _ _=>rfl) (fun _ _=>rfl) e2;have hq:YV=A99:=by injection e5a with _ q1;exact q1.symm
 subst hq;obtain⟨_,hu1,hu2,e6a,e6b,T6⟩:=Y8 (tm':=Co tm o.dst vo) (Fs:=Ae9) Ez (fun _ _=>rfl) (fun _ _=>rfl) (fun _ _=>rfl) e4;have hu:hu1=Bbv:=by injection e6a with _ q1;exact q1.symm
 subst hu
 have Qr:YV=hu1:=by
  funext i
  by_cases hi:IK o tm hp i\/o.dst=some i
  ·have hxi:¬IK x tm hp i:=by
    rcases hi with hi|hi
    ·exact fun hR=>Aep i hR hi
    ·exact hoS i hi
   have hdi:x.dst≠some i:=by
    rcases hi with hi|hi
    ·exact fun e=>hxS i e hi
    ·exact fun e=>ne i e hi
   rw[(T2 0).same i ((T1 (i+1)).off i (by omega) hdi (.inl hxi)).1];exact ((T6 (i+1)).off i (by omega) hdi (.inl fun hR=>hxi ((hRx i).1 hR))).1.symm
  ·have hoi:¬IK o tm hp i:=fun e=>hi (.inl e);have hdi:o.dst≠some i:=fun e=>hi (.inr e);rw[((T5 (i+1)).off i (by omega) hdi (.inl fun hR=>hoi ((hRo i).1 hR))).1];exact (T4 0).same i ((T3 (i+1)).off i (by omega) hdi (.inl hoi)).1.symm
 refine ER (s1:=⟨Co tm o.dst vo,Ae9⟩) (by rw[Nh ho];exact e3) ?_
 refine ER (s1:=⟨Co (Co tm o.dst vo) x.dst vx2,hu1⟩) (by rw[Nh (by rw[<-Lt t2];exact hx)];exact e4) ?_
 rw[<-Qn ne,<-hvx,<-Qr];exact h
theorem JS(hM:AU C P o.op=true){i:Nat}(h:IK o s.tm s.hp i):i∈Sr C P s o:=by
 unfold Sr;rw[hM];cases hA:Uv o.op
 ·simp only[Ev,Bool.and_self,cond_true,Bz];rcases h with⟨y,hy,hi⟩|⟨_,id,c,⟨y,hy,hi⟩,hc,p,hp,hk⟩
  ·exact .inl (List.mem_flatMap.2 ⟨y,hy,hi⟩)
  ·refine .inr (List.mem_flatMap.2 ⟨id,List.mem_flatMap.2 ⟨y,hy,hi⟩,?_⟩);rw[hc];exact List.mem_flatMap.2 ⟨p,hp,hk⟩
 ·simp only[Cv,Bool.and_false,cond_false,Bool.or_true,cond_true];rcases h with⟨y,hy,hi⟩|⟨hn,_⟩
  ·exact List.mem_flatMap.2 ⟨y,hy,hi⟩
  ·rw[hA] at hn;cases hn
theorem SL(hl:AU C P o.op=true\/CZ P o.op=true){y:Operand}(hy:y∈o.op.operands.toList){i:Nat}(h:i∈Cn (Db s.tm y)):i∈Sr C P s o:=by
 rcases hl with hM|hl
 ·exact JS hM (.inl ⟨y,hy,h⟩)
 ·unfold Sr;rw[Qh hl,hl];exact List.mem_flatMap.2 ⟨y,hy,h⟩
theorem Afd(ht:∀t∈looks ops o,s1.tm t=s.tm t)(hh:AU C P o.op=true->Uv o.op=false->∀y∈o.op.operands.toList,∀i∈Cn (Db s.tm y),s1.hp i=s.hp i):Sr C P s1 o=Sr C P s o:=by
 have he:=Im (ops:=ops) (o:=o) ht
 have hl:(o.op.operands.toList.flatMap fun y=>Cn (Db s1.tm y))=o.op.operands.toList.flatMap fun y=>Cn (Db s.tm y):=by
  have A1a:∀l:List Operand,(∀y∈l,Db s1.tm y=Db s.tm y)->(l.flatMap fun y=>Cn (Db s1.tm y))=l.flatMap fun y=>Cn (Db s.tm y):=by
   intro l
   induction l with
   |nil=>intro _;rfl
   |cons a l ih=>intro h;simp only[Jr];rw[h a (by simp),ih fun y hy=>h y (by simp[hy])]
  exact A1a _ he
 unfold Sr;simp only[hl];cases hM:(AU C P o.op && !Uv o.op)
 ·rfl
 ·simp only[cond_true];simp only[G8,Bool.not_eq_true'] at hM
  congr 1
  have A1a:∀l:Cc,(∀i∈l,s1.hp i=s.hp i)->(l.flatMap fun i=>match s1.hp i with|some (.st c)=>c.flatMap A9|_=>[])=l.flatMap fun i=>match s.hp i with|some (.st c)=>c.flatMap A9|_=>[]:=by
   intro l
   induction l with
   |nil=>intro _;rfl
   |cons a l ih=>intro h;simp only[Jr];rw[h a (by simp),ih fun y hy=>h y (by simp[hy])]
  exact A1a _ fun i hi=>by
   obtain⟨y,hy,hi⟩:=List.mem_flatMap.1 hi;exact hh hM.1 hM.2 y hy i hi
theorem KA{a b:Cc}(h:Api a b=true){i:Nat}(ha:i∈a)(hb:i∈b):False:=by have:=List.all_eq_true.1 h i ha;have h2:b.any (Nat.beq i)=true:=List.any_eq_true.2 ⟨i,hb,Pu i⟩;rw[h2] at this;cases this
theorem Aon{a b:Cc}(h:Api a b=true):Api b a=true:=by
 refine List.all_eq_true.2 fun i hi=>?_;cases hc:a.any (Nat.beq i)
 ·rfl
 ·obtain⟨j,hj,e⟩:=List.any_eq_true.1 hc;rw[Et e] at hi;exact (KA h hj hi).elim
theorem IU:P9 C P x o=P9 C P o x:=by unfold P9;cases AU C P x.op<;>cases AU C P o.op<;>cases CZ P x.op<;>cases CZ P o.op<;>cases Uv x.op<;>cases Uv o.op<;>rfl
structure Sd(C:Kk)(P:Program)(ops:Array Oper)(x o:Oper):Prop where
 xo:∀d,x.dst=some d->d ∉ looks ops o
 ne:∀d,x.dst=some d->o.dst≠some d
 ox:∀d,o.dst=some d->d ∉ looks ops x
 me:Zu C P x o=false\/P9 C P x o=true
theorem Apc(h:Aq8 C P ops x o=false):Sd C P ops x o:=by
 unfold Aq8 at h;simp only[Bool.or_eq_false_iff] at h;obtain⟨h1,h2⟩:=h;have hT:=h1;unfold Aun at h1;simp only[Bool.or_eq_false_iff] at h1
 have a1:VP C P ops x o=false\/Zu C P x o=true:=by
  cases hc:Zu C P x o
  ·left;unfold VP;unfold Zu at hc;simp only[Bool.or_eq_false_iff] at hc ⊢;exact⟨⟨⟨h1.1,h1.2⟩,hc.1⟩,hc.2⟩
  ·exact .inr rfl
 refine⟨fun d hd=>?_,fun d hd he=>?_,fun d hd=>?_,?_⟩
 ·have:=h1.1;simp only[hd,Bool.or_eq_false_iff] at this;exact AR this.1
 ·have:=h1.1;simp only[hd,he,Bool.or_eq_false_iff] at this;rw[Pu] at this;cases this.2
 ·have:=h1.2;simp only[hd] at this;exact AR this
 ·cases hc:Zu C P x o
  ·exact .inl rfl
  ·rw[hc] at h2;right
   simpa using h2
theorem Sd.apart(ap:Sd C P ops x o)(h:Zu C P x o=false):LX C P ops x o:=by
 unfold Zu at h;simp only[Bool.or_eq_false_iff,Bool.and_eq_false_iff] at h;refine⟨ap.xo,ap.ne,ap.ox,fun hm=>?_,fun hm=>?_⟩
 ·rcases h.1 with h|h
  ·rw[hm] at h;cases h
  ·exact h
 ·rcases h.2 with h|h
  ·rw[hm] at h;cases h
  ·exact h
theorem Sd.same(ap:Sd C P ops x o)(hk:Abk P x s s1)(hl:CZ P x.op=true->s1.hp=s.hp)(hM:AU C P o.op=true)(hA:Uv o.op=false){i:Nat}(hi:s.hp i≠none):s1.hp i=s.hp i:=by
 rcases ap.me with h|h
 ·exact hk.2.2 ((ap.apart h).mo hM) i hi
 ·unfold P9 at h;rw[hA] at h;simp only[Bool.and_false,Bool.or_false,Bool.or_eq_true,G8] at h;rcases h with h|h
  ·have:=h.2;rw[Qh (C:=C) (P:=P) this] at hM;cases hM
  ·rw[hl h.2]
theorem Has.keepsS(h:Has C P o s)(ap:Sd C P ops x o)(hk:Abk P x s s1)(hl:CZ P x.op=true->s1.hp=s.hp):Has C P o s1:=by
 have hop:∀y∈o.op.operands.toList,Db s1.tm y=Db s.tm y:=fun y hy=>Im (ops:=ops) (o:=o) (fun t ht=>hk.1 t fun hd=>ap.xo t hd ht) y hy;refine⟨fun y hy i hi=>?_,fun hM hA y hy i hi c hc p hp k hkk=>?_⟩
 ·rw[hop y hy] at hi;exact hk.2.1 i (h.1 y hy i hi)
 ·rw[hop y hy] at hi;rw[ap.same hk hl hM hA (h.1 y hy i hi)] at hc;exact hk.2.1 k (h.2 hM hA y hy i hi c hc p hp k hkk)
theorem Sd.symm(ap:Sd C P ops x o):Sd C P ops o x:=by
 refine⟨ap.ox,fun d hd he=>ap.ne d he hd,ap.xo,?_⟩;rcases ap.me with h|h
 ·left;unfold Zu at h ⊢;rw[Bool.or_comm];exact h
 ·right;rw[IU];exact h
theorem A6f(hw:Has C P o s)(hwx:P9 C P x o=true->∀i∈Sr C P s x,s.hp i≠none)(ap:Sd C P ops x o)(hd:P9 C P x o=true->Api (Sr C P s x) (Sr C P s o)=true)(h:Fd C P N call ops x s (fun s1=>Fd C P N call ops o s1 K)=some r):Fd C P N call ops o s (fun s1=>Fd C P N call ops x s1 K)=some r:=by
 rcases ap.me with hm|hm
 ·exact A7t hw (ap.apart hm) h
 ·have hd:=hd hm;have hwx:=hwx hm;cases hx:Km C P ops x s.tm
  ·cases ho:Km C P ops o s.tm
   ·exact Ale hw ap.xo ap.ne ap.ox hx ho h
   ·have hMo:=CL ho
    have hlx:XZ P ops x s.tm:=by
     cases hl:CZ P x.op
     ·right
      have hMx:AU C P x.op=true:=by
       unfold P9 at hm;simp only[hl,Bool.and_false,Bool.or_false,Bool.or_eq_true,G8] at hm;rcases hm with hm|hm
       ·exact hm.1
       ·exact Adb hm.1
      cases hv:I6 ops x s.tm with
      |none=>
       exfalso;rw[Q3 hx] at h;unfold gE at h;rw[hv] at h;cases h
      |some b=>
       cases b
       ·rfl
       ·unfold Km at hx;rw[hMx,hv] at hx;cases hx
     ·exact .inl hl
    refine Axb ap.xo ap.ne ap.ox hlx (fun y hy i hi hR=>?_) ho h;refine KA hd (SL ?_ hy hi) (JS hMo hR);unfold P9 at hm;simp only[Bool.or_eq_true,G8] at hm;rcases hm with (hm|hm)|hm
    ·exact .inl hm.1
    ·exact .inr hm.2
    ·exact .inl (Adb hm.1)
  ·have hMx:=CL hx;cases ho:Km C P ops o s.tm
   ·have hlo:XZ P ops o s.tm:=by
     cases hl:CZ P o.op
     ·right
      have hMo:AU C P o.op=true:=by
       unfold P9 at hm;simp only[hl,Bool.and_false,Bool.false_or,Bool.or_eq_true,G8] at hm;rcases hm with hm|hm
       ·exact hm.1
       ·exact Adb hm.2
      cases hv:I6 ops o s.tm with
      |none=>
       exfalso;obtain⟨s1,_,hk,_,h⟩:=Uy h;have hv1:I6 ops o s1.tm=none:=by rw[Q7 (fun t ht=>hk.1 t fun hd=>ap.xo t hd ht)];exact hv
       rw[Q3 (by unfold Km;rw[hv1];cases AU C P o.op<;>rfl)] at h
       unfold gE at h;rw[hv1] at h;cases h
      |some b=>
       cases b
       ·rfl
       ·unfold Km at ho;rw[hMo,hv] at ho;cases ho
     ·exact .inl hl
    refine Awk hw ap.xo ap.ne ap.ox hlo (fun y hy i hi hR=>?_) hx h;refine KA hd (JS hMx hR) (SL ?_ hy hi);unfold P9 at hm;simp only[Bool.or_eq_true,G8] at hm;rcases hm with (hm|hm)|hm
    ·exact .inr hm.2
    ·exact .inl hm.1
    ·exact .inl (Adb hm.2)
   ·have hMo:=CL ho;unfold P9 at hm;simp only[Bool.or_eq_true,G8] at hm;rcases hm with (hm|hm)|hm
    ·rw[Qh (C:=C) (P:=P) hm.2] at hMo;cases hMo
    ·rw[Qh (C:=C) (P:=P) hm.2] at hMx;cases hMx
    ·exact Ayc hw (fun y hy i hi=>hwx i (SL (.inl hMx) hy hi)) ap.xo ap.ne ap.ox hm.1 hm.2 (fun i h1 h2=>KA hd (JS hMx h1) (JS hMo h2)) hx ho h
theorem Arb{α:Type}(a b:α)(l:List α)(f:α->Bool):(a::b::l).all f=(b::a::l).all f:=by simp only[List.all_cons];cases f a<;>cases f b<;>rfl
theorem PW{bs:List Cc}:∀(l:Cc){dn dn':List (Nat × Oper × Cc)} {s:St}{K:St->Option R},(∀f,dn.all f=dn'.all f)->Mu C P N call ops bs dn l s K=Mu C P N call ops bs dn' l s K
 |[],_,_,_,_,_=>rfl
 |i::l,dn,dn',s,K,h=>by
  unfold Mu;cases ops[i]? with
  |none=>rfl
  |some o=>
   simp only[F3,h]
   congr 2
   funext s'
   exact PW l fun f=>by simp only[List.all_cons,h]
theorem VZ{bs:Cc}{i:Nat}(hi:ops[i]?=some o):(QA C P ops bs).getD i []=KF C P ops bs i o:=by unfold QA;rw[List.getD_eq_getElem?_getD,List.getElem?_map,List.getElem?_zipIdx,Array.getElem?_toList,hi];simp
theorem AV{bs:Cc}{i j:Nat}:j∈KF C P ops bs i o↔∃x,ops[j]?=some x/\P9 C P x o=true/\(Nat.blt j i&&(bs.getD i 0).testBit j)=false/\(Nat.blt i j&&(bs.getD j 0).testBit i)=false:=by
 unfold KF;simp only[List.mem_map,List.mem_filter,G8,Bool.not_eq_true',Prod.exists];constructor
 ·rintro⟨x,k,⟨hm,⟨h1,h2⟩,h3⟩,rfl⟩
  rw[List.mem_zipIdx_iff_getElem?] at hm;exact⟨x,by simpa using hm,h1,h2,h3⟩
 ·rintro⟨x,hx,h1,h2,h3⟩
  refine⟨x,j,⟨?_,⟨h1,h2⟩,h3⟩,rfl⟩;rw[List.mem_zipIdx_iff_getElem?]
  simpa using hx
theorem SH{sm:List Cc}{i j:Nat}(h:j∈sm.getD i []):QZ C P sm s i o=Sr C P s o:=by
 unfold QZ;split
 ·rename_i e;rw[e] at h;simp at h
 ·rfl
theorem Ar2{sm:List Cc}{i:Nat}(h:sm.getD i []≠[]->Sr C P s1 o=Sr C P s o):QZ C P sm s1 i o=QZ C P sm s i o:=by
 unfold QZ;split
 ·rfl
 ·rename_i e;exact h (by rw[e];simp)
theorem Aly{l:Cc}{j:Nat}:l.any (Nat.beq j)=true↔j∈l:=by
 constructor
 ·intro h;obtain⟨k,hk,e⟩:=List.any_eq_true.1 h;rw[Et e];exact hk
 ·intro h;exact List.any_eq_true.2 ⟨j,h,Pu j⟩
theorem MC{bs:Cc}{sm:List Cc}(hsm:sm=QA C P ops bs){i:Nat}(hi:ops[i]?=some o){l':Cc}:∀(l:Cc){dn:List (Nat × Oper × Cc)} {s:St}{K:St->Option R},Has C P o s ->
  (∀j∈l,j<i/\(bs.getD i 0).testBit j=false/\∀x,ops[j]?=some x->Sd C P ops x o)->Mu C P N call ops sm dn (l++i::l') s K=some r ->
  dn.all (XL C P sm s i o)=true/\Fd C P N call ops o s (fun s1=>Mu C P N call ops sm ((i,o,QZ C P sm s i o)::dn) (l++l') s1 K)=some r
 |[],dn,s,K,hw,_,h=>by
  simp only[SR] at h ⊢;unfold Mu at h;rw[hi] at h;simp only[F3] at h;obtain⟨hb,h⟩:=Az h;simp only[G8] at hb;exact⟨hb.1,h⟩
 |j::l,dn,s,K,hw,hl,h=>by
  simp only[Zzp] at h ⊢;unfold Mu at h;obtain⟨hji,YE,CQ⟩:=hl j (by simp);cases hj:ops[j]? with
  |none=>rw[hj] at h;cases h
  |some x=>
   rw[hj] at h;simp only[F3] at h;obtain⟨hb,h⟩:=Az h;simp only[G8] at hb;have ap:=CQ x hj
   have hex:∀k∈QZ C P sm s j x,s.hp k≠none:=fun k hk=>by
    have:=List.all_eq_true.1 hb.2 k hk;intro e;rw[e] at this;cases this
   obtain⟨s1,e1,E9,MQ,h1⟩:=Uy h;obtain⟨ha,h2⟩:=MC hsm hi l (hw.keepsS ap E9 MQ) (fun k hk=>hl k (by simp[hk])) h1;have Ba0:Sr C P s1 o=Sr C P s o:=Afd (ops:=ops) (fun t ht=>E9.1 t fun hd=>ap.xo t hd ht) fun hM hA y hy k hk=>ap.same E9 MQ hM hA (hw.1 y hy k hk);have hr1:QZ C P sm s1 i o=QZ C P sm s i o:=Ar2 fun _=>Ba0;rw[List.all_cons,G8] at ha
   have A5b:Nat.blt i j=false:=by
    cases hh:Nat.blt i j
    ·rfl
    ·have:=Xx hh;omega
   have hmi:P9 C P x o=true->j∈sm.getD i []:=fun hs=>by
    rw[hsm,VZ hi];exact AV.2 ⟨x,hj,hs,by rw[YE,Bool.and_false],by rw[A5b,Zzs]⟩
   have hmj:P9 C P x o=true->i∈sm.getD j []:=fun hs=>by
    rw[hsm,VZ hj];exact AV.2 ⟨o,hi,by rw[IU];exact hs,by rw[A5b,Zzs],by rw[YE,Bool.and_false]⟩
   have A0u:P9 C P x o=true->Api (QZ C P sm s j x) (QZ C P sm s i o)=true:=by
    intro hs;have:=ha.1;unfold XL at this;rw[Aly.2 (hmi hs),hr1] at this
    simpa using this
   have hok:∀q,XL C P sm s1 i o q=XL C P sm s i o q:=fun q=>by unfold XL;rw[hr1]
   have Zr:dn.all (XL C P sm s i o)=true:=by
    refine List.all_eq_true.2 fun q hq=>?_;rw[<-hok];exact List.all_eq_true.1 ha.2 q hq
   refine⟨Zr,?_⟩;rw[hr1] at h2
   have h3:=A6f hw (fun hs k hk=>hex k (by rw[SH (hmj hs)];exact hk)) ap (fun hs=>by have:=A0u hs;rw[SH (hmj hs),SH (hmi hs)] at this;exact this)
    (ER (K':=fun s1=>Fd C P N call ops o s1 (fun s2=>Mu C P N call ops sm ((i,o,QZ C P sm s i o)::(j,x,QZ C P sm s j x)::dn) (l++l') s2 K)) e1 h2)
   obtain⟨s2,e2,Hl,RQ,h4⟩:=Uy h3;refine ER e2 ?_
   have hr2:QZ C P sm s2 j x=QZ C P sm s j x:=Ar2 fun Gz=>by
    obtain⟨q,hq⟩:=List.exists_mem_of_ne_nil _ Gz;refine Afd (ops:=ops) (fun t ht=>Hl.1 t fun hd=>ap.ox t hd ht) fun hM hA y hy k hk=>ap.symm.same Hl RQ hM hA (hex k ?_);rw[SH hq];exact SL (.inl hM) hy hk
   unfold Mu;rw[hj];simp only[F3]
   have hc:(((i,o,QZ C P sm s i o)::dn).all (XL C P sm s2 j x)&&(QZ C P sm s2 j x).all fun k=>(s2.hp k).isSome)=true:=by
    simp only[List.all_cons,G8];refine⟨⟨?_,?_⟩,?_⟩
    ·unfold XL;simp only[hr2];cases hs:(sm.getD j []).any (Nat.beq i)
     ·rfl
     ·have hm:=Aly.1 hs;rw[hsm,VZ hj] at hm;obtain⟨o',ho',hso,_⟩:=AV.1 hm;rw[hi] at ho';cases ho';rw[IU] at hso;rw[Aon (A0u hso)];rfl
    ·refine List.all_eq_true.2 fun q hq=>?_;have:=List.all_eq_true.1 hb.1 q hq;unfold XL at this ⊢;rw[hr2];exact this
    ·rw[hr2];refine List.all_eq_true.2 fun k hk=>?_;have:=Hl.2.1 k (hex k hk);cases hh:s2.hp k with
     |none=>exact absurd hh this
     |some _=>rfl
   rw[hc,hr2];show Fd C P N call ops x s2 _=some r
   have:(fun s'=>Mu C P N call ops sm ((j,x,QZ C P sm s j x)::(i,o,QZ C P sm s i o)::dn) (l++l') s' K)=fun s2=>Mu C P N call ops sm ((i,o,QZ C P sm s i o)::(j,x,QZ C P sm s j x)::dn) (l++l') s2 K:=by
    funext s'
    exact PW _ fun f=>Arb _ _ _ f
   rw[this];exact h4
end
section
variable {R:Type}{r:R}{P:Program}{N:Nat}{w0:World}{X0:Gn}{Y:Nat->Prop}{β β':Bt}{s:St}{a:Act}{w w':World}{o:Oper}{ops:Array Oper}{C:Kk}{call:Bp}{K:St->Option R}
theorem GJ{bs:Cc}:∀(l:List Oper)(n:Nat),MK C P ops bs l n=true->∀(k:Nat) o,l[k]?=some o->∀(j:Nat) x,ops[j]?=some x->j<n+k->Aq8 C P ops x o=true->(bs.getD (n+k) 0).testBit j=true
 |[],_,_,k,o,ho,_,_,_,_,_=>by simp at ho
 |o'::l,n,h,k,o,ho,j,x,hx,hj,BW=>by
  simp only[MK,G8] at h;cases k with
  |zero=>
   simp at ho;subst ho
   have:=List.all_eq_true.1 h.1 (x,j) (by
    rw[List.mem_zipIdx_iff_getElem?]
    simpa using hx)
   simp only[BW,Cv,Bool.or_false,Bool.or_eq_true,Bool.not_eq_true'] at this;rcases this with h'|h'
   ·have:Nat.blt j n=true:=Nat.ble_eq_true_of_le (by omega);rw[this] at h';cases h'
   ·exact h'
  |succ k=>
   have:=GJ l (n+1) h.2 k o (by simpa using ho) j x hx (by omega) BW
   rwa [show n+(k+1)=n+1+k by omega]
theorem Acg{G:Zg}(Ks:QL P G w0 X0)(Dl:∀f args res,call f args=some res->Do G P f args res)(hok:VQ C P ops=true){Q:Exit->Act->World->Prop}(hQ:∀s' a' w' β',K s'=some r->Cj N w0 X0 Y β' s' a' w'->Q .normal a' w'):
  ∀(fuel:Nat) {dn:List (Nat × Oper × Cc)} {listed:Array Bool} {s:St} {a:Act} {w:World} {β:Bt},HeadInv .any ops ops.size listed->(Tl ops.size listed).length=fuel->Cj N w0 X0 Y β s a w->Mu C P N call ops (QA C P ops (Nd ops.toList [])) dn (Tl ops.size listed) s K=some r->wpAny P .any ops Q fuel listed a w:=by
 unfold VQ at hok;simp only[G8] at hok;obtain⟨Ata,A3y⟩:=hok;intro fuel
 induction fuel with
 |zero=>
  intro dn listed s a w β inv hf h hk;have hp:=List.eq_nil_of_length_eq_zero hf;rw[hp] at hk;refine⟨?_,hQ s a w β hk h⟩;cases hr:Region.ready .any ops listed with
  |nil=>rfl
  |cons i l=>
   exfalso;have hi:i∈Region.ready .any ops listed:=by rw[hr];simp
   obtain⟨Pt,o,ho,_⟩:=mem_ready.1 hi;have:i∈Tl ops.size listed:=Ow.2 ⟨(Array.getElem?_eq_some_iff.1 ho).1,Pt⟩;rw[hp] at this;simp at this
 |succ fuel ih=>
  intro dn listed s a w β inv hf h hk;refine⟨fun hr=>?_,fun i hi=>?_⟩
  ·rw[ZP Ata inv hr] at hf;cases hf
  ·obtain⟨Pt,o,ho,Zr⟩:=mem_ready.1 hi;have Cq:i<ops.size:=(Array.getElem?_eq_some_iff.1 ho).1;obtain⟨l1,l2,h1,h2,h3⟩:=HA (Ow.2 ⟨Cq,Pt⟩) inv.size;rw[h1] at hk
   have hnb:∀j∈l1,((Nd ops.toList []).getD i 0).testBit j=false:=by
    intro j hj;cases YE:((Nd ops.toList []).getD i 0).testBit j with
    |false=>rfl
    |true=>
     exfalso;have hjl:=AB (listed:=listed) (fun j oj hj hl=>inv.closed j oj hj hl) ops.toList [] [] (by simp) rfl (by simp) i o ho Zr j YE;have:j∈Tl ops.size listed:=by rw[h1];simp[hj]
     have:=getD_both (Ow.1 this).2;rw[hjl] at this;cases this
   have CQ:∀j∈l1,j<i/\((Nd ops.toList []).getD i 0).testBit j=false/\∀x,ops[j]?=some x->Sd C P ops x o:=by
    intro j hj;refine⟨h3 j hj,hnb j hj,fun x hxj=>Apc ?_⟩;cases BW:Aq8 C P ops x o with
    |false=>rfl
    |true=>
     exfalso;have YE:=GJ ops.toList 0 A3y i o (by simpa using ho) j x hxj (by have:=h3 j hj;omega) BW
     rw[Cm,hnb j hj] at YE;cases YE
   obtain⟨s',hs',hn⟩:=IX h Ks Dl ho (MC rfl ho l1 (Au5 h o) CQ hk).2;refine hn _ _ fun a' w' β' h'=>ih (dn:=(i,o,QZ C P (QA C P ops (Nd ops.toList [])) s i o)::dn) (inv.set hi Cq) ?_ h' ?_
   ·rw[h2];rw[h1] at hf;simp at hf ⊢;omega
   ·rw[h2];exact hs'
theorem BF(h:Cj N w0 X0 Y β s a w){G:Zg}(Ks:QL P G w0 X0)(Dl:∀f args res,call f args=some res->Do G P f args res)(hm:P.follows .mixedOrders=true)(hok:VQ C P ops=true){Q:Exit->Act->World->Prop}(hk:Mu C P N call ops (QA C P ops (Nd ops.toList [])) [] (List.range ops.size) s K=some r)(hQ:∀s' a' w' β',K s'=some r->Cj N w0 X0 Y β' s' a' w'->Q .normal a' w'):wpAny P .any ops Q ops.size (Array.replicate ops.size false) a { w with drawn:=w.drawn+1 }:=by
 have hp:Tl ops.size (Array.replicate ops.size false)=List.range ops.size:=by
  unfold Tl;refine List.filter_eq_self.2 fun i hi=>?_;have:=List.mem_range.1 hi;simp[this]
 refine Acg (C:=C) (dn:=[]) Ks Dl hok hQ ops.size ⟨by simp,fun j oj _ hl=>(by rw[getD_replicate_false] at hl;cases hl),fun t ht ht'=>by omega⟩ (by rw[hp];simp) h.drew ?_
 rw[hp];exact hk
theorem Ag6(h:Cj N w0 X0 Y β s a w){G:Zg}(Ks:QL P G w0 X0)(Dl:∀f args res,call f args=some res->Do G P f args res)(hm:P.follows .mixedOrders=true)(hok:VQ C P ops=true){id:Nat}{Q:Exit->Act->World->Prop}(hk:Mu C P N call ops (QA C P ops (Nd ops.toList [])) [] (List.range ops.size) s K=some r)(hQ:∀s' a' w' β',K s'=some r->Cj N w0 X0 Y β' s' a' w'->Q .normal a' w'):(Code.region id ops true).wp P Q a w:=
 wp_region_any hm (BF h Ks Dl hm hok hk hQ)
end
open Go.RowKit
section
variable {R:Type}{r:R}{N:Nat}{w0:World}{X0:Gn}{Y:Nat->Prop}{β β':Bt}{s:St}{a:Act}{w w':World}
theorem Avb{i:Nat}(hi:i<a.tmps.size):a.put (some i) (a.tmps.getD i undef)=a:=by
 obtain⟨tmps,dfr⟩:=a;change i<tmps.size at hi
 have:tmps.setIfInBounds i (tmps.getD i undef)=tmps:=by
  apply Array.ext_getElem?;intro k;by_cases e:i=k
  ·subst e;simp[hi]
  ·rw[Array.getElem?_setIfInBounds_ne e]
 simp only[Act.put,this]
theorem Amm{A:Nat->Prop}{es:Nat}{v:Value}(h:Bd w A (.lst true es 0 []) v):v=.slice none 0 0:=by cases h;rfl
theorem Ame{id:Nat}(B5:s.hp id=none){v:PV}{val:Value}(hv:Fc w (D2 (Bf s.hp [(id,.ar false [])]) (Dz β id none) Y) (Dz β id none) v val)(hr:∀i∈Cn v,s.hp i≠none\/i=id):
  ZB Y β s w v [(id,.ar false [])] val w (Dz β id none):=by
 refine⟨rfl,rfl,rfl,C6.refl _ _,fun j hj=>Aw _ _ (by rintro rfl;exact hj B5),?_,?_,?_,?_,?_,hv,?_⟩
 ·intro j bx hm;simp at hm;rw[hm.2];trivial
 ·intro j bx hm;simp at hm;obtain⟨rfl,rfl⟩:=hm;exact .inl ⟨A8 _ _ _,rfl⟩
 ·intro j bx k q hm hq;simp at hm;obtain⟨rfl,rfl⟩:=hm;rw[A8] at hq;cases hq
 ·intro j bx j' bx' k q q' hm M4 _ _;simp at hm M4;rw[hm.1,M4.1]
 ·intro j cells hm;simp at hm
 ·intro j hj;rcases hr j hj with h|rfl
  ·exact .inl h
  ·exact .inr ⟨.ar false [],by simp⟩
theorem XV(h:Cj N w0 X0 Y β s a w)(i:Nat):∃β',Cj N w0 X0 Y β' (SC N s i) a w:=by
 unfold SC;split
 ·rename_i es ht
  have Cq:i<N:=by
   rcases Mi i N with h'|h'
   ·exact h'
   ·rw[h.tmo i h'] at ht;cases ht
  have hv:=h.tms i Cq;rw[ht] at hv;have hv:=Amm hv;have hd:Jt N (some i)=true:=by simp[Jt,Nat.blt];omega
  have go:∀j,s.hp j=none->∃β',Cj N w0 X0 Y β' ⟨Dz s.tm i (.view j es 0 0),Dz s.hp j (some (.ar false []))⟩ a w:=by
   intro j hn;have:=h.stepR (d:=some i) hd (by simp[C1,hn]) (Ame (v:=.view j es 0 0) (val:=.slice none 0 0) hn (.inl ⟨A8 _ _ _,rfl,rfl,none,rfl⟩) (by simp[Cn,C3,A9]));rw[<-hv,Avb (by rw[h.tsz];exact Cq)] at this
   exact⟨_,this⟩
  cases hn:(s.hp i).isNone
  ·cases hn2:(s.hp (i+N*3000)).isNone
   ·exact⟨β,h⟩
   ·exact go _ (by simpa using hn2)
  ·exact go _ (by simpa using hn)
 ·exact⟨β,h⟩
theorem Cj.recell(h:Cj N w0 X0 Y β s a w){id:Nat}{c c':Ab}(h0:s.hp id=some (.st c))(hl:c'.length=c.length)(hc:∀(j:Nat) p,c'[j]?=some p->∃q,c[j]?=some q/\(∀v,Cx w (D2 s.hp β Y) β q v->Cx w (D2 s.hp β Y) β p v)/\∀i∈A9 p,s.hp i≠none):
  Cj N w0 X0 Y β ⟨s.tm,Dz s.hp id (some (.st c'))⟩ a w:=by
 have Kc:∀i,C8 (Dz s.hp id (some (.st c')) i)↔C8 (s.hp i):=by
  intro i;by_cases e:i=id
  ·subst e;rw[A8,h0];exact Iff.rfl
  ·rw[Aw _ _ e]
 have hX:GY (Dz s.hp id (some (.st c'))) β=GY s.hp β:=by
  funext b
  apply propext;constructor
  ·rintro⟨i,o,hl,hb⟩;exact⟨i,o,(Kc i).1 hl,hb⟩
  ·rintro⟨i,o,hl,hb⟩;exact⟨i,o,(Kc i).2 hl,hb⟩
 have hA:D2 (Dz s.hp id (some (.st c'))) β Y=D2 s.hp β Y:=by
  funext b;unfold D2;rw[hX]
 have Gz:∀i,s.hp i≠none->Dz s.hp id (some (.st c')) i≠none:=by
  intro i hi;by_cases e:i=id
  ·subst e;rw[A8];simp
  ·rw[Aw _ _ e];exact hi
 have A9j:∀i,Dz s.hp id (some (.st c')) i≠none->s.hp i≠none:=by
  intro i hi;by_cases e:i=id
  ·subst e;rw[h0];simp
  ·rw[Aw _ _ e] at hi;exact hi
 refine⟨h.dfr,h.tsz,h.tmo,?_,?_,?_,?_,?_,?_,?_,?_,fun i hi=>⟨Gz _ (h.pin i hi).1,(h.pin i hi).2⟩,?_,?_,h.Ylt,h.fr⟩
 ·intro i hi;show Fc w (D2 (Dz s.hp id _) β Y) β _ _;rw[hA];exact h.tms i hi
 ·intro i b hb;show Yi w (D2 (Dz s.hp id _) β Y) β i b;rw[hA];by_cases e:i=id
  ·subst e;change Dz s.hp i (some (.st c')) i=some b at hb;rw[A8] at hb;cases hb;obtain⟨b,o,h1,h2,h3⟩:=h.box i _ h0;refine⟨b,o,h1,fun j p hj=>?_,fun j hj=>h3 j (by rw[<-hl];exact hj)⟩
   obtain⟨q,hq,hqp,_⟩:=hc j p hj;obtain⟨v,hv,hr⟩:=h2 j q hq;exact⟨v,hv,hqp v hr⟩
  ·change Dz s.hp id (some (.st c')) i=some b at hb;rw[Aw _ _ e] at hb;exact h.box i b hb
 ·intro i i' b o o' hl Q2 hb J8;exact h.inj i i' b o o' ((Kc i).1 hl) ((Kc i').1 Q2) hb J8
 ·intro i b o hn hb;exact h.blt i b o (A9j i hn) hb
 ·intro i hi j hj;exact Gz j (h.wfT i hi j hj)
 ·intro i cells hb p hp j hj;change Dz s.hp id (some (.st c')) i=_ at hb;by_cases e:i=id
  ·subst e;rw[A8] at hb;cases hb;obtain⟨k,hk⟩:=List.mem_iff_getElem?.1 hp;obtain⟨_,_,_,hr⟩:=hc k p hk;exact Gz j (hr j hj)
  ·rw[Aw _ _ e] at hb;exact Gz j (h.wfB i cells hb p hp j hj)
 ·intro b hb;exact h.ownd b (by rw[<-hX];exact hb)
 ·intro i bx b o hb hlb hβ Cq j hj;change Dz s.hp id (some (.st c')) i=some bx at hb;by_cases e:i=id
  ·subst e;rw[A8] at hb;cases hb;exact h.rngB i _ b o h0 trivial hβ Cq j (by unfold BR at hj ⊢;simp only[hl] at hj;exact hj)
  ·rw[Aw _ _ e] at hb;exact h.rngB i bx b o hb hlb hβ Cq j hj
 ·intro i c1 b o hb hβ Cq;change Dz s.hp id (some (.st c')) i=_ at hb;by_cases e:i=id
  ·subst e;exact h.stp i c b o h0 hβ Cq
  ·rw[Aw _ _ e] at hb;exact h.stp i c1 b o hb hβ Cq
 ·intro b hY hb;exact h.Yx b hY (by rw[<-hX];exact hb)
theorem YN(h:Cj N w0 X0 Y β s a w)(id j:Nat):∃β',Cj N w0 X0 Y β' (Adk N id s j) a w:=by
 unfold Adk;split
 ·rename_i c h0;split
  ·rename_i es hj;cases hn:(s.hp (id+N*(j+1))).isNone
   ·exact⟨β,h⟩
   ·have hn:s.hp (id+N*(j+1))=none:=by simpa using hn
    have Gz:id≠id+N*(j+1):=by
     intro e;rw[<-e,h0] at hn;cases hn
    have h1:=h.stepR (d:=none) (v:=.top) (val:=undef) rfl (by simp[C1,hn]) (Ame hn (.top _) (by simp[Cn,C3,A9]));change Cj N w0 X0 Y (Dz β (id+N*(j+1)) none) ⟨s.tm,Dz s.hp (id+N*(j+1)) (some (.ar false []))⟩ a w at h1
    have h2:=h1.recell (id:=id) (c:=c) (c':=c.set j (.view (id+N*(j+1)) es 0 0)) (by show Dz _ _ _ _=_;rw[Aw _ _ Gz];exact h0) (by simp) (by
     intro k p hp;by_cases e:k=j
     ·subst e
      have Cq:k<c.length:=by
       rcases Mi k c.length with h'|h'
       ·exact h'
       ·rw[List.getElem?_eq_none h'] at hj;cases hj
      rw[List.getElem?_set_self Cq] at hp;cases hp;refine⟨_,hj,fun v hv=>.inl ⟨A8 _ _ _,rfl,rfl,none,Amm hv⟩,fun i hi=>?_⟩;simp[A9] at hi;subst hi;show Dz _ _ _ _≠none;rw[A8];simp
     ·rw[List.getElem?_set_ne (fun h=>e h.symm)] at hp;refine⟨p,hp,fun _ hv=>hv,fun i hi=>?_⟩;have:=h.wfB id c h0 p (List.mem_of_getElem? hp) i hi;show Dz _ _ _ _≠none;by_cases e':i=id+N*(j+1)
      ·subst e';rw[A8];simp
      ·rw[Aw _ _ e'];exact this)
    refine⟨Dz β (id+N*(j+1)) none,?_⟩;have e3:Dz (Dz s.hp (id+N*(j+1)) (some (.ar false []))) id (some (.st (c.set j (.view (id+N*(j+1)) es 0 0))))=Dz (Dz s.hp id (some (.st (c.set j (.view (id+N*(j+1)) es 0 0))))) (id+N*(j+1)) (some (.ar false [])):=Ae5 _ _ _ (fun h=>Gz h.symm);change Cj N w0 X0 Y (Dz β (id+N*(j+1)) none) ⟨s.tm,Dz (Dz s.hp (id+N*(j+1)) (some (.ar false []))) id (some (.st (c.set j (.view (id+N*(j+1)) es 0 0))))⟩ a w at h2;rw[e3] at h2;exact h2
  ·exact⟨β,h⟩
 ·exact⟨β,h⟩
theorem Ws{f:St->Nat->St}(hf:∀s β,Cj N w0 X0 Y β s a w->∀i,∃β',Cj N w0 X0 Y β' (f s i) a w):∀(l:Cc){s:St}{β:Bt},Cj N w0 X0 Y β s a w->∃β',Cj N w0 X0 Y β' (l.foldl f s) a w
 |[],_,β,h=>⟨β,h⟩
 |i::l,s,β,h=>by
  obtain⟨β1,h1⟩:=hf s β h i;exact Ws hf l h1
theorem Ab7(h:Cj N w0 X0 Y β s a w)(i:Nat):∃β',Cj N w0 X0 Y β' (Adt N s i) a w:=by
 unfold Adt;split
 ·split
  ·exact Ws (fun s β h i=>YN h _ i) _ h
  ·exact⟨β,h⟩
 ·exact⟨β,h⟩
theorem ZU:∀{m:List (Nat × Nat)},Gd (m.map (·.2))=true->∀{i i' j:Nat},(i,j)∈m->(i',j)∈m->i=i'
 |[],_,_,_,_,h,_=>by simp at h
 |(x,y)::m,hn,i,i',j,h,h'=>by
  simp only[Sf,Gd,G8,Bool.not_eq_true'] at hn
  have hy:∀k,(k,y) ∉ m:=by
   intro k hk;exact AR hn.1 (List.mem_map.2 ⟨(k,y),hk,rfl⟩)
  rcases B6.1 h with e|h
  ·cases e;rcases B6.1 h' with e|h'
   ·cases e;rfl
   ·exact absurd h' (hy _)
  ·rcases B6.1 h' with e|h'
   ·cases e;exact absurd h (hy _)
   ·exact ZU hn.2 h h'
theorem OS:∀{m:List (Nat × Nat)},Gd (m.map (·.1))=true->∀{i j j':Nat},(i,j)∈m->(i,j')∈m->j=j'
 |[],_,_,_,_,h,_=>by simp at h
 |(x,y)::m,hn,i,j,j',h,h'=>by
  simp only[Sf,Gd,G8,Bool.not_eq_true'] at hn
  have hx:∀k,(x,k) ∉ m:=by
   intro k hk;exact AR hn.1 (List.mem_map.2 ⟨(x,k),hk,rfl⟩)
  rcases B6.1 h with e|h
  ·cases e;rcases B6.1 h' with e|h'
   ·cases e;rfl
   ·exact absurd h' (hx _)
  ·rcases B6.1 h' with e|h'
   ·cases e;exact absurd h (hx _)
   ·exact OS hn.2 h h'
theorem Tk{i j:Nat}(h:Nat.beq i j=false):i≠j:=by rintro rfl;rw[Pu] at h;cases h
theorem KT:∀{m:List (Nat × Nat)} {i j:Nat},FY m i=some j->(i,j)∈m
 |[],_,_,h=>by cases h
 |(x,y)::m,i,j,h=>by
  unfold FY at h;cases hb:Nat.beq i x<;>rw[hb] at h
  ·exact Sh _ (KT h)
  ·have:=Et hb;cases h;rw[this];simp
theorem NH{m:List (Nat × Nat)}{hp:Nat->Option Cb}:∀{l:List (Nat × Nat)} {j:Nat}{b:Cb},B0 (Sl m hp l) j=some b->∃i b0,(i,j)∈l/\hp i=some b0/\b=Awp m b0
 |[],_,_,h=>by cases h
 |(x,y)::l,j,b,h=>by
  unfold Sl at h;cases hx:hp x with
  |none=>
   rw[hx] at h;obtain⟨i,b0,h1,h2⟩:=NH h;exact⟨i,b0,Sh _ h1,h2⟩
  |some bx=>
   rw[hx] at h;simp only[B0] at h;cases hb:Nat.beq j y<;>rw[hb] at h
   ·obtain⟨i,b0,h1,h2⟩:=NH h;exact⟨i,b0,Sh _ h1,h2⟩
   ·have:=Et hb;subst this;cases h;exact⟨x,bx,by simp,hx,rfl⟩
theorem Vo{m:List (Nat × Nat)}{hp:Nat->Option Cb}:∀{l:List (Nat × Nat)} {i j:Nat},(i,j)∈l->hp i≠none->B0 (Sl m hp l) j≠none
 |[],_,_,h,_=>by simp at h
 |(x,y)::l,i,j,h,hi=>by
  unfold Sl;cases hx:hp x with
  |none=>
   rcases B6.1 h with e|h
   ·cases e;exact absurd hx hi
   ·exact Vo h hi
  |some bx=>
   simp only[B0];cases hb:Nat.beq j y
   ·rcases B6.1 h with e|h
    ·cases e;exact absurd rfl (Tk hb)
    ·exact Vo h hi
   ·simp
def XR(m:List (Nat × Nat))(j:Nat):Option Nat:=
 match m with
 |[]=>none
 |(x,y)::r=>bif Nat.beq j y then some x else XR r j
theorem Amh:∀{m:List (Nat × Nat)} {i j:Nat},XR m j=some i->(i,j)∈m
 |[],_,_,h=>by cases h
 |(x,y)::m,i,j,h=>by
  unfold XR at h;cases hb:Nat.beq j y<;>rw[hb] at h
  ·exact Sh _ (Amh h)
  ·have:=Et hb;cases h;rw[this];simp
theorem Agi:∀{m:List (Nat × Nat)} {i j:Nat},(i,j)∈m->∃k,XR m j=some k
 |[],_,_,h=>by simp at h
 |(x,y)::m,i,j,h=>by
  unfold XR;cases hb:Nat.beq j y
  ·rcases B6.1 h with e|h
   ·cases e;exact absurd rfl (Tk hb)
   ·exact Agi h
  ·exact⟨x,rfl⟩
theorem Acm{f:Nat->PV}:∀{l:Cc}{i:Nat},lk (l.map fun i=>(i,f i)) i=if i∈l then f i else .top
 |[],_=>rfl
 |x::l,i=>by
  simp only[Sf,lk];cases hb:Nat.beq i x
  ·have:=Tk hb;simp only[cond_false,Acm,B6,this,false_or]
  ·have:=Et hb;subst this;simp
theorem ZL{m:Nat}:∀{n i:Nat},i∈Sc m n->i<n
 |0,_,h=>by simp[Sc] at h
 |n+1,i,h=>by
  simp only[Sc,Bz] at h;rcases h with h|h
  ·have:=ZL h;omega
  ·cases hb:m.testBit n<;>rw[hb] at h
   ·simp at h
   ·simp at h;omega
theorem Ac1(h:Cj N w0 X0 Y β s a w){m:List (Nat × Nat)}(h1:Gd (m.map (·.1))=true)(h2:Gd (m.map (·.2))=true){ls:Cc}(hls:∀i∈ls,i<N)(hpn:∀i,X0.pn i->(Ec N i,Ec N i)∈m):
  ∃β',Cj N w0 X0 Y β' ⟨lk (ls.map fun i=>(i,Am6 m (s.tm i))),B0 (Sl m s.hp m)⟩ a w:=by
 refine⟨fun j=>(XR m j).bind β,?_⟩
 have hβ:∀{i j:Nat},(i,j)∈m->(XR m j).bind β=β i:=by
  intro i j hm;obtain⟨k,hk⟩:=Agi hm;rw[hk];have:=ZU h2 (Amh hk) hm;subst this;rfl
 have hold:∀{j:Nat} {b:Cb},B0 (Sl m s.hp m) j=some b->∃i b0,(i,j)∈m/\s.hp i=some b0/\b=Awp m b0/\(XR m j).bind β=β i:=by
  intro j b hb;obtain⟨i,b0,hm,h3,h4⟩:=NH hb;exact⟨i,b0,hm,h3,h4,hβ hm⟩
 have Kc:∀{j:Nat},C8 (B0 (Sl m s.hp m) j)->∃i,(i,j)∈m/\C8 (s.hp i)/\(XR m j).bind β=β i:=by
  intro j hl;cases hb:B0 (Sl m s.hp m) j with
  |none=>rw[hb] at hl;exact hl.elim
  |some b=>
   obtain⟨i,b0,hm,h3,rfl,h5⟩:=hold hb;refine⟨i,hm,?_,h5⟩;rw[hb] at hl;rw[h3];cases b0<;>exact hl
 have hX:∀b,GY (B0 (Sl m s.hp m)) (fun j=>(XR m j).bind β) b->GY s.hp β b:=by
  rintro b ⟨j,o,hl,hb⟩
  obtain⟨i,_,Q2,e⟩:=Kc hl;exact⟨i,o,Q2,by rw[<-e];exact hb⟩
 have hA:∀b,D2 (B0 (Sl m s.hp m)) (fun j=>(XR m j).bind β) Y b->D2 s.hp β Y b:=fun b hb=>hb.imp (hX b) id
 have hC:∀p v,Cx w (D2 s.hp β Y) β p v->Cx w (D2 (B0 (Sl m s.hp m)) (fun j=>(XR m j).bind β) Y) (fun j=>(XR m j).bind β) (Ajz m p) v:=by
  intro p v hp;cases p with
  |view id es off n=>
   show Cx _ _ _ (match FY m id with|some j=>.view j es off n|none=>.top) v;cases hj:FY m id with
   |some j=>
    have e:=hβ (KT hj);rcases hp with⟨e1,e2⟩|⟨b,o,x,cap,e1,e2⟩
    ·exact .inl ⟨by show (XR m j).bind β=none;rw[e];exact e1,e2⟩
    ·exact .inr ⟨b,o,x,cap,by show (XR m j).bind β=_;rw[e];exact e1,e2⟩
   |none=>exact Bd.top _
  |ptr id off=>
   show Cx _ _ _ (match FY m id with|some j=>.ptr j off|none=>.top) v;cases hj:FY m id with
   |some j=>
    have e:=hβ (KT hj);obtain⟨b,o,e1,e2⟩:=hp;exact⟨b,o,by show (XR m j).bind β=_;rw[e];exact e1,e2⟩
   |none=>exact Bd.top _
  |sc v=>exact Bd.step (C6.refl _ _) (fun b _=>hA b) hp
  |lst z es n c=>exact Bd.step (C6.refl _ _) (fun b _=>hA b) hp
  |iptr c off=>exact Cx.step (p:=.iptr c off) (C6.refl _ _) (fun b _=>hA b) (by simp[A9]) hp
  |_=>exact Bd.top _
 have hV:∀p v,Fc w (D2 s.hp β Y) β p v->Fc w (D2 (B0 (Sl m s.hp m)) (fun j=>(XR m j).bind β) Y) (fun j=>(XR m j).bind β) (Am6 m p) v:=by
  intro p v hp;cases p with
  |agg c=>
   obtain⟨vs,e1,e2⟩:=hp;refine⟨vs,e1,B9.of_at (by simp;exact e2.len) fun i q u hq hu=>?_⟩
   rw[List.getElem?_map] at hq;cases hc:c[i]? with
   |none=>rw[hc] at hq;cases hq
   |some q0=>
    rw[hc] at hq;cases hq;exact hC _ _ (e2.at_ hc hu)
  |view id es off n=>
   have:=hC (.view id es off n) v hp;change Cx _ _ _ (match FY m id with|some j=>.view j es off n|none=>.top) v at this;show Fc _ _ _ (match FY m id with|some j=>.view j es off n|none=>.top) v;cases hj:FY m id<;>rw[hj] at this<;>exact this
  |ptr id off=>
   have:=hC (.ptr id off) v hp;change Cx _ _ _ (match FY m id with|some j=>.ptr j off|none=>.top) v at this;show Fc _ _ _ (match FY m id with|some j=>.ptr j off|none=>.top) v;cases hj:FY m id<;>rw[hj] at this<;>exact this
  |sc v'=>exact hC (.sc v') v hp
  |lst z es n c=>exact hC (.lst z es n c) v hp
  |iptr c off=>exact hC (.iptr c off) v hp
  |_=>exact Bd.top _
 have hrC:∀p i,i∈A9 (Ajz m p)->∃k∈A9 p,(k,i)∈m:=by
  intro p i hi;cases p with
  |view id es off n=>
   change i∈A9 (match FY m id with|some j=>.view j es off n|none=>.top) at hi;cases hj:FY m id<;>rw[hj] at hi
   ·simp[A9] at hi
   ·simp[A9] at hi;subst hi;exact⟨id,by simp[A9],KT hj⟩
  |ptr id off=>
   change i∈A9 (match FY m id with|some j=>.ptr j off|none=>.top) at hi;cases hj:FY m id<;>rw[hj] at hi
   ·simp[A9] at hi
   ·simp[A9] at hi;subst hi;exact⟨id,by simp[A9],KT hj⟩
  |_=>simp[Ajz,A9] at hi
 have hrV:∀p i,i∈Cn (Am6 m p)->∃k∈Cn p,(k,i)∈m:=by
  intro p i hi;cases p with
  |agg c=>
   simp only[Am6,Cn,C3,List.mem_flatMap,List.mem_map] at hi;obtain⟨_,⟨q,hq,rfl⟩,hi⟩:=hi;obtain⟨k,hk,hm⟩:=hrC q i hi;exact⟨k,by simp only[Cn,C3,List.mem_flatMap];exact⟨q,hq,hk⟩,hm⟩
  |view id es off n=>
   refine (hrC (.view id es off n) i ?_).imp fun k hk=>hk;change i∈Cn (match FY m id with|some j=>.view j es off n|none=>.top) at hi;show i∈A9 (match FY m id with|some j=>.view j es off n|none=>.top);cases hj:FY m id<;>rw[hj] at hi<;>exact hi
  |ptr id off=>
   refine (hrC (.ptr id off) i ?_).imp fun k hk=>hk;change i∈Cn (match FY m id with|some j=>.ptr j off|none=>.top) at hi;show i∈A9 (match FY m id with|some j=>.ptr j off|none=>.top);cases hj:FY m id<;>rw[hj] at hi<;>exact hi
  |_=>simp[Am6,Ajz,Cn,C3,A9] at hi
 refine⟨h.dfr,h.tsz,?_,?_,?_,?_,?_,?_,?_,?_,?_,?_,?_,?_,h.Ylt,h.fr⟩
 ·intro i hi;show lk _ i=_;rw[Acm,A5 (fun hm=>by have:=hls i hm;omega)]
 ·intro i hi;show Fc w _ _ (lk _ i) _;rw[Acm];split
  ·exact hV _ _ (h.tms i hi)
  ·exact Bd.top _
 ·intro j b hb;obtain⟨i,b0,hm,h3,rfl,e⟩:=hold hb;have Pr:=h.box i b0 h3;cases b0 with
  |st c=>
   obtain⟨b,o,e1,e2,e3⟩:=Pr;refine⟨b,o,by show (XR m j).bind β=_;rw[e];exact e1,fun k p hp=>?_,fun k hk=>e3 k (by simpa using hk)⟩
   rw[List.getElem?_map] at hp;cases hc:c[k]? with
   |none=>rw[hc] at hp;cases hp
   |some q=>
    rw[hc] at hp;cases hp;obtain⟨v,hv,hr⟩:=e2 k q hc;exact⟨v,hv,hC _ _ hr⟩
  |ar fz c=>
   have:=Yi.step' hA Pr;show Yi _ _ _ _ (.ar fz c);rcases this with⟨e1,e2⟩|⟨b,o,e1,e2⟩
   ·exact .inl ⟨by show (XR m j).bind β=_;rw[e];exact e1,e2⟩
   ·exact .inr ⟨b,o,by show (XR m j).bind β=_;rw[e];exact e1,e2⟩
  |mv=>exact trivial
 ·intro j j' b o o' hl Q2 hb J8;obtain⟨i,hm,MQ,e⟩:=Kc hl;obtain⟨i',M4,A93,e'⟩:=Kc Q2;have:=h.inj i i' b o o' MQ A93 (by rw[<-e];exact hb) (by rw[<-e'];exact J8)
  subst this;exact OS h1 hm M4
 ·intro j b o hn hb;cases hj:B0 (Sl m s.hp m) j with
  |none=>exact absurd hj hn
  |some bx=>
   obtain⟨i,b0,_,h3,_,e⟩:=hold hj;exact h.blt i b o (by rw[h3];simp) (by rw[<-e];exact hb)
 ·intro i hi j hj;change j∈Cn (lk _ i) at hj;rw[Acm] at hj;split at hj
  ·obtain⟨k,hk,hm⟩:=hrV _ j hj;exact Vo hm (h.wfT i hi k hk)
  ·simp[Cn,C3,A9] at hj
 ·intro j cells hb p hp k hk;obtain⟨i,b0,_,h3,h4,_⟩:=hold hb;cases b0 with
  |st c=>
   cases h4;obtain⟨q,hq,rfl⟩:=List.mem_map.1 hp;obtain⟨k',J6,hm⟩:=hrC q k hk;exact Vo hm (h.wfB i c h3 q hq k' J6)
  |ar fz c=>cases h4
  |mv=>cases h4
 ·intro b hb;exact h.ownd b (hX b hb)
 ·intro j bx b o hb hlb hβ1 Cq k hk;obtain⟨i,b0,_,h3,h4,e⟩:=hold hb;subst h4;refine h.rngB i b0 b o h3 ?_ (by rw[<-e];exact hβ1) Cq k ?_
  ·cases b0<;>exact hlb
  ·cases b0 with
   |st c=>simpa [BR,Awp] using hk
   |ar fz c=>exact hk
   |mv=>exact hk
 ·intro i hi;exact⟨Vo (hpn i hi) (h.pin i hi).1,(hβ (hpn i hi)).trans (h.pin i hi).2⟩
 ·intro j c b o hb hβ1 Cq;obtain⟨i,b0,hm,h3,h4,e⟩:=hold hb;cases b0 with
  |st c0=>
   obtain⟨k,rfl,hk⟩:=h.stp i c0 b o h3 (by rw[<-e];exact hβ1) Cq
   exact⟨k,OS h1 hm (hpn k hk),hk⟩
  |ar fz c0=>cases h4
  |mv=>cases h4
 ·intro b hY hb;exact h.Yx b hY (hX b hb)
theorem EY{m:List (Nat × Nat)}{q:Nat × Nat}{o n:Nat}(h:q∈m):q∈ZG m o n:=by
 unfold ZG;split
 ·exact h
 ·exact Bz.2 (.inl h)
theorem Ru{q:Nat × Nat}{new:Nat}:∀{c:Ab}{j:Nat}{m:List (Nat × Nat)},q∈m->q∈Z6 N new c j m
 |[],_,_,h=>h
 |p::c,j,m,h=>by
  unfold Z6;split
  ·rename_i e;cases e
  ·rename_i e;cases e;exact Ru (EY h)
  ·rename_i e;cases e;exact Ru h
theorem Aft{q:Nat × Nat}{m:List (Nat × Nat)}{i:Nat}(h:q∈m):q∈SG N s m i:=by
 unfold SG;split
 ·exact EY h
 ·split
  ·exact h
  ·split
   ·exact Ru (EY h)
   ·exact EY h
 ·exact Ru h
 ·exact h
theorem KY{q:Nat × Nat}:∀{l:Cc}{m:List (Nat × Nat)},q∈m->q∈l.foldl (SG N s) m
 |[],_,h=>h
 |_::l,_,h=>KY (l:=l) (Aft h)
theorem Z4{q:Nat × Nat}{m:List (Nat × Nat)}(h:q∈m):∀k,q∈DW N s.hp k m
 |0=>h
 |k+1=>by
  unfold DW;split
  ·exact Ru (Z4 h k)
  ·exact Z4 h k
theorem Abb:∀{k i:Nat},i<k->s.hp (Ec N i)≠none->(Ec N i,Ec N i)∈Afj N s.hp k
 |0,_,h,_=>by omega
 |k+1,i,h,hn=>by
  unfold Afj;by_cases e:i=k
  ·subst e
   have:(s.hp (Ec N i)).isSome=true:=by
    cases hq:s.hp (Ec N i) with
    |none=>exact absurd hq hn
    |some b=>rfl
   rw[this];simp
  ·have:=Abb (k:=k) (i:=i) (by omega) hn;cases (s.hp (Ec N k)).isSome
   ·exact this
   ·exact Bz.2 (.inl this)
theorem QP(h:Cj N w0 X0 Y β s a w){L:Nat}{q:Bool}{K:St->Option R}(hk:Amn N (Sc L N) q s K=some r):∃β' s',K s'=some r/\Cj N w0 X0 Y β' s' a w:=by
 unfold Amn at hk;obtain⟨hb,E9⟩:=Az hk;simp only[G8] at hb
 obtain⟨β2,h2⟩:∃β2,Cj N w0 X0 Y β2 (bif q then s else (Sc L N).foldl (Adt N) ((Sc L N).foldl (SC N) s)) a w:=by
  cases q
  ·obtain⟨β1,h1⟩:=Ws (fun s β h i=>XV h i) (Sc L N) h;obtain⟨β2,h2⟩:=Ws (fun s β h i=>Ab7 h i) (Sc L N) h1;exact⟨β2,h2⟩
  ·exact⟨β,h⟩
 obtain⟨β3,h3⟩:=Ac1 h2 hb.1 hb.2 (ls:=Sc L N) (fun i hi=>ZL hi) (fun i hi=>KY (Z4 (Abb (X0.p8 i hi) (h2.pin i hi).1) 8));exact⟨β3,_,E9,h3⟩
theorem Ck(h:Cj N w0 X0 Y β s a w){L:Nat}{K:St->Option R}(hk:Ke N L s K=some r):∃β' s',K s'=some r/\Cj N w0 X0 Y β' s' a w:=QP h hk
theorem QF(h:Cj N w0 X0 Y β s a w){L:Nat}{K:St->Option R}(hk:Ahd N L s K=some r):∃β' s',K s'=some r/\Cj N w0 X0 Y β' s' a w:=QP h hk
end
open Go.RowKit
section
variable {R:Type}{r:R}{P:Program}{N:Nat}{w0:World}{X0:Gn}{Y:Nat->Prop}{C:Kk}{call:Bp}
theorem EQ{n:Nat}{F:St->Option R}{s:St}(h:VG n F s=some r):F s=some r:=by
 unfold VG at h;split at h
 ·cases h
 ·exact h
theorem PN{β:Bt}{s:St}{a:Act}{w:World}(h:Cj N w0 X0 Y β s a w){c:Operand}{kt kf:St->Option R}(hk:At9 s c kt kf=some r):(a.eval c=.bool true/\kt s=some r)\/(a.eval c=.bool false/\kf s=some r):=by
 unfold At9 at hk;split at hk
 ·rename_i d;split at hk
  ·rename_i b ht;have hv:a.eval (.tmp d)=.bool b:=D3 h (x:=.tmp d) ht;cases b
   ·change kf ⟨Dz s.tm d (.sc (.bool false)),s.hp⟩=some r at hk;rw[MG s.tm ht] at hk;exact .inr ⟨hv,hk⟩
   ·change kt ⟨Dz s.tm d (.sc (.bool true)),s.hp⟩=some r at hk;rw[MG s.tm ht] at hk;exact .inl ⟨hv,hk⟩
  ·rename_i ht;have hu:=Er h (.tmp d);change Fc _ _ _ (s.tm d) _ at hu;rw[ht] at hu;have Od:Bd w _ .ub (a.eval (.tmp d)):=hu
   obtain⟨b,hv⟩:∃b,a.eval (.tmp d)=.bool b:=by
    generalize a.eval (.tmp d)=x at Od;cases Od with
    |ub b=>exact⟨b,rfl⟩
   obtain⟨h1,h2⟩:=YR hk;cases b
   ·exact .inr ⟨hv,h2⟩
   ·exact .inl ⟨hv,h1⟩
  ·cases hk
 ·exact .inl ⟨rfl,hk⟩
 ·exact .inr ⟨rfl,hk⟩
 ·cases hk
theorem TT{c:Code}{Q:Exit->Act->World->Prop}{F:(St->Option R)->St->Option R}{nm:St->(St->Option R)->Option R}(hnm:∀{β s a w} {K:St->Option R},Cj N w0 X0 Y β s a w->nm s K=some r->∃β' s',K s'=some r/\Cj N w0 X0 Y β' s' a w)(hF:∀{β s a w} {K:St->Option R}{Q':Act->World->Prop},Cj N w0 X0 Y β s a w->F K s=some r->(∀s' a' w' β',K s'=some r->Cj N w0 X0 Y β' s' a' w'->Q' a' w')->c.wp P (Exit.then Q' Q) a w):
  ∀(n:Nat) {β s a w},Cj N w0 X0 Y β s a w->YK F nm n s=some r->Code.rounds P c Q n a w
 |0,_,_,_,_,_,hk=>by cases hk
 |n+1,β,s,a,w,h,hk=>by
  rw[rounds_succ];refine hF h hk fun s' a' w' β' J6 h'=>?_;obtain⟨β1,s1,E9,h1⟩:=hnm h' J6;exact TT hnm hF n h1 E9
theorem HL{G:Zg}(Ks:QL P G w0 X0)(Dl:∀f args res,call f args=some res->Do G P f args res)(hm:P.follows .mixedOrders=true){fu:Nat}:
  ∀(c:Code) {ln:Nat} {lx:Nat->Nat} {lr:Nat} {kn:St->Option R} {kx:Nat->St->Option R} {kr:St->Option R} {β:Bt} {s:St} {a:Act} {w:World} {Q:Exit->Act->World->Prop},Cj N w0 X0 Y β s a w ->
   Pm C P fu N call c ln lx lr kn kx kr s=some r->(∀s' a' w' β',kn s'=some r->Cj N w0 X0 Y β' s' a' w'->Q .normal a' w') ->
   (∀id s' a' w' β',kx id s'=some r->Cj N w0 X0 Y β' s' a' w'->Q (.exit id) a' w')->(∀s' a' w' β',kr s'=some r->Cj N w0 X0 Y β' s' a' w'->Q .ret a' w')->c.wp P Q a w:=by
 intro c
 induction c with
 |skip=>intro ln lx lr kn kx kr β s a w Q h hk hn hx hr;exact wp_skip (hn s a w β hk h)
 |region id ops draw=>
  intro ln lx lr kn kx kr β s a w Q h hk hn hx hr;unfold Pm at hk;cases draw
  ·simp only[YD,Zzs,cond_false] at hk;exact Ach h Ks Dl hk hn
  ·simp only[YD,Aq2,Zzm,cond_true] at hk;cases hb:SV C P ops<;>rw[hb] at hk
   ·obtain⟨J8,E9⟩:=Az (show As _ _=some r from hk);exact Ag6 h Ks Dl hm J8 E9 hn
   ·exact Abp h Ks Dl hm hb hk hn
 |seq c1 c2 ih1 ih2=>
  intro ln lx lr kn kx kr β s a w Q h hk hn hx hr;unfold Pm at hk
  refine wp_seq (ih1 h hk (fun s' a' w' β' J6 h'=>by
    cases hc:Ak7 P c1 c2
    ·rw[hc] at J6;exact ih2 h' J6 hn hx hr
    ·rw[hc] at J6;cases hq:LZ c1 c2
     ·rw[hq] at J6;obtain⟨β1,s1,E9,h1⟩:=Ck h' (show Ke _ _ _ _=some r from J6);exact ih2 h1 (EQ E9) hn hx hr
     ·rw[hq] at J6;obtain⟨β1,s1,E9,h1⟩:=QF h' (show Ahd _ _ _ _=some r from J6);exact ih2 h1 (EQ E9) hn hx hr) (fun id s' a' w' β' J6 h'=>hx id s' a' w' β' J6 h') (fun s' a' w' β' J6 h'=>hr s' a' w' β' J6 h'))
 |cond c c1 c2 ih1 ih2=>
  intro ln lx lr kn kx kr β s a w Q h hk hn hx hr;unfold Pm at hk;rcases PN h hk with⟨hc,E9⟩|⟨hc,E9⟩
  ·exact wp_cond_true hc (ih1 h E9 hn hx hr)
  ·exact wp_cond_false hc (ih2 h E9 hn hx hr)
 |block id c ih=>
  intro ln lx lr kn kx kr β s a w Q h hk hn hx hr;unfold Pm at hk;refine wp_block (ih h hk (fun s' a' w' β' J6 h'=>hn s' a' w' β' J6 h') (fun j s' a' w' β' J6 h'=>?_) (fun s' a' w' β' J6 h'=>hr s' a' w' β' J6 h'));show (if j=id then _ else _);by_cases e:j=id
  ·subst e;rw[Bq rfl];rw[Pu] at J6;exact hn s' a' w' β' J6 h'
  ·rw[A5 e]
   have:Nat.beq j id=false:=by
    cases hb:Nat.beq j id
    ·rfl
    ·exact absurd (Et hb) e
   rw[this] at J6;exact hx j s' a' w' β' J6 h'
 |loop c ih=>
  intro ln lx lr kn kx kr β s a w Q h hk hn hx hr;unfold Pm at hk;obtain⟨β1,s1,E9,h1⟩:=Ck h hk;refine wp_loop_rounds fu (TT (fun h hk=>Ck h hk) (fun h hk hQ=>?_) fu h1 E9);exact ih h hk hQ (fun id s' a' w' β' J6 h'=>hx id s' a' w' β' J6 h') (fun s' a' w' β' J6 h'=>hr s' a' w' β' J6 h')
 |«exit» id=>intro ln lx lr kn kx kr β s a w Q h hk hn hx hr;exact wp_exit (hx id s a w β hk h)
 |ret=>intro ln lx lr kn kx kr β s a w Q h hk hn hx hr;exact wp_ret (hr s a w β hk h)
 |_=>intro ln lx lr kn kx kr β s a w Q h hk hn hx hr;cases hk
end
open Go.RowKit
theorem Th:∀{l:List (Nat × Cb)} {i:Nat}{b:Cb},B0 l i=some b->(i,b)∈l
 |[],_,_,h=>by cases h
 |(j,c)::l,i,b,h=>by
  unfold B0 at h;cases hb:Nat.beq i j<;>rw[hb] at h
  ·exact Sh _ (Th h)
  ·have:=Et hb;cases h;rw[this];simp
theorem Acr:∀{l:List (Nat × Cb)},(l.map (·.1)).Nodup->∀{i b},(i,b)∈l->B0 l i=some b
 |[],_,_,_,h=>by cases h
 |(j,c)::l,hn,i,b,h=>by
  simp only[Sf,List.nodup_cons] at hn;unfold B0;rcases B6.1 h with e|h
  ·cases e;simp only[Pu,cond_true]
  ·have:Nat.beq i j=false:=by
    cases hb:Nat.beq i j
    ·rfl
    ·exact absurd (Et hb ▸ List.mem_map.2 ⟨_,h,rfl⟩) hn.1
   simp only[this,cond_false];exact Acr hn.2 h
section
variable {R:Type}{r:R}{P:Program}{N:Nat}{w0:World}{X0:Gn}{Y:Nat->Prop}{β β':Bt}{s:St}{a:Act}{w w':World}{A:Nat->Prop}
theorem Asc{id:Nat}{t:CT}{p:PV}{K:PV->List (Nat × Cb)->Option R}(hk:Atr id t p K=some r):
  (∃c,K c []=some r/\GS c/\∀w A q u,Kt w A q p u->Bd w A c u)\/∃es n cc,p=.own es n cc/\K (.view id es 0 n) [(id,.ar false cc)]=some r:=by
 have tree:∀t',(NM t' p fun c=>K c [])=some r->∃c,K c []=some r/\GS c/\∀w A q u,Kt w A q p u->Bd w A c u:=by
  intro t' hk;obtain⟨c,hk,hT,WL,hv⟩:=Tj hk;refine⟨c,hk,hT,fun w A q u h=>(hv w A (fun _=>none) u ?_).1⟩;cases p<;>first|exact h|exact WL.elim
 unfold Atr at hk;cases t with
 |sl es=>
  dsimp only at hk;split at hk
  ·rename_i es' n c;cases hb:Nat.beq es' es<;>rw[hb] at hk
   ·cases hk
   ·have:=Et hb;subst this;exact .inr ⟨_,_,_,rfl,hk⟩
  ·exact .inl (tree (.sl es) hk)
 |int k=>exact .inl (tree _ hk)
 |bool=>exact .inl (tree _ hk)
 |str=>exact .inl (tree _ hk)
 |any=>exact .inl (tree _ hk)
theorem X8:∀{ts:List CT}{id:Nat}{ps:Ab}{K:Ab->List (Nat × Cb)->Option R},PM N id ts ps K=some r ->
  ∃cs bs,∃qs:List (Nat × Nat),K cs bs=some r/\cs.length=ps.length/\ps.length=ts.length/\bs.map (·.1)=qs.map (·.1)/\(∀q∈qs,∀q'∈qs,q.2=q'.2->q.1=q'.1) /\
   (∀i bx,(i,bx)∈bs->∃c,bx=.ar false c)/\(∀c∈cs,XU c)/\(∀c∈cs,∀i∈A9 c,∃bx,(i,bx)∈bs) /\
   ∀(w:World) (A:Nat->Prop) (own β':Bt) (j0:Nat) (us:List Value),(∀q∈qs,β' q.1=own (j0+q.2))->Ik w A own j0 ps us->B9 (Cx w A β') cs us/\∀i bx,(i,bx)∈bs->Yi w A β' i bx
 |[],id,ps,K,hk=>by
  obtain⟨rfl,hk⟩:=Fg hk;refine⟨[],[],[],hk,rfl,rfl,rfl,by simp,by simp,by simp,by simp,fun w A own β' j0 us _ h=>⟨?_,by simp⟩⟩;cases us with
  |nil=>trivial
  |cons u us=>exact h.elim
 |t::ts,id,ps,K,hk=>by
  unfold PM at hk;obtain⟨p,ps',PX,E9⟩:=Br hk;subst PX;rcases Asc E9 with⟨c,Hl,hT,hv⟩|⟨es,n,cc,rfl,Hl⟩
  ·obtain⟨cs,bs,qs,Xn,hl,RQ,hb,RZ,Jq,hF,Qm,Xl⟩:=X8 Hl;refine⟨c::cs,bs,qs.map (fun q=>(q.1,q.2+1)),Xn,by simp[hl],by simp[RQ],by rw[hb];simp,?_,Jq,?_,?_,fun w A own β' j0 us hβ ho=>?_⟩
   ·intro q hq q' I4 e;obtain⟨q0,HP,rfl⟩:=List.mem_map.1 hq;obtain⟨q1,O5,rfl⟩:=List.mem_map.1 I4;exact RZ q0 HP q1 O5 (by simp only at e;omega)
   ·intro y hy;rcases B6.1 hy with rfl|hy
    ·exact AX hT
    ·exact hF y hy
   ·intro y hy i hi;rcases B6.1 hy with rfl|hy
    ·rw[Mc hT] at hi;cases hi
    ·exact Qm y hy i hi
   ·cases us with
    |nil=>exact ho.elim
    |cons u us=>
     obtain⟨h1,h2⟩:=Xl w A own β' (j0+1) us (fun q hq=>by rw[hβ _ (List.mem_map_of_mem hq)];congr 1;simp only;omega) ho.2
     exact⟨⟨Au4 (hv w A _ u ho.1),h1⟩,h2⟩
  ·obtain⟨cs,bs,qs,Xn,hl,RQ,hb,RZ,Jq,hF,Qm,Xl⟩:=X8 Hl;refine⟨_::cs,(id,.ar false cc)::bs,(id,0)::qs.map (fun q=>(q.1,q.2+1)),Xn,by simp[hl],by simp[RQ],by simp only[Sf,hb];simp,?_,?_,?_,?_,fun w A own β' j0 us hβ ho=>?_⟩
   ·intro q hq q' I4 e;rcases B6.1 hq with rfl|hq
    ·rcases B6.1 I4 with rfl|I4
     ·rfl
     ·obtain⟨q0,HP,rfl⟩:=List.mem_map.1 I4;simp only at e;omega
    ·obtain⟨q0,HP,rfl⟩:=List.mem_map.1 hq;rcases B6.1 I4 with rfl|I4
     ·simp only at e;omega
     ·obtain⟨q1,O5,rfl⟩:=List.mem_map.1 I4;exact RZ q0 HP q1 O5 (by simp only at e;omega)
   ·intro i bx hm;rcases B6.1 hm with e|hm
    ·cases e;exact⟨cc,rfl⟩
    ·exact Jq i bx hm
   ·intro y hy;rcases B6.1 hy with rfl|hy
    ·trivial
    ·exact hF y hy
   ·intro y hy i hi;rcases B6.1 hy with rfl|hy
    ·simp only[A9,Mv] at hi;subst hi;exact⟨_,LU⟩
    ·obtain⟨bx,Pr⟩:=Qm y hy i hi;exact⟨bx,Sh _ Pr⟩
   ·cases us with
    |nil=>exact ho.elim
    |cons u us=>
     obtain⟨h1,h2⟩:=Xl w A own β' (j0+1) us (fun q hq=>by rw[hβ _ (Sh _ (List.mem_map_of_mem hq))];congr 1;simp only;omega) ho.2
     have h0:=hβ (id,0) LU;simp only[JF] at h0;refine⟨⟨?_,h1⟩,fun i bx hm=>?_⟩
     ·rcases ho.1 with⟨h3,rfl,_,h5⟩|⟨b,ob,cap,h3,h4,h5,h6,h7,_⟩
      ·exact .inl ⟨h0.trans h3,rfl,rfl,h5⟩
      ·exact .inr ⟨b,ob,ob,cap,h0.trans h3,h4,.inl rfl,h5,h6,h7⟩
     ·rcases B6.1 hm with e|hm
      ·cases e;exact KL ho.1 h0
      ·exact h2 i bx hm
theorem Aya{i:Nat}{t:TypeId}{p:PV}{K:PV->List (Nat × Cb)->Option R}(hk:inK P N i t p K=some r):
  ∃v bs,∃qs:List (Nat × Nat),K v bs=some r/\bs.map (·.1)=qs.map (·.1)/\(∀q∈qs,∀q'∈qs,q.2=q'.2->q.1=q'.1)/\(KZ p=true->(Ec N i,0)∈qs/\i<8) /\
   (∀id bx,(id,bx)∈bs->C8 (some bx)/\∀c,bx=.st c->id=Ec N i/\KZ p=true)/\(∀id∈Cn v,∃bx,(id,bx)∈bs)/\OP bs /\
   ∀(w:World) (A:Nat->Prop) (bt β':Bt) (u:Value),(∀q∈qs,β' q.1=bt q.2)->Ael w A bt p u->Fc w A β' v u/\(∀id bx,(id,bx)∈bs->Yi w A β' id bx) /\
    ∀id bx b o,(id,bx)∈bs->β' id=some (b,o)->∀j,BR bx o j->A3c bt p b j:=by
 have owns:∀{bs:List (Nat × Cb)} {qs:List (Nat × Nat)},bs.map (·.1)=qs.map (·.1)->(∀i bx,(i,bx)∈bs->∃c,bx=.ar false c)->∀{bt β':Bt},(∀q∈qs,β' q.1=bt (1+q.2))->∀id bx b o,(id,bx)∈bs->β' id=some (b,o)->∀j,BR bx o j->∃k o',bt (k+1)=some (b,o')/\o'<=j:=by
  intro bs qs hb Jq bt β' hβ id bx b o hm hbo j hj;have:id∈qs.map (·.1):=by rw[<-hb];exact List.mem_map.2 ⟨_,hm,rfl⟩
  obtain⟨q,hq,rfl⟩:=List.mem_map.1 this;obtain⟨c,rfl⟩:=Jq _ _ hm;rw[hβ q hq,Nat.add_comm] at hbo;exact⟨q.2,o,hbo,hj⟩
 have nost:∀{bs:List (Nat × Cb)},(∀i bx,(i,bx)∈bs->∃c,bx=.ar false c)->OP bs:=by
  intro bs Jq id cells hm;obtain⟨c,e⟩:=Jq id _ hm;cases e
 unfold inK at hk;split at hk
 ·rename_i e he;obtain⟨ps,rfl,E9⟩:=ZF hk;obtain⟨hi8,Hl⟩:=Az E9;have hi8:i<8:=Nat.lt_of_succ_le (Xx hi8);obtain⟨cs,bs,qs,Xn,hl,RQ,hb,RZ,Jq,hF,Qm,hv⟩:=X8 Hl;refine⟨_,_,(Ec N i,0)::qs.map (fun q=>(q.1,q.2+1)),Xn,by simp only[Sf,hb];simp,?_,fun _=>⟨LU,hi8⟩,?_,?_,?_,fun w A bt β' u hβ hp=>?_⟩
  ·intro q hq q' I4 e;rcases B6.1 hq with rfl|hq
   ·rcases B6.1 I4 with rfl|I4
    ·rfl
    ·obtain⟨q0,HP,rfl⟩:=List.mem_map.1 I4;simp only at e;omega
   ·obtain⟨q0,HP,rfl⟩:=List.mem_map.1 hq;rcases B6.1 I4 with rfl|I4
    ·simp only at e;omega
    ·obtain⟨q1,O5,rfl⟩:=List.mem_map.1 I4;exact RZ q0 HP q1 O5 (by simp only at e;omega)
  ·intro id bx hm;rcases B6.1 hm with e|hm
   ·cases e;exact⟨trivial,fun _ _=>⟨rfl,rfl⟩⟩
   ·obtain⟨c,rfl⟩:=Jq id bx hm;exact⟨trivial,fun _ e=>by cases e⟩
  ·intro id B5;simp only[Cn,C3,A9,Mv] at B5;subst B5;exact⟨_,LU⟩
  ·intro id cells hm c hc k hk;rcases B6.1 hm with e|hm
   ·cases e;obtain⟨bx,Pr⟩:=Qm c hc k hk;exact⟨bx,Sh _ Pr⟩
   ·obtain⟨c,e⟩:=Jq id _ hm;cases e
  ·obtain⟨b,o,h1,rfl,_,vs,h3,h4,h5⟩:=hp;have h0:=hβ (Ec N i,0) LU;simp only at h0;have hβ1:∀q∈qs,β' q.1=bt (1+q.2):=fun q hq=>by rw[hβ _ (Sh _ (List.mem_map_of_mem hq)),Nat.add_comm]
   obtain⟨h6,h7⟩:=hv w A bt β' 1 vs hβ1 h3;refine⟨⟨b,o,h0.trans h1,by simp⟩,fun id bx hm=>?_,fun id bx b' o' hm J8 j hj=>?_⟩
   ·rcases B6.1 hm with e|hm
    ·cases e;refine⟨b,o,h0.trans h1,fun k c hk=>?_,fun k hk=>h5 k (by omega)⟩;obtain⟨v,hv,hcr⟩:=h6.get hk;exact⟨v,h4 k v hv,hcr⟩
    ·exact h7 id bx hm
   ·rcases B6.1 hm with e|hm
    ·cases e;rw[h0] at J8;have hj:o'<=j/\j<o'+cs.length:=hj;exact .inr ⟨o',ps,J8,hj.1,.inl ⟨rfl,by omega⟩⟩
    ·exact .inl (owns hb Jq hβ1 id bx b' o' hm J8 j hj)
 ·split at hk
  ·rename_i ps;obtain⟨e,he,E9⟩:=Ed hk;obtain⟨hi8,Hl⟩:=Az E9;have hi8:i<8:=Nat.lt_of_succ_le (Xx hi8);obtain⟨q,qr,hq,Xn⟩:=Br Hl;subst hq;obtain⟨RA,Xq⟩:=Fg Xn;subst RA;unfold Je at Xq;split at Xq
   ·rename_i es' n c;cases hb:Nat.beq es' (Bw P e)<;>rw[hb] at Xq
    ·cases Xq
    ·have QD:=Et hb;subst QD;refine⟨_,_,[(Ec N i,0)],Xq,rfl,by simp,fun _=>⟨by simp,hi8⟩,?_,?_,?_,fun w A bt β' u hβ hp=>?_⟩
     ·intro id bx hm;simp only[Mv] at hm;cases hm;exact⟨trivial,fun _ e=>by cases e⟩
     ·intro id B5;simp only[Cn,C3,A9,Mv] at B5;subst B5;exact⟨_,LU⟩
     ·intro id cells hm;simp only[Mv] at hm;cases hm
     ·obtain⟨es,n',c',h1,h2⟩:=hp;cases h1;have h0:=hβ (Ec N i,0) LU;simp only at h0;refine⟨?_,fun id bx hm=>?_,fun id bx b' o' hm J8 j hj=>?_⟩
      ·rcases h2 with⟨h3,rfl,_,h5⟩|⟨b,ob,cap,h3,h4,h5,h6,h7,_⟩
       ·exact .inl ⟨h0.trans h3,rfl,rfl,h5⟩
       ·exact .inr ⟨b,ob,ob,cap,h0.trans h3,h4,.inl rfl,h5,h6,h7⟩
      ·simp only[Mv] at hm;cases hm;exact KL h2 h0
      ·simp only[Mv] at hm;cases hm;rw[h0] at J8;exact .inr ⟨o',_,J8,hj,.inr rfl⟩
   ·cases Xq
  ·rename_i hnt;cases Jl:Dd P t<;>rw[Jl] at hk
   ·simp only[cond_false] at hk;obtain⟨cs,bs,qs,Xn,hl,RQ,hb,RZ,Jq,hF,Qm,hv⟩:=X8 hk;obtain⟨c,cs',hcs,Xq⟩:=Br Xn;subst hcs;obtain⟨RA,hk5⟩:=Fg Xq;subst RA;have hFc:=hF c (by simp)
    have hnL:KZ p=false\/∃ps,p=.pbox ps:=by
     cases p<;>first|exact .inl rfl|exact .inr ⟨_,rfl⟩|exact absurd rfl (hnt _)
    have hpb:∀ps,p ≠ .pbox ps:=by
     rintro ps rfl
     cases hts:M0 P t with
     |nil=>rw[hts] at RQ;simp at RQ
     |cons t' ts=>
      rw[hts] at hk;unfold PM Atr at hk;obtain⟨q,qs1,hq,E9⟩:=Br hk;cases hq;cases t'<;>simp[NM,Pq,Be,Cg,D8,fnK] at E9
    have hpa:∀ps,p ≠ .agg ps:=by
     rintro ps rfl
     cases hts:M0 P t with
     |nil=>rw[hts] at RQ;simp at RQ
     |cons t' ts=>
      rw[hts] at hk;unfold PM Atr at hk;obtain⟨q,qs1,hq,E9⟩:=Br hk;cases hq;cases t'<;>simp[NM,Pq,Be,Cg,D8,fnK] at E9
    have hnL:KZ p=false:=hnL.elim id (fun ⟨ps,e⟩=>absurd e (hpb ps));have GB:Cn c=A9 c:=by cases c<;>first|rfl|exact hFc.elim
    refine⟨c,bs,qs.map (fun q=>(q.1,q.2+1)),hk5,by rw[hb];simp,?_,(fun h=>by rw[hnL] at h;cases h),?_,fun id B5=>Qm c (by simp) id (by rw[<-GB];exact B5),nost Jq,fun w A bt β' u hβ hp=>?_⟩
    ·intro q hq q' I4 e;obtain⟨q0,HP,rfl⟩:=List.mem_map.1 hq;obtain⟨q1,O5,rfl⟩:=List.mem_map.1 I4;exact RZ q0 HP q1 O5 (by simp only at e;omega)
    ·intro id bx hm;obtain⟨c,rfl⟩:=Jq id bx hm;exact⟨trivial,fun _ e=>by cases e⟩
    ·have Di:Kt w A (bt 1) p u:=by cases p<;>first|exact hp.2|exact absurd rfl (hpa _)|exact absurd rfl (hpb _)|exact absurd rfl (hnt _)
     have hβ1:∀q∈qs,β' q.1=bt (1+q.2):=fun q hq=>by rw[hβ _ (List.mem_map_of_mem hq),Nat.add_comm]
     obtain⟨h6,h7⟩:=hv w A bt β' 1 [u] hβ1 ⟨Di,trivial⟩;refine⟨?_,h7,fun id bx b' o' hm J8 j hj=>.inl (owns hb Jq hβ1 id bx b' o' hm J8 j hj)⟩;have h8:=h6.1;cases c<;>first|exact h8|exact hFc.elim
   ·simp only[cond_true] at hk;obtain⟨ps,hp0,E9⟩:=Le hk;subst hp0;obtain⟨cs,bs,qs,Xn,hl,RQ,hb,RZ,Jq,hF,Qm,hv⟩:=X8 E9;refine⟨_,bs,qs.map (fun q=>(q.1,q.2+1)),Xn,by rw[hb];simp,?_,(fun h=>by cases h),?_,fun id B5=>?_,nost Jq,fun w A bt β' u hβ hp=>?_⟩
    ·intro q hq q' I4 e;obtain⟨q0,HP,rfl⟩:=List.mem_map.1 hq;obtain⟨q1,O5,rfl⟩:=List.mem_map.1 I4;exact RZ q0 HP q1 O5 (by simp only at e;omega)
    ·intro id bx hm;obtain⟨c,rfl⟩:=Jq id bx hm;exact⟨trivial,fun _ e=>by cases e⟩
    ·obtain⟨c,hc,hi⟩:=List.mem_flatMap.1 (show id∈cs.flatMap A9 from B5);exact Qm c hc id hi
    ·obtain⟨vs,h1,_,h3⟩:=hp;have hβ1:∀q∈qs,β' q.1=bt (1+q.2):=fun q hq=>by rw[hβ _ (List.mem_map_of_mem hq),Nat.add_comm]
     obtain⟨h6,h7⟩:=hv w A bt β' 1 vs hβ1 h3;exact⟨⟨vs,h1,h6⟩,h7,fun id bx b' o' hm J8 j hj=>.inl (owns hb Jq hβ1 id bx b' o' hm J8 j hj)⟩
theorem Aeb:∀{ts:List TypeId}{i:Nat}{ps:Ab}{K:List (Nat × PV)->List (Nat × Cb)->Option R},Aih P N i ts ps K=some r ->
  ∃tms bs,∃qs:List (Nat × Nat × Nat),K tms bs=some r/\bs.map (·.1)=qs.map (·.1)/\(∀q∈qs,i<=q.2.1)/\(∀q∈qs,∀q'∈qs,q.2=q'.2->q.1=q'.1) /\
   (∀k p,ps[k]?=some p->KZ p=true->(Ec N (i+k),i+k,0)∈qs/\i+k<8)/\(∀id bx,(id,bx)∈bs->C8 (some bx)/\∀c,bx=.st c->∃k p,ps[k]?=some p/\KZ p=true/\id=Ec N (i+k)) /\
   (∀j,∀id∈Cn (lk tms j),∃bx,(id,bx)∈bs)/\OP bs /\
   ∀(w:World) (A:Nat->Prop) (bt:PA) (β':Bt) (us:List Value),(∀q∈qs,β' q.1=bt q.2.1 q.2.2)->Rs w A bt i ps us ->
    (∀j,(∃u,i<=j/\us[j-i]?=some u/\Fc w A β' (lk tms j) u)\/(lk tms j=.top/\(i<=j->us[j-i]?=none)))/\(∀id bx,(id,bx)∈bs->Yi w A β' id bx) /\
    ∀id bx b o,(id,bx)∈bs->β' id=some (b,o)->∀j,BR bx o j->∃k p,ps[k]?=some p/\A3c (bt (i+k)) p b j
 |[],i,ps,K,hk=>by
  obtain⟨PX,hk⟩:=Fg hk;subst PX;refine⟨[],[],[],hk,rfl,by simp,by simp,by simp,by simp,(fun j id B5=>by cases B5),(by intro i cells hm;cases hm),fun w A bt β' us _ h=>?_⟩
  cases us with
  |nil=>exact⟨fun j=>.inr ⟨rfl,fun _=>by simp⟩,by simp,by simp⟩
  |cons u us=>exact h.elim
 |t::ts,i,ps,K,hk=>by
  unfold Aih at hk;obtain⟨p,ps',PX,E9⟩:=Br hk;subst PX;obtain⟨v,bs,qs,Hl,hb,hqi,DX,Pr,hr,hri,hv⟩:=Aya E9;obtain⟨tms,bs',qs',Xn,J8,A3m,Bag,A58,Baf,hr',Bbh,Wc⟩:=Aeb Hl;refine⟨(i,v)::tms,bs++bs',qs.map (fun q=>(q.1,i,q.2))++qs',Xn,by simp only[List.map_append,hb,J8];simp,?_,?_,?_,?_,?_,?_,fun w A bt β' us hβ hp=>?_⟩
  ·intro q hq;rcases Bz.1 hq with hq|hq
   ·obtain⟨q0,HP,rfl⟩:=List.mem_map.1 hq;exact C9 _
   ·have:=A3m q hq;omega
  ·intro q hq q' I4 e;rcases Bz.1 hq with hq|hq
   ·obtain⟨q0,HP,rfl⟩:=List.mem_map.1 hq;rcases Bz.1 I4 with I4|I4
    ·obtain⟨q1,O5,rfl⟩:=List.mem_map.1 I4;simp only[Prod.mk.injEq,true_and] at e;exact hqi q0 HP q1 O5 e
    ·have:=A3m q' I4;rw[<-e] at this;simp only at this;omega
   ·have h5:=A3m q hq;rcases Bz.1 I4 with I4|I4
    ·obtain⟨q1,O5,rfl⟩:=List.mem_map.1 I4;rw[e] at h5;simp only at h5;omega
    ·exact Bag q hq q' I4 e
  ·intro k p' J6 hL;cases k with
   |zero=>
    simp only[List.getElem?_cons_zero,Option.some.injEq] at J6;subst J6;obtain⟨h1,h2⟩:=DX hL;exact⟨Bz.2 (.inl (List.mem_map.2 ⟨_,h1,rfl⟩)),h2⟩
   |succ k=>
    obtain⟨h1,h2⟩:=A58 k p' (by simpa using J6) hL;rw[show i+1+k=i+(k+1) by omega] at h1 h2;exact⟨Bz.2 (.inr h1),h2⟩
  ·intro id bx hm;rcases Bz.1 hm with hm|hm
   ·obtain⟨h1,h2⟩:=Pr id bx hm;exact⟨h1,fun c hc=>⟨0,p,rfl,(h2 c hc).2,(h2 c hc).1⟩⟩
   ·obtain⟨h1,h2⟩:=Baf id bx hm;refine⟨h1,fun c hc=>?_⟩;obtain⟨k,p',h3,h4,h5⟩:=h2 c hc;exact⟨k+1,p',by simpa using h3,h4,by rw[h5,show i+1+k=i+(k+1) by omega]⟩
  ·intro j id B5;unfold lk at B5;cases hbq:Nat.beq j i<;>rw[hbq] at B5
   ·obtain⟨bx,h1⟩:=hr' j id B5;exact⟨bx,Bz.2 (.inr h1)⟩
   ·obtain⟨bx,h1⟩:=hr id B5;exact⟨bx,Bz.2 (.inl h1)⟩
  ·intro id cells hm c hc k hk;rcases Bz.1 hm with hm|hm
   ·obtain⟨bx,h1⟩:=hri id cells hm c hc k hk;exact⟨bx,Bz.2 (.inl h1)⟩
   ·obtain⟨bx,h1⟩:=Bbh id cells hm c hc k hk;exact⟨bx,Bz.2 (.inr h1)⟩
  ·cases us with
   |nil=>exact hp.elim
   |cons u us=>
    obtain⟨h1,h2,h3⟩:=hv w A (bt i) β' u (fun q hq=>hβ _ (Bz.2 (.inl (List.mem_map_of_mem hq)))) hp.1;obtain⟨ZY,h2',h3'⟩:=Wc w A bt β' us (fun q hq=>hβ q (Bz.2 (.inr hq))) hp.2;refine⟨fun j=>?_,fun id bx hm=>?_,fun id bx b o hm hbo j hj=>?_⟩
    ·unfold lk;cases hbq:Nat.beq j i
     ·have Gz:=Tk hbq;simp only[cond_false];rcases ZY j with⟨u',h4,h5,h6⟩|⟨h4,h5⟩
      ·refine .inl ⟨u',by omega,?_,h6⟩;rw[show j-i=(j-(i+1))+1 by omega]
       simpa using h5
      ·refine .inr ⟨h4,fun hij=>?_⟩;rw[show j-i=(j-(i+1))+1 by omega]
       simpa using h5 (by omega)
     ·have:=Et hbq;subst this;exact .inl ⟨u,C9 _,by simp,h1⟩
    ·rcases Bz.1 hm with hm|hm
     ·exact h2 id bx hm
     ·exact h2' id bx hm
    ·rcases Bz.1 hm with hm|hm
     ·exact⟨0,p,rfl,h3 id bx b o hm hbo j hj⟩
     ·obtain⟨k,p',h4,h5⟩:=h3' id bx b o hm hbo j hj;exact⟨k+1,p',by simpa using h4,by rw[show i+(k+1)=i+1+k by omega];exact h5⟩
def HK(bt:PA)(args:Ab)(h8:∀k p,args[k]?=some p->KZ p=true->k<8):Gn:=
 ⟨BtX bt,YW bt args,fun i=>∃p,args[i]?=some p/\KZ p=true,fun i=>bt i 0,fun i ⟨p,h1,h2⟩=>h8 i p h1 h2⟩
theorem NK{ts:List TypeId}{args:Ab}{us:List Value}{bt:PA}{K:List (Nat × PV)->List (Nat × Cb)->Option R}(EN:Ins w Y bt args us)(hk:Aih P N 0 ts args K=some r):
  ∃tms bs,K tms bs=some r/\(C1 (fun _=>none) bs=true->us.length<=N->∃(h8:∀k p,args[k]?=some p->KZ p=true->k<8),∃β0,
   Cj N w (HK bt args h8) Y β0 ⟨lk tms,B0 bs⟩ { tmps:=us.toArray++Array.replicate (N-us.toArray.size) undef,defers:=[] } w):=by
 obtain⟨tms,bs,qs,E9,hb,HP,hqi,DX,Pr,hr,hri,hv⟩:=Aeb hk;refine⟨tms,bs,E9,fun Xr hN=>?_⟩;have Aik:=Z5 Xr
 have h8:∀k p,args[k]?=some p->KZ p=true->k<8:=fun k p h1 h2=>by
  have:=(DX k p h1 h2).2;omega
 have XA:(qs.map (·.1)).Nodup:=by rw[<-hb];exact Aik
 obtain⟨β0,hβ0⟩:∃β0:Bt,∀q∈qs,β0 q.1=bt q.2.1 q.2.2:=by
  have:∀(l:List (Nat × Nat × Nat)),(l.map (·.1)).Nodup->∃β0:Bt,∀q∈l,β0 q.1=bt q.2.1 q.2.2:=by
   intro l
   induction l with
   |nil=>intro _;exact⟨fun _=>none,by simp⟩
   |cons q l ih=>
    intro hn;simp only[Sf,List.nodup_cons] at hn;obtain⟨b1,h1⟩:=ih hn.2;refine⟨Dz b1 q.1 (bt q.2.1 q.2.2),fun q' I4=>?_⟩;rcases B6.1 I4 with rfl|I4
    ·exact A8 _ _ _
    ·have Gz:q'.1≠q.1:=fun e=>hn.1 (by rw[<-e];exact List.mem_map.2 ⟨q',I4,rfl⟩)
     rw[Aw _ _ Gz];exact h1 q' I4
  exact this qs XA
 refine⟨h8,β0,?_⟩;obtain⟨hs,hbr,hL⟩:=hv w _ bt β0 us hβ0 EN.args
 have hqm:∀id bx,(id,bx)∈bs->∃ik,(id,ik)∈qs/\β0 id=bt ik.1 ik.2:=by
  intro id bx hm;have:id∈qs.map (·.1):=by rw[<-hb];exact List.mem_map.2 ⟨_,hm,rfl⟩
  obtain⟨q,hq,rfl⟩:=List.mem_map.1 this;exact⟨q.2,hq,hβ0 q hq⟩
 have hX:∀b,GY (B0 bs) β0 b->BtX bt b:=by
  rintro b ⟨id,o,hl,hβ⟩
  cases hq:B0 bs id with
  |none=>rw[hq] at hl;exact hl.elim
  |some bx=>
   obtain⟨ik,_,h2⟩:=hqm id bx (Th hq);rw[h2] at hβ;exact⟨_,_,_,hβ⟩
 have hA:∀b,D2 (B0 bs) β0 Y b->BtX bt b\/Y b:=fun b hb=>hb.imp (hX b) id;have Av8:∀{p:PV} {u:Value},Fc w (fun b=>BtX bt b\/Y b) β0 p u->Fc w (D2 (B0 bs) β0 Y) β0 p u:=fun h=>h.step (C6.refl _ _) (fun b _=>hA b) (fun _ _=>rfl);refine⟨rfl,by simp;omega,fun i hi=>?_,fun i hi=>?_,?_,?_,?_,fun i hi id B5=>?_,?_,fun b hb=>.inl (hX b hb),?_,?_,?_,fun b hY hXb=>EN.Yx b hY (hX b hXb),EN.Ylt,⟨rfl,rfl,rfl,C6.refl _ _,fun _ _ _ _=>⟨rfl,rfl⟩⟩⟩
 ·rcases hs i with⟨u,_,h,_⟩|⟨h,_⟩
  ·rw[Nat.sub_zero,List.getElem?_eq_none (by omega)] at h;cases h
  ·exact h
 ·rcases hs i with⟨u,_,h,hv⟩|⟨h,h'⟩
  ·rw[Nat.sub_zero] at h
   have Cq:i<us.length:=by
    rcases Mi i us.length with h'|h'
    ·exact h'
    ·rw[List.getElem?_eq_none h'] at h;cases h
   have:(us.toArray++Array.replicate (N-us.toArray.size) undef).getD i undef=u:=by
    rw[Array.getD_eq_getD_getElem?,Array.getElem?_append_left (by simpa using Cq)];simp[h]
   show Fc w _ _ _ ((us.toArray++Array.replicate (N-us.toArray.size) undef).getD i undef);rw[this];exact Av8 hv
  ·show Fc w _ _ (lk tms i) _;rw[h];exact Bd.top _
 ·intro id bx hq;exact (hbr id bx (Th hq)).step' hA
 ·intro id id' b o o' hl Q2 hβ hβ';cases hq:B0 bs id with
  |none=>change C8 (B0 bs id) at hl;rw[hq] at hl;exact hl.elim
  |some bx=>
   cases I4:B0 bs id' with
   |none=>change C8 (B0 bs id') at Q2;rw[I4] at Q2;exact Q2.elim
   |some bx'=>
    obtain⟨ik,h1,h2⟩:=hqm id bx (Th hq);obtain⟨ik',ZY,h2'⟩:=hqm id' bx' (Th I4);rw[h2] at hβ;rw[h2'] at hβ';obtain⟨h3,h4⟩:=EN.inj _ _ _ _ b o o' hβ hβ';exact hqi _ h1 _ ZY (Prod.ext h3 h4)
 ·intro id b o hn hβ;cases hq:B0 bs id with
  |none=>exact absurd hq hn
  |some bx=>
   obtain⟨ik,h1,h2⟩:=hqm id bx (Th hq);rw[h2] at hβ;exact EN.lt b ⟨_,_,_,hβ⟩
 ·obtain⟨bx,hm⟩:=hr i id B5;show B0 bs id≠none;rw[Acr Aik hm];simp
 ·intro id cells hq c hc k hk;obtain⟨bx,hm⟩:=hri id cells (Th hq) c hc k hk;show B0 bs k≠none;rw[Acr Aik hm];simp
 ·intro id bx b o hq hl hβ _ j hj;obtain⟨k,p,h1,h2⟩:=hL id bx b o (Th hq) hβ j hj;rw[Cm] at h2;exact⟨k,p,h1,h2⟩
 ·rintro i ⟨p,h1,h2⟩
  have h3:=(DX i p h1 h2).1;rw[Cm] at h3;refine⟨?_,hβ0 _ h3⟩;have:Ec N i∈bs.map (·.1):=by rw[hb];exact List.mem_map.2 ⟨_,h3,rfl⟩
  obtain⟨⟨id,bx⟩,hm,e⟩:=List.mem_map.1 this;show B0 bs (Ec N i)≠none;rw[<-e,Acr Aik hm];simp
 ·intro id c b o hq _ _;obtain⟨k,p,h1,h2,h3⟩:=(Pr id _ (Th hq)).2 c rfl;rw[Cm] at h3;exact⟨k,h3,p,h1,h2⟩
end
open Go.RowKit
def R1(β:Bt)(l:List (Option Nat))(j:Nat):Option (Nat × Nat):=((l[j]?).bind id).bind β
section
variable {R:Type}{r:R}{P:Program}{N:Nat}{w0:World}{X0:Gn}{Y:Nat->Prop}{β β':Bt}{s:St}{a:Act}{w w':World}{A:Nat->Prop}
def Auk(s:St)(l:List (Option Nat)):Prop:=∀id,some id∈l->C8 (s.hp id)
def S7(s:St)(z:Cc):Prop:=∀id∈z,∃f c,s.hp id=some (.ar f c)
theorem ZM(h : Cj N w0 X0 Y β s a w){shr : Bool}{t : CT}{p : PV}{K : PV -> Cc -> Cc -> Option R}(hk : Ak1 shr s.hp t p K = some r):
    ∃ c q z, K c (Option.toList q) z = some r /\ (∀ x, c ≠ .agg x /\ c ≠ .pbox x) /\ XU p /\ (∀ id, q = some id -> ∃ c, s.hp id = some (.ar false c)) /\ S7 s z /\
      ∀ (fz : Cc) A u, (∀ i ∈ z, i ∈ fz) -> S7 s fz -> (∀ b, A b -> D2 (Al s.hp fz) β Y b) -> Cx w (D2 s.hp β Y) β p u -> Kt w A (q.bind β) c u := by
  have notree : ∀ {c : PV}, GS c -> ∀ x, c ≠ .agg x /\ c ≠ .pbox x := fun hT x => ⟨KR hT x, by rintro rfl; exact hT⟩
  unfold Ak1 at hk
  cases shr <;> simp only[cond_true, cond_false] at hk
  · have tree : ∀ t', (∀ es, t' ≠ .sl es) -> (NM t' p fun c => K c [] []) = some r -> ∃ c q z, K c (Option.toList q) z = some r /\ (∀ x, c ≠ .agg x /\ c ≠ .pbox x) /\ XU p /\ (∀ id, q = some id -> ∃ c, s.hp id = some (.ar false c)) /\ S7 s z /\
        ∀ (fz : Cc) A u, (∀ i ∈ z, i ∈ fz) -> S7 s fz -> (∀ b, A b -> D2 (Al s.hp fz) β Y b) -> Cx w (D2 s.hp β Y) β p u -> Kt w A (q.bind β) c u := by
      intro t' Gz hk
      obtain⟨c, E9, hT, WL, hv⟩ := Tj hk
      refine⟨c, none, [], E9, notree hT, AX WL, by simp, (by intro i hi; cases hi), fun fz A u _ _ hA hc => Qw hT ?_⟩
      exact (hv w _ β u hc).1.step (C6.refl _ _) (fun b _ hb => Un (hA b hb))
    unfold A0r at hk
    cases t with
    | sl es =>
      dsimp only at hk
      split at hk
      · rename_i id es' off n
        cases hb : (Nat.beq es' es && Nat.beq off 0) <;> rw[hb] at hk
        · cases hk
        · simp only[G8] at hb
          have he := Et hb.1
          have ho := Et hb.2
          subst he ho
          simp only[cond_true] at hk
          split at hk
          · rename_i c h0
            obtain⟨hl, E9⟩ := Az hk
            refine⟨_, some id, [], E9, by simp, trivial, fun i hi => by cases hi; exact⟨c, h0⟩, (by intro i hi; cases hi), fun fz A u _ _ hA hc => ?_⟩
            rcases hc with⟨h1, _, rfl, h4⟩ | ⟨b, o, x, cap, h1, h2, hx, h3, h4, h5⟩
            · exact .inl ⟨h1, rfl, by simp, h4⟩
            · have hx : x = o := by rcases hx with e | ⟨_, e⟩ <;> omega
              subst hx
              rcases h.box id _ h0 with⟨h6, _⟩ | ⟨b', o', h6, h7, h8, _⟩
              · rw[h1] at h6; cases h6
              · rw[h1] at h6
                cases h6
                refine .inr ⟨b, x, cap, h1, h2, h3, h4, h5, fun j q hq => ?_, fun j hj BX => h8 rfl j hj BX⟩
                rw[List.getElem?_take] at hq
                split at hq
                · obtain⟨v, hv, h9, ht⟩ := h7 j q hq
                  exact⟨v, hv, h9, ht.step (C6.refl _ _) (fun b _ hb => Un (hA b hb))⟩
                · cases hq
          · cases hk
      · obtain⟨z, n, c, E9, hp⟩ := Iy hk
        obtain⟨hz, Hl⟩ := Az E9
        subst hz
        have hpF : XU p := by rcases hp with e | ⟨e, _⟩ <;> (rw[e]; trivial)
        refine⟨_, none, [], Hl, by simp, hpF, by simp, (by intro i hi; cases hi), fun fz A u _ _ _ hc => ?_⟩
        have hu : u = .slice none 0 0 := by
          rcases hp with rfl | ⟨rfl, _⟩
          · cases hc; rfl
          · exact Bd.val hc
        exact .inl ⟨rfl, rfl, rfl, none, hu⟩
    | int k => exact tree _ (by simp) hk
    | bool => exact tree _ (by simp) hk
    | str => exact tree _ (by simp) hk
    | any => exact tree _ (by simp) hk
  · obtain⟨c, m, E9, hT, hF, hm, hv⟩ := UO h hk
    exact⟨c, none, m, E9, notree hT, hF, by simp, hm, fun fz A u h1 h2 hA hc => Qw hT ((hv fz h1 h2 u hc).1.step (C6.refl _ _) (fun b _ hb => hA b hb))⟩
structure RL(s:St)(β:Bt)(Y:Nat->Prop)(w:World)(cs:Ab)(l:List (Option Nat))(z:Cc)(ps:Ab):Prop where
 len:l.length=cs.length
 pl:cs.length=ps.length
 na:∀c∈cs,∀x,c ≠ .agg x/\c ≠ .pbox x
 fr:∀p∈ps,XU p
 own:∀id,some id∈l->∃c,s.hp id=some (.ar false c)
 row:S7 s z
 sem:∀(fz:Cc) A us,(∀i∈z,i∈fz)->S7 s fz->(∀b,A b->D2 (Al s.hp fz) β Y b)->B9 (Cx w (D2 s.hp β Y) β) ps us->∀own j0,(∀j,j<l.length->own (j0+j)=R1 β l j)->Ik w A own j0 cs us
theorem RL.nil:RL s β Y w [] [] [] []:=⟨rfl,rfl,by simp,by simp,by simp,(by intro i hi;cases hi),fun fz A us _ _ _ hu own j0 _=>by
 cases us with
 |nil=>trivial
 |cons u us=>exact hu.elim⟩
theorem RL.cons{c p:PV}{q:Option Nat}{z zs:Cc}{cs ps:Ab}{l:List (Option Nat)}(OA:∀x,c ≠ .agg x/\c ≠ .pbox x)(hF:XU p)(hq:∀id,q=some id->∃c,s.hp id=some (.ar false c))(hz:S7 s z)(hv:∀(fz:Cc) A u,(∀i∈z,i∈fz)->S7 s fz->(∀b,A b->D2 (Al s.hp fz) β Y b)->Cx w (D2 s.hp β Y) β p u->Kt w A (q.bind β) c u)(H:RL s β Y w cs l zs ps):RL s β Y w (c::cs) (q::l) (z++zs) (p::ps):=by
 refine⟨by simp[H.len],by simp[H.pl],?_,?_,?_,?_,fun fz A us hz1 hz2 hA hu own j0 H2=>?_⟩
 ·intro x hx;rcases B6.1 hx with rfl|hx
  ·exact OA
  ·exact H.na x hx
 ·intro x hx;rcases B6.1 hx with rfl|hx
  ·exact hF
  ·exact H.fr x hx
 ·intro id B5;rcases B6.1 B5 with e|B5
  ·exact hq id e.symm
  ·exact H.own id B5
 ·intro i hi;rcases Bz.1 hi with hi|hi
  ·exact hz i hi
  ·exact H.row i hi
 ·cases us with
  |nil=>exact hu.elim
  |cons u us=>
   have h0:=H2 0 (by simp);rw[JF] at h0;refine⟨?_,H.sem fz A us (fun i hi=>hz1 i (by simp[hi])) hz2 hA hu.2 own (j0+1) fun j hj=>?_⟩
   ·rw[h0];exact hv fz A u (fun i hi=>hz1 i (by simp[hi])) hz2 hA hu.1
   ·have:=H2 (j+1) (by simp;omega)
    rw[show j0+1+j=j0+(j+1) by omega,this];simp[R1]
theorem AE(h:Cj N w0 X0 Y β s a w){shr:Bool}:∀{ts:List CT}{ps:Ab}{K:Ab->Cc->Cc->Option R},NA shr s.hp ts ps K=some r ->
  ∃cs l z,K cs (l.filterMap id) z=some r/\RL s β Y w cs l z ps
 |[],[],K,hk=>⟨[],[],[],hk,RL.nil⟩
 |[],_::_,K,hk=>by cases hk
 |_::_,[],K,hk=>by cases hk
 |t::ts,p::ps,K,hk=>by
  unfold NA at hk;obtain⟨c,q,z,E9,OA,hF,hq,hz,hv⟩:=ZM h hk;obtain⟨cs,l,zs,Hl,H⟩:=AE h E9;refine⟨c::cs,q::l,z++zs,?_,RL.cons OA hF hq hz hv H⟩;cases q<;>exact Hl
theorem OU(h:Cj N w0 X0 Y β s a w):∀{ts:List CT}{ws ps:Ab}{K:Ab->Cc->Cc->Option R},SA s.hp ts ws ps K=some r ->
  ∃cs l z,K cs (l.filterMap id) z=some r/\cs.length=ws.length/\RL s β Y w cs l z ps
 |[],[],[],K,hk=>⟨[],[],[],hk,rfl,RL.nil⟩
 |[],_::_,_,K,hk=>by cases hk
 |[],[],_::_,K,hk=>by cases hk
 |_::_,[],_,K,hk=>by cases hk
 |_::_,_::_,[],K,hk=>by cases hk
 |t::ts,x::ws,p::ps,K,hk=>by
  unfold SA at hk;obtain⟨c,q,z,E9,OA,hF,hq,hz,hv⟩:=ZM h hk;obtain⟨cs,l,zs,Hl,hl,H⟩:=OU h E9;refine⟨c::cs,q::l,z++zs,?_,by simp[hl],RL.cons OA hF hq hz hv H⟩;cases q<;>exact Hl
theorem Aio{own:Bt}{zz j:Nat}{p:PV}{u:Value}(hp:∀x,p ≠ .agg x/\p ≠ .pbox x)(h:Ik w A own j [p] [u]):Ax4 w A own zz j p u:=by cases p<;>first|exact h.1|exact absurd rfl (hp _).1|exact absurd rfl (hp _).2
theorem Al6(h:Cj N w0 X0 Y β s a w){id b o:Nat}{c cs:Ab}{l:List (Option Nat)}{z:Cc}(h0:s.hp id=some (.st c))(hβ:β id=some (b,o))(H:RL s β Y w cs l z c){fz:Cc}{A:Nat->Prop}(h1:∀i∈z,i∈fz)(h2:S7 s fz)(hA:∀b,A b->D2 (Al s.hp fz) β Y b){own:Bt}{j0:Nat}(H2:∀j,j<l.length->own (j0+j)=R1 β l j):Awb w A own j0 b o cs:=by
 obtain⟨b',o',Jq,Qm,hb3⟩:=h.box id _ h0;rw[hβ] at Jq;cases Jq;refine⟨c.mapIdx (fun j _=>(w.cell? ⟨b,o+j,none⟩).getD undef),H.sem fz A _ h1 h2 hA ?_ own j0 H2,?_,fun k hk=>hb3 k (by have:=H.pl;omega)⟩
 ·refine B9.of_at (by simp) fun j p v hp hv=>?_;obtain⟨u,hu,hcr⟩:=Qm j p hp;rw[List.getElem?_mapIdx,hp,Option.map_some,hu] at hv;simp at hv;subst hv;exact hcr
 ·intro k v hkv;rw[List.getElem?_mapIdx] at hkv;cases hp:c[k]? with
  |none=>rw[hp] at hkv;cases hkv
  |some p=>
   obtain⟨u,hu,hcr⟩:=Qm k p hp;rw[hp,Option.map_some,hu] at hkv;simp at hkv;subst hkv;exact hu
theorem Ao3(h:Cj N w0 X0 Y β s a w){shr:Bool}{t:TypeId}{p:PV}{u:Value}(hp:Fc w (D2 s.hp β Y) β p u){K:PV->Cc->Cc->Option R}(hk:Atv P shr s.hp t p K=some r):
  ∃v l z,K v (l.filterMap id) z=some r/\l.length=plc v/\Auk s l/\S7 s z /\
   ∀(fz:Cc) A zz,(∀i∈z,i∈fz)->S7 s fz->(∀b,A b->D2 (Al s.hp fz) β Y b)->(∀id c b o,some id∈l->s.hp id=some (.st c)->β id=some (b,o)->zz<=b) ->
    ∀own j0,(∀j,j<l.length->own (j0+j)=R1 β l j)->Ax4 w A own zz j0 v u:=by
 unfold Atv at hk;split at hk
 ·rename_i e he;split at hk
  ·rename_i id off;split at hk
   ·rename_i c h0;obtain⟨hof,E9⟩:=Az hk;have hof:=Et hof;subst hof;obtain⟨cs,l,z,Hl,H⟩:=AE h E9;obtain⟨b,o,hβ,hu⟩:=hp;refine⟨.pbox cs,some id::l,z,Hl,by simp only[plc,G7,H.len];omega,?_,H.row,fun fz A zz h1 h2 hA hz own j0 H2=>?_⟩
    ·intro i hi;rcases B6.1 hi with e|hi
     ·cases e;rw[h0];trivial
     ·obtain⟨c',AL⟩:=H.own i hi;rw[AL];trivial
    ·have h3:=H2 0 (by simp);rw[JF] at h3;refine⟨b,o,by rw[h3];exact hβ,hz id c b o (by simp) h0 hβ,by rw[hu,JF],Al6 h h0 hβ H h1 h2 hA fun j hj=>?_⟩
     have:=H2 (j+1) (by simp;omega)
     rw[show j0+1+j=j0+(j+1) by omega,this];simp[R1]
   ·cases hk
  ·cases hk
 ·cases Jl:Dd P t<;>rw[Jl] at hk<;>simp only[cond_true,cond_false] at hk
  ·obtain⟨cs,l,z,E9,H⟩:=AE h hk;obtain⟨c,cs',hcs,Hl⟩:=Br E9;subst hcs;obtain⟨RA,Xn⟩:=Fg Hl;subst RA;have OA:=H.na c (by simp);have hc1:plc c=1:=by cases c<;>first|rfl|exact absurd rfl (OA _).1|exact absurd rfl (OA _).2
   have hF:=H.fr p (by simp);refine⟨c,l,z,Xn,by rw[hc1];exact H.len,fun i hi=>?_,H.row,fun fz A zz h1 h2 hA _ own j0 H2=>Aio OA (H.sem fz A [u] h1 h2 hA ⟨?_,trivial⟩ own j0 H2)⟩
   ·obtain⟨c',AL⟩:=H.own i hi;rw[AL];trivial
   ·cases p<;>first|exact hp|exact hF.elim
  ·obtain⟨ps,PX,E9⟩:=Le hk;subst PX;obtain⟨cs,l,z,Hl,H⟩:=AE h E9;obtain⟨vs,hu,Xl⟩:=hp;refine⟨.agg cs,l,z,Hl,H.len,fun i hi=>?_,H.row,fun fz A zz h1 h2 hA _ own j0 H2=>⟨vs,hu,H.sem fz A vs h1 h2 hA Xl own j0 H2⟩⟩;obtain⟨c',AL⟩:=H.own i hi;rw[AL];trivial
def Acq(P:Program)(tmps:Array Value)(w:World)(rv:ResultVar)(u:Value):Prop:=
  (match rv with
   |.tmp t=>(pure (tmps.getD t undef):Sem Value)
   |.cell a t=>do loadVar t (<-asAddr (tmps.getD a undef))).run P w=.ok u w
theorem Aqy(h:Cj N w0 X0 Y β s a w)(t:Nat):Fc w (D2 s.hp β Y) β (s.tm t) (a.tmps.getD t undef):=by
 rcases Mi t N with h'|h'
 ·exact h.tms t h'
 ·rw[h.tmo t h'];exact Bd.top _
theorem Apw(h:Cj N w0 X0 Y β s a w){rv:ResultVar}{K:PV->Option R}(hk:As8 P s rv K=some r):∃p u,K p=some r/\Acq P a.tmps w rv u/\Fc w (D2 s.hp β Y) β p u:=by
 unfold As8 at hk;split at hk
 ·rename_i t;exact⟨_,_,hk,rfl,Aqy h t⟩
 ·rename_i x t;obtain⟨v,ad,val,E9,Ez,hl,hv,_⟩:=Aff h (Aqy h x) hk;refine⟨v,val,E9,?_,hv⟩;unfold Acq;simp[Ez,asAddr,hl]
theorem ID{l l':List (Option Nat)}{j:Nat}(h:j<l.length):R1 β (l++l') j=R1 β l j:=by unfold R1;rw[List.getElem?_append_left h]
theorem IF{l l':List (Option Nat)}{j:Nat}:R1 β (l++l') (l.length+j)=R1 β l' j:=by unfold R1;rw[List.getElem?_append_right (by omega),Nat.add_sub_cancel_left]
theorem UJ(h:Cj N w0 X0 Y β s a w){shr:Bool}:∀{rs:List ResultVar}{ts:List TypeId}{K:Ab->Cc->Cc->Option R},Adp P shr s rs ts K=some r ->
  ∃vs l z us,K vs (l.filterMap id) z=some r/\B9 (Acq P a.tmps w) rs us/\l.length=Vu vs/\Auk s l/\S7 s z /\
   ∀(fz:Cc) A zz,(∀i∈z,i∈fz)->S7 s fz->(∀b,A b->D2 (Al s.hp fz) β Y b)->(∀id c b o,some id∈l->s.hp id=some (.st c)->β id=some (b,o)->zz<=b) ->
    ∀own j0,(∀j,j<l.length->own (j0+j)=R1 β l j)->Amr w A own zz j0 vs us
 |[],[],K,hk=>⟨[],[],[],[],hk,trivial,rfl,(by intro id B5;cases B5),(by intro id B5;cases B5),fun _ _ _ _ _ _ _ _ _ _=>trivial⟩
 |[],_::_,K,hk=>by cases hk
 |_::_,[],K,hk=>by cases hk
 |rv::rs,t::ts,K,hk=>by
  unfold Adp at hk;obtain⟨p,u,E9,hu,hp⟩:=Apw h hk;obtain⟨v,l,z,Hl,hl,hL,hz,hv⟩:=Ao3 h hp E9;obtain⟨vs,l',z',us,Xn,hus,Q2,hL',hz',Xl⟩:=UJ h Hl;refine⟨v::vs,l++l',z++z',u::us,?_,⟨hu,hus⟩,by simp only[Fw,Vu,Sf,List.sum_cons,hl];rw[Q2];rfl,?_,?_,fun fz A zz h1 h2 hA Hc own j0 H2=>⟨?_,?_⟩⟩
  ·rw[List.filterMap_append];exact Xn
  ·intro id B5;rcases Bz.1 B5 with B5|B5
   ·exact hL id B5
   ·exact hL' id B5
  ·intro id B5;rcases Bz.1 B5 with B5|B5
   ·exact hz id B5
   ·exact hz' id B5
  ·exact hv fz A zz (fun i hi=>h1 i (by simp[hi])) h2 hA (fun id c b o hi=>Hc id c b o (by simp[hi])) own j0 fun j hj=>by rw[H2 j (by simp;omega),ID hj]
  ·refine Xl fz A zz (fun i hi=>h1 i (by simp[hi])) h2 hA (fun id c b o hi=>Hc id c b o (by simp[hi])) own (j0+plc v) fun j hj=>?_;rw[<-hl,Sb,H2 (l.length+j) (by simp;omega),IF]
theorem Z9(h:Cj N w0 X0 Y β s a w){bt:PA}(hpt:∀i,X0.pt i=bt i 0):∀{ts:List TypeId}{i:Nat}{ps:Ab}{K:List Ab->Cc->Cc->Cc->Option R},NV P N s.hp i ts ps K=some r ->
  (∀k p,ps[k]?=some p->KZ p=true->X0.pn (i+k)) ->
  ∃os l z q,K os (l.filterMap id) z q=some r/\(∀id,some id∈l->∃c,s.hp id=some (.ar false c))/\S7 s z/\(∀id∈q,C8 (s.hp id))/\(∀k p,ps[k]?=some p->KZ p=true->Ec N (i+k)∈q) /\
   ∀(fz:Cc) A,(∀i∈z,i∈fz)->S7 s fz->(∀i∈q,i ∉ fz)->(∀b,A b->D2 (Al s.hp fz) β Y b) ->
    ∀own j0,(∀j,j<l.length->own (j0+j)=R1 β l j)->GR w A own bt j0 i ps os
 |[],i,ps,K,hk,_=>by
  obtain⟨PX,hk⟩:=Fg hk;subst PX;exact⟨[],[],[],[],hk,by simp,(by intro id B5;cases B5),by simp,by simp,fun _ _ _ _ _ _ _ _ _=>rfl⟩
 |t::ts,i,ps,K,hk,hpn=>by
  unfold NV at hk;obtain⟨p,ps',PX,E9⟩:=Br hk;subst PX
  have A1f:∀k p,ps'[k]?=some p->KZ p=true->X0.pn (i+1+k):=fun k p' h1 h2=>by
   have:=hpn (k+1) p' (by simpa using h1) h2;rw[show i+1+k=i+(k+1) by omega];exact this
  have hpq:∀{q:Cc},(KZ p=true->Ec N i∈q)->(∀k p,ps'[k]?=some p->KZ p=true->Ec N (i+1+k)∈q)->∀k p',(p::ps')[k]?=some p'->KZ p'=true->Ec N (i+k)∈q:=by
   intro q h1 h2 k p' h3 h4;cases k with
   |zero=>
    simp only[List.getElem?_cons_zero,Option.some.injEq] at h3;subst h3;exact h1 h4
   |succ k=>
    have:=h2 k p' (by simpa using h3) h4;rw[show i+1+k=i+(k+1) by omega] at this;exact this
  split at E9
  ·rename_i ws;obtain⟨e,he,Hl⟩:=Ed E9;split at Hl
   ·rename_i c h0;obtain⟨cs,l,z,Xn,BW,H⟩:=OU h Hl;obtain⟨os,l',z',q,Xq,hL',hz',I4,hpi,hv⟩:=Z9 h hpt Xn A1f;refine⟨cs::os,l++l',z++z',Ec N i::q,by rw[List.filterMap_append];exact Xq,?_,?_,?_,hpq (fun _=>LU) (fun k p h1 h2=>Sh _ (hpi k p h1 h2)),fun fz A h1 h2 h3 hA own j0 H2=>?_⟩
    ·intro id B5;rcases Bz.1 B5 with B5|B5
     ·exact H.own id B5
     ·exact hL' id B5
    ·intro id B5;rcases Bz.1 B5 with B5|B5
     ·exact H.row id B5
     ·exact hz' id B5
    ·intro id B5;rcases B6.1 B5 with rfl|B5
     ·rw[h0];trivial
     ·exact I4 id B5
    ·have DX:=(h.pin i (by have:=hpn 0 _ rfl rfl;rwa [JF] at this)).2
     obtain⟨b,o,Jq,_,_⟩:=h.box _ _ h0;rw[Jq,hpt] at DX;refine⟨⟨b,o,DX.symm,BW,Al6 h h0 Jq H (fun i hi=>h1 i (by simp[hi])) h2 hA fun j hj=>by rw[H2 j (by simp;omega),ID hj]⟩,?_⟩
     refine hv fz A (fun i hi=>h1 i (by simp[hi])) h2 (fun i hi=>h3 i (by simp[hi])) hA own (j0+cs.length) fun j hj=>?_;rw[<-H.len,Sb,H2 (l.length+j) (by simp;omega),IF]
   ·cases Hl
  ·split at E9
   ·rename_i c h0;obtain⟨os,l',z',q,Xq,hL',hz',I4,hpi,hv⟩:=Z9 h hpt E9 A1f;refine⟨c::os,l',z',Ec N i::q,Xq,hL',hz',?_,hpq (fun _=>LU) (fun k p h1 h2=>Sh _ (hpi k p h1 h2)),fun fz A h1 h2 h3 hA own j0 H2=>⟨?_,hv fz A h1 h2 (fun i hi=>h3 i (by simp[hi])) hA own j0 H2⟩⟩
    ·intro id B5;rcases B6.1 B5 with rfl|B5
     ·rw[h0];trivial
     ·exact I4 id B5
    ·have DX:=(h.pin i (by have:=hpn 0 _ rfl rfl;rwa [JF] at this)).2
     rw[hpt] at DX;rcases h.box _ _ h0 with⟨h4,h5⟩|⟨b,o,h4,h5,h6,_⟩
     ·exact .inl ⟨by rw[<-DX];exact h4,h5⟩
     ·exact .inr ⟨b,o,by rw[<-DX];exact h4,h5.weak (fun b _ hb=>Un (hA b hb)),h6 rfl⟩
   ·cases E9
  ·rename_i hn1 hn2;have hnL:KZ p=false:=by cases p<;>first|rfl|exact absurd rfl (hn1 _)|exact absurd rfl (hn2 _)
   obtain⟨os,l',z',q,Xq,hL',hz',I4,hpi,hv⟩:=Z9 h hpt E9 A1f;refine⟨os,l',z',q,Xq,hL',hz',I4,hpq (fun e=>by rw[hnL] at e;cases e) hpi,fun fz A h1 h2 h3 hA own j0 H2=>?_⟩
   have:=hv fz A h1 h2 h3 hA own j0 H2;cases p<;>first|exact this|cases hnL
theorem Af1{f:ResultVar->Sem Value}:∀{rs:List ResultVar}{us:List Value},B9 (fun rv u=>(f rv).run P w=.ok u w) rs us->(rs.mapM f).run P w=.ok us w
 |[],[],_=>by simp
 |[],_::_,h=>h.elim
 |_::_,[],h=>h.elim
 |rv::rs,u::us,h=>by
  rw[List.mapM_cons];simp[h.1,Af1 h.2]
theorem Agy{fn:Func}{us:List Value}(h:B9 (Acq P a.tmps w) fn.results.toList us):(results fn a.tmps).run P w=.ok (Nj us) w:=by
 unfold results;rw[Array.mapM_eq_mapM_toList];simp only[map_eq_pure_bind,bind_assoc,pure_bind,Sem.run_bind];refine Eq.trans (congrArg (fun x=>Result.andThen x _) (Af1 h)) ?_;simp only[Result.andThen_ok,Sem.run_pure]
 congr 1
 clear h
 match us with
 |[]=>rfl
 |[u]=>rfl
 |u::v::us=>exact dif_neg (by simp)
theorem Aek:∀{l:List (Option Nat)},Gd (l.filterMap id)=true->∀{j j' i:Nat},l[j]?=some (some i)->l[j']?=some (some i)->j=j'
 |[],_,j,j',i,h,_=>by simp at h
 |q::l,hn,j,j',i,h,h'=>by
  have hn':Gd (l.filterMap id)=true:=by
   cases q with
   |none=>exact hn
   |some x=>
    simp only[List.filterMap_cons,id_eq,Gd,G8] at hn;exact hn.2
  have hq:∀(x k:Nat),q=some x->l[k]?≠some (some x):=by
   intro x k e hk;subst e;simp only[List.filterMap_cons,id_eq,Gd,G8,Bool.not_eq_true'] at hn;exact AR hn.1 (List.mem_filterMap.2 ⟨some x,List.mem_of_getElem? hk,rfl⟩)
  cases j with
  |zero=>
   cases j' with
   |zero=>rfl
   |succ k'=>
    simp at h h';exact absurd h' (hq i k' h)
  |succ k=>
   cases j' with
   |zero=>
    simp at h h';exact absurd h (hq i k h')
   |succ k'=>
    simp at h h';rw[Aek hn' h h']
theorem EK{C:Kk}{f:FuncId}{fn:Func}{args:Ab}{res:D0}{w:World}{Y:Nat->Prop}{bt:PA}{us:List Value}(EN:Ins w Y bt args us){h8:∀k p,args[k]?=some p->KZ p=true->k<8}{s':St}{a':Act}{w':World}{β':Bt}(hr:Afy C P f fn args s'=some res)(h:Cj fn.ntmps w (HK bt args h8) Y β' s' a' w'):
  a'.defers=[]/\∃v,(results fn a'.tmps).run P w'=.ok v w'/\∃vs own,Ending.returned v=.returned (Nj vs)/\Out w w' Y bt args own res vs:=by
 unfold Afy at hr;obtain⟨vs,l,z,us',hr1,hus,hll,hL,hz,hv⟩:=UJ h hr;obtain⟨os,l',z',q,hr2,hL',hz',hq,hpi,Wc⟩:=Z9 h (bt:=bt) (fun _=>rfl) hr1 (fun k p h1 h2=>by rw[Cm];exact⟨p,h1,h2⟩)
 obtain⟨XJ,hr3⟩:=Az hr2;cases hr3;simp only[G8] at XJ;obtain⟨XJ,A1j⟩:=XJ;obtain⟨hn1,hn2,hn3⟩:=Ng XJ
 have OQ:∀i∈z++z',i ∉ (l.filterMap id++l'.filterMap id)++q:=by
  intro i hi M4;have:=List.all_eq_true.1 A1j i hi;have h2:((l.filterMap id++l'.filterMap id)++q).any (Nat.beq i)=true:=List.any_eq_true.2 ⟨i,M4,Pu i⟩;rw[h2] at this;cases this
 have Am4:S7 s' (z++z'):=by
  intro i hi;rcases Bz.1 hi with hi|hi
  ·exact hz i hi
  ·exact hz' i hi
 refine⟨h.dfr,Nj us',Agy hus,us',R1 β' (l++l'),rfl,?_⟩;have Bb2:Gd ((l++l').filterMap id)=true:=by rw[List.filterMap_append];exact hn1
 have H2:∀j b o,R1 β' (l++l') j=some (b,o)->∃id,(l++l')[j]?=some (some id)/\β' id=some (b,o):=by
  intro j b o hj;unfold R1 at hj;cases hlj:(l++l')[j]? with
  |none=>rw[hlj] at hj;cases hj
  |some q=>
   cases q with
   |none=>rw[hlj] at hj;cases hj
   |some id=>
    rw[hlj] at hj;exact⟨id,rfl,hj⟩
 have Qr:∀(j i:Nat),(l++l')[j]?=some (some i)->i∈l.filterMap id++l'.filterMap id:=by
  intro j i hj;rw[<-List.filterMap_append];exact List.mem_filterMap.2 ⟨some i,List.mem_of_getElem? hj,rfl⟩
 have Kc:∀(j i:Nat),(l++l')[j]?=some (some i)->C8 (s'.hp i):=by
  intro j i hj;rcases Bz.1 (List.mem_of_getElem? hj) with M4|M4
  ·exact hL i M4
  ·obtain⟨c,hc⟩:=hL' i M4;rw[hc];trivial
 have A0h:∀i,i∈(l.filterMap id++l'.filterMap id)++q->Al s'.hp (z++z') i=s'.hp i:=by
  intro i hi;rw[C5,A5 (fun M4=>OQ i M4 hi)]
 have Az0:∀i b o,bt i 0=some (b,o)->Ec fn.ntmps i∈q/\C8 (s'.hp (Ec fn.ntmps i))/\β' (Ec fn.ntmps i)=some (b,o):=by
  intro i b o XC;obtain⟨p,h1,h2⟩:=EN.l0 i _ XC;have h3:=hpi i p h1 h2;rw[Cm] at h3;exact⟨h3,hq _ h3,(h.pin i ⟨p,h1,h2⟩).2.trans XC⟩
 have hAO:∀b,VV bt (R1 β' (l++l')) Y b->D2 (Al s'.hp (z++z')) β' Y b:=by
  rintro b (⟨j,o,hj⟩|⟨i,o,XC⟩|hY)
  ·obtain⟨id,h1,h2⟩:=H2 j b o hj;refine .inl ⟨id,o,?_,h2⟩;rw[A0h id (Bz.2 (.inl (Qr j id h1)))];exact Kc j id h1
  ·obtain⟨h1,h2,h3⟩:=Az0 i b o XC;refine .inl ⟨_,o,?_,h3⟩;rw[A0h _ (Bz.2 (.inr h1))];exact h2
  ·exact .inr hY
 have IM:∀(j id b o:Nat),(l++l')[j]?=some (some id)->β' id=some (b,o)->b<w.heap.size->∃i k o',bt i (k+1)=some (b,o'):=by
  intro j id b o hj hβ Cq;rcases h.ownd b ⟨id,o,Kc j id hj,hβ⟩ with⟨i,k,o',XC⟩|hge
  ·cases k with
   |zero=>
    obtain⟨h1,h2,h3⟩:=Az0 i b o' XC;have:=h.inj id _ b o o' (Kc j id hj) h2 hβ h3;subst this;exact absurd h1 (hn3 _ (Qr j _ hj))
   |succ k=>exact⟨i,k,o',XC⟩
  ·omega
 refine⟨h.fr.os,h.fr.tape,h.fr.output,h.fr.step,h.fr.rng,?_,?_,?_,?_⟩
 ·refine hv (z++z') _ _ (fun i hi=>Bz.2 (.inl hi)) Am4 hAO (fun id c b o hi hc hβ=>?_) _ 0 (fun j hj=>by rw[Cm,ID hj]);rcases Mi b w.heap.size with Cq|hge
  ·obtain⟨k,J6,p,h1,h2⟩:=h.stp id c b o hc hβ Cq;have h3:=hpi k p h1 h2;rw[Cm,<-J6] at h3;obtain⟨j,hj⟩:=List.mem_iff_getElem?.1 hi;refine absurd h3 (hn3 id ?_);exact Bz.2 (.inl (List.mem_filterMap.2 ⟨some id,hi,rfl⟩))
  ·exact hge
 ·refine Wc (z++z') _ (fun i hi=>Bz.2 (.inr hi)) Am4 (fun i hi M4=>OQ i M4 (Bz.2 (.inr hi))) hAO _ _ (fun j hj=>?_);rw[<-hll,IF]
 ·intro j b o hj;obtain⟨id,h1,h2⟩:=H2 j b o hj;refine⟨h.blt id b o (D7 (Kc j id h1)) h2,fun Cq=>⟨IM j id b o h1 h2 Cq,fun x hx=>?_⟩⟩;cases Pr:s'.hp id with
  |none=>have:=Kc j id h1;rw[Pr] at this;exact this.elim
  |some bx=>
   have MQ:=Kc j id h1;rw[Pr] at MQ;cases bx with
   |st c=>
    obtain⟨k,J6,p,h3,h4⟩:=h.stp id c b o Pr h2 Cq;have h5:=hpi k p h3 h4;rw[Cm,<-J6] at h5;exact absurd h5 (hn3 _ (Qr j _ h1))
   |ar fz c=>exact h.rngB id _ b o Pr MQ h2 Cq x hx
   |mv=>exact MQ.elim
 ·intro j j' b o o' hj BX;obtain⟨id,h1,h2⟩:=H2 j b o hj;obtain⟨id',ZY,h2'⟩:=H2 j' b o' BX;have:=h.inj id id' b o o' (Kc j id h1) (Kc j' id' ZY) h2 h2';subst this;exact Aek Bb2 h1 ZY
theorem WC{G:Zg}(Ks:NoNG P)(hm:P.follows .mixedOrders=true){C:Kk}{fu:Nat}{call:Bp}(Dl:∀f args res,call f args=some res->Do G P f args res){f:FuncId}{fn:Func}{c:Code}(hf:P.funcs[f]?=some fn)(hb:fn.body=some c){args:Ab}{res:D0}(hk:Ayk C P fu call f fn c args=some res):Do G P f args res:=by
 refine⟨⟨fn,hf,by rw[hb];rfl⟩,fun w Y bt us EN hG hGY=>?_⟩
 unfold Ayk at hk;obtain⟨tms,bs,E9,Hc⟩:=NK EN hk;obtain⟨Jq,Hl⟩:=Az E9;simp only[G8] at Jq
 have Hr:us.length<=fn.ntmps:=by
  rw[<-EN.args.len];exact Xx Jq.1
 obtain⟨h8,β0,hs⟩:=Hc Jq.2 Hr;refine calls_of_wp hf hb ?_;have hE:QL P G w (HK bt args h8):=⟨Ks,fun w' YQ=>G.stable w w' (fun b hb Cq=>YQ.step.keep b Cq (hGY b hb).2) hG,hGY⟩
 refine HL hE Dl hm c hs Hl (fun s' a' w' β' hr h=>EK EN hr h) (fun id s' a' w' β' hr h=>by cases hr) (fun s' a' w' β' hr h=>EK EN hr h)
def Amt(G:Zg)(P:Program)(C:Kk):Prop:=∀f g args res,C.ext f=some g->g args=some res->Do G P f args res
theorem CY{G:Zg}(Ks:NoNG P)(hm:P.follows .mixedOrders=true){C:Kk}(hx:Amt G P C){fu:Nat}:∀(d:Nat)(f:FuncId)(args:Ab)(res:D0),Ar C P fu d f args=some res->Do G P f args res
 |0,_,_,_,h=>by cases h
 |d+1,f,args,res,h=>by
  unfold Ar at h;split at h
  ·rename_i g hg;exact hx f g args res hg h
  ·split at h
   ·cases h
   ·rename_i fn hf;split at h
    ·cases h
    ·rename_i c hb;exact WC Ks hm (CY Ks hm hx d) hf hb h
end
open Go.ChangeShapes Go.WideShapes Go.ChangeAt Go.RowKit Go.Deep
def Adn(P:Program):List Field->Nat->Nat->Bool
 |[],i,n=>Nat.beq i n
 |f::r,i,n=>Nat.beq f.offset i&&Adn P r (i+P.cellsOf f.type) n
def Ti(P:Program):Nat->TypeId->Bool
 |0,_=>false
 |d+1,t=>
  match P.underlying t with
  |some .bool=>true
  |some (.int _)=>true
  |some .string=>true
  |some (.slice e)=>Ti P d e&&Nat.blt 0 (P.cellsOf e)
  |some (.struct fs)=>Adn P fs.toList 0 (P.cellsOf t)&&fs.toList.all fun f=>Ti P d f.type
  |some (.array n e)=>Nat.beq (P.cellsOf t) (n*P.cellsOf e)&&Ti P d e
  |_=>false
def WT(P:Program):Nat->TypeId->Ab->Prop
 |0,_,_=>False
 |d+1,t,ps=>
  match P.underlying t with
  |some .bool=>∃b,ps=[.sc (.bool b)]
  |some (.int k)=>∃n,ps=[.sc (.int k n)]/\(Lit.int k n).wf=true
  |some .string=>∃s:ByteArray,ps=[.sc (.string s)]/\s.size<=maxLen
  |some (.slice e)=>∃rows:List Ab,ps=[.lst false (P.cellsOf e) rows.length rows.flatten]/\rows.length<=maxLen/\∀r∈rows,r.length=P.cellsOf e/\WT P d e r
  |some (.struct fs)=>∃rows:List Ab,ps=rows.flatten/\B9 (fun f r=>WT P d f.type r) fs.toList rows
  |some (.array n e)=>∃rows:List Ab,ps=rows.flatten/\rows.length=n/\∀r∈rows,r.length=P.cellsOf e/\WT P d e r
  |_=>False
def WTv(P:Program)(t:TypeId)(p:PV):Prop:=
 match Dd P t with
 |true=>∃ps,p=.agg ps/\WT P 12 t ps
 |false=>WT P 12 t [p]
section
variable {P:Program}{d:Nat}{t e:TypeId}{ps:Ab}
theorem Ayg(hu:P.underlying t=some .bool):WT P (d+1) t ps↔∃b,ps=[.sc (.bool b)]:=by show (match P.underlying t with|some .bool=>_|some (.int k)=>_|some .string=>_|some (.slice e)=>_|some (.struct fs)=>_|some (.array n e)=>_|_=>_)↔_;rw[hu]
theorem Ask{k:IntKind}(hu:P.underlying t=some (.int k)):WT P (d+1) t ps↔∃n,ps=[.sc (.int k n)]/\(Lit.int k n).wf=true:=by show (match P.underlying t with|some .bool=>_|some (.int k)=>_|some .string=>_|some (.slice e)=>_|some (.struct fs)=>_|some (.array n e)=>_|_=>_)↔_;rw[hu]
theorem Aox(hu:P.underlying t=some .string):WT P (d+1) t ps↔∃s:ByteArray,ps=[.sc (.string s)]/\s.size<=maxLen:=by show (match P.underlying t with|some .bool=>_|some (.int k)=>_|some .string=>_|some (.slice e)=>_|some (.struct fs)=>_|some (.array n e)=>_|_=>_)↔_;rw[hu]
theorem Afx(hu:P.underlying t=some (.slice e)):WT P (d+1) t ps↔∃rows:List Ab,ps=[.lst false (P.cellsOf e) rows.length rows.flatten]/\rows.length<=maxLen/\∀r∈rows,r.length=P.cellsOf e/\WT P d e r:=by show (match P.underlying t with|some .bool=>_|some (.int k)=>_|some .string=>_|some (.slice e)=>_|some (.struct fs)=>_|some (.array n e)=>_|_=>_)↔_;rw[hu]
theorem Anl{fs:Array Field}(hu:P.underlying t=some (.struct fs)):WT P (d+1) t ps↔∃rows:List Ab,ps=rows.flatten/\B9 (fun f r=>WT P d f.type r) fs.toList rows:=by show (match P.underlying t with|some .bool=>_|some (.int k)=>_|some .string=>_|some (.slice e)=>_|some (.struct fs)=>_|some (.array n e)=>_|_=>_)↔_;rw[hu]
theorem Avf{n:Nat}(hu:P.underlying t=some (.array n e)):WT P (d+1) t ps↔∃rows:List Ab,ps=rows.flatten/\rows.length=n/\∀r∈rows,r.length=P.cellsOf e/\WT P d e r:=by show (match P.underlying t with|some .bool=>_|some (.int k)=>_|some .string=>_|some (.slice e)=>_|some (.struct fs)=>_|some (.array n e)=>_|_=>_)↔_;rw[hu]
end
inductive Ki where
 |bool
 |int (k:IntKind)
 |str
 |sl (e:TypeId)
 |st (ts:List TypeId)
 |ar (n:Nat) (e:TypeId)
 |no
def DH(P:Program)(t:TypeId):Ki:=
 match P.underlying t with
 |some .bool=>.bool
 |some (.int k)=>.int k
 |some .string=>.str
 |some (.slice e)=>.sl e
 |some (.struct fs)=>.st (fs.toList.map (·.type))
 |some (.array n e)=>.ar n e
 |_=>.no
section
variable {P:Program}{d:Nat}{t e:TypeId}{ps:Ab}{p:PV}
theorem B9.cons_inv{α β:Type}{R:α->β->Prop}{a:α}{zs:List α}:∀{rs:List β},B9 R (a::zs) rs->∃r rs',rs=r::rs'/\R a r/\B9 R zs rs'
 |[],h=>h.elim
 |r::rs,h=>⟨r,rs,rfl,h.1,h.2⟩
theorem B9.nil_inv{α β:Type}{R:α->β->Prop}:∀{rs:List β},B9 R ([]:List α) rs->rs=[]
 |[],_=>rfl
 |_::_,h=>h.elim
theorem A24{k:IntKind}(hk:DH P t=.int k)(h:WT P d t ps):∃n,ps=[.sc (.int k n)]/\(Lit.int k n).wf=true:=by
 cases d with
 |zero=>exact h.elim
 |succ d=>
 unfold DH at hk;split at hk<;>first|cases hk|skip
 rename_i hu;exact (Ask hu).1 h
theorem A7g(hk:DH P t=.sl e)(h:WT P d t ps):∃rows:List Ab,ps=[.lst false (P.cellsOf e) rows.length rows.flatten]/\rows.length<=maxLen/\∀r∈rows,r.length=P.cellsOf e/\WT P (d-1) e r:=by
 cases d with
 |zero=>exact h.elim
 |succ d=>
 rw[Nat.add_sub_cancel];unfold DH at hk;split at hk<;>first|cases hk|skip
 rename_i hu;exact (Afx hu).1 h
theorem Ay8(hk:Dd P t=false)(h:WTv P t p):WT P 12 t [p]:=by unfold WTv at h;rw[hk] at h;exact h
theorem QH{α:Type}(f:α->Ab)(Q:α->Prop):∀{rows:List Ab},(∀r∈rows,∃x,r=f x/\Q x)->∃xs:List α,rows.flatten=xs.flatMap f/\rows.length=xs.length/\∀x∈xs,Q x
 |[],_=>⟨[],rfl,rfl,by simp⟩
 |r::rows,h=>by
  obtain⟨x,h1,h2⟩:=h r (by simp);obtain⟨xs,h3,h4,h5⟩:=QH (rows:=rows) f Q fun r hr=>h r (by simp[hr]);refine⟨x::xs,by simp[h1,h3],by simp[h4],fun y hy=>?_⟩;rcases B6.1 hy with rfl|hy
  ·exact h2
  ·exact h5 y hy
end
abbrev No:Nat->Prop:=fun _=>False
section
variable {H:Type}{enc:TypeId × Value->H}{P:Program}{w:World}{base:Nat}{held:Bool}
theorem B9.flat{α β:Type}{R:α->β->Prop}:∀{l:Cc}{f:Nat->List α}{g:Nat->List β},(∀i∈l,B9 R (f i) (g i))->B9 R (l.map f).flatten (l.map g).flatten
 |[],_,_,_=>trivial
 |i::l,f,g,h=>by
  simp only[Sf,List.flatten_cons];exact (h i (by simp)).app (B9.flat fun j hj=>h j (by simp[hj]))
theorem Apt{a:Addr}{v:Value}(h:w.cell? a=some v):a.spot=none/\a.block<w.heap.size:=by
 unfold World.cell? at h;split at h
 ·rename_i c t f e;refine⟨?_,?_⟩
  ·cases hs:a.spot with
   |none=>rfl
   |some x=>rw[hs] at h;simp at h
  ·rcases Mi a.block w.heap.size with h1|h1
   ·exact h1
   ·rw[Array.getElem?_eq_none h1] at e;cases e
 ·cases h
theorem UB{α:Type}{g:Nat->List α}{es:Nat}:∀{n:Nat},(∀i,i<n->(g i).length=es)->((List.range n).map g).flatten.length=n*es
 |0,_=>by simp
 |n+1,h=>by
  rw[List.range_succ,List.map_append,List.flatten_append,Fw,UB (fun i hi=>h i (by omega))];simp[h n (by omega),Nat.succ_mul]
theorem TX{a:Addr}{g:Nat->List Value}{es:Nat}:∀{n:Nat},(∀i,i<n->(g i).length=es)->(∀i,i<n->∀k,k<es->w.cell? (a.add (i*es+k))=(g i)[k]?) ->
  ∀j,j<n*es->w.cell? (a.add j)=(((List.range n).map g).flatten)[j]?
 |0,_,_,j,hj=>by omega
 |n+1,hl,hc,j,hj=>by
  have hfl:=UB (fun i (hi:i<n)=>hl i (by omega));rw[List.range_succ,List.map_append,List.flatten_append,List.getElem?_append,hfl];rw[Nat.succ_mul] at hj;split
  ·rename_i h1;exact TX (fun i hi=>hl i (by omega)) (fun i hi=>hc i (by omega)) j h1
  ·rename_i h1;have:=hc n (by omega) (j-n*es) (by omega);rw[show n*es+(j-n*es)=j by omega] at this
   simpa using this
abbrev TR(w:World)(c:PV)(v:Value):Prop:=(GS c/\Bd w No c v)/\v.oneCell'=true
theorem PT{d:Nat}{cs:List Value}{n:Nat}(hn:cs.length=n):∀(l:List Field)(i:Nat),Adn P l i n=true ->
  (∀f∈l,∃ps,WT P d f.type ps/\B9 (TR w) ps ((cs.drop f.offset).take (P.cellsOf f.type)))->∃rows:List Ab,B9 (fun f r=>WT P d f.type r) l rows/\B9 (TR w) rows.flatten (cs.drop i)
 |[],i,ho,_=>by
  have:=Et ho;refine⟨[],trivial,?_⟩;rw[List.drop_of_length_le (by omega)];trivial
 |f::l,i,ho,h=>by
  simp only[Adn,G8] at ho;have ho1:=Et ho.1;obtain⟨ps,h1,h2⟩:=h f (by simp);obtain⟨rows,h3,h4⟩:=PT hn l _ ho.2 fun g hg=>h g (by simp[hg]);refine⟨ps::rows,⟨h1,h3⟩,?_⟩;rw[ho1] at h2;have:cs.drop i=(cs.drop i).take (P.cellsOf f.type)++cs.drop (i+P.cellsOf f.type):=by rw[<-List.drop_drop];exact (List.take_append_drop _ _).symm
  rw[this,List.flatten_cons];exact h2.app h4
theorem WI{d:Nat}{e:TypeId}{cs:List Value}{k:Nat}:∀(n:Nat),n*k<=cs.length ->
  (∀i,i<n->∃ps,(ps.length=k/\WT P d e ps)/\B9 (TR w) ps ((cs.drop (i*k)).take k))->∃rows:List Ab,rows.length=n/\(∀r∈rows,r.length=k/\WT P d e r)/\B9 (TR w) rows.flatten (cs.take (n*k))
 |0,_,_=>⟨[],rfl,by simp,by simp[B9]⟩
 |n+1,hl,h=>by
  rw[Nat.succ_mul] at hl;obtain⟨rows,h1,h2,h3⟩:=WI n (by omega) fun i hi=>h i (by omega);obtain⟨ps,h4,h5⟩:=h n (by omega);refine⟨rows++[ps],by simp[h1],?_,?_⟩
  ·intro r hr;rcases Bz.1 hr with hr|hr
   ·exact h2 r hr
   ·rw[Mv.1 hr];exact h4
  ·rw[List.flatten_append,Nat.succ_mul,List.take_add];refine h3.app ?_
   simpa using h5
theorem EV:∀(d:Nat)(t:TypeId),Ti P d t=true->∀(fuel:Nat)(cs:List Value)(x:DataW H × List MemPlace),DataW.trod enc P w base (fun _=>true) held fuel t cs=some x ->
  ∃ps,WT P d t ps/\B9 (TR w) ps cs
 |0,_,h,_,_,_,_=>by cases h
 |d+1,t,hp,fuel,cs,x,h=>by
  unfold Ti at hp;split at hp
  ·rename_i hu;obtain⟨b,rfl,_⟩:=DataW.trod_bool hu h;simp only[Ayg hu];exact⟨[.sc (.bool b)],⟨b,rfl⟩,⟨⟨trivial,Bd.sc _⟩,rfl⟩,trivial⟩
  ·rename_i k hu;obtain⟨n,rfl,_,hw⟩:=DataW.trod_int hu h;simp only[Ask hu];exact⟨[.sc (.int k n)],⟨n,rfl,hw⟩,⟨⟨trivial,Bd.sc _⟩,rfl⟩,trivial⟩
  ·rename_i hu;obtain⟨s,rfl,_,hw⟩:=DataW.trod_string hu h;simp only[Aox hu];exact⟨[.sc (.string s)],⟨s,rfl,hw⟩,⟨⟨trivial,Bd.sc _⟩,rfl⟩,trivial⟩
  ·rename_i e hu;simp only[G8] at hp;have QD:0<P.cellsOf e:=Nat.lt_of_succ_le (Xx hp.2);simp only[Afx hu];rcases open_slice hu h with⟨rfl,_⟩|⟨a,len,cap,m,n,D,Pl,rfl,_,hl,hm,hmm,_,hi⟩
   ·exact⟨[.lst false (P.cellsOf e) 0 []],⟨[],by simp,by simp,by simp⟩,⟨⟨trivial,Bd.lnil _ _⟩,rfl⟩,trivial⟩
   ·simp only[if_true] at hmm;subst hmm
    have hi':∀i,i<len->∃q:Ab × List Value,(q.2.length=P.cellsOf e/\(∀k,k<P.cellsOf e->w.cell? (a.add (i*P.cellsOf e+k))=q.2[k]?))/\WT P d e q.1/\B9 (TR w) q.1 q.2:=by
     intro i Cq;obtain⟨cs',hc,ht⟩:=hi i (by omega);obtain⟨_,BW,hat⟩:=World.cells?_some hc;obtain⟨ps,h1,h2⟩:=EV d e hp.1 _ _ _ ht;exact⟨(ps,cs'),⟨BW,fun k hk=>by rw[<-Pv.add_add];exact hat k hk⟩,h1,h2⟩
    obtain⟨F,hF⟩:=choose_lt hi';refine⟨[.lst false (P.cellsOf e) len ((List.range len).map fun i=>(F i).1).flatten],⟨(List.range len).map fun i=>(F i).1,by simp,by simp;omega,?_⟩,⟨⟨trivial,?_⟩,rfl⟩,trivial⟩
    ·intro r hr;obtain⟨i,hi1,rfl⟩:=List.mem_map.1 hr;have hi2:=List.mem_range.1 hi1;exact⟨by rw[(hF i hi2).2.2.len];exact (hF i hi2).1.1,(hF i hi2).2.1⟩
    ·rcases Nat.eq_zero_or_pos len with h0|h0
     ·subst h0;exact Bd.lemp _ _ _
     ·have Zr:B9 (TR w) ((List.range len).map fun i=>(F i).1).flatten ((List.range len).map fun i=>(F i).2).flatten:=B9.flat fun i hi=>(hF i (List.mem_range.1 hi)).2.2;have hcell:=TX (w:=w) (a:=a) (g:=fun i=>(F i).2) (fun i hi=>(hF i hi).1.1) (fun i hi=>(hF i hi).1.2);have Hr:=UB (g:=fun i=>(F i).2) (fun i (hi:i<len)=>(hF i hi).1.1)
      have h00:w.cell? a≠none:=by
       have:=hcell 0 (Nat.mul_pos h0 QD);rw[show a.add 0=a by unfold Addr.add;simp] at this
       rw[this,List.getElem?_eq_getElem (by rw[Hr];exact Nat.mul_pos h0 QD)]
       simp
      obtain⟨v0,hv0⟩:=Option.ne_none_iff_exists'.1 h00;obtain⟨hs,hb⟩:=Apt hv0
      have key:∀j c,(((List.range len).map fun i=>(F i).1).flatten)[j]?=some c->∃v,w.cell? (a.add j)=some v/\TR w c v:=by
       intro j c hj
       have hlj:j<len*P.cellsOf e:=by
        rw[<-Hr,<-Zr.len];rcases Mi j (((List.range len).map fun i=>(F i).1).flatten).length with h1|h1
        ·exact h1
        ·rw[List.getElem?_eq_none h1] at hj;cases hj
       have h1:=hcell j hlj;rw[List.getElem?_eq_getElem (by rw[Hr];exact hlj)] at h1
       exact⟨_,h1,Zr.at_ hj (List.getElem?_eq_getElem (by rw[Hr];exact hlj))⟩
      refine Bd.lst _ _ _ a _ (fun j=>(w.cell? (a.add j)).getD undef) hs hb (fun h=>h) hl (fun j c hj=>?_) (fun j c hj=>?_) (fun j c hj=>?_)
      ·obtain⟨v,hv,_⟩:=key j c hj;rw[hv];rfl
      ·obtain⟨v,hv,ht⟩:=key j c hj;rw[hv];exact ht.2
      ·obtain⟨v,hv,ht⟩:=key j c hj;rw[hv];exact ht.1.2
  ·rename_i fs hu;simp only[G8] at hp;simp only[Anl hu];obtain⟨xs,n,_,_,Hr,hxl,hf⟩:=DataW.trod_struct hu h
   obtain⟨rows,h1,h2⟩:=PT (P:=P) (w:=w) (d:=d) Hr fs.toList 0 hp.1 fun f hf'=>by
    obtain⟨i,hi⟩:=List.mem_iff_getElem?.1 hf';have hi':fs[i]?=some f:=by simpa using hi
    have Cq:i<fs.size:=(Array.getElem?_eq_some_iff.1 hi').1;have h3:=hf i f hi';rw[List.getElem?_eq_getElem (by omega)] at h3;exact EV d f.type (List.all_eq_true.1 hp.2 f hf') _ _ _ h3
   exact⟨_,⟨rows,rfl,h1⟩,by simpa using h2⟩
  ·rename_i n e hu;simp only[G8] at hp;simp only[Avf hu];obtain⟨xs,m,_,_,Hr,hxl,hf⟩:=DataW.trod_array hu h;have Kz:=Et hp.1
   obtain⟨rows,h1,h2,h3⟩:=WI (P:=P) (w:=w) (d:=d) (e:=e) (cs:=cs) (k:=P.cellsOf e) n (by omega) fun i hi=>by
    have h3:=hf i hi;rw[List.getElem?_eq_getElem (by omega)] at h3;obtain⟨ps,h4,h5⟩:=EV d e hp.2 _ _ _ h3;refine⟨ps,⟨?_,h4⟩,h5⟩;rw[h5.len,List.length_take,List.length_drop,Hr,Kz];have:(i+1)*P.cellsOf e<=n*P.cellsOf e:=Nat.mul_le_mul_right _ hi;rw[Nat.succ_mul] at this;omega
   refine⟨_,⟨rows,rfl,h1,h2⟩,?_⟩;rw[Gv (by omega)] at h3;exact h3
  ·cases hp
theorem Aqr{r:Reach}{b0:Nat}{t:TypeId}{v:Value}{dd:DataW H}{p:List MemPlace}(hp:Ti P 12 t=true)(hv:Value.okWide P w r b0 t v)(h:DataW.Trod enc P w base (fun _=>true) held t v dd p):
  ∃q,WTv P t q/\Xz w No q v:=by
 obtain⟨fuel,hf⟩:=h;obtain⟨ps,h1,h2⟩:=EV 12 t hp fuel _ _ hf;unfold WTv Dd
 have two:∀{cs:Array Value},v=.agg cs->∃q,(∃ps,q=.agg ps/\WT P 12 t ps)/\Xz w No q v:=by
  intro cs e;subst e;exact⟨.agg ps,⟨ps,rfl,h1⟩,cs.toList,by simp,h2.mono fun c v h=>h.1⟩
 have one:v.cells.toList=[v]->∃q,WT P 12 t [q]/\Xz w No q v:=by
  intro e;rw[e] at h2
  match ps,h2 with
  |[q],h2=>
   refine⟨q,h1,?_⟩;have h3:=h2.1.1;cases q<;>first|exact h3|exact h3.1.elim
  |[],h2=>exact h2.elim
  |_::_::_,h2=>exact h2.2.elim
 unfold Ti at hp;split at hp
 ·rename_i hu;simp only[hu];obtain⟨b,rfl,_⟩:=open_bool hu hv ⟨fuel,hf⟩;exact one rfl
 ·rename_i k hu;simp only[hu];obtain⟨b,rfl,_⟩:=open_int hu hv ⟨fuel,hf⟩;exact one rfl
 ·rename_i hu;simp only[hu];obtain⟨b,rfl,_⟩:=ChangeMaps.open_string hu hv ⟨fuel,hf⟩;exact one rfl
 ·rename_i e hu;simp only[hu];obtain⟨a,len,cap,rfl⟩:=okWide_slice hu hv;exact one rfl
 ·rename_i fs hu;simp only[hu];obtain⟨cs,rfl,_⟩:=okWide_struct hu hv;exact two rfl
 ·rename_i n e hu;simp only[hu];unfold Value.okWide at hv;simp only[hu] at hv;obtain⟨cs,rfl,_⟩:=hv;exact two rfl
 ·cases hp
theorem Aau:∀{ts:List TypeId}{vs:List Value}{ds:List (DataW H)} {p:List MemPlace}{r:Reach}{b0:Nat},(ts.all fun t=>Ti P 12 t)=true->(∀(j:Nat) t v,ts[j]?=some t->vs[j]?=some v->Value.okWide P w r b0 t v) ->
  DataW.TrodAll enc P w base (fun _=>true) held ts vs ds p->∃qs,B9 (WTv P) ts qs/\B9 (Xz w No) qs vs
 |[],[],[],_,_,_,_,_,_=>⟨[],trivial,trivial⟩
 |t::ts,v::vs,d::ds,_,r,b0,hp,hv,⟨p,q,h1,h2,_⟩=>by
  simp only[List.all_cons,G8] at hp;obtain⟨x,h3,h4⟩:=Aqr hp.1 (hv 0 t v rfl rfl) h1;obtain⟨xs,h5,h6⟩:=Aau hp.2 (fun j t v ht Wc=>hv (j+1) t v ht Wc) h2;exact⟨x::xs,⟨h3,h5⟩,h4,h6⟩
 |[],_::_,_,_,_,_,_,_,h=>by cases h
 |[],[],_::_,_,_,_,_,_,h=>by cases h
 |_::_,[],_,_,_,_,_,_,h=>by cases h
 |_::_,_::_,[],_,_,_,_,_,h=>by cases h
theorem GF(hl:laidOutB P=true){W W':World}{sp:Nat->Bool}:∀{ts:List TypeId}{vs:List Value}{ds:List (DataW H)} {p:List MemPlace},(ts.all fun t=>P.readableRec t&&Nat.blt t P.types.size)=true ->
  DataW.TrodAll enc P W 0 (fun _=>true) true ts vs ds p->(∀x∈p,W.sameAt W' x)->(∀x∈p,sp x.block=true)->DataW.TrodAll enc P W' 0 sp true ts vs ds p
 |[],[],[],_,_,h,_,_=>h
 |t::ts,v::vs,d::ds,_,hr,⟨p,q,h1,h2,e⟩,hs,hsp=>by
  simp only[List.all_cons,G8] at hr;refine⟨p,q,WideElems.Trod_stays hl hr.1.1 (Nat.lt_of_succ_le (Xx hr.1.2)) h1 (fun x hx=>hs x ?_) (fun x hx=>hsp x ?_),GF hl hr.2 h2 (fun x hx=>hs x ?_) (fun x hx=>hsp x ?_),e⟩
  all_goals rw[e,Bz]
  ·exact .inl hx
  ·exact .inl hx
  ·exact .inr hx
  ·exact .inr hx
 |[],_::_,_,_,_,h,_,_=>by cases h
 |[],[],_::_,_,_,h,_,_=>by cases h
 |_::_,[],_,_,_,h,_,_=>by cases h
 |_::_,_::_,[],_,_,h,_,_=>by cases h
theorem YC{f:Func}{s:ChangeSpec}{apart fresh Adf again:Bool}{W W':World}{args:Array Value}{v:Value}{ds gs:List (DataW H)}{before pa pv:List MemPlace}(hW:DataW.Whole enc P f.params.toList s.vars apart W args.toList ds gs before)(A5w:∀(b:Nat)(sp:Nat->Bool)(hd:Bool),DataW.TrodAll enc P W' b sp hd f.resultTypes.toList (v.resultList f.resultTypes.size) (s.fn H (ds++gs)).results [])(Fz:∀sp:Nat->Bool,(∀p∈before,sp p.block=true)->DataW.TrodAll enc P W' 0 sp true f.params.toList args.toList (s.fn H (ds++gs)).args pa)(Ahs:∀sp:Nat->Bool,(∀p∈before,sp p.block=true)->DataW.TrodVars enc P W' sp s.vars (s.fn H (ds++gs)).vars pv)(PX:before=pa++pv)(hb:Below W.heap.size W W')(hok:∀(j:Nat)(t:TypeId)(r:Value),f.resultTypes[j]?=some t->(v.resultList f.resultTypes.size)[j]?=some r->Value.okWide P W' .any 0 t r):
  s.post enc P f apart fresh Adf again W args v W':=by
 have Cq:∀p∈before,p.block<W.heap.size:=fun p hp=>hW.lt p hp;have hold:∀p∈before,(fun b=>decide (b<W.heap.size)) p.block=true:=fun p hp=>by simpa using Cq p hp
 refine⟨ds,gs,before,[],pa,pv,hW,A5w _ _ _,Fz _ hold,Ahs _ hold,World.keptBut_mono (fun p hp=>⟨hp,?_⟩) (hb.frame (· ∈ before)),fun _=>?_⟩
 ·rw[PX,Bz] at hp;exact Or.inr hp
 ·obtain⟨_,_,_,_,_,hz,hn⟩:=hW;refine⟨hok,_,_,([]++pa)++pv,⟨[]++pa,pv,trodAll_append (Fz _ (fun _ _=>rfl)) (A5w _ _ _),Ahs _ (fun _ _=>rfl),rfl,?_,?_⟩,?_⟩
  ·intro b off hp;have EN:MemPlace.cell b off∈before:=by rw[PX];simpa using hp
   rw[hb.frozen (Cq _ EN)];exact hz b off EN
  ·intro ha;have:=hn ha;rw[PX] at this
   simpa using this
  ·intro p hp _;rw[PX]
   simpa using hp
theorem law_contract{G:Zg}{C:Kk}(hx:Amt G P C)(Ks:NoNG P)(hm:P.follows .mixedOrders=true)(hl:laidOutB P=true){f:FuncId}{fn:Func}{s:ChangeSpec}{tb:TypeId}(hfn:P.funcs[f]?=some fn)(Ahs:s.vars=[])(A66:∀ds:List (DataW H),ds.length=fn.params.size->s.fn H ds={ results:=[.lit (.bool true)],args:=ds })(A1k:(fn.params.toList.all fun t=>Ti P 12 t)=true)(A5t:(fn.params.toList.all fun t=>P.readableRec t&&Nat.blt t P.types.size)=true)(hrt:fn.resultTypes = #[tb])(hub:P.underlying tb=some .bool){apart fresh Adf again:Bool}(W:World)(base:Nat)(args:Array Value)(ds gs:List (DataW H))(before:List MemPlace)(hval:∀(j:Nat) t v,fn.params[j]?=some t->args[j]?=some v->Value.okWide P W .any base t v)(hW:DataW.Whole enc P fn.params.toList s.vars apart W args.toList ds gs before)(Bbw:∀qs:Ab,B9 (WTv P) fn.params.toList qs->∃fu d,Ar C P fu d f qs=some ⟨[.sc (.bool true)],[]⟩)(hG:G.ok W)(hGY:∀b,G.bl b->b<W.heap.size):
  Calls P f args W fun e W'=>∃v,e=.returned v/\s.post enc P fn apart fresh Adf again W args v W':=by
 have hW':=hW;obtain⟨p,q,hA,hV,rfl,OQ,XJ⟩:=hW;rw[Ahs] at hV;obtain⟨rfl,rfl⟩:=trodVars_none hV;obtain⟨qs,h1,h2⟩:=Aau A1k (fun j t v ht hv=>hval j t v (by simpa using ht) (by simpa using hv)) hA;obtain⟨fu,d,hc⟩:=Bbw qs h1;have hS:=(CY Ks hm hx d f qs _ hc).2 W No CK args.toList (Agd (fun b h=>h.elim) h2) hG (fun b hb=>⟨hGY b hb,Sx b⟩);rw[Array.toArray_toList] at hS;refine hS.mono fun e W' ⟨vs,own,he,ho⟩=>?_;have hv:=ho.vals
 have Xl:vs=[.bool true]:=by
  match vs,hv with
  |[u],hv=>
   have:Bd W' _ (.sc (.bool true)) u:=hv.1;rw[this.val]
  |[],hv=>exact hv.elim
  |_::_::_,hv=>exact hv.2.elim
 subst Xl;subst he;have hb:Below W.heap.size W W':=⟨ho.os,ho.tape,ho.output,ho.ext.size,fun k hk=>ho.ext.keep k hk (Sx k)⟩
 have Cq:∀x∈p,x.block<W.heap.size:=fun x hx=>hW'.lt x (by simpa using hx)
 have Hr:ds.length=fn.params.size:=by
  have:∀{ts:List TypeId} {vs:List Value} {ds:List (DataW H)} {p:List MemPlace},DataW.TrodAll enc P W 0 (fun _=>true) true ts vs ds p->ds.length=ts.length:=by
   intro ts
   induction ts with
   |nil=>intro vs ds p h;cases vs<;>cases ds<;>first|rfl|cases h
   |cons t ts ih=>
    intro vs ds p h;cases vs with
    |nil=>cases h
    |cons v vs=>
     cases ds with
     |nil=>cases h
     |cons d ds=>obtain⟨_,_,_,h2,_⟩:=h;simp[ih h2]
  simpa using this hA
 have hsp:=A66 (ds++[]) (by simpa using Hr);refine⟨_,rfl,YC (pa:=p) (pv:=[]) hW' ?_ ?_ ?_ rfl hb ?_⟩
 ·intro b sp hd;rw[hsp,hrt];exact trodAll_mk1 (shut_bool hub _)
 ·intro sp Bah;rw[hsp];simp only[List.append_nil];exact GF hl A5t hA (fun x hx=>hb.same (Cq x hx)) (fun x hx=>Bah x (by simpa using hx))
 ·intro sp _;rw[hsp,Ahs];rfl
 ·exact ok_one hrt rfl (okWide_bool_mk hub _)
end
end
section
open Go.Proofs.Tryz (prog)
theorem Ax0{d:Nat}{ps:Ab}{k:IntKind}{t e:TypeId}(hk:DH prog t=.sl e)(hc:prog.cellsOf e=1)(he:DH prog e=.int k)(h:WT prog d t ps):
  ∃l:Ca,ps=[.lst false 1 l.length (Ac k l)]/\l.length<=maxLen/\∀n∈l,(Lit.int k n).wf=true:=by
 obtain⟨rows,rfl,hl,hr⟩:=A7g hk h;obtain⟨l,h1,h2,h3⟩:=QH (Axk k) (fun n=>(Lit.int k n).wf=true) fun r hrr=>A24 he (hr r hrr).2;refine⟨l,?_,by omega,h3⟩;rw[h1,h2,hc]
theorem A8a{n:Int}(h:(Lit.int .u8 n).wf=true):0<=n/\n<=255:=by simp[Lit.wf,IntKind.min,IntKind.max,IntKind.signed,IntKind.bits] at h;omega
theorem Afa{p:PV}{k:IntKind}{t e:TypeId}(ha:Dd prog t=false)(hk:DH prog t=.sl e)(hc:prog.cellsOf e=1)(he:DH prog e=.int k)(h:WTv prog t p):
  ∃l:Ca,p=.lst false 1 l.length (Ac k l)/\l.length<=maxLen/\∀n∈l,(Lit.int k n).wf=true:=by
 have h':=Ay8 (P:=prog) (t:=t) (p:=p) ha h;obtain⟨l,h1,h2,h3⟩:=Ax0 hk hc he h';exact⟨l,by injection h1,h2,h3⟩
end
instance : Coe Int PV:=⟨fun x=>.sc (.int .i64 x)⟩
abbrev At (x:Int):PV:=.sc (.int .i64 x)
abbrev Af (x:Int):PV:=.sc (.int .u64 x)
abbrev Ap(k n:Nat)(l:Ab):PV:=.lst false k n l
abbrev Bv(l:Ab):Option D0:=some ⟨l,[]⟩
abbrev Dm(c:Option D0)(k:PV->Ab->Option D0):Option D0:=Bk c fun x y=>Aq y<|Av x k
abbrev C2(k:IntKind)(l:Ab)(f:Int->Ab->Option D0):Option D0:=Av l fun x y=>Be k x fun z=>f z y
abbrev Na(k:IntKind)(c:Option D0)(f:Int->Option D0):Option D0:=Bk c fun x y=>Aq y<|Av x fun z t=>Be k z fun u=>Aq t<|f u
abbrev Hw(k:Nat)(l:Ab)(f:Nat->Ab->Ab->Option D0):Option D0:=Av l fun x y=>Pq k x fun _ n c=>f n c y
abbrev Tz(k:Nat)(l:Ab)(f:Nat->Ab->Ab->Option D0):Option D0:=Av l fun x y=>Je k x fun n c=>f n c y
abbrev V1(l:Ab)(f:Bool->Option D0):Option D0:=Av l fun x y=>Cg x fun z=>Aq y<|f z
abbrev Dk(k:IntKind)(l:Ab)(f:Int->Option D0):Option D0:=Av l fun x y=>Be k x fun z=>Aq y<|f z
abbrev Og(n k m:Nat)(l e:Ab)(f:Nat->Ab->Option D0):Option D0:=As (decide (n*k<=l.length)&&true&&decide ((n+1)*m<=1099511627776)&&decide (n+1<=1099511627776))<|f (n+1) (List.take (n*k) l++e)
abbrev Mg(fu:Nat)(call:Bp)(i:FuncId)(f:Func):=A5l CB prog fu call i f (WP f)
inductive ZzQ:Bool->Bool->Prop
|t:ZzQ true true
|f:ZzQ false false
theorem Ct{R:Type}{b c:Bool}{x y r:Option R}(h:ZzQ b c)(k:(match (generalizing:=false) c with|true=>x|false=>y)=r):A3 b x y=r:=by cases h<;>exact k
theorem Cu:type_of% gT/\type_of% gF/\type_of% @Bool.not_true/\type_of% @Bool.not_false/\type_of% @decide_eq_true/\type_of% @decide_eq_false/\type_of% @decide_true/\type_of% @decide_false:=⟨gT,gF,@Bool.not_true,@Bool.not_false,@decide_eq_true,@decide_eq_false,@decide_true,@decide_false⟩
theorem B3(n k m:Nat)(l e:Ab)(f:Nat->Ab->Option D0):Og n k m l e f=(As (decide (n*k<=l.length)&&true&&decide ((n+1)*m<=1099511627776)&&decide (n+1<=1099511627776))<|f (n+1) (List.take (n*k) l++e)):=by exact id rfl
abbrev Fn(C:Kk)(fu d:Nat)(F:FuncId)(l:Ab)(b:Bp->Option D0):Prop:=Ar C prog fu (d+1) F l=b (Ar C prog fu d)
section
variable {xs:FuncId->Option (Ab->Option D0)}(fu d:Nat)(call:Bp)
theorem FF(Z Y:Int):Fn (CX xs) fu d 147 [Af Z,Y] fun call=>Aa (wrap .u64 Y) fun a=>Aa (Qg .u64 a 63) fun a=>As (decide (0<=a))<|Aa (Hm .u64 Z a) fun b=>Aa (wrap .u64 (64-a)) fun a=>As (decide (0<=a))<|Aa (F2 .u64 Z a) fun a=>Aa (XH .u64 b a) fun a=>Bv [Af a]:=by show _=_;kernel_rfl
def Kb(Z:Nat)(Y:Ab)(X W V:Nat)(U:Ab)(T S:Int)(Q:Ab):Option D0:=Mg fu call 86 Tryz.f86 [Ap 1 Z Y] [.r,.r,.l,.r,.l] X ⟨lk [(3,.view 3 1 0 W),(11,Ap 1 V U),(12,T),(13,S)],B0 [(3,.ar false Q)]⟩
def Nb(Z:Nat)(Y:Ab)(X W V:Nat)(U:Int)(T:Nat)(S:Ab)(Q P O:Int)(N:Ab):Option D0:=Mg fu call 86 Tryz.f86 [Ap 1 Z Y] [.r,.r,.l,.r,.l,.i X,.r,.r,.l,.l,.r,.r,.l] W ⟨lk [(3,.view 3 1 0 V),(5,Af U),(11,Ap 1 T S),(12,Q),(13,P),(17,O)],B0 [(3,.ar false N)]⟩
theorem Wg(T:Nat)(S:Ab)(Q Y W:Nat)(V:Ab)(U Z:Int)(X:Ab):Kb fu call T S (Q+1) Y W V U Z X=(A3 (decide (Z<U)) (As (decide (0<=Z)&&decide (Z<(↑W:Int)))<|Be .u64 (V.getD (Z.toNat*1) .top) fun a=>Nb fu call T S Q fu Y a W V U Z 0 X) (As (decide (Y*1<=X.length))<|Bv [.own 1 Y (X.take (Y*1))])):=by kernel_rfl
theorem Wo(Y:Nat)(X:Ab)(W N V:Nat)(U:Int)(T:Nat)(S:Ab)(Q P Z:Int)(O:Ab):Nb fu call Y X W (N+1) V U T S Q P Z O=(A3 (decide (Z<8)) (Aa (wrap .i64 (8*Z)) fun a=>Aa (wrap .i64 (56-a)) fun a=>As (decide (0<=a))<|Aa (F2 .u64 U a) fun a=>Aa (wrap .u8 a) fun a=>Og V 1 1 O [.sc (.int .u8 a)] fun a b=>Aa (wrap .i64 (Z+1)) fun c=>Nb fu call Y X W N a U T S Q P c b) (Aa (wrap .i64 (P+1)) fun a=>Kb fu call Y X W V T S Q a O)):=by kernel_rfl
theorem WO(Z:Nat)(Y:Ab):Fn (CX xs) fu d 86 [Ap 1 Z Y] fun call=>Aa (wrap .i64 (8*(↑Z:Int))) fun a=>As (decide (0<=a)&&decide (a*1<=1099511627776)&&decide (a<=1099511627776))<|Kb fu call Z Y fu 0 Z Y (↑Z:Int) 0 ([]):=by show _=_;kernel_rfl
def L6(Z:Nat)(Y:Ab)(X:Nat)(W:Int)(V:Nat)(U:Ab)(T S:Int):Option D0:=Mg fu call 135 Tryz.f135 [Ap 1 Z Y] [.r,.r,.l,.r,.l] X ⟨lk [(3,Af W),(6,Ap 1 V U),(7,T),(8,S)],B0 []⟩
theorem Uf(U:Nat)(T:Ab)(S:Nat)(Y:Int)(X:Nat)(W:Ab)(V Z:Int):L6 fu call U T (S+1) Y X W V Z=(A3 (decide (Z<V)) (As (decide (0<=Z)&&decide (Z<(↑X:Int)))<|Be .u8 (W.getD (Z.toNat*1) .top) fun a=>Aa (wrap .u64 a) fun a=>Aa (wrap .i64 (8*Z)) fun b=>As (decide (0<=b))<|Aa (Hm .u64 a b) fun a=>Aa (XH .u64 Y a) fun a=>Aa (wrap .i64 (Z+1)) fun b=>L6 fu call U T S a X W V b) (Bv [Af Y])):=by kernel_rfl
theorem QX(Z:Nat)(Y:Ab):Fn (CX xs) fu d 135 [Ap 1 Z Y] fun call=>L6 fu call Z Y fu 0 Z Y (↑Z:Int) 0:=by show _=_;kernel_rfl
def Ho(Z Y:Int)(X W V:Int)(U:Nat)(T S:Int)(Q P:Int)(O N:Int):Option D0:=Mg fu call 136 Tryz.f136 [.pbox [Af Z,Af Y,Af X,Af W],V] [.r,.l] U ⟨lk [(0,.ptr 288000 0),(4,T),(5,S)],B0 [(288000,.st [Af Q,Af P,Af O,Af N])]⟩
theorem M1(T S:Int)(Q P O:Int)(N:Nat)(X W:Int)(V Z:Int)(U Y:Int):Ho fu call T S Q P O (N+1) X W V Z U Y=(A3 (decide (W<X)) (Aa (wrap .u64 (V+Z)) fun a=>Na .u64 (call 147 [Af Z,(13:Int)]) fun b=>Aa (Fi .u64 b a) fun b=>Na .u64 (call 147 [Af a,(32:Int)]) fun a=>Aa (wrap .u64 (U+Y)) fun c=>Na .u64 (call 147 [Af Y,(16:Int)]) fun e=>Aa (Fi .u64 e c) fun e=>Aa (wrap .u64 (a+e)) fun a=>Na .u64 (call 147 [Af e,(21:Int)]) fun e=>Aa (Fi .u64 e a) fun e=>Aa (wrap .u64 (c+b)) fun c=>Na .u64 (call 147 [Af b,(17:Int)]) fun b=>Aa (Fi .u64 b c) fun b=>Na .u64 (call 147 [Af c,(32:Int)]) fun c=>Aa (wrap .i64 (W+1)) fun f=>Ho fu call T S Q P O N X f a b c e) (some ⟨[],[[Af V,Af Z,Af U,Af Y]]⟩)):=by kernel_rfl
theorem BU(Z Y:Int)(X W V:Int):Fn (CX xs) fu d 136 [.pbox [Af Z,Af Y,Af X,Af W],V] fun call=>Ho fu call Z Y X W V fu V 0 Z Y X (W):=by show _=_;kernel_rfl
theorem BO(Y X:Int)(W V Z:Int):Fn (CX xs) fu d 134 [.pbox [Af Y,Af X,Af W,Af V],Af Z] fun call=>Aa (Fi .u64 V Z) fun a=>Bk (call 136 [.pbox [Af Y,Af X,Af W,Af a],(2:Int)]) fun a b=>Aq a<|Av b fun a b=>C2 .u64 a fun a c=>C2 .u64 c fun c e=>C2 .u64 e fun e f=>Dk .u64 f fun f=>Aq b<|Aa (Fi .u64 a Z) fun a=>some ⟨[],[[Af a,Af c,Af e,Af f]]⟩:=by show _=_;kernel_rfl
def M9(Z Y:Int)(X:Nat)(W:Ab)(V U:Nat)(T:Ab)(S Q:Int)(P O:Int)(N M L:Int):Option D0:=Mg fu call 109 Tryz.f109 [Af Z,Af Y,Ap 1 X W] [.r,.r,.r,.l,.r,.l] V ⟨lk [(2,Ap 1 U T),(7,.ptr 7 0),(8,S),(22,Q),(23,P)],B0 [(7,.st [Af O,Af N,Af M,Af L])]⟩
theorem BH(P O:Int)(N:Nat)(M:Ab)(L Z:Nat)(X:Ab)(W V:Int)(Y U:Int)(T S Q:Int):M9 fu call P O N M (L+1) Z X W V Y U T S Q=(A3 (decide (Y<V)) (Aa (wrap .i64 (8*Y)) fun a=>Aa (wrap .i64 (8*Y)) fun b=>Aa (wrap .i64 (b+8)) fun b=>As (decide (0<=a))<|As (decide (0<=b))<|As (decide (a.toNat<=b.toNat)&&decide (b.toNat<=Z))<|Aa (b.toNat-a.toNat) fun b=>Aa (List.take (b*1) (X.drop (a.toNat*1))) fun a=>Na .u64 (call 135 [Ap 1 b a]) fun a=>Bk (call 134 [.pbox [Af U,Af T,Af S,Af Q],Af a]) fun a b=>Aq a<|Av b fun a b=>C2 .u64 a fun a c=>C2 .u64 c fun c e=>C2 .u64 e fun e f=>Dk .u64 f fun f=>Aq b<|Aa (wrap .i64 (Y+1)) fun b=>M9 fu call P O N M L Z X W V b a c e f) (Aa (wrap .i64 (8*W)) fun a=>As (decide (0<=a))<|As (decide (a.toNat<=Z)&&decide (Z<=Z))<|Aa (Z-a.toNat) fun b=>Aa (List.take (b*1) (X.drop (a.toNat*1))) fun a=>Na .u64 (call 135 [Ap 1 b a]) fun a=>Aa (wrap .u64 (↑Z:Int)) fun b=>Aa (Hm .u64 b 56) fun b=>Aa (XH .u64 a b) fun a=>Bk (call 134 [.pbox [Af U,Af T,Af S,Af Q],Af a]) fun a b=>Aq a<|Av b fun a b=>C2 .u64 a fun a c=>C2 .u64 c fun c e=>C2 .u64 e fun e f=>Dk .u64 f fun f=>Aq b<|Aa (Fi .u64 e 255) fun b=>Bk (call 136 [.pbox [Af a,Af c,Af b,Af f],(4:Int)]) fun a b=>Aq a<|Av b fun a b=>C2 .u64 a fun a c=>C2 .u64 c fun c e=>C2 .u64 e fun e f=>Dk .u64 f fun f=>Aq b<|Aa (Fi .u64 a c) fun a=>Aa (Fi .u64 a e) fun a=>Aa (Fi .u64 a f) fun a=>Bv [Af a])):=by kernel_rfl
theorem Abs(Z Y:Int)(X:Nat)(W:Ab):Fn (CX xs) fu d 109 [Af Z,Af Y,Ap 1 X W] fun call=>Aa (Fi .u64 Z 8317987319222330741) fun a=>Aa (Fi .u64 Y 7237128888997146477) fun b=>Aa (Fi .u64 Z 7816392313619706465) fun c=>Aa (Fi .u64 Y 8387220255154660723) fun e=>Aa (wrap .i64 (Int.tdiv (↑X:Int) 8)) fun f=>M9 fu call Z Y X W fu X W f f 0 a b c e:=by show _=_;kernel_rfl
theorem XQ(Z:Int)(Y:Nat)(X:Ab):Fn (CX xs) fu d 66 [Z,Ap 1 Y X] fun call=>Aa (wrap .u64 Z) fun a=>Na .u64 (call 109 [Af a,Af 0,Ap 1 Y X]) fun a=>Bv [Af a]:=by show _=_;kernel_rfl
theorem Acd(Z Y:Int)(X:Nat)(W:Ab):Fn (CX xs) fu d 137 [Af Z,Y,Ap 1 X W] fun call=>Aa (wrap .u64 Y) fun a=>Aa (wrap .u64 (1+a)) fun a=>Na .u64 (call 109 [Af Z,Af a,Ap 1 X W]) fun a=>Bv [Af a]:=by show _=_;kernel_rfl
theorem HB(Y Z:Int):Fn (CX xs) fu d 128 [Af Y,Af Z] fun call=>As (decide (0<=Z))<|Aa (Hm .u64 Y Z) fun a=>Aa (wrap .u64 (64-Z)) fun b=>As (decide (0<=b))<|Aa (F2 .u64 Y b) fun b=>Aa (XH .u64 a b) fun a=>Bv [Af a]:=by show _=_;kernel_rfl
theorem FP(X Z:Int)(W Y:Int):Fn (CX xs) fu d 103 [.agg [Af X,Af Z,Af W,Af Y]] fun call=>Aa (wrap .u64 (X+Z)) fun a=>Na .u64 (call 128 [Af Z,Af 13]) fun b=>Aa (Fi .u64 b a) fun b=>Na .u64 (call 128 [Af a,Af 32]) fun a=>Aa (wrap .u64 (W+Y)) fun c=>Na .u64 (call 128 [Af Y,Af 16]) fun e=>Aa (Fi .u64 e c) fun e=>Aa (wrap .u64 (a+e)) fun a=>Na .u64 (call 128 [Af e,Af 21]) fun e=>Aa (Fi .u64 e a) fun e=>Aa (wrap .u64 (c+b)) fun c=>Na .u64 (call 128 [Af b,Af 17]) fun b=>Aa (Fi .u64 b c) fun b=>Na .u64 (call 128 [Af c,Af 32]) fun c=>Bv [.agg [Af a,Af b,Af c,Af e]]:=by show _=_;kernel_rfl
def H6(Z Y:Int)(X:Nat)(W:Ab)(V U:Nat)(T:Ab)(S:Int)(Q:Ab):Option D0:=Mg fu call 61 Tryz.f61 [Af Z,Af Y,Ap 1 X W] [.r,.r,.l,.r,.l] V ⟨lk [(2,Ap 1 U T),(7,.ptr 7 0),(8,S)],B0 [(7,.ar false Q)]⟩
def Gl(Z Y:Int)(X:Nat)(W:Ab)(V U T:Nat)(S:Ab)(Q P O:Int)(N:Ab):Option D0:=Mg fu call 61 Tryz.f61 [Af Z,Af Y,Ap 1 X W] [.r,.r,.l,.r,.l,.i V,.r,.l,.l,.r,.l,.r,.l] U ⟨lk [(2,Ap 1 T S),(7,.ptr 7 0),(8,Q),(9,Af P),(10,O)],B0 [(7,.ar false N)]⟩
theorem Rw(W V:Int)(U:Nat)(T:Ab)(S Y:Nat)(Q:Ab)(X:Int)(Z:Ab):H6 fu call W V U T (S+1) Y Q X Z=(A3 (decide (X<=(↑Y:Int))) (Gl fu call W V U T S fu Y Q X 0 7 Z) (Be .u64 (Z.getD 2 .top) fun a=>Aa (Fi .u64 a 255) fun a=>As (decide (3<=Z.length))<|Aa (Bx Z [Af a] 2) fun a=>Be .u64 (a.getD 0 .top) fun b=>Be .u64 (a.getD 1 .top) fun c=>Be .u64 (a.getD 2 .top) fun e=>Be .u64 (a.getD 3 .top) fun f=>Dm (call 103 [.agg [Af b,Af c,Af e,Af f]]) fun b c=>Dr b fun b=>C2 .u64 b fun b e=>C2 .u64 e fun e f=>C2 .u64 f fun f g=>Dk .u64 g fun g=>Aq c<|Dm (call 103 [.agg [Af b,Af e,Af f,Af g]]) fun b c=>Dr b fun b=>C2 .u64 b fun b e=>C2 .u64 e fun e f=>C2 .u64 f fun f g=>Dk .u64 g fun g=>Aq c<|Dm (call 103 [.agg [Af b,Af e,Af f,Af g]]) fun b c=>Dr b fun b=>C2 .u64 b fun b e=>C2 .u64 e fun e f=>C2 .u64 f fun f g=>Dk .u64 g fun g=>Aq c<|Dm (call 103 [.agg [Af b,Af e,Af f,Af g]]) fun b c=>Dr b fun b=>C2 .u64 b fun b e=>C2 .u64 e fun e f=>C2 .u64 f fun f g=>Dk .u64 g fun g=>Aq c<|As (decide (4<=a.length))<|Aa (Bx a [Af b,Af e,Af f,Af g] 0) fun a=>Be .u64 (a.getD 0 .top) fun b=>Be .u64 (a.getD 1 .top) fun c=>Aa (Fi .u64 b c) fun b=>Be .u64 (a.getD 2 .top) fun c=>Aa (Fi .u64 b c) fun b=>Be .u64 (a.getD 3 .top) fun a=>Aa (Fi .u64 b a) fun a=>Bv [Af a])):=by kernel_rfl
theorem Re(T S:Int)(Q:Nat)(P:Ab)(O N Z:Nat)(V:Ab)(X U Y:Int)(W:Ab):Gl fu call T S Q P O (N+1) Z V X U Y W=(A3 (decide (Y>=0)) (Aa (wrap .i64 (X+Y)) fun a=>A3 (decide (a<(↑Z:Int))) (Aa (wrap .i64 (X+Y)) fun a=>As (decide (0<=a)&&decide (a<(↑Z:Int)))<|Be .u8 (V.getD (a.toNat*1) .top) fun a=>Aa (Hm .u64 U 8) fun b=>Aa (wrap .u64 a) fun a=>Aa (XH .u64 b a) fun a=>Aa (wrap .i64 (Y-1)) fun b=>Gl fu call T S Q P O N Z V X a b W) (A3 (Y==7) (Aa (wrap .u8 (↑Z:Int)) fun a=>Aa (Hm .u64 U 8) fun b=>Aa (wrap .u64 a) fun a=>Aa (XH .u64 b a) fun a=>Aa (wrap .i64 (Y-1)) fun b=>Gl fu call T S Q P O N Z V X a b W) (Aa (Hm .u64 U 8) fun a=>Aa (XH .u64 a 0) fun a=>Aa (wrap .i64 (Y-1)) fun b=>Gl fu call T S Q P O N Z V X a b W))) (Be .u64 (W.getD 3 .top) fun a=>Aa (Fi .u64 a U) fun a=>As (decide (4<=W.length))<|Aa (Bx W [Af a] 3) fun a=>Be .u64 (a.getD 0 .top) fun b=>Be .u64 (a.getD 1 .top) fun c=>Be .u64 (a.getD 2 .top) fun e=>Be .u64 (a.getD 3 .top) fun f=>Dm (call 103 [.agg [Af b,Af c,Af e,Af f]]) fun b c=>Dr b fun b=>C2 .u64 b fun b e=>C2 .u64 e fun e f=>C2 .u64 f fun f g=>Dk .u64 g fun g=>Aq c<|Dm (call 103 [.agg [Af b,Af e,Af f,Af g]]) fun b c=>Dr b fun b=>C2 .u64 b fun b e=>C2 .u64 e fun e f=>C2 .u64 f fun f g=>Dk .u64 g fun g=>Aq c<|As (decide (4<=a.length))<|Aa (Bx a [Af b,Af e,Af f,Af g] 0) fun a=>Be .u64 (a.getD 0 .top) fun b=>Aa (Fi .u64 b U) fun b=>As (decide (1<=a.length))<|Aa (Bx a [Af b] 0) fun a=>Aa (wrap .i64 (X+8)) fun b=>H6 fu call T S Q P O Z V b a)):=by kernel_rfl
theorem ML(Z Y:Int)(X:Nat)(W:Ab):Fn (CX xs) fu d 61 [Af Z,Af Y,Ap 1 X W] fun call=>Aa (Fi .u64 Z 8317987319222330741) fun a=>Aa (Fi .u64 Y 7237128888997146477) fun b=>Aa (Fi .u64 Z 7816392313619706465) fun c=>Aa (Fi .u64 Y 8387220255154660723) fun e=>H6 fu call Z Y X W fu X W 0 ([Af a,Af b,Af c,Af e]):=by show _=_;kernel_rfl
theorem IL(Z:Int)(Y:Nat)(X:Ab):Fn (CX xs) fu d 33 [Z,Ap 1 Y X] fun call=>Aa (wrap .u64 Z) fun a=>Na .u64 (call 61 [Af a,Af 0,Ap 1 Y X]) fun a=>Bv [Af a]:=by show _=_;kernel_rfl
theorem KP(Z Y:Int)(X:Nat)(W:Ab):Fn (CX xs) fu d 85 [Af Z,Y,Ap 1 X W] fun call=>Aa (wrap .u64 Y) fun a=>Aa (wrap .u64 (1+a)) fun a=>Na .u64 (call 61 [Af Z,Af a,Ap 1 X W]) fun a=>Bv [Af a]:=by show _=_;kernel_rfl
def G6(Z:Nat)(Y:Ab)(X W:Nat)(V:Ab)(U:Nat)(T:Int)(S:Ab):Option D0:=Mg fu call 79 Tryz.f79 [Ap 1 Z Y] [.r,.r,.l,.r,.l] X ⟨lk [(0,Ap 1 W V),(3,.view 3 1 0 U),(4,T)],B0 [(3,.ar false S)]⟩
def Iv(Z:Nat)(Y:Ab)(X W V:Nat)(U:Ab)(T:Nat)(S Q:Int)(P:Ab):Option D0:=Mg fu call 79 Tryz.f79 [Ap 1 Z Y] [.r,.r,.l,.r,.l,.i X,.r,.l,.l,.r,.l] W ⟨lk [(0,Ap 1 V U),(3,.view 3 1 0 T),(4,S),(5,Q)],B0 [(3,.ar false P)]⟩
theorem O4(V:Nat)(U:Ab)(T X:Nat)(S:Ab)(Z:Nat)(W:Int)(Y:Ab):G6 fu call V U (T+1) X S Z W Y=(A3 (decide (W<(↑X:Int))) (Iv fu call V U T fu X S Z W 7 Y) (As (decide (Z*1<=Y.length))<|Bv [.own 1 Z (Y.take (Z*1))])):=by kernel_rfl
theorem Oi(V:Nat)(U:Ab)(T P Y:Nat)(X:Ab)(S:Nat)(Z W:Int)(Q:Ab):Iv fu call V U T (P+1) Y X S Z W Q=(A3 (decide (W>=0)) (As (decide (0<=Z)&&decide (Z<(↑Y:Int)))<|Be .u64 (X.getD (Z.toNat*1) .top) fun a=>Aa (wrap .i64 (8*W)) fun b=>Aa (wrap .u64 b) fun b=>As (decide (0<=b))<|Aa (F2 .u64 a b) fun a=>Aa (wrap .u8 a) fun a=>Og S 1 1 Q [.sc (.int .u8 a)] fun a b=>Aa (wrap .i64 (W-1)) fun c=>Iv fu call V U T P Y X a Z c b) (Aa (wrap .i64 (Z+1)) fun a=>G6 fu call V U T Y X S a Q)):=by kernel_rfl
theorem FL(Z:Nat)(Y:Ab):Fn (CX xs) fu d 79 [Ap 1 Z Y] fun call=>G6 fu call Z Y fu Z Y 0 0 ([]):=by show _=_;kernel_rfl
def Ja(Z:Nat)(Y:Ab)(X W:Nat)(V:Ab)(U T:Int):Option D0:=Mg fu call 120 Tryz.f120 [Ap 1 Z Y] [.r,.r,.l,.r,.l] X ⟨lk [(0,Ap 1 W V),(3,Af U),(4,T)],B0 []⟩
theorem Py(V:Nat)(U:Ab)(T Y:Nat)(W:Ab)(X Z:Int):Ja fu call V U (T+1) Y W X Z=(A3 (decide (Z<8)) (A3 (decide (Z<(↑Y:Int))) (Aa (Hm .u64 X 8) fun a=>As (decide (0<=Z)&&decide (Z<(↑Y:Int)))<|Be .u8 (W.getD (Z.toNat*1) .top) fun b=>Aa (wrap .u64 b) fun b=>Aa (XH .u64 a b) fun a=>Aa (wrap .i64 (Z+1)) fun b=>Ja fu call V U T Y W a b) (Bv [Af X])) (Bv [Af X])):=by kernel_rfl
theorem HI(Z:Nat)(Y:Ab):Fn (CX xs) fu d 120 [Ap 1 Z Y] fun call=>Ja fu call Z Y fu Z Y 0 0:=by show _=_;kernel_rfl
end
def rot(x k:Int):Int:=XH .u64 (Hm .u64 x k) (F2 .u64 x (64-k))
structure W4 where
 a:Int
 b:Int
 c:Int
 d:Int
def W4.cells(v:W4):Ab:=[Af v.a,Af v.b,Af v.c,Af v.d]
def A9z(v:W4):W4:=⟨rot (wrap .u64 (v.a+v.b)) 32,Fi .u64 (rot v.b 13) (wrap .u64 (v.a+v.b)),wrap .u64 (v.c+v.d),Fi .u64 (rot v.d 16) (wrap .u64 (v.c+v.d))⟩
def Bb7(v:W4):W4:=⟨wrap .u64 (v.a+v.d),Fi .u64 (rot v.b 17) (wrap .u64 (v.c+v.b)),rot (wrap .u64 (v.c+v.b)) 32,Fi .u64 (rot v.d 21) (wrap .u64 (v.a+v.d))⟩
def XE(v:W4):W4:=Bb7 (A9z v)
def Ajx:Nat->W4->W4
 |0,v=>v
 |n+1,v=>Ajx n (XE v)
def A5q(r:W4)(m:Int):W4:=⟨Fi .u64 r.a m,r.b,r.c,r.d⟩
def Yd(v:W4)(m:Int):W4:=A5q (Ajx 2 ⟨v.a,v.b,v.c,Fi .u64 v.d m⟩) m
def Zh:Ca->Int
 |[]=>0
 |b::r=>b+256*Zh r
def XW:Nat->W4->Ca->W4
 |0,v,_=>v
 |n+1,v,l=>XW n (Yd v (Zh (l.take 8))) (l.drop 8)
def A23(k0 k1:Int):W4:=⟨Fi .u64 k0 8317987319222330741,Fi .u64 k1 7237128888997146477,Fi .u64 k0 7816392313619706465,Fi .u64 k1 8387220255154660723⟩
def Anz(v:W4):W4:=Ajx 4 ⟨v.a,v.b,Fi .u64 v.c 255,v.d⟩
def Am5(v:W4):Int:=Fi .u64 (Fi .u64 (Fi .u64 v.a v.b) v.c) v.d
def Sv(l:Ca):Int:=Zh (l.drop (8*(l.length / 8)))+72057594037927936*((l.length:Int) % 256)
def Ayu(k0 k1:Int)(l:Ca):Int:=Am5 (Anz (Yd (XW (l.length / 8) (A23 k0 k1) l) (Sv l)))
def S4(dom:Int)(l:Ca):Int:=Ayu (wrap .u64 dom) 0 l
def Aui(key dom:Int)(l:Ca):Int:=Ayu key (wrap .u64 (1+wrap .u64 dom)) l
def Ii(l:Ca):Prop:=∀b∈l,0<=b/\b<=255
theorem AA:∀{l:Ca},Ii l->0<=Zh l/\Zh l<256 ^ l.length
 |[],_=>by simp[Zh]
 |b::r,h=>by
  have h1:=h b (by simp);have h2:=AA (l:=r) fun x hx=>h x (by simp[hx]);have h3:(256:Int) ^ (b::r).length=256 ^ r.length*256:=by rw[G7,Int.pow_succ]
  simp only[Zh];omega
theorem JB:∀(l r:Ca),Zh (l++r)=Zh l+256 ^ l.length*Zh r
 |[],r=>by simp[Zh]
 |b::l,r=>by
  have ih:=JB l r;simp only[Zzp,Zh,G7,Int.pow_succ];rw[ih,Int.mul_add];have:(256:Int)*(256 ^ l.length*Zh r)=256 ^ l.length*256*Zh r:=by rw[<-Int.mul_assoc,Int.mul_comm 256]
  omega
theorem Adj{a c:Int}(k b:Nat)(h0:0<=a)(h1:a<((2 ^ k:Nat):Int))(hc:c=((b*2 ^ k:Nat):Int))(h:a+c<=18446744073709551615):XH .u64 a c=a+c/\XH .u64 c a=a+c:=by
 obtain⟨n,rfl⟩:=Int.eq_ofNat_of_zero_le h0;subst hc;have hn:n<2 ^ k:=by omega
 generalize hB:b*2 ^ k=m at h
 have e4:(BitVec.ofInt 64 (n:Int)).toNat=n:=by
  rw[BitVec.toNat_ofInt];omega
 have e5:(BitVec.ofInt 64 (m:Int)).toNat=m:=by
  rw[BitVec.toNat_ofInt];omega
 have e6:m ||| n=m+n:=by
  have:=Nat.shiftLeft_add_eq_or_of_lt hn b;rw[Nat.shiftLeft_eq,hB] at this;exact this.symm
 constructor
 ·show wrap .u64 ((BitVec.ofInt 64 (n:Int) ||| BitVec.ofInt 64 (m:Int)).toNat:Int)=_;rw[BitVec.toNat_or,e4,e5,Nat.or_comm,e6,Cd (by omega) (by omega)];omega
 ·show wrap .u64 ((BitVec.ofInt 64 (m:Int) ||| BitVec.ofInt 64 (n:Int)).toNat:Int)=_;rw[BitVec.toNat_or,e4,e5,e6,Cd (by omega) (by omega)];omega
theorem Ami{a k:Int}(h0:0<=a)(hk:0<=k)(J6:k<=64)(h:a*((2 ^ k.toNat:Nat):Int)<=18446744073709551615):Hm .u64 a k=a*((2 ^ k.toNat:Nat):Int):=by
 show wrap .u64 (a*2 ^ (min k.toNat IntKind.u64.bits))=_;have e:min k.toNat IntKind.u64.bits=k.toNat:=Nat.min_eq_left (by show k.toNat<=64;omega)
 have e2:(2:Int) ^ k.toNat=((2 ^ k.toNat:Nat):Int):=by simp
 rw[e,e2,Cd (Int.mul_nonneg h0 (Int.natCast_nonneg _)) h]
section
variable {fu d:Nat}{xs:FuncId->Option (Ab->Option D0)}
theorem Ars{x k:Int}(hk:k=13\/k=16\/k=17\/k=21\/k=32):Ar (CX xs) prog fu (d+1) 147 [Af x,At k]=some ⟨[Af (rot x k)],[]⟩:=by rw[FF];rcases hk with rfl|rfl|rfl|rfl|rfl<;>kernel_rfl
theorem Aus{x k:Int}(hk:k=13\/k=16\/k=17\/k=21\/k=32):Ar (CX xs) prog fu (d+1) 128 [Af x,Af k]=some ⟨[Af (rot x k)],[]⟩:=by rw[HB];rcases hk with rfl|rfl|rfl|rfl|rfl<;>kernel_rfl
theorem QV{a0 a1 a2 a3 a4:Int}:∀(k i nn:Nat)(v:W4),k<nn->i+k<=100 ->
  Ho fu (Ar (CX xs) prog fu (d+1)) a0 a1 a2 a3 a4 nn ((i+k:Nat):Int) i v.a v.b v.c v.d=some ⟨[],[(Ajx k v).cells]⟩
 |_,_,0,_,h,_=>by omega
 |0,i,nn+1,v,h,hi=>by
  rw[M1,Ef _ _ _ (by omega)];rfl
 |k+1,i,nn+1,v,h,hi=>by
  have ih:=QV (a0:=a0) (a1:=a1) (a2:=a2) (a3:=a3) (a4:=a4) k (i+1) nn (XE v) (by omega) (by omega);have w:wrap .i64 ((i:Int)+1)=((i+1:Nat):Int):=by rw[Ag (by omega) (by omega)];omega
  have r13:=fun x=>Ars (xs:=xs) (fu:=fu) (d:=d) (x:=x) (k:=13) (by simp);have r16:=fun x=>Ars (xs:=xs) (fu:=fu) (d:=d) (x:=x) (k:=16) (by simp);have r17:=fun x=>Ars (xs:=xs) (fu:=fu) (d:=d) (x:=x) (k:=17) (by simp);have r21:=fun x=>Ars (xs:=xs) (fu:=fu) (d:=d) (x:=x) (k:=21) (by simp);have r32:=fun x=>Ars (xs:=xs) (fu:=fu) (d:=d) (x:=x) (k:=32) (by simp);rw[M1];simp(disch:=omega)only[B4,B3,r13,r16,r17,r21,r32,w];rw[show i+(k+1)=i+1+k by omega];exact ih
theorem Abo(k:Nat)(hk:k<=4)(Bn:100<=fu)(v:W4):Ar (CX xs) prog fu (d+2) 136 [.pbox [Af v.a,Af v.b,Af v.c,Af v.d],At k]=some ⟨[],[(Ajx k v).cells]⟩:=by rw[BU];have:=QV (xs:=xs) (fu:=fu) (d:=d) (a0:=v.a) (a1:=v.b) (a2:=v.c) (a3:=v.d) (a4:=k) k 0 fu v (by omega) (by omega);rw[Cm] at this;exact this
theorem ZJ(Bn:100<=fu)(v:W4)(m:Int):Ar (CX xs) prog fu (d+3) 134 [.pbox [Af v.a,Af v.b,Af v.c,Af v.d],Af m]=some ⟨[],[(Yd v m).cells]⟩:=by rw[BO];have r2:=Abo (xs:=xs) (fu:=fu) (d:=d) 2 (by omega) Bn ⟨v.a,v.b,v.c,Fi .u64 v.d m⟩;have e2:((2:Nat):Int)=2:=rfl;rw[e2] at r2;unfold Yd;generalize Ajx 2 ⟨v.a,v.b,v.c,Fi .u64 v.d m⟩=R at r2 ⊢;simp only[W4.cells] at r2;simp only[B4,B3,r2];rfl
theorem A49{a b:Int}{k:Nat}(hk:k<8)(ha:0<=a)(ha':a<((2 ^ (8*k):Nat):Int))(hb:0<=b)(J8:b<=255):XH .u64 a (Hm .u64 b (8*(k:Int)))=a+((2 ^ (8*k):Nat):Int)*b:=by
 obtain⟨n,rfl⟩:=Int.eq_ofNat_of_zero_le hb;have e:(8*(k:Int)).toNat=8*k:=by omega
 have hp:n*2 ^ (8*k)<=255*2 ^ (8*k):=Nat.mul_le_mul_right _ (by omega);have h56:2 ^ (8*k)<=2 ^ 56:=Nat.pow_le_pow_right (by omega) (by omega);have e56:(2:Nat) ^ 56=72057594037927936:=by decide
 rw[e56] at h56;generalize hP:2 ^ (8*k)=p at *
 have Ayp:n*p<=255*p:=hp
 have hs:Hm .u64 (n:Int) (8*(k:Int))=(n:Int)*((2 ^ (8*(k:Int)).toNat:Nat):Int):=Ami (by omega) (by omega) (by omega) (by
  rw[e,hP];have:((n*p:Nat):Int)<=((255*p:Nat):Int):=by omega
  rw[<-Int.natCast_mul];omega)
 rw[hs,e,hP]
 have:=(Adj (a:=a) (c:=((n*p:Nat):Int)) (8*k) n ha (by rw[hP];exact ha') (by rw[hP]) (by
  have:((n*p:Nat):Int)<=((255*p:Nat):Int):=by omega
  omega)).1
 rw[<-Int.natCast_mul,this,Int.mul_comm ((p:Nat):Int),<-Int.natCast_mul]
theorem A6g(k:Nat):((2 ^ (8*k):Nat):Int)=256 ^ k:=by rw[Nat.pow_mul];simp
theorem QQ{call:Bp}{n:Nat}{c:Ab}{l:Ca}(hb:Ii l)(hl:l.length<=8):∀(r:Ca)(i nn:Nat),l.drop i=r->r.length<nn->i<=l.length ->
  L6 fu call n c nn (Zh (l.take i)) l.length (Ac .u8 l) l.length i=some ⟨[Af (Zh l)],[]⟩
 |_,_,0,_,h,_=>by omega
 |[],i,nn+1,h,hn,hi=>by
  have:=drop_nil h;rw[Uf,Ef _ _ _ (by omega),Gv (by omega)]
 |b::r,i,nn+1,h,hn,hi=>by
  obtain⟨h1,h2,h3⟩:=Dc h;simp only[G7] at hn;have ih:=QQ (call:=call) (n:=n) (c:=c) hb hl r (i+1) nn h3 (by omega) (by omega);have hbb:=hb b (List.mem_of_getElem? h2);have w:wrap .i64 ((i:Int)+1)=((i+1:Nat):Int):=by rw[Ag (by omega) (by omega)];omega
  have w8:wrap .i64 (8*(i:Int))=8*(i:Int):=Ag (by omega) (by omega);have wb:wrap .u64 b=b:=Cd (by omega) (by omega);have A2n:=AA (l:=l.take i) fun x hx=>hb x (List.mem_of_mem_take hx);have htl:(l.take i).length=i:=by rw[List.length_take];omega
  rw[htl] at A2n
  have hj:XH .u64 (Zh (l.take i)) (Hm .u64 b (8*(i:Int)))=Zh (l.take (i+1)):=by
   rw[A49 (by omega) A2n.1 (by rw[A6g];exact A2n.2) hbb.1 hbb.2,List.take_add_one,h2,JB,htl,A6g]
   simp[Zh]
  rw[Uf];simp(disch:=omega)only[B4,B3,H0,Df,Vg h2,w,w8,wb,hj];exact ih
theorem Aaz{l:Ca}(hb:Ii l)(hl:l.length<=8)(Bn:100<=fu):Ar (CX xs) prog fu (d+1) 135 [.lst false 1 l.length (Ac .u8 l)]=some ⟨[Af (Zh l)],[]⟩:=by rw[QX];exact QQ hb hl l 0 fu rfl (by omega) (by omega)
theorem Ha(k:IntKind)(l:Ca)(i:Nat):List.drop i (Ac k l)=Ac k (l.drop i):=by
 have:=Ads (DU k) l i
 simpa using this
theorem Hx(k:IntKind)(l:Ca)(i:Nat):List.take i (Ac k l)=Ac k (l.take i):=by
 have:=Alm (DU k) l i
 simpa using this
theorem Ii.drop{l:Ca}(h:Ii l)(i:Nat):Ii (l.drop i):=fun x hx=>h x (List.mem_of_mem_drop hx)
theorem Ii.take{l:Ca}(h:Ii l)(i:Nat):Ii (l.take i):=fun x hx=>h x (List.mem_of_mem_take hx)
theorem Axa{a0 a1:Int}{n:Nat}{c:Ab}{l:Ca}(hb:Ii l)(hl:l.length<=1099511627776)(Bn:100<=fu)(nn:Nat)(v:W4):
  M9 fu (Ar (CX xs) prog fu (d+3)) a0 a1 n c (nn+1) l.length (Ac .u8 l) ((l.length / 8:Nat):Int) ((l.length / 8:Nat):Int) ((l.length / 8:Nat):Int) v.a v.b v.c v.d=some ⟨[Af (Am5 (Anz (Yd v (Sv l))))],[]⟩:=by
 have w8:wrap .i64 (8*((l.length / 8:Nat):Int))=((8*(l.length / 8):Nat):Int):=by rw[Ag (by omega) (by omega)];omega
 have wl:wrap .u64 (l.length:Int)=l.length:=Cd (by omega) (by omega);have hdl:(l.drop (8*(l.length / 8))).length=l.length-8*(l.length / 8):=List.length_drop;have li:=Aaz (xs:=xs) (fu:=fu) (d:=d+2) (hb.drop (8*(l.length / 8))) (by omega) Bn;rw[hdl] at li;have tk:List.take (l.length-8*(l.length / 8)) (Ac .u8 (l.drop (8*(l.length / 8))))=Ac .u8 (l.drop (8*(l.length / 8))):=Gv (by rw[Am,hdl];omega)
 have hbn:=AA (hb.drop (8*(l.length / 8)));rw[hdl] at hbn
 have hp7:(256:Int) ^ (l.length-8*(l.length / 8))<=256 ^ 7:=by
  have:(256:Nat) ^ (l.length-8*(l.length / 8))<=256 ^ 7:=Nat.pow_le_pow_right (by omega) (by omega);have h2:(((256:Nat) ^ (l.length-8*(l.length / 8)):Nat):Int)<=((256 ^ 7:Nat):Int):=by omega
  simpa using h2
 have A63:XH .u64 (Zh (l.drop (8*(l.length / 8)))) (Hm .u64 (l.length:Int) 56)=Sv l:=by
  have hs:Hm .u64 (l.length:Int) 56=(((l.length % 256)*2 ^ 56:Nat):Int):=by
   show wrap .u64 ((l.length:Int)*2 ^ (min (56:Int).toNat IntKind.u64.bits))=_;have h2:(2:Int) ^ (min (56:Int).toNat IntKind.u64.bits)=72057594037927936:=by decide
   have h3:(2:Nat) ^ 56=72057594037927936:=by decide
   rw[h2,h3];simp only[wrap,IntKind.signed,IntKind.bits];simp;omega
  have h56:(256:Int) ^ 7=((2 ^ 56:Nat):Int):=by decide
  have h3:(2:Nat) ^ 56=72057594037927936:=by decide
  rw[hs,(Adj 56 (l.length % 256) hbn.1 (by omega) rfl (by omega)).1];unfold Sv;omega
 have ab:=ZJ (xs:=xs) (fu:=fu) (d:=d) Bn v (Sv l);have r4:=Abo (xs:=xs) (fu:=fu) (d:=d+1) 4 (by omega) Bn ⟨(Yd v (Sv l)).a,(Yd v (Sv l)).b,Fi .u64 (Yd v (Sv l)).c 255,(Yd v (Sv l)).d⟩;have e4:((4:Nat):Int)=4:=rfl;rw[e4] at r4;unfold Anz;generalize Yd v (Sv l)=U at ab r4 ⊢;generalize Ajx 4 ⟨U.a,U.b,Fi .u64 U.c 255,U.d⟩=R at r4 ⊢;simp only[W4.cells] at ab r4;rw[BH];simp(disch:=omega)only[B4,B3,H0,Df,w8,wl,Ha,tk,li,A63,ab,r4];rfl
theorem Ag2{a0 a1:Int}{n:Nat}{c:Ab}{l:Ca}(hb:Ii l)(hl:l.length<=1099511627776)(Bn:100<=fu):∀(k i nn:Nat)(v:W4),i+k=l.length / 8->k<nn ->
  M9 fu (Ar (CX xs) prog fu (d+3)) a0 a1 n c nn l.length (Ac .u8 l) ((l.length / 8:Nat):Int) ((l.length / 8:Nat):Int) i v.a v.b v.c v.d=some ⟨[Af (Am5 (Anz (Yd (XW k v (l.drop (8*i))) (Sv l))))],[]⟩
 |_,_,0,_,_,h=>by omega
 |0,i,nn+1,v,hi,hn=>by
  have e:i=l.length / 8:=by omega
  subst e;exact Axa hb hl Bn nn v
 |k+1,i,nn+1,v,hi,hn=>by
  have w:wrap .i64 ((i:Int)+1)=((i+1:Nat):Int):=by rw[Ag (by omega) (by omega)];omega
  have w8:wrap .i64 (8*(i:Int))=((8*i:Nat):Int):=by rw[Ag (by omega) (by omega)];omega
  have w88:wrap .i64 (((8*i:Nat):Int)+8)=((8*i+8:Nat):Int):=by rw[Ag (by omega) (by omega)];omega
  have hdl:((l.drop (8*i)).take 8).length=8:=by rw[List.length_take,List.length_drop];omega
  have li:=Aaz (xs:=xs) (fu:=fu) (d:=d+2) ((hb.drop (8*i)).take 8) (by omega) Bn;rw[hdl] at li;have e8:8*i+8-8*i=8:=by omega
  have ab:=ZJ (xs:=xs) (fu:=fu) (d:=d) Bn v (Zh ((l.drop (8*i)).take 8));have ih:=Ag2 (a0:=a0) (a1:=a1) (n:=n) (c:=c) hb hl Bn k (i+1) nn (Yd v (Zh ((l.drop (8*i)).take 8))) (by omega) (by omega)
  have eN:XW (k+1) v (l.drop (8*i))=XW k (Yd v (Zh ((l.drop (8*i)).take 8))) (l.drop (8*(i+1))):=by
   rw[XW,List.drop_drop,show 8*i+8=8*(i+1) by omega]
  rw[eN];generalize Yd v (Zh ((l.drop (8*i)).take 8))=U at ab ih ⊢;simp only[W4.cells] at ab;rw[BH];simp(disch:=omega)only[B4,B3,H0,Df,w,w8,w88,e8,Ha,Hx,li,ab];exact ih
theorem Auf{l:Ca}(hb:Ii l)(hl:l.length<=1099511627776)(Bn:100<=fu)(hf:l.length<fu)(k0 k1:Int):Ar (CX xs) prog fu (d+4) 109 [Af k0,Af k1,.lst false 1 l.length (Ac .u8 l)]=some ⟨[Af (Ayu k0 k1 l)],[]⟩:=by
 rw[Abs]
 have w:wrap .i64 (Int.tdiv (l.length:Int) 8)=((l.length / 8:Nat):Int):=by
  rw[Int.tdiv_eq_ediv_of_nonneg (by omega),Ag (by omega) (by omega)];omega
 have lp:=Ag2 (xs:=xs) (fu:=fu) (d:=d) (a0:=k0) (a1:=k1) (n:=l.length) (c:=Ac .u8 l) hb hl Bn (l.length / 8) 0 fu (A23 k0 k1) (by omega) (by omega);simp only[Jc,w];exact lp
theorem Akv{l:Ca}(hb:Ii l)(hl:l.length<=1099511627776)(Bn:100<=fu)(hf:l.length<fu)(dom:Int):Ar (CX xs) prog fu (d+5) 66 [At dom,.lst false 1 l.length (Ac .u8 l)]=some ⟨[Af (S4 dom l)],[]⟩:=by rw[XQ];have s:=Auf (xs:=xs) (fu:=fu) (d:=d) hb hl Bn hf (wrap .u64 dom) 0;simp only[B4,B3,s];rfl
theorem Tv(v:W4):Ar (CX xs) prog fu (d+2) 103 [.agg [Af v.a,Af v.b,Af v.c,Af v.d]]=some ⟨[.agg (XE v).cells],[]⟩:=by have r13:=fun x=>Aus (xs:=xs) (fu:=fu) (d:=d) (x:=x) (k:=13) (by simp);have r16:=fun x=>Aus (xs:=xs) (fu:=fu) (d:=d) (x:=x) (k:=16) (by simp);have r17:=fun x=>Aus (xs:=xs) (fu:=fu) (d:=d) (x:=x) (k:=17) (by simp);have r21:=fun x=>Aus (xs:=xs) (fu:=fu) (d:=d) (x:=x) (k:=21) (by simp);have r32:=fun x=>Aus (xs:=xs) (fu:=fu) (d:=d) (x:=x) (k:=32) (by simp);rw[FP];simp(disch:=omega)only[B4,B3,r13,r16,r17,r21,r32];rfl
def BT(l:Ca)(i k:Nat):Int:=if i+k<l.length then l.getD (i+k) 0 else if k=7 then (l.length:Int) % 256 else 0
def pc(l:Ca)(i:Nat):Ca:=(List.range 8).map (BT l i)
theorem Bbs{l:Ca}(hb:Ii l)(i:Nat):Ii (pc l i):=by
 intro x hx;obtain⟨k,hk,rfl⟩:=List.mem_map.1 hx;unfold BT;split
 ·rename_i h;rw[List.getD_eq_getElem?_getD,List.getElem?_eq_getElem h];exact hb _ (List.getElem_mem h)
 ·split<;>omega
theorem Awc{l:Ca}{i:Nat}(h:i+8<=l.length):pc l i=(l.drop i).take 8:=by
 refine List.ext_getElem (by simp[pc];omega) fun k h1 h2=>?_
 have hk:k<8:=by simpa [pc] using h1
 simp only[pc,List.getElem_map,List.getElem_range,List.getElem_take,List.getElem_drop,BT];rw[Bq (by omega),List.getD_eq_getElem?_getD,List.getElem?_eq_getElem (by omega)];rfl
theorem Aa4(x:Int):∀n,Zh (List.replicate n 0++[x])=256 ^ n*x
 |0=>by simp[Zh]
 |n+1=>by
  rw[List.replicate_succ,Zzp,Zh,Aa4 x n,Int.pow_succ,Int.mul_comm (256 ^ n) 256,Int.mul_assoc];omega
theorem Awu{l:Ca}:Zh (pc l (8*(l.length / 8)))=Sv l:=by
 have e:pc l (8*(l.length / 8))=l.drop (8*(l.length / 8))++(List.replicate (7-(l.length-8*(l.length / 8))) 0++[(l.length:Int) % 256]):=by
  refine List.ext_getElem (by simp[pc];omega) fun k h1 h2=>?_
  have hk:k<8:=by simpa [pc] using h1
  simp only[pc,List.getElem_map,List.getElem_range,BT];by_cases hc:8*(l.length / 8)+k<l.length
  ·rw[Bq hc,List.getElem_append_left (by rw[List.length_drop];omega),List.getElem_drop,List.getD_eq_getElem?_getD,List.getElem?_eq_getElem hc]
   rfl
  ·rw[A5 hc,List.getElem_append_right (by rw[List.length_drop];omega)]
   by_cases h7:k=7
   ·rw[Bq h7,List.getElem_append_right (by simp;omega)]
    simp
   ·rw[A5 h7,List.getElem_append_left (by simp;omega)]
    simp
 rw[e,JB,Aa4];unfold Sv
 have:(256:Int) ^ (l.drop (8*(l.length / 8))).length*(256 ^ (7-(l.length-8*(l.length / 8)))*((l.length:Int) % 256))=72057594037927936*((l.length:Int) % 256):=by
  rw[<-Int.mul_assoc,<-Int.pow_add,List.length_drop];have:l.length-8*(l.length / 8)+(7-(l.length-8*(l.length / 8)))=7:=by omega
  rw[this];rfl
 rw[this]
theorem A5j{a b:Int}(ha:0<=a)(ha':a<72057594037927936)(hb:0<=b)(J8:b<=255):XH .u64 (Hm .u64 a 8) b=b+256*a:=by
 obtain⟨n,rfl⟩:=Int.eq_ofNat_of_zero_le ha
 have hs:Hm .u64 (n:Int) 8=((n*2 ^ 8:Nat):Int):=by
  have:=Ami (a:=(n:Int)) (k:=8) (by omega) (by omega) (by omega) (by
   have:(2 ^ (8:Int).toNat:Nat)=256:=by decide
   rw[this];omega)
  rw[this];have:(2 ^ (8:Int).toNat:Nat)=256:=by decide
  rw[this];have:(2 ^ 8:Nat)=256:=by decide
  rw[this];omega
 have h8:(2 ^ 8:Nat)=256:=by decide
 rw[hs,(Adj (a:=b) 8 n hb (by rw[h8];omega) rfl (by rw[h8];omega)).2,h8]
 omega
theorem Am2{a0 a1:Int}{n m0:Nat}{c:Ab}{l:Ca}(hb:Ii l)(hl:l.length<=1099511627776){i:Nat}(hi:i<=l.length)(v:W4):∀(j nn:Nat),j<=8->j<nn ->
  Gl fu (Ar (CX xs) prog fu (d+2)) a0 a1 n c m0 nn l.length (Ac .u8 l) i (Zh ((pc l i).drop j)) ((j:Int)-1) v.cells =
   H6 fu (Ar (CX xs) prog fu (d+2)) a0 a1 n c m0 l.length (Ac .u8 l) ((i+8:Nat):Int) (Yd v (Zh (pc l i))).cells
 |_,0,_,h=>by omega
 |0,nn+1,hj,hn=>by
  have w8:wrap .i64 ((i:Int)+8)=((i+8:Nat):Int):=by rw[Ag (by omega) (by omega)];omega
  have r1:=Tv (xs:=xs) (fu:=fu) (d:=d) ⟨v.a,v.b,v.c,Fi .u64 v.d (Zh (pc l i))⟩;have r2:=Tv (xs:=xs) (fu:=fu) (d:=d) (XE ⟨v.a,v.b,v.c,Fi .u64 v.d (Zh (pc l i))⟩);have eA:Yd v (Zh (pc l i))=A5q (XE (XE ⟨v.a,v.b,v.c,Fi .u64 v.d (Zh (pc l i))⟩)) (Zh (pc l i)):=rfl;rw[eA];generalize XE ⟨v.a,v.b,v.c,Fi .u64 v.d (Zh (pc l i))⟩=U at r1 r2 ⊢;generalize XE U=U2 at r2 ⊢;simp only[W4.cells] at r1 r2;rw[Re,Ef _ _ _ (by omega),Es];simp only[W4.cells,List.getD_cons_zero,List.getD_cons_succ,Abu,Jc];simp (disch:=first|omega|(simp;done)) only[B4,B3,Bx,List.take_succ_cons,List.take_zero,List.drop_succ_cons,Es,List.drop_nil,Zzp,SR,List.append_nil,G7,Vx,List.getD_cons_zero,List.getD_cons_succ,r1,r2,w8,Cm,Nat.reduceAdd,Nat.reduceLeDiff,List.append_eq]
  rfl
 |j+1,nn+1,hj,hn=>by
  have ih:=Am2 (a0:=a0) (a1:=a1) (n:=n) (m0:=m0) (c:=c) hb hl hi v j nn (by omega) (by omega);have hw:wrap .i64 ((i:Int)+(((j+1:Nat):Int)-1))=((i+j:Nat):Int):=by rw[Ag (by omega) (by omega)];omega
  have wj:wrap .i64 (((j+1:Nat):Int)-1-1)=(j:Int)-1:=by rw[Ag (by omega) (by omega)];omega
  have hd:(pc l i).drop j=BT l i j::(pc l i).drop (j+1):=by
   rw[List.drop_eq_getElem_cons (by simp[pc];omega)]
   simp[pc]
  have hB:=Bbs hb i;have hbn:=AA (hB.drop (j+1))
  have hp7:(256:Int) ^ ((pc l i).drop (j+1)).length<=72057594037927936:=by
   have Hr:((pc l i).drop (j+1)).length<=7:=by simp[pc]
   have:(256:Nat) ^ ((pc l i).drop (j+1)).length<=256 ^ 7:=Nat.pow_le_pow_right (by omega) Hr;have h2:(((256:Nat) ^ ((pc l i).drop (j+1)).length:Nat):Int)<=((256 ^ 7:Nat):Int):=by omega
   simpa using h2
  have hc0:0<=BT l i j/\BT l i j<=255:=hB _ (by rw[<-Es (l:=pc l i)];exact List.mem_of_mem_drop (i:=j) (by rw[Es,hd];simp))
  have hj2:XH .u64 (Hm .u64 (Zh ((pc l i).drop (j+1))) 8) (BT l i j)=Zh ((pc l i).drop j):=by
   rw[A5j hbn.1 (by omega) hc0.1 hc0.2,hd];rfl
  have wc:wrap .u64 (BT l i j)=BT l i j:=Cd (by omega) (by omega);rw[Re,HM _ _ _ (by omega)];simp only[Jc,hw];by_cases c1:i+j<l.length
  ·have e:BT l i j=l.getD (i+j) 0:=by unfold BT;rw[Bq c1]
   have e2:l[i+j]?=some (BT l i j):=by rw[e,List.getD_eq_getElem?_getD,List.getElem?_eq_getElem c1];rfl
   rw[HM _ _ _ (by omega)];simp(disch:=omega)only[B4,B3,H0,Df,Vg e2,wc,hj2,wj];exact ih
  ·rw[Ef _ _ _ (by omega)];by_cases h7:j=7
   ·subst h7;have e:BT l i 7=(l.length:Int) % 256:=by unfold BT;rw[A5 c1,Bq rfl]
    have e8:wrap .u8 (l.length:Int)=BT l i 7:=by
     rw[e];simp only[wrap,IntKind.signed,IntKind.bits];simp
    rw[Hn,Bq (by omega),e8,wc,hj2,wj];exact ih
   ·have e:BT l i j=0:=by unfold BT;rw[A5 c1,A5 h7]
    rw[e] at hj2;rw[Hn,A5 (by omega),hj2,wj];exact ih
theorem Aa9{a0 a1:Int}{n:Nat}{c:Ab}{l:Ca}(hb:Ii l)(hl:l.length<=1099511627776)(Bn:100<=fu):∀(k i nn:Nat)(v:W4),i+k=l.length / 8->k+1<nn ->
  H6 fu (Ar (CX xs) prog fu (d+2)) a0 a1 n c nn l.length (Ac .u8 l) ((8*i:Nat):Int) v.cells=some ⟨[Af (Am5 (Anz (Yd (XW k v (l.drop (8*i))) (Sv l))))],[]⟩
 |_,_,0,_,_,h=>by omega
 |k,i,nn+1,v,hi,hn=>by
  have step:=Am2 (xs:=xs) (fu:=fu) (d:=d) (a0:=a0) (a1:=a1) (n:=n) (m0:=nn) (c:=c) hb hl (i:=8*i) (by omega) v 8 fu (by omega) (by omega);have e0:Zh ((pc l (8*i)).drop 8)=0:=by rw[List.drop_of_length_le (by simp[pc])];rfl
  rw[e0] at step;rw[Rw,HM _ _ _ (by omega)];refine step.trans ?_;cases k with
  |zero=>
   have e:i=l.length / 8:=by omega
   subst e;rw[Awu];generalize hv:Yd v (Sv l)=u;obtain⟨nn',rfl⟩:∃nn',nn=nn'+1:=⟨nn-1,by omega⟩
   have r1:=Tv (xs:=xs) (fu:=fu) (d:=d) ⟨u.a,u.b,Fi .u64 u.c 255,u.d⟩;have r2:=Tv (xs:=xs) (fu:=fu) (d:=d) (XE ⟨u.a,u.b,Fi .u64 u.c 255,u.d⟩);have r3:=Tv (xs:=xs) (fu:=fu) (d:=d) (XE (XE ⟨u.a,u.b,Fi .u64 u.c 255,u.d⟩));have r4:=Tv (xs:=xs) (fu:=fu) (d:=d) (XE (XE (XE ⟨u.a,u.b,Fi .u64 u.c 255,u.d⟩)))
   have eF:Am5 (Anz (Yd (XW 0 v (l.drop (8*(l.length / 8)))) (Sv l)))=Am5 (XE (XE (XE (XE ⟨u.a,u.b,Fi .u64 u.c 255,u.d⟩)))):=by
    rw[XW,hv];rfl
   rw[eF];clear eF;generalize XE ⟨u.a,u.b,Fi .u64 u.c 255,u.d⟩=U1 at r1 r2 r3 r4 ⊢;generalize XE U1=U2 at r2 r3 r4 ⊢;generalize XE U2=U3 at r3 r4 ⊢;generalize XE U3=U4 at r4 ⊢;simp only[W4.cells] at r1 r2 r3 r4;rw[Rw,Ef _ _ _ (by omega)];simp only[W4.cells,List.getD_cons_zero,List.getD_cons_succ,Abu,Jc];simp (disch:=first|omega|(simp;done)) only[B4,B3,Bx,List.take_succ_cons,List.take_zero,List.drop_succ_cons,Es,List.drop_nil,Zzp,SR,List.append_nil,G7,Vx,List.getD_cons_zero,List.getD_cons_succ,r1,r2,r3,r4,Cm,Nat.reduceAdd,Nat.reduceLeDiff,List.append_eq]
   rfl
  |succ k=>
   have ih:=Aa9 (a0:=a0) (a1:=a1) (n:=n) (c:=c) hb hl Bn k (i+1) nn (Yd v (Zh (pc l (8*i)))) (by omega) (by omega);rw[show 8*i+8=8*(i+1) by omega,ih,Awc (by omega)];simp only[XW,List.drop_drop];rw[show 8*(i+1)=8*i+8 by omega]
theorem Alf{l:Ca}(hb:Ii l)(hl:l.length<=1099511627776)(Bn:100<=fu)(hf:l.length<fu)(k0 k1:Int):Ar (CX xs) prog fu (d+3) 61 [Af k0,Af k1,.lst false 1 l.length (Ac .u8 l)]=some ⟨[Af (Ayu k0 k1 l)],[]⟩:=by rw[ML];exact Aa9 (xs:=xs) (fu:=fu) (d:=d) (a0:=k0) (a1:=k1) (n:=l.length) (c:=Ac .u8 l) hb hl Bn (l.length / 8) 0 fu (A23 k0 k1) (by omega) (by omega)
theorem Ahl{l:Ca}(hb:Ii l)(hl:l.length<=1099511627776)(Bn:100<=fu)(hf:l.length<fu)(dom:Int):Ar (CX xs) prog fu (d+4) 33 [At dom,.lst false 1 l.length (Ac .u8 l)]=some ⟨[Af (S4 dom l)],[]⟩:=by rw[IL];have s:=Alf (xs:=xs) (fu:=fu) (d:=d) hb hl Bn hf (wrap .u64 dom) 0;simp only[B4,B3,s];rfl
theorem Am1{l:Ca}(hb:Ii l)(hl:l.length<=1099511627776)(Bn:100<=fu)(hf:l.length<fu)(key dom:Int):Ar (CX xs) prog fu (d+4) 85 [Af key,At dom,.lst false 1 l.length (Ac .u8 l)]=some ⟨[Af (Aui key dom l)],[]⟩:=by rw[KP];have s:=Alf (xs:=xs) (fu:=fu) (d:=d) hb hl Bn hf key (wrap .u64 (1+wrap .u64 dom));simp only[B4,B3,s];rfl
end
end
end Go.Proofs.YtpogefhpiaaliaaGreatDoor.Pv
