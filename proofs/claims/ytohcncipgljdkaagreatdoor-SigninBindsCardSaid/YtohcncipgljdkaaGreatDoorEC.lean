/-
  The proof of SigninBinds, part 3.
-/
import Derived.Test.YtohcncipgljdkaaGreatDoorEB
import Derived.StillTail
import Derived.WalkKit
import Derived.ProofKit
import Derived.OpenShut
import Derived.ShutString
import Derived.ChangeOld
import Derived.Below
import Derived.Deep.Slices
import Derived.ChangeSame
import Derived.WideKeyArgs
import Derived.Carry
import Derived.Test.YtohcncipgljdkaaGreatDoorRows
set_option linter.unusedSimpArgs false
set_option linter.unusedVariables false
namespace Go.Proofs.YtohcncipgljdkaaGreatDoor.Pv
open Go.IntKind (wrap)
open Go.Proofs.Tryz (prog)
set_option maxRecDepth 1000000
noncomputable section
section
section
variable {R R':Type}{Rel:Option R->Option R'->Prop}
theorem Kq(hn:Rel none none){k:IntKind}{p:PV}{K:Int->Option R}{K':Int->Option R'}(hK:∀n,Rel (K n) (K' n)):Rel (Bq k p K) (Bq k p K'):=by
 unfold Bq;split
 ·split<;>first|exact hK _|exact hn
 ·exact hn
theorem E9(hn:Rel none none){p:PV}{K:IntKind->Int->Option R}{K':IntKind->Int->Option R'}(hK:∀k n,Rel (K k n) (K' k n)):Rel (Et p K) (Et p K'):=by unfold Et;split<;>first|exact hK _ _|exact hn
theorem Io(hn:Rel none none){p:PV}{K:Bool->Option R}{K':Bool->Option R'}(hK:∀n,Rel (K n) (K' n)):Rel (Ax p K) (Ax p K'):=by unfold Ax;split<;>first|exact hK _|exact hn
theorem G4(hn:Rel none none){p:PV}{K:ByteArray->Option R}{K':ByteArray->Option R'}(hK:∀n,Rel (K n) (K' n)):Rel (Bd p K) (Bd p K'):=by unfold Bd;split<;>first|exact hK _|exact hn
theorem G6(hn:Rel none none){es:Nat}{p:PV}{K:Bool->Nat->Ae->Option R}{K':Bool->Nat->Ae->Option R'}(hK:∀z n c,Rel (K z n c) (K' z n c)):Rel (Ys es p K) (Ys es p K'):=by
 unfold Ys;split
 ·rename_i es' _ _;cases Nat.beq es' es
  ·exact hn
  ·exact hK _ _ _
 ·exact hK _ _ _
 ·exact hn
theorem Awu(hn:Rel none none){es:Nat}{p:PV}{K:PV->Option R}{K':PV->Option R'}(hK:∀p,Rel (K p) (K' p)):Rel (fsK es p K) (fsK es p K'):=by
 unfold fsK;split
 ·rename_i es' _ _;cases Nat.beq es' es
  ·exact hn
  ·exact hK _
 ·exact G6 hn fun _ _ _=>hK _
theorem Aky(hn:Rel none none){es:Nat}{p:PV}{K:Nat->Ae->Option R}{K':Nat->Ae->Option R'}(hK:∀n c,Rel (K n c) (K' n c)):Rel (Kf es p K) (Kf es p K'):=by
 unfold Kf;split
 ·rename_i es' _ _;cases Nat.beq es' es
  ·exact hn
  ·exact hK _ _
 ·exact hn
theorem Bc(hn:Rel none none){b:Bool}{K:Option R}{K':Option R'}(hK:b=true->Rel K K'):Rel (As b K) (As b K'):=by
 cases b
 ·exact hn
 ·exact hK rfl
theorem QR{b:Bool}{x y:Option R}{x' y':Option R'}(hx:Rel x x')(hy:Rel y y'):Rel (Aw b x y) (Aw b x' y'):=by
 cases b
 ·exact hy
 ·exact hx
theorem Ed(hn:Rel none none){α:Type}{o:Option α}{K:α->Option R}{K':α->Option R'}(hK:∀a,o=some a->Rel (K a) (K' a)):Rel (D4 o K) (D4 o K'):=by
 cases o
 ·exact hn
 ·exact hK _ rfl
theorem B8(hn:Rel none none){α:Type}{l:List α}{K:α->List α->Option R}{K':α->List α->Option R'}(hK:∀a r,l=a::r->Rel (K a r) (K' a r)):Rel (Ad l K) (Ad l K'):=by
 cases l
 ·exact hn
 ·exact hK _ _ rfl
theorem Gi(hn:Rel none none){α:Type}{l:List α}{K:Option R}{K':Option R'}(hK:Rel K K'):Rel (Ak l K) (Ak l K'):=by
 cases l
 ·exact hK
 ·exact hn
theorem M3(hn:Rel none none){p:PV}{K:Ae->Option R}{K':Ae->Option R'}(hK:∀c,p=.agg c->Rel (K c) (K' c)):Rel (Di p K) (Di p K'):=by
 unfold Di;split
 ·exact hK _ rfl
 ·exact hn
theorem Amz(hn:Rel none none){p:PV}{K:Ae->Option R}{K':Ae->Option R'}(hK:∀c,Rel (K c) (K' c)):Rel (EP p K) (EP p K'):=by
 unfold EP;split
 ·exact hK _
 ·exact hn
theorem ZB(hn:Rel none none){r:Option Bv}{K:Ae->List Ae->Option R}{K':Ae->List Ae->Option R'}(hK:∀v o,Rel (K v o) (K' v o)):Rel (A9 r K) (A9 r K'):=by
 unfold A9;split
 ·exact hK _ _
 ·exact hn
theorem Ali(hn:Rel none none){p:PV}{K:Value->Option R}{K':Value->Option R'}(hK:∀v,Rel (K v) (K' v)):Rel (fnK p K) (fnK p K'):=by
 unfold fnK;split
 ·exact hK _
 ·exact hK _
 ·exact hn
theorem Ayy(hn:Rel none none){p:PV}{K:FuncId->Option R}{K':FuncId->Option R'}(hK:∀v,Rel (K v) (K' v)):Rel (fvK p K) (fvK p K'):=by
 unfold fvK;split
 ·rename_i f a b;cases (a.isEmpty&&b.isEmpty)
  ·exact hn
  ·exact hK _
 ·exact hn
theorem U7(hn:Rel none none){t:CT}{p:PV}{K:PV->Option R}{K':PV->Option R'}(hK:∀p,Rel (K p) (K' p)):Rel (MB t p K) (MB t p K'):=by
 unfold MB;split
 ·exact Kq hn fun _=>hK _
 ·exact Io hn fun _=>hK _
 ·exact G4 hn fun _=>hK _
 ·exact G6 hn fun _ _ _=>hK _
 ·exact Ali hn fun _=>hK _
theorem Azq(hn:Rel none none){t:CT}{p:PV}{K:PV->Option R}{K':PV->Option R'}(hK:∀p,Rel (K p) (K' p)):Rel (fcK t p K) (fcK t p K'):=by
 unfold fcK;split
 ·exact Awu hn hK
 ·exact U7 hn hK
theorem Wi(hn:Rel none none):∀{ts:List CT}{cells:Ae}{off:Nat}{K:Ae->Option R}{K':Ae->Option R'},(∀c,Rel (K c) (K' c))->Rel (Zq ts cells off K) (Zq ts cells off K')
 |[],_,_,_,_,hK=>hK _
 |_::_,_,_,_,_,hK=>U7 hn fun _=>Wi hn fun _=>hK _
theorem S7(hn:Rel none none):∀{ts:List CT}{cells:Ae}{off:Nat}{K:Ae->Option R}{K':Ae->Option R'},(∀c,Rel (K c) (K' c))->Rel (Tu ts cells off K) (Tu ts cells off K')
 |[],_,_,_,_,hK=>hK _
 |_::_,_,_,_,_,hK=>Azq hn fun _=>S7 hn fun _=>hK _
theorem IH(hn:Rel none none){g:Bool}{cells:Ae}{K:PV->Option R}{K':PV->Option R'}(hK:∀p,Rel (K p) (K' p)):Rel (mkV g cells K) (mkV g cells K'):=by
 cases g
 ·exact B8 hn fun _ _ _=>Gi hn (hK _)
 ·exact hK _
theorem All(hn:Rel none none){P:Program}{t:TypeId}{v:Value}{K:PV->Option R}{K':PV->Option R'}(hK:∀p,Cd p=[]->Rel (K p) (K' p))(hK':∀c,Rel (K (.agg c)) (K' (.agg c))):Rel (cvK P t v K) (cvK P t v K'):=by
 unfold cvK;split
 ·exact Bc hn fun _=>Wi hn fun _=>hK' _
 ·split
  ·exact hK _ rfl
  ·exact hn
 ·exact hK _ rfl
theorem Atk(hn:Rel none none){op:BinOp}{x y:Int}{K:Bool->Option R}{K':Bool->Option R'}(hK:∀n,Rel (K n) (K' n)):Rel (Az9 op x y K) (Az9 op x y K'):=by unfold Az9;split<;>first|exact hK _|exact hn
theorem Aj6(hn:Rel none none){op:BinOp}{k:IntKind}{x y:Int}{K:PV->Option R}{K':PV->Option R'}(hK:∀n,Rel (K n) (K' n)):Rel (RL op k x y K) (RL op k x y K'):=by unfold RL;split<;>first|exact hK _|exact Bc hn fun _=>hK _|exact Atk hn fun _=>hK _
theorem Aht(hn:Rel none none){op:BinOp}{x y:ByteArray}{K:PV->Option R}{K':PV->Option R'}(hK:∀n,Rel (K n) (K' n)):Rel (VM op x y K) (VM op x y K'):=by unfold VM;split<;>first|exact hK _|exact Bc hn fun _=>hK _|exact hn
theorem XJ(hn:Rel none none){e:Bool}{p:PV}{K:PV->Option R}{K':PV->Option R'}(hK:∀n,Rel (K n) (K' n)):Rel (SI e p K) (SI e p K'):=by unfold SI;split<;>first|exact hK _|exact QR (hK _) (QR (hK _) (hK _))|exact QR (hK _) (hK _)|exact hn
theorem Afb(hn:Rel none none):∀{ts:List CT}{ps qs:Ae}{K:Bool->Option R}{K':Bool->Option R'},(∀b,Rel (K b) (K' b))->Rel (O8 ts ps qs K) (O8 ts ps qs K'):=by
 intro ts
 induction ts with
 |nil=>
  intro ps qs K K' hK;cases ps<;>cases qs<;>first|exact hK _|exact hn
 |cons t ts ih=>
  intro ps qs K K' hK;cases ps with
  |nil=>cases t<;>cases qs<;>exact hn
  |cons p ps=>
   cases qs with
   |nil=>cases t<;>exact hn
   |cons q qs=>
    cases t
    ·exact Kq hn fun _=>Kq hn fun _=>ih fun _=>hK _
    ·exact Io hn fun _=>Io hn fun _=>ih fun _=>hK _
    ·exact G4 hn fun _=>G4 hn fun _=>ih fun _=>hK _
    ·exact hn
    ·exact hn
theorem Asi(hn:Rel none none){P:Program}{op:BinOp}{t:TypeId}{x y:PV}{K:PV->Option R}{K':PV->Option R'}(hK:∀p,Rel (K p) (K' p)):Rel (Aub P op t x y K) (Aub P op t x y K'):=by
 unfold Aub;split
 ·split
  ·exact Kq hn fun _=>E9 hn fun _ _=>Bc hn fun _=>hK _
  ·exact Kq hn fun _=>E9 hn fun _ _=>Bc hn fun _=>hK _
  ·exact Kq hn fun _=>Kq hn fun _=>Aj6 hn hK
 ·exact G4 hn fun _=>G4 hn fun _=>Aht hn hK
 ·split
  ·exact Io hn fun _=>Io hn fun _=>hK _
  ·exact Io hn fun _=>Io hn fun _=>hK _
  ·exact hn
 ·split
  ·exact XJ hn fun _=>hK _
  ·exact XJ hn fun _=>hK _
  ·exact hn
 ·split
  ·exact hK _
  ·exact hK _
  ·exact hn
 ·exact hn
theorem Ad3(hn:Rel none none){P:Program}{op:BinOp}{t:TypeId}{x y:PV}{K:PV->Option R}{K':PV->Option R'}(hK:∀p,Rel (K p) (K' p)):Rel (DC P op t x y K) (DC P op t x y K'):=by
 unfold DC;split
 ·split
  ·exact Bc hn fun _=>M3 hn fun _ _=>M3 hn fun _ _=>Afb hn fun _=>hK _
  ·exact Bc hn fun _=>M3 hn fun _ _=>M3 hn fun _ _=>Afb hn fun _=>hK _
  ·exact hn
 ·exact Asi hn hK
theorem Azt(hn:Rel none none){op:UnOp}{x:PV}{K:PV->Option R}{K':PV->Option R'}(hK:∀p,Rel (K p) (K' p)):Rel (unK op x K) (unK op x K'):=by unfold unK;split<;>first|exact Io hn fun _=>hK _|exact E9 hn fun _ _=>hK _|exact hn
theorem E7(hn:Rel none none){p:Option PV}{d:Nat}{K:Nat->Option R}{K':Nat->Option R'}(hK:∀n,Rel (K n) (K' n)):Rel (Is p d K) (Is p d K'):=by
 unfold Is;split
 ·exact hK _
 ·exact E9 hn fun _ _=>Bc hn fun _=>hK _
theorem LV(hn:Rel none none){x:PV}{d:Nat}{K:PV->Option R}{K':PV->Option R'}(hK:∀n,Rel (K n) (K' n)):Rel (AB x d K) (AB x d K'):=by unfold AB;split<;>first|exact hK _|exact hn
theorem TP(hn:Rel none none){P:Program}{t:TypeId}{x:PV}{i:Int}{K:PV->Option R}{K':PV->Option R'}(hK:∀p,Rel (K p) (K' p)):Rel (N3 P t x i K) (N3 P t x i K'):=by
 unfold N3;split
 ·exact Bc hn fun _=>Bc hn fun _=>LV hn hK
 ·refine Bc hn fun _=>?_;split
  ·exact Bc hn fun _=>Bc hn fun _=>hK _
  ·exact G6 hn fun _ _ _=>Bc hn fun _=>hK _
 ·exact hn
theorem ME(hn:Rel none none){Ik:Nat->Option (Nat × Nat)}:∀{ps:List (Nat × PV)} {cells:Ae}{K:Ae->Option R}{K':Ae->Option R'},(∀c,Rel (K c) (K' c))->Rel (BE Ik ps cells K) (BE Ik ps cells K')
 |[],_,_,_,hK=>hK _
 |(_,_)::_,_,_,_,hK=>Ed hn fun _ _=>Bc hn fun _=>ME hn hK
theorem AW(hn:Rel none none){P:Program}{t:TypeId}{K:Ae->Option R}{K':Ae->Option R'}(hK:∀p,Rel (K p) (K' p)):Rel (I0 P t K) (I0 P t K'):=
 Ed hn fun _ _=>Bc hn fun _=>Wi hn hK
theorem Ath(hn:Rel none none){x y:PV}{K:PV->Option R}{K':PV->Option R'}(hK:∀p,Rel (K p) (K' p)):Rel (Ayj x y K) (Ayj x y K'):=
 E9 hn fun _ _=>Kq hn fun _=>hK _
theorem Aq0(hn:Rel none none){x y:PV}{K:PV->Option R}{K':PV->Option R'}(hK:∀p,Rel (K p) (K' p)):Rel (Aw2 x y K) (Aw2 x y K'):=
 E9 hn fun _ _=>Kq hn fun _=>hK _
theorem Ara(hn:Rel none none){P:Program}{t:TypeId}{x:PV}{K:Nat->Option R}{K':Nat->Option R'}(hK:∀p,Rel (K p) (K' p)):Rel (Apd P t x K) (Apd P t x K'):=by
 unfold Apd;split
 ·exact G4 hn fun _=>hK _
 ·exact hK _
 ·split
  ·exact Bc hn fun _=>hK _
  ·exact G6 hn fun _ _ _=>hK _
 ·exact hn
def Agr(Rel:Option R->Option R'->Prop)(f f':Nat->Option Ae)(l:B9):Prop:=∀i∈l,f i=f' i\/(f i=none/\∀b,Rel none b)
variable {f f':Nat->Option Ae}
theorem Agr.sub{l l':B9}(h:Agr Rel f f' l)(hs:∀i∈l',i∈l):Agr Rel f f' l':=fun i hi=>h i (hs i hi)
theorem IR(hn:Rel none none){l:B9}{id:Nat}(hf:Agr Rel f f' l)(hi:id∈l){K:Ae->Option R}{K':Ae->Option R'}(hK:∀c,f id=some c->Rel (K c) (K' c)):Rel (D4 (f id) K) (D4 (f' id) K'):=by
 rcases hf id hi with h|⟨h,hb⟩
 ·rw[<-h];exact Ed hn hK
 ·rw[h];exact hb _
theorem Wa(hn:Rel none none){es:Nat}{p:PV}{K:Nat->Ae->Option R}{K':Nat->Ae->Option R'}(hf:Agr Rel f f' (Au p))(hK:∀n c,Rel (K n c) (K' n c)):Rel (Afg f es p K) (Afg f' es p K'):=by
 unfold Afg;split
 ·rename_i id es' off n;cases Nat.beq es' es
  ·exact hn
  ·exact IR hn hf (by simp[Au]) fun _ _=>Bc hn fun _=>hK _ _
 ·exact G6 hn fun _ _ _=>hK _ _
theorem At6(hn:Rel none none){t:CT}{p:PV}{K:PV->B9->Option R}{K':PV->B9->Option R'}(hf:Agr Rel f f' (Au p))(hK:∀c m,(∀i∈m,f i≠none)->Rel (K c m) (K' c m)):Rel (Tr f t p K) (Tr f' t p K'):=by
 unfold Tr;split
 ·split
  ·rename_i id es' off n;cases Nat.beq es' _
   ·exact hn
   ·exact IR hn hf (by simp[Au]) fun c hc=>Bc hn fun _=>hK _ _ (by simp[hc])
  ·exact G6 hn fun _ _ _=>hK _ _ (by simp)
 ·exact U7 hn fun _=>hK _ _ (by simp)
theorem DA(hn:Rel none none):∀{ts:List CT}{ps:Ae}{K:Ae->B9->Option R}{K':Ae->B9->Option R'},Agr Rel f f' (ps.flatMap Au)->(∀c m,(∀i∈m,f i≠none)->Rel (K c m) (K' c m))->Rel (Sl f ts ps K) (Sl f' ts ps K')
 |[],[],_,_,_,hK=>hK _ _ (by simp)
 |[],_::_,_,_,_,_=>hn
 |_::_,[],_,_,_,_=>hn
 |_::_,p::ps,_,_,hf,hK=>At6 hn (fun i hi=>hf i (by simp only[Ji,B5];exact .inl hi)) fun _ m hm=>DA hn (fun i hi=>hf i (by simp only[Ji,B5];exact .inr hi)) fun _ ms RZ=>hK _ _ fun i hi=>by
   rcases B5.1 hi with h|h
   ·exact hm i h
   ·exact RZ i h
theorem Ary(hn:Rel none none){P:Program}{t:TypeId}{p:PV}{K:PV->B9->Option R}{K':PV->B9->Option R'}(hf:Agr Rel f f' (Ct p))(hK:∀c m,(∀i∈m,f i≠none)->Rel (K c m) (K' c m)):Rel (Aih P f t p K) (Aih P f' t p K'):=by
 unfold Aih
 have h1:∀i,i∈[p].flatMap Au->i∈Ct p:=by
  intro i hi;simp only[Ji,List.flatMap_nil,List.append_nil] at hi;cases p<;>first|exact hi|simp[Au] at hi
 cases C5 P t
 ·exact DA hn (fun i hi=>hf i (h1 i hi)) fun _ _ hm=>B8 hn fun _ _ _=>Gi hn (hK _ _ hm)
 ·refine M3 hn fun c hc=>?_;subst hc;exact DA hn (fun i hi=>hf i hi) fun _ _ hm=>hK _ _ hm
theorem ZT(hn:Rel none none){P:Program}:∀{ts:List TypeId}{ps:Ae}{K:Ae->B9->Option R}{K':Ae->B9->Option R'},Agr Rel f f' (ps.flatMap Ct)->(∀c m,(∀i∈m,f i≠none)->Rel (K c m) (K' c m))->Rel (TU P f ts ps K) (TU P f' ts ps K')
 |[],[],_,_,_,hK=>hK _ _ (by simp)
 |[],_::_,_,_,_,_=>hn
 |_::_,[],_,_,_,_=>hn
 |_::_,p::ps,_,_,hf,hK=>Ary hn (fun i hi=>hf i (by simp only[Ji,B5];exact .inl hi)) fun _ m hm=>ZT hn (fun i hi=>hf i (by simp only[Ji,B5];exact .inr hi)) fun _ ms RZ=>hK _ _ fun i hi=>by
   rcases B5.1 hi with h|h
   ·exact hm i h
   ·exact RZ i h
theorem Ai6(hn:Rel none none){P:Program}{t:TypeId}{x:PV}{lo hi:Option PV}{K:PV->Option R}{K':PV->Option R'}(hf:(∃n e,P.underlying t=some (.array n e))->Agr Rel f f' (Au x))(hK:∀c,Rel (K c) (K' c)):Rel (MI P f t x lo hi K) (MI P f' t x lo hi K'):=by
 unfold MI;split
 ·exact G4 hn fun _=>E7 hn fun _=>E7 hn fun _=>Bc hn fun _=>hK _
 ·refine Bc hn fun _=>?_;split
  ·exact Bc hn fun _=>E7 hn fun _=>E7 hn fun _=>Bc hn fun _=>hK _
  ·exact G6 hn fun _ _ _=>E7 hn fun _=>E7 hn fun _=>Bc hn fun _=>hK _
 ·rename_i n e hu;refine Bc hn fun _=>?_;split
  ·rename_i id off;exact IR hn (hf ⟨_,_,hu⟩) (by simp[Au]) fun _ _=>Bc hn fun _=>E7 hn fun _=>E7 hn fun _=>Bc hn fun _=>hK _
  ·exact hn
 ·exact hn
theorem Agi(hn:Rel none none){P:Program}{d:Nat}{t:TypeId}{x:PV}{lo hi mx:Option PV}{K:PV->List (Nat × Cc)->Option R}{K':PV->List (Nat × Cc)->Option R'}(hK:∀c,Rel (K c [(d,.ar false [])]) (K' c [(d,.ar false [])])):Rel (CQ P d t x lo hi mx K) (CQ P d t x lo hi mx K'):=by
 unfold CQ;split
 ·refine Bc hn fun _=>?_;split
  ·exact Bc hn fun _=>E7 hn fun _=>E7 hn fun _=>E7 hn fun _=>Bc hn fun _=>hK _
  ·exact G6 hn fun _ _ _=>E7 hn fun _=>E7 hn fun _=>E7 hn fun _=>Bc hn fun _=>hK _
 ·exact hn
theorem Aak{nz:Bool}{g g':Nat->Option Ae}(hn:Rel none none){P:Program}{t:TypeId}{x:PV}{K:PV->Option R}{K':PV->Option R'}(hf:∀i∈Au x,(f i=f' i/\g i=g' i)\/(f i=none/\g i=none/\∀b,Rel none b))(hK:∀c,Rel (K c) (K' c)):Rel (JH nz P f g t x K) (JH nz P f' g' t x K'):=by
 unfold JH;split
 ·rename_i id off;refine Bc hn fun _=>?_;rcases hf id (by simp[Au]) with⟨h1,h2⟩|⟨h1,h2,h3⟩
  ·rw[<-h1,<-h2];split
   ·exact Wi hn fun _=>IH hn fun _=>hK _
   ·exact Ed hn fun _ _=>S7 hn fun _=>IH hn hK
  ·rw[h1,h2];exact h3 _
 ·exact Bc hn fun _=>Wi hn fun _=>IH hn fun _=>hK _
 ·exact hn
theorem Ank(hn:Rel none none){P:Program}{d:Nat}{src dst:TypeId}{x:PV}{K:PV->List (Nat × Cc)->Option R}{K':PV->List (Nat × Cc)->Option R'}(hf:P.underlying dst=some .string->Agr Rel f f' (Au x))(hK:∀v b,(∀q∈b,q.1=d)->Rel (K v b) (K' v b)):Rel (SN P f d src dst x K) (SN P f' d src dst x K'):=by
 unfold SN;split
 ·exact Bc hn fun _=>E9 hn fun _ _=>hK _ _ (by simp)
 ·rename_i hds;split
  ·exact G4 hn fun _=>hK _ _ (by simp)
  ·split
   ·exact Wa hn (hf hds) fun _ _=>Bc hn fun _=>Ed hn fun _ _=>hK _ _ (by simp)
   ·exact Wa hn (hf hds) fun _ _=>Bc hn fun _=>Ed hn fun _ _=>hK _ _ (by simp)
   ·exact hn
  ·exact hn
 ·split
  ·exact G4 hn fun _=>Bc hn fun _=>hK _ _ (by simp)
  ·exact hn
 ·exact hn
theorem Au8(hn:Rel none none){shr:Bool}{id:Nat}{t:CT}{p:PV}{K:PV->List (Nat × Cc)->Option R}{K':PV->List (Nat × Cc)->Option R'}(hK:∀c b,(∀q∈b,q.1=id)->Rel (K c b) (K' c b)):Rel (Aqn shr id t p K) (Aqn shr id t p K'):=by
 unfold Aqn;split
 ·cases shr
  ·exact Aky hn fun _ _=>hK _ _ (by simp)
  ·exact G6 hn fun _ _ _=>hK _ _ (by simp)
 ·exact U7 hn fun _=>hK _ _ (by simp)
theorem CN(hn:Rel none none){shr:Bool}{N:Nat}:∀{ts:List CT}{id:Nat}{ps:Ae}{K:Ae->List (Nat × Cc)->Option R} {K':Ae->List (Nat × Cc)->Option R'},(∀c b,(∀q∈b,∃j,q.1=id+N*j)->Rel (K c b) (K' c b))->Rel (Wm shr N id ts ps K) (Wm shr N id ts ps K')
 |[],_,_,_,_,hK=>Gi hn (hK _ _ (by simp))
 |_::_,id,_,_,_,hK=>B8 hn fun _ _ _=>Au8 hn fun _ b hb=>CN hn fun _ bs PZ=>hK _ _ fun q hq=>by
   rcases B5.1 hq with h|h
   ·exact⟨0,by rw[hb q h];simp⟩
   ·obtain⟨j,hj⟩:=PZ q h;exact⟨j+1,by rw[hj,Nat.mul_add];omega⟩
theorem Avf(hn:Rel none none){P:Program}{shr:Bool}{N id:Nat}{t:TypeId}{p:PV}{K:PV->List (Nat × Cc)->Option R}{K':PV->List (Nat × Cc)->Option R'}(hK:∀c b,(∀q∈b,∃j,q.1=id+N*j)->Rel (K c b) (K' c b)):Rel (Anx P shr N id t p K) (Anx P shr N id t p K'):=by
 unfold Anx;split
 ·refine Amz hn fun ps=>CN hn fun _ _ hb=>hK _ _ fun q hq=>?_;rcases Ch.1 hq with rfl|hq
  ·exact⟨0,by simp⟩
  ·obtain⟨j,hj⟩:=hb q hq;exact⟨j+1,by rw[hj,Nat.mul_add];omega⟩
 cases C5 P t
 ·exact CN hn fun _ _ hb=>B8 hn fun _ _ _=>Gi hn (hK _ _ hb)
 ·exact M3 hn fun _ _=>CN hn fun _ _ hb=>hK _ _ hb
theorem LU(hn:Rel none none){P:Program}{shr:Bool}{N:Nat}:∀{ts:List TypeId}{id:Nat}{ps:Ae}{K:Ae->List (Nat × Cc)->Option R} {K':Ae->List (Nat × Cc)->Option R'},(∀c b,(∀q∈b,∃j,q.1=id+N*j)->Rel (K c b) (K' c b))->Rel (NN P shr N id ts ps K) (NN P shr N id ts ps K')
 |[],_,_,_,_,hK=>Gi hn (hK _ _ (by simp))
 |t::_,id,_,_,_,hK=>B8 hn fun _ _ _=>Avf hn fun _ b hb=>LU hn fun _ bs PZ=>hK _ _ fun q hq=>by
   rcases B5.1 hq with h|h
   ·exact hb q h
   ·obtain⟨j,hj⟩:=PZ q h;exact⟨Af5 P t+j,by rw[hj,Nat.mul_add];omega⟩
end
theorem AJ{p:PV}{i:Nat}(h:i∈Au p):i∈Ct p:=by cases p<;>first|exact h|simp[Au] at h
theorem G9{p:PV}{i:Nat}(h:i∈Ct p):i∈Cd p:=by cases p<;>first|exact h|simp[Ct,Au] at h
theorem Ot{p:PV}{i:Nat}(h:i∈Au p):i∈Cd p:=G9 (AJ h)
section
variable {R R':Type}{Rel:Option R->Option R'->Prop}{P:Program}{N:Nat}{tm tm':Nat->PV}{f f' g g':Nat->Option Ae}{o:Oper}
theorem UJ(hn:Rel none none){t:TypeId}{x:Operand}{K:PV->Option R}{K':PV->Option R'}(hx:Cx tm x=Cx tm' x)(hK:∀p,Rel (K p) (K' p)):Rel (ML P t tm x K) (ML P t tm' x K'):=by
 unfold ML;split
 ·exact All hn (fun _ _=>hK _) (fun _=>hK _)
 ·rw[hx];exact hK _
theorem Arb(hn:Rel none none){t:CT}{p:PV}{K:PV->Option R}{K':PV->Option R'}(hK:∀p,Au p=[]->Rel (K p) (K' p)):Rel (MB t p K) (MB t p K'):=by
 unfold MB;split
 ·exact Kq hn fun _=>hK _ rfl
 ·exact Io hn fun _=>hK _ rfl
 ·exact G4 hn fun _=>hK _ rfl
 ·exact G6 hn fun _ _ _=>hK _ rfl
 ·exact Ali hn fun _=>hK _ rfl
theorem XZ(hn:Rel none none):∀{ts:List CT}{cells:Ae}{off:Nat}{K:Ae->Option R}{K':Ae->Option R'},(∀c,(∀p∈c,Au p=[])->Rel (K c) (K' c))->Rel (Zq ts cells off K) (Zq ts cells off K')
 |[],_,_,_,_,hK=>hK _ (by simp)
 |_::_,_,_,_,_,hK=>Arb hn fun c hc=>XZ hn fun cs Z5=>hK _ (by
   intro p hp;rcases Ch.1 hp with h|h
   ·rw[h];exact hc
   ·exact Z5 p h)
theorem IK(hn:Rel none none){t:TypeId}{K:Ae->Option R}{K':Ae->Option R'}(hK:∀c,(∀p∈c,Au p=[])->Rel (K c) (K' c)):Rel (I0 P t K) (I0 P t K'):=
 Ed hn fun _ _=>Bc hn fun _=>XZ hn hK
theorem AY{p c:PV}(h:c∈cellsOf p){i:Nat}(hi:i∈Au c):i∈Ct p:=by
 unfold cellsOf at h;split at h
 ·exact List.mem_flatMap.2 ⟨c,h,hi⟩
 ·simp at h;subst h;exact AJ hi
theorem Aju{cells new:Ae}{off:Nat}{c:PV}(h:c∈B6 cells new off):c∈cells\/c∈new:=by
 unfold B6 at h;rcases B5.1 h with h|h
 ·rcases B5.1 h with h|h
  ·exact .inl (List.mem_of_mem_take h)
  ·exact .inr h
 ·exact .inl (List.mem_of_mem_drop h)
theorem UX(hn:Rel none none){Ik:Nat->Option (Nat × Nat)}{S:Nat->Prop}:∀{ps:List (Nat × PV)} {cells:Ae}{K:Ae->Option R}{K':Ae->Option R'},(∀c∈cells,∀i∈Au c,S i)->(∀q∈ps,∀i∈Ct q.2,S i) ->
  (∀cs,(∀c∈cs,∀i∈Au c,S i)->Rel (K cs) (K' cs))->Rel (BE Ik ps cells K) (BE Ik ps cells K')
 |[],_,_,_,h1,_,hK=>hK _ h1
 |(_,p)::_,_,_,_,h1,h2,hK=>Ed hn fun _ _=>Bc hn fun _=>UX hn (fun c hc i hi=>by
   rcases Aju hc with h|h
   ·exact h1 c h i hi
   ·exact h2 (_,p) FR i (AY h hi)) (fun q hq=>h2 q (Tz _ hq)) hK
theorem PE(hn:Rel none none):∀{ts:List CT}{ps:Ae}{K:Ae->B9->Option R}{K':Ae->B9->Option R'},(∀t∈ts,∀es,t ≠ .sl es)->(∀c,Rel (K c []) (K' c []))->Rel (Sl g ts ps K) (Sl g' ts ps K')
 |[],[],_,_,_,hK=>hK _
 |[],_::_,_,_,_,_=>hn
 |_::_,[],_,_,_,_=>hn
 |t::ts,p::ps,K,K',ht,hK=>by
  show Rel (Tr g t p _) (Tr g' t p _)
  have:∀{g:Nat->Option Ae} {S:Type} {L:PV->B9->Option S},Tr g t p L=MB t p fun c=>L c []:=by
   intro g S L;cases t with
   |sl es=>exact absurd rfl (ht _ (by simp) es)
   |_=>rfl
  rw[this,this];exact U7 hn fun c=>PE hn (fun t h=>ht t (by simp[h])) fun cs=>hK _
theorem Arg(hn:Rel none none){es:Nat}{t:TypeId}{x:PV}{K:Nat->Ae->Option R}{K':Nat->Ae->Option R'}(hx:Agr Rel g g' (Au x))(hK:∀m c,Rel (K m c) (K' m c)):Rel (Aig P g es t x K) (Aig P g' es t x K'):=by
 unfold Aig;split
 ·exact Bc hn fun _=>G4 hn fun _=>hK _ _
 ·exact Wa hn hx hK
 ·exact hn
theorem Atc(hn:Rel none none){t:TypeId}{x:PV}{K:Nat->Option R}{K':Nat->Option R'}(hK:∀n,Rel (K n) (K' n)):Rel (Apz P t x K) (Apz P t x K'):=by
 unfold Apz;split
 ·exact G6 hn fun _ _ _=>Bc hn fun _=>hK _
 ·exact hn
theorem Ad2(hn:Rel none none){d:Nat}{t tx:TypeId}{x:PV}{K:PV->List (Nat × Cc)->Option R}{K':PV->List (Nat × Cc)->Option R'}(hx:Agr Rel g g' (Au x))(hK:∀v nw,Rel (K v nw) (K' v nw)):Rel (DD P g d t tx x K) (DD P g' d t tx x K'):=by
 unfold DD;split
 ·exact Bc hn fun _=>Arg hn hx fun _ _=>Bc hn fun _=>hK _ _
 ·exact hn
theorem UE(hn:Rel none none){C:Ih}{call:Ap}{K:PV->B9->List (Nat × Cc)->Option R}{K':PV->B9->List (Nat × Cc)->Option R'}(M7:∀x∈o.op.operands.toList,Cx tm x=Cx tm' x)(hfg:J3 P o.op=true->∀x∈o.op.operands.toList,∀i∈Cd (Cx tm' x),(f i=f' i/\g i=g' i)\/(f i=none/\g i=none/\∀b,Rel none b))(hK:∀v fz nw,(J3 P o.op=false->fz=[]/\∀q∈nw,o.dst=some q.1)->(∀i∈fz,g i≠none)->Rel (K v fz nw) (K' v fz nw)):
  Rel (SF C P N call tm f g o K) (SF C P N call tm' f' g' o K'):=by
 have h0:∀v,Rel (K v [] []) (K' v [] []):=fun v=>hK v [] [] (fun _=>⟨rfl,by simp⟩) (by simp);have hf:J3 P o.op=true->∀x∈o.op.operands.toList,Agr Rel f f' (Cd (Cx tm' x)):=fun h x hx i hi=>(hfg h x hx i hi).imp (·.1) fun h=>⟨h.1,h.2.2⟩;have hg:J3 P o.op=true->∀x∈o.op.operands.toList,Agr Rel g g' (Cd (Cx tm' x)):=fun h x hx i hi=>(hfg h x hx i hi).imp (·.2) fun h=>⟨h.2.1,h.2.2⟩;unfold SF;generalize hop:o.op=op at *
 split
 ·exact UJ hn (M7 _ (by simp[Op.operands])) h0
 ·exact UJ hn (M7 _ (by simp[Op.operands])) h0
 ·rename_i c x y;rw[M7 c (by simp[Op.operands]),M7 x (by simp[Op.operands]),M7 y (by simp[Op.operands])];exact Io hn fun _=>QR (h0 _) (h0 _)
 ·exact Ed hn fun d hd=>AW hn fun _=>hK _ _ _ (fun _=>⟨rfl,by simp[hd]⟩) (by simp)
 ·rename_i t x;rw[M7 x (by simp[Op.operands])];refine Ed hn fun d hd=>Bc hn fun _=>?_;cases Yk P t
  ·exact S7 hn fun _=>hK _ _ _ (fun _=>⟨rfl,by simp[hd]⟩) (by simp)
  ·exact Wi hn fun _=>hK _ _ _ (fun _=>⟨rfl,by simp[hd]⟩) (by simp)
 ·rename_i t ps
  have:(ps.toList.map fun q=>(q.1,Cx tm q.2))=ps.toList.map fun q=>(q.1,Cx tm' q.2):=by
   apply List.map_congr_left;intro q hq;rw[M7 q.2 (by simp only[Op.operands];exact List.mem_map_of_mem hq)]
  rw[this];exact Bc hn fun _=>AW hn fun _=>ME hn fun _=>S7 hn fun _=>h0 _
 ·rename_i t n ps
  have:(ps.toList.map fun q=>(q.1,Cx tm q.2))=ps.toList.map fun q=>(q.1,Cx tm' q.2):=by
   apply List.map_congr_left;intro q hq;rw[M7 q.2 (by simp only[Op.operands];exact List.mem_map_of_mem hq)]
  rw[this];refine Ed hn fun d hd=>?_;split
  ·rename_i e hu;cases XW:Mg P [e]
   ·refine Bc hn fun _=>IK hn fun z hz=>ME hn fun cs=>PE hn ?_ fun cs'=>hK _ _ _ (fun _=>⟨rfl,by simp[hd]⟩) (by simp);intro c hc es he;obtain⟨l,hl,hc⟩:=List.mem_flatten.1 hc;rw[List.eq_of_mem_replicate hl] at hc;subst he
    have:Mg P [e]=true:=by
     unfold Mg;simp only[List.any_cons,List.any_nil,Bool.or_false,Bool.or_eq_true];exact .inr (List.any_eq_true.2 ⟨_,hc,rfl⟩)
    rw[this] at XW;cases XW
   refine Bc hn fun _=>IK hn fun z hz=>UX (S:=fun i=>∃x∈(Op.buildSlice t n ps).operands.toList,i∈Cd (Cx tm' x)) hn ?_ ?_ fun cs Z5=>?_
   ·intro c hc i hi;obtain⟨l,hl,hc⟩:=List.mem_flatten.1 hc;rw[List.eq_of_mem_replicate hl] at hc;rw[hz c hc] at hi;simp at hi
   ·intro q hq i hi;obtain⟨q',Hb,rfl⟩:=List.mem_map.1 hq;exact⟨q'.2,by simp only[Op.operands];exact List.mem_map_of_mem Hb,G9 hi⟩
   ·refine DA hn (fun i hi=>?_) fun cs' m hm=>hK _ _ _ (fun h=>by simp[J3,hu,XW] at h) hm;obtain⟨c,hc,hi⟩:=List.mem_flatMap.1 hi;obtain⟨x,hx,hxi⟩:=Z5 c hc i hi;exact hg (by simp[J3,hu,XW]) x hx i hxi
  ·exact hn
 ·rename_i t x;rw[M7 x (by simp[Op.operands])];exact Aak hn (fun i hi=>hfg (by simp[J3]) x (by simp[Op.operands]) i (Ot hi)) h0
 ·rename_i x;rw[M7 x (by simp[Op.operands])];exact LV hn h0
 ·rename_i op' t x y _;rw[M7 x (by simp[Op.operands]),M7 y (by simp[Op.operands])];exact Ad3 hn h0
 ·rename_i op' t x;rw[M7 x (by simp[Op.operands])];exact Azt hn h0
 ·rename_i src dst x;rw[M7 x (by simp[Op.operands])];exact Ank hn (fun hds i hi=>hg (by simp[J3,hds]) x (by simp[Op.operands]) i (Ot hi)) fun v b hb=>Ed hn fun d hd=>hK _ _ _ (fun _=>⟨rfl,fun q hq=>by rw[hd,hb q hq,hd];rfl⟩) (by simp)
 ·rename_i t x y;rw[M7 x (by simp[Op.operands]),M7 y (by simp[Op.operands])];refine Ed hn fun d hd=>?_;split
  ·exact E9 hn fun _ _=>E9 hn fun _ _=>Bc hn fun _=>AW hn fun _=>hK _ _ _ (fun _=>⟨rfl,by simp[hd]⟩) (by simp)
  ·exact hn
 ·rename_i t x lo hi mx;split
  ·rw[M7 x (by simp[Op.operands])]
   have h1:lo.map (Cx tm)=lo.map (Cx tm'):=by
    cases lo with
    |none=>rfl
    |some y=>simp only[Option.map_some];rw[M7 y (by simp[Op.operands])]
   have h2:hi.map (Cx tm)=hi.map (Cx tm'):=by
    cases hi with
    |none=>rfl
    |some y=>simp only[Option.map_some];rw[M7 y (by simp[Op.operands])]
   rw[h1,h2];exact Ai6 hn (fun ⟨n,e,he⟩ i hi=>hf (by simp[J3,he]) x (by simp[Op.operands]) i (Ot hi)) h0
  ·rename_i m;rw[M7 x (by simp[Op.operands])]
   have h1:lo.map (Cx tm)=lo.map (Cx tm'):=by
    cases lo with
    |none=>rfl
    |some y=>simp only[Option.map_some];rw[M7 y (by simp[Op.operands])]
   have h2:hi.map (Cx tm)=hi.map (Cx tm'):=by
    cases hi with
    |none=>rfl
    |some y=>simp only[Option.map_some];rw[M7 y (by simp[Op.operands])]
   rw[h1,h2,M7 m (by simp[Op.operands])];exact Ed hn fun d hd=>Agi hn fun c=>hK _ _ _ (fun _=>⟨rfl,by simp[hd]⟩) (by simp)
 ·rename_i t x fl;rw[M7 x (by simp[Op.operands])];exact Ed hn fun _ _=>Bc hn fun _=>LV hn h0
 ·rename_i t x fl;rw[M7 x (by simp[Op.operands])];exact Ed hn fun _ _=>Bc hn fun _=>M3 hn fun _ _=>S7 hn fun _=>IH hn h0
 ·rename_i t x i;rw[M7 x (by simp[Op.operands]),M7 i (by simp[Op.operands])];exact E9 hn fun _ _=>TP hn h0
 ·rename_i t x i;rw[M7 x (by simp[Op.operands]),M7 i (by simp[Op.operands])];refine E9 hn fun _ _=>?_;split
  ·exact G4 hn fun _=>Bc hn fun _=>Ed hn fun _ _=>h0 _
  ·exact M3 hn fun _ _=>Bc hn fun _=>S7 hn fun _=>IH hn h0
  ·exact hn
 ·rename_i t x k ok;rw[M7 x (by simp[Op.operands]),M7 k (by simp[Op.operands])];split
  ·refine Bc hn fun _=>?_;split
   ·exact G4 hn fun _=>Ed hn fun _ _=>All hn (fun _ _=>Bc hn fun _=>h0 _) (fun _=>Bc hn fun _=>h0 _)
   ·exact hn
  ·exact hn
 ·rename_i x i;rw[M7 x (by simp[Op.operands])];split
  ·exact Ed hn fun _ _=>h0 _
  ·exact hn
 ·rename_i c
  have N4:∀x∈c.args.toList,x∈(Op.call c).operands.toList:=by
   intro x hx;simp only[Op.operands,Call.operands,Array.toList_append,B5];exact .inr hx
  have rc:∀fn,J3 P (.call c)=true->Rel (ST C P N call tm g o c fn K) (ST C P N call tm' g' o c fn K'):=by
   intro fn hmm;unfold ST;have:c.args.toList.map (Cx tm)=c.args.toList.map (Cx tm'):=List.map_congr_left fun x hx=>M7 x (N4 x hx);rw[this];refine ZT hn (fun i hi=>?_) fun vs m hm=>ZB hn fun rv ro=>Gi hn (Bc hn fun _=>LU hn fun ws bs PZ=>Bc hn fun _=>hK _ _ _ (fun h=>by rw[hmm] at h;cases h) (fun i hi=>?_))
   ·obtain⟨p,hp,hi⟩:=List.mem_flatMap.1 hi;obtain⟨x,hx,rfl⟩:=List.mem_map.1 hp;exact hg hmm x (N4 x hx) i (G9 hi)
   ·have hi':i∈m:=by
     cases hq:Mg P (Sb P o.type)<;>rw[hq] at hi
     ·simp at hi
     ·exact hi
    exact hm i hi'
  split
  ·refine B8 hn fun x _ hx=>B8 hn fun _ _ _=>?_;rw[M7 x (N4 x (by rw[hx];simp))]
   exact Ara hn fun _=>h0 _
  ·refine B8 hn fun x _ hx=>B8 hn fun _ _ _=>?_;rw[M7 x (N4 x (by rw[hx];simp))]
   exact Atc hn fun _=>h0 _
  ·refine B8 hn fun x _ hx=>B8 hn fun y _ hy=>Gi hn ?_;subst hy;rw[M7 x (N4 x (by rw[hx];simp)),M7 y (N4 y (by rw[hx];simp))]
   exact Ath hn h0
  ·refine B8 hn fun x _ hx=>B8 hn fun y _ hy=>Gi hn ?_;subst hy;rw[M7 x (N4 x (by rw[hx];simp)),M7 y (N4 y (by rw[hx];simp))]
   exact Aq0 hn h0
  ·rename_i hc;have hmm:J3 P (.call c)=true:=by simp[J3,hc]
   refine Bc hn fun _=>Ed hn fun d hd=>B8 hn fun _ _ hb=>B8 hn fun x _ hx=>Gi hn (B8 hn fun _ _ _=>B8 hn fun _ _ _=>?_);have hxm:x∈c.args.toList:=by rw[hb,hx];simp
   rw[M7 x (N4 x hxm)];exact Ad2 hn (fun i hi=>hg hmm x (N4 x hxm) i (Ot hi)) fun v nw=>hK _ _ _ (fun h=>by rw[hmm] at h;cases h) (by simp)
  ·rename_i fn hc;have hmm:J3 P (.call c)=true:=by simp[J3,hc]
   exact rc fn hmm
  ·rename_i t hc;have hmm:J3 P (.call c)=true:=by simp[J3,hc]
   have ht:=M7 (.tmp t) (by simp[Op.operands,Call.operands,hc]);change tm t=tm' t at ht;rw[ht];exact Ayy hn fun fn=>rc fn hmm
  ·exact hn
 ·exact hn
variable {hp:Nat->Option Cc}
end
open Go.RowKit
abbrev BU:=PV × B9 × List (Nat × Cc)
def Hl(ops:Array Oper)(o:Oper)(tm:Nat->PV):Option Bool:=
 match o.guard with
 |none=>some true
 |some (j,want)=>
  match (ops[j]?).bind (·.dst) with
  |none=>none
  |some d=>
   match tm d with
   |.sc (.bool b)=>some (b==want)
   |.sc (.tuple _)=>some false
   |_=>none
section
variable {R:Type}{r:R}{C:Ih}{P:Program}{N:Nat}{call:Ap}{ops:Array Oper}{o x:Oper}{s:St}{K:St->Option R}
theorem QT:Eo C P N call ops o s K=match Hl ops o s.tm with
  |none=>none
  |some true=>Ae8 C P N call o s K
  |some false=>As (H9 N o.dst) (K ⟨Ce s.tm o.dst (.sc undef),s.hp⟩):=by
 unfold Eo Hl;cases o.guard with
 |none=>rfl
 |some q=>
  obtain⟨j,want⟩:=q;cases hd:(ops[j]?).bind (·.dst) with
  |none=>simp[hd]
  |some d=>
   simp only[hd];cases ht:s.tm d with
   |sc v=>
    cases v with
    |bool b=>
     cases b<;>cases want<;>simp only[Aw,cond_true,cond_false,KE s.tm ht]<;>rfl
    |_=>rfl
   |_=>rfl
def Apq(C:Ih)(P:Program)(N:Nat)(call:Ap)(o:Oper)(s:St):Option BU:=
 SF C P N call s.tm (rd s.hp) (Mh s.hp) o fun v fz nw=>some (v,fz,nw)
theorem Awi{K:PV->B9->List (Nat × Cc)->Option R}:SF C P N call s.tm (rd s.hp) (Mh s.hp) o K=(Apq C P N call o s).bind fun q=>K q.1 q.2.1 q.2.2:=by refine UE (Rel:=fun (a:Option R) (b:Option BU)=>a=b.bind fun q=>K q.1 q.2.1 q.2.2) (K:=K) (K':=fun v fz nw=>some (v,fz,nw)) rfl (fun _ _=>rfl) (fun _ _ _ _ _=>.inl ⟨rfl,rfl⟩) fun v fz nw _ _=>rfl
theorem Aj2{q:BU}(h:Apq C P N call o s=some q):(J3 P o.op=false->q.2.1=[]/\∀p∈q.2.2,o.dst=some p.1)/\∀i∈q.2.1,Mh s.hp i≠none:=by
 have:=UE (C:=C) (P:=P) (N:=N) (call:=call) (o:=o) (tm:=s.tm) (tm':=s.tm) (f:=rd s.hp) (f':=rd s.hp) (g:=Mh s.hp) (g':=Mh s.hp)
  (Rel:=fun (a:Option BU)(_:Option BU)=>∀q,a=some q->(J3 P o.op=false->q.2.1=[]/\∀p∈q.2.2,o.dst=some p.1)/\∀i∈q.2.1,Mh s.hp i≠none)
  (K:=fun v fz nw=>some (v,fz,nw)) (K':=fun v fz nw=>some (v,fz,nw)) (fun _ h=>by cases h) (fun _ _=>rfl) (fun _ _ _ _ _=>.inl ⟨rfl,rfl⟩) (fun v fz nw h1 h2 q hq=>by cases hq;exact⟨h1,h2⟩)
 exact this q h
def gE(C:Ih)(P:Program)(N:Nat)(call:Ap)(ops:Array Oper)(o:Oper)(s:St):Option BU:=
 match Hl ops o s.tm with
 |none=>none
 |some true=>bif Xt C P o.op then none else Apq C P N call o s
 |some false=>some (.sc undef,[],[])
def Iu(C:Ih)(P:Program)(ops:Array Oper)(o:Oper)(tm:Nat->PV):Bool:=Xt C P o.op&&(Hl ops o tm==some true)
theorem Oq(h:Iu C P ops o s.tm=false):Eo C P N call ops o s K=(gE C P N call ops o s).bind fun q=>MA N s o.dst q.1 q.2.1 q.2.2 K:=by
 rw[QT];unfold gE;unfold Iu at h;cases hv:Hl ops o s.tm with
 |none=>rfl
 |some b=>
  rw[hv] at h;cases b with
  |false=>
   show As _ _=MA N s o.dst (.sc undef) [] [] K;unfold MA;have h1:Co s.hp []=true:=rfl;have h2:A6 (Ah s.hp []) []=s.hp:=rfl;rw[h1,h2,Bool.and_true]
  |true=>
   have hm:Xt C P o.op=false:=by simpa using h
   simp only[Ae8,hm,cond_false];exact Awi
theorem Lj(h:Iu C P ops o s.tm=true):Eo C P N call ops o s K=EL C P N call s o K:=by rw[QT];unfold Iu at h;simp only[Fc,beq_iff_eq] at h;rw[h.2];simp only[Ae8,h.1,cond_true]
theorem BP{q:BU}(h:gE C P N call ops o s=some q):(J3 P o.op=false->q.2.1=[]/\∀p∈q.2.2,o.dst=some p.1)/\∀i∈q.2.1,Mh s.hp i≠none:=by
 unfold gE at h;split at h
 ·cases h
 ·cases hm:Xt C P o.op<;>rw[hm] at h
  ·exact Aj2 h
  ·cases h
 ·cases h;exact⟨fun _=>⟨rfl,by simp⟩,by simp⟩
theorem Gu{tm tm':Nat->PV}(h:∀t∈looks ops o,tm t=tm' t):∀y∈o.op.operands.toList,Cx tm y=Cx tm' y:=by
 intro y hy;cases y with
 |tmp t=>
  refine h t ?_;unfold looks Atu;refine B5.2 (.inl (List.mem_filterMap.2 ⟨.tmp t,hy,rfl⟩))
 |const v=>cases v<;>rfl
 |func f=>rfl
 |«global» g=>rfl
theorem Oz{tm tm':Nat->PV}(h:∀t∈looks ops o,tm t=tm' t):Hl ops o tm=Hl ops o tm':=by
 unfold Hl;cases hg:o.guard with
 |none=>rfl
 |some q=>
  obtain⟨j,want⟩:=q;cases hd:(ops[j]?).bind (·.dst) with
  |none=>simp[hd]
  |some d=>
   have:tm d=tm' d:=h d (by
    unfold looks;rw[hg];refine B5.2 (.inr ?_);simp only[hd];simp)
   simp only[hd,this]
theorem KT{s':St}{q:BU}(ht:∀t∈looks ops o,s.tm t=s'.tm t)(hm:J3 P o.op=true->∀y∈o.op.operands.toList,∀i∈Cd (Cx s'.tm y),(rd s.hp i=rd s'.hp i/\Mh s.hp i=Mh s'.hp i)\/(rd s.hp i=none/\Mh s.hp i=none))(h:gE C P N call ops o s=some q):gE C P N call ops o s'=some q:=by
 unfold gE at h ⊢;rw[<-Oz ht];split at h
 ·cases h
 ·cases hM:Xt C P o.op<;>rw[hM] at h
  ·have:=UE (C:=C) (P:=P) (N:=N) (call:=call) (o:=o) (tm:=s.tm) (tm':=s'.tm) (f:=rd s.hp) (f':=rd s'.hp) (g:=Mh s.hp) (g':=Mh s'.hp)
    (Rel:=fun (a b:Option BU)=>a=some q->b=some q)
    (K:=fun v fz nw=>some (v,fz,nw)) (K':=fun v fz nw=>some (v,fz,nw)) (fun h=>h) (Gu ht)
    (fun N0 y hy i hi=>(hm N0 y hy i hi).imp id fun h=>⟨h.1,h.2,fun _ h=>by cases h⟩) (fun v fz nw _ _ h=>h)
   exact this h
  ·cases h
 ·exact h
end
open Go.RowKit
theorem Wb:∀{nw:List (Nat × Cc)} {hp Do:Nat->Option Cc},Co hp nw=true->(∀i b,(i,b)∈nw->Do i=none)->Co Do nw=true
 |[],_,_,_,_=>rfl
 |(i,b)::nw,hp,Do,h,h'=>by
  simp only[Co,Fc,Option.isNone_iff_eq_none] at h ⊢;exact⟨⟨h' i b (by simp),h.1.2⟩,Wb h.2 fun j c hj=>h' j c (by simp[hj])⟩
section
variable {hp:Nat->Option Cc}{fz:B9}{nw:List (Nat × Cc)}
theorem Hw(ha:Co hp nw=true){i:Nat}(hi:hp i≠none):A6 (Ah hp fz) nw i=if i∈fz then (hp i).map BZ else hp i:=by obtain⟨h1,h2⟩:=Cb ha;rw[(Fk h2).2 i (fun bx hb=>hi (h1 i bx hb)),Cu]
theorem Lw(ha:Co hp nw=true){i:Nat}{b:Cc}(hi:(i,b)∈nw):A6 (Ah hp fz) nw i=some b:=
 (Fk (Cb ha).2).1 i b hi
theorem S4(ha:Co hp nw=true){i:Nat}(hi:hp i=none)(hn:∀b,(i,b) ∉ nw):A6 (Ah hp fz) nw i=none:=by rw[(Fk (Cb ha).2).2 i hn,Cu,hi];simp
theorem R9(ha:Co hp nw=true){i:Nat}(hi:hp i≠none):A6 (Ah hp fz) nw i≠none:=by
 rw[Hw ha hi];cases h:hp i with
 |none=>exact absurd h hi
 |some b=>split<;>simp
theorem Axj(b:Option Cc):(match b.map BZ with|some (.st c)=>some c|some (.ar _ c)=>some c|_=>none)=(match b with|some (.st c)=>some c|some (.ar _ c)=>some c|_=>none):=by
 cases b with
 |none=>rfl
 |some b=>cases b<;>rfl
theorem Avp(b:Option Cc):(match b.map BZ with|some (.ar _ c)=>some c|_=>none)=(match b with|some (.ar _ c)=>some c|_=>none):=by
 cases b with
 |none=>rfl
 |some b=>cases b<;>rfl
theorem Aev(ha:Co hp nw=true){i:Nat}(hi:hp i≠none):rd (A6 (Ah hp fz) nw) i=rd hp i:=by
 unfold rd;rw[Hw ha hi];by_cases h:i∈fz
 ·rw[Cr h];exact Axj _
 ·rw[B3 h]
theorem YP(ha:Co hp nw=true){i:Nat}(hi:hp i≠none):Mh (A6 (Ah hp fz) nw) i=Mh hp i:=by
 unfold Mh;rw[Hw ha hi];by_cases h:i∈fz
 ·rw[Cr h];exact Avp _
 ·rw[B3 h]
theorem Akv{i:Nat}(hi:hp i=none):rd hp i=none:=by unfold rd;rw[hi]
theorem Px{i:Nat}(hi:hp i=none):Mh hp i=none:=by unfold Mh;rw[hi]
theorem Bcf(b:Option Cc):(b.map BZ).map BZ=b.map BZ:=by
 cases b with
 |none=>rfl
 |some b=>cases b<;>rfl
theorem Aj9{fx fo:B9}{nx no:List (Nat × Cc)}(hx:Co hp nx=true)(ho:Co (A6 (Ah hp fx) nx) no=true)(ho':Co hp no=true)(Y9:Co (A6 (Ah hp fo) no) nx=true)(h1:∀i∈fx,hp i≠none)(h2:∀i∈fo,hp i≠none):
  A6 (Ah (A6 (Ah hp fx) nx) fo) no=A6 (Ah (A6 (Ah hp fo) no) fx) nx:=by
 funext i
 by_cases hi:hp i=none
 ·by_cases hno:∃b,(i,b)∈no
  ·obtain⟨b,hb⟩:=hno
   have hnx:∀b',(i,b') ∉ nx:=fun b' Iq=>by
    have:=(Cb ho).1 i b hb;rw[Lw hx Iq] at this;cases this
   rw[Lw ho hb,Hw Y9 (by rw[Lw ho' hb];simp),Lw ho' hb,B3 (fun h=>h1 i h hi)]
  ·have hno:∀b,(i,b) ∉ no:=fun b hb=>hno ⟨b,hb⟩;by_cases hnx:∃b,(i,b)∈nx
   ·obtain⟨b,hb⟩:=hnx;rw[Lw Y9 hb,Hw ho (by rw[Lw hx hb];simp),Lw hx hb,B3 (fun h=>h2 i h hi)]
   ·have hnx:∀b,(i,b) ∉ nx:=fun b hb=>hnx ⟨b,hb⟩;rw[S4 ho (S4 hx hi hnx) hno,S4 Y9 (S4 ho' hi hno) hnx]
 ·rw[Hw ho (R9 hx hi),Hw hx hi,Hw Y9 (R9 ho' hi),Hw ho' hi];split<;>split<;>first|rfl|rw[Bcf]
end
section
variable {R:Type}{r:R}{C:Ih}{P:Program}{N:Nat}{call:Ap}{ops:Array Oper}{o x:Oper}{s:St}{K:St->Option R}
structure JZ(C:Ih)(P:Program)(ops:Array Oper)(x o:Oper):Prop where
 xo:∀d,x.dst=some d->d ∉ looks ops o
 ne:∀d,x.dst=some d->o.dst≠some d
 ox:∀d,o.dst=some d->d ∉ looks ops x
 mx:Xt C P x.op=true->J3 P o.op=false
 mo:Xt C P o.op=true->J3 P x.op=false
theorem Yd{l:B9}{d:Nat}(h:l.any (Nat.beq d)=false):d ∉ l:=by intro hm;have:l.any (Nat.beq d)=true:=List.any_eq_true.2 ⟨d,hm,Og d⟩;rw[this] at h;cases h
theorem Auv(h:SY C P ops x o=false):JZ C P ops x o:=by
 unfold SY at h;simp only[Bool.or_eq_false_iff,Bool.and_eq_false_iff] at h;obtain⟨⟨⟨h1,h2⟩,h3⟩,h4⟩:=h;refine⟨fun d hd=>?_,fun d hd he=>?_,fun d hd=>?_,fun hm=>?_,fun hm=>?_⟩
 ·simp only[hd,Bool.or_eq_false_iff] at h1;exact Yd h1.1
 ·simp only[hd,he,Bool.or_eq_false_iff] at h1;rw[Og] at h1;cases h1.2
 ·simp only[hd] at h2;exact Yd h2
 ·rw[hm] at h3;rcases h3 with h|h
  ·cases h
  ·exact h
 ·rw[hm] at h4;rcases h4 with h|h
  ·cases h
  ·exact h
theorem Fy{tm:Nat->PV}{d:Option Tmp}{v:PV}{l:B9}(h:∀i,d=some i->i ∉ l):∀t∈l,Ce tm d v t=tm t:=by
 intro t ht;cases d with
 |none=>rfl
 |some d=>exact Ao _ _ (by rintro rfl;exact h _ rfl ht)
theorem Ol{tm:Nat->PV}{d e:Option Tmp}{u v:PV}(h:∀i,d=some i->e≠some i):Ce (Ce tm d u) e v=Ce (Ce tm e v) d u:=by
 cases d with
 |none=>rfl
 |some d=>
  cases e with
  |none=>rfl
  |some e=>exact Aes _ _ _ (by rintro rfl;exact h _ rfl rfl)
def Has(C:Ih)(P:Program)(o:Oper)(s:St):Prop:=(∀y∈o.op.operands.toList,∀i∈Cd (Cx s.tm y),s.hp i≠none) /\
 (Xt C P o.op=true->S9 o.op=false->∀y∈o.op.operands.toList,∀i∈Cd (Cx s.tm y),∀c,s.hp i=some (.st c)->∀p∈c,∀k∈Au p,s.hp k≠none)
theorem Jl{tm tm':Nat->PV}(h:∀t∈looks ops o,tm t=tm' t):Iu C P ops o tm=Iu C P ops o tm':=by unfold Iu;rw[Oz h]
theorem Aki(hw:Has C P o s)(xo:∀d,x.dst=some d->d ∉ looks ops o)(ne:∀d,x.dst=some d->o.dst≠some d)(ox:∀d,o.dst=some d->d ∉ looks ops x)(hx:Iu C P ops x s.tm=false)(ho:Iu C P ops o s.tm=false)(h:Eo C P N call ops x s (fun s1=>Eo C P N call ops o s1 K)=some r):Eo C P N call ops o s (fun s1=>Eo C P N call ops x s1 K)=some r:=by
 rw[Oq hx] at h;cases ex:gE C P N call ops x s with
 |none=>rw[ex] at h;cases h
 |some q=>
 obtain⟨vx,fx,nx⟩:=q;rw[ex] at h;obtain⟨hb,h1⟩:=Aq h;simp only[Fc] at hb;have t1:∀t∈looks ops o,Ce s.tm x.dst vx t=s.tm t:=Fy xo;change Eo C P N call ops o ⟨Ce s.tm x.dst vx,A6 (Ah s.hp fx) nx⟩ K=some r at h1;rw[Oq (by rw[Jl t1];exact ho)] at h1
 cases eo:gE C P N call ops o ⟨Ce s.tm x.dst vx,A6 (Ah s.hp fx) nx⟩ with
 |none=>rw[eo] at h1;cases h1
 |some q=>
 obtain⟨vo,fo,no⟩:=q;rw[eo] at h1;obtain⟨hc,h2⟩:=Aq h1;change K ⟨Ce (Ce s.tm x.dst vx) o.dst vo,A6 (Ah (A6 (Ah s.hp fx) nx) fo) no⟩=some r at h2;simp only[Fc] at hc
 have eo':gE C P N call ops o s=some (vo,fo,no):=by
  refine KT t1 (fun _ y hy i hi=>?_) eo;have:=hw.1 y hy i hi;exact .inl ⟨Aev hb.2 this,YP hb.2 this⟩
 have ho':Co s.hp no=true:=Wb hc.2 fun i b hi=>by
  cases hs:s.hp i with
  |none=>rfl
  |some c=>exact absurd ((Cb hc.2).1 i b hi) (R9 hb.2 (by rw[hs];simp))
 rw[Oq ho,eo']
 have Y9:Co (A6 (Ah s.hp fo) no) nx=true:=Wb hb.2 fun i b hi=>by
  refine S4 ho' ((Cb hb.2).1 i b hi) fun c X8=>?_;have:=(Cb hc.2).1 i c X8;rw[Lw hb.2 hi] at this;cases this
 have t2:∀t∈looks ops x,s.tm t=Ce s.tm o.dst vo t:=fun t ht=>(Fy ox t ht).symm
 have ex':gE C P N call ops x ⟨Ce s.tm o.dst vo,A6 (Ah s.hp fo) no⟩=some (vx,fx,nx):=by
  refine KT t2 (fun _ y hy i hi=>?_) ex;by_cases hs:s.hp i=none
  ·exact .inr ⟨Akv hs,Px hs⟩
  ·exact .inl ⟨(Aev ho' hs).symm,(YP ho' hs).symm⟩
 show As _ _=_;rw[hc.1,ho'];show Eo C P N call ops x ⟨Ce s.tm o.dst vo,A6 (Ah s.hp fo) no⟩ K=some r;rw[Oq (by rw[<-Jl t2];exact hx),ex']
 show As _ _=_;rw[hb.1,Y9];rw[<-h2];have hfx:∀i∈fx,s.hp i≠none:=fun i hi hs=>(BP ex).2 i hi (Px hs);have hfo:∀i∈fo,s.hp i≠none:=fun i hi hs=>(BP eo').2 i hi (Px hs);show K ⟨Ce (Ce s.tm o.dst vo) x.dst vx,A6 (Ah (A6 (Ah s.hp fo) no) fx) nx⟩=K _;rw[Ol ne,Aj9 hb.2 hc.2 ho' Y9 hfx hfo]
end
open Go.RowKit
theorem JO{C:Ih}{P:Program}{o:Op}(h:Xt C P o=true):J3 P o=true:=by
 unfold Xt at h;split at h
 ·rfl
 ·rename_i c;unfold J3;simp only;split at h<;>rename_i hc
  ·rw[hc]
  ·rw[hc]
  ·cases h
  ·rw[hc]
  ·cases h
 ·cases h
structure WH(N:Nat)(S:Nat->Prop)(dst:Option Nat)(hp Dr Do Gn:Nat->Option Cc):Prop where
 keep:∀i,hp i≠none->Do i≠none
 off:∀i,i<N->dst≠some i->(¬S i\/hp i=none)->Do i=hp i/\Gn i=Dr i
 same:∀i,hp i=Dr i->Do i=Gn i
 far:∀i,¬S i->hp i≠none->Do i=hp i
section
variable {R R':Type}{Rel:Option R->Option R'->Prop}{P:Program}{N:Nat}{tm tm':Nat->PV}{hp Dr:Nat->Option Cc}{f f':Nat->Option Ae}{o:Oper}
theorem ZN(hn:Rel none none){t:CT}{p:PV}{K:PV->B9->Option R}{K':PV->B9->Option R'}(hf:Agr Rel f f' (Au p))(hK:∀c m,(∀i∈m,f i≠none/\i∈Au p)->Rel (K c m) (K' c m)):Rel (Tr f t p K) (Tr f' t p K'):=by
 unfold Tr;split
 ·split
  ·rename_i id es' off n;cases Nat.beq es' _
   ·exact hn
   ·exact IR hn hf (by simp[Au]) fun c hc=>Bc hn fun _=>hK _ _ (by simp[hc,Au])
  ·exact G6 hn fun _ _ _=>hK _ _ (by simp)
 ·exact U7 hn fun _=>hK _ _ (by simp)
theorem SV(hn:Rel none none):∀{ts:List CT}{ps:Ae}{K:Ae->B9->Option R}{K':Ae->B9->Option R'},Agr Rel f f' (ps.flatMap Au)->(∀c m,(∀i∈m,f i≠none/\i∈ps.flatMap Au)->Rel (K c m) (K' c m))->Rel (Sl f ts ps K) (Sl f' ts ps K')
 |[],[],_,_,_,hK=>hK _ _ (by simp)
 |[],_::_,_,_,_,_=>hn
 |_::_,[],_,_,_,_=>hn
 |_::_,p::ps,_,_,hf,hK=>ZN hn (fun i hi=>hf i (by simp only[Ji,B5];exact .inl hi)) fun _ m hm=>SV hn (fun i hi=>hf i (by simp only[Ji,B5];exact .inr hi)) fun _ ms RZ=>hK _ _ fun i hi=>by
   simp only[Ji,B5];rcases B5.1 hi with h|h
   ·exact⟨(hm i h).1,.inl (hm i h).2⟩
   ·exact⟨(RZ i h).1,.inr (RZ i h).2⟩
theorem CY{S:Nat->Prop}{dst:Option Nat}{id:Nat}{b:Cc}{h0 h1:Nat->Option Cc}(hS:S id)(B4:hp id≠none)(h:WH N S dst hp Dr h0 h1):WH N S dst hp Dr (Dt h0 id (some b)) (Dt h1 id (some b)):=by
 refine⟨fun i hi=>?_,fun i hN hd hi=>?_,fun i hi=>?_,fun i hn hi=>?_⟩
 ·by_cases e:i=id
  ·subst e;rw[At];simp
  ·rw[Ao _ _ e];exact h.keep i hi
 ·have e:i≠id:=by
   rintro rfl
   rcases hi with hi|hi
   ·exact hi hS
   ·exact B4 hi
  rw[Ao _ _ e,Ao _ _ e];exact h.off i hN hd hi
 ·by_cases e:i=id
  ·subst e;rw[At,At]
  ·rw[Ao _ _ e,Ao _ _ e];exact h.same i hi
 ·rw[Ao _ _ (by rintro rfl;exact hn hS)];exact h.far i hn hi
theorem Aa5{S:Nat->Prop}{d:Nat}{b:Cc}{h0 h1:Nat->Option Cc}(hz:hp d=none)(h:WH N S (some d) hp Dr h0 h1):WH N S (some d) hp Dr (Dt h0 d (some b)) (Dt h1 d (some b)):=by
 refine⟨fun i hi=>?_,fun i hN hd hi=>?_,fun i hi=>?_,fun i hn hi=>?_⟩
 ·by_cases e:i=d
  ·subst e;rw[At];simp
  ·rw[Ao _ _ e];exact h.keep i hi
 ·have e:i≠d:=by rintro rfl;exact hd rfl
  rw[Ao _ _ e,Ao _ _ e];exact h.off i hN hd hi
 ·by_cases e:i=d
  ·subst e;rw[At,At]
  ·rw[Ao _ _ e,Ao _ _ e];exact h.same i hi
 ·rw[Ao _ _ (by rintro rfl;exact hi hz)];exact h.far i hn hi
theorem BK(S:Nat->Prop)(dst:Option Nat):WH N S dst hp Dr hp Dr:=⟨fun _ h=>h,fun _ _ _ _=>⟨rfl,rfl⟩,fun _ h=>h,fun _ _ _=>rfl⟩
theorem Ahl{S:Nat->Prop}{dst:Option Nat}{m:B9}(hm:∀i∈m,hp i≠none/\S i):WH N S dst hp Dr (Ah hp m) (Ah Dr m):=by
 refine⟨fun i hi=>fun h=>hi (E8.1 h),fun i hN hd hi=>?_,fun i hi=>?_,fun i hn hi=>?_⟩
 ·have e:i ∉ m:=by
   intro h;rcases hi with hi|hi
   ·exact hi (hm i h).2
   ·exact (hm i h).1 hi
  rw[Cu,Cu,B3 e,B3 e];exact⟨rfl,rfl⟩
 ·rw[Cu,Cu,hi]
 ·rw[Cu,B3 (fun h=>hn (hm i h).2)]
theorem Ach{S:Nat->Prop}(h:∀i,S i->hp i=Dr i\/(hp i=none/\∀b,Rel none b)){l:B9}(hl:∀i∈l,S i):Agr Rel (Mh hp) (Mh Dr) l:=by
 intro i hi;rcases h i (hl i hi) with h|⟨h,h'⟩
 ·left;unfold Mh;rw[h]
 ·exact .inr ⟨Px h,h'⟩
theorem Ad1(hn:Rel none none){t:TypeId}{a x:PV}{K:St->Option R}{K':St->Option R'}{S:Nat->Prop}(hS:∀i,S i->hp i=Dr i\/(hp i=none/\∀b,Rel none b))(ha:∀i∈Au a,S i)(hx:∀i∈Ct x,S i)(hK:∀Do Gn,WH N S none hp Dr Do Gn->Rel (K ⟨tm,Do⟩) (K' ⟨tm',Gn⟩)):Rel (NJ P ⟨tm,hp⟩ t a x K) (NJ P ⟨tm',Dr⟩ t a x K'):=by
 unfold NJ;split
 ·rename_i id off;show Rel (match hp id with|some (.st c)=>_|some (.ar false c)=>_|_=>none) (match Dr id with|some (.st c)=>_|some (.ar false c)=>_|_=>none);have B4:S id:=ha id (by simp[Au]);rcases hS id B4 with h|⟨h,hb⟩
  ·rw[<-h];split
   ·rename_i c hc;exact Bc hn fun _=>S7 hn fun _=>hK _ _ (CY B4 (by rw[hc];simp) (BK _ _))
   ·rename_i c hc;refine Bc hn fun _=>SV hn (Ach hS fun i hi=>hx i ?_) fun _ m hm=>Bc hn fun _=>hK _ _ (CY B4 (by rw[hc];simp) (Ahl fun i hi=>⟨fun h=>(hm i hi).1 (Px h),hx i ?_⟩))
    ·obtain⟨c,hc,hi⟩:=List.mem_flatMap.1 hi;exact AY hc hi
    ·obtain⟨c,hc,hi⟩:=List.mem_flatMap.1 (hm i hi).2;exact AY hc hi
   ·exact hn
  ·rw[h];exact hb _
 ·exact hn
theorem MN(hn:Rel none none){es:Nat}{t:TypeId}{x:PV}{K:Nat->Ae->Option R}{K':Nat->Ae->Option R'}{S:Nat->Prop}(hS:∀i,S i->hp i=Dr i\/(hp i=none/\∀b,Rel none b))(hx:∀i∈Ct x,S i)(hK:∀m c,Rel (K m c) (K' m c)):Rel (Aho P ⟨tm,hp⟩ es t x K) (Aho P ⟨tm',Dr⟩ es t x K'):=by
 unfold Aho Aig;split
 ·exact Bc hn fun _=>G4 hn fun _=>hK _ _
 ·exact Wa hn (Ach hS fun i hi=>hx i (AJ hi)) hK
 ·exact hn
theorem KM(hn:Rel none none){d:Nat}{t tx:TypeId}{b x:PV}{K:St->Option R}{K':St->Option R'}{S:Nat->Prop}(hS:∀i,S i->hp i=Dr i\/(hp i=none/\∀b,Rel none b))(YT:hp d=Dr d)(hb:∀i∈Ct b,S i)(hx:∀i∈Ct x,S i)(hK:∀v Do Gn,(∀M,WH M S (some d) hp Dr Do Gn)->Rel (K ⟨Dt tm d v,Do⟩) (K' ⟨Dt tm' d v,Gn⟩)):Rel (Ur P N ⟨tm,hp⟩ d t tx b x K) (Ur P N ⟨tm',Dr⟩ d t tx b x K'):=by
 unfold Ur;split
 ·refine Bc hn fun _=>?_;cases HT P tx
  rotate_left
  ·show Rel (AG P N ⟨tm,hp⟩ d _ b x K) (AG P N ⟨tm',Dr⟩ d _ b x K');refine E9 hn fun _ n=>G6 hn fun z _ _=>?_;show Rel (As (z&&Nat.blt d N&&(hp d).isNone&&_&&_&&_) _) (As (z&&Nat.blt d N&&(Dr d).isNone&&_&&_&&_) _);rw[<-YT];exact Bc hn fun hb=>hK _ _ _ (fun M=>Aa5 (by simp only[Fc,Option.isNone_iff_eq_none] at hb;simp only[hb]) (BK _ _))
  rw[cond_false,cond_false];refine MN hn hS hx fun m new=>?_;split
  ·rename_i id es off n;show Rel (match hp id with|some (.ar false c)=>As (Nat.beq es _&&Nat.beq off 0&&Nat.blt d N&&(hp d).isNone&&_&&_&&_&&_) _|_=>none) (match Dr id with|some (.ar false c)=>As (Nat.beq es _&&Nat.beq off 0&&Nat.blt d N&&(Dr d).isNone&&_&&_&&_&&_) _|_=>none);have B4:S id:=hb id (by simp[Ct,Au]);rw[<-YT];rcases hS id B4 with h|⟨h,hbb⟩
   ·rw[<-h];split
    ·rename_i c hc;exact Bc hn fun hb=>hK _ _ _ (fun M=>Aa5 (by simp only[Fc,Option.isNone_iff_eq_none] at hb;simp only[hb]) (CY B4 (by rw[hc];simp) (BK _ _)))
    ·exact hn
   ·rw[h];exact hbb _
  ·refine G6 hn fun z _ _=>?_;show Rel (As (z&&Nat.blt d N&&(hp d).isNone&&_&&_&&_) _) (As (z&&Nat.blt d N&&(Dr d).isNone&&_&&_&&_) _);rw[<-YT];exact Bc hn fun hb=>hK _ _ _ (fun M=>Aa5 (by simp only[Fc,Option.isNone_iff_eq_none] at hb;simp only[hb]) (BK _ _))
 ·exact hn
theorem Ahs(hn:Rel none none){d:Option Tmp}{t tx:TypeId}{b x:PV}{K:St->Option R}{K':St->Option R'}{S:Nat->Prop}(hS:∀i,S i->hp i=Dr i\/(hp i=none/\∀b,Rel none b))(hb:∀i∈Ct b,S i)(hx:∀i∈Ct x,S i)(hK:∀v Do Gn,WH N S d hp Dr Do Gn->Rel (K ⟨Ce tm d v,Do⟩) (K' ⟨Ce tm' d v,Gn⟩)):Rel (YW P N ⟨tm,hp⟩ d t tx b x K) (YW P N ⟨tm',Dr⟩ d t tx b x K'):=by
 unfold YW;split
 ·refine Bc hn fun _=>?_;refine MN hn hS hx fun m new=>?_;split
  ·rename_i id es off n;show Rel (match hp id with|some (.ar false c)=>As (Nat.beq es _&&_&&_) _|_=>none) (match Dr id with|some (.ar false c)=>As (Nat.beq es _&&_&&_) _|_=>none);have B4:S id:=hb id (by simp[Ct,Au]);rcases hS id B4 with h|⟨h,hbb⟩
   ·rw[<-h];split
    ·rename_i c hc;exact Bc hn fun _=>hK _ _ _ (CY B4 (by rw[hc];simp) (BK _ _))
    ·exact hn
   ·rw[h];exact hbb _
  ·exact hn
 ·exact hn
def A1s(o:Oper)(tm:Nat->PV)(i:Nat):Prop:=∃x∈o.op.operands.toList,i∈Cd (Cx tm x)
def FW(o:Oper)(tm:Nat->PV)(hp:Nat->Option Cc)(i:Nat):Prop:=A1s o tm i\/S9 o.op=false/\∃id c,A1s o tm id/\hp id=some (.st c)/\∃p∈c,i∈Au p
theorem And(hn:Rel none none){mv:Bool}{t:CT}{p:PV}{K:PV->B9->B9->Option R}{K':PV->B9->B9->Option R'}{S:Nat->Prop}(hS:∀i,S i->hp i=Dr i\/(hp i=none/\∀b,Rel none b))(hp_:∀i∈Au p,S i)(hK:∀c m x,(∀i∈m++x,hp i≠none/\S i)->Rel (K c m x) (K' c m x)):Rel (Anv mv hp t p K) (Anv mv Dr t p K'):=by
 have frz:∀{t:CT} {p:PV},(∀i∈Au p,S i)->Rel (Tr (Mh hp) t p fun c m=>K c m []) (Tr (Mh Dr) t p fun c m=>K' c m []):=fun h=>ZN hn (Ach hS h) fun c m hm=>hK _ _ _ fun i hi=>by
  rw[List.append_nil] at hi;exact⟨fun e=>(hm i hi).1 (Px e),h i (hm i hi).2⟩
 unfold Anv;split
 ·rename_i es;cases mv<;>simp only[cond_true,cond_false]
  ·exact frz hp_
  ·split
   ·rename_i id es' off n;rcases hS id (hp_ id (by simp[Au])) with h|⟨h,hb⟩
    ·rw[<-h];split
     ·rename_i c hc;cases (Nat.beq es' es&&Nat.beq off 0)<;>simp only[cond_true,cond_false]
      ·exact frz hp_
      ·exact Bc hn fun _=>hK _ _ _ fun i hi=>by
        simp only[VW,Qi] at hi;subst hi;exact⟨by rw[hc];simp,hp_ i (by simp[Au])⟩
     ·exact frz hp_
    ·rw[h]
     have:(Tr (Mh hp) (.sl es) (.view id es' off n) fun c m=>K c m [])=none:=by
      unfold Tr;simp only;cases Nat.beq es' es
      ·rfl
      ·simp only[cond_true,Px h,D4]
     show Rel (Tr (Mh hp) (.sl es) (.view id es' off n) fun c m=>K c m []) _;rw[this];exact hb _
   ·refine G6 hn fun z n c=>?_;cases z
    ·exact hK _ _ _ (by simp)
    ·exact hK _ _ _ (by simp)
 ·exact U7 hn fun _=>hK _ _ _ (by simp)
theorem Yt(hn:Rel none none){mv:Bool}{S:Nat->Prop}(hS:∀i,S i->hp i=Dr i\/(hp i=none/\∀b,Rel none b)):∀{ts:List CT}{ps:Ae}{K:Ae->B9->B9->Option R}{K':Ae->B9->B9->Option R'},(∀p∈ps,∀i∈Au p,S i) ->
  (∀c m x,(∀i∈m++x,hp i≠none/\S i)->Rel (K c m x) (K' c m x))->Rel (PB mv hp ts ps K) (PB mv Dr ts ps K')
 |[],[],_,_,_,hK=>hK _ _ _ (by simp)
 |[],_::_,_,_,_,_=>hn
 |_::_,[],_,_,_,_=>hn
 |_::_,p::ps,_,_,hp_,hK=>And hn hS (hp_ p (by simp)) fun _ m x hm=>Yt hn hS (fun q hq=>hp_ q (by simp[hq])) fun _ ms xs RZ=>hK _ _ _ fun i hi=>by
   simp only[B5] at hi hm RZ;rcases hi with (hi|hi)|(hi|hi)
   ·exact hm i (.inl hi)
   ·exact RZ i (.inl hi)
   ·exact hm i (.inr hi)
   ·exact RZ i (.inr hi)
theorem Aem(hn:Rel none none){C:Ih}{f:FuncId}{i:Nat}{t:TypeId}{p:PV}{K:PV->B9->B9->List Ip->Option R}{K':PV->B9->B9->List Ip->Option R'}{S:Nat->Prop}(hS:∀i,S i->hp i=Dr i\/(hp i=none/\∀b,Rel none b))(hp_:∀i∈Cd p,S i)(hc:∀i∈Cd p,∀c,Dr i=some (.st c)->∀q∈c,∀k∈Au q,S k)(hK:∀v m x l,(∀i∈m++x++l.flatMap Ip.ids,hp i≠none/\S i)->Rel (K v m x l) (K' v m x l)):Rel (MF C P f hp i t p K) (MF C P f Dr i t p K'):=by
 unfold MF;split
 ·split
  ·rename_i id off;have B4:S id:=hp_ id (by simp[Cd,Ct,Au]);rcases hS id B4 with h|⟨h,hb⟩
   ·rw[h];split
    ·rename_i c DZ;refine Bc hn fun _=>Yt hn hS (fun q hq k hk=>hc id (by simp[Cd,Ct,Au]) c DZ q (List.mem_of_mem_drop (List.mem_of_mem_take hq)) k hk) fun cs m x hm=>hK _ _ _ _ fun k hk=>?_;rcases B5.1 hk with hk|hk
     ·exact hm k hk
     ·simp only[Ji,List.flatMap_nil,Ip.ids,List.append_nil,Qi] at hk;subst hk;exact⟨by rw[h,DZ];simp,B4⟩
    ·exact hn
   ·rw[h];exact hb _
  ·exact hn
 ·cases C.lnd f i
  ·cases C5 P t
   ·exact Yt hn hS (fun q hq k hk=>by
     simp at hq;subst hq;exact hp_ k (Ot hk)) fun cs m x hm=>B8 hn fun _ _ _=>Gi hn (hK _ _ _ _ (by simpa using hm))
   ·refine M3 hn fun cs Z5=>Yt hn hS (fun q hq k hk=>hp_ k ?_) fun cs m x hm=>hK _ _ _ _ (by simpa using hm);subst Z5;exact List.mem_flatMap.2 ⟨q,hq,hk⟩
  ·refine Ed hn fun e he=>?_;unfold Ar7;split
   ·rename_i id es' off n;have B4:S id:=hp_ id (by simp[Cd,Ct,Au]);rcases hS id B4 with h|⟨h,hb⟩
    ·rw[h];split
     ·rename_i c DZ;refine Bc hn fun _=>hK _ _ _ _ fun k hk=>?_;simp only[VW,Ji,List.flatMap_nil,Ip.ids,List.append_nil,Qi] at hk;subst hk;exact⟨by rw[h,DZ];simp,B4⟩
     ·exact hn
    ·rw[h];exact hb _
   ·exact G6 hn fun _ _ _=>Bc hn fun _=>hK _ _ _ _ (by simp[Ip.ids])
theorem SS(hn:Rel none none){C:Ih}{f:FuncId}{S:Nat->Prop}(hS:∀i,S i->hp i=Dr i\/(hp i=none/\∀b,Rel none b)):∀{ts:List TypeId}{ps:Ae}{i:Nat}{K:Ae->B9->B9->List Ip->Option R}{K':Ae->B9->B9->List Ip->Option R'},
  (∀p∈ps,∀i∈Cd p,S i)->(∀p∈ps,∀i∈Cd p,∀c,Dr i=some (.st c)->∀q∈c,∀k∈Au q,S k) ->
  (∀v m x l,(∀i∈m++x++l.flatMap Ip.ids,hp i≠none/\S i)->Rel (K v m x l) (K' v m x l))->Rel (YM C P f hp i ts ps K) (YM C P f Dr i ts ps K')
 |[],[],_,_,_,_,_,hK=>hK _ _ _ _ (by simp)
 |[],_::_,_,_,_,_,_,_=>hn
 |_::_,[],_,_,_,_,_,_=>hn
 |_::_,p::ps,_,_,_,hp_,hc,hK=>Aem hn hS (hp_ p (by simp)) (hc p (by simp)) fun _ m x l hm=>SS hn hS (fun q hq=>hp_ q (by simp[hq])) (fun q hq=>hc q (by simp[hq])) fun _ ms xs ls RZ=>hK _ _ _ _ fun i hi=>by
   simp only[B5,List.flatMap_append] at hi hm RZ;rcases hi with ((hi|hi)|(hi|hi))|(hi|hi)
   ·exact hm i (.inl (.inl hi))
   ·exact RZ i (.inl (.inl hi))
   ·exact hm i (.inl (.inr hi))
   ·exact RZ i (.inl (.inr hi))
   ·exact hm i (.inr hi)
   ·exact RZ i (.inr hi)
theorem Asg(hn:Rel none none){t:Nat}{ct:CT}{was p:PV}{K:Nat->PV->List (Nat × Cc)->Option R}{K':Nat->PV->List (Nat × Cc)->Option R'}(hK:∀t c b,(∀q∈b,∃k,q.1=nid N k)->Rel (K t c b) (K' t c b)):Rel (Apu N t ct was p K) (Apu N t ct was p K'):=by
 unfold Apu;split
 ·split
  ·exact Aky hn fun _ _=>hK _ _ _ (by intro q hq;simp only[Qi] at hq;subst hq;exact⟨t,rfl⟩)
  ·exact G6 hn fun _ _ _=>hK _ _ _ (by simp)
 ·exact U7 hn fun _=>hK _ _ _ (by simp)
theorem XV(hn:Rel none none):∀{cts:List CT}{ws ps:Ae}{t:Nat}{K:Nat->Ae->List (Nat × Cc)->Option R} {K':Nat->Ae->List (Nat × Cc)->Option R'},(∀t c b,(∀q∈b,∃k,q.1=nid N k)->Rel (K t c b) (K' t c b))->Rel (Aaa N t cts ws ps K) (Aaa N t cts ws ps K')
 |[],[],_,_,_,_,hK=>Gi hn (hK _ _ _ (by simp))
 |[],_::_,_,_,_,_,_=>hn
 |_::_,[],_,_,_,_,_=>hn
 |_::_,_::_,_,_,_,_,hK=>B8 hn fun _ _ _=>Asg hn fun _ _ b hb=>XV hn fun _ _ bs PZ=>hK _ _ _ fun q hq=>by
   rcases B5.1 hq with h|h
   ·exact hb q h
   ·exact PZ q h
theorem CU(hn:Rel none none){S:Nat->Prop}{dst:Option Nat}:∀{l:List Ip}{ro:List Ae} {t:Nat}{h0 h1:Nat->Option Cc}{K:(Nat->Option Cc)->List (Nat × Cc)->Option R} {K':(Nat->Option Cc)->List (Nat × Cc)->Option R'},
  WH N S dst hp Dr h0 h1->(∀i∈l.flatMap Ip.ids,hp i≠none/\S i/\hp i=Dr i)->(∀h0' h1' b,WH N S dst hp Dr h0' h1'->(∀q∈b,∃k,q.1=nid N k)->Rel (K h0' b) (K' h1' b))->Rel (GW N t l ro h0 K) (GW N t l ro h1 K')
 |[],_,_,_,_,_,_,hT,_,hK=>Gi hn (hK _ _ _ hT (by simp))
 |.var id off cts ws::l,ro,t,h0,h1,K,K',hT,hl,hK=>by
  unfold GW;refine B8 hn fun cs ro _=>XV hn fun t' cs' bs PZ=>?_;have B4:=hl id (by simp[Ip.ids]);rw[<-hT.same id B4.2.2];split
  ·exact CU hn (CY B4.2.1 B4.1 hT) (fun i hi=>hl i (by simp only[Ji,B5];exact .inr hi)) fun h0' h1' b hT' hb=>hK _ _ _ hT' fun q hq=>by
    rcases B5.1 hq with h|h
    ·exact PZ q h
    ·exact hb q h
  ·exact hn
 |.row id::l,ro,t,h0,h1,K,K',hT,hl,hK=>by
  unfold GW;have B4:=hl id (by simp[Ip.ids]);exact B8 hn fun cs ro _=>CU hn (CY B4.2.1 B4.1 hT) (fun i hi=>hl i (by simp only[Ji,B5];exact .inr hi)) hK
 |.none::l,ro,t,h0,h1,K,K',hT,hl,hK=>by
  unfold GW;exact B8 hn fun cs ro _=>CU hn hT (fun i hi=>hl i (by simp only[Ji,B5];exact .inr hi)) hK
theorem Ae9(h:∀i,N<=i->hp i=Dr i)(hN:0<N):∀k t,Age N hp k t=Age N Dr k t
 |0,_=>rfl
 |k+1,t=>by
  unfold Age;rw[h (nid N t) (by unfold nid;exact Nat.le_mul_of_pos_right _ (by omega)),Ae9 h hN k (t+1)]
theorem YA{h0 h1:Nat->Option Cc}:∀{nw:List (Nat × Cc)},(∀q∈nw,h0 q.1=h1 q.1)->Co h0 nw=Co h1 nw
 |[],_=>rfl
 |(i,b)::nw,h=>by
  unfold Co;rw[h (i,b) (by simp),YA (fun q hq=>h q (by simp[hq]))]
theorem TL{S:Nat->Prop}{dst:Option Nat}{h0 h1:Nat->Option Cc}(hT:WH N S dst hp Dr h0 h1):∀{nw:List (Nat × Cc)} {g0 g1:Nat->Option Cc},WH N S dst hp Dr g0 g1->(∀q∈nw,N<=q.1\/dst=some q.1)->(∀q∈nw,hp q.1=none)->WH N S dst hp Dr (A6 g0 nw) (A6 g1 nw)
 |[],_,_,h,_,_=>h
 |(i,b)::nw,g0,g1,h,hi,hz=>by
  refine TL hT (nw:=nw) ⟨fun k hk=>?_,fun k hN hd hk=>?_,fun k hk=>?_,fun k hn hk=>?_⟩ (fun q hq=>hi q (by simp[hq])) (fun q hq=>hz q (by simp[hq]))
  ·by_cases e:k=i
   ·subst e;rw[At];simp
   ·rw[Ao _ _ e];exact h.keep k hk
  ·have e:k≠i:=by
    rintro rfl
    rcases hi (k,b) (by simp) with q|q
    ·simp only at q;omega
    ·exact hd q
   rw[Ao _ _ e,Ao _ _ e];exact h.off k hN hd hk
  ·by_cases e:k=i
   ·subst e;rw[At,At]
   ·rw[Ao _ _ e,Ao _ _ e];exact h.same k hk
  ·rw[Ao _ _ (by rintro rfl;exact hk (hz (k,b) (by simp)))];exact h.far k hn hk
theorem A17{S:Nat->Prop}{dst:Option Nat}{m x:B9}(hm:∀i∈m++x,hp i≠none/\S i):WH N S dst hp Dr (BC (Ah hp m) x) (BC (Ah Dr m) x):=by
 refine⟨fun i hi h=>?_,fun i hN hd hi=>?_,fun i hi=>?_,fun i hn hi=>?_⟩
 ·rw[Hv] at h;have h1:Ah hp m i≠none:=fun e=>hi (E8.1 e);split at h
  ·cases hq:Ah hp m i with
   |none=>exact h1 hq
   |some b=>rw[hq] at h;cases h
  ·exact h1 h
 ·have e:i ∉ m/\i ∉ x:=by
   refine⟨fun h=>?_,fun h=>?_⟩<;>(rcases hi with hi|hi)
   ·exact hi (hm i (by simp[h])).2
   ·exact (hm i (by simp[h])).1 hi
   ·exact hi (hm i (by simp[h])).2
   ·exact (hm i (by simp[h])).1 hi
  rw[Hv,Hv,B3 e.2,B3 e.2,Cu,Cu,B3 e.1,B3 e.1];exact⟨rfl,rfl⟩
 ·rw[Hv,Hv,Cu,Cu,hi]
 ·rw[Hv,Cu,B3 (fun h=>hn (hm i (by simp[h])).2),B3 (fun h=>hn (hm i (by simp[h])).2)]
theorem Afn(hn:Rel none none){C:Ih}{call:Ap}{f:FuncId}{c:Call}{K:St->Option R}{K':St->Option R'}{S:Nat->Prop}(M7:c.args.toList.map (Cx tm)=c.args.toList.map (Cx tm'))(hS:∀i,S i->hp i=Dr i\/(hp i=none/\∀b,Rel none b))(hp_:∀p∈c.args.toList.map (Cx tm'),∀i∈Cd p,S i)(hc:∀p∈c.args.toList.map (Cx tm'),∀i∈Cd p,∀c,Dr i=some (.st c)->∀q∈c,∀k∈Au q,S k)(YT:∀d,o.dst=some d->hp d=Dr d)(hNN:∀i,N<=i->hp i=Dr i)(hK:∀v Do Gn,WH N S o.dst hp Dr Do Gn->Rel (K ⟨Ce tm o.dst v,Do⟩) (K' ⟨Ce tm' o.dst v,Gn⟩)):Rel (MO C P N call ⟨tm,hp⟩ o f c K) (MO C P N call ⟨tm',Dr⟩ o f c K'):=by
 unfold MO;simp only[M7];refine SS hn hS hp_ hc fun vs m x l hm=>Bc hn fun hb=>ZB hn fun rv ro=>LU hn fun ws bs PZ=>Bc hn fun _=>?_;simp only[Fc] at hb;have hN:0<N:=Nat.lt_of_succ_le (R5 hb.1.2);rw[Ae9 hNN hN];by_cases Apw:∃i∈l.flatMap Ip.ids,hp i≠Dr i
 ·obtain⟨i,hi,Gh⟩:=Apw;obtain⟨h1,h2⟩:=hm i (B5.2 (.inr hi));rcases hS i h2 with h|⟨h,_⟩
  ·exact absurd h Gh
  ·exact absurd h h1
 have hl:∀i∈l.flatMap Ip.ids,hp i≠none/\S i/\hp i=Dr i:=fun i hi=>⟨(hm i (B5.2 (.inr hi))).1,(hm i (B5.2 (.inr hi))).2,Classical.byContradiction fun h=>Apw ⟨i,hi,h⟩⟩;have hT0:WH N S o.dst hp Dr (BC (Ah hp m) x) (BC (Ah Dr m) x):=A17 fun i hi=>hm i (B5.2 (.inl hi));refine CU hn hT0 hl fun h0 h1 bs' hT Bgj=>?_
 have Ap2:∀q∈bs++bs',N<=q.1\/o.dst=some q.1:=by
  intro q hq;rcases B5.1 hq with hq|hq
  ·obtain⟨j,hj⟩:=PZ q hq;cases hd:o.dst with
   |none=>
    rw[hd] at hj;left;rw[hj];exact Nat.le_add_right _ _
   |some d=>
    rw[hd] at hj;change q.1=d+N*j at hj;cases j with
    |zero=>right;rw[hj];simp
    |succ j=>left;rw[hj,Nat.mul_add];omega
  ·obtain⟨k,hk⟩:=Bgj q hq;left;rw[hk];unfold nid;exact Nat.le_mul_of_pos_right _ (by omega)
 have FD:∀q∈bs++bs',h0 q.1=h1 q.1:=by
  intro q hq;refine hT.same q.1 ?_;rcases Ap2 q hq with h|h
  ·exact hNN _ h
  ·exact YT _ h
 rw[YA FD]
 exact Bc hn fun hb=>hK _ _ _ (TL hT hT Ap2 fun q hq=>by
  cases hz:hp q.1 with
  |none=>rfl
  |some c=>exact absurd ((FD q hq).trans ((Cb hb).1 q.1 q.2 hq)) (hT.keep q.1 (by rw[hz];simp)))
theorem Of(hn:Rel none none){C:Ih}{call:Ap}{K:St->Option R}{K':St->Option R'}(M7:∀x∈o.op.operands.toList,Cx tm x=Cx tm' x)(hS:∀i,FW o tm' Dr i->hp i=Dr i\/(hp i=none/\∀b,Rel none b))(YT:∀d,o.dst=some d->hp d=Dr d)(hNN:∀i,N<=i->hp i=Dr i)(hK:∀v Do Gn,WH N (FW o tm' Dr) o.dst hp Dr Do Gn->Rel (K ⟨Ce tm o.dst v,Do⟩) (K' ⟨Ce tm' o.dst v,Gn⟩)):Rel (EL C P N call ⟨tm,hp⟩ o K) (EL C P N call ⟨tm',Dr⟩ o K'):=by
 unfold EL;have hl:∀x∈o.op.operands.toList,∀i∈Cd (Cx tm' x),FW o tm' Dr i:=fun x hx i hi=>.inl ⟨x,hx,hi⟩;have Ws:S9 o.op=false->∀x∈o.op.operands.toList,∀i∈Cd (Cx tm' x),∀c,Dr i=some (.st c)->∀q∈c,∀k∈Au q,FW o tm' Dr k:=fun ha x hx i hi c hc q hq k hk=>.inr ⟨ha,i,c,⟨x,hx,hi⟩,hc,q,hq,hk⟩;generalize hLd:FW o tm' Dr=S at *
 generalize hop:o.op=op at *
 split
 ·rename_i t x y;simp only[M7 x (by simp[Op.operands]),M7 y (by simp[Op.operands])];refine Bc hn fun hd=>Ad1 (N:=N) hn hS (fun i hi=>hl x (by simp[Op.operands]) i (Ot hi)) (fun i hi=>hl y (by simp[Op.operands]) i (G9 hi)) fun Do Gn hh=>?_;have hd':=Option.isNone_iff_eq_none.1 hd;have:=hK .top Do Gn (by rw[hd'];exact hh)
  rw[hd'] at this;exact this
 ·rename_i c
  have N4:∀x∈c.args.toList,x∈(Op.call c).operands.toList:=by
   intro x hx;simp only[Op.operands,Call.operands,Array.toList_append,B5];exact .inr hx
  split
  ·rename_i hc;refine Ed hn fun d hd=>B8 hn fun x _ hx=>B8 hn fun y _ hy=>Gi hn (B8 hn fun _ _ _=>B8 hn fun _ _ _=>?_);subst hy;have hxm:=N4 x (by rw[hx];simp)
   have hym:=N4 y (by rw[hx];simp)
   simp only[M7 x hxm,M7 y hym];refine KM hn hS (YT d hd) (fun i hi=>hl x hxm i (G9 hi)) (fun i hi=>hl y hym i (G9 hi)) fun v Do Gn hh=>?_;have:=hK v Do Gn (by rw[hd];exact hh N)
   rw[hd] at this;exact this
  ·rename_i hc;refine B8 hn fun x _ hx=>B8 hn fun y _ hy=>Gi hn (B8 hn fun _ _ _=>B8 hn fun _ _ _=>?_);subst hy;have hxm:=N4 x (by rw[hx];simp)
   have hym:=N4 y (by rw[hx];simp)
   simp only[M7 x hxm,M7 y hym];exact Ahs hn hS (fun i hi=>hl x hxm i (G9 hi)) (fun i hi=>hl y hym i (G9 hi)) hK
  ·rename_i f hcf;refine Afn hn (List.map_congr_left fun x hx=>M7 x (N4 x hx)) hS (fun p hp i hi=>?_) (fun p hp i hi=>?_) YT hNN hK
   ·obtain⟨x,hx,rfl⟩:=List.mem_map.1 hp;exact hl x (N4 x hx) i hi
   ·obtain⟨x,hx,rfl⟩:=List.mem_map.1 hp;exact Ws (by simp only[S9,hcf]) x (N4 x hx) i hi
  ·exact hn
 ·exact hn
theorem TF(hn:Rel none none){C:Ih}{call:Ap}{K:St->Option R}{K':St->Option R'}(M7:∀x∈o.op.operands.toList,Cx tm x=Cx tm' x)(hK:∀v Do,(∀i,hp i≠none->Do i≠none)->Rel (K ⟨Ce tm o.dst v,Do⟩) (K' ⟨Ce tm' o.dst v,Do⟩)):Rel (EL C P N call ⟨tm,hp⟩ o K) (EL C P N call ⟨tm',hp⟩ o K'):=
 Of hn M7 (fun _ _=>.inl rfl) (fun _ _=>rfl) (fun _ _=>rfl) fun v Do Gn hT=>by
  have:Do=Gn:=funext fun i=>hT.same i rfl;subst this;exact hK v Do hT.keep
end
section
variable {R:Type}{r:R}{C:Ih}{P:Program}{N:Nat}{call:Ap}{ops:Array Oper}{o x:Oper}{s:St}{K:St->Option R}
theorem Aa1{tm:Nat->PV}{hp Do:Nat->Option Cc}{tm':Nat->PV}{q:BU}(hm:J3 P o.op=false)(ht:∀t∈looks ops o,tm t=tm' t)(h:gE C P N call ops o ⟨tm,hp⟩=some q):gE C P N call ops o ⟨tm',Do⟩=some q:=
 KT (s:=⟨tm,hp⟩) (s':=⟨tm',Do⟩) ht (fun h=>by rw[hm] at h;cases h) h
theorem LO{tm:Nat->PV}{hp:Nat->Option Cc}(hm:J3 P o.op=false)(h:Eo C P N call ops o ⟨tm,hp⟩ K=some r):
  ∃v nw,gE C P N call ops o ⟨tm,hp⟩=some (v,[],nw)/\H9 N o.dst=true/\Co hp nw=true/\(∀p∈nw,o.dst=some p.1)/\K ⟨Ce tm o.dst v,A6 hp nw⟩=some r:=by
 have hM:Xt C P o.op=false:=by
  cases hh:Xt C P o.op
  ·rfl
  ·rw[JO hh] at hm;cases hm
 rw[Oq (by simp[Iu,hM])] at h;cases e:gE C P N call ops o ⟨tm,hp⟩ with
 |none=>rw[e] at h;cases h
 |some q=>
  obtain⟨v,fz,nw⟩:=q;obtain⟨h1,h2⟩:=(BP e).1 hm;simp only at h1 h2;subst h1;rw[e] at h;obtain⟨hb,h⟩:=Aq h;simp only[Fc] at hb;exact⟨v,nw,rfl,hb.1,hb.2,h2,h⟩
theorem UG{tm:Nat->PV}{hp:Nat->Option Cc}{v:PV}{nw:List (Nat × Cc)}(hm:J3 P o.op=false)(e:gE C P N call ops o ⟨tm,hp⟩=some (v,[],nw))(hd:H9 N o.dst=true)(ha:Co hp nw=true)(h:K ⟨Ce tm o.dst v,A6 hp nw⟩=some r):Eo C P N call ops o ⟨tm,hp⟩ K=some r:=by
 have hM:Xt C P o.op=false:=by
  cases hh:Xt C P o.op
  ·rfl
  ·rw[JO hh] at hm;cases hm
 rw[Oq (by simp[Iu,hM]),e];show As _ _=_;have ha':Co hp nw=true:=ha;rw[hd,ha'];exact h
theorem Rl{hp:Nat->Option Cc}{nw:List (Nat × Cc)}(ha:Co hp nw=true){i:Nat}(hi:∀p∈nw,p.1≠i):A6 hp nw i=hp i:=
 (Fk (Cb ha).2).2 i fun b hb=>hi _ hb rfl
theorem Aur{hp Do:Nat->Option Cc}{nw:List (Nat × Cc)}(ha:Co hp nw=true){g:Nat->Option Cc}(h1:∀i,(∀p∈nw,p.1≠i)->g i=Do i)(h2:∀i,(∃p∈nw,p.1=i)->g i=A6 hp nw i)(ha':Co Do nw=true):g=A6 Do nw:=by
 funext i
 by_cases h:∃p∈nw,p.1=i
 ·rw[h2 i h];obtain⟨⟨j,b⟩,hp,rfl⟩:=h;rw[(Fk (Cb ha).2).1 j b hp,(Fk (Cb ha').2).1 j b hp]
 ·have h':∀p∈nw,p.1≠i:=fun p hp e=>h ⟨p,hp,e⟩;rw[h1 i h',Rl ha' h']
theorem Ay3(ap:JZ C P ops x o)(hx:Iu C P ops x s.tm=true)(h:Eo C P N call ops x s (fun s1=>Eo C P N call ops o s1 K)=some r):Eo C P N call ops o s (fun s1=>Eo C P N call ops x s1 K)=some r:=by
 have hm:J3 P o.op=false:=ap.mx (by unfold Iu at hx;simp only[Fc] at hx;exact hx.1)
 rw[Lj hx] at h;obtain⟨tm,hp⟩:=s;have look:∀v,∀t∈looks ops o,Ce tm x.dst v t=tm t:=fun v=>Fy ap.xo
 have h1:=Of (P:=P) (N:=N) (o:=x) (tm:=tm) (tm':=tm) (hp:=hp) (Dr:=hp) (K:=fun s1=>Eo C P N call ops o s1 K) (K':=fun _=>none)
  (Rel:=fun (a:Option R)(_:Option R)=>a=some r->∃v nw,gE C P N call ops o ⟨tm,hp⟩=some (v,[],nw)/\H9 N o.dst=true/\(∀p∈nw,o.dst=some p.1)/\Co hp nw=true) (fun h=>by cases h) (fun _ _=>rfl) (fun _ _=>.inl rfl) (fun _ _=>rfl) (fun _ _=>rfl) (fun v Do _ hT h=>by
   obtain⟨u,nw,hu,hd,ha,hn,_⟩:=LO hm h;refine⟨u,nw,Aa1 hm (look v) hu,hd,hn,Wb ha fun i b hi=>?_⟩;cases hh:hp i with
   |none=>rfl
   |some c=>exact absurd ((Cb ha).1 i b hi) (hT.keep i (by rw[hh];simp))) h
 obtain⟨v,nw,hv,hd,hn,ha⟩:=h1;refine UG hm hv hd ha ?_;have t2:∀t∈looks ops x,tm t=Ce tm o.dst v t:=fun t ht=>(Fy ap.ox t ht).symm;rw[Lj (by rw[<-Jl t2];exact hx)]
 refine Of (P:=P) (N:=N) (o:=x) (tm:=tm) (tm':=Ce tm o.dst v) (hp:=hp) (Dr:=A6 hp nw) (Rel:=fun (a b:Option R)=>a=some r->b=some r) (fun h=>by cases h) (Gu t2) (fun i _=>?_) (fun d hxd=>?_) (fun i hi=>(Rl ha fun p hp e=>by have:=V2 hd (hn p hp);omega).symm) (fun u Do Gn hT h=>?_) h
 ·by_cases hi:∃p∈nw,p.1=i
  ·obtain⟨⟨j,b⟩,Dr,rfl⟩:=hi;exact .inr ⟨(Cb ha).1 j b Dr,fun _ h=>by cases h⟩
  ·exact .inl (Rl ha fun p hp e=>hi ⟨p,hp,e⟩).symm
 ·refine (Rl ha fun p hp e=>?_).symm;have:=hn p hp;rw[e] at this;exact ap.ne d hxd this
 ·obtain⟨v',nw',Uk,_,ha',_,h'⟩:=LO hm h;have he:=Aa1 (Do:=hp) hm (look u) Uk;rw[hv] at he;simp only[Option.some.injEq,Prod.mk.injEq,true_and] at he;obtain⟨rfl,rfl⟩:=he
  have hh:Gn=A6 Do nw:=by
   refine Aur ha (fun i hi=>?_) (fun i hi=>?_) ha'
   ·exact (hT.same i (Rl ha hi).symm).symm
   ·obtain⟨⟨j,b⟩,Dr,rfl⟩:=hi;refine (hT.off j (V2 hd (hn _ Dr)) (fun e=>ap.ne j e (hn _ Dr)) (.inr ((Cb ha).1 j b Dr))).2
  rw[hh,<-Ol ap.ne];exact h'
theorem Azx(hw:Has C P o s)(ap:JZ C P ops x o)(ho:Iu C P ops o s.tm=true)(h:Eo C P N call ops x s (fun s1=>Eo C P N call ops o s1 K)=some r):Eo C P N call ops o s (fun s1=>Eo C P N call ops x s1 K)=some r:=by
 have hm:J3 P x.op=false:=ap.mo (by unfold Iu at ho;simp only[Fc] at ho;exact ho.1)
 obtain⟨tm,hp⟩:=s;obtain⟨v,nw,hv,hd,ha,hn,h1⟩:=LO hm h;have t1:∀t∈looks ops o,Ce tm x.dst v t=tm t:=Fy ap.xo;change Eo C P N call ops o ⟨Ce tm x.dst v,A6 hp nw⟩ K=some r at h1;rw[Lj (by rw[Jl t1];exact ho)] at h1
 rw[Lj ho];have hMo:Xt C P o.op=true:=by unfold Iu at ho;simp only[Fc] at ho;exact ho.1
 have A0i:∀i,FW o tm hp i->hp i≠none:=by
  rintro i (⟨y,hy,hi⟩|⟨BM,id,c,⟨y,hy,hi⟩,hc,p,Dr,hk⟩)
  ·exact hw.1 y hy i hi
  ·exact hw.2 hMo BM y hy id hi c hc p Dr i hk
 refine Of (P:=P) (N:=N) (o:=o) (tm:=Ce tm x.dst v) (tm':=tm) (hp:=A6 hp nw) (Dr:=hp) (Rel:=fun (a b:Option R)=>a=some r->b=some r) (fun h=>by cases h) (Gu t1) (fun i hi=>?_) (fun d hod=>?_) (fun i hi=>Rl ha fun p hp e=>by have:=V2 hd (hn p hp);omega) (fun u Do Gn hT h=>?_) h1
 ·refine .inl (Rl ha fun p Do e=>A0i i hi ?_);rw[<-e];exact (Cb ha).1 p.1 p.2 Do
 ·refine Rl ha fun p Do e=>?_;have:=hn p Do;rw[e] at this;exact ap.ne d this hod
 ·have Vl:∀p∈nw,Do p.1=A6 hp nw p.1/\Gn p.1=none:=by
   intro p hp2;have hno:=(Cb ha).1 p.1 p.2 hp2;have h3:=hT.off p.1 (V2 hd (hn p hp2)) (fun e=>ap.ne p.1 (hn p hp2) e) (.inl fun hL=>A0i _ hL hno);exact⟨h3.1,h3.2.trans hno⟩
  have ha':Co Gn nw=true:=Wb ha fun i b hi=>(Vl (i,b) hi).2;refine UG hm (Aa1 hm (fun t ht=>(Fy ap.ox t ht).symm) hv) hd ha' ?_
  have hh:Do=A6 Gn nw:=by
   refine Aur ha (fun i hi=>?_) (fun i hi=>?_) ha'
   ·exact hT.same i (Rl ha hi)
   ·obtain⟨p,hp2,rfl⟩:=hi;exact (Vl p hp2).1
  rw[<-Ol ap.ne,<-hh];exact h
theorem A80(hw:Has C P o s)(ap:JZ C P ops x o)(h:Eo C P N call ops x s (fun s1=>Eo C P N call ops o s1 K)=some r):Eo C P N call ops o s (fun s1=>Eo C P N call ops x s1 K)=some r:=by
 cases hx:Iu C P ops x s.tm
 ·cases ho:Iu C P ops o s.tm
  ·exact Aki hw ap.xo ap.ne ap.ox hx ho h
  ·exact Azx hw ap ho h
 ·exact Ay3 ap hx h
theorem N7(h:AZ P o.op=true):Xt C P o.op=false:=by
 unfold AZ at h;split at h
 ·rename_i ho;rw[ho];rfl
 ·rename_i ho;rw[ho];rfl
 ·cases h
def WS(P:Program)(ops:Array Oper)(o:Oper)(tm:Nat->PV):Prop:=AZ P o.op=true\/Hl ops o tm=some false
theorem GO{tm tm':Nat->PV}(h:∀t∈looks ops o,tm t=tm' t)(hl:WS P ops o tm):WS P ops o tm':=by
 rcases hl with hl|hl
 ·exact .inl hl
 ·exact .inr (by rw[<-Oz h];exact hl)
theorem ZE{tm:Nat->PV}(hl:WS P ops o tm):Iu C P ops o tm=false:=by
 rcases hl with hl|hl
 ·simp[Iu,N7 hl]
 ·simp[Iu,hl]
theorem Alm{q:BU}(hl:WS P ops o s.tm)(h:gE C P N call ops o s=some q):q.2.1=[]/\q.2.2=[]:=by
 unfold gE at h;split at h
 ·cases h
 ·rename_i hv
  have hl:AZ P o.op=true:=by
   rcases hl with hl|hl
   ·exact hl
   ·rw[hv] at hl;cases hl
  rw[N7 hl] at h;have h:Apq C P N call o s=some q:=h;unfold AZ at hl;split at hl
  ·rename_i t a ho;unfold Apq SF at h;rw[ho] at h
   have:=Aak (nz:=C.nz N) (P:=P) (f:=rd s.hp) (f':=rd s.hp) (g:=Mh s.hp) (g':=Mh s.hp) (t:=t) (x:=Cx s.tm a) (Rel:=fun (a b:Option BU)=>∀q,a=some q->q.2.1=[]/\q.2.2=[])
    (K:=fun v=>some (v,[],[])) (K':=fun v=>some (v,[],[])) (fun _ h=>by cases h) (fun _ _=>.inl ⟨rfl,rfl⟩) (fun v q hq=>by cases hq;exact⟨rfl,rfl⟩)
   exact this q h
  ·rename_i src dst y ho;unfold Apq SF at h;rw[ho] at h;simp only at h;unfold SN at h;split at hl
   ·rename_i hd;rw[hd] at h;simp only at h;split at h
    ·obtain⟨_,_,h⟩:=El h;obtain⟨_,_,h⟩:=Dd h;cases h;exact⟨rfl,rfl⟩
    ·split at h
     ·exact Wa (f:=Mh s.hp) (f':=Mh s.hp) (K':=fun _ _=>(none:Option BU)) (Rel:=fun (a _:Option BU)=>a=some q->q.2.1=[]/\q.2.2=[]) (fun h=>by cases h) (fun _ _=>.inl rfl) (fun n c h=>by
       obtain⟨_,h⟩:=Aq h;obtain⟨_,_,h⟩:=Dd h;obtain⟨_,_,h⟩:=Dd h;cases h;exact⟨rfl,rfl⟩) h
     ·exact Wa (f:=Mh s.hp) (f':=Mh s.hp) (K':=fun _ _=>(none:Option BU)) (Rel:=fun (a _:Option BU)=>a=some q->q.2.1=[]/\q.2.2=[]) (fun h=>by cases h) (fun _ _=>.inl rfl) (fun n c h=>by
       obtain⟨_,h⟩:=Aq h;obtain⟨_,_,h⟩:=Dd h;obtain⟨_,_,h⟩:=Dd h;cases h;exact⟨rfl,rfl⟩) h
     ·cases h
    ·cases h
   ·cases hl
  ·cases hl
 ·cases h;exact⟨rfl,rfl⟩
theorem Apm{tm tm':Nat->PV}{hp:Nat->Option Cc}(h:∀t∈looks ops o,tm t=tm' t){i:Nat}(hi:FW o tm hp i):FW o tm' hp i:=by
 have he:=Gu (ops:=ops) (o:=o) h;rcases hi with⟨y,hy,hi⟩|⟨BM,id,c,⟨y,hy,hi⟩,hc,q⟩
 ·exact .inl ⟨y,hy,by rw[<-he y hy];exact hi⟩
 ·exact .inr ⟨BM,id,c,⟨y,hy,by rw[<-he y hy];exact hi⟩,hc,q⟩
theorem A1q{hp Do:Nat->Option Cc}{i:Nat}(h:Do i=hp i):rd Do i=rd hp i/\Mh Do i=Mh hp i:=by unfold rd Mh;rw[h];exact⟨rfl,rfl⟩
theorem MT{tm:Nat->PV}{hp:Nat->Option Cc}(hl:WS P ops o tm)(h:Eo C P N call ops o ⟨tm,hp⟩ K=some r):
  ∃v,gE C P N call ops o ⟨tm,hp⟩=some (v,[],[])/\H9 N o.dst=true/\K ⟨Ce tm o.dst v,hp⟩=some r:=by
 rw[Oq (ZE hl)] at h;cases e:gE C P N call ops o ⟨tm,hp⟩ with
 |none=>rw[e] at h;cases h
 |some q=>
  obtain⟨v,fz,nw⟩:=q;obtain⟨h1,h2⟩:=Alm hl e;simp only at h1 h2;subst h1;subst h2;rw[e] at h;obtain⟨hb,h⟩:=Aq h;simp only[Fc] at hb;exact⟨v,rfl,hb.1,h⟩
theorem VD{tm:Nat->PV}{hp:Nat->Option Cc}{v:PV}(hl:WS P ops o tm)(e:gE C P N call ops o ⟨tm,hp⟩=some (v,[],[]))(hd:H9 N o.dst=true)(h:K ⟨Ce tm o.dst v,hp⟩=some r):Eo C P N call ops o ⟨tm,hp⟩ K=some r:=by rw[Oq (ZE hl),e];show As _ _=_;have ha:Co hp []=true:=rfl;simp only[hd,ha,Bool.and_self];exact h
theorem Axn(hw:Has C P o s)(xo:∀d,x.dst=some d->d ∉ looks ops o)(ne:∀d,x.dst=some d->o.dst≠some d)(ox:∀d,o.dst=some d->d ∉ looks ops x)(hl:WS P ops o s.tm)(Ad6:∀y∈o.op.operands.toList,∀i∈Cd (Cx s.tm y),¬FW x s.tm s.hp i)(hx:Iu C P ops x s.tm=true)(h:Eo C P N call ops x s (fun s1=>Eo C P N call ops o s1 K)=some r):Eo C P N call ops o s (fun s1=>Eo C P N call ops x s1 K)=some r:=by
 rw[Lj hx] at h;obtain⟨tm,hp⟩:=s;have look:∀v,∀t∈looks ops o,Ce tm x.dst v t=tm t:=fun v=>Fy xo
 have Axv:∀{u:PV} {Do:Nat->Option Cc} {q:BU},(∀y∈o.op.operands.toList,∀i∈Cd (Cx tm y),Do i=hp i)->gE C P N call ops o ⟨Ce tm x.dst u,Do⟩=some q->gE C P N call ops o ⟨tm,hp⟩=some q:=
  fun hh e=>KT (s:=⟨Ce tm x.dst _,_⟩) (s':=⟨tm,hp⟩) (look _) (fun _ y hy i hi=>.inl (A1q (hh y hy i hi))) e
 have h1:=Of (P:=P) (N:=N) (o:=x) (tm:=tm) (tm':=tm) (hp:=hp) (Dr:=hp) (K:=fun s1=>Eo C P N call ops o s1 K) (K':=fun _=>none)
  (Rel:=fun (a:Option R)(_:Option R)=>a=some r->∃v,gE C P N call ops o ⟨tm,hp⟩=some (v,[],[])/\H9 N o.dst=true) (fun h=>by cases h) (fun _ _=>rfl) (fun _ _=>.inl rfl) (fun _ _=>rfl) (fun _ _=>rfl) (fun v Do _ hT h=>by
   obtain⟨u,hu,hd,_⟩:=MT (GO (fun t ht=>(look v t ht).symm) hl) h;exact⟨u,Axv (fun y hy i hi=>hT.far i (Ad6 y hy i hi) (hw.1 y hy i hi)) hu,hd⟩) h
 obtain⟨v,hv,hd⟩:=h1;refine VD hl hv hd ?_;have t2:∀t∈looks ops x,tm t=Ce tm o.dst v t:=fun t ht=>(Fy ox t ht).symm;rw[Lj (by rw[<-Jl t2];exact hx)]
 refine Of (P:=P) (N:=N) (o:=x) (tm:=tm) (tm':=Ce tm o.dst v) (hp:=hp) (Dr:=hp) (Rel:=fun (a b:Option R)=>a=some r->b=some r) (fun h=>by cases h) (Gu t2) (fun _ _=>.inl rfl) (fun _ _=>rfl) (fun _ _=>rfl) (fun u Do Gn hT h=>?_) h;have e1:Do=Gn:=funext fun i=>hT.same i rfl;subst e1;obtain⟨v',Uk,_,h'⟩:=MT (GO (fun t ht=>(look u t ht).symm) hl) h;have he:=Axv (fun y hy i hi=>hT.far i (fun hR=>Ad6 y hy i hi (Apm (fun t ht=>(t2 t ht).symm) hR)) (hw.1 y hy i hi)) Uk;rw[hv] at he;simp only[Option.some.injEq,Prod.mk.injEq,and_true] at he;subst he;rw[<-Ol ne];exact h'
theorem Ayh(xo:∀d,x.dst=some d->d ∉ looks ops o)(ne:∀d,x.dst=some d->o.dst≠some d)(ox:∀d,o.dst=some d->d ∉ looks ops x)(hl:WS P ops x s.tm)(Ad6:∀y∈x.op.operands.toList,∀i∈Cd (Cx s.tm y),¬FW o s.tm s.hp i)(ho:Iu C P ops o s.tm=true)(h:Eo C P N call ops x s (fun s1=>Eo C P N call ops o s1 K)=some r):Eo C P N call ops o s (fun s1=>Eo C P N call ops x s1 K)=some r:=by
 obtain⟨tm,hp⟩:=s;obtain⟨v,hv,hd,h1⟩:=MT hl h;have t1:∀t∈looks ops o,Ce tm x.dst v t=tm t:=Fy xo;rw[Lj (by rw[Jl t1];exact ho)] at h1
 rw[Lj ho];refine Of (P:=P) (N:=N) (o:=o) (tm:=Ce tm x.dst v) (tm':=tm) (hp:=hp) (Dr:=hp) (Rel:=fun (a b:Option R)=>a=some r->b=some r) (fun h=>by cases h) (Gu t1) (fun _ _=>.inl rfl) (fun _ _=>rfl) (fun _ _=>rfl) (fun u Do Gn hT h=>?_) h1;have e1:Do=Gn:=funext fun i=>hT.same i rfl;subst e1;have t2:∀t∈looks ops x,tm t=Ce tm o.dst u t:=fun t ht=>(Fy ox t ht).symm;refine VD (GO t2 hl) (KT (s:=⟨tm,hp⟩) (s':=⟨Ce tm o.dst u,Do⟩) t2 (fun _ y hy i hi=>?_) hv) hd ?_
 ·have hi:i∈Cd (Cx tm y):=by rw[Gu t2 y hy];exact hi
  by_cases hn:hp i=none
  ·exact .inr ⟨Akv hn,Px hn⟩
  ·obtain⟨h3,h4⟩:=A1q (hT.far i (Ad6 y hy i hi) hn);exact .inl ⟨h3.symm,h4.symm⟩
 ·rw[<-Ol ne];exact h
def Aac(P:Program)(x:Oper)(s s1:St):Prop:=(∀t,x.dst≠some t->s1.tm t=s.tm t)/\(∀i,s.hp i≠none->s1.hp i≠none)/\(J3 P x.op=false->∀i,s.hp i≠none->s1.hp i=s.hp i)
theorem Ub{tm:Nat->PV}{d:Option Tmp}{v:PV}{t:Nat}(h:d≠some t):Ce tm d v t=tm t:=by
 cases d with
 |none=>rfl
 |some d=>exact Ao _ _ (by rintro rfl;exact h rfl)
theorem RI{K':St->Option R}(h:Eo C P N call ops x s K=some r)(hK:∀s1,Aac P x s s1->K s1=some r->K' s1=some r):Eo C P N call ops x s K'=some r:=by
 cases hx:Iu C P ops x s.tm
 ·rw[Oq hx] at h ⊢;cases ex:gE C P N call ops x s with
  |none=>rw[ex] at h;cases h
  |some q=>
   rw[ex] at h;obtain⟨hb,h1⟩:=Aq h;simp only[Fc] at hb;show As _ _=_;rw[hb.1,hb.2];refine hK _ ⟨fun t ht=>Ub ht,fun i hi=>R9 hb.2 hi,fun hm i hi=>?_⟩ h1;show A6 (Ah s.hp q.2.1) q.2.2 i=s.hp i;rw[Hw hb.2 hi,((BP ex).1 hm).1];simp
 ·rw[Lj hx] at h ⊢
  exact TF (P:=P) (N:=N) (o:=x) (tm:=s.tm) (tm':=s.tm) (hp:=s.hp) (Rel:=fun (a b:Option R)=>a=some r->b=some r) (fun h=>by cases h) (fun _ _=>rfl) (fun v Do hh h=>hK _ ⟨fun t ht=>Ub ht,hh,fun hm=>by
   have hM:Xt C P x.op=true:=by unfold Iu at hx;simp only[Fc] at hx;exact hx.1
   rw[JO hM] at hm;cases hm⟩ h) h
theorem Has.keeps{s1:St}(h:Has C P o s)(ap:JZ C P ops x o)(hk:Aac P x s s1):Has C P o s1:=by
 have hop:∀y∈o.op.operands.toList,Cx s1.tm y=Cx s.tm y:=fun y hy=>Gu (ops:=ops) (o:=o) (fun t ht=>hk.1 t fun hd=>ap.xo t hd ht) y hy;refine⟨fun y hy i hi=>?_,fun hM hA y hy i hi c hc p hp k hkk=>?_⟩
 ·rw[hop y hy] at hi;exact hk.2.1 i (h.1 y hy i hi)
 ·rw[hop y hy] at hi;have hi0:=h.1 y hy i hi;rw[hk.2.2 (ap.mo hM) i hi0] at hc;exact hk.2.1 k (h.2 hM hA y hy i hi c hc p hp k hkk)
theorem VO:∀(l:List Oper){s:St}{K:St->Option R},Has C P o s->(∀x∈l,JZ C P ops x o)->Sa C P N call ops l s (fun s1=>Eo C P N call ops o s1 K)=some r->Eo C P N call ops o s (fun s1=>Sa C P N call ops l s1 K)=some r
 |[],_,_,_,_,h=>h
 |x::l,s,K,hw,ap,h=>by
  refine A80 hw (ap x (by simp)) ?_;refine RI (K:=fun s1=>Sa C P N call ops l s1 (fun s2=>Eo C P N call ops o s2 K)) h fun s1 hk h1=>?_;exact VO l (hw.keeps (ap x (by simp)) hk) (fun y hy=>ap y (Tz _ hy)) h1
theorem AA:∀(l l':List Oper){s:St}{K:St->Option R},Sa C P N call ops (l++l') s K=Sa C P N call ops l s (fun s1=>Sa C P N call ops l' s1 K)
 |[],_,_,_=>rfl
 |x::l,l',s,K=>by
  show Eo C P N call ops x s (fun s1=>Sa C P N call ops (l++l') s1 K)=Eo C P N call ops x s (fun s1=>Sa C P N call ops l s1 _)
  congr 1
  funext s1
  exact AA l l'
theorem An7{l l':List Oper}(hw:Has C P o s)(ap:∀x∈l,JZ C P ops x o)(h:Sa C P N call ops (l++o::l') s K=some r):Eo C P N call ops o s (fun s1=>Sa C P N call ops (l++l') s1 K)=some r:=by rw[AA] at h;have:=VO l hw ap h;refine RI this fun s1 _ h1=>?_;rw[AA];exact h1
end
open Go.RowKit
section
variable {R:Type}{r:R}{P:Program}{N:Nat}{w0:World}{X0:F3}{Y:Nat->Prop}{β β':Bt}{s:St}{a:Act}{w w':World}{o:Oper}{ops:Array Oper}{C:Ih}{call:Ap}{K:St->Option R}
theorem Yh(h:Cj N w0 X0 Y β s a w){j d:Nat}(hd:(ops[j]?).bind (·.dst)=some d){v:Value}(ht:s.tm d=.sc v):yielded ops a.tmps j=match v with | .bool b=>some b|_=>none:=by
 have Ck:d<N:=by
  rcases Ig d N with h'|h'
  ·exact h'
  ·rw[h.tmo d h'] at ht;cases ht
 have hv:=h.tms d Ck;rw[ht] at hv;have hv:=Vi hv;have Aq1:d<a.tmps.size:=by rw[h.tsz];exact Ck
 have he:a.tmps[d]?=some v:=by
  rw[Array.getElem?_eq_getElem Aq1];simp[Aq1] at hv;rw[hv]
 unfold yielded;rw[hd];simp only[Option.bind_some,he];cases v<;>rfl
theorem HG(h:Cj N w0 X0 Y β s a w){G:Vg}(I7:NT P G w0 X0)(Dc:∀f args res,call f args=some res->C9 G P f args res){i:Nat}(hi:ops[i]?=some o)(hk:Eo C P N call ops o s K=some r):
  ∃s',K s'=some r/\∀(next:Act->World->Prop) (Q:Exit->Act->World->Prop),(∀a' w' β',Cj N w0 X0 Y β' s' a' w'->next a' w')->wpOp P ops Q i next a w:=by
 rw[QT] at hk
 have hw:∀b,Hl ops o s.tm=some b->Region.wanted o (yielded ops a.tmps)=b:=by
  intro b hb;unfold Hl at hb;unfold Region.wanted;cases hg:o.guard with
  |none=>rw[hg] at hb;simpa using hb
  |some q=>
   obtain⟨j,want⟩:=q;rw[hg] at hb;simp only at hb ⊢;cases hd:(ops[j]?).bind (·.dst) with
   |none=>rw[hd] at hb;cases hb
   |some d=>
    rw[hd] at hb;simp only at hb;split at hb
    ·rename_i b' ht;rw[Yh h hd ht];simp at hb;rw[<-hb];cases b'<;>cases want<;>rfl
    ·rename_i ht;rw[Yh h hd ht];simp at hb;rw[hb];rfl
    ·cases hb
 split at hk
 ·cases hk
 ·rename_i hv;obtain⟨s',hs',hn⟩:=TI h I7 Dc hk;refine⟨s',hs',fun next Q VL=>?_⟩;unfold wpOp;rw[hi];simp only[hw _ hv,if_true];exact .inl (hn next Q VL)
 ·rename_i hv;obtain⟨hd,hk⟩:=Aq hk;refine⟨_,hk,fun next Q VL=>?_⟩;unfold wpOp;rw[hi];simp only[hw _ hv];refine VL _ _ β (h.put hd (Av.sc _) (by simp[Cd,Ct,Au]))
theorem Cj.known(h:Cj N w0 X0 Y β s a w){d:Nat}(hd:s.tm d=.ub):∃b,Cj N w0 X0 Y β ⟨Dt s.tm d (.sc (.bool b)),s.hp⟩ a w:=by
 have Ck:d<N:=by
  rcases Ig d N with h'|h'
  ·exact h'
  ·rw[h.tmo d h'] at hd;cases hd
 have hu:=h.tms d Ck;rw[hd] at hu;have Mc:Av w (Dv s.hp β Y) .ub (a.tmps.getD d undef):=hu
 obtain⟨b,hv⟩:∃b,a.tmps.getD d undef=.bool b:=by
  generalize a.tmps.getD d undef=x at Mc;cases Mc with
  |ub b=>exact⟨b,rfl⟩
 refine⟨b,⟨h.dfr,h.tsz,fun i hi=>?_,fun i hi=>?_,h.box,h.inj,h.blt,fun i hi=>?_,h.wfB,h.ownd,h.rngB,h.pin,h.stp,h.Yx,h.Ylt,h.fr⟩⟩
 ·show Dt s.tm d _ i=_;rw[Ao _ _ (by omega)];exact h.tmo i hi
 ·by_cases e:i=d
  ·subst e;show Ex _ _ _ (Dt s.tm i _ i) _;rw[At,hv];exact Av.sc _
  ·show Ex _ _ _ (Dt s.tm d _ i) _;rw[Ao _ _ e];exact h.tms i hi
 ·by_cases e:i=d
  ·subst e;show ∀id∈Cd (Dt s.tm i _ i),_;rw[At];simp[Cd,Ct,Au]
  ·show ∀id∈Cd (Dt s.tm d _ i),_;rw[Ao _ _ e];exact h.wfT i hi
theorem YZ{x y:Option R}(h:EQ x y=some r):x=some r/\y=some r:=by
 unfold EQ at h;split at h
 ·rename_i e;exact⟨h,e ▸ h⟩
 ·cases h
theorem Yw(h:Cj N w0 X0 Y β s a w){F:St->Option R}(hk:Ahm ops o s F=some r):∃s',F s'=some r/\Cj N w0 X0 Y β s' a w:=by
 unfold Ahm at hk;split at hk
 ·exact⟨s,hk,h⟩
 ·split at hk
  ·exact⟨s,hk,h⟩
  ·split at hk
   ·rename_i d _ ht;obtain⟨b,hb⟩:=h.known ht;obtain⟨h1,h2⟩:=YZ hk;cases b
    ·exact⟨_,h2,hb⟩
    ·exact⟨_,h1,hb⟩
   ·exact⟨s,hk,h⟩
theorem KP{G:Vg}(I7:NT P G w0 X0)(Dc:∀f args res,call f args=some res->C9 G P f args res){Q:Exit->Act->World->Prop}(hQ:∀s' a' w' β',K s'=some r->Cj N w0 X0 Y β' s' a' w'->Q .normal a' w'):
  ∀(l:B9) (os:List Oper),l.length=os.length->(∀(k i:Nat),l[k]?=some i->ops[i]?=os[k]?)->∀{s:St} {a:Act} {w:World} {β:Bt},Cj N w0 X0 Y β s a w->Ve C P N call ops os s K=some r->wpOps P ops Q l a w
 |[],[],_,_,s,a,w,β,h,hk=>by
  show Q .normal a w;exact hQ s a w β hk h
 |[],_::_,hl,_,_,_,_,_,_,_=>by cases hl
 |_::_,[],hl,_,_,_,_,_,_,_=>by cases hl
 |i::l,o::os,hl,hi,s,a,w,β,h,hk=>by
  rw[wpOps_cons];obtain⟨s1,hk,h⟩:=Yw h hk;obtain⟨s',hs',hn⟩:=HG h I7 Dc (by simpa using hi 0 i rfl) hk;exact hn _ _ fun a' w' β' h'=>KP I7 Dc hQ l os (by simpa using hl) (fun k j hj=>by simpa using hi (k+1) j (by simpa using hj)) h' hs'
theorem Cj.drew(h:Cj N w0 X0 Y β s a w):Cj N w0 X0 Y β s a { w with drawn:=w.drawn+1 }:=by
 have:=h.stepR (d:=none) (v:=.top) (nw:=[]) (val:=undef) (w':={ w with drawn:=w.drawn+1 }) (β':=β) rfl rfl
  ⟨rfl,rfl,rfl,⟨Ci _,fun _ _ _=>rfl,fun _ _=>Fi.refl _ _⟩,fun _ _=>rfl,by simp,by simp,by simp,by simp,by simp,.top _,by simp[Cd,Ct,Au]⟩
 exact this
theorem Acm(h:Cj N w0 X0 Y β s a w){G:Vg}(I7:NT P G w0 X0)(Dc:∀f args res,call f args=some res->C9 G P f args res){id:Nat}{Q:Exit->Act->World->Prop}(hk:Ve C P N call ops ops.toList s K=some r)(hQ:∀s' a' w' β',K s'=some r->Cj N w0 X0 Y β' s' a' w'->Q .normal a' w'):(Code.region id ops false).wp P Q a w:=by
 refine wp_region (KP I7 Dc hQ (List.range ops.size) ops.toList (by simp) (fun k i hi=>?_) h hk);rw[List.getElem?_range] at hi
 ·simp at hi;subst hi;simp
 ·rcases Ig k ops.size with h'|h'
  ·exact h'
  ·rw[List.getElem?_eq_none (by simpa using h')] at hi;cases hi
def Re(n:Nat)(listed:Array Bool):B9:=(List.range n).filter fun i=> !listed.getD i true
def A3m(ops:Array Oper)(listed:Array Bool)(o:Oper):Prop:=∀e∈o.after,Region.binds .any e=true->listed.getD e.on false=true
theorem testBit_or{a b j:Nat}:(a ||| b).testBit j=(a.testBit j||b.testBit j):=Nat.testBit_or a b j
theorem YH{acc:B9}{j:Nat}:∀(es:List Edge)(v:Nat),(es.foldl (fun s e=>bif Region.binds .any e then s ||| 2 ^ e.on ||| acc.getD e.on 0 else s) v).testBit j=true ->
  v.testBit j=true\/∃e∈es,Region.binds .any e=true/\(j=e.on\/(acc.getD e.on 0).testBit j=true)
 |[],v,h=>.inl h
 |e::es,v,h=>by
  rcases YH es _ h with h|⟨e',he',h⟩
  ·cases hb:Region.binds .any e<;>simp only[hb] at h
   ·exact .inl h
   ·simp only[cond_true,Nat.testBit_or,Bool.or_eq_true] at h;rcases h with (h|h)|h
    ·exact .inl h
    ·refine .inr ⟨e,by simp,hb,.inl ?_⟩;rw[Nat.testBit_two_pow] at h;exact (of_decide_eq_true h).symm
    ·exact .inr ⟨e,by simp,hb,.inr h⟩
  ·exact .inr ⟨e',by simp[he'],h⟩
theorem Xp{listed:Array Bool}(hc:∀(j:Nat) oj,ops[j]?=some oj->listed.getD j false=true->A3m ops listed oj):
  ∀(rest done:List Oper) (acc:B9),ops.toList=done++rest->acc.length=done.length ->
   (∀(k:Nat) o,done[k]?=some o->A3m ops listed o->∀j,(acc.getD k 0).testBit j=true->listed.getD j false=true) ->
   ∀(k:Nat) o,ops[k]?=some o->A3m ops listed o->∀j,((K6 rest acc).getD k 0).testBit j=true->listed.getD j false=true
 |[],done,acc,he,_,h,k,o,ho,hf,j,hj=>by
  refine h k o ?_ hf j hj;rw[List.append_nil] at he;rw[<-he]
  simpa using ho
 |o'::rest,done,acc,he,hl,h,k,o,ho,hf,j,hj=>by
  refine Xp hc rest (done++[o']) _ (by rw[he];simp) (by simp[hl]) ?_ k o ho hf j hj
  intro k o ho hf j hj;rcases Nat.lt_trichotomy k done.length with Ck|heq|hgt
  ·rw[List.getElem?_append_left Ck] at ho;rw[List.getD_eq_getElem?_getD,List.getElem?_append_left (by omega),<-List.getD_eq_getElem?_getD] at hj;exact h k o ho hf j hj
  ·subst heq;simp at ho;subst ho;rw[<-hl] at hj;simp only[List.getD_eq_getElem?_getD,List.getElem?_append_right (Ci _),Nat.sub_self,List.getElem?_cons_zero,Option.getD_some] at hj
   have hj:(o'.after.toList.foldl (fun s e=>bif Region.binds .any e then s ||| 2 ^ e.on ||| acc.getD e.on 0 else s) 0).testBit j=true:=by
    simpa only[List.getD_eq_getElem?_getD] using hj
   rcases YH _ _ hj with h0|⟨e,hm,hb,h1⟩
   ·simp at h0
   ·have VP:=hf e (by simpa using hm) hb;rcases h1 with h1|h1
    ·rw[h1];exact VP
    ·cases hd:done[e.on]? with
     |none=>
      have:acc.getD e.on 0=0:=by
       rw[List.getD_eq_getElem?_getD,List.getElem?_eq_none (by rw[hl];exact List.getElem?_eq_none_iff.1 hd)]
       rfl
      rw[this] at h1;simp at h1
     |some oe=>
      have hoe:ops[e.on]?=some oe:=by
       rw[<-Array.getElem?_toList,he,List.getElem?_append_left (by
        rcases Ig e.on done.length with h'|h'
        ·exact h'
        ·rw[List.getElem?_eq_none h'] at hd;cases hd)]
       exact hd
      exact h e.on oe hd (hc e.on oe hoe VP) j h1
  ·rw[List.getElem?_eq_none (by simp;omega)] at ho
   cases ho
theorem JC{bs:B9}:∀(l:List Oper)(n:Nat),QW C P ops bs l n=true->∀(k:Nat) o,l[k]?=some o->∀(j:Nat) x,ops[j]?=some x->j<n+k->SY C P ops x o=true->(bs.getD (n+k) 0).testBit j=true
 |[],_,_,k,o,ho,_,_,_,_,_=>by simp at ho
 |o'::l,n,h,k,o,ho,j,x,hx,hj,M9=>by
  simp only[QW,Fc] at h;cases k with
  |zero=>
   simp at ho;subst ho
   have:=List.all_eq_true.1 h.1 (x,j) (by
    rw[List.mem_zipIdx_iff_getElem?]
    simpa using hx)
   simp only[M9,Fl,Bool.or_false,Bool.or_eq_true,Bool.not_eq_true'] at this;rcases this with h'|h'
   ·have:Nat.blt j n=true:=Nat.ble_eq_true_of_le (by omega);rw[this] at h';cases h'
   ·exact h'
  |succ k=>
   have:=JC l (n+1) h.2 k o (by simpa using ho) j x hx (by omega) M9
   rwa [show n+(k+1)=n+1+k by omega]
theorem Mx{n i:Nat}{listed:Array Bool}:i∈Re n listed↔i<n/\listed.getD i true=false:=by unfold Re;simp[List.mem_filter]
theorem GS{n i:Nat}{listed:Array Bool}(hi:i∈Re n listed)(Km:listed.size=n):∃l1 l2,Re n listed=l1++i::l2/\Re n (listed.setIfInBounds i true)=l1++l2/\∀j∈l1,j<i:=by
 obtain⟨Ck,M8⟩:=Mx.1 hi
 have hr:List.range n=List.range i++i::(List.range (n-i-1)).map (i+1 + ·):=by
  conv=>lhs;rw[show n=i+(1+(n-i-1)) by omega]
  rw[List.range_add,List.range_add];simp[Jc]
 refine⟨(List.range i).filter fun i=> !listed.getD i true,((List.range (n-i-1)).map (i+1 + ·)).filter fun i=> !listed.getD i true,?_,?_,fun j hj=>?_⟩
 ·unfold Re;rw[hr,List.filter_append,List.filter_cons_of_pos (by rw[M8];rfl)]
 ·unfold Re;rw[hr,List.filter_append,List.filter_cons_of_neg (by simp[Km,Ck])]
  congr 1
  ·refine List.filter_congr fun j hj=>?_;rw[getD_set_ne true (by have:=List.mem_range.1 hj;omega)]
  ·refine List.filter_congr fun j hj=>?_;obtain⟨k,_,rfl⟩:=List.mem_map.1 hj;rw[getD_set_ne true (by omega)]
 ·exact List.mem_range.1 (List.mem_filter.1 hj).1
theorem Au1(h:Cj N w0 X0 Y β s a w)(o:Oper):Has C P o s:=by refine⟨fun y _ i hi=>Gl h y i hi,fun _ _ y _ i hi c hc p hp k hk=>h.wfB i c hc p hp k hk⟩
theorem YF(Auq:(ops.toList.zipIdx.all fun q=>q.1.after.toList.all fun e=> !Region.binds .any e||Nat.blt e.on q.2)=true){listed:Array Bool}(inv:HeadInv .any ops ops.size listed)(hr:Region.ready .any ops listed=[]):Re ops.size listed=[]:=by
 cases hp:Re ops.size listed with
 |nil=>rfl
 |cons i l=>
  exfalso;have hi:i∈Re ops.size listed:=by rw[hp];simp
  obtain⟨Ck,M8⟩:=Mx.1 hi;obtain⟨l1,l2,h1,_,h3⟩:=GS hi inv.size
  have VP:l1=[]:=by
   cases l1 with
   |nil=>rfl
   |cons j l1=>
    rw[hp] at h1;simp at h1;have:=h3 j (by simp);omega
  subst VP
  have Bmd:∀j,j<i->listed.getD j false=true:=by
   intro j hj;cases hh:listed.getD j false with
   |true=>rfl
   |false=>
    have:j∈Re ops.size listed:=Mx.2 ⟨by omega,getD_in (by rw[inv.size];omega) hh⟩
    have hs:(Re ops.size listed).Pairwise (· < ·):=List.Pairwise.filter _ List.pairwise_lt_range;rw[h1] at this hs;simp at this;rcases this with e|e
    ·omega
    ·have:=(List.pairwise_cons.1 hs).1 j e;omega
  have:i∈Region.ready .any ops listed:=by
   refine mem_ready.2 ⟨M8,ops[i],Array.getElem?_eq_getElem Ck,fun e he hb=>Bmd _ ?_⟩
   have:=List.all_eq_true.1 Auq (ops[i],i) (by
    rw[List.mem_zipIdx_iff_getElem?];simp[Ck])
   have:=List.all_eq_true.1 this e (Array.mem_toList_iff.2 he);simp only[hb,Fl,Bool.false_or] at this;exact Nat.lt_of_succ_le (R5 this)
  rw[hr] at this;simp at this
theorem Aci{G:Vg}(I7:NT P G w0 X0)(Dc:∀f args res,call f args=some res->C9 G P f args res)(hok:SQ C P ops=true){Q:Exit->Act->World->Prop}(hQ:∀s' a' w' β',K s'=some r->Cj N w0 X0 Y β' s' a' w'->Q .normal a' w'):
  ∀(fuel:Nat) {listed:Array Bool} {s:St} {a:Act} {w:World} {β:Bt},HeadInv .any ops ops.size listed->(Re ops.size listed).length=fuel->Cj N w0 X0 Y β s a w->Sa C P N call ops ((Re ops.size listed).filterMap (ops[·]?)) s K=some r->wpAny P .any ops Q fuel listed a w:=by
 unfold SQ at hok;simp only[Fc] at hok;obtain⟨Auq,A50⟩:=hok;intro fuel
 induction fuel with
 |zero=>
  intro listed s a w β inv hf h hk;have hp:=List.eq_nil_of_length_eq_zero hf;rw[hp] at hk;refine⟨?_,hQ s a w β hk h⟩;cases hr:Region.ready .any ops listed with
  |nil=>rfl
  |cons i l=>
   exfalso;have hi:i∈Region.ready .any ops listed:=by rw[hr];simp
   obtain⟨M8,o,ho,_⟩:=mem_ready.1 hi;have:i∈Re ops.size listed:=Mx.2 ⟨(Array.getElem?_eq_some_iff.1 ho).1,M8⟩;rw[hp] at this;simp at this
 |succ fuel ih=>
  intro listed s a w β inv hf h hk;refine⟨fun hr=>?_,fun i hi=>?_⟩
  ·rw[YF Auq inv hr] at hf;cases hf
  ·obtain⟨M8,o,ho,Qn⟩:=mem_ready.1 hi;have Ck:i<ops.size:=(Array.getElem?_eq_some_iff.1 ho).1;obtain⟨l1,l2,h1,h2,h3⟩:=GS (Mx.2 ⟨Ck,M8⟩) inv.size;rw[h1,List.filterMap_append,List.filterMap_cons_some ho] at hk
   have BM:∀x∈l1.filterMap (ops[·]?),JZ C P ops x o:=by
    intro x hx;obtain⟨j,hj,hxj⟩:=List.mem_filterMap.1 hx;refine Auv ?_;cases M9:SY C P ops x o with
    |false=>rfl
    |true=>
     exfalso;have EN:=JC ops.toList 0 A50 i o (by simpa using ho) j x hxj (by have:=h3 j hj;omega) M9
     rw[Ie] at EN;have hjl:=Xp (listed:=listed) (fun j oj hj hl=>inv.closed j oj hj hl) ops.toList [] [] (by simp) rfl (by simp) i o ho Qn j EN;have:j∈Re ops.size listed:=by rw[h1];simp[hj]
     have:=getD_both (Mx.1 this).2;rw[hjl] at this;cases this
   obtain⟨s',hs',hn⟩:=HG h I7 Dc ho (An7 (Au1 h o) BM hk);refine hn _ _ fun a' w' β' h'=>ih (inv.set hi Ck) ?_ h' ?_
   ·rw[h2];rw[h1] at hf;simp at hf ⊢;omega
   ·rw[h2,List.filterMap_append];exact hs'
theorem Wl(h:Cj N w0 X0 Y β s a w){G:Vg}(I7:NT P G w0 X0)(Dc:∀f args res,call f args=some res->C9 G P f args res)(hm:P.follows .mixedOrders=true)(hok:SQ C P ops=true){Q:Exit->Act->World->Prop}(hk:Sa C P N call ops ops.toList s K=some r)(hQ:∀s' a' w' β',K s'=some r->Cj N w0 X0 Y β' s' a' w'->Q .normal a' w'):wpAny P .any ops Q ops.size (Array.replicate ops.size false) a { w with drawn:=w.drawn+1 }:=by
 have hp:Re ops.size (Array.replicate ops.size false)=List.range ops.size:=by
  unfold Re;refine List.filter_eq_self.2 fun i hi=>?_;have:=List.mem_range.1 hi;simp[this]
 refine Aci (C:=C) I7 Dc hok hQ ops.size ⟨by simp,fun j oj _ hl=>(by rw[getD_replicate_false] at hl;cases hl),fun t ht ht'=>by omega⟩ (by rw[hp];simp) h.drew ?_
 rw[hp]
 have:(List.range ops.size).filterMap (ops[·]?)=ops.toList:=by
  refine List.ext_getElem? fun k=>?_
  have:∀(n:Nat),n<=ops.size->(List.range n).filterMap (ops[·]?)=ops.toList.take n:=by
   intro n
   induction n with
   |zero=>intro _;rfl
   |succ n ih=>
    intro hn;rw[List.range_succ,List.filterMap_append,ih (by omega),List.take_add_one]
    congr 1
    have:ops[n]?=some ops[n]:=Array.getElem?_eq_getElem (by omega);simp[this]
  rw[this ops.size (Ci _)]
  congr 1
  exact Hz (by simp)
 rw[this];exact hk
theorem Ab9(h:Cj N w0 X0 Y β s a w){G:Vg}(I7:NT P G w0 X0)(Dc:∀f args res,call f args=some res->C9 G P f args res)(hm:P.follows .mixedOrders=true)(hok:SQ C P ops=true){id:Nat}{Q:Exit->Act->World->Prop}(hk:Sa C P N call ops ops.toList s K=some r)(hQ:∀s' a' w' β',K s'=some r->Cj N w0 X0 Y β' s' a' w'->Q .normal a' w'):(Code.region id ops true).wp P Q a w:=
 wp_region_any hm (Wl h I7 Dc hm hok hk hQ)
end
end
section
open Go.RowKit
section
variable {R R':Type}{Rel:Option R->Option R'->Prop}{P:Program}{N:Nat}{tm tm':Nat->PV}{hp Dr:Nat->Option Cc}{o:Oper}
theorem Aoh(hn:Rel none none){C:Ih}{call:Ap}{K:St->Option R}{K':St->Option R'}(BM:S9 o.op=true)(M7:∀x∈o.op.operands.toList,Cx tm x=Cx tm' x)(hS:∀i,FW o tm' Dr i->hp i=Dr i\/(hp i=none/\∀b,Rel none b))(YT:∀d,o.dst=some d->hp d=Dr d)(hK:∀v Do Gn,(∀M,WH M (FW o tm' Dr) o.dst hp Dr Do Gn)->Rel (K ⟨Ce tm o.dst v,Do⟩) (K' ⟨Ce tm' o.dst v,Gn⟩)):Rel (EL C P N call ⟨tm,hp⟩ o K) (EL C P N call ⟨tm',Dr⟩ o K'):=by
 unfold EL;have hl:∀x∈o.op.operands.toList,∀i∈Cd (Cx tm' x),FW o tm' Dr i:=fun x hx i hi=>.inl ⟨x,hx,hi⟩;generalize hLd:FW o tm' Dr=S at *
 generalize hop:o.op=op at *
 unfold S9 at BM;split at BM
 ·rename_i c
  have N4:∀x∈c.args.toList,x∈(Op.call c).operands.toList:=by
   intro x hx;simp only[Op.operands,Call.operands,Array.toList_append,B5];exact .inr hx
  split at BM
  ·rename_i hc;simp only[hc];refine Ed hn fun d hd=>B8 hn fun x _ hx=>B8 hn fun y _ hy=>Gi hn (B8 hn fun _ _ _=>B8 hn fun _ _ _=>?_);subst hy;have hxm:=N4 x (by rw[hx];simp)
   have hym:=N4 y (by rw[hx];simp)
   simp only[M7 x hxm,M7 y hym];refine KM hn hS (YT d hd) (fun i hi=>hl x hxm i (G9 hi)) (fun i hi=>hl y hym i (G9 hi)) fun v Do Gn hh=>?_;have:=hK v Do Gn (by rw[hd];exact hh)
   rw[hd] at this;exact this
  ·cases BM
 ·cases BM
theorem Wh{C:Ih}{call:Ap}(BM:S9 o.op=true)(M7:∀x∈o.op.operands.toList,Cx tm x=Cx tm' x)(hS:∀i,FW o tm' Dr i->hp i=Dr i)(YT:∀d,o.dst=some d->hp d=Dr d){s1:St}(h:EL C P N call ⟨tm,hp⟩ o some=some s1):∃v Do Gn,s1=⟨Ce tm o.dst v,Do⟩/\EL C P N call ⟨tm',Dr⟩ o some=some ⟨Ce tm' o.dst v,Gn⟩/\∀M,WH M (FW o tm' Dr) o.dst hp Dr Do Gn:=by
 have:=Aoh (P:=P) (N:=N) (C:=C) (call:=call) (o:=o) (tm:=tm) (tm':=tm') (hp:=hp) (Dr:=Dr) (K:=some) (K':=some)
  (Rel:=fun (a b:Option St)=>∀s1,a=some s1->∃v Do Gn,s1=⟨Ce tm o.dst v,Do⟩/\b=some ⟨Ce tm' o.dst v,Gn⟩/\∀M,WH M (FW o tm' Dr) o.dst hp Dr Do Gn) (fun _ h=>by cases h) BM M7 (fun i hi=>.inl (hS i hi)) YT
  (fun v Do Gn hT s1 h=>by cases h;exact⟨v,Do,Gn,rfl,rfl,hT⟩)
 exact this s1 h
end
section
variable {R R':Type}{r:R}{r':R'}{C:Ih}{P:Program}{N:Nat}{call:Ap}{ops:Array Oper}{o x:Oper}{s s1 s2:St}{K:St->Option R}
theorem BH{tm:Nat->PV}(h:Iu C P ops o tm=true):Xt C P o.op=true:=by unfold Iu at h;simp only[Fc] at h;exact h.1
theorem Acy(h:S9 o.op=true):Xt C P o.op=true:=by
 unfold S9 at h;split at h
 ·rename_i c hc;rw[hc];split at h
  ·rename_i hcc;simp only[Xt,hcc];exact h
  ·cases h
 ·cases h
theorem Se(h:Eo C P N call ops x s K=some r):∃s1,Eo C P N call ops x s some=some s1/\Aac P x s s1/\(AZ P x.op=true->s1.hp=s.hp)/\K s1=some r:=by
 cases hx:Iu C P ops x s.tm
 ·rw[Oq hx] at h ⊢;cases ex:gE C P N call ops x s with
  |none=>rw[ex] at h;cases h
  |some q=>
   rw[ex] at h;obtain⟨hb,h1⟩:=Aq h;simp only[Fc] at hb;refine⟨_,?_,⟨fun t ht=>Ub ht,fun i hi=>R9 hb.2 hi,fun hm i hi=>?_⟩,fun hl=>?_,h1⟩
   ·show As _ _=_;rw[hb.1,hb.2];rfl
   ·show A6 (Ah s.hp q.2.1) q.2.2 i=s.hp i;rw[Hw hb.2 hi,((BP ex).1 hm).1];simp
   ·show A6 (Ah s.hp q.2.1) q.2.2=s.hp;obtain⟨h1,h2⟩:=Alm (.inl hl) ex;rw[h1,h2]
    funext i
    show Ah s.hp [] i=_;rw[Cu];simp
 ·rw[Lj hx] at h ⊢
  exact TF (P:=P) (N:=N) (o:=x) (tm:=s.tm) (tm':=s.tm) (hp:=s.hp) (K':=some) (Rel:=fun (a:Option R) (b:Option St)=>a=some r->∃s1,b=some s1/\Aac P x s s1/\(AZ P x.op=true->s1.hp=s.hp)/\K s1=some r) (fun h=>by cases h) (fun _ _=>rfl) (fun v Do hh h=>⟨_,rfl,⟨fun t ht=>Ub ht,hh,fun hm=>(by
   rw[JO (BH hx)] at hm;cases hm)⟩,fun hl=>(by
   have:=BH hx;rw[N7 hl] at this;cases this),h⟩) h
theorem DH{K':St->Option R'}(h:Eo C P N call ops x s some=some s1)(hk:K' s1=some r'):Eo C P N call ops x s K'=some r':=by
 cases hx:Iu C P ops x s.tm
 ·rw[Oq hx] at h ⊢;cases ex:gE C P N call ops x s with
  |none=>rw[ex] at h;cases h
  |some q=>
   rw[ex] at h;obtain⟨hb,h1⟩:=Aq h;show As _ _=_;rw[hb];cases h1;exact hk
 ·rw[Lj hx] at h ⊢;exact TF (P:=P) (N:=N) (o:=x) (tm:=s.tm) (tm':=s.tm) (hp:=s.hp) (K:=some) (Rel:=fun (a:Option St) (b:Option R')=>a=some s1->b=some r') (fun h=>by cases h) (fun _ _=>rfl) (fun v Do hh h=>by cases h;exact hk) h
theorem Abs{d:Nat}{t tx:TypeId}{b y:PV}(h:Ur P N s d t tx b y K=some r):s.hp d=none:=by
 unfold Ur at h;split at h
 ·obtain⟨_,h⟩:=Aq h;cases hI:HT P tx
  ·rw[hI,cond_false] at h;refine MN (P:=P) (tm:=s.tm) (tm':=s.tm) (hp:=s.hp) (Dr:=s.hp) (S:=fun _=>True) (K':=fun _ _=>(none:Option R)) (Rel:=fun (a:Option R) (_:Option R)=>a=some r->s.hp d=none) (fun h=>by cases h) (fun _ _=>.inl rfl) (fun _ _=>trivial) (fun m new h=>?_) h;split at h
   ·split at h
    ·obtain⟨hb,_⟩:=Aq h;simp only[Fc,Option.isNone_iff_eq_none] at hb;simp only[hb]
    ·cases h
   ·obtain⟨_,_,_,h,_⟩:=G0 h;obtain⟨hb,_⟩:=Aq h;simp only[Fc,Option.isNone_iff_eq_none] at hb;simp only[hb]
  ·rw[hI,cond_true] at h;unfold AG at h;obtain⟨_,_,_,h⟩:=Ei h;obtain⟨_,_,_,h,_⟩:=G0 h;obtain⟨hb,_⟩:=Aq h;simp only[Fc,Option.isNone_iff_eq_none] at hb;simp only[hb]
 ·cases h
theorem Aw4(hw:Has C P o s)(hwx:∀y∈x.op.operands.toList,∀i∈Cd (Cx s.tm y),s.hp i≠none)(xo:∀d,x.dst=some d->d ∉ looks ops o)(ne:∀d,x.dst=some d->o.dst≠some d)(ox:∀d,o.dst=some d->d ∉ looks ops x)(Ee:S9 x.op=true)(hao:S9 o.op=true)(Ad6:∀i,FW x s.tm s.hp i->¬FW o s.tm s.hp i)(hx:Iu C P ops x s.tm=true)(ho:Iu C P ops o s.tm=true)(h:Eo C P N call ops x s (fun s1=>Eo C P N call ops o s1 K)=some r):Eo C P N call ops o s (fun s1=>Eo C P N call ops x s1 K)=some r:=by
 obtain⟨tm,hp⟩:=s;obtain⟨s1,e1,_,_,h⟩:=Se h;obtain⟨s2,e2,_,_,h⟩:=Se h;rw[Lj hx] at e1
 have hSx:∀i,FW x tm hp i->hp i≠none:=by
  rintro i (⟨y,hy,hi⟩|⟨BM,_⟩)
  ·exact hwx y hy i hi
  ·rw[Ee] at BM;cases BM
 have hSo:∀i,FW o tm hp i->hp i≠none:=by
  rintro i (⟨y,hy,hi⟩|⟨BM,_⟩)
  ·exact hw.1 y hy i hi
  ·rw[hao] at BM;cases BM
 obtain⟨vx,hpx,Awo,rfl,e1',T1⟩:=Wh Ee (fun _ _=>rfl) (fun _ _=>rfl) (fun _ _=>rfl) e1
 have:Awo=hpx:=by
  rw[e1] at e1';injection e1' with q;injection q with _ q;exact q.symm
 subst this;have t1:∀t∈looks ops o,Ce tm x.dst vx t=tm t:=Fy xo;have t1o:=Gu (ops:=ops) (o:=o) t1;rw[Lj (by rw[Jl t1];exact ho)] at e2
 have hRo:∀i,FW o (Ce tm x.dst vx) Awo i↔FW o tm hp i:=by
  intro i;constructor
  ·rintro (⟨y,hy,hi⟩|⟨BM,_⟩)
   ·exact .inl ⟨y,hy,by rw[<-t1o y hy];exact hi⟩
   ·rw[hao] at BM;cases BM
  ·rintro (⟨y,hy,hi⟩|⟨BM,_⟩)
   ·exact .inl ⟨y,hy,by rw[t1o y hy];exact hi⟩
   ·rw[hao] at BM;cases BM
 have A1w:∀{s:St} {o:Oper} {s2:St},S9 o.op=true->EL C P N call s o some=some s2->∀d,o.dst=some d->s.hp d=none:=by
  intro s o s2 hao e d hd;unfold EL at e;unfold S9 at hao;split at hao
  ·rename_i c hc;rw[hc] at e;simp only at e;split at hao
   ·rename_i hcc;rw[hcc] at e;simp only[hd,D4] at e;obtain⟨_,_,_,e⟩:=Bo e;obtain⟨_,_,_,e⟩:=Bo e;obtain⟨_,e⟩:=Em e;obtain⟨_,_,_,e⟩:=Bo e;obtain⟨_,_,_,e⟩:=Bo e;exact Abs e
   ·cases hao
  ·cases hao
 have Bgk:∀d,o.dst=some d->hp d=none:=by
  intro d hd;have h0:=A1w hao e2 d hd;cases hh:hp d with
  |none=>rfl
  |some b=>exact absurd h0 ((T1 0).keep d (by rw[hh];simp))
 have Bcp:=A1w Ee e1;simp only at Bcp;have hoS:∀d,o.dst=some d->¬FW x tm hp d:=fun d hd hR=>hSx d hR (Bgk d hd);have hxS:∀d,x.dst=some d->¬FW o tm hp d:=fun d hd hR=>hSo d hR (Bcp d hd);obtain⟨vo,Bgw,hpo,rfl,e3,T2⟩:=Wh (tm':=tm) (Dr:=hp) hao t1o (fun i hi=>(T1 0).far i (fun hR=>Ad6 i hR hi) (hSo i hi)) (fun d hd=>((T1 (d+1)).off d (by omega) (fun e=>ne d e hd) (.inl (hoS d hd))).1) e2;obtain⟨vo',Biw,Aeb,e3a,e3b,T3⟩:=Wh (tm':=tm) (Dr:=hp) hao (fun _ _=>rfl) (fun _ _=>rfl) (fun _ _=>rfl) e3;rw[e3] at e3b
 have Bmf:Biw=hpo/\Aeb=hpo:=by
  injection e3a with _ q1;injection e3b with q2;injection q2 with _ q3;exact⟨q1.symm,q3.symm⟩
 obtain⟨rfl,rfl⟩:=Bmf;have t2:∀t∈looks ops x,tm t=Ce tm o.dst vo t:=fun t ht=>(Fy ox t ht).symm;have t2x:=Gu (ops:=ops) (o:=x) t2
 have hRx:∀i,FW x (Ce tm o.dst vo) Aeb i↔FW x tm hp i:=by
  intro i;constructor
  ·rintro (⟨y,hy,hi⟩|⟨BM,_⟩)
   ·exact .inl ⟨y,hy,by rw[t2x y hy];exact hi⟩
   ·rw[Ee] at BM;cases BM
  ·rintro (⟨y,hy,hi⟩|⟨BM,_⟩)
   ·exact .inl ⟨y,hy,by rw[<-t2x y hy];exact hi⟩
   ·rw[Ee] at BM;cases BM
 obtain⟨vx2,Beu,Bis,e4a,e4,T4⟩:=Wh (tm':=Ce tm o.dst vo) (Dr:=Aeb) Ee t2x (fun i hi=>((T3 0).far i (Ad6 i ((hRx i).1 hi)) (hSx i ((hRx i).1 hi))).symm) (fun d hd=>((T3 (d+1)).off d (by omega) (fun e=>ne d hd e) (.inl (hxS d hd))).1.symm) e1
 have hvx:Ce tm x.dst vx=Ce tm x.dst vx2/\Awo=Beu:=by
  injection e4a with q1 q2;exact⟨q1,q2⟩
 obtain⟨hvx,rfl⟩:=hvx;obtain⟨_,FX,Nl,e5a,e5b,T5⟩:=Wh (tm':=Ce tm x.dst vx) (Dr:=Awo) hao (fun _ _=>rfl) (fun _ _=>rfl) (fun _ _=>rfl) e2;have hq:FX=Bgw:=by injection e5a with _ q1;exact q1.symm
 subst hq;obtain⟨_,hu1,hu2,e6a,e6b,T6⟩:=Wh (tm':=Ce tm o.dst vo) (Dr:=Aeb) Ee (fun _ _=>rfl) (fun _ _=>rfl) (fun _ _=>rfl) e4;have hu:hu1=Bis:=by injection e6a with _ q1;exact q1.symm
 subst hu
 have N4:FX=hu1:=by
  funext i
  by_cases hi:FW o tm hp i\/o.dst=some i
  ·have hxi:¬FW x tm hp i:=by
    rcases hi with hi|hi
    ·exact fun hR=>Ad6 i hR hi
    ·exact hoS i hi
   have hdi:x.dst≠some i:=by
    rcases hi with hi|hi
    ·exact fun e=>hxS i e hi
    ·exact fun e=>ne i e hi
   rw[(T2 0).same i ((T1 (i+1)).off i (by omega) hdi (.inl hxi)).1];exact ((T6 (i+1)).off i (by omega) hdi (.inl fun hR=>hxi ((hRx i).1 hR))).1.symm
  ·have hoi:¬FW o tm hp i:=fun e=>hi (.inl e);have hdi:o.dst≠some i:=fun e=>hi (.inr e);rw[((T5 (i+1)).off i (by omega) hdi (.inl fun hR=>hoi ((hRo i).1 hR))).1];exact (T4 0).same i ((T3 (i+1)).off i (by omega) hdi (.inl hoi)).1.symm
 refine DH (s1:=⟨Ce tm o.dst vo,Aeb⟩) (by rw[Lj ho];exact e3) ?_
 refine DH (s1:=⟨Ce (Ce tm o.dst vo) x.dst vx2,hu1⟩) (by rw[Lj (by rw[<-Jl t2];exact hx)];exact e4) ?_
 rw[<-Ol ne,<-hvx,<-N4];exact h
theorem IB(hM:Xt C P o.op=true){i:Nat}(h:FW o s.tm s.hp i):i∈Qx C P s o:=by
 unfold Qx;rw[hM];cases hA:S9 o.op
 ·simp only[Gw,Bool.and_self,cond_true,B5];rcases h with⟨y,hy,hi⟩|⟨_,id,c,⟨y,hy,hi⟩,hc,p,hp,hk⟩
  ·exact .inl (List.mem_flatMap.2 ⟨y,hy,hi⟩)
  ·refine .inr (List.mem_flatMap.2 ⟨id,List.mem_flatMap.2 ⟨y,hy,hi⟩,?_⟩);rw[hc];exact List.mem_flatMap.2 ⟨p,hp,hk⟩
 ·simp only[Fl,Bool.and_false,cond_false,Bool.or_true,cond_true];rcases h with⟨y,hy,hi⟩|⟨hn,_⟩
  ·exact List.mem_flatMap.2 ⟨y,hy,hi⟩
  ·rw[hA] at hn;cases hn
theorem QH(hl:Xt C P o.op=true\/AZ P o.op=true){y:Operand}(hy:y∈o.op.operands.toList){i:Nat}(h:i∈Cd (Cx s.tm y)):i∈Qx C P s o:=by
 rcases hl with hM|hl
 ·exact IB hM (.inl ⟨y,hy,h⟩)
 ·unfold Qx;rw[N7 hl,hl];exact List.mem_flatMap.2 ⟨y,hy,h⟩
theorem Ae3(ht:∀t∈looks ops o,s1.tm t=s.tm t)(hh:Xt C P o.op=true->S9 o.op=false->∀y∈o.op.operands.toList,∀i∈Cd (Cx s.tm y),s1.hp i=s.hp i):Qx C P s1 o=Qx C P s o:=by
 have he:=Gu (ops:=ops) (o:=o) ht
 have hl:(o.op.operands.toList.flatMap fun y=>Cd (Cx s1.tm y))=o.op.operands.toList.flatMap fun y=>Cd (Cx s.tm y):=by
  have A5u:∀l:List Operand,(∀y∈l,Cx s1.tm y=Cx s.tm y)->(l.flatMap fun y=>Cd (Cx s1.tm y))=l.flatMap fun y=>Cd (Cx s.tm y):=by
   intro l
   induction l with
   |nil=>intro _;rfl
   |cons a l ih=>intro h;simp only[Ji];rw[h a (by simp),ih fun y hy=>h y (by simp[hy])]
  exact A5u _ he
 unfold Qx;simp only[hl];cases hM:(Xt C P o.op && !S9 o.op)
 ·rfl
 ·simp only[cond_true];simp only[Fc,Bool.not_eq_true'] at hM
  congr 1
  have A5u:∀l:B9,(∀i∈l,s1.hp i=s.hp i)->(l.flatMap fun i=>match s1.hp i with|some (.st c)=>c.flatMap Au|_=>[])=l.flatMap fun i=>match s.hp i with|some (.st c)=>c.flatMap Au|_=>[]:=by
   intro l
   induction l with
   |nil=>intro _;rfl
   |cons a l ih=>intro h;simp only[Ji];rw[h a (by simp),ih fun y hy=>h y (by simp[hy])]
  exact A5u _ fun i hi=>by
   obtain⟨y,hy,hi⟩:=List.mem_flatMap.1 hi;exact hh hM.1 hM.2 y hy i hi
theorem HO{a b:B9}(h:Ap7 a b=true){i:Nat}(ha:i∈a)(hb:i∈b):False:=by have:=List.all_eq_true.1 h i ha;have h2:b.any (Nat.beq i)=true:=List.any_eq_true.2 ⟨i,hb,Og i⟩;rw[h2] at this;cases this
theorem Anw{a b:B9}(h:Ap7 a b=true):Ap7 b a=true:=by
 refine List.all_eq_true.2 fun i hi=>?_;cases hc:a.any (Nat.beq i)
 ·rfl
 ·obtain⟨j,hj,e⟩:=List.any_eq_true.1 hc;rw[Dx e] at hi;exact (HO h hj hi).elim
theorem HD:Nh C P x o=Nh C P o x:=by unfold Nh;cases Xt C P x.op<;>cases Xt C P o.op<;>cases AZ P x.op<;>cases AZ P o.op<;>cases S9 x.op<;>cases S9 o.op<;>rfl
structure Qp(C:Ih)(P:Program)(ops:Array Oper)(x o:Oper):Prop where
 xo:∀d,x.dst=some d->d ∉ looks ops o
 ne:∀d,x.dst=some d->o.dst≠some d
 ox:∀d,o.dst=some d->d ∉ looks ops x
 me:Xw C P x o=false\/Nh C P x o=true
theorem Ani(h:As6 C P ops x o=false):Qp C P ops x o:=by
 unfold As6 at h;simp only[Bool.or_eq_false_iff] at h;obtain⟨h1,h2⟩:=h;have hT:=h1;unfold Asz at h1;simp only[Bool.or_eq_false_iff] at h1
 have a1:SY C P ops x o=false\/Xw C P x o=true:=by
  cases hc:Xw C P x o
  ·left;unfold SY;unfold Xw at hc;simp only[Bool.or_eq_false_iff] at hc ⊢;exact⟨⟨⟨h1.1,h1.2⟩,hc.1⟩,hc.2⟩
  ·exact .inr rfl
 refine⟨fun d hd=>?_,fun d hd he=>?_,fun d hd=>?_,?_⟩
 ·have:=h1.1;simp only[hd,Bool.or_eq_false_iff] at this;exact Yd this.1
 ·have:=h1.1;simp only[hd,he,Bool.or_eq_false_iff] at this;rw[Og] at this;cases this.2
 ·have:=h1.2;simp only[hd] at this;exact Yd this
 ·cases hc:Xw C P x o
  ·exact .inl rfl
  ·rw[hc] at h2;right
   simpa using h2
theorem Qp.apart(ap:Qp C P ops x o)(h:Xw C P x o=false):JZ C P ops x o:=by
 unfold Xw at h;simp only[Bool.or_eq_false_iff,Bool.and_eq_false_iff] at h;refine⟨ap.xo,ap.ne,ap.ox,fun hm=>?_,fun hm=>?_⟩
 ·rcases h.1 with h|h
  ·rw[hm] at h;cases h
  ·exact h
 ·rcases h.2 with h|h
  ·rw[hm] at h;cases h
  ·exact h
theorem Qp.same(ap:Qp C P ops x o)(hk:Aac P x s s1)(hl:AZ P x.op=true->s1.hp=s.hp)(hM:Xt C P o.op=true)(hA:S9 o.op=false){i:Nat}(hi:s.hp i≠none):s1.hp i=s.hp i:=by
 rcases ap.me with h|h
 ·exact hk.2.2 ((ap.apart h).mo hM) i hi
 ·unfold Nh at h;rw[hA] at h;simp only[Bool.and_false,Bool.or_false,Bool.or_eq_true,Fc] at h;rcases h with h|h
  ·have:=h.2;rw[N7 (C:=C) (P:=P) this] at hM;cases hM
  ·rw[hl h.2]
theorem Has.keepsS(h:Has C P o s)(ap:Qp C P ops x o)(hk:Aac P x s s1)(hl:AZ P x.op=true->s1.hp=s.hp):Has C P o s1:=by
 have hop:∀y∈o.op.operands.toList,Cx s1.tm y=Cx s.tm y:=fun y hy=>Gu (ops:=ops) (o:=o) (fun t ht=>hk.1 t fun hd=>ap.xo t hd ht) y hy;refine⟨fun y hy i hi=>?_,fun hM hA y hy i hi c hc p hp k hkk=>?_⟩
 ·rw[hop y hy] at hi;exact hk.2.1 i (h.1 y hy i hi)
 ·rw[hop y hy] at hi;rw[ap.same hk hl hM hA (h.1 y hy i hi)] at hc;exact hk.2.1 k (h.2 hM hA y hy i hi c hc p hp k hkk)
theorem Qp.symm(ap:Qp C P ops x o):Qp C P ops o x:=by
 refine⟨ap.ox,fun d hd he=>ap.ne d he hd,ap.xo,?_⟩;rcases ap.me with h|h
 ·left;unfold Xw at h ⊢;rw[Bool.or_comm];exact h
 ·right;rw[HD];exact h
theorem A9r(hw:Has C P o s)(hwx:Nh C P x o=true->∀i∈Qx C P s x,s.hp i≠none)(ap:Qp C P ops x o)(hd:Nh C P x o=true->Ap7 (Qx C P s x) (Qx C P s o)=true)(h:Eo C P N call ops x s (fun s1=>Eo C P N call ops o s1 K)=some r):Eo C P N call ops o s (fun s1=>Eo C P N call ops x s1 K)=some r:=by
 rcases ap.me with hm|hm
 ·exact A80 hw (ap.apart hm) h
 ·have hd:=hd hm;have hwx:=hwx hm;cases hx:Iu C P ops x s.tm
  ·cases ho:Iu C P ops o s.tm
   ·exact Aki hw ap.xo ap.ne ap.ox hx ho h
   ·have hMo:=BH ho
    have hlx:WS P ops x s.tm:=by
     cases hl:AZ P x.op
     ·right
      have hMx:Xt C P x.op=true:=by
       unfold Nh at hm;simp only[hl,Bool.and_false,Bool.or_false,Bool.or_eq_true,Fc] at hm;rcases hm with hm|hm
       ·exact hm.1
       ·exact Acy hm.1
      cases hv:Hl ops x s.tm with
      |none=>
       exfalso;rw[Oq hx] at h;unfold gE at h;rw[hv] at h;cases h
      |some b=>
       cases b
       ·rfl
       ·unfold Iu at hx;rw[hMx,hv] at hx;cases hx
     ·exact .inl hl
    refine Ayh ap.xo ap.ne ap.ox hlx (fun y hy i hi hR=>?_) ho h;refine HO hd (QH ?_ hy hi) (IB hMo hR);unfold Nh at hm;simp only[Bool.or_eq_true,Fc] at hm;rcases hm with (hm|hm)|hm
    ·exact .inl hm.1
    ·exact .inr hm.2
    ·exact .inl (Acy hm.1)
  ·have hMx:=BH hx;cases ho:Iu C P ops o s.tm
   ·have hlo:WS P ops o s.tm:=by
     cases hl:AZ P o.op
     ·right
      have hMo:Xt C P o.op=true:=by
       unfold Nh at hm;simp only[hl,Bool.and_false,Bool.false_or,Bool.or_eq_true,Fc] at hm;rcases hm with hm|hm
       ·exact hm.1
       ·exact Acy hm.2
      cases hv:Hl ops o s.tm with
      |none=>
       exfalso;obtain⟨s1,_,hk,_,h⟩:=Se h;have hv1:Hl ops o s1.tm=none:=by rw[Oz (fun t ht=>hk.1 t fun hd=>ap.xo t hd ht)];exact hv
       rw[Oq (by unfold Iu;rw[hv1];cases Xt C P o.op<;>rfl)] at h
       unfold gE at h;rw[hv1] at h;cases h
      |some b=>
       cases b
       ·rfl
       ·unfold Iu at ho;rw[hMo,hv] at ho;cases ho
     ·exact .inl hl
    refine Axn hw ap.xo ap.ne ap.ox hlo (fun y hy i hi hR=>?_) hx h;refine HO hd (IB hMx hR) (QH ?_ hy hi);unfold Nh at hm;simp only[Bool.or_eq_true,Fc] at hm;rcases hm with (hm|hm)|hm
    ·exact .inr hm.2
    ·exact .inl hm.1
    ·exact .inl (Acy hm.2)
   ·have hMo:=BH ho;unfold Nh at hm;simp only[Bool.or_eq_true,Fc] at hm;rcases hm with (hm|hm)|hm
    ·rw[N7 (C:=C) (P:=P) hm.2] at hMo;cases hMo
    ·rw[N7 (C:=C) (P:=P) hm.2] at hMx;cases hMx
    ·exact Aw4 hw (fun y hy i hi=>hwx i (QH (.inl hMx) hy hi)) ap.xo ap.ne ap.ox hm.1 hm.2 (fun i h1 h2=>HO hd (IB hMx h1) (IB hMo h2)) hx ho h
theorem Ar8{α:Type}(a b:α)(l:List α)(f:α->Bool):(a::b::l).all f=(b::a::l).all f:=by simp only[List.all_cons];cases f a<;>cases f b<;>rfl
theorem NZ{bs:List B9}:∀(l:B9){dn dn':List (Nat × Oper × B9)} {s:St}{K:St->Option R},(∀f,dn.all f=dn'.all f)->Kh C P N call ops bs dn l s K=Kh C P N call ops bs dn' l s K
 |[],_,_,_,_,_=>rfl
 |i::l,dn,dn',s,K,h=>by
  unfold Kh;cases ops[i]? with
  |none=>rfl
  |some o=>
   simp only[D4,h]
   congr 2
   funext s'
   exact NZ l fun f=>by simp only[List.all_cons,h]
theorem UQ{bs:B9}{i:Nat}(hi:ops[i]?=some o):(OU C P ops bs).getD i []=KH C P ops bs i o:=by unfold OU;rw[List.getD_eq_getElem?_getD,List.getElem?_map,List.getElem?_zipIdx,Array.getElem?_toList,hi];simp
theorem Xy{bs:B9}{i j:Nat}:j∈KH C P ops bs i o↔∃x,ops[j]?=some x/\Nh C P x o=true/\(Nat.blt j i&&(bs.getD i 0).testBit j)=false/\(Nat.blt i j&&(bs.getD j 0).testBit i)=false:=by
 unfold KH;simp only[List.mem_map,List.mem_filter,Fc,Bool.not_eq_true',Prod.exists];constructor
 ·rintro⟨x,k,⟨hm,⟨h1,h2⟩,h3⟩,rfl⟩
  rw[List.mem_zipIdx_iff_getElem?] at hm;exact⟨x,by simpa using hm,h1,h2,h3⟩
 ·rintro⟨x,hx,h1,h2,h3⟩
  refine⟨x,j,⟨?_,⟨h1,h2⟩,h3⟩,rfl⟩;rw[List.mem_zipIdx_iff_getElem?]
  simpa using hx
theorem QU{sm:List B9}{i j:Nat}(h:j∈sm.getD i []):PW C P sm s i o=Qx C P s o:=by
 unfold PW;split
 ·rename_i e;rw[e] at h;simp at h
 ·rfl
theorem As4{sm:List B9}{i:Nat}(h:sm.getD i []≠[]->Qx C P s1 o=Qx C P s o):PW C P sm s1 i o=PW C P sm s i o:=by
 unfold PW;split
 ·rfl
 ·rename_i e;exact h (by rw[e];simp)
theorem Amu{l:B9}{j:Nat}:l.any (Nat.beq j)=true↔j∈l:=by
 constructor
 ·intro h;obtain⟨k,hk,e⟩:=List.any_eq_true.1 h;rw[Dx e];exact hk
 ·intro h;exact List.any_eq_true.2 ⟨j,h,Og j⟩
theorem JX{bs:B9}{sm:List B9}(hsm:sm=OU C P ops bs){i:Nat}(hi:ops[i]?=some o){l':B9}:∀(l:B9){dn:List (Nat × Oper × B9)} {s:St}{K:St->Option R},Has C P o s ->
  (∀j∈l,j<i/\(bs.getD i 0).testBit j=false/\∀x,ops[j]?=some x->Qp C P ops x o)->Kh C P N call ops sm dn (l++i::l') s K=some r ->
  dn.all (WY C P sm s i o)=true/\Eo C P N call ops o s (fun s1=>Kh C P N call ops sm ((i,o,PW C P sm s i o)::dn) (l++l') s1 K)=some r
 |[],dn,s,K,hw,_,h=>by
  simp only[VW] at h ⊢;unfold Kh at h;rw[hi] at h;simp only[D4] at h;obtain⟨hb,h⟩:=Aq h;simp only[Fc] at hb;exact⟨hb.1,h⟩
 |j::l,dn,s,K,hw,hl,h=>by
  simp only[Zzp] at h ⊢;unfold Kh at h;obtain⟨hji,EN,BM⟩:=hl j (by simp);cases hj:ops[j]? with
  |none=>rw[hj] at h;cases h
  |some x=>
   rw[hj] at h;simp only[D4] at h;obtain⟨hb,h⟩:=Aq h;simp only[Fc] at hb;have ap:=BM x hj
   have hex:∀k∈PW C P sm s j x,s.hp k≠none:=fun k hk=>by
    have:=List.all_eq_true.1 hb.2 k hk;intro e;rw[e] at this;cases this
   obtain⟨s1,e1,Er,VP,h1⟩:=Se h;obtain⟨ha,h2⟩:=JX hsm hi l (hw.keepsS ap Er VP) (fun k hk=>hl k (by simp[hk])) h1;have Bkv:Qx C P s1 o=Qx C P s o:=Ae3 (ops:=ops) (fun t ht=>Er.1 t fun hd=>ap.xo t hd ht) fun hM hA y hy k hk=>ap.same Er VP hM hA (hw.1 y hy k hk);have VU:PW C P sm s1 i o=PW C P sm s i o:=As4 fun _=>Bkv;rw[List.all_cons,Fc] at ha
   have Bbs:Nat.blt i j=false:=by
    cases hh:Nat.blt i j
    ·rfl
    ·have:=R5 hh;omega
   have hmi:Nh C P x o=true->j∈sm.getD i []:=fun hs=>by
    rw[hsm,UQ hi];exact Xy.2 ⟨x,hj,hs,by rw[EN,Bool.and_false],by rw[Bbs,UR]⟩
   have hmj:Nh C P x o=true->i∈sm.getD j []:=fun hs=>by
    rw[hsm,UQ hj];exact Xy.2 ⟨o,hi,by rw[HD];exact hs,by rw[Bbs,UR],by rw[EN,Bool.and_false]⟩
   have A0e:Nh C P x o=true->Ap7 (PW C P sm s j x) (PW C P sm s i o)=true:=by
    intro hs;have:=ha.1;unfold WY at this;rw[Amu.2 (hmi hs),VU] at this
    simpa using this
   have hok:∀q,WY C P sm s1 i o q=WY C P sm s i o q:=fun q=>by unfold WY;rw[VU]
   have Qn:dn.all (WY C P sm s i o)=true:=by
    refine List.all_eq_true.2 fun q hq=>?_;rw[<-hok];exact List.all_eq_true.1 ha.2 q hq
   refine⟨Qn,?_⟩;rw[VU] at h2
   have h3:=A9r hw (fun hs k hk=>hex k (by rw[QU (hmj hs)];exact hk)) ap (fun hs=>by have:=A0e hs;rw[QU (hmj hs),QU (hmi hs)] at this;exact this)
    (DH (K':=fun s1=>Eo C P N call ops o s1 (fun s2=>Kh C P N call ops sm ((i,o,PW C P sm s i o)::(j,x,PW C P sm s j x)::dn) (l++l') s2 K)) e1 h2)
   obtain⟨s2,e2,Fz,Ws,h4⟩:=Se h3;refine DH e2 ?_
   have hr2:PW C P sm s2 j x=PW C P sm s j x:=As4 fun Gh=>by
    obtain⟨q,hq⟩:=List.exists_mem_of_ne_nil _ Gh;refine Ae3 (ops:=ops) (fun t ht=>Fz.1 t fun hd=>ap.ox t hd ht) fun hM hA y hy k hk=>ap.symm.same Fz Ws hM hA (hex k ?_);rw[QU hq];exact QH (.inl hM) hy hk
   unfold Kh;rw[hj];simp only[D4]
   have hc:(((i,o,PW C P sm s i o)::dn).all (WY C P sm s2 j x)&&(PW C P sm s2 j x).all fun k=>(s2.hp k).isSome)=true:=by
    simp only[List.all_cons,Fc];refine⟨⟨?_,?_⟩,?_⟩
    ·unfold WY;simp only[hr2];cases hs:(sm.getD j []).any (Nat.beq i)
     ·rfl
     ·have hm:=Amu.1 hs;rw[hsm,UQ hj] at hm;obtain⟨o',ho',hso,_⟩:=Xy.1 hm;rw[hi] at ho';cases ho';rw[HD] at hso;rw[Anw (A0e hso)];rfl
    ·refine List.all_eq_true.2 fun q hq=>?_;have:=List.all_eq_true.1 hb.1 q hq;unfold WY at this ⊢;rw[hr2];exact this
    ·rw[hr2];refine List.all_eq_true.2 fun k hk=>?_;have:=Fz.2.1 k (hex k hk);cases hh:s2.hp k with
     |none=>exact absurd hh this
     |some _=>rfl
   rw[hc,hr2];show Eo C P N call ops x s2 _=some r
   have:(fun s'=>Kh C P N call ops sm ((j,x,PW C P sm s j x)::(i,o,PW C P sm s i o)::dn) (l++l') s' K)=fun s2=>Kh C P N call ops sm ((i,o,PW C P sm s i o)::(j,x,PW C P sm s j x)::dn) (l++l') s2 K:=by
    funext s'
    exact NZ _ fun f=>Ar8 _ _ _ f
   rw[this];exact h4
end
section
variable {R:Type}{r:R}{P:Program}{N:Nat}{w0:World}{X0:F3}{Y:Nat->Prop}{β β':Bt}{s:St}{a:Act}{w w':World}{o:Oper}{ops:Array Oper}{C:Ih}{call:Ap}{K:St->Option R}
theorem EW{bs:B9}:∀(l:List Oper)(n:Nat),JP C P ops bs l n=true->∀(k:Nat) o,l[k]?=some o->∀(j:Nat) x,ops[j]?=some x->j<n+k->As6 C P ops x o=true->(bs.getD (n+k) 0).testBit j=true
 |[],_,_,k,o,ho,_,_,_,_,_=>by simp at ho
 |o'::l,n,h,k,o,ho,j,x,hx,hj,M9=>by
  simp only[JP,Fc] at h;cases k with
  |zero=>
   simp at ho;subst ho
   have:=List.all_eq_true.1 h.1 (x,j) (by
    rw[List.mem_zipIdx_iff_getElem?]
    simpa using hx)
   simp only[M9,Fl,Bool.or_false,Bool.or_eq_true,Bool.not_eq_true'] at this;rcases this with h'|h'
   ·have:Nat.blt j n=true:=Nat.ble_eq_true_of_le (by omega);rw[this] at h';cases h'
   ·exact h'
  |succ k=>
   have:=EW l (n+1) h.2 k o (by simpa using ho) j x hx (by omega) M9
   rwa [show n+(k+1)=n+1+k by omega]
theorem Ac1{G:Vg}(I7:NT P G w0 X0)(Dc:∀f args res,call f args=some res->C9 G P f args res)(hok:TK C P ops=true){Q:Exit->Act->World->Prop}(hQ:∀s' a' w' β',K s'=some r->Cj N w0 X0 Y β' s' a' w'->Q .normal a' w'):
  ∀(fuel:Nat) {dn:List (Nat × Oper × B9)} {listed:Array Bool} {s:St} {a:Act} {w:World} {β:Bt},HeadInv .any ops ops.size listed->(Re ops.size listed).length=fuel->Cj N w0 X0 Y β s a w->Kh C P N call ops (OU C P ops (K6 ops.toList [])) dn (Re ops.size listed) s K=some r->wpAny P .any ops Q fuel listed a w:=by
 unfold TK at hok;simp only[Fc] at hok;obtain⟨Auq,A50⟩:=hok;intro fuel
 induction fuel with
 |zero=>
  intro dn listed s a w β inv hf h hk;have hp:=List.eq_nil_of_length_eq_zero hf;rw[hp] at hk;refine⟨?_,hQ s a w β hk h⟩;cases hr:Region.ready .any ops listed with
  |nil=>rfl
  |cons i l=>
   exfalso;have hi:i∈Region.ready .any ops listed:=by rw[hr];simp
   obtain⟨M8,o,ho,_⟩:=mem_ready.1 hi;have:i∈Re ops.size listed:=Mx.2 ⟨(Array.getElem?_eq_some_iff.1 ho).1,M8⟩;rw[hp] at this;simp at this
 |succ fuel ih=>
  intro dn listed s a w β inv hf h hk;refine⟨fun hr=>?_,fun i hi=>?_⟩
  ·rw[YF Auq inv hr] at hf;cases hf
  ·obtain⟨M8,o,ho,Qn⟩:=mem_ready.1 hi;have Ck:i<ops.size:=(Array.getElem?_eq_some_iff.1 ho).1;obtain⟨l1,l2,h1,h2,h3⟩:=GS (Mx.2 ⟨Ck,M8⟩) inv.size;rw[h1] at hk
   have hnb:∀j∈l1,((K6 ops.toList []).getD i 0).testBit j=false:=by
    intro j hj;cases EN:((K6 ops.toList []).getD i 0).testBit j with
    |false=>rfl
    |true=>
     exfalso;have hjl:=Xp (listed:=listed) (fun j oj hj hl=>inv.closed j oj hj hl) ops.toList [] [] (by simp) rfl (by simp) i o ho Qn j EN;have:j∈Re ops.size listed:=by rw[h1];simp[hj]
     have:=getD_both (Mx.1 this).2;rw[hjl] at this;cases this
   have BM:∀j∈l1,j<i/\((K6 ops.toList []).getD i 0).testBit j=false/\∀x,ops[j]?=some x->Qp C P ops x o:=by
    intro j hj;refine⟨h3 j hj,hnb j hj,fun x hxj=>Ani ?_⟩;cases M9:As6 C P ops x o with
    |false=>rfl
    |true=>
     exfalso;have EN:=EW ops.toList 0 A50 i o (by simpa using ho) j x hxj (by have:=h3 j hj;omega) M9
     rw[Ie,hnb j hj] at EN;cases EN
   obtain⟨s',hs',hn⟩:=HG h I7 Dc ho (JX rfl ho l1 (Au1 h o) BM hk).2;refine hn _ _ fun a' w' β' h'=>ih (dn:=(i,o,PW C P (OU C P ops (K6 ops.toList [])) s i o)::dn) (inv.set hi Ck) ?_ h' ?_
   ·rw[h2];rw[h1] at hf;simp at hf ⊢;omega
   ·rw[h2];exact hs'
theorem Y6(h:Cj N w0 X0 Y β s a w){G:Vg}(I7:NT P G w0 X0)(Dc:∀f args res,call f args=some res->C9 G P f args res)(hm:P.follows .mixedOrders=true)(hok:TK C P ops=true){Q:Exit->Act->World->Prop}(hk:Kh C P N call ops (OU C P ops (K6 ops.toList [])) [] (List.range ops.size) s K=some r)(hQ:∀s' a' w' β',K s'=some r->Cj N w0 X0 Y β' s' a' w'->Q .normal a' w'):wpAny P .any ops Q ops.size (Array.replicate ops.size false) a { w with drawn:=w.drawn+1 }:=by
 have hp:Re ops.size (Array.replicate ops.size false)=List.range ops.size:=by
  unfold Re;refine List.filter_eq_self.2 fun i hi=>?_;have:=List.mem_range.1 hi;simp[this]
 refine Ac1 (C:=C) (dn:=[]) I7 Dc hok hQ ops.size ⟨by simp,fun j oj _ hl=>(by rw[getD_replicate_false] at hl;cases hl),fun t ht ht'=>by omega⟩ (by rw[hp];simp) h.drew ?_
 rw[hp];exact hk
theorem Agy(h:Cj N w0 X0 Y β s a w){G:Vg}(I7:NT P G w0 X0)(Dc:∀f args res,call f args=some res->C9 G P f args res)(hm:P.follows .mixedOrders=true)(hok:TK C P ops=true){id:Nat}{Q:Exit->Act->World->Prop}(hk:Kh C P N call ops (OU C P ops (K6 ops.toList [])) [] (List.range ops.size) s K=some r)(hQ:∀s' a' w' β',K s'=some r->Cj N w0 X0 Y β' s' a' w'->Q .normal a' w'):(Code.region id ops true).wp P Q a w:=
 wp_region_any hm (Y6 h I7 Dc hm hok hk hQ)
end
open Go.RowKit
section
variable {R:Type}{r:R}{N:Nat}{w0:World}{X0:F3}{Y:Nat->Prop}{β β':Bt}{s:St}{a:Act}{w w':World}
theorem Avb{i:Nat}(hi:i<a.tmps.size):a.put (some i) (a.tmps.getD i undef)=a:=by
 obtain⟨tmps,dfr⟩:=a;change i<tmps.size at hi
 have:tmps.setIfInBounds i (tmps.getD i undef)=tmps:=by
  apply Array.ext_getElem?;intro k;by_cases e:i=k
  ·subst e;simp[hi]
  ·rw[Array.getElem?_setIfInBounds_ne e]
 simp only[Act.put,this]
theorem Amm{A:Nat->Prop}{es:Nat}{v:Value}(h:Av w A (.lst true es 0 []) v):v=.slice none 0 0:=by cases h;rfl
theorem Alh{id:Nat}(B4:s.hp id=none){v:PV}{val:Value}(hv:Ex w (Dv (A6 s.hp [(id,.ar false [])]) (Dt β id none) Y) (Dt β id none) v val)(hr:∀i∈Cd v,s.hp i≠none\/i=id):
  YC Y β s w v [(id,.ar false [])] val w (Dt β id none):=by
 refine⟨rfl,rfl,rfl,Cw.refl _ _,fun j hj=>Ao _ _ (by rintro rfl;exact hj B4),?_,?_,?_,?_,?_,hv,?_⟩
 ·intro j bx hm;simp at hm;rw[hm.2];trivial
 ·intro j bx hm;simp at hm;obtain⟨rfl,rfl⟩:=hm;exact .inl ⟨At _ _ _,rfl⟩
 ·intro j bx k q hm hq;simp at hm;obtain⟨rfl,rfl⟩:=hm;rw[At] at hq;cases hq
 ·intro j bx j' bx' k q q' hm N0 _ _;simp at hm N0;rw[hm.1,N0.1]
 ·intro j cells hm;simp at hm
 ·intro j hj;rcases hr j hj with h|rfl
  ·exact .inl h
  ·exact .inr ⟨.ar false [],by simp⟩
theorem WI(h:Cj N w0 X0 Y β s a w)(i:Nat):∃β',Cj N w0 X0 Y β' (QJ N s i) a w:=by
 unfold QJ;split
 ·rename_i es ht
  have Ck:i<N:=by
   rcases Ig i N with h'|h'
   ·exact h'
   ·rw[h.tmo i h'] at ht;cases ht
  have hv:=h.tms i Ck;rw[ht] at hv;have hv:=Amm hv;have hd:H9 N (some i)=true:=by simp[H9,Nat.blt];omega
  have go:∀j,s.hp j=none->∃β',Cj N w0 X0 Y β' ⟨Dt s.tm i (.view j es 0 0),Dt s.hp j (some (.ar false []))⟩ a w:=by
   intro j hn;have:=h.stepR (d:=some i) hd (by simp[Co,hn]) (Alh (v:=.view j es 0 0) (val:=.slice none 0 0) hn (.inl ⟨At _ _ _,rfl,rfl,none,rfl⟩) (by simp[Cd,Ct,Au]));rw[<-hv,Avb (by rw[h.tsz];exact Ck)] at this
   exact⟨_,this⟩
  cases hn:(s.hp i).isNone
  ·cases hn2:(s.hp (i+N*3000)).isNone
   ·exact⟨β,h⟩
   ·exact go _ (by simpa using hn2)
  ·exact go _ (by simpa using hn)
 ·exact⟨β,h⟩
theorem Cj.recell(h:Cj N w0 X0 Y β s a w){id:Nat}{c c':Ae}(h0:s.hp id=some (.st c))(hl:c'.length=c.length)(hc:∀(j:Nat) p,c'[j]?=some p->∃q,c[j]?=some q/\(∀v,Cm w (Dv s.hp β Y) β q v->Cm w (Dv s.hp β Y) β p v)/\∀i∈Au p,s.hp i≠none):
  Cj N w0 X0 Y β ⟨s.tm,Dt s.hp id (some (.st c'))⟩ a w:=by
 have Il:∀i,Dj (Dt s.hp id (some (.st c')) i)↔Dj (s.hp i):=by
  intro i;by_cases e:i=id
  ·subst e;rw[At,h0];exact Iff.rfl
  ·rw[Ao _ _ e]
 have hX:II (Dt s.hp id (some (.st c'))) β=II s.hp β:=by
  funext b
  apply propext;constructor
  ·rintro⟨i,o,hl,hb⟩;exact⟨i,o,(Il i).1 hl,hb⟩
  ·rintro⟨i,o,hl,hb⟩;exact⟨i,o,(Il i).2 hl,hb⟩
 have hA:Dv (Dt s.hp id (some (.st c'))) β Y=Dv s.hp β Y:=by
  funext b;unfold Dv;rw[hX]
 have Gh:∀i,s.hp i≠none->Dt s.hp id (some (.st c')) i≠none:=by
  intro i hi;by_cases e:i=id
  ·subst e;rw[At];simp
  ·rw[Ao _ _ e];exact hi
 have A18:∀i,Dt s.hp id (some (.st c')) i≠none->s.hp i≠none:=by
  intro i hi;by_cases e:i=id
  ·subst e;rw[h0];simp
  ·rw[Ao _ _ e] at hi;exact hi
 refine⟨h.dfr,h.tsz,h.tmo,?_,?_,?_,?_,?_,?_,?_,?_,fun i hi=>⟨Gh _ (h.pin i hi).1,(h.pin i hi).2⟩,?_,?_,h.Ylt,h.fr⟩
 ·intro i hi;show Ex w (Dv (Dt s.hp id _) β Y) β _ _;rw[hA];exact h.tms i hi
 ·intro i b hb;show Wq w (Dv (Dt s.hp id _) β Y) β i b;rw[hA];by_cases e:i=id
  ·subst e;change Dt s.hp i (some (.st c')) i=some b at hb;rw[At] at hb;cases hb;obtain⟨b,o,h1,h2,h3⟩:=h.box i _ h0;refine⟨b,o,h1,fun j p hj=>?_,fun j hj=>h3 j (by rw[<-hl];exact hj)⟩
   obtain⟨q,hq,hqp,_⟩:=hc j p hj;obtain⟨v,hv,hr⟩:=h2 j q hq;exact⟨v,hv,hqp v hr⟩
  ·change Dt s.hp id (some (.st c')) i=some b at hb;rw[Ao _ _ e] at hb;exact h.box i b hb
 ·intro i i' b o o' hl Oo hb Iq;exact h.inj i i' b o o' ((Il i).1 hl) ((Il i').1 Oo) hb Iq
 ·intro i b o hn hb;exact h.blt i b o (A18 i hn) hb
 ·intro i hi j hj;exact Gh j (h.wfT i hi j hj)
 ·intro i cells hb p hp j hj;change Dt s.hp id (some (.st c')) i=_ at hb;by_cases e:i=id
  ·subst e;rw[At] at hb;cases hb;obtain⟨k,hk⟩:=List.mem_iff_getElem?.1 hp;obtain⟨_,_,_,hr⟩:=hc k p hk;exact Gh j (hr j hj)
  ·rw[Ao _ _ e] at hb;exact Gh j (h.wfB i cells hb p hp j hj)
 ·intro b hb;exact h.ownd b (by rw[<-hX];exact hb)
 ·intro i bx b o hb hlb hβ Ck j hj;change Dt s.hp id (some (.st c')) i=some bx at hb;by_cases e:i=id
  ·subst e;rw[At] at hb;cases hb;exact h.rngB i _ b o h0 trivial hβ Ck j (by unfold BR at hj ⊢;simp only[hl] at hj;exact hj)
  ·rw[Ao _ _ e] at hb;exact h.rngB i bx b o hb hlb hβ Ck j hj
 ·intro i c1 b o hb hβ Ck;change Dt s.hp id (some (.st c')) i=_ at hb;by_cases e:i=id
  ·subst e;exact h.stp i c b o h0 hβ Ck
  ·rw[Ao _ _ e] at hb;exact h.stp i c1 b o hb hβ Ck
 ·intro b hY hb;exact h.Yx b hY (by rw[<-hX];exact hb)
theorem WU(h:Cj N w0 X0 Y β s a w)(id j:Nat):∃β',Cj N w0 X0 Y β' (Abn N id s j) a w:=by
 unfold Abn;split
 ·rename_i c h0;split
  ·rename_i es hj;cases hn:(s.hp (id+N*(j+1))).isNone
   ·exact⟨β,h⟩
   ·have hn:s.hp (id+N*(j+1))=none:=by simpa using hn
    have Gh:id≠id+N*(j+1):=by
     intro e;rw[<-e,h0] at hn;cases hn
    have h1:=h.stepR (d:=none) (v:=.top) (val:=undef) rfl (by simp[Co,hn]) (Alh hn (.top _) (by simp[Cd,Ct,Au]));change Cj N w0 X0 Y (Dt β (id+N*(j+1)) none) ⟨s.tm,Dt s.hp (id+N*(j+1)) (some (.ar false []))⟩ a w at h1
    have h2:=h1.recell (id:=id) (c:=c) (c':=c.set j (.view (id+N*(j+1)) es 0 0)) (by show Dt _ _ _ _=_;rw[Ao _ _ Gh];exact h0) (by simp) (by
     intro k p hp;by_cases e:k=j
     ·subst e
      have Ck:k<c.length:=by
       rcases Ig k c.length with h'|h'
       ·exact h'
       ·rw[List.getElem?_eq_none h'] at hj;cases hj
      rw[List.getElem?_set_self Ck] at hp;cases hp;refine⟨_,hj,fun v hv=>.inl ⟨At _ _ _,rfl,rfl,none,Amm hv⟩,fun i hi=>?_⟩;simp[Au] at hi;subst hi;show Dt _ _ _ _≠none;rw[At];simp
     ·rw[List.getElem?_set_ne (fun h=>e h.symm)] at hp;refine⟨p,hp,fun _ hv=>hv,fun i hi=>?_⟩;have:=h.wfB id c h0 p (List.mem_of_getElem? hp) i hi;show Dt _ _ _ _≠none;by_cases e':i=id+N*(j+1)
      ·subst e';rw[At];simp
      ·rw[Ao _ _ e'];exact this)
    refine⟨Dt β (id+N*(j+1)) none,?_⟩;have e3:Dt (Dt s.hp (id+N*(j+1)) (some (.ar false []))) id (some (.st (c.set j (.view (id+N*(j+1)) es 0 0))))=Dt (Dt s.hp id (some (.st (c.set j (.view (id+N*(j+1)) es 0 0))))) (id+N*(j+1)) (some (.ar false [])):=Aes _ _ _ (fun h=>Gh h.symm);change Cj N w0 X0 Y (Dt β (id+N*(j+1)) none) ⟨s.tm,Dt (Dt s.hp (id+N*(j+1)) (some (.ar false []))) id (some (.st (c.set j (.view (id+N*(j+1)) es 0 0))))⟩ a w at h2;rw[e3] at h2;exact h2
  ·exact⟨β,h⟩
 ·exact⟨β,h⟩
theorem Uy{f:St->Nat->St}(hf:∀s β,Cj N w0 X0 Y β s a w->∀i,∃β',Cj N w0 X0 Y β' (f s i) a w):∀(l:B9){s:St}{β:Bt},Cj N w0 X0 Y β s a w->∃β',Cj N w0 X0 Y β' (l.foldl f s) a w
 |[],_,β,h=>⟨β,h⟩
 |i::l,s,β,h=>by
  obtain⟨β1,h1⟩:=hf s β h i;exact Uy hf l h1
theorem Aby(h:Cj N w0 X0 Y β s a w)(i:Nat):∃β',Cj N w0 X0 Y β' (Abg N s i) a w:=by
 unfold Abg;split
 ·split
  ·exact Uy (fun s β h i=>WU h _ i) _ h
  ·exact⟨β,h⟩
 ·exact⟨β,h⟩
theorem ZU:∀{m:List (Nat × Nat)},Fa (m.map (·.2))=true->∀{i i' j:Nat},(i,j)∈m->(i',j)∈m->i=i'
 |[],_,_,_,_,h,_=>by simp at h
 |(x,y)::m,hn,i,i',j,h,h'=>by
  simp only[X4,Fa,Fc,Bool.not_eq_true'] at hn
  have hy:∀k,(k,y) ∉ m:=by
   intro k hk;exact Yd hn.1 (List.mem_map.2 ⟨(k,y),hk,rfl⟩)
  rcases Ch.1 h with e|h
  ·cases e;rcases Ch.1 h' with e|h'
   ·cases e;rfl
   ·exact absurd h' (hy _)
  ·rcases Ch.1 h' with e|h'
   ·cases e;exact absurd h (hy _)
   ·exact ZU hn.2 h h'
theorem LR:∀{m:List (Nat × Nat)},Fa (m.map (·.1))=true->∀{i j j':Nat},(i,j)∈m->(i,j')∈m->j=j'
 |[],_,_,_,_,h,_=>by simp at h
 |(x,y)::m,hn,i,j,j',h,h'=>by
  simp only[X4,Fa,Fc,Bool.not_eq_true'] at hn
  have hx:∀k,(x,k) ∉ m:=by
   intro k hk;exact Yd hn.1 (List.mem_map.2 ⟨(x,k),hk,rfl⟩)
  rcases Ch.1 h with e|h
  ·cases e;rcases Ch.1 h' with e|h'
   ·cases e;rfl
   ·exact absurd h' (hx _)
  ·rcases Ch.1 h' with e|h'
   ·cases e;exact absurd h (hx _)
   ·exact LR hn.2 h h'
theorem Rd{i j:Nat}(h:Nat.beq i j=false):i≠j:=by rintro rfl;rw[Og] at h;cases h
theorem KD:∀{m:List (Nat × Nat)} {i j:Nat},EH m i=some j->(i,j)∈m
 |[],_,_,h=>by cases h
 |(x,y)::m,i,j,h=>by
  unfold EH at h;cases hb:Nat.beq i x<;>rw[hb] at h
  ·exact Tz _ (KD h)
  ·have:=Dx hb;cases h;rw[this];simp
theorem MP{m:List (Nat × Nat)}{hp:Nat->Option Cc}:∀{l:List (Nat × Nat)} {j:Nat}{b:Cc},C4 (Qv m hp l) j=some b->∃i b0,(i,j)∈l/\hp i=some b0/\b=Axr m b0
 |[],_,_,h=>by cases h
 |(x,y)::l,j,b,h=>by
  unfold Qv at h;cases hx:hp x with
  |none=>
   rw[hx] at h;obtain⟨i,b0,h1,h2⟩:=MP h;exact⟨i,b0,Tz _ h1,h2⟩
  |some bx=>
   rw[hx] at h;simp only[C4] at h;cases hb:Nat.beq j y<;>rw[hb] at h
   ·obtain⟨i,b0,h1,h2⟩:=MP h;exact⟨i,b0,Tz _ h1,h2⟩
   ·have:=Dx hb;subst this;cases h;exact⟨x,bx,by simp,hx,rfl⟩
theorem Te{m:List (Nat × Nat)}{hp:Nat->Option Cc}:∀{l:List (Nat × Nat)} {i j:Nat},(i,j)∈l->hp i≠none->C4 (Qv m hp l) j≠none
 |[],_,_,h,_=>by simp at h
 |(x,y)::l,i,j,h,hi=>by
  unfold Qv;cases hx:hp x with
  |none=>
   rcases Ch.1 h with e|h
   ·cases e;exact absurd hx hi
   ·exact Te h hi
  |some bx=>
   simp only[C4];cases hb:Nat.beq j y
   ·rcases Ch.1 h with e|h
    ·cases e;exact absurd rfl (Rd hb)
    ·exact Te h hi
   ·simp
def WN(m:List (Nat × Nat))(j:Nat):Option Nat:=
 match m with
 |[]=>none
 |(x,y)::r=>bif Nat.beq j y then some x else WN r j
theorem Aku:∀{m:List (Nat × Nat)} {i j:Nat},WN m j=some i->(i,j)∈m
 |[],_,_,h=>by cases h
 |(x,y)::m,i,j,h=>by
  unfold WN at h;cases hb:Nat.beq j y<;>rw[hb] at h
  ·exact Tz _ (Aku h)
  ·have:=Dx hb;cases h;rw[this];simp
theorem Afo:∀{m:List (Nat × Nat)} {i j:Nat},(i,j)∈m->∃k,WN m j=some k
 |[],_,_,h=>by simp at h
 |(x,y)::m,i,j,h=>by
  unfold WN;cases hb:Nat.beq j y
  ·rcases Ch.1 h with e|h
   ·cases e;exact absurd rfl (Rd hb)
   ·exact Afo h
  ·exact⟨x,rfl⟩
theorem Acn{f:Nat->PV}:∀{l:B9}{i:Nat},lk (l.map fun i=>(i,f i)) i=if i∈l then f i else .top
 |[],_=>rfl
 |x::l,i=>by
  simp only[X4,lk];cases hb:Nat.beq i x
  ·have:=Rd hb;simp only[cond_false,Acn,Ch,this,false_or]
  ·have:=Dx hb;subst this;simp
theorem YO{m:Nat}:∀{n i:Nat},i∈Qk m n->i<n
 |0,_,h=>by simp[Qk] at h
 |n+1,i,h=>by
  simp only[Qk,B5] at h;rcases h with h|h
  ·have:=YO h;omega
  ·cases hb:m.testBit n<;>rw[hb] at h
   ·simp at h
   ·simp at h;omega
theorem Adi(h:Cj N w0 X0 Y β s a w){m:List (Nat × Nat)}(h1:Fa (m.map (·.1))=true)(h2:Fa (m.map (·.2))=true){ls:B9}(hls:∀i∈ls,i<N)(hpn:∀i,X0.pn i->(D1 N i,D1 N i)∈m):
  ∃β',Cj N w0 X0 Y β' ⟨lk (ls.map fun i=>(i,Aob m (s.tm i))),C4 (Qv m s.hp m)⟩ a w:=by
 refine⟨fun j=>(WN m j).bind β,?_⟩
 have hβ:∀{i j:Nat},(i,j)∈m->(WN m j).bind β=β i:=by
  intro i j hm;obtain⟨k,hk⟩:=Afo hm;rw[hk];have:=ZU h2 (Aku hk) hm;subst this;rfl
 have hold:∀{j:Nat} {b:Cc},C4 (Qv m s.hp m) j=some b->∃i b0,(i,j)∈m/\s.hp i=some b0/\b=Axr m b0/\(WN m j).bind β=β i:=by
  intro j b hb;obtain⟨i,b0,hm,h3,h4⟩:=MP hb;exact⟨i,b0,hm,h3,h4,hβ hm⟩
 have Il:∀{j:Nat},Dj (C4 (Qv m s.hp m) j)->∃i,(i,j)∈m/\Dj (s.hp i)/\(WN m j).bind β=β i:=by
  intro j hl;cases hb:C4 (Qv m s.hp m) j with
  |none=>rw[hb] at hl;exact hl.elim
  |some b=>
   obtain⟨i,b0,hm,h3,rfl,h5⟩:=hold hb;refine⟨i,hm,?_,h5⟩;rw[hb] at hl;rw[h3];cases b0<;>exact hl
 have hX:∀b,II (C4 (Qv m s.hp m)) (fun j=>(WN m j).bind β) b->II s.hp β b:=by
  rintro b ⟨j,o,hl,hb⟩
  obtain⟨i,_,Oo,e⟩:=Il hl;exact⟨i,o,Oo,by rw[<-e];exact hb⟩
 have hA:∀b,Dv (C4 (Qv m s.hp m)) (fun j=>(WN m j).bind β) Y b->Dv s.hp β Y b:=fun b hb=>hb.imp (hX b) id
 have hC:∀p v,Cm w (Dv s.hp β Y) β p v->Cm w (Dv (C4 (Qv m s.hp m)) (fun j=>(WN m j).bind β) Y) (fun j=>(WN m j).bind β) (Akb m p) v:=by
  intro p v hp;cases p with
  |view id es off n=>
   show Cm _ _ _ (match EH m id with|some j=>.view j es off n|none=>.top) v;cases hj:EH m id with
   |some j=>
    have e:=hβ (KD hj);rcases hp with⟨e1,e2⟩|⟨b,o,x,cap,e1,e2⟩
    ·exact .inl ⟨by show (WN m j).bind β=none;rw[e];exact e1,e2⟩
    ·exact .inr ⟨b,o,x,cap,by show (WN m j).bind β=_;rw[e];exact e1,e2⟩
   |none=>exact Av.top _
  |ptr id off=>
   show Cm _ _ _ (match EH m id with|some j=>.ptr j off|none=>.top) v;cases hj:EH m id with
   |some j=>
    have e:=hβ (KD hj);obtain⟨b,o,e1,e2⟩:=hp;exact⟨b,o,by show (WN m j).bind β=_;rw[e];exact e1,e2⟩
   |none=>exact Av.top _
  |sc v=>exact Av.step (Cw.refl _ _) (fun b _=>hA b) hp
  |lst z es n c=>exact Av.step (Cw.refl _ _) (fun b _=>hA b) hp
  |iptr c off=>exact Cm.step (p:=.iptr c off) (Cw.refl _ _) (fun b _=>hA b) (by simp[Au]) hp
  |_=>exact Av.top _
 have hV:∀p v,Ex w (Dv s.hp β Y) β p v->Ex w (Dv (C4 (Qv m s.hp m)) (fun j=>(WN m j).bind β) Y) (fun j=>(WN m j).bind β) (Aob m p) v:=by
  intro p v hp;cases p with
  |agg c=>
   obtain⟨vs,e1,e2⟩:=hp;refine⟨vs,e1,Bx.of_at (by simp;exact e2.len) fun i q u hq hu=>?_⟩
   rw[List.getElem?_map] at hq;cases hc:c[i]? with
   |none=>rw[hc] at hq;cases hq
   |some q0=>
    rw[hc] at hq;cases hq;exact hC _ _ (e2.at_ hc hu)
  |view id es off n=>
   have:=hC (.view id es off n) v hp;change Cm _ _ _ (match EH m id with|some j=>.view j es off n|none=>.top) v at this;show Ex _ _ _ (match EH m id with|some j=>.view j es off n|none=>.top) v;cases hj:EH m id<;>rw[hj] at this<;>exact this
  |ptr id off=>
   have:=hC (.ptr id off) v hp;change Cm _ _ _ (match EH m id with|some j=>.ptr j off|none=>.top) v at this;show Ex _ _ _ (match EH m id with|some j=>.ptr j off|none=>.top) v;cases hj:EH m id<;>rw[hj] at this<;>exact this
  |sc v'=>exact hC (.sc v') v hp
  |lst z es n c=>exact hC (.lst z es n c) v hp
  |iptr c off=>exact hC (.iptr c off) v hp
  |_=>exact Av.top _
 have hrC:∀p i,i∈Au (Akb m p)->∃k∈Au p,(k,i)∈m:=by
  intro p i hi;cases p with
  |view id es off n=>
   change i∈Au (match EH m id with|some j=>.view j es off n|none=>.top) at hi;cases hj:EH m id<;>rw[hj] at hi
   ·simp[Au] at hi
   ·simp[Au] at hi;subst hi;exact⟨id,by simp[Au],KD hj⟩
  |ptr id off=>
   change i∈Au (match EH m id with|some j=>.ptr j off|none=>.top) at hi;cases hj:EH m id<;>rw[hj] at hi
   ·simp[Au] at hi
   ·simp[Au] at hi;subst hi;exact⟨id,by simp[Au],KD hj⟩
  |_=>simp[Akb,Au] at hi
 have hrV:∀p i,i∈Cd (Aob m p)->∃k∈Cd p,(k,i)∈m:=by
  intro p i hi;cases p with
  |agg c=>
   simp only[Aob,Cd,Ct,List.mem_flatMap,List.mem_map] at hi;obtain⟨_,⟨q,hq,rfl⟩,hi⟩:=hi;obtain⟨k,hk,hm⟩:=hrC q i hi;exact⟨k,by simp only[Cd,Ct,List.mem_flatMap];exact⟨q,hq,hk⟩,hm⟩
  |view id es off n=>
   refine (hrC (.view id es off n) i ?_).imp fun k hk=>hk;change i∈Cd (match EH m id with|some j=>.view j es off n|none=>.top) at hi;show i∈Au (match EH m id with|some j=>.view j es off n|none=>.top);cases hj:EH m id<;>rw[hj] at hi<;>exact hi
  |ptr id off=>
   refine (hrC (.ptr id off) i ?_).imp fun k hk=>hk;change i∈Cd (match EH m id with|some j=>.ptr j off|none=>.top) at hi;show i∈Au (match EH m id with|some j=>.ptr j off|none=>.top);cases hj:EH m id<;>rw[hj] at hi<;>exact hi
  |_=>simp[Aob,Akb,Cd,Ct,Au] at hi
 refine⟨h.dfr,h.tsz,?_,?_,?_,?_,?_,?_,?_,?_,?_,?_,?_,?_,h.Ylt,h.fr⟩
 ·intro i hi;show lk _ i=_;rw[Acn,B3 (fun hm=>by have:=hls i hm;omega)]
 ·intro i hi;show Ex w _ _ (lk _ i) _;rw[Acn];split
  ·exact hV _ _ (h.tms i hi)
  ·exact Av.top _
 ·intro j b hb;obtain⟨i,b0,hm,h3,rfl,e⟩:=hold hb;have Mz:=h.box i b0 h3;cases b0 with
  |st c=>
   obtain⟨b,o,e1,e2,e3⟩:=Mz;refine⟨b,o,by show (WN m j).bind β=_;rw[e];exact e1,fun k p hp=>?_,fun k hk=>e3 k (by simpa using hk)⟩
   rw[List.getElem?_map] at hp;cases hc:c[k]? with
   |none=>rw[hc] at hp;cases hp
   |some q=>
    rw[hc] at hp;cases hp;obtain⟨v,hv,hr⟩:=e2 k q hc;exact⟨v,hv,hC _ _ hr⟩
  |ar fz c=>
   have:=Wq.step' hA Mz;show Wq _ _ _ _ (.ar fz c);rcases this with⟨e1,e2⟩|⟨b,o,e1,e2⟩
   ·exact .inl ⟨by show (WN m j).bind β=_;rw[e];exact e1,e2⟩
   ·exact .inr ⟨b,o,by show (WN m j).bind β=_;rw[e];exact e1,e2⟩
  |mv=>exact trivial
 ·intro j j' b o o' hl Oo hb Iq;obtain⟨i,hm,VP,e⟩:=Il hl;obtain⟨i',N0,Bof,e'⟩:=Il Oo;have:=h.inj i i' b o o' VP Bof (by rw[<-e];exact hb) (by rw[<-e'];exact Iq)
  subst this;exact LR h1 hm N0
 ·intro j b o hn hb;cases hj:C4 (Qv m s.hp m) j with
  |none=>exact absurd hj hn
  |some bx=>
   obtain⟨i,b0,_,h3,_,e⟩:=hold hj;exact h.blt i b o (by rw[h3];simp) (by rw[<-e];exact hb)
 ·intro i hi j hj;change j∈Cd (lk _ i) at hj;rw[Acn] at hj;split at hj
  ·obtain⟨k,hk,hm⟩:=hrV _ j hj;exact Te hm (h.wfT i hi k hk)
  ·simp[Cd,Ct,Au] at hj
 ·intro j cells hb p hp k hk;obtain⟨i,b0,_,h3,h4,_⟩:=hold hb;cases b0 with
  |st c=>
   cases h4;obtain⟨q,hq,rfl⟩:=List.mem_map.1 hp;obtain⟨k',H4,hm⟩:=hrC q k hk;exact Te hm (h.wfB i c h3 q hq k' H4)
  |ar fz c=>cases h4
  |mv=>cases h4
 ·intro b hb;exact h.ownd b (hX b hb)
 ·intro j bx b o hb hlb hβ1 Ck k hk;obtain⟨i,b0,_,h3,h4,e⟩:=hold hb;subst h4;refine h.rngB i b0 b o h3 ?_ (by rw[<-e];exact hβ1) Ck k ?_
  ·cases b0<;>exact hlb
  ·cases b0 with
   |st c=>simpa [BR,Axr] using hk
   |ar fz c=>exact hk
   |mv=>exact hk
 ·intro i hi;exact⟨Te (hpn i hi) (h.pin i hi).1,(hβ (hpn i hi)).trans (h.pin i hi).2⟩
 ·intro j c b o hb hβ1 Ck;obtain⟨i,b0,hm,h3,h4,e⟩:=hold hb;cases b0 with
  |st c0=>
   obtain⟨k,rfl,hk⟩:=h.stp i c0 b o h3 (by rw[<-e];exact hβ1) Ck
   exact⟨k,LR h1 hm (hpn k hk),hk⟩
  |ar fz c0=>cases h4
  |mv=>cases h4
 ·intro b hY hb;exact h.Yx b hY (hX b hb)
theorem CZ{m:List (Nat × Nat)}{q:Nat × Nat}{o n:Nat}(h:q∈m):q∈Aab m o n:=by
 unfold Aab;split
 ·exact h
 ·exact B5.2 (.inl h)
theorem Pu{q:Nat × Nat}{new:Nat}:∀{c:Ae}{j:Nat}{m:List (Nat × Nat)},q∈m->q∈Xs N new c j m
 |[],_,_,h=>h
 |p::c,j,m,h=>by
  unfold Xs;split
  ·rename_i e;cases e
  ·rename_i e;cases e;exact Pu (CZ h)
  ·rename_i e;cases e;exact Pu h
theorem Ag3{q:Nat × Nat}{m:List (Nat × Nat)}{i:Nat}(h:q∈m):q∈QK N s m i:=by
 unfold QK;split
 ·exact CZ h
 ·split
  ·exact h
  ·split
   ·exact Pu (CZ h)
   ·exact CZ h
 ·exact Pu h
 ·exact h
theorem KB{q:Nat × Nat}:∀{l:B9}{m:List (Nat × Nat)},q∈m->q∈l.foldl (QK N s) m
 |[],_,h=>h
 |_::l,_,h=>KB (l:=l) (Ag3 h)
theorem Xo{q:Nat × Nat}{m:List (Nat × Nat)}(h:q∈m):∀k,q∈CC N s.hp k m
 |0=>h
 |k+1=>by
  unfold CC;split
  ·exact Pu (Xo h k)
  ·exact Xo h k
theorem Aar:∀{k i:Nat},i<k->s.hp (D1 N i)≠none->(D1 N i,D1 N i)∈Ad5 N s.hp k
 |0,_,h,_=>by omega
 |k+1,i,h,hn=>by
  unfold Ad5;by_cases e:i=k
  ·subst e
   have:(s.hp (D1 N i)).isSome=true:=by
    cases hq:s.hp (D1 N i) with
    |none=>exact absurd hq hn
    |some b=>rfl
   rw[this];simp
  ·have:=Aar (k:=k) (i:=i) (by omega) hn;cases (s.hp (D1 N k)).isSome
   ·exact this
   ·exact B5.2 (.inl this)
theorem OZ(h:Cj N w0 X0 Y β s a w){L:Nat}{q:Bool}{K:St->Option R}(hk:Ak9 N (Qk L N) q s K=some r):∃β' s',K s'=some r/\Cj N w0 X0 Y β' s' a w:=by
 unfold Ak9 at hk;obtain⟨hb,Er⟩:=Aq hk;simp only[Fc] at hb
 obtain⟨β2,h2⟩:∃β2,Cj N w0 X0 Y β2 (bif q then s else (Qk L N).foldl (Abg N) ((Qk L N).foldl (QJ N) s)) a w:=by
  cases q
  ·obtain⟨β1,h1⟩:=Uy (fun s β h i=>WI h i) (Qk L N) h;obtain⟨β2,h2⟩:=Uy (fun s β h i=>Aby h i) (Qk L N) h1;exact⟨β2,h2⟩
  ·exact⟨β,h⟩
 obtain⟨β3,h3⟩:=Adi h2 hb.1 hb.2 (ls:=Qk L N) (fun i hi=>YO hi) (fun i hi=>KB (Xo (Aar (X0.p8 i hi) (h2.pin i hi).1) 8));exact⟨β3,_,Er,h3⟩
theorem Cv(h:Cj N w0 X0 Y β s a w){L:Nat}{K:St->Option R}(hk:Mu N L s K=some r):∃β' s',K s'=some r/\Cj N w0 X0 Y β' s' a w:=OZ h hk
theorem OM(h:Cj N w0 X0 Y β s a w){L:Nat}{K:St->Option R}(hk:Aez N L s K=some r):∃β' s',K s'=some r/\Cj N w0 X0 Y β' s' a w:=OZ h hk
end
open Go.RowKit
section
variable {R:Type}{r:R}{P:Program}{N:Nat}{w0:World}{X0:F3}{Y:Nat->Prop}{C:Ih}{call:Ap}
theorem DE{n:Nat}{F:St->Option R}{s:St}(h:SO n F s=some r):F s=some r:=by
 unfold SO at h;split at h
 ·cases h
 ·exact h
theorem NS{β:Bt}{s:St}{a:Act}{w:World}(h:Cj N w0 X0 Y β s a w){c:Operand}{kt kf:St->Option R}(hk:Avh s c kt kf=some r):(a.eval c=.bool true/\kt s=some r)\/(a.eval c=.bool false/\kf s=some r):=by
 unfold Avh at hk;split at hk
 ·rename_i d;split at hk
  ·rename_i b ht;have hv:a.eval (.tmp d)=.bool b:=Da h (x:=.tmp d) ht;cases b
   ·change kf ⟨Dt s.tm d (.sc (.bool false)),s.hp⟩=some r at hk;rw[KE s.tm ht] at hk;exact .inr ⟨hv,hk⟩
   ·change kt ⟨Dt s.tm d (.sc (.bool true)),s.hp⟩=some r at hk;rw[KE s.tm ht] at hk;exact .inl ⟨hv,hk⟩
  ·rename_i ht;have hu:=D7 h (.tmp d);change Ex _ _ _ (s.tm d) _ at hu;rw[ht] at hu;have Mc:Av w _ .ub (a.eval (.tmp d)):=hu
   obtain⟨b,hv⟩:∃b,a.eval (.tmp d)=.bool b:=by
    generalize a.eval (.tmp d)=x at Mc;cases Mc with
    |ub b=>exact⟨b,rfl⟩
   obtain⟨h1,h2⟩:=YZ hk;cases b
   ·exact .inr ⟨hv,h2⟩
   ·exact .inl ⟨hv,h1⟩
  ·cases hk
 ·exact .inl ⟨rfl,hk⟩
 ·exact .inr ⟨rfl,hk⟩
 ·cases hk
theorem RY{c:Code}{Q:Exit->Act->World->Prop}{F:(St->Option R)->St->Option R}{nm:St->(St->Option R)->Option R}(QS:∀{β s a w} {K:St->Option R},Cj N w0 X0 Y β s a w->nm s K=some r->∃β' s',K s'=some r/\Cj N w0 X0 Y β' s' a w)(hF:∀{β s a w} {K:St->Option R}{Q':Act->World->Prop},Cj N w0 X0 Y β s a w->F K s=some r->(∀s' a' w' β',K s'=some r->Cj N w0 X0 Y β' s' a' w'->Q' a' w')->c.wp P (Exit.then Q' Q) a w):
  ∀(n:Nat) {β s a w},Cj N w0 X0 Y β s a w->Adw F nm n s=some r->Code.rounds P c Q n a w
 |0,_,_,_,_,_,hk=>by cases hk
 |n+1,β,s,a,w,h,hk=>by
  rw[rounds_succ];refine hF h hk fun s' a' w' β' H4 h'=>?_;obtain⟨β1,s1,Er,h1⟩:=QS h' H4;exact RY QS hF n h1 Er
theorem GC{G:Vg}(I7:NT P G w0 X0)(Dc:∀f args res,call f args=some res->C9 G P f args res)(hm:P.follows .mixedOrders=true){fu:Nat}:
  ∀(c:Code) {ln:Nat} {lx:Nat->Nat} {lr:Nat} {kn:St->Option R} {kx:Nat->St->Option R} {kr:St->Option R} {β:Bt} {s:St} {a:Act} {w:World} {Q:Exit->Act->World->Prop},Cj N w0 X0 Y β s a w ->
   Mq C P fu N call c ln lx lr kn kx kr s=some r->(∀s' a' w' β',kn s'=some r->Cj N w0 X0 Y β' s' a' w'->Q .normal a' w') ->
   (∀id s' a' w' β',kx id s'=some r->Cj N w0 X0 Y β' s' a' w'->Q (.exit id) a' w')->(∀s' a' w' β',kr s'=some r->Cj N w0 X0 Y β' s' a' w'->Q .ret a' w')->c.wp P Q a w:=by
 intro c
 induction c with
 |skip=>intro ln lx lr kn kx kr β s a w Q h hk hn hx hr;exact wp_skip (hn s a w β hk h)
 |region id ops draw=>
  intro ln lx lr kn kx kr β s a w Q h hk hn hx hr;unfold Mq at hk;cases draw
  ·simp only[XA,UR,cond_false] at hk;exact Acm h I7 Dc hk hn
  ·simp only[XA,Avu,XY,cond_true] at hk;cases hb:SQ C P ops<;>rw[hb] at hk
   ·obtain⟨Iq,Er⟩:=Aq (show As _ _=some r from hk);exact Agy h I7 Dc hm Iq Er hn
   ·exact Ab9 h I7 Dc hm hb hk hn
 |seq c1 c2 ih1 ih2=>
  intro ln lx lr kn kx kr β s a w Q h hk hn hx hr;unfold Mq at hk
  refine wp_seq (ih1 h hk (fun s' a' w' β' H4 h'=>by
    cases hc:Aml P c1 c2
    ·rw[hc] at H4;exact ih2 h' H4 hn hx hr
    ·rw[hc] at H4;cases hq:JF c1 c2
     ·rw[hq] at H4;obtain⟨β1,s1,Er,h1⟩:=Cv h' (show Mu _ _ _ _=some r from H4);exact ih2 h1 (DE Er) hn hx hr
     ·rw[hq] at H4;obtain⟨β1,s1,Er,h1⟩:=OM h' (show Aez _ _ _ _=some r from H4);exact ih2 h1 (DE Er) hn hx hr) (fun id s' a' w' β' H4 h'=>hx id s' a' w' β' H4 h') (fun s' a' w' β' H4 h'=>hr s' a' w' β' H4 h'))
 |cond c c1 c2 ih1 ih2=>
  intro ln lx lr kn kx kr β s a w Q h hk hn hx hr;unfold Mq at hk;rcases NS h hk with⟨hc,Er⟩|⟨hc,Er⟩
  ·exact wp_cond_true hc (ih1 h Er hn hx hr)
  ·exact wp_cond_false hc (ih2 h Er hn hx hr)
 |block id c ih=>
  intro ln lx lr kn kx kr β s a w Q h hk hn hx hr;unfold Mq at hk;refine wp_block (ih h hk (fun s' a' w' β' H4 h'=>hn s' a' w' β' H4 h') (fun j s' a' w' β' H4 h'=>?_) (fun s' a' w' β' H4 h'=>hr s' a' w' β' H4 h'));show (if j=id then _ else _);by_cases e:j=id
  ·subst e;rw[Cr rfl];rw[Og] at H4;exact hn s' a' w' β' H4 h'
  ·rw[B3 e]
   have:Nat.beq j id=false:=by
    cases hb:Nat.beq j id
    ·rfl
    ·exact absurd (Dx hb) e
   rw[this] at H4;exact hx j s' a' w' β' H4 h'
 |loop c ih=>
  intro ln lx lr kn kx kr β s a w Q h hk hn hx hr;unfold Mq at hk;obtain⟨β1,s1,Er,h1⟩:=Cv h hk;refine wp_loop_rounds fu (RY (fun h hk=>Cv h hk) (fun h hk hQ=>?_) fu h1 Er);exact ih h hk hQ (fun id s' a' w' β' H4 h'=>hx id s' a' w' β' H4 h') (fun s' a' w' β' H4 h'=>hr s' a' w' β' H4 h')
 |«exit» id=>intro ln lx lr kn kx kr β s a w Q h hk hn hx hr;exact wp_exit (hx id s a w β hk h)
 |ret=>intro ln lx lr kn kx kr β s a w Q h hk hn hx hr;exact wp_ret (hr s a w β hk h)
 |_=>intro ln lx lr kn kx kr β s a w Q h hk hn hx hr;cases hk
end
open Go.RowKit
theorem Rj:∀{l:List (Nat × Cc)} {i:Nat}{b:Cc},C4 l i=some b->(i,b)∈l
 |[],_,_,h=>by cases h
 |(j,c)::l,i,b,h=>by
  unfold C4 at h;cases hb:Nat.beq i j<;>rw[hb] at h
  ·exact Tz _ (Rj h)
  ·have:=Dx hb;cases h;rw[this];simp
theorem Ada:∀{l:List (Nat × Cc)},(l.map (·.1)).Nodup->∀{i b},(i,b)∈l->C4 l i=some b
 |[],_,_,_,h=>by cases h
 |(j,c)::l,hn,i,b,h=>by
  simp only[X4,List.nodup_cons] at hn;unfold C4;rcases Ch.1 h with e|h
  ·cases e;simp only[Og,cond_true]
  ·have:Nat.beq i j=false:=by
    cases hb:Nat.beq i j
    ·rfl
    ·exact absurd (Dx hb ▸ List.mem_map.2 ⟨_,h,rfl⟩) hn.1
   simp only[this,cond_false];exact Ada hn.2 h
section
variable {R:Type}{r:R}{P:Program}{N:Nat}{w0:World}{X0:F3}{Y:Nat->Prop}{β β':Bt}{s:St}{a:Act}{w w':World}{A:Nat->Prop}
theorem Atg{id:Nat}{t:CT}{p:PV}{K:PV->List (Nat × Cc)->Option R}(hk:Art id t p K=some r):
  (∃c,K c []=some r/\FE c/\∀w A q u,H8 w A q p u->Av w A c u)\/∃es n cc,p=.own es n cc/\K (.view id es 0 n) [(id,.ar false cc)]=some r:=by
 have tree:∀t',(MB t' p fun c=>K c [])=some r->∃c,K c []=some r/\FE c/\∀w A q u,H8 w A q p u->Av w A c u:=by
  intro t' hk;obtain⟨c,hk,hT,RN,hv⟩:=Rb hk;refine⟨c,hk,hT,fun w A q u h=>(hv w A (fun _=>none) u ?_).1⟩;cases p<;>first|exact h|exact RN.elim
 unfold Art at hk;cases t with
 |sl es=>
  dsimp only at hk;split at hk
  ·rename_i es' n c;cases hb:Nat.beq es' es<;>rw[hb] at hk
   ·cases hk
   ·have:=Dx hb;subst this;exact .inr ⟨_,_,_,rfl,hk⟩
  ·exact .inl (tree (.sl es) hk)
 |int k=>exact .inl (tree _ hk)
 |bool=>exact .inl (tree _ hk)
 |str=>exact .inl (tree _ hk)
 |any=>exact .inl (tree _ hk)
theorem Xe:∀{ts:List CT}{id:Nat}{ps:Ae}{K:Ae->List (Nat × Cc)->Option R},NV N id ts ps K=some r ->
  ∃cs bs,∃qs:List (Nat × Nat),K cs bs=some r/\cs.length=ps.length/\ps.length=ts.length/\bs.map (·.1)=qs.map (·.1)/\(∀q∈qs,∀q'∈qs,q.2=q'.2->q.1=q'.1) /\
   (∀i bx,(i,bx)∈bs->∃c,bx=.ar false c)/\(∀c∈cs,XG c)/\(∀c∈cs,∀i∈Au c,∃bx,(i,bx)∈bs) /\
   ∀(w:World) (A:Nat->Prop) (own β':Bt) (j0:Nat) (us:List Value),(∀q∈qs,β' q.1=own (j0+q.2))->F6 w A own j0 ps us->Bx (Cm w A β') cs us/\∀i bx,(i,bx)∈bs->Wq w A β' i bx
 |[],id,ps,K,hk=>by
  obtain⟨rfl,hk⟩:=Em hk;refine⟨[],[],[],hk,rfl,rfl,rfl,by simp,by simp,by simp,by simp,fun w A own β' j0 us _ h=>⟨?_,by simp⟩⟩;cases us with
  |nil=>trivial
  |cons u us=>exact h.elim
 |t::ts,id,ps,K,hk=>by
  unfold NV at hk;obtain⟨p,ps',MS,Er⟩:=Bo hk;subst MS;rcases Atg Er with⟨c,Fz,hT,hv⟩|⟨es,n,cc,rfl,Fz⟩
  ·obtain⟨cs,bs,qs,Ox,hl,Ws,hb,Nl,F4,hF,Ko,Ma⟩:=Xe Fz;refine⟨c::cs,bs,qs.map (fun q=>(q.1,q.2+1)),Ox,by simp[hl],by simp[Ws],by rw[hb];simp,?_,F4,?_,?_,fun w A own β' j0 us hβ ho=>?_⟩
   ·intro q hq q' Hb e;obtain⟨q0,GK,rfl⟩:=List.mem_map.1 hq;obtain⟨q1,M0,rfl⟩:=List.mem_map.1 Hb;exact Nl q0 GK q1 M0 (by simp only at e;omega)
   ·intro y hy;rcases Ch.1 hy with rfl|hy
    ·exact Yl hT
    ·exact hF y hy
   ·intro y hy i hi;rcases Ch.1 hy with rfl|hy
    ·rw[J2 hT] at hi;cases hi
    ·exact Ko y hy i hi
   ·cases us with
    |nil=>exact ho.elim
    |cons u us=>
     obtain⟨h1,h2⟩:=Ma w A own β' (j0+1) us (fun q hq=>by rw[hβ _ (List.mem_map_of_mem hq)];congr 1;simp only;omega) ho.2
     exact⟨⟨As3 (hv w A _ u ho.1),h1⟩,h2⟩
  ·obtain⟨cs,bs,qs,Ox,hl,Ws,hb,Nl,F4,hF,Ko,Ma⟩:=Xe Fz;refine⟨_::cs,(id,.ar false cc)::bs,(id,0)::qs.map (fun q=>(q.1,q.2+1)),Ox,by simp[hl],by simp[Ws],by simp only[X4,hb];simp,?_,?_,?_,?_,fun w A own β' j0 us hβ ho=>?_⟩
   ·intro q hq q' Hb e;rcases Ch.1 hq with rfl|hq
    ·rcases Ch.1 Hb with rfl|Hb
     ·rfl
     ·obtain⟨q0,GK,rfl⟩:=List.mem_map.1 Hb;simp only at e;omega
    ·obtain⟨q0,GK,rfl⟩:=List.mem_map.1 hq;rcases Ch.1 Hb with rfl|Hb
     ·simp only at e;omega
     ·obtain⟨q1,M0,rfl⟩:=List.mem_map.1 Hb;exact Nl q0 GK q1 M0 (by simp only at e;omega)
   ·intro i bx hm;rcases Ch.1 hm with e|hm
    ·cases e;exact⟨cc,rfl⟩
    ·exact F4 i bx hm
   ·intro y hy;rcases Ch.1 hy with rfl|hy
    ·trivial
    ·exact hF y hy
   ·intro y hy i hi;rcases Ch.1 hy with rfl|hy
    ·simp only[Au,Qi] at hi;subst hi;exact⟨_,FR⟩
    ·obtain⟨bx,Mz⟩:=Ko y hy i hi;exact⟨bx,Tz _ Mz⟩
   ·cases us with
    |nil=>exact ho.elim
    |cons u us=>
     obtain⟨h1,h2⟩:=Ma w A own β' (j0+1) us (fun q hq=>by rw[hβ _ (Tz _ (List.mem_map_of_mem hq))];congr 1;simp only;omega) ho.2
     have h0:=hβ (id,0) FR;simp only[ZW] at h0;refine⟨⟨?_,h1⟩,fun i bx hm=>?_⟩
     ·rcases ho.1 with⟨h3,rfl,_,h5⟩|⟨b,ob,cap,h3,h4,h5,h6,h7,_⟩
      ·exact .inl ⟨h0.trans h3,rfl,rfl,h5⟩
      ·exact .inr ⟨b,ob,ob,cap,h0.trans h3,h4,.inl rfl,h5,h6,h7⟩
     ·rcases Ch.1 hm with e|hm
      ·cases e;exact JE ho.1 h0
      ·exact h2 i bx hm
theorem Aw8{i:Nat}{t:TypeId}{p:PV}{K:PV->List (Nat × Cc)->Option R}(hk:inK P N i t p K=some r):
  ∃v bs,∃qs:List (Nat × Nat),K v bs=some r/\bs.map (·.1)=qs.map (·.1)/\(∀q∈qs,∀q'∈qs,q.2=q'.2->q.1=q'.1)/\(IE p=true->(D1 N i,0)∈qs/\i<8) /\
   (∀id bx,(id,bx)∈bs->Dj (some bx)/\∀c,bx=.st c->id=D1 N i/\IE p=true)/\(∀id∈Cd v,∃bx,(id,bx)∈bs)/\NF bs /\
   ∀(w:World) (A:Nat->Prop) (bt β':Bt) (u:Value),(∀q∈qs,β' q.1=bt q.2)->Ajg w A bt p u->Ex w A β' v u/\(∀id bx,(id,bx)∈bs->Wq w A β' id bx) /\
    ∀id bx b o,(id,bx)∈bs->β' id=some (b,o)->∀j,BR bx o j->A57 bt p b j:=by
 have owns:∀{bs:List (Nat × Cc)} {qs:List (Nat × Nat)},bs.map (·.1)=qs.map (·.1)->(∀i bx,(i,bx)∈bs->∃c,bx=.ar false c)->∀{bt β':Bt},(∀q∈qs,β' q.1=bt (1+q.2))->∀id bx b o,(id,bx)∈bs->β' id=some (b,o)->∀j,BR bx o j->∃k o',bt (k+1)=some (b,o')/\o'<=j:=by
  intro bs qs hb F4 bt β' hβ id bx b o hm hbo j hj;have:id∈qs.map (·.1):=by rw[<-hb];exact List.mem_map.2 ⟨_,hm,rfl⟩
  obtain⟨q,hq,rfl⟩:=List.mem_map.1 this;obtain⟨c,rfl⟩:=F4 _ _ hm;rw[hβ q hq,Nat.add_comm] at hbo;exact⟨q.2,o,hbo,hj⟩
 have nost:∀{bs:List (Nat × Cc)},(∀i bx,(i,bx)∈bs->∃c,bx=.ar false c)->NF bs:=by
  intro bs F4 id cells hm;obtain⟨c,e⟩:=F4 id _ hm;cases e
 unfold inK at hk;split at hk
 ·rename_i e he;obtain⟨ps,rfl,Er⟩:=YE hk;obtain⟨hi8,Fz⟩:=Aq Er;have hi8:i<8:=Nat.lt_of_succ_le (R5 hi8);obtain⟨cs,bs,qs,Ox,hl,Ws,hb,Nl,F4,hF,Ko,hv⟩:=Xe Fz;refine⟨_,_,(D1 N i,0)::qs.map (fun q=>(q.1,q.2+1)),Ox,by simp only[X4,hb];simp,?_,fun _=>⟨FR,hi8⟩,?_,?_,?_,fun w A bt β' u hβ hp=>?_⟩
  ·intro q hq q' Hb e;rcases Ch.1 hq with rfl|hq
   ·rcases Ch.1 Hb with rfl|Hb
    ·rfl
    ·obtain⟨q0,GK,rfl⟩:=List.mem_map.1 Hb;simp only at e;omega
   ·obtain⟨q0,GK,rfl⟩:=List.mem_map.1 hq;rcases Ch.1 Hb with rfl|Hb
    ·simp only at e;omega
    ·obtain⟨q1,M0,rfl⟩:=List.mem_map.1 Hb;exact Nl q0 GK q1 M0 (by simp only at e;omega)
  ·intro id bx hm;rcases Ch.1 hm with e|hm
   ·cases e;exact⟨trivial,fun _ _=>⟨rfl,rfl⟩⟩
   ·obtain⟨c,rfl⟩:=F4 id bx hm;exact⟨trivial,fun _ e=>by cases e⟩
  ·intro id B4;simp only[Cd,Ct,Au,Qi] at B4;subst B4;exact⟨_,FR⟩
  ·intro id cells hm c hc k hk;rcases Ch.1 hm with e|hm
   ·cases e;obtain⟨bx,Mz⟩:=Ko c hc k hk;exact⟨bx,Tz _ Mz⟩
   ·obtain⟨c,e⟩:=F4 id _ hm;cases e
  ·obtain⟨b,o,h1,rfl,_,vs,h3,h4,h5⟩:=hp;have h0:=hβ (D1 N i,0) FR;simp only at h0;have hβ1:∀q∈qs,β' q.1=bt (1+q.2):=fun q hq=>by rw[hβ _ (Tz _ (List.mem_map_of_mem hq)),Nat.add_comm]
   obtain⟨h6,h7⟩:=hv w A bt β' 1 vs hβ1 h3;refine⟨⟨b,o,h0.trans h1,by simp⟩,fun id bx hm=>?_,fun id bx b' o' hm Iq j hj=>?_⟩
   ·rcases Ch.1 hm with e|hm
    ·cases e;refine⟨b,o,h0.trans h1,fun k c hk=>?_,fun k hk=>h5 k (by omega)⟩;obtain⟨v,hv,hcr⟩:=h6.get hk;exact⟨v,h4 k v hv,hcr⟩
    ·exact h7 id bx hm
   ·rcases Ch.1 hm with e|hm
    ·cases e;rw[h0] at Iq;have hj:o'<=j/\j<o'+cs.length:=hj;exact .inr ⟨o',ps,Iq,hj.1,.inl ⟨rfl,by omega⟩⟩
    ·exact .inl (owns hb F4 hβ1 id bx b' o' hm Iq j hj)
 ·split at hk
  ·rename_i ps;obtain⟨e,he,Er⟩:=Dd hk;obtain⟨hi8,Fz⟩:=Aq Er;have hi8:i<8:=Nat.lt_of_succ_le (R5 hi8);obtain⟨q,qr,hq,Ox⟩:=Bo Fz;subst hq;obtain⟨GD,Ug⟩:=Em Ox;subst GD;unfold Kf at Ug;split at Ug
   ·rename_i es' n c;cases hb:Nat.beq es' (Bp P e)<;>rw[hb] at Ug
    ·cases Ug
    ·have DV:=Dx hb;subst DV;refine⟨_,_,[(D1 N i,0)],Ug,rfl,by simp,fun _=>⟨by simp,hi8⟩,?_,?_,?_,fun w A bt β' u hβ hp=>?_⟩
     ·intro id bx hm;simp only[Qi] at hm;cases hm;exact⟨trivial,fun _ e=>by cases e⟩
     ·intro id B4;simp only[Cd,Ct,Au,Qi] at B4;subst B4;exact⟨_,FR⟩
     ·intro id cells hm;simp only[Qi] at hm;cases hm
     ·obtain⟨es,n',c',h1,h2⟩:=hp;cases h1;have h0:=hβ (D1 N i,0) FR;simp only at h0;refine⟨?_,fun id bx hm=>?_,fun id bx b' o' hm Iq j hj=>?_⟩
      ·rcases h2 with⟨h3,rfl,_,h5⟩|⟨b,ob,cap,h3,h4,h5,h6,h7,_⟩
       ·exact .inl ⟨h0.trans h3,rfl,rfl,h5⟩
       ·exact .inr ⟨b,ob,ob,cap,h0.trans h3,h4,.inl rfl,h5,h6,h7⟩
      ·simp only[Qi] at hm;cases hm;exact JE h2 h0
      ·simp only[Qi] at hm;cases hm;rw[h0] at Iq;exact .inr ⟨o',_,Iq,hj,.inr rfl⟩
   ·cases Ug
  ·rename_i hnt;cases Hs:C5 P t<;>rw[Hs] at hk
   ·simp only[cond_false] at hk;obtain⟨cs,bs,qs,Ox,hl,Ws,hb,Nl,F4,hF,Ko,hv⟩:=Xe hk;obtain⟨c,cs',Z5,Ug⟩:=Bo Ox;subst Z5;obtain⟨GD,WM⟩:=Em Ug;subst GD;have hFc:=hF c (by simp)
    have hnL:IE p=false\/∃ps,p=.pbox ps:=by
     cases p<;>first|exact .inl rfl|exact .inr ⟨_,rfl⟩|exact absurd rfl (hnt _)
    have hpb:∀ps,p ≠ .pbox ps:=by
     rintro ps rfl
     cases hts:Kn P t with
     |nil=>rw[hts] at Ws;simp at Ws
     |cons t' ts=>
      rw[hts] at hk;unfold NV Art at hk;obtain⟨q,qs1,hq,Er⟩:=Bo hk;cases hq;cases t'<;>simp[MB,Ys,Bq,Ax,Bd,fnK] at Er
    have hpa:∀ps,p ≠ .agg ps:=by
     rintro ps rfl
     cases hts:Kn P t with
     |nil=>rw[hts] at Ws;simp at Ws
     |cons t' ts=>
      rw[hts] at hk;unfold NV Art at hk;obtain⟨q,qs1,hq,Er⟩:=Bo hk;cases hq;cases t'<;>simp[MB,Ys,Bq,Ax,Bd,fnK] at Er
    have hnL:IE p=false:=hnL.elim id (fun ⟨ps,e⟩=>absurd e (hpb ps));have ER:Cd c=Au c:=by cases c<;>first|rfl|exact hFc.elim
    refine⟨c,bs,qs.map (fun q=>(q.1,q.2+1)),WM,by rw[hb];simp,?_,(fun h=>by rw[hnL] at h;cases h),?_,fun id B4=>Ko c (by simp) id (by rw[<-ER];exact B4),nost F4,fun w A bt β' u hβ hp=>?_⟩
    ·intro q hq q' Hb e;obtain⟨q0,GK,rfl⟩:=List.mem_map.1 hq;obtain⟨q1,M0,rfl⟩:=List.mem_map.1 Hb;exact Nl q0 GK q1 M0 (by simp only at e;omega)
    ·intro id bx hm;obtain⟨c,rfl⟩:=F4 id bx hm;exact⟨trivial,fun _ e=>by cases e⟩
    ·have Do:H8 w A (bt 1) p u:=by cases p<;>first|exact hp.2|exact absurd rfl (hpa _)|exact absurd rfl (hpb _)|exact absurd rfl (hnt _)
     have hβ1:∀q∈qs,β' q.1=bt (1+q.2):=fun q hq=>by rw[hβ _ (List.mem_map_of_mem hq),Nat.add_comm]
     obtain⟨h6,h7⟩:=hv w A bt β' 1 [u] hβ1 ⟨Do,trivial⟩;refine⟨?_,h7,fun id bx b' o' hm Iq j hj=>.inl (owns hb F4 hβ1 id bx b' o' hm Iq j hj)⟩;have h8:=h6.1;cases c<;>first|exact h8|exact hFc.elim
   ·simp only[cond_true] at hk;obtain⟨ps,P7,Er⟩:=Jj hk;subst P7;obtain⟨cs,bs,qs,Ox,hl,Ws,hb,Nl,F4,hF,Ko,hv⟩:=Xe Er;refine⟨_,bs,qs.map (fun q=>(q.1,q.2+1)),Ox,by rw[hb];simp,?_,(fun h=>by cases h),?_,fun id B4=>?_,nost F4,fun w A bt β' u hβ hp=>?_⟩
    ·intro q hq q' Hb e;obtain⟨q0,GK,rfl⟩:=List.mem_map.1 hq;obtain⟨q1,M0,rfl⟩:=List.mem_map.1 Hb;exact Nl q0 GK q1 M0 (by simp only at e;omega)
    ·intro id bx hm;obtain⟨c,rfl⟩:=F4 id bx hm;exact⟨trivial,fun _ e=>by cases e⟩
    ·obtain⟨c,hc,hi⟩:=List.mem_flatMap.1 (show id∈cs.flatMap Au from B4);exact Ko c hc id hi
    ·obtain⟨vs,h1,_,h3⟩:=hp;have hβ1:∀q∈qs,β' q.1=bt (1+q.2):=fun q hq=>by rw[hβ _ (List.mem_map_of_mem hq),Nat.add_comm]
     obtain⟨h6,h7⟩:=hv w A bt β' 1 vs hβ1 h3;exact⟨⟨vs,h1,h6⟩,h7,fun id bx b' o' hm Iq j hj=>.inl (owns hb F4 hβ1 id bx b' o' hm Iq j hj)⟩
theorem Afd:∀{ts:List TypeId}{i:Nat}{ps:Ae}{K:List (Nat × PV)->List (Nat × Cc)->Option R},Am6 P N i ts ps K=some r ->
  ∃tms bs,∃qs:List (Nat × Nat × Nat),K tms bs=some r/\bs.map (·.1)=qs.map (·.1)/\(∀q∈qs,i<=q.2.1)/\(∀q∈qs,∀q'∈qs,q.2=q'.2->q.1=q'.1) /\
   (∀k p,ps[k]?=some p->IE p=true->(D1 N (i+k),i+k,0)∈qs/\i+k<8)/\(∀id bx,(id,bx)∈bs->Dj (some bx)/\∀c,bx=.st c->∃k p,ps[k]?=some p/\IE p=true/\id=D1 N (i+k)) /\
   (∀j,∀id∈Cd (lk tms j),∃bx,(id,bx)∈bs)/\NF bs /\
   ∀(w:World) (A:Nat->Prop) (bt:FK) (β':Bt) (us:List Value),(∀q∈qs,β' q.1=bt q.2.1 q.2.2)->Nr w A bt i ps us ->
    (∀j,(∃u,i<=j/\us[j-i]?=some u/\Ex w A β' (lk tms j) u)\/(lk tms j=.top/\(i<=j->us[j-i]?=none)))/\(∀id bx,(id,bx)∈bs->Wq w A β' id bx) /\
    ∀id bx b o,(id,bx)∈bs->β' id=some (b,o)->∀j,BR bx o j->∃k p,ps[k]?=some p/\A57 (bt (i+k)) p b j
 |[],i,ps,K,hk=>by
  obtain⟨MS,hk⟩:=Em hk;subst MS;refine⟨[],[],[],hk,rfl,by simp,by simp,by simp,by simp,(fun j id B4=>by cases B4),(by intro i cells hm;cases hm),fun w A bt β' us _ h=>?_⟩
  cases us with
  |nil=>exact⟨fun j=>.inr ⟨rfl,fun _=>by simp⟩,by simp,by simp⟩
  |cons u us=>exact h.elim
 |t::ts,i,ps,K,hk=>by
  unfold Am6 at hk;obtain⟨p,ps',MS,Er⟩:=Bo hk;subst MS;obtain⟨v,bs,qs,Fz,hb,hqi,BL,Mz,hr,hri,hv⟩:=Aw8 Er;obtain⟨tms,bs',qs',Ox,Iq,A2a,Bl0,A8l,Bnw,hr',Biq,Uk⟩:=Afd Fz;refine⟨(i,v)::tms,bs++bs',qs.map (fun q=>(q.1,i,q.2))++qs',Ox,by simp only[List.map_append,hb,Iq];simp,?_,?_,?_,?_,?_,?_,fun w A bt β' us hβ hp=>?_⟩
  ·intro q hq;rcases B5.1 hq with hq|hq
   ·obtain⟨q0,GK,rfl⟩:=List.mem_map.1 hq;exact Ci _
   ·have:=A2a q hq;omega
  ·intro q hq q' Hb e;rcases B5.1 hq with hq|hq
   ·obtain⟨q0,GK,rfl⟩:=List.mem_map.1 hq;rcases B5.1 Hb with Hb|Hb
    ·obtain⟨q1,M0,rfl⟩:=List.mem_map.1 Hb;simp only[Prod.mk.injEq,true_and] at e;exact hqi q0 GK q1 M0 e
    ·have:=A2a q' Hb;rw[<-e] at this;simp only at this;omega
   ·have h5:=A2a q hq;rcases B5.1 Hb with Hb|Hb
    ·obtain⟨q1,M0,rfl⟩:=List.mem_map.1 Hb;rw[e] at h5;simp only at h5;omega
    ·exact Bl0 q hq q' Hb e
  ·intro k p' H4 hL;cases k with
   |zero=>
    simp only[List.getElem?_cons_zero,Option.some.injEq] at H4;subst H4;obtain⟨h1,h2⟩:=BL hL;exact⟨B5.2 (.inl (List.mem_map.2 ⟨_,h1,rfl⟩)),h2⟩
   |succ k=>
    obtain⟨h1,h2⟩:=A8l k p' (by simpa using H4) hL;rw[show i+1+k=i+(k+1) by omega] at h1 h2;exact⟨B5.2 (.inr h1),h2⟩
  ·intro id bx hm;rcases B5.1 hm with hm|hm
   ·obtain⟨h1,h2⟩:=Mz id bx hm;exact⟨h1,fun c hc=>⟨0,p,rfl,(h2 c hc).2,(h2 c hc).1⟩⟩
   ·obtain⟨h1,h2⟩:=Bnw id bx hm;refine⟨h1,fun c hc=>?_⟩;obtain⟨k,p',h3,h4,h5⟩:=h2 c hc;exact⟨k+1,p',by simpa using h3,h4,by rw[h5,show i+1+k=i+(k+1) by omega]⟩
  ·intro j id B4;unfold lk at B4;cases hbq:Nat.beq j i<;>rw[hbq] at B4
   ·obtain⟨bx,h1⟩:=hr' j id B4;exact⟨bx,B5.2 (.inr h1)⟩
   ·obtain⟨bx,h1⟩:=hr id B4;exact⟨bx,B5.2 (.inl h1)⟩
  ·intro id cells hm c hc k hk;rcases B5.1 hm with hm|hm
   ·obtain⟨bx,h1⟩:=hri id cells hm c hc k hk;exact⟨bx,B5.2 (.inl h1)⟩
   ·obtain⟨bx,h1⟩:=Biq id cells hm c hc k hk;exact⟨bx,B5.2 (.inr h1)⟩
  ·cases us with
   |nil=>exact hp.elim
   |cons u us=>
    obtain⟨h1,h2,h3⟩:=hv w A (bt i) β' u (fun q hq=>hβ _ (B5.2 (.inl (List.mem_map_of_mem hq)))) hp.1;obtain⟨h1',h2',h3'⟩:=Uk w A bt β' us (fun q hq=>hβ q (B5.2 (.inr hq))) hp.2;refine⟨fun j=>?_,fun id bx hm=>?_,fun id bx b o hm hbo j hj=>?_⟩
    ·unfold lk;cases hbq:Nat.beq j i
     ·have Gh:=Rd hbq;simp only[cond_false];rcases h1' j with⟨u',h4,h5,h6⟩|⟨h4,h5⟩
      ·refine .inl ⟨u',by omega,?_,h6⟩;rw[show j-i=(j-(i+1))+1 by omega]
       simpa using h5
      ·refine .inr ⟨h4,fun hij=>?_⟩;rw[show j-i=(j-(i+1))+1 by omega]
       simpa using h5 (by omega)
     ·have:=Dx hbq;subst this;exact .inl ⟨u,Ci _,by simp,h1⟩
    ·rcases B5.1 hm with hm|hm
     ·exact h2 id bx hm
     ·exact h2' id bx hm
    ·rcases B5.1 hm with hm|hm
     ·exact⟨0,p,rfl,h3 id bx b o hm hbo j hj⟩
     ·obtain⟨k,p',h4,h5⟩:=h3' id bx b o hm hbo j hj;exact⟨k+1,p',by simpa using h4,by rw[show i+(k+1)=i+1+k by omega];exact h5⟩
def TV(bt:FK)(args:Ae)(h8:∀k p,args[k]?=some p->IE p=true->k<8):F3:=
 ⟨BtX bt,SK bt args,fun i=>∃p,args[i]?=some p/\IE p=true,fun i=>bt i 0,fun i ⟨p,h1,h2⟩=>h8 i p h1 h2⟩
theorem XI{ts:List TypeId}{args:Ae}{us:List Value}{bt:FK}{K:List (Nat × PV)->List (Nat × Cc)->Option R}(Rs:Ins w Y bt args us)(hk:Am6 P N 0 ts args K=some r):
  ∃tms bs,K tms bs=some r/\(Co (fun _=>none) bs=true->us.length<=N->∃(h8:∀k p,args[k]?=some p->IE p=true->k<8),∃β0,
   Cj N w (TV bt args h8) Y β0 ⟨lk tms,C4 bs⟩ { tmps:=us.toArray++Array.replicate (N-us.toArray.size) undef,defers:=[] } w):=by
 obtain⟨tms,bs,qs,Er,hb,GK,hqi,BL,Mz,hr,hri,hv⟩:=Afd hk;refine⟨tms,bs,Er,fun Vj hN=>?_⟩;have Ah2:=Xx Vj
 have h8:∀k p,args[k]?=some p->IE p=true->k<8:=fun k p h1 h2=>by
  have:=(BL k p h1 h2).2;omega
 have VT:(qs.map (·.1)).Nodup:=by rw[<-hb];exact Ah2
 obtain⟨β0,hβ0⟩:∃β0:Bt,∀q∈qs,β0 q.1=bt q.2.1 q.2.2:=by
  have:∀(l:List (Nat × Nat × Nat)),(l.map (·.1)).Nodup->∃β0:Bt,∀q∈l,β0 q.1=bt q.2.1 q.2.2:=by
   intro l
   induction l with
   |nil=>intro _;exact⟨fun _=>none,by simp⟩
   |cons q l ih=>
    intro hn;simp only[X4,List.nodup_cons] at hn;obtain⟨b1,h1⟩:=ih hn.2;refine⟨Dt b1 q.1 (bt q.2.1 q.2.2),fun q' Hb=>?_⟩;rcases Ch.1 Hb with rfl|Hb
    ·exact At _ _ _
    ·have Gh:q'.1≠q.1:=fun e=>hn.1 (by rw[<-e];exact List.mem_map.2 ⟨q',Hb,rfl⟩)
     rw[Ao _ _ Gh];exact h1 q' Hb
  exact this qs VT
 refine⟨h8,β0,?_⟩;obtain⟨hs,hbr,hL⟩:=hv w _ bt β0 us hβ0 Rs.args
 have hqm:∀id bx,(id,bx)∈bs->∃ik,(id,ik)∈qs/\β0 id=bt ik.1 ik.2:=by
  intro id bx hm;have:id∈qs.map (·.1):=by rw[<-hb];exact List.mem_map.2 ⟨_,hm,rfl⟩
  obtain⟨q,hq,rfl⟩:=List.mem_map.1 this;exact⟨q.2,hq,hβ0 q hq⟩
 have hX:∀b,II (C4 bs) β0 b->BtX bt b:=by
  rintro b ⟨id,o,hl,hβ⟩
  cases hq:C4 bs id with
  |none=>rw[hq] at hl;exact hl.elim
  |some bx=>
   obtain⟨ik,_,h2⟩:=hqm id bx (Rj hq);rw[h2] at hβ;exact⟨_,_,_,hβ⟩
 have hA:∀b,Dv (C4 bs) β0 Y b->BtX bt b\/Y b:=fun b hb=>hb.imp (hX b) id;have Awy:∀{p:PV} {u:Value},Ex w (fun b=>BtX bt b\/Y b) β0 p u->Ex w (Dv (C4 bs) β0 Y) β0 p u:=fun h=>h.step (Cw.refl _ _) (fun b _=>hA b) (fun _ _=>rfl);refine⟨rfl,by simp;omega,fun i hi=>?_,fun i hi=>?_,?_,?_,?_,fun i hi id B4=>?_,?_,fun b hb=>.inl (hX b hb),?_,?_,?_,fun b hY hXb=>Rs.Yx b hY (hX b hXb),Rs.Ylt,⟨rfl,rfl,rfl,Cw.refl _ _,fun _ _ _ _=>⟨rfl,rfl⟩⟩⟩
 ·rcases hs i with⟨u,_,h,_⟩|⟨h,_⟩
  ·rw[Nat.sub_zero,List.getElem?_eq_none (by omega)] at h;cases h
  ·exact h
 ·rcases hs i with⟨u,_,h,hv⟩|⟨h,h'⟩
  ·rw[Nat.sub_zero] at h
   have Ck:i<us.length:=by
    rcases Ig i us.length with h'|h'
    ·exact h'
    ·rw[List.getElem?_eq_none h'] at h;cases h
   have:(us.toArray++Array.replicate (N-us.toArray.size) undef).getD i undef=u:=by
    rw[Array.getD_eq_getD_getElem?,Array.getElem?_append_left (by simpa using Ck)];simp[h]
   show Ex w _ _ _ ((us.toArray++Array.replicate (N-us.toArray.size) undef).getD i undef);rw[this];exact Awy hv
  ·show Ex w _ _ (lk tms i) _;rw[h];exact Av.top _
 ·intro id bx hq;exact (hbr id bx (Rj hq)).step' hA
 ·intro id id' b o o' hl Oo hβ hβ';cases hq:C4 bs id with
  |none=>change Dj (C4 bs id) at hl;rw[hq] at hl;exact hl.elim
  |some bx=>
   cases Hb:C4 bs id' with
   |none=>change Dj (C4 bs id') at Oo;rw[Hb] at Oo;exact Oo.elim
   |some bx'=>
    obtain⟨ik,h1,h2⟩:=hqm id bx (Rj hq);obtain⟨ik',h1',h2'⟩:=hqm id' bx' (Rj Hb);rw[h2] at hβ;rw[h2'] at hβ';obtain⟨h3,h4⟩:=Rs.inj _ _ _ _ b o o' hβ hβ';exact hqi _ h1 _ h1' (Prod.ext h3 h4)
 ·intro id b o hn hβ;cases hq:C4 bs id with
  |none=>exact absurd hq hn
  |some bx=>
   obtain⟨ik,h1,h2⟩:=hqm id bx (Rj hq);rw[h2] at hβ;exact Rs.lt b ⟨_,_,_,hβ⟩
 ·obtain⟨bx,hm⟩:=hr i id B4;show C4 bs id≠none;rw[Ada Ah2 hm];simp
 ·intro id cells hq c hc k hk;obtain⟨bx,hm⟩:=hri id cells (Rj hq) c hc k hk;show C4 bs k≠none;rw[Ada Ah2 hm];simp
 ·intro id bx b o hq hl hβ _ j hj;obtain⟨k,p,h1,h2⟩:=hL id bx b o (Rj hq) hβ j hj;rw[Ie] at h2;exact⟨k,p,h1,h2⟩
 ·rintro i ⟨p,h1,h2⟩
  have h3:=(BL i p h1 h2).1;rw[Ie] at h3;refine⟨?_,hβ0 _ h3⟩;have:D1 N i∈bs.map (·.1):=by rw[hb];exact List.mem_map.2 ⟨_,h3,rfl⟩
  obtain⟨⟨id,bx⟩,hm,e⟩:=List.mem_map.1 this;show C4 bs (D1 N i)≠none;rw[<-e,Ada Ah2 hm];simp
 ·intro id c b o hq _ _;obtain⟨k,p,h1,h2,h3⟩:=(Mz id _ (Rj hq)).2 c rfl;rw[Ie] at h3;exact⟨k,h3,p,h1,h2⟩
end
open Go.RowKit
def Pt(β:Bt)(l:List (Option Nat))(j:Nat):Option (Nat × Nat):=((l[j]?).bind id).bind β
section
variable {R:Type}{r:R}{P:Program}{N:Nat}{w0:World}{X0:F3}{Y:Nat->Prop}{β β':Bt}{s:St}{a:Act}{w w':World}{A:Nat->Prop}
def Atr(s:St)(l:List (Option Nat)):Prop:=∀id,some id∈l->Dj (s.hp id)
def Q3(s:St)(z:B9):Prop:=∀id∈z,∃f c,s.hp id=some (.ar f c)
theorem ZV(h : Cj N w0 X0 Y β s a w){shr : Bool}{t : CT}{p : PV}{K : PV -> B9 -> B9 -> Option R}(hk : Ami shr s.hp t p K = some r):
    ∃ c q z, K c (Option.toList q) z = some r /\ (∀ x, c ≠ .agg x /\ c ≠ .pbox x) /\ XG p /\ (∀ id, q = some id -> ∃ c, s.hp id = some (.ar false c)) /\ Q3 s z /\
      ∀ (fz : B9) A u, (∀ i ∈ z, i ∈ fz) -> Q3 s fz -> (∀ b, A b -> Dv (Ah s.hp fz) β Y b) -> Cm w (Dv s.hp β Y) β p u -> H8 w A (q.bind β) c u := by
  have notree : ∀ {c : PV}, FE c -> ∀ x, c ≠ .agg x /\ c ≠ .pbox x := fun hT x => ⟨IQ hT x, by rintro rfl; exact hT⟩
  unfold Ami at hk
  cases shr <;> simp only[cond_true, cond_false] at hk
  · have tree : ∀ t', (∀ es, t' ≠ .sl es) -> (MB t' p fun c => K c [] []) = some r -> ∃ c q z, K c (Option.toList q) z = some r /\ (∀ x, c ≠ .agg x /\ c ≠ .pbox x) /\ XG p /\ (∀ id, q = some id -> ∃ c, s.hp id = some (.ar false c)) /\ Q3 s z /\
        ∀ (fz : B9) A u, (∀ i ∈ z, i ∈ fz) -> Q3 s fz -> (∀ b, A b -> Dv (Ah s.hp fz) β Y b) -> Cm w (Dv s.hp β Y) β p u -> H8 w A (q.bind β) c u := by
      intro t' Gh hk
      obtain⟨c, Er, hT, RN, hv⟩ := Rb hk
      refine⟨c, none, [], Er, notree hT, Yl RN, by simp, (by intro i hi; cases hi), fun fz A u _ _ hA hc => Om hT ?_⟩
      exact (hv w _ β u hc).1.step (Cw.refl _ _) (fun b _ hb => S5 (hA b hb))
    unfold A1a at hk
    cases t with
    | sl es =>
      dsimp only at hk
      split at hk
      · rename_i id es' off n
        cases hb : (Nat.beq es' es && Nat.beq off 0) <;> rw[hb] at hk
        · cases hk
        · simp only[Fc] at hb
          have he := Dx hb.1
          have ho := Dx hb.2
          subst he ho
          simp only[cond_true] at hk
          split at hk
          · rename_i c h0
            obtain⟨hl, Er⟩ := Aq hk
            refine⟨_, some id, [], Er, by simp, trivial, fun i hi => by cases hi; exact⟨c, h0⟩, (by intro i hi; cases hi), fun fz A u _ _ hA hc => ?_⟩
            rcases hc with⟨h1, _, rfl, h4⟩ | ⟨b, o, x, cap, h1, h2, hx, h3, h4, h5⟩
            · exact .inl ⟨h1, rfl, by simp, h4⟩
            · have hx : x = o := by rcases hx with e | ⟨_, e⟩ <;> omega
              subst hx
              rcases h.box id _ h0 with⟨h6, _⟩ | ⟨b', o', h6, h7, h8, _⟩
              · rw[h1] at h6; cases h6
              · rw[h1] at h6
                cases h6
                refine .inr ⟨b, x, cap, h1, h2, h3, h4, h5, fun j q hq => ?_, fun j hj Tq => h8 rfl j hj Tq⟩
                rw[List.getElem?_take] at hq
                split at hq
                · obtain⟨v, hv, h9, ht⟩ := h7 j q hq
                  exact⟨v, hv, h9, ht.step (Cw.refl _ _) (fun b _ hb => S5 (hA b hb))⟩
                · cases hq
          · cases hk
      · obtain⟨z, n, c, Er, hp⟩ := G0 hk
        obtain⟨hz, Fz⟩ := Aq Er
        subst hz
        have hpF : XG p := by rcases hp with e | ⟨e, _⟩ <;> (rw[e]; trivial)
        refine⟨_, none, [], Fz, by simp, hpF, by simp, (by intro i hi; cases hi), fun fz A u _ _ _ hc => ?_⟩
        have hu : u = .slice none 0 0 := by
          rcases hp with rfl | ⟨rfl, _⟩
          · cases hc; rfl
          · exact Av.val hc
        exact .inl ⟨rfl, rfl, rfl, none, hu⟩
    | int k => exact tree _ (by simp) hk
    | bool => exact tree _ (by simp) hk
    | str => exact tree _ (by simp) hk
    | any => exact tree _ (by simp) hk
  · obtain⟨c, m, Er, hT, hF, hm, hv⟩ := UT h hk
    exact⟨c, none, m, Er, notree hT, hF, by simp, hm, fun fz A u h1 h2 hA hc => Om hT ((hv fz h1 h2 u hc).1.step (Cw.refl _ _) (fun b _ hb => hA b hb))⟩
structure PU(s:St)(β:Bt)(Y:Nat->Prop)(w:World)(cs:Ae)(l:List (Option Nat))(z:B9)(ps:Ae):Prop where
 len:l.length=cs.length
 pl:cs.length=ps.length
 na:∀c∈cs,∀x,c ≠ .agg x/\c ≠ .pbox x
 fr:∀p∈ps,XG p
 own:∀id,some id∈l->∃c,s.hp id=some (.ar false c)
 row:Q3 s z
 sem:∀(fz:B9) A us,(∀i∈z,i∈fz)->Q3 s fz->(∀b,A b->Dv (Ah s.hp fz) β Y b)->Bx (Cm w (Dv s.hp β Y) β) ps us->∀own j0,(∀j,j<l.length->own (j0+j)=Pt β l j)->F6 w A own j0 cs us
theorem PU.nil:PU s β Y w [] [] [] []:=⟨rfl,rfl,by simp,by simp,by simp,(by intro i hi;cases hi),fun fz A us _ _ _ hu own j0 _=>by
 cases us with
 |nil=>trivial
 |cons u us=>exact hu.elim⟩
theorem PU.cons{c p:PV}{q:Option Nat}{z zs:B9}{cs ps:Ae}{l:List (Option Nat)}(LM:∀x,c ≠ .agg x/\c ≠ .pbox x)(hF:XG p)(hq:∀id,q=some id->∃c,s.hp id=some (.ar false c))(hz:Q3 s z)(hv:∀(fz:B9) A u,(∀i∈z,i∈fz)->Q3 s fz->(∀b,A b->Dv (Ah s.hp fz) β Y b)->Cm w (Dv s.hp β Y) β p u->H8 w A (q.bind β) c u)(H:PU s β Y w cs l zs ps):PU s β Y w (c::cs) (q::l) (z++zs) (p::ps):=by
 refine⟨by simp[H.len],by simp[H.pl],?_,?_,?_,?_,fun fz A us hz1 Yq hA hu own j0 Hf=>?_⟩
 ·intro x hx;rcases Ch.1 hx with rfl|hx
  ·exact LM
  ·exact H.na x hx
 ·intro x hx;rcases Ch.1 hx with rfl|hx
  ·exact hF
  ·exact H.fr x hx
 ·intro id B4;rcases Ch.1 B4 with e|B4
  ·exact hq id e.symm
  ·exact H.own id B4
 ·intro i hi;rcases B5.1 hi with hi|hi
  ·exact hz i hi
  ·exact H.row i hi
 ·cases us with
  |nil=>exact hu.elim
  |cons u us=>
   have h0:=Hf 0 (by simp);rw[ZW] at h0;refine⟨?_,H.sem fz A us (fun i hi=>hz1 i (by simp[hi])) Yq hA hu.2 own (j0+1) fun j hj=>?_⟩
   ·rw[h0];exact hv fz A u (fun i hi=>hz1 i (by simp[hi])) Yq hA hu.1
   ·have:=Hf (j+1) (by simp;omega)
    rw[show j0+1+j=j0+(j+1) by omega,this];simp[Pt]
theorem Yy(h:Cj N w0 X0 Y β s a w){shr:Bool}:∀{ts:List CT}{ps:Ae}{K:Ae->B9->B9->Option R},LJ shr s.hp ts ps K=some r ->
  ∃cs l z,K cs (l.filterMap id) z=some r/\PU s β Y w cs l z ps
 |[],[],K,hk=>⟨[],[],[],hk,PU.nil⟩
 |[],_::_,K,hk=>by cases hk
 |_::_,[],K,hk=>by cases hk
 |t::ts,p::ps,K,hk=>by
  unfold LJ at hk;obtain⟨c,q,z,Er,LM,hF,hq,hz,hv⟩:=ZV h hk;obtain⟨cs,l,zs,Fz,H⟩:=Yy h Er;refine⟨c::cs,q::l,z++zs,?_,PU.cons LM hF hq hz hv H⟩;cases q<;>exact Fz
theorem OA(h:Cj N w0 X0 Y β s a w):∀{ts:List CT}{ws ps:Ae}{K:Ae->B9->B9->Option R},RA s.hp ts ws ps K=some r ->
  ∃cs l z,K cs (l.filterMap id) z=some r/\cs.length=ws.length/\PU s β Y w cs l z ps
 |[],[],[],K,hk=>⟨[],[],[],hk,rfl,PU.nil⟩
 |[],_::_,_,K,hk=>by cases hk
 |[],[],_::_,K,hk=>by cases hk
 |_::_,[],_,K,hk=>by cases hk
 |_::_,_::_,[],K,hk=>by cases hk
 |t::ts,x::ws,p::ps,K,hk=>by
  unfold RA at hk;obtain⟨c,q,z,Er,LM,hF,hq,hz,hv⟩:=ZV h hk;obtain⟨cs,l,zs,Fz,hl,H⟩:=OA h Er;refine⟨c::cs,q::l,z++zs,?_,by simp[hl],PU.cons LM hF hq hz hv H⟩;cases q<;>exact Fz
theorem Aia{own:Bt}{zz j:Nat}{p:PV}{u:Value}(hp:∀x,p ≠ .agg x/\p ≠ .pbox x)(h:F6 w A own j [p] [u]):Azn w A own zz j p u:=by cases p<;>first|exact h.1|exact absurd rfl (hp _).1|exact absurd rfl (hp _).2
theorem Akm(h:Cj N w0 X0 Y β s a w){id b o:Nat}{c cs:Ae}{l:List (Option Nat)}{z:B9}(h0:s.hp id=some (.st c))(hβ:β id=some (b,o))(H:PU s β Y w cs l z c){fz:B9}{A:Nat->Prop}(h1:∀i∈z,i∈fz)(h2:Q3 s fz)(hA:∀b,A b->Dv (Ah s.hp fz) β Y b){own:Bt}{j0:Nat}(Hf:∀j,j<l.length->own (j0+j)=Pt β l j):Atf w A own j0 b o cs:=by
 obtain⟨b',o',F4,Ko,DQ⟩:=h.box id _ h0;rw[hβ] at F4;cases F4;refine⟨c.mapIdx (fun j _=>(w.cell? ⟨b,o+j,none⟩).getD undef),H.sem fz A _ h1 h2 hA ?_ own j0 Hf,?_,fun k hk=>DQ k (by have:=H.pl;omega)⟩
 ·refine Bx.of_at (by simp) fun j p v hp hv=>?_;obtain⟨u,hu,hcr⟩:=Ko j p hp;rw[List.getElem?_mapIdx,hp,Option.map_some,hu] at hv;simp at hv;subst hv;exact hcr
 ·intro k v hkv;rw[List.getElem?_mapIdx] at hkv;cases hp:c[k]? with
  |none=>rw[hp] at hkv;cases hkv
  |some p=>
   obtain⟨u,hu,hcr⟩:=Ko k p hp;rw[hp,Option.map_some,hu] at hkv;simp at hkv;subst hkv;exact hu
theorem Anz(h:Cj N w0 X0 Y β s a w){shr:Bool}{t:TypeId}{p:PV}{u:Value}(hp:Ex w (Dv s.hp β Y) β p u){K:PV->B9->B9->Option R}(hk:Avn P shr s.hp t p K=some r):
  ∃v l z,K v (l.filterMap id) z=some r/\l.length=plc v/\Atr s l/\Q3 s z /\
   ∀(fz:B9) A zz,(∀i∈z,i∈fz)->Q3 s fz->(∀b,A b->Dv (Ah s.hp fz) β Y b)->(∀id c b o,some id∈l->s.hp id=some (.st c)->β id=some (b,o)->zz<=b) ->
    ∀own j0,(∀j,j<l.length->own (j0+j)=Pt β l j)->Azn w A own zz j0 v u:=by
 unfold Avn at hk;split at hk
 ·rename_i e he;split at hk
  ·rename_i id off;split at hk
   ·rename_i c h0;obtain⟨hof,Er⟩:=Aq hk;have hof:=Dx hof;subst hof;obtain⟨cs,l,z,Fz,H⟩:=Yy h Er;obtain⟨b,o,hβ,hu⟩:=hp;refine⟨.pbox cs,some id::l,z,Fz,by simp only[plc,Tm,H.len];omega,?_,H.row,fun fz A zz h1 h2 hA hz own j0 Hf=>?_⟩
    ·intro i hi;rcases Ch.1 hi with e|hi
     ·cases e;rw[h0];trivial
     ·obtain⟨c',X8⟩:=H.own i hi;rw[X8];trivial
    ·have h3:=Hf 0 (by simp);rw[ZW] at h3;refine⟨b,o,by rw[h3];exact hβ,hz id c b o (by simp) h0 hβ,by rw[hu,ZW],Akm h h0 hβ H h1 h2 hA fun j hj=>?_⟩
     have:=Hf (j+1) (by simp;omega)
     rw[show j0+1+j=j0+(j+1) by omega,this];simp[Pt]
   ·cases hk
  ·cases hk
 ·cases Hs:C5 P t<;>rw[Hs] at hk<;>simp only[cond_true,cond_false] at hk
  ·obtain⟨cs,l,z,Er,H⟩:=Yy h hk;obtain⟨c,cs',Z5,Fz⟩:=Bo Er;subst Z5;obtain⟨GD,Ox⟩:=Em Fz;subst GD;have LM:=H.na c (by simp);have DZ:plc c=1:=by cases c<;>first|rfl|exact absurd rfl (LM _).1|exact absurd rfl (LM _).2
   have hF:=H.fr p (by simp);refine⟨c,l,z,Ox,by rw[DZ];exact H.len,fun i hi=>?_,H.row,fun fz A zz h1 h2 hA _ own j0 Hf=>Aia LM (H.sem fz A [u] h1 h2 hA ⟨?_,trivial⟩ own j0 Hf)⟩
   ·obtain⟨c',X8⟩:=H.own i hi;rw[X8];trivial
   ·cases p<;>first|exact hp|exact hF.elim
  ·obtain⟨ps,MS,Er⟩:=Jj hk;subst MS;obtain⟨cs,l,z,Fz,H⟩:=Yy h Er;obtain⟨vs,hu,Ma⟩:=hp;refine⟨.agg cs,l,z,Fz,H.len,fun i hi=>?_,H.row,fun fz A zz h1 h2 hA _ own j0 Hf=>⟨vs,hu,H.sem fz A vs h1 h2 hA Ma own j0 Hf⟩⟩;obtain⟨c',X8⟩:=H.own i hi;rw[X8];trivial
def Acj(P:Program)(tmps:Array Value)(w:World)(rv:ResultVar)(u:Value):Prop:=
  (match rv with
   |.tmp t=>(pure (tmps.getD t undef):Sem Value)
   |.cell a t=>do loadVar t (<-asAddr (tmps.getD a undef))).run P w=.ok u w
theorem Atw(h:Cj N w0 X0 Y β s a w)(t:Nat):Ex w (Dv s.hp β Y) β (s.tm t) (a.tmps.getD t undef):=by
 rcases Ig t N with h'|h'
 ·exact h.tms t h'
 ·rw[h.tmo t h'];exact Av.top _
theorem Aoz(h:Cj N w0 X0 Y β s a w){rv:ResultVar}{K:PV->Option R}(hk:Att P s rv K=some r):∃p u,K p=some r/\Acj P a.tmps w rv u/\Ex w (Dv s.hp β Y) β p u:=by
 unfold Att at hk;split at hk
 ·rename_i t;exact⟨_,_,hk,rfl,Atw h t⟩
 ·rename_i x t;obtain⟨v,ad,val,Er,Ee,hl,hv,_⟩:=Aej h (Atw h x) hk;refine⟨v,val,Er,?_,hv⟩;unfold Acj;simp[Ee,asAddr,hl]
theorem GT{l l':List (Option Nat)}{j:Nat}(h:j<l.length):Pt β (l++l') j=Pt β l j:=by unfold Pt;rw[List.getElem?_append_left h]
theorem GA{l l':List (Option Nat)}{j:Nat}:Pt β (l++l') (l.length+j)=Pt β l' j:=by unfold Pt;rw[List.getElem?_append_right (by omega),Nat.add_sub_cancel_left]
theorem TN(h:Cj N w0 X0 Y β s a w){shr:Bool}:∀{rs:List ResultVar}{ts:List TypeId}{K:Ae->B9->B9->Option R},Abp P shr s rs ts K=some r ->
  ∃vs l z us,K vs (l.filterMap id) z=some r/\Bx (Acj P a.tmps w) rs us/\l.length=N6 vs/\Atr s l/\Q3 s z /\
   ∀(fz:B9) A zz,(∀i∈z,i∈fz)->Q3 s fz->(∀b,A b->Dv (Ah s.hp fz) β Y b)->(∀id c b o,some id∈l->s.hp id=some (.st c)->β id=some (b,o)->zz<=b) ->
    ∀own j0,(∀j,j<l.length->own (j0+j)=Pt β l j)->Aah w A own zz j0 vs us
 |[],[],K,hk=>⟨[],[],[],[],hk,trivial,rfl,(by intro id B4;cases B4),(by intro id B4;cases B4),fun _ _ _ _ _ _ _ _ _ _=>trivial⟩
 |[],_::_,K,hk=>by cases hk
 |_::_,[],K,hk=>by cases hk
 |rv::rs,t::ts,K,hk=>by
  unfold Abp at hk;obtain⟨p,u,Er,hu,hp⟩:=Aoz h hk;obtain⟨v,l,z,Fz,hl,hL,hz,hv⟩:=Anz h hp Er;obtain⟨vs,l',z',us,Ox,hus,Oo,hL',hz',Ma⟩:=TN h Fz;refine⟨v::vs,l++l',z++z',u::us,?_,⟨hu,hus⟩,by simp only[Wy,N6,X4,List.sum_cons,hl];rw[Oo];rfl,?_,?_,fun fz A zz h1 h2 hA Fn own j0 Hf=>⟨?_,?_⟩⟩
  ·rw[List.filterMap_append];exact Ox
  ·intro id B4;rcases B5.1 B4 with B4|B4
   ·exact hL id B4
   ·exact hL' id B4
  ·intro id B4;rcases B5.1 B4 with B4|B4
   ·exact hz id B4
   ·exact hz' id B4
  ·exact hv fz A zz (fun i hi=>h1 i (by simp[hi])) h2 hA (fun id c b o hi=>Fn id c b o (by simp[hi])) own j0 fun j hj=>by rw[Hf j (by simp;omega),GT hj]
  ·refine Ma fz A zz (fun i hi=>h1 i (by simp[hi])) h2 hA (fun id c b o hi=>Fn id c b o (by simp[hi])) own (j0+plc v) fun j hj=>?_;rw[<-hl,Jc,Hf (l.length+j) (by simp;omega),GA]
theorem Xu(h:Cj N w0 X0 Y β s a w){bt:FK}(hpt:∀i,X0.pt i=bt i 0):∀{ts:List TypeId}{i:Nat}{ps:Ae}{K:List Ae->B9->B9->B9->Option R},LN P N s.hp i ts ps K=some r ->
  (∀k p,ps[k]?=some p->IE p=true->X0.pn (i+k)) ->
  ∃os l z q,K os (l.filterMap id) z q=some r/\(∀id,some id∈l->∃c,s.hp id=some (.ar false c))/\Q3 s z/\(∀id∈q,Dj (s.hp id))/\(∀k p,ps[k]?=some p->IE p=true->D1 N (i+k)∈q) /\
   ∀(fz:B9) A,(∀i∈z,i∈fz)->Q3 s fz->(∀i∈q,i ∉ fz)->(∀b,A b->Dv (Ah s.hp fz) β Y b) ->
    ∀own j0,(∀j,j<l.length->own (j0+j)=Pt β l j)->Kv w A own bt j0 i ps os
 |[],i,ps,K,hk,_=>by
  obtain⟨MS,hk⟩:=Em hk;subst MS;exact⟨[],[],[],[],hk,by simp,(by intro id B4;cases B4),by simp,by simp,fun _ _ _ _ _ _ _ _ _=>rfl⟩
 |t::ts,i,ps,K,hk,hpn=>by
  unfold LN at hk;obtain⟨p,ps',MS,Er⟩:=Bo hk;subst MS
  have A3r:∀k p,ps'[k]?=some p->IE p=true->X0.pn (i+1+k):=fun k p' h1 h2=>by
   have:=hpn (k+1) p' (by simpa using h1) h2;rw[show i+1+k=i+(k+1) by omega];exact this
  have hpq:∀{q:B9},(IE p=true->D1 N i∈q)->(∀k p,ps'[k]?=some p->IE p=true->D1 N (i+1+k)∈q)->∀k p',(p::ps')[k]?=some p'->IE p'=true->D1 N (i+k)∈q:=by
   intro q h1 h2 k p' h3 h4;cases k with
   |zero=>
    simp only[List.getElem?_cons_zero,Option.some.injEq] at h3;subst h3;exact h1 h4
   |succ k=>
    have:=h2 k p' (by simpa using h3) h4;rw[show i+1+k=i+(k+1) by omega] at this;exact this
  split at Er
  ·rename_i ws;obtain⟨e,he,Fz⟩:=Dd Er;split at Fz
   ·rename_i c h0;obtain⟨cs,l,z,Ox,M9,H⟩:=OA h Fz;obtain⟨os,l',z',q,Ug,hL',hz',Hb,hpi,hv⟩:=Xu h hpt Ox A3r;refine⟨cs::os,l++l',z++z',D1 N i::q,by rw[List.filterMap_append];exact Ug,?_,?_,?_,hpq (fun _=>FR) (fun k p h1 h2=>Tz _ (hpi k p h1 h2)),fun fz A h1 h2 h3 hA own j0 Hf=>?_⟩
    ·intro id B4;rcases B5.1 B4 with B4|B4
     ·exact H.own id B4
     ·exact hL' id B4
    ·intro id B4;rcases B5.1 B4 with B4|B4
     ·exact H.row id B4
     ·exact hz' id B4
    ·intro id B4;rcases Ch.1 B4 with rfl|B4
     ·rw[h0];trivial
     ·exact Hb id B4
    ·have BL:=(h.pin i (by have:=hpn 0 _ rfl rfl;rwa [ZW] at this)).2
     obtain⟨b,o,F4,_,_⟩:=h.box _ _ h0;rw[F4,hpt] at BL;refine⟨⟨b,o,BL.symm,M9,Akm h h0 F4 H (fun i hi=>h1 i (by simp[hi])) h2 hA fun j hj=>by rw[Hf j (by simp;omega),GT hj]⟩,?_⟩
     refine hv fz A (fun i hi=>h1 i (by simp[hi])) h2 (fun i hi=>h3 i (by simp[hi])) hA own (j0+cs.length) fun j hj=>?_;rw[<-H.len,Jc,Hf (l.length+j) (by simp;omega),GA]
   ·cases Fz
  ·split at Er
   ·rename_i c h0;obtain⟨os,l',z',q,Ug,hL',hz',Hb,hpi,hv⟩:=Xu h hpt Er A3r;refine⟨c::os,l',z',D1 N i::q,Ug,hL',hz',?_,hpq (fun _=>FR) (fun k p h1 h2=>Tz _ (hpi k p h1 h2)),fun fz A h1 h2 h3 hA own j0 Hf=>⟨?_,hv fz A h1 h2 (fun i hi=>h3 i (by simp[hi])) hA own j0 Hf⟩⟩
    ·intro id B4;rcases Ch.1 B4 with rfl|B4
     ·rw[h0];trivial
     ·exact Hb id B4
    ·have BL:=(h.pin i (by have:=hpn 0 _ rfl rfl;rwa [ZW] at this)).2
     rw[hpt] at BL;rcases h.box _ _ h0 with⟨h4,h5⟩|⟨b,o,h4,h5,h6,_⟩
     ·exact .inl ⟨by rw[<-BL];exact h4,h5⟩
     ·exact .inr ⟨b,o,by rw[<-BL];exact h4,h5.weak (fun b _ hb=>S5 (hA b hb)),h6 rfl⟩
   ·cases Er
  ·rename_i hn1 hn2;have hnL:IE p=false:=by cases p<;>first|rfl|exact absurd rfl (hn1 _)|exact absurd rfl (hn2 _)
   obtain⟨os,l',z',q,Ug,hL',hz',Hb,hpi,hv⟩:=Xu h hpt Er A3r;refine⟨os,l',z',q,Ug,hL',hz',Hb,hpq (fun e=>by rw[hnL] at e;cases e) hpi,fun fz A h1 h2 h3 hA own j0 Hf=>?_⟩
   have:=hv fz A h1 h2 h3 hA own j0 Hf;cases p<;>first|exact this|cases hnL
theorem Aep{f:ResultVar->Sem Value}:∀{rs:List ResultVar}{us:List Value},Bx (fun rv u=>(f rv).run P w=.ok u w) rs us->(rs.mapM f).run P w=.ok us w
 |[],[],_=>by simp
 |[],_::_,h=>h.elim
 |_::_,[],h=>h.elim
 |rv::rs,u::us,h=>by
  rw[List.mapM_cons];simp[h.1,Aep h.2]
theorem Afa{fn:Func}{us:List Value}(h:Bx (Acj P a.tmps w) fn.results.toList us):(results fn a.tmps).run P w=.ok (G8 us) w:=by
 unfold results;rw[Array.mapM_eq_mapM_toList];simp only[map_eq_pure_bind,bind_assoc,pure_bind,Sem.run_bind];refine Eq.trans (congrArg (fun x=>Result.andThen x _) (Aep h)) ?_;simp only[Result.andThen_ok,Sem.run_pure]
 congr 1
 clear h
 match us with
 |[]=>rfl
 |[u]=>rfl
 |u::v::us=>exact dif_neg (by simp)
theorem Af2:∀{l:List (Option Nat)},Fa (l.filterMap id)=true->∀{j j' i:Nat},l[j]?=some (some i)->l[j']?=some (some i)->j=j'
 |[],_,j,j',i,h,_=>by simp at h
 |q::l,hn,j,j',i,h,h'=>by
  have hn':Fa (l.filterMap id)=true:=by
   cases q with
   |none=>exact hn
   |some x=>
    simp only[List.filterMap_cons,id_eq,Fa,Fc] at hn;exact hn.2
  have hq:∀(x k:Nat),q=some x->l[k]?≠some (some x):=by
   intro x k e hk;subst e;simp only[List.filterMap_cons,id_eq,Fa,Fc,Bool.not_eq_true'] at hn;exact Yd hn.1 (List.mem_filterMap.2 ⟨some x,List.mem_of_getElem? hk,rfl⟩)
  cases j with
  |zero=>
   cases j' with
   |zero=>rfl
   |succ k'=>
    simp at h h';exact absurd h' (hq i k' h)
  |succ k=>
   cases j' with
   |zero=>
    simp at h h';exact absurd h (hq i k h')
   |succ k'=>
    simp at h h';rw[Af2 hn' h h']
theorem LT{C:Ih}{f:FuncId}{fn:Func}{args:Ae}{res:Bv}{w:World}{Y:Nat->Prop}{bt:FK}{us:List Value}(Rs:Ins w Y bt args us){h8:∀k p,args[k]?=some p->IE p=true->k<8}{s':St}{a':Act}{w':World}{β':Bt}(hr:Ahq C P f fn args s'=some res)(h:Cj fn.ntmps w (TV bt args h8) Y β' s' a' w'):
  a'.defers=[]/\∃v,(results fn a'.tmps).run P w'=.ok v w'/\∃vs own,Ending.returned v=.returned (G8 vs)/\Out w w' Y bt args own res vs:=by
 unfold Ahq at hr;obtain⟨vs,l,z,us',VU,hus,hll,hL,hz,hv⟩:=TN h hr;obtain⟨os,l',z',q,hr2,hL',hz',hq,hpi,Uk⟩:=Xu h (bt:=bt) (fun _=>rfl) VU (fun k p h1 h2=>by rw[Ie];exact⟨p,h1,h2⟩)
 obtain⟨WA,hr3⟩:=Aq hr2;cases hr3;simp only[Fc] at WA;obtain⟨WA,A3q⟩:=WA;obtain⟨hn1,hn2,hn3⟩:=Lg WA
 have Y5:∀i∈z++z',i ∉ (l.filterMap id++l'.filterMap id)++q:=by
  intro i hi N0;have:=List.all_eq_true.1 A3q i hi;have h2:((l.filterMap id++l'.filterMap id)++q).any (Nat.beq i)=true:=List.any_eq_true.2 ⟨i,N0,Og i⟩;rw[h2] at this;cases this
 have App:Q3 s' (z++z'):=by
  intro i hi;rcases B5.1 hi with hi|hi
  ·exact hz i hi
  ·exact hz' i hi
 refine⟨h.dfr,G8 us',Afa hus,us',Pt β' (l++l'),rfl,?_⟩;have Bli:Fa ((l++l').filterMap id)=true:=by rw[List.filterMap_append];exact hn1
 have Hf:∀j b o,Pt β' (l++l') j=some (b,o)->∃id,(l++l')[j]?=some (some id)/\β' id=some (b,o):=by
  intro j b o hj;unfold Pt at hj;cases hlj:(l++l')[j]? with
  |none=>rw[hlj] at hj;cases hj
  |some q=>
   cases q with
   |none=>rw[hlj] at hj;cases hj
   |some id=>
    rw[hlj] at hj;exact⟨id,rfl,hj⟩
 have N4:∀(j i:Nat),(l++l')[j]?=some (some i)->i∈l.filterMap id++l'.filterMap id:=by
  intro j i hj;rw[<-List.filterMap_append];exact List.mem_filterMap.2 ⟨some i,List.mem_of_getElem? hj,rfl⟩
 have Il:∀(j i:Nat),(l++l')[j]?=some (some i)->Dj (s'.hp i):=by
  intro j i hj;rcases B5.1 (List.mem_of_getElem? hj) with N0|N0
  ·exact hL i N0
  ·obtain⟨c,hc⟩:=hL' i N0;rw[hc];trivial
 have A0y:∀i,i∈(l.filterMap id++l'.filterMap id)++q->Ah s'.hp (z++z') i=s'.hp i:=by
  intro i hi;rw[Cu,B3 (fun N0=>Y5 i N0 hi)]
 have A09:∀i b o,bt i 0=some (b,o)->D1 fn.ntmps i∈q/\Dj (s'.hp (D1 fn.ntmps i))/\β' (D1 fn.ntmps i)=some (b,o):=by
  intro i b o QQ;obtain⟨p,h1,h2⟩:=Rs.l0 i _ QQ;have h3:=hpi i p h1 h2;rw[Ie] at h3;exact⟨h3,hq _ h3,(h.pin i ⟨p,h1,h2⟩).2.trans QQ⟩
 have hAO:∀b,Yr bt (Pt β' (l++l')) Y b->Dv (Ah s'.hp (z++z')) β' Y b:=by
  rintro b (⟨j,o,hj⟩|⟨i,o,QQ⟩|hY)
  ·obtain⟨id,h1,h2⟩:=Hf j b o hj;refine .inl ⟨id,o,?_,h2⟩;rw[A0y id (B5.2 (.inl (N4 j id h1)))];exact Il j id h1
  ·obtain⟨h1,h2,h3⟩:=A09 i b o QQ;refine .inl ⟨_,o,?_,h3⟩;rw[A0y _ (B5.2 (.inr h1))];exact h2
  ·exact .inr hY
 have FG:∀(j id b o:Nat),(l++l')[j]?=some (some id)->β' id=some (b,o)->b<w.heap.size->∃i k o',bt i (k+1)=some (b,o'):=by
  intro j id b o hj hβ Ck;rcases h.ownd b ⟨id,o,Il j id hj,hβ⟩ with⟨i,k,o',QQ⟩|hge
  ·cases k with
   |zero=>
    obtain⟨h1,h2,h3⟩:=A09 i b o' QQ;have:=h.inj id _ b o o' (Il j id hj) h2 hβ h3;subst this;exact absurd h1 (hn3 _ (N4 j _ hj))
   |succ k=>exact⟨i,k,o',QQ⟩
  ·omega
 refine⟨h.fr.os,h.fr.tape,h.fr.output,h.fr.step,h.fr.rng,?_,?_,?_,?_⟩
 ·refine hv (z++z') _ _ (fun i hi=>B5.2 (.inl hi)) App hAO (fun id c b o hi hc hβ=>?_) _ 0 (fun j hj=>by rw[Ie,GT hj]);rcases Ig b w.heap.size with Ck|hge
  ·obtain⟨k,H4,p,h1,h2⟩:=h.stp id c b o hc hβ Ck;have h3:=hpi k p h1 h2;rw[Ie,<-H4] at h3;obtain⟨j,hj⟩:=List.mem_iff_getElem?.1 hi;refine absurd h3 (hn3 id ?_);exact B5.2 (.inl (List.mem_filterMap.2 ⟨some id,hi,rfl⟩))
  ·exact hge
 ·refine Uk (z++z') _ (fun i hi=>B5.2 (.inr hi)) App (fun i hi N0=>Y5 i N0 (B5.2 (.inr hi))) hAO _ _ (fun j hj=>?_);rw[<-hll,GA]
 ·intro j b o hj;obtain⟨id,h1,h2⟩:=Hf j b o hj;refine⟨h.blt id b o (Dw (Il j id h1)) h2,fun Ck=>⟨FG j id b o h1 h2 Ck,fun x hx=>?_⟩⟩;cases Mz:s'.hp id with
  |none=>have:=Il j id h1;rw[Mz] at this;exact this.elim
  |some bx=>
   have VP:=Il j id h1;rw[Mz] at VP;cases bx with
   |st c=>
    obtain⟨k,H4,p,h3,h4⟩:=h.stp id c b o Mz h2 Ck;have h5:=hpi k p h3 h4;rw[Ie,<-H4] at h5;exact absurd h5 (hn3 _ (N4 j _ h1))
   |ar fz c=>exact h.rngB id _ b o Mz VP h2 Ck x hx
   |mv=>exact VP.elim
 ·intro j j' b o o' hj Tq;obtain⟨id,h1,h2⟩:=Hf j b o hj;obtain⟨id',h1',h2'⟩:=Hf j' b o' Tq;have:=h.inj id id' b o o' (Il j id h1) (Il j' id' h1') h2 h2';subst this;exact Af2 Bli h1 h1'
theorem Aiu{G:Vg}(I7:NoNG P)(hm:P.follows .mixedOrders=true){C:Ih}{fu:Nat}{call:Ap}(Dc:∀f args res,call f args=some res->C9 G P f args res){f:FuncId}{fn:Func}{c:Code}(hf:P.funcs[f]?=some fn)(hb:fn.body=some c){args:Ae}{res:Bv}(hk:A3z C P fu call f fn c args=some res):C9 G P f args res:=by
 refine⟨⟨fn,hf,by rw[hb];rfl⟩,fun w Y bt us Rs hG hGY=>?_⟩
 unfold A3z at hk;obtain⟨tms,bs,Er,Fn⟩:=XI Rs hk;obtain⟨F4,Fz⟩:=Aq Er;simp only[Fc] at F4
 have Ek:us.length<=fn.ntmps:=by
  rw[<-Rs.args.len];exact R5 F4.1
 obtain⟨h8,β0,hs⟩:=Fn F4.2 Ek;refine calls_of_wp hf hb ?_;have hE:NT P G w (TV bt args h8):=⟨I7,fun w' XF=>G.stable w w' (fun b hb Ck=>XF.step.keep b Ck (hGY b hb).2) hG,hGY⟩
 refine GC hE Dc hm c hs Fz (fun s' a' w' β' hr h=>LT Rs hr h) (fun id s' a' w' β' hr h=>by cases hr) (fun s' a' w' β' hr h=>LT Rs hr h)
def SP(G:Vg)(P:Program)(C:Ih):Prop:=∀f g args res,C.ext f=some g->g args=some res->C9 G P f args res
theorem Jf{G:Vg}(I7:NoNG P)(hm:P.follows .mixedOrders=true){C:Ih}(hx:SP G P C){fu:Nat}:∀(d:Nat)(f:FuncId)(args:Ae)(res:Bv),Ac C P fu d f args=some res->C9 G P f args res
 |0,_,_,_,h=>by cases h
 |d+1,f,args,res,h=>by
  unfold Ac at h;split at h
  ·rename_i g hg;exact hx f g args res hg h
  ·split at h
   ·cases h
   ·rename_i fn hf;split at h
    ·cases h
    ·rename_i c hb;exact Aiu I7 hm (Jf I7 hm hx d) hf hb h
end
open Go.ChangeShapes Go.WideShapes Go.ChangeAt Go.RowKit Go.Deep
def Abd(P:Program):List Field->Nat->Nat->Bool
 |[],i,n=>Nat.beq i n
 |f::r,i,n=>Nat.beq f.offset i&&Abd P r (i+P.cellsOf f.type) n
def Ro(P:Program):Nat->TypeId->Bool
 |0,_=>false
 |d+1,t=>
  match P.underlying t with
  |some .bool=>true
  |some (.int _)=>true
  |some .string=>true
  |some (.slice e)=>Ro P d e&&Nat.blt 0 (P.cellsOf e)
  |some (.struct fs)=>Abd P fs.toList 0 (P.cellsOf t)&&fs.toList.all fun f=>Ro P d f.type
  |some (.array n e)=>Nat.beq (P.cellsOf t) (n*P.cellsOf e)&&Ro P d e
  |_=>false
def WT(P:Program):Nat->TypeId->Ae->Prop
 |0,_,_=>False
 |d+1,t,ps=>
  match P.underlying t with
  |some .bool=>∃b,ps=[.sc (.bool b)]
  |some (.int k)=>∃n,ps=[.sc (.int k n)]/\(Lit.int k n).wf=true
  |some .string=>∃s:ByteArray,ps=[.sc (.string s)]/\s.size<=maxLen
  |some (.slice e)=>∃rows:List Ae,ps=[.lst false (P.cellsOf e) rows.length rows.flatten]/\rows.length<=maxLen/\∀r∈rows,r.length=P.cellsOf e/\WT P d e r
  |some (.struct fs)=>∃rows:List Ae,ps=rows.flatten/\Bx (fun f r=>WT P d f.type r) fs.toList rows
  |some (.array n e)=>∃rows:List Ae,ps=rows.flatten/\rows.length=n/\∀r∈rows,r.length=P.cellsOf e/\WT P d e r
  |_=>False
def WTv(P:Program)(t:TypeId)(p:PV):Prop:=
 match C5 P t with
 |true=>∃ps,p=.agg ps/\WT P 12 t ps
 |false=>WT P 12 t [p]
section
variable {P:Program}{d:Nat}{t e:TypeId}{ps:Ae}
theorem Aw1(hu:P.underlying t=some .bool):WT P (d+1) t ps↔∃b,ps=[.sc (.bool b)]:=by show (match P.underlying t with|some .bool=>_|some (.int k)=>_|some .string=>_|some (.slice e)=>_|some (.struct fs)=>_|some (.array n e)=>_|_=>_)↔_;rw[hu]
theorem Arv{k:IntKind}(hu:P.underlying t=some (.int k)):WT P (d+1) t ps↔∃n,ps=[.sc (.int k n)]/\(Lit.int k n).wf=true:=by show (match P.underlying t with|some .bool=>_|some (.int k)=>_|some .string=>_|some (.slice e)=>_|some (.struct fs)=>_|some (.array n e)=>_|_=>_)↔_;rw[hu]
theorem Am3(hu:P.underlying t=some .string):WT P (d+1) t ps↔∃s:ByteArray,ps=[.sc (.string s)]/\s.size<=maxLen:=by show (match P.underlying t with|some .bool=>_|some (.int k)=>_|some .string=>_|some (.slice e)=>_|some (.struct fs)=>_|some (.array n e)=>_|_=>_)↔_;rw[hu]
theorem Aeo(hu:P.underlying t=some (.slice e)):WT P (d+1) t ps↔∃rows:List Ae,ps=[.lst false (P.cellsOf e) rows.length rows.flatten]/\rows.length<=maxLen/\∀r∈rows,r.length=P.cellsOf e/\WT P d e r:=by show (match P.underlying t with|some .bool=>_|some (.int k)=>_|some .string=>_|some (.slice e)=>_|some (.struct fs)=>_|some (.array n e)=>_|_=>_)↔_;rw[hu]
theorem Aoy{fs:Array Field}(hu:P.underlying t=some (.struct fs)):WT P (d+1) t ps↔∃rows:List Ae,ps=rows.flatten/\Bx (fun f r=>WT P d f.type r) fs.toList rows:=by show (match P.underlying t with|some .bool=>_|some (.int k)=>_|some .string=>_|some (.slice e)=>_|some (.struct fs)=>_|some (.array n e)=>_|_=>_)↔_;rw[hu]
theorem Avg{n:Nat}(hu:P.underlying t=some (.array n e)):WT P (d+1) t ps↔∃rows:List Ae,ps=rows.flatten/\rows.length=n/\∀r∈rows,r.length=P.cellsOf e/\WT P d e r:=by show (match P.underlying t with|some .bool=>_|some (.int k)=>_|some .string=>_|some (.slice e)=>_|some (.struct fs)=>_|some (.array n e)=>_|_=>_)↔_;rw[hu]
end
inductive Ki where
 |bool
 |int (k:IntKind)
 |str
 |sl (e:TypeId)
 |st (ts:List TypeId)
 |ar (n:Nat) (e:TypeId)
 |no
def Xm(P:Program)(t:TypeId):Ki:=
 match P.underlying t with
 |some .bool=>.bool
 |some (.int k)=>.int k
 |some .string=>.str
 |some (.slice e)=>.sl e
 |some (.struct fs)=>.st (fs.toList.map (·.type))
 |some (.array n e)=>.ar n e
 |_=>.no
section
variable {P:Program}{d:Nat}{t e:TypeId}{ps:Ae}{p:PV}
theorem Bx.cons_inv{α β:Type}{R:α->β->Prop}{a:α}{zs:List α}:∀{rs:List β},Bx R (a::zs) rs->∃r rs',rs=r::rs'/\R a r/\Bx R zs rs'
 |[],h=>h.elim
 |r::rs,h=>⟨r,rs,rfl,h.1,h.2⟩
theorem Bx.nil_inv{α β:Type}{R:α->β->Prop}:∀{rs:List β},Bx R ([]:List α) rs->rs=[]
 |[],_=>rfl
 |_::_,h=>h.elim
theorem Ask{k:IntKind}(hk:Xm P t=.int k)(h:WT P d t ps):∃n,ps=[.sc (.int k n)]/\(Lit.int k n).wf=true:=by
 cases d with
 |zero=>exact h.elim
 |succ d=>
 unfold Xm at hk;split at hk<;>first|cases hk|skip
 rename_i hu;exact (Arv hu).1 h
theorem Bae(hk:Xm P t=.sl e)(h:WT P d t ps):∃rows:List Ae,ps=[.lst false (P.cellsOf e) rows.length rows.flatten]/\rows.length<=maxLen/\∀r∈rows,r.length=P.cellsOf e/\WT P (d-1) e r:=by
 cases d with
 |zero=>exact h.elim
 |succ d=>
 rw[Nat.add_sub_cancel];unfold Xm at hk;split at hk<;>first|cases hk|skip
 rename_i hu;exact (Aeo hu).1 h
theorem Aks(hk:C5 P t=false)(h:WTv P t p):WT P 12 t [p]:=by unfold WTv at h;rw[hk] at h;exact h
theorem Aav{k:IntKind}(ha:C5 P t=false)(hk:Xm P t=.int k)(h:WTv P t p):∃n,p=.sc (.int k n)/\(Lit.int k n).wf=true:=by obtain⟨b,e,h⟩:=Ask hk (Aks ha h);exact⟨b,by injection e,h⟩
theorem OS{α:Type}(f:α->Ae)(Q:α->Prop):∀{rows:List Ae},(∀r∈rows,∃x,r=f x/\Q x)->∃xs:List α,rows.flatten=xs.flatMap f/\rows.length=xs.length/\∀x∈xs,Q x
 |[],_=>⟨[],rfl,rfl,by simp⟩
 |r::rows,h=>by
  obtain⟨x,h1,h2⟩:=h r (by simp);obtain⟨xs,h3,h4,h5⟩:=OS (rows:=rows) f Q fun r hr=>h r (by simp[hr]);refine⟨x::xs,by simp[h1,h3],by simp[h4],fun y hy=>?_⟩;rcases Ch.1 hy with rfl|hy
  ·exact h2
  ·exact h5 y hy
end
abbrev No:Nat->Prop:=fun _=>False
section
variable {H:Type}{enc:TypeId × Value->H}{P:Program}{w:World}{base:Nat}{held:Bool}
theorem Bx.flat{α β:Type}{R:α->β->Prop}:∀{l:B9}{f:Nat->List α}{g:Nat->List β},(∀i∈l,Bx R (f i) (g i))->Bx R (l.map f).flatten (l.map g).flatten
 |[],_,_,_=>trivial
 |i::l,f,g,h=>by
  simp only[X4,List.flatten_cons];exact (h i (by simp)).app (Bx.flat fun j hj=>h j (by simp[hj]))
theorem Apl{a:Addr}{v:Value}(h:w.cell? a=some v):a.spot=none/\a.block<w.heap.size:=by
 unfold World.cell? at h;split at h
 ·rename_i c t f e;refine⟨?_,?_⟩
  ·cases hs:a.spot with
   |none=>rfl
   |some x=>rw[hs] at h;simp at h
  ·rcases Ig a.block w.heap.size with h1|h1
   ·exact h1
   ·rw[Array.getElem?_eq_none h1] at e;cases e
 ·cases h
theorem UI{α:Type}{g:Nat->List α}{es:Nat}:∀{n:Nat},(∀i,i<n->(g i).length=es)->((List.range n).map g).flatten.length=n*es
 |0,_=>by simp
 |n+1,h=>by
  rw[List.range_succ,List.map_append,List.flatten_append,Wy,UI (fun i hi=>h i (by omega))];simp[h n (by omega),Nat.succ_mul]
theorem VK{a:Addr}{g:Nat->List Value}{es:Nat}:∀{n:Nat},(∀i,i<n->(g i).length=es)->(∀i,i<n->∀k,k<es->w.cell? (a.add (i*es+k))=(g i)[k]?) ->
  ∀j,j<n*es->w.cell? (a.add j)=(((List.range n).map g).flatten)[j]?
 |0,_,_,j,hj=>by omega
 |n+1,hl,hc,j,hj=>by
  have MJ:=UI (fun i (hi:i<n)=>hl i (by omega));rw[List.range_succ,List.map_append,List.flatten_append,List.getElem?_append,MJ];rw[Nat.succ_mul] at hj;split
  ·rename_i h1;exact VK (fun i hi=>hl i (by omega)) (fun i hi=>hc i (by omega)) j h1
  ·rename_i h1;have:=hc n (by omega) (j-n*es) (by omega);rw[show n*es+(j-n*es)=j by omega] at this
   simpa using this
abbrev TR(w:World)(c:PV)(v:Value):Prop:=(FE c/\Av w No c v)/\v.oneCell'=true
theorem NO{d:Nat}{cs:List Value}{n:Nat}(hn:cs.length=n):∀(l:List Field)(i:Nat),Abd P l i n=true ->
  (∀f∈l,∃ps,WT P d f.type ps/\Bx (TR w) ps ((cs.drop f.offset).take (P.cellsOf f.type)))->∃rows:List Ae,Bx (fun f r=>WT P d f.type r) l rows/\Bx (TR w) rows.flatten (cs.drop i)
 |[],i,ho,_=>by
  have:=Dx ho;refine⟨[],trivial,?_⟩;rw[List.drop_of_length_le (by omega)];trivial
 |f::l,i,ho,h=>by
  simp only[Abd,Fc] at ho;have ho1:=Dx ho.1;obtain⟨ps,h1,h2⟩:=h f (by simp);obtain⟨rows,h3,h4⟩:=NO hn l _ ho.2 fun g hg=>h g (by simp[hg]);refine⟨ps::rows,⟨h1,h3⟩,?_⟩;rw[ho1] at h2;have:cs.drop i=(cs.drop i).take (P.cellsOf f.type)++cs.drop (i+P.cellsOf f.type):=by rw[<-List.drop_drop];exact (List.take_append_drop _ _).symm
  rw[this,List.flatten_cons];exact h2.app h4
theorem RX{d:Nat}{e:TypeId}{cs:List Value}{k:Nat}:∀(n:Nat),n*k<=cs.length ->
  (∀i,i<n->∃ps,(ps.length=k/\WT P d e ps)/\Bx (TR w) ps ((cs.drop (i*k)).take k))->∃rows:List Ae,rows.length=n/\(∀r∈rows,r.length=k/\WT P d e r)/\Bx (TR w) rows.flatten (cs.take (n*k))
 |0,_,_=>⟨[],rfl,by simp,by simp[Bx]⟩
 |n+1,hl,h=>by
  rw[Nat.succ_mul] at hl;obtain⟨rows,h1,h2,h3⟩:=RX n (by omega) fun i hi=>h i (by omega);obtain⟨ps,h4,h5⟩:=h n (by omega);refine⟨rows++[ps],by simp[h1],?_,?_⟩
  ·intro r hr;rcases B5.1 hr with hr|hr
   ·exact h2 r hr
   ·rw[Qi.1 hr];exact h4
  ·rw[List.flatten_append,Nat.succ_mul,List.take_add];refine h3.app ?_
   simpa using h5
theorem CV:∀(d:Nat)(t:TypeId),Ro P d t=true->∀(fuel:Nat)(cs:List Value)(x:DataW H × List MemPlace),DataW.trod enc P w base (fun _=>true) held fuel t cs=some x ->
  ∃ps,WT P d t ps/\Bx (TR w) ps cs
 |0,_,h,_,_,_,_=>by cases h
 |d+1,t,hp,fuel,cs,x,h=>by
  unfold Ro at hp;split at hp
  ·rename_i hu;obtain⟨b,rfl,_⟩:=DataW.trod_bool hu h;simp only[Aw1 hu];exact⟨[.sc (.bool b)],⟨b,rfl⟩,⟨⟨trivial,Av.sc _⟩,rfl⟩,trivial⟩
  ·rename_i k hu;obtain⟨n,rfl,_,hw⟩:=DataW.trod_int hu h;simp only[Arv hu];exact⟨[.sc (.int k n)],⟨n,rfl,hw⟩,⟨⟨trivial,Av.sc _⟩,rfl⟩,trivial⟩
  ·rename_i hu;obtain⟨s,rfl,_,hw⟩:=DataW.trod_string hu h;simp only[Am3 hu];exact⟨[.sc (.string s)],⟨s,rfl,hw⟩,⟨⟨trivial,Av.sc _⟩,rfl⟩,trivial⟩
  ·rename_i e hu;simp only[Fc] at hp;have DV:0<P.cellsOf e:=Nat.lt_of_succ_le (R5 hp.2);simp only[Aeo hu];rcases open_slice hu h with⟨rfl,_⟩|⟨a,len,cap,m,n,D,Pl,rfl,_,hl,hm,hmm,_,hi⟩
   ·exact⟨[.lst false (P.cellsOf e) 0 []],⟨[],by simp,by simp,by simp⟩,⟨⟨trivial,Av.lnil _ _⟩,rfl⟩,trivial⟩
   ·simp only[if_true] at hmm;subst hmm
    have hi':∀i,i<len->∃q:Ae × List Value,(q.2.length=P.cellsOf e/\(∀k,k<P.cellsOf e->w.cell? (a.add (i*P.cellsOf e+k))=q.2[k]?))/\WT P d e q.1/\Bx (TR w) q.1 q.2:=by
     intro i Ck;obtain⟨cs',hc,ht⟩:=hi i (by omega);obtain⟨_,M9,hat⟩:=World.cells?_some hc;obtain⟨ps,h1,h2⟩:=CV d e hp.1 _ _ _ ht;exact⟨(ps,cs'),⟨M9,fun k hk=>by rw[<-Pv.add_add];exact hat k hk⟩,h1,h2⟩
    obtain⟨F,hF⟩:=choose_lt hi';refine⟨[.lst false (P.cellsOf e) len ((List.range len).map fun i=>(F i).1).flatten],⟨(List.range len).map fun i=>(F i).1,by simp,by simp;omega,?_⟩,⟨⟨trivial,?_⟩,rfl⟩,trivial⟩
    ·intro r hr;obtain⟨i,hi1,rfl⟩:=List.mem_map.1 hr;have hi2:=List.mem_range.1 hi1;exact⟨by rw[(hF i hi2).2.2.len];exact (hF i hi2).1.1,(hF i hi2).2.1⟩
    ·rcases Nat.eq_zero_or_pos len with h0|h0
     ·subst h0;exact Av.lemp _ _ _
     ·have Qn:Bx (TR w) ((List.range len).map fun i=>(F i).1).flatten ((List.range len).map fun i=>(F i).2).flatten:=Bx.flat fun i hi=>(hF i (List.mem_range.1 hi)).2.2;have Ev:=VK (w:=w) (a:=a) (g:=fun i=>(F i).2) (fun i hi=>(hF i hi).1.1) (fun i hi=>(hF i hi).1.2);have Ek:=UI (g:=fun i=>(F i).2) (fun i (hi:i<len)=>(hF i hi).1.1)
      have h00:w.cell? a≠none:=by
       have:=Ev 0 (Nat.mul_pos h0 DV);rw[show a.add 0=a by unfold Addr.add;simp] at this
       rw[this,List.getElem?_eq_getElem (by rw[Ek];exact Nat.mul_pos h0 DV)]
       simp
      obtain⟨v0,hv0⟩:=Option.ne_none_iff_exists'.1 h00;obtain⟨hs,hb⟩:=Apl hv0
      have key:∀j c,(((List.range len).map fun i=>(F i).1).flatten)[j]?=some c->∃v,w.cell? (a.add j)=some v/\TR w c v:=by
       intro j c hj
       have hlj:j<len*P.cellsOf e:=by
        rw[<-Ek,<-Qn.len];rcases Ig j (((List.range len).map fun i=>(F i).1).flatten).length with h1|h1
        ·exact h1
        ·rw[List.getElem?_eq_none h1] at hj;cases hj
       have h1:=Ev j hlj;rw[List.getElem?_eq_getElem (by rw[Ek];exact hlj)] at h1
       exact⟨_,h1,Qn.at_ hj (List.getElem?_eq_getElem (by rw[Ek];exact hlj))⟩
      refine Av.lst _ _ _ a _ (fun j=>(w.cell? (a.add j)).getD undef) hs hb (fun h=>h) hl (fun j c hj=>?_) (fun j c hj=>?_) (fun j c hj=>?_)
      ·obtain⟨v,hv,_⟩:=key j c hj;rw[hv];rfl
      ·obtain⟨v,hv,ht⟩:=key j c hj;rw[hv];exact ht.2
      ·obtain⟨v,hv,ht⟩:=key j c hj;rw[hv];exact ht.1.2
  ·rename_i fs hu;simp only[Fc] at hp;simp only[Aoy hu];obtain⟨xs,n,_,_,Ek,hxl,hf⟩:=DataW.trod_struct hu h
   obtain⟨rows,h1,h2⟩:=NO (P:=P) (w:=w) (d:=d) Ek fs.toList 0 hp.1 fun f hf'=>by
    obtain⟨i,hi⟩:=List.mem_iff_getElem?.1 hf';have hi':fs[i]?=some f:=by simpa using hi
    have Ck:i<fs.size:=(Array.getElem?_eq_some_iff.1 hi').1;have h3:=hf i f hi';rw[List.getElem?_eq_getElem (by omega)] at h3;exact CV d f.type (List.all_eq_true.1 hp.2 f hf') _ _ _ h3
   exact⟨_,⟨rows,rfl,h1⟩,by simpa using h2⟩
  ·rename_i n e hu;simp only[Fc] at hp;simp only[Avg hu];obtain⟨xs,m,_,_,Ek,hxl,hf⟩:=DataW.trod_array hu h;have Km:=Dx hp.1
   obtain⟨rows,h1,h2,h3⟩:=RX (P:=P) (w:=w) (d:=d) (e:=e) (cs:=cs) (k:=P.cellsOf e) n (by omega) fun i hi=>by
    have h3:=hf i hi;rw[List.getElem?_eq_getElem (by omega)] at h3;obtain⟨ps,h4,h5⟩:=CV d e hp.2 _ _ _ h3;refine⟨ps,⟨?_,h4⟩,h5⟩;rw[h5.len,List.length_take,List.length_drop,Ek,Km];have:(i+1)*P.cellsOf e<=n*P.cellsOf e:=Nat.mul_le_mul_right _ hi;rw[Nat.succ_mul] at this;omega
   refine⟨_,⟨rows,rfl,h1,h2⟩,?_⟩;rw[Hz (by omega)] at h3;exact h3
  ·cases hp
theorem Auk{r:Reach}{b0:Nat}{t:TypeId}{v:Value}{dd:DataW H}{p:List MemPlace}(hp:Ro P 12 t=true)(hv:Value.okWide P w r b0 t v)(h:DataW.Trod enc P w base (fun _=>true) held t v dd p):
  ∃q,WTv P t q/\Vx w No q v:=by
 obtain⟨fuel,hf⟩:=h;obtain⟨ps,h1,h2⟩:=CV 12 t hp fuel _ _ hf;unfold WTv C5
 have two:∀{cs:Array Value},v=.agg cs->∃q,(∃ps,q=.agg ps/\WT P 12 t ps)/\Vx w No q v:=by
  intro cs e;subst e;exact⟨.agg ps,⟨ps,rfl,h1⟩,cs.toList,by simp,h2.mono fun c v h=>h.1⟩
 have one:v.cells.toList=[v]->∃q,WT P 12 t [q]/\Vx w No q v:=by
  intro e;rw[e] at h2
  match ps,h2 with
  |[q],h2=>
   refine⟨q,h1,?_⟩;have h3:=h2.1.1;cases q<;>first|exact h3|exact h3.1.elim
  |[],h2=>exact h2.elim
  |_::_::_,h2=>exact h2.2.elim
 unfold Ro at hp;split at hp
 ·rename_i hu;simp only[hu];obtain⟨b,rfl,_⟩:=open_bool hu hv ⟨fuel,hf⟩;exact one rfl
 ·rename_i k hu;simp only[hu];obtain⟨b,rfl,_⟩:=open_int hu hv ⟨fuel,hf⟩;exact one rfl
 ·rename_i hu;simp only[hu];obtain⟨b,rfl,_⟩:=ChangeMaps.open_string hu hv ⟨fuel,hf⟩;exact one rfl
 ·rename_i e hu;simp only[hu];obtain⟨a,len,cap,rfl⟩:=okWide_slice hu hv;exact one rfl
 ·rename_i fs hu;simp only[hu];obtain⟨cs,rfl,_⟩:=okWide_struct hu hv;exact two rfl
 ·rename_i n e hu;simp only[hu];unfold Value.okWide at hv;simp only[hu] at hv;obtain⟨cs,rfl,_⟩:=hv;exact two rfl
 ·cases hp
theorem YU:∀{ts:List TypeId}{vs:List Value}{ds:List (DataW H)} {p:List MemPlace}{r:Reach}{b0:Nat},(ts.all fun t=>Ro P 12 t)=true->(∀(j:Nat) t v,ts[j]?=some t->vs[j]?=some v->Value.okWide P w r b0 t v) ->
  DataW.TrodAll enc P w base (fun _=>true) held ts vs ds p->∃qs,Bx (WTv P) ts qs/\Bx (Vx w No) qs vs
 |[],[],[],_,_,_,_,_,_=>⟨[],trivial,trivial⟩
 |t::ts,v::vs,d::ds,_,r,b0,hp,hv,⟨p,q,h1,h2,_⟩=>by
  simp only[List.all_cons,Fc] at hp;obtain⟨x,h3,h4⟩:=Auk hp.1 (hv 0 t v rfl rfl) h1;obtain⟨xs,h5,h6⟩:=YU hp.2 (fun j t v ht Uk=>hv (j+1) t v ht Uk) h2;exact⟨x::xs,⟨h3,h5⟩,h4,h6⟩
 |[],_::_,_,_,_,_,_,_,h=>by cases h
 |[],[],_::_,_,_,_,_,_,h=>by cases h
 |_::_,[],_,_,_,_,_,_,h=>by cases h
 |_::_,_::_,[],_,_,_,_,_,h=>by cases h
theorem EX(hl:laidOutB P=true){W W':World}{sp:Nat->Bool}:∀{ts:List TypeId}{vs:List Value}{ds:List (DataW H)} {p:List MemPlace},(ts.all fun t=>P.readableRec t&&Nat.blt t P.types.size)=true ->
  DataW.TrodAll enc P W 0 (fun _=>true) true ts vs ds p->(∀x∈p,W.sameAt W' x)->(∀x∈p,sp x.block=true)->DataW.TrodAll enc P W' 0 sp true ts vs ds p
 |[],[],[],_,_,h,_,_=>h
 |t::ts,v::vs,d::ds,_,hr,⟨p,q,h1,h2,e⟩,hs,hsp=>by
  simp only[List.all_cons,Fc] at hr;refine⟨p,q,WideElems.Trod_stays hl hr.1.1 (Nat.lt_of_succ_le (R5 hr.1.2)) h1 (fun x hx=>hs x ?_) (fun x hx=>hsp x ?_),EX hl hr.2 h2 (fun x hx=>hs x ?_) (fun x hx=>hsp x ?_),e⟩
  all_goals rw[e,B5]
  ·exact .inl hx
  ·exact .inl hx
  ·exact .inr hx
  ·exact .inr hx
 |[],_::_,_,_,_,h,_,_=>by cases h
 |[],[],_::_,_,_,h,_,_=>by cases h
 |_::_,[],_,_,_,h,_,_=>by cases h
 |_::_,_::_,[],_,_,h,_,_=>by cases h
theorem WO{f:Func}{s:ChangeSpec}{apart fresh Adg again:Bool}{W W':World}{args:Array Value}{v:Value}{ds gs:List (DataW H)}{before pa pv:List MemPlace}(hW:DataW.Whole enc P f.params.toList s.vars apart W args.toList ds gs before)(Bbd:∀(b:Nat)(sp:Nat->Bool)(hd:Bool),DataW.TrodAll enc P W' b sp hd f.resultTypes.toList (v.resultList f.resultTypes.size) (s.fn H (ds++gs)).results [])(F0:∀sp:Nat->Bool,(∀p∈before,sp p.block=true)->DataW.TrodAll enc P W' 0 sp true f.params.toList args.toList (s.fn H (ds++gs)).args pa)(Agm:∀sp:Nat->Bool,(∀p∈before,sp p.block=true)->DataW.TrodVars enc P W' sp s.vars (s.fn H (ds++gs)).vars pv)(MS:before=pa++pv)(hb:Below W.heap.size W W')(hok:∀(j:Nat)(t:TypeId)(r:Value),f.resultTypes[j]?=some t->(v.resultList f.resultTypes.size)[j]?=some r->Value.okWide P W' .any 0 t r):
  s.post enc P f apart fresh Adg again W args v W':=by
 have Ck:∀p∈before,p.block<W.heap.size:=fun p hp=>hW.lt p hp;have hold:∀p∈before,(fun b=>decide (b<W.heap.size)) p.block=true:=fun p hp=>by simpa using Ck p hp
 refine⟨ds,gs,before,[],pa,pv,hW,Bbd _ _ _,F0 _ hold,Agm _ hold,World.keptBut_mono (fun p hp=>⟨hp,?_⟩) (hb.frame (· ∈ before)),fun _=>?_⟩
 ·rw[MS,B5] at hp;exact Or.inr hp
 ·obtain⟨_,_,_,_,_,hz,hn⟩:=hW;refine⟨hok,_,_,([]++pa)++pv,⟨[]++pa,pv,trodAll_append (F0 _ (fun _ _=>rfl)) (Bbd _ _ _),Agm _ (fun _ _=>rfl),rfl,?_,?_⟩,?_⟩
  ·intro b off hp;have Rs:MemPlace.cell b off∈before:=by rw[MS];simpa using hp
   rw[hb.frozen (Ck _ Rs)];exact hz b off Rs
  ·intro ha;have:=hn ha;rw[MS] at this
   simpa using this
  ·intro p hp _;rw[MS]
   simpa using hp
theorem law_contract{G:Vg}{C:Ih}(hx:SP G P C)(I7:NoNG P)(hm:P.follows .mixedOrders=true)(hl:laidOutB P=true){f:FuncId}{fn:Func}{s:ChangeSpec}{tb:TypeId}(hfn:P.funcs[f]?=some fn)(Agm:s.vars=[])(Baz:∀ds:List (DataW H),ds.length=fn.params.size->s.fn H ds={ results:=[.lit (.bool true)],args:=ds })(A32:(fn.params.toList.all fun t=>Ro P 12 t)=true)(Bah:(fn.params.toList.all fun t=>P.readableRec t&&Nat.blt t P.types.size)=true)(hrt:fn.resultTypes = #[tb])(hub:P.underlying tb=some .bool){apart fresh Adg again:Bool}(W:World)(base:Nat)(args:Array Value)(ds gs:List (DataW H))(before:List MemPlace)(hval:∀(j:Nat) t v,fn.params[j]?=some t->args[j]?=some v->Value.okWide P W .any base t v)(hW:DataW.Whole enc P fn.params.toList s.vars apart W args.toList ds gs before)(Bf2:∀qs:Ae,Bx (WTv P) fn.params.toList qs->∃fu d,Ac C P fu d f qs=some ⟨[.sc (.bool true)],[]⟩)(hG:G.ok W)(hGY:∀b,G.bl b->b<W.heap.size):
  Calls P f args W fun e W'=>∃v,e=.returned v/\s.post enc P fn apart fresh Adg again W args v W':=by
 have hW':=hW;obtain⟨p,q,hA,hV,rfl,Y5,WA⟩:=hW;rw[Agm] at hV;obtain⟨rfl,rfl⟩:=trodVars_none hV;obtain⟨qs,h1,h2⟩:=YU A32 (fun j t v ht hv=>hval j t v (by simpa using ht) (by simpa using hv)) hA;obtain⟨fu,d,hc⟩:=Bf2 qs h1;have hS:=(Jf I7 hm hx d f qs _ hc).2 W No FJ args.toList (Agg (fun b h=>h.elim) h2) hG (fun b hb=>⟨hGY b hb,Ng b⟩);rw[Array.toArray_toList] at hS;refine hS.mono fun e W' ⟨vs,own,he,ho⟩=>?_;have hv:=ho.vals
 have Ma:vs=[.bool true]:=by
  match vs,hv with
  |[u],hv=>
   have:Av W' _ (.sc (.bool true)) u:=hv.1;rw[this.val]
  |[],hv=>exact hv.elim
  |_::_::_,hv=>exact hv.2.elim
 subst Ma;subst he;have hb:Below W.heap.size W W':=⟨ho.os,ho.tape,ho.output,ho.ext.size,fun k hk=>ho.ext.keep k hk (Ng k)⟩
 have Ck:∀x∈p,x.block<W.heap.size:=fun x hx=>hW'.lt x (by simpa using hx)
 have Ek:ds.length=fn.params.size:=by
  have:∀{ts:List TypeId} {vs:List Value} {ds:List (DataW H)} {p:List MemPlace},DataW.TrodAll enc P W 0 (fun _=>true) true ts vs ds p->ds.length=ts.length:=by
   intro ts
   induction ts with
   |nil=>intro vs ds p h;cases vs<;>cases ds<;>first|rfl|cases h
   |cons t ts ih=>
    intro vs ds p h;cases vs with
    |nil=>cases h
    |cons v vs=>
     cases ds with
     |nil=>cases h
     |cons d ds=>obtain⟨_,_,_,h2,_⟩:=h;simp[ih h2]
  simpa using this hA
 have hsp:=Baz (ds++[]) (by simpa using Ek);refine⟨_,rfl,WO (pa:=p) (pv:=[]) hW' ?_ ?_ ?_ rfl hb ?_⟩
 ·intro b sp hd;rw[hsp,hrt];exact trodAll_mk1 (shut_bool hub _)
 ·intro sp Bmm;rw[hsp];simp only[List.append_nil];exact EX hl Bah hA (fun x hx=>hb.same (Ck x hx)) (fun x hx=>Bmm x (by simpa using hx))
 ·intro sp _;rw[hsp,Agm];rfl
 ·exact ok_one hrt rfl (okWide_bool_mk hub _)
end
end
section
open Go.Proofs.Tryz (prog)
theorem Axu{d:Nat}{ps:Ae}{k:IntKind}{t e:TypeId}(hk:Xm prog t=.sl e)(hc:prog.cellsOf e=1)(he:Xm prog e=.int k)(h:WT prog d t ps):
  ∃l:Al,ps=[.lst false 1 l.length (Af k l)]/\l.length<=maxLen/\∀n∈l,(Lit.int k n).wf=true:=by
 obtain⟨rows,rfl,hl,hr⟩:=Bae hk h;obtain⟨l,h1,h2,h3⟩:=OS (Ayw k) (fun n=>(Lit.int k n).wf=true) fun r hrr=>Ask he (hr r hrr).2;refine⟨l,?_,by omega,h3⟩;rw[h1,h2,hc]
theorem A08{n:Int}(h:(Lit.int .u8 n).wf=true):0<=n/\n<=255:=by simp[Lit.wf,IntKind.min,IntKind.max,IntKind.signed,IntKind.bits] at h;omega
theorem Afu{p:PV}{k:IntKind}{t e:TypeId}(ha:C5 prog t=false)(hk:Xm prog t=.sl e)(hc:prog.cellsOf e=1)(he:Xm prog e=.int k)(h:WTv prog t p):
  ∃l:Al,p=.lst false 1 l.length (Af k l)/\l.length<=maxLen/\∀n∈l,(Lit.int k n).wf=true:=by
 have h':=Aks (P:=prog) (t:=t) (p:=p) ha h;obtain⟨l,h1,h2,h3⟩:=Axu hk hc he h';exact⟨l,by injection h1,h2,h3⟩
end
instance : Coe Int PV:=⟨fun x=>.sc (.int .i64 x)⟩
instance : Coe Bool PV:=⟨fun x=>.sc (.bool x)⟩
instance : Coe ByteArray PV:=⟨fun x=>.sc (.string x)⟩
abbrev De(x:Bool):PV:=.sc (.bool x)
abbrev Bl(x:ByteArray):PV:=.sc (.string x)
theorem Bn{x:Int}(h1:-9223372036854775808<=x:=by omega)(h2:x<=9223372036854775807:=by omega):IntKind.wrap .i64 x=x:=wrap_i64 h1 h2
theorem Ej{x:Int}(h1:0<=x:=by omega)(h2:x<=18446744073709551615:=by omega):IntKind.wrap .u64 x=x:=RW h1 h2
theorem B0{x y:Int}(h1:-9223372036854775808<=x:=by omega)(h2:x<=9223372036854775807:=by omega)(h:x=y:=by omega):IntKind.wrap .i64 x=y:=(wrap_i64 h1 h2).trans h
abbrev Ar(x:Int):PV:=.sc (.int .i64 x)
abbrev Ag(x:Int):PV:=.sc (.int .u64 x)
abbrev Am(k n:Nat)(l:Ae):PV:=.lst false k n l
abbrev Bk(l:Ae):Option Bv:=some ⟨l,[]⟩
abbrev Dl(c:Option Bv)(k:PV->Ae->Option Bv):Option Bv:=A9 c fun x y=>Ak y<|Ad x k
abbrev Br(k:IntKind)(l:Ae)(f:Int->Ae->Option Bv):Option Bv:=Ad l fun x y=>Bq k x fun z=>f z y
abbrev Gt(k:IntKind)(c:Option Bv)(f:Int->Option Bv):Option Bv:=A9 c fun x y=>Ak y<|Ad x fun z t=>Bq k z fun u=>Ak t<|f u
abbrev Gg(k:Nat)(l:Ae)(f:Nat->Ae->Ae->Option Bv):Option Bv:=Ad l fun x y=>Ys k x fun _ n c=>f n c y
abbrev VY(k:Nat)(l:Ae)(f:Nat->Ae->Ae->Option Bv):Option Bv:=Ad l fun x y=>Kf k x fun n c=>f n c y
abbrev Gv(l:Ae)(f:Bool->Option Bv):Option Bv:=Ad l fun x y=>Ax x fun z=>Ak y<|f z
abbrev Cg(k:IntKind)(l:Ae)(f:Int->Option Bv):Option Bv:=Ad l fun x y=>Bq k x fun z=>Ak y<|f z
abbrev ZzA(n k m:Nat)(l e:Ae)(f:Nat->Ae->Option Bv):Option Bv:=As (decide (n*k<=l.length)&&true&&decide ((n+1)*m<=1099511627776)&&decide (n+1<=1099511627776))<|f (n+1) (List.take (n*k) l++e)
abbrev Kk(fu:Nat)(call:Ap)(i:FuncId)(f:Func):=A9k CB prog fu call i f (Aje f)
inductive ZzQ:Bool->Bool->Prop
|t:ZzQ true true
|f:ZzQ false false
theorem Hg{R:Type}{b c:Bool}{x y r:Option R}(h:ZzQ b c)(k:(match (generalizing:=false) c with|true=>x|false=>y)=r):Aw b x y=r:=by cases h<;>exact k
theorem He:type_of% gT/\type_of% gF/\type_of% @Bool.not_true/\type_of% @Bool.not_false/\type_of% @decide_eq_true/\type_of% @decide_eq_false/\type_of% @decide_true/\type_of% @decide_false:=⟨gT,gF,@Bool.not_true,@Bool.not_false,@decide_eq_true,@decide_eq_false,@decide_true,@decide_false⟩
theorem Bf(n k m:Nat)(l e:Ae)(f:Nat->Ae->Option Bv):ZzA n k m l e f=(As (decide (n*k<=l.length)&&true&&decide ((n+1)*m<=1099511627776)&&decide (n+1<=1099511627776))<|f (n+1) (List.take (n*k) l++e)):=by exact id rfl
abbrev Wn(C:Ih)(fu d:Nat)(F:FuncId)(l:Ae)(b:Ap->Option Bv):Prop:=Ac C prog fu (d+1) F l=b (Ac C prog fu d)
section
variable {xs:FuncId->Option (Ae->Option Bv)}(fu d:Nat)(call:Ap)
theorem EK(Z Y:Int):Wn (CX xs) fu d 184 [Ag Z,Y] fun call=>Aa (wrap .u64 Y) fun a=>Aa (D2 .u64 a 63) fun a=>As (decide (0<=a))<|Aa (Eu .u64 Z a) fun b=>Aa (wrap .u64 (64-a)) fun a=>As (decide (0<=a))<|Aa (Hc .u64 Z a) fun a=>Aa (Xr .u64 b a) fun a=>Bk [Ag a]:=by show _=_;kernel_rfl
def Im(Z:Nat)(Y:Ae)(X W V:Nat)(U:Ae)(T S:Int)(Q:Ae):Option Bv:=Kk fu call 91 Tryz.f91 [Am 1 Z Y] [.r,.r,.l,.r,.l] X ⟨lk [(3,.view 3 1 0 W),(11,Am 1 V U),(12,T),(13,S)],C4 [(3,.ar false Q)]⟩
def K5(Z:Nat)(Y:Ae)(X W V:Nat)(U:Int)(T:Nat)(S:Ae)(Q P O:Int)(N:Ae):Option Bv:=Kk fu call 91 Tryz.f91 [Am 1 Z Y] [.r,.r,.l,.r,.l,.i X,.r,.r,.l,.l,.r,.r,.l] W ⟨lk [(3,.view 3 1 0 V),(5,Ag U),(11,Am 1 T S),(12,Q),(13,P),(17,O)],C4 [(3,.ar false N)]⟩
theorem Un(T:Nat)(S:Ae)(Q Y W:Nat)(V:Ae)(U Z:Int)(X:Ae):Im fu call T S (Q+1) Y W V U Z X=(Aw (decide (Z<U)) (As (decide (0<=Z)&&decide (Z<(↑W:Int)))<|Bq .u64 (V.getD (Z.toNat*1) .top) fun a=>K5 fu call T S Q fu Y a W V U Z 0 X) (As (decide (Y*1<=X.length))<|Bk [.own 1 Y (X.take (Y*1))])):=by kernel_rfl
theorem U9(Y:Nat)(X:Ae)(W N V:Nat)(U:Int)(T:Nat)(S:Ae)(Q P Z:Int)(O:Ae):K5 fu call Y X W (N+1) V U T S Q P Z O=(Aw (decide (Z<8)) (Aa (wrap .i64 (8*Z)) fun a=>Aa (wrap .i64 (56-a)) fun a=>As (decide (0<=a))<|Aa (Hc .u64 U a) fun a=>Aa (wrap .u8 a) fun a=>ZzA V 1 1 O [.sc (.int .u8 a)] fun a b=>Aa (wrap .i64 (Z+1)) fun c=>K5 fu call Y X W N a U T S Q P c b) (Aa (wrap .i64 (P+1)) fun a=>Im fu call Y X W V T S Q a O)):=by kernel_rfl
theorem SW(Z:Nat)(Y:Ae):Wn (CX xs) fu d 91 [Am 1 Z Y] fun call=>Aa (wrap .i64 (8*(↑Z:Int))) fun a=>As (decide (0<=a)&&decide (a*1<=1099511627776)&&decide (a<=1099511627776))<|Im fu call Z Y fu 0 Z Y (↑Z:Int) 0 ([]):=by show _=_;kernel_rfl
def Jz(Z:Nat)(Y:Ae)(X:Nat)(W:Int)(V:Nat)(U:Ae)(T S:Int):Option Bv:=Kk fu call 159 Tryz.f159 [Am 1 Z Y] [.r,.r,.l,.r,.l] X ⟨lk [(3,Ag W),(6,Am 1 V U),(7,T),(8,S)],C4 []⟩
theorem Tf(U:Nat)(T:Ae)(S:Nat)(Y:Int)(X:Nat)(W:Ae)(V Z:Int):Jz fu call U T (S+1) Y X W V Z=(Aw (decide (Z<V)) (As (decide (0<=Z)&&decide (Z<(↑X:Int)))<|Bq .u8 (W.getD (Z.toNat*1) .top) fun a=>Aa (wrap .u64 a) fun a=>Aa (wrap .i64 (8*Z)) fun b=>As (decide (0<=b))<|Aa (Eu .u64 a b) fun a=>Aa (Xr .u64 Y a) fun a=>Aa (wrap .i64 (Z+1)) fun b=>Jz fu call U T S a X W V b) (Bk [Ag Y])):=by kernel_rfl
theorem PY(Z:Nat)(Y:Ae):Wn (CX xs) fu d 159 [Am 1 Z Y] fun call=>Jz fu call Z Y fu 0 Z Y (↑Z:Int) 0:=by show _=_;kernel_rfl
def F9(Z Y:Int)(X W V:Int)(U:Nat)(T S:Int)(Q P:Int)(O N:Int):Option Bv:=Kk fu call 160 Tryz.f160 [.pbox [Ag Z,Ag Y,Ag X,Ag W],V] [.r,.l] U ⟨lk [(0,.ptr 288000 0),(4,T),(5,S)],C4 [(288000,.st [Ag Q,Ag P,Ag O,Ag N])]⟩
theorem K2(T S:Int)(Q P O:Int)(N:Nat)(X W:Int)(V Z:Int)(U Y:Int):F9 fu call T S Q P O (N+1) X W V Z U Y=(Aw (decide (W<X)) (Aa (wrap .u64 (V+Z)) fun a=>Gt .u64 (call 184 [Ag Z,(13:Int)]) fun b=>Aa (Ew .u64 b a) fun b=>Gt .u64 (call 184 [Ag a,(32:Int)]) fun a=>Aa (wrap .u64 (U+Y)) fun c=>Gt .u64 (call 184 [Ag Y,(16:Int)]) fun e=>Aa (Ew .u64 e c) fun e=>Aa (wrap .u64 (a+e)) fun a=>Gt .u64 (call 184 [Ag e,(21:Int)]) fun e=>Aa (Ew .u64 e a) fun e=>Aa (wrap .u64 (c+b)) fun c=>Gt .u64 (call 184 [Ag b,(17:Int)]) fun b=>Aa (Ew .u64 b c) fun b=>Gt .u64 (call 184 [Ag c,(32:Int)]) fun c=>Aa (wrap .i64 (W+1)) fun f=>F9 fu call T S Q P O N X f a b c e) (some ⟨[],[[Ag V,Ag Z,Ag U,Ag Y]]⟩)):=by kernel_rfl
theorem Zm(Z Y:Int)(X W V:Int):Wn (CX xs) fu d 160 [.pbox [Ag Z,Ag Y,Ag X,Ag W],V] fun call=>F9 fu call Z Y X W V fu V 0 Z Y X (W):=by show _=_;kernel_rfl
theorem Zn(Y X:Int)(W V Z:Int):Wn (CX xs) fu d 158 [.pbox [Ag Y,Ag X,Ag W,Ag V],Ag Z] fun call=>Aa (Ew .u64 V Z) fun a=>A9 (call 160 [.pbox [Ag Y,Ag X,Ag W,Ag a],(2:Int)]) fun a b=>Ak a<|Ad b fun a b=>Br .u64 a fun a c=>Br .u64 c fun c e=>Br .u64 e fun e f=>Cg .u64 f fun f=>Ak b<|Aa (Ew .u64 a Z) fun a=>some ⟨[],[[Ag a,Ag c,Ag e,Ag f]]⟩:=by show _=_;kernel_rfl
def Ku(Z Y:Int)(X:Nat)(W:Ae)(V U:Nat)(T:Ae)(S Q:Int)(P O:Int)(N M L:Int):Option Bv:=Kk fu call 129 Tryz.f129 [Ag Z,Ag Y,Am 1 X W] [.r,.r,.r,.l,.r,.l] V ⟨lk [(2,Am 1 U T),(7,.ptr 7 0),(8,S),(22,Q),(23,P)],C4 [(7,.st [Ag O,Ag N,Ag M,Ag L])]⟩
theorem Yz(P O:Int)(N:Nat)(M:Ae)(L Z:Nat)(X:Ae)(W V:Int)(Y U:Int)(T S Q:Int):Ku fu call P O N M (L+1) Z X W V Y U T S Q=(Aw (decide (Y<V)) (Aa (wrap .i64 (8*Y)) fun a=>Aa (wrap .i64 (8*Y)) fun b=>Aa (wrap .i64 (b+8)) fun b=>As (decide (0<=a))<|As (decide (0<=b))<|As (decide (a.toNat<=b.toNat)&&decide (b.toNat<=Z))<|Aa (b.toNat-a.toNat) fun b=>Aa (List.take (b*1) (X.drop (a.toNat*1))) fun a=>Gt .u64 (call 159 [Am 1 b a]) fun a=>A9 (call 158 [.pbox [Ag U,Ag T,Ag S,Ag Q],Ag a]) fun a b=>Ak a<|Ad b fun a b=>Br .u64 a fun a c=>Br .u64 c fun c e=>Br .u64 e fun e f=>Cg .u64 f fun f=>Ak b<|Aa (wrap .i64 (Y+1)) fun b=>Ku fu call P O N M L Z X W V b a c e f) (Aa (wrap .i64 (8*W)) fun a=>As (decide (0<=a))<|As (decide (a.toNat<=Z)&&decide (Z<=Z))<|Aa (Z-a.toNat) fun b=>Aa (List.take (b*1) (X.drop (a.toNat*1))) fun a=>Gt .u64 (call 159 [Am 1 b a]) fun a=>Aa (wrap .u64 (↑Z:Int)) fun b=>Aa (Eu .u64 b 56) fun b=>Aa (Xr .u64 a b) fun a=>A9 (call 158 [.pbox [Ag U,Ag T,Ag S,Ag Q],Ag a]) fun a b=>Ak a<|Ad b fun a b=>Br .u64 a fun a c=>Br .u64 c fun c e=>Br .u64 e fun e f=>Cg .u64 f fun f=>Ak b<|Aa (Ew .u64 e 255) fun b=>A9 (call 160 [.pbox [Ag a,Ag c,Ag b,Ag f],(4:Int)]) fun a b=>Ak a<|Ad b fun a b=>Br .u64 a fun a c=>Br .u64 c fun c e=>Br .u64 e fun e f=>Cg .u64 f fun f=>Ak b<|Aa (Ew .u64 a c) fun a=>Aa (Ew .u64 a e) fun a=>Aa (Ew .u64 a f) fun a=>Bk [Ag a])):=by kernel_rfl
theorem Aau(Z Y:Int)(X:Nat)(W:Ae):Wn (CX xs) fu d 129 [Ag Z,Ag Y,Am 1 X W] fun call=>Aa (Ew .u64 Z 8317987319222330741) fun a=>Aa (Ew .u64 Y 7237128888997146477) fun b=>Aa (Ew .u64 Z 7816392313619706465) fun c=>Aa (Ew .u64 Y 8387220255154660723) fun e=>Aa (wrap .i64 (Int.tdiv (↑X:Int) 8)) fun f=>Ku fu call Z Y X W fu X W f f 0 a b c e:=by show _=_;kernel_rfl
theorem XD(Z:Int)(Y:Nat)(X:Ae):Wn (CX xs) fu d 86 [Z,Am 1 Y X] fun call=>Aa (wrap .u64 Z) fun a=>Gt .u64 (call 129 [Ag a,Ag 0,Am 1 Y X]) fun a=>Bk [Ag a]:=by show _=_;kernel_rfl
theorem GJ(Y Z:Int):Wn (CX xs) fu d 166 [Ag Y,Ag Z] fun call=>As (decide (0<=Z))<|Aa (Eu .u64 Y Z) fun a=>Aa (wrap .u64 (64-Z)) fun b=>As (decide (0<=b))<|Aa (Hc .u64 Y b) fun b=>Aa (Xr .u64 a b) fun a=>Bk [Ag a]:=by show _=_;kernel_rfl
theorem EM(X Z:Int)(W Y:Int):Wn (CX xs) fu d 141 [.agg [Ag X,Ag Z,Ag W,Ag Y]] fun call=>Aa (wrap .u64 (X+Z)) fun a=>Gt .u64 (call 166 [Ag Z,Ag 13]) fun b=>Aa (Ew .u64 b a) fun b=>Gt .u64 (call 166 [Ag a,Ag 32]) fun a=>Aa (wrap .u64 (W+Y)) fun c=>Gt .u64 (call 166 [Ag Y,Ag 16]) fun e=>Aa (Ew .u64 e c) fun e=>Aa (wrap .u64 (a+e)) fun a=>Gt .u64 (call 166 [Ag e,Ag 21]) fun e=>Aa (Ew .u64 e a) fun e=>Aa (wrap .u64 (c+b)) fun c=>Gt .u64 (call 166 [Ag b,Ag 17]) fun b=>Aa (Ew .u64 b c) fun b=>Gt .u64 (call 166 [Ag c,Ag 32]) fun c=>Bk [.agg [Ag a,Ag b,Ag c,Ag e]]:=by show _=_;kernel_rfl
def Ge(Z Y:Int)(X:Nat)(W:Ae)(V U:Nat)(T:Ae)(S:Int)(Q:Ae):Option Bv:=Kk fu call 105 Tryz.f105 [Ag Z,Ag Y,Am 1 X W] [.r,.r,.l,.r,.l] V ⟨lk [(2,Am 1 U T),(7,.ptr 7 0),(8,S)],C4 [(7,.ar false Q)]⟩
def Fg(Z Y:Int)(X:Nat)(W:Ae)(V U T:Nat)(S:Ae)(Q P O:Int)(N:Ae):Option Bv:=Kk fu call 105 Tryz.f105 [Ag Z,Ag Y,Am 1 X W] [.r,.r,.l,.r,.l,.i V,.r,.l,.l,.r,.l,.r,.l] U ⟨lk [(2,Am 1 T S),(7,.ptr 7 0),(8,Q),(9,Ag P),(10,O)],C4 [(7,.ar false N)]⟩
theorem P8(W V:Int)(U:Nat)(T:Ae)(S Y:Nat)(Q:Ae)(X:Int)(Z:Ae):Ge fu call W V U T (S+1) Y Q X Z=(Aw (decide (X<=(↑Y:Int))) (Fg fu call W V U T S fu Y Q X 0 7 Z) (Bq .u64 (Z.getD 2 .top) fun a=>Aa (Ew .u64 a 255) fun a=>As (decide (3<=Z.length))<|Aa (B6 Z [Ag a] 2) fun a=>Bq .u64 (a.getD 0 .top) fun b=>Bq .u64 (a.getD 1 .top) fun c=>Bq .u64 (a.getD 2 .top) fun e=>Bq .u64 (a.getD 3 .top) fun f=>Dl (call 141 [.agg [Ag b,Ag c,Ag e,Ag f]]) fun b c=>Di b fun b=>Br .u64 b fun b e=>Br .u64 e fun e f=>Br .u64 f fun f g=>Cg .u64 g fun g=>Ak c<|Dl (call 141 [.agg [Ag b,Ag e,Ag f,Ag g]]) fun b c=>Di b fun b=>Br .u64 b fun b e=>Br .u64 e fun e f=>Br .u64 f fun f g=>Cg .u64 g fun g=>Ak c<|Dl (call 141 [.agg [Ag b,Ag e,Ag f,Ag g]]) fun b c=>Di b fun b=>Br .u64 b fun b e=>Br .u64 e fun e f=>Br .u64 f fun f g=>Cg .u64 g fun g=>Ak c<|Dl (call 141 [.agg [Ag b,Ag e,Ag f,Ag g]]) fun b c=>Di b fun b=>Br .u64 b fun b e=>Br .u64 e fun e f=>Br .u64 f fun f g=>Cg .u64 g fun g=>Ak c<|As (decide (4<=a.length))<|Aa (B6 a [Ag b,Ag e,Ag f,Ag g] 0) fun a=>Bq .u64 (a.getD 0 .top) fun b=>Bq .u64 (a.getD 1 .top) fun c=>Aa (Ew .u64 b c) fun b=>Bq .u64 (a.getD 2 .top) fun c=>Aa (Ew .u64 b c) fun b=>Bq .u64 (a.getD 3 .top) fun a=>Aa (Ew .u64 b a) fun a=>Bk [Ag a])):=by kernel_rfl
theorem P5(T S:Int)(Q:Nat)(P:Ae)(O N Z:Nat)(V:Ae)(X U Y:Int)(W:Ae):Fg fu call T S Q P O (N+1) Z V X U Y W=(Aw (decide (Y>=0)) (Aa (wrap .i64 (X+Y)) fun a=>Aw (decide (a<(↑Z:Int))) (Aa (wrap .i64 (X+Y)) fun a=>As (decide (0<=a)&&decide (a<(↑Z:Int)))<|Bq .u8 (V.getD (a.toNat*1) .top) fun a=>Aa (Eu .u64 U 8) fun b=>Aa (wrap .u64 a) fun a=>Aa (Xr .u64 b a) fun a=>Aa (wrap .i64 (Y-1)) fun b=>Fg fu call T S Q P O N Z V X a b W) (Aw (Y==7) (Aa (wrap .u8 (↑Z:Int)) fun a=>Aa (Eu .u64 U 8) fun b=>Aa (wrap .u64 a) fun a=>Aa (Xr .u64 b a) fun a=>Aa (wrap .i64 (Y-1)) fun b=>Fg fu call T S Q P O N Z V X a b W) (Aa (Eu .u64 U 8) fun a=>Aa (Xr .u64 a 0) fun a=>Aa (wrap .i64 (Y-1)) fun b=>Fg fu call T S Q P O N Z V X a b W))) (Bq .u64 (W.getD 3 .top) fun a=>Aa (Ew .u64 a U) fun a=>As (decide (4<=W.length))<|Aa (B6 W [Ag a] 3) fun a=>Bq .u64 (a.getD 0 .top) fun b=>Bq .u64 (a.getD 1 .top) fun c=>Bq .u64 (a.getD 2 .top) fun e=>Bq .u64 (a.getD 3 .top) fun f=>Dl (call 141 [.agg [Ag b,Ag c,Ag e,Ag f]]) fun b c=>Di b fun b=>Br .u64 b fun b e=>Br .u64 e fun e f=>Br .u64 f fun f g=>Cg .u64 g fun g=>Ak c<|Dl (call 141 [.agg [Ag b,Ag e,Ag f,Ag g]]) fun b c=>Di b fun b=>Br .u64 b fun b e=>Br .u64 e fun e f=>Br .u64 f fun f g=>Cg .u64 g fun g=>Ak c<|As (decide (4<=a.length))<|Aa (B6 a [Ag b,Ag e,Ag f,Ag g] 0) fun a=>Bq .u64 (a.getD 0 .top) fun b=>Aa (Ew .u64 b U) fun b=>As (decide (1<=a.length))<|Aa (B6 a [Ag b] 0) fun a=>Aa (wrap .i64 (X+8)) fun b=>Ge fu call T S Q P O Z V b a)):=by kernel_rfl
theorem KK(Z Y:Int)(X:Nat)(W:Ae):Wn (CX xs) fu d 105 [Ag Z,Ag Y,Am 1 X W] fun call=>Aa (Ew .u64 Z 8317987319222330741) fun a=>Aa (Ew .u64 Y 7237128888997146477) fun b=>Aa (Ew .u64 Z 7816392313619706465) fun c=>Aa (Ew .u64 Y 8387220255154660723) fun e=>Ge fu call Z Y X W fu X W 0 ([Ag a,Ag b,Ag c,Ag e]):=by show _=_;kernel_rfl
theorem GP(Z:Int)(Y:Nat)(X:Ae):Wn (CX xs) fu d 69 [Z,Am 1 Y X] fun call=>Aa (wrap .u64 Z) fun a=>Gt .u64 (call 105 [Ag a,Ag 0,Am 1 Y X]) fun a=>Bk [Ag a]:=by show _=_;kernel_rfl
theorem IY(Z Y:Int)(X:Nat)(W:Ae):Wn (CX xs) fu d 63 [Ag Z,Y,Am 1 X W] fun call=>Aa (wrap .u64 Y) fun a=>Aa (wrap .u64 (1+a)) fun a=>Gt .u64 (call 105 [Ag Z,Ag a,Am 1 X W]) fun a=>Bk [Ag a]:=by show _=_;kernel_rfl
def Fq(Z:Nat)(Y:Ae)(X W:Nat)(V:Ae)(U:Nat)(T:Int)(S:Ae):Option Bv:=Kk fu call 62 Tryz.f62 [Am 1 Z Y] [.r,.r,.l,.r,.l] X ⟨lk [(0,Am 1 W V),(3,.view 3 1 0 U),(4,T)],C4 [(3,.ar false S)]⟩
def Gz(Z:Nat)(Y:Ae)(X W V:Nat)(U:Ae)(T:Nat)(S Q:Int)(P:Ae):Option Bv:=Kk fu call 62 Tryz.f62 [Am 1 Z Y] [.r,.r,.l,.r,.l,.i X,.r,.l,.l,.r,.l] W ⟨lk [(0,Am 1 V U),(3,.view 3 1 0 T),(4,S),(5,Q)],C4 [(3,.ar false P)]⟩
theorem Mi(V:Nat)(U:Ae)(T X:Nat)(S:Ae)(Z:Nat)(W:Int)(Y:Ae):Fq fu call V U (T+1) X S Z W Y=(Aw (decide (W<(↑X:Int))) (Gz fu call V U T fu X S Z W 7 Y) (As (decide (Z*1<=Y.length))<|Bk [.own 1 Z (Y.take (Z*1))])):=by kernel_rfl
theorem Ms(V:Nat)(U:Ae)(T P Y:Nat)(X:Ae)(S:Nat)(Z W:Int)(Q:Ae):Gz fu call V U T (P+1) Y X S Z W Q=(Aw (decide (W>=0)) (As (decide (0<=Z)&&decide (Z<(↑Y:Int)))<|Bq .u64 (X.getD (Z.toNat*1) .top) fun a=>Aa (wrap .i64 (8*W)) fun b=>Aa (wrap .u64 b) fun b=>As (decide (0<=b))<|Aa (Hc .u64 a b) fun a=>Aa (wrap .u8 a) fun a=>ZzA S 1 1 Q [.sc (.int .u8 a)] fun a b=>Aa (wrap .i64 (W-1)) fun c=>Gz fu call V U T P Y X a Z c b) (Aa (wrap .i64 (Z+1)) fun a=>Fq fu call V U T Y X S a Q)):=by kernel_rfl
theorem DM(Z:Nat)(Y:Ae):Wn (CX xs) fu d 62 [Am 1 Z Y] fun call=>Fq fu call Z Y fu Z Y 0 0 ([]):=by show _=_;kernel_rfl
end
def rot(x k:Int):Int:=Xr .u64 (Eu .u64 x k) (Hc .u64 x (64-k))
structure W4 where
 a:Int
 b:Int
 c:Int
 d:Int
def W4.cells(v:W4):Ae:=[Ag v.a,Ag v.b,Ag v.c,Ag v.d]
def Bh9(v:W4):W4:=⟨rot (wrap .u64 (v.a+v.b)) 32,Ew .u64 (rot v.b 13) (wrap .u64 (v.a+v.b)),wrap .u64 (v.c+v.d),Ew .u64 (rot v.d 16) (wrap .u64 (v.c+v.d))⟩
def Bki(v:W4):W4:=⟨wrap .u64 (v.a+v.d),Ew .u64 (rot v.b 17) (wrap .u64 (v.c+v.b)),rot (wrap .u64 (v.c+v.b)) 32,Ew .u64 (rot v.d 21) (wrap .u64 (v.a+v.d))⟩
def VS(v:W4):W4:=Bki (Bh9 v)
def Ail:Nat->W4->W4
 |0,v=>v
 |n+1,v=>Ail n (VS v)
def Bcr(r:W4)(m:Int):W4:=⟨Ew .u64 r.a m,r.b,r.c,r.d⟩
def Xh(v:W4)(m:Int):W4:=Bcr (Ail 2 ⟨v.a,v.b,v.c,Ew .u64 v.d m⟩) m
def Wr:Al->Int
 |[]=>0
 |b::r=>b+256*Wr r
def WR:Nat->W4->Al->W4
 |0,v,_=>v
 |n+1,v,l=>WR n (Xh v (Wr (l.take 8))) (l.drop 8)
def A59(k0 k1:Int):W4:=⟨Ew .u64 k0 8317987319222330741,Ew .u64 k1 7237128888997146477,Ew .u64 k0 7816392313619706465,Ew .u64 k1 8387220255154660723⟩
def Ao6(v:W4):W4:=Ail 4 ⟨v.a,v.b,Ew .u64 v.c 255,v.d⟩
def Ao4(v:W4):Int:=Ew .u64 (Ew .u64 (Ew .u64 v.a v.b) v.c) v.d
def Qt(l:Al):Int:=Wr (l.drop (8*(l.length / 8)))+72057594037927936*((l.length:Int) % 256)
def Azc(k0 k1:Int)(l:Al):Int:=Ao4 (Ao6 (Xh (WR (l.length / 8) (A59 k0 k1) l) (Qt l)))
def E3(dom:Int)(l:Al):Int:=Azc (wrap .u64 dom) 0 l
def Axp(key dom:Int)(l:Al):Int:=Azc key (wrap .u64 (1+wrap .u64 dom)) l
def Cz(l:Al):Prop:=∀b∈l,0<=b/\b<=255
theorem Xz:∀{l:Al},Cz l->0<=Wr l/\Wr l<256 ^ l.length
 |[],_=>by simp[Wr]
 |b::r,h=>by
  have h1:=h b (by simp);have h2:=Xz (l:=r) fun x hx=>h x (by simp[hx]);have h3:(256:Int) ^ (b::r).length=256 ^ r.length*256:=by rw[Tm,Int.pow_succ]
  simp only[Wr];omega
theorem GN:∀(l r:Al),Wr (l++r)=Wr l+256 ^ l.length*Wr r
 |[],r=>by simp[Wr]
 |b::l,r=>by
  have ih:=GN l r;simp only[Zzp,Wr,Tm,Int.pow_succ];rw[ih,Int.mul_add];have:(256:Int)*(256 ^ l.length*Wr r)=256 ^ l.length*256*Wr r:=by rw[<-Int.mul_assoc,Int.mul_comm 256]
  omega
theorem HP{a c:Int}(k b:Nat)(h0:0<=a)(h1:a<((2 ^ k:Nat):Int))(hc:c=((b*2 ^ k:Nat):Int))(h:a+c<=18446744073709551615):Xr .u64 a c=a+c/\Xr .u64 c a=a+c:=by
 obtain⟨n,rfl⟩:=Int.eq_ofNat_of_zero_le h0;subst hc;have hn:n<2 ^ k:=by omega
 generalize hB:b*2 ^ k=m at h
 have e4:(BitVec.ofInt 64 (n:Int)).toNat=n:=by
  rw[BitVec.toNat_ofInt];omega
 have e5:(BitVec.ofInt 64 (m:Int)).toNat=m:=by
  rw[BitVec.toNat_ofInt];omega
 have e6:m ||| n=m+n:=by
  have:=Nat.shiftLeft_add_eq_or_of_lt hn b;rw[Nat.shiftLeft_eq,hB] at this;exact this.symm
 constructor
 ·show wrap .u64 ((BitVec.ofInt 64 (n:Int) ||| BitVec.ofInt 64 (m:Int)).toNat:Int)=_;rw[BitVec.toNat_or,e4,e5,Nat.or_comm,e6,Ej];omega
 ·show wrap .u64 ((BitVec.ofInt 64 (m:Int) ||| BitVec.ofInt 64 (n:Int)).toNat:Int)=_;rw[BitVec.toNat_or,e4,e5,e6,Ej];omega
theorem QI{a k:Int}(h0:0<=a)(hk:0<=k)(H4:k<=64)(h:a*((2 ^ k.toNat:Nat):Int)<=18446744073709551615):Eu .u64 a k=a*((2 ^ k.toNat:Nat):Int):=by
 show wrap .u64 (a*2 ^ (min k.toNat IntKind.u64.bits))=_;have e:min k.toNat IntKind.u64.bits=k.toNat:=Nat.min_eq_left (by show k.toNat<=64;omega)
 have e2:(2:Int) ^ k.toNat=((2 ^ k.toNat:Nat):Int):=by simp
 rw[e,e2,RW (Int.mul_nonneg h0 (Int.natCast_nonneg _)) h]
section
variable {fu d:Nat}{xs:FuncId->Option (Ae->Option Bv)}
theorem Avy{x k:Int}(hk:k=13\/k=16\/k=17\/k=21\/k=32):Ac (CX xs) prog fu (d+1) 184 [Ag x,Ar k]=some ⟨[Ag (rot x k)],[]⟩:=by rw[EK];rcases hk with rfl|rfl|rfl|rfl|rfl<;>kernel_rfl
theorem Avd{x k:Int}(hk:k=13\/k=16\/k=17\/k=21\/k=32):Ac (CX xs) prog fu (d+1) 166 [Ag x,Ag k]=some ⟨[Ag (rot x k)],[]⟩:=by rw[GJ];rcases hk with rfl|rfl|rfl|rfl|rfl<;>kernel_rfl
theorem OO{a0 a1 a2 a3 a4:Int}:∀(k i nn:Nat)(v:W4),k<nn->i+k<=100 ->
  F9 fu (Ac (CX xs) prog fu (d+1)) a0 a1 a2 a3 a4 nn ((i+k:Nat):Int) i v.a v.b v.c v.d=some ⟨[],[(Ail k v).cells]⟩
 |_,_,0,_,h,_=>by omega
 |0,i,nn+1,v,h,hi=>by
  rw[K2,Gs _ _ _ (by omega)];rfl
 |k+1,i,nn+1,v,h,hi=>by
  have ih:=OO (a0:=a0) (a1:=a1) (a2:=a2) (a3:=a3) (a4:=a4) k (i+1) nn (VS v) (by omega) (by omega);have w:wrap .i64 ((i:Int)+1)=((i+1:Nat):Int):=B0
  have r13:=fun x=>Avy (xs:=xs) (fu:=fu) (d:=d) (x:=x) (k:=13) (by simp);have r16:=fun x=>Avy (xs:=xs) (fu:=fu) (d:=d) (x:=x) (k:=16) (by simp);have r17:=fun x=>Avy (xs:=xs) (fu:=fu) (d:=d) (x:=x) (k:=17) (by simp);have r21:=fun x=>Avy (xs:=xs) (fu:=fu) (d:=d) (x:=x) (k:=21) (by simp);have r32:=fun x=>Avy (xs:=xs) (fu:=fu) (d:=d) (x:=x) (k:=32) (by simp);rw[K2];simp(disch:=omega)only[Be,Bf,r13,r16,r17,r21,r32,w];rw[show i+(k+1)=i+1+k by omega];exact ih
theorem XM(k:Nat)(hk:k<=4)(B2:100<=fu)(v:W4):Ac (CX xs) prog fu (d+2) 160 [.pbox [Ag v.a,Ag v.b,Ag v.c,Ag v.d],Ar k]=some ⟨[],[(Ail k v).cells]⟩:=by rw[Zm];have:=OO (xs:=xs) (fu:=fu) (d:=d) (a0:=v.a) (a1:=v.b) (a2:=v.c) (a3:=v.d) (a4:=k) k 0 fu v (by omega) (by omega);rw[Ie] at this;exact this
theorem Aan(B2:100<=fu)(v:W4)(m:Int):Ac (CX xs) prog fu (d+3) 158 [.pbox [Ag v.a,Ag v.b,Ag v.c,Ag v.d],Ag m]=some ⟨[],[(Xh v m).cells]⟩:=by rw[Zn];have r2:=XM (xs:=xs) (fu:=fu) (d:=d) 2 (by omega) B2 ⟨v.a,v.b,v.c,Ew .u64 v.d m⟩;have e2:((2:Nat):Int)=2:=rfl;rw[e2] at r2;unfold Xh;generalize Ail 2 ⟨v.a,v.b,v.c,Ew .u64 v.d m⟩=R at r2 ⊢;simp only[W4.cells] at r2;simp only[Be,Bf,r2];rfl
theorem A8d{a b:Int}{k:Nat}(hk:k<8)(ha:0<=a)(ha':a<((2 ^ (8*k):Nat):Int))(hb:0<=b)(Iq:b<=255):Xr .u64 a (Eu .u64 b (8*(k:Int)))=a+((2 ^ (8*k):Nat):Int)*b:=by
 obtain⟨n,rfl⟩:=Int.eq_ofNat_of_zero_le hb;have e:(8*(k:Int)).toNat=8*k:=by omega
 have hp:n*2 ^ (8*k)<=255*2 ^ (8*k):=Nat.mul_le_mul_right _ (by omega);have h56:2 ^ (8*k)<=2 ^ 56:=Nat.pow_le_pow_right (by omega) (by omega);have e56:(2:Nat) ^ 56=72057594037927936:=by decide
 rw[e56] at h56;generalize hP:2 ^ (8*k)=p at *
 have Ags:n*p<=255*p:=hp
 have hs:Eu .u64 (n:Int) (8*(k:Int))=(n:Int)*((2 ^ (8*(k:Int)).toNat:Nat):Int):=QI (by omega) (by omega) (by omega) (by
  rw[e,hP];have:((n*p:Nat):Int)<=((255*p:Nat):Int):=by omega
  rw[<-Int.natCast_mul];omega)
 rw[hs,e,hP]
 have:=(HP (a:=a) (c:=((n*p:Nat):Int)) (8*k) n ha (by rw[hP];exact ha') (by rw[hP]) (by
  have:((n*p:Nat):Int)<=((255*p:Nat):Int):=by omega
  omega)).1
 rw[<-Int.natCast_mul,this,Int.mul_comm ((p:Nat):Int),<-Int.natCast_mul]
theorem A7y(k:Nat):((2 ^ (8*k):Nat):Int)=256 ^ k:=by rw[Nat.pow_mul];simp
theorem OD{call:Ap}{n:Nat}{c:Ae}{l:Al}(hb:Cz l)(hl:l.length<=8):∀(r:Al)(i nn:Nat),l.drop i=r->r.length<nn->i<=l.length ->
  Jz fu call n c nn (Wr (l.take i)) l.length (Af .u8 l) l.length i=some ⟨[Ag (Wr l)],[]⟩
 |_,_,0,_,h,_=>by omega
 |[],i,nn+1,h,hn,hi=>by
  have:=drop_nil h;rw[Tf,Gs _ _ _ (by omega),Hz (by omega)]
 |b::r,i,nn+1,h,hn,hi=>by
  obtain⟨h1,h2,h3⟩:=D8 h;simp only[Tm] at hn;have ih:=OD (call:=call) (n:=n) (c:=c) hb hl r (i+1) nn h3 (by omega) (by omega);have hbb:=hb b (List.mem_of_getElem? h2);have w:wrap .i64 ((i:Int)+1)=((i+1:Nat):Int):=B0
  have w8:wrap .i64 (8*(i:Int))=8*(i:Int):=Bn;have wb:wrap .u64 b=b:=Ej;have A4z:=Xz (l:=l.take i) fun x hx=>hb x (List.mem_of_mem_take hx);have htl:(l.take i).length=i:=by rw[List.length_take];omega
  rw[htl] at A4z
  have hj:Xr .u64 (Wr (l.take i)) (Eu .u64 b (8*(i:Int)))=Wr (l.take (i+1)):=by
   rw[A8d (by omega) A4z.1 (by rw[A7y];exact A4z.2) hbb.1 hbb.2,List.take_add_one,h2,GN,htl,A7y]
   simp[Wr]
  rw[Tf];simp(disch:=omega)only[Be,Bf,Jd,J1,HJ h2,w,w8,wb,hj];exact ih
theorem Aam{l:Al}(hb:Cz l)(hl:l.length<=8)(B2:100<=fu):Ac (CX xs) prog fu (d+1) 159 [.lst false 1 l.length (Af .u8 l)]=some ⟨[Ag (Wr l)],[]⟩:=by rw[PY];exact OD hb hl l 0 fu rfl (by omega) (by omega)
theorem Ln(k:IntKind)(l:Al)(i:Nat):List.drop i (Af k l)=Af k (l.drop i):=by
 have:=QP (AF k) l i
 simpa using this
theorem Ir(k:IntKind)(l:Al)(i:Nat):List.take i (Af k l)=Af k (l.take i):=by
 have:=Acc (AF k) l i
 simpa using this
theorem Cz.drop{l:Al}(h:Cz l)(i:Nat):Cz (l.drop i):=fun x hx=>h x (List.mem_of_mem_drop hx)
theorem Cz.take{l:Al}(h:Cz l)(i:Nat):Cz (l.take i):=fun x hx=>h x (List.mem_of_mem_take hx)
theorem A0a{a0 a1:Int}{n:Nat}{c:Ae}{l:Al}(hb:Cz l)(hl:l.length<=1099511627776)(B2:100<=fu)(nn:Nat)(v:W4):
  Ku fu (Ac (CX xs) prog fu (d+3)) a0 a1 n c (nn+1) l.length (Af .u8 l) ((l.length / 8:Nat):Int) ((l.length / 8:Nat):Int) ((l.length / 8:Nat):Int) v.a v.b v.c v.d=some ⟨[Ag (Ao4 (Ao6 (Xh v (Qt l))))],[]⟩:=by
 have w8:wrap .i64 (8*((l.length / 8:Nat):Int))=((8*(l.length / 8):Nat):Int):=B0
 have wl:wrap .u64 (l.length:Int)=l.length:=Ej;have hdl:(l.drop (8*(l.length / 8))).length=l.length-8*(l.length / 8):=List.length_drop;have li:=Aam (xs:=xs) (fu:=fu) (d:=d+2) (hb.drop (8*(l.length / 8))) (by omega) B2;rw[hdl] at li;have tk:List.take (l.length-8*(l.length / 8)) (Af .u8 (l.drop (8*(l.length / 8))))=Af .u8 (l.drop (8*(l.length / 8))):=Hz (by rw[An,hdl];omega)
 have hbn:=Xz (hb.drop (8*(l.length / 8)));rw[hdl] at hbn
 have hp7:(256:Int) ^ (l.length-8*(l.length / 8))<=256 ^ 7:=by
  have:(256:Nat) ^ (l.length-8*(l.length / 8))<=256 ^ 7:=Nat.pow_le_pow_right (by omega) (by omega);have h2:(((256:Nat) ^ (l.length-8*(l.length / 8)):Nat):Int)<=((256 ^ 7:Nat):Int):=by omega
  simpa using h2
 have SJ:Xr .u64 (Wr (l.drop (8*(l.length / 8)))) (Eu .u64 (l.length:Int) 56)=Qt l:=by
  have hs:Eu .u64 (l.length:Int) 56=(((l.length % 256)*2 ^ 56:Nat):Int):=by
   show wrap .u64 ((l.length:Int)*2 ^ (min (56:Int).toNat IntKind.u64.bits))=_;have h2:(2:Int) ^ (min (56:Int).toNat IntKind.u64.bits)=72057594037927936:=by decide
   have h3:(2:Nat) ^ 56=72057594037927936:=by decide
   rw[h2,h3];simp only[wrap,IntKind.signed,IntKind.bits];simp;omega
  have h56:(256:Int) ^ 7=((2 ^ 56:Nat):Int):=by decide
  have h3:(2:Nat) ^ 56=72057594037927936:=by decide
  rw[hs,(HP 56 (l.length % 256) hbn.1 (by omega) rfl (by omega)).1];unfold Qt;omega
 have ab:=Aan (xs:=xs) (fu:=fu) (d:=d) B2 v (Qt l);have r4:=XM (xs:=xs) (fu:=fu) (d:=d+1) 4 (by omega) B2 ⟨(Xh v (Qt l)).a,(Xh v (Qt l)).b,Ew .u64 (Xh v (Qt l)).c 255,(Xh v (Qt l)).d⟩;have e4:((4:Nat):Int)=4:=rfl;rw[e4] at r4;unfold Ao6;generalize Xh v (Qt l)=U at ab r4 ⊢;generalize Ail 4 ⟨U.a,U.b,Ew .u64 U.c 255,U.d⟩=R at r4 ⊢;simp only[W4.cells] at ab r4;rw[Yz];simp(disch:=omega)only[Be,Bf,Jd,J1,w8,wl,Ln,tk,li,SJ,ab,r4];rfl
theorem Af8{a0 a1:Int}{n:Nat}{c:Ae}{l:Al}(hb:Cz l)(hl:l.length<=1099511627776)(B2:100<=fu):∀(k i nn:Nat)(v:W4),i+k=l.length / 8->k<nn ->
  Ku fu (Ac (CX xs) prog fu (d+3)) a0 a1 n c nn l.length (Af .u8 l) ((l.length / 8:Nat):Int) ((l.length / 8:Nat):Int) i v.a v.b v.c v.d=some ⟨[Ag (Ao4 (Ao6 (Xh (WR k v (l.drop (8*i))) (Qt l))))],[]⟩
 |_,_,0,_,_,h=>by omega
 |0,i,nn+1,v,hi,hn=>by
  have e:i=l.length / 8:=by omega
  subst e;exact A0a hb hl B2 nn v
 |k+1,i,nn+1,v,hi,hn=>by
  have w:wrap .i64 ((i:Int)+1)=((i+1:Nat):Int):=B0
  have w8:wrap .i64 (8*(i:Int))=((8*i:Nat):Int):=B0
  have w88:wrap .i64 (((8*i:Nat):Int)+8)=((8*i+8:Nat):Int):=B0
  have hdl:((l.drop (8*i)).take 8).length=8:=by rw[List.length_take,List.length_drop];omega
  have li:=Aam (xs:=xs) (fu:=fu) (d:=d+2) ((hb.drop (8*i)).take 8) (by omega) B2;rw[hdl] at li;have e8:8*i+8-8*i=8:=by omega
  have ab:=Aan (xs:=xs) (fu:=fu) (d:=d) B2 v (Wr ((l.drop (8*i)).take 8));have ih:=Af8 (a0:=a0) (a1:=a1) (n:=n) (c:=c) hb hl B2 k (i+1) nn (Xh v (Wr ((l.drop (8*i)).take 8))) (by omega) (by omega)
  have eN:WR (k+1) v (l.drop (8*i))=WR k (Xh v (Wr ((l.drop (8*i)).take 8))) (l.drop (8*(i+1))):=by
   rw[WR,List.drop_drop,show 8*i+8=8*(i+1) by omega]
  rw[eN];generalize Xh v (Wr ((l.drop (8*i)).take 8))=U at ab ih ⊢;simp only[W4.cells] at ab;rw[Yz];simp(disch:=omega)only[Be,Bf,Jd,J1,w,w8,w88,e8,Ln,Ir,li,ab];exact ih
theorem A26{l:Al}(hb:Cz l)(hl:l.length<=1099511627776)(B2:100<=fu)(hf:l.length<fu)(k0 k1:Int):Ac (CX xs) prog fu (d+4) 129 [Ag k0,Ag k1,.lst false 1 l.length (Af .u8 l)]=some ⟨[Ag (Azc k0 k1 l)],[]⟩:=by
 rw[Aau]
 have w:wrap .i64 (Int.tdiv (l.length:Int) 8)=((l.length / 8:Nat):Int):=by
  rw[Int.tdiv_eq_ediv_of_nonneg (by omega),Bn];omega
 have lp:=Af8 (xs:=xs) (fu:=fu) (d:=d) (a0:=k0) (a1:=k1) (n:=l.length) (c:=Af .u8 l) hb hl B2 (l.length / 8) 0 fu (A59 k0 k1) (by omega) (by omega);simp only[Gf,w];exact lp
theorem QX{l:Al}(hb:Cz l)(hl:l.length<=1099511627776)(B2:100<=fu)(hf:l.length<fu)(dom:Int):Ac (CX xs) prog fu (d+5) 86 [Ar dom,.lst false 1 l.length (Af .u8 l)]=some ⟨[Ag (E3 dom l)],[]⟩:=by rw[XD];have s:=A26 (xs:=xs) (fu:=fu) (d:=d) hb hl B2 hf (wrap .u64 dom) 0;simp only[Be,Bf,s];rfl
theorem Rw(v:W4):Ac (CX xs) prog fu (d+2) 141 [.agg [Ag v.a,Ag v.b,Ag v.c,Ag v.d]]=some ⟨[.agg (VS v).cells],[]⟩:=by have r13:=fun x=>Avd (xs:=xs) (fu:=fu) (d:=d) (x:=x) (k:=13) (by simp);have r16:=fun x=>Avd (xs:=xs) (fu:=fu) (d:=d) (x:=x) (k:=16) (by simp);have r17:=fun x=>Avd (xs:=xs) (fu:=fu) (d:=d) (x:=x) (k:=17) (by simp);have r21:=fun x=>Avd (xs:=xs) (fu:=fu) (d:=d) (x:=x) (k:=21) (by simp);have r32:=fun x=>Avd (xs:=xs) (fu:=fu) (d:=d) (x:=x) (k:=32) (by simp);rw[EM];simp(disch:=omega)only[Be,Bf,r13,r16,r17,r21,r32];rfl
def Zy(l:Al)(i k:Nat):Int:=if i+k<l.length then l.getD (i+k) 0 else if k=7 then (l.length:Int) % 256 else 0
def pc(l:Al)(i:Nat):Al:=(List.range 8).map (Zy l i)
theorem Bgn{l:Al}(hb:Cz l)(i:Nat):Cz (pc l i):=by
 intro x hx;obtain⟨k,hk,rfl⟩:=List.mem_map.1 hx;unfold Zy;split
 ·rename_i h;rw[List.getD_eq_getElem?_getD,List.getElem?_eq_getElem h];exact hb _ (List.getElem_mem h)
 ·split<;>omega
theorem Azh{l:Al}{i:Nat}(h:i+8<=l.length):pc l i=(l.drop i).take 8:=by
 refine List.ext_getElem (by simp[pc];omega) fun k h1 h2=>?_
 have hk:k<8:=by simpa [pc] using h1
 simp only[pc,List.getElem_map,List.getElem_range,List.getElem_take,List.getElem_drop,Zy];rw[Cr (by omega),List.getD_eq_getElem?_getD,List.getElem?_eq_getElem (by omega)];rfl
theorem XO(x:Int):∀n,Wr (List.replicate n 0++[x])=256 ^ n*x
 |0=>by simp[Wr]
 |n+1=>by
  rw[List.replicate_succ,Zzp,Wr,XO x n,Int.pow_succ,Int.mul_comm (256 ^ n) 256,Int.mul_assoc];omega
theorem Ay5{l:Al}:Wr (pc l (8*(l.length / 8)))=Qt l:=by
 have e:pc l (8*(l.length / 8))=l.drop (8*(l.length / 8))++(List.replicate (7-(l.length-8*(l.length / 8))) 0++[(l.length:Int) % 256]):=by
  refine List.ext_getElem (by simp[pc];omega) fun k h1 h2=>?_
  have hk:k<8:=by simpa [pc] using h1
  simp only[pc,List.getElem_map,List.getElem_range,Zy];by_cases hc:8*(l.length / 8)+k<l.length
  ·rw[Cr hc,List.getElem_append_left (by rw[List.length_drop];omega),List.getElem_drop,List.getD_eq_getElem?_getD,List.getElem?_eq_getElem hc]
   rfl
  ·rw[B3 hc,List.getElem_append_right (by rw[List.length_drop];omega)]
   by_cases h7:k=7
   ·rw[Cr h7,List.getElem_append_right (by simp;omega)]
    simp
   ·rw[B3 h7,List.getElem_append_left (by simp;omega)]
    simp
 rw[e,GN,XO];unfold Qt
 have:(256:Int) ^ (l.drop (8*(l.length / 8))).length*(256 ^ (7-(l.length-8*(l.length / 8)))*((l.length:Int) % 256))=72057594037927936*((l.length:Int) % 256):=by
  rw[<-Int.mul_assoc,<-Int.pow_add,List.length_drop];have:l.length-8*(l.length / 8)+(7-(l.length-8*(l.length / 8)))=7:=by omega
  rw[this];rfl
 rw[this]
theorem A8o{a b:Int}(ha:0<=a)(ha':a<72057594037927936)(hb:0<=b)(Iq:b<=255):Xr .u64 (Eu .u64 a 8) b=b+256*a:=by
 obtain⟨n,rfl⟩:=Int.eq_ofNat_of_zero_le ha
 have hs:Eu .u64 (n:Int) 8=((n*2 ^ 8:Nat):Int):=by
  have:=QI (a:=(n:Int)) (k:=8) (by omega) (by omega) (by omega) (by
   have:(2 ^ (8:Int).toNat:Nat)=256:=by decide
   rw[this];omega)
  rw[this];have:(2 ^ (8:Int).toNat:Nat)=256:=by decide
  rw[this];have:(2 ^ 8:Nat)=256:=by decide
  rw[this];omega
 have h8:(2 ^ 8:Nat)=256:=by decide
 rw[hs,(HP (a:=b) 8 n hb (by rw[h8];omega) rfl (by rw[h8];omega)).2,h8]
 omega
theorem Alb{a0 a1:Int}{n m0:Nat}{c:Ae}{l:Al}(hb:Cz l)(hl:l.length<=1099511627776){i:Nat}(hi:i<=l.length)(v:W4):∀(j nn:Nat),j<=8->j<nn ->
  Fg fu (Ac (CX xs) prog fu (d+2)) a0 a1 n c m0 nn l.length (Af .u8 l) i (Wr ((pc l i).drop j)) ((j:Int)-1) v.cells =
   Ge fu (Ac (CX xs) prog fu (d+2)) a0 a1 n c m0 l.length (Af .u8 l) ((i+8:Nat):Int) (Xh v (Wr (pc l i))).cells
 |_,0,_,h=>by omega
 |0,nn+1,hj,hn=>by
  have w8:wrap .i64 ((i:Int)+8)=((i+8:Nat):Int):=B0
  have r1:=Rw (xs:=xs) (fu:=fu) (d:=d) ⟨v.a,v.b,v.c,Ew .u64 v.d (Wr (pc l i))⟩;have r2:=Rw (xs:=xs) (fu:=fu) (d:=d) (VS ⟨v.a,v.b,v.c,Ew .u64 v.d (Wr (pc l i))⟩);have eA:Xh v (Wr (pc l i))=Bcr (VS (VS ⟨v.a,v.b,v.c,Ew .u64 v.d (Wr (pc l i))⟩)) (Wr (pc l i)):=rfl;rw[eA];generalize VS ⟨v.a,v.b,v.c,Ew .u64 v.d (Wr (pc l i))⟩=U at r1 r2 ⊢;generalize VS U=U2 at r2 ⊢;simp only[W4.cells] at r1 r2;rw[P5,Gs _ _ _ (by omega),Me];simp only[W4.cells,List.getD_cons_zero,List.getD_cons_succ,RO,Gf];simp (disch:=first|omega|(simp;done)) only[Be,Bf,B6,List.take_succ_cons,List.take_zero,List.drop_succ_cons,Me,List.drop_nil,Zzp,VW,List.append_nil,Tm,WG,List.getD_cons_zero,List.getD_cons_succ,r1,r2,w8,Ie,Nat.reduceAdd,Nat.reduceLeDiff,List.append_eq]
  rfl
 |j+1,nn+1,hj,hn=>by
  have ih:=Alb (a0:=a0) (a1:=a1) (n:=n) (m0:=m0) (c:=c) hb hl hi v j nn (by omega) (by omega);have hw:wrap .i64 ((i:Int)+(((j+1:Nat):Int)-1))=((i+j:Nat):Int):=B0
  have wj:wrap .i64 (((j+1:Nat):Int)-1-1)=(j:Int)-1:=B0
  have hd:(pc l i).drop j=Zy l i j::(pc l i).drop (j+1):=by
   rw[List.drop_eq_getElem_cons (by simp[pc];omega)]
   simp[pc]
  have hB:=Bgn hb i;have hbn:=Xz (hB.drop (j+1))
  have hp7:(256:Int) ^ ((pc l i).drop (j+1)).length<=72057594037927936:=by
   have Ek:((pc l i).drop (j+1)).length<=7:=by simp[pc]
   have:(256:Nat) ^ ((pc l i).drop (j+1)).length<=256 ^ 7:=Nat.pow_le_pow_right (by omega) Ek;have h2:(((256:Nat) ^ ((pc l i).drop (j+1)).length:Nat):Int)<=((256 ^ 7:Nat):Int):=by omega
   simpa using h2
  have hc0:0<=Zy l i j/\Zy l i j<=255:=hB _ (by rw[<-Me (l:=pc l i)];exact List.mem_of_mem_drop (i:=j) (by rw[Me,hd];simp))
  have hj2:Xr .u64 (Eu .u64 (Wr ((pc l i).drop (j+1))) 8) (Zy l i j)=Wr ((pc l i).drop j):=by
   rw[A8o hbn.1 (by omega) hc0.1 hc0.2,hd];rfl
  have wc:wrap .u64 (Zy l i j)=Zy l i j:=Ej;rw[P5,GX _ _ _ (by omega)];simp only[Gf,hw];by_cases c1:i+j<l.length
  ·have e:Zy l i j=l.getD (i+j) 0:=by unfold Zy;rw[Cr c1]
   have e2:l[i+j]?=some (Zy l i j):=by rw[e,List.getD_eq_getElem?_getD,List.getElem?_eq_getElem c1];rfl
   rw[GX _ _ _ (by omega)];simp(disch:=omega)only[Be,Bf,Jd,J1,HJ e2,wc,hj2,wj];exact ih
  ·rw[Gs _ _ _ (by omega)];by_cases h7:j=7
   ·subst h7;have e:Zy l i 7=(l.length:Int) % 256:=by unfold Zy;rw[B3 c1,Cr rfl]
    have e8:wrap .u8 (l.length:Int)=Zy l i 7:=by
     rw[e];simp only[wrap,IntKind.signed,IntKind.bits];simp
    rw[Ov,Cr (by omega),e8,wc,hj2,wj];exact ih
   ·have e:Zy l i j=0:=by unfold Zy;rw[B3 c1,B3 h7]
    rw[e] at hj2;rw[Ov,B3 (by omega),hj2,wj];exact ih
theorem XL{a0 a1:Int}{n:Nat}{c:Ae}{l:Al}(hb:Cz l)(hl:l.length<=1099511627776)(B2:100<=fu):∀(k i nn:Nat)(v:W4),i+k=l.length / 8->k+1<nn ->
  Ge fu (Ac (CX xs) prog fu (d+2)) a0 a1 n c nn l.length (Af .u8 l) ((8*i:Nat):Int) v.cells=some ⟨[Ag (Ao4 (Ao6 (Xh (WR k v (l.drop (8*i))) (Qt l))))],[]⟩
 |_,_,0,_,_,h=>by omega
 |k,i,nn+1,v,hi,hn=>by
  have step:=Alb (xs:=xs) (fu:=fu) (d:=d) (a0:=a0) (a1:=a1) (n:=n) (m0:=nn) (c:=c) hb hl (i:=8*i) (by omega) v 8 fu (by omega) (by omega);have e0:Wr ((pc l (8*i)).drop 8)=0:=by rw[List.drop_of_length_le (by simp[pc])];rfl
  rw[e0] at step;rw[P8,GX _ _ _ (by omega)];refine step.trans ?_;cases k with
  |zero=>
   have e:i=l.length / 8:=by omega
   subst e;rw[Ay5];generalize hv:Xh v (Qt l)=u;obtain⟨nn',rfl⟩:∃nn',nn=nn'+1:=⟨nn-1,by omega⟩
   have r1:=Rw (xs:=xs) (fu:=fu) (d:=d) ⟨u.a,u.b,Ew .u64 u.c 255,u.d⟩;have r2:=Rw (xs:=xs) (fu:=fu) (d:=d) (VS ⟨u.a,u.b,Ew .u64 u.c 255,u.d⟩);have r3:=Rw (xs:=xs) (fu:=fu) (d:=d) (VS (VS ⟨u.a,u.b,Ew .u64 u.c 255,u.d⟩));have r4:=Rw (xs:=xs) (fu:=fu) (d:=d) (VS (VS (VS ⟨u.a,u.b,Ew .u64 u.c 255,u.d⟩)))
   have eF:Ao4 (Ao6 (Xh (WR 0 v (l.drop (8*(l.length / 8)))) (Qt l)))=Ao4 (VS (VS (VS (VS ⟨u.a,u.b,Ew .u64 u.c 255,u.d⟩)))):=by
    rw[WR,hv];rfl
   rw[eF];clear eF;generalize VS ⟨u.a,u.b,Ew .u64 u.c 255,u.d⟩=U1 at r1 r2 r3 r4 ⊢;generalize VS U1=U2 at r2 r3 r4 ⊢;generalize VS U2=U3 at r3 r4 ⊢;generalize VS U3=U4 at r4 ⊢;simp only[W4.cells] at r1 r2 r3 r4;rw[P8,Gs _ _ _ (by omega)];simp only[W4.cells,List.getD_cons_zero,List.getD_cons_succ,RO,Gf];simp (disch:=first|omega|(simp;done)) only[Be,Bf,B6,List.take_succ_cons,List.take_zero,List.drop_succ_cons,Me,List.drop_nil,Zzp,VW,List.append_nil,Tm,WG,List.getD_cons_zero,List.getD_cons_succ,r1,r2,r3,r4,Ie,Nat.reduceAdd,Nat.reduceLeDiff,List.append_eq]
   rfl
  |succ k=>
   have ih:=XL (a0:=a0) (a1:=a1) (n:=n) (c:=c) hb hl B2 k (i+1) nn (Xh v (Wr (pc l (8*i)))) (by omega) (by omega);rw[show 8*i+8=8*(i+1) by omega,ih,Azh (by omega)];simp only[WR,List.drop_drop];rw[show 8*(i+1)=8*i+8 by omega]
theorem Akf{l:Al}(hb:Cz l)(hl:l.length<=1099511627776)(B2:100<=fu)(hf:l.length<fu)(k0 k1:Int):Ac (CX xs) prog fu (d+3) 105 [Ag k0,Ag k1,.lst false 1 l.length (Af .u8 l)]=some ⟨[Ag (Azc k0 k1 l)],[]⟩:=by rw[KK];exact XL (xs:=xs) (fu:=fu) (d:=d) (a0:=k0) (a1:=k1) (n:=l.length) (c:=Af .u8 l) hb hl B2 (l.length / 8) 0 fu (A59 k0 k1) (by omega) (by omega)
theorem JJ{l:Al}(hb:Cz l)(hl:l.length<=1099511627776)(B2:100<=fu)(hf:l.length<fu)(dom:Int):Ac (CX xs) prog fu (d+4) 69 [Ar dom,.lst false 1 l.length (Af .u8 l)]=some ⟨[Ag (E3 dom l)],[]⟩:=by rw[GP];have s:=Akf (xs:=xs) (fu:=fu) (d:=d) hb hl B2 hf (wrap .u64 dom) 0;simp only[Be,Bf,s];rfl
theorem Ako{l:Al}(hb:Cz l)(hl:l.length<=1099511627776)(B2:100<=fu)(hf:l.length<fu)(key dom:Int):Ac (CX xs) prog fu (d+4) 63 [Ag key,Ar dom,.lst false 1 l.length (Af .u8 l)]=some ⟨[Ag (Axp key dom l)],[]⟩:=by rw[IY];have s:=Akf (xs:=xs) (fu:=fu) (d:=d) hb hl B2 hf key (wrap .u64 (1+wrap .u64 dom));simp only[Be,Bf,s];rfl
end
end
end Go.Proofs.YtohcncipgljdkaaGreatDoor.Pv
