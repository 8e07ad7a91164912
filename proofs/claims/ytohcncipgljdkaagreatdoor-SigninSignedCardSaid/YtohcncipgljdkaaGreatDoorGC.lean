/-
  The proof of SigninSigned, part 3.
-/
import Derived.Test.YtohcncipgljdkaaGreatDoorGB
import Derived.StillTail
import Derived.WalkKit
import Derived.ProofKit
import Derived.OpenShut
import Derived.ShutString
import Derived.ChangeOld
import Derived.Below
import Derived.Deep.Slices
import Derived.ChangeSame
import Derived.WideKeyArgs
import Derived.Carry
import Derived.Test.YtohcncipgljdkaaGreatDoorRows
set_option linter.unusedSimpArgs false
set_option linter.unusedVariables false
namespace Go.Proofs.YtohcncipgljdkaaGreatDoor.Pv
open Go.IntKind (wrap)
open Go.Proofs.Tryz (prog)
set_option maxRecDepth 1000000
noncomputable section
section
section
variable {R R':Type}{Rel:Option R->Option R'->Prop}
theorem K4(hn:Rel none none){k:IntKind}{p:PV}{K:Int->Option R}{K':Int->Option R'}(hK:∀n,Rel (K n) (K' n)):Rel (Bk k p K) (Bk k p K'):=by
 unfold Bk;split
 ·split<;>first|exact hK _|exact hn
 ·exact hn
theorem Fa(hn:Rel none none){p:PV}{K:IntKind->Int->Option R}{K':IntKind->Int->Option R'}(hK:∀k n,Rel (K k n) (K' k n)):Rel (Ev p K) (Ev p K'):=by unfold Ev;split<;>first|exact hK _ _|exact hn
theorem I9(hn:Rel none none){p:PV}{K:Bool->Option R}{K':Bool->Option R'}(hK:∀n,Rel (K n) (K' n)):Rel (Bn p K) (Bn p K'):=by unfold Bn;split<;>first|exact hK _|exact hn
theorem Hg(hn:Rel none none){p:PV}{K:ByteArray->Option R}{K':ByteArray->Option R'}(hK:∀n,Rel (K n) (K' n)):Rel (Bi p K) (Bi p K'):=by unfold Bi;split<;>first|exact hK _|exact hn
theorem Hh(hn:Rel none none){es:Nat}{p:PV}{K:Bool->Nat->Ae->Option R}{K':Bool->Nat->Ae->Option R'}(hK:∀z n c,Rel (K z n c) (K' z n c)):Rel (Xs es p K) (Xs es p K'):=by
 unfold Xs;split
 ·rename_i es' _ _;cases Nat.beq es' es
  ·exact hn
  ·exact hK _ _ _
 ·exact hK _ _ _
 ·exact hn
theorem Ayd(hn:Rel none none){es:Nat}{p:PV}{K:PV->Option R}{K':PV->Option R'}(hK:∀p,Rel (K p) (K' p)):Rel (fsK es p K) (fsK es p K'):=by
 unfold fsK;split
 ·rename_i es' _ _;cases Nat.beq es' es
  ·exact hn
  ·exact hK _
 ·exact Hh hn fun _ _ _=>hK _
theorem Alm(hn:Rel none none){es:Nat}{p:PV}{K:Nat->Ae->Option R}{K':Nat->Ae->Option R'}(hK:∀n c,Rel (K n c) (K' n c)):Rel (Lh es p K) (Lh es p K'):=by
 unfold Lh;split
 ·rename_i es' _ _;cases Nat.beq es' es
  ·exact hn
  ·exact hK _ _
 ·exact hn
theorem Bc(hn:Rel none none){b:Bool}{K:Option R}{K':Option R'}(hK:b=true->Rel K K'):Rel (Ar b K) (Ar b K'):=by
 cases b
 ·exact hn
 ·exact hK rfl
theorem RM{b:Bool}{x y:Option R}{x' y':Option R'}(hx:Rel x x')(hy:Rel y y'):Rel (Ax b x y) (Ax b x' y'):=by
 cases b
 ·exact hy
 ·exact hx
theorem Eg(hn:Rel none none){α:Type}{o:Option α}{K:α->Option R}{K':α->Option R'}(hK:∀a,o=some a->Rel (K a) (K' a)):Rel (Ea o K) (Ea o K'):=by
 cases o
 ·exact hn
 ·exact hK _ rfl
theorem B6(hn:Rel none none){α:Type}{l:List α}{K:α->List α->Option R}{K':α->List α->Option R'}(hK:∀a r,l=a::r->Rel (K a r) (K' a r)):Rel (Ad l K) (Ad l K'):=by
 cases l
 ·exact hn
 ·exact hK _ _ rfl
theorem Gz(hn:Rel none none){α:Type}{l:List α}{K:Option R}{K':Option R'}(hK:Rel K K'):Rel (Ak l K) (Ak l K'):=by
 cases l
 ·exact hK
 ·exact hn
theorem Ni(hn:Rel none none){p:PV}{K:Ae->Option R}{K':Ae->Option R'}(hK:∀c,p=.agg c->Rel (K c) (K' c)):Rel (Eo p K) (Eo p K'):=by
 unfold Eo;split
 ·exact hK _ rfl
 ·exact hn
theorem Aps(hn:Rel none none){p:PV}{K:Ae->Option R}{K':Ae->Option R'}(hK:∀c,Rel (K c) (K' c)):Rel (AN p K) (AN p K'):=by
 unfold AN;split
 ·exact hK _
 ·exact hn
theorem YL(hn:Rel none none){r:Option Bq}{K:Ae->List Ae->Option R}{K':Ae->List Ae->Option R'}(hK:∀v o,Rel (K v o) (K' v o)):Rel (Aw r K) (Aw r K'):=by
 unfold Aw;split
 ·exact hK _ _
 ·exact hn
theorem Alw(hn:Rel none none){p:PV}{K:Value->Option R}{K':Value->Option R'}(hK:∀v,Rel (K v) (K' v)):Rel (fnK p K) (fnK p K'):=by
 unfold fnK;split
 ·exact hK _
 ·exact hK _
 ·exact hn
theorem A1d(hn:Rel none none){p:PV}{K:FuncId->Option R}{K':FuncId->Option R'}(hK:∀v,Rel (K v) (K' v)):Rel (fvK p K) (fvK p K'):=by
 unfold fvK;split
 ·rename_i f a b;cases (a.isEmpty&&b.isEmpty)
  ·exact hn
  ·exact hK _
 ·exact hn
theorem Va(hn:Rel none none){t:CT}{p:PV}{K:PV->Option R}{K':PV->Option R'}(hK:∀p,Rel (K p) (K' p)):Rel (NQ t p K) (NQ t p K'):=by
 unfold NQ;split
 ·exact K4 hn fun _=>hK _
 ·exact I9 hn fun _=>hK _
 ·exact Hg hn fun _=>hK _
 ·exact Hh hn fun _ _ _=>hK _
 ·exact Alw hn fun _=>hK _
theorem Azi(hn:Rel none none){t:CT}{p:PV}{K:PV->Option R}{K':PV->Option R'}(hK:∀p,Rel (K p) (K' p)):Rel (fcK t p K) (fcK t p K'):=by
 unfold fcK;split
 ·exact Ayd hn hK
 ·exact Va hn hK
theorem Wu(hn:Rel none none):∀{ts:List CT}{cells:Ae}{off:Nat}{K:Ae->Option R}{K':Ae->Option R'},(∀c,Rel (K c) (K' c))->Rel (Zz ts cells off K) (Zz ts cells off K')
 |[],_,_,_,_,hK=>hK _
 |_::_,_,_,_,_,hK=>Va hn fun _=>Wu hn fun _=>hK _
theorem Sl(hn:Rel none none):∀{ts:List CT}{cells:Ae}{off:Nat}{K:Ae->Option R}{K':Ae->Option R'},(∀c,Rel (K c) (K' c))->Rel (Ub ts cells off K) (Ub ts cells off K')
 |[],_,_,_,_,hK=>hK _
 |_::_,_,_,_,_,hK=>Azi hn fun _=>Sl hn fun _=>hK _
theorem JK(hn:Rel none none){g:Bool}{cells:Ae}{K:PV->Option R}{K':PV->Option R'}(hK:∀p,Rel (K p) (K' p)):Rel (mkV g cells K) (mkV g cells K'):=by
 cases g
 ·exact B6 hn fun _ _ _=>Gz hn (hK _)
 ·exact hK _
theorem Amd(hn:Rel none none){P:Program}{t:TypeId}{v:Value}{K:PV->Option R}{K':PV->Option R'}(hK:∀p,Cb p=[]->Rel (K p) (K' p))(hK':∀c,Rel (K (.agg c)) (K' (.agg c))):Rel (cvK P t v K) (cvK P t v K'):=by
 unfold cvK;split
 ·exact Bc hn fun _=>Wu hn fun _=>hK' _
 ·split
  ·exact hK _ rfl
  ·exact hn
 ·exact hK _ rfl
theorem Asy(hn:Rel none none){op:BinOp}{x y:Int}{K:Bool->Option R}{K':Bool->Option R'}(hK:∀n,Rel (K n) (K' n)):Rel (Ax3 op x y K) (Ax3 op x y K'):=by unfold Ax3;split<;>first|exact hK _|exact hn
theorem Ak7(hn:Rel none none){op:BinOp}{k:IntKind}{x y:Int}{K:PV->Option R}{K':PV->Option R'}(hK:∀n,Rel (K n) (K' n)):Rel (VV op k x y K) (VV op k x y K'):=by unfold VV;split<;>first|exact hK _|exact Bc hn fun _=>hK _|exact Asy hn fun _=>hK _
theorem Ai4(hn:Rel none none){op:BinOp}{x y:ByteArray}{K:PV->Option R}{K':PV->Option R'}(hK:∀n,Rel (K n) (K' n)):Rel (TL op x y K) (TL op x y K'):=by unfold TL;split<;>first|exact hK _|exact Bc hn fun _=>hK _|exact hn
theorem YF(hn:Rel none none){e:Bool}{p:PV}{K:PV->Option R}{K':PV->Option R'}(hK:∀n,Rel (K n) (K' n)):Rel (SZ e p K) (SZ e p K'):=by unfold SZ;split<;>first|exact hK _|exact RM (hK _) (RM (hK _) (hK _))|exact RM (hK _) (hK _)|exact hn
theorem Afn(hn:Rel none none):∀{ts:List CT}{ps qs:Ae}{K:Bool->Option R}{K':Bool->Option R'},(∀b,Rel (K b) (K' b))->Rel (Qf ts ps qs K) (Qf ts ps qs K'):=by
 intro ts
 induction ts with
 |nil=>
  intro ps qs K K' hK;cases ps<;>cases qs<;>first|exact hK _|exact hn
 |cons t ts ih=>
  intro ps qs K K' hK;cases ps with
  |nil=>cases t<;>cases qs<;>exact hn
  |cons p ps=>
   cases qs with
   |nil=>cases t<;>exact hn
   |cons q qs=>
    cases t
    ·exact K4 hn fun _=>K4 hn fun _=>ih fun _=>hK _
    ·exact I9 hn fun _=>I9 hn fun _=>ih fun _=>hK _
    ·exact Hg hn fun _=>Hg hn fun _=>ih fun _=>hK _
    ·exact hn
    ·exact hn
theorem Ath(hn:Rel none none){P:Program}{op:BinOp}{t:TypeId}{x y:PV}{K:PV->Option R}{K':PV->Option R'}(hK:∀p,Rel (K p) (K' p)):Rel (As1 P op t x y K) (As1 P op t x y K'):=by
 unfold As1;split
 ·split
  ·exact K4 hn fun _=>Fa hn fun _ _=>Bc hn fun _=>hK _
  ·exact K4 hn fun _=>Fa hn fun _ _=>Bc hn fun _=>hK _
  ·exact K4 hn fun _=>K4 hn fun _=>Ak7 hn hK
 ·exact Hg hn fun _=>Hg hn fun _=>Ai4 hn hK
 ·split
  ·exact I9 hn fun _=>I9 hn fun _=>hK _
  ·exact I9 hn fun _=>I9 hn fun _=>hK _
  ·exact hn
 ·split
  ·exact YF hn fun _=>hK _
  ·exact YF hn fun _=>hK _
  ·exact hn
 ·split
  ·exact hK _
  ·exact hK _
  ·exact hn
 ·exact hn
theorem Aft(hn:Rel none none){P:Program}{op:BinOp}{t:TypeId}{x y:PV}{K:PV->Option R}{K':PV->Option R'}(hK:∀p,Rel (K p) (K' p)):Rel (DG P op t x y K) (DG P op t x y K'):=by
 unfold DG;split
 ·split
  ·exact Bc hn fun _=>Ni hn fun _ _=>Ni hn fun _ _=>Afn hn fun _=>hK _
  ·exact Bc hn fun _=>Ni hn fun _ _=>Ni hn fun _ _=>Afn hn fun _=>hK _
  ·exact hn
 ·exact Ath hn hK
theorem Ay2(hn:Rel none none){op:UnOp}{x:PV}{K:PV->Option R}{K':PV->Option R'}(hK:∀p,Rel (K p) (K' p)):Rel (unK op x K) (unK op x K'):=by unfold unK;split<;>first|exact I9 hn fun _=>hK _|exact Fa hn fun _ _=>hK _|exact hn
theorem E8(hn:Rel none none){p:Option PV}{d:Nat}{K:Nat->Option R}{K':Nat->Option R'}(hK:∀n,Rel (K n) (K' n)):Rel (Jb p d K) (Jb p d K'):=by
 unfold Jb;split
 ·exact hK _
 ·exact Fa hn fun _ _=>Bc hn fun _=>hK _
theorem MF(hn:Rel none none){x:PV}{d:Nat}{K:PV->Option R}{K':PV->Option R'}(hK:∀n,Rel (K n) (K' n)):Rel (CM x d K) (CM x d K'):=by unfold CM;split<;>first|exact hK _|exact hn
theorem US(hn:Rel none none){P:Program}{t:TypeId}{x:PV}{i:Int}{K:PV->Option R}{K':PV->Option R'}(hK:∀p,Rel (K p) (K' p)):Rel (Ov P t x i K) (Ov P t x i K'):=by
 unfold Ov;split
 ·exact Bc hn fun _=>Bc hn fun _=>MF hn hK
 ·refine Bc hn fun _=>?_;split
  ·exact Bc hn fun _=>Bc hn fun _=>hK _
  ·exact Hh hn fun _ _ _=>Bc hn fun _=>hK _
 ·exact hn
theorem NV(hn:Rel none none){I2:Nat->Option (Nat × Nat)}:∀{ps:List (Nat × PV)} {cells:Ae}{K:Ae->Option R}{K':Ae->Option R'},(∀c,Rel (K c) (K' c))->Rel (CH I2 ps cells K) (CH I2 ps cells K')
 |[],_,_,_,hK=>hK _
 |(_,_)::_,_,_,_,hK=>Eg hn fun _ _=>Bc hn fun _=>NV hn hK
theorem BL(hn:Rel none none){P:Program}{t:TypeId}{K:Ae->Option R}{K':Ae->Option R'}(hK:∀p,Rel (K p) (K' p)):Rel (Jl P t K) (Jl P t K'):=
 Eg hn fun _ _=>Bc hn fun _=>Wu hn hK
theorem Atu(hn:Rel none none){x y:PV}{K:PV->Option R}{K':PV->Option R'}(hK:∀p,Rel (K p) (K' p)):Rel (A05 x y K) (A05 x y K'):=
 Fa hn fun _ _=>K4 hn fun _=>hK _
theorem Ash(hn:Rel none none){x y:PV}{K:PV->Option R}{K':PV->Option R'}(hK:∀p,Rel (K p) (K' p)):Rel (Azv x y K) (Azv x y K'):=
 Fa hn fun _ _=>K4 hn fun _=>hK _
theorem Avz(hn:Rel none none){P:Program}{t:TypeId}{x:PV}{K:Nat->Option R}{K':Nat->Option R'}(hK:∀p,Rel (K p) (K' p)):Rel (Aoe P t x K) (Aoe P t x K'):=by
 unfold Aoe;split
 ·exact Hg hn fun _=>hK _
 ·exact hK _
 ·split
  ·exact Bc hn fun _=>hK _
  ·exact Hh hn fun _ _ _=>hK _
 ·exact hn
def Agr(Rel:Option R->Option R'->Prop)(f f':Nat->Option Ae)(l:B7):Prop:=∀i∈l,f i=f' i\/(f i=none/\∀b,Rel none b)
variable {f f':Nat->Option Ae}
theorem Agr.sub{l l':B7}(h:Agr Rel f f' l)(hs:∀i∈l',i∈l):Agr Rel f f' l':=fun i hi=>h i (hs i hi)
theorem JF(hn:Rel none none){l:B7}{id:Nat}(hf:Agr Rel f f' l)(hi:id∈l){K:Ae->Option R}{K':Ae->Option R'}(hK:∀c,f id=some c->Rel (K c) (K' c)):Rel (Ea (f id) K) (Ea (f' id) K'):=by
 rcases hf id hi with h|⟨h,hb⟩
 ·rw[<-h];exact Eg hn hK
 ·rw[h];exact hb _
theorem V2(hn:Rel none none){es:Nat}{p:PV}{K:Nat->Ae->Option R}{K':Nat->Ae->Option R'}(hf:Agr Rel f f' (Ay p))(hK:∀n c,Rel (K n c) (K' n c)):Rel (Af4 f es p K) (Af4 f' es p K'):=by
 unfold Af4;split
 ·rename_i id es' off n;cases Nat.beq es' es
  ·exact hn
  ·exact JF hn hf (by simp[Ay]) fun _ _=>Bc hn fun _=>hK _ _
 ·exact Hh hn fun _ _ _=>hK _ _
theorem Awb(hn:Rel none none){t:CT}{p:PV}{K:PV->B7->Option R}{K':PV->B7->Option R'}(hf:Agr Rel f f' (Ay p))(hK:∀c m,(∀i∈m,f i≠none)->Rel (K c m) (K' c m)):Rel (Uf f t p K) (Uf f' t p K'):=by
 unfold Uf;split
 ·split
  ·rename_i id es' off n;cases Nat.beq es' _
   ·exact hn
   ·exact JF hn hf (by simp[Ay]) fun c hc=>Bc hn fun _=>hK _ _ (by simp[hc])
  ·exact Hh hn fun _ _ _=>hK _ _ (by simp)
 ·exact Va hn fun _=>hK _ _ (by simp)
theorem CV(hn:Rel none none):∀{ts:List CT}{ps:Ae}{K:Ae->B7->Option R}{K':Ae->B7->Option R'},Agr Rel f f' (ps.flatMap Ay)->(∀c m,(∀i∈m,f i≠none)->Rel (K c m) (K' c m))->Rel (Sq f ts ps K) (Sq f' ts ps K')
 |[],[],_,_,_,hK=>hK _ _ (by simp)
 |[],_::_,_,_,_,_=>hn
 |_::_,[],_,_,_,_=>hn
 |_::_,p::ps,_,_,hf,hK=>Awb hn (fun i hi=>hf i (by simp only[J4,B2];exact .inl hi)) fun _ m hm=>CV hn (fun i hi=>hf i (by simp only[J4,B2];exact .inr hi)) fun _ ms VA=>hK _ _ fun i hi=>by
   rcases B2.1 hi with h|h
   ·exact hm i h
   ·exact VA i h
theorem Avo(hn:Rel none none){P:Program}{t:TypeId}{p:PV}{K:PV->B7->Option R}{K':PV->B7->Option R'}(hf:Agr Rel f f' (Co p))(hK:∀c m,(∀i∈m,f i≠none)->Rel (K c m) (K' c m)):Rel (Aj5 P f t p K) (Aj5 P f' t p K'):=by
 unfold Aj5
 have h1:∀i,i∈[p].flatMap Ay->i∈Co p:=by
  intro i hi;simp only[J4,List.flatMap_nil,List.append_nil] at hi;cases p<;>first|exact hi|simp[Ay] at hi
 cases Cw P t
 ·exact CV hn (fun i hi=>hf i (h1 i hi)) fun _ _ hm=>B6 hn fun _ _ _=>Gz hn (hK _ _ hm)
 ·refine Ni hn fun c hc=>?_;subst hc;exact CV hn (fun i hi=>hf i hi) fun _ _ hm=>hK _ _ hm
theorem Aak(hn:Rel none none){P:Program}:∀{ts:List TypeId}{ps:Ae}{K:Ae->B7->Option R}{K':Ae->B7->Option R'},Agr Rel f f' (ps.flatMap Co)->(∀c m,(∀i∈m,f i≠none)->Rel (K c m) (K' c m))->Rel (TW P f ts ps K) (TW P f' ts ps K')
 |[],[],_,_,_,hK=>hK _ _ (by simp)
 |[],_::_,_,_,_,_=>hn
 |_::_,[],_,_,_,_=>hn
 |_::_,p::ps,_,_,hf,hK=>Avo hn (fun i hi=>hf i (by simp only[J4,B2];exact .inl hi)) fun _ m hm=>Aak hn (fun i hi=>hf i (by simp only[J4,B2];exact .inr hi)) fun _ ms VA=>hK _ _ fun i hi=>by
   rcases B2.1 hi with h|h
   ·exact hm i h
   ·exact VA i h
theorem Ak4(hn:Rel none none){P:Program}{t:TypeId}{x:PV}{lo hi:Option PV}{K:PV->Option R}{K':PV->Option R'}(hf:(∃n e,P.underlying t=some (.array n e))->Agr Rel f f' (Ay x))(hK:∀c,Rel (K c) (K' c)):Rel (MD P f t x lo hi K) (MD P f' t x lo hi K'):=by
 unfold MD;split
 ·exact Hg hn fun _=>E8 hn fun _=>E8 hn fun _=>Bc hn fun _=>hK _
 ·refine Bc hn fun _=>?_;split
  ·exact Bc hn fun _=>E8 hn fun _=>E8 hn fun _=>Bc hn fun _=>hK _
  ·exact Hh hn fun _ _ _=>E8 hn fun _=>E8 hn fun _=>Bc hn fun _=>hK _
 ·rename_i n e hu;refine Bc hn fun _=>?_;split
  ·rename_i id off;exact JF hn (hf ⟨_,_,hu⟩) (by simp[Ay]) fun _ _=>Bc hn fun _=>E8 hn fun _=>E8 hn fun _=>Bc hn fun _=>hK _
  ·exact hn
 ·exact hn
theorem Aer(hn:Rel none none){P:Program}{d:Nat}{t:TypeId}{x:PV}{lo hi mx:Option PV}{K:PV->List (Nat × Ca)->Option R}{K':PV->List (Nat × Ca)->Option R'}(hK:∀c,Rel (K c [(d,.ar false [])]) (K' c [(d,.ar false [])])):Rel (DC P d t x lo hi mx K) (DC P d t x lo hi mx K'):=by
 unfold DC;split
 ·refine Bc hn fun _=>?_;split
  ·exact Bc hn fun _=>E8 hn fun _=>E8 hn fun _=>E8 hn fun _=>Bc hn fun _=>hK _
  ·exact Hh hn fun _ _ _=>E8 hn fun _=>E8 hn fun _=>E8 hn fun _=>Bc hn fun _=>hK _
 ·exact hn
theorem Aas{nz:Bool}{g g':Nat->Option Ae}(hn:Rel none none){P:Program}{t:TypeId}{x:PV}{K:PV->Option R}{K':PV->Option R'}(hf:∀i∈Ay x,(f i=f' i/\g i=g' i)\/(f i=none/\g i=none/\∀b,Rel none b))(hK:∀c,Rel (K c) (K' c)):Rel (LF nz P f g t x K) (LF nz P f' g' t x K'):=by
 unfold LF;split
 ·rename_i id off;refine Bc hn fun _=>?_;rcases hf id (by simp[Ay]) with⟨h1,h2⟩|⟨h1,h2,h3⟩
  ·rw[<-h1,<-h2];split
   ·exact Wu hn fun _=>JK hn fun _=>hK _
   ·exact Eg hn fun _ _=>Sl hn fun _=>JK hn hK
  ·rw[h1,h2];exact h3 _
 ·exact Bc hn fun _=>Wu hn fun _=>JK hn fun _=>hK _
 ·exact hn
theorem Apc(hn:Rel none none){P:Program}{d:Nat}{src dst:TypeId}{x:PV}{K:PV->List (Nat × Ca)->Option R}{K':PV->List (Nat × Ca)->Option R'}(hf:P.underlying dst=some .string->Agr Rel f f' (Ay x))(hK:∀v b,(∀q∈b,q.1=d)->Rel (K v b) (K' v b)):Rel (RU P f d src dst x K) (RU P f' d src dst x K'):=by
 unfold RU;split
 ·exact Bc hn fun _=>Fa hn fun _ _=>hK _ _ (by simp)
 ·rename_i hds;split
  ·exact Hg hn fun _=>hK _ _ (by simp)
  ·split
   ·exact V2 hn (hf hds) fun _ _=>Bc hn fun _=>Eg hn fun _ _=>hK _ _ (by simp)
   ·exact V2 hn (hf hds) fun _ _=>Bc hn fun _=>Eg hn fun _ _=>hK _ _ (by simp)
   ·exact hn
  ·exact hn
 ·split
  ·exact Hg hn fun _=>Bc hn fun _=>hK _ _ (by simp)
  ·exact hn
 ·exact hn
theorem Auj(hn:Rel none none){shr:Bool}{id:Nat}{t:CT}{p:PV}{K:PV->List (Nat × Ca)->Option R}{K':PV->List (Nat × Ca)->Option R'}(hK:∀c b,(∀q∈b,q.1=id)->Rel (K c b) (K' c b)):Rel (Ave shr id t p K) (Ave shr id t p K'):=by
 unfold Ave;split
 ·cases shr
  ·exact Alm hn fun _ _=>hK _ _ (by simp)
  ·exact Hh hn fun _ _ _=>hK _ _ (by simp)
 ·exact Va hn fun _=>hK _ _ (by simp)
theorem DT(hn:Rel none none){shr:Bool}{N:Nat}:∀{ts:List CT}{id:Nat}{ps:Ae}{K:Ae->List (Nat × Ca)->Option R} {K':Ae->List (Nat × Ca)->Option R'},(∀c b,(∀q∈b,∃j,q.1=id+N*j)->Rel (K c b) (K' c b))->Rel (Xc shr N id ts ps K) (Xc shr N id ts ps K')
 |[],_,_,_,_,hK=>Gz hn (hK _ _ (by simp))
 |_::_,id,_,_,_,hK=>B6 hn fun _ _ _=>Auj hn fun _ b hb=>DT hn fun _ bs PZ=>hK _ _ fun q hq=>by
   rcases B2.1 hq with h|h
   ·exact⟨0,by rw[hb q h];simp⟩
   ·obtain⟨j,hj⟩:=PZ q h;exact⟨j+1,by rw[hj,Nat.mul_add];omega⟩
theorem Auw(hn:Rel none none){P:Program}{shr:Bool}{N id:Nat}{t:TypeId}{p:PV}{K:PV->List (Nat × Ca)->Option R}{K':PV->List (Nat × Ca)->Option R'}(hK:∀c b,(∀q∈b,∃j,q.1=id+N*j)->Rel (K c b) (K' c b)):Rel (Ao8 P shr N id t p K) (Ao8 P shr N id t p K'):=by
 unfold Ao8;split
 ·refine Aps hn fun ps=>DT hn fun _ _ hb=>hK _ _ fun q hq=>?_;rcases Ce.1 hq with rfl|hq
  ·exact⟨0,by simp⟩
  ·obtain⟨j,hj⟩:=hb q hq;exact⟨j+1,by rw[hj,Nat.mul_add];omega⟩
 cases Cw P t
 ·exact DT hn fun _ _ hb=>B6 hn fun _ _ _=>Gz hn (hK _ _ hb)
 ·exact Ni hn fun _ _=>DT hn fun _ _ hb=>hK _ _ hb
theorem NN(hn:Rel none none){P:Program}{shr:Bool}{N:Nat}:∀{ts:List TypeId}{id:Nat}{ps:Ae}{K:Ae->List (Nat × Ca)->Option R} {K':Ae->List (Nat × Ca)->Option R'},(∀c b,(∀q∈b,∃j,q.1=id+N*j)->Rel (K c b) (K' c b))->Rel (OQ P shr N id ts ps K) (OQ P shr N id ts ps K')
 |[],_,_,_,_,hK=>Gz hn (hK _ _ (by simp))
 |t::_,id,_,_,_,hK=>B6 hn fun _ _ _=>Auw hn fun _ b hb=>NN hn fun _ bs PZ=>hK _ _ fun q hq=>by
   rcases B2.1 hq with h|h
   ·exact hb q h
   ·obtain⟨j,hj⟩:=PZ q h;exact⟨Ae5 P t+j,by rw[hj,Nat.mul_add];omega⟩
end
theorem BG{p:PV}{i:Nat}(h:i∈Ay p):i∈Co p:=by cases p<;>first|exact h|simp[Ay] at h
theorem Ho{p:PV}{i:Nat}(h:i∈Co p):i∈Cb p:=by cases p<;>first|exact h|simp[Co,Ay] at h
theorem O9{p:PV}{i:Nat}(h:i∈Ay p):i∈Cb p:=Ho (BG h)
section
variable {R R':Type}{Rel:Option R->Option R'->Prop}{P:Program}{N:Nat}{tm tm':Nat->PV}{f f' g g':Nat->Option Ae}{o:Oper}
theorem SY(hn:Rel none none){t:TypeId}{x:Operand}{K:PV->Option R}{K':PV->Option R'}(hx:Cu tm x=Cu tm' x)(hK:∀p,Rel (K p) (K' p)):Rel (NJ P t tm x K) (NJ P t tm' x K'):=by
 unfold NJ;split
 ·exact Amd hn (fun _ _=>hK _) (fun _=>hK _)
 ·rw[hx];exact hK _
theorem Avu(hn:Rel none none){t:CT}{p:PV}{K:PV->Option R}{K':PV->Option R'}(hK:∀p,Ay p=[]->Rel (K p) (K' p)):Rel (NQ t p K) (NQ t p K'):=by
 unfold NQ;split
 ·exact K4 hn fun _=>hK _ rfl
 ·exact I9 hn fun _=>hK _ rfl
 ·exact Hg hn fun _=>hK _ rfl
 ·exact Hh hn fun _ _ _=>hK _ rfl
 ·exact Alw hn fun _=>hK _ rfl
theorem Aaz(hn:Rel none none):∀{ts:List CT}{cells:Ae}{off:Nat}{K:Ae->Option R}{K':Ae->Option R'},(∀c,(∀p∈c,Ay p=[])->Rel (K c) (K' c))->Rel (Zz ts cells off K) (Zz ts cells off K')
 |[],_,_,_,_,hK=>hK _ (by simp)
 |_::_,_,_,_,_,hK=>Avu hn fun c hc=>Aaz hn fun cs Z5=>hK _ (by
   intro p hp;rcases Ce.1 hp with h|h
   ·rw[h];exact hc
   ·exact Z5 p h)
theorem IU(hn:Rel none none){t:TypeId}{K:Ae->Option R}{K':Ae->Option R'}(hK:∀c,(∀p∈c,Ay p=[])->Rel (K c) (K' c)):Rel (Jl P t K) (Jl P t K'):=
 Eg hn fun _ _=>Bc hn fun _=>Aaz hn hK
theorem CQ{p c:PV}(h:c∈cellsOf p){i:Nat}(hi:i∈Ay c):i∈Co p:=by
 unfold cellsOf at h;split at h
 ·exact List.mem_flatMap.2 ⟨c,h,hi⟩
 ·simp at h;subst h;exact BG hi
theorem Akm{cells new:Ae}{off:Nat}{c:PV}(h:c∈B3 cells new off):c∈cells\/c∈new:=by
 unfold B3 at h;rcases B2.1 h with h|h
 ·rcases B2.1 h with h|h
  ·exact .inl (List.mem_of_mem_take h)
  ·exact .inr h
 ·exact .inl (List.mem_of_mem_drop h)
theorem SE(hn:Rel none none){I2:Nat->Option (Nat × Nat)}{S:Nat->Prop}:∀{ps:List (Nat × PV)} {cells:Ae}{K:Ae->Option R}{K':Ae->Option R'},(∀c∈cells,∀i∈Ay c,S i)->(∀q∈ps,∀i∈Co q.2,S i) ->
  (∀cs,(∀c∈cs,∀i∈Ay c,S i)->Rel (K cs) (K' cs))->Rel (CH I2 ps cells K) (CH I2 ps cells K')
 |[],_,_,_,h1,_,hK=>hK _ h1
 |(_,p)::_,_,_,_,h1,h2,hK=>Eg hn fun _ _=>Bc hn fun _=>SE hn (fun c hc i hi=>by
   rcases Akm hc with h|h
   ·exact h1 c h i hi
   ·exact h2 (_,p) HS i (CQ h hi)) (fun q hq=>h2 q (Tu _ hq)) hK
theorem PS(hn:Rel none none):∀{ts:List CT}{ps:Ae}{K:Ae->B7->Option R}{K':Ae->B7->Option R'},(∀t∈ts,∀es,t ≠ .sl es)->(∀c,Rel (K c []) (K' c []))->Rel (Sq g ts ps K) (Sq g' ts ps K')
 |[],[],_,_,_,hK=>hK _
 |[],_::_,_,_,_,_=>hn
 |_::_,[],_,_,_,_=>hn
 |t::ts,p::ps,K,K',ht,hK=>by
  show Rel (Uf g t p _) (Uf g' t p _)
  have:∀{g:Nat->Option Ae} {S:Type} {L:PV->B7->Option S},Uf g t p L=NQ t p fun c=>L c []:=by
   intro g S L;cases t with
   |sl es=>exact absurd rfl (ht _ (by simp) es)
   |_=>rfl
  rw[this,this];exact Va hn fun c=>PS hn (fun t h=>ht t (by simp[h])) fun cs=>hK _
theorem Av0(hn:Rel none none){es:Nat}{t:TypeId}{x:PV}{K:Nat->Ae->Option R}{K':Nat->Ae->Option R'}(hx:Agr Rel g g' (Ay x))(hK:∀m c,Rel (K m c) (K' m c)):Rel (Ail P g es t x K) (Ail P g' es t x K'):=by
 unfold Ail;split
 ·exact Bc hn fun _=>Hg hn fun _=>hK _ _
 ·exact V2 hn hx hK
 ·exact hn
theorem Atq(hn:Rel none none){t:TypeId}{x:PV}{K:Nat->Option R}{K':Nat->Option R'}(hK:∀n,Rel (K n) (K' n)):Rel (Aoa P t x K) (Aoa P t x K'):=by
 unfold Aoa;split
 ·exact Hh hn fun _ _ _=>Bc hn fun _=>hK _
 ·exact hn
theorem Ahs(hn:Rel none none){d:Nat}{t tx:TypeId}{x:PV}{K:PV->List (Nat × Ca)->Option R}{K':PV->List (Nat × Ca)->Option R'}(hx:Agr Rel g g' (Ay x))(hK:∀v nw,Rel (K v nw) (K' v nw)):Rel (CY P g d t tx x K) (CY P g' d t tx x K'):=by
 unfold CY;split
 ·exact Bc hn fun _=>Av0 hn hx fun _ _=>Bc hn fun _=>hK _ _
 ·exact hn
theorem RY(hn:Rel none none){C:Iz}{call:Ap}{K:PV->B7->List (Nat × Ca)->Option R}{K':PV->B7->List (Nat × Ca)->Option R'}(Nm:∀x∈o.op.operands.toList,Cu tm x=Cu tm' x)(hfg:Kg P o.op=true->∀x∈o.op.operands.toList,∀i∈Cb (Cu tm' x),(f i=f' i/\g i=g' i)\/(f i=none/\g i=none/\∀b,Rel none b))(hK:∀v fz nw,(Kg P o.op=false->fz=[]/\∀q∈nw,o.dst=some q.1)->(∀i∈fz,g i≠none)->Rel (K v fz nw) (K' v fz nw)):
  Rel (TB C P N call tm f g o K) (TB C P N call tm' f' g' o K'):=by
 have h0:∀v,Rel (K v [] []) (K' v [] []):=fun v=>hK v [] [] (fun _=>⟨rfl,by simp⟩) (by simp);have hf:Kg P o.op=true->∀x∈o.op.operands.toList,Agr Rel f f' (Cb (Cu tm' x)):=fun h x hx i hi=>(hfg h x hx i hi).imp (·.1) fun h=>⟨h.1,h.2.2⟩;have hg:Kg P o.op=true->∀x∈o.op.operands.toList,Agr Rel g g' (Cb (Cu tm' x)):=fun h x hx i hi=>(hfg h x hx i hi).imp (·.2) fun h=>⟨h.2.1,h.2.2⟩;unfold TB;generalize hop:o.op=op at *
 split
 ·exact SY hn (Nm _ (by simp[Op.operands])) h0
 ·exact SY hn (Nm _ (by simp[Op.operands])) h0
 ·rename_i c x y;rw[Nm c (by simp[Op.operands]),Nm x (by simp[Op.operands]),Nm y (by simp[Op.operands])];exact I9 hn fun _=>RM (h0 _) (h0 _)
 ·exact Eg hn fun d hd=>BL hn fun _=>hK _ _ _ (fun _=>⟨rfl,by simp[hd]⟩) (by simp)
 ·rename_i t x;rw[Nm x (by simp[Op.operands])];refine Eg hn fun d hd=>Bc hn fun _=>?_;cases Xt P t
  ·exact Sl hn fun _=>hK _ _ _ (fun _=>⟨rfl,by simp[hd]⟩) (by simp)
  ·exact Wu hn fun _=>hK _ _ _ (fun _=>⟨rfl,by simp[hd]⟩) (by simp)
 ·rename_i t ps
  have:(ps.toList.map fun q=>(q.1,Cu tm q.2))=ps.toList.map fun q=>(q.1,Cu tm' q.2):=by
   apply List.map_congr_left;intro q hq;rw[Nm q.2 (by simp only[Op.operands];exact List.mem_map_of_mem hq)]
  rw[this];exact Bc hn fun _=>BL hn fun _=>NV hn fun _=>Sl hn fun _=>h0 _
 ·rename_i t n ps
  have:(ps.toList.map fun q=>(q.1,Cu tm q.2))=ps.toList.map fun q=>(q.1,Cu tm' q.2):=by
   apply List.map_congr_left;intro q hq;rw[Nm q.2 (by simp only[Op.operands];exact List.mem_map_of_mem hq)]
  rw[this];refine Eg hn fun d hd=>?_;split
  ·rename_i e hu;cases ZO:M8 P [e]
   ·refine Bc hn fun _=>IU hn fun z hz=>NV hn fun cs=>PS hn ?_ fun cs'=>hK _ _ _ (fun _=>⟨rfl,by simp[hd]⟩) (by simp);intro c hc es he;obtain⟨l,hl,hc⟩:=List.mem_flatten.1 hc;rw[List.eq_of_mem_replicate hl] at hc;subst he
    have:M8 P [e]=true:=by
     unfold M8;simp only[List.any_cons,List.any_nil,Bool.or_false,Bool.or_eq_true];exact .inr (List.any_eq_true.2 ⟨_,hc,rfl⟩)
    rw[this] at ZO;cases ZO
   refine Bc hn fun _=>IU hn fun z hz=>SE (S:=fun i=>∃x∈(Op.buildSlice t n ps).operands.toList,i∈Cb (Cu tm' x)) hn ?_ ?_ fun cs Z5=>?_
   ·intro c hc i hi;obtain⟨l,hl,hc⟩:=List.mem_flatten.1 hc;rw[List.eq_of_mem_replicate hl] at hc;rw[hz c hc] at hi;simp at hi
   ·intro q hq i hi;obtain⟨q',Hp,rfl⟩:=List.mem_map.1 hq;exact⟨q'.2,by simp only[Op.operands];exact List.mem_map_of_mem Hp,Ho hi⟩
   ·refine CV hn (fun i hi=>?_) fun cs' m hm=>hK _ _ _ (fun h=>by simp[Kg,hu,ZO] at h) hm;obtain⟨c,hc,hi⟩:=List.mem_flatMap.1 hi;obtain⟨x,hx,hxi⟩:=Z5 c hc i hi;exact hg (by simp[Kg,hu,ZO]) x hx i hxi
  ·exact hn
 ·rename_i t x;rw[Nm x (by simp[Op.operands])];exact Aas hn (fun i hi=>hfg (by simp[Kg]) x (by simp[Op.operands]) i (O9 hi)) h0
 ·rename_i x;rw[Nm x (by simp[Op.operands])];exact MF hn h0
 ·rename_i op' t x y _;rw[Nm x (by simp[Op.operands]),Nm y (by simp[Op.operands])];exact Aft hn h0
 ·rename_i op' t x;rw[Nm x (by simp[Op.operands])];exact Ay2 hn h0
 ·rename_i src dst x;rw[Nm x (by simp[Op.operands])];exact Apc hn (fun hds i hi=>hg (by simp[Kg,hds]) x (by simp[Op.operands]) i (O9 hi)) fun v b hb=>Eg hn fun d hd=>hK _ _ _ (fun _=>⟨rfl,fun q hq=>by rw[hd,hb q hq,hd];rfl⟩) (by simp)
 ·rename_i t x y;rw[Nm x (by simp[Op.operands]),Nm y (by simp[Op.operands])];refine Eg hn fun d hd=>?_;split
  ·exact Fa hn fun _ _=>Fa hn fun _ _=>Bc hn fun _=>BL hn fun _=>hK _ _ _ (fun _=>⟨rfl,by simp[hd]⟩) (by simp)
  ·exact hn
 ·rename_i t x lo hi mx;split
  ·rw[Nm x (by simp[Op.operands])]
   have h1:lo.map (Cu tm)=lo.map (Cu tm'):=by
    cases lo with
    |none=>rfl
    |some y=>simp only[Option.map_some];rw[Nm y (by simp[Op.operands])]
   have h2:hi.map (Cu tm)=hi.map (Cu tm'):=by
    cases hi with
    |none=>rfl
    |some y=>simp only[Option.map_some];rw[Nm y (by simp[Op.operands])]
   rw[h1,h2];exact Ak4 hn (fun ⟨n,e,he⟩ i hi=>hf (by simp[Kg,he]) x (by simp[Op.operands]) i (O9 hi)) h0
  ·rename_i m;rw[Nm x (by simp[Op.operands])]
   have h1:lo.map (Cu tm)=lo.map (Cu tm'):=by
    cases lo with
    |none=>rfl
    |some y=>simp only[Option.map_some];rw[Nm y (by simp[Op.operands])]
   have h2:hi.map (Cu tm)=hi.map (Cu tm'):=by
    cases hi with
    |none=>rfl
    |some y=>simp only[Option.map_some];rw[Nm y (by simp[Op.operands])]
   rw[h1,h2,Nm m (by simp[Op.operands])];exact Eg hn fun d hd=>Aer hn fun c=>hK _ _ _ (fun _=>⟨rfl,by simp[hd]⟩) (by simp)
 ·rename_i t x fl;rw[Nm x (by simp[Op.operands])];exact Eg hn fun _ _=>Bc hn fun _=>MF hn h0
 ·rename_i t x fl;rw[Nm x (by simp[Op.operands])];exact Eg hn fun _ _=>Bc hn fun _=>Ni hn fun _ _=>Sl hn fun _=>JK hn h0
 ·rename_i t x i;rw[Nm x (by simp[Op.operands]),Nm i (by simp[Op.operands])];exact Fa hn fun _ _=>US hn h0
 ·rename_i t x i;rw[Nm x (by simp[Op.operands]),Nm i (by simp[Op.operands])];refine Fa hn fun _ _=>?_;split
  ·exact Hg hn fun _=>Bc hn fun _=>Eg hn fun _ _=>h0 _
  ·exact Ni hn fun _ _=>Bc hn fun _=>Sl hn fun _=>JK hn h0
  ·exact hn
 ·rename_i t x k ok;rw[Nm x (by simp[Op.operands]),Nm k (by simp[Op.operands])];split
  ·refine Bc hn fun _=>?_;split
   ·exact Hg hn fun _=>Eg hn fun _ _=>Amd hn (fun _ _=>Bc hn fun _=>h0 _) (fun _=>Bc hn fun _=>h0 _)
   ·exact hn
  ·exact hn
 ·rename_i x i;rw[Nm x (by simp[Op.operands])];split
  ·exact Eg hn fun _ _=>h0 _
  ·exact hn
 ·rename_i c
  have Oj:∀x∈c.args.toList,x∈(Op.call c).operands.toList:=by
   intro x hx;simp only[Op.operands,Call.operands,Array.toList_append,B2];exact .inr hx
  have rc:∀fn,Kg P (.call c)=true->Rel (UU C P N call tm g o c fn K) (UU C P N call tm' g' o c fn K'):=by
   intro fn hmm;unfold UU;have:c.args.toList.map (Cu tm)=c.args.toList.map (Cu tm'):=List.map_congr_left fun x hx=>Nm x (Oj x hx);rw[this];refine Aak hn (fun i hi=>?_) fun vs m hm=>YL hn fun rv ro=>Gz hn (Bc hn fun _=>NN hn fun ws bs PZ=>Bc hn fun _=>hK _ _ _ (fun h=>by rw[hmm] at h;cases h) (fun i hi=>?_))
   ·obtain⟨p,hp,hi⟩:=List.mem_flatMap.1 hi;obtain⟨x,hx,rfl⟩:=List.mem_map.1 hp;exact hg hmm x (Oj x hx) i (Ho hi)
   ·have hi':i∈m:=by
     cases hq:M8 P (S9 P o.type)<;>rw[hq] at hi
     ·simp at hi
     ·exact hi
    exact hm i hi'
  split
  ·refine B6 hn fun x _ hx=>B6 hn fun _ _ _=>?_;rw[Nm x (Oj x (by rw[hx];simp))]
   exact Avz hn fun _=>h0 _
  ·refine B6 hn fun x _ hx=>B6 hn fun _ _ _=>?_;rw[Nm x (Oj x (by rw[hx];simp))]
   exact Atq hn fun _=>h0 _
  ·refine B6 hn fun x _ hx=>B6 hn fun y _ hy=>Gz hn ?_;subst hy;rw[Nm x (Oj x (by rw[hx];simp)),Nm y (Oj y (by rw[hx];simp))]
   exact Atu hn h0
  ·refine B6 hn fun x _ hx=>B6 hn fun y _ hy=>Gz hn ?_;subst hy;rw[Nm x (Oj x (by rw[hx];simp)),Nm y (Oj y (by rw[hx];simp))]
   exact Ash hn h0
  ·rename_i hc;have hmm:Kg P (.call c)=true:=by simp[Kg,hc]
   refine Bc hn fun _=>Eg hn fun d hd=>B6 hn fun _ _ hb=>B6 hn fun x _ hx=>Gz hn (B6 hn fun _ _ _=>B6 hn fun _ _ _=>?_);have hxm:x∈c.args.toList:=by rw[hb,hx];simp
   rw[Nm x (Oj x hxm)];exact Ahs hn (fun i hi=>hg hmm x (Oj x hxm) i (O9 hi)) fun v nw=>hK _ _ _ (fun h=>by rw[hmm] at h;cases h) (by simp)
  ·rename_i fn hc;have hmm:Kg P (.call c)=true:=by simp[Kg,hc]
   exact rc fn hmm
  ·rename_i t hc;have hmm:Kg P (.call c)=true:=by simp[Kg,hc]
   have ht:=Nm (.tmp t) (by simp[Op.operands,Call.operands,hc]);change tm t=tm' t at ht;rw[ht];exact A1d hn fun fn=>rc fn hmm
  ·exact hn
 ·exact hn
variable {hp:Nat->Option Ca}
end
open Go.RowKit
abbrev CK:=PV × B7 × List (Nat × Ca)
def Hw(ops:Array Oper)(o:Oper)(tm:Nat->PV):Option Bool:=
 match o.guard with
 |none=>some true
 |some (j,want)=>
  match (ops[j]?).bind (·.dst) with
  |none=>none
  |some d=>
   match tm d with
   |.sc (.bool b)=>some (b==want)
   |.sc (.tuple _)=>some false
   |_=>none
section
variable {R:Type}{r:R}{C:Iz}{P:Program}{N:Nat}{call:Ap}{ops:Array Oper}{o x:Oper}{s:St}{K:St->Option R}
theorem RJ:Er C P N call ops o s K=match Hw ops o s.tm with
  |none=>none
  |some true=>Ahv C P N call o s K
  |some false=>Ar (Io N o.dst) (K ⟨Cc s.tm o.dst (.sc undef),s.hp⟩):=by
 unfold Er Hw;cases o.guard with
 |none=>rfl
 |some q=>
  obtain⟨j,want⟩:=q;cases hd:(ops[j]?).bind (·.dst) with
  |none=>simp[hd]
  |some d=>
   simp only[hd];cases ht:s.tm d with
   |sc v=>
    cases v with
    |bool b=>
     cases b<;>cases want<;>simp only[Ax,cond_true,cond_false,LD s.tm ht]<;>rfl
    |_=>rfl
   |_=>rfl
def Apz(C:Iz)(P:Program)(N:Nat)(call:Ap)(o:Oper)(s:St):Option CK:=
 TB C P N call s.tm (rd s.hp) (M3 s.hp) o fun v fz nw=>some (v,fz,nw)
theorem A06{K:PV->B7->List (Nat × Ca)->Option R}:TB C P N call s.tm (rd s.hp) (M3 s.hp) o K=(Apz C P N call o s).bind fun q=>K q.1 q.2.1 q.2.2:=by refine RY (Rel:=fun (a:Option R) (b:Option CK)=>a=b.bind fun q=>K q.1 q.2.1 q.2.2) (K:=K) (K':=fun v fz nw=>some (v,fz,nw)) rfl (fun _ _=>rfl) (fun _ _ _ _ _=>.inl ⟨rfl,rfl⟩) fun v fz nw _ _=>rfl
theorem Aiu{q:CK}(h:Apz C P N call o s=some q):(Kg P o.op=false->q.2.1=[]/\∀p∈q.2.2,o.dst=some p.1)/\∀i∈q.2.1,M3 s.hp i≠none:=by
 have:=RY (C:=C) (P:=P) (N:=N) (call:=call) (o:=o) (tm:=s.tm) (tm':=s.tm) (f:=rd s.hp) (f':=rd s.hp) (g:=M3 s.hp) (g':=M3 s.hp)
  (Rel:=fun (a:Option CK)(_:Option CK)=>∀q,a=some q->(Kg P o.op=false->q.2.1=[]/\∀p∈q.2.2,o.dst=some p.1)/\∀i∈q.2.1,M3 s.hp i≠none)
  (K:=fun v fz nw=>some (v,fz,nw)) (K':=fun v fz nw=>some (v,fz,nw)) (fun _ h=>by cases h) (fun _ _=>rfl) (fun _ _ _ _ _=>.inl ⟨rfl,rfl⟩) (fun v fz nw h1 h2 q hq=>by cases hq;exact⟨h1,h2⟩)
 exact this q h
def gE(C:Iz)(P:Program)(N:Nat)(call:Ap)(ops:Array Oper)(o:Oper)(s:St):Option CK:=
 match Hw ops o s.tm with
 |none=>none
 |some true=>bif Y2 C P o.op then none else Apz C P N call o s
 |some false=>some (.sc undef,[],[])
def Jf(C:Iz)(P:Program)(ops:Array Oper)(o:Oper)(tm:Nat->PV):Bool:=Y2 C P o.op&&(Hw ops o tm==some true)
theorem Ow(h:Jf C P ops o s.tm=false):Er C P N call ops o s K=(gE C P N call ops o s).bind fun q=>NR N s o.dst q.1 q.2.1 q.2.2 K:=by
 rw[RJ];unfold gE;unfold Jf at h;cases hv:Hw ops o s.tm with
 |none=>rfl
 |some b=>
  rw[hv] at h;cases b with
  |false=>
   show Ar _ _=NR N s o.dst (.sc undef) [] [] K;unfold NR;have h1:Cn s.hp []=true:=rfl;have h2:A3 (Ah s.hp []) []=s.hp:=rfl;rw[h1,h2,Bool.and_true]
  |true=>
   have hm:Y2 C P o.op=false:=by simpa using h
   simp only[Ahv,hm,cond_false];exact A06
theorem Lo(h:Jf C P ops o s.tm=true):Er C P N call ops o s K=EC C P N call s o K:=by rw[RJ];unfold Jf at h;simp only[Fe,beq_iff_eq] at h;rw[h.2];simp only[Ahv,h.1,cond_true]
theorem Z9{q:CK}(h:gE C P N call ops o s=some q):(Kg P o.op=false->q.2.1=[]/\∀p∈q.2.2,o.dst=some p.1)/\∀i∈q.2.1,M3 s.hp i≠none:=by
 unfold gE at h;split at h
 ·cases h
 ·cases hm:Y2 C P o.op<;>rw[hm] at h
  ·exact Aiu h
  ·cases h
 ·cases h;exact⟨fun _=>⟨rfl,by simp⟩,by simp⟩
theorem G9{tm tm':Nat->PV}(h:∀t∈looks ops o,tm t=tm' t):∀y∈o.op.operands.toList,Cu tm y=Cu tm' y:=by
 intro y hy;cases y with
 |tmp t=>
  refine h t ?_;unfold looks Aso;refine B2.2 (.inl (List.mem_filterMap.2 ⟨.tmp t,hy,rfl⟩))
 |const v=>cases v<;>rfl
 |func f=>rfl
 |«global» g=>rfl
theorem Pm{tm tm':Nat->PV}(h:∀t∈looks ops o,tm t=tm' t):Hw ops o tm=Hw ops o tm':=by
 unfold Hw;cases hg:o.guard with
 |none=>rfl
 |some q=>
  obtain⟨j,want⟩:=q;cases hd:(ops[j]?).bind (·.dst) with
  |none=>simp[hd]
  |some d=>
   have:tm d=tm' d:=h d (by
    unfold looks;rw[hg];refine B2.2 (.inr ?_);simp only[hd];simp)
   simp only[hd,this]
theorem KQ{s':St}{q:CK}(ht:∀t∈looks ops o,s.tm t=s'.tm t)(hm:Kg P o.op=true->∀y∈o.op.operands.toList,∀i∈Cb (Cu s'.tm y),(rd s.hp i=rd s'.hp i/\M3 s.hp i=M3 s'.hp i)\/(rd s.hp i=none/\M3 s.hp i=none))(h:gE C P N call ops o s=some q):gE C P N call ops o s'=some q:=by
 unfold gE at h ⊢;rw[<-Pm ht];split at h
 ·cases h
 ·cases hM:Y2 C P o.op<;>rw[hM] at h
  ·have:=RY (C:=C) (P:=P) (N:=N) (call:=call) (o:=o) (tm:=s.tm) (tm':=s'.tm) (f:=rd s.hp) (f':=rd s'.hp) (g:=M3 s.hp) (g':=M3 s'.hp)
    (Rel:=fun (a b:Option CK)=>a=some q->b=some q)
    (K:=fun v fz nw=>some (v,fz,nw)) (K':=fun v fz nw=>some (v,fz,nw)) (fun h=>h) (G9 ht)
    (fun Nz y hy i hi=>(hm Nz y hy i hi).imp id fun h=>⟨h.1,h.2,fun _ h=>by cases h⟩) (fun v fz nw _ _ h=>h)
   exact this h
  ·cases h
 ·exact h
end
open Go.RowKit
theorem V6:∀{nw:List (Nat × Ca)} {hp Dl:Nat->Option Ca},Cn hp nw=true->(∀i b,(i,b)∈nw->Dl i=none)->Cn Dl nw=true
 |[],_,_,_,_=>rfl
 |(i,b)::nw,hp,Dl,h,h'=>by
  simp only[Cn,Fe,Option.isNone_iff_eq_none] at h ⊢;exact⟨⟨h' i b (by simp),h.1.2⟩,V6 h.2 fun j c hj=>h' j c (by simp[hj])⟩
section
variable {hp:Nat->Option Ca}{fz:B7}{nw:List (Nat × Ca)}
theorem Hy(ha:Cn hp nw=true){i:Nat}(hi:hp i≠none):A3 (Ah hp fz) nw i=if i∈fz then (hp i).map AO else hp i:=by obtain⟨h1,h2⟩:=B9 ha;rw[(Fs h2).2 i (fun bx hb=>hi (h1 i bx hb)),Cp]
theorem Ma(ha:Cn hp nw=true){i:Nat}{b:Ca}(hi:(i,b)∈nw):A3 (Ah hp fz) nw i=some b:=
 (Fs (B9 ha).2).1 i b hi
theorem Sh(ha:Cn hp nw=true){i:Nat}(hi:hp i=none)(hn:∀b,(i,b) ∉ nw):A3 (Ah hp fz) nw i=none:=by rw[(Fs (B9 ha).2).2 i hn,Cp,hi];simp
theorem S4(ha:Cn hp nw=true){i:Nat}(hi:hp i≠none):A3 (Ah hp fz) nw i≠none:=by
 rw[Hy ha hi];cases h:hp i with
 |none=>exact absurd h hi
 |some b=>split<;>simp
theorem Azj(b:Option Ca):(match b.map AO with|some (.st c)=>some c|some (.ar _ c)=>some c|_=>none)=(match b with|some (.st c)=>some c|some (.ar _ c)=>some c|_=>none):=by
 cases b with
 |none=>rfl
 |some b=>cases b<;>rfl
theorem Atz(b:Option Ca):(match b.map AO with|some (.ar _ c)=>some c|_=>none)=(match b with|some (.ar _ c)=>some c|_=>none):=by
 cases b with
 |none=>rfl
 |some b=>cases b<;>rfl
theorem Aht(ha:Cn hp nw=true){i:Nat}(hi:hp i≠none):rd (A3 (Ah hp fz) nw) i=rd hp i:=by
 unfold rd;rw[Hy ha hi];by_cases h:i∈fz
 ·rw[Ch h];exact Azj _
 ·rw[Br h]
theorem YU(ha:Cn hp nw=true){i:Nat}(hi:hp i≠none):M3 (A3 (Ah hp fz) nw) i=M3 hp i:=by
 unfold M3;rw[Hy ha hi];by_cases h:i∈fz
 ·rw[Ch h];exact Atz _
 ·rw[Br h]
theorem Alo{i:Nat}(hi:hp i=none):rd hp i=none:=by unfold rd;rw[hi]
theorem Qj{i:Nat}(hi:hp i=none):M3 hp i=none:=by unfold M3;rw[hi]
theorem Bcx(b:Option Ca):(b.map AO).map AO=b.map AO:=by
 cases b with
 |none=>rfl
 |some b=>cases b<;>rfl
theorem Aj8{fx fo:B7}{nx no:List (Nat × Ca)}(hx:Cn hp nx=true)(ho:Cn (A3 (Ah hp fx) nx) no=true)(ho':Cn hp no=true)(Za:Cn (A3 (Ah hp fo) no) nx=true)(h1:∀i∈fx,hp i≠none)(h2:∀i∈fo,hp i≠none):
  A3 (Ah (A3 (Ah hp fx) nx) fo) no=A3 (Ah (A3 (Ah hp fo) no) fx) nx:=by
 funext i
 by_cases hi:hp i=none
 ·by_cases hno:∃b,(i,b)∈no
  ·obtain⟨b,hb⟩:=hno
   have hnx:∀b',(i,b') ∉ nx:=fun b' I7=>by
    have:=(B9 ho).1 i b hb;rw[Ma hx I7] at this;cases this
   rw[Ma ho hb,Hy Za (by rw[Ma ho' hb];simp),Ma ho' hb,Br (fun h=>h1 i h hi)]
  ·have hno:∀b,(i,b) ∉ no:=fun b hb=>hno ⟨b,hb⟩;by_cases hnx:∃b,(i,b)∈nx
   ·obtain⟨b,hb⟩:=hnx;rw[Ma Za hb,Hy ho (by rw[Ma hx hb];simp),Ma hx hb,Br (fun h=>h2 i h hi)]
   ·have hnx:∀b,(i,b) ∉ nx:=fun b hb=>hnx ⟨b,hb⟩;rw[Sh ho (Sh hx hi hnx) hno,Sh Za (Sh ho' hi hno) hnx]
 ·rw[Hy ho (S4 hx hi),Hy hx hi,Hy Za (S4 ho' hi),Hy ho' hi];split<;>split<;>first|rfl|rw[Bcx]
end
section
variable {R:Type}{r:R}{C:Iz}{P:Program}{N:Nat}{call:Ap}{ops:Array Oper}{o x:Oper}{s:St}{K:St->Option R}
structure JH(C:Iz)(P:Program)(ops:Array Oper)(x o:Oper):Prop where
 xo:∀d,x.dst=some d->d ∉ looks ops o
 ne:∀d,x.dst=some d->o.dst≠some d
 ox:∀d,o.dst=some d->d ∉ looks ops x
 mx:Y2 C P x.op=true->Kg P o.op=false
 mo:Y2 C P o.op=true->Kg P x.op=false
theorem Yn{l:B7}{d:Nat}(h:l.any (Nat.beq d)=false):d ∉ l:=by intro hm;have:l.any (Nat.beq d)=true:=List.any_eq_true.2 ⟨d,hm,Oq d⟩;rw[this] at h;cases h
theorem Avx(h:VB C P ops x o=false):JH C P ops x o:=by
 unfold VB at h;simp only[Bool.or_eq_false_iff,Bool.and_eq_false_iff] at h;obtain⟨⟨⟨h1,h2⟩,h3⟩,h4⟩:=h;refine⟨fun d hd=>?_,fun d hd he=>?_,fun d hd=>?_,fun hm=>?_,fun hm=>?_⟩
 ·simp only[hd,Bool.or_eq_false_iff] at h1;exact Yn h1.1
 ·simp only[hd,he,Bool.or_eq_false_iff] at h1;rw[Oq] at h1;cases h1.2
 ·simp only[hd] at h2;exact Yn h2
 ·rw[hm] at h3;rcases h3 with h|h
  ·cases h
  ·exact h
 ·rw[hm] at h4;rcases h4 with h|h
  ·cases h
  ·exact h
theorem Ga{tm:Nat->PV}{d:Option Tmp}{v:PV}{l:B7}(h:∀i,d=some i->i ∉ l):∀t∈l,Cc tm d v t=tm t:=by
 intro t ht;cases d with
 |none=>rfl
 |some d=>exact Ao _ _ (by rintro rfl;exact h _ rfl ht)
theorem O4{tm:Nat->PV}{d e:Option Tmp}{u v:PV}(h:∀i,d=some i->e≠some i):Cc (Cc tm d u) e v=Cc (Cc tm e v) d u:=by
 cases d with
 |none=>rfl
 |some d=>
  cases e with
  |none=>rfl
  |some e=>exact Ag6 _ _ _ (by rintro rfl;exact h _ rfl rfl)
def Has(C:Iz)(P:Program)(o:Oper)(s:St):Prop:=(∀y∈o.op.operands.toList,∀i∈Cb (Cu s.tm y),s.hp i≠none) /\
 (Y2 C P o.op=true->Tn o.op=false->∀y∈o.op.operands.toList,∀i∈Cb (Cu s.tm y),∀c,s.hp i=some (.st c)->∀p∈c,∀k∈Ay p,s.hp k≠none)
theorem Jr{tm tm':Nat->PV}(h:∀t∈looks ops o,tm t=tm' t):Jf C P ops o tm=Jf C P ops o tm':=by unfold Jf;rw[Pm h]
theorem Am3(hw:Has C P o s)(xo:∀d,x.dst=some d->d ∉ looks ops o)(ne:∀d,x.dst=some d->o.dst≠some d)(ox:∀d,o.dst=some d->d ∉ looks ops x)(hx:Jf C P ops x s.tm=false)(ho:Jf C P ops o s.tm=false)(h:Er C P N call ops x s (fun s1=>Er C P N call ops o s1 K)=some r):Er C P N call ops o s (fun s1=>Er C P N call ops x s1 K)=some r:=by
 rw[Ow hx] at h;cases ex:gE C P N call ops x s with
 |none=>rw[ex] at h;cases h
 |some q=>
 obtain⟨vx,fx,nx⟩:=q;rw[ex] at h;obtain⟨hb,h1⟩:=Aq h;simp only[Fe] at hb;have t1:∀t∈looks ops o,Cc s.tm x.dst vx t=s.tm t:=Ga xo;change Er C P N call ops o ⟨Cc s.tm x.dst vx,A3 (Ah s.hp fx) nx⟩ K=some r at h1;rw[Ow (by rw[Jr t1];exact ho)] at h1
 cases eo:gE C P N call ops o ⟨Cc s.tm x.dst vx,A3 (Ah s.hp fx) nx⟩ with
 |none=>rw[eo] at h1;cases h1
 |some q=>
 obtain⟨vo,fo,no⟩:=q;rw[eo] at h1;obtain⟨hc,h2⟩:=Aq h1;change K ⟨Cc (Cc s.tm x.dst vx) o.dst vo,A3 (Ah (A3 (Ah s.hp fx) nx) fo) no⟩=some r at h2;simp only[Fe] at hc
 have eo':gE C P N call ops o s=some (vo,fo,no):=by
  refine KQ t1 (fun _ y hy i hi=>?_) eo;have:=hw.1 y hy i hi;exact .inl ⟨Aht hb.2 this,YU hb.2 this⟩
 have ho':Cn s.hp no=true:=V6 hc.2 fun i b hi=>by
  cases hs:s.hp i with
  |none=>rfl
  |some c=>exact absurd ((B9 hc.2).1 i b hi) (S4 hb.2 (by rw[hs];simp))
 rw[Ow ho,eo']
 have Za:Cn (A3 (Ah s.hp fo) no) nx=true:=V6 hb.2 fun i b hi=>by
  refine Sh ho' ((B9 hb.2).1 i b hi) fun c Yp=>?_;have:=(B9 hc.2).1 i c Yp;rw[Ma hb.2 hi] at this;cases this
 have t2:∀t∈looks ops x,s.tm t=Cc s.tm o.dst vo t:=fun t ht=>(Ga ox t ht).symm
 have ex':gE C P N call ops x ⟨Cc s.tm o.dst vo,A3 (Ah s.hp fo) no⟩=some (vx,fx,nx):=by
  refine KQ t2 (fun _ y hy i hi=>?_) ex;by_cases hs:s.hp i=none
  ·exact .inr ⟨Alo hs,Qj hs⟩
  ·exact .inl ⟨(Aht ho' hs).symm,(YU ho' hs).symm⟩
 show Ar _ _=_;rw[hc.1,ho'];show Er C P N call ops x ⟨Cc s.tm o.dst vo,A3 (Ah s.hp fo) no⟩ K=some r;rw[Ow (by rw[<-Jr t2];exact hx),ex']
 show Ar _ _=_;rw[hb.1,Za];rw[<-h2];have hfx:∀i∈fx,s.hp i≠none:=fun i hi hs=>(Z9 ex).2 i hi (Qj hs);have hfo:∀i∈fo,s.hp i≠none:=fun i hi hs=>(Z9 eo').2 i hi (Qj hs);show K ⟨Cc (Cc s.tm o.dst vo) x.dst vx,A3 (Ah (A3 (Ah s.hp fo) no) fx) nx⟩=K _;rw[O4 ne,Aj8 hb.2 hc.2 ho' Za hfx hfo]
end
open Go.RowKit
theorem LJ{C:Iz}{P:Program}{o:Op}(h:Y2 C P o=true):Kg P o=true:=by
 unfold Y2 at h;split at h
 ·rfl
 ·rename_i c;unfold Kg;simp only;split at h<;>rename_i hc
  ·rw[hc]
  ·rw[hc]
  ·cases h
  ·rw[hc]
  ·cases h
 ·cases h
structure XN(N:Nat)(S:Nat->Prop)(dst:Option Nat)(hp Dq Dl G3:Nat->Option Ca):Prop where
 keep:∀i,hp i≠none->Dl i≠none
 off:∀i,i<N->dst≠some i->(¬S i\/hp i=none)->Dl i=hp i/\G3 i=Dq i
 same:∀i,hp i=Dq i->Dl i=G3 i
 far:∀i,¬S i->hp i≠none->Dl i=hp i
section
variable {R R':Type}{Rel:Option R->Option R'->Prop}{P:Program}{N:Nat}{tm tm':Nat->PV}{hp Dq:Nat->Option Ca}{f f':Nat->Option Ae}{o:Oper}
theorem ZX(hn:Rel none none){t:CT}{p:PV}{K:PV->B7->Option R}{K':PV->B7->Option R'}(hf:Agr Rel f f' (Ay p))(hK:∀c m,(∀i∈m,f i≠none/\i∈Ay p)->Rel (K c m) (K' c m)):Rel (Uf f t p K) (Uf f' t p K'):=by
 unfold Uf;split
 ·split
  ·rename_i id es' off n;cases Nat.beq es' _
   ·exact hn
   ·exact JF hn hf (by simp[Ay]) fun c hc=>Bc hn fun _=>hK _ _ (by simp[hc,Ay])
  ·exact Hh hn fun _ _ _=>hK _ _ (by simp)
 ·exact Va hn fun _=>hK _ _ (by simp)
theorem TU(hn:Rel none none):∀{ts:List CT}{ps:Ae}{K:Ae->B7->Option R}{K':Ae->B7->Option R'},Agr Rel f f' (ps.flatMap Ay)->(∀c m,(∀i∈m,f i≠none/\i∈ps.flatMap Ay)->Rel (K c m) (K' c m))->Rel (Sq f ts ps K) (Sq f' ts ps K')
 |[],[],_,_,_,hK=>hK _ _ (by simp)
 |[],_::_,_,_,_,_=>hn
 |_::_,[],_,_,_,_=>hn
 |_::_,p::ps,_,_,hf,hK=>ZX hn (fun i hi=>hf i (by simp only[J4,B2];exact .inl hi)) fun _ m hm=>TU hn (fun i hi=>hf i (by simp only[J4,B2];exact .inr hi)) fun _ ms VA=>hK _ _ fun i hi=>by
   simp only[J4,B2];rcases B2.1 hi with h|h
   ·exact⟨(hm i h).1,.inl (hm i h).2⟩
   ·exact⟨(VA i h).1,.inr (VA i h).2⟩
theorem DH{S:Nat->Prop}{dst:Option Nat}{id:Nat}{b:Ca}{h0 h1:Nat->Option Ca}(hS:S id)(B1:hp id≠none)(h:XN N S dst hp Dq h0 h1):XN N S dst hp Dq (Dt h0 id (some b)) (Dt h1 id (some b)):=by
 refine⟨fun i hi=>?_,fun i hN hd hi=>?_,fun i hi=>?_,fun i hn hi=>?_⟩
 ·by_cases e:i=id
  ·subst e;rw[Av];simp
  ·rw[Ao _ _ e];exact h.keep i hi
 ·have e:i≠id:=by
   rintro rfl
   rcases hi with hi|hi
   ·exact hi hS
   ·exact B1 hi
  rw[Ao _ _ e,Ao _ _ e];exact h.off i hN hd hi
 ·by_cases e:i=id
  ·subst e;rw[Av,Av]
  ·rw[Ao _ _ e,Ao _ _ e];exact h.same i hi
 ·rw[Ao _ _ (by rintro rfl;exact hn hS)];exact h.far i hn hi
theorem Acg{S:Nat->Prop}{d:Nat}{b:Ca}{h0 h1:Nat->Option Ca}(hz:hp d=none)(h:XN N S (some d) hp Dq h0 h1):XN N S (some d) hp Dq (Dt h0 d (some b)) (Dt h1 d (some b)):=by
 refine⟨fun i hi=>?_,fun i hN hd hi=>?_,fun i hi=>?_,fun i hn hi=>?_⟩
 ·by_cases e:i=d
  ·subst e;rw[Av];simp
  ·rw[Ao _ _ e];exact h.keep i hi
 ·have e:i≠d:=by rintro rfl;exact hd rfl
  rw[Ao _ _ e,Ao _ _ e];exact h.off i hN hd hi
 ·by_cases e:i=d
  ·subst e;rw[Av,Av]
  ·rw[Ao _ _ e,Ao _ _ e];exact h.same i hi
 ·rw[Ao _ _ (by rintro rfl;exact hi hz)];exact h.far i hn hi
theorem AA(S:Nat->Prop)(dst:Option Nat):XN N S dst hp Dq hp Dq:=⟨fun _ h=>h,fun _ _ _ _=>⟨rfl,rfl⟩,fun _ h=>h,fun _ _ _=>rfl⟩
theorem Ajb{S:Nat->Prop}{dst:Option Nat}{m:B7}(hm:∀i∈m,hp i≠none/\S i):XN N S dst hp Dq (Ah hp m) (Ah Dq m):=by
 refine⟨fun i hi=>fun h=>hi (Fc.1 h),fun i hN hd hi=>?_,fun i hi=>?_,fun i hn hi=>?_⟩
 ·have e:i ∉ m:=by
   intro h;rcases hi with hi|hi
   ·exact hi (hm i h).2
   ·exact (hm i h).1 hi
  rw[Cp,Cp,Br e,Br e];exact⟨rfl,rfl⟩
 ·rw[Cp,Cp,hi]
 ·rw[Cp,Br (fun h=>hn (hm i h).2)]
theorem Ac4{S:Nat->Prop}(h:∀i,S i->hp i=Dq i\/(hp i=none/\∀b,Rel none b)){l:B7}(hl:∀i∈l,S i):Agr Rel (M3 hp) (M3 Dq) l:=by
 intro i hi;rcases h i (hl i hi) with h|⟨h,h'⟩
 ·left;unfold M3;rw[h]
 ·exact .inr ⟨Qj h,h'⟩
theorem Agx(hn:Rel none none){t:TypeId}{a x:PV}{K:St->Option R}{K':St->Option R'}{S:Nat->Prop}(hS:∀i,S i->hp i=Dq i\/(hp i=none/\∀b,Rel none b))(ha:∀i∈Ay a,S i)(hx:∀i∈Co x,S i)(hK:∀Dl G3,XN N S none hp Dq Dl G3->Rel (K ⟨tm,Dl⟩) (K' ⟨tm',G3⟩)):Rel (NH P ⟨tm,hp⟩ t a x K) (NH P ⟨tm',Dq⟩ t a x K'):=by
 unfold NH;split
 ·rename_i id off;show Rel (match hp id with|some (.st c)=>_|some (.ar false c)=>_|_=>none) (match Dq id with|some (.st c)=>_|some (.ar false c)=>_|_=>none);have B1:S id:=ha id (by simp[Ay]);rcases hS id B1 with h|⟨h,hb⟩
  ·rw[<-h];split
   ·rename_i c hc;exact Bc hn fun _=>Sl hn fun _=>hK _ _ (DH B1 (by rw[hc];simp) (AA _ _))
   ·rename_i c hc;refine Bc hn fun _=>TU hn (Ac4 hS fun i hi=>hx i ?_) fun _ m hm=>Bc hn fun _=>hK _ _ (DH B1 (by rw[hc];simp) (Ajb fun i hi=>⟨fun h=>(hm i hi).1 (Qj h),hx i ?_⟩))
    ·obtain⟨c,hc,hi⟩:=List.mem_flatMap.1 hi;exact CQ hc hi
    ·obtain⟨c,hc,hi⟩:=List.mem_flatMap.1 (hm i hi).2;exact CQ hc hi
   ·exact hn
  ·rw[h];exact hb _
 ·exact hn
theorem OB(hn:Rel none none){es:Nat}{t:TypeId}{x:PV}{K:Nat->Ae->Option R}{K':Nat->Ae->Option R'}{S:Nat->Prop}(hS:∀i,S i->hp i=Dq i\/(hp i=none/\∀b,Rel none b))(hx:∀i∈Co x,S i)(hK:∀m c,Rel (K m c) (K' m c)):Rel (Aiz P ⟨tm,hp⟩ es t x K) (Aiz P ⟨tm',Dq⟩ es t x K'):=by
 unfold Aiz Ail;split
 ·exact Bc hn fun _=>Hg hn fun _=>hK _ _
 ·exact V2 hn (Ac4 hS fun i hi=>hx i (BG hi)) hK
 ·exact hn
theorem KL(hn:Rel none none){d:Nat}{t tx:TypeId}{b x:PV}{K:St->Option R}{K':St->Option R'}{S:Nat->Prop}(hS:∀i,S i->hp i=Dq i\/(hp i=none/\∀b,Rel none b))(hdd:hp d=Dq d)(hb:∀i∈Co b,S i)(hx:∀i∈Co x,S i)(hK:∀v Dl G3,(∀M,XN M S (some d) hp Dq Dl G3)->Rel (K ⟨Dt tm d v,Dl⟩) (K' ⟨Dt tm' d v,G3⟩)):Rel (U0 P N ⟨tm,hp⟩ d t tx b x K) (U0 P N ⟨tm',Dq⟩ d t tx b x K'):=by
 unfold U0;split
 ·refine Bc hn fun _=>?_;cases LK P tx
  rotate_left
  ·show Rel (AY P N ⟨tm,hp⟩ d _ b x K) (AY P N ⟨tm',Dq⟩ d _ b x K');refine Fa hn fun _ n=>Hh hn fun z _ _=>?_;show Rel (Ar (z&&Nat.blt d N&&(hp d).isNone&&_&&_&&_) _) (Ar (z&&Nat.blt d N&&(Dq d).isNone&&_&&_&&_) _);rw[<-hdd];exact Bc hn fun hb=>hK _ _ _ (fun M=>Acg (by simp only[Fe,Option.isNone_iff_eq_none] at hb;simp only[hb]) (AA _ _))
  rw[cond_false,cond_false];refine OB hn hS hx fun m new=>?_;split
  ·rename_i id es off n;show Rel (match hp id with|some (.ar false c)=>Ar (Nat.beq es _&&Nat.beq off 0&&Nat.blt d N&&(hp d).isNone&&_&&_&&_&&_) _|_=>none) (match Dq id with|some (.ar false c)=>Ar (Nat.beq es _&&Nat.beq off 0&&Nat.blt d N&&(Dq d).isNone&&_&&_&&_&&_) _|_=>none);have B1:S id:=hb id (by simp[Co,Ay]);rw[<-hdd];rcases hS id B1 with h|⟨h,hbb⟩
   ·rw[<-h];split
    ·rename_i c hc;exact Bc hn fun hb=>hK _ _ _ (fun M=>Acg (by simp only[Fe,Option.isNone_iff_eq_none] at hb;simp only[hb]) (DH B1 (by rw[hc];simp) (AA _ _)))
    ·exact hn
   ·rw[h];exact hbb _
  ·refine Hh hn fun z _ _=>?_;show Rel (Ar (z&&Nat.blt d N&&(hp d).isNone&&_&&_&&_) _) (Ar (z&&Nat.blt d N&&(Dq d).isNone&&_&&_&&_) _);rw[<-hdd];exact Bc hn fun hb=>hK _ _ _ (fun M=>Acg (by simp only[Fe,Option.isNone_iff_eq_none] at hb;simp only[hb]) (AA _ _))
 ·exact hn
theorem Akp(hn:Rel none none){d:Option Tmp}{t tx:TypeId}{b x:PV}{K:St->Option R}{K':St->Option R'}{S:Nat->Prop}(hS:∀i,S i->hp i=Dq i\/(hp i=none/\∀b,Rel none b))(hb:∀i∈Co b,S i)(hx:∀i∈Co x,S i)(hK:∀v Dl G3,XN N S d hp Dq Dl G3->Rel (K ⟨Cc tm d v,Dl⟩) (K' ⟨Cc tm' d v,G3⟩)):Rel (Aag P N ⟨tm,hp⟩ d t tx b x K) (Aag P N ⟨tm',Dq⟩ d t tx b x K'):=by
 unfold Aag;split
 ·refine Bc hn fun _=>?_;refine OB hn hS hx fun m new=>?_;split
  ·rename_i id es off n;show Rel (match hp id with|some (.ar false c)=>Ar (Nat.beq es _&&_&&_) _|_=>none) (match Dq id with|some (.ar false c)=>Ar (Nat.beq es _&&_&&_) _|_=>none);have B1:S id:=hb id (by simp[Co,Ay]);rcases hS id B1 with h|⟨h,hbb⟩
   ·rw[<-h];split
    ·rename_i c hc;exact Bc hn fun _=>hK _ _ _ (DH B1 (by rw[hc];simp) (AA _ _))
    ·exact hn
   ·rw[h];exact hbb _
  ·exact hn
 ·exact hn
def A2h(o:Oper)(tm:Nat->PV)(i:Nat):Prop:=∃x∈o.op.operands.toList,i∈Cb (Cu tm x)
def HA(o:Oper)(tm:Nat->PV)(hp:Nat->Option Ca)(i:Nat):Prop:=A2h o tm i\/Tn o.op=false/\∃id c,A2h o tm id/\hp id=some (.st c)/\∃p∈c,i∈Ay p
theorem Aok(hn:Rel none none){mv:Bool}{t:CT}{p:PV}{K:PV->B7->B7->Option R}{K':PV->B7->B7->Option R'}{S:Nat->Prop}(hS:∀i,S i->hp i=Dq i\/(hp i=none/\∀b,Rel none b))(hp_:∀i∈Ay p,S i)(hK:∀c m x,(∀i∈m++x,hp i≠none/\S i)->Rel (K c m x) (K' c m x)):Rel (Anx mv hp t p K) (Anx mv Dq t p K'):=by
 have frz:∀{t:CT} {p:PV},(∀i∈Ay p,S i)->Rel (Uf (M3 hp) t p fun c m=>K c m []) (Uf (M3 Dq) t p fun c m=>K' c m []):=fun h=>ZX hn (Ac4 hS h) fun c m hm=>hK _ _ _ fun i hi=>by
  rw[List.append_nil] at hi;exact⟨fun e=>(hm i hi).1 (Qj e),h i (hm i hi).2⟩
 unfold Anx;split
 ·rename_i es;cases mv<;>simp only[cond_true,cond_false]
  ·exact frz hp_
  ·split
   ·rename_i id es' off n;rcases hS id (hp_ id (by simp[Ay])) with h|⟨h,hb⟩
    ·rw[<-h];split
     ·rename_i c hc;cases (Nat.beq es' es&&Nat.beq off 0)<;>simp only[cond_true,cond_false]
      ·exact frz hp_
      ·exact Bc hn fun _=>hK _ _ _ fun i hi=>by
        simp only[WU,Q2] at hi;subst hi;exact⟨by rw[hc];simp,hp_ i (by simp[Ay])⟩
     ·exact frz hp_
    ·rw[h]
     have:(Uf (M3 hp) (.sl es) (.view id es' off n) fun c m=>K c m [])=none:=by
      unfold Uf;simp only;cases Nat.beq es' es
      ·rfl
      ·simp only[cond_true,Qj h,Ea]
     show Rel (Uf (M3 hp) (.sl es) (.view id es' off n) fun c m=>K c m []) _;rw[this];exact hb _
   ·refine Hh hn fun z n c=>?_;cases z
    ·exact hK _ _ _ (by simp)
    ·exact hK _ _ _ (by simp)
 ·exact Va hn fun _=>hK _ _ _ (by simp)
theorem Yv(hn:Rel none none){mv:Bool}{S:Nat->Prop}(hS:∀i,S i->hp i=Dq i\/(hp i=none/\∀b,Rel none b)):∀{ts:List CT}{ps:Ae}{K:Ae->B7->B7->Option R}{K':Ae->B7->B7->Option R'},(∀p∈ps,∀i∈Ay p,S i) ->
  (∀c m x,(∀i∈m++x,hp i≠none/\S i)->Rel (K c m x) (K' c m x))->Rel (OS mv hp ts ps K) (OS mv Dq ts ps K')
 |[],[],_,_,_,hK=>hK _ _ _ (by simp)
 |[],_::_,_,_,_,_=>hn
 |_::_,[],_,_,_,_=>hn
 |_::_,p::ps,_,_,hp_,hK=>Aok hn hS (hp_ p (by simp)) fun _ m x hm=>Yv hn hS (fun q hq=>hp_ q (by simp[hq])) fun _ ms xs VA=>hK _ _ _ fun i hi=>by
   simp only[B2] at hi hm VA;rcases hi with (hi|hi)|(hi|hi)
   ·exact hm i (.inl hi)
   ·exact VA i (.inl hi)
   ·exact hm i (.inr hi)
   ·exact VA i (.inr hi)
theorem Afy(hn:Rel none none){C:Iz}{f:FuncId}{i:Nat}{t:TypeId}{p:PV}{K:PV->B7->B7->List Ja->Option R}{K':PV->B7->B7->List Ja->Option R'}{S:Nat->Prop}(hS:∀i,S i->hp i=Dq i\/(hp i=none/\∀b,Rel none b))(hp_:∀i∈Cb p,S i)(hc:∀i∈Cb p,∀c,Dq i=some (.st c)->∀q∈c,∀k∈Ay q,S k)(hK:∀v m x l,(∀i∈m++x++l.flatMap Ja.ids,hp i≠none/\S i)->Rel (K v m x l) (K' v m x l)):Rel (NW C P f hp i t p K) (NW C P f Dq i t p K'):=by
 unfold NW;split
 ·split
  ·rename_i id off;have B1:S id:=hp_ id (by simp[Cb,Co,Ay]);rcases hS id B1 with h|⟨h,hb⟩
   ·rw[h];split
    ·rename_i c FA;refine Bc hn fun _=>Yv hn hS (fun q hq k hk=>hc id (by simp[Cb,Co,Ay]) c FA q (List.mem_of_mem_drop (List.mem_of_mem_take hq)) k hk) fun cs m x hm=>hK _ _ _ _ fun k hk=>?_;rcases B2.1 hk with hk|hk
     ·exact hm k hk
     ·simp only[J4,List.flatMap_nil,Ja.ids,List.append_nil,Q2] at hk;subst hk;exact⟨by rw[h,FA];simp,B1⟩
    ·exact hn
   ·rw[h];exact hb _
  ·exact hn
 ·cases C.lnd f i
  ·cases Cw P t
   ·exact Yv hn hS (fun q hq k hk=>by
     simp at hq;subst hq;exact hp_ k (O9 hk)) fun cs m x hm=>B6 hn fun _ _ _=>Gz hn (hK _ _ _ _ (by simpa using hm))
   ·refine Ni hn fun cs Z5=>Yv hn hS (fun q hq k hk=>hp_ k ?_) fun cs m x hm=>hK _ _ _ _ (by simpa using hm);subst Z5;exact List.mem_flatMap.2 ⟨q,hq,hk⟩
  ·refine Eg hn fun e he=>?_;unfold Asm;split
   ·rename_i id es' off n;have B1:S id:=hp_ id (by simp[Cb,Co,Ay]);rcases hS id B1 with h|⟨h,hb⟩
    ·rw[h];split
     ·rename_i c FA;refine Bc hn fun _=>hK _ _ _ _ fun k hk=>?_;simp only[WU,J4,List.flatMap_nil,Ja.ids,List.append_nil,Q2] at hk;subst hk;exact⟨by rw[h,FA];simp,B1⟩
     ·exact hn
    ·rw[h];exact hb _
   ·exact Hh hn fun _ _ _=>Bc hn fun _=>hK _ _ _ _ (by simp[Ja.ids])
theorem UG(hn:Rel none none){C:Iz}{f:FuncId}{S:Nat->Prop}(hS:∀i,S i->hp i=Dq i\/(hp i=none/\∀b,Rel none b)):∀{ts:List TypeId}{ps:Ae}{i:Nat}{K:Ae->B7->B7->List Ja->Option R}{K':Ae->B7->B7->List Ja->Option R'},
  (∀p∈ps,∀i∈Cb p,S i)->(∀p∈ps,∀i∈Cb p,∀c,Dq i=some (.st c)->∀q∈c,∀k∈Ay q,S k) ->
  (∀v m x l,(∀i∈m++x++l.flatMap Ja.ids,hp i≠none/\S i)->Rel (K v m x l) (K' v m x l))->Rel (YH C P f hp i ts ps K) (YH C P f Dq i ts ps K')
 |[],[],_,_,_,_,_,hK=>hK _ _ _ _ (by simp)
 |[],_::_,_,_,_,_,_,_=>hn
 |_::_,[],_,_,_,_,_,_=>hn
 |_::_,p::ps,_,_,_,hp_,hc,hK=>Afy hn hS (hp_ p (by simp)) (hc p (by simp)) fun _ m x l hm=>UG hn hS (fun q hq=>hp_ q (by simp[hq])) (fun q hq=>hc q (by simp[hq])) fun _ ms xs ls VA=>hK _ _ _ _ fun i hi=>by
   simp only[B2,List.flatMap_append] at hi hm VA;rcases hi with ((hi|hi)|(hi|hi))|(hi|hi)
   ·exact hm i (.inl (.inl hi))
   ·exact VA i (.inl (.inl hi))
   ·exact hm i (.inl (.inr hi))
   ·exact VA i (.inl (.inr hi))
   ·exact hm i (.inr hi)
   ·exact VA i (.inr hi)
theorem Aue(hn:Rel none none){t:Nat}{ct:CT}{was p:PV}{K:Nat->PV->List (Nat × Ca)->Option R}{K':Nat->PV->List (Nat × Ca)->Option R'}(hK:∀t c b,(∀q∈b,∃k,q.1=nid N k)->Rel (K t c b) (K' t c b)):Rel (Apu N t ct was p K) (Apu N t ct was p K'):=by
 unfold Apu;split
 ·split
  ·exact Alm hn fun _ _=>hK _ _ _ (by intro q hq;simp only[Q2] at hq;subst hq;exact⟨t,rfl⟩)
  ·exact Hh hn fun _ _ _=>hK _ _ _ (by simp)
 ·exact Va hn fun _=>hK _ _ _ (by simp)
theorem ZU(hn:Rel none none):∀{cts:List CT}{ws ps:Ae}{t:Nat}{K:Nat->Ae->List (Nat × Ca)->Option R} {K':Nat->Ae->List (Nat × Ca)->Option R'},(∀t c b,(∀q∈b,∃k,q.1=nid N k)->Rel (K t c b) (K' t c b))->Rel (ZK N t cts ws ps K) (ZK N t cts ws ps K')
 |[],[],_,_,_,_,hK=>Gz hn (hK _ _ _ (by simp))
 |[],_::_,_,_,_,_,_=>hn
 |_::_,[],_,_,_,_,_=>hn
 |_::_,_::_,_,_,_,_,hK=>B6 hn fun _ _ _=>Aue hn fun _ _ b hb=>ZU hn fun _ _ bs PZ=>hK _ _ _ fun q hq=>by
   rcases B2.1 hq with h|h
   ·exact hb q h
   ·exact PZ q h
theorem DK(hn:Rel none none){S:Nat->Prop}{dst:Option Nat}:∀{l:List Ja}{ro:List Ae} {t:Nat}{h0 h1:Nat->Option Ca}{K:(Nat->Option Ca)->List (Nat × Ca)->Option R} {K':(Nat->Option Ca)->List (Nat × Ca)->Option R'},
  XN N S dst hp Dq h0 h1->(∀i∈l.flatMap Ja.ids,hp i≠none/\S i/\hp i=Dq i)->(∀h0' h1' b,XN N S dst hp Dq h0' h1'->(∀q∈b,∃k,q.1=nid N k)->Rel (K h0' b) (K' h1' b))->Rel (FZ N t l ro h0 K) (FZ N t l ro h1 K')
 |[],_,_,_,_,_,_,hT,_,hK=>Gz hn (hK _ _ _ hT (by simp))
 |.var id off cts ws::l,ro,t,h0,h1,K,K',hT,hl,hK=>by
  unfold FZ;refine B6 hn fun cs ro _=>ZU hn fun t' cs' bs PZ=>?_;have B1:=hl id (by simp[Ja.ids]);rw[<-hT.same id B1.2.2];split
  ·exact DK hn (DH B1.2.1 B1.1 hT) (fun i hi=>hl i (by simp only[J4,B2];exact .inr hi)) fun h0' h1' b hT' hb=>hK _ _ _ hT' fun q hq=>by
    rcases B2.1 hq with h|h
    ·exact PZ q h
    ·exact hb q h
  ·exact hn
 |.row id::l,ro,t,h0,h1,K,K',hT,hl,hK=>by
  unfold FZ;have B1:=hl id (by simp[Ja.ids]);exact B6 hn fun cs ro _=>DK hn (DH B1.2.1 B1.1 hT) (fun i hi=>hl i (by simp only[J4,B2];exact .inr hi)) hK
 |.none::l,ro,t,h0,h1,K,K',hT,hl,hK=>by
  unfold FZ;exact B6 hn fun cs ro _=>DK hn hT (fun i hi=>hl i (by simp only[J4,B2];exact .inr hi)) hK
theorem Aew(h:∀i,N<=i->hp i=Dq i)(hN:0<N):∀k t,Ae3 N hp k t=Ae3 N Dq k t
 |0,_=>rfl
 |k+1,t=>by
  unfold Ae3;rw[h (nid N t) (by unfold nid;exact Nat.le_mul_of_pos_right _ (by omega)),Aew h hN k (t+1)]
theorem Aat{h0 h1:Nat->Option Ca}:∀{nw:List (Nat × Ca)},(∀q∈nw,h0 q.1=h1 q.1)->Cn h0 nw=Cn h1 nw
 |[],_=>rfl
 |(i,b)::nw,h=>by
  unfold Cn;rw[h (i,b) (by simp),Aat (fun q hq=>h q (by simp[hq]))]
theorem SC{S:Nat->Prop}{dst:Option Nat}{h0 h1:Nat->Option Ca}(hT:XN N S dst hp Dq h0 h1):∀{nw:List (Nat × Ca)} {g0 g1:Nat->Option Ca},XN N S dst hp Dq g0 g1->(∀q∈nw,N<=q.1\/dst=some q.1)->(∀q∈nw,hp q.1=none)->XN N S dst hp Dq (A3 g0 nw) (A3 g1 nw)
 |[],_,_,h,_,_=>h
 |(i,b)::nw,g0,g1,h,hi,hz=>by
  refine SC hT (nw:=nw) ⟨fun k hk=>?_,fun k hN hd hk=>?_,fun k hk=>?_,fun k hn hk=>?_⟩ (fun q hq=>hi q (by simp[hq])) (fun q hq=>hz q (by simp[hq]))
  ·by_cases e:k=i
   ·subst e;rw[Av];simp
   ·rw[Ao _ _ e];exact h.keep k hk
  ·have e:k≠i:=by
    rintro rfl
    rcases hi (k,b) (by simp) with q|q
    ·simp only at q;omega
    ·exact hd q
   rw[Ao _ _ e,Ao _ _ e];exact h.off k hN hd hk
  ·by_cases e:k=i
   ·subst e;rw[Av,Av]
   ·rw[Ao _ _ e,Ao _ _ e];exact h.same k hk
  ·rw[Ao _ _ (by rintro rfl;exact hk (hz (k,b) (by simp)))];exact h.far k hn hk
theorem A6c{S:Nat->Prop}{dst:Option Nat}{m x:B7}(hm:∀i∈m++x,hp i≠none/\S i):XN N S dst hp Dq (AF (Ah hp m) x) (AF (Ah Dq m) x):=by
 refine⟨fun i hi h=>?_,fun i hN hd hi=>?_,fun i hi=>?_,fun i hn hi=>?_⟩
 ·rw[Ic] at h;have h1:Ah hp m i≠none:=fun e=>hi (Fc.1 e);split at h
  ·cases hq:Ah hp m i with
   |none=>exact h1 hq
   |some b=>rw[hq] at h;cases h
  ·exact h1 h
 ·have e:i ∉ m/\i ∉ x:=by
   refine⟨fun h=>?_,fun h=>?_⟩<;>(rcases hi with hi|hi)
   ·exact hi (hm i (by simp[h])).2
   ·exact (hm i (by simp[h])).1 hi
   ·exact hi (hm i (by simp[h])).2
   ·exact (hm i (by simp[h])).1 hi
  rw[Ic,Ic,Br e.2,Br e.2,Cp,Cp,Br e.1,Br e.1];exact⟨rfl,rfl⟩
 ·rw[Ic,Ic,Cp,Cp,hi]
 ·rw[Ic,Cp,Br (fun h=>hn (hm i (by simp[h])).2),Br (fun h=>hn (hm i (by simp[h])).2)]
theorem Af8(hn:Rel none none){C:Iz}{call:Ap}{f:FuncId}{c:Call}{K:St->Option R}{K':St->Option R'}{S:Nat->Prop}(Nm:c.args.toList.map (Cu tm)=c.args.toList.map (Cu tm'))(hS:∀i,S i->hp i=Dq i\/(hp i=none/\∀b,Rel none b))(hp_:∀p∈c.args.toList.map (Cu tm'),∀i∈Cb p,S i)(hc:∀p∈c.args.toList.map (Cu tm'),∀i∈Cb p,∀c,Dq i=some (.st c)->∀q∈c,∀k∈Ay q,S k)(hdd:∀d,o.dst=some d->hp d=Dq d)(hNN:∀i,N<=i->hp i=Dq i)(hK:∀v Dl G3,XN N S o.dst hp Dq Dl G3->Rel (K ⟨Cc tm o.dst v,Dl⟩) (K' ⟨Cc tm' o.dst v,G3⟩)):Rel (NF C P N call ⟨tm,hp⟩ o f c K) (NF C P N call ⟨tm',Dq⟩ o f c K'):=by
 unfold NF;simp only[Nm];refine UG hn hS hp_ hc fun vs m x l hm=>Bc hn fun hb=>YL hn fun rv ro=>NN hn fun ws bs PZ=>Bc hn fun _=>?_;simp only[Fe] at hb;have hN:0<N:=Nat.lt_of_succ_le (Sn hb.1.2);rw[Aew hNN hN];by_cases Aqx:∃i∈l.flatMap Ja.ids,hp i≠Dq i
 ·obtain⟨i,hi,Gx⟩:=Aqx;obtain⟨h1,h2⟩:=hm i (B2.2 (.inr hi));rcases hS i h2 with h|⟨h,_⟩
  ·exact absurd h Gx
  ·exact absurd h h1
 have hl:∀i∈l.flatMap Ja.ids,hp i≠none/\S i/\hp i=Dq i:=fun i hi=>⟨(hm i (B2.2 (.inr hi))).1,(hm i (B2.2 (.inr hi))).2,Classical.byContradiction fun h=>Aqx ⟨i,hi,h⟩⟩;have hT0:XN N S o.dst hp Dq (AF (Ah hp m) x) (AF (Ah Dq m) x):=A6c fun i hi=>hm i (B2.2 (.inl hi));refine DK hn hT0 hl fun h0 h1 bs' hT Bgx=>?_
 have Ap7:∀q∈bs++bs',N<=q.1\/o.dst=some q.1:=by
  intro q hq;rcases B2.1 hq with hq|hq
  ·obtain⟨j,hj⟩:=PZ q hq;cases hd:o.dst with
   |none=>
    rw[hd] at hj;left;rw[hj];exact Nat.le_add_right _ _
   |some d=>
    rw[hd] at hj;change q.1=d+N*j at hj;cases j with
    |zero=>right;rw[hj];simp
    |succ j=>left;rw[hj,Nat.mul_add];omega
  ·obtain⟨k,hk⟩:=Bgx q hq;left;rw[hk];unfold nid;exact Nat.le_mul_of_pos_right _ (by omega)
 have FH:∀q∈bs++bs',h0 q.1=h1 q.1:=by
  intro q hq;refine hT.same q.1 ?_;rcases Ap7 q hq with h|h
  ·exact hNN _ h
  ·exact hdd _ h
 rw[Aat FH]
 exact Bc hn fun hb=>hK _ _ _ (SC hT hT Ap7 fun q hq=>by
  cases hz:hp q.1 with
  |none=>rfl
  |some c=>exact absurd ((FH q hq).trans ((B9 hb).1 q.1 q.2 hq)) (hT.keep q.1 (by rw[hz];simp)))
theorem O6(hn:Rel none none){C:Iz}{call:Ap}{K:St->Option R}{K':St->Option R'}(Nm:∀x∈o.op.operands.toList,Cu tm x=Cu tm' x)(hS:∀i,HA o tm' Dq i->hp i=Dq i\/(hp i=none/\∀b,Rel none b))(hdd:∀d,o.dst=some d->hp d=Dq d)(hNN:∀i,N<=i->hp i=Dq i)(hK:∀v Dl G3,XN N (HA o tm' Dq) o.dst hp Dq Dl G3->Rel (K ⟨Cc tm o.dst v,Dl⟩) (K' ⟨Cc tm' o.dst v,G3⟩)):Rel (EC C P N call ⟨tm,hp⟩ o K) (EC C P N call ⟨tm',Dq⟩ o K'):=by
 unfold EC;have hl:∀x∈o.op.operands.toList,∀i∈Cb (Cu tm' x),HA o tm' Dq i:=fun x hx i hi=>.inl ⟨x,hx,hi⟩;have Wc:Tn o.op=false->∀x∈o.op.operands.toList,∀i∈Cb (Cu tm' x),∀c,Dq i=some (.st c)->∀q∈c,∀k∈Ay q,HA o tm' Dq k:=fun ha x hx i hi c hc q hq k hk=>.inr ⟨ha,i,c,⟨x,hx,hi⟩,hc,q,hq,hk⟩;generalize hLd:HA o tm' Dq=S at *
 generalize hop:o.op=op at *
 split
 ·rename_i t x y;simp only[Nm x (by simp[Op.operands]),Nm y (by simp[Op.operands])];refine Bc hn fun hd=>Agx (N:=N) hn hS (fun i hi=>hl x (by simp[Op.operands]) i (O9 hi)) (fun i hi=>hl y (by simp[Op.operands]) i (Ho hi)) fun Dl G3 hh=>?_;have hd':=Option.isNone_iff_eq_none.1 hd;have:=hK .top Dl G3 (by rw[hd'];exact hh)
  rw[hd'] at this;exact this
 ·rename_i c
  have Oj:∀x∈c.args.toList,x∈(Op.call c).operands.toList:=by
   intro x hx;simp only[Op.operands,Call.operands,Array.toList_append,B2];exact .inr hx
  split
  ·rename_i hc;refine Eg hn fun d hd=>B6 hn fun x _ hx=>B6 hn fun y _ hy=>Gz hn (B6 hn fun _ _ _=>B6 hn fun _ _ _=>?_);subst hy;have hxm:=Oj x (by rw[hx];simp)
   have hym:=Oj y (by rw[hx];simp)
   simp only[Nm x hxm,Nm y hym];refine KL hn hS (hdd d hd) (fun i hi=>hl x hxm i (Ho hi)) (fun i hi=>hl y hym i (Ho hi)) fun v Dl G3 hh=>?_;have:=hK v Dl G3 (by rw[hd];exact hh N)
   rw[hd] at this;exact this
  ·rename_i hc;refine B6 hn fun x _ hx=>B6 hn fun y _ hy=>Gz hn (B6 hn fun _ _ _=>B6 hn fun _ _ _=>?_);subst hy;have hxm:=Oj x (by rw[hx];simp)
   have hym:=Oj y (by rw[hx];simp)
   simp only[Nm x hxm,Nm y hym];exact Akp hn hS (fun i hi=>hl x hxm i (Ho hi)) (fun i hi=>hl y hym i (Ho hi)) hK
  ·rename_i f hcf;refine Af8 hn (List.map_congr_left fun x hx=>Nm x (Oj x hx)) hS (fun p hp i hi=>?_) (fun p hp i hi=>?_) hdd hNN hK
   ·obtain⟨x,hx,rfl⟩:=List.mem_map.1 hp;exact hl x (Oj x hx) i hi
   ·obtain⟨x,hx,rfl⟩:=List.mem_map.1 hp;exact Wc (by simp only[Tn,hcf]) x (Oj x hx) i hi
  ·exact hn
 ·exact hn
theorem SB(hn:Rel none none){C:Iz}{call:Ap}{K:St->Option R}{K':St->Option R'}(Nm:∀x∈o.op.operands.toList,Cu tm x=Cu tm' x)(hK:∀v Dl,(∀i,hp i≠none->Dl i≠none)->Rel (K ⟨Cc tm o.dst v,Dl⟩) (K' ⟨Cc tm' o.dst v,Dl⟩)):Rel (EC C P N call ⟨tm,hp⟩ o K) (EC C P N call ⟨tm',hp⟩ o K'):=
 O6 hn Nm (fun _ _=>.inl rfl) (fun _ _=>rfl) (fun _ _=>rfl) fun v Dl G3 hT=>by
  have:Dl=G3:=funext fun i=>hT.same i rfl;subst this;exact hK v Dl hT.keep
end
section
variable {R:Type}{r:R}{C:Iz}{P:Program}{N:Nat}{call:Ap}{ops:Array Oper}{o x:Oper}{s:St}{K:St->Option R}
theorem Acw{tm:Nat->PV}{hp Dl:Nat->Option Ca}{tm':Nat->PV}{q:CK}(hm:Kg P o.op=false)(ht:∀t∈looks ops o,tm t=tm' t)(h:gE C P N call ops o ⟨tm,hp⟩=some q):gE C P N call ops o ⟨tm',Dl⟩=some q:=
 KQ (s:=⟨tm,hp⟩) (s':=⟨tm',Dl⟩) ht (fun h=>by rw[hm] at h;cases h) h
theorem ND{tm:Nat->PV}{hp:Nat->Option Ca}(hm:Kg P o.op=false)(h:Er C P N call ops o ⟨tm,hp⟩ K=some r):
  ∃v nw,gE C P N call ops o ⟨tm,hp⟩=some (v,[],nw)/\Io N o.dst=true/\Cn hp nw=true/\(∀p∈nw,o.dst=some p.1)/\K ⟨Cc tm o.dst v,A3 hp nw⟩=some r:=by
 have hM:Y2 C P o.op=false:=by
  cases hh:Y2 C P o.op
  ·rfl
  ·rw[LJ hh] at hm;cases hm
 rw[Ow (by simp[Jf,hM])] at h;cases e:gE C P N call ops o ⟨tm,hp⟩ with
 |none=>rw[e] at h;cases h
 |some q=>
  obtain⟨v,fz,nw⟩:=q;obtain⟨h1,h2⟩:=(Z9 e).1 hm;simp only at h1 h2;subst h1;rw[e] at h;obtain⟨hb,h⟩:=Aq h;simp only[Fe] at hb;exact⟨v,nw,rfl,hb.1,hb.2,h2,h⟩
theorem RX{tm:Nat->PV}{hp:Nat->Option Ca}{v:PV}{nw:List (Nat × Ca)}(hm:Kg P o.op=false)(e:gE C P N call ops o ⟨tm,hp⟩=some (v,[],nw))(hd:Io N o.dst=true)(ha:Cn hp nw=true)(h:K ⟨Cc tm o.dst v,A3 hp nw⟩=some r):Er C P N call ops o ⟨tm,hp⟩ K=some r:=by
 have hM:Y2 C P o.op=false:=by
  cases hh:Y2 C P o.op
  ·rfl
  ·rw[LJ hh] at hm;cases hm
 rw[Ow (by simp[Jf,hM]),e];show Ar _ _=_;have ha':Cn hp nw=true:=ha;rw[hd,ha'];exact h
theorem R3{hp:Nat->Option Ca}{nw:List (Nat × Ca)}(ha:Cn hp nw=true){i:Nat}(hi:∀p∈nw,p.1≠i):A3 hp nw i=hp i:=
 (Fs (B9 ha).2).2 i fun b hb=>hi _ hb rfl
theorem As6{hp Dl:Nat->Option Ca}{nw:List (Nat × Ca)}(ha:Cn hp nw=true){g:Nat->Option Ca}(h1:∀i,(∀p∈nw,p.1≠i)->g i=Dl i)(h2:∀i,(∃p∈nw,p.1=i)->g i=A3 hp nw i)(ha':Cn Dl nw=true):g=A3 Dl nw:=by
 funext i
 by_cases h:∃p∈nw,p.1=i
 ·rw[h2 i h];obtain⟨⟨j,b⟩,hp,rfl⟩:=h;rw[(Fs (B9 ha).2).1 j b hp,(Fs (B9 ha').2).1 j b hp]
 ·have h':∀p∈nw,p.1≠i:=fun p hp e=>h ⟨p,hp,e⟩;rw[h1 i h',R3 ha' h']
theorem Azc(ap:JH C P ops x o)(hx:Jf C P ops x s.tm=true)(h:Er C P N call ops x s (fun s1=>Er C P N call ops o s1 K)=some r):Er C P N call ops o s (fun s1=>Er C P N call ops x s1 K)=some r:=by
 have hm:Kg P o.op=false:=ap.mx (by unfold Jf at hx;simp only[Fe] at hx;exact hx.1)
 rw[Lo hx] at h;obtain⟨tm,hp⟩:=s;have look:∀v,∀t∈looks ops o,Cc tm x.dst v t=tm t:=fun v=>Ga ap.xo
 have h1:=O6 (P:=P) (N:=N) (o:=x) (tm:=tm) (tm':=tm) (hp:=hp) (Dq:=hp) (K:=fun s1=>Er C P N call ops o s1 K) (K':=fun _=>none)
  (Rel:=fun (a:Option R)(_:Option R)=>a=some r->∃v nw,gE C P N call ops o ⟨tm,hp⟩=some (v,[],nw)/\Io N o.dst=true/\(∀p∈nw,o.dst=some p.1)/\Cn hp nw=true) (fun h=>by cases h) (fun _ _=>rfl) (fun _ _=>.inl rfl) (fun _ _=>rfl) (fun _ _=>rfl) (fun v Dl _ hT h=>by
   obtain⟨u,nw,hu,hd,ha,hn,_⟩:=ND hm h;refine⟨u,nw,Acw hm (look v) hu,hd,hn,V6 ha fun i b hi=>?_⟩;cases hh:hp i with
   |none=>rfl
   |some c=>exact absurd ((B9 ha).1 i b hi) (hT.keep i (by rw[hh];simp))) h
 obtain⟨v,nw,hv,hd,hn,ha⟩:=h1;refine RX hm hv hd ha ?_;have t2:∀t∈looks ops x,tm t=Cc tm o.dst v t:=fun t ht=>(Ga ap.ox t ht).symm;rw[Lo (by rw[<-Jr t2];exact hx)]
 refine O6 (P:=P) (N:=N) (o:=x) (tm:=tm) (tm':=Cc tm o.dst v) (hp:=hp) (Dq:=A3 hp nw) (Rel:=fun (a b:Option R)=>a=some r->b=some r) (fun h=>by cases h) (G9 t2) (fun i _=>?_) (fun d hxd=>?_) (fun i hi=>(R3 ha fun p hp e=>by have:=We hd (hn p hp);omega).symm) (fun u Dl G3 hT h=>?_) h
 ·by_cases hi:∃p∈nw,p.1=i
  ·obtain⟨⟨j,b⟩,Dq,rfl⟩:=hi;exact .inr ⟨(B9 ha).1 j b Dq,fun _ h=>by cases h⟩
  ·exact .inl (R3 ha fun p hp e=>hi ⟨p,hp,e⟩).symm
 ·refine (R3 ha fun p hp e=>?_).symm;have:=hn p hp;rw[e] at this;exact ap.ne d hxd this
 ·obtain⟨v',nw',Uu,_,ha',_,h'⟩:=ND hm h;have he:=Acw (Dl:=hp) hm (look u) Uu;rw[hv] at he;simp only[Option.some.injEq,Prod.mk.injEq,true_and] at he;obtain⟨rfl,rfl⟩:=he
  have hh:G3=A3 Dl nw:=by
   refine As6 ha (fun i hi=>?_) (fun i hi=>?_) ha'
   ·exact (hT.same i (R3 ha hi).symm).symm
   ·obtain⟨⟨j,b⟩,Dq,rfl⟩:=hi;refine (hT.off j (We hd (hn _ Dq)) (fun e=>ap.ne j e (hn _ Dq)) (.inr ((B9 ha).1 j b Dq))).2
  rw[hh,<-O4 ap.ne];exact h'
theorem Ayz(hw:Has C P o s)(ap:JH C P ops x o)(ho:Jf C P ops o s.tm=true)(h:Er C P N call ops x s (fun s1=>Er C P N call ops o s1 K)=some r):Er C P N call ops o s (fun s1=>Er C P N call ops x s1 K)=some r:=by
 have hm:Kg P x.op=false:=ap.mo (by unfold Jf at ho;simp only[Fe] at ho;exact ho.1)
 obtain⟨tm,hp⟩:=s;obtain⟨v,nw,hv,hd,ha,hn,h1⟩:=ND hm h;have t1:∀t∈looks ops o,Cc tm x.dst v t=tm t:=Ga ap.xo;change Er C P N call ops o ⟨Cc tm x.dst v,A3 hp nw⟩ K=some r at h1;rw[Lo (by rw[Jr t1];exact ho)] at h1
 rw[Lo ho];have hMo:Y2 C P o.op=true:=by unfold Jf at ho;simp only[Fe] at ho;exact ho.1
 have A2i:∀i,HA o tm hp i->hp i≠none:=by
  rintro i (⟨y,hy,hi⟩|⟨Z7,id,c,⟨y,hy,hi⟩,hc,p,Dq,hk⟩)
  ·exact hw.1 y hy i hi
  ·exact hw.2 hMo Z7 y hy id hi c hc p Dq i hk
 refine O6 (P:=P) (N:=N) (o:=o) (tm:=Cc tm x.dst v) (tm':=tm) (hp:=A3 hp nw) (Dq:=hp) (Rel:=fun (a b:Option R)=>a=some r->b=some r) (fun h=>by cases h) (G9 t1) (fun i hi=>?_) (fun d hod=>?_) (fun i hi=>R3 ha fun p hp e=>by have:=We hd (hn p hp);omega) (fun u Dl G3 hT h=>?_) h1
 ·refine .inl (R3 ha fun p Dl e=>A2i i hi ?_);rw[<-e];exact (B9 ha).1 p.1 p.2 Dl
 ·refine R3 ha fun p Dl e=>?_;have:=hn p Dl;rw[e] at this;exact ap.ne d this hod
 ·have Ve:∀p∈nw,Dl p.1=A3 hp nw p.1/\G3 p.1=none:=by
   intro p hp2;have hno:=(B9 ha).1 p.1 p.2 hp2;have h3:=hT.off p.1 (We hd (hn p hp2)) (fun e=>ap.ne p.1 (hn p hp2) e) (.inl fun hL=>A2i _ hL hno);exact⟨h3.1,h3.2.trans hno⟩
  have ha':Cn G3 nw=true:=V6 ha fun i b hi=>(Ve (i,b) hi).2;refine RX hm (Acw hm (fun t ht=>(Ga ap.ox t ht).symm) hv) hd ha' ?_
  have hh:Dl=A3 G3 nw:=by
   refine As6 ha (fun i hi=>?_) (fun i hi=>?_) ha'
   ·exact hT.same i (R3 ha hi)
   ·obtain⟨p,hp2,rfl⟩:=hi;exact (Ve p hp2).1
  rw[<-O4 ap.ne,<-hh];exact h
theorem Bao(hw:Has C P o s)(ap:JH C P ops x o)(h:Er C P N call ops x s (fun s1=>Er C P N call ops o s1 K)=some r):Er C P N call ops o s (fun s1=>Er C P N call ops x s1 K)=some r:=by
 cases hx:Jf C P ops x s.tm
 ·cases ho:Jf C P ops o s.tm
  ·exact Am3 hw ap.xo ap.ne ap.ox hx ho h
  ·exact Ayz hw ap ho h
 ·exact Azc ap hx h
theorem On(h:AG P o.op=true):Y2 C P o.op=false:=by
 unfold AG at h;split at h
 ·rename_i ho;rw[ho];rfl
 ·rename_i ho;rw[ho];rfl
 ·cases h
def XR(P:Program)(ops:Array Oper)(o:Oper)(tm:Nat->PV):Prop:=AG P o.op=true\/Hw ops o tm=some false
theorem GW{tm tm':Nat->PV}(h:∀t∈looks ops o,tm t=tm' t)(hl:XR P ops o tm):XR P ops o tm':=by
 rcases hl with hl|hl
 ·exact .inl hl
 ·exact .inr (by rw[<-Pm h];exact hl)
theorem ZL{tm:Nat->PV}(hl:XR P ops o tm):Jf C P ops o tm=false:=by
 rcases hl with hl|hl
 ·simp[Jf,On hl]
 ·simp[Jf,hl]
theorem Amj{q:CK}(hl:XR P ops o s.tm)(h:gE C P N call ops o s=some q):q.2.1=[]/\q.2.2=[]:=by
 unfold gE at h;split at h
 ·cases h
 ·rename_i hv
  have hl:AG P o.op=true:=by
   rcases hl with hl|hl
   ·exact hl
   ·rw[hv] at hl;cases hl
  rw[On hl] at h;have h:Apz C P N call o s=some q:=h;unfold AG at hl;split at hl
  ·rename_i t a ho;unfold Apz TB at h;rw[ho] at h
   have:=Aas (nz:=C.nz N) (P:=P) (f:=rd s.hp) (f':=rd s.hp) (g:=M3 s.hp) (g':=M3 s.hp) (t:=t) (x:=Cu s.tm a) (Rel:=fun (a b:Option CK)=>∀q,a=some q->q.2.1=[]/\q.2.2=[])
    (K:=fun v=>some (v,[],[])) (K':=fun v=>some (v,[],[])) (fun _ h=>by cases h) (fun _ _=>.inl ⟨rfl,rfl⟩) (fun v q hq=>by cases hq;exact⟨rfl,rfl⟩)
   exact this q h
  ·rename_i src dst y ho;unfold Apz TB at h;rw[ho] at h;simp only at h;unfold RU at h;split at hl
   ·rename_i hd;rw[hd] at h;simp only at h;split at h
    ·obtain⟨_,_,h⟩:=Ep h;obtain⟨_,_,h⟩:=C9 h;cases h;exact⟨rfl,rfl⟩
    ·split at h
     ·exact V2 (f:=M3 s.hp) (f':=M3 s.hp) (K':=fun _ _=>(none:Option CK)) (Rel:=fun (a _:Option CK)=>a=some q->q.2.1=[]/\q.2.2=[]) (fun h=>by cases h) (fun _ _=>.inl rfl) (fun n c h=>by
       obtain⟨_,h⟩:=Aq h;obtain⟨_,_,h⟩:=C9 h;obtain⟨_,_,h⟩:=C9 h;cases h;exact⟨rfl,rfl⟩) h
     ·exact V2 (f:=M3 s.hp) (f':=M3 s.hp) (K':=fun _ _=>(none:Option CK)) (Rel:=fun (a _:Option CK)=>a=some q->q.2.1=[]/\q.2.2=[]) (fun h=>by cases h) (fun _ _=>.inl rfl) (fun n c h=>by
       obtain⟨_,h⟩:=Aq h;obtain⟨_,_,h⟩:=C9 h;obtain⟨_,_,h⟩:=C9 h;cases h;exact⟨rfl,rfl⟩) h
     ·cases h
    ·cases h
   ·cases hl
  ·cases hl
 ·cases h;exact⟨rfl,rfl⟩
theorem Anv{tm tm':Nat->PV}{hp:Nat->Option Ca}(h:∀t∈looks ops o,tm t=tm' t){i:Nat}(hi:HA o tm hp i):HA o tm' hp i:=by
 have he:=G9 (ops:=ops) (o:=o) h;rcases hi with⟨y,hy,hi⟩|⟨Z7,id,c,⟨y,hy,hi⟩,hc,q⟩
 ·exact .inl ⟨y,hy,by rw[<-he y hy];exact hi⟩
 ·exact .inr ⟨Z7,id,c,⟨y,hy,by rw[<-he y hy];exact hi⟩,hc,q⟩
theorem A1v{hp Dl:Nat->Option Ca}{i:Nat}(h:Dl i=hp i):rd Dl i=rd hp i/\M3 Dl i=M3 hp i:=by unfold rd M3;rw[h];exact⟨rfl,rfl⟩
theorem MC{tm:Nat->PV}{hp:Nat->Option Ca}(hl:XR P ops o tm)(h:Er C P N call ops o ⟨tm,hp⟩ K=some r):
  ∃v,gE C P N call ops o ⟨tm,hp⟩=some (v,[],[])/\Io N o.dst=true/\K ⟨Cc tm o.dst v,hp⟩=some r:=by
 rw[Ow (ZL hl)] at h;cases e:gE C P N call ops o ⟨tm,hp⟩ with
 |none=>rw[e] at h;cases h
 |some q=>
  obtain⟨v,fz,nw⟩:=q;obtain⟨h1,h2⟩:=Amj hl e;simp only at h1 h2;subst h1;subst h2;rw[e] at h;obtain⟨hb,h⟩:=Aq h;simp only[Fe] at hb;exact⟨v,rfl,hb.1,h⟩
theorem UD{tm:Nat->PV}{hp:Nat->Option Ca}{v:PV}(hl:XR P ops o tm)(e:gE C P N call ops o ⟨tm,hp⟩=some (v,[],[]))(hd:Io N o.dst=true)(h:K ⟨Cc tm o.dst v,hp⟩=some r):Er C P N call ops o ⟨tm,hp⟩ K=some r:=by rw[Ow (ZL hl),e];show Ar _ _=_;have ha:Cn hp []=true:=rfl;simp only[hd,ha,Bool.and_self];exact h
theorem A0r(hw:Has C P o s)(xo:∀d,x.dst=some d->d ∉ looks ops o)(ne:∀d,x.dst=some d->o.dst≠some d)(ox:∀d,o.dst=some d->d ∉ looks ops x)(hl:XR P ops o s.tm)(Ahe:∀y∈o.op.operands.toList,∀i∈Cb (Cu s.tm y),¬HA x s.tm s.hp i)(hx:Jf C P ops x s.tm=true)(h:Er C P N call ops x s (fun s1=>Er C P N call ops o s1 K)=some r):Er C P N call ops o s (fun s1=>Er C P N call ops x s1 K)=some r:=by
 rw[Lo hx] at h;obtain⟨tm,hp⟩:=s;have look:∀v,∀t∈looks ops o,Cc tm x.dst v t=tm t:=fun v=>Ga xo
 have Ayf:∀{u:PV} {Dl:Nat->Option Ca} {q:CK},(∀y∈o.op.operands.toList,∀i∈Cb (Cu tm y),Dl i=hp i)->gE C P N call ops o ⟨Cc tm x.dst u,Dl⟩=some q->gE C P N call ops o ⟨tm,hp⟩=some q:=
  fun hh e=>KQ (s:=⟨Cc tm x.dst _,_⟩) (s':=⟨tm,hp⟩) (look _) (fun _ y hy i hi=>.inl (A1v (hh y hy i hi))) e
 have h1:=O6 (P:=P) (N:=N) (o:=x) (tm:=tm) (tm':=tm) (hp:=hp) (Dq:=hp) (K:=fun s1=>Er C P N call ops o s1 K) (K':=fun _=>none)
  (Rel:=fun (a:Option R)(_:Option R)=>a=some r->∃v,gE C P N call ops o ⟨tm,hp⟩=some (v,[],[])/\Io N o.dst=true) (fun h=>by cases h) (fun _ _=>rfl) (fun _ _=>.inl rfl) (fun _ _=>rfl) (fun _ _=>rfl) (fun v Dl _ hT h=>by
   obtain⟨u,hu,hd,_⟩:=MC (GW (fun t ht=>(look v t ht).symm) hl) h;exact⟨u,Ayf (fun y hy i hi=>hT.far i (Ahe y hy i hi) (hw.1 y hy i hi)) hu,hd⟩) h
 obtain⟨v,hv,hd⟩:=h1;refine UD hl hv hd ?_;have t2:∀t∈looks ops x,tm t=Cc tm o.dst v t:=fun t ht=>(Ga ox t ht).symm;rw[Lo (by rw[<-Jr t2];exact hx)]
 refine O6 (P:=P) (N:=N) (o:=x) (tm:=tm) (tm':=Cc tm o.dst v) (hp:=hp) (Dq:=hp) (Rel:=fun (a b:Option R)=>a=some r->b=some r) (fun h=>by cases h) (G9 t2) (fun _ _=>.inl rfl) (fun _ _=>rfl) (fun _ _=>rfl) (fun u Dl G3 hT h=>?_) h;have e1:Dl=G3:=funext fun i=>hT.same i rfl;subst e1;obtain⟨v',Uu,_,h'⟩:=MC (GW (fun t ht=>(look u t ht).symm) hl) h;have he:=Ayf (fun y hy i hi=>hT.far i (fun hR=>Ahe y hy i hi (Anv (fun t ht=>(t2 t ht).symm) hR)) (hw.1 y hy i hi)) Uu;rw[hv] at he;simp only[Option.some.injEq,Prod.mk.injEq,and_true] at he;subst he;rw[<-O4 ne];exact h'
theorem Az2(xo:∀d,x.dst=some d->d ∉ looks ops o)(ne:∀d,x.dst=some d->o.dst≠some d)(ox:∀d,o.dst=some d->d ∉ looks ops x)(hl:XR P ops x s.tm)(Ahe:∀y∈x.op.operands.toList,∀i∈Cb (Cu s.tm y),¬HA o s.tm s.hp i)(ho:Jf C P ops o s.tm=true)(h:Er C P N call ops x s (fun s1=>Er C P N call ops o s1 K)=some r):Er C P N call ops o s (fun s1=>Er C P N call ops x s1 K)=some r:=by
 obtain⟨tm,hp⟩:=s;obtain⟨v,hv,hd,h1⟩:=MC hl h;have t1:∀t∈looks ops o,Cc tm x.dst v t=tm t:=Ga xo;rw[Lo (by rw[Jr t1];exact ho)] at h1
 rw[Lo ho];refine O6 (P:=P) (N:=N) (o:=o) (tm:=Cc tm x.dst v) (tm':=tm) (hp:=hp) (Dq:=hp) (Rel:=fun (a b:Option R)=>a=some r->b=some r) (fun h=>by cases h) (G9 t1) (fun _ _=>.inl rfl) (fun _ _=>rfl) (fun _ _=>rfl) (fun u Dl G3 hT h=>?_) h1;have e1:Dl=G3:=funext fun i=>hT.same i rfl;subst e1;have t2:∀t∈looks ops x,tm t=Cc tm o.dst u t:=fun t ht=>(Ga ox t ht).symm;refine UD (GW t2 hl) (KQ (s:=⟨tm,hp⟩) (s':=⟨Cc tm o.dst u,Dl⟩) t2 (fun _ y hy i hi=>?_) hv) hd ?_
 ·have hi:i∈Cb (Cu tm y):=by rw[G9 t2 y hy];exact hi
  by_cases hn:hp i=none
  ·exact .inr ⟨Alo hn,Qj hn⟩
  ·obtain⟨h3,h4⟩:=A1v (hT.far i (Ahe y hy i hi) hn);exact .inl ⟨h3.symm,h4.symm⟩
 ·rw[<-O4 ne];exact h
def Aa4(P:Program)(x:Oper)(s s1:St):Prop:=(∀t,x.dst≠some t->s1.tm t=s.tm t)/\(∀i,s.hp i≠none->s1.hp i≠none)/\(Kg P x.op=false->∀i,s.hp i≠none->s1.hp i=s.hp i)
theorem U9{tm:Nat->PV}{d:Option Tmp}{v:PV}{t:Nat}(h:d≠some t):Cc tm d v t=tm t:=by
 cases d with
 |none=>rfl
 |some d=>exact Ao _ _ (by rintro rfl;exact h rfl)
theorem TN{K':St->Option R}(h:Er C P N call ops x s K=some r)(hK:∀s1,Aa4 P x s s1->K s1=some r->K' s1=some r):Er C P N call ops x s K'=some r:=by
 cases hx:Jf C P ops x s.tm
 ·rw[Ow hx] at h ⊢;cases ex:gE C P N call ops x s with
  |none=>rw[ex] at h;cases h
  |some q=>
   rw[ex] at h;obtain⟨hb,h1⟩:=Aq h;simp only[Fe] at hb;show Ar _ _=_;rw[hb.1,hb.2];refine hK _ ⟨fun t ht=>U9 ht,fun i hi=>S4 hb.2 hi,fun hm i hi=>?_⟩ h1;show A3 (Ah s.hp q.2.1) q.2.2 i=s.hp i;rw[Hy hb.2 hi,((Z9 ex).1 hm).1];simp
 ·rw[Lo hx] at h ⊢
  exact SB (P:=P) (N:=N) (o:=x) (tm:=s.tm) (tm':=s.tm) (hp:=s.hp) (Rel:=fun (a b:Option R)=>a=some r->b=some r) (fun h=>by cases h) (fun _ _=>rfl) (fun v Dl hh h=>hK _ ⟨fun t ht=>U9 ht,hh,fun hm=>by
   have hM:Y2 C P x.op=true:=by unfold Jf at hx;simp only[Fe] at hx;exact hx.1
   rw[LJ hM] at hm;cases hm⟩ h) h
theorem Has.keeps{s1:St}(h:Has C P o s)(ap:JH C P ops x o)(hk:Aa4 P x s s1):Has C P o s1:=by
 have hop:∀y∈o.op.operands.toList,Cu s1.tm y=Cu s.tm y:=fun y hy=>G9 (ops:=ops) (o:=o) (fun t ht=>hk.1 t fun hd=>ap.xo t hd ht) y hy;refine⟨fun y hy i hi=>?_,fun hM hA y hy i hi c hc p hp k hkk=>?_⟩
 ·rw[hop y hy] at hi;exact hk.2.1 i (h.1 y hy i hi)
 ·rw[hop y hy] at hi;have hi0:=h.1 y hy i hi;rw[hk.2.2 (ap.mo hM) i hi0] at hc;exact hk.2.1 k (h.2 hM hA y hy i hi c hc p hp k hkk)
theorem TE:∀(l:List Oper){s:St}{K:St->Option R},Has C P o s->(∀x∈l,JH C P ops x o)->Sy C P N call ops l s (fun s1=>Er C P N call ops o s1 K)=some r->Er C P N call ops o s (fun s1=>Sy C P N call ops l s1 K)=some r
 |[],_,_,_,_,h=>h
 |x::l,s,K,hw,ap,h=>by
  refine Bao hw (ap x (by simp)) ?_;refine TN (K:=fun s1=>Sy C P N call ops l s1 (fun s2=>Er C P N call ops o s2 K)) h fun s1 hk h1=>?_;exact TE l (hw.keeps (ap x (by simp)) hk) (fun y hy=>ap y (Tu _ hy)) h1
theorem BP:∀(l l':List Oper){s:St}{K:St->Option R},Sy C P N call ops (l++l') s K=Sy C P N call ops l s (fun s1=>Sy C P N call ops l' s1 K)
 |[],_,_,_=>rfl
 |x::l,l',s,K=>by
  show Er C P N call ops x s (fun s1=>Sy C P N call ops (l++l') s1 K)=Er C P N call ops x s (fun s1=>Sy C P N call ops l s1 _)
  congr 1
  funext s1
  exact BP l l'
theorem An4{l l':List Oper}(hw:Has C P o s)(ap:∀x∈l,JH C P ops x o)(h:Sy C P N call ops (l++o::l') s K=some r):Er C P N call ops o s (fun s1=>Sy C P N call ops (l++l') s1 K)=some r:=by rw[BP] at h;have:=TE l hw ap h;refine TN this fun s1 _ h1=>?_;rw[BP];exact h1
end
open Go.RowKit
section
variable {R:Type}{r:R}{P:Program}{N:Nat}{w0:World}{X0:Gc}{Y:Nat->Prop}{β β':Bt}{s:St}{a:Act}{w w':World}{o:Oper}{ops:Array Oper}{C:Iz}{call:Ap}{K:St->Option R}
theorem Yk(h:Cg N w0 X0 Y β s a w){j d:Nat}(hd:(ops[j]?).bind (·.dst)=some d){v:Value}(ht:s.tm d=.sc v):yielded ops a.tmps j=match v with | .bool b=>some b|_=>none:=by
 have Ci:d<N:=by
  rcases Is d N with h'|h'
  ·exact h'
  ·rw[h.tmo d h'] at ht;cases ht
 have hv:=h.tms d Ci;rw[ht] at hv;have hv:=Vr hv;have As9:d<a.tmps.size:=by rw[h.tsz];exact Ci
 have he:a.tmps[d]?=some v:=by
  rw[Array.getElem?_eq_getElem As9];simp[As9] at hv;rw[hv]
 unfold yielded;rw[hd];simp only[Option.bind_some,he];cases v<;>rfl
theorem HG(h:Cg N w0 X0 Y β s a w){G:Vt}(Jo:OP P G w0 X0)(C7:∀f args res,call f args=some res->C3 G P f args res){i:Nat}(hi:ops[i]?=some o)(hk:Er C P N call ops o s K=some r):
  ∃s',K s'=some r/\∀(next:Act->World->Prop) (Q:Exit->Act->World->Prop),(∀a' w' β',Cg N w0 X0 Y β' s' a' w'->next a' w')->wpOp P ops Q i next a w:=by
 rw[RJ] at hk
 have hw:∀b,Hw ops o s.tm=some b->Region.wanted o (yielded ops a.tmps)=b:=by
  intro b hb;unfold Hw at hb;unfold Region.wanted;cases hg:o.guard with
  |none=>rw[hg] at hb;simpa using hb
  |some q=>
   obtain⟨j,want⟩:=q;rw[hg] at hb;simp only at hb ⊢;cases hd:(ops[j]?).bind (·.dst) with
   |none=>rw[hd] at hb;cases hb
   |some d=>
    rw[hd] at hb;simp only at hb;split at hb
    ·rename_i b' ht;rw[Yk h hd ht];simp at hb;rw[<-hb];cases b'<;>cases want<;>rfl
    ·rename_i ht;rw[Yk h hd ht];simp at hb;rw[hb];rfl
    ·cases hb
 split at hk
 ·cases hk
 ·rename_i hv;obtain⟨s',hs',hn⟩:=UH h Jo C7 hk;refine⟨s',hs',fun next Q SJ=>?_⟩;unfold wpOp;rw[hi];simp only[hw _ hv,if_true];exact .inl (hn next Q SJ)
 ·rename_i hv;obtain⟨hd,hk⟩:=Aq hk;refine⟨_,hk,fun next Q SJ=>?_⟩;unfold wpOp;rw[hi];simp only[hw _ hv];refine SJ _ _ β (h.put hd (Az.sc _) (by simp[Cb,Co,Ay]))
theorem Cg.known(h:Cg N w0 X0 Y β s a w){d:Nat}(hd:s.tm d=.ub):∃b,Cg N w0 X0 Y β ⟨Dt s.tm d (.sc (.bool b)),s.hp⟩ a w:=by
 have Ci:d<N:=by
  rcases Is d N with h'|h'
  ·exact h'
  ·rw[h.tmo d h'] at hd;cases hd
 have hu:=h.tms d Ci;rw[hd] at hu;have Mk:Az w (Dv s.hp β Y) .ub (a.tmps.getD d undef):=hu
 obtain⟨b,hv⟩:∃b,a.tmps.getD d undef=.bool b:=by
  generalize a.tmps.getD d undef=x at Mk;cases Mk with
  |ub b=>exact⟨b,rfl⟩
 refine⟨b,⟨h.dfr,h.tsz,fun i hi=>?_,fun i hi=>?_,h.box,h.inj,h.blt,fun i hi=>?_,h.wfB,h.ownd,h.rngB,h.pin,h.stp,h.Yx,h.Ylt,h.fr⟩⟩
 ·show Dt s.tm d _ i=_;rw[Ao _ _ (by omega)];exact h.tmo i hi
 ·by_cases e:i=d
  ·subst e;show E2 _ _ _ (Dt s.tm i _ i) _;rw[Av,hv];exact Az.sc _
  ·show E2 _ _ _ (Dt s.tm d _ i) _;rw[Ao _ _ e];exact h.tms i hi
 ·by_cases e:i=d
  ·subst e;show ∀id∈Cb (Dt s.tm i _ i),_;rw[Av];simp[Cb,Co,Ay]
  ·show ∀id∈Cb (Dt s.tm d _ i),_;rw[Ao _ _ e];exact h.wfT i hi
theorem YI{x y:Option R}(h:FI x y=some r):x=some r/\y=some r:=by
 unfold FI at h;split at h
 ·rename_i e;exact⟨h,e ▸ h⟩
 ·cases h
theorem X6(h:Cg N w0 X0 Y β s a w){F:St->Option R}(hk:Aku ops o s F=some r):∃s',F s'=some r/\Cg N w0 X0 Y β s' a w:=by
 unfold Aku at hk;split at hk
 ·exact⟨s,hk,h⟩
 ·split at hk
  ·exact⟨s,hk,h⟩
  ·split at hk
   ·rename_i d _ ht;obtain⟨b,hb⟩:=h.known ht;obtain⟨h1,h2⟩:=YI hk;cases b
    ·exact⟨_,h2,hb⟩
    ·exact⟨_,h1,hb⟩
   ·exact⟨s,hk,h⟩
theorem JO{G:Vt}(Jo:OP P G w0 X0)(C7:∀f args res,call f args=some res->C3 G P f args res){Q:Exit->Act->World->Prop}(hQ:∀s' a' w' β',K s'=some r->Cg N w0 X0 Y β' s' a' w'->Q .normal a' w'):
  ∀(l:B7) (os:List Oper),l.length=os.length->(∀(k i:Nat),l[k]?=some i->ops[i]?=os[k]?)->∀{s:St} {a:Act} {w:World} {β:Bt},Cg N w0 X0 Y β s a w->Vh C P N call ops os s K=some r->wpOps P ops Q l a w
 |[],[],_,_,s,a,w,β,h,hk=>by
  show Q .normal a w;exact hQ s a w β hk h
 |[],_::_,hl,_,_,_,_,_,_,_=>by cases hl
 |_::_,[],hl,_,_,_,_,_,_,_=>by cases hl
 |i::l,o::os,hl,hi,s,a,w,β,h,hk=>by
  rw[wpOps_cons];obtain⟨s1,hk,h⟩:=X6 h hk;obtain⟨s',hs',hn⟩:=HG h Jo C7 (by simpa using hi 0 i rfl) hk;exact hn _ _ fun a' w' β' h'=>JO Jo C7 hQ l os (by simpa using hl) (fun k j hj=>by simpa using hi (k+1) j (by simpa using hj)) h' hs'
theorem Cg.drew(h:Cg N w0 X0 Y β s a w):Cg N w0 X0 Y β s a { w with drawn:=w.drawn+1 }:=by
 have:=h.stepR (d:=none) (v:=.top) (nw:=[]) (val:=undef) (w':={ w with drawn:=w.drawn+1 }) (β':=β) rfl rfl
  ⟨rfl,rfl,rfl,⟨Cd _,fun _ _ _=>rfl,fun _ _=>Fp.refl _ _⟩,fun _ _=>rfl,by simp,by simp,by simp,by simp,by simp,.top _,by simp[Cb,Co,Ay]⟩
 exact this
theorem Ab2(h:Cg N w0 X0 Y β s a w){G:Vt}(Jo:OP P G w0 X0)(C7:∀f args res,call f args=some res->C3 G P f args res){id:Nat}{Q:Exit->Act->World->Prop}(hk:Vh C P N call ops ops.toList s K=some r)(hQ:∀s' a' w' β',K s'=some r->Cg N w0 X0 Y β' s' a' w'->Q .normal a' w'):(Code.region id ops false).wp P Q a w:=by
 refine wp_region (JO Jo C7 hQ (List.range ops.size) ops.toList (by simp) (fun k i hi=>?_) h hk);rw[List.getElem?_range] at hi
 ·simp at hi;subst hi;simp
 ·rcases Is k ops.size with h'|h'
  ·exact h'
  ·rw[List.getElem?_eq_none (by simpa using h')] at hi;cases hi
def R4(n:Nat)(listed:Array Bool):B7:=(List.range n).filter fun i=> !listed.getD i true
def A3v(ops:Array Oper)(listed:Array Bool)(o:Oper):Prop:=∀e∈o.after,Region.binds .any e=true->listed.getD e.on false=true
theorem testBit_or{a b j:Nat}:(a ||| b).testBit j=(a.testBit j||b.testBit j):=Nat.testBit_or a b j
theorem ZZ{acc:B7}{j:Nat}:∀(es:List Edge)(v:Nat),(es.foldl (fun s e=>bif Region.binds .any e then s ||| 2 ^ e.on ||| acc.getD e.on 0 else s) v).testBit j=true ->
  v.testBit j=true\/∃e∈es,Region.binds .any e=true/\(j=e.on\/(acc.getD e.on 0).testBit j=true)
 |[],v,h=>.inl h
 |e::es,v,h=>by
  rcases ZZ es _ h with h|⟨e',he',h⟩
  ·cases hb:Region.binds .any e<;>simp only[hb] at h
   ·exact .inl h
   ·simp only[cond_true,Nat.testBit_or,Bool.or_eq_true] at h;rcases h with (h|h)|h
    ·exact .inl h
    ·refine .inr ⟨e,by simp,hb,.inl ?_⟩;rw[Nat.testBit_two_pow] at h;exact (of_decide_eq_true h).symm
    ·exact .inr ⟨e,by simp,hb,.inr h⟩
  ·exact .inr ⟨e',by simp[he'],h⟩
theorem Yq{listed:Array Bool}(hc:∀(j:Nat) oj,ops[j]?=some oj->listed.getD j false=true->A3v ops listed oj):
  ∀(rest done:List Oper) (acc:B7),ops.toList=done++rest->acc.length=done.length ->
   (∀(k:Nat) o,done[k]?=some o->A3v ops listed o->∀j,(acc.getD k 0).testBit j=true->listed.getD j false=true) ->
   ∀(k:Nat) o,ops[k]?=some o->A3v ops listed o->∀j,((Ll rest acc).getD k 0).testBit j=true->listed.getD j false=true
 |[],done,acc,he,_,h,k,o,ho,hf,j,hj=>by
  refine h k o ?_ hf j hj;rw[List.append_nil] at he;rw[<-he]
  simpa using ho
 |o'::rest,done,acc,he,hl,h,k,o,ho,hf,j,hj=>by
  refine Yq hc rest (done++[o']) _ (by rw[he];simp) (by simp[hl]) ?_ k o ho hf j hj
  intro k o ho hf j hj;rcases Nat.lt_trichotomy k done.length with Ci|heq|hgt
  ·rw[List.getElem?_append_left Ci] at ho;rw[List.getD_eq_getElem?_getD,List.getElem?_append_left (by omega),<-List.getD_eq_getElem?_getD] at hj;exact h k o ho hf j hj
  ·subst heq;simp at ho;subst ho;rw[<-hl] at hj;simp only[List.getD_eq_getElem?_getD,List.getElem?_append_right (Cd _),Nat.sub_self,List.getElem?_cons_zero,Option.getD_some] at hj
   have hj:(o'.after.toList.foldl (fun s e=>bif Region.binds .any e then s ||| 2 ^ e.on ||| acc.getD e.on 0 else s) 0).testBit j=true:=by
    simpa only[List.getD_eq_getElem?_getD] using hj
   rcases ZZ _ _ hj with h0|⟨e,hm,hb,h1⟩
   ·simp at h0
   ·have SP:=hf e (by simpa using hm) hb;rcases h1 with h1|h1
    ·rw[h1];exact SP
    ·cases hd:done[e.on]? with
     |none=>
      have:acc.getD e.on 0=0:=by
       rw[List.getD_eq_getElem?_getD,List.getElem?_eq_none (by rw[hl];exact List.getElem?_eq_none_iff.1 hd)]
       rfl
      rw[this] at h1;simp at h1
     |some oe=>
      have hoe:ops[e.on]?=some oe:=by
       rw[<-Array.getElem?_toList,he,List.getElem?_append_left (by
        rcases Is e.on done.length with h'|h'
        ·exact h'
        ·rw[List.getElem?_eq_none h'] at hd;cases hd)]
       exact hd
      exact h e.on oe hd (hc e.on oe hoe SP) j h1
  ·rw[List.getElem?_eq_none (by simp;omega)] at ho
   cases ho
theorem LR{bs:B7}:∀(l:List Oper)(n:Nat),QX C P ops bs l n=true->∀(k:Nat) o,l[k]?=some o->∀(j:Nat) x,ops[j]?=some x->j<n+k->VB C P ops x o=true->(bs.getD (n+k) 0).testBit j=true
 |[],_,_,k,o,ho,_,_,_,_,_=>by simp at ho
 |o'::l,n,h,k,o,ho,j,x,hx,hj,Nq=>by
  simp only[QX,Fe] at h;cases k with
  |zero=>
   simp at ho;subst ho
   have:=List.all_eq_true.1 h.1 (x,j) (by
    rw[List.mem_zipIdx_iff_getElem?]
    simpa using hx)
   simp only[Nq,F1,Bool.or_false,Bool.or_eq_true,Bool.not_eq_true'] at this;rcases this with h'|h'
   ·have:Nat.blt j n=true:=Nat.ble_eq_true_of_le (by omega);rw[this] at h';cases h'
   ·exact h'
  |succ k=>
   have:=LR l (n+1) h.2 k o (by simpa using ho) j x hx (by omega) Nq
   rwa [show n+(k+1)=n+1+k by omega]
theorem Nh{n i:Nat}{listed:Array Bool}:i∈R4 n listed↔i<n/\listed.getD i true=false:=by unfold R4;simp[List.mem_filter]
theorem GJ{n i:Nat}{listed:Array Bool}(hi:i∈R4 n listed)(Kx:listed.size=n):∃l1 l2,R4 n listed=l1++i::l2/\R4 n (listed.setIfInBounds i true)=l1++l2/\∀j∈l1,j<i:=by
 obtain⟨Ci,Np⟩:=Nh.1 hi
 have hr:List.range n=List.range i++i::(List.range (n-i-1)).map (i+1 + ·):=by
  conv=>lhs;rw[show n=i+(1+(n-i-1)) by omega]
  rw[List.range_add,List.range_add];simp[Jq]
 refine⟨(List.range i).filter fun i=> !listed.getD i true,((List.range (n-i-1)).map (i+1 + ·)).filter fun i=> !listed.getD i true,?_,?_,fun j hj=>?_⟩
 ·unfold R4;rw[hr,List.filter_append,List.filter_cons_of_pos (by rw[Np];rfl)]
 ·unfold R4;rw[hr,List.filter_append,List.filter_cons_of_neg (by simp[Kx,Ci])]
  congr 1
  ·refine List.filter_congr fun j hj=>?_;rw[getD_set_ne true (by have:=List.mem_range.1 hj;omega)]
  ·refine List.filter_congr fun j hj=>?_;obtain⟨k,_,rfl⟩:=List.mem_map.1 hj;rw[getD_set_ne true (by omega)]
 ·exact List.mem_range.1 (List.mem_filter.1 hj).1
theorem Awh(h:Cg N w0 X0 Y β s a w)(o:Oper):Has C P o s:=by refine⟨fun y _ i hi=>Gv h y i hi,fun _ _ y _ i hi c hc p hp k hk=>h.wfB i c hc p hp k hk⟩
theorem Aan(Av1:(ops.toList.zipIdx.all fun q=>q.1.after.toList.all fun e=> !Region.binds .any e||Nat.blt e.on q.2)=true){listed:Array Bool}(inv:HeadInv .any ops ops.size listed)(hr:Region.ready .any ops listed=[]):R4 ops.size listed=[]:=by
 cases hp:R4 ops.size listed with
 |nil=>rfl
 |cons i l=>
  exfalso;have hi:i∈R4 ops.size listed:=by rw[hp];simp
  obtain⟨Ci,Np⟩:=Nh.1 hi;obtain⟨l1,l2,h1,_,h3⟩:=GJ hi inv.size
  have SP:l1=[]:=by
   cases l1 with
   |nil=>rfl
   |cons j l1=>
    rw[hp] at h1;simp at h1;have:=h3 j (by simp);omega
  subst SP
  have Bh6:∀j,j<i->listed.getD j false=true:=by
   intro j hj;cases hh:listed.getD j false with
   |true=>rfl
   |false=>
    have:j∈R4 ops.size listed:=Nh.2 ⟨by omega,getD_in (by rw[inv.size];omega) hh⟩
    have hs:(R4 ops.size listed).Pairwise (· < ·):=List.Pairwise.filter _ List.pairwise_lt_range;rw[h1] at this hs;simp at this;rcases this with e|e
    ·omega
    ·have:=(List.pairwise_cons.1 hs).1 j e;omega
  have:i∈Region.ready .any ops listed:=by
   refine mem_ready.2 ⟨Np,ops[i],Array.getElem?_eq_getElem Ci,fun e he hb=>Bh6 _ ?_⟩
   have:=List.all_eq_true.1 Av1 (ops[i],i) (by
    rw[List.mem_zipIdx_iff_getElem?];simp[Ci])
   have:=List.all_eq_true.1 this e (Array.mem_toList_iff.2 he);simp only[hb,F1,Bool.false_or] at this;exact Nat.lt_of_succ_le (Sn this)
  rw[hr] at this;simp at this
theorem Abt{G:Vt}(Jo:OP P G w0 X0)(C7:∀f args res,call f args=some res->C3 G P f args res)(hok:WC C P ops=true){Q:Exit->Act->World->Prop}(hQ:∀s' a' w' β',K s'=some r->Cg N w0 X0 Y β' s' a' w'->Q .normal a' w'):
  ∀(fuel:Nat) {listed:Array Bool} {s:St} {a:Act} {w:World} {β:Bt},HeadInv .any ops ops.size listed->(R4 ops.size listed).length=fuel->Cg N w0 X0 Y β s a w->Sy C P N call ops ((R4 ops.size listed).filterMap (ops[·]?)) s K=some r->wpAny P .any ops Q fuel listed a w:=by
 unfold WC at hok;simp only[Fe] at hok;obtain⟨Av1,A5c⟩:=hok;intro fuel
 induction fuel with
 |zero=>
  intro listed s a w β inv hf h hk;have hp:=List.eq_nil_of_length_eq_zero hf;rw[hp] at hk;refine⟨?_,hQ s a w β hk h⟩;cases hr:Region.ready .any ops listed with
  |nil=>rfl
  |cons i l=>
   exfalso;have hi:i∈Region.ready .any ops listed:=by rw[hr];simp
   obtain⟨Np,o,ho,_⟩:=mem_ready.1 hi;have:i∈R4 ops.size listed:=Nh.2 ⟨(Array.getElem?_eq_some_iff.1 ho).1,Np⟩;rw[hp] at this;simp at this
 |succ fuel ih=>
  intro listed s a w β inv hf h hk;refine⟨fun hr=>?_,fun i hi=>?_⟩
  ·rw[Aan Av1 inv hr] at hf;cases hf
  ·obtain⟨Np,o,ho,Qx⟩:=mem_ready.1 hi;have Ci:i<ops.size:=(Array.getElem?_eq_some_iff.1 ho).1;obtain⟨l1,l2,h1,h2,h3⟩:=GJ (Nh.2 ⟨Ci,Np⟩) inv.size;rw[h1,List.filterMap_append,List.filterMap_cons_some ho] at hk
   have Z7:∀x∈l1.filterMap (ops[·]?),JH C P ops x o:=by
    intro x hx;obtain⟨j,hj,hxj⟩:=List.mem_filterMap.1 hx;refine Avx ?_;cases Nq:VB C P ops x o with
    |false=>rfl
    |true=>
     exfalso;have EI:=LR ops.toList 0 A5c i o (by simpa using ho) j x hxj (by have:=h3 j hj;omega) Nq
     rw[Ir] at EI;have hjl:=Yq (listed:=listed) (fun j oj hj hl=>inv.closed j oj hj hl) ops.toList [] [] (by simp) rfl (by simp) i o ho Qx j EI;have:j∈R4 ops.size listed:=by rw[h1];simp[hj]
     have:=getD_both (Nh.1 this).2;rw[hjl] at this;cases this
   obtain⟨s',hs',hn⟩:=HG h Jo C7 ho (An4 (Awh h o) Z7 hk);refine hn _ _ fun a' w' β' h'=>ih (inv.set hi Ci) ?_ h' ?_
   ·rw[h2];rw[h1] at hf;simp at hf ⊢;omega
   ·rw[h2,List.filterMap_append];exact hs'
theorem Wn(h:Cg N w0 X0 Y β s a w){G:Vt}(Jo:OP P G w0 X0)(C7:∀f args res,call f args=some res->C3 G P f args res)(hm:P.follows .mixedOrders=true)(hok:WC C P ops=true){Q:Exit->Act->World->Prop}(hk:Sy C P N call ops ops.toList s K=some r)(hQ:∀s' a' w' β',K s'=some r->Cg N w0 X0 Y β' s' a' w'->Q .normal a' w'):wpAny P .any ops Q ops.size (Array.replicate ops.size false) a { w with drawn:=w.drawn+1 }:=by
 have hp:R4 ops.size (Array.replicate ops.size false)=List.range ops.size:=by
  unfold R4;refine List.filter_eq_self.2 fun i hi=>?_;have:=List.mem_range.1 hi;simp[this]
 refine Abt (C:=C) Jo C7 hok hQ ops.size ⟨by simp,fun j oj _ hl=>(by rw[getD_replicate_false] at hl;cases hl),fun t ht ht'=>by omega⟩ (by rw[hp];simp) h.drew ?_
 rw[hp]
 have:(List.range ops.size).filterMap (ops[·]?)=ops.toList:=by
  refine List.ext_getElem? fun k=>?_
  have:∀(n:Nat),n<=ops.size->(List.range n).filterMap (ops[·]?)=ops.toList.take n:=by
   intro n
   induction n with
   |zero=>intro _;rfl
   |succ n ih=>
    intro hn;rw[List.range_succ,List.filterMap_append,ih (by omega),List.take_add_one]
    congr 1
    have:ops[n]?=some ops[n]:=Array.getElem?_eq_getElem (by omega);simp[this]
  rw[this ops.size (Cd _)]
  congr 1
  exact Iu (by simp)
 rw[this];exact hk
theorem Ac1(h:Cg N w0 X0 Y β s a w){G:Vt}(Jo:OP P G w0 X0)(C7:∀f args res,call f args=some res->C3 G P f args res)(hm:P.follows .mixedOrders=true)(hok:WC C P ops=true){id:Nat}{Q:Exit->Act->World->Prop}(hk:Sy C P N call ops ops.toList s K=some r)(hQ:∀s' a' w' β',K s'=some r->Cg N w0 X0 Y β' s' a' w'->Q .normal a' w'):(Code.region id ops true).wp P Q a w:=
 wp_region_any hm (Wn h Jo C7 hm hok hk hQ)
end
end
section
open Go.RowKit
section
variable {R R':Type}{Rel:Option R->Option R'->Prop}{P:Program}{N:Nat}{tm tm':Nat->PV}{hp Dq:Nat->Option Ca}{o:Oper}
theorem Aqn(hn:Rel none none){C:Iz}{call:Ap}{K:St->Option R}{K':St->Option R'}(Z7:Tn o.op=true)(Nm:∀x∈o.op.operands.toList,Cu tm x=Cu tm' x)(hS:∀i,HA o tm' Dq i->hp i=Dq i\/(hp i=none/\∀b,Rel none b))(hdd:∀d,o.dst=some d->hp d=Dq d)(hK:∀v Dl G3,(∀M,XN M (HA o tm' Dq) o.dst hp Dq Dl G3)->Rel (K ⟨Cc tm o.dst v,Dl⟩) (K' ⟨Cc tm' o.dst v,G3⟩)):Rel (EC C P N call ⟨tm,hp⟩ o K) (EC C P N call ⟨tm',Dq⟩ o K'):=by
 unfold EC;have hl:∀x∈o.op.operands.toList,∀i∈Cb (Cu tm' x),HA o tm' Dq i:=fun x hx i hi=>.inl ⟨x,hx,hi⟩;generalize hLd:HA o tm' Dq=S at *
 generalize hop:o.op=op at *
 unfold Tn at Z7;split at Z7
 ·rename_i c
  have Oj:∀x∈c.args.toList,x∈(Op.call c).operands.toList:=by
   intro x hx;simp only[Op.operands,Call.operands,Array.toList_append,B2];exact .inr hx
  split at Z7
  ·rename_i hc;simp only[hc];refine Eg hn fun d hd=>B6 hn fun x _ hx=>B6 hn fun y _ hy=>Gz hn (B6 hn fun _ _ _=>B6 hn fun _ _ _=>?_);subst hy;have hxm:=Oj x (by rw[hx];simp)
   have hym:=Oj y (by rw[hx];simp)
   simp only[Nm x hxm,Nm y hym];refine KL hn hS (hdd d hd) (fun i hi=>hl x hxm i (Ho hi)) (fun i hi=>hl y hym i (Ho hi)) fun v Dl G3 hh=>?_;have:=hK v Dl G3 (by rw[hd];exact hh)
   rw[hd] at this;exact this
  ·cases Z7
 ·cases Z7
theorem Xb{C:Iz}{call:Ap}(Z7:Tn o.op=true)(Nm:∀x∈o.op.operands.toList,Cu tm x=Cu tm' x)(hS:∀i,HA o tm' Dq i->hp i=Dq i)(hdd:∀d,o.dst=some d->hp d=Dq d){s1:St}(h:EC C P N call ⟨tm,hp⟩ o some=some s1):∃v Dl G3,s1=⟨Cc tm o.dst v,Dl⟩/\EC C P N call ⟨tm',Dq⟩ o some=some ⟨Cc tm' o.dst v,G3⟩/\∀M,XN M (HA o tm' Dq) o.dst hp Dq Dl G3:=by
 have:=Aqn (P:=P) (N:=N) (C:=C) (call:=call) (o:=o) (tm:=tm) (tm':=tm') (hp:=hp) (Dq:=Dq) (K:=some) (K':=some)
  (Rel:=fun (a b:Option St)=>∀s1,a=some s1->∃v Dl G3,s1=⟨Cc tm o.dst v,Dl⟩/\b=some ⟨Cc tm' o.dst v,G3⟩/\∀M,XN M (HA o tm' Dq) o.dst hp Dq Dl G3) (fun _ h=>by cases h) Z7 Nm (fun i hi=>.inl (hS i hi)) hdd
  (fun v Dl G3 hT s1 h=>by cases h;exact⟨v,Dl,G3,rfl,rfl,hT⟩)
 exact this s1 h
end
section
variable {R R':Type}{r:R}{r':R'}{C:Iz}{P:Program}{N:Nat}{call:Ap}{ops:Array Oper}{o x:Oper}{s s1 s2:St}{K:St->Option R}
theorem AW{tm:Nat->PV}(h:Jf C P ops o tm=true):Y2 C P o.op=true:=by unfold Jf at h;simp only[Fe] at h;exact h.1
theorem Acr(h:Tn o.op=true):Y2 C P o.op=true:=by
 unfold Tn at h;split at h
 ·rename_i c hc;rw[hc];split at h
  ·rename_i hcc;simp only[Y2,hcc];exact h
  ·cases h
 ·cases h
theorem S7(h:Er C P N call ops x s K=some r):∃s1,Er C P N call ops x s some=some s1/\Aa4 P x s s1/\(AG P x.op=true->s1.hp=s.hp)/\K s1=some r:=by
 cases hx:Jf C P ops x s.tm
 ·rw[Ow hx] at h ⊢;cases ex:gE C P N call ops x s with
  |none=>rw[ex] at h;cases h
  |some q=>
   rw[ex] at h;obtain⟨hb,h1⟩:=Aq h;simp only[Fe] at hb;refine⟨_,?_,⟨fun t ht=>U9 ht,fun i hi=>S4 hb.2 hi,fun hm i hi=>?_⟩,fun hl=>?_,h1⟩
   ·show Ar _ _=_;rw[hb.1,hb.2];rfl
   ·show A3 (Ah s.hp q.2.1) q.2.2 i=s.hp i;rw[Hy hb.2 hi,((Z9 ex).1 hm).1];simp
   ·show A3 (Ah s.hp q.2.1) q.2.2=s.hp;obtain⟨h1,h2⟩:=Amj (.inl hl) ex;rw[h1,h2]
    funext i
    show Ah s.hp [] i=_;rw[Cp];simp
 ·rw[Lo hx] at h ⊢
  exact SB (P:=P) (N:=N) (o:=x) (tm:=s.tm) (tm':=s.tm) (hp:=s.hp) (K':=some) (Rel:=fun (a:Option R) (b:Option St)=>a=some r->∃s1,b=some s1/\Aa4 P x s s1/\(AG P x.op=true->s1.hp=s.hp)/\K s1=some r) (fun h=>by cases h) (fun _ _=>rfl) (fun v Dl hh h=>⟨_,rfl,⟨fun t ht=>U9 ht,hh,fun hm=>(by
   rw[LJ (AW hx)] at hm;cases hm)⟩,fun hl=>(by
   have:=AW hx;rw[On hl] at this;cases this),h⟩) h
theorem DE{K':St->Option R'}(h:Er C P N call ops x s some=some s1)(hk:K' s1=some r'):Er C P N call ops x s K'=some r':=by
 cases hx:Jf C P ops x s.tm
 ·rw[Ow hx] at h ⊢;cases ex:gE C P N call ops x s with
  |none=>rw[ex] at h;cases h
  |some q=>
   rw[ex] at h;obtain⟨hb,h1⟩:=Aq h;show Ar _ _=_;rw[hb];cases h1;exact hk
 ·rw[Lo hx] at h ⊢;exact SB (P:=P) (N:=N) (o:=x) (tm:=s.tm) (tm':=s.tm) (hp:=s.hp) (K:=some) (Rel:=fun (a:Option St) (b:Option R')=>a=some s1->b=some r') (fun h=>by cases h) (fun _ _=>rfl) (fun v Dl hh h=>by cases h;exact hk) h
theorem Ab3{d:Nat}{t tx:TypeId}{b y:PV}(h:U0 P N s d t tx b y K=some r):s.hp d=none:=by
 unfold U0 at h;split at h
 ·obtain⟨_,h⟩:=Aq h;cases hI:LK P tx
  ·rw[hI,cond_false] at h;refine OB (P:=P) (tm:=s.tm) (tm':=s.tm) (hp:=s.hp) (Dq:=s.hp) (S:=fun _=>True) (K':=fun _ _=>(none:Option R)) (Rel:=fun (a:Option R) (_:Option R)=>a=some r->s.hp d=none) (fun h=>by cases h) (fun _ _=>.inl rfl) (fun _ _=>trivial) (fun m new h=>?_) h;split at h
   ·split at h
    ·obtain⟨hb,_⟩:=Aq h;simp only[Fe,Option.isNone_iff_eq_none] at hb;simp only[hb]
    ·cases h
   ·obtain⟨_,_,_,h,_⟩:=Ha h;obtain⟨hb,_⟩:=Aq h;simp only[Fe,Option.isNone_iff_eq_none] at hb;simp only[hb]
  ·rw[hI,cond_true] at h;unfold AY at h;obtain⟨_,_,_,h⟩:=Em h;obtain⟨_,_,_,h,_⟩:=Ha h;obtain⟨hb,_⟩:=Aq h;simp only[Fe,Option.isNone_iff_eq_none] at hb;simp only[hb]
 ·cases h
theorem Ax7(hw:Has C P o s)(hwx:∀y∈x.op.operands.toList,∀i∈Cb (Cu s.tm y),s.hp i≠none)(xo:∀d,x.dst=some d->d ∉ looks ops o)(ne:∀d,x.dst=some d->o.dst≠some d)(ox:∀d,o.dst=some d->d ∉ looks ops x)(Eh:Tn x.op=true)(hao:Tn o.op=true)(Ahe:∀i,HA x s.tm s.hp i->¬HA o s.tm s.hp i)(hx:Jf C P ops x s.tm=true)(ho:Jf C P ops o s.tm=true)(h:Er C P N call ops x s (fun s1=>Er C P N call ops o s1 K)=some r):Er C P N call ops o s (fun s1=>Er C P N call ops x s1 K)=some r:=by
 obtain⟨tm,hp⟩:=s;obtain⟨s1,e1,_,_,h⟩:=S7 h;obtain⟨s2,e2,_,_,h⟩:=S7 h;rw[Lo hx] at e1
 have hSx:∀i,HA x tm hp i->hp i≠none:=by
  rintro i (⟨y,hy,hi⟩|⟨Z7,_⟩)
  ·exact hwx y hy i hi
  ·rw[Eh] at Z7;cases Z7
 have hSo:∀i,HA o tm hp i->hp i≠none:=by
  rintro i (⟨y,hy,hi⟩|⟨Z7,_⟩)
  ·exact hw.1 y hy i hi
  ·rw[hao] at Z7;cases Z7
 obtain⟨vx,hpx,A1a,rfl,e1',T1⟩:=Xb Eh (fun _ _=>rfl) (fun _ _=>rfl) (fun _ _=>rfl) e1
 have:A1a=hpx:=by
  rw[e1] at e1';injection e1' with q;injection q with _ q;exact q.symm
 subst this;have t1:∀t∈looks ops o,Cc tm x.dst vx t=tm t:=Ga xo;have t1o:=G9 (ops:=ops) (o:=o) t1;rw[Lo (by rw[Jr t1];exact ho)] at e2
 have hRo:∀i,HA o (Cc tm x.dst vx) A1a i↔HA o tm hp i:=by
  intro i;constructor
  ·rintro (⟨y,hy,hi⟩|⟨Z7,_⟩)
   ·exact .inl ⟨y,hy,by rw[<-t1o y hy];exact hi⟩
   ·rw[hao] at Z7;cases Z7
  ·rintro (⟨y,hy,hi⟩|⟨Z7,_⟩)
   ·exact .inl ⟨y,hy,by rw[t1o y hy];exact hi⟩
   ·rw[hao] at Z7;cases Z7
 have A13:∀{s:St} {o:Oper} {s2:St},Tn o.op=true->EC C P N call s o some=some s2->∀d,o.dst=some d->s.hp d=none:=by
  intro s o s2 hao e d hd;unfold EC at e;unfold Tn at hao;split at hao
  ·rename_i c hc;rw[hc] at e;simp only at e;split at hao
   ·rename_i hcc;rw[hcc] at e;simp only[hd,Ea] at e;obtain⟨_,_,_,e⟩:=Bo e;obtain⟨_,_,_,e⟩:=Bo e;obtain⟨_,e⟩:=Es e;obtain⟨_,_,_,e⟩:=Bo e;obtain⟨_,_,_,e⟩:=Bo e;exact Ab3 e
   ·cases hao
  ·cases hao
 have Bim:∀d,o.dst=some d->hp d=none:=by
  intro d hd;have h0:=A13 hao e2 d hd;cases hh:hp d with
  |none=>rfl
  |some b=>exact absurd h0 ((T1 0).keep d (by rw[hh];simp))
 have Bcs:=A13 Eh e1;simp only at Bcs;have hoS:∀d,o.dst=some d->¬HA x tm hp d:=fun d hd hR=>hSx d hR (Bim d hd);have hxS:∀d,x.dst=some d->¬HA o tm hp d:=fun d hd hR=>hSo d hR (Bcs d hd);obtain⟨vo,Bjb,hpo,rfl,e3,T2⟩:=Xb (tm':=tm) (Dq:=hp) hao t1o (fun i hi=>(T1 0).far i (fun hR=>Ahe i hR hi) (hSo i hi)) (fun d hd=>((T1 (d+1)).off d (by omega) (fun e=>ne d e hd) (.inl (hoS d hd))).1) e2;obtain⟨vo',Bjs,Aeh,e3a,e3b,T3⟩:=Xb (tm':=tm) (Dq:=hp) hao (fun _ _=>rfl) (fun _ _=>rfl) (fun _ _=>rfl) e3;rw[e3] at e3b
 have Bi0:Bjs=hpo/\Aeh=hpo:=by
  injection e3a with _ q1;injection e3b with q2;injection q2 with _ q3;exact⟨q1.symm,q3.symm⟩
 obtain⟨rfl,rfl⟩:=Bi0;have t2:∀t∈looks ops x,tm t=Cc tm o.dst vo t:=fun t ht=>(Ga ox t ht).symm;have t2x:=G9 (ops:=ops) (o:=x) t2
 have hRx:∀i,HA x (Cc tm o.dst vo) Aeh i↔HA x tm hp i:=by
  intro i;constructor
  ·rintro (⟨y,hy,hi⟩|⟨Z7,_⟩)
   ·exact .inl ⟨y,hy,by rw[t2x y hy];exact hi⟩
   ·rw[Eh] at Z7;cases Z7
  ·rintro (⟨y,hy,hi⟩|⟨Z7,_⟩)
   ·exact .inl ⟨y,hy,by rw[<-t2x y hy];exact hi⟩
   ·rw[Eh] at Z7;cases Z7
 obtain⟨vx2,Bi4,Bhk,e4a,e4,T4⟩:=Xb (tm':=Cc tm o.dst vo) (Dq:=Aeh) Eh t2x (fun i hi=>((T3 0).far i (Ahe i ((hRx i).1 hi)) (hSx i ((hRx i).1 hi))).symm) (fun d hd=>((T3 (d+1)).off d (by omega) (fun e=>ne d hd e) (.inl (hxS d hd))).1.symm) e1
 have hvx:Cc tm x.dst vx=Cc tm x.dst vx2/\A1a=Bi4:=by
  injection e4a with q1 q2;exact⟨q1,q2⟩
 obtain⟨hvx,rfl⟩:=hvx;obtain⟨_,GZ,N9,e5a,e5b,T5⟩:=Xb (tm':=Cc tm x.dst vx) (Dq:=A1a) hao (fun _ _=>rfl) (fun _ _=>rfl) (fun _ _=>rfl) e2;have hq:GZ=Bjb:=by injection e5a with _ q1;exact q1.symm
 subst hq;obtain⟨_,hu1,hu2,e6a,e6b,T6⟩:=Xb (tm':=Cc tm o.dst vo) (Dq:=Aeh) Eh (fun _ _=>rfl) (fun _ _=>rfl) (fun _ _=>rfl) e4;have hu:hu1=Bhk:=by injection e6a with _ q1;exact q1.symm
 subst hu
 have Oj:GZ=hu1:=by
  funext i
  by_cases hi:HA o tm hp i\/o.dst=some i
  ·have hxi:¬HA x tm hp i:=by
    rcases hi with hi|hi
    ·exact fun hR=>Ahe i hR hi
    ·exact hoS i hi
   have hdi:x.dst≠some i:=by
    rcases hi with hi|hi
    ·exact fun e=>hxS i e hi
    ·exact fun e=>ne i e hi
   rw[(T2 0).same i ((T1 (i+1)).off i (by omega) hdi (.inl hxi)).1];exact ((T6 (i+1)).off i (by omega) hdi (.inl fun hR=>hxi ((hRx i).1 hR))).1.symm
  ·have hoi:¬HA o tm hp i:=fun e=>hi (.inl e);have hdi:o.dst≠some i:=fun e=>hi (.inr e);rw[((T5 (i+1)).off i (by omega) hdi (.inl fun hR=>hoi ((hRo i).1 hR))).1];exact (T4 0).same i ((T3 (i+1)).off i (by omega) hdi (.inl hoi)).1.symm
 refine DE (s1:=⟨Cc tm o.dst vo,Aeh⟩) (by rw[Lo ho];exact e3) ?_
 refine DE (s1:=⟨Cc (Cc tm o.dst vo) x.dst vx2,hu1⟩) (by rw[Lo (by rw[<-Jr t2];exact hx)];exact e4) ?_
 rw[<-O4 ne,<-hvx,<-Oj];exact h
theorem IQ(hM:Y2 C P o.op=true){i:Nat}(h:HA o s.tm s.hp i):i∈Rh C P s o:=by
 unfold Rh;rw[hM];cases hA:Tn o.op
 ·simp only[Hb,Bool.and_self,cond_true,B2];rcases h with⟨y,hy,hi⟩|⟨_,id,c,⟨y,hy,hi⟩,hc,p,hp,hk⟩
  ·exact .inl (List.mem_flatMap.2 ⟨y,hy,hi⟩)
  ·refine .inr (List.mem_flatMap.2 ⟨id,List.mem_flatMap.2 ⟨y,hy,hi⟩,?_⟩);rw[hc];exact List.mem_flatMap.2 ⟨p,hp,hk⟩
 ·simp only[F1,Bool.and_false,cond_false,Bool.or_true,cond_true];rcases h with⟨y,hy,hi⟩|⟨hn,_⟩
  ·exact List.mem_flatMap.2 ⟨y,hy,hi⟩
  ·rw[hA] at hn;cases hn
theorem QT(hl:Y2 C P o.op=true\/AG P o.op=true){y:Operand}(hy:y∈o.op.operands.toList){i:Nat}(h:i∈Cb (Cu s.tm y)):i∈Rh C P s o:=by
 rcases hl with hM|hl
 ·exact IQ hM (.inl ⟨y,hy,h⟩)
 ·unfold Rh;rw[On hl,hl];exact List.mem_flatMap.2 ⟨y,hy,h⟩
theorem Ahy(ht:∀t∈looks ops o,s1.tm t=s.tm t)(hh:Y2 C P o.op=true->Tn o.op=false->∀y∈o.op.operands.toList,∀i∈Cb (Cu s.tm y),s1.hp i=s.hp i):Rh C P s1 o=Rh C P s o:=by
 have he:=G9 (ops:=ops) (o:=o) ht
 have hl:(o.op.operands.toList.flatMap fun y=>Cb (Cu s1.tm y))=o.op.operands.toList.flatMap fun y=>Cb (Cu s.tm y):=by
  have A35:∀l:List Operand,(∀y∈l,Cu s1.tm y=Cu s.tm y)->(l.flatMap fun y=>Cb (Cu s1.tm y))=l.flatMap fun y=>Cb (Cu s.tm y):=by
   intro l
   induction l with
   |nil=>intro _;rfl
   |cons a l ih=>intro h;simp only[J4];rw[h a (by simp),ih fun y hy=>h y (by simp[hy])]
  exact A35 _ he
 unfold Rh;simp only[hl];cases hM:(Y2 C P o.op && !Tn o.op)
 ·rfl
 ·simp only[cond_true];simp only[Fe,Bool.not_eq_true'] at hM
  congr 1
  have A35:∀l:B7,(∀i∈l,s1.hp i=s.hp i)->(l.flatMap fun i=>match s1.hp i with|some (.st c)=>c.flatMap Ay|_=>[])=l.flatMap fun i=>match s.hp i with|some (.st c)=>c.flatMap Ay|_=>[]:=by
   intro l
   induction l with
   |nil=>intro _;rfl
   |cons a l ih=>intro h;simp only[J4];rw[h a (by simp),ih fun y hy=>h y (by simp[hy])]
  exact A35 _ fun i hi=>by
   obtain⟨y,hy,hi⟩:=List.mem_flatMap.1 hi;exact hh hM.1 hM.2 y hy i hi
theorem KV{a b:B7}(h:Aqk a b=true){i:Nat}(ha:i∈a)(hb:i∈b):False:=by have:=List.all_eq_true.1 h i ha;have h2:b.any (Nat.beq i)=true:=List.any_eq_true.2 ⟨i,hb,Oq i⟩;rw[h2] at this;cases this
theorem Aoh{a b:B7}(h:Aqk a b=true):Aqk b a=true:=by
 refine List.all_eq_true.2 fun i hi=>?_;cases hc:a.any (Nat.beq i)
 ·rfl
 ·obtain⟨j,hj,e⟩:=List.any_eq_true.1 hc;rw[Dz e] at hi;exact (KV h hj hi).elim
theorem GB:N2 C P x o=N2 C P o x:=by unfold N2;cases Y2 C P x.op<;>cases Y2 C P o.op<;>cases AG P x.op<;>cases AG P o.op<;>cases Tn x.op<;>cases Tn o.op<;>rfl
structure Q3(C:Iz)(P:Program)(ops:Array Oper)(x o:Oper):Prop where
 xo:∀d,x.dst=some d->d ∉ looks ops o
 ne:∀d,x.dst=some d->o.dst≠some d
 ox:∀d,o.dst=some d->d ∉ looks ops x
 me:X7 C P x o=false\/N2 C P x o=true
theorem Aol(h:Au5 C P ops x o=false):Q3 C P ops x o:=by
 unfold Au5 at h;simp only[Bool.or_eq_false_iff] at h;obtain⟨h1,h2⟩:=h;have hT:=h1;unfold Awi at h1;simp only[Bool.or_eq_false_iff] at h1
 have a1:VB C P ops x o=false\/X7 C P x o=true:=by
  cases hc:X7 C P x o
  ·left;unfold VB;unfold X7 at hc;simp only[Bool.or_eq_false_iff] at hc ⊢;exact⟨⟨⟨h1.1,h1.2⟩,hc.1⟩,hc.2⟩
  ·exact .inr rfl
 refine⟨fun d hd=>?_,fun d hd he=>?_,fun d hd=>?_,?_⟩
 ·have:=h1.1;simp only[hd,Bool.or_eq_false_iff] at this;exact Yn this.1
 ·have:=h1.1;simp only[hd,he,Bool.or_eq_false_iff] at this;rw[Oq] at this;cases this.2
 ·have:=h1.2;simp only[hd] at this;exact Yn this
 ·cases hc:X7 C P x o
  ·exact .inl rfl
  ·rw[hc] at h2;right
   simpa using h2
theorem Q3.apart(ap:Q3 C P ops x o)(h:X7 C P x o=false):JH C P ops x o:=by
 unfold X7 at h;simp only[Bool.or_eq_false_iff,Bool.and_eq_false_iff] at h;refine⟨ap.xo,ap.ne,ap.ox,fun hm=>?_,fun hm=>?_⟩
 ·rcases h.1 with h|h
  ·rw[hm] at h;cases h
  ·exact h
 ·rcases h.2 with h|h
  ·rw[hm] at h;cases h
  ·exact h
theorem Q3.same(ap:Q3 C P ops x o)(hk:Aa4 P x s s1)(hl:AG P x.op=true->s1.hp=s.hp)(hM:Y2 C P o.op=true)(hA:Tn o.op=false){i:Nat}(hi:s.hp i≠none):s1.hp i=s.hp i:=by
 rcases ap.me with h|h
 ·exact hk.2.2 ((ap.apart h).mo hM) i hi
 ·unfold N2 at h;rw[hA] at h;simp only[Bool.and_false,Bool.or_false,Bool.or_eq_true,Fe] at h;rcases h with h|h
  ·have:=h.2;rw[On (C:=C) (P:=P) this] at hM;cases hM
  ·rw[hl h.2]
theorem Has.keepsS(h:Has C P o s)(ap:Q3 C P ops x o)(hk:Aa4 P x s s1)(hl:AG P x.op=true->s1.hp=s.hp):Has C P o s1:=by
 have hop:∀y∈o.op.operands.toList,Cu s1.tm y=Cu s.tm y:=fun y hy=>G9 (ops:=ops) (o:=o) (fun t ht=>hk.1 t fun hd=>ap.xo t hd ht) y hy;refine⟨fun y hy i hi=>?_,fun hM hA y hy i hi c hc p hp k hkk=>?_⟩
 ·rw[hop y hy] at hi;exact hk.2.1 i (h.1 y hy i hi)
 ·rw[hop y hy] at hi;rw[ap.same hk hl hM hA (h.1 y hy i hi)] at hc;exact hk.2.1 k (h.2 hM hA y hy i hi c hc p hp k hkk)
theorem Q3.symm(ap:Q3 C P ops x o):Q3 C P ops o x:=by
 refine⟨ap.ox,fun d hd he=>ap.ne d he hd,ap.xo,?_⟩;rcases ap.me with h|h
 ·left;unfold X7 at h ⊢;rw[Bool.or_comm];exact h
 ·right;rw[GB];exact h
theorem Baa(hw:Has C P o s)(hwx:N2 C P x o=true->∀i∈Rh C P s x,s.hp i≠none)(ap:Q3 C P ops x o)(hd:N2 C P x o=true->Aqk (Rh C P s x) (Rh C P s o)=true)(h:Er C P N call ops x s (fun s1=>Er C P N call ops o s1 K)=some r):Er C P N call ops o s (fun s1=>Er C P N call ops x s1 K)=some r:=by
 rcases ap.me with hm|hm
 ·exact Bao hw (ap.apart hm) h
 ·have hd:=hd hm;have hwx:=hwx hm;cases hx:Jf C P ops x s.tm
  ·cases ho:Jf C P ops o s.tm
   ·exact Am3 hw ap.xo ap.ne ap.ox hx ho h
   ·have hMo:=AW ho
    have hlx:XR P ops x s.tm:=by
     cases hl:AG P x.op
     ·right
      have hMx:Y2 C P x.op=true:=by
       unfold N2 at hm;simp only[hl,Bool.and_false,Bool.or_false,Bool.or_eq_true,Fe] at hm;rcases hm with hm|hm
       ·exact hm.1
       ·exact Acr hm.1
      cases hv:Hw ops x s.tm with
      |none=>
       exfalso;rw[Ow hx] at h;unfold gE at h;rw[hv] at h;cases h
      |some b=>
       cases b
       ·rfl
       ·unfold Jf at hx;rw[hMx,hv] at hx;cases hx
     ·exact .inl hl
    refine Az2 ap.xo ap.ne ap.ox hlx (fun y hy i hi hR=>?_) ho h;refine KV hd (QT ?_ hy hi) (IQ hMo hR);unfold N2 at hm;simp only[Bool.or_eq_true,Fe] at hm;rcases hm with (hm|hm)|hm
    ·exact .inl hm.1
    ·exact .inr hm.2
    ·exact .inl (Acr hm.1)
  ·have hMx:=AW hx;cases ho:Jf C P ops o s.tm
   ·have hlo:XR P ops o s.tm:=by
     cases hl:AG P o.op
     ·right
      have hMo:Y2 C P o.op=true:=by
       unfold N2 at hm;simp only[hl,Bool.and_false,Bool.false_or,Bool.or_eq_true,Fe] at hm;rcases hm with hm|hm
       ·exact hm.1
       ·exact Acr hm.2
      cases hv:Hw ops o s.tm with
      |none=>
       exfalso;obtain⟨s1,_,hk,_,h⟩:=S7 h;have hv1:Hw ops o s1.tm=none:=by rw[Pm (fun t ht=>hk.1 t fun hd=>ap.xo t hd ht)];exact hv
       rw[Ow (by unfold Jf;rw[hv1];cases Y2 C P o.op<;>rfl)] at h
       unfold gE at h;rw[hv1] at h;cases h
      |some b=>
       cases b
       ·rfl
       ·unfold Jf at ho;rw[hMo,hv] at ho;cases ho
     ·exact .inl hl
    refine A0r hw ap.xo ap.ne ap.ox hlo (fun y hy i hi hR=>?_) hx h;refine KV hd (IQ hMx hR) (QT ?_ hy hi);unfold N2 at hm;simp only[Bool.or_eq_true,Fe] at hm;rcases hm with (hm|hm)|hm
    ·exact .inr hm.2
    ·exact .inl hm.1
    ·exact .inl (Acr hm.2)
   ·have hMo:=AW ho;unfold N2 at hm;simp only[Bool.or_eq_true,Fe] at hm;rcases hm with (hm|hm)|hm
    ·rw[On (C:=C) (P:=P) hm.2] at hMo;cases hMo
    ·rw[On (C:=C) (P:=P) hm.2] at hMx;cases hMx
    ·exact Ax7 hw (fun y hy i hi=>hwx i (QT (.inl hMx) hy hi)) ap.xo ap.ne ap.ox hm.1 hm.2 (fun i h1 h2=>KV hd (IQ hMx h1) (IQ hMo h2)) hx ho h
theorem Aun{α:Type}(a b:α)(l:List α)(f:α->Bool):(a::b::l).all f=(b::a::l).all f:=by simp only[List.all_cons];cases f a<;>cases f b<;>rfl
theorem OU{bs:List B7}:∀(l:B7){dn dn':List (Nat × Oper × B7)} {s:St}{K:St->Option R},(∀f,dn.all f=dn'.all f)->Ku C P N call ops bs dn l s K=Ku C P N call ops bs dn' l s K
 |[],_,_,_,_,_=>rfl
 |i::l,dn,dn',s,K,h=>by
  unfold Ku;cases ops[i]? with
  |none=>rfl
  |some o=>
   simp only[Ea,h]
   congr 2
   funext s'
   exact OU l fun f=>by simp only[List.all_cons,h]
theorem TH{bs:B7}{i:Nat}(hi:ops[i]?=some o):(PB C P ops bs).getD i []=ID C P ops bs i o:=by unfold PB;rw[List.getD_eq_getElem?_getD,List.getElem?_map,List.getElem?_zipIdx,Array.getElem?_toList,hi];simp
theorem Yj{bs:B7}{i j:Nat}:j∈ID C P ops bs i o↔∃x,ops[j]?=some x/\N2 C P x o=true/\(Nat.blt j i&&(bs.getD i 0).testBit j)=false/\(Nat.blt i j&&(bs.getD j 0).testBit i)=false:=by
 unfold ID;simp only[List.mem_map,List.mem_filter,Fe,Bool.not_eq_true',Prod.exists];constructor
 ·rintro⟨x,k,⟨hm,⟨h1,h2⟩,h3⟩,rfl⟩
  rw[List.mem_zipIdx_iff_getElem?] at hm;exact⟨x,by simpa using hm,h1,h2,h3⟩
 ·rintro⟨x,hx,h1,h2,h3⟩
  refine⟨x,j,⟨?_,⟨h1,h2⟩,h3⟩,rfl⟩;rw[List.mem_zipIdx_iff_getElem?]
  simpa using hx
theorem QU{sm:List B7}{i j:Nat}(h:j∈sm.getD i []):QB C P sm s i o=Rh C P s o:=by
 unfold QB;split
 ·rename_i e;rw[e] at h;simp at h
 ·rfl
theorem Awv{sm:List B7}{i:Nat}(h:sm.getD i []≠[]->Rh C P s1 o=Rh C P s o):QB C P sm s1 i o=QB C P sm s i o:=by
 unfold QB;split
 ·rfl
 ·rename_i e;exact h (by rw[e];simp)
theorem Anf{l:B7}{j:Nat}:l.any (Nat.beq j)=true↔j∈l:=by
 constructor
 ·intro h;obtain⟨k,hk,e⟩:=List.any_eq_true.1 h;rw[Dz e];exact hk
 ·intro h;exact List.any_eq_true.2 ⟨j,h,Oq j⟩
theorem JA{bs:B7}{sm:List B7}(hsm:sm=PB C P ops bs){i:Nat}(hi:ops[i]?=some o){l':B7}:∀(l:B7){dn:List (Nat × Oper × B7)} {s:St}{K:St->Option R},Has C P o s ->
  (∀j∈l,j<i/\(bs.getD i 0).testBit j=false/\∀x,ops[j]?=some x->Q3 C P ops x o)->Ku C P N call ops sm dn (l++i::l') s K=some r ->
  dn.all (YD C P sm s i o)=true/\Er C P N call ops o s (fun s1=>Ku C P N call ops sm ((i,o,QB C P sm s i o)::dn) (l++l') s1 K)=some r
 |[],dn,s,K,hw,_,h=>by
  simp only[WU] at h ⊢;unfold Ku at h;rw[hi] at h;simp only[Ea] at h;obtain⟨hb,h⟩:=Aq h;simp only[Fe] at hb;exact⟨hb.1,h⟩
 |j::l,dn,s,K,hw,hl,h=>by
  simp only[Zzp] at h ⊢;unfold Ku at h;obtain⟨hji,EI,Z7⟩:=hl j (by simp);cases hj:ops[j]? with
  |none=>rw[hj] at h;cases h
  |some x=>
   rw[hj] at h;simp only[Ea] at h;obtain⟨hb,h⟩:=Aq h;simp only[Fe] at hb;have ap:=Z7 x hj
   have hex:∀k∈QB C P sm s j x,s.hp k≠none:=fun k hk=>by
    have:=List.all_eq_true.1 hb.2 k hk;intro e;rw[e] at this;cases this
   obtain⟨s1,e1,Eu,SP,h1⟩:=S7 h;obtain⟨ha,h2⟩:=JA hsm hi l (hw.keepsS ap Eu SP) (fun k hk=>hl k (by simp[hk])) h1;have Bfo:Rh C P s1 o=Rh C P s o:=Ahy (ops:=ops) (fun t ht=>Eu.1 t fun hd=>ap.xo t hd ht) fun hM hA y hy k hk=>ap.same Eu SP hM hA (hw.1 y hy k hk);have WV:QB C P sm s1 i o=QB C P sm s i o:=Awv fun _=>Bfo;rw[List.all_cons,Fe] at ha
   have Bcn:Nat.blt i j=false:=by
    cases hh:Nat.blt i j
    ·rfl
    ·have:=Sn hh;omega
   have hmi:N2 C P x o=true->j∈sm.getD i []:=fun hs=>by
    rw[hsm,TH hi];exact Yj.2 ⟨x,hj,hs,by rw[EI,Bool.and_false],by rw[Bcn,VO]⟩
   have hmj:N2 C P x o=true->i∈sm.getD j []:=fun hs=>by
    rw[hsm,TH hj];exact Yj.2 ⟨o,hi,by rw[GB];exact hs,by rw[Bcn,VO],by rw[EI,Bool.and_false]⟩
   have A12:N2 C P x o=true->Aqk (QB C P sm s j x) (QB C P sm s i o)=true:=by
    intro hs;have:=ha.1;unfold YD at this;rw[Anf.2 (hmi hs),WV] at this
    simpa using this
   have hok:∀q,YD C P sm s1 i o q=YD C P sm s i o q:=fun q=>by unfold YD;rw[WV]
   have Qx:dn.all (YD C P sm s i o)=true:=by
    refine List.all_eq_true.2 fun q hq=>?_;rw[<-hok];exact List.all_eq_true.1 ha.2 q hq
   refine⟨Qx,?_⟩;rw[WV] at h2
   have h3:=Baa hw (fun hs k hk=>hex k (by rw[QU (hmj hs)];exact hk)) ap (fun hs=>by have:=A12 hs;rw[QU (hmj hs),QU (hmi hs)] at this;exact this)
    (DE (K':=fun s1=>Er C P N call ops o s1 (fun s2=>Ku C P N call ops sm ((i,o,QB C P sm s i o)::(j,x,QB C P sm s j x)::dn) (l++l') s2 K)) e1 h2)
   obtain⟨s2,e2,Gb,Wc,h4⟩:=S7 h3;refine DE e2 ?_
   have ZM:QB C P sm s2 j x=QB C P sm s j x:=Awv fun Gx=>by
    obtain⟨q,hq⟩:=List.exists_mem_of_ne_nil _ Gx;refine Ahy (ops:=ops) (fun t ht=>Gb.1 t fun hd=>ap.ox t hd ht) fun hM hA y hy k hk=>ap.symm.same Gb Wc hM hA (hex k ?_);rw[QU hq];exact QT (.inl hM) hy hk
   unfold Ku;rw[hj];simp only[Ea]
   have hc:(((i,o,QB C P sm s i o)::dn).all (YD C P sm s2 j x)&&(QB C P sm s2 j x).all fun k=>(s2.hp k).isSome)=true:=by
    simp only[List.all_cons,Fe];refine⟨⟨?_,?_⟩,?_⟩
    ·unfold YD;simp only[ZM];cases hs:(sm.getD j []).any (Nat.beq i)
     ·rfl
     ·have hm:=Anf.1 hs;rw[hsm,TH hj] at hm;obtain⟨o',ho',hso,_⟩:=Yj.1 hm;rw[hi] at ho';cases ho';rw[GB] at hso;rw[Aoh (A12 hso)];rfl
    ·refine List.all_eq_true.2 fun q hq=>?_;have:=List.all_eq_true.1 hb.1 q hq;unfold YD at this ⊢;rw[ZM];exact this
    ·rw[ZM];refine List.all_eq_true.2 fun k hk=>?_;have:=Gb.2.1 k (hex k hk);cases hh:s2.hp k with
     |none=>exact absurd hh this
     |some _=>rfl
   rw[hc,ZM];show Er C P N call ops x s2 _=some r
   have:(fun s'=>Ku C P N call ops sm ((j,x,QB C P sm s j x)::(i,o,QB C P sm s i o)::dn) (l++l') s' K)=fun s2=>Ku C P N call ops sm ((i,o,QB C P sm s i o)::(j,x,QB C P sm s j x)::dn) (l++l') s2 K:=by
    funext s'
    exact OU _ fun f=>Aun _ _ _ f
   rw[this];exact h4
end
section
variable {R:Type}{r:R}{P:Program}{N:Nat}{w0:World}{X0:Gc}{Y:Nat->Prop}{β β':Bt}{s:St}{a:Act}{w w':World}{o:Oper}{ops:Array Oper}{C:Iz}{call:Ap}{K:St->Option R}
theorem FR{bs:B7}:∀(l:List Oper)(n:Nat),IR C P ops bs l n=true->∀(k:Nat) o,l[k]?=some o->∀(j:Nat) x,ops[j]?=some x->j<n+k->Au5 C P ops x o=true->(bs.getD (n+k) 0).testBit j=true
 |[],_,_,k,o,ho,_,_,_,_,_=>by simp at ho
 |o'::l,n,h,k,o,ho,j,x,hx,hj,Nq=>by
  simp only[IR,Fe] at h;cases k with
  |zero=>
   simp at ho;subst ho
   have:=List.all_eq_true.1 h.1 (x,j) (by
    rw[List.mem_zipIdx_iff_getElem?]
    simpa using hx)
   simp only[Nq,F1,Bool.or_false,Bool.or_eq_true,Bool.not_eq_true'] at this;rcases this with h'|h'
   ·have:Nat.blt j n=true:=Nat.ble_eq_true_of_le (by omega);rw[this] at h';cases h'
   ·exact h'
  |succ k=>
   have:=FR l (n+1) h.2 k o (by simpa using ho) j x hx (by omega) Nq
   rwa [show n+(k+1)=n+1+k by omega]
theorem Adl{G:Vt}(Jo:OP P G w0 X0)(C7:∀f args res,call f args=some res->C3 G P f args res)(hok:VL C P ops=true){Q:Exit->Act->World->Prop}(hQ:∀s' a' w' β',K s'=some r->Cg N w0 X0 Y β' s' a' w'->Q .normal a' w'):
  ∀(fuel:Nat) {dn:List (Nat × Oper × B7)} {listed:Array Bool} {s:St} {a:Act} {w:World} {β:Bt},HeadInv .any ops ops.size listed->(R4 ops.size listed).length=fuel->Cg N w0 X0 Y β s a w->Ku C P N call ops (PB C P ops (Ll ops.toList [])) dn (R4 ops.size listed) s K=some r->wpAny P .any ops Q fuel listed a w:=by
 unfold VL at hok;simp only[Fe] at hok;obtain⟨Av1,A5c⟩:=hok;intro fuel
 induction fuel with
 |zero=>
  intro dn listed s a w β inv hf h hk;have hp:=List.eq_nil_of_length_eq_zero hf;rw[hp] at hk;refine⟨?_,hQ s a w β hk h⟩;cases hr:Region.ready .any ops listed with
  |nil=>rfl
  |cons i l=>
   exfalso;have hi:i∈Region.ready .any ops listed:=by rw[hr];simp
   obtain⟨Np,o,ho,_⟩:=mem_ready.1 hi;have:i∈R4 ops.size listed:=Nh.2 ⟨(Array.getElem?_eq_some_iff.1 ho).1,Np⟩;rw[hp] at this;simp at this
 |succ fuel ih=>
  intro dn listed s a w β inv hf h hk;refine⟨fun hr=>?_,fun i hi=>?_⟩
  ·rw[Aan Av1 inv hr] at hf;cases hf
  ·obtain⟨Np,o,ho,Qx⟩:=mem_ready.1 hi;have Ci:i<ops.size:=(Array.getElem?_eq_some_iff.1 ho).1;obtain⟨l1,l2,h1,h2,h3⟩:=GJ (Nh.2 ⟨Ci,Np⟩) inv.size;rw[h1] at hk
   have hnb:∀j∈l1,((Ll ops.toList []).getD i 0).testBit j=false:=by
    intro j hj;cases EI:((Ll ops.toList []).getD i 0).testBit j with
    |false=>rfl
    |true=>
     exfalso;have hjl:=Yq (listed:=listed) (fun j oj hj hl=>inv.closed j oj hj hl) ops.toList [] [] (by simp) rfl (by simp) i o ho Qx j EI;have:j∈R4 ops.size listed:=by rw[h1];simp[hj]
     have:=getD_both (Nh.1 this).2;rw[hjl] at this;cases this
   have Z7:∀j∈l1,j<i/\((Ll ops.toList []).getD i 0).testBit j=false/\∀x,ops[j]?=some x->Q3 C P ops x o:=by
    intro j hj;refine⟨h3 j hj,hnb j hj,fun x hxj=>Aol ?_⟩;cases Nq:Au5 C P ops x o with
    |false=>rfl
    |true=>
     exfalso;have EI:=FR ops.toList 0 A5c i o (by simpa using ho) j x hxj (by have:=h3 j hj;omega) Nq
     rw[Ir,hnb j hj] at EI;cases EI
   obtain⟨s',hs',hn⟩:=HG h Jo C7 ho (JA rfl ho l1 (Awh h o) Z7 hk).2;refine hn _ _ fun a' w' β' h'=>ih (dn:=(i,o,QB C P (PB C P ops (Ll ops.toList [])) s i o)::dn) (inv.set hi Ci) ?_ h' ?_
   ·rw[h2];rw[h1] at hf;simp at hf ⊢;omega
   ·rw[h2];exact hs'
theorem Y8(h:Cg N w0 X0 Y β s a w){G:Vt}(Jo:OP P G w0 X0)(C7:∀f args res,call f args=some res->C3 G P f args res)(hm:P.follows .mixedOrders=true)(hok:VL C P ops=true){Q:Exit->Act->World->Prop}(hk:Ku C P N call ops (PB C P ops (Ll ops.toList [])) [] (List.range ops.size) s K=some r)(hQ:∀s' a' w' β',K s'=some r->Cg N w0 X0 Y β' s' a' w'->Q .normal a' w'):wpAny P .any ops Q ops.size (Array.replicate ops.size false) a { w with drawn:=w.drawn+1 }:=by
 have hp:R4 ops.size (Array.replicate ops.size false)=List.range ops.size:=by
  unfold R4;refine List.filter_eq_self.2 fun i hi=>?_;have:=List.mem_range.1 hi;simp[this]
 refine Adl (C:=C) (dn:=[]) Jo C7 hok hQ ops.size ⟨by simp,fun j oj _ hl=>(by rw[getD_replicate_false] at hl;cases hl),fun t ht ht'=>by omega⟩ (by rw[hp];simp) h.drew ?_
 rw[hp];exact hk
theorem Afl(h:Cg N w0 X0 Y β s a w){G:Vt}(Jo:OP P G w0 X0)(C7:∀f args res,call f args=some res->C3 G P f args res)(hm:P.follows .mixedOrders=true)(hok:VL C P ops=true){id:Nat}{Q:Exit->Act->World->Prop}(hk:Ku C P N call ops (PB C P ops (Ll ops.toList [])) [] (List.range ops.size) s K=some r)(hQ:∀s' a' w' β',K s'=some r->Cg N w0 X0 Y β' s' a' w'->Q .normal a' w'):(Code.region id ops true).wp P Q a w:=
 wp_region_any hm (Y8 h Jo C7 hm hok hk hQ)
end
open Go.RowKit
section
variable {R:Type}{r:R}{N:Nat}{w0:World}{X0:Gc}{Y:Nat->Prop}{β β':Bt}{s:St}{a:Act}{w w':World}
theorem Avh{i:Nat}(hi:i<a.tmps.size):a.put (some i) (a.tmps.getD i undef)=a:=by
 obtain⟨tmps,dfr⟩:=a;change i<tmps.size at hi
 have:tmps.setIfInBounds i (tmps.getD i undef)=tmps:=by
  apply Array.ext_getElem?;intro k;by_cases e:i=k
  ·subst e;simp[hi]
  ·rw[Array.getElem?_setIfInBounds_ne e]
 simp only[Act.put,this]
theorem Alk{A:Nat->Prop}{es:Nat}{v:Value}(h:Az w A (.lst true es 0 []) v):v=.slice none 0 0:=by cases h;rfl
theorem Am0{id:Nat}(B1:s.hp id=none){v:PV}{val:Value}(hv:E2 w (Dv (A3 s.hp [(id,.ar false [])]) (Dt β id none) Y) (Dt β id none) v val)(hr:∀i∈Cb v,s.hp i≠none\/i=id):
  YW Y β s w v [(id,.ar false [])] val w (Dt β id none):=by
 refine⟨rfl,rfl,rfl,Cs.refl _ _,fun j hj=>Ao _ _ (by rintro rfl;exact hj B1),?_,?_,?_,?_,?_,hv,?_⟩
 ·intro j bx hm;simp at hm;rw[hm.2];trivial
 ·intro j bx hm;simp at hm;obtain⟨rfl,rfl⟩:=hm;exact .inl ⟨Av _ _ _,rfl⟩
 ·intro j bx k q hm hq;simp at hm;obtain⟨rfl,rfl⟩:=hm;rw[Av] at hq;cases hq
 ·intro j bx j' bx' k q q' hm Nz _ _;simp at hm Nz;rw[hm.1,Nz.1]
 ·intro j cells hm;simp at hm
 ·intro j hj;rcases hr j hj with h|rfl
  ·exact .inl h
  ·exact .inr ⟨.ar false [],by simp⟩
theorem XU(h:Cg N w0 X0 Y β s a w)(i:Nat):∃β',Cg N w0 X0 Y β' (QY N s i) a w:=by
 unfold QY;split
 ·rename_i es ht
  have Ci:i<N:=by
   rcases Is i N with h'|h'
   ·exact h'
   ·rw[h.tmo i h'] at ht;cases ht
  have hv:=h.tms i Ci;rw[ht] at hv;have hv:=Alk hv;have hd:Io N (some i)=true:=by simp[Io,Nat.blt];omega
  have go:∀j,s.hp j=none->∃β',Cg N w0 X0 Y β' ⟨Dt s.tm i (.view j es 0 0),Dt s.hp j (some (.ar false []))⟩ a w:=by
   intro j hn;have:=h.stepR (d:=some i) hd (by simp[Cn,hn]) (Am0 (v:=.view j es 0 0) (val:=.slice none 0 0) hn (.inl ⟨Av _ _ _,rfl,rfl,none,rfl⟩) (by simp[Cb,Co,Ay]));rw[<-hv,Avh (by rw[h.tsz];exact Ci)] at this
   exact⟨_,this⟩
  cases hn:(s.hp i).isNone
  ·cases hn2:(s.hp (i+N*3000)).isNone
   ·exact⟨β,h⟩
   ·exact go _ (by simpa using hn2)
  ·exact go _ (by simpa using hn)
 ·exact⟨β,h⟩
theorem Cg.recell(h:Cg N w0 X0 Y β s a w){id:Nat}{c c':Ae}(h0:s.hp id=some (.st c))(hl:c'.length=c.length)(hc:∀(j:Nat) p,c'[j]?=some p->∃q,c[j]?=some q/\(∀v,Cj w (Dv s.hp β Y) β q v->Cj w (Dv s.hp β Y) β p v)/\∀i∈Ay p,s.hp i≠none):
  Cg N w0 X0 Y β ⟨s.tm,Dt s.hp id (some (.st c'))⟩ a w:=by
 have I3:∀i,Dg (Dt s.hp id (some (.st c')) i)↔Dg (s.hp i):=by
  intro i;by_cases e:i=id
  ·subst e;rw[Av,h0];exact Iff.rfl
  ·rw[Ao _ _ e]
 have hX:IM (Dt s.hp id (some (.st c'))) β=IM s.hp β:=by
  funext b
  apply propext;constructor
  ·rintro⟨i,o,hl,hb⟩;exact⟨i,o,(I3 i).1 hl,hb⟩
  ·rintro⟨i,o,hl,hb⟩;exact⟨i,o,(I3 i).2 hl,hb⟩
 have hA:Dv (Dt s.hp id (some (.st c'))) β Y=Dv s.hp β Y:=by
  funext b;unfold Dv;rw[hX]
 have Gx:∀i,s.hp i≠none->Dt s.hp id (some (.st c')) i≠none:=by
  intro i hi;by_cases e:i=id
  ·subst e;rw[Av];simp
  ·rw[Ao _ _ e];exact hi
 have A4z:∀i,Dt s.hp id (some (.st c')) i≠none->s.hp i≠none:=by
  intro i hi;by_cases e:i=id
  ·subst e;rw[h0];simp
  ·rw[Ao _ _ e] at hi;exact hi
 refine⟨h.dfr,h.tsz,h.tmo,?_,?_,?_,?_,?_,?_,?_,?_,fun i hi=>⟨Gx _ (h.pin i hi).1,(h.pin i hi).2⟩,?_,?_,h.Ylt,h.fr⟩
 ·intro i hi;show E2 w (Dv (Dt s.hp id _) β Y) β _ _;rw[hA];exact h.tms i hi
 ·intro i b hb;show Wd w (Dv (Dt s.hp id _) β Y) β i b;rw[hA];by_cases e:i=id
  ·subst e;change Dt s.hp i (some (.st c')) i=some b at hb;rw[Av] at hb;cases hb;obtain⟨b,o,h1,h2,h3⟩:=h.box i _ h0;refine⟨b,o,h1,fun j p hj=>?_,fun j hj=>h3 j (by rw[<-hl];exact hj)⟩
   obtain⟨q,hq,hqp,_⟩:=hc j p hj;obtain⟨v,hv,hr⟩:=h2 j q hq;exact⟨v,hv,hqp v hr⟩
  ·change Dt s.hp id (some (.st c')) i=some b at hb;rw[Ao _ _ e] at hb;exact h.box i b hb
 ·intro i i' b o o' hl Ox hb I7;exact h.inj i i' b o o' ((I3 i).1 hl) ((I3 i').1 Ox) hb I7
 ·intro i b o hn hb;exact h.blt i b o (A4z i hn) hb
 ·intro i hi j hj;exact Gx j (h.wfT i hi j hj)
 ·intro i cells hb p hp j hj;change Dt s.hp id (some (.st c')) i=_ at hb;by_cases e:i=id
  ·subst e;rw[Av] at hb;cases hb;obtain⟨k,hk⟩:=List.mem_iff_getElem?.1 hp;obtain⟨_,_,_,hr⟩:=hc k p hk;exact Gx j (hr j hj)
  ·rw[Ao _ _ e] at hb;exact Gx j (h.wfB i cells hb p hp j hj)
 ·intro b hb;exact h.ownd b (by rw[<-hX];exact hb)
 ·intro i bx b o hb hlb hβ Ci j hj;change Dt s.hp id (some (.st c')) i=some bx at hb;by_cases e:i=id
  ·subst e;rw[Av] at hb;cases hb;exact h.rngB i _ b o h0 trivial hβ Ci j (by unfold BR at hj ⊢;simp only[hl] at hj;exact hj)
  ·rw[Ao _ _ e] at hb;exact h.rngB i bx b o hb hlb hβ Ci j hj
 ·intro i c1 b o hb hβ Ci;change Dt s.hp id (some (.st c')) i=_ at hb;by_cases e:i=id
  ·subst e;exact h.stp i c b o h0 hβ Ci
  ·rw[Ao _ _ e] at hb;exact h.stp i c1 b o hb hβ Ci
 ·intro b hY hb;exact h.Yx b hY (by rw[<-hX];exact hb)
theorem XH(h:Cg N w0 X0 Y β s a w)(id j:Nat):∃β',Cg N w0 X0 Y β' (Ac3 N id s j) a w:=by
 unfold Ac3;split
 ·rename_i c h0;split
  ·rename_i es hj;cases hn:(s.hp (id+N*(j+1))).isNone
   ·exact⟨β,h⟩
   ·have hn:s.hp (id+N*(j+1))=none:=by simpa using hn
    have Gx:id≠id+N*(j+1):=by
     intro e;rw[<-e,h0] at hn;cases hn
    have h1:=h.stepR (d:=none) (v:=.top) (val:=undef) rfl (by simp[Cn,hn]) (Am0 hn (.top _) (by simp[Cb,Co,Ay]));change Cg N w0 X0 Y (Dt β (id+N*(j+1)) none) ⟨s.tm,Dt s.hp (id+N*(j+1)) (some (.ar false []))⟩ a w at h1
    have h2:=h1.recell (id:=id) (c:=c) (c':=c.set j (.view (id+N*(j+1)) es 0 0)) (by show Dt _ _ _ _=_;rw[Ao _ _ Gx];exact h0) (by simp) (by
     intro k p hp;by_cases e:k=j
     ·subst e
      have Ci:k<c.length:=by
       rcases Is k c.length with h'|h'
       ·exact h'
       ·rw[List.getElem?_eq_none h'] at hj;cases hj
      rw[List.getElem?_set_self Ci] at hp;cases hp;refine⟨_,hj,fun v hv=>.inl ⟨Av _ _ _,rfl,rfl,none,Alk hv⟩,fun i hi=>?_⟩;simp[Ay] at hi;subst hi;show Dt _ _ _ _≠none;rw[Av];simp
     ·rw[List.getElem?_set_ne (fun h=>e h.symm)] at hp;refine⟨p,hp,fun _ hv=>hv,fun i hi=>?_⟩;have:=h.wfB id c h0 p (List.mem_of_getElem? hp) i hi;show Dt _ _ _ _≠none;by_cases e':i=id+N*(j+1)
      ·subst e';rw[Av];simp
      ·rw[Ao _ _ e'];exact this)
    refine⟨Dt β (id+N*(j+1)) none,?_⟩;have e3:Dt (Dt s.hp (id+N*(j+1)) (some (.ar false []))) id (some (.st (c.set j (.view (id+N*(j+1)) es 0 0))))=Dt (Dt s.hp id (some (.st (c.set j (.view (id+N*(j+1)) es 0 0))))) (id+N*(j+1)) (some (.ar false [])):=Ag6 _ _ _ (fun h=>Gx h.symm);change Cg N w0 X0 Y (Dt β (id+N*(j+1)) none) ⟨s.tm,Dt (Dt s.hp (id+N*(j+1)) (some (.ar false []))) id (some (.st (c.set j (.view (id+N*(j+1)) es 0 0))))⟩ a w at h2;rw[e3] at h2;exact h2
  ·exact⟨β,h⟩
 ·exact⟨β,h⟩
theorem Us{f:St->Nat->St}(hf:∀s β,Cg N w0 X0 Y β s a w->∀i,∃β',Cg N w0 X0 Y β' (f s i) a w):∀(l:B7){s:St}{β:Bt},Cg N w0 X0 Y β s a w->∃β',Cg N w0 X0 Y β' (l.foldl f s) a w
 |[],_,β,h=>⟨β,h⟩
 |i::l,s,β,h=>by
  obtain⟨β1,h1⟩:=hf s β h i;exact Us hf l h1
theorem Adu(h:Cg N w0 X0 Y β s a w)(i:Nat):∃β',Cg N w0 X0 Y β' (Adf N s i) a w:=by
 unfold Adf;split
 ·split
  ·exact Us (fun s β h i=>XH h _ i) _ h
  ·exact⟨β,h⟩
 ·exact⟨β,h⟩
theorem Aa2:∀{m:List (Nat × Nat)},Ff (m.map (·.2))=true->∀{i i' j:Nat},(i,j)∈m->(i',j)∈m->i=i'
 |[],_,_,_,_,h,_=>by simp at h
 |(x,y)::m,hn,i,i',j,h,h'=>by
  simp only[Xv,Ff,Fe,Bool.not_eq_true'] at hn
  have hy:∀k,(k,y) ∉ m:=by
   intro k hk;exact Yn hn.1 (List.mem_map.2 ⟨(k,y),hk,rfl⟩)
  rcases Ce.1 h with e|h
  ·cases e;rcases Ce.1 h' with e|h'
   ·cases e;rfl
   ·exact absurd h' (hy _)
  ·rcases Ce.1 h' with e|h'
   ·cases e;exact absurd h (hy _)
   ·exact Aa2 hn.2 h h'
theorem NU:∀{m:List (Nat × Nat)},Ff (m.map (·.1))=true->∀{i j j':Nat},(i,j)∈m->(i,j')∈m->j=j'
 |[],_,_,_,_,h,_=>by simp at h
 |(x,y)::m,hn,i,j,j',h,h'=>by
  simp only[Xv,Ff,Fe,Bool.not_eq_true'] at hn
  have hx:∀k,(x,k) ∉ m:=by
   intro k hk;exact Yn hn.1 (List.mem_map.2 ⟨(x,k),hk,rfl⟩)
  rcases Ce.1 h with e|h
  ·cases e;rcases Ce.1 h' with e|h'
   ·cases e;rfl
   ·exact absurd h' (hx _)
  ·rcases Ce.1 h' with e|h'
   ·cases e;exact absurd h (hx _)
   ·exact NU hn.2 h h'
theorem Ry{i j:Nat}(h:Nat.beq i j=false):i≠j:=by rintro rfl;rw[Oq] at h;cases h
theorem KR:∀{m:List (Nat × Nat)} {i j:Nat},EV m i=some j->(i,j)∈m
 |[],_,_,h=>by cases h
 |(x,y)::m,i,j,h=>by
  unfold EV at h;cases hb:Nat.beq i x<;>rw[hb] at h
  ·exact Tu _ (KR h)
  ·have:=Dz hb;cases h;rw[this];simp
theorem MO{m:List (Nat × Nat)}{hp:Nat->Option Ca}:∀{l:List (Nat × Nat)} {j:Nat}{b:Ca},Ct (Re m hp l) j=some b->∃i b0,(i,j)∈l/\hp i=some b0/\b=Aye m b0
 |[],_,_,h=>by cases h
 |(x,y)::l,j,b,h=>by
  unfold Re at h;cases hx:hp x with
  |none=>
   rw[hx] at h;obtain⟨i,b0,h1,h2⟩:=MO h;exact⟨i,b0,Tu _ h1,h2⟩
  |some bx=>
   rw[hx] at h;simp only[Ct] at h;cases hb:Nat.beq j y<;>rw[hb] at h
   ·obtain⟨i,b0,h1,h2⟩:=MO h;exact⟨i,b0,Tu _ h1,h2⟩
   ·have:=Dz hb;subst this;cases h;exact⟨x,bx,by simp,hx,rfl⟩
theorem S3{m:List (Nat × Nat)}{hp:Nat->Option Ca}:∀{l:List (Nat × Nat)} {i j:Nat},(i,j)∈l->hp i≠none->Ct (Re m hp l) j≠none
 |[],_,_,h,_=>by simp at h
 |(x,y)::l,i,j,h,hi=>by
  unfold Re;cases hx:hp x with
  |none=>
   rcases Ce.1 h with e|h
   ·cases e;exact absurd hx hi
   ·exact S3 h hi
  |some bx=>
   simp only[Ct];cases hb:Nat.beq j y
   ·rcases Ce.1 h with e|h
    ·cases e;exact absurd rfl (Ry hb)
    ·exact S3 h hi
   ·simp
def XE(m:List (Nat × Nat))(j:Nat):Option Nat:=
 match m with
 |[]=>none
 |(x,y)::r=>bif Nat.beq j y then some x else XE r j
theorem Alx:∀{m:List (Nat × Nat)} {i j:Nat},XE m j=some i->(i,j)∈m
 |[],_,_,h=>by cases h
 |(x,y)::m,i,j,h=>by
  unfold XE at h;cases hb:Nat.beq j y<;>rw[hb] at h
  ·exact Tu _ (Alx h)
  ·have:=Dz hb;cases h;rw[this];simp
theorem Ahu:∀{m:List (Nat × Nat)} {i j:Nat},(i,j)∈m->∃k,XE m j=some k
 |[],_,_,h=>by simp at h
 |(x,y)::m,i,j,h=>by
  unfold XE;cases hb:Nat.beq j y
  ·rcases Ce.1 h with e|h
   ·cases e;exact absurd rfl (Ry hb)
   ·exact Ahu h
  ·exact⟨x,rfl⟩
theorem Adr{f:Nat->PV}:∀{l:B7}{i:Nat},lk (l.map fun i=>(i,f i)) i=if i∈l then f i else .top
 |[],_=>rfl
 |x::l,i=>by
  simp only[Xv,lk];cases hb:Nat.beq i x
  ·have:=Ry hb;simp only[cond_false,Adr,Ce,this,false_or]
  ·have:=Dz hb;subst this;simp
theorem YN{m:Nat}:∀{n i:Nat},i∈Qy m n->i<n
 |0,_,h=>by simp[Qy] at h
 |n+1,i,h=>by
  simp only[Qy,B2] at h;rcases h with h|h
  ·have:=YN h;omega
  ·cases hb:m.testBit n<;>rw[hb] at h
   ·simp at h
   ·simp at h;omega
theorem Ac0(h:Cg N w0 X0 Y β s a w){m:List (Nat × Nat)}(h1:Ff (m.map (·.1))=true)(h2:Ff (m.map (·.2))=true){ls:B7}(hls:∀i∈ls,i<N)(hpn:∀i,X0.pn i->(D3 N i,D3 N i)∈m):
  ∃β',Cg N w0 X0 Y β' ⟨lk (ls.map fun i=>(i,An5 m (s.tm i))),Ct (Re m s.hp m)⟩ a w:=by
 refine⟨fun j=>(XE m j).bind β,?_⟩
 have hβ:∀{i j:Nat},(i,j)∈m->(XE m j).bind β=β i:=by
  intro i j hm;obtain⟨k,hk⟩:=Ahu hm;rw[hk];have:=Aa2 h2 (Alx hk) hm;subst this;rfl
 have hold:∀{j:Nat} {b:Ca},Ct (Re m s.hp m) j=some b->∃i b0,(i,j)∈m/\s.hp i=some b0/\b=Aye m b0/\(XE m j).bind β=β i:=by
  intro j b hb;obtain⟨i,b0,hm,h3,h4⟩:=MO hb;exact⟨i,b0,hm,h3,h4,hβ hm⟩
 have I3:∀{j:Nat},Dg (Ct (Re m s.hp m) j)->∃i,(i,j)∈m/\Dg (s.hp i)/\(XE m j).bind β=β i:=by
  intro j hl;cases hb:Ct (Re m s.hp m) j with
  |none=>rw[hb] at hl;exact hl.elim
  |some b=>
   obtain⟨i,b0,hm,h3,rfl,h5⟩:=hold hb;refine⟨i,hm,?_,h5⟩;rw[hb] at hl;rw[h3];cases b0<;>exact hl
 have hX:∀b,IM (Ct (Re m s.hp m)) (fun j=>(XE m j).bind β) b->IM s.hp β b:=by
  rintro b ⟨j,o,hl,hb⟩
  obtain⟨i,_,Ox,e⟩:=I3 hl;exact⟨i,o,Ox,by rw[<-e];exact hb⟩
 have hA:∀b,Dv (Ct (Re m s.hp m)) (fun j=>(XE m j).bind β) Y b->Dv s.hp β Y b:=fun b hb=>hb.imp (hX b) id
 have hC:∀p v,Cj w (Dv s.hp β Y) β p v->Cj w (Dv (Ct (Re m s.hp m)) (fun j=>(XE m j).bind β) Y) (fun j=>(XE m j).bind β) (Akx m p) v:=by
  intro p v hp;cases p with
  |view id es off n=>
   show Cj _ _ _ (match EV m id with|some j=>.view j es off n|none=>.top) v;cases hj:EV m id with
   |some j=>
    have e:=hβ (KR hj);rcases hp with⟨e1,e2⟩|⟨b,o,x,cap,e1,e2⟩
    ·exact .inl ⟨by show (XE m j).bind β=none;rw[e];exact e1,e2⟩
    ·exact .inr ⟨b,o,x,cap,by show (XE m j).bind β=_;rw[e];exact e1,e2⟩
   |none=>exact Az.top _
  |ptr id off=>
   show Cj _ _ _ (match EV m id with|some j=>.ptr j off|none=>.top) v;cases hj:EV m id with
   |some j=>
    have e:=hβ (KR hj);obtain⟨b,o,e1,e2⟩:=hp;exact⟨b,o,by show (XE m j).bind β=_;rw[e];exact e1,e2⟩
   |none=>exact Az.top _
  |sc v=>exact Az.step (Cs.refl _ _) (fun b _=>hA b) hp
  |lst z es n c=>exact Az.step (Cs.refl _ _) (fun b _=>hA b) hp
  |iptr c off=>exact Cj.step (p:=.iptr c off) (Cs.refl _ _) (fun b _=>hA b) (by simp[Ay]) hp
  |_=>exact Az.top _
 have hV:∀p v,E2 w (Dv s.hp β Y) β p v->E2 w (Dv (Ct (Re m s.hp m)) (fun j=>(XE m j).bind β) Y) (fun j=>(XE m j).bind β) (An5 m p) v:=by
  intro p v hp;cases p with
  |agg c=>
   obtain⟨vs,e1,e2⟩:=hp;refine⟨vs,e1,Bw.of_at (by simp;exact e2.len) fun i q u hq hu=>?_⟩
   rw[List.getElem?_map] at hq;cases hc:c[i]? with
   |none=>rw[hc] at hq;cases hq
   |some q0=>
    rw[hc] at hq;cases hq;exact hC _ _ (e2.at_ hc hu)
  |view id es off n=>
   have:=hC (.view id es off n) v hp;change Cj _ _ _ (match EV m id with|some j=>.view j es off n|none=>.top) v at this;show E2 _ _ _ (match EV m id with|some j=>.view j es off n|none=>.top) v;cases hj:EV m id<;>rw[hj] at this<;>exact this
  |ptr id off=>
   have:=hC (.ptr id off) v hp;change Cj _ _ _ (match EV m id with|some j=>.ptr j off|none=>.top) v at this;show E2 _ _ _ (match EV m id with|some j=>.ptr j off|none=>.top) v;cases hj:EV m id<;>rw[hj] at this<;>exact this
  |sc v'=>exact hC (.sc v') v hp
  |lst z es n c=>exact hC (.lst z es n c) v hp
  |iptr c off=>exact hC (.iptr c off) v hp
  |_=>exact Az.top _
 have hrC:∀p i,i∈Ay (Akx m p)->∃k∈Ay p,(k,i)∈m:=by
  intro p i hi;cases p with
  |view id es off n=>
   change i∈Ay (match EV m id with|some j=>.view j es off n|none=>.top) at hi;cases hj:EV m id<;>rw[hj] at hi
   ·simp[Ay] at hi
   ·simp[Ay] at hi;subst hi;exact⟨id,by simp[Ay],KR hj⟩
  |ptr id off=>
   change i∈Ay (match EV m id with|some j=>.ptr j off|none=>.top) at hi;cases hj:EV m id<;>rw[hj] at hi
   ·simp[Ay] at hi
   ·simp[Ay] at hi;subst hi;exact⟨id,by simp[Ay],KR hj⟩
  |_=>simp[Akx,Ay] at hi
 have hrV:∀p i,i∈Cb (An5 m p)->∃k∈Cb p,(k,i)∈m:=by
  intro p i hi;cases p with
  |agg c=>
   simp only[An5,Cb,Co,List.mem_flatMap,List.mem_map] at hi;obtain⟨_,⟨q,hq,rfl⟩,hi⟩:=hi;obtain⟨k,hk,hm⟩:=hrC q i hi;exact⟨k,by simp only[Cb,Co,List.mem_flatMap];exact⟨q,hq,hk⟩,hm⟩
  |view id es off n=>
   refine (hrC (.view id es off n) i ?_).imp fun k hk=>hk;change i∈Cb (match EV m id with|some j=>.view j es off n|none=>.top) at hi;show i∈Ay (match EV m id with|some j=>.view j es off n|none=>.top);cases hj:EV m id<;>rw[hj] at hi<;>exact hi
  |ptr id off=>
   refine (hrC (.ptr id off) i ?_).imp fun k hk=>hk;change i∈Cb (match EV m id with|some j=>.ptr j off|none=>.top) at hi;show i∈Ay (match EV m id with|some j=>.ptr j off|none=>.top);cases hj:EV m id<;>rw[hj] at hi<;>exact hi
  |_=>simp[An5,Akx,Cb,Co,Ay] at hi
 refine⟨h.dfr,h.tsz,?_,?_,?_,?_,?_,?_,?_,?_,?_,?_,?_,?_,h.Ylt,h.fr⟩
 ·intro i hi;show lk _ i=_;rw[Adr,Br (fun hm=>by have:=hls i hm;omega)]
 ·intro i hi;show E2 w _ _ (lk _ i) _;rw[Adr];split
  ·exact hV _ _ (h.tms i hi)
  ·exact Az.top _
 ·intro j b hb;obtain⟨i,b0,hm,h3,rfl,e⟩:=hold hb;have Ms:=h.box i b0 h3;cases b0 with
  |st c=>
   obtain⟨b,o,e1,e2,e3⟩:=Ms;refine⟨b,o,by show (XE m j).bind β=_;rw[e];exact e1,fun k p hp=>?_,fun k hk=>e3 k (by simpa using hk)⟩
   rw[List.getElem?_map] at hp;cases hc:c[k]? with
   |none=>rw[hc] at hp;cases hp
   |some q=>
    rw[hc] at hp;cases hp;obtain⟨v,hv,hr⟩:=e2 k q hc;exact⟨v,hv,hC _ _ hr⟩
  |ar fz c=>
   have:=Wd.step' hA Ms;show Wd _ _ _ _ (.ar fz c);rcases this with⟨e1,e2⟩|⟨b,o,e1,e2⟩
   ·exact .inl ⟨by show (XE m j).bind β=_;rw[e];exact e1,e2⟩
   ·exact .inr ⟨b,o,by show (XE m j).bind β=_;rw[e];exact e1,e2⟩
  |mv=>exact trivial
 ·intro j j' b o o' hl Ox hb I7;obtain⟨i,hm,SP,e⟩:=I3 hl;obtain⟨i',Nz,Bij,e'⟩:=I3 Ox;have:=h.inj i i' b o o' SP Bij (by rw[<-e];exact hb) (by rw[<-e'];exact I7)
  subst this;exact NU h1 hm Nz
 ·intro j b o hn hb;cases hj:Ct (Re m s.hp m) j with
  |none=>exact absurd hj hn
  |some bx=>
   obtain⟨i,b0,_,h3,_,e⟩:=hold hj;exact h.blt i b o (by rw[h3];simp) (by rw[<-e];exact hb)
 ·intro i hi j hj;change j∈Cb (lk _ i) at hj;rw[Adr] at hj;split at hj
  ·obtain⟨k,hk,hm⟩:=hrV _ j hj;exact S3 hm (h.wfT i hi k hk)
  ·simp[Cb,Co,Ay] at hj
 ·intro j cells hb p hp k hk;obtain⟨i,b0,_,h3,h4,_⟩:=hold hb;cases b0 with
  |st c=>
   cases h4;obtain⟨q,hq,rfl⟩:=List.mem_map.1 hp;obtain⟨k',Ih,hm⟩:=hrC q k hk;exact S3 hm (h.wfB i c h3 q hq k' Ih)
  |ar fz c=>cases h4
  |mv=>cases h4
 ·intro b hb;exact h.ownd b (hX b hb)
 ·intro j bx b o hb hlb hβ1 Ci k hk;obtain⟨i,b0,_,h3,h4,e⟩:=hold hb;subst h4;refine h.rngB i b0 b o h3 ?_ (by rw[<-e];exact hβ1) Ci k ?_
  ·cases b0<;>exact hlb
  ·cases b0 with
   |st c=>simpa [BR,Aye] using hk
   |ar fz c=>exact hk
   |mv=>exact hk
 ·intro i hi;exact⟨S3 (hpn i hi) (h.pin i hi).1,(hβ (hpn i hi)).trans (h.pin i hi).2⟩
 ·intro j c b o hb hβ1 Ci;obtain⟨i,b0,hm,h3,h4,e⟩:=hold hb;cases b0 with
  |st c0=>
   obtain⟨k,rfl,hk⟩:=h.stp i c0 b o h3 (by rw[<-e];exact hβ1) Ci
   exact⟨k,NU h1 hm (hpn k hk),hk⟩
  |ar fz c0=>cases h4
  |mv=>cases h4
 ·intro b hY hb;exact h.Yx b hY (hX b hb)
theorem DB{m:List (Nat × Nat)}{q:Nat × Nat}{o n:Nat}(h:q∈m):q∈Aap m o n:=by
 unfold Aap;split
 ·exact h
 ·exact B2.2 (.inl h)
theorem Qu{q:Nat × Nat}{new:Nat}:∀{c:Ae}{j:Nat}{m:List (Nat × Nat)},q∈m->q∈Xu N new c j m
 |[],_,_,h=>h
 |p::c,j,m,h=>by
  unfold Xu;split
  ·rename_i e;cases e
  ·rename_i e;cases e;exact Qu (DB h)
  ·rename_i e;cases e;exact Qu h
theorem Afw{q:Nat × Nat}{m:List (Nat × Nat)}{i:Nat}(h:q∈m):q∈RB N s m i:=by
 unfold RB;split
 ·exact DB h
 ·split
  ·exact h
  ·split
   ·exact Qu (DB h)
   ·exact DB h
 ·exact Qu h
 ·exact h
theorem IX{q:Nat × Nat}:∀{l:B7}{m:List (Nat × Nat)},q∈m->q∈l.foldl (RB N s) m
 |[],_,h=>h
 |_::l,_,h=>IX (l:=l) (Afw h)
theorem Yl{q:Nat × Nat}{m:List (Nat × Nat)}(h:q∈m):∀k,q∈CE N s.hp k m
 |0=>h
 |k+1=>by
  unfold CE;split
  ·exact Qu (Yl h k)
  ·exact Yl h k
theorem YQ:∀{k i:Nat},i<k->s.hp (D3 N i)≠none->(D3 N i,D3 N i)∈Aei N s.hp k
 |0,_,h,_=>by omega
 |k+1,i,h,hn=>by
  unfold Aei;by_cases e:i=k
  ·subst e
   have:(s.hp (D3 N i)).isSome=true:=by
    cases hq:s.hp (D3 N i) with
    |none=>exact absurd hq hn
    |some b=>rfl
   rw[this];simp
  ·have:=YQ (k:=k) (i:=i) (by omega) hn;cases (s.hp (D3 N k)).isSome
   ·exact this
   ·exact B2.2 (.inl this)
theorem PE(h:Cg N w0 X0 Y β s a w){L:Nat}{q:Bool}{K:St->Option R}(hk:Alc N (Qy L N) q s K=some r):∃β' s',K s'=some r/\Cg N w0 X0 Y β' s' a w:=by
 unfold Alc at hk;obtain⟨hb,Eu⟩:=Aq hk;simp only[Fe] at hb
 obtain⟨β2,h2⟩:∃β2,Cg N w0 X0 Y β2 (bif q then s else (Qy L N).foldl (Adf N) ((Qy L N).foldl (QY N) s)) a w:=by
  cases q
  ·obtain⟨β1,h1⟩:=Us (fun s β h i=>XU h i) (Qy L N) h;obtain⟨β2,h2⟩:=Us (fun s β h i=>Adu h i) (Qy L N) h1;exact⟨β2,h2⟩
  ·exact⟨β,h⟩
 obtain⟨β3,h3⟩:=Ac0 h2 hb.1 hb.2 (ls:=Qy L N) (fun i hi=>YN hi) (fun i hi=>IX (Yl (YQ (X0.p8 i hi) (h2.pin i hi).1) 8));exact⟨β3,_,Eu,h3⟩
theorem Cq(h:Cg N w0 X0 Y β s a w){L:Nat}{K:St->Option R}(hk:Mv N L s K=some r):∃β' s',K s'=some r/\Cg N w0 X0 Y β' s' a w:=PE h hk
theorem PQ(h:Cg N w0 X0 Y β s a w){L:Nat}{K:St->Option R}(hk:Agc N L s K=some r):∃β' s',K s'=some r/\Cg N w0 X0 Y β' s' a w:=PE h hk
end
open Go.RowKit
section
variable {R:Type}{r:R}{P:Program}{N:Nat}{w0:World}{X0:Gc}{Y:Nat->Prop}{C:Iz}{call:Ap}
theorem DP{n:Nat}{F:St->Option R}{s:St}(h:SW n F s=some r):F s=some r:=by
 unfold SW at h;split at h
 ·cases h
 ·exact h
theorem OR{β:Bt}{s:St}{a:Act}{w:World}(h:Cg N w0 X0 Y β s a w){c:Operand}{kt kf:St->Option R}(hk:Atb s c kt kf=some r):(a.eval c=.bool true/\kt s=some r)\/(a.eval c=.bool false/\kf s=some r):=by
 unfold Atb at hk;split at hk
 ·rename_i d;split at hk
  ·rename_i b ht;have hv:a.eval (.tmp d)=.bool b:=C4 h (x:=.tmp d) ht;cases b
   ·change kf ⟨Dt s.tm d (.sc (.bool false)),s.hp⟩=some r at hk;rw[LD s.tm ht] at hk;exact .inr ⟨hv,hk⟩
   ·change kt ⟨Dt s.tm d (.sc (.bool true)),s.hp⟩=some r at hk;rw[LD s.tm ht] at hk;exact .inl ⟨hv,hk⟩
  ·rename_i ht;have hu:=D7 h (.tmp d);change E2 _ _ _ (s.tm d) _ at hu;rw[ht] at hu;have Mk:Az w _ .ub (a.eval (.tmp d)):=hu
   obtain⟨b,hv⟩:∃b,a.eval (.tmp d)=.bool b:=by
    generalize a.eval (.tmp d)=x at Mk;cases Mk with
    |ub b=>exact⟨b,rfl⟩
   obtain⟨h1,h2⟩:=YI hk;cases b
   ·exact .inr ⟨hv,h2⟩
   ·exact .inl ⟨hv,h1⟩
  ·cases hk
 ·exact .inl ⟨rfl,hk⟩
 ·exact .inr ⟨rfl,hk⟩
 ·cases hk
theorem TX{c:Code}{Q:Exit->Act->World->Prop}{F:(St->Option R)->St->Option R}{nm:St->(St->Option R)->Option R}(RE:∀{β s a w} {K:St->Option R},Cg N w0 X0 Y β s a w->nm s K=some r->∃β' s',K s'=some r/\Cg N w0 X0 Y β' s' a w)(hF:∀{β s a w} {K:St->Option R}{Q':Act->World->Prop},Cg N w0 X0 Y β s a w->F K s=some r->(∀s' a' w' β',K s'=some r->Cg N w0 X0 Y β' s' a' w'->Q' a' w')->c.wp P (Exit.then Q' Q) a w):
  ∀(n:Nat) {β s a w},Cg N w0 X0 Y β s a w->Ag1 F nm n s=some r->Code.rounds P c Q n a w
 |0,_,_,_,_,_,hk=>by cases hk
 |n+1,β,s,a,w,h,hk=>by
  rw[rounds_succ];refine hF h hk fun s' a' w' β' Ih h'=>?_;obtain⟨β1,s1,Eu,h1⟩:=RE h' Ih;exact TX RE hF n h1 Eu
theorem HN{G:Vt}(Jo:OP P G w0 X0)(C7:∀f args res,call f args=some res->C3 G P f args res)(hm:P.follows .mixedOrders=true){fu:Nat}:
  ∀(c:Code) {ln:Nat} {lx:Nat->Nat} {lr:Nat} {kn:St->Option R} {kx:Nat->St->Option R} {kr:St->Option R} {β:Bt} {s:St} {a:Act} {w:World} {Q:Exit->Act->World->Prop},Cg N w0 X0 Y β s a w ->
   M2 C P fu N call c ln lx lr kn kx kr s=some r->(∀s' a' w' β',kn s'=some r->Cg N w0 X0 Y β' s' a' w'->Q .normal a' w') ->
   (∀id s' a' w' β',kx id s'=some r->Cg N w0 X0 Y β' s' a' w'->Q (.exit id) a' w')->(∀s' a' w' β',kr s'=some r->Cg N w0 X0 Y β' s' a' w'->Q .ret a' w')->c.wp P Q a w:=by
 intro c
 induction c with
 |skip=>intro ln lx lr kn kx kr β s a w Q h hk hn hx hr;exact wp_skip (hn s a w β hk h)
 |region id ops draw=>
  intro ln lx lr kn kx kr β s a w Q h hk hn hx hr;unfold M2 at hk;cases draw
  ·simp only[XW,VO,cond_false] at hk;exact Ab2 h Jo C7 hk hn
  ·simp only[XW,Aws,Zzm,cond_true] at hk;cases hb:WC C P ops<;>rw[hb] at hk
   ·obtain⟨I7,Eu⟩:=Aq (show Ar _ _=some r from hk);exact Afl h Jo C7 hm I7 Eu hn
   ·exact Ac1 h Jo C7 hm hb hk hn
 |seq c1 c2 ih1 ih2=>
  intro ln lx lr kn kx kr β s a w Q h hk hn hx hr;unfold M2 at hk
  refine wp_seq (ih1 h hk (fun s' a' w' β' Ih h'=>by
    cases hc:Ann P c1 c2
    ·rw[hc] at Ih;exact ih2 h' Ih hn hx hr
    ·rw[hc] at Ih;cases hq:JU c1 c2
     ·rw[hq] at Ih;obtain⟨β1,s1,Eu,h1⟩:=Cq h' (show Mv _ _ _ _=some r from Ih);exact ih2 h1 (DP Eu) hn hx hr
     ·rw[hq] at Ih;obtain⟨β1,s1,Eu,h1⟩:=PQ h' (show Agc _ _ _ _=some r from Ih);exact ih2 h1 (DP Eu) hn hx hr) (fun id s' a' w' β' Ih h'=>hx id s' a' w' β' Ih h') (fun s' a' w' β' Ih h'=>hr s' a' w' β' Ih h'))
 |cond c c1 c2 ih1 ih2=>
  intro ln lx lr kn kx kr β s a w Q h hk hn hx hr;unfold M2 at hk;rcases OR h hk with⟨hc,Eu⟩|⟨hc,Eu⟩
  ·exact wp_cond_true hc (ih1 h Eu hn hx hr)
  ·exact wp_cond_false hc (ih2 h Eu hn hx hr)
 |block id c ih=>
  intro ln lx lr kn kx kr β s a w Q h hk hn hx hr;unfold M2 at hk;refine wp_block (ih h hk (fun s' a' w' β' Ih h'=>hn s' a' w' β' Ih h') (fun j s' a' w' β' Ih h'=>?_) (fun s' a' w' β' Ih h'=>hr s' a' w' β' Ih h'));show (if j=id then _ else _);by_cases e:j=id
  ·subst e;rw[Ch rfl];rw[Oq] at Ih;exact hn s' a' w' β' Ih h'
  ·rw[Br e]
   have:Nat.beq j id=false:=by
    cases hb:Nat.beq j id
    ·rfl
    ·exact absurd (Dz hb) e
   rw[this] at Ih;exact hx j s' a' w' β' Ih h'
 |loop c ih=>
  intro ln lx lr kn kx kr β s a w Q h hk hn hx hr;unfold M2 at hk;obtain⟨β1,s1,Eu,h1⟩:=Cq h hk;refine wp_loop_rounds fu (TX (fun h hk=>Cq h hk) (fun h hk hQ=>?_) fu h1 Eu);exact ih h hk hQ (fun id s' a' w' β' Ih h'=>hx id s' a' w' β' Ih h') (fun s' a' w' β' Ih h'=>hr s' a' w' β' Ih h')
 |«exit» id=>intro ln lx lr kn kx kr β s a w Q h hk hn hx hr;exact wp_exit (hx id s a w β hk h)
 |ret=>intro ln lx lr kn kx kr β s a w Q h hk hn hx hr;exact wp_ret (hr s a w β hk h)
 |_=>intro ln lx lr kn kx kr β s a w Q h hk hn hx hr;cases hk
end
open Go.RowKit
theorem Rw:∀{l:List (Nat × Ca)} {i:Nat}{b:Ca},Ct l i=some b->(i,b)∈l
 |[],_,_,h=>by cases h
 |(j,c)::l,i,b,h=>by
  unfold Ct at h;cases hb:Nat.beq i j<;>rw[hb] at h
  ·exact Tu _ (Rw h)
  ·have:=Dz hb;cases h;rw[this];simp
theorem Abn:∀{l:List (Nat × Ca)},(l.map (·.1)).Nodup->∀{i b},(i,b)∈l->Ct l i=some b
 |[],_,_,_,h=>by cases h
 |(j,c)::l,hn,i,b,h=>by
  simp only[Xv,List.nodup_cons] at hn;unfold Ct;rcases Ce.1 h with e|h
  ·cases e;simp only[Oq,cond_true]
  ·have:Nat.beq i j=false:=by
    cases hb:Nat.beq i j
    ·rfl
    ·exact absurd (Dz hb ▸ List.mem_map.2 ⟨_,h,rfl⟩) hn.1
   simp only[this,cond_false];exact Abn hn.2 h
section
variable {R:Type}{r:R}{P:Program}{N:Nat}{w0:World}{X0:Gc}{Y:Nat->Prop}{β β':Bt}{s:St}{a:Act}{w w':World}{A:Nat->Prop}
theorem Ata{id:Nat}{t:CT}{p:PV}{K:PV->List (Nat × Ca)->Option R}(hk:Arr id t p K=some r):
  (∃c,K c []=some r/\FB c/\∀w A q u,Ij w A q p u->Az w A c u)\/∃es n cc,p=.own es n cc/\K (.view id es 0 n) [(id,.ar false cc)]=some r:=by
 have tree:∀t',(NQ t' p fun c=>K c [])=some r->∃c,K c []=some r/\FB c/\∀w A q u,Ij w A q p u->Az w A c u:=by
  intro t' hk;obtain⟨c,hk,hT,WI,hv⟩:=Rr hk;refine⟨c,hk,hT,fun w A q u h=>(hv w A (fun _=>none) u ?_).1⟩;cases p<;>first|exact h|exact WI.elim
 unfold Arr at hk;cases t with
 |sl es=>
  dsimp only at hk;split at hk
  ·rename_i es' n c;cases hb:Nat.beq es' es<;>rw[hb] at hk
   ·cases hk
   ·have:=Dz hb;subst this;exact .inr ⟨_,_,_,rfl,hk⟩
  ·exact .inl (tree (.sl es) hk)
 |int k=>exact .inl (tree _ hk)
 |bool=>exact .inl (tree _ hk)
 |str=>exact .inl (tree _ hk)
 |any=>exact .inl (tree _ hk)
theorem Wb:∀{ts:List CT}{id:Nat}{ps:Ae}{K:Ae->List (Nat × Ca)->Option R},OI N id ts ps K=some r ->
  ∃cs bs,∃qs:List (Nat × Nat),K cs bs=some r/\cs.length=ps.length/\ps.length=ts.length/\bs.map (·.1)=qs.map (·.1)/\(∀q∈qs,∀q'∈qs,q.2=q'.2->q.1=q'.1) /\
   (∀i bx,(i,bx)∈bs->∃c,bx=.ar false c)/\(∀c∈cs,YC c)/\(∀c∈cs,∀i∈Ay c,∃bx,(i,bx)∈bs) /\
   ∀(w:World) (A:Nat->Prop) (own β':Bt) (j0:Nat) (us:List Value),(∀q∈qs,β' q.1=own (j0+q.2))->Gh w A own j0 ps us->Bw (Cj w A β') cs us/\∀i bx,(i,bx)∈bs->Wd w A β' i bx
 |[],id,ps,K,hk=>by
  obtain⟨rfl,hk⟩:=Es hk;refine⟨[],[],[],hk,rfl,rfl,rfl,by simp,by simp,by simp,by simp,fun w A own β' j0 us _ h=>⟨?_,by simp⟩⟩;cases us with
  |nil=>trivial
  |cons u us=>exact h.elim
 |t::ts,id,ps,K,hk=>by
  unfold OI at hk;obtain⟨p,ps',MS,Eu⟩:=Bo hk;subst MS;rcases Ata Eu with⟨c,Gb,hT,hv⟩|⟨es,n,cc,rfl,Gb⟩
  ·obtain⟨cs,bs,qs,Pf,hl,Wc,hb,N9,Gj,hF,Kw,Mm⟩:=Wb Gb;refine⟨c::cs,bs,qs.map (fun q=>(q.1,q.2+1)),Pf,by simp[hl],by simp[Wc],by rw[hb];simp,?_,Gj,?_,?_,fun w A own β' j0 us hβ ho=>?_⟩
   ·intro q hq q' Hp e;obtain⟨q0,HK,rfl⟩:=List.mem_map.1 hq;obtain⟨q1,Nb,rfl⟩:=List.mem_map.1 Hp;exact N9 q0 HK q1 Nb (by simp only at e;omega)
   ·intro y hy;rcases Ce.1 hy with rfl|hy
    ·exact Yb hT
    ·exact hF y hy
   ·intro y hy i hi;rcases Ce.1 hy with rfl|hy
    ·rw[Ka hT] at hi;cases hi
    ·exact Kw y hy i hi
   ·cases us with
    |nil=>exact ho.elim
    |cons u us=>
     obtain⟨h1,h2⟩:=Mm w A own β' (j0+1) us (fun q hq=>by rw[hβ _ (List.mem_map_of_mem hq)];congr 1;simp only;omega) ho.2
     exact⟨⟨At2 (hv w A _ u ho.1),h1⟩,h2⟩
  ·obtain⟨cs,bs,qs,Pf,hl,Wc,hb,N9,Gj,hF,Kw,Mm⟩:=Wb Gb;refine⟨_::cs,(id,.ar false cc)::bs,(id,0)::qs.map (fun q=>(q.1,q.2+1)),Pf,by simp[hl],by simp[Wc],by simp only[Xv,hb];simp,?_,?_,?_,?_,fun w A own β' j0 us hβ ho=>?_⟩
   ·intro q hq q' Hp e;rcases Ce.1 hq with rfl|hq
    ·rcases Ce.1 Hp with rfl|Hp
     ·rfl
     ·obtain⟨q0,HK,rfl⟩:=List.mem_map.1 Hp;simp only at e;omega
    ·obtain⟨q0,HK,rfl⟩:=List.mem_map.1 hq;rcases Ce.1 Hp with rfl|Hp
     ·simp only at e;omega
     ·obtain⟨q1,Nb,rfl⟩:=List.mem_map.1 Hp;exact N9 q0 HK q1 Nb (by simp only at e;omega)
   ·intro i bx hm;rcases Ce.1 hm with e|hm
    ·cases e;exact⟨cc,rfl⟩
    ·exact Gj i bx hm
   ·intro y hy;rcases Ce.1 hy with rfl|hy
    ·trivial
    ·exact hF y hy
   ·intro y hy i hi;rcases Ce.1 hy with rfl|hy
    ·simp only[Ay,Q2] at hi;subst hi;exact⟨_,HS⟩
    ·obtain⟨bx,Ms⟩:=Kw y hy i hi;exact⟨bx,Tu _ Ms⟩
   ·cases us with
    |nil=>exact ho.elim
    |cons u us=>
     obtain⟨h1,h2⟩:=Mm w A own β' (j0+1) us (fun q hq=>by rw[hβ _ (Tu _ (List.mem_map_of_mem hq))];congr 1;simp only;omega) ho.2
     have h0:=hβ (id,0) HS;simp only[ZS] at h0;refine⟨⟨?_,h1⟩,fun i bx hm=>?_⟩
     ·rcases ho.1 with⟨h3,rfl,_,h5⟩|⟨b,ob,cap,h3,h4,h5,h6,h7,_⟩
      ·exact .inl ⟨h0.trans h3,rfl,rfl,h5⟩
      ·exact .inr ⟨b,ob,ob,cap,h0.trans h3,h4,.inl rfl,h5,h6,h7⟩
     ·rcases Ce.1 hm with e|hm
      ·cases e;exact JB ho.1 h0
      ·exact h2 i bx hm
theorem Aya{i:Nat}{t:TypeId}{p:PV}{K:PV->List (Nat × Ca)->Option R}(hk:inK P N i t p K=some r):
  ∃v bs,∃qs:List (Nat × Nat),K v bs=some r/\bs.map (·.1)=qs.map (·.1)/\(∀q∈qs,∀q'∈qs,q.2=q'.2->q.1=q'.1)/\(IY p=true->(D3 N i,0)∈qs/\i<8) /\
   (∀id bx,(id,bx)∈bs->Dg (some bx)/\∀c,bx=.st c->id=D3 N i/\IY p=true)/\(∀id∈Cb v,∃bx,(id,bx)∈bs)/\MY bs /\
   ∀(w:World) (A:Nat->Prop) (bt β':Bt) (u:Value),(∀q∈qs,β' q.1=bt q.2)->Akg w A bt p u->E2 w A β' v u/\(∀id bx,(id,bx)∈bs->Wd w A β' id bx) /\
    ∀id bx b o,(id,bx)∈bs->β' id=some (b,o)->∀j,BR bx o j->A4o bt p b j:=by
 have owns:∀{bs:List (Nat × Ca)} {qs:List (Nat × Nat)},bs.map (·.1)=qs.map (·.1)->(∀i bx,(i,bx)∈bs->∃c,bx=.ar false c)->∀{bt β':Bt},(∀q∈qs,β' q.1=bt (1+q.2))->∀id bx b o,(id,bx)∈bs->β' id=some (b,o)->∀j,BR bx o j->∃k o',bt (k+1)=some (b,o')/\o'<=j:=by
  intro bs qs hb Gj bt β' hβ id bx b o hm hbo j hj;have:id∈qs.map (·.1):=by rw[<-hb];exact List.mem_map.2 ⟨_,hm,rfl⟩
  obtain⟨q,hq,rfl⟩:=List.mem_map.1 this;obtain⟨c,rfl⟩:=Gj _ _ hm;rw[hβ q hq,Nat.add_comm] at hbo;exact⟨q.2,o,hbo,hj⟩
 have nost:∀{bs:List (Nat × Ca)},(∀i bx,(i,bx)∈bs->∃c,bx=.ar false c)->MY bs:=by
  intro bs Gj id cells hm;obtain⟨c,e⟩:=Gj id _ hm;cases e
 unfold inK at hk;split at hk
 ·rename_i e he;obtain⟨ps,rfl,Eu⟩:=YT hk;obtain⟨hi8,Gb⟩:=Aq Eu;have hi8:i<8:=Nat.lt_of_succ_le (Sn hi8);obtain⟨cs,bs,qs,Pf,hl,Wc,hb,N9,Gj,hF,Kw,hv⟩:=Wb Gb;refine⟨_,_,(D3 N i,0)::qs.map (fun q=>(q.1,q.2+1)),Pf,by simp only[Xv,hb];simp,?_,fun _=>⟨HS,hi8⟩,?_,?_,?_,fun w A bt β' u hβ hp=>?_⟩
  ·intro q hq q' Hp e;rcases Ce.1 hq with rfl|hq
   ·rcases Ce.1 Hp with rfl|Hp
    ·rfl
    ·obtain⟨q0,HK,rfl⟩:=List.mem_map.1 Hp;simp only at e;omega
   ·obtain⟨q0,HK,rfl⟩:=List.mem_map.1 hq;rcases Ce.1 Hp with rfl|Hp
    ·simp only at e;omega
    ·obtain⟨q1,Nb,rfl⟩:=List.mem_map.1 Hp;exact N9 q0 HK q1 Nb (by simp only at e;omega)
  ·intro id bx hm;rcases Ce.1 hm with e|hm
   ·cases e;exact⟨trivial,fun _ _=>⟨rfl,rfl⟩⟩
   ·obtain⟨c,rfl⟩:=Gj id bx hm;exact⟨trivial,fun _ e=>by cases e⟩
  ·intro id B1;simp only[Cb,Co,Ay,Q2] at B1;subst B1;exact⟨_,HS⟩
  ·intro id cells hm c hc k hk;rcases Ce.1 hm with e|hm
   ·cases e;obtain⟨bx,Ms⟩:=Kw c hc k hk;exact⟨bx,Tu _ Ms⟩
   ·obtain⟨c,e⟩:=Gj id _ hm;cases e
  ·obtain⟨b,o,h1,rfl,_,vs,h3,h4,h5⟩:=hp;have h0:=hβ (D3 N i,0) HS;simp only at h0;have hβ1:∀q∈qs,β' q.1=bt (1+q.2):=fun q hq=>by rw[hβ _ (Tu _ (List.mem_map_of_mem hq)),Nat.add_comm]
   obtain⟨h6,h7⟩:=hv w A bt β' 1 vs hβ1 h3;refine⟨⟨b,o,h0.trans h1,by simp⟩,fun id bx hm=>?_,fun id bx b' o' hm I7 j hj=>?_⟩
   ·rcases Ce.1 hm with e|hm
    ·cases e;refine⟨b,o,h0.trans h1,fun k c hk=>?_,fun k hk=>h5 k (by omega)⟩;obtain⟨v,hv,hcr⟩:=h6.get hk;exact⟨v,h4 k v hv,hcr⟩
    ·exact h7 id bx hm
   ·rcases Ce.1 hm with e|hm
    ·cases e;rw[h0] at I7;have hj:o'<=j/\j<o'+cs.length:=hj;exact .inr ⟨o',ps,I7,hj.1,.inl ⟨rfl,by omega⟩⟩
    ·exact .inl (owns hb Gj hβ1 id bx b' o' hm I7 j hj)
 ·split at hk
  ·rename_i ps;obtain⟨e,he,Eu⟩:=C9 hk;obtain⟨hi8,Gb⟩:=Aq Eu;have hi8:i<8:=Nat.lt_of_succ_le (Sn hi8);obtain⟨q,qr,hq,Pf⟩:=Bo Gb;subst hq;obtain⟨HL,Uv⟩:=Es Pf;subst HL;unfold Lh at Uv;split at Uv
   ·rename_i es' n c;cases hb:Nat.beq es' (Bp P e)<;>rw[hb] at Uv
    ·cases Uv
    ·have EG:=Dz hb;subst EG;refine⟨_,_,[(D3 N i,0)],Uv,rfl,by simp,fun _=>⟨by simp,hi8⟩,?_,?_,?_,fun w A bt β' u hβ hp=>?_⟩
     ·intro id bx hm;simp only[Q2] at hm;cases hm;exact⟨trivial,fun _ e=>by cases e⟩
     ·intro id B1;simp only[Cb,Co,Ay,Q2] at B1;subst B1;exact⟨_,HS⟩
     ·intro id cells hm;simp only[Q2] at hm;cases hm
     ·obtain⟨es,n',c',h1,h2⟩:=hp;cases h1;have h0:=hβ (D3 N i,0) HS;simp only at h0;refine⟨?_,fun id bx hm=>?_,fun id bx b' o' hm I7 j hj=>?_⟩
      ·rcases h2 with⟨h3,rfl,_,h5⟩|⟨b,ob,cap,h3,h4,h5,h6,h7,_⟩
       ·exact .inl ⟨h0.trans h3,rfl,rfl,h5⟩
       ·exact .inr ⟨b,ob,ob,cap,h0.trans h3,h4,.inl rfl,h5,h6,h7⟩
      ·simp only[Q2] at hm;cases hm;exact JB h2 h0
      ·simp only[Q2] at hm;cases hm;rw[h0] at I7;exact .inr ⟨o',_,I7,hj,.inr rfl⟩
   ·cases Uv
  ·rename_i hnt;cases H4:Cw P t<;>rw[H4] at hk
   ·simp only[cond_false] at hk;obtain⟨cs,bs,qs,Pf,hl,Wc,hb,N9,Gj,hF,Kw,hv⟩:=Wb hk;obtain⟨c,cs',Z5,Uv⟩:=Bo Pf;subst Z5;obtain⟨HL,XY⟩:=Es Uv;subst HL;have hFc:=hF c (by simp)
    have hnL:IY p=false\/∃ps,p=.pbox ps:=by
     cases p<;>first|exact .inl rfl|exact .inr ⟨_,rfl⟩|exact absurd rfl (hnt _)
    have hpb:∀ps,p ≠ .pbox ps:=by
     rintro ps rfl
     cases hts:Kv P t with
     |nil=>rw[hts] at Wc;simp at Wc
     |cons t' ts=>
      rw[hts] at hk;unfold OI Arr at hk;obtain⟨q,qs1,hq,Eu⟩:=Bo hk;cases hq;cases t'<;>simp[NQ,Xs,Bk,Bn,Bi,fnK] at Eu
    have hpa:∀ps,p ≠ .agg ps:=by
     rintro ps rfl
     cases hts:Kv P t with
     |nil=>rw[hts] at Wc;simp at Wc
     |cons t' ts=>
      rw[hts] at hk;unfold OI Arr at hk;obtain⟨q,qs1,hq,Eu⟩:=Bo hk;cases hq;cases t'<;>simp[NQ,Xs,Bk,Bn,Bi,fnK] at Eu
    have hnL:IY p=false:=hnL.elim id (fun ⟨ps,e⟩=>absurd e (hpb ps));have FO:Cb c=Ay c:=by cases c<;>first|rfl|exact hFc.elim
    refine⟨c,bs,qs.map (fun q=>(q.1,q.2+1)),XY,by rw[hb];simp,?_,(fun h=>by rw[hnL] at h;cases h),?_,fun id B1=>Kw c (by simp) id (by rw[<-FO];exact B1),nost Gj,fun w A bt β' u hβ hp=>?_⟩
    ·intro q hq q' Hp e;obtain⟨q0,HK,rfl⟩:=List.mem_map.1 hq;obtain⟨q1,Nb,rfl⟩:=List.mem_map.1 Hp;exact N9 q0 HK q1 Nb (by simp only at e;omega)
    ·intro id bx hm;obtain⟨c,rfl⟩:=Gj id bx hm;exact⟨trivial,fun _ e=>by cases e⟩
    ·have Dl:Ij w A (bt 1) p u:=by cases p<;>first|exact hp.2|exact absurd rfl (hpa _)|exact absurd rfl (hpb _)|exact absurd rfl (hnt _)
     have hβ1:∀q∈qs,β' q.1=bt (1+q.2):=fun q hq=>by rw[hβ _ (List.mem_map_of_mem hq),Nat.add_comm]
     obtain⟨h6,h7⟩:=hv w A bt β' 1 [u] hβ1 ⟨Dl,trivial⟩;refine⟨?_,h7,fun id bx b' o' hm I7 j hj=>.inl (owns hb Gj hβ1 id bx b' o' hm I7 j hj)⟩;have h8:=h6.1;cases c<;>first|exact h8|exact hFc.elim
   ·simp only[cond_true] at hk;obtain⟨ps,Pr,Eu⟩:=Jw hk;subst Pr;obtain⟨cs,bs,qs,Pf,hl,Wc,hb,N9,Gj,hF,Kw,hv⟩:=Wb Eu;refine⟨_,bs,qs.map (fun q=>(q.1,q.2+1)),Pf,by rw[hb];simp,?_,(fun h=>by cases h),?_,fun id B1=>?_,nost Gj,fun w A bt β' u hβ hp=>?_⟩
    ·intro q hq q' Hp e;obtain⟨q0,HK,rfl⟩:=List.mem_map.1 hq;obtain⟨q1,Nb,rfl⟩:=List.mem_map.1 Hp;exact N9 q0 HK q1 Nb (by simp only at e;omega)
    ·intro id bx hm;obtain⟨c,rfl⟩:=Gj id bx hm;exact⟨trivial,fun _ e=>by cases e⟩
    ·obtain⟨c,hc,hi⟩:=List.mem_flatMap.1 (show id∈cs.flatMap Ay from B1);exact Kw c hc id hi
    ·obtain⟨vs,h1,_,h3⟩:=hp;have hβ1:∀q∈qs,β' q.1=bt (1+q.2):=fun q hq=>by rw[hβ _ (List.mem_map_of_mem hq),Nat.add_comm]
     obtain⟨h6,h7⟩:=hv w A bt β' 1 vs hβ1 h3;exact⟨⟨vs,h1,h6⟩,h7,fun id bx b' o' hm I7 j hj=>.inl (owns hb Gj hβ1 id bx b' o' hm I7 j hj)⟩
theorem Afz:∀{ts:List TypeId}{i:Nat}{ps:Ae}{K:List (Nat × PV)->List (Nat × Ca)->Option R},Aot P N i ts ps K=some r ->
  ∃tms bs,∃qs:List (Nat × Nat × Nat),K tms bs=some r/\bs.map (·.1)=qs.map (·.1)/\(∀q∈qs,i<=q.2.1)/\(∀q∈qs,∀q'∈qs,q.2=q'.2->q.1=q'.1) /\
   (∀k p,ps[k]?=some p->IY p=true->(D3 N (i+k),i+k,0)∈qs/\i+k<8)/\(∀id bx,(id,bx)∈bs->Dg (some bx)/\∀c,bx=.st c->∃k p,ps[k]?=some p/\IY p=true/\id=D3 N (i+k)) /\
   (∀j,∀id∈Cb (lk tms j),∃bx,(id,bx)∈bs)/\MY bs /\
   ∀(w:World) (A:Nat->Prop) (bt:GI) (β':Bt) (us:List Value),(∀q∈qs,β' q.1=bt q.2.1 q.2.2)->Nv w A bt i ps us ->
    (∀j,(∃u,i<=j/\us[j-i]?=some u/\E2 w A β' (lk tms j) u)\/(lk tms j=.top/\(i<=j->us[j-i]?=none)))/\(∀id bx,(id,bx)∈bs->Wd w A β' id bx) /\
    ∀id bx b o,(id,bx)∈bs->β' id=some (b,o)->∀j,BR bx o j->∃k p,ps[k]?=some p/\A4o (bt (i+k)) p b j
 |[],i,ps,K,hk=>by
  obtain⟨MS,hk⟩:=Es hk;subst MS;refine⟨[],[],[],hk,rfl,by simp,by simp,by simp,by simp,(fun j id B1=>by cases B1),(by intro i cells hm;cases hm),fun w A bt β' us _ h=>?_⟩
  cases us with
  |nil=>exact⟨fun j=>.inr ⟨rfl,fun _=>by simp⟩,by simp,by simp⟩
  |cons u us=>exact h.elim
 |t::ts,i,ps,K,hk=>by
  unfold Aot at hk;obtain⟨p,ps',MS,Eu⟩:=Bo hk;subst MS;obtain⟨v,bs,qs,Gb,hb,hqi,BA,Ms,hr,hri,hv⟩:=Aya Eu;obtain⟨tms,bs',qs',Pf,I7,A38,Bfu,Ba7,Bg7,hr',Bfh,Uu⟩:=Afz Gb;refine⟨(i,v)::tms,bs++bs',qs.map (fun q=>(q.1,i,q.2))++qs',Pf,by simp only[List.map_append,hb,I7];simp,?_,?_,?_,?_,?_,?_,fun w A bt β' us hβ hp=>?_⟩
  ·intro q hq;rcases B2.1 hq with hq|hq
   ·obtain⟨q0,HK,rfl⟩:=List.mem_map.1 hq;exact Cd _
   ·have:=A38 q hq;omega
  ·intro q hq q' Hp e;rcases B2.1 hq with hq|hq
   ·obtain⟨q0,HK,rfl⟩:=List.mem_map.1 hq;rcases B2.1 Hp with Hp|Hp
    ·obtain⟨q1,Nb,rfl⟩:=List.mem_map.1 Hp;simp only[Prod.mk.injEq,true_and] at e;exact hqi q0 HK q1 Nb e
    ·have:=A38 q' Hp;rw[<-e] at this;simp only at this;omega
   ·have h5:=A38 q hq;rcases B2.1 Hp with Hp|Hp
    ·obtain⟨q1,Nb,rfl⟩:=List.mem_map.1 Hp;rw[e] at h5;simp only at h5;omega
    ·exact Bfu q hq q' Hp e
  ·intro k p' Ih hL;cases k with
   |zero=>
    simp only[List.getElem?_cons_zero,Option.some.injEq] at Ih;subst Ih;obtain⟨h1,h2⟩:=BA hL;exact⟨B2.2 (.inl (List.mem_map.2 ⟨_,h1,rfl⟩)),h2⟩
   |succ k=>
    obtain⟨h1,h2⟩:=Ba7 k p' (by simpa using Ih) hL;rw[show i+1+k=i+(k+1) by omega] at h1 h2;exact⟨B2.2 (.inr h1),h2⟩
  ·intro id bx hm;rcases B2.1 hm with hm|hm
   ·obtain⟨h1,h2⟩:=Ms id bx hm;exact⟨h1,fun c hc=>⟨0,p,rfl,(h2 c hc).2,(h2 c hc).1⟩⟩
   ·obtain⟨h1,h2⟩:=Bg7 id bx hm;refine⟨h1,fun c hc=>?_⟩;obtain⟨k,p',h3,h4,h5⟩:=h2 c hc;exact⟨k+1,p',by simpa using h3,h4,by rw[h5,show i+1+k=i+(k+1) by omega]⟩
  ·intro j id B1;unfold lk at B1;cases hbq:Nat.beq j i<;>rw[hbq] at B1
   ·obtain⟨bx,h1⟩:=hr' j id B1;exact⟨bx,B2.2 (.inr h1)⟩
   ·obtain⟨bx,h1⟩:=hr id B1;exact⟨bx,B2.2 (.inl h1)⟩
  ·intro id cells hm c hc k hk;rcases B2.1 hm with hm|hm
   ·obtain⟨bx,h1⟩:=hri id cells hm c hc k hk;exact⟨bx,B2.2 (.inl h1)⟩
   ·obtain⟨bx,h1⟩:=Bfh id cells hm c hc k hk;exact⟨bx,B2.2 (.inr h1)⟩
  ·cases us with
   |nil=>exact hp.elim
   |cons u us=>
    obtain⟨h1,h2,h3⟩:=hv w A (bt i) β' u (fun q hq=>hβ _ (B2.2 (.inl (List.mem_map_of_mem hq)))) hp.1;obtain⟨h1',h2',h3'⟩:=Uu w A bt β' us (fun q hq=>hβ q (B2.2 (.inr hq))) hp.2;refine⟨fun j=>?_,fun id bx hm=>?_,fun id bx b o hm hbo j hj=>?_⟩
    ·unfold lk;cases hbq:Nat.beq j i
     ·have Gx:=Ry hbq;simp only[cond_false];rcases h1' j with⟨u',h4,h5,h6⟩|⟨h4,h5⟩
      ·refine .inl ⟨u',by omega,?_,h6⟩;rw[show j-i=(j-(i+1))+1 by omega]
       simpa using h5
      ·refine .inr ⟨h4,fun hij=>?_⟩;rw[show j-i=(j-(i+1))+1 by omega]
       simpa using h5 (by omega)
     ·have:=Dz hbq;subst this;exact .inl ⟨u,Cd _,by simp,h1⟩
    ·rcases B2.1 hm with hm|hm
     ·exact h2 id bx hm
     ·exact h2' id bx hm
    ·rcases B2.1 hm with hm|hm
     ·exact⟨0,p,rfl,h3 id bx b o hm hbo j hj⟩
     ·obtain⟨k,p',h4,h5⟩:=h3' id bx b o hm hbo j hj;exact⟨k+1,p',by simpa using h4,by rw[show i+(k+1)=i+1+k by omega];exact h5⟩
def SO(bt:GI)(args:Ae)(h8:∀k p,args[k]?=some p->IY p=true->k<8):Gc:=
 ⟨BtX bt,SN bt args,fun i=>∃p,args[i]?=some p/\IY p=true,fun i=>bt i 0,fun i ⟨p,h1,h2⟩=>h8 i p h1 h2⟩
theorem Aal{ts:List TypeId}{args:Ae}{us:List Value}{bt:GI}{K:List (Nat × PV)->List (Nat × Ca)->Option R}(Xd:Ins w Y bt args us)(hk:Aot P N 0 ts args K=some r):
  ∃tms bs,K tms bs=some r/\(Cn (fun _=>none) bs=true->us.length<=N->∃(h8:∀k p,args[k]?=some p->IY p=true->k<8),∃β0,
   Cg N w (SO bt args h8) Y β0 ⟨lk tms,Ct bs⟩ { tmps:=us.toArray++Array.replicate (N-us.toArray.size) undef,defers:=[] } w):=by
 obtain⟨tms,bs,qs,Eu,hb,HK,hqi,BA,Ms,hr,hri,hv⟩:=Afz hk;refine⟨tms,bs,Eu,fun Vq hN=>?_⟩;have Ai7:=X9 Vq
 have h8:∀k p,args[k]?=some p->IY p=true->k<8:=fun k p h1 h2=>by
  have:=(BA k p h1 h2).2;omega
 have XC:(qs.map (·.1)).Nodup:=by rw[<-hb];exact Ai7
 obtain⟨β0,hβ0⟩:∃β0:Bt,∀q∈qs,β0 q.1=bt q.2.1 q.2.2:=by
  have:∀(l:List (Nat × Nat × Nat)),(l.map (·.1)).Nodup->∃β0:Bt,∀q∈l,β0 q.1=bt q.2.1 q.2.2:=by
   intro l
   induction l with
   |nil=>intro _;exact⟨fun _=>none,by simp⟩
   |cons q l ih=>
    intro hn;simp only[Xv,List.nodup_cons] at hn;obtain⟨b1,h1⟩:=ih hn.2;refine⟨Dt b1 q.1 (bt q.2.1 q.2.2),fun q' Hp=>?_⟩;rcases Ce.1 Hp with rfl|Hp
    ·exact Av _ _ _
    ·have Gx:q'.1≠q.1:=fun e=>hn.1 (by rw[<-e];exact List.mem_map.2 ⟨q',Hp,rfl⟩)
     rw[Ao _ _ Gx];exact h1 q' Hp
  exact this qs XC
 refine⟨h8,β0,?_⟩;obtain⟨hs,hbr,hL⟩:=hv w _ bt β0 us hβ0 Xd.args
 have hqm:∀id bx,(id,bx)∈bs->∃ik,(id,ik)∈qs/\β0 id=bt ik.1 ik.2:=by
  intro id bx hm;have:id∈qs.map (·.1):=by rw[<-hb];exact List.mem_map.2 ⟨_,hm,rfl⟩
  obtain⟨q,hq,rfl⟩:=List.mem_map.1 this;exact⟨q.2,hq,hβ0 q hq⟩
 have hX:∀b,IM (Ct bs) β0 b->BtX bt b:=by
  rintro b ⟨id,o,hl,hβ⟩
  cases hq:Ct bs id with
  |none=>rw[hq] at hl;exact hl.elim
  |some bx=>
   obtain⟨ik,_,h2⟩:=hqm id bx (Rw hq);rw[h2] at hβ;exact⟨_,_,_,hβ⟩
 have hA:∀b,Dv (Ct bs) β0 Y b->BtX bt b\/Y b:=fun b hb=>hb.imp (hX b) id;have Ayw:∀{p:PV} {u:Value},E2 w (fun b=>BtX bt b\/Y b) β0 p u->E2 w (Dv (Ct bs) β0 Y) β0 p u:=fun h=>h.step (Cs.refl _ _) (fun b _=>hA b) (fun _ _=>rfl);refine⟨rfl,by simp;omega,fun i hi=>?_,fun i hi=>?_,?_,?_,?_,fun i hi id B1=>?_,?_,fun b hb=>.inl (hX b hb),?_,?_,?_,fun b hY hXb=>Xd.Yx b hY (hX b hXb),Xd.Ylt,⟨rfl,rfl,rfl,Cs.refl _ _,fun _ _ _ _=>⟨rfl,rfl⟩⟩⟩
 ·rcases hs i with⟨u,_,h,_⟩|⟨h,_⟩
  ·rw[Nat.sub_zero,List.getElem?_eq_none (by omega)] at h;cases h
  ·exact h
 ·rcases hs i with⟨u,_,h,hv⟩|⟨h,h'⟩
  ·rw[Nat.sub_zero] at h
   have Ci:i<us.length:=by
    rcases Is i us.length with h'|h'
    ·exact h'
    ·rw[List.getElem?_eq_none h'] at h;cases h
   have:(us.toArray++Array.replicate (N-us.toArray.size) undef).getD i undef=u:=by
    rw[Array.getD_eq_getD_getElem?,Array.getElem?_append_left (by simpa using Ci)];simp[h]
   show E2 w _ _ _ ((us.toArray++Array.replicate (N-us.toArray.size) undef).getD i undef);rw[this];exact Ayw hv
  ·show E2 w _ _ (lk tms i) _;rw[h];exact Az.top _
 ·intro id bx hq;exact (hbr id bx (Rw hq)).step' hA
 ·intro id id' b o o' hl Ox hβ hβ';cases hq:Ct bs id with
  |none=>change Dg (Ct bs id) at hl;rw[hq] at hl;exact hl.elim
  |some bx=>
   cases Hp:Ct bs id' with
   |none=>change Dg (Ct bs id') at Ox;rw[Hp] at Ox;exact Ox.elim
   |some bx'=>
    obtain⟨ik,h1,h2⟩:=hqm id bx (Rw hq);obtain⟨ik',h1',h2'⟩:=hqm id' bx' (Rw Hp);rw[h2] at hβ;rw[h2'] at hβ';obtain⟨h3,h4⟩:=Xd.inj _ _ _ _ b o o' hβ hβ';exact hqi _ h1 _ h1' (Prod.ext h3 h4)
 ·intro id b o hn hβ;cases hq:Ct bs id with
  |none=>exact absurd hq hn
  |some bx=>
   obtain⟨ik,h1,h2⟩:=hqm id bx (Rw hq);rw[h2] at hβ;exact Xd.lt b ⟨_,_,_,hβ⟩
 ·obtain⟨bx,hm⟩:=hr i id B1;show Ct bs id≠none;rw[Abn Ai7 hm];simp
 ·intro id cells hq c hc k hk;obtain⟨bx,hm⟩:=hri id cells (Rw hq) c hc k hk;show Ct bs k≠none;rw[Abn Ai7 hm];simp
 ·intro id bx b o hq hl hβ _ j hj;obtain⟨k,p,h1,h2⟩:=hL id bx b o (Rw hq) hβ j hj;rw[Ir] at h2;exact⟨k,p,h1,h2⟩
 ·rintro i ⟨p,h1,h2⟩
  have h3:=(BA i p h1 h2).1;rw[Ir] at h3;refine⟨?_,hβ0 _ h3⟩;have:D3 N i∈bs.map (·.1):=by rw[hb];exact List.mem_map.2 ⟨_,h3,rfl⟩
  obtain⟨⟨id,bx⟩,hm,e⟩:=List.mem_map.1 this;show Ct bs (D3 N i)≠none;rw[<-e,Abn Ai7 hm];simp
 ·intro id c b o hq _ _;obtain⟨k,p,h1,h2,h3⟩:=(Ms id _ (Rw hq)).2 c rfl;rw[Ir] at h3;exact⟨k,h3,p,h1,h2⟩
end
open Go.RowKit
def P4(β:Bt)(l:List (Option Nat))(j:Nat):Option (Nat × Nat):=((l[j]?).bind id).bind β
section
variable {R:Type}{r:R}{P:Program}{N:Nat}{w0:World}{X0:Gc}{Y:Nat->Prop}{β β':Bt}{s:St}{a:Act}{w w':World}{A:Nat->Prop}
def Atf(s:St)(l:List (Option Nat)):Prop:=∀id,some id∈l->Dg (s.hp id)
def Rm(s:St)(z:B7):Prop:=∀id∈z,∃f c,s.hp id=some (.ar f c)
theorem YJ(h : Cg N w0 X0 Y β s a w){shr : Bool}{t : CT}{p : PV}{K : PV -> B7 -> B7 -> Option R}(hk : Al7 shr s.hp t p K = some r):
    ∃ c q z, K c (Option.toList q) z = some r /\ (∀ x, c ≠ .agg x /\ c ≠ .pbox x) /\ YC p /\ (∀ id, q = some id -> ∃ c, s.hp id = some (.ar false c)) /\ Rm s z /\
      ∀ (fz : B7) A u, (∀ i ∈ z, i ∈ fz) -> Rm s fz -> (∀ b, A b -> Dv (Ah s.hp fz) β Y b) -> Cj w (Dv s.hp β Y) β p u -> Ij w A (q.bind β) c u := by
  have notree : ∀ {c : PV}, FB c -> ∀ x, c ≠ .agg x /\ c ≠ .pbox x := fun hT x => ⟨KI hT x, by rintro rfl; exact hT⟩
  unfold Al7 at hk
  cases shr <;> simp only[cond_true, cond_false] at hk
  · have tree : ∀ t', (∀ es, t' ≠ .sl es) -> (NQ t' p fun c => K c [] []) = some r -> ∃ c q z, K c (Option.toList q) z = some r /\ (∀ x, c ≠ .agg x /\ c ≠ .pbox x) /\ YC p /\ (∀ id, q = some id -> ∃ c, s.hp id = some (.ar false c)) /\ Rm s z /\
        ∀ (fz : B7) A u, (∀ i ∈ z, i ∈ fz) -> Rm s fz -> (∀ b, A b -> Dv (Ah s.hp fz) β Y b) -> Cj w (Dv s.hp β Y) β p u -> Ij w A (q.bind β) c u := by
      intro t' Gx hk
      obtain⟨c, Eu, hT, WI, hv⟩ := Rr hk
      refine⟨c, none, [], Eu, notree hT, Yb WI, by simp, (by intro i hi; cases hi), fun fz A u _ _ hA hc => Pd hT ?_⟩
      exact (hv w _ β u hc).1.step (Cs.refl _ _) (fun b _ hb => Ta (hA b hb))
    unfold A23 at hk
    cases t with
    | sl es =>
      dsimp only at hk
      split at hk
      · rename_i id es' off n
        cases hb : (Nat.beq es' es && Nat.beq off 0) <;> rw[hb] at hk
        · cases hk
        · simp only[Fe] at hb
          have he := Dz hb.1
          have ho := Dz hb.2
          subst he ho
          simp only[cond_true] at hk
          split at hk
          · rename_i c h0
            obtain⟨hl, Eu⟩ := Aq hk
            refine⟨_, some id, [], Eu, by simp, trivial, fun i hi => by cases hi; exact⟨c, h0⟩, (by intro i hi; cases hi), fun fz A u _ _ hA hc => ?_⟩
            rcases hc with⟨h1, _, rfl, h4⟩ | ⟨b, o, x, cap, h1, h2, hx, h3, h4, h5⟩
            · exact .inl ⟨h1, rfl, by simp, h4⟩
            · have hx : x = o := by rcases hx with e | ⟨_, e⟩ <;> omega
              subst hx
              rcases h.box id _ h0 with⟨h6, _⟩ | ⟨b', o', h6, h7, h8, _⟩
              · rw[h1] at h6; cases h6
              · rw[h1] at h6
                cases h6
                refine .inr ⟨b, x, cap, h1, h2, h3, h4, h5, fun j q hq => ?_, fun j hj Ty => h8 rfl j hj Ty⟩
                rw[List.getElem?_take] at hq
                split at hq
                · obtain⟨v, hv, h9, ht⟩ := h7 j q hq
                  exact⟨v, hv, h9, ht.step (Cs.refl _ _) (fun b _ hb => Ta (hA b hb))⟩
                · cases hq
          · cases hk
      · obtain⟨z, n, c, Eu, hp⟩ := Ha hk
        obtain⟨hz, Gb⟩ := Aq Eu
        subst hz
        have hpF : YC p := by rcases hp with e | ⟨e, _⟩ <;> (rw[e]; trivial)
        refine⟨_, none, [], Gb, by simp, hpF, by simp, (by intro i hi; cases hi), fun fz A u _ _ _ hc => ?_⟩
        have hu : u = .slice none 0 0 := by
          rcases hp with rfl | ⟨rfl, _⟩
          · cases hc; rfl
          · exact Az.val hc
        exact .inl ⟨rfl, rfl, rfl, none, hu⟩
    | int k => exact tree _ (by simp) hk
    | bool => exact tree _ (by simp) hk
    | str => exact tree _ (by simp) hk
    | any => exact tree _ (by simp) hk
  · obtain⟨c, m, Eu, hT, hF, hm, hv⟩ := SM h hk
    exact⟨c, none, m, Eu, notree hT, hF, by simp, hm, fun fz A u h1 h2 hA hc => Pd hT ((hv fz h1 h2 u hc).1.step (Cs.refl _ _) (fun b _ hb => hA b hb))⟩
structure QP(s:St)(β:Bt)(Y:Nat->Prop)(w:World)(cs:Ae)(l:List (Option Nat))(z:B7)(ps:Ae):Prop where
 len:l.length=cs.length
 pl:cs.length=ps.length
 na:∀c∈cs,∀x,c ≠ .agg x/\c ≠ .pbox x
 fr:∀p∈ps,YC p
 own:∀id,some id∈l->∃c,s.hp id=some (.ar false c)
 row:Rm s z
 sem:∀(fz:B7) A us,(∀i∈z,i∈fz)->Rm s fz->(∀b,A b->Dv (Ah s.hp fz) β Y b)->Bw (Cj w (Dv s.hp β Y) β) ps us->∀own j0,(∀j,j<l.length->own (j0+j)=P4 β l j)->Gh w A own j0 cs us
theorem QP.nil:QP s β Y w [] [] [] []:=⟨rfl,rfl,by simp,by simp,by simp,(by intro i hi;cases hi),fun fz A us _ _ _ hu own j0 _=>by
 cases us with
 |nil=>trivial
 |cons u us=>exact hu.elim⟩
theorem QP.cons{c p:PV}{q:Option Nat}{z zs:B7}{cs ps:Ae}{l:List (Option Nat)}(NC:∀x,c ≠ .agg x/\c ≠ .pbox x)(hF:YC p)(hq:∀id,q=some id->∃c,s.hp id=some (.ar false c))(hz:Rm s z)(hv:∀(fz:B7) A u,(∀i∈z,i∈fz)->Rm s fz->(∀b,A b->Dv (Ah s.hp fz) β Y b)->Cj w (Dv s.hp β Y) β p u->Ij w A (q.bind β) c u)(H:QP s β Y w cs l zs ps):QP s β Y w (c::cs) (q::l) (z++zs) (p::ps):=by
 refine⟨by simp[H.len],by simp[H.pl],?_,?_,?_,?_,fun fz A us hz1 Y1 hA hu own j0 Hr=>?_⟩
 ·intro x hx;rcases Ce.1 hx with rfl|hx
  ·exact NC
  ·exact H.na x hx
 ·intro x hx;rcases Ce.1 hx with rfl|hx
  ·exact hF
  ·exact H.fr x hx
 ·intro id B1;rcases Ce.1 B1 with e|B1
  ·exact hq id e.symm
  ·exact H.own id B1
 ·intro i hi;rcases B2.1 hi with hi|hi
  ·exact hz i hi
  ·exact H.row i hi
 ·cases us with
  |nil=>exact hu.elim
  |cons u us=>
   have h0:=Hr 0 (by simp);rw[ZS] at h0;refine⟨?_,H.sem fz A us (fun i hi=>hz1 i (by simp[hi])) Y1 hA hu.2 own (j0+1) fun j hj=>?_⟩
   ·rw[h0];exact hv fz A u (fun i hi=>hz1 i (by simp[hi])) Y1 hA hu.1
   ·have:=Hr (j+1) (by simp;omega)
    rw[show j0+1+j=j0+(j+1) by omega,this];simp[P4]
theorem Ya(h:Cg N w0 X0 Y β s a w){shr:Bool}:∀{ts:List CT}{ps:Ae}{K:Ae->B7->B7->Option R},ML shr s.hp ts ps K=some r ->
  ∃cs l z,K cs (l.filterMap id) z=some r/\QP s β Y w cs l z ps
 |[],[],K,hk=>⟨[],[],[],hk,QP.nil⟩
 |[],_::_,K,hk=>by cases hk
 |_::_,[],K,hk=>by cases hk
 |t::ts,p::ps,K,hk=>by
  unfold ML at hk;obtain⟨c,q,z,Eu,NC,hF,hq,hz,hv⟩:=YJ h hk;obtain⟨cs,l,zs,Gb,H⟩:=Ya h Eu;refine⟨c::cs,q::l,z++zs,?_,QP.cons NC hF hq hz hv H⟩;cases q<;>exact Gb
theorem OD(h:Cg N w0 X0 Y β s a w):∀{ts:List CT}{ws ps:Ae}{K:Ae->B7->B7->Option R},RH s.hp ts ws ps K=some r ->
  ∃cs l z,K cs (l.filterMap id) z=some r/\cs.length=ws.length/\QP s β Y w cs l z ps
 |[],[],[],K,hk=>⟨[],[],[],hk,rfl,QP.nil⟩
 |[],_::_,_,K,hk=>by cases hk
 |[],[],_::_,K,hk=>by cases hk
 |_::_,[],_,K,hk=>by cases hk
 |_::_,_::_,[],K,hk=>by cases hk
 |t::ts,x::ws,p::ps,K,hk=>by
  unfold RH at hk;obtain⟨c,q,z,Eu,NC,hF,hq,hz,hv⟩:=YJ h hk;obtain⟨cs,l,zs,Gb,hl,H⟩:=OD h Eu;refine⟨c::cs,q::l,z++zs,?_,by simp[hl],QP.cons NC hF hq hz hv H⟩;cases q<;>exact Gb
theorem Aju{own:Bt}{zz j:Nat}{p:PV}{u:Value}(hp:∀x,p ≠ .agg x/\p ≠ .pbox x)(h:Gh w A own j [p] [u]):Ayb w A own zz j p u:=by cases p<;>first|exact h.1|exact absurd rfl (hp _).1|exact absurd rfl (hp _).2
theorem Ami(h:Cg N w0 X0 Y β s a w){id b o:Nat}{c cs:Ae}{l:List (Option Nat)}{z:B7}(h0:s.hp id=some (.st c))(hβ:β id=some (b,o))(H:QP s β Y w cs l z c){fz:B7}{A:Nat->Prop}(h1:∀i∈z,i∈fz)(h2:Rm s fz)(hA:∀b,A b->Dv (Ah s.hp fz) β Y b){own:Bt}{j0:Nat}(Hr:∀j,j<l.length->own (j0+j)=P4 β l j):Asd w A own j0 b o cs:=by
 obtain⟨b',o',Gj,Kw,EP⟩:=h.box id _ h0;rw[hβ] at Gj;cases Gj;refine⟨c.mapIdx (fun j _=>(w.cell? ⟨b,o+j,none⟩).getD undef),H.sem fz A _ h1 h2 hA ?_ own j0 Hr,?_,fun k hk=>EP k (by have:=H.pl;omega)⟩
 ·refine Bw.of_at (by simp) fun j p v hp hv=>?_;obtain⟨u,hu,hcr⟩:=Kw j p hp;rw[List.getElem?_mapIdx,hp,Option.map_some,hu] at hv;simp at hv;subst hv;exact hcr
 ·intro k v hkv;rw[List.getElem?_mapIdx] at hkv;cases hp:c[k]? with
  |none=>rw[hp] at hkv;cases hkv
  |some p=>
   obtain⟨u,hu,hcr⟩:=Kw k p hp;rw[hp,Option.map_some,hu] at hkv;simp at hkv;subst hkv;exact hu
theorem An2(h:Cg N w0 X0 Y β s a w){shr:Bool}{t:TypeId}{p:PV}{u:Value}(hp:E2 w (Dv s.hp β Y) β p u){K:PV->B7->B7->Option R}(hk:Au6 P shr s.hp t p K=some r):
  ∃v l z,K v (l.filterMap id) z=some r/\l.length=plc v/\Atf s l/\Rm s z /\
   ∀(fz:B7) A zz,(∀i∈z,i∈fz)->Rm s fz->(∀b,A b->Dv (Ah s.hp fz) β Y b)->(∀id c b o,some id∈l->s.hp id=some (.st c)->β id=some (b,o)->zz<=b) ->
    ∀own j0,(∀j,j<l.length->own (j0+j)=P4 β l j)->Ayb w A own zz j0 v u:=by
 unfold Au6 at hk;split at hk
 ·rename_i e he;split at hk
  ·rename_i id off;split at hk
   ·rename_i c h0;obtain⟨hof,Eu⟩:=Aq hk;have hof:=Dz hof;subst hof;obtain⟨cs,l,z,Gb,H⟩:=Ya h Eu;obtain⟨b,o,hβ,hu⟩:=hp;refine⟨.pbox cs,some id::l,z,Gb,by simp only[plc,Tt,H.len];omega,?_,H.row,fun fz A zz h1 h2 hA hz own j0 Hr=>?_⟩
    ·intro i hi;rcases Ce.1 hi with e|hi
     ·cases e;rw[h0];trivial
     ·obtain⟨c',Yp⟩:=H.own i hi;rw[Yp];trivial
    ·have h3:=Hr 0 (by simp);rw[ZS] at h3;refine⟨b,o,by rw[h3];exact hβ,hz id c b o (by simp) h0 hβ,by rw[hu,ZS],Ami h h0 hβ H h1 h2 hA fun j hj=>?_⟩
     have:=Hr (j+1) (by simp;omega)
     rw[show j0+1+j=j0+(j+1) by omega,this];simp[P4]
   ·cases hk
  ·cases hk
 ·cases H4:Cw P t<;>rw[H4] at hk<;>simp only[cond_true,cond_false] at hk
  ·obtain⟨cs,l,z,Eu,H⟩:=Ya h hk;obtain⟨c,cs',Z5,Gb⟩:=Bo Eu;subst Z5;obtain⟨HL,Pf⟩:=Es Gb;subst HL;have NC:=H.na c (by simp);have FA:plc c=1:=by cases c<;>first|rfl|exact absurd rfl (NC _).1|exact absurd rfl (NC _).2
   have hF:=H.fr p (by simp);refine⟨c,l,z,Pf,by rw[FA];exact H.len,fun i hi=>?_,H.row,fun fz A zz h1 h2 hA _ own j0 Hr=>Aju NC (H.sem fz A [u] h1 h2 hA ⟨?_,trivial⟩ own j0 Hr)⟩
   ·obtain⟨c',Yp⟩:=H.own i hi;rw[Yp];trivial
   ·cases p<;>first|exact hp|exact hF.elim
  ·obtain⟨ps,MS,Eu⟩:=Jw hk;subst MS;obtain⟨cs,l,z,Gb,H⟩:=Ya h Eu;obtain⟨vs,hu,Mm⟩:=hp;refine⟨.agg cs,l,z,Gb,H.len,fun i hi=>?_,H.row,fun fz A zz h1 h2 hA _ own j0 Hr=>⟨vs,hu,H.sem fz A vs h1 h2 hA Mm own j0 Hr⟩⟩;obtain⟨c',Yp⟩:=H.own i hi;rw[Yp];trivial
def Ac6(P:Program)(tmps:Array Value)(w:World)(rv:ResultVar)(u:Value):Prop:=
  (match rv with
   |.tmp t=>(pure (tmps.getD t undef):Sem Value)
   |.cell a t=>do loadVar t (<-asAddr (tmps.getD a undef))).run P w=.ok u w
theorem Aut(h:Cg N w0 X0 Y β s a w)(t:Nat):E2 w (Dv s.hp β Y) β (s.tm t) (a.tmps.getD t undef):=by
 rcases Is t N with h'|h'
 ·exact h.tms t h'
 ·rw[h.tmo t h'];exact Az.top _
theorem Apm(h:Cg N w0 X0 Y β s a w){rv:ResultVar}{K:PV->Option R}(hk:As5 P s rv K=some r):∃p u,K p=some r/\Ac6 P a.tmps w rv u/\E2 w (Dv s.hp β Y) β p u:=by
 unfold As5 at hk;split at hk
 ·rename_i t;exact⟨_,_,hk,rfl,Aut h t⟩
 ·rename_i x t;obtain⟨v,ad,val,Eu,Eh,hl,hv,_⟩:=Agi h (Aut h x) hk;refine⟨v,val,Eu,?_,hv⟩;unfold Ac6;simp[Eh,asAddr,hl]
theorem GA{l l':List (Option Nat)}{j:Nat}(h:j<l.length):P4 β (l++l') j=P4 β l j:=by unfold P4;rw[List.getElem?_append_left h]
theorem HB{l l':List (Option Nat)}{j:Nat}:P4 β (l++l') (l.length+j)=P4 β l' j:=by unfold P4;rw[List.getElem?_append_right (by omega),Nat.add_sub_cancel_left]
theorem SF(h:Cg N w0 X0 Y β s a w){shr:Bool}:∀{rs:List ResultVar}{ts:List TypeId}{K:Ae->B7->B7->Option R},Adg P shr s rs ts K=some r ->
  ∃vs l z us,K vs (l.filterMap id) z=some r/\Bw (Ac6 P a.tmps w) rs us/\l.length=Om vs/\Atf s l/\Rm s z /\
   ∀(fz:B7) A zz,(∀i∈z,i∈fz)->Rm s fz->(∀b,A b->Dv (Ah s.hp fz) β Y b)->(∀id c b o,some id∈l->s.hp id=some (.st c)->β id=some (b,o)->zz<=b) ->
    ∀own j0,(∀j,j<l.length->own (j0+j)=P4 β l j)->Aa8 w A own zz j0 vs us
 |[],[],K,hk=>⟨[],[],[],[],hk,trivial,rfl,(by intro id B1;cases B1),(by intro id B1;cases B1),fun _ _ _ _ _ _ _ _ _ _=>trivial⟩
 |[],_::_,K,hk=>by cases hk
 |_::_,[],K,hk=>by cases hk
 |rv::rs,t::ts,K,hk=>by
  unfold Adg at hk;obtain⟨p,u,Eu,hu,hp⟩:=Apm h hk;obtain⟨v,l,z,Gb,hl,hL,hz,hv⟩:=An2 h hp Eu;obtain⟨vs,l',z',us,Pf,hus,Ox,hL',hz',Mm⟩:=SF h Gb;refine⟨v::vs,l++l',z++z',u::us,?_,⟨hu,hus⟩,by simp only[Vk,Om,Xv,List.sum_cons,hl];rw[Ox];rfl,?_,?_,fun fz A zz h1 h2 hA Fw own j0 Hr=>⟨?_,?_⟩⟩
  ·rw[List.filterMap_append];exact Pf
  ·intro id B1;rcases B2.1 B1 with B1|B1
   ·exact hL id B1
   ·exact hL' id B1
  ·intro id B1;rcases B2.1 B1 with B1|B1
   ·exact hz id B1
   ·exact hz' id B1
  ·exact hv fz A zz (fun i hi=>h1 i (by simp[hi])) h2 hA (fun id c b o hi=>Fw id c b o (by simp[hi])) own j0 fun j hj=>by rw[Hr j (by simp;omega),GA hj]
  ·refine Mm fz A zz (fun i hi=>h1 i (by simp[hi])) h2 hA (fun id c b o hi=>Fw id c b o (by simp[hi])) own (j0+plc v) fun j hj=>?_;rw[<-hl,Jq,Hr (l.length+j) (by simp;omega),HB]
theorem X3(h:Cg N w0 X0 Y β s a w){bt:GI}(hpt:∀i,X0.pt i=bt i 0):∀{ts:List TypeId}{i:Nat}{ps:Ae}{K:List Ae->B7->B7->B7->Option R},MR P N s.hp i ts ps K=some r ->
  (∀k p,ps[k]?=some p->IY p=true->X0.pn (i+k)) ->
  ∃os l z q,K os (l.filterMap id) z q=some r/\(∀id,some id∈l->∃c,s.hp id=some (.ar false c))/\Rm s z/\(∀id∈q,Dg (s.hp id))/\(∀k p,ps[k]?=some p->IY p=true->D3 N (i+k)∈q) /\
   ∀(fz:B7) A,(∀i∈z,i∈fz)->Rm s fz->(∀i∈q,i ∉ fz)->(∀b,A b->Dv (Ah s.hp fz) β Y b) ->
    ∀own j0,(∀j,j<l.length->own (j0+j)=P4 β l j)->Lg w A own bt j0 i ps os
 |[],i,ps,K,hk,_=>by
  obtain⟨MS,hk⟩:=Es hk;subst MS;exact⟨[],[],[],[],hk,by simp,(by intro id B1;cases B1),by simp,by simp,fun _ _ _ _ _ _ _ _ _=>rfl⟩
 |t::ts,i,ps,K,hk,hpn=>by
  unfold MR at hk;obtain⟨p,ps',MS,Eu⟩:=Bo hk;subst MS
  have A3s:∀k p,ps'[k]?=some p->IY p=true->X0.pn (i+1+k):=fun k p' h1 h2=>by
   have:=hpn (k+1) p' (by simpa using h1) h2;rw[show i+1+k=i+(k+1) by omega];exact this
  have hpq:∀{q:B7},(IY p=true->D3 N i∈q)->(∀k p,ps'[k]?=some p->IY p=true->D3 N (i+1+k)∈q)->∀k p',(p::ps')[k]?=some p'->IY p'=true->D3 N (i+k)∈q:=by
   intro q h1 h2 k p' h3 h4;cases k with
   |zero=>
    simp only[List.getElem?_cons_zero,Option.some.injEq] at h3;subst h3;exact h1 h4
   |succ k=>
    have:=h2 k p' (by simpa using h3) h4;rw[show i+1+k=i+(k+1) by omega] at this;exact this
  split at Eu
  ·rename_i ws;obtain⟨e,he,Gb⟩:=C9 Eu;split at Gb
   ·rename_i c h0;obtain⟨cs,l,z,Pf,Nq,H⟩:=OD h Gb;obtain⟨os,l',z',q,Uv,hL',hz',Hp,hpi,hv⟩:=X3 h hpt Pf A3s;refine⟨cs::os,l++l',z++z',D3 N i::q,by rw[List.filterMap_append];exact Uv,?_,?_,?_,hpq (fun _=>HS) (fun k p h1 h2=>Tu _ (hpi k p h1 h2)),fun fz A h1 h2 h3 hA own j0 Hr=>?_⟩
    ·intro id B1;rcases B2.1 B1 with B1|B1
     ·exact H.own id B1
     ·exact hL' id B1
    ·intro id B1;rcases B2.1 B1 with B1|B1
     ·exact H.row id B1
     ·exact hz' id B1
    ·intro id B1;rcases Ce.1 B1 with rfl|B1
     ·rw[h0];trivial
     ·exact Hp id B1
    ·have BA:=(h.pin i (by have:=hpn 0 _ rfl rfl;rwa [ZS] at this)).2
     obtain⟨b,o,Gj,_,_⟩:=h.box _ _ h0;rw[Gj,hpt] at BA;refine⟨⟨b,o,BA.symm,Nq,Ami h h0 Gj H (fun i hi=>h1 i (by simp[hi])) h2 hA fun j hj=>by rw[Hr j (by simp;omega),GA hj]⟩,?_⟩
     refine hv fz A (fun i hi=>h1 i (by simp[hi])) h2 (fun i hi=>h3 i (by simp[hi])) hA own (j0+cs.length) fun j hj=>?_;rw[<-H.len,Jq,Hr (l.length+j) (by simp;omega),HB]
   ·cases Gb
  ·split at Eu
   ·rename_i c h0;obtain⟨os,l',z',q,Uv,hL',hz',Hp,hpi,hv⟩:=X3 h hpt Eu A3s;refine⟨c::os,l',z',D3 N i::q,Uv,hL',hz',?_,hpq (fun _=>HS) (fun k p h1 h2=>Tu _ (hpi k p h1 h2)),fun fz A h1 h2 h3 hA own j0 Hr=>⟨?_,hv fz A h1 h2 (fun i hi=>h3 i (by simp[hi])) hA own j0 Hr⟩⟩
    ·intro id B1;rcases Ce.1 B1 with rfl|B1
     ·rw[h0];trivial
     ·exact Hp id B1
    ·have BA:=(h.pin i (by have:=hpn 0 _ rfl rfl;rwa [ZS] at this)).2
     rw[hpt] at BA;rcases h.box _ _ h0 with⟨h4,h5⟩|⟨b,o,h4,h5,h6,_⟩
     ·exact .inl ⟨by rw[<-BA];exact h4,h5⟩
     ·exact .inr ⟨b,o,by rw[<-BA];exact h4,h5.weak (fun b _ hb=>Ta (hA b hb)),h6 rfl⟩
   ·cases Eu
  ·rename_i hn1 hn2;have hnL:IY p=false:=by cases p<;>first|rfl|exact absurd rfl (hn1 _)|exact absurd rfl (hn2 _)
   obtain⟨os,l',z',q,Uv,hL',hz',Hp,hpi,hv⟩:=X3 h hpt Eu A3s;refine⟨os,l',z',q,Uv,hL',hz',Hp,hpq (fun e=>by rw[hnL] at e;cases e) hpi,fun fz A h1 h2 h3 hA own j0 Hr=>?_⟩
   have:=hv fz A h1 h2 h3 hA own j0 Hr;cases p<;>first|exact this|cases hnL
theorem Ag9{f:ResultVar->Sem Value}:∀{rs:List ResultVar}{us:List Value},Bw (fun rv u=>(f rv).run P w=.ok u w) rs us->(rs.mapM f).run P w=.ok us w
 |[],[],_=>by simp
 |[],_::_,h=>h.elim
 |_::_,[],h=>h.elim
 |rv::rs,u::us,h=>by
  rw[List.mapM_cons];simp[h.1,Ag9 h.2]
theorem Ags{fn:Func}{us:List Value}(h:Bw (Ac6 P a.tmps w) fn.results.toList us):(results fn a.tmps).run P w=.ok (Hm us) w:=by
 unfold results;rw[Array.mapM_eq_mapM_toList];simp only[map_eq_pure_bind,bind_assoc,pure_bind,Sem.run_bind];refine Eq.trans (congrArg (fun x=>Result.andThen x _) (Ag9 h)) ?_;simp only[Result.andThen_ok,Sem.run_pure]
 congr 1
 clear h
 match us with
 |[]=>rfl
 |[u]=>rfl
 |u::v::us=>exact dif_neg (by simp)
theorem Aem:∀{l:List (Option Nat)},Ff (l.filterMap id)=true->∀{j j' i:Nat},l[j]?=some (some i)->l[j']?=some (some i)->j=j'
 |[],_,j,j',i,h,_=>by simp at h
 |q::l,hn,j,j',i,h,h'=>by
  have hn':Ff (l.filterMap id)=true:=by
   cases q with
   |none=>exact hn
   |some x=>
    simp only[List.filterMap_cons,id_eq,Ff,Fe] at hn;exact hn.2
  have hq:∀(x k:Nat),q=some x->l[k]?≠some (some x):=by
   intro x k e hk;subst e;simp only[List.filterMap_cons,id_eq,Ff,Fe,Bool.not_eq_true'] at hn;exact Yn hn.1 (List.mem_filterMap.2 ⟨some x,List.mem_of_getElem? hk,rfl⟩)
  cases j with
  |zero=>
   cases j' with
   |zero=>rfl
   |succ k'=>
    simp at h h';exact absurd h' (hq i k' h)
  |succ k=>
   cases j' with
   |zero=>
    simp at h h';exact absurd h (hq i k h')
   |succ k'=>
    simp at h h';rw[Aem hn' h h']
theorem MN{C:Iz}{f:FuncId}{fn:Func}{args:Ae}{res:Bq}{w:World}{Y:Nat->Prop}{bt:GI}{us:List Value}(Xd:Ins w Y bt args us){h8:∀k p,args[k]?=some p->IY p=true->k<8}{s':St}{a':Act}{w':World}{β':Bt}(hr:Aj9 C P f fn args s'=some res)(h:Cg fn.ntmps w (SO bt args h8) Y β' s' a' w'):
  a'.defers=[]/\∃v,(results fn a'.tmps).run P w'=.ok v w'/\∃vs own,Ending.returned v=.returned (Hm vs)/\Out w w' Y bt args own res vs:=by
 unfold Aj9 at hr;obtain⟨vs,l,z,us',WV,hus,hll,hL,hz,hv⟩:=SF h hr;obtain⟨os,l',z',q,ZM,hL',hz',hq,hpi,Uu⟩:=X3 h (bt:=bt) (fun _=>rfl) WV (fun k p h1 h2=>by rw[Ir];exact⟨p,h1,h2⟩)
 obtain⟨WW,hr3⟩:=Aq ZM;cases hr3;simp only[Fe] at WW;obtain⟨WW,A3k⟩:=WW;obtain⟨hn1,hn2,hn3⟩:=Lx WW
 have Zb:∀i∈z++z',i ∉ (l.filterMap id++l'.filterMap id)++q:=by
  intro i hi Nz;have:=List.all_eq_true.1 A3k i hi;have h2:((l.filterMap id++l'.filterMap id)++q).any (Nat.beq i)=true:=List.any_eq_true.2 ⟨i,Nz,Oq i⟩;rw[h2] at this;cases this
 have Ans:Rm s' (z++z'):=by
  intro i hi;rcases B2.1 hi with hi|hi
  ·exact hz i hi
  ·exact hz' i hi
 refine⟨h.dfr,Hm us',Ags hus,us',P4 β' (l++l'),rfl,?_⟩;have Bfy:Ff ((l++l').filterMap id)=true:=by rw[List.filterMap_append];exact hn1
 have Hr:∀j b o,P4 β' (l++l') j=some (b,o)->∃id,(l++l')[j]?=some (some id)/\β' id=some (b,o):=by
  intro j b o hj;unfold P4 at hj;cases hlj:(l++l')[j]? with
  |none=>rw[hlj] at hj;cases hj
  |some q=>
   cases q with
   |none=>rw[hlj] at hj;cases hj
   |some id=>
    rw[hlj] at hj;exact⟨id,rfl,hj⟩
 have Oj:∀(j i:Nat),(l++l')[j]?=some (some i)->i∈l.filterMap id++l'.filterMap id:=by
  intro j i hj;rw[<-List.filterMap_append];exact List.mem_filterMap.2 ⟨some i,List.mem_of_getElem? hj,rfl⟩
 have I3:∀(j i:Nat),(l++l')[j]?=some (some i)->Dg (s'.hp i):=by
  intro j i hj;rcases B2.1 (List.mem_of_getElem? hj) with Nz|Nz
  ·exact hL i Nz
  ·obtain⟨c,hc⟩:=hL' i Nz;rw[hc];trivial
 have A2m:∀i,i∈(l.filterMap id++l'.filterMap id)++q->Ah s'.hp (z++z') i=s'.hp i:=by
  intro i hi;rw[Cp,Br (fun Nz=>Zb i Nz hi)]
 have A1w:∀i b o,bt i 0=some (b,o)->D3 fn.ntmps i∈q/\Dg (s'.hp (D3 fn.ntmps i))/\β' (D3 fn.ntmps i)=some (b,o):=by
  intro i b o QZ;obtain⟨p,h1,h2⟩:=Xd.l0 i _ QZ;have h3:=hpi i p h1 h2;rw[Ir] at h3;exact⟨h3,hq _ h3,(h.pin i ⟨p,h1,h2⟩).2.trans QZ⟩
 have hAO:∀b,Yo bt (P4 β' (l++l')) Y b->Dv (Ah s'.hp (z++z')) β' Y b:=by
  rintro b (⟨j,o,hj⟩|⟨i,o,QZ⟩|hY)
  ·obtain⟨id,h1,h2⟩:=Hr j b o hj;refine .inl ⟨id,o,?_,h2⟩;rw[A2m id (B2.2 (.inl (Oj j id h1)))];exact I3 j id h1
  ·obtain⟨h1,h2,h3⟩:=A1w i b o QZ;refine .inl ⟨_,o,?_,h3⟩;rw[A2m _ (B2.2 (.inr h1))];exact h2
  ·exact .inr hY
 have HC:∀(j id b o:Nat),(l++l')[j]?=some (some id)->β' id=some (b,o)->b<w.heap.size->∃i k o',bt i (k+1)=some (b,o'):=by
  intro j id b o hj hβ Ci;rcases h.ownd b ⟨id,o,I3 j id hj,hβ⟩ with⟨i,k,o',QZ⟩|hge
  ·cases k with
   |zero=>
    obtain⟨h1,h2,h3⟩:=A1w i b o' QZ;have:=h.inj id _ b o o' (I3 j id hj) h2 hβ h3;subst this;exact absurd h1 (hn3 _ (Oj j _ hj))
   |succ k=>exact⟨i,k,o',QZ⟩
  ·omega
 refine⟨h.fr.os,h.fr.tape,h.fr.output,h.fr.step,h.fr.rng,?_,?_,?_,?_⟩
 ·refine hv (z++z') _ _ (fun i hi=>B2.2 (.inl hi)) Ans hAO (fun id c b o hi hc hβ=>?_) _ 0 (fun j hj=>by rw[Ir,GA hj]);rcases Is b w.heap.size with Ci|hge
  ·obtain⟨k,Ih,p,h1,h2⟩:=h.stp id c b o hc hβ Ci;have h3:=hpi k p h1 h2;rw[Ir,<-Ih] at h3;obtain⟨j,hj⟩:=List.mem_iff_getElem?.1 hi;refine absurd h3 (hn3 id ?_);exact B2.2 (.inl (List.mem_filterMap.2 ⟨some id,hi,rfl⟩))
  ·exact hge
 ·refine Uu (z++z') _ (fun i hi=>B2.2 (.inr hi)) Ans (fun i hi Nz=>Zb i Nz (B2.2 (.inr hi))) hAO _ _ (fun j hj=>?_);rw[<-hll,HB]
 ·intro j b o hj;obtain⟨id,h1,h2⟩:=Hr j b o hj;refine⟨h.blt id b o (Dy (I3 j id h1)) h2,fun Ci=>⟨HC j id b o h1 h2 Ci,fun x hx=>?_⟩⟩;cases Ms:s'.hp id with
  |none=>have:=I3 j id h1;rw[Ms] at this;exact this.elim
  |some bx=>
   have SP:=I3 j id h1;rw[Ms] at SP;cases bx with
   |st c=>
    obtain⟨k,Ih,p,h3,h4⟩:=h.stp id c b o Ms h2 Ci;have h5:=hpi k p h3 h4;rw[Ir,<-Ih] at h5;exact absurd h5 (hn3 _ (Oj j _ h1))
   |ar fz c=>exact h.rngB id _ b o Ms SP h2 Ci x hx
   |mv=>exact SP.elim
 ·intro j j' b o o' hj Ty;obtain⟨id,h1,h2⟩:=Hr j b o hj;obtain⟨id',h1',h2'⟩:=Hr j' b o' Ty;have:=h.inj id id' b o o' (I3 j id h1) (I3 j' id' h1') h2 h2';subst this;exact Aem Bfy h1 h1'
theorem Aib{G:Vt}(Jo:NoNG P)(hm:P.follows .mixedOrders=true){C:Iz}{fu:Nat}{call:Ap}(C7:∀f args res,call f args=some res->C3 G P f args res){f:FuncId}{fn:Func}{c:Code}(hf:P.funcs[f]?=some fn)(hb:fn.body=some c){args:Ae}{res:Bq}(hk:A4q C P fu call f fn c args=some res):C3 G P f args res:=by
 refine⟨⟨fn,hf,by rw[hb];rfl⟩,fun w Y bt us Xd hG hGY=>?_⟩
 unfold A4q at hk;obtain⟨tms,bs,Eu,Fw⟩:=Aal Xd hk;obtain⟨Gj,Gb⟩:=Aq Eu;simp only[Fe] at Gj
 have Ek:us.length<=fn.ntmps:=by
  rw[<-Xd.args.len];exact Sn Gj.1
 obtain⟨h8,β0,hs⟩:=Fw Gj.2 Ek;refine calls_of_wp hf hb ?_;have hE:OP P G w (SO bt args h8):=⟨Jo,fun w' XS=>G.stable w w' (fun b hb Ci=>XS.step.keep b Ci (hGY b hb).2) hG,hGY⟩
 refine HN hE C7 hm c hs Gb (fun s' a' w' β' hr h=>MN Xd hr h) (fun id s' a' w' β' hr h=>by cases hr) (fun s' a' w' β' hr h=>MN Xd hr h)
def TG(G:Vt)(P:Program)(C:Iz):Prop:=∀f g args res,C.ext f=some g->g args=some res->C3 G P f args res
theorem Ju{G:Vt}(Jo:NoNG P)(hm:P.follows .mixedOrders=true){C:Iz}(hx:TG G P C){fu:Nat}:∀(d:Nat)(f:FuncId)(args:Ae)(res:Bq),Ac C P fu d f args=some res->C3 G P f args res
 |0,_,_,_,h=>by cases h
 |d+1,f,args,res,h=>by
  unfold Ac at h;split at h
  ·rename_i g hg;exact hx f g args res hg h
  ·split at h
   ·cases h
   ·rename_i fn hf;split at h
    ·cases h
    ·rename_i c hb;exact Aib Jo hm (Ju Jo hm hx d) hf hb h
end
open Go.ChangeShapes Go.WideShapes Go.ChangeAt Go.RowKit Go.Deep
def Ada(P:Program):List Field->Nat->Nat->Bool
 |[],i,n=>Nat.beq i n
 |f::r,i,n=>Nat.beq f.offset i&&Ada P r (i+P.cellsOf f.type) n
def Rx(P:Program):Nat->TypeId->Bool
 |0,_=>false
 |d+1,t=>
  match P.underlying t with
  |some .bool=>true
  |some (.int _)=>true
  |some .string=>true
  |some (.slice e)=>Rx P d e&&Nat.blt 0 (P.cellsOf e)
  |some (.struct fs)=>Ada P fs.toList 0 (P.cellsOf t)&&fs.toList.all fun f=>Rx P d f.type
  |some (.array n e)=>Nat.beq (P.cellsOf t) (n*P.cellsOf e)&&Rx P d e
  |_=>false
def WT(P:Program):Nat->TypeId->Ae->Prop
 |0,_,_=>False
 |d+1,t,ps=>
  match P.underlying t with
  |some .bool=>∃b,ps=[.sc (.bool b)]
  |some (.int k)=>∃n,ps=[.sc (.int k n)]/\(Lit.int k n).wf=true
  |some .string=>∃s:ByteArray,ps=[.sc (.string s)]/\s.size<=maxLen
  |some (.slice e)=>∃rows:List Ae,ps=[.lst false (P.cellsOf e) rows.length rows.flatten]/\rows.length<=maxLen/\∀r∈rows,r.length=P.cellsOf e/\WT P d e r
  |some (.struct fs)=>∃rows:List Ae,ps=rows.flatten/\Bw (fun f r=>WT P d f.type r) fs.toList rows
  |some (.array n e)=>∃rows:List Ae,ps=rows.flatten/\rows.length=n/\∀r∈rows,r.length=P.cellsOf e/\WT P d e r
  |_=>False
def WTv(P:Program)(t:TypeId)(p:PV):Prop:=
 match Cw P t with
 |true=>∃ps,p=.agg ps/\WT P 12 t ps
 |false=>WT P 12 t [p]
section
variable {P:Program}{d:Nat}{t e:TypeId}{ps:Ae}
theorem Ax5(hu:P.underlying t=some .bool):WT P (d+1) t ps↔∃b,ps=[.sc (.bool b)]:=by show (match P.underlying t with|some .bool=>_|some (.int k)=>_|some .string=>_|some (.slice e)=>_|some (.struct fs)=>_|some (.array n e)=>_|_=>_)↔_;rw[hu]
theorem Atj{k:IntKind}(hu:P.underlying t=some (.int k)):WT P (d+1) t ps↔∃n,ps=[.sc (.int k n)]/\(Lit.int k n).wf=true:=by show (match P.underlying t with|some .bool=>_|some (.int k)=>_|some .string=>_|some (.slice e)=>_|some (.struct fs)=>_|some (.array n e)=>_|_=>_)↔_;rw[hu]
theorem Aqv(hu:P.underlying t=some .string):WT P (d+1) t ps↔∃s:ByteArray,ps=[.sc (.string s)]/\s.size<=maxLen:=by show (match P.underlying t with|some .bool=>_|some (.int k)=>_|some .string=>_|some (.slice e)=>_|some (.struct fs)=>_|some (.array n e)=>_|_=>_)↔_;rw[hu]
theorem Afo(hu:P.underlying t=some (.slice e)):WT P (d+1) t ps↔∃rows:List Ae,ps=[.lst false (P.cellsOf e) rows.length rows.flatten]/\rows.length<=maxLen/\∀r∈rows,r.length=P.cellsOf e/\WT P d e r:=by show (match P.underlying t with|some .bool=>_|some (.int k)=>_|some .string=>_|some (.slice e)=>_|some (.struct fs)=>_|some (.array n e)=>_|_=>_)↔_;rw[hu]
theorem Aon{fs:Array Field}(hu:P.underlying t=some (.struct fs)):WT P (d+1) t ps↔∃rows:List Ae,ps=rows.flatten/\Bw (fun f r=>WT P d f.type r) fs.toList rows:=by show (match P.underlying t with|some .bool=>_|some (.int k)=>_|some .string=>_|some (.slice e)=>_|some (.struct fs)=>_|some (.array n e)=>_|_=>_)↔_;rw[hu]
theorem At8{n:Nat}(hu:P.underlying t=some (.array n e)):WT P (d+1) t ps↔∃rows:List Ae,ps=rows.flatten/\rows.length=n/\∀r∈rows,r.length=P.cellsOf e/\WT P d e r:=by show (match P.underlying t with|some .bool=>_|some (.int k)=>_|some .string=>_|some (.slice e)=>_|some (.struct fs)=>_|some (.array n e)=>_|_=>_)↔_;rw[hu]
end
inductive Ki where
 |bool
 |int (k:IntKind)
 |str
 |sl (e:TypeId)
 |st (ts:List TypeId)
 |ar (n:Nat) (e:TypeId)
 |no
def Xz(P:Program)(t:TypeId):Ki:=
 match P.underlying t with
 |some .bool=>.bool
 |some (.int k)=>.int k
 |some .string=>.str
 |some (.slice e)=>.sl e
 |some (.struct fs)=>.st (fs.toList.map (·.type))
 |some (.array n e)=>.ar n e
 |_=>.no
section
variable {P:Program}{d:Nat}{t e:TypeId}{ps:Ae}{p:PV}
theorem Bw.cons_inv{α β:Type}{R:α->β->Prop}{a:α}{zs:List α}:∀{rs:List β},Bw R (a::zs) rs->∃r rs',rs=r::rs'/\R a r/\Bw R zs rs'
 |[],h=>h.elim
 |r::rs,h=>⟨r,rs,rfl,h.1,h.2⟩
theorem Bw.nil_inv{α β:Type}{R:α->β->Prop}:∀{rs:List β},Bw R ([]:List α) rs->rs=[]
 |[],_=>rfl
 |_::_,h=>h.elim
theorem Awl{k:IntKind}(hk:Xz P t=.int k)(h:WT P d t ps):∃n,ps=[.sc (.int k n)]/\(Lit.int k n).wf=true:=by
 cases d with
 |zero=>exact h.elim
 |succ d=>
 unfold Xz at hk;split at hk<;>first|cases hk|skip
 rename_i hu;exact (Atj hu).1 h
theorem A9m(hk:Xz P t=.sl e)(h:WT P d t ps):∃rows:List Ae,ps=[.lst false (P.cellsOf e) rows.length rows.flatten]/\rows.length<=maxLen/\∀r∈rows,r.length=P.cellsOf e/\WT P (d-1) e r:=by
 cases d with
 |zero=>exact h.elim
 |succ d=>
 rw[Nat.add_sub_cancel];unfold Xz at hk;split at hk<;>first|cases hk|skip
 rename_i hu;exact (Afo hu).1 h
theorem Ank(hk:Cw P t=false)(h:WTv P t p):WT P 12 t [p]:=by unfold WTv at h;rw[hk] at h;exact h
theorem A1b{k:IntKind}(ha:Cw P t=false)(hk:Xz P t=.int k)(h:WTv P t p):∃n,p=.sc (.int k n)/\(Lit.int k n).wf=true:=by obtain⟨b,e,h⟩:=Awl hk (Ank ha h);exact⟨b,by injection e,h⟩
theorem OO{α:Type}(f:α->Ae)(Q:α->Prop):∀{rows:List Ae},(∀r∈rows,∃x,r=f x/\Q x)->∃xs:List α,rows.flatten=xs.flatMap f/\rows.length=xs.length/\∀x∈xs,Q x
 |[],_=>⟨[],rfl,rfl,by simp⟩
 |r::rows,h=>by
  obtain⟨x,h1,h2⟩:=h r (by simp);obtain⟨xs,h3,h4,h5⟩:=OO (rows:=rows) f Q fun r hr=>h r (by simp[hr]);refine⟨x::xs,by simp[h1,h3],by simp[h4],fun y hy=>?_⟩;rcases Ce.1 hy with rfl|hy
  ·exact h2
  ·exact h5 y hy
end
abbrev No:Nat->Prop:=fun _=>False
section
variable {H:Type}{enc:TypeId × Value->H}{P:Program}{w:World}{base:Nat}{held:Bool}
theorem Bw.flat{α β:Type}{R:α->β->Prop}:∀{l:B7}{f:Nat->List α}{g:Nat->List β},(∀i∈l,Bw R (f i) (g i))->Bw R (l.map f).flatten (l.map g).flatten
 |[],_,_,_=>trivial
 |i::l,f,g,h=>by
  simp only[Xv,List.flatten_cons];exact (h i (by simp)).app (Bw.flat fun j hj=>h j (by simp[hj]))
theorem An0{a:Addr}{v:Value}(h:w.cell? a=some v):a.spot=none/\a.block<w.heap.size:=by
 unfold World.cell? at h;split at h
 ·rename_i c t f e;refine⟨?_,?_⟩
  ·cases hs:a.spot with
   |none=>rfl
   |some x=>rw[hs] at h;simp at h
  ·rcases Is a.block w.heap.size with h1|h1
   ·exact h1
   ·rw[Array.getElem?_eq_none h1] at e;cases e
 ·cases h
theorem VJ{α:Type}{g:Nat->List α}{es:Nat}:∀{n:Nat},(∀i,i<n->(g i).length=es)->((List.range n).map g).flatten.length=n*es
 |0,_=>by simp
 |n+1,h=>by
  rw[List.range_succ,List.map_append,List.flatten_append,Vk,VJ (fun i hi=>h i (by omega))];simp[h n (by omega),Nat.succ_mul]
theorem VR{a:Addr}{g:Nat->List Value}{es:Nat}:∀{n:Nat},(∀i,i<n->(g i).length=es)->(∀i,i<n->∀k,k<es->w.cell? (a.add (i*es+k))=(g i)[k]?) ->
  ∀j,j<n*es->w.cell? (a.add j)=(((List.range n).map g).flatten)[j]?
 |0,_,_,j,hj=>by omega
 |n+1,hl,hc,j,hj=>by
  have MH:=VJ (fun i (hi:i<n)=>hl i (by omega));rw[List.range_succ,List.map_append,List.flatten_append,List.getElem?_append,MH];rw[Nat.succ_mul] at hj;split
  ·rename_i h1;exact VR (fun i hi=>hl i (by omega)) (fun i hi=>hc i (by omega)) j h1
  ·rename_i h1;have:=hc n (by omega) (j-n*es) (by omega);rw[show n*es+(j-n*es)=j by omega] at this
   simpa using this
abbrev TR(w:World)(c:PV)(v:Value):Prop:=(FB c/\Az w No c v)/\v.oneCell'=true
theorem PC{d:Nat}{cs:List Value}{n:Nat}(hn:cs.length=n):∀(l:List Field)(i:Nat),Ada P l i n=true ->
  (∀f∈l,∃ps,WT P d f.type ps/\Bw (TR w) ps ((cs.drop f.offset).take (P.cellsOf f.type)))->∃rows:List Ae,Bw (fun f r=>WT P d f.type r) l rows/\Bw (TR w) rows.flatten (cs.drop i)
 |[],i,ho,_=>by
  have:=Dz ho;refine⟨[],trivial,?_⟩;rw[List.drop_of_length_le (by omega)];trivial
 |f::l,i,ho,h=>by
  simp only[Ada,Fe] at ho;have ho1:=Dz ho.1;obtain⟨ps,h1,h2⟩:=h f (by simp);obtain⟨rows,h3,h4⟩:=PC hn l _ ho.2 fun g hg=>h g (by simp[hg]);refine⟨ps::rows,⟨h1,h3⟩,?_⟩;rw[ho1] at h2;have:cs.drop i=(cs.drop i).take (P.cellsOf f.type)++cs.drop (i+P.cellsOf f.type):=by rw[<-List.drop_drop];exact (List.take_append_drop _ _).symm
  rw[this,List.flatten_cons];exact h2.app h4
theorem TO{d:Nat}{e:TypeId}{cs:List Value}{k:Nat}:∀(n:Nat),n*k<=cs.length ->
  (∀i,i<n->∃ps,(ps.length=k/\WT P d e ps)/\Bw (TR w) ps ((cs.drop (i*k)).take k))->∃rows:List Ae,rows.length=n/\(∀r∈rows,r.length=k/\WT P d e r)/\Bw (TR w) rows.flatten (cs.take (n*k))
 |0,_,_=>⟨[],rfl,by simp,by simp[Bw]⟩
 |n+1,hl,h=>by
  rw[Nat.succ_mul] at hl;obtain⟨rows,h1,h2,h3⟩:=TO n (by omega) fun i hi=>h i (by omega);obtain⟨ps,h4,h5⟩:=h n (by omega);refine⟨rows++[ps],by simp[h1],?_,?_⟩
  ·intro r hr;rcases B2.1 hr with hr|hr
   ·exact h2 r hr
   ·rw[Q2.1 hr];exact h4
  ·rw[List.flatten_append,Nat.succ_mul,List.take_add];refine h3.app ?_
   simpa using h5
theorem CR:∀(d:Nat)(t:TypeId),Rx P d t=true->∀(fuel:Nat)(cs:List Value)(x:DataW H × List MemPlace),DataW.trod enc P w base (fun _=>true) held fuel t cs=some x ->
  ∃ps,WT P d t ps/\Bw (TR w) ps cs
 |0,_,h,_,_,_,_=>by cases h
 |d+1,t,hp,fuel,cs,x,h=>by
  unfold Rx at hp;split at hp
  ·rename_i hu;obtain⟨b,rfl,_⟩:=DataW.trod_bool hu h;simp only[Ax5 hu];exact⟨[.sc (.bool b)],⟨b,rfl⟩,⟨⟨trivial,Az.sc _⟩,rfl⟩,trivial⟩
  ·rename_i k hu;obtain⟨n,rfl,_,hw⟩:=DataW.trod_int hu h;simp only[Atj hu];exact⟨[.sc (.int k n)],⟨n,rfl,hw⟩,⟨⟨trivial,Az.sc _⟩,rfl⟩,trivial⟩
  ·rename_i hu;obtain⟨s,rfl,_,hw⟩:=DataW.trod_string hu h;simp only[Aqv hu];exact⟨[.sc (.string s)],⟨s,rfl,hw⟩,⟨⟨trivial,Az.sc _⟩,rfl⟩,trivial⟩
  ·rename_i e hu;simp only[Fe] at hp;have EG:0<P.cellsOf e:=Nat.lt_of_succ_le (Sn hp.2);simp only[Afo hu];rcases open_slice hu h with⟨rfl,_⟩|⟨a,len,cap,m,n,D,Pl,rfl,_,hl,hm,hmm,_,hi⟩
   ·exact⟨[.lst false (P.cellsOf e) 0 []],⟨[],by simp,by simp,by simp⟩,⟨⟨trivial,Az.lnil _ _⟩,rfl⟩,trivial⟩
   ·simp only[if_true] at hmm;subst hmm
    have hi':∀i,i<len->∃q:Ae × List Value,(q.2.length=P.cellsOf e/\(∀k,k<P.cellsOf e->w.cell? (a.add (i*P.cellsOf e+k))=q.2[k]?))/\WT P d e q.1/\Bw (TR w) q.1 q.2:=by
     intro i Ci;obtain⟨cs',hc,ht⟩:=hi i (by omega);obtain⟨_,Nq,hat⟩:=World.cells?_some hc;obtain⟨ps,h1,h2⟩:=CR d e hp.1 _ _ _ ht;exact⟨(ps,cs'),⟨Nq,fun k hk=>by rw[<-Pv.add_add];exact hat k hk⟩,h1,h2⟩
    obtain⟨F,hF⟩:=choose_lt hi';refine⟨[.lst false (P.cellsOf e) len ((List.range len).map fun i=>(F i).1).flatten],⟨(List.range len).map fun i=>(F i).1,by simp,by simp;omega,?_⟩,⟨⟨trivial,?_⟩,rfl⟩,trivial⟩
    ·intro r hr;obtain⟨i,hi1,rfl⟩:=List.mem_map.1 hr;have hi2:=List.mem_range.1 hi1;exact⟨by rw[(hF i hi2).2.2.len];exact (hF i hi2).1.1,(hF i hi2).2.1⟩
    ·rcases Nat.eq_zero_or_pos len with h0|h0
     ·subst h0;exact Az.lemp _ _ _
     ·have Qx:Bw (TR w) ((List.range len).map fun i=>(F i).1).flatten ((List.range len).map fun i=>(F i).2).flatten:=Bw.flat fun i hi=>(hF i (List.mem_range.1 hi)).2.2;have Ey:=VR (w:=w) (a:=a) (g:=fun i=>(F i).2) (fun i hi=>(hF i hi).1.1) (fun i hi=>(hF i hi).1.2);have Ek:=VJ (g:=fun i=>(F i).2) (fun i (hi:i<len)=>(hF i hi).1.1)
      have h00:w.cell? a≠none:=by
       have:=Ey 0 (Nat.mul_pos h0 EG);rw[show a.add 0=a by unfold Addr.add;simp] at this
       rw[this,List.getElem?_eq_getElem (by rw[Ek];exact Nat.mul_pos h0 EG)]
       simp
      obtain⟨v0,hv0⟩:=Option.ne_none_iff_exists'.1 h00;obtain⟨hs,hb⟩:=An0 hv0
      have key:∀j c,(((List.range len).map fun i=>(F i).1).flatten)[j]?=some c->∃v,w.cell? (a.add j)=some v/\TR w c v:=by
       intro j c hj
       have hlj:j<len*P.cellsOf e:=by
        rw[<-Ek,<-Qx.len];rcases Is j (((List.range len).map fun i=>(F i).1).flatten).length with h1|h1
        ·exact h1
        ·rw[List.getElem?_eq_none h1] at hj;cases hj
       have h1:=Ey j hlj;rw[List.getElem?_eq_getElem (by rw[Ek];exact hlj)] at h1
       exact⟨_,h1,Qx.at_ hj (List.getElem?_eq_getElem (by rw[Ek];exact hlj))⟩
      refine Az.lst _ _ _ a _ (fun j=>(w.cell? (a.add j)).getD undef) hs hb (fun h=>h) hl (fun j c hj=>?_) (fun j c hj=>?_) (fun j c hj=>?_)
      ·obtain⟨v,hv,_⟩:=key j c hj;rw[hv];rfl
      ·obtain⟨v,hv,ht⟩:=key j c hj;rw[hv];exact ht.2
      ·obtain⟨v,hv,ht⟩:=key j c hj;rw[hv];exact ht.1.2
  ·rename_i fs hu;simp only[Fe] at hp;simp only[Aon hu];obtain⟨xs,n,_,_,Ek,hxl,hf⟩:=DataW.trod_struct hu h
   obtain⟨rows,h1,h2⟩:=PC (P:=P) (w:=w) (d:=d) Ek fs.toList 0 hp.1 fun f hf'=>by
    obtain⟨i,hi⟩:=List.mem_iff_getElem?.1 hf';have hi':fs[i]?=some f:=by simpa using hi
    have Ci:i<fs.size:=(Array.getElem?_eq_some_iff.1 hi').1;have h3:=hf i f hi';rw[List.getElem?_eq_getElem (by omega)] at h3;exact CR d f.type (List.all_eq_true.1 hp.2 f hf') _ _ _ h3
   exact⟨_,⟨rows,rfl,h1⟩,by simpa using h2⟩
  ·rename_i n e hu;simp only[Fe] at hp;simp only[At8 hu];obtain⟨xs,m,_,_,Ek,hxl,hf⟩:=DataW.trod_array hu h;have Kx:=Dz hp.1
   obtain⟨rows,h1,h2,h3⟩:=TO (P:=P) (w:=w) (d:=d) (e:=e) (cs:=cs) (k:=P.cellsOf e) n (by omega) fun i hi=>by
    have h3:=hf i hi;rw[List.getElem?_eq_getElem (by omega)] at h3;obtain⟨ps,h4,h5⟩:=CR d e hp.2 _ _ _ h3;refine⟨ps,⟨?_,h4⟩,h5⟩;rw[h5.len,List.length_take,List.length_drop,Ek,Kx];have:(i+1)*P.cellsOf e<=n*P.cellsOf e:=Nat.mul_le_mul_right _ hi;rw[Nat.succ_mul] at this;omega
   refine⟨_,⟨rows,rfl,h1,h2⟩,?_⟩;rw[Iu (by omega)] at h3;exact h3
  ·cases hp
theorem Atk{r:Reach}{b0:Nat}{t:TypeId}{v:Value}{dd:DataW H}{p:List MemPlace}(hp:Rx P 12 t=true)(hv:Value.okWide P w r b0 t v)(h:DataW.Trod enc P w base (fun _=>true) held t v dd p):
  ∃q,WTv P t q/\Wg w No q v:=by
 obtain⟨fuel,hf⟩:=h;obtain⟨ps,h1,h2⟩:=CR 12 t hp fuel _ _ hf;unfold WTv Cw
 have two:∀{cs:Array Value},v=.agg cs->∃q,(∃ps,q=.agg ps/\WT P 12 t ps)/\Wg w No q v:=by
  intro cs e;subst e;exact⟨.agg ps,⟨ps,rfl,h1⟩,cs.toList,by simp,h2.mono fun c v h=>h.1⟩
 have one:v.cells.toList=[v]->∃q,WT P 12 t [q]/\Wg w No q v:=by
  intro e;rw[e] at h2
  match ps,h2 with
  |[q],h2=>
   refine⟨q,h1,?_⟩;have h3:=h2.1.1;cases q<;>first|exact h3|exact h3.1.elim
  |[],h2=>exact h2.elim
  |_::_::_,h2=>exact h2.2.elim
 unfold Rx at hp;split at hp
 ·rename_i hu;simp only[hu];obtain⟨b,rfl,_⟩:=open_bool hu hv ⟨fuel,hf⟩;exact one rfl
 ·rename_i k hu;simp only[hu];obtain⟨b,rfl,_⟩:=open_int hu hv ⟨fuel,hf⟩;exact one rfl
 ·rename_i hu;simp only[hu];obtain⟨b,rfl,_⟩:=ChangeMaps.open_string hu hv ⟨fuel,hf⟩;exact one rfl
 ·rename_i e hu;simp only[hu];obtain⟨a,len,cap,rfl⟩:=okWide_slice hu hv;exact one rfl
 ·rename_i fs hu;simp only[hu];obtain⟨cs,rfl,_⟩:=okWide_struct hu hv;exact two rfl
 ·rename_i n e hu;simp only[hu];unfold Value.okWide at hv;simp only[hu] at hv;obtain⟨cs,rfl,_⟩:=hv;exact two rfl
 ·cases hp
theorem ZT:∀{ts:List TypeId}{vs:List Value}{ds:List (DataW H)} {p:List MemPlace}{r:Reach}{b0:Nat},(ts.all fun t=>Rx P 12 t)=true->(∀(j:Nat) t v,ts[j]?=some t->vs[j]?=some v->Value.okWide P w r b0 t v) ->
  DataW.TrodAll enc P w base (fun _=>true) held ts vs ds p->∃qs,Bw (WTv P) ts qs/\Bw (Wg w No) qs vs
 |[],[],[],_,_,_,_,_,_=>⟨[],trivial,trivial⟩
 |t::ts,v::vs,d::ds,_,r,b0,hp,hv,⟨p,q,h1,h2,_⟩=>by
  simp only[List.all_cons,Fe] at hp;obtain⟨x,h3,h4⟩:=Atk hp.1 (hv 0 t v rfl rfl) h1;obtain⟨xs,h5,h6⟩:=ZT hp.2 (fun j t v ht Uu=>hv (j+1) t v ht Uu) h2;exact⟨x::xs,⟨h3,h5⟩,h4,h6⟩
 |[],_::_,_,_,_,_,_,_,h=>by cases h
 |[],[],_::_,_,_,_,_,_,h=>by cases h
 |_::_,[],_,_,_,_,_,_,h=>by cases h
 |_::_,_::_,[],_,_,_,_,_,h=>by cases h
theorem FK(hl:laidOutB P=true){W W':World}{sp:Nat->Bool}:∀{ts:List TypeId}{vs:List Value}{ds:List (DataW H)} {p:List MemPlace},(ts.all fun t=>P.readableRec t&&Nat.blt t P.types.size)=true ->
  DataW.TrodAll enc P W 0 (fun _=>true) true ts vs ds p->(∀x∈p,W.sameAt W' x)->(∀x∈p,sp x.block=true)->DataW.TrodAll enc P W' 0 sp true ts vs ds p
 |[],[],[],_,_,h,_,_=>h
 |t::ts,v::vs,d::ds,_,hr,⟨p,q,h1,h2,e⟩,hs,hsp=>by
  simp only[List.all_cons,Fe] at hr;refine⟨p,q,WideElems.Trod_stays hl hr.1.1 (Nat.lt_of_succ_le (Sn hr.1.2)) h1 (fun x hx=>hs x ?_) (fun x hx=>hsp x ?_),FK hl hr.2 h2 (fun x hx=>hs x ?_) (fun x hx=>hsp x ?_),e⟩
  all_goals rw[e,B2]
  ·exact .inl hx
  ·exact .inl hx
  ·exact .inr hx
  ·exact .inr hx
 |[],_::_,_,_,_,h,_,_=>by cases h
 |[],[],_::_,_,_,h,_,_=>by cases h
 |_::_,[],_,_,_,h,_,_=>by cases h
 |_::_,_::_,[],_,_,h,_,_=>by cases h
theorem XX{f:Func}{s:ChangeSpec}{apart fresh Adx again:Bool}{W W':World}{args:Array Value}{v:Value}{ds gs:List (DataW H)}{before pa pv:List MemPlace}(hW:DataW.Whole enc P f.params.toList s.vars apart W args.toList ds gs before)(Bcl:∀(b:Nat)(sp:Nat->Bool)(hd:Bool),DataW.TrodAll enc P W' b sp hd f.resultTypes.toList (v.resultList f.resultTypes.size) (s.fn H (ds++gs)).results [])(Ge:∀sp:Nat->Bool,(∀p∈before,sp p.block=true)->DataW.TrodAll enc P W' 0 sp true f.params.toList args.toList (s.fn H (ds++gs)).args pa)(Ahm:∀sp:Nat->Bool,(∀p∈before,sp p.block=true)->DataW.TrodVars enc P W' sp s.vars (s.fn H (ds++gs)).vars pv)(MS:before=pa++pv)(hb:Below W.heap.size W W')(hok:∀(j:Nat)(t:TypeId)(r:Value),f.resultTypes[j]?=some t->(v.resultList f.resultTypes.size)[j]?=some r->Value.okWide P W' .any 0 t r):
  s.post enc P f apart fresh Adx again W args v W':=by
 have Ci:∀p∈before,p.block<W.heap.size:=fun p hp=>hW.lt p hp;have hold:∀p∈before,(fun b=>decide (b<W.heap.size)) p.block=true:=fun p hp=>by simpa using Ci p hp
 refine⟨ds,gs,before,[],pa,pv,hW,Bcl _ _ _,Ge _ hold,Ahm _ hold,World.keptBut_mono (fun p hp=>⟨hp,?_⟩) (hb.frame (· ∈ before)),fun _=>?_⟩
 ·rw[MS,B2] at hp;exact Or.inr hp
 ·obtain⟨_,_,_,_,_,hz,hn⟩:=hW;refine⟨hok,_,_,([]++pa)++pv,⟨[]++pa,pv,trodAll_append (Ge _ (fun _ _=>rfl)) (Bcl _ _ _),Ahm _ (fun _ _=>rfl),rfl,?_,?_⟩,?_⟩
  ·intro b off hp;have Xd:MemPlace.cell b off∈before:=by rw[MS];simpa using hp
   rw[hb.frozen (Ci _ Xd)];exact hz b off Xd
  ·intro ha;have:=hn ha;rw[MS] at this
   simpa using this
  ·intro p hp _;rw[MS]
   simpa using hp
theorem law_contract{G:Vt}{C:Iz}(hx:TG G P C)(Jo:NoNG P)(hm:P.follows .mixedOrders=true)(hl:laidOutB P=true){f:FuncId}{fn:Func}{s:ChangeSpec}{tb:TypeId}(hfn:P.funcs[f]?=some fn)(Ahm:s.vars=[])(Bcd:∀ds:List (DataW H),ds.length=fn.params.size->s.fn H ds={ results:=[.lit (.bool true)],args:=ds })(A3c:(fn.params.toList.all fun t=>Rx P 12 t)=true)(Bb6:(fn.params.toList.all fun t=>P.readableRec t&&Nat.blt t P.types.size)=true)(hrt:fn.resultTypes = #[tb])(hub:P.underlying tb=some .bool){apart fresh Adx again:Bool}(W:World)(base:Nat)(args:Array Value)(ds gs:List (DataW H))(before:List MemPlace)(hval:∀(j:Nat) t v,fn.params[j]?=some t->args[j]?=some v->Value.okWide P W .any base t v)(hW:DataW.Whole enc P fn.params.toList s.vars apart W args.toList ds gs before)(Bjv:∀qs:Ae,Bw (WTv P) fn.params.toList qs->∃fu d,Ac C P fu d f qs=some ⟨[.sc (.bool true)],[]⟩)(hG:G.ok W)(hGY:∀b,G.bl b->b<W.heap.size):
  Calls P f args W fun e W'=>∃v,e=.returned v/\s.post enc P fn apart fresh Adx again W args v W':=by
 have hW':=hW;obtain⟨p,q,hA,hV,rfl,Zb,WW⟩:=hW;rw[Ahm] at hV;obtain⟨rfl,rfl⟩:=trodVars_none hV;obtain⟨qs,h1,h2⟩:=ZT A3c (fun j t v ht hv=>hval j t v (by simpa using ht) (by simpa using hv)) hA;obtain⟨fu,d,hc⟩:=Bjv qs h1;have hS:=(Ju Jo hm hx d f qs _ hc).2 W No GC args.toList (Ahi (fun b h=>h.elim) h2) hG (fun b hb=>⟨hGY b hb,Nu b⟩);rw[Array.toArray_toList] at hS;refine hS.mono fun e W' ⟨vs,own,he,ho⟩=>?_;have hv:=ho.vals
 have Mm:vs=[.bool true]:=by
  match vs,hv with
  |[u],hv=>
   have:Az W' _ (.sc (.bool true)) u:=hv.1;rw[this.val]
  |[],hv=>exact hv.elim
  |_::_::_,hv=>exact hv.2.elim
 subst Mm;subst he;have hb:Below W.heap.size W W':=⟨ho.os,ho.tape,ho.output,ho.ext.size,fun k hk=>ho.ext.keep k hk (Nu k)⟩
 have Ci:∀x∈p,x.block<W.heap.size:=fun x hx=>hW'.lt x (by simpa using hx)
 have Ek:ds.length=fn.params.size:=by
  have:∀{ts:List TypeId} {vs:List Value} {ds:List (DataW H)} {p:List MemPlace},DataW.TrodAll enc P W 0 (fun _=>true) true ts vs ds p->ds.length=ts.length:=by
   intro ts
   induction ts with
   |nil=>intro vs ds p h;cases vs<;>cases ds<;>first|rfl|cases h
   |cons t ts ih=>
    intro vs ds p h;cases vs with
    |nil=>cases h
    |cons v vs=>
     cases ds with
     |nil=>cases h
     |cons d ds=>obtain⟨_,_,_,h2,_⟩:=h;simp[ih h2]
  simpa using this hA
 have hsp:=Bcd (ds++[]) (by simpa using Ek);refine⟨_,rfl,XX (pa:=p) (pv:=[]) hW' ?_ ?_ ?_ rfl hb ?_⟩
 ·intro b sp hd;rw[hsp,hrt];exact trodAll_mk1 (shut_bool hub _)
 ·intro sp Bf0;rw[hsp];simp only[List.append_nil];exact FK hl Bb6 hA (fun x hx=>hb.same (Ci x hx)) (fun x hx=>Bf0 x (by simpa using hx))
 ·intro sp _;rw[hsp,Ahm];rfl
 ·exact ok_one hrt rfl (okWide_bool_mk hub _)
end
end
section
open Go.Proofs.Tryz (prog)
theorem Azn{d:Nat}{ps:Ae}{k:IntKind}{t e:TypeId}(hk:Xz prog t=.sl e)(hc:prog.cellsOf e=1)(he:Xz prog e=.int k)(h:WT prog d t ps):
  ∃l:Al,ps=[.lst false 1 l.length (Af k l)]/\l.length<=maxLen/\∀n∈l,(Lit.int k n).wf=true:=by
 obtain⟨rows,rfl,hl,hr⟩:=A9m hk h;obtain⟨l,h1,h2,h3⟩:=OO (Ayx k) (fun n=>(Lit.int k n).wf=true) fun r hrr=>Awl he (hr r hrr).2;refine⟨l,?_,by omega,h3⟩;rw[h1,h2,hc]
theorem Avt{p:PV}{k:IntKind}{t e:TypeId}(ha:Cw prog t=false)(hk:Xz prog t=.sl e)(hc:prog.cellsOf e=1)(he:Xz prog e=.int k)(h:WTv prog t p):
  ∃l:Al,p=.lst false 1 l.length (Af k l)/\l.length<=maxLen/\∀n∈l,(Lit.int k n).wf=true:=by
 have h':=Ank (P:=prog) (t:=t) (p:=p) ha h;obtain⟨l,h1,h2,h3⟩:=Azn hk hc he h';exact⟨l,by injection h1,h2,h3⟩
end
instance : Coe Int PV:=⟨fun x=>.sc (.int .i64 x)⟩
instance : Coe Bool PV:=⟨fun x=>.sc (.bool x)⟩
instance : Coe ByteArray PV:=⟨fun x=>.sc (.string x)⟩
abbrev C5(x:Bool):PV:=.sc (.bool x)
abbrev Bm(x:ByteArray):PV:=.sc (.string x)
theorem Bj{x:Int}(h1:-9223372036854775808<=x:=by omega)(h2:x<=9223372036854775807:=by omega):IntKind.wrap .i64 x=x:=wrap_i64 h1 h2
theorem Ec{x:Int}(h1:0<=x:=by omega)(h2:x<=18446744073709551615:=by omega):IntKind.wrap .u64 x=x:=BE h1 h2
theorem Bl{x y:Int}(h1:-9223372036854775808<=x:=by omega)(h2:x<=9223372036854775807:=by omega)(h:x=y:=by omega):IntKind.wrap .i64 x=y:=(wrap_i64 h1 h2).trans h
abbrev As(x:Int):PV:=.sc (.int .i64 x)
abbrev Ag(x:Int):PV:=.sc (.int .u64 x)
abbrev Am(k n:Nat)(l:Ae):PV:=.lst false k n l
abbrev Bh(l:Ae):Option Bq:=some ⟨l,[]⟩
abbrev D8(c:Option Bq)(k:PV->Ae->Option Bq):Option Bq:=Aw c fun x y=>Ak y<|Ad x k
abbrev Dw(k:IntKind)(l:Ae)(f:Int->Ae->Option Bq):Option Bq:=Ad l fun x y=>Bk k x fun z=>f z y
abbrev Gs(k:IntKind)(c:Option Bq)(f:Int->Option Bq):Option Bq:=Aw c fun x y=>Ak y<|Ad x fun z t=>Bk k z fun u=>Ak t<|f u
abbrev Iw(k:Nat)(l:Ae)(f:Nat->Ae->Ae->Option Bq):Option Bq:=Ad l fun x y=>Xs k x fun _ n c=>f n c y
abbrev XI(k:Nat)(l:Ae)(f:Nat->Ae->Ae->Option Bq):Option Bq:=Ad l fun x y=>Lh k x fun n c=>f n c y
abbrev G2(l:Ae)(f:Bool->Option Bq):Option Bq:=Ad l fun x y=>Bn x fun z=>Ak y<|f z
abbrev B8(k:IntKind)(l:Ae)(f:Int->Option Bq):Option Bq:=Ad l fun x y=>Bk k x fun z=>Ak y<|f z
abbrev ZzA(n k m:Nat)(l e:Ae)(f:Nat->Ae->Option Bq):Option Bq:=Ar (decide (n*k<=l.length)&&true&&decide ((n+1)*m<=1099511627776)&&decide (n+1<=1099511627776))<|f (n+1) (List.take (n*k) l++e)
abbrev Kj(fu:Nat)(call:Ap)(i:FuncId)(f:Func):=Baw CB prog fu call i f (Ai6 f)
inductive ZzQ:Bool->Bool->Prop
|t:ZzQ true true
|f:ZzQ false false
theorem Gn{R:Type}{b c:Bool}{x y r:Option R}(h:ZzQ b c)(k:(match (generalizing:=false) c with|true=>x|false=>y)=r):Ax b x y=r:=by cases h<;>exact k
theorem Gp:type_of% gT/\type_of% gF/\type_of% @Bool.not_true/\type_of% @Bool.not_false/\type_of% @decide_eq_true/\type_of% @decide_eq_false/\type_of% @decide_true/\type_of% @decide_false:=⟨gT,gF,@Bool.not_true,@Bool.not_false,@decide_eq_true,@decide_eq_false,@decide_true,@decide_false⟩
theorem Bd(n k m:Nat)(l e:Ae)(f:Nat->Ae->Option Bq):ZzA n k m l e f=(Ar (decide (n*k<=l.length)&&true&&decide ((n+1)*m<=1099511627776)&&decide (n+1<=1099511627776))<|f (n+1) (List.take (n*k) l++e)):=by exact id rfl
abbrev V1(C:Iz)(fu d:Nat)(F:FuncId)(l:Ae)(b:Ap->Option Bq):Prop:=Ac C prog fu (d+1) F l=b (Ac C prog fu d)
section
variable {xs:FuncId->Option (Ae->Option Bq)}(fu d:Nat)(call:Ap)
theorem EM(Z Y:Int):V1 (CX xs) fu d 184 [Ag Z,Y] fun call=>Aa (wrap .u64 Y) fun a=>Aa (Du .u64 a 63) fun a=>Ar (decide (0<=a))<|Aa (D9 .u64 Z a) fun b=>Aa (wrap .u64 (64-a)) fun a=>Ar (decide (0<=a))<|Aa (F3 .u64 Z a) fun a=>Aa (Xf .u64 b a) fun a=>Bh [Ag a]:=by show _=_;kernel_rfl
def I5(Z:Nat)(Y:Ae)(X W V:Nat)(U:Ae)(T S:Int)(Q:Ae):Option Bq:=Kj fu call 91 Tryz.f91 [Am 1 Z Y] [.r,.r,.l,.r,.l] X ⟨lk [(3,.view 3 1 0 W),(11,Am 1 V U),(12,T),(13,S)],Ct [(3,.ar false Q)]⟩
def Lm(Z:Nat)(Y:Ae)(X W V:Nat)(U:Int)(T:Nat)(S:Ae)(Q P O:Int)(N:Ae):Option Bq:=Kj fu call 91 Tryz.f91 [Am 1 Z Y] [.r,.r,.l,.r,.l,.i X,.r,.r,.l,.l,.r,.r,.l] W ⟨lk [(3,.view 3 1 0 V),(5,Ag U),(11,Am 1 T S),(12,Q),(13,P),(17,O)],Ct [(3,.ar false N)]⟩
theorem Ul(T:Nat)(S:Ae)(Q Y W:Nat)(V:Ae)(U Z:Int)(X:Ae):I5 fu call T S (Q+1) Y W V U Z X=(Ax (decide (Z<U)) (Ar (decide (0<=Z)&&decide (Z<(↑W:Int)))<|Bk .u64 (V.getD (Z.toNat*1) .top) fun a=>Lm fu call T S Q fu Y a W V U Z 0 X) (Ar (decide (Y*1<=X.length))<|Bh [.own 1 Y (X.take (Y*1))])):=by kernel_rfl
theorem Vb(Y:Nat)(X:Ae)(W N V:Nat)(U:Int)(T:Nat)(S:Ae)(Q P Z:Int)(O:Ae):Lm fu call Y X W (N+1) V U T S Q P Z O=(Ax (decide (Z<8)) (Aa (wrap .i64 (8*Z)) fun a=>Aa (wrap .i64 (56-a)) fun a=>Ar (decide (0<=a))<|Aa (F3 .u64 U a) fun a=>Aa (wrap .u8 a) fun a=>ZzA V 1 1 O [.sc (.int .u8 a)] fun a b=>Aa (wrap .i64 (Z+1)) fun c=>Lm fu call Y X W N a U T S Q P c b) (Aa (wrap .i64 (P+1)) fun a=>I5 fu call Y X W V T S Q a O)):=by kernel_rfl
theorem SU(Z:Nat)(Y:Ae):V1 (CX xs) fu d 91 [Am 1 Z Y] fun call=>Aa (wrap .i64 (8*(↑Z:Int))) fun a=>Ar (decide (0<=a)&&decide (a*1<=1099511627776)&&decide (a<=1099511627776))<|I5 fu call Z Y fu 0 Z Y (↑Z:Int) 0 ([]):=by show _=_;kernel_rfl
def Kf(Z:Nat)(Y:Ae)(X:Nat)(W:Int)(V:Nat)(U:Ae)(T S:Int):Option Bq:=Kj fu call 159 Tryz.f159 [Am 1 Z Y] [.r,.r,.l,.r,.l] X ⟨lk [(3,Ag W),(6,Am 1 V U),(7,T),(8,S)],Ct []⟩
theorem Ti(U:Nat)(T:Ae)(S:Nat)(Y:Int)(X:Nat)(W:Ae)(V Z:Int):Kf fu call U T (S+1) Y X W V Z=(Ax (decide (Z<V)) (Ar (decide (0<=Z)&&decide (Z<(↑X:Int)))<|Bk .u8 (W.getD (Z.toNat*1) .top) fun a=>Aa (wrap .u64 a) fun a=>Aa (wrap .i64 (8*Z)) fun b=>Ar (decide (0<=b))<|Aa (D9 .u64 a b) fun a=>Aa (Xf .u64 Y a) fun a=>Aa (wrap .i64 (Z+1)) fun b=>Kf fu call U T S a X W V b) (Bh [Ag Y])):=by kernel_rfl
theorem PX(Z:Nat)(Y:Ae):V1 (CX xs) fu d 159 [Am 1 Z Y] fun call=>Kf fu call Z Y fu 0 Z Y (↑Z:Int) 0:=by show _=_;kernel_rfl
def Gl(Z Y:Int)(X W V:Int)(U:Nat)(T S:Int)(Q P:Int)(O N:Int):Option Bq:=Kj fu call 160 Tryz.f160 [.pbox [Ag Z,Ag Y,Ag X,Ag W],V] [.r,.l] U ⟨lk [(0,.ptr 288000 0),(4,T),(5,S)],Ct [(288000,.st [Ag Q,Ag P,Ag O,Ag N])]⟩
theorem Lf(T S:Int)(Q P O:Int)(N:Nat)(X W:Int)(V Z:Int)(U Y:Int):Gl fu call T S Q P O (N+1) X W V Z U Y=(Ax (decide (W<X)) (Aa (wrap .u64 (V+Z)) fun a=>Gs .u64 (call 184 [Ag Z,(13:Int)]) fun b=>Aa (Ez .u64 b a) fun b=>Gs .u64 (call 184 [Ag a,(32:Int)]) fun a=>Aa (wrap .u64 (U+Y)) fun c=>Gs .u64 (call 184 [Ag Y,(16:Int)]) fun e=>Aa (Ez .u64 e c) fun e=>Aa (wrap .u64 (a+e)) fun a=>Gs .u64 (call 184 [Ag e,(21:Int)]) fun e=>Aa (Ez .u64 e a) fun e=>Aa (wrap .u64 (c+b)) fun c=>Gs .u64 (call 184 [Ag b,(17:Int)]) fun b=>Aa (Ez .u64 b c) fun b=>Gs .u64 (call 184 [Ag c,(32:Int)]) fun c=>Aa (wrap .i64 (W+1)) fun f=>Gl fu call T S Q P O N X f a b c e) (some ⟨[],[[Ag V,Ag Z,Ag U,Ag Y]]⟩)):=by kernel_rfl
theorem Zh(Z Y:Int)(X W V:Int):V1 (CX xs) fu d 160 [.pbox [Ag Z,Ag Y,Ag X,Ag W],V] fun call=>Gl fu call Z Y X W V fu V 0 Z Y X (W):=by show _=_;kernel_rfl
theorem Zu(Y X:Int)(W V Z:Int):V1 (CX xs) fu d 158 [.pbox [Ag Y,Ag X,Ag W,Ag V],Ag Z] fun call=>Aa (Ez .u64 V Z) fun a=>Aw (call 160 [.pbox [Ag Y,Ag X,Ag W,Ag a],(2:Int)]) fun a b=>Ak a<|Ad b fun a b=>Dw .u64 a fun a c=>Dw .u64 c fun c e=>Dw .u64 e fun e f=>B8 .u64 f fun f=>Ak b<|Aa (Ez .u64 a Z) fun a=>some ⟨[],[[Ag a,Ag c,Ag e,Ag f]]⟩:=by show _=_;kernel_rfl
def Le(Z Y:Int)(X:Nat)(W:Ae)(V U:Nat)(T:Ae)(S Q:Int)(P O:Int)(N M L:Int):Option Bq:=Kj fu call 129 Tryz.f129 [Ag Z,Ag Y,Am 1 X W] [.r,.r,.r,.l,.r,.l] V ⟨lk [(2,Am 1 U T),(7,.ptr 7 0),(8,S),(22,Q),(23,P)],Ct [(7,.st [Ag O,Ag N,Ag M,Ag L])]⟩
theorem Y5(P O:Int)(N:Nat)(M:Ae)(L Z:Nat)(X:Ae)(W V:Int)(Y U:Int)(T S Q:Int):Le fu call P O N M (L+1) Z X W V Y U T S Q=(Ax (decide (Y<V)) (Aa (wrap .i64 (8*Y)) fun a=>Aa (wrap .i64 (8*Y)) fun b=>Aa (wrap .i64 (b+8)) fun b=>Ar (decide (0<=a))<|Ar (decide (0<=b))<|Ar (decide (a.toNat<=b.toNat)&&decide (b.toNat<=Z))<|Aa (b.toNat-a.toNat) fun b=>Aa (List.take (b*1) (X.drop (a.toNat*1))) fun a=>Gs .u64 (call 159 [Am 1 b a]) fun a=>Aw (call 158 [.pbox [Ag U,Ag T,Ag S,Ag Q],Ag a]) fun a b=>Ak a<|Ad b fun a b=>Dw .u64 a fun a c=>Dw .u64 c fun c e=>Dw .u64 e fun e f=>B8 .u64 f fun f=>Ak b<|Aa (wrap .i64 (Y+1)) fun b=>Le fu call P O N M L Z X W V b a c e f) (Aa (wrap .i64 (8*W)) fun a=>Ar (decide (0<=a))<|Ar (decide (a.toNat<=Z)&&decide (Z<=Z))<|Aa (Z-a.toNat) fun b=>Aa (List.take (b*1) (X.drop (a.toNat*1))) fun a=>Gs .u64 (call 159 [Am 1 b a]) fun a=>Aa (wrap .u64 (↑Z:Int)) fun b=>Aa (D9 .u64 b 56) fun b=>Aa (Xf .u64 a b) fun a=>Aw (call 158 [.pbox [Ag U,Ag T,Ag S,Ag Q],Ag a]) fun a b=>Ak a<|Ad b fun a b=>Dw .u64 a fun a c=>Dw .u64 c fun c e=>Dw .u64 e fun e f=>B8 .u64 f fun f=>Ak b<|Aa (Ez .u64 e 255) fun b=>Aw (call 160 [.pbox [Ag a,Ag c,Ag b,Ag f],(4:Int)]) fun a b=>Ak a<|Ad b fun a b=>Dw .u64 a fun a c=>Dw .u64 c fun c e=>Dw .u64 e fun e f=>B8 .u64 f fun f=>Ak b<|Aa (Ez .u64 a c) fun a=>Aa (Ez .u64 a e) fun a=>Aa (Ez .u64 a f) fun a=>Bh [Ag a])):=by kernel_rfl
theorem Ab5(Z Y:Int)(X:Nat)(W:Ae):V1 (CX xs) fu d 129 [Ag Z,Ag Y,Am 1 X W] fun call=>Aa (Ez .u64 Z 8317987319222330741) fun a=>Aa (Ez .u64 Y 7237128888997146477) fun b=>Aa (Ez .u64 Z 7816392313619706465) fun c=>Aa (Ez .u64 Y 8387220255154660723) fun e=>Aa (wrap .i64 (Int.tdiv (↑X:Int) 8)) fun f=>Le fu call Z Y X W fu X W f f 0 a b c e:=by show _=_;kernel_rfl
theorem XV(Z:Int)(Y:Nat)(X:Ae):V1 (CX xs) fu d 86 [Z,Am 1 Y X] fun call=>Aa (wrap .u64 Z) fun a=>Gs .u64 (call 129 [Ag a,Ag 0,Am 1 Y X]) fun a=>Bh [Ag a]:=by show _=_;kernel_rfl
theorem GS(Y Z:Int):V1 (CX xs) fu d 166 [Ag Y,Ag Z] fun call=>Ar (decide (0<=Z))<|Aa (D9 .u64 Y Z) fun a=>Aa (wrap .u64 (64-Z)) fun b=>Ar (decide (0<=b))<|Aa (F3 .u64 Y b) fun b=>Aa (Xf .u64 a b) fun a=>Bh [Ag a]:=by show _=_;kernel_rfl
theorem ER(X Z:Int)(W Y:Int):V1 (CX xs) fu d 141 [.agg [Ag X,Ag Z,Ag W,Ag Y]] fun call=>Aa (wrap .u64 (X+Z)) fun a=>Gs .u64 (call 166 [Ag Z,Ag 13]) fun b=>Aa (Ez .u64 b a) fun b=>Gs .u64 (call 166 [Ag a,Ag 32]) fun a=>Aa (wrap .u64 (W+Y)) fun c=>Gs .u64 (call 166 [Ag Y,Ag 16]) fun e=>Aa (Ez .u64 e c) fun e=>Aa (wrap .u64 (a+e)) fun a=>Gs .u64 (call 166 [Ag e,Ag 21]) fun e=>Aa (Ez .u64 e a) fun e=>Aa (wrap .u64 (c+b)) fun c=>Gs .u64 (call 166 [Ag b,Ag 17]) fun b=>Aa (Ez .u64 b c) fun b=>Gs .u64 (call 166 [Ag c,Ag 32]) fun c=>Bh [.agg [Ag a,Ag b,Ag c,Ag e]]:=by show _=_;kernel_rfl
def Gt(Z Y:Int)(X:Nat)(W:Ae)(V U:Nat)(T:Ae)(S:Int)(Q:Ae):Option Bq:=Kj fu call 105 Tryz.f105 [Ag Z,Ag Y,Am 1 X W] [.r,.r,.l,.r,.l] V ⟨lk [(2,Am 1 U T),(7,.ptr 7 0),(8,S)],Ct [(7,.ar false Q)]⟩
def Fm(Z Y:Int)(X:Nat)(W:Ae)(V U T:Nat)(S:Ae)(Q P O:Int)(N:Ae):Option Bq:=Kj fu call 105 Tryz.f105 [Ag Z,Ag Y,Am 1 X W] [.r,.r,.l,.r,.l,.i V,.r,.l,.l,.r,.l,.r,.l] U ⟨lk [(2,Am 1 T S),(7,.ptr 7 0),(8,Q),(9,Ag P),(10,O)],Ct [(7,.ar false N)]⟩
theorem Py(W V:Int)(U:Nat)(T:Ae)(S Y:Nat)(Q:Ae)(X:Int)(Z:Ae):Gt fu call W V U T (S+1) Y Q X Z=(Ax (decide (X<=(↑Y:Int))) (Fm fu call W V U T S fu Y Q X 0 7 Z) (Bk .u64 (Z.getD 2 .top) fun a=>Aa (Ez .u64 a 255) fun a=>Ar (decide (3<=Z.length))<|Aa (B3 Z [Ag a] 2) fun a=>Bk .u64 (a.getD 0 .top) fun b=>Bk .u64 (a.getD 1 .top) fun c=>Bk .u64 (a.getD 2 .top) fun e=>Bk .u64 (a.getD 3 .top) fun f=>D8 (call 141 [.agg [Ag b,Ag c,Ag e,Ag f]]) fun b c=>Eo b fun b=>Dw .u64 b fun b e=>Dw .u64 e fun e f=>Dw .u64 f fun f g=>B8 .u64 g fun g=>Ak c<|D8 (call 141 [.agg [Ag b,Ag e,Ag f,Ag g]]) fun b c=>Eo b fun b=>Dw .u64 b fun b e=>Dw .u64 e fun e f=>Dw .u64 f fun f g=>B8 .u64 g fun g=>Ak c<|D8 (call 141 [.agg [Ag b,Ag e,Ag f,Ag g]]) fun b c=>Eo b fun b=>Dw .u64 b fun b e=>Dw .u64 e fun e f=>Dw .u64 f fun f g=>B8 .u64 g fun g=>Ak c<|D8 (call 141 [.agg [Ag b,Ag e,Ag f,Ag g]]) fun b c=>Eo b fun b=>Dw .u64 b fun b e=>Dw .u64 e fun e f=>Dw .u64 f fun f g=>B8 .u64 g fun g=>Ak c<|Ar (decide (4<=a.length))<|Aa (B3 a [Ag b,Ag e,Ag f,Ag g] 0) fun a=>Bk .u64 (a.getD 0 .top) fun b=>Bk .u64 (a.getD 1 .top) fun c=>Aa (Ez .u64 b c) fun b=>Bk .u64 (a.getD 2 .top) fun c=>Aa (Ez .u64 b c) fun b=>Bk .u64 (a.getD 3 .top) fun a=>Aa (Ez .u64 b a) fun a=>Bh [Ag a])):=by kernel_rfl
theorem P8(T S:Int)(Q:Nat)(P:Ae)(O N Z:Nat)(V:Ae)(X U Y:Int)(W:Ae):Fm fu call T S Q P O (N+1) Z V X U Y W=(Ax (decide (Y>=0)) (Aa (wrap .i64 (X+Y)) fun a=>Ax (decide (a<(↑Z:Int))) (Aa (wrap .i64 (X+Y)) fun a=>Ar (decide (0<=a)&&decide (a<(↑Z:Int)))<|Bk .u8 (V.getD (a.toNat*1) .top) fun a=>Aa (D9 .u64 U 8) fun b=>Aa (wrap .u64 a) fun a=>Aa (Xf .u64 b a) fun a=>Aa (wrap .i64 (Y-1)) fun b=>Fm fu call T S Q P O N Z V X a b W) (Ax (Y==7) (Aa (wrap .u8 (↑Z:Int)) fun a=>Aa (D9 .u64 U 8) fun b=>Aa (wrap .u64 a) fun a=>Aa (Xf .u64 b a) fun a=>Aa (wrap .i64 (Y-1)) fun b=>Fm fu call T S Q P O N Z V X a b W) (Aa (D9 .u64 U 8) fun a=>Aa (Xf .u64 a 0) fun a=>Aa (wrap .i64 (Y-1)) fun b=>Fm fu call T S Q P O N Z V X a b W))) (Bk .u64 (W.getD 3 .top) fun a=>Aa (Ez .u64 a U) fun a=>Ar (decide (4<=W.length))<|Aa (B3 W [Ag a] 3) fun a=>Bk .u64 (a.getD 0 .top) fun b=>Bk .u64 (a.getD 1 .top) fun c=>Bk .u64 (a.getD 2 .top) fun e=>Bk .u64 (a.getD 3 .top) fun f=>D8 (call 141 [.agg [Ag b,Ag c,Ag e,Ag f]]) fun b c=>Eo b fun b=>Dw .u64 b fun b e=>Dw .u64 e fun e f=>Dw .u64 f fun f g=>B8 .u64 g fun g=>Ak c<|D8 (call 141 [.agg [Ag b,Ag e,Ag f,Ag g]]) fun b c=>Eo b fun b=>Dw .u64 b fun b e=>Dw .u64 e fun e f=>Dw .u64 f fun f g=>B8 .u64 g fun g=>Ak c<|Ar (decide (4<=a.length))<|Aa (B3 a [Ag b,Ag e,Ag f,Ag g] 0) fun a=>Bk .u64 (a.getD 0 .top) fun b=>Aa (Ez .u64 b U) fun b=>Ar (decide (1<=a.length))<|Aa (B3 a [Ag b] 0) fun a=>Aa (wrap .i64 (X+8)) fun b=>Gt fu call T S Q P O Z V b a)):=by kernel_rfl
theorem HY(Z Y:Int)(X:Nat)(W:Ae):V1 (CX xs) fu d 105 [Ag Z,Ag Y,Am 1 X W] fun call=>Aa (Ez .u64 Z 8317987319222330741) fun a=>Aa (Ez .u64 Y 7237128888997146477) fun b=>Aa (Ez .u64 Z 7816392313619706465) fun c=>Aa (Ez .u64 Y 8387220255154660723) fun e=>Gt fu call Z Y X W fu X W 0 ([Ag a,Ag b,Ag c,Ag e]):=by show _=_;kernel_rfl
theorem GD(Z:Int)(Y:Nat)(X:Ae):V1 (CX xs) fu d 69 [Z,Am 1 Y X] fun call=>Aa (wrap .u64 Z) fun a=>Gs .u64 (call 105 [Ag a,Ag 0,Am 1 Y X]) fun a=>Bh [Ag a]:=by show _=_;kernel_rfl
theorem LU(Z Y:Int)(X:Nat)(W:Ae):V1 (CX xs) fu d 63 [Ag Z,Y,Am 1 X W] fun call=>Aa (wrap .u64 Y) fun a=>Aa (wrap .u64 (1+a)) fun a=>Gs .u64 (call 105 [Ag Z,Ag a,Am 1 X W]) fun a=>Bh [Ag a]:=by show _=_;kernel_rfl
def Fx(Z:Nat)(Y:Ae)(X W:Nat)(V:Ae)(U:Nat)(T:Int)(S:Ae):Option Bq:=Kj fu call 62 Tryz.f62 [Am 1 Z Y] [.r,.r,.l,.r,.l] X ⟨lk [(0,Am 1 W V),(3,.view 3 1 0 U),(4,T)],Ct [(3,.ar false S)]⟩
def Hj(Z:Nat)(Y:Ae)(X W V:Nat)(U:Ae)(T:Nat)(S Q:Int)(P:Ae):Option Bq:=Kj fu call 62 Tryz.f62 [Am 1 Z Y] [.r,.r,.l,.r,.l,.i X,.r,.l,.l,.r,.l] W ⟨lk [(0,Am 1 V U),(3,.view 3 1 0 T),(4,S),(5,Q)],Ct [(3,.ar false P)]⟩
theorem M6(V:Nat)(U:Ae)(T X:Nat)(S:Ae)(Z:Nat)(W:Int)(Y:Ae):Fx fu call V U (T+1) X S Z W Y=(Ax (decide (W<(↑X:Int))) (Hj fu call V U T fu X S Z W 7 Y) (Ar (decide (Z*1<=Y.length))<|Bh [.own 1 Z (Y.take (Z*1))])):=by kernel_rfl
theorem My(V:Nat)(U:Ae)(T P Y:Nat)(X:Ae)(S:Nat)(Z W:Int)(Q:Ae):Hj fu call V U T (P+1) Y X S Z W Q=(Ax (decide (W>=0)) (Ar (decide (0<=Z)&&decide (Z<(↑Y:Int)))<|Bk .u64 (X.getD (Z.toNat*1) .top) fun a=>Aa (wrap .i64 (8*W)) fun b=>Aa (wrap .u64 b) fun b=>Ar (decide (0<=b))<|Aa (F3 .u64 a b) fun a=>Aa (wrap .u8 a) fun a=>ZzA S 1 1 Q [.sc (.int .u8 a)] fun a b=>Aa (wrap .i64 (W-1)) fun c=>Hj fu call V U T P Y X a Z c b) (Aa (wrap .i64 (Z+1)) fun a=>Fx fu call V U T Y X S a Q)):=by kernel_rfl
theorem EH(Z:Nat)(Y:Ae):V1 (CX xs) fu d 62 [Am 1 Z Y] fun call=>Fx fu call Z Y fu Z Y 0 0 ([]):=by show _=_;kernel_rfl
def Hv(Z:Nat)(Y:Ae)(X W:Nat)(V:Ae)(U T:Int):Option Bq:=Kj fu call 56 Tryz.f56 [Am 1 Z Y] [.r,.r,.l,.r,.l] X ⟨lk [(0,Am 1 W V),(3,Ag U),(4,T)],Ct []⟩
theorem Nt(V:Nat)(U:Ae)(T Y:Nat)(W:Ae)(X Z:Int):Hv fu call V U (T+1) Y W X Z=(Ax (decide (Z<8)) (Ax (decide (Z<(↑Y:Int))) (Aa (D9 .u64 X 8) fun a=>Ar (decide (0<=Z)&&decide (Z<(↑Y:Int)))<|Bk .u8 (W.getD (Z.toNat*1) .top) fun b=>Aa (wrap .u64 b) fun b=>Aa (Xf .u64 a b) fun a=>Aa (wrap .i64 (Z+1)) fun b=>Hv fu call V U T Y W a b) (Bh [Ag X])) (Bh [Ag X])):=by kernel_rfl
theorem HU(Z:Nat)(Y:Ae):V1 (CX xs) fu d 56 [Am 1 Z Y] fun call=>Hv fu call Z Y fu Z Y 0 0:=by show _=_;kernel_rfl
end
def rot(x k:Int):Int:=Xf .u64 (D9 .u64 x k) (F3 .u64 x (64-k))
structure W4 where
 a:Int
 b:Int
 c:Int
 d:Int
def W4.cells(v:W4):Ae:=[Ag v.a,Ag v.b,Ag v.c,Ag v.d]
def Bjt(v:W4):W4:=⟨rot (wrap .u64 (v.a+v.b)) 32,Ez .u64 (rot v.b 13) (wrap .u64 (v.a+v.b)),wrap .u64 (v.c+v.d),Ez .u64 (rot v.d 16) (wrap .u64 (v.c+v.d))⟩
def Bgy(v:W4):W4:=⟨wrap .u64 (v.a+v.d),Ez .u64 (rot v.b 17) (wrap .u64 (v.c+v.b)),rot (wrap .u64 (v.c+v.b)) 32,Ez .u64 (rot v.d 21) (wrap .u64 (v.a+v.d))⟩
def WX(v:W4):W4:=Bgy (Bjt v)
def Ai1:Nat->W4->W4
 |0,v=>v
 |n+1,v=>Ai1 n (WX v)
def Bam(r:W4)(m:Int):W4:=⟨Ez .u64 r.a m,r.b,r.c,r.d⟩
def Xo(v:W4)(m:Int):W4:=Bam (Ai1 2 ⟨v.a,v.b,v.c,Ez .u64 v.d m⟩) m
def Xp:Al->Int
 |[]=>0
 |b::r=>b+256*Xp r
def XG:Nat->W4->Al->W4
 |0,v,_=>v
 |n+1,v,l=>XG n (Xo v (Xp (l.take 8))) (l.drop 8)
def A3x(k0 k1:Int):W4:=⟨Ez .u64 k0 8317987319222330741,Ez .u64 k1 7237128888997146477,Ez .u64 k0 7816392313619706465,Ez .u64 k1 8387220255154660723⟩
def Apq(v:W4):W4:=Ai1 4 ⟨v.a,v.b,Ez .u64 v.c 255,v.d⟩
def Aqo(v:W4):Int:=Ez .u64 (Ez .u64 (Ez .u64 v.a v.b) v.c) v.d
def Rk(l:Al):Int:=Xp (l.drop (8*(l.length / 8)))+72057594037927936*((l.length:Int) % 256)
def Az4(k0 k1:Int)(l:Al):Int:=Aqo (Apq (Xo (XG (l.length / 8) (A3x k0 k1) l) (Rk l)))
def Fb(dom:Int)(l:Al):Int:=Az4 (wrap .u64 dom) 0 l
def Ayi(key dom:Int)(l:Al):Int:=Az4 key (wrap .u64 (1+wrap .u64 dom)) l
def Db(l:Al):Prop:=∀b∈l,0<=b/\b<=255
theorem Yt:∀{l:Al},Db l->0<=Xp l/\Xp l<256 ^ l.length
 |[],_=>by simp[Xp]
 |b::r,h=>by
  have h1:=h b (by simp);have h2:=Yt (l:=r) fun x hx=>h x (by simp[hx]);have h3:(256:Int) ^ (b::r).length=256 ^ r.length*256:=by rw[Tt,Int.pow_succ]
  simp only[Xp];omega
theorem FY:∀(l r:Al),Xp (l++r)=Xp l+256 ^ l.length*Xp r
 |[],r=>by simp[Xp]
 |b::l,r=>by
  have ih:=FY l r;simp only[Zzp,Xp,Tt,Int.pow_succ];rw[ih,Int.mul_add];have:(256:Int)*(256 ^ l.length*Xp r)=256 ^ l.length*256*Xp r:=by rw[<-Int.mul_assoc,Int.mul_comm 256]
  omega
theorem JN{a c:Int}(k b:Nat)(h0:0<=a)(h1:a<((2 ^ k:Nat):Int))(hc:c=((b*2 ^ k:Nat):Int))(h:a+c<=18446744073709551615):Xf .u64 a c=a+c/\Xf .u64 c a=a+c:=by
 obtain⟨n,rfl⟩:=Int.eq_ofNat_of_zero_le h0;subst hc;have hn:n<2 ^ k:=by omega
 generalize hB:b*2 ^ k=m at h
 have e4:(BitVec.ofInt 64 (n:Int)).toNat=n:=by
  rw[BitVec.toNat_ofInt];omega
 have e5:(BitVec.ofInt 64 (m:Int)).toNat=m:=by
  rw[BitVec.toNat_ofInt];omega
 have e6:m ||| n=m+n:=by
  have:=Nat.shiftLeft_add_eq_or_of_lt hn b;rw[Nat.shiftLeft_eq,hB] at this;exact this.symm
 constructor
 ·show wrap .u64 ((BitVec.ofInt 64 (n:Int) ||| BitVec.ofInt 64 (m:Int)).toNat:Int)=_;rw[BitVec.toNat_or,e4,e5,Nat.or_comm,e6,Ec];omega
 ·show wrap .u64 ((BitVec.ofInt 64 (m:Int) ||| BitVec.ofInt 64 (n:Int)).toNat:Int)=_;rw[BitVec.toNat_or,e4,e5,e6,Ec];omega
theorem RN{a k:Int}(h0:0<=a)(hk:0<=k)(Ih:k<=64)(h:a*((2 ^ k.toNat:Nat):Int)<=18446744073709551615):D9 .u64 a k=a*((2 ^ k.toNat:Nat):Int):=by
 show wrap .u64 (a*2 ^ (min k.toNat IntKind.u64.bits))=_;have e:min k.toNat IntKind.u64.bits=k.toNat:=Nat.min_eq_left (by show k.toNat<=64;omega)
 have e2:(2:Int) ^ k.toNat=((2 ^ k.toNat:Nat):Int):=by simp
 rw[e,e2,BE (Int.mul_nonneg h0 (Int.natCast_nonneg _)) h]
section
variable {fu d:Nat}{xs:FuncId->Option (Ae->Option Bq)}
theorem Ati{x k:Int}(hk:k=13\/k=16\/k=17\/k=21\/k=32):Ac (CX xs) prog fu (d+1) 184 [Ag x,As k]=some ⟨[Ag (rot x k)],[]⟩:=by rw[EM];rcases hk with rfl|rfl|rfl|rfl|rfl<;>kernel_rfl
theorem Ask{x k:Int}(hk:k=13\/k=16\/k=17\/k=21\/k=32):Ac (CX xs) prog fu (d+1) 166 [Ag x,Ag k]=some ⟨[Ag (rot x k)],[]⟩:=by rw[GS];rcases hk with rfl|rfl|rfl|rfl|rfl<;>kernel_rfl
theorem OJ{a0 a1 a2 a3 a4:Int}:∀(k i nn:Nat)(v:W4),k<nn->i+k<=100 ->
  Gl fu (Ac (CX xs) prog fu (d+1)) a0 a1 a2 a3 a4 nn ((i+k:Nat):Int) i v.a v.b v.c v.d=some ⟨[],[(Ai1 k v).cells]⟩
 |_,_,0,_,h,_=>by omega
 |0,i,nn+1,v,h,hi=>by
  rw[Lf,F7 _ _ _ (by omega)];rfl
 |k+1,i,nn+1,v,h,hi=>by
  have ih:=OJ (a0:=a0) (a1:=a1) (a2:=a2) (a3:=a3) (a4:=a4) k (i+1) nn (WX v) (by omega) (by omega);have w:wrap .i64 ((i:Int)+1)=((i+1:Nat):Int):=Bl
  have r13:=fun x=>Ati (xs:=xs) (fu:=fu) (d:=d) (x:=x) (k:=13) (by simp);have r16:=fun x=>Ati (xs:=xs) (fu:=fu) (d:=d) (x:=x) (k:=16) (by simp);have r17:=fun x=>Ati (xs:=xs) (fu:=fu) (d:=d) (x:=x) (k:=17) (by simp);have r21:=fun x=>Ati (xs:=xs) (fu:=fu) (d:=d) (x:=x) (k:=21) (by simp);have r32:=fun x=>Ati (xs:=xs) (fu:=fu) (d:=d) (x:=x) (k:=32) (by simp);rw[Lf];simp(disch:=omega)only[Be,Bd,r13,r16,r17,r21,r32,w];rw[show i+(k+1)=i+1+k by omega];exact ih
theorem ZY(k:Nat)(hk:k<=4)(Bv:100<=fu)(v:W4):Ac (CX xs) prog fu (d+2) 160 [.pbox [Ag v.a,Ag v.b,Ag v.c,Ag v.d],As k]=some ⟨[],[(Ai1 k v).cells]⟩:=by rw[Zh];have:=OJ (xs:=xs) (fu:=fu) (d:=d) (a0:=v.a) (a1:=v.b) (a2:=v.c) (a3:=v.d) (a4:=k) k 0 fu v (by omega) (by omega);rw[Ir] at this;exact this
theorem YZ(Bv:100<=fu)(v:W4)(m:Int):Ac (CX xs) prog fu (d+3) 158 [.pbox [Ag v.a,Ag v.b,Ag v.c,Ag v.d],Ag m]=some ⟨[],[(Xo v m).cells]⟩:=by rw[Zu];have r2:=ZY (xs:=xs) (fu:=fu) (d:=d) 2 (by omega) Bv ⟨v.a,v.b,v.c,Ez .u64 v.d m⟩;have e2:((2:Nat):Int)=2:=rfl;rw[e2] at r2;unfold Xo;generalize Ai1 2 ⟨v.a,v.b,v.c,Ez .u64 v.d m⟩=R at r2 ⊢;simp only[W4.cells] at r2;simp only[Be,Bd,r2];rfl
theorem Bbr{a b:Int}{k:Nat}(hk:k<8)(ha:0<=a)(ha':a<((2 ^ (8*k):Nat):Int))(hb:0<=b)(I7:b<=255):Xf .u64 a (D9 .u64 b (8*(k:Int)))=a+((2 ^ (8*k):Nat):Int)*b:=by
 obtain⟨n,rfl⟩:=Int.eq_ofNat_of_zero_le hb;have e:(8*(k:Int)).toNat=8*k:=by omega
 have hp:n*2 ^ (8*k)<=255*2 ^ (8*k):=Nat.mul_le_mul_right _ (by omega);have h56:2 ^ (8*k)<=2 ^ 56:=Nat.pow_le_pow_right (by omega) (by omega);have e56:(2:Nat) ^ 56=72057594037927936:=by decide
 rw[e56] at h56;generalize hP:2 ^ (8*k)=p at *
 have Agp:n*p<=255*p:=hp
 have hs:D9 .u64 (n:Int) (8*(k:Int))=(n:Int)*((2 ^ (8*(k:Int)).toNat:Nat):Int):=RN (by omega) (by omega) (by omega) (by
  rw[e,hP];have:((n*p:Nat):Int)<=((255*p:Nat):Int):=by omega
  rw[<-Int.natCast_mul];omega)
 rw[hs,e,hP]
 have:=(JN (a:=a) (c:=((n*p:Nat):Int)) (8*k) n ha (by rw[hP];exact ha') (by rw[hP]) (by
  have:((n*p:Nat):Int)<=((255*p:Nat):Int):=by omega
  omega)).1
 rw[<-Int.natCast_mul,this,Int.mul_comm ((p:Nat):Int),<-Int.natCast_mul]
theorem Bcw(k:Nat):((2 ^ (8*k):Nat):Int)=256 ^ k:=by rw[Nat.pow_mul];simp
theorem PG{call:Ap}{n:Nat}{c:Ae}{l:Al}(hb:Db l)(hl:l.length<=8):∀(r:Al)(i nn:Nat),l.drop i=r->r.length<nn->i<=l.length ->
  Kf fu call n c nn (Xp (l.take i)) l.length (Af .u8 l) l.length i=some ⟨[Ag (Xp l)],[]⟩
 |_,_,0,_,h,_=>by omega
 |[],i,nn+1,h,hn,hi=>by
  have:=drop_nil h;rw[Ti,F7 _ _ _ (by omega),Iu (by omega)]
 |b::r,i,nn+1,h,hn,hi=>by
  obtain⟨h1,h2,h3⟩:=Dx h;simp only[Tt] at hn;have ih:=PG (call:=call) (n:=n) (c:=c) hb hl r (i+1) nn h3 (by omega) (by omega);have hbb:=hb b (List.mem_of_getElem? h2);have w:wrap .i64 ((i:Int)+1)=((i+1:Nat):Int):=Bl
  have w8:wrap .i64 (8*(i:Int))=8*(i:Int):=Bj;have wb:wrap .u64 b=b:=Ec;have A3d:=Yt (l:=l.take i) fun x hx=>hb x (List.mem_of_mem_take hx);have htl:(l.take i).length=i:=by rw[List.length_take];omega
  rw[htl] at A3d
  have hj:Xf .u64 (Xp (l.take i)) (D9 .u64 b (8*(i:Int)))=Xp (l.take (i+1)):=by
   rw[Bbr (by omega) A3d.1 (by rw[Bcw];exact A3d.2) hbb.1 hbb.2,List.take_add_one,h2,FY,htl,Bcw]
   simp[Xp]
  rw[Ti];simp(disch:=omega)only[Be,Bd,Iq,Jc,R6 h2,w,w8,wb,hj];exact ih
theorem Aaq{l:Al}(hb:Db l)(hl:l.length<=8)(Bv:100<=fu):Ac (CX xs) prog fu (d+1) 159 [.lst false 1 l.length (Af .u8 l)]=some ⟨[Ag (Xp l)],[]⟩:=by rw[PX];exact PG hb hl l 0 fu rfl (by omega) (by omega)
theorem I8(k:IntKind)(l:Al)(i:Nat):List.drop i (Af k l)=Af k (l.drop i):=by
 have:=RG (CN k) l i
 simpa using this
theorem G8(k:IntKind)(l:Al)(i:Nat):List.take i (Af k l)=Af k (l.take i):=by
 have:=Acq (CN k) l i
 simpa using this
theorem Db.drop{l:Al}(h:Db l)(i:Nat):Db (l.drop i):=fun x hx=>h x (List.mem_of_mem_drop hx)
theorem Db.take{l:Al}(h:Db l)(i:Nat):Db (l.take i):=fun x hx=>h x (List.mem_of_mem_take hx)
theorem Azh{a0 a1:Int}{n:Nat}{c:Ae}{l:Al}(hb:Db l)(hl:l.length<=1099511627776)(Bv:100<=fu)(nn:Nat)(v:W4):
  Le fu (Ac (CX xs) prog fu (d+3)) a0 a1 n c (nn+1) l.length (Af .u8 l) ((l.length / 8:Nat):Int) ((l.length / 8:Nat):Int) ((l.length / 8:Nat):Int) v.a v.b v.c v.d=some ⟨[Ag (Aqo (Apq (Xo v (Rk l))))],[]⟩:=by
 have w8:wrap .i64 (8*((l.length / 8:Nat):Int))=((8*(l.length / 8):Nat):Int):=Bl
 have wl:wrap .u64 (l.length:Int)=l.length:=Ec;have XO:(l.drop (8*(l.length / 8))).length=l.length-8*(l.length / 8):=List.length_drop;have li:=Aaq (xs:=xs) (fu:=fu) (d:=d+2) (hb.drop (8*(l.length / 8))) (by omega) Bv;rw[XO] at li;have tk:List.take (l.length-8*(l.length / 8)) (Af .u8 (l.drop (8*(l.length / 8))))=Af .u8 (l.drop (8*(l.length / 8))):=Iu (by rw[An,XO];omega)
 have hbn:=Yt (hb.drop (8*(l.length / 8)));rw[XO] at hbn
 have hp7:(256:Int) ^ (l.length-8*(l.length / 8))<=256 ^ 7:=by
  have:(256:Nat) ^ (l.length-8*(l.length / 8))<=256 ^ 7:=Nat.pow_le_pow_right (by omega) (by omega);have h2:(((256:Nat) ^ (l.length-8*(l.length / 8)):Nat):Int)<=((256 ^ 7:Nat):Int):=by omega
  simpa using h2
 have VS:Xf .u64 (Xp (l.drop (8*(l.length / 8)))) (D9 .u64 (l.length:Int) 56)=Rk l:=by
  have hs:D9 .u64 (l.length:Int) 56=(((l.length % 256)*2 ^ 56:Nat):Int):=by
   show wrap .u64 ((l.length:Int)*2 ^ (min (56:Int).toNat IntKind.u64.bits))=_;have h2:(2:Int) ^ (min (56:Int).toNat IntKind.u64.bits)=72057594037927936:=by decide
   have h3:(2:Nat) ^ 56=72057594037927936:=by decide
   rw[h2,h3];simp only[wrap,IntKind.signed,IntKind.bits];simp;omega
  have h56:(256:Int) ^ 7=((2 ^ 56:Nat):Int):=by decide
  have h3:(2:Nat) ^ 56=72057594037927936:=by decide
  rw[hs,(JN 56 (l.length % 256) hbn.1 (by omega) rfl (by omega)).1];unfold Rk;omega
 have ab:=YZ (xs:=xs) (fu:=fu) (d:=d) Bv v (Rk l);have r4:=ZY (xs:=xs) (fu:=fu) (d:=d+1) 4 (by omega) Bv ⟨(Xo v (Rk l)).a,(Xo v (Rk l)).b,Ez .u64 (Xo v (Rk l)).c 255,(Xo v (Rk l)).d⟩;have e4:((4:Nat):Int)=4:=rfl;rw[e4] at r4;unfold Apq;generalize Xo v (Rk l)=U at ab r4 ⊢;generalize Ai1 4 ⟨U.a,U.b,Ez .u64 U.c 255,U.d⟩=R at r4 ⊢;simp only[W4.cells] at ab r4;rw[Y5];simp(disch:=omega)only[Be,Bd,Iq,Jc,w8,wl,I8,tk,li,VS,ab,r4];rfl
theorem Aex{a0 a1:Int}{n:Nat}{c:Ae}{l:Al}(hb:Db l)(hl:l.length<=1099511627776)(Bv:100<=fu):∀(k i nn:Nat)(v:W4),i+k=l.length / 8->k<nn ->
  Le fu (Ac (CX xs) prog fu (d+3)) a0 a1 n c nn l.length (Af .u8 l) ((l.length / 8:Nat):Int) ((l.length / 8:Nat):Int) i v.a v.b v.c v.d=some ⟨[Ag (Aqo (Apq (Xo (XG k v (l.drop (8*i))) (Rk l))))],[]⟩
 |_,_,0,_,_,h=>by omega
 |0,i,nn+1,v,hi,hn=>by
  have e:i=l.length / 8:=by omega
  subst e;exact Azh hb hl Bv nn v
 |k+1,i,nn+1,v,hi,hn=>by
  have w:wrap .i64 ((i:Int)+1)=((i+1:Nat):Int):=Bl
  have w8:wrap .i64 (8*(i:Int))=((8*i:Nat):Int):=Bl
  have w88:wrap .i64 (((8*i:Nat):Int)+8)=((8*i+8:Nat):Int):=Bl
  have XO:((l.drop (8*i)).take 8).length=8:=by rw[List.length_take,List.length_drop];omega
  have li:=Aaq (xs:=xs) (fu:=fu) (d:=d+2) ((hb.drop (8*i)).take 8) (by omega) Bv;rw[XO] at li;have e8:8*i+8-8*i=8:=by omega
  have ab:=YZ (xs:=xs) (fu:=fu) (d:=d) Bv v (Xp ((l.drop (8*i)).take 8));have ih:=Aex (a0:=a0) (a1:=a1) (n:=n) (c:=c) hb hl Bv k (i+1) nn (Xo v (Xp ((l.drop (8*i)).take 8))) (by omega) (by omega)
  have eN:XG (k+1) v (l.drop (8*i))=XG k (Xo v (Xp ((l.drop (8*i)).take 8))) (l.drop (8*(i+1))):=by
   rw[XG,List.drop_drop,show 8*i+8=8*(i+1) by omega]
  rw[eN];generalize Xo v (Xp ((l.drop (8*i)).take 8))=U at ab ih ⊢;simp only[W4.cells] at ab;rw[Y5];simp(disch:=omega)only[Be,Bd,Iq,Jc,w,w8,w88,e8,I8,G8,li,ab];exact ih
theorem A44{l:Al}(hb:Db l)(hl:l.length<=1099511627776)(Bv:100<=fu)(hf:l.length<fu)(k0 k1:Int):Ac (CX xs) prog fu (d+4) 129 [Ag k0,Ag k1,.lst false 1 l.length (Af .u8 l)]=some ⟨[Ag (Az4 k0 k1 l)],[]⟩:=by
 rw[Ab5]
 have w:wrap .i64 (Int.tdiv (l.length:Int) 8)=((l.length / 8:Nat):Int):=by
  rw[Int.tdiv_eq_ediv_of_nonneg (by omega),Bj];omega
 have lp:=Aex (xs:=xs) (fu:=fu) (d:=d) (a0:=k0) (a1:=k1) (n:=l.length) (c:=Af .u8 l) hb hl Bv (l.length / 8) 0 fu (A3x k0 k1) (by omega) (by omega);simp only[Gw,w];exact lp
theorem RP{l:Al}(hb:Db l)(hl:l.length<=1099511627776)(Bv:100<=fu)(hf:l.length<fu)(dom:Int):Ac (CX xs) prog fu (d+5) 86 [As dom,.lst false 1 l.length (Af .u8 l)]=some ⟨[Ag (Fb dom l)],[]⟩:=by rw[XV];have s:=A44 (xs:=xs) (fu:=fu) (d:=d) hb hl Bv hf (wrap .u64 dom) 0;simp only[Be,Bd,s];rfl
theorem R8(v:W4):Ac (CX xs) prog fu (d+2) 141 [.agg [Ag v.a,Ag v.b,Ag v.c,Ag v.d]]=some ⟨[.agg (WX v).cells],[]⟩:=by have r13:=fun x=>Ask (xs:=xs) (fu:=fu) (d:=d) (x:=x) (k:=13) (by simp);have r16:=fun x=>Ask (xs:=xs) (fu:=fu) (d:=d) (x:=x) (k:=16) (by simp);have r17:=fun x=>Ask (xs:=xs) (fu:=fu) (d:=d) (x:=x) (k:=17) (by simp);have r21:=fun x=>Ask (xs:=xs) (fu:=fu) (d:=d) (x:=x) (k:=21) (by simp);have r32:=fun x=>Ask (xs:=xs) (fu:=fu) (d:=d) (x:=x) (k:=32) (by simp);rw[ER];simp(disch:=omega)only[Be,Bd,r13,r16,r17,r21,r32];rfl
def Zt(l:Al)(i k:Nat):Int:=if i+k<l.length then l.getD (i+k) 0 else if k=7 then (l.length:Int) % 256 else 0
def pc(l:Al)(i:Nat):Al:=(List.range 8).map (Zt l i)
theorem Bic{l:Al}(hb:Db l)(i:Nat):Db (pc l i):=by
 intro x hx;obtain⟨k,hk,rfl⟩:=List.mem_map.1 hx;unfold Zt;split
 ·rename_i h;rw[List.getD_eq_getElem?_getD,List.getElem?_eq_getElem h];exact hb _ (List.getElem_mem h)
 ·split<;>omega
theorem Axd{l:Al}{i:Nat}(h:i+8<=l.length):pc l i=(l.drop i).take 8:=by
 refine List.ext_getElem (by simp[pc];omega) fun k h1 h2=>?_
 have hk:k<8:=by simpa [pc] using h1
 simp only[pc,List.getElem_map,List.getElem_range,List.getElem_take,List.getElem_drop,Zt];rw[Ch (by omega),List.getD_eq_getElem?_getD,List.getElem?_eq_getElem (by omega)];rfl
theorem ZG(x:Int):∀n,Xp (List.replicate n 0++[x])=256 ^ n*x
 |0=>by simp[Xp]
 |n+1=>by
  rw[List.replicate_succ,Zzp,Xp,ZG x n,Int.pow_succ,Int.mul_comm (256 ^ n) 256,Int.mul_assoc];omega
theorem Ax4{l:Al}:Xp (pc l (8*(l.length / 8)))=Rk l:=by
 have e:pc l (8*(l.length / 8))=l.drop (8*(l.length / 8))++(List.replicate (7-(l.length-8*(l.length / 8))) 0++[(l.length:Int) % 256]):=by
  refine List.ext_getElem (by simp[pc];omega) fun k h1 h2=>?_
  have hk:k<8:=by simpa [pc] using h1
  simp only[pc,List.getElem_map,List.getElem_range,Zt];by_cases hc:8*(l.length / 8)+k<l.length
  ·rw[Ch hc,List.getElem_append_left (by rw[List.length_drop];omega),List.getElem_drop,List.getD_eq_getElem?_getD,List.getElem?_eq_getElem hc]
   rfl
  ·rw[Br hc,List.getElem_append_right (by rw[List.length_drop];omega)]
   by_cases h7:k=7
   ·rw[Ch h7,List.getElem_append_right (by simp;omega)]
    simp
   ·rw[Br h7,List.getElem_append_left (by simp;omega)]
    simp
 rw[e,FY,ZG];unfold Rk
 have:(256:Int) ^ (l.drop (8*(l.length / 8))).length*(256 ^ (7-(l.length-8*(l.length / 8)))*((l.length:Int) % 256))=72057594037927936*((l.length:Int) % 256):=by
  rw[<-Int.mul_assoc,<-Int.pow_add,List.length_drop];have:l.length-8*(l.length / 8)+(7-(l.length-8*(l.length / 8)))=7:=by omega
  rw[this];rfl
 rw[this]
theorem A97{a b:Int}(ha:0<=a)(ha':a<72057594037927936)(hb:0<=b)(I7:b<=255):Xf .u64 (D9 .u64 a 8) b=b+256*a:=by
 obtain⟨n,rfl⟩:=Int.eq_ofNat_of_zero_le ha
 have hs:D9 .u64 (n:Int) 8=((n*2 ^ 8:Nat):Int):=by
  have:=RN (a:=(n:Int)) (k:=8) (by omega) (by omega) (by omega) (by
   have:(2 ^ (8:Int).toNat:Nat)=256:=by decide
   rw[this];omega)
  rw[this];have:(2 ^ (8:Int).toNat:Nat)=256:=by decide
  rw[this];have:(2 ^ 8:Nat)=256:=by decide
  rw[this];omega
 have h8:(2 ^ 8:Nat)=256:=by decide
 rw[hs,(JN (a:=b) 8 n hb (by rw[h8];omega) rfl (by rw[h8];omega)).2,h8]
 omega
theorem Amt{a0 a1:Int}{n m0:Nat}{c:Ae}{l:Al}(hb:Db l)(hl:l.length<=1099511627776){i:Nat}(hi:i<=l.length)(v:W4):∀(j nn:Nat),j<=8->j<nn ->
  Fm fu (Ac (CX xs) prog fu (d+2)) a0 a1 n c m0 nn l.length (Af .u8 l) i (Xp ((pc l i).drop j)) ((j:Int)-1) v.cells =
   Gt fu (Ac (CX xs) prog fu (d+2)) a0 a1 n c m0 l.length (Af .u8 l) ((i+8:Nat):Int) (Xo v (Xp (pc l i))).cells
 |_,0,_,h=>by omega
 |0,nn+1,hj,hn=>by
  have w8:wrap .i64 ((i:Int)+8)=((i+8:Nat):Int):=Bl
  have r1:=R8 (xs:=xs) (fu:=fu) (d:=d) ⟨v.a,v.b,v.c,Ez .u64 v.d (Xp (pc l i))⟩;have r2:=R8 (xs:=xs) (fu:=fu) (d:=d) (WX ⟨v.a,v.b,v.c,Ez .u64 v.d (Xp (pc l i))⟩);have eA:Xo v (Xp (pc l i))=Bam (WX (WX ⟨v.a,v.b,v.c,Ez .u64 v.d (Xp (pc l i))⟩)) (Xp (pc l i)):=rfl;rw[eA];generalize WX ⟨v.a,v.b,v.c,Ez .u64 v.d (Xp (pc l i))⟩=U at r1 r2 ⊢;generalize WX U=U2 at r2 ⊢;simp only[W4.cells] at r1 r2;rw[P8,F7 _ _ _ (by omega),Ls];simp only[W4.cells,List.getD_cons_zero,List.getD_cons_succ,TM,Gw];simp (disch:=first|omega|(simp;done)) only[Be,Bd,B3,List.take_succ_cons,List.take_zero,List.drop_succ_cons,Ls,List.drop_nil,Zzp,WU,List.append_nil,Tt,YX,List.getD_cons_zero,List.getD_cons_succ,r1,r2,w8,Ir,Nat.reduceAdd,Nat.reduceLeDiff,List.append_eq]
  rfl
 |j+1,nn+1,hj,hn=>by
  have ih:=Amt (a0:=a0) (a1:=a1) (n:=n) (m0:=m0) (c:=c) hb hl hi v j nn (by omega) (by omega);have hw:wrap .i64 ((i:Int)+(((j+1:Nat):Int)-1))=((i+j:Nat):Int):=Bl
  have wj:wrap .i64 (((j+1:Nat):Int)-1-1)=(j:Int)-1:=Bl
  have hd:(pc l i).drop j=Zt l i j::(pc l i).drop (j+1):=by
   rw[List.drop_eq_getElem_cons (by simp[pc];omega)]
   simp[pc]
  have hB:=Bic hb i;have hbn:=Yt (hB.drop (j+1))
  have hp7:(256:Int) ^ ((pc l i).drop (j+1)).length<=72057594037927936:=by
   have Ek:((pc l i).drop (j+1)).length<=7:=by simp[pc]
   have:(256:Nat) ^ ((pc l i).drop (j+1)).length<=256 ^ 7:=Nat.pow_le_pow_right (by omega) Ek;have h2:(((256:Nat) ^ ((pc l i).drop (j+1)).length:Nat):Int)<=((256 ^ 7:Nat):Int):=by omega
   simpa using h2
  have hc0:0<=Zt l i j/\Zt l i j<=255:=hB _ (by rw[<-Ls (l:=pc l i)];exact List.mem_of_mem_drop (i:=j) (by rw[Ls,hd];simp))
  have hj2:Xf .u64 (D9 .u64 (Xp ((pc l i).drop (j+1))) 8) (Zt l i j)=Xp ((pc l i).drop j):=by
   rw[A97 hbn.1 (by omega) hc0.1 hc0.2,hd];rfl
  have wc:wrap .u64 (Zt l i j)=Zt l i j:=Ec;rw[P8,FW _ _ _ (by omega)];simp only[Gw,hw];by_cases c1:i+j<l.length
  ·have e:Zt l i j=l.getD (i+j) 0:=by unfold Zt;rw[Ch c1]
   have e2:l[i+j]?=some (Zt l i j):=by rw[e,List.getD_eq_getElem?_getD,List.getElem?_eq_getElem c1];rfl
   rw[FW _ _ _ (by omega)];simp(disch:=omega)only[Be,Bd,Iq,Jc,R6 e2,wc,hj2,wj];exact ih
  ·rw[F7 _ _ _ (by omega)];by_cases h7:j=7
   ·subst h7;have e:Zt l i 7=(l.length:Int) % 256:=by unfold Zt;rw[Br c1,Ch rfl]
    have e8:wrap .u8 (l.length:Int)=Zt l i 7:=by
     rw[e];simp only[wrap,IntKind.signed,IntKind.bits];simp
    rw[Lk,Ch (by omega),e8,wc,hj2,wj];exact ih
   ·have e:Zt l i j=0:=by unfold Zt;rw[Br c1,Br h7]
    rw[e] at hj2;rw[Lk,Br (by omega),hj2,wj];exact ih
theorem Aax{a0 a1:Int}{n:Nat}{c:Ae}{l:Al}(hb:Db l)(hl:l.length<=1099511627776)(Bv:100<=fu):∀(k i nn:Nat)(v:W4),i+k=l.length / 8->k+1<nn ->
  Gt fu (Ac (CX xs) prog fu (d+2)) a0 a1 n c nn l.length (Af .u8 l) ((8*i:Nat):Int) v.cells=some ⟨[Ag (Aqo (Apq (Xo (XG k v (l.drop (8*i))) (Rk l))))],[]⟩
 |_,_,0,_,_,h=>by omega
 |k,i,nn+1,v,hi,hn=>by
  have step:=Amt (xs:=xs) (fu:=fu) (d:=d) (a0:=a0) (a1:=a1) (n:=n) (m0:=nn) (c:=c) hb hl (i:=8*i) (by omega) v 8 fu (by omega) (by omega);have e0:Xp ((pc l (8*i)).drop 8)=0:=by rw[List.drop_of_length_le (by simp[pc])];rfl
  rw[e0] at step;rw[Py,FW _ _ _ (by omega)];refine step.trans ?_;cases k with
  |zero=>
   have e:i=l.length / 8:=by omega
   subst e;rw[Ax4];generalize hv:Xo v (Rk l)=u;obtain⟨nn',rfl⟩:∃nn',nn=nn'+1:=⟨nn-1,by omega⟩
   have r1:=R8 (xs:=xs) (fu:=fu) (d:=d) ⟨u.a,u.b,Ez .u64 u.c 255,u.d⟩;have r2:=R8 (xs:=xs) (fu:=fu) (d:=d) (WX ⟨u.a,u.b,Ez .u64 u.c 255,u.d⟩);have r3:=R8 (xs:=xs) (fu:=fu) (d:=d) (WX (WX ⟨u.a,u.b,Ez .u64 u.c 255,u.d⟩));have r4:=R8 (xs:=xs) (fu:=fu) (d:=d) (WX (WX (WX ⟨u.a,u.b,Ez .u64 u.c 255,u.d⟩)))
   have eF:Aqo (Apq (Xo (XG 0 v (l.drop (8*(l.length / 8)))) (Rk l)))=Aqo (WX (WX (WX (WX ⟨u.a,u.b,Ez .u64 u.c 255,u.d⟩)))):=by
    rw[XG,hv];rfl
   rw[eF];clear eF;generalize WX ⟨u.a,u.b,Ez .u64 u.c 255,u.d⟩=U1 at r1 r2 r3 r4 ⊢;generalize WX U1=U2 at r2 r3 r4 ⊢;generalize WX U2=U3 at r3 r4 ⊢;generalize WX U3=U4 at r4 ⊢;simp only[W4.cells] at r1 r2 r3 r4;rw[Py,F7 _ _ _ (by omega)];simp only[W4.cells,List.getD_cons_zero,List.getD_cons_succ,TM,Gw];simp (disch:=first|omega|(simp;done)) only[Be,Bd,B3,List.take_succ_cons,List.take_zero,List.drop_succ_cons,Ls,List.drop_nil,Zzp,WU,List.append_nil,Tt,YX,List.getD_cons_zero,List.getD_cons_succ,r1,r2,r3,r4,Ir,Nat.reduceAdd,Nat.reduceLeDiff,List.append_eq]
   rfl
  |succ k=>
   have ih:=Aax (a0:=a0) (a1:=a1) (n:=n) (c:=c) hb hl Bv k (i+1) nn (Xo v (Xp (pc l (8*i)))) (by omega) (by omega);rw[show 8*i+8=8*(i+1) by omega,ih,Axd (by omega)];simp only[XG,List.drop_drop];rw[show 8*(i+1)=8*i+8 by omega]
theorem Amr{l:Al}(hb:Db l)(hl:l.length<=1099511627776)(Bv:100<=fu)(hf:l.length<fu)(k0 k1:Int):Ac (CX xs) prog fu (d+3) 105 [Ag k0,Ag k1,.lst false 1 l.length (Af .u8 l)]=some ⟨[Ag (Az4 k0 k1 l)],[]⟩:=by rw[HY];exact Aax (xs:=xs) (fu:=fu) (d:=d) (a0:=k0) (a1:=k1) (n:=l.length) (c:=Af .u8 l) hb hl Bv (l.length / 8) 0 fu (A3x k0 k1) (by omega) (by omega)
theorem JT{l:Al}(hb:Db l)(hl:l.length<=1099511627776)(Bv:100<=fu)(hf:l.length<fu)(dom:Int):Ac (CX xs) prog fu (d+4) 69 [As dom,.lst false 1 l.length (Af .u8 l)]=some ⟨[Ag (Fb dom l)],[]⟩:=by rw[GD];have s:=Amr (xs:=xs) (fu:=fu) (d:=d) hb hl Bv hf (wrap .u64 dom) 0;simp only[Be,Bd,s];rfl
theorem Amu{l:Al}(hb:Db l)(hl:l.length<=1099511627776)(Bv:100<=fu)(hf:l.length<fu)(key dom:Int):Ac (CX xs) prog fu (d+4) 63 [Ag key,As dom,.lst false 1 l.length (Af .u8 l)]=some ⟨[Ag (Ayi key dom l)],[]⟩:=by rw[LU];have s:=Amr (xs:=xs) (fu:=fu) (d:=d) hb hl Bv hf key (wrap .u64 (1+wrap .u64 dom));simp only[Be,Bd,s];rfl
end
end
end Go.Proofs.YtohcncipgljdkaaGreatDoor.Pv
