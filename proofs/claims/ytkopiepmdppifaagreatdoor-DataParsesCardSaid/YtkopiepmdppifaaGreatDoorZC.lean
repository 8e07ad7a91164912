/-
  The proof of DataParses, part 3.
-/
import Derived.Test.YtkopiepmdppifaaGreatDoorZB
import Derived.StillTail
import Derived.WalkKit
import Derived.ProofKit
import Derived.OpenShut
import Derived.ShutString
import Derived.ChangeOld
import Derived.Below
import Derived.Deep.Slices
import Derived.ChangeSame
import Derived.WideKeyArgs
import Derived.Carry
import Derived.Test.YtkopiepmdppifaaGreatDoorRows
import Derived.Lib.RuneBytes
set_option linter.unusedSimpArgs false
set_option linter.unusedVariables false
namespace Go.Proofs.YtkopiepmdppifaaGreatDoor.Pv
open Go.IntKind (wrap)
open Go.Proofs.Tryz (prog)
set_option maxRecDepth 1000000
noncomputable section
section
section
variable {R R':Type}{Rel:Option R->Option R'->Prop}
theorem Jl(hn:Rel none none){k:IntKind}{p:PV}{K:Int->Option R}{K':Int->Option R'}(hK:∀n,Rel (K n) (K' n)):Rel (Eh k p K) (Eh k p K'):=by
 unfold Eh;split
 ·split<;>first|exact hK _|exact hn
 ·exact hn
theorem E3(hn:Rel none none){p:PV}{K:IntKind->Int->Option R}{K':IntKind->Int->Option R'}(hK:∀k n,Rel (K k n) (K' k n)):Rel (El p K) (El p K'):=by unfold El;split<;>first|exact hK _ _|exact hn
theorem H1(hn:Rel none none){p:PV}{K:Bool->Option R}{K':Bool->Option R'}(hK:∀n,Rel (K n) (K' n)):Rel (Cb p K) (Cb p K'):=by unfold Cb;split<;>first|exact hK _|exact hn
theorem Gu(hn:Rel none none){p:PV}{K:ByteArray->Option R}{K':ByteArray->Option R'}(hK:∀n,Rel (K n) (K' n)):Rel (Ai p K) (Ai p K'):=by unfold Ai;split<;>first|exact hK _|exact hn
theorem Gs(hn:Rel none none){es:Nat}{p:PV}{K:Bool->Nat->Al->Option R}{K':Bool->Nat->Al->Option R'}(hK:∀z n c,Rel (K z n c) (K' z n c)):Rel (Xw es p K) (Xw es p K'):=by
 unfold Xw;split
 ·rename_i es' _ _;cases Nat.beq es' es
  ·exact hn
  ·exact hK _ _ _
 ·exact hK _ _ _
 ·exact hn
theorem Ako(hn:Rel none none){es:Nat}{p:PV}{K:PV->Option R}{K':PV->Option R'}(hK:∀p,Rel (K p) (K' p)):Rel (fsK es p K) (fsK es p K'):=by
 unfold fsK;split
 ·rename_i es' _ _;cases Nat.beq es' es
  ·exact hn
  ·exact hK _
 ·exact Gs hn fun _ _ _=>hK _
theorem Abn(hn:Rel none none){es:Nat}{p:PV}{K:Nat->Al->Option R}{K':Nat->Al->Option R'}(hK:∀n c,Rel (K n c) (K' n c)):Rel (FJ es p K) (FJ es p K'):=by
 unfold FJ;split
 ·rename_i es' _ _;cases Nat.beq es' es
  ·exact hn
  ·exact hK _ _
 ·exact hn
theorem A5(hn:Rel none none){b:Bool}{K:Option R}{K':Option R'}(hK:b=true->Rel K K'):Rel (A6 b K) (A6 b K'):=by
 cases b
 ·exact hn
 ·exact hK rfl
theorem FE{b:Bool}{x y:Option R}{x' y':Option R'}(hx:Rel x x')(hy:Rel y y'):Rel (As b x y) (As b x' y'):=by
 cases b
 ·exact hy
 ·exact hx
theorem D6(hn:Rel none none){α:Type}{o:Option α}{K:α->Option R}{K':α->Option R'}(hK:∀a,o=some a->Rel (K a) (K' a)):Rel (Dk o K) (Dk o K'):=by
 cases o
 ·exact hn
 ·exact hK _ rfl
theorem Bx(hn:Rel none none){α:Type}{l:List α}{K:α->List α->Option R}{K':α->List α->Option R'}(hK:∀a r,l=a::r->Rel (K a r) (K' a r)):Rel (Ac l K) (Ac l K'):=by
 cases l
 ·exact hn
 ·exact hK _ _ rfl
theorem Gd(hn:Rel none none){α:Type}{l:List α}{K:Option R}{K':Option R'}(hK:Rel K K'):Rel (Af l K) (Af l K'):=by
 cases l
 ·exact hK
 ·exact hn
theorem Ko(hn:Rel none none){p:PV}{K:Al->Option R}{K':Al->Option R'}(hK:∀c,p=.agg c->Rel (K c) (K' c)):Rel (Fo p K) (Fo p K'):=by
 unfold Fo;split
 ·exact hK _ rfl
 ·exact hn
theorem Acy(hn:Rel none none){p:PV}{K:Al->Option R}{K':Al->Option R'}(hK:∀c,Rel (K c) (K' c)):Rel (Xm p K) (Xm p K'):=by
 unfold Xm;split
 ·exact hK _
 ·exact hn
theorem MZ(hn:Rel none none){r:Option Bz}{K:Al->List Al->Option R}{K':Al->List Al->Option R'}(hK:∀v o,Rel (K v o) (K' v o)):Rel (Ah r K) (Ah r K'):=by
 unfold Ah;split
 ·exact hK _ _
 ·exact hn
theorem Aag(hn:Rel none none){p:PV}{K:Value->Option R}{K':Value->Option R'}(hK:∀v,Rel (K v) (K' v)):Rel (fnK p K) (fnK p K'):=by
 unfold fnK;split
 ·exact hK _
 ·exact hK _
 ·exact hn
theorem Alq(hn:Rel none none){p:PV}{K:FuncId->Option R}{K':FuncId->Option R'}(hK:∀v,Rel (K v) (K' v)):Rel (fvK p K) (fvK p K'):=by
 unfold fvK;split
 ·rename_i f a b;cases (a.isEmpty&&b.isEmpty)
  ·exact hn
  ·exact hK _
 ·exact hn
theorem Qj(hn:Rel none none){t:CT}{p:PV}{K:PV->Option R}{K':PV->Option R'}(hK:∀p,Rel (K p) (K' p)):Rel (CU t p K) (CU t p K'):=by
 unfold CU;split
 ·exact Jl hn fun _=>hK _
 ·exact H1 hn fun _=>hK _
 ·exact Gu hn fun _=>hK _
 ·exact Gs hn fun _ _ _=>hK _
 ·exact Aag hn fun _=>hK _
theorem Anb(hn:Rel none none){t:CT}{p:PV}{K:PV->Option R}{K':PV->Option R'}(hK:∀p,Rel (K p) (K' p)):Rel (fcK t p K) (fcK t p K'):=by
 unfold fcK;split
 ·exact Ako hn hK
 ·exact Qj hn hK
theorem Rs(hn:Rel none none):∀{ts:List CT}{cells:Al}{off:Nat}{K:Al->Option R}{K':Al->Option R'},(∀c,Rel (K c) (K' c))->Rel (Tx ts cells off K) (Tx ts cells off K')
 |[],_,_,_,_,hK=>hK _
 |_::_,_,_,_,_,hK=>Qj hn fun _=>Rs hn fun _=>hK _
theorem Pp(hn:Rel none none):∀{ts:List CT}{cells:Al}{off:Nat}{K:Al->Option R}{K':Al->Option R'},(∀c,Rel (K c) (K' c))->Rel (P8 ts cells off K) (P8 ts cells off K')
 |[],_,_,_,_,hK=>hK _
 |_::_,_,_,_,_,hK=>Anb hn fun _=>Pp hn fun _=>hK _
theorem Zc(hn:Rel none none){g:Bool}{cells:Al}{K:PV->Option R}{K':PV->Option R'}(hK:∀p,Rel (K p) (K' p)):Rel (mkV g cells K) (mkV g cells K'):=by
 cases g
 ·exact Bx hn fun _ _ _=>Gd hn (hK _)
 ·exact hK _
theorem ZN(hn:Rel none none){P:Program}{t:TypeId}{v:Value}{K:PV->Option R}{K':PV->Option R'}(hK:∀p,Ch p=[]->Rel (K p) (K' p))(hK':∀c,Rel (K (.agg c)) (K' (.agg c))):Rel (cvK P t v K) (cvK P t v K'):=by
 unfold cvK;split
 ·exact A5 hn fun _=>Rs hn fun _=>hK' _
 ·split
  ·exact hK _ rfl
  ·exact hn
 ·exact hK _ rfl
theorem Aio(hn:Rel none none){op:BinOp}{x y:Int}{K:Bool->Option R}{K':Bool->Option R'}(hK:∀n,Rel (K n) (K' n)):Rel (Anz op x y K) (Anz op x y K'):=by unfold Anz;split<;>first|exact hK _|exact hn
theorem YM(hn:Rel none none){op:BinOp}{k:IntKind}{x y:Int}{K:PV->Option R}{K':PV->Option R'}(hK:∀n,Rel (K n) (K' n)):Rel (IC op k x y K) (IC op k x y K'):=by unfold IC;split<;>first|exact hK _|exact A5 hn fun _=>hK _|exact Aio hn fun _=>hK _
theorem XW(hn:Rel none none){op:BinOp}{x y:ByteArray}{K:PV->Option R}{K':PV->Option R'}(hK:∀n,Rel (K n) (K' n)):Rel (IK op x y K) (IK op x y K'):=by unfold IK;split<;>first|exact hK _|exact A5 hn fun _=>hK _|exact hn
theorem NG(hn:Rel none none){e:Bool}{p:PV}{K:PV->Option R}{K':PV->Option R'}(hK:∀n,Rel (K n) (K' n)):Rel (GN e p K) (GN e p K'):=by unfold GN;split<;>first|exact hK _|exact FE (hK _) (FE (hK _) (hK _))|exact FE (hK _) (hK _)|exact hn
theorem TB(hn:Rel none none):∀{ts:List CT}{ps qs:Al}{K:Bool->Option R}{K':Bool->Option R'},(∀b,Rel (K b) (K' b))->Rel (Mi ts ps qs K) (Mi ts ps qs K'):=by
 intro ts
 induction ts with
 |nil=>
  intro ps qs K K' hK;cases ps<;>cases qs<;>first|exact hK _|exact hn
 |cons t ts ih=>
  intro ps qs K K' hK;cases ps with
  |nil=>cases t<;>cases qs<;>exact hn
  |cons p ps=>
   cases qs with
   |nil=>cases t<;>exact hn
   |cons q qs=>
    cases t
    ·exact Jl hn fun _=>Jl hn fun _=>ih fun _=>hK _
    ·exact H1 hn fun _=>H1 hn fun _=>ih fun _=>hK _
    ·exact Gu hn fun _=>Gu hn fun _=>ih fun _=>hK _
    ·exact hn
    ·exact hn
theorem Agf(hn:Rel none none){P:Program}{op:BinOp}{t:TypeId}{x y:PV}{K:PV->Option R}{K':PV->Option R'}(hK:∀p,Rel (K p) (K' p)):Rel (Ajy P op t x y K) (Ajy P op t x y K'):=by
 unfold Ajy;split
 ·split
  ·exact Jl hn fun _=>E3 hn fun _ _=>A5 hn fun _=>hK _
  ·exact Jl hn fun _=>E3 hn fun _ _=>A5 hn fun _=>hK _
  ·exact Jl hn fun _=>Jl hn fun _=>YM hn hK
 ·exact Gu hn fun _=>Gu hn fun _=>XW hn hK
 ·split
  ·exact H1 hn fun _=>H1 hn fun _=>hK _
  ·exact H1 hn fun _=>H1 hn fun _=>hK _
  ·exact hn
 ·split
  ·exact NG hn fun _=>hK _
  ·exact NG hn fun _=>hK _
  ·exact hn
 ·split
  ·exact hK _
  ·exact hK _
  ·exact hn
 ·exact hn
theorem ST(hn:Rel none none){P:Program}{op:BinOp}{t:TypeId}{x y:PV}{K:PV->Option R}{K':PV->Option R'}(hK:∀p,Rel (K p) (K' p)):Rel (Wi P op t x y K) (Wi P op t x y K'):=by
 unfold Wi;split
 ·split
  ·exact A5 hn fun _=>Ko hn fun _ _=>Ko hn fun _ _=>TB hn fun _=>hK _
  ·exact A5 hn fun _=>Ko hn fun _ _=>Ko hn fun _ _=>TB hn fun _=>hK _
  ·exact hn
 ·exact Agf hn hK
theorem Amj(hn:Rel none none){op:UnOp}{x:PV}{K:PV->Option R}{K':PV->Option R'}(hK:∀p,Rel (K p) (K' p)):Rel (unK op x K) (unK op x K'):=by unfold unK;split<;>first|exact H1 hn fun _=>hK _|exact E3 hn fun _ _=>hK _|exact hn
theorem Ey(hn:Rel none none){p:Option PV}{d:Nat}{K:Nat->Option R}{K':Nat->Option R'}(hK:∀n,Rel (K n) (K' n)):Rel (H7 p d K) (H7 p d K'):=by
 unfold H7;split
 ·exact hK _
 ·exact E3 hn fun _ _=>A5 hn fun _=>hK _
theorem BS(hn:Rel none none){x:PV}{d:Nat}{K:PV->Option R}{K':PV->Option R'}(hK:∀n,Rel (K n) (K' n)):Rel (Vj x d K) (Vj x d K'):=by unfold Vj;split<;>first|exact hK _|exact hn
theorem JG(hn:Rel none none){P:Program}{t:TypeId}{x:PV}{i:Int}{K:PV->Option R}{K':PV->Option R'}(hK:∀p,Rel (K p) (K' p)):Rel (Ln P t x i K) (Ln P t x i K'):=by
 unfold Ln;split
 ·exact A5 hn fun _=>A5 hn fun _=>BS hn hK
 ·refine A5 hn fun _=>?_;split
  ·exact A5 hn fun _=>A5 hn fun _=>hK _
  ·exact Gs hn fun _ _ _=>A5 hn fun _=>hK _
 ·exact hn
theorem BO(hn:Rel none none){Ib:Nat->Option (Nat × Nat)}:∀{ps:List (Nat × PV)} {cells:Al}{K:Al->Option R}{K':Al->Option R'},(∀c,Rel (K c) (K' c))->Rel (U9 Ib ps cells K) (U9 Ib ps cells K')
 |[],_,_,_,hK=>hK _
 |(_,_)::_,_,_,_,hK=>D6 hn fun _ _=>A5 hn fun _=>BO hn hK
theorem U8(hn:Rel none none){P:Program}{t:TypeId}{K:Al->Option R}{K':Al->Option R'}(hK:∀p,Rel (K p) (K' p)):Rel (Ic P t K) (Ic P t K'):=
 D6 hn fun _ _=>A5 hn fun _=>Rs hn hK
theorem Ah1(hn:Rel none none){x y:PV}{K:PV->Option R}{K':PV->Option R'}(hK:∀p,Rel (K p) (K' p)):Rel (An3 x y K) (An3 x y K'):=
 E3 hn fun _ _=>Jl hn fun _=>hK _
theorem Afe(hn:Rel none none){x y:PV}{K:PV->Option R}{K':PV->Option R'}(hK:∀p,Rel (K p) (K' p)):Rel (Amy x y K) (Amy x y K'):=
 E3 hn fun _ _=>Jl hn fun _=>hK _
theorem Aip(hn:Rel none none){P:Program}{t:TypeId}{x:PV}{K:Nat->Option R}{K':Nat->Option R'}(hK:∀p,Rel (K p) (K' p)):Rel (Ab2 P t x K) (Ab2 P t x K'):=by
 unfold Ab2;split
 ·exact Gu hn fun _=>hK _
 ·exact hK _
 ·split
  ·exact A5 hn fun _=>hK _
  ·exact Gs hn fun _ _ _=>hK _
 ·exact hn
def RJ(Rel:Option R->Option R'->Prop)(f f':Nat->Option Al)(l:B8):Prop:=∀i∈l,f i=f' i\/(f i=none/\∀b,Rel none b)
variable {f f':Nat->Option Al}
theorem RJ.sub{l l':B8}(h:RJ Rel f f' l)(hs:∀i∈l',i∈l):RJ Rel f f' l':=fun i hi=>h i (hs i hi)
theorem Z4(hn:Rel none none){l:B8}{id:Nat}(hf:RJ Rel f f' l)(hi:id∈l){K:Al->Option R}{K':Al->Option R'}(hK:∀c,f id=some c->Rel (K c) (K' c)):Rel (Dk (f id) K) (Dk (f' id) K'):=by
 rcases hf id hi with h|⟨h,hb⟩
 ·rw[<-h];exact D6 hn hK
 ·rw[h];exact hb _
theorem Sa(hn:Rel none none){es:Nat}{p:PV}{K:Nat->Al->Option R}{K':Nat->Al->Option R'}(hf:RJ Rel f f' (Aw p))(hK:∀n c,Rel (K n c) (K' n c)):Rel (RV f es p K) (RV f' es p K'):=by
 unfold RV;split
 ·rename_i id es' off n;cases Nat.beq es' es
  ·exact hn
  ·exact Z4 hn hf (by simp[Aw]) fun _ _=>A5 hn fun _=>hK _ _
 ·exact Gs hn fun _ _ _=>hK _ _
theorem Af3(hn:Rel none none){t:CT}{p:PV}{K:PV->B8->Option R}{K':PV->B8->Option R'}(hf:RJ Rel f f' (Aw p))(hK:∀c m,(∀i∈m,f i≠none)->Rel (K c m) (K' c m)):Rel (P5 f t p K) (P5 f' t p K'):=by
 unfold P5;split
 ·split
  ·rename_i id es' off n;cases Nat.beq es' _
   ·exact hn
   ·exact Z4 hn hf (by simp[Aw]) fun c hc=>A5 hn fun _=>hK _ _ (by simp[hc])
  ·exact Gs hn fun _ _ _=>hK _ _ (by simp)
 ·exact Qj hn fun _=>hK _ _ (by simp)
theorem Vy(hn:Rel none none):∀{ts:List CT}{ps:Al}{K:Al->B8->Option R}{K':Al->B8->Option R'},RJ Rel f f' (ps.flatMap Aw)->(∀c m,(∀i∈m,f i≠none)->Rel (K c m) (K' c m))->Rel (Pn f ts ps K) (Pn f' ts ps K')
 |[],[],_,_,_,hK=>hK _ _ (by simp)
 |[],_::_,_,_,_,_=>hn
 |_::_,[],_,_,_,_=>hn
 |_::_,p::ps,_,_,hf,hK=>Af3 hn (fun i hi=>hf i (by simp only[Kg,Bu];exact .inl hi)) fun _ m hm=>Vy hn (fun i hi=>hf i (by simp only[Kg,Bu];exact .inr hi)) fun _ ms GE=>hK _ _ fun i hi=>by
   rcases Bu.1 hi with h|h
   ·exact hm i h
   ·exact GE i h
theorem Agu(hn:Rel none none){P:Program}{t:TypeId}{p:PV}{K:PV->B8->Option R}{K':PV->B8->Option R'}(hf:RJ Rel f f' (C5 p))(hK:∀c m,(∀i∈m,f i≠none)->Rel (K c m) (K' c m)):Rel (YL P f t p K) (YL P f' t p K'):=by
 unfold YL
 have h1:∀i,i∈[p].flatMap Aw->i∈C5 p:=by
  intro i hi;simp only[Kg,List.flatMap_nil,List.append_nil] at hi;cases p<;>first|exact hi|simp[Aw] at hi
 cases Cp P t
 ·exact Vy hn (fun i hi=>hf i (h1 i hi)) fun _ _ hm=>Bx hn fun _ _ _=>Gd hn (hK _ _ hm)
 ·refine Ko hn fun c hc=>?_;subst hc;exact Vy hn (fun i hi=>hf i hi) fun _ _ hm=>hK _ _ hm
theorem LY(hn:Rel none none){P:Program}:∀{ts:List TypeId}{ps:Al}{K:Al->B8->Option R}{K':Al->B8->Option R'},RJ Rel f f' (ps.flatMap C5)->(∀c m,(∀i∈m,f i≠none)->Rel (K c m) (K' c m))->Rel (GD P f ts ps K) (GD P f' ts ps K')
 |[],[],_,_,_,hK=>hK _ _ (by simp)
 |[],_::_,_,_,_,_=>hn
 |_::_,[],_,_,_,_=>hn
 |_::_,p::ps,_,_,hf,hK=>Agu hn (fun i hi=>hf i (by simp only[Kg,Bu];exact .inl hi)) fun _ m hm=>LY hn (fun i hi=>hf i (by simp only[Kg,Bu];exact .inr hi)) fun _ ms GE=>hK _ _ fun i hi=>by
   rcases Bu.1 hi with h|h
   ·exact hm i h
   ·exact GE i h
theorem YK(hn:Rel none none){P:Program}{t:TypeId}{x:PV}{lo hi:Option PV}{K:PV->Option R}{K':PV->Option R'}(hf:(∃n e,P.underlying t=some (.array n e))->RJ Rel f f' (Aw x))(hK:∀c,Rel (K c) (K' c)):Rel (BG P f t x lo hi K) (BG P f' t x lo hi K'):=by
 unfold BG;split
 ·exact Gu hn fun _=>Ey hn fun _=>Ey hn fun _=>A5 hn fun _=>hK _
 ·refine A5 hn fun _=>?_;split
  ·exact A5 hn fun _=>Ey hn fun _=>Ey hn fun _=>A5 hn fun _=>hK _
  ·exact Gs hn fun _ _ _=>Ey hn fun _=>Ey hn fun _=>A5 hn fun _=>hK _
 ·rename_i n e hu;refine A5 hn fun _=>?_;split
  ·rename_i id off;exact Z4 hn (hf ⟨_,_,hu⟩) (by simp[Aw]) fun _ _=>A5 hn fun _=>Ey hn fun _=>Ey hn fun _=>A5 hn fun _=>hK _
  ·exact hn
 ·exact hn
theorem TT(hn:Rel none none){P:Program}{d:Nat}{t:TypeId}{x:PV}{lo hi mx:Option PV}{K:PV->List (Nat × Cd)->Option R}{K':PV->List (Nat × Cd)->Option R'}(hK:∀c,Rel (K c [(d,.ar false [])]) (K' c [(d,.ar false [])])):Rel (Vv P d t x lo hi mx K) (Vv P d t x lo hi mx K'):=by
 unfold Vv;split
 ·refine A5 hn fun _=>?_;split
  ·exact A5 hn fun _=>Ey hn fun _=>Ey hn fun _=>Ey hn fun _=>A5 hn fun _=>hK _
  ·exact Gs hn fun _ _ _=>Ey hn fun _=>Ey hn fun _=>Ey hn fun _=>A5 hn fun _=>hK _
 ·exact hn
theorem MH{nz:Bool}{g g':Nat->Option Al}(hn:Rel none none){P:Program}{t:TypeId}{x:PV}{K:PV->Option R}{K':PV->Option R'}(hf:∀i∈Aw x,(f i=f' i/\g i=g' i)\/(f i=none/\g i=none/\∀b,Rel none b))(hK:∀c,Rel (K c) (K' c)):Rel (Zl nz P f g t x K) (Zl nz P f' g' t x K'):=by
 unfold Zl;split
 ·rename_i id off;refine A5 hn fun _=>?_;rcases hf id (by simp[Aw]) with⟨h1,h2⟩|⟨h1,h2,h3⟩
  ·rw[<-h1,<-h2];split
   ·exact Rs hn fun _=>Zc hn fun _=>hK _
   ·exact D6 hn fun _ _=>Pp hn fun _=>Zc hn hK
  ·rw[h1,h2];exact h3 _
 ·exact A5 hn fun _=>Rs hn fun _=>Zc hn fun _=>hK _
 ·exact hn
theorem Ach(hn:Rel none none){P:Program}{d:Nat}{src dst:TypeId}{x:PV}{K:PV->List (Nat × Cd)->Option R}{K':PV->List (Nat × Cd)->Option R'}(hf:P.underlying dst=some .string->RJ Rel f f' (Aw x))(hK:∀v b,(∀q∈b,q.1=d)->Rel (K v b) (K' v b)):Rel (GU P f d src dst x K) (GU P f' d src dst x K'):=by
 unfold GU;split
 ·exact A5 hn fun _=>E3 hn fun _ _=>hK _ _ (by simp)
 ·rename_i hds;split
  ·exact Gu hn fun _=>hK _ _ (by simp)
  ·split
   ·exact Sa hn (hf hds) fun _ _=>A5 hn fun _=>D6 hn fun _ _=>hK _ _ (by simp)
   ·exact Sa hn (hf hds) fun _ _=>A5 hn fun _=>D6 hn fun _ _=>hK _ _ (by simp)
   ·exact hn
  ·exact hn
 ·split
  ·exact Gu hn fun _=>A5 hn fun _=>hK _ _ (by simp)
  ·exact hn
 ·exact hn
theorem Ahb(hn:Rel none none){shr:Bool}{id:Nat}{t:CT}{p:PV}{K:PV->List (Nat × Cd)->Option R}{K':PV->List (Nat × Cd)->Option R'}(hK:∀c b,(∀q∈b,q.1=id)->Rel (K c b) (K' c b)):Rel (Afa shr id t p K) (Afa shr id t p K'):=by
 unfold Afa;split
 ·cases shr
  ·exact Abn hn fun _ _=>hK _ _ (by simp)
  ·exact Gs hn fun _ _ _=>hK _ _ (by simp)
 ·exact Qj hn fun _=>hK _ _ (by simp)
theorem Wg(hn:Rel none none){shr:Bool}{N:Nat}:∀{ts:List CT}{id:Nat}{ps:Al}{K:Al->List (Nat × Cd)->Option R} {K':Al->List (Nat × Cd)->Option R'},(∀c b,(∀q∈b,∃j,q.1=id+N*j)->Rel (K c b) (K' c b))->Rel (R9 shr N id ts ps K) (R9 shr N id ts ps K')
 |[],_,_,_,_,hK=>Gd hn (hK _ _ (by simp))
 |_::_,id,_,_,_,hK=>Bx hn fun _ _ _=>Ahb hn fun _ b hb=>Wg hn fun _ bs KM=>hK _ _ fun q hq=>by
   rcases Bu.1 hq with h|h
   ·exact⟨0,by rw[hb q h];simp⟩
   ·obtain⟨j,hj⟩:=KM q h;exact⟨j+1,by rw[hj,Nat.mul_add];omega⟩
theorem Ail(hn:Rel none none){P:Program}{shr:Bool}{N id:Nat}{t:TypeId}{p:PV}{K:PV->List (Nat × Cd)->Option R}{K':PV->List (Nat × Cd)->Option R'}(hK:∀c b,(∀q∈b,∃j,q.1=id+N*j)->Rel (K c b) (K' c b)):Rel (Add P shr N id t p K) (Add P shr N id t p K'):=by
 unfold Add;split
 ·refine Acy hn fun ps=>Wg hn fun _ _ hb=>hK _ _ fun q hq=>?_;rcases List.mem_cons.1 hq with rfl|hq
  ·exact⟨0,by simp⟩
  ·obtain⟨j,hj⟩:=hb q hq;exact⟨j+1,by rw[hj,Nat.mul_add];omega⟩
 cases Cp P t
 ·exact Wg hn fun _ _ hb=>Bx hn fun _ _ _=>Gd hn (hK _ _ hb)
 ·exact Ko hn fun _ _=>Wg hn fun _ _ hb=>hK _ _ hb
theorem BN(hn:Rel none none){P:Program}{shr:Bool}{N:Nat}:∀{ts:List TypeId}{id:Nat}{ps:Al}{K:Al->List (Nat × Cd)->Option R} {K':Al->List (Nat × Cd)->Option R'},(∀c b,(∀q∈b,∃j,q.1=id+N*j)->Rel (K c b) (K' c b))->Rel (DR P shr N id ts ps K) (DR P shr N id ts ps K')
 |[],_,_,_,_,hK=>Gd hn (hK _ _ (by simp))
 |t::_,id,_,_,_,hK=>Bx hn fun _ _ _=>Ail hn fun _ b hb=>BN hn fun _ bs KM=>hK _ _ fun q hq=>by
   rcases Bu.1 hq with h|h
   ·exact hb q h
   ·obtain⟨j,hj⟩:=KM q h;exact⟨RW P t+j,by rw[hj,Nat.mul_add];omega⟩
end
theorem Uy{p:PV}{i:Nat}(h:i∈Aw p):i∈C5 p:=by cases p<;>first|exact h|simp[Aw] at h
theorem Gx{p:PV}{i:Nat}(h:i∈C5 p):i∈Ch p:=by cases p<;>first|exact h|simp[C5,Aw] at h
theorem Lt{p:PV}{i:Nat}(h:i∈Aw p):i∈Ch p:=Gx (Uy h)
section
variable {R R':Type}{Rel:Option R->Option R'->Prop}{P:Program}{N:Nat}{tm tm':Nat->PV}{f f' g g':Nat->Option Al}{o:Oper}
theorem IH(hn:Rel none none){t:TypeId}{x:Operand}{K:PV->Option R}{K':PV->Option R'}(hx:Cm tm x=Cm tm' x)(hK:∀p,Rel (K p) (K' p)):Rel (BI P t tm x K) (BI P t tm' x K'):=by
 unfold BI;split
 ·exact ZN hn (fun _ _=>hK _) (fun _=>hK _)
 ·rw[hx];exact hK _
theorem Afv(hn:Rel none none){t:CT}{p:PV}{K:PV->Option R}{K':PV->Option R'}(hK:∀p,Aw p=[]->Rel (K p) (K' p)):Rel (CU t p K) (CU t p K'):=by
 unfold CU;split
 ·exact Jl hn fun _=>hK _ rfl
 ·exact H1 hn fun _=>hK _ rfl
 ·exact Gu hn fun _=>hK _ rfl
 ·exact Gs hn fun _ _ _=>hK _ rfl
 ·exact Aag hn fun _=>hK _ rfl
theorem MS(hn:Rel none none):∀{ts:List CT}{cells:Al}{off:Nat}{K:Al->Option R}{K':Al->Option R'},(∀c,(∀p∈c,Aw p=[])->Rel (K c) (K' c))->Rel (Tx ts cells off K) (Tx ts cells off K')
 |[],_,_,_,_,hK=>hK _ (by simp)
 |_::_,_,_,_,_,hK=>Afv hn fun c hc=>MS hn fun cs EV=>hK _ (by
   intro p hp;rcases List.mem_cons.1 hp with h|h
   ·rw[h];exact hc
   ·exact EV p h)
theorem Yy(hn:Rel none none){t:TypeId}{K:Al->Option R}{K':Al->Option R'}(hK:∀c,(∀p∈c,Aw p=[])->Rel (K c) (K' c)):Rel (Ic P t K) (Ic P t K'):=
 D6 hn fun _ _=>A5 hn fun _=>MS hn hK
theorem Vl{p c:PV}(h:c∈cellsOf p){i:Nat}(hi:i∈Aw c):i∈C5 p:=by
 unfold cellsOf at h;split at h
 ·exact List.mem_flatMap.2 ⟨c,h,hi⟩
 ·simp at h;subst h;exact Uy hi
theorem ZG{cells new:Al}{off:Nat}{c:PV}(h:c∈Cw cells new off):c∈cells\/c∈new:=by
 unfold Cw at h;rcases Bu.1 h with h|h
 ·rcases Bu.1 h with h|h
  ·exact .inl (List.mem_of_mem_take h)
  ·exact .inr h
 ·exact .inl (List.mem_of_mem_drop h)
theorem JB(hn:Rel none none){Ib:Nat->Option (Nat × Nat)}{S:Nat->Prop}:∀{ps:List (Nat × PV)} {cells:Al}{K:Al->Option R}{K':Al->Option R'},(∀c∈cells,∀i∈Aw c,S i)->(∀q∈ps,∀i∈C5 q.2,S i) ->
  (∀cs,(∀c∈cs,∀i∈Aw c,S i)->Rel (K cs) (K' cs))->Rel (U9 Ib ps cells K) (U9 Ib ps cells K')
 |[],_,_,_,h1,_,hK=>hK _ h1
 |(_,p)::_,_,_,_,h1,h2,hK=>D6 hn fun _ _=>A5 hn fun _=>JB hn (fun c hc i hi=>by
   rcases ZG hc with h|h
   ·exact h1 c h i hi
   ·exact h2 (_,p) Yd i (Vl h hi)) (fun q hq=>h2 q (Su _ hq)) hK
theorem DS(hn:Rel none none):∀{ts:List CT}{ps:Al}{K:Al->B8->Option R}{K':Al->B8->Option R'},(∀t∈ts,∀es,t ≠ .sl es)->(∀c,Rel (K c []) (K' c []))->Rel (Pn g ts ps K) (Pn g' ts ps K')
 |[],[],_,_,_,hK=>hK _
 |[],_::_,_,_,_,_=>hn
 |_::_,[],_,_,_,_=>hn
 |t::ts,p::ps,K,K',ht,hK=>by
  show Rel (P5 g t p _) (P5 g' t p _)
  have:∀{g:Nat->Option Al} {S:Type} {L:PV->B8->Option S},P5 g t p L=CU t p fun c=>L c []:=by
   intro g S L;cases t with
   |sl es=>exact absurd rfl (ht _ (by simp) es)
   |_=>rfl
  rw[this,this];exact Qj hn fun c=>DS hn (fun t h=>ht t (by simp[h])) fun cs=>hK _
theorem Ahx(hn:Rel none none){es:Nat}{t:TypeId}{x:PV}{K:Nat->Al->Option R}{K':Nat->Al->Option R'}(hx:RJ Rel g g' (Aw x))(hK:∀m c,Rel (K m c) (K' m c)):Rel (XN P g es t x K) (XN P g' es t x K'):=by
 unfold XN;split
 ·exact A5 hn fun _=>Gu hn fun _=>hK _ _
 ·exact Sa hn hx hK
 ·exact hn
theorem Agi(hn:Rel none none){t:TypeId}{x:PV}{K:Nat->Option R}{K':Nat->Option R'}(hK:∀n,Rel (K n) (K' n)):Rel (Acw P t x K) (Acw P t x K'):=by
 unfold Acw;split
 ·exact Gs hn fun _ _ _=>A5 hn fun _=>hK _
 ·exact hn
theorem VL(hn:Rel none none){d:Nat}{t tx:TypeId}{x:PV}{K:PV->List (Nat × Cd)->Option R}{K':PV->List (Nat × Cd)->Option R'}(hx:RJ Rel g g' (Aw x))(hK:∀v nw,Rel (K v nw) (K' v nw)):Rel (V6 P g d t tx x K) (V6 P g' d t tx x K'):=by
 unfold V6;split
 ·exact A5 hn fun _=>Ahx hn hx fun _ _=>A5 hn fun _=>hK _ _
 ·exact hn
theorem GY(hn:Rel none none){C:H2}{call:A7}{K:PV->B8->List (Nat × Cd)->Option R}{K':PV->B8->List (Nat × Cd)->Option R'}(K3:∀x∈o.op.operands.toList,Cm tm x=Cm tm' x)(hfg:I0 P o.op=true->∀x∈o.op.operands.toList,∀i∈Ch (Cm tm' x),(f i=f' i/\g i=g' i)\/(f i=none/\g i=none/\∀b,Rel none b))(hK:∀v fz nw,(I0 P o.op=false->fz=[]/\∀q∈nw,o.dst=some q.1)->(∀i∈fz,g i≠none)->Rel (K v fz nw) (K' v fz nw)):
  Rel (JU C P N call tm f g o K) (JU C P N call tm' f' g' o K'):=by
 have h0:∀v,Rel (K v [] []) (K' v [] []):=fun v=>hK v [] [] (fun _=>⟨rfl,by simp⟩) (by simp);have hf:I0 P o.op=true->∀x∈o.op.operands.toList,RJ Rel f f' (Ch (Cm tm' x)):=fun h x hx i hi=>(hfg h x hx i hi).imp (·.1) fun h=>⟨h.1,h.2.2⟩;have hg:I0 P o.op=true->∀x∈o.op.operands.toList,RJ Rel g g' (Ch (Cm tm' x)):=fun h x hx i hi=>(hfg h x hx i hi).imp (·.2) fun h=>⟨h.2.1,h.2.2⟩;unfold JU;generalize hop:o.op=op at *
 split
 ·exact IH hn (K3 _ (by simp[Op.operands])) h0
 ·exact IH hn (K3 _ (by simp[Op.operands])) h0
 ·rename_i c x y;rw[K3 c (by simp[Op.operands]),K3 x (by simp[Op.operands]),K3 y (by simp[Op.operands])];exact H1 hn fun _=>FE (h0 _) (h0 _)
 ·exact D6 hn fun d hd=>U8 hn fun _=>hK _ _ _ (fun _=>⟨rfl,by simp[hd]⟩) (by simp)
 ·rename_i t x;rw[K3 x (by simp[Op.operands])];refine D6 hn fun d hd=>A5 hn fun _=>?_;cases Vp P t
  ·exact Pp hn fun _=>hK _ _ _ (fun _=>⟨rfl,by simp[hd]⟩) (by simp)
  ·exact Rs hn fun _=>hK _ _ _ (fun _=>⟨rfl,by simp[hd]⟩) (by simp)
 ·rename_i t ps
  have:(ps.toList.map fun q=>(q.1,Cm tm q.2))=ps.toList.map fun q=>(q.1,Cm tm' q.2):=by
   apply List.map_congr_left;intro q hq;rw[K3 q.2 (by simp only[Op.operands];exact List.mem_map_of_mem hq)]
  rw[this];exact A5 hn fun _=>U8 hn fun _=>BO hn fun _=>Pp hn fun _=>h0 _
 ·rename_i t n ps
  have:(ps.toList.map fun q=>(q.1,Cm tm q.2))=ps.toList.map fun q=>(q.1,Cm tm' q.2):=by
   apply List.map_congr_left;intro q hq;rw[K3 q.2 (by simp only[Op.operands];exact List.mem_map_of_mem hq)]
  rw[this];refine D6 hn fun d hd=>?_;split
  ·rename_i e hu;cases DV:Ku P [e]
   ·refine A5 hn fun _=>Yy hn fun z hz=>BO hn fun cs=>DS hn ?_ fun cs'=>hK _ _ _ (fun _=>⟨rfl,by simp[hd]⟩) (by simp);intro c hc es he;obtain⟨l,hl,hc⟩:=List.mem_flatten.1 hc;rw[List.eq_of_mem_replicate hl] at hc;subst he
    have:Ku P [e]=true:=by
     unfold Ku;simp only[List.any_cons,List.any_nil,Bool.or_false,Bool.or_eq_true];exact .inr (List.any_eq_true.2 ⟨_,hc,rfl⟩)
    rw[this] at DV;cases DV
   refine A5 hn fun _=>Yy hn fun z hz=>JB (S:=fun i=>∃x∈(Op.buildSlice t n ps).operands.toList,i∈Ch (Cm tm' x)) hn ?_ ?_ fun cs EV=>?_
   ·intro c hc i hi;obtain⟨l,hl,hc⟩:=List.mem_flatten.1 hc;rw[List.eq_of_mem_replicate hl] at hc;rw[hz c hc] at hi;simp at hi
   ·intro q hq i hi;obtain⟨q',Gz,rfl⟩:=List.mem_map.1 hq;exact⟨q'.2,by simp only[Op.operands];exact List.mem_map_of_mem Gz,Gx hi⟩
   ·refine Vy hn (fun i hi=>?_) fun cs' m hm=>hK _ _ _ (fun h=>by simp[I0,hu,DV] at h) hm;obtain⟨c,hc,hi⟩:=List.mem_flatMap.1 hi;obtain⟨x,hx,hxi⟩:=EV c hc i hi;exact hg (by simp[I0,hu,DV]) x hx i hxi
  ·exact hn
 ·rename_i t x;rw[K3 x (by simp[Op.operands])];exact MH hn (fun i hi=>hfg (by simp[I0]) x (by simp[Op.operands]) i (Lt hi)) h0
 ·rename_i x;rw[K3 x (by simp[Op.operands])];exact BS hn h0
 ·rename_i op' t x y _;rw[K3 x (by simp[Op.operands]),K3 y (by simp[Op.operands])];exact ST hn h0
 ·rename_i op' t x;rw[K3 x (by simp[Op.operands])];exact Amj hn h0
 ·rename_i src dst x;rw[K3 x (by simp[Op.operands])];exact Ach hn (fun hds i hi=>hg (by simp[I0,hds]) x (by simp[Op.operands]) i (Lt hi)) fun v b hb=>D6 hn fun d hd=>hK _ _ _ (fun _=>⟨rfl,fun q hq=>by rw[hd,hb q hq,hd];rfl⟩) (by simp)
 ·rename_i t x y;rw[K3 x (by simp[Op.operands]),K3 y (by simp[Op.operands])];refine D6 hn fun d hd=>?_;split
  ·exact E3 hn fun _ _=>E3 hn fun _ _=>A5 hn fun _=>U8 hn fun _=>hK _ _ _ (fun _=>⟨rfl,by simp[hd]⟩) (by simp)
  ·exact hn
 ·rename_i t x lo hi mx;split
  ·rw[K3 x (by simp[Op.operands])]
   have h1:lo.map (Cm tm)=lo.map (Cm tm'):=by
    cases lo with
    |none=>rfl
    |some y=>simp only[Option.map_some];rw[K3 y (by simp[Op.operands])]
   have h2:hi.map (Cm tm)=hi.map (Cm tm'):=by
    cases hi with
    |none=>rfl
    |some y=>simp only[Option.map_some];rw[K3 y (by simp[Op.operands])]
   rw[h1,h2];exact YK hn (fun ⟨n,e,he⟩ i hi=>hf (by simp[I0,he]) x (by simp[Op.operands]) i (Lt hi)) h0
  ·rename_i m;rw[K3 x (by simp[Op.operands])]
   have h1:lo.map (Cm tm)=lo.map (Cm tm'):=by
    cases lo with
    |none=>rfl
    |some y=>simp only[Option.map_some];rw[K3 y (by simp[Op.operands])]
   have h2:hi.map (Cm tm)=hi.map (Cm tm'):=by
    cases hi with
    |none=>rfl
    |some y=>simp only[Option.map_some];rw[K3 y (by simp[Op.operands])]
   rw[h1,h2,K3 m (by simp[Op.operands])];exact D6 hn fun d hd=>TT hn fun c=>hK _ _ _ (fun _=>⟨rfl,by simp[hd]⟩) (by simp)
 ·rename_i t x fl;rw[K3 x (by simp[Op.operands])];exact D6 hn fun _ _=>A5 hn fun _=>BS hn h0
 ·rename_i t x fl;rw[K3 x (by simp[Op.operands])];exact D6 hn fun _ _=>A5 hn fun _=>Ko hn fun _ _=>Pp hn fun _=>Zc hn h0
 ·rename_i t x i;rw[K3 x (by simp[Op.operands]),K3 i (by simp[Op.operands])];exact E3 hn fun _ _=>JG hn h0
 ·rename_i t x i;rw[K3 x (by simp[Op.operands]),K3 i (by simp[Op.operands])];refine E3 hn fun _ _=>?_;split
  ·exact Gu hn fun _=>A5 hn fun _=>D6 hn fun _ _=>h0 _
  ·exact Ko hn fun _ _=>A5 hn fun _=>Pp hn fun _=>Zc hn h0
  ·exact hn
 ·rename_i t x k ok;rw[K3 x (by simp[Op.operands]),K3 k (by simp[Op.operands])];split
  ·refine A5 hn fun _=>?_;split
   ·exact Gu hn fun _=>D6 hn fun _ _=>ZN hn (fun _ _=>A5 hn fun _=>h0 _) (fun _=>A5 hn fun _=>h0 _)
   ·exact hn
  ·exact hn
 ·rename_i x i;rw[K3 x (by simp[Op.operands])];split
  ·exact D6 hn fun _ _=>h0 _
  ·exact hn
 ·rename_i c
  have Lu:∀x∈c.args.toList,x∈(Op.call c).operands.toList:=by
   intro x hx;simp only[Op.operands,Call.operands,Array.toList_append,Bu];exact .inr hx
  have rc:∀fn,I0 P (.call c)=true->Rel (IF C P N call tm g o c fn K) (IF C P N call tm' g' o c fn K'):=by
   intro fn WH;unfold IF;have:c.args.toList.map (Cm tm)=c.args.toList.map (Cm tm'):=List.map_congr_left fun x hx=>K3 x (Lu x hx);rw[this];refine LY hn (fun i hi=>?_) fun vs m hm=>MZ hn fun rv ro=>Gd hn (A5 hn fun _=>BN hn fun ws bs KM=>A5 hn fun _=>hK _ _ _ (fun h=>by rw[WH] at h;cases h) (fun i hi=>?_))
   ·obtain⟨p,hp,hi⟩:=List.mem_flatMap.1 hi;obtain⟨x,hx,rfl⟩:=List.mem_map.1 hp;exact hg WH x (Lu x hx) i (Gx hi)
   ·have WF:i∈m:=by
     cases hq:Ku P (Pr P o.type)<;>rw[hq] at hi
     ·simp at hi
     ·exact hi
    exact hm i WF
  split
  ·refine Bx hn fun x _ hx=>Bx hn fun _ _ _=>?_;rw[K3 x (Lu x (by rw[hx];simp))]
   exact Aip hn fun _=>h0 _
  ·refine Bx hn fun x _ hx=>Bx hn fun _ _ _=>?_;rw[K3 x (Lu x (by rw[hx];simp))]
   exact Agi hn fun _=>h0 _
  ·refine Bx hn fun x _ hx=>Bx hn fun y _ hy=>Gd hn ?_;subst hy;rw[K3 x (Lu x (by rw[hx];simp)),K3 y (Lu y (by rw[hx];simp))]
   exact Ah1 hn h0
  ·refine Bx hn fun x _ hx=>Bx hn fun y _ hy=>Gd hn ?_;subst hy;rw[K3 x (Lu x (by rw[hx];simp)),K3 y (Lu y (by rw[hx];simp))]
   exact Afe hn h0
  ·rename_i hc;have WH:I0 P (.call c)=true:=by simp[I0,hc]
   refine A5 hn fun _=>D6 hn fun d hd=>Bx hn fun _ _ hb=>Bx hn fun x _ hx=>Gd hn (Bx hn fun _ _ _=>Bx hn fun _ _ _=>?_);have hxm:x∈c.args.toList:=by rw[hb,hx];simp
   rw[K3 x (Lu x hxm)];exact VL hn (fun i hi=>hg WH x (Lu x hxm) i (Lt hi)) fun v nw=>hK _ _ _ (fun h=>by rw[WH] at h;cases h) (by simp)
  ·rename_i fn hc;have WH:I0 P (.call c)=true:=by simp[I0,hc]
   exact rc fn WH
  ·rename_i t hc;have WH:I0 P (.call c)=true:=by simp[I0,hc]
   have ht:=K3 (.tmp t) (by simp[Op.operands,Call.operands,hc]);change tm t=tm' t at ht;rw[ht];exact Alq hn fun fn=>rc fn WH
  ·exact hn
 ·exact hn
variable {hp:Nat->Option Cd}
end
open Go.RowKit
abbrev Uz:=PV × B8 × List (Nat × Cd)
def Ia(ops:Array Oper)(o:Oper)(tm:Nat->PV):Option Bool:=
 match o.guard with
 |none=>some true
 |some (j,want)=>
  match (ops[j]?).bind (·.dst) with
  |none=>none
  |some d=>
   match tm d with
   |.sc (.bool b)=>some (b==want)
   |.sc (.tuple _)=>some false
   |_=>none
section
variable {R:Type}{r:R}{C:H2}{P:Program}{N:Nat}{call:A7}{ops:Array Oper}{o x:Oper}{s:St}{K:St->Option R}
theorem QC:Ek C P N call ops o s K=match Ia ops o s.tm with
  |none=>none
  |some true=>TS C P N call o s K
  |some false=>A6 (Hm N o.dst) (K ⟨B7 s.tm o.dst (.sc undef),s.hp⟩):=by
 unfold Ek Ia;cases o.guard with
 |none=>rfl
 |some q=>
  obtain⟨j,want⟩:=q;cases hd:(ops[j]?).bind (·.dst) with
  |none=>simp[hd]
  |some d=>
   simp only[hd];cases ht:s.tm d with
   |sc v=>
    cases v with
    |bool b=>
     cases b<;>cases want<;>simp only[As,cond_true,cond_false,Zg s.tm ht]<;>rfl
    |_=>rfl
   |_=>rfl
def Adj(C:H2)(P:Program)(N:Nat)(call:A7)(o:Oper)(s:St):Option Uz:=
 JU C P N call s.tm (rd s.hp) (Kq s.hp) o fun v fz nw=>some (v,fz,nw)
theorem An6{K:PV->B8->List (Nat × Cd)->Option R}:JU C P N call s.tm (rd s.hp) (Kq s.hp) o K=(Adj C P N call o s).bind fun q=>K q.1 q.2.1 q.2.2:=by refine GY (Rel:=fun (a:Option R) (b:Option Uz)=>a=b.bind fun q=>K q.1 q.2.1 q.2.2) (K:=K) (K':=fun v fz nw=>some (v,fz,nw)) rfl (fun _ _=>rfl) (fun _ _ _ _ _=>.inl ⟨rfl,rfl⟩) fun v fz nw _ _=>rfl
theorem WW{q:Uz}(h:Adj C P N call o s=some q):(I0 P o.op=false->q.2.1=[]/\∀p∈q.2.2,o.dst=some p.1)/\∀i∈q.2.1,Kq s.hp i≠none:=by
 have:=GY (C:=C) (P:=P) (N:=N) (call:=call) (o:=o) (tm:=s.tm) (tm':=s.tm) (f:=rd s.hp) (f':=rd s.hp) (g:=Kq s.hp) (g':=Kq s.hp)
  (Rel:=fun (a:Option Uz)(_:Option Uz)=>∀q,a=some q->(I0 P o.op=false->q.2.1=[]/\∀p∈q.2.2,o.dst=some p.1)/\∀i∈q.2.1,Kq s.hp i≠none)
  (K:=fun v fz nw=>some (v,fz,nw)) (K':=fun v fz nw=>some (v,fz,nw)) (fun _ h=>by cases h) (fun _ _=>rfl) (fun _ _ _ _ _=>.inl ⟨rfl,rfl⟩) (fun v fz nw h1 h2 q hq=>by cases hq;exact⟨h1,h2⟩)
 exact this q h
def gE(C:H2)(P:Program)(N:Nat)(call:A7)(ops:Array Oper)(o:Oper)(s:St):Option Uz:=
 match Ia ops o s.tm with
 |none=>none
 |some true=>bif So C P o.op then none else Adj C P N call o s
 |some false=>some (.sc undef,[],[])
def H3(C:H2)(P:Program)(ops:Array Oper)(o:Oper)(tm:Nat->PV):Bool:=So C P o.op&&(Ia ops o tm==some true)
theorem Lo(h:H3 C P ops o s.tm=false):Ek C P N call ops o s K=(gE C P N call ops o s).bind fun q=>CV N s o.dst q.1 q.2.1 q.2.2 K:=by
 rw[QC];unfold gE;unfold H3 at h;cases hv:Ia ops o s.tm with
 |none=>rfl
 |some b=>
  rw[hv] at h;cases b with
  |false=>
   show A6 _ _=CV N s o.dst (.sc undef) [] [] K;unfold CV;have h1:Cf s.hp []=true:=rfl;have h2:Ax (Aj s.hp []) []=s.hp:=rfl;rw[h1,h2,Zzn]
  |true=>
   have hm:So C P o.op=false:=by simpa using h
   simp only[TS,hm,cond_false];exact An6
theorem Jx(h:H3 C P ops o s.tm=true):Ek C P N call ops o s K=Wp C P N call s o K:=by rw[QC];unfold H3 at h;simp only[Fb,beq_iff_eq] at h;rw[h.2];simp only[TS,h.1,cond_true]
theorem Vh{q:Uz}(h:gE C P N call ops o s=some q):(I0 P o.op=false->q.2.1=[]/\∀p∈q.2.2,o.dst=some p.1)/\∀i∈q.2.1,Kq s.hp i≠none:=by
 unfold gE at h;split at h
 ·cases h
 ·cases hm:So C P o.op<;>rw[hm] at h
  ·exact WW h
  ·cases h
 ·cases h;exact⟨fun _=>⟨rfl,by simp⟩,by simp⟩
theorem Gm{tm tm':Nat->PV}(h:∀t∈looks ops o,tm t=tm' t):∀y∈o.op.operands.toList,Cm tm y=Cm tm' y:=by
 intro y hy;cases y with
 |tmp t=>
  refine h t ?_;unfold looks Agn;refine Bu.2 (.inl (List.mem_filterMap.2 ⟨.tmp t,hy,rfl⟩))
 |const v=>cases v<;>rfl
 |func f=>rfl
 |«global» g=>rfl
theorem Lx{tm tm':Nat->PV}(h:∀t∈looks ops o,tm t=tm' t):Ia ops o tm=Ia ops o tm':=by
 unfold Ia;cases hg:o.guard with
 |none=>rfl
 |some q=>
  obtain⟨j,want⟩:=q;cases hd:(ops[j]?).bind (·.dst) with
  |none=>simp[hd]
  |some d=>
   have:tm d=tm' d:=h d (by
    unfold looks;rw[hg];refine Bu.2 (.inr ?_);simp only[hd];simp)
   simp only[hd,this]
theorem Zu{s':St}{q:Uz}(ht:∀t∈looks ops o,s.tm t=s'.tm t)(hm:I0 P o.op=true->∀y∈o.op.operands.toList,∀i∈Ch (Cm s'.tm y),(rd s.hp i=rd s'.hp i/\Kq s.hp i=Kq s'.hp i)\/(rd s.hp i=none/\Kq s.hp i=none))(h:gE C P N call ops o s=some q):gE C P N call ops o s'=some q:=by
 unfold gE at h ⊢;rw[<-Lx ht];split at h
 ·cases h
 ·cases hM:So C P o.op<;>rw[hM] at h
  ·have:=GY (C:=C) (P:=P) (N:=N) (call:=call) (o:=o) (tm:=s.tm) (tm':=s'.tm) (f:=rd s.hp) (f':=rd s'.hp) (g:=Kq s.hp) (g':=Kq s'.hp)
    (Rel:=fun (a b:Option Uz)=>a=some q->b=some q)
    (K:=fun v fz nw=>some (v,fz,nw)) (K':=fun v fz nw=>some (v,fz,nw)) (fun h=>h) (Gm ht)
    (fun Jw y hy i hi=>(hm Jw y hy i hi).imp id fun h=>⟨h.1,h.2,fun _ h=>by cases h⟩) (fun v fz nw _ _ h=>h)
   exact this h
  ·cases h
 ·exact h
end
open Go.RowKit
theorem Sg:∀{nw:List (Nat × Cd)} {hp Dn:Nat->Option Cd},Cf hp nw=true->(∀i b,(i,b)∈nw->Dn i=none)->Cf Dn nw=true
 |[],_,_,_,_=>rfl
 |(i,b)::nw,hp,Dn,h,h'=>by
  simp only[Cf,Fb,Option.isNone_iff_eq_none] at h ⊢;exact⟨⟨h' i b (by simp),h.1.2⟩,Sg h.2 fun j c hj=>h' j c (by simp[hj])⟩
section
variable {hp:Nat->Option Cd}{fz:B8}{nw:List (Nat × Cd)}
theorem Hc(ha:Cf hp nw=true){i:Nat}(hi:hp i≠none):Ax (Aj hp fz) nw i=if i∈fz then (hp i).map Vn else hp i:=by obtain⟨h1,h2⟩:=B2 ha;rw[(Fh h2).2 i (fun bx hb=>hi (h1 i bx hb)),Ci]
theorem J5(ha:Cf hp nw=true){i:Nat}{b:Cd}(hi:(i,b)∈nw):Ax (Aj hp fz) nw i=some b:=
 (Fh (B2 ha).2).1 i b hi
theorem Pk(ha:Cf hp nw=true){i:Nat}(hi:hp i=none)(hn:∀b,(i,b) ∉ nw):Ax (Aj hp fz) nw i=none:=by rw[(Fh (B2 ha).2).2 i hn,Ci,hi];simp
theorem Pj(ha:Cf hp nw=true){i:Nat}(hi:hp i≠none):Ax (Aj hp fz) nw i≠none:=by
 rw[Hc ha hi];cases h:hp i with
 |none=>exact absurd h hi
 |some b=>split<;>simp
theorem Alh(b:Option Cd):(match b.map Vn with|some (.st c)=>some c|some (.ar _ c)=>some c|_=>none)=(match b with|some (.st c)=>some c|some (.ar _ c)=>some c|_=>none):=by
 cases b with
 |none=>rfl
 |some b=>cases b<;>rfl
theorem Aja(b:Option Cd):(match b.map Vn with|some (.ar _ c)=>some c|_=>none)=(match b with|some (.ar _ c)=>some c|_=>none):=by
 cases b with
 |none=>rfl
 |some b=>cases b<;>rfl
theorem UB(ha:Cf hp nw=true){i:Nat}(hi:hp i≠none):rd (Ax (Aj hp fz) nw) i=rd hp i:=by
 unfold rd;rw[Hc ha hi];by_cases h:i∈fz
 ·rw[Bq h];exact Alh _
 ·rw[Bg h]
theorem LP(ha:Cf hp nw=true){i:Nat}(hi:hp i≠none):Kq (Ax (Aj hp fz) nw) i=Kq hp i:=by
 unfold Kq;rw[Hc ha hi];by_cases h:i∈fz
 ·rw[Bq h];exact Aja _
 ·rw[Bg h]
theorem Aae{i:Nat}(hi:hp i=none):rd hp i=none:=by unfold rd;rw[hi]
theorem Mf{i:Nat}(hi:hp i=none):Kq hp i=none:=by unfold Kq;rw[hi]
theorem Axo(b:Option Cd):(b.map Vn).map Vn=b.map Vn:=by
 cases b with
 |none=>rfl
 |some b=>cases b<;>rfl
theorem WQ{fx fo:B8}{nx no:List (Nat × Cd)}(hx:Cf hp nx=true)(ho:Cf (Ax (Aj hp fx) nx) no=true)(OY:Cf hp no=true)(Vq:Cf (Ax (Aj hp fo) no) nx=true)(h1:∀i∈fx,hp i≠none)(h2:∀i∈fo,hp i≠none):
  Ax (Aj (Ax (Aj hp fx) nx) fo) no=Ax (Aj (Ax (Aj hp fo) no) fx) nx:=by
 funext i
 by_cases hi:hp i=none
 ·by_cases PC:∃b,(i,b)∈no
  ·obtain⟨b,hb⟩:=PC
   have hnx:∀b',(i,b') ∉ nx:=fun b' Jf=>by
    have:=(B2 ho).1 i b hb;rw[J5 hx Jf] at this;cases this
   rw[J5 ho hb,Hc Vq (by rw[J5 OY hb];simp),J5 OY hb,Bg (fun h=>h1 i h hi)]
  ·have PC:∀b,(i,b) ∉ no:=fun b hb=>PC ⟨b,hb⟩;by_cases hnx:∃b,(i,b)∈nx
   ·obtain⟨b,hb⟩:=hnx;rw[J5 Vq hb,Hc ho (by rw[J5 hx hb];simp),J5 hx hb,Bg (fun h=>h2 i h hi)]
   ·have hnx:∀b,(i,b) ∉ nx:=fun b hb=>hnx ⟨b,hb⟩;rw[Pk ho (Pk hx hi hnx) PC,Pk Vq (Pk OY hi PC) hnx]
 ·rw[Hc ho (Pj hx hi),Hc hx hi,Hc Vq (Pj OY hi),Hc OY hi];split<;>split<;>first|rfl|rw[Axo]
end
section
variable {R:Type}{r:R}{C:H2}{P:Program}{N:Nat}{call:A7}{ops:Array Oper}{o x:Oper}{s:St}{K:St->Option R}
structure Zf(C:H2)(P:Program)(ops:Array Oper)(x o:Oper):Prop where
 xo:∀d,x.dst=some d->d ∉ looks ops o
 ne:∀d,x.dst=some d->o.dst≠some d
 ox:∀d,o.dst=some d->d ∉ looks ops x
 mx:So C P x.op=true->I0 P o.op=false
 mo:So C P o.op=true->I0 P x.op=false
theorem Sv{l:B8}{d:Nat}(h:l.any (Nat.beq d)=false):d ∉ l:=by intro hm;have:l.any (Nat.beq d)=true:=List.any_eq_true.2 ⟨d,hm,Pz d⟩;rw[this] at h;cases h
theorem Aif(h:IZ C P ops x o=false):Zf C P ops x o:=by
 unfold IZ at h;simp only[Bool.or_eq_false_iff,Bool.and_eq_false_iff] at h;obtain⟨⟨⟨h1,h2⟩,h3⟩,h4⟩:=h;refine⟨fun d hd=>?_,fun d hd he=>?_,fun d hd=>?_,fun hm=>?_,fun hm=>?_⟩
 ·simp only[hd,Bool.or_eq_false_iff] at h1;exact Sv h1.1
 ·simp only[hd,he,Bool.or_eq_false_iff] at h1;rw[Pz] at h1;cases h1.2
 ·simp only[hd] at h2;exact Sv h2
 ·rw[hm] at h3;rcases h3 with h|h
  ·cases h
  ·exact h
 ·rw[hm] at h4;rcases h4 with h|h
  ·cases h
  ·exact h
theorem Fs{tm:Nat->PV}{d:Option Tmp}{v:PV}{l:B8}(h:∀i,d=some i->i ∉ l):∀t∈l,B7 tm d v t=tm t:=by
 intro t ht;cases d with
 |none=>rfl
 |some d=>exact Ap _ _ (by rintro rfl;exact h _ rfl ht)
theorem Lk{tm:Nat->PV}{d e:Option Tmp}{u v:PV}(h:∀i,d=some i->e≠some i):B7 (B7 tm d u) e v=B7 (B7 tm e v) d u:=by
 cases d with
 |none=>rfl
 |some d=>
  cases e with
  |none=>rfl
  |some e=>exact SI _ _ _ (by rintro rfl;exact h _ rfl rfl)
def WG(C:H2)(P:Program)(o:Oper)(s:St):Prop:=(∀y∈o.op.operands.toList,∀i∈Ch (Cm s.tm y),s.hp i≠none) /\
 (So C P o.op=true->Om o.op=false->∀y∈o.op.operands.toList,∀i∈Ch (Cm s.tm y),∀c,s.hp i=some (.st c)->∀p∈c,∀k∈Aw p,s.hp k≠none)
theorem Ii{tm tm':Nat->PV}(h:∀t∈looks ops o,tm t=tm' t):H3 C P ops o tm=H3 C P ops o tm':=by unfold H3;rw[Lx h]
theorem Abf(hw:WG C P o s)(xo:∀d,x.dst=some d->d ∉ looks ops o)(ne:∀d,x.dst=some d->o.dst≠some d)(ox:∀d,o.dst=some d->d ∉ looks ops x)(hx:H3 C P ops x s.tm=false)(ho:H3 C P ops o s.tm=false)(h:Ek C P N call ops x s (fun s1=>Ek C P N call ops o s1 K)=some r):Ek C P N call ops o s (fun s1=>Ek C P N call ops x s1 K)=some r:=by
 rw[Lo hx] at h;cases ex:gE C P N call ops x s with
 |none=>rw[ex] at h;cases h
 |some q=>
 obtain⟨vx,fx,nx⟩:=q;rw[ex] at h;obtain⟨hb,h1⟩:=Aq h;simp only[Fb] at hb;have t1:∀t∈looks ops o,B7 s.tm x.dst vx t=s.tm t:=Fs xo;change Ek C P N call ops o ⟨B7 s.tm x.dst vx,Ax (Aj s.hp fx) nx⟩ K=some r at h1;rw[Lo (by rw[Ii t1];exact ho)] at h1
 cases eo:gE C P N call ops o ⟨B7 s.tm x.dst vx,Ax (Aj s.hp fx) nx⟩ with
 |none=>rw[eo] at h1;cases h1
 |some q=>
 obtain⟨vo,fo,no⟩:=q;rw[eo] at h1;obtain⟨hc,h2⟩:=Aq h1;change K ⟨B7 (B7 s.tm x.dst vx) o.dst vo,Ax (Aj (Ax (Aj s.hp fx) nx) fo) no⟩=some r at h2;simp only[Fb] at hc
 have eo':gE C P N call ops o s=some (vo,fo,no):=by
  refine Zu t1 (fun _ y hy i hi=>?_) eo;have:=hw.1 y hy i hi;exact .inl ⟨UB hb.2 this,LP hb.2 this⟩
 have OY:Cf s.hp no=true:=Sg hc.2 fun i b hi=>by
  cases hs:s.hp i with
  |none=>rfl
  |some c=>exact absurd ((B2 hc.2).1 i b hi) (Pj hb.2 (by rw[hs];simp))
 rw[Lo ho,eo']
 have Vq:Cf (Ax (Aj s.hp fo) no) nx=true:=Sg hb.2 fun i b hi=>by
  refine Pk OY ((B2 hb.2).1 i b hi) fun c Tf=>?_;have:=(B2 hc.2).1 i c Tf;rw[J5 hb.2 hi] at this;cases this
 have t2:∀t∈looks ops x,s.tm t=B7 s.tm o.dst vo t:=fun t ht=>(Fs ox t ht).symm
 have ex':gE C P N call ops x ⟨B7 s.tm o.dst vo,Ax (Aj s.hp fo) no⟩=some (vx,fx,nx):=by
  refine Zu t2 (fun _ y hy i hi=>?_) ex;by_cases hs:s.hp i=none
  ·exact .inr ⟨Aae hs,Mf hs⟩
  ·exact .inl ⟨(UB OY hs).symm,(LP OY hs).symm⟩
 show A6 _ _=_;rw[hc.1,OY];show Ek C P N call ops x ⟨B7 s.tm o.dst vo,Ax (Aj s.hp fo) no⟩ K=some r;rw[Lo (by rw[<-Ii t2];exact hx),ex']
 show A6 _ _=_;rw[hb.1,Vq];rw[<-h2];have hfx:∀i∈fx,s.hp i≠none:=fun i hi hs=>(Vh ex).2 i hi (Mf hs);have hfo:∀i∈fo,s.hp i≠none:=fun i hi hs=>(Vh eo').2 i hi (Mf hs);show K ⟨B7 (B7 s.tm o.dst vo) x.dst vx,Ax (Aj (Ax (Aj s.hp fo) no) fx) nx⟩=K _;rw[Lk ne,WQ hb.2 hc.2 OY Vq hfx hfo]
end
open Go.RowKit
theorem Zr{C:H2}{P:Program}{o:Op}(h:So C P o=true):I0 P o=true:=by
 unfold So at h;split at h
 ·rfl
 ·rename_i c;unfold I0;simp only;split at h<;>rename_i hc
  ·rw[hc]
  ·rw[hc]
  ·cases h
  ·rw[hc]
  ·cases h
 ·cases h
structure KR(N:Nat)(S:Nat->Prop)(dst:Option Nat)(hp Da Dn Gj:Nat->Option Cd):Prop where
 keep:∀i,hp i≠none->Dn i≠none
 off:∀i,i<N->dst≠some i->(¬S i\/hp i=none)->Dn i=hp i/\Gj i=Da i
 same:∀i,hp i=Da i->Dn i=Gj i
 far:∀i,¬S i->hp i≠none->Dn i=hp i
section
variable {R R':Type}{Rel:Option R->Option R'->Prop}{P:Program}{N:Nat}{tm tm':Nat->PV}{hp Da:Nat->Option Cd}{f f':Nat->Option Al}{o:Oper}
theorem LK(hn:Rel none none){t:CT}{p:PV}{K:PV->B8->Option R}{K':PV->B8->Option R'}(hf:RJ Rel f f' (Aw p))(hK:∀c m,(∀i∈m,f i≠none/\i∈Aw p)->Rel (K c m) (K' c m)):Rel (P5 f t p K) (P5 f' t p K'):=by
 unfold P5;split
 ·split
  ·rename_i id es' off n;cases Nat.beq es' _
   ·exact hn
   ·exact Z4 hn hf (by simp[Aw]) fun c hc=>A5 hn fun _=>hK _ _ (by simp[hc,Aw])
  ·exact Gs hn fun _ _ _=>hK _ _ (by simp)
 ·exact Qj hn fun _=>hK _ _ (by simp)
theorem GF(hn:Rel none none):∀{ts:List CT}{ps:Al}{K:Al->B8->Option R}{K':Al->B8->Option R'},RJ Rel f f' (ps.flatMap Aw)->(∀c m,(∀i∈m,f i≠none/\i∈ps.flatMap Aw)->Rel (K c m) (K' c m))->Rel (Pn f ts ps K) (Pn f' ts ps K')
 |[],[],_,_,_,hK=>hK _ _ (by simp)
 |[],_::_,_,_,_,_=>hn
 |_::_,[],_,_,_,_=>hn
 |_::_,p::ps,_,_,hf,hK=>LK hn (fun i hi=>hf i (by simp only[Kg,Bu];exact .inl hi)) fun _ m hm=>GF hn (fun i hi=>hf i (by simp only[Kg,Bu];exact .inr hi)) fun _ ms GE=>hK _ _ fun i hi=>by
   simp only[Kg,Bu];rcases Bu.1 hi with h|h
   ·exact⟨(hm i h).1,.inl (hm i h).2⟩
   ·exact⟨(GE i h).1,.inr (GE i h).2⟩
theorem V0{S:Nat->Prop}{dst:Option Nat}{id:Nat}{b:Cd}{h0 h1:Nat->Option Cd}(hS:S id)(B1:hp id≠none)(h:KR N S dst hp Da h0 h1):KR N S dst hp Da (Di h0 id (some b)) (Di h1 id (some b)):=by
 refine⟨fun i hi=>?_,fun i hN hd hi=>?_,fun i hi=>?_,fun i hn hi=>?_⟩
 ·by_cases e:i=id
  ·subst e;rw[At];simp
  ·rw[Ap _ _ e];exact h.keep i hi
 ·have e:i≠id:=by
   rintro rfl
   rcases hi with hi|hi
   ·exact hi hS
   ·exact B1 hi
  rw[Ap _ _ e,Ap _ _ e];exact h.off i hN hd hi
 ·by_cases e:i=id
  ·subst e;rw[At,At]
  ·rw[Ap _ _ e,Ap _ _ e];exact h.same i hi
 ·rw[Ap _ _ (by rintro rfl;exact hn hS)];exact h.far i hn hi
theorem OP{S:Nat->Prop}{d:Nat}{b:Cd}{h0 h1:Nat->Option Cd}(hz:hp d=none)(h:KR N S (some d) hp Da h0 h1):KR N S (some d) hp Da (Di h0 d (some b)) (Di h1 d (some b)):=by
 refine⟨fun i hi=>?_,fun i hN hd hi=>?_,fun i hi=>?_,fun i hn hi=>?_⟩
 ·by_cases e:i=d
  ·subst e;rw[At];simp
  ·rw[Ap _ _ e];exact h.keep i hi
 ·have e:i≠d:=by rintro rfl;exact hd rfl
  rw[Ap _ _ e,Ap _ _ e];exact h.off i hN hd hi
 ·by_cases e:i=d
  ·subst e;rw[At,At]
  ·rw[Ap _ _ e,Ap _ _ e];exact h.same i hi
 ·rw[Ap _ _ (by rintro rfl;exact hi hz)];exact h.far i hn hi
theorem Vt(S:Nat->Prop)(dst:Option Nat):KR N S dst hp Da hp Da:=⟨fun _ h=>h,fun _ _ _ _=>⟨rfl,rfl⟩,fun _ h=>h,fun _ _ _=>rfl⟩
theorem WL{S:Nat->Prop}{dst:Option Nat}{m:B8}(hm:∀i∈m,hp i≠none/\S i):KR N S dst hp Da (Aj hp m) (Aj Da m):=by
 refine⟨fun i hi=>fun h=>hi (E2.1 h),fun i hN hd hi=>?_,fun i hi=>?_,fun i hn hi=>?_⟩
 ·have e:i ∉ m:=by
   intro h;rcases hi with hi|hi
   ·exact hi (hm i h).2
   ·exact (hm i h).1 hi
  rw[Ci,Ci,Bg e,Bg e];exact⟨rfl,rfl⟩
 ·rw[Ci,Ci,hi]
 ·rw[Ci,Bg (fun h=>hn (hm i h).2)]
theorem PZ{S:Nat->Prop}(h:∀i,S i->hp i=Da i\/(hp i=none/\∀b,Rel none b)){l:B8}(hl:∀i∈l,S i):RJ Rel (Kq hp) (Kq Da) l:=by
 intro i hi;rcases h i (hl i hi) with h|⟨h,h'⟩
 ·left;unfold Kq;rw[h]
 ·exact .inr ⟨Mf h,h'⟩
theorem TI(hn:Rel none none){t:TypeId}{a x:PV}{K:St->Option R}{K':St->Option R'}{S:Nat->Prop}(hS:∀i,S i->hp i=Da i\/(hp i=none/\∀b,Rel none b))(ha:∀i∈Aw a,S i)(hx:∀i∈C5 x,S i)(hK:∀Dn Gj,KR N S none hp Da Dn Gj->Rel (K ⟨tm,Dn⟩) (K' ⟨tm',Gj⟩)):Rel (BX P ⟨tm,hp⟩ t a x K) (BX P ⟨tm',Da⟩ t a x K'):=by
 unfold BX;split
 ·rename_i id off;show Rel (match hp id with|some (.st c)=>_|some (.ar false c)=>_|_=>none) (match Da id with|some (.st c)=>_|some (.ar false c)=>_|_=>none);have B1:S id:=ha id (by simp[Aw]);rcases hS id B1 with h|⟨h,hb⟩
  ·rw[<-h];split
   ·rename_i c hc;exact A5 hn fun _=>Pp hn fun _=>hK _ _ (V0 B1 (by rw[hc];simp) (Vt _ _))
   ·rename_i c hc;refine A5 hn fun _=>GF hn (PZ hS fun i hi=>hx i ?_) fun _ m hm=>A5 hn fun _=>hK _ _ (V0 B1 (by rw[hc];simp) (WL fun i hi=>⟨fun h=>(hm i hi).1 (Mf h),hx i ?_⟩))
    ·obtain⟨c,hc,hi⟩:=List.mem_flatMap.1 hi;exact Vl hc hi
    ·obtain⟨c,hc,hi⟩:=List.mem_flatMap.1 (hm i hi).2;exact Vl hc hi
   ·exact hn
  ·rw[h];exact hb _
 ·exact hn
theorem CN(hn:Rel none none){es:Nat}{t:TypeId}{x:PV}{K:Nat->Al->Option R}{K':Nat->Al->Option R'}{S:Nat->Prop}(hS:∀i,S i->hp i=Da i\/(hp i=none/\∀b,Rel none b))(hx:∀i∈C5 x,S i)(hK:∀m c,Rel (K m c) (K' m c)):Rel (XL P ⟨tm,hp⟩ es t x K) (XL P ⟨tm',Da⟩ es t x K'):=by
 unfold XL XN;split
 ·exact A5 hn fun _=>Gu hn fun _=>hK _ _
 ·exact Sa hn (PZ hS fun i hi=>hx i (Uy hi)) hK
 ·exact hn
theorem Yw(hn:Rel none none){d:Nat}{t tx:TypeId}{b x:PV}{K:St->Option R}{K':St->Option R'}{S:Nat->Prop}(hS:∀i,S i->hp i=Da i\/(hp i=none/\∀b,Rel none b))(LT:hp d=Da d)(hb:∀i∈C5 b,S i)(hx:∀i∈C5 x,S i)(hK:∀v Dn Gj,(∀M,KR M S (some d) hp Da Dn Gj)->Rel (K ⟨Di tm d v,Dn⟩) (K' ⟨Di tm' d v,Gj⟩)):Rel (Qm P N ⟨tm,hp⟩ d t tx b x K) (Qm P N ⟨tm',Da⟩ d t tx b x K'):=by
 unfold Qm;split
 ·refine A5 hn fun _=>?_;cases Z9 P tx
  rotate_left
  ·show Rel (Uh P N ⟨tm,hp⟩ d _ b x K) (Uh P N ⟨tm',Da⟩ d _ b x K');refine E3 hn fun _ n=>Gs hn fun z _ _=>?_;show Rel (A6 (z&&Nat.blt d N&&(hp d).isNone&&_&&_&&_) _) (A6 (z&&Nat.blt d N&&(Da d).isNone&&_&&_&&_) _);rw[<-LT];exact A5 hn fun hb=>hK _ _ _ (fun M=>OP (by simp only[Fb,Option.isNone_iff_eq_none] at hb;simp only[hb]) (Vt _ _))
  rw[cond_false,cond_false];refine CN hn hS hx fun m new=>?_;split
  ·rename_i id es off n;show Rel (match hp id with|some (.ar false c)=>A6 (Nat.beq es _&&Nat.beq off 0&&Nat.blt d N&&(hp d).isNone&&_&&_&&_&&_) _|_=>none) (match Da id with|some (.ar false c)=>A6 (Nat.beq es _&&Nat.beq off 0&&Nat.blt d N&&(Da d).isNone&&_&&_&&_&&_) _|_=>none);have B1:S id:=hb id (by simp[C5,Aw]);rw[<-LT];rcases hS id B1 with h|⟨h,hbb⟩
   ·rw[<-h];split
    ·rename_i c hc;exact A5 hn fun hb=>hK _ _ _ (fun M=>OP (by simp only[Fb,Option.isNone_iff_eq_none] at hb;simp only[hb]) (V0 B1 (by rw[hc];simp) (Vt _ _)))
    ·exact hn
   ·rw[h];exact hbb _
  ·refine Gs hn fun z _ _=>?_;show Rel (A6 (z&&Nat.blt d N&&(hp d).isNone&&_&&_&&_) _) (A6 (z&&Nat.blt d N&&(Da d).isNone&&_&&_&&_) _);rw[<-LT];exact A5 hn fun hb=>hK _ _ _ (fun M=>OP (by simp only[Fb,Option.isNone_iff_eq_none] at hb;simp only[hb]) (Vt _ _))
 ·exact hn
theorem WP(hn:Rel none none){d:Option Tmp}{t tx:TypeId}{b x:PV}{K:St->Option R}{K':St->Option R'}{S:Nat->Prop}(hS:∀i,S i->hp i=Da i\/(hp i=none/\∀b,Rel none b))(hb:∀i∈C5 b,S i)(hx:∀i∈C5 x,S i)(hK:∀v Dn Gj,KR N S d hp Da Dn Gj->Rel (K ⟨B7 tm d v,Dn⟩) (K' ⟨B7 tm' d v,Gj⟩)):Rel (LI P N ⟨tm,hp⟩ d t tx b x K) (LI P N ⟨tm',Da⟩ d t tx b x K'):=by
 unfold LI;split
 ·refine A5 hn fun _=>?_;refine CN hn hS hx fun m new=>?_;split
  ·rename_i id es off n;show Rel (match hp id with|some (.ar false c)=>A6 (Nat.beq es _&&_&&_) _|_=>none) (match Da id with|some (.ar false c)=>A6 (Nat.beq es _&&_&&_) _|_=>none);have B1:S id:=hb id (by simp[C5,Aw]);rcases hS id B1 with h|⟨h,hbb⟩
   ·rw[<-h];split
    ·rename_i c hc;exact A5 hn fun _=>hK _ _ _ (V0 B1 (by rw[hc];simp) (Vt _ _))
    ·exact hn
   ·rw[h];exact hbb _
  ·exact hn
 ·exact hn
def Aoq(o:Oper)(tm:Nat->PV)(i:Nat):Prop:=∃x∈o.op.operands.toList,i∈Ch (Cm tm x)
def Yh(o:Oper)(tm:Nat->PV)(hp:Nat->Option Cd)(i:Nat):Prop:=Aoq o tm i\/Om o.op=false/\∃id c,Aoq o tm id/\hp id=some (.st c)/\∃p∈c,i∈Aw p
theorem Adl(hn:Rel none none){mv:Bool}{t:CT}{p:PV}{K:PV->B8->B8->Option R}{K':PV->B8->B8->Option R'}{S:Nat->Prop}(hS:∀i,S i->hp i=Da i\/(hp i=none/\∀b,Rel none b))(hp_:∀i∈Aw p,S i)(hK:∀c m x,(∀i∈m++x,hp i≠none/\S i)->Rel (K c m x) (K' c m x)):Rel (Ac8 mv hp t p K) (Ac8 mv Da t p K'):=by
 have frz:∀{t:CT} {p:PV},(∀i∈Aw p,S i)->Rel (P5 (Kq hp) t p fun c m=>K c m []) (P5 (Kq Da) t p fun c m=>K' c m []):=fun h=>LK hn (PZ hS h) fun c m hm=>hK _ _ _ fun i hi=>by
  rw[List.append_nil] at hi;exact⟨fun e=>(hm i hi).1 (Mf e),h i (hm i hi).2⟩
 unfold Ac8;split
 ·rename_i es;cases mv<;>simp only[cond_true,cond_false]
  ·exact frz hp_
  ·split
   ·rename_i id es' off n;rcases hS id (hp_ id (by simp[Aw])) with h|⟨h,hb⟩
    ·rw[<-h];split
     ·rename_i c hc;cases (Nat.beq es' es&&Nat.beq off 0)<;>simp only[cond_true,cond_false]
      ·exact frz hp_
      ·exact A5 hn fun _=>hK _ _ _ fun i hi=>by
        simp only[Zzq,P7] at hi;subst hi;exact⟨by rw[hc];simp,hp_ i (by simp[Aw])⟩
     ·exact frz hp_
    ·rw[h]
     have:(P5 (Kq hp) (.sl es) (.view id es' off n) fun c m=>K c m [])=none:=by
      unfold P5;simp only;cases Nat.beq es' es
      ·rfl
      ·simp only[cond_true,Mf h,Dk]
     show Rel (P5 (Kq hp) (.sl es) (.view id es' off n) fun c m=>K c m []) _;rw[this];exact hb _
   ·refine Gs hn fun z n c=>?_;cases z
    ·exact hK _ _ _ (by simp)
    ·exact hK _ _ _ (by simp)
 ·exact Qj hn fun _=>hK _ _ _ (by simp)
theorem Tj(hn:Rel none none){mv:Bool}{S:Nat->Prop}(hS:∀i,S i->hp i=Da i\/(hp i=none/\∀b,Rel none b)):∀{ts:List CT}{ps:Al}{K:Al->B8->B8->Option R}{K':Al->B8->B8->Option R'},(∀p∈ps,∀i∈Aw p,S i) ->
  (∀c m x,(∀i∈m++x,hp i≠none/\S i)->Rel (K c m x) (K' c m x))->Rel (DW mv hp ts ps K) (DW mv Da ts ps K')
 |[],[],_,_,_,hK=>hK _ _ _ (by simp)
 |[],_::_,_,_,_,_=>hn
 |_::_,[],_,_,_,_=>hn
 |_::_,p::ps,_,_,hp_,hK=>Adl hn hS (hp_ p (by simp)) fun _ m x hm=>Tj hn hS (fun q hq=>hp_ q (by simp[hq])) fun _ ms xs GE=>hK _ _ _ fun i hi=>by
   simp only[Bu] at hi hm GE;rcases hi with (hi|hi)|(hi|hi)
   ·exact hm i (.inl hi)
   ·exact GE i (.inl hi)
   ·exact hm i (.inr hi)
   ·exact GE i (.inr hi)
theorem UH(hn:Rel none none){C:H2}{f:FuncId}{i:Nat}{t:TypeId}{p:PV}{K:PV->B8->B8->List H0->Option R}{K':PV->B8->B8->List H0->Option R'}{S:Nat->Prop}(hS:∀i,S i->hp i=Da i\/(hp i=none/\∀b,Rel none b))(hp_:∀i∈Ch p,S i)(hc:∀i∈Ch p,∀c,Da i=some (.st c)->∀q∈c,∀k∈Aw q,S k)(hK:∀v m x l,(∀i∈m++x++l.flatMap H0.ids,hp i≠none/\S i)->Rel (K v m x l) (K' v m x l)):Rel (AW C P f hp i t p K) (AW C P f Da i t p K'):=by
 unfold AW;split
 ·split
  ·rename_i id off;have B1:S id:=hp_ id (by simp[Ch,C5,Aw]);rcases hS id B1 with h|⟨h,hb⟩
   ·rw[h];split
    ·rename_i c KI;refine A5 hn fun _=>Tj hn hS (fun q hq k hk=>hc id (by simp[Ch,C5,Aw]) c KI q (List.mem_of_mem_drop (List.mem_of_mem_take hq)) k hk) fun cs m x hm=>hK _ _ _ _ fun k hk=>?_;rcases Bu.1 hk with hk|hk
     ·exact hm k hk
     ·simp only[Kg,List.flatMap_nil,H0.ids,List.append_nil,P7] at hk;subst hk;exact⟨by rw[h,KI];simp,B1⟩
    ·exact hn
   ·rw[h];exact hb _
  ·exact hn
 ·cases C.lnd f i
  ·cases Cp P t
   ·exact Tj hn hS (fun q hq k hk=>by
     simp at hq;subst hq;exact hp_ k (Lt hk)) fun cs m x hm=>Bx hn fun _ _ _=>Gd hn (hK _ _ _ _ (by simpa using hm))
   ·refine Ko hn fun cs EV=>Tj hn hS (fun q hq k hk=>hp_ k ?_) fun cs m x hm=>hK _ _ _ _ (by simpa using hm);subst EV;exact List.mem_flatMap.2 ⟨q,hq,hk⟩
  ·refine D6 hn fun e he=>?_;unfold Afl;split
   ·rename_i id es' off n;have B1:S id:=hp_ id (by simp[Ch,C5,Aw]);rcases hS id B1 with h|⟨h,hb⟩
    ·rw[h];split
     ·rename_i c KI;refine A5 hn fun _=>hK _ _ _ _ fun k hk=>?_;simp only[Zzq,Kg,List.flatMap_nil,H0.ids,List.append_nil,P7] at hk;subst hk;exact⟨by rw[h,KI];simp,B1⟩
     ·exact hn
    ·rw[h];exact hb _
   ·exact Gs hn fun _ _ _=>A5 hn fun _=>hK _ _ _ _ (by simp[H0.ids])
theorem JM(hn:Rel none none){C:H2}{f:FuncId}{S:Nat->Prop}(hS:∀i,S i->hp i=Da i\/(hp i=none/\∀b,Rel none b)):∀{ts:List TypeId}{ps:Al}{i:Nat}{K:Al->B8->B8->List H0->Option R}{K':Al->B8->B8->List H0->Option R'},
  (∀p∈ps,∀i∈Ch p,S i)->(∀p∈ps,∀i∈Ch p,∀c,Da i=some (.st c)->∀q∈c,∀k∈Aw q,S k) ->
  (∀v m x l,(∀i∈m++x++l.flatMap H0.ids,hp i≠none/\S i)->Rel (K v m x l) (K' v m x l))->Rel (NX C P f hp i ts ps K) (NX C P f Da i ts ps K')
 |[],[],_,_,_,_,_,hK=>hK _ _ _ _ (by simp)
 |[],_::_,_,_,_,_,_,_=>hn
 |_::_,[],_,_,_,_,_,_=>hn
 |_::_,p::ps,_,_,_,hp_,hc,hK=>UH hn hS (hp_ p (by simp)) (hc p (by simp)) fun _ m x l hm=>JM hn hS (fun q hq=>hp_ q (by simp[hq])) (fun q hq=>hc q (by simp[hq])) fun _ ms xs ls GE=>hK _ _ _ _ fun i hi=>by
   simp only[Bu,List.flatMap_append] at hi hm GE;rcases hi with ((hi|hi)|(hi|hi))|(hi|hi)
   ·exact hm i (.inl (.inl hi))
   ·exact GE i (.inl (.inl hi))
   ·exact hm i (.inl (.inr hi))
   ·exact GE i (.inl (.inr hi))
   ·exact hm i (.inr hi)
   ·exact GE i (.inr hi)
theorem Aig(hn:Rel none none){t:Nat}{ct:CT}{was p:PV}{K:Nat->PV->List (Nat × Cd)->Option R}{K':Nat->PV->List (Nat × Cd)->Option R'}(hK:∀t c b,(∀q∈b,∃k,q.1=WE N k)->Rel (K t c b) (K' t c b)):Rel (Aea N t ct was p K) (Aea N t ct was p K'):=by
 unfold Aea;split
 ·split
  ·exact Abn hn fun _ _=>hK _ _ _ (by intro q hq;simp only[P7] at hq;subst hq;exact⟨t,rfl⟩)
  ·exact Gs hn fun _ _ _=>hK _ _ _ (by simp)
 ·exact Qj hn fun _=>hK _ _ _ (by simp)
theorem NL(hn:Rel none none):∀{cts:List CT}{ws ps:Al}{t:Nat}{K:Nat->Al->List (Nat × Cd)->Option R} {K':Nat->Al->List (Nat × Cd)->Option R'},(∀t c b,(∀q∈b,∃k,q.1=WE N k)->Rel (K t c b) (K' t c b))->Rel (NS N t cts ws ps K) (NS N t cts ws ps K')
 |[],[],_,_,_,_,hK=>Gd hn (hK _ _ _ (by simp))
 |[],_::_,_,_,_,_,_=>hn
 |_::_,[],_,_,_,_,_=>hn
 |_::_,_::_,_,_,_,_,hK=>Bx hn fun _ _ _=>Aig hn fun _ _ b hb=>NL hn fun _ _ bs KM=>hK _ _ _ fun q hq=>by
   rcases Bu.1 hq with h|h
   ·exact hb q h
   ·exact KM q h
theorem Wj(hn:Rel none none){S:Nat->Prop}{dst:Option Nat}:∀{l:List H0}{ro:List Al} {t:Nat}{h0 h1:Nat->Option Cd}{K:(Nat->Option Cd)->List (Nat × Cd)->Option R} {K':(Nat->Option Cd)->List (Nat × Cd)->Option R'},
  KR N S dst hp Da h0 h1->(∀i∈l.flatMap H0.ids,hp i≠none/\S i/\hp i=Da i)->(∀h0' OO b,KR N S dst hp Da h0' OO->(∀q∈b,∃k,q.1=WE N k)->Rel (K h0' b) (K' OO b))->Rel (Xs N t l ro h0 K) (Xs N t l ro h1 K')
 |[],_,_,_,_,_,_,hT,_,hK=>Gd hn (hK _ _ _ hT (by simp))
 |.var id off cts ws::l,ro,t,h0,h1,K,K',hT,hl,hK=>by
  unfold Xs;refine Bx hn fun cs ro _=>NL hn fun t' cs' bs KM=>?_;have B1:=hl id (by simp[H0.ids]);rw[<-hT.same id B1.2.2];split
  ·exact Wj hn (V0 B1.2.1 B1.1 hT) (fun i hi=>hl i (by simp only[Kg,Bu];exact .inr hi)) fun h0' OO b hT' hb=>hK _ _ _ hT' fun q hq=>by
    rcases Bu.1 hq with h|h
    ·exact KM q h
    ·exact hb q h
  ·exact hn
 |.row id::l,ro,t,h0,h1,K,K',hT,hl,hK=>by
  unfold Xs;have B1:=hl id (by simp[H0.ids]);exact Bx hn fun cs ro _=>Wj hn (V0 B1.2.1 B1.1 hT) (fun i hi=>hl i (by simp only[Kg,Bu];exact .inr hi)) hK
 |.none::l,ro,t,h0,h1,K,K',hT,hl,hK=>by
  unfold Xs;exact Bx hn fun cs ro _=>Wj hn hT (fun i hi=>hl i (by simp only[Kg,Bu];exact .inr hi)) hK
theorem VB(h:∀i,N<=i->hp i=Da i)(hN:0<N):∀k t,TA N hp k t=TA N Da k t
 |0,_=>rfl
 |k+1,t=>by
  unfold TA;rw[h (WE N t) (by unfold WE;exact Nat.le_mul_of_pos_right _ (by omega)),VB h hN k (t+1)]
theorem NA{h0 h1:Nat->Option Cd}:∀{nw:List (Nat × Cd)},(∀q∈nw,h0 q.1=h1 q.1)->Cf h0 nw=Cf h1 nw
 |[],_=>rfl
 |(i,b)::nw,h=>by
  unfold Cf;rw[h (i,b) (by simp),NA (fun q hq=>h q (by simp[hq]))]
theorem GP{S:Nat->Prop}{dst:Option Nat}{h0 h1:Nat->Option Cd}(hT:KR N S dst hp Da h0 h1):∀{nw:List (Nat × Cd)} {g0 g1:Nat->Option Cd},KR N S dst hp Da g0 g1->(∀q∈nw,N<=q.1\/dst=some q.1)->(∀q∈nw,hp q.1=none)->KR N S dst hp Da (Ax g0 nw) (Ax g1 nw)
 |[],_,_,h,_,_=>h
 |(i,b)::nw,g0,g1,h,hi,hz=>by
  refine GP hT (nw:=nw) ⟨fun k hk=>?_,fun k hN hd hk=>?_,fun k hk=>?_,fun k hn hk=>?_⟩ (fun q hq=>hi q (by simp[hq])) (fun q hq=>hz q (by simp[hq]))
  ·by_cases e:k=i
   ·subst e;rw[At];simp
   ·rw[Ap _ _ e];exact h.keep k hk
  ·have e:k≠i:=by
    rintro rfl
    rcases hi (k,b) (by simp) with q|q
    ·simp only at q;omega
    ·exact hd q
   rw[Ap _ _ e,Ap _ _ e];exact h.off k hN hd hk
  ·by_cases e:k=i
   ·subst e;rw[At,At]
   ·rw[Ap _ _ e,Ap _ _ e];exact h.same k hk
  ·rw[Ap _ _ (by rintro rfl;exact hk (hz (k,b) (by simp)))];exact h.far k hn hk
theorem Asr{S:Nat->Prop}{dst:Option Nat}{m x:B8}(hm:∀i∈m++x,hp i≠none/\S i):KR N S dst hp Da (Vm (Aj hp m) x) (Vm (Aj Da m) x):=by
 refine⟨fun i hi h=>?_,fun i hN hd hi=>?_,fun i hi=>?_,fun i hn hi=>?_⟩
 ·rw[G7] at h;have h1:Aj hp m i≠none:=fun e=>hi (E2.1 e);split at h
  ·cases hq:Aj hp m i with
   |none=>exact h1 hq
   |some b=>rw[hq] at h;cases h
  ·exact h1 h
 ·have e:i ∉ m/\i ∉ x:=by
   refine⟨fun h=>?_,fun h=>?_⟩<;>(rcases hi with hi|hi)
   ·exact hi (hm i (by simp[h])).2
   ·exact (hm i (by simp[h])).1 hi
   ·exact hi (hm i (by simp[h])).2
   ·exact (hm i (by simp[h])).1 hi
  rw[G7,G7,Bg e.2,Bg e.2,Ci,Ci,Bg e.1,Bg e.1];exact⟨rfl,rfl⟩
 ·rw[G7,G7,Ci,Ci,hi]
 ·rw[G7,Ci,Bg (fun h=>hn (hm i (by simp[h])).2),Bg (fun h=>hn (hm i (by simp[h])).2)]
theorem VP(hn:Rel none none){C:H2}{call:A7}{f:FuncId}{c:Call}{K:St->Option R}{K':St->Option R'}{S:Nat->Prop}(K3:c.args.toList.map (Cm tm)=c.args.toList.map (Cm tm'))(hS:∀i,S i->hp i=Da i\/(hp i=none/\∀b,Rel none b))(hp_:∀p∈c.args.toList.map (Cm tm'),∀i∈Ch p,S i)(hc:∀p∈c.args.toList.map (Cm tm'),∀i∈Ch p,∀c,Da i=some (.st c)->∀q∈c,∀k∈Aw q,S k)(LT:∀d,o.dst=some d->hp d=Da d)(hNN:∀i,N<=i->hp i=Da i)(hK:∀v Dn Gj,KR N S o.dst hp Da Dn Gj->Rel (K ⟨B7 tm o.dst v,Dn⟩) (K' ⟨B7 tm' o.dst v,Gj⟩)):Rel (CC C P N call ⟨tm,hp⟩ o f c K) (CC C P N call ⟨tm',Da⟩ o f c K'):=by
 unfold CC;simp only[K3];refine JM hn hS hp_ hc fun vs m x l hm=>A5 hn fun hb=>MZ hn fun rv ro=>BN hn fun ws bs KM=>A5 hn fun _=>?_;simp only[Fb] at hb;have hN:0<N:=Nat.lt_of_succ_le (Rc hb.1.2);rw[VB hNN hN];by_cases Acv:∃i∈l.flatMap H0.ids,hp i≠Da i
 ·obtain⟨i,hi,Er⟩:=Acv;obtain⟨h1,h2⟩:=hm i (Bu.2 (.inr hi));rcases hS i h2 with h|⟨h,_⟩
  ·exact absurd h Er
  ·exact absurd h h1
 have hl:∀i∈l.flatMap H0.ids,hp i≠none/\S i/\hp i=Da i:=fun i hi=>⟨(hm i (Bu.2 (.inr hi))).1,(hm i (Bu.2 (.inr hi))).2,Classical.byContradiction fun h=>Acv ⟨i,hi,h⟩⟩;have hT0:KR N S o.dst hp Da (Vm (Aj hp m) x) (Vm (Aj Da m) x):=Asr fun i hi=>hm i (Bu.2 (.inl hi));refine Wj hn hT0 hl fun h0 h1 bs' hT A3q=>?_
 have Acz:∀q∈bs++bs',N<=q.1\/o.dst=some q.1:=by
  intro q hq;rcases Bu.1 hq with hq|hq
  ·obtain⟨j,hj⟩:=KM q hq;cases hd:o.dst with
   |none=>
    rw[hd] at hj;left;rw[hj];exact Nat.le_add_right _ _
   |some d=>
    rw[hd] at hj;change q.1=d+N*j at hj;cases j with
    |zero=>right;rw[hj];simp
    |succ j=>left;rw[hj,Nat.mul_add];omega
  ·obtain⟨k,hk⟩:=A3q q hq;left;rw[hk];unfold WE;exact Nat.le_mul_of_pos_right _ (by omega)
 have EE:∀q∈bs++bs',h0 q.1=h1 q.1:=by
  intro q hq;refine hT.same q.1 ?_;rcases Acz q hq with h|h
  ·exact hNN _ h
  ·exact LT _ h
 rw[NA EE]
 exact A5 hn fun hb=>hK _ _ _ (GP hT hT Acz fun q hq=>by
  cases hz:hp q.1 with
  |none=>rfl
  |some c=>exact absurd ((EE q hq).trans ((B2 hb).1 q.1 q.2 hq)) (hT.keep q.1 (by rw[hz];simp)))
theorem Le(hn:Rel none none){C:H2}{call:A7}{K:St->Option R}{K':St->Option R'}(K3:∀x∈o.op.operands.toList,Cm tm x=Cm tm' x)(hS:∀i,Yh o tm' Da i->hp i=Da i\/(hp i=none/\∀b,Rel none b))(LT:∀d,o.dst=some d->hp d=Da d)(hNN:∀i,N<=i->hp i=Da i)(hK:∀v Dn Gj,KR N (Yh o tm' Da) o.dst hp Da Dn Gj->Rel (K ⟨B7 tm o.dst v,Dn⟩) (K' ⟨B7 tm' o.dst v,Gj⟩)):Rel (Wp C P N call ⟨tm,hp⟩ o K) (Wp C P N call ⟨tm',Da⟩ o K'):=by
 unfold Wp;have hl:∀x∈o.op.operands.toList,∀i∈Ch (Cm tm' x),Yh o tm' Da i:=fun x hx i hi=>.inl ⟨x,hx,hi⟩;have Pu:Om o.op=false->∀x∈o.op.operands.toList,∀i∈Ch (Cm tm' x),∀c,Da i=some (.st c)->∀q∈c,∀k∈Aw q,Yh o tm' Da k:=fun ha x hx i hi c hc q hq k hk=>.inr ⟨ha,i,c,⟨x,hx,hi⟩,hc,q,hq,hk⟩;generalize hLd:Yh o tm' Da=S at *
 generalize hop:o.op=op at *
 split
 ·rename_i t x y;simp only[K3 x (by simp[Op.operands]),K3 y (by simp[Op.operands])];refine A5 hn fun hd=>TI (N:=N) hn hS (fun i hi=>hl x (by simp[Op.operands]) i (Lt hi)) (fun i hi=>hl y (by simp[Op.operands]) i (Gx hi)) fun Dn Gj hh=>?_;have hd':=Option.isNone_iff_eq_none.1 hd;have:=hK .top Dn Gj (by rw[hd'];exact hh)
  rw[hd'] at this;exact this
 ·rename_i c
  have Lu:∀x∈c.args.toList,x∈(Op.call c).operands.toList:=by
   intro x hx;simp only[Op.operands,Call.operands,Array.toList_append,Bu];exact .inr hx
  split
  ·rename_i hc;refine D6 hn fun d hd=>Bx hn fun x _ hx=>Bx hn fun y _ hy=>Gd hn (Bx hn fun _ _ _=>Bx hn fun _ _ _=>?_);subst hy;have hxm:=Lu x (by rw[hx];simp)
   have hym:=Lu y (by rw[hx];simp)
   simp only[K3 x hxm,K3 y hym];refine Yw hn hS (LT d hd) (fun i hi=>hl x hxm i (Gx hi)) (fun i hi=>hl y hym i (Gx hi)) fun v Dn Gj hh=>?_;have:=hK v Dn Gj (by rw[hd];exact hh N)
   rw[hd] at this;exact this
  ·rename_i hc;refine Bx hn fun x _ hx=>Bx hn fun y _ hy=>Gd hn (Bx hn fun _ _ _=>Bx hn fun _ _ _=>?_);subst hy;have hxm:=Lu x (by rw[hx];simp)
   have hym:=Lu y (by rw[hx];simp)
   simp only[K3 x hxm,K3 y hym];exact WP hn hS (fun i hi=>hl x hxm i (Gx hi)) (fun i hi=>hl y hym i (Gx hi)) hK
  ·rename_i f hcf;refine VP hn (List.map_congr_left fun x hx=>K3 x (Lu x hx)) hS (fun p hp i hi=>?_) (fun p hp i hi=>?_) LT hNN hK
   ·obtain⟨x,hx,rfl⟩:=List.mem_map.1 hp;exact hl x (Lu x hx) i hi
   ·obtain⟨x,hx,rfl⟩:=List.mem_map.1 hp;exact Pu (by simp only[Om,hcf]) x (Lu x hx) i hi
  ·exact hn
 ·exact hn
theorem HX(hn:Rel none none){C:H2}{call:A7}{K:St->Option R}{K':St->Option R'}(K3:∀x∈o.op.operands.toList,Cm tm x=Cm tm' x)(hK:∀v Dn,(∀i,hp i≠none->Dn i≠none)->Rel (K ⟨B7 tm o.dst v,Dn⟩) (K' ⟨B7 tm' o.dst v,Dn⟩)):Rel (Wp C P N call ⟨tm,hp⟩ o K) (Wp C P N call ⟨tm',hp⟩ o K'):=
 Le hn K3 (fun _ _=>.inl rfl) (fun _ _=>rfl) (fun _ _=>rfl) fun v Dn Gj hT=>by
  have:Dn=Gj:=funext fun i=>hT.same i rfl;subst this;exact hK v Dn hT.keep
end
section
variable {R:Type}{r:R}{C:H2}{P:Program}{N:Nat}{call:A7}{ops:Array Oper}{o x:Oper}{s:St}{K:St->Option R}
theorem PK{tm:Nat->PV}{hp Dn:Nat->Option Cd}{tm':Nat->PV}{q:Uz}(hm:I0 P o.op=false)(ht:∀t∈looks ops o,tm t=tm' t)(h:gE C P N call ops o ⟨tm,hp⟩=some q):gE C P N call ops o ⟨tm',Dn⟩=some q:=
 Zu (s:=⟨tm,hp⟩) (s':=⟨tm',Dn⟩) ht (fun h=>by rw[hm] at h;cases h) h
theorem CZ{tm:Nat->PV}{hp:Nat->Option Cd}(hm:I0 P o.op=false)(h:Ek C P N call ops o ⟨tm,hp⟩ K=some r):
  ∃v nw,gE C P N call ops o ⟨tm,hp⟩=some (v,[],nw)/\Hm N o.dst=true/\Cf hp nw=true/\(∀p∈nw,o.dst=some p.1)/\K ⟨B7 tm o.dst v,Ax hp nw⟩=some r:=by
 have hM:So C P o.op=false:=by
  cases hh:So C P o.op
  ·rfl
  ·rw[Zr hh] at hm;cases hm
 rw[Lo (by simp[H3,hM])] at h;cases e:gE C P N call ops o ⟨tm,hp⟩ with
 |none=>rw[e] at h;cases h
 |some q=>
  obtain⟨v,fz,nw⟩:=q;obtain⟨h1,h2⟩:=(Vh e).1 hm;simp only at h1 h2;subst h1;rw[e] at h;obtain⟨hb,h⟩:=Aq h;simp only[Fb] at hb;exact⟨v,nw,rfl,hb.1,hb.2,h2,h⟩
theorem HD{tm:Nat->PV}{hp:Nat->Option Cd}{v:PV}{nw:List (Nat × Cd)}(hm:I0 P o.op=false)(e:gE C P N call ops o ⟨tm,hp⟩=some (v,[],nw))(hd:Hm N o.dst=true)(ha:Cf hp nw=true)(h:K ⟨B7 tm o.dst v,Ax hp nw⟩=some r):Ek C P N call ops o ⟨tm,hp⟩ K=some r:=by
 have hM:So C P o.op=false:=by
  cases hh:So C P o.op
  ·rfl
  ·rw[Zr hh] at hm;cases hm
 rw[Lo (by simp[H3,hM]),e];show A6 _ _=_;have ha':Cf hp nw=true:=ha;rw[hd,ha'];exact h
theorem Nu{hp:Nat->Option Cd}{nw:List (Nat × Cd)}(ha:Cf hp nw=true){i:Nat}(hi:∀p∈nw,p.1≠i):Ax hp nw i=hp i:=
 (Fh (B2 ha).2).2 i fun b hb=>hi _ hb rfl
theorem Aic{hp Dn:Nat->Option Cd}{nw:List (Nat × Cd)}(ha:Cf hp nw=true){g:Nat->Option Cd}(h1:∀i,(∀p∈nw,p.1≠i)->g i=Dn i)(h2:∀i,(∃p∈nw,p.1=i)->g i=Ax hp nw i)(ha':Cf Dn nw=true):g=Ax Dn nw:=by
 funext i
 by_cases h:∃p∈nw,p.1=i
 ·rw[h2 i h];obtain⟨⟨j,b⟩,hp,rfl⟩:=h;rw[(Fh (B2 ha).2).1 j b hp,(Fh (B2 ha').2).1 j b hp]
 ·have h':∀p∈nw,p.1≠i:=fun p hp e=>h ⟨p,hp,e⟩;rw[h1 i h',Nu ha' h']
theorem Alc(ap:Zf C P ops x o)(hx:H3 C P ops x s.tm=true)(h:Ek C P N call ops x s (fun s1=>Ek C P N call ops o s1 K)=some r):Ek C P N call ops o s (fun s1=>Ek C P N call ops x s1 K)=some r:=by
 have hm:I0 P o.op=false:=ap.mx (by unfold H3 at hx;simp only[Fb] at hx;exact hx.1)
 rw[Jx hx] at h;obtain⟨tm,hp⟩:=s;have look:∀v,∀t∈looks ops o,B7 tm x.dst v t=tm t:=fun v=>Fs ap.xo
 have h1:=Le (P:=P) (N:=N) (o:=x) (tm:=tm) (tm':=tm) (hp:=hp) (Da:=hp) (K:=fun s1=>Ek C P N call ops o s1 K) (K':=fun _=>none)
  (Rel:=fun (a:Option R)(_:Option R)=>a=some r->∃v nw,gE C P N call ops o ⟨tm,hp⟩=some (v,[],nw)/\Hm N o.dst=true/\(∀p∈nw,o.dst=some p.1)/\Cf hp nw=true) (fun h=>by cases h) (fun _ _=>rfl) (fun _ _=>.inl rfl) (fun _ _=>rfl) (fun _ _=>rfl) (fun v Dn _ hT h=>by
   obtain⟨u,nw,hu,hd,ha,hn,_⟩:=CZ hm h;refine⟨u,nw,PK hm (look v) hu,hd,hn,Sg ha fun i b hi=>?_⟩;cases hh:hp i with
   |none=>rfl
   |some c=>exact absurd ((B2 ha).1 i b hi) (hT.keep i (by rw[hh];simp))) h
 obtain⟨v,nw,hv,hd,hn,ha⟩:=h1;refine HD hm hv hd ha ?_;have t2:∀t∈looks ops x,tm t=B7 tm o.dst v t:=fun t ht=>(Fs ap.ox t ht).symm;rw[Jx (by rw[<-Ii t2];exact hx)]
 refine Le (P:=P) (N:=N) (o:=x) (tm:=tm) (tm':=B7 tm o.dst v) (hp:=hp) (Da:=Ax hp nw) (Rel:=fun (a b:Option R)=>a=some r->b=some r) (fun h=>by cases h) (Gm t2) (fun i _=>?_) (fun d hxd=>?_) (fun i hi=>(Nu ha fun p hp e=>by have:=Rz hd (hn p hp);omega).symm) (fun u Dn Gj hT h=>?_) h
 ·by_cases hi:∃p∈nw,p.1=i
  ·obtain⟨⟨j,b⟩,Da,rfl⟩:=hi;exact .inr ⟨(B2 ha).1 j b Da,fun _ h=>by cases h⟩
  ·exact .inl (Nu ha fun p hp e=>hi ⟨p,hp,e⟩).symm
 ·refine (Nu ha fun p hp e=>?_).symm;have:=hn p hp;rw[e] at this;exact ap.ne d hxd this
 ·obtain⟨v',nw',Qo,_,ha',_,h'⟩:=CZ hm h;have he:=PK (Dn:=hp) hm (look u) Qo;rw[hv] at he;simp only[Option.some.injEq,Prod.mk.injEq,true_and] at he;obtain⟨rfl,rfl⟩:=he
  have hh:Gj=Ax Dn nw:=by
   refine Aic ha (fun i hi=>?_) (fun i hi=>?_) ha'
   ·exact (hT.same i (Nu ha hi).symm).symm
   ·obtain⟨⟨j,b⟩,Da,rfl⟩:=hi;refine (hT.off j (Rz hd (hn _ Da)) (fun e=>ap.ne j e (hn _ Da)) (.inr ((B2 ha).1 j b Da))).2
  rw[hh,<-Lk ap.ne];exact h'
theorem Amk(hw:WG C P o s)(ap:Zf C P ops x o)(ho:H3 C P ops o s.tm=true)(h:Ek C P N call ops x s (fun s1=>Ek C P N call ops o s1 K)=some r):Ek C P N call ops o s (fun s1=>Ek C P N call ops x s1 K)=some r:=by
 have hm:I0 P x.op=false:=ap.mo (by unfold H3 at ho;simp only[Fb] at ho;exact ho.1)
 obtain⟨tm,hp⟩:=s;obtain⟨v,nw,hv,hd,ha,hn,h1⟩:=CZ hm h;have t1:∀t∈looks ops o,B7 tm x.dst v t=tm t:=Fs ap.xo;change Ek C P N call ops o ⟨B7 tm x.dst v,Ax hp nw⟩ K=some r at h1;rw[Jx (by rw[Ii t1];exact ho)] at h1
 rw[Jx ho];have hMo:So C P o.op=true:=by unfold H3 at ho;simp only[Fb] at ho;exact ho.1
 have Aph:∀i,Yh o tm hp i->hp i≠none:=by
  rintro i (⟨y,hy,hi⟩|⟨Un,id,c,⟨y,hy,hi⟩,hc,p,Da,hk⟩)
  ·exact hw.1 y hy i hi
  ·exact hw.2 hMo Un y hy id hi c hc p Da i hk
 refine Le (P:=P) (N:=N) (o:=o) (tm:=B7 tm x.dst v) (tm':=tm) (hp:=Ax hp nw) (Da:=hp) (Rel:=fun (a b:Option R)=>a=some r->b=some r) (fun h=>by cases h) (Gm t1) (fun i hi=>?_) (fun d hod=>?_) (fun i hi=>Nu ha fun p hp e=>by have:=Rz hd (hn p hp);omega) (fun u Dn Gj hT h=>?_) h1
 ·refine .inl (Nu ha fun p Dn e=>Aph i hi ?_);rw[<-e];exact (B2 ha).1 p.1 p.2 Dn
 ·refine Nu ha fun p Dn e=>?_;have:=hn p Dn;rw[e] at this;exact ap.ne d this hod
 ·have Q3:∀p∈nw,Dn p.1=Ax hp nw p.1/\Gj p.1=none:=by
   intro p hp2;have PC:=(B2 ha).1 p.1 p.2 hp2;have h3:=hT.off p.1 (Rz hd (hn p hp2)) (fun e=>ap.ne p.1 (hn p hp2) e) (.inl fun hL=>Aph _ hL PC);exact⟨h3.1,h3.2.trans PC⟩
  have ha':Cf Gj nw=true:=Sg ha fun i b hi=>(Q3 (i,b) hi).2;refine HD hm (PK hm (fun t ht=>(Fs ap.ox t ht).symm) hv) hd ha' ?_
  have hh:Dn=Ax Gj nw:=by
   refine Aic ha (fun i hi=>?_) (fun i hi=>?_) ha'
   ·exact hT.same i (Nu ha hi)
   ·obtain⟨p,hp2,rfl⟩:=hi;exact (Q3 p hp2).1
  rw[<-Lk ap.ne,<-hh];exact h
theorem Awn(hw:WG C P o s)(ap:Zf C P ops x o)(h:Ek C P N call ops x s (fun s1=>Ek C P N call ops o s1 K)=some r):Ek C P N call ops o s (fun s1=>Ek C P N call ops x s1 K)=some r:=by
 cases hx:H3 C P ops x s.tm
 ·cases ho:H3 C P ops o s.tm
  ·exact Abf hw ap.xo ap.ne ap.ox hx ho h
  ·exact Amk hw ap ho h
 ·exact Alc ap hx h
theorem Li(h:U5 P o.op=true):So C P o.op=false:=by
 unfold U5 at h;split at h
 ·rename_i ho;rw[ho];rfl
 ·rename_i ho;rw[ho];rfl
 ·cases h
def KY(P:Program)(ops:Array Oper)(o:Oper)(tm:Nat->PV):Prop:=U5 P o.op=true\/Ia ops o tm=some false
theorem Yk{tm tm':Nat->PV}(h:∀t∈looks ops o,tm t=tm' t)(hl:KY P ops o tm):KY P ops o tm':=by
 rcases hl with hl|hl
 ·exact .inl hl
 ·exact .inr (by rw[<-Lx h];exact hl)
theorem OB{tm:Nat->PV}(hl:KY P ops o tm):H3 C P ops o tm=false:=by
 rcases hl with hl|hl
 ·simp[H3,Li hl]
 ·simp[H3,hl]
theorem ZO{q:Uz}(hl:KY P ops o s.tm)(h:gE C P N call ops o s=some q):q.2.1=[]/\q.2.2=[]:=by
 unfold gE at h;split at h
 ·cases h
 ·rename_i hv
  have hl:U5 P o.op=true:=by
   rcases hl with hl|hl
   ·exact hl
   ·rw[hv] at hl;cases hl
  rw[Li hl] at h;have h:Adj C P N call o s=some q:=h;unfold U5 at hl;split at hl
  ·rename_i t a ho;unfold Adj JU at h;rw[ho] at h
   have:=MH (nz:=C.nz N) (P:=P) (f:=rd s.hp) (f':=rd s.hp) (g:=Kq s.hp) (g':=Kq s.hp) (t:=t) (x:=Cm s.tm a) (Rel:=fun (a b:Option Uz)=>∀q,a=some q->q.2.1=[]/\q.2.2=[])
    (K:=fun v=>some (v,[],[])) (K':=fun v=>some (v,[],[])) (fun _ h=>by cases h) (fun _ _=>.inl ⟨rfl,rfl⟩) (fun v q hq=>by cases hq;exact⟨rfl,rfl⟩)
   exact this q h
  ·rename_i src dst y ho;unfold Adj JU at h;rw[ho] at h;simp only at h;unfold GU at h;split at hl
   ·rename_i hd;rw[hd] at h;simp only at h;split at h
    ·obtain⟨_,_,h⟩:=Eg h;obtain⟨_,_,h⟩:=Cz h;cases h;exact⟨rfl,rfl⟩
    ·split at h
     ·exact Sa (f:=Kq s.hp) (f':=Kq s.hp) (K':=fun _ _=>(none:Option Uz)) (Rel:=fun (a _:Option Uz)=>a=some q->q.2.1=[]/\q.2.2=[]) (fun h=>by cases h) (fun _ _=>.inl rfl) (fun n c h=>by
       obtain⟨_,h⟩:=Aq h;obtain⟨_,_,h⟩:=Cz h;obtain⟨_,_,h⟩:=Cz h;cases h;exact⟨rfl,rfl⟩) h
     ·exact Sa (f:=Kq s.hp) (f':=Kq s.hp) (K':=fun _ _=>(none:Option Uz)) (Rel:=fun (a _:Option Uz)=>a=some q->q.2.1=[]/\q.2.2=[]) (fun h=>by cases h) (fun _ _=>.inl rfl) (fun n c h=>by
       obtain⟨_,h⟩:=Aq h;obtain⟨_,_,h⟩:=Cz h;obtain⟨_,_,h⟩:=Cz h;cases h;exact⟨rfl,rfl⟩) h
     ·cases h
    ·cases h
   ·cases hl
  ·cases hl
 ·cases h;exact⟨rfl,rfl⟩
theorem Adc{tm tm':Nat->PV}{hp:Nat->Option Cd}(h:∀t∈looks ops o,tm t=tm' t){i:Nat}(hi:Yh o tm hp i):Yh o tm' hp i:=by
 have he:=Gm (ops:=ops) (o:=o) h;rcases hi with⟨y,hy,hi⟩|⟨Un,id,c,⟨y,hy,hi⟩,hc,q⟩
 ·exact .inl ⟨y,hy,by rw[<-he y hy];exact hi⟩
 ·exact .inr ⟨Un,id,c,⟨y,hy,by rw[<-he y hy];exact hi⟩,hc,q⟩
theorem Ao8{hp Dn:Nat->Option Cd}{i:Nat}(h:Dn i=hp i):rd Dn i=rd hp i/\Kq Dn i=Kq hp i:=by unfold rd Kq;rw[h];exact⟨rfl,rfl⟩
theorem BT{tm:Nat->PV}{hp:Nat->Option Cd}(hl:KY P ops o tm)(h:Ek C P N call ops o ⟨tm,hp⟩ K=some r):
  ∃v,gE C P N call ops o ⟨tm,hp⟩=some (v,[],[])/\Hm N o.dst=true/\K ⟨B7 tm o.dst v,hp⟩=some r:=by
 rw[Lo (OB hl)] at h;cases e:gE C P N call ops o ⟨tm,hp⟩ with
 |none=>rw[e] at h;cases h
 |some q=>
  obtain⟨v,fz,nw⟩:=q;obtain⟨h1,h2⟩:=ZO hl e;simp only at h1 h2;subst h1;subst h2;rw[e] at h;obtain⟨hb,h⟩:=Aq h;simp only[Fb] at hb;exact⟨v,rfl,hb.1,h⟩
theorem IV{tm:Nat->PV}{hp:Nat->Option Cd}{v:PV}(hl:KY P ops o tm)(e:gE C P N call ops o ⟨tm,hp⟩=some (v,[],[]))(hd:Hm N o.dst=true)(h:K ⟨B7 tm o.dst v,hp⟩=some r):Ek C P N call ops o ⟨tm,hp⟩ K=some r:=by rw[Lo (OB hl),e];show A6 _ _=_;have ha:Cf hp []=true:=rfl;simp only[hd,ha,Bool.and_self];exact h
theorem Am8(hw:WG C P o s)(xo:∀d,x.dst=some d->d ∉ looks ops o)(ne:∀d,x.dst=some d->o.dst≠some d)(ox:∀d,o.dst=some d->d ∉ looks ops x)(hl:KY P ops o s.tm)(UU:∀y∈o.op.operands.toList,∀i∈Ch (Cm s.tm y),¬Yh x s.tm s.hp i)(hx:H3 C P ops x s.tm=true)(h:Ek C P N call ops x s (fun s1=>Ek C P N call ops o s1 K)=some r):Ek C P N call ops o s (fun s1=>Ek C P N call ops x s1 K)=some r:=by
 rw[Jx hx] at h;obtain⟨tm,hp⟩:=s;have look:∀v,∀t∈looks ops o,B7 tm x.dst v t=tm t:=fun v=>Fs xo
 have Aqd:∀{u:PV} {Dn:Nat->Option Cd} {q:Uz},(∀y∈o.op.operands.toList,∀i∈Ch (Cm tm y),Dn i=hp i)->gE C P N call ops o ⟨B7 tm x.dst u,Dn⟩=some q->gE C P N call ops o ⟨tm,hp⟩=some q:=
  fun hh e=>Zu (s:=⟨B7 tm x.dst _,_⟩) (s':=⟨tm,hp⟩) (look _) (fun _ y hy i hi=>.inl (Ao8 (hh y hy i hi))) e
 have h1:=Le (P:=P) (N:=N) (o:=x) (tm:=tm) (tm':=tm) (hp:=hp) (Da:=hp) (K:=fun s1=>Ek C P N call ops o s1 K) (K':=fun _=>none)
  (Rel:=fun (a:Option R)(_:Option R)=>a=some r->∃v,gE C P N call ops o ⟨tm,hp⟩=some (v,[],[])/\Hm N o.dst=true) (fun h=>by cases h) (fun _ _=>rfl) (fun _ _=>.inl rfl) (fun _ _=>rfl) (fun _ _=>rfl) (fun v Dn _ hT h=>by
   obtain⟨u,hu,hd,_⟩:=BT (Yk (fun t ht=>(look v t ht).symm) hl) h;exact⟨u,Aqd (fun y hy i hi=>hT.far i (UU y hy i hi) (hw.1 y hy i hi)) hu,hd⟩) h
 obtain⟨v,hv,hd⟩:=h1;refine IV hl hv hd ?_;have t2:∀t∈looks ops x,tm t=B7 tm o.dst v t:=fun t ht=>(Fs ox t ht).symm;rw[Jx (by rw[<-Ii t2];exact hx)]
 refine Le (P:=P) (N:=N) (o:=x) (tm:=tm) (tm':=B7 tm o.dst v) (hp:=hp) (Da:=hp) (Rel:=fun (a b:Option R)=>a=some r->b=some r) (fun h=>by cases h) (Gm t2) (fun _ _=>.inl rfl) (fun _ _=>rfl) (fun _ _=>rfl) (fun u Dn Gj hT h=>?_) h;have e1:Dn=Gj:=funext fun i=>hT.same i rfl;subst e1;obtain⟨v',Qo,_,h'⟩:=BT (Yk (fun t ht=>(look u t ht).symm) hl) h;have he:=Aqd (fun y hy i hi=>hT.far i (fun hR=>UU y hy i hi (Adc (fun t ht=>(t2 t ht).symm) hR)) (hw.1 y hy i hi)) Qo;rw[hv] at he;simp only[Option.some.injEq,Prod.mk.injEq,and_true] at he;subst he;rw[<-Lk ne];exact h'
theorem Ak9(xo:∀d,x.dst=some d->d ∉ looks ops o)(ne:∀d,x.dst=some d->o.dst≠some d)(ox:∀d,o.dst=some d->d ∉ looks ops x)(hl:KY P ops x s.tm)(UU:∀y∈x.op.operands.toList,∀i∈Ch (Cm s.tm y),¬Yh o s.tm s.hp i)(ho:H3 C P ops o s.tm=true)(h:Ek C P N call ops x s (fun s1=>Ek C P N call ops o s1 K)=some r):Ek C P N call ops o s (fun s1=>Ek C P N call ops x s1 K)=some r:=by
 obtain⟨tm,hp⟩:=s;obtain⟨v,hv,hd,h1⟩:=BT hl h;have t1:∀t∈looks ops o,B7 tm x.dst v t=tm t:=Fs xo;rw[Jx (by rw[Ii t1];exact ho)] at h1
 rw[Jx ho];refine Le (P:=P) (N:=N) (o:=o) (tm:=B7 tm x.dst v) (tm':=tm) (hp:=hp) (Da:=hp) (Rel:=fun (a b:Option R)=>a=some r->b=some r) (fun h=>by cases h) (Gm t1) (fun _ _=>.inl rfl) (fun _ _=>rfl) (fun _ _=>rfl) (fun u Dn Gj hT h=>?_) h1;have e1:Dn=Gj:=funext fun i=>hT.same i rfl;subst e1;have t2:∀t∈looks ops x,tm t=B7 tm o.dst u t:=fun t ht=>(Fs ox t ht).symm;refine IV (Yk t2 hl) (Zu (s:=⟨tm,hp⟩) (s':=⟨B7 tm o.dst u,Dn⟩) t2 (fun _ y hy i hi=>?_) hv) hd ?_
 ·have hi:i∈Ch (Cm tm y):=by rw[Gm t2 y hy];exact hi
  by_cases hn:hp i=none
  ·exact .inr ⟨Aae hn,Mf hn⟩
  ·obtain⟨h3,h4⟩:=Ao8 (hT.far i (UU y hy i hi) hn);exact .inl ⟨h3.symm,h4.symm⟩
 ·rw[<-Lk ne];exact h
def NO(P:Program)(x:Oper)(s s1:St):Prop:=(∀t,x.dst≠some t->s1.tm t=s.tm t)/\(∀i,s.hp i≠none->s1.hp i≠none)/\(I0 P x.op=false->∀i,s.hp i≠none->s1.hp i=s.hp i)
theorem Ql{tm:Nat->PV}{d:Option Tmp}{v:PV}{t:Nat}(h:d≠some t):B7 tm d v t=tm t:=by
 cases d with
 |none=>rfl
 |some d=>exact Ap _ _ (by rintro rfl;exact h rfl)
theorem JC{K':St->Option R}(h:Ek C P N call ops x s K=some r)(hK:∀s1,NO P x s s1->K s1=some r->K' s1=some r):Ek C P N call ops x s K'=some r:=by
 cases hx:H3 C P ops x s.tm
 ·rw[Lo hx] at h ⊢;cases ex:gE C P N call ops x s with
  |none=>rw[ex] at h;cases h
  |some q=>
   rw[ex] at h;obtain⟨hb,h1⟩:=Aq h;simp only[Fb] at hb;show A6 _ _=_;rw[hb.1,hb.2];refine hK _ ⟨fun t ht=>Ql ht,fun i hi=>Pj hb.2 hi,fun hm i hi=>?_⟩ h1;show Ax (Aj s.hp q.2.1) q.2.2 i=s.hp i;rw[Hc hb.2 hi,((Vh ex).1 hm).1];simp
 ·rw[Jx hx] at h ⊢
  exact HX (P:=P) (N:=N) (o:=x) (tm:=s.tm) (tm':=s.tm) (hp:=s.hp) (Rel:=fun (a b:Option R)=>a=some r->b=some r) (fun h=>by cases h) (fun _ _=>rfl) (fun v Dn hh h=>hK _ ⟨fun t ht=>Ql ht,hh,fun hm=>by
   have hM:So C P x.op=true:=by unfold H3 at hx;simp only[Fb] at hx;exact hx.1
   rw[Zr hM] at hm;cases hm⟩ h) h
theorem WG.keeps{s1:St}(h:WG C P o s)(ap:Zf C P ops x o)(hk:NO P x s s1):WG C P o s1:=by
 have hop:∀y∈o.op.operands.toList,Cm s1.tm y=Cm s.tm y:=fun y hy=>Gm (ops:=ops) (o:=o) (fun t ht=>hk.1 t fun hd=>ap.xo t hd ht) y hy;refine⟨fun y hy i hi=>?_,fun hM hA y hy i hi c hc p hp k hkk=>?_⟩
 ·rw[hop y hy] at hi;exact hk.2.1 i (h.1 y hy i hi)
 ·rw[hop y hy] at hi;have hi0:=h.1 y hy i hi;rw[hk.2.2 (ap.mo hM) i hi0] at hc;exact hk.2.1 k (h.2 hM hA y hy i hi c hc p hp k hkk)
theorem GW:∀(l:List Oper){s:St}{K:St->Option R},WG C P o s->(∀x∈l,Zf C P ops x o)->O5 C P N call ops l s (fun s1=>Ek C P N call ops o s1 K)=some r->Ek C P N call ops o s (fun s1=>O5 C P N call ops l s1 K)=some r
 |[],_,_,_,_,h=>h
 |x::l,s,K,hw,ap,h=>by
  refine Awn hw (ap x (by simp)) ?_;refine JC (K:=fun s1=>O5 C P N call ops l s1 (fun s2=>Ek C P N call ops o s2 K)) h fun s1 hk h1=>?_;exact GW l (hw.keeps (ap x (by simp)) hk) (fun y hy=>ap y (Su _ hy)) h1
theorem Vc:∀(l l':List Oper){s:St}{K:St->Option R},O5 C P N call ops (l++l') s K=O5 C P N call ops l s (fun s1=>O5 C P N call ops l' s1 K)
 |[],_,_,_=>rfl
 |x::l,l',s,K=>by
  show Ek C P N call ops x s (fun s1=>O5 C P N call ops (l++l') s1 K)=Ek C P N call ops x s (fun s1=>O5 C P N call ops l s1 _)
  congr 1
  funext s1
  exact Vc l l'
theorem Aeo{l l':List Oper}(hw:WG C P o s)(ap:∀x∈l,Zf C P ops x o)(h:O5 C P N call ops (l++o::l') s K=some r):Ek C P N call ops o s (fun s1=>O5 C P N call ops (l++l') s1 K)=some r:=by rw[Vc] at h;have:=GW l hw ap h;refine JC this fun s1 _ h1=>?_;rw[Vc];exact h1
end
open Go.RowKit
section
variable {R:Type}{r:R}{P:Program}{N:Nat}{w0:World}{X0:Jb}{Y:Nat->Prop}{β β':Bt}{s:St}{a:Act}{w w':World}{o:Oper}{ops:Array Oper}{C:H2}{call:A7}{K:St->Option R}
theorem KB(h:Dl N w0 X0 Y β s a w){j d:Nat}(hd:(ops[j]?).bind (·.dst)=some d){v:Value}(ht:s.tm d=.sc v):yielded ops a.tmps j=match v with | .bool b=>some b|_=>none:=by
 have Cx:d<N:=by
  rcases Ht d N with h'|h'
  ·exact h'
  ·rw[h.tmo d h'] at ht;cases ht
 have hv:=h.tms d Cx;rw[ht] at hv;have hv:=CE hv;have Ahu:d<a.tmps.size:=by rw[h.tsz];exact Cx
 have he:a.tmps[d]?=some v:=by
  rw[Array.getElem?_eq_getElem Ahu];simp[Ahu] at hv;rw[hv]
 unfold yielded;rw[hd];simp only[Option.bind_some,he];cases v<;>rfl
theorem Yo(h:Dl N w0 X0 Y β s a w){G:Yl}(L0:SK P G w0 X0)(Es:∀f args res,call f args=some res->Eb G P f args res){i:Nat}(hi:ops[i]?=some o)(hk:Ek C P N call ops o s K=some r):
  ∃s',K s'=some r/\∀(next:Act->World->Prop) (Q:Exit->Act->World->Prop),(∀a' w' β',Dl N w0 X0 Y β' s' a' w'->next a' w')->wpOp P ops Q i next a w:=by
 rw[QC] at hk
 have hw:∀b,Ia ops o s.tm=some b->Region.wanted o (yielded ops a.tmps)=b:=by
  intro b hb;unfold Ia at hb;unfold Region.wanted;cases hg:o.guard with
  |none=>rw[hg] at hb;simpa using hb
  |some q=>
   obtain⟨j,want⟩:=q;rw[hg] at hb;simp only at hb ⊢;cases hd:(ops[j]?).bind (·.dst) with
   |none=>rw[hd] at hb;cases hb
   |some d=>
    rw[hd] at hb;simp only at hb;split at hb
    ·rename_i b' ht;rw[KB h hd ht];simp at hb;rw[<-hb];cases b'<;>cases want<;>rfl
    ·rename_i ht;rw[KB h hd ht];simp at hb;rw[hb];rfl
    ·cases hb
 split at hk
 ·cases hk
 ·rename_i hv;obtain⟨s',hs',hn⟩:=YB h L0 Es hk;refine⟨s',hs',fun next Q Aff=>?_⟩;unfold wpOp;rw[hi];simp only[hw _ hv,if_true];exact .inl (hn next Q Aff)
 ·rename_i hv;obtain⟨hd,hk⟩:=Aq hk;refine⟨_,hk,fun next Q Aff=>?_⟩;unfold wpOp;rw[hi];simp only[hw _ hv];refine Aff _ _ β (h.put hd (A3.sc _) (by simp[Ch,C5,Aw]))
theorem Dl.known(h:Dl N w0 X0 Y β s a w){d:Nat}(hd:s.tm d=.ub):∃b,Dl N w0 X0 Y β ⟨Di s.tm d (.sc (.bool b)),s.hp⟩ a w:=by
 have Cx:d<N:=by
  rcases Ht d N with h'|h'
  ·exact h'
  ·rw[h.tmo d h'] at hd;cases hd
 have hu:=h.tms d Cx;rw[hd] at hu;have Kj:A3 w (D2 s.hp β Y) .ub (a.tmps.getD d undef):=hu
 obtain⟨b,hv⟩:∃b,a.tmps.getD d undef=.bool b:=by
  generalize a.tmps.getD d undef=x at Kj;cases Kj with
  |ub b=>exact⟨b,rfl⟩
 refine⟨b,⟨h.dfr,h.tsz,fun i hi=>?_,fun i hi=>?_,h.box,h.inj,h.blt,fun i hi=>?_,h.wfB,h.ownd,h.rngB,h.pin,h.stp,h.Yx,h.Ylt,h.fr⟩⟩
 ·show Di s.tm d _ i=_;rw[Ap _ _ (by omega)];exact h.tmo i hi
 ·by_cases e:i=d
  ·subst e;show Fk _ _ _ (Di s.tm i _ i) _;rw[At,hv];exact A3.sc _
  ·show Fk _ _ _ (Di s.tm d _ i) _;rw[Ap _ _ e];exact h.tms i hi
 ·by_cases e:i=d
  ·subst e;show ∀id∈Ch (Di s.tm i _ i),_;rw[At];simp[Ch,C5,Aw]
  ·show ∀id∈Ch (Di s.tm d _ i),_;rw[Ap _ _ e];exact h.wfT i hi
theorem OE{x y:Option R}(h:MX x y=some r):x=some r/\y=some r:=by
 unfold MX at h;split at h
 ·rename_i e;exact⟨h,e ▸ h⟩
 ·cases h
theorem QJ(h:Dl N w0 X0 Y β s a w){F:St->Option R}(hk:WU ops o s F=some r):∃s',F s'=some r/\Dl N w0 X0 Y β s' a w:=by
 unfold WU at hk;split at hk
 ·exact⟨s,hk,h⟩
 ·split at hk
  ·exact⟨s,hk,h⟩
  ·split at hk
   ·rename_i d _ ht;obtain⟨b,hb⟩:=h.known ht;obtain⟨h1,h2⟩:=OE hk;cases b
    ·exact⟨_,h2,hb⟩
    ·exact⟨_,h1,hb⟩
   ·exact⟨s,hk,h⟩
theorem Zn{G:Yl}(L0:SK P G w0 X0)(Es:∀f args res,call f args=some res->Eb G P f args res){Q:Exit->Act->World->Prop}(hQ:∀s' a' w' β',K s'=some r->Dl N w0 X0 Y β' s' a' w'->Q .normal a' w'):
  ∀(l:B8) (os:List Oper),l.length=os.length->(∀(k i:Nat),l[k]?=some i->ops[i]?=os[k]?)->∀{s:St} {a:Act} {w:World} {β:Bt},Dl N w0 X0 Y β s a w->RF C P N call ops os s K=some r->wpOps P ops Q l a w
 |[],[],_,_,s,a,w,β,h,hk=>by
  show Q .normal a w;exact hQ s a w β hk h
 |[],_::_,hl,_,_,_,_,_,_,_=>by cases hl
 |_::_,[],hl,_,_,_,_,_,_,_=>by cases hl
 |i::l,o::os,hl,hi,s,a,w,β,h,hk=>by
  rw[wpOps_cons];obtain⟨s1,hk,h⟩:=QJ h hk;obtain⟨s',hs',hn⟩:=Yo h L0 Es (by simpa using hi 0 i rfl) hk;exact hn _ _ fun a' w' β' h'=>Zn L0 Es hQ l os (by simpa using hl) (fun k j hj=>by simpa using hi (k+1) j (by simpa using hj)) h' hs'
theorem Dl.drew(h:Dl N w0 X0 Y β s a w):Dl N w0 X0 Y β s a { w with drawn:=w.drawn+1 }:=by
 have:=h.stepR (d:=none) (v:=.top) (nw:=[]) (val:=undef) (w':={ w with drawn:=w.drawn+1 }) (β':=β) rfl rfl
  ⟨rfl,rfl,rfl,⟨Cc _,fun _ _ _=>rfl,fun _ _=>Iw.refl _ _⟩,fun _ _=>rfl,by simp,by simp,by simp,by simp,by simp,.top _,by simp[Ch,C5,Aw]⟩
 exact this
theorem QK(h:Dl N w0 X0 Y β s a w){G:Yl}(L0:SK P G w0 X0)(Es:∀f args res,call f args=some res->Eb G P f args res){id:Nat}{Q:Exit->Act->World->Prop}(hk:RF C P N call ops ops.toList s K=some r)(hQ:∀s' a' w' β',K s'=some r->Dl N w0 X0 Y β' s' a' w'->Q .normal a' w'):(Code.region id ops false).wp P Q a w:=by
 refine wp_region (Zn L0 Es hQ (List.range ops.size) ops.toList (by simp) (fun k i hi=>?_) h hk);rw[List.getElem?_range] at hi
 ·simp at hi;subst hi;simp
 ·rcases Ht k ops.size with h'|h'
  ·exact h'
  ·rw[List.getElem?_eq_none (by simpa using h')] at hi;cases hi
def N7(n:Nat)(listed:Array Bool):B8:=(List.range n).filter fun i=> !listed.getD i true
def Aqq(ops:Array Oper)(listed:Array Bool)(o:Oper):Prop:=∀e∈o.after,Region.binds .any e=true->listed.getD e.on false=true
theorem testBit_or{a b j:Nat}:(a ||| b).testBit j=(a.testBit j||b.testBit j):=Nat.testBit_or a b j
theorem MP{acc:B8}{j:Nat}:∀(es:List Edge)(v:Nat),(es.foldl (fun s e=>bif Region.binds .any e then s ||| 2 ^ e.on ||| acc.getD e.on 0 else s) v).testBit j=true ->
  v.testBit j=true\/∃e∈es,Region.binds .any e=true/\(j=e.on\/(acc.getD e.on 0).testBit j=true)
 |[],v,h=>.inl h
 |e::es,v,h=>by
  rcases MP es _ h with h|⟨e',he',h⟩
  ·cases hb:Region.binds .any e<;>simp only[hb] at h
   ·exact .inl h
   ·simp only[cond_true,Nat.testBit_or,Bool.or_eq_true] at h;rcases h with (h|h)|h
    ·exact .inl h
    ·refine .inr ⟨e,by simp,hb,.inl ?_⟩;rw[Nat.testBit_two_pow] at h;exact (of_decide_eq_true h).symm
    ·exact .inr ⟨e,by simp,hb,.inr h⟩
  ·exact .inr ⟨e',by simp[he'],h⟩
theorem Te{listed:Array Bool}(hc:∀(j:Nat) oj,ops[j]?=some oj->listed.getD j false=true->Aqq ops listed oj):
  ∀(rest done:List Oper) (acc:B8),ops.toList=done++rest->acc.length=done.length ->
   (∀(k:Nat) o,done[k]?=some o->Aqq ops listed o->∀j,(acc.getD k 0).testBit j=true->listed.getD j false=true) ->
   ∀(k:Nat) o,ops[k]?=some o->Aqq ops listed o->∀j,((Jp rest acc).getD k 0).testBit j=true->listed.getD j false=true
 |[],done,acc,he,_,h,k,o,ho,hf,j,hj=>by
  refine h k o ?_ hf j hj;rw[List.append_nil] at he;rw[<-he]
  simpa using ho
 |o'::rest,done,acc,he,hl,h,k,o,ho,hf,j,hj=>by
  refine Te hc rest (done++[o']) _ (by rw[he];simp) (by simp[hl]) ?_ k o ho hf j hj
  intro k o ho hf j hj;rcases Nat.lt_trichotomy k done.length with Cx|heq|hgt
  ·rw[List.getElem?_append_left Cx] at ho;rw[List.getD_eq_getElem?_getD,List.getElem?_append_left (by omega),<-List.getD_eq_getElem?_getD] at hj;exact h k o ho hf j hj
  ·subst heq;simp at ho;subst ho;rw[<-hl] at hj;simp only[List.getD_eq_getElem?_getD,List.getElem?_append_right (Cc _),Nat.sub_self,List.getElem?_cons_zero,Option.getD_some] at hj
   have hj:(o'.after.toList.foldl (fun s e=>bif Region.binds .any e then s ||| 2 ^ e.on ||| acc.getD e.on 0 else s) 0).testBit j=true:=by
    simpa only[List.getD_eq_getElem?_getD] using hj
   rcases MP _ _ hj with h0|⟨e,hm,hb,h1⟩
   ·simp at h0
   ·have HS:=hf e (by simpa using hm) hb;rcases h1 with h1|h1
    ·rw[h1];exact HS
    ·cases hd:done[e.on]? with
     |none=>
      have:acc.getD e.on 0=0:=by
       rw[List.getD_eq_getElem?_getD,List.getElem?_eq_none (by rw[hl];exact List.getElem?_eq_none_iff.1 hd)]
       rfl
      rw[this] at h1;simp at h1
     |some oe=>
      have hoe:ops[e.on]?=some oe:=by
       rw[<-Array.getElem?_toList,he,List.getElem?_append_left (by
        rcases Ht e.on done.length with h'|h'
        ·exact h'
        ·rw[List.getElem?_eq_none h'] at hd;cases hd)]
       exact hd
      exact h e.on oe hd (hc e.on oe hoe HS) j h1
  ·rw[List.getElem?_eq_none (by simp;omega)] at ho
   cases ho
theorem Zm{bs:B8}:∀(l:List Oper)(n:Nat),FR C P ops bs l n=true->∀(k:Nat) o,l[k]?=some o->∀(j:Nat) x,ops[j]?=some x->j<n+k->IZ C P ops x o=true->(bs.getD (n+k) 0).testBit j=true
 |[],_,_,k,o,ho,_,_,_,_,_=>by simp at ho
 |o'::l,n,h,k,o,ho,j,x,hx,hj,Mz=>by
  simp only[FR,Fb] at h;cases k with
  |zero=>
   simp at ho;subst ho
   have:=List.all_eq_true.1 h.1 (x,j) (by
    rw[List.mem_zipIdx_iff_getElem?]
    simpa using hx)
   simp only[Mz,E1,Bool.or_false,Bool.or_eq_true,Bool.not_eq_true'] at this;rcases this with h'|h'
   ·have:Nat.blt j n=true:=Nat.ble_eq_true_of_le (by omega);rw[this] at h';cases h'
   ·exact h'
  |succ k=>
   have:=Zm l (n+1) h.2 k o (by simpa using ho) j x hx (by omega) Mz
   rwa [show n+(k+1)=n+1+k by omega]
theorem Kk{n i:Nat}{listed:Array Bool}:i∈N7 n listed↔i<n/\listed.getD i true=false:=by unfold N7;simp[List.mem_filter]
theorem X5{n i:Nat}{listed:Array Bool}(hi:i∈N7 n listed)(Oa:listed.size=n):∃l1 l2,N7 n listed=l1++i::l2/\N7 n (listed.setIfInBounds i true)=l1++l2/\∀j∈l1,j<i:=by
 obtain⟨Cx,K8⟩:=Kk.1 hi
 have hr:List.range n=List.range i++i::(List.range (n-i-1)).map (i+1 + ·):=by
  conv=>lhs;rw[show n=i+(1+(n-i-1)) by omega]
  rw[List.range_add,List.range_add];simp[Mu]
 refine⟨(List.range i).filter fun i=> !listed.getD i true,((List.range (n-i-1)).map (i+1 + ·)).filter fun i=> !listed.getD i true,?_,?_,fun j hj=>?_⟩
 ·unfold N7;rw[hr,List.filter_append,List.filter_cons_of_pos (by rw[K8];rfl)]
 ·unfold N7;rw[hr,List.filter_append,List.filter_cons_of_neg (by simp[Oa,Cx])]
  congr 1
  ·refine List.filter_congr fun j hj=>?_;rw[getD_set_ne true (by have:=List.mem_range.1 hj;omega)]
  ·refine List.filter_congr fun j hj=>?_;obtain⟨k,_,rfl⟩:=List.mem_map.1 hj;rw[getD_set_ne true (by omega)]
 ·exact List.mem_range.1 (List.mem_filter.1 hj).1
theorem Agl(h:Dl N w0 X0 Y β s a w)(o:Oper):WG C P o s:=by refine⟨fun y _ i hi=>Gb h y i hi,fun _ _ y _ i hi c hc p hp k hk=>h.wfB i c hc p hp k hk⟩
theorem ND(Ahr:(ops.toList.zipIdx.all fun q=>q.1.after.toList.all fun e=> !Region.binds .any e||Nat.blt e.on q.2)=true){listed:Array Bool}(inv:HeadInv .any ops ops.size listed)(hr:Region.ready .any ops listed=[]):N7 ops.size listed=[]:=by
 cases hp:N7 ops.size listed with
 |nil=>rfl
 |cons i l=>
  exfalso;have hi:i∈N7 ops.size listed:=by rw[hp];simp
  obtain⟨Cx,K8⟩:=Kk.1 hi;obtain⟨l1,l2,h1,_,h3⟩:=X5 hi inv.size
  have HS:l1=[]:=by
   cases l1 with
   |nil=>rfl
   |cons j l1=>
    rw[hp] at h1;simp at h1;have:=h3 j (by simp);omega
  subst HS
  have A4l:∀j,j<i->listed.getD j false=true:=by
   intro j hj;cases hh:listed.getD j false with
   |true=>rfl
   |false=>
    have:j∈N7 ops.size listed:=Kk.2 ⟨by omega,getD_in (by rw[inv.size];omega) hh⟩
    have hs:(N7 ops.size listed).Pairwise (· < ·):=List.Pairwise.filter _ List.pairwise_lt_range;rw[h1] at this hs;simp at this;rcases this with e|e
    ·omega
    ·have:=(List.pairwise_cons.1 hs).1 j e;omega
  have:i∈Region.ready .any ops listed:=by
   refine mem_ready.2 ⟨K8,ops[i],Array.getElem?_eq_getElem Cx,fun e he hb=>A4l _ ?_⟩
   have:=List.all_eq_true.1 Ahr (ops[i],i) (by
    rw[List.mem_zipIdx_iff_getElem?];simp[Cx])
   have:=List.all_eq_true.1 this e (Array.mem_toList_iff.2 he);simp only[hb,E1,Bool.false_or] at this;exact Nat.lt_of_succ_le (Rc this)
  rw[hr] at this;simp at this
theorem OU{G:Yl}(L0:SK P G w0 X0)(Es:∀f args res,call f args=some res->Eb G P f args res)(hok:LV C P ops=true){Q:Exit->Act->World->Prop}(hQ:∀s' a' w' β',K s'=some r->Dl N w0 X0 Y β' s' a' w'->Q .normal a' w'):
  ∀(fuel:Nat) {listed:Array Bool} {s:St} {a:Act} {w:World} {β:Bt},HeadInv .any ops ops.size listed->(N7 ops.size listed).length=fuel->Dl N w0 X0 Y β s a w->O5 C P N call ops ((N7 ops.size listed).filterMap (ops[·]?)) s K=some r->wpAny P .any ops Q fuel listed a w:=by
 unfold LV at hok;simp only[Fb] at hok;obtain⟨Ahr,Asl⟩:=hok;intro fuel
 induction fuel with
 |zero=>
  intro listed s a w β inv hf h hk;have hp:=List.eq_nil_of_length_eq_zero hf;rw[hp] at hk;refine⟨?_,hQ s a w β hk h⟩;cases hr:Region.ready .any ops listed with
  |nil=>rfl
  |cons i l=>
   exfalso;have hi:i∈Region.ready .any ops listed:=by rw[hr];simp
   obtain⟨K8,o,ho,_⟩:=mem_ready.1 hi;have:i∈N7 ops.size listed:=Kk.2 ⟨(Array.getElem?_eq_some_iff.1 ho).1,K8⟩;rw[hp] at this;simp at this
 |succ fuel ih=>
  intro listed s a w β inv hf h hk;refine⟨fun hr=>?_,fun i hi=>?_⟩
  ·rw[ND Ahr inv hr] at hf;cases hf
  ·obtain⟨K8,o,ho,M9⟩:=mem_ready.1 hi;have Cx:i<ops.size:=(Array.getElem?_eq_some_iff.1 ho).1;obtain⟨l1,l2,h1,h2,h3⟩:=X5 (Kk.2 ⟨Cx,K8⟩) inv.size;rw[h1,List.filterMap_append,List.filterMap_cons_some ho] at hk
   have Un:∀x∈l1.filterMap (ops[·]?),Zf C P ops x o:=by
    intro x hx;obtain⟨j,hj,hxj⟩:=List.mem_filterMap.1 hx;refine Aif ?_;cases Mz:IZ C P ops x o with
    |false=>rfl
    |true=>
     exfalso;have KO:=Zm ops.toList 0 Asl i o (by simpa using ho) j x hxj (by have:=h3 j hj;omega) Mz
     rw[Ob] at KO;have hjl:=Te (listed:=listed) (fun j oj hj hl=>inv.closed j oj hj hl) ops.toList [] [] (by simp) rfl (by simp) i o ho M9 j KO;have:j∈N7 ops.size listed:=by rw[h1];simp[hj]
     have:=getD_both (Kk.1 this).2;rw[hjl] at this;cases this
   obtain⟨s',hs',hn⟩:=Yo h L0 Es ho (Aeo (Agl h o) Un hk);refine hn _ _ fun a' w' β' h'=>ih (inv.set hi Cx) ?_ h' ?_
   ·rw[h2];rw[h1] at hf;simp at hf ⊢;omega
   ·rw[h2,List.filterMap_append];exact hs'
theorem BV(h:Dl N w0 X0 Y β s a w){G:Yl}(L0:SK P G w0 X0)(Es:∀f args res,call f args=some res->Eb G P f args res)(hm:P.follows .mixedOrders=true)(hok:LV C P ops=true){Q:Exit->Act->World->Prop}(hk:O5 C P N call ops ops.toList s K=some r)(hQ:∀s' a' w' β',K s'=some r->Dl N w0 X0 Y β' s' a' w'->Q .normal a' w'):wpAny P .any ops Q ops.size (Array.replicate ops.size false) a { w with drawn:=w.drawn+1 }:=by
 have hp:N7 ops.size (Array.replicate ops.size false)=List.range ops.size:=by
  unfold N7;refine List.filter_eq_self.2 fun i hi=>?_;have:=List.mem_range.1 hi;simp[this]
 refine OU (C:=C) L0 Es hok hQ ops.size ⟨by simp,fun j oj _ hl=>(by rw[getD_replicate_false] at hl;cases hl),fun t ht ht'=>by omega⟩ (by rw[hp];simp) h.drew ?_
 rw[hp]
 have:(List.range ops.size).filterMap (ops[·]?)=ops.toList:=by
  refine List.ext_getElem? fun k=>?_
  have:∀(n:Nat),n<=ops.size->(List.range n).filterMap (ops[·]?)=ops.toList.take n:=by
   intro n
   induction n with
   |zero=>intro _;rfl
   |succ n ih=>
    intro hn;rw[List.range_succ,List.filterMap_append,ih (by omega),List.take_add_one]
    congr 1
    have:ops[n]?=some ops[n]:=Array.getElem?_eq_getElem (by omega);simp[this]
  rw[this ops.size (Cc _)]
  congr 1
  exact FF (by simp)
 rw[this];exact hk
theorem OW(h:Dl N w0 X0 Y β s a w){G:Yl}(L0:SK P G w0 X0)(Es:∀f args res,call f args=some res->Eb G P f args res)(hm:P.follows .mixedOrders=true)(hok:LV C P ops=true){id:Nat}{Q:Exit->Act->World->Prop}(hk:O5 C P N call ops ops.toList s K=some r)(hQ:∀s' a' w' β',K s'=some r->Dl N w0 X0 Y β' s' a' w'->Q .normal a' w'):(Code.region id ops true).wp P Q a w:=
 wp_region_any hm (BV h L0 Es hm hok hk hQ)
end
end
section
open Go.RowKit
section
variable {R R':Type}{Rel:Option R->Option R'->Prop}{P:Program}{N:Nat}{tm tm':Nat->PV}{hp Da:Nat->Option Cd}{o:Oper}
theorem Ad7(hn:Rel none none){C:H2}{call:A7}{K:St->Option R}{K':St->Option R'}(Un:Om o.op=true)(K3:∀x∈o.op.operands.toList,Cm tm x=Cm tm' x)(hS:∀i,Yh o tm' Da i->hp i=Da i\/(hp i=none/\∀b,Rel none b))(LT:∀d,o.dst=some d->hp d=Da d)(hK:∀v Dn Gj,(∀M,KR M (Yh o tm' Da) o.dst hp Da Dn Gj)->Rel (K ⟨B7 tm o.dst v,Dn⟩) (K' ⟨B7 tm' o.dst v,Gj⟩)):Rel (Wp C P N call ⟨tm,hp⟩ o K) (Wp C P N call ⟨tm',Da⟩ o K'):=by
 unfold Wp;have hl:∀x∈o.op.operands.toList,∀i∈Ch (Cm tm' x),Yh o tm' Da i:=fun x hx i hi=>.inl ⟨x,hx,hi⟩;generalize hLd:Yh o tm' Da=S at *
 generalize hop:o.op=op at *
 unfold Om at Un;split at Un
 ·rename_i c
  have Lu:∀x∈c.args.toList,x∈(Op.call c).operands.toList:=by
   intro x hx;simp only[Op.operands,Call.operands,Array.toList_append,Bu];exact .inr hx
  split at Un
  ·rename_i hc;simp only[hc];refine D6 hn fun d hd=>Bx hn fun x _ hx=>Bx hn fun y _ hy=>Gd hn (Bx hn fun _ _ _=>Bx hn fun _ _ _=>?_);subst hy;have hxm:=Lu x (by rw[hx];simp)
   have hym:=Lu y (by rw[hx];simp)
   simp only[K3 x hxm,K3 y hym];refine Yw hn hS (LT d hd) (fun i hi=>hl x hxm i (Gx hi)) (fun i hi=>hl y hym i (Gx hi)) fun v Dn Gj hh=>?_;have:=hK v Dn Gj (by rw[hd];exact hh)
   rw[hd] at this;exact this
  ·cases Un
 ·cases Un
theorem Se{C:H2}{call:A7}(Un:Om o.op=true)(K3:∀x∈o.op.operands.toList,Cm tm x=Cm tm' x)(hS:∀i,Yh o tm' Da i->hp i=Da i)(LT:∀d,o.dst=some d->hp d=Da d){s1:St}(h:Wp C P N call ⟨tm,hp⟩ o some=some s1):∃v Dn Gj,s1=⟨B7 tm o.dst v,Dn⟩/\Wp C P N call ⟨tm',Da⟩ o some=some ⟨B7 tm' o.dst v,Gj⟩/\∀M,KR M (Yh o tm' Da) o.dst hp Da Dn Gj:=by
 have:=Ad7 (P:=P) (N:=N) (C:=C) (call:=call) (o:=o) (tm:=tm) (tm':=tm') (hp:=hp) (Da:=Da) (K:=some) (K':=some)
  (Rel:=fun (a b:Option St)=>∀s1,a=some s1->∃v Dn Gj,s1=⟨B7 tm o.dst v,Dn⟩/\b=some ⟨B7 tm' o.dst v,Gj⟩/\∀M,KR M (Yh o tm' Da) o.dst hp Da Dn Gj) (fun _ h=>by cases h) Un K3 (fun i hi=>.inl (hS i hi)) LT
  (fun v Dn Gj hT s1 h=>by cases h;exact⟨v,Dn,Gj,rfl,rfl,hT⟩)
 exact this s1 h
end
section
variable {R R':Type}{r:R}{r':R'}{C:H2}{P:Program}{N:Nat}{call:A7}{ops:Array Oper}{o x:Oper}{s s1 s2:St}{K:St->Option R}
theorem Vi{tm:Nat->PV}(h:H3 C P ops o tm=true):So C P o.op=true:=by unfold H3 at h;simp only[Fb] at h;exact h.1
theorem RA(h:Om o.op=true):So C P o.op=true:=by
 unfold Om at h;split at h
 ·rename_i c hc;rw[hc];split at h
  ·rename_i ZT;simp only[So,ZT];exact h
  ·cases h
 ·cases h
theorem Oq(h:Ek C P N call ops x s K=some r):∃s1,Ek C P N call ops x s some=some s1/\NO P x s s1/\(U5 P x.op=true->s1.hp=s.hp)/\K s1=some r:=by
 cases hx:H3 C P ops x s.tm
 ·rw[Lo hx] at h ⊢;cases ex:gE C P N call ops x s with
  |none=>rw[ex] at h;cases h
  |some q=>
   rw[ex] at h;obtain⟨hb,h1⟩:=Aq h;simp only[Fb] at hb;refine⟨_,?_,⟨fun t ht=>Ql ht,fun i hi=>Pj hb.2 hi,fun hm i hi=>?_⟩,fun hl=>?_,h1⟩
   ·show A6 _ _=_;rw[hb.1,hb.2];rfl
   ·show Ax (Aj s.hp q.2.1) q.2.2 i=s.hp i;rw[Hc hb.2 hi,((Vh ex).1 hm).1];simp
   ·show Ax (Aj s.hp q.2.1) q.2.2=s.hp;obtain⟨h1,h2⟩:=ZO (.inl hl) ex;rw[h1,h2]
    funext i
    show Aj s.hp [] i=_;rw[Ci];simp
 ·rw[Jx hx] at h ⊢
  exact HX (P:=P) (N:=N) (o:=x) (tm:=s.tm) (tm':=s.tm) (hp:=s.hp) (K':=some) (Rel:=fun (a:Option R) (b:Option St)=>a=some r->∃s1,b=some s1/\NO P x s s1/\(U5 P x.op=true->s1.hp=s.hp)/\K s1=some r) (fun h=>by cases h) (fun _ _=>rfl) (fun v Dn hh h=>⟨_,rfl,⟨fun t ht=>Ql ht,hh,fun hm=>(by
   rw[Zr (Vi hx)] at hm;cases hm)⟩,fun hl=>(by
   have:=Vi hx;rw[Li hl] at this;cases this),h⟩) h
theorem Vz{K':St->Option R'}(h:Ek C P N call ops x s some=some s1)(hk:K' s1=some r'):Ek C P N call ops x s K'=some r':=by
 cases hx:H3 C P ops x s.tm
 ·rw[Lo hx] at h ⊢;cases ex:gE C P N call ops x s with
  |none=>rw[ex] at h;cases h
  |some q=>
   rw[ex] at h;obtain⟨hb,h1⟩:=Aq h;show A6 _ _=_;rw[hb];cases h1;exact hk
 ·rw[Jx hx] at h ⊢;exact HX (P:=P) (N:=N) (o:=x) (tm:=s.tm) (tm':=s.tm) (hp:=s.hp) (K:=some) (Rel:=fun (a:Option St) (b:Option R')=>a=some s1->b=some r') (fun h=>by cases h) (fun _ _=>rfl) (fun v Dn hh h=>by cases h;exact hk) h
theorem PP{d:Nat}{t tx:TypeId}{b y:PV}(h:Qm P N s d t tx b y K=some r):s.hp d=none:=by
 unfold Qm at h;split at h
 ·obtain⟨_,h⟩:=Aq h;cases hI:Z9 P tx
  ·rw[hI,cond_false] at h;refine CN (P:=P) (tm:=s.tm) (tm':=s.tm) (hp:=s.hp) (Da:=s.hp) (S:=fun _=>True) (K':=fun _ _=>(none:Option R)) (Rel:=fun (a:Option R) (_:Option R)=>a=some r->s.hp d=none) (fun h=>by cases h) (fun _ _=>.inl rfl) (fun _ _=>trivial) (fun m new h=>?_) h;split at h
   ·split at h
    ·obtain⟨hb,_⟩:=Aq h;simp only[Fb,Option.isNone_iff_eq_none] at hb;simp only[hb]
    ·cases h
   ·obtain⟨_,_,_,h,_⟩:=Gq h;obtain⟨hb,_⟩:=Aq h;simp only[Fb,Option.isNone_iff_eq_none] at hb;simp only[hb]
  ·rw[hI,cond_true] at h;unfold Uh at h;obtain⟨_,_,_,h⟩:=Ef h;obtain⟨_,_,_,h,_⟩:=Gq h;obtain⟨hb,_⟩:=Aq h;simp only[Fb,Option.isNone_iff_eq_none] at hb;simp only[hb]
 ·cases h
theorem Aky(hw:WG C P o s)(hwx:∀y∈x.op.operands.toList,∀i∈Ch (Cm s.tm y),s.hp i≠none)(xo:∀d,x.dst=some d->d ∉ looks ops o)(ne:∀d,x.dst=some d->o.dst≠some d)(ox:∀d,o.dst=some d->d ∉ looks ops x)(D7:Om x.op=true)(hao:Om o.op=true)(UU:∀i,Yh x s.tm s.hp i->¬Yh o s.tm s.hp i)(hx:H3 C P ops x s.tm=true)(ho:H3 C P ops o s.tm=true)(h:Ek C P N call ops x s (fun s1=>Ek C P N call ops o s1 K)=some r):Ek C P N call ops o s (fun s1=>Ek C P N call ops x s1 K)=some r:=by
 obtain⟨tm,hp⟩:=s;obtain⟨s1,e1,_,_,h⟩:=Oq h;obtain⟨s2,e2,_,_,h⟩:=Oq h;rw[Jx hx] at e1
 have hSx:∀i,Yh x tm hp i->hp i≠none:=by
  rintro i (⟨y,hy,hi⟩|⟨Un,_⟩)
  ·exact hwx y hy i hi
  ·rw[D7] at Un;cases Un
 have hSo:∀i,Yh o tm hp i->hp i≠none:=by
  rintro i (⟨y,hy,hi⟩|⟨Un,_⟩)
  ·exact hw.1 y hy i hi
  ·rw[hao] at Un;cases Un
 obtain⟨vx,hpx,Ams,rfl,e1',T1⟩:=Se D7 (fun _ _=>rfl) (fun _ _=>rfl) (fun _ _=>rfl) e1
 have:Ams=hpx:=by
  rw[e1] at e1';injection e1' with q;injection q with _ q;exact q.symm
 subst this;have t1:∀t∈looks ops o,B7 tm x.dst vx t=tm t:=Fs xo;have t1o:=Gm (ops:=ops) (o:=o) t1;rw[Jx (by rw[Ii t1];exact ho)] at e2
 have hRo:∀i,Yh o (B7 tm x.dst vx) Ams i↔Yh o tm hp i:=by
  intro i;constructor
  ·rintro (⟨y,hy,hi⟩|⟨Un,_⟩)
   ·exact .inl ⟨y,hy,by rw[<-t1o y hy];exact hi⟩
   ·rw[hao] at Un;cases Un
  ·rintro (⟨y,hy,hi⟩|⟨Un,_⟩)
   ·exact .inl ⟨y,hy,by rw[t1o y hy];exact hi⟩
   ·rw[hao] at Un;cases Un
 have Apt:∀{s:St} {o:Oper} {s2:St},Om o.op=true->Wp C P N call s o some=some s2->∀d,o.dst=some d->s.hp d=none:=by
  intro s o s2 hao e d hd;unfold Wp at e;unfold Om at hao;split at hao
  ·rename_i c hc;rw[hc] at e;simp only at e;split at hao
   ·rename_i ZT;rw[ZT] at e;simp only[hd,Dk] at e;obtain⟨_,_,_,e⟩:=Bh e;obtain⟨_,_,_,e⟩:=Bh e;obtain⟨_,e⟩:=Ej e;obtain⟨_,_,_,e⟩:=Bh e;obtain⟨_,_,_,e⟩:=Bh e;exact PP e
   ·cases hao
  ·cases hao
 have Azg:∀d,o.dst=some d->hp d=none:=by
  intro d hd;have h0:=Apt hao e2 d hd;cases hh:hp d with
  |none=>rfl
  |some b=>exact absurd h0 ((T1 0).keep d (by rw[hh];simp))
 have Axl:=Apt D7 e1;simp only at Axl;have hoS:∀d,o.dst=some d->¬Yh x tm hp d:=fun d hd hR=>hSx d hR (Azg d hd);have hxS:∀d,x.dst=some d->¬Yh o tm hp d:=fun d hd hR=>hSo d hR (Axl d hd);obtain⟨vo,A0a,hpo,rfl,e3,T2⟩:=Se (tm':=tm) (Da:=hp) hao t1o (fun i hi=>(T1 0).far i (fun hR=>UU i hR hi) (hSo i hi)) (fun d hd=>((T1 (d+1)).off d (by omega) (fun e=>ne d e hd) (.inl (hoS d hd))).1) e2;obtain⟨vo',A05,RP,e3a,e3b,T3⟩:=Se (tm':=tm) (Da:=hp) hao (fun _ _=>rfl) (fun _ _=>rfl) (fun _ _=>rfl) e3;rw[e3] at e3b
 have A3v:A05=hpo/\RP=hpo:=by
  injection e3a with _ q1;injection e3b with q2;injection q2 with _ q3;exact⟨q1.symm,q3.symm⟩
 obtain⟨rfl,rfl⟩:=A3v;have t2:∀t∈looks ops x,tm t=B7 tm o.dst vo t:=fun t ht=>(Fs ox t ht).symm;have t2x:=Gm (ops:=ops) (o:=x) t2
 have hRx:∀i,Yh x (B7 tm o.dst vo) RP i↔Yh x tm hp i:=by
  intro i;constructor
  ·rintro (⟨y,hy,hi⟩|⟨Un,_⟩)
   ·exact .inl ⟨y,hy,by rw[t2x y hy];exact hi⟩
   ·rw[D7] at Un;cases Un
  ·rintro (⟨y,hy,hi⟩|⟨Un,_⟩)
   ·exact .inl ⟨y,hy,by rw[<-t2x y hy];exact hi⟩
   ·rw[D7] at Un;cases Un
 obtain⟨vx2,A41,A12,e4a,e4,T4⟩:=Se (tm':=B7 tm o.dst vo) (Da:=RP) D7 t2x (fun i hi=>((T3 0).far i (UU i ((hRx i).1 hi)) (hSx i ((hRx i).1 hi))).symm) (fun d hd=>((T3 (d+1)).off d (by omega) (fun e=>ne d hd e) (.inl (hxS d hd))).1.symm) e1
 have hvx:B7 tm x.dst vx=B7 tm x.dst vx2/\Ams=A41:=by
  injection e4a with q1 q2;exact⟨q1,q2⟩
 obtain⟨hvx,rfl⟩:=hvx;obtain⟨_,V8,K7,e5a,e5b,T5⟩:=Se (tm':=B7 tm x.dst vx) (Da:=Ams) hao (fun _ _=>rfl) (fun _ _=>rfl) (fun _ _=>rfl) e2;have hq:V8=A0a:=by injection e5a with _ q1;exact q1.symm
 subst hq;obtain⟨_,hu1,hu2,e6a,e6b,T6⟩:=Se (tm':=B7 tm o.dst vo) (Da:=RP) D7 (fun _ _=>rfl) (fun _ _=>rfl) (fun _ _=>rfl) e4;have hu:hu1=A12:=by injection e6a with _ q1;exact q1.symm
 subst hu
 have Lu:V8=hu1:=by
  funext i
  by_cases hi:Yh o tm hp i\/o.dst=some i
  ·have hxi:¬Yh x tm hp i:=by
    rcases hi with hi|hi
    ·exact fun hR=>UU i hR hi
    ·exact hoS i hi
   have hdi:x.dst≠some i:=by
    rcases hi with hi|hi
    ·exact fun e=>hxS i e hi
    ·exact fun e=>ne i e hi
   rw[(T2 0).same i ((T1 (i+1)).off i (by omega) hdi (.inl hxi)).1];exact ((T6 (i+1)).off i (by omega) hdi (.inl fun hR=>hxi ((hRx i).1 hR))).1.symm
  ·have hoi:¬Yh o tm hp i:=fun e=>hi (.inl e);have hdi:o.dst≠some i:=fun e=>hi (.inr e);rw[((T5 (i+1)).off i (by omega) hdi (.inl fun hR=>hoi ((hRo i).1 hR))).1];exact (T4 0).same i ((T3 (i+1)).off i (by omega) hdi (.inl hoi)).1.symm
 refine Vz (s1:=⟨B7 tm o.dst vo,RP⟩) (by rw[Jx ho];exact e3) ?_
 refine Vz (s1:=⟨B7 (B7 tm o.dst vo) x.dst vx2,hu1⟩) (by rw[Jx (by rw[<-Ii t2];exact hx)];exact e4) ?_
 rw[<-Lk ne,<-hvx,<-Lu];exact h
theorem Zz(hM:So C P o.op=true){i:Nat}(h:Yh o s.tm s.hp i):i∈Ns C P s o:=by
 unfold Ns;rw[hM];cases hA:Om o.op
 ·simp only[F9,Bool.and_self,cond_true,Bu];rcases h with⟨y,hy,hi⟩|⟨_,id,c,⟨y,hy,hi⟩,hc,p,hp,hk⟩
  ·exact .inl (List.mem_flatMap.2 ⟨y,hy,hi⟩)
  ·refine .inr (List.mem_flatMap.2 ⟨id,List.mem_flatMap.2 ⟨y,hy,hi⟩,?_⟩);rw[hc];exact List.mem_flatMap.2 ⟨p,hp,hk⟩
 ·simp only[E1,Zzt,cond_false,Bool.or_true,cond_true];rcases h with⟨y,hy,hi⟩|⟨hn,_⟩
  ·exact List.mem_flatMap.2 ⟨y,hy,hi⟩
  ·rw[hA] at hn;cases hn
theorem FN(hl:So C P o.op=true\/U5 P o.op=true){y:Operand}(hy:y∈o.op.operands.toList){i:Nat}(h:i∈Ch (Cm s.tm y)):i∈Ns C P s o:=by
 rcases hl with hM|hl
 ·exact Zz hM (.inl ⟨y,hy,h⟩)
 ·unfold Ns;rw[Li hl,hl];exact List.mem_flatMap.2 ⟨y,hy,h⟩
theorem VE(ht:∀t∈looks ops o,s1.tm t=s.tm t)(hh:So C P o.op=true->Om o.op=false->∀y∈o.op.operands.toList,∀i∈Ch (Cm s.tm y),s1.hp i=s.hp i):Ns C P s1 o=Ns C P s o:=by
 have he:=Gm (ops:=ops) (o:=o) ht
 have hl:(o.op.operands.toList.flatMap fun y=>Ch (Cm s1.tm y))=o.op.operands.toList.flatMap fun y=>Ch (Cm s.tm y):=by
  have Aqs:∀l:List Operand,(∀y∈l,Cm s1.tm y=Cm s.tm y)->(l.flatMap fun y=>Ch (Cm s1.tm y))=l.flatMap fun y=>Ch (Cm s.tm y):=by
   intro l
   induction l with
   |nil=>intro _;rfl
   |cons a l ih=>intro h;simp only[Kg];rw[h a (by simp),ih fun y hy=>h y (by simp[hy])]
  exact Aqs _ he
 unfold Ns;simp only[hl];cases hM:(So C P o.op && !Om o.op)
 ·rfl
 ·simp only[cond_true];simp only[Fb,Bool.not_eq_true'] at hM
  congr 1
  have Aqs:∀l:B8,(∀i∈l,s1.hp i=s.hp i)->(l.flatMap fun i=>match s1.hp i with|some (.st c)=>c.flatMap Aw|_=>[])=l.flatMap fun i=>match s.hp i with|some (.st c)=>c.flatMap Aw|_=>[]:=by
   intro l
   induction l with
   |nil=>intro _;rfl
   |cons a l ih=>intro h;simp only[Kg];rw[h a (by simp),ih fun y hy=>h y (by simp[hy])]
  exact Aqs _ fun i hi=>by
   obtain⟨y,hy,hi⟩:=List.mem_flatMap.1 hi;exact hh hM.1 hM.2 y hy i hi
theorem Z2{a b:B8}(h:Aem a b=true){i:Nat}(ha:i∈a)(hb:i∈b):False:=by have:=List.all_eq_true.1 h i ha;have h2:b.any (Nat.beq i)=true:=List.any_eq_true.2 ⟨i,hb,Pz i⟩;rw[h2] at this;cases this
theorem Aet{a b:B8}(h:Aem a b=true):Aem b a=true:=by
 refine List.all_eq_true.2 fun i hi=>?_;cases hc:a.any (Nat.beq i)
 ·rfl
 ·obtain⟨j,hj,e⟩:=List.any_eq_true.1 hc;rw[D9 e] at hi;exact (Z2 h hj hi).elim
theorem Xz:K9 C P x o=K9 C P o x:=by unfold K9;cases So C P x.op<;>cases So C P o.op<;>cases U5 P x.op<;>cases U5 P o.op<;>cases Om x.op<;>cases Om o.op<;>rfl
structure Nf(C:H2)(P:Program)(ops:Array Oper)(x o:Oper):Prop where
 xo:∀d,x.dst=some d->d ∉ looks ops o
 ne:∀d,x.dst=some d->o.dst≠some d
 ox:∀d,o.dst=some d->d ∉ looks ops x
 me:Sr C P x o=false\/K9 C P x o=true
theorem Ac6(h:Ah8 C P ops x o=false):Nf C P ops x o:=by
 unfold Ah8 at h;simp only[Bool.or_eq_false_iff] at h;obtain⟨h1,h2⟩:=h;have hT:=h1;unfold Ajf at h1;simp only[Bool.or_eq_false_iff] at h1
 have a1:IZ C P ops x o=false\/Sr C P x o=true:=by
  cases hc:Sr C P x o
  ·left;unfold IZ;unfold Sr at hc;simp only[Bool.or_eq_false_iff] at hc ⊢;exact⟨⟨⟨h1.1,h1.2⟩,hc.1⟩,hc.2⟩
  ·exact .inr rfl
 refine⟨fun d hd=>?_,fun d hd he=>?_,fun d hd=>?_,?_⟩
 ·have:=h1.1;simp only[hd,Bool.or_eq_false_iff] at this;exact Sv this.1
 ·have:=h1.1;simp only[hd,he,Bool.or_eq_false_iff] at this;rw[Pz] at this;cases this.2
 ·have:=h1.2;simp only[hd] at this;exact Sv this
 ·cases hc:Sr C P x o
  ·exact .inl rfl
  ·rw[hc] at h2;right
   simpa using h2
theorem Nf.apart(ap:Nf C P ops x o)(h:Sr C P x o=false):Zf C P ops x o:=by
 unfold Sr at h;simp only[Bool.or_eq_false_iff,Bool.and_eq_false_iff] at h;refine⟨ap.xo,ap.ne,ap.ox,fun hm=>?_,fun hm=>?_⟩
 ·rcases h.1 with h|h
  ·rw[hm] at h;cases h
  ·exact h
 ·rcases h.2 with h|h
  ·rw[hm] at h;cases h
  ·exact h
theorem Nf.same(ap:Nf C P ops x o)(hk:NO P x s s1)(hl:U5 P x.op=true->s1.hp=s.hp)(hM:So C P o.op=true)(hA:Om o.op=false){i:Nat}(hi:s.hp i≠none):s1.hp i=s.hp i:=by
 rcases ap.me with h|h
 ·exact hk.2.2 ((ap.apart h).mo hM) i hi
 ·unfold K9 at h;rw[hA] at h;simp only[Zzt,Bool.or_false,Bool.or_eq_true,Fb] at h;rcases h with h|h
  ·have:=h.2;rw[Li (C:=C) (P:=P) this] at hM;cases hM
  ·rw[hl h.2]
theorem WG.keepsS(h:WG C P o s)(ap:Nf C P ops x o)(hk:NO P x s s1)(hl:U5 P x.op=true->s1.hp=s.hp):WG C P o s1:=by
 have hop:∀y∈o.op.operands.toList,Cm s1.tm y=Cm s.tm y:=fun y hy=>Gm (ops:=ops) (o:=o) (fun t ht=>hk.1 t fun hd=>ap.xo t hd ht) y hy;refine⟨fun y hy i hi=>?_,fun hM hA y hy i hi c hc p hp k hkk=>?_⟩
 ·rw[hop y hy] at hi;exact hk.2.1 i (h.1 y hy i hi)
 ·rw[hop y hy] at hi;rw[ap.same hk hl hM hA (h.1 y hy i hi)] at hc;exact hk.2.1 k (h.2 hM hA y hy i hi c hc p hp k hkk)
theorem Nf.symm(ap:Nf C P ops x o):Nf C P ops o x:=by
 refine⟨ap.ox,fun d hd he=>ap.ne d he hd,ap.xo,?_⟩;rcases ap.me with h|h
 ·left;unfold Sr at h ⊢;rw[Bool.or_comm];exact h
 ·right;rw[Xz];exact h
theorem Awj(hw:WG C P o s)(hwx:K9 C P x o=true->∀i∈Ns C P s x,s.hp i≠none)(ap:Nf C P ops x o)(hd:K9 C P x o=true->Aem (Ns C P s x) (Ns C P s o)=true)(h:Ek C P N call ops x s (fun s1=>Ek C P N call ops o s1 K)=some r):Ek C P N call ops o s (fun s1=>Ek C P N call ops x s1 K)=some r:=by
 rcases ap.me with hm|hm
 ·exact Awn hw (ap.apart hm) h
 ·have hd:=hd hm;have hwx:=hwx hm;cases hx:H3 C P ops x s.tm
  ·cases ho:H3 C P ops o s.tm
   ·exact Abf hw ap.xo ap.ne ap.ox hx ho h
   ·have hMo:=Vi ho
    have hlx:KY P ops x s.tm:=by
     cases hl:U5 P x.op
     ·right
      have hMx:So C P x.op=true:=by
       unfold K9 at hm;simp only[hl,Zzt,Bool.or_false,Bool.or_eq_true,Fb] at hm;rcases hm with hm|hm
       ·exact hm.1
       ·exact RA hm.1
      cases hv:Ia ops x s.tm with
      |none=>
       exfalso;rw[Lo hx] at h;unfold gE at h;rw[hv] at h;cases h
      |some b=>
       cases b
       ·rfl
       ·unfold H3 at hx;rw[hMx,hv] at hx;cases hx
     ·exact .inl hl
    refine Ak9 ap.xo ap.ne ap.ox hlx (fun y hy i hi hR=>?_) ho h;refine Z2 hd (FN ?_ hy hi) (Zz hMo hR);unfold K9 at hm;simp only[Bool.or_eq_true,Fb] at hm;rcases hm with (hm|hm)|hm
    ·exact .inl hm.1
    ·exact .inr hm.2
    ·exact .inl (RA hm.1)
  ·have hMx:=Vi hx;cases ho:H3 C P ops o s.tm
   ·have hlo:KY P ops o s.tm:=by
     cases hl:U5 P o.op
     ·right
      have hMo:So C P o.op=true:=by
       unfold K9 at hm;simp only[hl,Zzt,Bool.false_or,Bool.or_eq_true,Fb] at hm;rcases hm with hm|hm
       ·exact hm.1
       ·exact RA hm.2
      cases hv:Ia ops o s.tm with
      |none=>
       exfalso;obtain⟨s1,_,hk,_,h⟩:=Oq h;have hv1:Ia ops o s1.tm=none:=by rw[Lx (fun t ht=>hk.1 t fun hd=>ap.xo t hd ht)];exact hv
       rw[Lo (by unfold H3;rw[hv1];cases So C P o.op<;>rfl)] at h
       unfold gE at h;rw[hv1] at h;cases h
      |some b=>
       cases b
       ·rfl
       ·unfold H3 at ho;rw[hMo,hv] at ho;cases ho
     ·exact .inl hl
    refine Am8 hw ap.xo ap.ne ap.ox hlo (fun y hy i hi hR=>?_) hx h;refine Z2 hd (Zz hMx hR) (FN ?_ hy hi);unfold K9 at hm;simp only[Bool.or_eq_true,Fb] at hm;rcases hm with (hm|hm)|hm
    ·exact .inr hm.2
    ·exact .inl hm.1
    ·exact .inl (RA hm.2)
   ·have hMo:=Vi ho;unfold K9 at hm;simp only[Bool.or_eq_true,Fb] at hm;rcases hm with (hm|hm)|hm
    ·rw[Li (C:=C) (P:=P) hm.2] at hMo;cases hMo
    ·rw[Li (C:=C) (P:=P) hm.2] at hMx;cases hMx
    ·exact Aky hw (fun y hy i hi=>hwx i (FN (.inl hMx) hy hi)) ap.xo ap.ne ap.ox hm.1 hm.2 (fun i h1 h2=>Z2 hd (Zz hMx h1) (Zz hMo h2)) hx ho h
theorem Ahm{α:Type}(a b:α)(l:List α)(f:α->Bool):(a::b::l).all f=(b::a::l).all f:=by simp only[List.all_cons];cases f a<;>cases f b<;>rfl
theorem DT{bs:List B8}:∀(l:B8){dn dn':List (Nat × Oper × B8)} {s:St}{K:St->Option R},(∀f,dn.all f=dn'.all f)->Jh C P N call ops bs dn l s K=Jh C P N call ops bs dn' l s K
 |[],_,_,_,_,_=>rfl
 |i::l,dn,dn',s,K,h=>by
  unfold Jh;cases ops[i]? with
  |none=>rfl
  |some o=>
   simp only[Dk,h]
   congr 2
   funext s'
   exact DT l fun f=>by simp only[List.all_cons,h]
theorem IG{bs:B8}{i:Nat}(hi:ops[i]?=some o):(DU C P ops bs).getD i []=Z7 C P ops bs i o:=by unfold DU;rw[List.getD_eq_getElem?_getD,List.getElem?_map,List.getElem?_zipIdx,Array.getElem?_toList,hi];simp
theorem S6{bs:B8}{i j:Nat}:j∈Z7 C P ops bs i o↔∃x,ops[j]?=some x/\K9 C P x o=true/\(Nat.blt j i&&(bs.getD i 0).testBit j)=false/\(Nat.blt i j&&(bs.getD j 0).testBit i)=false:=by
 unfold Z7;simp only[List.mem_map,List.mem_filter,Fb,Bool.not_eq_true',Prod.exists];constructor
 ·rintro⟨x,k,⟨hm,⟨h1,h2⟩,h3⟩,rfl⟩
  rw[List.mem_zipIdx_iff_getElem?] at hm;exact⟨x,by simpa using hm,h1,h2,h3⟩
 ·rintro⟨x,hx,h1,h2,h3⟩
  refine⟨x,j,⟨?_,⟨h1,h2⟩,h3⟩,rfl⟩;rw[List.mem_zipIdx_iff_getElem?]
  simpa using hx
theorem FX{sm:List B8}{i j:Nat}(h:j∈sm.getD i []):EP C P sm s i o=Ns C P s o:=by
 unfold EP;split
 ·rename_i e;rw[e] at h;simp at h
 ·rfl
theorem Ai1{sm:List B8}{i:Nat}(h:sm.getD i []≠[]->Ns C P s1 o=Ns C P s o):EP C P sm s1 i o=EP C P sm s i o:=by
 unfold EP;split
 ·rfl
 ·rename_i e;exact h (by rw[e];simp)
theorem Aa4{l:B8}{j:Nat}:l.any (Nat.beq j)=true↔j∈l:=by
 constructor
 ·intro h;obtain⟨k,hk,e⟩:=List.any_eq_true.1 h;rw[D9 e];exact hk
 ·intro h;exact List.any_eq_true.2 ⟨j,h,Pz j⟩
theorem Zp{bs:B8}{sm:List B8}(hsm:sm=DU C P ops bs){i:Nat}(hi:ops[i]?=some o){l':B8}:∀(l:B8){dn:List (Nat × Oper × B8)} {s:St}{K:St->Option R},WG C P o s ->
  (∀j∈l,j<i/\(bs.getD i 0).testBit j=false/\∀x,ops[j]?=some x->Nf C P ops x o)->Jh C P N call ops sm dn (l++i::l') s K=some r ->
  dn.all (LC C P sm s i o)=true/\Ek C P N call ops o s (fun s1=>Jh C P N call ops sm ((i,o,EP C P sm s i o)::dn) (l++l') s1 K)=some r
 |[],dn,s,K,hw,_,h=>by
  simp only[Zzq] at h ⊢;unfold Jh at h;rw[hi] at h;simp only[Dk] at h;obtain⟨hb,h⟩:=Aq h;simp only[Fb] at hb;exact⟨hb.1,h⟩
 |j::l,dn,s,K,hw,hl,h=>by
  simp only[WM] at h ⊢;unfold Jh at h;obtain⟨hji,KO,Un⟩:=hl j (by simp);cases hj:ops[j]? with
  |none=>rw[hj] at h;cases h
  |some x=>
   rw[hj] at h;simp only[Dk] at h;obtain⟨hb,h⟩:=Aq h;simp only[Fb] at hb;have ap:=Un x hj
   have hex:∀k∈EP C P sm s j x,s.hp k≠none:=fun k hk=>by
    have:=List.all_eq_true.1 hb.2 k hk;intro e;rw[e] at this;cases this
   obtain⟨s1,e1,E6,HS,h1⟩:=Oq h;obtain⟨ha,h2⟩:=Zp hsm hi l (hw.keepsS ap E6 HS) (fun k hk=>hl k (by simp[hk])) h1;have A5b:Ns C P s1 o=Ns C P s o:=VE (ops:=ops) (fun t ht=>E6.1 t fun hd=>ap.xo t hd ht) fun hM hA y hy k hk=>ap.same E6 HS hM hA (hw.1 y hy k hk);have KF:EP C P sm s1 i o=EP C P sm s i o:=Ai1 fun _=>A5b;rw[List.all_cons,Fb] at ha
   have Axb:Nat.blt i j=false:=by
    cases hh:Nat.blt i j
    ·rfl
    ·have:=Rc hh;omega
   have hmi:K9 C P x o=true->j∈sm.getD i []:=fun hs=>by
    rw[hsm,IG hi];exact S6.2 ⟨x,hj,hs,by rw[KO,Zzt],by rw[Axb,CS]⟩
   have hmj:K9 C P x o=true->i∈sm.getD j []:=fun hs=>by
    rw[hsm,IG hj];exact S6.2 ⟨o,hi,by rw[Xz];exact hs,by rw[Axb,CS],by rw[KO,Zzt]⟩
   have Ap3:K9 C P x o=true->Aem (EP C P sm s j x) (EP C P sm s i o)=true:=by
    intro hs;have:=ha.1;unfold LC at this;rw[Aa4.2 (hmi hs),KF] at this
    simpa using this
   have hok:∀q,LC C P sm s1 i o q=LC C P sm s i o q:=fun q=>by unfold LC;rw[KF]
   have M9:dn.all (LC C P sm s i o)=true:=by
    refine List.all_eq_true.2 fun q hq=>?_;rw[<-hok];exact List.all_eq_true.1 ha.2 q hq
   refine⟨M9,?_⟩;rw[KF] at h2
   have h3:=Awj hw (fun hs k hk=>hex k (by rw[FX (hmj hs)];exact hk)) ap (fun hs=>by have:=Ap3 hs;rw[FX (hmj hs),FX (hmi hs)] at this;exact this)
    (Vz (K':=fun s1=>Ek C P N call ops o s1 (fun s2=>Jh C P N call ops sm ((i,o,EP C P sm s i o)::(j,x,EP C P sm s j x)::dn) (l++l') s2 K)) e1 h2)
   obtain⟨s2,e2,F3,Pu,h4⟩:=Oq h3;refine Vz e2 ?_
   have MR:EP C P sm s2 j x=EP C P sm s j x:=Ai1 fun Er=>by
    obtain⟨q,hq⟩:=List.exists_mem_of_ne_nil _ Er;refine VE (ops:=ops) (fun t ht=>F3.1 t fun hd=>ap.ox t hd ht) fun hM hA y hy k hk=>ap.symm.same F3 Pu hM hA (hex k ?_);rw[FX hq];exact FN (.inl hM) hy hk
   unfold Jh;rw[hj];simp only[Dk]
   have hc:(((i,o,EP C P sm s i o)::dn).all (LC C P sm s2 j x)&&(EP C P sm s2 j x).all fun k=>(s2.hp k).isSome)=true:=by
    simp only[List.all_cons,Fb];refine⟨⟨?_,?_⟩,?_⟩
    ·unfold LC;simp only[MR];cases hs:(sm.getD j []).any (Nat.beq i)
     ·rfl
     ·have hm:=Aa4.1 hs;rw[hsm,IG hj] at hm;obtain⟨o',OY,ZL,_⟩:=S6.1 hm;rw[hi] at OY;cases OY;rw[Xz] at ZL;rw[Aet (Ap3 ZL)];rfl
    ·refine List.all_eq_true.2 fun q hq=>?_;have:=List.all_eq_true.1 hb.1 q hq;unfold LC at this ⊢;rw[MR];exact this
    ·rw[MR];refine List.all_eq_true.2 fun k hk=>?_;have:=F3.2.1 k (hex k hk);cases hh:s2.hp k with
     |none=>exact absurd hh this
     |some _=>rfl
   rw[hc,MR];show Ek C P N call ops x s2 _=some r
   have:(fun s'=>Jh C P N call ops sm ((j,x,EP C P sm s j x)::(i,o,EP C P sm s i o)::dn) (l++l') s' K)=fun s2=>Jh C P N call ops sm ((i,o,EP C P sm s i o)::(j,x,EP C P sm s j x)::dn) (l++l') s2 K:=by
    funext s'
    exact DT _ fun f=>Ahm _ _ _ f
   rw[this];exact h4
end
section
variable {R:Type}{r:R}{P:Program}{N:Nat}{w0:World}{X0:Jb}{Y:Nat->Prop}{β β':Bt}{s:St}{a:Act}{w w':World}{o:Oper}{ops:Array Oper}{C:H2}{call:A7}{K:St->Option R}
theorem Xp{bs:B8}:∀(l:List Oper)(n:Nat),Za C P ops bs l n=true->∀(k:Nat) o,l[k]?=some o->∀(j:Nat) x,ops[j]?=some x->j<n+k->Ah8 C P ops x o=true->(bs.getD (n+k) 0).testBit j=true
 |[],_,_,k,o,ho,_,_,_,_,_=>by simp at ho
 |o'::l,n,h,k,o,ho,j,x,hx,hj,Mz=>by
  simp only[Za,Fb] at h;cases k with
  |zero=>
   simp at ho;subst ho
   have:=List.all_eq_true.1 h.1 (x,j) (by
    rw[List.mem_zipIdx_iff_getElem?]
    simpa using hx)
   simp only[Mz,E1,Bool.or_false,Bool.or_eq_true,Bool.not_eq_true'] at this;rcases this with h'|h'
   ·have:Nat.blt j n=true:=Nat.ble_eq_true_of_le (by omega);rw[this] at h';cases h'
   ·exact h'
  |succ k=>
   have:=Xp l (n+1) h.2 k o (by simpa using ho) j x hx (by omega) Mz
   rwa [show n+(k+1)=n+1+k by omega]
theorem OJ{G:Yl}(L0:SK P G w0 X0)(Es:∀f args res,call f args=some res->Eb G P f args res)(hok:ID C P ops=true){Q:Exit->Act->World->Prop}(hQ:∀s' a' w' β',K s'=some r->Dl N w0 X0 Y β' s' a' w'->Q .normal a' w'):
  ∀(fuel:Nat) {dn:List (Nat × Oper × B8)} {listed:Array Bool} {s:St} {a:Act} {w:World} {β:Bt},HeadInv .any ops ops.size listed->(N7 ops.size listed).length=fuel->Dl N w0 X0 Y β s a w->Jh C P N call ops (DU C P ops (Jp ops.toList [])) dn (N7 ops.size listed) s K=some r->wpAny P .any ops Q fuel listed a w:=by
 unfold ID at hok;simp only[Fb] at hok;obtain⟨Ahr,Asl⟩:=hok;intro fuel
 induction fuel with
 |zero=>
  intro dn listed s a w β inv hf h hk;have hp:=List.eq_nil_of_length_eq_zero hf;rw[hp] at hk;refine⟨?_,hQ s a w β hk h⟩;cases hr:Region.ready .any ops listed with
  |nil=>rfl
  |cons i l=>
   exfalso;have hi:i∈Region.ready .any ops listed:=by rw[hr];simp
   obtain⟨K8,o,ho,_⟩:=mem_ready.1 hi;have:i∈N7 ops.size listed:=Kk.2 ⟨(Array.getElem?_eq_some_iff.1 ho).1,K8⟩;rw[hp] at this;simp at this
 |succ fuel ih=>
  intro dn listed s a w β inv hf h hk;refine⟨fun hr=>?_,fun i hi=>?_⟩
  ·rw[ND Ahr inv hr] at hf;cases hf
  ·obtain⟨K8,o,ho,M9⟩:=mem_ready.1 hi;have Cx:i<ops.size:=(Array.getElem?_eq_some_iff.1 ho).1;obtain⟨l1,l2,h1,h2,h3⟩:=X5 (Kk.2 ⟨Cx,K8⟩) inv.size;rw[h1] at hk
   have hnb:∀j∈l1,((Jp ops.toList []).getD i 0).testBit j=false:=by
    intro j hj;cases KO:((Jp ops.toList []).getD i 0).testBit j with
    |false=>rfl
    |true=>
     exfalso;have hjl:=Te (listed:=listed) (fun j oj hj hl=>inv.closed j oj hj hl) ops.toList [] [] (by simp) rfl (by simp) i o ho M9 j KO;have:j∈N7 ops.size listed:=by rw[h1];simp[hj]
     have:=getD_both (Kk.1 this).2;rw[hjl] at this;cases this
   have Un:∀j∈l1,j<i/\((Jp ops.toList []).getD i 0).testBit j=false/\∀x,ops[j]?=some x->Nf C P ops x o:=by
    intro j hj;refine⟨h3 j hj,hnb j hj,fun x hxj=>Ac6 ?_⟩;cases Mz:Ah8 C P ops x o with
    |false=>rfl
    |true=>
     exfalso;have KO:=Xp ops.toList 0 Asl i o (by simpa using ho) j x hxj (by have:=h3 j hj;omega) Mz
     rw[Ob,hnb j hj] at KO;cases KO
   obtain⟨s',hs',hn⟩:=Yo h L0 Es ho (Zp rfl ho l1 (Agl h o) Un hk).2;refine hn _ _ fun a' w' β' h'=>ih (dn:=(i,o,EP C P (DU C P ops (Jp ops.toList [])) s i o)::dn) (inv.set hi Cx) ?_ h' ?_
   ·rw[h2];rw[h1] at hf;simp at hf ⊢;omega
   ·rw[h2];exact hs'
theorem FB(h:Dl N w0 X0 Y β s a w){G:Yl}(L0:SK P G w0 X0)(Es:∀f args res,call f args=some res->Eb G P f args res)(hm:P.follows .mixedOrders=true)(hok:ID C P ops=true){Q:Exit->Act->World->Prop}(hk:Jh C P N call ops (DU C P ops (Jp ops.toList [])) [] (List.range ops.size) s K=some r)(hQ:∀s' a' w' β',K s'=some r->Dl N w0 X0 Y β' s' a' w'->Q .normal a' w'):wpAny P .any ops Q ops.size (Array.replicate ops.size false) a { w with drawn:=w.drawn+1 }:=by
 have hp:N7 ops.size (Array.replicate ops.size false)=List.range ops.size:=by
  unfold N7;refine List.filter_eq_self.2 fun i hi=>?_;have:=List.mem_range.1 hi;simp[this]
 refine OJ (C:=C) (dn:=[]) L0 Es hok hQ ops.size ⟨by simp,fun j oj _ hl=>(by rw[getD_replicate_false] at hl;cases hl),fun t ht ht'=>by omega⟩ (by rw[hp];simp) h.drew ?_
 rw[hp];exact hk
theorem UV(h:Dl N w0 X0 Y β s a w){G:Yl}(L0:SK P G w0 X0)(Es:∀f args res,call f args=some res->Eb G P f args res)(hm:P.follows .mixedOrders=true)(hok:ID C P ops=true){id:Nat}{Q:Exit->Act->World->Prop}(hk:Jh C P N call ops (DU C P ops (Jp ops.toList [])) [] (List.range ops.size) s K=some r)(hQ:∀s' a' w' β',K s'=some r->Dl N w0 X0 Y β' s' a' w'->Q .normal a' w'):(Code.region id ops true).wp P Q a w:=
 wp_region_any hm (FB h L0 Es hm hok hk hQ)
end
open Go.RowKit
section
variable {R:Type}{r:R}{N:Nat}{w0:World}{X0:Jb}{Y:Nat->Prop}{β β':Bt}{s:St}{a:Act}{w w':World}
theorem Ah6{i:Nat}(hi:i<a.tmps.size):a.put (some i) (a.tmps.getD i undef)=a:=by
 obtain⟨tmps,dfr⟩:=a;change i<tmps.size at hi
 have:tmps.setIfInBounds i (tmps.getD i undef)=tmps:=by
  apply Array.ext_getElem?;intro k;by_cases e:i=k
  ·subst e;simp[hi]
  ·rw[Array.getElem?_setIfInBounds_ne e]
 simp only[Act.put,this]
theorem Aac{A:Nat->Prop}{es:Nat}{v:Value}(h:A3 w A (.lst true es 0 []) v):v=.slice none 0 0:=by cases h;rfl
theorem Aal{id:Nat}(B1:s.hp id=none){v:PV}{val:Value}(hv:Fk w (D2 (Ax s.hp [(id,.ar false [])]) (Di β id none) Y) (Di β id none) v val)(hr:∀i∈Ch v,s.hp i≠none\/i=id):
  MA Y β s w v [(id,.ar false [])] val w (Di β id none):=by
 refine⟨rfl,rfl,rfl,Cy.refl _ _,fun j hj=>Ap _ _ (by rintro rfl;exact hj B1),?_,?_,?_,?_,?_,hv,?_⟩
 ·intro j bx hm;simp at hm;rw[hm.2];trivial
 ·intro j bx hm;simp at hm;obtain⟨rfl,rfl⟩:=hm;exact .inl ⟨At _ _ _,rfl⟩
 ·intro j bx k q hm hq;simp at hm;obtain⟨rfl,rfl⟩:=hm;rw[At] at hq;cases hq
 ·intro j bx j' bx' k q q' hm Jw _ _;simp at hm Jw;rw[hm.1,Jw.1]
 ·intro j cells hm;simp at hm
 ·intro j hj;rcases hr j hj with h|rfl
  ·exact .inl h
  ·exact .inr ⟨.ar false [],by simp⟩
theorem KP(h:Dl N w0 X0 Y β s a w)(i:Nat):∃β',Dl N w0 X0 Y β' (FK N s i) a w:=by
 unfold FK;split
 ·rename_i es ht
  have Cx:i<N:=by
   rcases Ht i N with h'|h'
   ·exact h'
   ·rw[h.tmo i h'] at ht;cases ht
  have hv:=h.tms i Cx;rw[ht] at hv;have hv:=Aac hv;have hd:Hm N (some i)=true:=by simp[Hm,Nat.blt];omega
  have go:∀j,s.hp j=none->∃β',Dl N w0 X0 Y β' ⟨Di s.tm i (.view j es 0 0),Di s.hp j (some (.ar false []))⟩ a w:=by
   intro j hn;have:=h.stepR (d:=some i) hd (by simp[Cf,hn]) (Aal (v:=.view j es 0 0) (val:=.slice none 0 0) hn (.inl ⟨At _ _ _,rfl,rfl,none,rfl⟩) (by simp[Ch,C5,Aw]));rw[<-hv,Ah6 (by rw[h.tsz];exact Cx)] at this
   exact⟨_,this⟩
  cases hn:(s.hp i).isNone
  ·cases hn2:(s.hp (i+N*3000)).isNone
   ·exact⟨β,h⟩
   ·exact go _ (by simpa using hn2)
  ·exact go _ (by simpa using hn)
 ·exact⟨β,h⟩
theorem Dl.recell(h:Dl N w0 X0 Y β s a w){id:Nat}{c c':Al}(h0:s.hp id=some (.st c))(hl:c'.length=c.length)(hc:∀(j:Nat) p,c'[j]?=some p->∃q,c[j]?=some q/\(∀v,Cn w (D2 s.hp β Y) β q v->Cn w (D2 s.hp β Y) β p v)/\∀i∈Aw p,s.hp i≠none):
  Dl N w0 X0 Y β ⟨s.tm,Di s.hp id (some (.st c'))⟩ a w:=by
 have Hu:∀i,D1 (Di s.hp id (some (.st c')) i)↔D1 (s.hp i):=by
  intro i;by_cases e:i=id
  ·subst e;rw[At,h0];exact Iff.rfl
  ·rw[Ap _ _ e]
 have hX:OT (Di s.hp id (some (.st c'))) β=OT s.hp β:=by
  funext b
  apply propext;constructor
  ·rintro⟨i,o,hl,hb⟩;exact⟨i,o,(Hu i).1 hl,hb⟩
  ·rintro⟨i,o,hl,hb⟩;exact⟨i,o,(Hu i).2 hl,hb⟩
 have hA:D2 (Di s.hp id (some (.st c'))) β Y=D2 s.hp β Y:=by
  funext b;unfold D2;rw[hX]
 have Er:∀i,s.hp i≠none->Di s.hp id (some (.st c')) i≠none:=by
  intro i hi;by_cases e:i=id
  ·subst e;rw[At];simp
  ·rw[Ap _ _ e];exact hi
 have Aqo:∀i,Di s.hp id (some (.st c')) i≠none->s.hp i≠none:=by
  intro i hi;by_cases e:i=id
  ·subst e;rw[h0];simp
  ·rw[Ap _ _ e] at hi;exact hi
 refine⟨h.dfr,h.tsz,h.tmo,?_,?_,?_,?_,?_,?_,?_,?_,fun i hi=>⟨Er _ (h.pin i hi).1,(h.pin i hi).2⟩,?_,?_,h.Ylt,h.fr⟩
 ·intro i hi;show Fk w (D2 (Di s.hp id _) β Y) β _ _;rw[hA];exact h.tms i hi
 ·intro i b hb;show Tg w (D2 (Di s.hp id _) β Y) β i b;rw[hA];by_cases e:i=id
  ·subst e;change Di s.hp i (some (.st c')) i=some b at hb;rw[At] at hb;cases hb;obtain⟨b,o,h1,h2,h3⟩:=h.box i _ h0;refine⟨b,o,h1,fun j p hj=>?_,fun j hj=>h3 j (by rw[<-hl];exact hj)⟩
   obtain⟨q,hq,hqp,_⟩:=hc j p hj;obtain⟨v,hv,hr⟩:=h2 j q hq;exact⟨v,hv,hqp v hr⟩
  ·change Di s.hp id (some (.st c')) i=some b at hb;rw[Ap _ _ e] at hb;exact h.box i b hb
 ·intro i i' b o o' hl Lp hb Jf;exact h.inj i i' b o o' ((Hu i).1 hl) ((Hu i').1 Lp) hb Jf
 ·intro i b o hn hb;exact h.blt i b o (Aqo i hn) hb
 ·intro i hi j hj;exact Er j (h.wfT i hi j hj)
 ·intro i cells hb p hp j hj;change Di s.hp id (some (.st c')) i=_ at hb;by_cases e:i=id
  ·subst e;rw[At] at hb;cases hb;obtain⟨k,hk⟩:=List.mem_iff_getElem?.1 hp;obtain⟨_,_,_,hr⟩:=hc k p hk;exact Er j (hr j hj)
  ·rw[Ap _ _ e] at hb;exact Er j (h.wfB i cells hb p hp j hj)
 ·intro b hb;exact h.ownd b (by rw[<-hX];exact hb)
 ·intro i bx b o hb hlb hβ Cx j hj;change Di s.hp id (some (.st c')) i=some bx at hb;by_cases e:i=id
  ·subst e;rw[At] at hb;cases hb;exact h.rngB i _ b o h0 trivial hβ Cx j (by unfold BR at hj ⊢;simp only[hl] at hj;exact hj)
  ·rw[Ap _ _ e] at hb;exact h.rngB i bx b o hb hlb hβ Cx j hj
 ·intro i c1 b o hb hβ Cx;change Di s.hp id (some (.st c')) i=_ at hb;by_cases e:i=id
  ·subst e;exact h.stp i c b o h0 hβ Cx
  ·rw[Ap _ _ e] at hb;exact h.stp i c1 b o hb hβ Cx
 ·intro b hY hb;exact h.Yx b hY (by rw[<-hX];exact hb)
theorem KK(h:Dl N w0 X0 Y β s a w)(id j:Nat):∃β',Dl N w0 X0 Y β' (OG N id s j) a w:=by
 unfold OG;split
 ·rename_i c h0;split
  ·rename_i es hj;cases hn:(s.hp (id+N*(j+1))).isNone
   ·exact⟨β,h⟩
   ·have hn:s.hp (id+N*(j+1))=none:=by simpa using hn
    have Er:id≠id+N*(j+1):=by
     intro e;rw[<-e,h0] at hn;cases hn
    have h1:=h.stepR (d:=none) (v:=.top) (val:=undef) rfl (by simp[Cf,hn]) (Aal hn (.top _) (by simp[Ch,C5,Aw]));change Dl N w0 X0 Y (Di β (id+N*(j+1)) none) ⟨s.tm,Di s.hp (id+N*(j+1)) (some (.ar false []))⟩ a w at h1
    have h2:=h1.recell (id:=id) (c:=c) (c':=c.set j (.view (id+N*(j+1)) es 0 0)) (by show Di _ _ _ _=_;rw[Ap _ _ Er];exact h0) (by simp) (by
     intro k p hp;by_cases e:k=j
     ·subst e
      have Cx:k<c.length:=by
       rcases Ht k c.length with h'|h'
       ·exact h'
       ·rw[List.getElem?_eq_none h'] at hj;cases hj
      rw[List.getElem?_set_self Cx] at hp;cases hp;refine⟨_,hj,fun v hv=>.inl ⟨At _ _ _,rfl,rfl,none,Aac hv⟩,fun i hi=>?_⟩;simp[Aw] at hi;subst hi;show Di _ _ _ _≠none;rw[At];simp
     ·rw[List.getElem?_set_ne (fun h=>e h.symm)] at hp;refine⟨p,hp,fun _ hv=>hv,fun i hi=>?_⟩;have:=h.wfB id c h0 p (List.mem_of_getElem? hp) i hi;show Di _ _ _ _≠none;by_cases e':i=id+N*(j+1)
      ·subst e';rw[At];simp
      ·rw[Ap _ _ e'];exact this)
    refine⟨Di β (id+N*(j+1)) none,?_⟩;have e3:Di (Di s.hp (id+N*(j+1)) (some (.ar false []))) id (some (.st (c.set j (.view (id+N*(j+1)) es 0 0))))=Di (Di s.hp id (some (.st (c.set j (.view (id+N*(j+1)) es 0 0))))) (id+N*(j+1)) (some (.ar false [])):=SI _ _ _ (fun h=>Er h.symm);change Dl N w0 X0 Y (Di β (id+N*(j+1)) none) ⟨s.tm,Di (Di s.hp (id+N*(j+1)) (some (.ar false []))) id (some (.st (c.set j (.view (id+N*(j+1)) es 0 0))))⟩ a w at h2;rw[e3] at h2;exact h2
  ·exact⟨β,h⟩
 ·exact⟨β,h⟩
theorem Qa{f:St->Nat->St}(hf:∀s β,Dl N w0 X0 Y β s a w->∀i,∃β',Dl N w0 X0 Y β' (f s i) a w):∀(l:B8){s:St}{β:Bt},Dl N w0 X0 Y β s a w->∃β',Dl N w0 X0 Y β' (l.foldl f s) a w
 |[],_,β,h=>⟨β,h⟩
 |i::l,s,β,h=>by
  obtain⟨β1,h1⟩:=hf s β h i;exact Qa hf l h1
theorem PT(h:Dl N w0 X0 Y β s a w)(i:Nat):∃β',Dl N w0 X0 Y β' (PW N s i) a w:=by
 unfold PW;split
 ·split
  ·exact Qa (fun s β h i=>KK h _ i) _ h
  ·exact⟨β,h⟩
 ·exact⟨β,h⟩
theorem OD:∀{m:List (Nat × Nat)},E5 (m.map (·.2))=true->∀{i i' j:Nat},(i,j)∈m->(i',j)∈m->i=i'
 |[],_,_,_,_,h,_=>by simp at h
 |(x,y)::m,hn,i,i',j,h,h'=>by
  simp only[Xy,E5,Fb,Bool.not_eq_true'] at hn
  have hy:∀k,(k,y) ∉ m:=by
   intro k hk;exact Sv hn.1 (List.mem_map.2 ⟨(k,y),hk,rfl⟩)
  rcases List.mem_cons.1 h with e|h
  ·cases e;rcases List.mem_cons.1 h' with e|h'
   ·cases e;rfl
   ·exact absurd h' (hy _)
  ·rcases List.mem_cons.1 h' with e|h'
   ·cases e;exact absurd h (hy _)
   ·exact OD hn.2 h h'
theorem BP:∀{m:List (Nat × Nat)},E5 (m.map (·.1))=true->∀{i j j':Nat},(i,j)∈m->(i,j')∈m->j=j'
 |[],_,_,_,_,h,_=>by simp at h
 |(x,y)::m,hn,i,j,j',h,h'=>by
  simp only[Xy,E5,Fb,Bool.not_eq_true'] at hn
  have hx:∀k,(x,k) ∉ m:=by
   intro k hk;exact Sv hn.1 (List.mem_map.2 ⟨(x,k),hk,rfl⟩)
  rcases List.mem_cons.1 h with e|h
  ·cases e;rcases List.mem_cons.1 h' with e|h'
   ·cases e;rfl
   ·exact absurd h' (hx _)
  ·rcases List.mem_cons.1 h' with e|h'
   ·cases e;exact absurd h (hx _)
   ·exact BP hn.2 h h'
theorem N6{i j:Nat}(h:Nat.beq i j=false):i≠j:=by rintro rfl;rw[Pz] at h;cases h
theorem Zb:∀{m:List (Nat × Nat)} {i j:Nat},Wl m i=some j->(i,j)∈m
 |[],_,_,h=>by cases h
 |(x,y)::m,i,j,h=>by
  unfold Wl at h;cases hb:Nat.beq i x<;>rw[hb] at h
  ·exact Su _ (Zb h)
  ·have:=D9 hb;cases h;rw[this];simp
theorem BQ{m:List (Nat × Nat)}{hp:Nat->Option Cd}:∀{l:List (Nat × Nat)} {j:Nat}{b:Cd},H4 (Nj m hp l) j=some b->∃i b0,(i,j)∈l/\hp i=some b0/\b=Ak2 m b0
 |[],_,_,h=>by cases h
 |(x,y)::l,j,b,h=>by
  unfold Nj at h;cases hx:hp x with
  |none=>
   rw[hx] at h;obtain⟨i,b0,h1,h2⟩:=BQ h;exact⟨i,b0,Su _ h1,h2⟩
  |some bx=>
   rw[hx] at h;simp only[H4] at h;cases hb:Nat.beq j y<;>rw[hb] at h
   ·obtain⟨i,b0,h1,h2⟩:=BQ h;exact⟨i,b0,Su _ h1,h2⟩
   ·have:=D9 hb;subst this;cases h;exact⟨x,bx,by simp,hx,rfl⟩
theorem Ou{m:List (Nat × Nat)}{hp:Nat->Option Cd}:∀{l:List (Nat × Nat)} {i j:Nat},(i,j)∈l->hp i≠none->H4 (Nj m hp l) j≠none
 |[],_,_,h,_=>by simp at h
 |(x,y)::l,i,j,h,hi=>by
  unfold Nj;cases hx:hp x with
  |none=>
   rcases List.mem_cons.1 h with e|h
   ·cases e;exact absurd hx hi
   ·exact Ou h hi
  |some bx=>
   simp only[H4];cases hb:Nat.beq j y
   ·rcases List.mem_cons.1 h with e|h
    ·cases e;exact absurd rfl (N6 hb)
    ·exact Ou h hi
   ·simp
def KX(m:List (Nat × Nat))(j:Nat):Option Nat:=
 match m with
 |[]=>none
 |(x,y)::r=>bif Nat.beq j y then some x else KX r j
theorem Aat:∀{m:List (Nat × Nat)} {i j:Nat},KX m j=some i->(i,j)∈m
 |[],_,_,h=>by cases h
 |(x,y)::m,i,j,h=>by
  unfold KX at h;cases hb:Nat.beq j y<;>rw[hb] at h
  ·exact Su _ (Aat h)
  ·have:=D9 hb;cases h;rw[this];simp
theorem SD:∀{m:List (Nat × Nat)} {i j:Nat},(i,j)∈m->∃k,KX m j=some k
 |[],_,_,h=>by simp at h
 |(x,y)::m,i,j,h=>by
  unfold KX;cases hb:Nat.beq j y
  ·rcases List.mem_cons.1 h with e|h
   ·cases e;exact absurd rfl (N6 hb)
   ·exact SD h
  ·exact⟨x,rfl⟩
theorem QN{f:Nat->PV}:∀{l:B8}{i:Nat},lk (l.map fun i=>(i,f i)) i=if i∈l then f i else .top
 |[],_=>rfl
 |x::l,i=>by
  simp only[Xy,lk];cases hb:Nat.beq i x
  ·have:=N6 hb;simp only[cond_false,QN,List.mem_cons,this,false_or]
  ·have:=D9 hb;subst this;simp
theorem LO{m:Nat}:∀{n i:Nat},i∈Nc m n->i<n
 |0,_,h=>by simp[Nc] at h
 |n+1,i,h=>by
  simp only[Nc,Bu] at h;rcases h with h|h
  ·have:=LO h;omega
  ·cases hb:m.testBit n<;>rw[hb] at h
   ·simp at h
   ·simp at h;omega
theorem QX(h:Dl N w0 X0 Y β s a w){m:List (Nat × Nat)}(h1:E5 (m.map (·.1))=true)(h2:E5 (m.map (·.2))=true){ls:B8}(hls:∀i∈ls,i<N)(hpn:∀i,X0.pn i->(Ee N i,Ee N i)∈m):
  ∃β',Dl N w0 X0 Y β' ⟨lk (ls.map fun i=>(i,Ab7 m (s.tm i))),H4 (Nj m s.hp m)⟩ a w:=by
 refine⟨fun j=>(KX m j).bind β,?_⟩
 have hβ:∀{i j:Nat},(i,j)∈m->(KX m j).bind β=β i:=by
  intro i j hm;obtain⟨k,hk⟩:=SD hm;rw[hk];have:=OD h2 (Aat hk) hm;subst this;rfl
 have hold:∀{j:Nat} {b:Cd},H4 (Nj m s.hp m) j=some b->∃i b0,(i,j)∈m/\s.hp i=some b0/\b=Ak2 m b0/\(KX m j).bind β=β i:=by
  intro j b hb;obtain⟨i,b0,hm,h3,h4⟩:=BQ hb;exact⟨i,b0,hm,h3,h4,hβ hm⟩
 have Hu:∀{j:Nat},D1 (H4 (Nj m s.hp m) j)->∃i,(i,j)∈m/\D1 (s.hp i)/\(KX m j).bind β=β i:=by
  intro j hl;cases hb:H4 (Nj m s.hp m) j with
  |none=>rw[hb] at hl;exact hl.elim
  |some b=>
   obtain⟨i,b0,hm,h3,rfl,h5⟩:=hold hb;refine⟨i,hm,?_,h5⟩;rw[hb] at hl;rw[h3];cases b0<;>exact hl
 have hX:∀b,OT (H4 (Nj m s.hp m)) (fun j=>(KX m j).bind β) b->OT s.hp β b:=by
  rintro b ⟨j,o,hl,hb⟩
  obtain⟨i,_,Lp,e⟩:=Hu hl;exact⟨i,o,Lp,by rw[<-e];exact hb⟩
 have hA:∀b,D2 (H4 (Nj m s.hp m)) (fun j=>(KX m j).bind β) Y b->D2 s.hp β Y b:=fun b hb=>hb.imp (hX b) id
 have hC:∀p v,Cn w (D2 s.hp β Y) β p v->Cn w (D2 (H4 (Nj m s.hp m)) (fun j=>(KX m j).bind β) Y) (fun j=>(KX m j).bind β) (XP m p) v:=by
  intro p v hp;cases p with
  |view id es off n=>
   show Cn _ _ _ (match Wl m id with|some j=>.view j es off n|none=>.top) v;cases hj:Wl m id with
   |some j=>
    have e:=hβ (Zb hj);rcases hp with⟨e1,e2⟩|⟨b,o,x,cap,e1,e2⟩
    ·exact .inl ⟨by show (KX m j).bind β=none;rw[e];exact e1,e2⟩
    ·exact .inr ⟨b,o,x,cap,by show (KX m j).bind β=_;rw[e];exact e1,e2⟩
   |none=>exact A3.top _
  |ptr id off=>
   show Cn _ _ _ (match Wl m id with|some j=>.ptr j off|none=>.top) v;cases hj:Wl m id with
   |some j=>
    have e:=hβ (Zb hj);obtain⟨b,o,e1,e2⟩:=hp;exact⟨b,o,by show (KX m j).bind β=_;rw[e];exact e1,e2⟩
   |none=>exact A3.top _
  |sc v=>exact A3.step (Cy.refl _ _) (fun b _=>hA b) hp
  |lst z es n c=>exact A3.step (Cy.refl _ _) (fun b _=>hA b) hp
  |iptr c off=>exact Cn.step (p:=.iptr c off) (Cy.refl _ _) (fun b _=>hA b) (by simp[Aw]) hp
  |_=>exact A3.top _
 have hV:∀p v,Fk w (D2 s.hp β Y) β p v->Fk w (D2 (H4 (Nj m s.hp m)) (fun j=>(KX m j).bind β) Y) (fun j=>(KX m j).bind β) (Ab7 m p) v:=by
  intro p v hp;cases p with
  |agg c=>
   obtain⟨vs,e1,e2⟩:=hp;refine⟨vs,e1,Bo.of_at (by simp;exact e2.len) fun i q u hq hu=>?_⟩
   rw[List.getElem?_map] at hq;cases hc:c[i]? with
   |none=>rw[hc] at hq;cases hq
   |some q0=>
    rw[hc] at hq;cases hq;exact hC _ _ (e2.at_ hc hu)
  |view id es off n=>
   have:=hC (.view id es off n) v hp;change Cn _ _ _ (match Wl m id with|some j=>.view j es off n|none=>.top) v at this;show Fk _ _ _ (match Wl m id with|some j=>.view j es off n|none=>.top) v;cases hj:Wl m id<;>rw[hj] at this<;>exact this
  |ptr id off=>
   have:=hC (.ptr id off) v hp;change Cn _ _ _ (match Wl m id with|some j=>.ptr j off|none=>.top) v at this;show Fk _ _ _ (match Wl m id with|some j=>.ptr j off|none=>.top) v;cases hj:Wl m id<;>rw[hj] at this<;>exact this
  |sc v'=>exact hC (.sc v') v hp
  |lst z es n c=>exact hC (.lst z es n c) v hp
  |iptr c off=>exact hC (.iptr c off) v hp
  |_=>exact A3.top _
 have hrC:∀p i,i∈Aw (XP m p)->∃k∈Aw p,(k,i)∈m:=by
  intro p i hi;cases p with
  |view id es off n=>
   change i∈Aw (match Wl m id with|some j=>.view j es off n|none=>.top) at hi;cases hj:Wl m id<;>rw[hj] at hi
   ·simp[Aw] at hi
   ·simp[Aw] at hi;subst hi;exact⟨id,by simp[Aw],Zb hj⟩
  |ptr id off=>
   change i∈Aw (match Wl m id with|some j=>.ptr j off|none=>.top) at hi;cases hj:Wl m id<;>rw[hj] at hi
   ·simp[Aw] at hi
   ·simp[Aw] at hi;subst hi;exact⟨id,by simp[Aw],Zb hj⟩
  |_=>simp[XP,Aw] at hi
 have hrV:∀p i,i∈Ch (Ab7 m p)->∃k∈Ch p,(k,i)∈m:=by
  intro p i hi;cases p with
  |agg c=>
   simp only[Ab7,Ch,C5,List.mem_flatMap,List.mem_map] at hi;obtain⟨_,⟨q,hq,rfl⟩,hi⟩:=hi;obtain⟨k,hk,hm⟩:=hrC q i hi;exact⟨k,by simp only[Ch,C5,List.mem_flatMap];exact⟨q,hq,hk⟩,hm⟩
  |view id es off n=>
   refine (hrC (.view id es off n) i ?_).imp fun k hk=>hk;change i∈Ch (match Wl m id with|some j=>.view j es off n|none=>.top) at hi;show i∈Aw (match Wl m id with|some j=>.view j es off n|none=>.top);cases hj:Wl m id<;>rw[hj] at hi<;>exact hi
  |ptr id off=>
   refine (hrC (.ptr id off) i ?_).imp fun k hk=>hk;change i∈Ch (match Wl m id with|some j=>.ptr j off|none=>.top) at hi;show i∈Aw (match Wl m id with|some j=>.ptr j off|none=>.top);cases hj:Wl m id<;>rw[hj] at hi<;>exact hi
  |_=>simp[Ab7,XP,Ch,C5,Aw] at hi
 refine⟨h.dfr,h.tsz,?_,?_,?_,?_,?_,?_,?_,?_,?_,?_,?_,?_,h.Ylt,h.fr⟩
 ·intro i hi;show lk _ i=_;rw[QN,Bg (fun hm=>by have:=hls i hm;omega)]
 ·intro i hi;show Fk w _ _ (lk _ i) _;rw[QN];split
  ·exact hV _ _ (h.tms i hi)
  ·exact A3.top _
 ·intro j b hb;obtain⟨i,b0,hm,h3,rfl,e⟩:=hold hb;have My:=h.box i b0 h3;cases b0 with
  |st c=>
   obtain⟨b,o,e1,e2,e3⟩:=My;refine⟨b,o,by show (KX m j).bind β=_;rw[e];exact e1,fun k p hp=>?_,fun k hk=>e3 k (by simpa using hk)⟩
   rw[List.getElem?_map] at hp;cases hc:c[k]? with
   |none=>rw[hc] at hp;cases hp
   |some q=>
    rw[hc] at hp;cases hp;obtain⟨v,hv,hr⟩:=e2 k q hc;exact⟨v,hv,hC _ _ hr⟩
  |ar fz c=>
   have:=Tg.step' hA My;show Tg _ _ _ _ (.ar fz c);rcases this with⟨e1,e2⟩|⟨b,o,e1,e2⟩
   ·exact .inl ⟨by show (KX m j).bind β=_;rw[e];exact e1,e2⟩
   ·exact .inr ⟨b,o,by show (KX m j).bind β=_;rw[e];exact e1,e2⟩
  |mv=>exact trivial
 ·intro j j' b o o' hl Lp hb Jf;obtain⟨i,hm,HS,e⟩:=Hu hl;obtain⟨i',Jw,A4g,e'⟩:=Hu Lp;have:=h.inj i i' b o o' HS A4g (by rw[<-e];exact hb) (by rw[<-e'];exact Jf)
  subst this;exact BP h1 hm Jw
 ·intro j b o hn hb;cases hj:H4 (Nj m s.hp m) j with
  |none=>exact absurd hj hn
  |some bx=>
   obtain⟨i,b0,_,h3,_,e⟩:=hold hj;exact h.blt i b o (by rw[h3];simp) (by rw[<-e];exact hb)
 ·intro i hi j hj;change j∈Ch (lk _ i) at hj;rw[QN] at hj;split at hj
  ·obtain⟨k,hk,hm⟩:=hrV _ j hj;exact Ou hm (h.wfT i hi k hk)
  ·simp[Ch,C5,Aw] at hj
 ·intro j cells hb p hp k hk;obtain⟨i,b0,_,h3,h4,_⟩:=hold hb;cases b0 with
  |st c=>
   cases h4;obtain⟨q,hq,rfl⟩:=List.mem_map.1 hp;obtain⟨k',M0,hm⟩:=hrC q k hk;exact Ou hm (h.wfB i c h3 q hq k' M0)
  |ar fz c=>cases h4
  |mv=>cases h4
 ·intro b hb;exact h.ownd b (hX b hb)
 ·intro j bx b o hb hlb hβ1 Cx k hk;obtain⟨i,b0,_,h3,h4,e⟩:=hold hb;subst h4;refine h.rngB i b0 b o h3 ?_ (by rw[<-e];exact hβ1) Cx k ?_
  ·cases b0<;>exact hlb
  ·cases b0 with
   |st c=>simpa [BR,Ak2] using hk
   |ar fz c=>exact hk
   |mv=>exact hk
 ·intro i hi;exact⟨Ou (hpn i hi) (h.pin i hi).1,(hβ (hpn i hi)).trans (h.pin i hi).2⟩
 ·intro j c b o hb hβ1 Cx;obtain⟨i,b0,hm,h3,h4,e⟩:=hold hb;cases b0 with
  |st c0=>
   obtain⟨k,rfl,hk⟩:=h.stp i c0 b o h3 (by rw[<-e];exact hβ1) Cx
   exact⟨k,BP h1 hm (hpn k hk),hk⟩
  |ar fz c0=>cases h4
  |mv=>cases h4
 ·intro b hY hb;exact h.Yx b hY (hX b hb)
theorem Wd{m:List (Nat × Nat)}{q:Nat × Nat}{o n:Nat}(h:q∈m):q∈NV m o n:=by
 unfold NV;split
 ·exact h
 ·exact Bu.2 (.inl h)
theorem L1{q:Nat × Nat}{new:Nat}:∀{c:Al}{j:Nat}{m:List (Nat × Nat)},q∈m->q∈S4 N new c j m
 |[],_,_,h=>h
 |p::c,j,m,h=>by
  unfold S4;split
  ·rename_i e;cases e
  ·rename_i e;cases e;exact L1 (Wd h)
  ·rename_i e;cases e;exact L1 h
theorem TC{q:Nat × Nat}{m:List (Nat × Nat)}{i:Nat}(h:q∈m):q∈FD N s m i:=by
 unfold FD;split
 ·exact Wd h
 ·split
  ·exact h
  ·split
   ·exact L1 (Wd h)
   ·exact Wd h
 ·exact L1 h
 ·exact h
theorem Z8{q:Nat × Nat}:∀{l:B8}{m:List (Nat × Nat)},q∈m->q∈l.foldl (FD N s) m
 |[],_,h=>h
 |_::l,_,h=>Z8 (l:=l) (TC h)
theorem Sp{q:Nat × Nat}{m:List (Nat × Nat)}(h:q∈m):∀k,q∈Up N s.hp k m
 |0=>h
 |k+1=>by
  unfold Up;split
  ·exact L1 (Sp h k)
  ·exact Sp h k
theorem LJ:∀{k i:Nat},i<k->s.hp (Ee N i)≠none->(Ee N i,Ee N i)∈VC N s.hp k
 |0,_,h,_=>by omega
 |k+1,i,h,hn=>by
  unfold VC;by_cases e:i=k
  ·subst e
   have:(s.hp (Ee N i)).isSome=true:=by
    cases hq:s.hp (Ee N i) with
    |none=>exact absurd hq hn
    |some b=>rfl
   rw[this];simp
  ·have:=LJ (k:=k) (i:=i) (by omega) hn;cases (s.hp (Ee N k)).isSome
   ·exact this
   ·exact Bu.2 (.inl this)
theorem DA(h:Dl N w0 X0 Y β s a w){L:Nat}{q:Bool}{K:St->Option R}(hk:Aav N (Nc L N) q s K=some r):∃β' s',K s'=some r/\Dl N w0 X0 Y β' s' a w:=by
 unfold Aav at hk;obtain⟨hb,E6⟩:=Aq hk;simp only[Fb] at hb
 obtain⟨β2,h2⟩:∃β2,Dl N w0 X0 Y β2 (bif q then s else (Nc L N).foldl (PW N) ((Nc L N).foldl (FK N) s)) a w:=by
  cases q
  ·obtain⟨β1,h1⟩:=Qa (fun s β h i=>KP h i) (Nc L N) h;obtain⟨β2,h2⟩:=Qa (fun s β h i=>PT h i) (Nc L N) h1;exact⟨β2,h2⟩
  ·exact⟨β,h⟩
 obtain⟨β3,h3⟩:=QX h2 hb.1 hb.2 (ls:=Nc L N) (fun i hi=>LO hi) (fun i hi=>Z8 (Sp (LJ (X0.p8 i hi) (h2.pin i hi).1) 8));exact⟨β3,_,E6,h3⟩
theorem Uo(h:Dl N w0 X0 Y β s a w){L:Nat}{K:St->Option R}(hk:Y5 N L s K=some r):∃β' s',K s'=some r/\Dl N w0 X0 Y β' s' a w:=DA h hk
theorem VU(h:Dl N w0 X0 Y β s a w){L:Nat}{K:St->Option R}(hk:Abm N L s K=some r):∃β' s',K s'=some r/\Dl N w0 X0 Y β' s' a w:=DA h hk
end
open Go.RowKit
section
variable {R:Type}{r:R}{P:Program}{N:Nat}{w0:World}{X0:Jb}{Y:Nat->Prop}{C:H2}{call:A7}
theorem NB{n:Nat}{F:St->Option R}{s:St}(h:HQ n F s=some r):F s=some r:=by
 unfold HQ at h;split at h
 ·cases h
 ·exact h
theorem TZ{β:Bt}{s:St}{a:Act}{w:World}(h:Dl N w0 X0 Y β s a w){c:Operand}{kt kf:St->Option R}(hk:Ahl s c kt kf=some r):(a.eval c=.bool true/\kt s=some r)\/(a.eval c=.bool false/\kf s=some r):=by
 unfold Ahl at hk;split at hk
 ·rename_i d;split at hk
  ·rename_i b ht;have hv:a.eval (.tmp d)=.bool b:=Cv h (x:=.tmp d) ht;cases b
   ·change kf ⟨Di s.tm d (.sc (.bool false)),s.hp⟩=some r at hk;rw[Zg s.tm ht] at hk;exact .inr ⟨hv,hk⟩
   ·change kt ⟨Di s.tm d (.sc (.bool true)),s.hp⟩=some r at hk;rw[Zg s.tm ht] at hk;exact .inl ⟨hv,hk⟩
  ·rename_i ht;have hu:=Dt h (.tmp d);change Fk _ _ _ (s.tm d) _ at hu;rw[ht] at hu;have Kj:A3 w _ .ub (a.eval (.tmp d)):=hu
   obtain⟨b,hv⟩:∃b,a.eval (.tmp d)=.bool b:=by
    generalize a.eval (.tmp d)=x at Kj;cases Kj with
    |ub b=>exact⟨b,rfl⟩
   obtain⟨h1,h2⟩:=OE hk;cases b
   ·exact .inr ⟨hv,h2⟩
   ·exact .inl ⟨hv,h1⟩
  ·cases hk
 ·exact .inl ⟨rfl,hk⟩
 ·exact .inr ⟨rfl,hk⟩
 ·cases hk
theorem GA{c:Code}{Q:Exit->Act->World->Prop}{F:(St->Option R)->St->Option R}{nm:St->(St->Option R)->Option R}(EW:∀{β s a w} {K:St->Option R},Dl N w0 X0 Y β s a w->nm s K=some r->∃β' s',K s'=some r/\Dl N w0 X0 Y β' s' a w)(hF:∀{β s a w} {K:St->Option R}{Q':Act->World->Prop},Dl N w0 X0 Y β s a w->F K s=some r->(∀s' a' w' β',K s'=some r->Dl N w0 X0 Y β' s' a' w'->Q' a' w')->c.wp P (Exit.then Q' Q) a w):
  ∀(n:Nat) {β s a w},Dl N w0 X0 Y β s a w->Ahc F nm n s=some r->Code.rounds P c Q n a w
 |0,_,_,_,_,_,hk=>by cases hk
 |n+1,β,s,a,w,h,hk=>by
  rw[rounds_succ];refine hF h hk fun s' a' w' β' M0 h'=>?_;obtain⟨β1,s1,E6,h1⟩:=EW h' M0;exact GA EW hF n h1 E6
theorem ZJ{G:Yl}(L0:SK P G w0 X0)(Es:∀f args res,call f args=some res->Eb G P f args res)(hm:P.follows .mixedOrders=true){fu:Nat}:
  ∀(c:Code) {ln:Nat} {lx:Nat->Nat} {lr:Nat} {kn:St->Option R} {kx:Nat->St->Option R} {kr:St->Option R} {β:Bt} {s:St} {a:Act} {w:World} {Q:Exit->Act->World->Prop},Dl N w0 X0 Y β s a w ->
   Qv C P fu N call c ln lx lr kn kx kr s=some r->(∀s' a' w' β',kn s'=some r->Dl N w0 X0 Y β' s' a' w'->Q .normal a' w') ->
   (∀id s' a' w' β',kx id s'=some r->Dl N w0 X0 Y β' s' a' w'->Q (.exit id) a' w')->(∀s' a' w' β',kr s'=some r->Dl N w0 X0 Y β' s' a' w'->Q .ret a' w')->c.wp P Q a w:=by
 intro c
 induction c with
 |skip=>intro ln lx lr kn kx kr β s a w Q h hk hn hx hr;exact wp_skip (hn s a w β hk h)
 |region id ops draw=>
  intro ln lx lr kn kx kr β s a w Q h hk hn hx hr;unfold Qv at hk;cases draw
  ·simp only[TK,CS,cond_false] at hk;exact QK h L0 Es hk hn
  ·simp only[TK,Ap1,QD,cond_true] at hk;cases hb:LV C P ops<;>rw[hb] at hk
   ·obtain⟨Jf,E6⟩:=Aq (show A6 _ _=some r from hk);exact UV h L0 Es hm Jf E6 hn
   ·exact OW h L0 Es hm hb hk hn
 |seq c1 c2 ih1 ih2=>
  intro ln lx lr kn kx kr β s a w Q h hk hn hx hr;unfold Qv at hk
  refine wp_seq (ih1 h hk (fun s' a' w' β' M0 h'=>by
    cases hc:Aju P c1 c2
    ·rw[hc] at M0;exact ih2 h' M0 hn hx hr
    ·rw[hc] at M0;cases hq:FG c1 c2
     ·rw[hq] at M0;obtain⟨β1,s1,E6,h1⟩:=Uo h' (show Y5 _ _ _ _=some r from M0);exact ih2 h1 (NB E6) hn hx hr
     ·rw[hq] at M0;obtain⟨β1,s1,E6,h1⟩:=VU h' (show Abm _ _ _ _=some r from M0);exact ih2 h1 (NB E6) hn hx hr) (fun id s' a' w' β' M0 h'=>hx id s' a' w' β' M0 h') (fun s' a' w' β' M0 h'=>hr s' a' w' β' M0 h'))
 |cond c c1 c2 ih1 ih2=>
  intro ln lx lr kn kx kr β s a w Q h hk hn hx hr;unfold Qv at hk;rcases TZ h hk with⟨hc,E6⟩|⟨hc,E6⟩
  ·exact wp_cond_true hc (ih1 h E6 hn hx hr)
  ·exact wp_cond_false hc (ih2 h E6 hn hx hr)
 |block id c ih=>
  intro ln lx lr kn kx kr β s a w Q h hk hn hx hr;unfold Qv at hk;refine wp_block (ih h hk (fun s' a' w' β' M0 h'=>hn s' a' w' β' M0 h') (fun j s' a' w' β' M0 h'=>?_) (fun s' a' w' β' M0 h'=>hr s' a' w' β' M0 h'));show (if j=id then _ else _);by_cases e:j=id
  ·subst e;rw[Bq rfl];rw[Pz] at M0;exact hn s' a' w' β' M0 h'
  ·rw[Bg e]
   have:Nat.beq j id=false:=by
    cases hb:Nat.beq j id
    ·rfl
    ·exact absurd (D9 hb) e
   rw[this] at M0;exact hx j s' a' w' β' M0 h'
 |loop c ih=>
  intro ln lx lr kn kx kr β s a w Q h hk hn hx hr;unfold Qv at hk;obtain⟨β1,s1,E6,h1⟩:=Uo h hk;refine wp_loop_rounds fu (GA (fun h hk=>Uo h hk) (fun h hk hQ=>?_) fu h1 E6);exact ih h hk hQ (fun id s' a' w' β' M0 h'=>hx id s' a' w' β' M0 h') (fun s' a' w' β' M0 h'=>hr s' a' w' β' M0 h')
 |«exit» id=>intro ln lx lr kn kx kr β s a w Q h hk hn hx hr;exact wp_exit (hx id s a w β hk h)
 |ret=>intro ln lx lr kn kx kr β s a w Q h hk hn hx hr;exact wp_ret (hr s a w β hk h)
 |_=>intro ln lx lr kn kx kr β s a w Q h hk hn hx hr;cases hk
end
open Go.RowKit
theorem Nv:∀{l:List (Nat × Cd)} {i:Nat}{b:Cd},H4 l i=some b->(i,b)∈l
 |[],_,_,h=>by cases h
 |(j,c)::l,i,b,h=>by
  unfold H4 at h;cases hb:Nat.beq i j<;>rw[hb] at h
  ·exact Su _ (Nv h)
  ·have:=D9 hb;cases h;rw[this];simp
theorem QS:∀{l:List (Nat × Cd)},(l.map (·.1)).Nodup->∀{i b},(i,b)∈l->H4 l i=some b
 |[],_,_,_,h=>by cases h
 |(j,c)::l,hn,i,b,h=>by
  simp only[Xy,List.nodup_cons] at hn;unfold H4;rcases List.mem_cons.1 h with e|h
  ·cases e;simp only[Pz,cond_true]
  ·have:Nat.beq i j=false:=by
    cases hb:Nat.beq i j
    ·rfl
    ·exact absurd (D9 hb ▸ List.mem_map.2 ⟨_,h,rfl⟩) hn.1
   simp only[this,cond_false];exact QS hn.2 h
section
variable {R:Type}{r:R}{P:Program}{N:Nat}{w0:World}{X0:Jb}{Y:Nat->Prop}{β β':Bt}{s:St}{a:Act}{w w':World}{A:Nat->Prop}
theorem Af9{id:Nat}{t:CT}{p:PV}{K:PV->List (Nat × Cd)->Option R}(hk:Ahk id t p K=some r):
  (∃c,K c []=some r/\Xl c/\∀w A q u,Hn w A q p u->A3 w A c u)\/∃es n cc,p=.own es n cc/\K (.view id es 0 n) [(id,.ar false cc)]=some r:=by
 have tree:∀t',(CU t' p fun c=>K c [])=some r->∃c,K c []=some r/\Xl c/\∀w A q u,Hn w A q p u->A3 w A c u:=by
  intro t' hk;obtain⟨c,hk,hT,GK,hv⟩:=N1 hk;refine⟨c,hk,hT,fun w A q u h=>(hv w A (fun _=>none) u ?_).1⟩;cases p<;>first|exact h|exact GK.elim
 unfold Ahk at hk;cases t with
 |sl es=>
  dsimp only at hk;split at hk
  ·rename_i es' n c;cases hb:Nat.beq es' es<;>rw[hb] at hk
   ·cases hk
   ·have:=D9 hb;subst this;exact .inr ⟨_,_,_,rfl,hk⟩
  ·exact .inl (tree (.sl es) hk)
 |int k=>exact .inl (tree _ hk)
 |bool=>exact .inl (tree _ hk)
 |str=>exact .inl (tree _ hk)
 |any=>exact .inl (tree _ hk)
theorem Rn:∀{ts:List CT}{id:Nat}{ps:Al}{K:Al->List (Nat × Cd)->Option R},DO N id ts ps K=some r ->
  ∃cs bs,∃qs:List (Nat × Nat),K cs bs=some r/\cs.length=ps.length/\ps.length=ts.length/\bs.map (·.1)=qs.map (·.1)/\(∀q∈qs,∀q'∈qs,q.2=q'.2->q.1=q'.1) /\
   (∀i bx,(i,bx)∈bs->∃c,bx=.ar false c)/\(∀c∈cs,KQ c)/\(∀c∈cs,∀i∈Aw c,∃bx,(i,bx)∈bs) /\
   ∀(w:World) (A:Nat->Prop) (own β':Bt) (j0:Nat) (us:List Value),(∀q∈qs,β' q.1=own (j0+q.2))->F1 w A own j0 ps us->Bo (Cn w A β') cs us/\∀i bx,(i,bx)∈bs->Tg w A β' i bx
 |[],id,ps,K,hk=>by
  obtain⟨rfl,hk⟩:=Ej hk;refine⟨[],[],[],hk,rfl,rfl,rfl,by simp,by simp,by simp,by simp,fun w A own β' j0 us _ h=>⟨?_,by simp⟩⟩;cases us with
  |nil=>trivial
  |cons u us=>exact h.elim
 |t::ts,id,ps,K,hk=>by
  unfold DO at hk;obtain⟨p,ps',EQ,E6⟩:=Bh hk;subst EQ;rcases Af9 E6 with⟨c,F3,hT,hv⟩|⟨es,n,cc,rfl,F3⟩
  ·obtain⟨cs,bs,qs,Mx,hl,Pu,hb,K7,Fy,hF,It,T8⟩:=Rn F3;refine⟨c::cs,bs,qs.map (fun q=>(q.1,q.2+1)),Mx,by simp[hl],by simp[Pu],by rw[hb];simp,?_,Fy,?_,?_,fun w A own β' j0 us hβ ho=>?_⟩
   ·intro q hq q' Gz e;obtain⟨q0,Wm,rfl⟩:=List.mem_map.1 hq;obtain⟨q1,Kx,rfl⟩:=List.mem_map.1 Gz;exact K7 q0 Wm q1 Kx (by simp only at e;omega)
   ·intro y hy;rcases List.mem_cons.1 hy with rfl|hy
    ·exact Sy hT
    ·exact hF y hy
   ·intro y hy i hi;rcases List.mem_cons.1 hy with rfl|hy
    ·rw[I1 hT] at hi;cases hi
    ·exact It y hy i hi
   ·cases us with
    |nil=>exact ho.elim
    |cons u us=>
     obtain⟨h1,h2⟩:=T8 w A own β' (j0+1) us (fun q hq=>by rw[hβ _ (List.mem_map_of_mem hq)];congr 1;simp only;omega) ho.2
     exact⟨⟨Ahp (hv w A _ u ho.1),h1⟩,h2⟩
  ·obtain⟨cs,bs,qs,Mx,hl,Pu,hb,K7,Fy,hF,It,T8⟩:=Rn F3;refine⟨_::cs,(id,.ar false cc)::bs,(id,0)::qs.map (fun q=>(q.1,q.2+1)),Mx,by simp[hl],by simp[Pu],by simp only[Xy,hb];simp,?_,?_,?_,?_,fun w A own β' j0 us hβ ho=>?_⟩
   ·intro q hq q' Gz e;rcases List.mem_cons.1 hq with rfl|hq
    ·rcases List.mem_cons.1 Gz with rfl|Gz
     ·rfl
     ·obtain⟨q0,Wm,rfl⟩:=List.mem_map.1 Gz;simp only at e;omega
    ·obtain⟨q0,Wm,rfl⟩:=List.mem_map.1 hq;rcases List.mem_cons.1 Gz with rfl|Gz
     ·simp only at e;omega
     ·obtain⟨q1,Kx,rfl⟩:=List.mem_map.1 Gz;exact K7 q0 Wm q1 Kx (by simp only at e;omega)
   ·intro i bx hm;rcases List.mem_cons.1 hm with e|hm
    ·cases e;exact⟨cc,rfl⟩
    ·exact Fy i bx hm
   ·intro y hy;rcases List.mem_cons.1 hy with rfl|hy
    ·trivial
    ·exact hF y hy
   ·intro y hy i hi;rcases List.mem_cons.1 hy with rfl|hy
    ·simp only[Aw,P7] at hi;subst hi;exact⟨_,Yd⟩
    ·obtain⟨bx,My⟩:=It y hy i hi;exact⟨bx,Su _ My⟩
   ·cases us with
    |nil=>exact ho.elim
    |cons u us=>
     obtain⟨h1,h2⟩:=T8 w A own β' (j0+1) us (fun q hq=>by rw[hβ _ (Su _ (List.mem_map_of_mem hq))];congr 1;simp only;omega) ho.2
     have h0:=hβ (id,0) Yd;simp only[KT] at h0;refine⟨⟨?_,h1⟩,fun i bx hm=>?_⟩
     ·rcases ho.1 with⟨h3,rfl,_,h5⟩|⟨b,ob,cap,h3,h4,h5,h6,h7,_⟩
      ·exact .inl ⟨h0.trans h3,rfl,rfl,h5⟩
      ·exact .inr ⟨b,ob,ob,cap,h0.trans h3,h4,.inl rfl,h5,h6,h7⟩
     ·rcases List.mem_cons.1 hm with e|hm
      ·cases e;exact Y8 ho.1 h0
      ·exact h2 i bx hm
theorem Als{i:Nat}{t:TypeId}{p:PV}{K:PV->List (Nat × Cd)->Option R}(hk:inK P N i t p K=some r):
  ∃v bs,∃qs:List (Nat × Nat),K v bs=some r/\bs.map (·.1)=qs.map (·.1)/\(∀q∈qs,∀q'∈qs,q.2=q'.2->q.1=q'.1)/\(AQ p=true->(Ee N i,0)∈qs/\i<8) /\
   (∀id bx,(id,bx)∈bs->D1 (some bx)/\∀c,bx=.st c->id=Ee N i/\AQ p=true)/\(∀id∈Ch v,∃bx,(id,bx)∈bs)/\AY bs /\
   ∀(w:World) (A:Nat->Prop) (bt β':Bt) (u:Value),(∀q∈qs,β' q.1=bt q.2)->SQ w A bt p u->Fk w A β' v u/\(∀id bx,(id,bx)∈bs->Tg w A β' id bx) /\
    ∀id bx b o,(id,bx)∈bs->β' id=some (b,o)->∀j,BR bx o j->Aro bt p b j:=by
 have owns:∀{bs:List (Nat × Cd)} {qs:List (Nat × Nat)},bs.map (·.1)=qs.map (·.1)->(∀i bx,(i,bx)∈bs->∃c,bx=.ar false c)->∀{bt β':Bt},(∀q∈qs,β' q.1=bt (1+q.2))->∀id bx b o,(id,bx)∈bs->β' id=some (b,o)->∀j,BR bx o j->∃k o',bt (k+1)=some (b,o')/\o'<=j:=by
  intro bs qs hb Fy bt β' hβ id bx b o hm OQ j hj;have:id∈qs.map (·.1):=by rw[<-hb];exact List.mem_map.2 ⟨_,hm,rfl⟩
  obtain⟨q,hq,rfl⟩:=List.mem_map.1 this;obtain⟨c,rfl⟩:=Fy _ _ hm;rw[hβ q hq,Nat.add_comm] at OQ;exact⟨q.2,o,OQ,hj⟩
 have nost:∀{bs:List (Nat × Cd)},(∀i bx,(i,bx)∈bs->∃c,bx=.ar false c)->AY bs:=by
  intro bs Fy id cells hm;obtain⟨c,e⟩:=Fy id _ hm;cases e
 unfold inK at hk;split at hk
 ·rename_i e he;obtain⟨ps,rfl,E6⟩:=MK hk;obtain⟨hi8,F3⟩:=Aq E6;have hi8:i<8:=Nat.lt_of_succ_le (Rc hi8);obtain⟨cs,bs,qs,Mx,hl,Pu,hb,K7,Fy,hF,It,hv⟩:=Rn F3;refine⟨_,_,(Ee N i,0)::qs.map (fun q=>(q.1,q.2+1)),Mx,by simp only[Xy,hb];simp,?_,fun _=>⟨Yd,hi8⟩,?_,?_,?_,fun w A bt β' u hβ hp=>?_⟩
  ·intro q hq q' Gz e;rcases List.mem_cons.1 hq with rfl|hq
   ·rcases List.mem_cons.1 Gz with rfl|Gz
    ·rfl
    ·obtain⟨q0,Wm,rfl⟩:=List.mem_map.1 Gz;simp only at e;omega
   ·obtain⟨q0,Wm,rfl⟩:=List.mem_map.1 hq;rcases List.mem_cons.1 Gz with rfl|Gz
    ·simp only at e;omega
    ·obtain⟨q1,Kx,rfl⟩:=List.mem_map.1 Gz;exact K7 q0 Wm q1 Kx (by simp only at e;omega)
  ·intro id bx hm;rcases List.mem_cons.1 hm with e|hm
   ·cases e;exact⟨trivial,fun _ _=>⟨rfl,rfl⟩⟩
   ·obtain⟨c,rfl⟩:=Fy id bx hm;exact⟨trivial,fun _ e=>by cases e⟩
  ·intro id B1;simp only[Ch,C5,Aw,P7] at B1;subst B1;exact⟨_,Yd⟩
  ·intro id cells hm c hc k hk;rcases List.mem_cons.1 hm with e|hm
   ·cases e;obtain⟨bx,My⟩:=It c hc k hk;exact⟨bx,Su _ My⟩
   ·obtain⟨c,e⟩:=Fy id _ hm;cases e
  ·obtain⟨b,o,h1,rfl,_,vs,h3,h4,h5⟩:=hp;have h0:=hβ (Ee N i,0) Yd;simp only at h0;have hβ1:∀q∈qs,β' q.1=bt (1+q.2):=fun q hq=>by rw[hβ _ (Su _ (List.mem_map_of_mem hq)),Nat.add_comm]
   obtain⟨h6,h7⟩:=hv w A bt β' 1 vs hβ1 h3;refine⟨⟨b,o,h0.trans h1,by simp⟩,fun id bx hm=>?_,fun id bx b' o' hm Jf j hj=>?_⟩
   ·rcases List.mem_cons.1 hm with e|hm
    ·cases e;refine⟨b,o,h0.trans h1,fun k c hk=>?_,fun k hk=>h5 k (by omega)⟩;obtain⟨v,hv,RN⟩:=h6.get hk;exact⟨v,h4 k v hv,RN⟩
    ·exact h7 id bx hm
   ·rcases List.mem_cons.1 hm with e|hm
    ·cases e;rw[h0] at Jf;have hj:o'<=j/\j<o'+cs.length:=hj;exact .inr ⟨o',ps,Jf,hj.1,.inl ⟨rfl,by omega⟩⟩
    ·exact .inl (owns hb Fy hβ1 id bx b' o' hm Jf j hj)
 ·split at hk
  ·rename_i ps;obtain⟨e,he,E6⟩:=Cz hk;obtain⟨hi8,F3⟩:=Aq E6;have hi8:i<8:=Nat.lt_of_succ_le (Rc hi8);obtain⟨q,qr,hq,Mx⟩:=Bh F3;subst hq;obtain⟨AU,V3⟩:=Ej Mx;subst AU;unfold FJ at V3;split at V3
   ·rename_i es' n c;cases hb:Nat.beq es' (Bj P e)<;>rw[hb] at V3
    ·cases V3
    ·have Tr:=D9 hb;subst Tr;refine⟨_,_,[(Ee N i,0)],V3,rfl,by simp,fun _=>⟨by simp,hi8⟩,?_,?_,?_,fun w A bt β' u hβ hp=>?_⟩
     ·intro id bx hm;simp only[P7] at hm;cases hm;exact⟨trivial,fun _ e=>by cases e⟩
     ·intro id B1;simp only[Ch,C5,Aw,P7] at B1;subst B1;exact⟨_,Yd⟩
     ·intro id cells hm;simp only[P7] at hm;cases hm
     ·obtain⟨es,n',c',h1,h2⟩:=hp;cases h1;have h0:=hβ (Ee N i,0) Yd;simp only at h0;refine⟨?_,fun id bx hm=>?_,fun id bx b' o' hm Jf j hj=>?_⟩
      ·rcases h2 with⟨h3,rfl,_,h5⟩|⟨b,ob,cap,h3,h4,h5,h6,h7,_⟩
       ·exact .inl ⟨h0.trans h3,rfl,rfl,h5⟩
       ·exact .inr ⟨b,ob,ob,cap,h0.trans h3,h4,.inl rfl,h5,h6,h7⟩
      ·simp only[P7] at hm;cases hm;exact Y8 h2 h0
      ·simp only[P7] at hm;cases hm;rw[h0] at Jf;exact .inr ⟨o',_,Jf,hj,.inr rfl⟩
   ·cases V3
  ·rename_i YP;cases G4:Cp P t<;>rw[G4] at hk
   ·simp only[cond_false] at hk;obtain⟨cs,bs,qs,Mx,hl,Pu,hb,K7,Fy,hF,It,hv⟩:=Rn hk;obtain⟨c,cs',EV,V3⟩:=Bh Mx;subst EV;obtain⟨AU,YH⟩:=Ej V3;subst AU;have hFc:=hF c (by simp)
    have hnL:AQ p=false\/∃ps,p=.pbox ps:=by
     cases p<;>first|exact .inl rfl|exact .inr ⟨_,rfl⟩|exact absurd rfl (YP _)
    have hpb:∀ps,p ≠ .pbox ps:=by
     rintro ps rfl
     cases RG:Jj P t with
     |nil=>rw[RG] at Pu;simp at Pu
     |cons t' ts=>
      rw[RG] at hk;unfold DO Ahk at hk;obtain⟨q,qs1,hq,E6⟩:=Bh hk;cases hq;cases t'<;>simp[CU,Xw,Eh,Cb,Ai,fnK] at E6
    have hpa:∀ps,p ≠ .agg ps:=by
     rintro ps rfl
     cases RG:Jj P t with
     |nil=>rw[RG] at Pu;simp at Pu
     |cons t' ts=>
      rw[RG] at hk;unfold DO Ahk at hk;obtain⟨q,qs1,hq,E6⟩:=Bh hk;cases hq;cases t'<;>simp[CU,Xw,Eh,Cb,Ai,fnK] at E6
    have hnL:AQ p=false:=hnL.elim id (fun ⟨ps,e⟩=>absurd e (hpb ps));have Xd:Ch c=Aw c:=by cases c<;>first|rfl|exact hFc.elim
    refine⟨c,bs,qs.map (fun q=>(q.1,q.2+1)),YH,by rw[hb];simp,?_,(fun h=>by rw[hnL] at h;cases h),?_,fun id B1=>It c (by simp) id (by rw[<-Xd];exact B1),nost Fy,fun w A bt β' u hβ hp=>?_⟩
    ·intro q hq q' Gz e;obtain⟨q0,Wm,rfl⟩:=List.mem_map.1 hq;obtain⟨q1,Kx,rfl⟩:=List.mem_map.1 Gz;exact K7 q0 Wm q1 Kx (by simp only at e;omega)
    ·intro id bx hm;obtain⟨c,rfl⟩:=Fy id bx hm;exact⟨trivial,fun _ e=>by cases e⟩
    ·have Dn:Hn w A (bt 1) p u:=by cases p<;>first|exact hp.2|exact absurd rfl (hpa _)|exact absurd rfl (hpb _)|exact absurd rfl (YP _)
     have hβ1:∀q∈qs,β' q.1=bt (1+q.2):=fun q hq=>by rw[hβ _ (List.mem_map_of_mem hq),Nat.add_comm]
     obtain⟨h6,h7⟩:=hv w A bt β' 1 [u] hβ1 ⟨Dn,trivial⟩;refine⟨?_,h7,fun id bx b' o' hm Jf j hj=>.inl (owns hb Fy hβ1 id bx b' o' hm Jf j hj)⟩;have h8:=h6.1;cases c<;>first|exact h8|exact hFc.elim
   ·simp only[cond_true] at hk;obtain⟨ps,M8,E6⟩:=Iv hk;subst M8;obtain⟨cs,bs,qs,Mx,hl,Pu,hb,K7,Fy,hF,It,hv⟩:=Rn E6;refine⟨_,bs,qs.map (fun q=>(q.1,q.2+1)),Mx,by rw[hb];simp,?_,(fun h=>by cases h),?_,fun id B1=>?_,nost Fy,fun w A bt β' u hβ hp=>?_⟩
    ·intro q hq q' Gz e;obtain⟨q0,Wm,rfl⟩:=List.mem_map.1 hq;obtain⟨q1,Kx,rfl⟩:=List.mem_map.1 Gz;exact K7 q0 Wm q1 Kx (by simp only at e;omega)
    ·intro id bx hm;obtain⟨c,rfl⟩:=Fy id bx hm;exact⟨trivial,fun _ e=>by cases e⟩
    ·obtain⟨c,hc,hi⟩:=List.mem_flatMap.1 (show id∈cs.flatMap Aw from B1);exact It c hc id hi
    ·obtain⟨vs,h1,_,h3⟩:=hp;have hβ1:∀q∈qs,β' q.1=bt (1+q.2):=fun q hq=>by rw[hβ _ (List.mem_map_of_mem hq),Nat.add_comm]
     obtain⟨h6,h7⟩:=hv w A bt β' 1 vs hβ1 h3;exact⟨⟨vs,h1,h6⟩,h7,fun id bx b' o' hm Jf j hj=>.inl (owns hb Fy hβ1 id bx b' o' hm Jf j hj)⟩
theorem TW:∀{ts:List TypeId}{i:Nat}{ps:Al}{K:List (Nat × PV)->List (Nat × Cd)->Option R},Afb P N i ts ps K=some r ->
  ∃tms bs,∃qs:List (Nat × Nat × Nat),K tms bs=some r/\bs.map (·.1)=qs.map (·.1)/\(∀q∈qs,i<=q.2.1)/\(∀q∈qs,∀q'∈qs,q.2=q'.2->q.1=q'.1) /\
   (∀k p,ps[k]?=some p->AQ p=true->(Ee N (i+k),i+k,0)∈qs/\i+k<8)/\(∀id bx,(id,bx)∈bs->D1 (some bx)/\∀c,bx=.st c->∃k p,ps[k]?=some p/\AQ p=true/\id=Ee N (i+k)) /\
   (∀j,∀id∈Ch (lk tms j),∃bx,(id,bx)∈bs)/\AY bs /\
   ∀(w:World) (A:Nat->Prop) (bt:AO) (β':Bt) (us:List Value),(∀q∈qs,β' q.1=bt q.2.1 q.2.2)->Ma w A bt i ps us ->
    (∀j,(∃u,i<=j/\us[j-i]?=some u/\Fk w A β' (lk tms j) u)\/(lk tms j=.top/\(i<=j->us[j-i]?=none)))/\(∀id bx,(id,bx)∈bs->Tg w A β' id bx) /\
    ∀id bx b o,(id,bx)∈bs->β' id=some (b,o)->∀j,BR bx o j->∃k p,ps[k]?=some p/\Aro (bt (i+k)) p b j
 |[],i,ps,K,hk=>by
  obtain⟨EQ,hk⟩:=Ej hk;subst EQ;refine⟨[],[],[],hk,rfl,by simp,by simp,by simp,by simp,(fun j id B1=>by cases B1),(by intro i cells hm;cases hm),fun w A bt β' us _ h=>?_⟩
  cases us with
  |nil=>exact⟨fun j=>.inr ⟨rfl,fun _=>by simp⟩,by simp,by simp⟩
  |cons u us=>exact h.elim
 |t::ts,i,ps,K,hk=>by
  unfold Afb at hk;obtain⟨p,ps',EQ,E6⟩:=Bh hk;subst EQ;obtain⟨v,bs,qs,F3,hb,hqi,GO,My,hr,ZB,hv⟩:=Als E6;obtain⟨tms,bs',qs',Mx,Jf,Arh,A19,Axw,A0q,hr',Azw,Qo⟩:=TW F3;refine⟨(i,v)::tms,bs++bs',qs.map (fun q=>(q.1,i,q.2))++qs',Mx,by simp only[List.map_append,hb,Jf];simp,?_,?_,?_,?_,?_,?_,fun w A bt β' us hβ hp=>?_⟩
  ·intro q hq;rcases Bu.1 hq with hq|hq
   ·obtain⟨q0,Wm,rfl⟩:=List.mem_map.1 hq;exact Cc _
   ·have:=Arh q hq;omega
  ·intro q hq q' Gz e;rcases Bu.1 hq with hq|hq
   ·obtain⟨q0,Wm,rfl⟩:=List.mem_map.1 hq;rcases Bu.1 Gz with Gz|Gz
    ·obtain⟨q1,Kx,rfl⟩:=List.mem_map.1 Gz;simp only[Prod.mk.injEq,true_and] at e;exact hqi q0 Wm q1 Kx e
    ·have:=Arh q' Gz;rw[<-e] at this;simp only at this;omega
   ·have h5:=Arh q hq;rcases Bu.1 Gz with Gz|Gz
    ·obtain⟨q1,Kx,rfl⟩:=List.mem_map.1 Gz;rw[e] at h5;simp only at h5;omega
    ·exact A19 q hq q' Gz e
  ·intro k p' M0 hL;cases k with
   |zero=>
    simp only[List.getElem?_cons_zero,Option.some.injEq] at M0;subst M0;obtain⟨h1,h2⟩:=GO hL;exact⟨Bu.2 (.inl (List.mem_map.2 ⟨_,h1,rfl⟩)),h2⟩
   |succ k=>
    obtain⟨h1,h2⟩:=Axw k p' (by simpa using M0) hL;rw[show i+1+k=i+(k+1) by omega] at h1 h2;exact⟨Bu.2 (.inr h1),h2⟩
  ·intro id bx hm;rcases Bu.1 hm with hm|hm
   ·obtain⟨h1,h2⟩:=My id bx hm;exact⟨h1,fun c hc=>⟨0,p,rfl,(h2 c hc).2,(h2 c hc).1⟩⟩
   ·obtain⟨h1,h2⟩:=A0q id bx hm;refine⟨h1,fun c hc=>?_⟩;obtain⟨k,p',h3,h4,h5⟩:=h2 c hc;exact⟨k+1,p',by simpa using h3,h4,by rw[h5,show i+1+k=i+(k+1) by omega]⟩
  ·intro j id B1;unfold lk at B1;cases hbq:Nat.beq j i<;>rw[hbq] at B1
   ·obtain⟨bx,h1⟩:=hr' j id B1;exact⟨bx,Bu.2 (.inr h1)⟩
   ·obtain⟨bx,h1⟩:=hr id B1;exact⟨bx,Bu.2 (.inl h1)⟩
  ·intro id cells hm c hc k hk;rcases Bu.1 hm with hm|hm
   ·obtain⟨bx,h1⟩:=ZB id cells hm c hc k hk;exact⟨bx,Bu.2 (.inl h1)⟩
   ·obtain⟨bx,h1⟩:=Azw id cells hm c hc k hk;exact⟨bx,Bu.2 (.inr h1)⟩
  ·cases us with
   |nil=>exact hp.elim
   |cons u us=>
    obtain⟨h1,h2,h3⟩:=hv w A (bt i) β' u (fun q hq=>hβ _ (Bu.2 (.inl (List.mem_map_of_mem hq)))) hp.1;obtain⟨OO,h2',h3'⟩:=Qo w A bt β' us (fun q hq=>hβ q (Bu.2 (.inr hq))) hp.2;refine⟨fun j=>?_,fun id bx hm=>?_,fun id bx b o hm OQ j hj=>?_⟩
    ·unfold lk;cases hbq:Nat.beq j i
     ·have Er:=N6 hbq;simp only[cond_false];rcases OO j with⟨u',h4,h5,h6⟩|⟨h4,h5⟩
      ·refine .inl ⟨u',by omega,?_,h6⟩;rw[show j-i=(j-(i+1))+1 by omega]
       simpa using h5
      ·refine .inr ⟨h4,fun hij=>?_⟩;rw[show j-i=(j-(i+1))+1 by omega]
       simpa using h5 (by omega)
     ·have:=D9 hbq;subst this;exact .inl ⟨u,Cc _,by simp,h1⟩
    ·rcases Bu.1 hm with hm|hm
     ·exact h2 id bx hm
     ·exact h2' id bx hm
    ·rcases Bu.1 hm with hm|hm
     ·exact⟨0,p,rfl,h3 id bx b o hm OQ j hj⟩
     ·obtain⟨k,p',h4,h5⟩:=h3' id bx b o hm OQ j hj;exact⟨k+1,p',by simpa using h4,by rw[show i+(k+1)=i+1+k by omega];exact h5⟩
def YE(bt:AO)(args:Al)(h8:∀k p,args[k]?=some p->AQ p=true->k<8):Jb:=
 ⟨BtX bt,GJ bt args,fun i=>∃p,args[i]?=some p/\AQ p=true,fun i=>bt i 0,fun i ⟨p,h1,h2⟩=>h8 i p h1 h2⟩
theorem Ab3{ts:List TypeId}{args:Al}{us:List Value}{bt:AO}{K:List (Nat × PV)->List (Nat × Cd)->Option R}(Xg:Ins w Y bt args us)(hk:Afb P N 0 ts args K=some r):
  ∃tms bs,K tms bs=some r/\(Cf (fun _=>none) bs=true->us.length<=N->∃(h8:∀k p,args[k]?=some p->AQ p=true->k<8),∃β0,
   Dl N w (YE bt args h8) Y β0 ⟨lk tms,H4 bs⟩ { tmps:=us.toArray++Array.replicate (N-us.toArray.size) undef,defers:=[] } w):=by
 obtain⟨tms,bs,qs,E6,hb,Wm,hqi,GO,My,hr,ZB,hv⟩:=TW hk;refine⟨tms,bs,E6,fun Rh hN=>?_⟩;have ZF:=Sn Rh
 have h8:∀k p,args[k]?=some p->AQ p=true->k<8:=fun k p h1 h2=>by
  have:=(GO k p h1 h2).2;omega
 have KG:(qs.map (·.1)).Nodup:=by rw[<-hb];exact ZF
 obtain⟨β0,hβ0⟩:∃β0:Bt,∀q∈qs,β0 q.1=bt q.2.1 q.2.2:=by
  have:∀(l:List (Nat × Nat × Nat)),(l.map (·.1)).Nodup->∃β0:Bt,∀q∈l,β0 q.1=bt q.2.1 q.2.2:=by
   intro l
   induction l with
   |nil=>intro _;exact⟨fun _=>none,by simp⟩
   |cons q l ih=>
    intro hn;simp only[Xy,List.nodup_cons] at hn;obtain⟨b1,h1⟩:=ih hn.2;refine⟨Di b1 q.1 (bt q.2.1 q.2.2),fun q' Gz=>?_⟩;rcases List.mem_cons.1 Gz with rfl|Gz
    ·exact At _ _ _
    ·have Er:q'.1≠q.1:=fun e=>hn.1 (by rw[<-e];exact List.mem_map.2 ⟨q',Gz,rfl⟩)
     rw[Ap _ _ Er];exact h1 q' Gz
  exact this qs KG
 refine⟨h8,β0,?_⟩;obtain⟨hs,RK,hL⟩:=hv w _ bt β0 us hβ0 Xg.args
 have hqm:∀id bx,(id,bx)∈bs->∃ik,(id,ik)∈qs/\β0 id=bt ik.1 ik.2:=by
  intro id bx hm;have:id∈qs.map (·.1):=by rw[<-hb];exact List.mem_map.2 ⟨_,hm,rfl⟩
  obtain⟨q,hq,rfl⟩:=List.mem_map.1 this;exact⟨q.2,hq,hβ0 q hq⟩
 have hX:∀b,OT (H4 bs) β0 b->BtX bt b:=by
  rintro b ⟨id,o,hl,hβ⟩
  cases hq:H4 bs id with
  |none=>rw[hq] at hl;exact hl.elim
  |some bx=>
   obtain⟨ik,_,h2⟩:=hqm id bx (Nv hq);rw[h2] at hβ;exact⟨_,_,_,hβ⟩
 have hA:∀b,D2 (H4 bs) β0 Y b->BtX bt b\/Y b:=fun b hb=>hb.imp (hX b) id;have Anc:∀{p:PV} {u:Value},Fk w (fun b=>BtX bt b\/Y b) β0 p u->Fk w (D2 (H4 bs) β0 Y) β0 p u:=fun h=>h.step (Cy.refl _ _) (fun b _=>hA b) (fun _ _=>rfl);refine⟨rfl,by simp;omega,fun i hi=>?_,fun i hi=>?_,?_,?_,?_,fun i hi id B1=>?_,?_,fun b hb=>.inl (hX b hb),?_,?_,?_,fun b hY hXb=>Xg.Yx b hY (hX b hXb),Xg.Ylt,⟨rfl,rfl,rfl,Cy.refl _ _,fun _ _ _ _=>⟨rfl,rfl⟩⟩⟩
 ·rcases hs i with⟨u,_,h,_⟩|⟨h,_⟩
  ·rw[Nat.sub_zero,List.getElem?_eq_none (by omega)] at h;cases h
  ·exact h
 ·rcases hs i with⟨u,_,h,hv⟩|⟨h,h'⟩
  ·rw[Nat.sub_zero] at h
   have Cx:i<us.length:=by
    rcases Ht i us.length with h'|h'
    ·exact h'
    ·rw[List.getElem?_eq_none h'] at h;cases h
   have:(us.toArray++Array.replicate (N-us.toArray.size) undef).getD i undef=u:=by
    rw[Array.getD_eq_getD_getElem?,Array.getElem?_append_left (by simpa using Cx)];simp[h]
   show Fk w _ _ _ ((us.toArray++Array.replicate (N-us.toArray.size) undef).getD i undef);rw[this];exact Anc hv
  ·show Fk w _ _ (lk tms i) _;rw[h];exact A3.top _
 ·intro id bx hq;exact (RK id bx (Nv hq)).step' hA
 ·intro id id' b o o' hl Lp hβ hβ';cases hq:H4 bs id with
  |none=>change D1 (H4 bs id) at hl;rw[hq] at hl;exact hl.elim
  |some bx=>
   cases Gz:H4 bs id' with
   |none=>change D1 (H4 bs id') at Lp;rw[Gz] at Lp;exact Lp.elim
   |some bx'=>
    obtain⟨ik,h1,h2⟩:=hqm id bx (Nv hq);obtain⟨ik',OO,h2'⟩:=hqm id' bx' (Nv Gz);rw[h2] at hβ;rw[h2'] at hβ';obtain⟨h3,h4⟩:=Xg.inj _ _ _ _ b o o' hβ hβ';exact hqi _ h1 _ OO (Prod.ext h3 h4)
 ·intro id b o hn hβ;cases hq:H4 bs id with
  |none=>exact absurd hq hn
  |some bx=>
   obtain⟨ik,h1,h2⟩:=hqm id bx (Nv hq);rw[h2] at hβ;exact Xg.lt b ⟨_,_,_,hβ⟩
 ·obtain⟨bx,hm⟩:=hr i id B1;show H4 bs id≠none;rw[QS ZF hm];simp
 ·intro id cells hq c hc k hk;obtain⟨bx,hm⟩:=ZB id cells (Nv hq) c hc k hk;show H4 bs k≠none;rw[QS ZF hm];simp
 ·intro id bx b o hq hl hβ _ j hj;obtain⟨k,p,h1,h2⟩:=hL id bx b o (Nv hq) hβ j hj;rw[Ob] at h2;exact⟨k,p,h1,h2⟩
 ·rintro i ⟨p,h1,h2⟩
  have h3:=(GO i p h1 h2).1;rw[Ob] at h3;refine⟨?_,hβ0 _ h3⟩;have:Ee N i∈bs.map (·.1):=by rw[hb];exact List.mem_map.2 ⟨_,h3,rfl⟩
  obtain⟨⟨id,bx⟩,hm,e⟩:=List.mem_map.1 this;show H4 bs (Ee N i)≠none;rw[<-e,QS ZF hm];simp
 ·intro id c b o hq _ _;obtain⟨k,p,h1,h2,h3⟩:=(My id _ (Nv hq)).2 c rfl;rw[Ob] at h3;exact⟨k,h3,p,h1,h2⟩
end
open Go.RowKit
def L3(β:Bt)(l:List (Option Nat))(j:Nat):Option (Nat × Nat):=((l[j]?).bind id).bind β
section
variable {R:Type}{r:R}{P:Program}{N:Nat}{w0:World}{X0:Jb}{Y:Nat->Prop}{β β':Bt}{s:St}{a:Act}{w w':World}{A:Nat->Prop}
def Ahw(s:St)(l:List (Option Nat)):Prop:=∀id,some id∈l->D1 (s.hp id)
def Nh(s:St)(z:B8):Prop:=∀id∈z,∃f c,s.hp id=some (.ar f c)
theorem NY(h : Dl N w0 X0 Y β s a w){shr : Bool}{t : CT}{p : PV}{K : PV -> B8 -> B8 -> Option R}(hk : Aa3 shr s.hp t p K = some r):
    ∃ c q z, K c (Option.toList q) z = some r /\ (∀ x, c ≠ .agg x /\ c ≠ .pbox x) /\ KQ p /\ (∀ id, q = some id -> ∃ c, s.hp id = some (.ar false c)) /\ Nh s z /\
      ∀ (fz : B8) A u, (∀ i ∈ z, i ∈ fz) -> Nh s fz -> (∀ b, A b -> D2 (Aj s.hp fz) β Y b) -> Cn w (D2 s.hp β Y) β p u -> Hn w A (q.bind β) c u := by
  have notree : ∀ {c : PV}, Xl c -> ∀ x, c ≠ .agg x /\ c ≠ .pbox x := fun hT x => ⟨Y9 hT x, by rintro rfl; exact hT⟩
  unfold Aa3 at hk
  cases shr <;> simp only[cond_true, cond_false] at hk
  · have tree : ∀ t', (∀ es, t' ≠ .sl es) -> (CU t' p fun c => K c [] []) = some r -> ∃ c q z, K c (Option.toList q) z = some r /\ (∀ x, c ≠ .agg x /\ c ≠ .pbox x) /\ KQ p /\ (∀ id, q = some id -> ∃ c, s.hp id = some (.ar false c)) /\ Nh s z /\
        ∀ (fz : B8) A u, (∀ i ∈ z, i ∈ fz) -> Nh s fz -> (∀ b, A b -> D2 (Aj s.hp fz) β Y b) -> Cn w (D2 s.hp β Y) β p u -> Hn w A (q.bind β) c u := by
      intro t' Er hk
      obtain⟨c, E6, hT, GK, hv⟩ := N1 hk
      refine⟨c, none, [], E6, notree hT, Sy GK, by simp, (by intro i hi; cases hi), fun fz A u _ _ hA hc => Lg hT ?_⟩
      exact (hv w _ β u hc).1.step (Cy.refl _ _) (fun b _ hb => Pa (hA b hb))
    unfold Apu at hk
    cases t with
    | sl es =>
      dsimp only at hk
      split at hk
      · rename_i id es' off n
        cases hb : (Nat.beq es' es && Nat.beq off 0) <;> rw[hb] at hk
        · cases hk
        · simp only[Fb] at hb
          have he := D9 hb.1
          have ho := D9 hb.2
          subst he ho
          simp only[cond_true] at hk
          split at hk
          · rename_i c h0
            obtain⟨hl, E6⟩ := Aq hk
            refine⟨_, some id, [], E6, by simp, trivial, fun i hi => by cases hi; exact⟨c, h0⟩, (by intro i hi; cases hi), fun fz A u _ _ hA hc => ?_⟩
            rcases hc with⟨h1, _, rfl, h4⟩ | ⟨b, o, x, cap, h1, h2, hx, h3, h4, h5⟩
            · exact .inl ⟨h1, rfl, by simp, h4⟩
            · have hx : x = o := by rcases hx with e | ⟨_, e⟩ <;> omega
              subst hx
              rcases h.box id _ h0 with⟨h6, _⟩ | ⟨b', o', h6, h7, h8, _⟩
              · rw[h1] at h6; cases h6
              · rw[h1] at h6
                cases h6
                refine .inr ⟨b, x, cap, h1, h2, h3, h4, h5, fun j q hq => ?_, fun j hj Uf => h8 rfl j hj Uf⟩
                rw[List.getElem?_take] at hq
                split at hq
                · obtain⟨v, hv, h9, ht⟩ := h7 j q hq
                  exact⟨v, hv, h9, ht.step (Cy.refl _ _) (fun b _ hb => Pa (hA b hb))⟩
                · cases hq
          · cases hk
      · obtain⟨z, n, c, E6, hp⟩ := Gq hk
        obtain⟨hz, F3⟩ := Aq E6
        subst hz
        have hpF : KQ p := by rcases hp with e | ⟨e, _⟩ <;> (rw[e]; trivial)
        refine⟨_, none, [], F3, by simp, hpF, by simp, (by intro i hi; cases hi), fun fz A u _ _ _ hc => ?_⟩
        have hu : u = .slice none 0 0 := by
          rcases hp with rfl | ⟨rfl, _⟩
          · cases hc; rfl
          · exact A3.val hc
        exact .inl ⟨rfl, rfl, rfl, none, hu⟩
    | int k => exact tree _ (by simp) hk
    | bool => exact tree _ (by simp) hk
    | str => exact tree _ (by simp) hk
    | any => exact tree _ (by simp) hk
  · obtain⟨c, m, E6, hT, hF, hm, hv⟩ := HW h hk
    exact⟨c, none, m, E6, notree hT, hF, by simp, hm, fun fz A u h1 h2 hA hc => Lg hT ((hv fz h1 h2 u hc).1.step (Cy.refl _ _) (fun b _ hb => hA b hb))⟩
structure EL(s:St)(β:Bt)(Y:Nat->Prop)(w:World)(cs:Al)(l:List (Option Nat))(z:B8)(ps:Al):Prop where
 len:l.length=cs.length
 pl:cs.length=ps.length
 na:∀c∈cs,∀x,c ≠ .agg x/\c ≠ .pbox x
 fr:∀p∈ps,KQ p
 own:∀id,some id∈l->∃c,s.hp id=some (.ar false c)
 row:Nh s z
 sem:∀(fz:B8) A us,(∀i∈z,i∈fz)->Nh s fz->(∀b,A b->D2 (Aj s.hp fz) β Y b)->Bo (Cn w (D2 s.hp β Y) β) ps us->∀own j0,(∀j,j<l.length->own (j0+j)=L3 β l j)->F1 w A own j0 cs us
theorem EL.nil:EL s β Y w [] [] [] []:=⟨rfl,rfl,by simp,by simp,by simp,(by intro i hi;cases hi),fun fz A us _ _ _ hu own j0 _=>by
 cases us with
 |nil=>trivial
 |cons u us=>exact hu.elim⟩
theorem EL.cons{c p:PV}{q:Option Nat}{z zs:B8}{cs ps:Al}{l:List (Option Nat)}(CH:∀x,c ≠ .agg x/\c ≠ .pbox x)(hF:KQ p)(hq:∀id,q=some id->∃c,s.hp id=some (.ar false c))(hz:Nh s z)(hv:∀(fz:B8) A u,(∀i∈z,i∈fz)->Nh s fz->(∀b,A b->D2 (Aj s.hp fz) β Y b)->Cn w (D2 s.hp β Y) β p u->Hn w A (q.bind β) c u)(H:EL s β Y w cs l zs ps):EL s β Y w (c::cs) (q::l) (z++zs) (p::ps):=by
 refine⟨by simp[H.len],by simp[H.pl],?_,?_,?_,?_,fun fz A us PJ Ue hA hu own j0 Hg=>?_⟩
 ·intro x hx;rcases List.mem_cons.1 hx with rfl|hx
  ·exact CH
  ·exact H.na x hx
 ·intro x hx;rcases List.mem_cons.1 hx with rfl|hx
  ·exact hF
  ·exact H.fr x hx
 ·intro id B1;rcases List.mem_cons.1 B1 with e|B1
  ·exact hq id e.symm
  ·exact H.own id B1
 ·intro i hi;rcases Bu.1 hi with hi|hi
  ·exact hz i hi
  ·exact H.row i hi
 ·cases us with
  |nil=>exact hu.elim
  |cons u us=>
   have h0:=Hg 0 (by simp);rw[KT] at h0;refine⟨?_,H.sem fz A us (fun i hi=>PJ i (by simp[hi])) Ue hA hu.2 own (j0+1) fun j hj=>?_⟩
   ·rw[h0];exact hv fz A u (fun i hi=>PJ i (by simp[hi])) Ue hA hu.1
   ·have:=Hg (j+1) (by simp;omega)
    rw[show j0+1+j=j0+(j+1) by omega,this];simp[L3]
theorem Sx(h:Dl N w0 X0 Y β s a w){shr:Bool}:∀{ts:List CT}{ps:Al}{K:Al->B8->B8->Option R},CQ shr s.hp ts ps K=some r ->
  ∃cs l z,K cs (l.filterMap id) z=some r/\EL s β Y w cs l z ps
 |[],[],K,hk=>⟨[],[],[],hk,EL.nil⟩
 |[],_::_,K,hk=>by cases hk
 |_::_,[],K,hk=>by cases hk
 |t::ts,p::ps,K,hk=>by
  unfold CQ at hk;obtain⟨c,q,z,E6,CH,hF,hq,hz,hv⟩:=NY h hk;obtain⟨cs,l,zs,F3,H⟩:=Sx h E6;refine⟨c::cs,q::l,z++zs,?_,EL.cons CH hF hq hz hv H⟩;cases q<;>exact F3
theorem DK(h:Dl N w0 X0 Y β s a w):∀{ts:List CT}{ws ps:Al}{K:Al->B8->B8->Option R},FW s.hp ts ws ps K=some r ->
  ∃cs l z,K cs (l.filterMap id) z=some r/\cs.length=ws.length/\EL s β Y w cs l z ps
 |[],[],[],K,hk=>⟨[],[],[],hk,rfl,EL.nil⟩
 |[],_::_,_,K,hk=>by cases hk
 |[],[],_::_,K,hk=>by cases hk
 |_::_,[],_,K,hk=>by cases hk
 |_::_,_::_,[],K,hk=>by cases hk
 |t::ts,x::ws,p::ps,K,hk=>by
  unfold FW at hk;obtain⟨c,q,z,E6,CH,hF,hq,hz,hv⟩:=NY h hk;obtain⟨cs,l,zs,F3,hl,H⟩:=DK h E6;refine⟨c::cs,q::l,z++zs,?_,by simp[hl],EL.cons CH hF hq hz hv H⟩;cases q<;>exact F3
theorem WI{own:Bt}{zz j:Nat}{p:PV}{u:Value}(hp:∀x,p ≠ .agg x/\p ≠ .pbox x)(h:F1 w A own j [p] [u]):An0 w A own zz j p u:=by cases p<;>first|exact h.1|exact absurd rfl (hp _).1|exact absurd rfl (hp _).2
theorem Aa6(h:Dl N w0 X0 Y β s a w){id b o:Nat}{c cs:Al}{l:List (Option Nat)}{z:B8}(h0:s.hp id=some (.st c))(hβ:β id=some (b,o))(H:EL s β Y w cs l z c){fz:B8}{A:Nat->Prop}(h1:∀i∈z,i∈fz)(h2:Nh s fz)(hA:∀b,A b->D2 (Aj s.hp fz) β Y b){own:Bt}{j0:Nat}(Hg:∀j,j<l.length->own (j0+j)=L3 β l j):Ajc w A own j0 b o cs:=by
 obtain⟨b',o',Fy,It,X9⟩:=h.box id _ h0;rw[hβ] at Fy;cases Fy;refine⟨c.mapIdx (fun j _=>(w.cell? ⟨b,o+j,none⟩).getD undef),H.sem fz A _ h1 h2 hA ?_ own j0 Hg,?_,fun k hk=>X9 k (by have:=H.pl;omega)⟩
 ·refine Bo.of_at (by simp) fun j p v hp hv=>?_;obtain⟨u,hu,RN⟩:=It j p hp;rw[List.getElem?_mapIdx,hp,Option.map_some,hu] at hv;simp at hv;subst hv;exact RN
 ·intro k v hkv;rw[List.getElem?_mapIdx] at hkv;cases hp:c[k]? with
  |none=>rw[hp] at hkv;cases hkv
  |some p=>
   obtain⟨u,hu,RN⟩:=It k p hp;rw[hp,Option.map_some,hu] at hkv;simp at hkv;subst hkv;exact hu
theorem Aer(h:Dl N w0 X0 Y β s a w){shr:Bool}{t:TypeId}{p:PV}{u:Value}(hp:Fk w (D2 s.hp β Y) β p u){K:PV->B8->B8->Option R}(hk:Agb P shr s.hp t p K=some r):
  ∃v l z,K v (l.filterMap id) z=some r/\l.length=plc v/\Ahw s l/\Nh s z /\
   ∀(fz:B8) A zz,(∀i∈z,i∈fz)->Nh s fz->(∀b,A b->D2 (Aj s.hp fz) β Y b)->(∀id c b o,some id∈l->s.hp id=some (.st c)->β id=some (b,o)->zz<=b) ->
    ∀own j0,(∀j,j<l.length->own (j0+j)=L3 β l j)->An0 w A own zz j0 v u:=by
 unfold Agb at hk;split at hk
 ·rename_i e he;split at hk
  ·rename_i id off;split at hk
   ·rename_i c h0;obtain⟨hof,E6⟩:=Aq hk;have hof:=D9 hof;subst hof;obtain⟨cs,l,z,F3,H⟩:=Sx h E6;obtain⟨b,o,hβ,hu⟩:=hp;refine⟨.pbox cs,some id::l,z,F3,by simp only[plc,Ub,H.len];omega,?_,H.row,fun fz A zz h1 h2 hA hz own j0 Hg=>?_⟩
    ·intro i hi;rcases List.mem_cons.1 hi with e|hi
     ·cases e;rw[h0];trivial
     ·obtain⟨c',Tf⟩:=H.own i hi;rw[Tf];trivial
    ·have h3:=Hg 0 (by simp);rw[KT] at h3;refine⟨b,o,by rw[h3];exact hβ,hz id c b o (by simp) h0 hβ,by rw[hu,KT],Aa6 h h0 hβ H h1 h2 hA fun j hj=>?_⟩
     have:=Hg (j+1) (by simp;omega)
     rw[show j0+1+j=j0+(j+1) by omega,this];simp[L3]
   ·cases hk
  ·cases hk
 ·cases G4:Cp P t<;>rw[G4] at hk<;>simp only[cond_true,cond_false] at hk
  ·obtain⟨cs,l,z,E6,H⟩:=Sx h hk;obtain⟨c,cs',EV,F3⟩:=Bh E6;subst EV;obtain⟨AU,Mx⟩:=Ej F3;subst AU;have CH:=H.na c (by simp);have KI:plc c=1:=by cases c<;>first|rfl|exact absurd rfl (CH _).1|exact absurd rfl (CH _).2
   have hF:=H.fr p (by simp);refine⟨c,l,z,Mx,by rw[KI];exact H.len,fun i hi=>?_,H.row,fun fz A zz h1 h2 hA _ own j0 Hg=>WI CH (H.sem fz A [u] h1 h2 hA ⟨?_,trivial⟩ own j0 Hg)⟩
   ·obtain⟨c',Tf⟩:=H.own i hi;rw[Tf];trivial
   ·cases p<;>first|exact hp|exact hF.elim
  ·obtain⟨ps,EQ,E6⟩:=Iv hk;subst EQ;obtain⟨cs,l,z,F3,H⟩:=Sx h E6;obtain⟨vs,hu,T8⟩:=hp;refine⟨.agg cs,l,z,F3,H.len,fun i hi=>?_,H.row,fun fz A zz h1 h2 hA _ own j0 Hg=>⟨vs,hu,H.sem fz A vs h1 h2 hA T8 own j0 Hg⟩⟩;obtain⟨c',Tf⟩:=H.own i hi;rw[Tf];trivial
def OS(P:Program)(tmps:Array Value)(w:World)(rv:ResultVar)(u:Value):Prop:=
  (match rv with
   |.tmp t=>(pure (tmps.getD t undef):Sem Value)
   |.cell a t=>do loadVar t (<-asAddr (tmps.getD a undef))).run P w=.ok u w
theorem Agm(h:Dl N w0 X0 Y β s a w)(t:Nat):Fk w (D2 s.hp β Y) β (s.tm t) (a.tmps.getD t undef):=by
 rcases Ht t N with h'|h'
 ·exact h.tms t h'
 ·rw[h.tmo t h'];exact A3.top _
theorem Aep(h:Dl N w0 X0 Y β s a w){rv:ResultVar}{K:PV->Option R}(hk:Ah0 P s rv K=some r):∃p u,K p=some r/\OS P a.tmps w rv u/\Fk w (D2 s.hp β Y) β p u:=by
 unfold Ah0 at hk;split at hk
 ·rename_i t;exact⟨_,_,hk,rfl,Agm h t⟩
 ·rename_i x t;obtain⟨v,ad,val,E6,D7,hl,hv,_⟩:=SS h (Agm h x) hk;refine⟨v,val,E6,?_,hv⟩;unfold OS;simp[D7,asAddr,hl]
theorem Yn{l l':List (Option Nat)}{j:Nat}(h:j<l.length):L3 β (l++l') j=L3 β l j:=by unfold L3;rw[List.getElem?_append_left h]
theorem Yt{l l':List (Option Nat)}{j:Nat}:L3 β (l++l') (l.length+j)=L3 β l' j:=by unfold L3;rw[List.getElem?_append_right (by omega),Nat.add_sub_cancel_left]
theorem GB(h:Dl N w0 X0 Y β s a w){shr:Bool}:∀{rs:List ResultVar}{ts:List TypeId}{K:Al->B8->B8->Option R},OZ P shr s rs ts K=some r ->
  ∃vs l z us,K vs (l.filterMap id) z=some r/\Bo (OS P a.tmps w) rs us/\l.length=M1 vs/\Ahw s l/\Nh s z /\
   ∀(fz:B8) A zz,(∀i∈z,i∈fz)->Nh s fz->(∀b,A b->D2 (Aj s.hp fz) β Y b)->(∀id c b o,some id∈l->s.hp id=some (.st c)->β id=some (b,o)->zz<=b) ->
    ∀own j0,(∀j,j<l.length->own (j0+j)=L3 β l j)->MJ w A own zz j0 vs us
 |[],[],K,hk=>⟨[],[],[],[],hk,trivial,rfl,(by intro id B1;cases B1),(by intro id B1;cases B1),fun _ _ _ _ _ _ _ _ _ _=>trivial⟩
 |[],_::_,K,hk=>by cases hk
 |_::_,[],K,hk=>by cases hk
 |rv::rs,t::ts,K,hk=>by
  unfold OZ at hk;obtain⟨p,u,E6,hu,hp⟩:=Aep h hk;obtain⟨v,l,z,F3,hl,hL,hz,hv⟩:=Aer h hp E6;obtain⟨vs,l',z',us,Mx,hus,Lp,hL',hz',T8⟩:=GB h F3;refine⟨v::vs,l++l',z++z',u::us,?_,⟨hu,hus⟩,by simp only[LG,M1,Xy,List.sum_cons,hl];rw[Lp];rfl,?_,?_,fun fz A zz h1 h2 hA Hf own j0 Hg=>⟨?_,?_⟩⟩
  ·rw[List.filterMap_append];exact Mx
  ·intro id B1;rcases Bu.1 B1 with B1|B1
   ·exact hL id B1
   ·exact hL' id B1
  ·intro id B1;rcases Bu.1 B1 with B1|B1
   ·exact hz id B1
   ·exact hz' id B1
  ·exact hv fz A zz (fun i hi=>h1 i (by simp[hi])) h2 hA (fun id c b o hi=>Hf id c b o (by simp[hi])) own j0 fun j hj=>by rw[Hg j (by simp;omega),Yn hj]
  ·refine T8 fz A zz (fun i hi=>h1 i (by simp[hi])) h2 hA (fun id c b o hi=>Hf id c b o (by simp[hi])) own (j0+plc v) fun j hj=>?_;rw[<-hl,Mu,Hg (l.length+j) (by simp;omega),Yt]
theorem Tc(h:Dl N w0 X0 Y β s a w){bt:AO}(hpt:∀i,X0.pt i=bt i 0):∀{ts:List TypeId}{i:Nat}{ps:Al}{K:List Al->B8->B8->B8->Option R},BM P N s.hp i ts ps K=some r ->
  (∀k p,ps[k]?=some p->AQ p=true->X0.pn (i+k)) ->
  ∃os l z q,K os (l.filterMap id) z q=some r/\(∀id,some id∈l->∃c,s.hp id=some (.ar false c))/\Nh s z/\(∀id∈q,D1 (s.hp id))/\(∀k p,ps[k]?=some p->AQ p=true->Ee N (i+k)∈q) /\
   ∀(fz:B8) A,(∀i∈z,i∈fz)->Nh s fz->(∀i∈q,i ∉ fz)->(∀b,A b->D2 (Aj s.hp fz) β Y b) ->
    ∀own j0,(∀j,j<l.length->own (j0+j)=L3 β l j)->Xe w A own bt j0 i ps os
 |[],i,ps,K,hk,_=>by
  obtain⟨EQ,hk⟩:=Ej hk;subst EQ;exact⟨[],[],[],[],hk,by simp,(by intro id B1;cases B1),by simp,by simp,fun _ _ _ _ _ _ _ _ _=>rfl⟩
 |t::ts,i,ps,K,hk,hpn=>by
  unfold BM at hk;obtain⟨p,ps',EQ,E6⟩:=Bh hk;subst EQ
  have Arq:∀k p,ps'[k]?=some p->AQ p=true->X0.pn (i+1+k):=fun k p' h1 h2=>by
   have:=hpn (k+1) p' (by simpa using h1) h2;rw[show i+1+k=i+(k+1) by omega];exact this
  have hpq:∀{q:B8},(AQ p=true->Ee N i∈q)->(∀k p,ps'[k]?=some p->AQ p=true->Ee N (i+1+k)∈q)->∀k p',(p::ps')[k]?=some p'->AQ p'=true->Ee N (i+k)∈q:=by
   intro q h1 h2 k p' h3 h4;cases k with
   |zero=>
    simp only[List.getElem?_cons_zero,Option.some.injEq] at h3;subst h3;exact h1 h4
   |succ k=>
    have:=h2 k p' (by simpa using h3) h4;rw[show i+1+k=i+(k+1) by omega] at this;exact this
  split at E6
  ·rename_i ws;obtain⟨e,he,F3⟩:=Cz E6;split at F3
   ·rename_i c h0;obtain⟨cs,l,z,Mx,Mz,H⟩:=DK h F3;obtain⟨os,l',z',q,V3,hL',hz',Gz,hpi,hv⟩:=Tc h hpt Mx Arq;refine⟨cs::os,l++l',z++z',Ee N i::q,by rw[List.filterMap_append];exact V3,?_,?_,?_,hpq (fun _=>Yd) (fun k p h1 h2=>Su _ (hpi k p h1 h2)),fun fz A h1 h2 h3 hA own j0 Hg=>?_⟩
    ·intro id B1;rcases Bu.1 B1 with B1|B1
     ·exact H.own id B1
     ·exact hL' id B1
    ·intro id B1;rcases Bu.1 B1 with B1|B1
     ·exact H.row id B1
     ·exact hz' id B1
    ·intro id B1;rcases List.mem_cons.1 B1 with rfl|B1
     ·rw[h0];trivial
     ·exact Gz id B1
    ·have GO:=(h.pin i (by have:=hpn 0 _ rfl rfl;rwa [KT] at this)).2
     obtain⟨b,o,Fy,_,_⟩:=h.box _ _ h0;rw[Fy,hpt] at GO;refine⟨⟨b,o,GO.symm,Mz,Aa6 h h0 Fy H (fun i hi=>h1 i (by simp[hi])) h2 hA fun j hj=>by rw[Hg j (by simp;omega),Yn hj]⟩,?_⟩
     refine hv fz A (fun i hi=>h1 i (by simp[hi])) h2 (fun i hi=>h3 i (by simp[hi])) hA own (j0+cs.length) fun j hj=>?_;rw[<-H.len,Mu,Hg (l.length+j) (by simp;omega),Yt]
   ·cases F3
  ·split at E6
   ·rename_i c h0;obtain⟨os,l',z',q,V3,hL',hz',Gz,hpi,hv⟩:=Tc h hpt E6 Arq;refine⟨c::os,l',z',Ee N i::q,V3,hL',hz',?_,hpq (fun _=>Yd) (fun k p h1 h2=>Su _ (hpi k p h1 h2)),fun fz A h1 h2 h3 hA own j0 Hg=>⟨?_,hv fz A h1 h2 (fun i hi=>h3 i (by simp[hi])) hA own j0 Hg⟩⟩
    ·intro id B1;rcases List.mem_cons.1 B1 with rfl|B1
     ·rw[h0];trivial
     ·exact Gz id B1
    ·have GO:=(h.pin i (by have:=hpn 0 _ rfl rfl;rwa [KT] at this)).2
     rw[hpt] at GO;rcases h.box _ _ h0 with⟨h4,h5⟩|⟨b,o,h4,h5,h6,_⟩
     ·exact .inl ⟨by rw[<-GO];exact h4,h5⟩
     ·exact .inr ⟨b,o,by rw[<-GO];exact h4,h5.weak (fun b _ hb=>Pa (hA b hb)),h6 rfl⟩
   ·cases E6
  ·rename_i TL hn2;have hnL:AQ p=false:=by cases p<;>first|rfl|exact absurd rfl (TL _)|exact absurd rfl (hn2 _)
   obtain⟨os,l',z',q,V3,hL',hz',Gz,hpi,hv⟩:=Tc h hpt E6 Arq;refine⟨os,l',z',q,V3,hL',hz',Gz,hpq (fun e=>by rw[hnL] at e;cases e) hpi,fun fz A h1 h2 h3 hA own j0 Hg=>?_⟩
   have:=hv fz A h1 h2 h3 hA own j0 Hg;cases p<;>first|exact this|cases hnL
theorem TQ{f:ResultVar->Sem Value}:∀{rs:List ResultVar}{us:List Value},Bo (fun rv u=>(f rv).run P w=.ok u w) rs us->(rs.mapM f).run P w=.ok us w
 |[],[],_=>by simp
 |[],_::_,h=>h.elim
 |_::_,[],h=>h.elim
 |rv::rs,u::us,h=>by
  rw[List.mapM_cons];simp[h.1,TQ h.2]
theorem SG{fn:Func}{us:List Value}(h:Bo (OS P a.tmps w) fn.results.toList us):(results fn a.tmps).run P w=.ok (Jc us) w:=by
 unfold results;rw[Array.mapM_eq_mapM_toList];simp only[map_eq_pure_bind,bind_assoc,pure_bind,Sem.run_bind];refine Eq.trans (congrArg (fun x=>Result.andThen x _) (TQ h)) ?_;simp only[Result.andThen_ok,Sem.run_pure]
 congr 1
 clear h
 match us with
 |[]=>rfl
 |[u]=>rfl
 |u::v::us=>exact dif_neg (by simp)
theorem SP:∀{l:List (Option Nat)},E5 (l.filterMap id)=true->∀{j j' i:Nat},l[j]?=some (some i)->l[j']?=some (some i)->j=j'
 |[],_,j,j',i,h,_=>by simp at h
 |q::l,hn,j,j',i,h,h'=>by
  have hn':E5 (l.filterMap id)=true:=by
   cases q with
   |none=>exact hn
   |some x=>
    simp only[List.filterMap_cons,id_eq,E5,Fb] at hn;exact hn.2
  have hq:∀(x k:Nat),q=some x->l[k]?≠some (some x):=by
   intro x k e hk;subst e;simp only[List.filterMap_cons,id_eq,E5,Fb,Bool.not_eq_true'] at hn;exact Sv hn.1 (List.mem_filterMap.2 ⟨some x,List.mem_of_getElem? hk,rfl⟩)
  cases j with
  |zero=>
   cases j' with
   |zero=>rfl
   |succ k'=>
    simp at h h';exact absurd h' (hq i k' h)
  |succ k=>
   cases j' with
   |zero=>
    simp at h h';exact absurd h (hq i k h')
   |succ k'=>
    simp at h h';rw[SP hn' h h']
theorem MF{C:H2}{f:FuncId}{fn:Func}{args:Al}{res:Bz}{w:World}{Y:Nat->Prop}{bt:AO}{us:List Value}(Xg:Ins w Y bt args us){h8:∀k p,args[k]?=some p->AQ p=true->k<8}{s':St}{a':Act}{w':World}{β':Bt}(hr:Ade C P f fn args s'=some res)(h:Dl fn.ntmps w (YE bt args h8) Y β' s' a' w'):
  a'.defers=[]/\∃v,(results fn a'.tmps).run P w'=.ok v w'/\∃vs own,Ending.returned v=.returned (Jc vs)/\Out w w' Y bt args own res vs:=by
 unfold Ade at hr;obtain⟨vs,l,z,us',KF,hus,hll,hL,hz,hv⟩:=GB h hr;obtain⟨os,l',z',q,MR,hL',hz',hq,hpi,Qo⟩:=Tc h (bt:=bt) (fun _=>rfl) KF (fun k p h1 h2=>by rw[Ob];exact⟨p,h1,h2⟩)
 obtain⟨hnd,hr3⟩:=Aq MR;cases hr3;simp only[Fb] at hnd;obtain⟨hnd,Aqk⟩:=hnd;obtain⟨TL,hn2,hn3⟩:=Ju hnd
 have CY:∀i∈z++z',i ∉ (l.filterMap id++l'.filterMap id)++q:=by
  intro i hi Jw;have:=List.all_eq_true.1 Aqk i hi;have h2:((l.filterMap id++l'.filterMap id)++q).any (Nat.beq i)=true:=List.any_eq_true.2 ⟨i,Jw,Pz i⟩;rw[h2] at this;cases this
 have Ad8:Nh s' (z++z'):=by
  intro i hi;rcases Bu.1 hi with hi|hi
  ·exact hz i hi
  ·exact hz' i hi
 refine⟨h.dfr,Jc us',SG hus,us',L3 β' (l++l'),rfl,?_⟩;have Azc:E5 ((l++l').filterMap id)=true:=by rw[List.filterMap_append];exact TL
 have Hg:∀j b o,L3 β' (l++l') j=some (b,o)->∃id,(l++l')[j]?=some (some id)/\β' id=some (b,o):=by
  intro j b o hj;unfold L3 at hj;cases hlj:(l++l')[j]? with
  |none=>rw[hlj] at hj;cases hj
  |some q=>
   cases q with
   |none=>rw[hlj] at hj;cases hj
   |some id=>
    rw[hlj] at hj;exact⟨id,rfl,hj⟩
 have Lu:∀(j i:Nat),(l++l')[j]?=some (some i)->i∈l.filterMap id++l'.filterMap id:=by
  intro j i hj;rw[<-List.filterMap_append];exact List.mem_filterMap.2 ⟨some i,List.mem_of_getElem? hj,rfl⟩
 have Hu:∀(j i:Nat),(l++l')[j]?=some (some i)->D1 (s'.hp i):=by
  intro j i hj;rcases Bu.1 (List.mem_of_getElem? hj) with Jw|Jw
  ·exact hL i Jw
  ·obtain⟨c,hc⟩:=hL' i Jw;rw[hc];trivial
 have Ao9:∀i,i∈(l.filterMap id++l'.filterMap id)++q->Aj s'.hp (z++z') i=s'.hp i:=by
  intro i hi;rw[Ci,Bg (fun Jw=>CY i Jw hi)]
 have Aox:∀i b o,bt i 0=some (b,o)->Ee fn.ntmps i∈q/\D1 (s'.hp (Ee fn.ntmps i))/\β' (Ee fn.ntmps i)=some (b,o):=by
  intro i b o KZ;obtain⟨p,h1,h2⟩:=Xg.l0 i _ KZ;have h3:=hpi i p h1 h2;rw[Ob] at h3;exact⟨h3,hq _ h3,(h.pin i ⟨p,h1,h2⟩).2.trans KZ⟩
 have hAO:∀b,FY bt (L3 β' (l++l')) Y b->D2 (Aj s'.hp (z++z')) β' Y b:=by
  rintro b (⟨j,o,hj⟩|⟨i,o,KZ⟩|hY)
  ·obtain⟨id,h1,h2⟩:=Hg j b o hj;refine .inl ⟨id,o,?_,h2⟩;rw[Ao9 id (Bu.2 (.inl (Lu j id h1)))];exact Hu j id h1
  ·obtain⟨h1,h2,h3⟩:=Aox i b o KZ;refine .inl ⟨_,o,?_,h3⟩;rw[Ao9 _ (Bu.2 (.inr h1))];exact h2
  ·exact .inr hY
 have Xu:∀(j id b o:Nat),(l++l')[j]?=some (some id)->β' id=some (b,o)->b<w.heap.size->∃i k o',bt i (k+1)=some (b,o'):=by
  intro j id b o hj hβ Cx;rcases h.ownd b ⟨id,o,Hu j id hj,hβ⟩ with⟨i,k,o',KZ⟩|hge
  ·cases k with
   |zero=>
    obtain⟨h1,h2,h3⟩:=Aox i b o' KZ;have:=h.inj id _ b o o' (Hu j id hj) h2 hβ h3;subst this;exact absurd h1 (hn3 _ (Lu j _ hj))
   |succ k=>exact⟨i,k,o',KZ⟩
  ·omega
 refine⟨h.fr.os,h.fr.tape,h.fr.output,h.fr.step,h.fr.rng,?_,?_,?_,?_⟩
 ·refine hv (z++z') _ _ (fun i hi=>Bu.2 (.inl hi)) Ad8 hAO (fun id c b o hi hc hβ=>?_) _ 0 (fun j hj=>by rw[Ob,Yn hj]);rcases Ht b w.heap.size with Cx|hge
  ·obtain⟨k,M0,p,h1,h2⟩:=h.stp id c b o hc hβ Cx;have h3:=hpi k p h1 h2;rw[Ob,<-M0] at h3;obtain⟨j,hj⟩:=List.mem_iff_getElem?.1 hi;refine absurd h3 (hn3 id ?_);exact Bu.2 (.inl (List.mem_filterMap.2 ⟨some id,hi,rfl⟩))
  ·exact hge
 ·refine Qo (z++z') _ (fun i hi=>Bu.2 (.inr hi)) Ad8 (fun i hi Jw=>CY i Jw (Bu.2 (.inr hi))) hAO _ _ (fun j hj=>?_);rw[<-hll,Yt]
 ·intro j b o hj;obtain⟨id,h1,h2⟩:=Hg j b o hj;refine⟨h.blt id b o (Dr (Hu j id h1)) h2,fun Cx=>⟨Xu j id b o h1 h2 Cx,fun x hx=>?_⟩⟩;cases My:s'.hp id with
  |none=>have:=Hu j id h1;rw[My] at this;exact this.elim
  |some bx=>
   have HS:=Hu j id h1;rw[My] at HS;cases bx with
   |st c=>
    obtain⟨k,M0,p,h3,h4⟩:=h.stp id c b o My h2 Cx;have h5:=hpi k p h3 h4;rw[Ob,<-M0] at h5;exact absurd h5 (hn3 _ (Lu j _ h1))
   |ar fz c=>exact h.rngB id _ b o My HS h2 Cx x hx
   |mv=>exact HS.elim
 ·intro j j' b o o' hj Uf;obtain⟨id,h1,h2⟩:=Hg j b o hj;obtain⟨id',OO,h2'⟩:=Hg j' b o' Uf;have:=h.inj id id' b o o' (Hu j id h1) (Hu j' id' OO) h2 h2';subst this;exact SP Azc h1 OO
theorem YO{G:Yl}(L0:NoNG P)(hm:P.follows .mixedOrders=true){C:H2}{fu:Nat}{call:A7}(Es:∀f args res,call f args=some res->Eb G P f args res){f:FuncId}{fn:Func}{c:Code}(hf:P.funcs[f]?=some fn)(hb:fn.body=some c){args:Al}{res:Bz}(hk:Ars C P fu call f fn c args=some res):Eb G P f args res:=by
 refine⟨⟨fn,hf,by rw[hb];rfl⟩,fun w Y bt us Xg hG hGY=>?_⟩
 unfold Ars at hk;obtain⟨tms,bs,E6,Hf⟩:=Ab3 Xg hk;obtain⟨Fy,F3⟩:=Aq E6;simp only[Fb] at Fy
 have Do:us.length<=fn.ntmps:=by
  rw[<-Xg.args.len];exact Rc Fy.1
 obtain⟨h8,β0,hs⟩:=Hf Fy.2 Do;refine calls_of_wp hf hb ?_;have hE:SK P G w (YE bt args h8):=⟨L0,fun w' hfr=>G.stable w w' (fun b hb Cx=>hfr.step.keep b Cx (hGY b hb).2) hG,hGY⟩
 refine ZJ hE Es hm c hs F3 (fun s' a' w' β' hr h=>MF Xg hr h) (fun id s' a' w' β' hr h=>by cases hr) (fun s' a' w' β' hr h=>MF Xg hr h)
def MU(G:Yl)(P:Program)(C:H2):Prop:=∀f g args res,C.ext f=some g->g args=some res->Eb G P f args res
theorem J9{G:Yl}(L0:NoNG P)(hm:P.follows .mixedOrders=true){C:H2}(hx:MU G P C){fu:Nat}:∀(d:Nat)(f:FuncId)(args:Al)(res:Bz),Ae C P fu d f args=some res->Eb G P f args res
 |0,_,_,_,h=>by cases h
 |d+1,f,args,res,h=>by
  unfold Ae at h;split at h
  ·rename_i g hg;exact hx f g args res hg h
  ·split at h
   ·cases h
   ·rename_i fn hf;split at h
    ·cases h
    ·rename_i c hb;exact YO L0 hm (J9 L0 hm hx d) hf hb h
end
open Go.ChangeShapes Go.WideShapes Go.ChangeAt Go.RowKit Go.Deep
def PB(P:Program):List Field->Nat->Nat->Bool
 |[],i,n=>Nat.beq i n
 |f::r,i,n=>Nat.beq f.offset i&&PB P r (i+P.cellsOf f.type) n
def N9(P:Program):Nat->TypeId->Bool
 |0,_=>false
 |d+1,t=>
  match P.underlying t with
  |some .bool=>true
  |some (.int _)=>true
  |some .string=>true
  |some (.slice e)=>N9 P d e&&Nat.blt 0 (P.cellsOf e)
  |some (.struct fs)=>PB P fs.toList 0 (P.cellsOf t)&&fs.toList.all fun f=>N9 P d f.type
  |some (.array n e)=>Nat.beq (P.cellsOf t) (n*P.cellsOf e)&&N9 P d e
  |_=>false
def WT(P:Program):Nat->TypeId->Al->Prop
 |0,_,_=>False
 |d+1,t,ps=>
  match P.underlying t with
  |some .bool=>∃b,ps=[.sc (.bool b)]
  |some (.int k)=>∃n,ps=[.sc (.int k n)]/\(Lit.int k n).wf=true
  |some .string=>∃s:ByteArray,ps=[.sc (.string s)]/\s.size<=maxLen
  |some (.slice e)=>∃rows:List Al,ps=[.lst false (P.cellsOf e) rows.length rows.flatten]/\rows.length<=maxLen/\∀r∈rows,r.length=P.cellsOf e/\WT P d e r
  |some (.struct fs)=>∃rows:List Al,ps=rows.flatten/\Bo (fun f r=>WT P d f.type r) fs.toList rows
  |some (.array n e)=>∃rows:List Al,ps=rows.flatten/\rows.length=n/\∀r∈rows,r.length=P.cellsOf e/\WT P d e r
  |_=>False
def WTv(P:Program)(t:TypeId)(p:PV):Prop:=
 match Cp P t with
 |true=>∃ps,p=.agg ps/\WT P 12 t ps
 |false=>WT P 12 t [p]
section
variable {P:Program}{d:Nat}{t e:TypeId}{ps:Al}
theorem Anp(hu:P.underlying t=some .bool):WT P (d+1) t ps↔∃b,ps=[.sc (.bool b)]:=by show (match P.underlying t with|some .bool=>_|some (.int k)=>_|some .string=>_|some (.slice e)=>_|some (.struct fs)=>_|some (.array n e)=>_|_=>_)↔_;rw[hu]
theorem Afy{k:IntKind}(hu:P.underlying t=some (.int k)):WT P (d+1) t ps↔∃n,ps=[.sc (.int k n)]/\(Lit.int k n).wf=true:=by show (match P.underlying t with|some .bool=>_|some (.int k)=>_|some .string=>_|some (.slice e)=>_|some (.struct fs)=>_|some (.array n e)=>_|_=>_)↔_;rw[hu]
theorem ME(hu:P.underlying t=some .string):WT P (d+1) t ps↔∃s:ByteArray,ps=[.sc (.string s)]/\s.size<=maxLen:=by show (match P.underlying t with|some .bool=>_|some (.int k)=>_|some .string=>_|some (.slice e)=>_|some (.struct fs)=>_|some (.array n e)=>_|_=>_)↔_;rw[hu]
theorem TY(hu:P.underlying t=some (.slice e)):WT P (d+1) t ps↔∃rows:List Al,ps=[.lst false (P.cellsOf e) rows.length rows.flatten]/\rows.length<=maxLen/\∀r∈rows,r.length=P.cellsOf e/\WT P d e r:=by show (match P.underlying t with|some .bool=>_|some (.int k)=>_|some .string=>_|some (.slice e)=>_|some (.struct fs)=>_|some (.array n e)=>_|_=>_)↔_;rw[hu]
theorem Ac0{fs:Array Field}(hu:P.underlying t=some (.struct fs)):WT P (d+1) t ps↔∃rows:List Al,ps=rows.flatten/\Bo (fun f r=>WT P d f.type r) fs.toList rows:=by show (match P.underlying t with|some .bool=>_|some (.int k)=>_|some .string=>_|some (.slice e)=>_|some (.struct fs)=>_|some (.array n e)=>_|_=>_)↔_;rw[hu]
theorem Ajb{n:Nat}(hu:P.underlying t=some (.array n e)):WT P (d+1) t ps↔∃rows:List Al,ps=rows.flatten/\rows.length=n/\∀r∈rows,r.length=P.cellsOf e/\WT P d e r:=by show (match P.underlying t with|some .bool=>_|some (.int k)=>_|some .string=>_|some (.slice e)=>_|some (.struct fs)=>_|some (.array n e)=>_|_=>_)↔_;rw[hu]
end
inductive Ki where
 |bool
 |int (k:IntKind)
 |str
 |sl (e:TypeId)
 |st (ts:List TypeId)
 |ar (n:Nat) (e:TypeId)
 |no
def Pc(P:Program)(t:TypeId):Ki:=
 match P.underlying t with
 |some .bool=>.bool
 |some (.int k)=>.int k
 |some .string=>.str
 |some (.slice e)=>.sl e
 |some (.struct fs)=>.st (fs.toList.map (·.type))
 |some (.array n e)=>.ar n e
 |_=>.no
section
variable {P:Program}{d:Nat}{t e:TypeId}{ps:Al}{p:PV}
theorem Bo.cons_inv{α β:Type}{R:α->β->Prop}{a:α}{zs:List α}:∀{rs:List β},Bo R (a::zs) rs->∃r rs',rs=r::rs'/\R a r/\Bo R zs rs'
 |[],h=>h.elim
 |r::rs,h=>⟨r,rs,rfl,h.1,h.2⟩
theorem Bo.nil_inv{α β:Type}{R:α->β->Prop}:∀{rs:List β},Bo R ([]:List α) rs->rs=[]
 |[],_=>rfl
 |_::_,h=>h.elim
theorem Ash{k:IntKind}(hk:Pc P t=.int k)(h:WT P d t ps):∃n,ps=[.sc (.int k n)]/\(Lit.int k n).wf=true:=by
 cases d with
 |zero=>exact h.elim
 |succ d=>
 unfold Pc at hk;split at hk<;>first|cases hk|skip
 rename_i hu;exact (Afy hu).1 h
theorem Aqn(hk:Pc P t=.str)(h:WT P d t ps):∃s:ByteArray,ps=[.sc (.string s)]/\s.size<=maxLen:=by
 cases d with
 |zero=>exact h.elim
 |succ d=>
 unfold Pc at hk;split at hk<;>first|cases hk|skip
 rename_i hu;exact (ME hu).1 h
theorem Au0(hk:Pc P t=.sl e)(h:WT P d t ps):∃rows:List Al,ps=[.lst false (P.cellsOf e) rows.length rows.flatten]/\rows.length<=maxLen/\∀r∈rows,r.length=P.cellsOf e/\WT P (d-1) e r:=by
 cases d with
 |zero=>exact h.elim
 |succ d=>
 rw[Nat.add_sub_cancel];unfold Pc at hk;split at hk<;>first|cases hk|skip
 rename_i hu;exact (TY hu).1 h
theorem Abc(hk:Cp P t=false)(h:WTv P t p):WT P 12 t [p]:=by unfold WTv at h;rw[hk] at h;exact h
theorem Ann(ha:Cp P t=false)(hk:Pc P t=.str)(h:WTv P t p):∃s:ByteArray,p=.sc (.string s)/\s.size<=maxLen:=by obtain⟨b,e,h⟩:=Aqn hk (Abc ha h);exact⟨b,by injection e,h⟩
theorem DB{α:Type}(f:α->Al)(Q:α->Prop):∀{rows:List Al},(∀r∈rows,∃x,r=f x/\Q x)->∃xs:List α,rows.flatten=xs.flatMap f/\rows.length=xs.length/\∀x∈xs,Q x
 |[],_=>⟨[],rfl,rfl,by simp⟩
 |r::rows,h=>by
  obtain⟨x,h1,h2⟩:=h r (by simp);obtain⟨xs,h3,h4,h5⟩:=DB (rows:=rows) f Q fun r hr=>h r (by simp[hr]);refine⟨x::xs,by simp[h1,h3],by simp[h4],fun y hy=>?_⟩;rcases List.mem_cons.1 hy with rfl|hy
  ·exact h2
  ·exact h5 y hy
end
abbrev No:Nat->Prop:=fun _=>False
section
variable {H:Type}{enc:TypeId × Value->H}{P:Program}{w:World}{base:Nat}{held:Bool}
theorem Bo.flat{α β:Type}{R:α->β->Prop}:∀{l:B8}{f:Nat->List α}{g:Nat->List β},(∀i∈l,Bo R (f i) (g i))->Bo R (l.map f).flatten (l.map g).flatten
 |[],_,_,_=>trivial
 |i::l,f,g,h=>by
  simp only[Xy,List.flatten_cons];exact (h i (by simp)).app (Bo.flat fun j hj=>h j (by simp[hj]))
theorem Ab8{a:Addr}{v:Value}(h:w.cell? a=some v):a.spot=none/\a.block<w.heap.size:=by
 unfold World.cell? at h;split at h
 ·rename_i c t f e;refine⟨?_,?_⟩
  ·cases hs:a.spot with
   |none=>rfl
   |some x=>rw[hs] at h;simp at h
  ·rcases Ht a.block w.heap.size with h1|h1
   ·exact h1
   ·rw[Array.getElem?_eq_none h1] at e;cases e
 ·cases h
theorem JY{α:Type}{g:Nat->List α}{es:Nat}:∀{n:Nat},(∀i,i<n->(g i).length=es)->((List.range n).map g).flatten.length=n*es
 |0,_=>by simp
 |n+1,h=>by
  rw[List.range_succ,List.map_append,List.flatten_append,LG,JY (fun i hi=>h i (by omega))];simp[h n (by omega),Nat.succ_mul]
theorem JX{a:Addr}{g:Nat->List Value}{es:Nat}:∀{n:Nat},(∀i,i<n->(g i).length=es)->(∀i,i<n->∀k,k<es->w.cell? (a.add (i*es+k))=(g i)[k]?) ->
  ∀j,j<n*es->w.cell? (a.add j)=(((List.range n).map g).flatten)[j]?
 |0,_,_,j,hj=>by omega
 |n+1,hl,hc,j,hj=>by
  have Xf:=JY (fun i (hi:i<n)=>hl i (by omega));rw[List.range_succ,List.map_append,List.flatten_append,List.getElem?_append,Xf];rw[Nat.succ_mul] at hj;split
  ·rename_i h1;exact JX (fun i hi=>hl i (by omega)) (fun i hi=>hc i (by omega)) j h1
  ·rename_i h1;have:=hc n (by omega) (j-n*es) (by omega);rw[show n*es+(j-n*es)=j by omega] at this
   simpa using this
abbrev TR(w:World)(c:PV)(v:Value):Prop:=(Xl c/\A3 w No c v)/\v.oneCell'=true
theorem DP{d:Nat}{cs:List Value}{n:Nat}(hn:cs.length=n):∀(l:List Field)(i:Nat),PB P l i n=true ->
  (∀f∈l,∃ps,WT P d f.type ps/\Bo (TR w) ps ((cs.drop f.offset).take (P.cellsOf f.type)))->∃rows:List Al,Bo (fun f r=>WT P d f.type r) l rows/\Bo (TR w) rows.flatten (cs.drop i)
 |[],i,ho,_=>by
  have:=D9 ho;refine⟨[],trivial,?_⟩;rw[List.drop_of_length_le (by omega)];trivial
 |f::l,i,ho,h=>by
  simp only[PB,Fb] at ho;have ho1:=D9 ho.1;obtain⟨ps,h1,h2⟩:=h f (by simp);obtain⟨rows,h3,h4⟩:=DP hn l _ ho.2 fun g hg=>h g (by simp[hg]);refine⟨ps::rows,⟨h1,h3⟩,?_⟩;rw[ho1] at h2;have:cs.drop i=(cs.drop i).take (P.cellsOf f.type)++cs.drop (i+P.cellsOf f.type):=by rw[<-List.drop_drop];exact (List.take_append_drop _ _).symm
  rw[this,List.flatten_cons];exact h2.app h4
theorem JF{d:Nat}{e:TypeId}{cs:List Value}{k:Nat}:∀(n:Nat),n*k<=cs.length ->
  (∀i,i<n->∃ps,(ps.length=k/\WT P d e ps)/\Bo (TR w) ps ((cs.drop (i*k)).take k))->∃rows:List Al,rows.length=n/\(∀r∈rows,r.length=k/\WT P d e r)/\Bo (TR w) rows.flatten (cs.take (n*k))
 |0,_,_=>⟨[],rfl,by simp,by simp[Bo]⟩
 |n+1,hl,h=>by
  rw[Nat.succ_mul] at hl;obtain⟨rows,h1,h2,h3⟩:=JF n (by omega) fun i hi=>h i (by omega);obtain⟨ps,h4,h5⟩:=h n (by omega);refine⟨rows++[ps],by simp[h1],?_,?_⟩
  ·intro r hr;rcases Bu.1 hr with hr|hr
   ·exact h2 r hr
   ·rw[P7.1 hr];exact h4
  ·rw[List.flatten_append,Nat.succ_mul,List.take_add];refine h3.app ?_
   simpa using h5
theorem V7:∀(d:Nat)(t:TypeId),N9 P d t=true->∀(fuel:Nat)(cs:List Value)(x:DataW H × List MemPlace),DataW.trod enc P w base (fun _=>true) held fuel t cs=some x ->
  ∃ps,WT P d t ps/\Bo (TR w) ps cs
 |0,_,h,_,_,_,_=>by cases h
 |d+1,t,hp,fuel,cs,x,h=>by
  unfold N9 at hp;split at hp
  ·rename_i hu;obtain⟨b,rfl,_⟩:=DataW.trod_bool hu h;simp only[Anp hu];exact⟨[.sc (.bool b)],⟨b,rfl⟩,⟨⟨trivial,A3.sc _⟩,rfl⟩,trivial⟩
  ·rename_i k hu;obtain⟨n,rfl,_,hw⟩:=DataW.trod_int hu h;simp only[Afy hu];exact⟨[.sc (.int k n)],⟨n,rfl,hw⟩,⟨⟨trivial,A3.sc _⟩,rfl⟩,trivial⟩
  ·rename_i hu;obtain⟨s,rfl,_,hw⟩:=DataW.trod_string hu h;simp only[ME hu];exact⟨[.sc (.string s)],⟨s,rfl,hw⟩,⟨⟨trivial,A3.sc _⟩,rfl⟩,trivial⟩
  ·rename_i e hu;simp only[Fb] at hp;have Tr:0<P.cellsOf e:=Nat.lt_of_succ_le (Rc hp.2);simp only[TY hu];rcases open_slice hu h with⟨rfl,_⟩|⟨a,len,cap,m,n,D,Pl,rfl,_,hl,hm,WH,_,hi⟩
   ·exact⟨[.lst false (P.cellsOf e) 0 []],⟨[],by simp,by simp,by simp⟩,⟨⟨trivial,A3.lnil _ _⟩,rfl⟩,trivial⟩
   ·simp only[if_true] at WH;subst WH
    have WF:∀i,i<len->∃q:Al × List Value,(q.2.length=P.cellsOf e/\(∀k,k<P.cellsOf e->w.cell? (a.add (i*P.cellsOf e+k))=q.2[k]?))/\WT P d e q.1/\Bo (TR w) q.1 q.2:=by
     intro i Cx;obtain⟨cs',hc,ht⟩:=hi i (by omega);obtain⟨_,Mz,hat⟩:=World.cells?_some hc;obtain⟨ps,h1,h2⟩:=V7 d e hp.1 _ _ _ ht;exact⟨(ps,cs'),⟨Mz,fun k hk=>by rw[<-Pv.add_add];exact hat k hk⟩,h1,h2⟩
    obtain⟨F,hF⟩:=choose_lt WF;refine⟨[.lst false (P.cellsOf e) len ((List.range len).map fun i=>(F i).1).flatten],⟨(List.range len).map fun i=>(F i).1,by simp,by simp;omega,?_⟩,⟨⟨trivial,?_⟩,rfl⟩,trivial⟩
    ·intro r hr;obtain⟨i,hi1,rfl⟩:=List.mem_map.1 hr;have hi2:=List.mem_range.1 hi1;exact⟨by rw[(hF i hi2).2.2.len];exact (hF i hi2).1.1,(hF i hi2).2.1⟩
    ·rcases Nat.eq_zero_or_pos len with h0|h0
     ·subst h0;exact A3.lemp _ _ _
     ·have M9:Bo (TR w) ((List.range len).map fun i=>(F i).1).flatten ((List.range len).map fun i=>(F i).2).flatten:=Bo.flat fun i hi=>(hF i (List.mem_range.1 hi)).2.2;have Dv:=JX (w:=w) (a:=a) (g:=fun i=>(F i).2) (fun i hi=>(hF i hi).1.1) (fun i hi=>(hF i hi).1.2);have Do:=JY (g:=fun i=>(F i).2) (fun i (hi:i<len)=>(hF i hi).1.1)
      have h00:w.cell? a≠none:=by
       have:=Dv 0 (Nat.mul_pos h0 Tr);rw[show a.add 0=a by unfold Addr.add;simp] at this
       rw[this,List.getElem?_eq_getElem (by rw[Do];exact Nat.mul_pos h0 Tr)]
       simp
      obtain⟨v0,hv0⟩:=Option.ne_none_iff_exists'.1 h00;obtain⟨hs,hb⟩:=Ab8 hv0
      have key:∀j c,(((List.range len).map fun i=>(F i).1).flatten)[j]?=some c->∃v,w.cell? (a.add j)=some v/\TR w c v:=by
       intro j c hj
       have hlj:j<len*P.cellsOf e:=by
        rw[<-Do,<-M9.len];rcases Ht j (((List.range len).map fun i=>(F i).1).flatten).length with h1|h1
        ·exact h1
        ·rw[List.getElem?_eq_none h1] at hj;cases hj
       have h1:=Dv j hlj;rw[List.getElem?_eq_getElem (by rw[Do];exact hlj)] at h1
       exact⟨_,h1,M9.at_ hj (List.getElem?_eq_getElem (by rw[Do];exact hlj))⟩
      refine A3.lst _ _ _ a _ (fun j=>(w.cell? (a.add j)).getD undef) hs hb (fun h=>h) hl (fun j c hj=>?_) (fun j c hj=>?_) (fun j c hj=>?_)
      ·obtain⟨v,hv,_⟩:=key j c hj;rw[hv];rfl
      ·obtain⟨v,hv,ht⟩:=key j c hj;rw[hv];exact ht.2
      ·obtain⟨v,hv,ht⟩:=key j c hj;rw[hv];exact ht.1.2
  ·rename_i fs hu;simp only[Fb] at hp;simp only[Ac0 hu];obtain⟨xs,n,_,_,Do,MW,hf⟩:=DataW.trod_struct hu h
   obtain⟨rows,h1,h2⟩:=DP (P:=P) (w:=w) (d:=d) Do fs.toList 0 hp.1 fun f hf'=>by
    obtain⟨i,hi⟩:=List.mem_iff_getElem?.1 hf';have WF:fs[i]?=some f:=by simpa using hi
    have Cx:i<fs.size:=(Array.getElem?_eq_some_iff.1 WF).1;have h3:=hf i f WF;rw[List.getElem?_eq_getElem (by omega)] at h3;exact V7 d f.type (List.all_eq_true.1 hp.2 f hf') _ _ _ h3
   exact⟨_,⟨rows,rfl,h1⟩,by simpa using h2⟩
  ·rename_i n e hu;simp only[Fb] at hp;simp only[Ajb hu];obtain⟨xs,m,_,_,Do,MW,hf⟩:=DataW.trod_array hu h;have Oa:=D9 hp.1
   obtain⟨rows,h1,h2,h3⟩:=JF (P:=P) (w:=w) (d:=d) (e:=e) (cs:=cs) (k:=P.cellsOf e) n (by omega) fun i hi=>by
    have h3:=hf i hi;rw[List.getElem?_eq_getElem (by omega)] at h3;obtain⟨ps,h4,h5⟩:=V7 d e hp.2 _ _ _ h3;refine⟨ps,⟨?_,h4⟩,h5⟩;rw[h5.len,List.length_take,List.length_drop,Do,Oa];have:(i+1)*P.cellsOf e<=n*P.cellsOf e:=Nat.mul_le_mul_right _ hi;rw[Nat.succ_mul] at this;omega
   refine⟨_,⟨rows,rfl,h1,h2⟩,?_⟩;rw[FF (by omega)] at h3;exact h3
  ·cases hp
theorem Aji{r:Reach}{b0:Nat}{t:TypeId}{v:Value}{dd:DataW H}{p:List MemPlace}(hp:N9 P 12 t=true)(hv:Value.okWide P w r b0 t v)(h:DataW.Trod enc P w base (fun _=>true) held t v dd p):
  ∃q,WTv P t q/\Tl w No q v:=by
 obtain⟨fuel,hf⟩:=h;obtain⟨ps,h1,h2⟩:=V7 12 t hp fuel _ _ hf;unfold WTv Cp
 have two:∀{cs:Array Value},v=.agg cs->∃q,(∃ps,q=.agg ps/\WT P 12 t ps)/\Tl w No q v:=by
  intro cs e;subst e;exact⟨.agg ps,⟨ps,rfl,h1⟩,cs.toList,by simp,h2.mono fun c v h=>h.1⟩
 have one:v.cells.toList=[v]->∃q,WT P 12 t [q]/\Tl w No q v:=by
  intro e;rw[e] at h2
  match ps,h2 with
  |[q],h2=>
   refine⟨q,h1,?_⟩;have h3:=h2.1.1;cases q<;>first|exact h3|exact h3.1.elim
  |[],h2=>exact h2.elim
  |_::_::_,h2=>exact h2.2.elim
 unfold N9 at hp;split at hp
 ·rename_i hu;simp only[hu];obtain⟨b,rfl,_⟩:=open_bool hu hv ⟨fuel,hf⟩;exact one rfl
 ·rename_i k hu;simp only[hu];obtain⟨b,rfl,_⟩:=open_int hu hv ⟨fuel,hf⟩;exact one rfl
 ·rename_i hu;simp only[hu];obtain⟨b,rfl,_⟩:=ChangeMaps.open_string hu hv ⟨fuel,hf⟩;exact one rfl
 ·rename_i e hu;simp only[hu];obtain⟨a,len,cap,rfl⟩:=okWide_slice hu hv;exact one rfl
 ·rename_i fs hu;simp only[hu];obtain⟨cs,rfl,_⟩:=okWide_struct hu hv;exact two rfl
 ·rename_i n e hu;simp only[hu];unfold Value.okWide at hv;simp only[hu] at hv;obtain⟨cs,rfl,_⟩:=hv;exact two rfl
 ·cases hp
theorem MC:∀{ts:List TypeId}{vs:List Value}{ds:List (DataW H)} {p:List MemPlace}{r:Reach}{b0:Nat},(ts.all fun t=>N9 P 12 t)=true->(∀(j:Nat) t v,ts[j]?=some t->vs[j]?=some v->Value.okWide P w r b0 t v) ->
  DataW.TrodAll enc P w base (fun _=>true) held ts vs ds p->∃qs,Bo (WTv P) ts qs/\Bo (Tl w No) qs vs
 |[],[],[],_,_,_,_,_,_=>⟨[],trivial,trivial⟩
 |t::ts,v::vs,d::ds,_,r,b0,hp,hv,⟨p,q,h1,h2,_⟩=>by
  simp only[List.all_cons,Fb] at hp;obtain⟨x,h3,h4⟩:=Aji hp.1 (hv 0 t v rfl rfl) h1;obtain⟨xs,h5,h6⟩:=MC hp.2 (fun j t v ht Qo=>hv (j+1) t v ht Qo) h2;exact⟨x::xs,⟨h3,h5⟩,h4,h6⟩
 |[],_::_,_,_,_,_,_,_,h=>by cases h
 |[],[],_::_,_,_,_,_,_,h=>by cases h
 |_::_,[],_,_,_,_,_,_,h=>by cases h
 |_::_,_::_,[],_,_,_,_,_,h=>by cases h
theorem Xh(hl:laidOutB P=true){W W':World}{sp:Nat->Bool}:∀{ts:List TypeId}{vs:List Value}{ds:List (DataW H)} {p:List MemPlace},(ts.all fun t=>P.readableRec t&&Nat.blt t P.types.size)=true ->
  DataW.TrodAll enc P W 0 (fun _=>true) true ts vs ds p->(∀x∈p,W.sameAt W' x)->(∀x∈p,sp x.block=true)->DataW.TrodAll enc P W' 0 sp true ts vs ds p
 |[],[],[],_,_,h,_,_=>h
 |t::ts,v::vs,d::ds,_,hr,⟨p,q,h1,h2,e⟩,hs,hsp=>by
  simp only[List.all_cons,Fb] at hr;refine⟨p,q,WideElems.Trod_stays hl hr.1.1 (Nat.lt_of_succ_le (Rc hr.1.2)) h1 (fun x hx=>hs x ?_) (fun x hx=>hsp x ?_),Xh hl hr.2 h2 (fun x hx=>hs x ?_) (fun x hx=>hsp x ?_),e⟩
  all_goals rw[e,Bu]
  ·exact .inl hx
  ·exact .inl hx
  ·exact .inr hx
  ·exact .inr hx
 |[],_::_,_,_,_,h,_,_=>by cases h
 |[],[],_::_,_,_,h,_,_=>by cases h
 |_::_,[],_,_,_,h,_,_=>by cases h
 |_::_,_::_,[],_,_,h,_,_=>by cases h
theorem LH{f:Func}{s:ChangeSpec}{apart fresh PH again:Bool}{W W':World}{args:Array Value}{v:Value}{ds gs:List (DataW H)}{before pa pv:List MemPlace}(hW:DataW.Whole enc P f.params.toList s.vars apart W args.toList ds gs before)(Auj:∀(b:Nat)(sp:Nat->Bool)(hd:Bool),DataW.TrodAll enc P W' b sp hd f.resultTypes.toList (v.resultList f.resultTypes.size) (s.fn H (ds++gs)).results [])(Ga:∀sp:Nat->Bool,(∀p∈before,sp p.block=true)->DataW.TrodAll enc P W' 0 sp true f.params.toList args.toList (s.fn H (ds++gs)).args pa)(TD:∀sp:Nat->Bool,(∀p∈before,sp p.block=true)->DataW.TrodVars enc P W' sp s.vars (s.fn H (ds++gs)).vars pv)(EQ:before=pa++pv)(hb:Below W.heap.size W W')(hok:∀(j:Nat)(t:TypeId)(r:Value),f.resultTypes[j]?=some t->(v.resultList f.resultTypes.size)[j]?=some r->Value.okWide P W' .any 0 t r):
  s.post enc P f apart fresh PH again W args v W':=by
 have Cx:∀p∈before,p.block<W.heap.size:=fun p hp=>hW.lt p hp;have hold:∀p∈before,(fun b=>decide (b<W.heap.size)) p.block=true:=fun p hp=>by simpa using Cx p hp
 refine⟨ds,gs,before,[],pa,pv,hW,Auj _ _ _,Ga _ hold,TD _ hold,World.keptBut_mono (fun p hp=>⟨hp,?_⟩) (hb.frame (· ∈ before)),fun _=>?_⟩
 ·rw[EQ,Bu] at hp;exact Or.inr hp
 ·obtain⟨_,_,_,_,_,hz,hn⟩:=hW;refine⟨hok,_,_,([]++pa)++pv,⟨[]++pa,pv,trodAll_append (Ga _ (fun _ _=>rfl)) (Auj _ _ _),TD _ (fun _ _=>rfl),rfl,?_,?_⟩,?_⟩
  ·intro b off hp;have Xg:MemPlace.cell b off∈before:=by rw[EQ];simpa using hp
   rw[hb.frozen (Cx _ Xg)];exact hz b off Xg
  ·intro ha;have:=hn ha;rw[EQ] at this
   simpa using this
  ·intro p hp _;rw[EQ]
   simpa using hp
theorem law_contract{G:Yl}{C:H2}(hx:MU G P C)(L0:NoNG P)(hm:P.follows .mixedOrders=true)(hl:laidOutB P=true){f:FuncId}{fn:Func}{s:ChangeSpec}{tb:TypeId}(hfn:P.funcs[f]?=some fn)(TD:s.vars=[])(Aus:∀ds:List (DataW H),ds.length=fn.params.size->s.fn H ds={ results:=[.lit (.bool true)],args:=ds })(Aqu:(fn.params.toList.all fun t=>N9 P 12 t)=true)(Awa:(fn.params.toList.all fun t=>P.readableRec t&&Nat.blt t P.types.size)=true)(hrt:fn.resultTypes = #[tb])(hub:P.underlying tb=some .bool){apart fresh PH again:Bool}(W:World)(base:Nat)(args:Array Value)(ds gs:List (DataW H))(before:List MemPlace)(hval:∀(j:Nat) t v,fn.params[j]?=some t->args[j]?=some v->Value.okWide P W .any base t v)(hW:DataW.Whole enc P fn.params.toList s.vars apart W args.toList ds gs before)(A3z:∀qs:Al,Bo (WTv P) fn.params.toList qs->∃fu d,Ae C P fu d f qs=some ⟨[.sc (.bool true)],[]⟩)(hG:G.ok W)(hGY:∀b,G.bl b->b<W.heap.size):
  Calls P f args W fun e W'=>∃v,e=.returned v/\s.post enc P fn apart fresh PH again W args v W':=by
 have hW':=hW;obtain⟨p,q,hA,hV,rfl,CY,hnd⟩:=hW;rw[TD] at hV;obtain⟨rfl,rfl⟩:=trodVars_none hV;obtain⟨qs,h1,h2⟩:=MC Aqu (fun j t v ht hv=>hval j t v (by simpa using ht) (by simpa using hv)) hA;obtain⟨fu,d,hc⟩:=A3z qs h1;have hS:=(J9 L0 hm hx d f qs _ hc).2 W No VO args.toList (UZ (fun b h=>h.elim) h2) hG (fun b hb=>⟨hGY b hb,Rl b⟩);rw[Array.toArray_toList] at hS;refine hS.mono fun e W' ⟨vs,own,he,ho⟩=>?_;have hv:=ho.vals
 have T8:vs=[.bool true]:=by
  match vs,hv with
  |[u],hv=>
   have:A3 W' _ (.sc (.bool true)) u:=hv.1;rw[this.val]
  |[],hv=>exact hv.elim
  |_::_::_,hv=>exact hv.2.elim
 subst T8;subst he;have hb:Below W.heap.size W W':=⟨ho.os,ho.tape,ho.output,ho.ext.size,fun k hk=>ho.ext.keep k hk (Rl k)⟩
 have Cx:∀x∈p,x.block<W.heap.size:=fun x hx=>hW'.lt x (by simpa using hx)
 have Do:ds.length=fn.params.size:=by
  have:∀{ts:List TypeId} {vs:List Value} {ds:List (DataW H)} {p:List MemPlace},DataW.TrodAll enc P W 0 (fun _=>true) true ts vs ds p->ds.length=ts.length:=by
   intro ts
   induction ts with
   |nil=>intro vs ds p h;cases vs<;>cases ds<;>first|rfl|cases h
   |cons t ts ih=>
    intro vs ds p h;cases vs with
    |nil=>cases h
    |cons v vs=>
     cases ds with
     |nil=>cases h
     |cons d ds=>obtain⟨_,_,_,h2,_⟩:=h;simp[ih h2]
  simpa using this hA
 have hsp:=Aus (ds++[]) (by simpa using Do);refine⟨_,rfl,LH (pa:=p) (pv:=[]) hW' ?_ ?_ ?_ rfl hb ?_⟩
 ·intro b sp hd;rw[hsp,hrt];exact trodAll_mk1 (shut_bool hub _)
 ·intro sp A2s;rw[hsp];simp only[List.append_nil];exact Xh hl Awa hA (fun x hx=>hb.same (Cx x hx)) (fun x hx=>A2s x (by simpa using hx))
 ·intro sp _;rw[hsp,TD];rfl
 ·exact ok_one hrt rfl (okWide_bool_mk hub _)
end
end
section
open Go.Proofs.Tryz (prog)
theorem Ak7{d:Nat}{ps:Al}{k:IntKind}{t e:TypeId}(hk:Pc prog t=.sl e)(hc:prog.cellsOf e=1)(he:Pc prog e=.int k)(h:WT prog d t ps):
  ∃l:Am,ps=[.lst false 1 l.length (Bk k l)]/\l.length<=maxLen/\∀n∈l,(Lit.int k n).wf=true:=by
 obtain⟨rows,rfl,hl,hr⟩:=Au0 hk h;obtain⟨l,h1,h2,h3⟩:=DB (Aqc k) (fun n=>(Lit.int k n).wf=true) fun r hrr=>Ash he (hr r hrr).2;refine⟨l,?_,by omega,h3⟩;rw[h1,h2,hc]
theorem Agt{p:PV}{k:IntKind}{t e:TypeId}(ha:Cp prog t=false)(hk:Pc prog t=.sl e)(hc:prog.cellsOf e=1)(he:Pc prog e=.int k)(h:WTv prog t p):
  ∃l:Am,p=.lst false 1 l.length (Bk k l)/\l.length<=maxLen/\∀n∈l,(Lit.int k n).wf=true:=by
 have h':=Abc (P:=prog) (t:=t) (p:=p) ha h;obtain⟨l,h1,h2,h3⟩:=Ak7 hk hc he h';exact⟨l,by injection h1,h2,h3⟩
end
instance : Coe Int PV:=⟨fun x=>.sc (.int .i64 x)⟩
abbrev B9 (x:Int):PV:=.sc (.int .i64 x)
abbrev E4 (x:Int):PV:=.sc (.int .u64 x)
abbrev Ed(k n:Nat)(l:Al):PV:=.lst false k n l
abbrev Cg(l:Al):Option Bz:=some ⟨l,[]⟩
abbrev Fv(c:Option Bz)(k:PV->Al->Option Bz):Option Bz:=Ah c fun x y=>Af y<|Ac x k
abbrev Ca(k:IntKind)(l:Al)(f:Int->Al->Option Bz):Option Bz:=Ac l fun x y=>Eh k x fun z=>f z y
abbrev Z1(k:IntKind)(c:Option Bz)(f:Int->Option Bz):Option Bz:=Ah c fun x y=>Af y<|Ac x fun z t=>Eh k z fun u=>Af t<|f u
abbrev K2(k:Nat)(l:Al)(f:Nat->Al->Al->Option Bz):Option Bz:=Ac l fun x y=>Xw k x fun _ n c=>f n c y
abbrev ZzO(k:Nat)(l:Al)(f:Nat->Al->Al->Option Bz):Option Bz:=Ac l fun x y=>FJ k x fun n c=>f n c y
abbrev F8(l:Al)(f:Bool->Option Bz):Option Bz:=Ac l fun x y=>Cb x fun z=>Af y<|f z
abbrev Au(k:IntKind)(l:Al)(f:Int->Option Bz):Option Bz:=Ac l fun x y=>Eh k x fun z=>Af y<|f z
abbrev ZzA(n k m:Nat)(l e:Al)(f:Nat->Al->Option Bz):Option Bz:=A6 (decide (n*k<=l.length)&&true&&decide ((n+1)*m<=1099511627776)&&decide (n+1<=1099511627776))<|f (n+1) (List.take (n*k) l++e)
abbrev Ri(fu:Nat)(call:A7)(i:FuncId)(f:Func):=Axh CB prog fu call i f (Arf f)
inductive ZzQ:Bool->Bool->Prop
|t:ZzQ true true
|f:ZzQ false false
theorem Hj{R:Type}{b c:Bool}{x y r:Option R}(h:ZzQ b c)(k:(match (generalizing:=false) c with|true=>x|false=>y)=r):As b x y=r:=by cases h<;>exact k
theorem Hh:type_of% gT/\type_of% gF/\type_of% @Bool.not_true/\type_of% @Bool.not_false/\type_of% @decide_eq_true/\type_of% @decide_eq_false/\type_of% @decide_true/\type_of% @decide_false:=⟨gT,gF,@Bool.not_true,@Bool.not_false,@decide_eq_true,@decide_eq_false,@decide_true,@decide_false⟩
theorem A1(n k m:Nat)(l e:Al)(f:Nat->Al->Option Bz):ZzA n k m l e f=(A6 (decide (n*k<=l.length)&&true&&decide ((n+1)*m<=1099511627776)&&decide (n+1<=1099511627776))<|f (n+1) (List.take (n*k) l++e)):=by exact id rfl
abbrev ZzE(C:H2)(fu d:Nat)(F:FuncId)(l:Al)(b:A7->Option Bz):Prop:=Ae C prog fu (d+1) F l=b (Ae C prog fu d)
section
variable {xs:FuncId->Option (Al->Option Bz)}(fu d:Nat)(call:A7)
theorem Xv(Y Z:Int):ZzE (CX xs) fu d 112 [E4 Y,E4 Z] fun call=>A6 (decide (0<=Z))<|Ab (H6 .u64 Y Z) fun a=>Ab (wrap .u64 (64-Z)) fun b=>A6 (decide (0<=b))<|Ab (S0 .u64 Y b) fun b=>Ab (EO .u64 a b) fun a=>Cg [E4 a]:=by show _=_;kernel_rfl
theorem Wx(X Z:Int)(W Y:Int):ZzE (CX xs) fu d 95 [.agg [E4 X,E4 Z,E4 W,E4 Y]] fun call=>Ab (wrap .u64 (X+Z)) fun a=>Z1 .u64 (call 112 [E4 Z,E4 13]) fun b=>Ab (Ho .u64 b a) fun b=>Z1 .u64 (call 112 [E4 a,E4 32]) fun a=>Ab (wrap .u64 (W+Y)) fun c=>Z1 .u64 (call 112 [E4 Y,E4 16]) fun e=>Ab (Ho .u64 e c) fun e=>Ab (wrap .u64 (a+e)) fun a=>Z1 .u64 (call 112 [E4 e,E4 21]) fun e=>Ab (Ho .u64 e a) fun e=>Ab (wrap .u64 (c+b)) fun c=>Z1 .u64 (call 112 [E4 b,E4 17]) fun b=>Ab (Ho .u64 b c) fun b=>Z1 .u64 (call 112 [E4 c,E4 32]) fun c=>Cg [.agg [E4 a,E4 b,E4 c,E4 e]]:=by show _=_;kernel_rfl
def Ge(Z Y:Int)(X:Nat)(W:Al)(V U:Nat)(T:Al)(S:Int)(Q:Al):Option Bz:=Ri fu call 69 Tryz.f69 [E4 Z,E4 Y,Ed 1 X W] [.r,.r,.l,.r,.l] V ⟨lk [(2,Ed 1 U T),(7,.ptr 7 0),(8,S)],H4 [(7,.ar false Q)]⟩
def Fd(Z Y:Int)(X:Nat)(W:Al)(V U T:Nat)(S:Al)(Q P O:Int)(N:Al):Option Bz:=Ri fu call 69 Tryz.f69 [E4 Z,E4 Y,Ed 1 X W] [.r,.r,.l,.r,.l,.i V,.r,.l,.l,.r,.l,.r,.l] U ⟨lk [(2,Ed 1 T S),(7,.ptr 7 0),(8,Q),(9,E4 P),(10,O)],H4 [(7,.ar false N)]⟩
theorem L7(W V:Int)(U:Nat)(T:Al)(S Y:Nat)(Q:Al)(X:Int)(Z:Al):Ge fu call W V U T (S+1) Y Q X Z=(As (decide (X<=(↑Y:Int))) (Fd fu call W V U T S fu Y Q X 0 7 Z) (Eh .u64 (Z.getD 2 .top) fun a=>Ab (Ho .u64 a 255) fun a=>A6 (decide (3<=Z.length))<|Ab (Cw Z [E4 a] 2) fun a=>Eh .u64 (a.getD 0 .top) fun b=>Eh .u64 (a.getD 1 .top) fun c=>Eh .u64 (a.getD 2 .top) fun e=>Eh .u64 (a.getD 3 .top) fun f=>Fv (call 95 [.agg [E4 b,E4 c,E4 e,E4 f]]) fun b c=>Fo b fun b=>Ca .u64 b fun b e=>Ca .u64 e fun e f=>Ca .u64 f fun f g=>Au .u64 g fun g=>Af c<|Fv (call 95 [.agg [E4 b,E4 e,E4 f,E4 g]]) fun b c=>Fo b fun b=>Ca .u64 b fun b e=>Ca .u64 e fun e f=>Ca .u64 f fun f g=>Au .u64 g fun g=>Af c<|Fv (call 95 [.agg [E4 b,E4 e,E4 f,E4 g]]) fun b c=>Fo b fun b=>Ca .u64 b fun b e=>Ca .u64 e fun e f=>Ca .u64 f fun f g=>Au .u64 g fun g=>Af c<|Fv (call 95 [.agg [E4 b,E4 e,E4 f,E4 g]]) fun b c=>Fo b fun b=>Ca .u64 b fun b e=>Ca .u64 e fun e f=>Ca .u64 f fun f g=>Au .u64 g fun g=>Af c<|A6 (decide (4<=a.length))<|Ab (Cw a [E4 b,E4 e,E4 f,E4 g] 0) fun a=>Eh .u64 (a.getD 0 .top) fun b=>Eh .u64 (a.getD 1 .top) fun c=>Ab (Ho .u64 b c) fun b=>Eh .u64 (a.getD 2 .top) fun c=>Ab (Ho .u64 b c) fun b=>Eh .u64 (a.getD 3 .top) fun a=>Ab (Ho .u64 b a) fun a=>Cg [E4 a])):=by kernel_rfl
theorem Mr(T S:Int)(Q:Nat)(P:Al)(O N Z:Nat)(V:Al)(X U Y:Int)(W:Al):Fd fu call T S Q P O (N+1) Z V X U Y W=(As (decide (Y>=0)) (Ab (wrap .i64 (X+Y)) fun a=>As (decide (a<(↑Z:Int))) (Ab (wrap .i64 (X+Y)) fun a=>A6 (decide (0<=a)&&decide (a<(↑Z:Int)))<|Eh .u8 (V.getD (a.toNat*1) .top) fun a=>Ab (H6 .u64 U 8) fun b=>Ab (wrap .u64 a) fun a=>Ab (EO .u64 b a) fun a=>Ab (wrap .i64 (Y-1)) fun b=>Fd fu call T S Q P O N Z V X a b W) (As (Y==7) (Ab (wrap .u8 (↑Z:Int)) fun a=>Ab (H6 .u64 U 8) fun b=>Ab (wrap .u64 a) fun a=>Ab (EO .u64 b a) fun a=>Ab (wrap .i64 (Y-1)) fun b=>Fd fu call T S Q P O N Z V X a b W) (Ab (H6 .u64 U 8) fun a=>Ab (EO .u64 a 0) fun a=>Ab (wrap .i64 (Y-1)) fun b=>Fd fu call T S Q P O N Z V X a b W))) (Eh .u64 (W.getD 3 .top) fun a=>Ab (Ho .u64 a U) fun a=>A6 (decide (4<=W.length))<|Ab (Cw W [E4 a] 3) fun a=>Eh .u64 (a.getD 0 .top) fun b=>Eh .u64 (a.getD 1 .top) fun c=>Eh .u64 (a.getD 2 .top) fun e=>Eh .u64 (a.getD 3 .top) fun f=>Fv (call 95 [.agg [E4 b,E4 c,E4 e,E4 f]]) fun b c=>Fo b fun b=>Ca .u64 b fun b e=>Ca .u64 e fun e f=>Ca .u64 f fun f g=>Au .u64 g fun g=>Af c<|Fv (call 95 [.agg [E4 b,E4 e,E4 f,E4 g]]) fun b c=>Fo b fun b=>Ca .u64 b fun b e=>Ca .u64 e fun e f=>Ca .u64 f fun f g=>Au .u64 g fun g=>Af c<|A6 (decide (4<=a.length))<|Ab (Cw a [E4 b,E4 e,E4 f,E4 g] 0) fun a=>Eh .u64 (a.getD 0 .top) fun b=>Ab (Ho .u64 b U) fun b=>A6 (decide (1<=a.length))<|Ab (Cw a [E4 b] 0) fun a=>Ab (wrap .i64 (X+8)) fun b=>Ge fu call T S Q P O Z V b a)):=by kernel_rfl
theorem AH(Z Y:Int)(X:Nat)(W:Al):ZzE (CX xs) fu d 69 [E4 Z,E4 Y,Ed 1 X W] fun call=>Ab (Ho .u64 Z 8317987319222330741) fun a=>Ab (Ho .u64 Y 7237128888997146477) fun b=>Ab (Ho .u64 Z 7816392313619706465) fun c=>Ab (Ho .u64 Y 8387220255154660723) fun e=>Ge fu call Z Y X W fu X W 0 ([E4 a,E4 b,E4 c,E4 e]):=by show _=_;kernel_rfl
theorem Y4(Z Y:Int)(X:Nat)(W:Al):ZzE (CX xs) fu d 47 [E4 Z,Y,Ed 1 X W] fun call=>Ab (wrap .u64 Y) fun a=>Ab (wrap .u64 (1+a)) fun a=>Z1 .u64 (call 69 [E4 Z,E4 a,Ed 1 X W]) fun a=>Cg [E4 a]:=by show _=_;kernel_rfl
def Fn(Z:Nat)(Y:Al)(X W:Nat)(V:Al)(U:Nat)(T:Int)(S:Al):Option Bz:=Ri fu call 46 Tryz.f46 [Ed 1 Z Y] [.r,.r,.l,.r,.l] X ⟨lk [(0,Ed 1 W V),(3,.view 3 1 0 U),(4,T)],H4 [(3,.ar false S)]⟩
def Gv(Z:Nat)(Y:Al)(X W V:Nat)(U:Al)(T:Nat)(S Q:Int)(P:Al):Option Bz:=Ri fu call 46 Tryz.f46 [Ed 1 Z Y] [.r,.r,.l,.r,.l,.i X,.r,.l,.l,.r,.l] W ⟨lk [(0,Ed 1 V U),(3,.view 3 1 0 T),(4,S),(5,Q)],H4 [(3,.ar false P)]⟩
theorem Kr(V:Nat)(U:Al)(T X:Nat)(S:Al)(Z:Nat)(W:Int)(Y:Al):Fn fu call V U (T+1) X S Z W Y=(As (decide (W<(↑X:Int))) (Gv fu call V U T fu X S Z W 7 Y) (A6 (decide (Z*1<=Y.length))<|Cg [.own 1 Z (Y.take (Z*1))])):=by kernel_rfl
theorem Kw(V:Nat)(U:Al)(T P Y:Nat)(X:Al)(S:Nat)(Z W:Int)(Q:Al):Gv fu call V U T (P+1) Y X S Z W Q=(As (decide (W>=0)) (A6 (decide (0<=Z)&&decide (Z<(↑Y:Int)))<|Eh .u64 (X.getD (Z.toNat*1) .top) fun a=>Ab (wrap .i64 (8*W)) fun b=>Ab (wrap .u64 b) fun b=>A6 (decide (0<=b))<|Ab (S0 .u64 a b) fun a=>Ab (wrap .u8 a) fun a=>ZzA S 1 1 Q [.sc (.int .u8 a)] fun a b=>Ab (wrap .i64 (W-1)) fun c=>Gv fu call V U T P Y X a Z c b) (Ab (wrap .i64 (Z+1)) fun a=>Fn fu call V U T Y X S a Q)):=by kernel_rfl
theorem Wq(Z:Nat)(Y:Al):ZzE (CX xs) fu d 46 [Ed 1 Z Y] fun call=>Fn fu call Z Y fu Z Y 0 0 ([]):=by show _=_;kernel_rfl
end
def rot(x k:Int):Int:=EO .u64 (H6 .u64 x k) (S0 .u64 x (64-k))
structure W4 where
 a:Int
 b:Int
 c:Int
 d:Int
def W4.cells(v:W4):Al:=[E4 v.a,E4 v.b,E4 v.c,E4 v.d]
def Azb(v:W4):W4:=⟨rot (wrap .u64 (v.a+v.b)) 32,Ho .u64 (rot v.b 13) (wrap .u64 (v.a+v.b)),wrap .u64 (v.c+v.d),Ho .u64 (rot v.d 16) (wrap .u64 (v.c+v.d))⟩
def A17(v:W4):W4:=⟨wrap .u64 (v.a+v.d),Ho .u64 (rot v.b 17) (wrap .u64 (v.c+v.b)),rot (wrap .u64 (v.c+v.b)) 32,Ho .u64 (rot v.d 21) (wrap .u64 (v.a+v.d))⟩
def KL(v:W4):W4:=A17 (Azb v)
def Arc:Nat->W4->W4
 |0,v=>v
 |n+1,v=>Arc n (KL v)
def Avo(r:W4)(m:Int):W4:=⟨Ho .u64 r.a m,r.b,r.c,r.d⟩
def SV(v:W4)(m:Int):W4:=Avo (Arc 2 ⟨v.a,v.b,v.c,Ho .u64 v.d m⟩) m
def Yu:Am->Int
 |[]=>0
 |b::r=>b+256*Yu r
def Ad2:Nat->W4->Am->W4
 |0,v,_=>v
 |n+1,v,l=>Ad2 n (SV v (Yu (l.take 8))) (l.drop 8)
def Au2(k0 k1:Int):W4:=⟨Ho .u64 k0 8317987319222330741,Ho .u64 k1 7237128888997146477,Ho .u64 k0 7816392313619706465,Ho .u64 k1 8387220255154660723⟩
def Aqz(v:W4):W4:=Arc 4 ⟨v.a,v.b,Ho .u64 v.c 255,v.d⟩
def Ane(v:W4):Int:=Ho .u64 (Ho .u64 (Ho .u64 v.a v.b) v.c) v.d
def NT(l:Am):Int:=Yu (l.drop (8*(l.length / 8)))+72057594037927936*((l.length:Int) % 256)
def As2(k0 k1:Int)(l:Am):Int:=Ane (Aqz (SV (Ad2 (l.length / 8) (Au2 k0 k1) l) (NT l)))
def Aup(dom:Int)(l:Am):Int:=As2 (wrap .u64 dom) 0 l
def Awy(key dom:Int)(l:Am):Int:=As2 key (wrap .u64 (1+wrap .u64 dom)) l
def Ct(l:Am):Prop:=∀b∈l,0<=b/\b<=255
theorem JO:∀{l:Am},Ct l->0<=Yu l/\Yu l<256 ^ l.length
 |[],_=>by simp[Yu]
 |b::r,h=>by
  have h1:=h b (by simp);have h2:=JO (l:=r) fun x hx=>h x (by simp[hx]);have h3:(256:Int) ^ (b::r).length=256 ^ r.length*256:=by rw[Ub,Int.pow_succ]
  simp only[Yu];omega
theorem GZ:∀(l r:Am),Yu (l++r)=Yu l+256 ^ l.length*Yu r
 |[],r=>by simp[Yu]
 |b::l,r=>by
  have ih:=GZ l r;simp only[WM,Yu,Ub,Int.pow_succ];rw[ih,Int.mul_add];have:(256:Int)*(256 ^ l.length*Yu r)=256 ^ l.length*256*Yu r:=by rw[<-Int.mul_assoc,Int.mul_comm 256]
  omega
theorem FH{a c:Int}(k b:Nat)(h0:0<=a)(h1:a<((2 ^ k:Nat):Int))(hc:c=((b*2 ^ k:Nat):Int))(h:a+c<=18446744073709551615):EO .u64 a c=a+c/\EO .u64 c a=a+c:=by
 obtain⟨n,rfl⟩:=Int.eq_ofNat_of_zero_le h0;subst hc;have hn:n<2 ^ k:=by omega
 generalize hB:b*2 ^ k=m at h
 have e4:(BitVec.ofInt 64 (n:Int)).toNat=n:=by
  rw[BitVec.toNat_ofInt];omega
 have e5:(BitVec.ofInt 64 (m:Int)).toNat=m:=by
  rw[BitVec.toNat_ofInt];omega
 have e6:m ||| n=m+n:=by
  have:=Nat.shiftLeft_add_eq_or_of_lt hn b;rw[Nat.shiftLeft_eq,hB] at this;exact this.symm
 constructor
 ·show wrap .u64 ((BitVec.ofInt 64 (n:Int) ||| BitVec.ofInt 64 (m:Int)).toNat:Int)=_;rw[BitVec.toNat_or,e4,e5,Nat.or_comm,e6,E9 (by omega) (by omega)];omega
 ·show wrap .u64 ((BitVec.ofInt 64 (m:Int) ||| BitVec.ofInt 64 (n:Int)).toNat:Int)=_;rw[BitVec.toNat_or,e4,e5,e6,E9 (by omega) (by omega)];omega
theorem FO{a k:Int}(h0:0<=a)(hk:0<=k)(M0:k<=64)(h:a*((2 ^ k.toNat:Nat):Int)<=18446744073709551615):H6 .u64 a k=a*((2 ^ k.toNat:Nat):Int):=by
 show wrap .u64 (a*2 ^ (min k.toNat IntKind.u64.bits))=_;have e:min k.toNat IntKind.u64.bits=k.toNat:=Nat.min_eq_left (by show k.toNat<=64;omega)
 have e2:(2:Int) ^ k.toNat=((2 ^ k.toNat:Nat):Int):=by simp
 rw[e,e2,E9 (Int.mul_nonneg h0 (Int.natCast_nonneg _)) h]
section
variable {fu d:Nat}{xs:FuncId->Option (Al->Option Bz)}
theorem Afm{x k:Int}(hk:k=13\/k=16\/k=17\/k=21\/k=32):Ae (CX xs) prog fu (d+1) 112 [E4 x,E4 k]=some ⟨[E4 (rot x k)],[]⟩:=by rw[Xv];rcases hk with rfl|rfl|rfl|rfl|rfl<;>kernel_rfl
theorem Vx(k:IntKind)(l:Am)(i:Nat):List.take i (Bk k l)=Bk k (l.take i):=by
 have:=Aa2 (HA k) l i
 simpa using this
theorem Ct.drop{l:Am}(h:Ct l)(i:Nat):Ct (l.drop i):=fun x hx=>h x (List.mem_of_mem_drop hx)
theorem Ct.take{l:Am}(h:Ct l)(i:Nat):Ct (l.take i):=fun x hx=>h x (List.mem_of_mem_take hx)
theorem Of(v:W4):Ae (CX xs) prog fu (d+2) 95 [.agg [E4 v.a,E4 v.b,E4 v.c,E4 v.d]]=some ⟨[.agg (KL v).cells],[]⟩:=by have r13:=fun x=>Afm (xs:=xs) (fu:=fu) (d:=d) (x:=x) (k:=13) (by simp);have r16:=fun x=>Afm (xs:=xs) (fu:=fu) (d:=d) (x:=x) (k:=16) (by simp);have r17:=fun x=>Afm (xs:=xs) (fu:=fu) (d:=d) (x:=x) (k:=17) (by simp);have r21:=fun x=>Afm (xs:=xs) (fu:=fu) (d:=d) (x:=x) (k:=21) (by simp);have r32:=fun x=>Afm (xs:=xs) (fu:=fu) (d:=d) (x:=x) (k:=32) (by simp);rw[Wx];simp(disch:=omega)only[A2,A1,r13,r16,r17,r21,r32];rfl
def T9(l:Am)(i k:Nat):Int:=if i+k<l.length then l.getD (i+k) 0 else if k=7 then (l.length:Int) % 256 else 0
def pc(l:Am)(i:Nat):Am:=(List.range 8).map (T9 l i)
theorem A4n{l:Am}(hb:Ct l)(i:Nat):Ct (pc l i):=by
 intro x hx;obtain⟨k,hk,rfl⟩:=List.mem_map.1 hx;unfold T9;split
 ·rename_i h;rw[List.getD_eq_getElem?_getD,List.getElem?_eq_getElem h];exact hb _ (List.getElem_mem h)
 ·split<;>omega
theorem Anw{l:Am}{i:Nat}(h:i+8<=l.length):pc l i=(l.drop i).take 8:=by
 refine List.ext_getElem (by simp[pc];omega) fun k h1 h2=>?_
 have hk:k<8:=by simpa [pc] using h1
 simp only[pc,List.getElem_map,List.getElem_range,List.getElem_take,List.getElem_drop,T9];rw[Bq (by omega),List.getD_eq_getElem?_getD,List.getElem?_eq_getElem (by omega)];rfl
theorem NJ(x:Int):∀n,Yu (List.replicate n 0++[x])=256 ^ n*x
 |0=>by simp[Yu]
 |n+1=>by
  rw[List.replicate_succ,WM,Yu,NJ x n,Int.pow_succ,Int.mul_comm (256 ^ n) 256,Int.mul_assoc];omega
theorem An4{l:Am}:Yu (pc l (8*(l.length / 8)))=NT l:=by
 have e:pc l (8*(l.length / 8))=l.drop (8*(l.length / 8))++(List.replicate (7-(l.length-8*(l.length / 8))) 0++[(l.length:Int) % 256]):=by
  refine List.ext_getElem (by simp[pc];omega) fun k h1 h2=>?_
  have hk:k<8:=by simpa [pc] using h1
  simp only[pc,List.getElem_map,List.getElem_range,T9];by_cases hc:8*(l.length / 8)+k<l.length
  ·rw[Bq hc,List.getElem_append_left (by rw[List.length_drop];omega),List.getElem_drop,List.getD_eq_getElem?_getD,List.getElem?_eq_getElem hc]
   rfl
  ·rw[Bg hc,List.getElem_append_right (by rw[List.length_drop];omega)]
   by_cases h7:k=7
   ·rw[Bq h7,List.getElem_append_right (by simp;omega)]
    simp
   ·rw[Bg h7,List.getElem_append_left (by simp;omega)]
    simp
 rw[e,GZ,NJ];unfold NT
 have:(256:Int) ^ (l.drop (8*(l.length / 8))).length*(256 ^ (7-(l.length-8*(l.length / 8)))*((l.length:Int) % 256))=72057594037927936*((l.length:Int) % 256):=by
  rw[<-Int.mul_assoc,<-Int.pow_add,List.length_drop];have:l.length-8*(l.length / 8)+(7-(l.length-8*(l.length / 8)))=7:=by omega
  rw[this];rfl
 rw[this]
theorem Awb{a b:Int}(ha:0<=a)(ha':a<72057594037927936)(hb:0<=b)(Jf:b<=255):EO .u64 (H6 .u64 a 8) b=b+256*a:=by
 obtain⟨n,rfl⟩:=Int.eq_ofNat_of_zero_le ha
 have hs:H6 .u64 (n:Int) 8=((n*2 ^ 8:Nat):Int):=by
  have:=FO (a:=(n:Int)) (k:=8) (by omega) (by omega) (by omega) (by
   have:(2 ^ (8:Int).toNat:Nat)=256:=by decide
   rw[this];omega)
  rw[this];have:(2 ^ (8:Int).toNat:Nat)=256:=by decide
  rw[this];have:(2 ^ 8:Nat)=256:=by decide
  rw[this];omega
 have h8:(2 ^ 8:Nat)=256:=by decide
 rw[hs,(FH (a:=b) 8 n hb (by rw[h8];omega) rfl (by rw[h8];omega)).2,h8]
 omega
theorem Aan{a0 a1:Int}{n m0:Nat}{c:Al}{l:Am}(hb:Ct l)(hl:l.length<=1099511627776){i:Nat}(hi:i<=l.length)(v:W4):∀(j nn:Nat),j<=8->j<nn ->
  Fd fu (Ae (CX xs) prog fu (d+2)) a0 a1 n c m0 nn l.length (Bk .u8 l) i (Yu ((pc l i).drop j)) ((j:Int)-1) v.cells =
   Ge fu (Ae (CX xs) prog fu (d+2)) a0 a1 n c m0 l.length (Bk .u8 l) ((i+8:Nat):Int) (SV v (Yu (pc l i))).cells
 |_,0,_,h=>by omega
 |0,nn+1,hj,hn=>by
  have w8:wrap .i64 ((i:Int)+8)=((i+8:Nat):Int):=by rw[Ar (by omega) (by omega)];omega
  have r1:=Of (xs:=xs) (fu:=fu) (d:=d) ⟨v.a,v.b,v.c,Ho .u64 v.d (Yu (pc l i))⟩;have r2:=Of (xs:=xs) (fu:=fu) (d:=d) (KL ⟨v.a,v.b,v.c,Ho .u64 v.d (Yu (pc l i))⟩);have eA:SV v (Yu (pc l i))=Avo (KL (KL ⟨v.a,v.b,v.c,Ho .u64 v.d (Yu (pc l i))⟩)) (Yu (pc l i)):=rfl;rw[eA];generalize KL ⟨v.a,v.b,v.c,Ho .u64 v.d (Yu (pc l i))⟩=U at r1 r2 ⊢;generalize KL U=U2 at r2 ⊢;simp only[W4.cells] at r1 r2;rw[Mr,JA _ _ _ (by omega),SL];simp only[W4.cells,List.getD_cons_zero,List.getD_cons_succ,HF,Pg];simp (disch:=first|omega|(simp;done)) only[A2,A1,Cw,List.take_succ_cons,List.take_zero,List.drop_succ_cons,SL,List.drop_nil,WM,Zzq,List.append_nil,Ub,Zzh,List.getD_cons_zero,List.getD_cons_succ,r1,r2,w8,Ob,Nat.reduceAdd,Nat.reduceLeDiff,List.append_eq]
  rfl
 |j+1,nn+1,hj,hn=>by
  have ih:=Aan (a0:=a0) (a1:=a1) (n:=n) (m0:=m0) (c:=c) hb hl hi v j nn (by omega) (by omega);have hw:wrap .i64 ((i:Int)+(((j+1:Nat):Int)-1))=((i+j:Nat):Int):=by rw[Ar (by omega) (by omega)];omega
  have wj:wrap .i64 (((j+1:Nat):Int)-1-1)=(j:Int)-1:=by rw[Ar (by omega) (by omega)];omega
  have hd:(pc l i).drop j=T9 l i j::(pc l i).drop (j+1):=by
   rw[List.drop_eq_getElem_cons (by simp[pc];omega)]
   simp[pc]
  have hB:=A4n hb i;have hbn:=JO (hB.drop (j+1))
  have hp7:(256:Int) ^ ((pc l i).drop (j+1)).length<=72057594037927936:=by
   have Do:((pc l i).drop (j+1)).length<=7:=by simp[pc]
   have:(256:Nat) ^ ((pc l i).drop (j+1)).length<=256 ^ 7:=Nat.pow_le_pow_right (by omega) Do;have h2:(((256:Nat) ^ ((pc l i).drop (j+1)).length:Nat):Int)<=((256 ^ 7:Nat):Int):=by omega
   simpa using h2
  have hc0:0<=T9 l i j/\T9 l i j<=255:=hB _ (by rw[<-SL (l:=pc l i)];exact List.mem_of_mem_drop (i:=j) (by rw[SL,hd];simp))
  have hj2:EO .u64 (H6 .u64 (Yu ((pc l i).drop (j+1))) 8) (T9 l i j)=Yu ((pc l i).drop j):=by
   rw[Awb hbn.1 (by omega) hc0.1 hc0.2,hd];rfl
  have wc:wrap .u64 (T9 l i j)=T9 l i j:=E9 (by omega) (by omega);rw[Mr,KD _ _ _ (by omega)];simp only[Pg,hw];by_cases c1:i+j<l.length
  ·have e:T9 l i j=l.getD (i+j) 0:=by unfold T9;rw[Bq c1]
   have e2:l[i+j]?=some (T9 l i j):=by rw[e,List.getD_eq_getElem?_getD,List.getElem?_eq_getElem c1];rfl
   rw[KD _ _ _ (by omega)];simp(disch:=omega)only[A2,A1,Kc,KJ,ati e2,wc,hj2,wj];exact ih
  ·rw[JA _ _ _ (by omega)];by_cases h7:j=7
   ·subst h7;have e:T9 l i 7=(l.length:Int) % 256:=by unfold T9;rw[Bg c1,Bq rfl]
    have e8:wrap .u8 (l.length:Int)=T9 l i 7:=by
     rw[e];simp only[wrap,IntKind.signed,IntKind.bits];simp
    rw[Abd,Bq (by omega),e8,wc,hj2,wj];exact ih
   ·have e:T9 l i j=0:=by unfold T9;rw[Bg c1,Bg h7]
    rw[e] at hj2;rw[Abd,Bg (by omega),hj2,wj];exact ih
theorem OA{a0 a1:Int}{n:Nat}{c:Al}{l:Am}(hb:Ct l)(hl:l.length<=1099511627776)(Ce:100<=fu):∀(k i nn:Nat)(v:W4),i+k=l.length / 8->k+1<nn ->
  Ge fu (Ae (CX xs) prog fu (d+2)) a0 a1 n c nn l.length (Bk .u8 l) ((8*i:Nat):Int) v.cells=some ⟨[E4 (Ane (Aqz (SV (Ad2 k v (l.drop (8*i))) (NT l))))],[]⟩
 |_,_,0,_,_,h=>by omega
 |k,i,nn+1,v,hi,hn=>by
  have step:=Aan (xs:=xs) (fu:=fu) (d:=d) (a0:=a0) (a1:=a1) (n:=n) (m0:=nn) (c:=c) hb hl (i:=8*i) (by omega) v 8 fu (by omega) (by omega);have e0:Yu ((pc l (8*i)).drop 8)=0:=by rw[List.drop_of_length_le (by simp[pc])];rfl
  rw[e0] at step;rw[L7,KD _ _ _ (by omega)];refine step.trans ?_;cases k with
  |zero=>
   have e:i=l.length / 8:=by omega
   subst e;rw[An4];generalize hv:SV v (NT l)=u;obtain⟨nn',rfl⟩:∃nn',nn=nn'+1:=⟨nn-1,by omega⟩
   have r1:=Of (xs:=xs) (fu:=fu) (d:=d) ⟨u.a,u.b,Ho .u64 u.c 255,u.d⟩;have r2:=Of (xs:=xs) (fu:=fu) (d:=d) (KL ⟨u.a,u.b,Ho .u64 u.c 255,u.d⟩);have r3:=Of (xs:=xs) (fu:=fu) (d:=d) (KL (KL ⟨u.a,u.b,Ho .u64 u.c 255,u.d⟩));have r4:=Of (xs:=xs) (fu:=fu) (d:=d) (KL (KL (KL ⟨u.a,u.b,Ho .u64 u.c 255,u.d⟩)))
   have eF:Ane (Aqz (SV (Ad2 0 v (l.drop (8*(l.length / 8)))) (NT l)))=Ane (KL (KL (KL (KL ⟨u.a,u.b,Ho .u64 u.c 255,u.d⟩)))):=by
    rw[Ad2,hv];rfl
   rw[eF];clear eF;generalize KL ⟨u.a,u.b,Ho .u64 u.c 255,u.d⟩=U1 at r1 r2 r3 r4 ⊢;generalize KL U1=U2 at r2 r3 r4 ⊢;generalize KL U2=U3 at r3 r4 ⊢;generalize KL U3=U4 at r4 ⊢;simp only[W4.cells] at r1 r2 r3 r4;rw[L7,JA _ _ _ (by omega)];simp only[W4.cells,List.getD_cons_zero,List.getD_cons_succ,HF,Pg];simp (disch:=first|omega|(simp;done)) only[A2,A1,Cw,List.take_succ_cons,List.take_zero,List.drop_succ_cons,SL,List.drop_nil,WM,Zzq,List.append_nil,Ub,Zzh,List.getD_cons_zero,List.getD_cons_succ,r1,r2,r3,r4,Ob,Nat.reduceAdd,Nat.reduceLeDiff,List.append_eq]
   rfl
  |succ k=>
   have ih:=OA (a0:=a0) (a1:=a1) (n:=n) (c:=c) hb hl Ce k (i+1) nn (SV v (Yu (pc l (8*i)))) (by omega) (by omega);rw[show 8*i+8=8*(i+1) by omega,ih,Anw (by omega)];simp only[Ad2,List.drop_drop];rw[show 8*(i+1)=8*i+8 by omega]
theorem Amq{l:Am}(hb:Ct l)(hl:l.length<=1099511627776)(Ce:100<=fu)(hf:l.length<fu)(k0 k1:Int):Ae (CX xs) prog fu (d+3) 69 [E4 k0,E4 k1,.lst false 1 l.length (Bk .u8 l)]=some ⟨[E4 (As2 k0 k1 l)],[]⟩:=by rw[AH];exact OA (xs:=xs) (fu:=fu) (d:=d) (a0:=k0) (a1:=k1) (n:=l.length) (c:=Bk .u8 l) hb hl Ce (l.length / 8) 0 fu (Au2 k0 k1) (by omega) (by omega)
theorem Akn{l:Am}(hb:Ct l)(hl:l.length<=1099511627776)(Ce:100<=fu)(hf:l.length<fu)(key dom:Int):Ae (CX xs) prog fu (d+4) 47 [E4 key,B9 dom,.lst false 1 l.length (Bk .u8 l)]=some ⟨[E4 (Awy key dom l)],[]⟩:=by rw[Y4];have s:=Amq (xs:=xs) (fu:=fu) (d:=d) hb hl Ce hf key (wrap .u64 (1+wrap .u64 dom));simp only[A2,A1,s];rfl
end
def Th(w:Int)(k:Nat):Int:=wrap .u8 (S0 .u64 w (56-8*(k:Int)))
def Rr(w:Int):Am:=(List.range' 0 8).map (Th w)
def G2(ws:Am):Am:=ws.flatMap Rr
theorem Ls(w:Int):(Rr w).length=8:=rfl
section
variable {fu d:Nat}{xs:FuncId->Option (Al->Option Bz)}{call:A7}{n:Nat}{c:Al}
theorem NQ{ws:Am}{w:Int}{m0 i:Nat}(hw:ws[i]?=some w):∀(r nn:Nat)(j:Int)(bs:Am),j=(r:Int)-1->r<=8->r<nn->bs.length+r<=34359738368 ->
  Gv fu call n c m0 nn ws.length (Bk .u64 ws) bs.length i j (Bk .u8 bs) =
   Fn fu call n c m0 ws.length (Bk .u64 ws) (bs++(List.range' (8-r) r).map (Th w)).length (wrap .i64 (i+1)) (Bk .u8 (bs++(List.range' (8-r) r).map (Th w)))
 |r,0,j,bs,_,_,h,_=>by omega
 |0,nn+1,j,bs,hr,_,_,_=>by
  rw[Kw];simp(disch:=omega)only[A2,A1];simp
 |r+1,nn+1,j,bs,hr,BU,hn,hb=>by
  have hi:=Asn hw;have ih:=NQ (m0:=m0) hw r nn (j-1) (bs++[Th w (8-(r+1))]) (by omega) (by omega) (by omega) (by simp;omega)
  have e8:=C3 .u8 bs
  have hx:wrap .u8 (S0 .u64 w (wrap .u64 (wrap .i64 (8*j))))=Th w (8-(r+1)):=by
   rw[Ar (by omega) (by omega),E9 (by omega) (by omega)];unfold Th;rw[show 56-8*((8-(r+1):Nat):Int)=8*j by omega]
  have h0:0<=wrap .u64 (wrap .i64 (8*j)):=by
   rw[Ar (by omega) (by omega),E9 (by omega) (by omega)];omega
  have Aqy:List.range' (8-(r+1)) (r+1)=(8-(r+1))::List.range' (8-r) r:=by
   rw[List.range'_succ,show 8-(r+1)+1=8-r by omega]
  rw[Kw];simp (disch:=first|omega|exact h0) only[A2,A1,Kc,KJ,ati hw,hx,tki,UK,Ar (x:=j-1)];rw[Aqy];simp only[LG,Ub,Zzh,Ob,Zzv,Xy,List.singleton_append] at ih ⊢;exact ih
theorem EF{ws:Am}(hl:ws.length<=1073741824)(Ce:100<=fu):∀(r:Am)(i nn:Nat)(bs:Am),ws.drop i=r->r.length<nn->bs.length=8*i ->
  Fn fu call n c nn ws.length (Bk .u64 ws) bs.length i (Bk .u8 bs)=some ⟨[.own 1 (bs++G2 r).length (Bk .u8 (bs++G2 r))],[]⟩
 |r,i,0,_,_,h,_=>by omega
 |[],i,nn+1,bs,h,_,_=>by
  have:=drop_nil h;have e8:=C3 .u8 bs;rw[Kr];simp(disch:=omega)only[A2,A1,KJ,tki,G2,List.flatMap_nil,List.append_nil]
 |w::r,i,nn+1,bs,h,hn,hb=>by
  obtain⟨h1,h2,h3⟩:=E0 h;simp only[Ub] at hn;rw[Kr];simp(disch:=omega)only[A2,A1];rw[NQ h2 8 fu 7 bs rfl (by omega) (by omega) (by omega),Ar (by omega) (by omega)];have ih:=EF hl Ce r (i+1) nn (bs++Rr w) h3 (by omega) (by simp[Ls];omega)
  have e:bs++Rr w++G2 r=bs++G2 (w::r):=by simp[G2]
  rw[e] at ih;exact ih
theorem NK{ws:Am}(hl:ws.length<=1073741824)(Ce:100<=fu)(hf:ws.length<fu):Ae (CX xs) prog fu (d+1) 46 [.lst false 1 ws.length (Bk .u64 ws)]=some ⟨[.own 1 (G2 ws).length (Bk .u8 (G2 ws))],[]⟩:=by rw[Wq];exact EF hl Ce ws 0 fu [] rfl hf rfl
end
theorem Agz(w:Int)(k:Nat):0<=Th w k/\Th w k<=255:=by unfold Th;simp only[wrap,IntKind.signed,IntKind.bits];simp;omega
theorem Aa0(w:Int):Ct (Rr w):=by intro x hx;obtain⟨k,_,rfl⟩:=List.mem_map.1 hx;exact Agz w k
theorem Ahv(ws:Am):Ct (G2 ws):=by intro x hx;obtain⟨w,_,hx⟩:=List.mem_flatMap.1 hx;exact Aa0 w x hx
theorem HI(ws:Am):(G2 ws).length=8*ws.length:=by
 induction ws with
 |nil=>rfl
 |cons w ws ih=>
  show (Rr w++G2 ws).length=_;rw[LG,ih,Ls,Ub];omega
def Avk(m:Int)(k:Nat):Int:=wrap .i64 (CO .u64 (S0 .u64 m (60-4*(k:Int))) 15)
def Are(m:Int):Nat->Int
 |0=>0
 |k+1=>Are m k+(15-Avk m k)
def dgs(m:Int):Am:=(List.range 16).map (Avk m)++[Are m 16 / 16,Are m 16 % 16]
def dg(m:Int)(k:Nat):Int:=(dgs m).getD k 0
def Ave(leaf chain:Int):Nat->Int->Int->Int
 |0,_,x=>x
 |k+1,p,x=>Ave leaf chain k (p+1) (Aup 1 (G2 [wrap .u64 leaf,wrap .u64 chain,wrap .u64 p,x]))
def A20(leaf m:Int)(s:Am)(k:Nat):Int:=Ave leaf k (15-dg m k).toNat (dg m k) (s.getD k 0)
def el(leaf m:Int)(s:Am)(i:Nat):Am:=(List.range i).map (A20 leaf m s)++List.replicate (18-i) 0
def Eu(s:ByteArray):Am:=s.data.toList.map fun b=>(b.toNat:Int)
def Aa(l:Am):ByteArray:=⟨(l.map fun n=>n.toNat.toUInt8).toArray⟩
theorem Ik(s:ByteArray):(Eu s).length=s.size:=by unfold Eu;rw[List.length_map];rfl
theorem QH(s:ByteArray):Ct (Eu s):=by intro x hx;obtain⟨b,_,rfl⟩:=List.mem_map.1 hx;have:=b.toNat_lt;omega
theorem Ag(l:Am):(Aa l).size=l.length:=by show (l.map fun n=>n.toNat.toUInt8).toArray.size=_;simp
theorem Cs{l:Am}(h:Ct l):Eu (Aa l)=l:=by
 unfold Eu Aa;simp only[List.map_map]
 have:∀l:Am,Ct l->List.map ((fun b:UInt8=>(b.toNat:Int)) ∘ fun n:Int=>n.toNat.toUInt8) l=l:=by
  intro l
  induction l with
  |nil=>intro _;rfl
  |cons x l ih=>
   intro h;have hx:=h x (by simp);rw[Xy,ih fun y hy=>h y (by simp[hy])]
   congr 1
   show ((x.toNat.toUInt8.toNat:Nat):Int)=x;rw[Nat.toUInt8,UInt8.toNat_ofNat'];omega
 exact this l h
theorem Kv(s:ByteArray):Aa (Eu s)=s:=by
 unfold Aa Eu;simp only[List.map_map]
 have:∀l:List UInt8,List.map ((fun n:Int=>n.toNat.toUInt8) ∘ fun b:UInt8=>(b.toNat:Int)) l=l:=by
  intro l
  induction l with
  |nil=>rfl
  |cons x l ih=>
   rw[Xy,ih]
   congr 1
   show ((x.toNat:Int).toNat).toUInt8=x;rw[Kc];simp
 rw[this]
theorem DN:∀l:Am,Ly (Bk .u8 l)=some (l.map fun n=>n.toNat.toUInt8)
 |[]=>rfl
 |x::l=>by
  show (Ly (Bk .u8 l)).map (x.toNat.toUInt8 :: ·)=_;rw[DN l];rfl
def F0(v:Int):Int:=if v<26 then 65+v else if v<52 then 71+v else if v<62 then v-4 else if v<63 then 45 else 95
def Ba(c:Int):Int:=if 65<=c/\c<=90 then c-65 else if 97<=c/\c<=122 then c-71 else if 48<=c/\c<=57 then c+4 else if c=45 then 62 else if c=95 then 63 else 64
theorem Gi{v:Int}(h0:0<=v)(h1:v<64):Ba (F0 v)=v:=by unfold Ba F0;split<;>split<;>(try split)<;>(try split)<;>(try split)<;>(try split)<;>(try split)<;>(try split)<;>omega
theorem Nx{c:Int}(h:Ba c<64):F0 (Ba c)=c:=by unfold Ba at h ⊢;unfold F0;split at h<;>(try split at h)<;>(try split at h)<;>(try split at h)<;>(try split at h)<;>simp_all<;>(try split)<;>(try split)<;>(try split)<;>omega
theorem G6(c:Int):0<=Ba c/\Ba c<=64:=by
 unfold Ba;split
 ·omega
 split
 ·omega
 split
 ·omega
 split
 ·omega
 split<;>omega
def Eo:Am->Am
 |[]=>[]
 |[a]=>[F0 (a / 4),F0 (a % 4*16)]
 |[a,b]=>[F0 (a / 4),F0 (a % 4*16+b / 16),F0 (b % 16*4)]
 |a::b::c::r=>F0 (a / 4)::F0 (a % 4*16+b / 16)::F0 (b % 16*4+c / 64)::F0 (c % 64)::Eo r
def Ji:Am->Option Am
 |[]=>some []
 |[_]=>none
 |[p,q]=>if Ba p<64/\Ba q<64/\Ba q % 16=0 then some [Ba p*4+Ba q / 16] else none
 |[p,q,r]=>if Ba p<64/\Ba q<64/\Ba r<64/\Ba r % 4=0 then some [Ba p*4+Ba q / 16,Ba q % 16*16+Ba r / 4] else none
 |p::q::r::s::t=>if Ba p<64/\Ba q<64/\Ba r<64/\Ba s<64 then (Ji t).map (fun l=>(Ba p*4+Ba q / 16)::(Ba q % 16*16+Ba r / 4)::(Ba r % 4*64+Ba s)::l) else none
theorem Bi{a:Int}{l:Am}(h:Ct (a::l)):(0<=a/\a<=255)/\Ct l:=⟨h a (by simp),fun x hx=>h x (by simp[hx])⟩
theorem QB:∀{l:Am},Ct l->Ji (Eo l)=some l
 |[],_=>rfl
 |[a],h=>by
  obtain⟨ha,_⟩:=Bi h;have e1:=Gi (v:=a / 4) (by omega) (by omega);have e2:=Gi (v:=a % 4*16) (by omega) (by omega);unfold Eo Ji;rw[e1,e2,Bq (by omega)]
  congr 2
  omega
 |[a,b],h=>by
  obtain⟨ha,h⟩:=Bi h;obtain⟨hb,_⟩:=Bi h;have e1:=Gi (v:=a / 4) (by omega) (by omega);have e2:=Gi (v:=a % 4*16+b / 16) (by omega) (by omega);have e3:=Gi (v:=b % 16*4) (by omega) (by omega);unfold Eo Ji;rw[e1,e2,e3,Bq (by omega)]
  congr 2
  ·omega
  ·congr 1;omega
 |a::b::c::r,h=>by
  obtain⟨ha,h⟩:=Bi h;obtain⟨hb,h⟩:=Bi h;obtain⟨hc,h⟩:=Bi h;have e1:=Gi (v:=a / 4) (by omega) (by omega);have e2:=Gi (v:=a % 4*16+b / 16) (by omega) (by omega);have e3:=Gi (v:=b % 16*4+c / 64) (by omega) (by omega);have e4:=Gi (v:=c % 64) (by omega) (by omega);unfold Eo Ji;rw[e1,e2,e3,e4,Bq (by omega),QB h];simp only[Option.map_some]
  congr 2
  ·omega
  ·congr 1
   ·omega
   ·congr 1;omega
theorem Aax:∀{s l:Am},Ji s=some l->Eo l=s/\Ct l
 |[],l,h=>by cases h;exact⟨rfl,fun x hx=>by cases hx⟩
 |[_],l,h=>by cases h
 |[p,q],l,h=>by
  unfold Ji at h;split at h
  ·rename_i hc;cases h;have np:=G6 p;have nq:=G6 q;refine⟨?_,fun x hx=>by simp at hx;subst hx;omega⟩
   unfold Eo;rw[show (Ba p*4+Ba q / 16) / 4=Ba p by omega,show (Ba p*4+Ba q / 16) % 4*16=Ba q by omega,Nx hc.1,Nx hc.2.1]
  ·cases h
 |[p,q,r],l,h=>by
  unfold Ji at h;split at h
  ·rename_i hc;cases h;have np:=G6 p;have nq:=G6 q;have nr:=G6 r;refine⟨?_,fun x hx=>by simp at hx;rcases hx with rfl|rfl<;>omega⟩
   unfold Eo
   rw[show (Ba p*4+Ba q / 16) / 4=Ba p by omega,show (Ba p*4+Ba q / 16) % 4*16+(Ba q % 16*16+Ba r / 4) / 16=Ba q by omega,
    show (Ba q % 16*16+Ba r / 4) % 16*4=Ba r by omega,Nx hc.1,Nx hc.2.1,Nx hc.2.2.1]
  ·cases h
 |p::q::r::s::t,l,h=>by
  unfold Ji at h;split at h
  ·rename_i hc;cases ht:Ji t with
   |none=>rw[ht] at h;cases h
   |some l'=>
    rw[ht] at h;cases h;obtain⟨h1,h2⟩:=Aax ht;have np:=G6 p;have nq:=G6 q;have nr:=G6 r;have ns:=G6 s;refine⟨?_,fun x hx=>?_⟩
    ·show Eo ((Ba p*4+Ba q / 16)::(Ba q % 16*16+Ba r / 4)::(Ba r % 4*64+Ba s)::l')=_;unfold Eo
     rw[h1,show (Ba p*4+Ba q / 16) / 4=Ba p by omega,show (Ba p*4+Ba q / 16) % 4*16+(Ba q % 16*16+Ba r / 4) / 16=Ba q by omega,
      show (Ba q % 16*16+Ba r / 4) % 16*4+(Ba r % 4*64+Ba s) / 64=Ba r by omega,show (Ba r % 4*64+Ba s) % 64=Ba s by omega,Nx hc.1,Nx hc.2.1,Nx hc.2.2.1,Nx hc.2.2.2]
    ·simp only[List.mem_cons] at hx;rcases hx with rfl|rfl|rfl|hx
     ·omega
     ·omega
     ·omega
     ·exact h2 x hx
  ·cases h
def Mw:Int->Int->Am->Option Am
 |_,_,[]=>some []
 |n,bits,c::r=>if Ba c>63 then none else
  if bits+6>=8 then (Mw ((n*64+Ba c) % 65536) (bits-2) r).map (((n*64+Ba c) % 65536 / 2 ^ (bits-2).toNat % 256) :: ·)
  else Mw ((n*64+Ba c) % 65536) (bits+6) r
theorem ZK:∀{l:Am},Ct l->∀n:Int,0<=n->Mw n 0 (Eo l)=some l
 |[],_,n,_=>rfl
 |[a],h,n,hn=>by
  obtain⟨ha,_⟩:=Bi h;have e1:=Gi (v:=a / 4) (by omega) (by omega);have e2:=Gi (v:=a % 4*16) (by omega) (by omega);unfold Eo Mw;rw[e1,Bg (by omega),Bg (by omega)];unfold Mw;rw[e2,Bg (by omega),Bq (by omega)];unfold Mw;rw[show (2:Int) ^ (0+6-2:Int).toNat=16 by decide];simp only[Option.map_some]
  congr 2
  omega
 |[a,b],h,n,hn=>by
  obtain⟨ha,h⟩:=Bi h;obtain⟨hb,_⟩:=Bi h;have e1:=Gi (v:=a / 4) (by omega) (by omega);have e2:=Gi (v:=a % 4*16+b / 16) (by omega) (by omega);have e3:=Gi (v:=b % 16*4) (by omega) (by omega);unfold Eo Mw;rw[e1,Bg (by omega),Bg (by omega)];unfold Mw;rw[e2,Bg (by omega),Bq (by omega)];unfold Mw;rw[e3,Bg (by omega),Bq (by omega)];unfold Mw;rw[show (2:Int) ^ (0+6-2:Int).toNat=16 by decide,show (2:Int) ^ (0+6-2-2:Int).toNat=4 by decide];simp only[Option.map_some]
  congr 2
  ·omega
  ·congr 1;omega
 |a::b::c::r,h,n,hn=>by
  obtain⟨ha,h⟩:=Bi h;obtain⟨hb,h⟩:=Bi h;obtain⟨hc,h⟩:=Bi h;have e1:=Gi (v:=a / 4) (by omega) (by omega);have e2:=Gi (v:=a % 4*16+b / 16) (by omega) (by omega);have e3:=Gi (v:=b % 16*4+c / 64) (by omega) (by omega);have e4:=Gi (v:=c % 64) (by omega) (by omega);unfold Eo Mw;rw[e1,Bg (by omega),Bg (by omega)];unfold Mw;rw[e2,Bg (by omega),Bq (by omega)];unfold Mw;rw[e3,Bg (by omega),Bq (by omega)];unfold Mw;rw[e4,Bg (by omega),Bq (by omega)];rw[show (0+6-2-2-2:Int)=0 by decide];rw[show (2:Int) ^ (0+6-2:Int).toNat=16 by decide,show (2:Int) ^ (0+6-2-2:Int).toNat=4 by decide,show (2:Int) ^ (0:Int).toNat=1 by decide];rw[ZK h _ (by omega)];simp only[Option.map_some]
  congr 2
  ·omega
  ·congr 1
   ·omega
   ·congr 1;omega
theorem Abk:∀l:Am,(Eo l).length=(4*l.length+2) / 3
 |[]=>rfl
 |[_]=>by simp[Eo]
 |[_,_]=>by simp[Eo]
 |a::b::c::r=>by
  show (Eo r).length+1+1+1+1=_;rw[Abk r];simp only[Ub];omega
def Jr(c:Int):Bool:=c==32||c==9||c==10||c==13
def Ao:Am->Am
 |[]=>[]
 |c::r=>if Jr c=true then Ao r else c::r
def Wu(c:Int):Option Int:=if 48<=c/\c<=57 then some (c-48) else if 97<=c/\c<=102 then some (c-87) else if 65<=c/\c<=70 then some (c-55) else none
abbrev PR(α:Type):=Option α × Am
def N0:Nat->Int->Am->PR Int
 |0,x,l=>(some x,l)
 |_+1,_,[]=>(none,[])
 |n+1,x,c::r=>match Wu c with
  |some v=>N0 n (x*16+v) r
  |none=>(none,c::r)
def Rf(x:Int):Bool:=decide (56320<=x)&&decide (x<=57343)
def NW(x:Int)(l:Am):PR Int:=
 match N0 4 0 l with
 |(some y,r)=>if Rf y=true then (some (65536+(x-55296)*1024+(y-56320)),r) else (none,r)
 |(none,r)=>(none,r)
def YQ:Am->Bool
 |92::117::_=>true
 |_=>false
def Ol(l:Am):PR Int:=
 match N0 4 0 l with
 |(none,r)=>(none,r)
 |(some x,r)=>if Rf x=true then (none,r) else if x<55296\/56319<x then (some x,r) else if YQ r=true then NW x (r.drop 2) else (none,r)
def S8(c:Int):Option Int:=if c=34\/c=92\/c=47 then some c else if c=98 then some 8 else if c=102 then some 12 else if c=110 then some 10 else if c=114 then some 13 else if c=116 then some 9 else none
def Kh:Am->PR Int
 |[]=>(none,[])
 |c::r=>if c=117 then Ol r else match S8 c with
  |some x=>(some x,r)
  |none=>(none,c::r)
def Gf:Nat->Am->Am->PR Am
  |0,_,l=>(none,l)
  |_+1,_,[]=>(none,[])
  |n+1,out,c::r=>if c<32 then (none,c::r) else if c=34 then (some out,r) else if c=92 then
      (match Kh r with
       |(some x,r')=>Gf n (out++Lib.encodeRuneZ x) r'
       |(none,r')=>(none,r'))
    else Gf n (out++[c]) r
def De:Am->PR Am
 |[]=>(none,[])
 |c::r=>if c=34 then Gf (r.length+1) [] r else (none,c::r)
def Tp(l:Am):Option (Am × Am):=match De l with|(some s,r)=>some (s,r)|_=>none
def FP(c:Int):Bool:=decide (48<=c)&&decide (c<=57)
def Gw:Am->Am
 |[]=>[]
 |c::r=>if FP c=true then Gw r else c::r
def C4:Am->Option Am
 |[]=>none
 |c::r=>if FP c=true then some (Gw r) else none
def TH(c:Int):Am->Am
 |[]=>[]
 |d::r=>if d=c then r else d::r
def U0:Am->Option Am
 |[]=>some []
 |c::r=>if c=101\/c=69 then (match r with
   |43::r'=>C4 r'
   |r=>C4 (TH 45 r)) else some (c::r)
def Xj:Am->Option Am
 |[]=>some []
 |c::r=>if c=46 then (C4 r).bind U0 else U0 (c::r)
def Adf:Am->Option Am
 |[]=>none
 |c::r=>if c=48 then some r else C4 (c::r)
def Fz(l:Am):Option Am:=(Adf (TH 45 l)).bind Xj
abbrev JV:=Int × Am × Bool
abbrev JR(α:Type):=Except Int α
def Ti(V:Am->JR (JV × Am)):Nat->Am->JR Am
 |0,_=>.error 2
 |n+1,l=>match V l with
  |.error e=>.error e
  |.ok (_,r)=>match Ao r with
   |93::r'=>.ok r'
   |44::r'=>Ti V n (Ao r')
   |_=>.error 2
def Xb(V:Am->JR (JV × Am))(l:Am):JR Am:=
 match Ao l with
 |93::r=>.ok r
 |l'=>Ti V (l'.length+1) l'
def Ar8(V:Am->JR (JV × Am))(dup:Am->Bool)(l:Am):JR ((Am × JV) × Am):=
 match Tp l with
 |none=>.error 2
 |some (nm,r)=>if dup nm=true then .error 10 else
  match Ao r with
  |58::r'=>(match V (Ao r') with
   |.error e=>.error e
   |.ok (v,r'')=>.ok ((nm,v),r''))
  |_=>.error 2
def Jz(V:Am->JR (JV × Am))(kp:Bool):Nat->List (Am × JV)->Am->JR (List (Am × JV) × Am)
 |0,_,_=>.error 2
 |n+1,ms,l=>match Ar8 V (fun nm=>kp&&ms.any fun m=>m.1==nm) l with
  |.error e=>.error e
  |.ok (m,r)=>match Ao r with
   |125::r'=>.ok (ms++[m],r')
   |44::r'=>Jz V kp n (ms++[m]) (Ao r')
   |_=>.error 2
def Q2(V:Am->JR (JV × Am))(kp:Bool)(l:Am):JR (List (Am × JV) × Am):=
 match Ao l with
 |125::r=>.ok ([],r)
 |l'=>Jz V kp (l'.length+1) [] l'
def An(w l:Am):Option Am:=if w.isPrefixOf l=true then some (l.drop w.length) else none
def B3:Nat->Am->JR (JV × Am)
 |k,l=>match l with
  |123::r=>(match k with
   |0=>.error 5
   |k+1=>(match Q2 (B3 k) false r with
    |.error e=>.error e
    |.ok (_,r')=>.ok ((6,[],false),r')))
  |91::r=>(match k with
   |0=>.error 5
   |k+1=>(match Xb (B3 k) r with
    |.error e=>.error e
    |.ok r'=>.ok ((5,[],false),r')))
  |34::r=>(match Tp (34::r) with
   |none=>.error 2
   |some (s,r')=>.ok ((4,s,false),r'))
  |l=>match An [116,114,117,101] l with
   |some r=>.ok ((2,[],true),r)
   |none=>match An [102,97,108,115,101] l with
    |some r=>.ok ((2,[],false),r)
    |none=>match An [110,117,108,108] l with
     |some r=>.ok ((1,[],false),r)
     |none=>match Fz l with
      |some r=>.ok ((3,[],false),r)
      |none=>.error 2
def BH(k:Nat)(l:Am):JR (List (Am × JV)):=
 match Ao l with
 |123::r=>(match Q2 (B3 k) true r with
  |.error e=>.error e
  |.ok (ms,r')=>if Ao r'=[] then .ok ms else .error 2)
 |_=>.error 2
end
end Go.Proofs.YtkopiepmdppifaaGreatDoor.Pv
