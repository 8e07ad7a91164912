/-
  The proof of MetadataAccepts, part 3.
-/
import Derived.Test.YtpogefhpiaaliaaGreatDoorAB
import Derived.StillTail
import Derived.WalkKit
import Derived.ProofKit
import Derived.OpenShut
import Derived.ShutString
import Derived.ChangeOld
import Derived.Below
import Derived.Deep.Slices
import Derived.ChangeSame
import Derived.WideKeyArgs
import Derived.Carry
import Derived.Test.YtpogefhpiaaliaaGreatDoorRows
set_option linter.unusedSimpArgs false
set_option linter.unusedVariables false
namespace Go.Proofs.YtpogefhpiaaliaaGreatDoor.Pv
open Go.IntKind (wrap)
open Go.Proofs.Tryz (prog)
set_option maxRecDepth 1000000
noncomputable section
section
section
variable {R R':Type}{Rel:Option R->Option R'->Prop}
theorem Nf(hn:Rel none none){k:IntKind}{p:PV}{K:Int->Option R}{K':Int->Option R'}(hK:∀n,Rel (K n) (K' n)):Rel (Be k p K) (Be k p K'):=by
 unfold Be;split
 ·split<;>first|exact hK _|exact hn
 ·exact hn
theorem Gc(hn:Rel none none){p:PV}{K:IntKind->Int->Option R}{K':IntKind->Int->Option R'}(hK:∀k n,Rel (K k n) (K' k n)):Rel (Fk p K) (Fk p K'):=by unfold Fk;split<;>first|exact hK _ _|exact hn
theorem Kq(hn:Rel none none){p:PV}{K:Bool->Option R}{K':Bool->Option R'}(hK:∀n,Rel (K n) (K' n)):Rel (Cg p K) (Cg p K'):=by unfold Cg;split<;>first|exact hK _|exact hn
theorem Jz(hn:Rel none none){p:PV}{K:ByteArray->Option R}{K':ByteArray->Option R'}(hK:∀n,Rel (K n) (K' n)):Rel (Ec p K) (Ec p K'):=by unfold Ec;split<;>first|exact hK _|exact hn
theorem I3(hn:Rel none none){es:Nat}{p:PV}{K:Bool->Nat->Ab->Option R}{K':Bool->Nat->Ab->Option R'}(hK:∀z n c,Rel (K z n c) (K' z n c)):Rel (Ow es p K) (Ow es p K'):=by
 unfold Ow;split
 ·rename_i es' _ _;cases Nat.beq es' es
  ·exact hn
  ·exact hK _ _ _
 ·exact hK _ _ _
 ·exact hn
theorem Aya(hn:Rel none none){es:Nat}{p:PV}{K:PV->Option R}{K':PV->Option R'}(hK:∀p,Rel (K p) (K' p)):Rel (fsK es p K) (fsK es p K'):=by
 unfold fsK;split
 ·rename_i es' _ _;cases Nat.beq es' es
  ·exact hn
  ·exact hK _
 ·exact I3 hn fun _ _ _=>hK _
theorem Ame(hn:Rel none none){es:Nat}{p:PV}{K:Nat->Ab->Option R}{K':Nat->Ab->Option R'}(hK:∀n c,Rel (K n c) (K' n c)):Rel (J0 es p K) (J0 es p K'):=by
 unfold J0;split
 ·rename_i es' _ _;cases Nat.beq es' es
  ·exact hn
  ·exact hK _ _
 ·exact hn
theorem Bl(hn:Rel none none){b:Bool}{K:Option R}{K':Option R'}(hK:b=true->Rel K K'):Rel (As b K) (As b K'):=by
 cases b
 ·exact hn
 ·exact hK rfl
theorem SY{b:Bool}{x y:Option R}{x' y':Option R'}(hx:Rel x x')(hy:Rel y y'):Rel (Az b x y) (Az b x' y'):=by
 cases b
 ·exact hy
 ·exact hx
theorem Fd(hn:Rel none none){α:Type}{o:Option α}{K:α->Option R}{K':α->Option R'}(hK:∀a,o=some a->Rel (K a) (K' a)):Rel (F3 o K) (F3 o K'):=by
 cases o
 ·exact hn
 ·exact hK _ rfl
theorem Cf(hn:Rel none none){α:Type}{l:List α}{K:α->List α->Option R}{K':α->List α->Option R'}(hK:∀a r,l=a::r->Rel (K a r) (K' a r)):Rel (Av l K) (Av l K'):=by
 cases l
 ·exact hn
 ·exact hK _ _ rfl
theorem Ih(hn:Rel none none){α:Type}{l:List α}{K:Option R}{K':Option R'}(hK:Rel K K'):Rel (Ar l K) (Ar l K'):=by
 cases l
 ·exact hK
 ·exact hn
theorem Pi(hn:Rel none none){p:PV}{K:Ab->Option R}{K':Ab->Option R'}(hK:∀c,p=.agg c->Rel (K c) (K' c)):Rel (Dl p K) (Dl p K'):=by
 unfold Dl;split
 ·exact hK _ rfl
 ·exact hn
theorem Apx(hn:Rel none none){p:PV}{K:Ab->Option R}{K':Ab->Option R'}(hK:∀c,Rel (K c) (K' c)):Rel (HB p K) (HB p K'):=by
 unfold HB;split
 ·exact hK _
 ·exact hn
theorem Aca(hn:Rel none none){r:Option Dt}{K:Ab->List Ab->Option R}{K':Ab->List Ab->Option R'}(hK:∀v o,Rel (K v o) (K' v o)):Rel (Bj r K) (Bj r K'):=by
 unfold Bj;split
 ·exact hK _ _
 ·exact hn
theorem Amm(hn:Rel none none){p:PV}{K:Value->Option R}{K':Value->Option R'}(hK:∀v,Rel (K v) (K' v)):Rel (fnK p K) (fnK p K'):=by
 unfold fnK;split
 ·exact hK _
 ·exact hn
theorem Azj(hn:Rel none none){p:PV}{K:FuncId->Option R}{K':FuncId->Option R'}(hK:∀v,Rel (K v) (K' v)):Rel (fvK p K) (fvK p K'):=by
 unfold fvK;split
 ·rename_i f a b;cases (a.isEmpty&&b.isEmpty)
  ·exact hn
  ·exact hK _
 ·exact hn
theorem W8(hn:Rel none none){t:CT}{p:PV}{K:PV->Option R}{K':PV->Option R'}(hK:∀p,Rel (K p) (K' p)):Rel (NM t p K) (NM t p K'):=by
 unfold NM;split
 ·exact Nf hn fun _=>hK _
 ·exact Kq hn fun _=>hK _
 ·exact Jz hn fun _=>hK _
 ·exact I3 hn fun _ _ _=>hK _
 ·exact Amm hn fun _=>hK _
theorem Azi(hn:Rel none none){t:CT}{p:PV}{K:PV->Option R}{K':PV->Option R'}(hK:∀p,Rel (K p) (K' p)):Rel (fcK t p K) (fcK t p K'):=by
 unfold fcK;split
 ·exact Aya hn hK
 ·exact W8 hn hK
theorem Zo(hn:Rel none none):∀{ts:List CT}{cells:Ab}{off:Nat}{K:Ab->Option R}{K':Ab->Option R'},(∀c,Rel (K c) (K' c))->Rel (DP ts cells off K) (DP ts cells off K')
 |[],_,_,_,_,hK=>hK _
 |_::_,_,_,_,_,hK=>W8 hn fun _=>Zo hn fun _=>hK _
theorem Uy(hn:Rel none none):∀{ts:List CT}{cells:Ab}{off:Nat}{K:Ab->Option R}{K':Ab->Option R'},(∀c,Rel (K c) (K' c))->Rel (Xp ts cells off K) (Xp ts cells off K')
 |[],_,_,_,_,hK=>hK _
 |_::_,_,_,_,_,hK=>Azi hn fun _=>Uy hn fun _=>hK _
theorem KV(hn:Rel none none){g:Bool}{cells:Ab}{K:PV->Option R}{K':PV->Option R'}(hK:∀p,Rel (K p) (K' p)):Rel (mkV g cells K) (mkV g cells K'):=by
 cases g
 ·exact Cf hn fun _ _ _=>Ih hn (hK _)
 ·exact hK _
theorem Ayw(hn:Rel none none){P:Program}{t:TypeId}{v:Value}{K:PV->Option R}{K':PV->Option R'}(hK:∀p,Cn p=[]->Rel (K p) (K' p))(hK':∀c,Rel (K (.agg c)) (K' (.agg c))):Rel (cvK P t v K) (cvK P t v K'):=by
 unfold cvK;split
 ·exact Bl hn fun _=>Zo hn fun _=>hK' _
 ·split
  ·exact hK _ rfl
  ·exact hn
 ·exact hK _ rfl
theorem Auo(hn:Rel none none){op:BinOp}{x y:Int}{K:Bool->Option R}{K':Bool->Option R'}(hK:∀n,Rel (K n) (K' n)):Rel (Ax5 op x y K) (Ax5 op x y K'):=by unfold Ax5;split<;>first|exact hK _|exact hn
theorem Ak2(hn:Rel none none){op:BinOp}{k:IntKind}{x y:Int}{K:PV->Option R}{K':PV->Option R'}(hK:∀n,Rel (K n) (K' n)):Rel (UU op k x y K) (UU op k x y K'):=by unfold UU;split<;>first|exact hK _|exact Bl hn fun _=>hK _|exact Auo hn fun _=>hK _
theorem Ak4(hn:Rel none none){op:BinOp}{x y:ByteArray}{K:PV->Option R}{K':PV->Option R'}(hK:∀n,Rel (K n) (K' n)):Rel (XM op x y K) (XM op x y K'):=by unfold XM;split<;>first|exact hK _|exact Bl hn fun _=>hK _|exact hn
theorem Abu(hn:Rel none none){e:Bool}{p:PV}{K:PV->Option R}{K':PV->Option R'}(hK:∀n,Rel (K n) (K' n)):Rel (WW e p K) (WW e p K'):=by unfold WW;split<;>first|exact hK _|exact SY (hK _) (SY (hK _) (hK _))|exact SY (hK _) (hK _)|exact hn
theorem Ail(hn:Rel none none):∀{ts:List CT}{ps qs:Ab}{K:Bool->Option R}{K':Bool->Option R'},(∀b,Rel (K b) (K' b))->Rel (Sk ts ps qs K) (Sk ts ps qs K'):=by
 intro ts
 induction ts with
 |nil=>
  intro ps qs K K' hK;cases ps<;>cases qs<;>first|exact hK _|exact hn
 |cons t ts ih=>
  intro ps qs K K' hK;cases ps with
  |nil=>cases t<;>cases qs<;>exact hn
  |cons p ps=>
   cases qs with
   |nil=>cases t<;>exact hn
   |cons q qs=>
    cases t
    ·exact Nf hn fun _=>Nf hn fun _=>ih fun _=>hK _
    ·exact Kq hn fun _=>Kq hn fun _=>ih fun _=>hK _
    ·exact Jz hn fun _=>Jz hn fun _=>ih fun _=>hK _
    ·exact hn
    ·exact hn
theorem Aur(hn:Rel none none){P:Program}{op:BinOp}{t:TypeId}{x y:PV}{K:PV->Option R}{K':PV->Option R'}(hK:∀p,Rel (K p) (K' p)):Rel (Ato P op t x y K) (Ato P op t x y K'):=by
 unfold Ato;split
 ·split
  ·exact Nf hn fun _=>Gc hn fun _ _=>Bl hn fun _=>hK _
  ·exact Nf hn fun _=>Gc hn fun _ _=>Bl hn fun _=>hK _
  ·exact Nf hn fun _=>Nf hn fun _=>Ak2 hn hK
 ·exact Jz hn fun _=>Jz hn fun _=>Ak4 hn hK
 ·split
  ·exact Kq hn fun _=>Kq hn fun _=>hK _
  ·exact Kq hn fun _=>Kq hn fun _=>hK _
  ·exact hn
 ·split
  ·exact Abu hn fun _=>hK _
  ·exact Abu hn fun _=>hK _
  ·exact hn
 ·exact hn
theorem Afm(hn:Rel none none){P:Program}{op:BinOp}{t:TypeId}{x y:PV}{K:PV->Option R}{K':PV->Option R'}(hK:∀p,Rel (K p) (K' p)):Rel (EZ P op t x y K) (EZ P op t x y K'):=by
 unfold EZ;split
 ·split
  ·exact Bl hn fun _=>Pi hn fun _ _=>Pi hn fun _ _=>Ail hn fun _=>hK _
  ·exact Bl hn fun _=>Pi hn fun _ _=>Pi hn fun _ _=>Ail hn fun _=>hK _
  ·exact hn
 ·exact Aur hn hK
theorem Awx(hn:Rel none none){op:UnOp}{x:PV}{K:PV->Option R}{K':PV->Option R'}(hK:∀p,Rel (K p) (K' p)):Rel (unK op x K) (unK op x K'):=by unfold unK;split<;>first|exact Kq hn fun _=>hK _|exact Gc hn fun _ _=>hK _|exact hn
theorem F6(hn:Rel none none){p:Option PV}{d:Nat}{K:Nat->Option R}{K':Nat->Option R'}(hK:∀n,Rel (K n) (K' n)):Rel (Ku p d K) (Ku p d K'):=by
 unfold Ku;split
 ·exact hK _
 ·exact Gc hn fun _ _=>Bl hn fun _=>hK _
theorem OI(hn:Rel none none){x:PV}{d:Nat}{K:PV->Option R}{K':PV->Option R'}(hK:∀n,Rel (K n) (K' n)):Rel (EJ x d K) (EJ x d K'):=by unfold EJ;split<;>first|exact hK _|exact hn
theorem UK(hn:Rel none none){P:Program}{t:TypeId}{x:PV}{i:Int}{K:PV->Option R}{K':PV->Option R'}(hK:∀p,Rel (K p) (K' p)):Rel (Qt P t x i K) (Qt P t x i K'):=by
 unfold Qt;split
 ·exact Bl hn fun _=>Bl hn fun _=>OI hn hK
 ·refine Bl hn fun _=>?_;split
  ·exact Bl hn fun _=>Bl hn fun _=>hK _
  ·exact I3 hn fun _ _ _=>Bl hn fun _=>hK _
 ·exact hn
theorem ON(hn:Rel none none){Kx:Nat->Option (Nat × Nat)}:∀{ps:List (Nat × PV)} {cells:Ab}{K:Ab->Option R}{K':Ab->Option R'},(∀c,Rel (K c) (K' c))->Rel (DA Kx ps cells K) (DA Kx ps cells K')
 |[],_,_,_,hK=>hK _
 |(_,_)::_,_,_,_,hK=>Fd hn fun _ _=>Bl hn fun _=>ON hn hK
theorem DT(hn:Rel none none){P:Program}{t:TypeId}{K:Ab->Option R}{K':Ab->Option R'}(hK:∀p,Rel (K p) (K' p)):Rel (Lh P t K) (Lh P t K'):=
 Fd hn fun _ _=>Bl hn fun _=>Zo hn hK
theorem Aty(hn:Rel none none){x y:PV}{K:PV->Option R}{K':PV->Option R'}(hK:∀p,Rel (K p) (K' p)):Rel (Ayq x y K) (Ayq x y K'):=
 Gc hn fun _ _=>Nf hn fun _=>hK _
theorem Asv(hn:Rel none none){x y:PV}{K:PV->Option R}{K':PV->Option R'}(hK:∀p,Rel (K p) (K' p)):Rel (Azn x y K) (Azn x y K'):=
 Gc hn fun _ _=>Nf hn fun _=>hK _
theorem At7(hn:Rel none none){P:Program}{t:TypeId}{x:PV}{K:Nat->Option R}{K':Nat->Option R'}(hK:∀p,Rel (K p) (K' p)):Rel (Ao1 P t x K) (Ao1 P t x K'):=by
 unfold Ao1;split
 ·exact Jz hn fun _=>hK _
 ·exact hK _
 ·split
  ·exact Bl hn fun _=>hK _
  ·exact I3 hn fun _ _ _=>hK _
 ·exact hn
def Agr(Rel:Option R->Option R'->Prop)(f f':Nat->Option Ab)(l:Cc):Prop:=∀i∈l,f i=f' i\/(f i=none/\∀b,Rel none b)
variable {f f':Nat->Option Ab}
theorem Agr.sub{l l':Cc}(h:Agr Rel f f' l)(hs:∀i∈l',i∈l):Agr Rel f f' l':=fun i hi=>h i (hs i hi)
theorem NJ(hn:Rel none none){l:Cc}{id:Nat}(hf:Agr Rel f f' l)(hi:id∈l){K:Ab->Option R}{K':Ab->Option R'}(hK:∀c,f id=some c->Rel (K c) (K' c)):Rel (F3 (f id) K) (F3 (f' id) K'):=by
 rcases hf id hi with h|⟨h,hb⟩
 ·rw[<-h];exact Fd hn hK
 ·rw[h];exact hb _
theorem LW(hn:Rel none none){es:Nat}{p:PV}{K:Nat->Ab->Option R}{K':Nat->Ab->Option R'}(hf:Agr Rel f f' (Ba p))(hK:∀n c,Rel (K n c) (K' n c)):Rel (Aju f es p K) (Aju f' es p K'):=by
 unfold Aju;split
 ·rename_i id es' off n;cases Nat.beq es' es
  ·exact hn
  ·exact NJ hn hf (by simp[Ba]) fun _ _=>Bl hn fun _=>hK _ _
 ·exact I3 hn fun _ _ _=>hK _ _
theorem At5(hn:Rel none none){t:CT}{p:PV}{K:PV->Cc->Option R}{K':PV->Cc->Option R'}(hf:Agr Rel f f' (Ba p))(hK:∀c m,(∀i∈m,f i≠none)->Rel (K c m) (K' c m)):Rel (Wa f t p K) (Wa f' t p K'):=by
 unfold Wa;split
 ·split
  ·rename_i id es' off n;cases Nat.beq es' _
   ·exact hn
   ·exact NJ hn hf (by simp[Ba]) fun c hc=>Bl hn fun _=>hK _ _ (by simp[hc])
  ·exact I3 hn fun _ _ _=>hK _ _ (by simp)
 ·exact W8 hn fun _=>hK _ _ (by simp)
theorem FG(hn:Rel none none):∀{ts:List CT}{ps:Ab}{K:Ab->Cc->Option R}{K':Ab->Cc->Option R'},Agr Rel f f' (ps.flatMap Ba)->(∀c m,(∀i∈m,f i≠none)->Rel (K c m) (K' c m))->Rel (U0 f ts ps K) (U0 f' ts ps K')
 |[],[],_,_,_,hK=>hK _ _ (by simp)
 |[],_::_,_,_,_,_=>hn
 |_::_,[],_,_,_,_=>hn
 |_::_,p::ps,_,_,hf,hK=>At5 hn (fun i hi=>hf i (by simp only[J1,B4];exact .inl hi)) fun _ m hm=>FG hn (fun i hi=>hf i (by simp only[J1,B4];exact .inr hi)) fun _ ms XA=>hK _ _ fun i hi=>by
   rcases B4.1 hi with h|h
   ·exact hm i h
   ·exact XA i h
theorem Av1(hn:Rel none none){P:Program}{t:TypeId}{p:PV}{K:PV->Cc->Option R}{K':PV->Cc->Option R'}(hf:Agr Rel f f' (C2 p))(hK:∀c m,(∀i∈m,f i≠none)->Rel (K c m) (K' c m)):Rel (Ali P f t p K) (Ali P f' t p K'):=by
 unfold Ali
 have h1:∀i,i∈[p].flatMap Ba->i∈C2 p:=by
  intro i hi;simp only[J1,List.flatMap_nil,List.append_nil] at hi;cases p<;>first|exact hi|simp[Ba] at hi
 cases C9 P t
 ·exact FG hn (fun i hi=>hf i (h1 i hi)) fun _ _ hm=>Cf hn fun _ _ _=>Ih hn (hK _ _ hm)
 ·refine Pi hn fun c hc=>?_;subst hc;exact FG hn (fun i hi=>hf i hi) fun _ _ hm=>hK _ _ hm
theorem Aah(hn:Rel none none){P:Program}:∀{ts:List TypeId}{ps:Ab}{K:Ab->Cc->Option R}{K':Ab->Cc->Option R'},Agr Rel f f' (ps.flatMap C2)->(∀c m,(∀i∈m,f i≠none)->Rel (K c m) (K' c m))->Rel (VC P f ts ps K) (VC P f' ts ps K')
 |[],[],_,_,_,hK=>hK _ _ (by simp)
 |[],_::_,_,_,_,_=>hn
 |_::_,[],_,_,_,_=>hn
 |_::_,p::ps,_,_,hf,hK=>Av1 hn (fun i hi=>hf i (by simp only[J1,B4];exact .inl hi)) fun _ m hm=>Aah hn (fun i hi=>hf i (by simp only[J1,B4];exact .inr hi)) fun _ ms XA=>hK _ _ fun i hi=>by
   rcases B4.1 hi with h|h
   ·exact hm i h
   ·exact XA i h
theorem Aks(hn:Rel none none){P:Program}{t:TypeId}{x:PV}{lo hi:Option PV}{K:PV->Option R}{K':PV->Option R'}(hf:(∃n e,P.underlying t=some (.array n e))->Agr Rel f f' (Ba x))(hK:∀c,Rel (K c) (K' c)):Rel (NN P f t x lo hi K) (NN P f' t x lo hi K'):=by
 unfold NN;split
 ·exact Jz hn fun _=>F6 hn fun _=>F6 hn fun _=>Bl hn fun _=>hK _
 ·refine Bl hn fun _=>?_;split
  ·exact Bl hn fun _=>F6 hn fun _=>F6 hn fun _=>Bl hn fun _=>hK _
  ·exact I3 hn fun _ _ _=>F6 hn fun _=>F6 hn fun _=>Bl hn fun _=>hK _
 ·rename_i n e hu;refine Bl hn fun _=>?_;split
  ·rename_i id off;exact NJ hn (hf ⟨_,_,hu⟩) (by simp[Ba]) fun _ _=>Bl hn fun _=>F6 hn fun _=>F6 hn fun _=>Bl hn fun _=>hK _
  ·exact hn
 ·exact hn
theorem Ah0(hn:Rel none none){P:Program}{d:Nat}{t:TypeId}{x:PV}{lo hi mx:Option PV}{K:PV->List (Nat × Cb)->Option R}{K':PV->List (Nat × Cb)->Option R'}(hK:∀c,Rel (K c [(d,.ar false [])]) (K' c [(d,.ar false [])])):Rel (FL P d t x lo hi mx K) (FL P d t x lo hi mx K'):=by
 unfold FL;split
 ·refine Bl hn fun _=>?_;split
  ·exact Bl hn fun _=>F6 hn fun _=>F6 hn fun _=>F6 hn fun _=>Bl hn fun _=>hK _
  ·exact I3 hn fun _ _ _=>F6 hn fun _=>F6 hn fun _=>F6 hn fun _=>Bl hn fun _=>hK _
 ·exact hn
theorem ZW{g g':Nat->Option Ab}(hn:Rel none none){P:Program}{t:TypeId}{x:PV}{K:PV->Option R}{K':PV->Option R'}(hf:∀i∈Ba x,(f i=f' i/\g i=g' i)\/(f i=none/\g i=none/\∀b,Rel none b))(hK:∀c,Rel (K c) (K' c)):Rel (LH P f g t x K) (LH P f' g' t x K'):=by
 unfold LH;split
 ·rename_i id off;refine Bl hn fun _=>?_;rcases hf id (by simp[Ba]) with⟨h1,h2⟩|⟨h1,h2,h3⟩
  ·rw[<-h1,<-h2];split
   ·exact Zo hn fun _=>KV hn fun _=>hK _
   ·exact Fd hn fun _ _=>Uy hn fun _=>KV hn hK
  ·rw[h1,h2];exact h3 _
 ·exact Bl hn fun _=>Zo hn fun _=>KV hn fun _=>hK _
 ·exact hn
theorem Anu(hn:Rel none none){P:Program}{d:Nat}{src dst:TypeId}{x:PV}{K:PV->List (Nat × Cb)->Option R}{K':PV->List (Nat × Cb)->Option R'}(hf:P.underlying dst=some .string->Agr Rel f f' (Ba x))(hK:∀v b,(∀q∈b,q.1=d)->Rel (K v b) (K' v b)):Rel (TL P f d src dst x K) (TL P f' d src dst x K'):=by
 unfold TL;split
 ·exact Bl hn fun _=>Gc hn fun _ _=>hK _ _ (by simp)
 ·rename_i hds;split
  ·exact Jz hn fun _=>hK _ _ (by simp)
  ·split
   ·exact LW hn (hf hds) fun _ _=>Bl hn fun _=>Fd hn fun _ _=>hK _ _ (by simp)
   ·exact hn
  ·exact hn
 ·split
  ·exact Jz hn fun _=>Bl hn fun _=>hK _ _ (by simp)
  ·exact hn
 ·exact hn
theorem Ar6(hn:Rel none none){shr:Bool}{id:Nat}{t:CT}{p:PV}{K:PV->List (Nat × Cb)->Option R}{K':PV->List (Nat × Cb)->Option R'}(hK:∀c b,(∀q∈b,q.1=id)->Rel (K c b) (K' c b)):Rel (Ath shr id t p K) (Ath shr id t p K'):=by
 unfold Ath;split
 ·cases shr
  ·exact Ame hn fun _ _=>hK _ _ (by simp)
  ·exact I3 hn fun _ _ _=>hK _ _ (by simp)
 ·exact W8 hn fun _=>hK _ _ (by simp)
theorem EV(hn:Rel none none){shr:Bool}{N:Nat}:∀{ts:List CT}{id:Nat}{ps:Ab}{K:Ab->List (Nat × Cb)->Option R} {K':Ab->List (Nat × Cb)->Option R'},(∀c b,(∀q∈b,∃j,q.1=id+N*j)->Rel (K c b) (K' c b))->Rel (Yu shr N id ts ps K) (Yu shr N id ts ps K')
 |[],_,_,_,_,hK=>Ih hn (hK _ _ (by simp))
 |_::_,id,_,_,_,hK=>Cf hn fun _ _ _=>Ar6 hn fun _ b hb=>EV hn fun _ bs TY=>hK _ _ fun q hq=>by
   rcases B4.1 hq with h|h
   ·exact⟨0,by rw[hb q h];simp⟩
   ·obtain⟨j,hj⟩:=TY q h;exact⟨j+1,by rw[hj,Nat.mul_add];omega⟩
theorem Avy(hn:Rel none none){P:Program}{shr:Bool}{N id:Nat}{t:TypeId}{p:PV}{K:PV->List (Nat × Cb)->Option R}{K':PV->List (Nat × Cb)->Option R'}(hK:∀c b,(∀q∈b,∃j,q.1=id+N*j)->Rel (K c b) (K' c b)):Rel (Ape P shr N id t p K) (Ape P shr N id t p K'):=by
 unfold Ape;split
 ·refine Apx hn fun ps=>EV hn fun _ _ hb=>hK _ _ fun q hq=>?_;rcases B7.1 hq with rfl|hq
  ·exact⟨0,by simp⟩
  ·obtain⟨j,hj⟩:=hb q hq;exact⟨j+1,by rw[hj,Nat.mul_add];omega⟩
 cases C9 P t
 ·exact EV hn fun _ _ hb=>Cf hn fun _ _ _=>Ih hn (hK _ _ hb)
 ·exact Pi hn fun _ _=>EV hn fun _ _ hb=>hK _ _ hb
theorem NY(hn:Rel none none){P:Program}{shr:Bool}{N:Nat}:∀{ts:List TypeId}{id:Nat}{ps:Ab}{K:Ab->List (Nat × Cb)->Option R} {K':Ab->List (Nat × Cb)->Option R'},(∀c b,(∀q∈b,∃j,q.1=id+N*j)->Rel (K c b) (K' c b))->Rel (QH P shr N id ts ps K) (QH P shr N id ts ps K')
 |[],_,_,_,_,hK=>Ih hn (hK _ _ (by simp))
 |t::_,id,_,_,_,hK=>Cf hn fun _ _ _=>Avy hn fun _ b hb=>NY hn fun _ bs TY=>hK _ _ fun q hq=>by
   rcases B4.1 hq with h|h
   ·exact hb q h
   ·obtain⟨j,hj⟩:=TY q h;exact⟨Aho P t+j,by rw[hj,Nat.mul_add];omega⟩
end
theorem DD{p:PV}{i:Nat}(h:i∈Ba p):i∈C2 p:=by cases p<;>first|exact h|simp[Ba] at h
theorem Jb{p:PV}{i:Nat}(h:i∈C2 p):i∈Cn p:=by cases p<;>first|exact h|simp[C2,Ba] at h
theorem Qq{p:PV}{i:Nat}(h:i∈Ba p):i∈Cn p:=Jb (DD h)
section
variable {R R':Type}{Rel:Option R->Option R'->Prop}{P:Program}{N:Nat}{tm tm':Nat->PV}{f f' g g':Nat->Option Ab}{o:Oper}
theorem WR(hn:Rel none none){t:TypeId}{x:Operand}{K:PV->Option R}{K':PV->Option R'}(hx:Dd tm x=Dd tm' x)(hK:∀p,Rel (K p) (K' p)):Rel (OM P t tm x K) (OM P t tm' x K'):=by
 unfold OM;split
 ·exact Ayw hn (fun _ _=>hK _) (fun _=>hK _)
 ·rw[hx];exact hK _
theorem Avp(hn:Rel none none){t:CT}{p:PV}{K:PV->Option R}{K':PV->Option R'}(hK:∀p,Ba p=[]->Rel (K p) (K' p)):Rel (NM t p K) (NM t p K'):=by
 unfold NM;split
 ·exact Nf hn fun _=>hK _ rfl
 ·exact Kq hn fun _=>hK _ rfl
 ·exact Jz hn fun _=>hK _ rfl
 ·exact I3 hn fun _ _ _=>hK _ rfl
 ·exact Amm hn fun _=>hK _ rfl
theorem Aam(hn:Rel none none):∀{ts:List CT}{cells:Ab}{off:Nat}{K:Ab->Option R}{K':Ab->Option R'},(∀c,(∀p∈c,Ba p=[])->Rel (K c) (K' c))->Rel (DP ts cells off K) (DP ts cells off K')
 |[],_,_,_,_,hK=>hK _ (by simp)
 |_::_,_,_,_,_,hK=>Avp hn fun c hc=>Aam hn fun cs hcs=>hK _ (by
   intro p hp;rcases B7.1 hp with h|h
   ·rw[h];exact hc
   ·exact hcs p h)
theorem MI(hn:Rel none none){t:TypeId}{K:Ab->Option R}{K':Ab->Option R'}(hK:∀c,(∀p∈c,Ba p=[])->Rel (K c) (K' c)):Rel (Lh P t K) (Lh P t K'):=
 Fd hn fun _ _=>Bl hn fun _=>Aam hn hK
theorem EG{p c:PV}(h:c∈cellsOf p){i:Nat}(hi:i∈Ba c):i∈C2 p:=by
 unfold cellsOf at h;split at h
 ·exact List.mem_flatMap.2 ⟨c,h,hi⟩
 ·simp at h;subst h;exact DD hi
theorem Akm{cells new:Ab}{off:Nat}{c:PV}(h:c∈B0 cells new off):c∈cells\/c∈new:=by
 unfold B0 at h;rcases B4.1 h with h|h
 ·rcases B4.1 h with h|h
  ·exact .inl (List.mem_of_mem_take h)
  ·exact .inr h
 ·exact .inl (List.mem_of_mem_drop h)
theorem VP(hn:Rel none none){Kx:Nat->Option (Nat × Nat)}{S:Nat->Prop}:∀{ps:List (Nat × PV)} {cells:Ab}{K:Ab->Option R}{K':Ab->Option R'},(∀c∈cells,∀i∈Ba c,S i)->(∀q∈ps,∀i∈C2 q.2,S i) ->
  (∀cs,(∀c∈cs,∀i∈Ba c,S i)->Rel (K cs) (K' cs))->Rel (DA Kx ps cells K) (DA Kx ps cells K')
 |[],_,_,_,h1,_,hK=>hK _ h1
 |(_,p)::_,_,_,_,h1,h2,hK=>Fd hn fun _ _=>Bl hn fun _=>VP hn (fun c hc i hi=>by
   rcases Akm hc with h|h
   ·exact h1 c h i hi
   ·exact h2 (_,p) KS i (EG h hi)) (fun q hq=>h2 q (Sx _ hq)) hK
theorem QD(hn:Rel none none):∀{ts:List CT}{ps:Ab}{K:Ab->Cc->Option R}{K':Ab->Cc->Option R'},(∀t∈ts,∀es,t ≠ .sl es)->(∀c,Rel (K c []) (K' c []))->Rel (U0 g ts ps K) (U0 g' ts ps K')
 |[],[],_,_,_,hK=>hK _
 |[],_::_,_,_,_,_=>hn
 |_::_,[],_,_,_,_=>hn
 |t::ts,p::ps,K,K',ht,hK=>by
  show Rel (Wa g t p _) (Wa g' t p _)
  have:∀{g:Nat->Option Ab} {S:Type} {L:PV->Cc->Option S},Wa g t p L=NM t p fun c=>L c []:=by
   intro g S L;cases t with
   |sl es=>exact absurd rfl (ht _ (by simp) es)
   |_=>rfl
  rw[this,this];exact W8 hn fun c=>QD hn (fun t h=>ht t (by simp[h])) fun cs=>hK _
theorem Avg(hn:Rel none none){es:Nat}{t:TypeId}{x:PV}{K:Nat->Ab->Option R}{K':Nat->Ab->Option R'}(hx:Agr Rel g g' (Ba x))(hK:∀m c,Rel (K m c) (K' m c)):Rel (Ak5 P g es t x K) (Ak5 P g' es t x K'):=by
 unfold Ak5;split
 ·exact Bl hn fun _=>Jz hn fun _=>hK _ _
 ·exact LW hn hx hK
 ·exact hn
theorem Atq(hn:Rel none none){t:TypeId}{x:PV}{K:Nat->Option R}{K':Nat->Option R'}(hK:∀n,Rel (K n) (K' n)):Rel (Aok P t x K) (Aok P t x K'):=by
 unfold Aok;split
 ·exact I3 hn fun _ _ _=>Bl hn fun _=>hK _
 ·exact hn
theorem Afa(hn:Rel none none){d:Nat}{t tx:TypeId}{x:PV}{K:PV->List (Nat × Cb)->Option R}{K':PV->List (Nat × Cb)->Option R'}(hx:Agr Rel g g' (Ba x))(hK:∀v nw,Rel (K v nw) (K' v nw)):Rel (FO P g d t tx x K) (FO P g' d t tx x K'):=by
 unfold FO;split
 ·exact Bl hn fun _=>Avg hn hx fun _ _=>Bl hn fun _=>hK _ _
 ·exact hn
theorem UF(hn:Rel none none){C:Kr}{call:Bq}{K:PV->Cc->List (Nat × Cb)->Option R}{K':PV->Cc->List (Nat × Cb)->Option R'}(Qa:∀x∈o.op.operands.toList,Dd tm x=Dd tm' x)(hfg:Mg P o.op=true->∀x∈o.op.operands.toList,∀i∈Cn (Dd tm' x),(f i=f' i/\g i=g' i)\/(f i=none/\g i=none/\∀b,Rel none b))(hK:∀v fz nw,(Mg P o.op=false->fz=[]/\∀q∈nw,o.dst=some q.1)->(∀i∈fz,g i≠none)->Rel (K v fz nw) (K' v fz nw)):
  Rel (UZ C P N call tm f g o K) (UZ C P N call tm' f' g' o K'):=by
 have h0:∀v,Rel (K v [] []) (K' v [] []):=fun v=>hK v [] [] (fun _=>⟨rfl,by simp⟩) (by simp);have hf:Mg P o.op=true->∀x∈o.op.operands.toList,Agr Rel f f' (Cn (Dd tm' x)):=fun h x hx i hi=>(hfg h x hx i hi).imp (·.1) fun h=>⟨h.1,h.2.2⟩;have hg:Mg P o.op=true->∀x∈o.op.operands.toList,Agr Rel g g' (Cn (Dd tm' x)):=fun h x hx i hi=>(hfg h x hx i hi).imp (·.2) fun h=>⟨h.2.1,h.2.2⟩;unfold UZ;generalize hop:o.op=op at *
 split
 ·exact WR hn (Qa _ (by simp[Op.operands])) h0
 ·exact WR hn (Qa _ (by simp[Op.operands])) h0
 ·rename_i c x y;rw[Qa c (by simp[Op.operands]),Qa x (by simp[Op.operands]),Qa y (by simp[Op.operands])];exact Kq hn fun _=>SY (h0 _) (h0 _)
 ·exact Fd hn fun d hd=>DT hn fun _=>hK _ _ _ (fun _=>⟨rfl,by simp[hd]⟩) (by simp)
 ·rename_i t x;rw[Qa x (by simp[Op.operands])];refine Fd hn fun d hd=>Bl hn fun _=>?_;cases EA P t
  ·exact Uy hn fun _=>hK _ _ _ (fun _=>⟨rfl,by simp[hd]⟩) (by simp)
  ·exact Zo hn fun _=>hK _ _ _ (fun _=>⟨rfl,by simp[hd]⟩) (by simp)
 ·rename_i t ps
  have:(ps.toList.map fun q=>(q.1,Dd tm q.2))=ps.toList.map fun q=>(q.1,Dd tm' q.2):=by
   apply List.map_congr_left;intro q hq;rw[Qa q.2 (by simp only[Op.operands];exact List.mem_map_of_mem hq)]
  rw[this];exact Bl hn fun _=>DT hn fun _=>ON hn fun _=>Uy hn fun _=>h0 _
 ·rename_i t n ps
  have:(ps.toList.map fun q=>(q.1,Dd tm q.2))=ps.toList.map fun q=>(q.1,Dd tm' q.2):=by
   apply List.map_congr_left;intro q hq;rw[Qa q.2 (by simp only[Op.operands];exact List.mem_map_of_mem hq)]
  rw[this];refine Fd hn fun d hd=>?_;split
  ·rename_i e hu;cases TB:Pj P [e]
   ·refine Bl hn fun _=>MI hn fun z hz=>ON hn fun cs=>QD hn ?_ fun cs'=>hK _ _ _ (fun _=>⟨rfl,by simp[hd]⟩) (by simp);intro c hc es he;obtain⟨l,hl,hc⟩:=List.mem_flatten.1 hc;rw[List.eq_of_mem_replicate hl] at hc;subst he
    have:Pj P [e]=true:=by
     unfold Pj;simp only[List.any_cons,List.any_nil,Bool.or_false,Bool.or_eq_true];exact .inr (List.any_eq_true.2 ⟨_,hc,rfl⟩)
    rw[this] at TB;cases TB
   refine Bl hn fun _=>MI hn fun z hz=>VP (S:=fun i=>∃x∈(Op.buildSlice t n ps).operands.toList,i∈Cn (Dd tm' x)) hn ?_ ?_ fun cs hcs=>?_
   ·intro c hc i hi;obtain⟨l,hl,hc⟩:=List.mem_flatten.1 hc;rw[List.eq_of_mem_replicate hl] at hc;rw[hz c hc] at hi;simp at hi
   ·intro q hq i hi;obtain⟨q',Jc,rfl⟩:=List.mem_map.1 hq;exact⟨q'.2,by simp only[Op.operands];exact List.mem_map_of_mem Jc,Jb hi⟩
   ·refine FG hn (fun i hi=>?_) fun cs' m hm=>hK _ _ _ (fun h=>by simp[Mg,hu,TB] at h) hm;obtain⟨c,hc,hi⟩:=List.mem_flatMap.1 hi;obtain⟨x,hx,hxi⟩:=hcs c hc i hi;exact hg (by simp[Mg,hu,TB]) x hx i hxi
  ·exact hn
 ·rename_i t x;rw[Qa x (by simp[Op.operands])];exact ZW hn (fun i hi=>hfg (by simp[Mg]) x (by simp[Op.operands]) i (Qq hi)) h0
 ·rename_i x;rw[Qa x (by simp[Op.operands])];exact OI hn h0
 ·rename_i op' t x y _;rw[Qa x (by simp[Op.operands]),Qa y (by simp[Op.operands])];exact Afm hn h0
 ·rename_i op' t x;rw[Qa x (by simp[Op.operands])];exact Awx hn h0
 ·rename_i src dst x;rw[Qa x (by simp[Op.operands])];exact Anu hn (fun hds i hi=>hg (by simp[Mg,hds]) x (by simp[Op.operands]) i (Qq hi)) fun v b hb=>Fd hn fun d hd=>hK _ _ _ (fun _=>⟨rfl,fun q hq=>by rw[hd,hb q hq,hd];rfl⟩) (by simp)
 ·rename_i t x y;rw[Qa x (by simp[Op.operands]),Qa y (by simp[Op.operands])];refine Fd hn fun d hd=>?_;split
  ·exact Gc hn fun _ _=>Gc hn fun _ _=>Bl hn fun _=>DT hn fun _=>hK _ _ _ (fun _=>⟨rfl,by simp[hd]⟩) (by simp)
  ·exact hn
 ·rename_i t x lo hi mx;split
  ·rw[Qa x (by simp[Op.operands])]
   have h1:lo.map (Dd tm)=lo.map (Dd tm'):=by
    cases lo with
    |none=>rfl
    |some y=>simp only[Option.map_some];rw[Qa y (by simp[Op.operands])]
   have h2:hi.map (Dd tm)=hi.map (Dd tm'):=by
    cases hi with
    |none=>rfl
    |some y=>simp only[Option.map_some];rw[Qa y (by simp[Op.operands])]
   rw[h1,h2];exact Aks hn (fun ⟨n,e,he⟩ i hi=>hf (by simp[Mg,he]) x (by simp[Op.operands]) i (Qq hi)) h0
  ·rename_i m;rw[Qa x (by simp[Op.operands])]
   have h1:lo.map (Dd tm)=lo.map (Dd tm'):=by
    cases lo with
    |none=>rfl
    |some y=>simp only[Option.map_some];rw[Qa y (by simp[Op.operands])]
   have h2:hi.map (Dd tm)=hi.map (Dd tm'):=by
    cases hi with
    |none=>rfl
    |some y=>simp only[Option.map_some];rw[Qa y (by simp[Op.operands])]
   rw[h1,h2,Qa m (by simp[Op.operands])];exact Fd hn fun d hd=>Ah0 hn fun c=>hK _ _ _ (fun _=>⟨rfl,by simp[hd]⟩) (by simp)
 ·rename_i t x fl;rw[Qa x (by simp[Op.operands])];exact Fd hn fun _ _=>Bl hn fun _=>OI hn h0
 ·rename_i t x fl;rw[Qa x (by simp[Op.operands])];exact Fd hn fun _ _=>Bl hn fun _=>Pi hn fun _ _=>Uy hn fun _=>KV hn h0
 ·rename_i t x i;rw[Qa x (by simp[Op.operands]),Qa i (by simp[Op.operands])];exact Gc hn fun _ _=>UK hn h0
 ·rename_i t x i;rw[Qa x (by simp[Op.operands]),Qa i (by simp[Op.operands])];refine Gc hn fun _ _=>?_;split
  ·exact Jz hn fun _=>Bl hn fun _=>Fd hn fun _ _=>h0 _
  ·exact Pi hn fun _ _=>Bl hn fun _=>Uy hn fun _=>KV hn h0
  ·exact hn
 ·rename_i x i;rw[Qa x (by simp[Op.operands])];split
  ·exact Fd hn fun _ _=>h0 _
  ·exact hn
 ·rename_i c
  have Qw:∀x∈c.args.toList,x∈(Op.call c).operands.toList:=by
   intro x hx;simp only[Op.operands,Call.operands,Array.toList_append,B4];exact .inr hx
  have rc:∀fn,Mg P (.call c)=true->Rel (VW C P N call tm g o c fn K) (VW C P N call tm' g' o c fn K'):=by
   intro fn hmm;unfold VW;have:c.args.toList.map (Dd tm)=c.args.toList.map (Dd tm'):=List.map_congr_left fun x hx=>Qa x (Qw x hx);rw[this];refine Aah hn (fun i hi=>?_) fun vs m hm=>Aca hn fun rv ro=>Ih hn (Bl hn fun _=>NY hn fun ws bs TY=>Bl hn fun _=>hK _ _ _ (fun h=>by rw[hmm] at h;cases h) (fun i hi=>?_))
   ·obtain⟨p,hp,hi⟩:=List.mem_flatMap.1 hi;obtain⟨x,hx,rfl⟩:=List.mem_map.1 hp;exact hg hmm x (Qw x hx) i (Jb hi)
   ·have hi':i∈m:=by
     cases hq:Pj P (Um P o.type)<;>rw[hq] at hi
     ·simp at hi
     ·exact hi
    exact hm i hi'
  split
  ·refine Cf hn fun x _ hx=>Cf hn fun _ _ _=>?_;rw[Qa x (Qw x (by rw[hx];simp))]
   exact At7 hn fun _=>h0 _
  ·refine Cf hn fun x _ hx=>Cf hn fun _ _ _=>?_;rw[Qa x (Qw x (by rw[hx];simp))]
   exact Atq hn fun _=>h0 _
  ·refine Cf hn fun x _ hx=>Cf hn fun y _ hy=>Ih hn ?_;subst hy;rw[Qa x (Qw x (by rw[hx];simp)),Qa y (Qw y (by rw[hx];simp))]
   exact Aty hn h0
  ·refine Cf hn fun x _ hx=>Cf hn fun y _ hy=>Ih hn ?_;subst hy;rw[Qa x (Qw x (by rw[hx];simp)),Qa y (Qw y (by rw[hx];simp))]
   exact Asv hn h0
  ·rename_i hc;have hmm:Mg P (.call c)=true:=by simp[Mg,hc]
   refine Bl hn fun _=>Fd hn fun d hd=>Cf hn fun _ _ hb=>Cf hn fun x _ hx=>Ih hn (Cf hn fun _ _ _=>Cf hn fun _ _ _=>?_);have hxm:x∈c.args.toList:=by rw[hb,hx];simp
   rw[Qa x (Qw x hxm)];exact Afa hn (fun i hi=>hg hmm x (Qw x hxm) i (Qq hi)) fun v nw=>hK _ _ _ (fun h=>by rw[hmm] at h;cases h) (by simp)
  ·rename_i fn hc;have hmm:Mg P (.call c)=true:=by simp[Mg,hc]
   exact rc fn hmm
  ·rename_i t hc;have hmm:Mg P (.call c)=true:=by simp[Mg,hc]
   have ht:=Qa (.tmp t) (by simp[Op.operands,Call.operands,hc]);change tm t=tm' t at ht;rw[ht];exact Azj hn fun fn=>rc fn hmm
  ·exact hn
 ·exact hn
variable {hp:Nat->Option Cb}
end
open Go.RowKit
abbrev IP:=PV × Cc × List (Nat × Cb)
def Jf(ops:Array Oper)(o:Oper)(tm:Nat->PV):Option Bool:=
 match o.guard with
 |none=>some true
 |some (j,want)=>
  match (ops[j]?).bind (·.dst) with
  |none=>none
  |some d=>
   match tm d with
   |.sc (.bool b)=>some (b==want)
   |.sc (.tuple _)=>some false
   |_=>none
section
variable {R:Type}{r:R}{C:Kr}{P:Program}{N:Nat}{call:Bq}{ops:Array Oper}{o x:Oper}{s:St}{K:St->Option R}
theorem TG:Fg C P N call ops o s K=match Jf ops o s.tm with
  |none=>none
  |some true=>Ag1 C P N call o s K
  |some false=>As (J3 N o.dst) (K ⟨Co s.tm o.dst (.sc undef),s.hp⟩):=by
 unfold Fg Jf;cases o.guard with
 |none=>rfl
 |some q=>
  obtain⟨j,want⟩:=q;cases hd:(ops[j]?).bind (·.dst) with
  |none=>simp[hd]
  |some d=>
   simp only[hd];cases ht:s.tm d with
   |sc v=>
    cases v with
    |bool b=>
     cases b<;>cases want<;>simp only[Az,cond_true,cond_false,MM s.tm ht]<;>rfl
    |_=>rfl
   |_=>rfl
def Ap4(C:Kr)(P:Program)(N:Nat)(call:Bq)(o:Oper)(s:St):Option IP:=
 UZ C P N call s.tm (rd s.hp) (P7 s.hp) o fun v fz nw=>some (v,fz,nw)
theorem Azc{K:PV->Cc->List (Nat × Cb)->Option R}:UZ C P N call s.tm (rd s.hp) (P7 s.hp) o K=(Ap4 C P N call o s).bind fun q=>K q.1 q.2.1 q.2.2:=by refine UF (Rel:=fun (a:Option R) (b:Option IP)=>a=b.bind fun q=>K q.1 q.2.1 q.2.2) (K:=K) (K':=fun v fz nw=>some (v,fz,nw)) rfl (fun _ _=>rfl) (fun _ _ _ _ _=>.inl ⟨rfl,rfl⟩) fun v fz nw _ _=>rfl
theorem Aiz{q:IP}(h:Ap4 C P N call o s=some q):(Mg P o.op=false->q.2.1=[]/\∀p∈q.2.2,o.dst=some p.1)/\∀i∈q.2.1,P7 s.hp i≠none:=by
 have:=UF (C:=C) (P:=P) (N:=N) (call:=call) (o:=o) (tm:=s.tm) (tm':=s.tm) (f:=rd s.hp) (f':=rd s.hp) (g:=P7 s.hp) (g':=P7 s.hp)
  (Rel:=fun (a:Option IP)(_:Option IP)=>∀q,a=some q->(Mg P o.op=false->q.2.1=[]/\∀p∈q.2.2,o.dst=some p.1)/\∀i∈q.2.1,P7 s.hp i≠none)
  (K:=fun v fz nw=>some (v,fz,nw)) (K':=fun v fz nw=>some (v,fz,nw)) (fun _ h=>by cases h) (fun _ _=>rfl) (fun _ _ _ _ _=>.inl ⟨rfl,rfl⟩) (fun v fz nw h1 h2 q hq=>by cases hq;exact⟨h1,h2⟩)
 exact this q h
def gE(C:Kr)(P:Program)(N:Nat)(call:Bq)(ops:Array Oper)(o:Oper)(s:St):Option IP:=
 match Jf ops o s.tm with
 |none=>none
 |some true=>bif AW C P o.op then none else Ap4 C P N call o s
 |some false=>some (.sc undef,[],[])
def Kw(C:Kr)(P:Program)(ops:Array Oper)(o:Oper)(tm:Nat->PV):Bool:=AW C P o.op&&(Jf ops o tm==some true)
theorem Q8(h:Kw C P ops o s.tm=false):Fg C P N call ops o s K=(gE C P N call ops o s).bind fun q=>OJ N s o.dst q.1 q.2.1 q.2.2 K:=by
 rw[TG];unfold gE;unfold Kw at h;cases hv:Jf ops o s.tm with
 |none=>rfl
 |some b=>
  rw[hv] at h;cases b with
  |false=>
   show As _ _=OJ N s o.dst (.sc undef) [] [] K;unfold OJ;have h1:C3 s.hp []=true:=rfl;have h2:Bf (Al s.hp []) []=s.hp:=rfl;rw[h1,h2,Bool.and_true]
  |true=>
   have hm:AW C P o.op=false:=by simpa using h
   simp only[Ag1,hm,cond_false];exact Azc
theorem Nx(h:Kw C P ops o s.tm=true):Fg C P N call ops o s K=GM C P N call s o K:=by rw[TG];unfold Kw at h;simp only[G6,beq_iff_eq] at h;rw[h.2];simp only[Ag1,h.1,cond_true]
theorem CW{q:IP}(h:gE C P N call ops o s=some q):(Mg P o.op=false->q.2.1=[]/\∀p∈q.2.2,o.dst=some p.1)/\∀i∈q.2.1,P7 s.hp i≠none:=by
 unfold gE at h;split at h
 ·cases h
 ·cases hm:AW C P o.op<;>rw[hm] at h
  ·exact Aiz h
  ·cases h
 ·cases h;exact⟨fun _=>⟨rfl,by simp⟩,by simp⟩
theorem Iw{tm tm':Nat->PV}(h:∀t∈looks ops o,tm t=tm' t):∀y∈o.op.operands.toList,Dd tm y=Dd tm' y:=by
 intro y hy;cases y with
 |tmp t=>
  refine h t ?_;unfold looks Au5;refine B4.2 (.inl (List.mem_filterMap.2 ⟨.tmp t,hy,rfl⟩))
 |const v=>cases v<;>rfl
 |func f=>rfl
 |«global» g=>rfl
theorem Ri{tm tm':Nat->PV}(h:∀t∈looks ops o,tm t=tm' t):Jf ops o tm=Jf ops o tm':=by
 unfold Jf;cases hg:o.guard with
 |none=>rfl
 |some q=>
  obtain⟨j,want⟩:=q;cases hd:(ops[j]?).bind (·.dst) with
  |none=>simp[hd]
  |some d=>
   have:tm d=tm' d:=h d (by
    unfold looks;rw[hg];refine B4.2 (.inr ?_);simp only[hd];simp)
   simp only[hd,this]
theorem KO{s':St}{q:IP}(ht:∀t∈looks ops o,s.tm t=s'.tm t)(hm:Mg P o.op=true->∀y∈o.op.operands.toList,∀i∈Cn (Dd s'.tm y),(rd s.hp i=rd s'.hp i/\P7 s.hp i=P7 s'.hp i)\/(rd s.hp i=none/\P7 s.hp i=none))(h:gE C P N call ops o s=some q):gE C P N call ops o s'=some q:=by
 unfold gE at h ⊢;rw[<-Ri ht];split at h
 ·cases h
 ·cases hM:AW C P o.op<;>rw[hM] at h
  ·have:=UF (C:=C) (P:=P) (N:=N) (call:=call) (o:=o) (tm:=s.tm) (tm':=s'.tm) (f:=rd s.hp) (f':=rd s'.hp) (g:=P7 s.hp) (g':=P7 s'.hp)
    (Rel:=fun (a b:Option IP)=>a=some q->b=some q)
    (K:=fun v fz nw=>some (v,fz,nw)) (K':=fun v fz nw=>some (v,fz,nw)) (fun h=>h) (Iw ht)
    (fun Nh y hy i hi=>(hm Nh y hy i hi).imp id fun h=>⟨h.1,h.2,fun _ h=>by cases h⟩) (fun v fz nw _ _ h=>h)
   exact this h
  ·cases h
 ·exact h
end
open Go.RowKit
theorem Y4:∀{nw:List (Nat × Cb)} {hp Dg:Nat->Option Cb},C3 hp nw=true->(∀i b,(i,b)∈nw->Dg i=none)->C3 Dg nw=true
 |[],_,_,_,_=>rfl
 |(i,b)::nw,hp,Dg,h,h'=>by
  simp only[C3,G6,Option.isNone_iff_eq_none] at h ⊢;exact⟨⟨h' i b (by simp),h.1.2⟩,Y4 h.2 fun j c hj=>h' j c (by simp[hj])⟩
section
variable {hp:Nat->Option Cb}{fz:Cc}{nw:List (Nat × Cb)}
theorem Ju(ha:C3 hp nw=true){i:Nat}(hi:hp i≠none):Bf (Al hp fz) nw i=if i∈fz then (hp i).map DN else hp i:=by obtain⟨h1,h2⟩:=Cl ha;rw[(G3 h2).2 i (fun bx hb=>hi (h1 i bx hb)),C5]
theorem N9(ha:C3 hp nw=true){i:Nat}{b:Cb}(hi:(i,b)∈nw):Bf (Al hp fz) nw i=some b:=
 (G3 (Cl ha).2).1 i b hi
theorem Vs(ha:C3 hp nw=true){i:Nat}(hi:hp i=none)(hn:∀b,(i,b) ∉ nw):Bf (Al hp fz) nw i=none:=by rw[(G3 (Cl ha).2).2 i hn,C5,hi];simp
theorem Vn(ha:C3 hp nw=true){i:Nat}(hi:hp i≠none):Bf (Al hp fz) nw i≠none:=by
 rw[Ju ha hi];cases h:hp i with
 |none=>exact absurd h hi
 |some b=>split<;>simp
theorem Ayu(b:Option Cb):(match b.map DN with|some (.st c)=>some c|some (.ar _ c)=>some c|_=>none)=(match b with|some (.st c)=>some c|some (.ar _ c)=>some c|_=>none):=by
 cases b with
 |none=>rfl
 |some b=>cases b<;>rfl
theorem Ar9(b:Option Cb):(match b.map DN with|some (.ar _ c)=>some c|_=>none)=(match b with|some (.ar _ c)=>some c|_=>none):=by
 cases b with
 |none=>rfl
 |some b=>cases b<;>rfl
theorem Age(ha:C3 hp nw=true){i:Nat}(hi:hp i≠none):rd (Bf (Al hp fz) nw) i=rd hp i:=by
 unfold rd;rw[Ju ha hi];by_cases h:i∈fz
 ·rw[Bn h];exact Ayu _
 ·rw[A4 h]
theorem Aaa(ha:C3 hp nw=true){i:Nat}(hi:hp i≠none):P7 (Bf (Al hp fz) nw) i=P7 hp i:=by
 unfold P7;rw[Ju ha hi];by_cases h:i∈fz
 ·rw[Bn h];exact Ar9 _
 ·rw[A4 h]
theorem Amw{i:Nat}(hi:hp i=none):rd hp i=none:=by unfold rd;rw[hi]
theorem Rn{i:Nat}(hi:hp i=none):P7 hp i=none:=by unfold P7;rw[hi]
theorem A8g(b:Option Cb):(b.map DN).map DN=b.map DN:=by
 cases b with
 |none=>rfl
 |some b=>cases b<;>rfl
theorem Aix{fx fo:Cc}{nx no:List (Nat × Cb)}(hx:C3 hp nx=true)(ho:C3 (Bf (Al hp fx) nx) no=true)(ho':C3 hp no=true)(Zy:C3 (Bf (Al hp fo) no) nx=true)(h1:∀i∈fx,hp i≠none)(h2:∀i∈fo,hp i≠none):
  Bf (Al (Bf (Al hp fx) nx) fo) no=Bf (Al (Bf (Al hp fo) no) fx) nx:=by
 funext i
 by_cases hi:hp i=none
 ·by_cases hno:∃b,(i,b)∈no
  ·obtain⟨b,hb⟩:=hno
   have hnx:∀b',(i,b') ∉ nx:=fun b' Kh=>by
    have:=(Cl ho).1 i b hb;rw[N9 hx Kh] at this;cases this
   rw[N9 ho hb,Ju Zy (by rw[N9 ho' hb];simp),N9 ho' hb,A4 (fun h=>h1 i h hi)]
  ·have hno:∀b,(i,b) ∉ no:=fun b hb=>hno ⟨b,hb⟩;by_cases hnx:∃b,(i,b)∈nx
   ·obtain⟨b,hb⟩:=hnx;rw[N9 Zy hb,Ju ho (by rw[N9 hx hb];simp),N9 hx hb,A4 (fun h=>h2 i h hi)]
   ·have hnx:∀b,(i,b) ∉ nx:=fun b hb=>hnx ⟨b,hb⟩;rw[Vs ho (Vs hx hi hnx) hno,Vs Zy (Vs ho' hi hno) hnx]
 ·rw[Ju ho (Vn hx hi),Ju hx hi,Ju Zy (Vn ho' hi),Ju ho' hi];split<;>split<;>first|rfl|rw[A8g]
end
section
variable {R:Type}{r:R}{C:Kr}{P:Program}{N:Nat}{call:Bq}{ops:Array Oper}{o x:Oper}{s:St}{K:St->Option R}
structure KQ(C:Kr)(P:Program)(ops:Array Oper)(x o:Oper):Prop where
 xo:∀d,x.dst=some d->d ∉ looks ops o
 ne:∀d,x.dst=some d->o.dst≠some d
 ox:∀d,o.dst=some d->d ∉ looks ops x
 mx:AW C P x.op=true->Mg P o.op=false
 mo:AW C P o.op=true->Mg P x.op=false
theorem Z9{l:Cc}{d:Nat}(h:l.any (Nat.beq d)=false):d ∉ l:=by intro hm;have:l.any (Nat.beq d)=true:=List.any_eq_true.2 ⟨d,hm,P6 d⟩;rw[this] at h;cases h
theorem Auy(h:XI C P ops x o=false):KQ C P ops x o:=by
 unfold XI at h;simp only[Bool.or_eq_false_iff,Bool.and_eq_false_iff] at h;obtain⟨⟨⟨h1,h2⟩,h3⟩,h4⟩:=h;refine⟨fun d hd=>?_,fun d hd he=>?_,fun d hd=>?_,fun hm=>?_,fun hm=>?_⟩
 ·simp only[hd,Bool.or_eq_false_iff] at h1;exact Z9 h1.1
 ·simp only[hd,he,Bool.or_eq_false_iff] at h1;rw[P6] at h1;cases h1.2
 ·simp only[hd] at h2;exact Z9 h2
 ·rw[hm] at h3;rcases h3 with h|h
  ·cases h
  ·exact h
 ·rw[hm] at h4;rcases h4 with h|h
  ·cases h
  ·exact h
theorem Ht{tm:Nat->PV}{d:Option Tmp}{v:PV}{l:Cc}(h:∀i,d=some i->i ∉ l):∀t∈l,Co tm d v t=tm t:=by
 intro t ht;cases d with
 |none=>rfl
 |some d=>exact Ax _ _ (by rintro rfl;exact h _ rfl ht)
theorem Qy{tm:Nat->PV}{d e:Option Tmp}{u v:PV}(h:∀i,d=some i->e≠some i):Co (Co tm d u) e v=Co (Co tm e v) d u:=by
 cases d with
 |none=>rfl
 |some d=>
  cases e with
  |none=>rfl
  |some e=>exact Agp _ _ _ (by rintro rfl;exact h _ rfl rfl)
def Has(C:Kr)(P:Program)(o:Oper)(s:St):Prop:=(∀y∈o.op.operands.toList,∀i∈Cn (Dd s.tm y),s.hp i≠none) /\
 (AW C P o.op=true->Vd o.op=false->∀y∈o.op.operands.toList,∀i∈Cn (Dd s.tm y),∀c,s.hp i=some (.st c)->∀p∈c,∀k∈Ba p,s.hp k≠none)
theorem Mc{tm tm':Nat->PV}(h:∀t∈looks ops o,tm t=tm' t):Kw C P ops o tm=Kw C P ops o tm':=by unfold Kw;rw[Ri h]
theorem Al3(hw:Has C P o s)(xo:∀d,x.dst=some d->d ∉ looks ops o)(ne:∀d,x.dst=some d->o.dst≠some d)(ox:∀d,o.dst=some d->d ∉ looks ops x)(hx:Kw C P ops x s.tm=false)(ho:Kw C P ops o s.tm=false)(h:Fg C P N call ops x s (fun s1=>Fg C P N call ops o s1 K)=some r):Fg C P N call ops o s (fun s1=>Fg C P N call ops x s1 K)=some r:=by
 rw[Q8 hx] at h;cases ex:gE C P N call ops x s with
 |none=>rw[ex] at h;cases h
 |some q=>
 obtain⟨vx,fx,nx⟩:=q;rw[ex] at h;obtain⟨hb,h1⟩:=A5 h;simp only[G6] at hb;have t1:∀t∈looks ops o,Co s.tm x.dst vx t=s.tm t:=Ht xo;change Fg C P N call ops o ⟨Co s.tm x.dst vx,Bf (Al s.hp fx) nx⟩ K=some r at h1;rw[Q8 (by rw[Mc t1];exact ho)] at h1
 cases eo:gE C P N call ops o ⟨Co s.tm x.dst vx,Bf (Al s.hp fx) nx⟩ with
 |none=>rw[eo] at h1;cases h1
 |some q=>
 obtain⟨vo,fo,no⟩:=q;rw[eo] at h1;obtain⟨hc,h2⟩:=A5 h1;change K ⟨Co (Co s.tm x.dst vx) o.dst vo,Bf (Al (Bf (Al s.hp fx) nx) fo) no⟩=some r at h2;simp only[G6] at hc
 have eo':gE C P N call ops o s=some (vo,fo,no):=by
  refine KO t1 (fun _ y hy i hi=>?_) eo;have:=hw.1 y hy i hi;exact .inl ⟨Age hb.2 this,Aaa hb.2 this⟩
 have ho':C3 s.hp no=true:=Y4 hc.2 fun i b hi=>by
  cases hs:s.hp i with
  |none=>rfl
  |some c=>exact absurd ((Cl hc.2).1 i b hi) (Vn hb.2 (by rw[hs];simp))
 rw[Q8 ho,eo']
 have Zy:C3 (Bf (Al s.hp fo) no) nx=true:=Y4 hb.2 fun i b hi=>by
  refine Vs ho' ((Cl hb.2).1 i b hi) fun c AE=>?_;have:=(Cl hc.2).1 i c AE;rw[N9 hb.2 hi] at this;cases this
 have t2:∀t∈looks ops x,s.tm t=Co s.tm o.dst vo t:=fun t ht=>(Ht ox t ht).symm
 have ex':gE C P N call ops x ⟨Co s.tm o.dst vo,Bf (Al s.hp fo) no⟩=some (vx,fx,nx):=by
  refine KO t2 (fun _ y hy i hi=>?_) ex;by_cases hs:s.hp i=none
  ·exact .inr ⟨Amw hs,Rn hs⟩
  ·exact .inl ⟨(Age ho' hs).symm,(Aaa ho' hs).symm⟩
 show As _ _=_;rw[hc.1,ho'];show Fg C P N call ops x ⟨Co s.tm o.dst vo,Bf (Al s.hp fo) no⟩ K=some r;rw[Q8 (by rw[<-Mc t2];exact hx),ex']
 show As _ _=_;rw[hb.1,Zy];rw[<-h2];have hfx:∀i∈fx,s.hp i≠none:=fun i hi hs=>(CW ex).2 i hi (Rn hs);have hfo:∀i∈fo,s.hp i≠none:=fun i hi hs=>(CW eo').2 i hi (Rn hs);show K ⟨Co (Co s.tm o.dst vo) x.dst vx,Bf (Al (Bf (Al s.hp fo) no) fx) nx⟩=K _;rw[Qy ne,Aix hb.2 hc.2 ho' Zy hfx hfo]
end
open Go.RowKit
theorem MU{C:Kr}{P:Program}{o:Op}(h:AW C P o=true):Mg P o=true:=by
 unfold AW at h;split at h
 ·rfl
 ·rename_i c;unfold Mg;simp only;split at h<;>rename_i hc
  ·rw[hc]
  ·rw[hc]
  ·cases h
  ·rw[hc]
  ·cases h
 ·cases h
structure YM(N:Nat)(S:Nat->Prop)(dst:Option Nat)(hp Fu Dg Io:Nat->Option Cb):Prop where
 keep:∀i,hp i≠none->Dg i≠none
 off:∀i,i<N->dst≠some i->(¬S i\/hp i=none)->Dg i=hp i/\Io i=Fu i
 same:∀i,hp i=Fu i->Dg i=Io i
 far:∀i,¬S i->hp i≠none->Dg i=hp i
section
variable {R R':Type}{Rel:Option R->Option R'->Prop}{P:Program}{N:Nat}{tm tm':Nat->PV}{hp Fu:Nat->Option Cb}{f f':Nat->Option Ab}{o:Oper}
theorem Aas(hn:Rel none none){t:CT}{p:PV}{K:PV->Cc->Option R}{K':PV->Cc->Option R'}(hf:Agr Rel f f' (Ba p))(hK:∀c m,(∀i∈m,f i≠none/\i∈Ba p)->Rel (K c m) (K' c m)):Rel (Wa f t p K) (Wa f' t p K'):=by
 unfold Wa;split
 ·split
  ·rename_i id es' off n;cases Nat.beq es' _
   ·exact hn
   ·exact NJ hn hf (by simp[Ba]) fun c hc=>Bl hn fun _=>hK _ _ (by simp[hc,Ba])
  ·exact I3 hn fun _ _ _=>hK _ _ (by simp)
 ·exact W8 hn fun _=>hK _ _ (by simp)
theorem XS(hn:Rel none none):∀{ts:List CT}{ps:Ab}{K:Ab->Cc->Option R}{K':Ab->Cc->Option R'},Agr Rel f f' (ps.flatMap Ba)->(∀c m,(∀i∈m,f i≠none/\i∈ps.flatMap Ba)->Rel (K c m) (K' c m))->Rel (U0 f ts ps K) (U0 f' ts ps K')
 |[],[],_,_,_,hK=>hK _ _ (by simp)
 |[],_::_,_,_,_,_=>hn
 |_::_,[],_,_,_,_=>hn
 |_::_,p::ps,_,_,hf,hK=>Aas hn (fun i hi=>hf i (by simp only[J1,B4];exact .inl hi)) fun _ m hm=>XS hn (fun i hi=>hf i (by simp only[J1,B4];exact .inr hi)) fun _ ms XA=>hK _ _ fun i hi=>by
   simp only[J1,B4];rcases B4.1 hi with h|h
   ·exact⟨(hm i h).1,.inl (hm i h).2⟩
   ·exact⟨(XA i h).1,.inr (XA i h).2⟩
theorem FI{S:Nat->Prop}{dst:Option Nat}{id:Nat}{b:Cb}{h0 h1:Nat->Option Cb}(hS:S id)(B6:hp id≠none)(h:YM N S dst hp Fu h0 h1):YM N S dst hp Fu (D2 h0 id (some b)) (D2 h1 id (some b)):=by
 refine⟨fun i hi=>?_,fun i hN hd hi=>?_,fun i hi=>?_,fun i hn hi=>?_⟩
 ·by_cases e:i=id
  ·subst e;rw[A8];simp
  ·rw[Ax _ _ e];exact h.keep i hi
 ·have e:i≠id:=by
   rintro rfl
   rcases hi with hi|hi
   ·exact hi hS
   ·exact B6 hi
  rw[Ax _ _ e,Ax _ _ e];exact h.off i hN hd hi
 ·by_cases e:i=id
  ·subst e;rw[A8,A8]
  ·rw[Ax _ _ e,Ax _ _ e];exact h.same i hi
 ·rw[Ax _ _ (by rintro rfl;exact hn hS)];exact h.far i hn hi
theorem Adk{S:Nat->Prop}{d:Nat}{b:Cb}{h0 h1:Nat->Option Cb}(hz:hp d=none)(h:YM N S (some d) hp Fu h0 h1):YM N S (some d) hp Fu (D2 h0 d (some b)) (D2 h1 d (some b)):=by
 refine⟨fun i hi=>?_,fun i hN hd hi=>?_,fun i hi=>?_,fun i hn hi=>?_⟩
 ·by_cases e:i=d
  ·subst e;rw[A8];simp
  ·rw[Ax _ _ e];exact h.keep i hi
 ·have e:i≠d:=by rintro rfl;exact hd rfl
  rw[Ax _ _ e,Ax _ _ e];exact h.off i hN hd hi
 ·by_cases e:i=d
  ·subst e;rw[A8,A8]
  ·rw[Ax _ _ e,Ax _ _ e];exact h.same i hi
 ·rw[Ax _ _ (by rintro rfl;exact hi hz)];exact h.far i hn hi
theorem DY(S:Nat->Prop)(dst:Option Nat):YM N S dst hp Fu hp Fu:=⟨fun _ h=>h,fun _ _ _ _=>⟨rfl,rfl⟩,fun _ h=>h,fun _ _ _=>rfl⟩
theorem Akg{S:Nat->Prop}{dst:Option Nat}{m:Cc}(hm:∀i∈m,hp i≠none/\S i):YM N S dst hp Fu (Al hp m) (Al Fu m):=by
 refine⟨fun i hi=>fun h=>hi (Gd.1 h),fun i hN hd hi=>?_,fun i hi=>?_,fun i hn hi=>?_⟩
 ·have e:i ∉ m:=by
   intro h;rcases hi with hi|hi
   ·exact hi (hm i h).2
   ·exact (hm i h).1 hi
  rw[C5,C5,A4 e,A4 e];exact⟨rfl,rfl⟩
 ·rw[C5,C5,hi]
 ·rw[C5,A4 (fun h=>hn (hm i h).2)]
theorem Acz{S:Nat->Prop}(h:∀i,S i->hp i=Fu i\/(hp i=none/\∀b,Rel none b)){l:Cc}(hl:∀i∈l,S i):Agr Rel (P7 hp) (P7 Fu) l:=by
 intro i hi;rcases h i (hl i hi) with h|⟨h,h'⟩
 ·left;unfold P7;rw[h]
 ·exact .inr ⟨Rn h,h'⟩
theorem Ahv(hn:Rel none none){t:TypeId}{a x:PV}{K:St->Option R}{K':St->Option R'}{S:Nat->Prop}(hS:∀i,S i->hp i=Fu i\/(hp i=none/\∀b,Rel none b))(ha:∀i∈Ba a,S i)(hx:∀i∈C2 x,S i)(hK:∀Dg Io,YM N S none hp Fu Dg Io->Rel (K ⟨tm,Dg⟩) (K' ⟨tm',Io⟩)):Rel (PF P ⟨tm,hp⟩ t a x K) (PF P ⟨tm',Fu⟩ t a x K'):=by
 unfold PF;split
 ·rename_i id off;show Rel (match hp id with|some (.st c)=>_|some (.ar false c)=>_|_=>none) (match Fu id with|some (.st c)=>_|some (.ar false c)=>_|_=>none);have B6:S id:=ha id (by simp[Ba]);rcases hS id B6 with h|⟨h,hb⟩
  ·rw[<-h];split
   ·rename_i c hc;exact Bl hn fun _=>Uy hn fun _=>hK _ _ (FI B6 (by rw[hc];simp) (DY _ _))
   ·rename_i c hc;refine Bl hn fun _=>XS hn (Acz hS fun i hi=>hx i ?_) fun _ m hm=>Bl hn fun _=>hK _ _ (FI B6 (by rw[hc];simp) (Akg fun i hi=>⟨fun h=>(hm i hi).1 (Rn h),hx i ?_⟩))
    ·obtain⟨c,hc,hi⟩:=List.mem_flatMap.1 hi;exact EG hc hi
    ·obtain⟨c,hc,hi⟩:=List.mem_flatMap.1 (hm i hi).2;exact EG hc hi
   ·exact hn
  ·rw[h];exact hb _
 ·exact hn
theorem PJ(hn:Rel none none){es:Nat}{t:TypeId}{x:PV}{K:Nat->Ab->Option R}{K':Nat->Ab->Option R'}{S:Nat->Prop}(hS:∀i,S i->hp i=Fu i\/(hp i=none/\∀b,Rel none b))(hx:∀i∈C2 x,S i)(hK:∀m c,Rel (K m c) (K' m c)):Rel (Ajs P ⟨tm,hp⟩ es t x K) (Ajs P ⟨tm',Fu⟩ es t x K'):=by
 unfold Ajs Ak5;split
 ·exact Bl hn fun _=>Jz hn fun _=>hK _ _
 ·exact LW hn (Acz hS fun i hi=>hx i (DD hi)) hK
 ·exact hn
theorem MT(hn:Rel none none){d:Nat}{t tx:TypeId}{b x:PV}{K:St->Option R}{K':St->Option R'}{S:Nat->Prop}(hS:∀i,S i->hp i=Fu i\/(hp i=none/\∀b,Rel none b))(hdd:hp d=Fu d)(hb:∀i∈C2 b,S i)(hx:∀i∈C2 x,S i)(hK:∀v Dg Io,(∀M,YM M S (some d) hp Fu Dg Io)->Rel (K ⟨D2 tm d v,Dg⟩) (K' ⟨D2 tm' d v,Io⟩)):Rel (Wp P N ⟨tm,hp⟩ d t tx b x K) (Wp P N ⟨tm',Fu⟩ d t tx b x K'):=by
 unfold Wp;split
 ·refine Bl hn fun _=>?_;cases JZ P tx
  rotate_left
  ·show Rel (CY P N ⟨tm,hp⟩ d _ b x K) (CY P N ⟨tm',Fu⟩ d _ b x K');refine Gc hn fun _ n=>I3 hn fun z _ _=>?_;show Rel (As (z&&Nat.blt d N&&(hp d).isNone&&_&&_&&_) _) (As (z&&Nat.blt d N&&(Fu d).isNone&&_&&_&&_) _);rw[<-hdd];exact Bl hn fun hb=>hK _ _ _ (fun M=>Adk (by simp only[G6,Option.isNone_iff_eq_none] at hb;simp only[hb]) (DY _ _))
  rw[cond_false,cond_false];refine PJ hn hS hx fun m new=>?_;split
  ·rename_i id es off n;show Rel (match hp id with|some (.ar false c)=>As (Nat.beq es _&&Nat.beq off 0&&Nat.blt d N&&(hp d).isNone&&_&&_&&_&&_) _|_=>none) (match Fu id with|some (.ar false c)=>As (Nat.beq es _&&Nat.beq off 0&&Nat.blt d N&&(Fu d).isNone&&_&&_&&_&&_) _|_=>none);have B6:S id:=hb id (by simp[C2,Ba]);rw[<-hdd];rcases hS id B6 with h|⟨h,hbb⟩
   ·rw[<-h];split
    ·rename_i c hc;exact Bl hn fun hb=>hK _ _ _ (fun M=>Adk (by simp only[G6,Option.isNone_iff_eq_none] at hb;simp only[hb]) (FI B6 (by rw[hc];simp) (DY _ _)))
    ·exact hn
   ·rw[h];exact hbb _
  ·refine I3 hn fun z _ _=>?_;show Rel (As (z&&Nat.blt d N&&(hp d).isNone&&_&&_&&_) _) (As (z&&Nat.blt d N&&(Fu d).isNone&&_&&_&&_) _);rw[<-hdd];exact Bl hn fun hb=>hK _ _ _ (fun M=>Adk (by simp only[G6,Option.isNone_iff_eq_none] at hb;simp only[hb]) (DY _ _))
 ·exact hn
theorem Ai2(hn:Rel none none){d:Option Tmp}{t tx:TypeId}{b x:PV}{K:St->Option R}{K':St->Option R'}{S:Nat->Prop}(hS:∀i,S i->hp i=Fu i\/(hp i=none/\∀b,Rel none b))(hb:∀i∈C2 b,S i)(hx:∀i∈C2 x,S i)(hK:∀v Dg Io,YM N S d hp Fu Dg Io->Rel (K ⟨Co tm d v,Dg⟩) (K' ⟨Co tm' d v,Io⟩)):Rel (Aau P N ⟨tm,hp⟩ d t tx b x K) (Aau P N ⟨tm',Fu⟩ d t tx b x K'):=by
 unfold Aau;split
 ·refine Bl hn fun _=>?_;refine PJ hn hS hx fun m new=>?_;split
  ·rename_i id es off n;show Rel (match hp id with|some (.ar false c)=>As (Nat.beq es _&&_&&_) _|_=>none) (match Fu id with|some (.ar false c)=>As (Nat.beq es _&&_&&_) _|_=>none);have B6:S id:=hb id (by simp[C2,Ba]);rcases hS id B6 with h|⟨h,hbb⟩
   ·rw[<-h];split
    ·rename_i c hc;exact Bl hn fun _=>hK _ _ _ (FI B6 (by rw[hc];simp) (DY _ _))
    ·exact hn
   ·rw[h];exact hbb _
  ·exact hn
 ·exact hn
def A0s(o:Oper)(tm:Nat->PV)(i:Nat):Prop:=∃x∈o.op.operands.toList,i∈Cn (Dd tm x)
def HX(o:Oper)(tm:Nat->PV)(hp:Nat->Option Cb)(i:Nat):Prop:=A0s o tm i\/Vd o.op=false/\∃id c,A0s o tm id/\hp id=some (.st c)/\∃p∈c,i∈Ba p
theorem Aoq(hn:Rel none none){mv:Bool}{t:CT}{p:PV}{K:PV->Cc->Cc->Option R}{K':PV->Cc->Cc->Option R'}{S:Nat->Prop}(hS:∀i,S i->hp i=Fu i\/(hp i=none/\∀b,Rel none b))(hp_:∀i∈Ba p,S i)(hK:∀c m x,(∀i∈m++x,hp i≠none/\S i)->Rel (K c m x) (K' c m x)):Rel (Aoh mv hp t p K) (Aoh mv Fu t p K'):=by
 have frz:∀{t:CT} {p:PV},(∀i∈Ba p,S i)->Rel (Wa (P7 hp) t p fun c m=>K c m []) (Wa (P7 Fu) t p fun c m=>K' c m []):=fun h=>Aas hn (Acz hS h) fun c m hm=>hK _ _ _ fun i hi=>by
  rw[List.append_nil] at hi;exact⟨fun e=>(hm i hi).1 (Rn e),h i (hm i hi).2⟩
 unfold Aoh;split
 ·rename_i es;cases mv<;>simp only[cond_true,cond_false]
  ·exact frz hp_
  ·split
   ·rename_i id es' off n;rcases hS id (hp_ id (by simp[Ba])) with h|⟨h,hb⟩
    ·rw[<-h];split
     ·rename_i c hc;cases (Nat.beq es' es&&Nat.beq off 0)<;>simp only[cond_true,cond_false]
      ·exact frz hp_
      ·exact Bl hn fun _=>hK _ _ _ fun i hi=>by
        simp only[UG,M0] at hi;subst hi;exact⟨by rw[hc];simp,hp_ i (by simp[Ba])⟩
     ·exact frz hp_
    ·rw[h]
     have:(Wa (P7 hp) (.sl es) (.view id es' off n) fun c m=>K c m [])=none:=by
      unfold Wa;simp only;cases Nat.beq es' es
      ·rfl
      ·simp only[cond_true,Rn h,F3]
     show Rel (Wa (P7 hp) (.sl es) (.view id es' off n) fun c m=>K c m []) _;rw[this];exact hb _
   ·refine I3 hn fun z n c=>?_;cases z
    ·exact hK _ _ _ (by simp)
    ·exact hK _ _ _ (by simp)
 ·exact W8 hn fun _=>hK _ _ _ (by simp)
theorem AY(hn:Rel none none){mv:Bool}{S:Nat->Prop}(hS:∀i,S i->hp i=Fu i\/(hp i=none/\∀b,Rel none b)):∀{ts:List CT}{ps:Ab}{K:Ab->Cc->Cc->Option R}{K':Ab->Cc->Cc->Option R'},(∀p∈ps,∀i∈Ba p,S i) ->
  (∀c m x,(∀i∈m++x,hp i≠none/\S i)->Rel (K c m x) (K' c m x))->Rel (QB mv hp ts ps K) (QB mv Fu ts ps K')
 |[],[],_,_,_,hK=>hK _ _ _ (by simp)
 |[],_::_,_,_,_,_=>hn
 |_::_,[],_,_,_,_=>hn
 |_::_,p::ps,_,_,hp_,hK=>Aoq hn hS (hp_ p (by simp)) fun _ m x hm=>AY hn hS (fun q hq=>hp_ q (by simp[hq])) fun _ ms xs XA=>hK _ _ _ fun i hi=>by
   simp only[B4] at hi hm XA;rcases hi with (hi|hi)|(hi|hi)
   ·exact hm i (.inl hi)
   ·exact XA i (.inl hi)
   ·exact hm i (.inr hi)
   ·exact XA i (.inr hi)
theorem Agn(hn:Rel none none){C:Kr}{f:FuncId}{i:Nat}{t:TypeId}{p:PV}{K:PV->Cc->Cc->List Ks->Option R}{K':PV->Cc->Cc->List Ks->Option R'}{S:Nat->Prop}(hS:∀i,S i->hp i=Fu i\/(hp i=none/\∀b,Rel none b))(hp_:∀i∈Cn p,S i)(hc:∀i∈Cn p,∀c,Fu i=some (.st c)->∀q∈c,∀k∈Ba q,S k)(hK:∀v m x l,(∀i∈m++x++l.flatMap Ks.ids,hp i≠none/\S i)->Rel (K v m x l) (K' v m x l)):Rel (NP C P f hp i t p K) (NP C P f Fu i t p K'):=by
 unfold NP;split
 ·split
  ·rename_i id off;have B6:S id:=hp_ id (by simp[Cn,C2,Ba]);rcases hS id B6 with h|⟨h,hb⟩
   ·rw[h];split
    ·rename_i c hc1;refine Bl hn fun _=>AY hn hS (fun q hq k hk=>hc id (by simp[Cn,C2,Ba]) c hc1 q (List.mem_of_mem_drop (List.mem_of_mem_take hq)) k hk) fun cs m x hm=>hK _ _ _ _ fun k hk=>?_;rcases B4.1 hk with hk|hk
     ·exact hm k hk
     ·simp only[J1,List.flatMap_nil,Ks.ids,List.append_nil,M0] at hk;subst hk;exact⟨by rw[h,hc1];simp,B6⟩
    ·exact hn
   ·rw[h];exact hb _
  ·exact hn
 ·cases C.lnd f i
  ·cases C9 P t
   ·exact AY hn hS (fun q hq k hk=>by
     simp at hq;subst hq;exact hp_ k (Qq hk)) fun cs m x hm=>Cf hn fun _ _ _=>Ih hn (hK _ _ _ _ (by simpa using hm))
   ·refine Pi hn fun cs hcs=>AY hn hS (fun q hq k hk=>hp_ k ?_) fun cs m x hm=>hK _ _ _ _ (by simpa using hm);subst hcs;exact List.mem_flatMap.2 ⟨q,hq,hk⟩
  ·refine Fd hn fun e he=>?_;unfold Ar5;split
   ·rename_i id es' off n;have B6:S id:=hp_ id (by simp[Cn,C2,Ba]);rcases hS id B6 with h|⟨h,hb⟩
    ·rw[h];split
     ·rename_i c hc1;refine Bl hn fun _=>hK _ _ _ _ fun k hk=>?_;simp only[UG,J1,List.flatMap_nil,Ks.ids,List.append_nil,M0] at hk;subst hk;exact⟨by rw[h,hc1];simp,B6⟩
     ·exact hn
    ·rw[h];exact hb _
   ·exact I3 hn fun _ _ _=>Bl hn fun _=>hK _ _ _ _ (by simp[Ks.ids])
theorem WU(hn:Rel none none){C:Kr}{f:FuncId}{S:Nat->Prop}(hS:∀i,S i->hp i=Fu i\/(hp i=none/\∀b,Rel none b)):∀{ts:List TypeId}{ps:Ab}{i:Nat}{K:Ab->Cc->Cc->List Ks->Option R}{K':Ab->Cc->Cc->List Ks->Option R'},
  (∀p∈ps,∀i∈Cn p,S i)->(∀p∈ps,∀i∈Cn p,∀c,Fu i=some (.st c)->∀q∈c,∀k∈Ba q,S k) ->
  (∀v m x l,(∀i∈m++x++l.flatMap Ks.ids,hp i≠none/\S i)->Rel (K v m x l) (K' v m x l))->Rel (Ab8 C P f hp i ts ps K) (Ab8 C P f Fu i ts ps K')
 |[],[],_,_,_,_,_,hK=>hK _ _ _ _ (by simp)
 |[],_::_,_,_,_,_,_,_=>hn
 |_::_,[],_,_,_,_,_,_=>hn
 |_::_,p::ps,_,_,_,hp_,hc,hK=>Agn hn hS (hp_ p (by simp)) (hc p (by simp)) fun _ m x l hm=>WU hn hS (fun q hq=>hp_ q (by simp[hq])) (fun q hq=>hc q (by simp[hq])) fun _ ms xs ls XA=>hK _ _ _ _ fun i hi=>by
   simp only[B4,List.flatMap_append] at hi hm XA;rcases hi with ((hi|hi)|(hi|hi))|(hi|hi)
   ·exact hm i (.inl (.inl hi))
   ·exact XA i (.inl (.inl hi))
   ·exact hm i (.inl (.inr hi))
   ·exact XA i (.inl (.inr hi))
   ·exact hm i (.inr hi)
   ·exact XA i (.inr hi)
theorem Ary(hn:Rel none none){t:Nat}{ct:CT}{was p:PV}{K:Nat->PV->List (Nat × Cb)->Option R}{K':Nat->PV->List (Nat × Cb)->Option R'}(hK:∀t c b,(∀q∈b,∃k,q.1=nid N k)->Rel (K t c b) (K' t c b)):Rel (An0 N t ct was p K) (An0 N t ct was p K'):=by
 unfold An0;split
 ·split
  ·exact Ame hn fun _ _=>hK _ _ _ (by intro q hq;simp only[M0] at hq;subst hq;exact⟨t,rfl⟩)
  ·exact I3 hn fun _ _ _=>hK _ _ _ (by simp)
 ·exact W8 hn fun _=>hK _ _ _ (by simp)
theorem ZX(hn:Rel none none):∀{cts:List CT}{ws ps:Ab}{t:Nat}{K:Nat->Ab->List (Nat × Cb)->Option R} {K':Nat->Ab->List (Nat × Cb)->Option R'},(∀t c b,(∀q∈b,∃k,q.1=nid N k)->Rel (K t c b) (K' t c b))->Rel (Aa1 N t cts ws ps K) (Aa1 N t cts ws ps K')
 |[],[],_,_,_,_,hK=>Ih hn (hK _ _ _ (by simp))
 |[],_::_,_,_,_,_,_=>hn
 |_::_,[],_,_,_,_,_=>hn
 |_::_,_::_,_,_,_,_,hK=>Cf hn fun _ _ _=>Ary hn fun _ _ b hb=>ZX hn fun _ _ bs TY=>hK _ _ _ fun q hq=>by
   rcases B4.1 hq with h|h
   ·exact hb q h
   ·exact TY q h
theorem FP(hn:Rel none none){S:Nat->Prop}{dst:Option Nat}:∀{l:List Ks}{ro:List Ab} {t:Nat}{h0 h1:Nat->Option Cb}{K:(Nat->Option Cb)->List (Nat × Cb)->Option R} {K':(Nat->Option Cb)->List (Nat × Cb)->Option R'},
  YM N S dst hp Fu h0 h1->(∀i∈l.flatMap Ks.ids,hp i≠none/\S i/\hp i=Fu i)->(∀h0' h1' b,YM N S dst hp Fu h0' h1'->(∀q∈b,∃k,q.1=nid N k)->Rel (K h0' b) (K' h1' b))->Rel (IC N t l ro h0 K) (IC N t l ro h1 K')
 |[],_,_,_,_,_,_,hT,_,hK=>Ih hn (hK _ _ _ hT (by simp))
 |.var id off cts ws::l,ro,t,h0,h1,K,K',hT,hl,hK=>by
  unfold IC;refine Cf hn fun cs ro _=>ZX hn fun t' cs' bs TY=>?_;have B6:=hl id (by simp[Ks.ids]);rw[<-hT.same id B6.2.2];split
  ·exact FP hn (FI B6.2.1 B6.1 hT) (fun i hi=>hl i (by simp only[J1,B4];exact .inr hi)) fun h0' h1' b hT' hb=>hK _ _ _ hT' fun q hq=>by
    rcases B4.1 hq with h|h
    ·exact TY q h
    ·exact hb q h
  ·exact hn
 |.row id::l,ro,t,h0,h1,K,K',hT,hl,hK=>by
  unfold IC;have B6:=hl id (by simp[Ks.ids]);exact Cf hn fun cs ro _=>FP hn (FI B6.2.1 B6.1 hT) (fun i hi=>hl i (by simp only[J1,B4];exact .inr hi)) hK
 |.none::l,ro,t,h0,h1,K,K',hT,hl,hK=>by
  unfold IC;exact Cf hn fun cs ro _=>FP hn hT (fun i hi=>hl i (by simp only[J1,B4];exact .inr hi)) hK
theorem Ah9(h:∀i,N<=i->hp i=Fu i)(hN:0<N):∀k t,Ahl N hp k t=Ahl N Fu k t
 |0,_=>rfl
 |k+1,t=>by
  unfold Ahl;rw[h (nid N t) (by unfold nid;exact Nat.le_mul_of_pos_right _ (by omega)),Ah9 h hN k (t+1)]
theorem Aar{h0 h1:Nat->Option Cb}:∀{nw:List (Nat × Cb)},(∀q∈nw,h0 q.1=h1 q.1)->C3 h0 nw=C3 h1 nw
 |[],_=>rfl
 |(i,b)::nw,h=>by
  unfold C3;rw[h (i,b) (by simp),Aar (fun q hq=>h q (by simp[hq]))]
theorem TO{S:Nat->Prop}{dst:Option Nat}{h0 h1:Nat->Option Cb}(hT:YM N S dst hp Fu h0 h1):∀{nw:List (Nat × Cb)} {g0 g1:Nat->Option Cb},YM N S dst hp Fu g0 g1->(∀q∈nw,N<=q.1\/dst=some q.1)->(∀q∈nw,hp q.1=none)->YM N S dst hp Fu (Bf g0 nw) (Bf g1 nw)
 |[],_,_,h,_,_=>h
 |(i,b)::nw,g0,g1,h,hi,hz=>by
  refine TO hT (nw:=nw) ⟨fun k hk=>?_,fun k hN hd hk=>?_,fun k hk=>?_,fun k hn hk=>?_⟩ (fun q hq=>hi q (by simp[hq])) (fun q hq=>hz q (by simp[hq]))
  ·by_cases e:k=i
   ·subst e;rw[A8];simp
   ·rw[Ax _ _ e];exact h.keep k hk
  ·have e:k≠i:=by
    rintro rfl
    rcases hi (k,b) (by simp) with q|q
    ·simp only at q;omega
    ·exact hd q
   rw[Ax _ _ e,Ax _ _ e];exact h.off k hN hd hk
  ·by_cases e:k=i
   ·subst e;rw[A8,A8]
   ·rw[Ax _ _ e,Ax _ _ e];exact h.same k hk
  ·rw[Ax _ _ (by rintro rfl;exact hk (hz (k,b) (by simp)))];exact h.far k hn hk
theorem A4l{S:Nat->Prop}{dst:Option Nat}{m x:Cc}(hm:∀i∈m++x,hp i≠none/\S i):YM N S dst hp Fu (DR (Al hp m) x) (DR (Al Fu m) x):=by
 refine⟨fun i hi h=>?_,fun i hN hd hi=>?_,fun i hi=>?_,fun i hn hi=>?_⟩
 ·rw[Js] at h;have h1:Al hp m i≠none:=fun e=>hi (Gd.1 e);split at h
  ·cases hq:Al hp m i with
   |none=>exact h1 hq
   |some b=>rw[hq] at h;cases h
  ·exact h1 h
 ·have e:i ∉ m/\i ∉ x:=by
   refine⟨fun h=>?_,fun h=>?_⟩<;>(rcases hi with hi|hi)
   ·exact hi (hm i (by simp[h])).2
   ·exact (hm i (by simp[h])).1 hi
   ·exact hi (hm i (by simp[h])).2
   ·exact (hm i (by simp[h])).1 hi
  rw[Js,Js,A4 e.2,A4 e.2,C5,C5,A4 e.1,A4 e.1];exact⟨rfl,rfl⟩
 ·rw[Js,Js,C5,C5,hi]
 ·rw[Js,C5,A4 (fun h=>hn (hm i (by simp[h])).2),A4 (fun h=>hn (hm i (by simp[h])).2)]
theorem Afh(hn:Rel none none){C:Kr}{call:Bq}{f:FuncId}{c:Call}{K:St->Option R}{K':St->Option R'}{S:Nat->Prop}(Qa:c.args.toList.map (Dd tm)=c.args.toList.map (Dd tm'))(hS:∀i,S i->hp i=Fu i\/(hp i=none/\∀b,Rel none b))(hp_:∀p∈c.args.toList.map (Dd tm'),∀i∈Cn p,S i)(hc:∀p∈c.args.toList.map (Dd tm'),∀i∈Cn p,∀c,Fu i=some (.st c)->∀q∈c,∀k∈Ba q,S k)(hdd:∀d,o.dst=some d->hp d=Fu d)(hNN:∀i,N<=i->hp i=Fu i)(hK:∀v Dg Io,YM N S o.dst hp Fu Dg Io->Rel (K ⟨Co tm o.dst v,Dg⟩) (K' ⟨Co tm' o.dst v,Io⟩)):Rel (PG C P N call ⟨tm,hp⟩ o f c K) (PG C P N call ⟨tm',Fu⟩ o f c K'):=by
 unfold PG;simp only[Qa];refine WU hn hS hp_ hc fun vs m x l hm=>Bl hn fun hb=>Aca hn fun rv ro=>NY hn fun ws bs TY=>Bl hn fun _=>?_;simp only[G6] at hb;have hN:0<N:=Nat.lt_of_succ_le (Ya hb.1.2);rw[Ah9 hNN hN];by_cases Agc:∃i∈l.flatMap Ks.ids,hp i≠Fu i
 ·obtain⟨i,hi,Gu⟩:=Agc;obtain⟨h1,h2⟩:=hm i (B4.2 (.inr hi));rcases hS i h2 with h|⟨h,_⟩
  ·exact absurd h Gu
  ·exact absurd h h1
 have hl:∀i∈l.flatMap Ks.ids,hp i≠none/\S i/\hp i=Fu i:=fun i hi=>⟨(hm i (B4.2 (.inr hi))).1,(hm i (B4.2 (.inr hi))).2,Classical.byContradiction fun h=>Agc ⟨i,hi,h⟩⟩;have hT0:YM N S o.dst hp Fu (DR (Al hp m) x) (DR (Al Fu m) x):=A4l fun i hi=>hm i (B4.2 (.inl hi));refine FP hn hT0 hl fun h0 h1 bs' hT Ba4=>?_
 have Apz:∀q∈bs++bs',N<=q.1\/o.dst=some q.1:=by
  intro q hq;rcases B4.1 hq with hq|hq
  ·obtain⟨j,hj⟩:=TY q hq;cases hd:o.dst with
   |none=>
    rw[hd] at hj;left;rw[hj];exact Nat.le_add_right _ _
   |some d=>
    rw[hd] at hj;change q.1=d+N*j at hj;cases j with
    |zero=>right;rw[hj];simp
    |succ j=>left;rw[hj,Nat.mul_add];omega
  ·obtain⟨k,hk⟩:=Ba4 q hq;left;rw[hk];unfold nid;exact Nat.le_mul_of_pos_right _ (by omega)
 have BX:∀q∈bs++bs',h0 q.1=h1 q.1:=by
  intro q hq;refine hT.same q.1 ?_;rcases Apz q hq with h|h
  ·exact hNN _ h
  ·exact hdd _ h
 rw[Aar BX]
 exact Bl hn fun hb=>hK _ _ _ (TO hT hT Apz fun q hq=>by
  cases hz:hp q.1 with
  |none=>rfl
  |some c=>exact absurd ((BX q hq).trans ((Cl hb).1 q.1 q.2 hq)) (hT.keep q.1 (by rw[hz];simp)))
theorem Qz(hn:Rel none none){C:Kr}{call:Bq}{K:St->Option R}{K':St->Option R'}(Qa:∀x∈o.op.operands.toList,Dd tm x=Dd tm' x)(hS:∀i,HX o tm' Fu i->hp i=Fu i\/(hp i=none/\∀b,Rel none b))(hdd:∀d,o.dst=some d->hp d=Fu d)(hNN:∀i,N<=i->hp i=Fu i)(hK:∀v Dg Io,YM N (HX o tm' Fu) o.dst hp Fu Dg Io->Rel (K ⟨Co tm o.dst v,Dg⟩) (K' ⟨Co tm' o.dst v,Io⟩)):Rel (GM C P N call ⟨tm,hp⟩ o K) (GM C P N call ⟨tm',Fu⟩ o K'):=by
 unfold GM;have hl:∀x∈o.op.operands.toList,∀i∈Cn (Dd tm' x),HX o tm' Fu i:=fun x hx i hi=>.inl ⟨x,hx,hi⟩;have SQ:Vd o.op=false->∀x∈o.op.operands.toList,∀i∈Cn (Dd tm' x),∀c,Fu i=some (.st c)->∀q∈c,∀k∈Ba q,HX o tm' Fu k:=fun ha x hx i hi c hc q hq k hk=>.inr ⟨ha,i,c,⟨x,hx,hi⟩,hc,q,hq,hk⟩;generalize hLd:HX o tm' Fu=S at *
 generalize hop:o.op=op at *
 split
 ·rename_i t x y;simp only[Qa x (by simp[Op.operands]),Qa y (by simp[Op.operands])];refine Bl hn fun hd=>Ahv (N:=N) hn hS (fun i hi=>hl x (by simp[Op.operands]) i (Qq hi)) (fun i hi=>hl y (by simp[Op.operands]) i (Jb hi)) fun Dg Io hh=>?_;have hd':=Option.isNone_iff_eq_none.1 hd;have:=hK .top Dg Io (by rw[hd'];exact hh)
  rw[hd'] at this;exact this
 ·rename_i c
  have Qw:∀x∈c.args.toList,x∈(Op.call c).operands.toList:=by
   intro x hx;simp only[Op.operands,Call.operands,Array.toList_append,B4];exact .inr hx
  split
  ·rename_i hc;refine Fd hn fun d hd=>Cf hn fun x _ hx=>Cf hn fun y _ hy=>Ih hn (Cf hn fun _ _ _=>Cf hn fun _ _ _=>?_);subst hy;have hxm:=Qw x (by rw[hx];simp)
   have hym:=Qw y (by rw[hx];simp)
   simp only[Qa x hxm,Qa y hym];refine MT hn hS (hdd d hd) (fun i hi=>hl x hxm i (Jb hi)) (fun i hi=>hl y hym i (Jb hi)) fun v Dg Io hh=>?_;have:=hK v Dg Io (by rw[hd];exact hh N)
   rw[hd] at this;exact this
  ·rename_i hc;refine Cf hn fun x _ hx=>Cf hn fun y _ hy=>Ih hn (Cf hn fun _ _ _=>Cf hn fun _ _ _=>?_);subst hy;have hxm:=Qw x (by rw[hx];simp)
   have hym:=Qw y (by rw[hx];simp)
   simp only[Qa x hxm,Qa y hym];exact Ai2 hn hS (fun i hi=>hl x hxm i (Jb hi)) (fun i hi=>hl y hym i (Jb hi)) hK
  ·rename_i f hcf;refine Afh hn (List.map_congr_left fun x hx=>Qa x (Qw x hx)) hS (fun p hp i hi=>?_) (fun p hp i hi=>?_) hdd hNN hK
   ·obtain⟨x,hx,rfl⟩:=List.mem_map.1 hp;exact hl x (Qw x hx) i hi
   ·obtain⟨x,hx,rfl⟩:=List.mem_map.1 hp;exact SQ (by simp only[Vd,hcf]) x (Qw x hx) i hi
  ·exact hn
 ·exact hn
theorem XU(hn:Rel none none){C:Kr}{call:Bq}{K:St->Option R}{K':St->Option R'}(Qa:∀x∈o.op.operands.toList,Dd tm x=Dd tm' x)(hK:∀v Dg,(∀i,hp i≠none->Dg i≠none)->Rel (K ⟨Co tm o.dst v,Dg⟩) (K' ⟨Co tm' o.dst v,Dg⟩)):Rel (GM C P N call ⟨tm,hp⟩ o K) (GM C P N call ⟨tm',hp⟩ o K'):=
 Qz hn Qa (fun _ _=>.inl rfl) (fun _ _=>rfl) (fun _ _=>rfl) fun v Dg Io hT=>by
  have:Dg=Io:=funext fun i=>hT.same i rfl;subst this;exact hK v Dg hT.keep
end
section
variable {R:Type}{r:R}{C:Kr}{P:Program}{N:Nat}{call:Bq}{ops:Array Oper}{o x:Oper}{s:St}{K:St->Option R}
theorem Ad7{tm:Nat->PV}{hp Dg:Nat->Option Cb}{tm':Nat->PV}{q:IP}(hm:Mg P o.op=false)(ht:∀t∈looks ops o,tm t=tm' t)(h:gE C P N call ops o ⟨tm,hp⟩=some q):gE C P N call ops o ⟨tm',Dg⟩=some q:=
 KO (s:=⟨tm,hp⟩) (s':=⟨tm',Dg⟩) ht (fun h=>by rw[hm] at h;cases h) h
theorem OE{tm:Nat->PV}{hp:Nat->Option Cb}(hm:Mg P o.op=false)(h:Fg C P N call ops o ⟨tm,hp⟩ K=some r):
  ∃v nw,gE C P N call ops o ⟨tm,hp⟩=some (v,[],nw)/\J3 N o.dst=true/\C3 hp nw=true/\(∀p∈nw,o.dst=some p.1)/\K ⟨Co tm o.dst v,Bf hp nw⟩=some r:=by
 have hM:AW C P o.op=false:=by
  cases hh:AW C P o.op
  ·rfl
  ·rw[MU hh] at hm;cases hm
 rw[Q8 (by simp[Kw,hM])] at h;cases e:gE C P N call ops o ⟨tm,hp⟩ with
 |none=>rw[e] at h;cases h
 |some q=>
  obtain⟨v,fz,nw⟩:=q;obtain⟨h1,h2⟩:=(CW e).1 hm;simp only at h1 h2;subst h1;rw[e] at h;obtain⟨hb,h⟩:=A5 h;simp only[G6] at hb;exact⟨v,nw,rfl,hb.1,hb.2,h2,h⟩
theorem UT{tm:Nat->PV}{hp:Nat->Option Cb}{v:PV}{nw:List (Nat × Cb)}(hm:Mg P o.op=false)(e:gE C P N call ops o ⟨tm,hp⟩=some (v,[],nw))(hd:J3 N o.dst=true)(ha:C3 hp nw=true)(h:K ⟨Co tm o.dst v,Bf hp nw⟩=some r):Fg C P N call ops o ⟨tm,hp⟩ K=some r:=by
 have hM:AW C P o.op=false:=by
  cases hh:AW C P o.op
  ·rfl
  ·rw[MU hh] at hm;cases hm
 rw[Q8 (by simp[Kw,hM]),e];show As _ _=_;have ha':C3 hp nw=true:=ha;rw[hd,ha'];exact h
theorem T9{hp:Nat->Option Cb}{nw:List (Nat × Cb)}(ha:C3 hp nw=true){i:Nat}(hi:∀p∈nw,p.1≠i):Bf hp nw i=hp i:=
 (G3 (Cl ha).2).2 i fun b hb=>hi _ hb rfl
theorem Atw{hp Dg:Nat->Option Cb}{nw:List (Nat × Cb)}(ha:C3 hp nw=true){g:Nat->Option Cb}(h1:∀i,(∀p∈nw,p.1≠i)->g i=Dg i)(h2:∀i,(∃p∈nw,p.1=i)->g i=Bf hp nw i)(ha':C3 Dg nw=true):g=Bf Dg nw:=by
 funext i
 by_cases h:∃p∈nw,p.1=i
 ·rw[h2 i h];obtain⟨⟨j,b⟩,hp,rfl⟩:=h;rw[(G3 (Cl ha).2).1 j b hp,(G3 (Cl ha').2).1 j b hp]
 ·have h':∀p∈nw,p.1≠i:=fun p hp e=>h ⟨p,hp,e⟩;rw[h1 i h',T9 ha' h']
theorem Ay7(ap:KQ C P ops x o)(hx:Kw C P ops x s.tm=true)(h:Fg C P N call ops x s (fun s1=>Fg C P N call ops o s1 K)=some r):Fg C P N call ops o s (fun s1=>Fg C P N call ops x s1 K)=some r:=by
 have hm:Mg P o.op=false:=ap.mx (by unfold Kw at hx;simp only[G6] at hx;exact hx.1)
 rw[Nx hx] at h;obtain⟨tm,hp⟩:=s;have look:∀v,∀t∈looks ops o,Co tm x.dst v t=tm t:=fun v=>Ht ap.xo
 have h1:=Qz (P:=P) (N:=N) (o:=x) (tm:=tm) (tm':=tm) (hp:=hp) (Fu:=hp) (K:=fun s1=>Fg C P N call ops o s1 K) (K':=fun _=>none)
  (Rel:=fun (a:Option R)(_:Option R)=>a=some r->∃v nw,gE C P N call ops o ⟨tm,hp⟩=some (v,[],nw)/\J3 N o.dst=true/\(∀p∈nw,o.dst=some p.1)/\C3 hp nw=true) (fun h=>by cases h) (fun _ _=>rfl) (fun _ _=>.inl rfl) (fun _ _=>rfl) (fun _ _=>rfl) (fun v Dg _ hT h=>by
   obtain⟨u,nw,hu,hd,ha,hn,_⟩:=OE hm h;refine⟨u,nw,Ad7 hm (look v) hu,hd,hn,Y4 ha fun i b hi=>?_⟩;cases hh:hp i with
   |none=>rfl
   |some c=>exact absurd ((Cl ha).1 i b hi) (hT.keep i (by rw[hh];simp))) h
 obtain⟨v,nw,hv,hd,hn,ha⟩:=h1;refine UT hm hv hd ha ?_;have t2:∀t∈looks ops x,tm t=Co tm o.dst v t:=fun t ht=>(Ht ap.ox t ht).symm;rw[Nx (by rw[<-Mc t2];exact hx)]
 refine Qz (P:=P) (N:=N) (o:=x) (tm:=tm) (tm':=Co tm o.dst v) (hp:=hp) (Fu:=Bf hp nw) (Rel:=fun (a b:Option R)=>a=some r->b=some r) (fun h=>by cases h) (Iw t2) (fun i _=>?_) (fun d hxd=>?_) (fun i hi=>(T9 ha fun p hp e=>by have:=X5 hd (hn p hp);omega).symm) (fun u Dg Io hT h=>?_) h
 ·by_cases hi:∃p∈nw,p.1=i
  ·obtain⟨⟨j,b⟩,Fu,rfl⟩:=hi;exact .inr ⟨(Cl ha).1 j b Fu,fun _ h=>by cases h⟩
  ·exact .inl (T9 ha fun p hp e=>hi ⟨p,hp,e⟩).symm
 ·refine (T9 ha fun p hp e=>?_).symm;have:=hn p hp;rw[e] at this;exact ap.ne d hxd this
 ·obtain⟨v',nw',Wv,_,ha',_,h'⟩:=OE hm h;have he:=Ad7 (Dg:=hp) hm (look u) Wv;rw[hv] at he;simp only[Option.some.injEq,Prod.mk.injEq,true_and] at he;obtain⟨rfl,rfl⟩:=he
  have hh:Io=Bf Dg nw:=by
   refine Atw ha (fun i hi=>?_) (fun i hi=>?_) ha'
   ·exact (hT.same i (T9 ha hi).symm).symm
   ·obtain⟨⟨j,b⟩,Fu,rfl⟩:=hi;refine (hT.off j (X5 hd (hn _ Fu)) (fun e=>ap.ne j e (hn _ Fu)) (.inr ((Cl ha).1 j b Fu))).2
  rw[hh,<-Qy ap.ne];exact h'
theorem Awz(hw:Has C P o s)(ap:KQ C P ops x o)(ho:Kw C P ops o s.tm=true)(h:Fg C P N call ops x s (fun s1=>Fg C P N call ops o s1 K)=some r):Fg C P N call ops o s (fun s1=>Fg C P N call ops x s1 K)=some r:=by
 have hm:Mg P x.op=false:=ap.mo (by unfold Kw at ho;simp only[G6] at ho;exact ho.1)
 obtain⟨tm,hp⟩:=s;obtain⟨v,nw,hv,hd,ha,hn,h1⟩:=OE hm h;have t1:∀t∈looks ops o,Co tm x.dst v t=tm t:=Ht ap.xo;change Fg C P N call ops o ⟨Co tm x.dst v,Bf hp nw⟩ K=some r at h1;rw[Nx (by rw[Mc t1];exact ho)] at h1
 rw[Nx ho];have hMo:AW C P o.op=true:=by unfold Kw at ho;simp only[G6] at ho;exact ho.1
 have A1e:∀i,HX o tm hp i->hp i≠none:=by
  rintro i (⟨y,hy,hi⟩|⟨DG,id,c,⟨y,hy,hi⟩,hc,p,Fu,hk⟩)
  ·exact hw.1 y hy i hi
  ·exact hw.2 hMo DG y hy id hi c hc p Fu i hk
 refine Qz (P:=P) (N:=N) (o:=o) (tm:=Co tm x.dst v) (tm':=tm) (hp:=Bf hp nw) (Fu:=hp) (Rel:=fun (a b:Option R)=>a=some r->b=some r) (fun h=>by cases h) (Iw t1) (fun i hi=>?_) (fun d hod=>?_) (fun i hi=>T9 ha fun p hp e=>by have:=X5 hd (hn p hp);omega) (fun u Dg Io hT h=>?_) h1
 ·refine .inl (T9 ha fun p Dg e=>A1e i hi ?_);rw[<-e];exact (Cl ha).1 p.1 p.2 Dg
 ·refine T9 ha fun p Dg e=>?_;have:=hn p Dg;rw[e] at this;exact ap.ne d this hod
 ·have Xz:∀p∈nw,Dg p.1=Bf hp nw p.1/\Io p.1=none:=by
   intro p hp2;have hno:=(Cl ha).1 p.1 p.2 hp2;have h3:=hT.off p.1 (X5 hd (hn p hp2)) (fun e=>ap.ne p.1 (hn p hp2) e) (.inl fun hL=>A1e _ hL hno);exact⟨h3.1,h3.2.trans hno⟩
  have ha':C3 Io nw=true:=Y4 ha fun i b hi=>(Xz (i,b) hi).2;refine UT hm (Ad7 hm (fun t ht=>(Ht ap.ox t ht).symm) hv) hd ha' ?_
  have hh:Dg=Bf Io nw:=by
   refine Atw ha (fun i hi=>?_) (fun i hi=>?_) ha'
   ·exact hT.same i (T9 ha hi)
   ·obtain⟨p,hp2,rfl⟩:=hi;exact (Xz p hp2).1
  rw[<-Qy ap.ne,<-hh];exact h
theorem A8f(hw:Has C P o s)(ap:KQ C P ops x o)(h:Fg C P N call ops x s (fun s1=>Fg C P N call ops o s1 K)=some r):Fg C P N call ops o s (fun s1=>Fg C P N call ops x s1 K)=some r:=by
 cases hx:Kw C P ops x s.tm
 ·cases ho:Kw C P ops o s.tm
  ·exact Al3 hw ap.xo ap.ne ap.ox hx ho h
  ·exact Awz hw ap ho h
 ·exact Ay7 ap hx h
theorem Qx(h:EH P o.op=true):AW C P o.op=false:=by
 unfold EH at h;split at h
 ·rename_i ho;rw[ho];rfl
 ·rename_i ho;rw[ho];rfl
 ·cases h
def ZG(P:Program)(ops:Array Oper)(o:Oper)(tm:Nat->PV):Prop:=EH P o.op=true\/Jf ops o tm=some false
theorem IY{tm tm':Nat->PV}(h:∀t∈looks ops o,tm t=tm' t)(hl:ZG P ops o tm):ZG P ops o tm':=by
 rcases hl with hl|hl
 ·exact .inl hl
 ·exact .inr (by rw[<-Ri h];exact hl)
theorem Aa7{tm:Nat->PV}(hl:ZG P ops o tm):Kw C P ops o tm=false:=by
 rcases hl with hl|hl
 ·simp[Kw,Qx hl]
 ·simp[Kw,hl]
theorem Anb{q:IP}(hl:ZG P ops o s.tm)(h:gE C P N call ops o s=some q):q.2.1=[]/\q.2.2=[]:=by
 unfold gE at h;split at h
 ·cases h
 ·rename_i hv
  have hl:EH P o.op=true:=by
   rcases hl with hl|hl
   ·exact hl
   ·rw[hv] at hl;cases hl
  rw[Qx hl] at h;have h:Ap4 C P N call o s=some q:=h;unfold EH at hl;split at hl
  ·rename_i t a ho;unfold Ap4 UZ at h;rw[ho] at h
   have:=ZW (P:=P) (f:=rd s.hp) (f':=rd s.hp) (g:=P7 s.hp) (g':=P7 s.hp) (t:=t) (x:=Dd s.tm a) (Rel:=fun (a b:Option IP)=>∀q,a=some q->q.2.1=[]/\q.2.2=[])
    (K:=fun v=>some (v,[],[])) (K':=fun v=>some (v,[],[])) (fun _ h=>by cases h) (fun _ _=>.inl ⟨rfl,rfl⟩) (fun v q hq=>by cases hq;exact⟨rfl,rfl⟩)
   exact this q h
  ·rename_i src dst y ho;unfold Ap4 UZ at h;rw[ho] at h;simp only at h;unfold TL at h;split at hl
   ·rename_i hd;rw[hd] at h;simp only at h;split at h
    ·obtain⟨_,_,h⟩:=Fq h;obtain⟨_,_,h⟩:=Eh h;cases h;exact⟨rfl,rfl⟩
    ·split at h
     ·exact LW (f:=P7 s.hp) (f':=P7 s.hp) (K':=fun _ _=>(none:Option IP)) (Rel:=fun (a _:Option IP)=>a=some q->q.2.1=[]/\q.2.2=[]) (fun h=>by cases h) (fun _ _=>.inl rfl) (fun n c h=>by
       obtain⟨_,h⟩:=A5 h;obtain⟨_,_,h⟩:=Eh h;obtain⟨_,_,h⟩:=Eh h;cases h;exact⟨rfl,rfl⟩) h
     ·cases h
    ·cases h
   ·cases hl
  ·cases hl
 ·cases h;exact⟨rfl,rfl⟩
theorem Aod{tm tm':Nat->PV}{hp:Nat->Option Cb}(h:∀t∈looks ops o,tm t=tm' t){i:Nat}(hi:HX o tm hp i):HX o tm' hp i:=by
 have he:=Iw (ops:=ops) (o:=o) h;rcases hi with⟨y,hy,hi⟩|⟨DG,id,c,⟨y,hy,hi⟩,hc,q⟩
 ·exact .inl ⟨y,hy,by rw[<-he y hy];exact hi⟩
 ·exact .inr ⟨DG,id,c,⟨y,hy,by rw[<-he y hy];exact hi⟩,hc,q⟩
theorem A1c{hp Dg:Nat->Option Cb}{i:Nat}(h:Dg i=hp i):rd Dg i=rd hp i/\P7 Dg i=P7 hp i:=by unfold rd P7;rw[h];exact⟨rfl,rfl⟩
theorem PK{tm:Nat->PV}{hp:Nat->Option Cb}(hl:ZG P ops o tm)(h:Fg C P N call ops o ⟨tm,hp⟩ K=some r):
  ∃v,gE C P N call ops o ⟨tm,hp⟩=some (v,[],[])/\J3 N o.dst=true/\K ⟨Co tm o.dst v,hp⟩=some r:=by
 rw[Q8 (Aa7 hl)] at h;cases e:gE C P N call ops o ⟨tm,hp⟩ with
 |none=>rw[e] at h;cases h
 |some q=>
  obtain⟨v,fz,nw⟩:=q;obtain⟨h1,h2⟩:=Anb hl e;simp only at h1 h2;subst h1;subst h2;rw[e] at h;obtain⟨hb,h⟩:=A5 h;simp only[G6] at hb;exact⟨v,rfl,hb.1,h⟩
theorem UE{tm:Nat->PV}{hp:Nat->Option Cb}{v:PV}(hl:ZG P ops o tm)(e:gE C P N call ops o ⟨tm,hp⟩=some (v,[],[]))(hd:J3 N o.dst=true)(h:K ⟨Co tm o.dst v,hp⟩=some r):Fg C P N call ops o ⟨tm,hp⟩ K=some r:=by rw[Q8 (Aa7 hl),e];show As _ _=_;have ha:C3 hp []=true:=rfl;simp only[hd,ha,Bool.and_self];exact h
theorem Azu(hw:Has C P o s)(xo:∀d,x.dst=some d->d ∉ looks ops o)(ne:∀d,x.dst=some d->o.dst≠some d)(ox:∀d,o.dst=some d->d ∉ looks ops x)(hl:ZG P ops o s.tm)(Agm:∀y∈o.op.operands.toList,∀i∈Cn (Dd s.tm y),¬HX x s.tm s.hp i)(hx:Kw C P ops x s.tm=true)(h:Fg C P N call ops x s (fun s1=>Fg C P N call ops o s1 K)=some r):Fg C P N call ops o s (fun s1=>Fg C P N call ops x s1 K)=some r:=by
 rw[Nx hx] at h;obtain⟨tm,hp⟩:=s;have look:∀v,∀t∈looks ops o,Co tm x.dst v t=tm t:=fun v=>Ht xo
 have back:∀{u:PV} {Dg:Nat->Option Cb} {q:IP},(∀y∈o.op.operands.toList,∀i∈Cn (Dd tm y),Dg i=hp i)->gE C P N call ops o ⟨Co tm x.dst u,Dg⟩=some q->gE C P N call ops o ⟨tm,hp⟩=some q:=
  fun hh e=>KO (s:=⟨Co tm x.dst _,_⟩) (s':=⟨tm,hp⟩) (look _) (fun _ y hy i hi=>.inl (A1c (hh y hy i hi))) e
 have h1:=Qz (P:=P) (N:=N) (o:=x) (tm:=tm) (tm':=tm) (hp:=hp) (Fu:=hp) (K:=fun s1=>Fg C P N call ops o s1 K) (K':=fun _=>none)
  (Rel:=fun (a:Option R)(_:Option R)=>a=some r->∃v,gE C P N call ops o ⟨tm,hp⟩=some (v,[],[])/\J3 N o.dst=true) (fun h=>by cases h) (fun _ _=>rfl) (fun _ _=>.inl rfl) (fun _ _=>rfl) (fun _ _=>rfl) (fun v Dg _ hT h=>by
   obtain⟨u,hu,hd,_⟩:=PK (IY (fun t ht=>(look v t ht).symm) hl) h;exact⟨u,back (fun y hy i hi=>hT.far i (Agm y hy i hi) (hw.1 y hy i hi)) hu,hd⟩) h
 obtain⟨v,hv,hd⟩:=h1;refine UE hl hv hd ?_;have t2:∀t∈looks ops x,tm t=Co tm o.dst v t:=fun t ht=>(Ht ox t ht).symm;rw[Nx (by rw[<-Mc t2];exact hx)]
 refine Qz (P:=P) (N:=N) (o:=x) (tm:=tm) (tm':=Co tm o.dst v) (hp:=hp) (Fu:=hp) (Rel:=fun (a b:Option R)=>a=some r->b=some r) (fun h=>by cases h) (Iw t2) (fun _ _=>.inl rfl) (fun _ _=>rfl) (fun _ _=>rfl) (fun u Dg Io hT h=>?_) h;have e1:Dg=Io:=funext fun i=>hT.same i rfl;subst e1;obtain⟨v',Wv,_,h'⟩:=PK (IY (fun t ht=>(look u t ht).symm) hl) h;have he:=back (fun y hy i hi=>hT.far i (fun hR=>Agm y hy i hi (Aod (fun t ht=>(t2 t ht).symm) hR)) (hw.1 y hy i hi)) Wv;rw[hv] at he;simp only[Option.some.injEq,Prod.mk.injEq,and_true] at he;subst he;rw[<-Qy ne];exact h'
theorem Awv(xo:∀d,x.dst=some d->d ∉ looks ops o)(ne:∀d,x.dst=some d->o.dst≠some d)(ox:∀d,o.dst=some d->d ∉ looks ops x)(hl:ZG P ops x s.tm)(Agm:∀y∈x.op.operands.toList,∀i∈Cn (Dd s.tm y),¬HX o s.tm s.hp i)(ho:Kw C P ops o s.tm=true)(h:Fg C P N call ops x s (fun s1=>Fg C P N call ops o s1 K)=some r):Fg C P N call ops o s (fun s1=>Fg C P N call ops x s1 K)=some r:=by
 obtain⟨tm,hp⟩:=s;obtain⟨v,hv,hd,h1⟩:=PK hl h;have t1:∀t∈looks ops o,Co tm x.dst v t=tm t:=Ht xo;rw[Nx (by rw[Mc t1];exact ho)] at h1
 rw[Nx ho];refine Qz (P:=P) (N:=N) (o:=o) (tm:=Co tm x.dst v) (tm':=tm) (hp:=hp) (Fu:=hp) (Rel:=fun (a b:Option R)=>a=some r->b=some r) (fun h=>by cases h) (Iw t1) (fun _ _=>.inl rfl) (fun _ _=>rfl) (fun _ _=>rfl) (fun u Dg Io hT h=>?_) h1;have e1:Dg=Io:=funext fun i=>hT.same i rfl;subst e1;have t2:∀t∈looks ops x,tm t=Co tm o.dst u t:=fun t ht=>(Ht ox t ht).symm;refine UE (IY t2 hl) (KO (s:=⟨tm,hp⟩) (s':=⟨Co tm o.dst u,Dg⟩) t2 (fun _ y hy i hi=>?_) hv) hd ?_
 ·have hi:i∈Cn (Dd tm y):=by rw[Iw t2 y hy];exact hi
  by_cases hn:hp i=none
  ·exact .inr ⟨Amw hn,Rn hn⟩
  ·obtain⟨h3,h4⟩:=A1c (hT.far i (Agm y hy i hi) hn);exact .inl ⟨h3.symm,h4.symm⟩
 ·rw[<-Qy ne];exact h
def Acb(P:Program)(x:Oper)(s s1:St):Prop:=(∀t,x.dst≠some t->s1.tm t=s.tm t)/\(∀i,s.hp i≠none->s1.hp i≠none)/\(Mg P x.op=false->∀i,s.hp i≠none->s1.hp i=s.hp i)
theorem Wz{tm:Nat->PV}{d:Option Tmp}{v:PV}{t:Nat}(h:d≠some t):Co tm d v t=tm t:=by
 cases d with
 |none=>rfl
 |some d=>exact Ax _ _ (by rintro rfl;exact h rfl)
theorem UA{K':St->Option R}(h:Fg C P N call ops x s K=some r)(hK:∀s1,Acb P x s s1->K s1=some r->K' s1=some r):Fg C P N call ops x s K'=some r:=by
 cases hx:Kw C P ops x s.tm
 ·rw[Q8 hx] at h ⊢;cases ex:gE C P N call ops x s with
  |none=>rw[ex] at h;cases h
  |some q=>
   rw[ex] at h;obtain⟨hb,h1⟩:=A5 h;simp only[G6] at hb;show As _ _=_;rw[hb.1,hb.2];refine hK _ ⟨fun t ht=>Wz ht,fun i hi=>Vn hb.2 hi,fun hm i hi=>?_⟩ h1;show Bf (Al s.hp q.2.1) q.2.2 i=s.hp i;rw[Ju hb.2 hi,((CW ex).1 hm).1];simp
 ·rw[Nx hx] at h ⊢
  exact XU (P:=P) (N:=N) (o:=x) (tm:=s.tm) (tm':=s.tm) (hp:=s.hp) (Rel:=fun (a b:Option R)=>a=some r->b=some r) (fun h=>by cases h) (fun _ _=>rfl) (fun v Dg hh h=>hK _ ⟨fun t ht=>Wz ht,hh,fun hm=>by
   have hM:AW C P x.op=true:=by unfold Kw at hx;simp only[G6] at hx;exact hx.1
   rw[MU hM] at hm;cases hm⟩ h) h
theorem Has.keeps{s1:St}(h:Has C P o s)(ap:KQ C P ops x o)(hk:Acb P x s s1):Has C P o s1:=by
 have hop:∀y∈o.op.operands.toList,Dd s1.tm y=Dd s.tm y:=fun y hy=>Iw (ops:=ops) (o:=o) (fun t ht=>hk.1 t fun hd=>ap.xo t hd ht) y hy;refine⟨fun y hy i hi=>?_,fun hM hA y hy i hi c hc p hp k hkk=>?_⟩
 ·rw[hop y hy] at hi;exact hk.2.1 i (h.1 y hy i hi)
 ·rw[hop y hy] at hi;have hi0:=h.1 y hy i hi;rw[hk.2.2 (ap.mo hM) i hi0] at hc;exact hk.2.1 k (h.2 hM hA y hy i hi c hc p hp k hkk)
theorem XQ:∀(l:List Oper){s:St}{K:St->Option R},Has C P o s->(∀x∈l,KQ C P ops x o)->Vi C P N call ops l s (fun s1=>Fg C P N call ops o s1 K)=some r->Fg C P N call ops o s (fun s1=>Vi C P N call ops l s1 K)=some r
 |[],_,_,_,_,h=>h
 |x::l,s,K,hw,ap,h=>by
  refine A8f hw (ap x (by simp)) ?_;refine UA (K:=fun s1=>Vi C P N call ops l s1 (fun s2=>Fg C P N call ops o s2 K)) h fun s1 hk h1=>?_;exact XQ l (hw.keeps (ap x (by simp)) hk) (fun y hy=>ap y (Sx _ hy)) h1
theorem EL:∀(l l':List Oper){s:St}{K:St->Option R},Vi C P N call ops (l++l') s K=Vi C P N call ops l s (fun s1=>Vi C P N call ops l' s1 K)
 |[],_,_,_=>rfl
 |x::l,l',s,K=>by
  show Fg C P N call ops x s (fun s1=>Vi C P N call ops (l++l') s1 K)=Fg C P N call ops x s (fun s1=>Vi C P N call ops l s1 _)
  congr 1
  funext s1
  exact EL l l'
theorem Ap6{l l':List Oper}(hw:Has C P o s)(ap:∀x∈l,KQ C P ops x o)(h:Vi C P N call ops (l++o::l') s K=some r):Fg C P N call ops o s (fun s1=>Vi C P N call ops (l++l') s1 K)=some r:=by rw[EL] at h;have:=XQ l hw ap h;refine UA this fun s1 _ h1=>?_;rw[EL];exact h1
end
open Go.RowKit
section
variable {R:Type}{r:R}{P:Program}{N:Nat}{w0:World}{X0:Gt}{Y:Nat->Prop}{β β':Bt}{s:St}{a:Act}{w w':World}{o:Oper}{ops:Array Oper}{C:Kr}{call:Bq}{K:St->Option R}
theorem AP(h:Cj N w0 X0 Y β s a w){j d:Nat}(hd:(ops[j]?).bind (·.dst)=some d){v:Value}(ht:s.tm d=.sc v):yielded ops a.tmps j=match v with | .bool b=>some b|_=>none:=by
 have Cr:d<N:=by
  rcases Mh d N with h'|h'
  ·exact h'
  ·rw[h.tmo d h'] at ht;cases ht
 have hv:=h.tms d Cr;rw[ht] at hv;have hv:=Ny hv;have Afn:d<a.tmps.size:=by rw[h.tsz];exact Cr
 have he:a.tmps[d]?=some v:=by
  rw[Array.getElem?_eq_getElem Afn];simp[Afn] at hv;rw[hv]
 unfold yielded;rw[hd];simp only[Option.bind_some,he];cases v<;>rfl
theorem IQ(h:Cj N w0 X0 Y β s a w){G:Ze}(Lg:RO P G w0 X0)(Dn:∀f args res,call f args=some res->Dr G P f args res){i:Nat}(hi:ops[i]?=some o)(hk:Fg C P N call ops o s K=some r):
  ∃s',K s'=some r/\∀(next:Act->World->Prop) (Q:Exit->Act->World->Prop),(∀a' w' β',Cj N w0 X0 Y β' s' a' w'->next a' w')->wpOp P ops Q i next a w:=by
 rw[TG] at hk
 have hw:∀b,Jf ops o s.tm=some b->Region.wanted o (yielded ops a.tmps)=b:=by
  intro b hb;unfold Jf at hb;unfold Region.wanted;cases hg:o.guard with
  |none=>rw[hg] at hb;simpa using hb
  |some q=>
   obtain⟨j,want⟩:=q;rw[hg] at hb;simp only at hb ⊢;cases hd:(ops[j]?).bind (·.dst) with
   |none=>rw[hd] at hb;cases hb
   |some d=>
    rw[hd] at hb;simp only at hb;split at hb
    ·rename_i b' ht;rw[AP h hd ht];simp at hb;rw[<-hb];cases b'<;>cases want<;>rfl
    ·rename_i ht;rw[AP h hd ht];simp at hb;rw[hb];rfl
    ·cases hb
 split at hk
 ·cases hk
 ·rename_i hv;obtain⟨s',hs',hn⟩:=XH h Lg Dn hk;refine⟨s',hs',fun next Q UB=>?_⟩;unfold wpOp;rw[hi];simp only[hw _ hv,if_true];exact .inl (hn next Q UB)
 ·rename_i hv;obtain⟨hd,hk⟩:=A5 hk;refine⟨_,hk,fun next Q UB=>?_⟩;unfold wpOp;rw[hi];simp only[hw _ hv];refine UB _ _ β (h.put hd (Bd.sc _) (by simp[Cn,C2,Ba]))
theorem Cj.known(h:Cj N w0 X0 Y β s a w){d:Nat}(hd:s.tm d=.ub):∃b,Cj N w0 X0 Y β ⟨D2 s.tm d (.sc (.bool b)),s.hp⟩ a w:=by
 have Cr:d<N:=by
  rcases Mh d N with h'|h'
  ·exact h'
  ·rw[h.tmo d h'] at hd;cases hd
 have hu:=h.tms d Cr;rw[hd] at hu;have Oo:Bd w (D4 s.hp β Y) .ub (a.tmps.getD d undef):=hu
 obtain⟨b,hv⟩:∃b,a.tmps.getD d undef=.bool b:=by
  generalize a.tmps.getD d undef=x at Oo;cases Oo with
  |ub b=>exact⟨b,rfl⟩
 refine⟨b,⟨h.dfr,h.tsz,fun i hi=>?_,fun i hi=>?_,h.box,h.inj,h.blt,fun i hi=>?_,h.wfB,h.ownd,h.rngB,h.pin,h.stp,h.Yx,h.Ylt,h.fr⟩⟩
 ·show D2 s.tm d _ i=_;rw[Ax _ _ (by omega)];exact h.tmo i hi
 ·by_cases e:i=d
  ·subst e;show Fe _ _ _ (D2 s.tm i _ i) _;rw[A8,hv];exact Bd.sc _
  ·show Fe _ _ _ (D2 s.tm d _ i) _;rw[Ax _ _ e];exact h.tms i hi
 ·by_cases e:i=d
  ·subst e;show ∀id∈Cn (D2 s.tm i _ i),_;rw[A8];simp[Cn,C2,Ba]
  ·show ∀id∈Cn (D2 s.tm d _ i),_;rw[Ax _ _ e];exact h.wfT i hi
theorem Aa2{x y:Option R}(h:CA x y=some r):x=some r/\y=some r:=by
 unfold CA at h;split at h
 ·rename_i e;exact⟨h,e ▸ h⟩
 ·cases h
theorem AU(h:Cj N w0 X0 Y β s a w){F:St->Option R}(hk:Aj5 ops o s F=some r):∃s',F s'=some r/\Cj N w0 X0 Y β s' a w:=by
 unfold Aj5 at hk;split at hk
 ·exact⟨s,hk,h⟩
 ·split at hk
  ·exact⟨s,hk,h⟩
  ·split at hk
   ·rename_i d _ ht;obtain⟨b,hb⟩:=h.known ht;obtain⟨h1,h2⟩:=Aa2 hk;cases b
    ·exact⟨_,h2,hb⟩
    ·exact⟨_,h1,hb⟩
   ·exact⟨s,hk,h⟩
theorem LQ{G:Ze}(Lg:RO P G w0 X0)(Dn:∀f args res,call f args=some res->Dr G P f args res){Q:Exit->Act->World->Prop}(hQ:∀s' a' w' β',K s'=some r->Cj N w0 X0 Y β' s' a' w'->Q .normal a' w'):
  ∀(l:Cc) (os:List Oper),l.length=os.length->(∀(k i:Nat),l[k]?=some i->ops[i]?=os[k]?)->∀{s:St} {a:Act} {w:World} {β:Bt},Cj N w0 X0 Y β s a w->M4 C P N call ops os s K=some r->wpOps P ops Q l a w
 |[],[],_,_,s,a,w,β,h,hk=>by
  show Q .normal a w;exact hQ s a w β hk h
 |[],_::_,hl,_,_,_,_,_,_,_=>by cases hl
 |_::_,[],hl,_,_,_,_,_,_,_=>by cases hl
 |i::l,o::os,hl,hi,s,a,w,β,h,hk=>by
  rw[wpOps_cons];obtain⟨s1,hk,h⟩:=AU h hk;obtain⟨s',hs',hn⟩:=IQ h Lg Dn (by simpa using hi 0 i rfl) hk;exact hn _ _ fun a' w' β' h'=>LQ Lg Dn hQ l os (by simpa using hl) (fun k j hj=>by simpa using hi (k+1) j (by simpa using hj)) h' hs'
theorem Cj.drew(h:Cj N w0 X0 Y β s a w):Cj N w0 X0 Y β s a { w with drawn:=w.drawn+1 }:=by
 have:=h.stepR (d:=none) (v:=.top) (nw:=[]) (val:=undef) (w':={ w with drawn:=w.drawn+1 }) (β':=β) rfl rfl
  ⟨rfl,rfl,rfl,⟨Da _,fun _ _ _=>rfl,fun _ _=>Da _⟩,fun _ _=>rfl,by simp,by simp,by simp,by simp,by simp,.top _,by simp[Cn,C2,Ba]⟩
 exact this
theorem Ad0(h:Cj N w0 X0 Y β s a w){G:Ze}(Lg:RO P G w0 X0)(Dn:∀f args res,call f args=some res->Dr G P f args res){id:Nat}{Q:Exit->Act->World->Prop}(hk:M4 C P N call ops ops.toList s K=some r)(hQ:∀s' a' w' β',K s'=some r->Cj N w0 X0 Y β' s' a' w'->Q .normal a' w'):(Code.region id ops false).wp P Q a w:=by
 refine wp_region (LQ Lg Dn hQ (List.range ops.size) ops.toList (by simp) (fun k i hi=>?_) h hk);rw[List.getElem?_range] at hi
 ·simp at hi;subst hi;simp
 ·rcases Mh k ops.size with h'|h'
  ·exact h'
  ·rw[List.getElem?_eq_none (by simpa using h')] at hi;cases hi
def Ty(n:Nat)(listed:Array Bool):Cc:=(List.range n).filter fun i=> !listed.getD i true
def A31(ops:Array Oper)(listed:Array Bool)(o:Oper):Prop:=∀e∈o.after,Region.binds .any e=true->listed.getD e.on false=true
theorem testBit_or{a b j:Nat}:(a ||| b).testBit j=(a.testBit j||b.testBit j):=Nat.testBit_or a b j
theorem ZR{acc:Cc}{j:Nat}:∀(es:List Edge)(v:Nat),(es.foldl (fun s e=>bif Region.binds .any e then s ||| 2 ^ e.on ||| acc.getD e.on 0 else s) v).testBit j=true ->
  v.testBit j=true\/∃e∈es,Region.binds .any e=true/\(j=e.on\/(acc.getD e.on 0).testBit j=true)
 |[],v,h=>.inl h
 |e::es,v,h=>by
  rcases ZR es _ h with h|⟨e',Yz,h⟩
  ·cases hb:Region.binds .any e<;>simp only[hb] at h
   ·exact .inl h
   ·simp only[cond_true,Nat.testBit_or,Bool.or_eq_true] at h;rcases h with (h|h)|h
    ·exact .inl h
    ·refine .inr ⟨e,by simp,hb,.inl ?_⟩;rw[Nat.testBit_two_pow] at h;exact (of_decide_eq_true h).symm
    ·exact .inr ⟨e,by simp,hb,.inr h⟩
  ·exact .inr ⟨e',by simp[Yz],h⟩
theorem Zz{listed:Array Bool}(hc:∀(j:Nat) oj,ops[j]?=some oj->listed.getD j false=true->A31 ops listed oj):
  ∀(rest done:List Oper) (acc:Cc),ops.toList=done++rest->acc.length=done.length ->
   (∀(k:Nat) o,done[k]?=some o->A31 ops listed o->∀j,(acc.getD k 0).testBit j=true->listed.getD j false=true) ->
   ∀(k:Nat) o,ops[k]?=some o->A31 ops listed o->∀j,((Nj rest acc).getD k 0).testBit j=true->listed.getD j false=true
 |[],done,acc,he,_,h,k,o,ho,hf,j,hj=>by
  refine h k o ?_ hf j hj;rw[List.append_nil] at he;rw[<-he]
  simpa using ho
 |o'::rest,done,acc,he,hl,h,k,o,ho,hf,j,hj=>by
  refine Zz hc rest (done++[o']) _ (by rw[he];simp) (by simp[hl]) ?_ k o ho hf j hj
  intro k o ho hf j hj;rcases Nat.lt_trichotomy k done.length with Cr|heq|hgt
  ·rw[List.getElem?_append_left Cr] at ho;rw[List.getD_eq_getElem?_getD,List.getElem?_append_left (by omega),<-List.getD_eq_getElem?_getD] at hj;exact h k o ho hf j hj
  ·subst heq;simp at ho;subst ho;rw[<-hl] at hj;simp only[List.getD_eq_getElem?_getD,List.getElem?_append_right (Da _),Nat.sub_self,List.getElem?_cons_zero,Option.getD_some] at hj
   have hj:(o'.after.toList.foldl (fun s e=>bif Region.binds .any e then s ||| 2 ^ e.on ||| acc.getD e.on 0 else s) 0).testBit j=true:=by
    simpa only[List.getD_eq_getElem?_getD] using hj
   rcases ZR _ _ hj with h0|⟨e,hm,hb,h1⟩
   ·simp at h0
   ·have NK:=hf e (by simpa using hm) hb;rcases h1 with h1|h1
    ·rw[h1];exact NK
    ·cases hd:done[e.on]? with
     |none=>
      have:acc.getD e.on 0=0:=by
       rw[List.getD_eq_getElem?_getD,List.getElem?_eq_none (by rw[hl];exact List.getElem?_eq_none_iff.1 hd)]
       rfl
      rw[this] at h1;simp at h1
     |some oe=>
      have hoe:ops[e.on]?=some oe:=by
       rw[<-Array.getElem?_toList,he,List.getElem?_append_left (by
        rcases Mh e.on done.length with h'|h'
        ·exact h'
        ·rw[List.getElem?_eq_none h'] at hd;cases hd)]
       exact hd
      exact h e.on oe hd (hc e.on oe hoe NK) j h1
  ·rw[List.getElem?_eq_none (by simp;omega)] at ho
   cases ho
theorem KI{bs:Cc}:∀(l:List Oper)(n:Nat),SS C P ops bs l n=true->∀(k:Nat) o,l[k]?=some o->∀(j:Nat) x,ops[j]?=some x->j<n+k->XI C P ops x o=true->(bs.getD (n+k) 0).testBit j=true
 |[],_,_,k,o,ho,_,_,_,_,_=>by simp at ho
 |o'::l,n,h,k,o,ho,j,x,hx,hj,CN=>by
  simp only[SS,G6] at h;cases k with
  |zero=>
   simp at ho;subst ho
   have:=List.all_eq_true.1 h.1 (x,j) (by
    rw[List.mem_zipIdx_iff_getElem?]
    simpa using hx)
   simp only[CN,Cp,Bool.or_false,Bool.or_eq_true,Bool.not_eq_true'] at this;rcases this with h'|h'
   ·have:Nat.blt j n=true:=Nat.ble_eq_true_of_le (by omega);rw[this] at h';cases h'
   ·exact h'
  |succ k=>
   have:=KI l (n+1) h.2 k o (by simpa using ho) j x hx (by omega) CN
   rwa [show n+(k+1)=n+1+k by omega]
theorem Ps{n i:Nat}{listed:Array Bool}:i∈Ty n listed↔i<n/\listed.getD i true=false:=by unfold Ty;simp[List.mem_filter]
theorem IB{n i:Nat}{listed:Array Bool}(hi:i∈Ty n listed)(K9:listed.size=n):∃l1 l2,Ty n listed=l1++i::l2/\Ty n (listed.setIfInBounds i true)=l1++l2/\∀j∈l1,j<i:=by
 obtain⟨Cr,P5⟩:=Ps.1 hi
 have hr:List.range n=List.range i++i::(List.range (n-i-1)).map (i+1 + ·):=by
  conv=>lhs;rw[show n=i+(1+(n-i-1)) by omega]
  rw[List.range_add,List.range_add];simp[Sq]
 refine⟨(List.range i).filter fun i=> !listed.getD i true,((List.range (n-i-1)).map (i+1 + ·)).filter fun i=> !listed.getD i true,?_,?_,fun j hj=>?_⟩
 ·unfold Ty;rw[hr,List.filter_append,List.filter_cons_of_pos (by rw[P5];rfl)]
 ·unfold Ty;rw[hr,List.filter_append,List.filter_cons_of_neg (by simp[K9,Cr])]
  congr 1
  ·refine List.filter_congr fun j hj=>?_;rw[getD_set_ne true (by have:=List.mem_range.1 hj;omega)]
  ·refine List.filter_congr fun j hj=>?_;obtain⟨k,_,rfl⟩:=List.mem_map.1 hj;rw[getD_set_ne true (by omega)]
 ·exact List.mem_range.1 (List.mem_filter.1 hj).1
theorem Avz(h:Cj N w0 X0 Y β s a w)(o:Oper):Has C P o s:=by refine⟨fun y _ i hi=>H8 h y i hi,fun _ _ y _ i hi c hc p hp k hk=>h.wfB i c hc p hp k hk⟩
theorem Aak(Auq:(ops.toList.zipIdx.all fun q=>q.1.after.toList.all fun e=> !Region.binds .any e||Nat.blt e.on q.2)=true){listed:Array Bool}(inv:HeadInv .any ops ops.size listed)(hr:Region.ready .any ops listed=[]):Ty ops.size listed=[]:=by
 cases hp:Ty ops.size listed with
 |nil=>rfl
 |cons i l=>
  exfalso;have hi:i∈Ty ops.size listed:=by rw[hp];simp
  obtain⟨Cr,P5⟩:=Ps.1 hi;obtain⟨l1,l2,h1,_,h3⟩:=IB hi inv.size
  have NK:l1=[]:=by
   cases l1 with
   |nil=>rfl
   |cons j l1=>
    rw[hp] at h1;simp at h1;have:=h3 j (by simp);omega
  subst NK
  have Bbm:∀j,j<i->listed.getD j false=true:=by
   intro j hj;cases hh:listed.getD j false with
   |true=>rfl
   |false=>
    have:j∈Ty ops.size listed:=Ps.2 ⟨by omega,getD_in (by rw[inv.size];omega) hh⟩
    have hs:(Ty ops.size listed).Pairwise (· < ·):=List.Pairwise.filter _ List.pairwise_lt_range;rw[h1] at this hs;simp at this;rcases this with e|e
    ·omega
    ·have:=(List.pairwise_cons.1 hs).1 j e;omega
  have:i∈Region.ready .any ops listed:=by
   refine mem_ready.2 ⟨P5,ops[i],Array.getElem?_eq_getElem Cr,fun e he hb=>Bbm _ ?_⟩
   have:=List.all_eq_true.1 Auq (ops[i],i) (by
    rw[List.mem_zipIdx_iff_getElem?];simp[Cr])
   have:=List.all_eq_true.1 this e (Array.mem_toList_iff.2 he);simp only[hb,Cp,Bool.false_or] at this;exact Nat.lt_of_succ_le (Ya this)
  rw[hr] at this;simp at this
theorem Aeh{G:Ze}(Lg:RO P G w0 X0)(Dn:∀f args res,call f args=some res->Dr G P f args res)(hok:XG C P ops=true){Q:Exit->Act->World->Prop}(hQ:∀s' a' w' β',K s'=some r->Cj N w0 X0 Y β' s' a' w'->Q .normal a' w'):
  ∀(fuel:Nat) {listed:Array Bool} {s:St} {a:Act} {w:World} {β:Bt},HeadInv .any ops ops.size listed->(Ty ops.size listed).length=fuel->Cj N w0 X0 Y β s a w->Vi C P N call ops ((Ty ops.size listed).filterMap (ops[·]?)) s K=some r->wpAny P .any ops Q fuel listed a w:=by
 unfold XG at hok;simp only[G6] at hok;obtain⟨Auq,A3o⟩:=hok;intro fuel
 induction fuel with
 |zero=>
  intro listed s a w β inv hf h hk;have hp:=List.eq_nil_of_length_eq_zero hf;rw[hp] at hk;refine⟨?_,hQ s a w β hk h⟩;cases hr:Region.ready .any ops listed with
  |nil=>rfl
  |cons i l=>
   exfalso;have hi:i∈Region.ready .any ops listed:=by rw[hr];simp
   obtain⟨P5,o,ho,_⟩:=mem_ready.1 hi;have:i∈Ty ops.size listed:=Ps.2 ⟨(Array.getElem?_eq_some_iff.1 ho).1,P5⟩;rw[hp] at this;simp at this
 |succ fuel ih=>
  intro listed s a w β inv hf h hk;refine⟨fun hr=>?_,fun i hi=>?_⟩
  ·rw[Aak Auq inv hr] at hf;cases hf
  ·obtain⟨P5,o,ho,BG⟩:=mem_ready.1 hi;have Cr:i<ops.size:=(Array.getElem?_eq_some_iff.1 ho).1;obtain⟨l1,l2,h1,h2,h3⟩:=IB (Ps.2 ⟨Cr,P5⟩) inv.size;rw[h1,List.filterMap_append,List.filterMap_cons_some ho] at hk
   have DG:∀x∈l1.filterMap (ops[·]?),KQ C P ops x o:=by
    intro x hx;obtain⟨j,hj,hxj⟩:=List.mem_filterMap.1 hx;refine Auy ?_;cases CN:XI C P ops x o with
    |false=>rfl
    |true=>
     exfalso;have YY:=KI ops.toList 0 A3o i o (by simpa using ho) j x hxj (by have:=h3 j hj;omega) CN
     rw[Ck] at YY;have hjl:=Zz (listed:=listed) (fun j oj hj hl=>inv.closed j oj hj hl) ops.toList [] [] (by simp) rfl (by simp) i o ho BG j YY;have:j∈Ty ops.size listed:=by rw[h1];simp[hj]
     have:=getD_both (Ps.1 this).2;rw[hjl] at this;cases this
   obtain⟨s',hs',hn⟩:=IQ h Lg Dn ho (Ap6 (Avz h o) DG hk);refine hn _ _ fun a' w' β' h'=>ih (inv.set hi Cr) ?_ h' ?_
   ·rw[h2];rw[h1] at hf;simp at hf ⊢;omega
   ·rw[h2,List.filterMap_append];exact hs'
theorem Yq(h:Cj N w0 X0 Y β s a w){G:Ze}(Lg:RO P G w0 X0)(Dn:∀f args res,call f args=some res->Dr G P f args res)(hm:P.follows .mixedOrders=true)(hok:XG C P ops=true){Q:Exit->Act->World->Prop}(hk:Vi C P N call ops ops.toList s K=some r)(hQ:∀s' a' w' β',K s'=some r->Cj N w0 X0 Y β' s' a' w'->Q .normal a' w'):wpAny P .any ops Q ops.size (Array.replicate ops.size false) a { w with drawn:=w.drawn+1 }:=by
 have hp:Ty ops.size (Array.replicate ops.size false)=List.range ops.size:=by
  unfold Ty;refine List.filter_eq_self.2 fun i hi=>?_;have:=List.mem_range.1 hi;simp[this]
 refine Aeh (C:=C) Lg Dn hok hQ ops.size ⟨by simp,fun j oj _ hl=>(by rw[getD_replicate_false] at hl;cases hl),fun t ht ht'=>by omega⟩ (by rw[hp];simp) h.drew ?_
 rw[hp]
 have:(List.range ops.size).filterMap (ops[·]?)=ops.toList:=by
  refine List.ext_getElem? fun k=>?_
  have:∀(n:Nat),n<=ops.size->(List.range n).filterMap (ops[·]?)=ops.toList.take n:=by
   intro n
   induction n with
   |zero=>intro _;rfl
   |succ n ih=>
    intro hn;rw[List.range_succ,List.filterMap_append,ih (by omega),List.take_add_one]
    congr 1
    have:ops[n]?=some ops[n]:=Array.getElem?_eq_getElem (by omega);simp[this]
  rw[this ops.size (Da _)]
  congr 1
  exact Hg (by simp)
 rw[this];exact hk
theorem Ac5(h:Cj N w0 X0 Y β s a w){G:Ze}(Lg:RO P G w0 X0)(Dn:∀f args res,call f args=some res->Dr G P f args res)(hm:P.follows .mixedOrders=true)(hok:XG C P ops=true){id:Nat}{Q:Exit->Act->World->Prop}(hk:Vi C P N call ops ops.toList s K=some r)(hQ:∀s' a' w' β',K s'=some r->Cj N w0 X0 Y β' s' a' w'->Q .normal a' w'):(Code.region id ops true).wp P Q a w:=
 wp_region_any hm (Yq h Lg Dn hm hok hk hQ)
end
end
section
open Go.RowKit
section
variable {R R':Type}{Rel:Option R->Option R'->Prop}{P:Program}{N:Nat}{tm tm':Nat->PV}{hp Fu:Nat->Option Cb}{o:Oper}
theorem Aoi(hn:Rel none none){C:Kr}{call:Bq}{K:St->Option R}{K':St->Option R'}(DG:Vd o.op=true)(Qa:∀x∈o.op.operands.toList,Dd tm x=Dd tm' x)(hS:∀i,HX o tm' Fu i->hp i=Fu i\/(hp i=none/\∀b,Rel none b))(hdd:∀d,o.dst=some d->hp d=Fu d)(hK:∀v Dg Io,(∀M,YM M (HX o tm' Fu) o.dst hp Fu Dg Io)->Rel (K ⟨Co tm o.dst v,Dg⟩) (K' ⟨Co tm' o.dst v,Io⟩)):Rel (GM C P N call ⟨tm,hp⟩ o K) (GM C P N call ⟨tm',Fu⟩ o K'):=by
 unfold GM;have hl:∀x∈o.op.operands.toList,∀i∈Cn (Dd tm' x),HX o tm' Fu i:=fun x hx i hi=>.inl ⟨x,hx,hi⟩;generalize hLd:HX o tm' Fu=S at *
 generalize hop:o.op=op at *
 unfold Vd at DG;split at DG
 ·rename_i c
  have Qw:∀x∈c.args.toList,x∈(Op.call c).operands.toList:=by
   intro x hx;simp only[Op.operands,Call.operands,Array.toList_append,B4];exact .inr hx
  split at DG
  ·rename_i hc;simp only[hc];refine Fd hn fun d hd=>Cf hn fun x _ hx=>Cf hn fun y _ hy=>Ih hn (Cf hn fun _ _ _=>Cf hn fun _ _ _=>?_);subst hy;have hxm:=Qw x (by rw[hx];simp)
   have hym:=Qw y (by rw[hx];simp)
   simp only[Qa x hxm,Qa y hym];refine MT hn hS (hdd d hd) (fun i hi=>hl x hxm i (Jb hi)) (fun i hi=>hl y hym i (Jb hi)) fun v Dg Io hh=>?_;have:=hK v Dg Io (by rw[hd];exact hh)
   rw[hd] at this;exact this
  ·cases DG
 ·cases DG
theorem X8{C:Kr}{call:Bq}(DG:Vd o.op=true)(Qa:∀x∈o.op.operands.toList,Dd tm x=Dd tm' x)(hS:∀i,HX o tm' Fu i->hp i=Fu i)(hdd:∀d,o.dst=some d->hp d=Fu d){s1:St}(h:GM C P N call ⟨tm,hp⟩ o some=some s1):∃v Dg Io,s1=⟨Co tm o.dst v,Dg⟩/\GM C P N call ⟨tm',Fu⟩ o some=some ⟨Co tm' o.dst v,Io⟩/\∀M,YM M (HX o tm' Fu) o.dst hp Fu Dg Io:=by
 have:=Aoi (P:=P) (N:=N) (C:=C) (call:=call) (o:=o) (tm:=tm) (tm':=tm') (hp:=hp) (Fu:=Fu) (K:=some) (K':=some)
  (Rel:=fun (a b:Option St)=>∀s1,a=some s1->∃v Dg Io,s1=⟨Co tm o.dst v,Dg⟩/\b=some ⟨Co tm' o.dst v,Io⟩/\∀M,YM M (HX o tm' Fu) o.dst hp Fu Dg Io) (fun _ h=>by cases h) DG Qa (fun i hi=>.inl (hS i hi)) hdd
  (fun v Dg Io hT s1 h=>by cases h;exact⟨v,Dg,Io,rfl,rfl,hT⟩)
 exact this s1 h
end
section
variable {R R':Type}{r:R}{r':R'}{C:Kr}{P:Program}{N:Nat}{call:Bq}{ops:Array Oper}{o x:Oper}{s s1 s2:St}{K:St->Option R}
theorem DS{tm:Nat->PV}(h:Kw C P ops o tm=true):AW C P o.op=true:=by unfold Kw at h;simp only[G6] at h;exact h.1
theorem Adq(h:Vd o.op=true):AW C P o.op=true:=by
 unfold Vd at h;split at h
 ·rename_i c hc;rw[hc];split at h
  ·rename_i hcc;simp only[AW,hcc];exact h
  ·cases h
 ·cases h
theorem U9(h:Fg C P N call ops x s K=some r):∃s1,Fg C P N call ops x s some=some s1/\Acb P x s s1/\(EH P x.op=true->s1.hp=s.hp)/\K s1=some r:=by
 cases hx:Kw C P ops x s.tm
 ·rw[Q8 hx] at h ⊢;cases ex:gE C P N call ops x s with
  |none=>rw[ex] at h;cases h
  |some q=>
   rw[ex] at h;obtain⟨hb,h1⟩:=A5 h;simp only[G6] at hb;refine⟨_,?_,⟨fun t ht=>Wz ht,fun i hi=>Vn hb.2 hi,fun hm i hi=>?_⟩,fun hl=>?_,h1⟩
   ·show As _ _=_;rw[hb.1,hb.2];rfl
   ·show Bf (Al s.hp q.2.1) q.2.2 i=s.hp i;rw[Ju hb.2 hi,((CW ex).1 hm).1];simp
   ·show Bf (Al s.hp q.2.1) q.2.2=s.hp;obtain⟨h1,h2⟩:=Anb (.inl hl) ex;rw[h1,h2]
    funext i
    show Al s.hp [] i=_;rw[C5];simp
 ·rw[Nx hx] at h ⊢
  exact XU (P:=P) (N:=N) (o:=x) (tm:=s.tm) (tm':=s.tm) (hp:=s.hp) (K':=some) (Rel:=fun (a:Option R) (b:Option St)=>a=some r->∃s1,b=some s1/\Acb P x s s1/\(EH P x.op=true->s1.hp=s.hp)/\K s1=some r) (fun h=>by cases h) (fun _ _=>rfl) (fun v Dg hh h=>⟨_,rfl,⟨fun t ht=>Wz ht,hh,fun hm=>(by
   rw[MU (DS hx)] at hm;cases hm)⟩,fun hl=>(by
   have:=DS hx;rw[Qx hl] at this;cases this),h⟩) h
theorem EU{K':St->Option R'}(h:Fg C P N call ops x s some=some s1)(hk:K' s1=some r'):Fg C P N call ops x s K'=some r':=by
 cases hx:Kw C P ops x s.tm
 ·rw[Q8 hx] at h ⊢;cases ex:gE C P N call ops x s with
  |none=>rw[ex] at h;cases h
  |some q=>
   rw[ex] at h;obtain⟨hb,h1⟩:=A5 h;show As _ _=_;rw[hb];cases h1;exact hk
 ·rw[Nx hx] at h ⊢;exact XU (P:=P) (N:=N) (o:=x) (tm:=s.tm) (tm':=s.tm) (hp:=s.hp) (K:=some) (Rel:=fun (a:Option St) (b:Option R')=>a=some s1->b=some r') (fun h=>by cases h) (fun _ _=>rfl) (fun v Dg hh h=>by cases h;exact hk) h
theorem Ad2{d:Nat}{t tx:TypeId}{b y:PV}(h:Wp P N s d t tx b y K=some r):s.hp d=none:=by
 unfold Wp at h;split at h
 ·obtain⟨_,h⟩:=A5 h;cases hI:JZ P tx
  ·rw[hI,cond_false] at h;refine PJ (P:=P) (tm:=s.tm) (tm':=s.tm) (hp:=s.hp) (Fu:=s.hp) (S:=fun _=>True) (K':=fun _ _=>(none:Option R)) (Rel:=fun (a:Option R) (_:Option R)=>a=some r->s.hp d=none) (fun h=>by cases h) (fun _ _=>.inl rfl) (fun _ _=>trivial) (fun m new h=>?_) h;split at h
   ·split at h
    ·obtain⟨hb,_⟩:=A5 h;simp only[G6,Option.isNone_iff_eq_none] at hb;simp only[hb]
    ·cases h
   ·obtain⟨_,_,_,h,_⟩:=I4 h;obtain⟨hb,_⟩:=A5 h;simp only[G6,Option.isNone_iff_eq_none] at hb;simp only[hb]
  ·rw[hI,cond_true] at h;unfold CY at h;obtain⟨_,_,_,h⟩:=Fb h;obtain⟨_,_,_,h,_⟩:=I4 h;obtain⟨hb,_⟩:=A5 h;simp only[G6,Option.isNone_iff_eq_none] at hb;simp only[hb]
 ·cases h
theorem Axd(hw:Has C P o s)(hwx:∀y∈x.op.operands.toList,∀i∈Cn (Dd s.tm y),s.hp i≠none)(xo:∀d,x.dst=some d->d ∉ looks ops o)(ne:∀d,x.dst=some d->o.dst≠some d)(ox:∀d,o.dst=some d->d ∉ looks ops x)(E9:Vd x.op=true)(hao:Vd o.op=true)(Agm:∀i,HX x s.tm s.hp i->¬HX o s.tm s.hp i)(hx:Kw C P ops x s.tm=true)(ho:Kw C P ops o s.tm=true)(h:Fg C P N call ops x s (fun s1=>Fg C P N call ops o s1 K)=some r):Fg C P N call ops o s (fun s1=>Fg C P N call ops x s1 K)=some r:=by
 obtain⟨tm,hp⟩:=s;obtain⟨s1,e1,_,_,h⟩:=U9 h;obtain⟨s2,e2,_,_,h⟩:=U9 h;rw[Nx hx] at e1
 have hSx:∀i,HX x tm hp i->hp i≠none:=by
  rintro i (⟨y,hy,hi⟩|⟨DG,_⟩)
  ·exact hwx y hy i hi
  ·rw[E9] at DG;cases DG
 have hSo:∀i,HX o tm hp i->hp i≠none:=by
  rintro i (⟨y,hy,hi⟩|⟨DG,_⟩)
  ·exact hw.1 y hy i hi
  ·rw[hao] at DG;cases DG
 obtain⟨vx,hpx,Azb,rfl,e1',T1⟩:=X8 E9 (fun _ _=>rfl) (fun _ _=>rfl) (fun _ _=>rfl) e1
 have:Azb=hpx:=by
  rw[e1] at e1';injection e1' with q;injection q with _ q;exact q.symm
 subst this;have t1:∀t∈looks ops o,Co tm x.dst vx t=tm t:=Ht xo;have t1o:=Iw (ops:=ops) (o:=o) t1;rw[Nx (by rw[Mc t1];exact ho)] at e2
 have hRo:∀i,HX o (Co tm x.dst vx) Azb i↔HX o tm hp i:=by
  intro i;constructor
  ·rintro (⟨y,hy,hi⟩|⟨DG,_⟩)
   ·exact .inl ⟨y,hy,by rw[<-t1o y hy];exact hi⟩
   ·rw[hao] at DG;cases DG
  ·rintro (⟨y,hy,hi⟩|⟨DG,_⟩)
   ·exact .inl ⟨y,hy,by rw[t1o y hy];exact hi⟩
   ·rw[hao] at DG;cases DG
 have A1p:∀{s:St} {o:Oper} {s2:St},Vd o.op=true->GM C P N call s o some=some s2->∀d,o.dst=some d->s.hp d=none:=by
  intro s o s2 hao e d hd;unfold GM at e;unfold Vd at hao;split at hao
  ·rename_i c hc;rw[hc] at e;simp only at e;split at hao
   ·rename_i hcc;rw[hcc] at e;simp only[hd,F3] at e;obtain⟨_,_,_,e⟩:=Bv e;obtain⟨_,_,_,e⟩:=Bv e;obtain⟨_,e⟩:=Fh e;obtain⟨_,_,_,e⟩:=Bv e;obtain⟨_,_,_,e⟩:=Bv e;exact Ad2 e
   ·cases hao
  ·cases hao
 have Bbs:∀d,o.dst=some d->hp d=none:=by
  intro d hd;have h0:=A1p hao e2 d hd;cases hh:hp d with
  |none=>rfl
  |some b=>exact absurd h0 ((T1 0).keep d (by rw[hh];simp))
 have A7r:=A1p E9 e1;simp only at A7r;have hoS:∀d,o.dst=some d->¬HX x tm hp d:=fun d hd hR=>hSx d hR (Bbs d hd);have hxS:∀d,x.dst=some d->¬HX o tm hp d:=fun d hd hR=>hSo d hR (A7r d hd);obtain⟨vo,Baz,hpo,rfl,e3,T2⟩:=X8 (tm':=tm) (Fu:=hp) hao t1o (fun i hi=>(T1 0).far i (fun hR=>Agm i hR hi) (hSo i hi)) (fun d hd=>((T1 (d+1)).off d (by omega) (fun e=>ne d e hd) (.inl (hoS d hd))).1) e2;obtain⟨vo',Bai,Ahx,e3a,e3b,T3⟩:=X8 (tm':=tm) (Fu:=hp) hao (fun _ _=>rfl) (fun _ _=>rfl) (fun _ _=>rfl) e3;rw[e3] at e3b
 have Bbj:Bai=hpo/\Ahx=hpo:=by
  injection e3a with _ q1;injection e3b with q2;injection q2 with _ q3;exact⟨q1.symm,q3.symm⟩
 obtain⟨rfl,rfl⟩:=Bbj;have t2:∀t∈looks ops x,tm t=Co tm o.dst vo t:=fun t ht=>(Ht ox t ht).symm;have t2x:=Iw (ops:=ops) (o:=x) t2
 have hRx:∀i,HX x (Co tm o.dst vo) Ahx i↔HX x tm hp i:=by
  intro i;constructor
  ·rintro (⟨y,hy,hi⟩|⟨DG,_⟩)
   ·exact .inl ⟨y,hy,by rw[t2x y hy];exact hi⟩
   ·rw[E9] at DG;cases DG
  ·rintro (⟨y,hy,hi⟩|⟨DG,_⟩)
   ·exact .inl ⟨y,hy,by rw[<-t2x y hy];exact hi⟩
   ·rw[E9] at DG;cases DG
 obtain⟨vx2,Bbf,Bb5,e4a,e4,T4⟩:=X8 (tm':=Co tm o.dst vo) (Fu:=Ahx) E9 t2x (fun i hi=>((T3 0).far i (Agm i ((hRx i).1 hi)) (hSx i ((hRx i).1 hi))).symm) (fun d hd=>((T3 (d+1)).off d (by omega) (fun e=>ne d hd e) (.inl (hxS d hd))).1.symm) e1
 have hvx:Co tm x.dst vx=Co tm x.dst vx2/\Azb=Bbf:=by
  injection e4a with q1 q2;exact⟨q1,q2⟩
 obtain⟨hvx,rfl⟩:=hvx;obtain⟨_,hq1,TC,e5a,e5b,T5⟩:=X8 (tm':=Co tm x.dst vx) (Fu:=Azb) hao (fun _ _=>rfl) (fun _ _=>rfl) (fun _ _=>rfl) e2;have hq:hq1=Baz:=by injection e5a with _ q1;exact q1.symm
 subst hq;obtain⟨_,hu1,hu2,e6a,e6b,T6⟩:=X8 (tm':=Co tm o.dst vo) (Fu:=Ahx) E9 (fun _ _=>rfl) (fun _ _=>rfl) (fun _ _=>rfl) e4;have hu:hu1=Bb5:=by injection e6a with _ q1;exact q1.symm
 subst hu
 have Qw:hq1=hu1:=by
  funext i
  by_cases hi:HX o tm hp i\/o.dst=some i
  ·have hxi:¬HX x tm hp i:=by
    rcases hi with hi|hi
    ·exact fun hR=>Agm i hR hi
    ·exact hoS i hi
   have hdi:x.dst≠some i:=by
    rcases hi with hi|hi
    ·exact fun e=>hxS i e hi
    ·exact fun e=>ne i e hi
   rw[(T2 0).same i ((T1 (i+1)).off i (by omega) hdi (.inl hxi)).1];exact ((T6 (i+1)).off i (by omega) hdi (.inl fun hR=>hxi ((hRx i).1 hR))).1.symm
  ·have hoi:¬HX o tm hp i:=fun e=>hi (.inl e);have hdi:o.dst≠some i:=fun e=>hi (.inr e);rw[((T5 (i+1)).off i (by omega) hdi (.inl fun hR=>hoi ((hRo i).1 hR))).1];exact (T4 0).same i ((T3 (i+1)).off i (by omega) hdi (.inl hoi)).1.symm
 refine EU (s1:=⟨Co tm o.dst vo,Ahx⟩) (by rw[Nx ho];exact e3) ?_
 refine EU (s1:=⟨Co (Co tm o.dst vo) x.dst vx2,hu1⟩) (by rw[Nx (by rw[<-Mc t2];exact hx)];exact e4) ?_
 rw[<-Qy ne,<-hvx,<-Qw];exact h
theorem MC(hM:AW C P o.op=true){i:Nat}(h:HX o s.tm s.hp i):i∈S3 C P s o:=by
 unfold S3;rw[hM];cases hA:Vd o.op
 ·simp only[Ev,Bool.and_self,cond_true,B4];rcases h with⟨y,hy,hi⟩|⟨_,id,c,⟨y,hy,hi⟩,hc,p,hp,hk⟩
  ·exact .inl (List.mem_flatMap.2 ⟨y,hy,hi⟩)
  ·refine .inr (List.mem_flatMap.2 ⟨id,List.mem_flatMap.2 ⟨y,hy,hi⟩,?_⟩);rw[hc];exact List.mem_flatMap.2 ⟨p,hp,hk⟩
 ·simp only[Cp,Bool.and_false,cond_false,Bool.or_true,cond_true];rcases h with⟨y,hy,hi⟩|⟨hn,_⟩
  ·exact List.mem_flatMap.2 ⟨y,hy,hi⟩
  ·rw[hA] at hn;cases hn
theorem TH(hl:AW C P o.op=true\/EH P o.op=true){y:Operand}(hy:y∈o.op.operands.toList){i:Nat}(h:i∈Cn (Dd s.tm y)):i∈S3 C P s o:=by
 rcases hl with hM|hl
 ·exact MC hM (.inl ⟨y,hy,h⟩)
 ·unfold S3;rw[Qx hl,hl];exact List.mem_flatMap.2 ⟨y,hy,h⟩
theorem Afb(ht:∀t∈looks ops o,s1.tm t=s.tm t)(hh:AW C P o.op=true->Vd o.op=false->∀y∈o.op.operands.toList,∀i∈Cn (Dd s.tm y),s1.hp i=s.hp i):S3 C P s1 o=S3 C P s o:=by
 have he:=Iw (ops:=ops) (o:=o) ht
 have hl:(o.op.operands.toList.flatMap fun y=>Cn (Dd s1.tm y))=o.op.operands.toList.flatMap fun y=>Cn (Dd s.tm y):=by
  have A4p:∀l:List Operand,(∀y∈l,Dd s1.tm y=Dd s.tm y)->(l.flatMap fun y=>Cn (Dd s1.tm y))=l.flatMap fun y=>Cn (Dd s.tm y):=by
   intro l
   induction l with
   |nil=>intro _;rfl
   |cons a l ih=>intro h;simp only[J1];rw[h a (by simp),ih fun y hy=>h y (by simp[hy])]
  exact A4p _ he
 unfold S3;simp only[hl];cases hM:(AW C P o.op && !Vd o.op)
 ·rfl
 ·simp only[cond_true];simp only[G6,Bool.not_eq_true'] at hM
  congr 1
  have A4p:∀l:Cc,(∀i∈l,s1.hp i=s.hp i)->(l.flatMap fun i=>match s1.hp i with|some (.st c)=>c.flatMap Ba|_=>[])=l.flatMap fun i=>match s.hp i with|some (.st c)=>c.flatMap Ba|_=>[]:=by
   intro l
   induction l with
   |nil=>intro _;rfl
   |cons a l ih=>intro h;simp only[J1];rw[h a (by simp),ih fun y hy=>h y (by simp[hy])]
  exact A4p _ fun i hi=>by
   obtain⟨y,hy,hi⟩:=List.mem_flatMap.1 hi;exact hh hM.1 hM.2 y hy i hi
theorem KZ{a b:Cc}(h:An9 a b=true){i:Nat}(ha:i∈a)(hb:i∈b):False:=by have:=List.all_eq_true.1 h i ha;have h2:b.any (Nat.beq i)=true:=List.any_eq_true.2 ⟨i,hb,P6 i⟩;rw[h2] at this;cases this
theorem Aop{a b:Cc}(h:An9 a b=true):An9 b a=true:=by
 refine List.all_eq_true.2 fun i hi=>?_;cases hc:a.any (Nat.beq i)
 ·rfl
 ·obtain⟨j,hj,e⟩:=List.any_eq_true.1 hc;rw[Ez e] at hi;exact (KZ h hj hi).elim
theorem JU:Qm C P x o=Qm C P o x:=by unfold Qm;cases AW C P x.op<;>cases AW C P o.op<;>cases EH P x.op<;>cases EH P o.op<;>cases Vd x.op<;>cases Vd o.op<;>rfl
structure Sv(C:Kr)(P:Program)(ops:Array Oper)(x o:Oper):Prop where
 xo:∀d,x.dst=some d->d ∉ looks ops o
 ne:∀d,x.dst=some d->o.dst≠some d
 ox:∀d,o.dst=some d->d ∉ looks ops x
 me:AG C P x o=false\/Qm C P x o=true
theorem App(h:Atz C P ops x o=false):Sv C P ops x o:=by
 unfold Atz at h;simp only[Bool.or_eq_false_iff] at h;obtain⟨h1,h2⟩:=h;have hT:=h1;unfold Atl at h1;simp only[Bool.or_eq_false_iff] at h1
 have a1:XI C P ops x o=false\/AG C P x o=true:=by
  cases hc:AG C P x o
  ·left;unfold XI;unfold AG at hc;simp only[Bool.or_eq_false_iff] at hc ⊢;exact⟨⟨⟨h1.1,h1.2⟩,hc.1⟩,hc.2⟩
  ·exact .inr rfl
 refine⟨fun d hd=>?_,fun d hd he=>?_,fun d hd=>?_,?_⟩
 ·have:=h1.1;simp only[hd,Bool.or_eq_false_iff] at this;exact Z9 this.1
 ·have:=h1.1;simp only[hd,he,Bool.or_eq_false_iff] at this;rw[P6] at this;cases this.2
 ·have:=h1.2;simp only[hd] at this;exact Z9 this
 ·cases hc:AG C P x o
  ·exact .inl rfl
  ·rw[hc] at h2;right
   simpa using h2
theorem Sv.apart(ap:Sv C P ops x o)(h:AG C P x o=false):KQ C P ops x o:=by
 unfold AG at h;simp only[Bool.or_eq_false_iff,Bool.and_eq_false_iff] at h;refine⟨ap.xo,ap.ne,ap.ox,fun hm=>?_,fun hm=>?_⟩
 ·rcases h.1 with h|h
  ·rw[hm] at h;cases h
  ·exact h
 ·rcases h.2 with h|h
  ·rw[hm] at h;cases h
  ·exact h
theorem Sv.same(ap:Sv C P ops x o)(hk:Acb P x s s1)(hl:EH P x.op=true->s1.hp=s.hp)(hM:AW C P o.op=true)(hA:Vd o.op=false){i:Nat}(hi:s.hp i≠none):s1.hp i=s.hp i:=by
 rcases ap.me with h|h
 ·exact hk.2.2 ((ap.apart h).mo hM) i hi
 ·unfold Qm at h;rw[hA] at h;simp only[Bool.and_false,Bool.or_false,Bool.or_eq_true,G6] at h;rcases h with h|h
  ·have:=h.2;rw[Qx (C:=C) (P:=P) this] at hM;cases hM
  ·rw[hl h.2]
theorem Has.keepsS(h:Has C P o s)(ap:Sv C P ops x o)(hk:Acb P x s s1)(hl:EH P x.op=true->s1.hp=s.hp):Has C P o s1:=by
 have hop:∀y∈o.op.operands.toList,Dd s1.tm y=Dd s.tm y:=fun y hy=>Iw (ops:=ops) (o:=o) (fun t ht=>hk.1 t fun hd=>ap.xo t hd ht) y hy;refine⟨fun y hy i hi=>?_,fun hM hA y hy i hi c hc p hp k hkk=>?_⟩
 ·rw[hop y hy] at hi;exact hk.2.1 i (h.1 y hy i hi)
 ·rw[hop y hy] at hi;rw[ap.same hk hl hM hA (h.1 y hy i hi)] at hc;exact hk.2.1 k (h.2 hM hA y hy i hi c hc p hp k hkk)
theorem Sv.symm(ap:Sv C P ops x o):Sv C P ops o x:=by
 refine⟨ap.ox,fun d hd he=>ap.ne d he hd,ap.xo,?_⟩;rcases ap.me with h|h
 ·left;unfold AG at h ⊢;rw[Bool.or_comm];exact h
 ·right;rw[JU];exact h
theorem A6v(hw:Has C P o s)(hwx:Qm C P x o=true->∀i∈S3 C P s x,s.hp i≠none)(ap:Sv C P ops x o)(hd:Qm C P x o=true->An9 (S3 C P s x) (S3 C P s o)=true)(h:Fg C P N call ops x s (fun s1=>Fg C P N call ops o s1 K)=some r):Fg C P N call ops o s (fun s1=>Fg C P N call ops x s1 K)=some r:=by
 rcases ap.me with hm|hm
 ·exact A8f hw (ap.apart hm) h
 ·have hd:=hd hm;have hwx:=hwx hm;cases hx:Kw C P ops x s.tm
  ·cases ho:Kw C P ops o s.tm
   ·exact Al3 hw ap.xo ap.ne ap.ox hx ho h
   ·have hMo:=DS ho
    have hlx:ZG P ops x s.tm:=by
     cases hl:EH P x.op
     ·right
      have hMx:AW C P x.op=true:=by
       unfold Qm at hm;simp only[hl,Bool.and_false,Bool.or_false,Bool.or_eq_true,G6] at hm;rcases hm with hm|hm
       ·exact hm.1
       ·exact Adq hm.1
      cases hv:Jf ops x s.tm with
      |none=>
       exfalso;rw[Q8 hx] at h;unfold gE at h;rw[hv] at h;cases h
      |some b=>
       cases b
       ·rfl
       ·unfold Kw at hx;rw[hMx,hv] at hx;cases hx
     ·exact .inl hl
    refine Awv ap.xo ap.ne ap.ox hlx (fun y hy i hi hR=>?_) ho h;refine KZ hd (TH ?_ hy hi) (MC hMo hR);unfold Qm at hm;simp only[Bool.or_eq_true,G6] at hm;rcases hm with (hm|hm)|hm
    ·exact .inl hm.1
    ·exact .inr hm.2
    ·exact .inl (Adq hm.1)
  ·have hMx:=DS hx;cases ho:Kw C P ops o s.tm
   ·have hlo:ZG P ops o s.tm:=by
     cases hl:EH P o.op
     ·right
      have hMo:AW C P o.op=true:=by
       unfold Qm at hm;simp only[hl,Bool.and_false,Bool.false_or,Bool.or_eq_true,G6] at hm;rcases hm with hm|hm
       ·exact hm.1
       ·exact Adq hm.2
      cases hv:Jf ops o s.tm with
      |none=>
       exfalso;obtain⟨s1,_,hk,_,h⟩:=U9 h;have hv1:Jf ops o s1.tm=none:=by rw[Ri (fun t ht=>hk.1 t fun hd=>ap.xo t hd ht)];exact hv
       rw[Q8 (by unfold Kw;rw[hv1];cases AW C P o.op<;>rfl)] at h
       unfold gE at h;rw[hv1] at h;cases h
      |some b=>
       cases b
       ·rfl
       ·unfold Kw at ho;rw[hMo,hv] at ho;cases ho
     ·exact .inl hl
    refine Azu hw ap.xo ap.ne ap.ox hlo (fun y hy i hi hR=>?_) hx h;refine KZ hd (MC hMx hR) (TH ?_ hy hi);unfold Qm at hm;simp only[Bool.or_eq_true,G6] at hm;rcases hm with (hm|hm)|hm
    ·exact .inr hm.2
    ·exact .inl hm.1
    ·exact .inl (Adq hm.2)
   ·have hMo:=DS ho;unfold Qm at hm;simp only[Bool.or_eq_true,G6] at hm;rcases hm with (hm|hm)|hm
    ·rw[Qx (C:=C) (P:=P) hm.2] at hMo;cases hMo
    ·rw[Qx (C:=C) (P:=P) hm.2] at hMx;cases hMx
    ·exact Axd hw (fun y hy i hi=>hwx i (TH (.inl hMx) hy hi)) ap.xo ap.ne ap.ox hm.1 hm.2 (fun i h1 h2=>KZ hd (MC hMx h1) (MC hMo h2)) hx ho h
theorem Arv{α:Type}(a b:α)(l:List α)(f:α->Bool):(a::b::l).all f=(b::a::l).all f:=by simp only[List.all_cons];cases f a<;>cases f b<;>rfl
theorem QE{bs:List Cc}:∀(l:Cc){dn dn':List (Nat × Oper × Cc)} {s:St}{K:St->Option R},(∀f,dn.all f=dn'.all f)->M3 C P N call ops bs dn l s K=M3 C P N call ops bs dn' l s K
 |[],_,_,_,_,_=>rfl
 |i::l,dn,dn',s,K,h=>by
  unfold M3;cases ops[i]? with
  |none=>rfl
  |some o=>
   simp only[F3,h]
   congr 2
   funext s'
   exact QE l fun f=>by simp only[List.all_cons,h]
theorem XF{bs:Cc}{i:Nat}(hi:ops[i]?=some o):(QY C P ops bs).getD i []=LF C P ops bs i o:=by unfold QY;rw[List.getD_eq_getElem?_getD,List.getElem?_map,List.getElem?_zipIdx,Array.getElem?_toList,hi];simp
theorem AC{bs:Cc}{i j:Nat}:j∈LF C P ops bs i o↔∃x,ops[j]?=some x/\Qm C P x o=true/\(Nat.blt j i&&(bs.getD i 0).testBit j)=false/\(Nat.blt i j&&(bs.getD j 0).testBit i)=false:=by
 unfold LF;simp only[List.mem_map,List.mem_filter,G6,Bool.not_eq_true',Prod.exists];constructor
 ·rintro⟨x,k,⟨hm,⟨h1,h2⟩,h3⟩,rfl⟩
  rw[List.mem_zipIdx_iff_getElem?] at hm;exact⟨x,by simpa using hm,h1,h2,h3⟩
 ·rintro⟨x,hx,h1,h2,h3⟩
  refine⟨x,j,⟨?_,⟨h1,h2⟩,h3⟩,rfl⟩;rw[List.mem_zipIdx_iff_getElem?]
  simpa using hx
theorem TF{sm:List Cc}{i j:Nat}(h:j∈sm.getD i []):SH C P sm s i o=S3 C P s o:=by
 unfold SH;split
 ·rename_i e;rw[e] at h;simp at h
 ·rfl
theorem Asf{sm:List Cc}{i:Nat}(h:sm.getD i []≠[]->S3 C P s1 o=S3 C P s o):SH C P sm s1 i o=SH C P sm s i o:=by
 unfold SH;split
 ·rfl
 ·rename_i e;exact h (by rw[e];simp)
theorem Ang{l:Cc}{j:Nat}:l.any (Nat.beq j)=true↔j∈l:=by
 constructor
 ·intro h;obtain⟨k,hk,e⟩:=List.any_eq_true.1 h;rw[Ez e];exact hk
 ·intro h;exact List.any_eq_true.2 ⟨j,h,P6 j⟩
theorem NI{bs:Cc}{sm:List Cc}(hsm:sm=QY C P ops bs){i:Nat}(hi:ops[i]?=some o){l':Cc}:∀(l:Cc){dn:List (Nat × Oper × Cc)} {s:St}{K:St->Option R},Has C P o s ->
  (∀j∈l,j<i/\(bs.getD i 0).testBit j=false/\∀x,ops[j]?=some x->Sv C P ops x o)->M3 C P N call ops sm dn (l++i::l') s K=some r ->
  dn.all (ZA C P sm s i o)=true/\Fg C P N call ops o s (fun s1=>M3 C P N call ops sm ((i,o,SH C P sm s i o)::dn) (l++l') s1 K)=some r
 |[],dn,s,K,hw,_,h=>by
  simp only[UG] at h ⊢;unfold M3 at h;rw[hi] at h;simp only[F3] at h;obtain⟨hb,h⟩:=A5 h;simp only[G6] at hb;exact⟨hb.1,h⟩
 |j::l,dn,s,K,hw,hl,h=>by
  simp only[Zzp] at h ⊢;unfold M3 at h;obtain⟨hji,YY,DG⟩:=hl j (by simp);cases hj:ops[j]? with
  |none=>rw[hj] at h;cases h
  |some x=>
   rw[hj] at h;simp only[F3] at h;obtain⟨hb,h⟩:=A5 h;simp only[G6] at hb;have ap:=DG x hj
   have hex:∀k∈SH C P sm s j x,s.hp k≠none:=fun k hk=>by
    have:=List.all_eq_true.1 hb.2 k hk;intro e;rw[e] at this;cases this
   obtain⟨s1,e1,Fc,NK,h1⟩:=U9 h;obtain⟨ha,h2⟩:=NI hsm hi l (hw.keepsS ap Fc NK) (fun k hk=>hl k (by simp[hk])) h1;have Bbq:S3 C P s1 o=S3 C P s o:=Afb (ops:=ops) (fun t ht=>Fc.1 t fun hd=>ap.xo t hd ht) fun hM hA y hy k hk=>ap.same Fc NK hM hA (hw.1 y hy k hk);have hr1:SH C P sm s1 i o=SH C P sm s i o:=Asf fun _=>Bbq;rw[List.all_cons,G6] at ha
   have A6h:Nat.blt i j=false:=by
    cases hh:Nat.blt i j
    ·rfl
    ·have:=Ya hh;omega
   have hmi:Qm C P x o=true->j∈sm.getD i []:=fun hs=>by
    rw[hsm,XF hi];exact AC.2 ⟨x,hj,hs,by rw[YY,Bool.and_false],by rw[A6h,Zzs]⟩
   have hmj:Qm C P x o=true->i∈sm.getD j []:=fun hs=>by
    rw[hsm,XF hj];exact AC.2 ⟨o,hi,by rw[JU];exact hs,by rw[A6h,Zzs],by rw[YY,Bool.and_false]⟩
   have A0u:Qm C P x o=true->An9 (SH C P sm s j x) (SH C P sm s i o)=true:=by
    intro hs;have:=ha.1;unfold ZA at this;rw[Ang.2 (hmi hs),hr1] at this
    simpa using this
   have hok:∀q,ZA C P sm s1 i o q=ZA C P sm s i o q:=fun q=>by unfold ZA;rw[hr1]
   have BG:dn.all (ZA C P sm s i o)=true:=by
    refine List.all_eq_true.2 fun q hq=>?_;rw[<-hok];exact List.all_eq_true.1 ha.2 q hq
   refine⟨BG,?_⟩;rw[hr1] at h2
   have h3:=A6v hw (fun hs k hk=>hex k (by rw[TF (hmj hs)];exact hk)) ap (fun hs=>by have:=A0u hs;rw[TF (hmj hs),TF (hmi hs)] at this;exact this)
    (EU (K':=fun s1=>Fg C P N call ops o s1 (fun s2=>M3 C P N call ops sm ((i,o,SH C P sm s i o)::(j,x,SH C P sm s j x)::dn) (l++l') s2 K)) e1 h2)
   obtain⟨s2,e2,Hv,SQ,h4⟩:=U9 h3;refine EU e2 ?_
   have hr2:SH C P sm s2 j x=SH C P sm s j x:=Asf fun Gu=>by
    obtain⟨q,hq⟩:=List.exists_mem_of_ne_nil _ Gu;refine Afb (ops:=ops) (fun t ht=>Hv.1 t fun hd=>ap.ox t hd ht) fun hM hA y hy k hk=>ap.symm.same Hv SQ hM hA (hex k ?_);rw[TF hq];exact TH (.inl hM) hy hk
   unfold M3;rw[hj];simp only[F3]
   have hc:(((i,o,SH C P sm s i o)::dn).all (ZA C P sm s2 j x)&&(SH C P sm s2 j x).all fun k=>(s2.hp k).isSome)=true:=by
    simp only[List.all_cons,G6];refine⟨⟨?_,?_⟩,?_⟩
    ·unfold ZA;simp only[hr2];cases hs:(sm.getD j []).any (Nat.beq i)
     ·rfl
     ·have hm:=Ang.1 hs;rw[hsm,XF hj] at hm;obtain⟨o',ho',hso,_⟩:=AC.1 hm;rw[hi] at ho';cases ho';rw[JU] at hso;rw[Aop (A0u hso)];rfl
    ·refine List.all_eq_true.2 fun q hq=>?_;have:=List.all_eq_true.1 hb.1 q hq;unfold ZA at this ⊢;rw[hr2];exact this
    ·rw[hr2];refine List.all_eq_true.2 fun k hk=>?_;have:=Hv.2.1 k (hex k hk);cases hh:s2.hp k with
     |none=>exact absurd hh this
     |some _=>rfl
   rw[hc,hr2];show Fg C P N call ops x s2 _=some r
   have:(fun s'=>M3 C P N call ops sm ((j,x,SH C P sm s j x)::(i,o,SH C P sm s i o)::dn) (l++l') s' K)=fun s2=>M3 C P N call ops sm ((i,o,SH C P sm s i o)::(j,x,SH C P sm s j x)::dn) (l++l') s2 K:=by
    funext s'
    exact QE _ fun f=>Arv _ _ _ f
   rw[this];exact h4
end
section
variable {R:Type}{r:R}{P:Program}{N:Nat}{w0:World}{X0:Gt}{Y:Nat->Prop}{β β':Bt}{s:St}{a:Act}{w w':World}{o:Oper}{ops:Array Oper}{C:Kr}{call:Bq}{K:St->Option R}
theorem HD{bs:Cc}:∀(l:List Oper)(n:Nat),KT C P ops bs l n=true->∀(k:Nat) o,l[k]?=some o->∀(j:Nat) x,ops[j]?=some x->j<n+k->Atz C P ops x o=true->(bs.getD (n+k) 0).testBit j=true
 |[],_,_,k,o,ho,_,_,_,_,_=>by simp at ho
 |o'::l,n,h,k,o,ho,j,x,hx,hj,CN=>by
  simp only[KT,G6] at h;cases k with
  |zero=>
   simp at ho;subst ho
   have:=List.all_eq_true.1 h.1 (x,j) (by
    rw[List.mem_zipIdx_iff_getElem?]
    simpa using hx)
   simp only[CN,Cp,Bool.or_false,Bool.or_eq_true,Bool.not_eq_true'] at this;rcases this with h'|h'
   ·have:Nat.blt j n=true:=Nat.ble_eq_true_of_le (by omega);rw[this] at h';cases h'
   ·exact h'
  |succ k=>
   have:=HD l (n+1) h.2 k o (by simpa using ho) j x hx (by omega) CN
   rwa [show n+(k+1)=n+1+k by omega]
theorem Aec{G:Ze}(Lg:RO P G w0 X0)(Dn:∀f args res,call f args=some res->Dr G P f args res)(hok:VZ C P ops=true){Q:Exit->Act->World->Prop}(hQ:∀s' a' w' β',K s'=some r->Cj N w0 X0 Y β' s' a' w'->Q .normal a' w'):
  ∀(fuel:Nat) {dn:List (Nat × Oper × Cc)} {listed:Array Bool} {s:St} {a:Act} {w:World} {β:Bt},HeadInv .any ops ops.size listed->(Ty ops.size listed).length=fuel->Cj N w0 X0 Y β s a w->M3 C P N call ops (QY C P ops (Nj ops.toList [])) dn (Ty ops.size listed) s K=some r->wpAny P .any ops Q fuel listed a w:=by
 unfold VZ at hok;simp only[G6] at hok;obtain⟨Auq,A3o⟩:=hok;intro fuel
 induction fuel with
 |zero=>
  intro dn listed s a w β inv hf h hk;have hp:=List.eq_nil_of_length_eq_zero hf;rw[hp] at hk;refine⟨?_,hQ s a w β hk h⟩;cases hr:Region.ready .any ops listed with
  |nil=>rfl
  |cons i l=>
   exfalso;have hi:i∈Region.ready .any ops listed:=by rw[hr];simp
   obtain⟨P5,o,ho,_⟩:=mem_ready.1 hi;have:i∈Ty ops.size listed:=Ps.2 ⟨(Array.getElem?_eq_some_iff.1 ho).1,P5⟩;rw[hp] at this;simp at this
 |succ fuel ih=>
  intro dn listed s a w β inv hf h hk;refine⟨fun hr=>?_,fun i hi=>?_⟩
  ·rw[Aak Auq inv hr] at hf;cases hf
  ·obtain⟨P5,o,ho,BG⟩:=mem_ready.1 hi;have Cr:i<ops.size:=(Array.getElem?_eq_some_iff.1 ho).1;obtain⟨l1,l2,h1,h2,h3⟩:=IB (Ps.2 ⟨Cr,P5⟩) inv.size;rw[h1] at hk
   have hnb:∀j∈l1,((Nj ops.toList []).getD i 0).testBit j=false:=by
    intro j hj;cases YY:((Nj ops.toList []).getD i 0).testBit j with
    |false=>rfl
    |true=>
     exfalso;have hjl:=Zz (listed:=listed) (fun j oj hj hl=>inv.closed j oj hj hl) ops.toList [] [] (by simp) rfl (by simp) i o ho BG j YY;have:j∈Ty ops.size listed:=by rw[h1];simp[hj]
     have:=getD_both (Ps.1 this).2;rw[hjl] at this;cases this
   have DG:∀j∈l1,j<i/\((Nj ops.toList []).getD i 0).testBit j=false/\∀x,ops[j]?=some x->Sv C P ops x o:=by
    intro j hj;refine⟨h3 j hj,hnb j hj,fun x hxj=>App ?_⟩;cases CN:Atz C P ops x o with
    |false=>rfl
    |true=>
     exfalso;have YY:=HD ops.toList 0 A3o i o (by simpa using ho) j x hxj (by have:=h3 j hj;omega) CN
     rw[Ck,hnb j hj] at YY;cases YY
   obtain⟨s',hs',hn⟩:=IQ h Lg Dn ho (NI rfl ho l1 (Avz h o) DG hk).2;refine hn _ _ fun a' w' β' h'=>ih (dn:=(i,o,SH C P (QY C P ops (Nj ops.toList [])) s i o)::dn) (inv.set hi Cr) ?_ h' ?_
   ·rw[h2];rw[h1] at hf;simp at hf ⊢;omega
   ·rw[h2];exact hs'
theorem BQ(h:Cj N w0 X0 Y β s a w){G:Ze}(Lg:RO P G w0 X0)(Dn:∀f args res,call f args=some res->Dr G P f args res)(hm:P.follows .mixedOrders=true)(hok:VZ C P ops=true){Q:Exit->Act->World->Prop}(hk:M3 C P N call ops (QY C P ops (Nj ops.toList [])) [] (List.range ops.size) s K=some r)(hQ:∀s' a' w' β',K s'=some r->Cj N w0 X0 Y β' s' a' w'->Q .normal a' w'):wpAny P .any ops Q ops.size (Array.replicate ops.size false) a { w with drawn:=w.drawn+1 }:=by
 have hp:Ty ops.size (Array.replicate ops.size false)=List.range ops.size:=by
  unfold Ty;refine List.filter_eq_self.2 fun i hi=>?_;have:=List.mem_range.1 hi;simp[this]
 refine Aec (C:=C) (dn:=[]) Lg Dn hok hQ ops.size ⟨by simp,fun j oj _ hl=>(by rw[getD_replicate_false] at hl;cases hl),fun t ht ht'=>by omega⟩ (by rw[hp];simp) h.drew ?_
 rw[hp];exact hk
theorem Ahq(h:Cj N w0 X0 Y β s a w){G:Ze}(Lg:RO P G w0 X0)(Dn:∀f args res,call f args=some res->Dr G P f args res)(hm:P.follows .mixedOrders=true)(hok:VZ C P ops=true){id:Nat}{Q:Exit->Act->World->Prop}(hk:M3 C P N call ops (QY C P ops (Nj ops.toList [])) [] (List.range ops.size) s K=some r)(hQ:∀s' a' w' β',K s'=some r->Cj N w0 X0 Y β' s' a' w'->Q .normal a' w'):(Code.region id ops true).wp P Q a w:=
 wp_region_any hm (BQ h Lg Dn hm hok hk hQ)
end
open Go.RowKit
section
variable {R:Type}{r:R}{N:Nat}{w0:World}{X0:Gt}{Y:Nat->Prop}{β β':Bt}{s:St}{a:Act}{w w':World}
theorem Asq{i:Nat}(hi:i<a.tmps.size):a.put (some i) (a.tmps.getD i undef)=a:=by
 obtain⟨tmps,dfr⟩:=a;change i<tmps.size at hi
 have:tmps.setIfInBounds i (tmps.getD i undef)=tmps:=by
  apply Array.ext_getElem?;intro k;by_cases e:i=k
  ·subst e;simp[hi]
  ·rw[Array.getElem?_setIfInBounds_ne e]
 simp only[Act.put,this]
theorem Ani{A:Nat->Prop}{es:Nat}{v:Value}(h:Bd w A (.lst true es 0 []) v):v=.slice none 0 0:=by cases h;rfl
theorem Aln{id:Nat}(B6:s.hp id=none){v:PV}{val:Value}(hv:Fe w (D4 (Bf s.hp [(id,.ar false [])]) (D2 β id none) Y) (D2 β id none) v val)(hr:∀i∈Cn v,s.hp i≠none\/i=id):
  Aa0 Y β s w v [(id,.ar false [])] val w (D2 β id none):=by
 refine⟨rfl,rfl,rfl,C6.refl _ _,fun j hj=>Ax _ _ (by rintro rfl;exact hj B6),?_,?_,?_,?_,?_,hv,?_⟩
 ·intro j bx hm;simp at hm;rw[hm.2];trivial
 ·intro j bx hm;simp at hm;obtain⟨rfl,rfl⟩:=hm;exact .inl ⟨A8 _ _ _,rfl⟩
 ·intro j bx k q hm hq;simp at hm;obtain⟨rfl,rfl⟩:=hm;rw[A8] at hq;cases hq
 ·intro j bx j' bx' k q q' hm Nh _ _;simp at hm Nh;rw[hm.1,Nh.1]
 ·intro j cells hm;simp at hm
 ·intro j hj;rcases hr j hj with h|rfl
  ·exact .inl h
  ·exact .inr ⟨.ar false [],by simp⟩
theorem ZD(h:Cj N w0 X0 Y β s a w)(i:Nat):∃β',Cj N w0 X0 Y β' (SU N s i) a w:=by
 unfold SU;split
 ·rename_i es ht
  have Cr:i<N:=by
   rcases Mh i N with h'|h'
   ·exact h'
   ·rw[h.tmo i h'] at ht;cases ht
  have hv:=h.tms i Cr;rw[ht] at hv;have hv:=Ani hv;have hd:J3 N (some i)=true:=by simp[J3,Nat.blt];omega
  have go:∀j,s.hp j=none->∃β',Cj N w0 X0 Y β' ⟨D2 s.tm i (.view j es 0 0),D2 s.hp j (some (.ar false []))⟩ a w:=by
   intro j hn;have:=h.stepR (d:=some i) hd (by simp[C3,hn]) (Aln (v:=.view j es 0 0) (val:=.slice none 0 0) hn (.inl ⟨A8 _ _ _,rfl,rfl,none,rfl⟩) (by simp[Cn,C2,Ba]));rw[<-hv,Asq (by rw[h.tsz];exact Cr)] at this
   exact⟨_,this⟩
  cases hn:(s.hp i).isNone
  ·cases hn2:(s.hp (i+N*3000)).isNone
   ·exact⟨β,h⟩
   ·exact go _ (by simpa using hn2)
  ·exact go _ (by simpa using hn)
 ·exact⟨β,h⟩
theorem Cj.recell(h:Cj N w0 X0 Y β s a w){id:Nat}{c c':Ab}(h0:s.hp id=some (.st c))(hl:c'.length=c.length)(hc:∀(j:Nat) p,c'[j]?=some p->∃q,c[j]?=some q/\(∀v,Cz w (D4 s.hp β Y) β q v->Cz w (D4 s.hp β Y) β p v)/\∀i∈Ba p,s.hp i≠none):
  Cj N w0 X0 Y β ⟨s.tm,D2 s.hp id (some (.st c'))⟩ a w:=by
 have Kj:∀i,Db (D2 s.hp id (some (.st c')) i)↔Db (s.hp i):=by
  intro i;by_cases e:i=id
  ·subst e;rw[A8,h0];exact Iff.rfl
  ·rw[Ax _ _ e]
 have hX:JO (D2 s.hp id (some (.st c'))) β=JO s.hp β:=by
  funext b
  apply propext;constructor
  ·rintro⟨i,o,hl,hb⟩;exact⟨i,o,(Kj i).1 hl,hb⟩
  ·rintro⟨i,o,hl,hb⟩;exact⟨i,o,(Kj i).2 hl,hb⟩
 have hA:D4 (D2 s.hp id (some (.st c'))) β Y=D4 s.hp β Y:=by
  funext b;unfold D4;rw[hX]
 have Gu:∀i,s.hp i≠none->D2 s.hp id (some (.st c')) i≠none:=by
  intro i hi;by_cases e:i=id
  ·subst e;rw[A8];simp
  ·rw[Ax _ _ e];exact hi
 have Bcq:∀i,D2 s.hp id (some (.st c')) i≠none->s.hp i≠none:=by
  intro i hi;by_cases e:i=id
  ·subst e;rw[h0];simp
  ·rw[Ax _ _ e] at hi;exact hi
 refine⟨h.dfr,h.tsz,h.tmo,?_,?_,?_,?_,?_,?_,?_,?_,fun i hi=>⟨Gu _ (h.pin i hi).1,(h.pin i hi).2⟩,?_,?_,h.Ylt,h.fr⟩
 ·intro i hi;show Fe w (D4 (D2 s.hp id _) β Y) β _ _;rw[hA];exact h.tms i hi
 ·intro i b hb;show Ys w (D4 (D2 s.hp id _) β Y) β i b;rw[hA];by_cases e:i=id
  ·subst e;change D2 s.hp i (some (.st c')) i=some b at hb;rw[A8] at hb;cases hb;obtain⟨b,o,h1,h2,h3⟩:=h.box i _ h0;refine⟨b,o,h1,fun j p hj=>?_,fun j hj=>h3 j (by rw[<-hl];exact hj)⟩
   obtain⟨q,hq,hqp,_⟩:=hc j p hj;obtain⟨v,hv,hr⟩:=h2 j q hq;exact⟨v,hv,hqp v hr⟩
  ·change D2 s.hp id (some (.st c')) i=some b at hb;rw[Ax _ _ e] at hb;exact h.box i b hb
 ·intro i i' b o o' hl Q7 hb Kh;exact h.inj i i' b o o' ((Kj i).1 hl) ((Kj i').1 Q7) hb Kh
 ·intro i b o hn hb;exact h.blt i b o (Bcq i hn) hb
 ·intro i hi j hj;exact Gu j (h.wfT i hi j hj)
 ·intro i cells hb p hp j hj;change D2 s.hp id (some (.st c')) i=_ at hb;by_cases e:i=id
  ·subst e;rw[A8] at hb;cases hb;obtain⟨k,hk⟩:=List.mem_iff_getElem?.1 hp;obtain⟨_,_,_,hr⟩:=hc k p hk;exact Gu j (hr j hj)
  ·rw[Ax _ _ e] at hb;exact Gu j (h.wfB i cells hb p hp j hj)
 ·intro b hb;exact h.ownd b (by rw[<-hX];exact hb)
 ·intro i bx b o hb hlb hβ Cr j hj;change D2 s.hp id (some (.st c')) i=some bx at hb;by_cases e:i=id
  ·subst e;rw[A8] at hb;cases hb;exact h.rngB i _ b o h0 trivial hβ Cr j (by unfold BR at hj ⊢;simp only[hl] at hj;exact hj)
  ·rw[Ax _ _ e] at hb;exact h.rngB i bx b o hb hlb hβ Cr j hj
 ·intro i c1 b o hb hβ Cr;change D2 s.hp id (some (.st c')) i=_ at hb;by_cases e:i=id
  ·subst e;exact h.stp i c b o h0 hβ Cr
  ·rw[Ax _ _ e] at hb;exact h.stp i c1 b o hb hβ Cr
 ·intro b hY hb;exact h.Yx b hY (by rw[<-hX];exact hb)
theorem ZJ(h:Cj N w0 X0 Y β s a w)(id j:Nat):∃β',Cj N w0 X0 Y β' (Ads N id s j) a w:=by
 unfold Ads;split
 ·rename_i c h0;split
  ·rename_i es hj;cases hn:(s.hp (id+N*(j+1))).isNone
   ·exact⟨β,h⟩
   ·have hn:s.hp (id+N*(j+1))=none:=by simpa using hn
    have Gu:id≠id+N*(j+1):=by
     intro e;rw[<-e,h0] at hn;cases hn
    have h1:=h.stepR (d:=none) (v:=.top) (val:=undef) rfl (by simp[C3,hn]) (Aln hn (.top _) (by simp[Cn,C2,Ba]));change Cj N w0 X0 Y (D2 β (id+N*(j+1)) none) ⟨s.tm,D2 s.hp (id+N*(j+1)) (some (.ar false []))⟩ a w at h1
    have h2:=h1.recell (id:=id) (c:=c) (c':=c.set j (.view (id+N*(j+1)) es 0 0)) (by show D2 _ _ _ _=_;rw[Ax _ _ Gu];exact h0) (by simp) (by
     intro k p hp;by_cases e:k=j
     ·subst e
      have Cr:k<c.length:=by
       rcases Mh k c.length with h'|h'
       ·exact h'
       ·rw[List.getElem?_eq_none h'] at hj;cases hj
      rw[List.getElem?_set_self Cr] at hp;cases hp;refine⟨_,hj,fun v hv=>.inl ⟨A8 _ _ _,rfl,rfl,none,Ani hv⟩,fun i hi=>?_⟩;simp[Ba] at hi;subst hi;show D2 _ _ _ _≠none;rw[A8];simp
     ·rw[List.getElem?_set_ne (fun h=>e h.symm)] at hp;refine⟨p,hp,fun _ hv=>hv,fun i hi=>?_⟩;have:=h.wfB id c h0 p (List.mem_of_getElem? hp) i hi;show D2 _ _ _ _≠none;by_cases e':i=id+N*(j+1)
      ·subst e';rw[A8];simp
      ·rw[Ax _ _ e'];exact this)
    refine⟨D2 β (id+N*(j+1)) none,?_⟩;have e3:D2 (D2 s.hp (id+N*(j+1)) (some (.ar false []))) id (some (.st (c.set j (.view (id+N*(j+1)) es 0 0))))=D2 (D2 s.hp id (some (.st (c.set j (.view (id+N*(j+1)) es 0 0))))) (id+N*(j+1)) (some (.ar false [])):=Agp _ _ _ (fun h=>Gu h.symm);change Cj N w0 X0 Y (D2 β (id+N*(j+1)) none) ⟨s.tm,D2 (D2 s.hp (id+N*(j+1)) (some (.ar false []))) id (some (.st (c.set j (.view (id+N*(j+1)) es 0 0))))⟩ a w at h2;rw[e3] at h2;exact h2
  ·exact⟨β,h⟩
 ·exact⟨β,h⟩
theorem W0{f:St->Nat->St}(hf:∀s β,Cj N w0 X0 Y β s a w->∀i,∃β',Cj N w0 X0 Y β' (f s i) a w):∀(l:Cc){s:St}{β:Bt},Cj N w0 X0 Y β s a w->∃β',Cj N w0 X0 Y β' (l.foldl f s) a w
 |[],_,β,h=>⟨β,h⟩
 |i::l,s,β,h=>by
  obtain⟨β1,h1⟩:=hf s β h i;exact W0 hf l h1
theorem Ac6(h:Cj N w0 X0 Y β s a w)(i:Nat):∃β',Cj N w0 X0 Y β' (Acp N s i) a w:=by
 unfold Acp;split
 ·split
  ·exact W0 (fun s β h i=>ZJ h _ i) _ h
  ·exact⟨β,h⟩
 ·exact⟨β,h⟩
theorem Aao:∀{m:List (Nat × Nat)},Gf (m.map (·.2))=true->∀{i i' j:Nat},(i,j)∈m->(i',j)∈m->i=i'
 |[],_,_,_,_,h,_=>by simp at h
 |(x,y)::m,hn,i,i',j,h,h'=>by
  simp only[Sn,Gf,G6,Bool.not_eq_true'] at hn
  have hy:∀k,(k,y) ∉ m:=by
   intro k hk;exact Z9 hn.1 (List.mem_map.2 ⟨(k,y),hk,rfl⟩)
  rcases B7.1 h with e|h
  ·cases e;rcases B7.1 h' with e|h'
   ·cases e;rfl
   ·exact absurd h' (hy _)
  ·rcases B7.1 h' with e|h'
   ·cases e;exact absurd h (hy _)
   ·exact Aao hn.2 h h'
theorem PA:∀{m:List (Nat × Nat)},Gf (m.map (·.1))=true->∀{i j j':Nat},(i,j)∈m->(i,j')∈m->j=j'
 |[],_,_,_,_,h,_=>by simp at h
 |(x,y)::m,hn,i,j,j',h,h'=>by
  simp only[Sn,Gf,G6,Bool.not_eq_true'] at hn
  have hx:∀k,(x,k) ∉ m:=by
   intro k hk;exact Z9 hn.1 (List.mem_map.2 ⟨(x,k),hk,rfl⟩)
  rcases B7.1 h with e|h
  ·cases e;rcases B7.1 h' with e|h'
   ·cases e;rfl
   ·exact absurd h' (hx _)
  ·rcases B7.1 h' with e|h'
   ·cases e;exact absurd h (hx _)
   ·exact PA hn.2 h h'
theorem Tw{i j:Nat}(h:Nat.beq i j=false):i≠j:=by rintro rfl;rw[P6] at h;cases h
theorem MJ:∀{m:List (Nat × Nat)} {i j:Nat},GN m i=some j->(i,j)∈m
 |[],_,_,h=>by cases h
 |(x,y)::m,i,j,h=>by
  unfold GN at h;cases hb:Nat.beq i x<;>rw[hb] at h
  ·exact Sx _ (MJ h)
  ·have:=Ez hb;cases h;rw[this];simp
theorem NL{m:List (Nat × Nat)}{hp:Nat->Option Cb}:∀{l:List (Nat × Nat)} {j:Nat}{b:Cb},B3 (Tg m hp l) j=some b->∃i b0,(i,j)∈l/\hp i=some b0/\b=Axh m b0
 |[],_,_,h=>by cases h
 |(x,y)::l,j,b,h=>by
  unfold Tg at h;cases hx:hp x with
  |none=>
   rw[hx] at h;obtain⟨i,b0,h1,h2⟩:=NL h;exact⟨i,b0,Sx _ h1,h2⟩
  |some bx=>
   rw[hx] at h;simp only[B3] at h;cases hb:Nat.beq j y<;>rw[hb] at h
   ·obtain⟨i,b0,h1,h2⟩:=NL h;exact⟨i,b0,Sx _ h1,h2⟩
   ·have:=Ez hb;subst this;cases h;exact⟨x,bx,by simp,hx,rfl⟩
theorem Vb{m:List (Nat × Nat)}{hp:Nat->Option Cb}:∀{l:List (Nat × Nat)} {i j:Nat},(i,j)∈l->hp i≠none->B3 (Tg m hp l) j≠none
 |[],_,_,h,_=>by simp at h
 |(x,y)::l,i,j,h,hi=>by
  unfold Tg;cases hx:hp x with
  |none=>
   rcases B7.1 h with e|h
   ·cases e;exact absurd hx hi
   ·exact Vb h hi
  |some bx=>
   simp only[B3];cases hb:Nat.beq j y
   ·rcases B7.1 h with e|h
    ·cases e;exact absurd rfl (Tw hb)
    ·exact Vb h hi
   ·simp
def ZL(m:List (Nat × Nat))(j:Nat):Option Nat:=
 match m with
 |[]=>none
 |(x,y)::r=>bif Nat.beq j y then some x else ZL r j
theorem Alr:∀{m:List (Nat × Nat)} {i j:Nat},ZL m j=some i->(i,j)∈m
 |[],_,_,h=>by cases h
 |(x,y)::m,i,j,h=>by
  unfold ZL at h;cases hb:Nat.beq j y<;>rw[hb] at h
  ·exact Sx _ (Alr h)
  ·have:=Ez hb;cases h;rw[this];simp
theorem Afv:∀{m:List (Nat × Nat)} {i j:Nat},(i,j)∈m->∃k,ZL m j=some k
 |[],_,_,h=>by simp at h
 |(x,y)::m,i,j,h=>by
  unfold ZL;cases hb:Nat.beq j y
  ·rcases B7.1 h with e|h
   ·cases e;exact absurd rfl (Tw hb)
   ·exact Afv h
  ·exact⟨x,rfl⟩
theorem Adc{f:Nat->PV}:∀{l:Cc}{i:Nat},lk (l.map fun i=>(i,f i)) i=if i∈l then f i else .top
 |[],_=>rfl
 |x::l,i=>by
  simp only[Sn,lk];cases hb:Nat.beq i x
  ·have:=Tw hb;simp only[cond_false,Adc,B7,this,false_or]
  ·have:=Ez hb;subst this;simp
theorem Abn{m:Nat}:∀{n i:Nat},i∈Su m n->i<n
 |0,_,h=>by simp[Su] at h
 |n+1,i,h=>by
  simp only[Su,B4] at h;rcases h with h|h
  ·have:=Abn h;omega
  ·cases hb:m.testBit n<;>rw[hb] at h
   ·simp at h
   ·simp at h;omega
theorem Adg(h:Cj N w0 X0 Y β s a w){m:List (Nat × Nat)}(h1:Gf (m.map (·.1))=true)(h2:Gf (m.map (·.2))=true){ls:Cc}(hls:∀i∈ls,i<N)(hpn:∀i,X0.pn i->(Ef N i,Ef N i)∈m):
  ∃β',Cj N w0 X0 Y β' ⟨lk (ls.map fun i=>(i,An4 m (s.tm i))),B3 (Tg m s.hp m)⟩ a w:=by
 refine⟨fun j=>(ZL m j).bind β,?_⟩
 have hβ:∀{i j:Nat},(i,j)∈m->(ZL m j).bind β=β i:=by
  intro i j hm;obtain⟨k,hk⟩:=Afv hm;rw[hk];have:=Aao h2 (Alr hk) hm;subst this;rfl
 have hold:∀{j:Nat} {b:Cb},B3 (Tg m s.hp m) j=some b->∃i b0,(i,j)∈m/\s.hp i=some b0/\b=Axh m b0/\(ZL m j).bind β=β i:=by
  intro j b hb;obtain⟨i,b0,hm,h3,h4⟩:=NL hb;exact⟨i,b0,hm,h3,h4,hβ hm⟩
 have Kj:∀{j:Nat},Db (B3 (Tg m s.hp m) j)->∃i,(i,j)∈m/\Db (s.hp i)/\(ZL m j).bind β=β i:=by
  intro j hl;cases hb:B3 (Tg m s.hp m) j with
  |none=>rw[hb] at hl;exact hl.elim
  |some b=>
   obtain⟨i,b0,hm,h3,rfl,h5⟩:=hold hb;refine⟨i,hm,?_,h5⟩;rw[hb] at hl;rw[h3];cases b0<;>exact hl
 have hX:∀b,JO (B3 (Tg m s.hp m)) (fun j=>(ZL m j).bind β) b->JO s.hp β b:=by
  rintro b ⟨j,o,hl,hb⟩
  obtain⟨i,_,Q7,e⟩:=Kj hl;exact⟨i,o,Q7,by rw[<-e];exact hb⟩
 have hA:∀b,D4 (B3 (Tg m s.hp m)) (fun j=>(ZL m j).bind β) Y b->D4 s.hp β Y b:=fun b hb=>hb.imp (hX b) id
 have hC:∀p v,Cz w (D4 s.hp β Y) β p v->Cz w (D4 (B3 (Tg m s.hp m)) (fun j=>(ZL m j).bind β) Y) (fun j=>(ZL m j).bind β) (Ajg m p) v:=by
  intro p v hp;cases p with
  |view id es off n=>
   show Cz _ _ _ (match GN m id with|some j=>.view j es off n|none=>.top) v;cases hj:GN m id with
   |some j=>
    have e:=hβ (MJ hj);rcases hp with⟨e1,e2⟩|⟨b,o,x,cap,e1,e2⟩
    ·exact .inl ⟨by show (ZL m j).bind β=none;rw[e];exact e1,e2⟩
    ·exact .inr ⟨b,o,x,cap,by show (ZL m j).bind β=_;rw[e];exact e1,e2⟩
   |none=>exact Bd.top _
  |ptr id off=>
   show Cz _ _ _ (match GN m id with|some j=>.ptr j off|none=>.top) v;cases hj:GN m id with
   |some j=>
    have e:=hβ (MJ hj);obtain⟨b,o,e1,e2⟩:=hp;exact⟨b,o,by show (ZL m j).bind β=_;rw[e];exact e1,e2⟩
   |none=>exact Bd.top _
  |sc v=>exact Bd.step (C6.refl _ _) (fun b _=>hA b) hp
  |lst z es n c=>exact Bd.step (C6.refl _ _) (fun b _=>hA b) hp
  |iptr c off=>exact Cz.step (p:=.iptr c off) (C6.refl _ _) (fun b _=>hA b) (by simp[Ba]) hp
  |_=>exact Bd.top _
 have hV:∀p v,Fe w (D4 s.hp β Y) β p v->Fe w (D4 (B3 (Tg m s.hp m)) (fun j=>(ZL m j).bind β) Y) (fun j=>(ZL m j).bind β) (An4 m p) v:=by
  intro p v hp;cases p with
  |agg c=>
   obtain⟨vs,e1,e2⟩:=hp;refine⟨vs,e1,Ca.of_at (by simp;exact e2.len) fun i q u hq hu=>?_⟩
   rw[List.getElem?_map] at hq;cases hc:c[i]? with
   |none=>rw[hc] at hq;cases hq
   |some q0=>
    rw[hc] at hq;cases hq;exact hC _ _ (e2.at_ hc hu)
  |view id es off n=>
   have:=hC (.view id es off n) v hp;change Cz _ _ _ (match GN m id with|some j=>.view j es off n|none=>.top) v at this;show Fe _ _ _ (match GN m id with|some j=>.view j es off n|none=>.top) v;cases hj:GN m id<;>rw[hj] at this<;>exact this
  |ptr id off=>
   have:=hC (.ptr id off) v hp;change Cz _ _ _ (match GN m id with|some j=>.ptr j off|none=>.top) v at this;show Fe _ _ _ (match GN m id with|some j=>.ptr j off|none=>.top) v;cases hj:GN m id<;>rw[hj] at this<;>exact this
  |sc v'=>exact hC (.sc v') v hp
  |lst z es n c=>exact hC (.lst z es n c) v hp
  |iptr c off=>exact hC (.iptr c off) v hp
  |_=>exact Bd.top _
 have hrC:∀p i,i∈Ba (Ajg m p)->∃k∈Ba p,(k,i)∈m:=by
  intro p i hi;cases p with
  |view id es off n=>
   change i∈Ba (match GN m id with|some j=>.view j es off n|none=>.top) at hi;cases hj:GN m id<;>rw[hj] at hi
   ·simp[Ba] at hi
   ·simp[Ba] at hi;subst hi;exact⟨id,by simp[Ba],MJ hj⟩
  |ptr id off=>
   change i∈Ba (match GN m id with|some j=>.ptr j off|none=>.top) at hi;cases hj:GN m id<;>rw[hj] at hi
   ·simp[Ba] at hi
   ·simp[Ba] at hi;subst hi;exact⟨id,by simp[Ba],MJ hj⟩
  |_=>simp[Ajg,Ba] at hi
 have hrV:∀p i,i∈Cn (An4 m p)->∃k∈Cn p,(k,i)∈m:=by
  intro p i hi;cases p with
  |agg c=>
   simp only[An4,Cn,C2,List.mem_flatMap,List.mem_map] at hi;obtain⟨_,⟨q,hq,rfl⟩,hi⟩:=hi;obtain⟨k,hk,hm⟩:=hrC q i hi;exact⟨k,by simp only[Cn,C2,List.mem_flatMap];exact⟨q,hq,hk⟩,hm⟩
  |view id es off n=>
   refine (hrC (.view id es off n) i ?_).imp fun k hk=>hk;change i∈Cn (match GN m id with|some j=>.view j es off n|none=>.top) at hi;show i∈Ba (match GN m id with|some j=>.view j es off n|none=>.top);cases hj:GN m id<;>rw[hj] at hi<;>exact hi
  |ptr id off=>
   refine (hrC (.ptr id off) i ?_).imp fun k hk=>hk;change i∈Cn (match GN m id with|some j=>.ptr j off|none=>.top) at hi;show i∈Ba (match GN m id with|some j=>.ptr j off|none=>.top);cases hj:GN m id<;>rw[hj] at hi<;>exact hi
  |_=>simp[An4,Ajg,Cn,C2,Ba] at hi
 refine⟨h.dfr,h.tsz,?_,?_,?_,?_,?_,?_,?_,?_,?_,?_,?_,?_,h.Ylt,h.fr⟩
 ·intro i hi;show lk _ i=_;rw[Adc,A4 (fun hm=>by have:=hls i hm;omega)]
 ·intro i hi;show Fe w _ _ (lk _ i) _;rw[Adc];split
  ·exact hV _ _ (h.tms i hi)
  ·exact Bd.top _
 ·intro j b hb;obtain⟨i,b0,hm,h3,rfl,e⟩:=hold hb;have P4:=h.box i b0 h3;cases b0 with
  |st c=>
   obtain⟨b,o,e1,e2,e3⟩:=P4;refine⟨b,o,by show (ZL m j).bind β=_;rw[e];exact e1,fun k p hp=>?_,fun k hk=>e3 k (by simpa using hk)⟩
   rw[List.getElem?_map] at hp;cases hc:c[k]? with
   |none=>rw[hc] at hp;cases hp
   |some q=>
    rw[hc] at hp;cases hp;obtain⟨v,hv,hr⟩:=e2 k q hc;exact⟨v,hv,hC _ _ hr⟩
  |ar fz c=>
   have:=Ys.step' hA P4;show Ys _ _ _ _ (.ar fz c);rcases this with⟨e1,e2⟩|⟨b,o,e1,e2⟩
   ·exact .inl ⟨by show (ZL m j).bind β=_;rw[e];exact e1,e2⟩
   ·exact .inr ⟨b,o,by show (ZL m j).bind β=_;rw[e];exact e1,e2⟩
  |mv=>exact trivial
 ·intro j j' b o o' hl Q7 hb Kh;obtain⟨i,hm,NK,e⟩:=Kj hl;obtain⟨i',Nh,Bbx,e'⟩:=Kj Q7;have:=h.inj i i' b o o' NK Bbx (by rw[<-e];exact hb) (by rw[<-e'];exact Kh)
  subst this;exact PA h1 hm Nh
 ·intro j b o hn hb;cases hj:B3 (Tg m s.hp m) j with
  |none=>exact absurd hj hn
  |some bx=>
   obtain⟨i,b0,_,h3,_,e⟩:=hold hj;exact h.blt i b o (by rw[h3];simp) (by rw[<-e];exact hb)
 ·intro i hi j hj;change j∈Cn (lk _ i) at hj;rw[Adc] at hj;split at hj
  ·obtain⟨k,hk,hm⟩:=hrV _ j hj;exact Vb hm (h.wfT i hi k hk)
  ·simp[Cn,C2,Ba] at hj
 ·intro j cells hb p hp k hk;obtain⟨i,b0,_,h3,h4,_⟩:=hold hb;cases b0 with
  |st c=>
   cases h4;obtain⟨q,hq,rfl⟩:=List.mem_map.1 hp;obtain⟨k',Kn,hm⟩:=hrC q k hk;exact Vb hm (h.wfB i c h3 q hq k' Kn)
  |ar fz c=>cases h4
  |mv=>cases h4
 ·intro b hb;exact h.ownd b (hX b hb)
 ·intro j bx b o hb hlb hβ1 Cr k hk;obtain⟨i,b0,_,h3,h4,e⟩:=hold hb;subst h4;refine h.rngB i b0 b o h3 ?_ (by rw[<-e];exact hβ1) Cr k ?_
  ·cases b0<;>exact hlb
  ·cases b0 with
   |st c=>simpa [BR,Axh] using hk
   |ar fz c=>exact hk
   |mv=>exact hk
 ·intro i hi;exact⟨Vb (hpn i hi) (h.pin i hi).1,(hβ (hpn i hi)).trans (h.pin i hi).2⟩
 ·intro j c b o hb hβ1 Cr;obtain⟨i,b0,hm,h3,h4,e⟩:=hold hb;cases b0 with
  |st c0=>
   obtain⟨k,rfl,hk⟩:=h.stp i c0 b o h3 (by rw[<-e];exact hβ1) Cr
   exact⟨k,PA h1 hm (hpn k hk),hk⟩
  |ar fz c0=>cases h4
  |mv=>cases h4
 ·intro b hY hb;exact h.Yx b hY (hX b hb)
theorem FA{m:List (Nat × Nat)}{q:Nat × Nat}{o n:Nat}(h:q∈m):q∈ZS m o n:=by
 unfold ZS;split
 ·exact h
 ·exact B4.2 (.inl h)
theorem R9{q:Nat × Nat}{new:Nat}:∀{c:Ab}{j:Nat}{m:List (Nat × Nat)},q∈m->q∈AL N new c j m
 |[],_,_,h=>h
 |p::c,j,m,h=>by
  unfold AL;split
  ·rename_i e;cases e
  ·rename_i e;cases e;exact R9 (FA h)
  ·rename_i e;cases e;exact R9 h
theorem Ahd{q:Nat × Nat}{m:List (Nat × Nat)}{i:Nat}(h:q∈m):q∈SV N s m i:=by
 unfold SV;split
 ·exact FA h
 ·split
  ·exact h
  ·split
   ·exact R9 (FA h)
   ·exact FA h
 ·exact R9 h
 ·exact h
theorem LD{q:Nat × Nat}:∀{l:Cc}{m:List (Nat × Nat)},q∈m->q∈l.foldl (SV N s) m
 |[],_,h=>h
 |_::l,_,h=>LD (l:=l) (Ahd h)
theorem Z5{q:Nat × Nat}{m:List (Nat × Nat)}(h:q∈m):∀k,q∈DB N s.hp k m
 |0=>h
 |k+1=>by
  unfold DB;split
  ·exact R9 (Z5 h k)
  ·exact Z5 h k
theorem Abm:∀{k i:Nat},i<k->s.hp (Ef N i)≠none->(Ef N i,Ef N i)∈Ae7 N s.hp k
 |0,_,h,_=>by omega
 |k+1,i,h,hn=>by
  unfold Ae7;by_cases e:i=k
  ·subst e
   have:(s.hp (Ef N i)).isSome=true:=by
    cases hq:s.hp (Ef N i) with
    |none=>exact absurd hq hn
    |some b=>rfl
   rw[this];simp
  ·have:=Abm (k:=k) (i:=i) (by omega) hn;cases (s.hp (Ef N k)).isSome
   ·exact this
   ·exact B4.2 (.inl this)
theorem RI(h:Cj N w0 X0 Y β s a w){L:Nat}{q:Bool}{K:St->Option R}(hk:Amz N (Su L N) q s K=some r):∃β' s',K s'=some r/\Cj N w0 X0 Y β' s' a w:=by
 unfold Amz at hk;obtain⟨hb,Fc⟩:=A5 hk;simp only[G6] at hb
 obtain⟨β2,h2⟩:∃β2,Cj N w0 X0 Y β2 (bif q then s else (Su L N).foldl (Acp N) ((Su L N).foldl (SU N) s)) a w:=by
  cases q
  ·obtain⟨β1,h1⟩:=W0 (fun s β h i=>ZD h i) (Su L N) h;obtain⟨β2,h2⟩:=W0 (fun s β h i=>Ac6 h i) (Su L N) h1;exact⟨β2,h2⟩
  ·exact⟨β,h⟩
 obtain⟨β3,h3⟩:=Adg h2 hb.1 hb.2 (ls:=Su L N) (fun i hi=>Abn hi) (fun i hi=>LD (Z5 (Abm (X0.p8 i hi) (h2.pin i hi).1) 8));exact⟨β3,_,Fc,h3⟩
theorem Cm(h:Cj N w0 X0 Y β s a w){L:Nat}{K:St->Option R}(hk:Kg N L s K=some r):∃β' s',K s'=some r/\Cj N w0 X0 Y β' s' a w:=RI h hk
theorem QC(h:Cj N w0 X0 Y β s a w){L:Nat}{K:St->Option R}(hk:Agt N L s K=some r):∃β' s',K s'=some r/\Cj N w0 X0 Y β' s' a w:=RI h hk
end
open Go.RowKit
section
variable {R:Type}{r:R}{P:Program}{N:Nat}{w0:World}{X0:Gt}{Y:Nat->Prop}{C:Kr}{call:Bq}
theorem EX{n:Nat}{F:St->Option R}{s:St}(h:TU n F s=some r):F s=some r:=by
 unfold TU at h;split at h
 ·cases h
 ·exact h
theorem QN{β:Bt}{s:St}{a:Act}{w:World}(h:Cj N w0 X0 Y β s a w){c:Operand}{kt kf:St->Option R}(hk:Aq1 s c kt kf=some r):(a.eval c=.bool true/\kt s=some r)\/(a.eval c=.bool false/\kf s=some r):=by
 unfold Aq1 at hk;split at hk
 ·rename_i d;split at hk
  ·rename_i b ht;have hv:a.eval (.tmp d)=.bool b:=D5 h (x:=.tmp d) ht;cases b
   ·change kf ⟨D2 s.tm d (.sc (.bool false)),s.hp⟩=some r at hk;rw[MM s.tm ht] at hk;exact .inr ⟨hv,hk⟩
   ·change kt ⟨D2 s.tm d (.sc (.bool true)),s.hp⟩=some r at hk;rw[MM s.tm ht] at hk;exact .inl ⟨hv,hk⟩
  ·rename_i ht;have hu:=Ew h (.tmp d);change Fe _ _ _ (s.tm d) _ at hu;rw[ht] at hu;have Oo:Bd w _ .ub (a.eval (.tmp d)):=hu
   obtain⟨b,hv⟩:∃b,a.eval (.tmp d)=.bool b:=by
    generalize a.eval (.tmp d)=x at Oo;cases Oo with
    |ub b=>exact⟨b,rfl⟩
   obtain⟨h1,h2⟩:=Aa2 hk;cases b
   ·exact .inr ⟨hv,h2⟩
   ·exact .inl ⟨hv,h1⟩
  ·cases hk
 ·exact .inl ⟨rfl,hk⟩
 ·exact .inr ⟨rfl,hk⟩
 ·cases hk
theorem WH{c:Code}{Q:Exit->Act->World->Prop}{F:(St->Option R)->St->Option R}{nm:St->(St->Option R)->Option R}(hnm:∀{β s a w} {K:St->Option R},Cj N w0 X0 Y β s a w->nm s K=some r->∃β' s',K s'=some r/\Cj N w0 X0 Y β' s' a w)(hF:∀{β s a w} {K:St->Option R}{Q':Act->World->Prop},Cj N w0 X0 Y β s a w->F K s=some r->(∀s' a' w' β',K s'=some r->Cj N w0 X0 Y β' s' a' w'->Q' a' w')->c.wp P (Exit.then Q' Q) a w):
  ∀(n:Nat) {β s a w},Cj N w0 X0 Y β s a w->YT F nm n s=some r->Code.rounds P c Q n a w
 |0,_,_,_,_,_,hk=>by cases hk
 |n+1,β,s,a,w,h,hk=>by
  rw[rounds_succ];refine hF h hk fun s' a' w' β' Kn h'=>?_;obtain⟨β1,s1,Fc,h1⟩:=hnm h' Kn;exact WH hnm hF n h1 Fc
theorem JR{G:Ze}(Lg:RO P G w0 X0)(Dn:∀f args res,call f args=some res->Dr G P f args res)(hm:P.follows .mixedOrders=true){fu:Nat}:
  ∀(c:Code) {ln:Nat} {lx:Nat->Nat} {lr:Nat} {kn:St->Option R} {kx:Nat->St->Option R} {kr:St->Option R} {β:Bt} {s:St} {a:Act} {w:World} {Q:Exit->Act->World->Prop},Cj N w0 X0 Y β s a w ->
   Ph C P fu N call c ln lx lr kn kx kr s=some r->(∀s' a' w' β',kn s'=some r->Cj N w0 X0 Y β' s' a' w'->Q .normal a' w') ->
   (∀id s' a' w' β',kx id s'=some r->Cj N w0 X0 Y β' s' a' w'->Q (.exit id) a' w')->(∀s' a' w' β',kr s'=some r->Cj N w0 X0 Y β' s' a' w'->Q .ret a' w')->c.wp P Q a w:=by
 intro c
 induction c with
 |skip=>intro ln lx lr kn kx kr β s a w Q h hk hn hx hr;exact wp_skip (hn s a w β hk h)
 |region id ops draw=>
  intro ln lx lr kn kx kr β s a w Q h hk hn hx hr;unfold Ph at hk;cases draw
  ·simp only[YH,Zzs,cond_false] at hk;exact Ad0 h Lg Dn hk hn
  ·simp only[YH,Asx,Zzm,cond_true] at hk;cases hb:XG C P ops<;>rw[hb] at hk
   ·obtain⟨Kh,Fc⟩:=A5 (show As _ _=some r from hk);exact Ahq h Lg Dn hm Kh Fc hn
   ·exact Ac5 h Lg Dn hm hb hk hn
 |seq c1 c2 ih1 ih2=>
  intro ln lx lr kn kx kr β s a w Q h hk hn hx hr;unfold Ph at hk
  refine wp_seq (ih1 h hk (fun s' a' w' β' Kn h'=>by
    cases hc:Ank P c1 c2
    ·rw[hc] at Kn;exact ih2 h' Kn hn hx hr
    ·rw[hc] at Kn;cases hq:LX c1 c2
     ·rw[hq] at Kn;obtain⟨β1,s1,Fc,h1⟩:=Cm h' (show Kg _ _ _ _=some r from Kn);exact ih2 h1 (EX Fc) hn hx hr
     ·rw[hq] at Kn;obtain⟨β1,s1,Fc,h1⟩:=QC h' (show Agt _ _ _ _=some r from Kn);exact ih2 h1 (EX Fc) hn hx hr) (fun id s' a' w' β' Kn h'=>hx id s' a' w' β' Kn h') (fun s' a' w' β' Kn h'=>hr s' a' w' β' Kn h'))
 |cond c c1 c2 ih1 ih2=>
  intro ln lx lr kn kx kr β s a w Q h hk hn hx hr;unfold Ph at hk;rcases QN h hk with⟨hc,Fc⟩|⟨hc,Fc⟩
  ·exact wp_cond_true hc (ih1 h Fc hn hx hr)
  ·exact wp_cond_false hc (ih2 h Fc hn hx hr)
 |block id c ih=>
  intro ln lx lr kn kx kr β s a w Q h hk hn hx hr;unfold Ph at hk;refine wp_block (ih h hk (fun s' a' w' β' Kn h'=>hn s' a' w' β' Kn h') (fun j s' a' w' β' Kn h'=>?_) (fun s' a' w' β' Kn h'=>hr s' a' w' β' Kn h'));show (if j=id then _ else _);by_cases e:j=id
  ·subst e;rw[Bn rfl];rw[P6] at Kn;exact hn s' a' w' β' Kn h'
  ·rw[A4 e]
   have:Nat.beq j id=false:=by
    cases hb:Nat.beq j id
    ·rfl
    ·exact absurd (Ez hb) e
   rw[this] at Kn;exact hx j s' a' w' β' Kn h'
 |loop c ih=>
  intro ln lx lr kn kx kr β s a w Q h hk hn hx hr;unfold Ph at hk;obtain⟨β1,s1,Fc,h1⟩:=Cm h hk;refine wp_loop_rounds fu (WH (fun h hk=>Cm h hk) (fun h hk hQ=>?_) fu h1 Fc);exact ih h hk hQ (fun id s' a' w' β' Kn h'=>hx id s' a' w' β' Kn h') (fun s' a' w' β' Kn h'=>hr s' a' w' β' Kn h')
 |«exit» id=>intro ln lx lr kn kx kr β s a w Q h hk hn hx hr;exact wp_exit (hx id s a w β hk h)
 |ret=>intro ln lx lr kn kx kr β s a w Q h hk hn hx hr;exact wp_ret (hr s a w β hk h)
 |_=>intro ln lx lr kn kx kr β s a w Q h hk hn hx hr;cases hk
end
open Go.RowKit
theorem Ts:∀{l:List (Nat × Cb)} {i:Nat}{b:Cb},B3 l i=some b->(i,b)∈l
 |[],_,_,h=>by cases h
 |(j,c)::l,i,b,h=>by
  unfold B3 at h;cases hb:Nat.beq i j<;>rw[hb] at h
  ·exact Sx _ (Ts h)
  ·have:=Ez hb;cases h;rw[this];simp
theorem Acv:∀{l:List (Nat × Cb)},(l.map (·.1)).Nodup->∀{i b},(i,b)∈l->B3 l i=some b
 |[],_,_,_,h=>by cases h
 |(j,c)::l,hn,i,b,h=>by
  simp only[Sn,List.nodup_cons] at hn;unfold B3;rcases B7.1 h with e|h
  ·cases e;simp only[P6,cond_true]
  ·have:Nat.beq i j=false:=by
    cases hb:Nat.beq i j
    ·rfl
    ·exact absurd (Ez hb ▸ List.mem_map.2 ⟨_,h,rfl⟩) hn.1
   simp only[this,cond_false];exact Acv hn.2 h
section
variable {R:Type}{r:R}{P:Program}{N:Nat}{w0:World}{X0:Gt}{Y:Nat->Prop}{β β':Bt}{s:St}{a:Act}{w w':World}{A:Nat->Prop}
theorem Aro{id:Nat}{t:CT}{p:PV}{K:PV->List (Nat × Cb)->Option R}(hk:Aq8 id t p K=some r):
  (∃c,K c []=some r/\GT c/\∀w A q u,Lf w A q p u->Bd w A c u)\/∃es n cc,p=.own es n cc/\K (.view id es 0 n) [(id,.ar false cc)]=some r:=by
 have tree:∀t',(NM t' p fun c=>K c [])=some r->∃c,K c []=some r/\GT c/\∀w A q u,Lf w A q p u->Bd w A c u:=by
  intro t' hk;obtain⟨c,hk,hT,WN,hv⟩:=To hk;refine⟨c,hk,hT,fun w A q u h=>(hv w A (fun _=>none) u ?_).1⟩;cases p<;>first|exact h|exact WN.elim
 unfold Aq8 at hk;cases t with
 |sl es=>
  dsimp only at hk;split at hk
  ·rename_i es' n c;cases hb:Nat.beq es' es<;>rw[hb] at hk
   ·cases hk
   ·have:=Ez hb;subst this;exact .inr ⟨_,_,_,rfl,hk⟩
  ·exact .inl (tree (.sl es) hk)
 |int k=>exact .inl (tree _ hk)
 |bool=>exact .inl (tree _ hk)
 |str=>exact .inl (tree _ hk)
 |any=>exact .inl (tree _ hk)
theorem Zb:∀{ts:List CT}{id:Nat}{ps:Ab}{K:Ab->List (Nat × Cb)->Option R},RG N id ts ps K=some r ->
  ∃cs bs,∃qs:List (Nat × Nat),K cs bs=some r/\cs.length=ps.length/\ps.length=ts.length/\bs.map (·.1)=qs.map (·.1)/\(∀q∈qs,∀q'∈qs,q.2=q'.2->q.1=q'.1) /\
   (∀i bx,(i,bx)∈bs->∃c,bx=.ar false c)/\(∀c∈cs,YX c)/\(∀c∈cs,∀i∈Ba c,∃bx,(i,bx)∈bs) /\
   ∀(w:World) (A:Nat->Prop) (own β':Bt) (j0:Nat) (us:List Value),(∀q∈qs,β' q.1=own (j0+q.2))->Iu w A own j0 ps us->Ca (Cz w A β') cs us/\∀i bx,(i,bx)∈bs->Ys w A β' i bx
 |[],id,ps,K,hk=>by
  obtain⟨rfl,hk⟩:=Fh hk;refine⟨[],[],[],hk,rfl,rfl,rfl,by simp,by simp,by simp,by simp,fun w A own β' j0 us _ h=>⟨?_,by simp⟩⟩;cases us with
  |nil=>trivial
  |cons u us=>exact h.elim
 |t::ts,id,ps,K,hk=>by
  unfold RG at hk;obtain⟨p,ps',QQ,Fc⟩:=Bv hk;subst QQ;rcases Aro Fc with⟨c,Hv,hT,hv⟩|⟨es,n,cc,rfl,Hv⟩
  ·obtain⟨cs,bs,qs,X3,hl,SQ,hb,TC,Jt,hF,Q6,Xt⟩:=Zb Hv;refine⟨c::cs,bs,qs.map (fun q=>(q.1,q.2+1)),X3,by simp[hl],by simp[SQ],by rw[hb];simp,?_,Jt,?_,?_,fun w A own β' j0 us hβ ho=>?_⟩
   ·intro q hq q' Jc e;obtain⟨q0,JH,rfl⟩:=List.mem_map.1 hq;obtain⟨q1,Pn,rfl⟩:=List.mem_map.1 Jc;exact TC q0 JH q1 Pn (by simp only at e;omega)
   ·intro y hy;rcases B7.1 hy with rfl|hy
    ·exact AV hT
    ·exact hF y hy
   ·intro y hy i hi;rcases B7.1 hy with rfl|hy
    ·rw[Ml hT] at hi;cases hi
    ·exact Q6 y hy i hi
   ·cases us with
    |nil=>exact ho.elim
    |cons u us=>
     obtain⟨h1,h2⟩:=Xt w A own β' (j0+1) us (fun q hq=>by rw[hβ _ (List.mem_map_of_mem hq)];congr 1;simp only;omega) ho.2
     exact⟨⟨Aup (hv w A _ u ho.1),h1⟩,h2⟩
  ·obtain⟨cs,bs,qs,X3,hl,SQ,hb,TC,Jt,hF,Q6,Xt⟩:=Zb Hv;refine⟨_::cs,(id,.ar false cc)::bs,(id,0)::qs.map (fun q=>(q.1,q.2+1)),X3,by simp[hl],by simp[SQ],by simp only[Sn,hb];simp,?_,?_,?_,?_,fun w A own β' j0 us hβ ho=>?_⟩
   ·intro q hq q' Jc e;rcases B7.1 hq with rfl|hq
    ·rcases B7.1 Jc with rfl|Jc
     ·rfl
     ·obtain⟨q0,JH,rfl⟩:=List.mem_map.1 Jc;simp only at e;omega
    ·obtain⟨q0,JH,rfl⟩:=List.mem_map.1 hq;rcases B7.1 Jc with rfl|Jc
     ·simp only at e;omega
     ·obtain⟨q1,Pn,rfl⟩:=List.mem_map.1 Jc;exact TC q0 JH q1 Pn (by simp only at e;omega)
   ·intro i bx hm;rcases B7.1 hm with e|hm
    ·cases e;exact⟨cc,rfl⟩
    ·exact Jt i bx hm
   ·intro y hy;rcases B7.1 hy with rfl|hy
    ·trivial
    ·exact hF y hy
   ·intro y hy i hi;rcases B7.1 hy with rfl|hy
    ·simp only[Ba,M0] at hi;subst hi;exact⟨_,KS⟩
    ·obtain⟨bx,P4⟩:=Q6 y hy i hi;exact⟨bx,Sx _ P4⟩
   ·cases us with
    |nil=>exact ho.elim
    |cons u us=>
     obtain⟨h1,h2⟩:=Xt w A own β' (j0+1) us (fun q hq=>by rw[hβ _ (Sx _ (List.mem_map_of_mem hq))];congr 1;simp only;omega) ho.2
     have h0:=hβ (id,0) KS;simp only[JY] at h0;refine⟨⟨?_,h1⟩,fun i bx hm=>?_⟩
     ·rcases ho.1 with⟨h3,rfl,_,h5⟩|⟨b,ob,cap,h3,h4,h5,h6,h7,_⟩
      ·exact .inl ⟨h0.trans h3,rfl,rfl,h5⟩
      ·exact .inr ⟨b,ob,ob,cap,h0.trans h3,h4,.inl rfl,h5,h6,h7⟩
     ·rcases B7.1 hm with e|hm
      ·cases e;exact KN ho.1 h0
      ·exact h2 i bx hm
theorem Axp{i:Nat}{t:TypeId}{p:PV}{K:PV->List (Nat × Cb)->Option R}(hk:inK P N i t p K=some r):
  ∃v bs,∃qs:List (Nat × Nat),K v bs=some r/\bs.map (·.1)=qs.map (·.1)/\(∀q∈qs,∀q'∈qs,q.2=q'.2->q.1=q'.1)/\(KM p=true->(Ef N i,0)∈qs/\i<8) /\
   (∀id bx,(id,bx)∈bs->Db (some bx)/\∀c,bx=.st c->id=Ef N i/\KM p=true)/\(∀id∈Cn v,∃bx,(id,bx)∈bs)/\PM bs /\
   ∀(w:World) (A:Nat->Prop) (bt β':Bt) (u:Value),(∀q∈qs,β' q.1=bt q.2)->Aim w A bt p u->Fe w A β' v u/\(∀id bx,(id,bx)∈bs->Ys w A β' id bx) /\
    ∀id bx b o,(id,bx)∈bs->β' id=some (b,o)->∀j,BR bx o j->A4g bt p b j:=by
 have owns:∀{bs:List (Nat × Cb)} {qs:List (Nat × Nat)},bs.map (·.1)=qs.map (·.1)->(∀i bx,(i,bx)∈bs->∃c,bx=.ar false c)->∀{bt β':Bt},(∀q∈qs,β' q.1=bt (1+q.2))->∀id bx b o,(id,bx)∈bs->β' id=some (b,o)->∀j,BR bx o j->∃k o',bt (k+1)=some (b,o')/\o'<=j:=by
  intro bs qs hb Jt bt β' hβ id bx b o hm hbo j hj;have:id∈qs.map (·.1):=by rw[<-hb];exact List.mem_map.2 ⟨_,hm,rfl⟩
  obtain⟨q,hq,rfl⟩:=List.mem_map.1 this;obtain⟨c,rfl⟩:=Jt _ _ hm;rw[hβ q hq,Nat.add_comm] at hbo;exact⟨q.2,o,hbo,hj⟩
 have nost:∀{bs:List (Nat × Cb)},(∀i bx,(i,bx)∈bs->∃c,bx=.ar false c)->PM bs:=by
  intro bs Jt id cells hm;obtain⟨c,e⟩:=Jt id _ hm;cases e
 unfold inK at hk;split at hk
 ·rename_i e he;obtain⟨ps,rfl,Fc⟩:=Abl hk;obtain⟨hi8,Hv⟩:=A5 Fc;have hi8:i<8:=Nat.lt_of_succ_le (Ya hi8);obtain⟨cs,bs,qs,X3,hl,SQ,hb,TC,Jt,hF,Q6,hv⟩:=Zb Hv;refine⟨_,_,(Ef N i,0)::qs.map (fun q=>(q.1,q.2+1)),X3,by simp only[Sn,hb];simp,?_,fun _=>⟨KS,hi8⟩,?_,?_,?_,fun w A bt β' u hβ hp=>?_⟩
  ·intro q hq q' Jc e;rcases B7.1 hq with rfl|hq
   ·rcases B7.1 Jc with rfl|Jc
    ·rfl
    ·obtain⟨q0,JH,rfl⟩:=List.mem_map.1 Jc;simp only at e;omega
   ·obtain⟨q0,JH,rfl⟩:=List.mem_map.1 hq;rcases B7.1 Jc with rfl|Jc
    ·simp only at e;omega
    ·obtain⟨q1,Pn,rfl⟩:=List.mem_map.1 Jc;exact TC q0 JH q1 Pn (by simp only at e;omega)
  ·intro id bx hm;rcases B7.1 hm with e|hm
   ·cases e;exact⟨trivial,fun _ _=>⟨rfl,rfl⟩⟩
   ·obtain⟨c,rfl⟩:=Jt id bx hm;exact⟨trivial,fun _ e=>by cases e⟩
  ·intro id B6;simp only[Cn,C2,Ba,M0] at B6;subst B6;exact⟨_,KS⟩
  ·intro id cells hm c hc k hk;rcases B7.1 hm with e|hm
   ·cases e;obtain⟨bx,P4⟩:=Q6 c hc k hk;exact⟨bx,Sx _ P4⟩
   ·obtain⟨c,e⟩:=Jt id _ hm;cases e
  ·obtain⟨b,o,h1,rfl,_,vs,h3,h4,h5⟩:=hp;have h0:=hβ (Ef N i,0) KS;simp only at h0;have hβ1:∀q∈qs,β' q.1=bt (1+q.2):=fun q hq=>by rw[hβ _ (Sx _ (List.mem_map_of_mem hq)),Nat.add_comm]
   obtain⟨h6,h7⟩:=hv w A bt β' 1 vs hβ1 h3;refine⟨⟨b,o,h0.trans h1,by simp⟩,fun id bx hm=>?_,fun id bx b' o' hm Kh j hj=>?_⟩
   ·rcases B7.1 hm with e|hm
    ·cases e;refine⟨b,o,h0.trans h1,fun k c hk=>?_,fun k hk=>h5 k (by omega)⟩;obtain⟨v,hv,hcr⟩:=h6.get hk;exact⟨v,h4 k v hv,hcr⟩
    ·exact h7 id bx hm
   ·rcases B7.1 hm with e|hm
    ·cases e;rw[h0] at Kh;have hj:o'<=j/\j<o'+cs.length:=hj;exact .inr ⟨o',ps,Kh,hj.1,.inl ⟨rfl,by omega⟩⟩
    ·exact .inl (owns hb Jt hβ1 id bx b' o' hm Kh j hj)
 ·split at hk
  ·rename_i ps;obtain⟨e,he,Fc⟩:=Eh hk;obtain⟨hi8,Hv⟩:=A5 Fc;have hi8:i<8:=Nat.lt_of_succ_le (Ya hi8);obtain⟨q,qr,hq,X3⟩:=Bv Hv;subst hq;obtain⟨RQ,Xr⟩:=Fh X3;subst RQ;unfold J0 at Xr;split at Xr
   ·rename_i es' n c;cases hb:Nat.beq es' (Bw P e)<;>rw[hb] at Xr
    ·cases Xr
    ·have QV:=Ez hb;subst QV;refine⟨_,_,[(Ef N i,0)],Xr,rfl,by simp,fun _=>⟨by simp,hi8⟩,?_,?_,?_,fun w A bt β' u hβ hp=>?_⟩
     ·intro id bx hm;simp only[M0] at hm;cases hm;exact⟨trivial,fun _ e=>by cases e⟩
     ·intro id B6;simp only[Cn,C2,Ba,M0] at B6;subst B6;exact⟨_,KS⟩
     ·intro id cells hm;simp only[M0] at hm;cases hm
     ·obtain⟨es,n',c',h1,h2⟩:=hp;cases h1;have h0:=hβ (Ef N i,0) KS;simp only at h0;refine⟨?_,fun id bx hm=>?_,fun id bx b' o' hm Kh j hj=>?_⟩
      ·rcases h2 with⟨h3,rfl,_,h5⟩|⟨b,ob,cap,h3,h4,h5,h6,h7,_⟩
       ·exact .inl ⟨h0.trans h3,rfl,rfl,h5⟩
       ·exact .inr ⟨b,ob,ob,cap,h0.trans h3,h4,.inl rfl,h5,h6,h7⟩
      ·simp only[M0] at hm;cases hm;exact KN h2 h0
      ·simp only[M0] at hm;cases hm;rw[h0] at Kh;exact .inr ⟨o',_,Kh,hj,.inr rfl⟩
   ·cases Xr
  ·rename_i hnt;cases Jy:C9 P t<;>rw[Jy] at hk
   ·simp only[cond_false] at hk;obtain⟨cs,bs,qs,X3,hl,SQ,hb,TC,Jt,hF,Q6,hv⟩:=Zb hk;obtain⟨c,cs',hcs,Xr⟩:=Bv X3;subst hcs;obtain⟨RQ,hk5⟩:=Fh Xr;subst RQ;have hFc:=hF c (by simp)
    have hnL:KM p=false\/∃ps,p=.pbox ps:=by
     cases p<;>first|exact .inl rfl|exact .inr ⟨_,rfl⟩|exact absurd rfl (hnt _)
    have hpb:∀ps,p ≠ .pbox ps:=by
     rintro ps rfl
     cases hts:M5 P t with
     |nil=>rw[hts] at SQ;simp at SQ
     |cons t' ts=>
      rw[hts] at hk;unfold RG Aq8 at hk;obtain⟨q,qs1,hq,Fc⟩:=Bv hk;cases hq;cases t'<;>simp[NM,Ow,Be,Cg,Ec,fnK] at Fc
    have hpa:∀ps,p ≠ .agg ps:=by
     rintro ps rfl
     cases hts:M5 P t with
     |nil=>rw[hts] at SQ;simp at SQ
     |cons t' ts=>
      rw[hts] at hk;unfold RG Aq8 at hk;obtain⟨q,qs1,hq,Fc⟩:=Bv hk;cases hq;cases t'<;>simp[NM,Ow,Be,Cg,Ec,fnK] at Fc
    have hnL:KM p=false:=hnL.elim id (fun ⟨ps,e⟩=>absurd e (hpb ps));have HN:Cn c=Ba c:=by cases c<;>first|rfl|exact hFc.elim
    refine⟨c,bs,qs.map (fun q=>(q.1,q.2+1)),hk5,by rw[hb];simp,?_,(fun h=>by rw[hnL] at h;cases h),?_,fun id B6=>Q6 c (by simp) id (by rw[<-HN];exact B6),nost Jt,fun w A bt β' u hβ hp=>?_⟩
    ·intro q hq q' Jc e;obtain⟨q0,JH,rfl⟩:=List.mem_map.1 hq;obtain⟨q1,Pn,rfl⟩:=List.mem_map.1 Jc;exact TC q0 JH q1 Pn (by simp only at e;omega)
    ·intro id bx hm;obtain⟨c,rfl⟩:=Jt id bx hm;exact⟨trivial,fun _ e=>by cases e⟩
    ·have Dg:Lf w A (bt 1) p u:=by cases p<;>first|exact hp.2|exact absurd rfl (hpa _)|exact absurd rfl (hpb _)|exact absurd rfl (hnt _)
     have hβ1:∀q∈qs,β' q.1=bt (1+q.2):=fun q hq=>by rw[hβ _ (List.mem_map_of_mem hq),Nat.add_comm]
     obtain⟨h6,h7⟩:=hv w A bt β' 1 [u] hβ1 ⟨Dg,trivial⟩;refine⟨?_,h7,fun id bx b' o' hm Kh j hj=>.inl (owns hb Jt hβ1 id bx b' o' hm Kh j hj)⟩;have h8:=h6.1;cases c<;>first|exact h8|exact hFc.elim
   ·simp only[cond_true] at hk;obtain⟨ps,hp0,Fc⟩:=Lx hk;subst hp0;obtain⟨cs,bs,qs,X3,hl,SQ,hb,TC,Jt,hF,Q6,hv⟩:=Zb Fc;refine⟨_,bs,qs.map (fun q=>(q.1,q.2+1)),X3,by rw[hb];simp,?_,(fun h=>by cases h),?_,fun id B6=>?_,nost Jt,fun w A bt β' u hβ hp=>?_⟩
    ·intro q hq q' Jc e;obtain⟨q0,JH,rfl⟩:=List.mem_map.1 hq;obtain⟨q1,Pn,rfl⟩:=List.mem_map.1 Jc;exact TC q0 JH q1 Pn (by simp only at e;omega)
    ·intro id bx hm;obtain⟨c,rfl⟩:=Jt id bx hm;exact⟨trivial,fun _ e=>by cases e⟩
    ·obtain⟨c,hc,hi⟩:=List.mem_flatMap.1 (show id∈cs.flatMap Ba from B6);exact Q6 c hc id hi
    ·obtain⟨vs,h1,_,h3⟩:=hp;have hβ1:∀q∈qs,β' q.1=bt (1+q.2):=fun q hq=>by rw[hβ _ (List.mem_map_of_mem hq),Nat.add_comm]
     obtain⟨h6,h7⟩:=hv w A bt β' 1 vs hβ1 h3;exact⟨⟨vs,h1,h6⟩,h7,fun id bx b' o' hm Kh j hj=>.inl (owns hb Jt hβ1 id bx b' o' hm Kh j hj)⟩
theorem Aig:∀{ts:List TypeId}{i:Nat}{ps:Ab}{K:List (Nat × PV)->List (Nat × Cb)->Option R},Aji P N i ts ps K=some r ->
  ∃tms bs,∃qs:List (Nat × Nat × Nat),K tms bs=some r/\bs.map (·.1)=qs.map (·.1)/\(∀q∈qs,i<=q.2.1)/\(∀q∈qs,∀q'∈qs,q.2=q'.2->q.1=q'.1) /\
   (∀k p,ps[k]?=some p->KM p=true->(Ef N (i+k),i+k,0)∈qs/\i+k<8)/\(∀id bx,(id,bx)∈bs->Db (some bx)/\∀c,bx=.st c->∃k p,ps[k]?=some p/\KM p=true/\id=Ef N (i+k)) /\
   (∀j,∀id∈Cn (lk tms j),∃bx,(id,bx)∈bs)/\PM bs /\
   ∀(w:World) (A:Nat->Prop) (bt:QS) (β':Bt) (us:List Value),(∀q∈qs,β' q.1=bt q.2.1 q.2.2)->Sl w A bt i ps us ->
    (∀j,(∃u,i<=j/\us[j-i]?=some u/\Fe w A β' (lk tms j) u)\/(lk tms j=.top/\(i<=j->us[j-i]?=none)))/\(∀id bx,(id,bx)∈bs->Ys w A β' id bx) /\
    ∀id bx b o,(id,bx)∈bs->β' id=some (b,o)->∀j,BR bx o j->∃k p,ps[k]?=some p/\A4g (bt (i+k)) p b j
 |[],i,ps,K,hk=>by
  obtain⟨QQ,hk⟩:=Fh hk;subst QQ;refine⟨[],[],[],hk,rfl,by simp,by simp,by simp,by simp,(fun j id B6=>by cases B6),(by intro i cells hm;cases hm),fun w A bt β' us _ h=>?_⟩
  cases us with
  |nil=>exact⟨fun j=>.inr ⟨rfl,fun _=>by simp⟩,by simp,by simp⟩
  |cons u us=>exact h.elim
 |t::ts,i,ps,K,hk=>by
  unfold Aji at hk;obtain⟨p,ps',QQ,Fc⟩:=Bv hk;subst QQ;obtain⟨v,bs,qs,Hv,hb,hqi,EC,P4,hr,hri,hv⟩:=Axp Fc;obtain⟨tms,bs',qs',X3,Kh,A4h,A9t,A68,Ba5,hr',Bat,Wv⟩:=Aig Hv;refine⟨(i,v)::tms,bs++bs',qs.map (fun q=>(q.1,i,q.2))++qs',X3,by simp only[List.map_append,hb,Kh];simp,?_,?_,?_,?_,?_,?_,fun w A bt β' us hβ hp=>?_⟩
  ·intro q hq;rcases B4.1 hq with hq|hq
   ·obtain⟨q0,JH,rfl⟩:=List.mem_map.1 hq;exact Da _
   ·have:=A4h q hq;omega
  ·intro q hq q' Jc e;rcases B4.1 hq with hq|hq
   ·obtain⟨q0,JH,rfl⟩:=List.mem_map.1 hq;rcases B4.1 Jc with Jc|Jc
    ·obtain⟨q1,Pn,rfl⟩:=List.mem_map.1 Jc;simp only[Prod.mk.injEq,true_and] at e;exact hqi q0 JH q1 Pn e
    ·have:=A4h q' Jc;rw[<-e] at this;simp only at this;omega
   ·have h5:=A4h q hq;rcases B4.1 Jc with Jc|Jc
    ·obtain⟨q1,Pn,rfl⟩:=List.mem_map.1 Jc;rw[e] at h5;simp only at h5;omega
    ·exact A9t q hq q' Jc e
  ·intro k p' Kn hL;cases k with
   |zero=>
    simp only[List.getElem?_cons_zero,Option.some.injEq] at Kn;subst Kn;obtain⟨h1,h2⟩:=EC hL;exact⟨B4.2 (.inl (List.mem_map.2 ⟨_,h1,rfl⟩)),h2⟩
   |succ k=>
    obtain⟨h1,h2⟩:=A68 k p' (by simpa using Kn) hL;rw[show i+1+k=i+(k+1) by omega] at h1 h2;exact⟨B4.2 (.inr h1),h2⟩
  ·intro id bx hm;rcases B4.1 hm with hm|hm
   ·obtain⟨h1,h2⟩:=P4 id bx hm;exact⟨h1,fun c hc=>⟨0,p,rfl,(h2 c hc).2,(h2 c hc).1⟩⟩
   ·obtain⟨h1,h2⟩:=Ba5 id bx hm;refine⟨h1,fun c hc=>?_⟩;obtain⟨k,p',h3,h4,h5⟩:=h2 c hc;exact⟨k+1,p',by simpa using h3,h4,by rw[h5,show i+1+k=i+(k+1) by omega]⟩
  ·intro j id B6;unfold lk at B6;cases hbq:Nat.beq j i<;>rw[hbq] at B6
   ·obtain⟨bx,h1⟩:=hr' j id B6;exact⟨bx,B4.2 (.inr h1)⟩
   ·obtain⟨bx,h1⟩:=hr id B6;exact⟨bx,B4.2 (.inl h1)⟩
  ·intro id cells hm c hc k hk;rcases B4.1 hm with hm|hm
   ·obtain⟨bx,h1⟩:=hri id cells hm c hc k hk;exact⟨bx,B4.2 (.inl h1)⟩
   ·obtain⟨bx,h1⟩:=Bat id cells hm c hc k hk;exact⟨bx,B4.2 (.inr h1)⟩
  ·cases us with
   |nil=>exact hp.elim
   |cons u us=>
    obtain⟨h1,h2,h3⟩:=hv w A (bt i) β' u (fun q hq=>hβ _ (B4.2 (.inl (List.mem_map_of_mem hq)))) hp.1;obtain⟨h1',h2',h3'⟩:=Wv w A bt β' us (fun q hq=>hβ q (B4.2 (.inr hq))) hp.2;refine⟨fun j=>?_,fun id bx hm=>?_,fun id bx b o hm hbo j hj=>?_⟩
    ·unfold lk;cases hbq:Nat.beq j i
     ·have Gu:=Tw hbq;simp only[cond_false];rcases h1' j with⟨u',h4,h5,h6⟩|⟨h4,h5⟩
      ·refine .inl ⟨u',by omega,?_,h6⟩;rw[show j-i=(j-(i+1))+1 by omega]
       simpa using h5
      ·refine .inr ⟨h4,fun hij=>?_⟩;rw[show j-i=(j-(i+1))+1 by omega]
       simpa using h5 (by omega)
     ·have:=Ez hbq;subst this;exact .inl ⟨u,Da _,by simp,h1⟩
    ·rcases B4.1 hm with hm|hm
     ·exact h2 id bx hm
     ·exact h2' id bx hm
    ·rcases B4.1 hm with hm|hm
     ·exact⟨0,p,rfl,h3 id bx b o hm hbo j hj⟩
     ·obtain⟨k,p',h4,h5⟩:=h3' id bx b o hm hbo j hj;exact⟨k+1,p',by simpa using h4,by rw[show i+(k+1)=i+1+k by omega];exact h5⟩
def HU(bt:QS)(args:Ab)(h8:∀k p,args[k]?=some p->KM p=true->k<8):Gt:=
 ⟨BtX bt,Aan bt args,fun i=>∃p,args[i]?=some p/\KM p=true,fun i=>bt i 0,fun i ⟨p,h1,h2⟩=>h8 i p h1 h2⟩
theorem OP{ts:List TypeId}{args:Ab}{us:List Value}{bt:QS}{K:List (Nat × PV)->List (Nat × Cb)->Option R}(FN:Ins w Y bt args us)(hk:Aji P N 0 ts args K=some r):
  ∃tms bs,K tms bs=some r/\(C3 (fun _=>none) bs=true->us.length<=N->∃(h8:∀k p,args[k]?=some p->KM p=true->k<8),∃β0,
   Cj N w (HU bt args h8) Y β0 ⟨lk tms,B3 bs⟩ { tmps:=us.toArray++Array.replicate (N-us.toArray.size) undef,defers:=[] } w):=by
 obtain⟨tms,bs,qs,Fc,hb,JH,hqi,EC,P4,hr,hri,hv⟩:=Aig hk;refine⟨tms,bs,Fc,fun X1 hN=>?_⟩;have Akz:=BC X1
 have h8:∀k p,args[k]?=some p->KM p=true->k<8:=fun k p h1 h2=>by
  have:=(EC k p h1 h2).2;omega
 have XY:(qs.map (·.1)).Nodup:=by rw[<-hb];exact Akz
 obtain⟨β0,hβ0⟩:∃β0:Bt,∀q∈qs,β0 q.1=bt q.2.1 q.2.2:=by
  have:∀(l:List (Nat × Nat × Nat)),(l.map (·.1)).Nodup->∃β0:Bt,∀q∈l,β0 q.1=bt q.2.1 q.2.2:=by
   intro l
   induction l with
   |nil=>intro _;exact⟨fun _=>none,by simp⟩
   |cons q l ih=>
    intro hn;simp only[Sn,List.nodup_cons] at hn;obtain⟨b1,h1⟩:=ih hn.2;refine⟨D2 b1 q.1 (bt q.2.1 q.2.2),fun q' Jc=>?_⟩;rcases B7.1 Jc with rfl|Jc
    ·exact A8 _ _ _
    ·have Gu:q'.1≠q.1:=fun e=>hn.1 (by rw[<-e];exact List.mem_map.2 ⟨q',Jc,rfl⟩)
     rw[Ax _ _ Gu];exact h1 q' Jc
  exact this qs XY
 refine⟨h8,β0,?_⟩;obtain⟨hs,hbr,hL⟩:=hv w _ bt β0 us hβ0 FN.args
 have hqm:∀id bx,(id,bx)∈bs->∃ik,(id,ik)∈qs/\β0 id=bt ik.1 ik.2:=by
  intro id bx hm;have:id∈qs.map (·.1):=by rw[<-hb];exact List.mem_map.2 ⟨_,hm,rfl⟩
  obtain⟨q,hq,rfl⟩:=List.mem_map.1 this;exact⟨q.2,hq,hβ0 q hq⟩
 have hX:∀b,JO (B3 bs) β0 b->BtX bt b:=by
  rintro b ⟨id,o,hl,hβ⟩
  cases hq:B3 bs id with
  |none=>rw[hq] at hl;exact hl.elim
  |some bx=>
   obtain⟨ik,_,h2⟩:=hqm id bx (Ts hq);rw[h2] at hβ;exact⟨_,_,_,hβ⟩
 have hA:∀b,D4 (B3 bs) β0 Y b->BtX bt b\/Y b:=fun b hb=>hb.imp (hX b) id;have Azf:∀{p:PV} {u:Value},Fe w (fun b=>BtX bt b\/Y b) β0 p u->Fe w (D4 (B3 bs) β0 Y) β0 p u:=fun h=>h.step (C6.refl _ _) (fun b _=>hA b) (fun _ _=>rfl);refine⟨rfl,by simp;omega,fun i hi=>?_,fun i hi=>?_,?_,?_,?_,fun i hi id B6=>?_,?_,fun b hb=>.inl (hX b hb),?_,?_,?_,fun b hY hXb=>FN.Yx b hY (hX b hXb),FN.Ylt,⟨rfl,rfl,rfl,C6.refl _ _,fun _ _ _ _=>⟨rfl,rfl⟩⟩⟩
 ·rcases hs i with⟨u,_,h,_⟩|⟨h,_⟩
  ·rw[Nat.sub_zero,List.getElem?_eq_none (by omega)] at h;cases h
  ·exact h
 ·rcases hs i with⟨u,_,h,hv⟩|⟨h,h'⟩
  ·rw[Nat.sub_zero] at h
   have Cr:i<us.length:=by
    rcases Mh i us.length with h'|h'
    ·exact h'
    ·rw[List.getElem?_eq_none h'] at h;cases h
   have:(us.toArray++Array.replicate (N-us.toArray.size) undef).getD i undef=u:=by
    rw[Array.getD_eq_getD_getElem?,Array.getElem?_append_left (by simpa using Cr)];simp[h]
   show Fe w _ _ _ ((us.toArray++Array.replicate (N-us.toArray.size) undef).getD i undef);rw[this];exact Azf hv
  ·show Fe w _ _ (lk tms i) _;rw[h];exact Bd.top _
 ·intro id bx hq;exact (hbr id bx (Ts hq)).step' hA
 ·intro id id' b o o' hl Q7 hβ hβ';cases hq:B3 bs id with
  |none=>change Db (B3 bs id) at hl;rw[hq] at hl;exact hl.elim
  |some bx=>
   cases Jc:B3 bs id' with
   |none=>change Db (B3 bs id') at Q7;rw[Jc] at Q7;exact Q7.elim
   |some bx'=>
    obtain⟨ik,h1,h2⟩:=hqm id bx (Ts hq);obtain⟨ik',h1',h2'⟩:=hqm id' bx' (Ts Jc);rw[h2] at hβ;rw[h2'] at hβ';obtain⟨h3,h4⟩:=FN.inj _ _ _ _ b o o' hβ hβ';exact hqi _ h1 _ h1' (Prod.ext h3 h4)
 ·intro id b o hn hβ;cases hq:B3 bs id with
  |none=>exact absurd hq hn
  |some bx=>
   obtain⟨ik,h1,h2⟩:=hqm id bx (Ts hq);rw[h2] at hβ;exact FN.lt b ⟨_,_,_,hβ⟩
 ·obtain⟨bx,hm⟩:=hr i id B6;show B3 bs id≠none;rw[Acv Akz hm];simp
 ·intro id cells hq c hc k hk;obtain⟨bx,hm⟩:=hri id cells (Ts hq) c hc k hk;show B3 bs k≠none;rw[Acv Akz hm];simp
 ·intro id bx b o hq hl hβ _ j hj;obtain⟨k,p,h1,h2⟩:=hL id bx b o (Ts hq) hβ j hj;rw[Ck] at h2;exact⟨k,p,h1,h2⟩
 ·rintro i ⟨p,h1,h2⟩
  have h3:=(EC i p h1 h2).1;rw[Ck] at h3;refine⟨?_,hβ0 _ h3⟩;have:Ef N i∈bs.map (·.1):=by rw[hb];exact List.mem_map.2 ⟨_,h3,rfl⟩
  obtain⟨⟨id,bx⟩,hm,e⟩:=List.mem_map.1 this;show B3 bs (Ef N i)≠none;rw[<-e,Acv Akz hm];simp
 ·intro id c b o hq _ _;obtain⟨k,p,h1,h2,h3⟩:=(P4 id _ (Ts hq)).2 c rfl;rw[Ck] at h3;exact⟨k,h3,p,h1,h2⟩
end
open Go.RowKit
def R0(β:Bt)(l:List (Option Nat))(j:Nat):Option (Nat × Nat):=((l[j]?).bind id).bind β
section
variable {R:Type}{r:R}{P:Program}{N:Nat}{w0:World}{X0:Gt}{Y:Nat->Prop}{β β':Bt}{s:St}{a:Act}{w w':World}{A:Nat->Prop}
def Au9(s:St)(l:List (Option Nat)):Prop:=∀id,some id∈l->Db (s.hp id)
def S7(s:St)(z:Cc):Prop:=∀id∈z,∃f c,s.hp id=some (.ar f c)
theorem Abd(h : Cj N w0 X0 Y β s a w){shr : Bool}{t : CT}{p : PV}{K : PV -> Cc -> Cc -> Option R}(hk : Ane shr s.hp t p K = some r):
    ∃ c q z, K c (Option.toList q) z = some r /\ (∀ x, c ≠ .agg x /\ c ≠ .pbox x) /\ YX p /\ (∀ id, q = some id -> ∃ c, s.hp id = some (.ar false c)) /\ S7 s z /\
      ∀ (fz : Cc) A u, (∀ i ∈ z, i ∈ fz) -> S7 s fz -> (∀ b, A b -> D4 (Al s.hp fz) β Y b) -> Cz w (D4 s.hp β Y) β p u -> Lf w A (q.bind β) c u := by
  have notree : ∀ {c : PV}, GT c -> ∀ x, c ≠ .agg x /\ c ≠ .pbox x := fun hT x => ⟨LR hT x, by rintro rfl; exact hT⟩
  unfold Ane at hk
  cases shr <;> simp only[cond_true, cond_false] at hk
  · have tree : ∀ t', (∀ es, t' ≠ .sl es) -> (NM t' p fun c => K c [] []) = some r -> ∃ c q z, K c (Option.toList q) z = some r /\ (∀ x, c ≠ .agg x /\ c ≠ .pbox x) /\ YX p /\ (∀ id, q = some id -> ∃ c, s.hp id = some (.ar false c)) /\ S7 s z /\
        ∀ (fz : Cc) A u, (∀ i ∈ z, i ∈ fz) -> S7 s fz -> (∀ b, A b -> D4 (Al s.hp fz) β Y b) -> Cz w (D4 s.hp β Y) β p u -> Lf w A (q.bind β) c u := by
      intro t' Gu hk
      obtain⟨c, Fc, hT, WN, hv⟩ := To hk
      refine⟨c, none, [], Fc, notree hT, AV WN, by simp, (by intro i hi; cases hi), fun fz A u _ _ hA hc => Qr hT ?_⟩
      exact (hv w _ β u hc).1.step (C6.refl _ _) (fun b _ hb => Uk (hA b hb))
    unfold A0m at hk
    cases t with
    | sl es =>
      dsimp only at hk
      split at hk
      · rename_i id es' off n
        cases hb : (Nat.beq es' es && Nat.beq off 0) <;> rw[hb] at hk
        · cases hk
        · simp only[G6] at hb
          have he := Ez hb.1
          have ho := Ez hb.2
          subst he ho
          simp only[cond_true] at hk
          split at hk
          · rename_i c h0
            obtain⟨hl, Fc⟩ := A5 hk
            refine⟨_, some id, [], Fc, by simp, trivial, fun i hi => by cases hi; exact⟨c, h0⟩, (by intro i hi; cases hi), fun fz A u _ _ hA hc => ?_⟩
            rcases hc with⟨h1, _, rfl, h4⟩ | ⟨b, o, x, cap, h1, h2, hx, h3, h4, h5⟩
            · exact .inl ⟨h1, rfl, by simp, h4⟩
            · have hx : x = o := by rcases hx with e | ⟨_, e⟩ <;> omega
              subst hx
              rcases h.box id _ h0 with⟨h6, _⟩ | ⟨b', o', h6, h7, h8, _⟩
              · rw[h1] at h6; cases h6
              · rw[h1] at h6
                cases h6
                refine .inr ⟨b, x, cap, h1, h2, h3, h4, h5, fun j q hq => ?_, fun j hj CM => h8 rfl j hj CM⟩
                rw[List.getElem?_take] at hq
                split at hq
                · obtain⟨v, hv, h9, ht⟩ := h7 j q hq
                  exact⟨v, hv, h9, ht.step (C6.refl _ _) (fun b _ hb => Uk (hA b hb))⟩
                · cases hq
          · cases hk
      · obtain⟨z, n, c, Fc, hp⟩ := I4 hk
        obtain⟨hz, Hv⟩ := A5 Fc
        subst hz
        have hpF : YX p := by rcases hp with e | ⟨e, _⟩ <;> (rw[e]; trivial)
        refine⟨_, none, [], Hv, by simp, hpF, by simp, (by intro i hi; cases hi), fun fz A u _ _ _ hc => ?_⟩
        have hu : u = .slice none 0 0 := by
          rcases hp with rfl | ⟨rfl, _⟩
          · cases hc; rfl
          · exact Bd.val hc
        exact .inl ⟨rfl, rfl, rfl, none, hu⟩
    | int k => exact tree _ (by simp) hk
    | bool => exact tree _ (by simp) hk
    | str => exact tree _ (by simp) hk
    | any => exact tree _ (by simp) hk
  · obtain⟨c, m, Fc, hT, hF, hm, hv⟩ := UQ h hk
    exact⟨c, none, m, Fc, notree hT, hF, by simp, hm, fun fz A u h1 h2 hA hc => Qr hT ((hv fz h1 h2 u hc).1.step (C6.refl _ _) (fun b _ hb => hA b hb))⟩
structure RT(s:St)(β:Bt)(Y:Nat->Prop)(w:World)(cs:Ab)(l:List (Option Nat))(z:Cc)(ps:Ab):Prop where
 len:l.length=cs.length
 pl:cs.length=ps.length
 na:∀c∈cs,∀x,c ≠ .agg x/\c ≠ .pbox x
 fr:∀p∈ps,YX p
 own:∀id,some id∈l->∃c,s.hp id=some (.ar false c)
 row:S7 s z
 sem:∀(fz:Cc) A us,(∀i∈z,i∈fz)->S7 s fz->(∀b,A b->D4 (Al s.hp fz) β Y b)->Ca (Cz w (D4 s.hp β Y) β) ps us->∀own j0,(∀j,j<l.length->own (j0+j)=R0 β l j)->Iu w A own j0 cs us
theorem RT.nil:RT s β Y w [] [] [] []:=⟨rfl,rfl,by simp,by simp,by simp,(by intro i hi;cases hi),fun fz A us _ _ _ hu own j0 _=>by
 cases us with
 |nil=>trivial
 |cons u us=>exact hu.elim⟩
theorem RT.cons{c p:PV}{q:Option Nat}{z zs:Cc}{cs ps:Ab}{l:List (Option Nat)}(PD:∀x,c ≠ .agg x/\c ≠ .pbox x)(hF:YX p)(hq:∀id,q=some id->∃c,s.hp id=some (.ar false c))(hz:S7 s z)(hv:∀(fz:Cc) A u,(∀i∈z,i∈fz)->S7 s fz->(∀b,A b->D4 (Al s.hp fz) β Y b)->Cz w (D4 s.hp β Y) β p u->Lf w A (q.bind β) c u)(H:RT s β Y w cs l zs ps):RT s β Y w (c::cs) (q::l) (z++zs) (p::ps):=by
 refine⟨by simp[H.len],by simp[H.pl],?_,?_,?_,?_,fun fz A us hz1 hz2 hA hu own j0 H9=>?_⟩
 ·intro x hx;rcases B7.1 hx with rfl|hx
  ·exact PD
  ·exact H.na x hx
 ·intro x hx;rcases B7.1 hx with rfl|hx
  ·exact hF
  ·exact H.fr x hx
 ·intro id B6;rcases B7.1 B6 with e|B6
  ·exact hq id e.symm
  ·exact H.own id B6
 ·intro i hi;rcases B4.1 hi with hi|hi
  ·exact hz i hi
  ·exact H.row i hi
 ·cases us with
  |nil=>exact hu.elim
  |cons u us=>
   have h0:=H9 0 (by simp);rw[JY] at h0;refine⟨?_,H.sem fz A us (fun i hi=>hz1 i (by simp[hi])) hz2 hA hu.2 own (j0+1) fun j hj=>?_⟩
   ·rw[h0];exact hv fz A u (fun i hi=>hz1 i (by simp[hi])) hz2 hA hu.1
   ·have:=H9 (j+1) (by simp;omega)
    rw[show j0+1+j=j0+(j+1) by omega,this];simp[R0]
theorem AO(h:Cj N w0 X0 Y β s a w){shr:Bool}:∀{ts:List CT}{ps:Ab}{K:Ab->Cc->Cc->Option R},NZ shr s.hp ts ps K=some r ->
  ∃cs l z,K cs (l.filterMap id) z=some r/\RT s β Y w cs l z ps
 |[],[],K,hk=>⟨[],[],[],hk,RT.nil⟩
 |[],_::_,K,hk=>by cases hk
 |_::_,[],K,hk=>by cases hk
 |t::ts,p::ps,K,hk=>by
  unfold NZ at hk;obtain⟨c,q,z,Fc,PD,hF,hq,hz,hv⟩:=Abd h hk;obtain⟨cs,l,zs,Hv,H⟩:=AO h Fc;refine⟨c::cs,q::l,z++zs,?_,RT.cons PD hF hq hz hv H⟩;cases q<;>exact Hv
theorem PS(h:Cj N w0 X0 Y β s a w):∀{ts:List CT}{ws ps:Ab}{K:Ab->Cc->Cc->Option R},SZ s.hp ts ws ps K=some r ->
  ∃cs l z,K cs (l.filterMap id) z=some r/\cs.length=ws.length/\RT s β Y w cs l z ps
 |[],[],[],K,hk=>⟨[],[],[],hk,rfl,RT.nil⟩
 |[],_::_,_,K,hk=>by cases hk
 |[],[],_::_,K,hk=>by cases hk
 |_::_,[],_,K,hk=>by cases hk
 |_::_,_::_,[],K,hk=>by cases hk
 |t::ts,x::ws,p::ps,K,hk=>by
  unfold SZ at hk;obtain⟨c,q,z,Fc,PD,hF,hq,hz,hv⟩:=Abd h hk;obtain⟨cs,l,zs,Hv,hl,H⟩:=PS h Fc;refine⟨c::cs,q::l,z++zs,?_,by simp[hl],RT.cons PD hF hq hz hv H⟩;cases q<;>exact Hv
theorem Ajj{own:Bt}{zz j:Nat}{p:PV}{u:Value}(hp:∀x,p ≠ .agg x/\p ≠ .pbox x)(h:Iu w A own j [p] [u]):Ay3 w A own zz j p u:=by cases p<;>first|exact h.1|exact absurd rfl (hp _).1|exact absurd rfl (hp _).2
theorem Ann(h:Cj N w0 X0 Y β s a w){id b o:Nat}{c cs:Ab}{l:List (Option Nat)}{z:Cc}(h0:s.hp id=some (.st c))(hβ:β id=some (b,o))(H:RT s β Y w cs l z c){fz:Cc}{A:Nat->Prop}(h1:∀i∈z,i∈fz)(h2:S7 s fz)(hA:∀b,A b->D4 (Al s.hp fz) β Y b){own:Bt}{j0:Nat}(H9:∀j,j<l.length->own (j0+j)=R0 β l j):Ay4 w A own j0 b o cs:=by
 obtain⟨b',o',Jt,Q6,hb3⟩:=h.box id _ h0;rw[hβ] at Jt;cases Jt;refine⟨c.mapIdx (fun j _=>(w.cell? ⟨b,o+j,none⟩).getD undef),H.sem fz A _ h1 h2 hA ?_ own j0 H9,?_,fun k hk=>hb3 k (by have:=H.pl;omega)⟩
 ·refine Ca.of_at (by simp) fun j p v hp hv=>?_;obtain⟨u,hu,hcr⟩:=Q6 j p hp;rw[List.getElem?_mapIdx,hp,Option.map_some,hu] at hv;simp at hv;subst hv;exact hcr
 ·intro k v hkv;rw[List.getElem?_mapIdx] at hkv;cases hp:c[k]? with
  |none=>rw[hp] at hkv;cases hkv
  |some p=>
   obtain⟨u,hu,hcr⟩:=Q6 k p hp;rw[hp,Option.map_some,hu] at hkv;simp at hkv;subst hkv;exact hu
theorem Aql(h:Cj N w0 X0 Y β s a w){shr:Bool}{t:TypeId}{p:PV}{u:Value}(hp:Fe w (D4 s.hp β Y) β p u){K:PV->Cc->Cc->Option R}(hk:Au3 P shr s.hp t p K=some r):
  ∃v l z,K v (l.filterMap id) z=some r/\l.length=plc v/\Au9 s l/\S7 s z /\
   ∀(fz:Cc) A zz,(∀i∈z,i∈fz)->S7 s fz->(∀b,A b->D4 (Al s.hp fz) β Y b)->(∀id c b o,some id∈l->s.hp id=some (.st c)->β id=some (b,o)->zz<=b) ->
    ∀own j0,(∀j,j<l.length->own (j0+j)=R0 β l j)->Ay3 w A own zz j0 v u:=by
 unfold Au3 at hk;split at hk
 ·rename_i e he;split at hk
  ·rename_i id off;split at hk
   ·rename_i c h0;obtain⟨hof,Fc⟩:=A5 hk;have hof:=Ez hof;subst hof;obtain⟨cs,l,z,Hv,H⟩:=AO h Fc;obtain⟨b,o,hβ,hu⟩:=hp;refine⟨.pbox cs,some id::l,z,Hv,by simp only[plc,He,H.len];omega,?_,H.row,fun fz A zz h1 h2 hA hz own j0 H9=>?_⟩
    ·intro i hi;rcases B7.1 hi with e|hi
     ·cases e;rw[h0];trivial
     ·obtain⟨c',AE⟩:=H.own i hi;rw[AE];trivial
    ·have h3:=H9 0 (by simp);rw[JY] at h3;refine⟨b,o,by rw[h3];exact hβ,hz id c b o (by simp) h0 hβ,by rw[hu,JY],Ann h h0 hβ H h1 h2 hA fun j hj=>?_⟩
     have:=H9 (j+1) (by simp;omega)
     rw[show j0+1+j=j0+(j+1) by omega,this];simp[R0]
   ·cases hk
  ·cases hk
 ·cases Jy:C9 P t<;>rw[Jy] at hk<;>simp only[cond_true,cond_false] at hk
  ·obtain⟨cs,l,z,Fc,H⟩:=AO h hk;obtain⟨c,cs',hcs,Hv⟩:=Bv Fc;subst hcs;obtain⟨RQ,X3⟩:=Fh Hv;subst RQ;have PD:=H.na c (by simp);have hc1:plc c=1:=by cases c<;>first|rfl|exact absurd rfl (PD _).1|exact absurd rfl (PD _).2
   have hF:=H.fr p (by simp);refine⟨c,l,z,X3,by rw[hc1];exact H.len,fun i hi=>?_,H.row,fun fz A zz h1 h2 hA _ own j0 H9=>Ajj PD (H.sem fz A [u] h1 h2 hA ⟨?_,trivial⟩ own j0 H9)⟩
   ·obtain⟨c',AE⟩:=H.own i hi;rw[AE];trivial
   ·cases p<;>first|exact hp|exact hF.elim
  ·obtain⟨ps,QQ,Fc⟩:=Lx hk;subst QQ;obtain⟨cs,l,z,Hv,H⟩:=AO h Fc;obtain⟨vs,hu,Xt⟩:=hp;refine⟨.agg cs,l,z,Hv,H.len,fun i hi=>?_,H.row,fun fz A zz h1 h2 hA _ own j0 H9=>⟨vs,hu,H.sem fz A vs h1 h2 hA Xt own j0 H9⟩⟩;obtain⟨c',AE⟩:=H.own i hi;rw[AE];trivial
def Acw(P:Program)(tmps:Array Value)(w:World)(rv:ResultVar)(u:Value):Prop:=
  (match rv with
   |.tmp t=>(pure (tmps.getD t undef):Sem Value)
   |.cell a t=>do loadVar t (<-asAddr (tmps.getD a undef))).run P w=.ok u w
theorem Atu(h:Cj N w0 X0 Y β s a w)(t:Nat):Fe w (D4 s.hp β Y) β (s.tm t) (a.tmps.getD t undef):=by
 rcases Mh t N with h'|h'
 ·exact h.tms t h'
 ·rw[h.tmo t h'];exact Bd.top _
theorem Apo(h:Cj N w0 X0 Y β s a w){rv:ResultVar}{K:PV->Option R}(hk:Aq3 P s rv K=some r):∃p u,K p=some r/\Acw P a.tmps w rv u/\Fe w (D4 s.hp β Y) β p u:=by
 unfold Aq3 at hk;split at hk
 ·rename_i t;exact⟨_,_,hk,rfl,Atu h t⟩
 ·rename_i x t;obtain⟨v,ad,val,Fc,E9,hl,hv,_⟩:=Agu h (Atu h x) hk;refine⟨v,val,Fc,?_,hv⟩;unfold Acw;simp[E9,asAddr,hl]
theorem IJ{l l':List (Option Nat)}{j:Nat}(h:j<l.length):R0 β (l++l') j=R0 β l j:=by unfold R0;rw[List.getElem?_append_left h]
theorem JI{l l':List (Option Nat)}{j:Nat}:R0 β (l++l') (l.length+j)=R0 β l' j:=by unfold R0;rw[List.getElem?_append_right (by omega),Nat.add_sub_cancel_left]
theorem VE(h:Cj N w0 X0 Y β s a w){shr:Bool}:∀{rs:List ResultVar}{ts:List TypeId}{K:Ab->Cc->Cc->Option R},Ac8 P shr s rs ts K=some r ->
  ∃vs l z us,K vs (l.filterMap id) z=some r/\Ca (Acw P a.tmps w) rs us/\l.length=V4 vs/\Au9 s l/\S7 s z /\
   ∀(fz:Cc) A zz,(∀i∈z,i∈fz)->S7 s fz->(∀b,A b->D4 (Al s.hp fz) β Y b)->(∀id c b o,some id∈l->s.hp id=some (.st c)->β id=some (b,o)->zz<=b) ->
    ∀own j0,(∀j,j<l.length->own (j0+j)=R0 β l j)->Ano w A own zz j0 vs us
 |[],[],K,hk=>⟨[],[],[],[],hk,trivial,rfl,(by intro id B6;cases B6),(by intro id B6;cases B6),fun _ _ _ _ _ _ _ _ _ _=>trivial⟩
 |[],_::_,K,hk=>by cases hk
 |_::_,[],K,hk=>by cases hk
 |rv::rs,t::ts,K,hk=>by
  unfold Ac8 at hk;obtain⟨p,u,Fc,hu,hp⟩:=Apo h hk;obtain⟨v,l,z,Hv,hl,hL,hz,hv⟩:=Aql h hp Fc;obtain⟨vs,l',z',us,X3,hus,Q7,hL',hz',Xt⟩:=VE h Hv;refine⟨v::vs,l++l',z++z',u::us,?_,⟨hu,hus⟩,by simp only[F9,V4,Sn,List.sum_cons,hl];rw[Q7];rfl,?_,?_,fun fz A zz h1 h2 hA Hm own j0 H9=>⟨?_,?_⟩⟩
  ·rw[List.filterMap_append];exact X3
  ·intro id B6;rcases B4.1 B6 with B6|B6
   ·exact hL id B6
   ·exact hL' id B6
  ·intro id B6;rcases B4.1 B6 with B6|B6
   ·exact hz id B6
   ·exact hz' id B6
  ·exact hv fz A zz (fun i hi=>h1 i (by simp[hi])) h2 hA (fun id c b o hi=>Hm id c b o (by simp[hi])) own j0 fun j hj=>by rw[H9 j (by simp;omega),IJ hj]
  ·refine Xt fz A zz (fun i hi=>h1 i (by simp[hi])) h2 hA (fun id c b o hi=>Hm id c b o (by simp[hi])) own (j0+plc v) fun j hj=>?_;rw[<-hl,Sq,H9 (l.length+j) (by simp;omega),JI]
theorem BH(h:Cj N w0 X0 Y β s a w){bt:QS}(hpt:∀i,X0.pt i=bt i 0):∀{ts:List TypeId}{i:Nat}{ps:Ab}{K:List Ab->Cc->Cc->Cc->Option R},OB P N s.hp i ts ps K=some r ->
  (∀k p,ps[k]?=some p->KM p=true->X0.pn (i+k)) ->
  ∃os l z q,K os (l.filterMap id) z q=some r/\(∀id,some id∈l->∃c,s.hp id=some (.ar false c))/\S7 s z/\(∀id∈q,Db (s.hp id))/\(∀k p,ps[k]?=some p->KM p=true->Ef N (i+k)∈q) /\
   ∀(fz:Cc) A,(∀i∈z,i∈fz)->S7 s fz->(∀i∈q,i ∉ fz)->(∀b,A b->D4 (Al s.hp fz) β Y b) ->
    ∀own j0,(∀j,j<l.length->own (j0+j)=R0 β l j)->GZ w A own bt j0 i ps os
 |[],i,ps,K,hk,_=>by
  obtain⟨QQ,hk⟩:=Fh hk;subst QQ;exact⟨[],[],[],[],hk,by simp,(by intro id B6;cases B6),by simp,by simp,fun _ _ _ _ _ _ _ _ _=>rfl⟩
 |t::ts,i,ps,K,hk,hpn=>by
  unfold OB at hk;obtain⟨p,ps',QQ,Fc⟩:=Bv hk;subst QQ
  have A2b:∀k p,ps'[k]?=some p->KM p=true->X0.pn (i+1+k):=fun k p' h1 h2=>by
   have:=hpn (k+1) p' (by simpa using h1) h2;rw[show i+1+k=i+(k+1) by omega];exact this
  have hpq:∀{q:Cc},(KM p=true->Ef N i∈q)->(∀k p,ps'[k]?=some p->KM p=true->Ef N (i+1+k)∈q)->∀k p',(p::ps')[k]?=some p'->KM p'=true->Ef N (i+k)∈q:=by
   intro q h1 h2 k p' h3 h4;cases k with
   |zero=>
    simp only[List.getElem?_cons_zero,Option.some.injEq] at h3;subst h3;exact h1 h4
   |succ k=>
    have:=h2 k p' (by simpa using h3) h4;rw[show i+1+k=i+(k+1) by omega] at this;exact this
  split at Fc
  ·rename_i ws;obtain⟨e,he,Hv⟩:=Eh Fc;split at Hv
   ·rename_i c h0;obtain⟨cs,l,z,X3,CN,H⟩:=PS h Hv;obtain⟨os,l',z',q,Xr,hL',hz',Jc,hpi,hv⟩:=BH h hpt X3 A2b;refine⟨cs::os,l++l',z++z',Ef N i::q,by rw[List.filterMap_append];exact Xr,?_,?_,?_,hpq (fun _=>KS) (fun k p h1 h2=>Sx _ (hpi k p h1 h2)),fun fz A h1 h2 h3 hA own j0 H9=>?_⟩
    ·intro id B6;rcases B4.1 B6 with B6|B6
     ·exact H.own id B6
     ·exact hL' id B6
    ·intro id B6;rcases B4.1 B6 with B6|B6
     ·exact H.row id B6
     ·exact hz' id B6
    ·intro id B6;rcases B7.1 B6 with rfl|B6
     ·rw[h0];trivial
     ·exact Jc id B6
    ·have EC:=(h.pin i (by have:=hpn 0 _ rfl rfl;rwa [JY] at this)).2
     obtain⟨b,o,Jt,_,_⟩:=h.box _ _ h0;rw[Jt,hpt] at EC;refine⟨⟨b,o,EC.symm,CN,Ann h h0 Jt H (fun i hi=>h1 i (by simp[hi])) h2 hA fun j hj=>by rw[H9 j (by simp;omega),IJ hj]⟩,?_⟩
     refine hv fz A (fun i hi=>h1 i (by simp[hi])) h2 (fun i hi=>h3 i (by simp[hi])) hA own (j0+cs.length) fun j hj=>?_;rw[<-H.len,Sq,H9 (l.length+j) (by simp;omega),JI]
   ·cases Hv
  ·split at Fc
   ·rename_i c h0;obtain⟨os,l',z',q,Xr,hL',hz',Jc,hpi,hv⟩:=BH h hpt Fc A2b;refine⟨c::os,l',z',Ef N i::q,Xr,hL',hz',?_,hpq (fun _=>KS) (fun k p h1 h2=>Sx _ (hpi k p h1 h2)),fun fz A h1 h2 h3 hA own j0 H9=>⟨?_,hv fz A h1 h2 (fun i hi=>h3 i (by simp[hi])) hA own j0 H9⟩⟩
    ·intro id B6;rcases B7.1 B6 with rfl|B6
     ·rw[h0];trivial
     ·exact Jc id B6
    ·have EC:=(h.pin i (by have:=hpn 0 _ rfl rfl;rwa [JY] at this)).2
     rw[hpt] at EC;rcases h.box _ _ h0 with⟨h4,h5⟩|⟨b,o,h4,h5,h6,_⟩
     ·exact .inl ⟨by rw[<-EC];exact h4,h5⟩
     ·exact .inr ⟨b,o,by rw[<-EC];exact h4,h5.weak (fun b _ hb=>Uk (hA b hb)),h6 rfl⟩
   ·cases Fc
  ·rename_i hn1 hn2;have hnL:KM p=false:=by cases p<;>first|rfl|exact absurd rfl (hn1 _)|exact absurd rfl (hn2 _)
   obtain⟨os,l',z',q,Xr,hL',hz',Jc,hpi,hv⟩:=BH h hpt Fc A2b;refine⟨os,l',z',q,Xr,hL',hz',Jc,hpq (fun e=>by rw[hnL] at e;cases e) hpi,fun fz A h1 h2 h3 hA own j0 H9=>?_⟩
   have:=hv fz A h1 h2 h3 hA own j0 H9;cases p<;>first|exact this|cases hnL
theorem Ahj{f:ResultVar->Sem Value}:∀{rs:List ResultVar}{us:List Value},Ca (fun rv u=>(f rv).run P w=.ok u w) rs us->(rs.mapM f).run P w=.ok us w
 |[],[],_=>by simp
 |[],_::_,h=>h.elim
 |_::_,[],h=>h.elim
 |rv::rs,u::us,h=>by
  rw[List.mapM_cons];simp[h.1,Ahj h.2]
theorem Ae4{fn:Func}{us:List Value}(h:Ca (Acw P a.tmps w) fn.results.toList us):(results fn a.tmps).run P w=.ok (Nv us) w:=by
 unfold results;rw[Array.mapM_eq_mapM_toList];simp only[map_eq_pure_bind,bind_assoc,pure_bind,Sem.run_bind];refine Eq.trans (congrArg (fun x=>Result.andThen x _) (Ahj h)) ?_;simp only[Result.andThen_ok,Sem.run_pure]
 congr 1
 clear h
 match us with
 |[]=>rfl
 |[u]=>rfl
 |u::v::us=>exact dif_neg (by simp)
theorem Ahc:∀{l:List (Option Nat)},Gf (l.filterMap id)=true->∀{j j' i:Nat},l[j]?=some (some i)->l[j']?=some (some i)->j=j'
 |[],_,j,j',i,h,_=>by simp at h
 |q::l,hn,j,j',i,h,h'=>by
  have hn':Gf (l.filterMap id)=true:=by
   cases q with
   |none=>exact hn
   |some x=>
    simp only[List.filterMap_cons,id_eq,Gf,G6] at hn;exact hn.2
  have hq:∀(x k:Nat),q=some x->l[k]?≠some (some x):=by
   intro x k e hk;subst e;simp only[List.filterMap_cons,id_eq,Gf,G6,Bool.not_eq_true'] at hn;exact Z9 hn.1 (List.mem_filterMap.2 ⟨some x,List.mem_of_getElem? hk,rfl⟩)
  cases j with
  |zero=>
   cases j' with
   |zero=>rfl
   |succ k'=>
    simp at h h';exact absurd h' (hq i k' h)
  |succ k=>
   cases j' with
   |zero=>
    simp at h h';exact absurd h (hq i k h')
   |succ k'=>
    simp at h h';rw[Ahc hn' h h']
theorem FB{C:Kr}{f:FuncId}{fn:Func}{args:Ab}{res:Dt}{w:World}{Y:Nat->Prop}{bt:QS}{us:List Value}(FN:Ins w Y bt args us){h8:∀k p,args[k]?=some p->KM p=true->k<8}{s':St}{a':Act}{w':World}{β':Bt}(hr:Ahi C P f fn args s'=some res)(h:Cj fn.ntmps w (HU bt args h8) Y β' s' a' w'):
  a'.defers=[]/\∃v,(results fn a'.tmps).run P w'=.ok v w'/\∃vs own,Ending.returned v=.returned (Nv vs)/\Out w w' Y bt args own res vs:=by
 unfold Ahi at hr;obtain⟨vs,l,z,us',hr1,hus,hll,hL,hz,hv⟩:=VE h hr;obtain⟨os,l',z',q,hr2,hL',hz',hq,hpi,Wv⟩:=BH h (bt:=bt) (fun _=>rfl) hr1 (fun k p h1 h2=>by rw[Ck];exact⟨p,h1,h2⟩)
 obtain⟨YC,hr3⟩:=A5 hr2;cases hr3;simp only[G6] at YC;obtain⟨YC,A1q⟩:=YC;obtain⟨hn1,hn2,hn3⟩:=Ns YC
 have PB:∀i∈z++z',i ∉ (l.filterMap id++l'.filterMap id)++q:=by
  intro i hi Nh;have:=List.all_eq_true.1 A1q i hi;have h2:((l.filterMap id++l'.filterMap id)++q).any (Nat.beq i)=true:=List.any_eq_true.2 ⟨i,Nh,P6 i⟩;rw[h2] at this;cases this
 have Anr:S7 s' (z++z'):=by
  intro i hi;rcases B4.1 hi with hi|hi
  ·exact hz i hi
  ·exact hz' i hi
 refine⟨h.dfr,Nv us',Ae4 hus,us',R0 β' (l++l'),rfl,?_⟩;have Bcc:Gf ((l++l').filterMap id)=true:=by rw[List.filterMap_append];exact hn1
 have H9:∀j b o,R0 β' (l++l') j=some (b,o)->∃id,(l++l')[j]?=some (some id)/\β' id=some (b,o):=by
  intro j b o hj;unfold R0 at hj;cases hlj:(l++l')[j]? with
  |none=>rw[hlj] at hj;cases hj
  |some q=>
   cases q with
   |none=>rw[hlj] at hj;cases hj
   |some id=>
    rw[hlj] at hj;exact⟨id,rfl,hj⟩
 have Qw:∀(j i:Nat),(l++l')[j]?=some (some i)->i∈l.filterMap id++l'.filterMap id:=by
  intro j i hj;rw[<-List.filterMap_append];exact List.mem_filterMap.2 ⟨some i,List.mem_of_getElem? hj,rfl⟩
 have Kj:∀(j i:Nat),(l++l')[j]?=some (some i)->Db (s'.hp i):=by
  intro j i hj;rcases B4.1 (List.mem_of_getElem? hj) with Nh|Nh
  ·exact hL i Nh
  ·obtain⟨c,hc⟩:=hL' i Nh;rw[hc];trivial
 have A0y:∀i,i∈(l.filterMap id++l'.filterMap id)++q->Al s'.hp (z++z') i=s'.hp i:=by
  intro i hi;rw[C5,A4 (fun Nh=>PB i Nh hi)]
 have A0v:∀i b o,bt i 0=some (b,o)->Ef fn.ntmps i∈q/\Db (s'.hp (Ef fn.ntmps i))/\β' (Ef fn.ntmps i)=some (b,o):=by
  intro i b o YA;obtain⟨p,h1,h2⟩:=FN.l0 i _ YA;have h3:=hpi i p h1 h2;rw[Ck] at h3;exact⟨h3,hq _ h3,(h.pin i ⟨p,h1,h2⟩).2.trans YA⟩
 have hAO:∀b,TK bt (R0 β' (l++l')) Y b->D4 (Al s'.hp (z++z')) β' Y b:=by
  rintro b (⟨j,o,hj⟩|⟨i,o,YA⟩|hY)
  ·obtain⟨id,h1,h2⟩:=H9 j b o hj;refine .inl ⟨id,o,?_,h2⟩;rw[A0y id (B4.2 (.inl (Qw j id h1)))];exact Kj j id h1
  ·obtain⟨h1,h2,h3⟩:=A0v i b o YA;refine .inl ⟨_,o,?_,h3⟩;rw[A0y _ (B4.2 (.inr h1))];exact h2
  ·exact .inr hY
 have JD:∀(j id b o:Nat),(l++l')[j]?=some (some id)->β' id=some (b,o)->b<w.heap.size->∃i k o',bt i (k+1)=some (b,o'):=by
  intro j id b o hj hβ Cr;rcases h.ownd b ⟨id,o,Kj j id hj,hβ⟩ with⟨i,k,o',YA⟩|hge
  ·cases k with
   |zero=>
    obtain⟨h1,h2,h3⟩:=A0v i b o' YA;have:=h.inj id _ b o o' (Kj j id hj) h2 hβ h3;subst this;exact absurd h1 (hn3 _ (Qw j _ hj))
   |succ k=>exact⟨i,k,o',YA⟩
  ·omega
 refine⟨h.fr.os,h.fr.tape,h.fr.output,h.fr.step,h.fr.rng,?_,?_,?_,?_⟩
 ·refine hv (z++z') _ _ (fun i hi=>B4.2 (.inl hi)) Anr hAO (fun id c b o hi hc hβ=>?_) _ 0 (fun j hj=>by rw[Ck,IJ hj]);rcases Mh b w.heap.size with Cr|hge
  ·obtain⟨k,Kn,p,h1,h2⟩:=h.stp id c b o hc hβ Cr;have h3:=hpi k p h1 h2;rw[Ck,<-Kn] at h3;obtain⟨j,hj⟩:=List.mem_iff_getElem?.1 hi;refine absurd h3 (hn3 id ?_);exact B4.2 (.inl (List.mem_filterMap.2 ⟨some id,hi,rfl⟩))
  ·exact hge
 ·refine Wv (z++z') _ (fun i hi=>B4.2 (.inr hi)) Anr (fun i hi Nh=>PB i Nh (B4.2 (.inr hi))) hAO _ _ (fun j hj=>?_);rw[<-hll,JI]
 ·intro j b o hj;obtain⟨id,h1,h2⟩:=H9 j b o hj;refine⟨h.blt id b o (Ed (Kj j id h1)) h2,fun Cr=>⟨JD j id b o h1 h2 Cr,fun x hx=>?_⟩⟩;cases P4:s'.hp id with
  |none=>have:=Kj j id h1;rw[P4] at this;exact this.elim
  |some bx=>
   have NK:=Kj j id h1;rw[P4] at NK;cases bx with
   |st c=>
    obtain⟨k,Kn,p,h3,h4⟩:=h.stp id c b o P4 h2 Cr;have h5:=hpi k p h3 h4;rw[Ck,<-Kn] at h5;exact absurd h5 (hn3 _ (Qw j _ h1))
   |ar fz c=>exact h.rngB id _ b o P4 NK h2 Cr x hx
   |mv=>exact NK.elim
 ·intro j j' b o o' hj CM;obtain⟨id,h1,h2⟩:=H9 j b o hj;obtain⟨id',h1',h2'⟩:=H9 j' b o' CM;have:=h.inj id id' b o o' (Kj j id h1) (Kj j' id' h1') h2 h2';subst this;exact Ahc Bcc h1 h1'
theorem UR{G:Ze}(Lg:NoNG P)(hm:P.follows .mixedOrders=true){C:Kr}{fu:Nat}{call:Bq}(Dn:∀f args res,call f args=some res->Dr G P f args res){f:FuncId}{fn:Func}{c:Code}(hf:P.funcs[f]?=some fn)(hb:fn.body=some c){args:Ab}{res:Dt}(hk:Axb C P fu call f fn c args=some res):Dr G P f args res:=by
 refine⟨⟨fn,hf,by rw[hb];rfl⟩,fun w Y bt us FN hG hGY=>?_⟩
 unfold Axb at hk;obtain⟨tms,bs,Fc,Hm⟩:=OP FN hk;obtain⟨Jt,Hv⟩:=A5 Fc;simp only[G6] at Jt
 have H2:us.length<=fn.ntmps:=by
  rw[<-FN.args.len];exact Ya Jt.1
 obtain⟨h8,β0,hs⟩:=Hm Jt.2 H2;refine calls_of_wp hf hb ?_;have hE:RO P G w (HU bt args h8):=⟨Lg,fun w' YP=>G.stable w w' (fun b hb Cr=>YP.step.keep b Cr (hGY b hb).2) hG,hGY⟩
 refine JR hE Dn hm c hs Hv (fun s' a' w' β' hr h=>FB FN hr h) (fun id s' a' w' β' hr h=>by cases hr) (fun s' a' w' β' hr h=>FB FN hr h)
def Am8(G:Ze)(P:Program)(C:Kr):Prop:=∀f g args res,C.ext f=some g->g args=some res->Dr G P f args res
theorem EI{G:Ze}(Lg:NoNG P)(hm:P.follows .mixedOrders=true){C:Kr}(hx:Am8 G P C){fu:Nat}:∀(d:Nat)(f:FuncId)(args:Ab)(res:Dt),Aq C P fu d f args=some res->Dr G P f args res
 |0,_,_,_,h=>by cases h
 |d+1,f,args,res,h=>by
  unfold Aq at h;split at h
  ·rename_i g hg;exact hx f g args res hg h
  ·split at h
   ·cases h
   ·rename_i fn hf;split at h
    ·cases h
    ·rename_i c hb;exact UR Lg hm (EI Lg hm hx d) hf hb h
end
open Go.ChangeShapes Go.WideShapes Go.ChangeAt Go.RowKit Go.Deep
def Acy(P:Program):List Field->Nat->Nat->Bool
 |[],i,n=>Nat.beq i n
 |f::r,i,n=>Nat.beq f.offset i&&Acy P r (i+P.cellsOf f.type) n
def Tv(P:Program):Nat->TypeId->Bool
 |0,_=>false
 |d+1,t=>
  match P.underlying t with
  |some .bool=>true
  |some (.int _)=>true
  |some .string=>true
  |some (.slice e)=>Tv P d e&&Nat.blt 0 (P.cellsOf e)
  |some (.struct fs)=>Acy P fs.toList 0 (P.cellsOf t)&&fs.toList.all fun f=>Tv P d f.type
  |some (.array n e)=>Nat.beq (P.cellsOf t) (n*P.cellsOf e)&&Tv P d e
  |_=>false
def WT(P:Program):Nat->TypeId->Ab->Prop
 |0,_,_=>False
 |d+1,t,ps=>
  match P.underlying t with
  |some .bool=>∃b,ps=[.sc (.bool b)]
  |some (.int k)=>∃n,ps=[.sc (.int k n)]/\(Lit.int k n).wf=true
  |some .string=>∃s:ByteArray,ps=[.sc (.string s)]/\s.size<=maxLen
  |some (.slice e)=>∃rows:List Ab,ps=[.lst false (P.cellsOf e) rows.length rows.flatten]/\rows.length<=maxLen/\∀r∈rows,r.length=P.cellsOf e/\WT P d e r
  |some (.struct fs)=>∃rows:List Ab,ps=rows.flatten/\Ca (fun f r=>WT P d f.type r) fs.toList rows
  |some (.array n e)=>∃rows:List Ab,ps=rows.flatten/\rows.length=n/\∀r∈rows,r.length=P.cellsOf e/\WT P d e r
  |_=>False
def WTv(P:Program)(t:TypeId)(p:PV):Prop:=
 match C9 P t with
 |true=>∃ps,p=.agg ps/\WT P 12 t ps
 |false=>WT P 12 t [p]
section
variable {P:Program}{d:Nat}{t e:TypeId}{ps:Ab}
theorem Aym(hu:P.underlying t=some .bool):WT P (d+1) t ps↔∃b,ps=[.sc (.bool b)]:=by show (match P.underlying t with|some .bool=>_|some (.int k)=>_|some .string=>_|some (.slice e)=>_|some (.struct fs)=>_|some (.array n e)=>_|_=>_)↔_;rw[hu]
theorem Aq4{k:IntKind}(hu:P.underlying t=some (.int k)):WT P (d+1) t ps↔∃n,ps=[.sc (.int k n)]/\(Lit.int k n).wf=true:=by show (match P.underlying t with|some .bool=>_|some (.int k)=>_|some .string=>_|some (.slice e)=>_|some (.struct fs)=>_|some (.array n e)=>_|_=>_)↔_;rw[hu]
theorem Aon(hu:P.underlying t=some .string):WT P (d+1) t ps↔∃s:ByteArray,ps=[.sc (.string s)]/\s.size<=maxLen:=by show (match P.underlying t with|some .bool=>_|some (.int k)=>_|some .string=>_|some (.slice e)=>_|some (.struct fs)=>_|some (.array n e)=>_|_=>_)↔_;rw[hu]
theorem Ae9(hu:P.underlying t=some (.slice e)):WT P (d+1) t ps↔∃rows:List Ab,ps=[.lst false (P.cellsOf e) rows.length rows.flatten]/\rows.length<=maxLen/\∀r∈rows,r.length=P.cellsOf e/\WT P d e r:=by show (match P.underlying t with|some .bool=>_|some (.int k)=>_|some .string=>_|some (.slice e)=>_|some (.struct fs)=>_|some (.array n e)=>_|_=>_)↔_;rw[hu]
theorem Api{fs:Array Field}(hu:P.underlying t=some (.struct fs)):WT P (d+1) t ps↔∃rows:List Ab,ps=rows.flatten/\Ca (fun f r=>WT P d f.type r) fs.toList rows:=by show (match P.underlying t with|some .bool=>_|some (.int k)=>_|some .string=>_|some (.slice e)=>_|some (.struct fs)=>_|some (.array n e)=>_|_=>_)↔_;rw[hu]
theorem Aul{n:Nat}(hu:P.underlying t=some (.array n e)):WT P (d+1) t ps↔∃rows:List Ab,ps=rows.flatten/\rows.length=n/\∀r∈rows,r.length=P.cellsOf e/\WT P d e r:=by show (match P.underlying t with|some .bool=>_|some (.int k)=>_|some .string=>_|some (.slice e)=>_|some (.struct fs)=>_|some (.array n e)=>_|_=>_)↔_;rw[hu]
end
inductive Ki where
 |bool
 |int (k:IntKind)
 |str
 |sl (e:TypeId)
 |st (ts:List TypeId)
 |ar (n:Nat) (e:TypeId)
 |no
def BB(P:Program)(t:TypeId):Ki:=
 match P.underlying t with
 |some .bool=>.bool
 |some (.int k)=>.int k
 |some .string=>.str
 |some (.slice e)=>.sl e
 |some (.struct fs)=>.st (fs.toList.map (·.type))
 |some (.array n e)=>.ar n e
 |_=>.no
section
variable {P:Program}{d:Nat}{t e:TypeId}{ps:Ab}{p:PV}
theorem Ca.cons_inv{α β:Type}{R:α->β->Prop}{a:α}{zs:List α}:∀{rs:List β},Ca R (a::zs) rs->∃r rs',rs=r::rs'/\R a r/\Ca R zs rs'
 |[],h=>h.elim
 |r::rs,h=>⟨r,rs,rfl,h.1,h.2⟩
theorem Ca.nil_inv{α β:Type}{R:α->β->Prop}:∀{rs:List β},Ca R ([]:List α) rs->rs=[]
 |[],_=>rfl
 |_::_,h=>h.elim
theorem Arh{k:IntKind}(hk:BB P t=.int k)(h:WT P d t ps):∃n,ps=[.sc (.int k n)]/\(Lit.int k n).wf=true:=by
 cases d with
 |zero=>exact h.elim
 |succ d=>
 unfold BB at hk;split at hk<;>first|cases hk|skip
 rename_i hu;exact (Aq4 hu).1 h
theorem A54(hk:BB P t=.sl e)(h:WT P d t ps):∃rows:List Ab,ps=[.lst false (P.cellsOf e) rows.length rows.flatten]/\rows.length<=maxLen/\∀r∈rows,r.length=P.cellsOf e/\WT P (d-1) e r:=by
 cases d with
 |zero=>exact h.elim
 |succ d=>
 rw[Nat.add_sub_cancel];unfold BB at hk;split at hk<;>first|cases hk|skip
 rename_i hu;exact (Ae9 hu).1 h
theorem Alo(hk:C9 P t=false)(h:WTv P t p):WT P 12 t [p]:=by unfold WTv at h;rw[hk] at h;exact h
theorem Ax8{k:IntKind}(ha:C9 P t=false)(hk:BB P t=.int k)(h:WTv P t p):∃n,p=.sc (.int k n)/\(Lit.int k n).wf=true:=by obtain⟨b,e,h⟩:=Arh hk (Alo ha h);exact⟨b,by injection e,h⟩
theorem QA{α:Type}(f:α->Ab)(Q:α->Prop):∀{rows:List Ab},(∀r∈rows,∃x,r=f x/\Q x)->∃xs:List α,rows.flatten=xs.flatMap f/\rows.length=xs.length/\∀x∈xs,Q x
 |[],_=>⟨[],rfl,rfl,by simp⟩
 |r::rows,h=>by
  obtain⟨x,h1,h2⟩:=h r (by simp);obtain⟨xs,h3,h4,h5⟩:=QA (rows:=rows) f Q fun r hr=>h r (by simp[hr]);refine⟨x::xs,by simp[h1,h3],by simp[h4],fun y hy=>?_⟩;rcases B7.1 hy with rfl|hy
  ·exact h2
  ·exact h5 y hy
end
abbrev No:Nat->Prop:=fun _=>False
section
variable {H:Type}{enc:TypeId × Value->H}{P:Program}{w:World}{base:Nat}{held:Bool}
theorem Ca.flat{α β:Type}{R:α->β->Prop}:∀{l:Cc}{f:Nat->List α}{g:Nat->List β},(∀i∈l,Ca R (f i) (g i))->Ca R (l.map f).flatten (l.map g).flatten
 |[],_,_,_=>trivial
 |i::l,f,g,h=>by
  simp only[Sn,List.flatten_cons];exact (h i (by simp)).app (Ca.flat fun j hj=>h j (by simp[hj]))
theorem Aoa{a:Addr}{v:Value}(h:w.cell? a=some v):a.spot=none/\a.block<w.heap.size:=by
 unfold World.cell? at h;split at h
 ·rename_i c t f e;refine⟨?_,?_⟩
  ·cases hs:a.spot with
   |none=>rfl
   |some x=>rw[hs] at h;simp at h
  ·rcases Mh a.block w.heap.size with h1|h1
   ·exact h1
   ·rw[Array.getElem?_eq_none h1] at e;cases e
 ·cases h
theorem UL{α:Type}{g:Nat->List α}{es:Nat}:∀{n:Nat},(∀i,i<n->(g i).length=es)->((List.range n).map g).flatten.length=n*es
 |0,_=>by simp
 |n+1,h=>by
  rw[List.range_succ,List.map_append,List.flatten_append,F9,UL (fun i hi=>h i (by omega))];simp[h n (by omega),Nat.succ_mul]
theorem VG{a:Addr}{g:Nat->List Value}{es:Nat}:∀{n:Nat},(∀i,i<n->(g i).length=es)->(∀i,i<n->∀k,k<es->w.cell? (a.add (i*es+k))=(g i)[k]?) ->
  ∀j,j<n*es->w.cell? (a.add j)=(((List.range n).map g).flatten)[j]?
 |0,_,_,j,hj=>by omega
 |n+1,hl,hc,j,hj=>by
  have hfl:=UL (fun i (hi:i<n)=>hl i (by omega));rw[List.range_succ,List.map_append,List.flatten_append,List.getElem?_append,hfl];rw[Nat.succ_mul] at hj;split
  ·rename_i h1;exact VG (fun i hi=>hl i (by omega)) (fun i hi=>hc i (by omega)) j h1
  ·rename_i h1;have:=hc n (by omega) (j-n*es) (by omega);rw[show n*es+(j-n*es)=j by omega] at this
   simpa using this
abbrev TR(w:World)(c:PV)(v:Value):Prop:=(GT c/\Bd w No c v)/\v.oneCell'=true
theorem QR{d:Nat}{cs:List Value}{n:Nat}(hn:cs.length=n):∀(l:List Field)(i:Nat),Acy P l i n=true ->
  (∀f∈l,∃ps,WT P d f.type ps/\Ca (TR w) ps ((cs.drop f.offset).take (P.cellsOf f.type)))->∃rows:List Ab,Ca (fun f r=>WT P d f.type r) l rows/\Ca (TR w) rows.flatten (cs.drop i)
 |[],i,ho,_=>by
  have:=Ez ho;refine⟨[],trivial,?_⟩;rw[List.drop_of_length_le (by omega)];trivial
 |f::l,i,ho,h=>by
  simp only[Acy,G6] at ho;have ho1:=Ez ho.1;obtain⟨ps,h1,h2⟩:=h f (by simp);obtain⟨rows,h3,h4⟩:=QR hn l _ ho.2 fun g hg=>h g (by simp[hg]);refine⟨ps::rows,⟨h1,h3⟩,?_⟩;rw[ho1] at h2;have:cs.drop i=(cs.drop i).take (P.cellsOf f.type)++cs.drop (i+P.cellsOf f.type):=by rw[<-List.drop_drop];exact (List.take_append_drop _ _).symm
  rw[this,List.flatten_cons];exact h2.app h4
theorem VN{d:Nat}{e:TypeId}{cs:List Value}{k:Nat}:∀(n:Nat),n*k<=cs.length ->
  (∀i,i<n->∃ps,(ps.length=k/\WT P d e ps)/\Ca (TR w) ps ((cs.drop (i*k)).take k))->∃rows:List Ab,rows.length=n/\(∀r∈rows,r.length=k/\WT P d e r)/\Ca (TR w) rows.flatten (cs.take (n*k))
 |0,_,_=>⟨[],rfl,by simp,by simp[Ca]⟩
 |n+1,hl,h=>by
  rw[Nat.succ_mul] at hl;obtain⟨rows,h1,h2,h3⟩:=VN n (by omega) fun i hi=>h i (by omega);obtain⟨ps,h4,h5⟩:=h n (by omega);refine⟨rows++[ps],by simp[h1],?_,?_⟩
  ·intro r hr;rcases B4.1 hr with hr|hr
   ·exact h2 r hr
   ·rw[M0.1 hr];exact h4
  ·rw[List.flatten_append,Nat.succ_mul,List.take_add];refine h3.app ?_
   simpa using h5
theorem EY:∀(d:Nat)(t:TypeId),Tv P d t=true->∀(fuel:Nat)(cs:List Value)(x:DataW H × List MemPlace),DataW.trod enc P w base (fun _=>true) held fuel t cs=some x ->
  ∃ps,WT P d t ps/\Ca (TR w) ps cs
 |0,_,h,_,_,_,_=>by cases h
 |d+1,t,hp,fuel,cs,x,h=>by
  unfold Tv at hp;split at hp
  ·rename_i hu;obtain⟨b,rfl,_⟩:=DataW.trod_bool hu h;simp only[Aym hu];exact⟨[.sc (.bool b)],⟨b,rfl⟩,⟨⟨trivial,Bd.sc _⟩,rfl⟩,trivial⟩
  ·rename_i k hu;obtain⟨n,rfl,_,hw⟩:=DataW.trod_int hu h;simp only[Aq4 hu];exact⟨[.sc (.int k n)],⟨n,rfl,hw⟩,⟨⟨trivial,Bd.sc _⟩,rfl⟩,trivial⟩
  ·rename_i hu;obtain⟨s,rfl,_,hw⟩:=DataW.trod_string hu h;simp only[Aon hu];exact⟨[.sc (.string s)],⟨s,rfl,hw⟩,⟨⟨trivial,Bd.sc _⟩,rfl⟩,trivial⟩
  ·rename_i e hu;simp only[G6] at hp;have QV:0<P.cellsOf e:=Nat.lt_of_succ_le (Ya hp.2);simp only[Ae9 hu];rcases open_slice hu h with⟨rfl,_⟩|⟨a,len,cap,m,n,D,Pl,rfl,_,hl,hm,hmm,_,hi⟩
   ·exact⟨[.lst false (P.cellsOf e) 0 []],⟨[],by simp,by simp,by simp⟩,⟨⟨trivial,Bd.lnil _ _⟩,rfl⟩,trivial⟩
   ·simp only[if_true] at hmm;subst hmm
    have hi':∀i,i<len->∃q:Ab × List Value,(q.2.length=P.cellsOf e/\(∀k,k<P.cellsOf e->w.cell? (a.add (i*P.cellsOf e+k))=q.2[k]?))/\WT P d e q.1/\Ca (TR w) q.1 q.2:=by
     intro i Cr;obtain⟨cs',hc,ht⟩:=hi i (by omega);obtain⟨_,CN,ZO⟩:=World.cells?_some hc;obtain⟨ps,h1,h2⟩:=EY d e hp.1 _ _ _ ht;exact⟨(ps,cs'),⟨CN,fun k hk=>by rw[<-Pv.add_add];exact ZO k hk⟩,h1,h2⟩
    obtain⟨F,hF⟩:=choose_lt hi';refine⟨[.lst false (P.cellsOf e) len ((List.range len).map fun i=>(F i).1).flatten],⟨(List.range len).map fun i=>(F i).1,by simp,by simp;omega,?_⟩,⟨⟨trivial,?_⟩,rfl⟩,trivial⟩
    ·intro r hr;obtain⟨i,hi1,rfl⟩:=List.mem_map.1 hr;have hi2:=List.mem_range.1 hi1;exact⟨by rw[(hF i hi2).2.2.len];exact (hF i hi2).1.1,(hF i hi2).2.1⟩
    ·rcases Nat.eq_zero_or_pos len with h0|h0
     ·subst h0;exact Bd.lemp _ _ _
     ·have BG:Ca (TR w) ((List.range len).map fun i=>(F i).1).flatten ((List.range len).map fun i=>(F i).2).flatten:=Ca.flat fun i hi=>(hF i (List.mem_range.1 hi)).2.2;have hcell:=VG (w:=w) (a:=a) (g:=fun i=>(F i).2) (fun i hi=>(hF i hi).1.1) (fun i hi=>(hF i hi).1.2);have H2:=UL (g:=fun i=>(F i).2) (fun i (hi:i<len)=>(hF i hi).1.1)
      have h00:w.cell? a≠none:=by
       have:=hcell 0 (Nat.mul_pos h0 QV);rw[show a.add 0=a by unfold Addr.add;simp] at this
       rw[this,List.getElem?_eq_getElem (by rw[H2];exact Nat.mul_pos h0 QV)]
       simp
      obtain⟨v0,hv0⟩:=Option.ne_none_iff_exists'.1 h00;obtain⟨hs,hb⟩:=Aoa hv0
      have key:∀j c,(((List.range len).map fun i=>(F i).1).flatten)[j]?=some c->∃v,w.cell? (a.add j)=some v/\TR w c v:=by
       intro j c hj
       have hlj:j<len*P.cellsOf e:=by
        rw[<-H2,<-BG.len];rcases Mh j (((List.range len).map fun i=>(F i).1).flatten).length with h1|h1
        ·exact h1
        ·rw[List.getElem?_eq_none h1] at hj;cases hj
       have h1:=hcell j hlj;rw[List.getElem?_eq_getElem (by rw[H2];exact hlj)] at h1
       exact⟨_,h1,BG.at_ hj (List.getElem?_eq_getElem (by rw[H2];exact hlj))⟩
      refine Bd.lst _ _ _ a _ (fun j=>(w.cell? (a.add j)).getD undef) hs hb (fun h=>h) hl (fun j c hj=>?_) (fun j c hj=>?_) (fun j c hj=>?_)
      ·obtain⟨v,hv,_⟩:=key j c hj;rw[hv];rfl
      ·obtain⟨v,hv,ht⟩:=key j c hj;rw[hv];exact ht.2
      ·obtain⟨v,hv,ht⟩:=key j c hj;rw[hv];exact ht.1.2
  ·rename_i fs hu;simp only[G6] at hp;simp only[Api hu];obtain⟨xs,n,_,_,H2,hxl,hf⟩:=DataW.trod_struct hu h
   obtain⟨rows,h1,h2⟩:=QR (P:=P) (w:=w) (d:=d) H2 fs.toList 0 hp.1 fun f hf'=>by
    obtain⟨i,hi⟩:=List.mem_iff_getElem?.1 hf';have hi':fs[i]?=some f:=by simpa using hi
    have Cr:i<fs.size:=(Array.getElem?_eq_some_iff.1 hi').1;have h3:=hf i f hi';rw[List.getElem?_eq_getElem (by omega)] at h3;exact EY d f.type (List.all_eq_true.1 hp.2 f hf') _ _ _ h3
   exact⟨_,⟨rows,rfl,h1⟩,by simpa using h2⟩
  ·rename_i n e hu;simp only[G6] at hp;simp only[Aul hu];obtain⟨xs,m,_,_,H2,hxl,hf⟩:=DataW.trod_array hu h;have K9:=Ez hp.1
   obtain⟨rows,h1,h2,h3⟩:=VN (P:=P) (w:=w) (d:=d) (e:=e) (cs:=cs) (k:=P.cellsOf e) n (by omega) fun i hi=>by
    have h3:=hf i hi;rw[List.getElem?_eq_getElem (by omega)] at h3;obtain⟨ps,h4,h5⟩:=EY d e hp.2 _ _ _ h3;refine⟨ps,⟨?_,h4⟩,h5⟩;rw[h5.len,List.length_take,List.length_drop,H2,K9];have:(i+1)*P.cellsOf e<=n*P.cellsOf e:=Nat.mul_le_mul_right _ hi;rw[Nat.succ_mul] at this;omega
   refine⟨_,⟨rows,rfl,h1,h2⟩,?_⟩;rw[Hg (by omega)] at h3;exact h3
  ·cases hp
theorem Atg{r:Reach}{b0:Nat}{t:TypeId}{v:Value}{dd:DataW H}{p:List MemPlace}(hp:Tv P 12 t=true)(hv:Value.okWide P w r b0 t v)(h:DataW.Trod enc P w base (fun _=>true) held t v dd p):
  ∃q,WTv P t q/\Zg w No q v:=by
 obtain⟨fuel,hf⟩:=h;obtain⟨ps,h1,h2⟩:=EY 12 t hp fuel _ _ hf;unfold WTv C9
 have two:∀{cs:Array Value},v=.agg cs->∃q,(∃ps,q=.agg ps/\WT P 12 t ps)/\Zg w No q v:=by
  intro cs e;subst e;exact⟨.agg ps,⟨ps,rfl,h1⟩,cs.toList,by simp,h2.mono fun c v h=>h.1⟩
 have one:v.cells.toList=[v]->∃q,WT P 12 t [q]/\Zg w No q v:=by
  intro e;rw[e] at h2
  match ps,h2 with
  |[q],h2=>
   refine⟨q,h1,?_⟩;have h3:=h2.1.1;cases q<;>first|exact h3|exact h3.1.elim
  |[],h2=>exact h2.elim
  |_::_::_,h2=>exact h2.2.elim
 unfold Tv at hp;split at hp
 ·rename_i hu;simp only[hu];obtain⟨b,rfl,_⟩:=open_bool hu hv ⟨fuel,hf⟩;exact one rfl
 ·rename_i k hu;simp only[hu];obtain⟨b,rfl,_⟩:=open_int hu hv ⟨fuel,hf⟩;exact one rfl
 ·rename_i hu;simp only[hu];obtain⟨b,rfl,_⟩:=ChangeMaps.open_string hu hv ⟨fuel,hf⟩;exact one rfl
 ·rename_i e hu;simp only[hu];obtain⟨a,len,cap,rfl⟩:=okWide_slice hu hv;exact one rfl
 ·rename_i fs hu;simp only[hu];obtain⟨cs,rfl,_⟩:=okWide_struct hu hv;exact two rfl
 ·rename_i n e hu;simp only[hu];unfold Value.okWide at hv;simp only[hu] at hv;obtain⟨cs,rfl,_⟩:=hv;exact two rfl
 ·cases hp
theorem Abv:∀{ts:List TypeId}{vs:List Value}{ds:List (DataW H)} {p:List MemPlace}{r:Reach}{b0:Nat},(ts.all fun t=>Tv P 12 t)=true->(∀(j:Nat) t v,ts[j]?=some t->vs[j]?=some v->Value.okWide P w r b0 t v) ->
  DataW.TrodAll enc P w base (fun _=>true) held ts vs ds p->∃qs,Ca (WTv P) ts qs/\Ca (Zg w No) qs vs
 |[],[],[],_,_,_,_,_,_=>⟨[],trivial,trivial⟩
 |t::ts,v::vs,d::ds,_,r,b0,hp,hv,⟨p,q,h1,h2,_⟩=>by
  simp only[List.all_cons,G6] at hp;obtain⟨x,h3,h4⟩:=Atg hp.1 (hv 0 t v rfl rfl) h1;obtain⟨xs,h5,h6⟩:=Abv hp.2 (fun j t v ht Wv=>hv (j+1) t v ht Wv) h2;exact⟨x::xs,⟨h3,h5⟩,h4,h6⟩
 |[],_::_,_,_,_,_,_,_,h=>by cases h
 |[],[],_::_,_,_,_,_,_,h=>by cases h
 |_::_,[],_,_,_,_,_,_,h=>by cases h
 |_::_,_::_,[],_,_,_,_,_,h=>by cases h
theorem HE(hl:laidOutB P=true){W W':World}{sp:Nat->Bool}:∀{ts:List TypeId}{vs:List Value}{ds:List (DataW H)} {p:List MemPlace},(ts.all fun t=>P.readableRec t&&Nat.blt t P.types.size)=true ->
  DataW.TrodAll enc P W 0 (fun _=>true) true ts vs ds p->(∀x∈p,W.sameAt W' x)->(∀x∈p,sp x.block=true)->DataW.TrodAll enc P W' 0 sp true ts vs ds p
 |[],[],[],_,_,h,_,_=>h
 |t::ts,v::vs,d::ds,_,hr,⟨p,q,h1,h2,e⟩,hs,hsp=>by
  simp only[List.all_cons,G6] at hr;refine⟨p,q,WideElems.Trod_stays hl hr.1.1 (Nat.lt_of_succ_le (Ya hr.1.2)) h1 (fun x hx=>hs x ?_) (fun x hx=>hsp x ?_),HE hl hr.2 h2 (fun x hx=>hs x ?_) (fun x hx=>hsp x ?_),e⟩
  all_goals rw[e,B4]
  ·exact .inl hx
  ·exact .inl hx
  ·exact .inr hx
  ·exact .inr hx
 |[],_::_,_,_,_,h,_,_=>by cases h
 |[],[],_::_,_,_,h,_,_=>by cases h
 |_::_,[],_,_,_,h,_,_=>by cases h
 |_::_,_::_,[],_,_,h,_,_=>by cases h
theorem YV{f:Func}{s:ChangeSpec}{apart fresh Acu again:Bool}{W W':World}{args:Array Value}{v:Value}{ds gs:List (DataW H)}{before pa pv:List MemPlace}(hW:DataW.Whole enc P f.params.toList s.vars apart W args.toList ds gs before)(A64:∀(b:Nat)(sp:Nat->Bool)(hd:Bool),DataW.TrodAll enc P W' b sp hd f.resultTypes.toList (v.resultList f.resultTypes.size) (s.fn H (ds++gs)).results [])(F1:∀sp:Nat->Bool,(∀p∈before,sp p.block=true)->DataW.TrodAll enc P W' 0 sp true f.params.toList args.toList (s.fn H (ds++gs)).args pa)(Ahh:∀sp:Nat->Bool,(∀p∈before,sp p.block=true)->DataW.TrodVars enc P W' sp s.vars (s.fn H (ds++gs)).vars pv)(QQ:before=pa++pv)(hb:Below W.heap.size W W')(hok:∀(j:Nat)(t:TypeId)(r:Value),f.resultTypes[j]?=some t->(v.resultList f.resultTypes.size)[j]?=some r->Value.okWide P W' .any 0 t r):
  s.post enc P f apart fresh Acu again W args v W':=by
 have Cr:∀p∈before,p.block<W.heap.size:=fun p hp=>hW.lt p hp;have hold:∀p∈before,(fun b=>decide (b<W.heap.size)) p.block=true:=fun p hp=>by simpa using Cr p hp
 refine⟨ds,gs,before,[],pa,pv,hW,A64 _ _ _,F1 _ hold,Ahh _ hold,World.keptBut_mono (fun p hp=>⟨hp,?_⟩) (hb.frame (· ∈ before)),fun _=>?_⟩
 ·rw[QQ,B4] at hp;exact Or.inr hp
 ·obtain⟨_,_,_,_,_,hz,hn⟩:=hW;refine⟨hok,_,_,([]++pa)++pv,⟨[]++pa,pv,trodAll_append (F1 _ (fun _ _=>rfl)) (A64 _ _ _),Ahh _ (fun _ _=>rfl),rfl,?_,?_⟩,?_⟩
  ·intro b off hp;have FN:MemPlace.cell b off∈before:=by rw[QQ];simpa using hp
   rw[hb.frozen (Cr _ FN)];exact hz b off FN
  ·intro ha;have:=hn ha;rw[QQ] at this
   simpa using this
  ·intro p hp _;rw[QQ]
   simpa using hp
theorem law_contract{G:Ze}{C:Kr}(hx:Am8 G P C)(Lg:NoNG P)(hm:P.follows .mixedOrders=true)(hl:laidOutB P=true){f:FuncId}{fn:Func}{s:ChangeSpec}{tb:TypeId}(hfn:P.funcs[f]?=some fn)(Ahh:s.vars=[])(A6j:∀ds:List (DataW H),ds.length=fn.params.size->s.fn H ds={ results:=[.lit (.bool true)],args:=ds })(A4v:(fn.params.toList.all fun t=>Tv P 12 t)=true)(A53:(fn.params.toList.all fun t=>P.readableRec t&&Nat.blt t P.types.size)=true)(hrt:fn.resultTypes = #[tb])(hub:P.underlying tb=some .bool){apart fresh Acu again:Bool}(W:World)(base:Nat)(args:Array Value)(ds gs:List (DataW H))(before:List MemPlace)(hval:∀(j:Nat) t v,fn.params[j]?=some t->args[j]?=some v->Value.okWide P W .any base t v)(hW:DataW.Whole enc P fn.params.toList s.vars apart W args.toList ds gs before)(Bay:∀qs:Ab,Ca (WTv P) fn.params.toList qs->∃fu d,Aq C P fu d f qs=some ⟨[.sc (.bool true)],[]⟩)(hG:G.ok W)(hGY:∀b,G.bl b->b<W.heap.size):
  Calls P f args W fun e W'=>∃v,e=.returned v/\s.post enc P fn apart fresh Acu again W args v W':=by
 have hW':=hW;obtain⟨p,q,hA,hV,rfl,PB,YC⟩:=hW;rw[Ahh] at hV;obtain⟨rfl,rfl⟩:=trodVars_none hV;obtain⟨qs,h1,h2⟩:=Abv A4v (fun j t v ht hv=>hval j t v (by simpa using ht) (by simpa using hv)) hA;obtain⟨fu,d,hc⟩:=Bay qs h1;have hS:=(EI Lg hm hx d f qs _ hc).2 W No EO args.toList (Agj (fun b h=>h.elim) h2) hG (fun b hb=>⟨hGY b hb,Ti b⟩);rw[Array.toArray_toList] at hS;refine hS.mono fun e W' ⟨vs,own,he,ho⟩=>?_;have hv:=ho.vals
 have Xt:vs=[.bool true]:=by
  match vs,hv with
  |[u],hv=>
   have:Bd W' _ (.sc (.bool true)) u:=hv.1;rw[this.val]
  |[],hv=>exact hv.elim
  |_::_::_,hv=>exact hv.2.elim
 subst Xt;subst he;have hb:Below W.heap.size W W':=⟨ho.os,ho.tape,ho.output,ho.ext.size,fun k hk=>ho.ext.keep k hk (Ti k)⟩
 have Cr:∀x∈p,x.block<W.heap.size:=fun x hx=>hW'.lt x (by simpa using hx)
 have H2:ds.length=fn.params.size:=by
  have:∀{ts:List TypeId} {vs:List Value} {ds:List (DataW H)} {p:List MemPlace},DataW.TrodAll enc P W 0 (fun _=>true) true ts vs ds p->ds.length=ts.length:=by
   intro ts
   induction ts with
   |nil=>intro vs ds p h;cases vs<;>cases ds<;>first|rfl|cases h
   |cons t ts ih=>
    intro vs ds p h;cases vs with
    |nil=>cases h
    |cons v vs=>
     cases ds with
     |nil=>cases h
     |cons d ds=>obtain⟨_,_,_,h2,_⟩:=h;simp[ih h2]
  simpa using this hA
 have hsp:=A6j (ds++[]) (by simpa using H2);refine⟨_,rfl,YV (pa:=p) (pv:=[]) hW' ?_ ?_ ?_ rfl hb ?_⟩
 ·intro b sp hd;rw[hsp,hrt];exact trodAll_mk1 (shut_bool hub _)
 ·intro sp Ba1;rw[hsp];simp only[List.append_nil];exact HE hl A53 hA (fun x hx=>hb.same (Cr x hx)) (fun x hx=>Ba1 x (by simpa using hx))
 ·intro sp _;rw[hsp,Ahh];rfl
 ·exact ok_one hrt rfl (okWide_bool_mk hub _)
end
end
section
open Go.Proofs.Tryz (prog)
theorem Ax1{d:Nat}{ps:Ab}{k:IntKind}{t e:TypeId}(hk:BB prog t=.sl e)(hc:prog.cellsOf e=1)(he:BB prog e=.int k)(h:WT prog d t ps):
  ∃l:B8,ps=[.lst false 1 l.length (Ac k l)]/\l.length<=maxLen/\∀n∈l,(Lit.int k n).wf=true:=by
 obtain⟨rows,rfl,hl,hr⟩:=A54 hk h;obtain⟨l,h1,h2,h3⟩:=QA (Ayy k) (fun n=>(Lit.int k n).wf=true) fun r hrr=>Arh he (hr r hrr).2;refine⟨l,?_,by omega,h3⟩;rw[h1,h2,hc]
theorem A73{n:Int}(h:(Lit.int .u8 n).wf=true):0<=n/\n<=255:=by simp[Lit.wf,IntKind.min,IntKind.max,IntKind.signed,IntKind.bits] at h;omega
theorem Ahb{p:PV}{k:IntKind}{t e:TypeId}(ha:C9 prog t=false)(hk:BB prog t=.sl e)(hc:prog.cellsOf e=1)(he:BB prog e=.int k)(h:WTv prog t p):
  ∃l:B8,p=.lst false 1 l.length (Ac k l)/\l.length<=maxLen/\∀n∈l,(Lit.int k n).wf=true:=by
 have h':=Alo (P:=prog) (t:=t) (p:=p) ha h;obtain⟨l,h1,h2,h3⟩:=Ax1 hk hc he h';exact⟨l,by injection h1,h2,h3⟩
end
instance : Coe Int PV:=⟨fun x=>.sc (.int .i64 x)⟩
abbrev Au (x:Int):PV:=.sc (.int .i64 x)
abbrev Af (x:Int):PV:=.sc (.int .u64 x)
abbrev Am(k n:Nat)(l:Ab):PV:=.lst false k n l
abbrev Bu(l:Ab):Option Dt:=some ⟨l,[]⟩
abbrev Dj(c:Option Dt)(k:PV->Ab->Option Dt):Option Dt:=Bj c fun x y=>Ar y<|Av x k
abbrev Cu(k:IntKind)(l:Ab)(f:Int->Ab->Option Dt):Option Dt:=Av l fun x y=>Be k x fun z=>f z y
abbrev Lj(k:IntKind)(c:Option Dt)(f:Int->Option Dt):Option Dt:=Bj c fun x y=>Ar y<|Av x fun z t=>Be k z fun u=>Ar t<|f u
abbrev G5(k:Nat)(l:Ab)(f:Nat->Ab->Ab->Option Dt):Option Dt:=Av l fun x y=>Ow k x fun _ n c=>f n c y
abbrev Ue(k:Nat)(l:Ab)(f:Nat->Ab->Ab->Option Dt):Option Dt:=Av l fun x y=>J0 k x fun n c=>f n c y
abbrev Wb(l:Ab)(f:Bool->Option Dt):Option Dt:=Av l fun x y=>Cg x fun z=>Ar y<|f z
abbrev Dc(k:IntKind)(l:Ab)(f:Int->Option Dt):Option Dt:=Av l fun x y=>Be k x fun z=>Ar y<|f z
abbrev On(n k m:Nat)(l e:Ab)(f:Nat->Ab->Option Dt):Option Dt:=As (decide (n*k<=l.length)&&true&&decide ((n+1)*m<=1099511627776)&&decide (n+1<=1099511627776))<|f (n+1) (List.take (n*k) l++e)
abbrev K0(fu:Nat)(call:Bq)(i:FuncId)(f:Func):=A6q CB prog fu call i f (VR f)
inductive ZzQ:Bool->Bool->Prop
|t:ZzQ true true
|f:ZzQ false false
theorem Cs{R:Type}{b c:Bool}{x y r:Option R}(h:ZzQ b c)(k:(match (generalizing:=false) c with|true=>x|false=>y)=r):Az b x y=r:=by cases h<;>exact k
theorem Ct:type_of% gT/\type_of% gF/\type_of% @Bool.not_true/\type_of% @Bool.not_false/\type_of% @decide_eq_true/\type_of% @decide_eq_false/\type_of% @decide_true/\type_of% @decide_false:=⟨gT,gF,@Bool.not_true,@Bool.not_false,@decide_eq_true,@decide_eq_false,@decide_true,@decide_false⟩
theorem Bx(n k m:Nat)(l e:Ab)(f:Nat->Ab->Option Dt):On n k m l e f=(As (decide (n*k<=l.length)&&true&&decide ((n+1)*m<=1099511627776)&&decide (n+1<=1099511627776))<|f (n+1) (List.take (n*k) l++e)):=by exact id rfl
abbrev Fm(C:Kr)(fu d:Nat)(F:FuncId)(l:Ab)(b:Bq->Option Dt):Prop:=Aq C prog fu (d+1) F l=b (Aq C prog fu d)
section
variable {xs:FuncId->Option (Ab->Option Dt)}(fu d:Nat)(call:Bq)
theorem GJ(Z Y:Int):Fm (CX xs) fu d 147 [Af Z,Y] fun call=>Aa (wrap .u64 Y) fun a=>Aa (Oy .u64 a 63) fun a=>As (decide (0<=a))<|Aa (Hq .u64 Z a) fun b=>Aa (wrap .u64 (64-a)) fun a=>As (decide (0<=a))<|Aa (Fp .u64 Z a) fun a=>Aa (YF .u64 b a) fun a=>Bu [Af a]:=by show _=_;kernel_rfl
def Km(Z:Nat)(Y:Ab)(X W V:Nat)(U:Ab)(T S:Int)(Q:Ab):Option Dt:=K0 fu call 86 Tryz.f86 [Am 1 Z Y] [.r,.r,.l,.r,.l] X ⟨lk [(3,.view 3 1 0 W),(11,Am 1 V U),(12,T),(13,S)],B3 [(3,.ar false Q)]⟩
def Nl(Z:Nat)(Y:Ab)(X W V:Nat)(U:Int)(T:Nat)(S:Ab)(Q P O:Int)(N:Ab):Option Dt:=K0 fu call 86 Tryz.f86 [Am 1 Z Y] [.r,.r,.l,.r,.l,.i X,.r,.r,.l,.l,.r,.r,.l] W ⟨lk [(3,.view 3 1 0 V),(5,Af U),(11,Am 1 T S),(12,Q),(13,P),(17,O)],B3 [(3,.ar false N)]⟩
theorem Xa(T:Nat)(S:Ab)(Q Y W:Nat)(V:Ab)(U Z:Int)(X:Ab):Km fu call T S (Q+1) Y W V U Z X=(Az (decide (Z<U)) (As (decide (0<=Z)&&decide (Z<(↑W:Int)))<|Be .u64 (V.getD (Z.toNat*1) .top) fun a=>Nl fu call T S Q fu Y a W V U Z 0 X) (As (decide (Y*1<=X.length))<|Bu [.own 1 Y (X.take (Y*1))])):=by kernel_rfl
theorem Wm(Y:Nat)(X:Ab)(W N V:Nat)(U:Int)(T:Nat)(S:Ab)(Q P Z:Int)(O:Ab):Nl fu call Y X W (N+1) V U T S Q P Z O=(Az (decide (Z<8)) (Aa (wrap .i64 (8*Z)) fun a=>Aa (wrap .i64 (56-a)) fun a=>As (decide (0<=a))<|Aa (Fp .u64 U a) fun a=>Aa (wrap .u8 a) fun a=>On V 1 1 O [.sc (.int .u8 a)] fun a b=>Aa (wrap .i64 (Z+1)) fun c=>Nl fu call Y X W N a U T S Q P c b) (Aa (wrap .i64 (P+1)) fun a=>Km fu call Y X W V T S Q a O)):=by kernel_rfl
theorem UP(Z:Nat)(Y:Ab):Fm (CX xs) fu d 86 [Am 1 Z Y] fun call=>Aa (wrap .i64 (8*(↑Z:Int))) fun a=>As (decide (0<=a)&&decide (a*1<=1099511627776)&&decide (a<=1099511627776))<|Km fu call Z Y fu 0 Z Y (↑Z:Int) 0 ([]):=by show _=_;kernel_rfl
def Mj(Z:Nat)(Y:Ab)(X:Nat)(W:Int)(V:Nat)(U:Ab)(T S:Int):Option Dt:=K0 fu call 135 Tryz.f135 [Am 1 Z Y] [.r,.r,.l,.r,.l] X ⟨lk [(3,Af W),(6,Am 1 V U),(7,T),(8,S)],B3 []⟩
theorem Vv(U:Nat)(T:Ab)(S:Nat)(Y:Int)(X:Nat)(W:Ab)(V Z:Int):Mj fu call U T (S+1) Y X W V Z=(Az (decide (Z<V)) (As (decide (0<=Z)&&decide (Z<(↑X:Int)))<|Be .u8 (W.getD (Z.toNat*1) .top) fun a=>Aa (wrap .u64 a) fun a=>Aa (wrap .i64 (8*Z)) fun b=>As (decide (0<=b))<|Aa (Hq .u64 a b) fun a=>Aa (YF .u64 Y a) fun a=>Aa (wrap .i64 (Z+1)) fun b=>Mj fu call U T S a X W V b) (Bu [Af Y])):=by kernel_rfl
theorem SP(Z:Nat)(Y:Ab):Fm (CX xs) fu d 135 [Am 1 Z Y] fun call=>Mj fu call Z Y fu 0 Z Y (↑Z:Int) 0:=by show _=_;kernel_rfl
def Hz(Z Y:Int)(X W V:Int)(U:Nat)(T S:Int)(Q P:Int)(O N:Int):Option Dt:=K0 fu call 136 Tryz.f136 [.pbox [Af Z,Af Y,Af X,Af W],V] [.r,.l] U ⟨lk [(0,.ptr 288000 0),(4,T),(5,S)],B3 [(288000,.st [Af Q,Af P,Af O,Af N])]⟩
theorem M7(T S:Int)(Q P O:Int)(N:Nat)(X W:Int)(V Z:Int)(U Y:Int):Hz fu call T S Q P O (N+1) X W V Z U Y=(Az (decide (W<X)) (Aa (wrap .u64 (V+Z)) fun a=>Lj .u64 (call 147 [Af Z,(13:Int)]) fun b=>Aa (Fj .u64 b a) fun b=>Lj .u64 (call 147 [Af a,(32:Int)]) fun a=>Aa (wrap .u64 (U+Y)) fun c=>Lj .u64 (call 147 [Af Y,(16:Int)]) fun e=>Aa (Fj .u64 e c) fun e=>Aa (wrap .u64 (a+e)) fun a=>Lj .u64 (call 147 [Af e,(21:Int)]) fun e=>Aa (Fj .u64 e a) fun e=>Aa (wrap .u64 (c+b)) fun c=>Lj .u64 (call 147 [Af b,(17:Int)]) fun b=>Aa (Fj .u64 b c) fun b=>Lj .u64 (call 147 [Af c,(32:Int)]) fun c=>Aa (wrap .i64 (W+1)) fun f=>Hz fu call T S Q P O N X f a b c e) (some ⟨[],[[Af V,Af Z,Af U,Af Y]]⟩)):=by kernel_rfl
theorem CG(Z Y:Int)(X W V:Int):Fm (CX xs) fu d 136 [.pbox [Af Z,Af Y,Af X,Af W],V] fun call=>Hz fu call Z Y X W V fu V 0 Z Y X (W):=by show _=_;kernel_rfl
theorem CL(Y X:Int)(W V Z:Int):Fm (CX xs) fu d 134 [.pbox [Af Y,Af X,Af W,Af V],Af Z] fun call=>Aa (Fj .u64 V Z) fun a=>Bj (call 136 [.pbox [Af Y,Af X,Af W,Af a],(2:Int)]) fun a b=>Ar a<|Av b fun a b=>Cu .u64 a fun a c=>Cu .u64 c fun c e=>Cu .u64 e fun e f=>Dc .u64 f fun f=>Ar b<|Aa (Fj .u64 a Z) fun a=>some ⟨[],[[Af a,Af c,Af e,Af f]]⟩:=by show _=_;kernel_rfl
def Na(Z Y:Int)(X:Nat)(W:Ab)(V U:Nat)(T:Ab)(S Q:Int)(P O:Int)(N M L:Int):Option Dt:=K0 fu call 109 Tryz.f109 [Af Z,Af Y,Am 1 X W] [.r,.r,.r,.l,.r,.l] V ⟨lk [(2,Am 1 U T),(7,.ptr 7 0),(8,S),(22,Q),(23,P)],B3 [(7,.st [Af O,Af N,Af M,Af L])]⟩
theorem BW(P O:Int)(N:Nat)(M:Ab)(L Z:Nat)(X:Ab)(W V:Int)(Y U:Int)(T S Q:Int):Na fu call P O N M (L+1) Z X W V Y U T S Q=(Az (decide (Y<V)) (Aa (wrap .i64 (8*Y)) fun a=>Aa (wrap .i64 (8*Y)) fun b=>Aa (wrap .i64 (b+8)) fun b=>As (decide (0<=a))<|As (decide (0<=b))<|As (decide (a.toNat<=b.toNat)&&decide (b.toNat<=Z))<|Aa (b.toNat-a.toNat) fun b=>Aa (List.take (b*1) (X.drop (a.toNat*1))) fun a=>Lj .u64 (call 135 [Am 1 b a]) fun a=>Bj (call 134 [.pbox [Af U,Af T,Af S,Af Q],Af a]) fun a b=>Ar a<|Av b fun a b=>Cu .u64 a fun a c=>Cu .u64 c fun c e=>Cu .u64 e fun e f=>Dc .u64 f fun f=>Ar b<|Aa (wrap .i64 (Y+1)) fun b=>Na fu call P O N M L Z X W V b a c e f) (Aa (wrap .i64 (8*W)) fun a=>As (decide (0<=a))<|As (decide (a.toNat<=Z)&&decide (Z<=Z))<|Aa (Z-a.toNat) fun b=>Aa (List.take (b*1) (X.drop (a.toNat*1))) fun a=>Lj .u64 (call 135 [Am 1 b a]) fun a=>Aa (wrap .u64 (↑Z:Int)) fun b=>Aa (Hq .u64 b 56) fun b=>Aa (YF .u64 a b) fun a=>Bj (call 134 [.pbox [Af U,Af T,Af S,Af Q],Af a]) fun a b=>Ar a<|Av b fun a b=>Cu .u64 a fun a c=>Cu .u64 c fun c e=>Cu .u64 e fun e f=>Dc .u64 f fun f=>Ar b<|Aa (Fj .u64 e 255) fun b=>Bj (call 136 [.pbox [Af a,Af c,Af b,Af f],(4:Int)]) fun a b=>Ar a<|Av b fun a b=>Cu .u64 a fun a c=>Cu .u64 c fun c e=>Cu .u64 e fun e f=>Dc .u64 f fun f=>Ar b<|Aa (Fj .u64 a c) fun a=>Aa (Fj .u64 a e) fun a=>Aa (Fj .u64 a f) fun a=>Bu [Af a])):=by kernel_rfl
theorem Aci(Z Y:Int)(X:Nat)(W:Ab):Fm (CX xs) fu d 109 [Af Z,Af Y,Am 1 X W] fun call=>Aa (Fj .u64 Z 8317987319222330741) fun a=>Aa (Fj .u64 Y 7237128888997146477) fun b=>Aa (Fj .u64 Z 7816392313619706465) fun c=>Aa (Fj .u64 Y 8387220255154660723) fun e=>Aa (wrap .i64 (Int.tdiv (↑X:Int) 8)) fun f=>Na fu call Z Y X W fu X W f f 0 a b c e:=by show _=_;kernel_rfl
theorem ZM(Z:Int)(Y:Nat)(X:Ab):Fm (CX xs) fu d 66 [Z,Am 1 Y X] fun call=>Aa (wrap .u64 Z) fun a=>Lj .u64 (call 109 [Af a,Af 0,Am 1 Y X]) fun a=>Bu [Af a]:=by show _=_;kernel_rfl
theorem Adm(Z Y:Int)(X:Nat)(W:Ab):Fm (CX xs) fu d 137 [Af Z,Y,Am 1 X W] fun call=>Aa (wrap .u64 Y) fun a=>Aa (wrap .u64 (1+a)) fun a=>Lj .u64 (call 109 [Af Z,Af a,Am 1 X W]) fun a=>Bu [Af a]:=by show _=_;kernel_rfl
theorem JA(Y Z:Int):Fm (CX xs) fu d 128 [Af Y,Af Z] fun call=>As (decide (0<=Z))<|Aa (Hq .u64 Y Z) fun a=>Aa (wrap .u64 (64-Z)) fun b=>As (decide (0<=b))<|Aa (Fp .u64 Y b) fun b=>Aa (YF .u64 a b) fun a=>Bu [Af a]:=by show _=_;kernel_rfl
theorem GP(X Z:Int)(W Y:Int):Fm (CX xs) fu d 103 [.agg [Af X,Af Z,Af W,Af Y]] fun call=>Aa (wrap .u64 (X+Z)) fun a=>Lj .u64 (call 128 [Af Z,Af 13]) fun b=>Aa (Fj .u64 b a) fun b=>Lj .u64 (call 128 [Af a,Af 32]) fun a=>Aa (wrap .u64 (W+Y)) fun c=>Lj .u64 (call 128 [Af Y,Af 16]) fun e=>Aa (Fj .u64 e c) fun e=>Aa (wrap .u64 (a+e)) fun a=>Lj .u64 (call 128 [Af e,Af 21]) fun e=>Aa (Fj .u64 e a) fun e=>Aa (wrap .u64 (c+b)) fun c=>Lj .u64 (call 128 [Af b,Af 17]) fun b=>Aa (Fj .u64 b c) fun b=>Lj .u64 (call 128 [Af c,Af 32]) fun c=>Bu [.agg [Af a,Af b,Af c,Af e]]:=by show _=_;kernel_rfl
def Ig(Z Y:Int)(X:Nat)(W:Ab)(V U:Nat)(T:Ab)(S:Int)(Q:Ab):Option Dt:=K0 fu call 61 Tryz.f61 [Af Z,Af Y,Am 1 X W] [.r,.r,.l,.r,.l] V ⟨lk [(2,Am 1 U T),(7,.ptr 7 0),(8,S)],B3 [(7,.ar false Q)]⟩
def Gv(Z Y:Int)(X:Nat)(W:Ab)(V U T:Nat)(S:Ab)(Q P O:Int)(N:Ab):Option Dt:=K0 fu call 61 Tryz.f61 [Af Z,Af Y,Am 1 X W] [.r,.r,.l,.r,.l,.i V,.r,.l,.l,.r,.l,.r,.l] U ⟨lk [(2,Am 1 T S),(7,.ptr 7 0),(8,Q),(9,Af P),(10,O)],B3 [(7,.ar false N)]⟩
theorem R4(W V:Int)(U:Nat)(T:Ab)(S Y:Nat)(Q:Ab)(X:Int)(Z:Ab):Ig fu call W V U T (S+1) Y Q X Z=(Az (decide (X<=(↑Y:Int))) (Gv fu call W V U T S fu Y Q X 0 7 Z) (Be .u64 (Z.getD 2 .top) fun a=>Aa (Fj .u64 a 255) fun a=>As (decide (3<=Z.length))<|Aa (B0 Z [Af a] 2) fun a=>Be .u64 (a.getD 0 .top) fun b=>Be .u64 (a.getD 1 .top) fun c=>Be .u64 (a.getD 2 .top) fun e=>Be .u64 (a.getD 3 .top) fun f=>Dj (call 103 [.agg [Af b,Af c,Af e,Af f]]) fun b c=>Dl b fun b=>Cu .u64 b fun b e=>Cu .u64 e fun e f=>Cu .u64 f fun f g=>Dc .u64 g fun g=>Ar c<|Dj (call 103 [.agg [Af b,Af e,Af f,Af g]]) fun b c=>Dl b fun b=>Cu .u64 b fun b e=>Cu .u64 e fun e f=>Cu .u64 f fun f g=>Dc .u64 g fun g=>Ar c<|Dj (call 103 [.agg [Af b,Af e,Af f,Af g]]) fun b c=>Dl b fun b=>Cu .u64 b fun b e=>Cu .u64 e fun e f=>Cu .u64 f fun f g=>Dc .u64 g fun g=>Ar c<|Dj (call 103 [.agg [Af b,Af e,Af f,Af g]]) fun b c=>Dl b fun b=>Cu .u64 b fun b e=>Cu .u64 e fun e f=>Cu .u64 f fun f g=>Dc .u64 g fun g=>Ar c<|As (decide (4<=a.length))<|Aa (B0 a [Af b,Af e,Af f,Af g] 0) fun a=>Be .u64 (a.getD 0 .top) fun b=>Be .u64 (a.getD 1 .top) fun c=>Aa (Fj .u64 b c) fun b=>Be .u64 (a.getD 2 .top) fun c=>Aa (Fj .u64 b c) fun b=>Be .u64 (a.getD 3 .top) fun a=>Aa (Fj .u64 b a) fun a=>Bu [Af a])):=by kernel_rfl
theorem R7(T S:Int)(Q:Nat)(P:Ab)(O N Z:Nat)(V:Ab)(X U Y:Int)(W:Ab):Gv fu call T S Q P O (N+1) Z V X U Y W=(Az (decide (Y>=0)) (Aa (wrap .i64 (X+Y)) fun a=>Az (decide (a<(↑Z:Int))) (Aa (wrap .i64 (X+Y)) fun a=>As (decide (0<=a)&&decide (a<(↑Z:Int)))<|Be .u8 (V.getD (a.toNat*1) .top) fun a=>Aa (Hq .u64 U 8) fun b=>Aa (wrap .u64 a) fun a=>Aa (YF .u64 b a) fun a=>Aa (wrap .i64 (Y-1)) fun b=>Gv fu call T S Q P O N Z V X a b W) (Az (Y==7) (Aa (wrap .u8 (↑Z:Int)) fun a=>Aa (Hq .u64 U 8) fun b=>Aa (wrap .u64 a) fun a=>Aa (YF .u64 b a) fun a=>Aa (wrap .i64 (Y-1)) fun b=>Gv fu call T S Q P O N Z V X a b W) (Aa (Hq .u64 U 8) fun a=>Aa (YF .u64 a 0) fun a=>Aa (wrap .i64 (Y-1)) fun b=>Gv fu call T S Q P O N Z V X a b W))) (Be .u64 (W.getD 3 .top) fun a=>Aa (Fj .u64 a U) fun a=>As (decide (4<=W.length))<|Aa (B0 W [Af a] 3) fun a=>Be .u64 (a.getD 0 .top) fun b=>Be .u64 (a.getD 1 .top) fun c=>Be .u64 (a.getD 2 .top) fun e=>Be .u64 (a.getD 3 .top) fun f=>Dj (call 103 [.agg [Af b,Af c,Af e,Af f]]) fun b c=>Dl b fun b=>Cu .u64 b fun b e=>Cu .u64 e fun e f=>Cu .u64 f fun f g=>Dc .u64 g fun g=>Ar c<|Dj (call 103 [.agg [Af b,Af e,Af f,Af g]]) fun b c=>Dl b fun b=>Cu .u64 b fun b e=>Cu .u64 e fun e f=>Cu .u64 f fun f g=>Dc .u64 g fun g=>Ar c<|As (decide (4<=a.length))<|Aa (B0 a [Af b,Af e,Af f,Af g] 0) fun a=>Be .u64 (a.getD 0 .top) fun b=>Aa (Fj .u64 b U) fun b=>As (decide (1<=a.length))<|Aa (B0 a [Af b] 0) fun a=>Aa (wrap .i64 (X+8)) fun b=>Ig fu call T S Q P O Z V b a)):=by kernel_rfl
theorem ML(Z Y:Int)(X:Nat)(W:Ab):Fm (CX xs) fu d 61 [Af Z,Af Y,Am 1 X W] fun call=>Aa (Fj .u64 Z 8317987319222330741) fun a=>Aa (Fj .u64 Y 7237128888997146477) fun b=>Aa (Fj .u64 Z 7816392313619706465) fun c=>Aa (Fj .u64 Y 8387220255154660723) fun e=>Ig fu call Z Y X W fu X W 0 ([Af a,Af b,Af c,Af e]):=by show _=_;kernel_rfl
theorem IV(Z:Int)(Y:Nat)(X:Ab):Fm (CX xs) fu d 33 [Z,Am 1 Y X] fun call=>Aa (wrap .u64 Z) fun a=>Lj .u64 (call 61 [Af a,Af 0,Am 1 Y X]) fun a=>Bu [Af a]:=by show _=_;kernel_rfl
theorem MA(Z Y:Int)(X:Nat)(W:Ab):Fm (CX xs) fu d 85 [Af Z,Y,Am 1 X W] fun call=>Aa (wrap .u64 Y) fun a=>Aa (wrap .u64 (1+a)) fun a=>Lj .u64 (call 61 [Af Z,Af a,Am 1 X W]) fun a=>Bu [Af a]:=by show _=_;kernel_rfl
def Ha(Z:Nat)(Y:Ab)(X W:Nat)(V:Ab)(U:Nat)(T:Int)(S:Ab):Option Dt:=K0 fu call 79 Tryz.f79 [Am 1 Z Y] [.r,.r,.l,.r,.l] X ⟨lk [(0,Am 1 W V),(3,.view 3 1 0 U),(4,T)],B3 [(3,.ar false S)]⟩
def I8(Z:Nat)(Y:Ab)(X W V:Nat)(U:Ab)(T:Nat)(S Q:Int)(P:Ab):Option Dt:=K0 fu call 79 Tryz.f79 [Am 1 Z Y] [.r,.r,.l,.r,.l,.i X,.r,.l,.l,.r,.l] W ⟨lk [(0,Am 1 V U),(3,.view 3 1 0 T),(4,S),(5,Q)],B3 [(3,.ar false P)]⟩
theorem Pg(V:Nat)(U:Ab)(T X:Nat)(S:Ab)(Z:Nat)(W:Int)(Y:Ab):Ha fu call V U (T+1) X S Z W Y=(Az (decide (W<(↑X:Int))) (I8 fu call V U T fu X S Z W 7 Y) (As (decide (Z*1<=Y.length))<|Bu [.own 1 Z (Y.take (Z*1))])):=by kernel_rfl
theorem Pc(V:Nat)(U:Ab)(T P Y:Nat)(X:Ab)(S:Nat)(Z W:Int)(Q:Ab):I8 fu call V U T (P+1) Y X S Z W Q=(Az (decide (W>=0)) (As (decide (0<=Z)&&decide (Z<(↑Y:Int)))<|Be .u64 (X.getD (Z.toNat*1) .top) fun a=>Aa (wrap .i64 (8*W)) fun b=>Aa (wrap .u64 b) fun b=>As (decide (0<=b))<|Aa (Fp .u64 a b) fun a=>Aa (wrap .u8 a) fun a=>On S 1 1 Q [.sc (.int .u8 a)] fun a b=>Aa (wrap .i64 (W-1)) fun c=>I8 fu call V U T P Y X a Z c b) (Aa (wrap .i64 (Z+1)) fun a=>Ha fu call V U T Y X S a Q)):=by kernel_rfl
theorem FV(Z:Nat)(Y:Ab):Fm (CX xs) fu d 79 [Am 1 Z Y] fun call=>Ha fu call Z Y fu Z Y 0 0 ([]):=by show _=_;kernel_rfl
def Jk(Z:Nat)(Y:Ab)(X W:Nat)(V:Ab)(U T:Int):Option Dt:=K0 fu call 120 Tryz.f120 [Am 1 Z Y] [.r,.r,.l,.r,.l] X ⟨lk [(0,Am 1 W V),(3,Af U),(4,T)],B3 []⟩
theorem Qd(V:Nat)(U:Ab)(T Y:Nat)(W:Ab)(X Z:Int):Jk fu call V U (T+1) Y W X Z=(Az (decide (Z<8)) (Az (decide (Z<(↑Y:Int))) (Aa (Hq .u64 X 8) fun a=>As (decide (0<=Z)&&decide (Z<(↑Y:Int)))<|Be .u8 (W.getD (Z.toNat*1) .top) fun b=>Aa (wrap .u64 b) fun b=>Aa (YF .u64 a b) fun a=>Aa (wrap .i64 (Z+1)) fun b=>Jk fu call V U T Y W a b) (Bu [Af X])) (Bu [Af X])):=by kernel_rfl
theorem HZ(Z:Nat)(Y:Ab):Fm (CX xs) fu d 120 [Am 1 Z Y] fun call=>Jk fu call Z Y fu Z Y 0 0:=by show _=_;kernel_rfl
end
def rot(x k:Int):Int:=YF .u64 (Hq .u64 x k) (Fp .u64 x (64-k))
structure W4 where
 a:Int
 b:Int
 c:Int
 d:Int
def W4.cells(v:W4):Ab:=[Af v.a,Af v.b,Af v.c,Af v.d]
def A97(v:W4):W4:=⟨rot (wrap .u64 (v.a+v.b)) 32,Fj .u64 (rot v.b 13) (wrap .u64 (v.a+v.b)),wrap .u64 (v.c+v.d),Fj .u64 (rot v.d 16) (wrap .u64 (v.c+v.d))⟩
def Bb4(v:W4):W4:=⟨wrap .u64 (v.a+v.d),Fj .u64 (rot v.b 17) (wrap .u64 (v.c+v.b)),rot (wrap .u64 (v.c+v.b)) 32,Fj .u64 (rot v.d 21) (wrap .u64 (v.a+v.d))⟩
def XW(v:W4):W4:=Bb4 (A97 v)
def Alc:Nat->W4->W4
 |0,v=>v
 |n+1,v=>Alc n (XW v)
def A8b(r:W4)(m:Int):W4:=⟨Fj .u64 r.a m,r.b,r.c,r.d⟩
def Za(v:W4)(m:Int):W4:=A8b (Alc 2 ⟨v.a,v.b,v.c,Fj .u64 v.d m⟩) m
def Yw:B8->Int
 |[]=>0
 |b::r=>b+256*Yw r
def ZE:Nat->W4->B8->W4
 |0,v,_=>v
 |n+1,v,l=>ZE n (Za v (Yw (l.take 8))) (l.drop 8)
def A3g(k0 k1:Int):W4:=⟨Fj .u64 k0 8317987319222330741,Fj .u64 k1 7237128888997146477,Fj .u64 k0 7816392313619706465,Fj .u64 k1 8387220255154660723⟩
def Apb(v:W4):W4:=Alc 4 ⟨v.a,v.b,Fj .u64 v.c 255,v.d⟩
def An8(v:W4):Int:=Fj .u64 (Fj .u64 (Fj .u64 v.a v.b) v.c) v.d
def Tb(l:B8):Int:=Yw (l.drop (8*(l.length / 8)))+72057594037927936*((l.length:Int) % 256)
def Aw3(k0 k1:Int)(l:B8):Int:=An8 (Apb (Za (ZE (l.length / 8) (A3g k0 k1) l) (Tb l)))
def Rj(dom:Int)(l:B8):Int:=Aw3 (wrap .u64 dom) 0 l
def Azl(key dom:Int)(l:B8):Int:=Aw3 key (wrap .u64 (1+wrap .u64 dom)) l
def I7(l:B8):Prop:=∀b∈l,0<=b/\b<=255
theorem AH:∀{l:B8},I7 l->0<=Yw l/\Yw l<256 ^ l.length
 |[],_=>by simp[Yw]
 |b::r,h=>by
  have h1:=h b (by simp);have h2:=AH (l:=r) fun x hx=>h x (by simp[hx]);have h3:(256:Int) ^ (b::r).length=256 ^ r.length*256:=by rw[He,Int.pow_succ]
  simp only[Yw];omega
theorem IK:∀(l r:B8),Yw (l++r)=Yw l+256 ^ l.length*Yw r
 |[],r=>by simp[Yw]
 |b::l,r=>by
  have ih:=IK l r;simp only[Zzp,Yw,He,Int.pow_succ];rw[ih,Int.mul_add];have:(256:Int)*(256 ^ l.length*Yw r)=256 ^ l.length*256*Yw r:=by rw[<-Int.mul_assoc,Int.mul_comm 256]
  omega
theorem Ac0{a c:Int}(k b:Nat)(h0:0<=a)(h1:a<((2 ^ k:Nat):Int))(hc:c=((b*2 ^ k:Nat):Int))(h:a+c<=18446744073709551615):YF .u64 a c=a+c/\YF .u64 c a=a+c:=by
 obtain⟨n,rfl⟩:=Int.eq_ofNat_of_zero_le h0;subst hc;have hn:n<2 ^ k:=by omega
 generalize hB:b*2 ^ k=m at h
 have e4:(BitVec.ofInt 64 (n:Int)).toNat=n:=by
  rw[BitVec.toNat_ofInt];omega
 have e5:(BitVec.ofInt 64 (m:Int)).toNat=m:=by
  rw[BitVec.toNat_ofInt];omega
 have e6:m ||| n=m+n:=by
  have:=Nat.shiftLeft_add_eq_or_of_lt hn b;rw[Nat.shiftLeft_eq,hB] at this;exact this.symm
 constructor
 ·show wrap .u64 ((BitVec.ofInt 64 (n:Int) ||| BitVec.ofInt 64 (m:Int)).toNat:Int)=_;rw[BitVec.toNat_or,e4,e5,Nat.or_comm,e6,Cd (by omega) (by omega)];omega
 ·show wrap .u64 ((BitVec.ofInt 64 (m:Int) ||| BitVec.ofInt 64 (n:Int)).toNat:Int)=_;rw[BitVec.toNat_or,e4,e5,e6,Cd (by omega) (by omega)];omega
theorem Am6{a k:Int}(h0:0<=a)(hk:0<=k)(Kn:k<=64)(h:a*((2 ^ k.toNat:Nat):Int)<=18446744073709551615):Hq .u64 a k=a*((2 ^ k.toNat:Nat):Int):=by
 show wrap .u64 (a*2 ^ (min k.toNat IntKind.u64.bits))=_;have e:min k.toNat IntKind.u64.bits=k.toNat:=Nat.min_eq_left (by show k.toNat<=64;omega)
 have e2:(2:Int) ^ k.toNat=((2 ^ k.toNat:Nat):Int):=by simp
 rw[e,e2,Cd (Int.mul_nonneg h0 (Int.natCast_nonneg _)) h]
section
variable {fu d:Nat}{xs:FuncId->Option (Ab->Option Dt)}
theorem Ar1{x k:Int}(hk:k=13\/k=16\/k=17\/k=21\/k=32):Aq (CX xs) prog fu (d+1) 147 [Af x,Au k]=some ⟨[Af (rot x k)],[]⟩:=by rw[GJ];rcases hk with rfl|rfl|rfl|rfl|rfl<;>kernel_rfl
theorem Arj{x k:Int}(hk:k=13\/k=16\/k=17\/k=21\/k=32):Aq (CX xs) prog fu (d+1) 128 [Af x,Af k]=some ⟨[Af (rot x k)],[]⟩:=by rw[JA];rcases hk with rfl|rfl|rfl|rfl|rfl<;>kernel_rfl
theorem QP{a0 a1 a2 a3 a4:Int}:∀(k i nn:Nat)(v:W4),k<nn->i+k<=100 ->
  Hz fu (Aq (CX xs) prog fu (d+1)) a0 a1 a2 a3 a4 nn ((i+k:Nat):Int) i v.a v.b v.c v.d=some ⟨[],[(Alc k v).cells]⟩
 |_,_,0,_,h,_=>by omega
 |0,i,nn+1,v,h,hi=>by
  rw[M7,D6 _ _ _ (by omega)];rfl
 |k+1,i,nn+1,v,h,hi=>by
  have ih:=QP (a0:=a0) (a1:=a1) (a2:=a2) (a3:=a3) (a4:=a4) k (i+1) nn (XW v) (by omega) (by omega);have w:wrap .i64 ((i:Int)+1)=((i+1:Nat):Int):=by rw[Ag (by omega) (by omega)];omega
  have r13:=fun x=>Ar1 (xs:=xs) (fu:=fu) (d:=d) (x:=x) (k:=13) (by simp);have r16:=fun x=>Ar1 (xs:=xs) (fu:=fu) (d:=d) (x:=x) (k:=16) (by simp);have r17:=fun x=>Ar1 (xs:=xs) (fu:=fu) (d:=d) (x:=x) (k:=17) (by simp);have r21:=fun x=>Ar1 (xs:=xs) (fu:=fu) (d:=d) (x:=x) (k:=21) (by simp);have r32:=fun x=>Ar1 (xs:=xs) (fu:=fu) (d:=d) (x:=x) (k:=32) (by simp);rw[M7];simp(disch:=omega)only[Bz,Bx,r13,r16,r17,r21,r32,w];rw[show i+(k+1)=i+1+k by omega];exact ih
theorem Ab0(k:Nat)(hk:k<=4)(Bo:100<=fu)(v:W4):Aq (CX xs) prog fu (d+2) 136 [.pbox [Af v.a,Af v.b,Af v.c,Af v.d],Au k]=some ⟨[],[(Alc k v).cells]⟩:=by rw[CG];have:=QP (xs:=xs) (fu:=fu) (d:=d) (a0:=v.a) (a1:=v.b) (a2:=v.c) (a3:=v.d) (a4:=k) k 0 fu v (by omega) (by omega);rw[Ck] at this;exact this
theorem Abk(Bo:100<=fu)(v:W4)(m:Int):Aq (CX xs) prog fu (d+3) 134 [.pbox [Af v.a,Af v.b,Af v.c,Af v.d],Af m]=some ⟨[],[(Za v m).cells]⟩:=by rw[CL];have r2:=Ab0 (xs:=xs) (fu:=fu) (d:=d) 2 (by omega) Bo ⟨v.a,v.b,v.c,Fj .u64 v.d m⟩;have e2:((2:Nat):Int)=2:=rfl;rw[e2] at r2;unfold Za;generalize Alc 2 ⟨v.a,v.b,v.c,Fj .u64 v.d m⟩=R at r2 ⊢;simp only[W4.cells] at r2;simp only[Bz,Bx,r2];rfl
theorem A5w{a b:Int}{k:Nat}(hk:k<8)(ha:0<=a)(ha':a<((2 ^ (8*k):Nat):Int))(hb:0<=b)(Kh:b<=255):YF .u64 a (Hq .u64 b (8*(k:Int)))=a+((2 ^ (8*k):Nat):Int)*b:=by
 obtain⟨n,rfl⟩:=Int.eq_ofNat_of_zero_le hb;have e:(8*(k:Int)).toNat=8*k:=by omega
 have hp:n*2 ^ (8*k)<=255*2 ^ (8*k):=Nat.mul_le_mul_right _ (by omega);have h56:2 ^ (8*k)<=2 ^ 56:=Nat.pow_le_pow_right (by omega) (by omega);have e56:(2:Nat) ^ 56=72057594037927936:=by decide
 rw[e56] at h56;generalize hP:2 ^ (8*k)=p at *
 have Aza:n*p<=255*p:=hp
 have hs:Hq .u64 (n:Int) (8*(k:Int))=(n:Int)*((2 ^ (8*(k:Int)).toNat:Nat):Int):=Am6 (by omega) (by omega) (by omega) (by
  rw[e,hP];have:((n*p:Nat):Int)<=((255*p:Nat):Int):=by omega
  rw[<-Int.natCast_mul];omega)
 rw[hs,e,hP]
 have:=(Ac0 (a:=a) (c:=((n*p:Nat):Int)) (8*k) n ha (by rw[hP];exact ha') (by rw[hP]) (by
  have:((n*p:Nat):Int)<=((255*p:Nat):Int):=by omega
  omega)).1
 rw[<-Int.natCast_mul,this,Int.mul_comm ((p:Nat):Int),<-Int.natCast_mul]
theorem A57(k:Nat):((2 ^ (8*k):Nat):Int)=256 ^ k:=by rw[Nat.pow_mul];simp
theorem PW{call:Bq}{n:Nat}{c:Ab}{l:B8}(hb:I7 l)(hl:l.length<=8):∀(r:B8)(i nn:Nat),l.drop i=r->r.length<nn->i<=l.length ->
  Mj fu call n c nn (Yw (l.take i)) l.length (Ac .u8 l) l.length i=some ⟨[Af (Yw l)],[]⟩
 |_,_,0,_,h,_=>by omega
 |[],i,nn+1,h,hn,hi=>by
  have:=drop_nil h;rw[Vv,D6 _ _ _ (by omega),Hg (by omega)]
 |b::r,i,nn+1,h,hn,hi=>by
  obtain⟨h1,h2,h3⟩:=C8 h;simp only[He] at hn;have ih:=PW (call:=call) (n:=n) (c:=c) hb hl r (i+1) nn h3 (by omega) (by omega);have hbb:=hb b (List.mem_of_getElem? h2);have w:wrap .i64 ((i:Int)+1)=((i+1:Nat):Int):=by rw[Ag (by omega) (by omega)];omega
  have w8:wrap .i64 (8*(i:Int))=8*(i:Int):=Ag (by omega) (by omega);have wb:wrap .u64 b=b:=Cd (by omega) (by omega);have A1s:=AH (l:=l.take i) fun x hx=>hb x (List.mem_of_mem_take hx);have htl:(l.take i).length=i:=by rw[List.length_take];omega
  rw[htl] at A1s
  have hj:YF .u64 (Yw (l.take i)) (Hq .u64 b (8*(i:Int)))=Yw (l.take (i+1)):=by
   rw[A5w (by omega) A1s.1 (by rw[A57];exact A1s.2) hbb.1 hbb.2,List.take_add_one,h2,IK,htl,A57]
   simp[Yw]
  rw[Vv];simp(disch:=omega)only[Bz,Bx,H6,De,Ss h2,w,w8,wb,hj];exact ih
theorem Aba{l:B8}(hb:I7 l)(hl:l.length<=8)(Bo:100<=fu):Aq (CX xs) prog fu (d+1) 135 [.lst false 1 l.length (Ac .u8 l)]=some ⟨[Af (Yw l)],[]⟩:=by rw[SP];exact PW hb hl l 0 fu rfl (by omega) (by omega)
theorem Ho(k:IntKind)(l:B8)(i:Nat):List.drop i (Ac k l)=Ac k (l.drop i):=by
 have:=Aed (CQ k) l i
 simpa using this
theorem Oe(k:IntKind)(l:B8)(i:Nat):List.take i (Ac k l)=Ac k (l.take i):=by
 have:=Amk (CQ k) l i
 simpa using this
theorem I7.drop{l:B8}(h:I7 l)(i:Nat):I7 (l.drop i):=fun x hx=>h x (List.mem_of_mem_drop hx)
theorem I7.take{l:B8}(h:I7 l)(i:Nat):I7 (l.take i):=fun x hx=>h x (List.mem_of_mem_take hx)
theorem Axk{a0 a1:Int}{n:Nat}{c:Ab}{l:B8}(hb:I7 l)(hl:l.length<=1099511627776)(Bo:100<=fu)(nn:Nat)(v:W4):
  Na fu (Aq (CX xs) prog fu (d+3)) a0 a1 n c (nn+1) l.length (Ac .u8 l) ((l.length / 8:Nat):Int) ((l.length / 8:Nat):Int) ((l.length / 8:Nat):Int) v.a v.b v.c v.d=some ⟨[Af (An8 (Apb (Za v (Tb l))))],[]⟩:=by
 have w8:wrap .i64 (8*((l.length / 8:Nat):Int))=((8*(l.length / 8):Nat):Int):=by rw[Ag (by omega) (by omega)];omega
 have wl:wrap .u64 (l.length:Int)=l.length:=Cd (by omega) (by omega);have hdl:(l.drop (8*(l.length / 8))).length=l.length-8*(l.length / 8):=List.length_drop;have li:=Aba (xs:=xs) (fu:=fu) (d:=d+2) (hb.drop (8*(l.length / 8))) (by omega) Bo;rw[hdl] at li;have tk:List.take (l.length-8*(l.length / 8)) (Ac .u8 (l.drop (8*(l.length / 8))))=Ac .u8 (l.drop (8*(l.length / 8))):=Hg (by rw[Ap,hdl];omega)
 have hbn:=AH (hb.drop (8*(l.length / 8)));rw[hdl] at hbn
 have hp7:(256:Int) ^ (l.length-8*(l.length / 8))<=256 ^ 7:=by
  have:(256:Nat) ^ (l.length-8*(l.length / 8))<=256 ^ 7:=Nat.pow_le_pow_right (by omega) (by omega);have h2:(((256:Nat) ^ (l.length-8*(l.length / 8)):Nat):Int)<=((256 ^ 7:Nat):Int):=by omega
  simpa using h2
 have A8x:YF .u64 (Yw (l.drop (8*(l.length / 8)))) (Hq .u64 (l.length:Int) 56)=Tb l:=by
  have hs:Hq .u64 (l.length:Int) 56=(((l.length % 256)*2 ^ 56:Nat):Int):=by
   show wrap .u64 ((l.length:Int)*2 ^ (min (56:Int).toNat IntKind.u64.bits))=_;have h2:(2:Int) ^ (min (56:Int).toNat IntKind.u64.bits)=72057594037927936:=by decide
   have h3:(2:Nat) ^ 56=72057594037927936:=by decide
   rw[h2,h3];simp only[wrap,IntKind.signed,IntKind.bits];simp;omega
  have h56:(256:Int) ^ 7=((2 ^ 56:Nat):Int):=by decide
  have h3:(2:Nat) ^ 56=72057594037927936:=by decide
  rw[hs,(Ac0 56 (l.length % 256) hbn.1 (by omega) rfl (by omega)).1];unfold Tb;omega
 have ab:=Abk (xs:=xs) (fu:=fu) (d:=d) Bo v (Tb l);have r4:=Ab0 (xs:=xs) (fu:=fu) (d:=d+1) 4 (by omega) Bo ⟨(Za v (Tb l)).a,(Za v (Tb l)).b,Fj .u64 (Za v (Tb l)).c 255,(Za v (Tb l)).d⟩;have e4:((4:Nat):Int)=4:=rfl;rw[e4] at r4;unfold Apb;generalize Za v (Tb l)=U at ab r4 ⊢;generalize Alc 4 ⟨U.a,U.b,Fj .u64 U.c 255,U.d⟩=R at r4 ⊢;simp only[W4.cells] at ab r4;rw[BW];simp(disch:=omega)only[Bz,Bx,H6,De,w8,wl,Ho,tk,li,A8x,ab,r4];rfl
theorem Aib{a0 a1:Int}{n:Nat}{c:Ab}{l:B8}(hb:I7 l)(hl:l.length<=1099511627776)(Bo:100<=fu):∀(k i nn:Nat)(v:W4),i+k=l.length / 8->k<nn ->
  Na fu (Aq (CX xs) prog fu (d+3)) a0 a1 n c nn l.length (Ac .u8 l) ((l.length / 8:Nat):Int) ((l.length / 8:Nat):Int) i v.a v.b v.c v.d=some ⟨[Af (An8 (Apb (Za (ZE k v (l.drop (8*i))) (Tb l))))],[]⟩
 |_,_,0,_,_,h=>by omega
 |0,i,nn+1,v,hi,hn=>by
  have e:i=l.length / 8:=by omega
  subst e;exact Axk hb hl Bo nn v
 |k+1,i,nn+1,v,hi,hn=>by
  have w:wrap .i64 ((i:Int)+1)=((i+1:Nat):Int):=by rw[Ag (by omega) (by omega)];omega
  have w8:wrap .i64 (8*(i:Int))=((8*i:Nat):Int):=by rw[Ag (by omega) (by omega)];omega
  have w88:wrap .i64 (((8*i:Nat):Int)+8)=((8*i+8:Nat):Int):=by rw[Ag (by omega) (by omega)];omega
  have hdl:((l.drop (8*i)).take 8).length=8:=by rw[List.length_take,List.length_drop];omega
  have li:=Aba (xs:=xs) (fu:=fu) (d:=d+2) ((hb.drop (8*i)).take 8) (by omega) Bo;rw[hdl] at li;have e8:8*i+8-8*i=8:=by omega
  have ab:=Abk (xs:=xs) (fu:=fu) (d:=d) Bo v (Yw ((l.drop (8*i)).take 8));have ih:=Aib (a0:=a0) (a1:=a1) (n:=n) (c:=c) hb hl Bo k (i+1) nn (Za v (Yw ((l.drop (8*i)).take 8))) (by omega) (by omega)
  have eN:ZE (k+1) v (l.drop (8*i))=ZE k (Za v (Yw ((l.drop (8*i)).take 8))) (l.drop (8*(i+1))):=by
   rw[ZE,List.drop_drop,show 8*i+8=8*(i+1) by omega]
  rw[eN];generalize Za v (Yw ((l.drop (8*i)).take 8))=U at ab ih ⊢;simp only[W4.cells] at ab;rw[BW];simp(disch:=omega)only[Bz,Bx,H6,De,w,w8,w88,e8,Ho,Oe,li,ab];exact ih
theorem Au0{l:B8}(hb:I7 l)(hl:l.length<=1099511627776)(Bo:100<=fu)(hf:l.length<fu)(k0 k1:Int):Aq (CX xs) prog fu (d+4) 109 [Af k0,Af k1,.lst false 1 l.length (Ac .u8 l)]=some ⟨[Af (Aw3 k0 k1 l)],[]⟩:=by
 rw[Aci]
 have w:wrap .i64 (Int.tdiv (l.length:Int) 8)=((l.length / 8:Nat):Int):=by
  rw[Int.tdiv_eq_ediv_of_nonneg (by omega),Ag (by omega) (by omega)];omega
 have lp:=Aib (xs:=xs) (fu:=fu) (d:=d) (a0:=k0) (a1:=k1) (n:=l.length) (c:=Ac .u8 l) hb hl Bo (l.length / 8) 0 fu (A3g k0 k1) (by omega) (by omega);simp only[Ke,w];exact lp
theorem Amo{l:B8}(hb:I7 l)(hl:l.length<=1099511627776)(Bo:100<=fu)(hf:l.length<fu)(dom:Int):Aq (CX xs) prog fu (d+5) 66 [Au dom,.lst false 1 l.length (Ac .u8 l)]=some ⟨[Af (Rj dom l)],[]⟩:=by rw[ZM];have s:=Au0 (xs:=xs) (fu:=fu) (d:=d) hb hl Bo hf (wrap .u64 dom) 0;simp only[Bz,Bx,s];rfl
theorem Ub(v:W4):Aq (CX xs) prog fu (d+2) 103 [.agg [Af v.a,Af v.b,Af v.c,Af v.d]]=some ⟨[.agg (XW v).cells],[]⟩:=by have r13:=fun x=>Arj (xs:=xs) (fu:=fu) (d:=d) (x:=x) (k:=13) (by simp);have r16:=fun x=>Arj (xs:=xs) (fu:=fu) (d:=d) (x:=x) (k:=16) (by simp);have r17:=fun x=>Arj (xs:=xs) (fu:=fu) (d:=d) (x:=x) (k:=17) (by simp);have r21:=fun x=>Arj (xs:=xs) (fu:=fu) (d:=d) (x:=x) (k:=21) (by simp);have r32:=fun x=>Arj (xs:=xs) (fu:=fu) (d:=d) (x:=x) (k:=32) (by simp);rw[GP];simp(disch:=omega)only[Bz,Bx,r13,r16,r17,r21,r32];rfl
def CF(l:B8)(i k:Nat):Int:=if i+k<l.length then l.getD (i+k) 0 else if k=7 then (l.length:Int) % 256 else 0
def pc(l:B8)(i:Nat):B8:=(List.range 8).map (CF l i)
theorem Bbk{l:B8}(hb:I7 l)(i:Nat):I7 (pc l i):=by
 intro x hx;obtain⟨k,hk,rfl⟩:=List.mem_map.1 hx;unfold CF;split
 ·rename_i h;rw[List.getD_eq_getElem?_getD,List.getElem?_eq_getElem h];exact hb _ (List.getElem_mem h)
 ·split<;>omega
theorem Axt{l:B8}{i:Nat}(h:i+8<=l.length):pc l i=(l.drop i).take 8:=by
 refine List.ext_getElem (by simp[pc];omega) fun k h1 h2=>?_
 have hk:k<8:=by simpa [pc] using h1
 simp only[pc,List.getElem_map,List.getElem_range,List.getElem_take,List.getElem_drop,CF];rw[Bn (by omega),List.getD_eq_getElem?_getD,List.getElem?_eq_getElem (by omega)];rfl
theorem Abf(x:Int):∀n,Yw (List.replicate n 0++[x])=256 ^ n*x
 |0=>by simp[Yw]
 |n+1=>by
  rw[List.replicate_succ,Zzp,Yw,Abf x n,Int.pow_succ,Int.mul_comm (256 ^ n) 256,Int.mul_assoc];omega
theorem Awl{l:B8}:Yw (pc l (8*(l.length / 8)))=Tb l:=by
 have e:pc l (8*(l.length / 8))=l.drop (8*(l.length / 8))++(List.replicate (7-(l.length-8*(l.length / 8))) 0++[(l.length:Int) % 256]):=by
  refine List.ext_getElem (by simp[pc];omega) fun k h1 h2=>?_
  have hk:k<8:=by simpa [pc] using h1
  simp only[pc,List.getElem_map,List.getElem_range,CF];by_cases hc:8*(l.length / 8)+k<l.length
  ·rw[Bn hc,List.getElem_append_left (by rw[List.length_drop];omega),List.getElem_drop,List.getD_eq_getElem?_getD,List.getElem?_eq_getElem hc]
   rfl
  ·rw[A4 hc,List.getElem_append_right (by rw[List.length_drop];omega)]
   by_cases h7:k=7
   ·rw[Bn h7,List.getElem_append_right (by simp;omega)]
    simp
   ·rw[A4 h7,List.getElem_append_left (by simp;omega)]
    simp
 rw[e,IK,Abf];unfold Tb
 have:(256:Int) ^ (l.drop (8*(l.length / 8))).length*(256 ^ (7-(l.length-8*(l.length / 8)))*((l.length:Int) % 256))=72057594037927936*((l.length:Int) % 256):=by
  rw[<-Int.mul_assoc,<-Int.pow_add,List.length_drop];have:l.length-8*(l.length / 8)+(7-(l.length-8*(l.length / 8)))=7:=by omega
  rw[this];rfl
 rw[this]
theorem A6l{a b:Int}(ha:0<=a)(ha':a<72057594037927936)(hb:0<=b)(Kh:b<=255):YF .u64 (Hq .u64 a 8) b=b+256*a:=by
 obtain⟨n,rfl⟩:=Int.eq_ofNat_of_zero_le ha
 have hs:Hq .u64 (n:Int) 8=((n*2 ^ 8:Nat):Int):=by
  have:=Am6 (a:=(n:Int)) (k:=8) (by omega) (by omega) (by omega) (by
   have:(2 ^ (8:Int).toNat:Nat)=256:=by decide
   rw[this];omega)
  rw[this];have:(2 ^ (8:Int).toNat:Nat)=256:=by decide
  rw[this];have:(2 ^ 8:Nat)=256:=by decide
  rw[this];omega
 have h8:(2 ^ 8:Nat)=256:=by decide
 rw[hs,(Ac0 (a:=b) 8 n hb (by rw[h8];omega) rfl (by rw[h8];omega)).2,h8]
 omega
theorem Al9{a0 a1:Int}{n m0:Nat}{c:Ab}{l:B8}(hb:I7 l)(hl:l.length<=1099511627776){i:Nat}(hi:i<=l.length)(v:W4):∀(j nn:Nat),j<=8->j<nn ->
  Gv fu (Aq (CX xs) prog fu (d+2)) a0 a1 n c m0 nn l.length (Ac .u8 l) i (Yw ((pc l i).drop j)) ((j:Int)-1) v.cells =
   Ig fu (Aq (CX xs) prog fu (d+2)) a0 a1 n c m0 l.length (Ac .u8 l) ((i+8:Nat):Int) (Za v (Yw (pc l i))).cells
 |_,0,_,h=>by omega
 |0,nn+1,hj,hn=>by
  have w8:wrap .i64 ((i:Int)+8)=((i+8:Nat):Int):=by rw[Ag (by omega) (by omega)];omega
  have r1:=Ub (xs:=xs) (fu:=fu) (d:=d) ⟨v.a,v.b,v.c,Fj .u64 v.d (Yw (pc l i))⟩;have r2:=Ub (xs:=xs) (fu:=fu) (d:=d) (XW ⟨v.a,v.b,v.c,Fj .u64 v.d (Yw (pc l i))⟩);have eA:Za v (Yw (pc l i))=A8b (XW (XW ⟨v.a,v.b,v.c,Fj .u64 v.d (Yw (pc l i))⟩)) (Yw (pc l i)):=rfl;rw[eA];generalize XW ⟨v.a,v.b,v.c,Fj .u64 v.d (Yw (pc l i))⟩=U at r1 r2 ⊢;generalize XW U=U2 at r2 ⊢;simp only[W4.cells] at r1 r2;rw[R7,D6 _ _ _ (by omega),Er];simp only[W4.cells,List.getD_cons_zero,List.getD_cons_succ,Acn,Ke];simp (disch:=first|omega|(simp;done)) only[Bz,Bx,B0,List.take_succ_cons,List.take_zero,List.drop_succ_cons,Er,List.drop_nil,Zzp,UG,List.append_nil,He,Ud,List.getD_cons_zero,List.getD_cons_succ,r1,r2,w8,Ck,Nat.reduceAdd,Nat.reduceLeDiff,List.append_eq]
  rfl
 |j+1,nn+1,hj,hn=>by
  have ih:=Al9 (a0:=a0) (a1:=a1) (n:=n) (m0:=m0) (c:=c) hb hl hi v j nn (by omega) (by omega);have hw:wrap .i64 ((i:Int)+(((j+1:Nat):Int)-1))=((i+j:Nat):Int):=by rw[Ag (by omega) (by omega)];omega
  have wj:wrap .i64 (((j+1:Nat):Int)-1-1)=(j:Int)-1:=by rw[Ag (by omega) (by omega)];omega
  have hd:(pc l i).drop j=CF l i j::(pc l i).drop (j+1):=by
   rw[List.drop_eq_getElem_cons (by simp[pc];omega)]
   simp[pc]
  have hB:=Bbk hb i;have hbn:=AH (hB.drop (j+1))
  have hp7:(256:Int) ^ ((pc l i).drop (j+1)).length<=72057594037927936:=by
   have H2:((pc l i).drop (j+1)).length<=7:=by simp[pc]
   have:(256:Nat) ^ ((pc l i).drop (j+1)).length<=256 ^ 7:=Nat.pow_le_pow_right (by omega) H2;have h2:(((256:Nat) ^ ((pc l i).drop (j+1)).length:Nat):Int)<=((256 ^ 7:Nat):Int):=by omega
   simpa using h2
  have hc0:0<=CF l i j/\CF l i j<=255:=hB _ (by rw[<-Er (l:=pc l i)];exact List.mem_of_mem_drop (i:=j) (by rw[Er,hd];simp))
  have hj2:YF .u64 (Hq .u64 (Yw ((pc l i).drop (j+1))) 8) (CF l i j)=Yw ((pc l i).drop j):=by
   rw[A6l hbn.1 (by omega) hc0.1 hc0.2,hd];rfl
  have wc:wrap .u64 (CF l i j)=CF l i j:=Cd (by omega) (by omega);rw[R7,IU _ _ _ (by omega)];simp only[Ke,hw];by_cases c1:i+j<l.length
  ·have e:CF l i j=l.getD (i+j) 0:=by unfold CF;rw[Bn c1]
   have e2:l[i+j]?=some (CF l i j):=by rw[e,List.getD_eq_getElem?_getD,List.getElem?_eq_getElem c1];rfl
   rw[IU _ _ _ (by omega)];simp(disch:=omega)only[Bz,Bx,H6,De,Ss e2,wc,hj2,wj];exact ih
  ·rw[D6 _ _ _ (by omega)];by_cases h7:j=7
   ·subst h7;have e:CF l i 7=(l.length:Int) % 256:=by unfold CF;rw[A4 c1,Bn rfl]
    have e8:wrap .u8 (l.length:Int)=CF l i 7:=by
     rw[e];simp only[wrap,IntKind.signed,IntKind.bits];simp
    rw[Gy,Bn (by omega),e8,wc,hj2,wj];exact ih
   ·have e:CF l i j=0:=by unfold CF;rw[A4 c1,A4 h7]
    rw[e] at hj2;rw[Gy,A4 (by omega),hj2,wj];exact ih
theorem Abx{a0 a1:Int}{n:Nat}{c:Ab}{l:B8}(hb:I7 l)(hl:l.length<=1099511627776)(Bo:100<=fu):∀(k i nn:Nat)(v:W4),i+k=l.length / 8->k+1<nn ->
  Ig fu (Aq (CX xs) prog fu (d+2)) a0 a1 n c nn l.length (Ac .u8 l) ((8*i:Nat):Int) v.cells=some ⟨[Af (An8 (Apb (Za (ZE k v (l.drop (8*i))) (Tb l))))],[]⟩
 |_,_,0,_,_,h=>by omega
 |k,i,nn+1,v,hi,hn=>by
  have step:=Al9 (xs:=xs) (fu:=fu) (d:=d) (a0:=a0) (a1:=a1) (n:=n) (m0:=nn) (c:=c) hb hl (i:=8*i) (by omega) v 8 fu (by omega) (by omega);have e0:Yw ((pc l (8*i)).drop 8)=0:=by rw[List.drop_of_length_le (by simp[pc])];rfl
  rw[e0] at step;rw[R4,IU _ _ _ (by omega)];refine step.trans ?_;cases k with
  |zero=>
   have e:i=l.length / 8:=by omega
   subst e;rw[Awl];generalize hv:Za v (Tb l)=u;obtain⟨nn',rfl⟩:∃nn',nn=nn'+1:=⟨nn-1,by omega⟩
   have r1:=Ub (xs:=xs) (fu:=fu) (d:=d) ⟨u.a,u.b,Fj .u64 u.c 255,u.d⟩;have r2:=Ub (xs:=xs) (fu:=fu) (d:=d) (XW ⟨u.a,u.b,Fj .u64 u.c 255,u.d⟩);have r3:=Ub (xs:=xs) (fu:=fu) (d:=d) (XW (XW ⟨u.a,u.b,Fj .u64 u.c 255,u.d⟩));have r4:=Ub (xs:=xs) (fu:=fu) (d:=d) (XW (XW (XW ⟨u.a,u.b,Fj .u64 u.c 255,u.d⟩)))
   have eF:An8 (Apb (Za (ZE 0 v (l.drop (8*(l.length / 8)))) (Tb l)))=An8 (XW (XW (XW (XW ⟨u.a,u.b,Fj .u64 u.c 255,u.d⟩)))):=by
    rw[ZE,hv];rfl
   rw[eF];clear eF;generalize XW ⟨u.a,u.b,Fj .u64 u.c 255,u.d⟩=U1 at r1 r2 r3 r4 ⊢;generalize XW U1=U2 at r2 r3 r4 ⊢;generalize XW U2=U3 at r3 r4 ⊢;generalize XW U3=U4 at r4 ⊢;simp only[W4.cells] at r1 r2 r3 r4;rw[R4,D6 _ _ _ (by omega)];simp only[W4.cells,List.getD_cons_zero,List.getD_cons_succ,Acn,Ke];simp (disch:=first|omega|(simp;done)) only[Bz,Bx,B0,List.take_succ_cons,List.take_zero,List.drop_succ_cons,Er,List.drop_nil,Zzp,UG,List.append_nil,He,Ud,List.getD_cons_zero,List.getD_cons_succ,r1,r2,r3,r4,Ck,Nat.reduceAdd,Nat.reduceLeDiff,List.append_eq]
   rfl
  |succ k=>
   have ih:=Abx (a0:=a0) (a1:=a1) (n:=n) (c:=c) hb hl Bo k (i+1) nn (Za v (Yw (pc l (8*i)))) (by omega) (by omega);rw[show 8*i+8=8*(i+1) by omega,ih,Axt (by omega)];simp only[ZE,List.drop_drop];rw[show 8*(i+1)=8*i+8 by omega]
theorem Anl{l:B8}(hb:I7 l)(hl:l.length<=1099511627776)(Bo:100<=fu)(hf:l.length<fu)(k0 k1:Int):Aq (CX xs) prog fu (d+3) 61 [Af k0,Af k1,.lst false 1 l.length (Ac .u8 l)]=some ⟨[Af (Aw3 k0 k1 l)],[]⟩:=by rw[ML];exact Abx (xs:=xs) (fu:=fu) (d:=d) (a0:=k0) (a1:=k1) (n:=l.length) (c:=Ac .u8 l) hb hl Bo (l.length / 8) 0 fu (A3g k0 k1) (by omega) (by omega)
theorem WS{l:B8}(hb:I7 l)(hl:l.length<=1099511627776)(Bo:100<=fu)(hf:l.length<fu)(dom:Int):Aq (CX xs) prog fu (d+4) 33 [Au dom,.lst false 1 l.length (Ac .u8 l)]=some ⟨[Af (Rj dom l)],[]⟩:=by rw[IV];have s:=Anl (xs:=xs) (fu:=fu) (d:=d) hb hl Bo hf (wrap .u64 dom) 0;simp only[Bz,Bx,s];rfl
theorem Azk{l:B8}(hb:I7 l)(hl:l.length<=1099511627776)(Bo:100<=fu)(hf:l.length<fu)(key dom:Int):Aq (CX xs) prog fu (d+4) 85 [Af key,Au dom,.lst false 1 l.length (Ac .u8 l)]=some ⟨[Af (Azl key dom l)],[]⟩:=by rw[MA];have s:=Anl (xs:=xs) (fu:=fu) (d:=d) hb hl Bo hf key (wrap .u64 (1+wrap .u64 dom));simp only[Bz,Bx,s];rfl
end
end
end Go.Proofs.YtpogefhpiaaliaaGreatDoor.Pv
