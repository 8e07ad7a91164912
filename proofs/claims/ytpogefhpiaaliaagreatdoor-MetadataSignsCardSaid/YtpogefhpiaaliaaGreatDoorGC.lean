/-
  The proof of MetadataSigns, part 3.
-/
import Derived.Test.YtpogefhpiaaliaaGreatDoorGB
import Derived.StillTail
import Derived.WalkKit
import Derived.ProofKit
import Derived.OpenShut
import Derived.ShutString
import Derived.ChangeOld
import Derived.Below
import Derived.Deep.Slices
import Derived.ChangeSame
import Derived.WideKeyArgs
import Derived.Carry
import Derived.Test.YtpogefhpiaaliaaGreatDoorRows
set_option linter.unusedSimpArgs false
set_option linter.unusedVariables false
namespace Go.Proofs.YtpogefhpiaaliaaGreatDoor.Pv
open Go.IntKind (wrap)
open Go.Proofs.Tryz (prog)
set_option maxRecDepth 1000000
noncomputable section
section
section
variable {R R':Type}{Rel:Option R->Option R'->Prop}
theorem Lx(hn:Rel none none){k:IntKind}{p:PV}{K:Int->Option R}{K':Int->Option R'}(hK:∀n,Rel (K n) (K' n)):Rel (A8 k p K) (A8 k p K'):=by
 unfold A8;split
 ·split<;>first|exact hK _|exact hn
 ·exact hn
theorem Fq(hn:Rel none none){p:PV}{K:IntKind->Int->Option R}{K':IntKind->Int->Option R'}(hK:∀k n,Rel (K k n) (K' k n)):Rel (Et p K) (Et p K'):=by unfold Et;split<;>first|exact hK _ _|exact hn
theorem Jo(hn:Rel none none){p:PV}{K:Bool->Option R}{K':Bool->Option R'}(hK:∀n,Rel (K n) (K' n)):Rel (Co p K) (Co p K'):=by unfold Co;split<;>first|exact hK _|exact hn
theorem Is(hn:Rel none none){p:PV}{K:ByteArray->Option R}{K':ByteArray->Option R'}(hK:∀n,Rel (K n) (K' n)):Rel (Ez p K) (Ez p K'):=by unfold Ez;split<;>first|exact hK _|exact hn
theorem H6(hn:Rel none none){es:Nat}{p:PV}{K:Bool->Nat->Ab->Option R}{K':Bool->Nat->Ab->Option R'}(hK:∀z n c,Rel (K z n c) (K' z n c)):Rel (M0 es p K) (M0 es p K'):=by
 unfold M0;split
 ·rename_i es' _ _;cases Nat.beq es' es
  ·exact hn
  ·exact hK _ _ _
 ·exact hK _ _ _
 ·exact hn
theorem At1(hn:Rel none none){es:Nat}{p:PV}{K:PV->Option R}{K':PV->Option R'}(hK:∀p,Rel (K p) (K' p)):Rel (fsK es p K) (fsK es p K'):=by
 unfold fsK;split
 ·rename_i es' _ _;cases Nat.beq es' es
  ·exact hn
  ·exact hK _
 ·exact H6 hn fun _ _ _=>hK _
theorem Aib(hn:Rel none none){es:Nat}{p:PV}{K:Nat->Ab->Option R}{K':Nat->Ab->Option R'}(hK:∀n c,Rel (K n c) (K' n c)):Rel (Kn es p K) (Kn es p K'):=by
 unfold Kn;split
 ·rename_i es' _ _;cases Nat.beq es' es
  ·exact hn
  ·exact hK _ _
 ·exact hn
theorem Bc(hn:Rel none none){b:Bool}{K:Option R}{K':Option R'}(hK:b=true->Rel K K'):Rel (At b K) (At b K'):=by
 cases b
 ·exact hn
 ·exact hK rfl
theorem OP{b:Bool}{x y:Option R}{x' y':Option R'}(hx:Rel x x')(hy:Rel y y'):Rel (Bd b x y) (Bd b x' y'):=by
 cases b
 ·exact hy
 ·exact hx
theorem Ep(hn:Rel none none){α:Type}{o:Option α}{K:α->Option R}{K':α->Option R'}(hK:∀a,o=some a->Rel (K a) (K' a)):Rel (Gi o K) (Gi o K'):=by
 cases o
 ·exact hn
 ·exact hK _ rfl
theorem B6(hn:Rel none none){α:Type}{l:List α}{K:α->List α->Option R}{K':α->List α->Option R'}(hK:∀a r,l=a::r->Rel (K a r) (K' a r)):Rel (Av l K) (Av l K'):=by
 cases l
 ·exact hn
 ·exact hK _ _ rfl
theorem Hl(hn:Rel none none){α:Type}{l:List α}{K:Option R}{K':Option R'}(hK:Rel K K'):Rel (Aq l K) (Aq l K'):=by
 cases l
 ·exact hK
 ·exact hn
theorem M9(hn:Rel none none){p:PV}{K:Ab->Option R}{K':Ab->Option R'}(hK:∀c,p=.agg c->Rel (K c) (K' c)):Rel (D3 p K) (D3 p K'):=by
 unfold D3;split
 ·exact hK _ rfl
 ·exact hn
theorem Ak0(hn:Rel none none){p:PV}{K:Ab->Option R}{K':Ab->Option R'}(hK:∀c,Rel (K c) (K' c)):Rel (DB p K) (DB p K'):=by
 unfold DB;split
 ·exact hK _
 ·exact hn
theorem WY(hn:Rel none none){r:Option Dl}{K:Ab->List Ab->Option R}{K':Ab->List Ab->Option R'}(hK:∀v o,Rel (K v o) (K' v o)):Rel (Bk r K) (Bk r K'):=by
 unfold Bk;split
 ·exact hK _ _
 ·exact hn
theorem Ai3(hn:Rel none none){p:PV}{K:Value->Option R}{K':Value->Option R'}(hK:∀v,Rel (K v) (K' v)):Rel (fnK p K) (fnK p K'):=by
 unfold fnK;split
 ·exact hK _
 ·exact hn
theorem Au3(hn:Rel none none){p:PV}{K:FuncId->Option R}{K':FuncId->Option R'}(hK:∀v,Rel (K v) (K' v)):Rel (fvK p K) (fvK p K'):=by
 unfold fvK;split
 ·rename_i f a b;cases (a.isEmpty&&b.isEmpty)
  ·exact hn
  ·exact hK _
 ·exact hn
theorem Uf(hn:Rel none none){t:CT}{p:PV}{K:PV->Option R}{K':PV->Option R'}(hK:∀p,Rel (K p) (K' p)):Rel (KH t p K) (KH t p K'):=by
 unfold KH;split
 ·exact Lx hn fun _=>hK _
 ·exact Jo hn fun _=>hK _
 ·exact Is hn fun _=>hK _
 ·exact H6 hn fun _ _ _=>hK _
 ·exact Ai3 hn fun _=>hK _
theorem Avf(hn:Rel none none){t:CT}{p:PV}{K:PV->Option R}{K':PV->Option R'}(hK:∀p,Rel (K p) (K' p)):Rel (fcK t p K) (fcK t p K'):=by
 unfold fcK;split
 ·exact At1 hn hK
 ·exact Uf hn hK
theorem Wv(hn:Rel none none):∀{ts:List CT}{cells:Ab}{off:Nat}{K:Ab->Option R}{K':Ab->Option R'},(∀c,Rel (K c) (K' c))->Rel (Zi ts cells off K) (Zi ts cells off K')
 |[],_,_,_,_,hK=>hK _
 |_::_,_,_,_,_,hK=>Uf hn fun _=>Wv hn fun _=>hK _
theorem Sz(hn:Rel none none):∀{ts:List CT}{cells:Ab}{off:Nat}{K:Ab->Option R}{K':Ab->Option R'},(∀c,Rel (K c) (K' c))->Rel (Vd ts cells off K) (Vd ts cells off K')
 |[],_,_,_,_,hK=>hK _
 |_::_,_,_,_,_,hK=>Avf hn fun _=>Sz hn fun _=>hK _
theorem HB(hn:Rel none none){g:Bool}{cells:Ab}{K:PV->Option R}{K':PV->Option R'}(hK:∀p,Rel (K p) (K' p)):Rel (mkV g cells K) (mkV g cells K'):=by
 cases g
 ·exact B6 hn fun _ _ _=>Hl hn (hK _)
 ·exact hK _
theorem Au8(hn:Rel none none){P:Program}{t:TypeId}{v:Value}{K:PV->Option R}{K':PV->Option R'}(hK:∀p,Cc p=[]->Rel (K p) (K' p))(hK':∀c,Rel (K (.agg c)) (K' (.agg c))):Rel (cvK P t v K) (cvK P t v K'):=by
 unfold cvK;split
 ·exact Bc hn fun _=>Wv hn fun _=>hK' _
 ·split
  ·exact hK _ rfl
  ·exact hn
 ·exact hK _ rfl
theorem Aqa(hn:Rel none none){op:BinOp}{x y:Int}{K:Bool->Option R}{K':Bool->Option R'}(hK:∀n,Rel (K n) (K' n)):Rel (Avn op x y K) (Avn op x y K'):=by unfold Avn;split<;>first|exact hK _|exact hn
theorem Afu(hn:Rel none none){op:BinOp}{k:IntKind}{x y:Int}{K:PV->Option R}{K':PV->Option R'}(hK:∀n,Rel (K n) (K' n)):Rel (RO op k x y K) (RO op k x y K'):=by unfold RO;split<;>first|exact hK _|exact Bc hn fun _=>hK _|exact Aqa hn fun _=>hK _
theorem Afv(hn:Rel none none){op:BinOp}{x y:ByteArray}{K:PV->Option R}{K':PV->Option R'}(hK:∀n,Rel (K n) (K' n)):Rel (SL op x y K) (SL op x y K'):=by unfold SL;split<;>first|exact hK _|exact Bc hn fun _=>hK _|exact hn
theorem XM(hn:Rel none none){e:Bool}{p:PV}{K:PV->Option R}{K':PV->Option R'}(hK:∀n,Rel (K n) (K' n)):Rel (SA e p K) (SA e p K'):=by unfold SA;split<;>first|exact hK _|exact OP (hK _) (OP (hK _) (hK _))|exact OP (hK _) (hK _)|exact hn
theorem Ach(hn:Rel none none):∀{ts:List CT}{ps qs:Ab}{K:Bool->Option R}{K':Bool->Option R'},(∀b,Rel (K b) (K' b))->Rel (Pt ts ps qs K) (Pt ts ps qs K'):=by
 intro ts
 induction ts with
 |nil=>
  intro ps qs K K' hK;cases ps<;>cases qs<;>first|exact hK _|exact hn
 |cons t ts ih=>
  intro ps qs K K' hK;cases ps with
  |nil=>cases t<;>cases qs<;>exact hn
  |cons p ps=>
   cases qs with
   |nil=>cases t<;>exact hn
   |cons q qs=>
    cases t
    ·exact Lx hn fun _=>Lx hn fun _=>ih fun _=>hK _
    ·exact Jo hn fun _=>Jo hn fun _=>ih fun _=>hK _
    ·exact Is hn fun _=>Is hn fun _=>ih fun _=>hK _
    ·exact hn
    ·exact hn
theorem Ao9(hn:Rel none none){P:Program}{op:BinOp}{t:TypeId}{x y:PV}{K:PV->Option R}{K':PV->Option R'}(hK:∀p,Rel (K p) (K' p)):Rel (Apv P op t x y K) (Apv P op t x y K'):=by
 unfold Apv;split
 ·split
  ·exact Lx hn fun _=>Fq hn fun _ _=>Bc hn fun _=>hK _
  ·exact Lx hn fun _=>Fq hn fun _ _=>Bc hn fun _=>hK _
  ·exact Lx hn fun _=>Lx hn fun _=>Afu hn hK
 ·exact Is hn fun _=>Is hn fun _=>Afv hn hK
 ·split
  ·exact Jo hn fun _=>Jo hn fun _=>hK _
  ·exact Jo hn fun _=>Jo hn fun _=>hK _
  ·exact hn
 ·split
  ·exact XM hn fun _=>hK _
  ·exact XM hn fun _=>hK _
  ·exact hn
 ·exact hn
theorem Abh(hn:Rel none none){P:Program}{op:BinOp}{t:TypeId}{x y:PV}{K:PV->Option R}{K':PV->Option R'}(hK:∀p,Rel (K p) (K' p)):Rel (AQ P op t x y K) (AQ P op t x y K'):=by
 unfold AQ;split
 ·split
  ·exact Bc hn fun _=>M9 hn fun _ _=>M9 hn fun _ _=>Ach hn fun _=>hK _
  ·exact Bc hn fun _=>M9 hn fun _ _=>M9 hn fun _ _=>Ach hn fun _=>hK _
  ·exact hn
 ·exact Ao9 hn hK
theorem Ate(hn:Rel none none){op:UnOp}{x:PV}{K:PV->Option R}{K':PV->Option R'}(hK:∀p,Rel (K p) (K' p)):Rel (unK op x K) (unK op x K'):=by unfold unK;split<;>first|exact Jo hn fun _=>hK _|exact Fq hn fun _ _=>hK _|exact hn
theorem Fl(hn:Rel none none){p:Option PV}{d:Nat}{K:Nat->Option R}{K':Nat->Option R'}(hK:∀n,Rel (K n) (K' n)):Rel (Jq p d K) (Jq p d K'):=by
 unfold Jq;split
 ·exact hK _
 ·exact Fq hn fun _ _=>Bc hn fun _=>hK _
theorem JP(hn:Rel none none){x:PV}{d:Nat}{K:PV->Option R}{K':PV->Option R'}(hK:∀n,Rel (K n) (K' n)):Rel (Zz x d K) (Zz x d K'):=by unfold Zz;split<;>first|exact hK _|exact hn
theorem PC(hn:Rel none none){P:Program}{t:TypeId}{x:PV}{i:Int}{K:PV->Option R}{K':PV->Option R'}(hK:∀p,Rel (K p) (K' p)):Rel (Pa P t x i K) (Pa P t x i K'):=by
 unfold Pa;split
 ·exact Bc hn fun _=>Bc hn fun _=>JP hn hK
 ·refine Bc hn fun _=>?_;split
  ·exact Bc hn fun _=>Bc hn fun _=>hK _
  ·exact H6 hn fun _ _ _=>Bc hn fun _=>hK _
 ·exact hn
theorem IV(hn:Rel none none){J2:Nat->Option (Nat × Nat)}:∀{ps:List (Nat × PV)} {cells:Ab}{K:Ab->Option R}{K':Ab->Option R'},(∀c,Rel (K c) (K' c))->Rel (AJ J2 ps cells K) (AJ J2 ps cells K')
 |[],_,_,_,hK=>hK _
 |(_,_)::_,_,_,_,hK=>Ep hn fun _ _=>Bc hn fun _=>IV hn hK
theorem Zq(hn:Rel none none){P:Program}{t:TypeId}{K:Ab->Option R}{K':Ab->Option R'}(hK:∀p,Rel (K p) (K' p)):Rel (Jw P t K) (Jw P t K'):=
 Ep hn fun _ _=>Bc hn fun _=>Wv hn hK
theorem Are(hn:Rel none none){x y:PV}{K:PV->Option R}{K':PV->Option R'}(hK:∀p,Rel (K p) (K' p)):Rel (Aso x y K) (Aso x y K'):=
 Fq hn fun _ _=>Lx hn fun _=>hK _
theorem Apd(hn:Rel none none){x y:PV}{K:PV->Option R}{K':PV->Option R'}(hK:∀p,Rel (K p) (K' p)):Rel (Att x y K) (Att x y K'):=
 Fq hn fun _ _=>Lx hn fun _=>hK _
theorem Aop(hn:Rel none none){P:Program}{t:TypeId}{x:PV}{K:Nat->Option R}{K':Nat->Option R'}(hK:∀p,Rel (K p) (K' p)):Rel (Alu P t x K) (Alu P t x K'):=by
 unfold Alu;split
 ·exact Is hn fun _=>hK _
 ·exact hK _
 ·split
  ·exact Bc hn fun _=>hK _
  ·exact H6 hn fun _ _ _=>hK _
 ·exact hn
def Agr(Rel:Option R->Option R'->Prop)(f f':Nat->Option Ab)(l:B5):Prop:=∀i∈l,f i=f' i\/(f i=none/\∀b,Rel none b)
variable {f f':Nat->Option Ab}
theorem Agr.sub{l l':B5}(h:Agr Rel f f' l)(hs:∀i∈l',i∈l):Agr Rel f f' l':=fun i hi=>h i (hs i hi)
theorem HU(hn:Rel none none){l:B5}{id:Nat}(hf:Agr Rel f f' l)(hi:id∈l){K:Ab->Option R}{K':Ab->Option R'}(hK:∀c,f id=some c->Rel (K c) (K' c)):Rel (Gi (f id) K) (Gi (f' id) K'):=by
 rcases hf id hi with h|⟨h,hb⟩
 ·rw[<-h];exact Ep hn hK
 ·rw[h];exact hb _
theorem HZ(hn:Rel none none){es:Nat}{p:PV}{K:Nat->Ab->Option R}{K':Nat->Ab->Option R'}(hf:Agr Rel f f' (Aw p))(hK:∀n c,Rel (K n c) (K' n c)):Rel (Afp f es p K) (Afp f' es p K'):=by
 unfold Afp;split
 ·rename_i id es' off n;cases Nat.beq es' es
  ·exact hn
  ·exact HU hn hf (by simp[Aw]) fun _ _=>Bc hn fun _=>hK _ _
 ·exact H6 hn fun _ _ _=>hK _ _
theorem Arb(hn:Rel none none){t:CT}{p:PV}{K:PV->B5->Option R}{K':PV->B5->Option R'}(hf:Agr Rel f f' (Aw p))(hK:∀c m,(∀i∈m,f i≠none)->Rel (K c m) (K' c m)):Rel (Tq f t p K) (Tq f' t p K'):=by
 unfold Tq;split
 ·split
  ·rename_i id es' off n;cases Nat.beq es' _
   ·exact hn
   ·exact HU hn hf (by simp[Aw]) fun c hc=>Bc hn fun _=>hK _ _ (by simp[hc])
  ·exact H6 hn fun _ _ _=>hK _ _ (by simp)
 ·exact Uf hn fun _=>hK _ _ (by simp)
theorem BC(hn:Rel none none):∀{ts:List CT}{ps:Ab}{K:Ab->B5->Option R}{K':Ab->B5->Option R'},Agr Rel f f' (ps.flatMap Aw)->(∀c m,(∀i∈m,f i≠none)->Rel (K c m) (K' c m))->Rel (Sv f ts ps K) (Sv f' ts ps K')
 |[],[],_,_,_,hK=>hK _ _ (by simp)
 |[],_::_,_,_,_,_=>hn
 |_::_,[],_,_,_,_=>hn
 |_::_,p::ps,_,_,hf,hK=>Arb hn (fun i hi=>hf i (by simp only[J7,Bu];exact .inl hi)) fun _ m hm=>BC hn (fun i hi=>hf i (by simp only[J7,Bu];exact .inr hi)) fun _ ms RB=>hK _ _ fun i hi=>by
   rcases Bu.1 hi with h|h
   ·exact hm i h
   ·exact RB i h
theorem Apu(hn:Rel none none){P:Program}{t:TypeId}{p:PV}{K:PV->B5->Option R}{K':PV->B5->Option R'}(hf:Agr Rel f f' (Cn p))(hK:∀c m,(∀i∈m,f i≠none)->Rel (K c m) (K' c m)):Rel (Ago P f t p K) (Ago P f' t p K'):=by
 unfold Ago
 have h1:∀i,i∈[p].flatMap Aw->i∈Cn p:=by
  intro i hi;simp only[J7,List.flatMap_nil,List.append_nil] at hi;cases p<;>first|exact hi|simp[Aw] at hi
 cases Cr P t
 ·exact BC hn (fun i hi=>hf i (h1 i hi)) fun _ _ hm=>B6 hn fun _ _ _=>Hl hn (hK _ _ hm)
 ·refine M9 hn fun c hc=>?_;subst hc;exact BC hn (fun i hi=>hf i hi) fun _ _ hm=>hK _ _ hm
theorem WV(hn:Rel none none){P:Program}:∀{ts:List TypeId}{ps:Ab}{K:Ab->B5->Option R}{K':Ab->B5->Option R'},Agr Rel f f' (ps.flatMap Cn)->(∀c m,(∀i∈m,f i≠none)->Rel (K c m) (K' c m))->Rel (QX P f ts ps K) (QX P f' ts ps K')
 |[],[],_,_,_,hK=>hK _ _ (by simp)
 |[],_::_,_,_,_,_=>hn
 |_::_,[],_,_,_,_=>hn
 |_::_,p::ps,_,_,hf,hK=>Apu hn (fun i hi=>hf i (by simp only[J7,Bu];exact .inl hi)) fun _ m hm=>WV hn (fun i hi=>hf i (by simp only[J7,Bu];exact .inr hi)) fun _ ms RB=>hK _ _ fun i hi=>by
   rcases Bu.1 hi with h|h
   ·exact hm i h
   ·exact RB i h
theorem Afc(hn:Rel none none){P:Program}{t:TypeId}{x:PV}{lo hi:Option PV}{K:PV->Option R}{K':PV->Option R'}(hf:(∃n e,P.underlying t=some (.array n e))->Agr Rel f f' (Aw x))(hK:∀c,Rel (K c) (K' c)):Rel (JM P f t x lo hi K) (JM P f' t x lo hi K'):=by
 unfold JM;split
 ·exact Is hn fun _=>Fl hn fun _=>Fl hn fun _=>Bc hn fun _=>hK _
 ·refine Bc hn fun _=>?_;split
  ·exact Bc hn fun _=>Fl hn fun _=>Fl hn fun _=>Bc hn fun _=>hK _
  ·exact H6 hn fun _ _ _=>Fl hn fun _=>Fl hn fun _=>Bc hn fun _=>hK _
 ·rename_i n e hu;refine Bc hn fun _=>?_;split
  ·rename_i id off;exact HU hn (hf ⟨_,_,hu⟩) (by simp[Aw]) fun _ _=>Bc hn fun _=>Fl hn fun _=>Fl hn fun _=>Bc hn fun _=>hK _
  ·exact hn
 ·exact hn
theorem Aek(hn:Rel none none){P:Program}{d:Nat}{t:TypeId}{x:PV}{lo hi mx:Option PV}{K:PV->List (Nat × Bz)->Option R}{K':PV->List (Nat × Bz)->Option R'}(hK:∀c,Rel (K c [(d,.ar false [])]) (K' c [(d,.ar false [])])):Rel (AV P d t x lo hi mx K) (AV P d t x lo hi mx K'):=by
 unfold AV;split
 ·refine Bc hn fun _=>?_;split
  ·exact Bc hn fun _=>Fl hn fun _=>Fl hn fun _=>Fl hn fun _=>Bc hn fun _=>hK _
  ·exact H6 hn fun _ _ _=>Fl hn fun _=>Fl hn fun _=>Fl hn fun _=>Bc hn fun _=>hK _
 ·exact hn
theorem YD{g g':Nat->Option Ab}(hn:Rel none none){P:Program}{t:TypeId}{x:PV}{K:PV->Option R}{K':PV->Option R'}(hf:∀i∈Aw x,(f i=f' i/\g i=g' i)\/(f i=none/\g i=none/\∀b,Rel none b))(hK:∀c,Rel (K c) (K' c)):Rel (HR P f g t x K) (HR P f' g' t x K'):=by
 unfold HR;split
 ·rename_i id off;refine Bc hn fun _=>?_;rcases hf id (by simp[Aw]) with⟨h1,h2⟩|⟨h1,h2,h3⟩
  ·rw[<-h1,<-h2];split
   ·exact Wv hn fun _=>HB hn fun _=>hK _
   ·exact Ep hn fun _ _=>Sz hn fun _=>HB hn hK
  ·rw[h1,h2];exact h3 _
 ·exact Bc hn fun _=>Wv hn fun _=>HB hn fun _=>hK _
 ·exact hn
theorem Akq(hn:Rel none none){P:Program}{d:Nat}{src dst:TypeId}{x:PV}{K:PV->List (Nat × Bz)->Option R}{K':PV->List (Nat × Bz)->Option R'}(hf:P.underlying dst=some .string->Agr Rel f f' (Aw x))(hK:∀v b,(∀q∈b,q.1=d)->Rel (K v b) (K' v b)):Rel (PS P f d src dst x K) (PS P f' d src dst x K'):=by
 unfold PS;split
 ·exact Bc hn fun _=>Fq hn fun _ _=>hK _ _ (by simp)
 ·rename_i hds;split
  ·exact Is hn fun _=>hK _ _ (by simp)
  ·split
   ·exact HZ hn (hf hds) fun _ _=>Bc hn fun _=>Ep hn fun _ _=>hK _ _ (by simp)
   ·exact hn
  ·exact hn
 ·split
  ·exact Is hn fun _=>Bc hn fun _=>hK _ _ (by simp)
  ·exact hn
 ·exact hn
theorem Aq8(hn:Rel none none){shr:Bool}{id:Nat}{t:CT}{p:PV}{K:PV->List (Nat × Bz)->Option R}{K':PV->List (Nat × Bz)->Option R'}(hK:∀c b,(∀q∈b,q.1=id)->Rel (K c b) (K' c b)):Rel (Art shr id t p K) (Art shr id t p K'):=by
 unfold Art;split
 ·cases shr
  ·exact Aib hn fun _ _=>hK _ _ (by simp)
  ·exact H6 hn fun _ _ _=>hK _ _ (by simp)
 ·exact Uf hn fun _=>hK _ _ (by simp)
theorem BI(hn:Rel none none){shr:Bool}{N:Nat}:∀{ts:List CT}{id:Nat}{ps:Ab}{K:Ab->List (Nat × Bz)->Option R} {K':Ab->List (Nat × Bz)->Option R'},(∀c b,(∀q∈b,∃j,q.1=id+N*j)->Rel (K c b) (K' c b))->Rel (Ww shr N id ts ps K) (Ww shr N id ts ps K')
 |[],_,_,_,_,hK=>Hl hn (hK _ _ (by simp))
 |_::_,id,_,_,_,hK=>B6 hn fun _ _ _=>Aq8 hn fun _ b hb=>BI hn fun _ bs OX=>hK _ _ fun q hq=>by
   rcases Bu.1 hq with h|h
   ·exact⟨0,by rw[hb q h];simp⟩
   ·obtain⟨j,hj⟩:=OX q h;exact⟨j+1,by rw[hj,Nat.mul_add];omega⟩
theorem Aqo(hn:Rel none none){P:Program}{shr:Bool}{N id:Nat}{t:TypeId}{p:PV}{K:PV->List (Nat × Bz)->Option R}{K':PV->List (Nat × Bz)->Option R'}(hK:∀c b,(∀q∈b,∃j,q.1=id+N*j)->Rel (K c b) (K' c b)):Rel (Alo P shr N id t p K) (Alo P shr N id t p K'):=by
 unfold Alo;split
 ·refine Ak0 hn fun ps=>BI hn fun _ _ hb=>hK _ _ fun q hq=>?_;rcases Bx.1 hq with rfl|hq
  ·exact⟨0,by simp⟩
  ·obtain⟨j,hj⟩:=hb q hq;exact⟨j+1,by rw[hj,Nat.mul_add];omega⟩
 cases Cr P t
 ·exact BI hn fun _ _ hb=>B6 hn fun _ _ _=>Hl hn (hK _ _ hb)
 ·exact M9 hn fun _ _=>BI hn fun _ _ hb=>hK _ _ hb
theorem KC(hn:Rel none none){P:Program}{shr:Bool}{N:Nat}:∀{ts:List TypeId}{id:Nat}{ps:Ab}{K:Ab->List (Nat × Bz)->Option R} {K':Ab->List (Nat × Bz)->Option R'},(∀c b,(∀q∈b,∃j,q.1=id+N*j)->Rel (K c b) (K' c b))->Rel (LX P shr N id ts ps K) (LX P shr N id ts ps K')
 |[],_,_,_,_,hK=>Hl hn (hK _ _ (by simp))
 |t::_,id,_,_,_,hK=>B6 hn fun _ _ _=>Aqo hn fun _ b hb=>KC hn fun _ bs OX=>hK _ _ fun q hq=>by
   rcases Bu.1 hq with h|h
   ·exact hb q h
   ·obtain⟨j,hj⟩:=OX q h;exact⟨Aep P t+j,by rw[hj,Nat.mul_add];omega⟩
end
theorem Y8{p:PV}{i:Nat}(h:i∈Aw p):i∈Cn p:=by cases p<;>first|exact h|simp[Aw] at h
theorem Ia{p:PV}{i:Nat}(h:i∈Cn p):i∈Cc p:=by cases p<;>first|exact h|simp[Cn,Aw] at h
theorem Pg{p:PV}{i:Nat}(h:i∈Aw p):i∈Cc p:=Ia (Y8 h)
section
variable {R R':Type}{Rel:Option R->Option R'->Prop}{P:Program}{N:Nat}{tm tm':Nat->PV}{f f' g g':Nat->Option Ab}{o:Oper}
theorem RT(hn:Rel none none){t:TypeId}{x:Operand}{K:PV->Option R}{K':PV->Option R'}(hx:Cv tm x=Cv tm' x)(hK:∀p,Rel (K p) (K' p)):Rel (IW P t tm x K) (IW P t tm' x K'):=by
 unfold IW;split
 ·exact Au8 hn (fun _ _=>hK _) (fun _=>hK _)
 ·rw[hx];exact hK _
theorem Aoj(hn:Rel none none){t:CT}{p:PV}{K:PV->Option R}{K':PV->Option R'}(hK:∀p,Aw p=[]->Rel (K p) (K' p)):Rel (KH t p K) (KH t p K'):=by
 unfold KH;split
 ·exact Lx hn fun _=>hK _ rfl
 ·exact Jo hn fun _=>hK _ rfl
 ·exact Is hn fun _=>hK _ rfl
 ·exact H6 hn fun _ _ _=>hK _ rfl
 ·exact Ai3 hn fun _=>hK _ rfl
theorem XF(hn:Rel none none):∀{ts:List CT}{cells:Ab}{off:Nat}{K:Ab->Option R}{K':Ab->Option R'},(∀c,(∀p∈c,Aw p=[])->Rel (K c) (K' c))->Rel (Zi ts cells off K) (Zi ts cells off K')
 |[],_,_,_,_,hK=>hK _ (by simp)
 |_::_,_,_,_,_,hK=>Aoj hn fun c hc=>XF hn fun cs VL=>hK _ (by
   intro p hp;rcases Bx.1 hp with h|h
   ·rw[h];exact hc
   ·exact VL p h)
theorem GW(hn:Rel none none){t:TypeId}{K:Ab->Option R}{K':Ab->Option R'}(hK:∀c,(∀p∈c,Aw p=[])->Rel (K c) (K' c)):Rel (Jw P t K) (Jw P t K'):=
 Ep hn fun _ _=>Bc hn fun _=>XF hn hK
theorem Y4{p c:PV}(h:c∈cellsOf p){i:Nat}(hi:i∈Aw c):i∈Cn p:=by
 unfold cellsOf at h;split at h
 ·exact List.mem_flatMap.2 ⟨c,h,hi⟩
 ·simp at h;subst h;exact Y8 hi
theorem Afy{cells new:Ab}{off:Nat}{c:PV}(h:c∈Bp cells new off):c∈cells\/c∈new:=by
 unfold Bp at h;rcases Bu.1 h with h|h
 ·rcases Bu.1 h with h|h
  ·exact .inl (List.mem_of_mem_take h)
  ·exact .inr h
 ·exact .inl (List.mem_of_mem_drop h)
theorem ST(hn:Rel none none){J2:Nat->Option (Nat × Nat)}{S:Nat->Prop}:∀{ps:List (Nat × PV)} {cells:Ab}{K:Ab->Option R}{K':Ab->Option R'},(∀c∈cells,∀i∈Aw c,S i)->(∀q∈ps,∀i∈Cn q.2,S i) ->
  (∀cs,(∀c∈cs,∀i∈Aw c,S i)->Rel (K cs) (K' cs))->Rel (AJ J2 ps cells K) (AJ J2 ps cells K')
 |[],_,_,_,h1,_,hK=>hK _ h1
 |(_,p)::_,_,_,_,h1,h2,hK=>Ep hn fun _ _=>Bc hn fun _=>ST hn (fun c hc i hi=>by
   rcases Afy hc with h|h
   ·exact h1 c h i hi
   ·exact h2 (_,p) GF i (Y4 h hi)) (fun q hq=>h2 q (Rw _ hq)) hK
theorem KZ(hn:Rel none none):∀{ts:List CT}{ps:Ab}{K:Ab->B5->Option R}{K':Ab->B5->Option R'},(∀t∈ts,∀es,t ≠ .sl es)->(∀c,Rel (K c []) (K' c []))->Rel (Sv g ts ps K) (Sv g' ts ps K')
 |[],[],_,_,_,hK=>hK _
 |[],_::_,_,_,_,_=>hn
 |_::_,[],_,_,_,_=>hn
 |t::ts,p::ps,K,K',ht,hK=>by
  show Rel (Tq g t p _) (Tq g' t p _)
  have:∀{g:Nat->Option Ab} {S:Type} {L:PV->B5->Option S},Tq g t p L=KH t p fun c=>L c []:=by
   intro g S L;cases t with
   |sl es=>exact absurd rfl (ht _ (by simp) es)
   |_=>rfl
  rw[this,this];exact Uf hn fun c=>KZ hn (fun t h=>ht t (by simp[h])) fun cs=>hK _
theorem Apa(hn:Rel none none){es:Nat}{t:TypeId}{x:PV}{K:Nat->Ab->Option R}{K':Nat->Ab->Option R'}(hx:Agr Rel g g' (Aw x))(hK:∀m c,Rel (K m c) (K' m c)):Rel (Agp P g es t x K) (Agp P g' es t x K'):=by
 unfold Agp;split
 ·exact Bc hn fun _=>Is hn fun _=>hK _ _
 ·exact HZ hn hx hK
 ·exact hn
theorem An3(hn:Rel none none){t:TypeId}{x:PV}{K:Nat->Option R}{K':Nat->Option R'}(hK:∀n,Rel (K n) (K' n)):Rel (Alr P t x K) (Alr P t x K'):=by
 unfold Alr;split
 ·exact H6 hn fun _ _ _=>Bc hn fun _=>hK _
 ·exact hn
theorem Abx(hn:Rel none none){d:Nat}{t tx:TypeId}{x:PV}{K:PV->List (Nat × Bz)->Option R}{K':PV->List (Nat × Bz)->Option R'}(hx:Agr Rel g g' (Aw x))(hK:∀v nw,Rel (K v nw) (K' v nw)):Rel (AW P g d t tx x K) (AW P g' d t tx x K'):=by
 unfold AW;split
 ·exact Bc hn fun _=>Apa hn hx fun _ _=>Bc hn fun _=>hK _ _
 ·exact hn
theorem SM(hn:Rel none none){C:Jm}{call:Bi}{K:PV->B5->List (Nat × Bz)->Option R}{K':PV->B5->List (Nat × Bz)->Option R'}(Oo:∀x∈o.op.operands.toList,Cv tm x=Cv tm' x)(hfg:K0 P o.op=true->∀x∈o.op.operands.toList,∀i∈Cc (Cv tm' x),(f i=f' i/\g i=g' i)\/(f i=none/\g i=none/\∀b,Rel none b))(hK:∀v fz nw,(K0 P o.op=false->fz=[]/\∀q∈nw,o.dst=some q.1)->(∀i∈fz,g i≠none)->Rel (K v fz nw) (K' v fz nw)):
  Rel (RM C P N call tm f g o K) (RM C P N call tm' f' g' o K'):=by
 have h0:∀v,Rel (K v [] []) (K' v [] []):=fun v=>hK v [] [] (fun _=>⟨rfl,by simp⟩) (by simp);have hf:K0 P o.op=true->∀x∈o.op.operands.toList,Agr Rel f f' (Cc (Cv tm' x)):=fun h x hx i hi=>(hfg h x hx i hi).imp (·.1) fun h=>⟨h.1,h.2.2⟩;have hg:K0 P o.op=true->∀x∈o.op.operands.toList,Agr Rel g g' (Cc (Cv tm' x)):=fun h x hx i hi=>(hfg h x hx i hi).imp (·.2) fun h=>⟨h.2.1,h.2.2⟩;unfold RM;generalize hop:o.op=op at *
 split
 ·exact RT hn (Oo _ (by simp[Op.operands])) h0
 ·exact RT hn (Oo _ (by simp[Op.operands])) h0
 ·rename_i c x y;rw[Oo c (by simp[Op.operands]),Oo x (by simp[Op.operands]),Oo y (by simp[Op.operands])];exact Jo hn fun _=>OP (h0 _) (h0 _)
 ·exact Ep hn fun d hd=>Zq hn fun _=>hK _ _ _ (fun _=>⟨rfl,by simp[hd]⟩) (by simp)
 ·rename_i t x;rw[Oo x (by simp[Op.operands])];refine Ep hn fun d hd=>Bc hn fun _=>?_;cases Zm P t
  ·exact Sz hn fun _=>hK _ _ _ (fun _=>⟨rfl,by simp[hd]⟩) (by simp)
  ·exact Wv hn fun _=>hK _ _ _ (fun _=>⟨rfl,by simp[hd]⟩) (by simp)
 ·rename_i t ps
  have:(ps.toList.map fun q=>(q.1,Cv tm q.2))=ps.toList.map fun q=>(q.1,Cv tm' q.2):=by
   apply List.map_congr_left;intro q hq;rw[Oo q.2 (by simp only[Op.operands];exact List.mem_map_of_mem hq)]
  rw[this];exact Bc hn fun _=>Zq hn fun _=>IV hn fun _=>Sz hn fun _=>h0 _
 ·rename_i t n ps
  have:(ps.toList.map fun q=>(q.1,Cv tm q.2))=ps.toList.map fun q=>(q.1,Cv tm' q.2):=by
   apply List.map_congr_left;intro q hq;rw[Oo q.2 (by simp only[Op.operands];exact List.mem_map_of_mem hq)]
  rw[this];refine Ep hn fun d hd=>?_;split
  ·rename_i e hu;cases OM:Nj P [e]
   ·refine Bc hn fun _=>GW hn fun z hz=>IV hn fun cs=>KZ hn ?_ fun cs'=>hK _ _ _ (fun _=>⟨rfl,by simp[hd]⟩) (by simp);intro c hc es he;obtain⟨l,hl,hc⟩:=List.mem_flatten.1 hc;rw[List.eq_of_mem_replicate hl] at hc;subst he
    have:Nj P [e]=true:=by
     unfold Nj;simp only[List.any_cons,List.any_nil,Bool.or_false,Bool.or_eq_true];exact .inr (List.any_eq_true.2 ⟨_,hc,rfl⟩)
    rw[this] at OM;cases OM
   refine Bc hn fun _=>GW hn fun z hz=>ST (S:=fun i=>∃x∈(Op.buildSlice t n ps).operands.toList,i∈Cc (Cv tm' x)) hn ?_ ?_ fun cs VL=>?_
   ·intro c hc i hi;obtain⟨l,hl,hc⟩:=List.mem_flatten.1 hc;rw[List.eq_of_mem_replicate hl] at hc;rw[hz c hc] at hi;simp at hi
   ·intro q hq i hi;obtain⟨q',Ic,rfl⟩:=List.mem_map.1 hq;exact⟨q'.2,by simp only[Op.operands];exact List.mem_map_of_mem Ic,Ia hi⟩
   ·refine BC hn (fun i hi=>?_) fun cs' m hm=>hK _ _ _ (fun h=>by simp[K0,hu,OM] at h) hm;obtain⟨c,hc,hi⟩:=List.mem_flatMap.1 hi;obtain⟨x,hx,hxi⟩:=VL c hc i hi;exact hg (by simp[K0,hu,OM]) x hx i hxi
  ·exact hn
 ·rename_i t x;rw[Oo x (by simp[Op.operands])];exact YD hn (fun i hi=>hfg (by simp[K0]) x (by simp[Op.operands]) i (Pg hi)) h0
 ·rename_i x;rw[Oo x (by simp[Op.operands])];exact JP hn h0
 ·rename_i op' t x y _;rw[Oo x (by simp[Op.operands]),Oo y (by simp[Op.operands])];exact Abh hn h0
 ·rename_i op' t x;rw[Oo x (by simp[Op.operands])];exact Ate hn h0
 ·rename_i src dst x;rw[Oo x (by simp[Op.operands])];exact Akq hn (fun hds i hi=>hg (by simp[K0,hds]) x (by simp[Op.operands]) i (Pg hi)) fun v b hb=>Ep hn fun d hd=>hK _ _ _ (fun _=>⟨rfl,fun q hq=>by rw[hd,hb q hq,hd];rfl⟩) (by simp)
 ·rename_i t x y;rw[Oo x (by simp[Op.operands]),Oo y (by simp[Op.operands])];refine Ep hn fun d hd=>?_;split
  ·exact Fq hn fun _ _=>Fq hn fun _ _=>Bc hn fun _=>Zq hn fun _=>hK _ _ _ (fun _=>⟨rfl,by simp[hd]⟩) (by simp)
  ·exact hn
 ·rename_i t x lo hi mx;split
  ·rw[Oo x (by simp[Op.operands])]
   have h1:lo.map (Cv tm)=lo.map (Cv tm'):=by
    cases lo with
    |none=>rfl
    |some y=>simp only[Option.map_some];rw[Oo y (by simp[Op.operands])]
   have h2:hi.map (Cv tm)=hi.map (Cv tm'):=by
    cases hi with
    |none=>rfl
    |some y=>simp only[Option.map_some];rw[Oo y (by simp[Op.operands])]
   rw[h1,h2];exact Afc hn (fun ⟨n,e,he⟩ i hi=>hf (by simp[K0,he]) x (by simp[Op.operands]) i (Pg hi)) h0
  ·rename_i m;rw[Oo x (by simp[Op.operands])]
   have h1:lo.map (Cv tm)=lo.map (Cv tm'):=by
    cases lo with
    |none=>rfl
    |some y=>simp only[Option.map_some];rw[Oo y (by simp[Op.operands])]
   have h2:hi.map (Cv tm)=hi.map (Cv tm'):=by
    cases hi with
    |none=>rfl
    |some y=>simp only[Option.map_some];rw[Oo y (by simp[Op.operands])]
   rw[h1,h2,Oo m (by simp[Op.operands])];exact Ep hn fun d hd=>Aek hn fun c=>hK _ _ _ (fun _=>⟨rfl,by simp[hd]⟩) (by simp)
 ·rename_i t x fl;rw[Oo x (by simp[Op.operands])];exact Ep hn fun _ _=>Bc hn fun _=>JP hn h0
 ·rename_i t x fl;rw[Oo x (by simp[Op.operands])];exact Ep hn fun _ _=>Bc hn fun _=>M9 hn fun _ _=>Sz hn fun _=>HB hn h0
 ·rename_i t x i;rw[Oo x (by simp[Op.operands]),Oo i (by simp[Op.operands])];exact Fq hn fun _ _=>PC hn h0
 ·rename_i t x i;rw[Oo x (by simp[Op.operands]),Oo i (by simp[Op.operands])];refine Fq hn fun _ _=>?_;split
  ·exact Is hn fun _=>Bc hn fun _=>Ep hn fun _ _=>h0 _
  ·exact M9 hn fun _ _=>Bc hn fun _=>Sz hn fun _=>HB hn h0
  ·exact hn
 ·rename_i x i;rw[Oo x (by simp[Op.operands])];split
  ·exact Ep hn fun _ _=>h0 _
  ·exact hn
 ·rename_i c
  have O4:∀x∈c.args.toList,x∈(Op.call c).operands.toList:=by
   intro x hx;simp only[Op.operands,Call.operands,Array.toList_append,Bu];exact .inr hx
  have rc:∀fn,K0 P (.call c)=true->Rel (SQ C P N call tm g o c fn K) (SQ C P N call tm' g' o c fn K'):=by
   intro fn hmm;unfold SQ;have:c.args.toList.map (Cv tm)=c.args.toList.map (Cv tm'):=List.map_congr_left fun x hx=>Oo x (O4 x hx);rw[this];refine WV hn (fun i hi=>?_) fun vs m hm=>WY hn fun rv ro=>Hl hn (Bc hn fun _=>KC hn fun ws bs OX=>Bc hn fun _=>hK _ _ _ (fun h=>by rw[hmm] at h;cases h) (fun i hi=>?_))
   ·obtain⟨p,hp,hi⟩:=List.mem_flatMap.1 hi;obtain⟨x,hx,rfl⟩:=List.mem_map.1 hp;exact hg hmm x (O4 x hx) i (Ia hi)
   ·have hi':i∈m:=by
     cases hq:Nj P (S9 P o.type)<;>rw[hq] at hi
     ·simp at hi
     ·exact hi
    exact hm i hi'
  split
  ·refine B6 hn fun x _ hx=>B6 hn fun _ _ _=>?_;rw[Oo x (O4 x (by rw[hx];simp))]
   exact Aop hn fun _=>h0 _
  ·refine B6 hn fun x _ hx=>B6 hn fun _ _ _=>?_;rw[Oo x (O4 x (by rw[hx];simp))]
   exact An3 hn fun _=>h0 _
  ·refine B6 hn fun x _ hx=>B6 hn fun y _ hy=>Hl hn ?_;subst hy;rw[Oo x (O4 x (by rw[hx];simp)),Oo y (O4 y (by rw[hx];simp))]
   exact Are hn h0
  ·refine B6 hn fun x _ hx=>B6 hn fun y _ hy=>Hl hn ?_;subst hy;rw[Oo x (O4 x (by rw[hx];simp)),Oo y (O4 y (by rw[hx];simp))]
   exact Apd hn h0
  ·rename_i hc;have hmm:K0 P (.call c)=true:=by simp[K0,hc]
   refine Bc hn fun _=>Ep hn fun d hd=>B6 hn fun _ _ hb=>B6 hn fun x _ hx=>Hl hn (B6 hn fun _ _ _=>B6 hn fun _ _ _=>?_);have hxm:x∈c.args.toList:=by rw[hb,hx];simp
   rw[Oo x (O4 x hxm)];exact Abx hn (fun i hi=>hg hmm x (O4 x hxm) i (Pg hi)) fun v nw=>hK _ _ _ (fun h=>by rw[hmm] at h;cases h) (by simp)
  ·rename_i fn hc;have hmm:K0 P (.call c)=true:=by simp[K0,hc]
   exact rc fn hmm
  ·rename_i t hc;have hmm:K0 P (.call c)=true:=by simp[K0,hc]
   have ht:=Oo (.tmp t) (by simp[Op.operands,Call.operands,hc]);change tm t=tm' t at ht;rw[ht];exact Au3 hn fun fn=>rc fn hmm
  ·exact hn
 ·exact hn
variable {hp:Nat->Option Bz}
end
open Go.RowKit
abbrev EH:=PV × B5 × List (Nat × Bz)
def Ih(ops:Array Oper)(o:Oper)(tm:Nat->PV):Option Bool:=
 match o.guard with
 |none=>some true
 |some (j,want)=>
  match (ops[j]?).bind (·.dst) with
  |none=>none
  |some d=>
   match tm d with
   |.sc (.bool b)=>some (b==want)
   |.sc (.tuple _)=>some false
   |_=>none
section
variable {R:Type}{r:R}{C:Jm}{P:Program}{N:Nat}{call:Bi}{ops:Array Oper}{o x:Oper}{s:St}{K:St->Option R}
theorem OG:Em C P N call ops o s K=match Ih ops o s.tm with
  |none=>none
  |some true=>Ad0 C P N call o s K
  |some false=>At (I2 N o.dst) (K ⟨Cd s.tm o.dst (.sc undef),s.hp⟩):=by
 unfold Em Ih;cases o.guard with
 |none=>rfl
 |some q=>
  obtain⟨j,want⟩:=q;cases hd:(ops[j]?).bind (·.dst) with
  |none=>simp[hd]
  |some d=>
   simp only[hd];cases ht:s.tm d with
   |sc v=>
    cases v with
    |bool b=>
     cases b<;>cases want<;>simp only[Bd,cond_true,cond_false,GG s.tm ht]<;>rfl
    |_=>rfl
   |_=>rfl
def Ajt(C:Jm)(P:Program)(N:Nat)(call:Bi)(o:Oper)(s:St):Option EH:=
 RM C P N call s.tm (rd s.hp) (Od s.hp) o fun v fz nw=>some (v,fz,nw)
theorem Atp{K:PV->B5->List (Nat × Bz)->Option R}:RM C P N call s.tm (rd s.hp) (Od s.hp) o K=(Ajt C P N call o s).bind fun q=>K q.1 q.2.1 q.2.2:=by refine SM (Rel:=fun (a:Option R) (b:Option EH)=>a=b.bind fun q=>K q.1 q.2.1 q.2.2) (K:=K) (K':=fun v fz nw=>some (v,fz,nw)) rfl (fun _ _=>rfl) (fun _ _ _ _ _=>.inl ⟨rfl,rfl⟩) fun v fz nw _ _=>rfl
theorem Afj{q:EH}(h:Ajt C P N call o s=some q):(K0 P o.op=false->q.2.1=[]/\∀p∈q.2.2,o.dst=some p.1)/\∀i∈q.2.1,Od s.hp i≠none:=by
 have:=SM (C:=C) (P:=P) (N:=N) (call:=call) (o:=o) (tm:=s.tm) (tm':=s.tm) (f:=rd s.hp) (f':=rd s.hp) (g:=Od s.hp) (g':=Od s.hp)
  (Rel:=fun (a:Option EH)(_:Option EH)=>∀q,a=some q->(K0 P o.op=false->q.2.1=[]/\∀p∈q.2.2,o.dst=some p.1)/\∀i∈q.2.1,Od s.hp i≠none)
  (K:=fun v fz nw=>some (v,fz,nw)) (K':=fun v fz nw=>some (v,fz,nw)) (fun _ h=>by cases h) (fun _ _=>rfl) (fun _ _ _ _ _=>.inl ⟨rfl,rfl⟩) (fun v fz nw h1 h2 q hq=>by cases hq;exact⟨h1,h2⟩)
 exact this q h
def gE(C:Jm)(P:Program)(N:Nat)(call:Bi)(ops:Array Oper)(o:Oper)(s:St):Option EH:=
 match Ih ops o s.tm with
 |none=>none
 |some true=>bif Xx C P o.op then none else Ajt C P N call o s
 |some false=>some (.sc undef,[],[])
def Jr(C:Jm)(P:Program)(ops:Array Oper)(o:Oper)(tm:Nat->PV):Bool:=Xx C P o.op&&(Ih ops o tm==some true)
theorem Pf(h:Jr C P ops o s.tm=false):Em C P N call ops o s K=(gE C P N call ops o s).bind fun q=>JN N s o.dst q.1 q.2.1 q.2.2 K:=by
 rw[OG];unfold gE;unfold Jr at h;cases hv:Ih ops o s.tm with
 |none=>rfl
 |some b=>
  rw[hv] at h;cases b with
  |false=>
   show At _ _=JN N s o.dst (.sc undef) [] [] K;unfold JN;have h1:Cl s.hp []=true:=rfl;have h2:A5 (Ae s.hp []) []=s.hp:=rfl;rw[h1,h2,Bool.and_true]
  |true=>
   have hm:Xx C P o.op=false:=by simpa using h
   simp only[Ad0,hm,cond_false];exact Atp
theorem Mc(h:Jr C P ops o s.tm=true):Em C P N call ops o s K=CJ C P N call s o K:=by rw[OG];unfold Jr at h;simp only[Gl,beq_iff_eq] at h;rw[h.2];simp only[Ad0,h.1,cond_true]
theorem AK{q:EH}(h:gE C P N call ops o s=some q):(K0 P o.op=false->q.2.1=[]/\∀p∈q.2.2,o.dst=some p.1)/\∀i∈q.2.1,Od s.hp i≠none:=by
 unfold gE at h;split at h
 ·cases h
 ·cases hm:Xx C P o.op<;>rw[hm] at h
  ·exact Afj h
  ·cases h
 ·cases h;exact⟨fun _=>⟨rfl,by simp⟩,by simp⟩
theorem Hv{tm tm':Nat->PV}(h:∀t∈looks ops o,tm t=tm' t):∀y∈o.op.operands.toList,Cv tm y=Cv tm' y:=by
 intro y hy;cases y with
 |tmp t=>
  refine h t ?_;unfold looks Aq9;refine Bu.2 (.inl (List.mem_filterMap.2 ⟨.tmp t,hy,rfl⟩))
 |const v=>cases v<;>rfl
 |func f=>rfl
 |«global» g=>rfl
theorem Po{tm tm':Nat->PV}(h:∀t∈looks ops o,tm t=tm' t):Ih ops o tm=Ih ops o tm':=by
 unfold Ih;cases hg:o.guard with
 |none=>rfl
 |some q=>
  obtain⟨j,want⟩:=q;cases hd:(ops[j]?).bind (·.dst) with
  |none=>simp[hd]
  |some d=>
   have:tm d=tm' d:=h d (by
    unfold looks;rw[hg];refine Bu.2 (.inr ?_);simp only[hd];simp)
   simp only[hd,this]
theorem FS{s':St}{q:EH}(ht:∀t∈looks ops o,s.tm t=s'.tm t)(hm:K0 P o.op=true->∀y∈o.op.operands.toList,∀i∈Cc (Cv s'.tm y),(rd s.hp i=rd s'.hp i/\Od s.hp i=Od s'.hp i)\/(rd s.hp i=none/\Od s.hp i=none))(h:gE C P N call ops o s=some q):gE C P N call ops o s'=some q:=by
 unfold gE at h ⊢;rw[<-Po ht];split at h
 ·cases h
 ·cases hM:Xx C P o.op<;>rw[hM] at h
  ·have:=SM (C:=C) (P:=P) (N:=N) (call:=call) (o:=o) (tm:=s.tm) (tm':=s'.tm) (f:=rd s.hp) (f':=rd s'.hp) (g:=Od s.hp) (g':=Od s'.hp)
    (Rel:=fun (a b:Option EH)=>a=some q->b=some q)
    (K:=fun v fz nw=>some (v,fz,nw)) (K':=fun v fz nw=>some (v,fz,nw)) (fun h=>h) (Hv ht)
    (fun Rr y hy i hi=>(hm Rr y hy i hi).imp id fun h=>⟨h.1,h.2,fun _ h=>by cases h⟩) (fun v fz nw _ _ h=>h)
   exact this h
  ·cases h
 ·exact h
end
open Go.RowKit
theorem Wp:∀{nw:List (Nat × Bz)} {hp C5:Nat->Option Bz},Cl hp nw=true->(∀i b,(i,b)∈nw->C5 i=none)->Cl C5 nw=true
 |[],_,_,_,_=>rfl
 |(i,b)::nw,hp,C5,h,h'=>by
  simp only[Cl,Gl,Option.isNone_iff_eq_none] at h ⊢;exact⟨⟨h' i b (by simp),h.1.2⟩,Wp h.2 fun j c hj=>h' j c (by simp[hj])⟩
section
variable {hp:Nat->Option Bz}{fz:B5}{nw:List (Nat × Bz)}
theorem Iu(ha:Cl hp nw=true){i:Nat}(hi:hp i≠none):A5 (Ae hp fz) nw i=if i∈fz then (hp i).map Zy else hp i:=by obtain⟨h1,h2⟩:=Ca ha;rw[(F9 h2).2 i (fun bx hb=>hi (h1 i bx hb)),Cp]
theorem M4(ha:Cl hp nw=true){i:Nat}{b:Bz}(hi:(i,b)∈nw):A5 (Ae hp fz) nw i=some b:=
 (F9 (Ca ha).2).1 i b hi
theorem S7(ha:Cl hp nw=true){i:Nat}(hi:hp i=none)(hn:∀b,(i,b) ∉ nw):A5 (Ae hp fz) nw i=none:=by rw[(F9 (Ca ha).2).2 i hn,Cp,hi];simp
theorem Sy(ha:Cl hp nw=true){i:Nat}(hi:hp i≠none):A5 (Ae hp fz) nw i≠none:=by
 rw[Iu ha hi];cases h:hp i with
 |none=>exact absurd h hi
 |some b=>split<;>simp
theorem Avl(b:Option Bz):(match b.map Zy with|some (.st c)=>some c|some (.ar _ c)=>some c|_=>none)=(match b with|some (.st c)=>some c|some (.ar _ c)=>some c|_=>none):=by
 cases b with
 |none=>rfl
 |some b=>cases b<;>rfl
theorem Aq0(b:Option Bz):(match b.map Zy with|some (.ar _ c)=>some c|_=>none)=(match b with|some (.ar _ c)=>some c|_=>none):=by
 cases b with
 |none=>rfl
 |some b=>cases b<;>rfl
theorem Aeb(ha:Cl hp nw=true){i:Nat}(hi:hp i≠none):rd (A5 (Ae hp fz) nw) i=rd hp i:=by
 unfold rd;rw[Iu ha hi];by_cases h:i∈fz
 ·rw[B7 h];exact Avl _
 ·rw[Ba h]
theorem XC(ha:Cl hp nw=true){i:Nat}(hi:hp i≠none):Od (A5 (Ae hp fz) nw) i=Od hp i:=by
 unfold Od;rw[Iu ha hi];by_cases h:i∈fz
 ·rw[B7 h];exact Aq0 _
 ·rw[Ba h]
theorem Ahp{i:Nat}(hi:hp i=none):rd hp i=none:=by unfold rd;rw[hi]
theorem Pr{i:Nat}(hi:hp i=none):Od hp i=none:=by unfold Od;rw[hi]
theorem A38(b:Option Bz):(b.map Zy).map Zy=b.map Zy:=by
 cases b with
 |none=>rfl
 |some b=>cases b<;>rfl
theorem Afg{fx fo:B5}{nx no:List (Nat × Bz)}(hx:Cl hp nx=true)(ho:Cl (A5 (Ae hp fx) nx) no=true)(ho':Cl hp no=true)(BX:Cl (A5 (Ae hp fo) no) nx=true)(h1:∀i∈fx,hp i≠none)(h2:∀i∈fo,hp i≠none):
  A5 (Ae (A5 (Ae hp fx) nx) fo) no=A5 (Ae (A5 (Ae hp fo) no) fx) nx:=by
 funext i
 by_cases hi:hp i=none
 ·by_cases hno:∃b,(i,b)∈no
  ·obtain⟨b,hb⟩:=hno
   have hnx:∀b',(i,b') ∉ nx:=fun b' Jh=>by
    have:=(Ca ho).1 i b hb;rw[M4 hx Jh] at this;cases this
   rw[M4 ho hb,Iu BX (by rw[M4 ho' hb];simp),M4 ho' hb,Ba (fun h=>h1 i h hi)]
  ·have hno:∀b,(i,b) ∉ no:=fun b hb=>hno ⟨b,hb⟩;by_cases hnx:∃b,(i,b)∈nx
   ·obtain⟨b,hb⟩:=hnx;rw[M4 BX hb,Iu ho (by rw[M4 hx hb];simp),M4 hx hb,Ba (fun h=>h2 i h hi)]
   ·have hnx:∀b,(i,b) ∉ nx:=fun b hb=>hnx ⟨b,hb⟩;rw[S7 ho (S7 hx hi hnx) hno,S7 BX (S7 ho' hi hno) hnx]
 ·rw[Iu ho (Sy hx hi),Iu hx hi,Iu BX (Sy ho' hi),Iu ho' hi];split<;>split<;>first|rfl|rw[A38]
end
section
variable {R:Type}{r:R}{C:Jm}{P:Program}{N:Nat}{call:Bi}{ops:Array Oper}{o x:Oper}{s:St}{K:St->Option R}
structure HY(C:Jm)(P:Program)(ops:Array Oper)(x o:Oper):Prop where
 xo:∀d,x.dst=some d->d ∉ looks ops o
 ne:∀d,x.dst=some d->o.dst≠some d
 ox:∀d,o.dst=some d->d ∉ looks ops x
 mx:Xx C P x.op=true->K0 P o.op=false
 mo:Xx C P o.op=true->K0 P x.op=false
theorem Xb{l:B5}{d:Nat}(h:l.any (Nat.beq d)=false):d ∉ l:=by intro hm;have:l.any (Nat.beq d)=true:=List.any_eq_true.2 ⟨d,hm,Of d⟩;rw[this] at h;cases h
theorem Ap4(h:OU C P ops x o=false):HY C P ops x o:=by
 unfold OU at h;simp only[Bool.or_eq_false_iff,Bool.and_eq_false_iff] at h;obtain⟨⟨⟨h1,h2⟩,h3⟩,h4⟩:=h;refine⟨fun d hd=>?_,fun d hd he=>?_,fun d hd=>?_,fun hm=>?_,fun hm=>?_⟩
 ·simp only[hd,Bool.or_eq_false_iff] at h1;exact Xb h1.1
 ·simp only[hd,he,Bool.or_eq_false_iff] at h1;rw[Of] at h1;cases h1.2
 ·simp only[hd] at h2;exact Xb h2
 ·rw[hm] at h3;rcases h3 with h|h
  ·cases h
  ·exact h
 ·rw[hm] at h4;rcases h4 with h|h
  ·cases h
  ·exact h
theorem Gw{tm:Nat->PV}{d:Option Tmp}{v:PV}{l:B5}(h:∀i,d=some i->i ∉ l):∀t∈l,Cd tm d v t=tm t:=by
 intro t ht;cases d with
 |none=>rfl
 |some d=>exact Ar _ _ (by rintro rfl;exact h _ rfl ht)
theorem O2{tm:Nat->PV}{d e:Option Tmp}{u v:PV}(h:∀i,d=some i->e≠some i):Cd (Cd tm d u) e v=Cd (Cd tm e v) d u:=by
 cases d with
 |none=>rfl
 |some d=>
  cases e with
  |none=>rfl
  |some e=>exact Ab9 _ _ _ (by rintro rfl;exact h _ rfl rfl)
def Has(C:Jm)(P:Program)(o:Oper)(s:St):Prop:=(∀y∈o.op.operands.toList,∀i∈Cc (Cv s.tm y),s.hp i≠none) /\
 (Xx C P o.op=true->S6 o.op=false->∀y∈o.op.operands.toList,∀i∈Cc (Cv s.tm y),∀c,s.hp i=some (.st c)->∀p∈c,∀k∈Aw p,s.hp k≠none)
theorem Kl{tm tm':Nat->PV}(h:∀t∈looks ops o,tm t=tm' t):Jr C P ops o tm=Jr C P ops o tm':=by unfold Jr;rw[Po h]
theorem Ai4(hw:Has C P o s)(xo:∀d,x.dst=some d->d ∉ looks ops o)(ne:∀d,x.dst=some d->o.dst≠some d)(ox:∀d,o.dst=some d->d ∉ looks ops x)(hx:Jr C P ops x s.tm=false)(ho:Jr C P ops o s.tm=false)(h:Em C P N call ops x s (fun s1=>Em C P N call ops o s1 K)=some r):Em C P N call ops o s (fun s1=>Em C P N call ops x s1 K)=some r:=by
 rw[Pf hx] at h;cases ex:gE C P N call ops x s with
 |none=>rw[ex] at h;cases h
 |some q=>
 obtain⟨vx,fx,nx⟩:=q;rw[ex] at h;obtain⟨hb,h1⟩:=Au h;simp only[Gl] at hb;have t1:∀t∈looks ops o,Cd s.tm x.dst vx t=s.tm t:=Gw xo;change Em C P N call ops o ⟨Cd s.tm x.dst vx,A5 (Ae s.hp fx) nx⟩ K=some r at h1;rw[Pf (by rw[Kl t1];exact ho)] at h1
 cases eo:gE C P N call ops o ⟨Cd s.tm x.dst vx,A5 (Ae s.hp fx) nx⟩ with
 |none=>rw[eo] at h1;cases h1
 |some q=>
 obtain⟨vo,fo,no⟩:=q;rw[eo] at h1;obtain⟨hc,h2⟩:=Au h1;change K ⟨Cd (Cd s.tm x.dst vx) o.dst vo,A5 (Ae (A5 (Ae s.hp fx) nx) fo) no⟩=some r at h2;simp only[Gl] at hc
 have eo':gE C P N call ops o s=some (vo,fo,no):=by
  refine FS t1 (fun _ y hy i hi=>?_) eo;have:=hw.1 y hy i hi;exact .inl ⟨Aeb hb.2 this,XC hb.2 this⟩
 have ho':Cl s.hp no=true:=Wp hc.2 fun i b hi=>by
  cases hs:s.hp i with
  |none=>rfl
  |some c=>exact absurd ((Ca hc.2).1 i b hi) (Sy hb.2 (by rw[hs];simp))
 rw[Pf ho,eo']
 have BX:Cl (A5 (Ae s.hp fo) no) nx=true:=Wp hb.2 fun i b hi=>by
  refine S7 ho' ((Ca hb.2).1 i b hi) fun c Xn=>?_;have:=(Ca hc.2).1 i c Xn;rw[M4 hb.2 hi] at this;cases this
 have t2:∀t∈looks ops x,s.tm t=Cd s.tm o.dst vo t:=fun t ht=>(Gw ox t ht).symm
 have ex':gE C P N call ops x ⟨Cd s.tm o.dst vo,A5 (Ae s.hp fo) no⟩=some (vx,fx,nx):=by
  refine FS t2 (fun _ y hy i hi=>?_) ex;by_cases hs:s.hp i=none
  ·exact .inr ⟨Ahp hs,Pr hs⟩
  ·exact .inl ⟨(Aeb ho' hs).symm,(XC ho' hs).symm⟩
 show At _ _=_;rw[hc.1,ho'];show Em C P N call ops x ⟨Cd s.tm o.dst vo,A5 (Ae s.hp fo) no⟩ K=some r;rw[Pf (by rw[<-Kl t2];exact hx),ex']
 show At _ _=_;rw[hb.1,BX];rw[<-h2];have hfx:∀i∈fx,s.hp i≠none:=fun i hi hs=>(AK ex).2 i hi (Pr hs);have hfo:∀i∈fo,s.hp i≠none:=fun i hi hs=>(AK eo').2 i hi (Pr hs);show K ⟨Cd (Cd s.tm o.dst vo) x.dst vx,A5 (Ae (A5 (Ae s.hp fo) no) fx) nx⟩=K _;rw[O2 ne,Afg hb.2 hc.2 ho' BX hfx hfo]
end
open Go.RowKit
theorem HC{C:Jm}{P:Program}{o:Op}(h:Xx C P o=true):K0 P o=true:=by
 unfold Xx at h;split at h
 ·rfl
 ·rename_i c;unfold K0;simp only;split at h<;>rename_i hc
  ·rw[hc]
  ·rw[hc]
  ·cases h
  ·rw[hc]
  ·cases h
 ·cases h
structure UH(N:Nat)(S:Nat->Prop)(dst:Option Nat)(hp E9 C5 Hq:Nat->Option Bz):Prop where
 keep:∀i,hp i≠none->C5 i≠none
 off:∀i,i<N->dst≠some i->(¬S i\/hp i=none)->C5 i=hp i/\Hq i=E9 i
 same:∀i,hp i=E9 i->C5 i=Hq i
 far:∀i,¬S i->hp i≠none->C5 i=hp i
section
variable {R R':Type}{Rel:Option R->Option R'->Prop}{P:Program}{N:Nat}{tm tm':Nat->PV}{hp E9:Nat->Option Bz}{f f':Nat->Option Ab}{o:Oper}
theorem WL(hn:Rel none none){t:CT}{p:PV}{K:PV->B5->Option R}{K':PV->B5->Option R'}(hf:Agr Rel f f' (Aw p))(hK:∀c m,(∀i∈m,f i≠none/\i∈Aw p)->Rel (K c m) (K' c m)):Rel (Tq f t p K) (Tq f' t p K'):=by
 unfold Tq;split
 ·split
  ·rename_i id es' off n;cases Nat.beq es' _
   ·exact hn
   ·exact HU hn hf (by simp[Aw]) fun c hc=>Bc hn fun _=>hK _ _ (by simp[hc,Aw])
  ·exact H6 hn fun _ _ _=>hK _ _ (by simp)
 ·exact Uf hn fun _=>hK _ _ (by simp)
theorem OZ(hn:Rel none none):∀{ts:List CT}{ps:Ab}{K:Ab->B5->Option R}{K':Ab->B5->Option R'},Agr Rel f f' (ps.flatMap Aw)->(∀c m,(∀i∈m,f i≠none/\i∈ps.flatMap Aw)->Rel (K c m) (K' c m))->Rel (Sv f ts ps K) (Sv f' ts ps K')
 |[],[],_,_,_,hK=>hK _ _ (by simp)
 |[],_::_,_,_,_,_=>hn
 |_::_,[],_,_,_,_=>hn
 |_::_,p::ps,_,_,hf,hK=>WL hn (fun i hi=>hf i (by simp only[J7,Bu];exact .inl hi)) fun _ m hm=>OZ hn (fun i hi=>hf i (by simp only[J7,Bu];exact .inr hi)) fun _ ms RB=>hK _ _ fun i hi=>by
   simp only[J7,Bu];rcases Bu.1 hi with h|h
   ·exact⟨(hm i h).1,.inl (hm i h).2⟩
   ·exact⟨(RB i h).1,.inr (RB i h).2⟩
theorem AX{S:Nat->Prop}{dst:Option Nat}{id:Nat}{b:Bz}{h0 h1:Nat->Option Bz}(hS:S id)(Br:hp id≠none)(h:UH N S dst hp E9 h0 h1):UH N S dst hp E9 (Db h0 id (some b)) (Db h1 id (some b)):=by
 refine⟨fun i hi=>?_,fun i hN hd hi=>?_,fun i hi=>?_,fun i hn hi=>?_⟩
 ·by_cases e:i=id
  ·subst e;rw[Ax];simp
  ·rw[Ar _ _ e];exact h.keep i hi
 ·have e:i≠id:=by
   rintro rfl
   rcases hi with hi|hi
   ·exact hi hS
   ·exact Br hi
  rw[Ar _ _ e,Ar _ _ e];exact h.off i hN hd hi
 ·by_cases e:i=id
  ·subst e;rw[Ax,Ax]
  ·rw[Ar _ _ e,Ar _ _ e];exact h.same i hi
 ·rw[Ar _ _ (by rintro rfl;exact hn hS)];exact h.far i hn hi
theorem ZQ{S:Nat->Prop}{d:Nat}{b:Bz}{h0 h1:Nat->Option Bz}(hz:hp d=none)(h:UH N S (some d) hp E9 h0 h1):UH N S (some d) hp E9 (Db h0 d (some b)) (Db h1 d (some b)):=by
 refine⟨fun i hi=>?_,fun i hN hd hi=>?_,fun i hi=>?_,fun i hn hi=>?_⟩
 ·by_cases e:i=d
  ·subst e;rw[Ax];simp
  ·rw[Ar _ _ e];exact h.keep i hi
 ·have e:i≠d:=by rintro rfl;exact hd rfl
  rw[Ar _ _ e,Ar _ _ e];exact h.off i hN hd hi
 ·by_cases e:i=d
  ·subst e;rw[Ax,Ax]
  ·rw[Ar _ _ e,Ar _ _ e];exact h.same i hi
 ·rw[Ar _ _ (by rintro rfl;exact hi hz)];exact h.far i hn hi
theorem Z9(S:Nat->Prop)(dst:Option Nat):UH N S dst hp E9 hp E9:=⟨fun _ h=>h,fun _ _ _ _=>⟨rfl,rfl⟩,fun _ h=>h,fun _ _ _=>rfl⟩
theorem Afo{S:Nat->Prop}{dst:Option Nat}{m:B5}(hm:∀i∈m,hp i≠none/\S i):UH N S dst hp E9 (Ae hp m) (Ae E9 m):=by
 refine⟨fun i hi=>fun h=>hi (Fp.1 h),fun i hN hd hi=>?_,fun i hi=>?_,fun i hn hi=>?_⟩
 ·have e:i ∉ m:=by
   intro h;rcases hi with hi|hi
   ·exact hi (hm i h).2
   ·exact (hm i h).1 hi
  rw[Cp,Cp,Ba e,Ba e];exact⟨rfl,rfl⟩
 ·rw[Cp,Cp,hi]
 ·rw[Cp,Ba (fun h=>hn (hm i h).2)]
theorem Aaa{S:Nat->Prop}(h:∀i,S i->hp i=E9 i\/(hp i=none/\∀b,Rel none b)){l:B5}(hl:∀i∈l,S i):Agr Rel (Od hp) (Od E9) l:=by
 intro i hi;rcases h i (hl i hi) with h|⟨h,h'⟩
 ·left;unfold Od;rw[h]
 ·exact .inr ⟨Pr h,h'⟩
theorem Acr(hn:Rel none none){t:TypeId}{a x:PV}{K:St->Option R}{K':St->Option R'}{S:Nat->Prop}(hS:∀i,S i->hp i=E9 i\/(hp i=none/\∀b,Rel none b))(ha:∀i∈Aw a,S i)(hx:∀i∈Cn x,S i)(hK:∀C5 Hq,UH N S none hp E9 C5 Hq->Rel (K ⟨tm,C5⟩) (K' ⟨tm',Hq⟩)):Rel (IZ P ⟨tm,hp⟩ t a x K) (IZ P ⟨tm',E9⟩ t a x K'):=by
 unfold IZ;split
 ·rename_i id off;show Rel (match hp id with|some (.st c)=>_|some (.ar false c)=>_|_=>none) (match E9 id with|some (.st c)=>_|some (.ar false c)=>_|_=>none);have Br:S id:=ha id (by simp[Aw]);rcases hS id Br with h|⟨h,hb⟩
  ·rw[<-h];split
   ·rename_i c hc;exact Bc hn fun _=>Sz hn fun _=>hK _ _ (AX Br (by rw[hc];simp) (Z9 _ _))
   ·rename_i c hc;refine Bc hn fun _=>OZ hn (Aaa hS fun i hi=>hx i ?_) fun _ m hm=>Bc hn fun _=>hK _ _ (AX Br (by rw[hc];simp) (Afo fun i hi=>⟨fun h=>(hm i hi).1 (Pr h),hx i ?_⟩))
    ·obtain⟨c,hc,hi⟩:=List.mem_flatMap.1 hi;exact Y4 hc hi
    ·obtain⟨c,hc,hi⟩:=List.mem_flatMap.1 (hm i hi).2;exact Y4 hc hi
   ·exact hn
  ·rw[h];exact hb _
 ·exact hn
theorem KG(hn:Rel none none){es:Nat}{t:TypeId}{x:PV}{K:Nat->Ab->Option R}{K':Nat->Ab->Option R'}{S:Nat->Prop}(hS:∀i,S i->hp i=E9 i\/(hp i=none/\∀b,Rel none b))(hx:∀i∈Cn x,S i)(hK:∀m c,Rel (K m c) (K' m c)):Rel (Agy P ⟨tm,hp⟩ es t x K) (Agy P ⟨tm',E9⟩ es t x K'):=by
 unfold Agy Agp;split
 ·exact Bc hn fun _=>Is hn fun _=>hK _ _
 ·exact HZ hn (Aaa hS fun i hi=>hx i (Y8 hi)) hK
 ·exact hn
theorem IA(hn:Rel none none){d:Nat}{t tx:TypeId}{b x:PV}{K:St->Option R}{K':St->Option R'}{S:Nat->Prop}(hS:∀i,S i->hp i=E9 i\/(hp i=none/\∀b,Rel none b))(hdd:hp d=E9 d)(hb:∀i∈Cn b,S i)(hx:∀i∈Cn x,S i)(hK:∀v C5 Hq,(∀M,UH M S (some d) hp E9 C5 Hq)->Rel (K ⟨Db tm d v,C5⟩) (K' ⟨Db tm' d v,Hq⟩)):Rel (Ty P N ⟨tm,hp⟩ d t tx b x K) (Ty P N ⟨tm',E9⟩ d t tx b x K'):=by
 unfold Ty;split
 ·refine Bc hn fun _=>?_;cases GP P tx
  rotate_left
  ·show Rel (Y7 P N ⟨tm,hp⟩ d _ b x K) (Y7 P N ⟨tm',E9⟩ d _ b x K');refine Fq hn fun _ n=>H6 hn fun z _ _=>?_;show Rel (At (z&&Nat.blt d N&&(hp d).isNone&&_&&_&&_) _) (At (z&&Nat.blt d N&&(E9 d).isNone&&_&&_&&_) _);rw[<-hdd];exact Bc hn fun hb=>hK _ _ _ (fun M=>ZQ (by simp only[Gl,Option.isNone_iff_eq_none] at hb;simp only[hb]) (Z9 _ _))
  rw[cond_false,cond_false];refine KG hn hS hx fun m new=>?_;split
  ·rename_i id es off n;show Rel (match hp id with|some (.ar false c)=>At (Nat.beq es _&&Nat.beq off 0&&Nat.blt d N&&(hp d).isNone&&_&&_&&_&&_) _|_=>none) (match E9 id with|some (.ar false c)=>At (Nat.beq es _&&Nat.beq off 0&&Nat.blt d N&&(E9 d).isNone&&_&&_&&_&&_) _|_=>none);have Br:S id:=hb id (by simp[Cn,Aw]);rw[<-hdd];rcases hS id Br with h|⟨h,hbb⟩
   ·rw[<-h];split
    ·rename_i c hc;exact Bc hn fun hb=>hK _ _ _ (fun M=>ZQ (by simp only[Gl,Option.isNone_iff_eq_none] at hb;simp only[hb]) (AX Br (by rw[hc];simp) (Z9 _ _)))
    ·exact hn
   ·rw[h];exact hbb _
  ·refine H6 hn fun z _ _=>?_;show Rel (At (z&&Nat.blt d N&&(hp d).isNone&&_&&_&&_) _) (At (z&&Nat.blt d N&&(E9 d).isNone&&_&&_&&_) _);rw[<-hdd];exact Bc hn fun hb=>hK _ _ _ (fun M=>ZQ (by simp only[Gl,Option.isNone_iff_eq_none] at hb;simp only[hb]) (Z9 _ _))
 ·exact hn
theorem Ag9(hn:Rel none none){d:Option Tmp}{t tx:TypeId}{b x:PV}{K:St->Option R}{K':St->Option R'}{S:Nat->Prop}(hS:∀i,S i->hp i=E9 i\/(hp i=none/\∀b,Rel none b))(hb:∀i∈Cn b,S i)(hx:∀i∈Cn x,S i)(hK:∀v C5 Hq,UH N S d hp E9 C5 Hq->Rel (K ⟨Cd tm d v,C5⟩) (K' ⟨Cd tm' d v,Hq⟩)):Rel (XU P N ⟨tm,hp⟩ d t tx b x K) (XU P N ⟨tm',E9⟩ d t tx b x K'):=by
 unfold XU;split
 ·refine Bc hn fun _=>?_;refine KG hn hS hx fun m new=>?_;split
  ·rename_i id es off n;show Rel (match hp id with|some (.ar false c)=>At (Nat.beq es _&&_&&_) _|_=>none) (match E9 id with|some (.ar false c)=>At (Nat.beq es _&&_&&_) _|_=>none);have Br:S id:=hb id (by simp[Cn,Aw]);rcases hS id Br with h|⟨h,hbb⟩
   ·rw[<-h];split
    ·rename_i c hc;exact Bc hn fun _=>hK _ _ _ (AX Br (by rw[hc];simp) (Z9 _ _))
    ·exact hn
   ·rw[h];exact hbb _
  ·exact hn
 ·exact hn
def Awf(o:Oper)(tm:Nat->PV)(i:Nat):Prop:=∃x∈o.op.operands.toList,i∈Cc (Cv tm x)
def EL(o:Oper)(tm:Nat->PV)(hp:Nat->Option Bz)(i:Nat):Prop:=Awf o tm i\/S6 o.op=false/\∃id c,Awf o tm id/\hp id=some (.st c)/\∃p∈c,i∈Aw p
theorem Ama(hn:Rel none none){mv:Bool}{t:CT}{p:PV}{K:PV->B5->B5->Option R}{K':PV->B5->B5->Option R'}{S:Nat->Prop}(hS:∀i,S i->hp i=E9 i\/(hp i=none/\∀b,Rel none b))(hp_:∀i∈Aw p,S i)(hK:∀c m x,(∀i∈m++x,hp i≠none/\S i)->Rel (K c m x) (K' c m x)):Rel (Aj4 mv hp t p K) (Aj4 mv E9 t p K'):=by
 have frz:∀{t:CT} {p:PV},(∀i∈Aw p,S i)->Rel (Tq (Od hp) t p fun c m=>K c m []) (Tq (Od E9) t p fun c m=>K' c m []):=fun h=>WL hn (Aaa hS h) fun c m hm=>hK _ _ _ fun i hi=>by
  rw[List.append_nil] at hi;exact⟨fun e=>(hm i hi).1 (Pr e),h i (hm i hi).2⟩
 unfold Aj4;split
 ·rename_i es;cases mv<;>simp only[cond_true,cond_false]
  ·exact frz hp_
  ·split
   ·rename_i id es' off n;rcases hS id (hp_ id (by simp[Aw])) with h|⟨h,hb⟩
    ·rw[<-h];split
     ·rename_i c hc;cases (Nat.beq es' es&&Nat.beq off 0)<;>simp only[cond_true,cond_false]
      ·exact frz hp_
      ·exact Bc hn fun _=>hK _ _ _ fun i hi=>by
        simp only[PT,Lo] at hi;subst hi;exact⟨by rw[hc];simp,hp_ i (by simp[Aw])⟩
     ·exact frz hp_
    ·rw[h]
     have:(Tq (Od hp) (.sl es) (.view id es' off n) fun c m=>K c m [])=none:=by
      unfold Tq;simp only;cases Nat.beq es' es
      ·rfl
      ·simp only[cond_true,Pr h,Gi]
     show Rel (Tq (Od hp) (.sl es) (.view id es' off n) fun c m=>K c m []) _;rw[this];exact hb _
   ·refine H6 hn fun z n c=>?_;cases z
    ·exact hK _ _ _ (by simp)
    ·exact hK _ _ _ (by simp)
 ·exact Uf hn fun _=>hK _ _ _ (by simp)
theorem X5(hn:Rel none none){mv:Bool}{S:Nat->Prop}(hS:∀i,S i->hp i=E9 i\/(hp i=none/\∀b,Rel none b)):∀{ts:List CT}{ps:Ab}{K:Ab->B5->B5->Option R}{K':Ab->B5->B5->Option R'},(∀p∈ps,∀i∈Aw p,S i) ->
  (∀c m x,(∀i∈m++x,hp i≠none/\S i)->Rel (K c m x) (K' c m x))->Rel (MF mv hp ts ps K) (MF mv E9 ts ps K')
 |[],[],_,_,_,hK=>hK _ _ _ (by simp)
 |[],_::_,_,_,_,_=>hn
 |_::_,[],_,_,_,_=>hn
 |_::_,p::ps,_,_,hp_,hK=>Ama hn hS (hp_ p (by simp)) fun _ m x hm=>X5 hn hS (fun q hq=>hp_ q (by simp[hq])) fun _ ms xs RB=>hK _ _ _ fun i hi=>by
   simp only[Bu] at hi hm RB;rcases hi with (hi|hi)|(hi|hi)
   ·exact hm i (.inl hi)
   ·exact RB i (.inl hi)
   ·exact hm i (.inr hi)
   ·exact RB i (.inr hi)
theorem Aeh(hn:Rel none none){C:Jm}{f:FuncId}{i:Nat}{t:TypeId}{p:PV}{K:PV->B5->B5->List Jp->Option R}{K':PV->B5->B5->List Jp->Option R'}{S:Nat->Prop}(hS:∀i,S i->hp i=E9 i\/(hp i=none/\∀b,Rel none b))(hp_:∀i∈Cc p,S i)(hc:∀i∈Cc p,∀c,E9 i=some (.st c)->∀q∈c,∀k∈Aw q,S k)(hK:∀v m x l,(∀i∈m++x++l.flatMap Jp.ids,hp i≠none/\S i)->Rel (K v m x l) (K' v m x l)):Rel (KK C P f hp i t p K) (KK C P f E9 i t p K'):=by
 unfold KK;split
 ·split
  ·rename_i id off;have Br:S id:=hp_ id (by simp[Cc,Cn,Aw]);rcases hS id Br with h|⟨h,hb⟩
   ·rw[h];split
    ·rename_i c hc1;refine Bc hn fun _=>X5 hn hS (fun q hq k hk=>hc id (by simp[Cc,Cn,Aw]) c hc1 q (List.mem_of_mem_drop (List.mem_of_mem_take hq)) k hk) fun cs m x hm=>hK _ _ _ _ fun k hk=>?_;rcases Bu.1 hk with hk|hk
     ·exact hm k hk
     ·simp only[J7,List.flatMap_nil,Jp.ids,List.append_nil,Lo] at hk;subst hk;exact⟨by rw[h,hc1];simp,Br⟩
    ·exact hn
   ·rw[h];exact hb _
  ·exact hn
 ·cases C.lnd f i
  ·cases Cr P t
   ·exact X5 hn hS (fun q hq k hk=>by
     simp at hq;subst hq;exact hp_ k (Pg hk)) fun cs m x hm=>B6 hn fun _ _ _=>Hl hn (hK _ _ _ _ (by simpa using hm))
   ·refine M9 hn fun cs VL=>X5 hn hS (fun q hq k hk=>hp_ k ?_) fun cs m x hm=>hK _ _ _ _ (by simpa using hm);subst VL;exact List.mem_flatMap.2 ⟨q,hq,hk⟩
  ·refine Ep hn fun e he=>?_;unfold Apm;split
   ·rename_i id es' off n;have Br:S id:=hp_ id (by simp[Cc,Cn,Aw]);rcases hS id Br with h|⟨h,hb⟩
    ·rw[h];split
     ·rename_i c hc1;refine Bc hn fun _=>hK _ _ _ _ fun k hk=>?_;simp only[PT,J7,List.flatMap_nil,Jp.ids,List.append_nil,Lo] at hk;subst hk;exact⟨by rw[h,hc1];simp,Br⟩
     ·exact hn
    ·rw[h];exact hb _
   ·exact H6 hn fun _ _ _=>Bc hn fun _=>hK _ _ _ _ (by simp[Jp.ids])
theorem RU(hn:Rel none none){C:Jm}{f:FuncId}{S:Nat->Prop}(hS:∀i,S i->hp i=E9 i\/(hp i=none/\∀b,Rel none b)):∀{ts:List TypeId}{ps:Ab}{i:Nat}{K:Ab->B5->B5->List Jp->Option R}{K':Ab->B5->B5->List Jp->Option R'},
  (∀p∈ps,∀i∈Cc p,S i)->(∀p∈ps,∀i∈Cc p,∀c,E9 i=some (.st c)->∀q∈c,∀k∈Aw q,S k) ->
  (∀v m x l,(∀i∈m++x++l.flatMap Jp.ids,hp i≠none/\S i)->Rel (K v m x l) (K' v m x l))->Rel (XI C P f hp i ts ps K) (XI C P f E9 i ts ps K')
 |[],[],_,_,_,_,_,hK=>hK _ _ _ _ (by simp)
 |[],_::_,_,_,_,_,_,_=>hn
 |_::_,[],_,_,_,_,_,_=>hn
 |_::_,p::ps,_,_,_,hp_,hc,hK=>Aeh hn hS (hp_ p (by simp)) (hc p (by simp)) fun _ m x l hm=>RU hn hS (fun q hq=>hp_ q (by simp[hq])) (fun q hq=>hc q (by simp[hq])) fun _ ms xs ls RB=>hK _ _ _ _ fun i hi=>by
   simp only[Bu,List.flatMap_append] at hi hm RB;rcases hi with ((hi|hi)|(hi|hi))|(hi|hi)
   ·exact hm i (.inl (.inl hi))
   ·exact RB i (.inl (.inl hi))
   ·exact hm i (.inl (.inr hi))
   ·exact RB i (.inl (.inr hi))
   ·exact hm i (.inr hi)
   ·exact RB i (.inr hi)
theorem Arx(hn:Rel none none){t:Nat}{ct:CT}{was p:PV}{K:Nat->PV->List (Nat × Bz)->Option R}{K':Nat->PV->List (Nat × Bz)->Option R'}(hK:∀t c b,(∀q∈b,∃k,q.1=nid N k)->Rel (K t c b) (K' t c b)):Rel (Amp N t ct was p K) (Amp N t ct was p K'):=by
 unfold Amp;split
 ·split
  ·exact Aib hn fun _ _=>hK _ _ _ (by intro q hq;simp only[Lo] at hq;subst hq;exact⟨t,rfl⟩)
  ·exact H6 hn fun _ _ _=>hK _ _ _ (by simp)
 ·exact Uf hn fun _=>hK _ _ _ (by simp)
theorem WP(hn:Rel none none):∀{cts:List CT}{ws ps:Ab}{t:Nat}{K:Nat->Ab->List (Nat × Bz)->Option R} {K':Nat->Ab->List (Nat × Bz)->Option R'},(∀t c b,(∀q∈b,∃k,q.1=nid N k)->Rel (K t c b) (K' t c b))->Rel (VR N t cts ws ps K) (VR N t cts ws ps K')
 |[],[],_,_,_,_,hK=>Hl hn (hK _ _ _ (by simp))
 |[],_::_,_,_,_,_,_=>hn
 |_::_,[],_,_,_,_,_=>hn
 |_::_,_::_,_,_,_,_,hK=>B6 hn fun _ _ _=>Arx hn fun _ _ b hb=>WP hn fun _ _ bs OX=>hK _ _ _ fun q hq=>by
   rcases Bu.1 hq with h|h
   ·exact hb q h
   ·exact OX q h
theorem AR(hn:Rel none none){S:Nat->Prop}{dst:Option Nat}:∀{l:List Jp}{ro:List Ab} {t:Nat}{h0 h1:Nat->Option Bz}{K:(Nat->Option Bz)->List (Nat × Bz)->Option R} {K':(Nat->Option Bz)->List (Nat × Bz)->Option R'},
  UH N S dst hp E9 h0 h1->(∀i∈l.flatMap Jp.ids,hp i≠none/\S i/\hp i=E9 i)->(∀h0' WR b,UH N S dst hp E9 h0' WR->(∀q∈b,∃k,q.1=nid N k)->Rel (K h0' b) (K' WR b))->Rel (FF N t l ro h0 K) (FF N t l ro h1 K')
 |[],_,_,_,_,_,_,hT,_,hK=>Hl hn (hK _ _ _ hT (by simp))
 |.var id off cts ws::l,ro,t,h0,h1,K,K',hT,hl,hK=>by
  unfold FF;refine B6 hn fun cs ro _=>WP hn fun t' cs' bs OX=>?_;have Br:=hl id (by simp[Jp.ids]);rw[<-hT.same id Br.2.2];split
  ·exact AR hn (AX Br.2.1 Br.1 hT) (fun i hi=>hl i (by simp only[J7,Bu];exact .inr hi)) fun h0' WR b hT' hb=>hK _ _ _ hT' fun q hq=>by
    rcases Bu.1 hq with h|h
    ·exact OX q h
    ·exact hb q h
  ·exact hn
 |.row id::l,ro,t,h0,h1,K,K',hT,hl,hK=>by
  unfold FF;have Br:=hl id (by simp[Jp.ids]);exact B6 hn fun cs ro _=>AR hn (AX Br.2.1 Br.1 hT) (fun i hi=>hl i (by simp only[J7,Bu];exact .inr hi)) hK
 |.none::l,ro,t,h0,h1,K,K',hT,hl,hK=>by
  unfold FF;exact B6 hn fun cs ro _=>AR hn hT (fun i hi=>hl i (by simp only[J7,Bu];exact .inr hi)) hK
theorem Acb(h:∀i,N<=i->hp i=E9 i)(hN:0<N):∀k t,Adk N hp k t=Adk N E9 k t
 |0,_=>rfl
 |k+1,t=>by
  unfold Adk;rw[h (nid N t) (by unfold nid;exact Nat.le_mul_of_pos_right _ (by omega)),Acb h hN k (t+1)]
theorem WU{h0 h1:Nat->Option Bz}:∀{nw:List (Nat × Bz)},(∀q∈nw,h0 q.1=h1 q.1)->Cl h0 nw=Cl h1 nw
 |[],_=>rfl
 |(i,b)::nw,h=>by
  unfold Cl;rw[h (i,b) (by simp),WU (fun q hq=>h q (by simp[hq]))]
theorem PE{S:Nat->Prop}{dst:Option Nat}{h0 h1:Nat->Option Bz}(hT:UH N S dst hp E9 h0 h1):∀{nw:List (Nat × Bz)} {g0 g1:Nat->Option Bz},UH N S dst hp E9 g0 g1->(∀q∈nw,N<=q.1\/dst=some q.1)->(∀q∈nw,hp q.1=none)->UH N S dst hp E9 (A5 g0 nw) (A5 g1 nw)
 |[],_,_,h,_,_=>h
 |(i,b)::nw,g0,g1,h,hi,hz=>by
  refine PE hT (nw:=nw) ⟨fun k hk=>?_,fun k hN hd hk=>?_,fun k hk=>?_,fun k hn hk=>?_⟩ (fun q hq=>hi q (by simp[hq])) (fun q hq=>hz q (by simp[hq]))
  ·by_cases e:k=i
   ·subst e;rw[Ax];simp
   ·rw[Ar _ _ e];exact h.keep k hk
  ·have e:k≠i:=by
    rintro rfl
    rcases hi (k,b) (by simp) with q|q
    ·simp only at q;omega
    ·exact hd q
   rw[Ar _ _ e,Ar _ _ e];exact h.off k hN hd hk
  ·by_cases e:k=i
   ·subst e;rw[Ax,Ax]
   ·rw[Ar _ _ e,Ar _ _ e];exact h.same k hk
  ·rw[Ar _ _ (by rintro rfl;exact hk (hz (k,b) (by simp)))];exact h.far k hn hk
theorem Ay6{S:Nat->Prop}{dst:Option Nat}{m x:B5}(hm:∀i∈m++x,hp i≠none/\S i):UH N S dst hp E9 (AH (Ae hp m) x) (AH (Ae E9 m) x):=by
 refine⟨fun i hi h=>?_,fun i hN hd hi=>?_,fun i hi=>?_,fun i hn hi=>?_⟩
 ·rw[Iq] at h;have h1:Ae hp m i≠none:=fun e=>hi (Fp.1 e);split at h
  ·cases hq:Ae hp m i with
   |none=>exact h1 hq
   |some b=>rw[hq] at h;cases h
  ·exact h1 h
 ·have e:i ∉ m/\i ∉ x:=by
   refine⟨fun h=>?_,fun h=>?_⟩<;>(rcases hi with hi|hi)
   ·exact hi (hm i (by simp[h])).2
   ·exact (hm i (by simp[h])).1 hi
   ·exact hi (hm i (by simp[h])).2
   ·exact (hm i (by simp[h])).1 hi
  rw[Iq,Iq,Ba e.2,Ba e.2,Cp,Cp,Ba e.1,Ba e.1];exact⟨rfl,rfl⟩
 ·rw[Iq,Iq,Cp,Cp,hi]
 ·rw[Iq,Cp,Ba (fun h=>hn (hm i (by simp[h])).2),Ba (fun h=>hn (hm i (by simp[h])).2)]
theorem Aby(hn:Rel none none){C:Jm}{call:Bi}{f:FuncId}{c:Call}{K:St->Option R}{K':St->Option R'}{S:Nat->Prop}(Oo:c.args.toList.map (Cv tm)=c.args.toList.map (Cv tm'))(hS:∀i,S i->hp i=E9 i\/(hp i=none/\∀b,Rel none b))(hp_:∀p∈c.args.toList.map (Cv tm'),∀i∈Cc p,S i)(hc:∀p∈c.args.toList.map (Cv tm'),∀i∈Cc p,∀c,E9 i=some (.st c)->∀q∈c,∀k∈Aw q,S k)(hdd:∀d,o.dst=some d->hp d=E9 d)(hNN:∀i,N<=i->hp i=E9 i)(hK:∀v C5 Hq,UH N S o.dst hp E9 C5 Hq->Rel (K ⟨Cd tm o.dst v,C5⟩) (K' ⟨Cd tm' o.dst v,Hq⟩)):Rel (JX C P N call ⟨tm,hp⟩ o f c K) (JX C P N call ⟨tm',E9⟩ o f c K'):=by
 unfold JX;simp only[Oo];refine RU hn hS hp_ hc fun vs m x l hm=>Bc hn fun hb=>WY hn fun rv ro=>KC hn fun ws bs OX=>Bc hn fun _=>?_;simp only[Gl] at hb;have hN:0<N:=Nat.lt_of_succ_le (Wu hb.1.2);rw[Acb hNN hN];by_cases Abo:∃i∈l.flatMap Jp.ids,hp i≠E9 i
 ·obtain⟨i,hi,Ge⟩:=Abo;obtain⟨h1,h2⟩:=hm i (Bu.2 (.inr hi));rcases hS i h2 with h|⟨h,_⟩
  ·exact absurd h Ge
  ·exact absurd h h1
 have hl:∀i∈l.flatMap Jp.ids,hp i≠none/\S i/\hp i=E9 i:=fun i hi=>⟨(hm i (Bu.2 (.inr hi))).1,(hm i (Bu.2 (.inr hi))).2,Classical.byContradiction fun h=>Abo ⟨i,hi,h⟩⟩;have hT0:UH N S o.dst hp E9 (AH (Ae hp m) x) (AH (Ae E9 m) x):=Ay6 fun i hi=>hm i (Bu.2 (.inl hi));refine AR hn hT0 hl fun h0 h1 bs' hT A50=>?_
 have Ako:∀q∈bs++bs',N<=q.1\/o.dst=some q.1:=by
  intro q hq;rcases Bu.1 hq with hq|hq
  ·obtain⟨j,hj⟩:=OX q hq;cases hd:o.dst with
   |none=>
    rw[hd] at hj;left;rw[hj];exact Nat.le_add_right _ _
   |some d=>
    rw[hd] at hj;change q.1=d+N*j at hj;cases j with
    |zero=>right;rw[hj];simp
    |succ j=>left;rw[hj,Nat.mul_add];omega
  ·obtain⟨k,hk⟩:=A50 q hq;left;rw[hk];unfold nid;exact Nat.le_mul_of_pos_right _ (by omega)
 have Yl:∀q∈bs++bs',h0 q.1=h1 q.1:=by
  intro q hq;refine hT.same q.1 ?_;rcases Ako q hq with h|h
  ·exact hNN _ h
  ·exact hdd _ h
 rw[WU Yl]
 exact Bc hn fun hb=>hK _ _ _ (PE hT hT Ako fun q hq=>by
  cases hz:hp q.1 with
  |none=>rfl
  |some c=>exact absurd ((Yl q hq).trans ((Ca hb).1 q.1 q.2 hq)) (hT.keep q.1 (by rw[hz];simp)))
theorem O7(hn:Rel none none){C:Jm}{call:Bi}{K:St->Option R}{K':St->Option R'}(Oo:∀x∈o.op.operands.toList,Cv tm x=Cv tm' x)(hS:∀i,EL o tm' E9 i->hp i=E9 i\/(hp i=none/\∀b,Rel none b))(hdd:∀d,o.dst=some d->hp d=E9 d)(hNN:∀i,N<=i->hp i=E9 i)(hK:∀v C5 Hq,UH N (EL o tm' E9) o.dst hp E9 C5 Hq->Rel (K ⟨Cd tm o.dst v,C5⟩) (K' ⟨Cd tm' o.dst v,Hq⟩)):Rel (CJ C P N call ⟨tm,hp⟩ o K) (CJ C P N call ⟨tm',E9⟩ o K'):=by
 unfold CJ;have hl:∀x∈o.op.operands.toList,∀i∈Cc (Cv tm' x),EL o tm' E9 i:=fun x hx i hi=>.inl ⟨x,hx,hi⟩;have NC:S6 o.op=false->∀x∈o.op.operands.toList,∀i∈Cc (Cv tm' x),∀c,E9 i=some (.st c)->∀q∈c,∀k∈Aw q,EL o tm' E9 k:=fun ha x hx i hi c hc q hq k hk=>.inr ⟨ha,i,c,⟨x,hx,hi⟩,hc,q,hq,hk⟩;generalize hLd:EL o tm' E9=S at *
 generalize hop:o.op=op at *
 split
 ·rename_i t x y;simp only[Oo x (by simp[Op.operands]),Oo y (by simp[Op.operands])];refine Bc hn fun hd=>Acr (N:=N) hn hS (fun i hi=>hl x (by simp[Op.operands]) i (Pg hi)) (fun i hi=>hl y (by simp[Op.operands]) i (Ia hi)) fun C5 Hq hh=>?_;have hd':=Option.isNone_iff_eq_none.1 hd;have:=hK .top C5 Hq (by rw[hd'];exact hh)
  rw[hd'] at this;exact this
 ·rename_i c
  have O4:∀x∈c.args.toList,x∈(Op.call c).operands.toList:=by
   intro x hx;simp only[Op.operands,Call.operands,Array.toList_append,Bu];exact .inr hx
  split
  ·rename_i hc;refine Ep hn fun d hd=>B6 hn fun x _ hx=>B6 hn fun y _ hy=>Hl hn (B6 hn fun _ _ _=>B6 hn fun _ _ _=>?_);subst hy;have hxm:=O4 x (by rw[hx];simp)
   have hym:=O4 y (by rw[hx];simp)
   simp only[Oo x hxm,Oo y hym];refine IA hn hS (hdd d hd) (fun i hi=>hl x hxm i (Ia hi)) (fun i hi=>hl y hym i (Ia hi)) fun v C5 Hq hh=>?_;have:=hK v C5 Hq (by rw[hd];exact hh N)
   rw[hd] at this;exact this
  ·rename_i hc;refine B6 hn fun x _ hx=>B6 hn fun y _ hy=>Hl hn (B6 hn fun _ _ _=>B6 hn fun _ _ _=>?_);subst hy;have hxm:=O4 x (by rw[hx];simp)
   have hym:=O4 y (by rw[hx];simp)
   simp only[Oo x hxm,Oo y hym];exact Ag9 hn hS (fun i hi=>hl x hxm i (Ia hi)) (fun i hi=>hl y hym i (Ia hi)) hK
  ·rename_i f hcf;refine Aby hn (List.map_congr_left fun x hx=>Oo x (O4 x hx)) hS (fun p hp i hi=>?_) (fun p hp i hi=>?_) hdd hNN hK
   ·obtain⟨x,hx,rfl⟩:=List.mem_map.1 hp;exact hl x (O4 x hx) i hi
   ·obtain⟨x,hx,rfl⟩:=List.mem_map.1 hp;exact NC (by simp only[S6,hcf]) x (O4 x hx) i hi
  ·exact hn
 ·exact hn
theorem PB(hn:Rel none none){C:Jm}{call:Bi}{K:St->Option R}{K':St->Option R'}(Oo:∀x∈o.op.operands.toList,Cv tm x=Cv tm' x)(hK:∀v C5,(∀i,hp i≠none->C5 i≠none)->Rel (K ⟨Cd tm o.dst v,C5⟩) (K' ⟨Cd tm' o.dst v,C5⟩)):Rel (CJ C P N call ⟨tm,hp⟩ o K) (CJ C P N call ⟨tm',hp⟩ o K'):=
 O7 hn Oo (fun _ _=>.inl rfl) (fun _ _=>rfl) (fun _ _=>rfl) fun v C5 Hq hT=>by
  have:C5=Hq:=funext fun i=>hT.same i rfl;subst this;exact hK v C5 hT.keep
end
section
variable {R:Type}{r:R}{C:Jm}{P:Program}{N:Nat}{call:Bi}{ops:Array Oper}{o x:Oper}{s:St}{K:St->Option R}
theorem Aa4{tm:Nat->PV}{hp C5:Nat->Option Bz}{tm':Nat->PV}{q:EH}(hm:K0 P o.op=false)(ht:∀t∈looks ops o,tm t=tm' t)(h:gE C P N call ops o ⟨tm,hp⟩=some q):gE C P N call ops o ⟨tm',C5⟩=some q:=
 FS (s:=⟨tm,hp⟩) (s':=⟨tm',C5⟩) ht (fun h=>by rw[hm] at h;cases h) h
theorem JZ{tm:Nat->PV}{hp:Nat->Option Bz}(hm:K0 P o.op=false)(h:Em C P N call ops o ⟨tm,hp⟩ K=some r):
  ∃v nw,gE C P N call ops o ⟨tm,hp⟩=some (v,[],nw)/\I2 N o.dst=true/\Cl hp nw=true/\(∀p∈nw,o.dst=some p.1)/\K ⟨Cd tm o.dst v,A5 hp nw⟩=some r:=by
 have hM:Xx C P o.op=false:=by
  cases hh:Xx C P o.op
  ·rfl
  ·rw[HC hh] at hm;cases hm
 rw[Pf (by simp[Jr,hM])] at h;cases e:gE C P N call ops o ⟨tm,hp⟩ with
 |none=>rw[e] at h;cases h
 |some q=>
  obtain⟨v,fz,nw⟩:=q;obtain⟨h1,h2⟩:=(AK e).1 hm;simp only at h1 h2;subst h1;rw[e] at h;obtain⟨hb,h⟩:=Au h;simp only[Gl] at hb;exact⟨v,nw,rfl,hb.1,hb.2,h2,h⟩
theorem SD{tm:Nat->PV}{hp:Nat->Option Bz}{v:PV}{nw:List (Nat × Bz)}(hm:K0 P o.op=false)(e:gE C P N call ops o ⟨tm,hp⟩=some (v,[],nw))(hd:I2 N o.dst=true)(ha:Cl hp nw=true)(h:K ⟨Cd tm o.dst v,A5 hp nw⟩=some r):Em C P N call ops o ⟨tm,hp⟩ K=some r:=by
 have hM:Xx C P o.op=false:=by
  cases hh:Xx C P o.op
  ·rfl
  ·rw[HC hh] at hm;cases hm
 rw[Pf (by simp[Jr,hM]),e];show At _ _=_;have ha':Cl hp nw=true:=ha;rw[hd,ha'];exact h
theorem Rl{hp:Nat->Option Bz}{nw:List (Nat × Bz)}(ha:Cl hp nw=true){i:Nat}(hi:∀p∈nw,p.1≠i):A5 hp nw i=hp i:=
 (F9 (Ca ha).2).2 i fun b hb=>hi _ hb rfl
theorem Aow{hp C5:Nat->Option Bz}{nw:List (Nat × Bz)}(ha:Cl hp nw=true){g:Nat->Option Bz}(h1:∀i,(∀p∈nw,p.1≠i)->g i=C5 i)(h2:∀i,(∃p∈nw,p.1=i)->g i=A5 hp nw i)(ha':Cl C5 nw=true):g=A5 C5 nw:=by
 funext i
 by_cases h:∃p∈nw,p.1=i
 ·rw[h2 i h];obtain⟨⟨j,b⟩,hp,rfl⟩:=h;rw[(F9 (Ca ha).2).1 j b hp,(F9 (Ca ha').2).1 j b hp]
 ·have h':∀p∈nw,p.1≠i:=fun p hp e=>h ⟨p,hp,e⟩;rw[h1 i h',Rl ha' h']
theorem Aup(ap:HY C P ops x o)(hx:Jr C P ops x s.tm=true)(h:Em C P N call ops x s (fun s1=>Em C P N call ops o s1 K)=some r):Em C P N call ops o s (fun s1=>Em C P N call ops x s1 K)=some r:=by
 have hm:K0 P o.op=false:=ap.mx (by unfold Jr at hx;simp only[Gl] at hx;exact hx.1)
 rw[Mc hx] at h;obtain⟨tm,hp⟩:=s;have look:∀v,∀t∈looks ops o,Cd tm x.dst v t=tm t:=fun v=>Gw ap.xo
 have h1:=O7 (P:=P) (N:=N) (o:=x) (tm:=tm) (tm':=tm) (hp:=hp) (E9:=hp) (K:=fun s1=>Em C P N call ops o s1 K) (K':=fun _=>none)
  (Rel:=fun (a:Option R)(_:Option R)=>a=some r->∃v nw,gE C P N call ops o ⟨tm,hp⟩=some (v,[],nw)/\I2 N o.dst=true/\(∀p∈nw,o.dst=some p.1)/\Cl hp nw=true) (fun h=>by cases h) (fun _ _=>rfl) (fun _ _=>.inl rfl) (fun _ _=>rfl) (fun _ _=>rfl) (fun v C5 _ hT h=>by
   obtain⟨u,nw,hu,hd,ha,hn,_⟩:=JZ hm h;refine⟨u,nw,Aa4 hm (look v) hu,hd,hn,Wp ha fun i b hi=>?_⟩;cases hh:hp i with
   |none=>rfl
   |some c=>exact absurd ((Ca ha).1 i b hi) (hT.keep i (by rw[hh];simp))) h
 obtain⟨v,nw,hv,hd,hn,ha⟩:=h1;refine SD hm hv hd ha ?_;have t2:∀t∈looks ops x,tm t=Cd tm o.dst v t:=fun t ht=>(Gw ap.ox t ht).symm;rw[Mc (by rw[<-Kl t2];exact hx)]
 refine O7 (P:=P) (N:=N) (o:=x) (tm:=tm) (tm':=Cd tm o.dst v) (hp:=hp) (E9:=A5 hp nw) (Rel:=fun (a b:Option R)=>a=some r->b=some r) (fun h=>by cases h) (Hv t2) (fun i _=>?_) (fun d hxd=>?_) (fun i hi=>(Rl ha fun p hp e=>by have:=Vz hd (hn p hp);omega).symm) (fun u C5 Hq hT h=>?_) h
 ·by_cases hi:∃p∈nw,p.1=i
  ·obtain⟨⟨j,b⟩,E9,rfl⟩:=hi;exact .inr ⟨(Ca ha).1 j b E9,fun _ h=>by cases h⟩
  ·exact .inl (Rl ha fun p hp e=>hi ⟨p,hp,e⟩).symm
 ·refine (Rl ha fun p hp e=>?_).symm;have:=hn p hp;rw[e] at this;exact ap.ne d hxd this
 ·obtain⟨v',nw',Uq,_,ha',_,h'⟩:=JZ hm h;have he:=Aa4 (C5:=hp) hm (look u) Uq;rw[hv] at he;simp only[Option.some.injEq,Prod.mk.injEq,true_and] at he;obtain⟨rfl,rfl⟩:=he
  have hh:Hq=A5 C5 nw:=by
   refine Aow ha (fun i hi=>?_) (fun i hi=>?_) ha'
   ·exact (hT.same i (Rl ha hi).symm).symm
   ·obtain⟨⟨j,b⟩,E9,rfl⟩:=hi;refine (hT.off j (Vz hd (hn _ E9)) (fun e=>ap.ne j e (hn _ E9)) (.inr ((Ca ha).1 j b E9))).2
  rw[hh,<-O2 ap.ne];exact h'
theorem As6(hw:Has C P o s)(ap:HY C P ops x o)(ho:Jr C P ops o s.tm=true)(h:Em C P N call ops x s (fun s1=>Em C P N call ops o s1 K)=some r):Em C P N call ops o s (fun s1=>Em C P N call ops x s1 K)=some r:=by
 have hm:K0 P x.op=false:=ap.mo (by unfold Jr at ho;simp only[Gl] at ho;exact ho.1)
 obtain⟨tm,hp⟩:=s;obtain⟨v,nw,hv,hd,ha,hn,h1⟩:=JZ hm h;have t1:∀t∈looks ops o,Cd tm x.dst v t=tm t:=Gw ap.xo;change Em C P N call ops o ⟨Cd tm x.dst v,A5 hp nw⟩ K=some r at h1;rw[Mc (by rw[Kl t1];exact ho)] at h1
 rw[Mc ho];have hMo:Xx C P o.op=true:=by unfold Jr at ho;simp only[Gl] at ho;exact ho.1
 have Aw6:∀i,EL o tm hp i->hp i≠none:=by
  rintro i (⟨y,hy,hi⟩|⟨Z8,id,c,⟨y,hy,hi⟩,hc,p,E9,hk⟩)
  ·exact hw.1 y hy i hi
  ·exact hw.2 hMo Z8 y hy id hi c hc p E9 i hk
 refine O7 (P:=P) (N:=N) (o:=o) (tm:=Cd tm x.dst v) (tm':=tm) (hp:=A5 hp nw) (E9:=hp) (Rel:=fun (a b:Option R)=>a=some r->b=some r) (fun h=>by cases h) (Hv t1) (fun i hi=>?_) (fun d hod=>?_) (fun i hi=>Rl ha fun p hp e=>by have:=Vz hd (hn p hp);omega) (fun u C5 Hq hT h=>?_) h1
 ·refine .inl (Rl ha fun p C5 e=>Aw6 i hi ?_);rw[<-e];exact (Ca ha).1 p.1 p.2 C5
 ·refine Rl ha fun p C5 e=>?_;have:=hn p C5;rw[e] at this;exact ap.ne d this hod
 ·have Vb:∀p∈nw,C5 p.1=A5 hp nw p.1/\Hq p.1=none:=by
   intro p hp2;have hno:=(Ca ha).1 p.1 p.2 hp2;have h3:=hT.off p.1 (Vz hd (hn p hp2)) (fun e=>ap.ne p.1 (hn p hp2) e) (.inl fun hL=>Aw6 _ hL hno);exact⟨h3.1,h3.2.trans hno⟩
  have ha':Cl Hq nw=true:=Wp ha fun i b hi=>(Vb (i,b) hi).2;refine SD hm (Aa4 hm (fun t ht=>(Gw ap.ox t ht).symm) hv) hd ha' ?_
  have hh:C5=A5 Hq nw:=by
   refine Aow ha (fun i hi=>?_) (fun i hi=>?_) ha'
   ·exact hT.same i (Rl ha hi)
   ·obtain⟨p,hp2,rfl⟩:=hi;exact (Vb p hp2).1
  rw[<-O2 ap.ne,<-hh];exact h
theorem A34(hw:Has C P o s)(ap:HY C P ops x o)(h:Em C P N call ops x s (fun s1=>Em C P N call ops o s1 K)=some r):Em C P N call ops o s (fun s1=>Em C P N call ops x s1 K)=some r:=by
 cases hx:Jr C P ops x s.tm
 ·cases ho:Jr C P ops o s.tm
  ·exact Ai4 hw ap.xo ap.ne ap.ox hx ho h
  ·exact As6 hw ap ho h
 ·exact Aup ap hx h
theorem Oy(h:Zl P o.op=true):Xx C P o.op=false:=by
 unfold Zl at h;split at h
 ·rename_i ho;rw[ho];rfl
 ·rename_i ho;rw[ho];rfl
 ·cases h
def TQ(P:Program)(ops:Array Oper)(o:Oper)(tm:Nat->PV):Prop:=Zl P o.op=true\/Ih ops o tm=some false
theorem EB{tm tm':Nat->PV}(h:∀t∈looks ops o,tm t=tm' t)(hl:TQ P ops o tm):TQ P ops o tm':=by
 rcases hl with hl|hl
 ·exact .inl hl
 ·exact .inr (by rw[<-Po h];exact hl)
theorem VY{tm:Nat->PV}(hl:TQ P ops o tm):Jr C P ops o tm=false:=by
 rcases hl with hl|hl
 ·simp[Jr,Oy hl]
 ·simp[Jr,hl]
theorem Ai5{q:EH}(hl:TQ P ops o s.tm)(h:gE C P N call ops o s=some q):q.2.1=[]/\q.2.2=[]:=by
 unfold gE at h;split at h
 ·cases h
 ·rename_i hv
  have hl:Zl P o.op=true:=by
   rcases hl with hl|hl
   ·exact hl
   ·rw[hv] at hl;cases hl
  rw[Oy hl] at h;have h:Ajt C P N call o s=some q:=h;unfold Zl at hl;split at hl
  ·rename_i t a ho;unfold Ajt RM at h;rw[ho] at h
   have:=YD (P:=P) (f:=rd s.hp) (f':=rd s.hp) (g:=Od s.hp) (g':=Od s.hp) (t:=t) (x:=Cv s.tm a) (Rel:=fun (a b:Option EH)=>∀q,a=some q->q.2.1=[]/\q.2.2=[])
    (K:=fun v=>some (v,[],[])) (K':=fun v=>some (v,[],[])) (fun _ h=>by cases h) (fun _ _=>.inl ⟨rfl,rfl⟩) (fun v q hq=>by cases hq;exact⟨rfl,rfl⟩)
   exact this q h
  ·rename_i src dst y ho;unfold Ajt RM at h;rw[ho] at h;simp only at h;unfold PS at h;split at hl
   ·rename_i hd;rw[hd] at h;simp only at h;split at h
    ·obtain⟨_,_,h⟩:=Ey h;obtain⟨_,_,h⟩:=Dt h;cases h;exact⟨rfl,rfl⟩
    ·split at h
     ·exact HZ (f:=Od s.hp) (f':=Od s.hp) (K':=fun _ _=>(none:Option EH)) (Rel:=fun (a _:Option EH)=>a=some q->q.2.1=[]/\q.2.2=[]) (fun h=>by cases h) (fun _ _=>.inl rfl) (fun n c h=>by
       obtain⟨_,h⟩:=Au h;obtain⟨_,_,h⟩:=Dt h;obtain⟨_,_,h⟩:=Dt h;cases h;exact⟨rfl,rfl⟩) h
     ·cases h
    ·cases h
   ·cases hl
  ·cases hl
 ·cases h;exact⟨rfl,rfl⟩
theorem Ak4{tm tm':Nat->PV}{hp:Nat->Option Bz}(h:∀t∈looks ops o,tm t=tm' t){i:Nat}(hi:EL o tm hp i):EL o tm' hp i:=by
 have he:=Hv (ops:=ops) (o:=o) h;rcases hi with⟨y,hy,hi⟩|⟨Z8,id,c,⟨y,hy,hi⟩,hc,q⟩
 ·exact .inl ⟨y,hy,by rw[<-he y hy];exact hi⟩
 ·exact .inr ⟨Z8,id,c,⟨y,hy,by rw[<-he y hy];exact hi⟩,hc,q⟩
theorem Av4{hp C5:Nat->Option Bz}{i:Nat}(h:C5 i=hp i):rd C5 i=rd hp i/\Od C5 i=Od hp i:=by unfold rd Od;rw[h];exact⟨rfl,rfl⟩
theorem KR{tm:Nat->PV}{hp:Nat->Option Bz}(hl:TQ P ops o tm)(h:Em C P N call ops o ⟨tm,hp⟩ K=some r):
  ∃v,gE C P N call ops o ⟨tm,hp⟩=some (v,[],[])/\I2 N o.dst=true/\K ⟨Cd tm o.dst v,hp⟩=some r:=by
 rw[Pf (VY hl)] at h;cases e:gE C P N call ops o ⟨tm,hp⟩ with
 |none=>rw[e] at h;cases h
 |some q=>
  obtain⟨v,fz,nw⟩:=q;obtain⟨h1,h2⟩:=Ai5 hl e;simp only at h1 h2;subst h1;subst h2;rw[e] at h;obtain⟨hb,h⟩:=Au h;simp only[Gl] at hb;exact⟨v,rfl,hb.1,h⟩
theorem PY{tm:Nat->PV}{hp:Nat->Option Bz}{v:PV}(hl:TQ P ops o tm)(e:gE C P N call ops o ⟨tm,hp⟩=some (v,[],[]))(hd:I2 N o.dst=true)(h:K ⟨Cd tm o.dst v,hp⟩=some r):Em C P N call ops o ⟨tm,hp⟩ K=some r:=by rw[Pf (VY hl),e];show At _ _=_;have ha:Cl hp []=true:=rfl;simp only[hd,ha,Bool.and_self];exact h
theorem Avo(hw:Has C P o s)(xo:∀d,x.dst=some d->d ∉ looks ops o)(ne:∀d,x.dst=some d->o.dst≠some d)(ox:∀d,o.dst=some d->d ∉ looks ops x)(hl:TQ P ops o s.tm)(Abm:∀y∈o.op.operands.toList,∀i∈Cc (Cv s.tm y),¬EL x s.tm s.hp i)(hx:Jr C P ops x s.tm=true)(h:Em C P N call ops x s (fun s1=>Em C P N call ops o s1 K)=some r):Em C P N call ops o s (fun s1=>Em C P N call ops x s1 K)=some r:=by
 rw[Mc hx] at h;obtain⟨tm,hp⟩:=s;have look:∀v,∀t∈looks ops o,Cd tm x.dst v t=tm t:=fun v=>Gw xo
 have back:∀{u:PV} {C5:Nat->Option Bz} {q:EH},(∀y∈o.op.operands.toList,∀i∈Cc (Cv tm y),C5 i=hp i)->gE C P N call ops o ⟨Cd tm x.dst u,C5⟩=some q->gE C P N call ops o ⟨tm,hp⟩=some q:=
  fun hh e=>FS (s:=⟨Cd tm x.dst _,_⟩) (s':=⟨tm,hp⟩) (look _) (fun _ y hy i hi=>.inl (Av4 (hh y hy i hi))) e
 have h1:=O7 (P:=P) (N:=N) (o:=x) (tm:=tm) (tm':=tm) (hp:=hp) (E9:=hp) (K:=fun s1=>Em C P N call ops o s1 K) (K':=fun _=>none)
  (Rel:=fun (a:Option R)(_:Option R)=>a=some r->∃v,gE C P N call ops o ⟨tm,hp⟩=some (v,[],[])/\I2 N o.dst=true) (fun h=>by cases h) (fun _ _=>rfl) (fun _ _=>.inl rfl) (fun _ _=>rfl) (fun _ _=>rfl) (fun v C5 _ hT h=>by
   obtain⟨u,hu,hd,_⟩:=KR (EB (fun t ht=>(look v t ht).symm) hl) h;exact⟨u,back (fun y hy i hi=>hT.far i (Abm y hy i hi) (hw.1 y hy i hi)) hu,hd⟩) h
 obtain⟨v,hv,hd⟩:=h1;refine PY hl hv hd ?_;have t2:∀t∈looks ops x,tm t=Cd tm o.dst v t:=fun t ht=>(Gw ox t ht).symm;rw[Mc (by rw[<-Kl t2];exact hx)]
 refine O7 (P:=P) (N:=N) (o:=x) (tm:=tm) (tm':=Cd tm o.dst v) (hp:=hp) (E9:=hp) (Rel:=fun (a b:Option R)=>a=some r->b=some r) (fun h=>by cases h) (Hv t2) (fun _ _=>.inl rfl) (fun _ _=>rfl) (fun _ _=>rfl) (fun u C5 Hq hT h=>?_) h;have e1:C5=Hq:=funext fun i=>hT.same i rfl;subst e1;obtain⟨v',Uq,_,h'⟩:=KR (EB (fun t ht=>(look u t ht).symm) hl) h;have he:=back (fun y hy i hi=>hT.far i (fun hR=>Abm y hy i hi (Ak4 (fun t ht=>(t2 t ht).symm) hR)) (hw.1 y hy i hi)) Uq;rw[hv] at he;simp only[Option.some.injEq,Prod.mk.injEq,and_true] at he;subst he;rw[<-O2 ne];exact h'
theorem Aux(xo:∀d,x.dst=some d->d ∉ looks ops o)(ne:∀d,x.dst=some d->o.dst≠some d)(ox:∀d,o.dst=some d->d ∉ looks ops x)(hl:TQ P ops x s.tm)(Abm:∀y∈x.op.operands.toList,∀i∈Cc (Cv s.tm y),¬EL o s.tm s.hp i)(ho:Jr C P ops o s.tm=true)(h:Em C P N call ops x s (fun s1=>Em C P N call ops o s1 K)=some r):Em C P N call ops o s (fun s1=>Em C P N call ops x s1 K)=some r:=by
 obtain⟨tm,hp⟩:=s;obtain⟨v,hv,hd,h1⟩:=KR hl h;have t1:∀t∈looks ops o,Cd tm x.dst v t=tm t:=Gw xo;rw[Mc (by rw[Kl t1];exact ho)] at h1
 rw[Mc ho];refine O7 (P:=P) (N:=N) (o:=o) (tm:=Cd tm x.dst v) (tm':=tm) (hp:=hp) (E9:=hp) (Rel:=fun (a b:Option R)=>a=some r->b=some r) (fun h=>by cases h) (Hv t1) (fun _ _=>.inl rfl) (fun _ _=>rfl) (fun _ _=>rfl) (fun u C5 Hq hT h=>?_) h1;have e1:C5=Hq:=funext fun i=>hT.same i rfl;subst e1;have t2:∀t∈looks ops x,tm t=Cd tm o.dst u t:=fun t ht=>(Gw ox t ht).symm;refine PY (EB t2 hl) (FS (s:=⟨tm,hp⟩) (s':=⟨Cd tm o.dst u,C5⟩) t2 (fun _ y hy i hi=>?_) hv) hd ?_
 ·have hi:i∈Cc (Cv tm y):=by rw[Hv t2 y hy];exact hi
  by_cases hn:hp i=none
  ·exact .inr ⟨Ahp hn,Pr hn⟩
  ·obtain⟨h3,h4⟩:=Av4 (hT.far i (Abm y hy i hi) hn);exact .inl ⟨h3.symm,h4.symm⟩
 ·rw[<-O2 ne];exact h
def WZ(P:Program)(x:Oper)(s s1:St):Prop:=(∀t,x.dst≠some t->s1.tm t=s.tm t)/\(∀i,s.hp i≠none->s1.hp i≠none)/\(K0 P x.op=false->∀i,s.hp i≠none->s1.hp i=s.hp i)
theorem Uv{tm:Nat->PV}{d:Option Tmp}{v:PV}{t:Nat}(h:d≠some t):Cd tm d v t=tm t:=by
 cases d with
 |none=>rfl
 |some d=>exact Ar _ _ (by rintro rfl;exact h rfl)
theorem SO{K':St->Option R}(h:Em C P N call ops x s K=some r)(hK:∀s1,WZ P x s s1->K s1=some r->K' s1=some r):Em C P N call ops x s K'=some r:=by
 cases hx:Jr C P ops x s.tm
 ·rw[Pf hx] at h ⊢;cases ex:gE C P N call ops x s with
  |none=>rw[ex] at h;cases h
  |some q=>
   rw[ex] at h;obtain⟨hb,h1⟩:=Au h;simp only[Gl] at hb;show At _ _=_;rw[hb.1,hb.2];refine hK _ ⟨fun t ht=>Uv ht,fun i hi=>Sy hb.2 hi,fun hm i hi=>?_⟩ h1;show A5 (Ae s.hp q.2.1) q.2.2 i=s.hp i;rw[Iu hb.2 hi,((AK ex).1 hm).1];simp
 ·rw[Mc hx] at h ⊢
  exact PB (P:=P) (N:=N) (o:=x) (tm:=s.tm) (tm':=s.tm) (hp:=s.hp) (Rel:=fun (a b:Option R)=>a=some r->b=some r) (fun h=>by cases h) (fun _ _=>rfl) (fun v C5 hh h=>hK _ ⟨fun t ht=>Uv ht,hh,fun hm=>by
   have hM:Xx C P x.op=true:=by unfold Jr at hx;simp only[Gl] at hx;exact hx.1
   rw[HC hM] at hm;cases hm⟩ h) h
theorem Has.keeps{s1:St}(h:Has C P o s)(ap:HY C P ops x o)(hk:WZ P x s s1):Has C P o s1:=by
 have hop:∀y∈o.op.operands.toList,Cv s1.tm y=Cv s.tm y:=fun y hy=>Hv (ops:=ops) (o:=o) (fun t ht=>hk.1 t fun hd=>ap.xo t hd ht) y hy;refine⟨fun y hy i hi=>?_,fun hM hA y hy i hi c hc p hp k hkk=>?_⟩
 ·rw[hop y hy] at hi;exact hk.2.1 i (h.1 y hy i hi)
 ·rw[hop y hy] at hi;have hi0:=h.1 y hy i hi;rw[hk.2.2 (ap.mo hM) i hi0] at hc;exact hk.2.1 k (h.2 hM hA y hy i hi c hc p hp k hkk)
theorem PN:∀(l:List Oper){s:St}{K:St->Option R},Has C P o s->(∀x∈l,HY C P ops x o)->Tj C P N call ops l s (fun s1=>Em C P N call ops o s1 K)=some r->Em C P N call ops o s (fun s1=>Tj C P N call ops l s1 K)=some r
 |[],_,_,_,_,h=>h
 |x::l,s,K,hw,ap,h=>by
  refine A34 hw (ap x (by simp)) ?_;refine SO (K:=fun s1=>Tj C P N call ops l s1 (fun s2=>Em C P N call ops o s2 K)) h fun s1 hk h1=>?_;exact PN l (hw.keeps (ap x (by simp)) hk) (fun y hy=>ap y (Rw _ hy)) h1
theorem AA:∀(l l':List Oper){s:St}{K:St->Option R},Tj C P N call ops (l++l') s K=Tj C P N call ops l s (fun s1=>Tj C P N call ops l' s1 K)
 |[],_,_,_=>rfl
 |x::l,l',s,K=>by
  show Em C P N call ops x s (fun s1=>Tj C P N call ops (l++l') s1 K)=Em C P N call ops x s (fun s1=>Tj C P N call ops l s1 _)
  congr 1
  funext s1
  exact AA l l'
theorem Akh{l l':List Oper}(hw:Has C P o s)(ap:∀x∈l,HY C P ops x o)(h:Tj C P N call ops (l++o::l') s K=some r):Em C P N call ops o s (fun s1=>Tj C P N call ops (l++l') s1 K)=some r:=by rw[AA] at h;have:=PN l hw ap h;refine SO this fun s1 _ h1=>?_;rw[AA];exact h1
end
open Go.RowKit
section
variable {R:Type}{r:R}{P:Program}{N:Nat}{w0:World}{X0:F6}{Y:Nat->Prop}{β β':Bt}{s:St}{a:Act}{w w':World}{o:Oper}{ops:Array Oper}{C:Jm}{call:Bi}{K:St->Option R}
theorem X7(h:B9 N w0 X0 Y β s a w){j d:Nat}(hd:(ops[j]?).bind (·.dst)=some d){v:Value}(ht:s.tm d=.sc v):yielded ops a.tmps j=match v with | .bool b=>some b|_=>none:=by
 have Ch:d<N:=by
  rcases K6 d N with h'|h'
  ·exact h'
  ·rw[h.tmo d h'] at ht;cases ht
 have hv:=h.tms d Ch;rw[ht] at hv;have hv:=Mj hv;have Adf:d<a.tmps.size:=by rw[h.tsz];exact Ch
 have he:a.tmps[d]?=some v:=by
  rw[Array.getElem?_eq_getElem Adf];simp[Adf] at hv;rw[hv]
 unfold yielded;rw[hd];simp only[Option.bind_some,he];cases v<;>rfl
theorem FC(h:B9 N w0 X0 Y β s a w){G:Vs}(Jz:MD P G w0 X0)(C6:∀f args res,call f args=some res->C7 G P f args res){i:Nat}(hi:ops[i]?=some o)(hk:Em C P N call ops o s K=some r):
  ∃s',K s'=some r/\∀(next:Act->World->Prop) (Q:Exit->Act->World->Prop),(∀a' w' β',B9 N w0 X0 Y β' s' a' w'->next a' w')->wpOp P ops Q i next a w:=by
 rw[OG] at hk
 have hw:∀b,Ih ops o s.tm=some b->Region.wanted o (yielded ops a.tmps)=b:=by
  intro b hb;unfold Ih at hb;unfold Region.wanted;cases hg:o.guard with
  |none=>rw[hg] at hb;simpa using hb
  |some q=>
   obtain⟨j,want⟩:=q;rw[hg] at hb;simp only at hb ⊢;cases hd:(ops[j]?).bind (·.dst) with
   |none=>rw[hd] at hb;cases hb
   |some d=>
    rw[hd] at hb;simp only at hb;split at hb
    ·rename_i b' ht;rw[X7 h hd ht];simp at hb;rw[<-hb];cases b'<;>cases want<;>rfl
    ·rename_i ht;rw[X7 h hd ht];simp at hb;rw[hb];rfl
    ·cases hb
 split at hk
 ·cases hk
 ·rename_i hv;obtain⟨s',hs',hn⟩:=SC h Jz C6 hk;refine⟨s',hs',fun next Q SS=>?_⟩;unfold wpOp;rw[hi];simp only[hw _ hv,if_true];exact .inl (hn next Q SS)
 ·rename_i hv;obtain⟨hd,hk⟩:=Au hk;refine⟨_,hk,fun next Q SS=>?_⟩;unfold wpOp;rw[hi];simp only[hw _ hv];refine SS _ _ β (h.put hd (Az.sc _) (by simp[Cc,Cn,Aw]))
theorem B9.known(h:B9 N w0 X0 Y β s a w){d:Nat}(hd:s.tm d=.ub):∃b,B9 N w0 X0 Y β ⟨Db s.tm d (.sc (.bool b)),s.hp⟩ a w:=by
 have Ch:d<N:=by
  rcases K6 d N with h'|h'
  ·exact h'
  ·rw[h.tmo d h'] at hd;cases hd
 have hu:=h.tms d Ch;rw[hd] at hu;have M7:Az w (Dd s.hp β Y) .ub (a.tmps.getD d undef):=hu
 obtain⟨b,hv⟩:∃b,a.tmps.getD d undef=.bool b:=by
  generalize a.tmps.getD d undef=x at M7;cases M7 with
  |ub b=>exact⟨b,rfl⟩
 refine⟨b,⟨h.dfr,h.tsz,fun i hi=>?_,fun i hi=>?_,h.box,h.inj,h.blt,fun i hi=>?_,h.wfB,h.ownd,h.rngB,h.pin,h.stp,h.Yx,h.Ylt,h.fr⟩⟩
 ·show Db s.tm d _ i=_;rw[Ar _ _ (by omega)];exact h.tmo i hi
 ·by_cases e:i=d
  ·subst e;show Eo _ _ _ (Db s.tm i _ i) _;rw[Ax,hv];exact Az.sc _
  ·show Eo _ _ _ (Db s.tm d _ i) _;rw[Ar _ _ e];exact h.tms i hi
 ·by_cases e:i=d
  ·subst e;show ∀id∈Cc (Db s.tm i _ i),_;rw[Ax];simp[Cc,Cn,Aw]
  ·show ∀id∈Cc (Db s.tm d _ i),_;rw[Ar _ _ e];exact h.wfT i hi
theorem XT{x y:Option R}(h:Ym x y=some r):x=some r/\y=some r:=by
 unfold Ym at h;split at h
 ·rename_i e;exact⟨h,e ▸ h⟩
 ·cases h
theorem Xl(h:B9 N w0 X0 Y β s a w){F:St->Option R}(hk:Agv ops o s F=some r):∃s',F s'=some r/\B9 N w0 X0 Y β s' a w:=by
 unfold Agv at hk;split at hk
 ·exact⟨s,hk,h⟩
 ·split at hk
  ·exact⟨s,hk,h⟩
  ·split at hk
   ·rename_i d _ ht;obtain⟨b,hb⟩:=h.known ht;obtain⟨h1,h2⟩:=XT hk;cases b
    ·exact⟨_,h2,hb⟩
    ·exact⟨_,h1,hb⟩
   ·exact⟨s,hk,h⟩
theorem HI{G:Vs}(Jz:MD P G w0 X0)(C6:∀f args res,call f args=some res->C7 G P f args res){Q:Exit->Act->World->Prop}(hQ:∀s' a' w' β',K s'=some r->B9 N w0 X0 Y β' s' a' w'->Q .normal a' w'):
  ∀(l:B5) (os:List Oper),l.length=os.length->(∀(k i:Nat),l[k]?=some i->ops[i]?=os[k]?)->∀{s:St} {a:Act} {w:World} {β:Bt},B9 N w0 X0 Y β s a w->Lj C P N call ops os s K=some r->wpOps P ops Q l a w
 |[],[],_,_,s,a,w,β,h,hk=>by
  show Q .normal a w;exact hQ s a w β hk h
 |[],_::_,hl,_,_,_,_,_,_,_=>by cases hl
 |_::_,[],hl,_,_,_,_,_,_,_=>by cases hl
 |i::l,o::os,hl,hi,s,a,w,β,h,hk=>by
  rw[wpOps_cons];obtain⟨s1,hk,h⟩:=Xl h hk;obtain⟨s',hs',hn⟩:=FC h Jz C6 (by simpa using hi 0 i rfl) hk;exact hn _ _ fun a' w' β' h'=>HI Jz C6 hQ l os (by simpa using hl) (fun k j hj=>by simpa using hi (k+1) j (by simpa using hj)) h' hs'
theorem B9.drew(h:B9 N w0 X0 Y β s a w):B9 N w0 X0 Y β s a { w with drawn:=w.drawn+1 }:=by
 have:=h.stepR (d:=none) (v:=.top) (nw:=[]) (val:=undef) (w':={ w with drawn:=w.drawn+1 }) (β':=β) rfl rfl
  ⟨rfl,rfl,rfl,⟨Dn _,fun _ _ _=>rfl,fun _ _=>Dn _⟩,fun _ _=>rfl,by simp,by simp,by simp,by simp,by simp,.top _,by simp[Cc,Cn,Aw]⟩
 exact this
theorem Aay(h:B9 N w0 X0 Y β s a w){G:Vs}(Jz:MD P G w0 X0)(C6:∀f args res,call f args=some res->C7 G P f args res){id:Nat}{Q:Exit->Act->World->Prop}(hk:Lj C P N call ops ops.toList s K=some r)(hQ:∀s' a' w' β',K s'=some r->B9 N w0 X0 Y β' s' a' w'->Q .normal a' w'):(Code.region id ops false).wp P Q a w:=by
 refine wp_region (HI Jz C6 hQ (List.range ops.size) ops.toList (by simp) (fun k i hi=>?_) h hk);rw[List.getElem?_range] at hi
 ·simp at hi;subst hi;simp
 ·rcases K6 k ops.size with h'|h'
  ·exact h'
  ·rw[List.getElem?_eq_none (by simpa using h')] at hi;cases hi
def Rp(n:Nat)(listed:Array Bool):B5:=(List.range n).filter fun i=> !listed.getD i true
def Ay4(ops:Array Oper)(listed:Array Bool)(o:Oper):Prop:=∀e∈o.after,Region.binds .any e=true->listed.getD e.on false=true
theorem testBit_or{a b j:Nat}:(a ||| b).testBit j=(a.testBit j||b.testBit j):=Nat.testBit_or a b j
theorem XP{acc:B5}{j:Nat}:∀(es:List Edge)(v:Nat),(es.foldl (fun s e=>bif Region.binds .any e then s ||| 2 ^ e.on ||| acc.getD e.on 0 else s) v).testBit j=true ->
  v.testBit j=true\/∃e∈es,Region.binds .any e=true/\(j=e.on\/(acc.getD e.on 0).testBit j=true)
 |[],v,h=>.inl h
 |e::es,v,h=>by
  rcases XP es _ h with h|⟨e',he',h⟩
  ·cases hb:Region.binds .any e<;>simp only[hb] at h
   ·exact .inl h
   ·simp only[cond_true,Nat.testBit_or,Bool.or_eq_true] at h;rcases h with (h|h)|h
    ·exact .inl h
    ·refine .inr ⟨e,by simp,hb,.inl ?_⟩;rw[Nat.testBit_two_pow] at h;exact (of_decide_eq_true h).symm
    ·exact .inr ⟨e,by simp,hb,.inr h⟩
  ·exact .inr ⟨e',by simp[he'],h⟩
theorem W8{listed:Array Bool}(hc:∀(j:Nat) oj,ops[j]?=some oj->listed.getD j false=true->Ay4 ops listed oj):
  ∀(rest done:List Oper) (acc:B5),ops.toList=done++rest->acc.length=done.length ->
   (∀(k:Nat) o,done[k]?=some o->Ay4 ops listed o->∀j,(acc.getD k 0).testBit j=true->listed.getD j false=true) ->
   ∀(k:Nat) o,ops[k]?=some o->Ay4 ops listed o->∀j,((Lz rest acc).getD k 0).testBit j=true->listed.getD j false=true
 |[],done,acc,he,_,h,k,o,ho,hf,j,hj=>by
  refine h k o ?_ hf j hj;rw[List.append_nil] at he;rw[<-he]
  simpa using ho
 |o'::rest,done,acc,he,hl,h,k,o,ho,hf,j,hj=>by
  refine W8 hc rest (done++[o']) _ (by rw[he];simp) (by simp[hl]) ?_ k o ho hf j hj
  intro k o ho hf j hj;rcases Nat.lt_trichotomy k done.length with Ch|heq|hgt
  ·rw[List.getElem?_append_left Ch] at ho;rw[List.getD_eq_getElem?_getD,List.getElem?_append_left (by omega),<-List.getD_eq_getElem?_getD] at hj;exact h k o ho hf j hj
  ·subst heq;simp at ho;subst ho;rw[<-hl] at hj;simp only[List.getD_eq_getElem?_getD,List.getElem?_append_right (Dn _),Nat.sub_self,List.getElem?_cons_zero,Option.getD_some] at hj
   have hj:(o'.after.toList.foldl (fun s e=>bif Region.binds .any e then s ||| 2 ^ e.on ||| acc.getD e.on 0 else s) 0).testBit j=true:=by
    simpa only[List.getD_eq_getElem?_getD] using hj
   rcases XP _ _ hj with h0|⟨e,hm,hb,h1⟩
   ·simp at h0
   ·have IQ:=hf e (by simpa using hm) hb;rcases h1 with h1|h1
    ·rw[h1];exact IQ
    ·cases hd:done[e.on]? with
     |none=>
      have:acc.getD e.on 0=0:=by
       rw[List.getD_eq_getElem?_getD,List.getElem?_eq_none (by rw[hl];exact List.getElem?_eq_none_iff.1 hd)]
       rfl
      rw[this] at h1;simp at h1
     |some oe=>
      have hoe:ops[e.on]?=some oe:=by
       rw[<-Array.getElem?_toList,he,List.getElem?_append_left (by
        rcases K6 e.on done.length with h'|h'
        ·exact h'
        ·rw[List.getElem?_eq_none h'] at hd;cases hd)]
       exact hd
      exact h e.on oe hd (hc e.on oe hoe IQ) j h1
  ·rw[List.getElem?_eq_none (by simp;omega)] at ho
   cases ho
theorem IE{bs:B5}:∀(l:List Oper)(n:Nat),OO C P ops bs l n=true->∀(k:Nat) o,l[k]?=some o->∀(j:Nat) x,ops[j]?=some x->j<n+k->OU C P ops x o=true->(bs.getD (n+k) 0).testBit j=true
 |[],_,_,k,o,ho,_,_,_,_,_=>by simp at ho
 |o'::l,n,h,k,o,ho,j,x,hx,hj,Y2=>by
  simp only[OO,Gl] at h;cases k with
  |zero=>
   simp at ho;subst ho
   have:=List.all_eq_true.1 h.1 (x,j) (by
    rw[List.mem_zipIdx_iff_getElem?]
    simpa using hx)
   simp only[Y2,Dx,Bool.or_false,Bool.or_eq_true,Bool.not_eq_true'] at this;rcases this with h'|h'
   ·have:Nat.blt j n=true:=Nat.ble_eq_true_of_le (by omega);rw[this] at h';cases h'
   ·exact h'
  |succ k=>
   have:=IE l (n+1) h.2 k o (by simpa using ho) j x hx (by omega) Y2
   rwa [show n+(k+1)=n+1+k by omega]
theorem Nc{n i:Nat}{listed:Array Bool}:i∈Rp n listed↔i<n/\listed.getD i true=false:=by unfold Rp;simp[List.mem_filter]
theorem FE{n i:Nat}{listed:Array Bool}(hi:i∈Rp n listed)(L8:listed.size=n):∃l1 l2,Rp n listed=l1++i::l2/\Rp n (listed.setIfInBounds i true)=l1++l2/\∀j∈l1,j<i:=by
 obtain⟨Ch,Oe⟩:=Nc.1 hi
 have hr:List.range n=List.range i++i::(List.range (n-i-1)).map (i+1 + ·):=by
  conv=>lhs;rw[show n=i+(1+(n-i-1)) by omega]
  rw[List.range_add,List.range_add];simp[Qp]
 refine⟨(List.range i).filter fun i=> !listed.getD i true,((List.range (n-i-1)).map (i+1 + ·)).filter fun i=> !listed.getD i true,?_,?_,fun j hj=>?_⟩
 ·unfold Rp;rw[hr,List.filter_append,List.filter_cons_of_pos (by rw[Oe];rfl)]
 ·unfold Rp;rw[hr,List.filter_append,List.filter_cons_of_neg (by simp[L8,Ch])]
  congr 1
  ·refine List.filter_congr fun j hj=>?_;rw[getD_set_ne true (by have:=List.mem_range.1 hj;omega)]
  ·refine List.filter_congr fun j hj=>?_;obtain⟨k,_,rfl⟩:=List.mem_map.1 hj;rw[getD_set_ne true (by omega)]
 ·exact List.mem_range.1 (List.mem_filter.1 hj).1
theorem An0(h:B9 N w0 X0 Y β s a w)(o:Oper):Has C P o s:=by refine⟨fun y _ i hi=>Hg h y i hi,fun _ _ y _ i hi c hc p hp k hk=>h.wfB i c hc p hp k hk⟩
theorem XK(Ap9:(ops.toList.zipIdx.all fun q=>q.1.after.toList.all fun e=> !Region.binds .any e||Nat.blt e.on q.2)=true){listed:Array Bool}(inv:HeadInv .any ops ops.size listed)(hr:Region.ready .any ops listed=[]):Rp ops.size listed=[]:=by
 cases hp:Rp ops.size listed with
 |nil=>rfl
 |cons i l=>
  exfalso;have hi:i∈Rp ops.size listed:=by rw[hp];simp
  obtain⟨Ch,Oe⟩:=Nc.1 hi;obtain⟨l1,l2,h1,_,h3⟩:=FE hi inv.size
  have IQ:l1=[]:=by
   cases l1 with
   |nil=>rfl
   |cons j l1=>
    rw[hp] at h1;simp at h1;have:=h3 j (by simp);omega
  subst IQ
  have A78:∀j,j<i->listed.getD j false=true:=by
   intro j hj;cases hh:listed.getD j false with
   |true=>rfl
   |false=>
    have:j∈Rp ops.size listed:=Nc.2 ⟨by omega,getD_in (by rw[inv.size];omega) hh⟩
    have hs:(Rp ops.size listed).Pairwise (· < ·):=List.Pairwise.filter _ List.pairwise_lt_range;rw[h1] at this hs;simp at this;rcases this with e|e
    ·omega
    ·have:=(List.pairwise_cons.1 hs).1 j e;omega
  have:i∈Region.ready .any ops listed:=by
   refine mem_ready.2 ⟨Oe,ops[i],Array.getElem?_eq_getElem Ch,fun e he hb=>A78 _ ?_⟩
   have:=List.all_eq_true.1 Ap9 (ops[i],i) (by
    rw[List.mem_zipIdx_iff_getElem?];simp[Ch])
   have:=List.all_eq_true.1 this e (Array.mem_toList_iff.2 he);simp only[hb,Dx,Bool.false_or] at this;exact Nat.lt_of_succ_le (Wu this)
  rw[hr] at this;simp at this
theorem YK{G:Vs}(Jz:MD P G w0 X0)(C6:∀f args res,call f args=some res->C7 G P f args res)(hok:QY C P ops=true){Q:Exit->Act->World->Prop}(hQ:∀s' a' w' β',K s'=some r->B9 N w0 X0 Y β' s' a' w'->Q .normal a' w'):
  ∀(fuel:Nat) {listed:Array Bool} {s:St} {a:Act} {w:World} {β:Bt},HeadInv .any ops ops.size listed->(Rp ops.size listed).length=fuel->B9 N w0 X0 Y β s a w->Tj C P N call ops ((Rp ops.size listed).filterMap (ops[·]?)) s K=some r->wpAny P .any ops Q fuel listed a w:=by
 unfold QY at hok;simp only[Gl] at hok;obtain⟨Ap9,Ayi⟩:=hok;intro fuel
 induction fuel with
 |zero=>
  intro listed s a w β inv hf h hk;have hp:=List.eq_nil_of_length_eq_zero hf;rw[hp] at hk;refine⟨?_,hQ s a w β hk h⟩;cases hr:Region.ready .any ops listed with
  |nil=>rfl
  |cons i l=>
   exfalso;have hi:i∈Region.ready .any ops listed:=by rw[hr];simp
   obtain⟨Oe,o,ho,_⟩:=mem_ready.1 hi;have:i∈Rp ops.size listed:=Nc.2 ⟨(Array.getElem?_eq_some_iff.1 ho).1,Oe⟩;rw[hp] at this;simp at this
 |succ fuel ih=>
  intro listed s a w β inv hf h hk;refine⟨fun hr=>?_,fun i hi=>?_⟩
  ·rw[XK Ap9 inv hr] at hf;cases hf
  ·obtain⟨Oe,o,ho,Xu⟩:=mem_ready.1 hi;have Ch:i<ops.size:=(Array.getElem?_eq_some_iff.1 ho).1;obtain⟨l1,l2,h1,h2,h3⟩:=FE (Nc.2 ⟨Ch,Oe⟩) inv.size;rw[h1,List.filterMap_append,List.filterMap_cons_some ho] at hk
   have Z8:∀x∈l1.filterMap (ops[·]?),HY C P ops x o:=by
    intro x hx;obtain⟨j,hj,hxj⟩:=List.mem_filterMap.1 hx;refine Ap4 ?_;cases Y2:OU C P ops x o with
    |false=>rfl
    |true=>
     exfalso;have TN:=IE ops.toList 0 Ayi i o (by simpa using ho) j x hxj (by have:=h3 j hj;omega) Y2
     rw[Cu] at TN;have hjl:=W8 (listed:=listed) (fun j oj hj hl=>inv.closed j oj hj hl) ops.toList [] [] (by simp) rfl (by simp) i o ho Xu j TN;have:j∈Rp ops.size listed:=by rw[h1];simp[hj]
     have:=getD_both (Nc.1 this).2;rw[hjl] at this;cases this
   obtain⟨s',hs',hn⟩:=FC h Jz C6 ho (Akh (An0 h o) Z8 hk);refine hn _ _ fun a' w' β' h'=>ih (inv.set hi Ch) ?_ h' ?_
   ·rw[h2];rw[h1] at hf;simp at hf ⊢;omega
   ·rw[h2,List.filterMap_append];exact hs'
theorem Wk(h:B9 N w0 X0 Y β s a w){G:Vs}(Jz:MD P G w0 X0)(C6:∀f args res,call f args=some res->C7 G P f args res)(hm:P.follows .mixedOrders=true)(hok:QY C P ops=true){Q:Exit->Act->World->Prop}(hk:Tj C P N call ops ops.toList s K=some r)(hQ:∀s' a' w' β',K s'=some r->B9 N w0 X0 Y β' s' a' w'->Q .normal a' w'):wpAny P .any ops Q ops.size (Array.replicate ops.size false) a { w with drawn:=w.drawn+1 }:=by
 have hp:Rp ops.size (Array.replicate ops.size false)=List.range ops.size:=by
  unfold Rp;refine List.filter_eq_self.2 fun i hi=>?_;have:=List.mem_range.1 hi;simp[this]
 refine YK (C:=C) Jz C6 hok hQ ops.size ⟨by simp,fun j oj _ hl=>(by rw[getD_replicate_false] at hl;cases hl),fun t ht ht'=>by omega⟩ (by rw[hp];simp) h.drew ?_
 rw[hp]
 have:(List.range ops.size).filterMap (ops[·]?)=ops.toList:=by
  refine List.ext_getElem? fun k=>?_
  have:∀(n:Nat),n<=ops.size->(List.range n).filterMap (ops[·]?)=ops.toList.take n:=by
   intro n
   induction n with
   |zero=>intro _;rfl
   |succ n ih=>
    intro hn;rw[List.range_succ,List.filterMap_append,ih (by omega),List.take_add_one]
    congr 1
    have:ops[n]?=some ops[n]:=Array.getElem?_eq_getElem (by omega);simp[this]
  rw[this ops.size (Dn _)]
  congr 1
  exact I9 (by simp)
 rw[this];exact hk
theorem YH(h:B9 N w0 X0 Y β s a w){G:Vs}(Jz:MD P G w0 X0)(C6:∀f args res,call f args=some res->C7 G P f args res)(hm:P.follows .mixedOrders=true)(hok:QY C P ops=true){id:Nat}{Q:Exit->Act->World->Prop}(hk:Tj C P N call ops ops.toList s K=some r)(hQ:∀s' a' w' β',K s'=some r->B9 N w0 X0 Y β' s' a' w'->Q .normal a' w'):(Code.region id ops true).wp P Q a w:=
 wp_region_any hm (Wk h Jz C6 hm hok hk hQ)
end
end
section
open Go.RowKit
section
variable {R R':Type}{Rel:Option R->Option R'->Prop}{P:Program}{N:Nat}{tm tm':Nat->PV}{hp E9:Nat->Option Bz}{o:Oper}
theorem Al3(hn:Rel none none){C:Jm}{call:Bi}{K:St->Option R}{K':St->Option R'}(Z8:S6 o.op=true)(Oo:∀x∈o.op.operands.toList,Cv tm x=Cv tm' x)(hS:∀i,EL o tm' E9 i->hp i=E9 i\/(hp i=none/\∀b,Rel none b))(hdd:∀d,o.dst=some d->hp d=E9 d)(hK:∀v C5 Hq,(∀M,UH M (EL o tm' E9) o.dst hp E9 C5 Hq)->Rel (K ⟨Cd tm o.dst v,C5⟩) (K' ⟨Cd tm' o.dst v,Hq⟩)):Rel (CJ C P N call ⟨tm,hp⟩ o K) (CJ C P N call ⟨tm',E9⟩ o K'):=by
 unfold CJ;have hl:∀x∈o.op.operands.toList,∀i∈Cc (Cv tm' x),EL o tm' E9 i:=fun x hx i hi=>.inl ⟨x,hx,hi⟩;generalize hLd:EL o tm' E9=S at *
 generalize hop:o.op=op at *
 unfold S6 at Z8;split at Z8
 ·rename_i c
  have O4:∀x∈c.args.toList,x∈(Op.call c).operands.toList:=by
   intro x hx;simp only[Op.operands,Call.operands,Array.toList_append,Bu];exact .inr hx
  split at Z8
  ·rename_i hc;simp only[hc];refine Ep hn fun d hd=>B6 hn fun x _ hx=>B6 hn fun y _ hy=>Hl hn (B6 hn fun _ _ _=>B6 hn fun _ _ _=>?_);subst hy;have hxm:=O4 x (by rw[hx];simp)
   have hym:=O4 y (by rw[hx];simp)
   simp only[Oo x hxm,Oo y hym];refine IA hn hS (hdd d hd) (fun i hi=>hl x hxm i (Ia hi)) (fun i hi=>hl y hym i (Ia hi)) fun v C5 Hq hh=>?_;have:=hK v C5 Hq (by rw[hd];exact hh)
   rw[hd] at this;exact this
  ·cases Z8
 ·cases Z8
theorem Vv{C:Jm}{call:Bi}(Z8:S6 o.op=true)(Oo:∀x∈o.op.operands.toList,Cv tm x=Cv tm' x)(hS:∀i,EL o tm' E9 i->hp i=E9 i)(hdd:∀d,o.dst=some d->hp d=E9 d){s1:St}(h:CJ C P N call ⟨tm,hp⟩ o some=some s1):∃v C5 Hq,s1=⟨Cd tm o.dst v,C5⟩/\CJ C P N call ⟨tm',E9⟩ o some=some ⟨Cd tm' o.dst v,Hq⟩/\∀M,UH M (EL o tm' E9) o.dst hp E9 C5 Hq:=by
 have:=Al3 (P:=P) (N:=N) (C:=C) (call:=call) (o:=o) (tm:=tm) (tm':=tm') (hp:=hp) (E9:=E9) (K:=some) (K':=some)
  (Rel:=fun (a b:Option St)=>∀s1,a=some s1->∃v C5 Hq,s1=⟨Cd tm o.dst v,C5⟩/\b=some ⟨Cd tm' o.dst v,Hq⟩/\∀M,UH M (EL o tm' E9) o.dst hp E9 C5 Hq) (fun _ h=>by cases h) Z8 Oo (fun i hi=>.inl (hS i hi)) hdd
  (fun v C5 Hq hT s1 h=>by cases h;exact⟨v,C5,Hq,rfl,rfl,hT⟩)
 exact this s1 h
end
section
variable {R R':Type}{r:R}{r':R'}{C:Jm}{P:Program}{N:Nat}{call:Bi}{ops:Array Oper}{o x:Oper}{s s1 s2:St}{K:St->Option R}
theorem Zs{tm:Nat->PV}(h:Jr C P ops o tm=true):Xx C P o.op=true:=by unfold Jr at h;simp only[Gl] at h;exact h.1
theorem YY(h:S6 o.op=true):Xx C P o.op=true:=by
 unfold S6 at h;split at h
 ·rename_i c hc;rw[hc];split at h
  ·rename_i hcc;simp only[Xx,hcc];exact h
  ·cases h
 ·cases h
theorem Sc(h:Em C P N call ops x s K=some r):∃s1,Em C P N call ops x s some=some s1/\WZ P x s s1/\(Zl P x.op=true->s1.hp=s.hp)/\K s1=some r:=by
 cases hx:Jr C P ops x s.tm
 ·rw[Pf hx] at h ⊢;cases ex:gE C P N call ops x s with
  |none=>rw[ex] at h;cases h
  |some q=>
   rw[ex] at h;obtain⟨hb,h1⟩:=Au h;simp only[Gl] at hb;refine⟨_,?_,⟨fun t ht=>Uv ht,fun i hi=>Sy hb.2 hi,fun hm i hi=>?_⟩,fun hl=>?_,h1⟩
   ·show At _ _=_;rw[hb.1,hb.2];rfl
   ·show A5 (Ae s.hp q.2.1) q.2.2 i=s.hp i;rw[Iu hb.2 hi,((AK ex).1 hm).1];simp
   ·show A5 (Ae s.hp q.2.1) q.2.2=s.hp;obtain⟨h1,h2⟩:=Ai5 (.inl hl) ex;rw[h1,h2]
    funext i
    show Ae s.hp [] i=_;rw[Cp];simp
 ·rw[Mc hx] at h ⊢
  exact PB (P:=P) (N:=N) (o:=x) (tm:=s.tm) (tm':=s.tm) (hp:=s.hp) (K':=some) (Rel:=fun (a:Option R) (b:Option St)=>a=some r->∃s1,b=some s1/\WZ P x s s1/\(Zl P x.op=true->s1.hp=s.hp)/\K s1=some r) (fun h=>by cases h) (fun _ _=>rfl) (fun v C5 hh h=>⟨_,rfl,⟨fun t ht=>Uv ht,hh,fun hm=>(by
   rw[HC (Zs hx)] at hm;cases hm)⟩,fun hl=>(by
   have:=Zs hx;rw[Oy hl] at this;cases this),h⟩) h
theorem BE{K':St->Option R'}(h:Em C P N call ops x s some=some s1)(hk:K' s1=some r'):Em C P N call ops x s K'=some r':=by
 cases hx:Jr C P ops x s.tm
 ·rw[Pf hx] at h ⊢;cases ex:gE C P N call ops x s with
  |none=>rw[ex] at h;cases h
  |some q=>
   rw[ex] at h;obtain⟨hb,h1⟩:=Au h;show At _ _=_;rw[hb];cases h1;exact hk
 ·rw[Mc hx] at h ⊢;exact PB (P:=P) (N:=N) (o:=x) (tm:=s.tm) (tm':=s.tm) (hp:=s.hp) (K:=some) (Rel:=fun (a:Option St) (b:Option R')=>a=some s1->b=some r') (fun h=>by cases h) (fun _ _=>rfl) (fun v C5 hh h=>by cases h;exact hk) h
theorem Aat{d:Nat}{t tx:TypeId}{b y:PV}(h:Ty P N s d t tx b y K=some r):s.hp d=none:=by
 unfold Ty at h;split at h
 ·obtain⟨_,h⟩:=Au h;cases hI:GP P tx
  ·rw[hI,cond_false] at h;refine KG (P:=P) (tm:=s.tm) (tm':=s.tm) (hp:=s.hp) (E9:=s.hp) (S:=fun _=>True) (K':=fun _ _=>(none:Option R)) (Rel:=fun (a:Option R) (_:Option R)=>a=some r->s.hp d=none) (fun h=>by cases h) (fun _ _=>.inl rfl) (fun _ _=>trivial) (fun m new h=>?_) h;split at h
   ·split at h
    ·obtain⟨hb,_⟩:=Au h;simp only[Gl,Option.isNone_iff_eq_none] at hb;simp only[hb]
    ·cases h
   ·obtain⟨_,_,_,h,_⟩:=H3 h;obtain⟨hb,_⟩:=Au h;simp only[Gl,Option.isNone_iff_eq_none] at hb;simp only[hb]
  ·rw[hI,cond_true] at h;unfold Y7 at h;obtain⟨_,_,_,h⟩:=Eh h;obtain⟨_,_,_,h,_⟩:=H3 h;obtain⟨hb,_⟩:=Au h;simp only[Gl,Option.isNone_iff_eq_none] at hb;simp only[hb]
 ·cases h
theorem Asw(hw:Has C P o s)(hwx:∀y∈x.op.operands.toList,∀i∈Cc (Cv s.tm y),s.hp i≠none)(xo:∀d,x.dst=some d->d ∉ looks ops o)(ne:∀d,x.dst=some d->o.dst≠some d)(ox:∀d,o.dst=some d->d ∉ looks ops x)(Ee:S6 x.op=true)(hao:S6 o.op=true)(Abm:∀i,EL x s.tm s.hp i->¬EL o s.tm s.hp i)(hx:Jr C P ops x s.tm=true)(ho:Jr C P ops o s.tm=true)(h:Em C P N call ops x s (fun s1=>Em C P N call ops o s1 K)=some r):Em C P N call ops o s (fun s1=>Em C P N call ops x s1 K)=some r:=by
 obtain⟨tm,hp⟩:=s;obtain⟨s1,e1,_,_,h⟩:=Sc h;obtain⟨s2,e2,_,_,h⟩:=Sc h;rw[Mc hx] at e1
 have hSx:∀i,EL x tm hp i->hp i≠none:=by
  rintro i (⟨y,hy,hi⟩|⟨Z8,_⟩)
  ·exact hwx y hy i hi
  ·rw[Ee] at Z8;cases Z8
 have hSo:∀i,EL o tm hp i->hp i≠none:=by
  rintro i (⟨y,hy,hi⟩|⟨Z8,_⟩)
  ·exact hw.1 y hy i hi
  ·rw[hao] at Z8;cases Z8
 obtain⟨vx,hpx,Au0,rfl,e1',T1⟩:=Vv Ee (fun _ _=>rfl) (fun _ _=>rfl) (fun _ _=>rfl) e1
 have:Au0=hpx:=by
  rw[e1] at e1';injection e1' with q;injection q with _ q;exact q.symm
 subst this;have t1:∀t∈looks ops o,Cd tm x.dst vx t=tm t:=Gw xo;have t1o:=Hv (ops:=ops) (o:=o) t1;rw[Mc (by rw[Kl t1];exact ho)] at e2
 have hRo:∀i,EL o (Cd tm x.dst vx) Au0 i↔EL o tm hp i:=by
  intro i;constructor
  ·rintro (⟨y,hy,hi⟩|⟨Z8,_⟩)
   ·exact .inl ⟨y,hy,by rw[<-t1o y hy];exact hi⟩
   ·rw[hao] at Z8;cases Z8
  ·rintro (⟨y,hy,hi⟩|⟨Z8,_⟩)
   ·exact .inl ⟨y,hy,by rw[t1o y hy];exact hi⟩
   ·rw[hao] at Z8;cases Z8
 have Aw8:∀{s:St} {o:Oper} {s2:St},S6 o.op=true->CJ C P N call s o some=some s2->∀d,o.dst=some d->s.hp d=none:=by
  intro s o s2 hao e d hd;unfold CJ at e;unfold S6 at hao;split at hao
  ·rename_i c hc;rw[hc] at e;simp only at e;split at hao
   ·rename_i hcc;rw[hcc] at e;simp only[hd,Gi] at e;obtain⟨_,_,_,e⟩:=Bj e;obtain⟨_,_,_,e⟩:=Bj e;obtain⟨_,e⟩:=El e;obtain⟨_,_,_,e⟩:=Bj e;obtain⟨_,_,_,e⟩:=Bj e;exact Aat e
   ·cases hao
  ·cases hao
 have A7r:∀d,o.dst=some d->hp d=none:=by
  intro d hd;have h0:=Aw8 hao e2 d hd;cases hh:hp d with
  |none=>rfl
  |some b=>exact absurd h0 ((T1 0).keep d (by rw[hh];simp))
 have A3h:=Aw8 Ee e1;simp only at A3h;have hoS:∀d,o.dst=some d->¬EL x tm hp d:=fun d hd hR=>hSx d hR (A7r d hd);have hxS:∀d,x.dst=some d->¬EL o tm hp d:=fun d hd hR=>hSo d hR (A3h d hd);obtain⟨vo,A7u,hpo,rfl,e3,T2⟩:=Vv (tm':=tm) (E9:=hp) hao t1o (fun i hi=>(T1 0).far i (fun hR=>Abm i hR hi) (hSo i hi)) (fun d hd=>((T1 (d+1)).off d (by omega) (fun e=>ne d e hd) (.inl (hoS d hd))).1) e2;obtain⟨vo',A72,Ac2,e3a,e3b,T3⟩:=Vv (tm':=tm) (E9:=hp) hao (fun _ _=>rfl) (fun _ _=>rfl) (fun _ _=>rfl) e3;rw[e3] at e3b
 have A5e:A72=hpo/\Ac2=hpo:=by
  injection e3a with _ q1;injection e3b with q2;injection q2 with _ q3;exact⟨q1.symm,q3.symm⟩
 obtain⟨rfl,rfl⟩:=A5e;have t2:∀t∈looks ops x,tm t=Cd tm o.dst vo t:=fun t ht=>(Gw ox t ht).symm;have t2x:=Hv (ops:=ops) (o:=x) t2
 have hRx:∀i,EL x (Cd tm o.dst vo) Ac2 i↔EL x tm hp i:=by
  intro i;constructor
  ·rintro (⟨y,hy,hi⟩|⟨Z8,_⟩)
   ·exact .inl ⟨y,hy,by rw[t2x y hy];exact hi⟩
   ·rw[Ee] at Z8;cases Z8
  ·rintro (⟨y,hy,hi⟩|⟨Z8,_⟩)
   ·exact .inl ⟨y,hy,by rw[<-t2x y hy];exact hi⟩
   ·rw[Ee] at Z8;cases Z8
 obtain⟨vx2,A7y,A60,e4a,e4,T4⟩:=Vv (tm':=Cd tm o.dst vo) (E9:=Ac2) Ee t2x (fun i hi=>((T3 0).far i (Abm i ((hRx i).1 hi)) (hSx i ((hRx i).1 hi))).symm) (fun d hd=>((T3 (d+1)).off d (by omega) (fun e=>ne d hd e) (.inl (hxS d hd))).1.symm) e1
 have hvx:Cd tm x.dst vx=Cd tm x.dst vx2/\Au0=A7y:=by
  injection e4a with q1 q2;exact⟨q1,q2⟩
 obtain⟨hvx,rfl⟩:=hvx;obtain⟨_,XE,OD,e5a,e5b,T5⟩:=Vv (tm':=Cd tm x.dst vx) (E9:=Au0) hao (fun _ _=>rfl) (fun _ _=>rfl) (fun _ _=>rfl) e2;have hq:XE=A7u:=by injection e5a with _ q1;exact q1.symm
 subst hq;obtain⟨_,hu1,hu2,e6a,e6b,T6⟩:=Vv (tm':=Cd tm o.dst vo) (E9:=Ac2) Ee (fun _ _=>rfl) (fun _ _=>rfl) (fun _ _=>rfl) e4;have hu:hu1=A60:=by injection e6a with _ q1;exact q1.symm
 subst hu
 have O4:XE=hu1:=by
  funext i
  by_cases hi:EL o tm hp i\/o.dst=some i
  ·have hxi:¬EL x tm hp i:=by
    rcases hi with hi|hi
    ·exact fun hR=>Abm i hR hi
    ·exact hoS i hi
   have hdi:x.dst≠some i:=by
    rcases hi with hi|hi
    ·exact fun e=>hxS i e hi
    ·exact fun e=>ne i e hi
   rw[(T2 0).same i ((T1 (i+1)).off i (by omega) hdi (.inl hxi)).1];exact ((T6 (i+1)).off i (by omega) hdi (.inl fun hR=>hxi ((hRx i).1 hR))).1.symm
  ·have hoi:¬EL o tm hp i:=fun e=>hi (.inl e);have hdi:o.dst≠some i:=fun e=>hi (.inr e);rw[((T5 (i+1)).off i (by omega) hdi (.inl fun hR=>hoi ((hRo i).1 hR))).1];exact (T4 0).same i ((T3 (i+1)).off i (by omega) hdi (.inl hoi)).1.symm
 refine BE (s1:=⟨Cd tm o.dst vo,Ac2⟩) (by rw[Mc ho];exact e3) ?_
 refine BE (s1:=⟨Cd (Cd tm o.dst vo) x.dst vx2,hu1⟩) (by rw[Mc (by rw[<-Kl t2];exact hx)];exact e4) ?_
 rw[<-O2 ne,<-hvx,<-O4];exact h
theorem GK(hM:Xx C P o.op=true){i:Nat}(h:EL o s.tm s.hp i):i∈Qy C P s o:=by
 unfold Qy;rw[hM];cases hA:S6 o.op
 ·simp only[Ll,Bool.and_self,cond_true,Bu];rcases h with⟨y,hy,hi⟩|⟨_,id,c,⟨y,hy,hi⟩,hc,p,hp,hk⟩
  ·exact .inl (List.mem_flatMap.2 ⟨y,hy,hi⟩)
  ·refine .inr (List.mem_flatMap.2 ⟨id,List.mem_flatMap.2 ⟨y,hy,hi⟩,?_⟩);rw[hc];exact List.mem_flatMap.2 ⟨p,hp,hk⟩
 ·simp only[Dx,Bool.and_false,cond_false,Bool.or_true,cond_true];rcases h with⟨y,hy,hi⟩|⟨hn,_⟩
  ·exact List.mem_flatMap.2 ⟨y,hy,hi⟩
  ·rw[hA] at hn;cases hn
theorem OQ(hl:Xx C P o.op=true\/Zl P o.op=true){y:Operand}(hy:y∈o.op.operands.toList){i:Nat}(h:i∈Cc (Cv s.tm y)):i∈Qy C P s o:=by
 rcases hl with hM|hl
 ·exact GK hM (.inl ⟨y,hy,h⟩)
 ·unfold Qy;rw[Oy hl,hl];exact List.mem_flatMap.2 ⟨y,hy,h⟩
theorem Abt(ht:∀t∈looks ops o,s1.tm t=s.tm t)(hh:Xx C P o.op=true->S6 o.op=false->∀y∈o.op.operands.toList,∀i∈Cc (Cv s.tm y),s1.hp i=s.hp i):Qy C P s1 o=Qy C P s o:=by
 have he:=Hv (ops:=ops) (o:=o) ht
 have hl:(o.op.operands.toList.flatMap fun y=>Cc (Cv s1.tm y))=o.op.operands.toList.flatMap fun y=>Cc (Cv s.tm y):=by
  have Axv:∀l:List Operand,(∀y∈l,Cv s1.tm y=Cv s.tm y)->(l.flatMap fun y=>Cc (Cv s1.tm y))=l.flatMap fun y=>Cc (Cv s.tm y):=by
   intro l
   induction l with
   |nil=>intro _;rfl
   |cons a l ih=>intro h;simp only[J7];rw[h a (by simp),ih fun y hy=>h y (by simp[hy])]
  exact Axv _ he
 unfold Qy;simp only[hl];cases hM:(Xx C P o.op && !S6 o.op)
 ·rfl
 ·simp only[cond_true];simp only[Gl,Bool.not_eq_true'] at hM
  congr 1
  have Axv:∀l:B5,(∀i∈l,s1.hp i=s.hp i)->(l.flatMap fun i=>match s1.hp i with|some (.st c)=>c.flatMap Aw|_=>[])=l.flatMap fun i=>match s.hp i with|some (.st c)=>c.flatMap Aw|_=>[]:=by
   intro l
   induction l with
   |nil=>intro _;rfl
   |cons a l ih=>intro h;simp only[J7];rw[h a (by simp),ih fun y hy=>h y (by simp[hy])]
  exact Axv _ fun i hi=>by
   obtain⟨y,hy,hi⟩:=List.mem_flatMap.1 hi;exact hh hM.1 hM.2 y hy i hi
theorem IM{a b:B5}(h:Akb a b=true){i:Nat}(ha:i∈a)(hb:i∈b):False:=by have:=List.all_eq_true.1 h i ha;have h2:b.any (Nat.beq i)=true:=List.any_eq_true.2 ⟨i,hb,Of i⟩;rw[h2] at this;cases this
theorem All{a b:B5}(h:Akb a b=true):Akb b a=true:=by
 refine List.all_eq_true.2 fun i hi=>?_;cases hc:a.any (Nat.beq i)
 ·rfl
 ·obtain⟨j,hj,e⟩:=List.any_eq_true.1 hc;rw[D4 e] at hi;exact (IM h hj hi).elim
theorem EU:Oj C P x o=Oj C P o x:=by unfold Oj;cases Xx C P x.op<;>cases Xx C P o.op<;>cases Zl P x.op<;>cases Zl P o.op<;>cases S6 x.op<;>cases S6 o.op<;>rfl
structure Qs(C:Jm)(P:Program)(ops:Array Oper)(x o:Oper):Prop where
 xo:∀d,x.dst=some d->d ∉ looks ops o
 ne:∀d,x.dst=some d->o.dst≠some d
 ox:∀d,o.dst=some d->d ∉ looks ops x
 me:Xk C P x o=false\/Oj C P x o=true
theorem Aj1(h:Aqh C P ops x o=false):Qs C P ops x o:=by
 unfold Aqh at h;simp only[Bool.or_eq_false_iff] at h;obtain⟨h1,h2⟩:=h;have hT:=h1;unfold Ap2 at h1;simp only[Bool.or_eq_false_iff] at h1
 have a1:OU C P ops x o=false\/Xk C P x o=true:=by
  cases hc:Xk C P x o
  ·left;unfold OU;unfold Xk at hc;simp only[Bool.or_eq_false_iff] at hc ⊢;exact⟨⟨⟨h1.1,h1.2⟩,hc.1⟩,hc.2⟩
  ·exact .inr rfl
 refine⟨fun d hd=>?_,fun d hd he=>?_,fun d hd=>?_,?_⟩
 ·have:=h1.1;simp only[hd,Bool.or_eq_false_iff] at this;exact Xb this.1
 ·have:=h1.1;simp only[hd,he,Bool.or_eq_false_iff] at this;rw[Of] at this;cases this.2
 ·have:=h1.2;simp only[hd] at this;exact Xb this
 ·cases hc:Xk C P x o
  ·exact .inl rfl
  ·rw[hc] at h2;right
   simpa using h2
theorem Qs.apart(ap:Qs C P ops x o)(h:Xk C P x o=false):HY C P ops x o:=by
 unfold Xk at h;simp only[Bool.or_eq_false_iff,Bool.and_eq_false_iff] at h;refine⟨ap.xo,ap.ne,ap.ox,fun hm=>?_,fun hm=>?_⟩
 ·rcases h.1 with h|h
  ·rw[hm] at h;cases h
  ·exact h
 ·rcases h.2 with h|h
  ·rw[hm] at h;cases h
  ·exact h
theorem Qs.same(ap:Qs C P ops x o)(hk:WZ P x s s1)(hl:Zl P x.op=true->s1.hp=s.hp)(hM:Xx C P o.op=true)(hA:S6 o.op=false){i:Nat}(hi:s.hp i≠none):s1.hp i=s.hp i:=by
 rcases ap.me with h|h
 ·exact hk.2.2 ((ap.apart h).mo hM) i hi
 ·unfold Oj at h;rw[hA] at h;simp only[Bool.and_false,Bool.or_false,Bool.or_eq_true,Gl] at h;rcases h with h|h
  ·have:=h.2;rw[Oy (C:=C) (P:=P) this] at hM;cases hM
  ·rw[hl h.2]
theorem Has.keepsS(h:Has C P o s)(ap:Qs C P ops x o)(hk:WZ P x s s1)(hl:Zl P x.op=true->s1.hp=s.hp):Has C P o s1:=by
 have hop:∀y∈o.op.operands.toList,Cv s1.tm y=Cv s.tm y:=fun y hy=>Hv (ops:=ops) (o:=o) (fun t ht=>hk.1 t fun hd=>ap.xo t hd ht) y hy;refine⟨fun y hy i hi=>?_,fun hM hA y hy i hi c hc p hp k hkk=>?_⟩
 ·rw[hop y hy] at hi;exact hk.2.1 i (h.1 y hy i hi)
 ·rw[hop y hy] at hi;rw[ap.same hk hl hM hA (h.1 y hy i hi)] at hc;exact hk.2.1 k (h.2 hM hA y hy i hi c hc p hp k hkk)
theorem Qs.symm(ap:Qs C P ops x o):Qs C P ops o x:=by
 refine⟨ap.ox,fun d hd he=>ap.ne d he hd,ap.xo,?_⟩;rcases ap.me with h|h
 ·left;unfold Xk at h ⊢;rw[Bool.or_comm];exact h
 ·right;rw[EU];exact h
theorem A3e(hw:Has C P o s)(hwx:Oj C P x o=true->∀i∈Qy C P s x,s.hp i≠none)(ap:Qs C P ops x o)(hd:Oj C P x o=true->Akb (Qy C P s x) (Qy C P s o)=true)(h:Em C P N call ops x s (fun s1=>Em C P N call ops o s1 K)=some r):Em C P N call ops o s (fun s1=>Em C P N call ops x s1 K)=some r:=by
 rcases ap.me with hm|hm
 ·exact A34 hw (ap.apart hm) h
 ·have hd:=hd hm;have hwx:=hwx hm;cases hx:Jr C P ops x s.tm
  ·cases ho:Jr C P ops o s.tm
   ·exact Ai4 hw ap.xo ap.ne ap.ox hx ho h
   ·have hMo:=Zs ho
    have hlx:TQ P ops x s.tm:=by
     cases hl:Zl P x.op
     ·right
      have hMx:Xx C P x.op=true:=by
       unfold Oj at hm;simp only[hl,Bool.and_false,Bool.or_false,Bool.or_eq_true,Gl] at hm;rcases hm with hm|hm
       ·exact hm.1
       ·exact YY hm.1
      cases hv:Ih ops x s.tm with
      |none=>
       exfalso;rw[Pf hx] at h;unfold gE at h;rw[hv] at h;cases h
      |some b=>
       cases b
       ·rfl
       ·unfold Jr at hx;rw[hMx,hv] at hx;cases hx
     ·exact .inl hl
    refine Aux ap.xo ap.ne ap.ox hlx (fun y hy i hi hR=>?_) ho h;refine IM hd (OQ ?_ hy hi) (GK hMo hR);unfold Oj at hm;simp only[Bool.or_eq_true,Gl] at hm;rcases hm with (hm|hm)|hm
    ·exact .inl hm.1
    ·exact .inr hm.2
    ·exact .inl (YY hm.1)
  ·have hMx:=Zs hx;cases ho:Jr C P ops o s.tm
   ·have hlo:TQ P ops o s.tm:=by
     cases hl:Zl P o.op
     ·right
      have hMo:Xx C P o.op=true:=by
       unfold Oj at hm;simp only[hl,Bool.and_false,Bool.false_or,Bool.or_eq_true,Gl] at hm;rcases hm with hm|hm
       ·exact hm.1
       ·exact YY hm.2
      cases hv:Ih ops o s.tm with
      |none=>
       exfalso;obtain⟨s1,_,hk,_,h⟩:=Sc h;have hv1:Ih ops o s1.tm=none:=by rw[Po (fun t ht=>hk.1 t fun hd=>ap.xo t hd ht)];exact hv
       rw[Pf (by unfold Jr;rw[hv1];cases Xx C P o.op<;>rfl)] at h
       unfold gE at h;rw[hv1] at h;cases h
      |some b=>
       cases b
       ·rfl
       ·unfold Jr at ho;rw[hMo,hv] at ho;cases ho
     ·exact .inl hl
    refine Avo hw ap.xo ap.ne ap.ox hlo (fun y hy i hi hR=>?_) hx h;refine IM hd (GK hMx hR) (OQ ?_ hy hi);unfold Oj at hm;simp only[Bool.or_eq_true,Gl] at hm;rcases hm with (hm|hm)|hm
    ·exact .inr hm.2
    ·exact .inl hm.1
    ·exact .inl (YY hm.2)
   ·have hMo:=Zs ho;unfold Oj at hm;simp only[Bool.or_eq_true,Gl] at hm;rcases hm with (hm|hm)|hm
    ·rw[Oy (C:=C) (P:=P) hm.2] at hMo;cases hMo
    ·rw[Oy (C:=C) (P:=P) hm.2] at hMx;cases hMx
    ·exact Asw hw (fun y hy i hi=>hwx i (OQ (.inl hMx) hy hi)) ap.xo ap.ne ap.ox hm.1 hm.2 (fun i h1 h2=>IM hd (GK hMx h1) (GK hMo h2)) hx ho h
theorem Ard{α:Type}(a b:α)(l:List α)(f:α->Bool):(a::b::l).all f=(b::a::l).all f:=by simp only[List.all_cons];cases f a<;>cases f b<;>rfl
theorem MA{bs:List B5}:∀(l:B5){dn dn':List (Nat × Oper × B5)} {s:St}{K:St->Option R},(∀f,dn.all f=dn'.all f)->Lh C P N call ops bs dn l s K=Lh C P N call ops bs dn' l s K
 |[],_,_,_,_,_=>rfl
 |i::l,dn,dn',s,K,h=>by
  unfold Lh;cases ops[i]? with
  |none=>rfl
  |some o=>
   simp only[Gi,h]
   congr 2
   funext s'
   exact MA l fun f=>by simp only[List.all_cons,h]
theorem SH{bs:B5}{i:Nat}(hi:ops[i]?=some o):(KW C P ops bs).getD i []=GC C P ops bs i o:=by unfold KW;rw[List.getD_eq_getElem?_getD,List.getElem?_map,List.getElem?_zipIdx,Array.getElem?_toList,hi];simp
theorem W9{bs:B5}{i j:Nat}:j∈GC C P ops bs i o↔∃x,ops[j]?=some x/\Oj C P x o=true/\(Nat.blt j i&&(bs.getD i 0).testBit j)=false/\(Nat.blt i j&&(bs.getD j 0).testBit i)=false:=by
 unfold GC;simp only[List.mem_map,List.mem_filter,Gl,Bool.not_eq_true',Prod.exists];constructor
 ·rintro⟨x,k,⟨hm,⟨h1,h2⟩,h3⟩,rfl⟩
  rw[List.mem_zipIdx_iff_getElem?] at hm;exact⟨x,by simpa using hm,h1,h2,h3⟩
 ·rintro⟨x,hx,h1,h2,h3⟩
  refine⟨x,j,⟨?_,⟨h1,h2⟩,h3⟩,rfl⟩;rw[List.mem_zipIdx_iff_getElem?]
  simpa using hx
theorem OR{sm:List B5}{i j:Nat}(h:j∈sm.getD i []):NP C P sm s i o=Qy C P s o:=by
 unfold NP;split
 ·rename_i e;rw[e] at h;simp at h
 ·rfl
theorem Arg{sm:List B5}{i:Nat}(h:sm.getD i []≠[]->Qy C P s1 o=Qy C P s o):NP C P sm s1 i o=NP C P sm s i o:=by
 unfold NP;split
 ·rfl
 ·rename_i e;exact h (by rw[e];simp)
theorem Aic{l:B5}{j:Nat}:l.any (Nat.beq j)=true↔j∈l:=by
 constructor
 ·intro h;obtain⟨k,hk,e⟩:=List.any_eq_true.1 h;rw[D4 e];exact hk
 ·intro h;exact List.any_eq_true.2 ⟨j,h,Of j⟩
theorem IC{bs:B5}{sm:List B5}(hsm:sm=KW C P ops bs){i:Nat}(hi:ops[i]?=some o){l':B5}:∀(l:B5){dn:List (Nat × Oper × B5)} {s:St}{K:St->Option R},Has C P o s ->
  (∀j∈l,j<i/\(bs.getD i 0).testBit j=false/\∀x,ops[j]?=some x->Qs C P ops x o)->Lh C P N call ops sm dn (l++i::l') s K=some r ->
  dn.all (UV C P sm s i o)=true/\Em C P N call ops o s (fun s1=>Lh C P N call ops sm ((i,o,NP C P sm s i o)::dn) (l++l') s1 K)=some r
 |[],dn,s,K,hw,_,h=>by
  simp only[PT] at h ⊢;unfold Lh at h;rw[hi] at h;simp only[Gi] at h;obtain⟨hb,h⟩:=Au h;simp only[Gl] at hb;exact⟨hb.1,h⟩
 |j::l,dn,s,K,hw,hl,h=>by
  simp only[Zzp] at h ⊢;unfold Lh at h;obtain⟨hji,TN,Z8⟩:=hl j (by simp);cases hj:ops[j]? with
  |none=>rw[hj] at h;cases h
  |some x=>
   rw[hj] at h;simp only[Gi] at h;obtain⟨hb,h⟩:=Au h;simp only[Gl] at hb;have ap:=Z8 x hj
   have hex:∀k∈NP C P sm s j x,s.hp k≠none:=fun k hk=>by
    have:=List.all_eq_true.1 hb.2 k hk;intro e;rw[e] at this;cases this
   obtain⟨s1,e1,Eg,IQ,h1⟩:=Sc h;obtain⟨ha,h2⟩:=IC hsm hi l (hw.keepsS ap Eg IQ) (fun k hk=>hl k (by simp[hk])) h1;have A66:Qy C P s1 o=Qy C P s o:=Abt (ops:=ops) (fun t ht=>Eg.1 t fun hd=>ap.xo t hd ht) fun hM hA y hy k hk=>ap.same Eg IQ hM hA (hw.1 y hy k hk);have hr1:NP C P sm s1 i o=NP C P sm s i o:=Arg fun _=>A66;rw[List.all_cons,Gl] at ha
   have A29:Nat.blt i j=false:=by
    cases hh:Nat.blt i j
    ·rfl
    ·have:=Wu hh;omega
   have hmi:Oj C P x o=true->j∈sm.getD i []:=fun hs=>by
    rw[hsm,SH hi];exact W9.2 ⟨x,hj,hs,by rw[TN,Bool.and_false],by rw[A29,Zzs]⟩
   have hmj:Oj C P x o=true->i∈sm.getD j []:=fun hs=>by
    rw[hsm,SH hj];exact W9.2 ⟨o,hi,by rw[EU];exact hs,by rw[A29,Zzs],by rw[TN,Bool.and_false]⟩
   have Awj:Oj C P x o=true->Akb (NP C P sm s j x) (NP C P sm s i o)=true:=by
    intro hs;have:=ha.1;unfold UV at this;rw[Aic.2 (hmi hs),hr1] at this
    simpa using this
   have hok:∀q,UV C P sm s1 i o q=UV C P sm s i o q:=fun q=>by unfold UV;rw[hr1]
   have Xu:dn.all (UV C P sm s i o)=true:=by
    refine List.all_eq_true.2 fun q hq=>?_;rw[<-hok];exact List.all_eq_true.1 ha.2 q hq
   refine⟨Xu,?_⟩;rw[hr1] at h2
   have h3:=A3e hw (fun hs k hk=>hex k (by rw[OR (hmj hs)];exact hk)) ap (fun hs=>by have:=Awj hs;rw[OR (hmj hs),OR (hmi hs)] at this;exact this)
    (BE (K':=fun s1=>Em C P N call ops o s1 (fun s2=>Lh C P N call ops sm ((i,o,NP C P sm s i o)::(j,x,NP C P sm s j x)::dn) (l++l') s2 K)) e1 h2)
   obtain⟨s2,e2,Gy,NC,h4⟩:=Sc h3;refine BE e2 ?_
   have hr2:NP C P sm s2 j x=NP C P sm s j x:=Arg fun Ge=>by
    obtain⟨q,hq⟩:=List.exists_mem_of_ne_nil _ Ge;refine Abt (ops:=ops) (fun t ht=>Gy.1 t fun hd=>ap.ox t hd ht) fun hM hA y hy k hk=>ap.symm.same Gy NC hM hA (hex k ?_);rw[OR hq];exact OQ (.inl hM) hy hk
   unfold Lh;rw[hj];simp only[Gi]
   have hc:(((i,o,NP C P sm s i o)::dn).all (UV C P sm s2 j x)&&(NP C P sm s2 j x).all fun k=>(s2.hp k).isSome)=true:=by
    simp only[List.all_cons,Gl];refine⟨⟨?_,?_⟩,?_⟩
    ·unfold UV;simp only[hr2];cases hs:(sm.getD j []).any (Nat.beq i)
     ·rfl
     ·have hm:=Aic.1 hs;rw[hsm,SH hj] at hm;obtain⟨o',ho',hso,_⟩:=W9.1 hm;rw[hi] at ho';cases ho';rw[EU] at hso;rw[All (Awj hso)];rfl
    ·refine List.all_eq_true.2 fun q hq=>?_;have:=List.all_eq_true.1 hb.1 q hq;unfold UV at this ⊢;rw[hr2];exact this
    ·rw[hr2];refine List.all_eq_true.2 fun k hk=>?_;have:=Gy.2.1 k (hex k hk);cases hh:s2.hp k with
     |none=>exact absurd hh this
     |some _=>rfl
   rw[hc,hr2];show Em C P N call ops x s2 _=some r
   have:(fun s'=>Lh C P N call ops sm ((j,x,NP C P sm s j x)::(i,o,NP C P sm s i o)::dn) (l++l') s' K)=fun s2=>Lh C P N call ops sm ((i,o,NP C P sm s i o)::(j,x,NP C P sm s j x)::dn) (l++l') s2 K:=by
    funext s'
    exact MA _ fun f=>Ard _ _ _ f
   rw[this];exact h4
end
section
variable {R:Type}{r:R}{P:Program}{N:Nat}{w0:World}{X0:F6}{Y:Nat->Prop}{β β':Bt}{s:St}{a:Act}{w w':World}{o:Oper}{ops:Array Oper}{C:Jm}{call:Bi}{K:St->Option R}
theorem DJ{bs:B5}:∀(l:List Oper)(n:Nat),GE C P ops bs l n=true->∀(k:Nat) o,l[k]?=some o->∀(j:Nat) x,ops[j]?=some x->j<n+k->Aqh C P ops x o=true->(bs.getD (n+k) 0).testBit j=true
 |[],_,_,k,o,ho,_,_,_,_,_=>by simp at ho
 |o'::l,n,h,k,o,ho,j,x,hx,hj,Y2=>by
  simp only[GE,Gl] at h;cases k with
  |zero=>
   simp at ho;subst ho
   have:=List.all_eq_true.1 h.1 (x,j) (by
    rw[List.mem_zipIdx_iff_getElem?]
    simpa using hx)
   simp only[Y2,Dx,Bool.or_false,Bool.or_eq_true,Bool.not_eq_true'] at this;rcases this with h'|h'
   ·have:Nat.blt j n=true:=Nat.ble_eq_true_of_le (by omega);rw[this] at h';cases h'
   ·exact h'
  |succ k=>
   have:=DJ l (n+1) h.2 k o (by simpa using ho) j x hx (by omega) Y2
   rwa [show n+(k+1)=n+1+k by omega]
theorem Aaz{G:Vs}(Jz:MD P G w0 X0)(C6:∀f args res,call f args=some res->C7 G P f args res)(hok:SG C P ops=true){Q:Exit->Act->World->Prop}(hQ:∀s' a' w' β',K s'=some r->B9 N w0 X0 Y β' s' a' w'->Q .normal a' w'):
  ∀(fuel:Nat) {dn:List (Nat × Oper × B5)} {listed:Array Bool} {s:St} {a:Act} {w:World} {β:Bt},HeadInv .any ops ops.size listed->(Rp ops.size listed).length=fuel->B9 N w0 X0 Y β s a w->Lh C P N call ops (KW C P ops (Lz ops.toList [])) dn (Rp ops.size listed) s K=some r->wpAny P .any ops Q fuel listed a w:=by
 unfold SG at hok;simp only[Gl] at hok;obtain⟨Ap9,Ayi⟩:=hok;intro fuel
 induction fuel with
 |zero=>
  intro dn listed s a w β inv hf h hk;have hp:=List.eq_nil_of_length_eq_zero hf;rw[hp] at hk;refine⟨?_,hQ s a w β hk h⟩;cases hr:Region.ready .any ops listed with
  |nil=>rfl
  |cons i l=>
   exfalso;have hi:i∈Region.ready .any ops listed:=by rw[hr];simp
   obtain⟨Oe,o,ho,_⟩:=mem_ready.1 hi;have:i∈Rp ops.size listed:=Nc.2 ⟨(Array.getElem?_eq_some_iff.1 ho).1,Oe⟩;rw[hp] at this;simp at this
 |succ fuel ih=>
  intro dn listed s a w β inv hf h hk;refine⟨fun hr=>?_,fun i hi=>?_⟩
  ·rw[XK Ap9 inv hr] at hf;cases hf
  ·obtain⟨Oe,o,ho,Xu⟩:=mem_ready.1 hi;have Ch:i<ops.size:=(Array.getElem?_eq_some_iff.1 ho).1;obtain⟨l1,l2,h1,h2,h3⟩:=FE (Nc.2 ⟨Ch,Oe⟩) inv.size;rw[h1] at hk
   have hnb:∀j∈l1,((Lz ops.toList []).getD i 0).testBit j=false:=by
    intro j hj;cases TN:((Lz ops.toList []).getD i 0).testBit j with
    |false=>rfl
    |true=>
     exfalso;have hjl:=W8 (listed:=listed) (fun j oj hj hl=>inv.closed j oj hj hl) ops.toList [] [] (by simp) rfl (by simp) i o ho Xu j TN;have:j∈Rp ops.size listed:=by rw[h1];simp[hj]
     have:=getD_both (Nc.1 this).2;rw[hjl] at this;cases this
   have Z8:∀j∈l1,j<i/\((Lz ops.toList []).getD i 0).testBit j=false/\∀x,ops[j]?=some x->Qs C P ops x o:=by
    intro j hj;refine⟨h3 j hj,hnb j hj,fun x hxj=>Aj1 ?_⟩;cases Y2:Aqh C P ops x o with
    |false=>rfl
    |true=>
     exfalso;have TN:=DJ ops.toList 0 Ayi i o (by simpa using ho) j x hxj (by have:=h3 j hj;omega) Y2
     rw[Cu,hnb j hj] at TN;cases TN
   obtain⟨s',hs',hn⟩:=FC h Jz C6 ho (IC rfl ho l1 (An0 h o) Z8 hk).2;refine hn _ _ fun a' w' β' h'=>ih (dn:=(i,o,NP C P (KW C P ops (Lz ops.toList [])) s i o)::dn) (inv.set hi Ch) ?_ h' ?_
   ·rw[h2];rw[h1] at hf;simp at hf ⊢;omega
   ·rw[h2];exact hs'
theorem Yo(h:B9 N w0 X0 Y β s a w){G:Vs}(Jz:MD P G w0 X0)(C6:∀f args res,call f args=some res->C7 G P f args res)(hm:P.follows .mixedOrders=true)(hok:SG C P ops=true){Q:Exit->Act->World->Prop}(hk:Lh C P N call ops (KW C P ops (Lz ops.toList [])) [] (List.range ops.size) s K=some r)(hQ:∀s' a' w' β',K s'=some r->B9 N w0 X0 Y β' s' a' w'->Q .normal a' w'):wpAny P .any ops Q ops.size (Array.replicate ops.size false) a { w with drawn:=w.drawn+1 }:=by
 have hp:Rp ops.size (Array.replicate ops.size false)=List.range ops.size:=by
  unfold Rp;refine List.filter_eq_self.2 fun i hi=>?_;have:=List.mem_range.1 hi;simp[this]
 refine Aaz (C:=C) (dn:=[]) Jz C6 hok hQ ops.size ⟨by simp,fun j oj _ hl=>(by rw[getD_replicate_false] at hl;cases hl),fun t ht ht'=>by omega⟩ (by rw[hp];simp) h.drew ?_
 rw[hp];exact hk
theorem Abg(h:B9 N w0 X0 Y β s a w){G:Vs}(Jz:MD P G w0 X0)(C6:∀f args res,call f args=some res->C7 G P f args res)(hm:P.follows .mixedOrders=true)(hok:SG C P ops=true){id:Nat}{Q:Exit->Act->World->Prop}(hk:Lh C P N call ops (KW C P ops (Lz ops.toList [])) [] (List.range ops.size) s K=some r)(hQ:∀s' a' w' β',K s'=some r->B9 N w0 X0 Y β' s' a' w'->Q .normal a' w'):(Code.region id ops true).wp P Q a w:=
 wp_region_any hm (Yo h Jz C6 hm hok hk hQ)
end
open Go.RowKit
section
variable {R:Type}{r:R}{N:Nat}{w0:World}{X0:F6}{Y:Nat->Prop}{β β':Bt}{s:St}{a:Act}{w w':World}
theorem Ao4{i:Nat}(hi:i<a.tmps.size):a.put (some i) (a.tmps.getD i undef)=a:=by
 obtain⟨tmps,dfr⟩:=a;change i<tmps.size at hi
 have:tmps.setIfInBounds i (tmps.getD i undef)=tmps:=by
  apply Array.ext_getElem?;intro k;by_cases e:i=k
  ·subst e;simp[hi]
  ·rw[Array.getElem?_setIfInBounds_ne e]
 simp only[Act.put,this]
theorem Ahn{A:Nat->Prop}{es:Nat}{v:Value}(h:Az w A (.lst true es 0 []) v):v=.slice none 0 0:=by cases h;rfl
theorem Aie{id:Nat}(Br:s.hp id=none){v:PV}{val:Value}(hv:Eo w (Dd (A5 s.hp [(id,.ar false [])]) (Db β id none) Y) (Db β id none) v val)(hr:∀i∈Cc v,s.hp i≠none\/i=id):
  WC Y β s w v [(id,.ar false [])] val w (Db β id none):=by
 refine⟨rfl,rfl,rfl,Cq.refl _ _,fun j hj=>Ar _ _ (by rintro rfl;exact hj Br),?_,?_,?_,?_,?_,hv,?_⟩
 ·intro j bx hm;simp at hm;rw[hm.2];trivial
 ·intro j bx hm;simp at hm;obtain⟨rfl,rfl⟩:=hm;exact .inl ⟨Ax _ _ _,rfl⟩
 ·intro j bx k q hm hq;simp at hm;obtain⟨rfl,rfl⟩:=hm;rw[Ax] at hq;cases hq
 ·intro j bx j' bx' k q q' hm Rr _ _;simp at hm Rr;rw[hm.1,Rr.1]
 ·intro j cells hm;simp at hm
 ·intro j hj;rcases hr j hj with h|rfl
  ·exact .inl h
  ·exact .inr ⟨.ar false [],by simp⟩
theorem UP(h:B9 N w0 X0 Y β s a w)(i:Nat):∃β',B9 N w0 X0 Y β' (OL N s i) a w:=by
 unfold OL;split
 ·rename_i es ht
  have Ch:i<N:=by
   rcases K6 i N with h'|h'
   ·exact h'
   ·rw[h.tmo i h'] at ht;cases ht
  have hv:=h.tms i Ch;rw[ht] at hv;have hv:=Ahn hv;have hd:I2 N (some i)=true:=by simp[I2,Nat.blt];omega
  have go:∀j,s.hp j=none->∃β',B9 N w0 X0 Y β' ⟨Db s.tm i (.view j es 0 0),Db s.hp j (some (.ar false []))⟩ a w:=by
   intro j hn;have:=h.stepR (d:=some i) hd (by simp[Cl,hn]) (Aie (v:=.view j es 0 0) (val:=.slice none 0 0) hn (.inl ⟨Ax _ _ _,rfl,rfl,none,rfl⟩) (by simp[Cc,Cn,Aw]));rw[<-hv,Ao4 (by rw[h.tsz];exact Ch)] at this
   exact⟨_,this⟩
  cases hn:(s.hp i).isNone
  ·cases hn2:(s.hp (i+N*3000)).isNone
   ·exact⟨β,h⟩
   ·exact go _ (by simpa using hn2)
  ·exact go _ (by simpa using hn)
 ·exact⟨β,h⟩
theorem B9.recell(h:B9 N w0 X0 Y β s a w){id:Nat}{c c':Ab}(h0:s.hp id=some (.st c))(hl:c'.length=c.length)(hc:∀(j:Nat) p,c'[j]?=some p->∃q,c[j]?=some q/\(∀v,Ck w (Dd s.hp β Y) β q v->Ck w (Dd s.hp β Y) β p v)/\∀i∈Aw p,s.hp i≠none):
  B9 N w0 X0 Y β ⟨s.tm,Db s.hp id (some (.st c'))⟩ a w:=by
 have Jk:∀i,Ct (Db s.hp id (some (.st c')) i)↔Ct (s.hp i):=by
  intro i;by_cases e:i=id
  ·subst e;rw[Ax,h0];exact Iff.rfl
  ·rw[Ar _ _ e]
 have hX:DS (Db s.hp id (some (.st c'))) β=DS s.hp β:=by
  funext b
  apply propext;constructor
  ·rintro⟨i,o,hl,hb⟩;exact⟨i,o,(Jk i).1 hl,hb⟩
  ·rintro⟨i,o,hl,hb⟩;exact⟨i,o,(Jk i).2 hl,hb⟩
 have hA:Dd (Db s.hp id (some (.st c'))) β Y=Dd s.hp β Y:=by
  funext b;unfold Dd;rw[hX]
 have Ge:∀i,s.hp i≠none->Db s.hp id (some (.st c')) i≠none:=by
  intro i hi;by_cases e:i=id
  ·subst e;rw[Ax];simp
  ·rw[Ar _ _ e];exact hi
 have A7j:∀i,Db s.hp id (some (.st c')) i≠none->s.hp i≠none:=by
  intro i hi;by_cases e:i=id
  ·subst e;rw[h0];simp
  ·rw[Ar _ _ e] at hi;exact hi
 refine⟨h.dfr,h.tsz,h.tmo,?_,?_,?_,?_,?_,?_,?_,?_,fun i hi=>⟨Ge _ (h.pin i hi).1,(h.pin i hi).2⟩,?_,?_,h.Ylt,h.fr⟩
 ·intro i hi;show Eo w (Dd (Db s.hp id _) β Y) β _ _;rw[hA];exact h.tms i hi
 ·intro i b hb;show Wh w (Dd (Db s.hp id _) β Y) β i b;rw[hA];by_cases e:i=id
  ·subst e;change Db s.hp i (some (.st c')) i=some b at hb;rw[Ax] at hb;cases hb;obtain⟨b,o,h1,h2,h3⟩:=h.box i _ h0;refine⟨b,o,h1,fun j p hj=>?_,fun j hj=>h3 j (by rw[<-hl];exact hj)⟩
   obtain⟨q,hq,hqp,_⟩:=hc j p hj;obtain⟨v,hv,hr⟩:=h2 j q hq;exact⟨v,hv,hqp v hr⟩
  ·change Db s.hp id (some (.st c')) i=some b at hb;rw[Ar _ _ e] at hb;exact h.box i b hb
 ·intro i i' b o o' hl Pc hb Jh;exact h.inj i i' b o o' ((Jk i).1 hl) ((Jk i').1 Pc) hb Jh
 ·intro i b o hn hb;exact h.blt i b o (A7j i hn) hb
 ·intro i hi j hj;exact Ge j (h.wfT i hi j hj)
 ·intro i cells hb p hp j hj;change Db s.hp id (some (.st c')) i=_ at hb;by_cases e:i=id
  ·subst e;rw[Ax] at hb;cases hb;obtain⟨k,hk⟩:=List.mem_iff_getElem?.1 hp;obtain⟨_,_,_,hr⟩:=hc k p hk;exact Ge j (hr j hj)
  ·rw[Ar _ _ e] at hb;exact Ge j (h.wfB i cells hb p hp j hj)
 ·intro b hb;exact h.ownd b (by rw[<-hX];exact hb)
 ·intro i bx b o hb hlb hβ Ch j hj;change Db s.hp id (some (.st c')) i=some bx at hb;by_cases e:i=id
  ·subst e;rw[Ax] at hb;cases hb;exact h.rngB i _ b o h0 trivial hβ Ch j (by unfold BR at hj ⊢;simp only[hl] at hj;exact hj)
  ·rw[Ar _ _ e] at hb;exact h.rngB i bx b o hb hlb hβ Ch j hj
 ·intro i c1 b o hb hβ Ch;change Db s.hp id (some (.st c')) i=_ at hb;by_cases e:i=id
  ·subst e;exact h.stp i c b o h0 hβ Ch
  ·rw[Ar _ _ e] at hb;exact h.stp i c1 b o hb hβ Ch
 ·intro b hY hb;exact h.Yx b hY (by rw[<-hX];exact hb)
theorem UB(h:B9 N w0 X0 Y β s a w)(id j:Nat):∃β',B9 N w0 X0 Y β' (Aag N id s j) a w:=by
 unfold Aag;split
 ·rename_i c h0;split
  ·rename_i es hj;cases hn:(s.hp (id+N*(j+1))).isNone
   ·exact⟨β,h⟩
   ·have hn:s.hp (id+N*(j+1))=none:=by simpa using hn
    have Ge:id≠id+N*(j+1):=by
     intro e;rw[<-e,h0] at hn;cases hn
    have h1:=h.stepR (d:=none) (v:=.top) (val:=undef) rfl (by simp[Cl,hn]) (Aie hn (.top _) (by simp[Cc,Cn,Aw]));change B9 N w0 X0 Y (Db β (id+N*(j+1)) none) ⟨s.tm,Db s.hp (id+N*(j+1)) (some (.ar false []))⟩ a w at h1
    have h2:=h1.recell (id:=id) (c:=c) (c':=c.set j (.view (id+N*(j+1)) es 0 0)) (by show Db _ _ _ _=_;rw[Ar _ _ Ge];exact h0) (by simp) (by
     intro k p hp;by_cases e:k=j
     ·subst e
      have Ch:k<c.length:=by
       rcases K6 k c.length with h'|h'
       ·exact h'
       ·rw[List.getElem?_eq_none h'] at hj;cases hj
      rw[List.getElem?_set_self Ch] at hp;cases hp;refine⟨_,hj,fun v hv=>.inl ⟨Ax _ _ _,rfl,rfl,none,Ahn hv⟩,fun i hi=>?_⟩;simp[Aw] at hi;subst hi;show Db _ _ _ _≠none;rw[Ax];simp
     ·rw[List.getElem?_set_ne (fun h=>e h.symm)] at hp;refine⟨p,hp,fun _ hv=>hv,fun i hi=>?_⟩;have:=h.wfB id c h0 p (List.mem_of_getElem? hp) i hi;show Db _ _ _ _≠none;by_cases e':i=id+N*(j+1)
      ·subst e';rw[Ax];simp
      ·rw[Ar _ _ e'];exact this)
    refine⟨Db β (id+N*(j+1)) none,?_⟩;have e3:Db (Db s.hp (id+N*(j+1)) (some (.ar false []))) id (some (.st (c.set j (.view (id+N*(j+1)) es 0 0))))=Db (Db s.hp id (some (.st (c.set j (.view (id+N*(j+1)) es 0 0))))) (id+N*(j+1)) (some (.ar false [])):=Ab9 _ _ _ (fun h=>Ge h.symm);change B9 N w0 X0 Y (Db β (id+N*(j+1)) none) ⟨s.tm,Db (Db s.hp (id+N*(j+1)) (some (.ar false []))) id (some (.st (c.set j (.view (id+N*(j+1)) es 0 0))))⟩ a w at h2;rw[e3] at h2;exact h2
  ·exact⟨β,h⟩
 ·exact⟨β,h⟩
theorem Uu{f:St->Nat->St}(hf:∀s β,B9 N w0 X0 Y β s a w->∀i,∃β',B9 N w0 X0 Y β' (f s i) a w):∀(l:B5){s:St}{β:Bt},B9 N w0 X0 Y β s a w->∃β',B9 N w0 X0 Y β' (l.foldl f s) a w
 |[],_,β,h=>⟨β,h⟩
 |i::l,s,β,h=>by
  obtain⟨β1,h1⟩:=hf s β h i;exact Uu hf l h1
theorem Aau(h:B9 N w0 X0 Y β s a w)(i:Nat):∃β',B9 N w0 X0 Y β' (YV N s i) a w:=by
 unfold YV;split
 ·split
  ·exact Uu (fun s β h i=>UB h _ i) _ h
  ·exact⟨β,h⟩
 ·exact⟨β,h⟩
theorem VA:∀{m:List (Nat × Nat)},Ft (m.map (·.2))=true->∀{i i' j:Nat},(i,j)∈m->(i',j)∈m->i=i'
 |[],_,_,_,_,h,_=>by simp at h
 |(x,y)::m,hn,i,i',j,h,h'=>by
  simp only[Rz,Ft,Gl,Bool.not_eq_true'] at hn
  have hy:∀k,(k,y) ∉ m:=by
   intro k hk;exact Xb hn.1 (List.mem_map.2 ⟨(k,y),hk,rfl⟩)
  rcases Bx.1 h with e|h
  ·cases e;rcases Bx.1 h' with e|h'
   ·cases e;rfl
   ·exact absurd h' (hy _)
  ·rcases Bx.1 h' with e|h'
   ·cases e;exact absurd h (hy _)
   ·exact VA hn.2 h h'
theorem JB:∀{m:List (Nat × Nat)},Ft (m.map (·.1))=true->∀{i j j':Nat},(i,j)∈m->(i,j')∈m->j=j'
 |[],_,_,_,_,h,_=>by simp at h
 |(x,y)::m,hn,i,j,j',h,h'=>by
  simp only[Rz,Ft,Gl,Bool.not_eq_true'] at hn
  have hx:∀k,(x,k) ∉ m:=by
   intro k hk;exact Xb hn.1 (List.mem_map.2 ⟨(x,k),hk,rfl⟩)
  rcases Bx.1 h with e|h
  ·cases e;rcases Bx.1 h' with e|h'
   ·cases e;rfl
   ·exact absurd h' (hx _)
  ·rcases Bx.1 h' with e|h'
   ·cases e;exact absurd h (hx _)
   ·exact JB hn.2 h h'
theorem Ru{i j:Nat}(h:Nat.beq i j=false):i≠j:=by rintro rfl;rw[Of] at h;cases h
theorem ID:∀{m:List (Nat × Nat)} {i j:Nat},BP m i=some j->(i,j)∈m
 |[],_,_,h=>by cases h
 |(x,y)::m,i,j,h=>by
  unfold BP at h;cases hb:Nat.beq i x<;>rw[hb] at h
  ·exact Rw _ (ID h)
  ·have:=D4 hb;cases h;rw[this];simp
theorem KA{m:List (Nat × Nat)}{hp:Nat->Option Bz}:∀{l:List (Nat × Nat)} {j:Nat}{b:Bz},Bq (Q4 m hp l) j=some b->∃i b0,(i,j)∈l/\hp i=some b0/\b=Au4 m b0
 |[],_,_,h=>by cases h
 |(x,y)::l,j,b,h=>by
  unfold Q4 at h;cases hx:hp x with
  |none=>
   rw[hx] at h;obtain⟨i,b0,h1,h2⟩:=KA h;exact⟨i,b0,Rw _ h1,h2⟩
  |some bx=>
   rw[hx] at h;simp only[Bq] at h;cases hb:Nat.beq j y<;>rw[hb] at h
   ·obtain⟨i,b0,h1,h2⟩:=KA h;exact⟨i,b0,Rw _ h1,h2⟩
   ·have:=D4 hb;subst this;cases h;exact⟨x,bx,by simp,hx,rfl⟩
theorem Sr{m:List (Nat × Nat)}{hp:Nat->Option Bz}:∀{l:List (Nat × Nat)} {i j:Nat},(i,j)∈l->hp i≠none->Bq (Q4 m hp l) j≠none
 |[],_,_,h,_=>by simp at h
 |(x,y)::l,i,j,h,hi=>by
  unfold Q4;cases hx:hp x with
  |none=>
   rcases Bx.1 h with e|h
   ·cases e;exact absurd hx hi
   ·exact Sr h hi
  |some bx=>
   simp only[Bq];cases hb:Nat.beq j y
   ·rcases Bx.1 h with e|h
    ·cases e;exact absurd rfl (Ru hb)
    ·exact Sr h hi
   ·simp
def TT(m:List (Nat × Nat))(j:Nat):Option Nat:=
 match m with
 |[]=>none
 |(x,y)::r=>bif Nat.beq j y then some x else TT r j
theorem Aig:∀{m:List (Nat × Nat)} {i j:Nat},TT m j=some i->(i,j)∈m
 |[],_,_,h=>by cases h
 |(x,y)::m,i,j,h=>by
  unfold TT at h;cases hb:Nat.beq j y<;>rw[hb] at h
  ·exact Rw _ (Aig h)
  ·have:=D4 hb;cases h;rw[this];simp
theorem Adp:∀{m:List (Nat × Nat)} {i j:Nat},(i,j)∈m->∃k,TT m j=some k
 |[],_,_,h=>by simp at h
 |(x,y)::m,i,j,h=>by
  unfold TT;cases hb:Nat.beq j y
  ·rcases Bx.1 h with e|h
   ·cases e;exact absurd rfl (Ru hb)
   ·exact Adp h
  ·exact⟨x,rfl⟩
theorem YU{f:Nat->PV}:∀{l:B5}{i:Nat},lk (l.map fun i=>(i,f i)) i=if i∈l then f i else .top
 |[],_=>rfl
 |x::l,i=>by
  simp only[Rz,lk];cases hb:Nat.beq i x
  ·have:=Ru hb;simp only[cond_false,YU,Bx,this,false_or]
  ·have:=D4 hb;subst this;simp
theorem YE{m:Nat}:∀{n i:Nat},i∈Qo m n->i<n
 |0,_,h=>by simp[Qo] at h
 |n+1,i,h=>by
  simp only[Qo,Bu] at h;rcases h with h|h
  ·have:=YE h;omega
  ·cases hb:m.testBit n<;>rw[hb] at h
   ·simp at h
   ·simp at h;omega
theorem Aar(h:B9 N w0 X0 Y β s a w){m:List (Nat × Nat)}(h1:Ft (m.map (·.1))=true)(h2:Ft (m.map (·.2))=true){ls:B5}(hls:∀i∈ls,i<N)(hpn:∀i,X0.pn i->(Dm N i,Dm N i)∈m):
  ∃β',B9 N w0 X0 Y β' ⟨lk (ls.map fun i=>(i,Amn m (s.tm i))),Bq (Q4 m s.hp m)⟩ a w:=by
 refine⟨fun j=>(TT m j).bind β,?_⟩
 have hβ:∀{i j:Nat},(i,j)∈m->(TT m j).bind β=β i:=by
  intro i j hm;obtain⟨k,hk⟩:=Adp hm;rw[hk];have:=VA h2 (Aig hk) hm;subst this;rfl
 have hold:∀{j:Nat} {b:Bz},Bq (Q4 m s.hp m) j=some b->∃i b0,(i,j)∈m/\s.hp i=some b0/\b=Au4 m b0/\(TT m j).bind β=β i:=by
  intro j b hb;obtain⟨i,b0,hm,h3,h4⟩:=KA hb;exact⟨i,b0,hm,h3,h4,hβ hm⟩
 have Jk:∀{j:Nat},Ct (Bq (Q4 m s.hp m) j)->∃i,(i,j)∈m/\Ct (s.hp i)/\(TT m j).bind β=β i:=by
  intro j hl;cases hb:Bq (Q4 m s.hp m) j with
  |none=>rw[hb] at hl;exact hl.elim
  |some b=>
   obtain⟨i,b0,hm,h3,rfl,h5⟩:=hold hb;refine⟨i,hm,?_,h5⟩;rw[hb] at hl;rw[h3];cases b0<;>exact hl
 have hX:∀b,DS (Bq (Q4 m s.hp m)) (fun j=>(TT m j).bind β) b->DS s.hp β b:=by
  rintro b ⟨j,o,hl,hb⟩
  obtain⟨i,_,Pc,e⟩:=Jk hl;exact⟨i,o,Pc,by rw[<-e];exact hb⟩
 have hA:∀b,Dd (Bq (Q4 m s.hp m)) (fun j=>(TT m j).bind β) Y b->Dd s.hp β Y b:=fun b hb=>hb.imp (hX b) id
 have hC:∀p v,Ck w (Dd s.hp β Y) β p v->Ck w (Dd (Bq (Q4 m s.hp m)) (fun j=>(TT m j).bind β) Y) (fun j=>(TT m j).bind β) (Ahe m p) v:=by
  intro p v hp;cases p with
  |view id es off n=>
   show Ck _ _ _ (match BP m id with|some j=>.view j es off n|none=>.top) v;cases hj:BP m id with
   |some j=>
    have e:=hβ (ID hj);rcases hp with⟨e1,e2⟩|⟨b,o,x,cap,e1,e2⟩
    ·exact .inl ⟨by show (TT m j).bind β=none;rw[e];exact e1,e2⟩
    ·exact .inr ⟨b,o,x,cap,by show (TT m j).bind β=_;rw[e];exact e1,e2⟩
   |none=>exact Az.top _
  |ptr id off=>
   show Ck _ _ _ (match BP m id with|some j=>.ptr j off|none=>.top) v;cases hj:BP m id with
   |some j=>
    have e:=hβ (ID hj);obtain⟨b,o,e1,e2⟩:=hp;exact⟨b,o,by show (TT m j).bind β=_;rw[e];exact e1,e2⟩
   |none=>exact Az.top _
  |sc v=>exact Az.step (Cq.refl _ _) (fun b _=>hA b) hp
  |lst z es n c=>exact Az.step (Cq.refl _ _) (fun b _=>hA b) hp
  |iptr c off=>exact Ck.step (p:=.iptr c off) (Cq.refl _ _) (fun b _=>hA b) (by simp[Aw]) hp
  |_=>exact Az.top _
 have hV:∀p v,Eo w (Dd s.hp β Y) β p v->Eo w (Dd (Bq (Q4 m s.hp m)) (fun j=>(TT m j).bind β) Y) (fun j=>(TT m j).bind β) (Amn m p) v:=by
  intro p v hp;cases p with
  |agg c=>
   obtain⟨vs,e1,e2⟩:=hp;refine⟨vs,e1,Bw.of_at (by simp;exact e2.len) fun i q u hq hu=>?_⟩
   rw[List.getElem?_map] at hq;cases hc:c[i]? with
   |none=>rw[hc] at hq;cases hq
   |some q0=>
    rw[hc] at hq;cases hq;exact hC _ _ (e2.at_ hc hu)
  |view id es off n=>
   have:=hC (.view id es off n) v hp;change Ck _ _ _ (match BP m id with|some j=>.view j es off n|none=>.top) v at this;show Eo _ _ _ (match BP m id with|some j=>.view j es off n|none=>.top) v;cases hj:BP m id<;>rw[hj] at this<;>exact this
  |ptr id off=>
   have:=hC (.ptr id off) v hp;change Ck _ _ _ (match BP m id with|some j=>.ptr j off|none=>.top) v at this;show Eo _ _ _ (match BP m id with|some j=>.ptr j off|none=>.top) v;cases hj:BP m id<;>rw[hj] at this<;>exact this
  |sc v'=>exact hC (.sc v') v hp
  |lst z es n c=>exact hC (.lst z es n c) v hp
  |iptr c off=>exact hC (.iptr c off) v hp
  |_=>exact Az.top _
 have hrC:∀p i,i∈Aw (Ahe m p)->∃k∈Aw p,(k,i)∈m:=by
  intro p i hi;cases p with
  |view id es off n=>
   change i∈Aw (match BP m id with|some j=>.view j es off n|none=>.top) at hi;cases hj:BP m id<;>rw[hj] at hi
   ·simp[Aw] at hi
   ·simp[Aw] at hi;subst hi;exact⟨id,by simp[Aw],ID hj⟩
  |ptr id off=>
   change i∈Aw (match BP m id with|some j=>.ptr j off|none=>.top) at hi;cases hj:BP m id<;>rw[hj] at hi
   ·simp[Aw] at hi
   ·simp[Aw] at hi;subst hi;exact⟨id,by simp[Aw],ID hj⟩
  |_=>simp[Ahe,Aw] at hi
 have hrV:∀p i,i∈Cc (Amn m p)->∃k∈Cc p,(k,i)∈m:=by
  intro p i hi;cases p with
  |agg c=>
   simp only[Amn,Cc,Cn,List.mem_flatMap,List.mem_map] at hi;obtain⟨_,⟨q,hq,rfl⟩,hi⟩:=hi;obtain⟨k,hk,hm⟩:=hrC q i hi;exact⟨k,by simp only[Cc,Cn,List.mem_flatMap];exact⟨q,hq,hk⟩,hm⟩
  |view id es off n=>
   refine (hrC (.view id es off n) i ?_).imp fun k hk=>hk;change i∈Cc (match BP m id with|some j=>.view j es off n|none=>.top) at hi;show i∈Aw (match BP m id with|some j=>.view j es off n|none=>.top);cases hj:BP m id<;>rw[hj] at hi<;>exact hi
  |ptr id off=>
   refine (hrC (.ptr id off) i ?_).imp fun k hk=>hk;change i∈Cc (match BP m id with|some j=>.ptr j off|none=>.top) at hi;show i∈Aw (match BP m id with|some j=>.ptr j off|none=>.top);cases hj:BP m id<;>rw[hj] at hi<;>exact hi
  |_=>simp[Amn,Ahe,Cc,Cn,Aw] at hi
 refine⟨h.dfr,h.tsz,?_,?_,?_,?_,?_,?_,?_,?_,?_,?_,?_,?_,h.Ylt,h.fr⟩
 ·intro i hi;show lk _ i=_;rw[YU,Ba (fun hm=>by have:=hls i hm;omega)]
 ·intro i hi;show Eo w _ _ (lk _ i) _;rw[YU];split
  ·exact hV _ _ (h.tms i hi)
  ·exact Az.top _
 ·intro j b hb;obtain⟨i,b0,hm,h3,rfl,e⟩:=hold hb;have Oc:=h.box i b0 h3;cases b0 with
  |st c=>
   obtain⟨b,o,e1,e2,e3⟩:=Oc;refine⟨b,o,by show (TT m j).bind β=_;rw[e];exact e1,fun k p hp=>?_,fun k hk=>e3 k (by simpa using hk)⟩
   rw[List.getElem?_map] at hp;cases hc:c[k]? with
   |none=>rw[hc] at hp;cases hp
   |some q=>
    rw[hc] at hp;cases hp;obtain⟨v,hv,hr⟩:=e2 k q hc;exact⟨v,hv,hC _ _ hr⟩
  |ar fz c=>
   have:=Wh.step' hA Oc;show Wh _ _ _ _ (.ar fz c);rcases this with⟨e1,e2⟩|⟨b,o,e1,e2⟩
   ·exact .inl ⟨by show (TT m j).bind β=_;rw[e];exact e1,e2⟩
   ·exact .inr ⟨b,o,by show (TT m j).bind β=_;rw[e];exact e1,e2⟩
  |mv=>exact trivial
 ·intro j j' b o o' hl Pc hb Jh;obtain⟨i,hm,IQ,e⟩:=Jk hl;obtain⟨i',Rr,A7p,e'⟩:=Jk Pc;have:=h.inj i i' b o o' IQ A7p (by rw[<-e];exact hb) (by rw[<-e'];exact Jh)
  subst this;exact JB h1 hm Rr
 ·intro j b o hn hb;cases hj:Bq (Q4 m s.hp m) j with
  |none=>exact absurd hj hn
  |some bx=>
   obtain⟨i,b0,_,h3,_,e⟩:=hold hj;exact h.blt i b o (by rw[h3];simp) (by rw[<-e];exact hb)
 ·intro i hi j hj;change j∈Cc (lk _ i) at hj;rw[YU] at hj;split at hj
  ·obtain⟨k,hk,hm⟩:=hrV _ j hj;exact Sr hm (h.wfT i hi k hk)
  ·simp[Cc,Cn,Aw] at hj
 ·intro j cells hb p hp k hk;obtain⟨i,b0,_,h3,h4,_⟩:=hold hb;cases b0 with
  |st c=>
   cases h4;obtain⟨q,hq,rfl⟩:=List.mem_map.1 hp;obtain⟨k',Jj,hm⟩:=hrC q k hk;exact Sr hm (h.wfB i c h3 q hq k' Jj)
  |ar fz c=>cases h4
  |mv=>cases h4
 ·intro b hb;exact h.ownd b (hX b hb)
 ·intro j bx b o hb hlb hβ1 Ch k hk;obtain⟨i,b0,_,h3,h4,e⟩:=hold hb;subst h4;refine h.rngB i b0 b o h3 ?_ (by rw[<-e];exact hβ1) Ch k ?_
  ·cases b0<;>exact hlb
  ·cases b0 with
   |st c=>simpa [BR,Au4] using hk
   |ar fz c=>exact hk
   |mv=>exact hk
 ·intro i hi;exact⟨Sr (hpn i hi) (h.pin i hi).1,(hβ (hpn i hi)).trans (h.pin i hi).2⟩
 ·intro j c b o hb hβ1 Ch;obtain⟨i,b0,hm,h3,h4,e⟩:=hold hb;cases b0 with
  |st c0=>
   obtain⟨k,rfl,hk⟩:=h.stp i c0 b o h3 (by rw[<-e];exact hβ1) Ch
   exact⟨k,JB h1 hm (hpn k hk),hk⟩
  |ar fz c0=>cases h4
  |mv=>cases h4
 ·intro b hY hb;exact h.Yx b hY (hX b hb)
theorem AY{m:List (Nat × Nat)}{q:Nat × Nat}{o n:Nat}(h:q∈m):q∈WO m o n:=by
 unfold WO;split
 ·exact h
 ·exact Bu.2 (.inl h)
theorem Pz{q:Nat × Nat}{new:Nat}:∀{c:Ab}{j:Nat}{m:List (Nat × Nat)},q∈m->q∈Xw N new c j m
 |[],_,_,h=>h
 |p::c,j,m,h=>by
  unfold Xw;split
  ·rename_i e;cases e
  ·rename_i e;cases e;exact Pz (AY h)
  ·rename_i e;cases e;exact Pz h
theorem Ads{q:Nat × Nat}{m:List (Nat × Nat)}{i:Nat}(h:q∈m):q∈OE N s m i:=by
 unfold OE;split
 ·exact AY h
 ·split
  ·exact h
  ·split
   ·exact Pz (AY h)
   ·exact AY h
 ·exact Pz h
 ·exact h
theorem FO{q:Nat × Nat}:∀{l:B5}{m:List (Nat × Nat)},q∈m->q∈l.foldl (OE N s) m
 |[],_,h=>h
 |_::l,_,h=>FO (l:=l) (Ads h)
theorem X3{q:Nat × Nat}{m:List (Nat × Nat)}(h:q∈m):∀k,q∈Z6 N s.hp k m
 |0=>h
 |k+1=>by
  unfold Z6;split
  ·exact Pz (X3 h k)
  ·exact X3 h k
theorem VH:∀{k i:Nat},i<k->s.hp (Dm N i)≠none->(Dm N i,Dm N i)∈Ady N s.hp k
 |0,_,h,_=>by omega
 |k+1,i,h,hn=>by
  unfold Ady;by_cases e:i=k
  ·subst e
   have:(s.hp (Dm N i)).isSome=true:=by
    cases hq:s.hp (Dm N i) with
    |none=>exact absurd hq hn
    |some b=>rfl
   rw[this];simp
  ·have:=VH (k:=k) (i:=i) (by omega) hn;cases (s.hp (Dm N k)).isSome
   ·exact this
   ·exact Bu.2 (.inl this)
theorem LG(h:B9 N w0 X0 Y β s a w){L:Nat}{q:Bool}{K:St->Option R}(hk:Ajd N (Qo L N) q s K=some r):∃β' s',K s'=some r/\B9 N w0 X0 Y β' s' a w:=by
 unfold Ajd at hk;obtain⟨hb,Eg⟩:=Au hk;simp only[Gl] at hb
 obtain⟨β2,h2⟩:∃β2,B9 N w0 X0 Y β2 (bif q then s else (Qo L N).foldl (YV N) ((Qo L N).foldl (OL N) s)) a w:=by
  cases q
  ·obtain⟨β1,h1⟩:=Uu (fun s β h i=>UP h i) (Qo L N) h;obtain⟨β2,h2⟩:=Uu (fun s β h i=>Aau h i) (Qo L N) h1;exact⟨β2,h2⟩
  ·exact⟨β,h⟩
 obtain⟨β3,h3⟩:=Aar h2 hb.1 hb.2 (ls:=Qo L N) (fun i hi=>YE hi) (fun i hi=>FO (X3 (VH (X0.p8 i hi) (h2.pin i hi).1) 8));exact⟨β3,_,Eg,h3⟩
theorem Cb(h:B9 N w0 X0 Y β s a w){L:Nat}{K:St->Option R}(hk:Jg N L s K=some r):∃β' s',K s'=some r/\B9 N w0 X0 Y β' s' a w:=LG h hk
theorem NA(h:B9 N w0 X0 Y β s a w){L:Nat}{K:St->Option R}(hk:Ad5 N L s K=some r):∃β' s',K s'=some r/\B9 N w0 X0 Y β' s' a w:=LG h hk
end
open Go.RowKit
section
variable {R:Type}{r:R}{P:Program}{N:Nat}{w0:World}{X0:F6}{Y:Nat->Prop}{C:Jm}{call:Bi}
theorem BF{n:Nat}{F:St->Option R}{s:St}(h:SV n F s=some r):F s=some r:=by
 unfold SV at h;split at h
 ·cases h
 ·exact h
theorem LL{β:Bt}{s:St}{a:Act}{w:World}(h:B9 N w0 X0 Y β s a w){c:Operand}{kt kf:St->Option R}(hk:Aqp s c kt kf=some r):(a.eval c=.bool true/\kt s=some r)\/(a.eval c=.bool false/\kf s=some r):=by
 unfold Aqp at hk;split at hk
 ·rename_i d;split at hk
  ·rename_i b ht;have hv:a.eval (.tmp d)=.bool b:=De h (x:=.tmp d) ht;cases b
   ·change kf ⟨Db s.tm d (.sc (.bool false)),s.hp⟩=some r at hk;rw[GG s.tm ht] at hk;exact .inr ⟨hv,hk⟩
   ·change kt ⟨Db s.tm d (.sc (.bool true)),s.hp⟩=some r at hk;rw[GG s.tm ht] at hk;exact .inl ⟨hv,hk⟩
  ·rename_i ht;have hu:=D2 h (.tmp d);change Eo _ _ _ (s.tm d) _ at hu;rw[ht] at hu;have M7:Az w _ .ub (a.eval (.tmp d)):=hu
   obtain⟨b,hv⟩:∃b,a.eval (.tmp d)=.bool b:=by
    generalize a.eval (.tmp d)=x at M7;cases M7 with
    |ub b=>exact⟨b,rfl⟩
   obtain⟨h1,h2⟩:=XT hk;cases b
   ·exact .inr ⟨hv,h2⟩
   ·exact .inl ⟨hv,h1⟩
  ·cases hk
 ·exact .inl ⟨rfl,hk⟩
 ·exact .inr ⟨rfl,hk⟩
 ·cases hk
theorem RN{c:Code}{Q:Exit->Act->World->Prop}{F:(St->Option R)->St->Option R}{nm:St->(St->Option R)->Option R}(hnm:∀{β s a w} {K:St->Option R},B9 N w0 X0 Y β s a w->nm s K=some r->∃β' s',K s'=some r/\B9 N w0 X0 Y β' s' a w)(hF:∀{β s a w} {K:St->Option R}{Q':Act->World->Prop},B9 N w0 X0 Y β s a w->F K s=some r->(∀s' a' w' β',K s'=some r->B9 N w0 X0 Y β' s' a' w'->Q' a' w')->c.wp P (Exit.then Q' Q) a w):
  ∀(n:Nat) {β s a w},B9 N w0 X0 Y β s a w->UI F nm n s=some r->Code.rounds P c Q n a w
 |0,_,_,_,_,_,hk=>by cases hk
 |n+1,β,s,a,w,h,hk=>by
  rw[rounds_succ];refine hF h hk fun s' a' w' β' Jj h'=>?_;obtain⟨β1,s1,Eg,h1⟩:=hnm h' Jj;exact RN hnm hF n h1 Eg
theorem EM{G:Vs}(Jz:MD P G w0 X0)(C6:∀f args res,call f args=some res->C7 G P f args res)(hm:P.follows .mixedOrders=true){fu:Nat}:
  ∀(c:Code) {ln:Nat} {lx:Nat->Nat} {lr:Nat} {kn:St->Option R} {kx:Nat->St->Option R} {kr:St->Option R} {β:Bt} {s:St} {a:Act} {w:World} {Q:Exit->Act->World->Prop},B9 N w0 X0 Y β s a w ->
   Nf C P fu N call c ln lx lr kn kx kr s=some r->(∀s' a' w' β',kn s'=some r->B9 N w0 X0 Y β' s' a' w'->Q .normal a' w') ->
   (∀id s' a' w' β',kx id s'=some r->B9 N w0 X0 Y β' s' a' w'->Q (.exit id) a' w')->(∀s' a' w' β',kr s'=some r->B9 N w0 X0 Y β' s' a' w'->Q .ret a' w')->c.wp P Q a w:=by
 intro c
 induction c with
 |skip=>intro ln lx lr kn kx kr β s a w Q h hk hn hx hr;exact wp_skip (hn s a w β hk h)
 |region id ops draw=>
  intro ln lx lr kn kx kr β s a w Q h hk hn hx hr;unfold Nf at hk;cases draw
  ·simp only[UM,Zzs,cond_false] at hk;exact Aay h Jz C6 hk hn
  ·simp only[UM,Ar2,Zzm,cond_true] at hk;cases hb:QY C P ops<;>rw[hb] at hk
   ·obtain⟨Jh,Eg⟩:=Au (show At _ _=some r from hk);exact Abg h Jz C6 hm Jh Eg hn
   ·exact YH h Jz C6 hm hb hk hn
 |seq c1 c2 ih1 ih2=>
  intro ln lx lr kn kx kr β s a w Q h hk hn hx hr;unfold Nf at hk
  refine wp_seq (ih1 h hk (fun s' a' w' β' Jj h'=>by
    cases hc:Ah8 P c1 c2
    ·rw[hc] at Jj;exact ih2 h' Jj hn hx hr
    ·rw[hc] at Jj;cases hq:GR c1 c2
     ·rw[hq] at Jj;obtain⟨β1,s1,Eg,h1⟩:=Cb h' (show Jg _ _ _ _=some r from Jj);exact ih2 h1 (BF Eg) hn hx hr
     ·rw[hq] at Jj;obtain⟨β1,s1,Eg,h1⟩:=NA h' (show Ad5 _ _ _ _=some r from Jj);exact ih2 h1 (BF Eg) hn hx hr) (fun id s' a' w' β' Jj h'=>hx id s' a' w' β' Jj h') (fun s' a' w' β' Jj h'=>hr s' a' w' β' Jj h'))
 |cond c c1 c2 ih1 ih2=>
  intro ln lx lr kn kx kr β s a w Q h hk hn hx hr;unfold Nf at hk;rcases LL h hk with⟨hc,Eg⟩|⟨hc,Eg⟩
  ·exact wp_cond_true hc (ih1 h Eg hn hx hr)
  ·exact wp_cond_false hc (ih2 h Eg hn hx hr)
 |block id c ih=>
  intro ln lx lr kn kx kr β s a w Q h hk hn hx hr;unfold Nf at hk;refine wp_block (ih h hk (fun s' a' w' β' Jj h'=>hn s' a' w' β' Jj h') (fun j s' a' w' β' Jj h'=>?_) (fun s' a' w' β' Jj h'=>hr s' a' w' β' Jj h'));show (if j=id then _ else _);by_cases e:j=id
  ·subst e;rw[B7 rfl];rw[Of] at Jj;exact hn s' a' w' β' Jj h'
  ·rw[Ba e]
   have:Nat.beq j id=false:=by
    cases hb:Nat.beq j id
    ·rfl
    ·exact absurd (D4 hb) e
   rw[this] at Jj;exact hx j s' a' w' β' Jj h'
 |loop c ih=>
  intro ln lx lr kn kx kr β s a w Q h hk hn hx hr;unfold Nf at hk;obtain⟨β1,s1,Eg,h1⟩:=Cb h hk;refine wp_loop_rounds fu (RN (fun h hk=>Cb h hk) (fun h hk hQ=>?_) fu h1 Eg);exact ih h hk hQ (fun id s' a' w' β' Jj h'=>hx id s' a' w' β' Jj h') (fun s' a' w' β' Jj h'=>hr s' a' w' β' Jj h')
 |«exit» id=>intro ln lx lr kn kx kr β s a w Q h hk hn hx hr;exact wp_exit (hx id s a w β hk h)
 |ret=>intro ln lx lr kn kx kr β s a w Q h hk hn hx hr;exact wp_ret (hr s a w β hk h)
 |_=>intro ln lx lr kn kx kr β s a w Q h hk hn hx hr;cases hk
end
open Go.RowKit
theorem Rs:∀{l:List (Nat × Bz)} {i:Nat}{b:Bz},Bq l i=some b->(i,b)∈l
 |[],_,_,h=>by cases h
 |(j,c)::l,i,b,h=>by
  unfold Bq at h;cases hb:Nat.beq i j<;>rw[hb] at h
  ·exact Rw _ (Rs h)
  ·have:=D4 hb;cases h;rw[this];simp
theorem ZD:∀{l:List (Nat × Bz)},(l.map (·.1)).Nodup->∀{i b},(i,b)∈l->Bq l i=some b
 |[],_,_,_,h=>by cases h
 |(j,c)::l,hn,i,b,h=>by
  simp only[Rz,List.nodup_cons] at hn;unfold Bq;rcases Bx.1 h with e|h
  ·cases e;simp only[Of,cond_true]
  ·have:Nat.beq i j=false:=by
    cases hb:Nat.beq i j
    ·rfl
    ·exact absurd (D4 hb ▸ List.mem_map.2 ⟨_,h,rfl⟩) hn.1
   simp only[this,cond_false];exact ZD hn.2 h
section
variable {R:Type}{r:R}{P:Program}{N:Nat}{w0:World}{X0:F6}{Y:Nat->Prop}{β β':Bt}{s:St}{a:Act}{w w':World}{A:Nat->Prop}
theorem Aqi{id:Nat}{t:CT}{p:PV}{K:PV->List (Nat × Bz)->Option R}(hk:An5 id t p K=some r):
  (∃c,K c []=some r/\CO c/\∀w A q u,Jy w A q p u->Az w A c u)\/∃es n cc,p=.own es n cc/\K (.view id es 0 n) [(id,.ar false cc)]=some r:=by
 have tree:∀t',(KH t' p fun c=>K c [])=some r->∃c,K c []=some r/\CO c/\∀w A q u,Jy w A q p u->Az w A c u:=by
  intro t' hk;obtain⟨c,hk,hT,SX,hv⟩:=Ro hk;refine⟨c,hk,hT,fun w A q u h=>(hv w A (fun _=>none) u ?_).1⟩;cases p<;>first|exact h|exact SX.elim
 unfold An5 at hk;cases t with
 |sl es=>
  dsimp only at hk;split at hk
  ·rename_i es' n c;cases hb:Nat.beq es' es<;>rw[hb] at hk
   ·cases hk
   ·have:=D4 hb;subst this;exact .inr ⟨_,_,_,rfl,hk⟩
  ·exact .inl (tree (.sl es) hk)
 |int k=>exact .inl (tree _ hk)
 |bool=>exact .inl (tree _ hk)
 |str=>exact .inl (tree _ hk)
 |any=>exact .inl (tree _ hk)
theorem V6:∀{ts:List CT}{id:Nat}{ps:Ab}{K:Ab->List (Nat × Bz)->Option R},KU N id ts ps K=some r ->
  ∃cs bs,∃qs:List (Nat × Nat),K cs bs=some r/\cs.length=ps.length/\ps.length=ts.length/\bs.map (·.1)=qs.map (·.1)/\(∀q∈qs,∀q'∈qs,q.2=q'.2->q.1=q'.1) /\
   (∀i bx,(i,bx)∈bs->∃c,bx=.ar false c)/\(∀c∈cs,TY c)/\(∀c∈cs,∀i∈Aw c,∃bx,(i,bx)∈bs) /\
   ∀(w:World) (A:Nat->Prop) (own β':Bt) (j0:Nat) (us:List Value),(∀q∈qs,β' q.1=own (j0+q.2))->Hr w A own j0 ps us->Bw (Ck w A β') cs us/\∀i bx,(i,bx)∈bs->Wh w A β' i bx
 |[],id,ps,K,hk=>by
  obtain⟨rfl,hk⟩:=El hk;refine⟨[],[],[],hk,rfl,rfl,rfl,by simp,by simp,by simp,by simp,fun w A own β' j0 us _ h=>⟨?_,by simp⟩⟩;cases us with
  |nil=>trivial
  |cons u us=>exact h.elim
 |t::ts,id,ps,K,hk=>by
  unfold KU at hk;obtain⟨p,ps',KV,Eg⟩:=Bj hk;subst KV;rcases Aqi Eg with⟨c,Gy,hT,hv⟩|⟨es,n,cc,rfl,Gy⟩
  ·obtain⟨cs,bs,qs,Vk,hl,NC,hb,OD,Iv,hF,Pi,U5⟩:=V6 Gy;refine⟨c::cs,bs,qs.map (fun q=>(q.1,q.2+1)),Vk,by simp[hl],by simp[NC],by rw[hb];simp,?_,Iv,?_,?_,fun w A own β' j0 us hβ ho=>?_⟩
   ·intro q hq q' Ic e;obtain⟨q0,FG,rfl⟩:=List.mem_map.1 hq;obtain⟨q1,Nx,rfl⟩:=List.mem_map.1 Ic;exact OD q0 FG q1 Nx (by simp only at e;omega)
   ·intro y hy;rcases Bx.1 hy with rfl|hy
    ·exact Xg hT
    ·exact hF y hy
   ·intro y hy i hi;rcases Bx.1 hy with rfl|hy
    ·rw[Kr hT] at hi;cases hi
    ·exact Pi y hy i hi
   ·cases us with
    |nil=>exact ho.elim
    |cons u us=>
     obtain⟨h1,h2⟩:=U5 w A own β' (j0+1) us (fun q hq=>by rw[hβ _ (List.mem_map_of_mem hq)];congr 1;simp only;omega) ho.2
     exact⟨⟨Ant (hv w A _ u ho.1),h1⟩,h2⟩
  ·obtain⟨cs,bs,qs,Vk,hl,NC,hb,OD,Iv,hF,Pi,U5⟩:=V6 Gy;refine⟨_::cs,(id,.ar false cc)::bs,(id,0)::qs.map (fun q=>(q.1,q.2+1)),Vk,by simp[hl],by simp[NC],by simp only[Rz,hb];simp,?_,?_,?_,?_,fun w A own β' j0 us hβ ho=>?_⟩
   ·intro q hq q' Ic e;rcases Bx.1 hq with rfl|hq
    ·rcases Bx.1 Ic with rfl|Ic
     ·rfl
     ·obtain⟨q0,FG,rfl⟩:=List.mem_map.1 Ic;simp only at e;omega
    ·obtain⟨q0,FG,rfl⟩:=List.mem_map.1 hq;rcases Bx.1 Ic with rfl|Ic
     ·simp only at e;omega
     ·obtain⟨q1,Nx,rfl⟩:=List.mem_map.1 Ic;exact OD q0 FG q1 Nx (by simp only at e;omega)
   ·intro i bx hm;rcases Bx.1 hm with e|hm
    ·cases e;exact⟨cc,rfl⟩
    ·exact Iv i bx hm
   ·intro y hy;rcases Bx.1 hy with rfl|hy
    ·trivial
    ·exact hF y hy
   ·intro y hy i hi;rcases Bx.1 hy with rfl|hy
    ·simp only[Aw,Lo] at hi;subst hi;exact⟨_,GF⟩
    ·obtain⟨bx,Oc⟩:=Pi y hy i hi;exact⟨bx,Rw _ Oc⟩
   ·cases us with
    |nil=>exact ho.elim
    |cons u us=>
     obtain⟨h1,h2⟩:=U5 w A own β' (j0+1) us (fun q hq=>by rw[hβ _ (Rw _ (List.mem_map_of_mem hq))];congr 1;simp only;omega) ho.2
     have h0:=hβ (id,0) GF;simp only[GD] at h0;refine⟨⟨?_,h1⟩,fun i bx hm=>?_⟩
     ·rcases ho.1 with⟨h3,rfl,_,h5⟩|⟨b,ob,cap,h3,h4,h5,h6,h7,_⟩
      ·exact .inl ⟨h0.trans h3,rfl,rfl,h5⟩
      ·exact .inr ⟨b,ob,ob,cap,h0.trans h3,h4,.inl rfl,h5,h6,h7⟩
     ·rcases Bx.1 hm with e|hm
      ·cases e;exact HM ho.1 h0
      ·exact h2 i bx hm
theorem Avp{i:Nat}{t:TypeId}{p:PV}{K:PV->List (Nat × Bz)->Option R}(hk:inK P N i t p K=some r):
  ∃v bs,∃qs:List (Nat × Nat),K v bs=some r/\bs.map (·.1)=qs.map (·.1)/\(∀q∈qs,∀q'∈qs,q.2=q'.2->q.1=q'.1)/\(IK p=true->(Dm N i,0)∈qs/\i<8) /\
   (∀id bx,(id,bx)∈bs->Ct (some bx)/\∀c,bx=.st c->id=Dm N i/\IK p=true)/\(∀id∈Cc v,∃bx,(id,bx)∈bs)/\KJ bs /\
   ∀(w:World) (A:Nat->Prop) (bt β':Bt) (u:Value),(∀q∈qs,β' q.1=bt q.2)->Adz w A bt p u->Eo w A β' v u/\(∀id bx,(id,bx)∈bs->Wh w A β' id bx) /\
    ∀id bx b o,(id,bx)∈bs->β' id=some (b,o)->∀j,BR bx o j->Ayp bt p b j:=by
 have owns:∀{bs:List (Nat × Bz)} {qs:List (Nat × Nat)},bs.map (·.1)=qs.map (·.1)->(∀i bx,(i,bx)∈bs->∃c,bx=.ar false c)->∀{bt β':Bt},(∀q∈qs,β' q.1=bt (1+q.2))->∀id bx b o,(id,bx)∈bs->β' id=some (b,o)->∀j,BR bx o j->∃k o',bt (k+1)=some (b,o')/\o'<=j:=by
  intro bs qs hb Iv bt β' hβ id bx b o hm hbo j hj;have:id∈qs.map (·.1):=by rw[<-hb];exact List.mem_map.2 ⟨_,hm,rfl⟩
  obtain⟨q,hq,rfl⟩:=List.mem_map.1 this;obtain⟨c,rfl⟩:=Iv _ _ hm;rw[hβ q hq,Nat.add_comm] at hbo;exact⟨q.2,o,hbo,hj⟩
 have nost:∀{bs:List (Nat × Bz)},(∀i bx,(i,bx)∈bs->∃c,bx=.ar false c)->KJ bs:=by
  intro bs Iv id cells hm;obtain⟨c,e⟩:=Iv id _ hm;cases e
 unfold inK at hk;split at hk
 ·rename_i e he;obtain⟨ps,rfl,Eg⟩:=WD hk;obtain⟨hi8,Gy⟩:=Au Eg;have hi8:i<8:=Nat.lt_of_succ_le (Wu hi8);obtain⟨cs,bs,qs,Vk,hl,NC,hb,OD,Iv,hF,Pi,hv⟩:=V6 Gy;refine⟨_,_,(Dm N i,0)::qs.map (fun q=>(q.1,q.2+1)),Vk,by simp only[Rz,hb];simp,?_,fun _=>⟨GF,hi8⟩,?_,?_,?_,fun w A bt β' u hβ hp=>?_⟩
  ·intro q hq q' Ic e;rcases Bx.1 hq with rfl|hq
   ·rcases Bx.1 Ic with rfl|Ic
    ·rfl
    ·obtain⟨q0,FG,rfl⟩:=List.mem_map.1 Ic;simp only at e;omega
   ·obtain⟨q0,FG,rfl⟩:=List.mem_map.1 hq;rcases Bx.1 Ic with rfl|Ic
    ·simp only at e;omega
    ·obtain⟨q1,Nx,rfl⟩:=List.mem_map.1 Ic;exact OD q0 FG q1 Nx (by simp only at e;omega)
  ·intro id bx hm;rcases Bx.1 hm with e|hm
   ·cases e;exact⟨trivial,fun _ _=>⟨rfl,rfl⟩⟩
   ·obtain⟨c,rfl⟩:=Iv id bx hm;exact⟨trivial,fun _ e=>by cases e⟩
  ·intro id Br;simp only[Cc,Cn,Aw,Lo] at Br;subst Br;exact⟨_,GF⟩
  ·intro id cells hm c hc k hk;rcases Bx.1 hm with e|hm
   ·cases e;obtain⟨bx,Oc⟩:=Pi c hc k hk;exact⟨bx,Rw _ Oc⟩
   ·obtain⟨c,e⟩:=Iv id _ hm;cases e
  ·obtain⟨b,o,h1,rfl,_,vs,h3,h4,h5⟩:=hp;have h0:=hβ (Dm N i,0) GF;simp only at h0;have hβ1:∀q∈qs,β' q.1=bt (1+q.2):=fun q hq=>by rw[hβ _ (Rw _ (List.mem_map_of_mem hq)),Nat.add_comm]
   obtain⟨h6,h7⟩:=hv w A bt β' 1 vs hβ1 h3;refine⟨⟨b,o,h0.trans h1,by simp⟩,fun id bx hm=>?_,fun id bx b' o' hm Jh j hj=>?_⟩
   ·rcases Bx.1 hm with e|hm
    ·cases e;refine⟨b,o,h0.trans h1,fun k c hk=>?_,fun k hk=>h5 k (by omega)⟩;obtain⟨v,hv,hcr⟩:=h6.get hk;exact⟨v,h4 k v hv,hcr⟩
    ·exact h7 id bx hm
   ·rcases Bx.1 hm with e|hm
    ·cases e;rw[h0] at Jh;have hj:o'<=j/\j<o'+cs.length:=hj;exact .inr ⟨o',ps,Jh,hj.1,.inl ⟨rfl,by omega⟩⟩
    ·exact .inl (owns hb Iv hβ1 id bx b' o' hm Jh j hj)
 ·split at hk
  ·rename_i ps;obtain⟨e,he,Eg⟩:=Dt hk;obtain⟨hi8,Gy⟩:=Au Eg;have hi8:i<8:=Nat.lt_of_succ_le (Wu hi8);obtain⟨q,qr,hq,Vk⟩:=Bj Gy;subst hq;obtain⟨NB,U8⟩:=El Vk;subst NB;unfold Kn at U8;split at U8
   ·rename_i es' n c;cases hb:Nat.beq es' (Bm P e)<;>rw[hb] at U8
    ·cases U8
    ·have MO:=D4 hb;subst MO;refine⟨_,_,[(Dm N i,0)],U8,rfl,by simp,fun _=>⟨by simp,hi8⟩,?_,?_,?_,fun w A bt β' u hβ hp=>?_⟩
     ·intro id bx hm;simp only[Lo] at hm;cases hm;exact⟨trivial,fun _ e=>by cases e⟩
     ·intro id Br;simp only[Cc,Cn,Aw,Lo] at Br;subst Br;exact⟨_,GF⟩
     ·intro id cells hm;simp only[Lo] at hm;cases hm
     ·obtain⟨es,n',c',h1,h2⟩:=hp;cases h1;have h0:=hβ (Dm N i,0) GF;simp only at h0;refine⟨?_,fun id bx hm=>?_,fun id bx b' o' hm Jh j hj=>?_⟩
      ·rcases h2 with⟨h3,rfl,_,h5⟩|⟨b,ob,cap,h3,h4,h5,h6,h7,_⟩
       ·exact .inl ⟨h0.trans h3,rfl,rfl,h5⟩
       ·exact .inr ⟨b,ob,ob,cap,h0.trans h3,h4,.inl rfl,h5,h6,h7⟩
      ·simp only[Lo] at hm;cases hm;exact HM h2 h0
      ·simp only[Lo] at hm;cases hm;rw[h0] at Jh;exact .inr ⟨o',_,Jh,hj,.inr rfl⟩
   ·cases U8
  ·rename_i hnt;cases Im:Cr P t<;>rw[Im] at hk
   ·simp only[cond_false] at hk;obtain⟨cs,bs,qs,Vk,hl,NC,hb,OD,Iv,hF,Pi,hv⟩:=V6 hk;obtain⟨c,cs',VL,U8⟩:=Bj Vk;subst VL;obtain⟨NB,XW⟩:=El U8;subst NB;have hFc:=hF c (by simp)
    have hnL:IK p=false\/∃ps,p=.pbox ps:=by
     cases p<;>first|exact .inl rfl|exact .inr ⟨_,rfl⟩|exact absurd rfl (hnt _)
    have hpb:∀ps,p ≠ .pbox ps:=by
     rintro ps rfl
     cases hts:Lm P t with
     |nil=>rw[hts] at NC;simp at NC
     |cons t' ts=>
      rw[hts] at hk;unfold KU An5 at hk;obtain⟨q,qs1,hq,Eg⟩:=Bj hk;cases hq;cases t'<;>simp[KH,M0,A8,Co,Ez,fnK] at Eg
    have hpa:∀ps,p ≠ .agg ps:=by
     rintro ps rfl
     cases hts:Lm P t with
     |nil=>rw[hts] at NC;simp at NC
     |cons t' ts=>
      rw[hts] at hk;unfold KU An5 at hk;obtain⟨q,qs1,hq,Eg⟩:=Bj hk;cases hq;cases t'<;>simp[KH,M0,A8,Co,Ez,fnK] at Eg
    have hnL:IK p=false:=hnL.elim id (fun ⟨ps,e⟩=>absurd e (hpb ps));have CR:Cc c=Aw c:=by cases c<;>first|rfl|exact hFc.elim
    refine⟨c,bs,qs.map (fun q=>(q.1,q.2+1)),XW,by rw[hb];simp,?_,(fun h=>by rw[hnL] at h;cases h),?_,fun id Br=>Pi c (by simp) id (by rw[<-CR];exact Br),nost Iv,fun w A bt β' u hβ hp=>?_⟩
    ·intro q hq q' Ic e;obtain⟨q0,FG,rfl⟩:=List.mem_map.1 hq;obtain⟨q1,Nx,rfl⟩:=List.mem_map.1 Ic;exact OD q0 FG q1 Nx (by simp only at e;omega)
    ·intro id bx hm;obtain⟨c,rfl⟩:=Iv id bx hm;exact⟨trivial,fun _ e=>by cases e⟩
    ·have C5:Jy w A (bt 1) p u:=by cases p<;>first|exact hp.2|exact absurd rfl (hpa _)|exact absurd rfl (hpb _)|exact absurd rfl (hnt _)
     have hβ1:∀q∈qs,β' q.1=bt (1+q.2):=fun q hq=>by rw[hβ _ (List.mem_map_of_mem hq),Nat.add_comm]
     obtain⟨h6,h7⟩:=hv w A bt β' 1 [u] hβ1 ⟨C5,trivial⟩;refine⟨?_,h7,fun id bx b' o' hm Jh j hj=>.inl (owns hb Iv hβ1 id bx b' o' hm Jh j hj)⟩;have h8:=h6.1;cases c<;>first|exact h8|exact hFc.elim
   ·simp only[cond_true] at hk;obtain⟨ps,hp0,Eg⟩:=Kp hk;subst hp0;obtain⟨cs,bs,qs,Vk,hl,NC,hb,OD,Iv,hF,Pi,hv⟩:=V6 Eg;refine⟨_,bs,qs.map (fun q=>(q.1,q.2+1)),Vk,by rw[hb];simp,?_,(fun h=>by cases h),?_,fun id Br=>?_,nost Iv,fun w A bt β' u hβ hp=>?_⟩
    ·intro q hq q' Ic e;obtain⟨q0,FG,rfl⟩:=List.mem_map.1 hq;obtain⟨q1,Nx,rfl⟩:=List.mem_map.1 Ic;exact OD q0 FG q1 Nx (by simp only at e;omega)
    ·intro id bx hm;obtain⟨c,rfl⟩:=Iv id bx hm;exact⟨trivial,fun _ e=>by cases e⟩
    ·obtain⟨c,hc,hi⟩:=List.mem_flatMap.1 (show id∈cs.flatMap Aw from Br);exact Pi c hc id hi
    ·obtain⟨vs,h1,_,h3⟩:=hp;have hβ1:∀q∈qs,β' q.1=bt (1+q.2):=fun q hq=>by rw[hβ _ (List.mem_map_of_mem hq),Nat.add_comm]
     obtain⟨h6,h7⟩:=hv w A bt β' 1 vs hβ1 h3;exact⟨⟨vs,h1,h6⟩,h7,fun id bx b' o' hm Jh j hj=>.inl (owns hb Iv hβ1 id bx b' o' hm Jh j hj)⟩
theorem Aec:∀{ts:List TypeId}{i:Nat}{ps:Ab}{K:List (Nat × PV)->List (Nat × Bz)->Option R},Afx P N i ts ps K=some r ->
  ∃tms bs,∃qs:List (Nat × Nat × Nat),K tms bs=some r/\bs.map (·.1)=qs.map (·.1)/\(∀q∈qs,i<=q.2.1)/\(∀q∈qs,∀q'∈qs,q.2=q'.2->q.1=q'.1) /\
   (∀k p,ps[k]?=some p->IK p=true->(Dm N (i+k),i+k,0)∈qs/\i+k<8)/\(∀id bx,(id,bx)∈bs->Ct (some bx)/\∀c,bx=.st c->∃k p,ps[k]?=some p/\IK p=true/\id=Dm N (i+k)) /\
   (∀j,∀id∈Cc (lk tms j),∃bx,(id,bx)∈bs)/\KJ bs /\
   ∀(w:World) (A:Nat->Prop) (bt:MR) (β':Bt) (us:List Value),(∀q∈qs,β' q.1=bt q.2.1 q.2.2)->Qm w A bt i ps us ->
    (∀j,(∃u,i<=j/\us[j-i]?=some u/\Eo w A β' (lk tms j) u)\/(lk tms j=.top/\(i<=j->us[j-i]?=none)))/\(∀id bx,(id,bx)∈bs->Wh w A β' id bx) /\
    ∀id bx b o,(id,bx)∈bs->β' id=some (b,o)->∀j,BR bx o j->∃k p,ps[k]?=some p/\Ayp (bt (i+k)) p b j
 |[],i,ps,K,hk=>by
  obtain⟨KV,hk⟩:=El hk;subst KV;refine⟨[],[],[],hk,rfl,by simp,by simp,by simp,by simp,(fun j id Br=>by cases Br),(by intro i cells hm;cases hm),fun w A bt β' us _ h=>?_⟩
  cases us with
  |nil=>exact⟨fun j=>.inr ⟨rfl,fun _=>by simp⟩,by simp,by simp⟩
  |cons u us=>exact h.elim
 |t::ts,i,ps,K,hk=>by
  unfold Afx at hk;obtain⟨p,ps',KV,Eg⟩:=Bj hk;subst KV;obtain⟨v,bs,qs,Gy,hb,hqi,Zu,Oc,hr,hri,hv⟩:=Avp Eg;obtain⟨tms,bs',qs',Vk,Jh,Ax7,A7a,A15,A5i,hr',A7g,Uq⟩:=Aec Gy;refine⟨(i,v)::tms,bs++bs',qs.map (fun q=>(q.1,i,q.2))++qs',Vk,by simp only[List.map_append,hb,Jh];simp,?_,?_,?_,?_,?_,?_,fun w A bt β' us hβ hp=>?_⟩
  ·intro q hq;rcases Bu.1 hq with hq|hq
   ·obtain⟨q0,FG,rfl⟩:=List.mem_map.1 hq;exact Dn _
   ·have:=Ax7 q hq;omega
  ·intro q hq q' Ic e;rcases Bu.1 hq with hq|hq
   ·obtain⟨q0,FG,rfl⟩:=List.mem_map.1 hq;rcases Bu.1 Ic with Ic|Ic
    ·obtain⟨q1,Nx,rfl⟩:=List.mem_map.1 Ic;simp only[Prod.mk.injEq,true_and] at e;exact hqi q0 FG q1 Nx e
    ·have:=Ax7 q' Ic;rw[<-e] at this;simp only at this;omega
   ·have h5:=Ax7 q hq;rcases Bu.1 Ic with Ic|Ic
    ·obtain⟨q1,Nx,rfl⟩:=List.mem_map.1 Ic;rw[e] at h5;simp only at h5;omega
    ·exact A7a q hq q' Ic e
  ·intro k p' Jj hL;cases k with
   |zero=>
    simp only[List.getElem?_cons_zero,Option.some.injEq] at Jj;subst Jj;obtain⟨h1,h2⟩:=Zu hL;exact⟨Bu.2 (.inl (List.mem_map.2 ⟨_,h1,rfl⟩)),h2⟩
   |succ k=>
    obtain⟨h1,h2⟩:=A15 k p' (by simpa using Jj) hL;rw[show i+1+k=i+(k+1) by omega] at h1 h2;exact⟨Bu.2 (.inr h1),h2⟩
  ·intro id bx hm;rcases Bu.1 hm with hm|hm
   ·obtain⟨h1,h2⟩:=Oc id bx hm;exact⟨h1,fun c hc=>⟨0,p,rfl,(h2 c hc).2,(h2 c hc).1⟩⟩
   ·obtain⟨h1,h2⟩:=A5i id bx hm;refine⟨h1,fun c hc=>?_⟩;obtain⟨k,p',h3,h4,h5⟩:=h2 c hc;exact⟨k+1,p',by simpa using h3,h4,by rw[h5,show i+1+k=i+(k+1) by omega]⟩
  ·intro j id Br;unfold lk at Br;cases hbq:Nat.beq j i<;>rw[hbq] at Br
   ·obtain⟨bx,h1⟩:=hr' j id Br;exact⟨bx,Bu.2 (.inr h1)⟩
   ·obtain⟨bx,h1⟩:=hr id Br;exact⟨bx,Bu.2 (.inl h1)⟩
  ·intro id cells hm c hc k hk;rcases Bu.1 hm with hm|hm
   ·obtain⟨bx,h1⟩:=hri id cells hm c hc k hk;exact⟨bx,Bu.2 (.inl h1)⟩
   ·obtain⟨bx,h1⟩:=A7g id cells hm c hc k hk;exact⟨bx,Bu.2 (.inr h1)⟩
  ·cases us with
   |nil=>exact hp.elim
   |cons u us=>
    obtain⟨h1,h2,h3⟩:=hv w A (bt i) β' u (fun q hq=>hβ _ (Bu.2 (.inl (List.mem_map_of_mem hq)))) hp.1;obtain⟨WR,h2',h3'⟩:=Uq w A bt β' us (fun q hq=>hβ q (Bu.2 (.inr hq))) hp.2;refine⟨fun j=>?_,fun id bx hm=>?_,fun id bx b o hm hbo j hj=>?_⟩
    ·unfold lk;cases hbq:Nat.beq j i
     ·have Ge:=Ru hbq;simp only[cond_false];rcases WR j with⟨u',h4,h5,h6⟩|⟨h4,h5⟩
      ·refine .inl ⟨u',by omega,?_,h6⟩;rw[show j-i=(j-(i+1))+1 by omega]
       simpa using h5
      ·refine .inr ⟨h4,fun hij=>?_⟩;rw[show j-i=(j-(i+1))+1 by omega]
       simpa using h5 (by omega)
     ·have:=D4 hbq;subst this;exact .inl ⟨u,Dn _,by simp,h1⟩
    ·rcases Bu.1 hm with hm|hm
     ·exact h2 id bx hm
     ·exact h2' id bx hm
    ·rcases Bu.1 hm with hm|hm
     ·exact⟨0,p,rfl,h3 id bx b o hm hbo j hj⟩
     ·obtain⟨k,p',h4,h5⟩:=h3' id bx b o hm hbo j hj;exact⟨k+1,p',by simpa using h4,by rw[show i+(k+1)=i+1+k by omega];exact h5⟩
def FD(bt:MR)(args:Ab)(h8:∀k p,args[k]?=some p->IK p=true->k<8):F6:=
 ⟨BtX bt,WH bt args,fun i=>∃p,args[i]?=some p/\IK p=true,fun i=>bt i 0,fun i ⟨p,h1,h2⟩=>h8 i p h1 h2⟩
theorem KF{ts:List TypeId}{args:Ab}{us:List Value}{bt:MR}{K:List (Nat × PV)->List (Nat × Bz)->Option R}(BH:Ins w Y bt args us)(hk:Afx P N 0 ts args K=some r):
  ∃tms bs,K tms bs=some r/\(Cl (fun _=>none) bs=true->us.length<=N->∃(h8:∀k p,args[k]?=some p->IK p=true->k<8),∃β0,
   B9 N w (FD bt args h8) Y β0 ⟨lk tms,Bq bs⟩ { tmps:=us.toArray++Array.replicate (N-us.toArray.size) undef,defers:=[] } w):=by
 obtain⟨tms,bs,qs,Eg,hb,FG,hqi,Zu,Oc,hr,hri,hv⟩:=Aec hk;refine⟨tms,bs,Eg,fun Vj hN=>?_⟩;have Af3:=X6 Vj
 have h8:∀k p,args[k]?=some p->IK p=true->k<8:=fun k p h1 h2=>by
  have:=(Zu k p h1 h2).2;omega
 have TH:(qs.map (·.1)).Nodup:=by rw[<-hb];exact Af3
 obtain⟨β0,hβ0⟩:∃β0:Bt,∀q∈qs,β0 q.1=bt q.2.1 q.2.2:=by
  have:∀(l:List (Nat × Nat × Nat)),(l.map (·.1)).Nodup->∃β0:Bt,∀q∈l,β0 q.1=bt q.2.1 q.2.2:=by
   intro l
   induction l with
   |nil=>intro _;exact⟨fun _=>none,by simp⟩
   |cons q l ih=>
    intro hn;simp only[Rz,List.nodup_cons] at hn;obtain⟨b1,h1⟩:=ih hn.2;refine⟨Db b1 q.1 (bt q.2.1 q.2.2),fun q' Ic=>?_⟩;rcases Bx.1 Ic with rfl|Ic
    ·exact Ax _ _ _
    ·have Ge:q'.1≠q.1:=fun e=>hn.1 (by rw[<-e];exact List.mem_map.2 ⟨q',Ic,rfl⟩)
     rw[Ar _ _ Ge];exact h1 q' Ic
  exact this qs TH
 refine⟨h8,β0,?_⟩;obtain⟨hs,hbr,hL⟩:=hv w _ bt β0 us hβ0 BH.args
 have hqm:∀id bx,(id,bx)∈bs->∃ik,(id,ik)∈qs/\β0 id=bt ik.1 ik.2:=by
  intro id bx hm;have:id∈qs.map (·.1):=by rw[<-hb];exact List.mem_map.2 ⟨_,hm,rfl⟩
  obtain⟨q,hq,rfl⟩:=List.mem_map.1 this;exact⟨q.2,hq,hβ0 q hq⟩
 have hX:∀b,DS (Bq bs) β0 b->BtX bt b:=by
  rintro b ⟨id,o,hl,hβ⟩
  cases hq:Bq bs id with
  |none=>rw[hq] at hl;exact hl.elim
  |some bx=>
   obtain⟨ik,_,h2⟩:=hqm id bx (Rs hq);rw[h2] at hβ;exact⟨_,_,_,hβ⟩
 have hA:∀b,Dd (Bq bs) β0 Y b->BtX bt b\/Y b:=fun b hb=>hb.imp (hX b) id;have At2:∀{p:PV} {u:Value},Eo w (fun b=>BtX bt b\/Y b) β0 p u->Eo w (Dd (Bq bs) β0 Y) β0 p u:=fun h=>h.step (Cq.refl _ _) (fun b _=>hA b) (fun _ _=>rfl);refine⟨rfl,by simp;omega,fun i hi=>?_,fun i hi=>?_,?_,?_,?_,fun i hi id Br=>?_,?_,fun b hb=>.inl (hX b hb),?_,?_,?_,fun b hY hXb=>BH.Yx b hY (hX b hXb),BH.Ylt,⟨rfl,rfl,rfl,Cq.refl _ _,fun _ _ _ _=>⟨rfl,rfl⟩⟩⟩
 ·rcases hs i with⟨u,_,h,_⟩|⟨h,_⟩
  ·rw[Nat.sub_zero,List.getElem?_eq_none (by omega)] at h;cases h
  ·exact h
 ·rcases hs i with⟨u,_,h,hv⟩|⟨h,h'⟩
  ·rw[Nat.sub_zero] at h
   have Ch:i<us.length:=by
    rcases K6 i us.length with h'|h'
    ·exact h'
    ·rw[List.getElem?_eq_none h'] at h;cases h
   have:(us.toArray++Array.replicate (N-us.toArray.size) undef).getD i undef=u:=by
    rw[Array.getD_eq_getD_getElem?,Array.getElem?_append_left (by simpa using Ch)];simp[h]
   show Eo w _ _ _ ((us.toArray++Array.replicate (N-us.toArray.size) undef).getD i undef);rw[this];exact At2 hv
  ·show Eo w _ _ (lk tms i) _;rw[h];exact Az.top _
 ·intro id bx hq;exact (hbr id bx (Rs hq)).step' hA
 ·intro id id' b o o' hl Pc hβ hβ';cases hq:Bq bs id with
  |none=>change Ct (Bq bs id) at hl;rw[hq] at hl;exact hl.elim
  |some bx=>
   cases Ic:Bq bs id' with
   |none=>change Ct (Bq bs id') at Pc;rw[Ic] at Pc;exact Pc.elim
   |some bx'=>
    obtain⟨ik,h1,h2⟩:=hqm id bx (Rs hq);obtain⟨ik',WR,h2'⟩:=hqm id' bx' (Rs Ic);rw[h2] at hβ;rw[h2'] at hβ';obtain⟨h3,h4⟩:=BH.inj _ _ _ _ b o o' hβ hβ';exact hqi _ h1 _ WR (Prod.ext h3 h4)
 ·intro id b o hn hβ;cases hq:Bq bs id with
  |none=>exact absurd hq hn
  |some bx=>
   obtain⟨ik,h1,h2⟩:=hqm id bx (Rs hq);rw[h2] at hβ;exact BH.lt b ⟨_,_,_,hβ⟩
 ·obtain⟨bx,hm⟩:=hr i id Br;show Bq bs id≠none;rw[ZD Af3 hm];simp
 ·intro id cells hq c hc k hk;obtain⟨bx,hm⟩:=hri id cells (Rs hq) c hc k hk;show Bq bs k≠none;rw[ZD Af3 hm];simp
 ·intro id bx b o hq hl hβ _ j hj;obtain⟨k,p,h1,h2⟩:=hL id bx b o (Rs hq) hβ j hj;rw[Cu] at h2;exact⟨k,p,h1,h2⟩
 ·rintro i ⟨p,h1,h2⟩
  have h3:=(Zu i p h1 h2).1;rw[Cu] at h3;refine⟨?_,hβ0 _ h3⟩;have:Dm N i∈bs.map (·.1):=by rw[hb];exact List.mem_map.2 ⟨_,h3,rfl⟩
  obtain⟨⟨id,bx⟩,hm,e⟩:=List.mem_map.1 this;show Bq bs (Dm N i)≠none;rw[<-e,ZD Af3 hm];simp
 ·intro id c b o hq _ _;obtain⟨k,p,h1,h2,h3⟩:=(Oc id _ (Rs hq)).2 c rfl;rw[Cu] at h3;exact⟨k,h3,p,h1,h2⟩
end
open Go.RowKit
def Ps(β:Bt)(l:List (Option Nat))(j:Nat):Option (Nat × Nat):=((l[j]?).bind id).bind β
section
variable {R:Type}{r:R}{P:Program}{N:Nat}{w0:World}{X0:F6}{Y:Nat->Prop}{β β':Bt}{s:St}{a:Act}{w w':World}{A:Nat->Prop}
def Ao2(s:St)(l:List (Option Nat)):Prop:=∀id,some id∈l->Ct (s.hp id)
def Rb(s:St)(z:B5):Prop:=∀id∈z,∃f c,s.hp id=some (.ar f c)
theorem VZ(h : B9 N w0 X0 Y β s a w){shr : Bool}{t : CT}{p : PV}{K : PV -> B5 -> B5 -> Option R}(hk : Aim shr s.hp t p K = some r):
    ∃ c q z, K c (Option.toList q) z = some r /\ (∀ x, c ≠ .agg x /\ c ≠ .pbox x) /\ TY p /\ (∀ id, q = some id -> ∃ c, s.hp id = some (.ar false c)) /\ Rb s z /\
      ∀ (fz : B5) A u, (∀ i ∈ z, i ∈ fz) -> Rb s fz -> (∀ b, A b -> Dd (Ae s.hp fz) β Y b) -> Ck w (Dd s.hp β Y) β p u -> Jy w A (q.bind β) c u := by
  have notree : ∀ {c : PV}, CO c -> ∀ x, c ≠ .agg x /\ c ≠ .pbox x := fun hT x => ⟨FU hT x, by rintro rfl; exact hT⟩
  unfold Aim at hk
  cases shr <;> simp only[cond_true, cond_false] at hk
  · have tree : ∀ t', (∀ es, t' ≠ .sl es) -> (KH t' p fun c => K c [] []) = some r -> ∃ c q z, K c (Option.toList q) z = some r /\ (∀ x, c ≠ .agg x /\ c ≠ .pbox x) /\ TY p /\ (∀ id, q = some id -> ∃ c, s.hp id = some (.ar false c)) /\ Rb s z /\
        ∀ (fz : B5) A u, (∀ i ∈ z, i ∈ fz) -> Rb s fz -> (∀ b, A b -> Dd (Ae s.hp fz) β Y b) -> Ck w (Dd s.hp β Y) β p u -> Jy w A (q.bind β) c u := by
      intro t' Ge hk
      obtain⟨c, Eg, hT, SX, hv⟩ := Ro hk
      refine⟨c, none, [], Eg, notree hT, Xg SX, by simp, (by intro i hi; cases hi), fun fz A u _ _ hA hc => O5 hT ?_⟩
      exact (hv w _ β u hc).1.step (Cq.refl _ _) (fun b _ hb => Se (hA b hb))
    unfold Av3 at hk
    cases t with
    | sl es =>
      dsimp only at hk
      split at hk
      · rename_i id es' off n
        cases hb : (Nat.beq es' es && Nat.beq off 0) <;> rw[hb] at hk
        · cases hk
        · simp only[Gl] at hb
          have he := D4 hb.1
          have ho := D4 hb.2
          subst he ho
          simp only[cond_true] at hk
          split at hk
          · rename_i c h0
            obtain⟨hl, Eg⟩ := Au hk
            refine⟨_, some id, [], Eg, by simp, trivial, fun i hi => by cases hi; exact⟨c, h0⟩, (by intro i hi; cases hi), fun fz A u _ _ hA hc => ?_⟩
            rcases hc with⟨h1, _, rfl, h4⟩ | ⟨b, o, x, cap, h1, h2, hx, h3, h4, h5⟩
            · exact .inl ⟨h1, rfl, by simp, h4⟩
            · have hx : x = o := by rcases hx with e | ⟨_, e⟩ <;> omega
              subst hx
              rcases h.box id _ h0 with⟨h6, _⟩ | ⟨b', o', h6, h7, h8, _⟩
              · rw[h1] at h6; cases h6
              · rw[h1] at h6
                cases h6
                refine .inr ⟨b, x, cap, h1, h2, h3, h4, h5, fun j q hq => ?_, fun j hj Y1 => h8 rfl j hj Y1⟩
                rw[List.getElem?_take] at hq
                split at hq
                · obtain⟨v, hv, h9, ht⟩ := h7 j q hq
                  exact⟨v, hv, h9, ht.step (Cq.refl _ _) (fun b _ hb => Se (hA b hb))⟩
                · cases hq
          · cases hk
      · obtain⟨z, n, c, Eg, hp⟩ := H3 hk
        obtain⟨hz, Gy⟩ := Au Eg
        subst hz
        have hpF : TY p := by rcases hp with e | ⟨e, _⟩ <;> (rw[e]; trivial)
        refine⟨_, none, [], Gy, by simp, hpF, by simp, (by intro i hi; cases hi), fun fz A u _ _ _ hc => ?_⟩
        have hu : u = .slice none 0 0 := by
          rcases hp with rfl | ⟨rfl, _⟩
          · cases hc; rfl
          · exact Az.val hc
        exact .inl ⟨rfl, rfl, rfl, none, hu⟩
    | int k => exact tree _ (by simp) hk
    | bool => exact tree _ (by simp) hk
    | str => exact tree _ (by simp) hk
    | any => exact tree _ (by simp) hk
  · obtain⟨c, m, Eg, hT, hF, hm, hv⟩ := PZ h hk
    exact⟨c, none, m, Eg, notree hT, hF, by simp, hm, fun fz A u h1 h2 hA hc => O5 hT ((hv fz h1 h2 u hc).1.step (Cq.refl _ _) (fun b _ hb => hA b hb))⟩
structure NQ(s:St)(β:Bt)(Y:Nat->Prop)(w:World)(cs:Ab)(l:List (Option Nat))(z:B5)(ps:Ab):Prop where
 len:l.length=cs.length
 pl:cs.length=ps.length
 na:∀c∈cs,∀x,c ≠ .agg x/\c ≠ .pbox x
 fr:∀p∈ps,TY p
 own:∀id,some id∈l->∃c,s.hp id=some (.ar false c)
 row:Rb s z
 sem:∀(fz:B5) A us,(∀i∈z,i∈fz)->Rb s fz->(∀b,A b->Dd (Ae s.hp fz) β Y b)->Bw (Ck w (Dd s.hp β Y) β) ps us->∀own j0,(∀j,j<l.length->own (j0+j)=Ps β l j)->Hr w A own j0 cs us
theorem NQ.nil:NQ s β Y w [] [] [] []:=⟨rfl,rfl,by simp,by simp,by simp,(by intro i hi;cases hi),fun fz A us _ _ _ hu own j0 _=>by
 cases us with
 |nil=>trivial
 |cons u us=>exact hu.elim⟩
theorem NQ.cons{c p:PV}{q:Option Nat}{z zs:B5}{cs ps:Ab}{l:List (Option Nat)}(JD:∀x,c ≠ .agg x/\c ≠ .pbox x)(hF:TY p)(hq:∀id,q=some id->∃c,s.hp id=some (.ar false c))(hz:Rb s z)(hv:∀(fz:B5) A u,(∀i∈z,i∈fz)->Rb s fz->(∀b,A b->Dd (Ae s.hp fz) β Y b)->Ck w (Dd s.hp β Y) β p u->Jy w A (q.bind β) c u)(H:NQ s β Y w cs l zs ps):NQ s β Y w (c::cs) (q::l) (z++zs) (p::ps):=by
 refine⟨by simp[H.len],by simp[H.pl],?_,?_,?_,?_,fun fz A us hz1 hz2 hA hu own j0 Hb=>?_⟩
 ·intro x hx;rcases Bx.1 hx with rfl|hx
  ·exact JD
  ·exact H.na x hx
 ·intro x hx;rcases Bx.1 hx with rfl|hx
  ·exact hF
  ·exact H.fr x hx
 ·intro id Br;rcases Bx.1 Br with e|Br
  ·exact hq id e.symm
  ·exact H.own id Br
 ·intro i hi;rcases Bu.1 hi with hi|hi
  ·exact hz i hi
  ·exact H.row i hi
 ·cases us with
  |nil=>exact hu.elim
  |cons u us=>
   have h0:=Hb 0 (by simp);rw[GD] at h0;refine⟨?_,H.sem fz A us (fun i hi=>hz1 i (by simp[hi])) hz2 hA hu.2 own (j0+1) fun j hj=>?_⟩
   ·rw[h0];exact hv fz A u (fun i hi=>hz1 i (by simp[hi])) hz2 hA hu.1
   ·have:=Hb (j+1) (by simp;omega)
    rw[show j0+1+j=j0+(j+1) by omega,this];simp[Ps]
theorem X1(h:B9 N w0 X0 Y β s a w){shr:Bool}:∀{ts:List CT}{ps:Ab}{K:Ab->B5->B5->Option R},KO shr s.hp ts ps K=some r ->
  ∃cs l z,K cs (l.filterMap id) z=some r/\NQ s β Y w cs l z ps
 |[],[],K,hk=>⟨[],[],[],hk,NQ.nil⟩
 |[],_::_,K,hk=>by cases hk
 |_::_,[],K,hk=>by cases hk
 |t::ts,p::ps,K,hk=>by
  unfold KO at hk;obtain⟨c,q,z,Eg,JD,hF,hq,hz,hv⟩:=VZ h hk;obtain⟨cs,l,zs,Gy,H⟩:=X1 h Eg;refine⟨c::cs,q::l,z++zs,?_,NQ.cons JD hF hq hz hv H⟩;cases q<;>exact Gy
theorem ME(h:B9 N w0 X0 Y β s a w):∀{ts:List CT}{ws ps:Ab}{K:Ab->B5->B5->Option R},OS s.hp ts ws ps K=some r ->
  ∃cs l z,K cs (l.filterMap id) z=some r/\cs.length=ws.length/\NQ s β Y w cs l z ps
 |[],[],[],K,hk=>⟨[],[],[],hk,rfl,NQ.nil⟩
 |[],_::_,_,K,hk=>by cases hk
 |[],[],_::_,K,hk=>by cases hk
 |_::_,[],_,K,hk=>by cases hk
 |_::_,_::_,[],K,hk=>by cases hk
 |t::ts,x::ws,p::ps,K,hk=>by
  unfold OS at hk;obtain⟨c,q,z,Eg,JD,hF,hq,hz,hv⟩:=VZ h hk;obtain⟨cs,l,zs,Gy,hl,H⟩:=ME h Eg;refine⟨c::cs,q::l,z++zs,?_,by simp[hl],NQ.cons JD hF hq hz hv H⟩;cases q<;>exact Gy
theorem Ag8{own:Bt}{zz j:Nat}{p:PV}{u:Value}(hp:∀x,p ≠ .agg x/\p ≠ .pbox x)(h:Hr w A own j [p] [u]):Ats w A own zz j p u:=by cases p<;>first|exact h.1|exact absurd rfl (hp _).1|exact absurd rfl (hp _).2
theorem Ai8(h:B9 N w0 X0 Y β s a w){id b o:Nat}{c cs:Ab}{l:List (Option Nat)}{z:B5}(h0:s.hp id=some (.st c))(hβ:β id=some (b,o))(H:NQ s β Y w cs l z c){fz:B5}{A:Nat->Prop}(h1:∀i∈z,i∈fz)(h2:Rb s fz)(hA:∀b,A b->Dd (Ae s.hp fz) β Y b){own:Bt}{j0:Nat}(Hb:∀j,j<l.length->own (j0+j)=Ps β l j):Au2 w A own j0 b o cs:=by
 obtain⟨b',o',Iv,Pi,hb3⟩:=h.box id _ h0;rw[hβ] at Iv;cases Iv;refine⟨c.mapIdx (fun j _=>(w.cell? ⟨b,o+j,none⟩).getD undef),H.sem fz A _ h1 h2 hA ?_ own j0 Hb,?_,fun k hk=>hb3 k (by have:=H.pl;omega)⟩
 ·refine Bw.of_at (by simp) fun j p v hp hv=>?_;obtain⟨u,hu,hcr⟩:=Pi j p hp;rw[List.getElem?_mapIdx,hp,Option.map_some,hu] at hv;simp at hv;subst hv;exact hcr
 ·intro k v hkv;rw[List.getElem?_mapIdx] at hkv;cases hp:c[k]? with
  |none=>rw[hp] at hkv;cases hkv
  |some p=>
   obtain⟨u,hu,hcr⟩:=Pi k p hp;rw[hp,Option.map_some,hu] at hkv;simp at hkv;subst hkv;exact hu
theorem Akn(h:B9 N w0 X0 Y β s a w){shr:Bool}{t:TypeId}{p:PV}{u:Value}(hp:Eo w (Dd s.hp β Y) β p u){K:PV->B5->B5->Option R}(hk:Arp P shr s.hp t p K=some r):
  ∃v l z,K v (l.filterMap id) z=some r/\l.length=plc v/\Ao2 s l/\Rb s z /\
   ∀(fz:B5) A zz,(∀i∈z,i∈fz)->Rb s fz->(∀b,A b->Dd (Ae s.hp fz) β Y b)->(∀id c b o,some id∈l->s.hp id=some (.st c)->β id=some (b,o)->zz<=b) ->
    ∀own j0,(∀j,j<l.length->own (j0+j)=Ps β l j)->Ats w A own zz j0 v u:=by
 unfold Arp at hk;split at hk
 ·rename_i e he;split at hk
  ·rename_i id off;split at hk
   ·rename_i c h0;obtain⟨hof,Eg⟩:=Au hk;have hof:=D4 hof;subst hof;obtain⟨cs,l,z,Gy,H⟩:=X1 h Eg;obtain⟨b,o,hβ,hu⟩:=hp;refine⟨.pbox cs,some id::l,z,Gy,by simp only[plc,G9,H.len];omega,?_,H.row,fun fz A zz h1 h2 hA hz own j0 Hb=>?_⟩
    ·intro i hi;rcases Bx.1 hi with e|hi
     ·cases e;rw[h0];trivial
     ·obtain⟨c',Xn⟩:=H.own i hi;rw[Xn];trivial
    ·have h3:=Hb 0 (by simp);rw[GD] at h3;refine⟨b,o,by rw[h3];exact hβ,hz id c b o (by simp) h0 hβ,by rw[hu,GD],Ai8 h h0 hβ H h1 h2 hA fun j hj=>?_⟩
     have:=Hb (j+1) (by simp;omega)
     rw[show j0+1+j=j0+(j+1) by omega,this];simp[Ps]
   ·cases hk
  ·cases hk
 ·cases Im:Cr P t<;>rw[Im] at hk<;>simp only[cond_true,cond_false] at hk
  ·obtain⟨cs,l,z,Eg,H⟩:=X1 h hk;obtain⟨c,cs',VL,Gy⟩:=Bj Eg;subst VL;obtain⟨NB,Vk⟩:=El Gy;subst NB;have JD:=H.na c (by simp);have hc1:plc c=1:=by cases c<;>first|rfl|exact absurd rfl (JD _).1|exact absurd rfl (JD _).2
   have hF:=H.fr p (by simp);refine⟨c,l,z,Vk,by rw[hc1];exact H.len,fun i hi=>?_,H.row,fun fz A zz h1 h2 hA _ own j0 Hb=>Ag8 JD (H.sem fz A [u] h1 h2 hA ⟨?_,trivial⟩ own j0 Hb)⟩
   ·obtain⟨c',Xn⟩:=H.own i hi;rw[Xn];trivial
   ·cases p<;>first|exact hp|exact hF.elim
  ·obtain⟨ps,KV,Eg⟩:=Kp hk;subst KV;obtain⟨cs,l,z,Gy,H⟩:=X1 h Eg;obtain⟨vs,hu,U5⟩:=hp;refine⟨.agg cs,l,z,Gy,H.len,fun i hi=>?_,H.row,fun fz A zz h1 h2 hA _ own j0 Hb=>⟨vs,hu,H.sem fz A vs h1 h2 hA U5 own j0 Hb⟩⟩;obtain⟨c',Xn⟩:=H.own i hi;rw[Xn];trivial
def Aao(P:Program)(tmps:Array Value)(w:World)(rv:ResultVar)(u:Value):Prop:=
  (match rv with
   |.tmp t=>(pure (tmps.getD t undef):Sem Value)
   |.cell a t=>do loadVar t (<-asAddr (tmps.getD a undef))).run P w=.ok u w
theorem Aq1(h:B9 N w0 X0 Y β s a w)(t:Nat):Eo w (Dd s.hp β Y) β (s.tm t) (a.tmps.getD t undef):=by
 rcases K6 t N with h'|h'
 ·exact h.tms t h'
 ·rw[h.tmo t h'];exact Az.top _
theorem Al5(h:B9 N w0 X0 Y β s a w){rv:ResultVar}{K:PV->Option R}(hk:Apk P s rv K=some r):∃p u,K p=some r/\Aao P a.tmps w rv u/\Eo w (Dd s.hp β Y) β p u:=by
 unfold Apk at hk;split at hk
 ·rename_i t;exact⟨_,_,hk,rfl,Aq1 h t⟩
 ·rename_i x t;obtain⟨v,ad,val,Eg,Ee,hl,hv,_⟩:=Aef h (Aq1 h x) hk;refine⟨v,val,Eg,?_,hv⟩;unfold Aao;simp[Ee,asAddr,hl]
theorem EE{l l':List (Option Nat)}{j:Nat}(h:j<l.length):Ps β (l++l') j=Ps β l j:=by unfold Ps;rw[List.getElem?_append_left h]
theorem DZ{l l':List (Option Nat)}{j:Nat}:Ps β (l++l') (l.length+j)=Ps β l' j:=by unfold Ps;rw[List.getElem?_append_right (by omega),Nat.add_sub_cancel_left]
theorem PO(h:B9 N w0 X0 Y β s a w){shr:Bool}:∀{rs:List ResultVar}{ts:List TypeId}{K:Ab->B5->B5->Option R},ZN P shr s rs ts K=some r ->
  ∃vs l z us,K vs (l.filterMap id) z=some r/\Bw (Aao P a.tmps w) rs us/\l.length=S4 vs/\Ao2 s l/\Rb s z /\
   ∀(fz:B5) A zz,(∀i∈z,i∈fz)->Rb s fz->(∀b,A b->Dd (Ae s.hp fz) β Y b)->(∀id c b o,some id∈l->s.hp id=some (.st c)->β id=some (b,o)->zz<=b) ->
    ∀own j0,(∀j,j<l.length->own (j0+j)=Ps β l j)->Ah2 w A own zz j0 vs us
 |[],[],K,hk=>⟨[],[],[],[],hk,trivial,rfl,(by intro id Br;cases Br),(by intro id Br;cases Br),fun _ _ _ _ _ _ _ _ _ _=>trivial⟩
 |[],_::_,K,hk=>by cases hk
 |_::_,[],K,hk=>by cases hk
 |rv::rs,t::ts,K,hk=>by
  unfold ZN at hk;obtain⟨p,u,Eg,hu,hp⟩:=Al5 h hk;obtain⟨v,l,z,Gy,hl,hL,hz,hv⟩:=Akn h hp Eg;obtain⟨vs,l',z',us,Vk,hus,Pc,hL',hz',U5⟩:=PO h Gy;refine⟨v::vs,l++l',z++z',u::us,?_,⟨hu,hus⟩,by simp only[G8,S4,Rz,List.sum_cons,hl];rw[Pc];rfl,?_,?_,fun fz A zz h1 h2 hA Gn own j0 Hb=>⟨?_,?_⟩⟩
  ·rw[List.filterMap_append];exact Vk
  ·intro id Br;rcases Bu.1 Br with Br|Br
   ·exact hL id Br
   ·exact hL' id Br
  ·intro id Br;rcases Bu.1 Br with Br|Br
   ·exact hz id Br
   ·exact hz' id Br
  ·exact hv fz A zz (fun i hi=>h1 i (by simp[hi])) h2 hA (fun id c b o hi=>Gn id c b o (by simp[hi])) own j0 fun j hj=>by rw[Hb j (by simp;omega),EE hj]
  ·refine U5 fz A zz (fun i hi=>h1 i (by simp[hi])) h2 hA (fun id c b o hi=>Gn id c b o (by simp[hi])) own (j0+plc v) fun j hj=>?_;rw[<-hl,Qp,Hb (l.length+j) (by simp;omega),DZ]
theorem Xa(h:B9 N w0 X0 Y β s a w){bt:MR}(hpt:∀i,X0.pt i=bt i 0):∀{ts:List TypeId}{i:Nat}{ps:Ab}{K:List Ab->B5->B5->B5->Option R},JJ P N s.hp i ts ps K=some r ->
  (∀k p,ps[k]?=some p->IK p=true->X0.pn (i+k)) ->
  ∃os l z q,K os (l.filterMap id) z q=some r/\(∀id,some id∈l->∃c,s.hp id=some (.ar false c))/\Rb s z/\(∀id∈q,Ct (s.hp id))/\(∀k p,ps[k]?=some p->IK p=true->Dm N (i+k)∈q) /\
   ∀(fz:B5) A,(∀i∈z,i∈fz)->Rb s fz->(∀i∈q,i ∉ fz)->(∀b,A b->Dd (Ae s.hp fz) β Y b) ->
    ∀own j0,(∀j,j<l.length->own (j0+j)=Ps β l j)->CP w A own bt j0 i ps os
 |[],i,ps,K,hk,_=>by
  obtain⟨KV,hk⟩:=El hk;subst KV;exact⟨[],[],[],[],hk,by simp,(by intro id Br;cases Br),by simp,by simp,fun _ _ _ _ _ _ _ _ _=>rfl⟩
 |t::ts,i,ps,K,hk,hpn=>by
  unfold JJ at hk;obtain⟨p,ps',KV,Eg⟩:=Bj hk;subst KV
  have A0q:∀k p,ps'[k]?=some p->IK p=true->X0.pn (i+1+k):=fun k p' h1 h2=>by
   have:=hpn (k+1) p' (by simpa using h1) h2;rw[show i+1+k=i+(k+1) by omega];exact this
  have hpq:∀{q:B5},(IK p=true->Dm N i∈q)->(∀k p,ps'[k]?=some p->IK p=true->Dm N (i+1+k)∈q)->∀k p',(p::ps')[k]?=some p'->IK p'=true->Dm N (i+k)∈q:=by
   intro q h1 h2 k p' h3 h4;cases k with
   |zero=>
    simp only[List.getElem?_cons_zero,Option.some.injEq] at h3;subst h3;exact h1 h4
   |succ k=>
    have:=h2 k p' (by simpa using h3) h4;rw[show i+1+k=i+(k+1) by omega] at this;exact this
  split at Eg
  ·rename_i ws;obtain⟨e,he,Gy⟩:=Dt Eg;split at Gy
   ·rename_i c h0;obtain⟨cs,l,z,Vk,Y2,H⟩:=ME h Gy;obtain⟨os,l',z',q,U8,hL',hz',Ic,hpi,hv⟩:=Xa h hpt Vk A0q;refine⟨cs::os,l++l',z++z',Dm N i::q,by rw[List.filterMap_append];exact U8,?_,?_,?_,hpq (fun _=>GF) (fun k p h1 h2=>Rw _ (hpi k p h1 h2)),fun fz A h1 h2 h3 hA own j0 Hb=>?_⟩
    ·intro id Br;rcases Bu.1 Br with Br|Br
     ·exact H.own id Br
     ·exact hL' id Br
    ·intro id Br;rcases Bu.1 Br with Br|Br
     ·exact H.row id Br
     ·exact hz' id Br
    ·intro id Br;rcases Bx.1 Br with rfl|Br
     ·rw[h0];trivial
     ·exact Ic id Br
    ·have Zu:=(h.pin i (by have:=hpn 0 _ rfl rfl;rwa [GD] at this)).2
     obtain⟨b,o,Iv,_,_⟩:=h.box _ _ h0;rw[Iv,hpt] at Zu;refine⟨⟨b,o,Zu.symm,Y2,Ai8 h h0 Iv H (fun i hi=>h1 i (by simp[hi])) h2 hA fun j hj=>by rw[Hb j (by simp;omega),EE hj]⟩,?_⟩
     refine hv fz A (fun i hi=>h1 i (by simp[hi])) h2 (fun i hi=>h3 i (by simp[hi])) hA own (j0+cs.length) fun j hj=>?_;rw[<-H.len,Qp,Hb (l.length+j) (by simp;omega),DZ]
   ·cases Gy
  ·split at Eg
   ·rename_i c h0;obtain⟨os,l',z',q,U8,hL',hz',Ic,hpi,hv⟩:=Xa h hpt Eg A0q;refine⟨c::os,l',z',Dm N i::q,U8,hL',hz',?_,hpq (fun _=>GF) (fun k p h1 h2=>Rw _ (hpi k p h1 h2)),fun fz A h1 h2 h3 hA own j0 Hb=>⟨?_,hv fz A h1 h2 (fun i hi=>h3 i (by simp[hi])) hA own j0 Hb⟩⟩
    ·intro id Br;rcases Bx.1 Br with rfl|Br
     ·rw[h0];trivial
     ·exact Ic id Br
    ·have Zu:=(h.pin i (by have:=hpn 0 _ rfl rfl;rwa [GD] at this)).2
     rw[hpt] at Zu;rcases h.box _ _ h0 with⟨h4,h5⟩|⟨b,o,h4,h5,h6,_⟩
     ·exact .inl ⟨by rw[<-Zu];exact h4,h5⟩
     ·exact .inr ⟨b,o,by rw[<-Zu];exact h4,h5.weak (fun b _ hb=>Se (hA b hb)),h6 rfl⟩
   ·cases Eg
  ·rename_i hn1 hn2;have hnL:IK p=false:=by cases p<;>first|rfl|exact absurd rfl (hn1 _)|exact absurd rfl (hn2 _)
   obtain⟨os,l',z',q,U8,hL',hz',Ic,hpi,hv⟩:=Xa h hpt Eg A0q;refine⟨os,l',z',q,U8,hL',hz',Ic,hpq (fun e=>by rw[hnL] at e;cases e) hpi,fun fz A h1 h2 h3 hA own j0 Hb=>?_⟩
   have:=hv fz A h1 h2 h3 hA own j0 Hb;cases p<;>first|exact this|cases hnL
theorem Ael{f:ResultVar->Sem Value}:∀{rs:List ResultVar}{us:List Value},Bw (fun rv u=>(f rv).run P w=.ok u w) rs us->(rs.mapM f).run P w=.ok us w
 |[],[],_=>by simp
 |[],_::_,h=>h.elim
 |_::_,[],h=>h.elim
 |rv::rs,u::us,h=>by
  rw[List.mapM_cons];simp[h.1,Ael h.2]
theorem Ade{fn:Func}{us:List Value}(h:Bw (Aao P a.tmps w) fn.results.toList us):(results fn a.tmps).run P w=.ok (Mf us) w:=by
 unfold results;rw[Array.mapM_eq_mapM_toList];simp only[map_eq_pure_bind,bind_assoc,pure_bind,Sem.run_bind];refine Eq.trans (congrArg (fun x=>Result.andThen x _) (Ael h)) ?_;simp only[Result.andThen_ok,Sem.run_pure]
 congr 1
 clear h
 match us with
 |[]=>rfl
 |[u]=>rfl
 |u::v::us=>exact dif_neg (by simp)
theorem Ac3:∀{l:List (Option Nat)},Ft (l.filterMap id)=true->∀{j j' i:Nat},l[j]?=some (some i)->l[j']?=some (some i)->j=j'
 |[],_,j,j',i,h,_=>by simp at h
 |q::l,hn,j,j',i,h,h'=>by
  have hn':Ft (l.filterMap id)=true:=by
   cases q with
   |none=>exact hn
   |some x=>
    simp only[List.filterMap_cons,id_eq,Ft,Gl] at hn;exact hn.2
  have hq:∀(x k:Nat),q=some x->l[k]?≠some (some x):=by
   intro x k e hk;subst e;simp only[List.filterMap_cons,id_eq,Ft,Gl,Bool.not_eq_true'] at hn;exact Xb hn.1 (List.mem_filterMap.2 ⟨some x,List.mem_of_getElem? hk,rfl⟩)
  cases j with
  |zero=>
   cases j' with
   |zero=>rfl
   |succ k'=>
    simp at h h';exact absurd h' (hq i k' h)
  |succ k=>
   cases j' with
   |zero=>
    simp at h h';exact absurd h (hq i k h')
   |succ k'=>
    simp at h h';rw[Ac3 hn' h h']
theorem AZ{C:Jm}{f:FuncId}{fn:Func}{args:Ab}{res:Dl}{w:World}{Y:Nat->Prop}{bt:MR}{us:List Value}(BH:Ins w Y bt args us){h8:∀k p,args[k]?=some p->IK p=true->k<8}{s':St}{a':Act}{w':World}{β':Bt}(hr:Ad1 C P f fn args s'=some res)(h:B9 fn.ntmps w (FD bt args h8) Y β' s' a' w'):
  a'.defers=[]/\∃v,(results fn a'.tmps).run P w'=.ok v w'/\∃vs own,Ending.returned v=.returned (Mf vs)/\Out w w' Y bt args own res vs:=by
 unfold Ad1 at hr;obtain⟨vs,l,z,us',hr1,hus,hll,hL,hz,hv⟩:=PO h hr;obtain⟨os,l',z',q,hr2,hL',hz',hq,hpi,Uq⟩:=Xa h (bt:=bt) (fun _=>rfl) hr1 (fun k p h1 h2=>by rw[Cu];exact⟨p,h1,h2⟩)
 obtain⟨TC,hr3⟩:=Au hr2;cases hr3;simp only[Gl] at TC;obtain⟨TC,Ayw⟩:=TC;obtain⟨hn1,hn2,hn3⟩:=Ma TC
 have JF:∀i∈z++z',i ∉ (l.filterMap id++l'.filterMap id)++q:=by
  intro i hi Rr;have:=List.all_eq_true.1 Ayw i hi;have h2:((l.filterMap id++l'.filterMap id)++q).any (Nat.beq i)=true:=List.any_eq_true.2 ⟨i,Rr,Of i⟩;rw[h2] at this;cases this
 have Ak9:Rb s' (z++z'):=by
  intro i hi;rcases Bu.1 hi with hi|hi
  ·exact hz i hi
  ·exact hz' i hi
 refine⟨h.dfr,Mf us',Ade hus,us',Ps β' (l++l'),rfl,?_⟩;have A6h:Ft ((l++l').filterMap id)=true:=by rw[List.filterMap_append];exact hn1
 have Hb:∀j b o,Ps β' (l++l') j=some (b,o)->∃id,(l++l')[j]?=some (some id)/\β' id=some (b,o):=by
  intro j b o hj;unfold Ps at hj;cases hlj:(l++l')[j]? with
  |none=>rw[hlj] at hj;cases hj
  |some q=>
   cases q with
   |none=>rw[hlj] at hj;cases hj
   |some id=>
    rw[hlj] at hj;exact⟨id,rfl,hj⟩
 have O4:∀(j i:Nat),(l++l')[j]?=some (some i)->i∈l.filterMap id++l'.filterMap id:=by
  intro j i hj;rw[<-List.filterMap_append];exact List.mem_filterMap.2 ⟨some i,List.mem_of_getElem? hj,rfl⟩
 have Jk:∀(j i:Nat),(l++l')[j]?=some (some i)->Ct (s'.hp i):=by
  intro j i hj;rcases Bu.1 (List.mem_of_getElem? hj) with Rr|Rr
  ·exact hL i Rr
  ·obtain⟨c,hc⟩:=hL' i Rr;rw[hc];trivial
 have Axf:∀i,i∈(l.filterMap id++l'.filterMap id)++q->Ae s'.hp (z++z') i=s'.hp i:=by
  intro i hi;rw[Cp,Ba (fun Rr=>JF i Rr hi)]
 have Axi:∀i b o,bt i 0=some (b,o)->Dm fn.ntmps i∈q/\Ct (s'.hp (Dm fn.ntmps i))/\β' (Dm fn.ntmps i)=some (b,o):=by
  intro i b o TG;obtain⟨p,h1,h2⟩:=BH.l0 i _ TG;have h3:=hpi i p h1 h2;rw[Cu] at h3;exact⟨h3,hq _ h3,(h.pin i ⟨p,h1,h2⟩).2.trans TG⟩
 have hAO:∀b,QE bt (Ps β' (l++l')) Y b->Dd (Ae s'.hp (z++z')) β' Y b:=by
  rintro b (⟨j,o,hj⟩|⟨i,o,TG⟩|hY)
  ·obtain⟨id,h1,h2⟩:=Hb j b o hj;refine .inl ⟨id,o,?_,h2⟩;rw[Axf id (Bu.2 (.inl (O4 j id h1)))];exact Jk j id h1
  ·obtain⟨h1,h2,h3⟩:=Axi i b o TG;refine .inl ⟨_,o,?_,h3⟩;rw[Axf _ (Bu.2 (.inr h1))];exact h2
  ·exact .inr hY
 have EK:∀(j id b o:Nat),(l++l')[j]?=some (some id)->β' id=some (b,o)->b<w.heap.size->∃i k o',bt i (k+1)=some (b,o'):=by
  intro j id b o hj hβ Ch;rcases h.ownd b ⟨id,o,Jk j id hj,hβ⟩ with⟨i,k,o',TG⟩|hge
  ·cases k with
   |zero=>
    obtain⟨h1,h2,h3⟩:=Axi i b o' TG;have:=h.inj id _ b o o' (Jk j id hj) h2 hβ h3;subst this;exact absurd h1 (hn3 _ (O4 j _ hj))
   |succ k=>exact⟨i,k,o',TG⟩
  ·omega
 refine⟨h.fr.os,h.fr.tape,h.fr.output,h.fr.step,h.fr.rng,?_,?_,?_,?_⟩
 ·refine hv (z++z') _ _ (fun i hi=>Bu.2 (.inl hi)) Ak9 hAO (fun id c b o hi hc hβ=>?_) _ 0 (fun j hj=>by rw[Cu,EE hj]);rcases K6 b w.heap.size with Ch|hge
  ·obtain⟨k,Jj,p,h1,h2⟩:=h.stp id c b o hc hβ Ch;have h3:=hpi k p h1 h2;rw[Cu,<-Jj] at h3;obtain⟨j,hj⟩:=List.mem_iff_getElem?.1 hi;refine absurd h3 (hn3 id ?_);exact Bu.2 (.inl (List.mem_filterMap.2 ⟨some id,hi,rfl⟩))
  ·exact hge
 ·refine Uq (z++z') _ (fun i hi=>Bu.2 (.inr hi)) Ak9 (fun i hi Rr=>JF i Rr (Bu.2 (.inr hi))) hAO _ _ (fun j hj=>?_);rw[<-hll,DZ]
 ·intro j b o hj;obtain⟨id,h1,h2⟩:=Hb j b o hj;refine⟨h.blt id b o (Dj (Jk j id h1)) h2,fun Ch=>⟨EK j id b o h1 h2 Ch,fun x hx=>?_⟩⟩;cases Oc:s'.hp id with
  |none=>have:=Jk j id h1;rw[Oc] at this;exact this.elim
  |some bx=>
   have IQ:=Jk j id h1;rw[Oc] at IQ;cases bx with
   |st c=>
    obtain⟨k,Jj,p,h3,h4⟩:=h.stp id c b o Oc h2 Ch;have h5:=hpi k p h3 h4;rw[Cu,<-Jj] at h5;exact absurd h5 (hn3 _ (O4 j _ h1))
   |ar fz c=>exact h.rngB id _ b o Oc IQ h2 Ch x hx
   |mv=>exact IQ.elim
 ·intro j j' b o o' hj Y1;obtain⟨id,h1,h2⟩:=Hb j b o hj;obtain⟨id',WR,h2'⟩:=Hb j' b o' Y1;have:=h.inj id id' b o o' (Jk j id h1) (Jk j' id' WR) h2 h2';subst this;exact Ac3 A6h h1 WR
theorem QH{G:Vs}(Jz:NoNG P)(hm:P.follows .mixedOrders=true){C:Jm}{fu:Nat}{call:Bi}(C6:∀f args res,call f args=some res->C7 G P f args res){f:FuncId}{fn:Func}{c:Code}(hf:P.funcs[f]?=some fn)(hb:fn.body=some c){args:Ab}{res:Dl}(hk:Auy C P fu call f fn c args=some res):C7 G P f args res:=by
 refine⟨⟨fn,hf,by rw[hb];rfl⟩,fun w Y bt us BH hG hGY=>?_⟩
 unfold Auy at hk;obtain⟨tms,bs,Eg,Gn⟩:=KF BH hk;obtain⟨Iv,Gy⟩:=Au Eg;simp only[Gl] at Iv
 have Hk:us.length<=fn.ntmps:=by
  rw[<-BH.args.len];exact Wu Iv.1
 obtain⟨h8,β0,hs⟩:=Gn Iv.2 Hk;refine calls_of_wp hf hb ?_;have hE:MD P G w (FD bt args h8):=⟨Jz,fun w' UT=>G.stable w w' (fun b hb Ch=>UT.step.keep b Ch (hGY b hb).2) hG,hGY⟩
 refine EM hE C6 hm c hs Gy (fun s' a' w' β' hr h=>AZ BH hr h) (fun id s' a' w' β' hr h=>by cases hr) (fun s' a' w' β' hr h=>AZ BH hr h)
def Aht(G:Vs)(P:Program)(C:Jm):Prop:=∀f g args res,C.ext f=some g->g args=some res->C7 G P f args res
theorem AF{G:Vs}(Jz:NoNG P)(hm:P.follows .mixedOrders=true){C:Jm}(hx:Aht G P C){fu:Nat}:∀(d:Nat)(f:FuncId)(args:Ab)(res:Dl),Ap C P fu d f args=some res->C7 G P f args res
 |0,_,_,_,h=>by cases h
 |d+1,f,args,res,h=>by
  unfold Ap at h;split at h
  ·rename_i g hg;exact hx f g args res hg h
  ·split at h
   ·cases h
   ·rename_i fn hf;split at h
    ·cases h
    ·rename_i c hb;exact QH Jz hm (AF Jz hm hx d) hf hb h
end
open Go.ChangeShapes Go.WideShapes Go.ChangeAt Go.RowKit Go.Deep
def Aa0(P:Program):List Field->Nat->Nat->Bool
 |[],i,n=>Nat.beq i n
 |f::r,i,n=>Nat.beq f.offset i&&Aa0 P r (i+P.cellsOf f.type) n
def Rt(P:Program):Nat->TypeId->Bool
 |0,_=>false
 |d+1,t=>
  match P.underlying t with
  |some .bool=>true
  |some (.int _)=>true
  |some .string=>true
  |some (.slice e)=>Rt P d e&&Nat.blt 0 (P.cellsOf e)
  |some (.struct fs)=>Aa0 P fs.toList 0 (P.cellsOf t)&&fs.toList.all fun f=>Rt P d f.type
  |some (.array n e)=>Nat.beq (P.cellsOf t) (n*P.cellsOf e)&&Rt P d e
  |_=>false
def WT(P:Program):Nat->TypeId->Ab->Prop
 |0,_,_=>False
 |d+1,t,ps=>
  match P.underlying t with
  |some .bool=>∃b,ps=[.sc (.bool b)]
  |some (.int k)=>∃n,ps=[.sc (.int k n)]/\(Lit.int k n).wf=true
  |some .string=>∃s:ByteArray,ps=[.sc (.string s)]/\s.size<=maxLen
  |some (.slice e)=>∃rows:List Ab,ps=[.lst false (P.cellsOf e) rows.length rows.flatten]/\rows.length<=maxLen/\∀r∈rows,r.length=P.cellsOf e/\WT P d e r
  |some (.struct fs)=>∃rows:List Ab,ps=rows.flatten/\Bw (fun f r=>WT P d f.type r) fs.toList rows
  |some (.array n e)=>∃rows:List Ab,ps=rows.flatten/\rows.length=n/\∀r∈rows,r.length=P.cellsOf e/\WT P d e r
  |_=>False
def WTv(P:Program)(t:TypeId)(p:PV):Prop:=
 match Cr P t with
 |true=>∃ps,p=.agg ps/\WT P 12 t ps
 |false=>WT P 12 t [p]
section
variable {P:Program}{d:Nat}{t e:TypeId}{ps:Ab}
theorem Avs(hu:P.underlying t=some .bool):WT P (d+1) t ps↔∃b,ps=[.sc (.bool b)]:=by show (match P.underlying t with|some .bool=>_|some (.int k)=>_|some .string=>_|some (.slice e)=>_|some (.struct fs)=>_|some (.array n e)=>_|_=>_)↔_;rw[hu]
theorem Aqt{k:IntKind}(hu:P.underlying t=some (.int k)):WT P (d+1) t ps↔∃n,ps=[.sc (.int k n)]/\(Lit.int k n).wf=true:=by show (match P.underlying t with|some .bool=>_|some (.int k)=>_|some .string=>_|some (.slice e)=>_|some (.struct fs)=>_|some (.array n e)=>_|_=>_)↔_;rw[hu]
theorem XY(hu:P.underlying t=some .string):WT P (d+1) t ps↔∃s:ByteArray,ps=[.sc (.string s)]/\s.size<=maxLen:=by show (match P.underlying t with|some .bool=>_|some (.int k)=>_|some .string=>_|some (.slice e)=>_|some (.struct fs)=>_|some (.array n e)=>_|_=>_)↔_;rw[hu]
theorem Acp(hu:P.underlying t=some (.slice e)):WT P (d+1) t ps↔∃rows:List Ab,ps=[.lst false (P.cellsOf e) rows.length rows.flatten]/\rows.length<=maxLen/\∀r∈rows,r.length=P.cellsOf e/\WT P d e r:=by show (match P.underlying t with|some .bool=>_|some (.int k)=>_|some .string=>_|some (.slice e)=>_|some (.struct fs)=>_|some (.array n e)=>_|_=>_)↔_;rw[hu]
theorem XV{fs:Array Field}(hu:P.underlying t=some (.struct fs)):WT P (d+1) t ps↔∃rows:List Ab,ps=rows.flatten/\Bw (fun f r=>WT P d f.type r) fs.toList rows:=by show (match P.underlying t with|some .bool=>_|some (.int k)=>_|some .string=>_|some (.slice e)=>_|some (.struct fs)=>_|some (.array n e)=>_|_=>_)↔_;rw[hu]
theorem Anf{n:Nat}(hu:P.underlying t=some (.array n e)):WT P (d+1) t ps↔∃rows:List Ab,ps=rows.flatten/\rows.length=n/\∀r∈rows,r.length=P.cellsOf e/\WT P d e r:=by show (match P.underlying t with|some .bool=>_|some (.int k)=>_|some .string=>_|some (.slice e)=>_|some (.struct fs)=>_|some (.array n e)=>_|_=>_)↔_;rw[hu]
end
inductive Ki where
 |bool
 |int (k:IntKind)
 |str
 |sl (e:TypeId)
 |st (ts:List TypeId)
 |ar (n:Nat) (e:TypeId)
 |no
def Nt(P:Program)(t:TypeId):Ki:=
 match P.underlying t with
 |some .bool=>.bool
 |some (.int k)=>.int k
 |some .string=>.str
 |some (.slice e)=>.sl e
 |some (.struct fs)=>.st (fs.toList.map (·.type))
 |some (.array n e)=>.ar n e
 |_=>.no
section
variable {P:Program}{d:Nat}{t e:TypeId}{ps:Ab}{p:PV}
theorem Bw.map_left{α β γ:Type}{g:α->γ}{R:γ->β->Prop}:∀{l:List α}{r:List β},Bw (fun a b=>R (g a) b) l r->Bw R (l.map g) r
 |[],[],_=>trivial
 |_::_,_::_,h=>⟨h.1,Bw.map_left h.2⟩
 |[],_::_,h=>h.elim
 |_::_,[],h=>h.elim
theorem Bw.cons_inv{α β:Type}{R:α->β->Prop}{a:α}{zs:List α}:∀{rs:List β},Bw R (a::zs) rs->∃r rs',rs=r::rs'/\R a r/\Bw R zs rs'
 |[],h=>h.elim
 |r::rs,h=>⟨r,rs,rfl,h.1,h.2⟩
theorem Bw.nil_inv{α β:Type}{R:α->β->Prop}:∀{rs:List β},Bw R ([]:List α) rs->rs=[]
 |[],_=>rfl
 |_::_,h=>h.elim
theorem So{k:IntKind}(hk:Nt P t=.int k)(h:WT P d t ps):∃n,ps=[.sc (.int k n)]/\(Lit.int k n).wf=true:=by
 cases d with
 |zero=>exact h.elim
 |succ d=>
 unfold Nt at hk;split at hk<;>first|cases hk|skip
 rename_i hu;exact (Aqt hu).1 h
theorem Ayl(hk:Nt P t=.str)(h:WT P d t ps):∃s:ByteArray,ps=[.sc (.string s)]/\s.size<=maxLen:=by
 cases d with
 |zero=>exact h.elim
 |succ d=>
 unfold Nt at hk;split at hk<;>first|cases hk|skip
 rename_i hu;exact (XY hu).1 h
theorem Awd(hk:Nt P t=.sl e)(h:WT P d t ps):∃rows:List Ab,ps=[.lst false (P.cellsOf e) rows.length rows.flatten]/\rows.length<=maxLen/\∀r∈rows,r.length=P.cellsOf e/\WT P (d-1) e r:=by
 cases d with
 |zero=>exact h.elim
 |succ d=>
 rw[Nat.add_sub_cancel];unfold Nt at hk;split at hk<;>first|cases hk|skip
 rename_i hu;exact (Acp hu).1 h
theorem WM{ts:List TypeId}(hk:Nt P t=.st ts)(h:WT P d t ps):∃rows:List Ab,ps=rows.flatten/\Bw (WT P (d-1)) ts rows:=by
 cases d with
 |zero=>exact h.elim
 |succ d=>
 rw[Nat.add_sub_cancel];unfold Nt at hk;split at hk<;>first|cases hk|skip
 rename_i fs hu;obtain⟨rows,h1,h2⟩:=(XV hu).1 h;exact⟨rows,h1,Bw.map_left h2⟩
theorem Ahz(hk:Cr P t=true)(h:WTv P t p):∃ps,p=.agg ps/\WT P 12 t ps:=by unfold WTv at h;rw[hk] at h;exact h
theorem Aiv(hk:Cr P t=false)(h:WTv P t p):WT P 12 t [p]:=by unfold WTv at h;rw[hk] at h;exact h
theorem Ah7{k:IntKind}(ha:Cr P t=false)(hk:Nt P t=.int k)(h:WTv P t p):∃n,p=.sc (.int k n)/\(Lit.int k n).wf=true:=by obtain⟨b,e,h⟩:=So hk (Aiv ha h);exact⟨b,by injection e,h⟩
theorem Qk{α:Type}(f:α->Ab)(Q:α->Prop):∀{rows:List Ab},(∀r∈rows,∃x,r=f x/\Q x)->∃xs:List α,rows.flatten=xs.flatMap f/\rows.length=xs.length/\∀x∈xs,Q x
 |[],_=>⟨[],rfl,rfl,by simp⟩
 |r::rows,h=>by
  obtain⟨x,h1,h2⟩:=h r (by simp);obtain⟨xs,h3,h4,h5⟩:=Qk (rows:=rows) f Q fun r hr=>h r (by simp[hr]);refine⟨x::xs,by simp[h1,h3],by simp[h4],fun y hy=>?_⟩;rcases Bx.1 hy with rfl|hy
  ·exact h2
  ·exact h5 y hy
end
abbrev No:Nat->Prop:=fun _=>False
section
variable {H:Type}{enc:TypeId × Value->H}{P:Program}{w:World}{base:Nat}{held:Bool}
theorem Bw.flat{α β:Type}{R:α->β->Prop}:∀{l:B5}{f:Nat->List α}{g:Nat->List β},(∀i∈l,Bw R (f i) (g i))->Bw R (l.map f).flatten (l.map g).flatten
 |[],_,_,_=>trivial
 |i::l,f,g,h=>by
  simp only[Rz,List.flatten_cons];exact (h i (by simp)).app (Bw.flat fun j hj=>h j (by simp[hj]))
theorem Aky{a:Addr}{v:Value}(h:w.cell? a=some v):a.spot=none/\a.block<w.heap.size:=by
 unfold World.cell? at h;split at h
 ·rename_i c t f e;refine⟨?_,?_⟩
  ·cases hs:a.spot with
   |none=>rfl
   |some x=>rw[hs] at h;simp at h
  ·rcases K6 a.block w.heap.size with h1|h1
   ·exact h1
   ·rw[Array.getElem?_eq_none h1] at e;cases e
 ·cases h
theorem PM{α:Type}{g:Nat->List α}{es:Nat}:∀{n:Nat},(∀i,i<n->(g i).length=es)->((List.range n).map g).flatten.length=n*es
 |0,_=>by simp
 |n+1,h=>by
  rw[List.range_succ,List.map_append,List.flatten_append,G8,PM (fun i hi=>h i (by omega))];simp[h n (by omega),Nat.succ_mul]
theorem RQ{a:Addr}{g:Nat->List Value}{es:Nat}:∀{n:Nat},(∀i,i<n->(g i).length=es)->(∀i,i<n->∀k,k<es->w.cell? (a.add (i*es+k))=(g i)[k]?) ->
  ∀j,j<n*es->w.cell? (a.add j)=(((List.range n).map g).flatten)[j]?
 |0,_,_,j,hj=>by omega
 |n+1,hl,hc,j,hj=>by
  have WQ:=PM (fun i (hi:i<n)=>hl i (by omega));rw[List.range_succ,List.map_append,List.flatten_append,List.getElem?_append,WQ];rw[Nat.succ_mul] at hj;split
  ·rename_i h1;exact RQ (fun i hi=>hl i (by omega)) (fun i hi=>hc i (by omega)) j h1
  ·rename_i h1;have:=hc n (by omega) (j-n*es) (by omega);rw[show n*es+(j-n*es)=j by omega] at this
   simpa using this
abbrev TR(w:World)(c:PV)(v:Value):Prop:=(CO c/\Az w No c v)/\v.oneCell'=true
theorem LW{d:Nat}{cs:List Value}{n:Nat}(hn:cs.length=n):∀(l:List Field)(i:Nat),Aa0 P l i n=true ->
  (∀f∈l,∃ps,WT P d f.type ps/\Bw (TR w) ps ((cs.drop f.offset).take (P.cellsOf f.type)))->∃rows:List Ab,Bw (fun f r=>WT P d f.type r) l rows/\Bw (TR w) rows.flatten (cs.drop i)
 |[],i,ho,_=>by
  have:=D4 ho;refine⟨[],trivial,?_⟩;rw[List.drop_of_length_le (by omega)];trivial
 |f::l,i,ho,h=>by
  simp only[Aa0,Gl] at ho;have ho1:=D4 ho.1;obtain⟨ps,h1,h2⟩:=h f (by simp);obtain⟨rows,h3,h4⟩:=LW hn l _ ho.2 fun g hg=>h g (by simp[hg]);refine⟨ps::rows,⟨h1,h3⟩,?_⟩;rw[ho1] at h2;have:cs.drop i=(cs.drop i).take (P.cellsOf f.type)++cs.drop (i+P.cellsOf f.type):=by rw[<-List.drop_drop];exact (List.take_append_drop _ _).symm
  rw[this,List.flatten_cons];exact h2.app h4
theorem PF{d:Nat}{e:TypeId}{cs:List Value}{k:Nat}:∀(n:Nat),n*k<=cs.length ->
  (∀i,i<n->∃ps,(ps.length=k/\WT P d e ps)/\Bw (TR w) ps ((cs.drop (i*k)).take k))->∃rows:List Ab,rows.length=n/\(∀r∈rows,r.length=k/\WT P d e r)/\Bw (TR w) rows.flatten (cs.take (n*k))
 |0,_,_=>⟨[],rfl,by simp,by simp[Bw]⟩
 |n+1,hl,h=>by
  rw[Nat.succ_mul] at hl;obtain⟨rows,h1,h2,h3⟩:=PF n (by omega) fun i hi=>h i (by omega);obtain⟨ps,h4,h5⟩:=h n (by omega);refine⟨rows++[ps],by simp[h1],?_,?_⟩
  ·intro r hr;rcases Bu.1 hr with hr|hr
   ·exact h2 r hr
   ·rw[Lo.1 hr];exact h4
  ·rw[List.flatten_append,Nat.succ_mul,List.take_add];refine h3.app ?_
   simpa using h5
theorem AP:∀(d:Nat)(t:TypeId),Rt P d t=true->∀(fuel:Nat)(cs:List Value)(x:DataW H × List MemPlace),DataW.trod enc P w base (fun _=>true) held fuel t cs=some x ->
  ∃ps,WT P d t ps/\Bw (TR w) ps cs
 |0,_,h,_,_,_,_=>by cases h
 |d+1,t,hp,fuel,cs,x,h=>by
  unfold Rt at hp;split at hp
  ·rename_i hu;obtain⟨b,rfl,_⟩:=DataW.trod_bool hu h;simp only[Avs hu];exact⟨[.sc (.bool b)],⟨b,rfl⟩,⟨⟨trivial,Az.sc _⟩,rfl⟩,trivial⟩
  ·rename_i k hu;obtain⟨n,rfl,_,hw⟩:=DataW.trod_int hu h;simp only[Aqt hu];exact⟨[.sc (.int k n)],⟨n,rfl,hw⟩,⟨⟨trivial,Az.sc _⟩,rfl⟩,trivial⟩
  ·rename_i hu;obtain⟨s,rfl,_,hw⟩:=DataW.trod_string hu h;simp only[XY hu];exact⟨[.sc (.string s)],⟨s,rfl,hw⟩,⟨⟨trivial,Az.sc _⟩,rfl⟩,trivial⟩
  ·rename_i e hu;simp only[Gl] at hp;have MO:0<P.cellsOf e:=Nat.lt_of_succ_le (Wu hp.2);simp only[Acp hu];rcases open_slice hu h with⟨rfl,_⟩|⟨a,len,cap,m,n,D,Pl,rfl,_,hl,hm,hmm,_,hi⟩
   ·exact⟨[.lst false (P.cellsOf e) 0 []],⟨[],by simp,by simp,by simp⟩,⟨⟨trivial,Az.lnil _ _⟩,rfl⟩,trivial⟩
   ·simp only[if_true] at hmm;subst hmm
    have hi':∀i,i<len->∃q:Ab × List Value,(q.2.length=P.cellsOf e/\(∀k,k<P.cellsOf e->w.cell? (a.add (i*P.cellsOf e+k))=q.2[k]?))/\WT P d e q.1/\Bw (TR w) q.1 q.2:=by
     intro i Ch;obtain⟨cs',hc,ht⟩:=hi i (by omega);obtain⟨_,Y2,hat⟩:=World.cells?_some hc;obtain⟨ps,h1,h2⟩:=AP d e hp.1 _ _ _ ht;exact⟨(ps,cs'),⟨Y2,fun k hk=>by rw[<-Pv.add_add];exact hat k hk⟩,h1,h2⟩
    obtain⟨F,hF⟩:=choose_lt hi';refine⟨[.lst false (P.cellsOf e) len ((List.range len).map fun i=>(F i).1).flatten],⟨(List.range len).map fun i=>(F i).1,by simp,by simp;omega,?_⟩,⟨⟨trivial,?_⟩,rfl⟩,trivial⟩
    ·intro r hr;obtain⟨i,hi1,rfl⟩:=List.mem_map.1 hr;have hi2:=List.mem_range.1 hi1;exact⟨by rw[(hF i hi2).2.2.len];exact (hF i hi2).1.1,(hF i hi2).2.1⟩
    ·rcases Nat.eq_zero_or_pos len with h0|h0
     ·subst h0;exact Az.lemp _ _ _
     ·have Xu:Bw (TR w) ((List.range len).map fun i=>(F i).1).flatten ((List.range len).map fun i=>(F i).2).flatten:=Bw.flat fun i hi=>(hF i (List.mem_range.1 hi)).2.2;have hcell:=RQ (w:=w) (a:=a) (g:=fun i=>(F i).2) (fun i hi=>(hF i hi).1.1) (fun i hi=>(hF i hi).1.2);have Hk:=PM (g:=fun i=>(F i).2) (fun i (hi:i<len)=>(hF i hi).1.1)
      have h00:w.cell? a≠none:=by
       have:=hcell 0 (Nat.mul_pos h0 MO);rw[show a.add 0=a by unfold Addr.add;simp] at this
       rw[this,List.getElem?_eq_getElem (by rw[Hk];exact Nat.mul_pos h0 MO)]
       simp
      obtain⟨v0,hv0⟩:=Option.ne_none_iff_exists'.1 h00;obtain⟨hs,hb⟩:=Aky hv0
      have key:∀j c,(((List.range len).map fun i=>(F i).1).flatten)[j]?=some c->∃v,w.cell? (a.add j)=some v/\TR w c v:=by
       intro j c hj
       have hlj:j<len*P.cellsOf e:=by
        rw[<-Hk,<-Xu.len];rcases K6 j (((List.range len).map fun i=>(F i).1).flatten).length with h1|h1
        ·exact h1
        ·rw[List.getElem?_eq_none h1] at hj;cases hj
       have h1:=hcell j hlj;rw[List.getElem?_eq_getElem (by rw[Hk];exact hlj)] at h1
       exact⟨_,h1,Xu.at_ hj (List.getElem?_eq_getElem (by rw[Hk];exact hlj))⟩
      refine Az.lst _ _ _ a _ (fun j=>(w.cell? (a.add j)).getD undef) hs hb (fun h=>h) hl (fun j c hj=>?_) (fun j c hj=>?_) (fun j c hj=>?_)
      ·obtain⟨v,hv,_⟩:=key j c hj;rw[hv];rfl
      ·obtain⟨v,hv,ht⟩:=key j c hj;rw[hv];exact ht.2
      ·obtain⟨v,hv,ht⟩:=key j c hj;rw[hv];exact ht.1.2
  ·rename_i fs hu;simp only[Gl] at hp;simp only[XV hu];obtain⟨xs,n,_,_,Hk,hxl,hf⟩:=DataW.trod_struct hu h
   obtain⟨rows,h1,h2⟩:=LW (P:=P) (w:=w) (d:=d) Hk fs.toList 0 hp.1 fun f ZO=>by
    obtain⟨i,hi⟩:=List.mem_iff_getElem?.1 ZO;have hi':fs[i]?=some f:=by simpa using hi
    have Ch:i<fs.size:=(Array.getElem?_eq_some_iff.1 hi').1;have h3:=hf i f hi';rw[List.getElem?_eq_getElem (by omega)] at h3;exact AP d f.type (List.all_eq_true.1 hp.2 f ZO) _ _ _ h3
   exact⟨_,⟨rows,rfl,h1⟩,by simpa using h2⟩
  ·rename_i n e hu;simp only[Gl] at hp;simp only[Anf hu];obtain⟨xs,m,_,_,Hk,hxl,hf⟩:=DataW.trod_array hu h;have L8:=D4 hp.1
   obtain⟨rows,h1,h2,h3⟩:=PF (P:=P) (w:=w) (d:=d) (e:=e) (cs:=cs) (k:=P.cellsOf e) n (by omega) fun i hi=>by
    have h3:=hf i hi;rw[List.getElem?_eq_getElem (by omega)] at h3;obtain⟨ps,h4,h5⟩:=AP d e hp.2 _ _ _ h3;refine⟨ps,⟨?_,h4⟩,h5⟩;rw[h5.len,List.length_take,List.length_drop,Hk,L8];have:(i+1)*P.cellsOf e<=n*P.cellsOf e:=Nat.mul_le_mul_right _ hi;rw[Nat.succ_mul] at this;omega
   refine⟨_,⟨rows,rfl,h1,h2⟩,?_⟩;rw[I9 (by omega)] at h3;exact h3
  ·cases hp
theorem Aom{r:Reach}{b0:Nat}{t:TypeId}{v:Value}{dd:DataW H}{p:List MemPlace}(hp:Rt P 12 t=true)(hv:Value.okWide P w r b0 t v)(h:DataW.Trod enc P w base (fun _=>true) held t v dd p):
  ∃q,WTv P t q/\Wo w No q v:=by
 obtain⟨fuel,hf⟩:=h;obtain⟨ps,h1,h2⟩:=AP 12 t hp fuel _ _ hf;unfold WTv Cr
 have two:∀{cs:Array Value},v=.agg cs->∃q,(∃ps,q=.agg ps/\WT P 12 t ps)/\Wo w No q v:=by
  intro cs e;subst e;exact⟨.agg ps,⟨ps,rfl,h1⟩,cs.toList,by simp,h2.mono fun c v h=>h.1⟩
 have one:v.cells.toList=[v]->∃q,WT P 12 t [q]/\Wo w No q v:=by
  intro e;rw[e] at h2
  match ps,h2 with
  |[q],h2=>
   refine⟨q,h1,?_⟩;have h3:=h2.1.1;cases q<;>first|exact h3|exact h3.1.elim
  |[],h2=>exact h2.elim
  |_::_::_,h2=>exact h2.2.elim
 unfold Rt at hp;split at hp
 ·rename_i hu;simp only[hu];obtain⟨b,rfl,_⟩:=open_bool hu hv ⟨fuel,hf⟩;exact one rfl
 ·rename_i k hu;simp only[hu];obtain⟨b,rfl,_⟩:=open_int hu hv ⟨fuel,hf⟩;exact one rfl
 ·rename_i hu;simp only[hu];obtain⟨b,rfl,_⟩:=ChangeMaps.open_string hu hv ⟨fuel,hf⟩;exact one rfl
 ·rename_i e hu;simp only[hu];obtain⟨a,len,cap,rfl⟩:=okWide_slice hu hv;exact one rfl
 ·rename_i fs hu;simp only[hu];obtain⟨cs,rfl,_⟩:=okWide_struct hu hv;exact two rfl
 ·rename_i n e hu;simp only[hu];unfold Value.okWide at hv;simp only[hu] at hv;obtain⟨cs,rfl,_⟩:=hv;exact two rfl
 ·cases hp
theorem XZ:∀{ts:List TypeId}{vs:List Value}{ds:List (DataW H)} {p:List MemPlace}{r:Reach}{b0:Nat},(ts.all fun t=>Rt P 12 t)=true->(∀(j:Nat) t v,ts[j]?=some t->vs[j]?=some v->Value.okWide P w r b0 t v) ->
  DataW.TrodAll enc P w base (fun _=>true) held ts vs ds p->∃qs,Bw (WTv P) ts qs/\Bw (Wo w No) qs vs
 |[],[],[],_,_,_,_,_,_=>⟨[],trivial,trivial⟩
 |t::ts,v::vs,d::ds,_,r,b0,hp,hv,⟨p,q,h1,h2,_⟩=>by
  simp only[List.all_cons,Gl] at hp;obtain⟨x,h3,h4⟩:=Aom hp.1 (hv 0 t v rfl rfl) h1;obtain⟨xs,h5,h6⟩:=XZ hp.2 (fun j t v ht Uq=>hv (j+1) t v ht Uq) h2;exact⟨x::xs,⟨h3,h5⟩,h4,h6⟩
 |[],_::_,_,_,_,_,_,_,h=>by cases h
 |[],[],_::_,_,_,_,_,_,h=>by cases h
 |_::_,[],_,_,_,_,_,_,h=>by cases h
 |_::_,_::_,[],_,_,_,_,_,h=>by cases h
theorem DI(hl:laidOutB P=true){W W':World}{sp:Nat->Bool}:∀{ts:List TypeId}{vs:List Value}{ds:List (DataW H)} {p:List MemPlace},(ts.all fun t=>P.readableRec t&&Nat.blt t P.types.size)=true ->
  DataW.TrodAll enc P W 0 (fun _=>true) true ts vs ds p->(∀x∈p,W.sameAt W' x)->(∀x∈p,sp x.block=true)->DataW.TrodAll enc P W' 0 sp true ts vs ds p
 |[],[],[],_,_,h,_,_=>h
 |t::ts,v::vs,d::ds,_,hr,⟨p,q,h1,h2,e⟩,hs,hsp=>by
  simp only[List.all_cons,Gl] at hr;refine⟨p,q,WideElems.Trod_stays hl hr.1.1 (Nat.lt_of_succ_le (Wu hr.1.2)) h1 (fun x hx=>hs x ?_) (fun x hx=>hsp x ?_),DI hl hr.2 h2 (fun x hx=>hs x ?_) (fun x hx=>hsp x ?_),e⟩
  all_goals rw[e,Bu]
  ·exact .inl hx
  ·exact .inl hx
  ·exact .inr hx
  ·exact .inr hx
 |[],_::_,_,_,_,h,_,_=>by cases h
 |[],[],_::_,_,_,h,_,_=>by cases h
 |_::_,[],_,_,_,h,_,_=>by cases h
 |_::_,_::_,[],_,_,h,_,_=>by cases h
theorem UD{f:Func}{s:ChangeSpec}{apart fresh ZH again:Bool}{W W':World}{args:Array Value}{v:Value}{ds gs:List (DataW H)}{before pa pv:List MemPlace}(hW:DataW.Whole enc P f.params.toList s.vars apart W args.toList ds gs before)(A3j:∀(b:Nat)(sp:Nat->Bool)(hd:Bool),DataW.TrodAll enc P W' b sp hd f.resultTypes.toList (v.resultList f.resultTypes.size) (s.fn H (ds++gs)).results [])(Fh:∀sp:Nat->Bool,(∀p∈before,sp p.block=true)->DataW.TrodAll enc P W' 0 sp true f.params.toList args.toList (s.fn H (ds++gs)).args pa)(Aco:∀sp:Nat->Bool,(∀p∈before,sp p.block=true)->DataW.TrodVars enc P W' sp s.vars (s.fn H (ds++gs)).vars pv)(KV:before=pa++pv)(hb:Below W.heap.size W W')(hok:∀(j:Nat)(t:TypeId)(r:Value),f.resultTypes[j]?=some t->(v.resultList f.resultTypes.size)[j]?=some r->Value.okWide P W' .any 0 t r):
  s.post enc P f apart fresh ZH again W args v W':=by
 have Ch:∀p∈before,p.block<W.heap.size:=fun p hp=>hW.lt p hp;have hold:∀p∈before,(fun b=>decide (b<W.heap.size)) p.block=true:=fun p hp=>by simpa using Ch p hp
 refine⟨ds,gs,before,[],pa,pv,hW,A3j _ _ _,Fh _ hold,Aco _ hold,World.keptBut_mono (fun p hp=>⟨hp,?_⟩) (hb.frame (· ∈ before)),fun _=>?_⟩
 ·rw[KV,Bu] at hp;exact Or.inr hp
 ·obtain⟨_,_,_,_,_,hz,hn⟩:=hW;refine⟨hok,_,_,([]++pa)++pv,⟨[]++pa,pv,trodAll_append (Fh _ (fun _ _=>rfl)) (A3j _ _ _),Aco _ (fun _ _=>rfl),rfl,?_,?_⟩,?_⟩
  ·intro b off hp;have BH:MemPlace.cell b off∈before:=by rw[KV];simpa using hp
   rw[hb.frozen (Ch _ BH)];exact hz b off BH
  ·intro ha;have:=hn ha;rw[KV] at this
   simpa using this
  ·intro p hp _;rw[KV]
   simpa using hp
theorem law_contract{G:Vs}{C:Jm}(hx:Aht G P C)(Jz:NoNG P)(hm:P.follows .mixedOrders=true)(hl:laidOutB P=true){f:FuncId}{fn:Func}{s:ChangeSpec}{tb:TypeId}(hfn:P.funcs[f]?=some fn)(Aco:s.vars=[])(A36:∀ds:List (DataW H),ds.length=fn.params.size->s.fn H ds={ results:=[.lit (.bool true)],args:=ds })(Azd:(fn.params.toList.all fun t=>Rt P 12 t)=true)(A3z:(fn.params.toList.all fun t=>P.readableRec t&&Nat.blt t P.types.size)=true)(hrt:fn.resultTypes = #[tb])(hub:P.underlying tb=some .bool){apart fresh ZH again:Bool}(W:World)(base:Nat)(args:Array Value)(ds gs:List (DataW H))(before:List MemPlace)(hval:∀(j:Nat) t v,fn.params[j]?=some t->args[j]?=some v->Value.okWide P W .any base t v)(hW:DataW.Whole enc P fn.params.toList s.vars apart W args.toList ds gs before)(A77:∀qs:Ab,Bw (WTv P) fn.params.toList qs->∃fu d,Ap C P fu d f qs=some ⟨[.sc (.bool true)],[]⟩)(hG:G.ok W)(hGY:∀b,G.bl b->b<W.heap.size):
  Calls P f args W fun e W'=>∃v,e=.returned v/\s.post enc P fn apart fresh ZH again W args v W':=by
 have hW':=hW;obtain⟨p,q,hA,hV,rfl,JF,TC⟩:=hW;rw[Aco] at hV;obtain⟨rfl,rfl⟩:=trodVars_none hV;obtain⟨qs,h1,h2⟩:=XZ Azd (fun j t v ht hv=>hval j t v (by simpa using ht) (by simpa using hv)) hA;obtain⟨fu,d,hc⟩:=A77 qs h1;have hS:=(AF Jz hm hx d f qs _ hc).2 W No Zp args.toList (Ab8 (fun b h=>h.elim) h2) hG (fun b hb=>⟨hGY b hb,Q8 b⟩);rw[Array.toArray_toList] at hS;refine hS.mono fun e W' ⟨vs,own,he,ho⟩=>?_;have hv:=ho.vals
 have U5:vs=[.bool true]:=by
  match vs,hv with
  |[u],hv=>
   have:Az W' _ (.sc (.bool true)) u:=hv.1;rw[this.val]
  |[],hv=>exact hv.elim
  |_::_::_,hv=>exact hv.2.elim
 subst U5;subst he;have hb:Below W.heap.size W W':=⟨ho.os,ho.tape,ho.output,ho.ext.size,fun k hk=>ho.ext.keep k hk (Q8 k)⟩
 have Ch:∀x∈p,x.block<W.heap.size:=fun x hx=>hW'.lt x (by simpa using hx)
 have Hk:ds.length=fn.params.size:=by
  have:∀{ts:List TypeId} {vs:List Value} {ds:List (DataW H)} {p:List MemPlace},DataW.TrodAll enc P W 0 (fun _=>true) true ts vs ds p->ds.length=ts.length:=by
   intro ts
   induction ts with
   |nil=>intro vs ds p h;cases vs<;>cases ds<;>first|rfl|cases h
   |cons t ts ih=>
    intro vs ds p h;cases vs with
    |nil=>cases h
    |cons v vs=>
     cases ds with
     |nil=>cases h
     |cons d ds=>obtain⟨_,_,_,h2,_⟩:=h;simp[ih h2]
  simpa using this hA
 have hsp:=A36 (ds++[]) (by simpa using Hk);refine⟨_,rfl,UD (pa:=p) (pv:=[]) hW' ?_ ?_ ?_ rfl hb ?_⟩
 ·intro b sp hd;rw[hsp,hrt];exact trodAll_mk1 (shut_bool hub _)
 ·intro sp A6w;rw[hsp];simp only[List.append_nil];exact DI hl A3z hA (fun x hx=>hb.same (Ch x hx)) (fun x hx=>A6w x (by simpa using hx))
 ·intro sp _;rw[hsp,Aco];rfl
 ·exact ok_one hrt rfl (okWide_bool_mk hub _)
end
end
section
open Go.Proofs.Tryz (prog)
theorem Aad{d:Nat}{ps:Ab}{k:IntKind}{t e:TypeId}(hk:Nt prog t=.sl e)(hc:prog.cellsOf e=1)(he:Nt prog e=.int k)(h:WT prog d t ps):
  ∃l:Cg,ps=[.lst false 1 l.length (Ad k l)]/\l.length<=maxLen/\∀n∈l,(Lit.int k n).wf=true:=by
 obtain⟨rows,rfl,hl,hr⟩:=Awd hk h;obtain⟨l,h1,h2,h3⟩:=Qk (Azl k) (fun n=>(Lit.int k n).wf=true) fun r hrr=>So he (hr r hrr).2;refine⟨l,?_,by omega,h3⟩;rw[h1,h2,hc]
theorem Ahk{d:Nat}{ps:Ab}{k:Nat}{t e:TypeId}(hk:Nt prog t=.sl e)(hc:prog.cellsOf e=k)(h:WT prog d t ps):
  ∃rows:List Ab,ps=[.lst false k rows.length rows.flatten]/\rows.length<=maxLen/\∀r∈rows,r.length=k/\WT prog (d-1) e r:=by
 subst hc;exact Awd hk h
theorem Aak{n:Int}(h:(Lit.int .u64 n).wf=true):0<=n/\n<=18446744073709551615:=by simp[Lit.wf,IntKind.min,IntKind.max,IntKind.signed,IntKind.bits] at h;omega
theorem Ark{p:PV}{k:IntKind}{t e:TypeId}(ha:Cr prog t=false)(hk:Nt prog t=.sl e)(hc:prog.cellsOf e=1)(he:Nt prog e=.int k)(h:WTv prog t p):
  ∃l:Cg,p=.lst false 1 l.length (Ad k l)/\l.length<=maxLen/\∀n∈l,(Lit.int k n).wf=true:=by
 have h':=Aiv (P:=prog) (t:=t) (p:=p) ha h;obtain⟨l,h1,h2,h3⟩:=Aad hk hc he h';exact⟨l,by injection h1,h2,h3⟩
end
instance : Coe Int PV:=⟨fun x=>.sc (.int .i64 x)⟩
abbrev Ao (x:Int):PV:=.sc (.int .i64 x)
abbrev Ac (x:Int):PV:=.sc (.int .u64 x)
abbrev Ai(k n:Nat)(l:Ab):PV:=.lst false k n l
abbrev Bv(l:Ab):Option Dl:=some ⟨l,[]⟩
abbrev Eb(c:Option Dl)(k:PV->Ab->Option Dl):Option Dl:=Bk c fun x y=>Aq y<|Av x k
abbrev Di(k:IntKind)(l:Ab)(f:Int->Ab->Option Dl):Option Dl:=Av l fun x y=>A8 k x fun z=>f z y
abbrev J1(k:IntKind)(c:Option Dl)(f:Int->Option Dl):Option Dl:=Bk c fun x y=>Aq y<|Av x fun z t=>A8 k z fun u=>Aq t<|f u
abbrev J9(k:Nat)(l:Ab)(f:Nat->Ab->Ab->Option Dl):Option Dl:=Av l fun x y=>M0 k x fun _ n c=>f n c y
abbrev Xi(k:Nat)(l:Ab)(f:Nat->Ab->Ab->Option Dl):Option Dl:=Av l fun x y=>Kn k x fun n c=>f n c y
abbrev MI(l:Ab)(f:Bool->Option Dl):Option Dl:=Av l fun x y=>Co x fun z=>Aq y<|f z
abbrev D1(k:IntKind)(l:Ab)(f:Int->Option Dl):Option Dl:=Av l fun x y=>A8 k x fun z=>Aq y<|f z
abbrev Ve(n k m:Nat)(l e:Ab)(f:Nat->Ab->Option Dl):Option Dl:=At (decide (n*k<=l.length)&&true&&decide ((n+1)*m<=1099511627776)&&decide (n+1<=1099511627776))<|f (n+1) (List.take (n*k) l++e)
abbrev Lu(fu:Nat)(call:Bi)(i:FuncId)(f:Func):=A2i CB prog fu call i f (RI f)
inductive ZzQ:Bool->Bool->Prop
|t:ZzQ true true
|f:ZzQ false false
theorem Do{R:Type}{b c:Bool}{x y r:Option R}(h:ZzQ b c)(k:(match (generalizing:=false) c with|true=>x|false=>y)=r):Bd b x y=r:=by cases h<;>exact k
theorem Dp:type_of% gT/\type_of% gF/\type_of% @Bool.not_true/\type_of% @Bool.not_false/\type_of% @decide_eq_true/\type_of% @decide_eq_false/\type_of% @decide_true/\type_of% @decide_false:=⟨gT,gF,@Bool.not_true,@Bool.not_false,@decide_eq_true,@decide_eq_false,@decide_true,@decide_false⟩
theorem B3(n k m:Nat)(l e:Ab)(f:Nat->Ab->Option Dl):Ve n k m l e f=(At (decide (n*k<=l.length)&&true&&decide ((n+1)*m<=1099511627776)&&decide (n+1<=1099511627776))<|f (n+1) (List.take (n*k) l++e)):=by exact id rfl
abbrev F1(C:Jm)(fu d:Nat)(F:FuncId)(l:Ab)(b:Bi->Option Dl):Prop:=Ap C prog fu (d+1) F l=b (Ap C prog fu d)
section
variable {xs:FuncId->Option (Ab->Option Dl)}(fu d:Nat)(call:Bi)
theorem BU(Z Y:Int):F1 (CX xs) fu d 147 [Ac Z,Y] fun call=>Aa (wrap .u64 Y) fun a=>Aa (Tp .u64 a 63) fun a=>At (decide (0<=a))<|Aa (Iy .u64 Z a) fun b=>Aa (wrap .u64 (64-a)) fun a=>At (decide (0<=a))<|Aa (Ff .u64 Z a) fun a=>Aa (VB .u64 b a) fun a=>Bv [Ac a]:=by show _=_;kernel_rfl
def Ji(Z:Nat)(Y:Ab)(X W V:Nat)(U:Ab)(T S:Int)(Q:Ab):Option Dl:=Lu fu call 86 Tryz.f86 [Ai 1 Z Y] [.r,.r,.l,.r,.l] X ⟨lk [(3,.view 3 1 0 W),(11,Ai 1 V U),(12,T),(13,S)],Bq [(3,.ar false Q)]⟩
def L6(Z:Nat)(Y:Ab)(X W V:Nat)(U:Int)(T:Nat)(S:Ab)(Q P O:Int)(N:Ab):Option Dl:=Lu fu call 86 Tryz.f86 [Ai 1 Z Y] [.r,.r,.l,.r,.l,.i X,.r,.r,.l,.l,.r,.r,.l] W ⟨lk [(3,.view 3 1 0 V),(5,Ac U),(11,Ai 1 T S),(12,Q),(13,P),(17,O)],Bq [(3,.ar false N)]⟩
theorem Ur(T:Nat)(S:Ab)(Q Y W:Nat)(V:Ab)(U Z:Int)(X:Ab):Ji fu call T S (Q+1) Y W V U Z X=(Bd (decide (Z<U)) (At (decide (0<=Z)&&decide (Z<(↑W:Int)))<|A8 .u64 (V.getD (Z.toNat*1) .top) fun a=>L6 fu call T S Q fu Y a W V U Z 0 X) (At (decide (Y*1<=X.length))<|Bv [.own 1 Y (X.take (Y*1))])):=by kernel_rfl
theorem Uk(Y:Nat)(X:Ab)(W N V:Nat)(U:Int)(T:Nat)(S:Ab)(Q P Z:Int)(O:Ab):L6 fu call Y X W (N+1) V U T S Q P Z O=(Bd (decide (Z<8)) (Aa (wrap .i64 (8*Z)) fun a=>Aa (wrap .i64 (56-a)) fun a=>At (decide (0<=a))<|Aa (Ff .u64 U a) fun a=>Aa (wrap .u8 a) fun a=>Ve V 1 1 O [.sc (.int .u8 a)] fun a b=>Aa (wrap .i64 (Z+1)) fun c=>L6 fu call Y X W N a U T S Q P c b) (Aa (wrap .i64 (P+1)) fun a=>Ji fu call Y X W V T S Q a O)):=by kernel_rfl
theorem SJ(Z:Nat)(Y:Ab):F1 (CX xs) fu d 86 [Ai 1 Z Y] fun call=>Aa (wrap .i64 (8*(↑Z:Int))) fun a=>At (decide (0<=a)&&decide (a*1<=1099511627776)&&decide (a<=1099511627776))<|Ji fu call Z Y fu 0 Z Y (↑Z:Int) 0 ([]):=by show _=_;kernel_rfl
def Kv(Z:Nat)(Y:Ab)(X:Nat)(W:Int)(V:Nat)(U:Ab)(T S:Int):Option Dl:=Lu fu call 135 Tryz.f135 [Ai 1 Z Y] [.r,.r,.l,.r,.l] X ⟨lk [(3,Ac W),(6,Ai 1 V U),(7,T),(8,S)],Bq []⟩
theorem Sm(U:Nat)(T:Ab)(S:Nat)(Y:Int)(X:Nat)(W:Ab)(V Z:Int):Kv fu call U T (S+1) Y X W V Z=(Bd (decide (Z<V)) (At (decide (0<=Z)&&decide (Z<(↑X:Int)))<|A8 .u8 (W.getD (Z.toNat*1) .top) fun a=>Aa (wrap .u64 a) fun a=>Aa (wrap .i64 (8*Z)) fun b=>At (decide (0<=b))<|Aa (Iy .u64 a b) fun a=>Aa (VB .u64 Y a) fun a=>Aa (wrap .i64 (Z+1)) fun b=>Kv fu call U T S a X W V b) (Bv [Ac Y])):=by kernel_rfl
theorem ND(Z:Nat)(Y:Ab):F1 (CX xs) fu d 135 [Ai 1 Z Y] fun call=>Kv fu call Z Y fu 0 Z Y (↑Z:Int) 0:=by show _=_;kernel_rfl
def G3(Z Y:Int)(X W V:Int)(U:Nat)(T S:Int)(Q P:Int)(O N:Int):Option Dl:=Lu fu call 136 Tryz.f136 [.pbox [Ac Z,Ac Y,Ac X,Ac W],V] [.r,.l] U ⟨lk [(0,.ptr 288000 0),(4,T),(5,S)],Bq [(288000,.st [Ac Q,Ac P,Ac O,Ac N])]⟩
theorem Lw(T S:Int)(Q P O:Int)(N:Nat)(X W:Int)(V Z:Int)(U Y:Int):G3 fu call T S Q P O (N+1) X W V Z U Y=(Bd (decide (W<X)) (Aa (wrap .u64 (V+Z)) fun a=>J1 .u64 (call 147 [Ac Z,(13:Int)]) fun b=>Aa (E6 .u64 b a) fun b=>J1 .u64 (call 147 [Ac a,(32:Int)]) fun a=>Aa (wrap .u64 (U+Y)) fun c=>J1 .u64 (call 147 [Ac Y,(16:Int)]) fun e=>Aa (E6 .u64 e c) fun e=>Aa (wrap .u64 (a+e)) fun a=>J1 .u64 (call 147 [Ac e,(21:Int)]) fun e=>Aa (E6 .u64 e a) fun e=>Aa (wrap .u64 (c+b)) fun c=>J1 .u64 (call 147 [Ac b,(17:Int)]) fun b=>Aa (E6 .u64 b c) fun b=>J1 .u64 (call 147 [Ac c,(32:Int)]) fun c=>Aa (wrap .i64 (W+1)) fun f=>G3 fu call T S Q P O N X f a b c e) (some ⟨[],[[Ac V,Ac Z,Ac U,Ac Y]]⟩)):=by kernel_rfl
theorem Yu(Z Y:Int)(X W V:Int):F1 (CX xs) fu d 136 [.pbox [Ac Z,Ac Y,Ac X,Ac W],V] fun call=>G3 fu call Z Y X W V fu V 0 Z Y X (W):=by show _=_;kernel_rfl
theorem Yv(Y X:Int)(W V Z:Int):F1 (CX xs) fu d 134 [.pbox [Ac Y,Ac X,Ac W,Ac V],Ac Z] fun call=>Aa (E6 .u64 V Z) fun a=>Bk (call 136 [.pbox [Ac Y,Ac X,Ac W,Ac a],(2:Int)]) fun a b=>Aq a<|Av b fun a b=>Di .u64 a fun a c=>Di .u64 c fun c e=>Di .u64 e fun e f=>D1 .u64 f fun f=>Aq b<|Aa (E6 .u64 a Z) fun a=>some ⟨[],[[Ac a,Ac c,Ac e,Ac f]]⟩:=by show _=_;kernel_rfl
def Ln(Z Y:Int)(X:Nat)(W:Ab)(V U:Nat)(T:Ab)(S Q:Int)(P O:Int)(N M L:Int):Option Dl:=Lu fu call 109 Tryz.f109 [Ac Z,Ac Y,Ai 1 X W] [.r,.r,.r,.l,.r,.l] V ⟨lk [(2,Ai 1 U T),(7,.ptr 7 0),(8,S),(22,Q),(23,P)],Bq [(7,.st [Ac O,Ac N,Ac M,Ac L])]⟩
theorem Yh(P O:Int)(N:Nat)(M:Ab)(L Z:Nat)(X:Ab)(W V:Int)(Y U:Int)(T S Q:Int):Ln fu call P O N M (L+1) Z X W V Y U T S Q=(Bd (decide (Y<V)) (Aa (wrap .i64 (8*Y)) fun a=>Aa (wrap .i64 (8*Y)) fun b=>Aa (wrap .i64 (b+8)) fun b=>At (decide (0<=a))<|At (decide (0<=b))<|At (decide (a.toNat<=b.toNat)&&decide (b.toNat<=Z))<|Aa (b.toNat-a.toNat) fun b=>Aa (List.take (b*1) (X.drop (a.toNat*1))) fun a=>J1 .u64 (call 135 [Ai 1 b a]) fun a=>Bk (call 134 [.pbox [Ac U,Ac T,Ac S,Ac Q],Ac a]) fun a b=>Aq a<|Av b fun a b=>Di .u64 a fun a c=>Di .u64 c fun c e=>Di .u64 e fun e f=>D1 .u64 f fun f=>Aq b<|Aa (wrap .i64 (Y+1)) fun b=>Ln fu call P O N M L Z X W V b a c e f) (Aa (wrap .i64 (8*W)) fun a=>At (decide (0<=a))<|At (decide (a.toNat<=Z)&&decide (Z<=Z))<|Aa (Z-a.toNat) fun b=>Aa (List.take (b*1) (X.drop (a.toNat*1))) fun a=>J1 .u64 (call 135 [Ai 1 b a]) fun a=>Aa (wrap .u64 (↑Z:Int)) fun b=>Aa (Iy .u64 b 56) fun b=>Aa (VB .u64 a b) fun a=>Bk (call 134 [.pbox [Ac U,Ac T,Ac S,Ac Q],Ac a]) fun a b=>Aq a<|Av b fun a b=>Di .u64 a fun a c=>Di .u64 c fun c e=>Di .u64 e fun e f=>D1 .u64 f fun f=>Aq b<|Aa (E6 .u64 e 255) fun b=>Bk (call 136 [.pbox [Ac a,Ac c,Ac b,Ac f],(4:Int)]) fun a b=>Aq a<|Av b fun a b=>Di .u64 a fun a c=>Di .u64 c fun c e=>Di .u64 e fun e f=>D1 .u64 f fun f=>Aq b<|Aa (E6 .u64 a c) fun a=>Aa (E6 .u64 a e) fun a=>Aa (E6 .u64 a f) fun a=>Bv [Ac a])):=by kernel_rfl
theorem ZM(Z Y:Int)(X:Nat)(W:Ab):F1 (CX xs) fu d 109 [Ac Z,Ac Y,Ai 1 X W] fun call=>Aa (E6 .u64 Z 8317987319222330741) fun a=>Aa (E6 .u64 Y 7237128888997146477) fun b=>Aa (E6 .u64 Z 7816392313619706465) fun c=>Aa (E6 .u64 Y 8387220255154660723) fun e=>Aa (wrap .i64 (Int.tdiv (↑X:Int) 8)) fun f=>Ln fu call Z Y X W fu X W f f 0 a b c e:=by show _=_;kernel_rfl
theorem UU(Z:Int)(Y:Nat)(X:Ab):F1 (CX xs) fu d 66 [Z,Ai 1 Y X] fun call=>Aa (wrap .u64 Z) fun a=>J1 .u64 (call 109 [Ac a,Ac 0,Ai 1 Y X]) fun a=>Bv [Ac a]:=by show _=_;kernel_rfl
theorem ZS(Z Y:Int)(X:Nat)(W:Ab):F1 (CX xs) fu d 137 [Ac Z,Y,Ai 1 X W] fun call=>Aa (wrap .u64 Y) fun a=>Aa (wrap .u64 (1+a)) fun a=>J1 .u64 (call 109 [Ac Z,Ac a,Ai 1 X W]) fun a=>Bv [Ac a]:=by show _=_;kernel_rfl
theorem DT(Y Z:Int):F1 (CX xs) fu d 128 [Ac Y,Ac Z] fun call=>At (decide (0<=Z))<|Aa (Iy .u64 Y Z) fun a=>Aa (wrap .u64 (64-Z)) fun b=>At (decide (0<=b))<|Aa (Ff .u64 Y b) fun b=>Aa (VB .u64 a b) fun a=>Bv [Ac a]:=by show _=_;kernel_rfl
theorem BM(X Z:Int)(W Y:Int):F1 (CX xs) fu d 103 [.agg [Ac X,Ac Z,Ac W,Ac Y]] fun call=>Aa (wrap .u64 (X+Z)) fun a=>J1 .u64 (call 128 [Ac Z,Ac 13]) fun b=>Aa (E6 .u64 b a) fun b=>J1 .u64 (call 128 [Ac a,Ac 32]) fun a=>Aa (wrap .u64 (W+Y)) fun c=>J1 .u64 (call 128 [Ac Y,Ac 16]) fun e=>Aa (E6 .u64 e c) fun e=>Aa (wrap .u64 (a+e)) fun a=>J1 .u64 (call 128 [Ac e,Ac 21]) fun e=>Aa (E6 .u64 e a) fun e=>Aa (wrap .u64 (c+b)) fun c=>J1 .u64 (call 128 [Ac b,Ac 17]) fun b=>Aa (E6 .u64 b c) fun b=>J1 .u64 (call 128 [Ac c,Ac 32]) fun c=>Bv [.agg [Ac a,Ac b,Ac c,Ac e]]:=by show _=_;kernel_rfl
def He(Z Y:Int)(X:Nat)(W:Ab)(V U:Nat)(T:Ab)(S:Int)(Q:Ab):Option Dl:=Lu fu call 61 Tryz.f61 [Ac Z,Ac Y,Ai 1 X W] [.r,.r,.l,.r,.l] V ⟨lk [(2,Ai 1 U T),(7,.ptr 7 0),(8,S)],Bq [(7,.ar false Q)]⟩
def F3(Z Y:Int)(X:Nat)(W:Ab)(V U T:Nat)(S:Ab)(Q P O:Int)(N:Ab):Option Dl:=Lu fu call 61 Tryz.f61 [Ac Z,Ac Y,Ai 1 X W] [.r,.r,.l,.r,.l,.i V,.r,.l,.l,.r,.l,.r,.l] U ⟨lk [(2,Ai 1 T S),(7,.ptr 7 0),(8,Q),(9,Ac P),(10,O)],Bq [(7,.ar false N)]⟩
theorem Qa(W V:Int)(U:Nat)(T:Ab)(S Y:Nat)(Q:Ab)(X:Int)(Z:Ab):He fu call W V U T (S+1) Y Q X Z=(Bd (decide (X<=(↑Y:Int))) (F3 fu call W V U T S fu Y Q X 0 7 Z) (A8 .u64 (Z.getD 2 .top) fun a=>Aa (E6 .u64 a 255) fun a=>At (decide (3<=Z.length))<|Aa (Bp Z [Ac a] 2) fun a=>A8 .u64 (a.getD 0 .top) fun b=>A8 .u64 (a.getD 1 .top) fun c=>A8 .u64 (a.getD 2 .top) fun e=>A8 .u64 (a.getD 3 .top) fun f=>Eb (call 103 [.agg [Ac b,Ac c,Ac e,Ac f]]) fun b c=>D3 b fun b=>Di .u64 b fun b e=>Di .u64 e fun e f=>Di .u64 f fun f g=>D1 .u64 g fun g=>Aq c<|Eb (call 103 [.agg [Ac b,Ac e,Ac f,Ac g]]) fun b c=>D3 b fun b=>Di .u64 b fun b e=>Di .u64 e fun e f=>Di .u64 f fun f g=>D1 .u64 g fun g=>Aq c<|Eb (call 103 [.agg [Ac b,Ac e,Ac f,Ac g]]) fun b c=>D3 b fun b=>Di .u64 b fun b e=>Di .u64 e fun e f=>Di .u64 f fun f g=>D1 .u64 g fun g=>Aq c<|Eb (call 103 [.agg [Ac b,Ac e,Ac f,Ac g]]) fun b c=>D3 b fun b=>Di .u64 b fun b e=>Di .u64 e fun e f=>Di .u64 f fun f g=>D1 .u64 g fun g=>Aq c<|At (decide (4<=a.length))<|Aa (Bp a [Ac b,Ac e,Ac f,Ac g] 0) fun a=>A8 .u64 (a.getD 0 .top) fun b=>A8 .u64 (a.getD 1 .top) fun c=>Aa (E6 .u64 b c) fun b=>A8 .u64 (a.getD 2 .top) fun c=>Aa (E6 .u64 b c) fun b=>A8 .u64 (a.getD 3 .top) fun a=>Aa (E6 .u64 b a) fun a=>Bv [Ac a])):=by kernel_rfl
theorem Qd(T S:Int)(Q:Nat)(P:Ab)(O N Z:Nat)(V:Ab)(X U Y:Int)(W:Ab):F3 fu call T S Q P O (N+1) Z V X U Y W=(Bd (decide (Y>=0)) (Aa (wrap .i64 (X+Y)) fun a=>Bd (decide (a<(↑Z:Int))) (Aa (wrap .i64 (X+Y)) fun a=>At (decide (0<=a)&&decide (a<(↑Z:Int)))<|A8 .u8 (V.getD (a.toNat*1) .top) fun a=>Aa (Iy .u64 U 8) fun b=>Aa (wrap .u64 a) fun a=>Aa (VB .u64 b a) fun a=>Aa (wrap .i64 (Y-1)) fun b=>F3 fu call T S Q P O N Z V X a b W) (Bd (Y==7) (Aa (wrap .u8 (↑Z:Int)) fun a=>Aa (Iy .u64 U 8) fun b=>Aa (wrap .u64 a) fun a=>Aa (VB .u64 b a) fun a=>Aa (wrap .i64 (Y-1)) fun b=>F3 fu call T S Q P O N Z V X a b W) (Aa (Iy .u64 U 8) fun a=>Aa (VB .u64 a 0) fun a=>Aa (wrap .i64 (Y-1)) fun b=>F3 fu call T S Q P O N Z V X a b W))) (A8 .u64 (W.getD 3 .top) fun a=>Aa (E6 .u64 a U) fun a=>At (decide (4<=W.length))<|Aa (Bp W [Ac a] 3) fun a=>A8 .u64 (a.getD 0 .top) fun b=>A8 .u64 (a.getD 1 .top) fun c=>A8 .u64 (a.getD 2 .top) fun e=>A8 .u64 (a.getD 3 .top) fun f=>Eb (call 103 [.agg [Ac b,Ac c,Ac e,Ac f]]) fun b c=>D3 b fun b=>Di .u64 b fun b e=>Di .u64 e fun e f=>Di .u64 f fun f g=>D1 .u64 g fun g=>Aq c<|Eb (call 103 [.agg [Ac b,Ac e,Ac f,Ac g]]) fun b c=>D3 b fun b=>Di .u64 b fun b e=>Di .u64 e fun e f=>Di .u64 f fun f g=>D1 .u64 g fun g=>Aq c<|At (decide (4<=a.length))<|Aa (Bp a [Ac b,Ac e,Ac f,Ac g] 0) fun a=>A8 .u64 (a.getD 0 .top) fun b=>Aa (E6 .u64 b U) fun b=>At (decide (1<=a.length))<|Aa (Bp a [Ac b] 0) fun a=>Aa (wrap .i64 (X+8)) fun b=>He fu call T S Q P O Z V b a)):=by kernel_rfl
theorem GX(Z Y:Int)(X:Nat)(W:Ab):F1 (CX xs) fu d 61 [Ac Z,Ac Y,Ai 1 X W] fun call=>Aa (E6 .u64 Z 8317987319222330741) fun a=>Aa (E6 .u64 Y 7237128888997146477) fun b=>Aa (E6 .u64 Z 7816392313619706465) fun c=>Aa (E6 .u64 Y 8387220255154660723) fun e=>He fu call Z Y X W fu X W 0 ([Ac a,Ac b,Ac c,Ac e]):=by show _=_;kernel_rfl
theorem DO(Z:Int)(Y:Nat)(X:Ab):F1 (CX xs) fu d 33 [Z,Ai 1 Y X] fun call=>Aa (wrap .u64 Z) fun a=>J1 .u64 (call 61 [Ac a,Ac 0,Ai 1 Y X]) fun a=>Bv [Ac a]:=by show _=_;kernel_rfl
theorem FP(Z Y:Int)(X:Nat)(W:Ab):F1 (CX xs) fu d 85 [Ac Z,Y,Ai 1 X W] fun call=>Aa (wrap .u64 Y) fun a=>Aa (wrap .u64 (1+a)) fun a=>J1 .u64 (call 61 [Ac Z,Ac a,Ai 1 X W]) fun a=>Bv [Ac a]:=by show _=_;kernel_rfl
def Gf(Z:Nat)(Y:Ab)(X W:Nat)(V:Ab)(U:Nat)(T:Int)(S:Ab):Option Dl:=Lu fu call 79 Tryz.f79 [Ai 1 Z Y] [.r,.r,.l,.r,.l] X ⟨lk [(0,Ai 1 W V),(3,.view 3 1 0 U),(4,T)],Bq [(3,.ar false S)]⟩
def H2(Z:Nat)(Y:Ab)(X W V:Nat)(U:Ab)(T:Nat)(S Q:Int)(P:Ab):Option Dl:=Lu fu call 79 Tryz.f79 [Ai 1 Z Y] [.r,.r,.l,.r,.l,.i X,.r,.l,.l,.r,.l] W ⟨lk [(0,Ai 1 V U),(3,.view 3 1 0 T),(4,S),(5,Q)],Bq [(3,.ar false P)]⟩
theorem Ni(V:Nat)(U:Ab)(T X:Nat)(S:Ab)(Z:Nat)(W:Int)(Y:Ab):Gf fu call V U (T+1) X S Z W Y=(Bd (decide (W<(↑X:Int))) (H2 fu call V U T fu X S Z W 7 Y) (At (decide (Z*1<=Y.length))<|Bv [.own 1 Z (Y.take (Z*1))])):=by kernel_rfl
theorem Nv(V:Nat)(U:Ab)(T P Y:Nat)(X:Ab)(S:Nat)(Z W:Int)(Q:Ab):H2 fu call V U T (P+1) Y X S Z W Q=(Bd (decide (W>=0)) (At (decide (0<=Z)&&decide (Z<(↑Y:Int)))<|A8 .u64 (X.getD (Z.toNat*1) .top) fun a=>Aa (wrap .i64 (8*W)) fun b=>Aa (wrap .u64 b) fun b=>At (decide (0<=b))<|Aa (Ff .u64 a b) fun a=>Aa (wrap .u8 a) fun a=>Ve S 1 1 Q [.sc (.int .u8 a)] fun a b=>Aa (wrap .i64 (W-1)) fun c=>H2 fu call V U T P Y X a Z c b) (Aa (wrap .i64 (Z+1)) fun a=>Gf fu call V U T Y X S a Q)):=by kernel_rfl
theorem CN(Z:Nat)(Y:Ab):F1 (CX xs) fu d 79 [Ai 1 Z Y] fun call=>Gf fu call Z Y fu Z Y 0 0 ([]):=by show _=_;kernel_rfl
end
def rot(x k:Int):Int:=VB .u64 (Iy .u64 x k) (Ff .u64 x (64-k))
structure W4 where
 a:Int
 b:Int
 c:Int
 d:Int
def W4.cells(v:W4):Ab:=[Ac v.a,Ac v.b,Ac v.c,Ac v.d]
def A6v(v:W4):W4:=⟨rot (wrap .u64 (v.a+v.b)) 32,E6 .u64 (rot v.b 13) (wrap .u64 (v.a+v.b)),wrap .u64 (v.c+v.d),E6 .u64 (rot v.d 16) (wrap .u64 (v.c+v.d))⟩
def A5n(v:W4):W4:=⟨wrap .u64 (v.a+v.d),E6 .u64 (rot v.b 17) (wrap .u64 (v.c+v.b)),rot (wrap .u64 (v.c+v.b)) 32,E6 .u64 (rot v.d 21) (wrap .u64 (v.a+v.d))⟩
def TB(v:W4):W4:=A5n (A6v v)
def Aga:Nat->W4->W4
 |0,v=>v
 |n+1,v=>Aga n (TB v)
def A1r(r:W4)(m:Int):W4:=⟨E6 .u64 r.a m,r.b,r.c,r.d⟩
def Vx(v:W4)(m:Int):W4:=A1r (Aga 2 ⟨v.a,v.b,v.c,E6 .u64 v.d m⟩) m
def V2:Cg->Int
 |[]=>0
 |b::r=>b+256*V2 r
def TW:Nat->W4->Cg->W4
 |0,v,_=>v
 |n+1,v,l=>TW n (Vx v (V2 (l.take 8))) (l.drop 8)
def Az1(k0 k1:Int):W4:=⟨E6 .u64 k0 8317987319222330741,E6 .u64 k1 7237128888997146477,E6 .u64 k0 7816392313619706465,E6 .u64 k1 8387220255154660723⟩
def Aj9(v:W4):W4:=Aga 4 ⟨v.a,v.b,E6 .u64 v.c 255,v.d⟩
def Aki(v:W4):Int:=E6 .u64 (E6 .u64 (E6 .u64 v.a v.b) v.c) v.d
def Q5(l:Cg):Int:=V2 (l.drop (8*(l.length / 8)))+72057594037927936*((l.length:Int) % 256)
def As8(k0 k1:Int)(l:Cg):Int:=Aki (Aj9 (Vx (TW (l.length / 8) (Az1 k0 k1) l) (Q5 l)))
def P8(dom:Int)(l:Cg):Int:=As8 (wrap .u64 dom) 0 l
def Atn(key dom:Int)(l:Cg):Int:=As8 key (wrap .u64 (1+wrap .u64 dom)) l
def Mn(l:Cg):Prop:=∀b∈l,0<=b/\b<=255
theorem Xh:∀{l:Cg},Mn l->0<=V2 l/\V2 l<256 ^ l.length
 |[],_=>by simp[V2]
 |b::r,h=>by
  have h1:=h b (by simp);have h2:=Xh (l:=r) fun x hx=>h x (by simp[hx]);have h3:(256:Int) ^ (b::r).length=256 ^ r.length*256:=by rw[G9,Int.pow_succ]
  simp only[V2];omega
theorem DW:∀(l r:Cg),V2 (l++r)=V2 l+256 ^ l.length*V2 r
 |[],r=>by simp[V2]
 |b::l,r=>by
  have ih:=DW l r;simp only[Zzp,V2,G9,Int.pow_succ];rw[ih,Int.mul_add];have:(256:Int)*(256 ^ l.length*V2 r)=256 ^ l.length*256*V2 r:=by rw[<-Int.mul_assoc,Int.mul_comm 256]
  omega
theorem ZX{a c:Int}(k b:Nat)(h0:0<=a)(h1:a<((2 ^ k:Nat):Int))(hc:c=((b*2 ^ k:Nat):Int))(h:a+c<=18446744073709551615):VB .u64 a c=a+c/\VB .u64 c a=a+c:=by
 obtain⟨n,rfl⟩:=Int.eq_ofNat_of_zero_le h0;subst hc;have hn:n<2 ^ k:=by omega
 generalize hB:b*2 ^ k=m at h
 have e4:(BitVec.ofInt 64 (n:Int)).toNat=n:=by
  rw[BitVec.toNat_ofInt];omega
 have e5:(BitVec.ofInt 64 (m:Int)).toNat=m:=by
  rw[BitVec.toNat_ofInt];omega
 have e6:m ||| n=m+n:=by
  have:=Nat.shiftLeft_add_eq_or_of_lt hn b;rw[Nat.shiftLeft_eq,hB] at this;exact this.symm
 constructor
 ·show wrap .u64 ((BitVec.ofInt 64 (n:Int) ||| BitVec.ofInt 64 (m:Int)).toNat:Int)=_;rw[BitVec.toNat_or,e4,e5,Nat.or_comm,e6,Cm (by omega) (by omega)];omega
 ·show wrap .u64 ((BitVec.ofInt 64 (m:Int) ||| BitVec.ofInt 64 (n:Int)).toNat:Int)=_;rw[BitVec.toNat_or,e4,e5,e6,Cm (by omega) (by omega)];omega
theorem Ah3{a k:Int}(h0:0<=a)(hk:0<=k)(Jj:k<=64)(h:a*((2 ^ k.toNat:Nat):Int)<=18446744073709551615):Iy .u64 a k=a*((2 ^ k.toNat:Nat):Int):=by
 show wrap .u64 (a*2 ^ (min k.toNat IntKind.u64.bits))=_;have e:min k.toNat IntKind.u64.bits=k.toNat:=Nat.min_eq_left (by show k.toNat<=64;omega)
 have e2:(2:Int) ^ k.toNat=((2 ^ k.toNat:Nat):Int):=by simp
 rw[e,e2,Cm (Int.mul_nonneg h0 (Int.natCast_nonneg _)) h]
section
variable {fu d:Nat}{xs:FuncId->Option (Ab->Option Dl)}
theorem Aqd{x k:Int}(hk:k=13\/k=16\/k=17\/k=21\/k=32):Ap (CX xs) prog fu (d+1) 147 [Ac x,Ao k]=some ⟨[Ac (rot x k)],[]⟩:=by rw[BU];rcases hk with rfl|rfl|rfl|rfl|rfl<;>kernel_rfl
theorem Aog{x k:Int}(hk:k=13\/k=16\/k=17\/k=21\/k=32):Ap (CX xs) prog fu (d+1) 128 [Ac x,Ac k]=some ⟨[Ac (rot x k)],[]⟩:=by rw[DT];rcases hk with rfl|rfl|rfl|rfl|rfl<;>kernel_rfl
theorem ML{a0 a1 a2 a3 a4:Int}:∀(k i nn:Nat)(v:W4),k<nn->i+k<=100 ->
  G3 fu (Ap (CX xs) prog fu (d+1)) a0 a1 a2 a3 a4 nn ((i+k:Nat):Int) i v.a v.b v.c v.d=some ⟨[],[(Aga k v).cells]⟩
 |_,_,0,_,h,_=>by omega
 |0,i,nn+1,v,h,hi=>by
  rw[Lw,D0 _ _ _ (by omega)];rfl
 |k+1,i,nn+1,v,h,hi=>by
  have ih:=ML (a0:=a0) (a1:=a1) (a2:=a2) (a3:=a3) (a4:=a4) k (i+1) nn (TB v) (by omega) (by omega);have w:wrap .i64 ((i:Int)+1)=((i+1:Nat):Int):=by rw[Ah (by omega) (by omega)];omega
  have r13:=fun x=>Aqd (xs:=xs) (fu:=fu) (d:=d) (x:=x) (k:=13) (by simp);have r16:=fun x=>Aqd (xs:=xs) (fu:=fu) (d:=d) (x:=x) (k:=16) (by simp);have r17:=fun x=>Aqd (xs:=xs) (fu:=fu) (d:=d) (x:=x) (k:=17) (by simp);have r21:=fun x=>Aqd (xs:=xs) (fu:=fu) (d:=d) (x:=x) (k:=21) (by simp);have r32:=fun x=>Aqd (xs:=xs) (fu:=fu) (d:=d) (x:=x) (k:=32) (by simp);rw[Lw];simp(disch:=omega)only[B4,B3,r13,r16,r17,r21,r32,w];rw[show i+(k+1)=i+1+k by omega];exact ih
theorem YA(k:Nat)(hk:k<=4)(Bo:100<=fu)(v:W4):Ap (CX xs) prog fu (d+2) 136 [.pbox [Ac v.a,Ac v.b,Ac v.c,Ac v.d],Ao k]=some ⟨[],[(Aga k v).cells]⟩:=by rw[Yu];have:=ML (xs:=xs) (fu:=fu) (d:=d) (a0:=v.a) (a1:=v.b) (a2:=v.c) (a3:=v.d) (a4:=k) k 0 fu v (by omega) (by omega);rw[Cu] at this;exact this
theorem WB(Bo:100<=fu)(v:W4)(m:Int):Ap (CX xs) prog fu (d+3) 134 [.pbox [Ac v.a,Ac v.b,Ac v.c,Ac v.d],Ac m]=some ⟨[],[(Vx v m).cells]⟩:=by rw[Yv];have r2:=YA (xs:=xs) (fu:=fu) (d:=d) 2 (by omega) Bo ⟨v.a,v.b,v.c,E6 .u64 v.d m⟩;have e2:((2:Nat):Int)=2:=rfl;rw[e2] at r2;unfold Vx;generalize Aga 2 ⟨v.a,v.b,v.c,E6 .u64 v.d m⟩=R at r2 ⊢;simp only[W4.cells] at r2;simp only[B4,B3,r2];rfl
theorem A35{a b:Int}{k:Nat}(hk:k<8)(ha:0<=a)(ha':a<((2 ^ (8*k):Nat):Int))(hb:0<=b)(Jh:b<=255):VB .u64 a (Iy .u64 b (8*(k:Int)))=a+((2 ^ (8*k):Nat):Int)*b:=by
 obtain⟨n,rfl⟩:=Int.eq_ofNat_of_zero_le hb;have e:(8*(k:Int)).toNat=8*k:=by omega
 have hp:n*2 ^ (8*k)<=255*2 ^ (8*k):=Nat.mul_le_mul_right _ (by omega);have h56:2 ^ (8*k)<=2 ^ 56:=Nat.pow_le_pow_right (by omega) (by omega);have e56:(2:Nat) ^ 56=72057594037927936:=by decide
 rw[e56] at h56;generalize hP:2 ^ (8*k)=p at *
 have Ave:n*p<=255*p:=hp
 have hs:Iy .u64 (n:Int) (8*(k:Int))=(n:Int)*((2 ^ (8*(k:Int)).toNat:Nat):Int):=Ah3 (by omega) (by omega) (by omega) (by
  rw[e,hP];have:((n*p:Nat):Int)<=((255*p:Nat):Int):=by omega
  rw[<-Int.natCast_mul];omega)
 rw[hs,e,hP]
 have:=(ZX (a:=a) (c:=((n*p:Nat):Int)) (8*k) n ha (by rw[hP];exact ha') (by rw[hP]) (by
  have:((n*p:Nat):Int)<=((255*p:Nat):Int):=by omega
  omega)).1
 rw[<-Int.natCast_mul,this,Int.mul_comm ((p:Nat):Int),<-Int.natCast_mul]
theorem A3f(k:Nat):((2 ^ (8*k):Nat):Int)=256 ^ k:=by rw[Nat.pow_mul];simp
theorem MK{call:Bi}{n:Nat}{c:Ab}{l:Cg}(hb:Mn l)(hl:l.length<=8):∀(r:Cg)(i nn:Nat),l.drop i=r->r.length<nn->i<=l.length ->
  Kv fu call n c nn (V2 (l.take i)) l.length (Ad .u8 l) l.length i=some ⟨[Ac (V2 l)],[]⟩
 |_,_,0,_,h,_=>by omega
 |[],i,nn+1,h,hn,hi=>by
  have:=drop_nil h;rw[Sm,D0 _ _ _ (by omega),I9 (by omega)]
 |b::r,i,nn+1,h,hn,hi=>by
  obtain⟨h1,h2,h3⟩:=C1 h;simp only[G9] at hn;have ih:=MK (call:=call) (n:=n) (c:=c) hb hl r (i+1) nn h3 (by omega) (by omega);have hbb:=hb b (List.mem_of_getElem? h2);have w:wrap .i64 ((i:Int)+1)=((i+1:Nat):Int):=by rw[Ah (by omega) (by omega)];omega
  have w8:wrap .i64 (8*(i:Int))=8*(i:Int):=Ah (by omega) (by omega);have wb:wrap .u64 b=b:=Cm (by omega) (by omega);have Azc:=Xh (l:=l.take i) fun x hx=>hb x (List.mem_of_mem_take hx);have htl:(l.take i).length=i:=by rw[List.length_take];omega
  rw[htl] at Azc
  have hj:VB .u64 (V2 (l.take i)) (Iy .u64 b (8*(i:Int)))=V2 (l.take (i+1)):=by
   rw[A35 (by omega) Azc.1 (by rw[A3f];exact Azc.2) hbb.1 hbb.2,List.take_add_one,h2,DW,htl,A3f]
   simp[V2]
  rw[Sm];simp(disch:=omega)only[B4,B3,Ij,Ec,Z5 h2,w,w8,wb,hj];exact ih
theorem UZ{l:Cg}(hb:Mn l)(hl:l.length<=8)(Bo:100<=fu):Ap (CX xs) prog fu (d+1) 135 [.lst false 1 l.length (Ad .u8 l)]=some ⟨[Ac (V2 l)],[]⟩:=by rw[ND];exact MK hb hl l 0 fu rfl (by omega) (by omega)
theorem Ks(k:IntKind)(l:Cg)(i:Nat):List.drop i (Ad k l)=Ad k (l.drop i):=by
 have:=ZU (HA k) l i
 simpa using this
theorem Rx(k:IntKind)(l:Cg)(i:Nat):List.take i (Ad k l)=Ad k (l.take i):=by
 have:=Aia (HA k) l i
 simpa using this
theorem Mn.drop{l:Cg}(h:Mn l)(i:Nat):Mn (l.drop i):=fun x hx=>h x (List.mem_of_mem_drop hx)
theorem Mn.take{l:Cg}(h:Mn l)(i:Nat):Mn (l.take i):=fun x hx=>h x (List.mem_of_mem_take hx)
theorem Avq{a0 a1:Int}{n:Nat}{c:Ab}{l:Cg}(hb:Mn l)(hl:l.length<=1099511627776)(Bo:100<=fu)(nn:Nat)(v:W4):
  Ln fu (Ap (CX xs) prog fu (d+3)) a0 a1 n c (nn+1) l.length (Ad .u8 l) ((l.length / 8:Nat):Int) ((l.length / 8:Nat):Int) ((l.length / 8:Nat):Int) v.a v.b v.c v.d=some ⟨[Ac (Aki (Aj9 (Vx v (Q5 l))))],[]⟩:=by
 have w8:wrap .i64 (8*((l.length / 8:Nat):Int))=((8*(l.length / 8):Nat):Int):=by rw[Ah (by omega) (by omega)];omega
 have wl:wrap .u64 (l.length:Int)=l.length:=Cm (by omega) (by omega);have hdl:(l.drop (8*(l.length / 8))).length=l.length-8*(l.length / 8):=List.length_drop;have li:=UZ (xs:=xs) (fu:=fu) (d:=d+2) (hb.drop (8*(l.length / 8))) (by omega) Bo;rw[hdl] at li;have tk:List.take (l.length-8*(l.length / 8)) (Ad .u8 (l.drop (8*(l.length / 8))))=Ad .u8 (l.drop (8*(l.length / 8))):=I9 (by rw[Am,hdl];omega)
 have hbn:=Xh (hb.drop (8*(l.length / 8)));rw[hdl] at hbn
 have hp7:(256:Int) ^ (l.length-8*(l.length / 8))<=256 ^ 7:=by
  have:(256:Nat) ^ (l.length-8*(l.length / 8))<=256 ^ 7:=Nat.pow_le_pow_right (by omega) (by omega);have h2:(((256:Nat) ^ (l.length-8*(l.length / 8)):Nat):Int)<=((256 ^ 7:Nat):Int):=by omega
  simpa using h2
 have A22:VB .u64 (V2 (l.drop (8*(l.length / 8)))) (Iy .u64 (l.length:Int) 56)=Q5 l:=by
  have hs:Iy .u64 (l.length:Int) 56=(((l.length % 256)*2 ^ 56:Nat):Int):=by
   show wrap .u64 ((l.length:Int)*2 ^ (min (56:Int).toNat IntKind.u64.bits))=_;have h2:(2:Int) ^ (min (56:Int).toNat IntKind.u64.bits)=72057594037927936:=by decide
   have h3:(2:Nat) ^ 56=72057594037927936:=by decide
   rw[h2,h3];simp only[wrap,IntKind.signed,IntKind.bits];simp;omega
  have h56:(256:Int) ^ 7=((2 ^ 56:Nat):Int):=by decide
  have h3:(2:Nat) ^ 56=72057594037927936:=by decide
  rw[hs,(ZX 56 (l.length % 256) hbn.1 (by omega) rfl (by omega)).1];unfold Q5;omega
 have ab:=WB (xs:=xs) (fu:=fu) (d:=d) Bo v (Q5 l);have r4:=YA (xs:=xs) (fu:=fu) (d:=d+1) 4 (by omega) Bo ⟨(Vx v (Q5 l)).a,(Vx v (Q5 l)).b,E6 .u64 (Vx v (Q5 l)).c 255,(Vx v (Q5 l)).d⟩;have e4:((4:Nat):Int)=4:=rfl;rw[e4] at r4;unfold Aj9;generalize Vx v (Q5 l)=U at ab r4 ⊢;generalize Aga 4 ⟨U.a,U.b,E6 .u64 U.c 255,U.d⟩=R at r4 ⊢;simp only[W4.cells] at ab r4;rw[Yh];simp(disch:=omega)only[B4,B3,Ij,Ec,w8,wl,Ks,tk,li,A22,ab,r4];rfl
theorem Acw{a0 a1:Int}{n:Nat}{c:Ab}{l:Cg}(hb:Mn l)(hl:l.length<=1099511627776)(Bo:100<=fu):∀(k i nn:Nat)(v:W4),i+k=l.length / 8->k<nn ->
  Ln fu (Ap (CX xs) prog fu (d+3)) a0 a1 n c nn l.length (Ad .u8 l) ((l.length / 8:Nat):Int) ((l.length / 8:Nat):Int) i v.a v.b v.c v.d=some ⟨[Ac (Aki (Aj9 (Vx (TW k v (l.drop (8*i))) (Q5 l))))],[]⟩
 |_,_,0,_,_,h=>by omega
 |0,i,nn+1,v,hi,hn=>by
  have e:i=l.length / 8:=by omega
  subst e;exact Avq hb hl Bo nn v
 |k+1,i,nn+1,v,hi,hn=>by
  have w:wrap .i64 ((i:Int)+1)=((i+1:Nat):Int):=by rw[Ah (by omega) (by omega)];omega
  have w8:wrap .i64 (8*(i:Int))=((8*i:Nat):Int):=by rw[Ah (by omega) (by omega)];omega
  have w88:wrap .i64 (((8*i:Nat):Int)+8)=((8*i+8:Nat):Int):=by rw[Ah (by omega) (by omega)];omega
  have hdl:((l.drop (8*i)).take 8).length=8:=by rw[List.length_take,List.length_drop];omega
  have li:=UZ (xs:=xs) (fu:=fu) (d:=d+2) ((hb.drop (8*i)).take 8) (by omega) Bo;rw[hdl] at li;have e8:8*i+8-8*i=8:=by omega
  have ab:=WB (xs:=xs) (fu:=fu) (d:=d) Bo v (V2 ((l.drop (8*i)).take 8));have ih:=Acw (a0:=a0) (a1:=a1) (n:=n) (c:=c) hb hl Bo k (i+1) nn (Vx v (V2 ((l.drop (8*i)).take 8))) (by omega) (by omega)
  have eN:TW (k+1) v (l.drop (8*i))=TW k (Vx v (V2 ((l.drop (8*i)).take 8))) (l.drop (8*(i+1))):=by
   rw[TW,List.drop_drop,show 8*i+8=8*(i+1) by omega]
  rw[eN];generalize Vx v (V2 ((l.drop (8*i)).take 8))=U at ab ih ⊢;simp only[W4.cells] at ab;rw[Yh];simp(disch:=omega)only[B4,B3,Ij,Ec,w,w8,w88,e8,Ks,Rx,li,ab];exact ih
theorem Ao7{l:Cg}(hb:Mn l)(hl:l.length<=1099511627776)(Bo:100<=fu)(hf:l.length<fu)(k0 k1:Int):Ap (CX xs) prog fu (d+4) 109 [Ac k0,Ac k1,.lst false 1 l.length (Ad .u8 l)]=some ⟨[Ac (As8 k0 k1 l)],[]⟩:=by
 rw[ZM]
 have w:wrap .i64 (Int.tdiv (l.length:Int) 8)=((l.length / 8:Nat):Int):=by
  rw[Int.tdiv_eq_ediv_of_nonneg (by omega),Ah (by omega) (by omega)];omega
 have lp:=Acw (xs:=xs) (fu:=fu) (d:=d) (a0:=k0) (a1:=k1) (n:=l.length) (c:=Ad .u8 l) hb hl Bo (l.length / 8) 0 fu (Az1 k0 k1) (by omega) (by omega);simp only[Je,w];exact lp
theorem Ait{l:Cg}(hb:Mn l)(hl:l.length<=1099511627776)(Bo:100<=fu)(hf:l.length<fu)(dom:Int):Ap (CX xs) prog fu (d+5) 66 [Ao dom,.lst false 1 l.length (Ad .u8 l)]=some ⟨[Ac (P8 dom l)],[]⟩:=by rw[UU];have s:=Ao7 (xs:=xs) (fu:=fu) (d:=d) hb hl Bo hf (wrap .u64 dom) 0;simp only[B4,B3,s];rfl
theorem R2(v:W4):Ap (CX xs) prog fu (d+2) 103 [.agg [Ac v.a,Ac v.b,Ac v.c,Ac v.d]]=some ⟨[.agg (TB v).cells],[]⟩:=by have r13:=fun x=>Aog (xs:=xs) (fu:=fu) (d:=d) (x:=x) (k:=13) (by simp);have r16:=fun x=>Aog (xs:=xs) (fu:=fu) (d:=d) (x:=x) (k:=16) (by simp);have r17:=fun x=>Aog (xs:=xs) (fu:=fu) (d:=d) (x:=x) (k:=17) (by simp);have r21:=fun x=>Aog (xs:=xs) (fu:=fu) (d:=d) (x:=x) (k:=21) (by simp);have r32:=fun x=>Aog (xs:=xs) (fu:=fu) (d:=d) (x:=x) (k:=32) (by simp);rw[BM];simp(disch:=omega)only[B4,B3,r13,r16,r17,r21,r32];rfl
def Y0(l:Cg)(i k:Nat):Int:=if i+k<l.length then l.getD (i+k) 0 else if k=7 then (l.length:Int) % 256 else 0
def pc(l:Cg)(i:Nat):Cg:=(List.range 8).map (Y0 l i)
theorem A5h{l:Cg}(hb:Mn l)(i:Nat):Mn (pc l i):=by
 intro x hx;obtain⟨k,hk,rfl⟩:=List.mem_map.1 hx;unfold Y0;split
 ·rename_i h;rw[List.getD_eq_getElem?_getD,List.getElem?_eq_getElem h];exact hb _ (List.getElem_mem h)
 ·split<;>omega
theorem Atd{l:Cg}{i:Nat}(h:i+8<=l.length):pc l i=(l.drop i).take 8:=by
 refine List.ext_getElem (by simp[pc];omega) fun k h1 h2=>?_
 have hk:k<8:=by simpa [pc] using h1
 simp only[pc,List.getElem_map,List.getElem_range,List.getElem_take,List.getElem_drop,Y0];rw[B7 (by omega),List.getD_eq_getElem?_getD,List.getElem?_eq_getElem (by omega)];rfl
theorem VK(x:Int):∀n,V2 (List.replicate n 0++[x])=256 ^ n*x
 |0=>by simp[V2]
 |n+1=>by
  rw[List.replicate_succ,Zzp,V2,VK x n,Int.pow_succ,Int.mul_comm (256 ^ n) 256,Int.mul_assoc];omega
theorem Ati{l:Cg}:V2 (pc l (8*(l.length / 8)))=Q5 l:=by
 have e:pc l (8*(l.length / 8))=l.drop (8*(l.length / 8))++(List.replicate (7-(l.length-8*(l.length / 8))) 0++[(l.length:Int) % 256]):=by
  refine List.ext_getElem (by simp[pc];omega) fun k h1 h2=>?_
  have hk:k<8:=by simpa [pc] using h1
  simp only[pc,List.getElem_map,List.getElem_range,Y0];by_cases hc:8*(l.length / 8)+k<l.length
  ·rw[B7 hc,List.getElem_append_left (by rw[List.length_drop];omega),List.getElem_drop,List.getD_eq_getElem?_getD,List.getElem?_eq_getElem hc]
   rfl
  ·rw[Ba hc,List.getElem_append_right (by rw[List.length_drop];omega)]
   by_cases h7:k=7
   ·rw[B7 h7,List.getElem_append_right (by simp;omega)]
    simp
   ·rw[Ba h7,List.getElem_append_left (by simp;omega)]
    simp
 rw[e,DW,VK];unfold Q5
 have:(256:Int) ^ (l.drop (8*(l.length / 8))).length*(256 ^ (7-(l.length-8*(l.length / 8)))*((l.length:Int) % 256))=72057594037927936*((l.length:Int) % 256):=by
  rw[<-Int.mul_assoc,<-Int.pow_add,List.length_drop];have:l.length-8*(l.length / 8)+(7-(l.length-8*(l.length / 8)))=7:=by omega
  rw[this];rfl
 rw[this]
theorem A3v{a b:Int}(ha:0<=a)(ha':a<72057594037927936)(hb:0<=b)(Jh:b<=255):VB .u64 (Iy .u64 a 8) b=b+256*a:=by
 obtain⟨n,rfl⟩:=Int.eq_ofNat_of_zero_le ha
 have hs:Iy .u64 (n:Int) 8=((n*2 ^ 8:Nat):Int):=by
  have:=Ah3 (a:=(n:Int)) (k:=8) (by omega) (by omega) (by omega) (by
   have:(2 ^ (8:Int).toNat:Nat)=256:=by decide
   rw[this];omega)
  rw[this];have:(2 ^ (8:Int).toNat:Nat)=256:=by decide
  rw[this];have:(2 ^ 8:Nat)=256:=by decide
  rw[this];omega
 have h8:(2 ^ 8:Nat)=256:=by decide
 rw[hs,(ZX (a:=b) 8 n hb (by rw[h8];omega) rfl (by rw[h8];omega)).2,h8]
 omega
theorem Aji{a0 a1:Int}{n m0:Nat}{c:Ab}{l:Cg}(hb:Mn l)(hl:l.length<=1099511627776){i:Nat}(hi:i<=l.length)(v:W4):∀(j nn:Nat),j<=8->j<nn ->
  F3 fu (Ap (CX xs) prog fu (d+2)) a0 a1 n c m0 nn l.length (Ad .u8 l) i (V2 ((pc l i).drop j)) ((j:Int)-1) v.cells =
   He fu (Ap (CX xs) prog fu (d+2)) a0 a1 n c m0 l.length (Ad .u8 l) ((i+8:Nat):Int) (Vx v (V2 (pc l i))).cells
 |_,0,_,h=>by omega
 |0,nn+1,hj,hn=>by
  have w8:wrap .i64 ((i:Int)+8)=((i+8:Nat):Int):=by rw[Ah (by omega) (by omega)];omega
  have r1:=R2 (xs:=xs) (fu:=fu) (d:=d) ⟨v.a,v.b,v.c,E6 .u64 v.d (V2 (pc l i))⟩;have r2:=R2 (xs:=xs) (fu:=fu) (d:=d) (TB ⟨v.a,v.b,v.c,E6 .u64 v.d (V2 (pc l i))⟩);have eA:Vx v (V2 (pc l i))=A1r (TB (TB ⟨v.a,v.b,v.c,E6 .u64 v.d (V2 (pc l i))⟩)) (V2 (pc l i)):=rfl;rw[eA];generalize TB ⟨v.a,v.b,v.c,E6 .u64 v.d (V2 (pc l i))⟩=U at r1 r2 ⊢;generalize TB U=U2 at r2 ⊢;simp only[W4.cells] at r1 r2;rw[Qd,D0 _ _ _ (by omega),Fi];simp only[W4.cells,List.getD_cons_zero,List.getD_cons_succ,ZV,Je];simp (disch:=first|omega|(simp;done)) only[B4,B3,Bp,List.take_succ_cons,List.take_zero,List.drop_succ_cons,Fi,List.drop_nil,Zzp,PT,List.append_nil,G9,Vl,List.getD_cons_zero,List.getD_cons_succ,r1,r2,w8,Cu,Nat.reduceAdd,Nat.reduceLeDiff,List.append_eq]
  rfl
 |j+1,nn+1,hj,hn=>by
  have ih:=Aji (a0:=a0) (a1:=a1) (n:=n) (m0:=m0) (c:=c) hb hl hi v j nn (by omega) (by omega);have hw:wrap .i64 ((i:Int)+(((j+1:Nat):Int)-1))=((i+j:Nat):Int):=by rw[Ah (by omega) (by omega)];omega
  have wj:wrap .i64 (((j+1:Nat):Int)-1-1)=(j:Int)-1:=by rw[Ah (by omega) (by omega)];omega
  have hd:(pc l i).drop j=Y0 l i j::(pc l i).drop (j+1):=by
   rw[List.drop_eq_getElem_cons (by simp[pc];omega)]
   simp[pc]
  have hB:=A5h hb i;have hbn:=Xh (hB.drop (j+1))
  have hp7:(256:Int) ^ ((pc l i).drop (j+1)).length<=72057594037927936:=by
   have Hk:((pc l i).drop (j+1)).length<=7:=by simp[pc]
   have:(256:Nat) ^ ((pc l i).drop (j+1)).length<=256 ^ 7:=Nat.pow_le_pow_right (by omega) Hk;have h2:(((256:Nat) ^ ((pc l i).drop (j+1)).length:Nat):Int)<=((256 ^ 7:Nat):Int):=by omega
   simpa using h2
  have hc0:0<=Y0 l i j/\Y0 l i j<=255:=hB _ (by rw[<-Fi (l:=pc l i)];exact List.mem_of_mem_drop (i:=j) (by rw[Fi,hd];simp))
  have hj2:VB .u64 (Iy .u64 (V2 ((pc l i).drop (j+1))) 8) (Y0 l i j)=V2 ((pc l i).drop j):=by
   rw[A3v hbn.1 (by omega) hc0.1 hc0.2,hd];rfl
  have wc:wrap .u64 (Y0 l i j)=Y0 l i j:=Cm (by omega) (by omega);rw[Qd,EZ _ _ _ (by omega)];simp only[Je,hw];by_cases c1:i+j<l.length
  ·have e:Y0 l i j=l.getD (i+j) 0:=by unfold Y0;rw[B7 c1]
   have e2:l[i+j]?=some (Y0 l i j):=by rw[e,List.getD_eq_getElem?_getD,List.getElem?_eq_getElem c1];rfl
   rw[EZ _ _ _ (by omega)];simp(disch:=omega)only[B4,B3,Ij,Ec,Z5 e2,wc,hj2,wj];exact ih
  ·rw[D0 _ _ _ (by omega)];by_cases h7:j=7
   ·subst h7;have e:Y0 l i 7=(l.length:Int) % 256:=by unfold Y0;rw[Ba c1,B7 rfl]
    have e8:wrap .u8 (l.length:Int)=Y0 l i 7:=by
     rw[e];simp only[wrap,IntKind.signed,IntKind.bits];simp
    rw[Ga,B7 (by omega),e8,wc,hj2,wj];exact ih
   ·have e:Y0 l i j=0:=by unfold Y0;rw[Ba c1,Ba h7]
    rw[e] at hj2;rw[Ga,Ba (by omega),hj2,wj];exact ih
theorem WA{a0 a1:Int}{n:Nat}{c:Ab}{l:Cg}(hb:Mn l)(hl:l.length<=1099511627776)(Bo:100<=fu):∀(k i nn:Nat)(v:W4),i+k=l.length / 8->k+1<nn ->
  He fu (Ap (CX xs) prog fu (d+2)) a0 a1 n c nn l.length (Ad .u8 l) ((8*i:Nat):Int) v.cells=some ⟨[Ac (Aki (Aj9 (Vx (TW k v (l.drop (8*i))) (Q5 l))))],[]⟩
 |_,_,0,_,_,h=>by omega
 |k,i,nn+1,v,hi,hn=>by
  have step:=Aji (xs:=xs) (fu:=fu) (d:=d) (a0:=a0) (a1:=a1) (n:=n) (m0:=nn) (c:=c) hb hl (i:=8*i) (by omega) v 8 fu (by omega) (by omega);have e0:V2 ((pc l (8*i)).drop 8)=0:=by rw[List.drop_of_length_le (by simp[pc])];rfl
  rw[e0] at step;rw[Qa,EZ _ _ _ (by omega)];refine step.trans ?_;cases k with
  |zero=>
   have e:i=l.length / 8:=by omega
   subst e;rw[Ati];generalize hv:Vx v (Q5 l)=u;obtain⟨nn',rfl⟩:∃nn',nn=nn'+1:=⟨nn-1,by omega⟩
   have r1:=R2 (xs:=xs) (fu:=fu) (d:=d) ⟨u.a,u.b,E6 .u64 u.c 255,u.d⟩;have r2:=R2 (xs:=xs) (fu:=fu) (d:=d) (TB ⟨u.a,u.b,E6 .u64 u.c 255,u.d⟩);have r3:=R2 (xs:=xs) (fu:=fu) (d:=d) (TB (TB ⟨u.a,u.b,E6 .u64 u.c 255,u.d⟩));have r4:=R2 (xs:=xs) (fu:=fu) (d:=d) (TB (TB (TB ⟨u.a,u.b,E6 .u64 u.c 255,u.d⟩)))
   have eF:Aki (Aj9 (Vx (TW 0 v (l.drop (8*(l.length / 8)))) (Q5 l)))=Aki (TB (TB (TB (TB ⟨u.a,u.b,E6 .u64 u.c 255,u.d⟩)))):=by
    rw[TW,hv];rfl
   rw[eF];clear eF;generalize TB ⟨u.a,u.b,E6 .u64 u.c 255,u.d⟩=U1 at r1 r2 r3 r4 ⊢;generalize TB U1=U2 at r2 r3 r4 ⊢;generalize TB U2=U3 at r3 r4 ⊢;generalize TB U3=U4 at r4 ⊢;simp only[W4.cells] at r1 r2 r3 r4;rw[Qa,D0 _ _ _ (by omega)];simp only[W4.cells,List.getD_cons_zero,List.getD_cons_succ,ZV,Je];simp (disch:=first|omega|(simp;done)) only[B4,B3,Bp,List.take_succ_cons,List.take_zero,List.drop_succ_cons,Fi,List.drop_nil,Zzp,PT,List.append_nil,G9,Vl,List.getD_cons_zero,List.getD_cons_succ,r1,r2,r3,r4,Cu,Nat.reduceAdd,Nat.reduceLeDiff,List.append_eq]
   rfl
  |succ k=>
   have ih:=WA (a0:=a0) (a1:=a1) (n:=n) (c:=c) hb hl Bo k (i+1) nn (Vx v (V2 (pc l (8*i)))) (by omega) (by omega);rw[show 8*i+8=8*(i+1) by omega,ih,Atd (by omega)];simp only[TW,List.drop_drop];rw[show 8*(i+1)=8*i+8 by omega]
theorem Ahy{l:Cg}(hb:Mn l)(hl:l.length<=1099511627776)(Bo:100<=fu)(hf:l.length<fu)(k0 k1:Int):Ap (CX xs) prog fu (d+3) 61 [Ac k0,Ac k1,.lst false 1 l.length (Ad .u8 l)]=some ⟨[Ac (As8 k0 k1 l)],[]⟩:=by rw[GX];exact WA (xs:=xs) (fu:=fu) (d:=d) (a0:=k0) (a1:=k1) (n:=l.length) (c:=Ad .u8 l) hb hl Bo (l.length / 8) 0 fu (Az1 k0 k1) (by omega) (by omega)
theorem QB{l:Cg}(hb:Mn l)(hl:l.length<=1099511627776)(Bo:100<=fu)(hf:l.length<fu)(dom:Int):Ap (CX xs) prog fu (d+4) 33 [Ao dom,.lst false 1 l.length (Ad .u8 l)]=some ⟨[Ac (P8 dom l)],[]⟩:=by rw[DO];have s:=Ahy (xs:=xs) (fu:=fu) (d:=d) hb hl Bo hf (wrap .u64 dom) 0;simp only[B4,B3,s];rfl
theorem Atc{l:Cg}(hb:Mn l)(hl:l.length<=1099511627776)(Bo:100<=fu)(hf:l.length<fu)(key dom:Int):Ap (CX xs) prog fu (d+4) 85 [Ac key,Ao dom,.lst false 1 l.length (Ad .u8 l)]=some ⟨[Ac (Atn key dom l)],[]⟩:=by rw[FP];have s:=Ahy (xs:=xs) (fu:=fu) (d:=d) hb hl Bo hf key (wrap .u64 (1+wrap .u64 dom));simp only[B4,B3,s];rfl
end
end
end Go.Proofs.YtpogefhpiaaliaaGreatDoor.Pv
