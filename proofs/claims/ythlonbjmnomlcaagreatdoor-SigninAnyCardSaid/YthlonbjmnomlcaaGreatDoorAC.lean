/-
  The proof of SigninAny, part 3.
-/
import Derived.Test.YthlonbjmnomlcaaGreatDoorAB
import Derived.StillTail
import Derived.WalkKit
import Derived.ProofKit
import Derived.OpenShut
import Derived.ShutString
import Derived.ChangeOld
import Derived.Below
import Derived.Deep.Slices
import Derived.ChangeSame
import Derived.WideKeyArgs
import Derived.Carry
import Derived.Test.YthlonbjmnomlcaaGreatDoorRows
set_option linter.unusedSimpArgs false
set_option linter.unusedVariables false
namespace Go.Proofs.YthlonbjmnomlcaaGreatDoor.Pv
open Go.IntKind (wrap)
open Go.Proofs.Tryz (prog)
set_option maxRecDepth 1000000
noncomputable section
section
section
variable {R R':Type}{Rel:Option R->Option R'->Prop}
theorem Md(a:Rel none none){k:IntKind}{p:PV}{K:Int->Option R}{K':Int->Option R'}(b:∀n,Rel (K n) (K' n)):Rel (Bn k p K) (Bn k p K'):=by
 unfold Bn;split
 ·split<;>first|exact b _|exact a
 ·exact a
theorem Fk(a:Rel none none){p:PV}{K:IntKind->Int->Option R}{K':IntKind->Int->Option R'}(b:∀k n,Rel (K k n) (K' k n)):Rel (Et p K) (Et p K'):=by unfold Et;split<;>first|exact b _ _|exact a
theorem Jq(a:Rel none none){p:PV}{K:Bool->Option R}{K':Bool->Option R'}(b:∀n,Rel (K n) (K' n)):Rel (Be p K) (Be p K'):=by unfold Be;split<;>first|exact b _|exact a
theorem Hl(a:Rel none none){p:PV}{K:ByteArray->Option R}{K':ByteArray->Option R'}(b:∀n,Rel (K n) (K' n)):Rel (As p K) (As p K'):=by unfold As;split<;>first|exact b _|exact a
theorem Hz(b:Rel none none){es:Nat}{p:PV}{K:Bool->Nat->Ae->Option R}{K':Bool->Nat->Ae->Option R'}(d:∀z n c,Rel (K z n c) (K' z n c)):Rel (FF es p K) (FF es p K'):=by
 unfold FF;split
 ·rename_i a _ _;cases Nat.beq a es
  ·exact b
  ·exact d _ _ _
 ·exact d _ _ _
 ·exact b
theorem A2n(b:Rel none none){es:Nat}{p:PV}{K:PV->Option R}{K':PV->Option R'}(c:∀p,Rel (K p) (K' p)):Rel (fsK es p K) (fsK es p K'):=by
 unfold fsK;split
 ·rename_i a _ _;cases Nat.beq a es
  ·exact b
  ·exact c _
 ·exact Hz b λ_ _ _=>c _
theorem Aoo(b:Rel none none){es:Nat}{p:PV}{K:Nat->Ae->Option R}{K':Nat->Ae->Option R'}(d:∀n c,Rel (K n c) (K' n c)):Rel (Na es p K) (Na es p K'):=by
 unfold Na;split
 ·rename_i a _ _;cases Nat.beq a es
  ·exact b
  ·exact d _ _
 ·exact b
theorem Ba(a:Rel none none){b:Bool}{K:Option R}{K':Option R'}(c:b=true->Rel K K'):Rel (Aw b K) (Aw b K'):=by
 cases b
 ·exact a
 ·exact c rfl
theorem UQ{b:Bool}{x y:Option R}{a c:Option R'}(d:Rel x a)(e:Rel y c):Rel (Aq b x y) (Aq b a c):=by
 cases b
 ·exact e
 ·exact d
theorem Em(b:Rel none none){α:Type}{o:Option α}{K:α->Option R}{K':α->Option R'}(c:∀a,o=some a->Rel (K a) (K' a)):Rel (Dj o K) (Dj o K'):=by
 cases o
 ·exact b
 ·exact c _ rfl
theorem Cc(b:Rel none none){α:Type}{l:List α}{K:α->List α->Option R}{K':α->List α->Option R'}(c:∀a r,l=a::r->Rel (K a r) (K' a r)):Rel (Ad l K) (Ad l K'):=by
 cases l
 ·exact b
 ·exact c _ _ rfl
theorem Hq(a:Rel none none){α:Type}{l:List α}{K:Option R}{K':Option R'}(b:Rel K K'):Rel (Ah l K) (Ah l K'):=by
 cases l
 ·exact b
 ·exact a
theorem N2(a:Rel none none){p:PV}{K:Ae->Option R}{K':Ae->Option R'}(b:∀c,p=.agg c->Rel (K c) (K' c)):Rel (Dr p K) (Dr p K'):=by
 unfold Dr;split
 ·exact b _ rfl
 ·exact a
theorem Atp(a:Rel none none){p:PV}{K:Ae->Option R}{K':Ae->Option R'}(b:∀c,Rel (K c) (K' c)):Rel (FI p K) (FI p K'):=by
 unfold FI;split
 ·exact b _
 ·exact a
theorem Acs(a:Rel none none){r:Option A8}{K:Ae->List Ae->Option R}{K':Ae->List Ae->Option R'}(b:∀v o,Rel (K v o) (K' v o)):Rel (An r K) (An r K'):=by
 unfold An;split
 ·exact b _ _
 ·exact a
theorem Apy(b:Rel none none){p:PV}{K:Value->Option R}{K':Value->Option R'}(a:∀v,Rel (K v) (K' v)):Rel (fnK p K) (fnK p K'):=by
 unfold fnK;split
 ·exact a _
 ·exact a _
 ·exact b
theorem A2v(c:Rel none none){p:PV}{K:FuncId->Option R}{K':FuncId->Option R'}(d:∀v,Rel (K v) (K' v)):Rel (fvK p K) (fvK p K'):=by
 unfold fvK;split
 ·rename_i f a b;cases (a.isEmpty&&b.isEmpty)
  ·exact c
  ·exact d _
 ·exact c
theorem Wo(a:Rel none none){t:CT}{p:PV}{K:PV->Option R}{K':PV->Option R'}(b:∀p,Rel (K p) (K' p)):Rel (QI t p K) (QI t p K'):=by
 unfold QI;split
 ·exact Md a λ_=>b _
 ·exact Jq a λ_=>b _
 ·exact Hl a λ_=>b _
 ·exact Hz a λ_ _ _=>b _
 ·exact Apy a λ_=>b _
theorem A0j(a:Rel none none){t:CT}{p:PV}{K:PV->Option R}{K':PV->Option R'}(b:∀p,Rel (K p) (K' p)):Rel (fcK t p K) (fcK t p K'):=by
 unfold fcK;split
 ·exact A2n a b
 ·exact Wo a b
theorem Zh(b:Rel none none):∀{ts:List CT}{cells:Ae}{off:Nat}{K:Ae->Option R}{K':Ae->Option R'},(∀c,Rel (K c) (K' c))->Rel (CL ts cells off K) (CL ts cells off K')
 |[],_,_,_,_,a=>a _
 |_::_,_,_,_,_,a=>Wo b λ_=>Zh b λ_=>a _
theorem U6(b:Rel none none):∀{ts:List CT}{cells:Ae}{off:Nat}{K:Ae->Option R}{K':Ae->Option R'},(∀c,Rel (K c) (K' c))->Rel (V5 ts cells off K) (V5 ts cells off K')
 |[],_,_,_,_,a=>a _
 |_::_,_,_,_,_,a=>A0j b λ_=>U6 b λ_=>a _
theorem NP(a:Rel none none){g:Bool}{cells:Ae}{K:PV->Option R}{K':PV->Option R'}(b:∀p,Rel (K p) (K' p)):Rel (mkV g cells K) (mkV g cells K'):=by
 cases g
 ·exact Cc a λ_ _ _=>Hq a (b _)
 ·exact b _
theorem Aop(a:Rel none none){P:Program}{t:TypeId}{v:Value}{K:PV->Option R}{K':PV->Option R'}(d:∀p,Ck p=[]->Rel (K p) (K' p))(b:∀c,Rel (K (.agg c)) (K' (.agg c))):Rel (cvK P t v K) (cvK P t v K'):=by
 unfold cvK;split
 ·exact Ba a λ_=>Zh a λ_=>b _
 ·split
  ·exact d _ rfl
  ·exact a
 ·exact d _ rfl
theorem Awx(a:Rel none none){op:BinOp}{x y:Int}{K:Bool->Option R}{K':Bool->Option R'}(b:∀n,Rel (K n) (K' n)):Rel (A1l op x y K) (A1l op x y K'):=by unfold A1l;split<;>first|exact b _|exact a
theorem Alw(b:Rel none none){op:BinOp}{k:IntKind}{x y:Int}{K:PV->Option R}{K':PV->Option R'}(a:∀n,Rel (K n) (K' n)):Rel (VC op k x y K) (VC op k x y K'):=by unfold VC;split<;>first|exact a _|exact Ba b λ_=>a _|exact Awx b λ_=>a _
theorem Amr(a:Rel none none){op:BinOp}{x y:ByteArray}{K:PV->Option R}{K':PV->Option R'}(b:∀n,Rel (K n) (K' n)):Rel (YI op x y K) (YI op x y K'):=by unfold YI;split<;>first|exact b _|exact Ba a λ_=>b _|exact a
theorem Acd(b:Rel none none){e:Bool}{p:PV}{K:PV->Option R}{K':PV->Option R'}(a:∀n,Rel (K n) (K' n)):Rel (VT e p K) (VT e p K'):=by unfold VT;split<;>first|exact a _|exact UQ (a _) (UQ (a _) (a _))|exact UQ (a _) (a _)|exact b
theorem Aj1(a:Rel none none):∀{ts:List CT}{ps c:Ae}{K:Bool->Option R}{K':Bool->Option R'},(∀b,Rel (K b) (K' b))->Rel (Qz ts ps c K) (Qz ts ps c K'):=by
 intro ts
 induction ts with
 |nil=>
  intro ps c K K' d;cases ps<;>cases c<;>first|exact d _|exact a
 |cons t ts e=>
  intro ps c K K' d;cases ps with
  |nil=>cases t<;>cases c<;>exact a
  |cons p ps=>
   cases c with
   |nil=>cases t<;>exact a
   |cons q c=>
    cases t
    ·exact Md a λ_=>Md a λ_=>e λ_=>d _
    ·exact Jq a λ_=>Jq a λ_=>e λ_=>d _
    ·exact Hl a λ_=>Hl a λ_=>e λ_=>d _
    ·exact a
    ·exact a
theorem Ave(a:Rel none none){P:Program}{op:BinOp}{t:TypeId}{x y:PV}{K:PV->Option R}{K':PV->Option R'}(b:∀p,Rel (K p) (K' p)):Rel (Awo P op t x y K) (Awo P op t x y K'):=by
 unfold Awo;split
 ·split
  ·exact Md a λ_=>Fk a λ_ _=>Ba a λ_=>b _
  ·exact Md a λ_=>Fk a λ_ _=>Ba a λ_=>b _
  ·exact Md a λ_=>Md a λ_=>Alw a b
 ·exact Hl a λ_=>Hl a λ_=>Amr a b
 ·split
  ·exact Jq a λ_=>Jq a λ_=>b _
  ·exact Jq a λ_=>Jq a λ_=>b _
  ·exact a
 ·split
  ·exact Acd a λ_=>b _
  ·exact Acd a λ_=>b _
  ·exact a
 ·split
  ·exact b _
  ·exact b _
  ·exact a
 ·exact a
theorem Ah6(a:Rel none none){P:Program}{op:BinOp}{t:TypeId}{x y:PV}{K:PV->Option R}{K':PV->Option R'}(b:∀p,Rel (K p) (K' p)):Rel (FN P op t x y K) (FN P op t x y K'):=by
 unfold FN;split
 ·split
  ·exact Ba a λ_=>N2 a λ_ _=>N2 a λ_ _=>Aj1 a λ_=>b _
  ·exact Ba a λ_=>N2 a λ_ _=>N2 a λ_ _=>Aj1 a λ_=>b _
  ·exact a
 ·exact Ave a b
theorem A25(a:Rel none none){op:UnOp}{x:PV}{K:PV->Option R}{K':PV->Option R'}(b:∀p,Rel (K p) (K' p)):Rel (unK op x K) (unK op x K'):=by unfold unK;split<;>first|exact Jq a λ_=>b _|exact Fk a λ_ _=>b _|exact a
theorem Fc(a:Rel none none){p:Option PV}{d:Nat}{K:Nat->Option R}{K':Nat->Option R'}(b:∀n,Rel (K n) (K' n)):Rel (Jx p d K) (Jx p d K'):=by
 unfold Jx;split
 ·exact b _
 ·exact Fk a λ_ _=>Ba a λ_=>b _
theorem OM(a:Rel none none){x:PV}{d:Nat}{K:PV->Option R}{K':PV->Option R'}(b:∀n,Rel (K n) (K' n)):Rel (ET x d K) (ET x d K'):=by unfold ET;split<;>first|exact b _|exact a
theorem VB(a:Rel none none){P:Program}{t:TypeId}{x:PV}{i:Int}{K:PV->Option R}{K':PV->Option R'}(b:∀p,Rel (K p) (K' p)):Rel (Pz P t x i K) (Pz P t x i K'):=by
 unfold Pz;split
 ·exact Ba a λ_=>Ba a λ_=>OM a b
 ·refine Ba a λ_=>?_;split
  ·exact Ba a λ_=>Ba a λ_=>b _
  ·exact Hz a λ_ _ _=>Ba a λ_=>b _
 ·exact a
theorem PQ(a:Rel none none){J2:Nat->Option (Nat × Nat)}:∀{ps:List (Nat × PV)} {cells:Ae}{K:Ae->Option R}{K':Ae->Option R'},(∀c,Rel (K c) (K' c))->Rel (DA J2 ps cells K) (DA J2 ps cells K')
 |[],_,_,_,b=>b _
 |(_,_)::_,_,_,_,b=>Em a λ_ _=>Ba a λ_=>PQ a b
theorem DI(a:Rel none none){P:Program}{t:TypeId}{K:Ae->Option R}{K':Ae->Option R'}(b:∀p,Rel (K p) (K' p)):Rel (J3 P t K) (J3 P t K'):=
 Em a λ_ _=>Ba a λ_=>Zh a b
theorem Ay9(a:Rel none none){x y:PV}{K:PV->Option R}{K':PV->Option R'}(b:∀p,Rel (K p) (K' p)):Rel (A08 x y K) (A08 x y K'):=
 Fk a λ_ _=>Md a λ_=>b _
theorem Avt(a:Rel none none){x y:PV}{K:PV->Option R}{K':PV->Option R'}(b:∀p,Rel (K p) (K' p)):Rel (A3j x y K) (A3j x y K'):=
 Fk a λ_ _=>Md a λ_=>b _
theorem Auu(a:Rel none none){P:Program}{t:TypeId}{x:PV}{K:Nat->Option R}{K':Nat->Option R'}(b:∀p,Rel (K p) (K' p)):Rel (Asx P t x K) (Asx P t x K'):=by
 unfold Asx;split
 ·exact Hl a λ_=>b _
 ·exact b _
 ·split
  ·exact Ba a λ_=>b _
  ·exact Hz a λ_ _ _=>b _
 ·exact a
def Agr(Rel:Option R->Option R'->Prop)(f f':Nat->Option Ae)(l:B9):Prop:=∀i∈l,f i=f' i\/(f i=none/\∀b,Rel none b)
variable {f f':Nat->Option Ae}
theorem Agr.sub{l a:B9}(h:Agr Rel f f' l)(b:∀i∈a,i∈l):Agr Rel f f' a:=λi hi=>h i (b i hi)
theorem NQ(a:Rel none none){l:B9}{id:Nat}(b:Agr Rel f f' l)(hi:id∈l){K:Ae->Option R}{K':Ae->Option R'}(d:∀c,f id=some c->Rel (K c) (K' c)):Rel (Dj (f id) K) (Dj (f' id) K'):=by
 rcases b id hi with h|⟨h,e⟩
 ·rw[<-h];exact Em a d
 ·rw[h];exact e _
theorem Y0(a:Rel none none){es:Nat}{p:PV}{K:Nat->Ae->Option R}{K':Nat->Ae->Option R'}(e:Agr Rel f f' (A3 p))(d:∀n c,Rel (K n c) (K' n c)):Rel (Aj6 f es p K) (Aj6 f' es p K'):=by
 unfold Aj6;split
 ·rename_i id b off n;cases Nat.beq b es
  ·exact a
  ·exact NQ a e (by simp[A3]) λ_ _=>Ba a λ_=>d _ _
 ·exact Hz a λ_ _ _=>d _ _
theorem At9(a:Rel none none){t:CT}{p:PV}{K:PV->B9->Option R}{K':PV->B9->Option R'}(e:Agr Rel f f' (A3 p))(b:∀c m,(∀i∈m,f i≠none)->Rel (K c m) (K' c m)):Rel (V3 f t p K) (V3 f' t p K'):=by
 unfold V3;split
 ·split
  ·rename_i id d off n;cases Nat.beq d _
   ·exact a
   ·exact NQ a e (by simp[A3]) λc g=>Ba a λ_=>b _ _ (by simp[g])
  ·exact Hz a λ_ _ _=>b _ _ Ψ
 ·exact Wo a λ_=>b _ _ Ψ
theorem FQ(a:Rel none none):∀{ts:List CT}{ps:Ae}{K:Ae->B9->Option R}{K':Ae->B9->Option R'},Agr Rel f f' (ps.flatMap A3)->(∀c m,(∀i∈m,f i≠none)->Rel (K c m) (K' c m))->Rel (Ux f ts ps K) (Ux f' ts ps K')
 |[],[],_,_,_,b=>b _ _ Ψ
 |[],_::_,_,_,_,_=>a
 |_::_,[],_,_,_,_=>a
 |_::_,p::ps,_,_,d,b=>At9 a (λi hi=>d i (by simp only[L6,B2];exact .inl hi)) λ_ m e=>FQ a (λi hi=>d i (by simp only[L6,B2];exact .inr hi)) λ_ g UY=>b _ _ λi hi=>by
   rcases B2.1 hi with h|h
   ·exact e i h
   ·exact UY i h
theorem Aw8(a:Rel none none){P:Program}{t:TypeId}{p:PV}{K:PV->B9->Option R}{K':PV->B9->Option R'}(d:Agr Rel f f' (C8 p))(e:∀c m,(∀i∈m,f i≠none)->Rel (K c m) (K' c m)):Rel (Alp P f t p K) (Alp P f' t p K'):=by
 unfold Alp
 have g:∀i,i∈[p].flatMap A3->i∈C8 p:=by
  intro i hi;simp only[L6,List.flatMap_nil,List.append_nil] at hi;cases p<;>first|exact hi|simp[A3] at hi
 cases Cm P t
 ·exact FQ a (λi hi=>d i (g i hi)) λ_ _ b=>Cc a λ_ _ _=>Hq a (e _ _ b)
 ·refine N2 a λc h=>?_;subst h;exact FQ a (λi hi=>d i hi) λ_ _ b=>e _ _ b
theorem Ace(a:Rel none none){P:Program}:∀{ts:List TypeId}{ps:Ae}{K:Ae->B9->Option R}{K':Ae->B9->Option R'},Agr Rel f f' (ps.flatMap C8)->(∀c m,(∀i∈m,f i≠none)->Rel (K c m) (K' c m))->Rel (WZ P f ts ps K) (WZ P f' ts ps K')
 |[],[],_,_,_,b=>b _ _ Ψ
 |[],_::_,_,_,_,_=>a
 |_::_,[],_,_,_,_=>a
 |_::_,p::ps,_,_,d,b=>Aw8 a (λi hi=>d i (by simp only[L6,B2];exact .inl hi)) λ_ m e=>Ace a (λi hi=>d i (by simp only[L6,B2];exact .inr hi)) λ_ g UY=>b _ _ λi hi=>by
   rcases B2.1 hi with h|h
   ·exact e i h
   ·exact UY i h
theorem Am7(a:Rel none none){P:Program}{t:TypeId}{x:PV}{d hi:Option PV}{K:PV->Option R}{K':PV->Option R'}(g:(∃n e,P.underlying t=some (.array n e))->Agr Rel f f' (A3 x))(b:∀c,Rel (K c) (K' c)):Rel (ON P f t x d hi K) (ON P f' t x d hi K'):=by
 unfold ON;split
 ·exact Hl a λ_=>Fc a λ_=>Fc a λ_=>Ba a λ_=>b _
 ·refine Ba a λ_=>?_;split
  ·exact Ba a λ_=>Fc a λ_=>Fc a λ_=>Ba a λ_=>b _
  ·exact Hz a λ_ _ _=>Fc a λ_=>Fc a λ_=>Ba a λ_=>b _
 ·rename_i n e h;refine Ba a λ_=>?_;split
  ·rename_i id off;exact NQ a (g ⟨_,_,h⟩) (by simp[A3]) λ_ _=>Ba a λ_=>Fc a λ_=>Fc a λ_=>Ba a λ_=>b _
  ·exact a
 ·exact a
theorem Ajl(a:Rel none none){P:Program}{d:Nat}{t:TypeId}{x:PV}{b hi mx:Option PV}{K:PV->List (Nat × Cd)->Option R}{K':PV->List (Nat × Cd)->Option R'}(e:∀c,Rel (K c [(d,.ar false [])]) (K' c [(d,.ar false [])])):Rel (FR P d t x b hi mx K) (FR P d t x b hi mx K'):=by
 unfold FR;split
 ·refine Ba a λ_=>?_;split
  ·exact Ba a λ_=>Fc a λ_=>Fc a λ_=>Fc a λ_=>Ba a λ_=>e _
  ·exact Hz a λ_ _ _=>Fc a λ_=>Fc a λ_=>Fc a λ_=>Ba a λ_=>e _
 ·exact a
theorem Abi{nz:Bool}{g g':Nat->Option Ae}(a:Rel none none){P:Program}{t:TypeId}{x:PV}{K:PV->Option R}{K':PV->Option R'}(j:∀i∈A3 x,(f i=f' i/\g i=g' i)\/(f i=none/\g i=none/\∀b,Rel none b))(d:∀c,Rel (K c) (K' c)):Rel (NI nz P f g t x K) (NI nz P f' g' t x K'):=by
 unfold NI;split
 ·rename_i id off;refine Ba a λ_=>?_;rcases j id (by simp[A3]) with⟨e,h⟩|⟨e,h,k⟩
  ·rw[<-e,<-h];split
   ·exact Zh a λ_=>NP a λ_=>d _
   ·exact Em a λ_ _=>U6 a λ_=>NP a d
  ·rw[e,h];exact k _
 ·exact Ba a λ_=>Zh a λ_=>NP a λ_=>d _
 ·exact a
theorem As4(a:Rel none none){P:Program}{d:Nat}{e c:TypeId}{x:PV}{K:PV->List (Nat × Cd)->Option R}{K':PV->List (Nat × Cd)->Option R'}(i:P.underlying c=some .string->Agr Rel f f' (A3 x))(g:∀v b,(∀q∈b,q.1=d)->Rel (K v b) (K' v b)):Rel (YG P f d e c x K) (YG P f' d e c x K'):=by
 unfold YG;split
 ·exact Ba a λ_=>Fk a λ_ _=>g _ _ Ψ
 ·rename_i h;split
  ·exact Hl a λ_=>g _ _ Ψ
  ·split
   ·exact Y0 a (i h) λ_ _=>Ba a λ_=>Em a λ_ _=>g _ _ Ψ
   ·exact Y0 a (i h) λ_ _=>Ba a λ_=>Em a λ_ _=>g _ _ Ψ
   ·exact a
  ·exact a
 ·split
  ·exact Hl a λ_=>Ba a λ_=>g _ _ Ψ
  ·exact a
 ·exact a
theorem Axa(a:Rel none none){shr:Bool}{id:Nat}{t:CT}{p:PV}{K:PV->List (Nat × Cd)->Option R}{K':PV->List (Nat × Cd)->Option R'}(d:∀c b,(∀q∈b,q.1=id)->Rel (K c b) (K' c b)):Rel (Ay5 shr id t p K) (Ay5 shr id t p K'):=by
 unfold Ay5;split
 ·cases shr
  ·exact Aoo a λ_ _=>d _ _ Ψ
  ·exact Hz a λ_ _ _=>d _ _ Ψ
 ·exact Wo a λ_=>d _ _ Ψ
theorem FO(a:Rel none none){shr:Bool}{N:Nat}:∀{ts:List CT}{id:Nat}{ps:Ae}{K:Ae->List (Nat × Cd)->Option R} {K':Ae->List (Nat × Cd)->Option R'},(∀c b,(∀q∈b,∃j,q.1=id+N*j)->Rel (K c b) (K' c b))->Rel (X8 shr N id ts ps K) (X8 shr N id ts ps K')
 |[],_,_,_,_,d=>Hq a (d _ _ Ψ)
 |_::_,id,_,_,_,d=>Cc a λ_ _ _=>Axa a λ_ b f=>FO a λ_ bs e=>d _ _ λq g=>by
   rcases B2.1 g with h|h
   ·exact⟨0,by rw[f q h];simp⟩
   ·obtain⟨j,i⟩:=e q h;exact⟨j+1,by rw[i,Nat.mul_add];omega⟩
theorem At6(a:Rel none none){P:Program}{shr:Bool}{N id:Nat}{t:TypeId}{p:PV}{K:PV->List (Nat × Cd)->Option R}{K':PV->List (Nat × Cd)->Option R'}(e:∀c b,(∀q∈b,∃j,q.1=id+N*j)->Rel (K c b) (K' c b)):Rel (Aqn P shr N id t p K) (Aqn P shr N id t p K'):=by
 unfold Aqn;split
 ·refine Atp a λps=>FO a λ_ _ d=>e _ _ λq f=>?_;rcases List.mem_cons.1 f with rfl|f
  ·exact⟨0,Ψ⟩
  ·obtain⟨j,g⟩:=d q f;exact⟨j+1,by rw[g,Nat.mul_add];omega⟩
 cases Cm P t
 ·exact FO a λ_ _ d=>Cc a λ_ _ _=>Hq a (e _ _ d)
 ·exact N2 a λ_ _=>FO a λ_ _ d=>e _ _ d
theorem OJ(a:Rel none none){P:Program}{shr:Bool}{N:Nat}:∀{ts:List TypeId}{id:Nat}{ps:Ae}{K:Ae->List (Nat × Cd)->Option R} {K':Ae->List (Nat × Cd)->Option R'},(∀c b,(∀q∈b,∃j,q.1=id+N*j)->Rel (K c b) (K' c b))->Rel (RH P shr N id ts ps K) (RH P shr N id ts ps K')
 |[],_,_,_,_,d=>Hq a (d _ _ Ψ)
 |t::_,id,_,_,_,d=>Cc a λ_ _ _=>At6 a λ_ b f=>OJ a λ_ bs e=>d _ _ λq g=>by
   rcases B2.1 g with h|h
   ·exact f q h
   ·obtain⟨j,i⟩:=e q h;exact⟨Aic P t+j,by rw[i,Nat.mul_add];omega⟩
end
theorem DZ{p:PV}{i:Nat}(h:i∈A3 p):i∈C8 p:=by cases p<;>first|exact h|simp[A3] at h
theorem Kj{p:PV}{i:Nat}(h:i∈C8 p):i∈Ck p:=by cases p<;>first|exact h|simp[C8,A3] at h
theorem Qb{p:PV}{i:Nat}(h:i∈A3 p):i∈Ck p:=Kj (DZ h)
section
variable {R R':Type}{Rel:Option R->Option R'->Prop}{P:Program}{N:Nat}{tm tm':Nat->PV}{f f' g g':Nat->Option Ae}{o:Oper}
theorem WM(b:Rel none none){t:TypeId}{x:Operand}{K:PV->Option R}{K':PV->Option R'}(c:Cw tm x=Cw tm' x)(a:∀p,Rel (K p) (K' p)):Rel (PW P t tm x K) (PW P t tm' x K'):=by
 unfold PW;split
 ·exact Aop b (λ_ _=>a _) (λ_=>a _)
 ·rw[c];exact a _
theorem Auk(a:Rel none none){t:CT}{p:PV}{K:PV->Option R}{K':PV->Option R'}(b:∀p,A3 p=[]->Rel (K p) (K' p)):Rel (QI t p K) (QI t p K'):=by
 unfold QI;split
 ·exact Md a λ_=>b _ rfl
 ·exact Jq a λ_=>b _ rfl
 ·exact Hl a λ_=>b _ rfl
 ·exact Hz a λ_ _ _=>b _ rfl
 ·exact Apy a λ_=>b _ rfl
theorem Aaz(b:Rel none none):∀{ts:List CT}{cells:Ae}{off:Nat}{K:Ae->Option R}{K':Ae->Option R'},(∀c,(∀p∈c,A3 p=[])->Rel (K c) (K' c))->Rel (CL ts cells off K) (CL ts cells off K')
 |[],_,_,_,_,a=>a _ Ψ
 |_::_,_,_,_,_,a=>Auk b λc d=>Aaz b λe UP=>a _ (by
   intro p hp;rcases List.mem_cons.1 hp with h|h
   ·rw[h];exact d
   ·exact UP p h)
theorem LD(a:Rel none none){t:TypeId}{K:Ae->Option R}{K':Ae->Option R'}(b:∀c,(∀p∈c,A3 p=[])->Rel (K c) (K' c)):Rel (J3 P t K) (J3 P t K'):=
 Em a λ_ _=>Ba a λ_=>Aaz a b
theorem DE{p c:PV}(h:c∈cellsOf p){i:Nat}(hi:i∈A3 c):i∈C8 p:=by
 unfold cellsOf at h;split at h
 ·exact List.mem_flatMap.2 ⟨c,h,hi⟩
 ·simp at h;subst h;exact DZ hi
theorem Amj{cells new:Ae}{off:Nat}{c:PV}(h:c∈B1 cells new off):c∈cells\/c∈new:=by
 unfold B1 at h;rcases B2.1 h with h|h
 ·rcases B2.1 h with h|h
  ·exact .inl (List.mem_of_mem_take h)
  ·exact .inr h
 ·exact .inl (List.mem_of_mem_drop h)
theorem ZE(a:Rel none none){J2:Nat->Option (Nat × Nat)}{S:Nat->Prop}:∀{ps:List (Nat × PV)} {cells:Ae}{K:Ae->Option R}{K':Ae->Option R'},(∀c∈cells,∀i∈A3 c,S i)->(∀q∈ps,∀i∈C8 q.2,S i) ->
  (∀cs,(∀c∈cs,∀i∈A3 c,S i)->Rel (K cs) (K' cs))->Rel (DA J2 ps cells K) (DA J2 ps cells K')
 |[],_,_,_,b,_,d=>d _ b
 |(_,p)::_,_,_,_,b,e,d=>Em a λ_ _=>Ba a λ_=>ZE a (λc f i hi=>by
   rcases Amj f with h|h
   ·exact b c h i hi
   ·exact e (_,p) IQ i (DE h hi)) (λq g=>e q (Yh _ g)) d
theorem RJ(a:Rel none none):∀{ts:List CT}{ps:Ae}{K:Ae->B9->Option R}{K':Ae->B9->Option R'},(∀t∈ts,∀es,t ≠ .sl es)->(∀c,Rel (K c []) (K' c []))->Rel (Ux g ts ps K) (Ux g' ts ps K')
 |[],[],_,_,_,b=>b _
 |[],_::_,_,_,_,_=>a
 |_::_,[],_,_,_,_=>a
 |t::ts,p::ps,K,K',ht,b=>by
  show Rel (V3 g t p _) (V3 g' t p _)
  have:∀{g:Nat->Option Ae} {S:Type} {L:PV->B9->Option S},V3 g t p L=QI t p λc=>L c []:=by
   intro g S L;cases t with
   |sl es=>exact absurd rfl (ht _ Ψ es)
   |_=>rfl
  rw[this,this];exact Wo a λc=>RJ a (λt h=>ht t (by simp[h])) λd=>b _
theorem Auc(a:Rel none none){es:Nat}{t:TypeId}{x:PV}{K:Nat->Ae->Option R}{K':Nat->Ae->Option R'}(d:Agr Rel g g' (A3 x))(b:∀m c,Rel (K m c) (K' m c)):Rel (An5 P g es t x K) (An5 P g' es t x K'):=by
 unfold An5;split
 ·exact Ba a λ_=>Hl a λ_=>b _ _
 ·exact Y0 a d b
 ·exact a
theorem Avj(a:Rel none none){t:TypeId}{x:PV}{K:Nat->Option R}{K':Nat->Option R'}(b:∀n,Rel (K n) (K' n)):Rel (Aqv P t x K) (Aqv P t x K'):=by
 unfold Aqv;split
 ·exact Hz a λ_ _ _=>Ba a λ_=>b _
 ·exact a
theorem Aio(a:Rel none none){d:Nat}{t tx:TypeId}{x:PV}{K:PV->List (Nat × Cd)->Option R}{K':PV->List (Nat × Cd)->Option R'}(b:Agr Rel g g' (A3 x))(c:∀v nw,Rel (K v nw) (K' v nw)):Rel (GD P g d t tx x K) (GD P g' d t tx x K'):=by
 unfold GD;split
 ·exact Ba a λ_=>Auc a b λ_ _=>Ba a λ_=>c _ _
 ·exact a
theorem XC(a:Rel none none){C:J7}{F:Ao}{K:PV->B9->List (Nat × Cd)->Option R}{K':PV->B9->List (Nat × Cd)->Option R'}(Qj:∀x∈o.op.operands.toList,Cw tm x=Cw tm' x)(G:K0 P o.op=true->∀x∈o.op.operands.toList,∀i∈Ck (Cw tm' x),(f i=f' i/\g i=g' i)\/(f i=none/\g i=none/\∀b,Rel none b))(A:∀v fz nw,(K0 P o.op=false->fz=[]/\∀q∈nw,o.dst=some q.1)->(∀i∈fz,g i≠none)->Rel (K v fz nw) (K' v fz nw)):
  Rel (VA C P N F tm f g o K) (VA C P N F tm' f' g' o K'):=by
 have r:∀v,Rel (K v [] []) (K' v [] []):=λv=>A v [] [] (λ_=>⟨rfl,Ψ⟩) Ψ;have hf:K0 P o.op=true->∀x∈o.op.operands.toList,Agr Rel f f' (Ck (Cw tm' x)):=λh x j i hi=>(G h x j i hi).imp (·.1) λh=>⟨h.1,h.2.2⟩;have L:K0 P o.op=true->∀x∈o.op.operands.toList,Agr Rel g g' (Ck (Cw tm' x)):=λh x j i hi=>(G h x j i hi).imp (·.2) λh=>⟨h.2.1,h.2.2⟩;unfold VA;generalize hop:o.op=op at *
 split
 ·exact WM a (Qj _ (by simp[Op.operands])) r
 ·exact WM a (Qj _ (by simp[Op.operands])) r
 ·rename_i c x y;rw[Qj c (by simp[Op.operands]),Qj x (by simp[Op.operands]),Qj y (by simp[Op.operands])];exact Jq a λ_=>UQ (r _) (r _)
 ·exact Em a λd hd=>DI a λ_=>A _ _ _ (λ_=>⟨rfl,by simp[hd]⟩) Ψ
 ·rename_i t x;rw[Qj x (by simp[Op.operands])];refine Em a λd hd=>Ba a λ_=>?_;cases AB P t
  ·exact U6 a λ_=>A _ _ _ (λ_=>⟨rfl,by simp[hd]⟩) Ψ
  ·exact Zh a λ_=>A _ _ _ (λ_=>⟨rfl,by simp[hd]⟩) Ψ
 ·rename_i t ps
  have:(ps.toList.map λq=>(q.1,Cw tm q.2))=ps.toList.map λq=>(q.1,Cw tm' q.2):=by
   apply List.map_congr_left;intro q D;rw[Qj q.2 (by simp only[Op.operands];exact List.mem_map_of_mem D)]
  rw[this];exact Ba a λ_=>DI a λ_=>PQ a λ_=>U6 a λ_=>r _
 ·rename_i t n ps
  have:(ps.toList.map λq=>(q.1,Cw tm q.2))=ps.toList.map λq=>(q.1,Cw tm' q.2):=by
   apply List.map_congr_left;intro q D;rw[Qj q.2 (by simp only[Op.operands];exact List.mem_map_of_mem D)]
  rw[this];refine Em a λd hd=>?_;split
  ·rename_i e hu;cases E:Oi P [e]
   ·refine Ba a λ_=>LD a λz hz=>PQ a λcs=>RJ a ?_ λM=>A _ _ _ (λ_=>⟨rfl,by simp[hd]⟩) Ψ;intro c w es O;obtain⟨l,Q,w⟩:=List.mem_flatten.1 w;rw[List.eq_of_mem_replicate Q] at w;subst O
    have:Oi P [e]=true:=by
     unfold Oi;simp only[List.any_cons,List.any_nil,Bool.or_false,Bool.or_eq_true];exact .inr (List.any_eq_true.2 ⟨_,w,rfl⟩)
    rw[this] at E;cases E
   refine Ba a λ_=>LD a λz hz=>ZE (S:=λi=>∃x∈(Op.buildSlice t n ps).operands.toList,i∈Ck (Cw tm' x)) a ?_ ?_ λcs UP=>?_
   ·intro c w i hi;obtain⟨l,Q,w⟩:=List.mem_flatten.1 w;rw[List.eq_of_mem_replicate Q] at w;rw[hz c w] at hi;simp at hi
   ·intro q D i hi;obtain⟨q',H3,rfl⟩:=List.mem_map.1 D;exact⟨q'.2,by simp only[Op.operands];exact List.mem_map_of_mem H3,Kj hi⟩
   ·refine FQ a (λi hi=>?_) λM m T=>A _ _ _ (λh=>by simp[K0,hu,E] at h) T;obtain⟨c,w,hi⟩:=List.mem_flatMap.1 hi;obtain⟨x,j,U⟩:=UP c w i hi;exact L (by simp[K0,hu,E]) x j i U
  ·exact a
 ·rename_i t x;rw[Qj x (by simp[Op.operands])];exact Abi a (λi hi=>G (by simp[K0]) x (by simp[Op.operands]) i (Qb hi)) r
 ·rename_i x;rw[Qj x (by simp[Op.operands])];exact OM a r
 ·rename_i V t x y _;rw[Qj x (by simp[Op.operands]),Qj y (by simp[Op.operands])];exact Ah6 a r
 ·rename_i V t x;rw[Qj x (by simp[Op.operands])];exact A25 a r
 ·rename_i src dst x;rw[Qj x (by simp[Op.operands])];exact As4 a (λW i hi=>L (by simp[K0,W]) x (by simp[Op.operands]) i (Qb hi)) λv b X=>Em a λd hd=>A _ _ _ (λ_=>⟨rfl,λq D=>by rw[hd,X q D,hd];rfl⟩) Ψ
 ·rename_i t x y;rw[Qj x (by simp[Op.operands]),Qj y (by simp[Op.operands])];refine Em a λd hd=>?_;split
  ·exact Fk a λ_ _=>Fk a λ_ _=>Ba a λ_=>DI a λ_=>A _ _ _ (λ_=>⟨rfl,by simp[hd]⟩) Ψ
  ·exact a
 ·rename_i t x I hi mx;split
  ·rw[Qj x (by simp[Op.operands])]
   have Y:I.map (Cw tm)=I.map (Cw tm'):=by
    cases I with
    |none=>rfl
    |some y=>simp only[Option.map_some];rw[Qj y (by simp[Op.operands])]
   have Z:hi.map (Cw tm)=hi.map (Cw tm'):=by
    cases hi with
    |none=>rfl
    |some y=>simp only[Option.map_some];rw[Qj y (by simp[Op.operands])]
   rw[Y,Z];exact Am7 a (λ⟨n,e,O⟩ i hi=>hf (by simp[K0,O]) x (by simp[Op.operands]) i (Qb hi)) r
  ·rename_i m;rw[Qj x (by simp[Op.operands])]
   have Y:I.map (Cw tm)=I.map (Cw tm'):=by
    cases I with
    |none=>rfl
    |some y=>simp only[Option.map_some];rw[Qj y (by simp[Op.operands])]
   have Z:hi.map (Cw tm)=hi.map (Cw tm'):=by
    cases hi with
    |none=>rfl
    |some y=>simp only[Option.map_some];rw[Qj y (by simp[Op.operands])]
   rw[Y,Z,Qj m (by simp[Op.operands])];exact Em a λd hd=>Ajl a λc=>A _ _ _ (λ_=>⟨rfl,by simp[hd]⟩) Ψ
 ·rename_i t x fl;rw[Qj x (by simp[Op.operands])];exact Em a λ_ _=>Ba a λ_=>OM a r
 ·rename_i t x fl;rw[Qj x (by simp[Op.operands])];exact Em a λ_ _=>Ba a λ_=>N2 a λ_ _=>U6 a λ_=>NP a r
 ·rename_i t x i;rw[Qj x (by simp[Op.operands]),Qj i (by simp[Op.operands])];exact Fk a λ_ _=>VB a r
 ·rename_i t x i;rw[Qj x (by simp[Op.operands]),Qj i (by simp[Op.operands])];refine Fk a λ_ _=>?_;split
  ·exact Hl a λ_=>Ba a λ_=>Em a λ_ _=>r _
  ·exact N2 a λ_ _=>Ba a λ_=>U6 a λ_=>NP a r
  ·exact a
 ·rename_i t x k ok;rw[Qj x (by simp[Op.operands]),Qj k (by simp[Op.operands])];split
  ·refine Ba a λ_=>?_;split
   ·exact Hl a λ_=>Em a λ_ _=>Aop a (λ_ _=>Ba a λ_=>r _) (λ_=>Ba a λ_=>r _)
   ·exact a
  ·exact a
 ·rename_i x i;rw[Qj x (by simp[Op.operands])];split
  ·exact Em a λ_ _=>r _
  ·exact a
 ·rename_i c
  have Vy:∀x∈c.args.toList,x∈(Op.call c).operands.toList:=by
   intro x j;simp only[Op.operands,Call.operands,Array.toList_append,B2];exact .inr j
  have rc:∀H,K0 P (.call c)=true->Rel (UU C P N F tm g o c H K) (UU C P N F tm' g' o c H K'):=by
   intro H s;unfold UU;have:c.args.toList.map (Cw tm)=c.args.toList.map (Cw tm'):=List.map_congr_left λx j=>Qj x (Vy x j);rw[this];refine Ace a (λi hi=>?_) λvs m T=>Acs a λrv ro=>Hq a (Ba a λ_=>OJ a λws bs hbs=>Ba a λ_=>A _ _ _ (λh=>by rw[s] at h;cases h) (λi hi=>?_))
   ·obtain⟨p,hp,hi⟩:=List.mem_flatMap.1 hi;obtain⟨x,j,rfl⟩:=List.mem_map.1 hp;exact L s x (Vy x j) i (Kj hi)
   ·have hi':i∈m:=by
     cases D:Oi P (Ve P o.type)<;>rw[D] at hi
     ·simp at hi
     ·exact hi
    exact T i hi'
  split
  ·refine Cc a λx _ j=>Cc a λ_ _ _=>?_;rw[Qj x (Vy x (by rw[j];simp))]
   exact Auu a λ_=>r _
  ·refine Cc a λx _ j=>Cc a λ_ _ _=>?_;rw[Qj x (Vy x (by rw[j];simp))]
   exact Avj a λ_=>r _
  ·refine Cc a λx _ j=>Cc a λy _ hy=>Hq a ?_;subst hy;rw[Qj x (Vy x (by rw[j];simp)),Qj y (Vy y (by rw[j];simp))]
   exact Ay9 a r
  ·refine Cc a λx _ j=>Cc a λy _ hy=>Hq a ?_;subst hy;rw[Qj x (Vy x (by rw[j];simp)),Qj y (Vy y (by rw[j];simp))]
   exact Avt a r
  ·rename_i w;have s:K0 P (.call c)=true:=by simp[K0,w]
   refine Ba a λ_=>Em a λd hd=>Cc a λ_ _ X=>Cc a λx _ j=>Hq a (Cc a λ_ _ _=>Cc a λ_ _ _=>?_);have J:x∈c.args.toList:=by rw[X,j];simp
   rw[Qj x (Vy x J)];exact Aio a (λi hi=>L s x (Vy x J) i (Qb hi)) λv nw=>A _ _ _ (λh=>by rw[s] at h;cases h) Ψ
  ·rename_i H w;have s:K0 P (.call c)=true:=by simp[K0,w]
   exact rc H s
  ·rename_i t w;have s:K0 P (.call c)=true:=by simp[K0,w]
   have ht:=Qj (.tmp t) (by simp[Op.operands,Call.operands,w]);change tm t=tm' t at ht;rw[ht];exact A2v a λH=>rc H s
  ·exact a
 ·exact a
variable {hp:Nat->Option Cd}
end
open Go.RowKit
abbrev DJ:=PV × B9 × List (Nat × Cd)
def J5(ops:Array Oper)(o:Oper)(tm:Nat->PV):Option Bool:=
 match o.guard with
 |none=>some true
 |some (j,want)=>
  match (ops[j]?).bind (·.dst) with
  |none=>none
  |some d=>
   match tm d with
   |.sc (.bool b)=>some (b==want)
   |.sc (.tuple _)=>some false
   |_=>none
section
variable {R:Type}{r:R}{C:J7}{P:Program}{N:Nat}{F:Ao}{ops:Array Oper}{o x:Oper}{s:St}{K:St->Option R}
theorem Agd:E5 C P N F ops o s K=match J5 ops o s.tm with
  |none=>none
  |some true=>Aiq C P N F o s K
  |some false=>Aw (I5 N o.dst) (K ⟨Df s.tm o.dst (.sc undef),s.hp⟩):=by
 unfold E5 J5;cases o.guard with
 |none=>rfl
 |some q=>
  obtain⟨j,want⟩:=q;cases hd:(ops[j]?).bind (·.dst) with
  |none=>simp[hd]
  |some d=>
   simp only[hd];cases ht:s.tm d with
   |sc v=>
    cases v with
    |bool b=>
     cases b<;>cases want<;>simp only[Aq,cond_true,cond_false,MZ s.tm ht]<;>rfl
    |_=>rfl
   |_=>rfl
def Asf(C:J7)(P:Program)(N:Nat)(F:Ao)(o:Oper)(s:St):Option DJ:=
 VA C P N F s.tm (rd s.hp) (Om s.hp) o λv fz nw=>some (v,fz,nw)
theorem A2o{K:PV->B9->List (Nat × Cd)->Option R}:VA C P N F s.tm (rd s.hp) (Om s.hp) o K=(Asf C P N F o s).bind λq=>K q.1 q.2.1 q.2.2:=by refine XC (Rel:=λ(a:Option R) (b:Option DJ)=>a=b.bind λq=>K q.1 q.2.1 q.2.2) (K:=K) (K':=λv fz nw=>some (v,fz,nw)) rfl (λ_ _=>rfl) (λ_ _ _ _ _=>.inl ⟨rfl,rfl⟩) λv fz nw _ _=>rfl
theorem Aml{q:DJ}(h:Asf C P N F o s=some q):(K0 P o.op=false->q.2.1=[]/\∀p∈q.2.2,o.dst=some p.1)/\∀i∈q.2.1,Om s.hp i≠none:=by
 have:=XC (C:=C) (P:=P) (N:=N) (F:=F) (o:=o) (tm:=s.tm) (tm':=s.tm) (f:=rd s.hp) (f':=rd s.hp) (g:=Om s.hp) (g':=Om s.hp)
  (Rel:=λ(a:Option DJ)(_:Option DJ)=>∀q,a=some q->(K0 P o.op=false->q.2.1=[]/\∀p∈q.2.2,o.dst=some p.1)/\∀i∈q.2.1,Om s.hp i≠none)
  (K:=λv fz nw=>some (v,fz,nw)) (K':=λv fz nw=>some (v,fz,nw)) (λ_ h=>by cases h) (λ_ _=>rfl) (λ_ _ _ _ _=>.inl ⟨rfl,rfl⟩) (λv fz nw b c q d=>by cases d;exact⟨b,c⟩)
 exact this q h
def gE(C:J7)(P:Program)(N:Nat)(F:Ao)(ops:Array Oper)(o:Oper)(s:St):Option DJ:=
 match J5 ops o s.tm with
 |none=>none
 |some true=>bif BP C P o.op then none else Asf C P N F o s
 |some false=>some (.sc undef,[],[])
def Ke(C:J7)(P:Program)(ops:Array Oper)(o:Oper)(tm:Nat->PV):Bool:=BP C P o.op&&(J5 ops o tm==some true)
theorem P9(h:Ke C P ops o s.tm=false):E5 C P N F ops o s K=(gE C P N F ops o s).bind λq=>QD N s o.dst q.1 q.2.1 q.2.2 K:=by
 rw[Agd];unfold gE;unfold Ke at h;cases a:J5 ops o s.tm with
 |none=>rfl
 |some b=>
  rw[a] at h;cases b with
  |false=>
   show Aw _ _=QD N s o.dst (.sc undef) [] [] K;unfold QD;have c:Ch s.hp []=true:=rfl;have d:A4 (Aj s.hp []) []=s.hp:=rfl;rw[c,d,Zzn]
  |true=>
   have e:BP C P o.op=false:=by simpa using h
   simp only[Aiq,e,cond_false];exact A2o
theorem Uv(h:Ke C P ops o s.tm=true):E5 C P N F ops o s K=Ad3 C P N F s o K:=by rw[Agd];unfold Ke at h;simp only[Ge,beq_iff_eq] at h;rw[h.2];simp only[Aiq,h.1,cond_true]
theorem CU{q:DJ}(h:gE C P N F ops o s=some q):(K0 P o.op=false->q.2.1=[]/\∀p∈q.2.2,o.dst=some p.1)/\∀i∈q.2.1,Om s.hp i≠none:=by
 unfold gE at h;split at h
 ·cases h
 ·cases a:BP C P o.op<;>rw[a] at h
  ·exact Aml h
  ·cases h
 ·cases h;exact⟨λ_=>⟨rfl,Ψ⟩,Ψ⟩
theorem Jp{tm tm':Nat->PV}(h:∀t∈looks ops o,tm t=tm' t):∀y∈o.op.operands.toList,Cw tm y=Cw tm' y:=by
 intro y a;cases y with
 |tmp t=>
  refine h t ?_;unfold looks Avq;refine B2.2 (.inl (List.mem_filterMap.2 ⟨.tmp t,a,rfl⟩))
 |const v=>cases v<;>rfl
 |func f=>rfl
 |«global» g=>rfl
theorem Qe{tm tm':Nat->PV}(h:∀t∈looks ops o,tm t=tm' t):J5 ops o tm=J5 ops o tm':=by
 unfold J5;cases a:o.guard with
 |none=>rfl
 |some q=>
  obtain⟨j,want⟩:=q;cases hd:(ops[j]?).bind (·.dst) with
  |none=>simp[hd]
  |some d=>
   have:tm d=tm' d:=h d (by
    unfold looks;rw[a];refine B2.2 (.inr ?_);simp only[hd];simp)
   simp only[hd,this]
theorem LB{s':St}{q:DJ}(ht:∀t∈looks ops o,s.tm t=s'.tm t)(c:K0 P o.op=true->∀y∈o.op.operands.toList,∀i∈Ck (Cw s'.tm y),(rd s.hp i=rd s'.hp i/\Om s.hp i=Om s'.hp i)\/(rd s.hp i=none/\Om s.hp i=none))(h:gE C P N F ops o s=some q):gE C P N F ops o s'=some q:=by
 unfold gE at h ⊢;rw[<-Qe ht];split at h
 ·cases h
 ·cases d:BP C P o.op<;>rw[d] at h
  ·have:=XC (C:=C) (P:=P) (N:=N) (F:=F) (o:=o) (tm:=s.tm) (tm':=s'.tm) (f:=rd s.hp) (f':=rd s'.hp) (g:=Om s.hp) (g':=Om s'.hp)
    (Rel:=λ(a b:Option DJ)=>a=some q->b=some q)
    (K:=λv fz nw=>some (v,fz,nw)) (K':=λv fz nw=>some (v,fz,nw)) (λh=>h) (Jp ht)
    (λMy y e i hi=>(c My y e i hi).imp id λh=>⟨h.1,h.2,λ_ h=>by cases h⟩) (λv fz nw _ _ h=>h)
   exact this h
  ·cases h
 ·exact h
end
open Go.RowKit
theorem Y7:∀{nw:List (Nat × Cd)} {hp Ee:Nat->Option Cd},Ch hp nw=true->(∀i b,(i,b)∈nw->Ee i=none)->Ch Ee nw=true
 |[],_,_,_,_=>rfl
 |(i,b)::nw,hp,Ee,h,a=>by
  simp only[Ch,Ge,Option.isNone_iff_eq_none] at h ⊢;exact⟨⟨a i b Ψ,h.1.2⟩,Y7 h.2 λj c d=>a j c (by simp[d])⟩
section
variable {hp:Nat->Option Cd}{fz:B9}{nw:List (Nat × Cd)}
theorem Ix(a:Ch hp nw=true){i:Nat}(hi:hp i≠none):A4 (Aj hp fz) nw i=if i∈fz then (hp i).map DU else hp i:=by obtain⟨b,c⟩:=B7 a;rw[(F4 c).2 i (λd e=>hi (b i d e)),Cj]
theorem Nn(a:Ch hp nw=true){i:Nat}{b:Cd}(hi:(i,b)∈nw):A4 (Aj hp fz) nw i=some b:=
 (F4 (B7 a).2).1 i b hi
theorem Up(a:Ch hp nw=true){i:Nat}(hi:hp i=none)(c:∀b,(i,b) ∉ nw):A4 (Aj hp fz) nw i=none:=by rw[(F4 (B7 a).2).2 i c,Cj,hi];simp
theorem Ue(a:Ch hp nw=true){i:Nat}(hi:hp i≠none):A4 (Aj hp fz) nw i≠none:=by
 rw[Ix a hi];cases h:hp i with
 |none=>exact absurd h hi
 |some b=>split<;>simp
theorem A3o(b:Option Cd):(match b.map DU with|some (.st c)=>some c|some (.ar _ c)=>some c|_=>none)=(match b with|some (.st c)=>some c|some (.ar _ c)=>some c|_=>none):=by
 cases b with
 |none=>rfl
 |some b=>cases b<;>rfl
theorem Auy(b:Option Cd):(match b.map DU with|some (.ar _ c)=>some c|_=>none)=(match b with|some (.ar _ c)=>some c|_=>none):=by
 cases b with
 |none=>rfl
 |some b=>cases b<;>rfl
theorem Aj4(a:Ch hp nw=true){i:Nat}(hi:hp i≠none):rd (A4 (Aj hp fz) nw) i=rd hp i:=by
 unfold rd;rw[Ix a hi];by_cases h:i∈fz
 ·rw[Bq h];exact A3o _
 ·rw[Bb h]
theorem Ack(a:Ch hp nw=true){i:Nat}(hi:hp i≠none):Om (A4 (Aj hp fz) nw) i=Om hp i:=by
 unfold Om;rw[Ix a hi];by_cases h:i∈fz
 ·rw[Bq h];exact Auy _
 ·rw[Bb h]
theorem Aqa{i:Nat}(hi:hp i=none):rd hp i=none:=by unfold rd;rw[hi]
theorem Q1{i:Nat}(hi:hp i=none):Om hp i=none:=by unfold Om;rw[hi]
theorem Bau(b:Option Cd):(b.map DU).map DU=b.map DU:=by
 cases b with
 |none=>rfl
 |some b=>cases b<;>rfl
theorem Ald{k l:B9}{f no:List (Nat × Cd)}(g:Ch hp f=true)(j:Ch (A4 (Aj hp k) f) no=true)(d:Ch hp no=true)(DT:Ch (A4 (Aj hp l) no) f=true)(n:∀i∈k,hp i≠none)(o:∀i∈l,hp i≠none):
  A4 (Aj (A4 (Aj hp k) f) l) no=A4 (Aj (A4 (Aj hp l) no) k) f:=by
 funext i
 by_cases hi:hp i=none
 ·by_cases e:∃b,(i,b)∈no
  ·obtain⟨b,c⟩:=e
   have a:∀m,(i,m) ∉ f:=λm p=>by
    have:=(B7 j).1 i b c;rw[Nn g p] at this;cases this
   rw[Nn j c,Ix DT (by rw[Nn d c];simp),Nn d c,Bb (λh=>n i h hi)]
  ·have e:∀b,(i,b) ∉ no:=λb c=>e ⟨b,c⟩;by_cases a:∃b,(i,b)∈f
   ·obtain⟨b,c⟩:=a;rw[Nn DT c,Ix j (by rw[Nn g c];simp),Nn g c,Bb (λh=>o i h hi)]
   ·have a:∀b,(i,b) ∉ f:=λb c=>a ⟨b,c⟩;rw[Up j (Up g hi a) e,Up DT (Up d hi e) a]
 ·rw[Ix j (Ue g hi),Ix g hi,Ix DT (Ue d hi),Ix d hi];split<;>split<;>first|rfl|rw[Bau]
end
section
variable {R:Type}{r:R}{C:J7}{P:Program}{N:Nat}{F:Ao}{ops:Array Oper}{o x:Oper}{s:St}{K:St->Option R}
structure LJ(C:J7)(P:Program)(ops:Array Oper)(x o:Oper):Prop where
 xo:∀d,x.dst=some d->d ∉ looks ops o
 ne:∀d,x.dst=some d->o.dst≠some d
 ox:∀d,o.dst=some d->d ∉ looks ops x
 mx:BP C P x.op=true->K0 P o.op=false
 mo:BP C P o.op=true->K0 P x.op=false
theorem Z0{l:B9}{d:Nat}(h:l.any (Nat.beq d)=false):d ∉ l:=by intro a;have:l.any (Nat.beq d)=true:=List.any_eq_true.2 ⟨d,a,Vr d⟩;rw[this] at h;cases h
theorem Ayc(h:WJ C P ops x o=false):LJ C P ops x o:=by
 unfold WJ at h;simp only[Bool.or_eq_false_iff,Bool.and_eq_false_iff] at h;obtain⟨⟨⟨a,c⟩,e⟩,f⟩:=h;refine⟨λd hd=>?_,λd hd g=>?_,λd hd=>?_,λb=>?_,λb=>?_⟩
 ·simp only[hd,Bool.or_eq_false_iff] at a;exact Z0 a.1
 ·simp only[hd,g,Bool.or_eq_false_iff] at a;rw[Vr] at a;cases a.2
 ·simp only[hd] at c;exact Z0 c
 ·rw[b] at e;rcases e with h|h
  ·cases h
  ·exact h
 ·rw[b] at f;rcases f with h|h
  ·cases h
  ·exact h
theorem H1{tm:Nat->PV}{d:Option Tmp}{v:PV}{l:B9}(h:∀i,d=some i->i ∉ l):∀t∈l,Df tm d v t=tm t:=by
 intro t ht;cases d with
 |none=>rfl
 |some d=>exact At _ _ (by rintro rfl;exact h _ rfl ht)
theorem T3{tm:Nat->PV}{d e:Option Tmp}{u v:PV}(h:∀i,d=some i->e≠some i):Df (Df tm d u) e v=Df (Df tm e v) d u:=by
 cases d with
 |none=>rfl
 |some d=>
  cases e with
  |none=>rfl
  |some e=>exact Ah0 _ _ _ (by rintro rfl;exact h _ rfl rfl)
def Has(C:J7)(P:Program)(o:Oper)(s:St):Prop:=(∀y∈o.op.operands.toList,∀i∈Ck (Cw s.tm y),s.hp i≠none) /\
 (BP C P o.op=true->SU o.op=false->∀y∈o.op.operands.toList,∀i∈Ck (Cw s.tm y),∀c,s.hp i=some (.st c)->∀p∈c,∀k∈A3 p,s.hp k≠none)
theorem Py{tm tm':Nat->PV}(h:∀t∈looks ops o,tm t=tm' t):Ke C P ops o tm=Ke C P ops o tm':=by unfold Ke;rw[Qe h]
theorem Ap6(O:Has C P o s)(xo:∀d,x.dst=some d->d ∉ looks ops o)(ne:∀d,x.dst=some d->o.dst≠some d)(ox:∀d,o.dst=some d->d ∉ looks ops x)(G:Ke C P ops x s.tm=false)(H:Ke C P ops o s.tm=false)(h:E5 C P N F ops x s (λs1=>E5 C P N F ops o s1 K)=some r):E5 C P N F ops o s (λs1=>E5 C P N F ops x s1 K)=some r:=by
 rw[P9 G] at h;cases w:gE C P N F ops x s with
 |none=>rw[w] at h;cases h
 |some q=>
 obtain⟨j,k,l⟩:=q;rw[w] at h;obtain⟨f,m⟩:=Ay h;simp only[Ge] at f;have I:∀t∈looks ops o,Df s.tm x.dst j t=s.tm t:=H1 xo;change E5 C P N F ops o ⟨Df s.tm x.dst j,A4 (Aj s.hp k) l⟩ K=some r at m;rw[P9 (by rw[Py I];exact H)] at m
 cases z:gE C P N F ops o ⟨Df s.tm x.dst j,A4 (Aj s.hp k) l⟩ with
 |none=>rw[z] at m;cases m
 |some q=>
 obtain⟨n,g,no⟩:=q;rw[z] at m;obtain⟨p,J⟩:=Ay m;change K ⟨Df (Df s.tm x.dst j) o.dst n,A4 (Aj (A4 (Aj s.hp k) l) g) no⟩=some r at J;simp only[Ge] at p
 have v:gE C P N F ops o s=some (n,g,no):=by
  refine LB I (λ_ y L i hi=>?_) z;have:=O.1 y L i hi;exact .inl ⟨Aj4 f.2 this,Ack f.2 this⟩
 have a:Ch s.hp no=true:=Y7 p.2 λi b hi=>by
  cases e:s.hp i with
  |none=>rfl
  |some c=>exact absurd ((B7 p.2).1 i b hi) (Ue f.2 (by rw[e];simp))
 rw[P9 H,v]
 have DT:Ch (A4 (Aj s.hp g) no) l=true:=Y7 f.2 λi b hi=>by
  refine Up a ((B7 f.2).1 i b hi) λc Q=>?_;have:=(B7 p.2).1 i c Q;rw[Nn f.2 hi] at this;cases this
 have M:∀t∈looks ops x,s.tm t=Df s.tm o.dst n t:=λt ht=>(H1 ox t ht).symm
 have A:gE C P N F ops x ⟨Df s.tm o.dst n,A4 (Aj s.hp g) no⟩=some (j,k,l):=by
  refine LB M (λ_ y L i hi=>?_) w;by_cases e:s.hp i=none
  ·exact .inr ⟨Aqa e,Q1 e⟩
  ·exact .inl ⟨(Aj4 a e).symm,(Ack a e).symm⟩
 show Aw _ _=_;rw[p.1,a];show E5 C P N F ops x ⟨Df s.tm o.dst n,A4 (Aj s.hp g) no⟩ K=some r;rw[P9 (by rw[<-Py M];exact G),A]
 show Aw _ _=_;rw[f.1,DT];rw[<-J];have D:∀i∈k,s.hp i≠none:=λi hi e=>(CU w).2 i hi (Q1 e);have E:∀i∈g,s.hp i≠none:=λi hi e=>(CU v).2 i hi (Q1 e);show K ⟨Df (Df s.tm o.dst n) x.dst j,A4 (Aj (A4 (Aj s.hp g) no) k) l⟩=K _;rw[T3 ne,Ald f.2 p.2 a DT D E]
end
open Go.RowKit
theorem NR{C:J7}{P:Program}{o:Op}(h:BP C P o=true):K0 P o=true:=by
 unfold BP at h;split at h
 ·rfl
 ·rename_i c;unfold K0;simp only;split at h<;>rename_i a
  ·rw[a]
  ·rw[a]
  ·cases h
  ·rw[a]
  ·cases h
 ·cases h
structure Tch(N:Nat)(S:Nat->Prop)(dst:Option Nat)(hp Dz Ee Lw:Nat->Option Cd):Prop where
 keep:∀i,hp i≠none->Ee i≠none
 off:∀i,i<N->dst≠some i->(¬S i\/hp i=none)->Ee i=hp i/\Lw i=Dz i
 same:∀i,hp i=Dz i->Ee i=Lw i
 far:∀i,¬S i->hp i≠none->Ee i=hp i
section
variable {R R':Type}{Rel:Option R->Option R'->Prop}{P:Program}{N:Nat}{tm tm':Nat->PV}{hp Dz:Nat->Option Cd}{f f':Nat->Option Ae}{o:Oper}
theorem Abl(a:Rel none none){t:CT}{p:PV}{K:PV->B9->Option R}{K':PV->B9->Option R'}(e:Agr Rel f f' (A3 p))(b:∀c m,(∀i∈m,f i≠none/\i∈A3 p)->Rel (K c m) (K' c m)):Rel (V3 f t p K) (V3 f' t p K'):=by
 unfold V3;split
 ·split
  ·rename_i id d off n;cases Nat.beq d _
   ·exact a
   ·exact NQ a e (by simp[A3]) λc g=>Ba a λ_=>b _ _ (by simp[g,A3])
  ·exact Hz a λ_ _ _=>b _ _ Ψ
 ·exact Wo a λ_=>b _ _ Ψ
theorem XM(a:Rel none none):∀{ts:List CT}{ps:Ae}{K:Ae->B9->Option R}{K':Ae->B9->Option R'},Agr Rel f f' (ps.flatMap A3)->(∀c m,(∀i∈m,f i≠none/\i∈ps.flatMap A3)->Rel (K c m) (K' c m))->Rel (Ux f ts ps K) (Ux f' ts ps K')
 |[],[],_,_,_,b=>b _ _ Ψ
 |[],_::_,_,_,_,_=>a
 |_::_,[],_,_,_,_=>a
 |_::_,p::ps,_,_,d,b=>Abl a (λi hi=>d i (by simp only[L6,B2];exact .inl hi)) λ_ m e=>XM a (λi hi=>d i (by simp only[L6,B2];exact .inr hi)) λ_ g UY=>b _ _ λi hi=>by
   simp only[L6,B2];rcases B2.1 hi with h|h
   ·exact⟨(e i h).1,.inl (e i h).2⟩
   ·exact⟨(UY i h).1,.inr (UY i h).2⟩
theorem GF{S:Nat->Prop}{a:Option Nat}{id:Nat}{b:Cd}{c d:Nat->Option Cd}(f:S id)(j:hp id≠none)(h:Tch N S a hp Dz c d):Tch N S a hp Dz (Dm c id (some b)) (Dm d id (some b)):=by
 refine⟨λi hi=>?_,λi k hd hi=>?_,λi hi=>?_,λi g hi=>?_⟩
 ·by_cases e:i=id
  ·subst e;rw[Az];simp
  ·rw[At _ _ e];exact h.keep i hi
 ·have e:i≠id:=by
   rintro rfl
   rcases hi with hi|hi
   ·exact hi f
   ·exact j hi
  rw[At _ _ e,At _ _ e];exact h.off i k hd hi
 ·by_cases e:i=id
  ·subst e;rw[Az,Az]
  ·rw[At _ _ e,At _ _ e];exact h.same i hi
 ·rw[At _ _ (by rintro rfl;exact g f)];exact h.far i g hi
theorem Adu{S:Nat->Prop}{d:Nat}{b:Cd}{a c:Nat->Option Cd}(f:hp d=none)(h:Tch N S (some d) hp Dz a c):Tch N S (some d) hp Dz (Dm a d (some b)) (Dm c d (some b)):=by
 refine⟨λi hi=>?_,λi g hd hi=>?_,λi hi=>?_,λi j hi=>?_⟩
 ·by_cases e:i=d
  ·subst e;rw[Az];simp
  ·rw[At _ _ e];exact h.keep i hi
 ·have e:i≠d:=by rintro rfl;exact hd rfl
  rw[At _ _ e,At _ _ e];exact h.off i g hd hi
 ·by_cases e:i=d
  ·subst e;rw[Az,Az]
  ·rw[At _ _ e,At _ _ e];exact h.same i hi
 ·rw[At _ _ (by rintro rfl;exact hi f)];exact h.far i j hi
theorem DN(S:Nat->Prop)(a:Option Nat):Tch N S a hp Dz hp Dz:=⟨λ_ h=>h,λ_ _ _ _=>⟨rfl,rfl⟩,λ_ h=>h,λ_ _ _=>rfl⟩
theorem Amh{S:Nat->Prop}{a:Option Nat}{m:B9}(b:∀i∈m,hp i≠none/\S i):Tch N S a hp Dz (Aj hp m) (Aj Dz m):=by
 refine⟨λi hi=>λh=>hi (Fl.1 h),λi d hd hi=>?_,λi hi=>?_,λi c hi=>?_⟩
 ·have e:i ∉ m:=by
   intro h;rcases hi with hi|hi
   ·exact hi (b i h).2
   ·exact (b i h).1 hi
  rw[Cj,Cj,Bb e,Bb e];exact⟨rfl,rfl⟩
 ·rw[Cj,Cj,hi]
 ·rw[Cj,Bb (λh=>c (b i h).2)]
theorem Aeg{S:Nat->Prop}(h:∀i,S i->hp i=Dz i\/(hp i=none/\∀b,Rel none b)){l:B9}(a:∀i∈l,S i):Agr Rel (Om hp) (Om Dz) l:=by
 intro i hi;rcases h i (a i hi) with h|⟨h,c⟩
 ·left;unfold Om;rw[h]
 ·exact .inr ⟨Q1 h,c⟩
theorem Akn(d:Rel none none){t:TypeId}{a x:PV}{K:St->Option R}{K':St->Option R'}{S:Nat->Prop}(g:∀i,S i->hp i=Dz i\/(hp i=none/\∀b,Rel none b))(n:∀i∈A3 a,S i)(j:∀i∈C8 x,S i)(k:∀Ee Lw,Tch N S none hp Dz Ee Lw->Rel (K ⟨tm,Ee⟩) (K' ⟨tm',Lw⟩)):Rel (OX P ⟨tm,hp⟩ t a x K) (OX P ⟨tm',Dz⟩ t a x K'):=by
 unfold OX;split
 ·rename_i id off;show Rel (match hp id with|some (.st c)=>_|some (.ar false c)=>_|_=>none) (match Dz id with|some (.st c)=>_|some (.ar false c)=>_|_=>none);have f:S id:=n id (by simp[A3]);rcases g id f with h|⟨h,o⟩
  ·rw[<-h];split
   ·rename_i c e;exact Ba d λ_=>U6 d λ_=>k _ _ (GF f (by rw[e];simp) (DN _ _))
   ·rename_i c e;refine Ba d λ_=>XM d (Aeg g λi hi=>j i ?_) λ_ m l=>Ba d λ_=>k _ _ (GF f (by rw[e];simp) (Amh λi hi=>⟨λh=>(l i hi).1 (Q1 h),j i ?_⟩))
    ·obtain⟨c,e,hi⟩:=List.mem_flatMap.1 hi;exact DE e hi
    ·obtain⟨c,e,hi⟩:=List.mem_flatMap.1 (l i hi).2;exact DE e hi
   ·exact d
  ·rw[h];exact o _
 ·exact d
theorem Abb(a:Rel none none){es:Nat}{t:TypeId}{x:PV}{K:Nat->Ae->Option R}{K':Nat->Ae->Option R'}{S:Nat->Prop}(e:∀i,S i->hp i=Dz i\/(hp i=none/\∀b,Rel none b))(f:∀i∈C8 x,S i)(d:∀m c,Rel (K m c) (K' m c)):Rel (Amb P ⟨tm,hp⟩ es t x K) (Amb P ⟨tm',Dz⟩ es t x K'):=by
 unfold Amb An5;split
 ·exact Ba a λ_=>Hl a λ_=>d _ _
 ·exact Y0 a (Aeg e λi hi=>f i (DZ hi)) d
 ·exact a
theorem Afc(a:Rel none none){d:Nat}{t tx:TypeId}{b x:PV}{K:St->Option R}{K':St->Option R'}{S:Nat->Prop}(k:∀i,S i->hp i=Dz i\/(hp i=none/\∀b,Rel none b))(f:hp d=Dz d)(e:∀i∈C8 b,S i)(o:∀i∈C8 x,S i)(g:∀v Ee Lw,(∀M,Tch M S (some d) hp Dz Ee Lw)->Rel (K ⟨Dm tm d v,Ee⟩) (K' ⟨Dm tm' d v,Lw⟩)):Rel (FZ P N ⟨tm,hp⟩ d t tx b x K) (FZ P N ⟨tm',Dz⟩ d t tx b x K'):=by
 unfold FZ;split
 ·refine Ba a λ_=>?_;cases UL P tx
  rotate_left
  ·show Rel (MO P N ⟨tm,hp⟩ d _ b x K) (MO P N ⟨tm',Dz⟩ d _ b x K');refine Fk a λ_ n=>Hz a λz _ _=>?_;show Rel (Aw (z&&Nat.blt d N&&(hp d).isNone&&_&&_&&_) _) (Aw (z&&Nat.blt d N&&(Dz d).isNone&&_&&_&&_) _);rw[<-f];exact Ba a λe=>g _ _ _ (λM=>Adu (by simp only[Ge,Option.isNone_iff_eq_none] at e;simp only[e]) (DN _ _))
  rw[cond_false,cond_false];refine Abb a k o λm new=>?_;split
  ·rename_i id es off n;show Rel (match hp id with|some (.ar false c)=>Aw (Nat.beq es _&&Nat.beq off 0&&Nat.blt d N&&(hp d).isNone&&_&&_&&_&&_) _|_=>none) (match Dz id with|some (.ar false c)=>Aw (Nat.beq es _&&Nat.beq off 0&&Nat.blt d N&&(Dz d).isNone&&_&&_&&_&&_) _|_=>none);have l:S id:=e id (by simp[C8,A3]);rw[<-f];rcases k id l with h|⟨h,j⟩
   ·rw[<-h];split
    ·rename_i c p;exact Ba a λe=>g _ _ _ (λM=>Adu (by simp only[Ge,Option.isNone_iff_eq_none] at e;simp only[e]) (GF l (by rw[p];simp) (DN _ _)))
    ·exact a
   ·rw[h];exact j _
  ·refine Hz a λz _ _=>?_;show Rel (Aw (z&&Nat.blt d N&&(hp d).isNone&&_&&_&&_) _) (Aw (z&&Nat.blt d N&&(Dz d).isNone&&_&&_&&_) _);rw[<-f];exact Ba a λe=>g _ _ _ (λM=>Adu (by simp only[Ge,Option.isNone_iff_eq_none] at e;simp only[e]) (DN _ _))
 ·exact a
theorem Als(a:Rel none none){d:Option Tmp}{t tx:TypeId}{b x:PV}{K:St->Option R}{K':St->Option R'}{S:Nat->Prop}(f:∀i,S i->hp i=Dz i\/(hp i=none/\∀b,Rel none b))(j:∀i∈C8 b,S i)(k:∀i∈C8 x,S i)(l:∀v Ee Lw,Tch N S d hp Dz Ee Lw->Rel (K ⟨Df tm d v,Ee⟩) (K' ⟨Df tm' d v,Lw⟩)):Rel (Abc P N ⟨tm,hp⟩ d t tx b x K) (Abc P N ⟨tm',Dz⟩ d t tx b x K'):=by
 unfold Abc;split
 ·refine Ba a λ_=>?_;refine Abb a f k λm new=>?_;split
  ·rename_i id es off n;show Rel (match hp id with|some (.ar false c)=>Aw (Nat.beq es _&&_&&_) _|_=>none) (match Dz id with|some (.ar false c)=>Aw (Nat.beq es _&&_&&_) _|_=>none);have g:S id:=j id (by simp[C8,A3]);rcases f id g with h|⟨h,e⟩
   ·rw[<-h];split
    ·rename_i c o;exact Ba a λ_=>l _ _ _ (GF g (by rw[o];simp) (DN _ _))
    ·exact a
   ·rw[h];exact e _
  ·exact a
 ·exact a
def A4s(o:Oper)(tm:Nat->PV)(i:Nat):Prop:=∃x∈o.op.operands.toList,i∈Ck (Cw tm x)
def Rch(o:Oper)(tm:Nat->PV)(hp:Nat->Option Cd)(i:Nat):Prop:=A4s o tm i\/SU o.op=false/\∃id c,A4s o tm id/\hp id=some (.st c)/\∃p∈c,i∈A3 p
theorem Ass(g:Rel none none){mv:Bool}{t:CT}{p:PV}{K:PV->B9->B9->Option R}{K':PV->B9->B9->Option R'}{S:Nat->Prop}(j:∀i,S i->hp i=Dz i\/(hp i=none/\∀b,Rel none b))(a:∀i∈A3 p,S i)(f:∀c m x,(∀i∈m++x,hp i≠none/\S i)->Rel (K c m x) (K' c m x)):Rel (As8 mv hp t p K) (As8 mv Dz t p K'):=by
 have frz:∀{t:CT} {p:PV},(∀i∈A3 p,S i)->Rel (V3 (Om hp) t p λc m=>K c m []) (V3 (Om Dz) t p λc m=>K' c m []):=λh=>Abl g (Aeg j h) λc m k=>f _ _ _ λi hi=>by
  rw[List.append_nil] at hi;exact⟨λe=>(k i hi).1 (Q1 e),h i (k i hi).2⟩
 unfold As8;split
 ·rename_i es;cases mv<;>simp only[cond_true,cond_false]
  ·exact frz a
  ·split
   ·rename_i id d off n;rcases j id (a id (by simp[A3])) with h|⟨h,l⟩
    ·rw[<-h];split
     ·rename_i c o;cases (Nat.beq d es&&Nat.beq off 0)<;>simp only[cond_true,cond_false]
      ·exact frz a
      ·exact Ba g λ_=>f _ _ _ λi hi=>by
        simp only[Zzq,Xx] at hi;subst hi;exact⟨by rw[o];simp,a i (by simp[A3])⟩
     ·exact frz a
    ·rw[h]
     have:(V3 (Om hp) (.sl es) (.view id d off n) λc m=>K c m [])=none:=by
      unfold V3;simp only;cases Nat.beq d es
      ·rfl
      ·simp only[cond_true,Q1 h,Dj]
     show Rel (V3 (Om hp) (.sl es) (.view id d off n) λc m=>K c m []) _;rw[this];exact l _
   ·refine Hz g λz n c=>?_;cases z
    ·exact f _ _ _ Ψ
    ·exact f _ _ _ Ψ
 ·exact Wo g λ_=>f _ _ _ Ψ
theorem AJ(d:Rel none none){mv:Bool}{S:Nat->Prop}(g:∀i,S i->hp i=Dz i\/(hp i=none/\∀b,Rel none b)):∀{ts:List CT}{ps:Ae}{K:Ae->B9->B9->Option R}{K':Ae->B9->B9->Option R'},(∀p∈ps,∀i∈A3 p,S i) ->
  (∀c m x,(∀i∈m++x,hp i≠none/\S i)->Rel (K c m x) (K' c m x))->Rel (RE mv hp ts ps K) (RE mv Dz ts ps K')
 |[],[],_,_,_,e=>e _ _ _ Ψ
 |[],_::_,_,_,_,_=>d
 |_::_,[],_,_,_,_=>d
 |_::_,p::ps,_,_,a,e=>Ass d g (a p Ψ) λ_ m x f=>AJ d g (λq h=>a q (by simp[h])) λ_ j B UY=>e _ _ _ λi hi=>by
   simp only[B2] at hi f UY;rcases hi with (hi|hi)|(hi|hi)
   ·exact f i (.inl hi)
   ·exact UY i (.inl hi)
   ·exact f i (.inr hi)
   ·exact UY i (.inr hi)
theorem Ag0(d:Rel none none){C:J7}{f:FuncId}{i:Nat}{t:TypeId}{p:PV}{K:PV->B9->B9->List Jn->Option R}{K':PV->B9->B9->List Jn->Option R'}{S:Nat->Prop}(o:∀i,S i->hp i=Dz i\/(hp i=none/\∀b,Rel none b))(g:∀i∈Ck p,S i)(A:∀i∈Ck p,∀c,Dz i=some (.st c)->∀q∈c,∀k∈A3 q,S k)(r:∀v m x l,(∀i∈m++x++l.flatMap Jn.ids,hp i≠none/\S i)->Rel (K v m x l) (K' v m x l)):Rel (QH C P f hp i t p K) (QH C P f Dz i t p K'):=by
 unfold QH;split
 ·split
  ·rename_i id off;have s:S id:=g id (by simp[Ck,C8,A3]);rcases o id s with h|⟨h,y⟩
   ·rw[h];split
    ·rename_i c ZK;refine Ba d λ_=>AJ d o (λq j k a=>A id (by simp[Ck,C8,A3]) c ZK q (List.mem_of_mem_drop (List.mem_of_mem_take j)) k a) λz m x w=>r _ _ _ _ λk a=>?_;rcases B2.1 a with a|a
     ·exact w k a
     ·simp only[L6,List.flatMap_nil,Jn.ids,List.append_nil,Xx] at a;subst a;exact⟨by rw[h,ZK];simp,s⟩
    ·exact d
   ·rw[h];exact y _
  ·exact d
 ·cases C.lnd f i
  ·cases Cm P t
   ·exact AJ d o (λq j k a=>by
     simp at j;subst j;exact g k (Qb a)) λz m x w=>Cc d λ_ _ _=>Hq d (r _ _ _ _ (by simpa using w))
   ·refine N2 d λz UP=>AJ d o (λq j k a=>g k ?_) λz m x w=>r _ _ _ _ (by simpa using w);subst UP;exact List.mem_flatMap.2 ⟨q,j,a⟩
  ·refine Em d λe E=>?_;unfold Awu;split
   ·rename_i id D off n;have s:S id:=g id (by simp[Ck,C8,A3]);rcases o id s with h|⟨h,y⟩
    ·rw[h];split
     ·rename_i c ZK;refine Ba d λ_=>r _ _ _ _ λk a=>?_;simp only[Zzq,L6,List.flatMap_nil,Jn.ids,List.append_nil,Xx] at a;subst a;exact⟨by rw[h,ZK];simp,s⟩
     ·exact d
    ·rw[h];exact y _
   ·exact Hz d λ_ _ _=>Ba d λ_=>r _ _ _ _ (by simp[Jn.ids])
theorem WO(d:Rel none none){C:J7}{f:FuncId}{S:Nat->Prop}(j:∀i,S i->hp i=Dz i\/(hp i=none/\∀b,Rel none b)):∀{ts:List TypeId}{ps:Ae}{i:Nat}{K:Ae->B9->B9->List Jn->Option R}{K':Ae->B9->B9->List Jn->Option R'},
  (∀p∈ps,∀i∈Ck p,S i)->(∀p∈ps,∀i∈Ck p,∀c,Dz i=some (.st c)->∀q∈c,∀k∈A3 q,S k) ->
  (∀v m x l,(∀i∈m++x++l.flatMap Jn.ids,hp i≠none/\S i)->Rel (K v m x l) (K' v m x l))->Rel (Acc C P f hp i ts ps K) (Acc C P f Dz i ts ps K')
 |[],[],_,_,_,_,_,g=>g _ _ _ _ Ψ
 |[],_::_,_,_,_,_,_,_=>d
 |_::_,[],_,_,_,_,_,_=>d
 |_::_,p::ps,_,_,_,a,n,g=>Ag0 d j (a p Ψ) (n p Ψ) λ_ m x l e=>WO d j (λq h=>a q (by simp[h])) (λq h=>n q (by simp[h])) λ_ o B r UY=>g _ _ _ _ λi hi=>by
   simp only[B2,List.flatMap_append] at hi e UY;rcases hi with ((hi|hi)|(hi|hi))|(hi|hi)
   ·exact e i (.inl (.inl hi))
   ·exact UY i (.inl (.inl hi))
   ·exact e i (.inl (.inr hi))
   ·exact UY i (.inl (.inr hi))
   ·exact e i (.inr hi)
   ·exact UY i (.inr hi)
theorem Axo(d:Rel none none){t:Nat}{ct:CT}{a p:PV}{K:Nat->PV->List (Nat × Cd)->Option R}{K':Nat->PV->List (Nat × Cd)->Option R'}(e:∀t c b,(∀q∈b,∃k,q.1=nid N k)->Rel (K t c b) (K' t c b)):Rel (Atj N t ct a p K) (Atj N t ct a p K'):=by
 unfold Atj;split
 ·split
  ·exact Aoo d λ_ _=>e _ _ _ (by intro q f;simp only[Xx] at f;subst f;exact⟨t,rfl⟩)
  ·exact Hz d λ_ _ _=>e _ _ _ Ψ
 ·exact Wo d λ_=>e _ _ _ Ψ
theorem Acy(a:Rel none none):∀{d:List CT}{ws ps:Ae}{t:Nat}{K:Nat->Ae->List (Nat × Cd)->Option R} {K':Nat->Ae->List (Nat × Cd)->Option R'},(∀t c b,(∀q∈b,∃k,q.1=nid N k)->Rel (K t c b) (K' t c b))->Rel (Aa8 N t d ws ps K) (Aa8 N t d ws ps K')
 |[],[],_,_,_,_,e=>Hq a (e _ _ _ Ψ)
 |[],_::_,_,_,_,_,_=>a
 |_::_,[],_,_,_,_,_=>a
 |_::_,_::_,_,_,_,_,e=>Cc a λ_ _ _=>Axo a λ_ _ b g=>Acy a λ_ _ bs f=>e _ _ _ λq i=>by
   rcases B2.1 i with h|h
   ·exact g q h
   ·exact f q h
theorem FW(a:Rel none none){S:Nat->Prop}{j:Option Nat}:∀{l:List Jn}{ro:List Ae} {t:Nat}{m n:Nat->Option Cd}{K:(Nat->Option Cd)->List (Nat × Cd)->Option R} {K':(Nat->Option Cd)->List (Nat × Cd)->Option R'},
  Tch N S j hp Dz m n->(∀i∈l.flatMap Jn.ids,hp i≠none/\S i/\hp i=Dz i)->(∀d ZU b,Tch N S j hp Dz d ZU->(∀q∈b,∃k,q.1=nid N k)->Rel (K d b) (K' ZU b))->Rel (IP N t l ro m K) (IP N t l ro n K')
 |[],_,_,_,_,_,_,c,_,e=>Hq a (e _ _ _ c Ψ)
 |.var id off s y::l,ro,t,m,n,K,K',c,f,e=>by
  unfold IP;refine Cc a λr ro _=>Acy a λz v bs o=>?_;have g:=f id (by simp[Jn.ids]);rw[<-c.same id g.2.2];split
  ·exact FW a (GF g.2.1 g.1 c) (λi hi=>f i (by simp only[L6,B2];exact .inr hi)) λd ZU b p w=>e _ _ _ p λq x=>by
    rcases B2.1 x with h|h
    ·exact o q h
    ·exact w q h
  ·exact a
 |.row id::l,ro,t,m,n,K,K',c,f,e=>by
  unfold IP;have g:=f id (by simp[Jn.ids]);exact Cc a λr ro _=>FW a (GF g.2.1 g.1 c) (λi hi=>f i (by simp only[L6,B2];exact .inr hi)) e
 |.none::l,ro,t,m,n,K,K',c,f,e=>by
  unfold IP;exact Cc a λr ro _=>FW a c (λi hi=>f i (by simp only[L6,B2];exact .inr hi)) e
theorem Ahc(h:∀i,N<=i->hp i=Dz i)(a:0<N):∀k t,Ail N hp k t=Ail N Dz k t
 |0,_=>rfl
 |k+1,t=>by
  unfold Ail;rw[h (nid N t) (by unfold nid;exact Nat.le_mul_of_pos_right _ Ω),Ahc h a k (t+1)]
theorem Acj{a c:Nat->Option Cd}:∀{nw:List (Nat × Cd)},(∀q∈nw,a q.1=c q.1)->Ch a nw=Ch c nw
 |[],_=>rfl
 |(i,b)::nw,h=>by
  unfold Ch;rw[h (i,b) Ψ,Acj (λq d=>h q (by simp[d]))]
theorem XI{S:Nat->Prop}{a:Option Nat}{l m:Nat->Option Cd}(n:Tch N S a hp Dz l m):∀{nw:List (Nat × Cd)} {d f:Nat->Option Cd},Tch N S a hp Dz d f->(∀q∈nw,N<=q.1\/a=some q.1)->(∀q∈nw,hp q.1=none)->Tch N S a hp Dz (A4 d nw) (A4 f nw)
 |[],_,_,h,_,_=>h
 |(i,b)::nw,d,f,h,hi,j=>by
  refine XI n (nw:=nw) ⟨λk c=>?_,λk o hd c=>?_,λk c=>?_,λk p c=>?_⟩ (λq g=>hi q (by simp[g])) (λq g=>j q (by simp[g]))
  ·by_cases e:k=i
   ·subst e;rw[Az];simp
   ·rw[At _ _ e];exact h.keep k c
  ·have e:k≠i:=by
    rintro rfl
    rcases hi (k,b) Ψ with q|q
    ·simp only at q;omega
    ·exact hd q
   rw[At _ _ e,At _ _ e];exact h.off k o hd c
  ·by_cases e:k=i
   ·subst e;rw[Az,Az]
   ·rw[At _ _ e,At _ _ e];exact h.same k c
  ·rw[At _ _ (by rintro rfl;exact c (j (k,b) Ψ))];exact h.far k p c
theorem A6j{S:Nat->Prop}{c:Option Nat}{m x:B9}(a:∀i∈m++x,hp i≠none/\S i):Tch N S c hp Dz (EX (Aj hp m) x) (EX (Aj Dz m) x):=by
 refine⟨λi hi h=>?_,λi j hd hi=>?_,λi hi=>?_,λi d hi=>?_⟩
 ·rw[Ik] at h;have f:Aj hp m i≠none:=λe=>hi (Fl.1 e);split at h
  ·cases g:Aj hp m i with
   |none=>exact f g
   |some b=>rw[g] at h;cases h
  ·exact f h
 ·have e:i ∉ m/\i ∉ x:=by
   refine⟨λh=>?_,λh=>?_⟩<;>(rcases hi with hi|hi)
   ·exact hi (a i (by simp[h])).2
   ·exact (a i (by simp[h])).1 hi
   ·exact hi (a i (by simp[h])).2
   ·exact (a i (by simp[h])).1 hi
  rw[Ik,Ik,Bb e.2,Bb e.2,Cj,Cj,Bb e.1,Bb e.1];exact⟨rfl,rfl⟩
 ·rw[Ik,Ik,Cj,Cj,hi]
 ·rw[Ik,Cj,Bb (λh=>d (a i (by simp[h])).2),Bb (λh=>d (a i (by simp[h])).2)]
theorem Ai4(e:Rel none none){C:J7}{F:Ao}{f:FuncId}{c:Call}{K:St->Option R}{K':St->Option R'}{S:Nat->Prop}(Qj:c.args.toList.map (Cw tm)=c.args.toList.map (Cw tm'))(G:∀i,S i->hp i=Dz i\/(hp i=none/\∀b,Rel none b))(y:∀p∈c.args.toList.map (Cw tm'),∀i∈Ck p,S i)(H:∀p∈c.args.toList.map (Cw tm'),∀i∈Ck p,∀c,Dz i=some (.st c)->∀q∈c,∀k∈A3 q,S k)(z:∀d,o.dst=some d->hp d=Dz d)(n:∀i,N<=i->hp i=Dz i)(I:∀v Ee Lw,Tch N S o.dst hp Dz Ee Lw->Rel (K ⟨Df tm o.dst v,Ee⟩) (K' ⟨Df tm' o.dst v,Lw⟩)):Rel (PA C P N F ⟨tm,hp⟩ o f c K) (PA C P N F ⟨tm',Dz⟩ o f c K'):=by
 unfold PA;simp only[Qj];refine WO e G y H λV m x l s=>Ba e λt=>Acs e λW ro=>OJ e λX bs A=>Ba e λ_=>?_;simp only[Ge] at t;have J:0<N:=Nat.lt_of_succ_le (Zy t.1.2);rw[Ahc n J];by_cases Arg:∃i∈l.flatMap Jn.ids,hp i≠Dz i
 ·obtain⟨i,hi,L⟩:=Arg;obtain⟨D,M⟩:=s i (B2.2 (.inr hi));rcases G i M with h|⟨h,_⟩
  ·exact absurd h L
  ·exact absurd h D
 have O:∀i∈l.flatMap Jn.ids,hp i≠none/\S i/\hp i=Dz i:=λi hi=>⟨(s i (B2.2 (.inr hi))).1,(s i (B2.2 (.inr hi))).2,Classical.byContradiction λh=>Arg ⟨i,hi,h⟩⟩;have E:Tch N S o.dst hp Dz (EX (Aj hp m) x) (EX (Aj Dz m) x):=A6j λi hi=>s i (B2.2 (.inl hi));refine FW e E O λQ D r w Bij=>?_
 have Aq7:∀q∈bs++r,N<=q.1\/o.dst=some q.1:=by
  intro q a;rcases B2.1 a with a|a
  ·obtain⟨j,g⟩:=A q a;cases hd:o.dst with
   |none=>
    rw[hd] at g;left;rw[g];exact Nat.le_add_right _ _
   |some d=>
    rw[hd] at g;change q.1=d+N*j at g;cases j with
    |zero=>right;rw[g];simp
    |succ j=>left;rw[g,Nat.mul_add];omega
  ·obtain⟨k,T⟩:=Bij q a;left;rw[T];unfold nid;exact Nat.le_mul_of_pos_right _ Ω
 have RO:∀q∈bs++r,Q q.1=D q.1:=by
  intro q a;refine w.same q.1 ?_;rcases Aq7 q a with h|h
  ·exact n _ h
  ·exact z _ h
 rw[Acj RO]
 exact Ba e λt=>I _ _ _ (XI w w Aq7 λq a=>by
  cases U:hp q.1 with
  |none=>rfl
  |some c=>exact absurd ((RO q a).trans ((B7 t).1 q.1 q.2 a)) (w.keep q.1 (by rw[U];simp)))
theorem Pr(a:Rel none none){C:J7}{F:Ao}{K:St->Option R}{K':St->Option R'}(Qj:∀x∈o.op.operands.toList,Cw tm x=Cw tm' x)(n:∀i,Rch o tm' Dz i->hp i=Dz i\/(hp i=none/\∀b,Rel none b))(l:∀d,o.dst=some d->hp d=Dz d)(s:∀i,N<=i->hp i=Dz i)(r:∀v Ee Lw,Tch N (Rch o tm' Dz) o.dst hp Dz Ee Lw->Rel (K ⟨Df tm o.dst v,Ee⟩) (K' ⟨Df tm' o.dst v,Lw⟩)):Rel (Ad3 C P N F ⟨tm,hp⟩ o K) (Ad3 C P N F ⟨tm',Dz⟩ o K'):=by
 unfold Ad3;have j:∀x∈o.op.operands.toList,∀i∈Ck (Cw tm' x),Rch o tm' Dz i:=λx e i hi=>.inl ⟨x,e,hi⟩;have Tn:SU o.op=false->∀x∈o.op.operands.toList,∀i∈Ck (Cw tm' x),∀c,Dz i=some (.st c)->∀q∈c,∀k∈A3 q,Rch o tm' Dz k:=λE x e i hi c w q G k H=>.inr ⟨E,i,c,⟨x,e,hi⟩,w,q,G,H⟩;generalize I:Rch o tm' Dz=S at *
 generalize J:o.op=op at *
 split
 ·rename_i t x y;simp only[Qj x (by simp[Op.operands]),Qj y (by simp[Op.operands])];refine Ba a λhd=>Akn (N:=N) a n (λi hi=>j x (by simp[Op.operands]) i (Qb hi)) (λi hi=>j y (by simp[Op.operands]) i (Kj hi)) λEe Lw z=>?_;have m:=Option.isNone_iff_eq_none.1 hd;have:=r .top Ee Lw (by rw[m];exact z)
  rw[m] at this;exact this
 ·rename_i c
  have Vy:∀x∈c.args.toList,x∈(Op.call c).operands.toList:=by
   intro x e;simp only[Op.operands,Call.operands,Array.toList_append,B2];exact .inr e
  split
  ·rename_i w;refine Em a λd hd=>Cc a λx _ e=>Cc a λy _ A=>Hq a (Cc a λ_ _ _=>Cc a λ_ _ _=>?_);subst A;have g:=Vy x (by rw[e];simp)
   have h:=Vy y (by rw[e];simp)
   simp only[Qj x g,Qj y h];refine Afc a n (l d hd) (λi hi=>j x g i (Kj hi)) (λi hi=>j y h i (Kj hi)) λv Ee Lw z=>?_;have:=r v Ee Lw (by rw[hd];exact z N)
   rw[hd] at this;exact this
  ·rename_i w;refine Cc a λx _ e=>Cc a λy _ A=>Hq a (Cc a λ_ _ _=>Cc a λ_ _ _=>?_);subst A;have g:=Vy x (by rw[e];simp)
   have h:=Vy y (by rw[e];simp)
   simp only[Qj x g,Qj y h];exact Als a n (λi hi=>j x g i (Kj hi)) (λi hi=>j y h i (Kj hi)) r
  ·rename_i f D;refine Ai4 a (List.map_congr_left λx e=>Qj x (Vy x e)) n (λp hp i hi=>?_) (λp hp i hi=>?_) l s r
   ·obtain⟨x,e,rfl⟩:=List.mem_map.1 hp;exact j x (Vy x e) i hi
   ·obtain⟨x,e,rfl⟩:=List.mem_map.1 hp;exact Tn (by simp only[SU,D]) x (Vy x e) i hi
  ·exact a
 ·exact a
theorem WN(b:Rel none none){C:J7}{F:Ao}{K:St->Option R}{K':St->Option R'}(Qj:∀x∈o.op.operands.toList,Cw tm x=Cw tm' x)(c:∀v Ee,(∀i,hp i≠none->Ee i≠none)->Rel (K ⟨Df tm o.dst v,Ee⟩) (K' ⟨Df tm' o.dst v,Ee⟩)):Rel (Ad3 C P N F ⟨tm,hp⟩ o K) (Ad3 C P N F ⟨tm',hp⟩ o K'):=
 Pr b Qj (λ_ _=>.inl rfl) (λ_ _=>rfl) (λ_ _=>rfl) λv Ee Lw a=>by
  have:Ee=Lw:=funext λi=>a.same i rfl;subst this;exact c v Ee a.keep
end
section
variable {R:Type}{r:R}{C:J7}{P:Program}{N:Nat}{F:Ao}{ops:Array Oper}{o x:Oper}{s:St}{K:St->Option R}
theorem Ado{tm:Nat->PV}{hp Ee:Nat->Option Cd}{tm':Nat->PV}{q:DJ}(a:K0 P o.op=false)(ht:∀t∈looks ops o,tm t=tm' t)(h:gE C P N F ops o ⟨tm,hp⟩=some q):gE C P N F ops o ⟨tm',Ee⟩=some q:=
 LB (s:=⟨tm,hp⟩) (s':=⟨tm',Ee⟩) ht (λh=>by rw[a] at h;cases h) h
theorem OK{tm:Nat->PV}{hp:Nat->Option Cd}(a:K0 P o.op=false)(h:E5 C P N F ops o ⟨tm,hp⟩ K=some r):
  ∃v nw,gE C P N F ops o ⟨tm,hp⟩=some (v,[],nw)/\I5 N o.dst=true/\Ch hp nw=true/\(∀p∈nw,o.dst=some p.1)/\K ⟨Df tm o.dst v,A4 hp nw⟩=some r:=by
 have f:BP C P o.op=false:=by
  cases g:BP C P o.op
  ·rfl
  ·rw[NR g] at a;cases a
 rw[P9 (by simp[Ke,f])] at h;cases e:gE C P N F ops o ⟨tm,hp⟩ with
 |none=>rw[e] at h;cases h
 |some q=>
  obtain⟨v,fz,nw⟩:=q;obtain⟨c,d⟩:=(CU e).1 a;simp only at c d;subst c;rw[e] at h;obtain⟨b,h⟩:=Ay h;simp only[Ge] at b;exact⟨v,nw,rfl,b.1,b.2,d,h⟩
theorem ZC{tm:Nat->PV}{hp:Nat->Option Cd}{v:PV}{nw:List (Nat × Cd)}(b:K0 P o.op=false)(e:gE C P N F ops o ⟨tm,hp⟩=some (v,[],nw))(hd:I5 N o.dst=true)(c:Ch hp nw=true)(h:K ⟨Df tm o.dst v,A4 hp nw⟩=some r):E5 C P N F ops o ⟨tm,hp⟩ K=some r:=by
 have d:BP C P o.op=false:=by
  cases f:BP C P o.op
  ·rfl
  ·rw[NR f] at b;cases b
 rw[P9 (by simp[Ke,d]),e];show Aw _ _=_;have a:Ch hp nw=true:=c;rw[hd,a];exact h
theorem S9{hp:Nat->Option Cd}{nw:List (Nat × Cd)}(a:Ch hp nw=true){i:Nat}(hi:∀p∈nw,p.1≠i):A4 hp nw i=hp i:=
 (F4 (B7 a).2).2 i λb c=>hi _ c rfl
theorem Awa{hp Ee:Nat->Option Cd}{nw:List (Nat × Cd)}(d:Ch hp nw=true){g:Nat->Option Cd}(f:∀i,(∀p∈nw,p.1≠i)->g i=Ee i)(k:∀i,(∃p∈nw,p.1=i)->g i=A4 hp nw i)(a:Ch Ee nw=true):g=A4 Ee nw:=by
 funext i
 by_cases h:∃p∈nw,p.1=i
 ·rw[k i h];obtain⟨⟨j,b⟩,hp,rfl⟩:=h;rw[(F4 (B7 d).2).1 j b hp,(F4 (B7 a).2).1 j b hp]
 ·have c:∀p∈nw,p.1≠i:=λp hp e=>h ⟨p,hp,e⟩;rw[f i c,S9 a c]
theorem A3m(g:LJ C P ops x o)(l:Ke C P ops x s.tm=true)(h:E5 C P N F ops x s (λs1=>E5 C P N F ops o s1 K)=some r):E5 C P N F ops o s (λs1=>E5 C P N F ops x s1 K)=some r:=by
 have m:K0 P o.op=false:=g.mx (by unfold Ke at l;simp only[Ge] at l;exact l.1)
 rw[Uv l] at h;obtain⟨tm,hp⟩:=s;have look:∀v,∀t∈looks ops o,Df tm x.dst v t=tm t:=λv=>H1 g.xo
 have E:=Pr (P:=P) (N:=N) (o:=x) (tm:=tm) (tm':=tm) (hp:=hp) (Dz:=hp) (K:=λs1=>E5 C P N F ops o s1 K) (K':=λ_=>none)
  (Rel:=λ(a:Option R)(_:Option R)=>a=some r->∃v nw,gE C P N F ops o ⟨tm,hp⟩=some (v,[],nw)/\I5 N o.dst=true/\(∀p∈nw,o.dst=some p.1)/\Ch hp nw=true) (λh=>by cases h) (λ_ _=>rfl) (λ_ _=>.inl rfl) (λ_ _=>rfl) (λ_ _=>rfl) (λv Ee _ n h=>by
   obtain⟨u,nw,G,hd,f,k,_⟩:=OK m h;refine⟨u,nw,Ado m (look v) G,hd,k,Y7 f λi b hi=>?_⟩;cases q:hp i with
   |none=>rfl
   |some c=>exact absurd ((B7 f).1 i b hi) (n.keep i (by rw[q];simp))) h
 obtain⟨v,nw,A,hd,k,f⟩:=E;refine ZC m A hd f ?_;have D:∀t∈looks ops x,tm t=Df tm o.dst v t:=λt ht=>(H1 g.ox t ht).symm;rw[Uv (by rw[<-Py D];exact l)]
 refine Pr (P:=P) (N:=N) (o:=x) (tm:=tm) (tm':=Df tm o.dst v) (hp:=hp) (Dz:=A4 hp nw) (Rel:=λ(a b:Option R)=>a=some r->b=some r) (λh=>by cases h) (Jp D) (λi _=>?_) (λd w=>?_) (λi hi=>(S9 f λp hp e=>by have:=Zf hd (k p hp);omega).symm) (λu Ee Lw n h=>?_) h
 ·by_cases hi:∃p∈nw,p.1=i
  ·obtain⟨⟨j,b⟩,Dz,rfl⟩:=hi;exact .inr ⟨(B7 f).1 j b Dz,λ_ h=>by cases h⟩
  ·exact .inl (S9 f λp hp e=>hi ⟨p,hp,e⟩).symm
 ·refine (S9 f λp hp e=>?_).symm;have:=k p hp;rw[e] at this;exact g.ne d w this
 ·obtain⟨L,H,I,_,y,_,J⟩:=OK m h;have z:=Ado (Ee:=hp) m (look u) I;rw[A] at z;simp only[Option.some.injEq,Prod.mk.injEq,true_and] at z;obtain⟨rfl,rfl⟩:=z
  have q:Lw=A4 Ee nw:=by
   refine Awa f (λi hi=>?_) (λi hi=>?_) y
   ·exact (n.same i (S9 f hi).symm).symm
   ·obtain⟨⟨j,b⟩,Dz,rfl⟩:=hi;refine (n.off j (Zf hd (k _ Dz)) (λe=>g.ne j e (k _ Dz)) (.inr ((B7 f).1 j b Dz))).2
  rw[q,<-T3 g.ne];exact J
theorem A0s(G:Has C P o s)(k:LJ C P ops x o)(g:Ke C P ops o s.tm=true)(h:E5 C P N F ops x s (λs1=>E5 C P N F ops o s1 K)=some r):E5 C P N F ops o s (λs1=>E5 C P N F ops x s1 K)=some r:=by
 have q:K0 P x.op=false:=k.mo (by unfold Ke at g;simp only[Ge] at g;exact g.1)
 obtain⟨tm,hp⟩:=s;obtain⟨v,nw,L,hd,j,n,w⟩:=OK q h;have H:∀t∈looks ops o,Df tm x.dst v t=tm t:=H1 k.xo;change E5 C P N F ops o ⟨Df tm x.dst v,A4 hp nw⟩ K=some r at w;rw[Uv (by rw[Py H];exact g)] at w
 rw[Uv g];have z:BP C P o.op=true:=by unfold Ke at g;simp only[Ge] at g;exact g.1
 have A39:∀i,Rch o tm hp i->hp i≠none:=by
  rintro i (⟨y,A,hi⟩|⟨D,id,c,⟨y,A,hi⟩,M,p,Dz,O⟩)
  ·exact G.1 y A i hi
  ·exact G.2 z D y A id hi c M p Dz i O
 refine Pr (P:=P) (N:=N) (o:=o) (tm:=Df tm x.dst v) (tm':=tm) (hp:=A4 hp nw) (Dz:=hp) (Rel:=λ(a b:Option R)=>a=some r->b=some r) (λh=>by cases h) (Jp H) (λi hi=>?_) (λd E=>?_) (λi hi=>S9 j λp hp e=>by have:=Zf hd (n p hp);omega) (λu Ee Lw I h=>?_) w
 ·refine .inl (S9 j λp Ee e=>A39 i hi ?_);rw[<-e];exact (B7 j).1 p.1 p.2 Ee
 ·refine S9 j λp Ee e=>?_;have:=n p Ee;rw[e] at this;exact k.ne d this E
 ·have Xg:∀p∈nw,Ee p.1=A4 hp nw p.1/\Lw p.1=none:=by
   intro p f;have l:=(B7 j).1 p.1 p.2 f;have J:=I.off p.1 (Zf hd (n p f)) (λe=>k.ne p.1 (n p f) e) (.inl λQ=>A39 _ Q l);exact⟨J.1,J.2.trans l⟩
  have m:Ch Lw nw=true:=Y7 j λi b hi=>(Xg (i,b) hi).2;refine ZC q (Ado q (λt ht=>(H1 k.ox t ht).symm) L) hd m ?_
  have S:Ee=A4 Lw nw:=by
   refine Awa j (λi hi=>?_) (λi hi=>?_) m
   ·exact I.same i (S9 j hi)
   ·obtain⟨p,f,rfl⟩:=hi;exact (Xg p f).1
  rw[<-T3 k.ne,<-S];exact h
theorem Bea(b:Has C P o s)(a:LJ C P ops x o)(h:E5 C P N F ops x s (λs1=>E5 C P N F ops o s1 K)=some r):E5 C P N F ops o s (λs1=>E5 C P N F ops x s1 K)=some r:=by
 cases c:Ke C P ops x s.tm
 ·cases d:Ke C P ops o s.tm
  ·exact Ap6 b a.xo a.ne a.ox c d h
  ·exact A0s b a d h
 ·exact A3m a c h
theorem Px(h:DX P o.op=true):BP C P o.op=false:=by
 unfold DX at h;split at h
 ·rename_i a;rw[a];rfl
 ·rename_i a;rw[a];rfl
 ·cases h
def Aas(P:Program)(ops:Array Oper)(o:Oper)(tm:Nat->PV):Prop:=DX P o.op=true\/J5 ops o tm=some false
theorem JU{tm tm':Nat->PV}(h:∀t∈looks ops o,tm t=tm' t)(a:Aas P ops o tm):Aas P ops o tm':=by
 rcases a with a|a
 ·exact .inl a
 ·exact .inr (by rw[<-Qe h];exact a)
theorem Adj{tm:Nat->PV}(a:Aas P ops o tm):Ke C P ops o tm=false:=by
 rcases a with a|a
 ·simp[Ke,Px a]
 ·simp[Ke,a]
theorem Ap9{q:DJ}(d:Aas P ops o s.tm)(h:gE C P N F ops o s=some q):q.2.1=[]/\q.2.2=[]:=by
 unfold gE at h;split at h
 ·cases h
 ·rename_i i
  have d:DX P o.op=true:=by
   rcases d with d|d
   ·exact d
   ·rw[i] at d;cases d
  rw[Px d] at h;have h:Asf C P N F o s=some q:=h;unfold DX at d;split at d
  ·rename_i t a e;unfold Asf VA at h;rw[e] at h
   have:=Abi (nz:=C.nz N) (P:=P) (f:=rd s.hp) (f':=rd s.hp) (g:=Om s.hp) (g':=Om s.hp) (t:=t) (x:=Cw s.tm a) (Rel:=λ(a b:Option DJ)=>∀q,a=some q->q.2.1=[]/\q.2.2=[])
    (K:=λv=>some (v,[],[])) (K':=λv=>some (v,[],[])) (λ_ h=>by cases h) (λ_ _=>.inl ⟨rfl,rfl⟩) (λv q j=>by cases j;exact⟨rfl,rfl⟩)
   exact this q h
  ·rename_i k l y e;unfold Asf VA at h;rw[e] at h;simp only at h;unfold YG at h;split at d
   ·rename_i hd;rw[hd] at h;simp only at h;split at h
    ·obtain⟨_,_,h⟩:=Ep h;obtain⟨_,_,h⟩:=C6 h;cases h;exact⟨rfl,rfl⟩
    ·split at h
     ·exact Y0 (f:=Om s.hp) (f':=Om s.hp) (K':=λ_ _=>(none:Option DJ)) (Rel:=λ(a _:Option DJ)=>a=some q->q.2.1=[]/\q.2.2=[]) (λh=>by cases h) (λ_ _=>.inl rfl) (λn c h=>by
       obtain⟨_,h⟩:=Ay h;obtain⟨_,_,h⟩:=C6 h;obtain⟨_,_,h⟩:=C6 h;cases h;exact⟨rfl,rfl⟩) h
     ·exact Y0 (f:=Om s.hp) (f':=Om s.hp) (K':=λ_ _=>(none:Option DJ)) (Rel:=λ(a _:Option DJ)=>a=some q->q.2.1=[]/\q.2.2=[]) (λh=>by cases h) (λ_ _=>.inl rfl) (λn c h=>by
       obtain⟨_,h⟩:=Ay h;obtain⟨_,_,h⟩:=C6 h;obtain⟨_,_,h⟩:=C6 h;cases h;exact⟨rfl,rfl⟩) h
     ·cases h
    ·cases h
   ·cases d
  ·cases d
 ·cases h;exact⟨rfl,rfl⟩
theorem Aqm{tm tm':Nat->PV}{hp:Nat->Option Cd}(h:∀t∈looks ops o,tm t=tm' t){i:Nat}(hi:Rch o tm hp i):Rch o tm' hp i:=by
 have d:=Jp (ops:=ops) (o:=o) h;rcases hi with⟨y,a,hi⟩|⟨b,id,c,⟨y,a,hi⟩,e,q⟩
 ·exact .inl ⟨y,a,by rw[<-d y a];exact hi⟩
 ·exact .inr ⟨b,id,c,⟨y,a,by rw[<-d y a];exact hi⟩,e,q⟩
theorem A5b{hp Ee:Nat->Option Cd}{i:Nat}(h:Ee i=hp i):rd Ee i=rd hp i/\Om Ee i=Om hp i:=by unfold rd Om;rw[h];exact⟨rfl,rfl⟩
theorem QE{tm:Nat->PV}{hp:Nat->Option Cd}(a:Aas P ops o tm)(h:E5 C P N F ops o ⟨tm,hp⟩ K=some r):
  ∃v,gE C P N F ops o ⟨tm,hp⟩=some (v,[],[])/\I5 N o.dst=true/\K ⟨Df tm o.dst v,hp⟩=some r:=by
 rw[P9 (Adj a)] at h;cases e:gE C P N F ops o ⟨tm,hp⟩ with
 |none=>rw[e] at h;cases h
 |some q=>
  obtain⟨v,fz,nw⟩:=q;obtain⟨b,c⟩:=Ap9 a e;simp only at b c;subst b;subst c;rw[e] at h;obtain⟨d,h⟩:=Ay h;simp only[Ge] at d;exact⟨v,rfl,d.1,h⟩
theorem XQ{tm:Nat->PV}{hp:Nat->Option Cd}{v:PV}(a:Aas P ops o tm)(e:gE C P N F ops o ⟨tm,hp⟩=some (v,[],[]))(hd:I5 N o.dst=true)(h:K ⟨Df tm o.dst v,hp⟩=some r):E5 C P N F ops o ⟨tm,hp⟩ K=some r:=by rw[P9 (Adj a),e];show Aw _ _=_;have b:Ch hp []=true:=rfl;simp only[hd,b,Bool.and_self];exact h
theorem A1t(l:Has C P o s)(xo:∀d,x.dst=some d->d ∉ looks ops o)(ne:∀d,x.dst=some d->o.dst≠some d)(ox:∀d,o.dst=some d->d ∉ looks ops x)(g:Aas P ops o s.tm)(A01:∀y∈o.op.operands.toList,∀i∈Ck (Cw s.tm y),¬Rch x s.tm s.hp i)(m:Ke C P ops x s.tm=true)(h:E5 C P N F ops x s (λs1=>E5 C P N F ops o s1 K)=some r):E5 C P N F ops o s (λs1=>E5 C P N F ops x s1 K)=some r:=by
 rw[Uv m] at h;obtain⟨tm,hp⟩:=s;have look:∀v,∀t∈looks ops o,Df tm x.dst v t=tm t:=λv=>H1 xo
 have A3v:∀{u:PV} {Ee:Nat->Option Cd} {q:DJ},(∀y∈o.op.operands.toList,∀i∈Ck (Cw tm y),Ee i=hp i)->gE C P N F ops o ⟨Df tm x.dst u,Ee⟩=some q->gE C P N F ops o ⟨tm,hp⟩=some q:=
  λp e=>LB (s:=⟨Df tm x.dst _,_⟩) (s':=⟨tm,hp⟩) (look _) (λ_ y c i hi=>.inl (A5b (p y c i hi))) e
 have w:=Pr (P:=P) (N:=N) (o:=x) (tm:=tm) (tm':=tm) (hp:=hp) (Dz:=hp) (K:=λs1=>E5 C P N F ops o s1 K) (K':=λ_=>none)
  (Rel:=λ(a:Option R)(_:Option R)=>a=some r->∃v,gE C P N F ops o ⟨tm,hp⟩=some (v,[],[])/\I5 N o.dst=true) (λh=>by cases h) (λ_ _=>rfl) (λ_ _=>.inl rfl) (λ_ _=>rfl) (λ_ _=>rfl) (λv Ee _ f h=>by
   obtain⟨u,z,hd,_⟩:=QE (JU (λt ht=>(look v t ht).symm) g) h;exact⟨u,A3v (λy c i hi=>f.far i (A01 y c i hi) (l.1 y c i hi)) z,hd⟩) h
 obtain⟨v,n,hd⟩:=w;refine XQ g n hd ?_;have j:∀t∈looks ops x,tm t=Df tm o.dst v t:=λt ht=>(H1 ox t ht).symm;rw[Uv (by rw[<-Py j];exact m)]
 refine Pr (P:=P) (N:=N) (o:=x) (tm:=tm) (tm':=Df tm o.dst v) (hp:=hp) (Dz:=hp) (Rel:=λ(a b:Option R)=>a=some r->b=some r) (λh=>by cases h) (Jp j) (λ_ _=>.inl rfl) (λ_ _=>rfl) (λ_ _=>rfl) (λu Ee Lw f h=>?_) h;have A:Ee=Lw:=funext λi=>f.same i rfl;subst A;obtain⟨H,D,_,E⟩:=QE (JU (λt ht=>(look u t ht).symm) g) h;have k:=A3v (λy c i hi=>f.far i (λG=>A01 y c i hi (Aqm (λt ht=>(j t ht).symm) G)) (l.1 y c i hi)) D;rw[n] at k;simp only[Option.some.injEq,Prod.mk.injEq,and_true] at k;subst k;rw[<-T3 ne];exact E
theorem A10(xo:∀d,x.dst=some d->d ∉ looks ops o)(ne:∀d,x.dst=some d->o.dst≠some d)(ox:∀d,o.dst=some d->d ∉ looks ops x)(f:Aas P ops x s.tm)(A01:∀y∈x.op.operands.toList,∀i∈Ck (Cw s.tm y),¬Rch o s.tm s.hp i)(g:Ke C P ops o s.tm=true)(h:E5 C P N F ops x s (λs1=>E5 C P N F ops o s1 K)=some r):E5 C P N F ops o s (λs1=>E5 C P N F ops x s1 K)=some r:=by
 obtain⟨tm,hp⟩:=s;obtain⟨v,n,hd,j⟩:=QE f h;have k:∀t∈looks ops o,Df tm x.dst v t=tm t:=H1 xo;rw[Uv (by rw[Py k];exact g)] at j
 rw[Uv g];refine Pr (P:=P) (N:=N) (o:=o) (tm:=Df tm x.dst v) (tm':=tm) (hp:=hp) (Dz:=hp) (Rel:=λ(a b:Option R)=>a=some r->b=some r) (λh=>by cases h) (Jp k) (λ_ _=>.inl rfl) (λ_ _=>rfl) (λ_ _=>rfl) (λu Ee Lw l h=>?_) j;have p:Ee=Lw:=funext λi=>l.same i rfl;subst p;have c:∀t∈looks ops x,tm t=Df tm o.dst u t:=λt ht=>(H1 ox t ht).symm;refine XQ (JU c f) (LB (s:=⟨tm,hp⟩) (s':=⟨Df tm o.dst u,Ee⟩) c (λ_ y m i hi=>?_) n) hd ?_
 ·have hi:i∈Ck (Cw tm y):=by rw[Jp c y m];exact hi
  by_cases e:hp i=none
  ·exact .inr ⟨Aqa e,Q1 e⟩
  ·obtain⟨q,w⟩:=A5b (l.far i (A01 y m i hi) e);exact .inl ⟨q.symm,w.symm⟩
 ·rw[<-T3 ne];exact h
def Abz(P:Program)(x:Oper)(s s1:St):Prop:=(∀t,x.dst≠some t->s1.tm t=s.tm t)/\(∀i,s.hp i≠none->s1.hp i≠none)/\(K0 P x.op=false->∀i,s.hp i≠none->s1.hp i=s.hp i)
theorem Wt{tm:Nat->PV}{d:Option Tmp}{v:PV}{t:Nat}(h:d≠some t):Df tm d v t=tm t:=by
 cases d with
 |none=>rfl
 |some d=>exact At _ _ (by rintro rfl;exact h rfl)
theorem VX{K':St->Option R}(h:E5 C P N F ops x s K=some r)(g:∀s1,Abz P x s s1->K s1=some r->K' s1=some r):E5 C P N F ops x s K'=some r:=by
 cases c:Ke C P ops x s.tm
 ·rw[P9 c] at h ⊢;cases f:gE C P N F ops x s with
  |none=>rw[f] at h;cases h
  |some q=>
   rw[f] at h;obtain⟨d,j⟩:=Ay h;simp only[Ge] at d;show Aw _ _=_;rw[d.1,d.2];refine g _ ⟨λt ht=>Wt ht,λi hi=>Ue d.2 hi,λe i hi=>?_⟩ j;show A4 (Aj s.hp q.2.1) q.2.2 i=s.hp i;rw[Ix d.2 hi,((CU f).1 e).1];simp
 ·rw[Uv c] at h ⊢
  exact WN (P:=P) (N:=N) (o:=x) (tm:=s.tm) (tm':=s.tm) (hp:=s.hp) (Rel:=λ(a b:Option R)=>a=some r->b=some r) (λh=>by cases h) (λ_ _=>rfl) (λv Ee k h=>g _ ⟨λt ht=>Wt ht,k,λe=>by
   have l:BP C P x.op=true:=by unfold Ke at c;simp only[Ge] at c;exact c.1
   rw[NR l] at e;cases e⟩ h) h
theorem Has.keeps{s1:St}(h:Has C P o s)(g:LJ C P ops x o)(d:Abz P x s s1):Has C P o s1:=by
 have b:∀y∈o.op.operands.toList,Cw s1.tm y=Cw s.tm y:=λy a=>Jp (ops:=ops) (o:=o) (λt ht=>d.1 t λhd=>g.xo t hd ht) y a;refine⟨λy a i hi=>?_,λj m y a i hi c l p hp k e=>?_⟩
 ·rw[b y a] at hi;exact d.2.1 i (h.1 y a i hi)
 ·rw[b y a] at hi;have f:=h.1 y a i hi;rw[d.2.2 (g.mo j) i f] at l;exact d.2.1 k (h.2 j m y a i hi c l p hp k e)
theorem VY:∀(l:List Oper){s:St}{K:St->Option R},Has C P o s->(∀x∈l,LJ C P ops x o)->Uf C P N F ops l s (λs1=>E5 C P N F ops o s1 K)=some r->E5 C P N F ops o s (λs1=>Uf C P N F ops l s1 K)=some r
 |[],_,_,_,_,h=>h
 |x::l,s,K,b,a,h=>by
  refine Bea b (a x Ψ) ?_;refine VX (K:=λs1=>Uf C P N F ops l s1 (λs2=>E5 C P N F ops o s2 K)) h λs1 c d=>?_;exact VY l (b.keeps (a x Ψ) c) (λy e=>a y (Yh _ e)) d
theorem EH:∀(l a:List Oper){s:St}{K:St->Option R},Uf C P N F ops (l++a) s K=Uf C P N F ops l s (λs1=>Uf C P N F ops a s1 K)
 |[],_,_,_=>rfl
 |x::l,a,s,K=>by
  show E5 C P N F ops x s (λs1=>Uf C P N F ops (l++a) s1 K)=E5 C P N F ops x s (λs1=>Uf C P N F ops l s1 _)
  congr 1
  funext s1
  exact EH l a
theorem As0{l a:List Oper}(b:Has C P o s)(c:∀x∈l,LJ C P ops x o)(h:Uf C P N F ops (l++o::a) s K=some r):E5 C P N F ops o s (λs1=>Uf C P N F ops (l++a) s1 K)=some r:=by rw[EH] at h;have:=VY l b c h;refine VX this λs1 _ d=>?_;rw[EH];exact d
end
open Go.RowKit
section
variable {R:Type}{r:R}{P:Program}{N:Nat}{w0:World}{X0:Lu}{Y:Nat->Prop}{β β':Bt}{s:St}{a:Act}{w w':World}{o:Oper}{ops:Array Oper}{C:J7}{F:Ao}{K:St->Option R}
theorem XY(h:Dt N w0 X0 Y β s a w){j d:Nat}(hd:(ops[j]?).bind (·.dst)=some d){v:Value}(ht:s.tm d=.sc v):yielded ops a.tmps j=match v with | .bool b=>some b|_=>none:=by
 have Cs:d<N:=by
  rcases Jt d N with e|e
  ·exact e
  ·rw[h.tmo d e] at ht;cases ht
 have c:=h.tms d Cs;rw[ht] at c;have c:=PC c;have Ayo:d<a.tmps.size:=by rw[h.tsz];exact Cs
 have f:a.tmps[d]?=some v:=by
  rw[Array.getElem?_eq_getElem Ayo];simp[Ayo] at c;rw[c]
 unfold yielded;rw[hd];simp only[Option.bind_some,f];cases v<;>rfl
theorem JY(h:Dt N w0 X0 Y β s a w){G:KB}(Qd:Env P G w0 X0)(t:∀f args g,F f args=some g->Ej G P f args g){i:Nat}(hi:ops[i]?=some o)(e:E5 C P N F ops o s K=some r):
  ∃s',K s'=some r/\∀(next:Act->World->Prop) (Q:Exit->Act->World->Prop),(∀m w' β',Dt N w0 X0 Y β' s' m w'->next m w')->wpOp P ops Q i next a w:=by
 rw[Agd] at e
 have n:∀b,J5 ops o s.tm=some b->Region.wanted o (yielded ops a.tmps)=b:=by
  intro b c;unfold J5 at c;unfold Region.wanted;cases p:o.guard with
  |none=>rw[p] at c;simpa using c
  |some q=>
   obtain⟨j,want⟩:=q;rw[p] at c;simp only at c ⊢;cases hd:(ops[j]?).bind (·.dst) with
   |none=>rw[hd] at c;cases c
   |some d=>
    rw[hd] at c;simp only at c;split at c
    ·rename_i v ht;rw[XY h hd ht];simp at c;rw[<-c];cases v<;>cases want<;>rfl
    ·rename_i ht;rw[XY h hd ht];simp at c;rw[c];rfl
    ·cases c
 split at e
 ·cases e
 ·rename_i k;obtain⟨s',l,x⟩:=Alr h Qd t e;refine⟨s',l,λnext Q Axv=>?_⟩;unfold wpOp;rw[hi];simp only[n _ k,if_true];exact .inl (x next Q Axv)
 ·rename_i k;obtain⟨hd,e⟩:=Ay e;refine⟨_,e,λnext Q Axv=>?_⟩;unfold wpOp;rw[hi];simp only[n _ k];refine Axv _ _ β (h.put hd (A9.sc _) (by simp[Ck,C8,A3]))
theorem Dt.known(h:Dt N w0 X0 Y β s a w){d:Nat}(hd:s.tm d=.ub):∃b,Dt N w0 X0 Y β ⟨Dm s.tm d (.sc (.bool b)),s.hp⟩ a w:=by
 have Cs:d<N:=by
  rcases Jt d N with c|c
  ·exact c
  ·rw[h.tmo d c] at hd;cases hd
 have f:=h.tms d Cs;rw[hd] at f;have Nq:A9 w (Ec s.hp β Y) .ub (a.tmps.getD d undef):=f
 obtain⟨b,g⟩:∃b,a.tmps.getD d undef=.bool b:=by
  generalize a.tmps.getD d undef=x at Nq;cases Nq with
  |ub b=>exact⟨b,rfl⟩
 refine⟨b,⟨h.dfr,h.tsz,λi hi=>?_,λi hi=>?_,h.box,h.inj,h.blt,λi hi=>?_,h.wfB,h.ownd,h.rngB,h.pin,h.stp,h.Yx,h.Ylt,h.fr⟩⟩
 ·show Dm s.tm d _ i=_;rw[At _ _ Ω];exact h.tmo i hi
 ·by_cases e:i=d
  ·subst e;show F9 _ _ _ (Dm s.tm i _ i) _;rw[Az,g];exact A9.sc _
  ·show F9 _ _ _ (Dm s.tm d _ i) _;rw[At _ _ e];exact h.tms i hi
 ·by_cases e:i=d
  ·subst e;show ∀id∈Ck (Dm s.tm i _ i),_;rw[Az];simp[Ck,C8,A3]
  ·show ∀id∈Ck (Dm s.tm d _ i),_;rw[At _ _ e];exact h.wfT i hi
theorem Ac9{x y:Option R}(h:RR x y=some r):x=some r/\y=some r:=by
 unfold RR at h;split at h
 ·rename_i e;exact⟨h,e ▸ h⟩
 ·cases h
theorem Aet(h:Dt N w0 X0 Y β s a w){F:St->Option R}(c:An1 ops o s F=some r):∃s',F s'=some r/\Dt N w0 X0 Y β s' a w:=by
 unfold An1 at c;split at c
 ·exact⟨s,c,h⟩
 ·split at c
  ·exact⟨s,c,h⟩
  ·split at c
   ·rename_i d _ ht;obtain⟨b,e⟩:=h.known ht;obtain⟨f,g⟩:=Ac9 c;cases b
    ·exact⟨_,g,e⟩
    ·exact⟨_,f,e⟩
   ·exact⟨s,c,h⟩
theorem MC{G:KB}(Qd:Env P G w0 X0)(m:∀f args b,F f args=some b->Ej G P f args b){Q:Exit->Act->World->Prop}(n:∀s' e w' β',K s'=some r->Dt N w0 X0 Y β' s' e w'->Q .normal e w'):
  ∀(l:B9) (os:List Oper),l.length=os.length->(∀(k i:Nat),l[k]?=some i->ops[i]?=os[k]?)->∀{s:St} {a:Act} {w:World} {β:Bt},Dt N w0 X0 Y β s a w->Ae5 C P N F ops os s K=some r->wpOps P ops Q l a w
 |[],[],_,_,s,a,w,β,h,c=>by
  show Q .normal a w;exact n s a w β c h
 |[],_::_,d,_,_,_,_,_,_,_=>by cases d
 |_::_,[],d,_,_,_,_,_,_,_=>by cases d
 |i::l,o::os,d,hi,s,a,w,β,h,c=>by
  rw[wpOps_cons];obtain⟨s1,c,h⟩:=Aet h c;obtain⟨s',g,p⟩:=JY h Qd m (by simpa using hi 0 i rfl) c;exact p _ _ λe w' β' q=>MC Qd m n l os (by simpa using d) (λk j t=>by simpa using hi (k+1) j (by simpa using t)) q g
theorem Dt.drew(h:Dt N w0 X0 Y β s a w):Dt N w0 X0 Y β s a { w with drawn:=w.drawn+1 }:=by
 have:=h.stepR (d:=none) (v:=.top) (nw:=[]) (val:=undef) (w':={ w with drawn:=w.drawn+1 }) (β':=β) rfl rfl
  ⟨rfl,rfl,rfl,⟨Cg _,λ_ _ _=>rfl,λ_ _=>Ku.refl _ _⟩,λ_ _=>rfl,Ψ,Ψ,Ψ,Ψ,Ψ,.top _,by simp[Ck,C8,A3]⟩
 exact this
theorem Ae0(h:Dt N w0 X0 Y β s a w){G:KB}(Qd:Env P G w0 X0)(e:∀f args b,F f args=some b->Ej G P f args b){id:Nat}{Q:Exit->Act->World->Prop}(g:Ae5 C P N F ops ops.toList s K=some r)(j:∀s' d w' β',K s'=some r->Dt N w0 X0 Y β' s' d w'->Q .normal d w'):(Code.region id ops false).wp P Q a w:=by
 refine wp_region (MC Qd e j (List.range ops.size) ops.toList Ψ (λk i hi=>?_) h g);rw[List.getElem?_range] at hi
 ·simp at hi;subst hi;simp
 ·rcases Jt k ops.size with c|c
  ·exact c
  ·rw[List.getElem?_eq_none (by simpa using c)] at hi;cases hi
def Th(n:Nat)(listed:Array Bool):B9:=(List.range n).filter λi=> !listed.getD i true
def A69(ops:Array Oper)(listed:Array Bool)(o:Oper):Prop:=∀e∈o.after,Region.binds .any e=true->listed.getD e.on false=true
theorem testBit_or{a b j:Nat}:(a ||| b).testBit j=(a.testBit j||b.testBit j):=Nat.testBit_or a b j
theorem Ab1{a:B9}{j:Nat}:∀(es:List Edge)(v:Nat),(es.foldl (λs e=>bif Region.binds .any e then s ||| 2 ^ e.on ||| a.getD e.on 0 else s) v).testBit j=true ->
  v.testBit j=true\/∃e∈es,Region.binds .any e=true/\(j=e.on\/(a.getD e.on 0).testBit j=true)
 |[],v,h=>.inl h
 |e::es,v,h=>by
  rcases Ab1 es _ h with h|⟨d,b,h⟩
  ·cases c:Region.binds .any e<;>simp only[c] at h
   ·exact .inl h
   ·simp only[cond_true,Nat.testBit_or,Bool.or_eq_true] at h;rcases h with (h|h)|h
    ·exact .inl h
    ·refine .inr ⟨e,Ψ,c,.inl ?_⟩;rw[Nat.testBit_two_pow] at h;exact (of_decide_eq_true h).symm
    ·exact .inr ⟨e,Ψ,c,.inr h⟩
  ·exact .inr ⟨d,by simp[b],h⟩
theorem Z7{listed:Array Bool}(q:∀(j:Nat) r,ops[j]?=some r->listed.getD j false=true->A69 ops listed r):
  ∀(rest done:List Oper) (a:B9),ops.toList=done++rest->a.length=done.length ->
   (∀(k:Nat) o,done[k]?=some o->A69 ops listed o->∀j,(a.getD k 0).testBit j=true->listed.getD j false=true) ->
   ∀(k:Nat) o,ops[k]?=some o->A69 ops listed o->∀j,((Mo rest a).getD k 0).testBit j=true->listed.getD j false=true
 |[],done,a,g,_,h,k,o,c,f,j,b=>by
  refine h k o ?_ f j b;rw[List.append_nil] at g;rw[<-g]
  simpa using c
 |t::rest,done,a,g,i,h,k,o,c,f,j,b=>by
  refine Z7 q rest (done++[t]) _ (by rw[g];simp) (by simp[i]) ?_ k o c f j b
  intro k o c f j b;rcases Nat.lt_trichotomy k done.length with Cs|l|v
  ·rw[List.getElem?_append_left Cs] at c;rw[List.getD_eq_getElem?_getD,List.getElem?_append_left Ω,<-List.getD_eq_getElem?_getD] at b;exact h k o c f j b
  ·subst l;simp at c;subst c;rw[<-i] at b;simp only[List.getD_eq_getElem?_getD,List.getElem?_append_right (Cg _),Nat.sub_self,List.getElem?_cons_zero,Option.getD_some] at b
   have b:(t.after.toList.foldl (λs e=>bif Region.binds .any e then s ||| 2 ^ e.on ||| a.getD e.on 0 else s) 0).testBit j=true:=by
    simpa only[List.getD_eq_getElem?_getD] using b
   rcases Ab1 _ _ b with w|⟨e,x,y,d⟩
   ·simp at w
   ·have WV:=f e (by simpa using x) y;rcases d with d|d
    ·rw[d];exact WV
    ·cases hd:done[e.on]? with
     |none=>
      have:a.getD e.on 0=0:=by
       rw[List.getD_eq_getElem?_getD,List.getElem?_eq_none (by rw[i];exact List.getElem?_eq_none_iff.1 hd)]
       rfl
      rw[this] at d;simp at d
     |some m=>
      have n:ops[e.on]?=some m:=by
       rw[<-Array.getElem?_toList,g,List.getElem?_append_left (by
        rcases Jt e.on done.length with p|p
        ·exact p
        ·rw[List.getElem?_eq_none p] at hd;cases hd)]
       exact hd
      exact h e.on m hd (q e.on m n WV) j d
  ·rw[List.getElem?_eq_none (by simp;omega)] at c
   cases c
theorem KZ{bs:B9}:∀(l:List Oper)(n:Nat),UK C P ops bs l n=true->∀(k:Nat) o,l[k]?=some o->∀(j:Nat) x,ops[j]?=some x->j<n+k->WJ C P ops x o=true->(bs.getD (n+k) 0).testBit j=true
 |[],_,_,k,o,a,_,_,_,_,_=>by simp at a
 |d::l,n,h,k,o,a,j,x,c,e,So=>by
  simp only[UK,Ge] at h;cases k with
  |zero=>
   simp at a;subst a
   have:=List.all_eq_true.1 h.1 (x,j) (by
    rw[List.mem_zipIdx_iff_getElem?]
    simpa using c)
   simp only[So,Es,Bool.or_false,Bool.or_eq_true,Bool.not_eq_true'] at this;rcases this with b|b
   ·have:Nat.blt j n=true:=Nat.ble_eq_true_of_le Ω;rw[this] at b;cases b
   ·exact b
  |succ k=>
   have:=KZ l (n+1) h.2 k o (by simpa using a) j x c Ω So
   rwa [show n+(k+1)=n+1+k by omega]
theorem Ny{n i:Nat}{listed:Array Bool}:i∈Th n listed↔i<n/\listed.getD i true=false:=by unfold Th;simp[List.mem_filter]
theorem KE{n i:Nat}{listed:Array Bool}(hi:i∈Th n listed)(Wh:listed.size=n):∃b c,Th n listed=b++i::c/\Th n (listed.setIfInBounds i true)=b++c/\∀j∈b,j<i:=by
 obtain⟨Cs,Oo⟩:=Ny.1 hi
 have d:List.range n=List.range i++i::(List.range (n-i-1)).map (i+1 + ·):=by
  conv=>lhs;rw[show n=i+(1+(n-i-1)) by omega]
  rw[List.range_add,List.range_add];simp[R1]
 refine⟨(List.range i).filter λi=> !listed.getD i true,((List.range (n-i-1)).map (i+1 + ·)).filter λi=> !listed.getD i true,?_,?_,λj a=>?_⟩
 ·unfold Th;rw[d,List.filter_append,List.filter_cons_of_pos (by rw[Oo];rfl)]
 ·unfold Th;rw[d,List.filter_append,List.filter_cons_of_neg (by simp[Wh,Cs])]
  congr 1
  ·refine List.filter_congr λj a=>?_;rw[getD_set_ne true (by have:=List.mem_range.1 a;omega)]
  ·refine List.filter_congr λj a=>?_;obtain⟨k,_,rfl⟩:=List.mem_map.1 a;rw[getD_set_ne true Ω]
 ·exact List.mem_range.1 (List.mem_filter.1 a).1
theorem Axt(h:Dt N w0 X0 Y β s a w)(o:Oper):Has C P o s:=by refine⟨λy _ i hi=>Hb h y i hi,λ_ _ y _ i hi c b p hp k d=>h.wfB i c b p hp k d⟩
theorem Acf(Axd:(ops.toList.zipIdx.all λq=>q.1.after.toList.all λe=> !Region.binds .any e||Nat.blt e.on q.2)=true){listed:Array Bool}(a:HeadInv .any ops ops.size listed)(f:Region.ready .any ops listed=[]):Th ops.size listed=[]:=by
 cases hp:Th ops.size listed with
 |nil=>rfl
 |cons i l=>
  exfalso;have hi:i∈Th ops.size listed:=by rw[hp];simp
  obtain⟨Cs,Oo⟩:=Ny.1 hi;obtain⟨b,n,c,_,g⟩:=KE hi a.size
  have WV:b=[]:=by
   cases b with
   |nil=>rfl
   |cons j b=>
    rw[hp] at c;simp at c;have:=g j Ψ;omega
  subst WV
  have Bhk:∀j,j<i->listed.getD j false=true:=by
   intro j o;cases h:listed.getD j false with
   |true=>rfl
   |false=>
    have:j∈Th ops.size listed:=Ny.2 ⟨Ω,getD_in (by rw[a.size];omega) h⟩
    have d:(Th ops.size listed).Pairwise (· < ·):=List.Pairwise.filter _ List.pairwise_lt_range;rw[c] at this d;simp at this;rcases this with e|e
    ·omega
    ·have:=(List.pairwise_cons.1 d).1 j e;omega
  have:i∈Region.ready .any ops listed:=by
   refine mem_ready.2 ⟨Oo,ops[i],Array.getElem?_eq_getElem Cs,λe k m=>Bhk _ ?_⟩
   have:=List.all_eq_true.1 Axd (ops[i],i) (by
    rw[List.mem_zipIdx_iff_getElem?];simp[Cs])
   have:=List.all_eq_true.1 this e (Array.mem_toList_iff.2 k);simp only[m,Es,Bool.false_or] at this;exact Nat.lt_of_succ_le (Zy this)
  rw[f] at this;simp at this
theorem Ae3{G:KB}(Qd:Env P G w0 X0)(D:∀f args g,F f args=some g->Ej G P f args g)(c:Abd C P ops=true){Q:Exit->Act->World->Prop}(E:∀s' n w' β',K s'=some r->Dt N w0 X0 Y β' s' n w'->Q .normal n w'):
  ∀(fuel:Nat) {listed:Array Bool} {s:St} {a:Act} {w:World} {β:Bt},HeadInv .any ops ops.size listed->(Th ops.size listed).length=fuel->Dt N w0 X0 Y β s a w->Uf C P N F ops ((Th ops.size listed).filterMap (ops[·]?)) s K=some r->wpAny P .any ops Q fuel listed a w:=by
 unfold Abd at c;simp only[Ge] at c;obtain⟨Axd,A5y⟩:=c;intro fuel
 induction fuel with
 |zero=>
  intro listed s a w β b e h k;have hp:=List.eq_nil_of_length_eq_zero e;rw[hp] at k;refine⟨?_,E s a w β k h⟩;cases p:Region.ready .any ops listed with
  |nil=>rfl
  |cons i l=>
   exfalso;have hi:i∈Region.ready .any ops listed:=by rw[p];simp
   obtain⟨Oo,o,d,_⟩:=mem_ready.1 hi;have:i∈Th ops.size listed:=Ny.2 ⟨(Array.getElem?_eq_some_iff.1 d).1,Oo⟩;rw[hp] at this;simp at this
 |succ fuel H=>
  intro listed s a w β b e h k;refine⟨λp=>?_,λi hi=>?_⟩
  ·rw[Acf Axd b p] at e;cases e
  ·obtain⟨Oo,o,d,I⟩:=mem_ready.1 hi;have Cs:i<ops.size:=(Array.getElem?_eq_some_iff.1 d).1;obtain⟨J,U,q,A,L⟩:=KE (Ny.2 ⟨Cs,Oo⟩) b.size;rw[q,List.filterMap_append,List.filterMap_cons_some d] at k
   have t:∀x∈J.filterMap (ops[·]?),LJ C P ops x o:=by
    intro x M;obtain⟨j,m,v⟩:=List.mem_filterMap.1 M;refine Ayc ?_;cases So:WJ C P ops x o with
    |false=>rfl
    |true=>
     exfalso;have Tg:=KZ ops.toList 0 A5y i o (by simpa using d) j x v (by have:=L j m;omega) So
     rw[Ka] at Tg;have y:=Z7 (listed:=listed) (λj O m R=>b.closed j O m R) ops.toList [] [] Ψ rfl Ψ i o d I j Tg;have:j∈Th ops.size listed:=by rw[q];simp[m]
     have:=getD_both (Ny.1 this).2;rw[y] at this;cases this
   obtain⟨s',z,S⟩:=JY h Qd D d (As0 (Axt h o) t k);refine S _ _ λn w' β' T=>H (b.set hi Cs) ?_ T ?_
   ·rw[A];rw[q] at e;simp at e ⊢;omega
   ·rw[A,List.filterMap_append];exact z
theorem QF(h:Dt N w0 X0 Y β s a w){G:KB}(Qd:Env P G w0 X0)(g:∀f args b,F f args=some b->Ej G P f args b)(q:P.follows .mixedOrders=true)(c:Abd C P ops=true){Q:Exit->Act->World->Prop}(l:Uf C P N F ops ops.toList s K=some r)(m:∀s' d w' β',K s'=some r->Dt N w0 X0 Y β' s' d w'->Q .normal d w'):wpAny P .any ops Q ops.size (Array.replicate ops.size false) a { w with drawn:=w.drawn+1 }:=by
 have hp:Th ops.size (Array.replicate ops.size false)=List.range ops.size:=by
  unfold Th;refine List.filter_eq_self.2 λi hi=>?_;have:=List.mem_range.1 hi;simp[this]
 refine Ae3 (C:=C) Qd g c m ops.size ⟨Ψ,λj v _ e=>(by rw[getD_replicate_false] at e;cases e),λt ht o=>Ω⟩ (by rw[hp];simp) h.drew ?_
 rw[hp]
 have:(List.range ops.size).filterMap (ops[·]?)=ops.toList:=by
  refine List.ext_getElem? λk=>?_
  have:∀(n:Nat),n<=ops.size->(List.range n).filterMap (ops[·]?)=ops.toList.take n:=by
   intro n
   induction n with
   |zero=>intro _;rfl
   |succ n p=>
    intro x;rw[List.range_succ,List.filterMap_append,p Ω,List.take_add_one]
    congr 1
    have:ops[n]?=some ops[n]:=Array.getElem?_eq_getElem Ω;simp[this]
  rw[this ops.size (Cg _)]
  congr 1
  exact Jo Ψ
 rw[this];exact l
theorem Ae7(h:Dt N w0 X0 Y β s a w){G:KB}(Qd:Env P G w0 X0)(g:∀f args b,F f args=some b->Ej G P f args b)(d:P.follows .mixedOrders=true)(c:Abd C P ops=true){id:Nat}{Q:Exit->Act->World->Prop}(i:Uf C P N F ops ops.toList s K=some r)(j:∀s' e w' β',K s'=some r->Dt N w0 X0 Y β' s' e w'->Q .normal e w'):(Code.region id ops true).wp P Q a w:=
 wp_region_any d (QF h Qd g d c i j)
end
end
section
open Go.RowKit
section
variable {R R':Type}{Rel:Option R->Option R'->Prop}{P:Program}{N:Nat}{tm tm':Nat->PV}{hp Dz:Nat->Option Cd}{o:Oper}
end
section
variable {R R':Type}{r:R}{r':R'}{C:J7}{P:Program}{N:Nat}{F:Ao}{ops:Array Oper}{o x:Oper}{s s1 s2:St}{K:St->Option R}
theorem CS{tm:Nat->PV}(h:Ke C P ops o tm=true):BP C P o.op=true:=by unfold Ke at h;simp only[Ge] at h;exact h.1
theorem KG(h:E5 C P N F ops x s K=some r):∃s1,E5 C P N F ops x s some=some s1/\Abz P x s s1/\(DX P x.op=true->s1.hp=s.hp)/\K s1=some r:=by
 cases d:Ke C P ops x s.tm
 ·rw[P9 d] at h ⊢;cases e:gE C P N F ops x s with
  |none=>rw[e] at h;cases h
  |some q=>
   rw[e] at h;obtain⟨c,g⟩:=Ay h;simp only[Ge] at c;refine⟨_,?_,⟨λt ht=>Wt ht,λi hi=>Ue c.2 hi,λf i hi=>?_⟩,λj=>?_,g⟩
   ·show Aw _ _=_;rw[c.1,c.2];rfl
   ·show A4 (Aj s.hp q.2.1) q.2.2 i=s.hp i;rw[Ix c.2 hi,((CU e).1 f).1];simp
   ·show A4 (Aj s.hp q.2.1) q.2.2=s.hp;obtain⟨g,k⟩:=Ap9 (.inl j) e;rw[g,k]
    funext i
    show Aj s.hp [] i=_;rw[Cj];simp
 ·rw[Uv d] at h ⊢
  exact WN (P:=P) (N:=N) (o:=x) (tm:=s.tm) (tm':=s.tm) (hp:=s.hp) (K':=some) (Rel:=λ(a:Option R) (b:Option St)=>a=some r->∃s1,b=some s1/\Abz P x s s1/\(DX P x.op=true->s1.hp=s.hp)/\K s1=some r) (λh=>by cases h) (λ_ _=>rfl) (λv Ee l h=>⟨_,rfl,⟨λt ht=>Wt ht,l,λf=>(by
   rw[NR (CS d)] at f;cases f)⟩,λj=>(by
   have:=CS d;rw[Px j] at this;cases this),h⟩) h
theorem Ab4{K':St->Option R'}(h:E5 C P N F ops x s some=some s1)(c:K' s1=some r'):E5 C P N F ops x s K'=some r':=by
 cases d:Ke C P ops x s.tm
 ·rw[P9 d] at h ⊢;cases e:gE C P N F ops x s with
  |none=>rw[e] at h;cases h
  |some q=>
   rw[e] at h;obtain⟨f,g⟩:=Ay h;show Aw _ _=_;rw[f];cases g;exact c
 ·rw[Uv d] at h ⊢;exact WN (P:=P) (N:=N) (o:=x) (tm:=s.tm) (tm':=s.tm) (hp:=s.hp) (K:=some) (Rel:=λ(a:Option St) (b:Option R')=>a=some s1->b=some r') (λh=>by cases h) (λ_ _=>rfl) (λv Ee i h=>by cases h;exact c) h
theorem Afx(d:BP C P o.op=true){i:Nat}(h:Rch o s.tm s.hp i):i∈Se C P s o:=by
 unfold Se;rw[d];cases e:SU o.op
 ·simp only[Gg,Bool.and_self,cond_true,B2];rcases h with⟨y,a,hi⟩|⟨_,id,c,⟨y,a,hi⟩,f,p,hp,g⟩
  ·exact .inl (List.mem_flatMap.2 ⟨y,a,hi⟩)
  ·refine .inr (List.mem_flatMap.2 ⟨id,List.mem_flatMap.2 ⟨y,a,hi⟩,?_⟩);rw[f];exact List.mem_flatMap.2 ⟨p,hp,g⟩
 ·simp only[Es,Zzt,cond_false,Bool.or_true,cond_true];rcases h with⟨y,a,hi⟩|⟨b,_⟩
  ·exact List.mem_flatMap.2 ⟨y,a,hi⟩
  ·rw[e] at b;cases b
theorem Ad7(a:BP C P o.op=true\/DX P o.op=true){y:Operand}(b:y∈o.op.operands.toList){i:Nat}(h:i∈Ck (Cw s.tm y)):i∈Se C P s o:=by
 rcases a with c|a
 ·exact Afx c (.inl ⟨y,b,h⟩)
 ·unfold Se;rw[Px a,a];exact List.mem_flatMap.2 ⟨y,b,h⟩
theorem Aho(ht:∀t∈looks ops o,s1.tm t=s.tm t)(f:BP C P o.op=true->SU o.op=false->∀y∈o.op.operands.toList,∀i∈Ck (Cw s.tm y),s1.hp i=s.hp i):Se C P s1 o=Se C P s o:=by
 have g:=Jp (ops:=ops) (o:=o) ht
 have j:(o.op.operands.toList.flatMap λy=>Ck (Cw s1.tm y))=o.op.operands.toList.flatMap λy=>Ck (Cw s.tm y):=by
  have A6i:∀l:List Operand,(∀y∈l,Cw s1.tm y=Cw s.tm y)->(l.flatMap λy=>Ck (Cw s1.tm y))=l.flatMap λy=>Ck (Cw s.tm y):=by
   intro l
   induction l with
   |nil=>intro _;rfl
   |cons a l d=>intro h;simp only[L6];rw[h a Ψ,d λy b=>h y (by simp[b])]
  exact A6i _ g
 unfold Se;simp only[j];cases e:(BP C P o.op && !SU o.op)
 ·rfl
 ·simp only[cond_true];simp only[Ge,Bool.not_eq_true'] at e
  congr 1
  have A6i:∀l:B9,(∀i∈l,s1.hp i=s.hp i)->(l.flatMap λi=>match s1.hp i with|some (.st c)=>c.flatMap A3|_=>[])=l.flatMap λi=>match s.hp i with|some (.st c)=>c.flatMap A3|_=>[]:=by
   intro l
   induction l with
   |nil=>intro _;rfl
   |cons a l d=>intro h;simp only[L6];rw[h a Ψ,d λy b=>h y (by simp[b])]
  exact A6i _ λi hi=>by
   obtain⟨y,b,hi⟩:=List.mem_flatMap.1 hi;exact f e.1 e.2 y b i hi
theorem WQ{a b:B9}(h:Arq a b=true){i:Nat}(c:i∈a)(d:i∈b):False:=by have:=List.all_eq_true.1 h i c;have e:b.any (Nat.beq i)=true:=List.any_eq_true.2 ⟨i,d,Vr i⟩;rw[e] at this;cases this
theorem Asg{a b:B9}(h:Arq a b=true):Arq b a=true:=by
 refine List.all_eq_true.2 λi hi=>?_;cases c:a.any (Nat.beq i)
 ·rfl
 ·obtain⟨j,d,e⟩:=List.any_eq_true.1 c;rw[El e] at hi;exact (WQ h d hi).elim
theorem JG:Pk C P x o=Pk C P o x:=by unfold Pk;cases BP C P x.op<;>cases BP C P o.op<;>cases DX P x.op<;>cases DX P o.op<;>cases SU x.op<;>cases SU o.op<;>rfl
structure Rz(C:J7)(P:Program)(ops:Array Oper)(x o:Oper):Prop where
 xo:∀d,x.dst=some d->d ∉ looks ops o
 ne:∀d,x.dst=some d->o.dst≠some d
 ox:∀d,o.dst=some d->d ∉ looks ops x
 me:AR C P x o=false\/Pk C P x o=true
theorem Aqi(h:Axi C P ops x o=false):Rz C P ops x o:=by
 unfold Axi at h;simp only[Bool.or_eq_false_iff] at h;obtain⟨a,c⟩:=h;have f:=a;unfold Avn at a;simp only[Bool.or_eq_false_iff] at a
 have g:WJ C P ops x o=false\/AR C P x o=true:=by
  cases b:AR C P x o
  ·left;unfold WJ;unfold AR at b;simp only[Bool.or_eq_false_iff] at b ⊢;exact⟨⟨⟨a.1,a.2⟩,b.1⟩,b.2⟩
  ·exact .inr rfl
 refine⟨λd hd=>?_,λd hd e=>?_,λd hd=>?_,?_⟩
 ·have:=a.1;simp only[hd,Bool.or_eq_false_iff] at this;exact Z0 this.1
 ·have:=a.1;simp only[hd,e,Bool.or_eq_false_iff] at this;rw[Vr] at this;cases this.2
 ·have:=a.2;simp only[hd] at this;exact Z0 this
 ·cases b:AR C P x o
  ·exact .inl rfl
  ·rw[b] at c;right
   simpa using c
theorem Rz.apart(a:Rz C P ops x o)(h:AR C P x o=false):LJ C P ops x o:=by
 unfold AR at h;simp only[Bool.or_eq_false_iff,Bool.and_eq_false_iff] at h;refine⟨a.xo,a.ne,a.ox,λb=>?_,λb=>?_⟩
 ·rcases h.1 with h|h
  ·rw[b] at h;cases h
  ·exact h
 ·rcases h.2 with h|h
  ·rw[b] at h;cases h
  ·exact h
theorem Rz.same(b:Rz C P ops x o)(c:Abz P x s s1)(d:DX P x.op=true->s1.hp=s.hp)(a:BP C P o.op=true)(e:SU o.op=false){i:Nat}(hi:s.hp i≠none):s1.hp i=s.hp i:=by
 rcases b.me with h|h
 ·exact c.2.2 ((b.apart h).mo a) i hi
 ·unfold Pk at h;simp only[Zzt,Bool.or_false,Bool.or_eq_true,Ge] at h;rcases h with h|h
  ·have:=h.2;rw[Px (C:=C) (P:=P) this] at a;cases a
  ·rw[d h.2]
theorem Has.keepsS(h:Has C P o s)(f:Rz C P ops x o)(d:Abz P x s s1)(m:DX P x.op=true->s1.hp=s.hp):Has C P o s1:=by
 have b:∀y∈o.op.operands.toList,Cw s1.tm y=Cw s.tm y:=λy a=>Jp (ops:=ops) (o:=o) (λt ht=>d.1 t λhd=>f.xo t hd ht) y a;refine⟨λy a i hi=>?_,λg j y a i hi c l p hp k e=>?_⟩
 ·rw[b y a] at hi;exact d.2.1 i (h.1 y a i hi)
 ·rw[b y a] at hi;rw[f.same d m g j (h.1 y a i hi)] at l;exact d.2.1 k (h.2 g j y a i hi c l p hp k e)
theorem Rz.symm(a:Rz C P ops x o):Rz C P ops o x:=by
 refine⟨a.ox,λd hd b=>a.ne d b hd,a.xo,?_⟩;rcases a.me with h|h
 ·left;unfold AR at h ⊢;rw[Bool.or_comm];exact h
 ·right;rw[JG];exact h
theorem Bav(n:Has C P o s)(j:Pk C P x o=true->∀i∈Se C P s x,s.hp i≠none)(d:Rz C P ops x o)(hd:Pk C P x o=true->Arq (Se C P s x) (Se C P s o)=true)(h:E5 C P N F ops x s (λs1=>E5 C P N F ops o s1 K)=some r):E5 C P N F ops o s (λs1=>E5 C P N F ops x s1 K)=some r:=by
 rcases d.me with a|a
 ·exact Bea n (d.apart a) h
 ·have hd:=hd a;have j:=j a;cases g:Ke C P ops x s.tm
  ·cases f:Ke C P ops o s.tm
   ·exact Ap6 n d.xo d.ne d.ox g f h
   ·have c:=CS f
    have p:Aas P ops x s.tm:=by
     cases k:DX P x.op
     ·right
      have e:BP C P x.op=true:=by
       unfold Pk at a;simp only[k,Zzt,Bool.or_false,Bool.or_eq_true,Ge] at a;exact a.1
      cases l:J5 ops x s.tm with
      |none=>
       exfalso;rw[P9 g] at h;unfold gE at h;rw[l] at h;cases h
      |some b=>
       cases b
       ·rfl
       ·unfold Ke at g;rw[e,l] at g;cases g
     ·exact .inl k
    refine A10 d.xo d.ne d.ox p (λy q i hi v=>?_) f h;refine WQ hd (Ad7 ?_ q hi) (Afx c v);unfold Pk at a;simp only[Bool.or_eq_true,Ge] at a;rcases a with a|a
    ·exact .inl a.1
    ·exact .inr a.2
  ·have e:=CS g;cases f:Ke C P ops o s.tm
   ·have w:Aas P ops o s.tm:=by
     cases k:DX P o.op
     ·right
      have c:BP C P o.op=true:=by
       unfold Pk at a;simp only[k,Zzt,Bool.false_or,Bool.or_eq_true,Ge] at a;exact a.1
      cases l:J5 ops o s.tm with
      |none=>
       exfalso;obtain⟨s1,_,z,_,h⟩:=KG h;have m:J5 ops o s1.tm=none:=by rw[Qe (λt ht=>z.1 t λhd=>d.xo t hd ht)];exact l
       rw[P9 (by unfold Ke;rw[m];cases BP C P o.op<;>rfl)] at h
       unfold gE at h;rw[m] at h;cases h
      |some b=>
       cases b
       ·rfl
       ·unfold Ke at f;rw[c,l] at f;cases f
     ·exact .inl k
    refine A1t n d.xo d.ne d.ox w (λy q i hi v=>?_) g h;refine WQ hd (Afx e v) (Ad7 ?_ q hi);unfold Pk at a;simp only[Bool.or_eq_true,Ge] at a;rcases a with a|a
    ·exact .inr a.2
    ·exact .inl a.1
   ·have c:=CS f;unfold Pk at a;simp only[Bool.or_eq_true,Ge] at a;rcases a with a|a
    ·rw[Px (C:=C) (P:=P) a.2] at c;cases c
    ·rw[Px (C:=C) (P:=P) a.2] at e;cases e
theorem Avf{α:Type}(a b:α)(l:List α)(f:α->Bool):(a::b::l).all f=(b::a::l).all f:=by simp only[List.all_cons];cases f a<;>cases f b<;>rfl
theorem SJ{bs:List B9}:∀(l:B9){dn a:List (Nat × Oper × B9)} {s:St}{K:St->Option R},(∀f,dn.all f=a.all f)->Lx C P N F ops bs dn l s K=Lx C P N F ops bs a l s K
 |[],_,_,_,_,_=>rfl
 |i::l,dn,a,s,K,h=>by
  unfold Lx;cases ops[i]? with
  |none=>rfl
  |some o=>
   simp only[Dj,h]
   congr 2
   funext b
   exact SJ l λf=>by simp only[List.all_cons,h]
theorem YJ{bs:B9}{i:Nat}(hi:ops[i]?=some o):(RT C P ops bs).getD i []=MM C P ops bs i o:=by unfold RT;rw[List.getD_eq_getElem?_getD,List.getElem?_map,List.getElem?_zipIdx,Array.getElem?_toList,hi];simp
theorem AE{bs:B9}{i j:Nat}:j∈MM C P ops bs i o↔∃x,ops[j]?=some x/\Pk C P x o=true/\(Nat.blt j i&&(bs.getD i 0).testBit j)=false/\(Nat.blt i j&&(bs.getD j 0).testBit i)=false:=by
 unfold MM;simp only[List.mem_map,List.mem_filter,Ge,Bool.not_eq_true',Prod.exists];constructor
 ·rintro⟨x,k,⟨d,⟨a,b⟩,c⟩,rfl⟩
  rw[List.mem_zipIdx_iff_getElem?] at d;exact⟨x,by simpa using d,a,b,c⟩
 ·rintro⟨x,e,a,b,c⟩
  refine⟨x,j,⟨?_,⟨a,b⟩,c⟩,rfl⟩;rw[List.mem_zipIdx_iff_getElem?]
  simpa using e
theorem TX{a:List B9}{i j:Nat}(h:j∈a.getD i []):TO C P a s i o=Se C P s o:=by
 unfold TO;split
 ·rename_i e;rw[e] at h;simp at h
 ·rfl
theorem At4{a:List B9}{i:Nat}(h:a.getD i []≠[]->Se C P s1 o=Se C P s o):TO C P a s1 i o=TO C P a s i o:=by
 unfold TO;split
 ·rfl
 ·rename_i e;exact h (by rw[e];simp)
theorem Ape{l:B9}{j:Nat}:l.any (Nat.beq j)=true↔j∈l:=by
 constructor
 ·intro h;obtain⟨k,a,e⟩:=List.any_eq_true.1 h;rw[El e];exact a
 ·intro h;exact List.any_eq_true.2 ⟨j,h,Vr j⟩
theorem LV{bs:B9}{a:List B9}(d:a=RT C P ops bs){i:Nat}(hi:ops[i]?=some o){w:B9}:∀(l:B9){dn:List (Nat × Oper × B9)} {s:St}{K:St->Option R},Has C P o s ->
  (∀j∈l,j<i/\(bs.getD i 0).testBit j=false/\∀x,ops[j]?=some x->Rz C P ops x o)->Lx C P N F ops a dn (l++i::w) s K=some r ->
  dn.all (Aan C P a s i o)=true/\E5 C P N F ops o s (λs1=>Lx C P N F ops a ((i,o,TO C P a s i o)::dn) (l++w) s1 K)=some r
 |[],dn,s,K,H,_,h=>by
  simp only[Zzq] at h ⊢;unfold Lx at h;rw[hi] at h;simp only[Dj] at h;obtain⟨p,h⟩:=Ay h;simp only[Ge] at p;exact⟨p.1,h⟩
 |j::l,dn,s,K,H,U,h=>by
  simp only[Zzp] at h ⊢;unfold Lx at h;obtain⟨Y,Tg,J⟩:=U j Ψ;cases m:ops[j]? with
  |none=>rw[m] at h;cases h
  |some x=>
   rw[m] at h;simp only[Dj] at h;obtain⟨p,h⟩:=Ay h;simp only[Ge] at p;have v:=J x m
   have n:∀k∈TO C P a s j x,s.hp k≠none:=λk c=>by
    have:=List.all_eq_true.1 p.2 k c;intro e;rw[e] at this;cases this
   obtain⟨s1,Z,Ft,WV,h1⟩:=KG h;obtain⟨L,V⟩:=LV d hi l (H.keepsS v Ft WV) (λk c=>U k (by simp[c])) h1;have Bg6:Se C P s1 o=Se C P s o:=Aho (ops:=ops) (λt ht=>Ft.1 t λhd=>v.xo t hd ht) λI M y O k c=>v.same Ft WV I M (H.1 y O k c);have ZL:TO C P a s1 i o=TO C P a s i o:=At4 λ_=>Bg6;rw[List.all_cons,Ge] at L
   have Bci:Nat.blt i j=false:=by
    cases Q:Nat.blt i j
    ·rfl
    ·have:=Zy Q;omega
   have z:Pk C P x o=true->j∈a.getD i []:=λb=>by
    rw[d,YJ hi];exact AE.2 ⟨x,m,b,by rw[Tg,Zzt],by rw[Bci,NT]⟩
   have A:Pk C P x o=true->i∈a.getD j []:=λb=>by
    rw[d,YJ m];exact AE.2 ⟨o,hi,by rw[JG];exact b,by rw[Bci,NT],by rw[Tg,Zzt]⟩
   have A48:Pk C P x o=true->Arq (TO C P a s j x) (TO C P a s i o)=true:=by
    intro b;have:=L.1;unfold Aan at this;rw[Ape.2 (z b),ZL] at this
    simpa using this
   have S:∀q,Aan C P a s1 i o q=Aan C P a s i o q:=λq=>by unfold Aan;rw[ZL]
   have R0:dn.all (Aan C P a s i o)=true:=by
    refine List.all_eq_true.2 λq D=>?_;rw[<-S];exact List.all_eq_true.1 L.2 q D
   refine⟨R0,?_⟩;rw[ZL] at V
   have h3:=Bav H (λb k c=>n k (by rw[TX (A b)];exact c)) v (λb=>by have:=A48 b;rw[TX (A b),TX (z b)] at this;exact this)
    (Ab4 (K':=λs1=>E5 C P N F ops o s1 (λs2=>Lx C P N F ops a ((i,o,TO C P a s i o)::(j,x,TO C P a s j x)::dn) (l++w) s2 K)) Z V)
   obtain⟨s2,e2,T,Tn,h4⟩:=KG h3;refine Ab4 e2 ?_
   have g:TO C P a s2 j x=TO C P a s j x:=At4 λF1=>by
    obtain⟨q,D⟩:=List.exists_mem_of_ne_nil _ F1;refine Aho (ops:=ops) (λt ht=>T.1 t λhd=>v.ox t hd ht) λI M y O k c=>v.symm.same T Tn I M (n k ?_);rw[TX D];exact Ad7 (.inl I) O c
   unfold Lx;rw[m];simp only[Dj]
   have hc:(((i,o,TO C P a s i o)::dn).all (Aan C P a s2 j x)&&(TO C P a s2 j x).all λk=>(s2.hp k).isSome)=true:=by
    simp only[List.all_cons,Ge];refine⟨⟨?_,?_⟩,?_⟩
    ·unfold Aan;simp only[g];cases b:(a.getD j []).any (Nat.beq i)
     ·rfl
     ·have W:=Ape.1 b;rw[d,YJ m] at W;obtain⟨o',E,G,_⟩:=AE.1 W;rw[hi] at E;cases E;rw[JG] at G;rw[Asg (A48 G)];rfl
    ·refine List.all_eq_true.2 λq D=>?_;have:=List.all_eq_true.1 p.1 q D;unfold Aan at this ⊢;rw[g];exact this
    ·rw[g];refine List.all_eq_true.2 λk c=>?_;have:=T.2.1 k (n k c);cases Q:s2.hp k with
     |none=>exact absurd Q this
     |some _=>rfl
   rw[hc,g];show E5 C P N F ops x s2 _=some r
   have:(λX=>Lx C P N F ops a ((j,x,TO C P a s j x)::(i,o,TO C P a s i o)::dn) (l++w) X K)=λs2=>Lx C P N F ops a ((i,o,TO C P a s i o)::(j,x,TO C P a s j x)::dn) (l++w) s2 K:=by
    funext X
    exact SJ _ λf=>Avf _ _ _ f
   rw[this];exact h4
end
section
variable {R:Type}{r:R}{P:Program}{N:Nat}{w0:World}{X0:Lu}{Y:Nat->Prop}{β β':Bt}{s:St}{a:Act}{w w':World}{o:Oper}{ops:Array Oper}{C:J7}{F:Ao}{K:St->Option R}
theorem IB{bs:B9}:∀(l:List Oper)(n:Nat),NA C P ops bs l n=true->∀(k:Nat) o,l[k]?=some o->∀(j:Nat) x,ops[j]?=some x->j<n+k->Axi C P ops x o=true->(bs.getD (n+k) 0).testBit j=true
 |[],_,_,k,o,a,_,_,_,_,_=>by simp at a
 |d::l,n,h,k,o,a,j,x,c,e,So=>by
  simp only[NA,Ge] at h;cases k with
  |zero=>
   simp at a;subst a
   have:=List.all_eq_true.1 h.1 (x,j) (by
    rw[List.mem_zipIdx_iff_getElem?]
    simpa using c)
   simp only[So,Es,Bool.or_false,Bool.or_eq_true,Bool.not_eq_true'] at this;rcases this with b|b
   ·have:Nat.blt j n=true:=Nat.ble_eq_true_of_le Ω;rw[this] at b;cases b
   ·exact b
  |succ k=>
   have:=IB l (n+1) h.2 k o (by simpa using a) j x c Ω So
   rwa [show n+(k+1)=n+1+k by omega]
theorem Afi{G:KB}(Qd:Env P G w0 X0)(I:∀f args k,F f args=some k->Ej G P f args k)(d:XD C P ops=true){Q:Exit->Act->World->Prop}(J:∀s' p w' β',K s'=some r->Dt N w0 X0 Y β' s' p w'->Q .normal p w'):
  ∀(fuel:Nat) {dn:List (Nat × Oper × B9)} {listed:Array Bool} {s:St} {a:Act} {w:World} {β:Bt},HeadInv .any ops ops.size listed->(Th ops.size listed).length=fuel->Dt N w0 X0 Y β s a w->Lx C P N F ops (RT C P ops (Mo ops.toList [])) dn (Th ops.size listed) s K=some r->wpAny P .any ops Q fuel listed a w:=by
 unfold XD at d;simp only[Ge] at d;obtain⟨Axd,A5y⟩:=d;intro fuel
 induction fuel with
 |zero=>
  intro dn listed s a w β b g h m;have hp:=List.eq_nil_of_length_eq_zero g;rw[hp] at m;refine⟨?_,J s a w β m h⟩;cases q:Region.ready .any ops listed with
  |nil=>rfl
  |cons i l=>
   exfalso;have hi:i∈Region.ready .any ops listed:=by rw[q];simp
   obtain⟨Oo,o,e,_⟩:=mem_ready.1 hi;have:i∈Th ops.size listed:=Ny.2 ⟨(Array.getElem?_eq_some_iff.1 e).1,Oo⟩;rw[hp] at this;simp at this
 |succ fuel L=>
  intro dn listed s a w β b g h m;refine⟨λq=>?_,λi hi=>?_⟩
  ·rw[Acf Axd b q] at g;cases g
  ·obtain⟨Oo,o,e,M⟩:=mem_ready.1 hi;have Cs:i<ops.size:=(Array.getElem?_eq_some_iff.1 e).1;obtain⟨t,U,v,E,H⟩:=KE (Ny.2 ⟨Cs,Oo⟩) b.size;rw[v] at m
   have n:∀j∈t,((Mo ops.toList []).getD i 0).testBit j=false:=by
    intro j c;cases Tg:((Mo ops.toList []).getD i 0).testBit j with
    |false=>rfl
    |true=>
     exfalso;have y:=Z7 (listed:=listed) (λj O c R=>b.closed j O c R) ops.toList [] [] Ψ rfl Ψ i o e M j Tg;have:j∈Th ops.size listed:=by rw[v];simp[c]
     have:=getD_both (Ny.1 this).2;rw[y] at this;cases this
   have z:∀j∈t,j<i/\((Mo ops.toList []).getD i 0).testBit j=false/\∀x,ops[j]?=some x->Rz C P ops x o:=by
    intro j c;refine⟨H j c,n j c,λx A=>Aqi ?_⟩;cases So:Axi C P ops x o with
    |false=>rfl
    |true=>
     exfalso;have Tg:=IB ops.toList 0 A5y i o (by simpa using e) j x A (by have:=H j c;omega) So
     rw[Ka,n j c] at Tg;cases Tg
   obtain⟨s',D,S⟩:=JY h Qd I e (LV rfl e t (Axt h o) z m).2;refine S _ _ λp w' β' T=>L (dn:=(i,o,TO C P (RT C P ops (Mo ops.toList [])) s i o)::dn) (b.set hi Cs) ?_ T ?_
   ·rw[E];rw[v] at g;simp at g ⊢;omega
   ·rw[E];exact D
theorem TK(h:Dt N w0 X0 Y β s a w){G:KB}(Qd:Env P G w0 X0)(g:∀f args b,F f args=some b->Ej G P f args b)(n:P.follows .mixedOrders=true)(c:XD C P ops=true){Q:Exit->Act->World->Prop}(k:Lx C P N F ops (RT C P ops (Mo ops.toList [])) [] (List.range ops.size) s K=some r)(l:∀s' d w' β',K s'=some r->Dt N w0 X0 Y β' s' d w'->Q .normal d w'):wpAny P .any ops Q ops.size (Array.replicate ops.size false) a { w with drawn:=w.drawn+1 }:=by
 have hp:Th ops.size (Array.replicate ops.size false)=List.range ops.size:=by
  unfold Th;refine List.filter_eq_self.2 λi hi=>?_;have:=List.mem_range.1 hi;simp[this]
 refine Afi (C:=C) (dn:=[]) Qd g c l ops.size ⟨Ψ,λj o _ e=>(by rw[getD_replicate_false] at e;cases e),λt ht m=>Ω⟩ (by rw[hp];simp) h.drew ?_
 rw[hp];exact k
theorem Ag8(h:Dt N w0 X0 Y β s a w){G:KB}(Qd:Env P G w0 X0)(g:∀f args b,F f args=some b->Ej G P f args b)(d:P.follows .mixedOrders=true)(c:XD C P ops=true){id:Nat}{Q:Exit->Act->World->Prop}(i:Lx C P N F ops (RT C P ops (Mo ops.toList [])) [] (List.range ops.size) s K=some r)(j:∀s' e w' β',K s'=some r->Dt N w0 X0 Y β' s' e w'->Q .normal e w'):(Code.region id ops true).wp P Q a w:=
 wp_region_any d (TK h Qd g d c i j)
end
open Go.RowKit
section
variable {R:Type}{r:R}{N:Nat}{w0:World}{X0:Lu}{Y:Nat->Prop}{β β':Bt}{s:St}{a:Act}{w w':World}
theorem Aur{i:Nat}(hi:i<a.tmps.size):a.put (some i) (a.tmps.getD i undef)=a:=by
 obtain⟨tmps,dfr⟩:=a;change i<tmps.size at hi
 have:tmps.setIfInBounds i (tmps.getD i undef)=tmps:=by
  apply Array.ext_getElem?;intro k;by_cases e:i=k
  ·subst e;simp[hi]
  ·rw[Array.getElem?_setIfInBounds_ne e]
 simp only[Act.put,this]
theorem Ap7{A:Nat->Prop}{es:Nat}{v:Value}(h:A9 w A (.lst true es 0 []) v):v=.slice none 0 0:=by cases h;rfl
theorem Aps{id:Nat}(e:s.hp id=none){v:PV}{val:Value}(f:F9 w (Ec (A4 s.hp [(id,.ar false [])]) (Dm β id none) Y) (Dm β id none) v val)(g:∀i∈Ck v,s.hp i≠none\/i=id):
  Abu Y β s w v [(id,.ar false [])] val w (Dm β id none):=by
 refine⟨rfl,rfl,rfl,Cy.refl _ _,λj b=>At _ _ (by rintro rfl;exact b e),?_,?_,?_,?_,?_,f,?_⟩
 ·intro j c a;simp at a;rw[a.2];trivial
 ·intro j c a;simp at a;obtain⟨rfl,rfl⟩:=a;exact .inl ⟨Az _ _ _,rfl⟩
 ·intro j c k q a d;simp at a;obtain⟨rfl,rfl⟩:=a;rw[Az] at d;cases d
 ·intro j c m l k q n a My _ _;simp at a My;rw[a.1,My.1]
 ·intro j cells a;simp at a
 ·intro j b;rcases g j b with h|rfl
  ·exact .inl h
  ·exact .inr ⟨.ar false [],Ψ⟩
theorem Aam(h:Dt N w0 X0 Y β s a w)(i:Nat):∃β',Dt N w0 X0 Y β' (UD N s i) a w:=by
 unfold UD;split
 ·rename_i es ht
  have Cs:i<N:=by
   rcases Jt i N with e|e
   ·exact e
   ·rw[h.tmo i e] at ht;cases ht
  have b:=h.tms i Cs;rw[ht] at b;have b:=Ap7 b;have hd:I5 N (some i)=true:=by simp[I5,Nat.blt];omega
  have g:∀j,s.hp j=none->∃β',Dt N w0 X0 Y β' ⟨Dm s.tm i (.view j es 0 0),Dm s.hp j (some (.ar false []))⟩ a w:=by
   intro j c;have:=h.stepR (d:=some i) hd (by simp[Ch,c]) (Aps (v:=.view j es 0 0) (val:=.slice none 0 0) c (.inl ⟨Az _ _ _,rfl,rfl,none,rfl⟩) (by simp[Ck,C8,A3]));rw[<-b,Aur (by rw[h.tsz];exact Cs)] at this
   exact⟨_,this⟩
  cases c:(s.hp i).isNone
  ·cases f:(s.hp (i+N*3000)).isNone
   ·exact⟨β,h⟩
   ·exact g _ (by simpa using f)
  ·exact g _ (by simpa using c)
 ·exact⟨β,h⟩
theorem Dt.recell(h:Dt N w0 X0 Y β s a w){id:Nat}{c c':Ae}(l:s.hp id=some (.st c))(g:c'.length=c.length)(z:∀(j:Nat) p,c'[j]?=some p->∃q,c[j]?=some q/\(∀v,Cp w (Ec s.hp β Y) β q v->Cp w (Ec s.hp β Y) β p v)/\∀i∈A3 p,s.hp i≠none):
  Dt N w0 X0 Y β ⟨s.tm,Dm s.hp id (some (.st c'))⟩ a w:=by
 have Jf:∀i,Eb (Dm s.hp id (some (.st c')) i)↔Eb (s.hp i):=by
  intro i;by_cases e:i=id
  ·subst e;rw[Az,l];exact Iff.rfl
  ·rw[At _ _ e]
 have r:Xof (Dm s.hp id (some (.st c'))) β=Xof s.hp β:=by
  funext b
  apply propext;constructor
  ·rintro⟨i,o,g,d⟩;exact⟨i,o,(Jf i).1 g,d⟩
  ·rintro⟨i,o,g,d⟩;exact⟨i,o,(Jf i).2 g,d⟩
 have A:Ec (Dm s.hp id (some (.st c'))) β Y=Ec s.hp β Y:=by
  funext b;unfold Ec;rw[r]
 have n:∀i,s.hp i≠none->Dm s.hp id (some (.st c')) i≠none:=by
  intro i hi;by_cases e:i=id
  ·subst e;rw[Az];simp
  ·rw[At _ _ e];exact hi
 have A6l:∀i,Dm s.hp id (some (.st c')) i≠none->s.hp i≠none:=by
  intro i hi;by_cases e:i=id
  ·subst e;rw[l];simp
  ·rw[At _ _ e] at hi;exact hi
 refine⟨h.dfr,h.tsz,h.tmo,?_,?_,?_,?_,?_,?_,?_,?_,λi hi=>⟨n _ (h.pin i hi).1,(h.pin i hi).2⟩,?_,?_,h.Ylt,h.fr⟩
 ·intro i hi;show F9 w (Ec (Dm s.hp id _) β Y) β _ _;rw[A];exact h.tms i hi
 ·intro i b d;show Z8 w (Ec (Dm s.hp id _) β Y) β i b;rw[A];by_cases e:i=id
  ·subst e;change Dm s.hp i (some (.st c')) i=some b at d;rw[Az] at d;cases d;obtain⟨b,o,E,G,H⟩:=h.box i _ l;refine⟨b,o,E,λj p f=>?_,λj f=>H j (by rw[<-g];exact f)⟩
   obtain⟨q,I,t,_⟩:=z j p f;obtain⟨v,J,x⟩:=G j q I;exact⟨v,J,t v x⟩
  ·change Dm s.hp id (some (.st c')) i=some b at d;rw[At _ _ e] at d;exact h.box i b d
 ·intro i C b o K g Pq d L;exact h.inj i C b o K ((Jf i).1 g) ((Jf C).1 Pq) d L
 ·intro i b o M d;exact h.blt i b o (A6l i M) d
 ·intro i hi j f;exact n j (h.wfT i hi j f)
 ·intro i cells d p hp j f;change Dm s.hp id (some (.st c')) i=_ at d;by_cases e:i=id
  ·subst e;rw[Az] at d;cases d;obtain⟨k,O⟩:=List.mem_iff_getElem?.1 hp;obtain⟨_,_,_,x⟩:=z k p O;exact n j (x j f)
  ·rw[At _ _ e] at d;exact n j (h.wfB i cells d p hp j f)
 ·intro b d;exact h.ownd b (by rw[<-r];exact d)
 ·intro i D b o d y m Cs j f;change Dm s.hp id (some (.st c')) i=some D at d;by_cases e:i=id
  ·subst e;rw[Az] at d;cases d;exact h.rngB i _ b o l trivial m Cs j (by unfold BR at f ⊢;simp only[g] at f;exact f)
  ·rw[At _ _ e] at d;exact h.rngB i D b o d y m Cs j f
 ·intro i c1 b o d m Cs;change Dm s.hp id (some (.st c')) i=_ at d;by_cases e:i=id
  ·subst e;exact h.stp i c b o l m Cs
  ·rw[At _ _ e] at d;exact h.stp i c1 b o d m Cs
 ·intro b P d;exact h.Yx b P (by rw[<-r];exact d)
theorem Aao(h:Dt N w0 X0 Y β s a w)(id j:Nat):∃β',Dt N w0 X0 Y β' (Afq N id s j) a w:=by
 unfold Afq;split
 ·rename_i c f;split
  ·rename_i es g;cases b:(s.hp (id+N*(j+1))).isNone
   ·exact⟨β,h⟩
   ·have b:s.hp (id+N*(j+1))=none:=by simpa using b
    have o:id≠id+N*(j+1):=by
     intro e;rw[<-e,f] at b;cases b
    have q:=h.stepR (d:=none) (v:=.top) (val:=undef) rfl (by simp[Ch,b]) (Aps b (.top _) (by simp[Ck,C8,A3]));change Dt N w0 X0 Y (Dm β (id+N*(j+1)) none) ⟨s.tm,Dm s.hp (id+N*(j+1)) (some (.ar false []))⟩ a w at q
    have l:=q.recell (id:=id) (c:=c) (c':=c.set j (.view (id+N*(j+1)) es 0 0)) (by show Dm _ _ _ _=_;rw[At _ _ o];exact f) Ψ (by
     intro k p hp;by_cases e:k=j
     ·subst e
      have Cs:k<c.length:=by
       rcases Jt k c.length with m|m
       ·exact m
       ·rw[List.getElem?_eq_none m] at g;cases g
      rw[List.getElem?_set_self Cs] at hp;cases hp;refine⟨_,g,λv n=>.inl ⟨Az _ _ _,rfl,rfl,none,Ap7 n⟩,λi hi=>?_⟩;simp[A3] at hi;subst hi;show Dm _ _ _ _≠none;rw[Az];simp
     ·rw[List.getElem?_set_ne (λh=>e h.symm)] at hp;refine⟨p,hp,λ_ n=>n,λi hi=>?_⟩;have:=h.wfB id c f p (List.mem_of_getElem? hp) i hi;show Dm _ _ _ _≠none;by_cases r:i=id+N*(j+1)
      ·subst r;rw[Az];simp
      ·rw[At _ _ r];exact this)
    refine⟨Dm β (id+N*(j+1)) none,?_⟩;have t:Dm (Dm s.hp (id+N*(j+1)) (some (.ar false []))) id (some (.st (c.set j (.view (id+N*(j+1)) es 0 0))))=Dm (Dm s.hp id (some (.st (c.set j (.view (id+N*(j+1)) es 0 0))))) (id+N*(j+1)) (some (.ar false [])):=Ah0 _ _ _ (λh=>o h.symm);change Dt N w0 X0 Y (Dm β (id+N*(j+1)) none) ⟨s.tm,Dm (Dm s.hp (id+N*(j+1)) (some (.ar false []))) id (some (.st (c.set j (.view (id+N*(j+1)) es 0 0))))⟩ a w at l;rw[t] at l;exact l
  ·exact⟨β,h⟩
 ·exact⟨β,h⟩
theorem We{f:St->Nat->St}(b:∀s β,Dt N w0 X0 Y β s a w->∀i,∃β',Dt N w0 X0 Y β' (f s i) a w):∀(l:B9){s:St}{β:Bt},Dt N w0 X0 Y β s a w->∃β',Dt N w0 X0 Y β' (l.foldl f s) a w
 |[],_,β,h=>⟨β,h⟩
 |i::l,s,β,h=>by
  obtain⟨β1,c⟩:=b s β h i;exact We b l c
theorem Aey(h:Dt N w0 X0 Y β s a w)(i:Nat):∃β',Dt N w0 X0 Y β' (Afs N s i) a w:=by
 unfold Afs;split
 ·split
  ·exact We (λs β h i=>Aao h _ i) _ h
  ·exact⟨β,h⟩
 ·exact⟨β,h⟩
theorem Adh:∀{m:List (Nat × Nat)},Fn (m.map (·.2))=true->∀{i b j:Nat},(i,j)∈m->(b,j)∈m->i=b
 |[],_,_,_,_,h,_=>by simp at h
 |(x,y)::m,c,i,b,j,h,a=>by
  simp only[CZ,Fn,Ge,Bool.not_eq_true'] at c
  have d:∀k,(k,y) ∉ m:=by
   intro k f;exact Z0 c.1 (List.mem_map.2 ⟨(k,y),f,rfl⟩)
  rcases List.mem_cons.1 h with e|h
  ·cases e;rcases List.mem_cons.1 a with e|a
   ·cases e;rfl
   ·exact absurd a (d _)
  ·rcases List.mem_cons.1 a with e|a
   ·cases e;exact absurd h (d _)
   ·exact Adh c.2 h a
theorem PZ:∀{m:List (Nat × Nat)},Fn (m.map (·.1))=true->∀{i j b:Nat},(i,j)∈m->(i,b)∈m->j=b
 |[],_,_,_,_,h,_=>by simp at h
 |(x,y)::m,c,i,j,b,h,a=>by
  simp only[CZ,Fn,Ge,Bool.not_eq_true'] at c
  have d:∀k,(x,k) ∉ m:=by
   intro k f;exact Z0 c.1 (List.mem_map.2 ⟨(x,k),f,rfl⟩)
  rcases List.mem_cons.1 h with e|h
  ·cases e;rcases List.mem_cons.1 a with e|a
   ·cases e;rfl
   ·exact absurd a (d _)
  ·rcases List.mem_cons.1 a with e|a
   ·cases e;exact absurd h (d _)
   ·exact PZ c.2 h a
theorem Sx{i j:Nat}(h:Nat.beq i j=false):i≠j:=by rintro rfl;rw[Vr] at h;cases h
theorem ML:∀{m:List (Nat × Nat)} {i j:Nat},HM m i=some j->(i,j)∈m
 |[],_,_,h=>by cases h
 |(x,y)::m,i,j,h=>by
  unfold HM at h;cases a:Nat.beq i x<;>rw[a] at h
  ·exact Yh _ (ML h)
  ·have:=El a;cases h;rw[this];simp
theorem PI{m:List (Nat × Nat)}{hp:Nat->Option Cd}:∀{l:List (Nat × Nat)} {j:Nat}{b:Cd},Fe (Sf m hp l) j=some b->∃i b0,(i,j)∈l/\hp i=some b0/\b=A2w m b0
 |[],_,_,h=>by cases h
 |(x,y)::l,j,b,h=>by
  unfold Sf at h;cases a:hp x with
  |none=>
   rw[a] at h;obtain⟨i,b0,c,d⟩:=PI h;exact⟨i,b0,Yh _ c,d⟩
  |some f=>
   rw[a] at h;simp only[Fe] at h;cases e:Nat.beq j y<;>rw[e] at h
   ·obtain⟨i,b0,c,d⟩:=PI h;exact⟨i,b0,Yh _ c,d⟩
   ·have:=El e;subst this;cases h;exact⟨x,f,Ψ,a,rfl⟩
theorem Tz{m:List (Nat × Nat)}{hp:Nat->Option Cd}:∀{l:List (Nat × Nat)} {i j:Nat},(i,j)∈l->hp i≠none->Fe (Sf m hp l) j≠none
 |[],_,_,h,_=>by simp at h
 |(x,y)::l,i,j,h,hi=>by
  unfold Sf;cases a:hp x with
  |none=>
   rcases List.mem_cons.1 h with e|h
   ·cases e;exact absurd a hi
   ·exact Tz h hi
  |some c=>
   simp only[Fe];cases b:Nat.beq j y
   ·rcases List.mem_cons.1 h with e|h
    ·cases e;exact absurd rfl (Sx b)
    ·exact Tz h hi
   ·simp
def lkr(m:List (Nat × Nat))(j:Nat):Option Nat:=
 match m with
 |[]=>none
 |(x,y)::r=>bif Nat.beq j y then some x else lkr r j
theorem Aob:∀{m:List (Nat × Nat)} {i j:Nat},lkr m j=some i->(i,j)∈m
 |[],_,_,h=>by cases h
 |(x,y)::m,i,j,h=>by
  unfold lkr at h;cases a:Nat.beq j y<;>rw[a] at h
  ·exact Yh _ (Aob h)
  ·have:=El a;cases h;rw[this];simp
theorem Ag2:∀{m:List (Nat × Nat)} {i j:Nat},(i,j)∈m->∃k,lkr m j=some k
 |[],_,_,h=>by simp at h
 |(x,y)::m,i,j,h=>by
  unfold lkr;cases a:Nat.beq j y
  ·rcases List.mem_cons.1 h with e|h
   ·cases e;exact absurd rfl (Sx a)
   ·exact Ag2 h
  ·exact⟨x,rfl⟩
theorem Adx{f:Nat->PV}:∀{l:B9}{i:Nat},lk (l.map λi=>(i,f i)) i=if i∈l then f i else .top
 |[],_=>rfl
 |x::l,i=>by
  simp only[CZ,lk];cases a:Nat.beq i x
  ·have:=Sx a;simp only[cond_false,Adx,List.mem_cons,this,false_or]
  ·have:=El a;subst this;simp
theorem Acl{m:Nat}:∀{n i:Nat},i∈Ry m n->i<n
 |0,_,h=>by simp[Ry] at h
 |n+1,i,h=>by
  simp only[Ry,B2] at h;rcases h with h|h
  ·have:=Acl h;omega
  ·cases a:m.testBit n<;>rw[a] at h
   ·simp at h
   ·simp at h;omega
theorem Ad2(h:Dt N w0 X0 Y β s a w){m:List (Nat × Nat)}(U:Fn (m.map (·.1))=true)(V:Fn (m.map (·.2))=true){ls:B9}(P:∀i∈ls,i<N)(I:∀i,X0.pn i->(En N i,En N i)∈m):
  ∃β',Dt N w0 X0 Y β' ⟨lk (ls.map λi=>(i,Aqt m (s.tm i))),Fe (Sf m s.hp m)⟩ a w:=by
 refine⟨λj=>(lkr m j).bind β,?_⟩
 have M:∀{i j:Nat},(i,j)∈m->(lkr m j).bind β=β i:=by
  intro i j l;obtain⟨k,g⟩:=Ag2 l;rw[g];have:=Adh V (Aob g) l;subst this;rfl
 have r:∀{j:Nat} {b:Cd},Fe (Sf m s.hp m) j=some b->∃i t,(i,j)∈m/\s.hp i=some t/\b=A2w m t/\(lkr m j).bind β=β i:=by
  intro j b f;obtain⟨i,t,l,A,D⟩:=PI f;exact⟨i,t,l,A,D,M l⟩
 have Jf:∀{j:Nat},Eb (Fe (Sf m s.hp m) j)->∃i,(i,j)∈m/\Eb (s.hp i)/\(lkr m j).bind β=β i:=by
  intro j H;cases f:Fe (Sf m s.hp m) j with
  |none=>rw[f] at H;exact H.elim
  |some b=>
   obtain⟨i,t,l,A,rfl,W⟩:=r f;refine⟨i,l,?_,W⟩;rw[f] at H;rw[A];cases t<;>exact H
 have Q:∀b,Xof (Fe (Sf m s.hp m)) (λj=>(lkr m j).bind β) b->Xof s.hp β b:=by
  rintro b ⟨j,o,H,f⟩
  obtain⟨i,_,Pq,e⟩:=Jf H;exact⟨i,o,Pq,by rw[<-e];exact f⟩
 have O:∀b,Ec (Fe (Sf m s.hp m)) (λj=>(lkr m j).bind β) Y b->Ec s.hp β Y b:=λb f=>f.imp (Q b) id
 have J:∀p v,Cp w (Ec s.hp β Y) β p v->Cp w (Ec (Fe (Sf m s.hp m)) (λj=>(lkr m j).bind β) Y) (λj=>(lkr m j).bind β) (Amd m p) v:=by
  intro p v hp;cases p with
  |view id es off n=>
   show Cp _ _ _ (match HM m id with|some j=>.view j es off n|none=>.top) v;cases d:HM m id with
   |some j=>
    have e:=M (ML d);rcases hp with⟨C,y⟩|⟨b,o,x,R,C,y⟩
    ·exact .inl ⟨by show (lkr m j).bind β=none;rw[e];exact C,y⟩
    ·exact .inr ⟨b,o,x,R,by show (lkr m j).bind β=_;rw[e];exact C,y⟩
   |none=>exact A9.top _
  |ptr id off=>
   show Cp _ _ _ (match HM m id with|some j=>.ptr j off|none=>.top) v;cases d:HM m id with
   |some j=>
    have e:=M (ML d);obtain⟨b,o,C,y⟩:=hp;exact⟨b,o,by show (lkr m j).bind β=_;rw[e];exact C,y⟩
   |none=>exact A9.top _
  |sc v=>exact A9.step (Cy.refl _ _) (λb _=>O b) hp
  |lst z es n c=>exact A9.step (Cy.refl _ _) (λb _=>O b) hp
  |iptr c off=>exact Cp.step (p:=.iptr c off) (Cy.refl _ _) (λb _=>O b) (by simp[A3]) hp
  |_=>exact A9.top _
 have X:∀p v,F9 w (Ec s.hp β Y) β p v->F9 w (Ec (Fe (Sf m s.hp m)) (λj=>(lkr m j).bind β) Y) (λj=>(lkr m j).bind β) (Aqt m p) v:=by
  intro p v hp;cases p with
  |agg c=>
   obtain⟨Z,C,y⟩:=hp;refine⟨Z,C,Bv.of_at (by simp;exact y.len) λi q u E hu=>?_⟩
   rw[List.getElem?_map] at E;cases K:c[i]? with
   |none=>rw[K] at E;cases E
   |some q0=>
    rw[K] at E;cases E;exact J _ _ (y.at_ K hu)
  |view id es off n=>
   have:=J (.view id es off n) v hp;change Cp _ _ _ (match HM m id with|some j=>.view j es off n|none=>.top) v at this;show F9 _ _ _ (match HM m id with|some j=>.view j es off n|none=>.top) v;cases d:HM m id<;>rw[d] at this<;>exact this
  |ptr id off=>
   have:=J (.ptr id off) v hp;change Cp _ _ _ (match HM m id with|some j=>.ptr j off|none=>.top) v at this;show F9 _ _ _ (match HM m id with|some j=>.ptr j off|none=>.top) v;cases d:HM m id<;>rw[d] at this<;>exact this
  |sc v'=>exact J (.sc v') v hp
  |lst z es n c=>exact J (.lst z es n c) v hp
  |iptr c off=>exact J (.iptr c off) v hp
  |_=>exact A9.top _
 have G:∀p i,i∈A3 (Amd m p)->∃k∈A3 p,(k,i)∈m:=by
  intro p i hi;cases p with
  |view id es off n=>
   change i∈A3 (match HM m id with|some j=>.view j es off n|none=>.top) at hi;cases d:HM m id<;>rw[d] at hi
   ·simp[A3] at hi
   ·simp[A3] at hi;subst hi;exact⟨id,by simp[A3],ML d⟩
  |ptr id off=>
   change i∈A3 (match HM m id with|some j=>.ptr j off|none=>.top) at hi;cases d:HM m id<;>rw[d] at hi
   ·simp[A3] at hi
   ·simp[A3] at hi;subst hi;exact⟨id,by simp[A3],ML d⟩
  |_=>simp[Amd,A3] at hi
 have S:∀p i,i∈Ck (Aqt m p)->∃k∈Ck p,(k,i)∈m:=by
  intro p i hi;cases p with
  |agg c=>
   simp only[Aqt,Ck,C8,List.mem_flatMap,List.mem_map] at hi;obtain⟨_,⟨q,E,rfl⟩,hi⟩:=hi;obtain⟨k,g,l⟩:=G q i hi;exact⟨k,by simp only[Ck,C8,List.mem_flatMap];exact⟨q,E,g⟩,l⟩
  |view id es off n=>
   refine (G (.view id es off n) i ?_).imp λk g=>g;change i∈Ck (match HM m id with|some j=>.view j es off n|none=>.top) at hi;show i∈A3 (match HM m id with|some j=>.view j es off n|none=>.top);cases d:HM m id<;>rw[d] at hi<;>exact hi
  |ptr id off=>
   refine (G (.ptr id off) i ?_).imp λk g=>g;change i∈Ck (match HM m id with|some j=>.ptr j off|none=>.top) at hi;show i∈A3 (match HM m id with|some j=>.ptr j off|none=>.top);cases d:HM m id<;>rw[d] at hi<;>exact hi
  |_=>simp[Aqt,Amd,Ck,C8,A3] at hi
 refine⟨h.dfr,h.tsz,?_,?_,?_,?_,?_,?_,?_,?_,?_,?_,?_,?_,h.Ylt,h.fr⟩
 ·intro i hi;show lk _ i=_;rw[Adx,Bb (λl=>by have:=P i l;omega)]
 ·intro i hi;show F9 w _ _ (lk _ i) _;rw[Adx];split
  ·exact X _ _ (h.tms i hi)
  ·exact A9.top _
 ·intro j b f;obtain⟨i,t,l,A,rfl,e⟩:=r f;have Rs:=h.box i t A;cases t with
  |st c=>
   obtain⟨b,o,C,y,e3⟩:=Rs;refine⟨b,o,by show (lkr m j).bind β=_;rw[e];exact C,λk p hp=>?_,λk g=>e3 k (by simpa using g)⟩
   rw[List.getElem?_map] at hp;cases K:c[k]? with
   |none=>rw[K] at hp;cases hp
   |some q=>
    rw[K] at hp;cases hp;obtain⟨v,hv,hr⟩:=y k q K;exact⟨v,hv,J _ _ hr⟩
  |ar fz c=>
   have:=Z8.step' O Rs;show Z8 _ _ _ _ (.ar fz c);rcases this with⟨C,y⟩|⟨b,o,C,y⟩
   ·exact .inl ⟨by show (lkr m j).bind β=_;rw[e];exact C,y⟩
   ·exact .inr ⟨b,o,by show (lkr m j).bind β=_;rw[e];exact C,y⟩
  |mv=>exact trivial
 ·intro j j' b o o' H Pq f K9;obtain⟨i,l,WV,e⟩:=Jf H;obtain⟨i',My,Bja,e'⟩:=Jf Pq;have:=h.inj i i' b o o' WV Bja (by rw[<-e];exact f) (by rw[<-e'];exact K9)
  subst this;exact PZ U l My
 ·intro j b o hn f;cases d:Fe (Sf m s.hp m) j with
  |none=>exact absurd d hn
  |some bx=>
   obtain⟨i,t,_,A,_,e⟩:=r d;exact h.blt i b o (by rw[A];simp) (by rw[<-e];exact f)
 ·intro i hi j d;change j∈Ck (lk _ i) at d;rw[Adx] at d;split at d
  ·obtain⟨k,g,l⟩:=S _ j d;exact Tz l (h.wfT i hi k g)
  ·simp[Ck,C8,A3] at d
 ·intro j cells f p hp k g;obtain⟨i,t,_,A,D,_⟩:=r f;cases t with
  |st c=>
   cases D;obtain⟨q,E,rfl⟩:=List.mem_map.1 hp;obtain⟨k',Rr,l⟩:=G q k g;exact Tz l (h.wfB i c A q E k' Rr)
  |ar fz c=>cases D
  |mv=>cases D
 ·intro b f;exact h.ownd b (Q b f)
 ·intro j bx b o f T L Cs k g;obtain⟨i,t,_,A,D,e⟩:=r f;subst D;refine h.rngB i t b o A ?_ (by rw[<-e];exact L) Cs k ?_
  ·cases t<;>exact T
  ·cases t with
   |st c=>simpa [BR,A2w] using g
   |ar fz c=>exact g
   |mv=>exact g
 ·intro i hi;exact⟨Tz (I i hi) (h.pin i hi).1,(M (I i hi)).trans (h.pin i hi).2⟩
 ·intro j c b o f L Cs;obtain⟨i,t,l,A,D,e⟩:=r f;cases t with
  |st c0=>
   obtain⟨k,rfl,g⟩:=h.stp i c0 b o A (by rw[<-e];exact L) Cs
   exact⟨k,PZ U l (I k g),g⟩
  |ar fz c0=>cases D
  |mv=>cases D
 ·intro b hY f;exact h.Yx b hY (Q b f)
theorem GB{m:List (Nat × Nat)}{q:Nat × Nat}{o n:Nat}(h:q∈m):q∈Abr m o n:=by
 unfold Abr;split
 ·exact h
 ·exact B2.2 (.inl h)
theorem Q2{q:Nat × Nat}{new:Nat}:∀{c:Ae}{j:Nat}{m:List (Nat × Nat)},q∈m->q∈AG N new c j m
 |[],_,_,h=>h
 |p::c,j,m,h=>by
  unfold AG;split
  ·rename_i e;cases e
  ·rename_i e;cases e;exact Q2 (GB h)
  ·rename_i e;cases e;exact Q2 h
theorem Aj8{q:Nat × Nat}{m:List (Nat × Nat)}{i:Nat}(h:q∈m):q∈TY N s m i:=by
 unfold TY;split
 ·exact GB h
 ·split
  ·exact h
  ·split
   ·exact Q2 (GB h)
   ·exact GB h
 ·exact Q2 h
 ·exact h
theorem MX{q:Nat × Nat}:∀{l:B9}{m:List (Nat × Nat)},q∈m->q∈l.foldl (TY N s) m
 |[],_,h=>h
 |_::l,_,h=>MX (l:=l) (Aj8 h)
theorem AW{q:Nat × Nat}{m:List (Nat × Nat)}(h:q∈m):∀k,q∈DP N s.hp k m
 |0=>h
 |k+1=>by
  unfold DP;split
  ·exact Q2 (AW h k)
  ·exact AW h k
theorem Abh:∀{k i:Nat},i<k->s.hp (En N i)≠none->(En N i,En N i)∈Ai5 N s.hp k
 |0,_,h,_=>Ω
 |k+1,i,h,a=>by
  unfold Ai5;by_cases e:i=k
  ·subst e
   have:(s.hp (En N i)).isSome=true:=by
    cases c:s.hp (En N i) with
    |none=>exact absurd c a
    |some b=>rfl
   rw[this];simp
  ·have:=Abh (k:=k) (i:=i) Ω a;cases (s.hp (En N k)).isSome
   ·exact this
   ·exact B2.2 (.inl this)
theorem QS(h:Dt N w0 X0 Y β s a w){L:Nat}{q:Bool}{K:St->Option R}(d:Apf N (Ry L N) q s K=some r):∃β' s',K s'=some r/\Dt N w0 X0 Y β' s' a w:=by
 unfold Apf at d;obtain⟨c,Ft⟩:=Ay d;simp only[Ge] at c
 obtain⟨β2,b⟩:∃β2,Dt N w0 X0 Y β2 (bif q then s else (Ry L N).foldl (Afs N) ((Ry L N).foldl (UD N) s)) a w:=by
  cases q
  ·obtain⟨β1,e⟩:=We (λs β h i=>Aam h i) (Ry L N) h;obtain⟨β2,b⟩:=We (λs β h i=>Aey h i) (Ry L N) e;exact⟨β2,b⟩
  ·exact⟨β,h⟩
 obtain⟨β3,f⟩:=Ad2 b c.1 c.2 (ls:=Ry L N) (λi hi=>Acl hi) (λi hi=>MX (AW (Abh (X0.p8 i hi) (b.pin i hi).1) 8));exact⟨β3,_,Ft,f⟩
theorem EI(h:Dt N w0 X0 Y β s a w){L:Nat}{K:St->Option R}(b:LF N L s K=some r):∃β' s',K s'=some r/\Dt N w0 X0 Y β' s' a w:=QS h b
theorem Aja(h:Dt N w0 X0 Y β s a w){L:Nat}{K:St->Option R}(b:Ao1 N L s K=some r):∃β' s',K s'=some r/\Dt N w0 X0 Y β' s' a w:=QS h b
end
open Go.RowKit
section
variable {R:Type}{r:R}{P:Program}{N:Nat}{w0:World}{X0:Lu}{Y:Nat->Prop}{C:J7}{F:Ao}
theorem Abq{n:Nat}{F:St->Option R}{s:St}(h:VR n F s=some r):F s=some r:=by
 unfold VR at h;split at h
 ·cases h
 ·exact h
theorem Ake{β:Bt}{s:St}{a:Act}{w:World}(h:Dt N w0 X0 Y β s a w){c:Operand}{g i:St->Option R}(e:Avb s c g i=some r):(a.eval c=.bool true/\g s=some r)\/(a.eval c=.bool false/\i s=some r):=by
 unfold Avb at e;split at e
 ·rename_i d;split at e
  ·rename_i b ht;have f:a.eval (.tmp d)=.bool b:=Cv h (x:=.tmp d) ht;cases b
   ·change i ⟨Dm s.tm d (.sc (.bool false)),s.hp⟩=some r at e;rw[MZ s.tm ht] at e;exact .inr ⟨f,e⟩
   ·change g ⟨Dm s.tm d (.sc (.bool true)),s.hp⟩=some r at e;rw[MZ s.tm ht] at e;exact .inl ⟨f,e⟩
  ·rename_i ht;have j:=D4 h (.tmp d);change F9 _ _ _ (s.tm d) _ at j;rw[ht] at j;have Nq:A9 w _ .ub (a.eval (.tmp d)):=j
   obtain⟨b,f⟩:∃b,a.eval (.tmp d)=.bool b:=by
    generalize a.eval (.tmp d)=x at Nq;cases Nq with
    |ub b=>exact⟨b,rfl⟩
   obtain⟨k,l⟩:=Ac9 e;cases b
   ·exact .inr ⟨f,l⟩
   ·exact .inl ⟨f,k⟩
  ·cases e
 ·exact .inl ⟨rfl,e⟩
 ·exact .inr ⟨rfl,e⟩
 ·cases e
theorem WB{c:Code}{Q:Exit->Act->World->Prop}{F:(St->Option R)->St->Option R}{nm:St->(St->Option R)->Option R}(SX:∀{β s a w} {K:St->Option R},Dt N w0 X0 Y β s a w->nm s K=some r->∃β' s',K s'=some r/\Dt N w0 X0 Y β' s' a w)(e:∀{β s a w} {K:St->Option R}{f:Act->World->Prop},Dt N w0 X0 Y β s a w->F K s=some r->(∀s' b w' β',K s'=some r->Dt N w0 X0 Y β' s' b w'->f b w')->c.wp P (Exit.then f Q) a w):
  ∀(n:Nat) {β s a w},Dt N w0 X0 Y β s a w->Axq F nm n s=some r->Code.rounds P c Q n a w
 |0,_,_,_,_,_,d=>by cases d
 |n+1,β,s,a,w,h,d=>by
  rw[rounds_succ];refine e h d λs' b w' β' Rr g=>?_;obtain⟨β1,s1,Ft,i⟩:=SX g Rr;exact WB SX e n i Ft
theorem Alu{G:KB}(Qd:Env P G w0 X0)(A:∀f args x,F f args=some x->Ej G P f args x)(E:P.follows .mixedOrders=true){u:Nat}:
  ∀(c:Code) {o:Nat} {p:Nat->Nat} {q:Nat} {m:St->Option R} {kx:Nat->St->Option R} {kr:St->Option R} {β:Bt} {s:St} {a:Act} {w:World} {Q:Exit->Act->World->Prop},Dt N w0 X0 Y β s a w ->
   Xu C P u N F c o p q m kx kr s=some r->(∀s' d w' β',m s'=some r->Dt N w0 X0 Y β' s' d w'->Q .normal d w') ->
   (∀id s' d w' β',kx id s'=some r->Dt N w0 X0 Y β' s' d w'->Q (.exit id) d w')->(∀s' d w' β',kr s'=some r->Dt N w0 X0 Y β' s' d w'->Q .ret d w')->c.wp P Q a w:=by
 intro c
 induction c with
 |skip=>intro o p q m kx kr β s a w Q h b g k l;exact wp_skip (g s a w β b h)
 |region id ops draw=>
  intro o p q m kx kr β s a w Q h b g k l;unfold Xu at b;cases draw
  ·simp only[Ah9,NT,cond_false] at b;exact Ae0 h Qd A b g
  ·simp only[Ah9,A5g,Zzm,cond_true] at b;cases z:Abd C P ops<;>rw[z] at b
   ·obtain⟨I,Ft⟩:=Ay (show Aw _ _=some r from b);exact Ag8 h Qd A E I Ft g
   ·exact Ae7 h Qd A E z b g
 |seq c1 c2 t n=>
  intro o p q m kx kr β s a w Q h b g k l;unfold Xu at b
  refine wp_seq (t h b (λs' d w' β' Rr i=>by
    cases v:Axg P c1 c2
    ·rw[v] at Rr;exact n i Rr g k l
    ·rw[v] at Rr;cases H:UB c1 c2
     ·rw[H] at Rr;obtain⟨β1,s1,Ft,y⟩:=EI i (show LF _ _ _ _=some r from Rr);exact n y (Abq Ft) g k l
     ·rw[H] at Rr;obtain⟨β1,s1,Ft,y⟩:=Aja i (show Ao1 _ _ _ _=some r from Rr);exact n y (Abq Ft) g k l) (λid s' d w' β' Rr i=>k id s' d w' β' Rr i) (λs' d w' β' Rr i=>l s' d w' β' Rr i))
 |cond c c1 c2 t n=>
  intro o p q m kx kr β s a w Q h b g k l;unfold Xu at b;rcases Ake h b with⟨v,Ft⟩|⟨v,Ft⟩
  ·exact wp_cond_true v (t h Ft g k l)
  ·exact wp_cond_false v (n h Ft g k l)
 |block id c D=>
  intro o p q m kx kr β s a w Q h b g k l;unfold Xu at b;refine wp_block (D h b (λs' d w' β' Rr i=>g s' d w' β' Rr i) (λj s' d w' β' Rr i=>?_) (λs' d w' β' Rr i=>l s' d w' β' Rr i));show (if j=id then _ else _);by_cases e:j=id
  ·subst e;rw[Bq rfl];rw[Vr] at Rr;exact g s' d w' β' Rr i
  ·rw[Bb e]
   have:Nat.beq j id=false:=by
    cases z:Nat.beq j id
    ·rfl
    ·exact absurd (El z) e
   rw[this] at Rr;exact k j s' d w' β' Rr i
 |loop c D=>
  intro o p q m kx kr β s a w Q h b g k l;unfold Xu at b;obtain⟨β1,s1,Ft,y⟩:=EI h b;refine wp_loop_rounds u (WB (λh b=>EI h b) (λh b J=>?_) u y Ft);exact D h b J (λid s' d w' β' Rr i=>k id s' d w' β' Rr i) (λs' d w' β' Rr i=>l s' d w' β' Rr i)
 |«exit» id=>intro o p q m kx kr β s a w Q h b g k l;exact wp_exit (k id s a w β b h)
 |ret=>intro o p q m kx kr β s a w Q h b g k l;exact wp_ret (l s a w β b h)
 |_=>intro o p q m kx kr β s a w Q h b g k l;cases b
end
open Go.RowKit
theorem Sv:∀{l:List (Nat × Cd)} {i:Nat}{b:Cd},Fe l i=some b->(i,b)∈l
 |[],_,_,h=>by cases h
 |(j,c)::l,i,b,h=>by
  unfold Fe at h;cases a:Nat.beq i j<;>rw[a] at h
  ·exact Yh _ (Sv h)
  ·have:=El a;cases h;rw[this];simp
theorem Ae4:∀{l:List (Nat × Cd)},(l.map (·.1)).Nodup->∀{i b},(i,b)∈l->Fe l i=some b
 |[],_,_,_,h=>by cases h
 |(j,c)::l,a,i,b,h=>by
  simp only[CZ,List.nodup_cons] at a;unfold Fe;rcases List.mem_cons.1 h with e|h
  ·cases e;simp only[Vr,cond_true]
  ·have:Nat.beq i j=false:=by
    cases d:Nat.beq i j
    ·rfl
    ·exact absurd (El d ▸ List.mem_map.2 ⟨_,h,rfl⟩) a.1
   simp only[this,cond_false];exact Ae4 a.2 h
section
variable {R:Type}{r:R}{P:Program}{N:Nat}{w0:World}{X0:Lu}{Y:Nat->Prop}{β β':Bt}{s:St}{a:Act}{w w':World}{A:Nat->Prop}
theorem Axp{id:Nat}{t:CT}{p:PV}{K:PV->List (Nat × Cd)->Option R}(a:Awt id t p K=some r):
  (∃c,K c []=some r/\HU c/\∀w A q u,I0 w A q p u->A9 w A c u)\/∃es n cc,p=.own es n cc/\K (.view id es 0 n) [(id,.ar false cc)]=some r:=by
 have tree:∀d,(QI d p λc=>K c [])=some r->∃c,K c []=some r/\HU c/\∀w A q u,I0 w A q p u->A9 w A c u:=by
  intro d a;obtain⟨c,a,f,VJ,g⟩:=Sy a;refine⟨c,a,f,λw A q u h=>(g w A (λ_=>none) u ?_).1⟩;cases p<;>first|exact h|exact VJ.elim
 unfold Awt at a;cases t with
 |sl es=>
  dsimp only at a;split at a
  ·rename_i b n c;cases e:Nat.beq b es<;>rw[e] at a
   ·cases a
   ·have:=El e;subst this;exact .inr ⟨_,_,_,rfl,a⟩
  ·exact .inl (tree (.sl es) a)
 |int k=>exact .inl (tree _ a)
 |bool=>exact .inl (tree _ a)
 |str=>exact .inl (tree _ a)
 |any=>exact .inl (tree _ a)
theorem Zd:∀{ts:List CT}{id:Nat}{ps:Ae}{K:Ae->List (Nat × Cd)->Option R},SD N id ts ps K=some r ->
  ∃cs bs,∃g:List (Nat × Nat),K cs bs=some r/\cs.length=ps.length/\ps.length=ts.length/\bs.map (·.1)=g.map (·.1)/\(∀q∈g,∀s∈g,q.2=s.2->q.1=s.1) /\
   (∀i d,(i,d)∈bs->∃c,d=.ar false c)/\(∀c∈cs,isF c)/\(∀c∈cs,∀i∈A3 c,∃d,(i,d)∈bs) /\
   ∀(w:World) (A:Nat->Prop) (own β':Bt) (l:Nat) (us:List Value),(∀q∈g,β' q.1=own (l+q.2))->Gu w A own l ps us->Bv (Cp w A β') cs us/\∀i d,(i,d)∈bs->Z8 w A β' i d
 |[],id,ps,K,o=>by
  obtain⟨rfl,o⟩:=Ey o;refine⟨[],[],[],o,rfl,rfl,rfl,Ψ,Ψ,Ψ,Ψ,λw A own β' l us _ h=>⟨?_,Ψ⟩⟩;cases us with
  |nil=>trivial
  |cons u us=>exact h.elim
 |t::ts,id,ps,K,o=>by
  unfold SD at o;obtain⟨p,S,TJ,Ft⟩:=Bx o;subst TJ;rcases Axp Ft with⟨c,C,P,T⟩|⟨es,n,cc,rfl,C⟩
  ·obtain⟨cs,bs,g,Rp,D,Tn,E,Pt,Gf,G,Jv,CJ⟩:=Zd C;refine⟨c::cs,bs,g.map (λq=>(q.1,q.2+1)),Rp,by simp[D],by simp[Tn],by rw[E];simp,?_,Gf,?_,?_,λw A own β' l us v j=>?_⟩
   ·intro q f s k e;obtain⟨x,JZ,rfl⟩:=List.mem_map.1 f;obtain⟨H,Og,rfl⟩:=List.mem_map.1 k;exact Pt x JZ H Og (by simp only at e;omega)
   ·intro y a;rcases List.mem_cons.1 a with rfl|a
    ·exact AD P
    ·exact G y a
   ·intro y a i hi;rcases List.mem_cons.1 a with rfl|a
    ·rw[Kw P] at hi;cases hi
    ·exact Jv y a i hi
   ·cases us with
    |nil=>exact j.elim
    |cons u us=>
     obtain⟨I,J⟩:=CJ w A own β' (l+1) us (λq f=>by rw[v _ (List.mem_map_of_mem f)];congr 1;simp only;omega) j.2
     exact⟨⟨Avy (T w A _ u j.1),I⟩,J⟩
  ·obtain⟨cs,bs,g,Rp,D,Tn,E,Pt,Gf,G,Jv,CJ⟩:=Zd C;refine⟨_::cs,(id,.ar false cc)::bs,(id,0)::g.map (λq=>(q.1,q.2+1)),Rp,by simp[D],by simp[Tn],by simp only[CZ,E];simp,?_,?_,?_,?_,λw A own β' l us v j=>?_⟩
   ·intro q f s k e;rcases List.mem_cons.1 f with rfl|f
    ·rcases List.mem_cons.1 k with rfl|k
     ·rfl
     ·obtain⟨x,JZ,rfl⟩:=List.mem_map.1 k;simp only at e;omega
    ·obtain⟨x,JZ,rfl⟩:=List.mem_map.1 f;rcases List.mem_cons.1 k with rfl|k
     ·simp only at e;omega
     ·obtain⟨H,Og,rfl⟩:=List.mem_map.1 k;exact Pt x JZ H Og (by simp only at e;omega)
   ·intro i d m;rcases List.mem_cons.1 m with e|m
    ·cases e;exact⟨cc,rfl⟩
    ·exact Gf i d m
   ·intro y a;rcases List.mem_cons.1 a with rfl|a
    ·trivial
    ·exact G y a
   ·intro y a i hi;rcases List.mem_cons.1 a with rfl|a
    ·simp only[A3,Xx] at hi;subst hi;exact⟨_,IQ⟩
    ·obtain⟨d,Rs⟩:=Jv y a i hi;exact⟨d,Yh _ Rs⟩
   ·cases us with
    |nil=>exact j.elim
    |cons u us=>
     obtain⟨I,J⟩:=CJ w A own β' (l+1) us (λq f=>by rw[v _ (Yh _ (List.mem_map_of_mem f))];congr 1;simp only;omega) j.2
     have z:=v (id,0) IQ;simp only[Zzr] at z;refine⟨⟨?_,I⟩,λi d m=>?_⟩
     ·rcases j.1 with⟨L,rfl,_,M⟩|⟨b,Q,O,L,U,M,V,W,_⟩
      ·exact .inl ⟨z.trans L,rfl,rfl,M⟩
      ·exact .inr ⟨b,Q,Q,O,z.trans L,U,.inl rfl,M,V,W⟩
     ·rcases List.mem_cons.1 m with e|m
      ·cases e;exact MQ j.1 z
      ·exact J i d m
theorem A1q{i:Nat}{t:TypeId}{p:PV}{K:PV->List (Nat × Cd)->Option R}(f:inK P N i t p K=some r):
  ∃v bs,∃l:List (Nat × Nat),K v bs=some r/\bs.map (·.1)=l.map (·.1)/\(∀q∈l,∀V∈l,q.2=V.2->q.1=V.1)/\(OH p=true->(En N i,0)∈l/\i<8) /\
   (∀id a,(id,a)∈bs->Eb (some a)/\∀c,a=.st c->id=En N i/\OH p=true)/\(∀id∈Ck v,∃a,(id,a)∈bs)/\PT bs /\
   ∀(w:World) (A:Nat->Prop) (bt β':Bt) (u:Value),(∀q∈l,β' q.1=bt q.2)->Alq w A bt p u->F9 w A β' v u/\(∀id a,(id,a)∈bs->Z8 w A β' id a) /\
    ∀id a b o,(id,a)∈bs->β' id=some (b,o)->∀j,BR a o j->A8y bt p b j:=by
 have owns:∀{bs:List (Nat × Cd)} {l:List (Nat × Nat)},bs.map (·.1)=l.map (·.1)->(∀i a,(i,a)∈bs->∃c,a=.ar false c)->∀{bt β':Bt},(∀q∈l,β' q.1=bt (1+q.2))->∀id a b o,(id,a)∈bs->β' id=some (b,o)->∀j,BR a o j->∃k x,bt (k+1)=some (b,x)/\x<=j:=by
  intro bs l y Gf bt β' D id a b o d W j z;have:id∈l.map (·.1):=by rw[<-y];exact List.mem_map.2 ⟨_,d,rfl⟩
  obtain⟨q,g,rfl⟩:=List.mem_map.1 this;obtain⟨c,rfl⟩:=Gf _ _ d;rw[D q g,Nat.add_comm] at W;exact⟨q.2,o,W,z⟩
 have nost:∀{bs:List (Nat × Cd)},(∀i a,(i,a)∈bs->∃c,a=.ar false c)->PT bs:=by
  intro bs Gf id cells d;obtain⟨c,e⟩:=Gf id _ d;cases e
 unfold inK at f;split at f
 ·rename_i e he;obtain⟨ps,rfl,Ft⟩:=Adg f;obtain⟨s,G4⟩:=Ay Ft;have s:i<8:=Nat.lt_of_succ_le (Zy s);obtain⟨cs,bs,l,Rp,hl,Tn,y,Pt,Gf,hF,Jv,J⟩:=Zd G4;refine⟨_,_,(En N i,0)::l.map (λq=>(q.1,q.2+1)),Rp,by simp only[CZ,y];simp,?_,λ_=>⟨IQ,s⟩,?_,?_,?_,λw A bt β' u D hp=>?_⟩
  ·intro q g V E e;rcases List.mem_cons.1 g with rfl|g
   ·rcases List.mem_cons.1 E with rfl|E
    ·rfl
    ·obtain⟨S,JZ,rfl⟩:=List.mem_map.1 E;simp only at e;omega
   ·obtain⟨S,JZ,rfl⟩:=List.mem_map.1 g;rcases List.mem_cons.1 E with rfl|E
    ·simp only at e;omega
    ·obtain⟨X,Og,rfl⟩:=List.mem_map.1 E;exact Pt S JZ X Og (by simp only at e;omega)
  ·intro id a d;rcases List.mem_cons.1 d with e|d
   ·cases e;exact⟨trivial,λ_ _=>⟨rfl,rfl⟩⟩
   ·obtain⟨c,rfl⟩:=Gf id a d;exact⟨trivial,λ_ e=>by cases e⟩
  ·intro id I;simp only[Ck,C8,A3,Xx] at I;subst I;exact⟨_,IQ⟩
  ·intro id cells d c hc k f;rcases List.mem_cons.1 d with e|d
   ·cases e;obtain⟨a,Rs⟩:=Jv c hc k f;exact⟨a,Yh _ Rs⟩
   ·obtain⟨c,e⟩:=Gf id _ d;cases e
  ·obtain⟨b,o,T,rfl,_,vs,L,h4,Y⟩:=hp;have G:=D (En N i,0) IQ;simp only at G;have m:∀q∈l,β' q.1=bt (1+q.2):=λq g=>by rw[D _ (Yh _ (List.mem_map_of_mem g)),Nat.add_comm]
   obtain⟨M,O⟩:=J w A bt β' 1 vs m L;refine⟨⟨b,o,G.trans T,Ψ⟩,λid a d=>?_,λid a U x d H j z=>?_⟩
   ·rcases List.mem_cons.1 d with e|d
    ·cases e;refine⟨b,o,G.trans T,λk c f=>?_,λk f=>Y k Ω⟩;obtain⟨v,J,hcr⟩:=M.get f;exact⟨v,h4 k v J,hcr⟩
    ·exact O id a d
   ·rcases List.mem_cons.1 d with e|d
    ·cases e;rw[G] at H;have z:x<=j/\j<x+cs.length:=z;exact .inr ⟨x,ps,H,z.1,.inl ⟨rfl,Ω⟩⟩
    ·exact .inl (owns y Gf m id a U x d H j z)
 ·split at f
  ·rename_i ps;obtain⟨e,he,Ft⟩:=C6 f;obtain⟨s,G4⟩:=Ay Ft;have s:i<8:=Nat.lt_of_succ_le (Zy s);obtain⟨q,qr,g,Rp⟩:=Bx G4;subst g;obtain⟨OO,FM⟩:=Ey Rp;subst OO;unfold Na at FM;split at FM
   ·rename_i es' n c;cases y:Nat.beq es' (Bs P e)<;>rw[y] at FM
    ·cases FM
    ·have CH:=El y;subst CH;refine⟨_,_,[(En N i,0)],FM,rfl,Ψ,λ_=>⟨Ψ,s⟩,?_,?_,?_,λw A bt β' u D hp=>?_⟩
     ·intro id a d;simp only[Xx] at d;cases d;exact⟨trivial,λ_ e=>by cases e⟩
     ·intro id I;simp only[Ck,C8,A3,Xx] at I;subst I;exact⟨_,IQ⟩
     ·intro id cells d;simp only[Xx] at d;cases d
     ·obtain⟨es,n',c',T,h2⟩:=hp;cases T;have G:=D (En N i,0) IQ;simp only at G;refine⟨?_,λid a d=>?_,λid a U x d H j z=>?_⟩
      ·rcases h2 with⟨L,rfl,_,Y⟩|⟨b,ob,cap,L,h4,Y,M,O,_⟩
       ·exact .inl ⟨G.trans L,rfl,rfl,Y⟩
       ·exact .inr ⟨b,ob,ob,cap,G.trans L,h4,.inl rfl,Y,M,O⟩
      ·simp only[Xx] at d;cases d;exact MQ h2 G
      ·simp only[Xx] at d;cases d;rw[G] at H;exact .inr ⟨x,_,H,z,.inr rfl⟩
   ·cases FM
  ·rename_i Z;cases Il:Cm P t<;>rw[Il] at f
   ·simp only[cond_false] at f;obtain⟨cs,bs,l,Rp,hl,Tn,y,Pt,Gf,hF,Jv,J⟩:=Zd f;obtain⟨c,cs',UP,FM⟩:=Bx Rp;subst UP;obtain⟨OO,hk5⟩:=Ey FM;subst OO;have hFc:=hF c Ψ
    have Q:OH p=false\/∃ps,p=.pbox ps:=by
     cases p<;>first|exact .inl rfl|exact .inr ⟨_,rfl⟩|exact absurd rfl (Z _)
    have hpb:∀ps,p ≠ .pbox ps:=by
     rintro ps rfl
     cases C:Lz P t with
     |nil=>rw[C] at Tn;simp at Tn
     |cons t' ts=>
      rw[C] at f;unfold SD Awt at f;obtain⟨q,qs1,g,Ft⟩:=Bx f;cases g;cases t'<;>simp[QI,FF,Bn,Be,As,fnK] at Ft
    have hpa:∀ps,p ≠ .agg ps:=by
     rintro ps rfl
     cases C:Lz P t with
     |nil=>rw[C] at Tn;simp at Tn
     |cons t' ts=>
      rw[C] at f;unfold SD Awt at f;obtain⟨q,qs1,g,Ft⟩:=Bx f;cases g;cases t'<;>simp[QI,FF,Bn,Be,As,fnK] at Ft
    have Q:OH p=false:=Q.elim id (λ⟨ps,e⟩=>absurd e (hpb ps));have HP:Ck c=A3 c:=by cases c<;>first|rfl|exact hFc.elim
    refine⟨c,bs,l.map (λq=>(q.1,q.2+1)),hk5,by rw[y];simp,?_,(λh=>by rw[Q] at h;cases h),?_,λid I=>Jv c Ψ id (by rw[<-HP];exact I),nost Gf,λw A bt β' u D hp=>?_⟩
    ·intro q g V E e;obtain⟨S,JZ,rfl⟩:=List.mem_map.1 g;obtain⟨X,Og,rfl⟩:=List.mem_map.1 E;exact Pt S JZ X Og (by simp only at e;omega)
    ·intro id a d;obtain⟨c,rfl⟩:=Gf id a d;exact⟨trivial,λ_ e=>by cases e⟩
    ·have Ee:I0 w A (bt 1) p u:=by cases p<;>first|exact hp.2|exact absurd rfl (hpa _)|exact absurd rfl (hpb _)|exact absurd rfl (Z _)
     have m:∀q∈l,β' q.1=bt (1+q.2):=λq g=>by rw[D _ (List.mem_map_of_mem g),Nat.add_comm]
     obtain⟨M,O⟩:=J w A bt β' 1 [u] m ⟨Ee,trivial⟩;refine⟨?_,O,λid a U x d H j z=>.inl (owns y Gf m id a U x d H j z)⟩;have h8:=M.1;cases c<;>first|exact h8|exact hFc.elim
   ·simp only[cond_true] at f;obtain⟨ps,Rx,Ft⟩:=Kt f;subst Rx;obtain⟨cs,bs,l,Rp,hl,Tn,y,Pt,Gf,hF,Jv,J⟩:=Zd Ft;refine⟨_,bs,l.map (λq=>(q.1,q.2+1)),Rp,by rw[y];simp,?_,(λh=>by cases h),?_,λid I=>?_,nost Gf,λw A bt β' u D hp=>?_⟩
    ·intro q g V E e;obtain⟨S,JZ,rfl⟩:=List.mem_map.1 g;obtain⟨X,Og,rfl⟩:=List.mem_map.1 E;exact Pt S JZ X Og (by simp only at e;omega)
    ·intro id a d;obtain⟨c,rfl⟩:=Gf id a d;exact⟨trivial,λ_ e=>by cases e⟩
    ·obtain⟨c,hc,hi⟩:=List.mem_flatMap.1 (show id∈cs.flatMap A3 from I);exact Jv c hc id hi
    ·obtain⟨vs,T,_,L⟩:=hp;have m:∀q∈l,β' q.1=bt (1+q.2):=λq g=>by rw[D _ (List.mem_map_of_mem g),Nat.add_comm]
     obtain⟨M,O⟩:=J w A bt β' 1 vs m L;exact⟨⟨vs,T,M⟩,O,λid a U x d H j z=>.inl (owns y Gf m id a U x d H j z)⟩
theorem Aiy:∀{ts:List TypeId}{i:Nat}{ps:Ae}{K:List (Nat × PV)->List (Nat × Cd)->Option R},Ayq P N i ts ps K=some r ->
  ∃tms bs,∃y:List (Nat × Nat × Nat),K tms bs=some r/\bs.map (·.1)=y.map (·.1)/\(∀q∈y,i<=q.2.1)/\(∀q∈y,∀E∈y,q.2=E.2->q.1=E.1) /\
   (∀k p,ps[k]?=some p->OH p=true->(En N (i+k),i+k,0)∈y/\i+k<8)/\(∀id a,(id,a)∈bs->Eb (some a)/\∀c,a=.st c->∃k p,ps[k]?=some p/\OH p=true/\id=En N (i+k)) /\
   (∀j,∀id∈Ck (lk tms j),∃a,(id,a)∈bs)/\PT bs /\
   ∀(w:World) (A:Nat->Prop) (bt:OB) (β':Bt) (us:List Value),(∀q∈y,β' q.1=bt q.2.1 q.2.2)->Qm w A bt i ps us ->
    (∀j,(∃u,i<=j/\us[j-i]?=some u/\F9 w A β' (lk tms j) u)\/(lk tms j=.top/\(i<=j->us[j-i]?=none)))/\(∀id a,(id,a)∈bs->Z8 w A β' id a) /\
    ∀id a b o,(id,a)∈bs->β' id=some (b,o)->∀j,BR a o j->∃k p,ps[k]?=some p/\A8y (bt (i+k)) p b j
 |[],i,ps,K,s=>by
  obtain⟨TJ,s⟩:=Ey s;subst TJ;refine⟨[],[],[],s,rfl,Ψ,Ψ,Ψ,Ψ,(λj id C=>by cases C),(by intro i cells d;cases d),λw A bt β' us _ h=>?_⟩
  cases us with
  |nil=>exact⟨λj=>.inr ⟨rfl,λ_=>Ψ⟩,Ψ,Ψ⟩
  |cons u us=>exact h.elim
 |t::ts,i,ps,K,s=>by
  unfold Ayq at s;obtain⟨p,Z,TJ,Ft⟩:=Bx s;subst TJ;obtain⟨v,bs,y,G4,hb,I,VL,Rs,hr,J,hv⟩:=A1q Ft;obtain⟨tms,L,M,Rp,K9,A5m,Bio,Bbh,Bjh,O,Bhh,V8⟩:=Aiy G4;refine⟨(i,v)::tms,bs++L,y.map (λq=>(q.1,i,q.2))++M,Rp,by simp only[List.map_append,hb,K9];simp,?_,?_,?_,?_,?_,?_,λw A bt β' us U hp=>?_⟩
  ·intro q g;rcases B2.1 g with g|g
   ·obtain⟨V,JZ,rfl⟩:=List.mem_map.1 g;exact Cg _
   ·have:=A5m q g;omega
  ·intro q g E m e;rcases B2.1 g with g|g
   ·obtain⟨V,JZ,rfl⟩:=List.mem_map.1 g;rcases B2.1 m with m|m
    ·obtain⟨W,Og,rfl⟩:=List.mem_map.1 m;simp only[Prod.mk.injEq,true_and] at e;exact I V JZ W Og e
    ·have:=A5m E m;rw[<-e] at this;simp only at this;omega
   ·have n:=A5m q g;rcases B2.1 m with m|m
    ·obtain⟨W,Og,rfl⟩:=List.mem_map.1 m;rw[e] at n;simp only at n;omega
    ·exact Bio q g E m e
  ·intro k G Rr X;cases k with
   |zero=>
    simp only[List.getElem?_cons_zero,Option.some.injEq] at Rr;subst Rr;obtain⟨f,l⟩:=VL X;exact⟨B2.2 (.inl (List.mem_map.2 ⟨_,f,rfl⟩)),l⟩
   |succ k=>
    obtain⟨f,l⟩:=Bbh k G (by simpa using Rr) X;rw[show i+1+k=i+(k+1) by omega] at f l;exact⟨B2.2 (.inr f),l⟩
  ·intro id a d;rcases B2.1 d with d|d
   ·obtain⟨f,l⟩:=Rs id a d;exact⟨f,λc z=>⟨0,p,rfl,(l c z).2,(l c z).1⟩⟩
   ·obtain⟨f,l⟩:=Bjh id a d;refine⟨f,λc z=>?_⟩;obtain⟨k,G,Q,D,n⟩:=l c z;exact⟨k+1,G,by simpa using Q,D,by rw[n,show i+1+k=i+(k+1) by omega]⟩
  ·intro j id C;unfold lk at C;cases x:Nat.beq j i<;>rw[x] at C
   ·obtain⟨a,f⟩:=O j id C;exact⟨a,B2.2 (.inr f)⟩
   ·obtain⟨a,f⟩:=hr id C;exact⟨a,B2.2 (.inl f)⟩
  ·intro id cells d c z k s;rcases B2.1 d with d|d
   ·obtain⟨a,f⟩:=J id cells d c z k s;exact⟨a,B2.2 (.inl f)⟩
   ·obtain⟨a,f⟩:=Bhh id cells d c z k s;exact⟨a,B2.2 (.inr f)⟩
  ·cases us with
   |nil=>exact hp.elim
   |cons u us=>
    obtain⟨f,l,Q⟩:=hv w A (bt i) β' u (λq g=>U _ (B2.2 (.inl (List.mem_map_of_mem g)))) hp.1;obtain⟨ZU,S,T⟩:=V8 w A bt β' us (λq g=>U q (B2.2 (.inr g))) hp.2;refine⟨λj=>?_,λid a d=>?_,λid a b o d H j Y=>?_⟩
    ·unfold lk;cases x:Nat.beq j i
     ·have F1:=Sx x;simp only[cond_false];rcases ZU j with⟨u',D,n,h6⟩|⟨D,n⟩
      ·refine .inl ⟨u',Ω,?_,h6⟩;rw[show j-i=(j-(i+1))+1 by omega]
       simpa using n
      ·refine .inr ⟨D,λhij=>?_⟩;rw[show j-i=(j-(i+1))+1 by omega]
       simpa using n Ω
     ·have:=El x;subst this;exact .inl ⟨u,Cg _,Ψ,f⟩
    ·rcases B2.1 d with d|d
     ·exact l id a d
     ·exact S id a d
    ·rcases B2.1 d with d|d
     ·exact⟨0,p,rfl,Q id a b o d H j Y⟩
     ·obtain⟨k,G,D,n⟩:=T id a b o d H j Y;exact⟨k+1,G,by simpa using D,by rw[show i+(k+1)=i+1+k by omega];exact n⟩
def Amo(bt:OB)(args:Ae)(a:∀k p,args[k]?=some p->OH p=true->k<8):Lu:=
 ⟨BtX bt,VG bt args,λi=>∃p,args[i]?=some p/\OH p=true,λi=>bt i 0,λi ⟨p,b,c⟩=>a i p b c⟩
theorem Aqw{ts:List TypeId}{args:Ae}{us:List Value}{bt:OB}{K:List (Nat × PV)->List (Nat × Cd)->Option R}(KH:Ins w Y bt args us)(I:Ayq P N 0 ts args K=some r):
  ∃tms bs,K tms bs=some r/\(Ch (λ_=>none) bs=true->us.length<=N->∃(J:∀k p,args[k]?=some p->OH p=true->k<8),∃β0,
   Dt N w (Amo bt args J) Y β0 ⟨lk tms,Fe bs⟩ { tmps:=us.toArray++Array.replicate (N-us.toArray.size) undef,defers:=[] } w):=by
 obtain⟨tms,bs,D,Ft,t,JZ,L,VL,Rs,hr,M,O⟩:=Aiy I;refine⟨tms,bs,Ft,λXd hN=>?_⟩;have Anp:=AK Xd
 have J:∀k p,args[k]?=some p->OH p=true->k<8:=λk p g f=>by
  have:=(VL k p g f).2;omega
 have ZS:(D.map (·.1)).Nodup:=by rw[<-t];exact Anp
 obtain⟨β0,v⟩:∃β0:Bt,∀q∈D,β0 q.1=bt q.2.1 q.2.2:=by
  have:∀(l:List (Nat × Nat × Nat)),(l.map (·.1)).Nodup->∃β0:Bt,∀q∈l,β0 q.1=bt q.2.1 q.2.2:=by
   intro l
   induction l with
   |nil=>intro _;exact⟨λ_=>none,Ψ⟩
   |cons q l ih=>
    intro E;simp only[CZ,List.nodup_cons] at E;obtain⟨b1,g⟩:=ih E.2;refine⟨Dm b1 q.1 (bt q.2.1 q.2.2),λQ x=>?_⟩;rcases List.mem_cons.1 x with rfl|x
    ·exact Az _ _ _
    ·have F1:Q.1≠q.1:=λe=>E.1 (by rw[<-e];exact List.mem_map.2 ⟨Q,x,rfl⟩)
     rw[At _ _ F1];exact g Q x
  exact this D ZS
 refine⟨J,β0,?_⟩;obtain⟨X,S,hL⟩:=O w _ bt β0 us v KH.args
 have n:∀id d,(id,d)∈bs->∃C,(id,C)∈D/\β0 id=bt C.1 C.2:=by
  intro id d y;have:id∈D.map (·.1):=by rw[<-t];exact List.mem_map.2 ⟨_,y,rfl⟩
  obtain⟨q,a,rfl⟩:=List.mem_map.1 this;exact⟨q.2,a,v q a⟩
 have T:∀b,Xof (Fe bs) β0 b->BtX bt b:=by
  rintro b ⟨id,o,z,m⟩
  cases a:Fe bs id with
  |none=>rw[a] at z;exact z.elim
  |some d=>
   obtain⟨C,_,f⟩:=n id d (Sv a);rw[f] at m;exact⟨_,_,_,m⟩
 have Z:∀b,Ec (Fe bs) β0 Y b->BtX bt b\/Y b:=λb t=>t.imp (T b) id;have A28:∀{p:PV} {u:Value},F9 w (λb=>BtX bt b\/Y b) β0 p u->F9 w (Ec (Fe bs) β0 Y) β0 p u:=λh=>h.step (Cy.refl _ _) (λb _=>Z b) (λ_ _=>rfl);refine⟨rfl,by simp;omega,λi hi=>?_,λi hi=>?_,?_,?_,?_,λi hi id B6=>?_,?_,λb t=>.inl (T b t),?_,?_,?_,λb hY U=>KH.Yx b hY (T b U),KH.Ylt,⟨rfl,rfl,rfl,Cy.refl _ _,λ_ _ _ _=>⟨rfl,rfl⟩⟩⟩
 ·rcases X i with⟨u,_,h,_⟩|⟨h,_⟩
  ·rw[Nat.sub_zero,List.getElem?_eq_none Ω] at h;cases h
  ·exact h
 ·rcases X i with⟨u,_,h,O⟩|⟨h,H⟩
  ·rw[Nat.sub_zero] at h
   have Cs:i<us.length:=by
    rcases Jt i us.length with H|H
    ·exact H
    ·rw[List.getElem?_eq_none H] at h;cases h
   have:(us.toArray++Array.replicate (N-us.toArray.size) undef).getD i undef=u:=by
    rw[Array.getD_eq_getD_getElem?,Array.getElem?_append_left (by simpa using Cs)];simp[h]
   show F9 w _ _ _ ((us.toArray++Array.replicate (N-us.toArray.size) undef).getD i undef);rw[this];exact A28 O
  ·show F9 w _ _ (lk tms i) _;rw[h];exact A9.top _
 ·intro id d a;exact (S id d (Sv a)).step' Z
 ·intro id A b o o' z Pq m G;cases a:Fe bs id with
  |none=>change Eb (Fe bs id) at z;rw[a] at z;exact z.elim
  |some d=>
   cases x:Fe bs A with
   |none=>change Eb (Fe bs A) at Pq;rw[x] at Pq;exact Pq.elim
   |some V=>
    obtain⟨C,g,f⟩:=n id d (Sv a);obtain⟨ik',ZU,W⟩:=n A V (Sv x);rw[f] at m;rw[W] at G;obtain⟨s,h4⟩:=KH.inj _ _ _ _ b o o' m G;exact L _ g _ ZU (Prod.ext s h4)
 ·intro id b o E m;cases a:Fe bs id with
  |none=>exact absurd a E
  |some d=>
   obtain⟨C,g,f⟩:=n id d (Sv a);rw[f] at m;exact KH.lt b ⟨_,_,_,m⟩
 ·obtain⟨d,y⟩:=hr i id B6;show Fe bs id≠none;rw[Ae4 Anp y];simp
 ·intro id cells a c hc k I;obtain⟨d,y⟩:=M id cells (Sv a) c hc k I;show Fe bs k≠none;rw[Ae4 Anp y];simp
 ·intro id d b o a z m _ j hj;obtain⟨k,p,g,f⟩:=hL id d b o (Sv a) m j hj;rw[Ka] at f;exact⟨k,p,g,f⟩
 ·rintro i ⟨p,g,f⟩
  have s:=(VL i p g f).1;rw[Ka] at s;refine⟨?_,v _ s⟩;have:En N i∈bs.map (·.1):=by rw[t];exact List.mem_map.2 ⟨_,s,rfl⟩
  obtain⟨⟨id,d⟩,y,e⟩:=List.mem_map.1 this;show Fe bs (En N i)≠none;rw[<-e,Ae4 Anp y];simp
 ·intro id c b o a _ _;obtain⟨k,p,g,f,s⟩:=(Rs id _ (Sv a)).2 c rfl;rw[Ka] at s;exact⟨k,s,p,g,f⟩
end
open Go.RowKit
def Rm(β:Bt)(l:List (Option Nat))(j:Nat):Option (Nat × Nat):=((l[j]?).bind id).bind β
section
variable {R:Type}{r:R}{P:Program}{N:Nat}{w0:World}{X0:Lu}{Y:Nat->Prop}{β β':Bt}{s:St}{a:Act}{w w':World}{A:Nat->Prop}
def Aud(s:St)(l:List (Option Nat)):Prop:=∀id,some id∈l->Eb (s.hp id)
def Su(s:St)(z:B9):Prop:=∀id∈z,∃f c,s.hp id=some (.ar f c)
theorem Abg(h : Dt N w0 X0 Y β s a w){shr : Bool}{t : CT}{p : PV}{K : PV -> B9 -> B9 -> Option R}(d : Ao5 shr s.hp t p K = some r):
    ∃ c q z, K c (Option.toList q) z = some r /\ (∀ x, c ≠ .agg x /\ c ≠ .pbox x) /\ isF p /\ (∀ id, q = some id -> ∃ c, s.hp id = some (.ar false c)) /\ Su s z /\
      ∀ (fz : B9) A u, (∀ i ∈ z, i ∈ fz) -> Su s fz -> (∀ b, A b -> Ec (Aj s.hp fz) β Y b) -> Cp w (Ec s.hp β Y) β p u -> I0 w A (q.bind β) c u := by
  have notree : ∀ {c : PV}, HU c -> ∀ x, c ≠ .agg x /\ c ≠ .pbox x := λg x => ⟨LP g x, by rintro rfl; exact g⟩
  unfold Ao5 at d
  cases shr <;> simp only[cond_true, cond_false] at d
  · have tree : ∀ H, (∀ es, H ≠ .sl es) -> (QI H p λc => K c [] []) = some r -> ∃ c q z, K c (Option.toList q) z = some r /\ (∀ x, c ≠ .agg x /\ c ≠ .pbox x) /\ isF p /\ (∀ id, q = some id -> ∃ c, s.hp id = some (.ar false c)) /\ Su s z /\
        ∀ (fz : B9) A u, (∀ i ∈ z, i ∈ fz) -> Su s fz -> (∀ b, A b -> Ec (Aj s.hp fz) β Y b) -> Cp w (Ec s.hp β Y) β p u -> I0 w A (q.bind β) c u := by
      intro H F1 d
      obtain⟨c, Ft, g, VJ, C⟩ := Sy d
      refine⟨c, none, [], Ft, notree g, AD VJ, by simp, (by intro i hi; cases hi), λfz A u _ _ D l => Pw g ?_⟩
      exact (C w _ β u l).1.step (Cy.refl _ _) (λb _ f => T7 (D b f))
    unfold A3y at d
    cases t with
    | sl es =>
      dsimp only at d
      split at d
      · rename_i id I off n
        cases f : (Nat.beq I es && Nat.beq off 0) <;> rw[f] at d
        · cases d
        · simp only[Ge] at f
          have S := El f.1
          have T := El f.2
          subst S T
          simp only[cond_true] at d
          split at d
          · rename_i c Q
            obtain⟨hl, Ft⟩ := Ay d
            refine⟨_, some id, [], Ft, by simp, trivial, λi hi => by cases hi; exact⟨c, Q⟩, (by intro i hi; cases hi), λfz A u _ _ D l => ?_⟩
            rcases l with⟨y, _, rfl, J⟩ | ⟨b, o, x, L, y, M, O, U, J, V⟩
            · exact .inl ⟨y, rfl, by simp, J⟩
            · have O : x = o := by rcases O with e | ⟨_, e⟩ <;> omega
              subst O
              rcases h.box id _ Q with⟨E, _⟩ | ⟨b', o', E, W, X, _⟩
              · rw[y] at E; cases E
              · rw[y] at E
                cases E
                refine .inr ⟨b, x, L, y, M, U, J, V, λj q G => ?_, λj Z CR => X rfl j Z CR⟩
                rw[List.getElem?_take] at G
                split at G
                · obtain⟨v, C, h9, ht⟩ := W j q G
                  exact⟨v, C, h9, ht.step (Cy.refl _ _) (λb _ f => T7 (D b f))⟩
                · cases G
          · cases d
      · obtain⟨z, n, c, Ft, hp⟩ := I9 d
        obtain⟨hz, G4⟩ := Ay Ft
        subst hz
        have P : isF p := by rcases hp with e | ⟨e, _⟩ <;> (rw[e]; trivial)
        refine⟨_, none, [], G4, by simp, P, by simp, (by intro i hi; cases hi), λfz A u _ _ _ l => ?_⟩
        have hu : u = .slice none 0 0 := by
          rcases hp with rfl | ⟨rfl, _⟩
          · cases l; rfl
          · exact A9.val l
        exact .inl ⟨rfl, rfl, rfl, none, hu⟩
    | int k => exact tree _ Ψ d
    | bool => exact tree _ Ψ d
    | str => exact tree _ Ψ d
    | any => exact tree _ Ψ d
  · obtain⟨c, m, Ft, g, hF, hm, C⟩ := WP h d
    exact⟨c, none, m, Ft, notree g, hF, by simp, hm, λfz A u y M D l => Pw g ((C fz y M u l).1.step (Cy.refl _ _) (λb _ f => D b f))⟩
structure TB(s:St)(β:Bt)(Y:Nat->Prop)(w:World)(cs:Ae)(l:List (Option Nat))(z:B9)(ps:Ae):Prop where
 len:l.length=cs.length
 pl:cs.length=ps.length
 na:∀c∈cs,∀x,c ≠ .agg x/\c ≠ .pbox x
 fr:∀p∈ps,isF p
 own:∀id,some id∈l->∃c,s.hp id=some (.ar false c)
 row:Su s z
 sem:∀(fz:B9) A us,(∀i∈z,i∈fz)->Su s fz->(∀b,A b->Ec (Aj s.hp fz) β Y b)->Bv (Cp w (Ec s.hp β Y) β) ps us->∀own j0,(∀j,j<l.length->own (j0+j)=Rm β l j)->Gu w A own j0 cs us
theorem TB.nil:TB s β Y w [] [] [] []:=⟨rfl,rfl,Ψ,Ψ,Ψ,(by intro i hi;cases hi),λfz A us _ _ _ a own b _=>by
 cases us with
 |nil=>trivial
 |cons u us=>exact a.elim⟩
theorem TB.cons{c p:PV}{q:Option Nat}{z k:B9}{cs ps:Ae}{l:List (Option Nat)}(QM:∀x,c ≠ .agg x/\c ≠ .pbox x)(r:isF p)(t:∀id,q=some id->∃c,s.hp id=some (.ar false c))(v:Su s z)(y:∀(fz:B9) A u,(∀i∈z,i∈fz)->Su s fz->(∀b,A b->Ec (Aj s.hp fz) β Y b)->Cp w (Ec s.hp β Y) β p u->I0 w A (q.bind β) c u)(H:TB s β Y w cs l k ps):TB s β Y w (c::cs) (q::l) (z++k) (p::ps):=by
 refine⟨by simp[H.len],by simp[H.pl],?_,?_,?_,?_,λfz A us d DB m f own g n=>?_⟩
 ·intro x a;rcases List.mem_cons.1 a with rfl|a
  ·exact QM
  ·exact H.na x a
 ·intro x a;rcases List.mem_cons.1 a with rfl|a
  ·exact r
  ·exact H.fr x a
 ·intro id h;rcases List.mem_cons.1 h with e|h
  ·exact t id e.symm
  ·exact H.own id h
 ·intro i hi;rcases B2.1 hi with hi|hi
  ·exact v i hi
  ·exact H.row i hi
 ·cases us with
  |nil=>exact f.elim
  |cons u us=>
   have o:=n 0 Ψ;rw[Zzr] at o;refine⟨?_,H.sem fz A us (λi hi=>d i (by simp[hi])) DB m f.2 own (g+1) λj C=>?_⟩
   ·rw[o];exact y fz A u (λi hi=>d i (by simp[hi])) DB m f.1
   ·have:=n (j+1) (by simp;omega)
    rw[show g+1+j=g+(j+1) by omega,this];simp[Rm]
theorem AU(h:Dt N w0 X0 Y β s a w){shr:Bool}:∀{ts:List CT}{ps:Ae}{K:Ae->B9->B9->Option R},OU shr s.hp ts ps K=some r ->
  ∃cs l z,K cs (l.filterMap id) z=some r/\TB s β Y w cs l z ps
 |[],[],K,b=>⟨[],[],[],b,TB.nil⟩
 |[],_::_,K,b=>by cases b
 |_::_,[],K,b=>by cases b
 |t::ts,p::ps,K,b=>by
  unfold OU at b;obtain⟨c,q,z,Ft,QM,d,e,f,g⟩:=Abg h b;obtain⟨cs,l,i,j,H⟩:=AU h Ft;refine⟨c::cs,q::l,z++i,?_,TB.cons QM d e f g H⟩;cases q<;>exact j
theorem RL(h:Dt N w0 X0 Y β s a w):∀{ts:List CT}{ws ps:Ae}{K:Ae->B9->B9->Option R},TZ s.hp ts ws ps K=some r ->
  ∃cs l z,K cs (l.filterMap id) z=some r/\cs.length=ws.length/\TB s β Y w cs l z ps
 |[],[],[],K,b=>⟨[],[],[],b,rfl,TB.nil⟩
 |[],_::_,_,K,b=>by cases b
 |[],[],_::_,K,b=>by cases b
 |_::_,[],_,K,b=>by cases b
 |_::_,_::_,[],K,b=>by cases b
 |t::ts,x::ws,p::ps,K,b=>by
  unfold TZ at b;obtain⟨c,q,z,Ft,QM,d,e,f,g⟩:=Abg h b;obtain⟨cs,l,i,j,k,H⟩:=RL h Ft;refine⟨c::cs,q::l,z++i,?_,by simp[k],TB.cons QM d e f g H⟩;cases q<;>exact j
theorem Anw{own:Bt}{a j:Nat}{p:PV}{u:Value}(hp:∀x,p ≠ .agg x/\p ≠ .pbox x)(h:Gu w A own j [p] [u]):A3e w A own a j p u:=by cases p<;>first|exact h.1|exact absurd rfl (hp _).1|exact absurd rfl (hp _).2
theorem Aod(h:Dt N w0 X0 Y β s a w){id b o:Nat}{c cs:Ae}{l:List (Option Nat)}{z:B9}(n:s.hp id=some (.st c))(q:β id=some (b,o))(H:TB s β Y w cs l z c){fz:B9}{A:Nat->Prop}(r:∀i∈z,i∈fz)(t:Su s fz)(x:∀b,A b->Ec (Aj s.hp fz) β Y b){own:Bt}{g:Nat}(y:∀j,j<l.length->own (g+j)=Rm β l j):Awb w A own g b o cs:=by
 obtain⟨C,D,Gf,Jv,GV⟩:=h.box id _ n;rw[q] at Gf;cases Gf;refine⟨c.mapIdx (λj _=>(w.cell? ⟨b,o+j,none⟩).getD undef),H.sem fz A _ r t x ?_ own g y,?_,λk E=>GV k (by have:=H.pl;omega)⟩
 ·refine Bv.of_at Ψ λj p v hp m=>?_;obtain⟨u,f,e⟩:=Jv j p hp;rw[List.getElem?_mapIdx,hp,Option.map_some,f] at m;simp at m;subst m;exact e
 ·intro k v d;rw[List.getElem?_mapIdx] at d;cases hp:c[k]? with
  |none=>rw[hp] at d;cases d
  |some p=>
   obtain⟨u,f,e⟩:=Jv k p hp;rw[hp,Option.map_some,f] at d;simp at d;subst d;exact f
theorem Are(h:Dt N w0 X0 Y β s a w){shr:Bool}{t:TypeId}{p:PV}{u:Value}(hp:F9 w (Ec s.hp β Y) β p u){K:PV->B9->B9->Option R}(d:Axy P shr s.hp t p K=some r):
  ∃v l z,K v (l.filterMap id) z=some r/\l.length=plc v/\Aud s l/\Su s z /\
   ∀(fz:B9) A m,(∀i∈z,i∈fz)->Su s fz->(∀b,A b->Ec (Aj s.hp fz) β Y b)->(∀id c b o,some id∈l->s.hp id=some (.st c)->β id=some (b,o)->m<=b) ->
    ∀own f,(∀j,j<l.length->own (f+j)=Rm β l j)->A3e w A own m f v u:=by
 unfold Axy at d;split at d
 ·rename_i e T;split at d
  ·rename_i id off;split at d
   ·rename_i c E;obtain⟨g,Ft⟩:=Ay d;have g:=El g;subst g;obtain⟨D,l,z,n,H⟩:=AU h Ft;obtain⟨b,o,G,I⟩:=hp;refine⟨.pbox D,some id::l,z,n,by simp only[plc,Ox,H.len];omega,?_,H.row,λfz A m q x y O own f k=>?_⟩
    ·intro i hi;rcases List.mem_cons.1 hi with e|hi
     ·cases e;rw[E];trivial
     ·obtain⟨J,C⟩:=H.own i hi;rw[C];trivial
    ·have L:=k 0 Ψ;rw[Zzr] at L;refine⟨b,o,by rw[L];exact G,O id c b o Ψ E G,by rw[I,Zzr],Aod h E G H q x y λj U=>?_⟩
     have:=k (j+1) (by simp;omega)
     rw[show f+1+j=f+(j+1) by omega,this];simp[Rm]
   ·cases d
  ·cases d
 ·cases Il:Cm P t<;>rw[Il] at d<;>simp only[cond_true,cond_false] at d
  ·obtain⟨D,l,z,Ft,H⟩:=AU h d;obtain⟨c,Q,UP,n⟩:=Bx Ft;subst UP;obtain⟨OO,Rp⟩:=Ey n;subst OO;have QM:=H.na c Ψ;have ZK:plc c=1:=by cases c<;>first|rfl|exact absurd rfl (QM _).1|exact absurd rfl (QM _).2
   have S:=H.fr p Ψ;refine⟨c,l,z,Rp,by rw[ZK];exact H.len,λi hi=>?_,H.row,λfz A m q x y _ own f k=>Anw QM (H.sem fz A [u] q x y ⟨?_,trivial⟩ own f k)⟩
   ·obtain⟨J,C⟩:=H.own i hi;rw[C];trivial
   ·cases p<;>first|exact hp|exact S.elim
  ·obtain⟨ps,TJ,Ft⟩:=Kt d;subst TJ;obtain⟨D,l,z,n,H⟩:=AU h Ft;obtain⟨M,I,CJ⟩:=hp;refine⟨.agg D,l,z,n,H.len,λi hi=>?_,H.row,λfz A m q x y _ own f k=>⟨M,I,H.sem fz A M q x y CJ own f k⟩⟩;obtain⟨J,C⟩:=H.own i hi;rw[C];trivial
def Af2(P:Program)(tmps:Array Value)(w:World)(b:ResultVar)(u:Value):Prop:=
  (match b with
   |.tmp t=>(pure (tmps.getD t undef):Sem Value)
   |.cell a t=>do loadVar t (<-asAddr (tmps.getD a undef))).run P w=.ok u w
theorem Au6(h:Dt N w0 X0 Y β s a w)(t:Nat):F9 w (Ec s.hp β Y) β (s.tm t) (a.tmps.getD t undef):=by
 rcases Jt t N with b|b
 ·exact h.tms t b
 ·rw[h.tmo t b];exact A9.top _
theorem Asl(h:Dt N w0 X0 Y β s a w){c:ResultVar}{K:PV->Option R}(b:Avr P s c K=some r):∃p u,K p=some r/\Af2 P a.tmps w c u/\F9 w (Ec s.hp β Y) β p u:=by
 unfold Avr at b;split at b
 ·rename_i t;exact⟨_,_,b,rfl,Au6 h t⟩
 ·rename_i x t;obtain⟨v,ad,val,Ft,Eo,d,e,_⟩:=Ah2 h (Au6 h x) b;refine⟨v,val,Ft,?_,e⟩;unfold Af2;simp[Eo,asAddr,d]
theorem JF{l a:List (Option Nat)}{j:Nat}(h:j<l.length):Rm β (l++a) j=Rm β l j:=by unfold Rm;rw[List.getElem?_append_left h]
theorem IZ{l a:List (Option Nat)}{j:Nat}:Rm β (l++a) (l.length+j)=Rm β a j:=by unfold Rm;rw[List.getElem?_append_right Ω,Nat.add_sub_cancel_left]
theorem YQ(h:Dt N w0 X0 Y β s a w){shr:Bool}:∀{rs:List ResultVar}{ts:List TypeId}{K:Ae->B9->B9->Option R},Aev P shr s rs ts K=some r ->
  ∃vs l z us,K vs (l.filterMap id) z=some r/\Bv (Af2 P a.tmps w) rs us/\l.length=R4 vs/\Aud s l/\Su s z /\
   ∀(fz:B9) A f,(∀i∈z,i∈fz)->Su s fz->(∀b,A b->Ec (Aj s.hp fz) β Y b)->(∀id c b o,some id∈l->s.hp id=some (.st c)->β id=some (b,o)->f<=b) ->
    ∀own g,(∀j,j<l.length->own (g+j)=Rm β l j)->Aa1 w A own f g vs us
 |[],[],K,e=>⟨[],[],[],[],e,trivial,rfl,(by intro id d;cases d),(by intro id d;cases d),λ_ _ _ _ _ _ _ _ _ _=>trivial⟩
 |[],_::_,K,e=>by cases e
 |_::_,[],K,e=>by cases e
 |Q::rs,t::ts,K,e=>by
  unfold Aev at e;obtain⟨p,u,Ft,G,hp⟩:=Asl h e;obtain⟨v,l,z,H,q,I,J,L⟩:=Are h hp Ft;obtain⟨vs,M,O,us,Rp,k,Pq,m,n,CJ⟩:=YQ h H;refine⟨v::vs,l++M,z++O,u::us,?_,⟨G,k⟩,by simp only[Vl,R4,CZ,List.sum_cons,q];rw[Pq];rfl,?_,?_,λfz A f x y C Iy own g D=>⟨?_,?_⟩⟩
  ·rw[List.filterMap_append];exact Rp
  ·intro id d;rcases B2.1 d with d|d
   ·exact I id d
   ·exact m id d
  ·intro id d;rcases B2.1 d with d|d
   ·exact J id d
   ·exact n id d
  ·exact L fz A f (λi hi=>x i (by simp[hi])) y C (λid c b o hi=>Iy id c b o (by simp[hi])) own g λj E=>by rw[D j (by simp;omega),JF E]
  ·refine CJ fz A f (λi hi=>x i (by simp[hi])) y C (λid c b o hi=>Iy id c b o (by simp[hi])) own (g+plc v) λj E=>?_;rw[<-q,R1,D (l.length+j) (by simp;omega),IZ]
theorem Zz(h:Dt N w0 X0 Y β s a w){bt:OB}(m:∀i,X0.pt i=bt i 0):∀{ts:List TypeId}{i:Nat}{ps:Ae}{K:List Ae->B9->B9->B9->Option R},PS P N s.hp i ts ps K=some r ->
  (∀k p,ps[k]?=some p->OH p=true->X0.pn (i+k)) ->
  ∃os l z q,K os (l.filterMap id) z q=some r/\(∀id,some id∈l->∃c,s.hp id=some (.ar false c))/\Su s z/\(∀id∈q,Eb (s.hp id))/\(∀k p,ps[k]?=some p->OH p=true->En N (i+k)∈q) /\
   ∀(fz:B9) A,(∀i∈z,i∈fz)->Su s fz->(∀i∈q,i ∉ fz)->(∀b,A b->Ec (Aj s.hp fz) β Y b) ->
    ∀own C,(∀j,j<l.length->own (C+j)=Rm β l j)->HT w A own bt C i ps os
 |[],i,ps,K,J,_=>by
  obtain⟨TJ,J⟩:=Ey J;subst TJ;exact⟨[],[],[],[],J,Ψ,(by intro id d;cases d),Ψ,Ψ,λ_ _ _ _ _ _ _ _ _=>rfl⟩
 |t::ts,i,ps,K,J,D=>by
  unfold PS at J;obtain⟨p,E,TJ,Ft⟩:=Bx J;subst TJ
  have A8d:∀k p,E[k]?=some p->OH p=true->X0.pn (i+1+k):=λk L f g=>by
   have:=D (k+1) L (by simpa using f) g;rw[show i+1+k=i+(k+1) by omega];exact this
  have G:∀{q:B9},(OH p=true->En N i∈q)->(∀k p,E[k]?=some p->OH p=true->En N (i+1+k)∈q)->∀k L,(p::E)[k]?=some L->OH L=true->En N (i+k)∈q:=by
   intro q f g k L y M;cases k with
   |zero=>
    simp only[List.getElem?_cons_zero,Option.some.injEq] at y;subst y;exact f M
   |succ k=>
    have:=g k L (by simpa using y) M;rw[show i+1+k=i+(k+1) by omega] at this;exact this
  split at Ft
  ·rename_i ws;obtain⟨e,he,X⟩:=C6 Ft;split at X
   ·rename_i c O;obtain⟨cs,l,z,Rp,So,H⟩:=RL h X;obtain⟨os,S,T,q,FM,n,v,U,x,V⟩:=Zz h m Rp A8d;refine⟨cs::os,l++S,z++T,En N i::q,by rw[List.filterMap_append];exact FM,?_,?_,?_,G (λ_=>IQ) (λk p f g=>Yh _ (x k p f g)),λfz A f g y I own C Q=>?_⟩
    ·intro id d;rcases B2.1 d with d|d
     ·exact H.own id d
     ·exact n id d
    ·intro id d;rcases B2.1 d with d|d
     ·exact H.row id d
     ·exact v id d
    ·intro id d;rcases List.mem_cons.1 d with rfl|d
     ·rw[O];trivial
     ·exact U id d
    ·have VL:=(h.pin i (by have:=D 0 _ rfl rfl;rwa [Zzr] at this)).2
     obtain⟨b,o,Gf,_,_⟩:=h.box _ _ O;rw[Gf,m] at VL;refine⟨⟨b,o,VL.symm,So,Aod h O Gf H (λi hi=>f i (by simp[hi])) g I λj hj=>by rw[Q j (by simp;omega),JF hj]⟩,?_⟩
     refine V fz A (λi hi=>f i (by simp[hi])) g (λi hi=>y i (by simp[hi])) I own (C+cs.length) λj hj=>?_;rw[<-H.len,R1,Q (l.length+j) (by simp;omega),IZ]
   ·cases X
  ·split at Ft
   ·rename_i c O;obtain⟨os,S,T,q,FM,n,v,U,x,V⟩:=Zz h m Ft A8d;refine⟨c::os,S,T,En N i::q,FM,n,v,?_,G (λ_=>IQ) (λk p f g=>Yh _ (x k p f g)),λfz A f g y I own C Q=>⟨?_,V fz A f g (λi hi=>y i (by simp[hi])) I own C Q⟩⟩
    ·intro id d;rcases List.mem_cons.1 d with rfl|d
     ·rw[O];trivial
     ·exact U id d
    ·have VL:=(h.pin i (by have:=D 0 _ rfl rfl;rwa [Zzr] at this)).2
     rw[m] at VL;rcases h.box _ _ O with⟨M,Z⟩|⟨b,o,M,Z,h6,_⟩
     ·exact .inl ⟨by rw[<-VL];exact M,Z⟩
     ·exact .inr ⟨b,o,by rw[<-VL];exact M,Z.weak (λb _ hb=>T7 (I b hb)),h6 rfl⟩
   ·cases Ft
  ·rename_i hn1 hn2;have W:OH p=false:=by cases p<;>first|rfl|exact absurd rfl (hn1 _)|exact absurd rfl (hn2 _)
   obtain⟨os,S,T,q,FM,n,v,U,x,V⟩:=Zz h m Ft A8d;refine⟨os,S,T,q,FM,n,v,U,G (λe=>by rw[W] at e;cases e) x,λfz A f g y I own C Q=>?_⟩
   have:=V fz A f g y I own C Q;cases p<;>first|exact this|cases W
theorem Ahu{f:ResultVar->Sem Value}:∀{rs:List ResultVar}{us:List Value},Bv (λa u=>(f a).run P w=.ok u w) rs us->(rs.mapM f).run P w=.ok us w
 |[],[],_=>Ψ
 |[],_::_,h=>h.elim
 |_::_,[],h=>h.elim
 |a::rs,u::us,h=>by
  rw[List.mapM_cons];simp[h.1,Ahu h.2]
theorem Ajw{b:Func}{us:List Value}(h:Bv (Af2 P a.tmps w) b.results.toList us):(results b a.tmps).run P w=.ok (Lv us) w:=by
 unfold results;rw[Array.mapM_eq_mapM_toList];simp only[map_eq_pure_bind,bind_assoc,pure_bind,Sem.run_bind];refine Eq.trans (congrArg (λx=>Result.andThen x _) (Ahu h)) ?_;simp only[Result.andThen_ok,Sem.run_pure]
 congr 1
 clear h
 match us with
 |[]=>rfl
 |[u]=>rfl
 |u::v::us=>exact dif_neg Ψ
theorem Aj5:∀{l:List (Option Nat)},Fn (l.filterMap id)=true->∀{j a i:Nat},l[j]?=some (some i)->l[a]?=some (some i)->j=a
 |[],_,j,a,i,h,_=>by simp at h
 |q::l,c,j,a,i,h,b=>by
  have d:Fn (l.filterMap id)=true:=by
   cases q with
   |none=>exact c
   |some x=>
    simp only[List.filterMap_cons,id_eq,Fn,Ge] at c;exact c.2
  have f:∀(x k:Nat),q=some x->l[k]?≠some (some x):=by
   intro x k e m;subst e;simp only[List.filterMap_cons,id_eq,Fn,Ge,Bool.not_eq_true'] at c;exact Z0 c.1 (List.mem_filterMap.2 ⟨some x,List.mem_of_getElem? m,rfl⟩)
  cases j with
  |zero=>
   cases a with
   |zero=>rfl
   |succ g=>
    simp at h b;exact absurd b (f i g h)
  |succ k=>
   cases a with
   |zero=>
    simp at h b;exact absurd h (f i k b)
   |succ g=>
    simp at h b;rw[Aj5 d h b]
theorem Abv{C:J7}{f:FuncId}{D:Func}{args:Ae}{G:A8}{w:World}{Y:Nat->Prop}{bt:OB}{us:List Value}(KH:Ins w Y bt args us){h8:∀k p,args[k]?=some p->OH p=true->k<8}{s':St}{N:Act}{w':World}{β':Bt}(Z:Asq C P f D args s'=some G)(h:Dt D.ntmps w (Amo bt args h8) Y β' s' N w'):
  N.defers=[]/\∃v,(results D N.tmps).run P w'=.ok v w'/\∃vs own,Ending.returned v=.returned (Lv vs)/\Out w w' Y bt args own G vs:=by
 unfold Asq at Z;obtain⟨vs,l,z,H,ZL,O,Q,hL,hz,hv⟩:=YQ h Z;obtain⟨os,m,E,q,R,S,T,hq,t,V8⟩:=Zz h (bt:=bt) (λ_=>rfl) ZL (λk p d e=>by rw[Ka];exact⟨p,d,e⟩)
 obtain⟨r,U⟩:=Ay R;cases U;simp only[Ge] at r;obtain⟨r,A75⟩:=r;obtain⟨V,hn2,y⟩:=Mw r
 have QA:∀i∈z++E,i ∉ (l.filterMap id++m.filterMap id)++q:=by
  intro i hi My;have:=List.all_eq_true.1 A75 i hi;have e:((l.filterMap id++m.filterMap id)++q).any (Nat.beq i)=true:=List.any_eq_true.2 ⟨i,My,Vr i⟩;rw[e] at this;cases this
 have Art:Su s' (z++E):=by
  intro i hi;rcases B2.1 hi with hi|hi
  ·exact hz i hi
  ·exact T i hi
 refine⟨h.dfr,Lv H,Ajw O,H,Rm β' (l++m),rfl,?_⟩;have Bht:Fn ((l++m).filterMap id)=true:=by rw[List.filterMap_append];exact V
 have L:∀j b o,Rm β' (l++m) j=some (b,o)->∃id,(l++m)[j]?=some (some id)/\β' id=some (b,o):=by
  intro j b o a;unfold Rm at a;cases A:(l++m)[j]? with
  |none=>rw[A] at a;cases a
  |some q=>
   cases q with
   |none=>rw[A] at a;cases a
   |some id=>
    rw[A] at a;exact⟨id,rfl,a⟩
 have Vy:∀(j i:Nat),(l++m)[j]?=some (some i)->i∈l.filterMap id++m.filterMap id:=by
  intro j i a;rw[<-List.filterMap_append];exact List.mem_filterMap.2 ⟨some i,List.mem_of_getElem? a,rfl⟩
 have Jf:∀(j i:Nat),(l++m)[j]?=some (some i)->Eb (s'.hp i):=by
  intro j i a;rcases B2.1 (List.mem_of_getElem? a) with My|My
  ·exact hL i My
  ·obtain⟨c,W⟩:=S i My;rw[W];trivial
 have A4o:∀i,i∈(l.filterMap id++m.filterMap id)++q->Aj s'.hp (z++E) i=s'.hp i:=by
  intro i hi;rw[Cj,Bb (λMy=>QA i My hi)]
 have A3x:∀i b o,bt i 0=some (b,o)->En D.ntmps i∈q/\Eb (s'.hp (En D.ntmps i))/\β' (En D.ntmps i)=some (b,o):=by
  intro i b o g;obtain⟨p,d,e⟩:=KH.l0 i _ g;have n:=t i p d e;rw[Ka] at n;exact⟨n,hq _ n,(h.pin i ⟨p,d,e⟩).2.trans g⟩
 have I:∀b,YM bt (Rm β' (l++m)) Y b->Ec (Aj s'.hp (z++E)) β' Y b:=by
  rintro b (⟨j,o,a⟩|⟨i,o,g⟩|hY)
  ·obtain⟨id,d,e⟩:=L j b o a;refine .inl ⟨id,o,?_,e⟩;rw[A4o id (B2.2 (.inl (Vy j id d)))];exact Jf j id d
  ·obtain⟨d,e,n⟩:=A3x i b o g;refine .inl ⟨_,o,?_,n⟩;rw[A4o _ (B2.2 (.inr d))];exact e
  ·exact .inr hY
 have JX:∀(j id b o:Nat),(l++m)[j]?=some (some id)->β' id=some (b,o)->b<w.heap.size->∃i k s,bt i (k+1)=some (b,s):=by
  intro j id b o a M Cs;rcases h.ownd b ⟨id,o,Jf j id a,M⟩ with⟨i,k,s,g⟩|J
  ·cases k with
   |zero=>
    obtain⟨d,e,n⟩:=A3x i b s g;have:=h.inj id _ b o s (Jf j id a) e M n;subst this;exact absurd d (y _ (Vy j _ a))
   |succ k=>exact⟨i,k,s,g⟩
  ·omega
 refine⟨h.fr.os,h.fr.tape,h.fr.output,h.fr.step,h.fr.rng,?_,?_,?_,?_⟩
 ·refine hv (z++E) _ _ (λi hi=>B2.2 (.inl hi)) Art I (λid c b o hi W M=>?_) _ 0 (λj a=>by rw[Ka,JF a]);rcases Jt b w.heap.size with Cs|J
  ·obtain⟨k,Rr,p,d,e⟩:=h.stp id c b o W M Cs;have n:=t k p d e;rw[Ka,<-Rr] at n;obtain⟨j,a⟩:=List.mem_iff_getElem?.1 hi;refine absurd n (y id ?_);exact B2.2 (.inl (List.mem_filterMap.2 ⟨some id,hi,rfl⟩))
  ·exact J
 ·refine V8 (z++E) _ (λi hi=>B2.2 (.inr hi)) Art (λi hi My=>QA i My (B2.2 (.inr hi))) I _ _ (λj a=>?_);rw[<-Q,IZ]
 ·intro j b o a;obtain⟨id,d,e⟩:=L j b o a;refine⟨h.blt id b o (Dy (Jf j id d)) e,λCs=>⟨JX j id b o d e Cs,λx hx=>?_⟩⟩;cases Rs:s'.hp id with
  |none=>have:=Jf j id d;rw[Rs] at this;exact this.elim
  |some bx=>
   have WV:=Jf j id d;rw[Rs] at WV;cases bx with
   |st c=>
    obtain⟨k,Rr,p,n,h4⟩:=h.stp id c b o Rs e Cs;have h5:=t k p n h4;rw[Ka,<-Rr] at h5;exact absurd h5 (y _ (Vy j _ d))
   |ar fz c=>exact h.rngB id _ b o Rs WV e Cs x hx
   |mv=>exact WV.elim
 ·intro j j' b o s a CR;obtain⟨id,d,e⟩:=L j b o a;obtain⟨K,ZU,X⟩:=L j' b s CR;have:=h.inj id K b o s (Jf j id d) (Jf j' K ZU) e X;subst this;exact Aj5 Bht d ZU
theorem Anl{G:KB}(Qd:NoNG P)(o:P.follows .mixedOrders=true){C:J7}{u:Nat}{F:Ao}(p:∀f args a,F f args=some a->Ej G P f args a){f:FuncId}{d:Func}{c:Code}(k:P.funcs[f]?=some d)(i:d.body=some c){args:Ae}{a:A8}(l:A77 C P u F f d c args=some a):Ej G P f args a:=by
 refine⟨⟨d,k,by rw[i];rfl⟩,λw Y q us KH r e=>?_⟩
 unfold A77 at l;obtain⟨tms,bs,Ft,Iy⟩:=Aqw KH l;obtain⟨Gf,s⟩:=Ay Ft;simp only[Ge] at Gf
 have Ef:us.length<=d.ntmps:=by
  rw[<-KH.args.len];exact Zy Gf.1
 obtain⟨t,β0,v⟩:=Iy Gf.2 Ef;refine calls_of_wp k i ?_;have x:Env P G w (Amo q args t):=⟨Qd,λw' j=>G.stable w w' (λb i Cs=>j.step.keep b Cs (e b i).2) r,e⟩
 refine Alu x p o c v s (λm n w' β' g h=>Abv KH g h) (λid m n w' β' g h=>by cases g) (λm n w' β' g h=>Abv KH g h)
def Aci(G:KB)(P:Program)(C:J7):Prop:=∀f g args a,C.ext f=some g->g args=some a->Ej G P f args a
theorem Nm{G:KB}(Qd:NoNG P)(b:P.follows .mixedOrders=true){C:J7}(e:Aci G P C){u:Nat}:∀(d:Nat)(f:FuncId)(args:Ae)(a:A8),Ac C P u d f args=some a->Ej G P f args a
 |0,_,_,_,h=>by cases h
 |d+1,f,args,a,h=>by
  unfold Ac at h;split at h
  ·rename_i g i;exact e f g args a i h
  ·split at h
   ·cases h
   ·rename_i l j;split at h
    ·cases h
    ·rename_i c k;exact Anl Qd b (Nm Qd b e d) j k h
end
open Go.ChangeShapes Go.WideShapes Go.ChangeAt Go.RowKit Go.Deep
def Agc(P:Program):List Field->Nat->Nat->Bool
 |[],i,n=>Nat.beq i n
 |f::r,i,n=>Nat.beq f.offset i&&Agc P r (i+P.cellsOf f.type) n
def S8(P:Program):Nat->TypeId->Bool
 |0,_=>false
 |d+1,t=>
  match P.underlying t with
  |some .bool=>true
  |some (.int _)=>true
  |some .string=>true
  |some (.slice e)=>S8 P d e&&Nat.blt 0 (P.cellsOf e)
  |some (.struct a)=>Agc P a.toList 0 (P.cellsOf t)&&a.toList.all λf=>S8 P d f.type
  |some (.array n e)=>Nat.beq (P.cellsOf t) (n*P.cellsOf e)&&S8 P d e
  |_=>false
def WT(P:Program):Nat->TypeId->Ae->Prop
 |0,_,_=>False
 |d+1,t,ps=>
  match P.underlying t with
  |some .bool=>∃b,ps=[.sc (.bool b)]
  |some (.int k)=>∃n,ps=[.sc (.int k n)]/\(Lit.int k n).wf=true
  |some .string=>∃s:ByteArray,ps=[.sc (.string s)]/\s.size<=maxLen
  |some (.slice e)=>∃rows:List Ae,ps=[.lst false (P.cellsOf e) rows.length rows.flatten]/\rows.length<=maxLen/\∀r∈rows,r.length=P.cellsOf e/\WT P d e r
  |some (.struct a)=>∃rows:List Ae,ps=rows.flatten/\Bv (λf r=>WT P d f.type r) a.toList rows
  |some (.array n e)=>∃rows:List Ae,ps=rows.flatten/\rows.length=n/\∀r∈rows,r.length=P.cellsOf e/\WT P d e r
  |_=>False
def WTv(P:Program)(t:TypeId)(p:PV):Prop:=
 match Cm P t with
 |true=>∃ps,p=.agg ps/\WT P 12 t ps
 |false=>WT P 12 t [p]
section
variable {P:Program}{d:Nat}{t e:TypeId}{ps:Ae}
theorem A3r(a:P.underlying t=some .bool):WT P (d+1) t ps↔∃b,ps=[.sc (.bool b)]:=by show (match P.underlying t with|some .bool=>_|some (.int k)=>_|some .string=>_|some (.slice e)=>_|some (.struct c)=>_|some (.array n e)=>_|_=>_)↔_;rw[a]
theorem Avm{k:IntKind}(a:P.underlying t=some (.int k)):WT P (d+1) t ps↔∃n,ps=[.sc (.int k n)]/\(Lit.int k n).wf=true:=by show (match P.underlying t with|some .bool=>_|some (.int k)=>_|some .string=>_|some (.slice e)=>_|some (.struct b)=>_|some (.array n e)=>_|_=>_)↔_;rw[a]
theorem Abj(a:P.underlying t=some .string):WT P (d+1) t ps↔∃s:ByteArray,ps=[.sc (.string s)]/\s.size<=maxLen:=by show (match P.underlying t with|some .bool=>_|some (.int k)=>_|some .string=>_|some (.slice e)=>_|some (.struct b)=>_|some (.array n e)=>_|_=>_)↔_;rw[a]
theorem Aib(a:P.underlying t=some (.slice e)):WT P (d+1) t ps↔∃rows:List Ae,ps=[.lst false (P.cellsOf e) rows.length rows.flatten]/\rows.length<=maxLen/\∀r∈rows,r.length=P.cellsOf e/\WT P d e r:=by show (match P.underlying t with|some .bool=>_|some (.int k)=>_|some .string=>_|some (.slice e)=>_|some (.struct b)=>_|some (.array n e)=>_|_=>_)↔_;rw[a]
theorem Abs{a:Array Field}(b:P.underlying t=some (.struct a)):WT P (d+1) t ps↔∃rows:List Ae,ps=rows.flatten/\Bv (λf r=>WT P d f.type r) a.toList rows:=by show (match P.underlying t with|some .bool=>_|some (.int k)=>_|some .string=>_|some (.slice e)=>_|some (.struct a)=>_|some (.array n e)=>_|_=>_)↔_;rw[b]
theorem Axe{n:Nat}(a:P.underlying t=some (.array n e)):WT P (d+1) t ps↔∃rows:List Ae,ps=rows.flatten/\rows.length=n/\∀r∈rows,r.length=P.cellsOf e/\WT P d e r:=by show (match P.underlying t with|some .bool=>_|some (.int k)=>_|some .string=>_|some (.slice e)=>_|some (.struct b)=>_|some (.array n e)=>_|_=>_)↔_;rw[a]
end
inductive Ki where
 |bool
 |int (k:IntKind)
 |str
 |sl (e:TypeId)
 |st (ts:List TypeId)
 |ar (n:Nat) (e:TypeId)
 |no
def Ok(P:Program)(t:TypeId):Ki:=
 match P.underlying t with
 |some .bool=>.bool
 |some (.int k)=>.int k
 |some .string=>.str
 |some (.slice e)=>.sl e
 |some (.struct a)=>.st (a.toList.map (·.type))
 |some (.array n e)=>.ar n e
 |_=>.no
section
variable {P:Program}{d:Nat}{t e:TypeId}{ps:Ae}{p:PV}
theorem Bv.map_left{α β γ:Type}{g:α->γ}{R:γ->β->Prop}:∀{l:List α}{r:List β},Bv (λa b=>R (g a) b) l r->Bv R (l.map g) r
 |[],[],_=>trivial
 |_::_,_::_,h=>⟨h.1,Bv.map_left h.2⟩
 |[],_::_,h=>h.elim
 |_::_,[],h=>h.elim
theorem Bv.cons_inv{α β:Type}{R:α->β->Prop}{a:α}{c:List α}:∀{rs:List β},Bv R (a::c) rs->∃r b,rs=r::b/\R a r/\Bv R c b
 |[],h=>h.elim
 |r::rs,h=>⟨r,rs,rfl,h.1,h.2⟩
theorem Bv.nil_inv{α β:Type}{R:α->β->Prop}:∀{rs:List β},Bv R ([]:List α) rs->rs=[]
 |[],_=>rfl
 |_::_,h=>h.elim
theorem Afz{k:IntKind}(a:Ok P t=.int k)(h:WT P d t ps):∃n,ps=[.sc (.int k n)]/\(Lit.int k n).wf=true:=by
 cases d with
 |zero=>exact h.elim
 |succ d=>
 unfold Ok at a;split at a<;>first|cases a|skip
 rename_i b;exact (Avm b).1 h
theorem Av6(a:Ok P t=.str)(h:WT P d t ps):∃s:ByteArray,ps=[.sc (.string s)]/\s.size<=maxLen:=by
 cases d with
 |zero=>exact h.elim
 |succ d=>
 unfold Ok at a;split at a<;>first|cases a|skip
 rename_i b;exact (Abj b).1 h
theorem A4u(a:Ok P t=.sl e)(h:WT P d t ps):∃rows:List Ae,ps=[.lst false (P.cellsOf e) rows.length rows.flatten]/\rows.length<=maxLen/\∀r∈rows,r.length=P.cellsOf e/\WT P (d-1) e r:=by
 cases d with
 |zero=>exact h.elim
 |succ d=>
 rw[Nat.add_sub_cancel];unfold Ok at a;split at a<;>first|cases a|skip
 rename_i b;exact (Aib b).1 h
theorem Bdx{ts:List TypeId}(a:Ok P t=.st ts)(h:WT P d t ps):∃rows:List Ae,ps=rows.flatten/\Bv (WT P (d-1)) ts rows:=by
 cases d with
 |zero=>exact h.elim
 |succ d=>
 rw[Nat.add_sub_cancel];unfold Ok at a;split at a<;>first|cases a|skip
 rename_i f b;obtain⟨rows,c,e⟩:=(Abs b).1 h;exact⟨rows,c,Bv.map_left e⟩
theorem A1j(a:Cm P t=true)(h:WTv P t p):∃ps,p=.agg ps/\WT P 12 t ps:=by unfold WTv at h;rw[a] at h;exact h
theorem Aoj(a:Cm P t=false)(h:WTv P t p):WT P 12 t [p]:=by unfold WTv at h;rw[a] at h;exact h
theorem A2g{k:IntKind}(a:Cm P t=false)(c:Ok P t=.int k)(h:WTv P t p):∃n,p=.sc (.int k n)/\(Lit.int k n).wf=true:=by obtain⟨b,e,h⟩:=Afz c (Aoj a h);exact⟨b,by injection e,h⟩
theorem RZ{α:Type}(f:α->Ae)(Q:α->Prop):∀{rows:List Ae},(∀r∈rows,∃x,r=f x/\Q x)->∃B:List α,rows.flatten=B.flatMap f/\rows.length=B.length/\∀x∈B,Q x
 |[],_=>⟨[],rfl,rfl,Ψ⟩
 |r::rows,h=>by
  obtain⟨x,b,c⟩:=h r Ψ;obtain⟨B,d,e,g⟩:=RZ (rows:=rows) f Q λr i=>h r (by simp[i]);refine⟨x::B,by simp[b,d],by simp[e],λy a=>?_⟩;rcases List.mem_cons.1 a with rfl|a
  ·exact c
  ·exact g y a
end
abbrev No:Nat->Prop:=λ_=>False
section
variable {H:Type}{enc:TypeId × Value->H}{P:Program}{w:World}{base:Nat}{held:Bool}
theorem Bv.flat{α β:Type}{R:α->β->Prop}:∀{l:B9}{f:Nat->List α}{g:Nat->List β},(∀i∈l,Bv R (f i) (g i))->Bv R (l.map f).flatten (l.map g).flatten
 |[],_,_,_=>trivial
 |i::l,f,g,h=>by
  simp only[CZ,List.flatten_cons];exact (h i Ψ).app (Bv.flat λj a=>h j (by simp[a]))
theorem Arc{a:Addr}{v:Value}(h:w.cell? a=some v):a.spot=none/\a.block<w.heap.size:=by
 unfold World.cell? at h;split at h
 ·rename_i c t f e;refine⟨?_,?_⟩
  ·cases d:a.spot with
   |none=>rfl
   |some x=>rw[d] at h;simp at h
  ·rcases Jt a.block w.heap.size with b|b
   ·exact b
   ·rw[Array.getElem?_eq_none b] at e;cases e
 ·cases h
theorem VV{α:Type}{g:Nat->List α}{es:Nat}:∀{n:Nat},(∀i,i<n->(g i).length=es)->((List.range n).map g).flatten.length=n*es
 |0,_=>Ψ
 |n+1,h=>by
  rw[List.range_succ,List.map_append,List.flatten_append,Vl,VV (λi hi=>h i Ω)];simp[h n Ω,Nat.succ_mul]
theorem ZD{a:Addr}{g:Nat->List Value}{es:Nat}:∀{n:Nat},(∀i,i<n->(g i).length=es)->(∀i,i<n->∀k,k<es->w.cell? (a.add (i*es+k))=(g i)[k]?) ->
  ∀j,j<n*es->w.cell? (a.add j)=(((List.range n).map g).flatten)[j]?
 |0,_,_,j,b=>Ω
 |n+1,c,d,j,b=>by
  have DO:=VV (λi (hi:i<n)=>c i Ω);rw[List.range_succ,List.map_append,List.flatten_append,List.getElem?_append,DO];rw[Nat.succ_mul] at b;split
  ·rename_i e;exact ZD (λi hi=>c i Ω) (λi hi=>d i Ω) j e
  ·rename_i e;have:=d n Ω (j-n*es) Ω;rw[show n*es+(j-n*es)=j by omega] at this
   simpa using this
abbrev TR(w:World)(c:PV)(v:Value):Prop:=(HU c/\A9 w No c v)/\v.oneCell'=true
theorem SE{d:Nat}{cs:List Value}{n:Nat}(e:cs.length=n):∀(l:List Field)(i:Nat),Agc P l i n=true ->
  (∀f∈l,∃ps,WT P d f.type ps/\Bv (TR w) ps ((cs.drop f.offset).take (P.cellsOf f.type)))->∃rows:List Ae,Bv (λf r=>WT P d f.type r) l rows/\Bv (TR w) rows.flatten (cs.drop i)
 |[],i,a,_=>by
  have:=El a;refine⟨[],trivial,?_⟩;rw[List.drop_of_length_le Ω];trivial
 |f::l,i,a,h=>by
  simp only[Agc,Ge] at a;have b:=El a.1;obtain⟨ps,j,c⟩:=h f Ψ;obtain⟨rows,k,m⟩:=SE e l _ a.2 λg o=>h g (by simp[o]);refine⟨ps::rows,⟨j,k⟩,?_⟩;rw[b] at c;have:cs.drop i=(cs.drop i).take (P.cellsOf f.type)++cs.drop (i+P.cellsOf f.type):=by rw[<-List.drop_drop];exact (List.take_append_drop _ _).symm
  rw[this,List.flatten_cons];exact c.app m
theorem YB{d:Nat}{e:TypeId}{cs:List Value}{k:Nat}:∀(n:Nat),n*k<=cs.length ->
  (∀i,i<n->∃ps,(ps.length=k/\WT P d e ps)/\Bv (TR w) ps ((cs.drop (i*k)).take k))->∃rows:List Ae,rows.length=n/\(∀r∈rows,r.length=k/\WT P d e r)/\Bv (TR w) rows.flatten (cs.take (n*k))
 |0,_,_=>⟨[],rfl,Ψ,by simp[Bv]⟩
 |n+1,b,h=>by
  rw[Nat.succ_mul] at b;obtain⟨rows,c,f,g⟩:=YB n Ω λi hi=>h i Ω;obtain⟨ps,j,l⟩:=h n Ω;refine⟨rows++[ps],by simp[c],?_,?_⟩
  ·intro r a;rcases B2.1 a with a|a
   ·exact f r a
   ·rw[Xx.1 a];exact j
  ·rw[List.flatten_append,Nat.succ_mul,List.take_add];refine g.app ?_
   simpa using l
theorem FJ:∀(d:Nat)(t:TypeId),S8 P d t=true->∀(fuel:Nat)(cs:List Value)(x:DataW H × List MemPlace),DataW.trod enc P w base (λ_=>true) held fuel t cs=some x ->
  ∃ps,WT P d t ps/\Bv (TR w) ps cs
 |0,_,h,_,_,_,_=>by cases h
 |d+1,t,hp,fuel,cs,x,h=>by
  unfold S8 at hp;split at hp
  ·rename_i l;obtain⟨b,rfl,_⟩:=DataW.trod_bool l h;simp only[A3r l];exact⟨[.sc (.bool b)],⟨b,rfl⟩,⟨⟨trivial,A9.sc _⟩,rfl⟩,trivial⟩
  ·rename_i k l;obtain⟨n,rfl,_,N⟩:=DataW.trod_int l h;simp only[Avm l];exact⟨[.sc (.int k n)],⟨n,rfl,N⟩,⟨⟨trivial,A9.sc _⟩,rfl⟩,trivial⟩
  ·rename_i l;obtain⟨s,rfl,_,N⟩:=DataW.trod_string l h;simp only[Abj l];exact⟨[.sc (.string s)],⟨s,rfl,N⟩,⟨⟨trivial,A9.sc _⟩,rfl⟩,trivial⟩
  ·rename_i e l;simp only[Ge] at hp;have CH:0<P.cellsOf e:=Nat.lt_of_succ_le (Zy hp.2);simp only[Aib l];rcases open_slice l h with⟨rfl,_⟩|⟨a,len,Z,m,n,D,Pl,rfl,_,hl,hm,I,_,hi⟩
   ·exact⟨[.lst false (P.cellsOf e) 0 []],⟨[],Ψ,Ψ,Ψ⟩,⟨⟨trivial,A9.lnil _ _⟩,rfl⟩,trivial⟩
   ·simp only[if_true] at I;subst I
    have p:∀i,i<len->∃q:Ae × List Value,(q.2.length=P.cellsOf e/\(∀k,k<P.cellsOf e->w.cell? (a.add (i*P.cellsOf e+k))=q.2[k]?))/\WT P d e q.1/\Bv (TR w) q.1 q.2:=by
     intro i Cs;obtain⟨O,hc,ht⟩:=hi i Ω;obtain⟨_,So,Q⟩:=World.cells?_some hc;obtain⟨ps,o,J⟩:=FJ d e hp.1 _ _ _ ht;exact⟨(ps,O),⟨So,λk hk=>by rw[<-Pv.add_add];exact Q k hk⟩,o,J⟩
    obtain⟨F,A⟩:=choose_lt p;refine⟨[.lst false (P.cellsOf e) len ((List.range len).map λi=>(F i).1).flatten],⟨(List.range len).map λi=>(F i).1,Ψ,by simp;omega,?_⟩,⟨⟨trivial,?_⟩,rfl⟩,trivial⟩
    ·intro r hr;obtain⟨i,R,rfl⟩:=List.mem_map.1 hr;have C:=List.mem_range.1 R;exact⟨by rw[(A i C).2.2.len];exact (A i C).1.1,(A i C).2.1⟩
    ·rcases Nat.eq_zero_or_pos len with M|M
     ·subst M;exact A9.lemp _ _ _
     ·have X:Bv (TR w) ((List.range len).map λi=>(F i).1).flatten ((List.range len).map λi=>(F i).2).flatten:=Bv.flat λi hi=>(A i (List.mem_range.1 hi)).2.2;have Eu:=ZD (w:=w) (a:=a) (g:=λi=>(F i).2) (λi hi=>(A i hi).1.1) (λi hi=>(A i hi).1.2);have Ef:=VV (g:=λi=>(F i).2) (λi (hi:i<len)=>(A i hi).1.1)
      have S:w.cell? a≠none:=by
       have:=Eu 0 (Nat.mul_pos M CH);rw[show a.add 0=a by unfold Addr.add;simp] at this
       rw[this,List.getElem?_eq_getElem (by rw[Ef];exact Nat.mul_pos M CH)]
       simp
      obtain⟨v0,T⟩:=Option.ne_none_iff_exists'.1 S;obtain⟨hs,hb⟩:=Arc T
      have E:∀j c,(((List.range len).map λi=>(F i).1).flatten)[j]?=some c->∃v,w.cell? (a.add j)=some v/\TR w c v:=by
       intro j c y
       have G:j<len*P.cellsOf e:=by
        rw[<-Ef,<-X.len];rcases Jt j (((List.range len).map λi=>(F i).1).flatten).length with o|o
        ·exact o
        ·rw[List.getElem?_eq_none o] at y;cases y
       have o:=Eu j G;rw[List.getElem?_eq_getElem (by rw[Ef];exact G)] at o
       exact⟨_,o,X.at_ y (List.getElem?_eq_getElem (by rw[Ef];exact G))⟩
      refine A9.lst _ _ _ a _ (λj=>(w.cell? (a.add j)).getD undef) hs hb (λh=>h) hl (λj c y=>?_) (λj c y=>?_) (λj c y=>?_)
      ·obtain⟨v,K,_⟩:=E j c y;rw[K];rfl
      ·obtain⟨v,K,ht⟩:=E j c y;rw[K];exact ht.2
      ·obtain⟨v,K,ht⟩:=E j c y;rw[K];exact ht.1.2
  ·rename_i U l;simp only[Ge] at hp;simp only[Abs l];obtain⟨B,n,_,_,Ef,V,W⟩:=DataW.trod_struct l h
   obtain⟨rows,o,J⟩:=SE (P:=P) (w:=w) (d:=d) Ef U.toList 0 hp.1 λf L=>by
    obtain⟨i,hi⟩:=List.mem_iff_getElem?.1 L;have p:U[i]?=some f:=by simpa using hi
    have Cs:i<U.size:=(Array.getElem?_eq_some_iff.1 p).1;have z:=W i f p;rw[List.getElem?_eq_getElem Ω] at z;exact FJ d f.type (List.all_eq_true.1 hp.2 f L) _ _ _ z
   exact⟨_,⟨rows,rfl,o⟩,by simpa using J⟩
  ·rename_i n e l;simp only[Ge] at hp;simp only[Axe l];obtain⟨B,m,_,_,Ef,V,W⟩:=DataW.trod_array l h;have Wh:=El hp.1
   obtain⟨rows,o,J,z⟩:=YB (P:=P) (w:=w) (d:=d) (e:=e) (cs:=cs) (k:=P.cellsOf e) n Ω λi hi=>by
    have z:=W i hi;rw[List.getElem?_eq_getElem Ω] at z;obtain⟨ps,h4,Y⟩:=FJ d e hp.2 _ _ _ z;refine⟨ps,⟨?_,h4⟩,Y⟩;rw[Y.len,List.length_take,List.length_drop,Ef,Wh];have:(i+1)*P.cellsOf e<=n*P.cellsOf e:=Nat.mul_le_mul_right _ hi;rw[Nat.succ_mul] at this;omega
   refine⟨_,⟨rows,rfl,o,J⟩,?_⟩;rw[Jo Ω] at z;exact z
  ·cases hp
theorem Av7{r:Reach}{b0:Nat}{t:TypeId}{v:Value}{o:DataW H}{p:List MemPlace}(hp:S8 P 12 t=true)(g:Value.okWide P w r b0 t v)(h:DataW.Trod enc P w base (λ_=>true) held t v o p):
  ∃q,WTv P t q/\AX w No q v:=by
 obtain⟨fuel,j⟩:=h;obtain⟨ps,l,f⟩:=FJ 12 t hp fuel _ _ j;unfold WTv Cm
 have two:∀{i:Array Value},v=.agg i->∃q,(∃ps,q=.agg ps/\WT P 12 t ps)/\AX w No q v:=by
  intro i e;subst e;exact⟨.agg ps,⟨ps,rfl,l⟩,i.toList,Ψ,f.mono λc v h=>h.1⟩
 have one:v.cells.toList=[v]->∃q,WT P 12 t [q]/\AX w No q v:=by
  intro e;rw[e] at f
  match ps,f with
  |[q],f=>
   refine⟨q,l,?_⟩;have m:=f.1.1;cases q<;>first|exact m|exact m.1.elim
  |[],f=>exact f.elim
  |_::_::_,f=>exact f.2.elim
 unfold S8 at hp;split at hp
 ·rename_i d;simp only[d];obtain⟨b,rfl,_⟩:=open_bool d g ⟨fuel,j⟩;exact one rfl
 ·rename_i k d;simp only[d];obtain⟨b,rfl,_⟩:=open_int d g ⟨fuel,j⟩;exact one rfl
 ·rename_i d;simp only[d];obtain⟨b,rfl,_⟩:=ChangeMaps.open_string d g ⟨fuel,j⟩;exact one rfl
 ·rename_i e d;simp only[d];obtain⟨a,len,s,rfl⟩:=okWide_slice d g;exact one rfl
 ·rename_i x d;simp only[d];obtain⟨i,rfl,_⟩:=okWide_struct d g;exact two rfl
 ·rename_i n e d;simp only[d];unfold Value.okWide at g;simp only[d] at g;obtain⟨i,rfl,_⟩:=g;exact two rfl
 ·cases hp
theorem Ac4:∀{ts:List TypeId}{vs:List Value}{a:List (DataW H)} {p:List MemPlace}{r:Reach}{b0:Nat},(ts.all λt=>S8 P 12 t)=true->(∀(j:Nat) t v,ts[j]?=some t->vs[j]?=some v->Value.okWide P w r b0 t v) ->
  DataW.TrodAll enc P w base (λ_=>true) held ts vs a p->∃b,Bv (WTv P) ts b/\Bv (AX w No) b vs
 |[],[],[],_,_,_,_,_,_=>⟨[],trivial,trivial⟩
 |t::ts,v::vs,d::a,_,r,b0,hp,c,⟨p,q,e,f,_⟩=>by
  simp only[List.all_cons,Ge] at hp;obtain⟨x,g,i⟩:=Av7 hp.1 (c 0 t v rfl rfl) e;obtain⟨B,k,l⟩:=Ac4 hp.2 (λj t v ht m=>c (j+1) t v ht m) f;exact⟨x::B,⟨g,k⟩,i,l⟩
 |[],_::_,_,_,_,_,_,_,h=>by cases h
 |[],[],_::_,_,_,_,_,_,h=>by cases h
 |_::_,[],_,_,_,_,_,_,h=>by cases h
 |_::_,_::_,[],_,_,_,_,_,h=>by cases h
theorem HY(g:laidOutB P=true){W i:World}{j:Nat->Bool}:∀{ts:List TypeId}{vs:List Value}{f:List (DataW H)} {p:List MemPlace},(ts.all λt=>P.readableRec t&&Nat.blt t P.types.size)=true ->
  DataW.TrodAll enc P W 0 (λ_=>true) true ts vs f p->(∀x∈p,W.sameAt i x)->(∀x∈p,j x.block=true)->DataW.TrodAll enc P i 0 j true ts vs f p
 |[],[],[],_,_,h,_,_=>h
 |t::ts,v::vs,d::f,_,c,⟨p,q,l,m,e⟩,k,b=>by
  simp only[List.all_cons,Ge] at c;refine⟨p,q,WideElems.Trod_stays g c.1.1 (Nat.lt_of_succ_le (Zy c.1.2)) l (λx a=>k x ?_) (λx a=>b x ?_),HY g c.2 m (λx a=>k x ?_) (λx a=>b x ?_),e⟩
  all_goals rw[e,B2]
  ·exact .inl a
  ·exact .inl a
  ·exact .inr a
  ·exact .inr a
 |[],_::_,_,_,_,h,_,_=>by cases h
 |[],[],_::_,_,_,h,_,_=>by cases h
 |_::_,[],_,_,_,h,_,_=>by cases h
 |_::_,_::_,[],_,_,h,_,_=>by cases h
theorem Aab{f:Func}{s:ChangeSpec}{apart fresh Adz again:Bool}{W d:World}{args:Array Value}{v:Value}{e g:List (DataW H)}{before pa pv:List MemPlace}(h:DataW.Whole enc P f.params.toList s.vars apart W args.toList e g before)(Bd3:∀(b:Nat)(c:Nat->Bool)(hd:Bool),DataW.TrodAll enc P d b c hd f.resultTypes.toList (v.resultList f.resultTypes.size) (s.fn H (e++g)).results [])(k:∀c:Nat->Bool,(∀p∈before,c p.block=true)->DataW.TrodAll enc P d 0 c true f.params.toList args.toList (s.fn H (e++g)).args pa)(Ag7:∀c:Nat->Bool,(∀p∈before,c p.block=true)->DataW.TrodVars enc P d c s.vars (s.fn H (e++g)).vars pv)(TJ:before=pa++pv)(l:Below W.heap.size W d)(i:∀(j:Nat)(t:TypeId)(r:Value),f.resultTypes[j]?=some t->(v.resultList f.resultTypes.size)[j]?=some r->Value.okWide P d .any 0 t r):
  s.post enc P f apart fresh Adz again W args v d:=by
 have Cs:∀p∈before,p.block<W.heap.size:=λp hp=>h.lt p hp;have a:∀p∈before,(λb=>decide (b<W.heap.size)) p.block=true:=λp hp=>by simpa using Cs p hp
 refine⟨e,g,before,[],pa,pv,h,Bd3 _ _ _,k _ a,Ag7 _ a,World.keptBut_mono (λp hp=>⟨hp,?_⟩) (l.frame (· ∈ before)),λ_=>?_⟩
 ·rw[TJ,B2] at hp;exact Or.inr hp
 ·obtain⟨_,_,_,_,_,m,n⟩:=h;refine⟨i,_,_,([]++pa)++pv,⟨[]++pa,pv,trodAll_append (k _ (λ_ _=>rfl)) (Bd3 _ _ _),Ag7 _ (λ_ _=>rfl),rfl,?_,?_⟩,?_⟩
  ·intro b off hp;have KH:MemPlace.cell b off∈before:=by rw[TJ];simpa using hp
   rw[l.frozen (Cs _ KH)];exact m b off KH
  ·intro o;have:=n o;rw[TJ] at this
   simpa using this
  ·intro p hp _;rw[TJ]
   simpa using hp
theorem law_contract{G:KB}{C:J7}(m:Aci G P C)(Qd:NoNG P)(S:P.follows .mixedOrders=true)(T:laidOutB P=true){f:FuncId}{g:Func}{s:ChangeSpec}{M:TypeId}(U:P.funcs[f]?=some g)(Ag7:s.vars=[])(Bbn:∀c:List (DataW H),c.length=g.params.size->s.fn H c={ results:=[.lit (.bool true)],args:=c })(A8f:(g.params.toList.all λt=>S8 P 12 t)=true)(Bc0:(g.params.toList.all λt=>P.readableRec t&&Nat.blt t P.types.size)=true)(r:g.resultTypes = #[M])(w:P.underlying M=some .bool){apart fresh Adz again:Bool}(W:World)(base:Nat)(args:Array Value)(c V:List (DataW H))(before:List MemPlace)(y:∀(j:Nat) t v,g.params[j]?=some t->args[j]?=some v->Value.okWide P W .any base t v)(N:DataW.Whole enc P g.params.toList s.vars apart W args.toList c V before)(Bj1:∀z:Ae,Bv (WTv P) g.params.toList z->∃u d,Ac C P u d f z=some ⟨[.sc (.bool true)],[]⟩)(X:G.ok W)(J:∀b,G.bl b->b<W.heap.size):
  Calls P f args W λe E=>∃v,e=.returned v/\s.post enc P g apart fresh Adz again W args v E:=by
 have A:=N;obtain⟨p,q,K,O,rfl,QA,Y⟩:=N;rw[Ag7] at O;obtain⟨rfl,rfl⟩:=trodVars_none O;obtain⟨z,Z,L⟩:=Ac4 A8f (λj t v ht i=>y j t v (by simpa using ht) (by simpa using i)) K;obtain⟨u,d,hc⟩:=Bj1 z Z;have Q:=(Nm Qd S m d f z _ hc).2 W No Ai1 args.toList (Aju (λb h=>h.elim) L) X (λb I=>⟨J b I,Yl b⟩);rw[Array.toArray_toList] at Q;refine Q.mono λe E ⟨l,own,he,o⟩=>?_;have i:=o.vals
 have CJ:l=[.bool true]:=by
  match l,i with
  |[a],i=>
   have:A9 E _ (.sc (.bool true)) a:=i.1;rw[this.val]
  |[],i=>exact i.elim
  |_::_::_,i=>exact i.2.elim
 subst CJ;subst he;have I:Below W.heap.size W E:=⟨o.os,o.tape,o.output,o.ext.size,λk hk=>o.ext.keep k hk (Yl k)⟩
 have Cs:∀x∈p,x.block<W.heap.size:=λx m=>A.lt x (by simpa using m)
 have Ef:c.length=g.params.size:=by
  have:∀{D:List TypeId} {l:List Value} {c:List (DataW H)} {p:List MemPlace},DataW.TrodAll enc P W 0 (λ_=>true) true D l c p->c.length=D.length:=by
   intro D
   induction D with
   |nil=>intro l c p h;cases l<;>cases c<;>first|rfl|cases h
   |cons t D ih=>
    intro l c p h;cases l with
    |nil=>cases h
    |cons v l=>
     cases c with
     |nil=>cases h
     |cons d c=>obtain⟨_,_,_,L,_⟩:=h;simp[ih L]
  simpa using this K
 have n:=Bbn (c++[]) (by simpa using Ef);refine⟨_,rfl,Aab (pa:=p) (pv:=[]) A ?_ ?_ ?_ rfl I ?_⟩
 ·intro b R hd;rw[n,r];exact trodAll_mk1 (shut_bool w _)
 ·intro R Bjb;rw[n];simp only[List.append_nil];exact HY T Bc0 K (λx m=>I.same (Cs x m)) (λx m=>Bjb x (by simpa using m))
 ·intro R _;rw[n,Ag7];rfl
 ·exact ok_one r rfl (okWide_bool_mk w _)
end
end
section
open Go.Proofs.Tryz (prog)
theorem UI{d:Nat}{ps:Ae}{k:IntKind}{t e:TypeId}(b:Ok prog t=.sl e)(c:prog.cellsOf e=1)(f:Ok prog e=.int k)(h:WT prog d t ps):
  ∃l:Ak,ps=[.lst false 1 l.length (Af k l)]/\l.length<=maxLen/\∀n∈l,(Lit.int k n).wf=true:=by
 obtain⟨rows,rfl,o,g⟩:=A4u b h;obtain⟨l,i,j,m⟩:=RZ (A7p k) (λn=>(Lit.int k n).wf=true) λr a=>Afz f (g r a).2;refine⟨l,?_,Ω,m⟩;rw[i,j,c]
theorem A6r{d:Nat}{ps:Ae}{k:Nat}{t e:TypeId}(a:Ok prog t=.sl e)(b:prog.cellsOf e=k)(h:WT prog d t ps):
  ∃rows:List Ae,ps=[.lst false k rows.length rows.flatten]/\rows.length<=maxLen/\∀r∈rows,r.length=k/\WT prog (d-1) e r:=by
 subst b;exact A4u a h
theorem Bd1{n:Int}(h:(Lit.int .u8 n).wf=true):0<=n/\n<=255:=by simp[Lit.wf,IntKind.min,IntKind.max,IntKind.signed,IntKind.bits] at h;omega
theorem Ahs{p:PV}{k:IntKind}{t e:TypeId}(a:Cm prog t=false)(b:Ok prog t=.sl e)(c:prog.cellsOf e=1)(d:Ok prog e=.int k)(h:WTv prog t p):
  ∃l:Ak,p=.lst false 1 l.length (Af k l)/\l.length<=maxLen/\∀n∈l,(Lit.int k n).wf=true:=by
 have f:=Aoj (P:=prog) (t:=t) (p:=p) a h;obtain⟨l,g,i,j⟩:=UI b c d f;exact⟨l,by injection g,i,j⟩
end
instance : Coe Int PV:=⟨λx=>.sc (.int .i64 x)⟩
instance : Coe Bool PV:=⟨λx=>.sc (.bool x)⟩
instance : Coe ByteArray PV:=⟨λx=>.sc (.string x)⟩
abbrev Cn(x:Bool):PV:=.sc (.bool x)
abbrev Bf(x:ByteArray):PV:=.sc (.string x)
theorem Bc{x:Int}(a:-9223372036854775808<=x:=by omega)(b:x<=9223372036854775807:=by omega):IntKind.wrap .i64 x=x:=E0 a b
theorem Do{x:Int}(a:0<=x:=by omega)(b:x<=18446744073709551615:=by omega):IntKind.wrap .u64 x=x:=XA a b
theorem Bi{x y:Int}(a:-9223372036854775808<=x:=by omega)(b:x<=9223372036854775807:=by omega)(h:x=y:=by omega):IntKind.wrap .i64 x=y:=(E0 a b).trans h
abbrev A0(x:Int):PV:=.sc (.int .i64 x)
abbrev Ag(x:Int):PV:=.sc (.int .u64 x)
abbrev Ap(k n:Nat)(l:Ae):PV:=.lst false k n l
abbrev Bd(l:Ae):Option A8:=some ⟨l,[]⟩
abbrev De(c:Option A8)(k:PV->Ae->Option A8):Option A8:=An c λx y=>Ah y<|Ad x k
abbrev Bw(k:IntKind)(l:Ae)(f:Int->Ae->Option A8):Option A8:=Ad l λx y=>Bn k x λz=>f z y
abbrev Gm(k:IntKind)(c:Option A8)(f:Int->Option A8):Option A8:=An c λx y=>Ah y<|Ad x λz t=>Bn k z λu=>Ah t<|f u
abbrev Ov(k:Nat)(l:Ae)(f:Nat->Ae->Ae->Option A8):Option A8:=Ad l λx y=>FF k x λ_ n c=>f n c y
abbrev ZzO(k:Nat)(l:Ae)(f:Nat->Ae->Ae->Option A8):Option A8:=Ad l λx y=>Na k x λn c=>f n c y
abbrev Hm(l:Ae)(f:Bool->Option A8):Option A8:=Ad l λx y=>Be x λz=>Ah y<|f z
abbrev Br(k:IntKind)(l:Ae)(f:Int->Option A8):Option A8:=Ad l λx y=>Bn k x λz=>Ah y<|f z
abbrev ZzA(n k m:Nat)(l e:Ae)(f:Nat->Ae->Option A8):Option A8:=Aw (decide (n*k<=l.length)&&true&&decide ((n+1)*m<=1099511627776)&&decide (n+1<=1099511627776))<|f (n+1) (List.take (n*k) l++e)
abbrev H6(u:Nat)(F:Ao)(i:FuncId)(f:Func):=Bb7 CB prog u F i f (A8b f)
inductive ZzQ:Bool->Bool->Prop
|t:ZzQ true true
|f:ZzQ false false
theorem H4{R:Type}{b c:Bool}{x y r:Option R}(h:ZzQ b c)(k:(match (generalizing:=false) c with|true=>x|false=>y)=r):Aq b x y=r:=by cases h<;>exact k
theorem H5:type_of% gT/\type_of% gF/\type_of% @Bool.not_true/\type_of% @Bool.not_false/\type_of% @decide_eq_true/\type_of% @decide_eq_false/\type_of% @decide_true/\type_of% @decide_false:=⟨gT,gF,@Bool.not_true,@Bool.not_false,@decide_eq_true,@decide_eq_false,@decide_true,@decide_false⟩
theorem Au(n k m:Nat)(l e:Ae)(f:Nat->Ae->Option A8):ZzA n k m l e f=(Aw (decide (n*k<=l.length)&&true&&decide ((n+1)*m<=1099511627776)&&decide (n+1<=1099511627776))<|f (n+1) (List.take (n*k) l++e)):=by exact id rfl
abbrev BA(C:J7)(u d:Nat)(F:FuncId)(l:Ae)(b:Ao->Option A8):Prop:=Ac C prog u (d+1) F l=b (Ac C prog u d)
section
variable {B:FuncId->Option (Ae->Option A8)}(u d:Nat)(F:Ao)
theorem HK(Z Y:Int):BA (CX B) u d 157 [Ag Z,Y] λF=>Aa (wrap .u64 Y) λa=>Aa (C5 .u64 a 63) λa=>Aw (decide (0<=a))<|Aa (Dx .u64 Z a) λb=>Aa (wrap .u64 (64-a)) λa=>Aw (decide (0<=a))<|Aa (Gs .u64 Z a) λa=>Aa (Vg .u64 b a) λa=>Bd [Ag a]:=Φ
def Je(Z:Nat)(Y:Ae)(X W V:Nat)(U:Ae)(T S:Int)(Q:Ae):Option A8:=H6 u F 74 Tryz.f74 [Ap 1 Z Y] [.r,.r,.l,.r,.l] X ⟨lk [(3,.view 3 1 0 W),(11,Ap 1 V U),(12,T),(13,S)],Fe [(3,.ar false Q)]⟩
def Mp(Z:Nat)(Y:Ae)(X W V:Nat)(U:Int)(T:Nat)(S:Ae)(Q P O:Int)(N:Ae):Option A8:=H6 u F 74 Tryz.f74 [Ap 1 Z Y] [.r,.r,.l,.r,.l,.i X,.r,.r,.l,.l,.r,.r,.l] W ⟨lk [(3,.view 3 1 0 V),(5,Ag U),(11,Ap 1 T S),(12,Q),(13,P),(17,O)],Fe [(3,.ar false N)]⟩
theorem V9(T:Nat)(S:Ae)(Q Y W:Nat)(V:Ae)(U Z:Int)(X:Ae):Je u F T S (Q+1) Y W V U Z X=(Aq (decide (Z<U)) (Aw (decide (0<=Z)&&decide (Z<(↑W:Int)))<|Bn .u64 (V.getD (Z.toNat*1) .top) λa=>Mp u F T S Q u Y a W V U Z 0 X) (Aw (decide (Y*1<=X.length))<|Bd [.own 1 Y (X.take (Y*1))])):=Κ
theorem Wk(Y:Nat)(X:Ae)(W N V:Nat)(U:Int)(T:Nat)(S:Ae)(Q P Z:Int)(O:Ae):Mp u F Y X W (N+1) V U T S Q P Z O=(Aq (decide (Z<8)) (Aa (wrap .i64 (8*Z)) λa=>Aa (wrap .i64 (56-a)) λa=>Aw (decide (0<=a))<|Aa (Gs .u64 U a) λa=>Aa (wrap .u8 a) λa=>ZzA V 1 1 O [.sc (.int .u8 a)] λa b=>Aa (wrap .i64 (Z+1)) λc=>Mp u F Y X W N a U T S Q P c b) (Aa (wrap .i64 (P+1)) λa=>Je u F Y X W V T S Q a O)):=Κ
theorem XB(Z:Nat)(Y:Ae):BA (CX B) u d 74 [Ap 1 Z Y] λF=>Aa (wrap .i64 (8*(↑Z:Int))) λa=>Aw (decide (0<=a)&&decide (a*1<=1099511627776)&&decide (a<=1099511627776))<|Je u F Z Y u 0 Z Y (↑Z:Int) 0 ([]):=Φ
def K2(Z:Nat)(Y:Ae)(X:Nat)(W:Int)(V:Nat)(U:Ae)(T S:Int):Option A8:=H6 u F 134 Tryz.f134 [Ap 1 Z Y] [.r,.r,.l,.r,.l] X ⟨lk [(3,Ag W),(6,Ap 1 V U),(7,T),(8,S)],Fe []⟩
theorem Uh(U:Nat)(T:Ae)(S:Nat)(Y:Int)(X:Nat)(W:Ae)(V Z:Int):K2 u F U T (S+1) Y X W V Z=(Aq (decide (Z<V)) (Aw (decide (0<=Z)&&decide (Z<(↑X:Int)))<|Bn .u8 (W.getD (Z.toNat*1) .top) λa=>Aa (wrap .u64 a) λa=>Aa (wrap .i64 (8*Z)) λb=>Aw (decide (0<=b))<|Aa (Dx .u64 a b) λa=>Aa (Vg .u64 Y a) λa=>Aa (wrap .i64 (Z+1)) λb=>K2 u F U T S a X W V b) (Bd [Ag Y])):=Κ
theorem SR(Z:Nat)(Y:Ae):BA (CX B) u d 134 [Ap 1 Z Y] λF=>K2 u F Z Y u 0 Z Y (↑Z:Int) 0:=Φ
def Gt(Z Y:Int)(X W V:Int)(U:Nat)(T S:Int)(Q P:Int)(O N:Int):Option A8:=H6 u F 135 Tryz.f135 [.pbox [Ag Z,Ag Y,Ag X,Ag W],V] [.r,.l] U ⟨lk [(0,.ptr 288000 0),(4,T),(5,S)],Fe [(288000,.st [Ag Q,Ag P,Ag O,Ag N])]⟩
theorem L7(T S:Int)(Q P O:Int)(N:Nat)(X W:Int)(V Z:Int)(U Y:Int):Gt u F T S Q P O (N+1) X W V Z U Y=(Aq (decide (W<X)) (Aa (wrap .u64 (V+Z)) λa=>Gm .u64 (F 157 [Ag Z,(13:Int)]) λb=>Aa (E4 .u64 b a) λb=>Gm .u64 (F 157 [Ag a,(32:Int)]) λa=>Aa (wrap .u64 (U+Y)) λc=>Gm .u64 (F 157 [Ag Y,(16:Int)]) λe=>Aa (E4 .u64 e c) λe=>Aa (wrap .u64 (a+e)) λa=>Gm .u64 (F 157 [Ag e,(21:Int)]) λe=>Aa (E4 .u64 e a) λe=>Aa (wrap .u64 (c+b)) λc=>Gm .u64 (F 157 [Ag b,(17:Int)]) λb=>Aa (E4 .u64 b c) λb=>Gm .u64 (F 157 [Ag c,(32:Int)]) λc=>Aa (wrap .i64 (W+1)) λf=>Gt u F T S Q P O N X f a b c e) (some ⟨[],[[Ag V,Ag Z,Ag U,Ag Y]]⟩)):=Κ
theorem CF(Z Y:Int)(X W V:Int):BA (CX B) u d 135 [.pbox [Ag Z,Ag Y,Ag X,Ag W],V] λF=>Gt u F Z Y X W V u V 0 Z Y X (W):=Φ
theorem CM(Y X:Int)(W V Z:Int):BA (CX B) u d 133 [.pbox [Ag Y,Ag X,Ag W,Ag V],Ag Z] λF=>Aa (E4 .u64 V Z) λa=>An (F 135 [.pbox [Ag Y,Ag X,Ag W,Ag a],(2:Int)]) λa b=>Ah a<|Ad b λa b=>Bw .u64 a λa c=>Bw .u64 c λc e=>Bw .u64 e λe f=>Br .u64 f λf=>Ah b<|Aa (E4 .u64 a Z) λa=>some ⟨[],[[Ag a,Ag c,Ag e,Ag f]]⟩:=Φ
def Mb(Z Y:Int)(X:Nat)(W:Ae)(V U:Nat)(T:Ae)(S Q:Int)(P O:Int)(N M L:Int):Option A8:=H6 u F 108 Tryz.f108 [Ag Z,Ag Y,Ap 1 X W] [.r,.r,.r,.l,.r,.l] V ⟨lk [(2,Ap 1 U T),(7,.ptr 7 0),(8,S),(22,Q),(23,P)],Fe [(7,.st [Ag O,Ag N,Ag M,Ag L])]⟩
theorem BH(P O:Int)(N:Nat)(M:Ae)(L Z:Nat)(X:Ae)(W V:Int)(Y U:Int)(T S Q:Int):Mb u F P O N M (L+1) Z X W V Y U T S Q=((λg:PV=>Aq (decide (Y<V)) (Aa (wrap .i64 (8*Y)) λa=>Aa (wrap .i64 (8*Y)) λb=>Aa (wrap .i64 (b+8)) λb=>Aw (decide (0<=a))<|Aw (decide (0<=b))<|Aw (decide (a.toNat<=b.toNat)&&decide (b.toNat<=Z))<|Aa (b.toNat-a.toNat) λb=>Aa (List.take (b*1) (X.drop (a.toNat*1))) λa=>Gm .u64 (F 134 [Ap 1 b a]) λa=>An (F 133 [g,Ag a]) λa b=>Ah a<|Ad b λa b=>Bw .u64 a λa c=>Bw .u64 c λc e=>Bw .u64 e λe f=>Br .u64 f λf=>Ah b<|Aa (wrap .i64 (Y+1)) λb=>Mb u F P O N M L Z X W V b a c e f) (Aa (wrap .i64 (8*W)) λa=>Aw (decide (0<=a))<|Aw (decide (a.toNat<=Z)&&decide (Z<=Z))<|Aa (Z-a.toNat) λb=>Aa (List.take (b*1) (X.drop (a.toNat*1))) λa=>Gm .u64 (F 134 [Ap 1 b a]) λa=>Aa (wrap .u64 (↑Z:Int)) λb=>Aa (Dx .u64 b 56) λb=>Aa (Vg .u64 a b) λa=>An (F 133 [g,Ag a]) λa b=>Ah a<|Ad b λa b=>Bw .u64 a λa c=>Bw .u64 c λc e=>Bw .u64 e λe f=>Br .u64 f λf=>Ah b<|Aa (E4 .u64 e 255) λb=>An (F 135 [.pbox [Ag a,Ag c,Ag b,Ag f],(4:Int)]) λa b=>Ah a<|Ad b λa b=>Bw .u64 a λa c=>Bw .u64 c λc e=>Bw .u64 e λe f=>Br .u64 f λf=>Ah b<|Aa (E4 .u64 a c) λa=>Aa (E4 .u64 a e) λa=>Aa (E4 .u64 a f) λa=>Bd [Ag a])) (.pbox [Ag U,Ag T,Ag S,Ag Q])):=Κ
theorem Aei(Z Y:Int)(X:Nat)(W:Ae):BA (CX B) u d 108 [Ag Z,Ag Y,Ap 1 X W] λF=>Aa (E4 .u64 Z 8317987319222330741) λa=>Aa (E4 .u64 Y 7237128888997146477) λb=>Aa (E4 .u64 Z 7816392313619706465) λc=>Aa (E4 .u64 Y 8387220255154660723) λe=>Aa (wrap .i64 (Int.tdiv (↑X:Int) 8)) λf=>Mb u F Z Y X W u X W f f 0 a b c e:=Φ
theorem Aag(Z:Int)(Y:Nat)(X:Ae):BA (CX B) u d 69 [Z,Ap 1 Y X] λF=>Aa (wrap .u64 Z) λa=>Gm .u64 (F 108 [Ag a,Ag 0,Ap 1 Y X]) λa=>Bd [Ag a]:=Φ
theorem JK(Y Z:Int):BA (CX B) u d 140 [Ag Y,Ag Z] λF=>Aw (decide (0<=Z))<|Aa (Dx .u64 Y Z) λa=>Aa (wrap .u64 (64-Z)) λb=>Aw (decide (0<=b))<|Aa (Gs .u64 Y b) λb=>Aa (Vg .u64 a b) λa=>Bd [Ag a]:=Φ
theorem GL(X Z:Int)(W Y:Int):BA (CX B) u d 122 [.agg [Ag X,Ag Z,Ag W,Ag Y]] λF=>Aa (wrap .u64 (X+Z)) λa=>Gm .u64 (F 140 [Ag Z,Ag 13]) λb=>Aa (E4 .u64 b a) λb=>Gm .u64 (F 140 [Ag a,Ag 32]) λa=>Aa (wrap .u64 (W+Y)) λc=>Gm .u64 (F 140 [Ag Y,Ag 16]) λe=>Aa (E4 .u64 e c) λe=>Aa (wrap .u64 (a+e)) λa=>Gm .u64 (F 140 [Ag e,Ag 21]) λe=>Aa (E4 .u64 e a) λe=>Aa (wrap .u64 (c+b)) λc=>Gm .u64 (F 140 [Ag b,Ag 17]) λb=>Aa (E4 .u64 b c) λb=>Gm .u64 (F 140 [Ag c,Ag 32]) λc=>Bd [.agg [Ag a,Ag b,Ag c,Ag e]]:=Φ
def G9(Z Y:Int)(X:Nat)(W:Ae)(V U:Nat)(T:Ae)(S:Int)(Q:Ae):Option A8:=H6 u F 88 Tryz.f88 [Ag Z,Ag Y,Ap 1 X W] [.r,.r,.l,.r,.l] V ⟨lk [(2,Ap 1 U T),(7,.ptr 7 0),(8,S)],Fe [(7,.ar false Q)]⟩
def Fz(Z Y:Int)(X:Nat)(W:Ae)(V U T:Nat)(S:Ae)(Q P O:Int)(N:Ae):Option A8:=H6 u F 88 Tryz.f88 [Ag Z,Ag Y,Ap 1 X W] [.r,.r,.l,.r,.l,.i V,.r,.l,.l,.r,.l,.r,.l] U ⟨lk [(2,Ap 1 T S),(7,.ptr 7 0),(8,Q),(9,Ag P),(10,O)],Fe [(7,.ar false N)]⟩
theorem Qt(W V:Int)(U:Nat)(T:Ae)(S Y:Nat)(Q:Ae)(X:Int)(Z:Ae):G9 u F W V U T (S+1) Y Q X Z=(Aq (decide (X<=(↑Y:Int))) (Fz u F W V U T S u Y Q X 0 7 Z) (Bn .u64 (Z.getD 2 .top) λa=>Aa (E4 .u64 a 255) λa=>Aw (decide (3<=Z.length))<|Aa (B1 Z [Ag a] 2) λa=>Bn .u64 (a.getD 0 .top) λb=>Bn .u64 (a.getD 1 .top) λc=>Bn .u64 (a.getD 2 .top) λe=>Bn .u64 (a.getD 3 .top) λf=>De (F 122 [.agg [Ag b,Ag c,Ag e,Ag f]]) λb c=>Dr b λb=>Bw .u64 b λb e=>Bw .u64 e λe f=>Bw .u64 f λf g=>Br .u64 g λg=>Ah c<|De (F 122 [.agg [Ag b,Ag e,Ag f,Ag g]]) λb c=>Dr b λb=>Bw .u64 b λb e=>Bw .u64 e λe f=>Bw .u64 f λf g=>Br .u64 g λg=>Ah c<|De (F 122 [.agg [Ag b,Ag e,Ag f,Ag g]]) λb c=>Dr b λb=>Bw .u64 b λb e=>Bw .u64 e λe f=>Bw .u64 f λf g=>Br .u64 g λg=>Ah c<|De (F 122 [.agg [Ag b,Ag e,Ag f,Ag g]]) λb c=>Dr b λb=>Bw .u64 b λb e=>Bw .u64 e λe f=>Bw .u64 f λf g=>Br .u64 g λg=>Ah c<|Aw (decide (4<=a.length))<|Aa (B1 a [Ag b,Ag e,Ag f,Ag g] 0) λa=>Bn .u64 (a.getD 0 .top) λb=>Bn .u64 (a.getD 1 .top) λc=>Aa (E4 .u64 b c) λb=>Bn .u64 (a.getD 2 .top) λc=>Aa (E4 .u64 b c) λb=>Bn .u64 (a.getD 3 .top) λa=>Aa (E4 .u64 b a) λa=>Bd [Ag a])):=Κ
theorem Rj(T S:Int)(Q:Nat)(P:Ae)(O N Z:Nat)(V:Ae)(X U Y:Int)(W:Ae):Fz u F T S Q P O (N+1) Z V X U Y W=(Aq (decide (Y>=0)) (Aa (wrap .i64 (X+Y)) λa=>Aq (decide (a<(↑Z:Int))) (Aa (wrap .i64 (X+Y)) λa=>Aw (decide (0<=a)&&decide (a<(↑Z:Int)))<|Bn .u8 (V.getD (a.toNat*1) .top) λa=>Aa (Dx .u64 U 8) λb=>Aa (wrap .u64 a) λa=>Aa (Vg .u64 b a) λa=>Aa (wrap .i64 (Y-1)) λb=>Fz u F T S Q P O N Z V X a b W) (Aq (Y==7) (Aa (wrap .u8 (↑Z:Int)) λa=>Aa (Dx .u64 U 8) λb=>Aa (wrap .u64 a) λa=>Aa (Vg .u64 b a) λa=>Aa (wrap .i64 (Y-1)) λb=>Fz u F T S Q P O N Z V X a b W) (Aa (Dx .u64 U 8) λa=>Aa (Vg .u64 a 0) λa=>Aa (wrap .i64 (Y-1)) λb=>Fz u F T S Q P O N Z V X a b W))) (Bn .u64 (W.getD 3 .top) λa=>Aa (E4 .u64 a U) λa=>Aw (decide (4<=W.length))<|Aa (B1 W [Ag a] 3) λa=>Bn .u64 (a.getD 0 .top) λb=>Bn .u64 (a.getD 1 .top) λc=>Bn .u64 (a.getD 2 .top) λe=>Bn .u64 (a.getD 3 .top) λf=>De (F 122 [.agg [Ag b,Ag c,Ag e,Ag f]]) λb c=>Dr b λb=>Bw .u64 b λb e=>Bw .u64 e λe f=>Bw .u64 f λf g=>Br .u64 g λg=>Ah c<|De (F 122 [.agg [Ag b,Ag e,Ag f,Ag g]]) λb c=>Dr b λb=>Bw .u64 b λb e=>Bw .u64 e λe f=>Bw .u64 f λf g=>Br .u64 g λg=>Ah c<|Aw (decide (4<=a.length))<|Aa (B1 a [Ag b,Ag e,Ag f,Ag g] 0) λa=>Bn .u64 (a.getD 0 .top) λb=>Aa (E4 .u64 b U) λb=>Aw (decide (1<=a.length))<|Aa (B1 a [Ag b] 0) λa=>Aa (wrap .i64 (X+8)) λb=>G9 u F T S Q P O Z V b a)):=Κ
theorem NJ(Z Y:Int)(X:Nat)(W:Ae):BA (CX B) u d 88 [Ag Z,Ag Y,Ap 1 X W] λF=>Aa (E4 .u64 Z 8317987319222330741) λa=>Aa (E4 .u64 Y 7237128888997146477) λb=>Aa (E4 .u64 Z 7816392313619706465) λc=>Aa (E4 .u64 Y 8387220255154660723) λe=>G9 u F Z Y X W u X W 0 ([Ag a,Ag b,Ag c,Ag e]):=Φ
theorem KD(Z:Int)(Y:Nat)(X:Ae):BA (CX B) u d 47 [Z,Ap 1 Y X] λF=>Aa (wrap .u64 Z) λa=>Gm .u64 (F 88 [Ag a,Ag 0,Ap 1 Y X]) λa=>Bd [Ag a]:=Φ
theorem LO(Z Y:Int)(X:Nat)(W:Ae):BA (CX B) u d 51 [Ag Z,Y,Ap 1 X W] λF=>Aa (wrap .u64 Y) λa=>Aa (wrap .u64 (1+a)) λa=>Gm .u64 (F 88 [Ag Z,Ag a,Ap 1 X W]) λa=>Bd [Ag a]:=Φ
def Ga(Z:Nat)(Y:Ae)(X W:Nat)(V:Ae)(U:Nat)(T:Int)(S:Ae):Option A8:=H6 u F 45 Tryz.f45 [Ap 1 Z Y] [.r,.r,.l,.r,.l] X ⟨lk [(0,Ap 1 W V),(3,.view 3 1 0 U),(4,T)],Fe [(3,.ar false S)]⟩
def Hn(Z:Nat)(Y:Ae)(X W V:Nat)(U:Ae)(T:Nat)(S Q:Int)(P:Ae):Option A8:=H6 u F 45 Tryz.f45 [Ap 1 Z Y] [.r,.r,.l,.r,.l,.i X,.r,.l,.l,.r,.l] W ⟨lk [(0,Ap 1 V U),(3,.view 3 1 0 T),(4,S),(5,Q)],Fe [(3,.ar false P)]⟩
theorem Of(V:Nat)(U:Ae)(T X:Nat)(S:Ae)(Z:Nat)(W:Int)(Y:Ae):Ga u F V U (T+1) X S Z W Y=(Aq (decide (W<(↑X:Int))) (Hn u F V U T u X S Z W 7 Y) (Aw (decide (Z*1<=Y.length))<|Bd [.own 1 Z (Y.take (Z*1))])):=Κ
theorem Oe(V:Nat)(U:Ae)(T P Y:Nat)(X:Ae)(S:Nat)(Z W:Int)(Q:Ae):Hn u F V U T (P+1) Y X S Z W Q=(Aq (decide (W>=0)) (Aw (decide (0<=Z)&&decide (Z<(↑Y:Int)))<|Bn .u64 (X.getD (Z.toNat*1) .top) λa=>Aa (wrap .i64 (8*W)) λb=>Aa (wrap .u64 b) λb=>Aw (decide (0<=b))<|Aa (Gs .u64 a b) λa=>Aa (wrap .u8 a) λa=>ZzA S 1 1 Q [.sc (.int .u8 a)] λa b=>Aa (wrap .i64 (W-1)) λc=>Hn u F V U T P Y X a Z c b) (Aa (wrap .i64 (Z+1)) λa=>Ga u F V U T Y X S a Q)):=Κ
theorem GQ(Z:Nat)(Y:Ae):BA (CX B) u d 45 [Ap 1 Z Y] λF=>Ga u F Z Y u Z Y 0 0 ([]):=Φ
def Ia(Z:Nat)(Y:Ae)(X W:Nat)(V:Ae)(U T:Int):Option A8:=H6 u F 96 Tryz.f96 [Ap 1 Z Y] [.r,.r,.l,.r,.l] X ⟨lk [(0,Ap 1 W V),(3,Ag U),(4,T)],Fe []⟩
theorem Po(V:Nat)(U:Ae)(T Y:Nat)(W:Ae)(X Z:Int):Ia u F V U (T+1) Y W X Z=(Aq (decide (Z<8)) (Aq (decide (Z<(↑Y:Int))) (Aa (Dx .u64 X 8) λa=>Aw (decide (0<=Z)&&decide (Z<(↑Y:Int)))<|Bn .u8 (W.getD (Z.toNat*1) .top) λb=>Aa (wrap .u64 b) λb=>Aa (Vg .u64 a b) λa=>Aa (wrap .i64 (Z+1)) λb=>Ia u F V U T Y W a b) (Bd [Ag X])) (Bd [Ag X])):=Κ
theorem IL(Z:Nat)(Y:Ae):BA (CX B) u d 96 [Ap 1 Z Y] λF=>Ia u F Z Y u Z Y 0 0:=Φ
end
def rot(x k:Int):Int:=Vg .u64 (Dx .u64 x k) (Gs .u64 x (64-k))
structure W4 where
 a:Int
 b:Int
 c:Int
 d:Int
def W4.cells(v:W4):Ae:=[Ag v.a,Ag v.b,Ag v.c,Ag v.d]
def Bg2(v:W4):W4:=⟨rot (wrap .u64 (v.a+v.b)) 32,E4 .u64 (rot v.b 13) (wrap .u64 (v.a+v.b)),wrap .u64 (v.c+v.d),E4 .u64 (rot v.d 16) (wrap .u64 (v.c+v.d))⟩
def Biy(v:W4):W4:=⟨wrap .u64 (v.a+v.d),E4 .u64 (rot v.b 17) (wrap .u64 (v.c+v.b)),rot (wrap .u64 (v.c+v.b)) 32,E4 .u64 (rot v.d 21) (wrap .u64 (v.a+v.d))⟩
def ZT(v:W4):W4:=Biy (Bg2 v)
def Am8:Nat->W4->W4
 |0,v=>v
 |n+1,v=>Am8 n (ZT v)
def Ba1(r:W4)(m:Int):W4:=⟨E4 .u64 r.a m,r.b,r.c,r.d⟩
def Y9(v:W4)(m:Int):W4:=Ba1 (Am8 2 ⟨v.a,v.b,v.c,E4 .u64 v.d m⟩) m
def Ze:Ak->Int
 |[]=>0
 |b::r=>b+256*Ze r
def Aaa:Nat->W4->Ak->W4
 |0,v,_=>v
 |n+1,v,l=>Aaa n (Y9 v (Ze (l.take 8))) (l.drop 8)
def A7e(a b:Int):W4:=⟨E4 .u64 a 8317987319222330741,E4 .u64 b 7237128888997146477,E4 .u64 a 7816392313619706465,E4 .u64 b 8387220255154660723⟩
def Aq4(v:W4):W4:=Am8 4 ⟨v.a,v.b,E4 .u64 v.c 255,v.d⟩
def Arj(v:W4):Int:=E4 .u64 (E4 .u64 (E4 .u64 v.a v.b) v.c) v.d
def Sm(l:Ak):Int:=Ze (l.drop (8*(l.length / 8)))+72057594037927936*((l.length:Int) % 256)
def A2a(a b:Int)(l:Ak):Int:=Arj (Aq4 (Y9 (Aaa (l.length / 8) (A7e a b) l) (Sm l)))
def Fa(dom:Int)(l:Ak):Int:=A2a (wrap .u64 dom) 0 l
def A1n(key dom:Int)(l:Ak):Int:=A2a key (wrap .u64 (1+wrap .u64 dom)) l
def Ce(l:Ak):Prop:=∀b∈l,0<=b/\b<=255
theorem Z3:∀{l:Ak},Ce l->0<=Ze l/\Ze l<256 ^ l.length
 |[],_=>by simp[Ze]
 |b::r,h=>by
  have c:=h b Ψ;have d:=Z3 (l:=r) λx a=>h x (by simp[a]);have e:(256:Int) ^ (b::r).length=256 ^ r.length*256:=by rw[Ox,Int.pow_succ]
  simp only[Ze];omega
theorem JL:∀(l r:Ak),Ze (l++r)=Ze l+256 ^ l.length*Ze r
 |[],r=>by simp[Ze]
 |b::l,r=>by
  have a:=JL l r;simp only[Zzp,Ze,Ox,Int.pow_succ];rw[a,Int.mul_add];have:(256:Int)*(256 ^ l.length*Ze r)=256 ^ l.length*256*Ze r:=by rw[<-Int.mul_assoc,Int.mul_comm 256]
  omega
theorem GA{a c:Int}(k b:Nat)(g:0<=a)(o:a<((2 ^ k:Nat):Int))(i:c=((b*2 ^ k:Nat):Int))(h:a+c<=18446744073709551615):Vg .u64 a c=a+c/\Vg .u64 c a=a+c:=by
 obtain⟨n,rfl⟩:=Int.eq_ofNat_of_zero_le g;subst i;have j:n<2 ^ k:=Ω
 generalize l:b*2 ^ k=m at h
 have d:(BitVec.ofInt 64 (n:Int)).toNat=n:=by
  rw[BitVec.toNat_ofInt];omega
 have e:(BitVec.ofInt 64 (m:Int)).toNat=m:=by
  rw[BitVec.toNat_ofInt];omega
 have f:m ||| n=m+n:=by
  have:=Nat.shiftLeft_add_eq_or_of_lt j b;rw[Nat.shiftLeft_eq,l] at this;exact this.symm
 constructor
 ·show wrap .u64 ((BitVec.ofInt 64 (n:Int) ||| BitVec.ofInt 64 (m:Int)).toNat:Int)=_;rw[BitVec.toNat_or,d,e,Nat.or_comm,f,Do];omega
 ·show wrap .u64 ((BitVec.ofInt 64 (m:Int) ||| BitVec.ofInt 64 (n:Int)).toNat:Int)=_;rw[BitVec.toNat_or,d,e,f,Do];omega
theorem NO{a k:Int}(b:0<=a)(d:0<=k)(Rr:k<=64)(h:a*((2 ^ k.toNat:Nat):Int)<=18446744073709551615):Dx .u64 a k=a*((2 ^ k.toNat:Nat):Int):=by
 show wrap .u64 (a*2 ^ (min k.toNat IntKind.u64.bits))=_;have e:min k.toNat IntKind.u64.bits=k.toNat:=Nat.min_eq_left (by show k.toNat<=64;omega)
 have c:(2:Int) ^ k.toNat=((2 ^ k.toNat:Nat):Int):=Ψ
 rw[e,c,XA (Int.mul_nonneg b (Int.natCast_nonneg _)) h]
section
variable {u d:Nat}{B:FuncId->Option (Ae->Option A8)}
theorem Ayf{x k:Int}(a:k=13\/k=16\/k=17\/k=21\/k=32):Ac (CX B) prog u (d+1) 157 [Ag x,A0 k]=some ⟨[Ag (rot x k)],[]⟩:=by rw[HK];rcases a with rfl|rfl|rfl|rfl|rfl<;>kernel_rfl
theorem Axh{x k:Int}(a:k=13\/k=16\/k=17\/k=21\/k=32):Ac (CX B) prog u (d+1) 140 [Ag x,Ag k]=some ⟨[Ag (rot x k)],[]⟩:=by rw[JK];rcases a with rfl|rfl|rfl|rfl|rfl<;>kernel_rfl
theorem RN{a0 a1 a2 a3 a4:Int}:∀(k i nn:Nat)(v:W4),k<nn->i+k<=100 ->
  Gt u (Ac (CX B) prog u (d+1)) a0 a1 a2 a3 a4 nn ((i+k:Nat):Int) i v.a v.b v.c v.d=some ⟨[],[(Am8 k v).cells]⟩
 |_,_,0,_,h,_=>Ω
 |0,i,nn+1,v,h,hi=>by
  rw[L7,Fd _ _ _ Ω];rfl
 |k+1,i,nn+1,v,h,hi=>by
  have g:=RN (a0:=a0) (a1:=a1) (a2:=a2) (a3:=a3) (a4:=a4) k (i+1) nn (ZT v) Ω Ω;have w:wrap .i64 ((i:Int)+1)=((i+1:Nat):Int):=Bi
  have a:=λx=>Ayf (B:=B) (u:=u) (d:=d) (x:=x) (k:=13) Ψ;have b:=λx=>Ayf (B:=B) (u:=u) (d:=d) (x:=x) (k:=16) Ψ;have c:=λx=>Ayf (B:=B) (u:=u) (d:=d) (x:=x) (k:=17) Ψ;have e:=λx=>Ayf (B:=B) (u:=u) (d:=d) (x:=x) (k:=21) Ψ;have f:=λx=>Ayf (B:=B) (u:=u) (d:=d) (x:=x) (k:=32) Ψ;rw[L7];simp(disch:=omega)only[Av,Au,a,b,c,e,f,w];rw[show i+(k+1)=i+1+k by omega];exact g
theorem Ab9(k:Nat)(a:k<=4)(Bg:100<=u)(v:W4):Ac (CX B) prog u (d+2) 135 [.pbox [Ag v.a,Ag v.b,Ag v.c,Ag v.d],A0 k]=some ⟨[],[(Am8 k v).cells]⟩:=by rw[CF];have:=RN (B:=B) (u:=u) (d:=d) (a0:=v.a) (a1:=v.b) (a2:=v.c) (a3:=v.d) (a4:=k) k 0 u v Ω Ω;rw[Ka] at this;exact this
theorem Aa7(Bg:100<=u)(v:W4)(m:Int):Ac (CX B) prog u (d+3) 133 [.pbox [Ag v.a,Ag v.b,Ag v.c,Ag v.d],Ag m]=some ⟨[],[(Y9 v m).cells]⟩:=by rw[CM];have a:=Ab9 (B:=B) (u:=u) (d:=d) 2 Ω Bg ⟨v.a,v.b,v.c,E4 .u64 v.d m⟩;have b:((2:Nat):Int)=2:=rfl;rw[b] at a;unfold Y9;generalize Am8 2 ⟨v.a,v.b,v.c,E4 .u64 v.d m⟩=R at a ⊢;simp only[W4.cells] at a;simp only[Av,Au,a];rfl
theorem Ba2{a b:Int}{k:Nat}(m:k<8)(i:0<=a)(f:a<((2 ^ (8*k):Nat):Int))(j:0<=b)(o:b<=255):Vg .u64 a (Dx .u64 b (8*(k:Int)))=a+((2 ^ (8*k):Nat):Int)*b:=by
 obtain⟨n,rfl⟩:=Int.eq_ofNat_of_zero_le j;have e:(8*(k:Int)).toNat=8*k:=Ω
 have hp:n*2 ^ (8*k)<=255*2 ^ (8*k):=Nat.mul_le_mul_right _ Ω;have g:2 ^ (8*k)<=2 ^ 56:=Nat.pow_le_pow_right Ω Ω;have h:(2:Nat) ^ 56=72057594037927936:=Δ
 rw[h] at g;generalize d:2 ^ (8*k)=p at *
 have Ai2:n*p<=255*p:=hp
 have l:Dx .u64 (n:Int) (8*(k:Int))=(n:Int)*((2 ^ (8*(k:Int)).toNat:Nat):Int):=NO Ω Ω Ω (by
  rw[e,d];have:((n*p:Nat):Int)<=((255*p:Nat):Int):=Ω
  rw[<-Int.natCast_mul];omega)
 rw[l,e,d]
 have:=(GA (a:=a) (c:=((n*p:Nat):Int)) (8*k) n i (by rw[d];exact f) (by rw[d]) (by
  have:((n*p:Nat):Int)<=((255*p:Nat):Int):=Ω
  omega)).1
 rw[<-Int.natCast_mul,this,Int.mul_comm ((p:Nat):Int),<-Int.natCast_mul]
theorem Bap(k:Nat):((2 ^ (8*k):Nat):Int)=256 ^ k:=by rw[Nat.pow_mul];simp
theorem RB{F:Ao}{n:Nat}{c:Ae}{l:Ak}(e:Ce l)(j:l.length<=8):∀(r:Ak)(i nn:Nat),l.drop i=r->r.length<nn->i<=l.length ->
  K2 u F n c nn (Ze (l.take i)) l.length (Af .u8 l) l.length i=some ⟨[Ag (Ze l)],[]⟩
 |_,_,0,_,h,_=>Ω
 |[],i,nn+1,h,g,hi=>by
  have:=drop_nil h;rw[Uh,Fd _ _ _ Ω,Jo Ω]
 |b::r,i,nn+1,h,g,hi=>by
  obtain⟨t,f,k⟩:=Cl h;simp only[Ox] at g;have m:=RB (F:=F) (n:=n) (c:=c) e j r (i+1) nn k Ω Ω;have a:=e b (List.mem_of_getElem? f);have w:wrap .i64 ((i:Int)+1)=((i+1:Nat):Int):=Bi
  have o:wrap .i64 (8*(i:Int))=8*(i:Int):=Bc;have p:wrap .u64 b=b:=Do;have A68:=Z3 (l:=l.take i) λx q=>e x (List.mem_of_mem_take q);have d:(l.take i).length=i:=by rw[List.length_take];omega
  rw[d] at A68
  have s:Vg .u64 (Ze (l.take i)) (Dx .u64 b (8*(i:Int)))=Ze (l.take (i+1)):=by
   rw[Ba2 Ω A68.1 (by rw[Bap];exact A68.2) a.1 a.2,List.take_add_one,f,JL,d,Bap]
   simp[Ze]
  rw[Uh];simp(disch:=omega)only[Av,Au,H8,Jy,Sr f,w,o,p,s];exact m
theorem Abn{l:Ak}(a:Ce l)(b:l.length<=8)(Bg:100<=u):Ac (CX B) prog u (d+1) 134 [.lst false 1 l.length (Af .u8 l)]=some ⟨[Ag (Ze l)],[]⟩:=by rw[SR];exact RB a b l 0 u rfl Ω Ω
theorem Gj(k:IntKind)(l:Ak)(i:Nat):List.drop i (Af k l)=Af k (l.drop i):=by
 have:=Afy (NN k) l i
 simpa using this
theorem Fj(k:IntKind)(l:Ak)(i:Nat):List.take i (Af k l)=Af k (l.take i):=by
 have:=Aor (NN k) l i
 simpa using this
theorem Ce.drop{l:Ak}(h:Ce l)(i:Nat):Ce (l.drop i):=λx a=>h x (List.mem_of_mem_drop a)
theorem Ce.take{l:Ak}(h:Ce l)(i:Nat):Ce (l.take i):=λx a=>h x (List.mem_of_mem_take a)
theorem A0q{a0 a1:Int}{n:Nat}{c:Ae}{l:Ak}(h:Ce l)(s:l.length<=1099511627776)(Bg:100<=u)(nn:Nat)(v:W4):
  Mb u (Ac (CX B) prog u (d+3)) a0 a1 n c (nn+1) l.length (Af .u8 l) ((l.length / 8:Nat):Int) ((l.length / 8:Nat):Int) ((l.length / 8:Nat):Int) v.a v.b v.c v.d=some ⟨[Ag (Arj (Aq4 (Y9 v (Sm l))))],[]⟩:=by
 have k:wrap .i64 (8*((l.length / 8:Nat):Int))=((8*(l.length / 8):Nat):Int):=Bi
 have wl:wrap .u64 (l.length:Int)=l.length:=Do;have a:(l.drop (8*(l.length / 8))).length=l.length-8*(l.length / 8):=List.length_drop;have i:=Abn (B:=B) (u:=u) (d:=d+2) (h.drop (8*(l.length / 8))) Ω Bg;rw[a] at i;have m:List.take (l.length-8*(l.length / 8)) (Af .u8 (l.drop (8*(l.length / 8))))=Af .u8 (l.drop (8*(l.length / 8))):=Jo (by rw[Am,a];omega)
 have b:=Z3 (h.drop (8*(l.length / 8)));rw[a] at b
 have o:(256:Int) ^ (l.length-8*(l.length / 8))<=256 ^ 7:=by
  have:(256:Nat) ^ (l.length-8*(l.length / 8))<=256 ^ 7:=Nat.pow_le_pow_right Ω Ω;have f:(((256:Nat) ^ (l.length-8*(l.length / 8)):Nat):Int)<=((256 ^ 7:Nat):Int):=Ω
  simpa using f
 have UX:Vg .u64 (Ze (l.drop (8*(l.length / 8)))) (Dx .u64 (l.length:Int) 56)=Sm l:=by
  have p:Dx .u64 (l.length:Int) 56=(((l.length % 256)*2 ^ 56:Nat):Int):=by
   show wrap .u64 ((l.length:Int)*2 ^ (min (56:Int).toNat IntKind.u64.bits))=_;have f:(2:Int) ^ (min (56:Int).toNat IntKind.u64.bits)=72057594037927936:=Δ
   have j:(2:Nat) ^ 56=72057594037927936:=Δ
   rw[f,j];simp only[wrap,IntKind.signed,IntKind.bits];simp;omega
  have q:(256:Int) ^ 7=((2 ^ 56:Nat):Int):=Δ
  have j:(2:Nat) ^ 56=72057594037927936:=Δ
  rw[p,(GA 56 (l.length % 256) b.1 Ω rfl Ω).1];unfold Sm;omega
 have g:=Aa7 (B:=B) (u:=u) (d:=d) Bg v (Sm l);have e:=Ab9 (B:=B) (u:=u) (d:=d+1) 4 Ω Bg ⟨(Y9 v (Sm l)).a,(Y9 v (Sm l)).b,E4 .u64 (Y9 v (Sm l)).c 255,(Y9 v (Sm l)).d⟩;have r:((4:Nat):Int)=4:=rfl;rw[r] at e;unfold Aq4;generalize Y9 v (Sm l)=U at g e ⊢;generalize Am8 4 ⟨U.a,U.b,E4 .u64 U.c 255,U.d⟩=R at e ⊢;simp only[W4.cells] at g e;rw[BH];simp(disch:=omega)only[Av,Au,H8,Jy,k,wl,Gj,m,i,UX,g,e];rfl
theorem Ah4{a0 a1:Int}{n:Nat}{c:Ae}{l:Ak}(a:Ce l)(j:l.length<=1099511627776)(Bg:100<=u):∀(k i nn:Nat)(v:W4),i+k=l.length / 8->k<nn ->
  Mb u (Ac (CX B) prog u (d+3)) a0 a1 n c nn l.length (Af .u8 l) ((l.length / 8:Nat):Int) ((l.length / 8:Nat):Int) i v.a v.b v.c v.d=some ⟨[Ag (Arj (Aq4 (Y9 (Aaa k v (l.drop (8*i))) (Sm l))))],[]⟩
 |_,_,0,_,_,h=>Ω
 |0,i,nn+1,v,hi,p=>by
  have e:i=l.length / 8:=Ω
  subst e;exact A0q a j Bg nn v
 |k+1,i,nn+1,v,hi,p=>by
  have w:wrap .i64 ((i:Int)+1)=((i+1:Nat):Int):=Bi
  have q:wrap .i64 (8*(i:Int))=((8*i:Nat):Int):=Bi
  have b:wrap .i64 (((8*i:Nat):Int)+8)=((8*i+8:Nat):Int):=Bi
  have f:((l.drop (8*i)).take 8).length=8:=by rw[List.length_take,List.length_drop];omega
  have m:=Abn (B:=B) (u:=u) (d:=d+2) ((a.drop (8*i)).take 8) Ω Bg;rw[f] at m;have r:8*i+8-8*i=8:=Ω
  have g:=Aa7 (B:=B) (u:=u) (d:=d) Bg v (Ze ((l.drop (8*i)).take 8));have o:=Ah4 (a0:=a0) (a1:=a1) (n:=n) (c:=c) a j Bg k (i+1) nn (Y9 v (Ze ((l.drop (8*i)).take 8))) Ω Ω
  have eN:Aaa (k+1) v (l.drop (8*i))=Aaa k (Y9 v (Ze ((l.drop (8*i)).take 8))) (l.drop (8*(i+1))):=by
   rw[Aaa,List.drop_drop,show 8*i+8=8*(i+1) by omega]
  rw[eN];generalize Y9 v (Ze ((l.drop (8*i)).take 8))=U at g o ⊢;simp only[W4.cells] at g;rw[BH];simp(disch:=omega)only[Av,Au,H8,Jy,w,q,b,r,Gj,Fj,m,g];exact o
theorem A8g{l:Ak}(e:Ce l)(f:l.length<=1099511627776)(Bg:100<=u)(h:l.length<u)(a b:Int):Ac (CX B) prog u (d+4) 108 [Ag a,Ag b,.lst false 1 l.length (Af .u8 l)]=some ⟨[Ag (A2a a b l)],[]⟩:=by
 rw[Aei]
 have w:wrap .i64 (Int.tdiv (l.length:Int) 8)=((l.length / 8:Nat):Int):=by
  rw[Int.tdiv_eq_ediv_of_nonneg Ω,Bc];omega
 have g:=Ah4 (B:=B) (u:=u) (d:=d) (a0:=a) (a1:=b) (n:=l.length) (c:=Af .u8 l) e f Bg (l.length / 8) 0 u (A7e a b) Ω Ω;simp only[Fv,w];exact g
theorem UA{l:Ak}(a:Ce l)(b:l.length<=1099511627776)(Bg:100<=u)(c:l.length<u)(dom:Int):Ac (CX B) prog u (d+5) 69 [A0 dom,.lst false 1 l.length (Af .u8 l)]=some ⟨[Ag (Fa dom l)],[]⟩:=by rw[Aag];have s:=A8g (B:=B) (u:=u) (d:=d) a b Bg c (wrap .u64 dom) 0;simp only[Av,Au,s];rfl
theorem Tq(v:W4):Ac (CX B) prog u (d+2) 122 [.agg [Ag v.a,Ag v.b,Ag v.c,Ag v.d]]=some ⟨[.agg (ZT v).cells],[]⟩:=by have a:=λx=>Axh (B:=B) (u:=u) (d:=d) (x:=x) (k:=13) Ψ;have b:=λx=>Axh (B:=B) (u:=u) (d:=d) (x:=x) (k:=16) Ψ;have c:=λx=>Axh (B:=B) (u:=u) (d:=d) (x:=x) (k:=17) Ψ;have e:=λx=>Axh (B:=B) (u:=u) (d:=d) (x:=x) (k:=21) Ψ;have f:=λx=>Axh (B:=B) (u:=u) (d:=d) (x:=x) (k:=32) Ψ;rw[GL];simp(disch:=omega)only[Av,Au,a,b,c,e,f];rfl
def BL(l:Ak)(i k:Nat):Int:=if i+k<l.length then l.getD (i+k) 0 else if k=7 then (l.length:Int) % 256 else 0
def pc(l:Ak)(i:Nat):Ak:=(List.range 8).map (BL l i)
theorem Bgv{l:Ak}(a:Ce l)(i:Nat):Ce (pc l i):=by
 intro x b;obtain⟨k,c,rfl⟩:=List.mem_map.1 b;unfold BL;split
 ·rename_i h;rw[List.getD_eq_getElem?_getD,List.getElem?_eq_getElem h];exact a _ (List.getElem_mem h)
 ·split<;>omega
theorem A3q{l:Ak}{i:Nat}(h:i+8<=l.length):pc l i=(l.drop i).take 8:=by
 refine List.ext_getElem (by simp[pc];omega) λk a b=>?_
 have c:k<8:=by simpa [pc] using a
 simp only[pc,List.getElem_map,List.getElem_range,List.getElem_take,List.getElem_drop,BL];rw[Bq Ω,List.getD_eq_getElem?_getD,List.getElem?_eq_getElem Ω];rfl
theorem Aax(x:Int):∀n,Ze (List.replicate n 0++[x])=256 ^ n*x
 |0=>by simp[Ze]
 |n+1=>by
  rw[List.replicate_succ,Zzp,Ze,Aax x n,Int.pow_succ,Int.mul_comm (256 ^ n) 256,Int.mul_assoc];omega
theorem A19{l:Ak}:Ze (pc l (8*(l.length / 8)))=Sm l:=by
 have e:pc l (8*(l.length / 8))=l.drop (8*(l.length / 8))++(List.replicate (7-(l.length-8*(l.length / 8))) 0++[(l.length:Int) % 256]):=by
  refine List.ext_getElem (by simp[pc];omega) λk c d=>?_
  have f:k<8:=by simpa [pc] using c
  simp only[pc,List.getElem_map,List.getElem_range,BL];by_cases a:8*(l.length / 8)+k<l.length
  ·rw[Bq a,List.getElem_append_left (by rw[List.length_drop];omega),List.getElem_drop,List.getD_eq_getElem?_getD,List.getElem?_eq_getElem a]
   rfl
  ·rw[Bb a,List.getElem_append_right (by rw[List.length_drop];omega)]
   by_cases b:k=7
   ·rw[Bq b,List.getElem_append_right (by simp;omega)]
    simp
   ·rw[Bb b,List.getElem_append_left (by simp;omega)]
    simp
 rw[e,JL,Aax];unfold Sm
 have:(256:Int) ^ (l.drop (8*(l.length / 8))).length*(256 ^ (7-(l.length-8*(l.length / 8)))*((l.length:Int) % 256))=72057594037927936*((l.length:Int) % 256):=by
  rw[<-Int.mul_assoc,<-Int.pow_add,List.length_drop];have:l.length-8*(l.length / 8)+(7-(l.length-8*(l.length / 8)))=7:=Ω
  rw[this];rfl
 rw[this]
theorem Bcy{a b:Int}(d:0<=a)(e:a<72057594037927936)(f:0<=b)(h:b<=255):Vg .u64 (Dx .u64 a 8) b=b+256*a:=by
 obtain⟨n,rfl⟩:=Int.eq_ofNat_of_zero_le d
 have g:Dx .u64 (n:Int) 8=((n*2 ^ 8:Nat):Int):=by
  have:=NO (a:=(n:Int)) (k:=8) Ω Ω Ω (by
   have:(2 ^ (8:Int).toNat:Nat)=256:=Δ
   rw[this];omega)
  rw[this];have:(2 ^ (8:Int).toNat:Nat)=256:=Δ
  rw[this];have:(2 ^ 8:Nat)=256:=Δ
  rw[this];omega
 have c:(2 ^ 8:Nat)=256:=Δ
 rw[g,(GA (a:=b) 8 n f (by rw[c];omega) rfl (by rw[c];omega)).2,c]
 omega
theorem An7{a0 a1:Int}{n m0:Nat}{c:Ae}{l:Ak}(p:Ce l)(s:l.length<=1099511627776){i:Nat}(hi:i<=l.length)(v:W4):∀(j nn:Nat),j<=8->j<nn ->
  Fz u (Ac (CX B) prog u (d+2)) a0 a1 n c m0 nn l.length (Af .u8 l) i (Ze ((pc l i).drop j)) ((j:Int)-1) v.cells =
   G9 u (Ac (CX B) prog u (d+2)) a0 a1 n c m0 l.length (Af .u8 l) ((i+8:Nat):Int) (Y9 v (Ze (pc l i))).cells
 |_,0,_,h=>Ω
 |0,nn+1,t,w=>by
  have x:wrap .i64 ((i:Int)+8)=((i+8:Nat):Int):=Bi
  have g:=Tq (B:=B) (u:=u) (d:=d) ⟨v.a,v.b,v.c,E4 .u64 v.d (Ze (pc l i))⟩;have f:=Tq (B:=B) (u:=u) (d:=d) (ZT ⟨v.a,v.b,v.c,E4 .u64 v.d (Ze (pc l i))⟩);have eA:Y9 v (Ze (pc l i))=Ba1 (ZT (ZT ⟨v.a,v.b,v.c,E4 .u64 v.d (Ze (pc l i))⟩)) (Ze (pc l i)):=rfl;rw[eA];generalize ZT ⟨v.a,v.b,v.c,E4 .u64 v.d (Ze (pc l i))⟩=U at g f ⊢;generalize ZT U=E at f ⊢;simp only[W4.cells] at g f;rw[Rj,Fd _ _ _ Ω,Nr];simp only[W4.cells,List.getD_cons_zero,List.getD_cons_succ,JD,Fv];simp (disch:=first|omega|(simp;done)) only[Av,Au,B1,List.take_succ_cons,List.take_zero,List.drop_succ_cons,Nr,List.drop_nil,Zzp,Zzq,List.append_nil,Ox,SS,List.getD_cons_zero,List.getD_cons_succ,g,f,x,Ka,Nat.reduceAdd,Nat.reduceLeDiff,List.append_eq]
  rfl
 |j+1,nn+1,t,w=>by
  have k:=An7 (a0:=a0) (a1:=a1) (n:=n) (m0:=m0) (c:=c) p s hi v j nn Ω Ω;have y:wrap .i64 ((i:Int)+(((j+1:Nat):Int)-1))=((i+j:Nat):Int):=Bi
  have m:wrap .i64 (((j+1:Nat):Int)-1-1)=(j:Int)-1:=Bi
  have hd:(pc l i).drop j=BL l i j::(pc l i).drop (j+1):=by
   rw[List.drop_eq_getElem_cons (by simp[pc];omega)]
   simp[pc]
  have q:=Bgv p i;have o:=Z3 (q.drop (j+1))
  have z:(256:Int) ^ ((pc l i).drop (j+1)).length<=72057594037927936:=by
   have Ef:((pc l i).drop (j+1)).length<=7:=by simp[pc]
   have:(256:Nat) ^ ((pc l i).drop (j+1)).length<=256 ^ 7:=Nat.pow_le_pow_right Ω Ef;have A:(((256:Nat) ^ ((pc l i).drop (j+1)).length:Nat):Int)<=((256 ^ 7:Nat):Int):=Ω
   simpa using A
  have b:0<=BL l i j/\BL l i j<=255:=q _ (by rw[<-Nr (l:=pc l i)];exact List.mem_of_mem_drop (i:=j) (by rw[Nr,hd];simp))
  have a:Vg .u64 (Dx .u64 (Ze ((pc l i).drop (j+1))) 8) (BL l i j)=Ze ((pc l i).drop j):=by
   rw[Bcy o.1 Ω b.1 b.2,hd];rfl
  have wc:wrap .u64 (BL l i j)=BL l i j:=Do;rw[Rj,EY _ _ _ Ω];simp only[Fv,y];by_cases c1:i+j<l.length
  ·have e:BL l i j=l.getD (i+j) 0:=by unfold BL;rw[Bq c1]
   have C:l[i+j]?=some (BL l i j):=by rw[e,List.getD_eq_getElem?_getD,List.getElem?_eq_getElem c1];rfl
   rw[EY _ _ _ Ω];simp(disch:=omega)only[Av,Au,H8,Jy,Sr C,wc,a,m];exact k
  ·rw[Fd _ _ _ Ω];by_cases r:j=7
   ·subst r;have e:BL l i 7=(l.length:Int) % 256:=by unfold BL;rw[Bb c1,Bq rfl]
    have D:wrap .u8 (l.length:Int)=BL l i 7:=by
     rw[e];simp only[wrap,IntKind.signed,IntKind.bits];simp
    rw[Hx,Bq Ω,D,wc,a,m];exact k
   ·have e:BL l i j=0:=by unfold BL;rw[Bb c1,Bb r]
    rw[e] at a;rw[Hx,Bb Ω,a,m];exact k
theorem Ade{a0 a1:Int}{n:Nat}{c:Ae}{l:Ak}(o:Ce l)(p:l.length<=1099511627776)(Bg:100<=u):∀(k i nn:Nat)(v:W4),i+k=l.length / 8->k+1<nn ->
  G9 u (Ac (CX B) prog u (d+2)) a0 a1 n c nn l.length (Af .u8 l) ((8*i:Nat):Int) v.cells=some ⟨[Ag (Arj (Aq4 (Y9 (Aaa k v (l.drop (8*i))) (Sm l))))],[]⟩
 |_,_,0,_,_,h=>Ω
 |k,i,nn+1,v,hi,y=>by
  have step:=An7 (B:=B) (u:=u) (d:=d) (a0:=a0) (a1:=a1) (n:=n) (m0:=nn) (c:=c) o p (i:=8*i) Ω v 8 u Ω Ω;have q:Ze ((pc l (8*i)).drop 8)=0:=by rw[List.drop_of_length_le (by simp[pc])];rfl
  rw[q] at step;rw[Qt,EY _ _ _ Ω];refine step.trans ?_;cases k with
  |zero=>
   have e:i=l.length / 8:=Ω
   subst e;rw[A19];generalize r:Y9 v (Sm l)=a;obtain⟨f,rfl⟩:∃f,nn=f+1:=⟨nn-1,Ω⟩
   have m:=Tq (B:=B) (u:=u) (d:=d) ⟨a.a,a.b,E4 .u64 a.c 255,a.d⟩;have j:=Tq (B:=B) (u:=u) (d:=d) (ZT ⟨a.a,a.b,E4 .u64 a.c 255,a.d⟩);have g:=Tq (B:=B) (u:=u) (d:=d) (ZT (ZT ⟨a.a,a.b,E4 .u64 a.c 255,a.d⟩));have b:=Tq (B:=B) (u:=u) (d:=d) (ZT (ZT (ZT ⟨a.a,a.b,E4 .u64 a.c 255,a.d⟩)))
   have eF:Arj (Aq4 (Y9 (Aaa 0 v (l.drop (8*(l.length / 8)))) (Sm l)))=Arj (ZT (ZT (ZT (ZT ⟨a.a,a.b,E4 .u64 a.c 255,a.d⟩)))):=by
    rw[Aaa,r];rfl
   rw[eF];clear eF;generalize ZT ⟨a.a,a.b,E4 .u64 a.c 255,a.d⟩=s at m j g b ⊢;generalize ZT s=t at j g b ⊢;generalize ZT t=w at g b ⊢;generalize ZT w=z at b ⊢;simp only[W4.cells] at m j g b;rw[Qt,Fd _ _ _ Ω];simp only[W4.cells,List.getD_cons_zero,List.getD_cons_succ,JD,Fv];simp (disch:=first|omega|(simp;done)) only[Av,Au,B1,List.take_succ_cons,List.take_zero,List.drop_succ_cons,Nr,List.drop_nil,Zzp,Zzq,List.append_nil,Ox,SS,List.getD_cons_zero,List.getD_cons_succ,m,j,g,b,Ka,Nat.reduceAdd,Nat.reduceLeDiff,List.append_eq]
   rfl
  |succ k=>
   have x:=Ade (a0:=a0) (a1:=a1) (n:=n) (c:=c) o p Bg k (i+1) nn (Y9 v (Ze (pc l (8*i)))) Ω Ω;rw[show 8*i+8=8*(i+1) by omega,x,A3q Ω];simp only[Aaa,List.drop_drop];rw[show 8*(i+1)=8*i+8 by omega]
theorem Apa{l:Ak}(e:Ce l)(f:l.length<=1099511627776)(Bg:100<=u)(g:l.length<u)(a b:Int):Ac (CX B) prog u (d+3) 88 [Ag a,Ag b,.lst false 1 l.length (Af .u8 l)]=some ⟨[Ag (A2a a b l)],[]⟩:=by rw[NJ];exact Ade (B:=B) (u:=u) (d:=d) (a0:=a) (a1:=b) (n:=l.length) (c:=Af .u8 l) e f Bg (l.length / 8) 0 u (A7e a b) Ω Ω
theorem LT{l:Ak}(a:Ce l)(b:l.length<=1099511627776)(Bg:100<=u)(c:l.length<u)(dom:Int):Ac (CX B) prog u (d+4) 47 [A0 dom,.lst false 1 l.length (Af .u8 l)]=some ⟨[Ag (Fa dom l)],[]⟩:=by rw[KD];have s:=Apa (B:=B) (u:=u) (d:=d) a b Bg c (wrap .u64 dom) 0;simp only[Av,Au,s];rfl
theorem Apr{l:Ak}(a:Ce l)(b:l.length<=1099511627776)(Bg:100<=u)(c:l.length<u)(key dom:Int):Ac (CX B) prog u (d+4) 51 [Ag key,A0 dom,.lst false 1 l.length (Af .u8 l)]=some ⟨[Ag (A1n key dom l)],[]⟩:=by rw[LO];have s:=Apa (B:=B) (u:=u) (d:=d) a b Bg c key (wrap .u64 (1+wrap .u64 dom));simp only[Av,Au,s];rfl
end
end
end Go.Proofs.YthlonbjmnomlcaaGreatDoor.Pv
