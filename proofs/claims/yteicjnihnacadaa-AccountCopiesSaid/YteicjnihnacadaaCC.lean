/-
  The proof of AccountCopies, part 3.
-/
import Derived.Test.YteicjnihnacadaaCB
import Derived.StillTail
import Derived.WalkKit
import Derived.ProofKit
import Derived.OpenShut
import Derived.ShutString
import Derived.ChangeOld
import Derived.Below
import Derived.Deep.Slices
import Derived.ChangeSame
import Derived.WideKeyArgs
import Derived.Carry
import Derived.Test.YteicjnihnacadaaRows
set_option linter.unusedSimpArgs false
set_option linter.unusedVariables false
namespace Go.Proofs.Yteicjnihnacadaa.Pv
section
section
variable {R R':Type} {Rel:Option R->Option R'->Prop}
theorem E4 (hn:Rel none none){k:IntKind}{p:PV}{K:Int->Option R}{K':Int->Option R'}(hK:∀n,Rel (K n) (K' n)):Rel (Ag k p K) (Ag k p K'):=by
 unfold Ag;split
 ·split<;>first|exact hK _|exact hn
 ·exact hn
theorem Cg (hn:Rel none none){p:PV}{K:IntKind->Int->Option R}{K':IntKind->Int->Option R'}(hK:∀k n,Rel (K k n) (K' k n)):Rel (B4 p K) (B4 p K'):=by
 unfold B4;split<;>first|exact hK _ _|exact hn
theorem D4 (hn:Rel none none){p:PV}{K:Bool->Option R}{K':Bool->Option R'}(hK:∀n,Rel (K n) (K' n)):Rel (A7 p K) (A7 p K'):=by
 unfold A7;split<;>first|exact hK _|exact hn
theorem Dn (hn:Rel none none){p:PV}{K:ByteArray->Option R}{K':ByteArray->Option R'}(hK:∀n,Rel (K n) (K' n)):Rel (Er p K) (Er p K'):=by
 unfold Er;split<;>first|exact hK _|exact hn
theorem De (hn:Rel none none){es:Nat}{p:PV}{K:Bool->Nat->List PV->Option R}{K':Bool->Nat->List PV->Option R'}(hK:∀z n c,Rel (K z n c) (K' z n c)):Rel (F5 es p K) (F5 es p K'):=by
 unfold F5;split
 ·rename_i es' _ _;cases Nat.beq es' es
  ·exact hn
  ·exact hK _ _ _
 ·exact hK _ _ _
 ·exact hn
theorem WH (hn:Rel none none){es:Nat}{p:PV}{K:PV->Option R}{K':PV->Option R'}(hK:∀p,Rel (K p) (K' p)):Rel (fsK es p K) (fsK es p K'):=by
 unfold fsK;split
 ·rename_i es' _ _;cases Nat.beq es' es
  ·exact hn
  ·exact hK _
 ·exact De hn fun _ _ _=>hK _
theorem KV (hn:Rel none none){es:Nat}{p:PV}{K:Nat->List PV->Option R}{K':Nat->List PV->Option R'}(hK:∀n c,Rel (K n c) (K' n c)):Rel (Ml es p K) (Ml es p K'):=by
 unfold Ml;split
 ·rename_i es' _ _;cases Nat.beq es' es
  ·exact hn
  ·exact hK _ _
 ·exact hn
theorem An (hn:Rel none none){b:Bool}{K:Option R}{K':Option R'}(hK:b=true->Rel K K'):Rel (As b K) (As b K'):=by
 cases b
 ·exact hn
 ·exact hK rfl
theorem Ub {b:Bool}{x y:Option R}{x' y':Option R'}(hx:Rel x x')(hy:Rel y y'):Rel (Cb b x y) (Cb b x' y'):=by
 cases b
 ·exact hy
 ·exact hx
theorem B0 (hn:Rel none none){α:Type}{o:Option α}{K:α->Option R}{K':α->Option R'}(hK:∀a,o=some a->Rel (K a) (K' a)):Rel (C7 o K) (C7 o K'):=by
 cases o
 ·exact hn
 ·exact hK _ rfl
theorem Av (hn:Rel none none){α:Type}{l:List α}{K:α->List α->Option R}{K':α->List α->Option R'}(hK:∀a r,l=a::r->Rel (K a r) (K' a r)):Rel (Aa l K) (Aa l K'):=by
 cases l
 ·exact hn
 ·exact hK _ _ rfl
theorem C2 (hn:Rel none none){α:Type}{l:List α}{K:Option R}{K':Option R'}(hK:Rel K K'):Rel (Ah l K) (Ah l K'):=by
 cases l
 ·exact hK
 ·exact hn
theorem Fw (hn:Rel none none){p:PV}{K:List PV->Option R}{K':List PV->Option R'}(hK:∀c,p=.agg c->Rel (K c) (K' c)):Rel (Dw p K) (Dw p K'):=by
 unfold Dw;split
 ·exact hK _ rfl
 ·exact hn
theorem NU (hn:Rel none none){p:PV}{K:List PV->Option R}{K':List PV->Option R'}(hK:∀c,Rel (K c) (K' c)):Rel (Pq p K) (Pq p K'):=by
 unfold Pq;split
 ·exact hK _
 ·exact hn
theorem Xr (hn:Rel none none){r:Option Bg}{K:List PV->List (List PV)->Option R} {K':List PV->List (List PV)->Option R'} (hK:∀v o,Rel (K v o) (K' v o)):Rel (Ar r K) (Ar r K'):=by
 unfold Ar;split
 ·exact hK _ _
 ·exact hn
theorem LD (hn:Rel none none){p:PV}{K:Value->Option R}{K':Value->Option R'}(hK:∀v,Rel (K v) (K' v)):Rel (PX p K) (PX p K'):=by
 unfold PX;split
 ·exact hK _
 ·exact hn
theorem XN (hn:Rel none none){p:PV}{K:FuncId->Option R}{K':FuncId->Option R'}(hK:∀v,Rel (K v) (K' v)):Rel (fvK p K) (fvK p K'):=by
 unfold fvK;split
 ·rename_i f a b;cases (a.isEmpty&&b.isEmpty)
  ·exact hn
  ·exact hK _
 ·exact hn
theorem Jp (hn:Rel none none){t:CT}{p:PV}{K:PV->Option R}{K':PV->Option R'}(hK:∀p,Rel (K p) (K' p)):Rel (Se t p K) (Se t p K'):=by
 unfold Se;split
 ·exact E4 hn fun _=>hK _
 ·exact D4 hn fun _=>hK _
 ·exact Dn hn fun _=>hK _
 ·exact De hn fun _ _ _=>hK _
 ·exact LD hn fun _=>hK _
theorem WY (hn:Rel none none){t:CT}{p:PV}{K:PV->Option R}{K':PV->Option R'}(hK:∀p,Rel (K p) (K' p)):Rel (ZX t p K) (ZX t p K'):=by
 unfold ZX;split
 ·exact WH hn hK
 ·exact Jp hn hK
theorem Kw (hn:Rel none none):∀{ts:List CT}{cells:List PV}{off:Nat}{K:List PV->Option R}{K':List PV->Option R'},(∀c,Rel (K c) (K' c))->Rel (Mp ts cells off K) (Mp ts cells off K')
 |[],_,_,_,_,hK=>hK _
 |_::_,_,_,_,_,hK=>Jp hn fun _=>Kw hn fun _=>hK _
theorem Iu (hn:Rel none none):∀{ts:List CT}{cells:List PV}{off:Nat}{K:List PV->Option R}{K':List PV->Option R'},(∀c,Rel (K c) (K' c))->Rel (J4 ts cells off K) (J4 ts cells off K')
 |[],_,_,_,_,hK=>hK _
 |_::_,_,_,_,_,hK=>WY hn fun _=>Iu hn fun _=>hK _
theorem Qt (hn:Rel none none){g:Bool}{cells:List PV}{K:PV->Option R}{K':PV->Option R'}(hK:∀p,Rel (K p) (K' p)):Rel (LO g cells K) (LO g cells K'):=by
 cases g
 ·exact Av hn fun _ _ _=>C2 hn (hK _)
 ·exact hK _
theorem XF (hn:Rel none none){P:Program}{t:TypeId}{v:Value}{K:PV->Option R}{K':PV->Option R'}(hK:∀p,A5 p=[]->Rel (K p) (K' p)) (hK':∀c,Rel (K (.agg c)) (K' (.agg c))):Rel (cvK P t v K) (cvK P t v K'):=by
 unfold cvK;split
 ·exact An hn fun _=>Kw hn fun _=>hK' _
 ·split
  ·exact hK _ rfl
  ·exact hn
 ·exact hK _ rfl
theorem QE (hn:Rel none none){op:BinOp}{x y:Int}{K:Bool->Option R}{K':Bool->Option R'}(hK:∀n,Rel (K n) (K' n)):Rel (XS op x y K) (XS op x y K'):=by
 unfold XS;split<;>first|exact hK _|exact hn
theorem GK (hn:Rel none none){op:BinOp}{k:IntKind}{x y:Int}{K:PV->Option R}{K':PV->Option R'}(hK:∀n,Rel (K n) (K' n)):Rel (Vh op k x y K) (Vh op k x y K'):=by
 unfold Vh;split<;>first|exact hK _|exact An hn fun _=>hK _|exact QE hn fun _=>hK _
theorem JK (hn:Rel none none){op:BinOp}{x y:ByteArray}{K:PV->Option R}{K':PV->Option R'}(hK:∀n,Rel (K n) (K' n)):Rel (Vw op x y K) (Vw op x y K'):=by
 unfold Vw;split<;>first|exact hK _|exact An hn fun _=>hK _|exact hn
theorem X3 (hn:Rel none none){e:Bool}{p:PV}{K:PV->Option R}{K':PV->Option R'}(hK:∀n,Rel (K n) (K' n)):Rel (V9 e p K) (V9 e p K'):=by
 unfold V9;split<;>first|exact hK _|exact Ub (hK _) (Ub (hK _) (hK _))|exact Ub (hK _) (hK _)|exact hn
theorem DU (hn:Rel none none):∀{ts:List CT}{ps qs:List PV}{K:Bool->Option R}{K':Bool->Option R'},(∀b,Rel (K b) (K' b))->Rel (Ha ts ps qs K) (Ha ts ps qs K'):=by
 intro ts
 induction ts with
 |nil=>
  intro ps qs K K' hK;cases ps<;>cases qs<;>first|exact hK _|exact hn
 |cons t ts ih=>
  intro ps qs K K' hK;cases ps with
  |nil=>cases t<;>cases qs<;>exact hn
  |cons p ps=>
   cases qs with
   |nil=>cases t<;>exact hn
   |cons q qs=>
    cases t
    ·exact E4 hn fun _=>E4 hn fun _=>ih fun _=>hK _
    ·exact D4 hn fun _=>D4 hn fun _=>ih fun _=>hK _
    ·exact Dn hn fun _=>Dn hn fun _=>ih fun _=>hK _
    ·exact hn
    ·exact hn
theorem UF (hn:Rel none none){P:Program}{op:BinOp}{t:TypeId}{x y:PV}{K:PV->Option R}{K':PV->Option R'}(hK:∀p,Rel (K p) (K' p)):Rel (QB P op t x y K) (QB P op t x y K'):=by
 unfold QB;split
 ·split
  ·exact E4 hn fun _=>Cg hn fun _ _=>An hn fun _=>hK _
  ·exact E4 hn fun _=>Cg hn fun _ _=>An hn fun _=>hK _
  ·exact E4 hn fun _=>E4 hn fun _=>GK hn hK
 ·exact Dn hn fun _=>Dn hn fun _=>JK hn hK
 ·split
  ·exact D4 hn fun _=>D4 hn fun _=>hK _
  ·exact D4 hn fun _=>D4 hn fun _=>hK _
  ·exact hn
 ·split
  ·exact X3 hn fun _=>hK _
  ·exact X3 hn fun _=>hK _
  ·exact hn
 ·exact hn
theorem DW (hn:Rel none none){P:Program}{op:BinOp}{t:TypeId}{x y:PV}{K:PV->Option R}{K':PV->Option R'}(hK:∀p,Rel (K p) (K' p)):Rel (Nq P op t x y K) (Nq P op t x y K'):=by
 unfold Nq;split
 ·split
  ·exact An hn fun _=>Fw hn fun _ _=>Fw hn fun _ _=>DU hn fun _=>hK _
  ·exact An hn fun _=>Fw hn fun _ _=>Fw hn fun _ _=>DU hn fun _=>hK _
  ·exact hn
 ·exact UF hn hK
theorem XR (hn:Rel none none){op:UnOp}{x:PV}{K:PV->Option R}{K':PV->Option R'}(hK:∀p,Rel (K p) (K' p)):Rel (unK op x K) (unK op x K'):=by
 unfold unK;split<;>first|exact D4 hn fun _=>hK _|exact Cg hn fun _ _=>hK _|exact hn
theorem Cd (hn:Rel none none){p:Option PV}{d:Nat}{K:Nat->Option R}{K':Nat->Option R'}(hK:∀n,Rel (K n) (K' n)):Rel (D9 p d K) (D9 p d K'):=by
 unfold D9;split
 ·exact hK _
 ·exact Cg hn fun _ _=>An hn fun _=>hK _
theorem R6 (hn:Rel none none){x:PV}{d:Nat}{K:PV->Option R}{K':PV->Option R'}(hK:∀n,Rel (K n) (K' n)):Rel (Mb x d K) (Mb x d K'):=by
 unfold Mb;split<;>first|exact hK _|exact hn
theorem Vk (hn:Rel none none){P:Program}{t:TypeId}{x:PV}{i:Int}{K:PV->Option R}{K':PV->Option R'}(hK:∀p,Rel (K p) (K' p)):Rel (Gr P t x i K) (Gr P t x i K'):=by
 unfold Gr;split
 ·exact An hn fun _=>An hn fun _=>R6 hn hK
 ·refine An hn fun _=>?_
  split
  ·exact An hn fun _=>An hn fun _=>hK _
  ·exact De hn fun _ _ _=>An hn fun _=>hK _
 ·exact hn
theorem Rr (hn:Rel none none){D0:Nat->Option (Nat × Nat)}:∀{ps:List (Nat × PV)} {cells:List PV}{K:List PV->Option R}{K':List PV->Option R'},(∀c,Rel (K c) (K' c))->Rel (Mv D0 ps cells K) (Mv D0 ps cells K')
 |[],_,_,_,hK=>hK _
 |(_,_)::_,_,_,_,hK=>B0 hn fun _ _=>An hn fun _=>Rr hn hK
theorem Mm (hn:Rel none none){P:Program}{t:TypeId}{K:List PV->Option R}{K':List PV->Option R'}(hK:∀p,Rel (K p) (K' p)):Rel (Ef P t K) (Ef P t K'):=
 B0 hn fun _ _=>An hn fun _=>Kw hn hK
theorem RG (hn:Rel none none){x y:PV}{K:PV->Option R}{K':PV->Option R'}(hK:∀p,Rel (K p) (K' p)):Rel (XL x y K) (XL x y K'):=
 Cg hn fun _ _=>E4 hn fun _=>hK _
theorem RJ (hn:Rel none none){x y:PV}{K:PV->Option R}{K':PV->Option R'}(hK:∀p,Rel (K p) (K' p)):Rel (YQ x y K) (YQ x y K'):=
 Cg hn fun _ _=>E4 hn fun _=>hK _
theorem VK (hn:Rel none none){P:Program}{t:TypeId}{x:PV}{K:Nat->Option R}{K':Nat->Option R'}(hK:∀p,Rel (K p) (K' p)):Rel (OB P t x K) (OB P t x K'):=by
 unfold OB;split
 ·exact Dn hn fun _=>hK _
 ·exact hK _
 ·split
  ·exact An hn fun _=>hK _
  ·exact De hn fun _ _ _=>hK _
 ·exact hn
def BU (Rel:Option R->Option R'->Prop)(f f':Nat->Option (List PV)) (l:List Nat):Prop:=∀i∈l,f i=f' i∨(f i=none∧∀b,Rel none b)
variable {f f':Nat->Option (List PV)}
theorem BU.sub {l l':List Nat}(h:BU Rel f f' l)(hs:∀i∈l',i∈l):BU Rel f f' l':=fun i hi=>h i (hs i hi)
theorem Qs (hn:Rel none none){l:List Nat}{id:Nat}(hf:BU Rel f f' l)(hi:id∈l){K:List PV->Option R}{K':List PV->Option R'}(hK:∀c,f id=some c->Rel (K c) (K' c)):Rel (C7 (f id) K) (C7 (f' id) K'):=by
 rcases hf id hi with h|⟨h,hb⟩
 ·rw[←h];exact B0 hn hK
 ·rw[h];exact hb _
theorem Qz (hn:Rel none none){es:Nat}{p:PV}{K:Nat->List PV->Option R}{K':Nat->List PV->Option R'}(hf:BU Rel f f' (Ai p)) (hK:∀n c,Rel (K n c) (K' n c)):Rel (IV f es p K) (IV f' es p K'):=by
 unfold IV;split
 ·rename_i id es' off n;cases Nat.beq es' es
  ·exact hn
  ·exact Qs hn hf (by simp[Ai]) fun _ _=>An hn fun _=>hK _ _
 ·exact De hn fun _ _ _=>hK _ _
theorem UJ (hn:Rel none none){t:CT}{p:PV}{K:PV->List Nat->Option R}{K':PV->List Nat->Option R'}(hf:BU Rel f f' (Ai p)) (hK:∀c m,(∀i∈m,f i≠none)->Rel (K c m) (K' c m)):Rel (Ja f t p K) (Ja f' t p K'):=by
 unfold Ja;split
 ·split
  ·rename_i id es' off n;cases Nat.beq es' _
   ·exact hn
   ·exact Qs hn hf (by simp[Ai]) fun c hc=>An hn fun _=>hK _ _ (by simp[hc])
  ·exact De hn fun _ _ _=>hK _ _ (by simp)
 ·exact Jp hn fun _=>hK _ _ (by simp)
theorem Na (hn:Rel none none):∀{ts:List CT}{ps:List PV}{K:List PV->List Nat->Option R}{K':List PV->List Nat->Option R'},BU Rel f f' (ps.flatMap Ai)->(∀c m,(∀i∈m,f i≠none)->Rel (K c m) (K' c m))->Rel (Iv f ts ps K) (Iv f' ts ps K')
 |[],[],_,_,_,hK=>hK _ _ (by simp)
 |[],_::_,_,_,_,_=>hn
 |_::_,[],_,_,_,_=>hn
 |_::_,p::ps,_,_,hf,hK=>UJ hn (fun i hi=>hf i (by simp only[List.flatMap_cons,List.mem_append];exact .inl hi)) fun _ m hm=>Na hn (fun i hi=>hf i (by simp only[List.flatMap_cons,List.mem_append];exact .inr hi)) fun _ ms We=>hK _ _ fun i hi=>by
   rcases List.mem_append.1 hi with h|h
   ·exact hm i h
   ·exact We i h
theorem VA (hn:Rel none none){P:Program}{t:TypeId}{p:PV}{K:PV->List Nat->Option R}{K':PV->List Nat->Option R'}(hf:BU Rel f f' (Be p)) (hK:∀c m,(∀i∈m,f i≠none)->Rel (K c m) (K' c m)):Rel (HC P f t p K) (HC P f' t p K'):=by
 unfold HC
 have h1:∀i,i∈[p].flatMap Ai->i∈Be p:=by
  intro i hi;simp only[List.flatMap_cons,List.flatMap_nil,List.append_nil] at hi;cases p<;>first|exact hi|simp[Ai] at hi
 cases A9 P t
 ·exact Na hn (fun i hi=>hf i (h1 i hi)) fun _ _ hm=>Av hn fun _ _ _=>C2 hn (hK _ _ hm)
 ·refine Fw hn fun c hc=>?_
  subst hc;exact Na hn (fun i hi=>hf i hi) fun _ _ hm=>hK _ _ hm
theorem X8 (hn:Rel none none){P:Program}:∀{ts:List TypeId}{ps:List PV}{K:List PV->List Nat->Option R}{K':List PV->List Nat->Option R'},BU Rel f f' (ps.flatMap Be)->(∀c m,(∀i∈m,f i≠none)->Rel (K c m) (K' c m))->Rel (Vl P f ts ps K) (Vl P f' ts ps K')
 |[],[],_,_,_,hK=>hK _ _ (by simp)
 |[],_::_,_,_,_,_=>hn
 |_::_,[],_,_,_,_=>hn
 |_::_,p::ps,_,_,hf,hK=>VA hn (fun i hi=>hf i (by simp only[List.flatMap_cons,List.mem_append];exact .inl hi)) fun _ m hm=>X8 hn (fun i hi=>hf i (by simp only[List.flatMap_cons,List.mem_append];exact .inr hi)) fun _ ms We=>hK _ _ fun i hi=>by
   rcases List.mem_append.1 hi with h|h
   ·exact hm i h
   ·exact We i h
theorem HB (hn:Rel none none){P:Program}{t:TypeId}{x:PV}{lo hi:Option PV}{K:PV->Option R}{K':PV->Option R'}(hf:(∃n e,P.underlying t=some (.array n e))->BU Rel f f' (Ai x)) (hK:∀c,Rel (K c) (K' c)):Rel (Si P f t x lo hi K) (Si P f' t x lo hi K'):=by
 unfold Si;split
 ·exact Dn hn fun _=>Cd hn fun _=>Cd hn fun _=>An hn fun _=>hK _
 ·refine An hn fun _=>?_
  split
  ·exact An hn fun _=>Cd hn fun _=>Cd hn fun _=>An hn fun _=>hK _
  ·exact De hn fun _ _ _=>Cd hn fun _=>Cd hn fun _=>An hn fun _=>hK _
 ·rename_i n e hu;refine An hn fun _=>?_
  split
  ·rename_i id off;exact Qs hn (hf ⟨_,_,hu⟩) (by simp[Ai]) fun _ _=>An hn fun _=>Cd hn fun _=>Cd hn fun _=>An hn fun _=>hK _
  ·exact hn
 ·exact hn
theorem FD (hn:Rel none none){P:Program}{d:Nat}{t:TypeId}{x:PV}{lo hi mx:Option PV}{K:PV->List (Nat × A1)->Option R} {K':PV->List (Nat × A1)->Option R'} (hK:∀c,Rel (K c [(d,.ar false [])]) (K' c [(d,.ar false [])])):Rel (Nk P d t x lo hi mx K) (Nk P d t x lo hi mx K'):=by
 unfold Nk;split
 ·refine An hn fun _=>?_
  split
  ·exact An hn fun _=>Cd hn fun _=>Cd hn fun _=>Cd hn fun _=>An hn fun _=>hK _
  ·exact De hn fun _ _ _=>Cd hn fun _=>Cd hn fun _=>Cd hn fun _=>An hn fun _=>hK _
 ·exact hn
theorem Xw {nz:Bool}{g g':Nat->Option (List PV)} (hn:Rel none none){P:Program}{t:TypeId}{x:PV}{K:PV->Option R}{K':PV->Option R'}(hf:∀i∈Ai x,(f i=f' i∧g i=g' i)∨(f i=none∧g i=none∧∀b,Rel none b)) (hK:∀c,Rel (K c) (K' c)):Rel (Qk nz P f g t x K) (Qk nz P f' g' t x K'):=by
 unfold Qk;split
 ·rename_i id off;refine An hn fun _=>?_
  rcases hf id (by simp[Ai]) with⟨h1,h2⟩|⟨h1,h2,h3⟩
  ·rw[←h1,←h2];split
   ·exact Kw hn fun _=>Qt hn fun _=>hK _
   ·exact B0 hn fun _ _=>Iu hn fun _=>Qt hn hK
  ·rw[h1,h2];exact h3 _
 ·exact An hn fun _=>Kw hn fun _=>Qt hn fun _=>hK _
 ·exact hn
theorem MJ (hn:Rel none none){P:Program}{d:Nat}{src dst:TypeId}{x:PV}{K:PV->List (Nat × A1)->Option R} {K':PV->List (Nat × A1)->Option R'} (hf:P.underlying dst=some .string->BU Rel f f' (Ai x)) (hK:∀v b,(∀q∈b,q.1=d)->Rel (K v b) (K' v b)):Rel (Vj P f d src dst x K) (Vj P f' d src dst x K'):=by
 unfold Vj;split
 ·exact An hn fun _=>Cg hn fun _ _=>hK _ _ (by simp)
 ·rename_i hds;split
  ·exact Dn hn fun _=>hK _ _ (by simp)
  ·split
   ·exact Qz hn (hf hds) fun _ _=>An hn fun _=>B0 hn fun _ _=>hK _ _ (by simp)
   ·exact hn
  ·exact hn
 ·split
  ·exact Dn hn fun _=>An hn fun _=>hK _ _ (by simp)
  ·exact hn
 ·exact hn
theorem RW (hn:Rel none none){shr:Bool}{id:Nat}{t:CT}{p:PV}{K:PV->List (Nat × A1)->Option R} {K':PV->List (Nat × A1)->Option R'} (hK:∀c b,(∀q∈b,q.1=id)->Rel (K c b) (K' c b)):Rel (QA shr id t p K) (QA shr id t p K'):=by
 unfold QA;split
 ·cases shr
  ·exact KV hn fun _ _=>hK _ _ (by simp)
  ·exact De hn fun _ _ _=>hK _ _ (by simp)
 ·exact Jp hn fun _=>hK _ _ (by simp)
theorem Ng (hn:Rel none none){shr:Bool}{N:Nat}:∀{ts:List CT}{id:Nat}{ps:List PV}{K:List PV->List (Nat × A1)->Option R} {K':List PV->List (Nat × A1)->Option R'},(∀c b,(∀q∈b,∃j,q.1=id+N*j)->Rel (K c b) (K' c b))->Rel (Ka shr N id ts ps K) (Ka shr N id ts ps K')
 |[],_,_,_,_,hK=>C2 hn (hK _ _ (by simp))
 |_::_,id,_,_,_,hK=>Av hn fun _ _ _=>RW hn fun _ b hb=>Ng hn fun _ bs W3=>hK _ _ fun q hq=>by
   rcases List.mem_append.1 hq with h|h
   ·exact⟨0,by rw[hb q h];simp⟩
   ·obtain⟨j,hj⟩:=W3 q h;exact⟨j+1,by rw[hj,Nat.mul_add];omega⟩
theorem VF (hn:Rel none none){P:Program}{shr:Bool}{N id:Nat}{t:TypeId}{p:PV}{K:PV->List (Nat × A1)->Option R} {K':PV->List (Nat × A1)->Option R'} (hK:∀c b,(∀q∈b,∃j,q.1=id+N*j)->Rel (K c b) (K' c b)):Rel (MV P shr N id t p K) (MV P shr N id t p K'):=by
 unfold MV;split
 ·refine NU hn fun ps=>Ng hn fun _ _ hb=>hK _ _ fun q hq=>?_
  rcases List.mem_cons.1 hq with rfl|hq
  ·exact⟨0,by simp⟩
  ·obtain⟨j,hj⟩:=hb q hq;exact⟨j+1,by rw[hj,Nat.mul_add];omega⟩
 cases A9 P t
 ·exact Ng hn fun _ _ hb=>Av hn fun _ _ _=>C2 hn (hK _ _ hb)
 ·exact Fw hn fun _ _=>Ng hn fun _ _ hb=>hK _ _ hb
theorem Sb (hn:Rel none none){P:Program}{shr:Bool}{N:Nat}:∀{ts:List TypeId}{id:Nat}{ps:List PV}{K:List PV->List (Nat × A1)->Option R} {K':List PV->List (Nat × A1)->Option R'},(∀c b,(∀q∈b,∃j,q.1=id+N*j)->Rel (K c b) (K' c b))->Rel (Tg P shr N id ts ps K) (Tg P shr N id ts ps K')
 |[],_,_,_,_,hK=>C2 hn (hK _ _ (by simp))
 |t::_,id,_,_,_,hK=>Av hn fun _ _ _=>VF hn fun _ b hb=>Sb hn fun _ bs W3=>hK _ _ fun q hq=>by
   rcases List.mem_append.1 hq with h|h
   ·exact hb q h
   ·obtain⟨j,hj⟩:=W3 q h;exact⟨EH P t+j,by rw[hj,Nat.mul_add];omega⟩
end
theorem Mg {p:PV}{i:Nat}(h:i∈Ai p):i∈Be p:=by cases p<;>first|exact h|simp[Ai] at h
theorem Di {p:PV}{i:Nat}(h:i∈Be p):i∈A5 p:=by cases p<;>first|exact h|simp[Be,Ai] at h
theorem G4 {p:PV}{i:Nat}(h:i∈Ai p):i∈A5 p:=Di (Mg h)
section
variable {R R':Type} {Rel:Option R->Option R'->Prop} {P:Program} {N:Nat} {tm tm':Nat->PV} {f f' g g':Nat->Option (List PV)} {o:Oper}
theorem Wa (hn:Rel none none){t:TypeId}{x:Operand}{K:PV->Option R}{K':PV->Option R'}(hx:A8 tm x=A8 tm' x)(hK:∀p,Rel (K p) (K' p)):Rel (Sa P t tm x K) (Sa P t tm' x K'):=by
 unfold Sa;split
 ·exact XF hn (fun _ _=>hK _) (fun _=>hK _)
 ·rw[hx];exact hK _
theorem RV (hn:Rel none none){t:CT}{p:PV}{K:PV->Option R}{K':PV->Option R'}(hK:∀p,Ai p=[]->Rel (K p) (K' p)):Rel (Se t p K) (Se t p K'):=by
 unfold Se;split
 ·exact E4 hn fun _=>hK _ rfl
 ·exact D4 hn fun _=>hK _ rfl
 ·exact Dn hn fun _=>hK _ rfl
 ·exact De hn fun _ _ _=>hK _ rfl
 ·exact LD hn fun _=>hK _ rfl
theorem Yn (hn:Rel none none):∀{ts:List CT}{cells:List PV}{off:Nat}{K:List PV->Option R}{K':List PV->Option R'},(∀c,(∀p∈c,Ai p=[])->Rel (K c) (K' c))->Rel (Mp ts cells off K) (Mp ts cells off K')
 |[],_,_,_,_,hK=>hK _ (by simp)
 |_::_,_,_,_,_,hK=>RV hn fun c hc=>Yn hn fun cs Oj=>hK _ (by
   intro p hp;rcases List.mem_cons.1 hp with h|h
   ·rw[h];exact hc
   ·exact Oj p h)
theorem Pm (hn:Rel none none){t:TypeId}{K:List PV->Option R}{K':List PV->Option R'}(hK:∀c,(∀p∈c,Ai p=[])->Rel (K c) (K' c)):Rel (Ef P t K) (Ef P t K'):=
 B0 hn fun _ _=>An hn fun _=>Yn hn hK
theorem Me {p c:PV}(h:c∈cellsOf p){i:Nat}(hi:i∈Ai c):i∈Be p:=by
 unfold cellsOf at h;split at h
 ·exact List.mem_flatMap.2 ⟨c,h,hi⟩
 ·simp at h;subst h;exact Mg hi
theorem HO {cells new:List PV}{off:Nat}{c:PV}(h:c∈A0 cells new off):c∈cells∨c∈new:=by
 unfold A0 at h;rcases List.mem_append.1 h with h|h
 ·rcases List.mem_append.1 h with h|h
  ·exact .inl (List.mem_of_mem_take h)
  ·exact .inr h
 ·exact .inl (List.mem_of_mem_drop h)
theorem Vp (hn:Rel none none){D0:Nat->Option (Nat × Nat)} {S:Nat->Prop}:∀{ps:List (Nat × PV)} {cells:List PV}{K:List PV->Option R}{K':List PV->Option R'},(∀c∈cells,∀i∈Ai c,S i)->(∀q∈ps,∀i∈Be q.2,S i) ->
  (∀cs,(∀c∈cs,∀i∈Ai c,S i)->Rel (K cs) (K' cs))->Rel (Mv D0 ps cells K) (Mv D0 ps cells K')
 |[],_,_,_,h1,_,hK=>hK _ h1
 |(_,p)::_,_,_,_,h1,h2,hK=>B0 hn fun _ _=>An hn fun _=>Vp hn (fun c hc i hi=>by
   rcases HO hc with h|h
   ·exact h1 c h i hi
   ·exact h2 (_,p) List.mem_cons_self i (Me h hi)) (fun q hq=>h2 q (List.mem_cons_of_mem _ hq)) hK
theorem Sw (hn:Rel none none):∀{ts:List CT}{ps:List PV}{K:List PV->List Nat->Option R}{K':List PV->List Nat->Option R'},(∀t∈ts,∀es,t ≠ .sl es)->(∀c,Rel (K c []) (K' c []))->Rel (Iv g ts ps K) (Iv g' ts ps K')
 |[],[],_,_,_,hK=>hK _
 |[],_::_,_,_,_,_=>hn
 |_::_,[],_,_,_,_=>hn
 |t::ts,p::ps,K,K',ht,hK=>by
  show Rel (Ja g t p _) (Ja g' t p _)
  have:∀{g:Nat->Option (List PV)} {S:Type} {L:PV->List Nat->Option S},Ja g t p L=Se t p fun c=>L c []:=by
   intro g S L;cases t with
   |sl es=>exact absurd rfl (ht _ (by simp) es)
   |_=>rfl
  rw[this,this];exact Jp hn fun c=>Sw hn (fun t h=>ht t (by simp[h])) fun cs=>hK _
theorem UK (hn:Rel none none){es:Nat}{t:TypeId}{x:PV}{K:Nat->List PV->Option R}{K':Nat->List PV->Option R'}(hx:BU Rel g g' (Ai x)) (hK:∀m c,Rel (K m c) (K' m c)):Rel (IP P g es t x K) (IP P g' es t x K'):=by
 unfold IP;split
 ·exact An hn fun _=>Dn hn fun _=>hK _ _
 ·exact Qz hn hx hK
 ·exact hn
theorem QD (hn:Rel none none){t:TypeId}{x:PV}{K:Nat->Option R}{K':Nat->Option R'}(hK:∀n,Rel (K n) (K' n)):Rel (PB P t x K) (PB P t x K'):=by
 unfold PB;split
 ·exact De hn fun _ _ _=>An hn fun _=>hK _
 ·exact hn
theorem DQ (hn:Rel none none){d:Nat}{t tx:TypeId}{x:PV}{K:PV->List (Nat × A1)->Option R} {K':PV->List (Nat × A1)->Option R'} (hx:BU Rel g g' (Ai x)) (hK:∀v nw,Rel (K v nw) (K' v nw)):Rel (Np P g d t tx x K) (Np P g' d t tx x K'):=by
 unfold Np;split
 ·exact An hn fun _=>UK hn hx fun _ _=>An hn fun _=>hK _ _
 ·exact hn
theorem Va (hn:Rel none none){C:Eg}{call:Al}{K:PV->List Nat->List (Nat × A1)->Option R} {K':PV->List Nat->List (Nat × A1)->Option R'}
  (Gp:∀x∈o.op.operands.toList,A8 tm x=A8 tm' x)
  (hfg:El P o.op=true->∀x∈o.op.operands.toList,∀i∈A5 (A8 tm' x),(f i=f' i∧g i=g' i)∨(f i=none∧g i=none∧∀b,Rel none b))
  (hK:∀v fz nw,(El P o.op=false->fz=[]∧∀q∈nw,o.dst=some q.1)->(∀i∈fz,g i≠none)->Rel (K v fz nw) (K' v fz nw)):
  Rel (V3 C P N call tm f g o K) (V3 C P N call tm' f' g' o K'):=by
 have h0:∀v,Rel (K v [] []) (K' v [] []):=fun v=>hK v [] [] (fun _=>⟨rfl,by simp⟩) (by simp)
 have hf:El P o.op=true->∀x∈o.op.operands.toList,BU Rel f f' (A5 (A8 tm' x)):=fun h x hx i hi=>(hfg h x hx i hi).imp (·.1) fun h=>⟨h.1,h.2.2⟩
 have hg:El P o.op=true->∀x∈o.op.operands.toList,BU Rel g g' (A5 (A8 tm' x)):=fun h x hx i hi=>(hfg h x hx i hi).imp (·.2) fun h=>⟨h.2.1,h.2.2⟩
 unfold V3;generalize PY:o.op=op at *
 split
 ·exact Wa hn (Gp _ (by simp[Op.operands])) h0
 ·exact Wa hn (Gp _ (by simp[Op.operands])) h0
 ·rename_i c x y;rw[Gp c (by simp[Op.operands]),Gp x (by simp[Op.operands]),Gp y (by simp[Op.operands])]
  exact D4 hn fun _=>Ub (h0 _) (h0 _)
 ·exact B0 hn fun d hd=>Mm hn fun _=>hK _ _ _ (fun _=>⟨rfl,by simp[hd]⟩) (by simp)
 ·rename_i t x;rw[Gp x (by simp[Op.operands])]
  refine B0 hn fun d hd=>An hn fun _=>?_
  cases L9 P t
  ·exact Iu hn fun _=>hK _ _ _ (fun _=>⟨rfl,by simp[hd]⟩) (by simp)
  ·exact Kw hn fun _=>hK _ _ _ (fun _=>⟨rfl,by simp[hd]⟩) (by simp)
 ·rename_i t ps
  have:(ps.toList.map fun q=>(q.1,A8 tm q.2))=ps.toList.map fun q=>(q.1,A8 tm' q.2):=by
   apply List.map_congr_left;intro q hq;rw[Gp q.2 (by simp only[Op.operands];exact List.mem_map_of_mem hq)]
  rw[this];exact An hn fun _=>Mm hn fun _=>Rr hn fun _=>Iu hn fun _=>h0 _
 ·rename_i t n ps
  have:(ps.toList.map fun q=>(q.1,A8 tm q.2))=ps.toList.map fun q=>(q.1,A8 tm' q.2):=by
   apply List.map_congr_left;intro q hq;rw[Gp q.2 (by simp only[Op.operands];exact List.mem_map_of_mem hq)]
  rw[this];refine B0 hn fun d hd=>?_
  split
  ·rename_i e hu;cases DD:Fv P [e]
   ·refine An hn fun _=>Pm hn fun z hz=>Rr hn fun cs=>Sw hn ?_ fun cs'=>hK _ _ _ (fun _=>⟨rfl,by simp[hd]⟩) (by simp)
    intro c hc es he;obtain⟨l,hl,hc⟩:=List.mem_flatten.1 hc;rw[List.eq_of_mem_replicate hl] at hc;subst he
    have:Fv P [e]=true:=by
     unfold Fv;simp only[List.any_cons,List.any_nil,Bool.or_false,Bool.or_eq_true];exact .inr (List.any_eq_true.2 ⟨_,hc,rfl⟩)
    rw[this] at DD;cases DD
   refine An hn fun _=>Pm hn fun z hz=>Vp (S:=fun i=>∃x∈(Op.buildSlice t n ps).operands.toList,i∈A5 (A8 tm' x)) hn ?_ ?_ fun cs Oj=>?_
   ·intro c hc i hi;obtain⟨l,hl,hc⟩:=List.mem_flatten.1 hc;rw[List.eq_of_mem_replicate hl] at hc;rw[hz c hc] at hi;simp at hi
   ·intro q hq i hi;obtain⟨q',Dk,rfl⟩:=List.mem_map.1 hq;exact⟨q'.2,by simp only[Op.operands];exact List.mem_map_of_mem Dk,Di hi⟩
   ·refine Na hn (fun i hi=>?_) fun cs' m hm=>hK _ _ _ (fun h=>by simp[El,hu,DD] at h) hm
    obtain⟨c,hc,hi⟩:=List.mem_flatMap.1 hi;obtain⟨x,hx,hxi⟩:=Oj c hc i hi;exact hg (by simp[El,hu,DD]) x hx i hxi
  ·exact hn
 ·rename_i t x;rw[Gp x (by simp[Op.operands])]
  exact Xw hn (fun i hi=>hfg (by simp[El]) x (by simp[Op.operands]) i (G4 hi)) h0
 ·rename_i x;rw[Gp x (by simp[Op.operands])]
  exact R6 hn h0
 ·rename_i op' t x y _;rw[Gp x (by simp[Op.operands]),Gp y (by simp[Op.operands])]
  exact DW hn h0
 ·rename_i op' t x;rw[Gp x (by simp[Op.operands])]
  exact XR hn h0
 ·rename_i src dst x;rw[Gp x (by simp[Op.operands])]
  exact MJ hn (fun hds i hi=>hg (by simp[El,hds]) x (by simp[Op.operands]) i (G4 hi)) fun v b hb=>B0 hn fun d hd=>hK _ _ _ (fun _=>⟨rfl,fun q hq=>by rw[hd,hb q hq,hd];rfl⟩) (by simp)
 ·rename_i t x y;rw[Gp x (by simp[Op.operands]),Gp y (by simp[Op.operands])]
  refine B0 hn fun d hd=>?_
  split
  ·exact Cg hn fun _ _=>Cg hn fun _ _=>An hn fun _=>Mm hn fun _=>hK _ _ _ (fun _=>⟨rfl,by simp[hd]⟩) (by simp)
  ·exact hn
 ·rename_i t x lo hi mx;split
  ·rw[Gp x (by simp[Op.operands])]
   have h1:lo.map (A8 tm)=lo.map (A8 tm'):=by
    cases lo with
    |none=>rfl
    |some y=>simp only[Option.map_some];rw[Gp y (by simp[Op.operands])]
   have h2:hi.map (A8 tm)=hi.map (A8 tm'):=by
    cases hi with
    |none=>rfl
    |some y=>simp only[Option.map_some];rw[Gp y (by simp[Op.operands])]
   rw[h1,h2];exact HB hn (fun ⟨n,e,he⟩ i hi=>hf (by simp[El,he]) x (by simp[Op.operands]) i (G4 hi)) h0
  ·rename_i m;rw[Gp x (by simp[Op.operands])]
   have h1:lo.map (A8 tm)=lo.map (A8 tm'):=by
    cases lo with
    |none=>rfl
    |some y=>simp only[Option.map_some];rw[Gp y (by simp[Op.operands])]
   have h2:hi.map (A8 tm)=hi.map (A8 tm'):=by
    cases hi with
    |none=>rfl
    |some y=>simp only[Option.map_some];rw[Gp y (by simp[Op.operands])]
   rw[h1,h2,Gp m (by simp[Op.operands])]
   exact B0 hn fun d hd=>FD hn fun c=>hK _ _ _ (fun _=>⟨rfl,by simp[hd]⟩) (by simp)
 ·rename_i t x fl;rw[Gp x (by simp[Op.operands])]
  exact B0 hn fun _ _=>An hn fun _=>R6 hn h0
 ·rename_i t x fl;rw[Gp x (by simp[Op.operands])]
  exact B0 hn fun _ _=>An hn fun _=>Fw hn fun _ _=>Iu hn fun _=>Qt hn h0
 ·rename_i t x i;rw[Gp x (by simp[Op.operands]),Gp i (by simp[Op.operands])]
  exact Cg hn fun _ _=>Vk hn h0
 ·rename_i t x i;rw[Gp x (by simp[Op.operands]),Gp i (by simp[Op.operands])]
  refine Cg hn fun _ _=>?_
  split
  ·exact Dn hn fun _=>An hn fun _=>B0 hn fun _ _=>h0 _
  ·exact Fw hn fun _ _=>An hn fun _=>Iu hn fun _=>Qt hn h0
  ·exact hn
 ·rename_i x i;rw[Gp x (by simp[Op.operands])]
  split
  ·exact B0 hn fun _ _=>h0 _
  ·exact hn
 ·rename_i c
  have Gz:∀x∈c.args.toList,x∈(Op.call c).operands.toList:=by
   intro x hx;simp only[Op.operands,Call.operands,Array.toList_append,List.mem_append];exact .inr hx
  have rc:∀fn,El P (.call c)=true->Rel (Uz C P N call tm g o c fn K) (Uz C P N call tm' g' o c fn K'):=by
   intro fn PK;unfold Uz;have:c.args.toList.map (A8 tm)=c.args.toList.map (A8 tm'):=List.map_congr_left fun x hx=>Gp x (Gz x hx)
   rw[this];refine X8 hn (fun i hi=>?_) fun vs m hm=>Xr hn fun rv ro=>C2 hn (An hn fun _=>Sb hn fun ws bs W3=>An hn fun _=>hK _ _ _ (fun h=>by rw[PK] at h;cases h) (fun i hi=>?_))
   ·obtain⟨p,hp,hi⟩:=List.mem_flatMap.1 hi;obtain⟨x,hx,rfl⟩:=List.mem_map.1 hp;exact hg PK x (Gz x hx) i (Di hi)
   ·have AA:i∈m:=by
     cases hq:Fv P (I3 P o.type)<;>rw[hq] at hi
     ·simp at hi
     ·exact hi
    exact hm i AA
  split
  ·refine Av hn fun x _ hx=>Av hn fun _ _ _=>?_
   rw[Gp x (Gz x (by rw[hx];simp))]
   exact VK hn fun _=>h0 _
  ·refine Av hn fun x _ hx=>Av hn fun _ _ _=>?_
   rw[Gp x (Gz x (by rw[hx];simp))]
   exact QD hn fun _=>h0 _
  ·refine Av hn fun x _ hx=>Av hn fun y _ hy=>C2 hn ?_
   subst hy;rw[Gp x (Gz x (by rw[hx];simp)),Gp y (Gz y (by rw[hx];simp))]
   exact RG hn h0
  ·refine Av hn fun x _ hx=>Av hn fun y _ hy=>C2 hn ?_
   subst hy;rw[Gp x (Gz x (by rw[hx];simp)),Gp y (Gz y (by rw[hx];simp))]
   exact RJ hn h0
  ·rename_i hc;have PK:El P (.call c)=true:=by simp[El,hc]
   refine An hn fun _=>B0 hn fun d hd=>Av hn fun _ _ hb=>Av hn fun x _ hx=>C2 hn (Av hn fun _ _ _=>Av hn fun _ _ _=>?_)
   have LU:x∈c.args.toList:=by rw[hb,hx];simp
   rw[Gp x (Gz x LU)];exact DQ hn (fun i hi=>hg PK x (Gz x LU) i (G4 hi)) fun v nw=>hK _ _ _ (fun h=>by rw[PK] at h;cases h) (by simp)
  ·rename_i fn hc;have PK:El P (.call c)=true:=by simp[El,hc]
   exact rc fn PK
  ·rename_i t hc;have PK:El P (.call c)=true:=by simp[El,hc]
   have ht:=Gp (.tmp t) (by simp[Op.operands,Call.operands,hc])
   change tm t=tm' t at ht;rw[ht];exact XN hn fun fn=>rc fn PK
  ·exact hn
 ·exact hn
variable {hp:Nat->Option A1}
end
open Go.RowKit
abbrev Ov:=PV × List Nat × List (Nat × A1)
def Ec (ops:Array Oper)(o:Oper)(tm:Nat->PV):Option Bool:=
 match o.guard with
 |none=>some true
 |some (j,want)=>
  match (ops[j]?).bind (·.dst) with
  |none=>none
  |some d=>
   match tm d with
   |.sc (.bool b)=>some (b==want)
   |.sc (.tuple _)=>some false
   |_=>none
section
variable {R:Type} {r:R} {C:Eg} {P:Program} {N:Nat} {call:Al} {ops:Array Oper} {o x:Oper} {s:St} {K:St->Option R}
theorem AE:B3 C P N call ops o s K=match Ec ops o s.tm with
  |none=>none
  |some true=>CG C P N call o s K
  |some false=>As (Du N o.dst) (K ⟨Az s.tm o.dst (.sc undef),s.hp⟩):=by
 unfold B3 Ec;cases o.guard with
 |none=>rfl
 |some q=>
  obtain⟨j,want⟩:=q;cases hd:(ops[j]?).bind (·.dst) with
  |none=>simp[hd]
  |some d=>
   simp only[hd];cases ht:s.tm d with
   |sc v=>
    cases v with
    |bool b=>
     cases b<;>cases want<;>simp only[Cb,cond_true,cond_false,Pr s.tm ht]<;>rfl
    |_=>rfl
   |_=>rfl
def NC (C:Eg)(P:Program)(N:Nat)(call:Al)(o:Oper)(s:St):Option Ov:=
 V3 C P N call s.tm (rd s.hp) (Gb s.hp) o fun v fz nw=>some (v,fz,nw)
theorem YW {K:PV->List Nat->List (Nat × A1)->Option R}:V3 C P N call s.tm (rd s.hp) (Gb s.hp) o K=(NC C P N call o s).bind fun q=>K q.1 q.2.1 q.2.2:=by
 refine Va (Rel:=fun (a:Option R) (b:Option Ov)=>a=b.bind fun q=>K q.1 q.2.1 q.2.2) (K:=K) (K':=fun v fz nw=>some (v,fz,nw)) rfl (fun _ _=>rfl) (fun _ _ _ _ _=>.inl ⟨rfl,rfl⟩) fun v fz nw _ _=>rfl
theorem IB {q:Ov}(h:NC C P N call o s=some q):(El P o.op=false->q.2.1=[]∧∀p∈q.2.2,o.dst=some p.1)∧∀i∈q.2.1,Gb s.hp i≠none:=by
 have:=Va (C:=C) (P:=P) (N:=N) (call:=call) (o:=o) (tm:=s.tm) (tm':=s.tm) (f:=rd s.hp) (f':=rd s.hp) (g:=Gb s.hp) (g':=Gb s.hp)
  (Rel:=fun (a:Option Ov)(_:Option Ov)=>∀q,a=some q->(El P o.op=false->q.2.1=[]∧∀p∈q.2.2,o.dst=some p.1)∧∀i∈q.2.1,Gb s.hp i≠none)
  (K:=fun v fz nw=>some (v,fz,nw)) (K':=fun v fz nw=>some (v,fz,nw)) (fun _ h=>by cases h) (fun _ _=>rfl) (fun _ _ _ _ _=>.inl ⟨rfl,rfl⟩) (fun v fz nw h1 h2 q hq=>by cases hq;exact⟨h1,h2⟩)
 exact this q h
def gE (C:Eg)(P:Program)(N:Nat)(call:Al)(ops:Array Oper)(o:Oper)(s:St):Option Ov:=
 match Ec ops o s.tm with
 |none=>none
 |some true=>bif K9 C P o.op then none else NC C P N call o s
 |some false=>some (.sc undef,[],[])
def Ea (C:Eg)(P:Program)(ops:Array Oper)(o:Oper)(tm:Nat->PV):Bool:=K9 C P o.op&&(Ec ops o tm==some true)
theorem Gx (h:Ea C P ops o s.tm=false):B3 C P N call ops o s K=(gE C P N call ops o s).bind fun q=>R9 N s o.dst q.1 q.2.1 q.2.2 K:=by
 rw[AE];unfold gE;unfold Ea at h;cases hv:Ec ops o s.tm with
 |none=>rfl
 |some b=>
  rw[hv] at h;cases b with
  |false=>
   show As _ _=R9 N s o.dst (.sc undef) [] [] K;unfold R9;have h1:A3 s.hp []=true:=rfl;have h2:Aj (Ac s.hp []) []=s.hp:=rfl;rw[h1,h2,Bool.and_true]
  |true=>
   have hm:K9 C P o.op=false:=by simpa using h
   simp only[CG,hm,cond_false];exact YW
theorem Ff (h:Ea C P ops o s.tm=true):B3 C P N call ops o s K=Nw C P N call s o K:=by
 rw[AE];unfold Ea at h;simp only[Bool.and_eq_true,beq_iff_eq] at h;rw[h.2];simp only[CG,h.1,cond_true]
theorem Ms {q:Ov}(h:gE C P N call ops o s=some q):(El P o.op=false->q.2.1=[]∧∀p∈q.2.2,o.dst=some p.1)∧∀i∈q.2.1,Gb s.hp i≠none:=by
 unfold gE at h;split at h
 ·cases h
 ·cases hm:K9 C P o.op<;>rw[hm] at h
  ·exact IB h
  ·cases h
 ·cases h;exact⟨fun _=>⟨rfl,by simp⟩,by simp⟩
theorem Dc {tm tm':Nat->PV}(h:∀t∈Ch ops o,tm t=tm' t):∀y∈o.op.operands.toList,A8 tm y=A8 tm' y:=by
 intro y hy;cases y with
 |tmp t=>
  refine h t ?_;unfold Ch RC;refine List.mem_append.2 (.inl (List.mem_filterMap.2 ⟨.tmp t,hy,rfl⟩))
 |const v=>cases v<;>rfl
 |func f=>rfl
 |«global» g=>rfl
theorem G7 {tm tm':Nat->PV}(h:∀t∈Ch ops o,tm t=tm' t):Ec ops o tm=Ec ops o tm':=by
 unfold Ec;cases hg:o.guard with
 |none=>rfl
 |some q=>
  obtain⟨j,want⟩:=q;cases hd:(ops[j]?).bind (·.dst) with
  |none=>simp[hd]
  |some d=>
   have:tm d=tm' d:=h d (by
    unfold Ch;rw[hg];refine List.mem_append.2 (.inr ?_);simp only[hd];simp)
   simp only[hd,this]
theorem Qu {s':St}{q:Ov}(ht:∀t∈Ch ops o,s.tm t=s'.tm t)
  (hm:El P o.op=true->∀y∈o.op.operands.toList,∀i∈A5 (A8 s'.tm y),(rd s.hp i=rd s'.hp i∧Gb s.hp i=Gb s'.hp i)∨(rd s.hp i=none∧Gb s.hp i=none))
  (h:gE C P N call ops o s=some q):gE C P N call ops o s'=some q:=by
 unfold gE at h ⊢;rw[←G7 ht];split at h
 ·cases h
 ·cases hM:K9 C P o.op<;>rw[hM] at h
  ·have:=Va (C:=C) (P:=P) (N:=N) (call:=call) (o:=o) (tm:=s.tm) (tm':=s'.tm) (f:=rd s.hp) (f':=rd s'.hp) (g:=Gb s.hp) (g':=Gb s'.hp)
    (Rel:=fun (a b:Option Ov)=>a=some q->b=some q)
    (K:=fun v fz nw=>some (v,fz,nw)) (K':=fun v fz nw=>some (v,fz,nw)) (fun h=>h) (Dc ht)
    (fun Hg y hy i hi=>(hm Hg y hy i hi).imp id fun h=>⟨h.1,h.2,fun _ h=>by cases h⟩) (fun v fz nw _ _ h=>h)
   exact this h
  ·cases h
 ·exact h
end
open Go.RowKit
theorem Ke:∀{nw:List (Nat × A1)} {hp Bq:Nat->Option A1},A3 hp nw=true->(∀i b,(i,b)∈nw->Bq i=none)->A3 Bq nw=true
 |[],_,_,_,_=>rfl
 |(i,b)::nw,hp,Bq,h,h'=>by
  simp only[A3,Bool.and_eq_true,Option.isNone_iff_eq_none] at h ⊢;exact⟨⟨h' i b (by simp),h.1.2⟩,Ke h.2 fun j c hj=>h' j c (by simp[hj])⟩
section
variable {hp:Nat->Option A1} {fz:List Nat} {nw:List (Nat × A1)}
theorem Do (ha:A3 hp nw=true){i:Nat}(hi:hp i≠none):Aj (Ac hp fz) nw i=if i∈fz then (hp i).map Mq else hp i:=by
 obtain⟨h1,h2⟩:=Aw ha;rw[(Cn h2).2 i (fun bx hb=>hi (h1 i bx hb)),A4]
theorem Fo (ha:A3 hp nw=true){i:Nat}{b:A1}(hi:(i,b)∈nw):Aj (Ac hp fz) nw i=some b:=
 (Cn (Aw ha).2).1 i b hi
theorem Ip (ha:A3 hp nw=true){i:Nat}(hi:hp i=none)(hn:∀b,(i,b) ∉ nw):Aj (Ac hp fz) nw i=none:=by
 rw[(Cn (Aw ha).2).2 i hn,A4,hi];simp
theorem Iy (ha:A3 hp nw=true){i:Nat}(hi:hp i≠none):Aj (Ac hp fz) nw i≠none:=by
 rw[Do ha hi];cases h:hp i with
 |none=>exact absurd h hi
 |some b=>split<;>simp
theorem YT (b:Option A1):(match b.map Mq with|some (.st c)=>some c|some (.ar _ c)=>some c|_=>none)=(match b with|some (.st c)=>some c|some (.ar _ c)=>some c|_=>none):=by
 cases b with
 |none=>rfl
 |some b=>cases b<;>rfl
theorem TI (b:Option A1):(match b.map Mq with|some (.ar _ c)=>some c|_=>none)=(match b with|some (.ar _ c)=>some c|_=>none):=by
 cases b with
 |none=>rfl
 |some b=>cases b<;>rfl
theorem DV (ha:A3 hp nw=true){i:Nat}(hi:hp i≠none):rd (Aj (Ac hp fz) nw) i=rd hp i:=by
 unfold rd;rw[Do ha hi];by_cases h:i∈fz
 ·rw[if_pos h];exact YT _
 ·rw[if_neg h]
theorem Y5 (ha:A3 hp nw=true){i:Nat}(hi:hp i≠none):Gb (Aj (Ac hp fz) nw) i=Gb hp i:=by
 unfold Gb;rw[Do ha hi];by_cases h:i∈fz
 ·rw[if_pos h];exact TI _
 ·rw[if_neg h]
theorem KR {i:Nat}(hi:hp i=none):rd hp i=none:=by unfold rd;rw[hi]
theorem Hc {i:Nat}(hi:hp i=none):Gb hp i=none:=by unfold Gb;rw[hi]
theorem Afy (b:Option A1):(b.map Mq).map Mq=b.map Mq:=by
 cases b with
 |none=>rfl
 |some b=>cases b<;>rfl
theorem HN {fx fo:List Nat}{nx no:List (Nat × A1)} (hx:A3 hp nx=true)(ho:A3 (Aj (Ac hp fx) nx) no=true) (DK:A3 hp no=true)
  (Uq:A3 (Aj (Ac hp fo) no) nx=true) (h1:∀i∈fx,hp i≠none)(h2:∀i∈fo,hp i≠none):
  Aj (Ac (Aj (Ac hp fx) nx) fo) no=Aj (Ac (Aj (Ac hp fo) no) fx) nx:=by
 funext i
 by_cases hi:hp i=none
 ·by_cases CP:∃b,(i,b)∈no
  ·obtain⟨b,hb⟩:=CP
   have hnx:∀b',(i,b') ∉ nx:=fun b' Ep=>by
    have:=(Aw ho).1 i b hb;rw[Fo hx Ep] at this;cases this
   rw[Fo ho hb,Do Uq (by rw[Fo DK hb];simp),Fo DK hb,if_neg (fun h=>h1 i h hi)]
  ·have CP:∀b,(i,b) ∉ no:=fun b hb=>CP ⟨b,hb⟩
   by_cases hnx:∃b,(i,b)∈nx
   ·obtain⟨b,hb⟩:=hnx;rw[Fo Uq hb,Do ho (by rw[Fo hx hb];simp),Fo hx hb,if_neg (fun h=>h2 i h hi)]
   ·have hnx:∀b,(i,b) ∉ nx:=fun b hb=>hnx ⟨b,hb⟩
    rw[Ip ho (Ip hx hi hnx) CP,Ip Uq (Ip DK hi CP) hnx]
 ·rw[Do ho (Iy hx hi),Do hx hi,Do Uq (Iy DK hi),Do DK hi];split<;>split<;>first|rfl|rw[Afy]
end
section
variable {R:Type} {r:R} {C:Eg} {P:Program} {N:Nat} {call:Al} {ops:Array Oper} {o x:Oper} {s:St} {K:St->Option R}
structure Qv (C:Eg) (P:Program) (ops:Array Oper) (x o:Oper):Prop where
 xo:∀d,x.dst=some d->d ∉ Ch ops o
 ne:∀d,x.dst=some d->o.dst≠some d
 ox:∀d,o.dst=some d->d ∉ Ch ops x
 mx:K9 C P x.op=true->El P o.op=false
 mo:K9 C P o.op=true->El P x.op=false
theorem Lt {l:List Nat}{d:Nat}(h:l.any (Nat.beq d)=false):d ∉ l:=by
 intro hm;have:l.any (Nat.beq d)=true:=List.any_eq_true.2 ⟨d,hm,Nat.beq_refl d⟩;rw[this] at h;cases h
theorem QR (h:Vz C P ops x o=false):Qv C P ops x o:=by
 unfold Vz at h;simp only[Bool.or_eq_false_iff,Bool.and_eq_false_iff] at h;obtain⟨⟨⟨h1,h2⟩,h3⟩,h4⟩:=h;refine⟨fun d hd=>?_,fun d hd he=>?_,fun d hd=>?_,fun hm=>?_,fun hm=>?_⟩
 ·simp only[hd,Bool.or_eq_false_iff] at h1;exact Lt h1.1
 ·simp only[hd,he,Bool.or_eq_false_iff] at h1;rw[Nat.beq_refl] at h1;cases h1.2
 ·simp only[hd] at h2;exact Lt h2
 ·rw[hm] at h3;rcases h3 with h|h
  ·cases h
  ·exact h
 ·rw[hm] at h4;rcases h4 with h|h
  ·cases h
  ·exact h
theorem Cu {tm:Nat->PV}{d:Option Tmp}{v:PV}{l:List Nat}(h:∀i,d=some i->i ∉ l):∀t∈l,Az tm d v t=tm t:=by
 intro t ht;cases d with
 |none=>rfl
 |some d=>exact Ad _ _ (by rintro rfl;exact h _ rfl ht)
theorem G2 {tm:Nat->PV}{d e:Option Tmp}{u v:PV}(h:∀i,d=some i->e≠some i):Az (Az tm d u) e v=Az (Az tm e v) d u:=by
 cases d with
 |none=>rfl
 |some d=>
  cases e with
  |none=>rfl
  |some e=>exact FP _ _ _ (by rintro rfl;exact h _ rfl rfl)
def GD (C:Eg)(P:Program)(o:Oper)(s:St):Prop:=(∀y∈o.op.operands.toList,∀i∈A5 (A8 s.tm y),s.hp i≠none) ∧
 (K9 C P o.op=true->In o.op=false->∀y∈o.op.operands.toList,∀i∈A5 (A8 s.tm y),∀c,s.hp i=some (.st c)->∀p∈c,∀k∈Ai p,s.hp k≠none)
theorem Ek {tm tm':Nat->PV}(h:∀t∈Ch ops o,tm t=tm' t):Ea C P ops o tm=Ea C P ops o tm':=by
 unfold Ea;rw[G7 h]
theorem KI (hw:GD C P o s)(xo:∀d,x.dst=some d->d ∉ Ch ops o)(ne:∀d,x.dst=some d->o.dst≠some d)(ox:∀d,o.dst=some d->d ∉ Ch ops x)(hx:Ea C P ops x s.tm=false)(ho:Ea C P ops o s.tm=false)
  (h:B3 C P N call ops x s (fun s1=>B3 C P N call ops o s1 K)=some r):B3 C P N call ops o s (fun s1=>B3 C P N call ops x s1 K)=some r:=by
 rw[Gx hx] at h;cases ex:gE C P N call ops x s with
 |none=>rw[ex] at h;cases h
 |some q=>
 obtain⟨vx,fx,nx⟩:=q;rw[ex] at h;obtain⟨hb,h1⟩:=Ae h;simp only[Bool.and_eq_true] at hb;have t1:∀t∈Ch ops o,Az s.tm x.dst vx t=s.tm t:=Cu xo;change B3 C P N call ops o ⟨Az s.tm x.dst vx,Aj (Ac s.hp fx) nx⟩ K=some r at h1;rw[Gx (by rw[Ek t1];exact ho)] at h1
 cases eo:gE C P N call ops o ⟨Az s.tm x.dst vx,Aj (Ac s.hp fx) nx⟩ with
 |none=>rw[eo] at h1;cases h1
 |some q=>
 obtain⟨vo,fo,no⟩:=q;rw[eo] at h1;obtain⟨hc,h2⟩:=Ae h1;change K ⟨Az (Az s.tm x.dst vx) o.dst vo,Aj (Ac (Aj (Ac s.hp fx) nx) fo) no⟩=some r at h2;simp only[Bool.and_eq_true] at hc
 have eo':gE C P N call ops o s=some (vo,fo,no):=by
  refine Qu t1 (fun _ y hy i hi=>?_) eo
  have:=hw.1 y hy i hi;exact .inl ⟨DV hb.2 this,Y5 hb.2 this⟩
 have DK:A3 s.hp no=true:=Ke hc.2 fun i b hi=>by
  cases hs:s.hp i with
  |none=>rfl
  |some c=>exact absurd ((Aw hc.2).1 i b hi) (Iy hb.2 (by rw[hs];simp))
 rw[Gx ho,eo']
 have Uq:A3 (Aj (Ac s.hp fo) no) nx=true:=Ke hb.2 fun i b hi=>by
  refine Ip DK ((Aw hb.2).1 i b hi) fun c Lh=>?_
  have:=(Aw hc.2).1 i c Lh;rw[Fo hb.2 hi] at this;cases this
 have t2:∀t∈Ch ops x,s.tm t=Az s.tm o.dst vo t:=fun t ht=>(Cu ox t ht).symm
 have ex':gE C P N call ops x ⟨Az s.tm o.dst vo,Aj (Ac s.hp fo) no⟩=some (vx,fx,nx):=by
  refine Qu t2 (fun _ y hy i hi=>?_) ex
  by_cases hs:s.hp i=none
  ·exact .inr ⟨KR hs,Hc hs⟩
  ·exact .inl ⟨(DV DK hs).symm,(Y5 DK hs).symm⟩
 show As _ _=_;rw[hc.1,DK];show B3 C P N call ops x ⟨Az s.tm o.dst vo,Aj (Ac s.hp fo) no⟩ K=some r;rw[Gx (by rw[←Ek t2];exact hx),ex']
 show As _ _=_;rw[hb.1,Uq];rw[←h2];have hfx:∀i∈fx,s.hp i≠none:=fun i hi hs=>(Ms ex).2 i hi (Hc hs)
 have hfo:∀i∈fo,s.hp i≠none:=fun i hi hs=>(Ms eo').2 i hi (Hc hs)
 show K ⟨Az (Az s.tm o.dst vo) x.dst vx,Aj (Ac (Aj (Ac s.hp fo) no) fx) nx⟩=K _;rw[G2 ne,HN hb.2 hc.2 DK Uq hfx hfo]
end
open Go.RowKit
theorem Pu {C:Eg}{P:Program}{o:Op}(h:K9 C P o=true):El P o=true:=by
 unfold K9 at h;split at h
 ·rfl
 ·rename_i c;unfold El;simp only;split at h<;>rename_i hc
  ·rw[hc]
  ·rw[hc]
  ·cases h
  ·rw[hc]
  ·cases h
 ·cases h
structure Xm (N:Nat) (S:Nat->Prop) (dst:Option Nat) (hp B9 Bq C6:Nat->Option A1):Prop where
 keep:∀i,hp i≠none->Bq i≠none
 off:∀i,i<N->dst≠some i->(¬S i∨hp i=none)->Bq i=hp i∧C6 i=B9 i
 same:∀i,hp i=B9 i->Bq i=C6 i
 far:∀i,¬S i->hp i≠none->Bq i=hp i
section
variable {R R':Type} {Rel:Option R->Option R'->Prop} {P:Program} {N:Nat} {tm tm':Nat->PV} {hp B9:Nat->Option A1} {f f':Nat->Option (List PV)} {o:Oper}
theorem Yo (hn:Rel none none){t:CT}{p:PV}{K:PV->List Nat->Option R}{K':PV->List Nat->Option R'}(hf:BU Rel f f' (Ai p)) (hK:∀c m,(∀i∈m,f i≠none∧i∈Ai p)->Rel (K c m) (K' c m)):Rel (Ja f t p K) (Ja f' t p K'):=by
 unfold Ja;split
 ·split
  ·rename_i id es' off n;cases Nat.beq es' _
   ·exact hn
   ·exact Qs hn hf (by simp[Ai]) fun c hc=>An hn fun _=>hK _ _ (by simp[hc,Ai])
  ·exact De hn fun _ _ _=>hK _ _ (by simp)
 ·exact Jp hn fun _=>hK _ _ (by simp)
theorem Wd (hn:Rel none none):∀{ts:List CT}{ps:List PV}{K:List PV->List Nat->Option R}{K':List PV->List Nat->Option R'},BU Rel f f' (ps.flatMap Ai)->(∀c m,(∀i∈m,f i≠none∧i∈ps.flatMap Ai)->Rel (K c m) (K' c m))->Rel (Iv f ts ps K) (Iv f' ts ps K')
 |[],[],_,_,_,hK=>hK _ _ (by simp)
 |[],_::_,_,_,_,_=>hn
 |_::_,[],_,_,_,_=>hn
 |_::_,p::ps,_,_,hf,hK=>Yo hn (fun i hi=>hf i (by simp only[List.flatMap_cons,List.mem_append];exact .inl hi)) fun _ m hm=>Wd hn (fun i hi=>hf i (by simp only[List.flatMap_cons,List.mem_append];exact .inr hi)) fun _ ms We=>hK _ _ fun i hi=>by
   simp only[List.flatMap_cons,List.mem_append];rcases List.mem_append.1 hi with h|h
   ·exact⟨(hm i h).1,.inl (hm i h).2⟩
   ·exact⟨(We i h).1,.inr (We i h).2⟩
theorem M9 {S:Nat->Prop}{dst:Option Nat}{id:Nat}{b:A1}{h0 h1:Nat->Option A1}(hS:S id)(Ax:hp id≠none)(h:Xm N S dst hp B9 h0 h1):Xm N S dst hp B9 (Bh h0 id (some b)) (Bh h1 id (some b)):=by
 refine⟨fun i hi=>?_,fun i hN hd hi=>?_,fun i hi=>?_,fun i hn hi=>?_⟩
 ·by_cases e:i=id
  ·subst e;rw[Af];simp
  ·rw[Ad _ _ e];exact h.keep i hi
 ·have e:i≠id:=by
   rintro rfl
   rcases hi with hi|hi
   ·exact hi hS
   ·exact Ax hi
  rw[Ad _ _ e,Ad _ _ e];exact h.off i hN hd hi
 ·by_cases e:i=id
  ·subst e;rw[Af,Af]
  ·rw[Ad _ _ e,Ad _ _ e];exact h.same i hi
 ·rw[Ad _ _ (by rintro rfl;exact hn hS)];exact h.far i hn hi
theorem AH {S:Nat->Prop}{d:Nat}{b:A1}{h0 h1:Nat->Option A1}(hz:hp d=none)(h:Xm N S (some d) hp B9 h0 h1):Xm N S (some d) hp B9 (Bh h0 d (some b)) (Bh h1 d (some b)):=by
 refine⟨fun i hi=>?_,fun i hN hd hi=>?_,fun i hi=>?_,fun i hn hi=>?_⟩
 ·by_cases e:i=d
  ·subst e;rw[Af];simp
  ·rw[Ad _ _ e];exact h.keep i hi
 ·have e:i≠d:=by rintro rfl;exact hd rfl
  rw[Ad _ _ e,Ad _ _ e];exact h.off i hN hd hi
 ·by_cases e:i=d
  ·subst e;rw[Af,Af]
  ·rw[Ad _ _ e,Ad _ _ e];exact h.same i hi
 ·rw[Ad _ _ (by rintro rfl;exact hi hz)];exact h.far i hn hi
theorem Mc (S:Nat->Prop)(dst:Option Nat):Xm N S dst hp B9 hp B9:=⟨fun _ h=>h,fun _ _ _ _=>⟨rfl,rfl⟩,fun _ h=>h,fun _ _ _=>rfl⟩
theorem HL {S:Nat->Prop}{dst:Option Nat}{m:List Nat}(hm:∀i∈m,hp i≠none∧S i):Xm N S dst hp B9 (Ac hp m) (Ac B9 m):=by
 refine⟨fun i hi=>fun h=>hi (Cf.1 h),fun i hN hd hi=>?_,fun i hi=>?_,fun i hn hi=>?_⟩
 ·have e:i ∉ m:=by
   intro h;rcases hi with hi|hi
   ·exact hi (hm i h).2
   ·exact (hm i h).1 hi
  rw[A4,A4,if_neg e,if_neg e];exact⟨rfl,rfl⟩
 ·rw[A4,A4,hi]
 ·rw[A4,if_neg (fun h=>hn (hm i h).2)]
theorem AL {S:Nat->Prop}(h:∀i,S i->hp i=B9 i∨(hp i=none∧∀b,Rel none b)) {l:List Nat}(hl:∀i∈l,S i):BU Rel (Gb hp) (Gb B9) l:=by
 intro i hi;rcases h i (hl i hi) with h|⟨h,h'⟩
 ·left;unfold Gb;rw[h]
 ·exact .inr ⟨Hc h,h'⟩
theorem DO (hn:Rel none none){t:TypeId}{a x:PV}{K:St->Option R}{K':St->Option R'}{S:Nat->Prop}(hS:∀i,S i->hp i=B9 i∨(hp i=none∧∀b,Rel none b)) (ha:∀i∈Ai a,S i)(hx:∀i∈Be x,S i)
  (hK:∀Bq C6,Xm N S none hp B9 Bq C6->Rel (K ⟨tm,Bq⟩) (K' ⟨tm',C6⟩)):Rel (Ry P ⟨tm,hp⟩ t a x K) (Ry P ⟨tm',B9⟩ t a x K'):=by
 unfold Ry;split
 ·rename_i id off;show Rel (match hp id with|some (.st c)=>_|some (.ar false c)=>_|_=>none) (match B9 id with|some (.st c)=>_|some (.ar false c)=>_|_=>none)
  have Ax:S id:=ha id (by simp[Ai])
  rcases hS id Ax with h|⟨h,hb⟩
  ·rw[←h];split
   ·rename_i c hc;exact An hn fun _=>Iu hn fun _=>hK _ _ (M9 Ax (by rw[hc];simp) (Mc _ _))
   ·rename_i c hc;refine An hn fun _=>Wd hn (AL hS fun i hi=>hx i ?_) fun _ m hm=>An hn fun _=>hK _ _ (M9 Ax (by rw[hc];simp) (HL fun i hi=>⟨fun h=>(hm i hi).1 (Hc h),hx i ?_⟩))
    ·obtain⟨c,hc,hi⟩:=List.mem_flatMap.1 hi;exact Me hc hi
    ·obtain⟨c,hc,hi⟩:=List.mem_flatMap.1 (hm i hi).2;exact Me hc hi
   ·exact hn
  ·rw[h];exact hb _
 ·exact hn
theorem R3 (hn:Rel none none){es:Nat}{t:TypeId}{x:PV}{K:Nat->List PV->Option R}{K':Nat->List PV->Option R'}{S:Nat->Prop}(hS:∀i,S i->hp i=B9 i∨(hp i=none∧∀b,Rel none b)) (hx:∀i∈Be x,S i)(hK:∀m c,Rel (K m c) (K' m c)):Rel (HX P ⟨tm,hp⟩ es t x K) (HX P ⟨tm',B9⟩ es t x K'):=by
 unfold HX IP;split
 ·exact An hn fun _=>Dn hn fun _=>hK _ _
 ·exact Qz hn (AL hS fun i hi=>hx i (Mg hi)) hK
 ·exact hn
theorem P3 (hn:Rel none none){d:Nat}{t tx:TypeId}{b x:PV}{K:St->Option R}{K':St->Option R'}{S:Nat->Prop}(hS:∀i,S i->hp i=B9 i∨(hp i=none∧∀b,Rel none b)) (PS:hp d=B9 d)(hb:∀i∈Be b,S i)(hx:∀i∈Be x,S i)
  (hK:∀v Bq C6,(∀M,Xm M S (some d) hp B9 Bq C6)->Rel (K ⟨Bh tm d v,Bq⟩) (K' ⟨Bh tm' d v,C6⟩)):Rel (Jv P N ⟨tm,hp⟩ d t tx b x K) (Jv P N ⟨tm',B9⟩ d t tx b x K'):=by
 unfold Jv;split
 ·refine An hn fun _=>?_
  cases Qp P tx
  rotate_left
  ·show Rel (M5 P N ⟨tm,hp⟩ d _ b x K) (M5 P N ⟨tm',B9⟩ d _ b x K');refine Cg hn fun _ n=>De hn fun z _ _=>?_
   show Rel (As (z&&Nat.blt d N&&(hp d).isNone&&_&&_&&_) _) (As (z&&Nat.blt d N&&(B9 d).isNone&&_&&_&&_) _);rw[←PS];exact An hn fun hb=>hK _ _ _ (fun M=>AH (by simp only[Bool.and_eq_true,Option.isNone_iff_eq_none] at hb;simp only[hb]) (Mc _ _))
  rw[cond_false,cond_false];refine R3 hn hS hx fun m new=>?_
  split
  ·rename_i id es off n;show Rel (match hp id with|some (.ar false c)=>As (Nat.beq es _&&Nat.beq off 0&&Nat.blt d N&&(hp d).isNone&&_&&_&&_&&_) _|_=>none) (match B9 id with|some (.ar false c)=>As (Nat.beq es _&&Nat.beq off 0&&Nat.blt d N&&(B9 d).isNone&&_&&_&&_&&_) _|_=>none)
   have Ax:S id:=hb id (by simp[Be,Ai])
   rw[←PS];rcases hS id Ax with h|⟨h,hbb⟩
   ·rw[←h];split
    ·rename_i c hc;exact An hn fun hb=>hK _ _ _ (fun M=>AH (by simp only[Bool.and_eq_true,Option.isNone_iff_eq_none] at hb;simp only[hb]) (M9 Ax (by rw[hc];simp) (Mc _ _)))
    ·exact hn
   ·rw[h];exact hbb _
  ·refine De hn fun z _ _=>?_
   show Rel (As (z&&Nat.blt d N&&(hp d).isNone&&_&&_&&_) _) (As (z&&Nat.blt d N&&(B9 d).isNone&&_&&_&&_) _);rw[←PS];exact An hn fun hb=>hK _ _ _ (fun M=>AH (by simp only[Bool.and_eq_true,Option.isNone_iff_eq_none] at hb;simp only[hb]) (Mc _ _))
 ·exact hn
theorem IM (hn:Rel none none){d:Option Tmp}{t tx:TypeId}{b x:PV}{K:St->Option R}{K':St->Option R'}{S:Nat->Prop}(hS:∀i,S i->hp i=B9 i∨(hp i=none∧∀b,Rel none b)) (hb:∀i∈Be b,S i)(hx:∀i∈Be x,S i)
  (hK:∀v Bq C6,Xm N S d hp B9 Bq C6->Rel (K ⟨Az tm d v,Bq⟩) (K' ⟨Az tm' d v,C6⟩)):Rel (Yv P N ⟨tm,hp⟩ d t tx b x K) (Yv P N ⟨tm',B9⟩ d t tx b x K'):=by
 unfold Yv;split
 ·refine An hn fun _=>?_
  refine R3 hn hS hx fun m new=>?_
  split
  ·rename_i id es off n;show Rel (match hp id with|some (.ar false c)=>As (Nat.beq es _&&_&&_) _|_=>none) (match B9 id with|some (.ar false c)=>As (Nat.beq es _&&_&&_) _|_=>none)
   have Ax:S id:=hb id (by simp[Be,Ai])
   rcases hS id Ax with h|⟨h,hbb⟩
   ·rw[←h];split
    ·rename_i c hc;exact An hn fun _=>hK _ _ _ (M9 Ax (by rw[hc];simp) (Mc _ _))
    ·exact hn
   ·rw[h];exact hbb _
  ·exact hn
 ·exact hn
def Aau (o:Oper)(tm:Nat->PV)(i:Nat):Prop:=∃x∈o.op.operands.toList,i∈A5 (A8 tm x)
def Pd (o:Oper)(tm:Nat->PV)(hp:Nat->Option A1)(i:Nat):Prop:=Aau o tm i∨In o.op=false∧∃id c,Aau o tm id∧hp id=some (.st c)∧∃p∈c,i∈Ai p
theorem OU (hn:Rel none none){mv:Bool}{t:CT}{p:PV}{K:PV->List Nat->List Nat->Option R}{K':PV->List Nat->List Nat->Option R'}{S:Nat->Prop}(hS:∀i,S i->hp i=B9 i∨(hp i=none∧∀b,Rel none b)) (hp_:∀i∈Ai p,S i)
  (hK:∀c m x,(∀i∈m++x,hp i≠none∧S i)->Rel (K c m x) (K' c m x)):Rel (LT mv hp t p K) (LT mv B9 t p K'):=by
 have frz:∀{t:CT} {p:PV},(∀i∈Ai p,S i)->Rel (Ja (Gb hp) t p fun c m=>K c m []) (Ja (Gb B9) t p fun c m=>K' c m []):=fun h=>Yo hn (AL hS h) fun c m hm=>hK _ _ _ fun i hi=>by
  rw[List.append_nil] at hi;exact⟨fun e=>(hm i hi).1 (Hc e),h i (hm i hi).2⟩
 unfold LT;split
 ·rename_i es;cases mv<;>simp only[cond_true,cond_false]
  ·exact frz hp_
  ·split
   ·rename_i id es' off n;rcases hS id (hp_ id (by simp[Ai])) with h|⟨h,hb⟩
    ·rw[←h];split
     ·rename_i c hc;cases (Nat.beq es' es&&Nat.beq off 0)<;>simp only[cond_true,cond_false]
      ·exact frz hp_
      ·exact An hn fun _=>hK _ _ _ fun i hi=>by
        simp only[List.nil_append,List.mem_singleton] at hi;subst hi;exact⟨by rw[hc];simp,hp_ i (by simp[Ai])⟩
     ·exact frz hp_
    ·rw[h]
     have:(Ja (Gb hp) (.sl es) (.view id es' off n) fun c m=>K c m [])=none:=by
      unfold Ja;simp only;cases Nat.beq es' es
      ·rfl
      ·simp only[cond_true,Hc h,C7]
     show Rel (Ja (Gb hp) (.sl es) (.view id es' off n) fun c m=>K c m []) _
     rw[this];exact hb _
   ·refine De hn fun z n c=>?_
    cases z
    ·exact hK _ _ _ (by simp)
    ·exact hK _ _ _ (by simp)
 ·exact Jp hn fun _=>hK _ _ _ (by simp)
theorem Lm (hn:Rel none none){mv:Bool}{S:Nat->Prop}(hS:∀i,S i->hp i=B9 i∨(hp i=none∧∀b,Rel none b)):∀{ts:List CT}{ps:List PV}{K:List PV->List Nat->List Nat->Option R}{K':List PV->List Nat->List Nat->Option R'},(∀p∈ps,∀i∈Ai p,S i) ->
  (∀c m x,(∀i∈m++x,hp i≠none∧S i)->Rel (K c m x) (K' c m x))->Rel (S2 mv hp ts ps K) (S2 mv B9 ts ps K')
 |[],[],_,_,_,hK=>hK _ _ _ (by simp)
 |[],_::_,_,_,_,_=>hn
 |_::_,[],_,_,_,_=>hn
 |_::_,p::ps,_,_,hp_,hK=>OU hn hS (hp_ p (by simp)) fun _ m x hm=>Lm hn hS (fun q hq=>hp_ q (by simp[hq])) fun _ ms xs We=>hK _ _ _ fun i hi=>by
   simp only[List.mem_append] at hi hm We;rcases hi with (hi|hi)|(hi|hi)
   ·exact hm i (.inl hi)
   ·exact We i (.inl hi)
   ·exact hm i (.inr hi)
   ·exact We i (.inr hi)
theorem ET (hn:Rel none none){C:Eg}{f:FuncId}{i:Nat}{t:TypeId}{p:PV}{K:PV->List Nat->List Nat->List D5->Option R}{K':PV->List Nat->List Nat->List D5->Option R'}{S:Nat->Prop}(hS:∀i,S i->hp i=B9 i∨(hp i=none∧∀b,Rel none b))
  (hp_:∀i∈A5 p,S i)(hc:∀i∈A5 p,∀c,B9 i=some (.st c)->∀q∈c,∀k∈Ai q,S k)
  (hK:∀v m x l,(∀i∈m++x++l.flatMap D5.ids,hp i≠none∧S i)->Rel (K v m x l) (K' v m x l)):Rel (Rp C P f hp i t p K) (Rp C P f B9 i t p K'):=by
 unfold Rp;split
 ·split
  ·rename_i id off;have Ax:S id:=hp_ id (by simp[A5,Be,Ai])
   rcases hS id Ax with h|⟨h,hb⟩
   ·rw[h];split
    ·rename_i c Y8;refine An hn fun _=>Lm hn hS (fun q hq k hk=>hc id (by simp[A5,Be,Ai]) c Y8 q (List.mem_of_mem_drop (List.mem_of_mem_take hq)) k hk) fun cs m x hm=>hK _ _ _ _ fun k hk=>?_
     rcases List.mem_append.1 hk with hk|hk
     ·exact hm k hk
     ·simp only[List.flatMap_cons,List.flatMap_nil,D5.ids,List.append_nil,List.mem_singleton] at hk;subst hk;exact⟨by rw[h,Y8];simp,Ax⟩
    ·exact hn
   ·rw[h];exact hb _
  ·exact hn
 ·cases C.lnd f i
  ·cases A9 P t
   ·exact Lm hn hS (fun q hq k hk=>by
     simp at hq;subst hq;exact hp_ k (G4 hk)) fun cs m x hm=>Av hn fun _ _ _=>C2 hn (hK _ _ _ _ (by simpa using hm))
   ·refine Fw hn fun cs Oj=>Lm hn hS (fun q hq k hk=>hp_ k ?_) fun cs m x hm=>hK _ _ _ _ (by simpa using hm)
    subst Oj;exact List.mem_flatMap.2 ⟨q,hq,hk⟩
  ·refine B0 hn fun e he=>?_
   unfold UT;split
   ·rename_i id es' off n;have Ax:S id:=hp_ id (by simp[A5,Be,Ai])
    rcases hS id Ax with h|⟨h,hb⟩
    ·rw[h];split
     ·rename_i c Y8;refine An hn fun _=>hK _ _ _ _ fun k hk=>?_
      simp only[List.nil_append,List.flatMap_cons,List.flatMap_nil,D5.ids,List.append_nil,List.mem_singleton] at hk;subst hk;exact⟨by rw[h,Y8];simp,Ax⟩
     ·exact hn
    ·rw[h];exact hb _
   ·exact De hn fun _ _ _=>An hn fun _=>hK _ _ _ _ (by simp[D5.ids])
theorem Vf (hn:Rel none none){C:Eg}{f:FuncId}{S:Nat->Prop}(hS:∀i,S i->hp i=B9 i∨(hp i=none∧∀b,Rel none b)):∀{ts:List TypeId}{ps:List PV}{i:Nat}{K:List PV->List Nat->List Nat->List D5->Option R}{K':List PV->List Nat->List Nat->List D5->Option R'},
  (∀p∈ps,∀i∈A5 p,S i)->(∀p∈ps,∀i∈A5 p,∀c,B9 i=some (.st c)->∀q∈c,∀k∈Ai q,S k) ->
  (∀v m x l,(∀i∈m++x++l.flatMap D5.ids,hp i≠none∧S i)->Rel (K v m x l) (K' v m x l))->Rel (Y0 C P f hp i ts ps K) (Y0 C P f B9 i ts ps K')
 |[],[],_,_,_,_,_,hK=>hK _ _ _ _ (by simp)
 |[],_::_,_,_,_,_,_,_=>hn
 |_::_,[],_,_,_,_,_,_=>hn
 |_::_,p::ps,_,_,_,hp_,hc,hK=>ET hn hS (hp_ p (by simp)) (hc p (by simp)) fun _ m x l hm=>Vf hn hS (fun q hq=>hp_ q (by simp[hq])) (fun q hq=>hc q (by simp[hq])) fun _ ms xs ls We=>hK _ _ _ _ fun i hi=>by
   simp only[List.mem_append,List.flatMap_append] at hi hm We;rcases hi with ((hi|hi)|(hi|hi))|(hi|hi)
   ·exact hm i (.inl (.inl hi))
   ·exact We i (.inl (.inl hi))
   ·exact hm i (.inl (.inr hi))
   ·exact We i (.inl (.inr hi))
   ·exact hm i (.inr hi)
   ·exact We i (.inr hi)
theorem RB (hn:Rel none none){t:Nat}{ct:CT}{was p:PV}{K:Nat->PV->List (Nat × A1)->Option R} {K':Nat->PV->List (Nat × A1)->Option R'} (hK:∀t c b,(∀q∈b,∃k,q.1=FX N k)->Rel (K t c b) (K' t c b)):Rel (ML N t ct was p K) (ML N t ct was p K'):=by
 unfold ML;split
 ·split
  ·exact KV hn fun _ _=>hK _ _ _ (by intro q hq;simp only[List.mem_singleton] at hq;subst hq;exact⟨t,rfl⟩)
  ·exact De hn fun _ _ _=>hK _ _ _ (by simp)
 ·exact Jp hn fun _=>hK _ _ _ (by simp)
theorem X2 (hn:Rel none none):∀{cts:List CT}{ws ps:List PV}{t:Nat}{K:Nat->List PV->List (Nat × A1)->Option R} {K':Nat->List PV->List (Nat × A1)->Option R'},(∀t c b,(∀q∈b,∃k,q.1=FX N k)->Rel (K t c b) (K' t c b))->Rel (Xx N t cts ws ps K) (Xx N t cts ws ps K')
 |[],[],_,_,_,_,hK=>C2 hn (hK _ _ _ (by simp))
 |[],_::_,_,_,_,_,_=>hn
 |_::_,[],_,_,_,_,_=>hn
 |_::_,_::_,_,_,_,_,hK=>Av hn fun _ _ _=>RB hn fun _ _ b hb=>X2 hn fun _ _ bs W3=>hK _ _ _ fun q hq=>by
   rcases List.mem_append.1 hq with h|h
   ·exact hb q h
   ·exact W3 q h
theorem Nm (hn:Rel none none){S:Nat->Prop}{dst:Option Nat}:∀{l:List D5}{ro:List (List PV)} {t:Nat}{h0 h1:Nat->Option A1}{K:(Nat->Option A1)->List (Nat × A1)->Option R} {K':(Nat->Option A1)->List (Nat × A1)->Option R'},
  Xm N S dst hp B9 h0 h1->(∀i∈l.flatMap D5.ids,hp i≠none∧S i∧hp i=B9 i)->(∀h0' Ur b,Xm N S dst hp B9 h0' Ur->(∀q∈b,∃k,q.1=FX N k)->Rel (K h0' b) (K' Ur b))->Rel (O0 N t l ro h0 K) (O0 N t l ro h1 K')
 |[],_,_,_,_,_,_,hT,_,hK=>C2 hn (hK _ _ _ hT (by simp))
 |.var id off cts ws::l,ro,t,h0,h1,K,K',hT,hl,hK=>by
  unfold O0;refine Av hn fun cs ro _=>X2 hn fun t' cs' bs W3=>?_
  have Ax:=hl id (by simp[D5.ids])
  rw[←hT.same id Ax.2.2];split
  ·exact Nm hn (M9 Ax.2.1 Ax.1 hT) (fun i hi=>hl i (by simp only[List.flatMap_cons,List.mem_append];exact .inr hi)) fun h0' Ur b hT' hb=>hK _ _ _ hT' fun q hq=>by
    rcases List.mem_append.1 hq with h|h
    ·exact W3 q h
    ·exact hb q h
  ·exact hn
 |.row id::l,ro,t,h0,h1,K,K',hT,hl,hK=>by
  unfold O0;have Ax:=hl id (by simp[D5.ids])
  exact Av hn fun cs ro _=>Nm hn (M9 Ax.2.1 Ax.1 hT) (fun i hi=>hl i (by simp only[List.flatMap_cons,List.mem_append];exact .inr hi)) hK
 |.none::l,ro,t,h0,h1,K,K',hT,hl,hK=>by
  unfold O0;exact Av hn fun cs ro _=>Nm hn hT (fun i hi=>hl i (by simp only[List.flatMap_cons,List.mem_append];exact .inr hi)) hK
theorem EV (h:∀i,N<=i->hp i=B9 i)(hN:0<N):∀k t,CH N hp k t=CH N B9 k t
 |0,_=>rfl
 |k+1,t=>by
  unfold CH;rw[h (FX N t) (by unfold FX;exact Nat.le_mul_of_pos_right _ (by omega)),EV h hN k (t+1)]
theorem Y2 {h0 h1:Nat->Option A1}:∀{nw:List (Nat × A1)},(∀q∈nw,h0 q.1=h1 q.1)->A3 h0 nw=A3 h1 nw
 |[],_=>rfl
 |(i,b)::nw,h=>by
  unfold A3;rw[h (i,b) (by simp),Y2 (fun q hq=>h q (by simp[hq]))]
theorem Vy {S:Nat->Prop}{dst:Option Nat}{h0 h1:Nat->Option A1}(hT:Xm N S dst hp B9 h0 h1):∀{nw:List (Nat × A1)} {g0 g1:Nat->Option A1},Xm N S dst hp B9 g0 g1->(∀q∈nw,N<=q.1∨dst=some q.1)->(∀q∈nw,hp q.1=none)->Xm N S dst hp B9 (Aj g0 nw) (Aj g1 nw)
 |[],_,_,h,_,_=>h
 |(i,b)::nw,g0,g1,h,hi,hz=>by
  refine Vy hT (nw:=nw) ⟨fun k hk=>?_,fun k hN hd hk=>?_,fun k hk=>?_,fun k hn hk=>?_⟩ (fun q hq=>hi q (by simp[hq])) (fun q hq=>hz q (by simp[hq]))
  ·by_cases e:k=i
   ·subst e;rw[Af];simp
   ·rw[Ad _ _ e];exact h.keep k hk
  ·have e:k≠i:=by
    rintro rfl
    rcases hi (k,b) (by simp) with q|q
    ·simp only at q;omega
    ·exact hd q
   rw[Ad _ _ e,Ad _ _ e];exact h.off k hN hd hk
  ·by_cases e:k=i
   ·subst e;rw[Af,Af]
   ·rw[Ad _ _ e,Ad _ _ e];exact h.same k hk
  ·rw[Ad _ _ (by rintro rfl;exact hk (hz (k,b) (by simp)))];exact h.far k hn hk
theorem Ac5 {S:Nat->Prop}{dst:Option Nat}{m x:List Nat}(hm:∀i∈m++x,hp i≠none∧S i):Xm N S dst hp B9 (Ma (Ac hp m) x) (Ma (Ac B9 m) x):=by
 refine⟨fun i hi h=>?_,fun i hN hd hi=>?_,fun i hi=>?_,fun i hn hi=>?_⟩
 ·rw[Dr] at h;have h1:Ac hp m i≠none:=fun e=>hi (Cf.1 e)
  split at h
  ·cases hq:Ac hp m i with
   |none=>exact h1 hq
   |some b=>rw[hq] at h;cases h
  ·exact h1 h
 ·have e:i ∉ m∧i ∉ x:=by
   refine⟨fun h=>?_,fun h=>?_⟩<;>(rcases hi with hi|hi)
   ·exact hi (hm i (by simp[h])).2
   ·exact (hm i (by simp[h])).1 hi
   ·exact hi (hm i (by simp[h])).2
   ·exact (hm i (by simp[h])).1 hi
  rw[Dr,Dr,if_neg e.2,if_neg e.2,A4,A4,if_neg e.1,if_neg e.1];exact⟨rfl,rfl⟩
 ·rw[Dr,Dr,A4,A4,hi]
 ·rw[Dr,A4,if_neg (fun h=>hn (hm i (by simp[h])).2),if_neg (fun h=>hn (hm i (by simp[h])).2)]
theorem FL (hn:Rel none none){C:Eg}{call:Al}{f:FuncId}{c:Call}{K:St->Option R}{K':St->Option R'}{S:Nat->Prop}(Gp:c.args.toList.map (A8 tm)=c.args.toList.map (A8 tm')) (hS:∀i,S i->hp i=B9 i∨(hp i=none∧∀b,Rel none b))
  (hp_:∀p∈c.args.toList.map (A8 tm'),∀i∈A5 p,S i) (hc:∀p∈c.args.toList.map (A8 tm'),∀i∈A5 p,∀c,B9 i=some (.st c)->∀q∈c,∀k∈Ai q,S k)
  (PS:∀d,o.dst=some d->hp d=B9 d)(hNN:∀i,N<=i->hp i=B9 i)
  (hK:∀v Bq C6,Xm N S o.dst hp B9 Bq C6->Rel (K ⟨Az tm o.dst v,Bq⟩) (K' ⟨Az tm' o.dst v,C6⟩)):Rel (Sg C P N call ⟨tm,hp⟩ o f c K) (Sg C P N call ⟨tm',B9⟩ o f c K'):=by
 unfold Sg;simp only[Gp];refine Vf hn hS hp_ hc fun vs m x l hm=>An hn fun hb=>Xr hn fun rv ro=>Sb hn fun ws bs W3=>An hn fun _=>?_
 simp only[Bool.and_eq_true] at hb;have hN:0<N:=Nat.lt_of_succ_le (Nat.le_of_ble_eq_true hb.1.2);rw[EV hNN hN];by_cases Afw:∃i∈l.flatMap D5.ids,hp i≠B9 i
 ·obtain⟨i,hi,G6⟩:=Afw;obtain⟨h1,h2⟩:=hm i (List.mem_append.2 (.inr hi));rcases hS i h2 with h|⟨h,_⟩
  ·exact absurd h G6
  ·exact absurd h h1
 have hl:∀i∈l.flatMap D5.ids,hp i≠none∧S i∧hp i=B9 i:=fun i hi=>⟨(hm i (List.mem_append.2 (.inr hi))).1,(hm i (List.mem_append.2 (.inr hi))).2,Classical.byContradiction fun h=>Afw ⟨i,hi,h⟩⟩
 have hT0:Xm N S o.dst hp B9 (Ma (Ac hp m) x) (Ma (Ac B9 m) x):=Ac5 fun i hi=>hm i (List.mem_append.2 (.inl hi))
 refine Nm hn hT0 hl fun h0 h1 bs' hT Akx=>?_
 have MC:∀q∈bs++bs',N<=q.1∨o.dst=some q.1:=by
  intro q hq;rcases List.mem_append.1 hq with hq|hq
  ·obtain⟨j,hj⟩:=W3 q hq;cases hd:o.dst with
   |none=>
    rw[hd] at hj;left;rw[hj];exact Nat.le_add_right _ _
   |some d=>
    rw[hd] at hj;change q.1=d+N*j at hj;cases j with
    |zero=>right;rw[hj];simp
    |succ j=>left;rw[hj,Nat.mul_add];omega
  ·obtain⟨k,hk⟩:=Akx q hq;left;rw[hk];unfold FX;exact Nat.le_mul_of_pos_right _ (by omega)
 have Tc:∀q∈bs++bs',h0 q.1=h1 q.1:=by
  intro q hq;refine hT.same q.1 ?_;rcases MC q hq with h|h
  ·exact hNN _ h
  ·exact PS _ h
 rw[Y2 Tc]
 exact An hn fun hb=>hK _ _ _ (Vy hT hT MC fun q hq=>by
  cases hz:hp q.1 with
  |none=>rfl
  |some c=>exact absurd ((Tc q hq).trans ((Aw hb).1 q.1 q.2 hq)) (hT.keep q.1 (by rw[hz];simp)))
theorem Gt (hn:Rel none none){C:Eg}{call:Al}{K:St->Option R}{K':St->Option R'}(Gp:∀x∈o.op.operands.toList,A8 tm x=A8 tm' x)
  (hS:∀i,Pd o tm' B9 i->hp i=B9 i∨(hp i=none∧∀b,Rel none b)) (PS:∀d,o.dst=some d->hp d=B9 d)(hNN:∀i,N<=i->hp i=B9 i)
  (hK:∀v Bq C6,Xm N (Pd o tm' B9) o.dst hp B9 Bq C6->Rel (K ⟨Az tm o.dst v,Bq⟩) (K' ⟨Az tm' o.dst v,C6⟩)):Rel (Nw C P N call ⟨tm,hp⟩ o K) (Nw C P N call ⟨tm',B9⟩ o K'):=by
 unfold Nw;have hl:∀x∈o.op.operands.toList,∀i∈A5 (A8 tm' x),Pd o tm' B9 i:=fun x hx i hi=>.inl ⟨x,hx,hi⟩
 have BP:In o.op=false->∀x∈o.op.operands.toList,∀i∈A5 (A8 tm' x),∀c,B9 i=some (.st c)->∀q∈c,∀k∈Ai q,Pd o tm' B9 k:=fun ha x hx i hi c hc q hq k hk=>.inr ⟨ha,i,c,⟨x,hx,hi⟩,hc,q,hq,hk⟩
 generalize hLd:Pd o tm' B9=S at *
 generalize PY:o.op=op at *
 split
 ·rename_i t x y;simp only[Gp x (by simp[Op.operands]),Gp y (by simp[Op.operands])]
  refine An hn fun hd=>DO (N:=N) hn hS (fun i hi=>hl x (by simp[Op.operands]) i (G4 hi)) (fun i hi=>hl y (by simp[Op.operands]) i (Di hi)) fun Bq C6 hh=>?_
  have hd':=Option.isNone_iff_eq_none.1 hd;have:=hK .top Bq C6 (by rw[hd'];exact hh)
  rw[hd'] at this;exact this
 ·rename_i c
  have Gz:∀x∈c.args.toList,x∈(Op.call c).operands.toList:=by
   intro x hx;simp only[Op.operands,Call.operands,Array.toList_append,List.mem_append];exact .inr hx
  split
  ·rename_i hc;refine B0 hn fun d hd=>Av hn fun x _ hx=>Av hn fun y _ hy=>C2 hn (Av hn fun _ _ _=>Av hn fun _ _ _=>?_)
   subst hy;have LU:=Gz x (by rw[hx];simp)
   have hym:=Gz y (by rw[hx];simp)
   simp only[Gp x LU,Gp y hym];refine P3 hn hS (PS d hd) (fun i hi=>hl x LU i (Di hi)) (fun i hi=>hl y hym i (Di hi)) fun v Bq C6 hh=>?_
   have:=hK v Bq C6 (by rw[hd];exact hh N)
   rw[hd] at this;exact this
  ·rename_i hc;refine Av hn fun x _ hx=>Av hn fun y _ hy=>C2 hn (Av hn fun _ _ _=>Av hn fun _ _ _=>?_)
   subst hy;have LU:=Gz x (by rw[hx];simp)
   have hym:=Gz y (by rw[hx];simp)
   simp only[Gp x LU,Gp y hym];exact IM hn hS (fun i hi=>hl x LU i (Di hi)) (fun i hi=>hl y hym i (Di hi)) hK
  ·rename_i f hcf;refine FL hn (List.map_congr_left fun x hx=>Gp x (Gz x hx)) hS (fun p hp i hi=>?_) (fun p hp i hi=>?_) PS hNN hK
   ·obtain⟨x,hx,rfl⟩:=List.mem_map.1 hp;exact hl x (Gz x hx) i hi
   ·obtain⟨x,hx,rfl⟩:=List.mem_map.1 hp;exact BP (by simp only[In,hcf]) x (Gz x hx) i hi
  ·exact hn
 ·exact hn
theorem U6 (hn:Rel none none){C:Eg}{call:Al}{K:St->Option R}{K':St->Option R'}(Gp:∀x∈o.op.operands.toList,A8 tm x=A8 tm' x)(hK:∀v Bq,(∀i,hp i≠none->Bq i≠none)->Rel (K ⟨Az tm o.dst v,Bq⟩) (K' ⟨Az tm' o.dst v,Bq⟩)):Rel (Nw C P N call ⟨tm,hp⟩ o K) (Nw C P N call ⟨tm',hp⟩ o K'):=
 Gt hn Gp (fun _ _=>.inl rfl) (fun _ _=>rfl) (fun _ _=>rfl) fun v Bq C6 hT=>by
  have:Bq=C6:=funext fun i=>hT.same i rfl
  subst this;exact hK v Bq hT.keep
end
section
variable {R:Type} {r:R} {C:Eg} {P:Program} {N:Nat} {call:Al} {ops:Array Oper} {o x:Oper} {s:St} {K:St->Option R}
theorem AJ {tm:Nat->PV}{hp Bq:Nat->Option A1}{tm':Nat->PV}{q:Ov}(hm:El P o.op=false)(ht:∀t∈Ch ops o,tm t=tm' t)(h:gE C P N call ops o ⟨tm,hp⟩=some q):gE C P N call ops o ⟨tm',Bq⟩=some q:=
 Qu (s:=⟨tm,hp⟩) (s':=⟨tm',Bq⟩) ht (fun h=>by rw[hm] at h;cases h) h
theorem Rz {tm:Nat->PV}{hp:Nat->Option A1}(hm:El P o.op=false)(h:B3 C P N call ops o ⟨tm,hp⟩ K=some r):
  ∃v nw,gE C P N call ops o ⟨tm,hp⟩=some (v,[],nw)∧Du N o.dst=true∧A3 hp nw=true∧(∀p∈nw,o.dst=some p.1)∧K ⟨Az tm o.dst v,Aj hp nw⟩=some r:=by
 have hM:K9 C P o.op=false:=by
  cases hh:K9 C P o.op
  ·rfl
  ·rw[Pu hh] at hm;cases hm
 rw[Gx (by simp[Ea,hM])] at h
 cases e:gE C P N call ops o ⟨tm,hp⟩ with
 |none=>rw[e] at h;cases h
 |some q=>
  obtain⟨v,fz,nw⟩:=q;obtain⟨h1,h2⟩:=(Ms e).1 hm;simp only at h1 h2;subst h1;rw[e] at h;obtain⟨hb,h⟩:=Ae h;simp only[Bool.and_eq_true] at hb;exact⟨v,nw,rfl,hb.1,hb.2,h2,h⟩
theorem V2 {tm:Nat->PV}{hp:Nat->Option A1}{v:PV}{nw:List (Nat × A1)} (hm:El P o.op=false)(e:gE C P N call ops o ⟨tm,hp⟩=some (v,[],nw)) (hd:Du N o.dst=true)(ha:A3 hp nw=true)(h:K ⟨Az tm o.dst v,Aj hp nw⟩=some r):B3 C P N call ops o ⟨tm,hp⟩ K=some r:=by
 have hM:K9 C P o.op=false:=by
  cases hh:K9 C P o.op
  ·rfl
  ·rw[Pu hh] at hm;cases hm
 rw[Gx (by simp[Ea,hM]),e]
 show As _ _=_;have PM:A3 hp nw=true:=ha;rw[hd,PM];exact h
theorem Ig {hp:Nat->Option A1}{nw:List (Nat × A1)} (ha:A3 hp nw=true){i:Nat}(hi:∀p∈nw,p.1≠i):Aj hp nw i=hp i:=
 (Cn (Aw ha).2).2 i fun b hb=>hi _ hb rfl
theorem RA {hp Bq:Nat->Option A1}{nw:List (Nat × A1)} (ha:A3 hp nw=true){g:Nat->Option A1}(h1:∀i,(∀p∈nw,p.1≠i)->g i=Bq i) (h2:∀i,(∃p∈nw,p.1=i)->g i=Aj hp nw i) (PM:A3 Bq nw=true):g=Aj Bq nw:=by
 funext i
 by_cases h:∃p∈nw,p.1=i
 ·rw[h2 i h];obtain⟨⟨j,b⟩,hp,rfl⟩:=h;rw[(Cn (Aw ha).2).1 j b hp,(Cn (Aw PM).2).1 j b hp]
 ·have h':∀p∈nw,p.1≠i:=fun p hp e=>h ⟨p,hp,e⟩
  rw[h1 i h',Ig PM h']
theorem XZ (ap:Qv C P ops x o)(hx:Ea C P ops x s.tm=true)
  (h:B3 C P N call ops x s (fun s1=>B3 C P N call ops o s1 K)=some r):B3 C P N call ops o s (fun s1=>B3 C P N call ops x s1 K)=some r:=by
 have hm:El P o.op=false:=ap.mx (by unfold Ea at hx;simp only[Bool.and_eq_true] at hx;exact hx.1)
 rw[Ff hx] at h;obtain⟨tm,hp⟩:=s;have look:∀v,∀t∈Ch ops o,Az tm x.dst v t=tm t:=fun v=>Cu ap.xo
 have h1:=Gt (P:=P) (N:=N) (o:=x) (tm:=tm) (tm':=tm) (hp:=hp) (B9:=hp) (K:=fun s1=>B3 C P N call ops o s1 K) (K':=fun _=>none)
  (Rel:=fun (a:Option R)(_:Option R)=>a=some r->∃v nw,gE C P N call ops o ⟨tm,hp⟩=some (v,[],nw)∧Du N o.dst=true∧(∀p∈nw,o.dst=some p.1)∧A3 hp nw=true) (fun h=>by cases h) (fun _ _=>rfl) (fun _ _=>.inl rfl) (fun _ _=>rfl) (fun _ _=>rfl) (fun v Bq _ hT h=>by
   obtain⟨u,nw,hu,hd,ha,hn,_⟩:=Rz hm h;refine⟨u,nw,AJ hm (look v) hu,hd,hn,Ke ha fun i b hi=>?_⟩
   cases hh:hp i with
   |none=>rfl
   |some c=>exact absurd ((Aw ha).1 i b hi) (hT.keep i (by rw[hh];simp))) h
 obtain⟨v,nw,hv,hd,hn,ha⟩:=h1;refine V2 hm hv hd ha ?_;have t2:∀t∈Ch ops x,tm t=Az tm o.dst v t:=fun t ht=>(Cu ap.ox t ht).symm
 rw[Ff (by rw[←Ek t2];exact hx)]
 refine Gt (P:=P) (N:=N) (o:=x) (tm:=tm) (tm':=Az tm o.dst v) (hp:=hp) (B9:=Aj hp nw) (Rel:=fun (a b:Option R)=>a=some r->b=some r) (fun h=>by cases h) (Dc t2) (fun i _=>?_) (fun d hxd=>?_) (fun i hi=>(Ig ha fun p hp e=>by have:=Ky hd (hn p hp);omega).symm) (fun u Bq C6 hT h=>?_) h
 ·by_cases hi:∃p∈nw,p.1=i
  ·obtain⟨⟨j,b⟩,B9,rfl⟩:=hi;exact .inr ⟨(Aw ha).1 j b B9,fun _ h=>by cases h⟩
  ·exact .inl (Ig ha fun p hp e=>hi ⟨p,hp,e⟩).symm
 ·refine (Ig ha fun p hp e=>?_).symm
  have:=hn p hp;rw[e] at this;exact ap.ne d hxd this
 ·obtain⟨v',nw',Je,_,PM,_,h'⟩:=Rz hm h;have he:=AJ (Bq:=hp) hm (look u) Je;rw[hv] at he;simp only[Option.some.injEq,Prod.mk.injEq,true_and] at he;obtain⟨rfl,rfl⟩:=he
  have hh:C6=Aj Bq nw:=by
   refine RA ha (fun i hi=>?_) (fun i hi=>?_) PM
   ·exact (hT.same i (Ig ha hi).symm).symm
   ·obtain⟨⟨j,b⟩,B9,rfl⟩:=hi;refine (hT.off j (Ky hd (hn _ B9)) (fun e=>ap.ne j e (hn _ B9)) (.inr ((Aw ha).1 j b B9))).2
  rw[hh,←G2 ap.ne];exact h'
theorem WV (hw:GD C P o s)(ap:Qv C P ops x o)(ho:Ea C P ops o s.tm=true)
  (h:B3 C P N call ops x s (fun s1=>B3 C P N call ops o s1 K)=some r):B3 C P N call ops o s (fun s1=>B3 C P N call ops x s1 K)=some r:=by
 have hm:El P x.op=false:=ap.mo (by unfold Ea at ho;simp only[Bool.and_eq_true] at ho;exact ho.1)
 obtain⟨tm,hp⟩:=s;obtain⟨v,nw,hv,hd,ha,hn,h1⟩:=Rz hm h;have t1:∀t∈Ch ops o,Az tm x.dst v t=tm t:=Cu ap.xo;change B3 C P N call ops o ⟨Az tm x.dst v,Aj hp nw⟩ K=some r at h1;rw[Ff (by rw[Ek t1];exact ho)] at h1
 rw[Ff ho];have YP:K9 C P o.op=true:=by unfold Ea at ho;simp only[Bool.and_eq_true] at ho;exact ho.1
 have Aad:∀i,Pd o tm hp i->hp i≠none:=by
  rintro i (⟨y,hy,hi⟩|⟨Mz,id,c,⟨y,hy,hi⟩,hc,p,B9,hk⟩)
  ·exact hw.1 y hy i hi
  ·exact hw.2 YP Mz y hy id hi c hc p B9 i hk
 refine Gt (P:=P) (N:=N) (o:=o) (tm:=Az tm x.dst v) (tm':=tm) (hp:=Aj hp nw) (B9:=hp) (Rel:=fun (a b:Option R)=>a=some r->b=some r) (fun h=>by cases h) (Dc t1) (fun i hi=>?_) (fun d hod=>?_) (fun i hi=>Ig ha fun p hp e=>by have:=Ky hd (hn p hp);omega) (fun u Bq C6 hT h=>?_) h1
 ·refine .inl (Ig ha fun p Bq e=>Aad i hi ?_)
  rw[←e];exact (Aw ha).1 p.1 p.2 Bq
 ·refine Ig ha fun p Bq e=>?_
  have:=hn p Bq;rw[e] at this;exact ap.ne d this hod
 ·have J5:∀p∈nw,Bq p.1=Aj hp nw p.1∧C6 p.1=none:=by
   intro p hp2;have CP:=(Aw ha).1 p.1 p.2 hp2;have h3:=hT.off p.1 (Ky hd (hn p hp2)) (fun e=>ap.ne p.1 (hn p hp2) e) (.inl fun hL=>Aad _ hL CP)
   exact⟨h3.1,h3.2.trans CP⟩
  have PM:A3 C6 nw=true:=Ke ha fun i b hi=>(J5 (i,b) hi).2
  refine V2 hm (AJ hm (fun t ht=>(Cu ap.ox t ht).symm) hv) hd PM ?_
  have hh:Bq=Aj C6 nw:=by
   refine RA ha (fun i hi=>?_) (fun i hi=>?_) PM
   ·exact hT.same i (Ig ha hi)
   ·obtain⟨p,hp2,rfl⟩:=hi;exact (J5 p hp2).1
  rw[←G2 ap.ne,←hh];exact h
theorem Afq (hw:GD C P o s)(ap:Qv C P ops x o)
  (h:B3 C P N call ops x s (fun s1=>B3 C P N call ops o s1 K)=some r):B3 C P N call ops o s (fun s1=>B3 C P N call ops x s1 K)=some r:=by
 cases hx:Ea C P ops x s.tm
 ·cases ho:Ea C P ops o s.tm
  ·exact KI hw ap.xo ap.ne ap.ox hx ho h
  ·exact WV hw ap ho h
 ·exact XZ ap hx h
theorem G1 (h:M0 P o.op=true):K9 C P o.op=false:=by
 unfold M0 at h;split at h
 ·rename_i ho;rw[ho];rfl
 ·rename_i ho;rw[ho];rfl
 ·cases h
def Xn (P:Program)(ops:Array Oper)(o:Oper)(tm:Nat->PV):Prop:=M0 P o.op=true∨Ec ops o tm=some false
theorem Pc {tm tm':Nat->PV}(h:∀t∈Ch ops o,tm t=tm' t)(hl:Xn P ops o tm):Xn P ops o tm':=by
 rcases hl with hl|hl
 ·exact .inl hl
 ·exact .inr (by rw[←G7 h];exact hl)
theorem Xs {tm:Nat->PV}(hl:Xn P ops o tm):Ea C P ops o tm=false:=by
 rcases hl with hl|hl
 ·simp[Ea,G1 hl]
 ·simp[Ea,hl]
theorem LA {q:Ov}(hl:Xn P ops o s.tm)(h:gE C P N call ops o s=some q):q.2.1=[]∧q.2.2=[]:=by
 unfold gE at h;split at h
 ·cases h
 ·rename_i hv
  have hl:M0 P o.op=true:=by
   rcases hl with hl|hl
   ·exact hl
   ·rw[hv] at hl;cases hl
  rw[G1 hl] at h;have h:NC C P N call o s=some q:=h;unfold M0 at hl;split at hl
  ·rename_i t a ho;unfold NC V3 at h;rw[ho] at h
   have:=Xw (nz:=C.nz N) (P:=P) (f:=rd s.hp) (f':=rd s.hp) (g:=Gb s.hp) (g':=Gb s.hp) (t:=t) (x:=A8 s.tm a) (Rel:=fun (a b:Option Ov)=>∀q,a=some q->q.2.1=[]∧q.2.2=[])
    (K:=fun v=>some (v,[],[])) (K':=fun v=>some (v,[],[])) (fun _ h=>by cases h) (fun _ _=>.inl ⟨rfl,rfl⟩) (fun v q hq=>by cases hq;exact⟨rfl,rfl⟩)
   exact this q h
  ·rename_i src dst y ho;unfold NC V3 at h;rw[ho] at h;simp only at h;unfold Vj at h;split at hl
   ·rename_i hd;rw[hd] at h;simp only at h;split at h
    ·obtain⟨_,_,h⟩:=Ca h;obtain⟨_,_,h⟩:=Bl h;cases h;exact⟨rfl,rfl⟩
    ·split at h
     ·exact Qz (f:=Gb s.hp) (f':=Gb s.hp) (K':=fun _ _=>(none:Option Ov)) (Rel:=fun (a _:Option Ov)=>a=some q->q.2.1=[]∧q.2.2=[]) (fun h=>by cases h) (fun _ _=>.inl rfl) (fun n c h=>by
       obtain⟨_,h⟩:=Ae h;obtain⟨_,_,h⟩:=Bl h;obtain⟨_,_,h⟩:=Bl h;cases h;exact⟨rfl,rfl⟩) h
     ·cases h
    ·cases h
   ·cases hl
  ·cases hl
 ·cases h;exact⟨rfl,rfl⟩
theorem OC {tm tm':Nat->PV}{hp:Nat->Option A1}(h:∀t∈Ch ops o,tm t=tm' t){i:Nat}(hi:Pd o tm hp i):Pd o tm' hp i:=by
 have he:=Dc (ops:=ops) (o:=o) h;rcases hi with⟨y,hy,hi⟩|⟨Mz,id,c,⟨y,hy,hi⟩,hc,q⟩
 ·exact .inl ⟨y,hy,by rw[←he y hy];exact hi⟩
 ·exact .inr ⟨Mz,id,c,⟨y,hy,by rw[←he y hy];exact hi⟩,hc,q⟩
theorem Aap {hp Bq:Nat->Option A1}{i:Nat}(h:Bq i=hp i):rd Bq i=rd hp i∧Gb Bq i=Gb hp i:=by
 unfold rd Gb;rw[h];exact⟨rfl,rfl⟩
theorem Rw {tm:Nat->PV}{hp:Nat->Option A1}(hl:Xn P ops o tm)(h:B3 C P N call ops o ⟨tm,hp⟩ K=some r):
  ∃v,gE C P N call ops o ⟨tm,hp⟩=some (v,[],[])∧Du N o.dst=true∧K ⟨Az tm o.dst v,hp⟩=some r:=by
 rw[Gx (Xs hl)] at h;cases e:gE C P N call ops o ⟨tm,hp⟩ with
 |none=>rw[e] at h;cases h
 |some q=>
  obtain⟨v,fz,nw⟩:=q;obtain⟨h1,h2⟩:=LA hl e;simp only at h1 h2;subst h1;subst h2;rw[e] at h;obtain⟨hb,h⟩:=Ae h;simp only[Bool.and_eq_true] at hb;exact⟨v,rfl,hb.1,h⟩
theorem Vo {tm:Nat->PV}{hp:Nat->Option A1}{v:PV}(hl:Xn P ops o tm)(e:gE C P N call ops o ⟨tm,hp⟩=some (v,[],[])) (hd:Du N o.dst=true)(h:K ⟨Az tm o.dst v,hp⟩=some r):B3 C P N call ops o ⟨tm,hp⟩ K=some r:=by
 rw[Gx (Xs hl),e];show As _ _=_;have ha:A3 hp []=true:=rfl;simp only[hd,ha,Bool.and_self];exact h
theorem XW (hw:GD C P o s)(xo:∀d,x.dst=some d->d ∉ Ch ops o)(ne:∀d,x.dst=some d->o.dst≠some d)(ox:∀d,o.dst=some d->d ∉ Ch ops x)(hl:Xn P ops o s.tm)
  (EL:∀y∈o.op.operands.toList,∀i∈A5 (A8 s.tm y),¬Pd x s.tm s.hp i) (hx:Ea C P ops x s.tm=true)
  (h:B3 C P N call ops x s (fun s1=>B3 C P N call ops o s1 K)=some r):B3 C P N call ops o s (fun s1=>B3 C P N call ops x s1 K)=some r:=by
 rw[Ff hx] at h;obtain⟨tm,hp⟩:=s;have look:∀v,∀t∈Ch ops o,Az tm x.dst v t=tm t:=fun v=>Cu xo
 have back:∀{u:PV} {Bq:Nat->Option A1} {q:Ov},(∀y∈o.op.operands.toList,∀i∈A5 (A8 tm y),Bq i=hp i)->gE C P N call ops o ⟨Az tm x.dst u,Bq⟩=some q->gE C P N call ops o ⟨tm,hp⟩=some q:=
  fun hh e=>Qu (s:=⟨Az tm x.dst _,_⟩) (s':=⟨tm,hp⟩) (look _) (fun _ y hy i hi=>.inl (Aap (hh y hy i hi))) e
 have h1:=Gt (P:=P) (N:=N) (o:=x) (tm:=tm) (tm':=tm) (hp:=hp) (B9:=hp) (K:=fun s1=>B3 C P N call ops o s1 K) (K':=fun _=>none)
  (Rel:=fun (a:Option R)(_:Option R)=>a=some r->∃v,gE C P N call ops o ⟨tm,hp⟩=some (v,[],[])∧Du N o.dst=true) (fun h=>by cases h) (fun _ _=>rfl) (fun _ _=>.inl rfl) (fun _ _=>rfl) (fun _ _=>rfl) (fun v Bq _ hT h=>by
   obtain⟨u,hu,hd,_⟩:=Rw (Pc (fun t ht=>(look v t ht).symm) hl) h
   exact⟨u,back (fun y hy i hi=>hT.far i (EL y hy i hi) (hw.1 y hy i hi)) hu,hd⟩) h
 obtain⟨v,hv,hd⟩:=h1;refine Vo hl hv hd ?_;have t2:∀t∈Ch ops x,tm t=Az tm o.dst v t:=fun t ht=>(Cu ox t ht).symm
 rw[Ff (by rw[←Ek t2];exact hx)]
 refine Gt (P:=P) (N:=N) (o:=x) (tm:=tm) (tm':=Az tm o.dst v) (hp:=hp) (B9:=hp) (Rel:=fun (a b:Option R)=>a=some r->b=some r) (fun h=>by cases h) (Dc t2) (fun _ _=>.inl rfl) (fun _ _=>rfl) (fun _ _=>rfl) (fun u Bq C6 hT h=>?_) h
 have e1:Bq=C6:=funext fun i=>hT.same i rfl
 subst e1;obtain⟨v',Je,_,h'⟩:=Rw (Pc (fun t ht=>(look u t ht).symm) hl) h
 have he:=back (fun y hy i hi=>hT.far i (fun hR=>EL y hy i hi (OC (fun t ht=>(t2 t ht).symm) hR)) (hw.1 y hy i hi)) Je
 rw[hv] at he;simp only[Option.some.injEq,Prod.mk.injEq,and_true] at he;subst he;rw[←G2 ne];exact h'
theorem ZD (xo:∀d,x.dst=some d->d ∉ Ch ops o)(ne:∀d,x.dst=some d->o.dst≠some d)(ox:∀d,o.dst=some d->d ∉ Ch ops x)(hl:Xn P ops x s.tm)
  (EL:∀y∈x.op.operands.toList,∀i∈A5 (A8 s.tm y),¬Pd o s.tm s.hp i) (ho:Ea C P ops o s.tm=true)
  (h:B3 C P N call ops x s (fun s1=>B3 C P N call ops o s1 K)=some r):B3 C P N call ops o s (fun s1=>B3 C P N call ops x s1 K)=some r:=by
 obtain⟨tm,hp⟩:=s;obtain⟨v,hv,hd,h1⟩:=Rw hl h;have t1:∀t∈Ch ops o,Az tm x.dst v t=tm t:=Cu xo;rw[Ff (by rw[Ek t1];exact ho)] at h1
 rw[Ff ho];refine Gt (P:=P) (N:=N) (o:=o) (tm:=Az tm x.dst v) (tm':=tm) (hp:=hp) (B9:=hp) (Rel:=fun (a b:Option R)=>a=some r->b=some r) (fun h=>by cases h) (Dc t1) (fun _ _=>.inl rfl) (fun _ _=>rfl) (fun _ _=>rfl) (fun u Bq C6 hT h=>?_) h1
 have e1:Bq=C6:=funext fun i=>hT.same i rfl
 subst e1;have t2:∀t∈Ch ops x,tm t=Az tm o.dst u t:=fun t ht=>(Cu ox t ht).symm
 refine Vo (Pc t2 hl) (Qu (s:=⟨tm,hp⟩) (s':=⟨Az tm o.dst u,Bq⟩) t2 (fun _ y hy i hi=>?_) hv) hd ?_
 ·have hi:i∈A5 (A8 tm y):=by rw[Dc t2 y hy];exact hi
  by_cases hn:hp i=none
  ·exact .inr ⟨KR hn,Hc hn⟩
  ·obtain⟨h3,h4⟩:=Aap (hT.far i (EL y hy i hi) hn);exact .inl ⟨h3.symm,h4.symm⟩
 ·rw[←G2 ne];exact h
def Yu (P:Program)(x:Oper)(s s1:St):Prop:=(∀t,x.dst≠some t->s1.tm t=s.tm t)∧(∀i,s.hp i≠none->s1.hp i≠none)∧(El P x.op=false->∀i,s.hp i≠none->s1.hp i=s.hp i)
theorem Js {tm:Nat->PV}{d:Option Tmp}{v:PV}{t:Nat}(h:d≠some t):Az tm d v t=tm t:=by
 cases d with
 |none=>rfl
 |some d=>exact Ad _ _ (by rintro rfl;exact h rfl)
theorem U7 {K':St->Option R}(h:B3 C P N call ops x s K=some r)(hK:∀s1,Yu P x s s1->K s1=some r->K' s1=some r):B3 C P N call ops x s K'=some r:=by
 cases hx:Ea C P ops x s.tm
 ·rw[Gx hx] at h ⊢;cases ex:gE C P N call ops x s with
  |none=>rw[ex] at h;cases h
  |some q=>
   rw[ex] at h;obtain⟨hb,h1⟩:=Ae h;simp only[Bool.and_eq_true] at hb;show As _ _=_;rw[hb.1,hb.2];refine hK _ ⟨fun t ht=>Js ht,fun i hi=>Iy hb.2 hi,fun hm i hi=>?_⟩ h1
   show Aj (Ac s.hp q.2.1) q.2.2 i=s.hp i;rw[Do hb.2 hi,((Ms ex).1 hm).1];simp
 ·rw[Ff hx] at h ⊢
  exact U6 (P:=P) (N:=N) (o:=x) (tm:=s.tm) (tm':=s.tm) (hp:=s.hp) (Rel:=fun (a b:Option R)=>a=some r->b=some r) (fun h=>by cases h) (fun _ _=>rfl) (fun v Bq hh h=>hK _ ⟨fun t ht=>Js ht,hh,fun hm=>by
   have hM:K9 C P x.op=true:=by unfold Ea at hx;simp only[Bool.and_eq_true] at hx;exact hx.1
   rw[Pu hM] at hm;cases hm⟩ h) h
theorem GD.keeps {s1:St}(h:GD C P o s)(ap:Qv C P ops x o)(hk:Yu P x s s1):GD C P o s1:=by
 have PY:∀y∈o.op.operands.toList,A8 s1.tm y=A8 s.tm y:=fun y hy=>Dc (ops:=ops) (o:=o) (fun t ht=>hk.1 t fun hd=>ap.xo t hd ht) y hy
 refine⟨fun y hy i hi=>?_,fun hM hA y hy i hi c hc p hp k hkk=>?_⟩
 ·rw[PY y hy] at hi;exact hk.2.1 i (h.1 y hy i hi)
 ·rw[PY y hy] at hi;have GY:=h.1 y hy i hi;rw[hk.2.2 (ap.mo hM) i GY] at hc;exact hk.2.1 k (h.2 hM hA y hy i hi c hc p hp k hkk)
theorem Vx:∀(l:List Oper){s:St}{K:St->Option R},GD C P o s->(∀x∈l,Qv C P ops x o)->Ir C P N call ops l s (fun s1=>B3 C P N call ops o s1 K)=some r->B3 C P N call ops o s (fun s1=>Ir C P N call ops l s1 K)=some r
 |[],_,_,_,_,h=>h
 |x::l,s,K,hw,ap,h=>by
  refine Afq hw (ap x (by simp)) ?_
  refine U7 (K:=fun s1=>Ir C P N call ops l s1 (fun s2=>B3 C P N call ops o s2 K)) h fun s1 hk h1=>?_
  exact Vx l (hw.keeps (ap x (by simp)) hk) (fun y hy=>ap y (List.mem_cons_of_mem _ hy)) h1
theorem Mx:∀(l l':List Oper){s:St}{K:St->Option R},Ir C P N call ops (l++l') s K=Ir C P N call ops l s (fun s1=>Ir C P N call ops l' s1 K)
 |[],_,_,_=>rfl
 |x::l,l',s,K=>by
  show B3 C P N call ops x s (fun s1=>Ir C P N call ops (l++l') s1 K)=B3 C P N call ops x s (fun s1=>Ir C P N call ops l s1 _)
  congr 1
  funext s1
  exact Mx l l'
theorem PF {l l':List Oper}(hw:GD C P o s)(ap:∀x∈l,Qv C P ops x o)(h:Ir C P N call ops (l++o::l') s K=some r):B3 C P N call ops o s (fun s1=>Ir C P N call ops (l++l') s1 K)=some r:=by
 rw[Mx] at h;have:=Vx l hw ap h;refine U7 this fun s1 _ h1=>?_
 rw[Mx];exact h1
end
open Go.RowKit
section
variable {R:Type} {r:R} {P:Program} {N:Nat} {w0:World} {X0:Ev} {Y:Nat->Prop} {β β':Bt} {s:St} {a:Act} {w w':World} {o:Oper} {ops:Array Oper} {C:Eg} {call:Al} {K:St->Option R}
theorem Wl (h:Bp N w0 X0 Y β s a w){j d:Nat}(hd:(ops[j]?).bind (·.dst)=some d) {v:Value}(ht:s.tm d=.sc v):yielded ops a.tmps j=match v with | .bool b=>some b|_=>none:=by
 have Bk:d<N:=by
  rcases Nat.lt_or_ge d N with h'|h'
  ·exact h'
  ·rw[h.tmo d h'] at ht;cases ht
 have hv:=h.tms d Bk;rw[ht] at hv;have hv:=Ro hv;have QH:d<a.tmps.size:=by rw[h.tsz];exact Bk
 have he:a.tmps[d]?=some v:=by
  rw[Array.getElem?_eq_getElem QH];simp[QH] at hv;rw[hv]
 unfold yielded;rw[hd];simp only[Option.bind_some,he];cases v<;>rfl
theorem O7 (h:Bp N w0 X0 Y β s a w){G:Glo}(G9:FQ P G w0 X0)(Ce:∀f args res,call f args=some res->Db G P f args res){i:Nat}(hi:ops[i]?=some o) (hk:B3 C P N call ops o s K=some r):
  ∃s',K s'=some r∧∀(next:Act->World->Prop) (Q:Exit->Act->World->Prop),(∀a' w' β',Bp N w0 X0 Y β' s' a' w'->next a' w')->wpOp P ops Q i next a w:=by
 rw[AE] at hk
 have hw:∀b,Ec ops o s.tm=some b->Region.wanted o (yielded ops a.tmps)=b:=by
  intro b hb;unfold Ec at hb;unfold Region.wanted;cases hg:o.guard with
  |none=>rw[hg] at hb;simpa using hb
  |some q=>
   obtain⟨j,want⟩:=q;rw[hg] at hb;simp only at hb ⊢;cases hd:(ops[j]?).bind (·.dst) with
   |none=>rw[hd] at hb;cases hb
   |some d=>
    rw[hd] at hb;simp only at hb;split at hb
    ·rename_i b' ht;rw[Wl h hd ht];simp at hb;rw[←hb];cases b'<;>cases want<;>rfl
    ·rename_i ht;rw[Wl h hd ht];simp at hb;rw[hb];rfl
    ·cases hb
 split at hk
 ·cases hk
 ·rename_i hv;obtain⟨s',XD,hn⟩:=HR h G9 Ce hk;refine⟨s',XD,fun next Q TN=>?_⟩
  unfold wpOp;rw[hi];simp only[hw _ hv,if_true];exact .inl (hn next Q TN)
 ·rename_i hv;obtain⟨hd,hk⟩:=Ae hk;refine⟨_,hk,fun next Q TN=>?_⟩
  unfold wpOp;rw[hi];simp only[hw _ hv];refine TN _ _ β (h.put hd (Ao.sc _) (by simp[A5,Be,Ai]))
theorem Bp.known (h:Bp N w0 X0 Y β s a w){d:Nat}(hd:s.tm d=.ub):∃b,Bp N w0 X0 Y β ⟨Bh s.tm d (.sc (.bool b)),s.hp⟩ a w:=by
 have Bk:d<N:=by
  rcases Nat.lt_or_ge d N with h'|h'
  ·exact h'
  ·rw[h.tmo d h'] at hd;cases hd
 have hu:=h.tms d Bk;rw[hd] at hu;have Fs:Ao w (Bv s.hp β Y) .ub (a.tmps.getD d undef):=hu
 obtain⟨b,hv⟩:∃b,a.tmps.getD d undef=.bool b:=by
  generalize a.tmps.getD d undef=x at Fs;cases Fs with
  |ub b=>exact⟨b,rfl⟩
 refine⟨b,⟨h.dfr,h.tsz,fun i hi=>?_,fun i hi=>?_,h.box,h.inj,h.blt,fun i hi=>?_,h.wfB,h.ownd,h.rngB,h.pin,h.stp,h.Yx,h.Ylt,h.fr⟩⟩
 ·show Bh s.tm d _ i=_;rw[Ad _ _ (by omega)]
  exact h.tmo i hi
 ·by_cases e:i=d
  ·subst e;show Cp _ _ _ (Bh s.tm i _ i) _;rw[Af,hv];exact Ao.sc _
  ·show Cp _ _ _ (Bh s.tm d _ i) _;rw[Ad _ _ e];exact h.tms i hi
 ·by_cases e:i=d
  ·subst e;show ∀id∈A5 (Bh s.tm i _ i),_;rw[Af];simp[A5,Be,Ai]
  ·show ∀id∈A5 (Bh s.tm d _ i),_;rw[Ad _ _ e];exact h.wfT i hi
theorem Yj {x y:Option R}(h:Sm x y=some r):x=some r∧y=some r:=by
 unfold Sm at h;split at h
 ·rename_i e;exact⟨h,e ▸ h⟩
 ·cases h
theorem Zw (h:Bp N w0 X0 Y β s a w){F:St->Option R}(hk:IL ops o s F=some r):∃s',F s'=some r∧Bp N w0 X0 Y β s' a w:=by
 unfold IL at hk;split at hk
 ·exact⟨s,hk,h⟩
 ·split at hk
  ·exact⟨s,hk,h⟩
  ·split at hk
   ·rename_i d _ ht;obtain⟨b,hb⟩:=h.known ht;obtain⟨h1,h2⟩:=Yj hk;cases b
    ·exact⟨_,h2,hb⟩
    ·exact⟨_,h1,hb⟩
   ·exact⟨s,hk,h⟩
theorem Q4 {G:Glo}(G9:FQ P G w0 X0)(Ce:∀f args res,call f args=some res->Db G P f args res){Q:Exit->Act->World->Prop}(hQ:∀s' a' w' β',K s'=some r->Bp N w0 X0 Y β' s' a' w'->Q .normal a' w'):
  ∀(l:List Nat) (os:List Oper),l.length=os.length->(∀(k i:Nat),l[k]?=some i->ops[i]?=os[k]?)->∀{s:St} {a:Act} {w:World} {β:Bt},Bp N w0 X0 Y β s a w->AR C P N call ops os s K=some r->wpOps P ops Q l a w
 |[],[],_,_,s,a,w,β,h,hk=>by
  show Q .normal a w;exact hQ s a w β hk h
 |[],_::_,hl,_,_,_,_,_,_,_=>by cases hl
 |_::_,[],hl,_,_,_,_,_,_,_=>by cases hl
 |i::l,o::os,hl,hi,s,a,w,β,h,hk=>by
  rw[wpOps_cons];obtain⟨s1,hk,h⟩:=Zw h hk;obtain⟨s',XD,hn⟩:=O7 h G9 Ce (by simpa using hi 0 i rfl) hk
  exact hn _ _ fun a' w' β' h'=>Q4 G9 Ce hQ l os (by simpa using hl) (fun k j hj=>by simpa using hi (k+1) j (by simpa using hj)) h' XD
theorem Bp.drew (h:Bp N w0 X0 Y β s a w):Bp N w0 X0 Y β s a { w with drawn:=w.drawn+1 }:=by
 have:=h.stepR (d:=none) (v:=.top) (nw:=[]) (val:=undef) (w':={ w with drawn:=w.drawn+1 }) (β':=β) rfl rfl
  ⟨rfl,rfl,rfl,⟨Nat.le_refl _,fun _ _ _=>rfl,fun _ _=>Fy.refl _ _⟩,fun _ _=>rfl,by simp,by simp,by simp,by simp,by simp,.top _,by simp[A5,Be,Ai]⟩
 exact this
theorem AC (h:Bp N w0 X0 Y β s a w){G:Glo}(G9:FQ P G w0 X0)(Ce:∀f args res,call f args=some res->Db G P f args res){id:Nat}{Q:Exit->Act->World->Prop}
  (hk:AR C P N call ops ops.toList s K=some r)(hQ:∀s' a' w' β',K s'=some r->Bp N w0 X0 Y β' s' a' w'->Q .normal a' w'):(Code.region id ops false).wp P Q a w:=by
 refine wp_region (Q4 G9 Ce hQ (List.range ops.size) ops.toList (by simp) (fun k i hi=>?_) h hk)
 rw[List.getElem?_range] at hi
 ·simp at hi;subst hi;simp
 ·rcases Nat.lt_or_ge k ops.size with h'|h'
  ·exact h'
  ·rw[List.getElem?_eq_none (by simpa using h')] at hi;cases hi
def Id (n:Nat)(listed:Array Bool):List Nat:=(List.range n).filter fun i=> !listed.getD i true
def Acu (ops:Array Oper)(listed:Array Bool)(o:Oper):Prop:=∀e∈o.after,Region.binds .any e=true->listed.getD e.on false=true
theorem testBit_or {a b j:Nat}:(a ||| b).testBit j=(a.testBit j||b.testBit j):=Nat.testBit_or a b j
theorem Yf {acc:List Nat}{j:Nat}:∀(es:List Edge)(v:Nat),(es.foldl (fun s e=>bif Region.binds .any e then s ||| 2 ^ e.on ||| acc.getD e.on 0 else s) v).testBit j=true ->
  v.testBit j=true∨∃e∈es,Region.binds .any e=true∧(j=e.on∨(acc.getD e.on 0).testBit j=true)
 |[],v,h=>.inl h
 |e::es,v,h=>by
  rcases Yf es _ h with h|⟨e',he',h⟩
  ·cases hb:Region.binds .any e<;>simp only[hb] at h
   ·exact .inl h
   ·simp only[cond_true,Nat.testBit_or,Bool.or_eq_true] at h;rcases h with (h|h)|h
    ·exact .inl h
    ·refine .inr ⟨e,by simp,hb,.inl ?_⟩
     rw[Nat.testBit_two_pow] at h;exact (of_decide_eq_true h).symm
    ·exact .inr ⟨e,by simp,hb,.inr h⟩
  ·exact .inr ⟨e',by simp[he'],h⟩
theorem Lc {listed:Array Bool}(hc:∀(j:Nat) oj,ops[j]?=some oj->listed.getD j false=true->Acu ops listed oj):
  ∀(rest done:List Oper) (acc:List Nat),ops.toList=done++rest->acc.length=done.length ->
   (∀(k:Nat) o,done[k]?=some o->Acu ops listed o->∀j,(acc.getD k 0).testBit j=true->listed.getD j false=true) ->
   ∀(k:Nat) o,ops[k]?=some o->Acu ops listed o->∀j,((E7 rest acc).getD k 0).testBit j=true->listed.getD j false=true
 |[],done,acc,he,_,h,k,o,ho,hf,j,hj=>by
  refine h k o ?_ hf j hj;rw[List.append_nil] at he;rw[←he]
  simpa using ho
 |o'::rest,done,acc,he,hl,h,k,o,ho,hf,j,hj=>by
  refine Lc hc rest (done++[o']) _ (by rw[he];simp) (by simp[hl]) ?_ k o ho hf j hj
  intro k o ho hf j hj;rcases Nat.lt_trichotomy k done.length with Bk|heq|hgt
  ·rw[List.getElem?_append_left Bk] at ho;rw[List.getD_eq_getElem?_getD,List.getElem?_append_left (by omega),←List.getD_eq_getElem?_getD] at hj
   exact h k o ho hf j hj
  ·subst heq;simp at ho;subst ho;rw[←hl] at hj;simp only[List.getD_eq_getElem?_getD,List.getElem?_append_right (Nat.le_refl _),Nat.sub_self,List.getElem?_cons_zero,Option.getD_some] at hj
   have hj:(o'.after.toList.foldl (fun s e=>bif Region.binds .any e then s ||| 2 ^ e.on ||| acc.getD e.on 0 else s) 0).testBit j=true:=by
    simpa only[List.getD_eq_getElem?_getD] using hj
   rcases Yf _ _ hj with h0|⟨e,hm,hb,h1⟩
   ·simp at h0
   ·have Us:=hf e (by simpa using hm) hb
    rcases h1 with h1|h1
    ·rw[h1];exact Us
    ·cases hd:done[e.on]? with
     |none=>
      have:acc.getD e.on 0=0:=by
       rw[List.getD_eq_getElem?_getD,List.getElem?_eq_none (by rw[hl];exact List.getElem?_eq_none_iff.1 hd)]
       rfl
      rw[this] at h1;simp at h1
     |some oe=>
      have hoe:ops[e.on]?=some oe:=by
       rw[←Array.getElem?_toList,he,List.getElem?_append_left (by
        rcases Nat.lt_or_ge e.on done.length with h'|h'
        ·exact h'
        ·rw[List.getElem?_eq_none h'] at hd;cases hd)]
       exact hd
      exact h e.on oe hd (hc e.on oe hoe Us) j h1
  ·rw[List.getElem?_eq_none (by simp;omega)] at ho
   cases ho
theorem Pn {bs:List Nat}:∀(l:List Oper)(n:Nat),Uj C P ops bs l n=true->∀(k:Nat) o,l[k]?=some o->∀(j:Nat) x,ops[j]?=some x->j<n+k->Vz C P ops x o=true->(bs.getD (n+k) 0).testBit j=true
 |[],_,_,k,o,ho,_,_,_,_,_=>by simp at ho
 |o'::l,n,h,k,o,ho,j,x,hx,hj,J0=>by
  simp only[Uj,Bool.and_eq_true] at h;cases k with
  |zero=>
   simp at ho;subst ho
   have:=List.all_eq_true.1 h.1 (x,j) (by
    rw[List.mem_zipIdx_iff_getElem?]
    simpa using hx)
   simp only[J0,Bool.not_true,Bool.or_false,Bool.or_eq_true,Bool.not_eq_true'] at this;rcases this with h'|h'
   ·have:Nat.blt j n=true:=Nat.ble_eq_true_of_le (by omega)
    rw[this] at h';cases h'
   ·exact h'
  |succ k=>
   have:=Pn l (n+1) h.2 k o (by simpa using ho) j x hx (by omega) J0
   rwa [show n+(k+1)=n+1+k by omega]
theorem F2 {n i:Nat}{listed:Array Bool}:i∈Id n listed↔i<n∧listed.getD i true=false:=by
 unfold Id;simp[List.mem_filter]
theorem O5 {n i:Nat}{listed:Array Bool}(hi:i∈Id n listed)(Ik:listed.size=n):∃l1 l2,Id n listed=l1++i::l2∧Id n (listed.setIfInBounds i true)=l1++l2∧∀j∈l1,j<i:=by
 obtain⟨Bk,F9⟩:=F2.1 hi
 have hr:List.range n=List.range i++i::(List.range (n-i-1)).map (i+1 + ·):=by
  conv=>lhs;rw[show n=i+(1+(n-i-1)) by omega]
  rw[List.range_add,List.range_add];simp[Nat.add_assoc]
 refine⟨(List.range i).filter fun i=> !listed.getD i true,((List.range (n-i-1)).map (i+1 + ·)).filter fun i=> !listed.getD i true,?_,?_,fun j hj=>?_⟩
 ·unfold Id;rw[hr,List.filter_append,List.filter_cons_of_pos (by rw[F9];rfl)]
 ·unfold Id;rw[hr,List.filter_append,List.filter_cons_of_neg (by simp[Ik,Bk])]
  congr 1
  ·refine List.filter_congr fun j hj=>?_
   rw[getD_set_ne true (by have:=List.mem_range.1 hj;omega)]
  ·refine List.filter_congr fun j hj=>?_
   obtain⟨k,_,rfl⟩:=List.mem_map.1 hj;rw[getD_set_ne true (by omega)]
 ·exact List.mem_range.1 (List.mem_filter.1 hj).1
theorem VH (h:Bp N w0 X0 Y β s a w)(o:Oper):GD C P o s:=by
 refine⟨fun y _ i hi=>Cz h y i hi,fun _ _ y _ i hi c hc p hp k hk=>h.wfB i c hc p hp k hk⟩
theorem Yz (VB:(ops.toList.zipIdx.all fun q=>q.1.after.toList.all fun e=> !Region.binds .any e||Nat.blt e.on q.2)=true) {listed:Array Bool}(inv:HeadInv .any ops ops.size listed)(hr:Region.ready .any ops listed=[]):Id ops.size listed=[]:=by
 cases hp:Id ops.size listed with
 |nil=>rfl
 |cons i l=>
  exfalso;have hi:i∈Id ops.size listed:=by rw[hp];simp
  obtain⟨Bk,F9⟩:=F2.1 hi;obtain⟨l1,l2,h1,_,h3⟩:=O5 hi inv.size
  have Us:l1=[]:=by
   cases l1 with
   |nil=>rfl
   |cons j l1=>
    rw[hp] at h1;simp at h1;have:=h3 j (by simp)
    omega
  subst Us
  have Akf:∀j,j<i->listed.getD j false=true:=by
   intro j hj;cases hh:listed.getD j false with
   |true=>rfl
   |false=>
    have:j∈Id ops.size listed:=F2.2 ⟨by omega,getD_in (by rw[inv.size];omega) hh⟩
    have hs:(Id ops.size listed).Pairwise (· < ·):=List.Pairwise.filter _ List.pairwise_lt_range
    rw[h1] at this hs;simp at this;rcases this with e|e
    ·omega
    ·have:=(List.pairwise_cons.1 hs).1 j e;omega
  have:i∈Region.ready .any ops listed:=by
   refine mem_ready.2 ⟨F9,ops[i],Array.getElem?_eq_getElem Bk,fun e he hb=>Akf _ ?_⟩
   have:=List.all_eq_true.1 VB (ops[i],i) (by
    rw[List.mem_zipIdx_iff_getElem?];simp[Bk])
   have:=List.all_eq_true.1 this e (Array.mem_toList_iff.2 he);simp only[hb,Bool.not_true,Bool.false_or] at this;exact Nat.lt_of_succ_le (Nat.le_of_ble_eq_true this)
  rw[hr] at this;simp at this
theorem Zg {G:Glo}(G9:FQ P G w0 X0)(Ce:∀f args res,call f args=some res->Db G P f args res)(Jc:Yk C P ops=true){Q:Exit->Act->World->Prop}(hQ:∀s' a' w' β',K s'=some r->Bp N w0 X0 Y β' s' a' w'->Q .normal a' w'):
  ∀(fuel:Nat) {listed:Array Bool} {s:St} {a:Act} {w:World} {β:Bt},HeadInv .any ops ops.size listed->(Id ops.size listed).length=fuel->Bp N w0 X0 Y β s a w->Ir C P N call ops ((Id ops.size listed).filterMap (ops[·]?)) s K=some r->wpAny P .any ops Q fuel listed a w:=by
 unfold Yk at Jc;simp only[Bool.and_eq_true] at Jc;obtain⟨VB,Ace⟩:=Jc;intro fuel
 induction fuel with
 |zero=>
  intro listed s a w β inv hf h hk;have hp:=List.eq_nil_of_length_eq_zero hf;rw[hp] at hk;refine⟨?_,hQ s a w β hk h⟩;cases hr:Region.ready .any ops listed with
  |nil=>rfl
  |cons i l=>
   exfalso;have hi:i∈Region.ready .any ops listed:=by rw[hr];simp
   obtain⟨F9,o,ho,_⟩:=mem_ready.1 hi;have:i∈Id ops.size listed:=F2.2 ⟨(Array.getElem?_eq_some_iff.1 ho).1,F9⟩;rw[hp] at this;simp at this
 |succ fuel ih=>
  intro listed s a w β inv hf h hk;refine⟨fun hr=>?_,fun i hi=>?_⟩
  ·rw[Yz VB inv hr] at hf;cases hf
  ·obtain⟨F9,o,ho,I7⟩:=mem_ready.1 hi;have Bk:i<ops.size:=(Array.getElem?_eq_some_iff.1 ho).1;obtain⟨l1,l2,h1,h2,h3⟩:=O5 (F2.2 ⟨Bk,F9⟩) inv.size;rw[h1,List.filterMap_append,List.filterMap_cons_some ho] at hk
   have Mz:∀x∈l1.filterMap (ops[·]?),Qv C P ops x o:=by
    intro x hx;obtain⟨j,hj,hxj⟩:=List.mem_filterMap.1 hx;refine QR ?_;cases J0:Vz C P ops x o with
    |false=>rfl
    |true=>
     exfalso;have Nr:=Pn ops.toList 0 Ace i o (by simpa using ho) j x hxj (by have:=h3 j hj;omega) J0
     rw[Nat.zero_add] at Nr;have hjl:=Lc (listed:=listed) (fun j oj hj hl=>inv.closed j oj hj hl) ops.toList [] [] (by simp) rfl (by simp) i o ho I7 j Nr
     have:j∈Id ops.size listed:=by rw[h1];simp[hj]
     have:=getD_both (F2.1 this).2;rw[hjl] at this;cases this
   obtain⟨s',XD,hn⟩:=O7 h G9 Ce ho (PF (VH h o) Mz hk);refine hn _ _ fun a' w' β' h'=>ih (inv.set hi Bk) ?_ h' ?_
   ·rw[h2];rw[h1] at hf;simp at hf ⊢;omega
   ·rw[h2,List.filterMap_append];exact XD
theorem Rt (h:Bp N w0 X0 Y β s a w){G:Glo}(G9:FQ P G w0 X0)(Ce:∀f args res,call f args=some res->Db G P f args res)(hm:P.follows .mixedOrders=true)(Jc:Yk C P ops=true){Q:Exit->Act->World->Prop}
  (hk:Ir C P N call ops ops.toList s K=some r)(hQ:∀s' a' w' β',K s'=some r->Bp N w0 X0 Y β' s' a' w'->Q .normal a' w'):wpAny P .any ops Q ops.size (Array.replicate ops.size false) a { w with drawn:=w.drawn+1 }:=by
 have hp:Id ops.size (Array.replicate ops.size false)=List.range ops.size:=by
  unfold Id;refine List.filter_eq_self.2 fun i hi=>?_
  have:=List.mem_range.1 hi;simp[this]
 refine Zg (C:=C) G9 Ce Jc hQ ops.size ⟨by simp,fun j oj _ hl=>(by rw[getD_replicate_false] at hl;cases hl),fun t ht ht'=>by omega⟩ (by rw[hp];simp) h.drew ?_
 rw[hp]
 have:(List.range ops.size).filterMap (ops[·]?)=ops.toList:=by
  refine List.ext_getElem? fun k=>?_
  have:∀(n:Nat),n<=ops.size->(List.range n).filterMap (ops[·]?)=ops.toList.take n:=by
   intro n
   induction n with
   |zero=>intro _;rfl
   |succ n ih=>
    intro hn;rw[List.range_succ,List.filterMap_append,ih (by omega),List.take_add_one]
    congr 1
    have:ops[n]?=some ops[n]:=Array.getElem?_eq_getElem (by omega)
    simp[this]
  rw[this ops.size (Nat.le_refl _)]
  congr 1
  exact List.take_of_length_le (by simp)
 rw[this];exact hk
theorem Z2 (h:Bp N w0 X0 Y β s a w){G:Glo}(G9:FQ P G w0 X0)(Ce:∀f args res,call f args=some res->Db G P f args res)(hm:P.follows .mixedOrders=true)(Jc:Yk C P ops=true){id:Nat}{Q:Exit->Act->World->Prop}
  (hk:Ir C P N call ops ops.toList s K=some r)(hQ:∀s' a' w' β',K s'=some r->Bp N w0 X0 Y β' s' a' w'->Q .normal a' w'):(Code.region id ops true).wp P Q a w:=
 wp_region_any hm (Rt h G9 Ce hm Jc hk hQ)
end
end
section
open Go.RowKit
section
variable {R R':Type} {Rel:Option R->Option R'->Prop} {P:Program} {N:Nat} {tm tm':Nat->PV} {hp B9:Nat->Option A1} {o:Oper}
theorem PG (hn:Rel none none){C:Eg}{call:Al}{K:St->Option R}{K':St->Option R'}(Mz:In o.op=true)(Gp:∀x∈o.op.operands.toList,A8 tm x=A8 tm' x)
  (hS:∀i,Pd o tm' B9 i->hp i=B9 i∨(hp i=none∧∀b,Rel none b)) (PS:∀d,o.dst=some d->hp d=B9 d)
  (hK:∀v Bq C6,(∀M,Xm M (Pd o tm' B9) o.dst hp B9 Bq C6)->Rel (K ⟨Az tm o.dst v,Bq⟩) (K' ⟨Az tm' o.dst v,C6⟩)):Rel (Nw C P N call ⟨tm,hp⟩ o K) (Nw C P N call ⟨tm',B9⟩ o K'):=by
 unfold Nw;have hl:∀x∈o.op.operands.toList,∀i∈A5 (A8 tm' x),Pd o tm' B9 i:=fun x hx i hi=>.inl ⟨x,hx,hi⟩
 generalize hLd:Pd o tm' B9=S at *
 generalize PY:o.op=op at *
 unfold In at Mz;split at Mz
 ·rename_i c
  have Gz:∀x∈c.args.toList,x∈(Op.call c).operands.toList:=by
   intro x hx;simp only[Op.operands,Call.operands,Array.toList_append,List.mem_append];exact .inr hx
  split at Mz
  ·rename_i hc;simp only[hc];refine B0 hn fun d hd=>Av hn fun x _ hx=>Av hn fun y _ hy=>C2 hn (Av hn fun _ _ _=>Av hn fun _ _ _=>?_)
   subst hy;have LU:=Gz x (by rw[hx];simp)
   have hym:=Gz y (by rw[hx];simp)
   simp only[Gp x LU,Gp y hym];refine P3 hn hS (PS d hd) (fun i hi=>hl x LU i (Di hi)) (fun i hi=>hl y hym i (Di hi)) fun v Bq C6 hh=>?_
   have:=hK v Bq C6 (by rw[hd];exact hh)
   rw[hd] at this;exact this
  ·cases Mz
 ·cases Mz
theorem Kf {C:Eg}{call:Al}(Mz:In o.op=true)(Gp:∀x∈o.op.operands.toList,A8 tm x=A8 tm' x)(hS:∀i,Pd o tm' B9 i->hp i=B9 i)(PS:∀d,o.dst=some d->hp d=B9 d){s1:St}
  (h:Nw C P N call ⟨tm,hp⟩ o some=some s1):∃v Bq C6,s1=⟨Az tm o.dst v,Bq⟩∧Nw C P N call ⟨tm',B9⟩ o some=some ⟨Az tm' o.dst v,C6⟩∧∀M,Xm M (Pd o tm' B9) o.dst hp B9 Bq C6:=by
 have:=PG (P:=P) (N:=N) (C:=C) (call:=call) (o:=o) (tm:=tm) (tm':=tm') (hp:=hp) (B9:=B9) (K:=some) (K':=some)
  (Rel:=fun (a b:Option St)=>∀s1,a=some s1->∃v Bq C6,s1=⟨Az tm o.dst v,Bq⟩∧b=some ⟨Az tm' o.dst v,C6⟩∧∀M,Xm M (Pd o tm' B9) o.dst hp B9 Bq C6) (fun _ h=>by cases h) Mz Gp (fun i hi=>.inl (hS i hi)) PS
  (fun v Bq C6 hT s1 h=>by cases h;exact⟨v,Bq,C6,rfl,rfl,hT⟩)
 exact this s1 h
end
section
variable {R R':Type} {r:R} {r':R'} {C:Eg} {P:Program} {N:Nat} {call:Al} {ops:Array Oper} {o x:Oper} {s s1 s2:St} {K:St->Option R}
theorem My {tm:Nat->PV}(h:Ea C P ops o tm=true):K9 C P o.op=true:=by
 unfold Ea at h;simp only[Bool.and_eq_true] at h;exact h.1
theorem Z1 (h:In o.op=true):K9 C P o.op=true:=by
 unfold In at h;split at h
 ·rename_i c hc;rw[hc];split at h
  ·rename_i UQ;simp only[K9,UQ];exact h
  ·cases h
 ·cases h
theorem Iz (h:B3 C P N call ops x s K=some r):∃s1,B3 C P N call ops x s some=some s1∧Yu P x s s1∧(M0 P x.op=true->s1.hp=s.hp)∧K s1=some r:=by
 cases hx:Ea C P ops x s.tm
 ·rw[Gx hx] at h ⊢;cases ex:gE C P N call ops x s with
  |none=>rw[ex] at h;cases h
  |some q=>
   rw[ex] at h;obtain⟨hb,h1⟩:=Ae h;simp only[Bool.and_eq_true] at hb;refine⟨_,?_,⟨fun t ht=>Js ht,fun i hi=>Iy hb.2 hi,fun hm i hi=>?_⟩,fun hl=>?_,h1⟩
   ·show As _ _=_;rw[hb.1,hb.2];rfl
   ·show Aj (Ac s.hp q.2.1) q.2.2 i=s.hp i;rw[Do hb.2 hi,((Ms ex).1 hm).1];simp
   ·show Aj (Ac s.hp q.2.1) q.2.2=s.hp;obtain⟨h1,h2⟩:=LA (.inl hl) ex;rw[h1,h2]
    funext i
    show Ac s.hp [] i=_;rw[A4];simp
 ·rw[Ff hx] at h ⊢
  exact U6 (P:=P) (N:=N) (o:=x) (tm:=s.tm) (tm':=s.tm) (hp:=s.hp) (K':=some) (Rel:=fun (a:Option R) (b:Option St)=>a=some r->∃s1,b=some s1∧Yu P x s s1∧(M0 P x.op=true->s1.hp=s.hp)∧K s1=some r) (fun h=>by cases h) (fun _ _=>rfl) (fun v Bq hh h=>⟨_,rfl,⟨fun t ht=>Js ht,hh,fun hm=>(by
   rw[Pu (My hx)] at hm;cases hm)⟩,fun hl=>(by
   have:=My hx;rw[G1 hl] at this;cases this),h⟩) h
theorem Nf {K':St->Option R'}(h:B3 C P N call ops x s some=some s1)(hk:K' s1=some r'):B3 C P N call ops x s K'=some r':=by
 cases hx:Ea C P ops x s.tm
 ·rw[Gx hx] at h ⊢;cases ex:gE C P N call ops x s with
  |none=>rw[ex] at h;cases h
  |some q=>
   rw[ex] at h;obtain⟨hb,h1⟩:=Ae h;show As _ _=_;rw[hb];cases h1;exact hk
 ·rw[Ff hx] at h ⊢;exact U6 (P:=P) (N:=N) (o:=x) (tm:=s.tm) (tm':=s.tm) (hp:=s.hp) (K:=some) (Rel:=fun (a:Option St) (b:Option R')=>a=some s1->b=some r') (fun h=>by cases h) (fun _ _=>rfl) (fun v Bq hh h=>by cases h;exact hk) h
theorem Zq {d:Nat}{t tx:TypeId}{b y:PV}(h:Jv P N s d t tx b y K=some r):s.hp d=none:=by
 unfold Jv at h;split at h
 ·obtain⟨_,h⟩:=Ae h;cases hI:Qp P tx
  ·rw[hI,cond_false] at h;refine R3 (P:=P) (tm:=s.tm) (tm':=s.tm) (hp:=s.hp) (B9:=s.hp) (S:=fun _=>True) (K':=fun _ _=>(none:Option R)) (Rel:=fun (a:Option R) (_:Option R)=>a=some r->s.hp d=none) (fun h=>by cases h) (fun _ _=>.inl rfl) (fun _ _=>trivial) (fun m new h=>?_) h
   split at h
   ·split at h
    ·obtain⟨hb,_⟩:=Ae h;simp only[Bool.and_eq_true,Option.isNone_iff_eq_none] at hb;simp only[hb]
    ·cases h
   ·obtain⟨_,_,_,h,_⟩:=Dh h;obtain⟨hb,_⟩:=Ae h;simp only[Bool.and_eq_true,Option.isNone_iff_eq_none] at hb;simp only[hb]
  ·rw[hI,cond_true] at h;unfold M5 at h;obtain⟨_,_,_,h⟩:=Bx h;obtain⟨_,_,_,h,_⟩:=Dh h;obtain⟨hb,_⟩:=Ae h;simp only[Bool.and_eq_true,Option.isNone_iff_eq_none] at hb;simp only[hb]
 ·cases h
theorem XM (hw:GD C P o s)(hwx:∀y∈x.op.operands.toList,∀i∈A5 (A8 s.tm y),s.hp i≠none) (xo:∀d,x.dst=some d->d ∉ Ch ops o)(ne:∀d,x.dst=some d->o.dst≠some d)(ox:∀d,o.dst=some d->d ∉ Ch ops x)
  (Bw:In x.op=true)(OM:In o.op=true)(EL:∀i,Pd x s.tm s.hp i->¬Pd o s.tm s.hp i)(hx:Ea C P ops x s.tm=true)(ho:Ea C P ops o s.tm=true)
  (h:B3 C P N call ops x s (fun s1=>B3 C P N call ops o s1 K)=some r):B3 C P N call ops o s (fun s1=>B3 C P N call ops x s1 K)=some r:=by
 obtain⟨tm,hp⟩:=s;obtain⟨s1,e1,_,_,h⟩:=Iz h;obtain⟨s2,e2,_,_,h⟩:=Iz h;rw[Ff hx] at e1
 have hSx:∀i,Pd x tm hp i->hp i≠none:=by
  rintro i (⟨y,hy,hi⟩|⟨Mz,_⟩)
  ·exact hwx y hy i hi
  ·rw[Bw] at Mz;cases Mz
 have hSo:∀i,Pd o tm hp i->hp i≠none:=by
  rintro i (⟨y,hy,hi⟩|⟨Mz,_⟩)
  ·exact hw.1 y hy i hi
  ·rw[OM] at Mz;cases Mz
 obtain⟨vx,hpx,ZA,rfl,e1',T1⟩:=Kf Bw (fun _ _=>rfl) (fun _ _=>rfl) (fun _ _=>rfl) e1
 have:ZA=hpx:=by
  rw[e1] at e1';injection e1' with q;injection q with _ q;exact q.symm
 subst this;have t1:∀t∈Ch ops o,Az tm x.dst vx t=tm t:=Cu xo;have t1o:=Dc (ops:=ops) (o:=o) t1;rw[Ff (by rw[Ek t1];exact ho)] at e2
 have hRo:∀i,Pd o (Az tm x.dst vx) ZA i↔Pd o tm hp i:=by
  intro i;constructor
  ·rintro (⟨y,hy,hi⟩|⟨Mz,_⟩)
   ·exact .inl ⟨y,hy,by rw[←t1o y hy];exact hi⟩
   ·rw[OM] at Mz;cases Mz
  ·rintro (⟨y,hy,hi⟩|⟨Mz,_⟩)
   ·exact .inl ⟨y,hy,by rw[t1o y hy];exact hi⟩
   ·rw[OM] at Mz;cases Mz
 have Aag:∀{s:St} {o:Oper} {s2:St},In o.op=true->Nw C P N call s o some=some s2->∀d,o.dst=some d->s.hp d=none:=by
  intro s o s2 OM e d hd;unfold Nw at e;unfold In at OM;split at OM
  ·rename_i c hc;rw[hc] at e;simp only at e;split at OM
   ·rename_i UQ;rw[UQ] at e;simp only[hd,C7] at e;obtain⟨_,_,_,e⟩:=Ap e;obtain⟨_,_,_,e⟩:=Ap e;obtain⟨_,e⟩:=B1 e;obtain⟨_,_,_,e⟩:=Ap e;obtain⟨_,_,_,e⟩:=Ap e;exact Zq e
   ·cases OM
  ·cases OM
 have Ajz:∀d,o.dst=some d->hp d=none:=by
  intro d hd;have h0:=Aag OM e2 d hd;cases hh:hp d with
  |none=>rfl
  |some b=>exact absurd h0 ((T1 0).keep d (by rw[hh];simp))
 have Ae5:=Aag Bw e1;simp only at Ae5;have hoS:∀d,o.dst=some d->¬Pd x tm hp d:=fun d hd hR=>hSx d hR (Ajz d hd)
 have hxS:∀d,x.dst=some d->¬Pd o tm hp d:=fun d hd hR=>hSo d hR (Ae5 d hd)
 obtain⟨vo,Ai5,hpo,rfl,e3,T2⟩:=Kf (tm':=tm) (B9:=hp) OM t1o (fun i hi=>(T1 0).far i (fun hR=>EL i hR hi) (hSo i hi)) (fun d hd=>((T1 (d+1)).off d (by omega) (fun e=>ne d e hd) (.inl (hoS d hd))).1) e2
 obtain⟨vo',Ag6,FF,e3a,e3b,T3⟩:=Kf (tm':=tm) (B9:=hp) OM (fun _ _=>rfl) (fun _ _=>rfl) (fun _ _=>rfl) e3
 rw[e3] at e3b
 have Alk:Ag6=hpo∧FF=hpo:=by
  injection e3a with _ q1;injection e3b with q2;injection q2 with _ q3;exact⟨q1.symm,q3.symm⟩
 obtain⟨rfl,rfl⟩:=Alk;have t2:∀t∈Ch ops x,tm t=Az tm o.dst vo t:=fun t ht=>(Cu ox t ht).symm
 have t2x:=Dc (ops:=ops) (o:=x) t2
 have hRx:∀i,Pd x (Az tm o.dst vo) FF i↔Pd x tm hp i:=by
  intro i;constructor
  ·rintro (⟨y,hy,hi⟩|⟨Mz,_⟩)
   ·exact .inl ⟨y,hy,by rw[t2x y hy];exact hi⟩
   ·rw[Bw] at Mz;cases Mz
  ·rintro (⟨y,hy,hi⟩|⟨Mz,_⟩)
   ·exact .inl ⟨y,hy,by rw[←t2x y hy];exact hi⟩
   ·rw[Bw] at Mz;cases Mz
 obtain⟨vx2,Ahb,Ajn,e4a,e4,T4⟩:=Kf (tm':=Az tm o.dst vo) (B9:=FF) Bw t2x (fun i hi=>((T3 0).far i (EL i ((hRx i).1 hi)) (hSx i ((hRx i).1 hi))).symm) (fun d hd=>((T3 (d+1)).off d (by omega) (fun e=>ne d hd e) (.inl (hxS d hd))).1.symm) e1
 have YY:Az tm x.dst vx=Az tm x.dst vx2∧ZA=Ahb:=by
  injection e4a with q1 q2;exact⟨q1,q2⟩
 obtain⟨YY,rfl⟩:=YY;obtain⟨_,Y9,Ud,e5a,e5b,T5⟩:=Kf (tm':=Az tm x.dst vx) (B9:=ZA) OM (fun _ _=>rfl) (fun _ _=>rfl) (fun _ _=>rfl) e2
 have hq:Y9=Ai5:=by injection e5a with _ q1;exact q1.symm
 subst hq;obtain⟨_,SR,hu2,e6a,e6b,T6⟩:=Kf (tm':=Az tm o.dst vo) (B9:=FF) Bw (fun _ _=>rfl) (fun _ _=>rfl) (fun _ _=>rfl) e4
 have hu:SR=Ajn:=by injection e6a with _ q1;exact q1.symm
 subst hu
 have Gz:Y9=SR:=by
  funext i
  by_cases hi:Pd o tm hp i∨o.dst=some i
  ·have hxi:¬Pd x tm hp i:=by
    rcases hi with hi|hi
    ·exact fun hR=>EL i hR hi
    ·exact hoS i hi
   have hdi:x.dst≠some i:=by
    rcases hi with hi|hi
    ·exact fun e=>hxS i e hi
    ·exact fun e=>ne i e hi
   rw[(T2 0).same i ((T1 (i+1)).off i (by omega) hdi (.inl hxi)).1]
   exact ((T6 (i+1)).off i (by omega) hdi (.inl fun hR=>hxi ((hRx i).1 hR))).1.symm
  ·have hoi:¬Pd o tm hp i:=fun e=>hi (.inl e)
   have hdi:o.dst≠some i:=fun e=>hi (.inr e)
   rw[((T5 (i+1)).off i (by omega) hdi (.inl fun hR=>hoi ((hRo i).1 hR))).1]
   exact (T4 0).same i ((T3 (i+1)).off i (by omega) hdi (.inl hoi)).1.symm
 refine Nf (s1:=⟨Az tm o.dst vo,FF⟩) (by rw[Ff ho];exact e3) ?_
 refine Nf (s1:=⟨Az (Az tm o.dst vo) x.dst vx2,SR⟩) (by rw[Ff (by rw[←Ek t2];exact hx)];exact e4) ?_
 rw[←G2 ne,←YY,←Gz];exact h
theorem P8 (hM:K9 C P o.op=true){i:Nat}(h:Pd o s.tm s.hp i):i∈H4 C P s o:=by
 unfold H4;rw[hM];cases hA:In o.op
 ·simp only[Bool.not_false,Bool.and_self,cond_true,List.mem_append];rcases h with⟨y,hy,hi⟩|⟨_,id,c,⟨y,hy,hi⟩,hc,p,hp,hk⟩
  ·exact .inl (List.mem_flatMap.2 ⟨y,hy,hi⟩)
  ·refine .inr (List.mem_flatMap.2 ⟨id,List.mem_flatMap.2 ⟨y,hy,hi⟩,?_⟩);rw[hc];exact List.mem_flatMap.2 ⟨p,hp,hk⟩
 ·simp only[Bool.not_true,Bool.and_false,cond_false,Bool.or_true,cond_true];rcases h with⟨y,hy,hi⟩|⟨hn,_⟩
  ·exact List.mem_flatMap.2 ⟨y,hy,hi⟩
  ·rw[hA] at hn;cases hn
theorem Uk (hl:K9 C P o.op=true∨M0 P o.op=true){y:Operand}(hy:y∈o.op.operands.toList){i:Nat}(h:i∈A5 (A8 s.tm y)):i∈H4 C P s o:=by
 rcases hl with hM|hl
 ·exact P8 hM (.inl ⟨y,hy,h⟩)
 ·unfold H4;rw[G1 hl,hl];exact List.mem_flatMap.2 ⟨y,hy,h⟩
theorem FM (ht:∀t∈Ch ops o,s1.tm t=s.tm t)(hh:K9 C P o.op=true->In o.op=false->∀y∈o.op.operands.toList,∀i∈A5 (A8 s.tm y),s1.hp i=s.hp i):H4 C P s1 o=H4 C P s o:=by
 have he:=Dc (ops:=ops) (o:=o) ht
 have hl:(o.op.operands.toList.flatMap fun y=>A5 (A8 s1.tm y))=o.op.operands.toList.flatMap fun y=>A5 (A8 s.tm y):=by
  have Aca:∀l:List Operand,(∀y∈l,A8 s1.tm y=A8 s.tm y)->(l.flatMap fun y=>A5 (A8 s1.tm y))=l.flatMap fun y=>A5 (A8 s.tm y):=by
   intro l
   induction l with
   |nil=>intro _;rfl
   |cons a l ih=>intro h;simp only[List.flatMap_cons];rw[h a (by simp),ih fun y hy=>h y (by simp[hy])]
  exact Aca _ he
 unfold H4;simp only[hl];cases hM:(K9 C P o.op && !In o.op)
 ·rfl
 ·simp only[cond_true];simp only[Bool.and_eq_true,Bool.not_eq_true'] at hM
  congr 1
  have Aca:∀l:List Nat,(∀i∈l,s1.hp i=s.hp i)->(l.flatMap fun i=>match s1.hp i with|some (.st c)=>c.flatMap Ai|_=>[])=l.flatMap fun i=>match s.hp i with|some (.st c)=>c.flatMap Ai|_=>[]:=by
   intro l
   induction l with
   |nil=>intro _;rfl
   |cons a l ih=>intro h;simp only[List.flatMap_cons];rw[h a (by simp),ih fun y hy=>h y (by simp[hy])]
  exact Aca _ fun i hi=>by
   obtain⟨y,hy,hi⟩:=List.mem_flatMap.1 hi;exact hh hM.1 hM.2 y hy i hi
theorem Px {a b:List Nat}(h:MS a b=true){i:Nat}(ha:i∈a)(hb:i∈b):False:=by
 have:=List.all_eq_true.1 h i ha;have h2:b.any (Nat.beq i)=true:=List.any_eq_true.2 ⟨i,hb,Nat.beq_refl i⟩;rw[h2] at this;cases this
theorem OJ {a b:List Nat}(h:MS a b=true):MS b a=true:=by
 refine List.all_eq_true.2 fun i hi=>?_
 cases hc:a.any (Nat.beq i)
 ·rfl
 ·obtain⟨j,hj,e⟩:=List.any_eq_true.1 hc;rw[Nat.eq_of_beq_eq_true e] at hi;exact (Px h hj hi).elim
theorem Pa:Gg C P x o=Gg C P o x:=by
 unfold Gg;cases K9 C P x.op<;>cases K9 C P o.op<;>cases M0 P x.op<;>cases M0 P o.op<;>cases In x.op<;>cases In o.op<;>rfl
structure Hv (C:Eg) (P:Program) (ops:Array Oper) (x o:Oper):Prop where
 xo:∀d,x.dst=some d->d ∉ Ch ops o
 ne:∀d,x.dst=some d->o.dst≠some d
 ox:∀d,o.dst=some d->d ∉ Ch ops x
 me:Ll C P x o=false∨Gg C P x o=true
theorem OA (h:QI C P ops x o=false):Hv C P ops x o:=by
 unfold QI at h;simp only[Bool.or_eq_false_iff] at h;obtain⟨h1,h2⟩:=h;have hT:=h1;unfold SS at h1;simp only[Bool.or_eq_false_iff] at h1
 have a1:Vz C P ops x o=false∨Ll C P x o=true:=by
  cases hc:Ll C P x o
  ·left;unfold Vz;unfold Ll at hc;simp only[Bool.or_eq_false_iff] at hc ⊢;exact⟨⟨⟨h1.1,h1.2⟩,hc.1⟩,hc.2⟩
  ·exact .inr rfl
 refine⟨fun d hd=>?_,fun d hd he=>?_,fun d hd=>?_,?_⟩
 ·have:=h1.1;simp only[hd,Bool.or_eq_false_iff] at this;exact Lt this.1
 ·have:=h1.1;simp only[hd,he,Bool.or_eq_false_iff] at this;rw[Nat.beq_refl] at this;cases this.2
 ·have:=h1.2;simp only[hd] at this;exact Lt this
 ·cases hc:Ll C P x o
  ·exact .inl rfl
  ·rw[hc] at h2;right
   simpa using h2
theorem Hv.apart (ap:Hv C P ops x o)(h:Ll C P x o=false):Qv C P ops x o:=by
 unfold Ll at h;simp only[Bool.or_eq_false_iff,Bool.and_eq_false_iff] at h;refine⟨ap.xo,ap.ne,ap.ox,fun hm=>?_,fun hm=>?_⟩
 ·rcases h.1 with h|h
  ·rw[hm] at h;cases h
  ·exact h
 ·rcases h.2 with h|h
  ·rw[hm] at h;cases h
  ·exact h
theorem Hv.same (ap:Hv C P ops x o)(hk:Yu P x s s1)(hl:M0 P x.op=true->s1.hp=s.hp)(hM:K9 C P o.op=true)(hA:In o.op=false){i:Nat}(hi:s.hp i≠none):s1.hp i=s.hp i:=by
 rcases ap.me with h|h
 ·exact hk.2.2 ((ap.apart h).mo hM) i hi
 ·unfold Gg at h;rw[hA] at h;simp only[Bool.and_false,Bool.or_false,Bool.or_eq_true,Bool.and_eq_true] at h;rcases h with h|h
  ·have:=h.2;rw[G1 (C:=C) (P:=P) this] at hM;cases hM
  ·rw[hl h.2]
theorem GD.keepsS (h:GD C P o s)(ap:Hv C P ops x o)(hk:Yu P x s s1)(hl:M0 P x.op=true->s1.hp=s.hp):GD C P o s1:=by
 have PY:∀y∈o.op.operands.toList,A8 s1.tm y=A8 s.tm y:=fun y hy=>Dc (ops:=ops) (o:=o) (fun t ht=>hk.1 t fun hd=>ap.xo t hd ht) y hy
 refine⟨fun y hy i hi=>?_,fun hM hA y hy i hi c hc p hp k hkk=>?_⟩
 ·rw[PY y hy] at hi;exact hk.2.1 i (h.1 y hy i hi)
 ·rw[PY y hy] at hi;rw[ap.same hk hl hM hA (h.1 y hy i hi)] at hc;exact hk.2.1 k (h.2 hM hA y hy i hi c hc p hp k hkk)
theorem Hv.symm (ap:Hv C P ops x o):Hv C P ops o x:=by
 refine⟨ap.ox,fun d hd he=>ap.ne d he hd,ap.xo,?_⟩
 rcases ap.me with h|h
 ·left;unfold Ll at h ⊢;rw[Bool.or_comm];exact h
 ·right;rw[Pa];exact h
theorem Aei (hw:GD C P o s)(hwx:Gg C P x o=true->∀i∈H4 C P s x,s.hp i≠none)(ap:Hv C P ops x o)(hd:Gg C P x o=true->MS (H4 C P s x) (H4 C P s o)=true)
  (h:B3 C P N call ops x s (fun s1=>B3 C P N call ops o s1 K)=some r):B3 C P N call ops o s (fun s1=>B3 C P N call ops x s1 K)=some r:=by
 rcases ap.me with hm|hm
 ·exact Afq hw (ap.apart hm) h
 ·have hd:=hd hm;have hwx:=hwx hm;cases hx:Ea C P ops x s.tm
  ·cases ho:Ea C P ops o s.tm
   ·exact KI hw ap.xo ap.ne ap.ox hx ho h
   ·have YP:=My ho
    have hlx:Xn P ops x s.tm:=by
     cases hl:M0 P x.op
     ·right
      have hMx:K9 C P x.op=true:=by
       unfold Gg at hm;simp only[hl,Bool.and_false,Bool.or_false,Bool.or_eq_true,Bool.and_eq_true] at hm;rcases hm with hm|hm
       ·exact hm.1
       ·exact Z1 hm.1
      cases hv:Ec ops x s.tm with
      |none=>
       exfalso;rw[Gx hx] at h;unfold gE at h;rw[hv] at h;cases h
      |some b=>
       cases b
       ·rfl
       ·unfold Ea at hx;rw[hMx,hv] at hx;cases hx
     ·exact .inl hl
    refine ZD ap.xo ap.ne ap.ox hlx (fun y hy i hi hR=>?_) ho h
    refine Px hd (Uk ?_ hy hi) (P8 YP hR);unfold Gg at hm;simp only[Bool.or_eq_true,Bool.and_eq_true] at hm;rcases hm with (hm|hm)|hm
    ·exact .inl hm.1
    ·exact .inr hm.2
    ·exact .inl (Z1 hm.1)
  ·have hMx:=My hx;cases ho:Ea C P ops o s.tm
   ·have hlo:Xn P ops o s.tm:=by
     cases hl:M0 P o.op
     ·right
      have YP:K9 C P o.op=true:=by
       unfold Gg at hm;simp only[hl,Bool.and_false,Bool.false_or,Bool.or_eq_true,Bool.and_eq_true] at hm;rcases hm with hm|hm
       ·exact hm.1
       ·exact Z1 hm.2
      cases hv:Ec ops o s.tm with
      |none=>
       exfalso;obtain⟨s1,_,hk,_,h⟩:=Iz h;have VP:Ec ops o s1.tm=none:=by rw[G7 (fun t ht=>hk.1 t fun hd=>ap.xo t hd ht)];exact hv
       rw[Gx (by unfold Ea;rw[VP];cases K9 C P o.op<;>rfl)] at h
       unfold gE at h;rw[VP] at h;cases h
      |some b=>
       cases b
       ·rfl
       ·unfold Ea at ho;rw[YP,hv] at ho;cases ho
     ·exact .inl hl
    refine XW hw ap.xo ap.ne ap.ox hlo (fun y hy i hi hR=>?_) hx h
    refine Px hd (P8 hMx hR) (Uk ?_ hy hi);unfold Gg at hm;simp only[Bool.or_eq_true,Bool.and_eq_true] at hm;rcases hm with (hm|hm)|hm
    ·exact .inr hm.2
    ·exact .inl hm.1
    ·exact .inl (Z1 hm.2)
   ·have YP:=My ho;unfold Gg at hm;simp only[Bool.or_eq_true,Bool.and_eq_true] at hm;rcases hm with (hm|hm)|hm
    ·rw[G1 (C:=C) (P:=P) hm.2] at YP;cases YP
    ·rw[G1 (C:=C) (P:=P) hm.2] at hMx;cases hMx
    ·exact XM hw (fun y hy i hi=>hwx i (Uk (.inl hMx) hy hi)) ap.xo ap.ne ap.ox hm.1 hm.2 (fun i h1 h2=>Px hd (P8 hMx h1) (P8 YP h2)) hx ho h
theorem TF {α:Type}(a b:α)(l:List α)(f:α->Bool):(a::b::l).all f=(b::a::l).all f:=by
 simp only[List.all_cons];cases f a<;>cases f b<;>rfl
theorem Tf {bs:List (List Nat)}:∀(l:List Nat){dn dn':List (Nat × Oper × List Nat)} {s:St}{K:St->Option R},(∀f,dn.all f=dn'.all f)->Et C P N call ops bs dn l s K=Et C P N call ops bs dn' l s K
 |[],_,_,_,_,_=>rfl
 |i::l,dn,dn',s,K,h=>by
  unfold Et;cases ops[i]? with
  |none=>rfl
  |some o=>
   simp only[C7,h]
   congr 2
   funext s'
   exact Tf l fun f=>by simp only[List.all_cons,h]
theorem V1 {bs:List Nat}{i:Nat}(hi:ops[i]?=some o):(Sr C P ops bs).getD i []=Po C P ops bs i o:=by
 unfold Sr;rw[List.getD_eq_getElem?_getD,List.getElem?_map,List.getElem?_zipIdx,Array.getElem?_toList,hi];simp
theorem Ln {bs:List Nat}{i j:Nat}:j∈Po C P ops bs i o↔∃x,ops[j]?=some x∧Gg C P x o=true∧(Nat.blt j i&&(bs.getD i 0).testBit j)=false∧(Nat.blt i j&&(bs.getD j 0).testBit i)=false:=by
 unfold Po;simp only[List.mem_map,List.mem_filter,Bool.and_eq_true,Bool.not_eq_true',Prod.exists];constructor
 ·rintro⟨x,k,⟨hm,⟨h1,h2⟩,h3⟩,rfl⟩
  rw[List.mem_zipIdx_iff_getElem?] at hm;exact⟨x,by simpa using hm,h1,h2,h3⟩
 ·rintro⟨x,hx,h1,h2,h3⟩
  refine⟨x,j,⟨?_,⟨h1,h2⟩,h3⟩,rfl⟩;rw[List.mem_zipIdx_iff_getElem?]
  simpa using hx
theorem Ua {sm:List (List Nat)} {i j:Nat}(h:j∈sm.getD i []):Tr C P sm s i o=H4 C P s o:=by
 unfold Tr;split
 ·rename_i e;rw[e] at h;simp at h
 ·rfl
theorem SP {sm:List (List Nat)} {i:Nat}(h:sm.getD i []≠[]->H4 C P s1 o=H4 C P s o):Tr C P sm s1 i o=Tr C P sm s i o:=by
 unfold Tr;split
 ·rfl
 ·rename_i e;exact h (by rw[e];simp)
theorem JT {l:List Nat}{j:Nat}:l.any (Nat.beq j)=true↔j∈l:=by
 constructor
 ·intro h;obtain⟨k,hk,e⟩:=List.any_eq_true.1 h;rw[Nat.eq_of_beq_eq_true e];exact hk
 ·intro h;exact List.any_eq_true.2 ⟨j,h,Nat.beq_refl j⟩
theorem Qf {bs:List Nat}{sm:List (List Nat)} (hsm:sm=Sr C P ops bs){i:Nat}(hi:ops[i]?=some o) {l':List Nat}:∀(l:List Nat){dn:List (Nat × Oper × List Nat)} {s:St}{K:St->Option R},GD C P o s ->
  (∀j∈l,j<i∧(bs.getD i 0).testBit j=false∧∀x,ops[j]?=some x->Hv C P ops x o)->Et C P N call ops sm dn (l++i::l') s K=some r ->
  dn.all (Xc C P sm s i o)=true∧B3 C P N call ops o s (fun s1=>Et C P N call ops sm ((i,o,Tr C P sm s i o)::dn) (l++l') s1 K)=some r
 |[],dn,s,K,hw,_,h=>by
  simp only[List.nil_append] at h ⊢;unfold Et at h;rw[hi] at h;simp only[C7] at h;obtain⟨hb,h⟩:=Ae h;simp only[Bool.and_eq_true] at hb;exact⟨hb.1,h⟩
 |j::l,dn,s,K,hw,hl,h=>by
  simp only[List.cons_append] at h ⊢;unfold Et at h;obtain⟨hji,Nr,Mz⟩:=hl j (by simp)
  cases hj:ops[j]? with
  |none=>rw[hj] at h;cases h
  |some x=>
   rw[hj] at h;simp only[C7] at h;obtain⟨hb,h⟩:=Ae h;simp only[Bool.and_eq_true] at hb;have ap:=Mz x hj
   have hex:∀k∈Tr C P sm s j x,s.hp k≠none:=fun k hk=>by
    have:=List.all_eq_true.1 hb.2 k hk;intro e;rw[e] at this;cases this
   obtain⟨s1,e1,Ck,Us,h1⟩:=Iz h;obtain⟨ha,h2⟩:=Qf hsm hi l (hw.keepsS ap Ck Us) (fun k hk=>hl k (by simp[hk])) h1
   have Air:H4 C P s1 o=H4 C P s o:=FM (ops:=ops) (fun t ht=>Ck.1 t fun hd=>ap.xo t hd ht) fun hM hA y hy k hk=>ap.same Ck Us hM hA (hw.1 y hy k hk)
   have WX:Tr C P sm s1 i o=Tr C P sm s i o:=SP fun _=>Air
   rw[List.all_cons,Bool.and_eq_true] at ha
   have Afe:Nat.blt i j=false:=by
    cases hh:Nat.blt i j
    ·rfl
    ·have:=Nat.le_of_ble_eq_true hh;omega
   have hmi:Gg C P x o=true->j∈sm.getD i []:=fun hs=>by
    rw[hsm,V1 hi];exact Ln.2 ⟨x,hj,hs,by rw[Nr,Bool.and_false],by rw[Afe,Bool.false_and]⟩
   have hmj:Gg C P x o=true->i∈sm.getD j []:=fun hs=>by
    rw[hsm,V1 hj];exact Ln.2 ⟨o,hi,by rw[Pa];exact hs,by rw[Afe,Bool.false_and],by rw[Nr,Bool.and_false]⟩
   have Aay:Gg C P x o=true->MS (Tr C P sm s j x) (Tr C P sm s i o)=true:=by
    intro hs;have:=ha.1;unfold Xc at this;rw[JT.2 (hmi hs),WX] at this
    simpa using this
   have Jc:∀q,Xc C P sm s1 i o q=Xc C P sm s i o q:=fun q=>by unfold Xc;rw[WX]
   have I7:dn.all (Xc C P sm s i o)=true:=by
    refine List.all_eq_true.2 fun q hq=>?_
    rw[←Jc];exact List.all_eq_true.1 ha.2 q hq
   refine⟨I7,?_⟩;rw[WX] at h2
   have h3:=Aei hw (fun hs k hk=>hex k (by rw[Ua (hmj hs)];exact hk)) ap (fun hs=>by have:=Aay hs;rw[Ua (hmj hs),Ua (hmi hs)] at this;exact this)
    (Nf (K':=fun s1=>B3 C P N call ops o s1 (fun s2=>Et C P N call ops sm ((i,o,Tr C P sm s i o)::(j,x,Tr C P sm s j x)::dn) (l++l') s2 K)) e1 h2)
   obtain⟨s2,e2,C9,BP,h4⟩:=Iz h3;refine Nf e2 ?_
   have hr2:Tr C P sm s2 j x=Tr C P sm s j x:=SP fun G6=>by
    obtain⟨q,hq⟩:=List.exists_mem_of_ne_nil _ G6;refine FM (ops:=ops) (fun t ht=>C9.1 t fun hd=>ap.ox t hd ht) fun hM hA y hy k hk=>ap.symm.same C9 BP hM hA (hex k ?_)
    rw[Ua hq];exact Uk (.inl hM) hy hk
   unfold Et;rw[hj];simp only[C7]
   have hc:(((i,o,Tr C P sm s i o)::dn).all (Xc C P sm s2 j x)&&(Tr C P sm s2 j x).all fun k=>(s2.hp k).isSome)=true:=by
    simp only[List.all_cons,Bool.and_eq_true];refine⟨⟨?_,?_⟩,?_⟩
    ·unfold Xc;simp only[hr2];cases hs:(sm.getD j []).any (Nat.beq i)
     ·rfl
     ·have hm:=JT.1 hs;rw[hsm,V1 hj] at hm;obtain⟨o',DK,KT,_⟩:=Ln.1 hm;rw[hi] at DK;cases DK;rw[Pa] at KT;rw[OJ (Aay KT)];rfl
    ·refine List.all_eq_true.2 fun q hq=>?_
     have:=List.all_eq_true.1 hb.1 q hq;unfold Xc at this ⊢;rw[hr2];exact this
    ·rw[hr2];refine List.all_eq_true.2 fun k hk=>?_
     have:=C9.2.1 k (hex k hk);cases hh:s2.hp k with
     |none=>exact absurd hh this
     |some _=>rfl
   rw[hc,hr2];show B3 C P N call ops x s2 _=some r
   have:(fun s'=>Et C P N call ops sm ((j,x,Tr C P sm s j x)::(i,o,Tr C P sm s i o)::dn) (l++l') s' K)=fun s2=>Et C P N call ops sm ((i,o,Tr C P sm s i o)::(j,x,Tr C P sm s j x)::dn) (l++l') s2 K:=by
    funext s'
    exact Tf _ fun f=>TF _ _ _ f
   rw[this];exact h4
end
section
variable {R:Type} {r:R} {P:Program} {N:Nat} {w0:World} {X0:Ev} {Y:Nat->Prop} {β β':Bt} {s:St} {a:Act} {w w':World} {o:Oper} {ops:Array Oper} {C:Eg} {call:Al} {K:St->Option R}
theorem Of {bs:List Nat}:∀(l:List Oper)(n:Nat),Pt C P ops bs l n=true->∀(k:Nat) o,l[k]?=some o->∀(j:Nat) x,ops[j]?=some x->j<n+k->QI C P ops x o=true->(bs.getD (n+k) 0).testBit j=true
 |[],_,_,k,o,ho,_,_,_,_,_=>by simp at ho
 |o'::l,n,h,k,o,ho,j,x,hx,hj,J0=>by
  simp only[Pt,Bool.and_eq_true] at h;cases k with
  |zero=>
   simp at ho;subst ho
   have:=List.all_eq_true.1 h.1 (x,j) (by
    rw[List.mem_zipIdx_iff_getElem?]
    simpa using hx)
   simp only[J0,Bool.not_true,Bool.or_false,Bool.or_eq_true,Bool.not_eq_true'] at this;rcases this with h'|h'
   ·have:Nat.blt j n=true:=Nat.ble_eq_true_of_le (by omega)
    rw[this] at h';cases h'
   ·exact h'
  |succ k=>
   have:=Of l (n+1) h.2 k o (by simpa using ho) j x hx (by omega) J0
   rwa [show n+(k+1)=n+1+k by omega]
theorem AN {G:Glo}(G9:FQ P G w0 X0)(Ce:∀f args res,call f args=some res->Db G P f args res)(Jc:Ut C P ops=true){Q:Exit->Act->World->Prop}(hQ:∀s' a' w' β',K s'=some r->Bp N w0 X0 Y β' s' a' w'->Q .normal a' w'):
  ∀(fuel:Nat) {dn:List (Nat × Oper × List Nat)} {listed:Array Bool} {s:St} {a:Act} {w:World} {β:Bt},HeadInv .any ops ops.size listed->(Id ops.size listed).length=fuel->Bp N w0 X0 Y β s a w->Et C P N call ops (Sr C P ops (E7 ops.toList [])) dn (Id ops.size listed) s K=some r->wpAny P .any ops Q fuel listed a w:=by
 unfold Ut at Jc;simp only[Bool.and_eq_true] at Jc;obtain⟨VB,Ace⟩:=Jc;intro fuel
 induction fuel with
 |zero=>
  intro dn listed s a w β inv hf h hk;have hp:=List.eq_nil_of_length_eq_zero hf;rw[hp] at hk;refine⟨?_,hQ s a w β hk h⟩;cases hr:Region.ready .any ops listed with
  |nil=>rfl
  |cons i l=>
   exfalso;have hi:i∈Region.ready .any ops listed:=by rw[hr];simp
   obtain⟨F9,o,ho,_⟩:=mem_ready.1 hi;have:i∈Id ops.size listed:=F2.2 ⟨(Array.getElem?_eq_some_iff.1 ho).1,F9⟩;rw[hp] at this;simp at this
 |succ fuel ih=>
  intro dn listed s a w β inv hf h hk;refine⟨fun hr=>?_,fun i hi=>?_⟩
  ·rw[Yz VB inv hr] at hf;cases hf
  ·obtain⟨F9,o,ho,I7⟩:=mem_ready.1 hi;have Bk:i<ops.size:=(Array.getElem?_eq_some_iff.1 ho).1;obtain⟨l1,l2,h1,h2,h3⟩:=O5 (F2.2 ⟨Bk,F9⟩) inv.size;rw[h1] at hk
   have XH:∀j∈l1,((E7 ops.toList []).getD i 0).testBit j=false:=by
    intro j hj;cases Nr:((E7 ops.toList []).getD i 0).testBit j with
    |false=>rfl
    |true=>
     exfalso;have hjl:=Lc (listed:=listed) (fun j oj hj hl=>inv.closed j oj hj hl) ops.toList [] [] (by simp) rfl (by simp) i o ho I7 j Nr
     have:j∈Id ops.size listed:=by rw[h1];simp[hj]
     have:=getD_both (F2.1 this).2;rw[hjl] at this;cases this
   have Mz:∀j∈l1,j<i∧((E7 ops.toList []).getD i 0).testBit j=false∧∀x,ops[j]?=some x->Hv C P ops x o:=by
    intro j hj;refine⟨h3 j hj,XH j hj,fun x hxj=>OA ?_⟩
    cases J0:QI C P ops x o with
    |false=>rfl
    |true=>
     exfalso;have Nr:=Of ops.toList 0 Ace i o (by simpa using ho) j x hxj (by have:=h3 j hj;omega) J0
     rw[Nat.zero_add,XH j hj] at Nr;cases Nr
   obtain⟨s',XD,hn⟩:=O7 h G9 Ce ho (Qf rfl ho l1 (VH h o) Mz hk).2;refine hn _ _ fun a' w' β' h'=>ih (dn:=(i,o,Tr C P (Sr C P ops (E7 ops.toList [])) s i o)::dn) (inv.set hi Bk) ?_ h' ?_
   ·rw[h2];rw[h1] at hf;simp at hf ⊢;omega
   ·rw[h2];exact XD
theorem Tm (h:Bp N w0 X0 Y β s a w){G:Glo}(G9:FQ P G w0 X0)(Ce:∀f args res,call f args=some res->Db G P f args res)(hm:P.follows .mixedOrders=true)(Jc:Ut C P ops=true){Q:Exit->Act->World->Prop}
  (hk:Et C P N call ops (Sr C P ops (E7 ops.toList [])) [] (List.range ops.size) s K=some r) (hQ:∀s' a' w' β',K s'=some r->Bp N w0 X0 Y β' s' a' w'->Q .normal a' w'):wpAny P .any ops Q ops.size (Array.replicate ops.size false) a { w with drawn:=w.drawn+1 }:=by
 have hp:Id ops.size (Array.replicate ops.size false)=List.range ops.size:=by
  unfold Id;refine List.filter_eq_self.2 fun i hi=>?_
  have:=List.mem_range.1 hi;simp[this]
 refine AN (C:=C) (dn:=[]) G9 Ce Jc hQ ops.size ⟨by simp,fun j oj _ hl=>(by rw[getD_replicate_false] at hl;cases hl),fun t ht ht'=>by omega⟩ (by rw[hp];simp) h.drew ?_
 rw[hp];exact hk
theorem CZ (h:Bp N w0 X0 Y β s a w){G:Glo}(G9:FQ P G w0 X0)(Ce:∀f args res,call f args=some res->Db G P f args res)(hm:P.follows .mixedOrders=true)(Jc:Ut C P ops=true){id:Nat}{Q:Exit->Act->World->Prop}
  (hk:Et C P N call ops (Sr C P ops (E7 ops.toList [])) [] (List.range ops.size) s K=some r) (hQ:∀s' a' w' β',K s'=some r->Bp N w0 X0 Y β' s' a' w'->Q .normal a' w'):(Code.region id ops true).wp P Q a w:=
 wp_region_any hm (Tm h G9 Ce hm Jc hk hQ)
end
open Go.RowKit
section
variable {R:Type} {r:R} {N:Nat} {w0:World} {X0:Ev} {Y:Nat->Prop} {β β':Bt} {s:St} {a:Act} {w w':World}
theorem QS {i:Nat}(hi:i<a.tmps.size):a.put (some i) (a.tmps.getD i undef)=a:=by
 obtain⟨tmps,dfr⟩:=a;change i<tmps.size at hi
 have:tmps.setIfInBounds i (tmps.getD i undef)=tmps:=by
  apply Array.ext_getElem?;intro k;by_cases e:i=k
  ·subst e;simp[hi]
  ·rw[Array.getElem?_setIfInBounds_ne e]
 simp only[Act.put,this]
theorem KM {A:Nat->Prop}{es:Nat}{v:Value}(h:Ao w A (.lst true es 0 []) v):v=.slice none 0 0:=by
 cases h;rfl
theorem KL {id:Nat}(Ax:s.hp id=none){v:PV}{val:Value}(hv:Cp w (Bv (Aj s.hp [(id,.ar false [])]) (Bh β id none) Y) (Bh β id none) v val) (hr:∀i∈A5 v,s.hp i≠none∨i=id):
  Yd Y β s w v [(id,.ar false [])] val w (Bh β id none):=by
 refine⟨rfl,rfl,rfl,Bb.refl _ _,fun j hj=>Ad _ _ (by rintro rfl;exact hj Ax),?_,?_,?_,?_,?_,hv,?_⟩
 ·intro j bx hm;simp at hm;rw[hm.2];trivial
 ·intro j bx hm;simp at hm;obtain⟨rfl,rfl⟩:=hm;exact .inl ⟨Af _ _ _,rfl⟩
 ·intro j bx k q hm hq;simp at hm;obtain⟨rfl,rfl⟩:=hm;rw[Af] at hq;cases hq
 ·intro j bx j' bx' k q q' hm Hg _ _;simp at hm Hg;rw[hm.1,Hg.1]
 ·intro j cells hm;simp at hm
 ·intro j hj;rcases hr j hj with h|rfl
  ·exact .inl h
  ·exact .inr ⟨.ar false [],by simp⟩
theorem Xi (h:Bp N w0 X0 Y β s a w)(i:Nat):∃β',Bp N w0 X0 Y β' (Uc N s i) a w:=by
 unfold Uc;split
 ·rename_i es ht
  have Bk:i<N:=by
   rcases Nat.lt_or_ge i N with h'|h'
   ·exact h'
   ·rw[h.tmo i h'] at ht;cases ht
  have hv:=h.tms i Bk;rw[ht] at hv;have hv:=KM hv;have hd:Du N (some i)=true:=by simp[Du,Nat.blt];omega
  have go:∀j,s.hp j=none->∃β',Bp N w0 X0 Y β' ⟨Bh s.tm i (.view j es 0 0),Bh s.hp j (some (.ar false []))⟩ a w:=by
   intro j hn;have:=h.stepR (d:=some i) hd (by simp[A3,hn]) (KL (v:=.view j es 0 0) (val:=.slice none 0 0) hn (.inl ⟨Af _ _ _,rfl,rfl,none,rfl⟩) (by simp[A5,Be,Ai]))
   rw[←hv,QS (by rw[h.tsz];exact Bk)] at this
   exact⟨_,this⟩
  cases hn:(s.hp i).isNone
  ·cases VM:(s.hp (i+N*3000)).isNone
   ·exact⟨β,h⟩
   ·exact go _ (by simpa using VM)
  ·exact go _ (by simpa using hn)
 ·exact⟨β,h⟩
theorem Bp.recell (h:Bp N w0 X0 Y β s a w){id:Nat}{c c':List PV}(h0:s.hp id=some (.st c)) (hl:c'.length=c.length)
  (hc:∀(j:Nat) p,c'[j]?=some p->∃q,c[j]?=some q∧(∀v,A6 w (Bv s.hp β Y) β q v->A6 w (Bv s.hp β Y) β p v)∧∀i∈Ai p,s.hp i≠none):
  Bp N w0 X0 Y β ⟨s.tm,Bh s.hp id (some (.st c'))⟩ a w:=by
 have D3:∀i,Bu (Bh s.hp id (some (.st c')) i)↔Bu (s.hp i):=by
  intro i;by_cases e:i=id
  ·subst e;rw[Af,h0];exact Iff.rfl
  ·rw[Ad _ _ e]
 have hX:Zp (Bh s.hp id (some (.st c'))) β=Zp s.hp β:=by
  funext b
  apply propext;constructor
  ·rintro⟨i,o,hl,hb⟩;exact⟨i,o,(D3 i).1 hl,hb⟩
  ·rintro⟨i,o,hl,hb⟩;exact⟨i,o,(D3 i).2 hl,hb⟩
 have hA:Bv (Bh s.hp id (some (.st c'))) β Y=Bv s.hp β Y:=by
  funext b;unfold Bv;rw[hX]
 have G6:∀i,s.hp i≠none->Bh s.hp id (some (.st c')) i≠none:=by
  intro i hi;by_cases e:i=id
  ·subst e;rw[Af];simp
  ·rw[Ad _ _ e];exact hi
 have All:∀i,Bh s.hp id (some (.st c')) i≠none->s.hp i≠none:=by
  intro i hi;by_cases e:i=id
  ·subst e;rw[h0];simp
  ·rw[Ad _ _ e] at hi;exact hi
 refine⟨h.dfr,h.tsz,h.tmo,?_,?_,?_,?_,?_,?_,?_,?_,fun i hi=>⟨G6 _ (h.pin i hi).1,(h.pin i hi).2⟩,?_,?_,h.Ylt,h.fr⟩
 ·intro i hi;show Cp w (Bv (Bh s.hp id _) β Y) β _ _;rw[hA];exact h.tms i hi
 ·intro i b hb;show Lb w (Bv (Bh s.hp id _) β Y) β i b;rw[hA];by_cases e:i=id
  ·subst e;change Bh s.hp i (some (.st c')) i=some b at hb;rw[Af] at hb;cases hb;obtain⟨b,o,h1,h2,h3⟩:=h.box i _ h0;refine⟨b,o,h1,fun j p hj=>?_,fun j hj=>h3 j (by rw[←hl];exact hj)⟩
   obtain⟨q,hq,hqp,_⟩:=hc j p hj;obtain⟨v,hv,hr⟩:=h2 j q hq;exact⟨v,hv,hqp v hr⟩
  ·change Bh s.hp id (some (.st c')) i=some b at hb;rw[Ad _ _ e] at hb;exact h.box i b hb
 ·intro i i' b o o' hl Gc hb Ep;exact h.inj i i' b o o' ((D3 i).1 hl) ((D3 i').1 Gc) hb Ep
 ·intro i b o hn hb;exact h.blt i b o (All i hn) hb
 ·intro i hi j hj;exact G6 j (h.wfT i hi j hj)
 ·intro i cells hb p hp j hj;change Bh s.hp id (some (.st c')) i=_ at hb;by_cases e:i=id
  ·subst e;rw[Af] at hb;cases hb;obtain⟨k,hk⟩:=List.mem_iff_getElem?.1 hp;obtain⟨_,_,_,hr⟩:=hc k p hk;exact G6 j (hr j hj)
  ·rw[Ad _ _ e] at hb;exact G6 j (h.wfB i cells hb p hp j hj)
 ·intro b hb;exact h.ownd b (by rw[←hX];exact hb)
 ·intro i bx b o hb hlb hβ Bk j hj;change Bh s.hp id (some (.st c')) i=some bx at hb;by_cases e:i=id
  ·subst e;rw[Af] at hb;cases hb;exact h.rngB i _ b o h0 trivial hβ Bk j (by unfold BR at hj ⊢;simp only[hl] at hj;exact hj)
  ·rw[Ad _ _ e] at hb;exact h.rngB i bx b o hb hlb hβ Bk j hj
 ·intro i c1 b o hb hβ Bk;change Bh s.hp id (some (.st c')) i=_ at hb;by_cases e:i=id
  ·subst e;exact h.stp i c b o h0 hβ Bk
  ·rw[Ad _ _ e] at hb;exact h.stp i c1 b o hb hβ Bk
 ·intro b hY hb;exact h.Yx b hY (by rw[←hX];exact hb)
theorem Xo (h:Bp N w0 X0 Y β s a w)(id j:Nat):∃β',Bp N w0 X0 Y β' (Z8 N id s j) a w:=by
 unfold Z8;split
 ·rename_i c h0;split
  ·rename_i es hj;cases hn:(s.hp (id+N*(j+1))).isNone
   ·exact⟨β,h⟩
   ·have hn:s.hp (id+N*(j+1))=none:=by simpa using hn
    have G6:id≠id+N*(j+1):=by
     intro e;rw[←e,h0] at hn;cases hn
    have h1:=h.stepR (d:=none) (v:=.top) (val:=undef) rfl (by simp[A3,hn]) (KL hn (.top _) (by simp[A5,Be,Ai]))
    change Bp N w0 X0 Y (Bh β (id+N*(j+1)) none) ⟨s.tm,Bh s.hp (id+N*(j+1)) (some (.ar false []))⟩ a w at h1
    have h2:=h1.recell (id:=id) (c:=c) (c':=c.set j (.view (id+N*(j+1)) es 0 0)) (by show Bh _ _ _ _=_;rw[Ad _ _ G6];exact h0) (by simp) (by
     intro k p hp;by_cases e:k=j
     ·subst e
      have Bk:k<c.length:=by
       rcases Nat.lt_or_ge k c.length with h'|h'
       ·exact h'
       ·rw[List.getElem?_eq_none h'] at hj;cases hj
      rw[List.getElem?_set_self Bk] at hp;cases hp;refine⟨_,hj,fun v hv=>.inl ⟨Af _ _ _,rfl,rfl,none,KM hv⟩,fun i hi=>?_⟩
      simp[Ai] at hi;subst hi;show Bh _ _ _ _≠none;rw[Af];simp
     ·rw[List.getElem?_set_ne (fun h=>e h.symm)] at hp
      refine⟨p,hp,fun _ hv=>hv,fun i hi=>?_⟩
      have:=h.wfB id c h0 p (List.mem_of_getElem? hp) i hi;show Bh _ _ _ _≠none;by_cases e':i=id+N*(j+1)
      ·subst e';rw[Af];simp
      ·rw[Ad _ _ e'];exact this)
    refine⟨Bh β (id+N*(j+1)) none,?_⟩;have e3:Bh (Bh s.hp (id+N*(j+1)) (some (.ar false []))) id (some (.st (c.set j (.view (id+N*(j+1)) es 0 0))))=Bh (Bh s.hp id (some (.st (c.set j (.view (id+N*(j+1)) es 0 0))))) (id+N*(j+1)) (some (.ar false [])):=FP _ _ _ (fun h=>G6 h.symm)
    change Bp N w0 X0 Y (Bh β (id+N*(j+1)) none) ⟨s.tm,Bh (Bh s.hp (id+N*(j+1)) (some (.ar false []))) id (some (.st (c.set j (.view (id+N*(j+1)) es 0 0))))⟩ a w at h2;rw[e3] at h2;exact h2
  ·exact⟨β,h⟩
 ·exact⟨β,h⟩
theorem Jt {f:St->Nat->St}(hf:∀s β,Bp N w0 X0 Y β s a w->∀i,∃β',Bp N w0 X0 Y β' (f s i) a w):∀(l:List Nat){s:St}{β:Bt},Bp N w0 X0 Y β s a w->∃β',Bp N w0 X0 Y β' (l.foldl f s) a w
 |[],_,β,h=>⟨β,h⟩
 |i::l,s,β,h=>by
  obtain⟨β1,h1⟩:=hf s β h i;exact Jt hf l h1
theorem BA (h:Bp N w0 X0 Y β s a w)(i:Nat):∃β',Bp N w0 X0 Y β' (Zu N s i) a w:=by
 unfold Zu;split
 ·split
  ·exact Jt (fun s β h i=>Xo h _ i) _ h
  ·exact⟨β,h⟩
 ·exact⟨β,h⟩
theorem Y3:∀{m:List (Nat × Nat)},Cj (m.map (·.2))=true->∀{i i' j:Nat},(i,j)∈m->(i',j)∈m->i=i'
 |[],_,_,_,_,h,_=>by simp at h
 |(x,y)::m,hn,i,i',j,h,h'=>by
  simp only[List.map_cons,Cj,Bool.and_eq_true,Bool.not_eq_true'] at hn
  have hy:∀k,(k,y) ∉ m:=by
   intro k hk;exact Lt hn.1 (List.mem_map.2 ⟨(k,y),hk,rfl⟩)
  rcases List.mem_cons.1 h with e|h
  ·cases e;rcases List.mem_cons.1 h' with e|h'
   ·cases e;rfl
   ·exact absurd h' (hy _)
  ·rcases List.mem_cons.1 h' with e|h'
   ·cases e;exact absurd h (hy _)
   ·exact Y3 hn.2 h h'
theorem R2:∀{m:List (Nat × Nat)},Cj (m.map (·.1))=true->∀{i j j':Nat},(i,j)∈m->(i,j')∈m->j=j'
 |[],_,_,_,_,h,_=>by simp at h
 |(x,y)::m,hn,i,j,j',h,h'=>by
  simp only[List.map_cons,Cj,Bool.and_eq_true,Bool.not_eq_true'] at hn
  have hx:∀k,(x,k) ∉ m:=by
   intro k hk;exact Lt hn.1 (List.mem_map.2 ⟨(x,k),hk,rfl⟩)
  rcases List.mem_cons.1 h with e|h
  ·cases e;rcases List.mem_cons.1 h' with e|h'
   ·cases e;rfl
   ·exact absurd h' (hx _)
  ·rcases List.mem_cons.1 h' with e|h'
   ·cases e;exact absurd h (hx _)
   ·exact R2 hn.2 h h'
theorem Ic {i j:Nat}(h:Nat.beq i j=false):i≠j:=by rintro rfl;rw[Nat.beq_refl] at h;cases h
theorem Qy:∀{m:List (Nat × Nat)} {i j:Nat},N9 m i=some j->(i,j)∈m
 |[],_,_,h=>by cases h
 |(x,y)::m,i,j,h=>by
  unfold N9 at h;cases hb:Nat.beq i x<;>rw[hb] at h
  ·exact List.mem_cons_of_mem _ (Qy h)
  ·have:=Nat.eq_of_beq_eq_true hb;cases h;rw[this];simp
theorem Rn {m:List (Nat × Nat)} {hp:Nat->Option A1}:∀{l:List (Nat × Nat)} {j:Nat}{b:A1},E5 (H8 m hp l) j=some b->∃i b0,(i,j)∈l∧hp i=some b0∧b=YJ m b0
 |[],_,_,h=>by cases h
 |(x,y)::l,j,b,h=>by
  unfold H8 at h;cases hx:hp x with
  |none=>
   rw[hx] at h;obtain⟨i,b0,h1,h2⟩:=Rn h;exact⟨i,b0,List.mem_cons_of_mem _ h1,h2⟩
  |some bx=>
   rw[hx] at h;simp only[E5] at h;cases hb:Nat.beq j y<;>rw[hb] at h
   ·obtain⟨i,b0,h1,h2⟩:=Rn h;exact⟨i,b0,List.mem_cons_of_mem _ h1,h2⟩
   ·have:=Nat.eq_of_beq_eq_true hb;subst this;cases h;exact⟨x,bx,by simp,hx,rfl⟩
theorem Iw {m:List (Nat × Nat)} {hp:Nat->Option A1}:∀{l:List (Nat × Nat)} {i j:Nat},(i,j)∈l->hp i≠none->E5 (H8 m hp l) j≠none
 |[],_,_,h,_=>by simp at h
 |(x,y)::l,i,j,h,hi=>by
  unfold H8;cases hx:hp x with
  |none=>
   rcases List.mem_cons.1 h with e|h
   ·cases e;exact absurd hx hi
   ·exact Iw h hi
  |some bx=>
   simp only[E5];cases hb:Nat.beq j y
   ·rcases List.mem_cons.1 h with e|h
    ·cases e;exact absurd rfl (Ic hb)
    ·exact Iw h hi
   ·simp
def W6 (m:List (Nat × Nat)) (j:Nat):Option Nat:=
 match m with
 |[]=>none
 |(x,y)::r=>bif Nat.beq j y then some x else W6 r j
theorem JV:∀{m:List (Nat × Nat)} {i j:Nat},W6 m j=some i->(i,j)∈m
 |[],_,_,h=>by cases h
 |(x,y)::m,i,j,h=>by
  unfold W6 at h;cases hb:Nat.beq j y<;>rw[hb] at h
  ·exact List.mem_cons_of_mem _ (JV h)
  ·have:=Nat.eq_of_beq_eq_true hb;cases h;rw[this];simp
theorem EF:∀{m:List (Nat × Nat)} {i j:Nat},(i,j)∈m->∃k,W6 m j=some k
 |[],_,_,h=>by simp at h
 |(x,y)::m,i,j,h=>by
  unfold W6;cases hb:Nat.beq j y
  ·rcases List.mem_cons.1 h with e|h
   ·cases e;exact absurd rfl (Ic hb)
   ·exact EF h
  ·exact⟨x,rfl⟩
theorem Z4 {f:Nat->PV}:∀{l:List Nat}{i:Nat},lk (l.map fun i=>(i,f i)) i=if i∈l then f i else .top
 |[],_=>rfl
 |x::l,i=>by
  simp only[List.map_cons,lk];cases hb:Nat.beq i x
  ·have:=Ic hb;simp only[cond_false,Z4,List.mem_cons,this,false_or]
  ·have:=Nat.eq_of_beq_eq_true hb;subst this;simp
theorem Y6 {m:Nat}:∀{n i:Nat},i∈Ht m n->i<n
 |0,_,h=>by simp[Ht] at h
 |n+1,i,h=>by
  simp only[Ht,List.mem_append] at h;rcases h with h|h
  ·have:=Y6 h;omega
  ·cases hb:m.testBit n<;>rw[hb] at h
   ·simp at h
   ·simp at h;omega
theorem AZ (h:Bp N w0 X0 Y β s a w){m:List (Nat × Nat)} (h1:Cj (m.map (·.1))=true) (h2:Cj (m.map (·.2))=true) {ls:List Nat}(hls:∀i∈ls,i<N)(hpn:∀i,X0.pn i->(Bz N i,Bz N i)∈m):
  ∃β',Bp N w0 X0 Y β' ⟨lk (ls.map fun i=>(i,MY m (s.tm i))),E5 (H8 m s.hp m)⟩ a w:=by
 refine⟨fun j=>(W6 m j).bind β,?_⟩
 have hβ:∀{i j:Nat},(i,j)∈m->(W6 m j).bind β=β i:=by
  intro i j hm;obtain⟨k,hk⟩:=EF hm;rw[hk];have:=Y3 h2 (JV hk) hm;subst this;rfl
 have hold:∀{j:Nat} {b:A1},E5 (H8 m s.hp m) j=some b->∃i b0,(i,j)∈m∧s.hp i=some b0∧b=YJ m b0∧(W6 m j).bind β=β i:=by
  intro j b hb;obtain⟨i,b0,hm,h3,h4⟩:=Rn hb;exact⟨i,b0,hm,h3,h4,hβ hm⟩
 have D3:∀{j:Nat},Bu (E5 (H8 m s.hp m) j)->∃i,(i,j)∈m∧Bu (s.hp i)∧(W6 m j).bind β=β i:=by
  intro j hl;cases hb:E5 (H8 m s.hp m) j with
  |none=>rw[hb] at hl;exact hl.elim
  |some b=>
   obtain⟨i,b0,hm,h3,rfl,h5⟩:=hold hb;refine⟨i,hm,?_,h5⟩;rw[hb] at hl;rw[h3];cases b0<;>exact hl
 have hX:∀b,Zp (E5 (H8 m s.hp m)) (fun j=>(W6 m j).bind β) b->Zp s.hp β b:=by
  rintro b ⟨j,o,hl,hb⟩
  obtain⟨i,_,Gc,e⟩:=D3 hl;exact⟨i,o,Gc,by rw[←e];exact hb⟩
 have hA:∀b,Bv (E5 (H8 m s.hp m)) (fun j=>(W6 m j).bind β) Y b->Bv s.hp β Y b:=fun b hb=>hb.imp (hX b) id
 have hC:∀p v,A6 w (Bv s.hp β Y) β p v->A6 w (Bv (E5 (H8 m s.hp m)) (fun j=>(W6 m j).bind β) Y) (fun j=>(W6 m j).bind β) (JC m p) v:=by
  intro p v hp;cases p with
  |view id es off n=>
   show A6 _ _ _ (match N9 m id with|some j=>.view j es off n|none=>.top) v
   cases hj:N9 m id with
   |some j=>
    have e:=hβ (Qy hj);rcases hp with⟨e1,e2⟩|⟨b,o,x,cap,e1,e2⟩
    ·exact .inl ⟨by show (W6 m j).bind β=none;rw[e];exact e1,e2⟩
    ·exact .inr ⟨b,o,x,cap,by show (W6 m j).bind β=_;rw[e];exact e1,e2⟩
   |none=>exact Ao.top _
  |ptr id off=>
   show A6 _ _ _ (match N9 m id with|some j=>.ptr j off|none=>.top) v
   cases hj:N9 m id with
   |some j=>
    have e:=hβ (Qy hj);obtain⟨b,o,e1,e2⟩:=hp;exact⟨b,o,by show (W6 m j).bind β=_;rw[e];exact e1,e2⟩
   |none=>exact Ao.top _
  |sc v=>exact Ao.step (Bb.refl _ _) (fun b _=>hA b) hp
  |lst z es n c=>exact Ao.step (Bb.refl _ _) (fun b _=>hA b) hp
  |iptr c off=>exact A6.step (p:=.iptr c off) (Bb.refl _ _) (fun b _=>hA b) (by simp[Ai]) hp
  |_=>exact Ao.top _
 have hV:∀p v,Cp w (Bv s.hp β Y) β p v->Cp w (Bv (E5 (H8 m s.hp m)) (fun j=>(W6 m j).bind β) Y) (fun j=>(W6 m j).bind β) (MY m p) v:=by
  intro p v hp;cases p with
  |agg c=>
   obtain⟨vs,e1,e2⟩:=hp;refine⟨vs,e1,Au.of_at (by simp;exact e2.len) fun i q u hq hu=>?_⟩
   rw[List.getElem?_map] at hq;cases hc:c[i]? with
   |none=>rw[hc] at hq;cases hq
   |some q0=>
    rw[hc] at hq;cases hq;exact hC _ _ (e2.at_ hc hu)
  |view id es off n=>
   have:=hC (.view id es off n) v hp;change A6 _ _ _ (match N9 m id with|some j=>.view j es off n|none=>.top) v at this
   show Cp _ _ _ (match N9 m id with|some j=>.view j es off n|none=>.top) v
   cases hj:N9 m id<;>rw[hj] at this<;>exact this
  |ptr id off=>
   have:=hC (.ptr id off) v hp;change A6 _ _ _ (match N9 m id with|some j=>.ptr j off|none=>.top) v at this
   show Cp _ _ _ (match N9 m id with|some j=>.ptr j off|none=>.top) v
   cases hj:N9 m id<;>rw[hj] at this<;>exact this
  |sc v'=>exact hC (.sc v') v hp
  |lst z es n c=>exact hC (.lst z es n c) v hp
  |iptr c off=>exact hC (.iptr c off) v hp
  |_=>exact Ao.top _
 have hrC:∀p i,i∈Ai (JC m p)->∃k∈Ai p,(k,i)∈m:=by
  intro p i hi;cases p with
  |view id es off n=>
   change i∈Ai (match N9 m id with|some j=>.view j es off n|none=>.top) at hi
   cases hj:N9 m id<;>rw[hj] at hi
   ·simp[Ai] at hi
   ·simp[Ai] at hi;subst hi;exact⟨id,by simp[Ai],Qy hj⟩
  |ptr id off=>
   change i∈Ai (match N9 m id with|some j=>.ptr j off|none=>.top) at hi
   cases hj:N9 m id<;>rw[hj] at hi
   ·simp[Ai] at hi
   ·simp[Ai] at hi;subst hi;exact⟨id,by simp[Ai],Qy hj⟩
  |_=>simp[JC,Ai] at hi
 have hrV:∀p i,i∈A5 (MY m p)->∃k∈A5 p,(k,i)∈m:=by
  intro p i hi;cases p with
  |agg c=>
   simp only[MY,A5,Be,List.mem_flatMap,List.mem_map] at hi;obtain⟨_,⟨q,hq,rfl⟩,hi⟩:=hi;obtain⟨k,hk,hm⟩:=hrC q i hi;exact⟨k,by simp only[A5,Be,List.mem_flatMap];exact⟨q,hq,hk⟩,hm⟩
  |view id es off n=>
   refine (hrC (.view id es off n) i ?_).imp fun k hk=>hk
   change i∈A5 (match N9 m id with|some j=>.view j es off n|none=>.top) at hi
   show i∈Ai (match N9 m id with|some j=>.view j es off n|none=>.top)
   cases hj:N9 m id<;>rw[hj] at hi<;>exact hi
  |ptr id off=>
   refine (hrC (.ptr id off) i ?_).imp fun k hk=>hk
   change i∈A5 (match N9 m id with|some j=>.ptr j off|none=>.top) at hi
   show i∈Ai (match N9 m id with|some j=>.ptr j off|none=>.top)
   cases hj:N9 m id<;>rw[hj] at hi<;>exact hi
  |_=>simp[MY,JC,A5,Be,Ai] at hi
 refine⟨h.dfr,h.tsz,?_,?_,?_,?_,?_,?_,?_,?_,?_,?_,?_,?_,h.Ylt,h.fr⟩
 ·intro i hi;show lk _ i=_;rw[Z4,if_neg (fun hm=>by have:=hls i hm;omega)]
 ·intro i hi;show Cp w _ _ (lk _ i) _;rw[Z4];split
  ·exact hV _ _ (h.tms i hi)
  ·exact Ao.top _
 ·intro j b hb;obtain⟨i,b0,hm,h3,rfl,e⟩:=hold hb;have Hy:=h.box i b0 h3;cases b0 with
  |st c=>
   obtain⟨b,o,e1,e2,e3⟩:=Hy;refine⟨b,o,by show (W6 m j).bind β=_;rw[e];exact e1,fun k p hp=>?_,fun k hk=>e3 k (by simpa using hk)⟩
   rw[List.getElem?_map] at hp;cases hc:c[k]? with
   |none=>rw[hc] at hp;cases hp
   |some q=>
    rw[hc] at hp;cases hp;obtain⟨v,hv,hr⟩:=e2 k q hc;exact⟨v,hv,hC _ _ hr⟩
  |ar fz c=>
   have:=Lb.step' hA Hy;show Lb _ _ _ _ (.ar fz c);rcases this with⟨e1,e2⟩|⟨b,o,e1,e2⟩
   ·exact .inl ⟨by show (W6 m j).bind β=_;rw[e];exact e1,e2⟩
   ·exact .inr ⟨b,o,by show (W6 m j).bind β=_;rw[e];exact e1,e2⟩
  |mv=>exact trivial
 ·intro j j' b o o' hl Gc hb Ep;obtain⟨i,hm,Us,e⟩:=D3 hl;obtain⟨i',Hg,Aiw,e'⟩:=D3 Gc;have:=h.inj i i' b o o' Us Aiw (by rw[←e];exact hb) (by rw[←e'];exact Ep)
  subst this;exact R2 h1 hm Hg
 ·intro j b o hn hb;cases hj:E5 (H8 m s.hp m) j with
  |none=>exact absurd hj hn
  |some bx=>
   obtain⟨i,b0,_,h3,_,e⟩:=hold hj;exact h.blt i b o (by rw[h3];simp) (by rw[←e];exact hb)
 ·intro i hi j hj;change j∈A5 (lk _ i) at hj;rw[Z4] at hj;split at hj
  ·obtain⟨k,hk,hm⟩:=hrV _ j hj;exact Iw hm (h.wfT i hi k hk)
  ·simp[A5,Be,Ai] at hj
 ·intro j cells hb p hp k hk;obtain⟨i,b0,_,h3,h4,_⟩:=hold hb;cases b0 with
  |st c=>
   cases h4;obtain⟨q,hq,rfl⟩:=List.mem_map.1 hp;obtain⟨k',Hp,hm⟩:=hrC q k hk;exact Iw hm (h.wfB i c h3 q hq k' Hp)
  |ar fz c=>cases h4
  |mv=>cases h4
 ·intro b hb;exact h.ownd b (hX b hb)
 ·intro j bx b o hb hlb hβ1 Bk k hk;obtain⟨i,b0,_,h3,h4,e⟩:=hold hb;subst h4;refine h.rngB i b0 b o h3 ?_ (by rw[←e];exact hβ1) Bk k ?_
  ·cases b0<;>exact hlb
  ·cases b0 with
   |st c=>simpa [BR,YJ] using hk
   |ar fz c=>exact hk
   |mv=>exact hk
 ·intro i hi;exact⟨Iw (hpn i hi) (h.pin i hi).1,(hβ (hpn i hi)).trans (h.pin i hi).2⟩
 ·intro j c b o hb hβ1 Bk;obtain⟨i,b0,hm,h3,h4,e⟩:=hold hb;cases b0 with
  |st c0=>
   obtain⟨k,rfl,hk⟩:=h.stp i c0 b o h3 (by rw[←e];exact hβ1) Bk
   exact⟨k,R2 h1 hm (hpn k hk),hk⟩
  |ar fz c0=>cases h4
  |mv=>cases h4
 ·intro b hY hb;exact h.Yx b hY (hX b hb)
theorem Nj {m:List (Nat × Nat)} {q:Nat × Nat}{o n:Nat}(h:q∈m):q∈Yh m o n:=by
 unfold Yh;split
 ·exact h
 ·exact List.mem_append.2 (.inl h)
theorem Hj {q:Nat × Nat}{new:Nat}:∀{c:List PV}{j:Nat}{m:List (Nat × Nat)},q∈m->q∈Lg N new c j m
 |[],_,_,h=>h
 |p::c,j,m,h=>by
  unfold Lg;split
  ·rename_i e;cases e
  ·rename_i e;cases e;exact Hj (Nj h)
  ·rename_i e;cases e;exact Hj h
theorem EI {q:Nat × Nat}{m:List (Nat × Nat)} {i:Nat}(h:q∈m):q∈Uf N s m i:=by
 unfold Uf;split
 ·exact Nj h
 ·split
  ·exact h
  ·split
   ·exact Hj (Nj h)
   ·exact Nj h
 ·exact Hj h
 ·exact h
theorem P9 {q:Nat × Nat}:∀{l:List Nat}{m:List (Nat × Nat)},q∈m->q∈l.foldl (Uf N s) m
 |[],_,h=>h
 |_::l,_,h=>P9 (l:=l) (EI h)
theorem Lf {q:Nat × Nat}{m:List (Nat × Nat)} (h:q∈m):∀k,q∈Mk N s.hp k m
 |0=>h
 |k+1=>by
  unfold Mk;split
  ·exact Hj (Lf h k)
  ·exact Lf h k
theorem Yr:∀{k i:Nat},i<k->s.hp (Bz N i)≠none->(Bz N i,Bz N i)∈CN N s.hp k
 |0,_,h,_=>by omega
 |k+1,i,h,hn=>by
  unfold CN;by_cases e:i=k
  ·subst e
   have:(s.hp (Bz N i)).isSome=true:=by
    cases hq:s.hp (Bz N i) with
    |none=>exact absurd hq hn
    |some b=>rfl
   rw[this];simp
  ·have:=Yr (k:=k) (i:=i) (by omega) hn
   cases (s.hp (Bz N k)).isSome
   ·exact this
   ·exact List.mem_append.2 (.inl this)
theorem So (h:Bp N w0 X0 Y β s a w){L:Nat}{q:Bool}{K:St->Option R}(hk:JO N (Ht L N) q s K=some r):∃β' s',K s'=some r∧Bp N w0 X0 Y β' s' a w:=by
 unfold JO at hk;obtain⟨hb,Ck⟩:=Ae hk;simp only[Bool.and_eq_true] at hb
 obtain⟨β2,h2⟩:∃β2,Bp N w0 X0 Y β2 (bif q then s else (Ht L N).foldl (Zu N) ((Ht L N).foldl (Uc N) s)) a w:=by
  cases q
  ·obtain⟨β1,h1⟩:=Jt (fun s β h i=>Xi h i) (Ht L N) h
   obtain⟨β2,h2⟩:=Jt (fun s β h i=>BA h i) (Ht L N) h1
   exact⟨β2,h2⟩
  ·exact⟨β,h⟩
 obtain⟨β3,h3⟩:=AZ h2 hb.1 hb.2 (ls:=Ht L N) (fun i hi=>Y6 hi) (fun i hi=>P9 (Lf (Yr (X0.p8 i hi) (h2.pin i hi).1) 8))
 exact⟨β3,_,Ck,h3⟩
theorem Mh (h:Bp N w0 X0 Y β s a w){L:Nat}{K:St->Option R}(hk:Q0 N L s K=some r):∃β' s',K s'=some r∧Bp N w0 X0 Y β' s' a w:=So h hk
theorem EB (h:Bp N w0 X0 Y β s a w){L:Nat}{K:St->Option R}(hk:KW N L s K=some r):∃β' s',K s'=some r∧Bp N w0 X0 Y β' s' a w:=So h hk
end
open Go.RowKit
section
variable {R:Type} {r:R} {P:Program} {N:Nat} {w0:World} {X0:Ev} {Y:Nat->Prop} {C:Eg} {call:Al}
theorem Ye {n:Nat}{F:St->Option R}{s:St}(h:Wn n F s=some r):F s=some r:=by
 unfold Wn at h;split at h
 ·cases h
 ·exact h
theorem CV {β:Bt}{s:St}{a:Act}{w:World}(h:Bp N w0 X0 Y β s a w){c:Operand}{kt kf:St->Option R}(hk:TS s c kt kf=some r):(a.eval c=.bool true∧kt s=some r)∨(a.eval c=.bool false∧kf s=some r):=by
 unfold TS at hk;split at hk
 ·rename_i d;split at hk
  ·rename_i b ht;have hv:a.eval (.tmp d)=.bool b:=Bj h (x:=.tmp d) ht;cases b
   ·change kf ⟨Bh s.tm d (.sc (.bool false)),s.hp⟩=some r at hk;rw[Pr s.tm ht] at hk;exact .inr ⟨hv,hk⟩
   ·change kt ⟨Bh s.tm d (.sc (.bool true)),s.hp⟩=some r at hk;rw[Pr s.tm ht] at hk;exact .inl ⟨hv,hk⟩
  ·rename_i ht;have hu:=Bs h (.tmp d);change Cp _ _ _ (s.tm d) _ at hu;rw[ht] at hu;have Fs:Ao w _ .ub (a.eval (.tmp d)):=hu
   obtain⟨b,hv⟩:∃b,a.eval (.tmp d)=.bool b:=by
    generalize a.eval (.tmp d)=x at Fs;cases Fs with
    |ub b=>exact⟨b,rfl⟩
   obtain⟨h1,h2⟩:=Yj hk;cases b
   ·exact .inr ⟨hv,h2⟩
   ·exact .inl ⟨hv,h1⟩
  ·cases hk
 ·exact .inl ⟨rfl,hk⟩
 ·exact .inr ⟨rfl,hk⟩
 ·cases hk
theorem Vq {c:Code}{Q:Exit->Act->World->Prop}{F:(St->Option R)->St->Option R} {nm:St->(St->Option R)->Option R}
  (BN:∀{β s a w} {K:St->Option R},Bp N w0 X0 Y β s a w->nm s K=some r->∃β' s',K s'=some r∧Bp N w0 X0 Y β' s' a w)
  (hF:∀{β s a w} {K:St->Option R}{Q':Act->World->Prop},Bp N w0 X0 Y β s a w->F K s=some r->(∀s' a' w' β',K s'=some r->Bp N w0 X0 Y β' s' a' w'->Q' a' w')->c.wp P (Exit.then Q' Q) a w):
  ∀(n:Nat) {β s a w},Bp N w0 X0 Y β s a w->RQ F nm n s=some r->Code.rounds P c Q n a w
 |0,_,_,_,_,_,hk=>by cases hk
 |n+1,β,s,a,w,h,hk=>by
  rw[rounds_succ];refine hF h hk fun s' a' w' β' Hp h'=>?_
  obtain⟨β1,s1,Ck,h1⟩:=BN h' Hp;exact Vq BN hF n h1 Ck
theorem GQ {G:Glo}(G9:FQ P G w0 X0)(Ce:∀f args res,call f args=some res->Db G P f args res)(hm:P.follows .mixedOrders=true){fu:Nat}:
  ∀(c:Code) {ln:Nat} {lx:Nat->Nat} {lr:Nat} {kn:St->Option R} {kx:Nat->St->Option R} {kr:St->Option R} {β:Bt} {s:St} {a:Act} {w:World} {Q:Exit->Act->World->Prop},Bp N w0 X0 Y β s a w ->
   Jz C P fu N call c ln lx lr kn kx kr s=some r->(∀s' a' w' β',kn s'=some r->Bp N w0 X0 Y β' s' a' w'->Q .normal a' w') ->
   (∀id s' a' w' β',kx id s'=some r->Bp N w0 X0 Y β' s' a' w'->Q (.exit id) a' w')->(∀s' a' w' β',kr s'=some r->Bp N w0 X0 Y β' s' a' w'->Q .ret a' w')->c.wp P Q a w:=by
 intro c
 induction c with
 |skip=>intro ln lx lr kn kx kr β s a w Q h hk hn hx hr;exact wp_skip (hn s a w β hk h)
 |region id ops draw=>
  intro ln lx lr kn kx kr β s a w Q h hk hn hx hr;unfold Jz at hk;cases draw
  ·simp only[EO,Bool.false_and,cond_false] at hk;exact AC h G9 Ce hk hn
  ·simp only[EO,Aam,Bool.true_and,cond_true] at hk;cases hb:Yk C P ops<;>rw[hb] at hk
   ·obtain⟨Ep,Ck⟩:=Ae (show As _ _=some r from hk)
    exact CZ h G9 Ce hm Ep Ck hn
   ·exact Z2 h G9 Ce hm hb hk hn
 |seq c1 c2 ih1 ih2=>
  intro ln lx lr kn kx kr β s a w Q h hk hn hx hr;unfold Jz at hk
  refine wp_seq (ih1 h hk (fun s' a' w' β' Hp h'=>by
    cases hc:UN P c1 c2
    ·rw[hc] at Hp;exact ih2 h' Hp hn hx hr
    ·rw[hc] at Hp;cases hq:Ul c1 c2
     ·rw[hq] at Hp;obtain⟨β1,s1,Ck,h1⟩:=Mh h' (show Q0 _ _ _ _=some r from Hp)
      exact ih2 h1 (Ye Ck) hn hx hr
     ·rw[hq] at Hp;obtain⟨β1,s1,Ck,h1⟩:=EB h' (show KW _ _ _ _=some r from Hp)
      exact ih2 h1 (Ye Ck) hn hx hr) (fun id s' a' w' β' Hp h'=>hx id s' a' w' β' Hp h') (fun s' a' w' β' Hp h'=>hr s' a' w' β' Hp h'))
 |cond c c1 c2 ih1 ih2=>
  intro ln lx lr kn kx kr β s a w Q h hk hn hx hr;unfold Jz at hk;rcases CV h hk with⟨hc,Ck⟩|⟨hc,Ck⟩
  ·exact wp_cond_true hc (ih1 h Ck hn hx hr)
  ·exact wp_cond_false hc (ih2 h Ck hn hx hr)
 |block id c ih=>
  intro ln lx lr kn kx kr β s a w Q h hk hn hx hr;unfold Jz at hk;refine wp_block (ih h hk (fun s' a' w' β' Hp h'=>hn s' a' w' β' Hp h') (fun j s' a' w' β' Hp h'=>?_) (fun s' a' w' β' Hp h'=>hr s' a' w' β' Hp h'))
  show (if j=id then _ else _)
  by_cases e:j=id
  ·subst e;rw[if_pos rfl];rw[Nat.beq_refl] at Hp;exact hn s' a' w' β' Hp h'
  ·rw[if_neg e]
   have:Nat.beq j id=false:=by
    cases hb:Nat.beq j id
    ·rfl
    ·exact absurd (Nat.eq_of_beq_eq_true hb) e
   rw[this] at Hp;exact hx j s' a' w' β' Hp h'
 |loop c ih=>
  intro ln lx lr kn kx kr β s a w Q h hk hn hx hr;unfold Jz at hk;obtain⟨β1,s1,Ck,h1⟩:=Mh h hk;refine wp_loop_rounds fu (Vq (fun h hk=>Mh h hk) (fun h hk hQ=>?_) fu h1 Ck)
  exact ih h hk hQ (fun id s' a' w' β' Hp h'=>hx id s' a' w' β' Hp h') (fun s' a' w' β' Hp h'=>hr s' a' w' β' Hp h')
 |«exit» id=>intro ln lx lr kn kx kr β s a w Q h hk hn hx hr;exact wp_exit (hx id s a w β hk h)
 |ret=>intro ln lx lr kn kx kr β s a w Q h hk hn hx hr;exact wp_ret (hr s a w β hk h)
 |_=>intro ln lx lr kn kx kr β s a w Q h hk hn hx hr;cases hk
end
open Go.RowKit
theorem Ie:∀{l:List (Nat × A1)} {i:Nat}{b:A1},E5 l i=some b->(i,b)∈l
 |[],_,_,h=>by cases h
 |(j,c)::l,i,b,h=>by
  unfold E5 at h;cases hb:Nat.beq i j<;>rw[hb] at h
  ·exact List.mem_cons_of_mem _ (Ie h)
  ·have:=Nat.eq_of_beq_eq_true hb;cases h;rw[this];simp
theorem AS:∀{l:List (Nat × A1)},(l.map (·.1)).Nodup->∀{i b},(i,b)∈l->E5 l i=some b
 |[],_,_,_,h=>by cases h
 |(j,c)::l,hn,i,b,h=>by
  simp only[List.map_cons,List.nodup_cons] at hn;unfold E5;rcases List.mem_cons.1 h with e|h
  ·cases e;simp only[Nat.beq_refl,cond_true]
  ·have:Nat.beq i j=false:=by
    cases hb:Nat.beq i j
    ·rfl
    ·exact absurd (Nat.eq_of_beq_eq_true hb ▸ List.mem_map.2 ⟨_,h,rfl⟩) hn.1
   simp only[this,cond_false];exact AS hn.2 h
section
variable {R:Type} {r:R} {P:Program} {N:Nat} {w0:World} {X0:Ev} {Y:Nat->Prop} {β β':Bt} {s:St} {a:Act} {w w':World} {A:Nat->Prop}
theorem QM {id:Nat}{t:CT}{p:PV}{K:PV->List (Nat × A1)->Option R} (hk:SJ id t p K=some r):
  (∃c,K c []=some r∧Ob c∧∀w A q u,Ed w A q p u->Ao w A c u)∨∃es n cc,p=.own es n cc∧K (.view id es 0 n) [(id,.ar false cc)]=some r:=by
 have tree:∀t',(Se t' p fun c=>K c [])=some r->∃c,K c []=some r∧Ob c∧∀w A q u,Ed w A q p u->Ao w A c u:=by
  intro t' hk;obtain⟨c,hk,hT,Up,hv⟩:=Ib hk;refine⟨c,hk,hT,fun w A q u h=>(hv w A (fun _=>none) u ?_).1⟩
  cases p<;>first|exact h|exact Up.elim
 unfold SJ at hk;cases t with
 |sl es=>
  dsimp only at hk;split at hk
  ·rename_i es' n c;cases hb:Nat.beq es' es<;>rw[hb] at hk
   ·cases hk
   ·have:=Nat.eq_of_beq_eq_true hb;subst this;exact .inr ⟨_,_,_,rfl,hk⟩
  ·exact .inl (tree (.sl es) hk)
 |int k=>exact .inl (tree _ hk)
 |bool=>exact .inl (tree _ hk)
 |str=>exact .inl (tree _ hk)
 |any=>exact .inl (tree _ hk)
theorem Kn:∀{ts:List CT}{id:Nat}{ps:List PV}{K:List PV->List (Nat × A1)->Option R},Ti N id ts ps K=some r ->
  ∃cs bs,∃qs:List (Nat × Nat),K cs bs=some r∧cs.length=ps.length∧ps.length=ts.length∧bs.map (·.1)=qs.map (·.1)∧(∀q∈qs,∀q'∈qs,q.2=q'.2->q.1=q'.1) ∧
   (∀i bx,(i,bx)∈bs->∃c,bx=.ar false c)∧(∀c∈cs,Xa c)∧(∀c∈cs,∀i∈Ai c,∃bx,(i,bx)∈bs) ∧
   ∀(w:World) (A:Nat->Prop) (own β':Bt) (j0:Nat) (us:List Value),(∀q∈qs,β' q.1=own (j0+q.2))->Da w A own j0 ps us->Au (A6 w A β') cs us∧∀i bx,(i,bx)∈bs->Lb w A β' i bx
 |[],id,ps,K,hk=>by
  obtain⟨rfl,hk⟩:=B1 hk;refine⟨[],[],[],hk,rfl,rfl,rfl,by simp,by simp,by simp,by simp,fun w A own β' j0 us _ h=>⟨?_,by simp⟩⟩
  cases us with
  |nil=>trivial
  |cons u us=>exact h.elim
 |t::ts,id,ps,K,hk=>by
  unfold Ti at hk;obtain⟨p,ps',W2,Ck⟩:=Ap hk;subst W2;rcases QM Ck with⟨c,C9,hT,hv⟩|⟨es,n,cc,rfl,C9⟩
  ·obtain⟨cs,bs,qs,K2,hl,BP,hb,Ud,Dl,hF,Hq,F7⟩:=Kn C9;refine⟨c::cs,bs,qs.map (fun q=>(q.1,q.2+1)),K2,by simp[hl],by simp[BP],by rw[hb];simp,?_,Dl,?_,?_,fun w A own β' j0 us hβ ho=>?_⟩
   ·intro q hq q' Dk e;obtain⟨q0,Oz,rfl⟩:=List.mem_map.1 hq;obtain⟨q1,F0,rfl⟩:=List.mem_map.1 Dk;exact Ud q0 Oz q1 F0 (by simp only at e;omega)
   ·intro y hy;rcases List.mem_cons.1 hy with rfl|hy
    ·exact Ld hT
    ·exact hF y hy
   ·intro y hy i hi;rcases List.mem_cons.1 hy with rfl|hy
    ·rw[Em hT] at hi;cases hi
    ·exact Hq y hy i hi
   ·cases us with
    |nil=>exact ho.elim
    |cons u us=>
     obtain⟨h1,h2⟩:=F7 w A own β' (j0+1) us (fun q hq=>by rw[hβ _ (List.mem_map_of_mem hq)];congr 1;simp only;omega) ho.2
     exact⟨⟨TM (hv w A _ u ho.1),h1⟩,h2⟩
  ·obtain⟨cs,bs,qs,K2,hl,BP,hb,Ud,Dl,hF,Hq,F7⟩:=Kn C9;refine⟨_::cs,(id,.ar false cc)::bs,(id,0)::qs.map (fun q=>(q.1,q.2+1)),K2,by simp[hl],by simp[BP],by simp only[List.map_cons,hb];simp,?_,?_,?_,?_,fun w A own β' j0 us hβ ho=>?_⟩
   ·intro q hq q' Dk e;rcases List.mem_cons.1 hq with rfl|hq
    ·rcases List.mem_cons.1 Dk with rfl|Dk
     ·rfl
     ·obtain⟨q0,Oz,rfl⟩:=List.mem_map.1 Dk;simp only at e;omega
    ·obtain⟨q0,Oz,rfl⟩:=List.mem_map.1 hq;rcases List.mem_cons.1 Dk with rfl|Dk
     ·simp only at e;omega
     ·obtain⟨q1,F0,rfl⟩:=List.mem_map.1 Dk;exact Ud q0 Oz q1 F0 (by simp only at e;omega)
   ·intro i bx hm;rcases List.mem_cons.1 hm with e|hm
    ·cases e;exact⟨cc,rfl⟩
    ·exact Dl i bx hm
   ·intro y hy;rcases List.mem_cons.1 hy with rfl|hy
    ·trivial
    ·exact hF y hy
   ·intro y hy i hi;rcases List.mem_cons.1 hy with rfl|hy
    ·simp only[Ai,List.mem_singleton] at hi;subst hi;exact⟨_,List.mem_cons_self⟩
    ·obtain⟨bx,Hy⟩:=Hq y hy i hi;exact⟨bx,List.mem_cons_of_mem _ Hy⟩
   ·cases us with
    |nil=>exact ho.elim
    |cons u us=>
     obtain⟨h1,h2⟩:=F7 w A own β' (j0+1) us (fun q hq=>by rw[hβ _ (List.mem_cons_of_mem _ (List.mem_map_of_mem hq))];congr 1;simp only;omega) ho.2
     have h0:=hβ (id,0) List.mem_cons_self;simp only[Nat.add_zero] at h0;refine⟨⟨?_,h1⟩,fun i bx hm=>?_⟩
     ·rcases ho.1 with⟨h3,rfl,_,h5⟩|⟨b,ob,cap,h3,h4,h5,h6,h7,_⟩
      ·exact .inl ⟨h0.trans h3,rfl,rfl,h5⟩
      ·exact .inr ⟨b,ob,ob,cap,h0.trans h3,h4,.inl rfl,h5,h6,h7⟩
     ·rcases List.mem_cons.1 hm with e|hm
      ·cases e;exact P1 ho.1 h0
      ·exact h2 i bx hm
theorem XJ {i:Nat}{t:TypeId}{p:PV}{K:PV->List (Nat × A1)->Option R} (hk:inK P N i t p K=some r):
  ∃v bs,∃qs:List (Nat × Nat),K v bs=some r∧bs.map (·.1)=qs.map (·.1)∧(∀q∈qs,∀q'∈qs,q.2=q'.2->q.1=q'.1)∧(Rb p=true->(Bz N i,0)∈qs∧i<8) ∧
   (∀id bx,(id,bx)∈bs->Bu (some bx)∧∀c,bx=.st c->id=Bz N i∧Rb p=true)∧(∀id∈A5 v,∃bx,(id,bx)∈bs)∧Sk bs ∧
   ∀(w:World) (A:Nat->Prop) (bt β':Bt) (u:Value),(∀q∈qs,β' q.1=bt q.2)->EW w A bt p u->Cp w A β' v u∧(∀id bx,(id,bx)∈bs->Lb w A β' id bx) ∧
    ∀id bx b o,(id,bx)∈bs->β' id=some (b,o)->∀j,BR bx o j->Ac0 bt p b j:=by
 have owns:∀{bs:List (Nat × A1)} {qs:List (Nat × Nat)},bs.map (·.1)=qs.map (·.1)->(∀i bx,(i,bx)∈bs->∃c,bx=.ar false c)->∀{bt β':Bt},(∀q∈qs,β' q.1=bt (1+q.2))->∀id bx b o,(id,bx)∈bs->β' id=some (b,o)->∀j,BR bx o j->∃k o',bt (k+1)=some (b,o')∧o'<=j:=by
  intro bs qs hb Dl bt β' hβ id bx b o hm BC j hj;have:id∈qs.map (·.1):=by rw[←hb];exact List.mem_map.2 ⟨_,hm,rfl⟩
  obtain⟨q,hq,rfl⟩:=List.mem_map.1 this;obtain⟨c,rfl⟩:=Dl _ _ hm;rw[hβ q hq,Nat.add_comm] at BC;exact⟨q.2,o,BC,hj⟩
 have nost:∀{bs:List (Nat × A1)},(∀i bx,(i,bx)∈bs->∃c,bx=.ar false c)->Sk bs:=by
  intro bs Dl id cells hm;obtain⟨c,e⟩:=Dl id _ hm;cases e
 unfold inK at hk;split at hk
 ·rename_i e he;obtain⟨ps,rfl,Ck⟩:=Y7 hk;obtain⟨hi8,C9⟩:=Ae Ck;have hi8:i<8:=Nat.lt_of_succ_le (Nat.le_of_ble_eq_true hi8);obtain⟨cs,bs,qs,K2,hl,BP,hb,Ud,Dl,hF,Hq,hv⟩:=Kn C9;refine⟨_,_,(Bz N i,0)::qs.map (fun q=>(q.1,q.2+1)),K2,by simp only[List.map_cons,hb];simp,?_,fun _=>⟨List.mem_cons_self,hi8⟩,?_,?_,?_,fun w A bt β' u hβ hp=>?_⟩
  ·intro q hq q' Dk e;rcases List.mem_cons.1 hq with rfl|hq
   ·rcases List.mem_cons.1 Dk with rfl|Dk
    ·rfl
    ·obtain⟨q0,Oz,rfl⟩:=List.mem_map.1 Dk;simp only at e;omega
   ·obtain⟨q0,Oz,rfl⟩:=List.mem_map.1 hq;rcases List.mem_cons.1 Dk with rfl|Dk
    ·simp only at e;omega
    ·obtain⟨q1,F0,rfl⟩:=List.mem_map.1 Dk;exact Ud q0 Oz q1 F0 (by simp only at e;omega)
  ·intro id bx hm;rcases List.mem_cons.1 hm with e|hm
   ·cases e;exact⟨trivial,fun _ _=>⟨rfl,rfl⟩⟩
   ·obtain⟨c,rfl⟩:=Dl id bx hm;exact⟨trivial,fun _ e=>by cases e⟩
  ·intro id Ax;simp only[A5,Be,Ai,List.mem_singleton] at Ax;subst Ax;exact⟨_,List.mem_cons_self⟩
  ·intro id cells hm c hc k hk;rcases List.mem_cons.1 hm with e|hm
   ·cases e;obtain⟨bx,Hy⟩:=Hq c hc k hk;exact⟨bx,List.mem_cons_of_mem _ Hy⟩
   ·obtain⟨c,e⟩:=Dl id _ hm;cases e
  ·obtain⟨b,o,h1,rfl,_,vs,h3,h4,h5⟩:=hp;have h0:=hβ (Bz N i,0) List.mem_cons_self;simp only at h0;have hβ1:∀q∈qs,β' q.1=bt (1+q.2):=fun q hq=>by rw[hβ _ (List.mem_cons_of_mem _ (List.mem_map_of_mem hq)),Nat.add_comm]
   obtain⟨h6,h7⟩:=hv w A bt β' 1 vs hβ1 h3;refine⟨⟨b,o,h0.trans h1,by simp⟩,fun id bx hm=>?_,fun id bx b' o' hm Ep j hj=>?_⟩
   ·rcases List.mem_cons.1 hm with e|hm
    ·cases e;refine⟨b,o,h0.trans h1,fun k c hk=>?_,fun k hk=>h5 k (by omega)⟩
     obtain⟨v,hv,CA⟩:=h6.get hk;exact⟨v,h4 k v hv,CA⟩
    ·exact h7 id bx hm
   ·rcases List.mem_cons.1 hm with e|hm
    ·cases e;rw[h0] at Ep;have hj:o'<=j∧j<o'+cs.length:=hj;exact .inr ⟨o',ps,Ep,hj.1,.inl ⟨rfl,by omega⟩⟩
    ·exact .inl (owns hb Dl hβ1 id bx b' o' hm Ep j hj)
 ·split at hk
  ·rename_i ps;obtain⟨e,he,Ck⟩:=Bl hk;obtain⟨hi8,C9⟩:=Ae Ck;have hi8:i<8:=Nat.lt_of_succ_le (Nat.le_of_ble_eq_true hi8);obtain⟨q,qr,hq,K2⟩:=Ap C9;subst hq;obtain⟨Sh,Uo⟩:=B1 K2;subst Sh;unfold Ml at Uo;split at Uo
   ·rename_i es' n c;cases hb:Nat.beq es' (Aq P e)<;>rw[hb] at Uo
    ·cases Uo
    ·have Py:=Nat.eq_of_beq_eq_true hb;subst Py;refine⟨_,_,[(Bz N i,0)],Uo,rfl,by simp,fun _=>⟨by simp,hi8⟩,?_,?_,?_,fun w A bt β' u hβ hp=>?_⟩
     ·intro id bx hm;simp only[List.mem_singleton] at hm;cases hm;exact⟨trivial,fun _ e=>by cases e⟩
     ·intro id Ax;simp only[A5,Be,Ai,List.mem_singleton] at Ax;subst Ax;exact⟨_,List.mem_cons_self⟩
     ·intro id cells hm;simp only[List.mem_singleton] at hm;cases hm
     ·obtain⟨es,n',c',h1,h2⟩:=hp;cases h1;have h0:=hβ (Bz N i,0) List.mem_cons_self;simp only at h0;refine⟨?_,fun id bx hm=>?_,fun id bx b' o' hm Ep j hj=>?_⟩
      ·rcases h2 with⟨h3,rfl,_,h5⟩|⟨b,ob,cap,h3,h4,h5,h6,h7,_⟩
       ·exact .inl ⟨h0.trans h3,rfl,rfl,h5⟩
       ·exact .inr ⟨b,ob,ob,cap,h0.trans h3,h4,.inl rfl,h5,h6,h7⟩
      ·simp only[List.mem_singleton] at hm;cases hm;exact P1 h2 h0
      ·simp only[List.mem_singleton] at hm;cases hm;rw[h0] at Ep;exact .inr ⟨o',_,Ep,hj,.inr rfl⟩
   ·cases Uo
  ·rename_i VO;cases Dp:A9 P t<;>rw[Dp] at hk
   ·simp only[cond_false] at hk;obtain⟨cs,bs,qs,K2,hl,BP,hb,Ud,Dl,hF,Hq,hv⟩:=Kn hk;obtain⟨c,cs',Oj,Uo⟩:=Ap K2;subst Oj;obtain⟨Sh,WA⟩:=B1 Uo;subst Sh;have hFc:=hF c (by simp)
    have SE:Rb p=false∨∃ps,p=.pbox ps:=by
     cases p<;>first|exact .inl rfl|exact .inr ⟨_,rfl⟩|exact absurd rfl (VO _)
    have hpb:∀ps,p ≠ .pbox ps:=by
     rintro ps rfl
     cases XA:Ez P t with
     |nil=>rw[XA] at BP;simp at BP
     |cons t' ts=>
      rw[XA] at hk;unfold Ti SJ at hk;obtain⟨q,qs1,hq,Ck⟩:=Ap hk;cases hq;cases t'<;>simp[Se,F5,Ag,A7,Er,PX] at Ck
    have hpa:∀ps,p ≠ .agg ps:=by
     rintro ps rfl
     cases XA:Ez P t with
     |nil=>rw[XA] at BP;simp at BP
     |cons t' ts=>
      rw[XA] at hk;unfold Ti SJ at hk;obtain⟨q,qs1,hq,Ck⟩:=Ap hk;cases hq;cases t'<;>simp[Se,F5,Ag,A7,Er,PX] at Ck
    have SE:Rb p=false:=SE.elim id (fun ⟨ps,e⟩=>absurd e (hpb ps))
    have Oo:A5 c=Ai c:=by cases c<;>first|rfl|exact hFc.elim
    refine⟨c,bs,qs.map (fun q=>(q.1,q.2+1)),WA,by rw[hb];simp,?_,(fun h=>by rw[SE] at h;cases h),?_,fun id Ax=>Hq c (by simp) id (by rw[←Oo];exact Ax),nost Dl,fun w A bt β' u hβ hp=>?_⟩
    ·intro q hq q' Dk e;obtain⟨q0,Oz,rfl⟩:=List.mem_map.1 hq;obtain⟨q1,F0,rfl⟩:=List.mem_map.1 Dk;exact Ud q0 Oz q1 F0 (by simp only at e;omega)
    ·intro id bx hm;obtain⟨c,rfl⟩:=Dl id bx hm;exact⟨trivial,fun _ e=>by cases e⟩
    ·have Bq:Ed w A (bt 1) p u:=by cases p<;>first|exact hp.2|exact absurd rfl (hpa _)|exact absurd rfl (hpb _)|exact absurd rfl (VO _)
     have hβ1:∀q∈qs,β' q.1=bt (1+q.2):=fun q hq=>by rw[hβ _ (List.mem_map_of_mem hq),Nat.add_comm]
     obtain⟨h6,h7⟩:=hv w A bt β' 1 [u] hβ1 ⟨Bq,trivial⟩;refine⟨?_,h7,fun id bx b' o' hm Ep j hj=>.inl (owns hb Dl hβ1 id bx b' o' hm Ep j hj)⟩
     have h8:=h6.1;cases c<;>first|exact h8|exact hFc.elim
   ·simp only[cond_true] at hk;obtain⟨ps,hp0,Ck⟩:=Eh hk;subst hp0;obtain⟨cs,bs,qs,K2,hl,BP,hb,Ud,Dl,hF,Hq,hv⟩:=Kn Ck;refine⟨_,bs,qs.map (fun q=>(q.1,q.2+1)),K2,by rw[hb];simp,?_,(fun h=>by cases h),?_,fun id Ax=>?_,nost Dl,fun w A bt β' u hβ hp=>?_⟩
    ·intro q hq q' Dk e;obtain⟨q0,Oz,rfl⟩:=List.mem_map.1 hq;obtain⟨q1,F0,rfl⟩:=List.mem_map.1 Dk;exact Ud q0 Oz q1 F0 (by simp only at e;omega)
    ·intro id bx hm;obtain⟨c,rfl⟩:=Dl id bx hm;exact⟨trivial,fun _ e=>by cases e⟩
    ·obtain⟨c,hc,hi⟩:=List.mem_flatMap.1 (show id∈cs.flatMap Ai from Ax)
     exact Hq c hc id hi
    ·obtain⟨vs,h1,_,h3⟩:=hp;have hβ1:∀q∈qs,β' q.1=bt (1+q.2):=fun q hq=>by rw[hβ _ (List.mem_map_of_mem hq),Nat.add_comm]
     obtain⟨h6,h7⟩:=hv w A bt β' 1 vs hβ1 h3;exact⟨⟨vs,h1,h6⟩,h7,fun id bx b' o' hm Ep j hj=>.inl (owns hb Dl hβ1 id bx b' o' hm Ep j hj)⟩
theorem FK:∀{ts:List TypeId}{i:Nat}{ps:List PV}{K:List (Nat × PV)->List (Nat × A1)->Option R},UZ P N i ts ps K=some r ->
  ∃tms bs,∃qs:List (Nat × Nat × Nat),K tms bs=some r∧bs.map (·.1)=qs.map (·.1)∧(∀q∈qs,i<=q.2.1)∧(∀q∈qs,∀q'∈qs,q.2=q'.2->q.1=q'.1) ∧
   (∀k p,ps[k]?=some p->Rb p=true->(Bz N (i+k),i+k,0)∈qs∧i+k<8)∧(∀id bx,(id,bx)∈bs->Bu (some bx)∧∀c,bx=.st c->∃k p,ps[k]?=some p∧Rb p=true∧id=Bz N (i+k)) ∧
   (∀j,∀id∈A5 (lk tms j),∃bx,(id,bx)∈bs)∧Sk bs ∧
   ∀(w:World) (A:Nat->Prop) (bt:Tl) (β':Bt) (us:List Value),(∀q∈qs,β' q.1=bt q.2.1 q.2.2)->H7 w A bt i ps us ->
    (∀j,(∃u,i<=j∧us[j-i]?=some u∧Cp w A β' (lk tms j) u)∨(lk tms j=.top∧(i<=j->us[j-i]?=none)))∧(∀id bx,(id,bx)∈bs->Lb w A β' id bx) ∧
    ∀id bx b o,(id,bx)∈bs->β' id=some (b,o)->∀j,BR bx o j->∃k p,ps[k]?=some p∧Ac0 (bt (i+k)) p b j
 |[],i,ps,K,hk=>by
  obtain⟨W2,hk⟩:=B1 hk;subst W2;refine⟨[],[],[],hk,rfl,by simp,by simp,by simp,by simp,(fun j id Ax=>by cases Ax),(by intro i cells hm;cases hm),fun w A bt β' us _ h=>?_⟩
  cases us with
  |nil=>exact⟨fun j=>.inr ⟨rfl,fun _=>by simp⟩,by simp,by simp⟩
  |cons u us=>exact h.elim
 |t::ts,i,ps,K,hk=>by
  unfold UZ at hk;obtain⟨p,ps',W2,Ck⟩:=Ap hk;subst W2;obtain⟨v,bs,qs,C9,hb,hqi,V5,Hy,hr,IH,hv⟩:=XJ Ck;obtain⟨tms,bs',qs',K2,Ep,Abv,Ahe,Aej,Aj5,hr',Akd,Je⟩:=FK C9;refine⟨(i,v)::tms,bs++bs',qs.map (fun q=>(q.1,i,q.2))++qs',K2,by simp only[List.map_append,hb,Ep];simp,?_,?_,?_,?_,?_,?_,fun w A bt β' us hβ hp=>?_⟩
  ·intro q hq;rcases List.mem_append.1 hq with hq|hq
   ·obtain⟨q0,Oz,rfl⟩:=List.mem_map.1 hq;exact Nat.le_refl _
   ·have:=Abv q hq;omega
  ·intro q hq q' Dk e;rcases List.mem_append.1 hq with hq|hq
   ·obtain⟨q0,Oz,rfl⟩:=List.mem_map.1 hq;rcases List.mem_append.1 Dk with Dk|Dk
    ·obtain⟨q1,F0,rfl⟩:=List.mem_map.1 Dk;simp only[Prod.mk.injEq,true_and] at e;exact hqi q0 Oz q1 F0 e
    ·have:=Abv q' Dk;rw[←e] at this;simp only at this;omega
   ·have h5:=Abv q hq;rcases List.mem_append.1 Dk with Dk|Dk
    ·obtain⟨q1,F0,rfl⟩:=List.mem_map.1 Dk;rw[e] at h5;simp only at h5;omega
    ·exact Ahe q hq q' Dk e
  ·intro k p' Hp hL;cases k with
   |zero=>
    simp only[List.getElem?_cons_zero,Option.some.injEq] at Hp;subst Hp;obtain⟨h1,h2⟩:=V5 hL;exact⟨List.mem_append.2 (.inl (List.mem_map.2 ⟨_,h1,rfl⟩)),h2⟩
   |succ k=>
    obtain⟨h1,h2⟩:=Aej k p' (by simpa using Hp) hL
    rw[show i+1+k=i+(k+1) by omega] at h1 h2
    exact⟨List.mem_append.2 (.inr h1),h2⟩
  ·intro id bx hm;rcases List.mem_append.1 hm with hm|hm
   ·obtain⟨h1,h2⟩:=Hy id bx hm;exact⟨h1,fun c hc=>⟨0,p,rfl,(h2 c hc).2,(h2 c hc).1⟩⟩
   ·obtain⟨h1,h2⟩:=Aj5 id bx hm;refine⟨h1,fun c hc=>?_⟩
    obtain⟨k,p',h3,h4,h5⟩:=h2 c hc;exact⟨k+1,p',by simpa using h3,h4,by rw[h5,show i+1+k=i+(k+1) by omega]⟩
  ·intro j id Ax;unfold lk at Ax;cases ZL:Nat.beq j i<;>rw[ZL] at Ax
   ·obtain⟨bx,h1⟩:=hr' j id Ax;exact⟨bx,List.mem_append.2 (.inr h1)⟩
   ·obtain⟨bx,h1⟩:=hr id Ax;exact⟨bx,List.mem_append.2 (.inl h1)⟩
  ·intro id cells hm c hc k hk;rcases List.mem_append.1 hm with hm|hm
   ·obtain⟨bx,h1⟩:=IH id cells hm c hc k hk;exact⟨bx,List.mem_append.2 (.inl h1)⟩
   ·obtain⟨bx,h1⟩:=Akd id cells hm c hc k hk;exact⟨bx,List.mem_append.2 (.inr h1)⟩
  ·cases us with
   |nil=>exact hp.elim
   |cons u us=>
    obtain⟨h1,h2,h3⟩:=hv w A (bt i) β' u (fun q hq=>hβ _ (List.mem_append.2 (.inl (List.mem_map_of_mem hq)))) hp.1
    obtain⟨Ur,h2',h3'⟩:=Je w A bt β' us (fun q hq=>hβ q (List.mem_append.2 (.inr hq))) hp.2
    refine⟨fun j=>?_,fun id bx hm=>?_,fun id bx b o hm BC j hj=>?_⟩
    ·unfold lk;cases ZL:Nat.beq j i
     ·have G6:=Ic ZL;simp only[cond_false];rcases Ur j with⟨u',h4,h5,h6⟩|⟨h4,h5⟩
      ·refine .inl ⟨u',by omega,?_,h6⟩
       rw[show j-i=(j-(i+1))+1 by omega]
       simpa using h5
      ·refine .inr ⟨h4,fun hij=>?_⟩
       rw[show j-i=(j-(i+1))+1 by omega]
       simpa using h5 (by omega)
     ·have:=Nat.eq_of_beq_eq_true ZL;subst this;exact .inl ⟨u,Nat.le_refl _,by simp,h1⟩
    ·rcases List.mem_append.1 hm with hm|hm
     ·exact h2 id bx hm
     ·exact h2' id bx hm
    ·rcases List.mem_append.1 hm with hm|hm
     ·exact⟨0,p,rfl,h3 id bx b o hm BC j hj⟩
     ·obtain⟨k,p',h4,h5⟩:=h3' id bx b o hm BC j hj;exact⟨k+1,p',by simpa using h4,by rw[show i+(k+1)=i+1+k by omega];exact h5⟩
def GL (bt:Tl)(args:List PV)(h8:∀k p,args[k]?=some p->Rb p=true->k<8):Ev:=
 ⟨PI bt,Yw bt args,fun i=>∃p,args[i]?=some p∧Rb p=true,fun i=>bt i 0,fun i ⟨p,h1,h2⟩=>h8 i p h1 h2⟩
theorem NJ {ts:List TypeId}{args:List PV}{us:List Value}{bt:Tl}{K:List (Nat × PV)->List (Nat × A1)->Option R} (BT:Ins w Y bt args us)(hk:UZ P N 0 ts args K=some r):
  ∃tms bs,K tms bs=some r∧(A3 (fun _=>none) bs=true->us.length<=N->∃(h8:∀k p,args[k]?=some p->Rb p=true->k<8),∃β0,
   Bp N w (GL bt args h8) Y β0 ⟨lk tms,E5 bs⟩ { tmps:=us.toArray++Array.replicate (N-us.toArray.size) undef,defers:=[] } w):=by
 obtain⟨tms,bs,qs,Ck,hb,Oz,hqi,V5,Hy,hr,IH,hv⟩:=FK hk;refine⟨tms,bs,Ck,fun J6 hN=>?_⟩
 have IR:=Lj J6
 have h8:∀k p,args[k]?=some p->Rb p=true->k<8:=fun k p h1 h2=>by
  have:=(V5 k p h1 h2).2;omega
 have Ww:(qs.map (·.1)).Nodup:=by rw[←hb];exact IR
 obtain⟨β0,hβ0⟩:∃β0:Bt,∀q∈qs,β0 q.1=bt q.2.1 q.2.2:=by
  have:∀(l:List (Nat × Nat × Nat)),(l.map (·.1)).Nodup->∃β0:Bt,∀q∈l,β0 q.1=bt q.2.1 q.2.2:=by
   intro l
   induction l with
   |nil=>intro _;exact⟨fun _=>none,by simp⟩
   |cons q l ih=>
    intro hn;simp only[List.map_cons,List.nodup_cons] at hn;obtain⟨b1,h1⟩:=ih hn.2;refine⟨Bh b1 q.1 (bt q.2.1 q.2.2),fun q' Dk=>?_⟩
    rcases List.mem_cons.1 Dk with rfl|Dk
    ·exact Af _ _ _
    ·have G6:q'.1≠q.1:=fun e=>hn.1 (by rw[←e];exact List.mem_map.2 ⟨q',Dk,rfl⟩)
     rw[Ad _ _ G6];exact h1 q' Dk
  exact this qs Ww
 refine⟨h8,β0,?_⟩;obtain⟨hs,BS,hL⟩:=hv w _ bt β0 us hβ0 BT.args
 have ZU:∀id bx,(id,bx)∈bs->∃ik,(id,ik)∈qs∧β0 id=bt ik.1 ik.2:=by
  intro id bx hm;have:id∈qs.map (·.1):=by rw[←hb];exact List.mem_map.2 ⟨_,hm,rfl⟩
  obtain⟨q,hq,rfl⟩:=List.mem_map.1 this;exact⟨q.2,hq,hβ0 q hq⟩
 have hX:∀b,Zp (E5 bs) β0 b->PI bt b:=by
  rintro b ⟨id,o,hl,hβ⟩
  cases hq:E5 bs id with
  |none=>rw[hq] at hl;exact hl.elim
  |some bx=>
   obtain⟨ik,_,h2⟩:=ZU id bx (Ie hq);rw[h2] at hβ;exact⟨_,_,_,hβ⟩
 have hA:∀b,Bv (E5 bs) β0 Y b->PI bt b∨Y b:=fun b hb=>hb.imp (hX b) id
 have YZ:∀{p:PV} {u:Value},Cp w (fun b=>PI bt b∨Y b) β0 p u->Cp w (Bv (E5 bs) β0 Y) β0 p u:=fun h=>h.step (Bb.refl _ _) (fun b _=>hA b) (fun _ _=>rfl)
 refine⟨rfl,by simp;omega,fun i hi=>?_,fun i hi=>?_,?_,?_,?_,fun i hi id Ax=>?_,?_,fun b hb=>.inl (hX b hb),?_,?_,?_,fun b hY hXb=>BT.Yx b hY (hX b hXb),BT.Ylt,⟨rfl,rfl,rfl,Bb.refl _ _,fun _ _ _ _=>⟨rfl,rfl⟩⟩⟩
 ·rcases hs i with⟨u,_,h,_⟩|⟨h,_⟩
  ·rw[Nat.sub_zero,List.getElem?_eq_none (by omega)] at h;cases h
  ·exact h
 ·rcases hs i with⟨u,_,h,hv⟩|⟨h,h'⟩
  ·rw[Nat.sub_zero] at h
   have Bk:i<us.length:=by
    rcases Nat.lt_or_ge i us.length with h'|h'
    ·exact h'
    ·rw[List.getElem?_eq_none h'] at h;cases h
   have:(us.toArray++Array.replicate (N-us.toArray.size) undef).getD i undef=u:=by
    rw[Array.getD_eq_getD_getElem?,Array.getElem?_append_left (by simpa using Bk)]
    simp[h]
   show Cp w _ _ _ ((us.toArray++Array.replicate (N-us.toArray.size) undef).getD i undef);rw[this];exact YZ hv
  ·show Cp w _ _ (lk tms i) _;rw[h];exact Ao.top _
 ·intro id bx hq;exact (BS id bx (Ie hq)).step' hA
 ·intro id id' b o o' hl Gc hβ hβ';cases hq:E5 bs id with
  |none=>change Bu (E5 bs id) at hl;rw[hq] at hl;exact hl.elim
  |some bx=>
   cases Dk:E5 bs id' with
   |none=>change Bu (E5 bs id') at Gc;rw[Dk] at Gc;exact Gc.elim
   |some bx'=>
    obtain⟨ik,h1,h2⟩:=ZU id bx (Ie hq);obtain⟨ik',Ur,h2'⟩:=ZU id' bx' (Ie Dk);rw[h2] at hβ;rw[h2'] at hβ';obtain⟨h3,h4⟩:=BT.inj _ _ _ _ b o o' hβ hβ';exact hqi _ h1 _ Ur (Prod.ext h3 h4)
 ·intro id b o hn hβ;cases hq:E5 bs id with
  |none=>exact absurd hq hn
  |some bx=>
   obtain⟨ik,h1,h2⟩:=ZU id bx (Ie hq);rw[h2] at hβ;exact BT.lt b ⟨_,_,_,hβ⟩
 ·obtain⟨bx,hm⟩:=hr i id Ax;show E5 bs id≠none;rw[AS IR hm];simp
 ·intro id cells hq c hc k hk;obtain⟨bx,hm⟩:=IH id cells (Ie hq) c hc k hk;show E5 bs k≠none;rw[AS IR hm];simp
 ·intro id bx b o hq hl hβ _ j hj;obtain⟨k,p,h1,h2⟩:=hL id bx b o (Ie hq) hβ j hj;rw[Nat.zero_add] at h2;exact⟨k,p,h1,h2⟩
 ·rintro i ⟨p,h1,h2⟩
  have h3:=(V5 i p h1 h2).1;rw[Nat.zero_add] at h3;refine⟨?_,hβ0 _ h3⟩;have:Bz N i∈bs.map (·.1):=by rw[hb];exact List.mem_map.2 ⟨_,h3,rfl⟩
  obtain⟨⟨id,bx⟩,hm,e⟩:=List.mem_map.1 this;show E5 bs (Bz N i)≠none;rw[←e,AS IR hm];simp
 ·intro id c b o hq _ _;obtain⟨k,p,h1,h2,h3⟩:=(Hy id _ (Ie hq)).2 c rfl;rw[Nat.zero_add] at h3;exact⟨k,h3,p,h1,h2⟩
end
open Go.RowKit
def Hl (β:Bt)(l:List (Option Nat)) (j:Nat):Option (Nat × Nat):=((l[j]?).bind id).bind β
section
variable {R:Type} {r:R} {P:Program} {N:Nat} {w0:World} {X0:Ev} {Y:Nat->Prop} {β β':Bt} {s:St} {a:Act} {w w':World} {A:Nat->Prop}
def UR (s:St)(l:List (Option Nat)):Prop:=∀id,some id∈l->Bu (s.hp id)
def H2 (s:St)(z:List Nat):Prop:=∀id∈z,∃f c,s.hp id=some (.ar f c)
theorem Zf (h : Bp N w0 X0 Y β s a w) {shr : Bool} {t : CT} {p : PV} {K : PV -> List Nat -> List Nat -> Option R} (hk : JR shr s.hp t p K = some r) :
    ∃ c q z, K c (Option.toList q) z = some r ∧ (∀ x, c ≠ .agg x ∧ c ≠ .pbox x) ∧ Xa p ∧ (∀ id, q = some id -> ∃ c, s.hp id = some (.ar false c)) ∧ H2 s z ∧
      ∀ (fz : List Nat) A u, (∀ i ∈ z, i ∈ fz) -> H2 s fz -> (∀ b, A b -> Bv (Ac s.hp fz) β Y b) -> A6 w (Bv s.hp β Y) β p u -> Ed w A (q.bind β) c u := by
  have notree : ∀ {c : PV}, Ob c -> ∀ x, c ≠ .agg x ∧ c ≠ .pbox x := fun hT x => ⟨P5 hT x, by rintro rfl; exact hT⟩
  unfold JR at hk
  cases shr <;> simp only[cond_true, cond_false] at hk
  · have tree : ∀ t', (∀ es, t' ≠ .sl es) -> (Se t' p fun c => K c [] []) = some r -> ∃ c q z, K c (Option.toList q) z = some r ∧ (∀ x, c ≠ .agg x ∧ c ≠ .pbox x) ∧ Xa p ∧ (∀ id, q = some id -> ∃ c, s.hp id = some (.ar false c)) ∧ H2 s z ∧
        ∀ (fz : List Nat) A u, (∀ i ∈ z, i ∈ fz) -> H2 s fz -> (∀ b, A b -> Bv (Ac s.hp fz) β Y b) -> A6 w (Bv s.hp β Y) β p u -> Ed w A (q.bind β) c u := by
      intro t' G6 hk
      obtain⟨c, Ck, hT, Up, hv⟩ := Ib hk
      refine⟨c, none, [], Ck, notree hT, Ld Up, by simp, (by intro i hi; cases hi), fun fz A u _ _ hA hc => G5 hT ?_⟩
      exact (hv w _ β u hc).1.step (Bb.refl _ _) (fun b _ hb => I0 (hA b hb))
    unfold ZO at hk
    cases t with
    | sl es =>
      dsimp only at hk
      split at hk
      · rename_i id es' off n
        cases hb : (Nat.beq es' es && Nat.beq off 0) <;> rw[hb] at hk
        · cases hk
        · simp only[Bool.and_eq_true] at hb
          have he := Nat.eq_of_beq_eq_true hb.1
          have ho := Nat.eq_of_beq_eq_true hb.2
          subst he ho
          simp only[cond_true] at hk
          split at hk
          · rename_i c h0
            obtain⟨hl, Ck⟩ := Ae hk
            refine⟨_, some id, [], Ck, by simp, trivial, fun i hi => by cases hi; exact⟨c, h0⟩, (by intro i hi; cases hi), fun fz A u _ _ hA hc => ?_⟩
            rcases hc with⟨h1, _, rfl, h4⟩ | ⟨b, o, x, cap, h1, h2, hx, h3, h4, h5⟩
            · exact .inl ⟨h1, rfl, by simp, h4⟩
            · have hx : x = o := by rcases hx with e | ⟨_, e⟩ <;> omega
              subst hx
              rcases h.box id _ h0 with⟨h6, _⟩ | ⟨b', o', h6, h7, h8, _⟩
              · rw[h1] at h6; cases h6
              · rw[h1] at h6
                cases h6
                refine .inr ⟨b, x, cap, h1, h2, h3, h4, h5, fun j q hq => ?_, fun j hj I8 => h8 rfl j hj I8⟩
                rw[List.getElem?_take] at hq
                split at hq
                · obtain⟨v, hv, h9, ht⟩ := h7 j q hq
                  exact⟨v, hv, h9, ht.step (Bb.refl _ _) (fun b _ hb => I0 (hA b hb))⟩
                · cases hq
          · cases hk
      · obtain⟨z, n, c, Ck, hp⟩ := Dh hk
        obtain⟨hz, C9⟩ := Ae Ck
        subst hz
        have hpF : Xa p := by rcases hp with e | ⟨e, _⟩ <;> (rw[e]; trivial)
        refine⟨_, none, [], C9, by simp, hpF, by simp, (by intro i hi; cases hi), fun fz A u _ _ _ hc => ?_⟩
        have hu : u = .slice none 0 0 := by
          rcases hp with rfl | ⟨rfl, _⟩
          · cases hc; rfl
          · exact Ao.val hc
        exact .inl ⟨rfl, rfl, rfl, none, hu⟩
    | int k => exact tree _ (by simp) hk
    | bool => exact tree _ (by simp) hk
    | str => exact tree _ (by simp) hk
    | any => exact tree _ (by simp) hk
  · obtain⟨c, m, Ck, hT, hF, hm, hv⟩ := V8 h hk
    exact⟨c, none, m, Ck, notree hT, hF, by simp, hm, fun fz A u h1 h2 hA hc => G5 hT ((hv fz h1 h2 u hc).1.step (Bb.refl _ _) (fun b _ hb => hA b hb))⟩
structure Ts (s:St) (β:Bt) (Y:Nat->Prop) (w:World) (cs:List PV) (l:List (Option Nat)) (z:List Nat) (ps:List PV):Prop where
 len:l.length=cs.length
 pl:cs.length=ps.length
 na:∀c∈cs,∀x,c ≠ .agg x∧c ≠ .pbox x
 fr:∀p∈ps,Xa p
 own:∀id,some id∈l->∃c,s.hp id=some (.ar false c)
 row:H2 s z
 sem:∀(fz:List Nat) A us,(∀i∈z,i∈fz)->H2 s fz->(∀b,A b->Bv (Ac s.hp fz) β Y b)->Au (A6 w (Bv s.hp β Y) β) ps us->∀own j0,(∀j,j<l.length->own (j0+j)=Hl β l j)->Da w A own j0 cs us
theorem Ts.nil:Ts s β Y w [] [] [] []:=⟨rfl,rfl,by simp,by simp,by simp,(by intro i hi;cases hi),fun fz A us _ _ _ hu own j0 _=>by
 cases us with
 |nil=>trivial
 |cons u us=>exact hu.elim⟩
theorem Ts.cons {c p:PV}{q:Option Nat}{z zs:List Nat}{cs ps:List PV}{l:List (Option Nat)} (Sl:∀x,c ≠ .agg x∧c ≠ .pbox x)(hF:Xa p)(hq:∀id,q=some id->∃c,s.hp id=some (.ar false c)) (hz:H2 s z)
  (hv:∀(fz:List Nat) A u,(∀i∈z,i∈fz)->H2 s fz->(∀b,A b->Bv (Ac s.hp fz) β Y b)->A6 w (Bv s.hp β Y) β p u->Ed w A (q.bind β) c u) (H:Ts s β Y w cs l zs ps):Ts s β Y w (c::cs) (q::l) (z++zs) (p::ps):=by
 refine⟨by simp[H.len],by simp[H.pl],?_,?_,?_,?_,fun fz A us hz1 hz2 hA hu own j0 Ew=>?_⟩
 ·intro x hx;rcases List.mem_cons.1 hx with rfl|hx
  ·exact Sl
  ·exact H.na x hx
 ·intro x hx;rcases List.mem_cons.1 hx with rfl|hx
  ·exact hF
  ·exact H.fr x hx
 ·intro id Ax;rcases List.mem_cons.1 Ax with e|Ax
  ·exact hq id e.symm
  ·exact H.own id Ax
 ·intro i hi;rcases List.mem_append.1 hi with hi|hi
  ·exact hz i hi
  ·exact H.row i hi
 ·cases us with
  |nil=>exact hu.elim
  |cons u us=>
   have h0:=Ew 0 (by simp)
   rw[Nat.add_zero] at h0;refine⟨?_,H.sem fz A us (fun i hi=>hz1 i (by simp[hi])) hz2 hA hu.2 own (j0+1) fun j hj=>?_⟩
   ·rw[h0];exact hv fz A u (fun i hi=>hz1 i (by simp[hi])) hz2 hA hu.1
   ·have:=Ew (j+1) (by simp;omega)
    rw[show j0+1+j=j0+(j+1) by omega,this]
    simp[Hl]
theorem Lo (h:Bp N w0 X0 Y β s a w){shr:Bool}:∀{ts:List CT}{ps:List PV}{K:List PV->List Nat->List Nat->Option R},Sf shr s.hp ts ps K=some r ->
  ∃cs l z,K cs (l.filterMap id) z=some r∧Ts s β Y w cs l z ps
 |[],[],K,hk=>⟨[],[],[],hk,Ts.nil⟩
 |[],_::_,K,hk=>by cases hk
 |_::_,[],K,hk=>by cases hk
 |t::ts,p::ps,K,hk=>by
  unfold Sf at hk;obtain⟨c,q,z,Ck,Sl,hF,hq,hz,hv⟩:=Zf h hk;obtain⟨cs,l,zs,C9,H⟩:=Lo h Ck;refine⟨c::cs,q::l,z++zs,?_,Ts.cons Sl hF hq hz hv H⟩;cases q<;>exact C9
theorem Tk (h:Bp N w0 X0 Y β s a w):∀{ts:List CT}{ws ps:List PV}{K:List PV->List Nat->List Nat->Option R},T7 s.hp ts ws ps K=some r ->
  ∃cs l z,K cs (l.filterMap id) z=some r∧cs.length=ws.length∧Ts s β Y w cs l z ps
 |[],[],[],K,hk=>⟨[],[],[],hk,rfl,Ts.nil⟩
 |[],_::_,_,K,hk=>by cases hk
 |[],[],_::_,K,hk=>by cases hk
 |_::_,[],_,K,hk=>by cases hk
 |_::_,_::_,[],K,hk=>by cases hk
 |t::ts,x::ws,p::ps,K,hk=>by
  unfold T7 at hk;obtain⟨c,q,z,Ck,Sl,hF,hq,hz,hv⟩:=Zf h hk;obtain⟨cs,l,zs,C9,hl,H⟩:=Tk h Ck;refine⟨c::cs,q::l,z++zs,?_,by simp[hl],Ts.cons Sl hF hq hz hv H⟩
  cases q<;>exact C9
theorem HT {own:Bt}{zz j:Nat}{p:PV}{u:Value}(hp:∀x,p ≠ .agg x∧p ≠ .pbox x)(h:Da w A own j [p] [u]):YV w A own zz j p u:=by
 cases p<;>first|exact h.1|exact absurd rfl (hp _).1|exact absurd rfl (hp _).2
theorem KJ (h:Bp N w0 X0 Y β s a w){id b o:Nat}{c cs:List PV}{l:List (Option Nat)} {z:List Nat}(h0:s.hp id=some (.st c)) (hβ:β id=some (b,o)) (H:Ts s β Y w cs l z c){fz:List Nat}{A:Nat->Prop}(h1:∀i∈z,i∈fz)(h2:H2 s fz)(hA:∀b,A b->Bv (Ac s.hp fz) β Y b)
  {own:Bt} {j0:Nat} (Ew:∀j,j<l.length->own (j0+j)=Hl β l j):WN w A own j0 b o cs:=by
 obtain⟨b',o',Dl,Hq,BJ⟩:=h.box id _ h0;rw[hβ] at Dl;cases Dl;refine⟨c.mapIdx (fun j _=>(w.cell? ⟨b,o+j,none⟩).getD undef),H.sem fz A _ h1 h2 hA ?_ own j0 Ew,?_,fun k hk=>BJ k (by have:=H.pl;omega)⟩
 ·refine Au.of_at (by simp) fun j p v hp hv=>?_
  obtain⟨u,hu,CA⟩:=Hq j p hp;rw[List.getElem?_mapIdx,hp,Option.map_some,hu] at hv;simp at hv;subst hv;exact CA
 ·intro k v NL;rw[List.getElem?_mapIdx] at NL;cases hp:c[k]? with
  |none=>rw[hp] at NL;cases NL
  |some p=>
   obtain⟨u,hu,CA⟩:=Hq k p hp;rw[hp,Option.map_some,hu] at NL;simp at NL;subst NL;exact hu
theorem OW (h:Bp N w0 X0 Y β s a w){shr:Bool}{t:TypeId}{p:PV}{u:Value}(hp:Cp w (Bv s.hp β Y) β p u) {K:PV->List Nat->List Nat->Option R}(hk:QG P shr s.hp t p K=some r):
  ∃v l z,K v (l.filterMap id) z=some r∧l.length=NR v∧UR s l∧H2 s z ∧
   ∀(fz:List Nat) A zz,(∀i∈z,i∈fz)->H2 s fz->(∀b,A b->Bv (Ac s.hp fz) β Y b)->(∀id c b o,some id∈l->s.hp id=some (.st c)->β id=some (b,o)->zz<=b) ->
    ∀own j0,(∀j,j<l.length->own (j0+j)=Hl β l j)->YV w A own zz j0 v u:=by
 unfold QG at hk;split at hk
 ·rename_i e he;split at hk
  ·rename_i id off;split at hk
   ·rename_i c h0;obtain⟨hof,Ck⟩:=Ae hk;have hof:=Nat.eq_of_beq_eq_true hof;subst hof;obtain⟨cs,l,z,C9,H⟩:=Lo h Ck;obtain⟨b,o,hβ,hu⟩:=hp;refine⟨.pbox cs,some id::l,z,C9,by simp only[NR,List.length_cons,H.len];omega,?_,H.row,fun fz A zz h1 h2 hA hz own j0 Ew=>?_⟩
    ·intro i hi;rcases List.mem_cons.1 hi with e|hi
     ·cases e;rw[h0];trivial
     ·obtain⟨c',Lh⟩:=H.own i hi;rw[Lh];trivial
    ·have h3:=Ew 0 (by simp)
     rw[Nat.add_zero] at h3;refine⟨b,o,by rw[h3];exact hβ,hz id c b o (by simp) h0 hβ,by rw[hu,Nat.add_zero],KJ h h0 hβ H h1 h2 hA fun j hj=>?_⟩
     have:=Ew (j+1) (by simp;omega)
     rw[show j0+1+j=j0+(j+1) by omega,this]
     simp[Hl]
   ·cases hk
  ·cases hk
 ·cases Dp:A9 P t<;>rw[Dp] at hk<;>simp only[cond_true,cond_false] at hk
  ·obtain⟨cs,l,z,Ck,H⟩:=Lo h hk;obtain⟨c,cs',Oj,C9⟩:=Ap Ck;subst Oj;obtain⟨Sh,K2⟩:=B1 C9;subst Sh;have Sl:=H.na c (by simp)
   have Y8:NR c=1:=by cases c<;>first|rfl|exact absurd rfl (Sl _).1|exact absurd rfl (Sl _).2
   have hF:=H.fr p (by simp)
   refine⟨c,l,z,K2,by rw[Y8];exact H.len,fun i hi=>?_,H.row,fun fz A zz h1 h2 hA _ own j0 Ew=>HT Sl (H.sem fz A [u] h1 h2 hA ⟨?_,trivial⟩ own j0 Ew)⟩
   ·obtain⟨c',Lh⟩:=H.own i hi;rw[Lh];trivial
   ·cases p<;>first|exact hp|exact hF.elim
  ·obtain⟨ps,W2,Ck⟩:=Eh hk;subst W2;obtain⟨cs,l,z,C9,H⟩:=Lo h Ck;obtain⟨vs,hu,F7⟩:=hp;refine⟨.agg cs,l,z,C9,H.len,fun i hi=>?_,H.row,fun fz A zz h1 h2 hA _ own j0 Ew=>⟨vs,hu,H.sem fz A vs h1 h2 hA F7 own j0 Ew⟩⟩
   obtain⟨c',Lh⟩:=H.own i hi;rw[Lh];trivial
def Z0 (P:Program)(tmps:Array Value)(w:World)(rv:ResultVar)(u:Value):Prop:=
  (match rv with
   |.tmp t=>(pure (tmps.getD t undef):Sem Value)
   |.cell a t=>do loadVar t (←asAddr (tmps.getD a undef))).run P w=.ok u w
theorem SQ (h:Bp N w0 X0 Y β s a w)(t:Nat):Cp w (Bv s.hp β Y) β (s.tm t) (a.tmps.getD t undef):=by
 rcases Nat.lt_or_ge t N with h'|h'
 ·exact h.tms t h'
 ·rw[h.tmo t h'];exact Ao.top _
theorem MF (h:Bp N w0 X0 Y β s a w){rv:ResultVar}{K:PV->Option R}(hk:RN P s rv K=some r):∃p u,K p=some r∧Z0 P a.tmps w rv u∧Cp w (Bv s.hp β Y) β p u:=by
 unfold RN at hk;split at hk
 ·rename_i t;exact⟨_,_,hk,rfl,SQ h t⟩
 ·rename_i x t;obtain⟨v,ad,val,Ck,Bw,hl,hv,_⟩:=EE h (SQ h x) hk;refine⟨v,val,Ck,?_,hv⟩;unfold Z0;simp[Bw,asAddr,hl]
theorem Ou {l l':List (Option Nat)} {j:Nat}(h:j<l.length):Hl β (l++l') j=Hl β l j:=by
 unfold Hl;rw[List.getElem?_append_left h]
theorem Oy {l l':List (Option Nat)} {j:Nat}:Hl β (l++l') (l.length+j)=Hl β l' j:=by
 unfold Hl;rw[List.getElem?_append_right (by omega),Nat.add_sub_cancel_left]
theorem Vd (h:Bp N w0 X0 Y β s a w){shr:Bool}:∀{rs:List ResultVar}{ts:List TypeId}{K:List PV->List Nat->List Nat->Option R},Z3 P shr s rs ts K=some r ->
  ∃vs l z us,K vs (l.filterMap id) z=some r∧Au (Z0 P a.tmps w) rs us∧l.length=J3 vs∧UR s l∧H2 s z ∧
   ∀(fz:List Nat) A zz,(∀i∈z,i∈fz)->H2 s fz->(∀b,A b->Bv (Ac s.hp fz) β Y b)->(∀id c b o,some id∈l->s.hp id=some (.st c)->β id=some (b,o)->zz<=b) ->
    ∀own j0,(∀j,j<l.length->own (j0+j)=Hl β l j)->KU w A own zz j0 vs us
 |[],[],K,hk=>⟨[],[],[],[],hk,trivial,rfl,(by intro id Ax;cases Ax),(by intro id Ax;cases Ax),fun _ _ _ _ _ _ _ _ _ _=>trivial⟩
 |[],_::_,K,hk=>by cases hk
 |_::_,[],K,hk=>by cases hk
 |rv::rs,t::ts,K,hk=>by
  unfold Z3 at hk;obtain⟨p,u,Ck,hu,hp⟩:=MF h hk;obtain⟨v,l,z,C9,hl,hL,hz,hv⟩:=OW h hp Ck;obtain⟨vs,l',z',us,K2,PL,Gc,OV,MQ,F7⟩:=Vd h C9;refine⟨v::vs,l++l',z++z',u::us,?_,⟨hu,PL⟩,by simp only[List.length_append,J3,List.map_cons,List.sum_cons,hl];rw[Gc];rfl,?_,?_,fun fz A zz h1 h2 hA I5 own j0 Ew=>⟨?_,?_⟩⟩
  ·rw[List.filterMap_append];exact K2
  ·intro id Ax;rcases List.mem_append.1 Ax with Ax|Ax
   ·exact hL id Ax
   ·exact OV id Ax
  ·intro id Ax;rcases List.mem_append.1 Ax with Ax|Ax
   ·exact hz id Ax
   ·exact MQ id Ax
  ·exact hv fz A zz (fun i hi=>h1 i (by simp[hi])) h2 hA (fun id c b o hi=>I5 id c b o (by simp[hi])) own j0 fun j hj=>by rw[Ew j (by simp;omega),Ou hj]
  ·refine F7 fz A zz (fun i hi=>h1 i (by simp[hi])) h2 hA (fun id c b o hi=>I5 id c b o (by simp[hi])) own (j0+NR v) fun j hj=>?_
   rw[←hl,Nat.add_assoc,Ew (l.length+j) (by simp;omega),Oy]
theorem Ls (h:Bp N w0 X0 Y β s a w){bt:Tl}(hpt:∀i,X0.pt i=bt i 0):∀{ts:List TypeId}{i:Nat}{ps:List PV}{K:List (List PV)->List Nat->List Nat->List Nat->Option R},R7 P N s.hp i ts ps K=some r ->
  (∀k p,ps[k]?=some p->Rb p=true->X0.pn (i+k)) ->
  ∃os l z q,K os (l.filterMap id) z q=some r∧(∀id,some id∈l->∃c,s.hp id=some (.ar false c))∧H2 s z∧(∀id∈q,Bu (s.hp id))∧(∀k p,ps[k]?=some p->Rb p=true->Bz N (i+k)∈q) ∧
   ∀(fz:List Nat) A,(∀i∈z,i∈fz)->H2 s fz->(∀i∈q,i ∉ fz)->(∀b,A b->Bv (Ac s.hp fz) β Y b) ->
    ∀own j0,(∀j,j<l.length->own (j0+j)=Hl β l j)->F1 w A own bt j0 i ps os
 |[],i,ps,K,hk,_=>by
  obtain⟨W2,hk⟩:=B1 hk;subst W2;exact⟨[],[],[],[],hk,by simp,(by intro id Ax;cases Ax),by simp,by simp,fun _ _ _ _ _ _ _ _ _=>rfl⟩
 |t::ts,i,ps,K,hk,hpn=>by
  unfold R7 at hk;obtain⟨p,ps',W2,Ck⟩:=Ap hk;subst W2
  have Abq:∀k p,ps'[k]?=some p->Rb p=true->X0.pn (i+1+k):=fun k p' h1 h2=>by
   have:=hpn (k+1) p' (by simpa using h1) h2
   rw[show i+1+k=i+(k+1) by omega]
   exact this
  have hpq:∀{q:List Nat},(Rb p=true->Bz N i∈q)->(∀k p,ps'[k]?=some p->Rb p=true->Bz N (i+1+k)∈q)->∀k p',(p::ps')[k]?=some p'->Rb p'=true->Bz N (i+k)∈q:=by
   intro q h1 h2 k p' h3 h4;cases k with
   |zero=>
    simp only[List.getElem?_cons_zero,Option.some.injEq] at h3;subst h3;exact h1 h4
   |succ k=>
    have:=h2 k p' (by simpa using h3) h4
    rw[show i+1+k=i+(k+1) by omega] at this
    exact this
  split at Ck
  ·rename_i ws;obtain⟨e,he,C9⟩:=Bl Ck;split at C9
   ·rename_i c h0;obtain⟨cs,l,z,K2,J0,H⟩:=Tk h C9;obtain⟨os,l',z',q,Uo,OV,MQ,Dk,YH,hv⟩:=Ls h hpt K2 Abq;refine⟨cs::os,l++l',z++z',Bz N i::q,by rw[List.filterMap_append];exact Uo,?_,?_,?_,hpq (fun _=>List.mem_cons_self) (fun k p h1 h2=>List.mem_cons_of_mem _ (YH k p h1 h2)),fun fz A h1 h2 h3 hA own j0 Ew=>?_⟩
    ·intro id Ax;rcases List.mem_append.1 Ax with Ax|Ax
     ·exact H.own id Ax
     ·exact OV id Ax
    ·intro id Ax;rcases List.mem_append.1 Ax with Ax|Ax
     ·exact H.row id Ax
     ·exact MQ id Ax
    ·intro id Ax;rcases List.mem_cons.1 Ax with rfl|Ax
     ·rw[h0];trivial
     ·exact Dk id Ax
    ·have V5:=(h.pin i (by have:=hpn 0 _ rfl rfl;rwa [Nat.add_zero] at this)).2
     obtain⟨b,o,Dl,_,_⟩:=h.box _ _ h0;rw[Dl,hpt] at V5;refine⟨⟨b,o,V5.symm,J0,KJ h h0 Dl H (fun i hi=>h1 i (by simp[hi])) h2 hA fun j hj=>by rw[Ew j (by simp;omega),Ou hj]⟩,?_⟩
     refine hv fz A (fun i hi=>h1 i (by simp[hi])) h2 (fun i hi=>h3 i (by simp[hi])) hA own (j0+cs.length) fun j hj=>?_
     rw[←H.len,Nat.add_assoc,Ew (l.length+j) (by simp;omega),Oy]
   ·cases C9
  ·split at Ck
   ·rename_i c h0;obtain⟨os,l',z',q,Uo,OV,MQ,Dk,YH,hv⟩:=Ls h hpt Ck Abq;refine⟨c::os,l',z',Bz N i::q,Uo,OV,MQ,?_,hpq (fun _=>List.mem_cons_self) (fun k p h1 h2=>List.mem_cons_of_mem _ (YH k p h1 h2)),fun fz A h1 h2 h3 hA own j0 Ew=>⟨?_,hv fz A h1 h2 (fun i hi=>h3 i (by simp[hi])) hA own j0 Ew⟩⟩
    ·intro id Ax;rcases List.mem_cons.1 Ax with rfl|Ax
     ·rw[h0];trivial
     ·exact Dk id Ax
    ·have V5:=(h.pin i (by have:=hpn 0 _ rfl rfl;rwa [Nat.add_zero] at this)).2
     rw[hpt] at V5;rcases h.box _ _ h0 with⟨h4,h5⟩|⟨b,o,h4,h5,h6,_⟩
     ·exact .inl ⟨by rw[←V5];exact h4,h5⟩
     ·exact .inr ⟨b,o,by rw[←V5];exact h4,h5.weak (fun b _ hb=>I0 (hA b hb)),h6 rfl⟩
   ·cases Ck
  ·rename_i DS VM;have SE:Rb p=false:=by cases p<;>first|rfl|exact absurd rfl (DS _)|exact absurd rfl (VM _)
   obtain⟨os,l',z',q,Uo,OV,MQ,Dk,YH,hv⟩:=Ls h hpt Ck Abq;refine⟨os,l',z',q,Uo,OV,MQ,Dk,hpq (fun e=>by rw[SE] at e;cases e) YH,fun fz A h1 h2 h3 hA own j0 Ew=>?_⟩
   have:=hv fz A h1 h2 h3 hA own j0 Ew;cases p<;>first|exact this|cases SE
theorem CL {f:ResultVar->Sem Value}:∀{rs:List ResultVar}{us:List Value},Au (fun rv u=>(f rv).run P w=.ok u w) rs us->(rs.mapM f).run P w=.ok us w
 |[],[],_=>by simp
 |[],_::_,h=>h.elim
 |_::_,[],h=>h.elim
 |rv::rs,u::us,h=>by
  rw[List.mapM_cons];simp[h.1,CL h.2]
theorem CS {fn:Func}{us:List Value}(h:Au (Z0 P a.tmps w) fn.results.toList us):(results fn a.tmps).run P w=.ok (Fc us) w:=by
 unfold results;rw[Array.mapM_eq_mapM_toList];simp only[map_eq_pure_bind,bind_assoc,pure_bind,Sem.run_bind];refine Eq.trans (congrArg (fun x=>Result.andThen x _) (CL h)) ?_
 simp only[Result.andThen_ok,Sem.run_pure]
 congr 1
 clear h
 match us with
 |[]=>rfl
 |[u]=>rfl
 |u::v::us=>exact dif_neg (by simp)
theorem FH:∀{l:List (Option Nat)},Cj (l.filterMap id)=true->∀{j j' i:Nat},l[j]?=some (some i)->l[j']?=some (some i)->j=j'
 |[],_,j,j',i,h,_=>by simp at h
 |q::l,hn,j,j',i,h,h'=>by
  have hn':Cj (l.filterMap id)=true:=by
   cases q with
   |none=>exact hn
   |some x=>
    simp only[List.filterMap_cons,id_eq,Cj,Bool.and_eq_true] at hn;exact hn.2
  have hq:∀(x k:Nat),q=some x->l[k]?≠some (some x):=by
   intro x k e hk;subst e;simp only[List.filterMap_cons,id_eq,Cj,Bool.and_eq_true,Bool.not_eq_true'] at hn;exact Lt hn.1 (List.mem_filterMap.2 ⟨some x,List.mem_of_getElem? hk,rfl⟩)
  cases j with
  |zero=>
   cases j' with
   |zero=>rfl
   |succ k'=>
    simp at h h';exact absurd h' (hq i k' h)
  |succ k=>
   cases j' with
   |zero=>
    simp at h h';exact absurd h (hq i k h')
   |succ k'=>
    simp at h h';rw[FH hn' h h']
theorem Xv {C:Eg}{f:FuncId}{fn:Func}{args:List PV}{res:Bg}{w:World}{Y:Nat->Prop}{bt:Tl}{us:List Value}(BT:Ins w Y bt args us){h8:∀k p,args[k]?=some p->Rb p=true->k<8}
  {s':St} {a':Act} {w':World} {β':Bt} (hr:MT C P f fn args s'=some res) (h:Bp fn.ntmps w (GL bt args h8) Y β' s' a' w'):
  a'.defers=[]∧∃v,(results fn a'.tmps).run P w'=.ok v w'∧∃vs own,Ending.returned v=.returned (Fc vs)∧ZZ w w' Y bt args own res vs:=by
 unfold MT at hr;obtain⟨vs,l,z,us',WX,PL,hll,hL,hz,hv⟩:=Vd h hr;obtain⟨os,l',z',q,hr2,OV,MQ,hq,YH,Je⟩:=Ls h (bt:=bt) (fun _=>rfl) WX (fun k p h1 h2=>by rw[Nat.zero_add];exact⟨p,h1,h2⟩)
 obtain⟨hnd,hr3⟩:=Ae hr2;cases hr3;simp only[Bool.and_eq_true] at hnd;obtain⟨hnd,Acb⟩:=hnd;obtain⟨DS,VM,hn3⟩:=Fd hnd
 have Lz:∀i∈z++z',i ∉ (l.filterMap id++l'.filterMap id)++q:=by
  intro i hi Hg;have:=List.all_eq_true.1 Acb i hi;have h2:((l.filterMap id++l'.filterMap id)++q).any (Nat.beq i)=true:=List.any_eq_true.2 ⟨i,Hg,Nat.beq_refl i⟩;rw[h2] at this;cases this
 have OI:H2 s' (z++z'):=by
  intro i hi;rcases List.mem_append.1 hi with hi|hi
  ·exact hz i hi
  ·exact MQ i hi
 refine⟨h.dfr,Fc us',CS PL,us',Hl β' (l++l'),rfl,?_⟩;have Akg:Cj ((l++l').filterMap id)=true:=by rw[List.filterMap_append];exact DS
 have Ew:∀j b o,Hl β' (l++l') j=some (b,o)->∃id,(l++l')[j]?=some (some id)∧β' id=some (b,o):=by
  intro j b o hj;unfold Hl at hj;cases WE:(l++l')[j]? with
  |none=>rw[WE] at hj;cases hj
  |some q=>
   cases q with
   |none=>rw[WE] at hj;cases hj
   |some id=>
    rw[WE] at hj;exact⟨id,rfl,hj⟩
 have Gz:∀(j i:Nat),(l++l')[j]?=some (some i)->i∈l.filterMap id++l'.filterMap id:=by
  intro j i hj;rw[←List.filterMap_append];exact List.mem_filterMap.2 ⟨some i,List.mem_of_getElem? hj,rfl⟩
 have D3:∀(j i:Nat),(l++l')[j]?=some (some i)->Bu (s'.hp i):=by
  intro j i hj;rcases List.mem_append.1 (List.mem_of_getElem? hj) with Hg|Hg
  ·exact hL i Hg
  ·obtain⟨c,hc⟩:=OV i Hg;rw[hc];trivial
 have Aao:∀i,i∈(l.filterMap id++l'.filterMap id)++q->Ac s'.hp (z++z') i=s'.hp i:=by
  intro i hi;rw[A4,if_neg (fun Hg=>Lz i Hg hi)]
 have ZW:∀i b o,bt i 0=some (b,o)->Bz fn.ntmps i∈q∧Bu (s'.hp (Bz fn.ntmps i))∧β' (Bz fn.ntmps i)=some (b,o):=by
  intro i b o CD;obtain⟨p,h1,h2⟩:=BT.l0 i _ CD;have h3:=YH i p h1 h2;rw[Nat.zero_add] at h3;exact⟨h3,hq _ h3,(h.pin i ⟨p,h1,h2⟩).2.trans CD⟩
 have hAO:∀b,Ru bt (Hl β' (l++l')) Y b->Bv (Ac s'.hp (z++z')) β' Y b:=by
  rintro b (⟨j,o,hj⟩|⟨i,o,CD⟩|hY)
  ·obtain⟨id,h1,h2⟩:=Ew j b o hj;refine .inl ⟨id,o,?_,h2⟩;rw[Aao id (List.mem_append.2 (.inl (Gz j id h1)))];exact D3 j id h1
  ·obtain⟨h1,h2,h3⟩:=ZW i b o CD;refine .inl ⟨_,o,?_,h3⟩;rw[Aao _ (List.mem_append.2 (.inr h1))];exact h2
  ·exact .inr hY
 have Pg:∀(j id b o:Nat),(l++l')[j]?=some (some id)->β' id=some (b,o)->b<w.heap.size->∃i k o',bt i (k+1)=some (b,o'):=by
  intro j id b o hj hβ Bk;rcases h.ownd b ⟨id,o,D3 j id hj,hβ⟩ with⟨i,k,o',CD⟩|PO
  ·cases k with
   |zero=>
    obtain⟨h1,h2,h3⟩:=ZW i b o' CD;have:=h.inj id _ b o o' (D3 j id hj) h2 hβ h3;subst this;exact absurd h1 (hn3 _ (Gz j _ hj))
   |succ k=>exact⟨i,k,o',CD⟩
  ·omega
 refine⟨h.fr.os,h.fr.tape,h.fr.output,h.fr.step,h.fr.rng,?_,?_,?_,?_⟩
 ·refine hv (z++z') _ _ (fun i hi=>List.mem_append.2 (.inl hi)) OI hAO (fun id c b o hi hc hβ=>?_) _ 0 (fun j hj=>by rw[Nat.zero_add,Ou hj])
  rcases Nat.lt_or_ge b w.heap.size with Bk|PO
  ·obtain⟨k,Hp,p,h1,h2⟩:=h.stp id c b o hc hβ Bk;have h3:=YH k p h1 h2;rw[Nat.zero_add,←Hp] at h3;obtain⟨j,hj⟩:=List.mem_iff_getElem?.1 hi;refine absurd h3 (hn3 id ?_);exact List.mem_append.2 (.inl (List.mem_filterMap.2 ⟨some id,hi,rfl⟩))
  ·exact PO
 ·refine Je (z++z') _ (fun i hi=>List.mem_append.2 (.inr hi)) OI (fun i hi Hg=>Lz i Hg (List.mem_append.2 (.inr hi))) hAO _ _ (fun j hj=>?_)
  rw[←hll,Oy]
 ·intro j b o hj;obtain⟨id,h1,h2⟩:=Ew j b o hj;refine⟨h.blt id b o (Br (D3 j id h1)) h2,fun Bk=>⟨Pg j id b o h1 h2 Bk,fun x hx=>?_⟩⟩
  cases Hy:s'.hp id with
  |none=>have:=D3 j id h1;rw[Hy] at this;exact this.elim
  |some bx=>
   have Us:=D3 j id h1;rw[Hy] at Us;cases bx with
   |st c=>
    obtain⟨k,Hp,p,h3,h4⟩:=h.stp id c b o Hy h2 Bk;have h5:=YH k p h3 h4;rw[Nat.zero_add,←Hp] at h5;exact absurd h5 (hn3 _ (Gz j _ h1))
   |ar fz c=>exact h.rngB id _ b o Hy Us h2 Bk x hx
   |mv=>exact Us.elim
 ·intro j j' b o o' hj I8;obtain⟨id,h1,h2⟩:=Ew j b o hj;obtain⟨id',Ur,h2'⟩:=Ew j' b o' I8;have:=h.inj id id' b o o' (D3 j id h1) (D3 j' id' Ur) h2 h2';subst this;exact FH Akg h1 Ur
theorem GZ {G:Glo}(G9:NoNG P)(hm:P.follows .mixedOrders=true){C:Eg}{fu:Nat}{call:Al}(Ce:∀f args res,call f args=some res->Db G P f args res){f:FuncId}{fn:Func}{c:Code}(hf:P.funcs[f]?=some fn) (hb:fn.body=some c)
  {args:List PV} {res:Bg} (hk:Ac8 C P fu call f fn c args=some res):Db G P f args res:=by
 refine⟨⟨fn,hf,by rw[hb];rfl⟩,fun w Y bt us BT hG hGY=>?_⟩
 unfold Ac8 at hk;obtain⟨tms,bs,Ck,I5⟩:=NJ BT hk;obtain⟨Dl,C9⟩:=Ae Ck;simp only[Bool.and_eq_true] at Dl
 have Cy:us.length<=fn.ntmps:=by
  rw[←BT.args.len];exact Nat.le_of_ble_eq_true Dl.1
 obtain⟨h8,β0,hs⟩:=I5 Dl.2 Cy;refine calls_of_wp hf hb ?_;have hE:FQ P G w (GL bt args h8):=⟨G9,fun w' WC=>G.stable w w' (fun b hb Bk=>WC.step.keep b Bk (hGY b hb).2) hG,hGY⟩
 refine GQ hE Ce hm c hs C9 (fun s' a' w' β' hr h=>Xv BT hr h) (fun id s' a' w' β' hr h=>by cases hr) (fun s' a' w' β' hr h=>Xv BT hr h)
def ExtOk (G:Glo)(P:Program)(C:Eg):Prop:=∀f g args res,C.ext f=some g->g args=some res->Db G P f args res
theorem Th {G:Glo}(G9:NoNG P)(hm:P.follows .mixedOrders=true){C:Eg}(hx:ExtOk G P C){fu:Nat}:∀(d:Nat)(f:FuncId)(args:List PV)(res:Bg),Am C P fu d f args=some res->Db G P f args res
 |0,_,_,_,h=>by cases h
 |d+1,f,args,res,h=>by
  unfold Am at h;split at h
  ·rename_i g hg;exact hx f g args res hg h
  ·split at h
   ·cases h
   ·rename_i fn hf;split at h
    ·cases h
    ·rename_i c hb;exact GZ G9 hm (Th G9 hm hx d) hf hb h
end
open Go.ChangeShapes Go.WideShapes Go.ChangeAt Go.RowKit Go.Deep
def BG (P:Program):List Field->Nat->Nat->Bool
 |[],i,n=>Nat.beq i n
 |f::r,i,n=>Nat.beq f.offset i&&BG P r (i+P.cellsOf f.type) n
def Ih (P:Program):Nat->TypeId->Bool
 |0,_=>false
 |d+1,t=>
  match P.underlying t with
  |some .bool=>true
  |some (.int _)=>true
  |some .string=>true
  |some (.slice e)=>Ih P d e&&Nat.blt 0 (P.cellsOf e)
  |some (.struct fs)=>BG P fs.toList 0 (P.cellsOf t)&&fs.toList.all fun f=>Ih P d f.type
  |some (.array n e)=>Nat.beq (P.cellsOf t) (n*P.cellsOf e)&&Ih P d e
  |_=>false
def WT (P:Program):Nat->TypeId->List PV->Prop
 |0,_,_=>False
 |d+1,t,ps=>
  match P.underlying t with
  |some .bool=>∃b,ps=[.sc (.bool b)]
  |some (.int k)=>∃n,ps=[.sc (.int k n)]∧(Lit.int k n).wf=true
  |some .string=>∃s:ByteArray,ps=[.sc (.string s)]∧s.size<=maxLen
  |some (.slice e)=>∃rows:List (List PV),ps=[.lst false (P.cellsOf e) rows.length rows.flatten]∧rows.length<=maxLen∧∀r∈rows,r.length=P.cellsOf e∧WT P d e r
  |some (.struct fs)=>∃rows:List (List PV),ps=rows.flatten∧Au (fun f r=>WT P d f.type r) fs.toList rows
  |some (.array n e)=>∃rows:List (List PV),ps=rows.flatten∧rows.length=n∧∀r∈rows,r.length=P.cellsOf e∧WT P d e r
  |_=>False
def ZP (P:Program)(t:TypeId)(p:PV):Prop:=
 match A9 P t with
 |true=>∃ps,p=.agg ps∧WT P 12 t ps
 |false=>WT P 12 t [p]
section
variable {P:Program} {d:Nat} {t e:TypeId} {ps:List PV}
theorem LS (hu:P.underlying t=some .bool):WT P (d+1) t ps↔∃b,ps=[.sc (.bool b)]:=by
 show (match P.underlying t with|some .bool=>_|some (.int k)=>_|some .string=>_|some (.slice e)=>_|some (.struct fs)=>_|some (.array n e)=>_|_=>_)↔_
 rw[hu]
theorem Ach {k:IntKind}(hu:P.underlying t=some (.int k)):WT P (d+1) t ps↔∃n,ps=[.sc (.int k n)]∧(Lit.int k n).wf=true:=by
 show (match P.underlying t with|some .bool=>_|some (.int k)=>_|some .string=>_|some (.slice e)=>_|some (.struct fs)=>_|some (.array n e)=>_|_=>_)↔_
 rw[hu]
theorem MD (hu:P.underlying t=some .string):WT P (d+1) t ps↔∃s:ByteArray,ps=[.sc (.string s)]∧s.size<=maxLen:=by
 show (match P.underlying t with|some .bool=>_|some (.int k)=>_|some .string=>_|some (.slice e)=>_|some (.struct fs)=>_|some (.array n e)=>_|_=>_)↔_
 rw[hu]
theorem FO (hu:P.underlying t=some (.slice e)):WT P (d+1) t ps↔∃rows:List (List PV),ps=[.lst false (P.cellsOf e) rows.length rows.flatten]∧rows.length<=maxLen∧∀r∈rows,r.length=P.cellsOf e∧WT P d e r:=by
 show (match P.underlying t with|some .bool=>_|some (.int k)=>_|some .string=>_|some (.slice e)=>_|some (.struct fs)=>_|some (.array n e)=>_|_=>_)↔_
 rw[hu]
theorem OO {fs:Array Field}(hu:P.underlying t=some (.struct fs)):WT P (d+1) t ps↔∃rows:List (List PV),ps=rows.flatten∧Au (fun f r=>WT P d f.type r) fs.toList rows:=by
 show (match P.underlying t with|some .bool=>_|some (.int k)=>_|some .string=>_|some (.slice e)=>_|some (.struct fs)=>_|some (.array n e)=>_|_=>_)↔_
 rw[hu]
theorem TU {n:Nat}(hu:P.underlying t=some (.array n e)):WT P (d+1) t ps↔∃rows:List (List PV),ps=rows.flatten∧rows.length=n∧∀r∈rows,r.length=P.cellsOf e∧WT P d e r:=by
 show (match P.underlying t with|some .bool=>_|some (.int k)=>_|some .string=>_|some (.slice e)=>_|some (.struct fs)=>_|some (.array n e)=>_|_=>_)↔_
 rw[hu]
end
inductive Ki where
 |bool
 |int (k:IntKind)
 |str
 |sl (e:TypeId)
 |st (ts:List TypeId)
 |ar (n:Nat) (e:TypeId)
 |no
def Vv (P:Program)(t:TypeId):Ki:=
 match P.underlying t with
 |some .bool=>.bool
 |some (.int k)=>.int k
 |some .string=>.str
 |some (.slice e)=>.sl e
 |some (.struct fs)=>.st (fs.toList.map (·.type))
 |some (.array n e)=>.ar n e
 |_=>.no
section
variable {P:Program} {d:Nat} {t e:TypeId} {ps:List PV} {p:PV}
theorem Au.cons_inv {α β:Type}{R:α->β->Prop}{a:α}{zs:List α}:∀{rs:List β},Au R (a::zs) rs->∃r rs',rs=r::rs'∧R a r∧Au R zs rs'
 |[],h=>h.elim
 |r::rs,h=>⟨r,rs,rfl,h.1,h.2⟩
theorem Au.nil_inv {α β:Type}{R:α->β->Prop}:∀{rs:List β},Au R ([]:List α) rs->rs=[]
 |[],_=>rfl
 |_::_,h=>h.elim
theorem ZI (hk:Vv P t=.bool)(h:WT P d t ps):∃b,ps=[.sc (.bool b)]:=by
 cases d with
 |zero=>exact h.elim
 |succ d=>
 unfold Vv at hk;split at hk<;>first|cases hk|skip
 rename_i hu;exact (LS hu).1 h
theorem Af5 (hk:Vv P t=.sl e)(h:WT P d t ps):∃rows:List (List PV),ps=[.lst false (P.cellsOf e) rows.length rows.flatten]∧rows.length<=maxLen∧∀r∈rows,r.length=P.cellsOf e∧WT P (d-1) e r:=by
 cases d with
 |zero=>exact h.elim
 |succ d=>
 rw[Nat.add_sub_cancel];unfold Vv at hk;split at hk<;>first|cases hk|skip
 rename_i hu;exact (FO hu).1 h
theorem XP (hk:A9 P t=false)(h:ZP P t p):WT P 12 t [p]:=by
 unfold ZP at h;rw[hk] at h;exact h
theorem Ac7 (ha:A9 P t=false)(hk:Vv P t=.sl e)(h:ZP P t p):∃rows:List (List PV),p=.lst false (P.cellsOf e) rows.length rows.flatten∧rows.length<=maxLen∧∀r∈rows,r.length=P.cellsOf e∧WT P (12-1) e r:=by
 obtain⟨b,e,h⟩:=Af5 hk (XP ha h);exact⟨b,by injection e,h⟩
theorem S6 {α:Type}(f:α->List PV)(Q:α->Prop):∀{rows:List (List PV)},(∀r∈rows,∃x,r=f x∧Q x)->∃xs:List α,rows.flatten=xs.flatMap f∧rows.length=xs.length∧∀x∈xs,Q x
 |[],_=>⟨[],rfl,rfl,by simp⟩
 |r::rows,h=>by
  obtain⟨x,h1,h2⟩:=h r (by simp)
  obtain⟨xs,h3,h4,h5⟩:=S6 (rows:=rows) f Q fun r hr=>h r (by simp[hr])
  refine⟨x::xs,by simp[h1,h3],by simp[h4],fun y hy=>?_⟩
  rcases List.mem_cons.1 hy with rfl|hy
  ·exact h2
  ·exact h5 y hy
end
abbrev No:Nat->Prop:=fun _=>False
section
variable {H:Type} {enc:TypeId × Value->H} {P:Program} {w:World} {base:Nat} {held:Bool}
theorem Au.flat {α β:Type}{R:α->β->Prop}:∀{l:List Nat}{f:Nat->List α}{g:Nat->List β},(∀i∈l,Au R (f i) (g i))->Au R (l.map f).flatten (l.map g).flatten
 |[],_,_,_=>trivial
 |i::l,f,g,h=>by
  simp only[List.map_cons,List.flatten_cons];exact (h i (by simp)).app (Au.flat fun j hj=>h j (by simp[hj]))
theorem NH {a:Addr}{v:Value}(h:w.cell? a=some v):a.spot=none∧a.block<w.heap.size:=by
 unfold World.cell? at h;split at h
 ·rename_i c t f e;refine⟨?_,?_⟩
  ·cases hs:a.spot with
   |none=>rfl
   |some x=>rw[hs] at h;simp at h
  ·rcases Nat.lt_or_ge a.block w.heap.size with h1|h1
   ·exact h1
   ·rw[Array.getElem?_eq_none h1] at e;cases e
 ·cases h
theorem V6 {α:Type}{g:Nat->List α}{es:Nat}:∀{n:Nat},(∀i,i<n->(g i).length=es)->((List.range n).map g).flatten.length=n*es
 |0,_=>by simp
 |n+1,h=>by
  rw[List.range_succ,List.map_append,List.flatten_append,List.length_append,V6 (fun i hi=>h i (by omega))]
  simp[h n (by omega),Nat.succ_mul]
theorem Vb {a:Addr}{g:Nat->List Value}{es:Nat}:∀{n:Nat},(∀i,i<n->(g i).length=es)->(∀i,i<n->∀k,k<es->w.cell? (a.add (i*es+k))=(g i)[k]?) ->
  ∀j,j<n*es->w.cell? (a.add j)=(((List.range n).map g).flatten)[j]?
 |0,_,_,j,hj=>by omega
 |n+1,hl,hc,j,hj=>by
  have Xz:=V6 (fun i (hi:i<n)=>hl i (by omega))
  rw[List.range_succ,List.map_append,List.flatten_append,List.getElem?_append,Xz];rw[Nat.succ_mul] at hj;split
  ·rename_i h1;exact Vb (fun i hi=>hl i (by omega)) (fun i hi=>hc i (by omega)) j h1
  ·rename_i h1;have:=hc n (by omega) (j-n*es) (by omega)
   rw[show n*es+(j-n*es)=j by omega] at this
   simpa using this
abbrev TR (w:World)(c:PV)(v:Value):Prop:=(Ob c∧Ao w No c v)∧v.oneCell'=true
theorem Sq {d:Nat}{cs:List Value}{n:Nat}(hn:cs.length=n):∀(l:List Field)(i:Nat),BG P l i n=true ->
  (∀f∈l,∃ps,WT P d f.type ps∧Au (TR w) ps ((cs.drop f.offset).take (P.cellsOf f.type)))->∃rows:List (List PV),Au (fun f r=>WT P d f.type r) l rows∧Au (TR w) rows.flatten (cs.drop i)
 |[],i,ho,_=>by
  have:=Nat.eq_of_beq_eq_true ho;refine⟨[],trivial,?_⟩;rw[List.drop_of_length_le (by omega)]
  trivial
 |f::l,i,ho,h=>by
  simp only[BG,Bool.and_eq_true] at ho;have ho1:=Nat.eq_of_beq_eq_true ho.1;obtain⟨ps,h1,h2⟩:=h f (by simp)
  obtain⟨rows,h3,h4⟩:=Sq hn l _ ho.2 fun g hg=>h g (by simp[hg])
  refine⟨ps::rows,⟨h1,h3⟩,?_⟩;rw[ho1] at h2;have:cs.drop i=(cs.drop i).take (P.cellsOf f.type)++cs.drop (i+P.cellsOf f.type):=by rw[←List.drop_drop];exact (List.take_append_drop _ _).symm
  rw[this,List.flatten_cons];exact h2.app h4
theorem Wi {d:Nat}{e:TypeId}{cs:List Value}{k:Nat}:∀(n:Nat),n*k<=cs.length ->
  (∀i,i<n->∃ps,(ps.length=k∧WT P d e ps)∧Au (TR w) ps ((cs.drop (i*k)).take k))->∃rows:List (List PV),rows.length=n∧(∀r∈rows,r.length=k∧WT P d e r)∧Au (TR w) rows.flatten (cs.take (n*k))
 |0,_,_=>⟨[],rfl,by simp,by simp[Au]⟩
 |n+1,hl,h=>by
  rw[Nat.succ_mul] at hl;obtain⟨rows,h1,h2,h3⟩:=Wi n (by omega) fun i hi=>h i (by omega)
  obtain⟨ps,h4,h5⟩:=h n (by omega)
  refine⟨rows++[ps],by simp[h1],?_,?_⟩
  ·intro r hr;rcases List.mem_append.1 hr with hr|hr
   ·exact h2 r hr
   ·rw[List.mem_singleton.1 hr];exact h4
  ·rw[List.flatten_append,Nat.succ_mul,List.take_add];refine h3.app ?_
   simpa using h5
theorem Nl:∀(d:Nat)(t:TypeId),Ih P d t=true->∀(fuel:Nat)(cs:List Value)(x:DataW H × List MemPlace),DataW.trod enc P w base (fun _=>true) held fuel t cs=some x ->
  ∃ps,WT P d t ps∧Au (TR w) ps cs
 |0,_,h,_,_,_,_=>by cases h
 |d+1,t,hp,fuel,cs,x,h=>by
  unfold Ih at hp;split at hp
  ·rename_i hu;obtain⟨b,rfl,_⟩:=DataW.trod_bool hu h;simp only[LS hu];exact⟨[.sc (.bool b)],⟨b,rfl⟩,⟨⟨trivial,Ao.sc _⟩,rfl⟩,trivial⟩
  ·rename_i k hu;obtain⟨n,rfl,_,hw⟩:=DataW.trod_int hu h;simp only[Ach hu];exact⟨[.sc (.int k n)],⟨n,rfl,hw⟩,⟨⟨trivial,Ao.sc _⟩,rfl⟩,trivial⟩
  ·rename_i hu;obtain⟨s,rfl,_,hw⟩:=DataW.trod_string hu h;simp only[MD hu];exact⟨[.sc (.string s)],⟨s,rfl,hw⟩,⟨⟨trivial,Ao.sc _⟩,rfl⟩,trivial⟩
  ·rename_i e hu;simp only[Bool.and_eq_true] at hp;have Py:0<P.cellsOf e:=Nat.lt_of_succ_le (Nat.le_of_ble_eq_true hp.2);simp only[FO hu];rcases open_slice hu h with⟨rfl,_⟩|⟨a,len,cap,m,n,D,Pl,rfl,_,hl,hm,PK,_,hi⟩
   ·exact⟨[.lst false (P.cellsOf e) 0 []],⟨[],by simp,by simp,by simp⟩,⟨⟨trivial,Ao.lnil _ _⟩,rfl⟩,trivial⟩
   ·simp only[if_true] at PK;subst PK
    have AA:∀i,i<len->∃q:List PV × List Value,(q.2.length=P.cellsOf e∧(∀k,k<P.cellsOf e->w.cell? (a.add (i*P.cellsOf e+k))=q.2[k]?))∧WT P d e q.1∧Au (TR w) q.1 q.2:=by
     intro i Bk;obtain⟨cs',hc,ht⟩:=hi i (by omega)
     obtain⟨_,J0,hat⟩:=World.cells?_some hc;obtain⟨ps,h1,h2⟩:=Nl d e hp.1 _ _ _ ht;exact⟨(ps,cs'),⟨J0,fun k hk=>by rw[←Pv.add_add];exact hat k hk⟩,h1,h2⟩
    obtain⟨F,hF⟩:=choose_lt AA;refine⟨[.lst false (P.cellsOf e) len ((List.range len).map fun i=>(F i).1).flatten],⟨(List.range len).map fun i=>(F i).1,by simp,by simp;omega,?_⟩,⟨⟨trivial,?_⟩,rfl⟩,trivial⟩
    ·intro r hr;obtain⟨i,hi1,rfl⟩:=List.mem_map.1 hr;have hi2:=List.mem_range.1 hi1;exact⟨by rw[(hF i hi2).2.2.len];exact (hF i hi2).1.1,(hF i hi2).2.1⟩
    ·rcases Nat.eq_zero_or_pos len with h0|h0
     ·subst h0;exact Ao.lemp _ _ _
     ·have I7:Au (TR w) ((List.range len).map fun i=>(F i).1).flatten ((List.range len).map fun i=>(F i).2).flatten:=Au.flat fun i hi=>(hF i (List.mem_range.1 hi)).2.2
      have hcell:=Vb (w:=w) (a:=a) (g:=fun i=>(F i).2) (fun i hi=>(hF i hi).1.1) (fun i hi=>(hF i hi).1.2)
      have Cy:=V6 (g:=fun i=>(F i).2) (fun i (hi:i<len)=>(hF i hi).1.1)
      have h00:w.cell? a≠none:=by
       have:=hcell 0 (Nat.mul_pos h0 Py);rw[show a.add 0=a by unfold Addr.add;simp] at this
       rw[this,List.getElem?_eq_getElem (by rw[Cy];exact Nat.mul_pos h0 Py)]
       simp
      obtain⟨v0,hv0⟩:=Option.ne_none_iff_exists'.1 h00;obtain⟨hs,hb⟩:=NH hv0
      have key:∀j c,(((List.range len).map fun i=>(F i).1).flatten)[j]?=some c->∃v,w.cell? (a.add j)=some v∧TR w c v:=by
       intro j c hj
       have WE:j<len*P.cellsOf e:=by
        rw[←Cy,←I7.len];rcases Nat.lt_or_ge j (((List.range len).map fun i=>(F i).1).flatten).length with h1|h1
        ·exact h1
        ·rw[List.getElem?_eq_none h1] at hj;cases hj
       have h1:=hcell j WE;rw[List.getElem?_eq_getElem (by rw[Cy];exact WE)] at h1
       exact⟨_,h1,I7.at_ hj (List.getElem?_eq_getElem (by rw[Cy];exact WE))⟩
      refine Ao.lst _ _ _ a _ (fun j=>(w.cell? (a.add j)).getD undef) hs hb (fun h=>h) hl (fun j c hj=>?_) (fun j c hj=>?_) (fun j c hj=>?_)
      ·obtain⟨v,hv,_⟩:=key j c hj;rw[hv];rfl
      ·obtain⟨v,hv,ht⟩:=key j c hj;rw[hv];exact ht.2
      ·obtain⟨v,hv,ht⟩:=key j c hj;rw[hv];exact ht.1.2
  ·rename_i fs hu;simp only[Bool.and_eq_true] at hp;simp only[OO hu];obtain⟨xs,n,_,_,Cy,hxl,hf⟩:=DataW.trod_struct hu h
   obtain⟨rows,h1,h2⟩:=Sq (P:=P) (w:=w) (d:=d) Cy fs.toList 0 hp.1 fun f NP=>by
    obtain⟨i,hi⟩:=List.mem_iff_getElem?.1 NP;have AA:fs[i]?=some f:=by simpa using hi
    have Bk:i<fs.size:=(Array.getElem?_eq_some_iff.1 AA).1;have h3:=hf i f AA;rw[List.getElem?_eq_getElem (by omega)] at h3
    exact Nl d f.type (List.all_eq_true.1 hp.2 f NP) _ _ _ h3
   exact⟨_,⟨rows,rfl,h1⟩,by simpa using h2⟩
  ·rename_i n e hu;simp only[Bool.and_eq_true] at hp;simp only[TU hu];obtain⟨xs,m,_,_,Cy,hxl,hf⟩:=DataW.trod_array hu h;have Ik:=Nat.eq_of_beq_eq_true hp.1
   obtain⟨rows,h1,h2,h3⟩:=Wi (P:=P) (w:=w) (d:=d) (e:=e) (cs:=cs) (k:=P.cellsOf e) n (by omega) fun i hi=>by
    have h3:=hf i hi;rw[List.getElem?_eq_getElem (by omega)] at h3
    obtain⟨ps,h4,h5⟩:=Nl d e hp.2 _ _ _ h3;refine⟨ps,⟨?_,h4⟩,h5⟩;rw[h5.len,List.length_take,List.length_drop,Cy,Ik];have:(i+1)*P.cellsOf e<=n*P.cellsOf e:=Nat.mul_le_mul_right _ hi;rw[Nat.succ_mul] at this;omega
   refine⟨_,⟨rows,rfl,h1,h2⟩,?_⟩;rw[List.take_of_length_le (by omega)] at h3
   exact h3
  ·cases hp
theorem TX {r:Reach}{b0:Nat}{t:TypeId}{v:Value}{dd:DataW H}{p:List MemPlace}(hp:Ih P 12 t=true)(hv:Value.okWide P w r b0 t v)(h:DataW.Trod enc P w base (fun _=>true) held t v dd p):
  ∃q,ZP P t q∧Lr w No q v:=by
 obtain⟨fuel,hf⟩:=h;obtain⟨ps,h1,h2⟩:=Nl 12 t hp fuel _ _ hf;unfold ZP A9
 have two:∀{cs:Array Value},v=.agg cs->∃q,(∃ps,q=.agg ps∧WT P 12 t ps)∧Lr w No q v:=by
  intro cs e;subst e;exact⟨.agg ps,⟨ps,rfl,h1⟩,cs.toList,by simp,h2.mono fun c v h=>h.1⟩
 have one:v.cells.toList=[v]->∃q,WT P 12 t [q]∧Lr w No q v:=by
  intro e;rw[e] at h2
  match ps,h2 with
  |[q],h2=>
   refine⟨q,h1,?_⟩;have h3:=h2.1.1;cases q<;>first|exact h3|exact h3.1.elim
  |[],h2=>exact h2.elim
  |_::_::_,h2=>exact h2.2.elim
 unfold Ih at hp;split at hp
 ·rename_i hu;simp only[hu];obtain⟨b,rfl,_⟩:=open_bool hu hv ⟨fuel,hf⟩;exact one rfl
 ·rename_i k hu;simp only[hu];obtain⟨b,rfl,_⟩:=open_int hu hv ⟨fuel,hf⟩;exact one rfl
 ·rename_i hu;simp only[hu];obtain⟨b,rfl,_⟩:=ChangeMaps.open_string hu hv ⟨fuel,hf⟩;exact one rfl
 ·rename_i e hu;simp only[hu];obtain⟨a,len,cap,rfl⟩:=okWide_slice hu hv;exact one rfl
 ·rename_i fs hu;simp only[hu];obtain⟨cs,rfl,_⟩:=okWide_struct hu hv;exact two rfl
 ·rename_i n e hu;simp only[hu];unfold Value.okWide at hv;simp only[hu] at hv;obtain⟨cs,rfl,_⟩:=hv;exact two rfl
 ·cases hp
theorem Yt:∀{ts:List TypeId}{vs:List Value}{ds:List (DataW H)} {p:List MemPlace}{r:Reach}{b0:Nat},(ts.all fun t=>Ih P 12 t)=true->(∀(j:Nat) t v,ts[j]?=some t->vs[j]?=some v->Value.okWide P w r b0 t v) ->
  DataW.TrodAll enc P w base (fun _=>true) held ts vs ds p->∃qs,Au (ZP P) ts qs∧Au (Lr w No) qs vs
 |[],[],[],_,_,_,_,_,_=>⟨[],trivial,trivial⟩
 |t::ts,v::vs,d::ds,_,r,b0,hp,hv,⟨p,q,h1,h2,_⟩=>by
  simp only[List.all_cons,Bool.and_eq_true] at hp;obtain⟨x,h3,h4⟩:=TX hp.1 (hv 0 t v rfl rfl) h1;obtain⟨xs,h5,h6⟩:=Yt hp.2 (fun j t v ht Je=>hv (j+1) t v ht Je) h2
  exact⟨x::xs,⟨h3,h5⟩,h4,h6⟩
 |[],_::_,_,_,_,_,_,_,h=>by cases h
 |[],[],_::_,_,_,_,_,_,h=>by cases h
 |_::_,[],_,_,_,_,_,_,h=>by cases h
 |_::_,_::_,[],_,_,_,_,_,h=>by cases h
theorem Ol (hl:laidOutB P=true){W W':World}{sp:Nat->Bool}:∀{ts:List TypeId}{vs:List Value}{ds:List (DataW H)} {p:List MemPlace},(ts.all fun t=>P.readableRec t&&Nat.blt t P.types.size)=true ->
  DataW.TrodAll enc P W 0 (fun _=>true) true ts vs ds p->(∀x∈p,W.sameAt W' x)->(∀x∈p,sp x.block=true)->DataW.TrodAll enc P W' 0 sp true ts vs ds p
 |[],[],[],_,_,h,_,_=>h
 |t::ts,v::vs,d::ds,_,hr,⟨p,q,h1,h2,e⟩,hs,PW=>by
  simp only[List.all_cons,Bool.and_eq_true] at hr;refine⟨p,q,WideElems.Trod_stays hl hr.1.1 (Nat.lt_of_succ_le (Nat.le_of_ble_eq_true hr.1.2)) h1 (fun x hx=>hs x ?_) (fun x hx=>PW x ?_),Ol hl hr.2 h2 (fun x hx=>hs x ?_) (fun x hx=>PW x ?_),e⟩
  all_goals rw[e,List.mem_append]
  ·exact .inl hx
  ·exact .inl hx
  ·exact .inr hx
  ·exact .inr hx
 |[],_::_,_,_,_,h,_,_=>by cases h
 |[],[],_::_,_,_,h,_,_=>by cases h
 |_::_,[],_,_,_,h,_,_=>by cases h
 |_::_,_::_,[],_,_,h,_,_=>by cases h
theorem Xq {f:Func}{s:ChangeSpec}{apart fresh Zh again:Bool}{W W':World}{args:Array Value}{v:Value}{ds gs:List (DataW H)} {before pa pv:List MemPlace}
  (hW:DataW.Whole enc P f.params.toList s.vars apart W args.toList ds gs before)
  (Aee:∀(b:Nat)(sp:Nat->Bool)(hd:Bool),DataW.TrodAll enc P W' b sp hd f.resultTypes.toList (v.resultList f.resultTypes.size) (s.fn H (ds++gs)).results [])
  (C3:∀sp:Nat->Bool,(∀p∈before,sp p.block=true)->DataW.TrodAll enc P W' 0 sp true f.params.toList args.toList (s.fn H (ds++gs)).args pa)
  (CF:∀sp:Nat->Bool,(∀p∈before,sp p.block=true)->DataW.TrodVars enc P W' sp s.vars (s.fn H (ds++gs)).vars pv)
  (W2:before=pa++pv)(hb:Below W.heap.size W W')
  (Jc:∀(j:Nat)(t:TypeId)(r:Value),f.resultTypes[j]?=some t->(v.resultList f.resultTypes.size)[j]?=some r->Value.okWide P W' .any 0 t r):
  s.post enc P f apart fresh Zh again W args v W':=by
 have Bk:∀p∈before,p.block<W.heap.size:=fun p hp=>hW.lt p hp
 have hold:∀p∈before,(fun b=>decide (b<W.heap.size)) p.block=true:=fun p hp=>by simpa using Bk p hp
 refine⟨ds,gs,before,[],pa,pv,hW,Aee _ _ _,C3 _ hold,CF _ hold,World.keptBut_mono (fun p hp=>⟨hp,?_⟩) (hb.frame (· ∈ before)),fun _=>?_⟩
 ·rw[W2,List.mem_append] at hp;exact Or.inr hp
 ·obtain⟨_,_,_,_,_,hz,hn⟩:=hW;refine⟨Jc,_,_,([]++pa)++pv,⟨[]++pa,pv,trodAll_append (C3 _ (fun _ _=>rfl)) (Aee _ _ _),CF _ (fun _ _=>rfl),rfl,?_,?_⟩,?_⟩
  ·intro b off hp;have BT:MemPlace.cell b off∈before:=by rw[W2];simpa using hp
   rw[hb.frozen (Bk _ BT)];exact hz b off BT
  ·intro ha;have:=hn ha;rw[W2] at this
   simpa using this
  ·intro p hp _;rw[W2]
   simpa using hp
theorem law_contract {G:Glo}{C:Eg}(hx:ExtOk G P C)(G9:NoNG P)(hm:P.follows .mixedOrders=true)(hl:laidOutB P=true){f:FuncId}{fn:Func}{s:ChangeSpec}{tb:TypeId}(hfn:P.funcs[f]?=some fn)
  (CF:s.vars=[]) (Afu:∀ds:List (DataW H),ds.length=fn.params.size->s.fn H ds={ results:=[.lit (.bool true)],args:=ds }) (Ac6:(fn.params.toList.all fun t=>Ih P 12 t)=true)
  (Ae0:(fn.params.toList.all fun t=>P.readableRec t&&Nat.blt t P.types.size)=true) (hrt:fn.resultTypes = #[tb]) (hub:P.underlying tb=some .bool)
  {apart fresh Zh again:Bool} (W:World) (base:Nat) (args:Array Value) (ds gs:List (DataW H)) (before:List MemPlace)
  (hval:∀(j:Nat) t v,fn.params[j]?=some t->args[j]?=some v->Value.okWide P W .any base t v)
  (hW:DataW.Whole enc P fn.params.toList s.vars apart W args.toList ds gs before)
  (Ag8:∀qs:List PV,Au (ZP P) fn.params.toList qs->∃fu d,Am C P fu d f qs=some ⟨[.sc (.bool true)],[]⟩) (hG:G.ok W)(hGY:∀b,G.bl b->b<W.heap.size):
  Calls P f args W fun e W'=>∃v,e=.returned v∧s.post enc P fn apart fresh Zh again W args v W':=by
 have hW':=hW;obtain⟨p,q,hA,hV,rfl,Lz,hnd⟩:=hW;rw[CF] at hV;obtain⟨rfl,rfl⟩:=trodVars_none hV;obtain⟨qs,h1,h2⟩:=Yt Ac6 (fun j t v ht hv=>hval j t v (by simpa using ht) (by simpa using hv)) hA
 obtain⟨fu,d,hc⟩:=Ag8 qs h1;have hS:=(Th G9 hm hx d f qs _ hc).2 W No UU args.toList (ED (fun b h=>h.elim) h2) hG (fun b hb=>⟨hGY b hb,U5 b⟩)
 rw[Array.toArray_toList] at hS;refine hS.mono fun e W' ⟨vs,own,he,ho⟩=>?_
 have hv:=ho.vals
 have F7:vs=[.bool true]:=by
  match vs,hv with
  |[u],hv=>
   have:Ao W' _ (.sc (.bool true)) u:=hv.1;rw[this.val]
  |[],hv=>exact hv.elim
  |_::_::_,hv=>exact hv.2.elim
 subst F7;subst he;have hb:Below W.heap.size W W':=⟨ho.os,ho.tape,ho.output,ho.ext.size,fun k hk=>ho.ext.keep k hk (U5 k)⟩
 have Bk:∀x∈p,x.block<W.heap.size:=fun x hx=>hW'.lt x (by simpa using hx)
 have Cy:ds.length=fn.params.size:=by
  have:∀{ts:List TypeId} {vs:List Value} {ds:List (DataW H)} {p:List MemPlace},DataW.TrodAll enc P W 0 (fun _=>true) true ts vs ds p->ds.length=ts.length:=by
   intro ts
   induction ts with
   |nil=>intro vs ds p h;cases vs<;>cases ds<;>first|rfl|cases h
   |cons t ts ih=>
    intro vs ds p h;cases vs with
    |nil=>cases h
    |cons v vs=>
     cases ds with
     |nil=>cases h
     |cons d ds=>obtain⟨_,_,_,h2,_⟩:=h;simp[ih h2]
  simpa using this hA
 have PW:=Afu (ds++[]) (by simpa using Cy)
 refine⟨_,rfl,Xq (pa:=p) (pv:=[]) hW' ?_ ?_ ?_ rfl hb ?_⟩
 ·intro b sp hd;rw[PW,hrt];exact trodAll_mk1 (shut_bool hub _)
 ·intro sp Aj4;rw[PW];simp only[List.append_nil];exact Ol hl Ae0 hA (fun x hx=>hb.same (Bk x hx)) (fun x hx=>Aj4 x (by simpa using hx))
 ·intro sp _;rw[PW,CF];rfl
 ·exact ok_one hrt rfl (okWide_bool_mk hub _)
end
end
section
open Go.IntKind (wrap)
theorem Kb:type_of% @Nat.mul_one:=@Nat.mul_one
theorem T9:type_of% @Nat.zero_add:=@Nat.zero_add
theorem Sp:type_of% @List.drop_zero.{0}:=@List.drop_zero
theorem Q9:type_of% @List.take_of_length_le.{0}:=@List.take_of_length_le
theorem QT:type_of% @List.length_append.{0}:=@List.length_append
theorem MP:type_of% @List.length_cons.{0}:=@List.length_cons
theorem Y1:type_of% @Int.toNat_natCast:=@Int.toNat_natCast
theorem L0:type_of% @if_neg.{1}:=@if_neg
theorem Oa:type_of% @if_pos.{1}:=@if_pos
theorem Zzq:type_of% @List.nil_append.{0}:=@List.nil_append
theorem XC:type_of% @List.append_assoc.{0}:=@List.append_assoc
end
section
open Go.Proofs.Try (prog)
open Go.IntKind (wrap)
set_option maxRecDepth 100000
abbrev Hz:FuncId:=82
theorem Nz {xs:FuncId->Option (List PV->Option Bg)} (fu d:Nat)(a0 a1:Int):Am (CX xs) prog fu (d+1) Hz [.sc (.int .u64 a0),.sc (.int .i64 a1)]=(fun (call:Al)=>Ab (wrap .u64 a1) fun x1=>Ab (VG .u64 x1 63) fun x2=>As (decide (0<=x2))<|Ab (F8 .u64 a0 x2) fun x3=>Ab (wrap .u64 (64-x2)) fun x4=>As (decide (0<=x4))<|Ab (Z5 .u64 a0 x4) fun x5=>Ab (Te .u64 x3 x5) fun x6=>some (Bg.mk [.sc (.int .u64 x6)] [])) (Am (CX xs) prog fu d):=by kernel_rfl
abbrev Fx:FuncId:=59
noncomputable def D1 (fu:Nat)(call:Al)(B5:Nat)(a0:List PV)(nn y0 y1:Nat)(y2:List PV)(y3 y4:Int)(y5:List PV):Option Bg:=Cx CB prog fu call 59 Try.f59 (B2 Try.f59) [.lst false 1 B5 a0] [.r,.r,.l,.r,.l] nn ⟨lk [(3,(.view 3 1 0 y0)),(11,(.lst false 1 y1 y2)),(12,(.sc (.int .i64 y3))),(13,(.sc (.int .i64 y4)))],E5 [(3,(.ar false y5))]⟩
noncomputable def Fa (fu:Nat)(call:Al)(B5:Nat)(a0:List PV)(m0 nn y0:Nat)(y1:Int)(y2:Nat)(y3:List PV)(y4 y5 y6:Int)(y7:List PV):Option Bg:=Cx CB prog fu call 59 Try.f59 (B2 Try.f59) [.lst false 1 B5 a0] [.r,.r,.l,.r,.l,.i m0,.r,.r,.l,.l,.r,.r,.l] nn ⟨lk [(3,(.view 3 1 0 y0)),(5,(.sc (.int .u64 y1))),(11,(.lst false 1 y2 y3)),(12,(.sc (.int .i64 y4))),(13,(.sc (.int .i64 y5))),(17,(.sc (.int .i64 y6)))],E5 [(3,(.ar false y7))]⟩
theorem Jk (fu:Nat)(call:Al)(B5:Nat)(a0:List PV)(nn y0 y1:Nat)(y2:List PV)(y3 y4:Int)(y5:List PV):D1 fu call B5 a0 (nn+1) y0 y1 y2 y3 y4 y5=(Cb (decide (y4<y3)) (As (decide (0<=y4)&&decide (y4<(↑y1:Int)))<|Ag .u64 (List.getD y2 (Int.toNat y4*1) .top) fun x2=>Fa fu call B5 a0 nn (fu) (y0) x2 (y1) (y2) (y3) (y4) 0 (y5)) (As (decide (y0*1<=y5.length))<|some (Bg.mk [.own 1 y0 (List.take (y0*1) y5)] []))):=by kernel_rfl
theorem Jq (fu:Nat)(call:Al)(B5:Nat)(a0:List PV)(m0 nn y0:Nat)(y1:Int)(y2:Nat)(y3:List PV)(y4 y5 y6:Int)(y7:List PV):Fa fu call B5 a0 m0 (nn+1) y0 y1 y2 y3 y4 y5 y6 y7=(Cb (decide (y6<8)) (Ab (wrap .i64 (8*y6)) fun x3=>Ab (wrap .i64 (56-x3)) fun x4=>As (decide (0<=x4))<|Ab (Z5 .u64 y1 x4) fun x5=>Ab (wrap .u8 x5) fun x6=>As (decide (y0*1<=y7.length)&&true&&decide ((y0+1)*1<=1099511627776)&&decide (y0+1<=1099511627776))<|Ab (y0+1) fun x7=>Ab (List.take (y0*1) y7++[.sc (.int .u8 x6)]) fun x8=>Ab (wrap .i64 (y6+1)) fun x9=>Fa fu call B5 a0 m0 (nn) x7 (y1) (y2) (y3) (y4) (y5) x9 x8) (Ab (wrap .i64 (y5+1)) fun Kj=>D1 fu call B5 a0 (m0) (y0) (y2) (y3) (y4) Kj (y7))):=by kernel_rfl
theorem Ws {xs:FuncId->Option (List PV->Option Bg)} (fu d B5:Nat)(a0:List PV):Am (CX xs) prog fu (d+1) Fx [.lst false 1 B5 a0]=(fun (call:Al)=>Ab (wrap .i64 (8*(↑B5:Int))) fun x1=>As (decide (0<=x1)&&decide (x1*1<=1099511627776)&&decide (x1<=1099511627776))<|D1 fu call B5 a0 (fu) 0 (B5) (a0) ((↑B5:Int)) 0 ([])) (Am (CX xs) prog fu d):=by kernel_rfl
abbrev Ly:FuncId:=68
noncomputable def En (fu:Nat)(call:Al)(B5:Nat)(a0:List PV)(nn:Nat)(y0:Int)(y1:Nat)(y2:List PV)(y3 y4:Int):Option Bg:=Cx CB prog fu call 68 Try.f68 (B2 Try.f68) [.lst false 1 B5 a0] [.r,.r,.l,.r,.l] nn ⟨lk [(3,(.sc (.int .u64 y0))),(6,(.lst false 1 y1 y2)),(7,(.sc (.int .i64 y3))),(8,(.sc (.int .i64 y4)))],E5 []⟩
theorem Ix (fu:Nat)(call:Al)(B5:Nat)(a0:List PV)(nn:Nat)(y0:Int)(y1:Nat)(y2:List PV)(y3 y4:Int):En fu call B5 a0 (nn+1) y0 y1 y2 y3 y4=(Cb (decide (y4<y3)) (As (decide (0<=y4)&&decide (y4<(↑y1:Int)))<|Ag .u8 (List.getD y2 (Int.toNat y4*1) .top) fun x1=>Ab (wrap .u64 x1) fun x2=>Ab (wrap .i64 (8*y4)) fun x3=>As (decide (0<=x3))<|Ab (F8 .u64 x2 x3) fun x4=>Ab (Te .u64 y0 x4) fun x5=>Ab (wrap .i64 (y4+1)) fun x6=>En fu call B5 a0 (nn) x5 (y1) (y2) (y3) x6) (some (Bg.mk [.sc (.int .u64 y0)] []))):=by kernel_rfl
theorem Tz {xs:FuncId->Option (List PV->Option Bg)} (fu d B5:Nat)(a0:List PV):Am (CX xs) prog fu (d+1) Ly [.lst false 1 B5 a0]=(fun (call:Al)=>En fu call B5 a0 (fu) 0 (B5) (a0) ((↑B5:Int)) 0) (Am (CX xs) prog fu d):=by kernel_rfl
abbrev Gd:FuncId:=69
noncomputable def Cw (fu:Nat)(call:Al)(Fe E2:Int)(Fg E3 a1:Int)(nn:Nat)(y0 y1:Int)(y2 y3:Int)(y4 y5:Int):Option Bg:=Cx CB prog fu call 69 Try.f69 (B2 Try.f69) [.pbox [.sc (.int .u64 Fe),.sc (.int .u64 E2),.sc (.int .u64 Fg),.sc (.int .u64 E3)],.sc (.int .i64 a1)] [.r,.l] nn ⟨lk [(0,(.ptr 288000 0)),(4,(.sc (.int .i64 y0))),(5,(.sc (.int .i64 y1)))],E5 [(288000,(.st [(.sc (.int .u64 y2)),(.sc (.int .u64 y3)),(.sc (.int .u64 y4)),(.sc (.int .u64 y5))]))]⟩
theorem E0 (fu:Nat)(call:Al)(Fe E2:Int)(Fg E3 a1:Int)(nn:Nat)(y0 y1:Int)(y2 y3:Int)(y4 y5:Int):Cw fu call Fe E2 Fg E3 a1 (nn+1) y0 y1 y2 y3 y4 y5=(Cb (decide (y1<y0)) (Ab (wrap .u64 (y2+y3)) fun x1=>Ar (call 82 [.sc (.int .u64 y3),.sc (.int .i64 13)]) fun x2 x3=>Ah x3<|Aa x2 fun x4 x5=>Ag .u64 x4 fun x6=>Ah x5<|Ab (Ci .u64 x6 x1) fun x7=>Ar (call 82 [.sc (.int .u64 x1),.sc (.int .i64 32)]) fun x8 x9=>Ah x9<|Aa x8 fun Kj L3=>Ag .u64 Kj fun Jw=>Ah L3<|Ab (wrap .u64 (y4+y5)) fun Ox=>Ar (call 82 [.sc (.int .u64 y5),.sc (.int .i64 16)]) fun Lx Nh=>Ah Nh<|Aa Lx fun Qm Sv=>Ag .u64 Qm fun Ok=>Ah Sv<|Ab (Ci .u64 Ok Ox) fun I9=>Ab (wrap .u64 (Jw+I9)) fun Pk=>Ar (call 82 [.sc (.int .u64 I9),.sc (.int .i64 21)]) fun Qe S5=>Ah S5<|Aa Qe fun Re Is=>Ag .u64 Re fun T8=>Ah Is<|Ab (Ci .u64 T8 Pk) fun Ug=>Ab (wrap .u64 (Ox+x7)) fun Qi=>Ar (call 82 [.sc (.int .u64 x7),.sc (.int .i64 17)]) fun BL BX=>Ah BX<|Aa BL fun Oi Q8=>Ag .u64 Oi fun Zt=>Ah Q8<|Ab (Ci .u64 Zt Qi) fun Wx=>Ar (call 82 [.sc (.int .u64 Qi),.sc (.int .i64 32)]) fun Ty Zx=>Ah Zx<|Aa Ty fun Xf Ss=>Ag .u64 Xf fun Xh=>Ah Ss<|Ab (wrap .i64 (y1+1)) fun BZ=>Cw fu call Fe E2 Fg E3 a1 (nn) (y0) BZ Pk Wx Xh Ug) (some (Bg.mk [] [[.sc (.int .u64 y2),.sc (.int .u64 y3),.sc (.int .u64 y4),.sc (.int .u64 y5)]]))):=by kernel_rfl
theorem L4 {xs:FuncId->Option (List PV->Option Bg)} (fu d:Nat)(Fe E2:Int)(Fg E3 a1:Int):Am (CX xs) prog fu (d+1) Gd [.pbox [.sc (.int .u64 Fe),.sc (.int .u64 E2),.sc (.int .u64 Fg),.sc (.int .u64 E3)],.sc (.int .i64 a1)]=(fun (call:Al)=>Cw fu call Fe E2 Fg E3 a1 (fu) (a1) 0 (Fe) (E2) (Fg) (E3)) (Am (CX xs) prog fu d):=by kernel_rfl
abbrev Gj:FuncId:=67
theorem L5 {xs:FuncId->Option (List PV->Option Bg)} (fu d:Nat)(Fe E2:Int)(Fg E3 a1:Int):Am (CX xs) prog fu (d+1) Gj [.pbox [.sc (.int .u64 Fe),.sc (.int .u64 E2),.sc (.int .u64 Fg),.sc (.int .u64 E3)],.sc (.int .u64 a1)]=(fun (call:Al)=>Ab (Ci .u64 E3 a1) fun x1=>Ar (call 69 [.pbox [.sc (.int .u64 Fe),.sc (.int .u64 E2),.sc (.int .u64 Fg),.sc (.int .u64 x1)],.sc (.int .i64 2)]) fun x2 x3=>Ah x2<|Aa x3 fun x4 x5=>Aa x4 fun x6 x7=>Ag .u64 x6 fun x8=>Aa x7 fun x9 Kj=>Ag .u64 x9 fun L3=>Aa Kj fun Jw Ox=>Ag .u64 Jw fun Lx=>Aa Ox fun Nh Qm=>Ag .u64 Nh fun Sv=>Ah Qm<|Ah x5<|Ab (Ci .u64 x8 a1) fun Ok=>some (Bg.mk [] [[.sc (.int .u64 Ok),.sc (.int .u64 L3),.sc (.int .u64 Lx),.sc (.int .u64 Sv)]])) (Am (CX xs) prog fu d):=by kernel_rfl
abbrev Qh:FuncId:=58
noncomputable def E1 (fu:Nat)(call:Al)(a0 a1:Int)(Og:Nat)(a2:List PV)(nn y0:Nat)(y1:List PV)(y2 y3:Int)(y4 y5:Int)(y6 y7 y8:Int):Option Bg:=Cx CB prog fu call 58 Try.f58 (B2 Try.f58) [.sc (.int .u64 a0),.sc (.int .u64 a1),.lst false 1 Og a2] [.r,.r,.r,.l,.r,.l] nn ⟨lk [(2,(.lst false 1 y0 y1)),(7,(.ptr 7 0)),(8,(.sc (.int .i64 y2))),(22,(.sc (.int .i64 y3))),(23,(.sc (.int .i64 y4)))],E5 [(7,(.st [(.sc (.int .u64 y5)),(.sc (.int .u64 y6)),(.sc (.int .u64 y7)),(.sc (.int .u64 y8))]))]⟩
theorem Lw (fu:Nat)(call:Al)(a0 a1:Int)(Og:Nat)(a2:List PV)(nn y0:Nat)(y1:List PV)(y2 y3:Int)(y4 y5:Int)(y6 y7 y8:Int):E1 fu call a0 a1 Og a2 (nn+1) y0 y1 y2 y3 y4 y5 y6 y7 y8=(Cb (decide (y4<y3)) (Ab (wrap .i64 (8*y4)) fun x6=>Ab (wrap .i64 (8*y4)) fun x7=>Ab (wrap .i64 (x7+8)) fun x8=>As (decide (0<=x6))<|As (decide (0<=x8))<|As (decide (Int.toNat x6<=Int.toNat x8)&&decide (Int.toNat x8<=y0))<|Ab (Int.toNat x8-Int.toNat x6) fun x9=>Ab (List.take (x9*1) (List.drop (Int.toNat x6*1) y1)) fun Kj=>Ar (call 68 [.lst false 1 x9 Kj]) fun L3 Jw=>Ah Jw<|Aa L3 fun Ox Lx=>Ag .u64 Ox fun Nh=>Ah Lx<|Ar (call 67 [.pbox [.sc (.int .u64 y5),.sc (.int .u64 y6),.sc (.int .u64 y7),.sc (.int .u64 y8)],.sc (.int .u64 Nh)]) fun Qm Sv=>Ah Qm<|Aa Sv fun Ok I9=>Aa Ok fun Pk Qe=>Ag .u64 Pk fun S5=>Aa Qe fun Re Is=>Ag .u64 Re fun T8=>Aa Is fun Ug Qi=>Ag .u64 Ug fun BL=>Aa Qi fun BX Oi=>Ag .u64 BX fun Q8=>Ah Oi<|Ah I9<|Ab (wrap .i64 (y4+1)) fun Zt=>E1 fu call a0 a1 Og a2 (nn) (y0) (y1) (y2) (y3) Zt S5 T8 BL Q8) (Ab (wrap .i64 (8*y2)) fun Wx=>As (decide (0<=Wx))<|As (decide (Int.toNat Wx<=y0)&&decide (y0<=y0))<|Ab (y0-Int.toNat Wx) fun Ty=>Ab (List.take (Ty*1) (List.drop (Int.toNat Wx*1) y1)) fun Zx=>Ar (call 68 [.lst false 1 Ty Zx]) fun Xf Ss=>Ah Ss<|Aa Xf fun Xh BZ=>Ag .u64 Xh fun Yb=>Ah BZ<|Ab (wrap .u64 (↑y0:Int)) fun GJ=>Ab (F8 .u64 GJ 56) fun FS=>Ab (Te .u64 Yb FS) fun HS=>Ar (call 67 [.pbox [.sc (.int .u64 y5),.sc (.int .u64 y6),.sc (.int .u64 y7),.sc (.int .u64 y8)],.sc (.int .u64 HS)]) fun BM GX=>Ah BM<|Aa GX fun JH IF=>Aa JH fun GB JM=>Ag .u64 GB fun Xd=>Aa JM fun FZ LC=>Ag .u64 FZ fun FU=>Aa LC fun Wz FT=>Ag .u64 Wz fun LM=>Aa FT fun HE DI=>Ag .u64 HE fun HZ=>Ah DI<|Ah IF<|Ab (Ci .u64 LM 255) fun CW=>Ar (call 69 [.pbox [.sc (.int .u64 Xd),.sc (.int .u64 FU),.sc (.int .u64 CW),.sc (.int .u64 HZ)],.sc (.int .i64 4)]) fun Ys BV=>Ah Ys<|Aa BV fun PR ON=>Aa PR fun JP NB=>Ag .u64 JP fun MX=>Aa NB fun HJ OK=>Ag .u64 HJ fun OD=>Aa OK fun KD OE=>Ag .u64 KD fun SH=>Aa OE fun II HU=>Ag .u64 II fun PQ=>Ah HU<|Ah ON<|Ab (Ci .u64 MX OD) fun TT=>Ab (Ci .u64 TT SH) fun PT=>Ab (Ci .u64 PT PQ) fun VT=>some (Bg.mk [.sc (.int .u64 VT)] []))):=by kernel_rfl
theorem Zn {xs:FuncId->Option (List PV->Option Bg)} (fu d:Nat)(a0 a1:Int)(Og:Nat)(a2:List PV):Am (CX xs) prog fu (d+1) Qh [.sc (.int .u64 a0),.sc (.int .u64 a1),.lst false 1 Og a2]=(fun (call:Al)=>Ab (Ci .u64 a0 8317987319222330741) fun x1=>Ab (Ci .u64 a1 7237128888997146477) fun x2=>Ab (Ci .u64 a0 7816392313619706465) fun x3=>Ab (Ci .u64 a1 8387220255154660723) fun x4=>Ab (wrap .i64 (Int.tdiv (↑Og:Int) 8)) fun x5=>E1 fu call a0 a1 Og a2 (fu) (Og) (a2) x5 x5 0 x1 x2 x3 x4) (Am (CX xs) prog fu d):=by kernel_rfl
abbrev Q6:FuncId:=41
theorem AD {xs:FuncId->Option (List PV->Option Bg)} (fu d:Nat)(a0 a1:Int)(Og:Nat)(a2:List PV):Am (CX xs) prog fu (d+1) Q6 [.sc (.int .u64 a0),.sc (.int .i64 a1),.lst false 1 Og a2]=(fun (call:Al)=>Ab (wrap .u64 a1) fun x1=>Ab (wrap .u64 (1+x1)) fun x2=>Ar (call 58 [.sc (.int .u64 a0),.sc (.int .u64 x2),.lst false 1 Og a2]) fun x3 x4=>Ah x4<|Aa x3 fun x5 x6=>Ag .u64 x5 fun x7=>Ah x6<|some (Bg.mk [.sc (.int .u64 x7)] [])) (Am (CX xs) prog fu d):=by kernel_rfl
abbrev I1:FuncId:=89
theorem O1 {xs:FuncId->Option (List PV->Option Bg)} (fu d:Nat)(a0 a1:Int):Am (CX xs) prog fu (d+1) I1 [.sc (.int .u64 a0),.sc (.int .u64 a1)]=(fun (call:Al)=>As (decide (0<=a1))<|Ab (F8 .u64 a0 a1) fun x1=>Ab (wrap .u64 (64-a1)) fun x2=>As (decide (0<=x2))<|Ab (Z5 .u64 a0 x2) fun x3=>Ab (Te .u64 x1 x3) fun x4=>some (Bg.mk [.sc (.int .u64 x4)] [])) (Am (CX xs) prog fu d):=by kernel_rfl
abbrev H5:FuncId:=81
theorem N8 {xs:FuncId->Option (List PV->Option Bg)} (fu d:Nat)(Fe E2:Int)(Fg E3:Int):Am (CX xs) prog fu (d+1) H5 [.agg [.sc (.int .u64 Fe),.sc (.int .u64 E2),.sc (.int .u64 Fg),.sc (.int .u64 E3)]]=(fun (call:Al)=>Ab (wrap .u64 (Fe+E2)) fun x1=>Ar (call 89 [.sc (.int .u64 E2),.sc (.int .u64 13)]) fun x2 x3=>Ah x3<|Aa x2 fun x4 x5=>Ag .u64 x4 fun x6=>Ah x5<|Ab (Ci .u64 x6 x1) fun x7=>Ar (call 89 [.sc (.int .u64 x1),.sc (.int .u64 32)]) fun x8 x9=>Ah x9<|Aa x8 fun Kj L3=>Ag .u64 Kj fun Jw=>Ah L3<|Ab (wrap .u64 (Fg+E3)) fun Ox=>Ar (call 89 [.sc (.int .u64 E3),.sc (.int .u64 16)]) fun Lx Nh=>Ah Nh<|Aa Lx fun Qm Sv=>Ag .u64 Qm fun Ok=>Ah Sv<|Ab (Ci .u64 Ok Ox) fun I9=>Ab (wrap .u64 (Jw+I9)) fun Pk=>Ar (call 89 [.sc (.int .u64 I9),.sc (.int .u64 21)]) fun Qe S5=>Ah S5<|Aa Qe fun Re Is=>Ag .u64 Re fun T8=>Ah Is<|Ab (Ci .u64 T8 Pk) fun Ug=>Ab (wrap .u64 (Ox+x7)) fun Qi=>Ar (call 89 [.sc (.int .u64 x7),.sc (.int .u64 17)]) fun BL BX=>Ah BX<|Aa BL fun Oi Q8=>Ag .u64 Oi fun Zt=>Ah Q8<|Ab (Ci .u64 Zt Qi) fun Wx=>Ar (call 89 [.sc (.int .u64 Qi),.sc (.int .u64 32)]) fun Ty Zx=>Ah Zx<|Aa Ty fun Xf Ss=>Ag .u64 Xf fun Xh=>Ah Ss<|some (Bg.mk [.agg [.sc (.int .u64 Pk),.sc (.int .u64 Wx),.sc (.int .u64 Xh),.sc (.int .u64 Ug)]] [])) (Am (CX xs) prog fu d):=by kernel_rfl
abbrev Jm:FuncId:=65
noncomputable def C1 (fu:Nat)(call:Al)(a0 a1:Int)(Og:Nat)(a2:List PV)(nn y0:Nat)(y1:List PV)(y2:Int)(y3:List PV):Option Bg:=Cx CB prog fu call 65 Try.f65 (B2 Try.f65) [.sc (.int .u64 a0),.sc (.int .u64 a1),.lst false 1 Og a2] [.r,.r,.l,.r,.l] nn ⟨lk [(2,(.lst false 1 y0 y1)),(7,(.ptr 7 0)),(8,(.sc (.int .i64 y2)))],E5 [(7,(.ar false y3))]⟩
noncomputable def Cm (fu:Nat)(call:Al)(a0 a1:Int)(Og:Nat)(a2:List PV)(m0 nn y0:Nat)(y1:List PV)(y2 y3 y4:Int)(y5:List PV):Option Bg:=Cx CB prog fu call 65 Try.f65 (B2 Try.f65) [.sc (.int .u64 a0),.sc (.int .u64 a1),.lst false 1 Og a2] [.r,.r,.l,.r,.l,.i m0,.r,.l,.l,.r,.l,.r,.l] nn ⟨lk [(2,(.lst false 1 y0 y1)),(7,(.ptr 7 0)),(8,(.sc (.int .i64 y2))),(9,(.sc (.int .u64 y3))),(10,(.sc (.int .i64 y4)))],E5 [(7,(.ar false y5))]⟩
theorem Hb (fu:Nat)(call:Al)(a0 a1:Int)(Og:Nat)(a2:List PV)(nn y0:Nat)(y1:List PV)(y2:Int)(y3:List PV):C1 fu call a0 a1 Og a2 (nn+1) y0 y1 y2 y3=(Cb (decide (y2<=(↑y0:Int))) (Cm fu call a0 a1 Og a2 nn (fu) (y0) (y1) (y2) 0 7 (y3)) (Ag .u64 (List.getD y3 2 .top) fun x5=>Ab (Ci .u64 x5 255) fun x6=>As (decide (3<=y3.length))<|Ab (A0 y3 [.sc (.int .u64 x6)] 2) fun x7=>Ag .u64 (List.getD x7 0 .top) fun x8=>Ag .u64 (List.getD x7 1 .top) fun x9=>Ag .u64 (List.getD x7 2 .top) fun Kj=>Ag .u64 (List.getD x7 3 .top) fun L3=>Ar (call 81 [.agg [.sc (.int .u64 x8),.sc (.int .u64 x9),.sc (.int .u64 Kj),.sc (.int .u64 L3)]]) fun Jw Ox=>Ah Ox<|Aa Jw fun Lx Nh=>Dw Lx fun Qm=>Aa Qm fun Sv Ok=>Ag .u64 Sv fun I9=>Aa Ok fun Pk Qe=>Ag .u64 Pk fun S5=>Aa Qe fun Re Is=>Ag .u64 Re fun T8=>Aa Is fun Ug Qi=>Ag .u64 Ug fun BL=>Ah Qi<|Ah Nh<|Ar (call 81 [.agg [.sc (.int .u64 I9),.sc (.int .u64 S5),.sc (.int .u64 T8),.sc (.int .u64 BL)]]) fun BX Oi=>Ah Oi<|Aa BX fun Q8 Zt=>Dw Q8 fun Wx=>Aa Wx fun Ty Zx=>Ag .u64 Ty fun Xf=>Aa Zx fun Ss Xh=>Ag .u64 Ss fun BZ=>Aa Xh fun Yb GJ=>Ag .u64 Yb fun FS=>Aa GJ fun HS BM=>Ag .u64 HS fun GX=>Ah BM<|Ah Zt<|Ar (call 81 [.agg [.sc (.int .u64 Xf),.sc (.int .u64 BZ),.sc (.int .u64 FS),.sc (.int .u64 GX)]]) fun JH IF=>Ah IF<|Aa JH fun GB JM=>Dw GB fun Xd=>Aa Xd fun FZ LC=>Ag .u64 FZ fun FU=>Aa LC fun Wz FT=>Ag .u64 Wz fun LM=>Aa FT fun HE DI=>Ag .u64 HE fun HZ=>Aa DI fun CW Ys=>Ag .u64 CW fun BV=>Ah Ys<|Ah JM<|Ar (call 81 [.agg [.sc (.int .u64 FU),.sc (.int .u64 LM),.sc (.int .u64 HZ),.sc (.int .u64 BV)]]) fun PR ON=>Ah ON<|Aa PR fun JP NB=>Dw JP fun MX=>Aa MX fun HJ OK=>Ag .u64 HJ fun OD=>Aa OK fun KD OE=>Ag .u64 KD fun SH=>Aa OE fun II HU=>Ag .u64 II fun PQ=>Aa HU fun TT PT=>Ag .u64 TT fun VT=>Ah PT<|Ah NB<|As (decide (4<=x7.length))<|Ab (A0 x7 [.sc (.int .u64 OD),.sc (.int .u64 SH),.sc (.int .u64 PQ),.sc (.int .u64 VT)] 0) fun PU=>Ag .u64 (List.getD PU 0 .top) fun YS=>Ag .u64 (List.getD PU 1 .top) fun TA=>Ab (Ci .u64 YS TA) fun VQ=>Ag .u64 (List.getD PU 2 .top) fun WB=>Ab (Ci .u64 VQ WB) fun PZ=>Ag .u64 (List.getD PU 3 .top) fun VS=>Ab (Ci .u64 PZ VS) fun ZN=>some (Bg.mk [.sc (.int .u64 ZN)] []))):=by kernel_rfl
theorem Hn (fu:Nat)(call:Al)(a0 a1:Int)(Og:Nat)(a2:List PV)(m0 nn y0:Nat)(y1:List PV)(y2 y3 y4:Int)(y5:List PV):Cm fu call a0 a1 Og a2 m0 (nn+1) y0 y1 y2 y3 y4 y5=(Cb (decide (y4>=0)) (Ab (wrap .i64 (y2+y4)) fun YG=>Cb (decide (YG<(↑y0:Int))) (Ab (wrap .i64 (y2+y4)) fun PN=>As (decide (0<=PN)&&decide (PN<(↑y0:Int)))<|Ag .u8 (List.getD y1 (Int.toNat PN*1) .top) fun WP=>Ab (F8 .u64 y3 8) fun YA=>Ab (wrap .u64 WP) fun VR=>Ab (Te .u64 YA VR) fun VX=>Ab (wrap .i64 (y4-1)) fun x94=>Cm fu call a0 a1 Og a2 m0 (nn) (y0) (y1) (y2) VX x94 (y5)) (Cb (y4==7) (Ab (wrap .u8 (↑y0:Int)) fun x95=>Ab (F8 .u64 y3 8) fun x96=>Ab (wrap .u64 x95) fun x97=>Ab (Te .u64 x96 x97) fun x98=>Ab (wrap .i64 (y4-1)) fun x99=>Cm fu call a0 a1 Og a2 m0 (nn) (y0) (y1) (y2) x98 x99 (y5)) (Ab (F8 .u64 y3 8) fun HP=>Ab (Te .u64 HP 0) fun AQ=>Ab (wrap .i64 (y4-1)) fun GF=>Cm fu call a0 a1 Og a2 m0 (nn) (y0) (y1) (y2) AQ GF (y5)))) (Ag .u64 (List.getD y5 3 .top) fun HW=>Ab (Ci .u64 HW y3) fun Z7=>As (decide (4<=y5.length))<|Ab (A0 y5 [.sc (.int .u64 Z7)] 3) fun Qq=>Ag .u64 (List.getD Qq 0 .top) fun JE=>Ag .u64 (List.getD Qq 1 .top) fun GR=>Ag .u64 (List.getD Qq 2 .top) fun GM=>Ag .u64 (List.getD Qq 3 .top) fun GG=>Ar (call 81 [.agg [.sc (.int .u64 JE),.sc (.int .u64 GR),.sc (.int .u64 GM),.sc (.int .u64 GG)]]) fun GW IZ=>Ah IZ<|Aa GW fun GS NV=>Dw GS fun IY=>Aa IY fun DP ST=>Ag .u64 DP fun UH=>Aa ST fun YC SC=>Ag .u64 YC fun SN=>Aa SC fun UC TY=>Ag .u64 UC fun QO=>Aa TY fun TK RK=>Ag .u64 TK fun SI=>Ah RK<|Ah NV<|Ar (call 81 [.agg [.sc (.int .u64 UH),.sc (.int .u64 SN),.sc (.int .u64 QO),.sc (.int .u64 SI)]]) fun UB TD=>Ah TD<|Aa UB fun TJ RS=>Dw TJ fun SA=>Aa SA fun QU RY=>Ag .u64 QU fun RO=>Aa RY fun QX XY=>Ag .u64 QX fun UL=>Aa XY fun RM TZ=>Ag .u64 RM fun XK=>Aa TZ fun PC TQ=>Ag .u64 PC fun UW=>Ah TQ<|Ah RS<|As (decide (4<=Qq.length))<|Ab (A0 Qq [.sc (.int .u64 RO),.sc (.int .u64 UL),.sc (.int .u64 XK),.sc (.int .u64 UW)] 0) fun HQ=>Ag .u64 (List.getD HQ 0 .top) fun VI=>Ab (Ci .u64 VI y3) fun TW=>As (decide (1<=HQ.length))<|Ab (A0 HQ [.sc (.int .u64 TW)] 0) fun SV=>Ab (wrap .i64 (y2+8)) fun RZ=>C1 fu call a0 a1 Og a2 (m0) (y0) (y1) RZ SV)):=by kernel_rfl
theorem P2 {xs:FuncId->Option (List PV->Option Bg)} (fu d:Nat)(a0 a1:Int)(Og:Nat)(a2:List PV):Am (CX xs) prog fu (d+1) Jm [.sc (.int .u64 a0),.sc (.int .u64 a1),.lst false 1 Og a2]=(fun (call:Al)=>Ab (Ci .u64 a0 8317987319222330741) fun x1=>Ab (Ci .u64 a1 7237128888997146477) fun x2=>Ab (Ci .u64 a0 7816392313619706465) fun x3=>Ab (Ci .u64 a1 8387220255154660723) fun x4=>C1 fu call a0 a1 Og a2 (fu) (Og) (a2) 0 ([.sc (.int .u64 x1),.sc (.int .u64 x2),.sc (.int .u64 x3),.sc (.int .u64 x4)])) (Am (CX xs) prog fu d):=by kernel_rfl
abbrev Ju:FuncId:=48
theorem Pp {xs:FuncId->Option (List PV->Option Bg)} (fu d:Nat)(a0 a1:Int)(Og:Nat)(a2:List PV):Am (CX xs) prog fu (d+1) Ju [.sc (.int .u64 a0),.sc (.int .i64 a1),.lst false 1 Og a2]=(fun (call:Al)=>Ab (wrap .u64 a1) fun x1=>Ab (wrap .u64 (1+x1)) fun x2=>Ar (call 65 [.sc (.int .u64 a0),.sc (.int .u64 x2),.lst false 1 Og a2]) fun x3 x4=>Ah x4<|Aa x3 fun x5 x6=>Ag .u64 x5 fun x7=>Ah x6<|some (Bg.mk [.sc (.int .u64 x7)] [])) (Am (CX xs) prog fu d):=by kernel_rfl
abbrev Dm:FuncId:=56
noncomputable def Cr (fu:Nat)(call:Al)(B5:Nat)(a0:List PV)(nn y0:Nat)(y1:List PV)(y2:Nat)(y3:Int)(y4:List PV):Option Bg:=Cx CB prog fu call 56 Try.f56 (B2 Try.f56) [.lst false 1 B5 a0] [.r,.r,.l,.r,.l] nn ⟨lk [(0,(.lst false 1 y0 y1)),(3,(.view 3 1 0 y2)),(4,(.sc (.int .i64 y3)))],E5 [(3,(.ar false y4))]⟩
noncomputable def Df (fu:Nat)(call:Al)(B5:Nat)(a0:List PV)(m0 nn y0:Nat)(y1:List PV)(y2:Nat)(y3 y4:Int)(y5:List PV):Option Bg:=Cx CB prog fu call 56 Try.f56 (B2 Try.f56) [.lst false 1 B5 a0] [.r,.r,.l,.r,.l,.i m0,.r,.l,.l,.r,.l] nn ⟨lk [(0,(.lst false 1 y0 y1)),(3,(.view 3 1 0 y2)),(4,(.sc (.int .i64 y3))),(5,(.sc (.int .i64 y4)))],E5 [(3,(.ar false y5))]⟩
theorem Ft (fu:Nat)(call:Al)(B5:Nat)(a0:List PV)(nn y0:Nat)(y1:List PV)(y2:Nat)(y3:Int)(y4:List PV):Cr fu call B5 a0 (nn+1) y0 y1 y2 y3 y4=(Cb (decide (y3<(↑y0:Int))) (Df fu call B5 a0 nn (fu) (y0) (y1) (y2) (y3) 7 (y4)) (As (decide (y2*1<=y4.length))<|some (Bg.mk [.own 1 y2 (List.take (y2*1) y4)] []))):=by kernel_rfl
theorem F4 (fu:Nat)(call:Al)(B5:Nat)(a0:List PV)(m0 nn y0:Nat)(y1:List PV)(y2:Nat)(y3 y4:Int)(y5:List PV):Df fu call B5 a0 m0 (nn+1) y0 y1 y2 y3 y4 y5=(Cb (decide (y4>=0)) (As (decide (0<=y3)&&decide (y3<(↑y0:Int)))<|Ag .u64 (List.getD y1 (Int.toNat y3*1) .top) fun x1=>Ab (wrap .i64 (8*y4)) fun x2=>Ab (wrap .u64 x2) fun x3=>As (decide (0<=x3))<|Ab (Z5 .u64 x1 x3) fun x4=>Ab (wrap .u8 x4) fun x5=>As (decide (y2*1<=y5.length)&&true&&decide ((y2+1)*1<=1099511627776)&&decide (y2+1<=1099511627776))<|Ab (y2+1) fun x6=>Ab (List.take (y2*1) y5++[.sc (.int .u8 x5)]) fun x7=>Ab (wrap .i64 (y4-1)) fun x8=>Df fu call B5 a0 m0 (nn) (y0) (y1) x6 (y3) x8 x7) (Ab (wrap .i64 (y3+1)) fun x9=>Cr fu call B5 a0 (m0) (y0) (y1) (y2) x9 (y5))):=by kernel_rfl
theorem Ns {xs:FuncId->Option (List PV->Option Bg)} (fu d B5:Nat)(a0:List PV):Am (CX xs) prog fu (d+1) Dm [.lst false 1 B5 a0]=(fun (call:Al)=>Cr fu call B5 a0 (fu) (B5) (a0) 0 0 ([])) (Am (CX xs) prog fu d):=by kernel_rfl
end
section
open Go.IntKind (wrap)
def rot (x k:Int):Int:=Te .u64 (F8 .u64 x k) (Z5 .u64 x (64-k))
structure W4 where
 a:Int
 b:Int
 c:Int
 d:Int
def W4.cells (v:W4):List PV:=[.sc (.int .u64 v.a),.sc (.int .u64 v.b),.sc (.int .u64 v.c),.sc (.int .u64 v.d)]
def Ahp (v:W4):W4:=⟨rot (wrap .u64 (v.a+v.b)) 32,Ci .u64 (rot v.b 13) (wrap .u64 (v.a+v.b)),wrap .u64 (v.c+v.d),Ci .u64 (rot v.d 16) (wrap .u64 (v.c+v.d))⟩
def Ahz (v:W4):W4:=⟨wrap .u64 (v.a+v.d),Ci .u64 (rot v.b 17) (wrap .u64 (v.c+v.b)),rot (wrap .u64 (v.c+v.b)) 32,Ci .u64 (rot v.d 21) (wrap .u64 (v.a+v.d))⟩
def W5 (v:W4):W4:=Ahz (Ahp v)
def GN:Nat->W4->W4
 |0,v=>v
 |n+1,v=>GN n (W5 v)
def Af2 (r:W4)(m:Int):W4:=⟨Ci .u64 r.a m,r.b,r.c,r.d⟩
def Ko (v:W4)(m:Int):W4:=Af2 (GN 2 ⟨v.a,v.b,v.c,Ci .u64 v.d m⟩) m
def Kv:List Int->Int
 |[]=>0
 |b::r=>b+256*Kv r
def Xb:Nat->W4->List Int->W4
 |0,v,_=>v
 |n+1,v,l=>Xb n (Ko v (Kv (l.take 8))) (l.drop 8)
def Abd (k0 k1:Int):W4:=⟨Ci .u64 k0 8317987319222330741,Ci .u64 k1 7237128888997146477,Ci .u64 k0 7816392313619706465,Ci .u64 k1 8387220255154660723⟩
def ND (v:W4):W4:=GN 4 ⟨v.a,v.b,Ci .u64 v.c 255,v.d⟩
def MU (v:W4):Int:=Ci .u64 (Ci .u64 (Ci .u64 v.a v.b) v.c) v.d
def H0 (l:List Int):Int:=Kv (l.drop (8*(l.length / 8)))+72057594037927936*((l.length:Int) % 256)
def Abb (k0 k1:Int)(l:List Int):Int:=MU (ND (Ko (Xb (l.length / 8) (Abd k0 k1) l) (H0 l)))
def AG (key dom:Int)(l:List Int):Int:=Abb key (wrap .u64 (1+wrap .u64 dom)) l
def Rh (l:List Int):Prop:=∀b∈l,0<=b∧b<=255
theorem Lu:∀{l:List Int},Rh l->0<=Kv l∧Kv l<256 ^ l.length
 |[],_=>by simp[Kv]
 |b::r,h=>by
  have h1:=h b (by simp)
  have h2:=Lu (l:=r) fun x hx=>h x (by simp[hx])
  have h3:(256:Int) ^ (b::r).length=256 ^ r.length*256:=by rw[MP,Int.pow_succ]
  simp only[Kv];omega
theorem O4:∀(l r:List Int),Kv (l++r)=Kv l+256 ^ l.length*Kv r
 |[],r=>by simp[Kv]
 |b::l,r=>by
  have ih:=O4 l r;simp only[List.cons_append,Kv,MP,Int.pow_succ];rw[ih,Int.mul_add];have:(256:Int)*(256 ^ l.length*Kv r)=256 ^ l.length*256*Kv r:=by rw[←Int.mul_assoc,Int.mul_comm 256]
  omega
theorem Zv {a c:Int}(k b:Nat)(h0:0<=a)(h1:a<((2 ^ k:Nat):Int)) (hc:c=((b*2 ^ k:Nat):Int)) (h:a+c<=18446744073709551615):Te .u64 a c=a+c∧Te .u64 c a=a+c:=by
 obtain⟨n,rfl⟩:=Int.eq_ofNat_of_zero_le h0;subst hc;have hn:n<2 ^ k:=by omega
 generalize hB:b*2 ^ k=m at h
 have e4:(BitVec.ofInt 64 (n:Int)).toNat=n:=by
  rw[BitVec.toNat_ofInt];omega
 have e5:(BitVec.ofInt 64 (m:Int)).toNat=m:=by
  rw[BitVec.toNat_ofInt];omega
 have e6:m ||| n=m+n:=by
  have:=Nat.shiftLeft_add_eq_or_of_lt hn b;rw[Nat.shiftLeft_eq,hB] at this;exact this.symm
 constructor
 ·show wrap .u64 ((BitVec.ofInt 64 (n:Int) ||| BitVec.ofInt 64 (m:Int)).toNat:Int)=_;rw[BitVec.toNat_or,e4,e5,Nat.or_comm,e6,Cv (by omega) (by omega)]
  omega
 ·show wrap .u64 ((BitVec.ofInt 64 (m:Int) ||| BitVec.ofInt 64 (n:Int)).toNat:Int)=_;rw[BitVec.toNat_or,e4,e5,e6,Cv (by omega) (by omega)]
  omega
theorem LN {a k:Int}(h0:0<=a)(hk:0<=k)(Hp:k<=64)(h:a*((2 ^ k.toNat:Nat):Int)<=18446744073709551615):F8 .u64 a k=a*((2 ^ k.toNat:Nat):Int):=by
 show wrap .u64 (a*2 ^ (min k.toNat IntKind.u64.bits))=_;have e:min k.toNat IntKind.u64.bits=k.toNat:=Nat.min_eq_left (by show k.toNat<=64;omega)
 have e2:(2:Int) ^ k.toNat=((2 ^ k.toNat:Nat):Int):=by simp
 rw[e,e2,Cv (Int.mul_nonneg h0 (Int.natCast_nonneg _)) h]
end
end Go.Proofs.Yteicjnihnacadaa.Pv
