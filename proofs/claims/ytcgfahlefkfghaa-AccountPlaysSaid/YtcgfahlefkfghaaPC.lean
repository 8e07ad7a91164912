/-
  The proof of AccountPlays, part 3.
-/
import Derived.Test.YtcgfahlefkfghaaPB
import Derived.StillTail
import Derived.WalkKit
import Derived.ProofKit
import Derived.OpenShut
import Derived.ShutString
import Derived.ChangeOld
import Derived.Below
import Derived.Deep.Slices
import Derived.ChangeSame
import Derived.WideKeyArgs
import Derived.Carry
import Derived.Test.YtcgfahlefkfghaaRows
set_option linter.unusedSimpArgs false
set_option linter.unusedVariables false
namespace Go.Proofs.Ytcgfahlefkfghaa.Pv
section
section
variable {R R':Type} {Rel:Option R->Option R'->Prop}
theorem Ht (hn:Rel none none){k:IntKind}{p:PV}{K:Int->Option R}{K':Int->Option R'}(hK:∀n,Rel (K n) (K' n)):Rel (Ae k p K) (Ae k p K'):=by
 unfold Ae;split
 ·split<;>first|exact hK _|exact hn
 ·exact hn
theorem Ds (hn:Rel none none){p:PV}{K:IntKind->Int->Option R}{K':IntKind->Int->Option R'}(hK:∀k n,Rel (K k n) (K' k n)):Rel (C9 p K) (C9 p K'):=by
 unfold C9;split<;>first|exact hK _ _|exact hn
theorem Gc (hn:Rel none none){p:PV}{K:Bool->Option R}{K':Bool->Option R'}(hK:∀n,Rel (K n) (K' n)):Rel (Av p K) (Av p K'):=by
 unfold Av;split<;>first|exact hK _|exact hn
theorem E9 (hn:Rel none none){p:PV}{K:ByteArray->Option R}{K':ByteArray->Option R'}(hK:∀n,Rel (K n) (K' n)):Rel (E2 p K) (E2 p K'):=by
 unfold E2;split<;>first|exact hK _|exact hn
theorem E7 (hn:Rel none none){es:Nat}{p:PV}{K:Bool->Nat->List PV->Option R}{K':Bool->Nat->List PV->Option R'}(hK:∀z n c,Rel (K z n c) (K' z n c)):Rel (Ca es p K) (Ca es p K'):=by
 unfold Ca;split
 ·rename_i es' _ _;cases Nat.beq es' es
  ·exact hn
  ·exact hK _ _ _
 ·exact hK _ _ _
 ·exact hn
theorem Ajg (hn:Rel none none){es:Nat}{p:PV}{K:PV->Option R}{K':PV->Option R'}(hK:∀p,Rel (K p) (K' p)):Rel (fsK es p K) (fsK es p K'):=by
 unfold fsK;split
 ·rename_i es' _ _;cases Nat.beq es' es
  ·exact hn
  ·exact hK _
 ·exact E7 hn fun _ _ _=>hK _
theorem VX (hn:Rel none none){es:Nat}{p:PV}{K:Nat->List PV->Option R}{K':Nat->List PV->Option R'}(hK:∀n c,Rel (K n c) (K' n c)):Rel (Kc es p K) (Kc es p K'):=by
 unfold Kc;split
 ·rename_i es' _ _;cases Nat.beq es' es
  ·exact hn
  ·exact hK _ _
 ·exact hn
theorem At (hn:Rel none none){b:Bool}{K:Option R}{K':Option R'}(hK:b=true->Rel K K'):Rel (An b K) (An b K'):=by
 cases b
 ·exact hn
 ·exact hK rfl
theorem BG {b:Bool}{x y:Option R}{x' y':Option R'}(hx:Rel x x')(hy:Rel y y'):Rel (Bd b x y) (Bd b x' y'):=by
 cases b
 ·exact hy
 ·exact hx
theorem Cs (hn:Rel none none){α:Type}{o:Option α}{K:α->Option R}{K':α->Option R'}(hK:∀a,o=some a->Rel (K a) (K' a)):Rel (Do o K) (Do o K'):=by
 cases o
 ·exact hn
 ·exact hK _ rfl
theorem Be (hn:Rel none none){α:Type}{l:List α}{K:α->List α->Option R}{K':α->List α->Option R'}(hK:∀a r,l=a::r->Rel (K a r) (K' a r)):Rel (Aa l K) (Aa l K'):=by
 cases l
 ·exact hn
 ·exact hK _ _ rfl
theorem Es (hn:Rel none none){α:Type}{l:List α}{K:Option R}{K':Option R'}(hK:Rel K K'):Rel (Ac l K) (Ac l K'):=by
 cases l
 ·exact hK
 ·exact hn
theorem Ja (hn:Rel none none){p:PV}{K:List PV->Option R}{K':List PV->Option R'}(hK:∀c,p=.agg c->Rel (K c) (K' c)):Rel (Ge p K) (Ge p K'):=by
 unfold Ge;split
 ·exact hK _ rfl
 ·exact hn
theorem YI (hn:Rel none none){p:PV}{K:List PV->Option R}{K':List PV->Option R'}(hK:∀c,Rel (K c) (K' c)):Rel (Ux p K) (Ux p K'):=by
 unfold Ux;split
 ·exact hK _
 ·exact hn
theorem IA (hn:Rel none none){r:Option A2}{K:List PV->List (List PV)->Option R} {K':List PV->List (List PV)->Option R'} (hK:∀v o,Rel (K v o) (K' v o)):Rel (Af r K) (Af r K'):=by
 unfold Af;split
 ·exact hK _ _
 ·exact hn
theorem WN (hn:Rel none none){p:PV}{K:Value->Option R}{K':Value->Option R'}(hK:∀v,Rel (K v) (K' v)):Rel (YB p K) (YB p K'):=by
 unfold YB;split
 ·exact hK _
 ·exact hK _
 ·exact hn
theorem Ake (hn:Rel none none){p:PV}{K:FuncId->Option R}{K':FuncId->Option R'}(hK:∀v,Rel (K v) (K' v)):Rel (fvK p K) (fvK p K'):=by
 unfold fvK;split
 ·rename_i f a b;cases (a.isEmpty&&b.isEmpty)
  ·exact hn
  ·exact hK _
 ·exact hn
theorem N0 (hn:Rel none none){t:CT}{p:PV}{K:PV->Option R}{K':PV->Option R'}(hK:∀p,Rel (K p) (K' p)):Rel (Ya t p K) (Ya t p K'):=by
 unfold Ya;split
 ·exact Ht hn fun _=>hK _
 ·exact Gc hn fun _=>hK _
 ·exact E9 hn fun _=>hK _
 ·exact E7 hn fun _ _ _=>hK _
 ·exact WN hn fun _=>hK _
theorem Ais (hn:Rel none none){t:CT}{p:PV}{K:PV->Option R}{K':PV->Option R'}(hK:∀p,Rel (K p) (K' p)):Rel (fcK t p K) (fcK t p K'):=by
 unfold fcK;split
 ·exact Ajg hn hK
 ·exact N0 hn hK
theorem P8 (hn:Rel none none):∀{ts:List CT}{cells:List PV}{off:Nat}{K:List PV->Option R}{K':List PV->Option R'},(∀c,Rel (K c) (K' c))->Rel (R7 ts cells off K) (R7 ts cells off K')
 |[],_,_,_,_,hK=>hK _
 |_::_,_,_,_,_,hK=>N0 hn fun _=>P8 hn fun _=>hK _
theorem M4 (hn:Rel none none):∀{ts:List CT}{cells:List PV}{off:Nat}{K:List PV->Option R}{K':List PV->Option R'},(∀c,Rel (K c) (K' c))->Rel (Nt ts cells off K) (Nt ts cells off K')
 |[],_,_,_,_,hK=>hK _
 |_::_,_,_,_,_,hK=>Ais hn fun _=>M4 hn fun _=>hK _
theorem Wn (hn:Rel none none){g:Bool}{cells:List PV}{K:PV->Option R}{K':PV->Option R'}(hK:∀p,Rel (K p) (K' p)):Rel (XB g cells K) (XB g cells K'):=by
 cases g
 ·exact Be hn fun _ _ _=>Es hn (hK _)
 ·exact hK _
theorem VQ (hn:Rel none none){P:Program}{t:TypeId}{v:Value}{K:PV->Option R}{K':PV->Option R'}(hK:∀p,Bo p=[]->Rel (K p) (K' p)) (hK':∀c,Rel (K (.agg c)) (K' (.agg c))):Rel (cvK P t v K) (cvK P t v K'):=by
 unfold cvK;split
 ·exact At hn fun _=>P8 hn fun _=>hK' _
 ·split
  ·exact hK _ rfl
  ·exact hn
 ·exact hK _ rfl
theorem Afq (hn:Rel none none){op:BinOp}{x y:Int}{K:Bool->Option R}{K':Bool->Option R'}(hK:∀n,Rel (K n) (K' n)):Rel (Ah7 op x y K) (Ah7 op x y K'):=by
 unfold Ah7;split<;>first|exact hK _|exact hn
theorem VE (hn:Rel none none){op:BinOp}{k:IntKind}{x y:Int}{K:PV->Option R}{K':PV->Option R'}(hK:∀n,Rel (K n) (K' n)):Rel (DJ op k x y K) (DJ op k x y K'):=by
 unfold DJ;split<;>first|exact hK _|exact At hn fun _=>hK _|exact Afq hn fun _=>hK _
theorem SY (hn:Rel none none){op:BinOp}{x y:ByteArray}{K:PV->Option R}{K':PV->Option R'}(hK:∀n,Rel (K n) (K' n)):Rel (EE op x y K) (EE op x y K'):=by
 unfold EE;split<;>first|exact hK _|exact At hn fun _=>hK _|exact hn
theorem JH (hn:Rel none none){e:Bool}{p:PV}{K:PV->Option R}{K':PV->Option R'}(hK:∀n,Rel (K n) (K' n)):Rel (CP e p K) (CP e p K'):=by
 unfold CP;split<;>first|exact hK _|exact BG (hK _) (BG (hK _) (hK _))|exact BG (hK _) (hK _)|exact hn
theorem PW (hn:Rel none none):∀{ts:List CT}{ps qs:List PV}{K:Bool->Option R}{K':Bool->Option R'},(∀b,Rel (K b) (K' b))->Rel (Kz ts ps qs K) (Kz ts ps qs K'):=by
 intro ts
 induction ts with
 |nil=>
  intro ps qs K K' hK;cases ps<;>cases qs<;>first|exact hK _|exact hn
 |cons t ts ih=>
  intro ps qs K K' hK;cases ps with
  |nil=>cases t<;>cases qs<;>exact hn
  |cons p ps=>
   cases qs with
   |nil=>cases t<;>exact hn
   |cons q qs=>
    cases t
    ·exact Ht hn fun _=>Ht hn fun _=>ih fun _=>hK _
    ·exact Gc hn fun _=>Gc hn fun _=>ih fun _=>hK _
    ·exact E9 hn fun _=>E9 hn fun _=>ih fun _=>hK _
    ·exact hn
    ·exact hn
theorem Aep (hn:Rel none none){P:Program}{op:BinOp}{t:TypeId}{x y:PV}{K:PV->Option R}{K':PV->Option R'}(hK:∀p,Rel (K p) (K' p)):Rel (Ag4 P op t x y K) (Ag4 P op t x y K'):=by
 unfold Ag4;split
 ·split
  ·exact Ht hn fun _=>Ds hn fun _ _=>At hn fun _=>hK _
  ·exact Ht hn fun _=>Ds hn fun _ _=>At hn fun _=>hK _
  ·exact Ht hn fun _=>Ht hn fun _=>VE hn hK
 ·exact E9 hn fun _=>E9 hn fun _=>SY hn hK
 ·split
  ·exact Gc hn fun _=>Gc hn fun _=>hK _
  ·exact Gc hn fun _=>Gc hn fun _=>hK _
  ·exact hn
 ·split
  ·exact JH hn fun _=>hK _
  ·exact JH hn fun _=>hK _
  ·exact hn
 ·split
  ·exact hK _
  ·exact hK _
  ·exact hn
 ·exact hn
theorem PN (hn:Rel none none){P:Program}{op:BinOp}{t:TypeId}{x y:PV}{K:PV->Option R}{K':PV->Option R'}(hK:∀p,Rel (K p) (K' p)):Rel (Te P op t x y K) (Te P op t x y K'):=by
 unfold Te;split
 ·split
  ·exact At hn fun _=>Ja hn fun _ _=>Ja hn fun _ _=>PW hn fun _=>hK _
  ·exact At hn fun _=>Ja hn fun _ _=>Ja hn fun _ _=>PW hn fun _=>hK _
  ·exact hn
 ·exact Aep hn hK
theorem Ah2 (hn:Rel none none){op:UnOp}{x:PV}{K:PV->Option R}{K':PV->Option R'}(hK:∀p,Rel (K p) (K' p)):Rel (unK op x K) (unK op x K'):=by
 unfold unK;split<;>first|exact Gc hn fun _=>hK _|exact Ds hn fun _ _=>hK _|exact hn
theorem Dk (hn:Rel none none){p:Option PV}{d:Nat}{K:Nat->Option R}{K':Nat->Option R'}(hK:∀n,Rel (K n) (K' n)):Rel (Gh p d K) (Gh p d K'):=by
 unfold Gh;split
 ·exact hK _
 ·exact Ds hn fun _ _=>At hn fun _=>hK _
theorem Yv (hn:Rel none none){x:PV}{d:Nat}{K:PV->Option R}{K':PV->Option R'}(hK:∀n,Rel (K n) (K' n)):Rel (S1 x d K) (S1 x d K'):=by
 unfold S1;split<;>first|exact hK _|exact hn
theorem DF (hn:Rel none none){P:Program}{t:TypeId}{x:PV}{i:Int}{K:PV->Option R}{K':PV->Option R'}(hK:∀p,Rel (K p) (K' p)):Rel (Kl P t x i K) (Kl P t x i K'):=by
 unfold Kl;split
 ·exact At hn fun _=>At hn fun _=>Yv hn hK
 ·refine At hn fun _=>?_
  split
  ·exact At hn fun _=>At hn fun _=>hK _
  ·exact E7 hn fun _ _ _=>At hn fun _=>hK _
 ·exact hn
theorem Yo (hn:Rel none none){F4:Nat->Option (Nat × Nat)}:∀{ps:List (Nat × PV)} {cells:List PV}{K:List PV->Option R}{K':List PV->Option R'},(∀c,Rel (K c) (K' c))->Rel (Sz F4 ps cells K) (Sz F4 ps cells K')
 |[],_,_,_,hK=>hK _
 |(_,_)::_,_,_,_,hK=>Cs hn fun _ _=>At hn fun _=>Yo hn hK
theorem Sg (hn:Rel none none){P:Program}{t:TypeId}{K:List PV->Option R}{K':List PV->Option R'}(hK:∀p,Rel (K p) (K' p)):Rel (Gr P t K) (Gr P t K'):=
 Cs hn fun _ _=>At hn fun _=>P8 hn hK
theorem Afo (hn:Rel none none){x y:PV}{K:PV->Option R}{K':PV->Option R'}(hK:∀p,Rel (K p) (K' p)):Rel (Ahs x y K) (Ahs x y K'):=
 Ds hn fun _ _=>Ht hn fun _=>hK _
theorem Acm (hn:Rel none none){x y:PV}{K:PV->Option R}{K':PV->Option R'}(hK:∀p,Rel (K p) (K' p)):Rel (Ai1 x y K) (Ai1 x y K'):=
 Ds hn fun _ _=>Ht hn fun _=>hK _
theorem Afs (hn:Rel none none){P:Program}{t:TypeId}{x:PV}{K:Nat->Option R}{K':Nat->Option R'}(hK:∀p,Rel (K p) (K' p)):Rel (Aa1 P t x K) (Aa1 P t x K'):=by
 unfold Aa1;split
 ·exact E9 hn fun _=>hK _
 ·exact hK _
 ·split
  ·exact At hn fun _=>hK _
  ·exact E7 hn fun _ _ _=>hK _
 ·exact hn
def NE (Rel:Option R->Option R'->Prop)(f f':Nat->Option (List PV)) (l:List Nat):Prop:=∀i∈l,f i=f' i∨(f i=none∧∀b,Rel none b)
variable {f f':Nat->Option (List PV)}
theorem NE.sub {l l':List Nat}(h:NE Rel f f' l)(hs:∀i∈l',i∈l):NE Rel f f' l':=fun i hi=>h i (hs i hi)
theorem Xq (hn:Rel none none){l:List Nat}{id:Nat}(hf:NE Rel f f' l)(hi:id∈l){K:List PV->Option R}{K':List PV->Option R'}(hK:∀c,f id=some c->Rel (K c) (K' c)):Rel (Do (f id) K) (Do (f' id) K'):=by
 rcases hf id hi with h|⟨h,hb⟩
 ·rw[←h];exact Cs hn hK
 ·rw[h];exact hb _
theorem P7 (hn:Rel none none){es:Nat}{p:PV}{K:Nat->List PV->Option R}{K':Nat->List PV->Option R'}(hf:NE Rel f f' (Ao p)) (hK:∀n c,Rel (K n c) (K' n c)):Rel (PL f es p K) (PL f' es p K'):=by
 unfold PL;split
 ·rename_i id es' off n;cases Nat.beq es' es
  ·exact hn
  ·exact Xq hn hf (by simp[Ao]) fun _ _=>At hn fun _=>hK _ _
 ·exact E7 hn fun _ _ _=>hK _ _
theorem Af9 (hn:Rel none none){t:CT}{p:PV}{K:PV->List Nat->Option R}{K':PV->List Nat->Option R'}(hf:NE Rel f f' (Ao p)) (hK:∀c m,(∀i∈m,f i≠none)->Rel (K c m) (K' c m)):Rel (Nr f t p K) (Nr f' t p K'):=by
 unfold Nr;split
 ·split
  ·rename_i id es' off n;cases Nat.beq es' _
   ·exact hn
   ·exact Xq hn hf (by simp[Ao]) fun c hc=>At hn fun _=>hK _ _ (by simp[hc])
  ·exact E7 hn fun _ _ _=>hK _ _ (by simp)
 ·exact N0 hn fun _=>hK _ _ (by simp)
theorem Tq (hn:Rel none none):∀{ts:List CT}{ps:List PV}{K:List PV->List Nat->Option R}{K':List PV->List Nat->Option R'},NE Rel f f' (ps.flatMap Ao)->(∀c m,(∀i∈m,f i≠none)->Rel (K c m) (K' c m))->Rel (M6 f ts ps K) (M6 f' ts ps K')
 |[],[],_,_,_,hK=>hK _ _ (by simp)
 |[],_::_,_,_,_,_=>hn
 |_::_,[],_,_,_,_=>hn
 |_::_,p::ps,_,_,hf,hK=>Af9 hn (fun i hi=>hf i (by simp only[List.flatMap_cons,List.mem_append];exact .inl hi)) fun _ m hm=>Tq hn (fun i hi=>hf i (by simp only[List.flatMap_cons,List.mem_append];exact .inr hi)) fun _ ms DD=>hK _ _ fun i hi=>by
   rcases List.mem_append.1 hi with h|h
   ·exact hm i h
   ·exact DD i h
theorem Agm (hn:Rel none none){P:Program}{t:TypeId}{p:PV}{K:PV->List Nat->Option R}{K':PV->List Nat->Option R'}(hf:NE Rel f f' (B4 p)) (hK:∀c m,(∀i∈m,f i≠none)->Rel (K c m) (K' c m)):Rel (UF P f t p K) (UF P f' t p K'):=by
 unfold UF
 have h1:∀i,i∈[p].flatMap Ao->i∈B4 p:=by
  intro i hi;simp only[List.flatMap_cons,List.flatMap_nil,List.append_nil] at hi;cases p<;>first|exact hi|simp[Ao] at hi
 cases Bz P t
 ·exact Tq hn (fun i hi=>hf i (h1 i hi)) fun _ _ hm=>Be hn fun _ _ _=>Es hn (hK _ _ hm)
 ·refine Ja hn fun c hc=>?_
  subst hc;exact Tq hn (fun i hi=>hf i hi) fun _ _ hm=>hK _ _ hm
theorem IB (hn:Rel none none){P:Program}:∀{ts:List TypeId}{ps:List PV}{K:List PV->List Nat->Option R}{K':List PV->List Nat->Option R'},NE Rel f f' (ps.flatMap B4)->(∀c m,(∀i∈m,f i≠none)->Rel (K c m) (K' c m))->Rel (EB P f ts ps K) (EB P f' ts ps K')
 |[],[],_,_,_,hK=>hK _ _ (by simp)
 |[],_::_,_,_,_,_=>hn
 |_::_,[],_,_,_,_=>hn
 |_::_,p::ps,_,_,hf,hK=>Agm hn (fun i hi=>hf i (by simp only[List.flatMap_cons,List.mem_append];exact .inl hi)) fun _ m hm=>IB hn (fun i hi=>hf i (by simp only[List.flatMap_cons,List.mem_append];exact .inr hi)) fun _ ms DD=>hK _ _ fun i hi=>by
   rcases List.mem_append.1 hi with h|h
   ·exact hm i h
   ·exact DD i h
theorem TN (hn:Rel none none){P:Program}{t:TypeId}{x:PV}{lo hi:Option PV}{K:PV->Option R}{K':PV->Option R'}(hf:(∃n e,P.underlying t=some (.array n e))->NE Rel f f' (Ao x)) (hK:∀c,Rel (K c) (K' c)):Rel (Zc P f t x lo hi K) (Zc P f' t x lo hi K'):=by
 unfold Zc;split
 ·exact E9 hn fun _=>Dk hn fun _=>Dk hn fun _=>At hn fun _=>hK _
 ·refine At hn fun _=>?_
  split
  ·exact At hn fun _=>Dk hn fun _=>Dk hn fun _=>At hn fun _=>hK _
  ·exact E7 hn fun _ _ _=>Dk hn fun _=>Dk hn fun _=>At hn fun _=>hK _
 ·rename_i n e hu;refine At hn fun _=>?_
  split
  ·rename_i id off;exact Xq hn (hf ⟨_,_,hu⟩) (by simp[Ao]) fun _ _=>At hn fun _=>Dk hn fun _=>Dk hn fun _=>At hn fun _=>hK _
  ·exact hn
 ·exact hn
theorem ON (hn:Rel none none){P:Program}{d:Nat}{t:TypeId}{x:PV}{lo hi mx:Option PV}{K:PV->List (Nat × Bk)->Option R} {K':PV->List (Nat × Bk)->Option R'} (hK:∀c,Rel (K c [(d,.ar false [])]) (K' c [(d,.ar false [])])):Rel (Tx P d t x lo hi mx K) (Tx P d t x lo hi mx K'):=by
 unfold Tx;split
 ·refine At hn fun _=>?_
  split
  ·exact At hn fun _=>Dk hn fun _=>Dk hn fun _=>Dk hn fun _=>At hn fun _=>hK _
  ·exact E7 hn fun _ _ _=>Dk hn fun _=>Dk hn fun _=>Dk hn fun _=>At hn fun _=>hK _
 ·exact hn
theorem HA {nz:Bool}{g g':Nat->Option (List PV)} (hn:Rel none none){P:Program}{t:TypeId}{x:PV}{K:PV->Option R}{K':PV->Option R'}(hf:∀i∈Ao x,(f i=f' i∧g i=g' i)∨(f i=none∧g i=none∧∀b,Rel none b)) (hK:∀c,Rel (K c) (K' c)):Rel (Xj nz P f g t x K) (Xj nz P f' g' t x K'):=by
 unfold Xj;split
 ·rename_i id off;refine At hn fun _=>?_
  rcases hf id (by simp[Ao]) with⟨h1,h2⟩|⟨h1,h2,h3⟩
  ·rw[←h1,←h2];split
   ·exact P8 hn fun _=>Wn hn fun _=>hK _
   ·exact Cs hn fun _ _=>M4 hn fun _=>Wn hn hK
  ·rw[h1,h2];exact h3 _
 ·exact At hn fun _=>P8 hn fun _=>Wn hn fun _=>hK _
 ·exact hn
theorem ZU (hn:Rel none none){P:Program}{d:Nat}{src dst:TypeId}{x:PV}{K:PV->List (Nat × Bk)->Option R} {K':PV->List (Nat × Bk)->Option R'} (hf:P.underlying dst=some .string->NE Rel f f' (Ao x)) (hK:∀v b,(∀q∈b,q.1=d)->Rel (K v b) (K' v b)):Rel (CF P f d src dst x K) (CF P f' d src dst x K'):=by
 unfold CF;split
 ·exact At hn fun _=>Ds hn fun _ _=>hK _ _ (by simp)
 ·rename_i hds;split
  ·exact E9 hn fun _=>hK _ _ (by simp)
  ·split
   ·exact P7 hn (hf hds) fun _ _=>At hn fun _=>Cs hn fun _ _=>hK _ _ (by simp)
   ·exact P7 hn (hf hds) fun _ _=>At hn fun _=>Cs hn fun _ _=>hK _ _ (by simp)
   ·exact hn
  ·exact hn
 ·split
  ·exact E9 hn fun _=>At hn fun _=>hK _ _ (by simp)
  ·exact hn
 ·exact hn
theorem Adc (hn:Rel none none){shr:Bool}{id:Nat}{t:CT}{p:PV}{K:PV->List (Nat × Bk)->Option R} {K':PV->List (Nat × Bk)->Option R'} (hK:∀c b,(∀q∈b,q.1=id)->Rel (K c b) (K' c b)):Rel (Af0 shr id t p K) (Af0 shr id t p K'):=by
 unfold Af0;split
 ·cases shr
  ·exact VX hn fun _ _=>hK _ _ (by simp)
  ·exact E7 hn fun _ _ _=>hK _ _ (by simp)
 ·exact N0 hn fun _=>hK _ _ (by simp)
theorem Tz (hn:Rel none none){shr:Bool}{N:Nat}:∀{ts:List CT}{id:Nat}{ps:List PV}{K:List PV->List (Nat × Bk)->Option R} {K':List PV->List (Nat × Bk)->Option R'},(∀c b,(∀q∈b,∃j,q.1=id+N*j)->Rel (K c b) (K' c b))->Rel (Pp shr N id ts ps K) (Pp shr N id ts ps K')
 |[],_,_,_,_,hK=>Es hn (hK _ _ (by simp))
 |_::_,id,_,_,_,hK=>Be hn fun _ _ _=>Adc hn fun _ b hb=>Tz hn fun _ bs AA=>hK _ _ fun q hq=>by
   rcases List.mem_append.1 hq with h|h
   ·exact⟨0,by rw[hb q h];simp⟩
   ·obtain⟨j,hj⟩:=AA q h;exact⟨j+1,by rw[hj,Nat.mul_add];omega⟩
theorem Add (hn:Rel none none){P:Program}{shr:Bool}{N id:Nat}{t:TypeId}{p:PV}{K:PV->List (Nat × Bk)->Option R} {K':PV->List (Nat × Bk)->Option R'} (hK:∀c b,(∀q∈b,∃j,q.1=id+N*j)->Rel (K c b) (K' c b)):Rel (ZK P shr N id t p K) (ZK P shr N id t p K'):=by
 unfold ZK;split
 ·refine YI hn fun ps=>Tz hn fun _ _ hb=>hK _ _ fun q hq=>?_
  rcases List.mem_cons.1 hq with rfl|hq
  ·exact⟨0,by simp⟩
  ·obtain⟨j,hj⟩:=hb q hq;exact⟨j+1,by rw[hj,Nat.mul_add];omega⟩
 cases Bz P t
 ·exact Tz hn fun _ _ hb=>Be hn fun _ _ _=>Es hn (hK _ _ hb)
 ·exact Ja hn fun _ _=>Tz hn fun _ _ hb=>hK _ _ hb
theorem Ze (hn:Rel none none){P:Program}{shr:Bool}{N:Nat}:∀{ts:List TypeId}{id:Nat}{ps:List PV}{K:List PV->List (Nat × Bk)->Option R} {K':List PV->List (Nat × Bk)->Option R'},(∀c b,(∀q∈b,∃j,q.1=id+N*j)->Rel (K c b) (K' c b))->Rel (Zv P shr N id ts ps K) (Zv P shr N id ts ps K')
 |[],_,_,_,_,hK=>Es hn (hK _ _ (by simp))
 |t::_,id,_,_,_,hK=>Be hn fun _ _ _=>Add hn fun _ b hb=>Ze hn fun _ bs AA=>hK _ _ fun q hq=>by
   rcases List.mem_append.1 hq with h|h
   ·exact hb q h
   ·obtain⟨j,hj⟩:=AA q h;exact⟨NW P t+j,by rw[hj,Nat.mul_add];omega⟩
end
theorem Sl {p:PV}{i:Nat}(h:i∈Ao p):i∈B4 p:=by cases p<;>first|exact h|simp[Ao] at h
theorem Fe {p:PV}{i:Nat}(h:i∈B4 p):i∈Bo p:=by cases p<;>first|exact h|simp[B4,Ao] at h
theorem Kk {p:PV}{i:Nat}(h:i∈Ao p):i∈Bo p:=Fe (Sl h)
section
variable {R R':Type} {Rel:Option R->Option R'->Prop} {P:Program} {N:Nat} {tm tm':Nat->PV} {f f' g g':Nat->Option (List PV)} {o:Oper}
theorem ET (hn:Rel none none){t:TypeId}{x:Operand}{K:PV->Option R}{K':PV->Option R'}(hx:Br tm x=Br tm' x)(hK:∀p,Rel (K p) (K' p)):Rel (Yj P t tm x K) (Yj P t tm' x K'):=by
 unfold Yj;split
 ·exact VQ hn (fun _ _=>hK _) (fun _=>hK _)
 ·rw[hx];exact hK _
theorem Ab7 (hn:Rel none none){t:CT}{p:PV}{K:PV->Option R}{K':PV->Option R'}(hK:∀p,Ao p=[]->Rel (K p) (K' p)):Rel (Ya t p K) (Ya t p K'):=by
 unfold Ya;split
 ·exact Ht hn fun _=>hK _ rfl
 ·exact Gc hn fun _=>hK _ rfl
 ·exact E9 hn fun _=>hK _ rfl
 ·exact E7 hn fun _ _ _=>hK _ rfl
 ·exact WN hn fun _=>hK _ rfl
theorem IJ (hn:Rel none none):∀{ts:List CT}{cells:List PV}{off:Nat}{K:List PV->Option R}{K':List PV->Option R'},(∀c,(∀p∈c,Ao p=[])->Rel (K c) (K' c))->Rel (R7 ts cells off K) (R7 ts cells off K')
 |[],_,_,_,_,hK=>hK _ (by simp)
 |_::_,_,_,_,_,hK=>Ab7 hn fun c hc=>IJ hn fun cs Tn=>hK _ (by
   intro p hp;rcases List.mem_cons.1 hp with h|h
   ·rw[h];exact hc
   ·exact Tn p h)
theorem Wg (hn:Rel none none){t:TypeId}{K:List PV->Option R}{K':List PV->Option R'}(hK:∀c,(∀p∈c,Ao p=[])->Rel (K c) (K' c)):Rel (Gr P t K) (Gr P t K'):=
 Cs hn fun _ _=>At hn fun _=>IJ hn hK
theorem S6 {p c:PV}(h:c∈cellsOf p){i:Nat}(hi:i∈Ao c):i∈B4 p:=by
 unfold cellsOf at h;split at h
 ·exact List.mem_flatMap.2 ⟨c,h,hi⟩
 ·simp at h;subst h;exact Sl hi
theorem SC {cells new:List PV}{off:Nat}{c:PV}(h:c∈Bl cells new off):c∈cells∨c∈new:=by
 unfold Bl at h;rcases List.mem_append.1 h with h|h
 ·rcases List.mem_append.1 h with h|h
  ·exact .inl (List.mem_of_mem_take h)
  ·exact .inr h
 ·exact .inl (List.mem_of_mem_drop h)
theorem FH (hn:Rel none none){F4:Nat->Option (Nat × Nat)} {S:Nat->Prop}:∀{ps:List (Nat × PV)} {cells:List PV}{K:List PV->Option R}{K':List PV->Option R'},(∀c∈cells,∀i∈Ao c,S i)->(∀q∈ps,∀i∈B4 q.2,S i) ->
  (∀cs,(∀c∈cs,∀i∈Ao c,S i)->Rel (K cs) (K' cs))->Rel (Sz F4 ps cells K) (Sz F4 ps cells K')
 |[],_,_,_,h1,_,hK=>hK _ h1
 |(_,p)::_,_,_,_,h1,h2,hK=>Cs hn fun _ _=>At hn fun _=>FH hn (fun c hc i hi=>by
   rcases SC hc with h|h
   ·exact h1 c h i hi
   ·exact h2 (_,p) List.mem_cons_self i (S6 h hi)) (fun q hq=>h2 q (List.mem_cons_of_mem _ hq)) hK
theorem Zm (hn:Rel none none):∀{ts:List CT}{ps:List PV}{K:List PV->List Nat->Option R}{K':List PV->List Nat->Option R'},(∀t∈ts,∀es,t ≠ .sl es)->(∀c,Rel (K c []) (K' c []))->Rel (M6 g ts ps K) (M6 g' ts ps K')
 |[],[],_,_,_,hK=>hK _
 |[],_::_,_,_,_,_=>hn
 |_::_,[],_,_,_,_=>hn
 |t::ts,p::ps,K,K',ht,hK=>by
  show Rel (Nr g t p _) (Nr g' t p _)
  have:∀{g:Nat->Option (List PV)} {S:Type} {L:PV->List Nat->Option S},Nr g t p L=Ya t p fun c=>L c []:=by
   intro g S L;cases t with
   |sl es=>exact absurd rfl (ht _ (by simp) es)
   |_=>rfl
  rw[this,this];exact N0 hn fun c=>Zm hn (fun t h=>ht t (by simp[h])) fun cs=>hK _
theorem Acl (hn:Rel none none){es:Nat}{t:TypeId}{x:PV}{K:Nat->List PV->Option R}{K':Nat->List PV->Option R'}(hx:NE Rel g g' (Ao x)) (hK:∀m c,Rel (K m c) (K' m c)):Rel (UP P g es t x K) (UP P g' es t x K'):=by
 unfold UP;split
 ·exact At hn fun _=>E9 hn fun _=>hK _ _
 ·exact P7 hn hx hK
 ·exact hn
theorem Ade (hn:Rel none none){t:TypeId}{x:PV}{K:Nat->Option R}{K':Nat->Option R'}(hK:∀n,Rel (K n) (K' n)):Rel (Aa6 P t x K) (Aa6 P t x K'):=by
 unfold Aa6;split
 ·exact E7 hn fun _ _ _=>At hn fun _=>hK _
 ·exact hn
theorem RK (hn:Rel none none){d:Nat}{t tx:TypeId}{x:PV}{K:PV->List (Nat × Bk)->Option R} {K':PV->List (Nat × Bk)->Option R'} (hx:NE Rel g g' (Ao x)) (hK:∀v nw,Rel (K v nw) (K' v nw)):Rel (Td P g d t tx x K) (Td P g' d t tx x K'):=by
 unfold Td;split
 ·exact At hn fun _=>Acl hn hx fun _ _=>At hn fun _=>hK _ _
 ·exact hn
theorem DA (hn:Rel none none){C:Gt}{call:Ai}{K:PV->List Nat->List (Nat × Bk)->Option R} {K':PV->List Nat->List (Nat × Bk)->Option R'}
  (Jo:∀x∈o.op.operands.toList,Br tm x=Br tm' x)
  (hfg:G8 P o.op=true->∀x∈o.op.operands.toList,∀i∈Bo (Br tm' x),(f i=f' i∧g i=g' i)∨(f i=none∧g i=none∧∀b,Rel none b))
  (hK:∀v fz nw,(G8 P o.op=false->fz=[]∧∀q∈nw,o.dst=some q.1)->(∀i∈fz,g i≠none)->Rel (K v fz nw) (K' v fz nw)):
  Rel (DC C P N call tm f g o K) (DC C P N call tm' f' g' o K'):=by
 have h0:∀v,Rel (K v [] []) (K' v [] []):=fun v=>hK v [] [] (fun _=>⟨rfl,by simp⟩) (by simp)
 have hf:G8 P o.op=true->∀x∈o.op.operands.toList,NE Rel f f' (Bo (Br tm' x)):=fun h x hx i hi=>(hfg h x hx i hi).imp (·.1) fun h=>⟨h.1,h.2.2⟩
 have hg:G8 P o.op=true->∀x∈o.op.operands.toList,NE Rel g g' (Bo (Br tm' x)):=fun h x hx i hi=>(hfg h x hx i hi).imp (·.2) fun h=>⟨h.2.1,h.2.2⟩
 unfold DC;generalize XO:o.op=op at *
 split
 ·exact ET hn (Jo _ (by simp[Op.operands])) h0
 ·exact ET hn (Jo _ (by simp[Op.operands])) h0
 ·rename_i c x y;rw[Jo c (by simp[Op.operands]),Jo x (by simp[Op.operands]),Jo y (by simp[Op.operands])]
  exact Gc hn fun _=>BG (h0 _) (h0 _)
 ·exact Cs hn fun d hd=>Sg hn fun _=>hK _ _ _ (fun _=>⟨rfl,by simp[hd]⟩) (by simp)
 ·rename_i t x;rw[Jo x (by simp[Op.operands])]
  refine Cs hn fun d hd=>At hn fun _=>?_
  cases Q0 P t
  ·exact M4 hn fun _=>hK _ _ _ (fun _=>⟨rfl,by simp[hd]⟩) (by simp)
  ·exact P8 hn fun _=>hK _ _ _ (fun _=>⟨rfl,by simp[hd]⟩) (by simp)
 ·rename_i t ps
  have:(ps.toList.map fun q=>(q.1,Br tm q.2))=ps.toList.map fun q=>(q.1,Br tm' q.2):=by
   apply List.map_congr_left;intro q hq;rw[Jo q.2 (by simp only[Op.operands];exact List.mem_map_of_mem hq)]
  rw[this];exact At hn fun _=>Sg hn fun _=>Yo hn fun _=>M4 hn fun _=>h0 _
 ·rename_i t n ps
  have:(ps.toList.map fun q=>(q.1,Br tm q.2))=ps.toList.map fun q=>(q.1,Br tm' q.2):=by
   apply List.map_congr_left;intro q hq;rw[Jo q.2 (by simp only[Op.operands];exact List.mem_map_of_mem hq)]
  rw[this];refine Cs hn fun d hd=>?_
  split
  ·rename_i e hu;cases NT:I6 P [e]
   ·refine At hn fun _=>Wg hn fun z hz=>Yo hn fun cs=>Zm hn ?_ fun cs'=>hK _ _ _ (fun _=>⟨rfl,by simp[hd]⟩) (by simp)
    intro c hc es he;obtain⟨l,hl,hc⟩:=List.mem_flatten.1 hc;rw[List.eq_of_mem_replicate hl] at hc;subst he
    have:I6 P [e]=true:=by
     unfold I6;simp only[List.any_cons,List.any_nil,Bool.or_false,Bool.or_eq_true];exact .inr (List.any_eq_true.2 ⟨_,hc,rfl⟩)
    rw[this] at NT;cases NT
   refine At hn fun _=>Wg hn fun z hz=>FH (S:=fun i=>∃x∈(Op.buildSlice t n ps).operands.toList,i∈Bo (Br tm' x)) hn ?_ ?_ fun cs Tn=>?_
   ·intro c hc i hi;obtain⟨l,hl,hc⟩:=List.mem_flatten.1 hc;rw[List.eq_of_mem_replicate hl] at hc;rw[hz c hc] at hi;simp at hi
   ·intro q hq i hi;obtain⟨q',Ff,rfl⟩:=List.mem_map.1 hq;exact⟨q'.2,by simp only[Op.operands];exact List.mem_map_of_mem Ff,Fe hi⟩
   ·refine Tq hn (fun i hi=>?_) fun cs' m hm=>hK _ _ _ (fun h=>by simp[G8,hu,NT] at h) hm
    obtain⟨c,hc,hi⟩:=List.mem_flatMap.1 hi;obtain⟨x,hx,hxi⟩:=Tn c hc i hi;exact hg (by simp[G8,hu,NT]) x hx i hxi
  ·exact hn
 ·rename_i t x;rw[Jo x (by simp[Op.operands])]
  exact HA hn (fun i hi=>hfg (by simp[G8]) x (by simp[Op.operands]) i (Kk hi)) h0
 ·rename_i x;rw[Jo x (by simp[Op.operands])]
  exact Yv hn h0
 ·rename_i op' t x y _;rw[Jo x (by simp[Op.operands]),Jo y (by simp[Op.operands])]
  exact PN hn h0
 ·rename_i op' t x;rw[Jo x (by simp[Op.operands])]
  exact Ah2 hn h0
 ·rename_i src dst x;rw[Jo x (by simp[Op.operands])]
  exact ZU hn (fun hds i hi=>hg (by simp[G8,hds]) x (by simp[Op.operands]) i (Kk hi)) fun v b hb=>Cs hn fun d hd=>hK _ _ _ (fun _=>⟨rfl,fun q hq=>by rw[hd,hb q hq,hd];rfl⟩) (by simp)
 ·rename_i t x y;rw[Jo x (by simp[Op.operands]),Jo y (by simp[Op.operands])]
  refine Cs hn fun d hd=>?_
  split
  ·exact Ds hn fun _ _=>Ds hn fun _ _=>At hn fun _=>Sg hn fun _=>hK _ _ _ (fun _=>⟨rfl,by simp[hd]⟩) (by simp)
  ·exact hn
 ·rename_i t x lo hi mx;split
  ·rw[Jo x (by simp[Op.operands])]
   have h1:lo.map (Br tm)=lo.map (Br tm'):=by
    cases lo with
    |none=>rfl
    |some y=>simp only[Option.map_some];rw[Jo y (by simp[Op.operands])]
   have h2:hi.map (Br tm)=hi.map (Br tm'):=by
    cases hi with
    |none=>rfl
    |some y=>simp only[Option.map_some];rw[Jo y (by simp[Op.operands])]
   rw[h1,h2];exact TN hn (fun ⟨n,e,he⟩ i hi=>hf (by simp[G8,he]) x (by simp[Op.operands]) i (Kk hi)) h0
  ·rename_i m;rw[Jo x (by simp[Op.operands])]
   have h1:lo.map (Br tm)=lo.map (Br tm'):=by
    cases lo with
    |none=>rfl
    |some y=>simp only[Option.map_some];rw[Jo y (by simp[Op.operands])]
   have h2:hi.map (Br tm)=hi.map (Br tm'):=by
    cases hi with
    |none=>rfl
    |some y=>simp only[Option.map_some];rw[Jo y (by simp[Op.operands])]
   rw[h1,h2,Jo m (by simp[Op.operands])]
   exact Cs hn fun d hd=>ON hn fun c=>hK _ _ _ (fun _=>⟨rfl,by simp[hd]⟩) (by simp)
 ·rename_i t x fl;rw[Jo x (by simp[Op.operands])]
  exact Cs hn fun _ _=>At hn fun _=>Yv hn h0
 ·rename_i t x fl;rw[Jo x (by simp[Op.operands])]
  exact Cs hn fun _ _=>At hn fun _=>Ja hn fun _ _=>M4 hn fun _=>Wn hn h0
 ·rename_i t x i;rw[Jo x (by simp[Op.operands]),Jo i (by simp[Op.operands])]
  exact Ds hn fun _ _=>DF hn h0
 ·rename_i t x i;rw[Jo x (by simp[Op.operands]),Jo i (by simp[Op.operands])]
  refine Ds hn fun _ _=>?_
  split
  ·exact E9 hn fun _=>At hn fun _=>Cs hn fun _ _=>h0 _
  ·exact Ja hn fun _ _=>At hn fun _=>M4 hn fun _=>Wn hn h0
  ·exact hn
 ·rename_i t x k ok;rw[Jo x (by simp[Op.operands]),Jo k (by simp[Op.operands])]
  split
  ·refine At hn fun _=>?_
   split
   ·exact E9 hn fun _=>Cs hn fun _ _=>VQ hn (fun _ _=>At hn fun _=>h0 _) (fun _=>At hn fun _=>h0 _)
   ·exact hn
  ·exact hn
 ·rename_i x i;rw[Jo x (by simp[Op.operands])]
  split
  ·exact Cs hn fun _ _=>h0 _
  ·exact hn
 ·rename_i c
  have Ko:∀x∈c.args.toList,x∈(Op.call c).operands.toList:=by
   intro x hx;simp only[Op.operands,Call.operands,Array.toList_append,List.mem_append];exact .inr hx
  have rc:∀fn,G8 P (.call c)=true->Rel (EO C P N call tm g o c fn K) (EO C P N call tm' g' o c fn K'):=by
   intro fn hmm;unfold EO;have:c.args.toList.map (Br tm)=c.args.toList.map (Br tm'):=List.map_congr_left fun x hx=>Jo x (Ko x hx)
   rw[this];refine IB hn (fun i hi=>?_) fun vs m hm=>IA hn fun rv ro=>Es hn (At hn fun _=>Ze hn fun ws bs AA=>At hn fun _=>hK _ _ _ (fun h=>by rw[hmm] at h;cases h) (fun i hi=>?_))
   ·obtain⟨p,hp,hi⟩:=List.mem_flatMap.1 hi;obtain⟨x,hx,rfl⟩:=List.mem_map.1 hp;exact hg hmm x (Ko x hx) i (Fe hi)
   ·have FM:i∈m:=by
     cases hq:I6 P (M9 P o.type)<;>rw[hq] at hi
     ·simp at hi
     ·exact hi
    exact hm i FM
  split
  ·refine Be hn fun x _ hx=>Be hn fun _ _ _=>?_
   rw[Jo x (Ko x (by rw[hx];simp))]
   exact Afs hn fun _=>h0 _
  ·refine Be hn fun x _ hx=>Be hn fun _ _ _=>?_
   rw[Jo x (Ko x (by rw[hx];simp))]
   exact Ade hn fun _=>h0 _
  ·refine Be hn fun x _ hx=>Be hn fun y _ hy=>Es hn ?_
   subst hy;rw[Jo x (Ko x (by rw[hx];simp)),Jo y (Ko y (by rw[hx];simp))]
   exact Afo hn h0
  ·refine Be hn fun x _ hx=>Be hn fun y _ hy=>Es hn ?_
   subst hy;rw[Jo x (Ko x (by rw[hx];simp)),Jo y (Ko y (by rw[hx];simp))]
   exact Acm hn h0
  ·rename_i hc;have hmm:G8 P (.call c)=true:=by simp[G8,hc]
   refine At hn fun _=>Cs hn fun d hd=>Be hn fun _ _ hb=>Be hn fun x _ hx=>Es hn (Be hn fun _ _ _=>Be hn fun _ _ _=>?_)
   have hxm:x∈c.args.toList:=by rw[hb,hx];simp
   rw[Jo x (Ko x hxm)];exact RK hn (fun i hi=>hg hmm x (Ko x hxm) i (Kk hi)) fun v nw=>hK _ _ _ (fun h=>by rw[hmm] at h;cases h) (by simp)
  ·rename_i fn hc;have hmm:G8 P (.call c)=true:=by simp[G8,hc]
   exact rc fn hmm
  ·rename_i t hc;have hmm:G8 P (.call c)=true:=by simp[G8,hc]
   have ht:=Jo (.tmp t) (by simp[Op.operands,Call.operands,hc])
   change tm t=tm' t at ht;rw[ht];exact Ake hn fun fn=>rc fn hmm
  ·exact hn
 ·exact hn
variable {hp:Nat->Option Bk}
end
open Go.RowKit
abbrev S4:=PV × List Nat × List (Nat × Bk)
def Gm (ops:Array Oper)(o:Oper)(tm:Nat->PV):Option Bool:=
 match o.guard with
 |none=>some true
 |some (j,want)=>
  match (ops[j]?).bind (·.dst) with
  |none=>none
  |some d=>
   match tm d with
   |.sc (.bool b)=>some (b==want)
   |.sc (.tuple _)=>some false
   |_=>none
section
variable {R:Type} {r:R} {C:Gt} {P:Program} {N:Nat} {call:Ai} {ops:Array Oper} {o x:Oper} {s:St} {K:St->Option R}
theorem JZ:C7 C P N call ops o s K=match Gm ops o s.tm with
  |none=>none
  |some true=>PS C P N call o s K
  |some false=>An (Fv N o.dst) (K ⟨Bj s.tm o.dst (.sc undef),s.hp⟩):=by
 unfold C7 Gm;cases o.guard with
 |none=>rfl
 |some q=>
  obtain⟨j,want⟩:=q;cases hd:(ops[j]?).bind (·.dst) with
  |none=>simp[hd]
  |some d=>
   simp only[hd];cases ht:s.tm d with
   |sc v=>
    cases v with
    |bool b=>
     cases b<;>cases want<;>simp only[Bd,cond_true,cond_false,V0 s.tm ht]<;>rfl
    |_=>rfl
   |_=>rfl
def Aa3 (C:Gt)(P:Program)(N:Nat)(call:Ai)(o:Oper)(s:St):Option S4:=
 DC C P N call s.tm (rd s.hp) (Jm s.hp) o fun v fz nw=>some (v,fz,nw)
theorem Aj1 {K:PV->List Nat->List (Nat × Bk)->Option R}:DC C P N call s.tm (rd s.hp) (Jm s.hp) o K=(Aa3 C P N call o s).bind fun q=>K q.1 q.2.1 q.2.2:=by
 refine DA (Rel:=fun (a:Option R) (b:Option S4)=>a=b.bind fun q=>K q.1 q.2.1 q.2.2) (K:=K) (K':=fun v fz nw=>some (v,fz,nw)) rfl (fun _ _=>rfl) (fun _ _ _ _ _=>.inl ⟨rfl,rfl⟩) fun v fz nw _ _=>rfl
theorem VB {q:S4}(h:Aa3 C P N call o s=some q):(G8 P o.op=false->q.2.1=[]∧∀p∈q.2.2,o.dst=some p.1)∧∀i∈q.2.1,Jm s.hp i≠none:=by
 have:=DA (C:=C) (P:=P) (N:=N) (call:=call) (o:=o) (tm:=s.tm) (tm':=s.tm) (f:=rd s.hp) (f':=rd s.hp) (g:=Jm s.hp) (g':=Jm s.hp)
  (Rel:=fun (a:Option S4)(_:Option S4)=>∀q,a=some q->(G8 P o.op=false->q.2.1=[]∧∀p∈q.2.2,o.dst=some p.1)∧∀i∈q.2.1,Jm s.hp i≠none)
  (K:=fun v fz nw=>some (v,fz,nw)) (K':=fun v fz nw=>some (v,fz,nw)) (fun _ h=>by cases h) (fun _ _=>rfl) (fun _ _ _ _ _=>.inl ⟨rfl,rfl⟩) (fun v fz nw h1 h2 q hq=>by cases hq;exact⟨h1,h2⟩)
 exact this q h
def gE (C:Gt)(P:Program)(N:Nat)(call:Ai)(ops:Array Oper)(o:Oper)(s:St):Option S4:=
 match Gm ops o s.tm with
 |none=>none
 |some true=>bif Q6 C P o.op then none else Aa3 C P N call o s
 |some false=>some (.sc undef,[],[])
def Gd (C:Gt)(P:Program)(ops:Array Oper)(o:Oper)(tm:Nat->PV):Bool:=Q6 C P o.op&&(Gm ops o tm==some true)
theorem Kd (h:Gd C P ops o s.tm=false):C7 C P N call ops o s K=(gE C P N call ops o s).bind fun q=>Y6 N s o.dst q.1 q.2.1 q.2.2 K:=by
 rw[JZ];unfold gE;unfold Gd at h;cases hv:Gm ops o s.tm with
 |none=>rfl
 |some b=>
  rw[hv] at h;cases b with
  |false=>
   show An _ _=Y6 N s o.dst (.sc undef) [] [] K;unfold Y6;have h1:Bn s.hp []=true:=rfl;have h2:Aq (Ad s.hp []) []=s.hp:=rfl;rw[h1,h2,Bool.and_true]
  |true=>
   have hm:Q6 C P o.op=false:=by simpa using h
   simp only[PS,hm,cond_false];exact Aj1
theorem H8 (h:Gd C P ops o s.tm=true):C7 C P N call ops o s K=T8 C P N call s o K:=by
 rw[JZ];unfold Gd at h;simp only[Bool.and_eq_true,beq_iff_eq] at h;rw[h.2];simp only[PS,h.1,cond_true]
theorem Sy {q:S4}(h:gE C P N call ops o s=some q):(G8 P o.op=false->q.2.1=[]∧∀p∈q.2.2,o.dst=some p.1)∧∀i∈q.2.1,Jm s.hp i≠none:=by
 unfold gE at h;split at h
 ·cases h
 ·cases hm:Q6 C P o.op<;>rw[hm] at h
  ·exact VB h
  ·cases h
 ·cases h;exact⟨fun _=>⟨rfl,by simp⟩,by simp⟩
theorem E5 {tm tm':Nat->PV}(h:∀t∈Dq ops o,tm t=tm' t):∀y∈o.op.operands.toList,Br tm y=Br tm' y:=by
 intro y hy;cases y with
 |tmp t=>
  refine h t ?_;unfold Dq Aeh;refine List.mem_append.2 (.inl (List.mem_filterMap.2 ⟨.tmp t,hy,rfl⟩))
 |const v=>cases v<;>rfl
 |func f=>rfl
 |«global» g=>rfl
theorem Kw {tm tm':Nat->PV}(h:∀t∈Dq ops o,tm t=tm' t):Gm ops o tm=Gm ops o tm':=by
 unfold Gm;cases hg:o.guard with
 |none=>rfl
 |some q=>
  obtain⟨j,want⟩:=q;cases hd:(ops[j]?).bind (·.dst) with
  |none=>simp[hd]
  |some d=>
   have:tm d=tm' d:=h d (by
    unfold Dq;rw[hg];refine List.mem_append.2 (.inr ?_);simp only[hd];simp)
   simp only[hd,this]
theorem Wq {s':St}{q:S4}(ht:∀t∈Dq ops o,s.tm t=s'.tm t)
  (hm:G8 P o.op=true->∀y∈o.op.operands.toList,∀i∈Bo (Br s'.tm y),(rd s.hp i=rd s'.hp i∧Jm s.hp i=Jm s'.hp i)∨(rd s.hp i=none∧Jm s.hp i=none))
  (h:gE C P N call ops o s=some q):gE C P N call ops o s'=some q:=by
 unfold gE at h ⊢;rw[←Kw ht];split at h
 ·cases h
 ·cases hM:Q6 C P o.op<;>rw[hM] at h
  ·have:=DA (C:=C) (P:=P) (N:=N) (call:=call) (o:=o) (tm:=s.tm) (tm':=s'.tm) (f:=rd s.hp) (f':=rd s'.hp) (g:=Jm s.hp) (g':=Jm s'.hp)
    (Rel:=fun (a b:Option S4)=>a=some q->b=some q)
    (K:=fun v fz nw=>some (v,fz,nw)) (K':=fun v fz nw=>some (v,fz,nw)) (fun h=>h) (E5 ht)
    (fun Mh y hy i hi=>(hm Mh y hy i hi).imp id fun h=>⟨h.1,h.2,fun _ h=>by cases h⟩) (fun v fz nw _ _ h=>h)
   exact this h
  ·cases h
 ·exact h
end
open Go.RowKit
theorem P3:∀{nw:List (Nat × Bk)} {hp Ck:Nat->Option Bk},Bn hp nw=true->(∀i b,(i,b)∈nw->Ck i=none)->Bn Ck nw=true
 |[],_,_,_,_=>rfl
 |(i,b)::nw,hp,Ck,h,h'=>by
  simp only[Bn,Bool.and_eq_true,Option.isNone_iff_eq_none] at h ⊢;exact⟨⟨h' i b (by simp),h.1.2⟩,P3 h.2 fun j c hj=>h' j c (by simp[hj])⟩
section
variable {hp:Nat->Option Bk} {fz:List Nat} {nw:List (Nat × Bk)}
theorem Fo (ha:Bn hp nw=true){i:Nat}(hi:hp i≠none):Aq (Ad hp fz) nw i=if i∈fz then (hp i).map S0 else hp i:=by
 obtain⟨h1,h2⟩:=Bg ha;rw[(D3 h2).2 i (fun bx hb=>hi (h1 i bx hb)),Bq]
theorem Ip (ha:Bn hp nw=true){i:Nat}{b:Bk}(hi:(i,b)∈nw):Aq (Ad hp fz) nw i=some b:=
 (D3 (Bg ha).2).1 i b hi
theorem M2 (ha:Bn hp nw=true){i:Nat}(hi:hp i=none)(hn:∀b,(i,b) ∉ nw):Aq (Ad hp fz) nw i=none:=by
 rw[(D3 (Bg ha).2).2 i hn,Bq,hi];simp
theorem Nh (ha:Bn hp nw=true){i:Nat}(hi:hp i≠none):Aq (Ad hp fz) nw i≠none:=by
 rw[Fo ha hi];cases h:hp i with
 |none=>exact absurd h hi
 |some b=>split<;>simp
theorem Aip (b:Option Bk):(match b.map S0 with|some (.st c)=>some c|some (.ar _ c)=>some c|_=>none)=(match b with|some (.st c)=>some c|some (.ar _ c)=>some c|_=>none):=by
 cases b with
 |none=>rfl
 |some b=>cases b<;>rfl
theorem Ac0 (b:Option Bk):(match b.map S0 with|some (.ar _ c)=>some c|_=>none)=(match b with|some (.ar _ c)=>some c|_=>none):=by
 cases b with
 |none=>rfl
 |some b=>cases b<;>rfl
theorem OX (ha:Bn hp nw=true){i:Nat}(hi:hp i≠none):rd (Aq (Ad hp fz) nw) i=rd hp i:=by
 unfold rd;rw[Fo ha hi];by_cases h:i∈fz
 ·rw[if_pos h];exact Aip _
 ·rw[if_neg h]
theorem HV (ha:Bn hp nw=true){i:Nat}(hi:hp i≠none):Jm (Aq (Ad hp fz) nw) i=Jm hp i:=by
 unfold Jm;rw[Fo ha hi];by_cases h:i∈fz
 ·rw[if_pos h];exact Ac0 _
 ·rw[if_neg h]
theorem XS {i:Nat}(hi:hp i=none):rd hp i=none:=by unfold rd;rw[hi]
theorem Lc {i:Nat}(hi:hp i=none):Jm hp i=none:=by unfold Jm;rw[hi]
theorem Av0 (b:Option Bk):(b.map S0).map S0=b.map S0:=by
 cases b with
 |none=>rfl
 |some b=>cases b<;>rfl
theorem UL {fx fo:List Nat}{nx no:List (Nat × Bk)} (hx:Bn hp nx=true)(ho:Bn (Aq (Ad hp fx) nx) no=true) (RB:Bn hp no=true)
  (Us:Bn (Aq (Ad hp fo) no) nx=true) (h1:∀i∈fx,hp i≠none)(h2:∀i∈fo,hp i≠none):
  Aq (Ad (Aq (Ad hp fx) nx) fo) no=Aq (Ad (Aq (Ad hp fo) no) fx) nx:=by
 funext i
 by_cases hi:hp i=none
 ·by_cases RN:∃b,(i,b)∈no
  ·obtain⟨b,hb⟩:=RN
   have hnx:∀b',(i,b') ∉ nx:=fun b' Hi=>by
    have:=(Bg ho).1 i b hb;rw[Ip hx Hi] at this;cases this
   rw[Ip ho hb,Fo Us (by rw[Ip RB hb];simp),Ip RB hb,if_neg (fun h=>h1 i h hi)]
  ·have RN:∀b,(i,b) ∉ no:=fun b hb=>RN ⟨b,hb⟩
   by_cases hnx:∃b,(i,b)∈nx
   ·obtain⟨b,hb⟩:=hnx;rw[Ip Us hb,Fo ho (by rw[Ip hx hb];simp),Ip hx hb,if_neg (fun h=>h2 i h hi)]
   ·have hnx:∀b,(i,b) ∉ nx:=fun b hb=>hnx ⟨b,hb⟩
    rw[M2 ho (M2 hx hi hnx) RN,M2 Us (M2 RB hi RN) hnx]
 ·rw[Fo ho (Nh hx hi),Fo hx hi,Fo Us (Nh RB hi),Fo RB hi];split<;>split<;>first|rfl|rw[Av0]
end
section
variable {R:Type} {r:R} {C:Gt} {P:Program} {N:Nat} {call:Ai} {ops:Array Oper} {o x:Oper} {s:St} {K:St->Option R}
structure Xz (C:Gt) (P:Program) (ops:Array Oper) (x o:Oper):Prop where
 xo:∀d,x.dst=some d->d ∉ Dq ops o
 ne:∀d,x.dst=some d->o.dst≠some d
 ox:∀d,o.dst=some d->d ∉ Dq ops x
 mx:Q6 C P x.op=true->G8 P o.op=false
 mo:Q6 C P o.op=true->G8 P x.op=false
theorem Qk {l:List Nat}{d:Nat}(h:l.any (Nat.beq d)=false):d ∉ l:=by
 intro hm;have:l.any (Nat.beq d)=true:=List.any_eq_true.2 ⟨d,hm,Nat.beq_refl d⟩;rw[this] at h;cases h
theorem Agq (h:CH C P ops x o=false):Xz C P ops x o:=by
 unfold CH at h;simp only[Bool.or_eq_false_iff,Bool.and_eq_false_iff] at h;obtain⟨⟨⟨h1,h2⟩,h3⟩,h4⟩:=h;refine⟨fun d hd=>?_,fun d hd he=>?_,fun d hd=>?_,fun hm=>?_,fun hm=>?_⟩
 ·simp only[hd,Bool.or_eq_false_iff] at h1;exact Qk h1.1
 ·simp only[hd,he,Bool.or_eq_false_iff] at h1;rw[Nat.beq_refl] at h1;cases h1.2
 ·simp only[hd] at h2;exact Qk h2
 ·rw[hm] at h3;rcases h3 with h|h
  ·cases h
  ·exact h
 ·rw[hm] at h4;rcases h4 with h|h
  ·cases h
  ·exact h
theorem Ef {tm:Nat->PV}{d:Option Tmp}{v:PV}{l:List Nat}(h:∀i,d=some i->i ∉ l):∀t∈l,Bj tm d v t=tm t:=by
 intro t ht;cases d with
 |none=>rfl
 |some d=>exact Ah _ _ (by rintro rfl;exact h _ rfl ht)
theorem Ke {tm:Nat->PV}{d e:Option Tmp}{u v:PV}(h:∀i,d=some i->e≠some i):Bj (Bj tm d u) e v=Bj (Bj tm e v) d u:=by
 cases d with
 |none=>rfl
 |some d=>
  cases e with
  |none=>rfl
  |some e=>exact OT _ _ _ (by rintro rfl;exact h _ rfl rfl)
def RP (C:Gt)(P:Program)(o:Oper)(s:St):Prop:=(∀y∈o.op.operands.toList,∀i∈Bo (Br s.tm y),s.hp i≠none) ∧
 (Q6 C P o.op=true->Nb o.op=false->∀y∈o.op.operands.toList,∀i∈Bo (Br s.tm y),∀c,s.hp i=some (.st c)->∀p∈c,∀k∈Ao p,s.hp k≠none)
theorem Gx {tm tm':Nat->PV}(h:∀t∈Dq ops o,tm t=tm' t):Gd C P ops o tm=Gd C P ops o tm':=by
 unfold Gd;rw[Kw h]
theorem VP (hw:RP C P o s)(xo:∀d,x.dst=some d->d ∉ Dq ops o)(ne:∀d,x.dst=some d->o.dst≠some d)(ox:∀d,o.dst=some d->d ∉ Dq ops x)(hx:Gd C P ops x s.tm=false)(ho:Gd C P ops o s.tm=false)
  (h:C7 C P N call ops x s (fun s1=>C7 C P N call ops o s1 K)=some r):C7 C P N call ops o s (fun s1=>C7 C P N call ops x s1 K)=some r:=by
 rw[Kd hx] at h;cases ex:gE C P N call ops x s with
 |none=>rw[ex] at h;cases h
 |some q=>
 obtain⟨vx,fx,nx⟩:=q;rw[ex] at h;obtain⟨hb,h1⟩:=Aj h;simp only[Bool.and_eq_true] at hb;have t1:∀t∈Dq ops o,Bj s.tm x.dst vx t=s.tm t:=Ef xo;change C7 C P N call ops o ⟨Bj s.tm x.dst vx,Aq (Ad s.hp fx) nx⟩ K=some r at h1;rw[Kd (by rw[Gx t1];exact ho)] at h1
 cases eo:gE C P N call ops o ⟨Bj s.tm x.dst vx,Aq (Ad s.hp fx) nx⟩ with
 |none=>rw[eo] at h1;cases h1
 |some q=>
 obtain⟨vo,fo,no⟩:=q;rw[eo] at h1;obtain⟨hc,h2⟩:=Aj h1;change K ⟨Bj (Bj s.tm x.dst vx) o.dst vo,Aq (Ad (Aq (Ad s.hp fx) nx) fo) no⟩=some r at h2;simp only[Bool.and_eq_true] at hc
 have eo':gE C P N call ops o s=some (vo,fo,no):=by
  refine Wq t1 (fun _ y hy i hi=>?_) eo
  have:=hw.1 y hy i hi;exact .inl ⟨OX hb.2 this,HV hb.2 this⟩
 have RB:Bn s.hp no=true:=P3 hc.2 fun i b hi=>by
  cases hs:s.hp i with
  |none=>rfl
  |some c=>exact absurd ((Bg hc.2).1 i b hi) (Nh hb.2 (by rw[hs];simp))
 rw[Kd ho,eo']
 have Us:Bn (Aq (Ad s.hp fo) no) nx=true:=P3 hb.2 fun i b hi=>by
  refine M2 RB ((Bg hb.2).1 i b hi) fun c Qx=>?_
  have:=(Bg hc.2).1 i c Qx;rw[Ip hb.2 hi] at this;cases this
 have t2:∀t∈Dq ops x,s.tm t=Bj s.tm o.dst vo t:=fun t ht=>(Ef ox t ht).symm
 have ex':gE C P N call ops x ⟨Bj s.tm o.dst vo,Aq (Ad s.hp fo) no⟩=some (vx,fx,nx):=by
  refine Wq t2 (fun _ y hy i hi=>?_) ex
  by_cases hs:s.hp i=none
  ·exact .inr ⟨XS hs,Lc hs⟩
  ·exact .inl ⟨(OX RB hs).symm,(HV RB hs).symm⟩
 show An _ _=_;rw[hc.1,RB];show C7 C P N call ops x ⟨Bj s.tm o.dst vo,Aq (Ad s.hp fo) no⟩ K=some r;rw[Kd (by rw[←Gx t2];exact hx),ex']
 show An _ _=_;rw[hb.1,Us];rw[←h2];have hfx:∀i∈fx,s.hp i≠none:=fun i hi hs=>(Sy ex).2 i hi (Lc hs)
 have hfo:∀i∈fo,s.hp i≠none:=fun i hi hs=>(Sy eo').2 i hi (Lc hs)
 show K ⟨Bj (Bj s.tm o.dst vo) x.dst vx,Aq (Ad (Aq (Ad s.hp fo) no) fx) nx⟩=K _;rw[Ke ne,UL hb.2 hc.2 RB Us hfx hfo]
end
open Go.RowKit
theorem Xd {C:Gt}{P:Program}{o:Op}(h:Q6 C P o=true):G8 P o=true:=by
 unfold Q6 at h;split at h
 ·rfl
 ·rename_i c;unfold G8;simp only;split at h<;>rename_i hc
  ·rw[hc]
  ·rw[hc]
  ·cases h
  ·rw[hc]
  ·cases h
 ·cases h
structure GP (N:Nat) (S:Nat->Prop) (dst:Option Nat) (hp Db Ck E0:Nat->Option Bk):Prop where
 keep:∀i,hp i≠none->Ck i≠none
 off:∀i,i<N->dst≠some i->(¬S i∨hp i=none)->Ck i=hp i∧E0 i=Db i
 same:∀i,hp i=Db i->Ck i=E0 i
 far:∀i,¬S i->hp i≠none->Ck i=hp i
section
variable {R R':Type} {Rel:Option R->Option R'->Prop} {P:Program} {N:Nat} {tm tm':Nat->PV} {hp Db:Nat->Option Bk} {f f':Nat->Option (List PV)} {o:Oper}
theorem JB (hn:Rel none none){t:CT}{p:PV}{K:PV->List Nat->Option R}{K':PV->List Nat->Option R'}(hf:NE Rel f f' (Ao p)) (hK:∀c m,(∀i∈m,f i≠none∧i∈Ao p)->Rel (K c m) (K' c m)):Rel (Nr f t p K) (Nr f' t p K'):=by
 unfold Nr;split
 ·split
  ·rename_i id es' off n;cases Nat.beq es' _
   ·exact hn
   ·exact Xq hn hf (by simp[Ao]) fun c hc=>At hn fun _=>hK _ _ (by simp[hc,Ao])
  ·exact E7 hn fun _ _ _=>hK _ _ (by simp)
 ·exact N0 hn fun _=>hK _ _ (by simp)
theorem EZ (hn:Rel none none):∀{ts:List CT}{ps:List PV}{K:List PV->List Nat->Option R}{K':List PV->List Nat->Option R'},NE Rel f f' (ps.flatMap Ao)->(∀c m,(∀i∈m,f i≠none∧i∈ps.flatMap Ao)->Rel (K c m) (K' c m))->Rel (M6 f ts ps K) (M6 f' ts ps K')
 |[],[],_,_,_,hK=>hK _ _ (by simp)
 |[],_::_,_,_,_,_=>hn
 |_::_,[],_,_,_,_=>hn
 |_::_,p::ps,_,_,hf,hK=>JB hn (fun i hi=>hf i (by simp only[List.flatMap_cons,List.mem_append];exact .inl hi)) fun _ m hm=>EZ hn (fun i hi=>hf i (by simp only[List.flatMap_cons,List.mem_append];exact .inr hi)) fun _ ms DD=>hK _ _ fun i hi=>by
   simp only[List.flatMap_cons,List.mem_append];rcases List.mem_append.1 hi with h|h
   ·exact⟨(hm i h).1,.inl (hm i h).2⟩
   ·exact⟨(DD i h).1,.inr (DD i h).2⟩
theorem Tm {S:Nat->Prop}{dst:Option Nat}{id:Nat}{b:Bk}{h0 h1:Nat->Option Bk}(hS:S id)(Bb:hp id≠none)(h:GP N S dst hp Db h0 h1):GP N S dst hp Db (Cc h0 id (some b)) (Cc h1 id (some b)):=by
 refine⟨fun i hi=>?_,fun i hN hd hi=>?_,fun i hi=>?_,fun i hn hi=>?_⟩
 ·by_cases e:i=id
  ·subst e;rw[Al];simp
  ·rw[Ah _ _ e];exact h.keep i hi
 ·have e:i≠id:=by
   rintro rfl
   rcases hi with hi|hi
   ·exact hi hS
   ·exact Bb hi
  rw[Ah _ _ e,Ah _ _ e];exact h.off i hN hd hi
 ·by_cases e:i=id
  ·subst e;rw[Al,Al]
  ·rw[Ah _ _ e,Ah _ _ e];exact h.same i hi
 ·rw[Ah _ _ (by rintro rfl;exact hn hS)];exact h.far i hn hi
theorem MU {S:Nat->Prop}{d:Nat}{b:Bk}{h0 h1:Nat->Option Bk}(hz:hp d=none)(h:GP N S (some d) hp Db h0 h1):GP N S (some d) hp Db (Cc h0 d (some b)) (Cc h1 d (some b)):=by
 refine⟨fun i hi=>?_,fun i hN hd hi=>?_,fun i hi=>?_,fun i hn hi=>?_⟩
 ·by_cases e:i=d
  ·subst e;rw[Al];simp
  ·rw[Ah _ _ e];exact h.keep i hi
 ·have e:i≠d:=by rintro rfl;exact hd rfl
  rw[Ah _ _ e,Ah _ _ e];exact h.off i hN hd hi
 ·by_cases e:i=d
  ·subst e;rw[Al,Al]
  ·rw[Ah _ _ e,Ah _ _ e];exact h.same i hi
 ·rw[Ah _ _ (by rintro rfl;exact hi hz)];exact h.far i hn hi
theorem S3 (S:Nat->Prop)(dst:Option Nat):GP N S dst hp Db hp Db:=⟨fun _ h=>h,fun _ _ _ _=>⟨rfl,rfl⟩,fun _ h=>h,fun _ _ _=>rfl⟩
theorem UM {S:Nat->Prop}{dst:Option Nat}{m:List Nat}(hm:∀i∈m,hp i≠none∧S i):GP N S dst hp Db (Ad hp m) (Ad Db m):=by
 refine⟨fun i hi=>fun h=>hi (Dr.1 h),fun i hN hd hi=>?_,fun i hi=>?_,fun i hn hi=>?_⟩
 ·have e:i ∉ m:=by
   intro h;rcases hi with hi|hi
   ·exact hi (hm i h).2
   ·exact (hm i h).1 hi
  rw[Bq,Bq,if_neg e,if_neg e];exact⟨rfl,rfl⟩
 ·rw[Bq,Bq,hi]
 ·rw[Bq,if_neg (fun h=>hn (hm i h).2)]
theorem MP {S:Nat->Prop}(h:∀i,S i->hp i=Db i∨(hp i=none∧∀b,Rel none b)) {l:List Nat}(hl:∀i∈l,S i):NE Rel (Jm hp) (Jm Db) l:=by
 intro i hi;rcases h i (hl i hi) with h|⟨h,h'⟩
 ·left;unfold Jm;rw[h]
 ·exact .inr ⟨Lc h,h'⟩
theorem QG (hn:Rel none none){t:TypeId}{a x:PV}{K:St->Option R}{K':St->Option R'}{S:Nat->Prop}(hS:∀i,S i->hp i=Db i∨(hp i=none∧∀b,Rel none b)) (ha:∀i∈Ao a,S i)(hx:∀i∈B4 x,S i)
  (hK:∀Ck E0,GP N S none hp Db Ck E0->Rel (K ⟨tm,Ck⟩) (K' ⟨tm',E0⟩)):Rel (Yy P ⟨tm,hp⟩ t a x K) (Yy P ⟨tm',Db⟩ t a x K'):=by
 unfold Yy;split
 ·rename_i id off;show Rel (match hp id with|some (.st c)=>_|some (.ar false c)=>_|_=>none) (match Db id with|some (.st c)=>_|some (.ar false c)=>_|_=>none)
  have Bb:S id:=ha id (by simp[Ao])
  rcases hS id Bb with h|⟨h,hb⟩
  ·rw[←h];split
   ·rename_i c hc;exact At hn fun _=>M4 hn fun _=>hK _ _ (Tm Bb (by rw[hc];simp) (S3 _ _))
   ·rename_i c hc;refine At hn fun _=>EZ hn (MP hS fun i hi=>hx i ?_) fun _ m hm=>At hn fun _=>hK _ _ (Tm Bb (by rw[hc];simp) (UM fun i hi=>⟨fun h=>(hm i hi).1 (Lc h),hx i ?_⟩))
    ·obtain⟨c,hc,hi⟩:=List.mem_flatMap.1 hi;exact S6 hc hi
    ·obtain⟨c,hc,hi⟩:=List.mem_flatMap.1 (hm i hi).2;exact S6 hc hi
   ·exact hn
  ·rw[h];exact hb _
 ·exact hn
theorem Yz (hn:Rel none none){es:Nat}{t:TypeId}{x:PV}{K:Nat->List PV->Option R}{K':Nat->List PV->Option R'}{S:Nat->Prop}(hS:∀i,S i->hp i=Db i∨(hp i=none∧∀b,Rel none b)) (hx:∀i∈B4 x,S i)(hK:∀m c,Rel (K m c) (K' m c)):Rel (VA P ⟨tm,hp⟩ es t x K) (VA P ⟨tm',Db⟩ es t x K'):=by
 unfold VA UP;split
 ·exact At hn fun _=>E9 hn fun _=>hK _ _
 ·exact P7 hn (MP hS fun i hi=>hx i (Sl hi)) hK
 ·exact hn
theorem Xc (hn:Rel none none){d:Nat}{t tx:TypeId}{b x:PV}{K:St->Option R}{K':St->Option R'}{S:Nat->Prop}(hS:∀i,S i->hp i=Db i∨(hp i=none∧∀b,Rel none b)) (hdd:hp d=Db d)(hb:∀i∈B4 b,S i)(hx:∀i∈B4 x,S i)
  (hK:∀v Ck E0,(∀M,GP M S (some d) hp Db Ck E0)->Rel (K ⟨Cc tm d v,Ck⟩) (K' ⟨Cc tm' d v,E0⟩)):Rel (N3 P N ⟨tm,hp⟩ d t tx b x K) (N3 P N ⟨tm',Db⟩ d t tx b x K'):=by
 unfold N3;split
 ·refine At hn fun _=>?_
  cases Wv P tx
  rotate_left
  ·show Rel (Sk P N ⟨tm,hp⟩ d _ b x K) (Sk P N ⟨tm',Db⟩ d _ b x K');refine Ds hn fun _ n=>E7 hn fun z _ _=>?_
   show Rel (An (z&&Nat.blt d N&&(hp d).isNone&&_&&_&&_) _) (An (z&&Nat.blt d N&&(Db d).isNone&&_&&_&&_) _);rw[←hdd];exact At hn fun hb=>hK _ _ _ (fun M=>MU (by simp only[Bool.and_eq_true,Option.isNone_iff_eq_none] at hb;simp only[hb]) (S3 _ _))
  rw[cond_false,cond_false];refine Yz hn hS hx fun m new=>?_
  split
  ·rename_i id es off n;show Rel (match hp id with|some (.ar false c)=>An (Nat.beq es _&&Nat.beq off 0&&Nat.blt d N&&(hp d).isNone&&_&&_&&_&&_) _|_=>none) (match Db id with|some (.ar false c)=>An (Nat.beq es _&&Nat.beq off 0&&Nat.blt d N&&(Db d).isNone&&_&&_&&_&&_) _|_=>none)
   have Bb:S id:=hb id (by simp[B4,Ao])
   rw[←hdd];rcases hS id Bb with h|⟨h,hbb⟩
   ·rw[←h];split
    ·rename_i c hc;exact At hn fun hb=>hK _ _ _ (fun M=>MU (by simp only[Bool.and_eq_true,Option.isNone_iff_eq_none] at hb;simp only[hb]) (Tm Bb (by rw[hc];simp) (S3 _ _)))
    ·exact hn
   ·rw[h];exact hbb _
  ·refine E7 hn fun z _ _=>?_
   show Rel (An (z&&Nat.blt d N&&(hp d).isNone&&_&&_&&_) _) (An (z&&Nat.blt d N&&(Db d).isNone&&_&&_&&_) _);rw[←hdd];exact At hn fun hb=>hK _ _ _ (fun M=>MU (by simp only[Bool.and_eq_true,Option.isNone_iff_eq_none] at hb;simp only[hb]) (S3 _ _))
 ·exact hn
theorem TI (hn:Rel none none){d:Option Tmp}{t tx:TypeId}{b x:PV}{K:St->Option R}{K':St->Option R'}{S:Nat->Prop}(hS:∀i,S i->hp i=Db i∨(hp i=none∧∀b,Rel none b)) (hb:∀i∈B4 b,S i)(hx:∀i∈B4 x,S i)
  (hK:∀v Ck E0,GP N S d hp Db Ck E0->Rel (K ⟨Bj tm d v,Ck⟩) (K' ⟨Bj tm' d v,E0⟩)):Rel (HD P N ⟨tm,hp⟩ d t tx b x K) (HD P N ⟨tm',Db⟩ d t tx b x K'):=by
 unfold HD;split
 ·refine At hn fun _=>?_
  refine Yz hn hS hx fun m new=>?_
  split
  ·rename_i id es off n;show Rel (match hp id with|some (.ar false c)=>An (Nat.beq es _&&_&&_) _|_=>none) (match Db id with|some (.ar false c)=>An (Nat.beq es _&&_&&_) _|_=>none)
   have Bb:S id:=hb id (by simp[B4,Ao])
   rcases hS id Bb with h|⟨h,hbb⟩
   ·rw[←h];split
    ·rename_i c hc;exact At hn fun _=>hK _ _ _ (Tm Bb (by rw[hc];simp) (S3 _ _))
    ·exact hn
   ·rw[h];exact hbb _
  ·exact hn
 ·exact hn
def Akv (o:Oper)(tm:Nat->PV)(i:Nat):Prop:=∃x∈o.op.operands.toList,i∈Bo (Br tm x)
def U7 (o:Oper)(tm:Nat->PV)(hp:Nat->Option Bk)(i:Nat):Prop:=Akv o tm i∨Nb o.op=false∧∃id c,Akv o tm id∧hp id=some (.st c)∧∃p∈c,i∈Ao p
theorem Aa5 (hn:Rel none none){mv:Bool}{t:CT}{p:PV}{K:PV->List Nat->List Nat->Option R}{K':PV->List Nat->List Nat->Option R'}{S:Nat->Prop}(hS:∀i,S i->hp i=Db i∨(hp i=none∧∀b,Rel none b)) (hp_:∀i∈Ao p,S i)
  (hK:∀c m x,(∀i∈m++x,hp i≠none∧S i)->Rel (K c m x) (K' c m x)):Rel (YS mv hp t p K) (YS mv Db t p K'):=by
 have frz:∀{t:CT} {p:PV},(∀i∈Ao p,S i)->Rel (Nr (Jm hp) t p fun c m=>K c m []) (Nr (Jm Db) t p fun c m=>K' c m []):=fun h=>JB hn (MP hS h) fun c m hm=>hK _ _ _ fun i hi=>by
  rw[List.append_nil] at hi;exact⟨fun e=>(hm i hi).1 (Lc e),h i (hm i hi).2⟩
 unfold YS;split
 ·rename_i es;cases mv<;>simp only[cond_true,cond_false]
  ·exact frz hp_
  ·split
   ·rename_i id es' off n;rcases hS id (hp_ id (by simp[Ao])) with h|⟨h,hb⟩
    ·rw[←h];split
     ·rename_i c hc;cases (Nat.beq es' es&&Nat.beq off 0)<;>simp only[cond_true,cond_false]
      ·exact frz hp_
      ·exact At hn fun _=>hK _ _ _ fun i hi=>by
        simp only[List.nil_append,List.mem_singleton] at hi;subst hi;exact⟨by rw[hc];simp,hp_ i (by simp[Ao])⟩
     ·exact frz hp_
    ·rw[h]
     have:(Nr (Jm hp) (.sl es) (.view id es' off n) fun c m=>K c m [])=none:=by
      unfold Nr;simp only;cases Nat.beq es' es
      ·rfl
      ·simp only[cond_true,Lc h,Do]
     show Rel (Nr (Jm hp) (.sl es) (.view id es' off n) fun c m=>K c m []) _
     rw[this];exact hb _
   ·refine E7 hn fun z n c=>?_
    cases z
    ·exact hK _ _ _ (by simp)
    ·exact hK _ _ _ (by simp)
 ·exact N0 hn fun _=>hK _ _ _ (by simp)
theorem Rn (hn:Rel none none){mv:Bool}{S:Nat->Prop}(hS:∀i,S i->hp i=Db i∨(hp i=none∧∀b,Rel none b)):∀{ts:List CT}{ps:List PV}{K:List PV->List Nat->List Nat->Option R}{K':List PV->List Nat->List Nat->Option R'},(∀p∈ps,∀i∈Ao p,S i) ->
  (∀c m x,(∀i∈m++x,hp i≠none∧S i)->Rel (K c m x) (K' c m x))->Rel (Z7 mv hp ts ps K) (Z7 mv Db ts ps K')
 |[],[],_,_,_,hK=>hK _ _ _ (by simp)
 |[],_::_,_,_,_,_=>hn
 |_::_,[],_,_,_,_=>hn
 |_::_,p::ps,_,_,hp_,hK=>Aa5 hn hS (hp_ p (by simp)) fun _ m x hm=>Rn hn hS (fun q hq=>hp_ q (by simp[hq])) fun _ ms xs DD=>hK _ _ _ fun i hi=>by
   simp only[List.mem_append] at hi hm DD;rcases hi with (hi|hi)|(hi|hi)
   ·exact hm i (.inl hi)
   ·exact DD i (.inl hi)
   ·exact hm i (.inr hi)
   ·exact DD i (.inr hi)
theorem OM (hn:Rel none none){C:Gt}{f:FuncId}{i:Nat}{t:TypeId}{p:PV}{K:PV->List Nat->List Nat->List Ga->Option R}{K':PV->List Nat->List Nat->List Ga->Option R'}{S:Nat->Prop}(hS:∀i,S i->hp i=Db i∨(hp i=none∧∀b,Rel none b))
  (hp_:∀i∈Bo p,S i)(hc:∀i∈Bo p,∀c,Db i=some (.st c)->∀q∈c,∀k∈Ao q,S k)
  (hK:∀v m x l,(∀i∈m++x++l.flatMap Ga.ids,hp i≠none∧S i)->Rel (K v m x l) (K' v m x l)):Rel (Y9 C P f hp i t p K) (Y9 C P f Db i t p K'):=by
 unfold Y9;split
 ·split
  ·rename_i id off;have Bb:S id:=hp_ id (by simp[Bo,B4,Ao])
   rcases hS id Bb with h|⟨h,hb⟩
   ·rw[h];split
    ·rename_i c Z1;refine At hn fun _=>Rn hn hS (fun q hq k hk=>hc id (by simp[Bo,B4,Ao]) c Z1 q (List.mem_of_mem_drop (List.mem_of_mem_take hq)) k hk) fun cs m x hm=>hK _ _ _ _ fun k hk=>?_
     rcases List.mem_append.1 hk with hk|hk
     ·exact hm k hk
     ·simp only[List.flatMap_cons,List.flatMap_nil,Ga.ids,List.append_nil,List.mem_singleton] at hk;subst hk;exact⟨by rw[h,Z1];simp,Bb⟩
    ·exact hn
   ·rw[h];exact hb _
  ·exact hn
 ·cases C.lnd f i
  ·cases Bz P t
   ·exact Rn hn hS (fun q hq k hk=>by
     simp at hq;subst hq;exact hp_ k (Kk hk)) fun cs m x hm=>Be hn fun _ _ _=>Es hn (hK _ _ _ _ (by simpa using hm))
   ·refine Ja hn fun cs Tn=>Rn hn hS (fun q hq k hk=>hp_ k ?_) fun cs m x hm=>hK _ _ _ _ (by simpa using hm)
    subst Tn;exact List.mem_flatMap.2 ⟨q,hq,hk⟩
  ·refine Cs hn fun e he=>?_
   unfold Af4;split
   ·rename_i id es' off n;have Bb:S id:=hp_ id (by simp[Bo,B4,Ao])
    rcases hS id Bb with h|⟨h,hb⟩
    ·rw[h];split
     ·rename_i c Z1;refine At hn fun _=>hK _ _ _ _ fun k hk=>?_
      simp only[List.nil_append,List.flatMap_cons,List.flatMap_nil,Ga.ids,List.append_nil,List.mem_singleton] at hk;subst hk;exact⟨by rw[h,Z1];simp,Bb⟩
     ·exact hn
    ·rw[h];exact hb _
   ·exact E7 hn fun _ _ _=>At hn fun _=>hK _ _ _ _ (by simp[Ga.ids])
theorem EU (hn:Rel none none){C:Gt}{f:FuncId}{S:Nat->Prop}(hS:∀i,S i->hp i=Db i∨(hp i=none∧∀b,Rel none b)):∀{ts:List TypeId}{ps:List PV}{i:Nat}{K:List PV->List Nat->List Nat->List Ga->Option R}{K':List PV->List Nat->List Nat->List Ga->Option R'},
  (∀p∈ps,∀i∈Bo p,S i)->(∀p∈ps,∀i∈Bo p,∀c,Db i=some (.st c)->∀q∈c,∀k∈Ao q,S k) ->
  (∀v m x l,(∀i∈m++x++l.flatMap Ga.ids,hp i≠none∧S i)->Rel (K v m x l) (K' v m x l))->Rel (ID C P f hp i ts ps K) (ID C P f Db i ts ps K')
 |[],[],_,_,_,_,_,hK=>hK _ _ _ _ (by simp)
 |[],_::_,_,_,_,_,_,_=>hn
 |_::_,[],_,_,_,_,_,_=>hn
 |_::_,p::ps,_,_,_,hp_,hc,hK=>OM hn hS (hp_ p (by simp)) (hc p (by simp)) fun _ m x l hm=>EU hn hS (fun q hq=>hp_ q (by simp[hq])) (fun q hq=>hc q (by simp[hq])) fun _ ms xs ls DD=>hK _ _ _ _ fun i hi=>by
   simp only[List.mem_append,List.flatMap_append] at hi hm DD;rcases hi with ((hi|hi)|(hi|hi))|(hi|hi)
   ·exact hm i (.inl (.inl hi))
   ·exact DD i (.inl (.inl hi))
   ·exact hm i (.inl (.inr hi))
   ·exact DD i (.inl (.inr hi))
   ·exact hm i (.inr hi)
   ·exact DD i (.inr hi)
theorem Afe (hn:Rel none none){t:Nat}{ct:CT}{was p:PV}{K:Nat->PV->List (Nat × Bk)->Option R} {K':Nat->PV->List (Nat × Bk)->Option R'} (hK:∀t c b,(∀q∈b,∃k,q.1=RY N k)->Rel (K t c b) (K' t c b)):Rel (YH N t ct was p K) (YH N t ct was p K'):=by
 unfold YH;split
 ·split
  ·exact VX hn fun _ _=>hK _ _ _ (by intro q hq;simp only[List.mem_singleton] at hq;subst hq;exact⟨t,rfl⟩)
  ·exact E7 hn fun _ _ _=>hK _ _ _ (by simp)
 ·exact N0 hn fun _=>hK _ _ _ (by simp)
theorem HK (hn:Rel none none):∀{cts:List CT}{ws ps:List PV}{t:Nat}{K:Nat->List PV->List (Nat × Bk)->Option R} {K':Nat->List PV->List (Nat × Bk)->Option R'},(∀t c b,(∀q∈b,∃k,q.1=RY N k)->Rel (K t c b) (K' t c b))->Rel (HJ N t cts ws ps K) (HJ N t cts ws ps K')
 |[],[],_,_,_,_,hK=>Es hn (hK _ _ _ (by simp))
 |[],_::_,_,_,_,_,_=>hn
 |_::_,[],_,_,_,_,_=>hn
 |_::_,_::_,_,_,_,_,hK=>Be hn fun _ _ _=>Afe hn fun _ _ b hb=>HK hn fun _ _ bs AA=>hK _ _ _ fun q hq=>by
   rcases List.mem_append.1 hq with h|h
   ·exact hb q h
   ·exact AA q h
theorem Tg (hn:Rel none none){S:Nat->Prop}{dst:Option Nat}:∀{l:List Ga}{ro:List (List PV)} {t:Nat}{h0 h1:Nat->Option Bk}{K:(Nat->Option Bk)->List (Nat × Bk)->Option R} {K':(Nat->Option Bk)->List (Nat × Bk)->Option R'},
  GP N S dst hp Db h0 h1->(∀i∈l.flatMap Ga.ids,hp i≠none∧S i∧hp i=Db i)->(∀h0' Tf b,GP N S dst hp Db h0' Tf->(∀q∈b,∃k,q.1=RY N k)->Rel (K h0' b) (K' Tf b))->Rel (Ve N t l ro h0 K) (Ve N t l ro h1 K')
 |[],_,_,_,_,_,_,hT,_,hK=>Es hn (hK _ _ _ hT (by simp))
 |.var id off cts ws::l,ro,t,h0,h1,K,K',hT,hl,hK=>by
  unfold Ve;refine Be hn fun cs ro _=>HK hn fun t' cs' bs AA=>?_
  have Bb:=hl id (by simp[Ga.ids])
  rw[←hT.same id Bb.2.2];split
  ·exact Tg hn (Tm Bb.2.1 Bb.1 hT) (fun i hi=>hl i (by simp only[List.flatMap_cons,List.mem_append];exact .inr hi)) fun h0' Tf b hT' hb=>hK _ _ _ hT' fun q hq=>by
    rcases List.mem_append.1 hq with h|h
    ·exact AA q h
    ·exact hb q h
  ·exact hn
 |.row id::l,ro,t,h0,h1,K,K',hT,hl,hK=>by
  unfold Ve;have Bb:=hl id (by simp[Ga.ids])
  exact Be hn fun cs ro _=>Tg hn (Tm Bb.2.1 Bb.1 hT) (fun i hi=>hl i (by simp only[List.flatMap_cons,List.mem_append];exact .inr hi)) hK
 |.none::l,ro,t,h0,h1,K,K',hT,hl,hK=>by
  unfold Ve;exact Be hn fun cs ro _=>Tg hn hT (fun i hi=>hl i (by simp only[List.flatMap_cons,List.mem_append];exact .inr hi)) hK
theorem PD (h:∀i,N<=i->hp i=Db i)(hN:0<N):∀k t,QP N hp k t=QP N Db k t
 |0,_=>rfl
 |k+1,t=>by
  unfold QP;rw[h (RY N t) (by unfold RY;exact Nat.le_mul_of_pos_right _ (by omega)),PD h hN k (t+1)]
theorem IY {h0 h1:Nat->Option Bk}:∀{nw:List (Nat × Bk)},(∀q∈nw,h0 q.1=h1 q.1)->Bn h0 nw=Bn h1 nw
 |[],_=>rfl
 |(i,b)::nw,h=>by
  unfold Bn;rw[h (i,b) (by simp),IY (fun q hq=>h q (by simp[hq]))]
theorem EN {S:Nat->Prop}{dst:Option Nat}{h0 h1:Nat->Option Bk}(hT:GP N S dst hp Db h0 h1):∀{nw:List (Nat × Bk)} {g0 g1:Nat->Option Bk},GP N S dst hp Db g0 g1->(∀q∈nw,N<=q.1∨dst=some q.1)->(∀q∈nw,hp q.1=none)->GP N S dst hp Db (Aq g0 nw) (Aq g1 nw)
 |[],_,_,h,_,_=>h
 |(i,b)::nw,g0,g1,h,hi,hz=>by
  refine EN hT (nw:=nw) ⟨fun k hk=>?_,fun k hN hd hk=>?_,fun k hk=>?_,fun k hn hk=>?_⟩ (fun q hq=>hi q (by simp[hq])) (fun q hq=>hz q (by simp[hq]))
  ·by_cases e:k=i
   ·subst e;rw[Al];simp
   ·rw[Ah _ _ e];exact h.keep k hk
  ·have e:k≠i:=by
    rintro rfl
    rcases hi (k,b) (by simp) with q|q
    ·simp only at q;omega
    ·exact hd q
   rw[Ah _ _ e,Ah _ _ e];exact h.off k hN hd hk
  ·by_cases e:k=i
   ·subst e;rw[Al,Al]
   ·rw[Ah _ _ e,Ah _ _ e];exact h.same k hk
  ·rw[Ah _ _ (by rintro rfl;exact hk (hz (k,b) (by simp)))];exact h.far k hn hk
theorem An1 {S:Nat->Prop}{dst:Option Nat}{m x:List Nat}(hm:∀i∈m++x,hp i≠none∧S i):GP N S dst hp Db (Sj (Ad hp m) x) (Sj (Ad Db m) x):=by
 refine⟨fun i hi h=>?_,fun i hN hd hi=>?_,fun i hi=>?_,fun i hn hi=>?_⟩
 ·rw[Fs] at h;have h1:Ad hp m i≠none:=fun e=>hi (Dr.1 e)
  split at h
  ·cases hq:Ad hp m i with
   |none=>exact h1 hq
   |some b=>rw[hq] at h;cases h
  ·exact h1 h
 ·have e:i ∉ m∧i ∉ x:=by
   refine⟨fun h=>?_,fun h=>?_⟩<;>(rcases hi with hi|hi)
   ·exact hi (hm i (by simp[h])).2
   ·exact (hm i (by simp[h])).1 hi
   ·exact hi (hm i (by simp[h])).2
   ·exact (hm i (by simp[h])).1 hi
  rw[Fs,Fs,if_neg e.2,if_neg e.2,Bq,Bq,if_neg e.1,if_neg e.1];exact⟨rfl,rfl⟩
 ·rw[Fs,Fs,Bq,Bq,hi]
 ·rw[Fs,Bq,if_neg (fun h=>hn (hm i (by simp[h])).2),if_neg (fun h=>hn (hm i (by simp[h])).2)]
theorem PF (hn:Rel none none){C:Gt}{call:Ai}{f:FuncId}{c:Call}{K:St->Option R}{K':St->Option R'}{S:Nat->Prop}(Jo:c.args.toList.map (Br tm)=c.args.toList.map (Br tm')) (hS:∀i,S i->hp i=Db i∨(hp i=none∧∀b,Rel none b))
  (hp_:∀p∈c.args.toList.map (Br tm'),∀i∈Bo p,S i) (hc:∀p∈c.args.toList.map (Br tm'),∀i∈Bo p,∀c,Db i=some (.st c)->∀q∈c,∀k∈Ao q,S k)
  (hdd:∀d,o.dst=some d->hp d=Db d)(hNN:∀i,N<=i->hp i=Db i)
  (hK:∀v Ck E0,GP N S o.dst hp Db Ck E0->Rel (K ⟨Bj tm o.dst v,Ck⟩) (K' ⟨Bj tm' o.dst v,E0⟩)):Rel (Yw C P N call ⟨tm,hp⟩ o f c K) (Yw C P N call ⟨tm',Db⟩ o f c K'):=by
 unfold Yw;simp only[Jo];refine EU hn hS hp_ hc fun vs m x l hm=>At hn fun hb=>IA hn fun rv ro=>Ze hn fun ws bs AA=>At hn fun _=>?_
 simp only[Bool.and_eq_true] at hb;have hN:0<N:=Nat.lt_of_succ_le (Nat.le_of_ble_eq_true hb.1.2);rw[PD hNN hN];by_cases Auz:∃i∈l.flatMap Ga.ids,hp i≠Db i
 ·obtain⟨i,hi,Hr⟩:=Auz;obtain⟨h1,h2⟩:=hm i (List.mem_append.2 (.inr hi));rcases hS i h2 with h|⟨h,_⟩
  ·exact absurd h Hr
  ·exact absurd h h1
 have hl:∀i∈l.flatMap Ga.ids,hp i≠none∧S i∧hp i=Db i:=fun i hi=>⟨(hm i (List.mem_append.2 (.inr hi))).1,(hm i (List.mem_append.2 (.inr hi))).2,Classical.byContradiction fun h=>Auz ⟨i,hi,h⟩⟩
 have hT0:GP N S o.dst hp Db (Sj (Ad hp m) x) (Sj (Ad Db m) x):=An1 fun i hi=>hm i (List.mem_append.2 (.inl hi))
 refine Tg hn hT0 hl fun h0 h1 bs' hT Bc0=>?_
 have Aa2:∀q∈bs++bs',N<=q.1∨o.dst=some q.1:=by
  intro q hq;rcases List.mem_append.1 hq with hq|hq
  ·obtain⟨j,hj⟩:=AA q hq;cases hd:o.dst with
   |none=>
    rw[hd] at hj;left;rw[hj];exact Nat.le_add_right _ _
   |some d=>
    rw[hd] at hj;change q.1=d+N*j at hj;cases j with
    |zero=>right;rw[hj];simp
    |succ j=>left;rw[hj,Nat.mul_add];omega
  ·obtain⟨k,hk⟩:=Bc0 q hq;left;rw[hk];unfold RY;exact Nat.le_mul_of_pos_right _ (by omega)
 have Z9:∀q∈bs++bs',h0 q.1=h1 q.1:=by
  intro q hq;refine hT.same q.1 ?_;rcases Aa2 q hq with h|h
  ·exact hNN _ h
  ·exact hdd _ h
 rw[IY Z9]
 exact At hn fun hb=>hK _ _ _ (EN hT hT Aa2 fun q hq=>by
  cases hz:hp q.1 with
  |none=>rfl
  |some c=>exact absurd ((Z9 q hq).trans ((Bg hb).1 q.1 q.2 hq)) (hT.keep q.1 (by rw[hz];simp)))
theorem Kg (hn:Rel none none){C:Gt}{call:Ai}{K:St->Option R}{K':St->Option R'}(Jo:∀x∈o.op.operands.toList,Br tm x=Br tm' x)
  (hS:∀i,U7 o tm' Db i->hp i=Db i∨(hp i=none∧∀b,Rel none b)) (hdd:∀d,o.dst=some d->hp d=Db d)(hNN:∀i,N<=i->hp i=Db i)
  (hK:∀v Ck E0,GP N (U7 o tm' Db) o.dst hp Db Ck E0->Rel (K ⟨Bj tm o.dst v,Ck⟩) (K' ⟨Bj tm' o.dst v,E0⟩)):Rel (T8 C P N call ⟨tm,hp⟩ o K) (T8 C P N call ⟨tm',Db⟩ o K'):=by
 unfold T8;have hl:∀x∈o.op.operands.toList,∀i∈Bo (Br tm' x),U7 o tm' Db i:=fun x hx i hi=>.inl ⟨x,hx,hi⟩
 have NG:Nb o.op=false->∀x∈o.op.operands.toList,∀i∈Bo (Br tm' x),∀c,Db i=some (.st c)->∀q∈c,∀k∈Ao q,U7 o tm' Db k:=fun ha x hx i hi c hc q hq k hk=>.inr ⟨ha,i,c,⟨x,hx,hi⟩,hc,q,hq,hk⟩
 generalize hLd:U7 o tm' Db=S at *
 generalize XO:o.op=op at *
 split
 ·rename_i t x y;simp only[Jo x (by simp[Op.operands]),Jo y (by simp[Op.operands])]
  refine At hn fun hd=>QG (N:=N) hn hS (fun i hi=>hl x (by simp[Op.operands]) i (Kk hi)) (fun i hi=>hl y (by simp[Op.operands]) i (Fe hi)) fun Ck E0 hh=>?_
  have hd':=Option.isNone_iff_eq_none.1 hd;have:=hK .top Ck E0 (by rw[hd'];exact hh)
  rw[hd'] at this;exact this
 ·rename_i c
  have Ko:∀x∈c.args.toList,x∈(Op.call c).operands.toList:=by
   intro x hx;simp only[Op.operands,Call.operands,Array.toList_append,List.mem_append];exact .inr hx
  split
  ·rename_i hc;refine Cs hn fun d hd=>Be hn fun x _ hx=>Be hn fun y _ hy=>Es hn (Be hn fun _ _ _=>Be hn fun _ _ _=>?_)
   subst hy;have hxm:=Ko x (by rw[hx];simp)
   have hym:=Ko y (by rw[hx];simp)
   simp only[Jo x hxm,Jo y hym];refine Xc hn hS (hdd d hd) (fun i hi=>hl x hxm i (Fe hi)) (fun i hi=>hl y hym i (Fe hi)) fun v Ck E0 hh=>?_
   have:=hK v Ck E0 (by rw[hd];exact hh N)
   rw[hd] at this;exact this
  ·rename_i hc;refine Be hn fun x _ hx=>Be hn fun y _ hy=>Es hn (Be hn fun _ _ _=>Be hn fun _ _ _=>?_)
   subst hy;have hxm:=Ko x (by rw[hx];simp)
   have hym:=Ko y (by rw[hx];simp)
   simp only[Jo x hxm,Jo y hym];exact TI hn hS (fun i hi=>hl x hxm i (Fe hi)) (fun i hi=>hl y hym i (Fe hi)) hK
  ·rename_i f hcf;refine PF hn (List.map_congr_left fun x hx=>Jo x (Ko x hx)) hS (fun p hp i hi=>?_) (fun p hp i hi=>?_) hdd hNN hK
   ·obtain⟨x,hx,rfl⟩:=List.mem_map.1 hp;exact hl x (Ko x hx) i hi
   ·obtain⟨x,hx,rfl⟩:=List.mem_map.1 hp;exact NG (by simp only[Nb,hcf]) x (Ko x hx) i hi
  ·exact hn
 ·exact hn
theorem EJ (hn:Rel none none){C:Gt}{call:Ai}{K:St->Option R}{K':St->Option R'}(Jo:∀x∈o.op.operands.toList,Br tm x=Br tm' x)(hK:∀v Ck,(∀i,hp i≠none->Ck i≠none)->Rel (K ⟨Bj tm o.dst v,Ck⟩) (K' ⟨Bj tm' o.dst v,Ck⟩)):Rel (T8 C P N call ⟨tm,hp⟩ o K) (T8 C P N call ⟨tm',hp⟩ o K'):=
 Kg hn Jo (fun _ _=>.inl rfl) (fun _ _=>rfl) (fun _ _=>rfl) fun v Ck E0 hT=>by
  have:Ck=E0:=funext fun i=>hT.same i rfl
  subst this;exact hK v Ck hT.keep
end
section
variable {R:Type} {r:R} {C:Gt} {P:Program} {N:Nat} {call:Ai} {ops:Array Oper} {o x:Oper} {s:St} {K:St->Option R}
theorem KU {tm:Nat->PV}{hp Ck:Nat->Option Bk}{tm':Nat->PV}{q:S4}(hm:G8 P o.op=false)(ht:∀t∈Dq ops o,tm t=tm' t)(h:gE C P N call ops o ⟨tm,hp⟩=some q):gE C P N call ops o ⟨tm',Ck⟩=some q:=
 Wq (s:=⟨tm,hp⟩) (s':=⟨tm',Ck⟩) ht (fun h=>by rw[hm] at h;cases h) h
theorem Y1 {tm:Nat->PV}{hp:Nat->Option Bk}(hm:G8 P o.op=false)(h:C7 C P N call ops o ⟨tm,hp⟩ K=some r):
  ∃v nw,gE C P N call ops o ⟨tm,hp⟩=some (v,[],nw)∧Fv N o.dst=true∧Bn hp nw=true∧(∀p∈nw,o.dst=some p.1)∧K ⟨Bj tm o.dst v,Aq hp nw⟩=some r:=by
 have hM:Q6 C P o.op=false:=by
  cases hh:Q6 C P o.op
  ·rfl
  ·rw[Xd hh] at hm;cases hm
 rw[Kd (by simp[Gd,hM])] at h
 cases e:gE C P N call ops o ⟨tm,hp⟩ with
 |none=>rw[e] at h;cases h
 |some q=>
  obtain⟨v,fz,nw⟩:=q;obtain⟨h1,h2⟩:=(Sy e).1 hm;simp only at h1 h2;subst h1;rw[e] at h;obtain⟨hb,h⟩:=Aj h;simp only[Bool.and_eq_true] at hb;exact⟨v,nw,rfl,hb.1,hb.2,h2,h⟩
theorem CJ {tm:Nat->PV}{hp:Nat->Option Bk}{v:PV}{nw:List (Nat × Bk)} (hm:G8 P o.op=false)(e:gE C P N call ops o ⟨tm,hp⟩=some (v,[],nw)) (hd:Fv N o.dst=true)(ha:Bn hp nw=true)(h:K ⟨Bj tm o.dst v,Aq hp nw⟩=some r):C7 C P N call ops o ⟨tm,hp⟩ K=some r:=by
 have hM:Q6 C P o.op=false:=by
  cases hh:Q6 C P o.op
  ·rfl
  ·rw[Xd hh] at hm;cases hm
 rw[Kd (by simp[Gd,hM]),e]
 show An _ _=_;have ha':Bn hp nw=true:=ha;rw[hd,ha'];exact h
theorem Me {hp:Nat->Option Bk}{nw:List (Nat × Bk)} (ha:Bn hp nw=true){i:Nat}(hi:∀p∈nw,p.1≠i):Aq hp nw i=hp i:=
 (D3 (Bg ha).2).2 i fun b hb=>hi _ hb rfl
theorem Ac3 {hp Ck:Nat->Option Bk}{nw:List (Nat × Bk)} (ha:Bn hp nw=true){g:Nat->Option Bk}(h1:∀i,(∀p∈nw,p.1≠i)->g i=Ck i) (h2:∀i,(∃p∈nw,p.1=i)->g i=Aq hp nw i) (ha':Bn Ck nw=true):g=Aq Ck nw:=by
 funext i
 by_cases h:∃p∈nw,p.1=i
 ·rw[h2 i h];obtain⟨⟨j,b⟩,hp,rfl⟩:=h;rw[(D3 (Bg ha).2).1 j b hp,(D3 (Bg ha').2).1 j b hp]
 ·have h':∀p∈nw,p.1≠i:=fun p hp e=>h ⟨p,hp,e⟩
  rw[h1 i h',Me ha' h']
theorem Ajw (ap:Xz C P ops x o)(hx:Gd C P ops x s.tm=true)
  (h:C7 C P N call ops x s (fun s1=>C7 C P N call ops o s1 K)=some r):C7 C P N call ops o s (fun s1=>C7 C P N call ops x s1 K)=some r:=by
 have hm:G8 P o.op=false:=ap.mx (by unfold Gd at hx;simp only[Bool.and_eq_true] at hx;exact hx.1)
 rw[H8 hx] at h;obtain⟨tm,hp⟩:=s;have look:∀v,∀t∈Dq ops o,Bj tm x.dst v t=tm t:=fun v=>Ef ap.xo
 have h1:=Kg (P:=P) (N:=N) (o:=x) (tm:=tm) (tm':=tm) (hp:=hp) (Db:=hp) (K:=fun s1=>C7 C P N call ops o s1 K) (K':=fun _=>none)
  (Rel:=fun (a:Option R)(_:Option R)=>a=some r->∃v nw,gE C P N call ops o ⟨tm,hp⟩=some (v,[],nw)∧Fv N o.dst=true∧(∀p∈nw,o.dst=some p.1)∧Bn hp nw=true) (fun h=>by cases h) (fun _ _=>rfl) (fun _ _=>.inl rfl) (fun _ _=>rfl) (fun _ _=>rfl) (fun v Ck _ hT h=>by
   obtain⟨u,nw,hu,hd,ha,hn,_⟩:=Y1 hm h;refine⟨u,nw,KU hm (look v) hu,hd,hn,P3 ha fun i b hi=>?_⟩
   cases hh:hp i with
   |none=>rfl
   |some c=>exact absurd ((Bg ha).1 i b hi) (hT.keep i (by rw[hh];simp))) h
 obtain⟨v,nw,hv,hd,hn,ha⟩:=h1;refine CJ hm hv hd ha ?_;have t2:∀t∈Dq ops x,tm t=Bj tm o.dst v t:=fun t ht=>(Ef ap.ox t ht).symm
 rw[H8 (by rw[←Gx t2];exact hx)]
 refine Kg (P:=P) (N:=N) (o:=x) (tm:=tm) (tm':=Bj tm o.dst v) (hp:=hp) (Db:=Aq hp nw) (Rel:=fun (a b:Option R)=>a=some r->b=some r) (fun h=>by cases h) (E5 t2) (fun i _=>?_) (fun d hxd=>?_) (fun i hi=>(Me ha fun p hp e=>by have:=P4 hd (hn p hp);omega).symm) (fun u Ck E0 hT h=>?_) h
 ·by_cases hi:∃p∈nw,p.1=i
  ·obtain⟨⟨j,b⟩,Db,rfl⟩:=hi;exact .inr ⟨(Bg ha).1 j b Db,fun _ h=>by cases h⟩
  ·exact .inl (Me ha fun p hp e=>hi ⟨p,hp,e⟩).symm
 ·refine (Me ha fun p hp e=>?_).symm
  have:=hn p hp;rw[e] at this;exact ap.ne d hxd this
 ·obtain⟨v',nw',Nl,_,ha',_,h'⟩:=Y1 hm h;have he:=KU (Ck:=hp) hm (look u) Nl;rw[hv] at he;simp only[Option.some.injEq,Prod.mk.injEq,true_and] at he;obtain⟨rfl,rfl⟩:=he
  have hh:E0=Aq Ck nw:=by
   refine Ac3 ha (fun i hi=>?_) (fun i hi=>?_) ha'
   ·exact (hT.same i (Me ha hi).symm).symm
   ·obtain⟨⟨j,b⟩,Db,rfl⟩:=hi;refine (hT.off j (P4 hd (hn _ Db)) (fun e=>ap.ne j e (hn _ Db)) (.inr ((Bg ha).1 j b Db))).2
  rw[hh,←Ke ap.ne];exact h'
theorem Aiq (hw:RP C P o s)(ap:Xz C P ops x o)(ho:Gd C P ops o s.tm=true)
  (h:C7 C P N call ops x s (fun s1=>C7 C P N call ops o s1 K)=some r):C7 C P N call ops o s (fun s1=>C7 C P N call ops x s1 K)=some r:=by
 have hm:G8 P x.op=false:=ap.mo (by unfold Gd at ho;simp only[Bool.and_eq_true] at ho;exact ho.1)
 obtain⟨tm,hp⟩:=s;obtain⟨v,nw,hv,hd,ha,hn,h1⟩:=Y1 hm h;have t1:∀t∈Dq ops o,Bj tm x.dst v t=tm t:=Ef ap.xo;change C7 C P N call ops o ⟨Bj tm x.dst v,Aq hp nw⟩ K=some r at h1;rw[H8 (by rw[Gx t1];exact ho)] at h1
 rw[H8 ho];have hMo:Q6 C P o.op=true:=by unfold Gd at ho;simp only[Bool.and_eq_true] at ho;exact ho.1
 have Al3:∀i,U7 o tm hp i->hp i≠none:=by
  rintro i (⟨y,hy,hi⟩|⟨Lm,id,c,⟨y,hy,hi⟩,hc,p,Db,hk⟩)
  ·exact hw.1 y hy i hi
  ·exact hw.2 hMo Lm y hy id hi c hc p Db i hk
 refine Kg (P:=P) (N:=N) (o:=o) (tm:=Bj tm x.dst v) (tm':=tm) (hp:=Aq hp nw) (Db:=hp) (Rel:=fun (a b:Option R)=>a=some r->b=some r) (fun h=>by cases h) (E5 t1) (fun i hi=>?_) (fun d hod=>?_) (fun i hi=>Me ha fun p hp e=>by have:=P4 hd (hn p hp);omega) (fun u Ck E0 hT h=>?_) h1
 ·refine .inl (Me ha fun p Ck e=>Al3 i hi ?_)
  rw[←e];exact (Bg ha).1 p.1 p.2 Ck
 ·refine Me ha fun p Ck e=>?_
  have:=hn p Ck;rw[e] at this;exact ap.ne d this hod
 ·have Oz:∀p∈nw,Ck p.1=Aq hp nw p.1∧E0 p.1=none:=by
   intro p hp2;have RN:=(Bg ha).1 p.1 p.2 hp2;have h3:=hT.off p.1 (P4 hd (hn p hp2)) (fun e=>ap.ne p.1 (hn p hp2) e) (.inl fun hL=>Al3 _ hL RN)
   exact⟨h3.1,h3.2.trans RN⟩
  have ha':Bn E0 nw=true:=P3 ha fun i b hi=>(Oz (i,b) hi).2
  refine CJ hm (KU hm (fun t ht=>(Ef ap.ox t ht).symm) hv) hd ha' ?_
  have hh:Ck=Aq E0 nw:=by
   refine Ac3 ha (fun i hi=>?_) (fun i hi=>?_) ha'
   ·exact hT.same i (Me ha hi)
   ·obtain⟨p,hp2,rfl⟩:=hi;exact (Oz p hp2).1
  rw[←Ke ap.ne,←hh];exact h
theorem Avo (hw:RP C P o s)(ap:Xz C P ops x o)
  (h:C7 C P N call ops x s (fun s1=>C7 C P N call ops o s1 K)=some r):C7 C P N call ops o s (fun s1=>C7 C P N call ops x s1 K)=some r:=by
 cases hx:Gd C P ops x s.tm
 ·cases ho:Gd C P ops o s.tm
  ·exact VP hw ap.xo ap.ne ap.ox hx ho h
  ·exact Aiq hw ap ho h
 ·exact Ajw ap hx h
theorem Kn (h:Ss P o.op=true):Q6 C P o.op=false:=by
 unfold Ss at h;split at h
 ·rename_i ho;rw[ho];rfl
 ·rename_i ho;rw[ho];rfl
 ·cases h
def FV (P:Program)(ops:Array Oper)(o:Oper)(tm:Nat->PV):Prop:=Ss P o.op=true∨Gm ops o tm=some false
theorem Va {tm tm':Nat->PV}(h:∀t∈Dq ops o,tm t=tm' t)(hl:FV P ops o tm):FV P ops o tm':=by
 rcases hl with hl|hl
 ·exact .inl hl
 ·exact .inr (by rw[←Kw h];exact hl)
theorem IU {tm:Nat->PV}(hl:FV P ops o tm):Gd C P ops o tm=false:=by
 rcases hl with hl|hl
 ·simp[Gd,Kn hl]
 ·simp[Gd,hl]
theorem XW {q:S4}(hl:FV P ops o s.tm)(h:gE C P N call ops o s=some q):q.2.1=[]∧q.2.2=[]:=by
 unfold gE at h;split at h
 ·cases h
 ·rename_i hv
  have hl:Ss P o.op=true:=by
   rcases hl with hl|hl
   ·exact hl
   ·rw[hv] at hl;cases hl
  rw[Kn hl] at h;have h:Aa3 C P N call o s=some q:=h;unfold Ss at hl;split at hl
  ·rename_i t a ho;unfold Aa3 DC at h;rw[ho] at h
   have:=HA (nz:=C.nz N) (P:=P) (f:=rd s.hp) (f':=rd s.hp) (g:=Jm s.hp) (g':=Jm s.hp) (t:=t) (x:=Br s.tm a) (Rel:=fun (a b:Option S4)=>∀q,a=some q->q.2.1=[]∧q.2.2=[])
    (K:=fun v=>some (v,[],[])) (K':=fun v=>some (v,[],[])) (fun _ h=>by cases h) (fun _ _=>.inl ⟨rfl,rfl⟩) (fun v q hq=>by cases hq;exact⟨rfl,rfl⟩)
   exact this q h
  ·rename_i src dst y ho;unfold Aa3 DC at h;rw[ho] at h;simp only at h;unfold CF at h;split at hl
   ·rename_i hd;rw[hd] at h;simp only at h;split at h
    ·obtain⟨_,_,h⟩:=C4 h;obtain⟨_,_,h⟩:=B3 h;cases h;exact⟨rfl,rfl⟩
    ·split at h
     ·exact P7 (f:=Jm s.hp) (f':=Jm s.hp) (K':=fun _ _=>(none:Option S4)) (Rel:=fun (a _:Option S4)=>a=some q->q.2.1=[]∧q.2.2=[]) (fun h=>by cases h) (fun _ _=>.inl rfl) (fun n c h=>by
       obtain⟨_,h⟩:=Aj h;obtain⟨_,_,h⟩:=B3 h;obtain⟨_,_,h⟩:=B3 h;cases h;exact⟨rfl,rfl⟩) h
     ·exact P7 (f:=Jm s.hp) (f':=Jm s.hp) (K':=fun _ _=>(none:Option S4)) (Rel:=fun (a _:Option S4)=>a=some q->q.2.1=[]∧q.2.2=[]) (fun h=>by cases h) (fun _ _=>.inl rfl) (fun n c h=>by
       obtain⟨_,h⟩:=Aj h;obtain⟨_,_,h⟩:=B3 h;obtain⟨_,_,h⟩:=B3 h;cases h;exact⟨rfl,rfl⟩) h
     ·cases h
    ·cases h
   ·cases hl
  ·cases hl
 ·cases h;exact⟨rfl,rfl⟩
theorem YV {tm tm':Nat->PV}{hp:Nat->Option Bk}(h:∀t∈Dq ops o,tm t=tm' t){i:Nat}(hi:U7 o tm hp i):U7 o tm' hp i:=by
 have he:=E5 (ops:=ops) (o:=o) h;rcases hi with⟨y,hy,hi⟩|⟨Lm,id,c,⟨y,hy,hi⟩,hc,q⟩
 ·exact .inl ⟨y,hy,by rw[←he y hy];exact hi⟩
 ·exact .inr ⟨Lm,id,c,⟨y,hy,by rw[←he y hy];exact hi⟩,hc,q⟩
theorem Alt {hp Ck:Nat->Option Bk}{i:Nat}(h:Ck i=hp i):rd Ck i=rd hp i∧Jm Ck i=Jm hp i:=by
 unfold rd Jm;rw[h];exact⟨rfl,rfl⟩
theorem Ye {tm:Nat->PV}{hp:Nat->Option Bk}(hl:FV P ops o tm)(h:C7 C P N call ops o ⟨tm,hp⟩ K=some r):
  ∃v,gE C P N call ops o ⟨tm,hp⟩=some (v,[],[])∧Fv N o.dst=true∧K ⟨Bj tm o.dst v,hp⟩=some r:=by
 rw[Kd (IU hl)] at h;cases e:gE C P N call ops o ⟨tm,hp⟩ with
 |none=>rw[e] at h;cases h
 |some q=>
  obtain⟨v,fz,nw⟩:=q;obtain⟨h1,h2⟩:=XW hl e;simp only at h1 h2;subst h1;subst h2;rw[e] at h;obtain⟨hb,h⟩:=Aj h;simp only[Bool.and_eq_true] at hb;exact⟨v,rfl,hb.1,h⟩
theorem FA {tm:Nat->PV}{hp:Nat->Option Bk}{v:PV}(hl:FV P ops o tm)(e:gE C P N call ops o ⟨tm,hp⟩=some (v,[],[])) (hd:Fv N o.dst=true)(h:K ⟨Bj tm o.dst v,hp⟩=some r):C7 C P N call ops o ⟨tm,hp⟩ K=some r:=by
 rw[Kd (IU hl),e];show An _ _=_;have ha:Bn hp []=true:=rfl;simp only[hd,ha,Bool.and_self];exact h
theorem Ai7 (hw:RP C P o s)(xo:∀d,x.dst=some d->d ∉ Dq ops o)(ne:∀d,x.dst=some d->o.dst≠some d)(ox:∀d,o.dst=some d->d ∉ Dq ops x)(hl:FV P ops o s.tm)
  (OQ:∀y∈o.op.operands.toList,∀i∈Bo (Br s.tm y),¬U7 x s.tm s.hp i) (hx:Gd C P ops x s.tm=true)
  (h:C7 C P N call ops x s (fun s1=>C7 C P N call ops o s1 K)=some r):C7 C P N call ops o s (fun s1=>C7 C P N call ops x s1 K)=some r:=by
 rw[H8 hx] at h;obtain⟨tm,hp⟩:=s;have look:∀v,∀t∈Dq ops o,Bj tm x.dst v t=tm t:=fun v=>Ef xo
 have back:∀{u:PV} {Ck:Nat->Option Bk} {q:S4},(∀y∈o.op.operands.toList,∀i∈Bo (Br tm y),Ck i=hp i)->gE C P N call ops o ⟨Bj tm x.dst u,Ck⟩=some q->gE C P N call ops o ⟨tm,hp⟩=some q:=
  fun hh e=>Wq (s:=⟨Bj tm x.dst _,_⟩) (s':=⟨tm,hp⟩) (look _) (fun _ y hy i hi=>.inl (Alt (hh y hy i hi))) e
 have h1:=Kg (P:=P) (N:=N) (o:=x) (tm:=tm) (tm':=tm) (hp:=hp) (Db:=hp) (K:=fun s1=>C7 C P N call ops o s1 K) (K':=fun _=>none)
  (Rel:=fun (a:Option R)(_:Option R)=>a=some r->∃v,gE C P N call ops o ⟨tm,hp⟩=some (v,[],[])∧Fv N o.dst=true) (fun h=>by cases h) (fun _ _=>rfl) (fun _ _=>.inl rfl) (fun _ _=>rfl) (fun _ _=>rfl) (fun v Ck _ hT h=>by
   obtain⟨u,hu,hd,_⟩:=Ye (Va (fun t ht=>(look v t ht).symm) hl) h
   exact⟨u,back (fun y hy i hi=>hT.far i (OQ y hy i hi) (hw.1 y hy i hi)) hu,hd⟩) h
 obtain⟨v,hv,hd⟩:=h1;refine FA hl hv hd ?_;have t2:∀t∈Dq ops x,tm t=Bj tm o.dst v t:=fun t ht=>(Ef ox t ht).symm
 rw[H8 (by rw[←Gx t2];exact hx)]
 refine Kg (P:=P) (N:=N) (o:=x) (tm:=tm) (tm':=Bj tm o.dst v) (hp:=hp) (Db:=hp) (Rel:=fun (a b:Option R)=>a=some r->b=some r) (fun h=>by cases h) (E5 t2) (fun _ _=>.inl rfl) (fun _ _=>rfl) (fun _ _=>rfl) (fun u Ck E0 hT h=>?_) h
 have e1:Ck=E0:=funext fun i=>hT.same i rfl
 subst e1;obtain⟨v',Nl,_,h'⟩:=Ye (Va (fun t ht=>(look u t ht).symm) hl) h
 have he:=back (fun y hy i hi=>hT.far i (fun hR=>OQ y hy i hi (YV (fun t ht=>(t2 t ht).symm) hR)) (hw.1 y hy i hi)) Nl
 rw[hv] at he;simp only[Option.some.injEq,Prod.mk.injEq,and_true] at he;subst he;rw[←Ke ne];exact h'
theorem Ah6 (xo:∀d,x.dst=some d->d ∉ Dq ops o)(ne:∀d,x.dst=some d->o.dst≠some d)(ox:∀d,o.dst=some d->d ∉ Dq ops x)(hl:FV P ops x s.tm)
  (OQ:∀y∈x.op.operands.toList,∀i∈Bo (Br s.tm y),¬U7 o s.tm s.hp i) (ho:Gd C P ops o s.tm=true)
  (h:C7 C P N call ops x s (fun s1=>C7 C P N call ops o s1 K)=some r):C7 C P N call ops o s (fun s1=>C7 C P N call ops x s1 K)=some r:=by
 obtain⟨tm,hp⟩:=s;obtain⟨v,hv,hd,h1⟩:=Ye hl h;have t1:∀t∈Dq ops o,Bj tm x.dst v t=tm t:=Ef xo;rw[H8 (by rw[Gx t1];exact ho)] at h1
 rw[H8 ho];refine Kg (P:=P) (N:=N) (o:=o) (tm:=Bj tm x.dst v) (tm':=tm) (hp:=hp) (Db:=hp) (Rel:=fun (a b:Option R)=>a=some r->b=some r) (fun h=>by cases h) (E5 t1) (fun _ _=>.inl rfl) (fun _ _=>rfl) (fun _ _=>rfl) (fun u Ck E0 hT h=>?_) h1
 have e1:Ck=E0:=funext fun i=>hT.same i rfl
 subst e1;have t2:∀t∈Dq ops x,tm t=Bj tm o.dst u t:=fun t ht=>(Ef ox t ht).symm
 refine FA (Va t2 hl) (Wq (s:=⟨tm,hp⟩) (s':=⟨Bj tm o.dst u,Ck⟩) t2 (fun _ y hy i hi=>?_) hv) hd ?_
 ·have hi:i∈Bo (Br tm y):=by rw[E5 t2 y hy];exact hi
  by_cases hn:hp i=none
  ·exact .inr ⟨XS hn,Lc hn⟩
  ·obtain⟨h3,h4⟩:=Alt (hT.far i (OQ y hy i hi) hn);exact .inl ⟨h3.symm,h4.symm⟩
 ·rw[←Ke ne];exact h
def HX (P:Program)(x:Oper)(s s1:St):Prop:=(∀t,x.dst≠some t->s1.tm t=s.tm t)∧(∀i,s.hp i≠none->s1.hp i≠none)∧(G8 P x.op=false->∀i,s.hp i≠none->s1.hp i=s.hp i)
theorem N7 {tm:Nat->PV}{d:Option Tmp}{v:PV}{t:Nat}(h:d≠some t):Bj tm d v t=tm t:=by
 cases d with
 |none=>rfl
 |some d=>exact Ah _ _ (by rintro rfl;exact h rfl)
theorem FD {K':St->Option R}(h:C7 C P N call ops x s K=some r)(hK:∀s1,HX P x s s1->K s1=some r->K' s1=some r):C7 C P N call ops x s K'=some r:=by
 cases hx:Gd C P ops x s.tm
 ·rw[Kd hx] at h ⊢;cases ex:gE C P N call ops x s with
  |none=>rw[ex] at h;cases h
  |some q=>
   rw[ex] at h;obtain⟨hb,h1⟩:=Aj h;simp only[Bool.and_eq_true] at hb;show An _ _=_;rw[hb.1,hb.2];refine hK _ ⟨fun t ht=>N7 ht,fun i hi=>Nh hb.2 hi,fun hm i hi=>?_⟩ h1
   show Aq (Ad s.hp q.2.1) q.2.2 i=s.hp i;rw[Fo hb.2 hi,((Sy ex).1 hm).1];simp
 ·rw[H8 hx] at h ⊢
  exact EJ (P:=P) (N:=N) (o:=x) (tm:=s.tm) (tm':=s.tm) (hp:=s.hp) (Rel:=fun (a b:Option R)=>a=some r->b=some r) (fun h=>by cases h) (fun _ _=>rfl) (fun v Ck hh h=>hK _ ⟨fun t ht=>N7 ht,hh,fun hm=>by
   have hM:Q6 C P x.op=true:=by unfold Gd at hx;simp only[Bool.and_eq_true] at hx;exact hx.1
   rw[Xd hM] at hm;cases hm⟩ h) h
theorem RP.keeps {s1:St}(h:RP C P o s)(ap:Xz C P ops x o)(hk:HX P x s s1):RP C P o s1:=by
 have XO:∀y∈o.op.operands.toList,Br s1.tm y=Br s.tm y:=fun y hy=>E5 (ops:=ops) (o:=o) (fun t ht=>hk.1 t fun hd=>ap.xo t hd ht) y hy
 refine⟨fun y hy i hi=>?_,fun hM hA y hy i hi c hc p hp k hkk=>?_⟩
 ·rw[XO y hy] at hi;exact hk.2.1 i (h.1 y hy i hi)
 ·rw[XO y hy] at hi;have Ud:=h.1 y hy i hi;rw[hk.2.2 (ap.mo hM) i Ud] at hc;exact hk.2.1 k (h.2 hM hA y hy i hi c hc p hp k hkk)
theorem ED:∀(l:List Oper){s:St}{K:St->Option R},RP C P o s->(∀x∈l,Xz C P ops x o)->My C P N call ops l s (fun s1=>C7 C P N call ops o s1 K)=some r->C7 C P N call ops o s (fun s1=>My C P N call ops l s1 K)=some r
 |[],_,_,_,_,h=>h
 |x::l,s,K,hw,ap,h=>by
  refine Avo hw (ap x (by simp)) ?_
  refine FD (K:=fun s1=>My C P N call ops l s1 (fun s2=>C7 C P N call ops o s2 K)) h fun s1 hk h1=>?_
  exact ED l (hw.keeps (ap x (by simp)) hk) (fun y hy=>ap y (List.mem_cons_of_mem _ hy)) h1
theorem Sc:∀(l l':List Oper){s:St}{K:St->Option R},My C P N call ops (l++l') s K=My C P N call ops l s (fun s1=>My C P N call ops l' s1 K)
 |[],_,_,_=>rfl
 |x::l,l',s,K=>by
  show C7 C P N call ops x s (fun s1=>My C P N call ops (l++l') s1 K)=C7 C P N call ops x s (fun s1=>My C P N call ops l s1 _)
  congr 1
  funext s1
  exact Sc l l'
theorem ZD {l l':List Oper}(hw:RP C P o s)(ap:∀x∈l,Xz C P ops x o)(h:My C P N call ops (l++o::l') s K=some r):C7 C P N call ops o s (fun s1=>My C P N call ops (l++l') s1 K)=some r:=by
 rw[Sc] at h;have:=ED l hw ap h;refine FD this fun s1 _ h1=>?_
 rw[Sc];exact h1
end
open Go.RowKit
section
variable {R:Type} {r:R} {P:Program} {N:Nat} {w0:World} {X0:Hm} {Y:Nat->Prop} {β β':Bt} {s:St} {a:Act} {w w':World} {o:Oper} {ops:Array Oper} {C:Gt} {call:Ai} {K:St->Option R}
theorem CG (h:Ci N w0 X0 Y β s a w){j d:Nat}(hd:(ops[j]?).bind (·.dst)=some d) {v:Value}(ht:s.tm d=.sc v):yielded ops a.tmps j=match v with | .bool b=>some b|_=>none:=by
 have Bp:d<N:=by
  rcases Nat.lt_or_ge d N with h'|h'
  ·exact h'
  ·rw[h.tmo d h'] at ht;cases ht
 have hv:=h.tms d Bp;rw[ht] at hv;have hv:=Yp hv;have JV:d<a.tmps.size:=by rw[h.tsz];exact Bp
 have he:a.tmps[d]?=some v:=by
  rw[Array.getElem?_eq_getElem JV];simp[JV] at hv;rw[hv]
 unfold yielded;rw[hd];simp only[Option.bind_some,he];cases v<;>rfl
theorem Vb (h:Ci N w0 X0 Y β s a w){G:Glo}(Jz:PZ P G w0 X0)(Dt:∀f args res,call f args=some res->Dn G P f args res){i:Nat}(hi:ops[i]?=some o) (hk:C7 C P N call ops o s K=some r):
  ∃s',K s'=some r∧∀(next:Act->World->Prop) (Q:Exit->Act->World->Prop),(∀a' w' β',Ci N w0 X0 Y β' s' a' w'->next a' w')->wpOp P ops Q i next a w:=by
 rw[JZ] at hk
 have hw:∀b,Gm ops o s.tm=some b->Region.wanted o (yielded ops a.tmps)=b:=by
  intro b hb;unfold Gm at hb;unfold Region.wanted;cases hg:o.guard with
  |none=>rw[hg] at hb;simpa using hb
  |some q=>
   obtain⟨j,want⟩:=q;rw[hg] at hb;simp only at hb ⊢;cases hd:(ops[j]?).bind (·.dst) with
   |none=>rw[hd] at hb;cases hb
   |some d=>
    rw[hd] at hb;simp only at hb;split at hb
    ·rename_i b' ht;rw[CG h hd ht];simp at hb;rw[←hb];cases b'<;>cases want<;>rfl
    ·rename_i ht;rw[CG h hd ht];simp at hb;rw[hb];rfl
    ·cases hb
 split at hk
 ·cases hk
 ·rename_i hv;obtain⟨s',hs',hn⟩:=TZ h Jz Dt hk;refine⟨s',hs',fun next Q Af8=>?_⟩
  unfold wpOp;rw[hi];simp only[hw _ hv,if_true];exact .inl (hn next Q Af8)
 ·rename_i hv;obtain⟨hd,hk⟩:=Aj hk;refine⟨_,hk,fun next Q Af8=>?_⟩
  unfold wpOp;rw[hi];simp only[hw _ hv];refine Af8 _ _ β (h.put hd (As.sc _) (by simp[Bo,B4,Ao]))
theorem Ci.known (h:Ci N w0 X0 Y β s a w){d:Nat}(hd:s.tm d=.ub):∃b,Ci N w0 X0 Y β ⟨Cc s.tm d (.sc (.bool b)),s.hp⟩ a w:=by
 have Bp:d<N:=by
  rcases Nat.lt_or_ge d N with h'|h'
  ·exact h'
  ·rw[h.tmo d h'] at hd;cases hd
 have hu:=h.tms d Bp;rw[hd] at hu;have I1:As w (Ct s.hp β Y) .ub (a.tmps.getD d undef):=hu
 obtain⟨b,hv⟩:∃b,a.tmps.getD d undef=.bool b:=by
  generalize a.tmps.getD d undef=x at I1;cases I1 with
  |ub b=>exact⟨b,rfl⟩
 refine⟨b,⟨h.dfr,h.tsz,fun i hi=>?_,fun i hi=>?_,h.box,h.inj,h.blt,fun i hi=>?_,h.wfB,h.ownd,h.rngB,h.pin,h.stp,h.Yx,h.Ylt,h.fr⟩⟩
 ·show Cc s.tm d _ i=_;rw[Ah _ _ (by omega)]
  exact h.tmo i hi
 ·by_cases e:i=d
  ·subst e;show D8 _ _ _ (Cc s.tm i _ i) _;rw[Al,hv];exact As.sc _
  ·show D8 _ _ _ (Cc s.tm d _ i) _;rw[Ah _ _ e];exact h.tms i hi
 ·by_cases e:i=d
  ·subst e;show ∀id∈Bo (Cc s.tm i _ i),_;rw[Al];simp[Bo,B4,Ao]
  ·show ∀id∈Bo (Cc s.tm d _ i),_;rw[Ah _ _ e];exact h.wfT i hi
theorem HG {x y:Option R}(h:Zt x y=some r):x=some r∧y=some r:=by
 unfold Zt at h;split at h
 ·rename_i e;exact⟨h,e ▸ h⟩
 ·cases h
theorem KR (h:Ci N w0 X0 Y β s a w){F:St->Option R}(hk:TO ops o s F=some r):∃s',F s'=some r∧Ci N w0 X0 Y β s' a w:=by
 unfold TO at hk;split at hk
 ·exact⟨s,hk,h⟩
 ·split at hk
  ·exact⟨s,hk,h⟩
  ·split at hk
   ·rename_i d _ ht;obtain⟨b,hb⟩:=h.known ht;obtain⟨h1,h2⟩:=HG hk;cases b
    ·exact⟨_,h2,hb⟩
    ·exact⟨_,h1,hb⟩
   ·exact⟨s,hk,h⟩
theorem Xw {G:Glo}(Jz:PZ P G w0 X0)(Dt:∀f args res,call f args=some res->Dn G P f args res){Q:Exit->Act->World->Prop}(hQ:∀s' a' w' β',K s'=some r->Ci N w0 X0 Y β' s' a' w'->Q .normal a' w'):
  ∀(l:List Nat) (os:List Oper),l.length=os.length->(∀(k i:Nat),l[k]?=some i->ops[i]?=os[k]?)->∀{s:St} {a:Act} {w:World} {β:Bt},Ci N w0 X0 Y β s a w->LQ C P N call ops os s K=some r->wpOps P ops Q l a w
 |[],[],_,_,s,a,w,β,h,hk=>by
  show Q .normal a w;exact hQ s a w β hk h
 |[],_::_,hl,_,_,_,_,_,_,_=>by cases hl
 |_::_,[],hl,_,_,_,_,_,_,_=>by cases hl
 |i::l,o::os,hl,hi,s,a,w,β,h,hk=>by
  rw[wpOps_cons];obtain⟨s1,hk,h⟩:=KR h hk;obtain⟨s',hs',hn⟩:=Vb h Jz Dt (by simpa using hi 0 i rfl) hk
  exact hn _ _ fun a' w' β' h'=>Xw Jz Dt hQ l os (by simpa using hl) (fun k j hj=>by simpa using hi (k+1) j (by simpa using hj)) h' hs'
theorem Ci.drew (h:Ci N w0 X0 Y β s a w):Ci N w0 X0 Y β s a { w with drawn:=w.drawn+1 }:=by
 have:=h.stepR (d:=none) (v:=.top) (nw:=[]) (val:=undef) (w':={ w with drawn:=w.drawn+1 }) (β':=β) rfl rfl
  ⟨rfl,rfl,rfl,⟨Nat.le_refl _,fun _ _ _=>rfl,fun _ _=>Hv.refl _ _⟩,fun _ _=>rfl,by simp,by simp,by simp,by simp,by simp,.top _,by simp[Bo,B4,Ao]⟩
 exact this
theorem KZ (h:Ci N w0 X0 Y β s a w){G:Glo}(Jz:PZ P G w0 X0)(Dt:∀f args res,call f args=some res->Dn G P f args res){id:Nat}{Q:Exit->Act->World->Prop}
  (hk:LQ C P N call ops ops.toList s K=some r)(hQ:∀s' a' w' β',K s'=some r->Ci N w0 X0 Y β' s' a' w'->Q .normal a' w'):(Code.region id ops false).wp P Q a w:=by
 refine wp_region (Xw Jz Dt hQ (List.range ops.size) ops.toList (by simp) (fun k i hi=>?_) h hk)
 rw[List.getElem?_range] at hi
 ·simp at hi;subst hi;simp
 ·rcases Nat.lt_or_ge k ops.size with h'|h'
  ·exact h'
  ·rw[List.getElem?_eq_none (by simpa using h')] at hi;cases hi
def Ma (n:Nat)(listed:Array Bool):List Nat:=(List.range n).filter fun i=> !listed.getD i true
def And (ops:Array Oper)(listed:Array Bool)(o:Oper):Prop:=∀e∈o.after,Region.binds .any e=true->listed.getD e.on false=true
theorem testBit_or {a b j:Nat}:(a ||| b).testBit j=(a.testBit j||b.testBit j):=Nat.testBit_or a b j
theorem IX {acc:List Nat}{j:Nat}:∀(es:List Edge)(v:Nat),(es.foldl (fun s e=>bif Region.binds .any e then s ||| 2 ^ e.on ||| acc.getD e.on 0 else s) v).testBit j=true ->
  v.testBit j=true∨∃e∈es,Region.binds .any e=true∧(j=e.on∨(acc.getD e.on 0).testBit j=true)
 |[],v,h=>.inl h
 |e::es,v,h=>by
  rcases IX es _ h with h|⟨e',he',h⟩
  ·cases hb:Region.binds .any e<;>simp only[hb] at h
   ·exact .inl h
   ·simp only[cond_true,Nat.testBit_or,Bool.or_eq_true] at h;rcases h with (h|h)|h
    ·exact .inl h
    ·refine .inr ⟨e,by simp,hb,.inl ?_⟩
     rw[Nat.testBit_two_pow] at h;exact (of_decide_eq_true h).symm
    ·exact .inr ⟨e,by simp,hb,.inr h⟩
  ·exact .inr ⟨e',by simp[he'],h⟩
theorem Rc {listed:Array Bool}(hc:∀(j:Nat) oj,ops[j]?=some oj->listed.getD j false=true->And ops listed oj):
  ∀(rest done:List Oper) (acc:List Nat),ops.toList=done++rest->acc.length=done.length ->
   (∀(k:Nat) o,done[k]?=some o->And ops listed o->∀j,(acc.getD k 0).testBit j=true->listed.getD j false=true) ->
   ∀(k:Nat) o,ops[k]?=some o->And ops listed o->∀j,((H0 rest acc).getD k 0).testBit j=true->listed.getD j false=true
 |[],done,acc,he,_,h,k,o,ho,hf,j,hj=>by
  refine h k o ?_ hf j hj;rw[List.append_nil] at he;rw[←he]
  simpa using ho
 |o'::rest,done,acc,he,hl,h,k,o,ho,hf,j,hj=>by
  refine Rc hc rest (done++[o']) _ (by rw[he];simp) (by simp[hl]) ?_ k o ho hf j hj
  intro k o ho hf j hj;rcases Nat.lt_trichotomy k done.length with Bp|NI|hgt
  ·rw[List.getElem?_append_left Bp] at ho;rw[List.getD_eq_getElem?_getD,List.getElem?_append_left (by omega),←List.getD_eq_getElem?_getD] at hj
   exact h k o ho hf j hj
  ·subst NI;simp at ho;subst ho;rw[←hl] at hj;simp only[List.getD_eq_getElem?_getD,List.getElem?_append_right (Nat.le_refl _),Nat.sub_self,List.getElem?_cons_zero,Option.getD_some] at hj
   have hj:(o'.after.toList.foldl (fun s e=>bif Region.binds .any e then s ||| 2 ^ e.on ||| acc.getD e.on 0 else s) 0).testBit j=true:=by
    simpa only[List.getD_eq_getElem?_getD] using hj
   rcases IX _ _ hj with h0|⟨e,hm,hb,h1⟩
   ·simp at h0
   ·have DU:=hf e (by simpa using hm) hb
    rcases h1 with h1|h1
    ·rw[h1];exact DU
    ·cases hd:done[e.on]? with
     |none=>
      have:acc.getD e.on 0=0:=by
       rw[List.getD_eq_getElem?_getD,List.getElem?_eq_none (by rw[hl];exact List.getElem?_eq_none_iff.1 hd)]
       rfl
      rw[this] at h1;simp at h1
     |some oe=>
      have hoe:ops[e.on]?=some oe:=by
       rw[←Array.getElem?_toList,he,List.getElem?_append_left (by
        rcases Nat.lt_or_ge e.on done.length with h'|h'
        ·exact h'
        ·rw[List.getElem?_eq_none h'] at hd;cases hd)]
       exact hd
      exact h e.on oe hd (hc e.on oe hoe DU) j h1
  ·rw[List.getElem?_eq_none (by simp;omega)] at ho
   cases ho
theorem V3 {bs:List Nat}:∀(l:List Oper)(n:Nat),BT C P ops bs l n=true->∀(k:Nat) o,l[k]?=some o->∀(j:Nat) x,ops[j]?=some x->j<n+k->CH C P ops x o=true->(bs.getD (n+k) 0).testBit j=true
 |[],_,_,k,o,ho,_,_,_,_,_=>by simp at ho
 |o'::l,n,h,k,o,ho,j,x,hx,hj,On=>by
  simp only[BT,Bool.and_eq_true] at h;cases k with
  |zero=>
   simp at ho;subst ho
   have:=List.all_eq_true.1 h.1 (x,j) (by
    rw[List.mem_zipIdx_iff_getElem?]
    simpa using hx)
   simp only[On,Bool.not_true,Bool.or_false,Bool.or_eq_true,Bool.not_eq_true'] at this;rcases this with h'|h'
   ·have:Nat.blt j n=true:=Nat.ble_eq_true_of_le (by omega)
    rw[this] at h';cases h'
   ·exact h'
  |succ k=>
   have:=V3 l (n+1) h.2 k o (by simpa using ho) j x hx (by omega) On
   rwa [show n+(k+1)=n+1+k by omega]
theorem Ji {n i:Nat}{listed:Array Bool}:i∈Ma n listed↔i<n∧listed.getD i true=false:=by
 unfold Ma;simp[List.mem_filter]
theorem Vr {n i:Nat}{listed:Array Bool}(hi:i∈Ma n listed)(Md:listed.size=n):∃l1 l2,Ma n listed=l1++i::l2∧Ma n (listed.setIfInBounds i true)=l1++l2∧∀j∈l1,j<i:=by
 obtain⟨Bp,Ju⟩:=Ji.1 hi
 have hr:List.range n=List.range i++i::(List.range (n-i-1)).map (i+1 + ·):=by
  conv=>lhs;rw[show n=i+(1+(n-i-1)) by omega]
  rw[List.range_add,List.range_add];simp[Nat.add_assoc]
 refine⟨(List.range i).filter fun i=> !listed.getD i true,((List.range (n-i-1)).map (i+1 + ·)).filter fun i=> !listed.getD i true,?_,?_,fun j hj=>?_⟩
 ·unfold Ma;rw[hr,List.filter_append,List.filter_cons_of_pos (by rw[Ju];rfl)]
 ·unfold Ma;rw[hr,List.filter_append,List.filter_cons_of_neg (by simp[Md,Bp])]
  congr 1
  ·refine List.filter_congr fun j hj=>?_
   rw[getD_set_ne true (by have:=List.mem_range.1 hj;omega)]
  ·refine List.filter_congr fun j hj=>?_
   obtain⟨k,_,rfl⟩:=List.mem_map.1 hj;rw[getD_set_ne true (by omega)]
 ·exact List.mem_range.1 (List.mem_filter.1 hj).1
theorem Af6 (h:Ci N w0 X0 Y β s a w)(o:Oper):RP C P o s:=by
 refine⟨fun y _ i hi=>Eo h y i hi,fun _ _ y _ i hi c hc p hp k hk=>h.wfB i c hc p hp k hk⟩
theorem HO (Agi:(ops.toList.zipIdx.all fun q=>q.1.after.toList.all fun e=> !Region.binds .any e||Nat.blt e.on q.2)=true) {listed:Array Bool}(inv:HeadInv .any ops ops.size listed)(hr:Region.ready .any ops listed=[]):Ma ops.size listed=[]:=by
 cases hp:Ma ops.size listed with
 |nil=>rfl
 |cons i l=>
  exfalso;have hi:i∈Ma ops.size listed:=by rw[hp];simp
  obtain⟨Bp,Ju⟩:=Ji.1 hi;obtain⟨l1,l2,h1,_,h3⟩:=Vr hi inv.size
  have DU:l1=[]:=by
   cases l1 with
   |nil=>rfl
   |cons j l1=>
    rw[hp] at h1;simp at h1;have:=h3 j (by simp)
    omega
  subst DU
  have Bf5:∀j,j<i->listed.getD j false=true:=by
   intro j hj;cases hh:listed.getD j false with
   |true=>rfl
   |false=>
    have:j∈Ma ops.size listed:=Ji.2 ⟨by omega,getD_in (by rw[inv.size];omega) hh⟩
    have hs:(Ma ops.size listed).Pairwise (· < ·):=List.Pairwise.filter _ List.pairwise_lt_range
    rw[h1] at this hs;simp at this;rcases this with e|e
    ·omega
    ·have:=(List.pairwise_cons.1 hs).1 j e;omega
  have:i∈Region.ready .any ops listed:=by
   refine mem_ready.2 ⟨Ju,ops[i],Array.getElem?_eq_getElem Bp,fun e he hb=>Bf5 _ ?_⟩
   have:=List.all_eq_true.1 Agi (ops[i],i) (by
    rw[List.mem_zipIdx_iff_getElem?];simp[Bp])
   have:=List.all_eq_true.1 this e (Array.mem_toList_iff.2 he);simp only[hb,Bool.not_true,Bool.false_or] at this;exact Nat.lt_of_succ_le (Nat.le_of_ble_eq_true this)
  rw[hr] at this;simp at this
theorem JO {G:Glo}(Jz:PZ P G w0 X0)(Dt:∀f args res,call f args=some res->Dn G P f args res)(Kp:HM C P ops=true){Q:Exit->Act->World->Prop}(hQ:∀s' a' w' β',K s'=some r->Ci N w0 X0 Y β' s' a' w'->Q .normal a' w'):
  ∀(fuel:Nat) {listed:Array Bool} {s:St} {a:Act} {w:World} {β:Bt},HeadInv .any ops ops.size listed->(Ma ops.size listed).length=fuel->Ci N w0 X0 Y β s a w->My C P N call ops ((Ma ops.size listed).filterMap (ops[·]?)) s K=some r->wpAny P .any ops Q fuel listed a w:=by
 unfold HM at Kp;simp only[Bool.and_eq_true] at Kp;obtain⟨Agi,Ap4⟩:=Kp;intro fuel
 induction fuel with
 |zero=>
  intro listed s a w β inv hf h hk;have hp:=List.eq_nil_of_length_eq_zero hf;rw[hp] at hk;refine⟨?_,hQ s a w β hk h⟩;cases hr:Region.ready .any ops listed with
  |nil=>rfl
  |cons i l=>
   exfalso;have hi:i∈Region.ready .any ops listed:=by rw[hr];simp
   obtain⟨Ju,o,ho,_⟩:=mem_ready.1 hi;have:i∈Ma ops.size listed:=Ji.2 ⟨(Array.getElem?_eq_some_iff.1 ho).1,Ju⟩;rw[hp] at this;simp at this
 |succ fuel ih=>
  intro listed s a w β inv hf h hk;refine⟨fun hr=>?_,fun i hi=>?_⟩
  ·rw[HO Agi inv hr] at hf;cases hf
  ·obtain⟨Ju,o,ho,L7⟩:=mem_ready.1 hi;have Bp:i<ops.size:=(Array.getElem?_eq_some_iff.1 ho).1;obtain⟨l1,l2,h1,h2,h3⟩:=Vr (Ji.2 ⟨Bp,Ju⟩) inv.size;rw[h1,List.filterMap_append,List.filterMap_cons_some ho] at hk
   have Lm:∀x∈l1.filterMap (ops[·]?),Xz C P ops x o:=by
    intro x hx;obtain⟨j,hj,hxj⟩:=List.mem_filterMap.1 hx;refine Agq ?_;cases On:CH C P ops x o with
    |false=>rfl
    |true=>
     exfalso;have Uk:=V3 ops.toList 0 Ap4 i o (by simpa using ho) j x hxj (by have:=h3 j hj;omega) On
     rw[Nat.zero_add] at Uk;have hjl:=Rc (listed:=listed) (fun j oj hj hl=>inv.closed j oj hj hl) ops.toList [] [] (by simp) rfl (by simp) i o ho L7 j Uk
     have:j∈Ma ops.size listed:=by rw[h1];simp[hj]
     have:=getD_both (Ji.1 this).2;rw[hjl] at this;cases this
   obtain⟨s',hs',hn⟩:=Vb h Jz Dt ho (ZD (Af6 h o) Lm hk);refine hn _ _ fun a' w' β' h'=>ih (inv.set hi Bp) ?_ h' ?_
   ·rw[h2];rw[h1] at hf;simp at hf ⊢;omega
   ·rw[h2,List.filterMap_append];exact hs'
theorem Y4 (h:Ci N w0 X0 Y β s a w){G:Glo}(Jz:PZ P G w0 X0)(Dt:∀f args res,call f args=some res->Dn G P f args res)(hm:P.follows .mixedOrders=true)(Kp:HM C P ops=true){Q:Exit->Act->World->Prop}
  (hk:My C P N call ops ops.toList s K=some r)(hQ:∀s' a' w' β',K s'=some r->Ci N w0 X0 Y β' s' a' w'->Q .normal a' w'):wpAny P .any ops Q ops.size (Array.replicate ops.size false) a { w with drawn:=w.drawn+1 }:=by
 have hp:Ma ops.size (Array.replicate ops.size false)=List.range ops.size:=by
  unfold Ma;refine List.filter_eq_self.2 fun i hi=>?_
  have:=List.mem_range.1 hi;simp[this]
 refine JO (C:=C) Jz Dt Kp hQ ops.size ⟨by simp,fun j oj _ hl=>(by rw[getD_replicate_false] at hl;cases hl),fun t ht ht'=>by omega⟩ (by rw[hp];simp) h.drew ?_
 rw[hp]
 have:(List.range ops.size).filterMap (ops[·]?)=ops.toList:=by
  refine List.ext_getElem? fun k=>?_
  have:∀(n:Nat),n<=ops.size->(List.range n).filterMap (ops[·]?)=ops.toList.take n:=by
   intro n
   induction n with
   |zero=>intro _;rfl
   |succ n ih=>
    intro hn;rw[List.range_succ,List.filterMap_append,ih (by omega),List.take_add_one]
    congr 1
    have:ops[n]?=some ops[n]:=Array.getElem?_eq_getElem (by omega)
    simp[this]
  rw[this ops.size (Nat.le_refl _)]
  congr 1
  exact List.take_of_length_le (by simp)
 rw[this];exact hk
theorem KB (h:Ci N w0 X0 Y β s a w){G:Glo}(Jz:PZ P G w0 X0)(Dt:∀f args res,call f args=some res->Dn G P f args res)(hm:P.follows .mixedOrders=true)(Kp:HM C P ops=true){id:Nat}{Q:Exit->Act->World->Prop}
  (hk:My C P N call ops ops.toList s K=some r)(hQ:∀s' a' w' β',K s'=some r->Ci N w0 X0 Y β' s' a' w'->Q .normal a' w'):(Code.region id ops true).wp P Q a w:=
 wp_region_any hm (Y4 h Jz Dt hm Kp hk hQ)
end
end
section
open Go.RowKit
section
variable {R R':Type} {Rel:Option R->Option R'->Prop} {P:Program} {N:Nat} {tm tm':Nat->PV} {hp Db:Nat->Option Bk} {o:Oper}
theorem Aah (hn:Rel none none){C:Gt}{call:Ai}{K:St->Option R}{K':St->Option R'}(Lm:Nb o.op=true)(Jo:∀x∈o.op.operands.toList,Br tm x=Br tm' x)
  (hS:∀i,U7 o tm' Db i->hp i=Db i∨(hp i=none∧∀b,Rel none b)) (hdd:∀d,o.dst=some d->hp d=Db d)
  (hK:∀v Ck E0,(∀M,GP M (U7 o tm' Db) o.dst hp Db Ck E0)->Rel (K ⟨Bj tm o.dst v,Ck⟩) (K' ⟨Bj tm' o.dst v,E0⟩)):Rel (T8 C P N call ⟨tm,hp⟩ o K) (T8 C P N call ⟨tm',Db⟩ o K'):=by
 unfold T8;have hl:∀x∈o.op.operands.toList,∀i∈Bo (Br tm' x),U7 o tm' Db i:=fun x hx i hi=>.inl ⟨x,hx,hi⟩
 generalize hLd:U7 o tm' Db=S at *
 generalize XO:o.op=op at *
 unfold Nb at Lm;split at Lm
 ·rename_i c
  have Ko:∀x∈c.args.toList,x∈(Op.call c).operands.toList:=by
   intro x hx;simp only[Op.operands,Call.operands,Array.toList_append,List.mem_append];exact .inr hx
  split at Lm
  ·rename_i hc;simp only[hc];refine Cs hn fun d hd=>Be hn fun x _ hx=>Be hn fun y _ hy=>Es hn (Be hn fun _ _ _=>Be hn fun _ _ _=>?_)
   subst hy;have hxm:=Ko x (by rw[hx];simp)
   have hym:=Ko y (by rw[hx];simp)
   simp only[Jo x hxm,Jo y hym];refine Xc hn hS (hdd d hd) (fun i hi=>hl x hxm i (Fe hi)) (fun i hi=>hl y hym i (Fe hi)) fun v Ck E0 hh=>?_
   have:=hK v Ck E0 (by rw[hd];exact hh)
   rw[hd] at this;exact this
  ·cases Lm
 ·cases Lm
theorem P9 {C:Gt}{call:Ai}(Lm:Nb o.op=true)(Jo:∀x∈o.op.operands.toList,Br tm x=Br tm' x)(hS:∀i,U7 o tm' Db i->hp i=Db i)(hdd:∀d,o.dst=some d->hp d=Db d){s1:St}
  (h:T8 C P N call ⟨tm,hp⟩ o some=some s1):∃v Ck E0,s1=⟨Bj tm o.dst v,Ck⟩∧T8 C P N call ⟨tm',Db⟩ o some=some ⟨Bj tm' o.dst v,E0⟩∧∀M,GP M (U7 o tm' Db) o.dst hp Db Ck E0:=by
 have:=Aah (P:=P) (N:=N) (C:=C) (call:=call) (o:=o) (tm:=tm) (tm':=tm') (hp:=hp) (Db:=Db) (K:=some) (K':=some)
  (Rel:=fun (a b:Option St)=>∀s1,a=some s1->∃v Ck E0,s1=⟨Bj tm o.dst v,Ck⟩∧b=some ⟨Bj tm' o.dst v,E0⟩∧∀M,GP M (U7 o tm' Db) o.dst hp Db Ck E0) (fun _ h=>by cases h) Lm Jo (fun i hi=>.inl (hS i hi)) hdd
  (fun v Ck E0 hT s1 h=>by cases h;exact⟨v,Ck,E0,rfl,rfl,hT⟩)
 exact this s1 h
end
section
variable {R R':Type} {r:R} {r':R'} {C:Gt} {P:Program} {N:Nat} {call:Ai} {ops:Array Oper} {o x:Oper} {s s1 s2:St} {K:St->Option R}
theorem Ta {tm:Nat->PV}(h:Gd C P ops o tm=true):Q6 C P o.op=true:=by
 unfold Gd at h;simp only[Bool.and_eq_true] at h;exact h.1
theorem KP (h:Nb o.op=true):Q6 C P o.op=true:=by
 unfold Nb at h;split at h
 ·rename_i c hc;rw[hc];split at h
  ·rename_i hcc;simp only[Q6,hcc];exact h
  ·cases h
 ·cases h
theorem M7 (h:C7 C P N call ops x s K=some r):∃s1,C7 C P N call ops x s some=some s1∧HX P x s s1∧(Ss P x.op=true->s1.hp=s.hp)∧K s1=some r:=by
 cases hx:Gd C P ops x s.tm
 ·rw[Kd hx] at h ⊢;cases ex:gE C P N call ops x s with
  |none=>rw[ex] at h;cases h
  |some q=>
   rw[ex] at h;obtain⟨hb,h1⟩:=Aj h;simp only[Bool.and_eq_true] at hb;refine⟨_,?_,⟨fun t ht=>N7 ht,fun i hi=>Nh hb.2 hi,fun hm i hi=>?_⟩,fun hl=>?_,h1⟩
   ·show An _ _=_;rw[hb.1,hb.2];rfl
   ·show Aq (Ad s.hp q.2.1) q.2.2 i=s.hp i;rw[Fo hb.2 hi,((Sy ex).1 hm).1];simp
   ·show Aq (Ad s.hp q.2.1) q.2.2=s.hp;obtain⟨h1,h2⟩:=XW (.inl hl) ex;rw[h1,h2]
    funext i
    show Ad s.hp [] i=_;rw[Bq];simp
 ·rw[H8 hx] at h ⊢
  exact EJ (P:=P) (N:=N) (o:=x) (tm:=s.tm) (tm':=s.tm) (hp:=s.hp) (K':=some) (Rel:=fun (a:Option R) (b:Option St)=>a=some r->∃s1,b=some s1∧HX P x s s1∧(Ss P x.op=true->s1.hp=s.hp)∧K s1=some r) (fun h=>by cases h) (fun _ _=>rfl) (fun v Ck hh h=>⟨_,rfl,⟨fun t ht=>N7 ht,hh,fun hm=>(by
   rw[Xd (Ta hx)] at hm;cases hm)⟩,fun hl=>(by
   have:=Ta hx;rw[Kn hl] at this;cases this),h⟩) h
theorem Ts {K':St->Option R'}(h:C7 C P N call ops x s some=some s1)(hk:K' s1=some r'):C7 C P N call ops x s K'=some r':=by
 cases hx:Gd C P ops x s.tm
 ·rw[Kd hx] at h ⊢;cases ex:gE C P N call ops x s with
  |none=>rw[ex] at h;cases h
  |some q=>
   rw[ex] at h;obtain⟨hb,h1⟩:=Aj h;show An _ _=_;rw[hb];cases h1;exact hk
 ·rw[H8 hx] at h ⊢;exact EJ (P:=P) (N:=N) (o:=x) (tm:=s.tm) (tm':=s.tm) (hp:=s.hp) (K:=some) (Rel:=fun (a:Option St) (b:Option R')=>a=some s1->b=some r') (fun h=>by cases h) (fun _ _=>rfl) (fun v Ck hh h=>by cases h;exact hk) h
theorem JR {d:Nat}{t tx:TypeId}{b y:PV}(h:N3 P N s d t tx b y K=some r):s.hp d=none:=by
 unfold N3 at h;split at h
 ·obtain⟨_,h⟩:=Aj h;cases hI:Wv P tx
  ·rw[hI,cond_false] at h;refine Yz (P:=P) (tm:=s.tm) (tm':=s.tm) (hp:=s.hp) (Db:=s.hp) (S:=fun _=>True) (K':=fun _ _=>(none:Option R)) (Rel:=fun (a:Option R) (_:Option R)=>a=some r->s.hp d=none) (fun h=>by cases h) (fun _ _=>.inl rfl) (fun _ _=>trivial) (fun m new h=>?_) h
   split at h
   ·split at h
    ·obtain⟨hb,_⟩:=Aj h;simp only[Bool.and_eq_true,Option.isNone_iff_eq_none] at hb;simp only[hb]
    ·cases h
   ·obtain⟨_,_,_,h,_⟩:=E6 h;obtain⟨hb,_⟩:=Aj h;simp only[Bool.and_eq_true,Option.isNone_iff_eq_none] at hb;simp only[hb]
  ·rw[hI,cond_true] at h;unfold Sk at h;obtain⟨_,_,_,h⟩:=C2 h;obtain⟨_,_,_,h,_⟩:=E6 h;obtain⟨hb,_⟩:=Aj h;simp only[Bool.and_eq_true,Option.isNone_iff_eq_none] at hb;simp only[hb]
 ·cases h
theorem Ah1 (hw:RP C P o s)(hwx:∀y∈x.op.operands.toList,∀i∈Bo (Br s.tm y),s.hp i≠none) (xo:∀d,x.dst=some d->d ∉ Dq ops o)(ne:∀d,x.dst=some d->o.dst≠some d)(ox:∀d,o.dst=some d->d ∉ Dq ops x)
  (Cx:Nb x.op=true)(ZR:Nb o.op=true)(OQ:∀i,U7 x s.tm s.hp i->¬U7 o s.tm s.hp i)(hx:Gd C P ops x s.tm=true)(ho:Gd C P ops o s.tm=true)
  (h:C7 C P N call ops x s (fun s1=>C7 C P N call ops o s1 K)=some r):C7 C P N call ops o s (fun s1=>C7 C P N call ops x s1 K)=some r:=by
 obtain⟨tm,hp⟩:=s;obtain⟨s1,e1,_,_,h⟩:=M7 h;obtain⟨s2,e2,_,_,h⟩:=M7 h;rw[H8 hx] at e1
 have hSx:∀i,U7 x tm hp i->hp i≠none:=by
  rintro i (⟨y,hy,hi⟩|⟨Lm,_⟩)
  ·exact hwx y hy i hi
  ·rw[Cx] at Lm;cases Lm
 have hSo:∀i,U7 o tm hp i->hp i≠none:=by
  rintro i (⟨y,hy,hi⟩|⟨Lm,_⟩)
  ·exact hw.1 y hy i hi
  ·rw[ZR] at Lm;cases Lm
 obtain⟨vx,hpx,Aka,rfl,e1',T1⟩:=P9 Cx (fun _ _=>rfl) (fun _ _=>rfl) (fun _ _=>rfl) e1
 have:Aka=hpx:=by
  rw[e1] at e1';injection e1' with q;injection q with _ q;exact q.symm
 subst this;have t1:∀t∈Dq ops o,Bj tm x.dst vx t=tm t:=Ef xo;have t1o:=E5 (ops:=ops) (o:=o) t1;rw[H8 (by rw[Gx t1];exact ho)] at e2
 have hRo:∀i,U7 o (Bj tm x.dst vx) Aka i↔U7 o tm hp i:=by
  intro i;constructor
  ·rintro (⟨y,hy,hi⟩|⟨Lm,_⟩)
   ·exact .inl ⟨y,hy,by rw[←t1o y hy];exact hi⟩
   ·rw[ZR] at Lm;cases Lm
  ·rintro (⟨y,hy,hi⟩|⟨Lm,_⟩)
   ·exact .inl ⟨y,hy,by rw[t1o y hy];exact hi⟩
   ·rw[ZR] at Lm;cases Lm
 have Al1:∀{s:St} {o:Oper} {s2:St},Nb o.op=true->T8 C P N call s o some=some s2->∀d,o.dst=some d->s.hp d=none:=by
  intro s o s2 ZR e d hd;unfold T8 at e;unfold Nb at ZR;split at ZR
  ·rename_i c hc;rw[hc] at e;simp only at e;split at ZR
   ·rename_i hcc;rw[hcc] at e;simp only[hd,Do] at e;obtain⟨_,_,_,e⟩:=A3 e;obtain⟨_,_,_,e⟩:=A3 e;obtain⟨_,e⟩:=C5 e;obtain⟨_,_,_,e⟩:=A3 e;obtain⟨_,_,_,e⟩:=A3 e;exact JR e
   ·cases ZR
  ·cases ZR
 have Bb3:∀d,o.dst=some d->hp d=none:=by
  intro d hd;have h0:=Al1 ZR e2 d hd;cases hh:hp d with
  |none=>rfl
  |some b=>exact absurd h0 ((T1 0).keep d (by rw[hh];simp))
 have A2u:=Al1 Cx e1;simp only at A2u;have hoS:∀d,o.dst=some d->¬U7 x tm hp d:=fun d hd hR=>hSx d hR (Bb3 d hd)
 have hxS:∀d,x.dst=some d->¬U7 o tm hp d:=fun d hd hR=>hSo d hR (A2u d hd)
 obtain⟨vo,Bez,hpo,rfl,e3,T2⟩:=P9 (tm':=tm) (Db:=hp) ZR t1o (fun i hi=>(T1 0).far i (fun hR=>OQ i hR hi) (hSo i hi)) (fun d hd=>((T1 (d+1)).off d (by omega) (fun e=>ne d e hd) (.inl (hoS d hd))).1) e2
 obtain⟨vo',Bqw,OH,e3a,e3b,T3⟩:=P9 (tm':=tm) (Db:=hp) ZR (fun _ _=>rfl) (fun _ _=>rfl) (fun _ _=>rfl) e3
 rw[e3] at e3b
 have Bt6:Bqw=hpo∧OH=hpo:=by
  injection e3a with _ q1;injection e3b with q2;injection q2 with _ q3;exact⟨q1.symm,q3.symm⟩
 obtain⟨rfl,rfl⟩:=Bt6;have t2:∀t∈Dq ops x,tm t=Bj tm o.dst vo t:=fun t ht=>(Ef ox t ht).symm
 have t2x:=E5 (ops:=ops) (o:=x) t2
 have hRx:∀i,U7 x (Bj tm o.dst vo) OH i↔U7 x tm hp i:=by
  intro i;constructor
  ·rintro (⟨y,hy,hi⟩|⟨Lm,_⟩)
   ·exact .inl ⟨y,hy,by rw[t2x y hy];exact hi⟩
   ·rw[Cx] at Lm;cases Lm
  ·rintro (⟨y,hy,hi⟩|⟨Lm,_⟩)
   ·exact .inl ⟨y,hy,by rw[←t2x y hy];exact hi⟩
   ·rw[Cx] at Lm;cases Lm
 obtain⟨vx2,Bfr,Bnv,e4a,e4,T4⟩:=P9 (tm':=Bj tm o.dst vo) (Db:=OH) Cx t2x (fun i hi=>((T3 0).far i (OQ i ((hRx i).1 hi)) (hSx i ((hRx i).1 hi))).symm) (fun d hd=>((T3 (d+1)).off d (by omega) (fun e=>ne d hd e) (.inl (hxS d hd))).1.symm) e1
 have hvx:Bj tm x.dst vx=Bj tm x.dst vx2∧Aka=Bfr:=by
  injection e4a with q1 q2;exact⟨q1,q2⟩
 obtain⟨hvx,rfl⟩:=hvx;obtain⟨_,GW,AG,e5a,e5b,T5⟩:=P9 (tm':=Bj tm x.dst vx) (Db:=Aka) ZR (fun _ _=>rfl) (fun _ _=>rfl) (fun _ _=>rfl) e2
 have hq:GW=Bez:=by injection e5a with _ q1;exact q1.symm
 subst hq;obtain⟨_,hu1,hu2,e6a,e6b,T6⟩:=P9 (tm':=Bj tm o.dst vo) (Db:=OH) Cx (fun _ _=>rfl) (fun _ _=>rfl) (fun _ _=>rfl) e4
 have hu:hu1=Bnv:=by injection e6a with _ q1;exact q1.symm
 subst hu
 have Ko:GW=hu1:=by
  funext i
  by_cases hi:U7 o tm hp i∨o.dst=some i
  ·have hxi:¬U7 x tm hp i:=by
    rcases hi with hi|hi
    ·exact fun hR=>OQ i hR hi
    ·exact hoS i hi
   have hdi:x.dst≠some i:=by
    rcases hi with hi|hi
    ·exact fun e=>hxS i e hi
    ·exact fun e=>ne i e hi
   rw[(T2 0).same i ((T1 (i+1)).off i (by omega) hdi (.inl hxi)).1]
   exact ((T6 (i+1)).off i (by omega) hdi (.inl fun hR=>hxi ((hRx i).1 hR))).1.symm
  ·have hoi:¬U7 o tm hp i:=fun e=>hi (.inl e)
   have hdi:o.dst≠some i:=fun e=>hi (.inr e)
   rw[((T5 (i+1)).off i (by omega) hdi (.inl fun hR=>hoi ((hRo i).1 hR))).1]
   exact (T4 0).same i ((T3 (i+1)).off i (by omega) hdi (.inl hoi)).1.symm
 refine Ts (s1:=⟨Bj tm o.dst vo,OH⟩) (by rw[H8 ho];exact e3) ?_
 refine Ts (s1:=⟨Bj (Bj tm o.dst vo) x.dst vx2,hu1⟩) (by rw[H8 (by rw[←Gx t2];exact hx)];exact e4) ?_
 rw[←Ke ne,←hvx,←Ko];exact h
theorem V8 (hM:Q6 C P o.op=true){i:Nat}(h:U7 o s.tm s.hp i):i∈L0 C P s o:=by
 unfold L0;rw[hM];cases hA:Nb o.op
 ·simp only[Bool.not_false,Bool.and_self,cond_true,List.mem_append];rcases h with⟨y,hy,hi⟩|⟨_,id,c,⟨y,hy,hi⟩,hc,p,hp,hk⟩
  ·exact .inl (List.mem_flatMap.2 ⟨y,hy,hi⟩)
  ·refine .inr (List.mem_flatMap.2 ⟨id,List.mem_flatMap.2 ⟨y,hy,hi⟩,?_⟩);rw[hc];exact List.mem_flatMap.2 ⟨p,hp,hk⟩
 ·simp only[Bool.not_true,Bool.and_false,cond_false,Bool.or_true,cond_true];rcases h with⟨y,hy,hi⟩|⟨hn,_⟩
  ·exact List.mem_flatMap.2 ⟨y,hy,hi⟩
  ·rw[hA] at hn;cases hn
theorem BP (hl:Q6 C P o.op=true∨Ss P o.op=true){y:Operand}(hy:y∈o.op.operands.toList){i:Nat}(h:i∈Bo (Br s.tm y)):i∈L0 C P s o:=by
 rcases hl with hM|hl
 ·exact V8 hM (.inl ⟨y,hy,h⟩)
 ·unfold L0;rw[Kn hl,hl];exact List.mem_flatMap.2 ⟨y,hy,h⟩
theorem QO (ht:∀t∈Dq ops o,s1.tm t=s.tm t)(hh:Q6 C P o.op=true->Nb o.op=false->∀y∈o.op.operands.toList,∀i∈Bo (Br s.tm y),s1.hp i=s.hp i):L0 C P s1 o=L0 C P s o:=by
 have he:=E5 (ops:=ops) (o:=o) ht
 have hl:(o.op.operands.toList.flatMap fun y=>Bo (Br s1.tm y))=o.op.operands.toList.flatMap fun y=>Bo (Br s.tm y):=by
  have Aq5:∀l:List Operand,(∀y∈l,Br s1.tm y=Br s.tm y)->(l.flatMap fun y=>Bo (Br s1.tm y))=l.flatMap fun y=>Bo (Br s.tm y):=by
   intro l
   induction l with
   |nil=>intro _;rfl
   |cons a l ih=>intro h;simp only[List.flatMap_cons];rw[h a (by simp),ih fun y hy=>h y (by simp[hy])]
  exact Aq5 _ he
 unfold L0;simp only[hl];cases hM:(Q6 C P o.op && !Nb o.op)
 ·rfl
 ·simp only[cond_true];simp only[Bool.and_eq_true,Bool.not_eq_true'] at hM
  congr 1
  have Aq5:∀l:List Nat,(∀i∈l,s1.hp i=s.hp i)->(l.flatMap fun i=>match s1.hp i with|some (.st c)=>c.flatMap Ao|_=>[])=l.flatMap fun i=>match s.hp i with|some (.st c)=>c.flatMap Ao|_=>[]:=by
   intro l
   induction l with
   |nil=>intro _;rfl
   |cons a l ih=>intro h;simp only[List.flatMap_cons];rw[h a (by simp),ih fun y hy=>h y (by simp[hy])]
  exact Aq5 _ fun i hi=>by
   obtain⟨y,hy,hi⟩:=List.mem_flatMap.1 hi;exact hh hM.1 hM.2 y hy i hi
theorem Wu {a b:List Nat}(h:Aar a b=true){i:Nat}(ha:i∈a)(hb:i∈b):False:=by
 have:=List.all_eq_true.1 h i ha;have h2:b.any (Nat.beq i)=true:=List.any_eq_true.2 ⟨i,hb,Nat.beq_refl i⟩;rw[h2] at this;cases this
theorem ZC {a b:List Nat}(h:Aar a b=true):Aar b a=true:=by
 refine List.all_eq_true.2 fun i hi=>?_
 cases hc:a.any (Nat.beq i)
 ·rfl
 ·obtain⟨j,hj,e⟩:=List.any_eq_true.1 hc;rw[Nat.eq_of_beq_eq_true e] at hi;exact (Wu h hj hi).elim
theorem Vj:J2 C P x o=J2 C P o x:=by
 unfold J2;cases Q6 C P x.op<;>cases Q6 C P o.op<;>cases Ss P x.op<;>cases Ss P o.op<;>cases Nb x.op<;>cases Nb o.op<;>rfl
structure Ls (C:Gt) (P:Program) (ops:Array Oper) (x o:Oper):Prop where
 xo:∀d,x.dst=some d->d ∉ Dq ops o
 ne:∀d,x.dst=some d->o.dst≠some d
 ox:∀d,o.dst=some d->d ∉ Dq ops x
 me:Qt C P x o=false∨J2 C P x o=true
theorem ZN (h:Ach C P ops x o=false):Ls C P ops x o:=by
 unfold Ach at h;simp only[Bool.or_eq_false_iff] at h;obtain⟨h1,h2⟩:=h;have hT:=h1;unfold Ae8 at h1;simp only[Bool.or_eq_false_iff] at h1
 have a1:CH C P ops x o=false∨Qt C P x o=true:=by
  cases hc:Qt C P x o
  ·left;unfold CH;unfold Qt at hc;simp only[Bool.or_eq_false_iff] at hc ⊢;exact⟨⟨⟨h1.1,h1.2⟩,hc.1⟩,hc.2⟩
  ·exact .inr rfl
 refine⟨fun d hd=>?_,fun d hd he=>?_,fun d hd=>?_,?_⟩
 ·have:=h1.1;simp only[hd,Bool.or_eq_false_iff] at this;exact Qk this.1
 ·have:=h1.1;simp only[hd,he,Bool.or_eq_false_iff] at this;rw[Nat.beq_refl] at this;cases this.2
 ·have:=h1.2;simp only[hd] at this;exact Qk this
 ·cases hc:Qt C P x o
  ·exact .inl rfl
  ·rw[hc] at h2;right
   simpa using h2
theorem Ls.apart (ap:Ls C P ops x o)(h:Qt C P x o=false):Xz C P ops x o:=by
 unfold Qt at h;simp only[Bool.or_eq_false_iff,Bool.and_eq_false_iff] at h;refine⟨ap.xo,ap.ne,ap.ox,fun hm=>?_,fun hm=>?_⟩
 ·rcases h.1 with h|h
  ·rw[hm] at h;cases h
  ·exact h
 ·rcases h.2 with h|h
  ·rw[hm] at h;cases h
  ·exact h
theorem Ls.same (ap:Ls C P ops x o)(hk:HX P x s s1)(hl:Ss P x.op=true->s1.hp=s.hp)(hM:Q6 C P o.op=true)(hA:Nb o.op=false){i:Nat}(hi:s.hp i≠none):s1.hp i=s.hp i:=by
 rcases ap.me with h|h
 ·exact hk.2.2 ((ap.apart h).mo hM) i hi
 ·unfold J2 at h;rw[hA] at h;simp only[Bool.and_false,Bool.or_false,Bool.or_eq_true,Bool.and_eq_true] at h;rcases h with h|h
  ·have:=h.2;rw[Kn (C:=C) (P:=P) this] at hM;cases hM
  ·rw[hl h.2]
theorem RP.keepsS (h:RP C P o s)(ap:Ls C P ops x o)(hk:HX P x s s1)(hl:Ss P x.op=true->s1.hp=s.hp):RP C P o s1:=by
 have XO:∀y∈o.op.operands.toList,Br s1.tm y=Br s.tm y:=fun y hy=>E5 (ops:=ops) (o:=o) (fun t ht=>hk.1 t fun hd=>ap.xo t hd ht) y hy
 refine⟨fun y hy i hi=>?_,fun hM hA y hy i hi c hc p hp k hkk=>?_⟩
 ·rw[XO y hy] at hi;exact hk.2.1 i (h.1 y hy i hi)
 ·rw[XO y hy] at hi;rw[ap.same hk hl hM hA (h.1 y hy i hi)] at hc;exact hk.2.1 k (h.2 hM hA y hy i hi c hc p hp k hkk)
theorem Ls.symm (ap:Ls C P ops x o):Ls C P ops o x:=by
 refine⟨ap.ox,fun d hd he=>ap.ne d he hd,ap.xo,?_⟩
 rcases ap.me with h|h
 ·left;unfold Qt at h ⊢;rw[Bool.or_comm];exact h
 ·right;rw[Vj];exact h
theorem Ar7 (hw:RP C P o s)(hwx:J2 C P x o=true->∀i∈L0 C P s x,s.hp i≠none)(ap:Ls C P ops x o)(hd:J2 C P x o=true->Aar (L0 C P s x) (L0 C P s o)=true)
  (h:C7 C P N call ops x s (fun s1=>C7 C P N call ops o s1 K)=some r):C7 C P N call ops o s (fun s1=>C7 C P N call ops x s1 K)=some r:=by
 rcases ap.me with hm|hm
 ·exact Avo hw (ap.apart hm) h
 ·have hd:=hd hm;have hwx:=hwx hm;cases hx:Gd C P ops x s.tm
  ·cases ho:Gd C P ops o s.tm
   ·exact VP hw ap.xo ap.ne ap.ox hx ho h
   ·have hMo:=Ta ho
    have hlx:FV P ops x s.tm:=by
     cases hl:Ss P x.op
     ·right
      have hMx:Q6 C P x.op=true:=by
       unfold J2 at hm;simp only[hl,Bool.and_false,Bool.or_false,Bool.or_eq_true,Bool.and_eq_true] at hm;rcases hm with hm|hm
       ·exact hm.1
       ·exact KP hm.1
      cases hv:Gm ops x s.tm with
      |none=>
       exfalso;rw[Kd hx] at h;unfold gE at h;rw[hv] at h;cases h
      |some b=>
       cases b
       ·rfl
       ·unfold Gd at hx;rw[hMx,hv] at hx;cases hx
     ·exact .inl hl
    refine Ah6 ap.xo ap.ne ap.ox hlx (fun y hy i hi hR=>?_) ho h
    refine Wu hd (BP ?_ hy hi) (V8 hMo hR);unfold J2 at hm;simp only[Bool.or_eq_true,Bool.and_eq_true] at hm;rcases hm with (hm|hm)|hm
    ·exact .inl hm.1
    ·exact .inr hm.2
    ·exact .inl (KP hm.1)
  ·have hMx:=Ta hx;cases ho:Gd C P ops o s.tm
   ·have hlo:FV P ops o s.tm:=by
     cases hl:Ss P o.op
     ·right
      have hMo:Q6 C P o.op=true:=by
       unfold J2 at hm;simp only[hl,Bool.and_false,Bool.false_or,Bool.or_eq_true,Bool.and_eq_true] at hm;rcases hm with hm|hm
       ·exact hm.1
       ·exact KP hm.2
      cases hv:Gm ops o s.tm with
      |none=>
       exfalso;obtain⟨s1,_,hk,_,h⟩:=M7 h;have YC:Gm ops o s1.tm=none:=by rw[Kw (fun t ht=>hk.1 t fun hd=>ap.xo t hd ht)];exact hv
       rw[Kd (by unfold Gd;rw[YC];cases Q6 C P o.op<;>rfl)] at h
       unfold gE at h;rw[YC] at h;cases h
      |some b=>
       cases b
       ·rfl
       ·unfold Gd at ho;rw[hMo,hv] at ho;cases ho
     ·exact .inl hl
    refine Ai7 hw ap.xo ap.ne ap.ox hlo (fun y hy i hi hR=>?_) hx h
    refine Wu hd (V8 hMx hR) (BP ?_ hy hi);unfold J2 at hm;simp only[Bool.or_eq_true,Bool.and_eq_true] at hm;rcases hm with (hm|hm)|hm
    ·exact .inr hm.2
    ·exact .inl hm.1
    ·exact .inl (KP hm.2)
   ·have hMo:=Ta ho;unfold J2 at hm;simp only[Bool.or_eq_true,Bool.and_eq_true] at hm;rcases hm with (hm|hm)|hm
    ·rw[Kn (C:=C) (P:=P) hm.2] at hMo;cases hMo
    ·rw[Kn (C:=C) (P:=P) hm.2] at hMx;cases hMx
    ·exact Ah1 hw (fun y hy i hi=>hwx i (BP (.inl hMx) hy hi)) ap.xo ap.ne ap.ox hm.1 hm.2 (fun i h1 h2=>Wu hd (V8 hMx h1) (V8 hMo h2)) hx ho h
theorem Ac8 {α:Type}(a b:α)(l:List α)(f:α->Bool):(a::b::l).all f=(b::a::l).all f:=by
 simp only[List.all_cons];cases f a<;>cases f b<;>rfl
theorem Zk {bs:List (List Nat)}:∀(l:List Nat){dn dn':List (Nat × Oper × List Nat)} {s:St}{K:St->Option R},(∀f,dn.all f=dn'.all f)->Hn C P N call ops bs dn l s K=Hn C P N call ops bs dn' l s K
 |[],_,_,_,_,_=>rfl
 |i::l,dn,dn',s,K,h=>by
  unfold Hn;cases ops[i]? with
  |none=>rfl
  |some o=>
   simp only[Do,h]
   congr 2
   funext s'
   exact Zk l fun f=>by simp only[List.all_cons,h]
theorem CS {bs:List Nat}{i:Nat}(hi:ops[i]?=some o):(Z6 C P ops bs).getD i []=Wt C P ops bs i o:=by
 unfold Z6;rw[List.getD_eq_getElem?_getD,List.getElem?_map,List.getElem?_zipIdx,Array.getElem?_toList,hi];simp
theorem Rg {bs:List Nat}{i j:Nat}:j∈Wt C P ops bs i o↔∃x,ops[j]?=some x∧J2 C P x o=true∧(Nat.blt j i&&(bs.getD i 0).testBit j)=false∧(Nat.blt i j&&(bs.getD j 0).testBit i)=false:=by
 unfold Wt;simp only[List.mem_map,List.mem_filter,Bool.and_eq_true,Bool.not_eq_true',Prod.exists];constructor
 ·rintro⟨x,k,⟨hm,⟨h1,h2⟩,h3⟩,rfl⟩
  rw[List.mem_zipIdx_iff_getElem?] at hm;exact⟨x,by simpa using hm,h1,h2,h3⟩
 ·rintro⟨x,hx,h1,h2,h3⟩
  refine⟨x,j,⟨?_,⟨h1,h2⟩,h3⟩,rfl⟩;rw[List.mem_zipIdx_iff_getElem?]
  simpa using hx
theorem BI {sm:List (List Nat)} {i j:Nat}(h:j∈sm.getD i []):BE C P sm s i o=L0 C P s o:=by
 unfold BE;split
 ·rename_i e;rw[e] at h;simp at h
 ·rfl
theorem Ae7 {sm:List (List Nat)} {i:Nat}(h:sm.getD i []≠[]->L0 C P s1 o=L0 C P s o):BE C P sm s1 i o=BE C P sm s i o:=by
 unfold BE;split
 ·rfl
 ·rename_i e;exact h (by rw[e];simp)
theorem WR {l:List Nat}{j:Nat}:l.any (Nat.beq j)=true↔j∈l:=by
 constructor
 ·intro h;obtain⟨k,hk,e⟩:=List.any_eq_true.1 h;rw[Nat.eq_of_beq_eq_true e];exact hk
 ·intro h;exact List.any_eq_true.2 ⟨j,h,Nat.beq_refl j⟩
theorem V2 {bs:List Nat}{sm:List (List Nat)} (hsm:sm=Z6 C P ops bs){i:Nat}(hi:ops[i]?=some o) {l':List Nat}:∀(l:List Nat){dn:List (Nat × Oper × List Nat)} {s:St}{K:St->Option R},RP C P o s ->
  (∀j∈l,j<i∧(bs.getD i 0).testBit j=false∧∀x,ops[j]?=some x->Ls C P ops x o)->Hn C P N call ops sm dn (l++i::l') s K=some r ->
  dn.all (GT C P sm s i o)=true∧C7 C P N call ops o s (fun s1=>Hn C P N call ops sm ((i,o,BE C P sm s i o)::dn) (l++l') s1 K)=some r
 |[],dn,s,K,hw,_,h=>by
  simp only[List.nil_append] at h ⊢;unfold Hn at h;rw[hi] at h;simp only[Do] at h;obtain⟨hb,h⟩:=Aj h;simp only[Bool.and_eq_true] at hb;exact⟨hb.1,h⟩
 |j::l,dn,s,K,hw,hl,h=>by
  simp only[List.cons_append] at h ⊢;unfold Hn at h;obtain⟨hji,Uk,Lm⟩:=hl j (by simp)
  cases hj:ops[j]? with
  |none=>rw[hj] at h;cases h
  |some x=>
   rw[hj] at h;simp only[Do] at h;obtain⟨hb,h⟩:=Aj h;simp only[Bool.and_eq_true] at hb;have ap:=Lm x hj
   have hex:∀k∈BE C P sm s j x,s.hp k≠none:=fun k hk=>by
    have:=List.all_eq_true.1 hb.2 k hk;intro e;rw[e] at this;cases this
   obtain⟨s1,e1,Dw,DU,h1⟩:=M7 h;obtain⟨ha,h2⟩:=V2 hsm hi l (hw.keepsS ap Dw DU) (fun k hk=>hl k (by simp[hk])) h1
   have Bbg:L0 C P s1 o=L0 C P s o:=QO (ops:=ops) (fun t ht=>Dw.1 t fun hd=>ap.xo t hd ht) fun hM hA y hy k hk=>ap.same Dw DU hM hA (hw.1 y hy k hk)
   have hr1:BE C P sm s1 i o=BE C P sm s i o:=Ae7 fun _=>Bbg
   rw[List.all_cons,Bool.and_eq_true] at ha
   have A6t:Nat.blt i j=false:=by
    cases hh:Nat.blt i j
    ·rfl
    ·have:=Nat.le_of_ble_eq_true hh;omega
   have hmi:J2 C P x o=true->j∈sm.getD i []:=fun hs=>by
    rw[hsm,CS hi];exact Rg.2 ⟨x,hj,hs,by rw[Uk,Bool.and_false],by rw[A6t,Bool.false_and]⟩
   have hmj:J2 C P x o=true->i∈sm.getD j []:=fun hs=>by
    rw[hsm,CS hj];exact Rg.2 ⟨o,hi,by rw[Vj];exact hs,by rw[A6t,Bool.false_and],by rw[Uk,Bool.and_false]⟩
   have Alu:J2 C P x o=true->Aar (BE C P sm s j x) (BE C P sm s i o)=true:=by
    intro hs;have:=ha.1;unfold GT at this;rw[WR.2 (hmi hs),hr1] at this
    simpa using this
   have Kp:∀q,GT C P sm s1 i o q=GT C P sm s i o q:=fun q=>by unfold GT;rw[hr1]
   have L7:dn.all (GT C P sm s i o)=true:=by
    refine List.all_eq_true.2 fun q hq=>?_
    rw[←Kp];exact List.all_eq_true.1 ha.2 q hq
   refine⟨L7,?_⟩;rw[hr1] at h2
   have h3:=Ar7 hw (fun hs k hk=>hex k (by rw[BI (hmj hs)];exact hk)) ap (fun hs=>by have:=Alu hs;rw[BI (hmj hs),BI (hmi hs)] at this;exact this)
    (Ts (K':=fun s1=>C7 C P N call ops o s1 (fun s2=>Hn C P N call ops sm ((i,o,BE C P sm s i o)::(j,x,BE C P sm s j x)::dn) (l++l') s2 K)) e1 h2)
   obtain⟨s2,e2,Ey,NG,h4⟩:=M7 h3;refine Ts e2 ?_
   have hr2:BE C P sm s2 j x=BE C P sm s j x:=Ae7 fun Hr=>by
    obtain⟨q,hq⟩:=List.exists_mem_of_ne_nil _ Hr;refine QO (ops:=ops) (fun t ht=>Ey.1 t fun hd=>ap.ox t hd ht) fun hM hA y hy k hk=>ap.symm.same Ey NG hM hA (hex k ?_)
    rw[BI hq];exact BP (.inl hM) hy hk
   unfold Hn;rw[hj];simp only[Do]
   have hc:(((i,o,BE C P sm s i o)::dn).all (GT C P sm s2 j x)&&(BE C P sm s2 j x).all fun k=>(s2.hp k).isSome)=true:=by
    simp only[List.all_cons,Bool.and_eq_true];refine⟨⟨?_,?_⟩,?_⟩
    ·unfold GT;simp only[hr2];cases hs:(sm.getD j []).any (Nat.beq i)
     ·rfl
     ·have hm:=WR.1 hs;rw[hsm,CS hj] at hm;obtain⟨o',RB,XU,_⟩:=Rg.1 hm;rw[hi] at RB;cases RB;rw[Vj] at XU;rw[ZC (Alu XU)];rfl
    ·refine List.all_eq_true.2 fun q hq=>?_
     have:=List.all_eq_true.1 hb.1 q hq;unfold GT at this ⊢;rw[hr2];exact this
    ·rw[hr2];refine List.all_eq_true.2 fun k hk=>?_
     have:=Ey.2.1 k (hex k hk);cases hh:s2.hp k with
     |none=>exact absurd hh this
     |some _=>rfl
   rw[hc,hr2];show C7 C P N call ops x s2 _=some r
   have:(fun s'=>Hn C P N call ops sm ((j,x,BE C P sm s j x)::(i,o,BE C P sm s i o)::dn) (l++l') s' K)=fun s2=>Hn C P N call ops sm ((i,o,BE C P sm s i o)::(j,x,BE C P sm s j x)::dn) (l++l') s2 K:=by
    funext s'
    exact Zk _ fun f=>Ac8 _ _ _ f
   rw[this];exact h4
end
section
variable {R:Type} {r:R} {P:Program} {N:Nat} {w0:World} {X0:Hm} {Y:Nat->Prop} {β β':Bt} {s:St} {a:Act} {w w':World} {o:Oper} {ops:Array Oper} {C:Gt} {call:Ai} {K:St->Option R}
theorem Uu {bs:List Nat}:∀(l:List Oper)(n:Nat),Wy C P ops bs l n=true->∀(k:Nat) o,l[k]?=some o->∀(j:Nat) x,ops[j]?=some x->j<n+k->Ach C P ops x o=true->(bs.getD (n+k) 0).testBit j=true
 |[],_,_,k,o,ho,_,_,_,_,_=>by simp at ho
 |o'::l,n,h,k,o,ho,j,x,hx,hj,On=>by
  simp only[Wy,Bool.and_eq_true] at h;cases k with
  |zero=>
   simp at ho;subst ho
   have:=List.all_eq_true.1 h.1 (x,j) (by
    rw[List.mem_zipIdx_iff_getElem?]
    simpa using hx)
   simp only[On,Bool.not_true,Bool.or_false,Bool.or_eq_true,Bool.not_eq_true'] at this;rcases this with h'|h'
   ·have:Nat.blt j n=true:=Nat.ble_eq_true_of_le (by omega)
    rw[this] at h';cases h'
   ·exact h'
  |succ k=>
   have:=Uu l (n+1) h.2 k o (by simpa using ho) j x hx (by omega) On
   rwa [show n+(k+1)=n+1+k by omega]
theorem MD {G:Glo}(Jz:PZ P G w0 X0)(Dt:∀f args res,call f args=some res->Dn G P f args res)(Kp:EH C P ops=true){Q:Exit->Act->World->Prop}(hQ:∀s' a' w' β',K s'=some r->Ci N w0 X0 Y β' s' a' w'->Q .normal a' w'):
  ∀(fuel:Nat) {dn:List (Nat × Oper × List Nat)} {listed:Array Bool} {s:St} {a:Act} {w:World} {β:Bt},HeadInv .any ops ops.size listed->(Ma ops.size listed).length=fuel->Ci N w0 X0 Y β s a w->Hn C P N call ops (Z6 C P ops (H0 ops.toList [])) dn (Ma ops.size listed) s K=some r->wpAny P .any ops Q fuel listed a w:=by
 unfold EH at Kp;simp only[Bool.and_eq_true] at Kp;obtain⟨Agi,Ap4⟩:=Kp;intro fuel
 induction fuel with
 |zero=>
  intro dn listed s a w β inv hf h hk;have hp:=List.eq_nil_of_length_eq_zero hf;rw[hp] at hk;refine⟨?_,hQ s a w β hk h⟩;cases hr:Region.ready .any ops listed with
  |nil=>rfl
  |cons i l=>
   exfalso;have hi:i∈Region.ready .any ops listed:=by rw[hr];simp
   obtain⟨Ju,o,ho,_⟩:=mem_ready.1 hi;have:i∈Ma ops.size listed:=Ji.2 ⟨(Array.getElem?_eq_some_iff.1 ho).1,Ju⟩;rw[hp] at this;simp at this
 |succ fuel ih=>
  intro dn listed s a w β inv hf h hk;refine⟨fun hr=>?_,fun i hi=>?_⟩
  ·rw[HO Agi inv hr] at hf;cases hf
  ·obtain⟨Ju,o,ho,L7⟩:=mem_ready.1 hi;have Bp:i<ops.size:=(Array.getElem?_eq_some_iff.1 ho).1;obtain⟨l1,l2,h1,h2,h3⟩:=Vr (Ji.2 ⟨Bp,Ju⟩) inv.size;rw[h1] at hk
   have hnb:∀j∈l1,((H0 ops.toList []).getD i 0).testBit j=false:=by
    intro j hj;cases Uk:((H0 ops.toList []).getD i 0).testBit j with
    |false=>rfl
    |true=>
     exfalso;have hjl:=Rc (listed:=listed) (fun j oj hj hl=>inv.closed j oj hj hl) ops.toList [] [] (by simp) rfl (by simp) i o ho L7 j Uk
     have:j∈Ma ops.size listed:=by rw[h1];simp[hj]
     have:=getD_both (Ji.1 this).2;rw[hjl] at this;cases this
   have Lm:∀j∈l1,j<i∧((H0 ops.toList []).getD i 0).testBit j=false∧∀x,ops[j]?=some x->Ls C P ops x o:=by
    intro j hj;refine⟨h3 j hj,hnb j hj,fun x hxj=>ZN ?_⟩
    cases On:Ach C P ops x o with
    |false=>rfl
    |true=>
     exfalso;have Uk:=Uu ops.toList 0 Ap4 i o (by simpa using ho) j x hxj (by have:=h3 j hj;omega) On
     rw[Nat.zero_add,hnb j hj] at Uk;cases Uk
   obtain⟨s',hs',hn⟩:=Vb h Jz Dt ho (V2 rfl ho l1 (Af6 h o) Lm hk).2;refine hn _ _ fun a' w' β' h'=>ih (dn:=(i,o,BE C P (Z6 C P ops (H0 ops.toList [])) s i o)::dn) (inv.set hi Bp) ?_ h' ?_
   ·rw[h2];rw[h1] at hf;simp at hf ⊢;omega
   ·rw[h2];exact hs'
theorem AZ (h:Ci N w0 X0 Y β s a w){G:Glo}(Jz:PZ P G w0 X0)(Dt:∀f args res,call f args=some res->Dn G P f args res)(hm:P.follows .mixedOrders=true)(Kp:EH C P ops=true){Q:Exit->Act->World->Prop}
  (hk:Hn C P N call ops (Z6 C P ops (H0 ops.toList [])) [] (List.range ops.size) s K=some r) (hQ:∀s' a' w' β',K s'=some r->Ci N w0 X0 Y β' s' a' w'->Q .normal a' w'):wpAny P .any ops Q ops.size (Array.replicate ops.size false) a { w with drawn:=w.drawn+1 }:=by
 have hp:Ma ops.size (Array.replicate ops.size false)=List.range ops.size:=by
  unfold Ma;refine List.filter_eq_self.2 fun i hi=>?_
  have:=List.mem_range.1 hi;simp[this]
 refine MD (C:=C) (dn:=[]) Jz Dt Kp hQ ops.size ⟨by simp,fun j oj _ hl=>(by rw[getD_replicate_false] at hl;cases hl),fun t ht ht'=>by omega⟩ (by rw[hp];simp) h.drew ?_
 rw[hp];exact hk
theorem NV (h:Ci N w0 X0 Y β s a w){G:Glo}(Jz:PZ P G w0 X0)(Dt:∀f args res,call f args=some res->Dn G P f args res)(hm:P.follows .mixedOrders=true)(Kp:EH C P ops=true){id:Nat}{Q:Exit->Act->World->Prop}
  (hk:Hn C P N call ops (Z6 C P ops (H0 ops.toList [])) [] (List.range ops.size) s K=some r) (hQ:∀s' a' w' β',K s'=some r->Ci N w0 X0 Y β' s' a' w'->Q .normal a' w'):(Code.region id ops true).wp P Q a w:=
 wp_region_any hm (AZ h Jz Dt hm Kp hk hQ)
end
open Go.RowKit
section
variable {R:Type} {r:R} {N:Nat} {w0:World} {X0:Hm} {Y:Nat->Prop} {β β':Bt} {s:St} {a:Act} {w w':World}
theorem Ab9 {i:Nat}(hi:i<a.tmps.size):a.put (some i) (a.tmps.getD i undef)=a:=by
 obtain⟨tmps,dfr⟩:=a;change i<tmps.size at hi
 have:tmps.setIfInBounds i (tmps.getD i undef)=tmps:=by
  apply Array.ext_getElem?;intro k;by_cases e:i=k
  ·subst e;simp[hi]
  ·rw[Array.getElem?_setIfInBounds_ne e]
 simp only[Act.put,this]
theorem XT {A:Nat->Prop}{es:Nat}{v:Value}(h:As w A (.lst true es 0 []) v):v=.slice none 0 0:=by
 cases h;rfl
theorem WW {id:Nat}(Bb:s.hp id=none){v:PV}{val:Value}(hv:D8 w (Ct (Aq s.hp [(id,.ar false [])]) (Cc β id none) Y) (Cc β id none) v val) (hr:∀i∈Bo v,s.hp i≠none∨i=id):
  HW Y β s w v [(id,.ar false [])] val w (Cc β id none):=by
 refine⟨rfl,rfl,rfl,Bv.refl _ _,fun j hj=>Ah _ _ (by rintro rfl;exact hj Bb),?_,?_,?_,?_,?_,hv,?_⟩
 ·intro j bx hm;simp at hm;rw[hm.2];trivial
 ·intro j bx hm;simp at hm;obtain⟨rfl,rfl⟩:=hm;exact .inl ⟨Al _ _ _,rfl⟩
 ·intro j bx k q hm hq;simp at hm;obtain⟨rfl,rfl⟩:=hm;rw[Al] at hq;cases hq
 ·intro j bx j' bx' k q q' hm Mh _ _;simp at hm Mh;rw[hm.1,Mh.1]
 ·intro j cells hm;simp at hm
 ·intro j hj;rcases hr j hj with h|rfl
  ·exact .inl h
  ·exact .inr ⟨.ar false [],by simp⟩
theorem GV (h:Ci N w0 X0 Y β s a w)(i:Nat):∃β',Ci N w0 X0 Y β' (BJ N s i) a w:=by
 unfold BJ;split
 ·rename_i es ht
  have Bp:i<N:=by
   rcases Nat.lt_or_ge i N with h'|h'
   ·exact h'
   ·rw[h.tmo i h'] at ht;cases ht
  have hv:=h.tms i Bp;rw[ht] at hv;have hv:=XT hv;have hd:Fv N (some i)=true:=by simp[Fv,Nat.blt];omega
  have go:∀j,s.hp j=none->∃β',Ci N w0 X0 Y β' ⟨Cc s.tm i (.view j es 0 0),Cc s.hp j (some (.ar false []))⟩ a w:=by
   intro j hn;have:=h.stepR (d:=some i) hd (by simp[Bn,hn]) (WW (v:=.view j es 0 0) (val:=.slice none 0 0) hn (.inl ⟨Al _ _ _,rfl,rfl,none,rfl⟩) (by simp[Bo,B4,Ao]))
   rw[←hv,Ab9 (by rw[h.tsz];exact Bp)] at this
   exact⟨_,this⟩
  cases hn:(s.hp i).isNone
  ·cases RV:(s.hp (i+N*3000)).isNone
   ·exact⟨β,h⟩
   ·exact go _ (by simpa using RV)
  ·exact go _ (by simpa using hn)
 ·exact⟨β,h⟩
theorem Ci.recell (h:Ci N w0 X0 Y β s a w){id:Nat}{c c':List PV}(h0:s.hp id=some (.st c)) (hl:c'.length=c.length)
  (hc:∀(j:Nat) p,c'[j]?=some p->∃q,c[j]?=some q∧(∀v,Bs w (Ct s.hp β Y) β q v->Bs w (Ct s.hp β Y) β p v)∧∀i∈Ao p,s.hp i≠none):
  Ci N w0 X0 Y β ⟨s.tm,Cc s.hp id (some (.st c'))⟩ a w:=by
 have F5:∀i,Cv (Cc s.hp id (some (.st c')) i)↔Cv (s.hp i):=by
  intro i;by_cases e:i=id
  ·subst e;rw[Al,h0];exact Iff.rfl
  ·rw[Ah _ _ e]
 have hX:MQ (Cc s.hp id (some (.st c'))) β=MQ s.hp β:=by
  funext b
  apply propext;constructor
  ·rintro⟨i,o,hl,hb⟩;exact⟨i,o,(F5 i).1 hl,hb⟩
  ·rintro⟨i,o,hl,hb⟩;exact⟨i,o,(F5 i).2 hl,hb⟩
 have hA:Ct (Cc s.hp id (some (.st c'))) β Y=Ct s.hp β Y:=by
  funext b;unfold Ct;rw[hX]
 have Hr:∀i,s.hp i≠none->Cc s.hp id (some (.st c')) i≠none:=by
  intro i hi;by_cases e:i=id
  ·subst e;rw[Al];simp
  ·rw[Ah _ _ e];exact hi
 have GK:∀i,Cc s.hp id (some (.st c')) i≠none->s.hp i≠none:=by
  intro i hi;by_cases e:i=id
  ·subst e;rw[h0];simp
  ·rw[Ah _ _ e] at hi;exact hi
 refine⟨h.dfr,h.tsz,h.tmo,?_,?_,?_,?_,?_,?_,?_,?_,fun i hi=>⟨Hr _ (h.pin i hi).1,(h.pin i hi).2⟩,?_,?_,h.Ylt,h.fr⟩
 ·intro i hi;show D8 w (Ct (Cc s.hp id _) β Y) β _ _;rw[hA];exact h.tms i hi
 ·intro i b hb;show Qw w (Ct (Cc s.hp id _) β Y) β i b;rw[hA];by_cases e:i=id
  ·subst e;change Cc s.hp i (some (.st c')) i=some b at hb;rw[Al] at hb;cases hb;obtain⟨b,o,h1,h2,h3⟩:=h.box i _ h0;refine⟨b,o,h1,fun j p hj=>?_,fun j hj=>h3 j (by rw[←hl];exact hj)⟩
   obtain⟨q,hq,hqp,_⟩:=hc j p hj;obtain⟨v,hv,hr⟩:=h2 j q hq;exact⟨v,hv,hqp v hr⟩
  ·change Cc s.hp id (some (.st c')) i=some b at hb;rw[Ah _ _ e] at hb;exact h.box i b hb
 ·intro i i' b o o' hl Jq hb Hi;exact h.inj i i' b o o' ((F5 i).1 hl) ((F5 i').1 Jq) hb Hi
 ·intro i b o hn hb;exact h.blt i b o (GK i hn) hb
 ·intro i hi j hj;exact Hr j (h.wfT i hi j hj)
 ·intro i cells hb p hp j hj;change Cc s.hp id (some (.st c')) i=_ at hb;by_cases e:i=id
  ·subst e;rw[Al] at hb;cases hb;obtain⟨k,hk⟩:=List.mem_iff_getElem?.1 hp;obtain⟨_,_,_,hr⟩:=hc k p hk;exact Hr j (hr j hj)
  ·rw[Ah _ _ e] at hb;exact Hr j (h.wfB i cells hb p hp j hj)
 ·intro b hb;exact h.ownd b (by rw[←hX];exact hb)
 ·intro i bx b o hb hlb hβ Bp j hj;change Cc s.hp id (some (.st c')) i=some bx at hb;by_cases e:i=id
  ·subst e;rw[Al] at hb;cases hb;exact h.rngB i _ b o h0 trivial hβ Bp j (by unfold BR at hj ⊢;simp only[hl] at hj;exact hj)
  ·rw[Ah _ _ e] at hb;exact h.rngB i bx b o hb hlb hβ Bp j hj
 ·intro i c1 b o hb hβ Bp;change Cc s.hp id (some (.st c')) i=_ at hb;by_cases e:i=id
  ·subst e;exact h.stp i c b o h0 hβ Bp
  ·rw[Ah _ _ e] at hb;exact h.stp i c1 b o hb hβ Bp
 ·intro b hY hb;exact h.Yx b hY (by rw[←hX];exact hb)
theorem FR (h:Ci N w0 X0 Y β s a w)(id j:Nat):∃β',Ci N w0 X0 Y β' (KF N id s j) a w:=by
 unfold KF;split
 ·rename_i c h0;split
  ·rename_i es hj;cases hn:(s.hp (id+N*(j+1))).isNone
   ·exact⟨β,h⟩
   ·have hn:s.hp (id+N*(j+1))=none:=by simpa using hn
    have Hr:id≠id+N*(j+1):=by
     intro e;rw[←e,h0] at hn;cases hn
    have h1:=h.stepR (d:=none) (v:=.top) (val:=undef) rfl (by simp[Bn,hn]) (WW hn (.top _) (by simp[Bo,B4,Ao]))
    change Ci N w0 X0 Y (Cc β (id+N*(j+1)) none) ⟨s.tm,Cc s.hp (id+N*(j+1)) (some (.ar false []))⟩ a w at h1
    have h2:=h1.recell (id:=id) (c:=c) (c':=c.set j (.view (id+N*(j+1)) es 0 0)) (by show Cc _ _ _ _=_;rw[Ah _ _ Hr];exact h0) (by simp) (by
     intro k p hp;by_cases e:k=j
     ·subst e
      have Bp:k<c.length:=by
       rcases Nat.lt_or_ge k c.length with h'|h'
       ·exact h'
       ·rw[List.getElem?_eq_none h'] at hj;cases hj
      rw[List.getElem?_set_self Bp] at hp;cases hp;refine⟨_,hj,fun v hv=>.inl ⟨Al _ _ _,rfl,rfl,none,XT hv⟩,fun i hi=>?_⟩
      simp[Ao] at hi;subst hi;show Cc _ _ _ _≠none;rw[Al];simp
     ·rw[List.getElem?_set_ne (fun h=>e h.symm)] at hp
      refine⟨p,hp,fun _ hv=>hv,fun i hi=>?_⟩
      have:=h.wfB id c h0 p (List.mem_of_getElem? hp) i hi;show Cc _ _ _ _≠none;by_cases e':i=id+N*(j+1)
      ·subst e';rw[Al];simp
      ·rw[Ah _ _ e'];exact this)
    refine⟨Cc β (id+N*(j+1)) none,?_⟩;have e3:Cc (Cc s.hp (id+N*(j+1)) (some (.ar false []))) id (some (.st (c.set j (.view (id+N*(j+1)) es 0 0))))=Cc (Cc s.hp id (some (.st (c.set j (.view (id+N*(j+1)) es 0 0))))) (id+N*(j+1)) (some (.ar false [])):=OT _ _ _ (fun h=>Hr h.symm)
    change Ci N w0 X0 Y (Cc β (id+N*(j+1)) none) ⟨s.tm,Cc (Cc s.hp (id+N*(j+1)) (some (.ar false []))) id (some (.st (c.set j (.view (id+N*(j+1)) es 0 0))))⟩ a w at h2;rw[e3] at h2;exact h2
  ·exact⟨β,h⟩
 ·exact⟨β,h⟩
theorem Ok {f:St->Nat->St}(hf:∀s β,Ci N w0 X0 Y β s a w->∀i,∃β',Ci N w0 X0 Y β' (f s i) a w):∀(l:List Nat){s:St}{β:Bt},Ci N w0 X0 Y β s a w->∃β',Ci N w0 X0 Y β' (l.foldl f s) a w
 |[],_,β,h=>⟨β,h⟩
 |i::l,s,β,h=>by
  obtain⟨β1,h1⟩:=hf s β h i;exact Ok hf l h1
theorem LS (h:Ci N w0 X0 Y β s a w)(i:Nat):∃β',Ci N w0 X0 Y β' (ME N s i) a w:=by
 unfold ME;split
 ·split
  ·exact Ok (fun s β h i=>FR h _ i) _ h
  ·exact⟨β,h⟩
 ·exact⟨β,h⟩
theorem IG:∀{m:List (Nat × Nat)},Du (m.map (·.2))=true->∀{i i' j:Nat},(i,j)∈m->(i',j)∈m->i=i'
 |[],_,_,_,_,h,_=>by simp at h
 |(x,y)::m,hn,i,i',j,h,h'=>by
  simp only[List.map_cons,Du,Bool.and_eq_true,Bool.not_eq_true'] at hn
  have hy:∀k,(k,y) ∉ m:=by
   intro k hk;exact Qk hn.1 (List.mem_map.2 ⟨(k,y),hk,rfl⟩)
  rcases List.mem_cons.1 h with e|h
  ·cases e;rcases List.mem_cons.1 h' with e|h'
   ·cases e;rfl
   ·exact absurd h' (hy _)
  ·rcases List.mem_cons.1 h' with e|h'
   ·cases e;exact absurd h (hy _)
   ·exact IG hn.2 h h'
theorem Ym:∀{m:List (Nat × Nat)},Du (m.map (·.1))=true->∀{i j j':Nat},(i,j)∈m->(i,j')∈m->j=j'
 |[],_,_,_,_,h,_=>by simp at h
 |(x,y)::m,hn,i,j,j',h,h'=>by
  simp only[List.map_cons,Du,Bool.and_eq_true,Bool.not_eq_true'] at hn
  have hx:∀k,(x,k) ∉ m:=by
   intro k hk;exact Qk hn.1 (List.mem_map.2 ⟨(x,k),hk,rfl⟩)
  rcases List.mem_cons.1 h with e|h
  ·cases e;rcases List.mem_cons.1 h' with e|h'
   ·cases e;rfl
   ·exact absurd h' (hx _)
  ·rcases List.mem_cons.1 h' with e|h'
   ·cases e;exact absurd h (hx _)
   ·exact Ym hn.2 h h'
theorem Mc {i j:Nat}(h:Nat.beq i j=false):i≠j:=by rintro rfl;rw[Nat.beq_refl] at h;cases h
theorem Wf:∀{m:List (Nat × Nat)} {i j:Nat},Ug m i=some j->(i,j)∈m
 |[],_,_,h=>by cases h
 |(x,y)::m,i,j,h=>by
  unfold Ug at h;cases hb:Nat.beq i x<;>rw[hb] at h
  ·exact List.mem_cons_of_mem _ (Wf h)
  ·have:=Nat.eq_of_beq_eq_true hb;cases h;rw[this];simp
theorem Yk {m:List (Nat × Nat)} {hp:Nat->Option Bk}:∀{l:List (Nat × Nat)} {j:Nat}{b:Bk},Fx (Lt m hp l) j=some b->∃i b0,(i,j)∈l∧hp i=some b0∧b=Aic m b0
 |[],_,_,h=>by cases h
 |(x,y)::l,j,b,h=>by
  unfold Lt at h;cases hx:hp x with
  |none=>
   rw[hx] at h;obtain⟨i,b0,h1,h2⟩:=Yk h;exact⟨i,b0,List.mem_cons_of_mem _ h1,h2⟩
  |some bx=>
   rw[hx] at h;simp only[Fx] at h;cases hb:Nat.beq j y<;>rw[hb] at h
   ·obtain⟨i,b0,h1,h2⟩:=Yk h;exact⟨i,b0,List.mem_cons_of_mem _ h1,h2⟩
   ·have:=Nat.eq_of_beq_eq_true hb;subst this;cases h;exact⟨x,bx,by simp,hx,rfl⟩
theorem Nd {m:List (Nat × Nat)} {hp:Nat->Option Bk}:∀{l:List (Nat × Nat)} {i j:Nat},(i,j)∈l->hp i≠none->Fx (Lt m hp l) j≠none
 |[],_,_,h,_=>by simp at h
 |(x,y)::l,i,j,h,hi=>by
  unfold Lt;cases hx:hp x with
  |none=>
   rcases List.mem_cons.1 h with e|h
   ·cases e;exact absurd hx hi
   ·exact Nd h hi
  |some bx=>
   simp only[Fx];cases hb:Nat.beq j y
   ·rcases List.mem_cons.1 h with e|h
    ·cases e;exact absurd rfl (Mc hb)
    ·exact Nd h hi
   ·simp
def GL (m:List (Nat × Nat)) (j:Nat):Option Nat:=
 match m with
 |[]=>none
 |(x,y)::r=>bif Nat.beq j y then some x else GL r j
theorem WC:∀{m:List (Nat × Nat)} {i j:Nat},GL m j=some i->(i,j)∈m
 |[],_,_,h=>by cases h
 |(x,y)::m,i,j,h=>by
  unfold GL at h;cases hb:Nat.beq j y<;>rw[hb] at h
  ·exact List.mem_cons_of_mem _ (WC h)
  ·have:=Nat.eq_of_beq_eq_true hb;cases h;rw[this];simp
theorem QF:∀{m:List (Nat × Nat)} {i j:Nat},(i,j)∈m->∃k,GL m j=some k
 |[],_,_,h=>by simp at h
 |(x,y)::m,i,j,h=>by
  unfold GL;cases hb:Nat.beq j y
  ·rcases List.mem_cons.1 h with e|h
   ·cases e;exact absurd rfl (Mc hb)
   ·exact QF h
  ·exact⟨x,rfl⟩
theorem LP {f:Nat->PV}:∀{l:List Nat}{i:Nat},lk (l.map fun i=>(i,f i)) i=if i∈l then f i else .top
 |[],_=>rfl
 |x::l,i=>by
  simp only[List.map_cons,lk];cases hb:Nat.beq i x
  ·have:=Mc hb;simp only[cond_false,LP,List.mem_cons,this,false_or]
  ·have:=Nat.eq_of_beq_eq_true hb;subst this;simp
theorem GY {m:Nat}:∀{n i:Nat},i∈Lo m n->i<n
 |0,_,h=>by simp[Lo] at h
 |n+1,i,h=>by
  simp only[Lo,List.mem_append] at h;rcases h with h|h
  ·have:=GY h;omega
  ·cases hb:m.testBit n<;>rw[hb] at h
   ·simp at h
   ·simp at h;omega
theorem KW (h:Ci N w0 X0 Y β s a w){m:List (Nat × Nat)} (h1:Du (m.map (·.1))=true) (h2:Du (m.map (·.2))=true) {ls:List Nat}(hls:∀i∈ls,i<N)(hpn:∀i,X0.pn i->(C1 N i,C1 N i)∈m):
  ∃β',Ci N w0 X0 Y β' ⟨lk (ls.map fun i=>(i,YZ m (s.tm i))),Fx (Lt m s.hp m)⟩ a w:=by
 refine⟨fun j=>(GL m j).bind β,?_⟩
 have hβ:∀{i j:Nat},(i,j)∈m->(GL m j).bind β=β i:=by
  intro i j hm;obtain⟨k,hk⟩:=QF hm;rw[hk];have:=IG h2 (WC hk) hm;subst this;rfl
 have hold:∀{j:Nat} {b:Bk},Fx (Lt m s.hp m) j=some b->∃i b0,(i,j)∈m∧s.hp i=some b0∧b=Aic m b0∧(GL m j).bind β=β i:=by
  intro j b hb;obtain⟨i,b0,hm,h3,h4⟩:=Yk hb;exact⟨i,b0,hm,h3,h4,hβ hm⟩
 have F5:∀{j:Nat},Cv (Fx (Lt m s.hp m) j)->∃i,(i,j)∈m∧Cv (s.hp i)∧(GL m j).bind β=β i:=by
  intro j hl;cases hb:Fx (Lt m s.hp m) j with
  |none=>rw[hb] at hl;exact hl.elim
  |some b=>
   obtain⟨i,b0,hm,h3,rfl,h5⟩:=hold hb;refine⟨i,hm,?_,h5⟩;rw[hb] at hl;rw[h3];cases b0<;>exact hl
 have hX:∀b,MQ (Fx (Lt m s.hp m)) (fun j=>(GL m j).bind β) b->MQ s.hp β b:=by
  rintro b ⟨j,o,hl,hb⟩
  obtain⟨i,_,Jq,e⟩:=F5 hl;exact⟨i,o,Jq,by rw[←e];exact hb⟩
 have hA:∀b,Ct (Fx (Lt m s.hp m)) (fun j=>(GL m j).bind β) Y b->Ct s.hp β Y b:=fun b hb=>hb.imp (hX b) id
 have hC:∀p v,Bs w (Ct s.hp β Y) β p v->Bs w (Ct (Fx (Lt m s.hp m)) (fun j=>(GL m j).bind β) Y) (fun j=>(GL m j).bind β) (SU m p) v:=by
  intro p v hp;cases p with
  |view id es off n=>
   show Bs _ _ _ (match Ug m id with|some j=>.view j es off n|none=>.top) v
   cases hj:Ug m id with
   |some j=>
    have e:=hβ (Wf hj);rcases hp with⟨e1,e2⟩|⟨b,o,x,cap,e1,e2⟩
    ·exact .inl ⟨by show (GL m j).bind β=none;rw[e];exact e1,e2⟩
    ·exact .inr ⟨b,o,x,cap,by show (GL m j).bind β=_;rw[e];exact e1,e2⟩
   |none=>exact As.top _
  |ptr id off=>
   show Bs _ _ _ (match Ug m id with|some j=>.ptr j off|none=>.top) v
   cases hj:Ug m id with
   |some j=>
    have e:=hβ (Wf hj);obtain⟨b,o,e1,e2⟩:=hp;exact⟨b,o,by show (GL m j).bind β=_;rw[e];exact e1,e2⟩
   |none=>exact As.top _
  |sc v=>exact As.step (Bv.refl _ _) (fun b _=>hA b) hp
  |lst z es n c=>exact As.step (Bv.refl _ _) (fun b _=>hA b) hp
  |iptr c off=>exact Bs.step (p:=.iptr c off) (Bv.refl _ _) (fun b _=>hA b) (by simp[Ao]) hp
  |_=>exact As.top _
 have hV:∀p v,D8 w (Ct s.hp β Y) β p v->D8 w (Ct (Fx (Lt m s.hp m)) (fun j=>(GL m j).bind β) Y) (fun j=>(GL m j).bind β) (YZ m p) v:=by
  intro p v hp;cases p with
  |agg c=>
   obtain⟨vs,e1,e2⟩:=hp;refine⟨vs,e1,Ba.of_at (by simp;exact e2.len) fun i q u hq hu=>?_⟩
   rw[List.getElem?_map] at hq;cases hc:c[i]? with
   |none=>rw[hc] at hq;cases hq
   |some q0=>
    rw[hc] at hq;cases hq;exact hC _ _ (e2.at_ hc hu)
  |view id es off n=>
   have:=hC (.view id es off n) v hp;change Bs _ _ _ (match Ug m id with|some j=>.view j es off n|none=>.top) v at this
   show D8 _ _ _ (match Ug m id with|some j=>.view j es off n|none=>.top) v
   cases hj:Ug m id<;>rw[hj] at this<;>exact this
  |ptr id off=>
   have:=hC (.ptr id off) v hp;change Bs _ _ _ (match Ug m id with|some j=>.ptr j off|none=>.top) v at this
   show D8 _ _ _ (match Ug m id with|some j=>.ptr j off|none=>.top) v
   cases hj:Ug m id<;>rw[hj] at this<;>exact this
  |sc v'=>exact hC (.sc v') v hp
  |lst z es n c=>exact hC (.lst z es n c) v hp
  |iptr c off=>exact hC (.iptr c off) v hp
  |_=>exact As.top _
 have hrC:∀p i,i∈Ao (SU m p)->∃k∈Ao p,(k,i)∈m:=by
  intro p i hi;cases p with
  |view id es off n=>
   change i∈Ao (match Ug m id with|some j=>.view j es off n|none=>.top) at hi
   cases hj:Ug m id<;>rw[hj] at hi
   ·simp[Ao] at hi
   ·simp[Ao] at hi;subst hi;exact⟨id,by simp[Ao],Wf hj⟩
  |ptr id off=>
   change i∈Ao (match Ug m id with|some j=>.ptr j off|none=>.top) at hi
   cases hj:Ug m id<;>rw[hj] at hi
   ·simp[Ao] at hi
   ·simp[Ao] at hi;subst hi;exact⟨id,by simp[Ao],Wf hj⟩
  |_=>simp[SU,Ao] at hi
 have hrV:∀p i,i∈Bo (YZ m p)->∃k∈Bo p,(k,i)∈m:=by
  intro p i hi;cases p with
  |agg c=>
   simp only[YZ,Bo,B4,List.mem_flatMap,List.mem_map] at hi;obtain⟨_,⟨q,hq,rfl⟩,hi⟩:=hi;obtain⟨k,hk,hm⟩:=hrC q i hi;exact⟨k,by simp only[Bo,B4,List.mem_flatMap];exact⟨q,hq,hk⟩,hm⟩
  |view id es off n=>
   refine (hrC (.view id es off n) i ?_).imp fun k hk=>hk
   change i∈Bo (match Ug m id with|some j=>.view j es off n|none=>.top) at hi
   show i∈Ao (match Ug m id with|some j=>.view j es off n|none=>.top)
   cases hj:Ug m id<;>rw[hj] at hi<;>exact hi
  |ptr id off=>
   refine (hrC (.ptr id off) i ?_).imp fun k hk=>hk
   change i∈Bo (match Ug m id with|some j=>.ptr j off|none=>.top) at hi
   show i∈Ao (match Ug m id with|some j=>.ptr j off|none=>.top)
   cases hj:Ug m id<;>rw[hj] at hi<;>exact hi
  |_=>simp[YZ,SU,Bo,B4,Ao] at hi
 refine⟨h.dfr,h.tsz,?_,?_,?_,?_,?_,?_,?_,?_,?_,?_,?_,?_,h.Ylt,h.fr⟩
 ·intro i hi;show lk _ i=_;rw[LP,if_neg (fun hm=>by have:=hls i hm;omega)]
 ·intro i hi;show D8 w _ _ (lk _ i) _;rw[LP];split
  ·exact hV _ _ (h.tms i hi)
  ·exact As.top _
 ·intro j b hb;obtain⟨i,b0,hm,h3,rfl,e⟩:=hold hb;have Lp:=h.box i b0 h3;cases b0 with
  |st c=>
   obtain⟨b,o,e1,e2,e3⟩:=Lp;refine⟨b,o,by show (GL m j).bind β=_;rw[e];exact e1,fun k p hp=>?_,fun k hk=>e3 k (by simpa using hk)⟩
   rw[List.getElem?_map] at hp;cases hc:c[k]? with
   |none=>rw[hc] at hp;cases hp
   |some q=>
    rw[hc] at hp;cases hp;obtain⟨v,hv,hr⟩:=e2 k q hc;exact⟨v,hv,hC _ _ hr⟩
  |ar fz c=>
   have:=Qw.step' hA Lp;show Qw _ _ _ _ (.ar fz c);rcases this with⟨e1,e2⟩|⟨b,o,e1,e2⟩
   ·exact .inl ⟨by show (GL m j).bind β=_;rw[e];exact e1,e2⟩
   ·exact .inr ⟨b,o,by show (GL m j).bind β=_;rw[e];exact e1,e2⟩
  |mv=>exact trivial
 ·intro j j' b o o' hl Jq hb Hi;obtain⟨i,hm,DU,e⟩:=F5 hl;obtain⟨i',Mh,Bsx,e'⟩:=F5 Jq;have:=h.inj i i' b o o' DU Bsx (by rw[←e];exact hb) (by rw[←e'];exact Hi)
  subst this;exact Ym h1 hm Mh
 ·intro j b o hn hb;cases hj:Fx (Lt m s.hp m) j with
  |none=>exact absurd hj hn
  |some bx=>
   obtain⟨i,b0,_,h3,_,e⟩:=hold hj;exact h.blt i b o (by rw[h3];simp) (by rw[←e];exact hb)
 ·intro i hi j hj;change j∈Bo (lk _ i) at hj;rw[LP] at hj;split at hj
  ·obtain⟨k,hk,hm⟩:=hrV _ j hj;exact Nd hm (h.wfT i hi k hk)
  ·simp[Bo,B4,Ao] at hj
 ·intro j cells hb p hp k hk;obtain⟨i,b0,_,h3,h4,_⟩:=hold hb;cases b0 with
  |st c=>
   cases h4;obtain⟨q,hq,rfl⟩:=List.mem_map.1 hp;obtain⟨k',Jp,hm⟩:=hrC q k hk;exact Nd hm (h.wfB i c h3 q hq k' Jp)
  |ar fz c=>cases h4
  |mv=>cases h4
 ·intro b hb;exact h.ownd b (hX b hb)
 ·intro j bx b o hb hlb hβ1 Bp k hk;obtain⟨i,b0,_,h3,h4,e⟩:=hold hb;subst h4;refine h.rngB i b0 b o h3 ?_ (by rw[←e];exact hβ1) Bp k ?_
  ·cases b0<;>exact hlb
  ·cases b0 with
   |st c=>simpa [BR,Aic] using hk
   |ar fz c=>exact hk
   |mv=>exact hk
 ·intro i hi;exact⟨Nd (hpn i hi) (h.pin i hi).1,(hβ (hpn i hi)).trans (h.pin i hi).2⟩
 ·intro j c b o hb hβ1 Bp;obtain⟨i,b0,hm,h3,h4,e⟩:=hold hb;cases b0 with
  |st c0=>
   obtain⟨k,rfl,hk⟩:=h.stp i c0 b o h3 (by rw[←e];exact hβ1) Bp
   exact⟨k,Ym h1 hm (hpn k hk),hk⟩
  |ar fz c0=>cases h4
  |mv=>cases h4
 ·intro b hY hb;exact h.Yx b hY (hX b hb)
theorem Ty {m:List (Nat × Nat)} {q:Nat × Nat}{o n:Nat}(h:q∈m):q∈IR m o n:=by
 unfold IR;split
 ·exact h
 ·exact List.mem_append.2 (.inl h)
theorem K3 {q:Nat × Nat}{new:Nat}:∀{c:List PV}{j:Nat}{m:List (Nat × Nat)},q∈m->q∈Q4 N new c j m
 |[],_,_,h=>h
 |p::c,j,m,h=>by
  unfold Q4;split
  ·rename_i e;cases e
  ·rename_i e;cases e;exact K3 (Ty h)
  ·rename_i e;cases e;exact K3 h
theorem OU {q:Nat × Nat}{m:List (Nat × Nat)} {i:Nat}(h:q∈m):q∈BQ N s m i:=by
 unfold BQ;split
 ·exact Ty h
 ·split
  ·exact h
  ·split
   ·exact K3 (Ty h)
   ·exact Ty h
 ·exact K3 h
 ·exact h
theorem V4 {q:Nat × Nat}:∀{l:List Nat}{m:List (Nat × Nat)},q∈m->q∈l.foldl (BQ N s) m
 |[],_,h=>h
 |_::l,_,h=>V4 (l:=l) (OU h)
theorem Qi {q:Nat × Nat}{m:List (Nat × Nat)} (h:q∈m):∀k,q∈S5 N s.hp k m
 |0=>h
 |k+1=>by
  unfold S5;split
  ·exact K3 (Qi h k)
  ·exact Qi h k
theorem IE:∀{k i:Nat},i<k->s.hp (C1 N i)≠none->(C1 N i,C1 N i)∈NY N s.hp k
 |0,_,h,_=>by omega
 |k+1,i,h,hn=>by
  unfold NY;by_cases e:i=k
  ·subst e
   have:(s.hp (C1 N i)).isSome=true:=by
    cases hq:s.hp (C1 N i) with
    |none=>exact absurd hq hn
    |some b=>rfl
   rw[this];simp
  ·have:=IE (k:=k) (i:=i) (by omega) hn
   cases (s.hp (C1 N k)).isSome
   ·exact this
   ·exact List.mem_append.2 (.inl this)
theorem Zp (h:Ci N w0 X0 Y β s a w){L:Nat}{q:Bool}{K:St->Option R}(hk:WY N (Lo L N) q s K=some r):∃β' s',K s'=some r∧Ci N w0 X0 Y β' s' a w:=by
 unfold WY at hk;obtain⟨hb,Dw⟩:=Aj hk;simp only[Bool.and_eq_true] at hb
 obtain⟨β2,h2⟩:∃β2,Ci N w0 X0 Y β2 (bif q then s else (Lo L N).foldl (ME N) ((Lo L N).foldl (BJ N) s)) a w:=by
  cases q
  ·obtain⟨β1,h1⟩:=Ok (fun s β h i=>GV h i) (Lo L N) h
   obtain⟨β2,h2⟩:=Ok (fun s β h i=>LS h i) (Lo L N) h1
   exact⟨β2,h2⟩
  ·exact⟨β,h⟩
 obtain⟨β3,h3⟩:=KW h2 hb.1 hb.2 (ls:=Lo L N) (fun i hi=>GY hi) (fun i hi=>V4 (Qi (IE (X0.p8 i hi) (h2.pin i hi).1) 8))
 exact⟨β3,_,Dw,h3⟩
theorem Sa (h:Ci N w0 X0 Y β s a w){L:Nat}{K:St->Option R}(hk:Wj N L s K=some r):∃β' s',K s'=some r∧Ci N w0 X0 Y β' s' a w:=Zp h hk
theorem QE (h:Ci N w0 X0 Y β s a w){L:Nat}{K:St->Option R}(hk:XH N L s K=some r):∃β' s',K s'=some r∧Ci N w0 X0 Y β' s' a w:=Zp h hk
end
open Go.RowKit
section
variable {R:Type} {r:R} {P:Program} {N:Nat} {w0:World} {X0:Hm} {Y:Nat->Prop} {C:Gt} {call:Ai}
theorem JG {n:Nat}{F:St->Option R}{s:St}(h:DB n F s=some r):F s=some r:=by
 unfold DB at h;split at h
 ·cases h
 ·exact h
theorem OD {β:Bt}{s:St}{a:Act}{w:World}(h:Ci N w0 X0 Y β s a w){c:Operand}{kt kf:St->Option R}(hk:Adt s c kt kf=some r):(a.eval c=.bool true∧kt s=some r)∨(a.eval c=.bool false∧kf s=some r):=by
 unfold Adt at hk;split at hk
 ·rename_i d;split at hk
  ·rename_i b ht;have hv:a.eval (.tmp d)=.bool b:=B1 h (x:=.tmp d) ht;cases b
   ·change kf ⟨Cc s.tm d (.sc (.bool false)),s.hp⟩=some r at hk;rw[V0 s.tm ht] at hk;exact .inr ⟨hv,hk⟩
   ·change kt ⟨Cc s.tm d (.sc (.bool true)),s.hp⟩=some r at hk;rw[V0 s.tm ht] at hk;exact .inl ⟨hv,hk⟩
  ·rename_i ht;have hu:=Co h (.tmp d);change D8 _ _ _ (s.tm d) _ at hu;rw[ht] at hu;have I1:As w _ .ub (a.eval (.tmp d)):=hu
   obtain⟨b,hv⟩:∃b,a.eval (.tmp d)=.bool b:=by
    generalize a.eval (.tmp d)=x at I1;cases I1 with
    |ub b=>exact⟨b,rfl⟩
   obtain⟨h1,h2⟩:=HG hk;cases b
   ·exact .inr ⟨hv,h2⟩
   ·exact .inl ⟨hv,h1⟩
  ·cases hk
 ·exact .inl ⟨rfl,hk⟩
 ·exact .inr ⟨rfl,hk⟩
 ·cases hk
theorem DT {c:Code}{Q:Exit->Act->World->Prop}{F:(St->Option R)->St->Option R} {nm:St->(St->Option R)->Option R}
  (Hl:∀{β s a w} {K:St->Option R},Ci N w0 X0 Y β s a w->nm s K=some r->∃β' s',K s'=some r∧Ci N w0 X0 Y β' s' a w)
  (hF:∀{β s a w} {K:St->Option R}{Q':Act->World->Prop},Ci N w0 X0 Y β s a w->F K s=some r->(∀s' a' w' β',K s'=some r->Ci N w0 X0 Y β' s' a' w'->Q' a' w')->c.wp P (Exit.then Q' Q) a w):
  ∀(n:Nat) {β s a w},Ci N w0 X0 Y β s a w->Aek F nm n s=some r->Code.rounds P c Q n a w
 |0,_,_,_,_,_,hk=>by cases hk
 |n+1,β,s,a,w,h,hk=>by
  rw[rounds_succ];refine hF h hk fun s' a' w' β' Jp h'=>?_
  obtain⟨β1,s1,Dw,h1⟩:=Hl h' Jp;exact DT Hl hF n h1 Dw
theorem TC {G:Glo}(Jz:PZ P G w0 X0)(Dt:∀f args res,call f args=some res->Dn G P f args res)(hm:P.follows .mixedOrders=true){fu:Nat}:
  ∀(c:Code) {ln:Nat} {lx:Nat->Nat} {lr:Nat} {kn:St->Option R} {kx:Nat->St->Option R} {kr:St->Option R} {β:Bt} {s:St} {a:Act} {w:World} {Q:Exit->Act->World->Prop},Ci N w0 X0 Y β s a w ->
   Ot C P fu N call c ln lx lr kn kx kr s=some r->(∀s' a' w' β',kn s'=some r->Ci N w0 X0 Y β' s' a' w'->Q .normal a' w') ->
   (∀id s' a' w' β',kx id s'=some r->Ci N w0 X0 Y β' s' a' w'->Q (.exit id) a' w')->(∀s' a' w' β',kr s'=some r->Ci N w0 X0 Y β' s' a' w'->Q .ret a' w')->c.wp P Q a w:=by
 intro c
 induction c with
 |skip=>intro ln lx lr kn kx kr β s a w Q h hk hn hx hr;exact wp_skip (hn s a w β hk h)
 |region id ops draw=>
  intro ln lx lr kn kx kr β s a w Q h hk hn hx hr;unfold Ot at hk;cases draw
  ·simp only[OA,Bool.false_and,cond_false] at hk;exact KZ h Jz Dt hk hn
  ·simp only[OA,Al9,Bool.true_and,cond_true] at hk;cases hb:HM C P ops<;>rw[hb] at hk
   ·obtain⟨Hi,Dw⟩:=Aj (show An _ _=some r from hk)
    exact NV h Jz Dt hm Hi Dw hn
   ·exact KB h Jz Dt hm hb hk hn
 |seq c1 c2 ih1 ih2=>
  intro ln lx lr kn kx kr β s a w Q h hk hn hx hr;unfold Ot at hk
  refine wp_seq (ih1 h hk (fun s' a' w' β' Jp h'=>by
    cases hc:Afd P c1 c2
    ·rw[hc] at Jp;exact ih2 h' Jp hn hx hr
    ·rw[hc] at Jp;cases hq:BM c1 c2
     ·rw[hq] at Jp;obtain⟨β1,s1,Dw,h1⟩:=Sa h' (show Wj _ _ _ _=some r from Jp)
      exact ih2 h1 (JG Dw) hn hx hr
     ·rw[hq] at Jp;obtain⟨β1,s1,Dw,h1⟩:=QE h' (show XH _ _ _ _=some r from Jp)
      exact ih2 h1 (JG Dw) hn hx hr) (fun id s' a' w' β' Jp h'=>hx id s' a' w' β' Jp h') (fun s' a' w' β' Jp h'=>hr s' a' w' β' Jp h'))
 |cond c c1 c2 ih1 ih2=>
  intro ln lx lr kn kx kr β s a w Q h hk hn hx hr;unfold Ot at hk;rcases OD h hk with⟨hc,Dw⟩|⟨hc,Dw⟩
  ·exact wp_cond_true hc (ih1 h Dw hn hx hr)
  ·exact wp_cond_false hc (ih2 h Dw hn hx hr)
 |block id c ih=>
  intro ln lx lr kn kx kr β s a w Q h hk hn hx hr;unfold Ot at hk;refine wp_block (ih h hk (fun s' a' w' β' Jp h'=>hn s' a' w' β' Jp h') (fun j s' a' w' β' Jp h'=>?_) (fun s' a' w' β' Jp h'=>hr s' a' w' β' Jp h'))
  show (if j=id then _ else _)
  by_cases e:j=id
  ·subst e;rw[if_pos rfl];rw[Nat.beq_refl] at Jp;exact hn s' a' w' β' Jp h'
  ·rw[if_neg e]
   have:Nat.beq j id=false:=by
    cases hb:Nat.beq j id
    ·rfl
    ·exact absurd (Nat.eq_of_beq_eq_true hb) e
   rw[this] at Jp;exact hx j s' a' w' β' Jp h'
 |loop c ih=>
  intro ln lx lr kn kx kr β s a w Q h hk hn hx hr;unfold Ot at hk;obtain⟨β1,s1,Dw,h1⟩:=Sa h hk;refine wp_loop_rounds fu (DT (fun h hk=>Sa h hk) (fun h hk hQ=>?_) fu h1 Dw)
  exact ih h hk hQ (fun id s' a' w' β' Jp h'=>hx id s' a' w' β' Jp h') (fun s' a' w' β' Jp h'=>hr s' a' w' β' Jp h')
 |«exit» id=>intro ln lx lr kn kx kr β s a w Q h hk hn hx hr;exact wp_exit (hx id s a w β hk h)
 |ret=>intro ln lx lr kn kx kr β s a w Q h hk hn hx hr;exact wp_ret (hr s a w β hk h)
 |_=>intro ln lx lr kn kx kr β s a w Q h hk hn hx hr;cases hk
end
open Go.RowKit
theorem Mg:∀{l:List (Nat × Bk)} {i:Nat}{b:Bk},Fx l i=some b->(i,b)∈l
 |[],_,_,h=>by cases h
 |(j,c)::l,i,b,h=>by
  unfold Fx at h;cases hb:Nat.beq i j<;>rw[hb] at h
  ·exact List.mem_cons_of_mem _ (Mg h)
  ·have:=Nat.eq_of_beq_eq_true hb;cases h;rw[this];simp
theorem KK:∀{l:List (Nat × Bk)},(l.map (·.1)).Nodup->∀{i b},(i,b)∈l->Fx l i=some b
 |[],_,_,_,h=>by cases h
 |(j,c)::l,hn,i,b,h=>by
  simp only[List.map_cons,List.nodup_cons] at hn;unfold Fx;rcases List.mem_cons.1 h with e|h
  ·cases e;simp only[Nat.beq_refl,cond_true]
  ·have:Nat.beq i j=false:=by
    cases hb:Nat.beq i j
    ·rfl
    ·exact absurd (Nat.eq_of_beq_eq_true hb ▸ List.mem_map.2 ⟨_,h,rfl⟩) hn.1
   simp only[this,cond_false];exact KK hn.2 h
section
variable {R:Type} {r:R} {P:Program} {N:Nat} {w0:World} {X0:Hm} {Y:Nat->Prop} {β β':Bt} {s:St} {a:Act} {w w':World} {A:Nat->Prop}
theorem Aei {id:Nat}{t:CT}{p:PV}{K:PV->List (Nat × Bk)->Option R} (hk:Af5 id t p K=some r):
  (∃c,K c []=some r∧Mx c∧∀w A q u,Fy w A q p u->As w A c u)∨∃es n cc,p=.own es n cc∧K (.view id es 0 n) [(id,.ar false cc)]=some r:=by
 have tree:∀t',(Ya t' p fun c=>K c [])=some r->∃c,K c []=some r∧Mx c∧∀w A q u,Fy w A q p u->As w A c u:=by
  intro t' hk;obtain⟨c,hk,hT,EW,hv⟩:=Mo hk;refine⟨c,hk,hT,fun w A q u h=>(hv w A (fun _=>none) u ?_).1⟩
  cases p<;>first|exact h|exact EW.elim
 unfold Af5 at hk;cases t with
 |sl es=>
  dsimp only at hk;split at hk
  ·rename_i es' n c;cases hb:Nat.beq es' es<;>rw[hb] at hk
   ·cases hk
   ·have:=Nat.eq_of_beq_eq_true hb;subst this;exact .inr ⟨_,_,_,rfl,hk⟩
  ·exact .inl (tree (.sl es) hk)
 |int k=>exact .inl (tree _ hk)
 |bool=>exact .inl (tree _ hk)
 |str=>exact .inl (tree _ hk)
 |any=>exact .inl (tree _ hk)
theorem Pz:∀{ts:List CT}{id:Nat}{ps:List PV}{K:List PV->List (Nat × Bk)->Option R},AD N id ts ps K=some r ->
  ∃cs bs,∃qs:List (Nat × Nat),K cs bs=some r∧cs.length=ps.length∧ps.length=ts.length∧bs.map (·.1)=qs.map (·.1)∧(∀q∈qs,∀q'∈qs,q.2=q'.2->q.1=q'.1) ∧
   (∀i bx,(i,bx)∈bs->∃c,bx=.ar false c)∧(∀c∈cs,GM c)∧(∀c∈cs,∀i∈Ao c,∃bx,(i,bx)∈bs) ∧
   ∀(w:World) (A:Nat->Prop) (own β':Bt) (j0:Nat) (us:List Value),(∀q∈qs,β' q.1=own (j0+q.2))->Eu w A own j0 ps us->Ba (Bs w A β') cs us∧∀i bx,(i,bx)∈bs->Qw w A β' i bx
 |[],id,ps,K,hk=>by
  obtain⟨rfl,hk⟩:=C5 hk;refine⟨[],[],[],hk,rfl,rfl,rfl,by simp,by simp,by simp,by simp,fun w A own β' j0 us _ h=>⟨?_,by simp⟩⟩
  cases us with
  |nil=>trivial
  |cons u us=>exact h.elim
 |t::ts,id,ps,K,hk=>by
  unfold AD at hk;obtain⟨p,ps',FN,Dw⟩:=A3 hk;subst FN;rcases Aei Dw with⟨c,Ey,hT,hv⟩|⟨es,n,cc,rfl,Ey⟩
  ·obtain⟨cs,bs,qs,Qh,hl,NG,hb,AG,Fk,hF,Kv,Fq⟩:=Pz Ey;refine⟨c::cs,bs,qs.map (fun q=>(q.1,q.2+1)),Qh,by simp[hl],by simp[NG],by rw[hb];simp,?_,Fk,?_,?_,fun w A own β' j0 us hβ ho=>?_⟩
   ·intro q hq q' Ff e;obtain⟨q0,Vn,rfl⟩:=List.mem_map.1 hq;obtain⟨q1,Jh,rfl⟩:=List.mem_map.1 Ff;exact AG q0 Vn q1 Jh (by simp only at e;omega)
   ·intro y hy;rcases List.mem_cons.1 hy with rfl|hy
    ·exact Ra hT
    ·exact hF y hy
   ·intro y hy i hi;rcases List.mem_cons.1 hy with rfl|hy
    ·rw[G9 hT] at hi;cases hi
    ·exact Kv y hy i hi
   ·cases us with
    |nil=>exact ho.elim
    |cons u us=>
     obtain⟨h1,h2⟩:=Fq w A own β' (j0+1) us (fun q hq=>by rw[hβ _ (List.mem_map_of_mem hq)];congr 1;simp only;omega) ho.2
     exact⟨⟨Ag2 (hv w A _ u ho.1),h1⟩,h2⟩
  ·obtain⟨cs,bs,qs,Qh,hl,NG,hb,AG,Fk,hF,Kv,Fq⟩:=Pz Ey;refine⟨_::cs,(id,.ar false cc)::bs,(id,0)::qs.map (fun q=>(q.1,q.2+1)),Qh,by simp[hl],by simp[NG],by simp only[List.map_cons,hb];simp,?_,?_,?_,?_,fun w A own β' j0 us hβ ho=>?_⟩
   ·intro q hq q' Ff e;rcases List.mem_cons.1 hq with rfl|hq
    ·rcases List.mem_cons.1 Ff with rfl|Ff
     ·rfl
     ·obtain⟨q0,Vn,rfl⟩:=List.mem_map.1 Ff;simp only at e;omega
    ·obtain⟨q0,Vn,rfl⟩:=List.mem_map.1 hq;rcases List.mem_cons.1 Ff with rfl|Ff
     ·simp only at e;omega
     ·obtain⟨q1,Jh,rfl⟩:=List.mem_map.1 Ff;exact AG q0 Vn q1 Jh (by simp only at e;omega)
   ·intro i bx hm;rcases List.mem_cons.1 hm with e|hm
    ·cases e;exact⟨cc,rfl⟩
    ·exact Fk i bx hm
   ·intro y hy;rcases List.mem_cons.1 hy with rfl|hy
    ·trivial
    ·exact hF y hy
   ·intro y hy i hi;rcases List.mem_cons.1 hy with rfl|hy
    ·simp only[Ao,List.mem_singleton] at hi;subst hi;exact⟨_,List.mem_cons_self⟩
    ·obtain⟨bx,Lp⟩:=Kv y hy i hi;exact⟨bx,List.mem_cons_of_mem _ Lp⟩
   ·cases us with
    |nil=>exact ho.elim
    |cons u us=>
     obtain⟨h1,h2⟩:=Fq w A own β' (j0+1) us (fun q hq=>by rw[hβ _ (List.mem_cons_of_mem _ (List.mem_map_of_mem hq))];congr 1;simp only;omega) ho.2
     have h0:=hβ (id,0) List.mem_cons_self;simp only[Nat.add_zero] at h0;refine⟨⟨?_,h1⟩,fun i bx hm=>?_⟩
     ·rcases ho.1 with⟨h3,rfl,_,h5⟩|⟨b,ob,cap,h3,h4,h5,h6,h7,_⟩
      ·exact .inl ⟨h0.trans h3,rfl,rfl,h5⟩
      ·exact .inr ⟨b,ob,ob,cap,h0.trans h3,h4,.inl rfl,h5,h6,h7⟩
     ·rcases List.mem_cons.1 hm with e|hm
      ·cases e;exact Xt ho.1 h0
      ·exact h2 i bx hm
theorem Ajl {i:Nat}{t:TypeId}{p:PV}{K:PV->List (Nat × Bk)->Option R} (hk:inK P N i t p K=some r):
  ∃v bs,∃qs:List (Nat × Nat),K v bs=some r∧bs.map (·.1)=qs.map (·.1)∧(∀q∈qs,∀q'∈qs,q.2=q'.2->q.1=q'.1)∧(Wl p=true->(C1 N i,0)∈qs∧i<8) ∧
   (∀id bx,(id,bx)∈bs->Cv (some bx)∧∀c,bx=.st c->id=C1 N i∧Wl p=true)∧(∀id∈Bo v,∃bx,(id,bx)∈bs)∧Y8 bs ∧
   ∀(w:World) (A:Nat->Prop) (bt β':Bt) (u:Value),(∀q∈qs,β' q.1=bt q.2)->GN w A bt p u->D8 w A β' v u∧(∀id bx,(id,bx)∈bs->Qw w A β' id bx) ∧
    ∀id bx b o,(id,bx)∈bs->β' id=some (b,o)->∀j,BR bx o j->An4 bt p b j:=by
 have owns:∀{bs:List (Nat × Bk)} {qs:List (Nat × Nat)},bs.map (·.1)=qs.map (·.1)->(∀i bx,(i,bx)∈bs->∃c,bx=.ar false c)->∀{bt β':Bt},(∀q∈qs,β' q.1=bt (1+q.2))->∀id bx b o,(id,bx)∈bs->β' id=some (b,o)->∀j,BR bx o j->∃k o',bt (k+1)=some (b,o')∧o'<=j:=by
  intro bs qs hb Fk bt β' hβ id bx b o hm KN j hj;have:id∈qs.map (·.1):=by rw[←hb];exact List.mem_map.2 ⟨_,hm,rfl⟩
  obtain⟨q,hq,rfl⟩:=List.mem_map.1 this;obtain⟨c,rfl⟩:=Fk _ _ hm;rw[hβ q hq,Nat.add_comm] at KN;exact⟨q.2,o,KN,hj⟩
 have nost:∀{bs:List (Nat × Bk)},(∀i bx,(i,bx)∈bs->∃c,bx=.ar false c)->Y8 bs:=by
  intro bs Fk id cells hm;obtain⟨c,e⟩:=Fk id _ hm;cases e
 unfold inK at hk;split at hk
 ·rename_i e he;obtain⟨ps,rfl,Dw⟩:=HU hk;obtain⟨hi8,Ey⟩:=Aj Dw;have hi8:i<8:=Nat.lt_of_succ_le (Nat.le_of_ble_eq_true hi8);obtain⟨cs,bs,qs,Qh,hl,NG,hb,AG,Fk,hF,Kv,hv⟩:=Pz Ey;refine⟨_,_,(C1 N i,0)::qs.map (fun q=>(q.1,q.2+1)),Qh,by simp only[List.map_cons,hb];simp,?_,fun _=>⟨List.mem_cons_self,hi8⟩,?_,?_,?_,fun w A bt β' u hβ hp=>?_⟩
  ·intro q hq q' Ff e;rcases List.mem_cons.1 hq with rfl|hq
   ·rcases List.mem_cons.1 Ff with rfl|Ff
    ·rfl
    ·obtain⟨q0,Vn,rfl⟩:=List.mem_map.1 Ff;simp only at e;omega
   ·obtain⟨q0,Vn,rfl⟩:=List.mem_map.1 hq;rcases List.mem_cons.1 Ff with rfl|Ff
    ·simp only at e;omega
    ·obtain⟨q1,Jh,rfl⟩:=List.mem_map.1 Ff;exact AG q0 Vn q1 Jh (by simp only at e;omega)
  ·intro id bx hm;rcases List.mem_cons.1 hm with e|hm
   ·cases e;exact⟨trivial,fun _ _=>⟨rfl,rfl⟩⟩
   ·obtain⟨c,rfl⟩:=Fk id bx hm;exact⟨trivial,fun _ e=>by cases e⟩
  ·intro id Bb;simp only[Bo,B4,Ao,List.mem_singleton] at Bb;subst Bb;exact⟨_,List.mem_cons_self⟩
  ·intro id cells hm c hc k hk;rcases List.mem_cons.1 hm with e|hm
   ·cases e;obtain⟨bx,Lp⟩:=Kv c hc k hk;exact⟨bx,List.mem_cons_of_mem _ Lp⟩
   ·obtain⟨c,e⟩:=Fk id _ hm;cases e
  ·obtain⟨b,o,h1,rfl,_,vs,h3,h4,h5⟩:=hp;have h0:=hβ (C1 N i,0) List.mem_cons_self;simp only at h0;have hβ1:∀q∈qs,β' q.1=bt (1+q.2):=fun q hq=>by rw[hβ _ (List.mem_cons_of_mem _ (List.mem_map_of_mem hq)),Nat.add_comm]
   obtain⟨h6,h7⟩:=hv w A bt β' 1 vs hβ1 h3;refine⟨⟨b,o,h0.trans h1,by simp⟩,fun id bx hm=>?_,fun id bx b' o' hm Hi j hj=>?_⟩
   ·rcases List.mem_cons.1 hm with e|hm
    ·cases e;refine⟨b,o,h0.trans h1,fun k c hk=>?_,fun k hk=>h5 k (by omega)⟩
     obtain⟨v,hv,JU⟩:=h6.get hk;exact⟨v,h4 k v hv,JU⟩
    ·exact h7 id bx hm
   ·rcases List.mem_cons.1 hm with e|hm
    ·cases e;rw[h0] at Hi;have hj:o'<=j∧j<o'+cs.length:=hj;exact .inr ⟨o',ps,Hi,hj.1,.inl ⟨rfl,by omega⟩⟩
    ·exact .inl (owns hb Fk hβ1 id bx b' o' hm Hi j hj)
 ·split at hk
  ·rename_i ps;obtain⟨e,he,Dw⟩:=B3 hk;obtain⟨hi8,Ey⟩:=Aj Dw;have hi8:i<8:=Nat.lt_of_succ_le (Nat.le_of_ble_eq_true hi8);obtain⟨q,qr,hq,Qh⟩:=A3 Ey;subst hq;obtain⟨U9,Zg⟩:=C5 Qh;subst U9;unfold Kc at Zg;split at Zg
   ·rename_i es' n c;cases hb:Nat.beq es' (A4 P e)<;>rw[hb] at Zg
    ·cases Zg
    ·have Vy:=Nat.eq_of_beq_eq_true hb;subst Vy;refine⟨_,_,[(C1 N i,0)],Zg,rfl,by simp,fun _=>⟨by simp,hi8⟩,?_,?_,?_,fun w A bt β' u hβ hp=>?_⟩
     ·intro id bx hm;simp only[List.mem_singleton] at hm;cases hm;exact⟨trivial,fun _ e=>by cases e⟩
     ·intro id Bb;simp only[Bo,B4,Ao,List.mem_singleton] at Bb;subst Bb;exact⟨_,List.mem_cons_self⟩
     ·intro id cells hm;simp only[List.mem_singleton] at hm;cases hm
     ·obtain⟨es,n',c',h1,h2⟩:=hp;cases h1;have h0:=hβ (C1 N i,0) List.mem_cons_self;simp only at h0;refine⟨?_,fun id bx hm=>?_,fun id bx b' o' hm Hi j hj=>?_⟩
      ·rcases h2 with⟨h3,rfl,_,h5⟩|⟨b,ob,cap,h3,h4,h5,h6,h7,_⟩
       ·exact .inl ⟨h0.trans h3,rfl,rfl,h5⟩
       ·exact .inr ⟨b,ob,ob,cap,h0.trans h3,h4,.inl rfl,h5,h6,h7⟩
      ·simp only[List.mem_singleton] at hm;cases hm;exact Xt h2 h0
      ·simp only[List.mem_singleton] at hm;cases hm;rw[h0] at Hi;exact .inr ⟨o',_,Hi,hj,.inr rfl⟩
   ·cases Zg
  ·rename_i SD;cases Fm:Bz P t<;>rw[Fm] at hk
   ·simp only[cond_false] at hk;obtain⟨cs,bs,qs,Qh,hl,NG,hb,AG,Fk,hF,Kv,hv⟩:=Pz hk;obtain⟨c,cs',Tn,Zg⟩:=A3 Qh;subst Tn;obtain⟨U9,hk5⟩:=C5 Zg;subst U9;have hFc:=hF c (by simp)
    have hnL:Wl p=false∨∃ps,p=.pbox ps:=by
     cases p<;>first|exact .inl rfl|exact .inr ⟨_,rfl⟩|exact absurd rfl (SD _)
    have hpb:∀ps,p ≠ .pbox ps:=by
     rintro ps rfl
     cases hts:Hq P t with
     |nil=>rw[hts] at NG;simp at NG
     |cons t' ts=>
      rw[hts] at hk;unfold AD Af5 at hk;obtain⟨q,qs1,hq,Dw⟩:=A3 hk;cases hq;cases t'<;>simp[Ya,Ca,Ae,Av,E2,YB] at Dw
    have hpa:∀ps,p ≠ .agg ps:=by
     rintro ps rfl
     cases hts:Hq P t with
     |nil=>rw[hts] at NG;simp at NG
     |cons t' ts=>
      rw[hts] at hk;unfold AD Af5 at hk;obtain⟨q,qs1,hq,Dw⟩:=A3 hk;cases hq;cases t'<;>simp[Ya,Ca,Ae,Av,E2,YB] at Dw
    have hnL:Wl p=false:=hnL.elim id (fun ⟨ps,e⟩=>absurd e (hpb ps))
    have Uv:Bo c=Ao c:=by cases c<;>first|rfl|exact hFc.elim
    refine⟨c,bs,qs.map (fun q=>(q.1,q.2+1)),hk5,by rw[hb];simp,?_,(fun h=>by rw[hnL] at h;cases h),?_,fun id Bb=>Kv c (by simp) id (by rw[←Uv];exact Bb),nost Fk,fun w A bt β' u hβ hp=>?_⟩
    ·intro q hq q' Ff e;obtain⟨q0,Vn,rfl⟩:=List.mem_map.1 hq;obtain⟨q1,Jh,rfl⟩:=List.mem_map.1 Ff;exact AG q0 Vn q1 Jh (by simp only at e;omega)
    ·intro id bx hm;obtain⟨c,rfl⟩:=Fk id bx hm;exact⟨trivial,fun _ e=>by cases e⟩
    ·have Ck:Fy w A (bt 1) p u:=by cases p<;>first|exact hp.2|exact absurd rfl (hpa _)|exact absurd rfl (hpb _)|exact absurd rfl (SD _)
     have hβ1:∀q∈qs,β' q.1=bt (1+q.2):=fun q hq=>by rw[hβ _ (List.mem_map_of_mem hq),Nat.add_comm]
     obtain⟨h6,h7⟩:=hv w A bt β' 1 [u] hβ1 ⟨Ck,trivial⟩;refine⟨?_,h7,fun id bx b' o' hm Hi j hj=>.inl (owns hb Fk hβ1 id bx b' o' hm Hi j hj)⟩
     have h8:=h6.1;cases c<;>first|exact h8|exact hFc.elim
   ·simp only[cond_true] at hk;obtain⟨ps,hp0,Dw⟩:=Gy hk;subst hp0;obtain⟨cs,bs,qs,Qh,hl,NG,hb,AG,Fk,hF,Kv,hv⟩:=Pz Dw;refine⟨_,bs,qs.map (fun q=>(q.1,q.2+1)),Qh,by rw[hb];simp,?_,(fun h=>by cases h),?_,fun id Bb=>?_,nost Fk,fun w A bt β' u hβ hp=>?_⟩
    ·intro q hq q' Ff e;obtain⟨q0,Vn,rfl⟩:=List.mem_map.1 hq;obtain⟨q1,Jh,rfl⟩:=List.mem_map.1 Ff;exact AG q0 Vn q1 Jh (by simp only at e;omega)
    ·intro id bx hm;obtain⟨c,rfl⟩:=Fk id bx hm;exact⟨trivial,fun _ e=>by cases e⟩
    ·obtain⟨c,hc,hi⟩:=List.mem_flatMap.1 (show id∈cs.flatMap Ao from Bb)
     exact Kv c hc id hi
    ·obtain⟨vs,h1,_,h3⟩:=hp;have hβ1:∀q∈qs,β' q.1=bt (1+q.2):=fun q hq=>by rw[hβ _ (List.mem_map_of_mem hq),Nat.add_comm]
     obtain⟨h6,h7⟩:=hv w A bt β' 1 vs hβ1 h3;exact⟨⟨vs,h1,h6⟩,h7,fun id bx b' o' hm Hi j hj=>.inl (owns hb Fk hβ1 id bx b' o' hm Hi j hj)⟩
theorem QX:∀{ts:List TypeId}{i:Nat}{ps:List PV}{K:List (Nat × PV)->List (Nat × Bk)->Option R},Acq P N i ts ps K=some r ->
  ∃tms bs,∃qs:List (Nat × Nat × Nat),K tms bs=some r∧bs.map (·.1)=qs.map (·.1)∧(∀q∈qs,i<=q.2.1)∧(∀q∈qs,∀q'∈qs,q.2=q'.2->q.1=q'.1) ∧
   (∀k p,ps[k]?=some p->Wl p=true->(C1 N (i+k),i+k,0)∈qs∧i+k<8)∧(∀id bx,(id,bx)∈bs->Cv (some bx)∧∀c,bx=.st c->∃k p,ps[k]?=some p∧Wl p=true∧id=C1 N (i+k)) ∧
   (∀j,∀id∈Bo (lk tms j),∃bx,(id,bx)∈bs)∧Y8 bs ∧
   ∀(w:World) (A:Nat->Prop) (bt:Xn) (β':Bt) (us:List Value),(∀q∈qs,β' q.1=bt q.2.1 q.2.2)->Li w A bt i ps us ->
    (∀j,(∃u,i<=j∧us[j-i]?=some u∧D8 w A β' (lk tms j) u)∨(lk tms j=.top∧(i<=j->us[j-i]?=none)))∧(∀id bx,(id,bx)∈bs->Qw w A β' id bx) ∧
    ∀id bx b o,(id,bx)∈bs->β' id=some (b,o)->∀j,BR bx o j->∃k p,ps[k]?=some p∧An4 (bt (i+k)) p b j
 |[],i,ps,K,hk=>by
  obtain⟨FN,hk⟩:=C5 hk;subst FN;refine⟨[],[],[],hk,rfl,by simp,by simp,by simp,by simp,(fun j id Bb=>by cases Bb),(by intro i cells hm;cases hm),fun w A bt β' us _ h=>?_⟩
  cases us with
  |nil=>exact⟨fun j=>.inr ⟨rfl,fun _=>by simp⟩,by simp,by simp⟩
  |cons u us=>exact h.elim
 |t::ts,i,ps,K,hk=>by
  unfold Acq at hk;obtain⟨p,ps',FN,Dw⟩:=A3 hk;subst FN;obtain⟨v,bs,qs,Ey,hb,hqi,DE,Lp,hr,TG,hv⟩:=Ajl Dw;obtain⟨tms,bs',qs',Qh,Hi,Am8,Blp,A7u,Bu2,hr',Bpu,Nl⟩:=QX Ey;refine⟨(i,v)::tms,bs++bs',qs.map (fun q=>(q.1,i,q.2))++qs',Qh,by simp only[List.map_append,hb,Hi];simp,?_,?_,?_,?_,?_,?_,fun w A bt β' us hβ hp=>?_⟩
  ·intro q hq;rcases List.mem_append.1 hq with hq|hq
   ·obtain⟨q0,Vn,rfl⟩:=List.mem_map.1 hq;exact Nat.le_refl _
   ·have:=Am8 q hq;omega
  ·intro q hq q' Ff e;rcases List.mem_append.1 hq with hq|hq
   ·obtain⟨q0,Vn,rfl⟩:=List.mem_map.1 hq;rcases List.mem_append.1 Ff with Ff|Ff
    ·obtain⟨q1,Jh,rfl⟩:=List.mem_map.1 Ff;simp only[Prod.mk.injEq,true_and] at e;exact hqi q0 Vn q1 Jh e
    ·have:=Am8 q' Ff;rw[←e] at this;simp only at this;omega
   ·have h5:=Am8 q hq;rcases List.mem_append.1 Ff with Ff|Ff
    ·obtain⟨q1,Jh,rfl⟩:=List.mem_map.1 Ff;rw[e] at h5;simp only at h5;omega
    ·exact Blp q hq q' Ff e
  ·intro k p' Jp hL;cases k with
   |zero=>
    simp only[List.getElem?_cons_zero,Option.some.injEq] at Jp;subst Jp;obtain⟨h1,h2⟩:=DE hL;exact⟨List.mem_append.2 (.inl (List.mem_map.2 ⟨_,h1,rfl⟩)),h2⟩
   |succ k=>
    obtain⟨h1,h2⟩:=A7u k p' (by simpa using Jp) hL
    rw[show i+1+k=i+(k+1) by omega] at h1 h2
    exact⟨List.mem_append.2 (.inr h1),h2⟩
  ·intro id bx hm;rcases List.mem_append.1 hm with hm|hm
   ·obtain⟨h1,h2⟩:=Lp id bx hm;exact⟨h1,fun c hc=>⟨0,p,rfl,(h2 c hc).2,(h2 c hc).1⟩⟩
   ·obtain⟨h1,h2⟩:=Bu2 id bx hm;refine⟨h1,fun c hc=>?_⟩
    obtain⟨k,p',h3,h4,h5⟩:=h2 c hc;exact⟨k+1,p',by simpa using h3,h4,by rw[h5,show i+1+k=i+(k+1) by omega]⟩
  ·intro j id Bb;unfold lk at Bb;cases hbq:Nat.beq j i<;>rw[hbq] at Bb
   ·obtain⟨bx,h1⟩:=hr' j id Bb;exact⟨bx,List.mem_append.2 (.inr h1)⟩
   ·obtain⟨bx,h1⟩:=hr id Bb;exact⟨bx,List.mem_append.2 (.inl h1)⟩
  ·intro id cells hm c hc k hk;rcases List.mem_append.1 hm with hm|hm
   ·obtain⟨bx,h1⟩:=TG id cells hm c hc k hk;exact⟨bx,List.mem_append.2 (.inl h1)⟩
   ·obtain⟨bx,h1⟩:=Bpu id cells hm c hc k hk;exact⟨bx,List.mem_append.2 (.inr h1)⟩
  ·cases us with
   |nil=>exact hp.elim
   |cons u us=>
    obtain⟨h1,h2,h3⟩:=hv w A (bt i) β' u (fun q hq=>hβ _ (List.mem_append.2 (.inl (List.mem_map_of_mem hq)))) hp.1
    obtain⟨Tf,RS,h3'⟩:=Nl w A bt β' us (fun q hq=>hβ q (List.mem_append.2 (.inr hq))) hp.2
    refine⟨fun j=>?_,fun id bx hm=>?_,fun id bx b o hm KN j hj=>?_⟩
    ·unfold lk;cases hbq:Nat.beq j i
     ·have Hr:=Mc hbq;simp only[cond_false];rcases Tf j with⟨u',h4,h5,h6⟩|⟨h4,h5⟩
      ·refine .inl ⟨u',by omega,?_,h6⟩
       rw[show j-i=(j-(i+1))+1 by omega]
       simpa using h5
      ·refine .inr ⟨h4,fun hij=>?_⟩
       rw[show j-i=(j-(i+1))+1 by omega]
       simpa using h5 (by omega)
     ·have:=Nat.eq_of_beq_eq_true hbq;subst this;exact .inl ⟨u,Nat.le_refl _,by simp,h1⟩
    ·rcases List.mem_append.1 hm with hm|hm
     ·exact h2 id bx hm
     ·exact RS id bx hm
    ·rcases List.mem_append.1 hm with hm|hm
     ·exact⟨0,p,rfl,h3 id bx b o hm KN j hj⟩
     ·obtain⟨k,p',h4,h5⟩:=h3' id bx b o hm KN j hj;exact⟨k+1,p',by simpa using h4,by rw[show i+(k+1)=i+1+k by omega];exact h5⟩
def VC (bt:Xn)(args:List PV)(h8:∀k p,args[k]?=some p->Wl p=true->k<8):Hm:=
 ⟨BtX bt,EL bt args,fun i=>∃p,args[i]?=some p∧Wl p=true,fun i=>bt i 0,fun i ⟨p,h1,h2⟩=>h8 i p h1 h2⟩
theorem ZJ {ts:List TypeId}{args:List PV}{us:List Value}{bt:Xn}{K:List (Nat × PV)->List (Nat × Bk)->Option R} (Uq:Ins w Y bt args us)(hk:Acq P N 0 ts args K=some r):
  ∃tms bs,K tms bs=some r∧(Bn (fun _=>none) bs=true->us.length<=N->∃(h8:∀k p,args[k]?=some p->Wl p=true->k<8),∃β0,
   Ci N w (VC bt args h8) Y β0 ⟨lk tms,Fx bs⟩ { tmps:=us.toArray++Array.replicate (N-us.toArray.size) undef,defers:=[] } w):=by
 obtain⟨tms,bs,qs,Dw,hb,Vn,hqi,DE,Lp,hr,TG,hv⟩:=QX hk;refine⟨tms,bs,Dw,fun O2 hN=>?_⟩
 have TV:=Qm O2
 have h8:∀k p,args[k]?=some p->Wl p=true->k<8:=fun k p h1 h2=>by
  have:=(DE k p h1 h2).2;omega
 have FP:(qs.map (·.1)).Nodup:=by rw[←hb];exact TV
 obtain⟨β0,hβ0⟩:∃β0:Bt,∀q∈qs,β0 q.1=bt q.2.1 q.2.2:=by
  have:∀(l:List (Nat × Nat × Nat)),(l.map (·.1)).Nodup->∃β0:Bt,∀q∈l,β0 q.1=bt q.2.1 q.2.2:=by
   intro l
   induction l with
   |nil=>intro _;exact⟨fun _=>none,by simp⟩
   |cons q l ih=>
    intro hn;simp only[List.map_cons,List.nodup_cons] at hn;obtain⟨b1,h1⟩:=ih hn.2;refine⟨Cc b1 q.1 (bt q.2.1 q.2.2),fun q' Ff=>?_⟩
    rcases List.mem_cons.1 Ff with rfl|Ff
    ·exact Al _ _ _
    ·have Hr:q'.1≠q.1:=fun e=>hn.1 (by rw[←e];exact List.mem_map.2 ⟨q',Ff,rfl⟩)
     rw[Ah _ _ Hr];exact h1 q' Ff
  exact this qs FP
 refine⟨h8,β0,?_⟩;obtain⟨hs,MZ,hL⟩:=hv w _ bt β0 us hβ0 Uq.args
 have XZ:∀id bx,(id,bx)∈bs->∃ik,(id,ik)∈qs∧β0 id=bt ik.1 ik.2:=by
  intro id bx hm;have:id∈qs.map (·.1):=by rw[←hb];exact List.mem_map.2 ⟨_,hm,rfl⟩
  obtain⟨q,hq,rfl⟩:=List.mem_map.1 this;exact⟨q.2,hq,hβ0 q hq⟩
 have hX:∀b,MQ (Fx bs) β0 b->BtX bt b:=by
  rintro b ⟨id,o,hl,hβ⟩
  cases hq:Fx bs id with
  |none=>rw[hq] at hl;exact hl.elim
  |some bx=>
   obtain⟨ik,_,h2⟩:=XZ id bx (Mg hq);rw[h2] at hβ;exact⟨_,_,_,hβ⟩
 have hA:∀b,Ct (Fx bs) β0 Y b->BtX bt b∨Y b:=fun b hb=>hb.imp (hX b) id
 have Aiz:∀{p:PV} {u:Value},D8 w (fun b=>BtX bt b∨Y b) β0 p u->D8 w (Ct (Fx bs) β0 Y) β0 p u:=fun h=>h.step (Bv.refl _ _) (fun b _=>hA b) (fun _ _=>rfl)
 refine⟨rfl,by simp;omega,fun i hi=>?_,fun i hi=>?_,?_,?_,?_,fun i hi id Bb=>?_,?_,fun b hb=>.inl (hX b hb),?_,?_,?_,fun b hY hXb=>Uq.Yx b hY (hX b hXb),Uq.Ylt,⟨rfl,rfl,rfl,Bv.refl _ _,fun _ _ _ _=>⟨rfl,rfl⟩⟩⟩
 ·rcases hs i with⟨u,_,h,_⟩|⟨h,_⟩
  ·rw[Nat.sub_zero,List.getElem?_eq_none (by omega)] at h;cases h
  ·exact h
 ·rcases hs i with⟨u,_,h,hv⟩|⟨h,h'⟩
  ·rw[Nat.sub_zero] at h
   have Bp:i<us.length:=by
    rcases Nat.lt_or_ge i us.length with h'|h'
    ·exact h'
    ·rw[List.getElem?_eq_none h'] at h;cases h
   have:(us.toArray++Array.replicate (N-us.toArray.size) undef).getD i undef=u:=by
    rw[Array.getD_eq_getD_getElem?,Array.getElem?_append_left (by simpa using Bp)]
    simp[h]
   show D8 w _ _ _ ((us.toArray++Array.replicate (N-us.toArray.size) undef).getD i undef);rw[this];exact Aiz hv
  ·show D8 w _ _ (lk tms i) _;rw[h];exact As.top _
 ·intro id bx hq;exact (MZ id bx (Mg hq)).step' hA
 ·intro id id' b o o' hl Jq hβ hβ';cases hq:Fx bs id with
  |none=>change Cv (Fx bs id) at hl;rw[hq] at hl;exact hl.elim
  |some bx=>
   cases Ff:Fx bs id' with
   |none=>change Cv (Fx bs id') at Jq;rw[Ff] at Jq;exact Jq.elim
   |some bx'=>
    obtain⟨ik,h1,h2⟩:=XZ id bx (Mg hq);obtain⟨ik',Tf,RS⟩:=XZ id' bx' (Mg Ff);rw[h2] at hβ;rw[RS] at hβ';obtain⟨h3,h4⟩:=Uq.inj _ _ _ _ b o o' hβ hβ';exact hqi _ h1 _ Tf (Prod.ext h3 h4)
 ·intro id b o hn hβ;cases hq:Fx bs id with
  |none=>exact absurd hq hn
  |some bx=>
   obtain⟨ik,h1,h2⟩:=XZ id bx (Mg hq);rw[h2] at hβ;exact Uq.lt b ⟨_,_,_,hβ⟩
 ·obtain⟨bx,hm⟩:=hr i id Bb;show Fx bs id≠none;rw[KK TV hm];simp
 ·intro id cells hq c hc k hk;obtain⟨bx,hm⟩:=TG id cells (Mg hq) c hc k hk;show Fx bs k≠none;rw[KK TV hm];simp
 ·intro id bx b o hq hl hβ _ j hj;obtain⟨k,p,h1,h2⟩:=hL id bx b o (Mg hq) hβ j hj;rw[Nat.zero_add] at h2;exact⟨k,p,h1,h2⟩
 ·rintro i ⟨p,h1,h2⟩
  have h3:=(DE i p h1 h2).1;rw[Nat.zero_add] at h3;refine⟨?_,hβ0 _ h3⟩;have:C1 N i∈bs.map (·.1):=by rw[hb];exact List.mem_map.2 ⟨_,h3,rfl⟩
  obtain⟨⟨id,bx⟩,hm,e⟩:=List.mem_map.1 this;show Fx bs (C1 N i)≠none;rw[←e,KK TV hm];simp
 ·intro id c b o hq _ _;obtain⟨k,p,h1,h2,h3⟩:=(Lp id _ (Mg hq)).2 c rfl;rw[Nat.zero_add] at h3;exact⟨k,h3,p,h1,h2⟩
end
open Go.RowKit
def Lg (β:Bt)(l:List (Option Nat)) (j:Nat):Option (Nat × Nat):=((l[j]?).bind id).bind β
section
variable {R:Type} {r:R} {P:Program} {N:Nat} {w0:World} {X0:Hm} {Y:Nat->Prop} {β β':Bt} {s:St} {a:Act} {w w':World} {A:Nat->Prop}
def Ac6 (s:St)(l:List (Option Nat)):Prop:=∀id,some id∈l->Cv (s.hp id)
def Lv (s:St)(z:List Nat):Prop:=∀id∈z,∃f c,s.hp id=some (.ar f c)
theorem JI (h : Ci N w0 X0 Y β s a w) {shr : Bool} {t : CT} {p : PV} {K : PV -> List Nat -> List Nat -> Option R} (hk : XI shr s.hp t p K = some r) :
    ∃ c q z, K c (Option.toList q) z = some r ∧ (∀ x, c ≠ .agg x ∧ c ≠ .pbox x) ∧ GM p ∧ (∀ id, q = some id -> ∃ c, s.hp id = some (.ar false c)) ∧ Lv s z ∧
      ∀ (fz : List Nat) A u, (∀ i ∈ z, i ∈ fz) -> Lv s fz -> (∀ b, A b -> Ct (Ad s.hp fz) β Y b) -> Bs w (Ct s.hp β Y) β p u -> Fy w A (q.bind β) c u := by
  have notree : ∀ {c : PV}, Mx c -> ∀ x, c ≠ .agg x ∧ c ≠ .pbox x := fun hT x => ⟨Xb hT x, by rintro rfl; exact hT⟩
  unfold XI at hk
  cases shr <;> simp only[cond_true, cond_false] at hk
  · have tree : ∀ t', (∀ es, t' ≠ .sl es) -> (Ya t' p fun c => K c [] []) = some r -> ∃ c q z, K c (Option.toList q) z = some r ∧ (∀ x, c ≠ .agg x ∧ c ≠ .pbox x) ∧ GM p ∧ (∀ id, q = some id -> ∃ c, s.hp id = some (.ar false c)) ∧ Lv s z ∧
        ∀ (fz : List Nat) A u, (∀ i ∈ z, i ∈ fz) -> Lv s fz -> (∀ b, A b -> Ct (Ad s.hp fz) β Y b) -> Bs w (Ct s.hp β Y) β p u -> Fy w A (q.bind β) c u := by
      intro t' Hr hk
      obtain⟨c, Dw, hT, EW, hv⟩ := Mo hk
      refine⟨c, none, [], Dw, notree hT, Ra EW, by simp, (by intro i hi; cases hi), fun fz A u _ _ hA hc => Kr hT ?_⟩
      exact (hv w _ β u hc).1.step (Bv.refl _ _) (fun b _ hb => Ni (hA b hb))
    unfold Akl at hk
    cases t with
    | sl es =>
      dsimp only at hk
      split at hk
      · rename_i id es' off n
        cases hb : (Nat.beq es' es && Nat.beq off 0) <;> rw[hb] at hk
        · cases hk
        · simp only[Bool.and_eq_true] at hb
          have he := Nat.eq_of_beq_eq_true hb.1
          have ho := Nat.eq_of_beq_eq_true hb.2
          subst he ho
          simp only[cond_true] at hk
          split at hk
          · rename_i c h0
            obtain⟨hl, Dw⟩ := Aj hk
            refine⟨_, some id, [], Dw, by simp, trivial, fun i hi => by cases hi; exact⟨c, h0⟩, (by intro i hi; cases hi), fun fz A u _ _ hA hc => ?_⟩
            rcases hc with⟨h1, _, rfl, h4⟩ | ⟨b, o, x, cap, h1, h2, hx, h3, h4, h5⟩
            · exact .inl ⟨h1, rfl, by simp, h4⟩
            · have hx : x = o := by rcases hx with e | ⟨_, e⟩ <;> omega
              subst hx
              rcases h.box id _ h0 with⟨h6, _⟩ | ⟨b', o', h6, h7, h8, _⟩
              · rw[h1] at h6; cases h6
              · rw[h1] at h6
                cases h6
                refine .inr ⟨b, x, cap, h1, h2, h3, h4, h5, fun j q hq => ?_, fun j hj Nj => h8 rfl j hj Nj⟩
                rw[List.getElem?_take] at hq
                split at hq
                · obtain⟨v, hv, h9, ht⟩ := h7 j q hq
                  exact⟨v, hv, h9, ht.step (Bv.refl _ _) (fun b _ hb => Ni (hA b hb))⟩
                · cases hq
          · cases hk
      · obtain⟨z, n, c, Dw, hp⟩ := E6 hk
        obtain⟨hz, Ey⟩ := Aj Dw
        subst hz
        have hpF : GM p := by rcases hp with e | ⟨e, _⟩ <;> (rw[e]; trivial)
        refine⟨_, none, [], Ey, by simp, hpF, by simp, (by intro i hi; cases hi), fun fz A u _ _ _ hc => ?_⟩
        have hu : u = .slice none 0 0 := by
          rcases hp with rfl | ⟨rfl, _⟩
          · cases hc; rfl
          · exact As.val hc
        exact .inl ⟨rfl, rfl, rfl, none, hu⟩
    | int k => exact tree _ (by simp) hk
    | bool => exact tree _ (by simp) hk
    | str => exact tree _ (by simp) hk
    | any => exact tree _ (by simp) hk
  · obtain⟨c, m, Dw, hT, hF, hm, hv⟩ := DV h hk
    exact⟨c, none, m, Dw, notree hT, hF, by simp, hm, fun fz A u h1 h2 hA hc => Kr hT ((hv fz h1 h2 u hc).1.step (Bv.refl _ _) (fun b _ hb => hA b hb))⟩
structure AF (s:St) (β:Bt) (Y:Nat->Prop) (w:World) (cs:List PV) (l:List (Option Nat)) (z:List Nat) (ps:List PV):Prop where
 len:l.length=cs.length
 pl:cs.length=ps.length
 na:∀c∈cs,∀x,c ≠ .agg x∧c ≠ .pbox x
 fr:∀p∈ps,GM p
 own:∀id,some id∈l->∃c,s.hp id=some (.ar false c)
 row:Lv s z
 sem:∀(fz:List Nat) A us,(∀i∈z,i∈fz)->Lv s fz->(∀b,A b->Ct (Ad s.hp fz) β Y b)->Ba (Bs w (Ct s.hp β Y) β) ps us->∀own j0,(∀j,j<l.length->own (j0+j)=Lg β l j)->Eu w A own j0 cs us
theorem AF.nil:AF s β Y w [] [] [] []:=⟨rfl,rfl,by simp,by simp,by simp,(by intro i hi;cases hi),fun fz A us _ _ _ hu own j0 _=>by
 cases us with
 |nil=>trivial
 |cons u us=>exact hu.elim⟩
theorem AF.cons {c p:PV}{q:Option Nat}{z zs:List Nat}{cs ps:List PV}{l:List (Option Nat)} (Zf:∀x,c ≠ .agg x∧c ≠ .pbox x)(hF:GM p)(hq:∀id,q=some id->∃c,s.hp id=some (.ar false c)) (hz:Lv s z)
  (hv:∀(fz:List Nat) A u,(∀i∈z,i∈fz)->Lv s fz->(∀b,A b->Ct (Ad s.hp fz) β Y b)->Bs w (Ct s.hp β Y) β p u->Fy w A (q.bind β) c u) (H:AF s β Y w cs l zs ps):AF s β Y w (c::cs) (q::l) (z++zs) (p::ps):=by
 refine⟨by simp[H.len],by simp[H.pl],?_,?_,?_,?_,fun fz A us hz1 hz2 hA hu own j0 Ho=>?_⟩
 ·intro x hx;rcases List.mem_cons.1 hx with rfl|hx
  ·exact Zf
  ·exact H.na x hx
 ·intro x hx;rcases List.mem_cons.1 hx with rfl|hx
  ·exact hF
  ·exact H.fr x hx
 ·intro id Bb;rcases List.mem_cons.1 Bb with e|Bb
  ·exact hq id e.symm
  ·exact H.own id Bb
 ·intro i hi;rcases List.mem_append.1 hi with hi|hi
  ·exact hz i hi
  ·exact H.row i hi
 ·cases us with
  |nil=>exact hu.elim
  |cons u us=>
   have h0:=Ho 0 (by simp)
   rw[Nat.add_zero] at h0;refine⟨?_,H.sem fz A us (fun i hi=>hz1 i (by simp[hi])) hz2 hA hu.2 own (j0+1) fun j hj=>?_⟩
   ·rw[h0];exact hv fz A u (fun i hi=>hz1 i (by simp[hi])) hz2 hA hu.1
   ·have:=Ho (j+1) (by simp;omega)
    rw[show j0+1+j=j0+(j+1) by omega,this]
    simp[Lg]
theorem Qr (h:Ci N w0 X0 Y β s a w){shr:Bool}:∀{ts:List CT}{ps:List PV}{K:List PV->List Nat->List Nat->Option R},Yh shr s.hp ts ps K=some r ->
  ∃cs l z,K cs (l.filterMap id) z=some r∧AF s β Y w cs l z ps
 |[],[],K,hk=>⟨[],[],[],hk,AF.nil⟩
 |[],_::_,K,hk=>by cases hk
 |_::_,[],K,hk=>by cases hk
 |t::ts,p::ps,K,hk=>by
  unfold Yh at hk;obtain⟨c,q,z,Dw,Zf,hF,hq,hz,hv⟩:=JI h hk;obtain⟨cs,l,zs,Ey,H⟩:=Qr h Dw;refine⟨c::cs,q::l,z++zs,?_,AF.cons Zf hF hq hz hv H⟩;cases q<;>exact Ey
theorem AB (h:Ci N w0 X0 Y β s a w):∀{ts:List CT}{ws ps:List PV}{K:List PV->List Nat->List Nat->Option R},BN s.hp ts ws ps K=some r ->
  ∃cs l z,K cs (l.filterMap id) z=some r∧cs.length=ws.length∧AF s β Y w cs l z ps
 |[],[],[],K,hk=>⟨[],[],[],hk,rfl,AF.nil⟩
 |[],_::_,_,K,hk=>by cases hk
 |[],[],_::_,K,hk=>by cases hk
 |_::_,[],_,K,hk=>by cases hk
 |_::_,_::_,[],K,hk=>by cases hk
 |t::ts,x::ws,p::ps,K,hk=>by
  unfold BN at hk;obtain⟨c,q,z,Dw,Zf,hF,hq,hz,hv⟩:=JI h hk;obtain⟨cs,l,zs,Ey,hl,H⟩:=AB h Dw;refine⟨c::cs,q::l,z++zs,?_,by simp[hl],AF.cons Zf hF hq hz hv H⟩
  cases q<;>exact Ey
theorem TK {own:Bt}{zz j:Nat}{p:PV}{u:Value}(hp:∀x,p ≠ .agg x∧p ≠ .pbox x)(h:Eu w A own j [p] [u]):Ah3 w A own zz j p u:=by
 cases p<;>first|exact h.1|exact absurd rfl (hp _).1|exact absurd rfl (hp _).2
theorem WJ (h:Ci N w0 X0 Y β s a w){id b o:Nat}{c cs:List PV}{l:List (Option Nat)} {z:List Nat}(h0:s.hp id=some (.st c)) (hβ:β id=some (b,o)) (H:AF s β Y w cs l z c){fz:List Nat}{A:Nat->Prop}(h1:∀i∈z,i∈fz)(h2:Lv s fz)(hA:∀b,A b->Ct (Ad s.hp fz) β Y b)
  {own:Bt} {j0:Nat} (Ho:∀j,j<l.length->own (j0+j)=Lg β l j):Ah5 w A own j0 b o cs:=by
 obtain⟨b',o',Fk,Kv,LJ⟩:=h.box id _ h0;rw[hβ] at Fk;cases Fk;refine⟨c.mapIdx (fun j _=>(w.cell? ⟨b,o+j,none⟩).getD undef),H.sem fz A _ h1 h2 hA ?_ own j0 Ho,?_,fun k hk=>LJ k (by have:=H.pl;omega)⟩
 ·refine Ba.of_at (by simp) fun j p v hp hv=>?_
  obtain⟨u,hu,JU⟩:=Kv j p hp;rw[List.getElem?_mapIdx,hp,Option.map_some,hu] at hv;simp at hv;subst hv;exact JU
 ·intro k v hkv;rw[List.getElem?_mapIdx] at hkv;cases hp:c[k]? with
  |none=>rw[hp] at hkv;cases hkv
  |some p=>
   obtain⟨u,hu,JU⟩:=Kv k p hp;rw[hp,Option.map_some,hu] at hkv;simp at hkv;subst hkv;exact hu
theorem Aam (h:Ci N w0 X0 Y β s a w){shr:Bool}{t:TypeId}{p:PV}{u:Value}(hp:D8 w (Ct s.hp β Y) β p u) {K:PV->List Nat->List Nat->Option R}(hk:Ae2 P shr s.hp t p K=some r):
  ∃v l z,K v (l.filterMap id) z=some r∧l.length=plc v∧Ac6 s l∧Lv s z ∧
   ∀(fz:List Nat) A zz,(∀i∈z,i∈fz)->Lv s fz->(∀b,A b->Ct (Ad s.hp fz) β Y b)->(∀id c b o,some id∈l->s.hp id=some (.st c)->β id=some (b,o)->zz<=b) ->
    ∀own j0,(∀j,j<l.length->own (j0+j)=Lg β l j)->Ah3 w A own zz j0 v u:=by
 unfold Ae2 at hk;split at hk
 ·rename_i e he;split at hk
  ·rename_i id off;split at hk
   ·rename_i c h0;obtain⟨hof,Dw⟩:=Aj hk;have hof:=Nat.eq_of_beq_eq_true hof;subst hof;obtain⟨cs,l,z,Ey,H⟩:=Qr h Dw;obtain⟨b,o,hβ,hu⟩:=hp;refine⟨.pbox cs,some id::l,z,Ey,by simp only[plc,List.length_cons,H.len];omega,?_,H.row,fun fz A zz h1 h2 hA hz own j0 Ho=>?_⟩
    ·intro i hi;rcases List.mem_cons.1 hi with e|hi
     ·cases e;rw[h0];trivial
     ·obtain⟨c',Qx⟩:=H.own i hi;rw[Qx];trivial
    ·have h3:=Ho 0 (by simp)
     rw[Nat.add_zero] at h3;refine⟨b,o,by rw[h3];exact hβ,hz id c b o (by simp) h0 hβ,by rw[hu,Nat.add_zero],WJ h h0 hβ H h1 h2 hA fun j hj=>?_⟩
     have:=Ho (j+1) (by simp;omega)
     rw[show j0+1+j=j0+(j+1) by omega,this]
     simp[Lg]
   ·cases hk
  ·cases hk
 ·cases Fm:Bz P t<;>rw[Fm] at hk<;>simp only[cond_true,cond_false] at hk
  ·obtain⟨cs,l,z,Dw,H⟩:=Qr h hk;obtain⟨c,cs',Tn,Ey⟩:=A3 Dw;subst Tn;obtain⟨U9,Qh⟩:=C5 Ey;subst U9;have Zf:=H.na c (by simp)
   have Z1:plc c=1:=by cases c<;>first|rfl|exact absurd rfl (Zf _).1|exact absurd rfl (Zf _).2
   have hF:=H.fr p (by simp)
   refine⟨c,l,z,Qh,by rw[Z1];exact H.len,fun i hi=>?_,H.row,fun fz A zz h1 h2 hA _ own j0 Ho=>TK Zf (H.sem fz A [u] h1 h2 hA ⟨?_,trivial⟩ own j0 Ho)⟩
   ·obtain⟨c',Qx⟩:=H.own i hi;rw[Qx];trivial
   ·cases p<;>first|exact hp|exact hF.elim
  ·obtain⟨ps,FN,Dw⟩:=Gy hk;subst FN;obtain⟨cs,l,z,Ey,H⟩:=Qr h Dw;obtain⟨vs,hu,Fq⟩:=hp;refine⟨.agg cs,l,z,Ey,H.len,fun i hi=>?_,H.row,fun fz A zz h1 h2 hA _ own j0 Ho=>⟨vs,hu,H.sem fz A vs h1 h2 hA Fq own j0 Ho⟩⟩
   obtain⟨c',Qx⟩:=H.own i hi;rw[Qx];trivial
def LD (P:Program)(tmps:Array Value)(w:World)(rv:ResultVar)(u:Value):Prop:=
  (match rv with
   |.tmp t=>(pure (tmps.getD t undef):Sem Value)
   |.cell a t=>do loadVar t (←asAddr (tmps.getD a undef))).run P w=.ok u w
theorem Ag7 (h:Ci N w0 X0 Y β s a w)(t:Nat):D8 w (Ct s.hp β Y) β (s.tm t) (a.tmps.getD t undef):=by
 rcases Nat.lt_or_ge t N with h'|h'
 ·exact h.tms t h'
 ·rw[h.tmo t h'];exact As.top _
theorem YP (h:Ci N w0 X0 Y β s a w){rv:ResultVar}{K:PV->Option R}(hk:Aef P s rv K=some r):∃p u,K p=some r∧LD P a.tmps w rv u∧D8 w (Ct s.hp β Y) β p u:=by
 unfold Aef at hk;split at hk
 ·rename_i t;exact⟨_,_,hk,rfl,Ag7 h t⟩
 ·rename_i x t;obtain⟨v,ad,val,Dw,Cx,hl,hv,_⟩:=QQ h (Ag7 h x) hk;refine⟨v,val,Dw,?_,hv⟩;unfold LD;simp[Cx,asAddr,hl]
theorem Vx {l l':List (Option Nat)} {j:Nat}(h:j<l.length):Lg β (l++l') j=Lg β l j:=by
 unfold Lg;rw[List.getElem?_append_left h]
theorem U8 {l l':List (Option Nat)} {j:Nat}:Lg β (l++l') (l.length+j)=Lg β l' j:=by
 unfold Lg;rw[List.getElem?_append_right (by omega),Nat.add_sub_cancel_left]
theorem DS (h:Ci N w0 X0 Y β s a w){shr:Bool}:∀{rs:List ResultVar}{ts:List TypeId}{K:List PV->List Nat->List Nat->Option R},KI P shr s rs ts K=some r ->
  ∃vs l z us,K vs (l.filterMap id) z=some r∧Ba (LD P a.tmps w) rs us∧l.length=Jk vs∧Ac6 s l∧Lv s z ∧
   ∀(fz:List Nat) A zz,(∀i∈z,i∈fz)->Lv s fz->(∀b,A b->Ct (Ad s.hp fz) β Y b)->(∀id c b o,some id∈l->s.hp id=some (.st c)->β id=some (b,o)->zz<=b) ->
    ∀own j0,(∀j,j<l.length->own (j0+j)=Lg β l j)->PX w A own zz j0 vs us
 |[],[],K,hk=>⟨[],[],[],[],hk,trivial,rfl,(by intro id Bb;cases Bb),(by intro id Bb;cases Bb),fun _ _ _ _ _ _ _ _ _ _=>trivial⟩
 |[],_::_,K,hk=>by cases hk
 |_::_,[],K,hk=>by cases hk
 |rv::rs,t::ts,K,hk=>by
  unfold KI at hk;obtain⟨p,u,Dw,hu,hp⟩:=YP h hk;obtain⟨v,l,z,Ey,hl,hL,hz,hv⟩:=Aam h hp Dw;obtain⟨vs,l',z',us,Qh,XP,Jq,hL',hz',Fq⟩:=DS h Ey;refine⟨v::vs,l++l',z++z',u::us,?_,⟨hu,XP⟩,by simp only[List.length_append,Jk,List.map_cons,List.sum_cons,hl];rw[Jq];rfl,?_,?_,fun fz A zz h1 h2 hA Lu own j0 Ho=>⟨?_,?_⟩⟩
  ·rw[List.filterMap_append];exact Qh
  ·intro id Bb;rcases List.mem_append.1 Bb with Bb|Bb
   ·exact hL id Bb
   ·exact hL' id Bb
  ·intro id Bb;rcases List.mem_append.1 Bb with Bb|Bb
   ·exact hz id Bb
   ·exact hz' id Bb
  ·exact hv fz A zz (fun i hi=>h1 i (by simp[hi])) h2 hA (fun id c b o hi=>Lu id c b o (by simp[hi])) own j0 fun j hj=>by rw[Ho j (by simp;omega),Vx hj]
  ·refine Fq fz A zz (fun i hi=>h1 i (by simp[hi])) h2 hA (fun id c b o hi=>Lu id c b o (by simp[hi])) own (j0+plc v) fun j hj=>?_
   rw[←hl,Nat.add_assoc,Ho (l.length+j) (by simp;omega),U8]
theorem Rk (h:Ci N w0 X0 Y β s a w){bt:Xn}(hpt:∀i,X0.pt i=bt i 0):∀{ts:List TypeId}{i:Nat}{ps:List PV}{K:List (List PV)->List Nat->List Nat->List Nat->Option R},Yr P N s.hp i ts ps K=some r ->
  (∀k p,ps[k]?=some p->Wl p=true->X0.pn (i+k)) ->
  ∃os l z q,K os (l.filterMap id) z q=some r∧(∀id,some id∈l->∃c,s.hp id=some (.ar false c))∧Lv s z∧(∀id∈q,Cv (s.hp id))∧(∀k p,ps[k]?=some p->Wl p=true->C1 N (i+k)∈q) ∧
   ∀(fz:List Nat) A,(∀i∈z,i∈fz)->Lv s fz->(∀i∈q,i ∉ fz)->(∀b,A b->Ct (Ad s.hp fz) β Y b) ->
    ∀own j0,(∀j,j<l.length->own (j0+j)=Lg β l j)->G4 w A own bt j0 i ps os
 |[],i,ps,K,hk,_=>by
  obtain⟨FN,hk⟩:=C5 hk;subst FN;exact⟨[],[],[],[],hk,by simp,(by intro id Bb;cases Bb),by simp,by simp,fun _ _ _ _ _ _ _ _ _=>rfl⟩
 |t::ts,i,ps,K,hk,hpn=>by
  unfold Yr at hk;obtain⟨p,ps',FN,Dw⟩:=A3 hk;subst FN
  have Ani:∀k p,ps'[k]?=some p->Wl p=true->X0.pn (i+1+k):=fun k p' h1 h2=>by
   have:=hpn (k+1) p' (by simpa using h1) h2
   rw[show i+1+k=i+(k+1) by omega]
   exact this
  have hpq:∀{q:List Nat},(Wl p=true->C1 N i∈q)->(∀k p,ps'[k]?=some p->Wl p=true->C1 N (i+1+k)∈q)->∀k p',(p::ps')[k]?=some p'->Wl p'=true->C1 N (i+k)∈q:=by
   intro q h1 h2 k p' h3 h4;cases k with
   |zero=>
    simp only[List.getElem?_cons_zero,Option.some.injEq] at h3;subst h3;exact h1 h4
   |succ k=>
    have:=h2 k p' (by simpa using h3) h4
    rw[show i+1+k=i+(k+1) by omega] at this
    exact this
  split at Dw
  ·rename_i ws;obtain⟨e,he,Ey⟩:=B3 Dw;split at Ey
   ·rename_i c h0;obtain⟨cs,l,z,Qh,On,H⟩:=AB h Ey;obtain⟨os,l',z',q,Zg,hL',hz',Ff,hpi,hv⟩:=Rk h hpt Qh Ani;refine⟨cs::os,l++l',z++z',C1 N i::q,by rw[List.filterMap_append];exact Zg,?_,?_,?_,hpq (fun _=>List.mem_cons_self) (fun k p h1 h2=>List.mem_cons_of_mem _ (hpi k p h1 h2)),fun fz A h1 h2 h3 hA own j0 Ho=>?_⟩
    ·intro id Bb;rcases List.mem_append.1 Bb with Bb|Bb
     ·exact H.own id Bb
     ·exact hL' id Bb
    ·intro id Bb;rcases List.mem_append.1 Bb with Bb|Bb
     ·exact H.row id Bb
     ·exact hz' id Bb
    ·intro id Bb;rcases List.mem_cons.1 Bb with rfl|Bb
     ·rw[h0];trivial
     ·exact Ff id Bb
    ·have DE:=(h.pin i (by have:=hpn 0 _ rfl rfl;rwa [Nat.add_zero] at this)).2
     obtain⟨b,o,Fk,_,_⟩:=h.box _ _ h0;rw[Fk,hpt] at DE;refine⟨⟨b,o,DE.symm,On,WJ h h0 Fk H (fun i hi=>h1 i (by simp[hi])) h2 hA fun j hj=>by rw[Ho j (by simp;omega),Vx hj]⟩,?_⟩
     refine hv fz A (fun i hi=>h1 i (by simp[hi])) h2 (fun i hi=>h3 i (by simp[hi])) hA own (j0+cs.length) fun j hj=>?_
     rw[←H.len,Nat.add_assoc,Ho (l.length+j) (by simp;omega),U8]
   ·cases Ey
  ·split at Dw
   ·rename_i c h0;obtain⟨os,l',z',q,Zg,hL',hz',Ff,hpi,hv⟩:=Rk h hpt Dw Ani;refine⟨c::os,l',z',C1 N i::q,Zg,hL',hz',?_,hpq (fun _=>List.mem_cons_self) (fun k p h1 h2=>List.mem_cons_of_mem _ (hpi k p h1 h2)),fun fz A h1 h2 h3 hA own j0 Ho=>⟨?_,hv fz A h1 h2 (fun i hi=>h3 i (by simp[hi])) hA own j0 Ho⟩⟩
    ·intro id Bb;rcases List.mem_cons.1 Bb with rfl|Bb
     ·rw[h0];trivial
     ·exact Ff id Bb
    ·have DE:=(h.pin i (by have:=hpn 0 _ rfl rfl;rwa [Nat.add_zero] at this)).2
     rw[hpt] at DE;rcases h.box _ _ h0 with⟨h4,h5⟩|⟨b,o,h4,h5,h6,_⟩
     ·exact .inl ⟨by rw[←DE];exact h4,h5⟩
     ·exact .inr ⟨b,o,by rw[←DE];exact h4,h5.weak (fun b _ hb=>Ni (hA b hb)),h6 rfl⟩
   ·cases Dw
  ·rename_i FC RV;have hnL:Wl p=false:=by cases p<;>first|rfl|exact absurd rfl (FC _)|exact absurd rfl (RV _)
   obtain⟨os,l',z',q,Zg,hL',hz',Ff,hpi,hv⟩:=Rk h hpt Dw Ani;refine⟨os,l',z',q,Zg,hL',hz',Ff,hpq (fun e=>by rw[hnL] at e;cases e) hpi,fun fz A h1 h2 h3 hA own j0 Ho=>?_⟩
   have:=hv fz A h1 h2 h3 hA own j0 Ho;cases p<;>first|exact this|cases hnL
theorem RF {f:ResultVar->Sem Value}:∀{rs:List ResultVar}{us:List Value},Ba (fun rv u=>(f rv).run P w=.ok u w) rs us->(rs.mapM f).run P w=.ok us w
 |[],[],_=>by simp
 |[],_::_,h=>h.elim
 |_::_,[],h=>h.elim
 |rv::rs,u::us,h=>by
  rw[List.mapM_cons];simp[h.1,RF h.2]
theorem PK {fn:Func}{us:List Value}(h:Ba (LD P a.tmps w) fn.results.toList us):(results fn a.tmps).run P w=.ok (En us) w:=by
 unfold results;rw[Array.mapM_eq_mapM_toList];simp only[map_eq_pure_bind,bind_assoc,pure_bind,Sem.run_bind];refine Eq.trans (congrArg (fun x=>Result.andThen x _) (RF h)) ?_
 simp only[Result.andThen_ok,Sem.run_pure]
 congr 1
 clear h
 match us with
 |[]=>rfl
 |[u]=>rfl
 |u::v::us=>exact dif_neg (by simp)
theorem PU:∀{l:List (Option Nat)},Du (l.filterMap id)=true->∀{j j' i:Nat},l[j]?=some (some i)->l[j']?=some (some i)->j=j'
 |[],_,j,j',i,h,_=>by simp at h
 |q::l,hn,j,j',i,h,h'=>by
  have hn':Du (l.filterMap id)=true:=by
   cases q with
   |none=>exact hn
   |some x=>
    simp only[List.filterMap_cons,id_eq,Du,Bool.and_eq_true] at hn;exact hn.2
  have hq:∀(x k:Nat),q=some x->l[k]?≠some (some x):=by
   intro x k e hk;subst e;simp only[List.filterMap_cons,id_eq,Du,Bool.and_eq_true,Bool.not_eq_true'] at hn;exact Qk hn.1 (List.mem_filterMap.2 ⟨some x,List.mem_of_getElem? hk,rfl⟩)
  cases j with
  |zero=>
   cases j' with
   |zero=>rfl
   |succ k'=>
    simp at h h';exact absurd h' (hq i k' h)
  |succ k=>
   cases j' with
   |zero=>
    simp at h h';exact absurd h (hq i k h')
   |succ k'=>
    simp at h h';rw[PU hn' h h']
theorem IL {C:Gt}{f:FuncId}{fn:Func}{args:List PV}{res:A2}{w:World}{Y:Nat->Prop}{bt:Xn}{us:List Value}(Uq:Ins w Y bt args us){h8:∀k p,args[k]?=some p->Wl p=true->k<8}
  {s':St} {a':Act} {w':World} {β':Bt} (hr:ZF C P f fn args s'=some res) (h:Ci fn.ntmps w (VC bt args h8) Y β' s' a' w'):
  a'.defers=[]∧∃v,(results fn a'.tmps).run P w'=.ok v w'∧∃vs own,Ending.returned v=.returned (En vs)∧VM w w' Y bt args own res vs:=by
 unfold ZF at hr;obtain⟨vs,l,z,us',hr1,XP,OO,hL,hz,hv⟩:=DS h hr;obtain⟨os,l',z',q,hr2,hL',hz',hq,hpi,Nl⟩:=Rk h (bt:=bt) (fun _=>rfl) hr1 (fun k p h1 h2=>by rw[Nat.zero_add];exact⟨p,h1,h2⟩)
 obtain⟨hnd,hr3⟩:=Aj hr2;cases hr3;simp only[Bool.and_eq_true] at hnd;obtain⟨hnd,Apl⟩:=hnd;obtain⟨FC,RV,hn3⟩:=H9 hnd
 have Ry:∀i∈z++z',i ∉ (l.filterMap id++l'.filterMap id)++q:=by
  intro i hi Mh;have:=List.all_eq_true.1 Apl i hi;have h2:((l.filterMap id++l'.filterMap id)++q).any (Nat.beq i)=true:=List.any_eq_true.2 ⟨i,Mh,Nat.beq_refl i⟩;rw[h2] at this;cases this
 have YY:Lv s' (z++z'):=by
  intro i hi;rcases List.mem_append.1 hi with hi|hi
  ·exact hz i hi
  ·exact hz' i hi
 refine⟨h.dfr,En us',PK XP,us',Lg β' (l++l'),rfl,?_⟩;have Btc:Du ((l++l').filterMap id)=true:=by rw[List.filterMap_append];exact FC
 have Ho:∀j b o,Lg β' (l++l') j=some (b,o)->∃id,(l++l')[j]?=some (some id)∧β' id=some (b,o):=by
  intro j b o hj;unfold Lg at hj;cases hlj:(l++l')[j]? with
  |none=>rw[hlj] at hj;cases hj
  |some q=>
   cases q with
   |none=>rw[hlj] at hj;cases hj
   |some id=>
    rw[hlj] at hj;exact⟨id,rfl,hj⟩
 have Ko:∀(j i:Nat),(l++l')[j]?=some (some i)->i∈l.filterMap id++l'.filterMap id:=by
  intro j i hj;rw[←List.filterMap_append];exact List.mem_filterMap.2 ⟨some i,List.mem_of_getElem? hj,rfl⟩
 have F5:∀(j i:Nat),(l++l')[j]?=some (some i)->Cv (s'.hp i):=by
  intro j i hj;rcases List.mem_append.1 (List.mem_of_getElem? hj) with Mh|Mh
  ·exact hL i Mh
  ·obtain⟨c,hc⟩:=hL' i Mh;rw[hc];trivial
 have Alk:∀i,i∈(l.filterMap id++l'.filterMap id)++q->Ad s'.hp (z++z') i=s'.hp i:=by
  intro i hi;rw[Bq,if_neg (fun Mh=>Ry i Mh hi)]
 have Akq:∀i b o,bt i 0=some (b,o)->C1 fn.ntmps i∈q∧Cv (s'.hp (C1 fn.ntmps i))∧β' (C1 fn.ntmps i)=some (b,o):=by
  intro i b o PY;obtain⟨p,h1,h2⟩:=Uq.l0 i _ PY;have h3:=hpi i p h1 h2;rw[Nat.zero_add] at h3;exact⟨h3,hq _ h3,(h.pin i ⟨p,h1,h2⟩).2.trans PY⟩
 have hAO:∀b,Ns bt (Lg β' (l++l')) Y b->Ct (Ad s'.hp (z++z')) β' Y b:=by
  rintro b (⟨j,o,hj⟩|⟨i,o,PY⟩|hY)
  ·obtain⟨id,h1,h2⟩:=Ho j b o hj;refine .inl ⟨id,o,?_,h2⟩;rw[Alk id (List.mem_append.2 (.inl (Ko j id h1)))];exact F5 j id h1
  ·obtain⟨h1,h2,h3⟩:=Akq i b o PY;refine .inl ⟨_,o,?_,h3⟩;rw[Alk _ (List.mem_append.2 (.inr h1))];exact h2
  ·exact .inr hY
 have Vq:∀(j id b o:Nat),(l++l')[j]?=some (some id)->β' id=some (b,o)->b<w.heap.size->∃i k o',bt i (k+1)=some (b,o'):=by
  intro j id b o hj hβ Bp;rcases h.ownd b ⟨id,o,F5 j id hj,hβ⟩ with⟨i,k,o',PY⟩|hge
  ·cases k with
   |zero=>
    obtain⟨h1,h2,h3⟩:=Akq i b o' PY;have:=h.inj id _ b o o' (F5 j id hj) h2 hβ h3;subst this;exact absurd h1 (hn3 _ (Ko j _ hj))
   |succ k=>exact⟨i,k,o',PY⟩
  ·omega
 refine⟨h.fr.os,h.fr.tape,h.fr.output,h.fr.step,h.fr.rng,?_,?_,?_,?_⟩
 ·refine hv (z++z') _ _ (fun i hi=>List.mem_append.2 (.inl hi)) YY hAO (fun id c b o hi hc hβ=>?_) _ 0 (fun j hj=>by rw[Nat.zero_add,Vx hj])
  rcases Nat.lt_or_ge b w.heap.size with Bp|hge
  ·obtain⟨k,Jp,p,h1,h2⟩:=h.stp id c b o hc hβ Bp;have h3:=hpi k p h1 h2;rw[Nat.zero_add,←Jp] at h3;obtain⟨j,hj⟩:=List.mem_iff_getElem?.1 hi;refine absurd h3 (hn3 id ?_);exact List.mem_append.2 (.inl (List.mem_filterMap.2 ⟨some id,hi,rfl⟩))
  ·exact hge
 ·refine Nl (z++z') _ (fun i hi=>List.mem_append.2 (.inr hi)) YY (fun i hi Mh=>Ry i Mh (List.mem_append.2 (.inr hi))) hAO _ _ (fun j hj=>?_)
  rw[←OO,U8]
 ·intro j b o hj;obtain⟨id,h1,h2⟩:=Ho j b o hj;refine⟨h.blt id b o (Cn (F5 j id h1)) h2,fun Bp=>⟨Vq j id b o h1 h2 Bp,fun x hx=>?_⟩⟩
  cases Lp:s'.hp id with
  |none=>have:=F5 j id h1;rw[Lp] at this;exact this.elim
  |some bx=>
   have DU:=F5 j id h1;rw[Lp] at DU;cases bx with
   |st c=>
    obtain⟨k,Jp,p,h3,h4⟩:=h.stp id c b o Lp h2 Bp;have h5:=hpi k p h3 h4;rw[Nat.zero_add,←Jp] at h5;exact absurd h5 (hn3 _ (Ko j _ h1))
   |ar fz c=>exact h.rngB id _ b o Lp DU h2 Bp x hx
   |mv=>exact DU.elim
 ·intro j j' b o o' hj Nj;obtain⟨id,h1,h2⟩:=Ho j b o hj;obtain⟨id',Tf,RS⟩:=Ho j' b o' Nj;have:=h.inj id id' b o o' (F5 j id h1) (F5 j' id' Tf) h2 RS;subst this;exact PU Btc h1 Tf
theorem SA {G:Glo}(Jz:NoNG P)(hm:P.follows .mixedOrders=true){C:Gt}{fu:Nat}{call:Ai}(Dt:∀f args res,call f args=some res->Dn G P f args res){f:FuncId}{fn:Func}{c:Code}(hf:P.funcs[f]?=some fn) (hb:fn.body=some c)
  {args:List PV} {res:A2} (hk:Aox C P fu call f fn c args=some res):Dn G P f args res:=by
 refine⟨⟨fn,hf,by rw[hb];rfl⟩,fun w Y bt us Uq hG hGY=>?_⟩
 unfold Aox at hk;obtain⟨tms,bs,Dw,Lu⟩:=ZJ Uq hk;obtain⟨Fk,Ey⟩:=Aj Dw;simp only[Bool.and_eq_true] at Fk
 have Em:us.length<=fn.ntmps:=by
  rw[←Uq.args.len];exact Nat.le_of_ble_eq_true Fk.1
 obtain⟨h8,β0,hs⟩:=Lu Fk.2 Em;refine calls_of_wp hf hb ?_;have hE:PZ P G w (VC bt args h8):=⟨Jz,fun w' hfr=>G.stable w w' (fun b hb Bp=>hfr.step.keep b Bp (hGY b hb).2) hG,hGY⟩
 refine TC hE Dt hm c hs Ey (fun s' a' w' β' hr h=>IL Uq hr h) (fun id s' a' w' β' hr h=>by cases hr) (fun s' a' w' β' hr h=>IL Uq hr h)
def ExtOk (G:Glo)(P:Program)(C:Gt):Prop:=∀f g args res,C.ext f=some g->g args=some res->Dn G P f args res
theorem Sm {G:Glo}(Jz:NoNG P)(hm:P.follows .mixedOrders=true){C:Gt}(hx:ExtOk G P C){fu:Nat}:∀(d:Nat)(f:FuncId)(args:List PV)(res:A2),Ag C P fu d f args=some res->Dn G P f args res
 |0,_,_,_,h=>by cases h
 |d+1,f,args,res,h=>by
  unfold Ag at h;split at h
  ·rename_i g hg;exact hx f g args res hg h
  ·split at h
   ·cases h
   ·rename_i fn hf;split at h
    ·cases h
    ·rename_i c hb;exact SA Jz hm (Sm Jz hm hx d) hf hb h
end
open Go.ChangeShapes Go.WideShapes Go.ChangeAt Go.RowKit Go.Deep
def LE (P:Program):List Field->Nat->Nat->Bool
 |[],i,n=>Nat.beq i n
 |f::r,i,n=>Nat.beq f.offset i&&LE P r (i+P.cellsOf f.type) n
def Mn (P:Program):Nat->TypeId->Bool
 |0,_=>false
 |d+1,t=>
  match P.underlying t with
  |some .bool=>true
  |some (.int _)=>true
  |some .string=>true
  |some (.slice e)=>Mn P d e&&Nat.blt 0 (P.cellsOf e)
  |some (.struct fs)=>LE P fs.toList 0 (P.cellsOf t)&&fs.toList.all fun f=>Mn P d f.type
  |some (.array n e)=>Nat.beq (P.cellsOf t) (n*P.cellsOf e)&&Mn P d e
  |_=>false
def WT (P:Program):Nat->TypeId->List PV->Prop
 |0,_,_=>False
 |d+1,t,ps=>
  match P.underlying t with
  |some .bool=>∃b,ps=[.sc (.bool b)]
  |some (.int k)=>∃n,ps=[.sc (.int k n)]∧(Lit.int k n).wf=true
  |some .string=>∃s:ByteArray,ps=[.sc (.string s)]∧s.size<=maxLen
  |some (.slice e)=>∃rows:List (List PV),ps=[.lst false (P.cellsOf e) rows.length rows.flatten]∧rows.length<=maxLen∧∀r∈rows,r.length=P.cellsOf e∧WT P d e r
  |some (.struct fs)=>∃rows:List (List PV),ps=rows.flatten∧Ba (fun f r=>WT P d f.type r) fs.toList rows
  |some (.array n e)=>∃rows:List (List PV),ps=rows.flatten∧rows.length=n∧∀r∈rows,r.length=P.cellsOf e∧WT P d e r
  |_=>False
def WTv (P:Program)(t:TypeId)(p:PV):Prop:=
 match Bz P t with
 |true=>∃ps,p=.agg ps∧WT P 12 t ps
 |false=>WT P 12 t [p]
section
variable {P:Program} {d:Nat} {t e:TypeId} {ps:List PV}
theorem Aj7 (hu:P.underlying t=some .bool):WT P (d+1) t ps↔∃b,ps=[.sc (.bool b)]:=by
 show (match P.underlying t with|some .bool=>_|some (.int k)=>_|some .string=>_|some (.slice e)=>_|some (.struct fs)=>_|some (.array n e)=>_|_=>_)↔_
 rw[hu]
theorem Agf {k:IntKind}(hu:P.underlying t=some (.int k)):WT P (d+1) t ps↔∃n,ps=[.sc (.int k n)]∧(Lit.int k n).wf=true:=by
 show (match P.underlying t with|some .bool=>_|some (.int k)=>_|some .string=>_|some (.slice e)=>_|some (.struct fs)=>_|some (.array n e)=>_|_=>_)↔_
 rw[hu]
theorem Abi (hu:P.underlying t=some .string):WT P (d+1) t ps↔∃s:ByteArray,ps=[.sc (.string s)]∧s.size<=maxLen:=by
 show (match P.underlying t with|some .bool=>_|some (.int k)=>_|some .string=>_|some (.slice e)=>_|some (.struct fs)=>_|some (.array n e)=>_|_=>_)↔_
 rw[hu]
theorem OJ (hu:P.underlying t=some (.slice e)):WT P (d+1) t ps↔∃rows:List (List PV),ps=[.lst false (P.cellsOf e) rows.length rows.flatten]∧rows.length<=maxLen∧∀r∈rows,r.length=P.cellsOf e∧WT P d e r:=by
 show (match P.underlying t with|some .bool=>_|some (.int k)=>_|some .string=>_|some (.slice e)=>_|some (.struct fs)=>_|some (.array n e)=>_|_=>_)↔_
 rw[hu]
theorem ZG {fs:Array Field}(hu:P.underlying t=some (.struct fs)):WT P (d+1) t ps↔∃rows:List (List PV),ps=rows.flatten∧Ba (fun f r=>WT P d f.type r) fs.toList rows:=by
 show (match P.underlying t with|some .bool=>_|some (.int k)=>_|some .string=>_|some (.slice e)=>_|some (.struct fs)=>_|some (.array n e)=>_|_=>_)↔_
 rw[hu]
theorem Acj {n:Nat}(hu:P.underlying t=some (.array n e)):WT P (d+1) t ps↔∃rows:List (List PV),ps=rows.flatten∧rows.length=n∧∀r∈rows,r.length=P.cellsOf e∧WT P d e r:=by
 show (match P.underlying t with|some .bool=>_|some (.int k)=>_|some .string=>_|some (.slice e)=>_|some (.struct fs)=>_|some (.array n e)=>_|_=>_)↔_
 rw[hu]
end
inductive Ki where
 |bool
 |int (k:IntKind)
 |str
 |sl (e:TypeId)
 |st (ts:List TypeId)
 |ar (n:Nat) (e:TypeId)
 |no
def Qn (P:Program)(t:TypeId):Ki:=
 match P.underlying t with
 |some .bool=>.bool
 |some (.int k)=>.int k
 |some .string=>.str
 |some (.slice e)=>.sl e
 |some (.struct fs)=>.st (fs.toList.map (·.type))
 |some (.array n e)=>.ar n e
 |_=>.no
section
variable {P:Program} {d:Nat} {t e:TypeId} {ps:List PV} {p:PV}
theorem Ba.cons_inv {α β:Type}{R:α->β->Prop}{a:α}{zs:List α}:∀{rs:List β},Ba R (a::zs) rs->∃r rs',rs=r::rs'∧R a r∧Ba R zs rs'
 |[],h=>h.elim
 |r::rs,h=>⟨r,rs,rfl,h.1,h.2⟩
theorem Ba.nil_inv {α β:Type}{R:α->β->Prop}:∀{rs:List β},Ba R ([]:List α) rs->rs=[]
 |[],_=>rfl
 |_::_,h=>h.elim
theorem Agp {k:IntKind}(hk:Qn P t=.int k)(h:WT P d t ps):∃n,ps=[.sc (.int k n)]∧(Lit.int k n).wf=true:=by
 cases d with
 |zero=>exact h.elim
 |succ d=>
 unfold Qn at hk;split at hk<;>first|cases hk|skip
 rename_i hu;exact (Agf hu).1 h
theorem A1s (hk:Qn P t=.sl e)(h:WT P d t ps):∃rows:List (List PV),ps=[.lst false (P.cellsOf e) rows.length rows.flatten]∧rows.length<=maxLen∧∀r∈rows,r.length=P.cellsOf e∧WT P (d-1) e r:=by
 cases d with
 |zero=>exact h.elim
 |succ d=>
 rw[Nat.add_sub_cancel];unfold Qn at hk;split at hk<;>first|cases hk|skip
 rename_i hu;exact (OJ hu).1 h
theorem VO (hk:Bz P t=false)(h:WTv P t p):WT P 12 t [p]:=by
 unfold WTv at h;rw[hk] at h;exact h
theorem Akd {k:IntKind}(ha:Bz P t=false)(hk:Qn P t=.int k)(h:WTv P t p):∃n,p=.sc (.int k n)∧(Lit.int k n).wf=true:=by
 obtain⟨b,e,h⟩:=Agp hk (VO ha h);exact⟨b,by injection e,h⟩
theorem Z8 {α:Type}(f:α->List PV)(Q:α->Prop):∀{rows:List (List PV)},(∀r∈rows,∃x,r=f x∧Q x)->∃xs:List α,rows.flatten=xs.flatMap f∧rows.length=xs.length∧∀x∈xs,Q x
 |[],_=>⟨[],rfl,rfl,by simp⟩
 |r::rows,h=>by
  obtain⟨x,h1,h2⟩:=h r (by simp)
  obtain⟨xs,h3,h4,h5⟩:=Z8 (rows:=rows) f Q fun r hr=>h r (by simp[hr])
  refine⟨x::xs,by simp[h1,h3],by simp[h4],fun y hy=>?_⟩
  rcases List.mem_cons.1 hy with rfl|hy
  ·exact h2
  ·exact h5 y hy
end
abbrev No:Nat->Prop:=fun _=>False
section
variable {H:Type} {enc:TypeId × Value->H} {P:Program} {w:World} {base:Nat} {held:Bool}
theorem Ba.flat {α β:Type}{R:α->β->Prop}:∀{l:List Nat}{f:Nat->List α}{g:Nat->List β},(∀i∈l,Ba R (f i) (g i))->Ba R (l.map f).flatten (l.map g).flatten
 |[],_,_,_=>trivial
 |i::l,f,g,h=>by
  simp only[List.map_cons,List.flatten_cons];exact (h i (by simp)).app (Ba.flat fun j hj=>h j (by simp[hj]))
theorem Aak {a:Addr}{v:Value}(h:w.cell? a=some v):a.spot=none∧a.block<w.heap.size:=by
 unfold World.cell? at h;split at h
 ·rename_i c t f e;refine⟨?_,?_⟩
  ·cases hs:a.spot with
   |none=>rfl
   |some x=>rw[hs] at h;simp at h
  ·rcases Nat.lt_or_ge a.block w.heap.size with h1|h1
   ·exact h1
   ·rw[Array.getElem?_eq_none h1] at e;cases e
 ·cases h
theorem CZ {α:Type}{g:Nat->List α}{es:Nat}:∀{n:Nat},(∀i,i<n->(g i).length=es)->((List.range n).map g).flatten.length=n*es
 |0,_=>by simp
 |n+1,h=>by
  rw[List.range_succ,List.map_append,List.flatten_append,List.length_append,CZ (fun i hi=>h i (by omega))]
  simp[h n (by omega),Nat.succ_mul]
theorem EY {a:Addr}{g:Nat->List Value}{es:Nat}:∀{n:Nat},(∀i,i<n->(g i).length=es)->(∀i,i<n->∀k,k<es->w.cell? (a.add (i*es+k))=(g i)[k]?) ->
  ∀j,j<n*es->w.cell? (a.add j)=(((List.range n).map g).flatten)[j]?
 |0,_,_,j,hj=>by omega
 |n+1,hl,hc,j,hj=>by
  have HZ:=CZ (fun i (hi:i<n)=>hl i (by omega))
  rw[List.range_succ,List.map_append,List.flatten_append,List.getElem?_append,HZ];rw[Nat.succ_mul] at hj;split
  ·rename_i h1;exact EY (fun i hi=>hl i (by omega)) (fun i hi=>hc i (by omega)) j h1
  ·rename_i h1;have:=hc n (by omega) (j-n*es) (by omega)
   rw[show n*es+(j-n*es)=j by omega] at this
   simpa using this
abbrev TR (w:World)(c:PV)(v:Value):Prop:=(Mx c∧As w No c v)∧v.oneCell'=true
theorem Zi {d:Nat}{cs:List Value}{n:Nat}(hn:cs.length=n):∀(l:List Field)(i:Nat),LE P l i n=true ->
  (∀f∈l,∃ps,WT P d f.type ps∧Ba (TR w) ps ((cs.drop f.offset).take (P.cellsOf f.type)))->∃rows:List (List PV),Ba (fun f r=>WT P d f.type r) l rows∧Ba (TR w) rows.flatten (cs.drop i)
 |[],i,ho,_=>by
  have:=Nat.eq_of_beq_eq_true ho;refine⟨[],trivial,?_⟩;rw[List.drop_of_length_le (by omega)]
  trivial
 |f::l,i,ho,h=>by
  simp only[LE,Bool.and_eq_true] at ho;have ho1:=Nat.eq_of_beq_eq_true ho.1;obtain⟨ps,h1,h2⟩:=h f (by simp)
  obtain⟨rows,h3,h4⟩:=Zi hn l _ ho.2 fun g hg=>h g (by simp[hg])
  refine⟨ps::rows,⟨h1,h3⟩,?_⟩;rw[ho1] at h2;have:cs.drop i=(cs.drop i).take (P.cellsOf f.type)++cs.drop (i+P.cellsOf f.type):=by rw[←List.drop_drop];exact (List.take_append_drop _ _).symm
  rw[this,List.flatten_cons];exact h2.app h4
theorem DR {d:Nat}{e:TypeId}{cs:List Value}{k:Nat}:∀(n:Nat),n*k<=cs.length ->
  (∀i,i<n->∃ps,(ps.length=k∧WT P d e ps)∧Ba (TR w) ps ((cs.drop (i*k)).take k))->∃rows:List (List PV),rows.length=n∧(∀r∈rows,r.length=k∧WT P d e r)∧Ba (TR w) rows.flatten (cs.take (n*k))
 |0,_,_=>⟨[],rfl,by simp,by simp[Ba]⟩
 |n+1,hl,h=>by
  rw[Nat.succ_mul] at hl;obtain⟨rows,h1,h2,h3⟩:=DR n (by omega) fun i hi=>h i (by omega)
  obtain⟨ps,h4,h5⟩:=h n (by omega)
  refine⟨rows++[ps],by simp[h1],?_,?_⟩
  ·intro r hr;rcases List.mem_append.1 hr with hr|hr
   ·exact h2 r hr
   ·rw[List.mem_singleton.1 hr];exact h4
  ·rw[List.flatten_append,Nat.succ_mul,List.take_add];refine h3.app ?_
   simpa using h5
theorem Ti:∀(d:Nat)(t:TypeId),Mn P d t=true->∀(fuel:Nat)(cs:List Value)(x:DataW H × List MemPlace),DataW.trod enc P w base (fun _=>true) held fuel t cs=some x ->
  ∃ps,WT P d t ps∧Ba (TR w) ps cs
 |0,_,h,_,_,_,_=>by cases h
 |d+1,t,hp,fuel,cs,x,h=>by
  unfold Mn at hp;split at hp
  ·rename_i hu;obtain⟨b,rfl,_⟩:=DataW.trod_bool hu h;simp only[Aj7 hu];exact⟨[.sc (.bool b)],⟨b,rfl⟩,⟨⟨trivial,As.sc _⟩,rfl⟩,trivial⟩
  ·rename_i k hu;obtain⟨n,rfl,_,hw⟩:=DataW.trod_int hu h;simp only[Agf hu];exact⟨[.sc (.int k n)],⟨n,rfl,hw⟩,⟨⟨trivial,As.sc _⟩,rfl⟩,trivial⟩
  ·rename_i hu;obtain⟨s,rfl,_,hw⟩:=DataW.trod_string hu h;simp only[Abi hu];exact⟨[.sc (.string s)],⟨s,rfl,hw⟩,⟨⟨trivial,As.sc _⟩,rfl⟩,trivial⟩
  ·rename_i e hu;simp only[Bool.and_eq_true] at hp;have Vy:0<P.cellsOf e:=Nat.lt_of_succ_le (Nat.le_of_ble_eq_true hp.2);simp only[OJ hu];rcases open_slice hu h with⟨rfl,_⟩|⟨a,len,cap,m,n,D,Pl,rfl,_,hl,hm,hmm,_,hi⟩
   ·exact⟨[.lst false (P.cellsOf e) 0 []],⟨[],by simp,by simp,by simp⟩,⟨⟨trivial,As.lnil _ _⟩,rfl⟩,trivial⟩
   ·simp only[if_true] at hmm;subst hmm
    have FM:∀i,i<len->∃q:List PV × List Value,(q.2.length=P.cellsOf e∧(∀k,k<P.cellsOf e->w.cell? (a.add (i*P.cellsOf e+k))=q.2[k]?))∧WT P d e q.1∧Ba (TR w) q.1 q.2:=by
     intro i Bp;obtain⟨cs',hc,ht⟩:=hi i (by omega)
     obtain⟨_,On,hat⟩:=World.cells?_some hc;obtain⟨ps,h1,h2⟩:=Ti d e hp.1 _ _ _ ht;exact⟨(ps,cs'),⟨On,fun k hk=>by rw[←Pv.add_add];exact hat k hk⟩,h1,h2⟩
    obtain⟨F,hF⟩:=choose_lt FM;refine⟨[.lst false (P.cellsOf e) len ((List.range len).map fun i=>(F i).1).flatten],⟨(List.range len).map fun i=>(F i).1,by simp,by simp;omega,?_⟩,⟨⟨trivial,?_⟩,rfl⟩,trivial⟩
    ·intro r hr;obtain⟨i,hi1,rfl⟩:=List.mem_map.1 hr;have hi2:=List.mem_range.1 hi1;exact⟨by rw[(hF i hi2).2.2.len];exact (hF i hi2).1.1,(hF i hi2).2.1⟩
    ·rcases Nat.eq_zero_or_pos len with h0|h0
     ·subst h0;exact As.lemp _ _ _
     ·have L7:Ba (TR w) ((List.range len).map fun i=>(F i).1).flatten ((List.range len).map fun i=>(F i).2).flatten:=Ba.flat fun i hi=>(hF i (List.mem_range.1 hi)).2.2
      have hcell:=EY (w:=w) (a:=a) (g:=fun i=>(F i).2) (fun i hi=>(hF i hi).1.1) (fun i hi=>(hF i hi).1.2)
      have Em:=CZ (g:=fun i=>(F i).2) (fun i (hi:i<len)=>(hF i hi).1.1)
      have h00:w.cell? a≠none:=by
       have:=hcell 0 (Nat.mul_pos h0 Vy);rw[show a.add 0=a by unfold Addr.add;simp] at this
       rw[this,List.getElem?_eq_getElem (by rw[Em];exact Nat.mul_pos h0 Vy)]
       simp
      obtain⟨v0,hv0⟩:=Option.ne_none_iff_exists'.1 h00;obtain⟨hs,hb⟩:=Aak hv0
      have key:∀j c,(((List.range len).map fun i=>(F i).1).flatten)[j]?=some c->∃v,w.cell? (a.add j)=some v∧TR w c v:=by
       intro j c hj
       have hlj:j<len*P.cellsOf e:=by
        rw[←Em,←L7.len];rcases Nat.lt_or_ge j (((List.range len).map fun i=>(F i).1).flatten).length with h1|h1
        ·exact h1
        ·rw[List.getElem?_eq_none h1] at hj;cases hj
       have h1:=hcell j hlj;rw[List.getElem?_eq_getElem (by rw[Em];exact hlj)] at h1
       exact⟨_,h1,L7.at_ hj (List.getElem?_eq_getElem (by rw[Em];exact hlj))⟩
      refine As.lst _ _ _ a _ (fun j=>(w.cell? (a.add j)).getD undef) hs hb (fun h=>h) hl (fun j c hj=>?_) (fun j c hj=>?_) (fun j c hj=>?_)
      ·obtain⟨v,hv,_⟩:=key j c hj;rw[hv];rfl
      ·obtain⟨v,hv,ht⟩:=key j c hj;rw[hv];exact ht.2
      ·obtain⟨v,hv,ht⟩:=key j c hj;rw[hv];exact ht.1.2
  ·rename_i fs hu;simp only[Bool.and_eq_true] at hp;simp only[ZG hu];obtain⟨xs,n,_,_,Em,hxl,hf⟩:=DataW.trod_struct hu h
   obtain⟨rows,h1,h2⟩:=Zi (P:=P) (w:=w) (d:=d) Em fs.toList 0 hp.1 fun f hf'=>by
    obtain⟨i,hi⟩:=List.mem_iff_getElem?.1 hf';have FM:fs[i]?=some f:=by simpa using hi
    have Bp:i<fs.size:=(Array.getElem?_eq_some_iff.1 FM).1;have h3:=hf i f FM;rw[List.getElem?_eq_getElem (by omega)] at h3
    exact Ti d f.type (List.all_eq_true.1 hp.2 f hf') _ _ _ h3
   exact⟨_,⟨rows,rfl,h1⟩,by simpa using h2⟩
  ·rename_i n e hu;simp only[Bool.and_eq_true] at hp;simp only[Acj hu];obtain⟨xs,m,_,_,Em,hxl,hf⟩:=DataW.trod_array hu h;have Md:=Nat.eq_of_beq_eq_true hp.1
   obtain⟨rows,h1,h2,h3⟩:=DR (P:=P) (w:=w) (d:=d) (e:=e) (cs:=cs) (k:=P.cellsOf e) n (by omega) fun i hi=>by
    have h3:=hf i hi;rw[List.getElem?_eq_getElem (by omega)] at h3
    obtain⟨ps,h4,h5⟩:=Ti d e hp.2 _ _ _ h3;refine⟨ps,⟨?_,h4⟩,h5⟩;rw[h5.len,List.length_take,List.length_drop,Em,Md];have:(i+1)*P.cellsOf e<=n*P.cellsOf e:=Nat.mul_le_mul_right _ hi;rw[Nat.succ_mul] at this;omega
   refine⟨_,⟨rows,rfl,h1,h2⟩,?_⟩;rw[List.take_of_length_le (by omega)] at h3
   exact h3
  ·cases hp
theorem Acn {r:Reach}{b0:Nat}{t:TypeId}{v:Value}{dd:DataW H}{p:List MemPlace}(hp:Mn P 12 t=true)(hv:Value.okWide P w r b0 t v)(h:DataW.Trod enc P w base (fun _=>true) held t v dd p):
  ∃q,WTv P t q∧Ks w No q v:=by
 obtain⟨fuel,hf⟩:=h;obtain⟨ps,h1,h2⟩:=Ti 12 t hp fuel _ _ hf;unfold WTv Bz
 have two:∀{cs:Array Value},v=.agg cs->∃q,(∃ps,q=.agg ps∧WT P 12 t ps)∧Ks w No q v:=by
  intro cs e;subst e;exact⟨.agg ps,⟨ps,rfl,h1⟩,cs.toList,by simp,h2.mono fun c v h=>h.1⟩
 have one:v.cells.toList=[v]->∃q,WT P 12 t [q]∧Ks w No q v:=by
  intro e;rw[e] at h2
  match ps,h2 with
  |[q],h2=>
   refine⟨q,h1,?_⟩;have h3:=h2.1.1;cases q<;>first|exact h3|exact h3.1.elim
  |[],h2=>exact h2.elim
  |_::_::_,h2=>exact h2.2.elim
 unfold Mn at hp;split at hp
 ·rename_i hu;simp only[hu];obtain⟨b,rfl,_⟩:=open_bool hu hv ⟨fuel,hf⟩;exact one rfl
 ·rename_i k hu;simp only[hu];obtain⟨b,rfl,_⟩:=open_int hu hv ⟨fuel,hf⟩;exact one rfl
 ·rename_i hu;simp only[hu];obtain⟨b,rfl,_⟩:=ChangeMaps.open_string hu hv ⟨fuel,hf⟩;exact one rfl
 ·rename_i e hu;simp only[hu];obtain⟨a,len,cap,rfl⟩:=okWide_slice hu hv;exact one rfl
 ·rename_i fs hu;simp only[hu];obtain⟨cs,rfl,_⟩:=okWide_struct hu hv;exact two rfl
 ·rename_i n e hu;simp only[hu];unfold Value.okWide at hv;simp only[hu] at hv;obtain⟨cs,rfl,_⟩:=hv;exact two rfl
 ·cases hp
theorem HL:∀{ts:List TypeId}{vs:List Value}{ds:List (DataW H)} {p:List MemPlace}{r:Reach}{b0:Nat},(ts.all fun t=>Mn P 12 t)=true->(∀(j:Nat) t v,ts[j]?=some t->vs[j]?=some v->Value.okWide P w r b0 t v) ->
  DataW.TrodAll enc P w base (fun _=>true) held ts vs ds p->∃qs,Ba (WTv P) ts qs∧Ba (Ks w No) qs vs
 |[],[],[],_,_,_,_,_,_=>⟨[],trivial,trivial⟩
 |t::ts,v::vs,d::ds,_,r,b0,hp,hv,⟨p,q,h1,h2,_⟩=>by
  simp only[List.all_cons,Bool.and_eq_true] at hp;obtain⟨x,h3,h4⟩:=Acn hp.1 (hv 0 t v rfl rfl) h1;obtain⟨xs,h5,h6⟩:=HL hp.2 (fun j t v ht Nl=>hv (j+1) t v ht Nl) h2
  exact⟨x::xs,⟨h3,h5⟩,h4,h6⟩
 |[],_::_,_,_,_,_,_,_,h=>by cases h
 |[],[],_::_,_,_,_,_,_,h=>by cases h
 |_::_,[],_,_,_,_,_,_,h=>by cases h
 |_::_,_::_,[],_,_,_,_,_,h=>by cases h
theorem Un (hl:laidOutB P=true){W W':World}{sp:Nat->Bool}:∀{ts:List TypeId}{vs:List Value}{ds:List (DataW H)} {p:List MemPlace},(ts.all fun t=>P.readableRec t&&Nat.blt t P.types.size)=true ->
  DataW.TrodAll enc P W 0 (fun _=>true) true ts vs ds p->(∀x∈p,W.sameAt W' x)->(∀x∈p,sp x.block=true)->DataW.TrodAll enc P W' 0 sp true ts vs ds p
 |[],[],[],_,_,h,_,_=>h
 |t::ts,v::vs,d::ds,_,hr,⟨p,q,h1,h2,e⟩,hs,hsp=>by
  simp only[List.all_cons,Bool.and_eq_true] at hr;refine⟨p,q,WideElems.Trod_stays hl hr.1.1 (Nat.lt_of_succ_le (Nat.le_of_ble_eq_true hr.1.2)) h1 (fun x hx=>hs x ?_) (fun x hx=>hsp x ?_),Un hl hr.2 h2 (fun x hx=>hs x ?_) (fun x hx=>hsp x ?_),e⟩
  all_goals rw[e,List.mem_append]
  ·exact .inl hx
  ·exact .inl hx
  ·exact .inr hx
  ·exact .inr hx
 |[],_::_,_,_,_,h,_,_=>by cases h
 |[],[],_::_,_,_,h,_,_=>by cases h
 |_::_,[],_,_,_,h,_,_=>by cases h
 |_::_,_::_,[],_,_,h,_,_=>by cases h
theorem GX {f:Func}{s:ChangeSpec}{apart fresh JP again:Bool}{W W':World}{args:Array Value}{v:Value}{ds gs:List (DataW H)} {before pa pv:List MemPlace}
  (hW:DataW.Whole enc P f.params.toList s.vars apart W args.toList ds gs before)
  (A5x:∀(b:Nat)(sp:Nat->Bool)(hd:Bool),DataW.TrodAll enc P W' b sp hd f.resultTypes.toList (v.resultList f.resultTypes.size) (s.fn H (ds++gs)).results [])
  (Eh:∀sp:Nat->Bool,(∀p∈before,sp p.block=true)->DataW.TrodAll enc P W' 0 sp true f.params.toList args.toList (s.fn H (ds++gs)).args pa)
  (RC:∀sp:Nat->Bool,(∀p∈before,sp p.block=true)->DataW.TrodVars enc P W' sp s.vars (s.fn H (ds++gs)).vars pv)
  (FN:before=pa++pv)(hb:Below W.heap.size W W')
  (Kp:∀(j:Nat)(t:TypeId)(r:Value),f.resultTypes[j]?=some t->(v.resultList f.resultTypes.size)[j]?=some r->Value.okWide P W' .any 0 t r):
  s.post enc P f apart fresh JP again W args v W':=by
 have Bp:∀p∈before,p.block<W.heap.size:=fun p hp=>hW.lt p hp
 have hold:∀p∈before,(fun b=>decide (b<W.heap.size)) p.block=true:=fun p hp=>by simpa using Bp p hp
 refine⟨ds,gs,before,[],pa,pv,hW,A5x _ _ _,Eh _ hold,RC _ hold,World.keptBut_mono (fun p hp=>⟨hp,?_⟩) (hb.frame (· ∈ before)),fun _=>?_⟩
 ·rw[FN,List.mem_append] at hp;exact Or.inr hp
 ·obtain⟨_,_,_,_,_,hz,hn⟩:=hW;refine⟨Kp,_,_,([]++pa)++pv,⟨[]++pa,pv,trodAll_append (Eh _ (fun _ _=>rfl)) (A5x _ _ _),RC _ (fun _ _=>rfl),rfl,?_,?_⟩,?_⟩
  ·intro b off hp;have Uq:MemPlace.cell b off∈before:=by rw[FN];simpa using hp
   rw[hb.frozen (Bp _ Uq)];exact hz b off Uq
  ·intro ha;have:=hn ha;rw[FN] at this
   simpa using this
  ·intro p hp _;rw[FN]
   simpa using hp
theorem law_contract {G:Glo}{C:Gt}(hx:ExtOk G P C)(Jz:NoNG P)(hm:P.follows .mixedOrders=true)(hl:laidOutB P=true){f:FuncId}{fn:Func}{s:ChangeSpec}{tb:TypeId}(hfn:P.funcs[f]?=some fn)
  (RC:s.vars=[]) (A0y:∀ds:List (DataW H),ds.length=fn.params.size->s.fn H ds={ results:=[.lit (.bool true)],args:=ds }) (Am4:(fn.params.toList.all fun t=>Mn P 12 t)=true)
  (Axg:(fn.params.toList.all fun t=>P.readableRec t&&Nat.blt t P.types.size)=true) (hrt:fn.resultTypes = #[tb]) (hub:P.underlying tb=some .bool)
  {apart fresh JP again:Bool} (W:World) (base:Nat) (args:Array Value) (ds gs:List (DataW H)) (before:List MemPlace)
  (hval:∀(j:Nat) t v,fn.params[j]?=some t->args[j]?=some v->Value.okWide P W .any base t v)
  (hW:DataW.Whole enc P fn.params.toList s.vars apart W args.toList ds gs before)
  (Bi9:∀qs:List PV,Ba (WTv P) fn.params.toList qs->∃fu d,Ag C P fu d f qs=some ⟨[.sc (.bool true)],[]⟩) (hG:G.ok W)(hGY:∀b,G.bl b->b<W.heap.size):
  Calls P f args W fun e W'=>∃v,e=.returned v∧s.post enc P fn apart fresh JP again W args v W':=by
 have hW':=hW;obtain⟨p,q,hA,hV,rfl,Ry,hnd⟩:=hW;rw[RC] at hV;obtain⟨rfl,rfl⟩:=trodVars_none hV;obtain⟨qs,h1,h2⟩:=HL Am4 (fun j t v ht hv=>hval j t v (by simpa using ht) (by simpa using hv)) hA
 obtain⟨fu,d,hc⟩:=Bi9 qs h1;have hS:=(Sm Jz hm hx d f qs _ hc).2 W No Np args.toList (EV (fun b h=>h.elim) h2) hG (fun b hb=>⟨hGY b hb,Xl b⟩)
 rw[Array.toArray_toList] at hS;refine hS.mono fun e W' ⟨vs,own,he,ho⟩=>?_
 have hv:=ho.vals
 have Fq:vs=[.bool true]:=by
  match vs,hv with
  |[u],hv=>
   have:As W' _ (.sc (.bool true)) u:=hv.1;rw[this.val]
  |[],hv=>exact hv.elim
  |_::_::_,hv=>exact hv.2.elim
 subst Fq;subst he;have hb:Below W.heap.size W W':=⟨ho.os,ho.tape,ho.output,ho.ext.size,fun k hk=>ho.ext.keep k hk (Xl k)⟩
 have Bp:∀x∈p,x.block<W.heap.size:=fun x hx=>hW'.lt x (by simpa using hx)
 have Em:ds.length=fn.params.size:=by
  have:∀{ts:List TypeId} {vs:List Value} {ds:List (DataW H)} {p:List MemPlace},DataW.TrodAll enc P W 0 (fun _=>true) true ts vs ds p->ds.length=ts.length:=by
   intro ts
   induction ts with
   |nil=>intro vs ds p h;cases vs<;>cases ds<;>first|rfl|cases h
   |cons t ts ih=>
    intro vs ds p h;cases vs with
    |nil=>cases h
    |cons v vs=>
     cases ds with
     |nil=>cases h
     |cons d ds=>obtain⟨_,_,_,h2,_⟩:=h;simp[ih h2]
  simpa using this hA
 have hsp:=A0y (ds++[]) (by simpa using Em)
 refine⟨_,rfl,GX (pa:=p) (pv:=[]) hW' ?_ ?_ ?_ rfl hb ?_⟩
 ·intro b sp hd;rw[hsp,hrt];exact trodAll_mk1 (shut_bool hub _)
 ·intro sp Bpc;rw[hsp];simp only[List.append_nil];exact Un hl Axg hA (fun x hx=>hb.same (Bp x hx)) (fun x hx=>Bpc x (by simpa using hx))
 ·intro sp _;rw[hsp,RC];rfl
 ·exact ok_one hrt rfl (okWide_bool_mk hub _)
end
end
section
open Go.Proofs.Try (prog)
set_option maxRecDepth 100000
theorem Aik {d:Nat}{ps:List PV}{k:IntKind}{t e:TypeId}(hk:Qn prog t=.sl e)(hc:prog.cellsOf e=1)(he:Qn prog e=.int k)(h:WT prog d t ps):
  ∃l:List Int,ps=[.lst false 1 l.length (Am k l)]∧l.length<=maxLen∧∀n∈l,(Lit.int k n).wf=true:=by
 obtain⟨rows,rfl,hl,hr⟩:=A1s hk h;obtain⟨l,h1,h2,h3⟩:=Z8 (Aqi k) (fun n=>(Lit.int k n).wf=true) fun r hrr=>Agp he (hr r hrr).2
 refine⟨l,?_,by omega,h3⟩
 rw[h1,h2,hc]
theorem Afh {p:PV}{k:IntKind}{t e:TypeId}(ha:Bz prog t=false)(hk:Qn prog t=.sl e)(hc:prog.cellsOf e=1)(he:Qn prog e=.int k)(h:WTv prog t p):
  ∃l:List Int,p=.lst false 1 l.length (Am k l)∧l.length<=maxLen∧∀n∈l,(Lit.int k n).wf=true:=by
 have h':=VO (P:=prog) (t:=t) (p:=p) ha h;obtain⟨l,h1,h2,h3⟩:=Aik hk hc he h';exact⟨l,by injection h1,h2,h3⟩
end
section
open Go.IntKind (wrap)
theorem Rt:type_of% @Bool.not_true:=@Bool.not_true
theorem O0:type_of% @Bool.not_false:=@Bool.not_false
theorem Ch:type_of% @Nat.mul_one:=@Nat.mul_one
theorem Cm:type_of% @Nat.zero_add:=@Nat.zero_add
theorem Cl:type_of% @List.drop_zero.{0}:=@List.drop_zero
theorem Ha:type_of% @List.take_of_length_le.{0}:=@List.take_of_length_le
theorem AK:type_of% @List.length_append.{0}:=@List.length_append
theorem Dg:type_of% @List.length_nil.{0}:=@List.length_nil
theorem SV:type_of% @List.length_cons.{0}:=@List.length_cons
theorem Rq:type_of% @Int.toNat_natCast:=@Int.toNat_natCast
theorem Ms:type_of% @if_neg.{1}:=@if_neg
theorem J7:type_of% @if_pos.{1}:=@if_pos
theorem Zzq:type_of% @List.nil_append.{0}:=@List.nil_append
theorem Zzv:type_of% @List.append_assoc.{0}:=@List.append_assoc
end
section
open Go.Proofs.Try (prog)
open Go.IntKind (wrap)
set_option maxRecDepth 100000
abbrev L6:FuncId:=75
theorem T7 {xs:FuncId->Option (List PV->Option A2)} (fu d:Nat)(a0 a1:Int):Ag (CX xs) prog fu (d+1) L6 [.sc (.int .u64 a0),.sc (.int .i64 a1)]=(fun (call:Ai)=>Ab (wrap .u64 a1) fun x1=>Ab (Aac .u64 x1 63) fun x2=>An (decide (0<=x2))<|Ab (Jt .u64 a0 x2) fun x3=>Ab (wrap .u64 (64-x2)) fun x4=>An (decide (0<=x4))<|Ab (GD .u64 a0 x4) fun x5=>Ab (BV .u64 x3 x5) fun x6=>some (A2.mk [.sc (.int .u64 x6)] [])) (Ag (CX xs) prog fu d):=by kernel_rfl
abbrev I5:FuncId:=50
noncomputable def F3 (fu:Nat)(call:Ai)(Ap:Nat)(a0:List PV)(nn y0 y1:Nat)(y2:List PV)(y3 y4:Int)(y5:List PV):Option A2:=Cu CB prog fu call 50 Try.f50 (Bw Try.f50) [.lst false 1 Ap a0] [.r,.r,.l,.r,.l] nn ⟨lk [(3,(.view 3 1 0 y0)),(11,(.lst false 1 y1 y2)),(12,(.sc (.int .i64 y3))),(13,(.sc (.int .i64 y4)))],Fx [(3,(.ar false y5))]⟩
noncomputable def Hy (fu:Nat)(call:Ai)(Ap:Nat)(a0:List PV)(m0 nn y0:Nat)(y1:Int)(y2:Nat)(y3:List PV)(y4 y5 y6:Int)(y7:List PV):Option A2:=Cu CB prog fu call 50 Try.f50 (Bw Try.f50) [.lst false 1 Ap a0] [.r,.r,.l,.r,.l,.i m0,.r,.r,.l,.l,.r,.r,.l] nn ⟨lk [(3,(.view 3 1 0 y0)),(5,(.sc (.int .u64 y1))),(11,(.lst false 1 y2 y3)),(12,(.sc (.int .i64 y4))),(13,(.sc (.int .i64 y5))),(17,(.sc (.int .i64 y6)))],Fx [(3,(.ar false y7))]⟩
theorem Oq (fu:Nat)(call:Ai)(Ap:Nat)(a0:List PV)(nn y0 y1:Nat)(y2:List PV)(y3 y4:Int)(y5:List PV):F3 fu call Ap a0 (nn+1) y0 y1 y2 y3 y4 y5=(Bd (decide (y4<y3)) (An (decide (0<=y4)&&decide (y4<(↑y1:Int)))<|Ae .u64 (List.getD y2 (Int.toNat y4*1) .top) fun x2=>Hy fu call Ap a0 nn (fu) (y0) x2 (y1) (y2) (y3) (y4) 0 (y5)) (An (decide (y0*1<=y5.length))<|some (A2.mk [.own 1 y0 (List.take (y0*1) y5)] []))):=by kernel_rfl
theorem Of (fu:Nat)(call:Ai)(Ap:Nat)(a0:List PV)(m0 nn y0:Nat)(y1:Int)(y2:Nat)(y3:List PV)(y4 y5 y6:Int)(y7:List PV):Hy fu call Ap a0 m0 (nn+1) y0 y1 y2 y3 y4 y5 y6 y7=(Bd (decide (y6<8)) (Ab (wrap .i64 (8*y6)) fun x3=>Ab (wrap .i64 (56-x3)) fun x4=>An (decide (0<=x4))<|Ab (GD .u64 y1 x4) fun x5=>Ab (wrap .u8 x5) fun x6=>An (decide (y0*1<=y7.length)&&true&&decide ((y0+1)*1<=1099511627776)&&decide (y0+1<=1099511627776))<|Ab (y0+1) fun x7=>Ab (List.take (y0*1) y7++[.sc (.int .u8 x6)]) fun x8=>Ab (wrap .i64 (y6+1)) fun x9=>Hy fu call Ap a0 m0 (nn) x7 (y1) (y2) (y3) (y4) (y5) x9 x8) (Ab (wrap .i64 (y5+1)) fun Ia=>F3 fu call Ap a0 (m0) (y0) (y2) (y3) (y4) Ia (y7))):=by kernel_rfl
theorem DP {xs:FuncId->Option (List PV->Option A2)} (fu d Ap:Nat)(a0:List PV):Ag (CX xs) prog fu (d+1) I5 [.lst false 1 Ap a0]=(fun (call:Ai)=>Ab (wrap .i64 (8*(↑Ap:Int))) fun x1=>An (decide (0<=x1)&&decide (x1*1<=1099511627776)&&decide (x1<=1099511627776))<|F3 fu call Ap a0 (fu) 0 (Ap) (a0) ((↑Ap:Int)) 0 ([])) (Ag (CX xs) prog fu d):=by kernel_rfl
abbrev Rr:FuncId:=60
noncomputable def Hb (fu:Nat)(call:Ai)(Ap:Nat)(a0:List PV)(nn:Nat)(y0:Int)(y1:Nat)(y2:List PV)(y3 y4:Int):Option A2:=Cu CB prog fu call 60 Try.f60 (Bw Try.f60) [.lst false 1 Ap a0] [.r,.r,.l,.r,.l] nn ⟨lk [(3,(.sc (.int .u64 y0))),(6,(.lst false 1 y1 y2)),(7,(.sc (.int .i64 y3))),(8,(.sc (.int .i64 y4)))],Fx []⟩
theorem Nc (fu:Nat)(call:Ai)(Ap:Nat)(a0:List PV)(nn:Nat)(y0:Int)(y1:Nat)(y2:List PV)(y3 y4:Int):Hb fu call Ap a0 (nn+1) y0 y1 y2 y3 y4=(Bd (decide (y4<y3)) (An (decide (0<=y4)&&decide (y4<(↑y1:Int)))<|Ae .u8 (List.getD y2 (Int.toNat y4*1) .top) fun x1=>Ab (wrap .u64 x1) fun x2=>Ab (wrap .i64 (8*y4)) fun x3=>An (decide (0<=x3))<|Ab (Jt .u64 x2 x3) fun x4=>Ab (BV .u64 y0 x4) fun x5=>Ab (wrap .i64 (y4+1)) fun x6=>Hb fu call Ap a0 (nn) x5 (y1) (y2) (y3) x6) (some (A2.mk [.sc (.int .u64 y0)] []))):=by kernel_rfl
theorem AH {xs:FuncId->Option (List PV->Option A2)} (fu d Ap:Nat)(a0:List PV):Ag (CX xs) prog fu (d+1) Rr [.lst false 1 Ap a0]=(fun (call:Ai)=>Hb fu call Ap a0 (fu) 0 (Ap) (a0) ((↑Ap:Int)) 0) (Ag (CX xs) prog fu d):=by kernel_rfl
abbrev J9:FuncId:=61
noncomputable def Ei (fu:Nat)(call:Ai)(Di Dc:Int)(D9 G2 a1:Int)(nn:Nat)(y0 y1:Int)(y2 y3:Int)(y4 y5:Int):Option A2:=Cu CB prog fu call 61 Try.f61 (Bw Try.f61) [.pbox [.sc (.int .u64 Di),.sc (.int .u64 Dc),.sc (.int .u64 D9),.sc (.int .u64 G2)],.sc (.int .i64 a1)] [.r,.l] nn ⟨lk [(0,(.ptr 288000 0)),(4,(.sc (.int .i64 y0))),(5,(.sc (.int .i64 y1)))],Fx [(288000,(.st [(.sc (.int .u64 y2)),(.sc (.int .u64 y3)),(.sc (.int .u64 y4)),(.sc (.int .u64 y5))]))]⟩
theorem Hs (fu:Nat)(call:Ai)(Di Dc:Int)(D9 G2 a1:Int)(nn:Nat)(y0 y1:Int)(y2 y3:Int)(y4 y5:Int):Ei fu call Di Dc D9 G2 a1 (nn+1) y0 y1 y2 y3 y4 y5=(Bd (decide (y1<y0)) (Ab (wrap .u64 (y2+y3)) fun x1=>Af (call 75 [.sc (.int .u64 y3),.sc (.int .i64 13)]) fun x2 x3=>Ac x3<|Aa x2 fun x4 x5=>Ae .u64 x4 fun x6=>Ac x5<|Ab (Dv .u64 x6 x1) fun x7=>Af (call 75 [.sc (.int .u64 x1),.sc (.int .i64 32)]) fun x8 x9=>Ac x9<|Aa x8 fun Ia H6=>Ae .u64 Ia fun H7=>Ac H6<|Ab (wrap .u64 (y4+y5)) fun L8=>Af (call 75 [.sc (.int .u64 y5),.sc (.int .i64 16)]) fun La K9=>Ac K9<|Aa La fun Nk Pu=>Ae .u64 Nk fun Mz=>Ac Pu<|Ab (Dv .u64 Mz L8) fun H2=>Ab (wrap .u64 (H7+H2)) fun Mt=>Af (call 75 [.sc (.int .u64 H2),.sc (.int .i64 21)]) fun Mf Qg=>Ac Qg<|Aa Mf fun Rh Ph=>Ae .u64 Rh fun Zd=>Ac Ph<|Ab (Dv .u64 Zd Mt) fun X5=>Ab (wrap .u64 (L8+x7)) fun Ub=>Af (call 75 [.sc (.int .u64 x7),.sc (.int .i64 17)]) fun DM Ui=>Ac Ui<|Aa DM fun O1 Sb=>Ae .u64 O1 fun Z4=>Ac Sb<|Ab (Dv .u64 Z4 Ub) fun Wx=>Af (call 75 [.sc (.int .u64 Ub),.sc (.int .i64 32)]) fun X8 CA=>Ac CA<|Aa X8 fun AW Yb=>Ae .u64 AW fun HN=>Ac Yb<|Ab (wrap .i64 (y1+1)) fun MA=>Ei fu call Di Dc D9 G2 a1 (nn) (y0) MA Mt Wx HN X5) (some (A2.mk [] [[.sc (.int .u64 y2),.sc (.int .u64 y3),.sc (.int .u64 y4),.sc (.int .u64 y5)]]))):=by kernel_rfl
theorem R0 {xs:FuncId->Option (List PV->Option A2)} (fu d:Nat)(Di Dc:Int)(D9 G2 a1:Int):Ag (CX xs) prog fu (d+1) J9 [.pbox [.sc (.int .u64 Di),.sc (.int .u64 Dc),.sc (.int .u64 D9),.sc (.int .u64 G2)],.sc (.int .i64 a1)]=(fun (call:Ai)=>Ei fu call Di Dc D9 G2 a1 (fu) (a1) 0 (Di) (Dc) (D9) (G2)) (Ag (CX xs) prog fu d):=by kernel_rfl
abbrev Jv:FuncId:=59
theorem Rz {xs:FuncId->Option (List PV->Option A2)} (fu d:Nat)(Di Dc:Int)(D9 G2 a1:Int):Ag (CX xs) prog fu (d+1) Jv [.pbox [.sc (.int .u64 Di),.sc (.int .u64 Dc),.sc (.int .u64 D9),.sc (.int .u64 G2)],.sc (.int .u64 a1)]=(fun (call:Ai)=>Ab (Dv .u64 G2 a1) fun x1=>Af (call 61 [.pbox [.sc (.int .u64 Di),.sc (.int .u64 Dc),.sc (.int .u64 D9),.sc (.int .u64 x1)],.sc (.int .i64 2)]) fun x2 x3=>Ac x2<|Aa x3 fun x4 x5=>Aa x4 fun x6 x7=>Ae .u64 x6 fun x8=>Aa x7 fun x9 Ia=>Ae .u64 x9 fun H6=>Aa Ia fun H7 L8=>Ae .u64 H7 fun La=>Aa L8 fun K9 Nk=>Ae .u64 K9 fun Pu=>Ac Nk<|Ac x5<|Ab (Dv .u64 x8 a1) fun Mz=>some (A2.mk [] [[.sc (.int .u64 Mz),.sc (.int .u64 H6),.sc (.int .u64 La),.sc (.int .u64 Pu)]])) (Ag (CX xs) prog fu d):=by kernel_rfl
abbrev Xv:FuncId:=49
noncomputable def Hu (fu:Nat)(call:Ai)(a0 a1:Int)(Pd:Nat)(a2:List PV)(nn y0:Nat)(y1:List PV)(y2 y3:Int)(y4 y5:Int)(y6 y7 y8:Int):Option A2:=Cu CB prog fu call 49 Try.f49 (Bw Try.f49) [.sc (.int .u64 a0),.sc (.int .u64 a1),.lst false 1 Pd a2] [.r,.r,.r,.l,.r,.l] nn ⟨lk [(2,(.lst false 1 y0 y1)),(7,(.ptr 7 0)),(8,(.sc (.int .i64 y2))),(22,(.sc (.int .i64 y3))),(23,(.sc (.int .i64 y4)))],Fx [(7,(.st [(.sc (.int .u64 y5)),(.sc (.int .u64 y6)),(.sc (.int .u64 y7)),(.sc (.int .u64 y8))]))]⟩
theorem Rv (fu:Nat)(call:Ai)(a0 a1:Int)(Pd:Nat)(a2:List PV)(nn y0:Nat)(y1:List PV)(y2 y3:Int)(y4 y5:Int)(y6 y7 y8:Int):Hu fu call a0 a1 Pd a2 (nn+1) y0 y1 y2 y3 y4 y5 y6 y7 y8=(Bd (decide (y4<y3)) (Ab (wrap .i64 (8*y4)) fun x6=>Ab (wrap .i64 (8*y4)) fun x7=>Ab (wrap .i64 (x7+8)) fun x8=>An (decide (0<=x6))<|An (decide (0<=x8))<|An (decide (Int.toNat x6<=Int.toNat x8)&&decide (Int.toNat x8<=y0))<|Ab (Int.toNat x8-Int.toNat x6) fun x9=>Ab (List.take (x9*1) (List.drop (Int.toNat x6*1) y1)) fun Ia=>Af (call 60 [.lst false 1 x9 Ia]) fun H6 H7=>Ac H7<|Aa H6 fun L8 La=>Ae .u64 L8 fun K9=>Ac La<|Af (call 59 [.pbox [.sc (.int .u64 y5),.sc (.int .u64 y6),.sc (.int .u64 y7),.sc (.int .u64 y8)],.sc (.int .u64 K9)]) fun Nk Pu=>Ac Nk<|Aa Pu fun Mz H2=>Aa Mz fun Mt Mf=>Ae .u64 Mt fun Qg=>Aa Mf fun Rh Ph=>Ae .u64 Rh fun Zd=>Aa Ph fun X5 Ub=>Ae .u64 X5 fun DM=>Aa Ub fun Ui O1=>Ae .u64 Ui fun Sb=>Ac O1<|Ac H2<|Ab (wrap .i64 (y4+1)) fun Z4=>Hu fu call a0 a1 Pd a2 (nn) (y0) (y1) (y2) (y3) Z4 Qg Zd DM Sb) (Ab (wrap .i64 (8*y2)) fun Wx=>An (decide (0<=Wx))<|An (decide (Int.toNat Wx<=y0)&&decide (y0<=y0))<|Ab (y0-Int.toNat Wx) fun X8=>Ab (List.take (X8*1) (List.drop (Int.toNat Wx*1) y1)) fun CA=>Af (call 60 [.lst false 1 X8 CA]) fun AW Yb=>Ac Yb<|Aa AW fun HN MA=>Ae .u64 HN fun BO=>Ac MA<|Ab (wrap .u64 (↑y0:Int)) fun NF=>Ab (Jt .u64 NF 56) fun PA=>Ab (BV .u64 BO PA) fun BK=>Af (call 59 [.pbox [.sc (.int .u64 y5),.sc (.int .u64 y6),.sc (.int .u64 y7),.sc (.int .u64 y8)],.sc (.int .u64 BK)]) fun Oy KC=>Ac Oy<|Aa KC fun NC QA=>Aa NC fun OV QR=>Ae .u64 OV fun DY=>Aa QR fun PO RQ=>Ae .u64 PO fun NJ=>Aa RQ fun X3 FX=>Ae .u64 X3 fun RT=>Aa FX fun BU GU=>Ae .u64 BU fun LO=>Ac GU<|Ac QA<|Ab (Dv .u64 RT 255) fun ND=>Af (call 61 [.pbox [.sc (.int .u64 DY),.sc (.int .u64 NJ),.sc (.int .u64 ND),.sc (.int .u64 LO)],.sc (.int .i64 4)]) fun FQ JF=>Ac FQ<|Aa JF fun XC JA=>Aa XC fun TW UB=>Ae .u64 TW fun WO=>Aa UB fun Zy FG=>Ae .u64 Zy fun x70=>Aa FG fun GZ Tu=>Ae .u64 GZ fun XQ=>Aa Tu fun QT Tp=>Ae .u64 QT fun x76=>Ac Tp<|Ac JA<|Ab (Dv .u64 WO x70) fun x77=>Ab (Dv .u64 x77 XQ) fun U6=>Ab (Dv .u64 U6 x76) fun x79=>some (A2.mk [.sc (.int .u64 x79)] []))):=by kernel_rfl
theorem LA {xs:FuncId->Option (List PV->Option A2)} (fu d:Nat)(a0 a1:Int)(Pd:Nat)(a2:List PV):Ag (CX xs) prog fu (d+1) Xv [.sc (.int .u64 a0),.sc (.int .u64 a1),.lst false 1 Pd a2]=(fun (call:Ai)=>Ab (Dv .u64 a0 8317987319222330741) fun x1=>Ab (Dv .u64 a1 7237128888997146477) fun x2=>Ab (Dv .u64 a0 7816392313619706465) fun x3=>Ab (Dv .u64 a1 8387220255154660723) fun x4=>Ab (wrap .i64 (Int.tdiv (↑Pd:Int) 8)) fun x5=>Hu fu call a0 a1 Pd a2 (fu) (Pd) (a2) x5 x5 0 x1 x2 x3 x4) (Ag (CX xs) prog fu d):=by kernel_rfl
abbrev Wo:FuncId:=33
theorem MV {xs:FuncId->Option (List PV->Option A2)} (fu d:Nat)(a0 a1:Int)(Pd:Nat)(a2:List PV):Ag (CX xs) prog fu (d+1) Wo [.sc (.int .u64 a0),.sc (.int .i64 a1),.lst false 1 Pd a2]=(fun (call:Ai)=>Ab (wrap .u64 a1) fun x1=>Ab (wrap .u64 (1+x1)) fun x2=>Af (call 49 [.sc (.int .u64 a0),.sc (.int .u64 x2),.lst false 1 Pd a2]) fun x3 x4=>Ac x4<|Aa x3 fun x5 x6=>Ae .u64 x5 fun x7=>Ac x6<|some (A2.mk [.sc (.int .u64 x7)] [])) (Ag (CX xs) prog fu d):=by kernel_rfl
abbrev Ng:FuncId:=81
theorem Vg {xs:FuncId->Option (List PV->Option A2)} (fu d:Nat)(a0 a1:Int):Ag (CX xs) prog fu (d+1) Ng [.sc (.int .u64 a0),.sc (.int .u64 a1)]=(fun (call:Ai)=>An (decide (0<=a1))<|Ab (Jt .u64 a0 a1) fun x1=>Ab (wrap .u64 (64-a1)) fun x2=>An (decide (0<=x2))<|Ab (GD .u64 a0 x2) fun x3=>Ab (BV .u64 x1 x3) fun x4=>some (A2.mk [.sc (.int .u64 x4)] [])) (Ag (CX xs) prog fu d):=by kernel_rfl
abbrev Lz:FuncId:=73
theorem T9 {xs:FuncId->Option (List PV->Option A2)} (fu d:Nat)(Di Dc:Int)(D9 G2:Int):Ag (CX xs) prog fu (d+1) Lz [.agg [.sc (.int .u64 Di),.sc (.int .u64 Dc),.sc (.int .u64 D9),.sc (.int .u64 G2)]]=(fun (call:Ai)=>Ab (wrap .u64 (Di+Dc)) fun x1=>Af (call 81 [.sc (.int .u64 Dc),.sc (.int .u64 13)]) fun x2 x3=>Ac x3<|Aa x2 fun x4 x5=>Ae .u64 x4 fun x6=>Ac x5<|Ab (Dv .u64 x6 x1) fun x7=>Af (call 81 [.sc (.int .u64 x1),.sc (.int .u64 32)]) fun x8 x9=>Ac x9<|Aa x8 fun Ia H6=>Ae .u64 Ia fun H7=>Ac H6<|Ab (wrap .u64 (D9+G2)) fun L8=>Af (call 81 [.sc (.int .u64 G2),.sc (.int .u64 16)]) fun La K9=>Ac K9<|Aa La fun Nk Pu=>Ae .u64 Nk fun Mz=>Ac Pu<|Ab (Dv .u64 Mz L8) fun H2=>Ab (wrap .u64 (H7+H2)) fun Mt=>Af (call 81 [.sc (.int .u64 H2),.sc (.int .u64 21)]) fun Mf Qg=>Ac Qg<|Aa Mf fun Rh Ph=>Ae .u64 Rh fun Zd=>Ac Ph<|Ab (Dv .u64 Zd Mt) fun X5=>Ab (wrap .u64 (L8+x7)) fun Ub=>Af (call 81 [.sc (.int .u64 x7),.sc (.int .u64 17)]) fun DM Ui=>Ac Ui<|Aa DM fun O1 Sb=>Ae .u64 O1 fun Z4=>Ac Sb<|Ab (Dv .u64 Z4 Ub) fun Wx=>Af (call 81 [.sc (.int .u64 Ub),.sc (.int .u64 32)]) fun X8 CA=>Ac CA<|Aa X8 fun AW Yb=>Ae .u64 AW fun HN=>Ac Yb<|some (A2.mk [.agg [.sc (.int .u64 Mt),.sc (.int .u64 Wx),.sc (.int .u64 HN),.sc (.int .u64 X5)]] [])) (Ag (CX xs) prog fu d):=by kernel_rfl
abbrev Nx:FuncId:=56
noncomputable def Er (fu:Nat)(call:Ai)(a0 a1:Int)(Pd:Nat)(a2:List PV)(nn y0:Nat)(y1:List PV)(y2:Int)(y3:List PV):Option A2:=Cu CB prog fu call 56 Try.f56 (Bw Try.f56) [.sc (.int .u64 a0),.sc (.int .u64 a1),.lst false 1 Pd a2] [.r,.r,.l,.r,.l] nn ⟨lk [(2,(.lst false 1 y0 y1)),(7,(.ptr 7 0)),(8,(.sc (.int .i64 y2)))],Fx [(7,(.ar false y3))]⟩
noncomputable def Dz (fu:Nat)(call:Ai)(a0 a1:Int)(Pd:Nat)(a2:List PV)(m0 nn y0:Nat)(y1:List PV)(y2 y3 y4:Int)(y5:List PV):Option A2:=Cu CB prog fu call 56 Try.f56 (Bw Try.f56) [.sc (.int .u64 a0),.sc (.int .u64 a1),.lst false 1 Pd a2] [.r,.r,.l,.r,.l,.i m0,.r,.l,.l,.r,.l,.r,.l] nn ⟨lk [(2,(.lst false 1 y0 y1)),(7,(.ptr 7 0)),(8,(.sc (.int .i64 y2))),(9,(.sc (.int .u64 y3))),(10,(.sc (.int .i64 y4)))],Fx [(7,(.ar false y5))]⟩
theorem Lk (fu:Nat)(call:Ai)(a0 a1:Int)(Pd:Nat)(a2:List PV)(nn y0:Nat)(y1:List PV)(y2:Int)(y3:List PV):Er fu call a0 a1 Pd a2 (nn+1) y0 y1 y2 y3=(Bd (decide (y2<=(↑y0:Int))) (Dz fu call a0 a1 Pd a2 nn (fu) (y0) (y1) (y2) 0 7 (y3)) (Ae .u64 (List.getD y3 2 .top) fun x5=>Ab (Dv .u64 x5 255) fun x6=>An (decide (3<=y3.length))<|Ab (Bl y3 [.sc (.int .u64 x6)] 2) fun x7=>Ae .u64 (List.getD x7 0 .top) fun x8=>Ae .u64 (List.getD x7 1 .top) fun x9=>Ae .u64 (List.getD x7 2 .top) fun Ia=>Ae .u64 (List.getD x7 3 .top) fun H6=>Af (call 73 [.agg [.sc (.int .u64 x8),.sc (.int .u64 x9),.sc (.int .u64 Ia),.sc (.int .u64 H6)]]) fun H7 L8=>Ac L8<|Aa H7 fun La K9=>Ge La fun Nk=>Aa Nk fun Pu Mz=>Ae .u64 Pu fun H2=>Aa Mz fun Mt Mf=>Ae .u64 Mt fun Qg=>Aa Mf fun Rh Ph=>Ae .u64 Rh fun Zd=>Aa Ph fun X5 Ub=>Ae .u64 X5 fun DM=>Ac Ub<|Ac K9<|Af (call 73 [.agg [.sc (.int .u64 H2),.sc (.int .u64 Qg),.sc (.int .u64 Zd),.sc (.int .u64 DM)]]) fun Ui O1=>Ac O1<|Aa Ui fun Sb Z4=>Ge Sb fun Wx=>Aa Wx fun X8 CA=>Ae .u64 X8 fun AW=>Aa CA fun Yb HN=>Ae .u64 Yb fun MA=>Aa HN fun BO NF=>Ae .u64 BO fun PA=>Aa NF fun BK Oy=>Ae .u64 BK fun KC=>Ac Oy<|Ac Z4<|Af (call 73 [.agg [.sc (.int .u64 AW),.sc (.int .u64 MA),.sc (.int .u64 PA),.sc (.int .u64 KC)]]) fun NC QA=>Ac QA<|Aa NC fun OV QR=>Ge OV fun DY=>Aa DY fun PO RQ=>Ae .u64 PO fun NJ=>Aa RQ fun X3 FX=>Ae .u64 X3 fun RT=>Aa FX fun BU GU=>Ae .u64 BU fun LO=>Aa GU fun ND FQ=>Ae .u64 ND fun JF=>Ac FQ<|Ac QR<|Af (call 73 [.agg [.sc (.int .u64 NJ),.sc (.int .u64 RT),.sc (.int .u64 LO),.sc (.int .u64 JF)]]) fun XC JA=>Ac JA<|Aa XC fun TW UB=>Ge TW fun WO=>Aa WO fun Zy FG=>Ae .u64 Zy fun x70=>Aa FG fun GZ Tu=>Ae .u64 GZ fun XQ=>Aa Tu fun QT Tp=>Ae .u64 QT fun x76=>Aa Tp fun x77 U6=>Ae .u64 x77 fun x79=>Ac U6<|Ac UB<|An (decide (4<=x7.length))<|Ab (Bl x7 [.sc (.int .u64 x70),.sc (.int .u64 XQ),.sc (.int .u64 x76),.sc (.int .u64 x79)] 0) fun x80=>Ae .u64 (List.getD x80 0 .top) fun X4=>Ae .u64 (List.getD x80 1 .top) fun x82=>Ab (Dv .u64 X4 x82) fun x83=>Ae .u64 (List.getD x80 2 .top) fun Zq=>Ab (Dv .u64 x83 Zq) fun x85=>Ae .u64 (List.getD x80 3 .top) fun x86=>Ab (Dv .u64 x85 x86) fun AM=>some (A2.mk [.sc (.int .u64 AM)] []))):=by kernel_rfl
theorem Ld (fu:Nat)(call:Ai)(a0 a1:Int)(Pd:Nat)(a2:List PV)(m0 nn y0:Nat)(y1:List PV)(y2 y3 y4:Int)(y5:List PV):Dz fu call a0 a1 Pd a2 m0 (nn+1) y0 y1 y2 y3 y4 y5=(Bd (decide (y4>=0)) (Ab (wrap .i64 (y2+y4)) fun x88=>Bd (decide (x88<(↑y0:Int))) (Ab (wrap .i64 (y2+y4)) fun x89=>An (decide (0<=x89)&&decide (x89<(↑y0:Int)))<|Ae .u8 (List.getD y1 (Int.toNat x89*1) .top) fun x90=>Ab (Jt .u64 y3 8) fun Zw=>Ab (wrap .u64 x90) fun Yi=>Ab (BV .u64 Zw Yi) fun x93=>Ab (wrap .i64 (y4-1)) fun x94=>Dz fu call a0 a1 Pd a2 m0 (nn) (y0) (y1) (y2) x93 x94 (y5)) (Bd (y4==7) (Ab (wrap .u8 (↑y0:Int)) fun x95=>Ab (Jt .u64 y3 8) fun x96=>Ab (wrap .u64 x95) fun x97=>Ab (BV .u64 x96 x97) fun BF=>Ab (wrap .i64 (y4-1)) fun x99=>Dz fu call a0 a1 Pd a2 m0 (nn) (y0) (y1) (y2) BF x99 (y5)) (Ab (Jt .u64 y3 8) fun Agc=>Ab (BV .u64 Agc 0) fun Ml=>Ab (wrap .i64 (y4-1)) fun Aco=>Dz fu call a0 a1 Pd a2 m0 (nn) (y0) (y1) (y2) Ml Aco (y5)))) (Ae .u64 (List.getD y5 3 .top) fun Aev=>Ab (Dv .u64 Aev y3) fun Aea=>An (decide (4<=y5.length))<|Ab (Bl y5 [.sc (.int .u64 Aea)] 3) fun GJ=>Ae .u64 (List.getD GJ 0 .top) fun Mm=>Ae .u64 (List.getD GJ 1 .top) fun Aex=>Ae .u64 (List.getD GJ 2 .top) fun Agy=>Ae .u64 (List.getD GJ 3 .top) fun Adb=>Af (call 73 [.agg [.sc (.int .u64 Mm),.sc (.int .u64 Aex),.sc (.int .u64 Agy),.sc (.int .u64 Adb)]]) fun Afm Aiw=>Ac Aiw<|Aa Afm fun Acp Adi=>Ge Acp fun Afw=>Aa Afw fun Adx Ag9=>Ae .u64 Adx fun Adu=>Aa Ag9 fun Aix Ab5=>Ae .u64 Aix fun Ace=>Aa Ab5 fun Ac7 Adg=>Ae .u64 Ac7 fun Ag8=>Aa Adg fun Aft Afl=>Ae .u64 Aft fun Ajy=>Ac Afl<|Ac Adi<|Af (call 73 [.agg [.sc (.int .u64 Adu),.sc (.int .u64 Ace),.sc (.int .u64 Ag8),.sc (.int .u64 Ajy)]]) fun Aat YN=>Ac YN<|Aa Aat fun Acy Ab2=>Ge Acy fun Aaj=>Aa Aaj fun Ad3 Ab8=>Ae .u64 Ad3 fun Adp=>Aa Ab8 fun Adh SF=>Ae .u64 Adh fun Agb=>Aa SF fun Acz Adl=>Ae .u64 Acz fun Ajf=>Aa Adl fun Ahz Ada=>Ae .u64 Ahz fun Ae4=>Ac Ada<|Ac Ab2<|An (decide (4<=GJ.length))<|Ab (Bl GJ [.sc (.int .u64 Adp),.sc (.int .u64 Agb),.sc (.int .u64 Ajf),.sc (.int .u64 Ae4)] 0) fun UC=>Ae .u64 (List.getD UC 0 .top) fun Afg=>Ab (Dv .u64 Afg y3) fun Aeg=>An (decide (1<=UC.length))<|Ab (Bl UC [.sc (.int .u64 Aeg)] 0) fun Xe=>Ab (wrap .i64 (y2+8)) fun Ys=>Er fu call a0 a1 Pd a2 (m0) (y0) (y1) Ys Xe)):=by kernel_rfl
theorem Xo {xs:FuncId->Option (List PV->Option A2)} (fu d:Nat)(a0 a1:Int)(Pd:Nat)(a2:List PV):Ag (CX xs) prog fu (d+1) Nx [.sc (.int .u64 a0),.sc (.int .u64 a1),.lst false 1 Pd a2]=(fun (call:Ai)=>Ab (Dv .u64 a0 8317987319222330741) fun x1=>Ab (Dv .u64 a1 7237128888997146477) fun x2=>Ab (Dv .u64 a0 7816392313619706465) fun x3=>Ab (Dv .u64 a1 8387220255154660723) fun x4=>Er fu call a0 a1 Pd a2 (fu) (Pd) (a2) 0 ([.sc (.int .u64 x1),.sc (.int .u64 x2),.sc (.int .u64 x3),.sc (.int .u64 x4)])) (Ag (CX xs) prog fu d):=by kernel_rfl
abbrev Oe:FuncId:=45
theorem Ws {xs:FuncId->Option (List PV->Option A2)} (fu d:Nat)(a0 a1:Int)(Pd:Nat)(a2:List PV):Ag (CX xs) prog fu (d+1) Oe [.sc (.int .u64 a0),.sc (.int .i64 a1),.lst false 1 Pd a2]=(fun (call:Ai)=>Ab (wrap .u64 a1) fun x1=>Ab (wrap .u64 (1+x1)) fun x2=>Af (call 56 [.sc (.int .u64 a0),.sc (.int .u64 x2),.lst false 1 Pd a2]) fun x3 x4=>Ac x4<|Aa x3 fun x5 x6=>Ae .u64 x5 fun x7=>Ac x6<|some (A2.mk [.sc (.int .u64 x7)] [])) (Ag (CX xs) prog fu d):=by kernel_rfl
abbrev Fh:FuncId:=47
noncomputable def D5 (fu:Nat)(call:Ai)(Ap:Nat)(a0:List PV)(nn y0:Nat)(y1:List PV)(y2:Nat)(y3:Int)(y4:List PV):Option A2:=Cu CB prog fu call 47 Try.f47 (Bw Try.f47) [.lst false 1 Ap a0] [.r,.r,.l,.r,.l] nn ⟨lk [(0,(.lst false 1 y0 y1)),(3,(.view 3 1 0 y2)),(4,(.sc (.int .i64 y3)))],Fx [(3,(.ar false y4))]⟩
noncomputable def E8 (fu:Nat)(call:Ai)(Ap:Nat)(a0:List PV)(m0 nn y0:Nat)(y1:List PV)(y2:Nat)(y3 y4:Int)(y5:List PV):Option A2:=Cu CB prog fu call 47 Try.f47 (Bw Try.f47) [.lst false 1 Ap a0] [.r,.r,.l,.r,.l,.i m0,.r,.l,.l,.r,.l] nn ⟨lk [(0,(.lst false 1 y0 y1)),(3,(.view 3 1 0 y2)),(4,(.sc (.int .i64 y3))),(5,(.sc (.int .i64 y4)))],Fx [(3,(.ar false y5))]⟩
theorem Jf (fu:Nat)(call:Ai)(Ap:Nat)(a0:List PV)(nn y0:Nat)(y1:List PV)(y2:Nat)(y3:Int)(y4:List PV):D5 fu call Ap a0 (nn+1) y0 y1 y2 y3 y4=(Bd (decide (y3<(↑y0:Int))) (E8 fu call Ap a0 nn (fu) (y0) (y1) (y2) (y3) 7 (y4)) (An (decide (y2*1<=y4.length))<|some (A2.mk [.own 1 y2 (List.take (y2*1) y4)] []))):=by kernel_rfl
theorem Jc (fu:Nat)(call:Ai)(Ap:Nat)(a0:List PV)(m0 nn y0:Nat)(y1:List PV)(y2:Nat)(y3 y4:Int)(y5:List PV):E8 fu call Ap a0 m0 (nn+1) y0 y1 y2 y3 y4 y5=(Bd (decide (y4>=0)) (An (decide (0<=y3)&&decide (y3<(↑y0:Int)))<|Ae .u64 (List.getD y1 (Int.toNat y3*1) .top) fun x1=>Ab (wrap .i64 (8*y4)) fun x2=>Ab (wrap .u64 x2) fun x3=>An (decide (0<=x3))<|Ab (GD .u64 x1 x3) fun x4=>Ab (wrap .u8 x4) fun x5=>An (decide (y2*1<=y5.length)&&true&&decide ((y2+1)*1<=1099511627776)&&decide (y2+1<=1099511627776))<|Ab (y2+1) fun x6=>Ab (List.take (y2*1) y5++[.sc (.int .u8 x5)]) fun x7=>Ab (wrap .i64 (y4-1)) fun x8=>E8 fu call Ap a0 m0 (nn) (y0) (y1) x6 (y3) x8 x7) (Ab (wrap .i64 (y3+1)) fun x9=>D5 fu call Ap a0 (m0) (y0) (y1) (y2) x9 (y5))):=by kernel_rfl
theorem Ul {xs:FuncId->Option (List PV->Option A2)} (fu d Ap:Nat)(a0:List PV):Ag (CX xs) prog fu (d+1) Fh [.lst false 1 Ap a0]=(fun (call:Ai)=>D5 fu call Ap a0 (fu) (Ap) (a0) 0 0 ([])) (Ag (CX xs) prog fu d):=by kernel_rfl
end
section
open Go.IntKind (wrap)
def rot (x k:Int):Int:=BV .u64 (Jt .u64 x k) (GD .u64 x (64-k))
structure W4 where
 a:Int
 b:Int
 c:Int
 d:Int
def W4.cells (v:W4):List PV:=[.sc (.int .u64 v.a),.sc (.int .u64 v.b),.sc (.int .u64 v.c),.sc (.int .u64 v.d)]
def Bij (v:W4):W4:=⟨rot (wrap .u64 (v.a+v.b)) 32,Dv .u64 (rot v.b 13) (wrap .u64 (v.a+v.b)),wrap .u64 (v.c+v.d),Dv .u64 (rot v.d 16) (wrap .u64 (v.c+v.d))⟩
def Bdi (v:W4):W4:=⟨wrap .u64 (v.a+v.d),Dv .u64 (rot v.b 17) (wrap .u64 (v.c+v.b)),rot (wrap .u64 (v.c+v.b)) 32,Dv .u64 (rot v.d 21) (wrap .u64 (v.a+v.d))⟩
def FK (v:W4):W4:=Bdi (Bij v)
def SK:Nat->W4->W4
 |0,v=>v
 |n+1,v=>SK n (FK v)
def At7 (r:W4)(m:Int):W4:=⟨Dv .u64 r.a m,r.b,r.c,r.d⟩
def O3 (v:W4)(m:Int):W4:=At7 (SK 2 ⟨v.a,v.b,v.c,Dv .u64 v.d m⟩) m
def Pj:List Int->Int
 |[]=>0
 |b::r=>b+256*Pj r
def FY:Nat->W4->List Int->W4
 |0,v,_=>v
 |n+1,v,l=>FY n (O3 v (Pj (l.take 8))) (l.drop 8)
def Aqr (k0 k1:Int):W4:=⟨Dv .u64 k0 8317987319222330741,Dv .u64 k1 7237128888997146477,Dv .u64 k0 7816392313619706465,Dv .u64 k1 8387220255154660723⟩
def YE (v:W4):W4:=SK 4 ⟨v.a,v.b,Dv .u64 v.c 255,v.d⟩
def ZM (v:W4):Int:=Dv .u64 (Dv .u64 (Dv .u64 v.a v.b) v.c) v.d
def Ly (l:List Int):Int:=Pj (l.drop (8*(l.length / 8)))+72057594037927936*((l.length:Int) % 256)
def Am6 (k0 k1:Int)(l:List Int):Int:=ZM (YE (O3 (FY (l.length / 8) (Aqr k0 k1) l) (Ly l)))
def BC (key dom:Int)(l:List Int):Int:=Am6 key (wrap .u64 (1+wrap .u64 dom)) l
def T0 (l:List Int):Prop:=∀b∈l,0<=b∧b<=255
theorem Rp:∀{l:List Int},T0 l->0<=Pj l∧Pj l<256 ^ l.length
 |[],_=>by simp[Pj]
 |b::r,h=>by
  have h1:=h b (by simp)
  have h2:=Rp (l:=r) fun x hx=>h x (by simp[hx])
  have h3:(256:Int) ^ (b::r).length=256 ^ r.length*256:=by rw[SV,Int.pow_succ]
  simp only[Pj];omega
theorem Vs:∀(l r:List Int),Pj (l++r)=Pj l+256 ^ l.length*Pj r
 |[],r=>by simp[Pj]
 |b::l,r=>by
  have ih:=Vs l r;simp only[List.cons_append,Pj,SV,Int.pow_succ];rw[ih,Int.mul_add];have:(256:Int)*(256 ^ l.length*Pj r)=256 ^ l.length*256*Pj r:=by rw[←Int.mul_assoc,Int.mul_comm 256]
  omega
theorem KQ {a c:Int}(k b:Nat)(h0:0<=a)(h1:a<((2 ^ k:Nat):Int)) (hc:c=((b*2 ^ k:Nat):Int)) (h:a+c<=18446744073709551615):BV .u64 a c=a+c∧BV .u64 c a=a+c:=by
 obtain⟨n,rfl⟩:=Int.eq_ofNat_of_zero_le h0;subst hc;have hn:n<2 ^ k:=by omega
 generalize hB:b*2 ^ k=m at h
 have e4:(BitVec.ofInt 64 (n:Int)).toNat=n:=by
  rw[BitVec.toNat_ofInt];omega
 have e5:(BitVec.ofInt 64 (m:Int)).toNat=m:=by
  rw[BitVec.toNat_ofInt];omega
 have e6:m ||| n=m+n:=by
  have:=Nat.shiftLeft_add_eq_or_of_lt hn b;rw[Nat.shiftLeft_eq,hB] at this;exact this.symm
 constructor
 ·show wrap .u64 ((BitVec.ofInt 64 (n:Int) ||| BitVec.ofInt 64 (m:Int)).toNat:Int)=_;rw[BitVec.toNat_or,e4,e5,Nat.or_comm,e6,D7 (by omega) (by omega)]
  omega
 ·show wrap .u64 ((BitVec.ofInt 64 (m:Int) ||| BitVec.ofInt 64 (n:Int)).toNat:Int)=_;rw[BitVec.toNat_or,e4,e5,e6,D7 (by omega) (by omega)]
  omega
theorem WI {a k:Int}(h0:0<=a)(hk:0<=k)(Jp:k<=64)(h:a*((2 ^ k.toNat:Nat):Int)<=18446744073709551615):Jt .u64 a k=a*((2 ^ k.toNat:Nat):Int):=by
 show wrap .u64 (a*2 ^ (min k.toNat IntKind.u64.bits))=_;have e:min k.toNat IntKind.u64.bits=k.toNat:=Nat.min_eq_left (by show k.toNat<=64;omega)
 have e2:(2:Int) ^ k.toNat=((2 ^ k.toNat:Nat):Int):=by simp
 rw[e,e2,D7 (Int.mul_nonneg h0 (Int.natCast_nonneg _)) h]
end
end Go.Proofs.Ytcgfahlefkfghaa.Pv
