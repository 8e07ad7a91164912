/-
  The proof of AccountNames, part 3.
-/
import Derived.Test.YteicjnihnacadaaNB
import Derived.StillTail
import Derived.WalkKit
import Derived.ProofKit
import Derived.OpenShut
import Derived.ShutString
import Derived.ChangeOld
import Derived.Below
import Derived.Deep.Slices
import Derived.ChangeSame
import Derived.WideKeyArgs
import Derived.Carry
import Derived.Test.YteicjnihnacadaaRows
set_option linter.unusedSimpArgs false
set_option linter.unusedVariables false
namespace Go.Proofs.Yteicjnihnacadaa.Pv
section
section
variable {R R':Type} {Rel:Option R->Option R'->Prop}
theorem F0 (hn:Rel none none){k:IntKind}{p:PV}{K:Int->Option R}{K':Int->Option R'}(hK:∀n,Rel (K n) (K' n)):Rel (Al k p K) (Al k p K'):=by
 unfold Al;split
 ·split<;>first|exact hK _|exact hn
 ·exact hn
theorem Cn (hn:Rel none none){p:PV}{K:IntKind->Int->Option R}{K':IntKind->Int->Option R'}(hK:∀k n,Rel (K k n) (K' k n)):Rel (B8 p K) (B8 p K'):=by
 unfold B8;split<;>first|exact hK _ _|exact hn
theorem Ew (hn:Rel none none){p:PV}{K:Bool->Option R}{K':Bool->Option R'}(hK:∀n,Rel (K n) (K' n)):Rel (Bb p K) (Bb p K'):=by
 unfold Bb;split<;>first|exact hK _|exact hn
theorem Ec (hn:Rel none none){p:PV}{K:ByteArray->Option R}{K':ByteArray->Option R'}(hK:∀n,Rel (K n) (K' n)):Rel (Et p K) (Et p K'):=by
 unfold Et;split<;>first|exact hK _|exact hn
theorem Dv (hn:Rel none none){es:Nat}{p:PV}{K:Bool->Nat->List PV->Option R}{K':Bool->Nat->List PV->Option R'}(hK:∀z n c,Rel (K z n c) (K' z n c)):Rel (Gs es p K) (Gs es p K'):=by
 unfold Gs;split
 ·rename_i es' _ _;cases Nat.beq es' es
  ·exact hn
  ·exact hK _ _ _
 ·exact hK _ _ _
 ·exact hn
theorem XT (hn:Rel none none){es:Nat}{p:PV}{K:PV->Option R}{K':PV->Option R'}(hK:∀p,Rel (K p) (K' p)):Rel (fsK es p K) (fsK es p K'):=by
 unfold fsK;split
 ·rename_i es' _ _;cases Nat.beq es' es
  ·exact hn
  ·exact hK _
 ·exact Dv hn fun _ _ _=>hK _
theorem MO (hn:Rel none none){es:Nat}{p:PV}{K:Nat->List PV->Option R}{K':Nat->List PV->Option R'}(hK:∀n c,Rel (K n c) (K' n c)):Rel (Ml es p K) (Ml es p K'):=by
 unfold Ml;split
 ·rename_i es' _ _;cases Nat.beq es' es
  ·exact hn
  ·exact hK _ _
 ·exact hn
theorem An (hn:Rel none none){b:Bool}{K:Option R}{K':Option R'}(hK:b=true->Rel K K'):Rel (Ao b K) (Ao b K'):=by
 cases b
 ·exact hn
 ·exact hK rfl
theorem V0 {b:Bool}{x y:Option R}{x' y':Option R'}(hx:Rel x x')(hy:Rel y y'):Rel (Cc b x y) (Cc b x' y'):=by
 cases b
 ·exact hy
 ·exact hx
theorem B6 (hn:Rel none none){α:Type}{o:Option α}{K:α->Option R}{K':α->Option R'}(hK:∀a,o=some a->Rel (K a) (K' a)):Rel (Da o K) (Da o K'):=by
 cases o
 ·exact hn
 ·exact hK _ rfl
theorem Av (hn:Rel none none){α:Type}{l:List α}{K:α->List α->Option R}{K':α->List α->Option R'}(hK:∀a r,l=a::r->Rel (K a r) (K' a r)):Rel (Ab l K) (Ab l K'):=by
 cases l
 ·exact hn
 ·exact hK _ _ rfl
theorem Dm (hn:Rel none none){α:Type}{l:List α}{K:Option R}{K':Option R'}(hK:Rel K K'):Rel (Ai l K) (Ai l K'):=by
 cases l
 ·exact hK
 ·exact hn
theorem Gx (hn:Rel none none){p:PV}{K:List PV->Option R}{K':List PV->Option R'}(hK:∀c,p=.agg c->Rel (K c) (K' c)):Rel (E7 p K) (E7 p K'):=by
 unfold E7;split
 ·exact hK _ rfl
 ·exact hn
theorem NP (hn:Rel none none){p:PV}{K:List PV->Option R}{K':List PV->Option R'}(hK:∀c,Rel (K c) (K' c)):Rel (Sl p K) (Sl p K'):=by
 unfold Sl;split
 ·exact hK _
 ·exact hn
theorem Z8 (hn:Rel none none){r:Option Bc}{K:List PV->List (List PV)->Option R} {K':List PV->List (List PV)->Option R'} (hK:∀v o,Rel (K v o) (K' v o)):Rel (Aq r K) (Aq r K'):=by
 unfold Aq;split
 ·exact hK _ _
 ·exact hn
theorem MI (hn:Rel none none){p:PV}{K:Value->Option R}{K':Value->Option R'}(hK:∀v,Rel (K v) (K' v)):Rel (RD p K) (RD p K'):=by
 unfold RD;split
 ·exact hK _
 ·exact hn
theorem ZZ (hn:Rel none none){p:PV}{K:FuncId->Option R}{K':FuncId->Option R'}(hK:∀v,Rel (K v) (K' v)):Rel (fvK p K) (fvK p K'):=by
 unfold fvK;split
 ·rename_i f a b;cases (a.isEmpty&&b.isEmpty)
  ·exact hn
  ·exact hK _
 ·exact hn
theorem Ks (hn:Rel none none){t:CT}{p:PV}{K:PV->Option R}{K':PV->Option R'}(hK:∀p,Rel (K p) (K' p)):Rel (T0 t p K) (T0 t p K'):=by
 unfold T0;split
 ·exact F0 hn fun _=>hK _
 ·exact Ew hn fun _=>hK _
 ·exact Ec hn fun _=>hK _
 ·exact Dv hn fun _ _ _=>hK _
 ·exact MI hn fun _=>hK _
theorem XP (hn:Rel none none){t:CT}{p:PV}{K:PV->Option R}{K':PV->Option R'}(hK:∀p,Rel (K p) (K' p)):Rel (fcK t p K) (fcK t p K'):=by
 unfold fcK;split
 ·exact XT hn hK
 ·exact Ks hn hK
theorem L8 (hn:Rel none none):∀{ts:List CT}{cells:List PV}{off:Nat}{K:List PV->Option R}{K':List PV->Option R'},(∀c,Rel (K c) (K' c))->Rel (Nt ts cells off K) (Nt ts cells off K')
 |[],_,_,_,_,hK=>hK _
 |_::_,_,_,_,_,hK=>Ks hn fun _=>L8 hn fun _=>hK _
theorem Kd (hn:Rel none none):∀{ts:List CT}{cells:List PV}{off:Nat}{K:List PV->Option R}{K':List PV->Option R'},(∀c,Rel (K c) (K' c))->Rel (Li ts cells off K) (Li ts cells off K')
 |[],_,_,_,_,hK=>hK _
 |_::_,_,_,_,_,hK=>XP hn fun _=>Kd hn fun _=>hK _
theorem Rb (hn:Rel none none){g:Bool}{cells:List PV}{K:PV->Option R}{K':PV->Option R'}(hK:∀p,Rel (K p) (K' p)):Rel (LL g cells K) (LL g cells K'):=by
 cases g
 ·exact Av hn fun _ _ _=>Dm hn (hK _)
 ·exact hK _
theorem XQ (hn:Rel none none){P:Program}{t:TypeId}{v:Value}{K:PV->Option R}{K':PV->Option R'}(hK:∀p,A5 p=[]->Rel (K p) (K' p)) (hK':∀c,Rel (K (.agg c)) (K' (.agg c))):Rel (cvK P t v K) (cvK P t v K'):=by
 unfold cvK;split
 ·exact An hn fun _=>L8 hn fun _=>hK' _
 ·split
  ·exact hK _ rfl
  ·exact hn
 ·exact hK _ rfl
theorem RV (hn:Rel none none){op:BinOp}{x y:Int}{K:Bool->Option R}{K':Bool->Option R'}(hK:∀n,Rel (K n) (K' n)):Rel (ZV op x y K) (ZV op x y K'):=by
 unfold ZV;split<;>first|exact hK _|exact hn
theorem JJ (hn:Rel none none){op:BinOp}{k:IntKind}{x y:Int}{K:PV->Option R}{K':PV->Option R'}(hK:∀n,Rel (K n) (K' n)):Rel (X9 op k x y K) (X9 op k x y K'):=by
 unfold X9;split<;>first|exact hK _|exact An hn fun _=>hK _|exact RV hn fun _=>hK _
theorem JN (hn:Rel none none){op:BinOp}{x y:ByteArray}{K:PV->Option R}{K':PV->Option R'}(hK:∀n,Rel (K n) (K' n)):Rel (Xb op x y K) (Xb op x y K'):=by
 unfold Xb;split<;>first|exact hK _|exact An hn fun _=>hK _|exact hn
theorem BB (hn:Rel none none){e:Bool}{p:PV}{K:PV->Option R}{K':PV->Option R'}(hK:∀n,Rel (K n) (K' n)):Rel (Wb e p K) (Wb e p K'):=by
 unfold Wb;split<;>first|exact hK _|exact V0 (hK _) (V0 (hK _) (hK _))|exact V0 (hK _) (hK _)|exact hn
theorem GU (hn:Rel none none):∀{ts:List CT}{ps qs:List PV}{K:Bool->Option R}{K':Bool->Option R'},(∀b,Rel (K b) (K' b))->Rel (Iu ts ps qs K) (Iu ts ps qs K'):=by
 intro ts
 induction ts with
 |nil=>
  intro ps qs K K' hK;cases ps<;>cases qs<;>first|exact hK _|exact hn
 |cons t ts ih=>
  intro ps qs K K' hK;cases ps with
  |nil=>cases t<;>cases qs<;>exact hn
  |cons p ps=>
   cases qs with
   |nil=>cases t<;>exact hn
   |cons q qs=>
    cases t
    ·exact F0 hn fun _=>F0 hn fun _=>ih fun _=>hK _
    ·exact Ew hn fun _=>Ew hn fun _=>ih fun _=>hK _
    ·exact Ec hn fun _=>Ec hn fun _=>ih fun _=>hK _
    ·exact hn
    ·exact hn
theorem UH (hn:Rel none none){P:Program}{op:BinOp}{t:TypeId}{x y:PV}{K:PV->Option R}{K':PV->Option R'}(hK:∀p,Rel (K p) (K' p)):Rel (UA P op t x y K) (UA P op t x y K'):=by
 unfold UA;split
 ·split
  ·exact F0 hn fun _=>Cn hn fun _ _=>An hn fun _=>hK _
  ·exact F0 hn fun _=>Cn hn fun _ _=>An hn fun _=>hK _
  ·exact F0 hn fun _=>F0 hn fun _=>JJ hn hK
 ·exact Ec hn fun _=>Ec hn fun _=>JN hn hK
 ·split
  ·exact Ew hn fun _=>Ew hn fun _=>hK _
  ·exact Ew hn fun _=>Ew hn fun _=>hK _
  ·exact hn
 ·split
  ·exact BB hn fun _=>hK _
  ·exact BB hn fun _=>hK _
  ·exact hn
 ·exact hn
theorem EZ (hn:Rel none none){P:Program}{op:BinOp}{t:TypeId}{x y:PV}{K:PV->Option R}{K':PV->Option R'}(hK:∀p,Rel (K p) (K' p)):Rel (Ot P op t x y K) (Ot P op t x y K'):=by
 unfold Ot;split
 ·split
  ·exact An hn fun _=>Gx hn fun _ _=>Gx hn fun _ _=>GU hn fun _=>hK _
  ·exact An hn fun _=>Gx hn fun _ _=>Gx hn fun _ _=>GU hn fun _=>hK _
  ·exact hn
 ·exact UH hn hK
theorem ZD (hn:Rel none none){op:UnOp}{x:PV}{K:PV->Option R}{K':PV->Option R'}(hK:∀p,Rel (K p) (K' p)):Rel (unK op x K) (unK op x K'):=by
 unfold unK;split<;>first|exact Ew hn fun _=>hK _|exact Cn hn fun _ _=>hK _|exact hn
theorem Ck (hn:Rel none none){p:Option PV}{d:Nat}{K:Nat->Option R}{K':Nat->Option R'}(hK:∀n,Rel (K n) (K' n)):Rel (Ey p d K) (Ey p d K'):=by
 unfold Ey;split
 ·exact hK _
 ·exact Cn hn fun _ _=>An hn fun _=>hK _
theorem Tj (hn:Rel none none){x:PV}{d:Nat}{K:PV->Option R}{K':PV->Option R'}(hK:∀n,Rel (K n) (K' n)):Rel (Oa x d K) (Oa x d K'):=by
 unfold Oa;split<;>first|exact hK _|exact hn
theorem Yb (hn:Rel none none){P:Program}{t:TypeId}{x:PV}{i:Int}{K:PV->Option R}{K':PV->Option R'}(hK:∀p,Rel (K p) (K' p)):Rel (H3 P t x i K) (H3 P t x i K'):=by
 unfold H3;split
 ·exact An hn fun _=>An hn fun _=>Tj hn hK
 ·refine An hn fun _=>?_
  split
  ·exact An hn fun _=>An hn fun _=>hK _
  ·exact Dv hn fun _ _ _=>An hn fun _=>hK _
 ·exact hn
theorem S7 (hn:Rel none none){Ep:Nat->Option (Nat × Nat)}:∀{ps:List (Nat × PV)} {cells:List PV}{K:List PV->Option R}{K':List PV->Option R'},(∀c,Rel (K c) (K' c))->Rel (Ns Ep ps cells K) (Ns Ep ps cells K')
 |[],_,_,_,hK=>hK _
 |(_,_)::_,_,_,_,hK=>B6 hn fun _ _=>An hn fun _=>S7 hn hK
theorem Oj (hn:Rel none none){P:Program}{t:TypeId}{K:List PV->Option R}{K':List PV->Option R'}(hK:∀p,Rel (K p) (K' p)):Rel (E1 P t K) (E1 P t K'):=
 B6 hn fun _ _=>An hn fun _=>L8 hn hK
theorem UN (hn:Rel none none){x y:PV}{K:PV->Option R}{K':PV->Option R'}(hK:∀p,Rel (K p) (K' p)):Rel (ZJ x y K) (ZJ x y K'):=
 Cn hn fun _ _=>F0 hn fun _=>hK _
theorem TN (hn:Rel none none){x y:PV}{K:PV->Option R}{K':PV->Option R'}(hK:∀p,Rel (K p) (K' p)):Rel (XK x y K) (XK x y K'):=
 Cn hn fun _ _=>F0 hn fun _=>hK _
theorem WJ (hn:Rel none none){P:Program}{t:TypeId}{x:PV}{K:Nat->Option R}{K':Nat->Option R'}(hK:∀p,Rel (K p) (K' p)):Rel (ON P t x K) (ON P t x K'):=by
 unfold ON;split
 ·exact Ec hn fun _=>hK _
 ·exact hK _
 ·split
  ·exact An hn fun _=>hK _
  ·exact Dv hn fun _ _ _=>hK _
 ·exact hn
def DV (Rel:Option R->Option R'->Prop)(f f':Nat->Option (List PV)) (l:List Nat):Prop:=∀i∈l,f i=f' i∨(f i=none∧∀b,Rel none b)
variable {f f':Nat->Option (List PV)}
theorem DV.sub {l l':List Nat}(h:DV Rel f f' l)(hs:∀i∈l',i∈l):DV Rel f f' l':=fun i hi=>h i (hs i hi)
theorem Rm (hn:Rel none none){l:List Nat}{id:Nat}(hf:DV Rel f f' l)(hi:id∈l){K:List PV->Option R}{K':List PV->Option R'}(hK:∀c,f id=some c->Rel (K c) (K' c)):Rel (Da (f id) K) (Da (f' id) K'):=by
 rcases hf id hi with h|⟨h,hb⟩
 ·rw[←h];exact B6 hn hK
 ·rw[h];exact hb _
theorem R9 (hn:Rel none none){es:Nat}{p:PV}{K:Nat->List PV->Option R}{K':Nat->List PV->Option R'}(hf:DV Rel f f' (Aj p)) (hK:∀n c,Rel (K n c) (K' n c)):Rel (II f es p K) (II f' es p K'):=by
 unfold II;split
 ·rename_i id es' off n;cases Nat.beq es' es
  ·exact hn
  ·exact Rm hn hf (by simp[Aj]) fun _ _=>An hn fun _=>hK _ _
 ·exact Dv hn fun _ _ _=>hK _ _
theorem WD (hn:Rel none none){t:CT}{p:PV}{K:PV->List Nat->Option R}{K':PV->List Nat->Option R'}(hf:DV Rel f f' (Aj p)) (hK:∀c m,(∀i∈m,f i≠none)->Rel (K c m) (K' c m)):Rel (Km f t p K) (Km f' t p K'):=by
 unfold Km;split
 ·split
  ·rename_i id es' off n;cases Nat.beq es' _
   ·exact hn
   ·exact Rm hn hf (by simp[Aj]) fun c hc=>An hn fun _=>hK _ _ (by simp[hc])
  ·exact Dv hn fun _ _ _=>hK _ _ (by simp)
 ·exact Ks hn fun _=>hK _ _ (by simp)
theorem O4 (hn:Rel none none):∀{ts:List CT}{ps:List PV}{K:List PV->List Nat->Option R}{K':List PV->List Nat->Option R'},DV Rel f f' (ps.flatMap Aj)->(∀c m,(∀i∈m,f i≠none)->Rel (K c m) (K' c m))->Rel (Kf f ts ps K) (Kf f' ts ps K')
 |[],[],_,_,_,hK=>hK _ _ (by simp)
 |[],_::_,_,_,_,_=>hn
 |_::_,[],_,_,_,_=>hn
 |_::_,p::ps,_,_,hf,hK=>WD hn (fun i hi=>hf i (by simp only[List.flatMap_cons,List.mem_append];exact .inl hi)) fun _ m hm=>O4 hn (fun i hi=>hf i (by simp only[List.flatMap_cons,List.mem_append];exact .inr hi)) fun _ ms W7=>hK _ _ fun i hi=>by
   rcases List.mem_append.1 hi with h|h
   ·exact hm i h
   ·exact W7 i h
theorem UO (hn:Rel none none){P:Program}{t:TypeId}{p:PV}{K:PV->List Nat->Option R}{K':PV->List Nat->Option R'}(hf:DV Rel f f' (Bh p)) (hK:∀c m,(∀i∈m,f i≠none)->Rel (K c m) (K' c m)):Rel (JH P f t p K) (JH P f' t p K'):=by
 unfold JH
 have h1:∀i,i∈[p].flatMap Aj->i∈Bh p:=by
  intro i hi;simp only[List.flatMap_cons,List.flatMap_nil,List.append_nil] at hi;cases p<;>first|exact hi|simp[Aj] at hi
 cases A7 P t
 ·exact O4 hn (fun i hi=>hf i (h1 i hi)) fun _ _ hm=>Av hn fun _ _ _=>Dm hn (hK _ _ hm)
 ·refine Gx hn fun c hc=>?_
  subst hc;exact O4 hn (fun i hi=>hf i hi) fun _ _ hm=>hK _ _ hm
theorem Z9 (hn:Rel none none){P:Program}:∀{ts:List TypeId}{ps:List PV}{K:List PV->List Nat->Option R}{K':List PV->List Nat->Option R'},DV Rel f f' (ps.flatMap Bh)->(∀c m,(∀i∈m,f i≠none)->Rel (K c m) (K' c m))->Rel (Xd P f ts ps K) (Xd P f' ts ps K')
 |[],[],_,_,_,hK=>hK _ _ (by simp)
 |[],_::_,_,_,_,_=>hn
 |_::_,[],_,_,_,_=>hn
 |_::_,p::ps,_,_,hf,hK=>UO hn (fun i hi=>hf i (by simp only[List.flatMap_cons,List.mem_append];exact .inl hi)) fun _ m hm=>Z9 hn (fun i hi=>hf i (by simp only[List.flatMap_cons,List.mem_append];exact .inr hi)) fun _ ms W7=>hK _ _ fun i hi=>by
   rcases List.mem_append.1 hi with h|h
   ·exact hm i h
   ·exact W7 i h
theorem IL (hn:Rel none none){P:Program}{t:TypeId}{x:PV}{lo hi:Option PV}{K:PV->Option R}{K':PV->Option R'}(hf:(∃n e,P.underlying t=some (.array n e))->DV Rel f f' (Aj x)) (hK:∀c,Rel (K c) (K' c)):Rel (Te P f t x lo hi K) (Te P f' t x lo hi K'):=by
 unfold Te;split
 ·exact Ec hn fun _=>Ck hn fun _=>Ck hn fun _=>An hn fun _=>hK _
 ·refine An hn fun _=>?_
  split
  ·exact An hn fun _=>Ck hn fun _=>Ck hn fun _=>An hn fun _=>hK _
  ·exact Dv hn fun _ _ _=>Ck hn fun _=>Ck hn fun _=>An hn fun _=>hK _
 ·rename_i n e hu;refine An hn fun _=>?_
  split
  ·rename_i id off;exact Rm hn (hf ⟨_,_,hu⟩) (by simp[Aj]) fun _ _=>An hn fun _=>Ck hn fun _=>Ck hn fun _=>An hn fun _=>hK _
  ·exact hn
 ·exact hn
theorem ER (hn:Rel none none){P:Program}{d:Nat}{t:TypeId}{x:PV}{lo hi mx:Option PV}{K:PV->List (Nat × A1)->Option R} {K':PV->List (Nat × A1)->Option R'} (hK:∀c,Rel (K c [(d,.ar false [])]) (K' c [(d,.ar false [])])):Rel (Ou P d t x lo hi mx K) (Ou P d t x lo hi mx K'):=by
 unfold Ou;split
 ·refine An hn fun _=>?_
  split
  ·exact An hn fun _=>Ck hn fun _=>Ck hn fun _=>Ck hn fun _=>An hn fun _=>hK _
  ·exact Dv hn fun _ _ _=>Ck hn fun _=>Ck hn fun _=>Ck hn fun _=>An hn fun _=>hK _
 ·exact hn
theorem Ze {nz:Bool}{g g':Nat->Option (List PV)} (hn:Rel none none){P:Program}{t:TypeId}{x:PV}{K:PV->Option R}{K':PV->Option R'}(hf:∀i∈Aj x,(f i=f' i∧g i=g' i)∨(f i=none∧g i=none∧∀b,Rel none b)) (hK:∀c,Rel (K c) (K' c)):Rel (Rz nz P f g t x K) (Rz nz P f' g' t x K'):=by
 unfold Rz;split
 ·rename_i id off;refine An hn fun _=>?_
  rcases hf id (by simp[Aj]) with⟨h1,h2⟩|⟨h1,h2,h3⟩
  ·rw[←h1,←h2];split
   ·exact L8 hn fun _=>Rb hn fun _=>hK _
   ·exact B6 hn fun _ _=>Kd hn fun _=>Rb hn hK
  ·rw[h1,h2];exact h3 _
 ·exact An hn fun _=>L8 hn fun _=>Rb hn fun _=>hK _
 ·exact hn
theorem OR (hn:Rel none none){P:Program}{d:Nat}{src dst:TypeId}{x:PV}{K:PV->List (Nat × A1)->Option R} {K':PV->List (Nat × A1)->Option R'} (hf:P.underlying dst=some .string->DV Rel f f' (Aj x)) (hK:∀v b,(∀q∈b,q.1=d)->Rel (K v b) (K' v b)):Rel (W2 P f d src dst x K) (W2 P f' d src dst x K'):=by
 unfold W2;split
 ·exact An hn fun _=>Cn hn fun _ _=>hK _ _ (by simp)
 ·rename_i hds;split
  ·exact Ec hn fun _=>hK _ _ (by simp)
  ·split
   ·exact R9 hn (hf hds) fun _ _=>An hn fun _=>B6 hn fun _ _=>hK _ _ (by simp)
   ·exact hn
  ·exact hn
 ·split
  ·exact Ec hn fun _=>An hn fun _=>hK _ _ (by simp)
  ·exact hn
 ·exact hn
theorem UZ (hn:Rel none none){shr:Bool}{id:Nat}{t:CT}{p:PV}{K:PV->List (Nat × A1)->Option R} {K':PV->List (Nat × A1)->Option R'} (hK:∀c b,(∀q∈b,q.1=id)->Rel (K c b) (K' c b)):Rel (UC shr id t p K) (UC shr id t p K'):=by
 unfold UC;split
 ·cases shr
  ·exact MO hn fun _ _=>hK _ _ (by simp)
  ·exact Dv hn fun _ _ _=>hK _ _ (by simp)
 ·exact Ks hn fun _=>hK _ _ (by simp)
theorem Oz (hn:Rel none none){shr:Bool}{N:Nat}:∀{ts:List CT}{id:Nat}{ps:List PV}{K:List PV->List (Nat × A1)->Option R} {K':List PV->List (Nat × A1)->Option R'},(∀c b,(∀q∈b,∃j,q.1=id+N*j)->Rel (K c b) (K' c b))->Rel (Mf shr N id ts ps K) (Mf shr N id ts ps K')
 |[],_,_,_,_,hK=>Dm hn (hK _ _ (by simp))
 |_::_,id,_,_,_,hK=>Av hn fun _ _ _=>UZ hn fun _ b hb=>Oz hn fun _ bs Yn=>hK _ _ fun q hq=>by
   rcases List.mem_append.1 hq with h|h
   ·exact⟨0,by rw[hb q h];simp⟩
   ·obtain⟨j,hj⟩:=Yn q h;exact⟨j+1,by rw[hj,Nat.mul_add];omega⟩
theorem SK (hn:Rel none none){P:Program}{shr:Bool}{N id:Nat}{t:TypeId}{p:PV}{K:PV->List (Nat × A1)->Option R} {K':PV->List (Nat × A1)->Option R'} (hK:∀c b,(∀q∈b,∃j,q.1=id+N*j)->Rel (K c b) (K' c b)):Rel (PK P shr N id t p K) (PK P shr N id t p K'):=by
 unfold PK;split
 ·refine NP hn fun ps=>Oz hn fun _ _ hb=>hK _ _ fun q hq=>?_
  rcases List.mem_cons.1 hq with rfl|hq
  ·exact⟨0,by simp⟩
  ·obtain⟨j,hj⟩:=hb q hq;exact⟨j+1,by rw[hj,Nat.mul_add];omega⟩
 cases A7 P t
 ·exact Oz hn fun _ _ hb=>Av hn fun _ _ _=>Dm hn (hK _ _ hb)
 ·exact Gx hn fun _ _=>Oz hn fun _ _ hb=>hK _ _ hb
theorem Tb (hn:Rel none none){P:Program}{shr:Bool}{N:Nat}:∀{ts:List TypeId}{id:Nat}{ps:List PV}{K:List PV->List (Nat × A1)->Option R} {K':List PV->List (Nat × A1)->Option R'},(∀c b,(∀q∈b,∃j,q.1=id+N*j)->Rel (K c b) (K' c b))->Rel (U6 P shr N id ts ps K) (U6 P shr N id ts ps K')
 |[],_,_,_,_,hK=>Dm hn (hK _ _ (by simp))
 |t::_,id,_,_,_,hK=>Av hn fun _ _ _=>SK hn fun _ b hb=>Tb hn fun _ bs Yn=>hK _ _ fun q hq=>by
   rcases List.mem_append.1 hq with h|h
   ·exact hb q h
   ·obtain⟨j,hj⟩:=Yn q h;exact⟨EU P t+j,by rw[hj,Nat.mul_add];omega⟩
end
theorem N8 {p:PV}{i:Nat}(h:i∈Aj p):i∈Bh p:=by cases p<;>first|exact h|simp[Aj] at h
theorem D3 {p:PV}{i:Nat}(h:i∈Bh p):i∈A5 p:=by cases p<;>first|exact h|simp[Bh,Aj] at h
theorem Hz {p:PV}{i:Nat}(h:i∈Aj p):i∈A5 p:=D3 (N8 h)
section
variable {R R':Type} {Rel:Option R->Option R'->Prop} {P:Program} {N:Nat} {tm tm':Nat->PV} {f f' g g':Nat->Option (List PV)} {o:Oper}
theorem X7 (hn:Rel none none){t:TypeId}{x:Operand}{K:PV->Option R}{K':PV->Option R'}(hx:A8 tm x=A8 tm' x)(hK:∀p,Rel (K p) (K' p)):Rel (Ub P t tm x K) (Ub P t tm' x K'):=by
 unfold Ub;split
 ·exact XQ hn (fun _ _=>hK _) (fun _=>hK _)
 ·rw[hx];exact hK _
theorem VA (hn:Rel none none){t:CT}{p:PV}{K:PV->Option R}{K':PV->Option R'}(hK:∀p,Aj p=[]->Rel (K p) (K' p)):Rel (T0 t p K) (T0 t p K'):=by
 unfold T0;split
 ·exact F0 hn fun _=>hK _ rfl
 ·exact Ew hn fun _=>hK _ rfl
 ·exact Ec hn fun _=>hK _ rfl
 ·exact Dv hn fun _ _ _=>hK _ rfl
 ·exact MI hn fun _=>hK _ rfl
theorem AQ (hn:Rel none none):∀{ts:List CT}{cells:List PV}{off:Nat}{K:List PV->Option R}{K':List PV->Option R'},(∀c,(∀p∈c,Aj p=[])->Rel (K c) (K' c))->Rel (Nt ts cells off K) (Nt ts cells off K')
 |[],_,_,_,_,hK=>hK _ (by simp)
 |_::_,_,_,_,_,hK=>VA hn fun c hc=>AQ hn fun cs P6=>hK _ (by
   intro p hp;rcases List.mem_cons.1 hp with h|h
   ·rw[h];exact hc
   ·exact P6 p h)
theorem R7 (hn:Rel none none){t:TypeId}{K:List PV->Option R}{K':List PV->Option R'}(hK:∀c,(∀p∈c,Aj p=[])->Rel (K c) (K' c)):Rel (E1 P t K) (E1 P t K'):=
 B6 hn fun _ _=>An hn fun _=>AQ hn hK
theorem N6 {p c:PV}(h:c∈cellsOf p){i:Nat}(hi:i∈Aj c):i∈Bh p:=by
 unfold cellsOf at h;split at h
 ·exact List.mem_flatMap.2 ⟨c,h,hi⟩
 ·simp at h;subst h;exact N8 hi
theorem JF {cells new:List PV}{off:Nat}{c:PV}(h:c∈A2 cells new off):c∈cells∨c∈new:=by
 unfold A2 at h;rcases List.mem_append.1 h with h|h
 ·rcases List.mem_append.1 h with h|h
  ·exact .inl (List.mem_of_mem_take h)
  ·exact .inr h
 ·exact .inl (List.mem_of_mem_drop h)
theorem Xg (hn:Rel none none){Ep:Nat->Option (Nat × Nat)} {S:Nat->Prop}:∀{ps:List (Nat × PV)} {cells:List PV}{K:List PV->Option R}{K':List PV->Option R'},(∀c∈cells,∀i∈Aj c,S i)->(∀q∈ps,∀i∈Bh q.2,S i) ->
  (∀cs,(∀c∈cs,∀i∈Aj c,S i)->Rel (K cs) (K' cs))->Rel (Ns Ep ps cells K) (Ns Ep ps cells K')
 |[],_,_,_,h1,_,hK=>hK _ h1
 |(_,p)::_,_,_,_,h1,h2,hK=>B6 hn fun _ _=>An hn fun _=>Xg hn (fun c hc i hi=>by
   rcases JF hc with h|h
   ·exact h1 c h i hi
   ·exact h2 (_,p) List.mem_cons_self i (N6 h hi)) (fun q hq=>h2 q (List.mem_cons_of_mem _ hq)) hK
theorem Uw (hn:Rel none none):∀{ts:List CT}{ps:List PV}{K:List PV->List Nat->Option R}{K':List PV->List Nat->Option R'},(∀t∈ts,∀es,t ≠ .sl es)->(∀c,Rel (K c []) (K' c []))->Rel (Kf g ts ps K) (Kf g' ts ps K')
 |[],[],_,_,_,hK=>hK _
 |[],_::_,_,_,_,_=>hn
 |_::_,[],_,_,_,_=>hn
 |t::ts,p::ps,K,K',ht,hK=>by
  show Rel (Km g t p _) (Km g' t p _)
  have:∀{g:Nat->Option (List PV)} {S:Type} {L:PV->List Nat->Option S},Km g t p L=T0 t p fun c=>L c []:=by
   intro g S L;cases t with
   |sl es=>exact absurd rfl (ht _ (by simp) es)
   |_=>rfl
  rw[this,this];exact Ks hn fun c=>Uw hn (fun t h=>ht t (by simp[h])) fun cs=>hK _
theorem RU (hn:Rel none none){es:Nat}{t:TypeId}{x:PV}{K:Nat->List PV->Option R}{K':Nat->List PV->Option R'}(hx:DV Rel g g' (Aj x)) (hK:∀m c,Rel (K m c) (K' m c)):Rel (KX P g es t x K) (KX P g' es t x K'):=by
 unfold KX;split
 ·exact An hn fun _=>Ec hn fun _=>hK _ _
 ·exact R9 hn hx hK
 ·exact hn
theorem TE (hn:Rel none none){t:TypeId}{x:PV}{K:Nat->Option R}{K':Nat->Option R'}(hK:∀n,Rel (K n) (K' n)):Rel (PI P t x K) (PI P t x K'):=by
 unfold PI;split
 ·exact Dv hn fun _ _ _=>An hn fun _=>hK _
 ·exact hn
theorem GZ (hn:Rel none none){d:Nat}{t tx:TypeId}{x:PV}{K:PV->List (Nat × A1)->Option R} {K':PV->List (Nat × A1)->Option R'} (hx:DV Rel g g' (Aj x)) (hK:∀v nw,Rel (K v nw) (K' v nw)):Rel (Ow P g d t tx x K) (Ow P g' d t tx x K'):=by
 unfold Ow;split
 ·exact An hn fun _=>RU hn hx fun _ _=>An hn fun _=>hK _ _
 ·exact hn
theorem W8 (hn:Rel none none){C:E9}{call:Ah}{K:PV->List Nat->List (Nat × A1)->Option R} {K':PV->List Nat->List (Nat × A1)->Option R'}
  (Ho:∀x∈o.op.operands.toList,A8 tm x=A8 tm' x)
  (hfg:Fj P o.op=true->∀x∈o.op.operands.toList,∀i∈A5 (A8 tm' x),(f i=f' i∧g i=g' i)∨(f i=none∧g i=none∧∀b,Rel none b))
  (hK:∀v fz nw,(Fj P o.op=false->fz=[]∧∀q∈nw,o.dst=some q.1)->(∀i∈fz,g i≠none)->Rel (K v fz nw) (K' v fz nw)):
  Rel (Ws C P N call tm f g o K) (Ws C P N call tm' f' g' o K'):=by
 have h0:∀v,Rel (K v [] []) (K' v [] []):=fun v=>hK v [] [] (fun _=>⟨rfl,by simp⟩) (by simp)
 have hf:Fj P o.op=true->∀x∈o.op.operands.toList,DV Rel f f' (A5 (A8 tm' x)):=fun h x hx i hi=>(hfg h x hx i hi).imp (·.1) fun h=>⟨h.1,h.2.2⟩
 have hg:Fj P o.op=true->∀x∈o.op.operands.toList,DV Rel g g' (A5 (A8 tm' x)):=fun h x hx i hi=>(hfg h x hx i hi).imp (·.2) fun h=>⟨h.2.1,h.2.2⟩
 unfold Ws;generalize RK:o.op=op at *
 split
 ·exact X7 hn (Ho _ (by simp[Op.operands])) h0
 ·exact X7 hn (Ho _ (by simp[Op.operands])) h0
 ·rename_i c x y;rw[Ho c (by simp[Op.operands]),Ho x (by simp[Op.operands]),Ho y (by simp[Op.operands])]
  exact Ew hn fun _=>V0 (h0 _) (h0 _)
 ·exact B6 hn fun d hd=>Oj hn fun _=>hK _ _ _ (fun _=>⟨rfl,by simp[hd]⟩) (by simp)
 ·rename_i t x;rw[Ho x (by simp[Op.operands])]
  refine B6 hn fun d hd=>An hn fun _=>?_
  cases N9 P t
  ·exact Kd hn fun _=>hK _ _ _ (fun _=>⟨rfl,by simp[hd]⟩) (by simp)
  ·exact L8 hn fun _=>hK _ _ _ (fun _=>⟨rfl,by simp[hd]⟩) (by simp)
 ·rename_i t ps
  have:(ps.toList.map fun q=>(q.1,A8 tm q.2))=ps.toList.map fun q=>(q.1,A8 tm' q.2):=by
   apply List.map_congr_left;intro q hq;rw[Ho q.2 (by simp only[Op.operands];exact List.mem_map_of_mem hq)]
  rw[this];exact An hn fun _=>Oj hn fun _=>S7 hn fun _=>Kd hn fun _=>h0 _
 ·rename_i t n ps
  have:(ps.toList.map fun q=>(q.1,A8 tm q.2))=ps.toList.map fun q=>(q.1,A8 tm' q.2):=by
   apply List.map_congr_left;intro q hq;rw[Ho q.2 (by simp only[Op.operands];exact List.mem_map_of_mem hq)]
  rw[this];refine B6 hn fun d hd=>?_
  split
  ·rename_i e hu;cases HK:Gy P [e]
   ·refine An hn fun _=>R7 hn fun z hz=>S7 hn fun cs=>Uw hn ?_ fun cs'=>hK _ _ _ (fun _=>⟨rfl,by simp[hd]⟩) (by simp)
    intro c hc es he;obtain⟨l,hl,hc⟩:=List.mem_flatten.1 hc;rw[List.eq_of_mem_replicate hl] at hc;subst he
    have:Gy P [e]=true:=by
     unfold Gy;simp only[List.any_cons,List.any_nil,Bool.or_false,Bool.or_eq_true];exact .inr (List.any_eq_true.2 ⟨_,hc,rfl⟩)
    rw[this] at HK;cases HK
   refine An hn fun _=>R7 hn fun z hz=>Xg (S:=fun i=>∃x∈(Op.buildSlice t n ps).operands.toList,i∈A5 (A8 tm' x)) hn ?_ ?_ fun cs P6=>?_
   ·intro c hc i hi;obtain⟨l,hl,hc⟩:=List.mem_flatten.1 hc;rw[List.eq_of_mem_replicate hl] at hc;rw[hz c hc] at hi;simp at hi
   ·intro q hq i hi;obtain⟨q',D4,rfl⟩:=List.mem_map.1 hq;exact⟨q'.2,by simp only[Op.operands];exact List.mem_map_of_mem D4,D3 hi⟩
   ·refine O4 hn (fun i hi=>?_) fun cs' m hm=>hK _ _ _ (fun h=>by simp[Fj,hu,HK] at h) hm
    obtain⟨c,hc,hi⟩:=List.mem_flatMap.1 hi;obtain⟨x,hx,hxi⟩:=P6 c hc i hi;exact hg (by simp[Fj,hu,HK]) x hx i hxi
  ·exact hn
 ·rename_i t x;rw[Ho x (by simp[Op.operands])]
  exact Ze hn (fun i hi=>hfg (by simp[Fj]) x (by simp[Op.operands]) i (Hz hi)) h0
 ·rename_i x;rw[Ho x (by simp[Op.operands])]
  exact Tj hn h0
 ·rename_i op' t x y _;rw[Ho x (by simp[Op.operands]),Ho y (by simp[Op.operands])]
  exact EZ hn h0
 ·rename_i op' t x;rw[Ho x (by simp[Op.operands])]
  exact ZD hn h0
 ·rename_i src dst x;rw[Ho x (by simp[Op.operands])]
  exact OR hn (fun hds i hi=>hg (by simp[Fj,hds]) x (by simp[Op.operands]) i (Hz hi)) fun v b hb=>B6 hn fun d hd=>hK _ _ _ (fun _=>⟨rfl,fun q hq=>by rw[hd,hb q hq,hd];rfl⟩) (by simp)
 ·rename_i t x y;rw[Ho x (by simp[Op.operands]),Ho y (by simp[Op.operands])]
  refine B6 hn fun d hd=>?_
  split
  ·exact Cn hn fun _ _=>Cn hn fun _ _=>An hn fun _=>Oj hn fun _=>hK _ _ _ (fun _=>⟨rfl,by simp[hd]⟩) (by simp)
  ·exact hn
 ·rename_i t x lo hi mx;split
  ·rw[Ho x (by simp[Op.operands])]
   have h1:lo.map (A8 tm)=lo.map (A8 tm'):=by
    cases lo with
    |none=>rfl
    |some y=>simp only[Option.map_some];rw[Ho y (by simp[Op.operands])]
   have h2:hi.map (A8 tm)=hi.map (A8 tm'):=by
    cases hi with
    |none=>rfl
    |some y=>simp only[Option.map_some];rw[Ho y (by simp[Op.operands])]
   rw[h1,h2];exact IL hn (fun ⟨n,e,he⟩ i hi=>hf (by simp[Fj,he]) x (by simp[Op.operands]) i (Hz hi)) h0
  ·rename_i m;rw[Ho x (by simp[Op.operands])]
   have h1:lo.map (A8 tm)=lo.map (A8 tm'):=by
    cases lo with
    |none=>rfl
    |some y=>simp only[Option.map_some];rw[Ho y (by simp[Op.operands])]
   have h2:hi.map (A8 tm)=hi.map (A8 tm'):=by
    cases hi with
    |none=>rfl
    |some y=>simp only[Option.map_some];rw[Ho y (by simp[Op.operands])]
   rw[h1,h2,Ho m (by simp[Op.operands])]
   exact B6 hn fun d hd=>ER hn fun c=>hK _ _ _ (fun _=>⟨rfl,by simp[hd]⟩) (by simp)
 ·rename_i t x fl;rw[Ho x (by simp[Op.operands])]
  exact B6 hn fun _ _=>An hn fun _=>Tj hn h0
 ·rename_i t x fl;rw[Ho x (by simp[Op.operands])]
  exact B6 hn fun _ _=>An hn fun _=>Gx hn fun _ _=>Kd hn fun _=>Rb hn h0
 ·rename_i t x i;rw[Ho x (by simp[Op.operands]),Ho i (by simp[Op.operands])]
  exact Cn hn fun _ _=>Yb hn h0
 ·rename_i t x i;rw[Ho x (by simp[Op.operands]),Ho i (by simp[Op.operands])]
  refine Cn hn fun _ _=>?_
  split
  ·exact Ec hn fun _=>An hn fun _=>B6 hn fun _ _=>h0 _
  ·exact Gx hn fun _ _=>An hn fun _=>Kd hn fun _=>Rb hn h0
  ·exact hn
 ·rename_i x i;rw[Ho x (by simp[Op.operands])]
  split
  ·exact B6 hn fun _ _=>h0 _
  ·exact hn
 ·rename_i c
  have H2:∀x∈c.args.toList,x∈(Op.call c).operands.toList:=by
   intro x hx;simp only[Op.operands,Call.operands,Array.toList_append,List.mem_append];exact .inr hx
  have rc:∀fn,Fj P (.call c)=true->Rel (Xm C P N call tm g o c fn K) (Xm C P N call tm' g' o c fn K'):=by
   intro fn RG;unfold Xm;have:c.args.toList.map (A8 tm)=c.args.toList.map (A8 tm'):=List.map_congr_left fun x hx=>Ho x (H2 x hx)
   rw[this];refine Z9 hn (fun i hi=>?_) fun vs m hm=>Z8 hn fun rv ro=>Dm hn (An hn fun _=>Tb hn fun ws bs Yn=>An hn fun _=>hK _ _ _ (fun h=>by rw[RG] at h;cases h) (fun i hi=>?_))
   ·obtain⟨p,hp,hi⟩:=List.mem_flatMap.1 hi;obtain⟨x,hx,rfl⟩:=List.mem_map.1 hp;exact hg RG x (H2 x hx) i (D3 hi)
   ·have Yq:i∈m:=by
     cases hq:Gy P (J9 P o.type)<;>rw[hq] at hi
     ·simp at hi
     ·exact hi
    exact hm i Yq
  split
  ·refine Av hn fun x _ hx=>Av hn fun _ _ _=>?_
   rw[Ho x (H2 x (by rw[hx];simp))]
   exact WJ hn fun _=>h0 _
  ·refine Av hn fun x _ hx=>Av hn fun _ _ _=>?_
   rw[Ho x (H2 x (by rw[hx];simp))]
   exact TE hn fun _=>h0 _
  ·refine Av hn fun x _ hx=>Av hn fun y _ hy=>Dm hn ?_
   subst hy;rw[Ho x (H2 x (by rw[hx];simp)),Ho y (H2 y (by rw[hx];simp))]
   exact UN hn h0
  ·refine Av hn fun x _ hx=>Av hn fun y _ hy=>Dm hn ?_
   subst hy;rw[Ho x (H2 x (by rw[hx];simp)),Ho y (H2 y (by rw[hx];simp))]
   exact TN hn h0
  ·rename_i hc;have RG:Fj P (.call c)=true:=by simp[Fj,hc]
   refine An hn fun _=>B6 hn fun d hd=>Av hn fun _ _ hb=>Av hn fun x _ hx=>Dm hn (Av hn fun _ _ _=>Av hn fun _ _ _=>?_)
   have QN:x∈c.args.toList:=by rw[hb,hx];simp
   rw[Ho x (H2 x QN)];exact GZ hn (fun i hi=>hg RG x (H2 x QN) i (Hz hi)) fun v nw=>hK _ _ _ (fun h=>by rw[RG] at h;cases h) (by simp)
  ·rename_i fn hc;have RG:Fj P (.call c)=true:=by simp[Fj,hc]
   exact rc fn RG
  ·rename_i t hc;have RG:Fj P (.call c)=true:=by simp[Fj,hc]
   have ht:=Ho (.tmp t) (by simp[Op.operands,Call.operands,hc])
   change tm t=tm' t at ht;rw[ht];exact ZZ hn fun fn=>rc fn RG
  ·exact hn
 ·exact hn
variable {hp:Nat->Option A1}
end
open Go.RowKit
abbrev Q3:=PV × List Nat × List (Nat × A1)
def E4 (ops:Array Oper)(o:Oper)(tm:Nat->PV):Option Bool:=
 match o.guard with
 |none=>some true
 |some (j,want)=>
  match (ops[j]?).bind (·.dst) with
  |none=>none
  |some d=>
   match tm d with
   |.sc (.bool b)=>some (b==want)
   |.sc (.tuple _)=>some false
   |_=>none
section
variable {R:Type} {r:R} {C:E9} {P:Program} {N:Nat} {call:Ah} {ops:Array Oper} {o x:Oper} {s:St} {K:St->Option R}
theorem BS:B9 C P N call ops o s K=match E4 ops o s.tm with
  |none=>none
  |some true=>FP C P N call o s K
  |some false=>Ao (Ej N o.dst) (K ⟨A0 s.tm o.dst (.sc undef),s.hp⟩):=by
 unfold B9 E4;cases o.guard with
 |none=>rfl
 |some q=>
  obtain⟨j,want⟩:=q;cases hd:(ops[j]?).bind (·.dst) with
  |none=>simp[hd]
  |some d=>
   simp only[hd];cases ht:s.tm d with
   |sc v=>
    cases v with
    |bool b=>
     cases b<;>cases want<;>simp only[Cc,cond_true,cond_false,Rt s.tm ht]<;>rfl
    |_=>rfl
   |_=>rfl
def NU (C:E9)(P:Program)(N:Nat)(call:Ah)(o:Oper)(s:St):Option Q3:=
 Ws C P N call s.tm (rd s.hp) (Hd s.hp) o fun v fz nw=>some (v,fz,nw)
theorem XU {K:PV->List Nat->List (Nat × A1)->Option R}:Ws C P N call s.tm (rd s.hp) (Hd s.hp) o K=(NU C P N call o s).bind fun q=>K q.1 q.2.1 q.2.2:=by
 refine W8 (Rel:=fun (a:Option R) (b:Option Q3)=>a=b.bind fun q=>K q.1 q.2.1 q.2.2) (K:=K) (K':=fun v fz nw=>some (v,fz,nw)) rfl (fun _ _=>rfl) (fun _ _ _ _ _=>.inl ⟨rfl,rfl⟩) fun v fz nw _ _=>rfl
theorem KU {q:Q3}(h:NU C P N call o s=some q):(Fj P o.op=false->q.2.1=[]∧∀p∈q.2.2,o.dst=some p.1)∧∀i∈q.2.1,Hd s.hp i≠none:=by
 have:=W8 (C:=C) (P:=P) (N:=N) (call:=call) (o:=o) (tm:=s.tm) (tm':=s.tm) (f:=rd s.hp) (f':=rd s.hp) (g:=Hd s.hp) (g':=Hd s.hp)
  (Rel:=fun (a:Option Q3)(_:Option Q3)=>∀q,a=some q->(Fj P o.op=false->q.2.1=[]∧∀p∈q.2.2,o.dst=some p.1)∧∀i∈q.2.1,Hd s.hp i≠none)
  (K:=fun v fz nw=>some (v,fz,nw)) (K':=fun v fz nw=>some (v,fz,nw)) (fun _ h=>by cases h) (fun _ _=>rfl) (fun _ _ _ _ _=>.inl ⟨rfl,rfl⟩) (fun v fz nw h1 h2 q hq=>by cases hq;exact⟨h1,h2⟩)
 exact this q h
def gE (C:E9)(P:Program)(N:Nat)(call:Ah)(ops:Array Oper)(o:Oper)(s:St):Option Q3:=
 match E4 ops o s.tm with
 |none=>none
 |some true=>bif Nf C P o.op then none else NU C P N call o s
 |some false=>some (.sc undef,[],[])
def Ez (C:E9)(P:Program)(ops:Array Oper)(o:Oper)(tm:Nat->PV):Bool:=Nf C P o.op&&(E4 ops o tm==some true)
theorem Hx (h:Ez C P ops o s.tm=false):B9 C P N call ops o s K=(gE C P N call ops o s).bind fun q=>T7 N s o.dst q.1 q.2.1 q.2.2 K:=by
 rw[BS];unfold gE;unfold Ez at h;cases hv:E4 ops o s.tm with
 |none=>rfl
 |some b=>
  rw[hv] at h;cases b with
  |false=>
   show Ao _ _=T7 N s o.dst (.sc undef) [] [] K;unfold T7;have h1:A3 s.hp []=true:=rfl;have h2:Ak (Ac s.hp []) []=s.hp:=rfl;rw[h1,h2,Bool.and_true]
  |true=>
   have hm:Nf C P o.op=false:=by simpa using h
   simp only[FP,hm,cond_false];exact XU
theorem Ge (h:Ez C P ops o s.tm=true):B9 C P N call ops o s K=Pw C P N call s o K:=by
 rw[BS];unfold Ez at h;simp only[Bool.and_eq_true,beq_iff_eq] at h;rw[h.2];simp only[FP,h.1,cond_true]
theorem Oh {q:Q3}(h:gE C P N call ops o s=some q):(Fj P o.op=false->q.2.1=[]∧∀p∈q.2.2,o.dst=some p.1)∧∀i∈q.2.1,Hd s.hp i≠none:=by
 unfold gE at h;split at h
 ·cases h
 ·cases hm:Nf C P o.op<;>rw[hm] at h
  ·exact KU h
  ·cases h
 ·cases h;exact⟨fun _=>⟨rfl,by simp⟩,by simp⟩
theorem Du {tm tm':Nat->PV}(h:∀t∈Cm ops o,tm t=tm' t):∀y∈o.op.operands.toList,A8 tm y=A8 tm' y:=by
 intro y hy;cases y with
 |tmp t=>
  refine h t ?_;unfold Cm WI;refine List.mem_append.2 (.inl (List.mem_filterMap.2 ⟨.tmp t,hy,rfl⟩))
 |const v=>cases v<;>rfl
 |func f=>rfl
 |«global» g=>rfl
theorem Ih {tm tm':Nat->PV}(h:∀t∈Cm ops o,tm t=tm' t):E4 ops o tm=E4 ops o tm':=by
 unfold E4;cases hg:o.guard with
 |none=>rfl
 |some q=>
  obtain⟨j,want⟩:=q;cases hd:(ops[j]?).bind (·.dst) with
  |none=>simp[hd]
  |some d=>
   have:tm d=tm' d:=h d (by
    unfold Cm;rw[hg];refine List.mem_append.2 (.inr ?_);simp only[hd];simp)
   simp only[hd,this]
theorem Rp {s':St}{q:Q3}(ht:∀t∈Cm ops o,s.tm t=s'.tm t)
  (hm:Fj P o.op=true->∀y∈o.op.operands.toList,∀i∈A5 (A8 s'.tm y),(rd s.hp i=rd s'.hp i∧Hd s.hp i=Hd s'.hp i)∨(rd s.hp i=none∧Hd s.hp i=none))
  (h:gE C P N call ops o s=some q):gE C P N call ops o s'=some q:=by
 unfold gE at h ⊢;rw[←Ih ht];split at h
 ·cases h
 ·cases hM:Nf C P o.op<;>rw[hM] at h
  ·have:=W8 (C:=C) (P:=P) (N:=N) (call:=call) (o:=o) (tm:=s.tm) (tm':=s'.tm) (f:=rd s.hp) (f':=rd s'.hp) (g:=Hd s.hp) (g':=Hd s'.hp)
    (Rel:=fun (a b:Option Q3)=>a=some q->b=some q)
    (K:=fun v fz nw=>some (v,fz,nw)) (K':=fun v fz nw=>some (v,fz,nw)) (fun h=>h) (Du ht)
    (fun Jk y hy i hi=>(hm Jk y hy i hi).imp id fun h=>⟨h.1,h.2,fun _ h=>by cases h⟩) (fun v fz nw _ _ h=>h)
   exact this h
  ·cases h
 ·exact h
end
open Go.RowKit
theorem Md:∀{nw:List (Nat × A1)} {hp Bs:Nat->Option A1},A3 hp nw=true->(∀i b,(i,b)∈nw->Bs i=none)->A3 Bs nw=true
 |[],_,_,_,_=>rfl
 |(i,b)::nw,hp,Bs,h,h'=>by
  simp only[A3,Bool.and_eq_true,Option.isNone_iff_eq_none] at h ⊢;exact⟨⟨h' i b (by simp),h.1.2⟩,Md h.2 fun j c hj=>h' j c (by simp[hj])⟩
section
variable {hp:Nat->Option A1} {fz:List Nat} {nw:List (Nat × A1)}
theorem Ee (ha:A3 hp nw=true){i:Nat}(hi:hp i≠none):Ak (Ac hp fz) nw i=if i∈fz then (hp i).map Oc else hp i:=by
 obtain⟨h1,h2⟩:=Ax ha;rw[(Cy h2).2 i (fun bx hb=>hi (h1 i bx hb)),A4]
theorem Gq (ha:A3 hp nw=true){i:Nat}{b:A1}(hi:(i,b)∈nw):Ak (Ac hp fz) nw i=some b:=
 (Cy (Ax ha).2).1 i b hi
theorem J1 (ha:A3 hp nw=true){i:Nat}(hi:hp i=none)(hn:∀b,(i,b) ∉ nw):Ak (Ac hp fz) nw i=none:=by
 rw[(Cy (Ax ha).2).2 i hn,A4,hi];simp
theorem J2 (ha:A3 hp nw=true){i:Nat}(hi:hp i≠none):Ak (Ac hp fz) nw i≠none:=by
 rw[Ee ha hi];cases h:hp i with
 |none=>exact absurd h hi
 |some b=>split<;>simp
theorem YC (b:Option A1):(match b.map Oc with|some (.st c)=>some c|some (.ar _ c)=>some c|_=>none)=(match b with|some (.st c)=>some c|some (.ar _ c)=>some c|_=>none):=by
 cases b with
 |none=>rfl
 |some b=>cases b<;>rfl
theorem TC (b:Option A1):(match b.map Oc with|some (.ar _ c)=>some c|_=>none)=(match b with|some (.ar _ c)=>some c|_=>none):=by
 cases b with
 |none=>rfl
 |some b=>cases b<;>rfl
theorem GD (ha:A3 hp nw=true){i:Nat}(hi:hp i≠none):rd (Ak (Ac hp fz) nw) i=rd hp i:=by
 unfold rd;rw[Ee ha hi];by_cases h:i∈fz
 ·rw[if_pos h];exact YC _
 ·rw[if_neg h]
theorem AR (ha:A3 hp nw=true){i:Nat}(hi:hp i≠none):Hd (Ak (Ac hp fz) nw) i=Hd hp i:=by
 unfold Hd;rw[Ee ha hi];by_cases h:i∈fz
 ·rw[if_pos h];exact TC _
 ·rw[if_neg h]
theorem NE {i:Nat}(hi:hp i=none):rd hp i=none:=by unfold rd;rw[hi]
theorem Is {i:Nat}(hi:hp i=none):Hd hp i=none:=by unfold Hd;rw[hi]
theorem Agp (b:Option A1):(b.map Oc).map Oc=b.map Oc:=by
 cases b with
 |none=>rfl
 |some b=>cases b<;>rfl
theorem KG {fx fo:List Nat}{nx no:List (Nat × A1)} (hx:A3 hp nx=true)(ho:A3 (Ak (Ac hp fx) nx) no=true) (GT:A3 hp no=true)
  (W3:A3 (Ak (Ac hp fo) no) nx=true) (h1:∀i∈fx,hp i≠none)(h2:∀i∈fo,hp i≠none):
  Ak (Ac (Ak (Ac hp fx) nx) fo) no=Ak (Ac (Ak (Ac hp fo) no) fx) nx:=by
 funext i
 by_cases hi:hp i=none
 ·by_cases GB:∃b,(i,b)∈no
  ·obtain⟨b,hb⟩:=GB
   have hnx:∀b',(i,b') ∉ nx:=fun b' Fp=>by
    have:=(Ax ho).1 i b hb;rw[Gq hx Fp] at this;cases this
   rw[Gq ho hb,Ee W3 (by rw[Gq GT hb];simp),Gq GT hb,if_neg (fun h=>h1 i h hi)]
  ·have GB:∀b,(i,b) ∉ no:=fun b hb=>GB ⟨b,hb⟩
   by_cases hnx:∃b,(i,b)∈nx
   ·obtain⟨b,hb⟩:=hnx;rw[Gq W3 hb,Ee ho (by rw[Gq hx hb];simp),Gq hx hb,if_neg (fun h=>h2 i h hi)]
   ·have hnx:∀b,(i,b) ∉ nx:=fun b hb=>hnx ⟨b,hb⟩
    rw[J1 ho (J1 hx hi hnx) GB,J1 W3 (J1 GT hi GB) hnx]
 ·rw[Ee ho (J2 hx hi),Ee hx hi,Ee W3 (J2 GT hi),Ee GT hi];split<;>split<;>first|rfl|rw[Agp]
end
section
variable {R:Type} {r:R} {C:E9} {P:Program} {N:Nat} {call:Ah} {ops:Array Oper} {o x:Oper} {s:St} {K:St->Option R}
structure Sa (C:E9) (P:Program) (ops:Array Oper) (x o:Oper):Prop where
 xo:∀d,x.dst=some d->d ∉ Cm ops o
 ne:∀d,x.dst=some d->o.dst≠some d
 ox:∀d,o.dst=some d->d ∉ Cm ops x
 mx:Nf C P x.op=true->Fj P o.op=false
 mo:Nf C P o.op=true->Fj P x.op=false
theorem My {l:List Nat}{d:Nat}(h:l.any (Nat.beq d)=false):d ∉ l:=by
 intro hm;have:l.any (Nat.beq d)=true:=List.any_eq_true.2 ⟨d,hm,Nat.beq_refl d⟩;rw[this] at h;cases h
theorem RP (h:Xv C P ops x o=false):Sa C P ops x o:=by
 unfold Xv at h;simp only[Bool.or_eq_false_iff,Bool.and_eq_false_iff] at h;obtain⟨⟨⟨h1,h2⟩,h3⟩,h4⟩:=h;refine⟨fun d hd=>?_,fun d hd he=>?_,fun d hd=>?_,fun hm=>?_,fun hm=>?_⟩
 ·simp only[hd,Bool.or_eq_false_iff] at h1;exact My h1.1
 ·simp only[hd,he,Bool.or_eq_false_iff] at h1;rw[Nat.beq_refl] at h1;cases h1.2
 ·simp only[hd] at h2;exact My h2
 ·rw[hm] at h3;rcases h3 with h|h
  ·cases h
  ·exact h
 ·rw[hm] at h4;rcases h4 with h|h
  ·cases h
  ·exact h
theorem De {tm:Nat->PV}{d:Option Tmp}{v:PV}{l:List Nat}(h:∀i,d=some i->i ∉ l):∀t∈l,A0 tm d v t=tm t:=by
 intro t ht;cases d with
 |none=>rfl
 |some d=>exact Ad _ _ (by rintro rfl;exact h _ rfl ht)
theorem H9 {tm:Nat->PV}{d e:Option Tmp}{u v:PV}(h:∀i,d=some i->e≠some i):A0 (A0 tm d u) e v=A0 (A0 tm e v) d u:=by
 cases d with
 |none=>rfl
 |some d=>
  cases e with
  |none=>rfl
  |some e=>exact HF _ _ _ (by rintro rfl;exact h _ rfl rfl)
def IB (C:E9)(P:Program)(o:Oper)(s:St):Prop:=(∀y∈o.op.operands.toList,∀i∈A5 (A8 s.tm y),s.hp i≠none) ∧
 (Nf C P o.op=true->J0 o.op=false->∀y∈o.op.operands.toList,∀i∈A5 (A8 s.tm y),∀c,s.hp i=some (.st c)->∀p∈c,∀k∈Aj p,s.hp k≠none)
theorem Fc {tm tm':Nat->PV}(h:∀t∈Cm ops o,tm t=tm' t):Ez C P ops o tm=Ez C P ops o tm':=by
 unfold Ez;rw[Ih h]
theorem NH (hw:IB C P o s)(xo:∀d,x.dst=some d->d ∉ Cm ops o)(ne:∀d,x.dst=some d->o.dst≠some d)(ox:∀d,o.dst=some d->d ∉ Cm ops x)(hx:Ez C P ops x s.tm=false)(ho:Ez C P ops o s.tm=false)
  (h:B9 C P N call ops x s (fun s1=>B9 C P N call ops o s1 K)=some r):B9 C P N call ops o s (fun s1=>B9 C P N call ops x s1 K)=some r:=by
 rw[Hx hx] at h;cases ex:gE C P N call ops x s with
 |none=>rw[ex] at h;cases h
 |some q=>
 obtain⟨vx,fx,nx⟩:=q;rw[ex] at h;obtain⟨hb,h1⟩:=Ae h;simp only[Bool.and_eq_true] at hb;have t1:∀t∈Cm ops o,A0 s.tm x.dst vx t=s.tm t:=De xo;change B9 C P N call ops o ⟨A0 s.tm x.dst vx,Ak (Ac s.hp fx) nx⟩ K=some r at h1;rw[Hx (by rw[Fc t1];exact ho)] at h1
 cases eo:gE C P N call ops o ⟨A0 s.tm x.dst vx,Ak (Ac s.hp fx) nx⟩ with
 |none=>rw[eo] at h1;cases h1
 |some q=>
 obtain⟨vo,fo,no⟩:=q;rw[eo] at h1;obtain⟨hc,h2⟩:=Ae h1;change K ⟨A0 (A0 s.tm x.dst vx) o.dst vo,Ak (Ac (Ak (Ac s.hp fx) nx) fo) no⟩=some r at h2;simp only[Bool.and_eq_true] at hc
 have eo':gE C P N call ops o s=some (vo,fo,no):=by
  refine Rp t1 (fun _ y hy i hi=>?_) eo
  have:=hw.1 y hy i hi;exact .inl ⟨GD hb.2 this,AR hb.2 this⟩
 have GT:A3 s.hp no=true:=Md hc.2 fun i b hi=>by
  cases hs:s.hp i with
  |none=>rfl
  |some c=>exact absurd ((Ax hc.2).1 i b hi) (J2 hb.2 (by rw[hs];simp))
 rw[Hx ho,eo']
 have W3:A3 (Ak (Ac s.hp fo) no) nx=true:=Md hb.2 fun i b hi=>by
  refine J1 GT ((Ax hb.2).1 i b hi) fun c M4=>?_
  have:=(Ax hc.2).1 i c M4;rw[Gq hb.2 hi] at this;cases this
 have t2:∀t∈Cm ops x,s.tm t=A0 s.tm o.dst vo t:=fun t ht=>(De ox t ht).symm
 have ex':gE C P N call ops x ⟨A0 s.tm o.dst vo,Ak (Ac s.hp fo) no⟩=some (vx,fx,nx):=by
  refine Rp t2 (fun _ y hy i hi=>?_) ex
  by_cases hs:s.hp i=none
  ·exact .inr ⟨NE hs,Is hs⟩
  ·exact .inl ⟨(GD GT hs).symm,(AR GT hs).symm⟩
 show Ao _ _=_;rw[hc.1,GT];show B9 C P N call ops x ⟨A0 s.tm o.dst vo,Ak (Ac s.hp fo) no⟩ K=some r;rw[Hx (by rw[←Fc t2];exact hx),ex']
 show Ao _ _=_;rw[hb.1,W3];rw[←h2];have hfx:∀i∈fx,s.hp i≠none:=fun i hi hs=>(Oh ex).2 i hi (Is hs)
 have hfo:∀i∈fo,s.hp i≠none:=fun i hi hs=>(Oh eo').2 i hi (Is hs)
 show K ⟨A0 (A0 s.tm o.dst vo) x.dst vx,Ak (Ac (Ak (Ac s.hp fo) no) fx) nx⟩=K _;rw[H9 ne,KG hb.2 hc.2 GT W3 hfx hfo]
end
open Go.RowKit
theorem Rr {C:E9}{P:Program}{o:Op}(h:Nf C P o=true):Fj P o=true:=by
 unfold Nf at h;split at h
 ·rfl
 ·rename_i c;unfold Fj;simp only;split at h<;>rename_i hc
  ·rw[hc]
  ·rw[hc]
  ·cases h
  ·rw[hc]
  ·cases h
 ·cases h
structure Yv (N:Nat) (S:Nat->Prop) (dst:Option Nat) (hp Cd Bs Dp:Nat->Option A1):Prop where
 keep:∀i,hp i≠none->Bs i≠none
 off:∀i,i<N->dst≠some i->(¬S i∨hp i=none)->Bs i=hp i∧Dp i=Cd i
 same:∀i,hp i=Cd i->Bs i=Dp i
 far:∀i,¬S i->hp i≠none->Bs i=hp i
section
variable {R R':Type} {Rel:Option R->Option R'->Prop} {P:Program} {N:Nat} {tm tm':Nat->PV} {hp Cd:Nat->Option A1} {f f':Nat->Option (List PV)} {o:Oper}
theorem AA (hn:Rel none none){t:CT}{p:PV}{K:PV->List Nat->Option R}{K':PV->List Nat->Option R'}(hf:DV Rel f f' (Aj p)) (hK:∀c m,(∀i∈m,f i≠none∧i∈Aj p)->Rel (K c m) (K' c m)):Rel (Km f t p K) (Km f' t p K'):=by
 unfold Km;split
 ·split
  ·rename_i id es' off n;cases Nat.beq es' _
   ·exact hn
   ·exact Rm hn hf (by simp[Aj]) fun c hc=>An hn fun _=>hK _ _ (by simp[hc,Aj])
  ·exact Dv hn fun _ _ _=>hK _ _ (by simp)
 ·exact Ks hn fun _=>hK _ _ (by simp)
theorem Wm (hn:Rel none none):∀{ts:List CT}{ps:List PV}{K:List PV->List Nat->Option R}{K':List PV->List Nat->Option R'},DV Rel f f' (ps.flatMap Aj)->(∀c m,(∀i∈m,f i≠none∧i∈ps.flatMap Aj)->Rel (K c m) (K' c m))->Rel (Kf f ts ps K) (Kf f' ts ps K')
 |[],[],_,_,_,hK=>hK _ _ (by simp)
 |[],_::_,_,_,_,_=>hn
 |_::_,[],_,_,_,_=>hn
 |_::_,p::ps,_,_,hf,hK=>AA hn (fun i hi=>hf i (by simp only[List.flatMap_cons,List.mem_append];exact .inl hi)) fun _ m hm=>Wm hn (fun i hi=>hf i (by simp only[List.flatMap_cons,List.mem_append];exact .inr hi)) fun _ ms W7=>hK _ _ fun i hi=>by
   simp only[List.flatMap_cons,List.mem_append];rcases List.mem_append.1 hi with h|h
   ·exact⟨(hm i h).1,.inl (hm i h).2⟩
   ·exact⟨(W7 i h).1,.inr (W7 i h).2⟩
theorem O5 {S:Nat->Prop}{dst:Option Nat}{id:Nat}{b:A1}{h0 h1:Nat->Option A1}(hS:S id)(Ay:hp id≠none)(h:Yv N S dst hp Cd h0 h1):Yv N S dst hp Cd (Bi h0 id (some b)) (Bi h1 id (some b)):=by
 refine⟨fun i hi=>?_,fun i hN hd hi=>?_,fun i hi=>?_,fun i hn hi=>?_⟩
 ·by_cases e:i=id
  ·subst e;rw[Af];simp
  ·rw[Ad _ _ e];exact h.keep i hi
 ·have e:i≠id:=by
   rintro rfl
   rcases hi with hi|hi
   ·exact hi hS
   ·exact Ay hi
  rw[Ad _ _ e,Ad _ _ e];exact h.off i hN hd hi
 ·by_cases e:i=id
  ·subst e;rw[Af,Af]
  ·rw[Ad _ _ e,Ad _ _ e];exact h.same i hi
 ·rw[Ad _ _ (by rintro rfl;exact hn hS)];exact h.far i hn hi
theorem DF {S:Nat->Prop}{d:Nat}{b:A1}{h0 h1:Nat->Option A1}(hz:hp d=none)(h:Yv N S (some d) hp Cd h0 h1):Yv N S (some d) hp Cd (Bi h0 d (some b)) (Bi h1 d (some b)):=by
 refine⟨fun i hi=>?_,fun i hN hd hi=>?_,fun i hi=>?_,fun i hn hi=>?_⟩
 ·by_cases e:i=d
  ·subst e;rw[Af];simp
  ·rw[Ad _ _ e];exact h.keep i hi
 ·have e:i≠d:=by rintro rfl;exact hd rfl
  rw[Ad _ _ e,Ad _ _ e];exact h.off i hN hd hi
 ·by_cases e:i=d
  ·subst e;rw[Af,Af]
  ·rw[Ad _ _ e,Ad _ _ e];exact h.same i hi
 ·rw[Ad _ _ (by rintro rfl;exact hi hz)];exact h.far i hn hi
theorem Om (S:Nat->Prop)(dst:Option Nat):Yv N S dst hp Cd hp Cd:=⟨fun _ h=>h,fun _ _ _ _=>⟨rfl,rfl⟩,fun _ h=>h,fun _ _ _=>rfl⟩
theorem KP {S:Nat->Prop}{dst:Option Nat}{m:List Nat}(hm:∀i∈m,hp i≠none∧S i):Yv N S dst hp Cd (Ac hp m) (Ac Cd m):=by
 refine⟨fun i hi=>fun h=>hi (Cp.1 h),fun i hN hd hi=>?_,fun i hi=>?_,fun i hn hi=>?_⟩
 ·have e:i ∉ m:=by
   intro h;rcases hi with hi|hi
   ·exact hi (hm i h).2
   ·exact (hm i h).1 hi
  rw[A4,A4,if_neg e,if_neg e];exact⟨rfl,rfl⟩
 ·rw[A4,A4,hi]
 ·rw[A4,if_neg (fun h=>hn (hm i h).2)]
theorem CE {S:Nat->Prop}(h:∀i,S i->hp i=Cd i∨(hp i=none∧∀b,Rel none b)) {l:List Nat}(hl:∀i∈l,S i):DV Rel (Hd hp) (Hd Cd) l:=by
 intro i hi;rcases h i (hl i hi) with h|⟨h,h'⟩
 ·left;unfold Hd;rw[h]
 ·exact .inr ⟨Is h,h'⟩
theorem GF (hn:Rel none none){t:TypeId}{a x:PV}{K:St->Option R}{K':St->Option R'}{S:Nat->Prop}(hS:∀i,S i->hp i=Cd i∨(hp i=none∧∀b,Rel none b)) (ha:∀i∈Aj a,S i)(hx:∀i∈Bh x,S i)
  (hK:∀Bs Dp,Yv N S none hp Cd Bs Dp->Rel (K ⟨tm,Bs⟩) (K' ⟨tm',Dp⟩)):Rel (Tx P ⟨tm,hp⟩ t a x K) (Tx P ⟨tm',Cd⟩ t a x K'):=by
 unfold Tx;split
 ·rename_i id off;show Rel (match hp id with|some (.st c)=>_|some (.ar false c)=>_|_=>none) (match Cd id with|some (.st c)=>_|some (.ar false c)=>_|_=>none)
  have Ay:S id:=ha id (by simp[Aj])
  rcases hS id Ay with h|⟨h,hb⟩
  ·rw[←h];split
   ·rename_i c hc;exact An hn fun _=>Kd hn fun _=>hK _ _ (O5 Ay (by rw[hc];simp) (Om _ _))
   ·rename_i c hc;refine An hn fun _=>Wm hn (CE hS fun i hi=>hx i ?_) fun _ m hm=>An hn fun _=>hK _ _ (O5 Ay (by rw[hc];simp) (KP fun i hi=>⟨fun h=>(hm i hi).1 (Is h),hx i ?_⟩))
    ·obtain⟨c,hc,hi⟩:=List.mem_flatMap.1 hi;exact N6 hc hi
    ·obtain⟨c,hc,hi⟩:=List.mem_flatMap.1 (hm i hi).2;exact N6 hc hi
   ·exact hn
  ·rw[h];exact hb _
 ·exact hn
theorem To (hn:Rel none none){es:Nat}{t:TypeId}{x:PV}{K:Nat->List PV->Option R}{K':Nat->List PV->Option R'}{S:Nat->Prop}(hS:∀i,S i->hp i=Cd i∨(hp i=none∧∀b,Rel none b)) (hx:∀i∈Bh x,S i)(hK:∀m c,Rel (K m c) (K' m c)):Rel (KC P ⟨tm,hp⟩ es t x K) (KC P ⟨tm',Cd⟩ es t x K'):=by
 unfold KC KX;split
 ·exact An hn fun _=>Ec hn fun _=>hK _ _
 ·exact R9 hn (CE hS fun i hi=>hx i (N8 hi)) hK
 ·exact hn
theorem Ri (hn:Rel none none){d:Nat}{t tx:TypeId}{b x:PV}{K:St->Option R}{K':St->Option R'}{S:Nat->Prop}(hS:∀i,S i->hp i=Cd i∨(hp i=none∧∀b,Rel none b)) (RE:hp d=Cd d)(hb:∀i∈Bh b,S i)(hx:∀i∈Bh x,S i)
  (hK:∀v Bs Dp,(∀M,Yv M S (some d) hp Cd Bs Dp)->Rel (K ⟨Bi tm d v,Bs⟩) (K' ⟨Bi tm' d v,Dp⟩)):Rel (Kz P N ⟨tm,hp⟩ d t tx b x K) (Kz P N ⟨tm',Cd⟩ d t tx b x K'):=by
 unfold Kz;split
 ·refine An hn fun _=>?_
  cases Rx P tx
  rotate_left
  ·show Rel (N3 P N ⟨tm,hp⟩ d _ b x K) (N3 P N ⟨tm',Cd⟩ d _ b x K');refine Cn hn fun _ n=>Dv hn fun z _ _=>?_
   show Rel (Ao (z&&Nat.blt d N&&(hp d).isNone&&_&&_&&_) _) (Ao (z&&Nat.blt d N&&(Cd d).isNone&&_&&_&&_) _);rw[←RE];exact An hn fun hb=>hK _ _ _ (fun M=>DF (by simp only[Bool.and_eq_true,Option.isNone_iff_eq_none] at hb;simp only[hb]) (Om _ _))
  rw[cond_false,cond_false];refine To hn hS hx fun m new=>?_
  split
  ·rename_i id es off n;show Rel (match hp id with|some (.ar false c)=>Ao (Nat.beq es _&&Nat.beq off 0&&Nat.blt d N&&(hp d).isNone&&_&&_&&_&&_) _|_=>none) (match Cd id with|some (.ar false c)=>Ao (Nat.beq es _&&Nat.beq off 0&&Nat.blt d N&&(Cd d).isNone&&_&&_&&_&&_) _|_=>none)
   have Ay:S id:=hb id (by simp[Bh,Aj])
   rw[←RE];rcases hS id Ay with h|⟨h,hbb⟩
   ·rw[←h];split
    ·rename_i c hc;exact An hn fun hb=>hK _ _ _ (fun M=>DF (by simp only[Bool.and_eq_true,Option.isNone_iff_eq_none] at hb;simp only[hb]) (O5 Ay (by rw[hc];simp) (Om _ _)))
    ·exact hn
   ·rw[h];exact hbb _
  ·refine Dv hn fun z _ _=>?_
   show Rel (Ao (z&&Nat.blt d N&&(hp d).isNone&&_&&_&&_) _) (Ao (z&&Nat.blt d N&&(Cd d).isNone&&_&&_&&_) _);rw[←RE];exact An hn fun hb=>hK _ _ _ (fun M=>DF (by simp only[Bool.and_eq_true,Option.isNone_iff_eq_none] at hb;simp only[hb]) (Om _ _))
 ·exact hn
theorem JX (hn:Rel none none){d:Option Tmp}{t tx:TypeId}{b x:PV}{K:St->Option R}{K':St->Option R'}{S:Nat->Prop}(hS:∀i,S i->hp i=Cd i∨(hp i=none∧∀b,Rel none b)) (hb:∀i∈Bh b,S i)(hx:∀i∈Bh x,S i)
  (hK:∀v Bs Dp,Yv N S d hp Cd Bs Dp->Rel (K ⟨A0 tm d v,Bs⟩) (K' ⟨A0 tm' d v,Dp⟩)):Rel (Zp P N ⟨tm,hp⟩ d t tx b x K) (Zp P N ⟨tm',Cd⟩ d t tx b x K'):=by
 unfold Zp;split
 ·refine An hn fun _=>?_
  refine To hn hS hx fun m new=>?_
  split
  ·rename_i id es off n;show Rel (match hp id with|some (.ar false c)=>Ao (Nat.beq es _&&_&&_) _|_=>none) (match Cd id with|some (.ar false c)=>Ao (Nat.beq es _&&_&&_) _|_=>none)
   have Ay:S id:=hb id (by simp[Bh,Aj])
   rcases hS id Ay with h|⟨h,hbb⟩
   ·rw[←h];split
    ·rename_i c hc;exact An hn fun _=>hK _ _ _ (O5 Ay (by rw[hc];simp) (Om _ _))
    ·exact hn
   ·rw[h];exact hbb _
  ·exact hn
 ·exact hn
def Aaz (o:Oper)(tm:Nat->PV)(i:Nat):Prop:=∃x∈o.op.operands.toList,i∈A5 (A8 tm x)
def Qr (o:Oper)(tm:Nat->PV)(hp:Nat->Option A1)(i:Nat):Prop:=Aaz o tm i∨J0 o.op=false∧∃id c,Aaz o tm id∧hp id=some (.st c)∧∃p∈c,i∈Aj p
theorem NY (hn:Rel none none){mv:Bool}{t:CT}{p:PV}{K:PV->List Nat->List Nat->Option R}{K':PV->List Nat->List Nat->Option R'}{S:Nat->Prop}(hS:∀i,S i->hp i=Cd i∨(hp i=none∧∀b,Rel none b)) (hp_:∀i∈Aj p,S i)
  (hK:∀c m x,(∀i∈m++x,hp i≠none∧S i)->Rel (K c m x) (K' c m x)):Rel (PS mv hp t p K) (PS mv Cd t p K'):=by
 have frz:∀{t:CT} {p:PV},(∀i∈Aj p,S i)->Rel (Km (Hd hp) t p fun c m=>K c m []) (Km (Hd Cd) t p fun c m=>K' c m []):=fun h=>AA hn (CE hS h) fun c m hm=>hK _ _ _ fun i hi=>by
  rw[List.append_nil] at hi;exact⟨fun e=>(hm i hi).1 (Is e),h i (hm i hi).2⟩
 unfold PS;split
 ·rename_i es;cases mv<;>simp only[cond_true,cond_false]
  ·exact frz hp_
  ·split
   ·rename_i id es' off n;rcases hS id (hp_ id (by simp[Aj])) with h|⟨h,hb⟩
    ·rw[←h];split
     ·rename_i c hc;cases (Nat.beq es' es&&Nat.beq off 0)<;>simp only[cond_true,cond_false]
      ·exact frz hp_
      ·exact An hn fun _=>hK _ _ _ fun i hi=>by
        simp only[List.nil_append,List.mem_singleton] at hi;subst hi;exact⟨by rw[hc];simp,hp_ i (by simp[Aj])⟩
     ·exact frz hp_
    ·rw[h]
     have:(Km (Hd hp) (.sl es) (.view id es' off n) fun c m=>K c m [])=none:=by
      unfold Km;simp only;cases Nat.beq es' es
      ·rfl
      ·simp only[cond_true,Is h,Da]
     show Rel (Km (Hd hp) (.sl es) (.view id es' off n) fun c m=>K c m []) _
     rw[this];exact hb _
   ·refine Dv hn fun z n c=>?_
    cases z
    ·exact hK _ _ _ (by simp)
    ·exact hK _ _ _ (by simp)
 ·exact Ks hn fun _=>hK _ _ _ (by simp)
theorem Mw (hn:Rel none none){mv:Bool}{S:Nat->Prop}(hS:∀i,S i->hp i=Cd i∨(hp i=none∧∀b,Rel none b)):∀{ts:List CT}{ps:List PV}{K:List PV->List Nat->List Nat->Option R}{K':List PV->List Nat->List Nat->Option R'},(∀p∈ps,∀i∈Aj p,S i) ->
  (∀c m x,(∀i∈m++x,hp i≠none∧S i)->Rel (K c m x) (K' c m x))->Rel (Ux mv hp ts ps K) (Ux mv Cd ts ps K')
 |[],[],_,_,_,hK=>hK _ _ _ (by simp)
 |[],_::_,_,_,_,_=>hn
 |_::_,[],_,_,_,_=>hn
 |_::_,p::ps,_,_,hp_,hK=>NY hn hS (hp_ p (by simp)) fun _ m x hm=>Mw hn hS (fun q hq=>hp_ q (by simp[hq])) fun _ ms xs W7=>hK _ _ _ fun i hi=>by
   simp only[List.mem_append] at hi hm W7;rcases hi with (hi|hi)|(hi|hi)
   ·exact hm i (.inl hi)
   ·exact W7 i (.inl hi)
   ·exact hm i (.inr hi)
   ·exact W7 i (.inr hi)
theorem FY (hn:Rel none none){C:E9}{f:FuncId}{i:Nat}{t:TypeId}{p:PV}{K:PV->List Nat->List Nat->List Ev->Option R}{K':PV->List Nat->List Nat->List Ev->Option R'}{S:Nat->Prop}(hS:∀i,S i->hp i=Cd i∨(hp i=none∧∀b,Rel none b))
  (hp_:∀i∈A5 p,S i)(hc:∀i∈A5 p,∀c,Cd i=some (.st c)->∀q∈c,∀k∈Aj q,S k)
  (hK:∀v m x l,(∀i∈m++x++l.flatMap Ev.ids,hp i≠none∧S i)->Rel (K v m x l) (K' v m x l)):Rel (Th C P f hp i t p K) (Th C P f Cd i t p K'):=by
 unfold Th;split
 ·split
  ·rename_i id off;have Ay:S id:=hp_ id (by simp[A5,Bh,Aj])
   rcases hS id Ay with h|⟨h,hb⟩
   ·rw[h];split
    ·rename_i c Z2;refine An hn fun _=>Mw hn hS (fun q hq k hk=>hc id (by simp[A5,Bh,Aj]) c Z2 q (List.mem_of_mem_drop (List.mem_of_mem_take hq)) k hk) fun cs m x hm=>hK _ _ _ _ fun k hk=>?_
     rcases List.mem_append.1 hk with hk|hk
     ·exact hm k hk
     ·simp only[List.flatMap_cons,List.flatMap_nil,Ev.ids,List.append_nil,List.mem_singleton] at hk;subst hk;exact⟨by rw[h,Z2];simp,Ay⟩
    ·exact hn
   ·rw[h];exact hb _
  ·exact hn
 ·cases C.lnd f i
  ·cases A7 P t
   ·exact Mw hn hS (fun q hq k hk=>by
     simp at hq;subst hq;exact hp_ k (Hz hk)) fun cs m x hm=>Av hn fun _ _ _=>Dm hn (hK _ _ _ _ (by simpa using hm))
   ·refine Gx hn fun cs P6=>Mw hn hS (fun q hq k hk=>hp_ k ?_) fun cs m x hm=>hK _ _ _ _ (by simpa using hm)
    subst P6;exact List.mem_flatMap.2 ⟨q,hq,hk⟩
  ·refine B6 hn fun e he=>?_
   unfold VK;split
   ·rename_i id es' off n;have Ay:S id:=hp_ id (by simp[A5,Bh,Aj])
    rcases hS id Ay with h|⟨h,hb⟩
    ·rw[h];split
     ·rename_i c Z2;refine An hn fun _=>hK _ _ _ _ fun k hk=>?_
      simp only[List.nil_append,List.flatMap_cons,List.flatMap_nil,Ev.ids,List.append_nil,List.mem_singleton] at hk;subst hk;exact⟨by rw[h,Z2];simp,Ay⟩
     ·exact hn
    ·rw[h];exact hb _
   ·exact Dv hn fun _ _ _=>An hn fun _=>hK _ _ _ _ (by simp[Ev.ids])
theorem Wj (hn:Rel none none){C:E9}{f:FuncId}{S:Nat->Prop}(hS:∀i,S i->hp i=Cd i∨(hp i=none∧∀b,Rel none b)):∀{ts:List TypeId}{ps:List PV}{i:Nat}{K:List PV->List Nat->List Nat->List Ev->Option R}{K':List PV->List Nat->List Nat->List Ev->Option R'},
  (∀p∈ps,∀i∈A5 p,S i)->(∀p∈ps,∀i∈A5 p,∀c,Cd i=some (.st c)->∀q∈c,∀k∈Aj q,S k) ->
  (∀v m x l,(∀i∈m++x++l.flatMap Ev.ids,hp i≠none∧S i)->Rel (K v m x l) (K' v m x l))->Rel (Zz C P f hp i ts ps K) (Zz C P f Cd i ts ps K')
 |[],[],_,_,_,_,_,hK=>hK _ _ _ _ (by simp)
 |[],_::_,_,_,_,_,_,_=>hn
 |_::_,[],_,_,_,_,_,_=>hn
 |_::_,p::ps,_,_,_,hp_,hc,hK=>FY hn hS (hp_ p (by simp)) (hc p (by simp)) fun _ m x l hm=>Wj hn hS (fun q hq=>hp_ q (by simp[hq])) (fun q hq=>hc q (by simp[hq])) fun _ ms xs ls W7=>hK _ _ _ _ fun i hi=>by
   simp only[List.mem_append,List.flatMap_append] at hi hm W7;rcases hi with ((hi|hi)|(hi|hi))|(hi|hi)
   ·exact hm i (.inl (.inl hi))
   ·exact W7 i (.inl (.inl hi))
   ·exact hm i (.inl (.inr hi))
   ·exact W7 i (.inl (.inr hi))
   ·exact hm i (.inr hi)
   ·exact W7 i (.inr hi)
theorem UK (hn:Rel none none){t:Nat}{ct:CT}{was p:PV}{K:Nat->PV->List (Nat × A1)->Option R} {K':Nat->PV->List (Nat × A1)->Option R'} (hK:∀t c b,(∀q∈b,∃k,q.1=IC N k)->Rel (K t c b) (K' t c b)):Rel (PF N t ct was p K) (PF N t ct was p K'):=by
 unfold PF;split
 ·split
  ·exact MO hn fun _ _=>hK _ _ _ (by intro q hq;simp only[List.mem_singleton] at hq;subst hq;exact⟨t,rfl⟩)
  ·exact Dv hn fun _ _ _=>hK _ _ _ (by simp)
 ·exact Ks hn fun _=>hK _ _ _ (by simp)
theorem Z4 (hn:Rel none none):∀{cts:List CT}{ws ps:List PV}{t:Nat}{K:Nat->List PV->List (Nat × A1)->Option R} {K':Nat->List PV->List (Nat × A1)->Option R'},(∀t c b,(∀q∈b,∃k,q.1=IC N k)->Rel (K t c b) (K' t c b))->Rel (Z1 N t cts ws ps K) (Z1 N t cts ws ps K')
 |[],[],_,_,_,_,hK=>Dm hn (hK _ _ _ (by simp))
 |[],_::_,_,_,_,_,_=>hn
 |_::_,[],_,_,_,_,_=>hn
 |_::_,_::_,_,_,_,_,hK=>Av hn fun _ _ _=>UK hn fun _ _ b hb=>Z4 hn fun _ _ bs Yn=>hK _ _ _ fun q hq=>by
   rcases List.mem_append.1 hq with h|h
   ·exact hb q h
   ·exact Yn q h
theorem Ox (hn:Rel none none){S:Nat->Prop}{dst:Option Nat}:∀{l:List Ev}{ro:List (List PV)} {t:Nat}{h0 h1:Nat->Option A1}{K:(Nat->Option A1)->List (Nat × A1)->Option R} {K':(Nat->Option A1)->List (Nat × A1)->Option R'},
  Yv N S dst hp Cd h0 h1->(∀i∈l.flatMap Ev.ids,hp i≠none∧S i∧hp i=Cd i)->(∀h0' Xn b,Yv N S dst hp Cd h0' Xn->(∀q∈b,∃k,q.1=IC N k)->Rel (K h0' b) (K' Xn b))->Rel (Qv N t l ro h0 K) (Qv N t l ro h1 K')
 |[],_,_,_,_,_,_,hT,_,hK=>Dm hn (hK _ _ _ hT (by simp))
 |.var id off cts ws::l,ro,t,h0,h1,K,K',hT,hl,hK=>by
  unfold Qv;refine Av hn fun cs ro _=>Z4 hn fun t' cs' bs Yn=>?_
  have Ay:=hl id (by simp[Ev.ids])
  rw[←hT.same id Ay.2.2];split
  ·exact Ox hn (O5 Ay.2.1 Ay.1 hT) (fun i hi=>hl i (by simp only[List.flatMap_cons,List.mem_append];exact .inr hi)) fun h0' Xn b hT' hb=>hK _ _ _ hT' fun q hq=>by
    rcases List.mem_append.1 hq with h|h
    ·exact Yn q h
    ·exact hb q h
  ·exact hn
 |.row id::l,ro,t,h0,h1,K,K',hT,hl,hK=>by
  unfold Qv;have Ay:=hl id (by simp[Ev.ids])
  exact Av hn fun cs ro _=>Ox hn (O5 Ay.2.1 Ay.1 hT) (fun i hi=>hl i (by simp only[List.flatMap_cons,List.mem_append];exact .inr hi)) hK
 |.none::l,ro,t,h0,h1,K,K',hT,hl,hK=>by
  unfold Qv;exact Av hn fun cs ro _=>Ox hn hT (fun i hi=>hl i (by simp only[List.flatMap_cons,List.mem_append];exact .inr hi)) hK
theorem HA (h:∀i,N<=i->hp i=Cd i)(hN:0<N):∀k t,FE N hp k t=FE N Cd k t
 |0,_=>rfl
 |k+1,t=>by
  unfold FE;rw[h (IC N t) (by unfold IC;exact Nat.le_mul_of_pos_right _ (by omega)),HA h hN k (t+1)]
theorem AN {h0 h1:Nat->Option A1}:∀{nw:List (Nat × A1)},(∀q∈nw,h0 q.1=h1 q.1)->A3 h0 nw=A3 h1 nw
 |[],_=>rfl
 |(i,b)::nw,h=>by
  unfold A3;rw[h (i,b) (by simp),AN (fun q hq=>h q (by simp[hq]))]
theorem X1 {S:Nat->Prop}{dst:Option Nat}{h0 h1:Nat->Option A1}(hT:Yv N S dst hp Cd h0 h1):∀{nw:List (Nat × A1)} {g0 g1:Nat->Option A1},Yv N S dst hp Cd g0 g1->(∀q∈nw,N<=q.1∨dst=some q.1)->(∀q∈nw,hp q.1=none)->Yv N S dst hp Cd (Ak g0 nw) (Ak g1 nw)
 |[],_,_,h,_,_=>h
 |(i,b)::nw,g0,g1,h,hi,hz=>by
  refine X1 hT (nw:=nw) ⟨fun k hk=>?_,fun k hN hd hk=>?_,fun k hk=>?_,fun k hn hk=>?_⟩ (fun q hq=>hi q (by simp[hq])) (fun q hq=>hz q (by simp[hq]))
  ·by_cases e:k=i
   ·subst e;rw[Af];simp
   ·rw[Ad _ _ e];exact h.keep k hk
  ·have e:k≠i:=by
    rintro rfl
    rcases hi (k,b) (by simp) with q|q
    ·simp only at q;omega
    ·exact hd q
   rw[Ad _ _ e,Ad _ _ e];exact h.off k hN hd hk
  ·by_cases e:k=i
   ·subst e;rw[Af,Af]
   ·rw[Ad _ _ e,Ad _ _ e];exact h.same k hk
  ·rw[Ad _ _ (by rintro rfl;exact hk (hz (k,b) (by simp)))];exact h.far k hn hk
theorem Ac6 {S:Nat->Prop}{dst:Option Nat}{m x:List Nat}(hm:∀i∈m++x,hp i≠none∧S i):Yv N S dst hp Cd (Ol (Ac hp m) x) (Ol (Ac Cd m) x):=by
 refine⟨fun i hi h=>?_,fun i hN hd hi=>?_,fun i hi=>?_,fun i hn hi=>?_⟩
 ·rw[D9] at h;have h1:Ac hp m i≠none:=fun e=>hi (Cp.1 e)
  split at h
  ·cases hq:Ac hp m i with
   |none=>exact h1 hq
   |some b=>rw[hq] at h;cases h
  ·exact h1 h
 ·have e:i ∉ m∧i ∉ x:=by
   refine⟨fun h=>?_,fun h=>?_⟩<;>(rcases hi with hi|hi)
   ·exact hi (hm i (by simp[h])).2
   ·exact (hm i (by simp[h])).1 hi
   ·exact hi (hm i (by simp[h])).2
   ·exact (hm i (by simp[h])).1 hi
  rw[D9,D9,if_neg e.2,if_neg e.2,A4,A4,if_neg e.1,if_neg e.1];exact⟨rfl,rfl⟩
 ·rw[D9,D9,A4,A4,hi]
 ·rw[D9,A4,if_neg (fun h=>hn (hm i (by simp[h])).2),if_neg (fun h=>hn (hm i (by simp[h])).2)]
theorem FD (hn:Rel none none){C:E9}{call:Ah}{f:FuncId}{c:Call}{K:St->Option R}{K':St->Option R'}{S:Nat->Prop}(Ho:c.args.toList.map (A8 tm)=c.args.toList.map (A8 tm')) (hS:∀i,S i->hp i=Cd i∨(hp i=none∧∀b,Rel none b))
  (hp_:∀p∈c.args.toList.map (A8 tm'),∀i∈A5 p,S i) (hc:∀p∈c.args.toList.map (A8 tm'),∀i∈A5 p,∀c,Cd i=some (.st c)->∀q∈c,∀k∈Aj q,S k)
  (RE:∀d,o.dst=some d->hp d=Cd d)(hNN:∀i,N<=i->hp i=Cd i)
  (hK:∀v Bs Dp,Yv N S o.dst hp Cd Bs Dp->Rel (K ⟨A0 tm o.dst v,Bs⟩) (K' ⟨A0 tm' o.dst v,Dp⟩)):Rel (Tk C P N call ⟨tm,hp⟩ o f c K) (Tk C P N call ⟨tm',Cd⟩ o f c K'):=by
 unfold Tk;simp only[Ho];refine Wj hn hS hp_ hc fun vs m x l hm=>An hn fun hb=>Z8 hn fun rv ro=>Tb hn fun ws bs Yn=>An hn fun _=>?_
 simp only[Bool.and_eq_true] at hb;have hN:0<N:=Nat.lt_of_succ_le (Nat.le_of_ble_eq_true hb.1.2);rw[HA hNN hN];by_cases Agf:∃i∈l.flatMap Ev.ids,hp i≠Cd i
 ·obtain⟨i,hi,Ie⟩:=Agf;obtain⟨h1,h2⟩:=hm i (List.mem_append.2 (.inr hi));rcases hS i h2 with h|⟨h,_⟩
  ·exact absurd h Ie
  ·exact absurd h h1
 have hl:∀i∈l.flatMap Ev.ids,hp i≠none∧S i∧hp i=Cd i:=fun i hi=>⟨(hm i (List.mem_append.2 (.inr hi))).1,(hm i (List.mem_append.2 (.inr hi))).2,Classical.byContradiction fun h=>Agf ⟨i,hi,h⟩⟩
 have hT0:Yv N S o.dst hp Cd (Ol (Ac hp m) x) (Ol (Ac Cd m) x):=Ac6 fun i hi=>hm i (List.mem_append.2 (.inl hi))
 refine Ox hn hT0 hl fun h0 h1 bs' hT Akt=>?_
 have OK:∀q∈bs++bs',N<=q.1∨o.dst=some q.1:=by
  intro q hq;rcases List.mem_append.1 hq with hq|hq
  ·obtain⟨j,hj⟩:=Yn q hq;cases hd:o.dst with
   |none=>
    rw[hd] at hj;left;rw[hj];exact Nat.le_add_right _ _
   |some d=>
    rw[hd] at hj;change q.1=d+N*j at hj;cases j with
    |zero=>right;rw[hj];simp
    |succ j=>left;rw[hj,Nat.mul_add];omega
  ·obtain⟨k,hk⟩:=Akt q hq;left;rw[hk];unfold IC;exact Nat.le_mul_of_pos_right _ (by omega)
 have U0:∀q∈bs++bs',h0 q.1=h1 q.1:=by
  intro q hq;refine hT.same q.1 ?_;rcases OK q hq with h|h
  ·exact hNN _ h
  ·exact RE _ h
 rw[AN U0]
 exact An hn fun hb=>hK _ _ _ (X1 hT hT OK fun q hq=>by
  cases hz:hp q.1 with
  |none=>rfl
  |some c=>exact absurd ((U0 q hq).trans ((Ax hb).1 q.1 q.2 hq)) (hT.keep q.1 (by rw[hz];simp)))
theorem Ia (hn:Rel none none){C:E9}{call:Ah}{K:St->Option R}{K':St->Option R'}(Ho:∀x∈o.op.operands.toList,A8 tm x=A8 tm' x)
  (hS:∀i,Qr o tm' Cd i->hp i=Cd i∨(hp i=none∧∀b,Rel none b)) (RE:∀d,o.dst=some d->hp d=Cd d)(hNN:∀i,N<=i->hp i=Cd i)
  (hK:∀v Bs Dp,Yv N (Qr o tm' Cd) o.dst hp Cd Bs Dp->Rel (K ⟨A0 tm o.dst v,Bs⟩) (K' ⟨A0 tm' o.dst v,Dp⟩)):Rel (Pw C P N call ⟨tm,hp⟩ o K) (Pw C P N call ⟨tm',Cd⟩ o K'):=by
 unfold Pw;have hl:∀x∈o.op.operands.toList,∀i∈A5 (A8 tm' x),Qr o tm' Cd i:=fun x hx i hi=>.inl ⟨x,hx,hi⟩
 have DT:J0 o.op=false->∀x∈o.op.operands.toList,∀i∈A5 (A8 tm' x),∀c,Cd i=some (.st c)->∀q∈c,∀k∈Aj q,Qr o tm' Cd k:=fun ha x hx i hi c hc q hq k hk=>.inr ⟨ha,i,c,⟨x,hx,hi⟩,hc,q,hq,hk⟩
 generalize hLd:Qr o tm' Cd=S at *
 generalize RK:o.op=op at *
 split
 ·rename_i t x y;simp only[Ho x (by simp[Op.operands]),Ho y (by simp[Op.operands])]
  refine An hn fun hd=>GF (N:=N) hn hS (fun i hi=>hl x (by simp[Op.operands]) i (Hz hi)) (fun i hi=>hl y (by simp[Op.operands]) i (D3 hi)) fun Bs Dp hh=>?_
  have hd':=Option.isNone_iff_eq_none.1 hd;have:=hK .top Bs Dp (by rw[hd'];exact hh)
  rw[hd'] at this;exact this
 ·rename_i c
  have H2:∀x∈c.args.toList,x∈(Op.call c).operands.toList:=by
   intro x hx;simp only[Op.operands,Call.operands,Array.toList_append,List.mem_append];exact .inr hx
  split
  ·rename_i hc;refine B6 hn fun d hd=>Av hn fun x _ hx=>Av hn fun y _ hy=>Dm hn (Av hn fun _ _ _=>Av hn fun _ _ _=>?_)
   subst hy;have QN:=H2 x (by rw[hx];simp)
   have hym:=H2 y (by rw[hx];simp)
   simp only[Ho x QN,Ho y hym];refine Ri hn hS (RE d hd) (fun i hi=>hl x QN i (D3 hi)) (fun i hi=>hl y hym i (D3 hi)) fun v Bs Dp hh=>?_
   have:=hK v Bs Dp (by rw[hd];exact hh N)
   rw[hd] at this;exact this
  ·rename_i hc;refine Av hn fun x _ hx=>Av hn fun y _ hy=>Dm hn (Av hn fun _ _ _=>Av hn fun _ _ _=>?_)
   subst hy;have QN:=H2 x (by rw[hx];simp)
   have hym:=H2 y (by rw[hx];simp)
   simp only[Ho x QN,Ho y hym];exact JX hn hS (fun i hi=>hl x QN i (D3 hi)) (fun i hi=>hl y hym i (D3 hi)) hK
  ·rename_i f hcf;refine FD hn (List.map_congr_left fun x hx=>Ho x (H2 x hx)) hS (fun p hp i hi=>?_) (fun p hp i hi=>?_) RE hNN hK
   ·obtain⟨x,hx,rfl⟩:=List.mem_map.1 hp;exact hl x (H2 x hx) i hi
   ·obtain⟨x,hx,rfl⟩:=List.mem_map.1 hp;exact DT (by simp only[J0,hcf]) x (H2 x hx) i hi
  ·exact hn
 ·exact hn
theorem Wo (hn:Rel none none){C:E9}{call:Ah}{K:St->Option R}{K':St->Option R'}(Ho:∀x∈o.op.operands.toList,A8 tm x=A8 tm' x)(hK:∀v Bs,(∀i,hp i≠none->Bs i≠none)->Rel (K ⟨A0 tm o.dst v,Bs⟩) (K' ⟨A0 tm' o.dst v,Bs⟩)):Rel (Pw C P N call ⟨tm,hp⟩ o K) (Pw C P N call ⟨tm',hp⟩ o K'):=
 Ia hn Ho (fun _ _=>.inl rfl) (fun _ _=>rfl) (fun _ _=>rfl) fun v Bs Dp hT=>by
  have:Bs=Dp:=funext fun i=>hT.same i rfl
  subst this;exact hK v Bs hT.keep
end
section
variable {R:Type} {r:R} {C:E9} {P:Program} {N:Nat} {call:Ah} {ops:Array Oper} {o x:Oper} {s:St} {K:St->Option R}
theorem CA {tm:Nat->PV}{hp Bs:Nat->Option A1}{tm':Nat->PV}{q:Q3}(hm:Fj P o.op=false)(ht:∀t∈Cm ops o,tm t=tm' t)(h:gE C P N call ops o ⟨tm,hp⟩=some q):gE C P N call ops o ⟨tm',Bs⟩=some q:=
 Rp (s:=⟨tm,hp⟩) (s':=⟨tm',Bs⟩) ht (fun h=>by rw[hm] at h;cases h) h
theorem Ue {tm:Nat->PV}{hp:Nat->Option A1}(hm:Fj P o.op=false)(h:B9 C P N call ops o ⟨tm,hp⟩ K=some r):
  ∃v nw,gE C P N call ops o ⟨tm,hp⟩=some (v,[],nw)∧Ej N o.dst=true∧A3 hp nw=true∧(∀p∈nw,o.dst=some p.1)∧K ⟨A0 tm o.dst v,Ak hp nw⟩=some r:=by
 have hM:Nf C P o.op=false:=by
  cases hh:Nf C P o.op
  ·rfl
  ·rw[Rr hh] at hm;cases hm
 rw[Hx (by simp[Ez,hM])] at h
 cases e:gE C P N call ops o ⟨tm,hp⟩ with
 |none=>rw[e] at h;cases h
 |some q=>
  obtain⟨v,fz,nw⟩:=q;obtain⟨h1,h2⟩:=(Oh e).1 hm;simp only at h1 h2;subst h1;rw[e] at h;obtain⟨hb,h⟩:=Ae h;simp only[Bool.and_eq_true] at hb;exact⟨v,nw,rfl,hb.1,hb.2,h2,h⟩
theorem Yg {tm:Nat->PV}{hp:Nat->Option A1}{v:PV}{nw:List (Nat × A1)} (hm:Fj P o.op=false)(e:gE C P N call ops o ⟨tm,hp⟩=some (v,[],nw)) (hd:Ej N o.dst=true)(ha:A3 hp nw=true)(h:K ⟨A0 tm o.dst v,Ak hp nw⟩=some r):B9 C P N call ops o ⟨tm,hp⟩ K=some r:=by
 have hM:Nf C P o.op=false:=by
  cases hh:Nf C P o.op
  ·rfl
  ·rw[Rr hh] at hm;cases hm
 rw[Hx (by simp[Ez,hM]),e]
 show Ao _ _=_;have QZ:A3 hp nw=true:=ha;rw[hd,QZ];exact h
theorem Ju {hp:Nat->Option A1}{nw:List (Nat × A1)} (ha:A3 hp nw=true){i:Nat}(hi:∀p∈nw,p.1≠i):Ak hp nw i=hp i:=
 (Cy (Ax ha).2).2 i fun b hb=>hi _ hb rfl
theorem SD {hp Bs:Nat->Option A1}{nw:List (Nat × A1)} (ha:A3 hp nw=true){g:Nat->Option A1}(h1:∀i,(∀p∈nw,p.1≠i)->g i=Bs i) (h2:∀i,(∃p∈nw,p.1=i)->g i=Ak hp nw i) (QZ:A3 Bs nw=true):g=Ak Bs nw:=by
 funext i
 by_cases h:∃p∈nw,p.1=i
 ·rw[h2 i h];obtain⟨⟨j,b⟩,hp,rfl⟩:=h;rw[(Cy (Ax ha).2).1 j b hp,(Cy (Ax QZ).2).1 j b hp]
 ·have h':∀p∈nw,p.1≠i:=fun p hp e=>h ⟨p,hp,e⟩
  rw[h1 i h',Ju QZ h']
theorem ZC (ap:Sa C P ops x o)(hx:Ez C P ops x s.tm=true)
  (h:B9 C P N call ops x s (fun s1=>B9 C P N call ops o s1 K)=some r):B9 C P N call ops o s (fun s1=>B9 C P N call ops x s1 K)=some r:=by
 have hm:Fj P o.op=false:=ap.mx (by unfold Ez at hx;simp only[Bool.and_eq_true] at hx;exact hx.1)
 rw[Ge hx] at h;obtain⟨tm,hp⟩:=s;have look:∀v,∀t∈Cm ops o,A0 tm x.dst v t=tm t:=fun v=>De ap.xo
 have h1:=Ia (P:=P) (N:=N) (o:=x) (tm:=tm) (tm':=tm) (hp:=hp) (Cd:=hp) (K:=fun s1=>B9 C P N call ops o s1 K) (K':=fun _=>none)
  (Rel:=fun (a:Option R)(_:Option R)=>a=some r->∃v nw,gE C P N call ops o ⟨tm,hp⟩=some (v,[],nw)∧Ej N o.dst=true∧(∀p∈nw,o.dst=some p.1)∧A3 hp nw=true) (fun h=>by cases h) (fun _ _=>rfl) (fun _ _=>.inl rfl) (fun _ _=>rfl) (fun _ _=>rfl) (fun v Bs _ hT h=>by
   obtain⟨u,nw,hu,hd,ha,hn,_⟩:=Ue hm h;refine⟨u,nw,CA hm (look v) hu,hd,hn,Md ha fun i b hi=>?_⟩
   cases hh:hp i with
   |none=>rfl
   |some c=>exact absurd ((Ax ha).1 i b hi) (hT.keep i (by rw[hh];simp))) h
 obtain⟨v,nw,hv,hd,hn,ha⟩:=h1;refine Yg hm hv hd ha ?_;have t2:∀t∈Cm ops x,tm t=A0 tm o.dst v t:=fun t ht=>(De ap.ox t ht).symm
 rw[Ge (by rw[←Fc t2];exact hx)]
 refine Ia (P:=P) (N:=N) (o:=x) (tm:=tm) (tm':=A0 tm o.dst v) (hp:=hp) (Cd:=Ak hp nw) (Rel:=fun (a b:Option R)=>a=some r->b=some r) (fun h=>by cases h) (Du t2) (fun i _=>?_) (fun d hxd=>?_) (fun i hi=>(Ju ha fun p hp e=>by have:=Mc hd (hn p hp);omega).symm) (fun u Bs Dp hT h=>?_) h
 ·by_cases hi:∃p∈nw,p.1=i
  ·obtain⟨⟨j,b⟩,Cd,rfl⟩:=hi;exact .inr ⟨(Ax ha).1 j b Cd,fun _ h=>by cases h⟩
  ·exact .inl (Ju ha fun p hp e=>hi ⟨p,hp,e⟩).symm
 ·refine (Ju ha fun p hp e=>?_).symm
  have:=hn p hp;rw[e] at this;exact ap.ne d hxd this
 ·obtain⟨v',nw',K2,_,QZ,_,h'⟩:=Ue hm h;have he:=CA (Bs:=hp) hm (look u) K2;rw[hv] at he;simp only[Option.some.injEq,Prod.mk.injEq,true_and] at he;obtain⟨rfl,rfl⟩:=he
  have hh:Dp=Ak Bs nw:=by
   refine SD ha (fun i hi=>?_) (fun i hi=>?_) QZ
   ·exact (hT.same i (Ju ha hi).symm).symm
   ·obtain⟨⟨j,b⟩,Cd,rfl⟩:=hi;refine (hT.off j (Mc hd (hn _ Cd)) (fun e=>ap.ne j e (hn _ Cd)) (.inr ((Ax ha).1 j b Cd))).2
  rw[hh,←H9 ap.ne];exact h'
theorem XY (hw:IB C P o s)(ap:Sa C P ops x o)(ho:Ez C P ops o s.tm=true)
  (h:B9 C P N call ops x s (fun s1=>B9 C P N call ops o s1 K)=some r):B9 C P N call ops o s (fun s1=>B9 C P N call ops x s1 K)=some r:=by
 have hm:Fj P x.op=false:=ap.mo (by unfold Ez at ho;simp only[Bool.and_eq_true] at ho;exact ho.1)
 obtain⟨tm,hp⟩:=s;obtain⟨v,nw,hv,hd,ha,hn,h1⟩:=Ue hm h;have t1:∀t∈Cm ops o,A0 tm x.dst v t=tm t:=De ap.xo;change B9 C P N call ops o ⟨A0 tm x.dst v,Ak hp nw⟩ K=some r at h1;rw[Ge (by rw[Fc t1];exact ho)] at h1
 rw[Ge ho];have ZB:Nf C P o.op=true:=by unfold Ez at ho;simp only[Bool.and_eq_true] at ho;exact ho.1
 have Abr:∀i,Qr o tm hp i->hp i≠none:=by
  rintro i (⟨y,hy,hi⟩|⟨Oq,id,c,⟨y,hy,hi⟩,hc,p,Cd,hk⟩)
  ·exact hw.1 y hy i hi
  ·exact hw.2 ZB Oq y hy id hi c hc p Cd i hk
 refine Ia (P:=P) (N:=N) (o:=o) (tm:=A0 tm x.dst v) (tm':=tm) (hp:=Ak hp nw) (Cd:=hp) (Rel:=fun (a b:Option R)=>a=some r->b=some r) (fun h=>by cases h) (Du t1) (fun i hi=>?_) (fun d hod=>?_) (fun i hi=>Ju ha fun p hp e=>by have:=Mc hd (hn p hp);omega) (fun u Bs Dp hT h=>?_) h1
 ·refine .inl (Ju ha fun p Bs e=>Abr i hi ?_)
  rw[←e];exact (Ax ha).1 p.1 p.2 Bs
 ·refine Ju ha fun p Bs e=>?_
  have:=hn p Bs;rw[e] at this;exact ap.ne d this hod
 ·have Lf:∀p∈nw,Bs p.1=Ak hp nw p.1∧Dp p.1=none:=by
   intro p hp2;have GB:=(Ax ha).1 p.1 p.2 hp2;have h3:=hT.off p.1 (Mc hd (hn p hp2)) (fun e=>ap.ne p.1 (hn p hp2) e) (.inl fun hL=>Abr _ hL GB)
   exact⟨h3.1,h3.2.trans GB⟩
  have QZ:A3 Dp nw=true:=Md ha fun i b hi=>(Lf (i,b) hi).2
  refine Yg hm (CA hm (fun t ht=>(De ap.ox t ht).symm) hv) hd QZ ?_
  have hh:Bs=Ak Dp nw:=by
   refine SD ha (fun i hi=>?_) (fun i hi=>?_) QZ
   ·exact hT.same i (Ju ha hi)
   ·obtain⟨p,hp2,rfl⟩:=hi;exact (Lf p hp2).1
  rw[←H9 ap.ne,←hh];exact h
theorem Agc (hw:IB C P o s)(ap:Sa C P ops x o)
  (h:B9 C P N call ops x s (fun s1=>B9 C P N call ops o s1 K)=some r):B9 C P N call ops o s (fun s1=>B9 C P N call ops x s1 K)=some r:=by
 cases hx:Ez C P ops x s.tm
 ·cases ho:Ez C P ops o s.tm
  ·exact NH hw ap.xo ap.ne ap.ox hx ho h
  ·exact XY hw ap ho h
 ·exact ZC ap hx h
theorem H7 (h:Ob P o.op=true):Nf C P o.op=false:=by
 unfold Ob at h;split at h
 ·rename_i ho;rw[ho];rfl
 ·rename_i ho;rw[ho];rfl
 ·cases h
def Zb (P:Program)(ops:Array Oper)(o:Oper)(tm:Nat->PV):Prop:=Ob P o.op=true∨E4 ops o tm=some false
theorem Q2 {tm tm':Nat->PV}(h:∀t∈Cm ops o,tm t=tm' t)(hl:Zb P ops o tm):Zb P ops o tm':=by
 rcases hl with hl|hl
 ·exact .inl hl
 ·exact .inr (by rw[←Ih h];exact hl)
theorem AE {tm:Nat->PV}(hl:Zb P ops o tm):Ez C P ops o tm=false:=by
 rcases hl with hl|hl
 ·simp[Ez,H7 hl]
 ·simp[Ez,hl]
theorem LJ {q:Q3}(hl:Zb P ops o s.tm)(h:gE C P N call ops o s=some q):q.2.1=[]∧q.2.2=[]:=by
 unfold gE at h;split at h
 ·cases h
 ·rename_i hv
  have hl:Ob P o.op=true:=by
   rcases hl with hl|hl
   ·exact hl
   ·rw[hv] at hl;cases hl
  rw[H7 hl] at h;have h:NU C P N call o s=some q:=h;unfold Ob at hl;split at hl
  ·rename_i t a ho;unfold NU Ws at h;rw[ho] at h
   have:=Ze (nz:=C.nz N) (P:=P) (f:=rd s.hp) (f':=rd s.hp) (g:=Hd s.hp) (g':=Hd s.hp) (t:=t) (x:=A8 s.tm a) (Rel:=fun (a b:Option Q3)=>∀q,a=some q->q.2.1=[]∧q.2.2=[])
    (K:=fun v=>some (v,[],[])) (K':=fun v=>some (v,[],[])) (fun _ h=>by cases h) (fun _ _=>.inl ⟨rfl,rfl⟩) (fun v q hq=>by cases hq;exact⟨rfl,rfl⟩)
   exact this q h
  ·rename_i src dst y ho;unfold NU Ws at h;rw[ho] at h;simp only at h;unfold W2 at h;split at hl
   ·rename_i hd;rw[hd] at h;simp only at h;split at h
    ·obtain⟨_,_,h⟩:=Cf h;obtain⟨_,_,h⟩:=Bq h;cases h;exact⟨rfl,rfl⟩
    ·split at h
     ·exact R9 (f:=Hd s.hp) (f':=Hd s.hp) (K':=fun _ _=>(none:Option Q3)) (Rel:=fun (a _:Option Q3)=>a=some q->q.2.1=[]∧q.2.2=[]) (fun h=>by cases h) (fun _ _=>.inl rfl) (fun n c h=>by
       obtain⟨_,h⟩:=Ae h;obtain⟨_,_,h⟩:=Bq h;obtain⟨_,_,h⟩:=Bq h;cases h;exact⟨rfl,rfl⟩) h
     ·cases h
    ·cases h
   ·cases hl
  ·cases hl
 ·cases h;exact⟨rfl,rfl⟩
theorem OI {tm tm':Nat->PV}{hp:Nat->Option A1}(h:∀t∈Cm ops o,tm t=tm' t){i:Nat}(hi:Qr o tm hp i):Qr o tm' hp i:=by
 have he:=Du (ops:=ops) (o:=o) h;rcases hi with⟨y,hy,hi⟩|⟨Oq,id,c,⟨y,hy,hi⟩,hc,q⟩
 ·exact .inl ⟨y,hy,by rw[←he y hy];exact hi⟩
 ·exact .inr ⟨Oq,id,c,⟨y,hy,by rw[←he y hy];exact hi⟩,hc,q⟩
theorem Abg {hp Bs:Nat->Option A1}{i:Nat}(h:Bs i=hp i):rd Bs i=rd hp i∧Hd Bs i=Hd hp i:=by
 unfold rd Hd;rw[h];exact⟨rfl,rfl⟩
theorem Tv {tm:Nat->PV}{hp:Nat->Option A1}(hl:Zb P ops o tm)(h:B9 C P N call ops o ⟨tm,hp⟩ K=some r):
  ∃v,gE C P N call ops o ⟨tm,hp⟩=some (v,[],[])∧Ej N o.dst=true∧K ⟨A0 tm o.dst v,hp⟩=some r:=by
 rw[Hx (AE hl)] at h;cases e:gE C P N call ops o ⟨tm,hp⟩ with
 |none=>rw[e] at h;cases h
 |some q=>
  obtain⟨v,fz,nw⟩:=q;obtain⟨h1,h2⟩:=LJ hl e;simp only at h1 h2;subst h1;subst h2;rw[e] at h;obtain⟨hb,h⟩:=Ae h;simp only[Bool.and_eq_true] at hb;exact⟨v,rfl,hb.1,h⟩
theorem Xw {tm:Nat->PV}{hp:Nat->Option A1}{v:PV}(hl:Zb P ops o tm)(e:gE C P N call ops o ⟨tm,hp⟩=some (v,[],[])) (hd:Ej N o.dst=true)(h:K ⟨A0 tm o.dst v,hp⟩=some r):B9 C P N call ops o ⟨tm,hp⟩ K=some r:=by
 rw[Hx (AE hl),e];show Ao _ _=_;have ha:A3 hp []=true:=rfl;simp only[hd,ha,Bool.and_self];exact h
theorem ZK (hw:IB C P o s)(xo:∀d,x.dst=some d->d ∉ Cm ops o)(ne:∀d,x.dst=some d->o.dst≠some d)(ox:∀d,o.dst=some d->d ∉ Cm ops x)(hl:Zb P ops o s.tm)
  (EW:∀y∈o.op.operands.toList,∀i∈A5 (A8 s.tm y),¬Qr x s.tm s.hp i) (hx:Ez C P ops x s.tm=true)
  (h:B9 C P N call ops x s (fun s1=>B9 C P N call ops o s1 K)=some r):B9 C P N call ops o s (fun s1=>B9 C P N call ops x s1 K)=some r:=by
 rw[Ge hx] at h;obtain⟨tm,hp⟩:=s;have look:∀v,∀t∈Cm ops o,A0 tm x.dst v t=tm t:=fun v=>De xo
 have back:∀{u:PV} {Bs:Nat->Option A1} {q:Q3},(∀y∈o.op.operands.toList,∀i∈A5 (A8 tm y),Bs i=hp i)->gE C P N call ops o ⟨A0 tm x.dst u,Bs⟩=some q->gE C P N call ops o ⟨tm,hp⟩=some q:=
  fun hh e=>Rp (s:=⟨A0 tm x.dst _,_⟩) (s':=⟨tm,hp⟩) (look _) (fun _ y hy i hi=>.inl (Abg (hh y hy i hi))) e
 have h1:=Ia (P:=P) (N:=N) (o:=x) (tm:=tm) (tm':=tm) (hp:=hp) (Cd:=hp) (K:=fun s1=>B9 C P N call ops o s1 K) (K':=fun _=>none)
  (Rel:=fun (a:Option R)(_:Option R)=>a=some r->∃v,gE C P N call ops o ⟨tm,hp⟩=some (v,[],[])∧Ej N o.dst=true) (fun h=>by cases h) (fun _ _=>rfl) (fun _ _=>.inl rfl) (fun _ _=>rfl) (fun _ _=>rfl) (fun v Bs _ hT h=>by
   obtain⟨u,hu,hd,_⟩:=Tv (Q2 (fun t ht=>(look v t ht).symm) hl) h
   exact⟨u,back (fun y hy i hi=>hT.far i (EW y hy i hi) (hw.1 y hy i hi)) hu,hd⟩) h
 obtain⟨v,hv,hd⟩:=h1;refine Xw hl hv hd ?_;have t2:∀t∈Cm ops x,tm t=A0 tm o.dst v t:=fun t ht=>(De ox t ht).symm
 rw[Ge (by rw[←Fc t2];exact hx)]
 refine Ia (P:=P) (N:=N) (o:=x) (tm:=tm) (tm':=A0 tm o.dst v) (hp:=hp) (Cd:=hp) (Rel:=fun (a b:Option R)=>a=some r->b=some r) (fun h=>by cases h) (Du t2) (fun _ _=>.inl rfl) (fun _ _=>rfl) (fun _ _=>rfl) (fun u Bs Dp hT h=>?_) h
 have e1:Bs=Dp:=funext fun i=>hT.same i rfl
 subst e1;obtain⟨v',K2,_,h'⟩:=Tv (Q2 (fun t ht=>(look u t ht).symm) hl) h
 have he:=back (fun y hy i hi=>hT.far i (fun hR=>EW y hy i hi (OI (fun t ht=>(t2 t ht).symm) hR)) (hw.1 y hy i hi)) K2
 rw[hv] at he;simp only[Option.some.injEq,Prod.mk.injEq,and_true] at he;subst he;rw[←H9 ne];exact h'
theorem ZP (xo:∀d,x.dst=some d->d ∉ Cm ops o)(ne:∀d,x.dst=some d->o.dst≠some d)(ox:∀d,o.dst=some d->d ∉ Cm ops x)(hl:Zb P ops x s.tm)
  (EW:∀y∈x.op.operands.toList,∀i∈A5 (A8 s.tm y),¬Qr o s.tm s.hp i) (ho:Ez C P ops o s.tm=true)
  (h:B9 C P N call ops x s (fun s1=>B9 C P N call ops o s1 K)=some r):B9 C P N call ops o s (fun s1=>B9 C P N call ops x s1 K)=some r:=by
 obtain⟨tm,hp⟩:=s;obtain⟨v,hv,hd,h1⟩:=Tv hl h;have t1:∀t∈Cm ops o,A0 tm x.dst v t=tm t:=De xo;rw[Ge (by rw[Fc t1];exact ho)] at h1
 rw[Ge ho];refine Ia (P:=P) (N:=N) (o:=o) (tm:=A0 tm x.dst v) (tm':=tm) (hp:=hp) (Cd:=hp) (Rel:=fun (a b:Option R)=>a=some r->b=some r) (fun h=>by cases h) (Du t1) (fun _ _=>.inl rfl) (fun _ _=>rfl) (fun _ _=>rfl) (fun u Bs Dp hT h=>?_) h1
 have e1:Bs=Dp:=funext fun i=>hT.same i rfl
 subst e1;have t2:∀t∈Cm ops x,tm t=A0 tm o.dst u t:=fun t ht=>(De ox t ht).symm
 refine Xw (Q2 t2 hl) (Rp (s:=⟨tm,hp⟩) (s':=⟨A0 tm o.dst u,Bs⟩) t2 (fun _ y hy i hi=>?_) hv) hd ?_
 ·have hi:i∈A5 (A8 tm y):=by rw[Du t2 y hy];exact hi
  by_cases hn:hp i=none
  ·exact .inr ⟨NE hn,Is hn⟩
  ·obtain⟨h3,h4⟩:=Abg (hT.far i (EW y hy i hi) hn);exact .inl ⟨h3.symm,h4.symm⟩
 ·rw[←H9 ne];exact h
def Zh (P:Program)(x:Oper)(s s1:St):Prop:=(∀t,x.dst≠some t->s1.tm t=s.tm t)∧(∀i,s.hp i≠none->s1.hp i≠none)∧(Fj P x.op=false->∀i,s.hp i≠none->s1.hp i=s.hp i)
theorem K7 {tm:Nat->PV}{d:Option Tmp}{v:PV}{t:Nat}(h:d≠some t):A0 tm d v t=tm t:=by
 cases d with
 |none=>rfl
 |some d=>exact Ad _ _ (by rintro rfl;exact h rfl)
theorem Wc {K':St->Option R}(h:B9 C P N call ops x s K=some r)(hK:∀s1,Zh P x s s1->K s1=some r->K' s1=some r):B9 C P N call ops x s K'=some r:=by
 cases hx:Ez C P ops x s.tm
 ·rw[Hx hx] at h ⊢;cases ex:gE C P N call ops x s with
  |none=>rw[ex] at h;cases h
  |some q=>
   rw[ex] at h;obtain⟨hb,h1⟩:=Ae h;simp only[Bool.and_eq_true] at hb;show Ao _ _=_;rw[hb.1,hb.2];refine hK _ ⟨fun t ht=>K7 ht,fun i hi=>J2 hb.2 hi,fun hm i hi=>?_⟩ h1
   show Ak (Ac s.hp q.2.1) q.2.2 i=s.hp i;rw[Ee hb.2 hi,((Oh ex).1 hm).1];simp
 ·rw[Ge hx] at h ⊢
  exact Wo (P:=P) (N:=N) (o:=x) (tm:=s.tm) (tm':=s.tm) (hp:=s.hp) (Rel:=fun (a b:Option R)=>a=some r->b=some r) (fun h=>by cases h) (fun _ _=>rfl) (fun v Bs hh h=>hK _ ⟨fun t ht=>K7 ht,hh,fun hm=>by
   have hM:Nf C P x.op=true:=by unfold Ez at hx;simp only[Bool.and_eq_true] at hx;exact hx.1
   rw[Rr hM] at hm;cases hm⟩ h) h
theorem IB.keeps {s1:St}(h:IB C P o s)(ap:Sa C P ops x o)(hk:Zh P x s s1):IB C P o s1:=by
 have RK:∀y∈o.op.operands.toList,A8 s1.tm y=A8 s.tm y:=fun y hy=>Du (ops:=ops) (o:=o) (fun t ht=>hk.1 t fun hd=>ap.xo t hd ht) y hy
 refine⟨fun y hy i hi=>?_,fun hM hA y hy i hi c hc p hp k hkk=>?_⟩
 ·rw[RK y hy] at hi;exact hk.2.1 i (h.1 y hy i hi)
 ·rw[RK y hy] at hi;have KW:=h.1 y hy i hi;rw[hk.2.2 (ap.mo hM) i KW] at hc;exact hk.2.1 k (h.2 hM hA y hy i hi c hc p hp k hkk)
theorem Yh:∀(l:List Oper){s:St}{K:St->Option R},IB C P o s->(∀x∈l,Sa C P ops x o)->J7 C P N call ops l s (fun s1=>B9 C P N call ops o s1 K)=some r->B9 C P N call ops o s (fun s1=>J7 C P N call ops l s1 K)=some r
 |[],_,_,_,_,h=>h
 |x::l,s,K,hw,ap,h=>by
  refine Agc hw (ap x (by simp)) ?_
  refine Wc (K:=fun s1=>J7 C P N call ops l s1 (fun s2=>B9 C P N call ops o s2 K)) h fun s1 hk h1=>?_
  exact Yh l (hw.keeps (ap x (by simp)) hk) (fun y hy=>ap y (List.mem_cons_of_mem _ hy)) h1
theorem Ok:∀(l l':List Oper){s:St}{K:St->Option R},J7 C P N call ops (l++l') s K=J7 C P N call ops l s (fun s1=>J7 C P N call ops l' s1 K)
 |[],_,_,_=>rfl
 |x::l,l',s,K=>by
  show B9 C P N call ops x s (fun s1=>J7 C P N call ops (l++l') s1 K)=B9 C P N call ops x s (fun s1=>J7 C P N call ops l s1 _)
  congr 1
  funext s1
  exact Ok l l'
theorem QE {l l':List Oper}(hw:IB C P o s)(ap:∀x∈l,Sa C P ops x o)(h:J7 C P N call ops (l++o::l') s K=some r):B9 C P N call ops o s (fun s1=>J7 C P N call ops (l++l') s1 K)=some r:=by
 rw[Ok] at h;have:=Yh l hw ap h;refine Wc this fun s1 _ h1=>?_
 rw[Ok];exact h1
end
open Go.RowKit
section
variable {R:Type} {r:R} {P:Program} {N:Nat} {w0:World} {X0:Ft} {Y:Nat->Prop} {β β':Bt} {s:St} {a:Act} {w w':World} {o:Oper} {ops:Array Oper} {C:E9} {call:Ah} {K:St->Option R}
theorem Wl (h:Br N w0 X0 Y β s a w){j d:Nat}(hd:(ops[j]?).bind (·.dst)=some d) {v:Value}(ht:s.tm d=.sc v):yielded ops a.tmps j=match v with | .bool b=>some b|_=>none:=by
 have Bk:d<N:=by
  rcases Nat.lt_or_ge d N with h'|h'
  ·exact h'
  ·rw[h.tmo d h'] at ht;cases ht
 have hv:=h.tms d Bk;rw[ht] at hv;have hv:=Td hv;have VP:d<a.tmps.size:=by rw[h.tsz];exact Bk
 have he:a.tmps[d]?=some v:=by
  rw[Array.getElem?_eq_getElem VP];simp[VP] at hv;rw[hv]
 unfold yielded;rw[hd];simp only[Option.bind_some,he];cases v<;>rfl
theorem Qx (h:Br N w0 X0 Y β s a w){G:Glo}(Ig:FX P G w0 X0)(Co:∀f args res,call f args=some res->Dr G P f args res){i:Nat}(hi:ops[i]?=some o) (hk:B9 C P N call ops o s K=some r):
  ∃s',K s'=some r∧∀(next:Act->World->Prop) (Q:Exit->Act->World->Prop),(∀a' w' β',Br N w0 X0 Y β' s' a' w'->next a' w')->wpOp P ops Q i next a w:=by
 rw[BS] at hk
 have hw:∀b,E4 ops o s.tm=some b->Region.wanted o (yielded ops a.tmps)=b:=by
  intro b hb;unfold E4 at hb;unfold Region.wanted;cases hg:o.guard with
  |none=>rw[hg] at hb;simpa using hb
  |some q=>
   obtain⟨j,want⟩:=q;rw[hg] at hb;simp only at hb ⊢;cases hd:(ops[j]?).bind (·.dst) with
   |none=>rw[hd] at hb;cases hb
   |some d=>
    rw[hd] at hb;simp only at hb;split at hb
    ·rename_i b' ht;rw[Wl h hd ht];simp at hb;rw[←hb];cases b'<;>cases want<;>rfl
    ·rename_i ht;rw[Wl h hd ht];simp at hb;rw[hb];rfl
    ·cases hb
 split at hk
 ·cases hk
 ·rename_i hv;obtain⟨s',YA,hn⟩:=JD h Ig Co hk;refine⟨s',YA,fun next Q SR=>?_⟩
  unfold wpOp;rw[hi];simp only[hw _ hv,if_true];exact .inl (hn next Q SR)
 ·rename_i hv;obtain⟨hd,hk⟩:=Ae hk;refine⟨_,hk,fun next Q SR=>?_⟩
  unfold wpOp;rw[hi];simp only[hw _ hv];refine SR _ _ β (h.put hd (Ap.sc _) (by simp[A5,Bh,Aj]))
theorem Br.known (h:Br N w0 X0 Y β s a w){d:Nat}(hd:s.tm d=.ub):∃b,Br N w0 X0 Y β ⟨Bi s.tm d (.sc (.bool b)),s.hp⟩ a w:=by
 have Bk:d<N:=by
  rcases Nat.lt_or_ge d N with h'|h'
  ·exact h'
  ·rw[h.tmo d h'] at hd;cases hd
 have hu:=h.tms d Bk;rw[hd] at hu;have F5:Ap w (Bz s.hp β Y) .ub (a.tmps.getD d undef):=hu
 obtain⟨b,hv⟩:∃b,a.tmps.getD d undef=.bool b:=by
  generalize a.tmps.getD d undef=x at F5;cases F5 with
  |ub b=>exact⟨b,rfl⟩
 refine⟨b,⟨h.dfr,h.tsz,fun i hi=>?_,fun i hi=>?_,h.box,h.inj,h.blt,fun i hi=>?_,h.wfB,h.ownd,h.rngB,h.pin,h.stp,h.Yx,h.Ylt,h.fr⟩⟩
 ·show Bi s.tm d _ i=_;rw[Ad _ _ (by omega)]
  exact h.tmo i hi
 ·by_cases e:i=d
  ·subst e;show C1 _ _ _ (Bi s.tm i _ i) _;rw[Af,hv];exact Ap.sc _
  ·show C1 _ _ _ (Bi s.tm d _ i) _;rw[Ad _ _ e];exact h.tms i hi
 ·by_cases e:i=d
  ·subst e;show ∀id∈A5 (Bi s.tm i _ i),_;rw[Af];simp[A5,Bh,Aj]
  ·show ∀id∈A5 (Bi s.tm d _ i),_;rw[Ad _ _ e];exact h.wfT i hi
theorem Zx {x y:Option R}(h:Uz x y=some r):x=some r∧y=some r:=by
 unfold Uz at h;split at h
 ·rename_i e;exact⟨h,e ▸ h⟩
 ·cases h
theorem CY (h:Br N w0 X0 Y β s a w){F:St->Option R}(hk:JE ops o s F=some r):∃s',F s'=some r∧Br N w0 X0 Y β s' a w:=by
 unfold JE at hk;split at hk
 ·exact⟨s,hk,h⟩
 ·split at hk
  ·exact⟨s,hk,h⟩
  ·split at hk
   ·rename_i d _ ht;obtain⟨b,hb⟩:=h.known ht;obtain⟨h1,h2⟩:=Zx hk;cases b
    ·exact⟨_,h2,hb⟩
    ·exact⟨_,h1,hb⟩
   ·exact⟨s,hk,h⟩
theorem Rd {G:Glo}(Ig:FX P G w0 X0)(Co:∀f args res,call f args=some res->Dr G P f args res){Q:Exit->Act->World->Prop}(hQ:∀s' a' w' β',K s'=some r->Br N w0 X0 Y β' s' a' w'->Q .normal a' w'):
  ∀(l:List Nat) (os:List Oper),l.length=os.length->(∀(k i:Nat),l[k]?=some i->ops[i]?=os[k]?)->∀{s:St} {a:Act} {w:World} {β:Bt},Br N w0 X0 Y β s a w->DK C P N call ops os s K=some r->wpOps P ops Q l a w
 |[],[],_,_,s,a,w,β,h,hk=>by
  show Q .normal a w;exact hQ s a w β hk h
 |[],_::_,hl,_,_,_,_,_,_,_=>by cases hl
 |_::_,[],hl,_,_,_,_,_,_,_=>by cases hl
 |i::l,o::os,hl,hi,s,a,w,β,h,hk=>by
  rw[wpOps_cons];obtain⟨s1,hk,h⟩:=CY h hk;obtain⟨s',YA,hn⟩:=Qx h Ig Co (by simpa using hi 0 i rfl) hk
  exact hn _ _ fun a' w' β' h'=>Rd Ig Co hQ l os (by simpa using hl) (fun k j hj=>by simpa using hi (k+1) j (by simpa using hj)) h' YA
theorem Br.drew (h:Br N w0 X0 Y β s a w):Br N w0 X0 Y β s a { w with drawn:=w.drawn+1 }:=by
 have:=h.stepR (d:=none) (v:=.top) (nw:=[]) (val:=undef) (w':={ w with drawn:=w.drawn+1 }) (β':=β) rfl rfl
  ⟨rfl,rfl,rfl,⟨Nat.le_refl _,fun _ _ _=>rfl,fun _ _=>Gu.refl _ _⟩,fun _ _=>rfl,by simp,by simp,by simp,by simp,by simp,.top _,by simp[A5,Bh,Aj]⟩
 exact this
theorem DO (h:Br N w0 X0 Y β s a w){G:Glo}(Ig:FX P G w0 X0)(Co:∀f args res,call f args=some res->Dr G P f args res){id:Nat}{Q:Exit->Act->World->Prop}
  (hk:DK C P N call ops ops.toList s K=some r)(hQ:∀s' a' w' β',K s'=some r->Br N w0 X0 Y β' s' a' w'->Q .normal a' w'):(Code.region id ops false).wp P Q a w:=by
 refine wp_region (Rd Ig Co hQ (List.range ops.size) ops.toList (by simp) (fun k i hi=>?_) h hk)
 rw[List.getElem?_range] at hi
 ·simp at hi;subst hi;simp
 ·rcases Nat.lt_or_ge k ops.size with h'|h'
  ·exact h'
  ·rw[List.getElem?_eq_none (by simpa using h')] at hi;cases hi
def Jq (n:Nat)(listed:Array Bool):List Nat:=(List.range n).filter fun i=> !listed.getD i true
def Ab8 (ops:Array Oper)(listed:Array Bool)(o:Oper):Prop:=∀e∈o.after,Region.binds .any e=true->listed.getD e.on false=true
theorem testBit_or {a b j:Nat}:(a ||| b).testBit j=(a.testBit j||b.testBit j):=Nat.testBit_or a b j
theorem Zo {acc:List Nat}{j:Nat}:∀(es:List Edge)(v:Nat),(es.foldl (fun s e=>bif Region.binds .any e then s ||| 2 ^ e.on ||| acc.getD e.on 0 else s) v).testBit j=true ->
  v.testBit j=true∨∃e∈es,Region.binds .any e=true∧(j=e.on∨(acc.getD e.on 0).testBit j=true)
 |[],v,h=>.inl h
 |e::es,v,h=>by
  rcases Zo es _ h with h|⟨e',he',h⟩
  ·cases hb:Region.binds .any e<;>simp only[hb] at h
   ·exact .inl h
   ·simp only[cond_true,Nat.testBit_or,Bool.or_eq_true] at h;rcases h with (h|h)|h
    ·exact .inl h
    ·refine .inr ⟨e,by simp,hb,.inl ?_⟩
     rw[Nat.testBit_two_pow] at h;exact (of_decide_eq_true h).symm
    ·exact .inr ⟨e,by simp,hb,.inr h⟩
  ·exact .inr ⟨e',by simp[he'],h⟩
theorem Na {listed:Array Bool}(hc:∀(j:Nat) oj,ops[j]?=some oj->listed.getD j false=true->Ab8 ops listed oj):
  ∀(rest done:List Oper) (acc:List Nat),ops.toList=done++rest->acc.length=done.length ->
   (∀(k:Nat) o,done[k]?=some o->Ab8 ops listed o->∀j,(acc.getD k 0).testBit j=true->listed.getD j false=true) ->
   ∀(k:Nat) o,ops[k]?=some o->Ab8 ops listed o->∀j,((F8 rest acc).getD k 0).testBit j=true->listed.getD j false=true
 |[],done,acc,he,_,h,k,o,ho,hf,j,hj=>by
  refine h k o ?_ hf j hj;rw[List.append_nil] at he;rw[←he]
  simpa using ho
 |o'::rest,done,acc,he,hl,h,k,o,ho,hf,j,hj=>by
  refine Na hc rest (done++[o']) _ (by rw[he];simp) (by simp[hl]) ?_ k o ho hf j hj
  intro k o ho hf j hj;rcases Nat.lt_trichotomy k done.length with Bk|heq|hgt
  ·rw[List.getElem?_append_left Bk] at ho;rw[List.getD_eq_getElem?_getD,List.getElem?_append_left (by omega),←List.getD_eq_getElem?_getD] at hj
   exact h k o ho hf j hj
  ·subst heq;simp at ho;subst ho;rw[←hl] at hj;simp only[List.getD_eq_getElem?_getD,List.getElem?_append_right (Nat.le_refl _),Nat.sub_self,List.getElem?_cons_zero,Option.getD_some] at hj
   have hj:(o'.after.toList.foldl (fun s e=>bif Region.binds .any e then s ||| 2 ^ e.on ||| acc.getD e.on 0 else s) 0).testBit j=true:=by
    simpa only[List.getD_eq_getElem?_getD] using hj
   rcases Zo _ _ hj with h0|⟨e,hm,hb,h1⟩
   ·simp at h0
   ·have We:=hf e (by simpa using hm) hb
    rcases h1 with h1|h1
    ·rw[h1];exact We
    ·cases hd:done[e.on]? with
     |none=>
      have:acc.getD e.on 0=0:=by
       rw[List.getD_eq_getElem?_getD,List.getElem?_eq_none (by rw[hl];exact List.getElem?_eq_none_iff.1 hd)]
       rfl
      rw[this] at h1;simp at h1
     |some oe=>
      have hoe:ops[e.on]?=some oe:=by
       rw[←Array.getElem?_toList,he,List.getElem?_append_left (by
        rcases Nat.lt_or_ge e.on done.length with h'|h'
        ·exact h'
        ·rw[List.getElem?_eq_none h'] at hd;cases hd)]
       exact hd
      exact h e.on oe hd (hc e.on oe hoe We) j h1
  ·rw[List.getElem?_eq_none (by simp;omega)] at ho
   cases ho
theorem Sq {bs:List Nat}:∀(l:List Oper)(n:Nat),V4 C P ops bs l n=true->∀(k:Nat) o,l[k]?=some o->∀(j:Nat) x,ops[j]?=some x->j<n+k->Xv C P ops x o=true->(bs.getD (n+k) 0).testBit j=true
 |[],_,_,k,o,ho,_,_,_,_,_=>by simp at ho
 |o'::l,n,h,k,o,ho,j,x,hx,hj,Le=>by
  simp only[V4,Bool.and_eq_true] at h;cases k with
  |zero=>
   simp at ho;subst ho
   have:=List.all_eq_true.1 h.1 (x,j) (by
    rw[List.mem_zipIdx_iff_getElem?]
    simpa using hx)
   simp only[Le,Bool.not_true,Bool.or_false,Bool.or_eq_true,Bool.not_eq_true'] at this;rcases this with h'|h'
   ·have:Nat.blt j n=true:=Nat.ble_eq_true_of_le (by omega)
    rw[this] at h';cases h'
   ·exact h'
  |succ k=>
   have:=Sq l (n+1) h.2 k o (by simpa using ho) j x hx (by omega) Le
   rwa [show n+(k+1)=n+1+k by omega]
theorem Hc {n i:Nat}{listed:Array Bool}:i∈Jq n listed↔i<n∧listed.getD i true=false:=by
 unfold Jq;simp[List.mem_filter]
theorem Qq {n i:Nat}{listed:Array Bool}(hi:i∈Jq n listed)(Jx:listed.size=n):∃l1 l2,Jq n listed=l1++i::l2∧Jq n (listed.setIfInBounds i true)=l1++l2∧∀j∈l1,j<i:=by
 obtain⟨Bk,Hf⟩:=Hc.1 hi
 have hr:List.range n=List.range i++i::(List.range (n-i-1)).map (i+1 + ·):=by
  conv=>lhs;rw[show n=i+(1+(n-i-1)) by omega]
  rw[List.range_add,List.range_add];simp[Nat.add_assoc]
 refine⟨(List.range i).filter fun i=> !listed.getD i true,((List.range (n-i-1)).map (i+1 + ·)).filter fun i=> !listed.getD i true,?_,?_,fun j hj=>?_⟩
 ·unfold Jq;rw[hr,List.filter_append,List.filter_cons_of_pos (by rw[Hf];rfl)]
 ·unfold Jq;rw[hr,List.filter_append,List.filter_cons_of_neg (by simp[Jx,Bk])]
  congr 1
  ·refine List.filter_congr fun j hj=>?_
   rw[getD_set_ne true (by have:=List.mem_range.1 hj;omega)]
  ·refine List.filter_congr fun j hj=>?_
   obtain⟨k,_,rfl⟩:=List.mem_map.1 hj;rw[getD_set_ne true (by omega)]
 ·exact List.mem_range.1 (List.mem_filter.1 hj).1
theorem TM (h:Br N w0 X0 Y β s a w)(o:Oper):IB C P o s:=by
 refine⟨fun y _ i hi=>Di h y i hi,fun _ _ y _ i hi c hc p hp k hk=>h.wfB i c hc p hp k hk⟩
theorem AM (SF:(ops.toList.zipIdx.all fun q=>q.1.after.toList.all fun e=> !Region.binds .any e||Nat.blt e.on q.2)=true) {listed:Array Bool}(inv:HeadInv .any ops ops.size listed)(hr:Region.ready .any ops listed=[]):Jq ops.size listed=[]:=by
 cases hp:Jq ops.size listed with
 |nil=>rfl
 |cons i l=>
  exfalso;have hi:i∈Jq ops.size listed:=by rw[hp];simp
  obtain⟨Bk,Hf⟩:=Hc.1 hi;obtain⟨l1,l2,h1,_,h3⟩:=Qq hi inv.size
  have We:l1=[]:=by
   cases l1 with
   |nil=>rfl
   |cons j l1=>
    rw[hp] at h1;simp at h1;have:=h3 j (by simp)
    omega
  subst We
  have Al0:∀j,j<i->listed.getD j false=true:=by
   intro j hj;cases hh:listed.getD j false with
   |true=>rfl
   |false=>
    have:j∈Jq ops.size listed:=Hc.2 ⟨by omega,getD_in (by rw[inv.size];omega) hh⟩
    have hs:(Jq ops.size listed).Pairwise (· < ·):=List.Pairwise.filter _ List.pairwise_lt_range
    rw[h1] at this hs;simp at this;rcases this with e|e
    ·omega
    ·have:=(List.pairwise_cons.1 hs).1 j e;omega
  have:i∈Region.ready .any ops listed:=by
   refine mem_ready.2 ⟨Hf,ops[i],Array.getElem?_eq_getElem Bk,fun e he hb=>Al0 _ ?_⟩
   have:=List.all_eq_true.1 SF (ops[i],i) (by
    rw[List.mem_zipIdx_iff_getElem?];simp[Bk])
   have:=List.all_eq_true.1 this e (Array.mem_toList_iff.2 he);simp only[hb,Bool.not_true,Bool.false_or] at this;exact Nat.lt_of_succ_le (Nat.le_of_ble_eq_true this)
  rw[hr] at this;simp at this
theorem BT {G:Glo}(Ig:FX P G w0 X0)(Co:∀f args res,call f args=some res->Dr G P f args res)(Js:AP C P ops=true){Q:Exit->Act->World->Prop}(hQ:∀s' a' w' β',K s'=some r->Br N w0 X0 Y β' s' a' w'->Q .normal a' w'):
  ∀(fuel:Nat) {listed:Array Bool} {s:St} {a:Act} {w:World} {β:Bt},HeadInv .any ops ops.size listed->(Jq ops.size listed).length=fuel->Br N w0 X0 Y β s a w->J7 C P N call ops ((Jq ops.size listed).filterMap (ops[·]?)) s K=some r->wpAny P .any ops Q fuel listed a w:=by
 unfold AP at Js;simp only[Bool.and_eq_true] at Js;obtain⟨SF,Abu⟩:=Js;intro fuel
 induction fuel with
 |zero=>
  intro listed s a w β inv hf h hk;have hp:=List.eq_nil_of_length_eq_zero hf;rw[hp] at hk;refine⟨?_,hQ s a w β hk h⟩;cases hr:Region.ready .any ops listed with
  |nil=>rfl
  |cons i l=>
   exfalso;have hi:i∈Region.ready .any ops listed:=by rw[hr];simp
   obtain⟨Hf,o,ho,_⟩:=mem_ready.1 hi;have:i∈Jq ops.size listed:=Hc.2 ⟨(Array.getElem?_eq_some_iff.1 ho).1,Hf⟩;rw[hp] at this;simp at this
 |succ fuel ih=>
  intro listed s a w β inv hf h hk;refine⟨fun hr=>?_,fun i hi=>?_⟩
  ·rw[AM SF inv hr] at hf;cases hf
  ·obtain⟨Hf,o,ho,Kq⟩:=mem_ready.1 hi;have Bk:i<ops.size:=(Array.getElem?_eq_some_iff.1 ho).1;obtain⟨l1,l2,h1,h2,h3⟩:=Qq (Hc.2 ⟨Bk,Hf⟩) inv.size;rw[h1,List.filterMap_append,List.filterMap_cons_some ho] at hk
   have Oq:∀x∈l1.filterMap (ops[·]?),Sa C P ops x o:=by
    intro x hx;obtain⟨j,hj,hxj⟩:=List.mem_filterMap.1 hx;refine RP ?_;cases Le:Xv C P ops x o with
    |false=>rfl
    |true=>
     exfalso;have Pc:=Sq ops.toList 0 Abu i o (by simpa using ho) j x hxj (by have:=h3 j hj;omega) Le
     rw[Nat.zero_add] at Pc;have hjl:=Na (listed:=listed) (fun j oj hj hl=>inv.closed j oj hj hl) ops.toList [] [] (by simp) rfl (by simp) i o ho Kq j Pc
     have:j∈Jq ops.size listed:=by rw[h1];simp[hj]
     have:=getD_both (Hc.1 this).2;rw[hjl] at this;cases this
   obtain⟨s',YA,hn⟩:=Qx h Ig Co ho (QE (TM h o) Oq hk);refine hn _ _ fun a' w' β' h'=>ih (inv.set hi Bk) ?_ h' ?_
   ·rw[h2];rw[h1] at hf;simp at hf ⊢;omega
   ·rw[h2,List.filterMap_append];exact YA
theorem Ta (h:Br N w0 X0 Y β s a w){G:Glo}(Ig:FX P G w0 X0)(Co:∀f args res,call f args=some res->Dr G P f args res)(hm:P.follows .mixedOrders=true)(Js:AP C P ops=true){Q:Exit->Act->World->Prop}
  (hk:J7 C P N call ops ops.toList s K=some r)(hQ:∀s' a' w' β',K s'=some r->Br N w0 X0 Y β' s' a' w'->Q .normal a' w'):wpAny P .any ops Q ops.size (Array.replicate ops.size false) a { w with drawn:=w.drawn+1 }:=by
 have hp:Jq ops.size (Array.replicate ops.size false)=List.range ops.size:=by
  unfold Jq;refine List.filter_eq_self.2 fun i hi=>?_
  have:=List.mem_range.1 hi;simp[this]
 refine BT (C:=C) Ig Co Js hQ ops.size ⟨by simp,fun j oj _ hl=>(by rw[getD_replicate_false] at hl;cases hl),fun t ht ht'=>by omega⟩ (by rw[hp];simp) h.drew ?_
 rw[hp]
 have:(List.range ops.size).filterMap (ops[·]?)=ops.toList:=by
  refine List.ext_getElem? fun k=>?_
  have:∀(n:Nat),n<=ops.size->(List.range n).filterMap (ops[·]?)=ops.toList.take n:=by
   intro n
   induction n with
   |zero=>intro _;rfl
   |succ n ih=>
    intro hn;rw[List.range_succ,List.filterMap_append,ih (by omega),List.take_add_one]
    congr 1
    have:ops[n]?=some ops[n]:=Array.getElem?_eq_getElem (by omega)
    simp[this]
  rw[this ops.size (Nat.le_refl _)]
  congr 1
  exact List.take_of_length_le (by simp)
 rw[this];exact hk
theorem CK (h:Br N w0 X0 Y β s a w){G:Glo}(Ig:FX P G w0 X0)(Co:∀f args res,call f args=some res->Dr G P f args res)(hm:P.follows .mixedOrders=true)(Js:AP C P ops=true){id:Nat}{Q:Exit->Act->World->Prop}
  (hk:J7 C P N call ops ops.toList s K=some r)(hQ:∀s' a' w' β',K s'=some r->Br N w0 X0 Y β' s' a' w'->Q .normal a' w'):(Code.region id ops true).wp P Q a w:=
 wp_region_any hm (Ta h Ig Co hm Js hk hQ)
end
end
section
open Go.RowKit
section
variable {R R':Type} {Rel:Option R->Option R'->Prop} {P:Program} {N:Nat} {tm tm':Nat->PV} {hp Cd:Nat->Option A1} {o:Oper}
theorem QU (hn:Rel none none){C:E9}{call:Ah}{K:St->Option R}{K':St->Option R'}(Oq:J0 o.op=true)(Ho:∀x∈o.op.operands.toList,A8 tm x=A8 tm' x)
  (hS:∀i,Qr o tm' Cd i->hp i=Cd i∨(hp i=none∧∀b,Rel none b)) (RE:∀d,o.dst=some d->hp d=Cd d)
  (hK:∀v Bs Dp,(∀M,Yv M (Qr o tm' Cd) o.dst hp Cd Bs Dp)->Rel (K ⟨A0 tm o.dst v,Bs⟩) (K' ⟨A0 tm' o.dst v,Dp⟩)):Rel (Pw C P N call ⟨tm,hp⟩ o K) (Pw C P N call ⟨tm',Cd⟩ o K'):=by
 unfold Pw;have hl:∀x∈o.op.operands.toList,∀i∈A5 (A8 tm' x),Qr o tm' Cd i:=fun x hx i hi=>.inl ⟨x,hx,hi⟩
 generalize hLd:Qr o tm' Cd=S at *
 generalize RK:o.op=op at *
 unfold J0 at Oq;split at Oq
 ·rename_i c
  have H2:∀x∈c.args.toList,x∈(Op.call c).operands.toList:=by
   intro x hx;simp only[Op.operands,Call.operands,Array.toList_append,List.mem_append];exact .inr hx
  split at Oq
  ·rename_i hc;simp only[hc];refine B6 hn fun d hd=>Av hn fun x _ hx=>Av hn fun y _ hy=>Dm hn (Av hn fun _ _ _=>Av hn fun _ _ _=>?_)
   subst hy;have QN:=H2 x (by rw[hx];simp)
   have hym:=H2 y (by rw[hx];simp)
   simp only[Ho x QN,Ho y hym];refine Ri hn hS (RE d hd) (fun i hi=>hl x QN i (D3 hi)) (fun i hi=>hl y hym i (D3 hi)) fun v Bs Dp hh=>?_
   have:=hK v Bs Dp (by rw[hd];exact hh)
   rw[hd] at this;exact this
  ·cases Oq
 ·cases Oq
theorem Mk {C:E9}{call:Ah}(Oq:J0 o.op=true)(Ho:∀x∈o.op.operands.toList,A8 tm x=A8 tm' x)(hS:∀i,Qr o tm' Cd i->hp i=Cd i)(RE:∀d,o.dst=some d->hp d=Cd d){s1:St}
  (h:Pw C P N call ⟨tm,hp⟩ o some=some s1):∃v Bs Dp,s1=⟨A0 tm o.dst v,Bs⟩∧Pw C P N call ⟨tm',Cd⟩ o some=some ⟨A0 tm' o.dst v,Dp⟩∧∀M,Yv M (Qr o tm' Cd) o.dst hp Cd Bs Dp:=by
 have:=QU (P:=P) (N:=N) (C:=C) (call:=call) (o:=o) (tm:=tm) (tm':=tm') (hp:=hp) (Cd:=Cd) (K:=some) (K':=some)
  (Rel:=fun (a b:Option St)=>∀s1,a=some s1->∃v Bs Dp,s1=⟨A0 tm o.dst v,Bs⟩∧b=some ⟨A0 tm' o.dst v,Dp⟩∧∀M,Yv M (Qr o tm' Cd) o.dst hp Cd Bs Dp) (fun _ h=>by cases h) Oq Ho (fun i hi=>.inl (hS i hi)) RE
  (fun v Bs Dp hT s1 h=>by cases h;exact⟨v,Bs,Dp,rfl,rfl,hT⟩)
 exact this s1 h
end
section
variable {R R':Type} {r:R} {r':R'} {C:E9} {P:Program} {N:Nat} {call:Ah} {ops:Array Oper} {o x:Oper} {s s1 s2:St} {K:St->Option R}
theorem Oi {tm:Nat->PV}(h:Ez C P ops o tm=true):Nf C P o.op=true:=by
 unfold Ez at h;simp only[Bool.and_eq_true] at h;exact h.1
theorem BF (h:J0 o.op=true):Nf C P o.op=true:=by
 unfold J0 at h;split at h
 ·rename_i c hc;rw[hc];split at h
  ·rename_i SE;simp only[Nf,SE];exact h
  ·cases h
 ·cases h
theorem Ka (h:B9 C P N call ops x s K=some r):∃s1,B9 C P N call ops x s some=some s1∧Zh P x s s1∧(Ob P x.op=true->s1.hp=s.hp)∧K s1=some r:=by
 cases hx:Ez C P ops x s.tm
 ·rw[Hx hx] at h ⊢;cases ex:gE C P N call ops x s with
  |none=>rw[ex] at h;cases h
  |some q=>
   rw[ex] at h;obtain⟨hb,h1⟩:=Ae h;simp only[Bool.and_eq_true] at hb;refine⟨_,?_,⟨fun t ht=>K7 ht,fun i hi=>J2 hb.2 hi,fun hm i hi=>?_⟩,fun hl=>?_,h1⟩
   ·show Ao _ _=_;rw[hb.1,hb.2];rfl
   ·show Ak (Ac s.hp q.2.1) q.2.2 i=s.hp i;rw[Ee hb.2 hi,((Oh ex).1 hm).1];simp
   ·show Ak (Ac s.hp q.2.1) q.2.2=s.hp;obtain⟨h1,h2⟩:=LJ (.inl hl) ex;rw[h1,h2]
    funext i
    show Ac s.hp [] i=_;rw[A4];simp
 ·rw[Ge hx] at h ⊢
  exact Wo (P:=P) (N:=N) (o:=x) (tm:=s.tm) (tm':=s.tm) (hp:=s.hp) (K':=some) (Rel:=fun (a:Option R) (b:Option St)=>a=some r->∃s1,b=some s1∧Zh P x s s1∧(Ob P x.op=true->s1.hp=s.hp)∧K s1=some r) (fun h=>by cases h) (fun _ _=>rfl) (fun v Bs hh h=>⟨_,rfl,⟨fun t ht=>K7 ht,hh,fun hm=>(by
   rw[Rr (Oi hx)] at hm;cases hm)⟩,fun hl=>(by
   have:=Oi hx;rw[H7 hl] at this;cases this),h⟩) h
theorem O9 {K':St->Option R'}(h:B9 C P N call ops x s some=some s1)(hk:K' s1=some r'):B9 C P N call ops x s K'=some r':=by
 cases hx:Ez C P ops x s.tm
 ·rw[Hx hx] at h ⊢;cases ex:gE C P N call ops x s with
  |none=>rw[ex] at h;cases h
  |some q=>
   rw[ex] at h;obtain⟨hb,h1⟩:=Ae h;show Ao _ _=_;rw[hb];cases h1;exact hk
 ·rw[Ge hx] at h ⊢;exact Wo (P:=P) (N:=N) (o:=x) (tm:=s.tm) (tm':=s.tm) (hp:=s.hp) (K:=some) (Rel:=fun (a:Option St) (b:Option R')=>a=some s1->b=some r') (fun h=>by cases h) (fun _ _=>rfl) (fun v Bs hh h=>by cases h;exact hk) h
theorem CN {d:Nat}{t tx:TypeId}{b y:PV}(h:Kz P N s d t tx b y K=some r):s.hp d=none:=by
 unfold Kz at h;split at h
 ·obtain⟨_,h⟩:=Ae h;cases hI:Rx P tx
  ·rw[hI,cond_false] at h;refine To (P:=P) (tm:=s.tm) (tm':=s.tm) (hp:=s.hp) (Cd:=s.hp) (S:=fun _=>True) (K':=fun _ _=>(none:Option R)) (Rel:=fun (a:Option R) (_:Option R)=>a=some r->s.hp d=none) (fun h=>by cases h) (fun _ _=>.inl rfl) (fun _ _=>trivial) (fun m new h=>?_) h
   split at h
   ·split at h
    ·obtain⟨hb,_⟩:=Ae h;simp only[Bool.and_eq_true,Option.isNone_iff_eq_none] at hb;simp only[hb]
    ·cases h
   ·obtain⟨_,_,_,h,_⟩:=Dy h;obtain⟨hb,_⟩:=Ae h;simp only[Bool.and_eq_true,Option.isNone_iff_eq_none] at hb;simp only[hb]
  ·rw[hI,cond_true] at h;unfold N3 at h;obtain⟨_,_,_,h⟩:=B2 h;obtain⟨_,_,_,h,_⟩:=Dy h;obtain⟨hb,_⟩:=Ae h;simp only[Bool.and_eq_true,Option.isNone_iff_eq_none] at hb;simp only[hb]
 ·cases h
theorem ZW (hw:IB C P o s)(hwx:∀y∈x.op.operands.toList,∀i∈A5 (A8 s.tm y),s.hp i≠none) (xo:∀d,x.dst=some d->d ∉ Cm ops o)(ne:∀d,x.dst=some d->o.dst≠some d)(ox:∀d,o.dst=some d->d ∉ Cm ops x)
  (B0:J0 x.op=true)(OA:J0 o.op=true)(EW:∀i,Qr x s.tm s.hp i->¬Qr o s.tm s.hp i)(hx:Ez C P ops x s.tm=true)(ho:Ez C P ops o s.tm=true)
  (h:B9 C P N call ops x s (fun s1=>B9 C P N call ops o s1 K)=some r):B9 C P N call ops o s (fun s1=>B9 C P N call ops x s1 K)=some r:=by
 obtain⟨tm,hp⟩:=s;obtain⟨s1,e1,_,_,h⟩:=Ka h;obtain⟨s2,e2,_,_,h⟩:=Ka h;rw[Ge hx] at e1
 have hSx:∀i,Qr x tm hp i->hp i≠none:=by
  rintro i (⟨y,hy,hi⟩|⟨Oq,_⟩)
  ·exact hwx y hy i hi
  ·rw[B0] at Oq;cases Oq
 have hSo:∀i,Qr o tm hp i->hp i≠none:=by
  rintro i (⟨y,hy,hi⟩|⟨Oq,_⟩)
  ·exact hw.1 y hy i hi
  ·rw[OA] at Oq;cases Oq
 obtain⟨vx,hpx,XL,rfl,e1',T1⟩:=Mk B0 (fun _ _=>rfl) (fun _ _=>rfl) (fun _ _=>rfl) e1
 have:XL=hpx:=by
  rw[e1] at e1';injection e1' with q;injection q with _ q;exact q.symm
 subst this;have t1:∀t∈Cm ops o,A0 tm x.dst vx t=tm t:=De xo;have t1o:=Du (ops:=ops) (o:=o) t1;rw[Ge (by rw[Fc t1];exact ho)] at e2
 have hRo:∀i,Qr o (A0 tm x.dst vx) XL i↔Qr o tm hp i:=by
  intro i;constructor
  ·rintro (⟨y,hy,hi⟩|⟨Oq,_⟩)
   ·exact .inl ⟨y,hy,by rw[←t1o y hy];exact hi⟩
   ·rw[OA] at Oq;cases Oq
  ·rintro (⟨y,hy,hi⟩|⟨Oq,_⟩)
   ·exact .inl ⟨y,hy,by rw[t1o y hy];exact hi⟩
   ·rw[OA] at Oq;cases Oq
 have Aar:∀{s:St} {o:Oper} {s2:St},J0 o.op=true->Pw C P N call s o some=some s2->∀d,o.dst=some d->s.hp d=none:=by
  intro s o s2 OA e d hd;unfold Pw at e;unfold J0 at OA;split at OA
  ·rename_i c hc;rw[hc] at e;simp only at e;split at OA
   ·rename_i SE;rw[SE] at e;simp only[hd,Da] at e;obtain⟨_,_,_,e⟩:=Ar e;obtain⟨_,_,_,e⟩:=Ar e;obtain⟨_,e⟩:=B7 e;obtain⟨_,_,_,e⟩:=Ar e;obtain⟨_,_,_,e⟩:=Ar e;exact CN e
   ·cases OA
  ·cases OA
 have Aic:∀d,o.dst=some d->hp d=none:=by
  intro d hd;have h0:=Aar OA e2 d hd;cases hh:hp d with
  |none=>rfl
  |some b=>exact absurd h0 ((T1 0).keep d (by rw[hh];simp))
 have Aff:=Aar B0 e1;simp only at Aff;have hoS:∀d,o.dst=some d->¬Qr x tm hp d:=fun d hd hR=>hSx d hR (Aic d hd)
 have hxS:∀d,x.dst=some d->¬Qr o tm hp d:=fun d hd hR=>hSo d hR (Aff d hd)
 obtain⟨vo,Ai6,hpo,rfl,e3,T2⟩:=Mk (tm':=tm) (Cd:=hp) OA t1o (fun i hi=>(T1 0).far i (fun hR=>EW i hR hi) (hSo i hi)) (fun d hd=>((T1 (d+1)).off d (by omega) (fun e=>ne d e hd) (.inl (hoS d hd))).1) e2
 obtain⟨vo',Aiz,EK,e3a,e3b,T3⟩:=Mk (tm':=tm) (Cd:=hp) OA (fun _ _=>rfl) (fun _ _=>rfl) (fun _ _=>rfl) e3
 rw[e3] at e3b
 have Ajg:Aiz=hpo∧EK=hpo:=by
  injection e3a with _ q1;injection e3b with q2;injection q2 with _ q3;exact⟨q1.symm,q3.symm⟩
 obtain⟨rfl,rfl⟩:=Ajg;have t2:∀t∈Cm ops x,tm t=A0 tm o.dst vo t:=fun t ht=>(De ox t ht).symm
 have t2x:=Du (ops:=ops) (o:=x) t2
 have hRx:∀i,Qr x (A0 tm o.dst vo) EK i↔Qr x tm hp i:=by
  intro i;constructor
  ·rintro (⟨y,hy,hi⟩|⟨Oq,_⟩)
   ·exact .inl ⟨y,hy,by rw[t2x y hy];exact hi⟩
   ·rw[B0] at Oq;cases Oq
  ·rintro (⟨y,hy,hi⟩|⟨Oq,_⟩)
   ·exact .inl ⟨y,hy,by rw[←t2x y hy];exact hi⟩
   ·rw[B0] at Oq;cases Oq
 obtain⟨vx2,Ajm,Ak7,e4a,e4,T4⟩:=Mk (tm':=A0 tm o.dst vo) (Cd:=EK) B0 t2x (fun i hi=>((T3 0).far i (EW i ((hRx i).1 hi)) (hSx i ((hRx i).1 hi))).symm) (fun d hd=>((T3 (d+1)).off d (by omega) (fun e=>ne d hd e) (.inl (hxS d hd))).1.symm) e1
 have YS:A0 tm x.dst vx=A0 tm x.dst vx2∧XL=Ajm:=by
  injection e4a with q1 q2;exact⟨q1,q2⟩
 obtain⟨YS,rfl⟩:=YS;obtain⟨_,AK,Vz,e5a,e5b,T5⟩:=Mk (tm':=A0 tm x.dst vx) (Cd:=XL) OA (fun _ _=>rfl) (fun _ _=>rfl) (fun _ _=>rfl) e2
 have hq:AK=Ai6:=by injection e5a with _ q1;exact q1.symm
 subst hq;obtain⟨_,hu1,hu2,e6a,e6b,T6⟩:=Mk (tm':=A0 tm o.dst vo) (Cd:=EK) B0 (fun _ _=>rfl) (fun _ _=>rfl) (fun _ _=>rfl) e4
 have hu:hu1=Ak7:=by injection e6a with _ q1;exact q1.symm
 subst hu
 have H2:AK=hu1:=by
  funext i
  by_cases hi:Qr o tm hp i∨o.dst=some i
  ·have hxi:¬Qr x tm hp i:=by
    rcases hi with hi|hi
    ·exact fun hR=>EW i hR hi
    ·exact hoS i hi
   have hdi:x.dst≠some i:=by
    rcases hi with hi|hi
    ·exact fun e=>hxS i e hi
    ·exact fun e=>ne i e hi
   rw[(T2 0).same i ((T1 (i+1)).off i (by omega) hdi (.inl hxi)).1]
   exact ((T6 (i+1)).off i (by omega) hdi (.inl fun hR=>hxi ((hRx i).1 hR))).1.symm
  ·have hoi:¬Qr o tm hp i:=fun e=>hi (.inl e)
   have hdi:o.dst≠some i:=fun e=>hi (.inr e)
   rw[((T5 (i+1)).off i (by omega) hdi (.inl fun hR=>hoi ((hRo i).1 hR))).1]
   exact (T4 0).same i ((T3 (i+1)).off i (by omega) hdi (.inl hoi)).1.symm
 refine O9 (s1:=⟨A0 tm o.dst vo,EK⟩) (by rw[Ge ho];exact e3) ?_
 refine O9 (s1:=⟨A0 (A0 tm o.dst vo) x.dst vx2,hu1⟩) (by rw[Ge (by rw[←Fc t2];exact hx)];exact e4) ?_
 rw[←H9 ne,←YS,←H2];exact h
theorem Sn (hM:Nf C P o.op=true){i:Nat}(h:Qr o s.tm s.hp i):i∈Jj C P s o:=by
 unfold Jj;rw[hM];cases hA:J0 o.op
 ·simp only[Bool.not_false,Bool.and_self,cond_true,List.mem_append];rcases h with⟨y,hy,hi⟩|⟨_,id,c,⟨y,hy,hi⟩,hc,p,hp,hk⟩
  ·exact .inl (List.mem_flatMap.2 ⟨y,hy,hi⟩)
  ·refine .inr (List.mem_flatMap.2 ⟨id,List.mem_flatMap.2 ⟨y,hy,hi⟩,?_⟩);rw[hc];exact List.mem_flatMap.2 ⟨p,hp,hk⟩
 ·simp only[Bool.not_true,Bool.and_false,cond_false,Bool.or_true,cond_true];rcases h with⟨y,hy,hi⟩|⟨hn,_⟩
  ·exact List.mem_flatMap.2 ⟨y,hy,hi⟩
  ·rw[hA] at hn;cases hn
theorem Vw (hl:Nf C P o.op=true∨Ob P o.op=true){y:Operand}(hy:y∈o.op.operands.toList){i:Nat}(h:i∈A5 (A8 s.tm y)):i∈Jj C P s o:=by
 rcases hl with hM|hl
 ·exact Sn hM (.inl ⟨y,hy,h⟩)
 ·unfold Jj;rw[H7 hl,hl];exact List.mem_flatMap.2 ⟨y,hy,h⟩
theorem FM (ht:∀t∈Cm ops o,s1.tm t=s.tm t)(hh:Nf C P o.op=true->J0 o.op=false->∀y∈o.op.operands.toList,∀i∈A5 (A8 s.tm y),s1.hp i=s.hp i):Jj C P s1 o=Jj C P s o:=by
 have he:=Du (ops:=ops) (o:=o) ht
 have hl:(o.op.operands.toList.flatMap fun y=>A5 (A8 s1.tm y))=o.op.operands.toList.flatMap fun y=>A5 (A8 s.tm y):=by
  have Aeb:∀l:List Operand,(∀y∈l,A8 s1.tm y=A8 s.tm y)->(l.flatMap fun y=>A5 (A8 s1.tm y))=l.flatMap fun y=>A5 (A8 s.tm y):=by
   intro l
   induction l with
   |nil=>intro _;rfl
   |cons a l ih=>intro h;simp only[List.flatMap_cons];rw[h a (by simp),ih fun y hy=>h y (by simp[hy])]
  exact Aeb _ he
 unfold Jj;simp only[hl];cases hM:(Nf C P o.op && !J0 o.op)
 ·rfl
 ·simp only[cond_true];simp only[Bool.and_eq_true,Bool.not_eq_true'] at hM
  congr 1
  have Aeb:∀l:List Nat,(∀i∈l,s1.hp i=s.hp i)->(l.flatMap fun i=>match s1.hp i with|some (.st c)=>c.flatMap Aj|_=>[])=l.flatMap fun i=>match s.hp i with|some (.st c)=>c.flatMap Aj|_=>[]:=by
   intro l
   induction l with
   |nil=>intro _;rfl
   |cons a l ih=>intro h;simp only[List.flatMap_cons];rw[h a (by simp),ih fun y hy=>h y (by simp[hy])]
  exact Aeb _ fun i hi=>by
   obtain⟨y,hy,hi⟩:=List.mem_flatMap.1 hi;exact hh hM.1 hM.2 y hy i hi
theorem Sm {a b:List Nat}(h:PB a b=true){i:Nat}(ha:i∈a)(hb:i∈b):False:=by
 have:=List.all_eq_true.1 h i ha;have h2:b.any (Nat.beq i)=true:=List.any_eq_true.2 ⟨i,hb,Nat.beq_refl i⟩;rw[h2] at this;cases this
theorem PP {a b:List Nat}(h:PB a b=true):PB b a=true:=by
 refine List.all_eq_true.2 fun i hi=>?_
 cases hc:a.any (Nat.beq i)
 ·rfl
 ·obtain⟨j,hj,e⟩:=List.any_eq_true.1 hc;rw[Nat.eq_of_beq_eq_true e] at hi;exact (Sm h hj hi).elim
theorem Q4:Hl C P x o=Hl C P o x:=by
 unfold Hl;cases Nf C P x.op<;>cases Nf C P o.op<;>cases Ob P x.op<;>cases Ob P o.op<;>cases J0 x.op<;>cases J0 o.op<;>rfl
structure I3 (C:E9) (P:Program) (ops:Array Oper) (x o:Oper):Prop where
 xo:∀d,x.dst=some d->d ∉ Cm ops o
 ne:∀d,x.dst=some d->o.dst≠some d
 ox:∀d,o.dst=some d->d ∉ Cm ops x
 me:Mv C P x o=false∨Hl C P x o=true
theorem OX (h:SP C P ops x o=false):I3 C P ops x o:=by
 unfold SP at h;simp only[Bool.or_eq_false_iff] at h;obtain⟨h1,h2⟩:=h;have hT:=h1;unfold VU at h1;simp only[Bool.or_eq_false_iff] at h1
 have a1:Xv C P ops x o=false∨Mv C P x o=true:=by
  cases hc:Mv C P x o
  ·left;unfold Xv;unfold Mv at hc;simp only[Bool.or_eq_false_iff] at hc ⊢;exact⟨⟨⟨h1.1,h1.2⟩,hc.1⟩,hc.2⟩
  ·exact .inr rfl
 refine⟨fun d hd=>?_,fun d hd he=>?_,fun d hd=>?_,?_⟩
 ·have:=h1.1;simp only[hd,Bool.or_eq_false_iff] at this;exact My this.1
 ·have:=h1.1;simp only[hd,he,Bool.or_eq_false_iff] at this;rw[Nat.beq_refl] at this;cases this.2
 ·have:=h1.2;simp only[hd] at this;exact My this
 ·cases hc:Mv C P x o
  ·exact .inl rfl
  ·rw[hc] at h2;right
   simpa using h2
theorem I3.apart (ap:I3 C P ops x o)(h:Mv C P x o=false):Sa C P ops x o:=by
 unfold Mv at h;simp only[Bool.or_eq_false_iff,Bool.and_eq_false_iff] at h;refine⟨ap.xo,ap.ne,ap.ox,fun hm=>?_,fun hm=>?_⟩
 ·rcases h.1 with h|h
  ·rw[hm] at h;cases h
  ·exact h
 ·rcases h.2 with h|h
  ·rw[hm] at h;cases h
  ·exact h
theorem I3.same (ap:I3 C P ops x o)(hk:Zh P x s s1)(hl:Ob P x.op=true->s1.hp=s.hp)(hM:Nf C P o.op=true)(hA:J0 o.op=false){i:Nat}(hi:s.hp i≠none):s1.hp i=s.hp i:=by
 rcases ap.me with h|h
 ·exact hk.2.2 ((ap.apart h).mo hM) i hi
 ·unfold Hl at h;rw[hA] at h;simp only[Bool.and_false,Bool.or_false,Bool.or_eq_true,Bool.and_eq_true] at h;rcases h with h|h
  ·have:=h.2;rw[H7 (C:=C) (P:=P) this] at hM;cases hM
  ·rw[hl h.2]
theorem IB.keepsS (h:IB C P o s)(ap:I3 C P ops x o)(hk:Zh P x s s1)(hl:Ob P x.op=true->s1.hp=s.hp):IB C P o s1:=by
 have RK:∀y∈o.op.operands.toList,A8 s1.tm y=A8 s.tm y:=fun y hy=>Du (ops:=ops) (o:=o) (fun t ht=>hk.1 t fun hd=>ap.xo t hd ht) y hy
 refine⟨fun y hy i hi=>?_,fun hM hA y hy i hi c hc p hp k hkk=>?_⟩
 ·rw[RK y hy] at hi;exact hk.2.1 i (h.1 y hy i hi)
 ·rw[RK y hy] at hi;rw[ap.same hk hl hM hA (h.1 y hy i hi)] at hc;exact hk.2.1 k (h.2 hM hA y hy i hi c hc p hp k hkk)
theorem I3.symm (ap:I3 C P ops x o):I3 C P ops o x:=by
 refine⟨ap.ox,fun d hd he=>ap.ne d he hd,ap.xo,?_⟩
 rcases ap.me with h|h
 ·left;unfold Mv at h ⊢;rw[Bool.or_comm];exact h
 ·right;rw[Q4];exact h
theorem Afd (hw:IB C P o s)(hwx:Hl C P x o=true->∀i∈Jj C P s x,s.hp i≠none)(ap:I3 C P ops x o)(hd:Hl C P x o=true->PB (Jj C P s x) (Jj C P s o)=true)
  (h:B9 C P N call ops x s (fun s1=>B9 C P N call ops o s1 K)=some r):B9 C P N call ops o s (fun s1=>B9 C P N call ops x s1 K)=some r:=by
 rcases ap.me with hm|hm
 ·exact Agc hw (ap.apart hm) h
 ·have hd:=hd hm;have hwx:=hwx hm;cases hx:Ez C P ops x s.tm
  ·cases ho:Ez C P ops o s.tm
   ·exact NH hw ap.xo ap.ne ap.ox hx ho h
   ·have ZB:=Oi ho
    have hlx:Zb P ops x s.tm:=by
     cases hl:Ob P x.op
     ·right
      have hMx:Nf C P x.op=true:=by
       unfold Hl at hm;simp only[hl,Bool.and_false,Bool.or_false,Bool.or_eq_true,Bool.and_eq_true] at hm;rcases hm with hm|hm
       ·exact hm.1
       ·exact BF hm.1
      cases hv:E4 ops x s.tm with
      |none=>
       exfalso;rw[Hx hx] at h;unfold gE at h;rw[hv] at h;cases h
      |some b=>
       cases b
       ·rfl
       ·unfold Ez at hx;rw[hMx,hv] at hx;cases hx
     ·exact .inl hl
    refine ZP ap.xo ap.ne ap.ox hlx (fun y hy i hi hR=>?_) ho h
    refine Sm hd (Vw ?_ hy hi) (Sn ZB hR);unfold Hl at hm;simp only[Bool.or_eq_true,Bool.and_eq_true] at hm;rcases hm with (hm|hm)|hm
    ·exact .inl hm.1
    ·exact .inr hm.2
    ·exact .inl (BF hm.1)
  ·have hMx:=Oi hx;cases ho:Ez C P ops o s.tm
   ·have hlo:Zb P ops o s.tm:=by
     cases hl:Ob P o.op
     ·right
      have ZB:Nf C P o.op=true:=by
       unfold Hl at hm;simp only[hl,Bool.and_false,Bool.false_or,Bool.or_eq_true,Bool.and_eq_true] at hm;rcases hm with hm|hm
       ·exact hm.1
       ·exact BF hm.2
      cases hv:E4 ops o s.tm with
      |none=>
       exfalso;obtain⟨s1,_,hk,_,h⟩:=Ka h;have WQ:E4 ops o s1.tm=none:=by rw[Ih (fun t ht=>hk.1 t fun hd=>ap.xo t hd ht)];exact hv
       rw[Hx (by unfold Ez;rw[WQ];cases Nf C P o.op<;>rfl)] at h
       unfold gE at h;rw[WQ] at h;cases h
      |some b=>
       cases b
       ·rfl
       ·unfold Ez at ho;rw[ZB,hv] at ho;cases ho
     ·exact .inl hl
    refine ZK hw ap.xo ap.ne ap.ox hlo (fun y hy i hi hR=>?_) hx h
    refine Sm hd (Sn hMx hR) (Vw ?_ hy hi);unfold Hl at hm;simp only[Bool.or_eq_true,Bool.and_eq_true] at hm;rcases hm with (hm|hm)|hm
    ·exact .inr hm.2
    ·exact .inl hm.1
    ·exact .inl (BF hm.2)
   ·have ZB:=Oi ho;unfold Hl at hm;simp only[Bool.or_eq_true,Bool.and_eq_true] at hm;rcases hm with (hm|hm)|hm
    ·rw[H7 (C:=C) (P:=P) hm.2] at ZB;cases ZB
    ·rw[H7 (C:=C) (P:=P) hm.2] at hMx;cases hMx
    ·exact ZW hw (fun y hy i hi=>hwx i (Vw (.inl hMx) hy hi)) ap.xo ap.ne ap.ox hm.1 hm.2 (fun i h1 h2=>Sm hd (Sn hMx h1) (Sn ZB h2)) hx ho h
theorem SB {α:Type}(a b:α)(l:List α)(f:α->Bool):(a::b::l).all f=(b::a::l).all f:=by
 simp only[List.all_cons];cases f a<;>cases f b<;>rfl
theorem Un {bs:List (List Nat)}:∀(l:List Nat){dn dn':List (Nat × Oper × List Nat)} {s:St}{K:St->Option R},(∀f,dn.all f=dn'.all f)->Fu C P N call ops bs dn l s K=Fu C P N call ops bs dn' l s K
 |[],_,_,_,_,_=>rfl
 |i::l,dn,dn',s,K,h=>by
  unfold Fu;cases ops[i]? with
  |none=>rfl
  |some o=>
   simp only[Da,h]
   congr 2
   funext s'
   exact Un l fun f=>by simp only[List.all_cons,h]
theorem Wx {bs:List Nat}{i:Nat}(hi:ops[i]?=some o):(U8 C P ops bs).getD i []=Sh C P ops bs i o:=by
 unfold U8;rw[List.getD_eq_getElem?_getD,List.getElem?_map,List.getElem?_zipIdx,Array.getElem?_toList,hi];simp
theorem Mn {bs:List Nat}{i j:Nat}:j∈Sh C P ops bs i o↔∃x,ops[j]?=some x∧Hl C P x o=true∧(Nat.blt j i&&(bs.getD i 0).testBit j)=false∧(Nat.blt i j&&(bs.getD j 0).testBit i)=false:=by
 unfold Sh;simp only[List.mem_map,List.mem_filter,Bool.and_eq_true,Bool.not_eq_true',Prod.exists];constructor
 ·rintro⟨x,k,⟨hm,⟨h1,h2⟩,h3⟩,rfl⟩
  rw[List.mem_zipIdx_iff_getElem?] at hm;exact⟨x,by simpa using hm,h1,h2,h3⟩
 ·rintro⟨x,hx,h1,h2,h3⟩
  refine⟨x,j,⟨?_,⟨h1,h2⟩,h3⟩,rfl⟩;rw[List.mem_zipIdx_iff_getElem?]
  simpa using hx
theorem V8 {sm:List (List Nat)} {i j:Nat}(h:j∈sm.getD i []):Vl C P sm s i o=Jj C P s o:=by
 unfold Vl;split
 ·rename_i e;rw[e] at h;simp at h
 ·rfl
theorem TO {sm:List (List Nat)} {i:Nat}(h:sm.getD i []≠[]->Jj C P s1 o=Jj C P s o):Vl C P sm s1 i o=Vl C P sm s i o:=by
 unfold Vl;split
 ·rfl
 ·rename_i e;exact h (by rw[e];simp)
theorem LZ {l:List Nat}{j:Nat}:l.any (Nat.beq j)=true↔j∈l:=by
 constructor
 ·intro h;obtain⟨k,hk,e⟩:=List.any_eq_true.1 h;rw[Nat.eq_of_beq_eq_true e];exact hk
 ·intro h;exact List.any_eq_true.2 ⟨j,h,Nat.beq_refl j⟩
theorem Rv {bs:List Nat}{sm:List (List Nat)} (hsm:sm=U8 C P ops bs){i:Nat}(hi:ops[i]?=some o) {l':List Nat}:∀(l:List Nat){dn:List (Nat × Oper × List Nat)} {s:St}{K:St->Option R},IB C P o s ->
  (∀j∈l,j<i∧(bs.getD i 0).testBit j=false∧∀x,ops[j]?=some x->I3 C P ops x o)->Fu C P N call ops sm dn (l++i::l') s K=some r ->
  dn.all (Y1 C P sm s i o)=true∧B9 C P N call ops o s (fun s1=>Fu C P N call ops sm ((i,o,Vl C P sm s i o)::dn) (l++l') s1 K)=some r
 |[],dn,s,K,hw,_,h=>by
  simp only[List.nil_append] at h ⊢;unfold Fu at h;rw[hi] at h;simp only[Da] at h;obtain⟨hb,h⟩:=Ae h;simp only[Bool.and_eq_true] at hb;exact⟨hb.1,h⟩
 |j::l,dn,s,K,hw,hl,h=>by
  simp only[List.cons_append] at h ⊢;unfold Fu at h;obtain⟨hji,Pc,Oq⟩:=hl j (by simp)
  cases hj:ops[j]? with
  |none=>rw[hj] at h;cases h
  |some x=>
   rw[hj] at h;simp only[Da] at h;obtain⟨hb,h⟩:=Ae h;simp only[Bool.and_eq_true] at hb;have ap:=Oq x hj
   have hex:∀k∈Vl C P sm s j x,s.hp k≠none:=fun k hk=>by
    have:=List.all_eq_true.1 hb.2 k hk;intro e;rw[e] at this;cases this
   obtain⟨s1,e1,Cs,We,h1⟩:=Ka h;obtain⟨ha,h2⟩:=Rv hsm hi l (hw.keepsS ap Cs We) (fun k hk=>hl k (by simp[hk])) h1
   have Alb:Jj C P s1 o=Jj C P s o:=FM (ops:=ops) (fun t ht=>Cs.1 t fun hd=>ap.xo t hd ht) fun hM hA y hy k hk=>ap.same Cs We hM hA (hw.1 y hy k hk)
   have ZL:Vl C P sm s1 i o=Vl C P sm s i o:=TO fun _=>Alb
   rw[List.all_cons,Bool.and_eq_true] at ha
   have Afx:Nat.blt i j=false:=by
    cases hh:Nat.blt i j
    ·rfl
    ·have:=Nat.le_of_ble_eq_true hh;omega
   have hmi:Hl C P x o=true->j∈sm.getD i []:=fun hs=>by
    rw[hsm,Wx hi];exact Mn.2 ⟨x,hj,hs,by rw[Pc,Bool.and_false],by rw[Afx,Bool.false_and]⟩
   have hmj:Hl C P x o=true->i∈sm.getD j []:=fun hs=>by
    rw[hsm,Wx hj];exact Mn.2 ⟨o,hi,by rw[Q4];exact hs,by rw[Afx,Bool.false_and],by rw[Pc,Bool.and_false]⟩
   have Aan:Hl C P x o=true->PB (Vl C P sm s j x) (Vl C P sm s i o)=true:=by
    intro hs;have:=ha.1;unfold Y1 at this;rw[LZ.2 (hmi hs),ZL] at this
    simpa using this
   have Js:∀q,Y1 C P sm s1 i o q=Y1 C P sm s i o q:=fun q=>by unfold Y1;rw[ZL]
   have Kq:dn.all (Y1 C P sm s i o)=true:=by
    refine List.all_eq_true.2 fun q hq=>?_
    rw[←Js];exact List.all_eq_true.1 ha.2 q hq
   refine⟨Kq,?_⟩;rw[ZL] at h2
   have h3:=Afd hw (fun hs k hk=>hex k (by rw[V8 (hmj hs)];exact hk)) ap (fun hs=>by have:=Aan hs;rw[V8 (hmj hs),V8 (hmi hs)] at this;exact this)
    (O9 (K':=fun s1=>B9 C P N call ops o s1 (fun s2=>Fu C P N call ops sm ((i,o,Vl C P sm s i o)::(j,x,Vl C P sm s j x)::dn) (l++l') s2 K)) e1 h2)
   obtain⟨s2,e2,Dq,DT,h4⟩:=Ka h3;refine O9 e2 ?_
   have hr2:Vl C P sm s2 j x=Vl C P sm s j x:=TO fun Ie=>by
    obtain⟨q,hq⟩:=List.exists_mem_of_ne_nil _ Ie;refine FM (ops:=ops) (fun t ht=>Dq.1 t fun hd=>ap.ox t hd ht) fun hM hA y hy k hk=>ap.symm.same Dq DT hM hA (hex k ?_)
    rw[V8 hq];exact Vw (.inl hM) hy hk
   unfold Fu;rw[hj];simp only[Da]
   have hc:(((i,o,Vl C P sm s i o)::dn).all (Y1 C P sm s2 j x)&&(Vl C P sm s2 j x).all fun k=>(s2.hp k).isSome)=true:=by
    simp only[List.all_cons,Bool.and_eq_true];refine⟨⟨?_,?_⟩,?_⟩
    ·unfold Y1;simp only[hr2];cases hs:(sm.getD j []).any (Nat.beq i)
     ·rfl
     ·have hm:=LZ.1 hs;rw[hsm,Wx hj] at hm;obtain⟨o',GT,NB,_⟩:=Mn.1 hm;rw[hi] at GT;cases GT;rw[Q4] at NB;rw[PP (Aan NB)];rfl
    ·refine List.all_eq_true.2 fun q hq=>?_
     have:=List.all_eq_true.1 hb.1 q hq;unfold Y1 at this ⊢;rw[hr2];exact this
    ·rw[hr2];refine List.all_eq_true.2 fun k hk=>?_
     have:=Dq.2.1 k (hex k hk);cases hh:s2.hp k with
     |none=>exact absurd hh this
     |some _=>rfl
   rw[hc,hr2];show B9 C P N call ops x s2 _=some r
   have:(fun s'=>Fu C P N call ops sm ((j,x,Vl C P sm s j x)::(i,o,Vl C P sm s i o)::dn) (l++l') s' K)=fun s2=>Fu C P N call ops sm ((i,o,Vl C P sm s i o)::(j,x,Vl C P sm s j x)::dn) (l++l') s2 K:=by
    funext s'
    exact Un _ fun f=>SB _ _ _ f
   rw[this];exact h4
end
section
variable {R:Type} {r:R} {P:Program} {N:Nat} {w0:World} {X0:Ft} {Y:Nat->Prop} {β β':Bt} {s:St} {a:Act} {w w':World} {o:Oper} {ops:Array Oper} {C:E9} {call:Ah} {K:St->Option R}
theorem Qb {bs:List Nat}:∀(l:List Oper)(n:Nat),Sb C P ops bs l n=true->∀(k:Nat) o,l[k]?=some o->∀(j:Nat) x,ops[j]?=some x->j<n+k->SP C P ops x o=true->(bs.getD (n+k) 0).testBit j=true
 |[],_,_,k,o,ho,_,_,_,_,_=>by simp at ho
 |o'::l,n,h,k,o,ho,j,x,hx,hj,Le=>by
  simp only[Sb,Bool.and_eq_true] at h;cases k with
  |zero=>
   simp at ho;subst ho
   have:=List.all_eq_true.1 h.1 (x,j) (by
    rw[List.mem_zipIdx_iff_getElem?]
    simpa using hx)
   simp only[Le,Bool.not_true,Bool.or_false,Bool.or_eq_true,Bool.not_eq_true'] at this;rcases this with h'|h'
   ·have:Nat.blt j n=true:=Nat.ble_eq_true_of_le (by omega)
    rw[this] at h';cases h'
   ·exact h'
  |succ k=>
   have:=Qb l (n+1) h.2 k o (by simpa using ho) j x hx (by omega) Le
   rwa [show n+(k+1)=n+1+k by omega]
theorem BJ {G:Glo}(Ig:FX P G w0 X0)(Co:∀f args res,call f args=some res->Dr G P f args res)(Js:Xz C P ops=true){Q:Exit->Act->World->Prop}(hQ:∀s' a' w' β',K s'=some r->Br N w0 X0 Y β' s' a' w'->Q .normal a' w'):
  ∀(fuel:Nat) {dn:List (Nat × Oper × List Nat)} {listed:Array Bool} {s:St} {a:Act} {w:World} {β:Bt},HeadInv .any ops ops.size listed->(Jq ops.size listed).length=fuel->Br N w0 X0 Y β s a w->Fu C P N call ops (U8 C P ops (F8 ops.toList [])) dn (Jq ops.size listed) s K=some r->wpAny P .any ops Q fuel listed a w:=by
 unfold Xz at Js;simp only[Bool.and_eq_true] at Js;obtain⟨SF,Abu⟩:=Js;intro fuel
 induction fuel with
 |zero=>
  intro dn listed s a w β inv hf h hk;have hp:=List.eq_nil_of_length_eq_zero hf;rw[hp] at hk;refine⟨?_,hQ s a w β hk h⟩;cases hr:Region.ready .any ops listed with
  |nil=>rfl
  |cons i l=>
   exfalso;have hi:i∈Region.ready .any ops listed:=by rw[hr];simp
   obtain⟨Hf,o,ho,_⟩:=mem_ready.1 hi;have:i∈Jq ops.size listed:=Hc.2 ⟨(Array.getElem?_eq_some_iff.1 ho).1,Hf⟩;rw[hp] at this;simp at this
 |succ fuel ih=>
  intro dn listed s a w β inv hf h hk;refine⟨fun hr=>?_,fun i hi=>?_⟩
  ·rw[AM SF inv hr] at hf;cases hf
  ·obtain⟨Hf,o,ho,Kq⟩:=mem_ready.1 hi;have Bk:i<ops.size:=(Array.getElem?_eq_some_iff.1 ho).1;obtain⟨l1,l2,h1,h2,h3⟩:=Qq (Hc.2 ⟨Bk,Hf⟩) inv.size;rw[h1] at hk
   have XS:∀j∈l1,((F8 ops.toList []).getD i 0).testBit j=false:=by
    intro j hj;cases Pc:((F8 ops.toList []).getD i 0).testBit j with
    |false=>rfl
    |true=>
     exfalso;have hjl:=Na (listed:=listed) (fun j oj hj hl=>inv.closed j oj hj hl) ops.toList [] [] (by simp) rfl (by simp) i o ho Kq j Pc
     have:j∈Jq ops.size listed:=by rw[h1];simp[hj]
     have:=getD_both (Hc.1 this).2;rw[hjl] at this;cases this
   have Oq:∀j∈l1,j<i∧((F8 ops.toList []).getD i 0).testBit j=false∧∀x,ops[j]?=some x->I3 C P ops x o:=by
    intro j hj;refine⟨h3 j hj,XS j hj,fun x hxj=>OX ?_⟩
    cases Le:SP C P ops x o with
    |false=>rfl
    |true=>
     exfalso;have Pc:=Qb ops.toList 0 Abu i o (by simpa using ho) j x hxj (by have:=h3 j hj;omega) Le
     rw[Nat.zero_add,XS j hj] at Pc;cases Pc
   obtain⟨s',YA,hn⟩:=Qx h Ig Co ho (Rv rfl ho l1 (TM h o) Oq hk).2;refine hn _ _ fun a' w' β' h'=>ih (dn:=(i,o,Vl C P (U8 C P ops (F8 ops.toList [])) s i o)::dn) (inv.set hi Bk) ?_ h' ?_
   ·rw[h2];rw[h1] at hf;simp at hf ⊢;omega
   ·rw[h2];exact YA
theorem Vf (h:Br N w0 X0 Y β s a w){G:Glo}(Ig:FX P G w0 X0)(Co:∀f args res,call f args=some res->Dr G P f args res)(hm:P.follows .mixedOrders=true)(Js:Xz C P ops=true){Q:Exit->Act->World->Prop}
  (hk:Fu C P N call ops (U8 C P ops (F8 ops.toList [])) [] (List.range ops.size) s K=some r) (hQ:∀s' a' w' β',K s'=some r->Br N w0 X0 Y β' s' a' w'->Q .normal a' w'):wpAny P .any ops Q ops.size (Array.replicate ops.size false) a { w with drawn:=w.drawn+1 }:=by
 have hp:Jq ops.size (Array.replicate ops.size false)=List.range ops.size:=by
  unfold Jq;refine List.filter_eq_self.2 fun i hi=>?_
  have:=List.mem_range.1 hi;simp[this]
 refine BJ (C:=C) (dn:=[]) Ig Co Js hQ ops.size ⟨by simp,fun j oj _ hl=>(by rw[getD_replicate_false] at hl;cases hl),fun t ht ht'=>by omega⟩ (by rw[hp];simp) h.drew ?_
 rw[hp];exact hk
theorem FK (h:Br N w0 X0 Y β s a w){G:Glo}(Ig:FX P G w0 X0)(Co:∀f args res,call f args=some res->Dr G P f args res)(hm:P.follows .mixedOrders=true)(Js:Xz C P ops=true){id:Nat}{Q:Exit->Act->World->Prop}
  (hk:Fu C P N call ops (U8 C P ops (F8 ops.toList [])) [] (List.range ops.size) s K=some r) (hQ:∀s' a' w' β',K s'=some r->Br N w0 X0 Y β' s' a' w'->Q .normal a' w'):(Code.region id ops true).wp P Q a w:=
 wp_region_any hm (Vf h Ig Co hm Js hk hQ)
end
open Go.RowKit
section
variable {R:Type} {r:R} {N:Nat} {w0:World} {X0:Ft} {Y:Nat->Prop} {β β':Bt} {s:St} {a:Act} {w w':World}
theorem WN {i:Nat}(hi:i<a.tmps.size):a.put (some i) (a.tmps.getD i undef)=a:=by
 obtain⟨tmps,dfr⟩:=a;change i<tmps.size at hi
 have:tmps.setIfInBounds i (tmps.getD i undef)=tmps:=by
  apply Array.ext_getElem?;intro k;by_cases e:i=k
  ·subst e;simp[hi]
  ·rw[Array.getElem?_setIfInBounds_ne e]
 simp only[Act.put,this]
theorem ML {A:Nat->Prop}{es:Nat}{v:Value}(h:Ap w A (.lst true es 0 []) v):v=.slice none 0 0:=by
 cases h;rfl
theorem LD {id:Nat}(Ay:s.hp id=none){v:PV}{val:Value}(hv:C1 w (Bz (Ak s.hp [(id,.ar false [])]) (Bi β id none) Y) (Bi β id none) v val) (hr:∀i∈A5 v,s.hp i≠none∨i=id):
  AS Y β s w v [(id,.ar false [])] val w (Bi β id none):=by
 refine⟨rfl,rfl,rfl,Ba.refl _ _,fun j hj=>Ad _ _ (by rintro rfl;exact hj Ay),?_,?_,?_,?_,?_,hv,?_⟩
 ·intro j bx hm;simp at hm;rw[hm.2];trivial
 ·intro j bx hm;simp at hm;obtain⟨rfl,rfl⟩:=hm;exact .inl ⟨Af _ _ _,rfl⟩
 ·intro j bx k q hm hq;simp at hm;obtain⟨rfl,rfl⟩:=hm;rw[Af] at hq;cases hq
 ·intro j bx j' bx' k q q' hm Jk _ _;simp at hm Jk;rw[hm.1,Jk.1]
 ·intro j cells hm;simp at hm
 ·intro j hj;rcases hr j hj with h|rfl
  ·exact .inl h
  ·exact .inr ⟨.ar false [],by simp⟩
theorem Y9 (h:Br N w0 X0 Y β s a w)(i:Nat):∃β',Br N w0 X0 Y β' (V6 N s i) a w:=by
 unfold V6;split
 ·rename_i es ht
  have Bk:i<N:=by
   rcases Nat.lt_or_ge i N with h'|h'
   ·exact h'
   ·rw[h.tmo i h'] at ht;cases ht
  have hv:=h.tms i Bk;rw[ht] at hv;have hv:=ML hv;have hd:Ej N (some i)=true:=by simp[Ej,Nat.blt];omega
  have go:∀j,s.hp j=none->∃β',Br N w0 X0 Y β' ⟨Bi s.tm i (.view j es 0 0),Bi s.hp j (some (.ar false []))⟩ a w:=by
   intro j hn;have:=h.stepR (d:=some i) hd (by simp[A3,hn]) (LD (v:=.view j es 0 0) (val:=.slice none 0 0) hn (.inl ⟨Af _ _ _,rfl,rfl,none,rfl⟩) (by simp[A5,Bh,Aj]))
   rw[←hv,WN (by rw[h.tsz];exact Bk)] at this
   exact⟨_,this⟩
  cases hn:(s.hp i).isNone
  ·cases XD:(s.hp (i+N*3000)).isNone
   ·exact⟨β,h⟩
   ·exact go _ (by simpa using XD)
  ·exact go _ (by simpa using hn)
 ·exact⟨β,h⟩
theorem Br.recell (h:Br N w0 X0 Y β s a w){id:Nat}{c c':List PV}(h0:s.hp id=some (.st c)) (hl:c'.length=c.length)
  (hc:∀(j:Nat) p,c'[j]?=some p->∃q,c[j]?=some q∧(∀v,A6 w (Bz s.hp β Y) β q v->A6 w (Bz s.hp β Y) β p v)∧∀i∈Aj p,s.hp i≠none):
  Br N w0 X0 Y β ⟨s.tm,Bi s.hp id (some (.st c'))⟩ a w:=by
 have Eu:∀i,Bx (Bi s.hp id (some (.st c')) i)↔Bx (s.hp i):=by
  intro i;by_cases e:i=id
  ·subst e;rw[Af,h0];exact Iff.rfl
  ·rw[Ad _ _ e]
 have hX:BK (Bi s.hp id (some (.st c'))) β=BK s.hp β:=by
  funext b
  apply propext;constructor
  ·rintro⟨i,o,hl,hb⟩;exact⟨i,o,(Eu i).1 hl,hb⟩
  ·rintro⟨i,o,hl,hb⟩;exact⟨i,o,(Eu i).2 hl,hb⟩
 have hA:Bz (Bi s.hp id (some (.st c'))) β Y=Bz s.hp β Y:=by
  funext b;unfold Bz;rw[hX]
 have Ie:∀i,s.hp i≠none->Bi s.hp id (some (.st c')) i≠none:=by
  intro i hi;by_cases e:i=id
  ·subst e;rw[Af];simp
  ·rw[Ad _ _ e];exact hi
 have Alv:∀i,Bi s.hp id (some (.st c')) i≠none->s.hp i≠none:=by
  intro i hi;by_cases e:i=id
  ·subst e;rw[h0];simp
  ·rw[Ad _ _ e] at hi;exact hi
 refine⟨h.dfr,h.tsz,h.tmo,?_,?_,?_,?_,?_,?_,?_,?_,fun i hi=>⟨Ie _ (h.pin i hi).1,(h.pin i hi).2⟩,?_,?_,h.Ylt,h.fr⟩
 ·intro i hi;show C1 w (Bz (Bi s.hp id _) β Y) β _ _;rw[hA];exact h.tms i hi
 ·intro i b hb;show Nd w (Bz (Bi s.hp id _) β Y) β i b;rw[hA];by_cases e:i=id
  ·subst e;change Bi s.hp i (some (.st c')) i=some b at hb;rw[Af] at hb;cases hb;obtain⟨b,o,h1,h2,h3⟩:=h.box i _ h0;refine⟨b,o,h1,fun j p hj=>?_,fun j hj=>h3 j (by rw[←hl];exact hj)⟩
   obtain⟨q,hq,hqp,_⟩:=hc j p hj;obtain⟨v,hv,hr⟩:=h2 j q hq;exact⟨v,hv,hqp v hr⟩
  ·change Bi s.hp id (some (.st c')) i=some b at hb;rw[Ad _ _ e] at hb;exact h.box i b hb
 ·intro i i' b o o' hl He hb Fp;exact h.inj i i' b o o' ((Eu i).1 hl) ((Eu i').1 He) hb Fp
 ·intro i b o hn hb;exact h.blt i b o (Alv i hn) hb
 ·intro i hi j hj;exact Ie j (h.wfT i hi j hj)
 ·intro i cells hb p hp j hj;change Bi s.hp id (some (.st c')) i=_ at hb;by_cases e:i=id
  ·subst e;rw[Af] at hb;cases hb;obtain⟨k,hk⟩:=List.mem_iff_getElem?.1 hp;obtain⟨_,_,_,hr⟩:=hc k p hk;exact Ie j (hr j hj)
  ·rw[Ad _ _ e] at hb;exact Ie j (h.wfB i cells hb p hp j hj)
 ·intro b hb;exact h.ownd b (by rw[←hX];exact hb)
 ·intro i bx b o hb hlb hβ Bk j hj;change Bi s.hp id (some (.st c')) i=some bx at hb;by_cases e:i=id
  ·subst e;rw[Af] at hb;cases hb;exact h.rngB i _ b o h0 trivial hβ Bk j (by unfold BR at hj ⊢;simp only[hl] at hj;exact hj)
  ·rw[Ad _ _ e] at hb;exact h.rngB i bx b o hb hlb hβ Bk j hj
 ·intro i c1 b o hb hβ Bk;change Bi s.hp id (some (.st c')) i=_ at hb;by_cases e:i=id
  ·subst e;exact h.stp i c b o h0 hβ Bk
  ·rw[Ad _ _ e] at hb;exact h.stp i c1 b o hb hβ Bk
 ·intro b hY hb;exact h.Yx b hY (by rw[←hX];exact hb)
theorem Y3 (h:Br N w0 X0 Y β s a w)(id j:Nat):∃β',Br N w0 X0 Y β' (CZ N id s j) a w:=by
 unfold CZ;split
 ·rename_i c h0;split
  ·rename_i es hj;cases hn:(s.hp (id+N*(j+1))).isNone
   ·exact⟨β,h⟩
   ·have hn:s.hp (id+N*(j+1))=none:=by simpa using hn
    have Ie:id≠id+N*(j+1):=by
     intro e;rw[←e,h0] at hn;cases hn
    have h1:=h.stepR (d:=none) (v:=.top) (val:=undef) rfl (by simp[A3,hn]) (LD hn (.top _) (by simp[A5,Bh,Aj]))
    change Br N w0 X0 Y (Bi β (id+N*(j+1)) none) ⟨s.tm,Bi s.hp (id+N*(j+1)) (some (.ar false []))⟩ a w at h1
    have h2:=h1.recell (id:=id) (c:=c) (c':=c.set j (.view (id+N*(j+1)) es 0 0)) (by show Bi _ _ _ _=_;rw[Ad _ _ Ie];exact h0) (by simp) (by
     intro k p hp;by_cases e:k=j
     ·subst e
      have Bk:k<c.length:=by
       rcases Nat.lt_or_ge k c.length with h'|h'
       ·exact h'
       ·rw[List.getElem?_eq_none h'] at hj;cases hj
      rw[List.getElem?_set_self Bk] at hp;cases hp;refine⟨_,hj,fun v hv=>.inl ⟨Af _ _ _,rfl,rfl,none,ML hv⟩,fun i hi=>?_⟩
      simp[Aj] at hi;subst hi;show Bi _ _ _ _≠none;rw[Af];simp
     ·rw[List.getElem?_set_ne (fun h=>e h.symm)] at hp
      refine⟨p,hp,fun _ hv=>hv,fun i hi=>?_⟩
      have:=h.wfB id c h0 p (List.mem_of_getElem? hp) i hi;show Bi _ _ _ _≠none;by_cases e':i=id+N*(j+1)
      ·subst e';rw[Af];simp
      ·rw[Ad _ _ e'];exact this)
    refine⟨Bi β (id+N*(j+1)) none,?_⟩;have e3:Bi (Bi s.hp (id+N*(j+1)) (some (.ar false []))) id (some (.st (c.set j (.view (id+N*(j+1)) es 0 0))))=Bi (Bi s.hp id (some (.st (c.set j (.view (id+N*(j+1)) es 0 0))))) (id+N*(j+1)) (some (.ar false [])):=HF _ _ _ (fun h=>Ie h.symm)
    change Br N w0 X0 Y (Bi β (id+N*(j+1)) none) ⟨s.tm,Bi (Bi s.hp (id+N*(j+1)) (some (.ar false []))) id (some (.st (c.set j (.view (id+N*(j+1)) es 0 0))))⟩ a w at h2;rw[e3] at h2;exact h2
  ·exact⟨β,h⟩
 ·exact⟨β,h⟩
theorem Ku {f:St->Nat->St}(hf:∀s β,Br N w0 X0 Y β s a w->∀i,∃β',Br N w0 X0 Y β' (f s i) a w):∀(l:List Nat){s:St}{β:Bt},Br N w0 X0 Y β s a w->∃β',Br N w0 X0 Y β' (l.foldl f s) a w
 |[],_,β,h=>⟨β,h⟩
 |i::l,s,β,h=>by
  obtain⟨β1,h1⟩:=hf s β h i;exact Ku hf l h1
theorem BZ (h:Br N w0 X0 Y β s a w)(i:Nat):∃β',Br N w0 X0 Y β' (BO N s i) a w:=by
 unfold BO;split
 ·split
  ·exact Ku (fun s β h i=>Y3 h _ i) _ h
  ·exact⟨β,h⟩
 ·exact⟨β,h⟩
theorem AL:∀{m:List (Nat × Nat)},Cr (m.map (·.2))=true->∀{i i' j:Nat},(i,j)∈m->(i',j)∈m->i=i'
 |[],_,_,_,_,h,_=>by simp at h
 |(x,y)::m,hn,i,i',j,h,h'=>by
  simp only[List.map_cons,Cr,Bool.and_eq_true,Bool.not_eq_true'] at hn
  have hy:∀k,(k,y) ∉ m:=by
   intro k hk;exact My hn.1 (List.mem_map.2 ⟨(k,y),hk,rfl⟩)
  rcases List.mem_cons.1 h with e|h
  ·cases e;rcases List.mem_cons.1 h' with e|h'
   ·cases e;rfl
   ·exact absurd h' (hy _)
  ·rcases List.mem_cons.1 h' with e|h'
   ·cases e;exact absurd h (hy _)
   ·exact AL hn.2 h h'
theorem S6:∀{m:List (Nat × Nat)},Cr (m.map (·.1))=true->∀{i j j':Nat},(i,j)∈m->(i,j')∈m->j=j'
 |[],_,_,_,_,h,_=>by simp at h
 |(x,y)::m,hn,i,j,j',h,h'=>by
  simp only[List.map_cons,Cr,Bool.and_eq_true,Bool.not_eq_true'] at hn
  have hx:∀k,(x,k) ∉ m:=by
   intro k hk;exact My hn.1 (List.mem_map.2 ⟨(x,k),hk,rfl⟩)
  rcases List.mem_cons.1 h with e|h
  ·cases e;rcases List.mem_cons.1 h' with e|h'
   ·cases e;rfl
   ·exact absurd h' (hx _)
  ·rcases List.mem_cons.1 h' with e|h'
   ·cases e;exact absurd h (hx _)
   ·exact S6 hn.2 h h'
theorem Jl {i j:Nat}(h:Nat.beq i j=false):i≠j:=by rintro rfl;rw[Nat.beq_refl] at h;cases h
theorem R5:∀{m:List (Nat × Nat)} {i j:Nat},Pi m i=some j->(i,j)∈m
 |[],_,_,h=>by cases h
 |(x,y)::m,i,j,h=>by
  unfold Pi at h;cases hb:Nat.beq i x<;>rw[hb] at h
  ·exact List.mem_cons_of_mem _ (R5 h)
  ·have:=Nat.eq_of_beq_eq_true hb;cases h;rw[this];simp
theorem Tt {m:List (Nat × Nat)} {hp:Nat->Option A1}:∀{l:List (Nat × Nat)} {j:Nat}{b:A1},Fa (I8 m hp l) j=some b->∃i b0,(i,j)∈l∧hp i=some b0∧b=ZR m b0
 |[],_,_,h=>by cases h
 |(x,y)::l,j,b,h=>by
  unfold I8 at h;cases hx:hp x with
  |none=>
   rw[hx] at h;obtain⟨i,b0,h1,h2⟩:=Tt h;exact⟨i,b0,List.mem_cons_of_mem _ h1,h2⟩
  |some bx=>
   rw[hx] at h;simp only[Fa] at h;cases hb:Nat.beq j y<;>rw[hb] at h
   ·obtain⟨i,b0,h1,h2⟩:=Tt h;exact⟨i,b0,List.mem_cons_of_mem _ h1,h2⟩
   ·have:=Nat.eq_of_beq_eq_true hb;subst this;cases h;exact⟨x,bx,by simp,hx,rfl⟩
theorem Kb {m:List (Nat × Nat)} {hp:Nat->Option A1}:∀{l:List (Nat × Nat)} {i j:Nat},(i,j)∈l->hp i≠none->Fa (I8 m hp l) j≠none
 |[],_,_,h,_=>by simp at h
 |(x,y)::l,i,j,h,hi=>by
  unfold I8;cases hx:hp x with
  |none=>
   rcases List.mem_cons.1 h with e|h
   ·cases e;exact absurd hx hi
   ·exact Kb h hi
  |some bx=>
   simp only[Fa];cases hb:Nat.beq j y
   ·rcases List.mem_cons.1 h with e|h
    ·cases e;exact absurd rfl (Jl hb)
    ·exact Kb h hi
   ·simp
def Y4 (m:List (Nat × Nat)) (j:Nat):Option Nat:=
 match m with
 |[]=>none
 |(x,y)::r=>bif Nat.beq j y then some x else Y4 r j
theorem LF:∀{m:List (Nat × Nat)} {i j:Nat},Y4 m j=some i->(i,j)∈m
 |[],_,_,h=>by cases h
 |(x,y)::m,i,j,h=>by
  unfold Y4 at h;cases hb:Nat.beq j y<;>rw[hb] at h
  ·exact List.mem_cons_of_mem _ (LF h)
  ·have:=Nat.eq_of_beq_eq_true hb;cases h;rw[this];simp
theorem FU:∀{m:List (Nat × Nat)} {i j:Nat},(i,j)∈m->∃k,Y4 m j=some k
 |[],_,_,h=>by simp at h
 |(x,y)::m,i,j,h=>by
  unfold Y4;cases hb:Nat.beq j y
  ·rcases List.mem_cons.1 h with e|h
   ·cases e;exact absurd rfl (Jl hb)
   ·exact FU h
  ·exact⟨x,rfl⟩
theorem CC {f:Nat->PV}:∀{l:List Nat}{i:Nat},lk (l.map fun i=>(i,f i)) i=if i∈l then f i else .top
 |[],_=>rfl
 |x::l,i=>by
  simp only[List.map_cons,lk];cases hb:Nat.beq i x
  ·have:=Jl hb;simp only[cond_false,CC,List.mem_cons,this,false_or]
  ·have:=Nat.eq_of_beq_eq_true hb;subst this;simp
theorem Z0 {m:Nat}:∀{n i:Nat},i∈I4 m n->i<n
 |0,_,h=>by simp[I4] at h
 |n+1,i,h=>by
  simp only[I4,List.mem_append] at h;rcases h with h|h
  ·have:=Z0 h;omega
  ·cases hb:m.testBit n<;>rw[hb] at h
   ·simp at h
   ·simp at h;omega
theorem BD (h:Br N w0 X0 Y β s a w){m:List (Nat × Nat)} (h1:Cr (m.map (·.1))=true) (h2:Cr (m.map (·.2))=true) {ls:List Nat}(hls:∀i∈ls,i<N)(hpn:∀i,X0.pn i->(B4 N i,B4 N i)∈m):
  ∃β',Br N w0 X0 Y β' ⟨lk (ls.map fun i=>(i,PT m (s.tm i))),Fa (I8 m s.hp m)⟩ a w:=by
 refine⟨fun j=>(Y4 m j).bind β,?_⟩
 have hβ:∀{i j:Nat},(i,j)∈m->(Y4 m j).bind β=β i:=by
  intro i j hm;obtain⟨k,hk⟩:=FU hm;rw[hk];have:=AL h2 (LF hk) hm;subst this;rfl
 have hold:∀{j:Nat} {b:A1},Fa (I8 m s.hp m) j=some b->∃i b0,(i,j)∈m∧s.hp i=some b0∧b=ZR m b0∧(Y4 m j).bind β=β i:=by
  intro j b hb;obtain⟨i,b0,hm,h3,h4⟩:=Tt hb;exact⟨i,b0,hm,h3,h4,hβ hm⟩
 have Eu:∀{j:Nat},Bx (Fa (I8 m s.hp m) j)->∃i,(i,j)∈m∧Bx (s.hp i)∧(Y4 m j).bind β=β i:=by
  intro j hl;cases hb:Fa (I8 m s.hp m) j with
  |none=>rw[hb] at hl;exact hl.elim
  |some b=>
   obtain⟨i,b0,hm,h3,rfl,h5⟩:=hold hb;refine⟨i,hm,?_,h5⟩;rw[hb] at hl;rw[h3];cases b0<;>exact hl
 have hX:∀b,BK (Fa (I8 m s.hp m)) (fun j=>(Y4 m j).bind β) b->BK s.hp β b:=by
  rintro b ⟨j,o,hl,hb⟩
  obtain⟨i,_,He,e⟩:=Eu hl;exact⟨i,o,He,by rw[←e];exact hb⟩
 have hA:∀b,Bz (Fa (I8 m s.hp m)) (fun j=>(Y4 m j).bind β) Y b->Bz s.hp β Y b:=fun b hb=>hb.imp (hX b) id
 have hC:∀p v,A6 w (Bz s.hp β Y) β p v->A6 w (Bz (Fa (I8 m s.hp m)) (fun j=>(Y4 m j).bind β) Y) (fun j=>(Y4 m j).bind β) (JG m p) v:=by
  intro p v hp;cases p with
  |view id es off n=>
   show A6 _ _ _ (match Pi m id with|some j=>.view j es off n|none=>.top) v
   cases hj:Pi m id with
   |some j=>
    have e:=hβ (R5 hj);rcases hp with⟨e1,e2⟩|⟨b,o,x,cap,e1,e2⟩
    ·exact .inl ⟨by show (Y4 m j).bind β=none;rw[e];exact e1,e2⟩
    ·exact .inr ⟨b,o,x,cap,by show (Y4 m j).bind β=_;rw[e];exact e1,e2⟩
   |none=>exact Ap.top _
  |ptr id off=>
   show A6 _ _ _ (match Pi m id with|some j=>.ptr j off|none=>.top) v
   cases hj:Pi m id with
   |some j=>
    have e:=hβ (R5 hj);obtain⟨b,o,e1,e2⟩:=hp;exact⟨b,o,by show (Y4 m j).bind β=_;rw[e];exact e1,e2⟩
   |none=>exact Ap.top _
  |sc v=>exact Ap.step (Ba.refl _ _) (fun b _=>hA b) hp
  |lst z es n c=>exact Ap.step (Ba.refl _ _) (fun b _=>hA b) hp
  |iptr c off=>exact A6.step (p:=.iptr c off) (Ba.refl _ _) (fun b _=>hA b) (by simp[Aj]) hp
  |_=>exact Ap.top _
 have hV:∀p v,C1 w (Bz s.hp β Y) β p v->C1 w (Bz (Fa (I8 m s.hp m)) (fun j=>(Y4 m j).bind β) Y) (fun j=>(Y4 m j).bind β) (PT m p) v:=by
  intro p v hp;cases p with
  |agg c=>
   obtain⟨vs,e1,e2⟩:=hp;refine⟨vs,e1,Au.of_at (by simp;exact e2.len) fun i q u hq hu=>?_⟩
   rw[List.getElem?_map] at hq;cases hc:c[i]? with
   |none=>rw[hc] at hq;cases hq
   |some q0=>
    rw[hc] at hq;cases hq;exact hC _ _ (e2.at_ hc hu)
  |view id es off n=>
   have:=hC (.view id es off n) v hp;change A6 _ _ _ (match Pi m id with|some j=>.view j es off n|none=>.top) v at this
   show C1 _ _ _ (match Pi m id with|some j=>.view j es off n|none=>.top) v
   cases hj:Pi m id<;>rw[hj] at this<;>exact this
  |ptr id off=>
   have:=hC (.ptr id off) v hp;change A6 _ _ _ (match Pi m id with|some j=>.ptr j off|none=>.top) v at this
   show C1 _ _ _ (match Pi m id with|some j=>.ptr j off|none=>.top) v
   cases hj:Pi m id<;>rw[hj] at this<;>exact this
  |sc v'=>exact hC (.sc v') v hp
  |lst z es n c=>exact hC (.lst z es n c) v hp
  |iptr c off=>exact hC (.iptr c off) v hp
  |_=>exact Ap.top _
 have hrC:∀p i,i∈Aj (JG m p)->∃k∈Aj p,(k,i)∈m:=by
  intro p i hi;cases p with
  |view id es off n=>
   change i∈Aj (match Pi m id with|some j=>.view j es off n|none=>.top) at hi
   cases hj:Pi m id<;>rw[hj] at hi
   ·simp[Aj] at hi
   ·simp[Aj] at hi;subst hi;exact⟨id,by simp[Aj],R5 hj⟩
  |ptr id off=>
   change i∈Aj (match Pi m id with|some j=>.ptr j off|none=>.top) at hi
   cases hj:Pi m id<;>rw[hj] at hi
   ·simp[Aj] at hi
   ·simp[Aj] at hi;subst hi;exact⟨id,by simp[Aj],R5 hj⟩
  |_=>simp[JG,Aj] at hi
 have hrV:∀p i,i∈A5 (PT m p)->∃k∈A5 p,(k,i)∈m:=by
  intro p i hi;cases p with
  |agg c=>
   simp only[PT,A5,Bh,List.mem_flatMap,List.mem_map] at hi;obtain⟨_,⟨q,hq,rfl⟩,hi⟩:=hi;obtain⟨k,hk,hm⟩:=hrC q i hi;exact⟨k,by simp only[A5,Bh,List.mem_flatMap];exact⟨q,hq,hk⟩,hm⟩
  |view id es off n=>
   refine (hrC (.view id es off n) i ?_).imp fun k hk=>hk
   change i∈A5 (match Pi m id with|some j=>.view j es off n|none=>.top) at hi
   show i∈Aj (match Pi m id with|some j=>.view j es off n|none=>.top)
   cases hj:Pi m id<;>rw[hj] at hi<;>exact hi
  |ptr id off=>
   refine (hrC (.ptr id off) i ?_).imp fun k hk=>hk
   change i∈A5 (match Pi m id with|some j=>.ptr j off|none=>.top) at hi
   show i∈Aj (match Pi m id with|some j=>.ptr j off|none=>.top)
   cases hj:Pi m id<;>rw[hj] at hi<;>exact hi
  |_=>simp[PT,JG,A5,Bh,Aj] at hi
 refine⟨h.dfr,h.tsz,?_,?_,?_,?_,?_,?_,?_,?_,?_,?_,?_,?_,h.Ylt,h.fr⟩
 ·intro i hi;show lk _ i=_;rw[CC,if_neg (fun hm=>by have:=hls i hm;omega)]
 ·intro i hi;show C1 w _ _ (lk _ i) _;rw[CC];split
  ·exact hV _ _ (h.tms i hi)
  ·exact Ap.top _
 ·intro j b hb;obtain⟨i,b0,hm,h3,rfl,e⟩:=hold hb;have I2:=h.box i b0 h3;cases b0 with
  |st c=>
   obtain⟨b,o,e1,e2,e3⟩:=I2;refine⟨b,o,by show (Y4 m j).bind β=_;rw[e];exact e1,fun k p hp=>?_,fun k hk=>e3 k (by simpa using hk)⟩
   rw[List.getElem?_map] at hp;cases hc:c[k]? with
   |none=>rw[hc] at hp;cases hp
   |some q=>
    rw[hc] at hp;cases hp;obtain⟨v,hv,hr⟩:=e2 k q hc;exact⟨v,hv,hC _ _ hr⟩
  |ar fz c=>
   have:=Nd.step' hA I2;show Nd _ _ _ _ (.ar fz c);rcases this with⟨e1,e2⟩|⟨b,o,e1,e2⟩
   ·exact .inl ⟨by show (Y4 m j).bind β=_;rw[e];exact e1,e2⟩
   ·exact .inr ⟨b,o,by show (Y4 m j).bind β=_;rw[e];exact e1,e2⟩
  |mv=>exact trivial
 ·intro j j' b o o' hl He hb Fp;obtain⟨i,hm,We,e⟩:=Eu hl;obtain⟨i',Jk,Amj,e'⟩:=Eu He;have:=h.inj i i' b o o' We Amj (by rw[←e];exact hb) (by rw[←e'];exact Fp)
  subst this;exact S6 h1 hm Jk
 ·intro j b o hn hb;cases hj:Fa (I8 m s.hp m) j with
  |none=>exact absurd hj hn
  |some bx=>
   obtain⟨i,b0,_,h3,_,e⟩:=hold hj;exact h.blt i b o (by rw[h3];simp) (by rw[←e];exact hb)
 ·intro i hi j hj;change j∈A5 (lk _ i) at hj;rw[CC] at hj;split at hj
  ·obtain⟨k,hk,hm⟩:=hrV _ j hj;exact Kb hm (h.wfT i hi k hk)
  ·simp[A5,Bh,Aj] at hj
 ·intro j cells hb p hp k hk;obtain⟨i,b0,_,h3,h4,_⟩:=hold hb;cases b0 with
  |st c=>
   cases h4;obtain⟨q,hq,rfl⟩:=List.mem_map.1 hp;obtain⟨k',Iy,hm⟩:=hrC q k hk;exact Kb hm (h.wfB i c h3 q hq k' Iy)
  |ar fz c=>cases h4
  |mv=>cases h4
 ·intro b hb;exact h.ownd b (hX b hb)
 ·intro j bx b o hb hlb hβ1 Bk k hk;obtain⟨i,b0,_,h3,h4,e⟩:=hold hb;subst h4;refine h.rngB i b0 b o h3 ?_ (by rw[←e];exact hβ1) Bk k ?_
  ·cases b0<;>exact hlb
  ·cases b0 with
   |st c=>simpa [BR,ZR] using hk
   |ar fz c=>exact hk
   |mv=>exact hk
 ·intro i hi;exact⟨Kb (hpn i hi) (h.pin i hi).1,(hβ (hpn i hi)).trans (h.pin i hi).2⟩
 ·intro j c b o hb hβ1 Bk;obtain⟨i,b0,hm,h3,h4,e⟩:=hold hb;cases b0 with
  |st c0=>
   obtain⟨k,rfl,hk⟩:=h.stp i c0 b o h3 (by rw[←e];exact hβ1) Bk
   exact⟨k,S6 h1 hm (hpn k hk),hk⟩
  |ar fz c0=>cases h4
  |mv=>cases h4
 ·intro b hY hb;exact h.Yx b hY (hX b hb)
theorem O8 {m:List (Nat × Nat)} {q:Nat × Nat}{o n:Nat}(h:q∈m):q∈Zr m o n:=by
 unfold Zr;split
 ·exact h
 ·exact List.mem_append.2 (.inl h)
theorem Il {q:Nat × Nat}{new:Nat}:∀{c:List PV}{j:Nat}{m:List (Nat × Nat)},q∈m->q∈Nb N new c j m
 |[],_,_,h=>h
 |p::c,j,m,h=>by
  unfold Nb;split
  ·rename_i e;cases e
  ·rename_i e;cases e;exact Il (O8 h)
  ·rename_i e;cases e;exact Il h
theorem GA {q:Nat × Nat}{m:List (Nat × Nat)} {i:Nat}(h:q∈m):q∈V3 N s m i:=by
 unfold V3;split
 ·exact O8 h
 ·split
  ·exact h
  ·split
   ·exact Il (O8 h)
   ·exact O8 h
 ·exact Il h
 ·exact h
theorem R2 {q:Nat × Nat}:∀{l:List Nat}{m:List (Nat × Nat)},q∈m->q∈l.foldl (V3 N s) m
 |[],_,h=>h
 |_::l,_,h=>R2 (l:=l) (GA h)
theorem M9 {q:Nat × Nat}{m:List (Nat × Nat)} (h:q∈m):∀k,q∈Oe N s.hp k m
 |0=>h
 |k+1=>by
  unfold Oe;split
  ·exact Il (M9 h k)
  ·exact M9 h k
theorem Zf:∀{k i:Nat},i<k->s.hp (B4 N i)≠none->(B4 N i,B4 N i)∈GR N s.hp k
 |0,_,h,_=>by omega
 |k+1,i,h,hn=>by
  unfold GR;by_cases e:i=k
  ·subst e
   have:(s.hp (B4 N i)).isSome=true:=by
    cases hq:s.hp (B4 N i) with
    |none=>exact absurd hq hn
    |some b=>rfl
   rw[this];simp
  ·have:=Zf (k:=k) (i:=i) (by omega) hn
   cases (s.hp (B4 N k)).isSome
   ·exact this
   ·exact List.mem_append.2 (.inl this)
theorem Up (h:Br N w0 X0 Y β s a w){L:Nat}{q:Bool}{K:St->Option R}(hk:MU N (I4 L N) q s K=some r):∃β' s',K s'=some r∧Br N w0 X0 Y β' s' a w:=by
 unfold MU at hk;obtain⟨hb,Cs⟩:=Ae hk;simp only[Bool.and_eq_true] at hb
 obtain⟨β2,h2⟩:∃β2,Br N w0 X0 Y β2 (bif q then s else (I4 L N).foldl (BO N) ((I4 L N).foldl (V6 N) s)) a w:=by
  cases q
  ·obtain⟨β1,h1⟩:=Ku (fun s β h i=>Y9 h i) (I4 L N) h
   obtain⟨β2,h2⟩:=Ku (fun s β h i=>BZ h i) (I4 L N) h1
   exact⟨β2,h2⟩
  ·exact⟨β,h⟩
 obtain⟨β3,h3⟩:=BD h2 hb.1 hb.2 (ls:=I4 L N) (fun i hi=>Z0 hi) (fun i hi=>R2 (M9 (Zf (X0.p8 i hi) (h2.pin i hi).1) 8))
 exact⟨β3,_,Cs,h3⟩
theorem N1 (h:Br N w0 X0 Y β s a w){L:Nat}{K:St->Option R}(hk:Se N L s K=some r):∃β' s',K s'=some r∧Br N w0 X0 Y β' s' a w:=Up h hk
theorem FR (h:Br N w0 X0 Y β s a w){L:Nat}{K:St->Option R}(hk:LE N L s K=some r):∃β' s',K s'=some r∧Br N w0 X0 Y β' s' a w:=Up h hk
end
open Go.RowKit
section
variable {R:Type} {r:R} {P:Program} {N:Nat} {w0:World} {X0:Ft} {Y:Nat->Prop} {C:E9} {call:Ah}
theorem AG {n:Nat}{F:St->Option R}{s:St}(h:W5 n F s=some r):F s=some r:=by
 unfold W5 at h;split at h
 ·cases h
 ·exact h
theorem EQ {β:Bt}{s:St}{a:Act}{w:World}(h:Br N w0 X0 Y β s a w){c:Operand}{kt kf:St->Option R}(hk:SI s c kt kf=some r):(a.eval c=.bool true∧kt s=some r)∨(a.eval c=.bool false∧kf s=some r):=by
 unfold SI at hk;split at hk
 ·rename_i d;split at hk
  ·rename_i b ht;have hv:a.eval (.tmp d)=.bool b:=Bl h (x:=.tmp d) ht;cases b
   ·change kf ⟨Bi s.tm d (.sc (.bool false)),s.hp⟩=some r at hk;rw[Rt s.tm ht] at hk;exact .inr ⟨hv,hk⟩
   ·change kt ⟨Bi s.tm d (.sc (.bool true)),s.hp⟩=some r at hk;rw[Rt s.tm ht] at hk;exact .inl ⟨hv,hk⟩
  ·rename_i ht;have hu:=Bv h (.tmp d);change C1 _ _ _ (s.tm d) _ at hu;rw[ht] at hu;have F5:Ap w _ .ub (a.eval (.tmp d)):=hu
   obtain⟨b,hv⟩:∃b,a.eval (.tmp d)=.bool b:=by
    generalize a.eval (.tmp d)=x at F5;cases F5 with
    |ub b=>exact⟨b,rfl⟩
   obtain⟨h1,h2⟩:=Zx hk;cases b
   ·exact .inr ⟨hv,h2⟩
   ·exact .inl ⟨hv,h1⟩
  ·cases hk
 ·exact .inl ⟨rfl,hk⟩
 ·exact .inr ⟨rfl,hk⟩
 ·cases hk
theorem Wf {c:Code}{Q:Exit->Act->World->Prop}{F:(St->Option R)->St->Option R} {nm:St->(St->Option R)->Option R}
  (Xp:∀{β s a w} {K:St->Option R},Br N w0 X0 Y β s a w->nm s K=some r->∃β' s',K s'=some r∧Br N w0 X0 Y β' s' a w)
  (hF:∀{β s a w} {K:St->Option R}{Q':Act->World->Prop},Br N w0 X0 Y β s a w->F K s=some r->(∀s' a' w' β',K s'=some r->Br N w0 X0 Y β' s' a' w'->Q' a' w')->c.wp P (Exit.then Q' Q) a w):
  ∀(n:Nat) {β s a w},Br N w0 X0 Y β s a w->TU F nm n s=some r->Code.rounds P c Q n a w
 |0,_,_,_,_,_,hk=>by cases hk
 |n+1,β,s,a,w,h,hk=>by
  rw[rounds_succ];refine hF h hk fun s' a' w' β' Iy h'=>?_
  obtain⟨β1,s1,Cs,h1⟩:=Xp h' Iy;exact Wf Xp hF n h1 Cs
theorem KJ {G:Glo}(Ig:FX P G w0 X0)(Co:∀f args res,call f args=some res->Dr G P f args res)(hm:P.follows .mixedOrders=true){fu:Nat}:
  ∀(c:Code) {ln:Nat} {lx:Nat->Nat} {lr:Nat} {kn:St->Option R} {kx:Nat->St->Option R} {kr:St->Option R} {β:Bt} {s:St} {a:Act} {w:World} {Q:Exit->Act->World->Prop},Br N w0 X0 Y β s a w ->
   Lb C P fu N call c ln lx lr kn kx kr s=some r->(∀s' a' w' β',kn s'=some r->Br N w0 X0 Y β' s' a' w'->Q .normal a' w') ->
   (∀id s' a' w' β',kx id s'=some r->Br N w0 X0 Y β' s' a' w'->Q (.exit id) a' w')->(∀s' a' w' β',kr s'=some r->Br N w0 X0 Y β' s' a' w'->Q .ret a' w')->c.wp P Q a w:=by
 intro c
 induction c with
 |skip=>intro ln lx lr kn kx kr β s a w Q h hk hn hx hr;exact wp_skip (hn s a w β hk h)
 |region id ops draw=>
  intro ln lx lr kn kx kr β s a w Q h hk hn hx hr;unfold Lb at hk;cases draw
  ·simp only[FG,Bool.false_and,cond_false] at hk;exact DO h Ig Co hk hn
  ·simp only[FG,Aao,Bool.true_and,cond_true] at hk;cases hb:AP C P ops<;>rw[hb] at hk
   ·obtain⟨Fp,Cs⟩:=Ae (show Ao _ _=some r from hk)
    exact FK h Ig Co hm Fp Cs hn
   ·exact CK h Ig Co hm hb hk hn
 |seq c1 c2 ih1 ih2=>
  intro ln lx lr kn kx kr β s a w Q h hk hn hx hr;unfold Lb at hk
  refine wp_seq (ih1 h hk (fun s' a' w' β' Iy h'=>by
    cases hc:RO P c1 c2
    ·rw[hc] at Iy;exact ih2 h' Iy hn hx hr
    ·rw[hc] at Iy;cases hq:V1 c1 c2
     ·rw[hq] at Iy;obtain⟨β1,s1,Cs,h1⟩:=N1 h' (show Se _ _ _ _=some r from Iy)
      exact ih2 h1 (AG Cs) hn hx hr
     ·rw[hq] at Iy;obtain⟨β1,s1,Cs,h1⟩:=FR h' (show LE _ _ _ _=some r from Iy)
      exact ih2 h1 (AG Cs) hn hx hr) (fun id s' a' w' β' Iy h'=>hx id s' a' w' β' Iy h') (fun s' a' w' β' Iy h'=>hr s' a' w' β' Iy h'))
 |cond c c1 c2 ih1 ih2=>
  intro ln lx lr kn kx kr β s a w Q h hk hn hx hr;unfold Lb at hk;rcases EQ h hk with⟨hc,Cs⟩|⟨hc,Cs⟩
  ·exact wp_cond_true hc (ih1 h Cs hn hx hr)
  ·exact wp_cond_false hc (ih2 h Cs hn hx hr)
 |block id c ih=>
  intro ln lx lr kn kx kr β s a w Q h hk hn hx hr;unfold Lb at hk;refine wp_block (ih h hk (fun s' a' w' β' Iy h'=>hn s' a' w' β' Iy h') (fun j s' a' w' β' Iy h'=>?_) (fun s' a' w' β' Iy h'=>hr s' a' w' β' Iy h'))
  show (if j=id then _ else _)
  by_cases e:j=id
  ·subst e;rw[if_pos rfl];rw[Nat.beq_refl] at Iy;exact hn s' a' w' β' Iy h'
  ·rw[if_neg e]
   have:Nat.beq j id=false:=by
    cases hb:Nat.beq j id
    ·rfl
    ·exact absurd (Nat.eq_of_beq_eq_true hb) e
   rw[this] at Iy;exact hx j s' a' w' β' Iy h'
 |loop c ih=>
  intro ln lx lr kn kx kr β s a w Q h hk hn hx hr;unfold Lb at hk;obtain⟨β1,s1,Cs,h1⟩:=N1 h hk;refine wp_loop_rounds fu (Wf (fun h hk=>N1 h hk) (fun h hk hQ=>?_) fu h1 Cs)
  exact ih h hk hQ (fun id s' a' w' β' Iy h'=>hx id s' a' w' β' Iy h') (fun s' a' w' β' Iy h'=>hr s' a' w' β' Iy h')
 |«exit» id=>intro ln lx lr kn kx kr β s a w Q h hk hn hx hr;exact wp_exit (hx id s a w β hk h)
 |ret=>intro ln lx lr kn kx kr β s a w Q h hk hn hx hr;exact wp_ret (hr s a w β hk h)
 |_=>intro ln lx lr kn kx kr β s a w Q h hk hn hx hr;cases hk
end
open Go.RowKit
theorem Jm:∀{l:List (Nat × A1)} {i:Nat}{b:A1},Fa l i=some b->(i,b)∈l
 |[],_,_,h=>by cases h
 |(j,c)::l,i,b,h=>by
  unfold Fa at h;cases hb:Nat.beq i j<;>rw[hb] at h
  ·exact List.mem_cons_of_mem _ (Jm h)
  ·have:=Nat.eq_of_beq_eq_true hb;cases h;rw[this];simp
theorem DJ:∀{l:List (Nat × A1)},(l.map (·.1)).Nodup->∀{i b},(i,b)∈l->Fa l i=some b
 |[],_,_,_,h=>by cases h
 |(j,c)::l,hn,i,b,h=>by
  simp only[List.map_cons,List.nodup_cons] at hn;unfold Fa;rcases List.mem_cons.1 h with e|h
  ·cases e;simp only[Nat.beq_refl,cond_true]
  ·have:Nat.beq i j=false:=by
    cases hb:Nat.beq i j
    ·rfl
    ·exact absurd (Nat.eq_of_beq_eq_true hb ▸ List.mem_map.2 ⟨_,h,rfl⟩) hn.1
   simp only[this,cond_false];exact DJ hn.2 h
section
variable {R:Type} {r:R} {P:Program} {N:Nat} {w0:World} {X0:Ft} {Y:Nat->Prop} {β β':Bt} {s:St} {a:Act} {w w':World} {A:Nat->Prop}
theorem SA {id:Nat}{t:CT}{p:PV}{K:PV->List (Nat × A1)->Option R} (hk:UI id t p K=some r):
  (∃c,K c []=some r∧P4 c∧∀w A q u,E2 w A q p u->Ap w A c u)∨∃es n cc,p=.own es n cc∧K (.view id es 0 n) [(id,.ar false cc)]=some r:=by
 have tree:∀t',(T0 t' p fun c=>K c [])=some r->∃c,K c []=some r∧P4 c∧∀w A q u,E2 w A q p u->Ap w A c u:=by
  intro t' hk;obtain⟨c,hk,hT,Yf,hv⟩:=Jo hk;refine⟨c,hk,hT,fun w A q u h=>(hv w A (fun _=>none) u ?_).1⟩
  cases p<;>first|exact h|exact Yf.elim
 unfold UI at hk;cases t with
 |sl es=>
  dsimp only at hk;split at hk
  ·rename_i es' n c;cases hb:Nat.beq es' es<;>rw[hb] at hk
   ·cases hk
   ·have:=Nat.eq_of_beq_eq_true hb;subst this;exact .inr ⟨_,_,_,rfl,hk⟩
  ·exact .inl (tree (.sl es) hk)
 |int k=>exact .inl (tree _ hk)
 |bool=>exact .inl (tree _ hk)
 |str=>exact .inl (tree _ hk)
 |any=>exact .inl (tree _ hk)
theorem Ly:∀{ts:List CT}{id:Nat}{ps:List PV}{K:List PV->List (Nat × A1)->Option R},Ui N id ts ps K=some r ->
  ∃cs bs,∃qs:List (Nat × Nat),K cs bs=some r∧cs.length=ps.length∧ps.length=ts.length∧bs.map (·.1)=qs.map (·.1)∧(∀q∈qs,∀q'∈qs,q.2=q'.2->q.1=q'.1) ∧
   (∀i bx,(i,bx)∈bs->∃c,bx=.ar false c)∧(∀c∈cs,Yt c)∧(∀c∈cs,∀i∈Aj c,∃bx,(i,bx)∈bs) ∧
   ∀(w:World) (A:Nat->Prop) (own β':Bt) (j0:Nat) (us:List Value),(∀q∈qs,β' q.1=own (j0+q.2))->Ds w A own j0 ps us->Au (A6 w A β') cs us∧∀i bx,(i,bx)∈bs->Nd w A β' i bx
 |[],id,ps,K,hk=>by
  obtain⟨rfl,hk⟩:=B7 hk;refine⟨[],[],[],hk,rfl,rfl,rfl,by simp,by simp,by simp,by simp,fun w A own β' j0 us _ h=>⟨?_,by simp⟩⟩
  cases us with
  |nil=>trivial
  |cons u us=>exact h.elim
 |t::ts,id,ps,K,hk=>by
  unfold Ui at hk;obtain⟨p,ps',Yp,Cs⟩:=Ar hk;subst Yp;rcases SA Cs with⟨c,Dq,hT,hv⟩|⟨es,n,cc,rfl,Dq⟩
  ·obtain⟨cs,bs,qs,Mm,hl,DT,hb,Vz,D7,hF,Iz,G8⟩:=Ly Dq;refine⟨c::cs,bs,qs.map (fun q=>(q.1,q.2+1)),Mm,by simp[hl],by simp[DT],by rw[hb];simp,?_,D7,?_,?_,fun w A own β' j0 us hβ ho=>?_⟩
   ·intro q hq q' D4 e;obtain⟨q0,Q6,rfl⟩:=List.mem_map.1 hq;obtain⟨q1,G7,rfl⟩:=List.mem_map.1 D4;exact Vz q0 Q6 q1 G7 (by simp only at e;omega)
   ·intro y hy;rcases List.mem_cons.1 hy with rfl|hy
    ·exact Ms hT
    ·exact hF y hy
   ·intro y hy i hi;rcases List.mem_cons.1 hy with rfl|hy
    ·rw[Fk hT] at hi;cases hi
    ·exact Iz y hy i hi
   ·cases us with
    |nil=>exact ho.elim
    |cons u us=>
     obtain⟨h1,h2⟩:=G8 w A own β' (j0+1) us (fun q hq=>by rw[hβ _ (List.mem_map_of_mem hq)];congr 1;simp only;omega) ho.2
     exact⟨⟨RZ (hv w A _ u ho.1),h1⟩,h2⟩
  ·obtain⟨cs,bs,qs,Mm,hl,DT,hb,Vz,D7,hF,Iz,G8⟩:=Ly Dq;refine⟨_::cs,(id,.ar false cc)::bs,(id,0)::qs.map (fun q=>(q.1,q.2+1)),Mm,by simp[hl],by simp[DT],by simp only[List.map_cons,hb];simp,?_,?_,?_,?_,fun w A own β' j0 us hβ ho=>?_⟩
   ·intro q hq q' D4 e;rcases List.mem_cons.1 hq with rfl|hq
    ·rcases List.mem_cons.1 D4 with rfl|D4
     ·rfl
     ·obtain⟨q0,Q6,rfl⟩:=List.mem_map.1 D4;simp only at e;omega
    ·obtain⟨q0,Q6,rfl⟩:=List.mem_map.1 hq;rcases List.mem_cons.1 D4 with rfl|D4
     ·simp only at e;omega
     ·obtain⟨q1,G7,rfl⟩:=List.mem_map.1 D4;exact Vz q0 Q6 q1 G7 (by simp only at e;omega)
   ·intro i bx hm;rcases List.mem_cons.1 hm with e|hm
    ·cases e;exact⟨cc,rfl⟩
    ·exact D7 i bx hm
   ·intro y hy;rcases List.mem_cons.1 hy with rfl|hy
    ·trivial
    ·exact hF y hy
   ·intro y hy i hi;rcases List.mem_cons.1 hy with rfl|hy
    ·simp only[Aj,List.mem_singleton] at hi;subst hi;exact⟨_,List.mem_cons_self⟩
    ·obtain⟨bx,I2⟩:=Iz y hy i hi;exact⟨bx,List.mem_cons_of_mem _ I2⟩
   ·cases us with
    |nil=>exact ho.elim
    |cons u us=>
     obtain⟨h1,h2⟩:=G8 w A own β' (j0+1) us (fun q hq=>by rw[hβ _ (List.mem_cons_of_mem _ (List.mem_map_of_mem hq))];congr 1;simp only;omega) ho.2
     have h0:=hβ (id,0) List.mem_cons_self;simp only[Nat.add_zero] at h0;refine⟨⟨?_,h1⟩,fun i bx hm=>?_⟩
     ·rcases ho.1 with⟨h3,rfl,_,h5⟩|⟨b,ob,cap,h3,h4,h5,h6,h7,_⟩
      ·exact .inl ⟨h0.trans h3,rfl,rfl,h5⟩
      ·exact .inr ⟨b,ob,ob,cap,h0.trans h3,h4,.inl rfl,h5,h6,h7⟩
     ·rcases List.mem_cons.1 hm with e|hm
      ·cases e;exact Rw ho.1 h0
      ·exact h2 i bx hm
theorem YR {i:Nat}{t:TypeId}{p:PV}{K:PV->List (Nat × A1)->Option R} (hk:inK P N i t p K=some r):
  ∃v bs,∃qs:List (Nat × Nat),K v bs=some r∧bs.map (·.1)=qs.map (·.1)∧(∀q∈qs,∀q'∈qs,q.2=q'.2->q.1=q'.1)∧(Sv p=true->(B4 N i,0)∈qs∧i<8) ∧
   (∀id bx,(id,bx)∈bs->Bx (some bx)∧∀c,bx=.st c->id=B4 N i∧Sv p=true)∧(∀id∈A5 v,∃bx,(id,bx)∈bs)∧Ua bs ∧
   ∀(w:World) (A:Nat->Prop) (bt β':Bt) (u:Value),(∀q∈qs,β' q.1=bt q.2)->GM w A bt p u->C1 w A β' v u∧(∀id bx,(id,bx)∈bs->Nd w A β' id bx) ∧
    ∀id bx b o,(id,bx)∈bs->β' id=some (b,o)->∀j,BR bx o j->Ad8 bt p b j:=by
 have owns:∀{bs:List (Nat × A1)} {qs:List (Nat × Nat)},bs.map (·.1)=qs.map (·.1)->(∀i bx,(i,bx)∈bs->∃c,bx=.ar false c)->∀{bt β':Bt},(∀q∈qs,β' q.1=bt (1+q.2))->∀id bx b o,(id,bx)∈bs->β' id=some (b,o)->∀j,BR bx o j->∃k o',bt (k+1)=some (b,o')∧o'<=j:=by
  intro bs qs hb D7 bt β' hβ id bx b o hm BI j hj;have:id∈qs.map (·.1):=by rw[←hb];exact List.mem_map.2 ⟨_,hm,rfl⟩
  obtain⟨q,hq,rfl⟩:=List.mem_map.1 this;obtain⟨c,rfl⟩:=D7 _ _ hm;rw[hβ q hq,Nat.add_comm] at BI;exact⟨q.2,o,BI,hj⟩
 have nost:∀{bs:List (Nat × A1)},(∀i bx,(i,bx)∈bs->∃c,bx=.ar false c)->Ua bs:=by
  intro bs D7 id cells hm;obtain⟨c,e⟩:=D7 id _ hm;cases e
 unfold inK at hk;split at hk
 ·rename_i e he;obtain⟨ps,rfl,Cs⟩:=Zw hk;obtain⟨hi8,Dq⟩:=Ae Cs;have hi8:i<8:=Nat.lt_of_succ_le (Nat.le_of_ble_eq_true hi8);obtain⟨cs,bs,qs,Mm,hl,DT,hb,Vz,D7,hF,Iz,hv⟩:=Ly Dq;refine⟨_,_,(B4 N i,0)::qs.map (fun q=>(q.1,q.2+1)),Mm,by simp only[List.map_cons,hb];simp,?_,fun _=>⟨List.mem_cons_self,hi8⟩,?_,?_,?_,fun w A bt β' u hβ hp=>?_⟩
  ·intro q hq q' D4 e;rcases List.mem_cons.1 hq with rfl|hq
   ·rcases List.mem_cons.1 D4 with rfl|D4
    ·rfl
    ·obtain⟨q0,Q6,rfl⟩:=List.mem_map.1 D4;simp only at e;omega
   ·obtain⟨q0,Q6,rfl⟩:=List.mem_map.1 hq;rcases List.mem_cons.1 D4 with rfl|D4
    ·simp only at e;omega
    ·obtain⟨q1,G7,rfl⟩:=List.mem_map.1 D4;exact Vz q0 Q6 q1 G7 (by simp only at e;omega)
  ·intro id bx hm;rcases List.mem_cons.1 hm with e|hm
   ·cases e;exact⟨trivial,fun _ _=>⟨rfl,rfl⟩⟩
   ·obtain⟨c,rfl⟩:=D7 id bx hm;exact⟨trivial,fun _ e=>by cases e⟩
  ·intro id Ay;simp only[A5,Bh,Aj,List.mem_singleton] at Ay;subst Ay;exact⟨_,List.mem_cons_self⟩
  ·intro id cells hm c hc k hk;rcases List.mem_cons.1 hm with e|hm
   ·cases e;obtain⟨bx,I2⟩:=Iz c hc k hk;exact⟨bx,List.mem_cons_of_mem _ I2⟩
   ·obtain⟨c,e⟩:=D7 id _ hm;cases e
  ·obtain⟨b,o,h1,rfl,_,vs,h3,h4,h5⟩:=hp;have h0:=hβ (B4 N i,0) List.mem_cons_self;simp only at h0;have hβ1:∀q∈qs,β' q.1=bt (1+q.2):=fun q hq=>by rw[hβ _ (List.mem_cons_of_mem _ (List.mem_map_of_mem hq)),Nat.add_comm]
   obtain⟨h6,h7⟩:=hv w A bt β' 1 vs hβ1 h3;refine⟨⟨b,o,h0.trans h1,by simp⟩,fun id bx hm=>?_,fun id bx b' o' hm Fp j hj=>?_⟩
   ·rcases List.mem_cons.1 hm with e|hm
    ·cases e;refine⟨b,o,h0.trans h1,fun k c hk=>?_,fun k hk=>h5 k (by omega)⟩
     obtain⟨v,hv,CI⟩:=h6.get hk;exact⟨v,h4 k v hv,CI⟩
    ·exact h7 id bx hm
   ·rcases List.mem_cons.1 hm with e|hm
    ·cases e;rw[h0] at Fp;have hj:o'<=j∧j<o'+cs.length:=hj;exact .inr ⟨o',ps,Fp,hj.1,.inl ⟨rfl,by omega⟩⟩
    ·exact .inl (owns hb D7 hβ1 id bx b' o' hm Fp j hj)
 ·split at hk
  ·rename_i ps;obtain⟨e,he,Cs⟩:=Bq hk;obtain⟨hi8,Dq⟩:=Ae Cs;have hi8:i<8:=Nat.lt_of_succ_le (Nat.le_of_ble_eq_true hi8);obtain⟨q,qr,hq,Mm⟩:=Ar Dq;subst hq;obtain⟨Tg,Xx⟩:=B7 Mm;subst Tg;unfold Ml at Xx;split at Xx
   ·rename_i es' n c;cases hb:Nat.beq es' (As P e)<;>rw[hb] at Xx
    ·cases Xx
    ·have Sj:=Nat.eq_of_beq_eq_true hb;subst Sj;refine⟨_,_,[(B4 N i,0)],Xx,rfl,by simp,fun _=>⟨by simp,hi8⟩,?_,?_,?_,fun w A bt β' u hβ hp=>?_⟩
     ·intro id bx hm;simp only[List.mem_singleton] at hm;cases hm;exact⟨trivial,fun _ e=>by cases e⟩
     ·intro id Ay;simp only[A5,Bh,Aj,List.mem_singleton] at Ay;subst Ay;exact⟨_,List.mem_cons_self⟩
     ·intro id cells hm;simp only[List.mem_singleton] at hm;cases hm
     ·obtain⟨es,n',c',h1,h2⟩:=hp;cases h1;have h0:=hβ (B4 N i,0) List.mem_cons_self;simp only at h0;refine⟨?_,fun id bx hm=>?_,fun id bx b' o' hm Fp j hj=>?_⟩
      ·rcases h2 with⟨h3,rfl,_,h5⟩|⟨b,ob,cap,h3,h4,h5,h6,h7,_⟩
       ·exact .inl ⟨h0.trans h3,rfl,rfl,h5⟩
       ·exact .inr ⟨b,ob,ob,cap,h0.trans h3,h4,.inl rfl,h5,h6,h7⟩
      ·simp only[List.mem_singleton] at hm;cases hm;exact Rw h2 h0
      ·simp only[List.mem_singleton] at hm;cases hm;rw[h0] at Fp;exact .inr ⟨o',_,Fp,hj,.inr rfl⟩
   ·cases Xx
  ·rename_i WU;cases Ed:A7 P t<;>rw[Ed] at hk
   ·simp only[cond_false] at hk;obtain⟨cs,bs,qs,Mm,hl,DT,hb,Vz,D7,hF,Iz,hv⟩:=Ly hk;obtain⟨c,cs',P6,Xx⟩:=Ar Mm;subst P6;obtain⟨Tg,XI⟩:=B7 Xx;subst Tg;have hFc:=hF c (by simp)
    have TP:Sv p=false∨∃ps,p=.pbox ps:=by
     cases p<;>first|exact .inl rfl|exact .inr ⟨_,rfl⟩|exact absurd rfl (WU _)
    have hpb:∀ps,p ≠ .pbox ps:=by
     rintro ps rfl
     cases XJ:Fy P t with
     |nil=>rw[XJ] at DT;simp at DT
     |cons t' ts=>
      rw[XJ] at hk;unfold Ui UI at hk;obtain⟨q,qs1,hq,Cs⟩:=Ar hk;cases hq;cases t'<;>simp[T0,Gs,Al,Bb,Et,RD] at Cs
    have hpa:∀ps,p ≠ .agg ps:=by
     rintro ps rfl
     cases XJ:Fy P t with
     |nil=>rw[XJ] at DT;simp at DT
     |cons t' ts=>
      rw[XJ] at hk;unfold Ui UI at hk;obtain⟨q,qs1,hq,Cs⟩:=Ar hk;cases hq;cases t'<;>simp[T0,Gs,Al,Bb,Et,RD] at Cs
    have TP:Sv p=false:=TP.elim id (fun ⟨ps,e⟩=>absurd e (hpb ps))
    have P9:A5 c=Aj c:=by cases c<;>first|rfl|exact hFc.elim
    refine⟨c,bs,qs.map (fun q=>(q.1,q.2+1)),XI,by rw[hb];simp,?_,(fun h=>by rw[TP] at h;cases h),?_,fun id Ay=>Iz c (by simp) id (by rw[←P9];exact Ay),nost D7,fun w A bt β' u hβ hp=>?_⟩
    ·intro q hq q' D4 e;obtain⟨q0,Q6,rfl⟩:=List.mem_map.1 hq;obtain⟨q1,G7,rfl⟩:=List.mem_map.1 D4;exact Vz q0 Q6 q1 G7 (by simp only at e;omega)
    ·intro id bx hm;obtain⟨c,rfl⟩:=D7 id bx hm;exact⟨trivial,fun _ e=>by cases e⟩
    ·have Bs:E2 w A (bt 1) p u:=by cases p<;>first|exact hp.2|exact absurd rfl (hpa _)|exact absurd rfl (hpb _)|exact absurd rfl (WU _)
     have hβ1:∀q∈qs,β' q.1=bt (1+q.2):=fun q hq=>by rw[hβ _ (List.mem_map_of_mem hq),Nat.add_comm]
     obtain⟨h6,h7⟩:=hv w A bt β' 1 [u] hβ1 ⟨Bs,trivial⟩;refine⟨?_,h7,fun id bx b' o' hm Fp j hj=>.inl (owns hb D7 hβ1 id bx b' o' hm Fp j hj)⟩
     have h8:=h6.1;cases c<;>first|exact h8|exact hFc.elim
   ·simp only[cond_true] at hk;obtain⟨ps,hp0,Cs⟩:=Fg hk;subst hp0;obtain⟨cs,bs,qs,Mm,hl,DT,hb,Vz,D7,hF,Iz,hv⟩:=Ly Cs;refine⟨_,bs,qs.map (fun q=>(q.1,q.2+1)),Mm,by rw[hb];simp,?_,(fun h=>by cases h),?_,fun id Ay=>?_,nost D7,fun w A bt β' u hβ hp=>?_⟩
    ·intro q hq q' D4 e;obtain⟨q0,Q6,rfl⟩:=List.mem_map.1 hq;obtain⟨q1,G7,rfl⟩:=List.mem_map.1 D4;exact Vz q0 Q6 q1 G7 (by simp only at e;omega)
    ·intro id bx hm;obtain⟨c,rfl⟩:=D7 id bx hm;exact⟨trivial,fun _ e=>by cases e⟩
    ·obtain⟨c,hc,hi⟩:=List.mem_flatMap.1 (show id∈cs.flatMap Aj from Ay)
     exact Iz c hc id hi
    ·obtain⟨vs,h1,_,h3⟩:=hp;have hβ1:∀q∈qs,β' q.1=bt (1+q.2):=fun q hq=>by rw[hβ _ (List.mem_map_of_mem hq),Nat.add_comm]
     obtain⟨h6,h7⟩:=hv w A bt β' 1 vs hβ1 h3;exact⟨⟨vs,h1,h6⟩,h7,fun id bx b' o' hm Fp j hj=>.inl (owns hb D7 hβ1 id bx b' o' hm Fp j hj)⟩
theorem ES:∀{ts:List TypeId}{i:Nat}{ps:List PV}{K:List (Nat × PV)->List (Nat × A1)->Option R},VZ P N i ts ps K=some r ->
  ∃tms bs,∃qs:List (Nat × Nat × Nat),K tms bs=some r∧bs.map (·.1)=qs.map (·.1)∧(∀q∈qs,i<=q.2.1)∧(∀q∈qs,∀q'∈qs,q.2=q'.2->q.1=q'.1) ∧
   (∀k p,ps[k]?=some p->Sv p=true->(B4 N (i+k),i+k,0)∈qs∧i+k<8)∧(∀id bx,(id,bx)∈bs->Bx (some bx)∧∀c,bx=.st c->∃k p,ps[k]?=some p∧Sv p=true∧id=B4 N (i+k)) ∧
   (∀j,∀id∈A5 (lk tms j),∃bx,(id,bx)∈bs)∧Ua bs ∧
   ∀(w:World) (A:Nat->Prop) (bt:Vi) (β':Bt) (us:List Value),(∀q∈qs,β' q.1=bt q.2.1 q.2.2)->Ja w A bt i ps us ->
    (∀j,(∃u,i<=j∧us[j-i]?=some u∧C1 w A β' (lk tms j) u)∨(lk tms j=.top∧(i<=j->us[j-i]?=none)))∧(∀id bx,(id,bx)∈bs->Nd w A β' id bx) ∧
    ∀id bx b o,(id,bx)∈bs->β' id=some (b,o)->∀j,BR bx o j->∃k p,ps[k]?=some p∧Ad8 (bt (i+k)) p b j
 |[],i,ps,K,hk=>by
  obtain⟨Yp,hk⟩:=B7 hk;subst Yp;refine⟨[],[],[],hk,rfl,by simp,by simp,by simp,by simp,(fun j id Ay=>by cases Ay),(by intro i cells hm;cases hm),fun w A bt β' us _ h=>?_⟩
  cases us with
  |nil=>exact⟨fun j=>.inr ⟨rfl,fun _=>by simp⟩,by simp,by simp⟩
  |cons u us=>exact h.elim
 |t::ts,i,ps,K,hk=>by
  unfold VZ at hk;obtain⟨p,ps',Yp,Cs⟩:=Ar hk;subst Yp;obtain⟨v,bs,qs,Dq,hb,hqi,Xk,I2,hr,IH,hv⟩:=YR Cs;obtain⟨tms,bs',qs',Mm,Fp,Adf,Aik,Agx,Alo,hr',Amx,K2⟩:=ES Dq;refine⟨(i,v)::tms,bs++bs',qs.map (fun q=>(q.1,i,q.2))++qs',Mm,by simp only[List.map_append,hb,Fp];simp,?_,?_,?_,?_,?_,?_,fun w A bt β' us hβ hp=>?_⟩
  ·intro q hq;rcases List.mem_append.1 hq with hq|hq
   ·obtain⟨q0,Q6,rfl⟩:=List.mem_map.1 hq;exact Nat.le_refl _
   ·have:=Adf q hq;omega
  ·intro q hq q' D4 e;rcases List.mem_append.1 hq with hq|hq
   ·obtain⟨q0,Q6,rfl⟩:=List.mem_map.1 hq;rcases List.mem_append.1 D4 with D4|D4
    ·obtain⟨q1,G7,rfl⟩:=List.mem_map.1 D4;simp only[Prod.mk.injEq,true_and] at e;exact hqi q0 Q6 q1 G7 e
    ·have:=Adf q' D4;rw[←e] at this;simp only at this;omega
   ·have h5:=Adf q hq;rcases List.mem_append.1 D4 with D4|D4
    ·obtain⟨q1,G7,rfl⟩:=List.mem_map.1 D4;rw[e] at h5;simp only at h5;omega
    ·exact Aik q hq q' D4 e
  ·intro k p' Iy hL;cases k with
   |zero=>
    simp only[List.getElem?_cons_zero,Option.some.injEq] at Iy;subst Iy;obtain⟨h1,h2⟩:=Xk hL;exact⟨List.mem_append.2 (.inl (List.mem_map.2 ⟨_,h1,rfl⟩)),h2⟩
   |succ k=>
    obtain⟨h1,h2⟩:=Agx k p' (by simpa using Iy) hL
    rw[show i+1+k=i+(k+1) by omega] at h1 h2
    exact⟨List.mem_append.2 (.inr h1),h2⟩
  ·intro id bx hm;rcases List.mem_append.1 hm with hm|hm
   ·obtain⟨h1,h2⟩:=I2 id bx hm;exact⟨h1,fun c hc=>⟨0,p,rfl,(h2 c hc).2,(h2 c hc).1⟩⟩
   ·obtain⟨h1,h2⟩:=Alo id bx hm;refine⟨h1,fun c hc=>?_⟩
    obtain⟨k,p',h3,h4,h5⟩:=h2 c hc;exact⟨k+1,p',by simpa using h3,h4,by rw[h5,show i+1+k=i+(k+1) by omega]⟩
  ·intro j id Ay;unfold lk at Ay;cases hbq:Nat.beq j i<;>rw[hbq] at Ay
   ·obtain⟨bx,h1⟩:=hr' j id Ay;exact⟨bx,List.mem_append.2 (.inr h1)⟩
   ·obtain⟨bx,h1⟩:=hr id Ay;exact⟨bx,List.mem_append.2 (.inl h1)⟩
  ·intro id cells hm c hc k hk;rcases List.mem_append.1 hm with hm|hm
   ·obtain⟨bx,h1⟩:=IH id cells hm c hc k hk;exact⟨bx,List.mem_append.2 (.inl h1)⟩
   ·obtain⟨bx,h1⟩:=Amx id cells hm c hc k hk;exact⟨bx,List.mem_append.2 (.inr h1)⟩
  ·cases us with
   |nil=>exact hp.elim
   |cons u us=>
    obtain⟨h1,h2,h3⟩:=hv w A (bt i) β' u (fun q hq=>hβ _ (List.mem_append.2 (.inl (List.mem_map_of_mem hq)))) hp.1
    obtain⟨Xn,h2',h3'⟩:=K2 w A bt β' us (fun q hq=>hβ q (List.mem_append.2 (.inr hq))) hp.2
    refine⟨fun j=>?_,fun id bx hm=>?_,fun id bx b o hm BI j hj=>?_⟩
    ·unfold lk;cases hbq:Nat.beq j i
     ·have Ie:=Jl hbq;simp only[cond_false];rcases Xn j with⟨u',h4,h5,h6⟩|⟨h4,h5⟩
      ·refine .inl ⟨u',by omega,?_,h6⟩
       rw[show j-i=(j-(i+1))+1 by omega]
       simpa using h5
      ·refine .inr ⟨h4,fun hij=>?_⟩
       rw[show j-i=(j-(i+1))+1 by omega]
       simpa using h5 (by omega)
     ·have:=Nat.eq_of_beq_eq_true hbq;subst this;exact .inl ⟨u,Nat.le_refl _,by simp,h1⟩
    ·rcases List.mem_append.1 hm with hm|hm
     ·exact h2 id bx hm
     ·exact h2' id bx hm
    ·rcases List.mem_append.1 hm with hm|hm
     ·exact⟨0,p,rfl,h3 id bx b o hm BI j hj⟩
     ·obtain⟨k,p',h4,h5⟩:=h3' id bx b o hm BI j hj;exact⟨k+1,p',by simpa using h4,by rw[show i+(k+1)=i+1+k by omega];exact h5⟩
def KD (bt:Vi)(args:List PV)(h8:∀k p,args[k]?=some p->Sv p=true->k<8):Ft:=
 ⟨RJ bt,Zy bt args,fun i=>∃p,args[i]?=some p∧Sv p=true,fun i=>bt i 0,fun i ⟨p,h1,h2⟩=>h8 i p h1 h2⟩
theorem QD {ts:List TypeId}{args:List PV}{us:List Value}{bt:Vi}{K:List (Nat × PV)->List (Nat × A1)->Option R} (DX:Ins w Y bt args us)(hk:VZ P N 0 ts args K=some r):
  ∃tms bs,K tms bs=some r∧(A3 (fun _=>none) bs=true->us.length<=N->∃(h8:∀k p,args[k]?=some p->Sv p=true->k<8),∃β0,
   Br N w (KD bt args h8) Y β0 ⟨lk tms,Fa bs⟩ { tmps:=us.toArray++Array.replicate (N-us.toArray.size) undef,defers:=[] } w):=by
 obtain⟨tms,bs,qs,Cs,hb,Q6,hqi,Xk,I2,hr,IH,hv⟩:=ES hk;refine⟨tms,bs,Cs,fun Lk hN=>?_⟩
 have JA:=M2 Lk
 have h8:∀k p,args[k]?=some p->Sv p=true->k<8:=fun k p h1 h2=>by
  have:=(Xk k p h1 h2).2;omega
 have Yr:(qs.map (·.1)).Nodup:=by rw[←hb];exact JA
 obtain⟨β0,hβ0⟩:∃β0:Bt,∀q∈qs,β0 q.1=bt q.2.1 q.2.2:=by
  have:∀(l:List (Nat × Nat × Nat)),(l.map (·.1)).Nodup->∃β0:Bt,∀q∈l,β0 q.1=bt q.2.1 q.2.2:=by
   intro l
   induction l with
   |nil=>intro _;exact⟨fun _=>none,by simp⟩
   |cons q l ih=>
    intro hn;simp only[List.map_cons,List.nodup_cons] at hn;obtain⟨b1,h1⟩:=ih hn.2;refine⟨Bi b1 q.1 (bt q.2.1 q.2.2),fun q' D4=>?_⟩
    rcases List.mem_cons.1 D4 with rfl|D4
    ·exact Af _ _ _
    ·have Ie:q'.1≠q.1:=fun e=>hn.1 (by rw[←e];exact List.mem_map.2 ⟨q',D4,rfl⟩)
     rw[Ad _ _ Ie];exact h1 q' D4
  exact this qs Yr
 refine⟨h8,β0,?_⟩;obtain⟨hs,EA,hL⟩:=hv w _ bt β0 us hβ0 DX.args
 have hqm:∀id bx,(id,bx)∈bs->∃ik,(id,ik)∈qs∧β0 id=bt ik.1 ik.2:=by
  intro id bx hm;have:id∈qs.map (·.1):=by rw[←hb];exact List.mem_map.2 ⟨_,hm,rfl⟩
  obtain⟨q,hq,rfl⟩:=List.mem_map.1 this;exact⟨q.2,hq,hβ0 q hq⟩
 have hX:∀b,BK (Fa bs) β0 b->RJ bt b:=by
  rintro b ⟨id,o,hl,hβ⟩
  cases hq:Fa bs id with
  |none=>rw[hq] at hl;exact hl.elim
  |some bx=>
   obtain⟨ik,_,h2⟩:=hqm id bx (Jm hq);rw[h2] at hβ;exact⟨_,_,_,hβ⟩
 have hA:∀b,Bz (Fa bs) β0 Y b->RJ bt b∨Y b:=fun b hb=>hb.imp (hX b) id
 have ZE:∀{p:PV} {u:Value},C1 w (fun b=>RJ bt b∨Y b) β0 p u->C1 w (Bz (Fa bs) β0 Y) β0 p u:=fun h=>h.step (Ba.refl _ _) (fun b _=>hA b) (fun _ _=>rfl)
 refine⟨rfl,by simp;omega,fun i hi=>?_,fun i hi=>?_,?_,?_,?_,fun i hi id Ay=>?_,?_,fun b hb=>.inl (hX b hb),?_,?_,?_,fun b hY hXb=>DX.Yx b hY (hX b hXb),DX.Ylt,⟨rfl,rfl,rfl,Ba.refl _ _,fun _ _ _ _=>⟨rfl,rfl⟩⟩⟩
 ·rcases hs i with⟨u,_,h,_⟩|⟨h,_⟩
  ·rw[Nat.sub_zero,List.getElem?_eq_none (by omega)] at h;cases h
  ·exact h
 ·rcases hs i with⟨u,_,h,hv⟩|⟨h,h'⟩
  ·rw[Nat.sub_zero] at h
   have Bk:i<us.length:=by
    rcases Nat.lt_or_ge i us.length with h'|h'
    ·exact h'
    ·rw[List.getElem?_eq_none h'] at h;cases h
   have:(us.toArray++Array.replicate (N-us.toArray.size) undef).getD i undef=u:=by
    rw[Array.getD_eq_getD_getElem?,Array.getElem?_append_left (by simpa using Bk)]
    simp[h]
   show C1 w _ _ _ ((us.toArray++Array.replicate (N-us.toArray.size) undef).getD i undef);rw[this];exact ZE hv
  ·show C1 w _ _ (lk tms i) _;rw[h];exact Ap.top _
 ·intro id bx hq;exact (EA id bx (Jm hq)).step' hA
 ·intro id id' b o o' hl He hβ hβ';cases hq:Fa bs id with
  |none=>change Bx (Fa bs id) at hl;rw[hq] at hl;exact hl.elim
  |some bx=>
   cases D4:Fa bs id' with
   |none=>change Bx (Fa bs id') at He;rw[D4] at He;exact He.elim
   |some bx'=>
    obtain⟨ik,h1,h2⟩:=hqm id bx (Jm hq);obtain⟨ik',Xn,h2'⟩:=hqm id' bx' (Jm D4);rw[h2] at hβ;rw[h2'] at hβ';obtain⟨h3,h4⟩:=DX.inj _ _ _ _ b o o' hβ hβ';exact hqi _ h1 _ Xn (Prod.ext h3 h4)
 ·intro id b o hn hβ;cases hq:Fa bs id with
  |none=>exact absurd hq hn
  |some bx=>
   obtain⟨ik,h1,h2⟩:=hqm id bx (Jm hq);rw[h2] at hβ;exact DX.lt b ⟨_,_,_,hβ⟩
 ·obtain⟨bx,hm⟩:=hr i id Ay;show Fa bs id≠none;rw[DJ JA hm];simp
 ·intro id cells hq c hc k hk;obtain⟨bx,hm⟩:=IH id cells (Jm hq) c hc k hk;show Fa bs k≠none;rw[DJ JA hm];simp
 ·intro id bx b o hq hl hβ _ j hj;obtain⟨k,p,h1,h2⟩:=hL id bx b o (Jm hq) hβ j hj;rw[Nat.zero_add] at h2;exact⟨k,p,h1,h2⟩
 ·rintro i ⟨p,h1,h2⟩
  have h3:=(Xk i p h1 h2).1;rw[Nat.zero_add] at h3;refine⟨?_,hβ0 _ h3⟩;have:B4 N i∈bs.map (·.1):=by rw[hb];exact List.mem_map.2 ⟨_,h3,rfl⟩
  obtain⟨⟨id,bx⟩,hm,e⟩:=List.mem_map.1 this;show Fa bs (B4 N i)≠none;rw[←e,DJ JA hm];simp
 ·intro id c b o hq _ _;obtain⟨k,p,h1,h2,h3⟩:=(I2 id _ (Jm hq)).2 c rfl;rw[Nat.zero_add] at h3;exact⟨k,h3,p,h1,h2⟩
end
open Go.RowKit
def Ir (β:Bt)(l:List (Option Nat)) (j:Nat):Option (Nat × Nat):=((l[j]?).bind id).bind β
section
variable {R:Type} {r:R} {P:Program} {N:Nat} {w0:World} {X0:Ft} {Y:Nat->Prop} {β β':Bt} {s:St} {a:Act} {w w':World} {A:Nat->Prop}
def RN (s:St)(l:List (Option Nat)):Prop:=∀id,some id∈l->Bx (s.hp id)
def Je (s:St)(z:List Nat):Prop:=∀id∈z,∃f c,s.hp id=some (.ar f c)
theorem Z5 (h : Br N w0 X0 Y β s a w) {shr : Bool} {t : CT} {p : PV} {K : PV -> List Nat -> List Nat -> Option R} (hk : NG shr s.hp t p K = some r) :
    ∃ c q z, K c (Option.toList q) z = some r ∧ (∀ x, c ≠ .agg x ∧ c ≠ .pbox x) ∧ Yt p ∧ (∀ id, q = some id -> ∃ c, s.hp id = some (.ar false c)) ∧ Je s z ∧
      ∀ (fz : List Nat) A u, (∀ i ∈ z, i ∈ fz) -> Je s fz -> (∀ b, A b -> Bz (Ac s.hp fz) β Y b) -> A6 w (Bz s.hp β Y) β p u -> E2 w A (q.bind β) c u := by
  have notree : ∀ {c : PV}, P4 c -> ∀ x, c ≠ .agg x ∧ c ≠ .pbox x := fun hT x => ⟨Rj hT x, by rintro rfl; exact hT⟩
  unfold NG at hk
  cases shr <;> simp only[cond_true, cond_false] at hk
  · have tree : ∀ t', (∀ es, t' ≠ .sl es) -> (T0 t' p fun c => K c [] []) = some r -> ∃ c q z, K c (Option.toList q) z = some r ∧ (∀ x, c ≠ .agg x ∧ c ≠ .pbox x) ∧ Yt p ∧ (∀ id, q = some id -> ∃ c, s.hp id = some (.ar false c)) ∧ Je s z ∧
        ∀ (fz : List Nat) A u, (∀ i ∈ z, i ∈ fz) -> Je s fz -> (∀ b, A b -> Bz (Ac s.hp fz) β Y b) -> A6 w (Bz s.hp β Y) β p u -> E2 w A (q.bind β) c u := by
      intro t' Ie hk
      obtain⟨c, Cs, hT, Yf, hv⟩ := Jo hk
      refine⟨c, none, [], Cs, notree hT, Ms Yf, by simp, (by intro i hi; cases hi), fun fz A u _ _ hA hc => Ib hT ?_⟩
      exact (hv w _ β u hc).1.step (Ba.refl _ _) (fun b _ hb => J3 (hA b hb))
    unfold Abc at hk
    cases t with
    | sl es =>
      dsimp only at hk
      split at hk
      · rename_i id es' off n
        cases hb : (Nat.beq es' es && Nat.beq off 0) <;> rw[hb] at hk
        · cases hk
        · simp only[Bool.and_eq_true] at hb
          have he := Nat.eq_of_beq_eq_true hb.1
          have ho := Nat.eq_of_beq_eq_true hb.2
          subst he ho
          simp only[cond_true] at hk
          split at hk
          · rename_i c h0
            obtain⟨hl, Cs⟩ := Ae hk
            refine⟨_, some id, [], Cs, by simp, trivial, fun i hi => by cases hi; exact⟨c, h0⟩, (by intro i hi; cases hi), fun fz A u _ _ hA hc => ?_⟩
            rcases hc with⟨h1, _, rfl, h4⟩ | ⟨b, o, x, cap, h1, h2, hx, h3, h4, h5⟩
            · exact .inl ⟨h1, rfl, by simp, h4⟩
            · have hx : x = o := by rcases hx with e | ⟨_, e⟩ <;> omega
              subst hx
              rcases h.box id _ h0 with⟨h6, _⟩ | ⟨b', o', h6, h7, h8, _⟩
              · rw[h1] at h6; cases h6
              · rw[h1] at h6
                cases h6
                refine .inr ⟨b, x, cap, h1, h2, h3, h4, h5, fun j q hq => ?_, fun j hj Kp => h8 rfl j hj Kp⟩
                rw[List.getElem?_take] at hq
                split at hq
                · obtain⟨v, hv, h9, ht⟩ := h7 j q hq
                  exact⟨v, hv, h9, ht.step (Ba.refl _ _) (fun b _ hb => J3 (hA b hb))⟩
                · cases hq
          · cases hk
      · obtain⟨z, n, c, Cs, hp⟩ := Dy hk
        obtain⟨hz, Dq⟩ := Ae Cs
        subst hz
        have hpF : Yt p := by rcases hp with e | ⟨e, _⟩ <;> (rw[e]; trivial)
        refine⟨_, none, [], Dq, by simp, hpF, by simp, (by intro i hi; cases hi), fun fz A u _ _ _ hc => ?_⟩
        have hu : u = .slice none 0 0 := by
          rcases hp with rfl | ⟨rfl, _⟩
          · cases hc; rfl
          · exact Ap.val hc
        exact .inl ⟨rfl, rfl, rfl, none, hu⟩
    | int k => exact tree _ (by simp) hk
    | bool => exact tree _ (by simp) hk
    | str => exact tree _ (by simp) hk
    | any => exact tree _ (by simp) hk
  · obtain⟨c, m, Cs, hT, hF, hm, hv⟩ := Wy h hk
    exact⟨c, none, m, Cs, notree hT, hF, by simp, hm, fun fz A u h1 h2 hA hc => Ib hT ((hv fz h1 h2 u hc).1.step (Ba.refl _ _) (fun b _ hb => hA b hb))⟩
structure Vu (s:St) (β:Bt) (Y:Nat->Prop) (w:World) (cs:List PV) (l:List (Option Nat)) (z:List Nat) (ps:List PV):Prop where
 len:l.length=cs.length
 pl:cs.length=ps.length
 na:∀c∈cs,∀x,c ≠ .agg x∧c ≠ .pbox x
 fr:∀p∈ps,Yt p
 own:∀id,some id∈l->∃c,s.hp id=some (.ar false c)
 row:Je s z
 sem:∀(fz:List Nat) A us,(∀i∈z,i∈fz)->Je s fz->(∀b,A b->Bz (Ac s.hp fz) β Y b)->Au (A6 w (Bz s.hp β Y) β) ps us->∀own j0,(∀j,j<l.length->own (j0+j)=Ir β l j)->Ds w A own j0 cs us
theorem Vu.nil:Vu s β Y w [] [] [] []:=⟨rfl,rfl,by simp,by simp,by simp,(by intro i hi;cases hi),fun fz A us _ _ _ hu own j0 _=>by
 cases us with
 |nil=>trivial
 |cons u us=>exact hu.elim⟩
theorem Vu.cons {c p:PV}{q:Option Nat}{z zs:List Nat}{cs ps:List PV}{l:List (Option Nat)} (Tr:∀x,c ≠ .agg x∧c ≠ .pbox x)(hF:Yt p)(hq:∀id,q=some id->∃c,s.hp id=some (.ar false c)) (hz:Je s z)
  (hv:∀(fz:List Nat) A u,(∀i∈z,i∈fz)->Je s fz->(∀b,A b->Bz (Ac s.hp fz) β Y b)->A6 w (Bz s.hp β Y) β p u->E2 w A (q.bind β) c u) (H:Vu s β Y w cs l zs ps):Vu s β Y w (c::cs) (q::l) (z++zs) (p::ps):=by
 refine⟨by simp[H.len],by simp[H.pl],?_,?_,?_,?_,fun fz A us hz1 hz2 hA hu own j0 Fw=>?_⟩
 ·intro x hx;rcases List.mem_cons.1 hx with rfl|hx
  ·exact Tr
  ·exact H.na x hx
 ·intro x hx;rcases List.mem_cons.1 hx with rfl|hx
  ·exact hF
  ·exact H.fr x hx
 ·intro id Ay;rcases List.mem_cons.1 Ay with e|Ay
  ·exact hq id e.symm
  ·exact H.own id Ay
 ·intro i hi;rcases List.mem_append.1 hi with hi|hi
  ·exact hz i hi
  ·exact H.row i hi
 ·cases us with
  |nil=>exact hu.elim
  |cons u us=>
   have h0:=Fw 0 (by simp)
   rw[Nat.add_zero] at h0;refine⟨?_,H.sem fz A us (fun i hi=>hz1 i (by simp[hi])) hz2 hA hu.2 own (j0+1) fun j hj=>?_⟩
   ·rw[h0];exact hv fz A u (fun i hi=>hz1 i (by simp[hi])) hz2 hA hu.1
   ·have:=Fw (j+1) (by simp;omega)
    rw[show j0+1+j=j0+(j+1) by omega,this]
    simp[Ir]
theorem M0 (h:Br N w0 X0 Y β s a w){shr:Bool}:∀{ts:List CT}{ps:List PV}{K:List PV->List Nat->List Nat->Option R},Tp shr s.hp ts ps K=some r ->
  ∃cs l z,K cs (l.filterMap id) z=some r∧Vu s β Y w cs l z ps
 |[],[],K,hk=>⟨[],[],[],hk,Vu.nil⟩
 |[],_::_,K,hk=>by cases hk
 |_::_,[],K,hk=>by cases hk
 |t::ts,p::ps,K,hk=>by
  unfold Tp at hk;obtain⟨c,q,z,Cs,Tr,hF,hq,hz,hv⟩:=Z5 h hk;obtain⟨cs,l,zs,Dq,H⟩:=M0 h Cs;refine⟨c::cs,q::l,z++zs,?_,Vu.cons Tr hF hq hz hv H⟩;cases q<;>exact Dq
theorem Uq (h:Br N w0 X0 Y β s a w):∀{ts:List CT}{ws ps:List PV}{K:List PV->List Nat->List Nat->Option R},Vv s.hp ts ws ps K=some r ->
  ∃cs l z,K cs (l.filterMap id) z=some r∧cs.length=ws.length∧Vu s β Y w cs l z ps
 |[],[],[],K,hk=>⟨[],[],[],hk,rfl,Vu.nil⟩
 |[],_::_,_,K,hk=>by cases hk
 |[],[],_::_,K,hk=>by cases hk
 |_::_,[],_,K,hk=>by cases hk
 |_::_,_::_,[],K,hk=>by cases hk
 |t::ts,x::ws,p::ps,K,hk=>by
  unfold Vv at hk;obtain⟨c,q,z,Cs,Tr,hF,hq,hz,hv⟩:=Z5 h hk;obtain⟨cs,l,zs,Dq,hl,H⟩:=Uq h Cs;refine⟨c::cs,q::l,z++zs,?_,by simp[hl],Vu.cons Tr hF hq hz hv H⟩
  cases q<;>exact Dq
theorem IG {own:Bt}{zz j:Nat}{p:PV}{u:Value}(hp:∀x,p ≠ .agg x∧p ≠ .pbox x)(h:Ds w A own j [p] [u]):YY w A own zz j p u:=by
 cases p<;>first|exact h.1|exact absurd rfl (hp _).1|exact absurd rfl (hp _).2
theorem MC (h:Br N w0 X0 Y β s a w){id b o:Nat}{c cs:List PV}{l:List (Option Nat)} {z:List Nat}(h0:s.hp id=some (.st c)) (hβ:β id=some (b,o)) (H:Vu s β Y w cs l z c){fz:List Nat}{A:Nat->Prop}(h1:∀i∈z,i∈fz)(h2:Je s fz)(hA:∀b,A b->Bz (Ac s.hp fz) β Y b)
  {own:Bt} {j0:Nat} (Fw:∀j,j<l.length->own (j0+j)=Ir β l j):XW w A own j0 b o cs:=by
 obtain⟨b',o',D7,Iz,BM⟩:=h.box id _ h0;rw[hβ] at D7;cases D7;refine⟨c.mapIdx (fun j _=>(w.cell? ⟨b,o+j,none⟩).getD undef),H.sem fz A _ h1 h2 hA ?_ own j0 Fw,?_,fun k hk=>BM k (by have:=H.pl;omega)⟩
 ·refine Au.of_at (by simp) fun j p v hp hv=>?_
  obtain⟨u,hu,CI⟩:=Iz j p hp;rw[List.getElem?_mapIdx,hp,Option.map_some,hu] at hv;simp at hv;subst hv;exact CI
 ·intro k v QQ;rw[List.getElem?_mapIdx] at QQ;cases hp:c[k]? with
  |none=>rw[hp] at QQ;cases QQ
  |some p=>
   obtain⟨u,hu,CI⟩:=Iz k p hp;rw[hp,Option.map_some,hu] at QQ;simp at QQ;subst QQ;exact hu
theorem OU (h:Br N w0 X0 Y β s a w){shr:Bool}{t:TypeId}{p:PV}{u:Value}(hp:C1 w (Bz s.hp β Y) β p u) {K:PV->List Nat->List Nat->Option R}(hk:WO P shr s.hp t p K=some r):
  ∃v l z,K v (l.filterMap id) z=some r∧l.length=OV v∧RN s l∧Je s z ∧
   ∀(fz:List Nat) A zz,(∀i∈z,i∈fz)->Je s fz->(∀b,A b->Bz (Ac s.hp fz) β Y b)->(∀id c b o,some id∈l->s.hp id=some (.st c)->β id=some (b,o)->zz<=b) ->
    ∀own j0,(∀j,j<l.length->own (j0+j)=Ir β l j)->YY w A own zz j0 v u:=by
 unfold WO at hk;split at hk
 ·rename_i e he;split at hk
  ·rename_i id off;split at hk
   ·rename_i c h0;obtain⟨hof,Cs⟩:=Ae hk;have hof:=Nat.eq_of_beq_eq_true hof;subst hof;obtain⟨cs,l,z,Dq,H⟩:=M0 h Cs;obtain⟨b,o,hβ,hu⟩:=hp;refine⟨.pbox cs,some id::l,z,Dq,by simp only[OV,List.length_cons,H.len];omega,?_,H.row,fun fz A zz h1 h2 hA hz own j0 Fw=>?_⟩
    ·intro i hi;rcases List.mem_cons.1 hi with e|hi
     ·cases e;rw[h0];trivial
     ·obtain⟨c',M4⟩:=H.own i hi;rw[M4];trivial
    ·have h3:=Fw 0 (by simp)
     rw[Nat.add_zero] at h3;refine⟨b,o,by rw[h3];exact hβ,hz id c b o (by simp) h0 hβ,by rw[hu,Nat.add_zero],MC h h0 hβ H h1 h2 hA fun j hj=>?_⟩
     have:=Fw (j+1) (by simp;omega)
     rw[show j0+1+j=j0+(j+1) by omega,this]
     simp[Ir]
   ·cases hk
  ·cases hk
 ·cases Ed:A7 P t<;>rw[Ed] at hk<;>simp only[cond_true,cond_false] at hk
  ·obtain⟨cs,l,z,Cs,H⟩:=M0 h hk;obtain⟨c,cs',P6,Dq⟩:=Ar Cs;subst P6;obtain⟨Tg,Mm⟩:=B7 Dq;subst Tg;have Tr:=H.na c (by simp)
   have Z2:OV c=1:=by cases c<;>first|rfl|exact absurd rfl (Tr _).1|exact absurd rfl (Tr _).2
   have hF:=H.fr p (by simp)
   refine⟨c,l,z,Mm,by rw[Z2];exact H.len,fun i hi=>?_,H.row,fun fz A zz h1 h2 hA _ own j0 Fw=>IG Tr (H.sem fz A [u] h1 h2 hA ⟨?_,trivial⟩ own j0 Fw)⟩
   ·obtain⟨c',M4⟩:=H.own i hi;rw[M4];trivial
   ·cases p<;>first|exact hp|exact hF.elim
  ·obtain⟨ps,Yp,Cs⟩:=Fg hk;subst Yp;obtain⟨cs,l,z,Dq,H⟩:=M0 h Cs;obtain⟨vs,hu,G8⟩:=hp;refine⟨.agg cs,l,z,Dq,H.len,fun i hi=>?_,H.row,fun fz A zz h1 h2 hA _ own j0 Fw=>⟨vs,hu,H.sem fz A vs h1 h2 hA G8 own j0 Fw⟩⟩
   obtain⟨c',M4⟩:=H.own i hi;rw[M4];trivial
def DH (P:Program)(tmps:Array Value)(w:World)(rv:ResultVar)(u:Value):Prop:=
  (match rv with
   |.tmp t=>(pure (tmps.getD t undef):Sem Value)
   |.cell a t=>do loadVar t (←asAddr (tmps.getD a undef))).run P w=.ok u w
theorem TW (h:Br N w0 X0 Y β s a w)(t:Nat):C1 w (Bz s.hp β Y) β (s.tm t) (a.tmps.getD t undef):=by
 rcases Nat.lt_or_ge t N with h'|h'
 ·exact h.tms t h'
 ·rw[h.tmo t h'];exact Ap.top _
theorem QF (h:Br N w0 X0 Y β s a w){rv:ResultVar}{K:PV->Option R}(hk:VT P s rv K=some r):∃p u,K p=some r∧DH P a.tmps w rv u∧C1 w (Bz s.hp β Y) β p u:=by
 unfold VT at hk;split at hk
 ·rename_i t;exact⟨_,_,hk,rfl,TW h t⟩
 ·rename_i x t;obtain⟨v,ad,val,Cs,B0,hl,hv,_⟩:=FA h (TW h x) hk;refine⟨v,val,Cs,?_,hv⟩;unfold DH;simp[B0,asAddr,hl]
theorem Qg {l l':List (Option Nat)} {j:Nat}(h:j<l.length):Ir β (l++l') j=Ir β l j:=by
 unfold Ir;rw[List.getElem?_append_left h]
theorem Qj {l l':List (Option Nat)} {j:Nat}:Ir β (l++l') (l.length+j)=Ir β l' j:=by
 unfold Ir;rw[List.getElem?_append_right (by omega),Nat.add_sub_cancel_left]
theorem Xo (h:Br N w0 X0 Y β s a w){shr:Bool}:∀{rs:List ResultVar}{ts:List TypeId}{K:List PV->List Nat->List Nat->Option R},CG P shr s rs ts K=some r ->
  ∃vs l z us,K vs (l.filterMap id) z=some r∧Au (DH P a.tmps w) rs us∧l.length=Ld vs∧RN s l∧Je s z ∧
   ∀(fz:List Nat) A zz,(∀i∈z,i∈fz)->Je s fz->(∀b,A b->Bz (Ac s.hp fz) β Y b)->(∀id c b o,some id∈l->s.hp id=some (.st c)->β id=some (b,o)->zz<=b) ->
    ∀own j0,(∀j,j<l.length->own (j0+j)=Ir β l j)->MW w A own zz j0 vs us
 |[],[],K,hk=>⟨[],[],[],[],hk,trivial,rfl,(by intro id Ay;cases Ay),(by intro id Ay;cases Ay),fun _ _ _ _ _ _ _ _ _ _=>trivial⟩
 |[],_::_,K,hk=>by cases hk
 |_::_,[],K,hk=>by cases hk
 |rv::rs,t::ts,K,hk=>by
  unfold CG at hk;obtain⟨p,u,Cs,hu,hp⟩:=QF h hk;obtain⟨v,l,z,Dq,hl,hL,hz,hv⟩:=OU h hp Cs;obtain⟨vs,l',z',us,Mm,RB,He,PA,QI,G8⟩:=Xo h Dq;refine⟨v::vs,l++l',z++z',u::us,?_,⟨hu,RB⟩,by simp only[List.length_append,Ld,List.map_cons,List.sum_cons,hl];rw[He];rfl,?_,?_,fun fz A zz h1 h2 hA Kk own j0 Fw=>⟨?_,?_⟩⟩
  ·rw[List.filterMap_append];exact Mm
  ·intro id Ay;rcases List.mem_append.1 Ay with Ay|Ay
   ·exact hL id Ay
   ·exact PA id Ay
  ·intro id Ay;rcases List.mem_append.1 Ay with Ay|Ay
   ·exact hz id Ay
   ·exact QI id Ay
  ·exact hv fz A zz (fun i hi=>h1 i (by simp[hi])) h2 hA (fun id c b o hi=>Kk id c b o (by simp[hi])) own j0 fun j hj=>by rw[Fw j (by simp;omega),Qg hj]
  ·refine G8 fz A zz (fun i hi=>h1 i (by simp[hi])) h2 hA (fun id c b o hi=>Kk id c b o (by simp[hi])) own (j0+OV v) fun j hj=>?_
   rw[←hl,Nat.add_assoc,Fw (l.length+j) (by simp;omega),Qj]
theorem M1 (h:Br N w0 X0 Y β s a w){bt:Vi}(hpt:∀i,X0.pt i=bt i 0):∀{ts:List TypeId}{i:Nat}{ps:List PV}{K:List (List PV)->List Nat->List Nat->List Nat->Option R},Tf P N s.hp i ts ps K=some r ->
  (∀k p,ps[k]?=some p->Sv p=true->X0.pn (i+k)) ->
  ∃os l z q,K os (l.filterMap id) z q=some r∧(∀id,some id∈l->∃c,s.hp id=some (.ar false c))∧Je s z∧(∀id∈q,Bx (s.hp id))∧(∀k p,ps[k]?=some p->Sv p=true->B4 N (i+k)∈q) ∧
   ∀(fz:List Nat) A,(∀i∈z,i∈fz)->Je s fz->(∀i∈q,i ∉ fz)->(∀b,A b->Bz (Ac s.hp fz) β Y b) ->
    ∀own j0,(∀j,j<l.length->own (j0+j)=Ir β l j)->G1 w A own bt j0 i ps os
 |[],i,ps,K,hk,_=>by
  obtain⟨Yp,hk⟩:=B7 hk;subst Yp;exact⟨[],[],[],[],hk,by simp,(by intro id Ay;cases Ay),by simp,by simp,fun _ _ _ _ _ _ _ _ _=>rfl⟩
 |t::ts,i,ps,K,hk,hpn=>by
  unfold Tf at hk;obtain⟨p,ps',Yp,Cs⟩:=Ar hk;subst Yp
  have Acv:∀k p,ps'[k]?=some p->Sv p=true->X0.pn (i+1+k):=fun k p' h1 h2=>by
   have:=hpn (k+1) p' (by simpa using h1) h2
   rw[show i+1+k=i+(k+1) by omega]
   exact this
  have hpq:∀{q:List Nat},(Sv p=true->B4 N i∈q)->(∀k p,ps'[k]?=some p->Sv p=true->B4 N (i+1+k)∈q)->∀k p',(p::ps')[k]?=some p'->Sv p'=true->B4 N (i+k)∈q:=by
   intro q h1 h2 k p' h3 h4;cases k with
   |zero=>
    simp only[List.getElem?_cons_zero,Option.some.injEq] at h3;subst h3;exact h1 h4
   |succ k=>
    have:=h2 k p' (by simpa using h3) h4
    rw[show i+1+k=i+(k+1) by omega] at this
    exact this
  split at Cs
  ·rename_i ws;obtain⟨e,he,Dq⟩:=Bq Cs;split at Dq
   ·rename_i c h0;obtain⟨cs,l,z,Mm,Le,H⟩:=Uq h Dq;obtain⟨os,l',z',q,Xx,PA,QI,D4,ZU,hv⟩:=M1 h hpt Mm Acv;refine⟨cs::os,l++l',z++z',B4 N i::q,by rw[List.filterMap_append];exact Xx,?_,?_,?_,hpq (fun _=>List.mem_cons_self) (fun k p h1 h2=>List.mem_cons_of_mem _ (ZU k p h1 h2)),fun fz A h1 h2 h3 hA own j0 Fw=>?_⟩
    ·intro id Ay;rcases List.mem_append.1 Ay with Ay|Ay
     ·exact H.own id Ay
     ·exact PA id Ay
    ·intro id Ay;rcases List.mem_append.1 Ay with Ay|Ay
     ·exact H.row id Ay
     ·exact QI id Ay
    ·intro id Ay;rcases List.mem_cons.1 Ay with rfl|Ay
     ·rw[h0];trivial
     ·exact D4 id Ay
    ·have Xk:=(h.pin i (by have:=hpn 0 _ rfl rfl;rwa [Nat.add_zero] at this)).2
     obtain⟨b,o,D7,_,_⟩:=h.box _ _ h0;rw[D7,hpt] at Xk;refine⟨⟨b,o,Xk.symm,Le,MC h h0 D7 H (fun i hi=>h1 i (by simp[hi])) h2 hA fun j hj=>by rw[Fw j (by simp;omega),Qg hj]⟩,?_⟩
     refine hv fz A (fun i hi=>h1 i (by simp[hi])) h2 (fun i hi=>h3 i (by simp[hi])) hA own (j0+cs.length) fun j hj=>?_
     rw[←H.len,Nat.add_assoc,Fw (l.length+j) (by simp;omega),Qj]
   ·cases Dq
  ·split at Cs
   ·rename_i c h0;obtain⟨os,l',z',q,Xx,PA,QI,D4,ZU,hv⟩:=M1 h hpt Cs Acv;refine⟨c::os,l',z',B4 N i::q,Xx,PA,QI,?_,hpq (fun _=>List.mem_cons_self) (fun k p h1 h2=>List.mem_cons_of_mem _ (ZU k p h1 h2)),fun fz A h1 h2 h3 hA own j0 Fw=>⟨?_,hv fz A h1 h2 (fun i hi=>h3 i (by simp[hi])) hA own j0 Fw⟩⟩
    ·intro id Ay;rcases List.mem_cons.1 Ay with rfl|Ay
     ·rw[h0];trivial
     ·exact D4 id Ay
    ·have Xk:=(h.pin i (by have:=hpn 0 _ rfl rfl;rwa [Nat.add_zero] at this)).2
     rw[hpt] at Xk;rcases h.box _ _ h0 with⟨h4,h5⟩|⟨b,o,h4,h5,h6,_⟩
     ·exact .inl ⟨by rw[←Xk];exact h4,h5⟩
     ·exact .inr ⟨b,o,by rw[←Xk];exact h4,h5.weak (fun b _ hb=>J3 (hA b hb)),h6 rfl⟩
   ·cases Cs
  ·rename_i FT XD;have TP:Sv p=false:=by cases p<;>first|rfl|exact absurd rfl (FT _)|exact absurd rfl (XD _)
   obtain⟨os,l',z',q,Xx,PA,QI,D4,ZU,hv⟩:=M1 h hpt Cs Acv;refine⟨os,l',z',q,Xx,PA,QI,D4,hpq (fun e=>by rw[TP] at e;cases e) ZU,fun fz A h1 h2 h3 hA own j0 Fw=>?_⟩
   have:=hv fz A h1 h2 h3 hA own j0 Fw;cases p<;>first|exact this|cases TP
theorem HR {f:ResultVar->Sem Value}:∀{rs:List ResultVar}{us:List Value},Au (fun rv u=>(f rv).run P w=.ok u w) rs us->(rs.mapM f).run P w=.ok us w
 |[],[],_=>by simp
 |[],_::_,h=>h.elim
 |_::_,[],h=>h.elim
 |rv::rs,u::us,h=>by
  rw[List.mapM_cons];simp[h.1,HR h.2]
theorem FO {fn:Func}{us:List Value}(h:Au (DH P a.tmps w) fn.results.toList us):(results fn a.tmps).run P w=.ok (Gf us) w:=by
 unfold results;rw[Array.mapM_eq_mapM_toList];simp only[map_eq_pure_bind,bind_assoc,pure_bind,Sem.run_bind];refine Eq.trans (congrArg (fun x=>Result.andThen x _) (HR h)) ?_
 simp only[Result.andThen_ok,Sem.run_pure]
 congr 1
 clear h
 match us with
 |[]=>rfl
 |[u]=>rfl
 |u::v::us=>exact dif_neg (by simp)
theorem GI:∀{l:List (Option Nat)},Cr (l.filterMap id)=true->∀{j j' i:Nat},l[j]?=some (some i)->l[j']?=some (some i)->j=j'
 |[],_,j,j',i,h,_=>by simp at h
 |q::l,hn,j,j',i,h,h'=>by
  have hn':Cr (l.filterMap id)=true:=by
   cases q with
   |none=>exact hn
   |some x=>
    simp only[List.filterMap_cons,id_eq,Cr,Bool.and_eq_true] at hn;exact hn.2
  have hq:∀(x k:Nat),q=some x->l[k]?≠some (some x):=by
   intro x k e hk;subst e;simp only[List.filterMap_cons,id_eq,Cr,Bool.and_eq_true,Bool.not_eq_true'] at hn;exact My hn.1 (List.mem_filterMap.2 ⟨some x,List.mem_of_getElem? hk,rfl⟩)
  cases j with
  |zero=>
   cases j' with
   |zero=>rfl
   |succ k'=>
    simp at h h';exact absurd h' (hq i k' h)
  |succ k=>
   cases j' with
   |zero=>
    simp at h h';exact absurd h (hq i k h')
   |succ k'=>
    simp at h h';rw[GI hn' h h']
theorem AW {C:E9}{f:FuncId}{fn:Func}{args:List PV}{res:Bc}{w:World}{Y:Nat->Prop}{bt:Vi}{us:List Value}(DX:Ins w Y bt args us){h8:∀k p,args[k]?=some p->Sv p=true->k<8}
  {s':St} {a':Act} {w':World} {β':Bt} (hr:QW C P f fn args s'=some res) (h:Br fn.ntmps w (KD bt args h8) Y β' s' a' w'):
  a'.defers=[]∧∃v,(results fn a'.tmps).run P w'=.ok v w'∧∃vs own,Ending.returned v=.returned (Gf vs)∧Out w w' Y bt args own res vs:=by
 unfold QW at hr;obtain⟨vs,l,z,us',ZL,RB,hll,hL,hz,hv⟩:=Xo h hr;obtain⟨os,l',z',q,hr2,PA,QI,hq,ZU,K2⟩:=M1 h (bt:=bt) (fun _=>rfl) ZL (fun k p h1 h2=>by rw[Nat.zero_add];exact⟨p,h1,h2⟩)
 obtain⟨hnd,hr3⟩:=Ae hr2;cases hr3;simp only[Bool.and_eq_true] at hnd;obtain⟨hnd,Ach⟩:=hnd;obtain⟨FT,XD,hn3⟩:=Gb hnd
 have Ng:∀i∈z++z',i ∉ (l.filterMap id++l'.filterMap id)++q:=by
  intro i hi Jk;have:=List.all_eq_true.1 Ach i hi;have h2:((l.filterMap id++l'.filterMap id)++q).any (Nat.beq i)=true:=List.any_eq_true.2 ⟨i,Jk,Nat.beq_refl i⟩;rw[h2] at this;cases this
 have QP:Je s' (z++z'):=by
  intro i hi;rcases List.mem_append.1 hi with hi|hi
  ·exact hz i hi
  ·exact QI i hi
 refine⟨h.dfr,Gf us',FO RB,us',Ir β' (l++l'),rfl,?_⟩;have Ald:Cr ((l++l').filterMap id)=true:=by rw[List.filterMap_append];exact FT
 have Fw:∀j b o,Ir β' (l++l') j=some (b,o)->∃id,(l++l')[j]?=some (some id)∧β' id=some (b,o):=by
  intro j b o hj;unfold Ir at hj;cases WY:(l++l')[j]? with
  |none=>rw[WY] at hj;cases hj
  |some q=>
   cases q with
   |none=>rw[WY] at hj;cases hj
   |some id=>
    rw[WY] at hj;exact⟨id,rfl,hj⟩
 have H2:∀(j i:Nat),(l++l')[j]?=some (some i)->i∈l.filterMap id++l'.filterMap id:=by
  intro j i hj;rw[←List.filterMap_append];exact List.mem_filterMap.2 ⟨some i,List.mem_of_getElem? hj,rfl⟩
 have Eu:∀(j i:Nat),(l++l')[j]?=some (some i)->Bx (s'.hp i):=by
  intro j i hj;rcases List.mem_append.1 (List.mem_of_getElem? hj) with Jk|Jk
  ·exact hL i Jk
  ·obtain⟨c,hc⟩:=PA i Jk;rw[hc];trivial
 have Abd:∀i,i∈(l.filterMap id++l'.filterMap id)++q->Ac s'.hp (z++z') i=s'.hp i:=by
  intro i hi;rw[A4,if_neg (fun Jk=>Ng i Jk hi)]
 have Abm:∀i b o,bt i 0=some (b,o)->B4 fn.ntmps i∈q∧Bx (s'.hp (B4 fn.ntmps i))∧β' (B4 fn.ntmps i)=some (b,o):=by
  intro i b o GO;obtain⟨p,h1,h2⟩:=DX.l0 i _ GO;have h3:=ZU i p h1 h2;rw[Nat.zero_add] at h3;exact⟨h3,hq _ h3,(h.pin i ⟨p,h1,h2⟩).2.trans GO⟩
 have hAO:∀b,Ti bt (Ir β' (l++l')) Y b->Bz (Ac s'.hp (z++z')) β' Y b:=by
  rintro b (⟨j,o,hj⟩|⟨i,o,GO⟩|hY)
  ·obtain⟨id,h1,h2⟩:=Fw j b o hj;refine .inl ⟨id,o,?_,h2⟩;rw[Abd id (List.mem_append.2 (.inl (H2 j id h1)))];exact Eu j id h1
  ·obtain⟨h1,h2,h3⟩:=Abm i b o GO;refine .inl ⟨_,o,?_,h3⟩;rw[Abd _ (List.mem_append.2 (.inr h1))];exact h2
  ·exact .inr hY
 have Qe:∀(j id b o:Nat),(l++l')[j]?=some (some id)->β' id=some (b,o)->b<w.heap.size->∃i k o',bt i (k+1)=some (b,o'):=by
  intro j id b o hj hβ Bk;rcases h.ownd b ⟨id,o,Eu j id hj,hβ⟩ with⟨i,k,o',GO⟩|QY
  ·cases k with
   |zero=>
    obtain⟨h1,h2,h3⟩:=Abm i b o' GO;have:=h.inj id _ b o o' (Eu j id hj) h2 hβ h3;subst this;exact absurd h1 (hn3 _ (H2 j _ hj))
   |succ k=>exact⟨i,k,o',GO⟩
  ·omega
 refine⟨h.fr.os,h.fr.tape,h.fr.output,h.fr.step,h.fr.rng,?_,?_,?_,?_⟩
 ·refine hv (z++z') _ _ (fun i hi=>List.mem_append.2 (.inl hi)) QP hAO (fun id c b o hi hc hβ=>?_) _ 0 (fun j hj=>by rw[Nat.zero_add,Qg hj])
  rcases Nat.lt_or_ge b w.heap.size with Bk|QY
  ·obtain⟨k,Iy,p,h1,h2⟩:=h.stp id c b o hc hβ Bk;have h3:=ZU k p h1 h2;rw[Nat.zero_add,←Iy] at h3;obtain⟨j,hj⟩:=List.mem_iff_getElem?.1 hi;refine absurd h3 (hn3 id ?_);exact List.mem_append.2 (.inl (List.mem_filterMap.2 ⟨some id,hi,rfl⟩))
  ·exact QY
 ·refine K2 (z++z') _ (fun i hi=>List.mem_append.2 (.inr hi)) QP (fun i hi Jk=>Ng i Jk (List.mem_append.2 (.inr hi))) hAO _ _ (fun j hj=>?_)
  rw[←hll,Qj]
 ·intro j b o hj;obtain⟨id,h1,h2⟩:=Fw j b o hj;refine⟨h.blt id b o (Bu (Eu j id h1)) h2,fun Bk=>⟨Qe j id b o h1 h2 Bk,fun x hx=>?_⟩⟩
  cases I2:s'.hp id with
  |none=>have:=Eu j id h1;rw[I2] at this;exact this.elim
  |some bx=>
   have We:=Eu j id h1;rw[I2] at We;cases bx with
   |st c=>
    obtain⟨k,Iy,p,h3,h4⟩:=h.stp id c b o I2 h2 Bk;have h5:=ZU k p h3 h4;rw[Nat.zero_add,←Iy] at h5;exact absurd h5 (hn3 _ (H2 j _ h1))
   |ar fz c=>exact h.rngB id _ b o I2 We h2 Bk x hx
   |mv=>exact We.elim
 ·intro j j' b o o' hj Kp;obtain⟨id,h1,h2⟩:=Fw j b o hj;obtain⟨id',Xn,h2'⟩:=Fw j' b o' Kp;have:=h.inj id id' b o o' (Eu j id h1) (Eu j' id' Xn) h2 h2';subst this;exact GI Ald h1 Xn
theorem IJ {G:Glo}(Ig:NoNG P)(hm:P.follows .mixedOrders=true){C:E9}{fu:Nat}{call:Ah}(Co:∀f args res,call f args=some res->Dr G P f args res){f:FuncId}{fn:Func}{c:Code}(hf:P.funcs[f]?=some fn) (hb:fn.body=some c)
  {args:List PV} {res:Bc} (hk:Acq C P fu call f fn c args=some res):Dr G P f args res:=by
 refine⟨⟨fn,hf,by rw[hb];rfl⟩,fun w Y bt us DX hG hGY=>?_⟩
 unfold Acq at hk;obtain⟨tms,bs,Cs,Kk⟩:=QD DX hk;obtain⟨D7,Dq⟩:=Ae Cs;simp only[Bool.and_eq_true] at D7
 have Dh:us.length<=fn.ntmps:=by
  rw[←DX.args.len];exact Nat.le_of_ble_eq_true D7.1
 obtain⟨h8,β0,hs⟩:=Kk D7.2 Dh;refine calls_of_wp hf hb ?_;have hE:FX P G w (KD bt args h8):=⟨Ig,fun w' WP=>G.stable w w' (fun b hb Bk=>WP.step.keep b Bk (hGY b hb).2) hG,hGY⟩
 refine KJ hE Co hm c hs Dq (fun s' a' w' β' hr h=>AW DX hr h) (fun id s' a' w' β' hr h=>by cases hr) (fun s' a' w' β' hr h=>AW DX hr h)
def ExtOk (G:Glo)(P:Program)(C:E9):Prop:=∀f g args res,C.ext f=some g->g args=some res->Dr G P f args res
theorem Ut {G:Glo}(Ig:NoNG P)(hm:P.follows .mixedOrders=true){C:E9}(hx:ExtOk G P C){fu:Nat}:∀(d:Nat)(f:FuncId)(args:List PV)(res:Bc),Ag C P fu d f args=some res->Dr G P f args res
 |0,_,_,_,h=>by cases h
 |d+1,f,args,res,h=>by
  unfold Ag at h;split at h
  ·rename_i g hg;exact hx f g args res hg h
  ·split at h
   ·cases h
   ·rename_i fn hf;split at h
    ·cases h
    ·rename_i c hb;exact IJ Ig hm (Ut Ig hm hx d) hf hb h
end
open Go.ChangeShapes Go.WideShapes Go.ChangeAt Go.RowKit Go.Deep
def DP (P:Program):List Field->Nat->Nat->Bool
 |[],i,n=>Nat.beq i n
 |f::r,i,n=>Nat.beq f.offset i&&DP P r (i+P.cellsOf f.type) n
def Jn (P:Program):Nat->TypeId->Bool
 |0,_=>false
 |d+1,t=>
  match P.underlying t with
  |some .bool=>true
  |some (.int _)=>true
  |some .string=>true
  |some (.slice e)=>Jn P d e&&Nat.blt 0 (P.cellsOf e)
  |some (.struct fs)=>DP P fs.toList 0 (P.cellsOf t)&&fs.toList.all fun f=>Jn P d f.type
  |some (.array n e)=>Nat.beq (P.cellsOf t) (n*P.cellsOf e)&&Jn P d e
  |_=>false
def WT (P:Program):Nat->TypeId->List PV->Prop
 |0,_,_=>False
 |d+1,t,ps=>
  match P.underlying t with
  |some .bool=>∃b,ps=[.sc (.bool b)]
  |some (.int k)=>∃n,ps=[.sc (.int k n)]∧(Lit.int k n).wf=true
  |some .string=>∃s:ByteArray,ps=[.sc (.string s)]∧s.size<=maxLen
  |some (.slice e)=>∃rows:List (List PV),ps=[.lst false (P.cellsOf e) rows.length rows.flatten]∧rows.length<=maxLen∧∀r∈rows,r.length=P.cellsOf e∧WT P d e r
  |some (.struct fs)=>∃rows:List (List PV),ps=rows.flatten∧Au (fun f r=>WT P d f.type r) fs.toList rows
  |some (.array n e)=>∃rows:List (List PV),ps=rows.flatten∧rows.length=n∧∀r∈rows,r.length=P.cellsOf e∧WT P d e r
  |_=>False
def YT (P:Program)(t:TypeId)(p:PV):Prop:=
 match A7 P t with
 |true=>∃ps,p=.agg ps∧WT P 12 t ps
 |false=>WT P 12 t [p]
section
variable {P:Program} {d:Nat} {t e:TypeId} {ps:List PV}
theorem ZN (hu:P.underlying t=some .bool):WT P (d+1) t ps↔∃b,ps=[.sc (.bool b)]:=by
 show (match P.underlying t with|some .bool=>_|some (.int k)=>_|some .string=>_|some (.slice e)=>_|some (.struct fs)=>_|some (.array n e)=>_|_=>_)↔_
 rw[hu]
theorem SN {k:IntKind}(hu:P.underlying t=some (.int k)):WT P (d+1) t ps↔∃n,ps=[.sc (.int k n)]∧(Lit.int k n).wf=true:=by
 show (match P.underlying t with|some .bool=>_|some (.int k)=>_|some .string=>_|some (.slice e)=>_|some (.struct fs)=>_|some (.array n e)=>_|_=>_)↔_
 rw[hu]
theorem Zj (hu:P.underlying t=some .string):WT P (d+1) t ps↔∃s:ByteArray,ps=[.sc (.string s)]∧s.size<=maxLen:=by
 show (match P.underlying t with|some .bool=>_|some (.int k)=>_|some .string=>_|some (.slice e)=>_|some (.struct fs)=>_|some (.array n e)=>_|_=>_)↔_
 rw[hu]
theorem SL (hu:P.underlying t=some (.slice e)):WT P (d+1) t ps↔∃rows:List (List PV),ps=[.lst false (P.cellsOf e) rows.length rows.flatten]∧rows.length<=maxLen∧∀r∈rows,r.length=P.cellsOf e∧WT P d e r:=by
 show (match P.underlying t with|some .bool=>_|some (.int k)=>_|some .string=>_|some (.slice e)=>_|some (.struct fs)=>_|some (.array n e)=>_|_=>_)↔_
 rw[hu]
theorem NW {fs:Array Field}(hu:P.underlying t=some (.struct fs)):WT P (d+1) t ps↔∃rows:List (List PV),ps=rows.flatten∧Au (fun f r=>WT P d f.type r) fs.toList rows:=by
 show (match P.underlying t with|some .bool=>_|some (.int k)=>_|some .string=>_|some (.slice e)=>_|some (.struct fs)=>_|some (.array n e)=>_|_=>_)↔_
 rw[hu]
theorem VN {n:Nat}(hu:P.underlying t=some (.array n e)):WT P (d+1) t ps↔∃rows:List (List PV),ps=rows.flatten∧rows.length=n∧∀r∈rows,r.length=P.cellsOf e∧WT P d e r:=by
 show (match P.underlying t with|some .bool=>_|some (.int k)=>_|some .string=>_|some (.slice e)=>_|some (.struct fs)=>_|some (.array n e)=>_|_=>_)↔_
 rw[hu]
end
inductive Ki where
 |bool
 |int (k:IntKind)
 |str
 |sl (e:TypeId)
 |st (ts:List TypeId)
 |ar (n:Nat) (e:TypeId)
 |no
def Ts (P:Program)(t:TypeId):Ki:=
 match P.underlying t with
 |some .bool=>.bool
 |some (.int k)=>.int k
 |some .string=>.str
 |some (.slice e)=>.sl e
 |some (.struct fs)=>.st (fs.toList.map (·.type))
 |some (.array n e)=>.ar n e
 |_=>.no
section
variable {P:Program} {d:Nat} {t e:TypeId} {ps:List PV} {p:PV}
theorem Au.cons_inv {α β:Type}{R:α->β->Prop}{a:α}{zs:List α}:∀{rs:List β},Au R (a::zs) rs->∃r rs',rs=r::rs'∧R a r∧Au R zs rs'
 |[],h=>h.elim
 |r::rs,h=>⟨r,rs,rfl,h.1,h.2⟩
theorem Au.nil_inv {α β:Type}{R:α->β->Prop}:∀{rs:List β},Au R ([]:List α) rs->rs=[]
 |[],_=>rfl
 |_::_,h=>h.elim
theorem Acm {k:IntKind}(hk:Ts P t=.int k)(h:WT P d t ps):∃n,ps=[.sc (.int k n)]∧(Lit.int k n).wf=true:=by
 cases d with
 |zero=>exact h.elim
 |succ d=>
 unfold Ts at hk;split at hk<;>first|cases hk|skip
 rename_i hu;exact (SN hu).1 h
theorem Ado (hk:Ts P t=.str)(h:WT P d t ps):∃s:ByteArray,ps=[.sc (.string s)]∧s.size<=maxLen:=by
 cases d with
 |zero=>exact h.elim
 |succ d=>
 unfold Ts at hk;split at hk<;>first|cases hk|skip
 rename_i hu;exact (Zj hu).1 h
theorem MA (hk:A7 P t=false)(h:YT P t p):WT P 12 t [p]:=by
 unfold YT at h;rw[hk] at h;exact h
theorem YQ {k:IntKind}(ha:A7 P t=false)(hk:Ts P t=.int k)(h:YT P t p):∃n,p=.sc (.int k n)∧(Lit.int k n).wf=true:=by
 obtain⟨b,e,h⟩:=Acm hk (MA ha h);exact⟨b,by injection e,h⟩
theorem ZI (ha:A7 P t=false)(hk:Ts P t=.str)(h:YT P t p):∃s:ByteArray,p=.sc (.string s)∧s.size<=maxLen:=by
 obtain⟨b,e,h⟩:=Ado hk (MA ha h);exact⟨b,by injection e,h⟩
end
abbrev No:Nat->Prop:=fun _=>False
section
variable {H:Type} {enc:TypeId × Value->H} {P:Program} {w:World} {base:Nat} {held:Bool}
theorem Au.flat {α β:Type}{R:α->β->Prop}:∀{l:List Nat}{f:Nat->List α}{g:Nat->List β},(∀i∈l,Au R (f i) (g i))->Au R (l.map f).flatten (l.map g).flatten
 |[],_,_,_=>trivial
 |i::l,f,g,h=>by
  simp only[List.map_cons,List.flatten_cons];exact (h i (by simp)).app (Au.flat fun j hj=>h j (by simp[hj]))
theorem OY {a:Addr}{v:Value}(h:w.cell? a=some v):a.spot=none∧a.block<w.heap.size:=by
 unfold World.cell? at h;split at h
 ·rename_i c t f e;refine⟨?_,?_⟩
  ·cases hs:a.spot with
   |none=>rfl
   |some x=>rw[hs] at h;simp at h
  ·rcases Nat.lt_or_ge a.block w.heap.size with h1|h1
   ·exact h1
   ·rw[Array.getElem?_eq_none h1] at e;cases e
 ·cases h
theorem Ye {α:Type}{g:Nat->List α}{es:Nat}:∀{n:Nat},(∀i,i<n->(g i).length=es)->((List.range n).map g).flatten.length=n*es
 |0,_=>by simp
 |n+1,h=>by
  rw[List.range_succ,List.map_append,List.flatten_append,List.length_append,Ye (fun i hi=>h i (by omega))]
  simp[h n (by omega),Nat.succ_mul]
theorem Yj {a:Addr}{g:Nat->List Value}{es:Nat}:∀{n:Nat},(∀i,i<n->(g i).length=es)->(∀i,i<n->∀k,k<es->w.cell? (a.add (i*es+k))=(g i)[k]?) ->
  ∀j,j<n*es->w.cell? (a.add j)=(((List.range n).map g).flatten)[j]?
 |0,_,_,j,hj=>by omega
 |n+1,hl,hc,j,hj=>by
  have BA:=Ye (fun i (hi:i<n)=>hl i (by omega))
  rw[List.range_succ,List.map_append,List.flatten_append,List.getElem?_append,BA];rw[Nat.succ_mul] at hj;split
  ·rename_i h1;exact Yj (fun i hi=>hl i (by omega)) (fun i hi=>hc i (by omega)) j h1
  ·rename_i h1;have:=hc n (by omega) (j-n*es) (by omega)
   rw[show n*es+(j-n*es)=j by omega] at this
   simpa using this
abbrev TR (w:World)(c:PV)(v:Value):Prop:=(P4 c∧Ap w No c v)∧v.oneCell'=true
theorem Uy {d:Nat}{cs:List Value}{n:Nat}(hn:cs.length=n):∀(l:List Field)(i:Nat),DP P l i n=true ->
  (∀f∈l,∃ps,WT P d f.type ps∧Au (TR w) ps ((cs.drop f.offset).take (P.cellsOf f.type)))->∃rows:List (List PV),Au (fun f r=>WT P d f.type r) l rows∧Au (TR w) rows.flatten (cs.drop i)
 |[],i,ho,_=>by
  have:=Nat.eq_of_beq_eq_true ho;refine⟨[],trivial,?_⟩;rw[List.drop_of_length_le (by omega)]
  trivial
 |f::l,i,ho,h=>by
  simp only[DP,Bool.and_eq_true] at ho;have ho1:=Nat.eq_of_beq_eq_true ho.1;obtain⟨ps,h1,h2⟩:=h f (by simp)
  obtain⟨rows,h3,h4⟩:=Uy hn l _ ho.2 fun g hg=>h g (by simp[hg])
  refine⟨ps::rows,⟨h1,h3⟩,?_⟩;rw[ho1] at h2;have:cs.drop i=(cs.drop i).take (P.cellsOf f.type)++cs.drop (i+P.cellsOf f.type):=by rw[←List.drop_drop];exact (List.take_append_drop _ _).symm
  rw[this,List.flatten_cons];exact h2.app h4
theorem X8 {d:Nat}{e:TypeId}{cs:List Value}{k:Nat}:∀(n:Nat),n*k<=cs.length ->
  (∀i,i<n->∃ps,(ps.length=k∧WT P d e ps)∧Au (TR w) ps ((cs.drop (i*k)).take k))->∃rows:List (List PV),rows.length=n∧(∀r∈rows,r.length=k∧WT P d e r)∧Au (TR w) rows.flatten (cs.take (n*k))
 |0,_,_=>⟨[],rfl,by simp,by simp[Au]⟩
 |n+1,hl,h=>by
  rw[Nat.succ_mul] at hl;obtain⟨rows,h1,h2,h3⟩:=X8 n (by omega) fun i hi=>h i (by omega)
  obtain⟨ps,h4,h5⟩:=h n (by omega)
  refine⟨rows++[ps],by simp[h1],?_,?_⟩
  ·intro r hr;rcases List.mem_append.1 hr with hr|hr
   ·exact h2 r hr
   ·rw[List.mem_singleton.1 hr];exact h4
  ·rw[List.flatten_append,Nat.succ_mul,List.take_add];refine h3.app ?_
   simpa using h5
theorem O2:∀(d:Nat)(t:TypeId),Jn P d t=true->∀(fuel:Nat)(cs:List Value)(x:DataW H × List MemPlace),DataW.trod enc P w base (fun _=>true) held fuel t cs=some x ->
  ∃ps,WT P d t ps∧Au (TR w) ps cs
 |0,_,h,_,_,_,_=>by cases h
 |d+1,t,hp,fuel,cs,x,h=>by
  unfold Jn at hp;split at hp
  ·rename_i hu;obtain⟨b,rfl,_⟩:=DataW.trod_bool hu h;simp only[ZN hu];exact⟨[.sc (.bool b)],⟨b,rfl⟩,⟨⟨trivial,Ap.sc _⟩,rfl⟩,trivial⟩
  ·rename_i k hu;obtain⟨n,rfl,_,hw⟩:=DataW.trod_int hu h;simp only[SN hu];exact⟨[.sc (.int k n)],⟨n,rfl,hw⟩,⟨⟨trivial,Ap.sc _⟩,rfl⟩,trivial⟩
  ·rename_i hu;obtain⟨s,rfl,_,hw⟩:=DataW.trod_string hu h;simp only[Zj hu];exact⟨[.sc (.string s)],⟨s,rfl,hw⟩,⟨⟨trivial,Ap.sc _⟩,rfl⟩,trivial⟩
  ·rename_i e hu;simp only[Bool.and_eq_true] at hp;have Sj:0<P.cellsOf e:=Nat.lt_of_succ_le (Nat.le_of_ble_eq_true hp.2);simp only[SL hu];rcases open_slice hu h with⟨rfl,_⟩|⟨a,len,cap,m,n,D,Pl,rfl,_,hl,hm,RG,_,hi⟩
   ·exact⟨[.lst false (P.cellsOf e) 0 []],⟨[],by simp,by simp,by simp⟩,⟨⟨trivial,Ap.lnil _ _⟩,rfl⟩,trivial⟩
   ·simp only[if_true] at RG;subst RG
    have Yq:∀i,i<len->∃q:List PV × List Value,(q.2.length=P.cellsOf e∧(∀k,k<P.cellsOf e->w.cell? (a.add (i*P.cellsOf e+k))=q.2[k]?))∧WT P d e q.1∧Au (TR w) q.1 q.2:=by
     intro i Bk;obtain⟨cs',hc,ht⟩:=hi i (by omega)
     obtain⟨_,Le,hat⟩:=World.cells?_some hc;obtain⟨ps,h1,h2⟩:=O2 d e hp.1 _ _ _ ht;exact⟨(ps,cs'),⟨Le,fun k hk=>by rw[←Pv.add_add];exact hat k hk⟩,h1,h2⟩
    obtain⟨F,hF⟩:=choose_lt Yq;refine⟨[.lst false (P.cellsOf e) len ((List.range len).map fun i=>(F i).1).flatten],⟨(List.range len).map fun i=>(F i).1,by simp,by simp;omega,?_⟩,⟨⟨trivial,?_⟩,rfl⟩,trivial⟩
    ·intro r hr;obtain⟨i,hi1,rfl⟩:=List.mem_map.1 hr;have hi2:=List.mem_range.1 hi1;exact⟨by rw[(hF i hi2).2.2.len];exact (hF i hi2).1.1,(hF i hi2).2.1⟩
    ·rcases Nat.eq_zero_or_pos len with h0|h0
     ·subst h0;exact Ap.lemp _ _ _
     ·have Kq:Au (TR w) ((List.range len).map fun i=>(F i).1).flatten ((List.range len).map fun i=>(F i).2).flatten:=Au.flat fun i hi=>(hF i (List.mem_range.1 hi)).2.2
      have hcell:=Yj (w:=w) (a:=a) (g:=fun i=>(F i).2) (fun i hi=>(hF i hi).1.1) (fun i hi=>(hF i hi).1.2)
      have Dh:=Ye (g:=fun i=>(F i).2) (fun i (hi:i<len)=>(hF i hi).1.1)
      have h00:w.cell? a≠none:=by
       have:=hcell 0 (Nat.mul_pos h0 Sj);rw[show a.add 0=a by unfold Addr.add;simp] at this
       rw[this,List.getElem?_eq_getElem (by rw[Dh];exact Nat.mul_pos h0 Sj)]
       simp
      obtain⟨v0,hv0⟩:=Option.ne_none_iff_exists'.1 h00;obtain⟨hs,hb⟩:=OY hv0
      have key:∀j c,(((List.range len).map fun i=>(F i).1).flatten)[j]?=some c->∃v,w.cell? (a.add j)=some v∧TR w c v:=by
       intro j c hj
       have WY:j<len*P.cellsOf e:=by
        rw[←Dh,←Kq.len];rcases Nat.lt_or_ge j (((List.range len).map fun i=>(F i).1).flatten).length with h1|h1
        ·exact h1
        ·rw[List.getElem?_eq_none h1] at hj;cases hj
       have h1:=hcell j WY;rw[List.getElem?_eq_getElem (by rw[Dh];exact WY)] at h1
       exact⟨_,h1,Kq.at_ hj (List.getElem?_eq_getElem (by rw[Dh];exact WY))⟩
      refine Ap.lst _ _ _ a _ (fun j=>(w.cell? (a.add j)).getD undef) hs hb (fun h=>h) hl (fun j c hj=>?_) (fun j c hj=>?_) (fun j c hj=>?_)
      ·obtain⟨v,hv,_⟩:=key j c hj;rw[hv];rfl
      ·obtain⟨v,hv,ht⟩:=key j c hj;rw[hv];exact ht.2
      ·obtain⟨v,hv,ht⟩:=key j c hj;rw[hv];exact ht.1.2
  ·rename_i fs hu;simp only[Bool.and_eq_true] at hp;simp only[NW hu];obtain⟨xs,n,_,_,Dh,hxl,hf⟩:=DataW.trod_struct hu h
   obtain⟨rows,h1,h2⟩:=Uy (P:=P) (w:=w) (d:=d) Dh fs.toList 0 hp.1 fun f QT=>by
    obtain⟨i,hi⟩:=List.mem_iff_getElem?.1 QT;have Yq:fs[i]?=some f:=by simpa using hi
    have Bk:i<fs.size:=(Array.getElem?_eq_some_iff.1 Yq).1;have h3:=hf i f Yq;rw[List.getElem?_eq_getElem (by omega)] at h3
    exact O2 d f.type (List.all_eq_true.1 hp.2 f QT) _ _ _ h3
   exact⟨_,⟨rows,rfl,h1⟩,by simpa using h2⟩
  ·rename_i n e hu;simp only[Bool.and_eq_true] at hp;simp only[VN hu];obtain⟨xs,m,_,_,Dh,hxl,hf⟩:=DataW.trod_array hu h;have Jx:=Nat.eq_of_beq_eq_true hp.1
   obtain⟨rows,h1,h2,h3⟩:=X8 (P:=P) (w:=w) (d:=d) (e:=e) (cs:=cs) (k:=P.cellsOf e) n (by omega) fun i hi=>by
    have h3:=hf i hi;rw[List.getElem?_eq_getElem (by omega)] at h3
    obtain⟨ps,h4,h5⟩:=O2 d e hp.2 _ _ _ h3;refine⟨ps,⟨?_,h4⟩,h5⟩;rw[h5.len,List.length_take,List.length_drop,Dh,Jx];have:(i+1)*P.cellsOf e<=n*P.cellsOf e:=Nat.mul_le_mul_right _ hi;rw[Nat.succ_mul] at this;omega
   refine⟨_,⟨rows,rfl,h1,h2⟩,?_⟩;rw[List.take_of_length_le (by omega)] at h3
   exact h3
  ·cases hp
theorem WH {r:Reach}{b0:Nat}{t:TypeId}{v:Value}{dd:DataW H}{p:List MemPlace}(hp:Jn P 12 t=true)(hv:Value.okWide P w r b0 t v)(h:DataW.Trod enc P w base (fun _=>true) held t v dd p):
  ∃q,YT P t q∧M3 w No q v:=by
 obtain⟨fuel,hf⟩:=h;obtain⟨ps,h1,h2⟩:=O2 12 t hp fuel _ _ hf;unfold YT A7
 have two:∀{cs:Array Value},v=.agg cs->∃q,(∃ps,q=.agg ps∧WT P 12 t ps)∧M3 w No q v:=by
  intro cs e;subst e;exact⟨.agg ps,⟨ps,rfl,h1⟩,cs.toList,by simp,h2.mono fun c v h=>h.1⟩
 have one:v.cells.toList=[v]->∃q,WT P 12 t [q]∧M3 w No q v:=by
  intro e;rw[e] at h2
  match ps,h2 with
  |[q],h2=>
   refine⟨q,h1,?_⟩;have h3:=h2.1.1;cases q<;>first|exact h3|exact h3.1.elim
  |[],h2=>exact h2.elim
  |_::_::_,h2=>exact h2.2.elim
 unfold Jn at hp;split at hp
 ·rename_i hu;simp only[hu];obtain⟨b,rfl,_⟩:=open_bool hu hv ⟨fuel,hf⟩;exact one rfl
 ·rename_i k hu;simp only[hu];obtain⟨b,rfl,_⟩:=open_int hu hv ⟨fuel,hf⟩;exact one rfl
 ·rename_i hu;simp only[hu];obtain⟨b,rfl,_⟩:=ChangeMaps.open_string hu hv ⟨fuel,hf⟩;exact one rfl
 ·rename_i e hu;simp only[hu];obtain⟨a,len,cap,rfl⟩:=okWide_slice hu hv;exact one rfl
 ·rename_i fs hu;simp only[hu];obtain⟨cs,rfl,_⟩:=okWide_struct hu hv;exact two rfl
 ·rename_i n e hu;simp only[hu];unfold Value.okWide at hv;simp only[hu] at hv;obtain⟨cs,rfl,_⟩:=hv;exact two rfl
 ·cases hp
theorem Zv:∀{ts:List TypeId}{vs:List Value}{ds:List (DataW H)} {p:List MemPlace}{r:Reach}{b0:Nat},(ts.all fun t=>Jn P 12 t)=true->(∀(j:Nat) t v,ts[j]?=some t->vs[j]?=some v->Value.okWide P w r b0 t v) ->
  DataW.TrodAll enc P w base (fun _=>true) held ts vs ds p->∃qs,Au (YT P) ts qs∧Au (M3 w No) qs vs
 |[],[],[],_,_,_,_,_,_=>⟨[],trivial,trivial⟩
 |t::ts,v::vs,d::ds,_,r,b0,hp,hv,⟨p,q,h1,h2,_⟩=>by
  simp only[List.all_cons,Bool.and_eq_true] at hp;obtain⟨x,h3,h4⟩:=WH hp.1 (hv 0 t v rfl rfl) h1;obtain⟨xs,h5,h6⟩:=Zv hp.2 (fun j t v ht K2=>hv (j+1) t v ht K2) h2
  exact⟨x::xs,⟨h3,h5⟩,h4,h6⟩
 |[],_::_,_,_,_,_,_,_,h=>by cases h
 |[],[],_::_,_,_,_,_,_,h=>by cases h
 |_::_,[],_,_,_,_,_,_,h=>by cases h
 |_::_,_::_,[],_,_,_,_,_,h=>by cases h
theorem P1 (hl:laidOutB P=true){W W':World}{sp:Nat->Bool}:∀{ts:List TypeId}{vs:List Value}{ds:List (DataW H)} {p:List MemPlace},(ts.all fun t=>P.readableRec t&&Nat.blt t P.types.size)=true ->
  DataW.TrodAll enc P W 0 (fun _=>true) true ts vs ds p->(∀x∈p,W.sameAt W' x)->(∀x∈p,sp x.block=true)->DataW.TrodAll enc P W' 0 sp true ts vs ds p
 |[],[],[],_,_,h,_,_=>h
 |t::ts,v::vs,d::ds,_,hr,⟨p,q,h1,h2,e⟩,hs,RA=>by
  simp only[List.all_cons,Bool.and_eq_true] at hr;refine⟨p,q,WideElems.Trod_stays hl hr.1.1 (Nat.lt_of_succ_le (Nat.le_of_ble_eq_true hr.1.2)) h1 (fun x hx=>hs x ?_) (fun x hx=>RA x ?_),P1 hl hr.2 h2 (fun x hx=>hs x ?_) (fun x hx=>RA x ?_),e⟩
  all_goals rw[e,List.mem_append]
  ·exact .inl hx
  ·exact .inl hx
  ·exact .inr hx
  ·exact .inr hx
 |[],_::_,_,_,_,h,_,_=>by cases h
 |[],[],_::_,_,_,h,_,_=>by cases h
 |_::_,[],_,_,_,h,_,_=>by cases h
 |_::_,_::_,[],_,_,h,_,_=>by cases h
theorem Za {f:Func}{s:ChangeSpec}{apart fresh DE again:Bool}{W W':World}{args:Array Value}{v:Value}{ds gs:List (DataW H)} {before pa pv:List MemPlace}
  (hW:DataW.Whole enc P f.params.toList s.vars apart W args.toList ds gs before)
  (Afn:∀(b:Nat)(sp:Nat->Bool)(hd:Bool),DataW.TrodAll enc P W' b sp hd f.resultTypes.toList (v.resultList f.resultTypes.size) (s.fn H (ds++gs)).results [])
  (Dl:∀sp:Nat->Bool,(∀p∈before,sp p.block=true)->DataW.TrodAll enc P W' 0 sp true f.params.toList args.toList (s.fn H (ds++gs)).args pa)
  (EX:∀sp:Nat->Bool,(∀p∈before,sp p.block=true)->DataW.TrodVars enc P W' sp s.vars (s.fn H (ds++gs)).vars pv)
  (Yp:before=pa++pv)(hb:Below W.heap.size W W')
  (Js:∀(j:Nat)(t:TypeId)(r:Value),f.resultTypes[j]?=some t->(v.resultList f.resultTypes.size)[j]?=some r->Value.okWide P W' .any 0 t r):
  s.post enc P f apart fresh DE again W args v W':=by
 have Bk:∀p∈before,p.block<W.heap.size:=fun p hp=>hW.lt p hp
 have hold:∀p∈before,(fun b=>decide (b<W.heap.size)) p.block=true:=fun p hp=>by simpa using Bk p hp
 refine⟨ds,gs,before,[],pa,pv,hW,Afn _ _ _,Dl _ hold,EX _ hold,World.keptBut_mono (fun p hp=>⟨hp,?_⟩) (hb.frame (· ∈ before)),fun _=>?_⟩
 ·rw[Yp,List.mem_append] at hp;exact Or.inr hp
 ·obtain⟨_,_,_,_,_,hz,hn⟩:=hW;refine⟨Js,_,_,([]++pa)++pv,⟨[]++pa,pv,trodAll_append (Dl _ (fun _ _=>rfl)) (Afn _ _ _),EX _ (fun _ _=>rfl),rfl,?_,?_⟩,?_⟩
  ·intro b off hp;have DX:MemPlace.cell b off∈before:=by rw[Yp];simpa using hp
   rw[hb.frozen (Bk _ DX)];exact hz b off DX
  ·intro ha;have:=hn ha;rw[Yp] at this
   simpa using this
  ·intro p hp _;rw[Yp]
   simpa using hp
theorem law_contract {G:Glo}{C:E9}(hx:ExtOk G P C)(Ig:NoNG P)(hm:P.follows .mixedOrders=true)(hl:laidOutB P=true){f:FuncId}{fn:Func}{s:ChangeSpec}{tb:TypeId}(hfn:P.funcs[f]?=some fn)
  (EX:s.vars=[]) (Afu:∀ds:List (DataW H),ds.length=fn.params.size->s.fn H ds={ results:=[.lit (.bool true)],args:=ds }) (Adv:(fn.params.toList.all fun t=>Jn P 12 t)=true)
  (Ag2:(fn.params.toList.all fun t=>P.readableRec t&&Nat.blt t P.types.size)=true) (hrt:fn.resultTypes = #[tb]) (hub:P.underlying tb=some .bool)
  {apart fresh DE again:Bool} (W:World) (base:Nat) (args:Array Value) (ds gs:List (DataW H)) (before:List MemPlace)
  (hval:∀(j:Nat) t v,fn.params[j]?=some t->args[j]?=some v->Value.okWide P W .any base t v)
  (hW:DataW.Whole enc P fn.params.toList s.vars apart W args.toList ds gs before)
  (Ako:∀qs:List PV,Au (YT P) fn.params.toList qs->∃fu d,Ag C P fu d f qs=some ⟨[.sc (.bool true)],[]⟩) (hG:G.ok W)(hGY:∀b,G.bl b->b<W.heap.size):
  Calls P f args W fun e W'=>∃v,e=.returned v∧s.post enc P fn apart fresh DE again W args v W':=by
 have hW':=hW;obtain⟨p,q,hA,hV,rfl,Ng,hnd⟩:=hW;rw[EX] at hV;obtain⟨rfl,rfl⟩:=trodVars_none hV;obtain⟨qs,h1,h2⟩:=Zv Adv (fun j t v ht hv=>hval j t v (by simpa using ht) (by simpa using hv)) hA
 obtain⟨fu,d,hc⟩:=Ako qs h1;have hS:=(Ut Ig hm hx d f qs _ hc).2 W No VV args.toList (EV (fun b h=>h.elim) h2) hG (fun b hb=>⟨hGY b hb,Wz b⟩)
 rw[Array.toArray_toList] at hS;refine hS.mono fun e W' ⟨vs,own,he,ho⟩=>?_
 have hv:=ho.vals
 have G8:vs=[.bool true]:=by
  match vs,hv with
  |[u],hv=>
   have:Ap W' _ (.sc (.bool true)) u:=hv.1;rw[this.val]
  |[],hv=>exact hv.elim
  |_::_::_,hv=>exact hv.2.elim
 subst G8;subst he;have hb:Below W.heap.size W W':=⟨ho.os,ho.tape,ho.output,ho.ext.size,fun k hk=>ho.ext.keep k hk (Wz k)⟩
 have Bk:∀x∈p,x.block<W.heap.size:=fun x hx=>hW'.lt x (by simpa using hx)
 have Dh:ds.length=fn.params.size:=by
  have:∀{ts:List TypeId} {vs:List Value} {ds:List (DataW H)} {p:List MemPlace},DataW.TrodAll enc P W 0 (fun _=>true) true ts vs ds p->ds.length=ts.length:=by
   intro ts
   induction ts with
   |nil=>intro vs ds p h;cases vs<;>cases ds<;>first|rfl|cases h
   |cons t ts ih=>
    intro vs ds p h;cases vs with
    |nil=>cases h
    |cons v vs=>
     cases ds with
     |nil=>cases h
     |cons d ds=>obtain⟨_,_,_,h2,_⟩:=h;simp[ih h2]
  simpa using this hA
 have RA:=Afu (ds++[]) (by simpa using Dh)
 refine⟨_,rfl,Za (pa:=p) (pv:=[]) hW' ?_ ?_ ?_ rfl hb ?_⟩
 ·intro b sp hd;rw[RA,hrt];exact trodAll_mk1 (shut_bool hub _)
 ·intro sp Alc;rw[RA];simp only[List.append_nil];exact P1 hl Ag2 hA (fun x hx=>hb.same (Bk x hx)) (fun x hx=>Alc x (by simpa using hx))
 ·intro sp _;rw[RA,EX];rfl
 ·exact ok_one hrt rfl (okWide_bool_mk hub _)
end
end
section
open Go.IntKind (wrap)
theorem E8:type_of% @Nat.mul_one:=@Nat.mul_one
theorem I1:type_of% @Nat.zero_add:=@Nat.zero_add
theorem Hy:type_of% @List.drop_zero.{0}:=@List.drop_zero
theorem J4:type_of% @List.take_of_length_le.{0}:=@List.take_of_length_le
theorem MK:type_of% @List.length_append.{0}:=@List.length_append
theorem YN:type_of% @List.length_nil.{0}:=@List.length_nil
theorem LI:type_of% @List.length_cons.{0}:=@List.length_cons
theorem Uv:type_of% @Int.toNat_natCast:=@Int.toNat_natCast
theorem Pz:type_of% @if_neg.{1}:=@if_neg
theorem Ni:type_of% @if_pos.{1}:=@if_pos
theorem XX:type_of% @List.nil_append.{0}:=@List.nil_append
theorem NS:type_of% @List.append_assoc.{0}:=@List.append_assoc
end
section
open Go.Proofs.Try (prog)
open Go.IntKind (wrap)
set_option maxRecDepth 100000
abbrev Jd:FuncId:=82
theorem Pt {xs:FuncId->Option (List PV->Option Bc)} (fu d:Nat)(a0 a1:Int):Ag (CX xs) prog fu (d+1) Jd [.sc (.int .u64 a0),.sc (.int .i64 a1)]=(fun (call:Ah)=>Aa (wrap .u64 a1) fun x1=>Aa (Uc .u64 x1 63) fun x2=>Ao (decide (0<=x2))<|Aa (Hh .u64 a0 x2) fun x3=>Aa (wrap .u64 (64-x2)) fun x4=>Ao (decide (0<=x4))<|Aa (Pp .u64 a0 x4) fun x5=>Aa (V9 .u64 x3 x5) fun x6=>some (Bc.mk [.sc (.int .u64 x6)] [])) (Ag (CX xs) prog fu d):=by kernel_rfl
abbrev G4:FuncId:=59
noncomputable def Er (fu:Nat)(call:Ah)(Bf:Nat)(a0:List PV)(nn y0 y1:Nat)(y2:List PV)(y3 y4:Int)(y5:List PV):Option Bc:=Cl CB prog fu call 59 Try.f59 (Bm Try.f59) [.lst false 1 Bf a0] [.r,.r,.l,.r,.l] nn ⟨lk [(3,(.view 3 1 0 y0)),(11,(.lst false 1 y1 y2)),(12,(.sc (.int .i64 y3))),(13,(.sc (.int .i64 y4)))],Fa [(3,(.ar false y5))]⟩
noncomputable def F9 (fu:Nat)(call:Ah)(Bf:Nat)(a0:List PV)(m0 nn y0:Nat)(y1:Int)(y2:Nat)(y3:List PV)(y4 y5 y6:Int)(y7:List PV):Option Bc:=Cl CB prog fu call 59 Try.f59 (Bm Try.f59) [.lst false 1 Bf a0] [.r,.r,.l,.r,.l,.i m0,.r,.r,.l,.l,.r,.r,.l] nn ⟨lk [(3,(.view 3 1 0 y0)),(5,(.sc (.int .u64 y1))),(11,(.lst false 1 y2 y3)),(12,(.sc (.int .i64 y4))),(13,(.sc (.int .i64 y5))),(17,(.sc (.int .i64 y6)))],Fa [(3,(.ar false y7))]⟩
theorem K3 (fu:Nat)(call:Ah)(Bf:Nat)(a0:List PV)(nn y0 y1:Nat)(y2:List PV)(y3 y4:Int)(y5:List PV):Er fu call Bf a0 (nn+1) y0 y1 y2 y3 y4 y5=(Cc (decide (y4<y3)) (Ao (decide (0<=y4)&&decide (y4<(↑y1:Int)))<|Al .u64 (List.getD y2 (Int.toNat y4*1) .top) fun x2=>F9 fu call Bf a0 nn (fu) (y0) x2 (y1) (y2) (y3) (y4) 0 (y5)) (Ao (decide (y0*1<=y5.length))<|some (Bc.mk [.own 1 y0 (List.take (y0*1) y5)] []))):=by kernel_rfl
theorem Kv (fu:Nat)(call:Ah)(Bf:Nat)(a0:List PV)(m0 nn y0:Nat)(y1:Int)(y2:Nat)(y3:List PV)(y4 y5 y6:Int)(y7:List PV):F9 fu call Bf a0 m0 (nn+1) y0 y1 y2 y3 y4 y5 y6 y7=(Cc (decide (y6<8)) (Aa (wrap .i64 (8*y6)) fun x3=>Aa (wrap .i64 (56-x3)) fun x4=>Ao (decide (0<=x4))<|Aa (Pp .u64 y1 x4) fun x5=>Aa (wrap .u8 x5) fun x6=>Ao (decide (y0*1<=y7.length)&&true&&decide ((y0+1)*1<=1099511627776)&&decide (y0+1<=1099511627776))<|Aa (y0+1) fun x7=>Aa (List.take (y0*1) y7++[.sc (.int .u8 x6)]) fun x8=>Aa (wrap .i64 (y6+1)) fun x9=>F9 fu call Bf a0 m0 (nn) x7 (y1) (y2) (y3) (y4) (y5) x9 x8) (Aa (wrap .i64 (y5+1)) fun Ix=>Er fu call Bf a0 (m0) (y0) (y2) (y3) (y4) Ix (y7))):=by kernel_rfl
theorem Xt {xs:FuncId->Option (List PV->Option Bc)} (fu d Bf:Nat)(a0:List PV):Ag (CX xs) prog fu (d+1) G4 [.lst false 1 Bf a0]=(fun (call:Ah)=>Aa (wrap .i64 (8*(↑Bf:Int))) fun x1=>Ao (decide (0<=x1)&&decide (x1*1<=1099511627776)&&decide (x1<=1099511627776))<|Er fu call Bf a0 (fu) 0 (Bf) (a0) ((↑Bf:Int)) 0 ([])) (Ag (CX xs) prog fu d):=by kernel_rfl
abbrev Nk:FuncId:=68
noncomputable def Fi (fu:Nat)(call:Ah)(Bf:Nat)(a0:List PV)(nn:Nat)(y0:Int)(y1:Nat)(y2:List PV)(y3 y4:Int):Option Bc:=Cl CB prog fu call 68 Try.f68 (Bm Try.f68) [.lst false 1 Bf a0] [.r,.r,.l,.r,.l] nn ⟨lk [(3,(.sc (.int .u64 y0))),(6,(.lst false 1 y1 y2)),(7,(.sc (.int .i64 y3))),(8,(.sc (.int .i64 y4)))],Fa []⟩
theorem J8 (fu:Nat)(call:Ah)(Bf:Nat)(a0:List PV)(nn:Nat)(y0:Int)(y1:Nat)(y2:List PV)(y3 y4:Int):Fi fu call Bf a0 (nn+1) y0 y1 y2 y3 y4=(Cc (decide (y4<y3)) (Ao (decide (0<=y4)&&decide (y4<(↑y1:Int)))<|Al .u8 (List.getD y2 (Int.toNat y4*1) .top) fun x1=>Aa (wrap .u64 x1) fun x2=>Aa (wrap .i64 (8*y4)) fun x3=>Ao (decide (0<=x3))<|Aa (Hh .u64 x2 x3) fun x4=>Aa (V9 .u64 y0 x4) fun x5=>Aa (wrap .i64 (y4+1)) fun x6=>Fi fu call Bf a0 (nn) x5 (y1) (y2) (y3) x6) (some (Bc.mk [.sc (.int .u64 y0)] []))):=by kernel_rfl
theorem Vj {xs:FuncId->Option (List PV->Option Bc)} (fu d Bf:Nat)(a0:List PV):Ag (CX xs) prog fu (d+1) Nk [.lst false 1 Bf a0]=(fun (call:Ah)=>Fi fu call Bf a0 (fu) 0 (Bf) (a0) ((↑Bf:Int)) 0) (Ag (CX xs) prog fu d):=by kernel_rfl
abbrev Hr:FuncId:=69
noncomputable def Dg (fu:Nat)(call:Ah)(Gg Fz:Int)(Gd F3 a1:Int)(nn:Nat)(y0 y1:Int)(y2 y3:Int)(y4 y5:Int):Option Bc:=Cl CB prog fu call 69 Try.f69 (Bm Try.f69) [.pbox [.sc (.int .u64 Gg),.sc (.int .u64 Fz),.sc (.int .u64 Gd),.sc (.int .u64 F3)],.sc (.int .i64 a1)] [.r,.l] nn ⟨lk [(0,(.ptr 288000 0)),(4,(.sc (.int .i64 y0))),(5,(.sc (.int .i64 y1)))],Fa [(288000,(.st [(.sc (.int .u64 y2)),(.sc (.int .u64 y3)),(.sc (.int .u64 y4)),(.sc (.int .u64 y5))]))]⟩
theorem F1 (fu:Nat)(call:Ah)(Gg Fz:Int)(Gd F3 a1:Int)(nn:Nat)(y0 y1:Int)(y2 y3:Int)(y4 y5:Int):Dg fu call Gg Fz Gd F3 a1 (nn+1) y0 y1 y2 y3 y4 y5=(Cc (decide (y1<y0)) (Aa (wrap .u64 (y2+y3)) fun x1=>Aq (call 82 [.sc (.int .u64 y3),.sc (.int .i64 13)]) fun x2 x3=>Ai x3<|Ab x2 fun x4 x5=>Al .u64 x4 fun x6=>Ai x5<|Aa (Cq .u64 x6 x1) fun x7=>Aq (call 82 [.sc (.int .u64 x1),.sc (.int .i64 32)]) fun x8 x9=>Ai x9<|Ab x8 fun Ix Ij=>Al .u64 Ix fun Id=>Ai Ij<|Aa (wrap .u64 (y4+y5)) fun Ln=>Aq (call 82 [.sc (.int .u64 y5),.sc (.int .i64 16)]) fun Lj Ll=>Ai Ll<|Ab Lj fun Pn Qu=>Al .u64 Pn fun Nn=>Ai Qu<|Aa (Cq .u64 Nn Ln) fun Hg=>Aa (wrap .u64 (Id+Hg)) fun Px=>Aq (call 82 [.sc (.int .u64 Hg),.sc (.int .i64 21)]) fun P8 Rh=>Ai Rh<|Ab P8 fun R6 Jy=>Al .u64 R6 fun Vs=>Ai Jy<|Aa (Cq .u64 Vs Px) fun Tz=>Aa (wrap .u64 (Ln+x7)) fun Qk=>Aq (call 82 [.sc (.int .u64 x7),.sc (.int .i64 17)]) fun CM BW=>Ai BW<|Ab CM fun Pa Q9=>Al .u64 Pa fun Yu=>Ai Q9<|Aa (Cq .u64 Yu Qk) fun X4=>Aq (call 82 [.sc (.int .u64 Qk),.sc (.int .i64 32)]) fun Uo Yw=>Ai Yw<|Ab Uo fun Wg S0=>Al .u64 Wg fun Y7=>Ai S0<|Aa (wrap .i64 (y1+1)) fun EB=>Dg fu call Gg Fz Gd F3 a1 (nn) (y0) EB Px X4 Y7 Tz) (some (Bc.mk [] [[.sc (.int .u64 y2),.sc (.int .u64 y3),.sc (.int .u64 y4),.sc (.int .u64 y5)]]))):=by kernel_rfl
theorem Nl {xs:FuncId->Option (List PV->Option Bc)} (fu d:Nat)(Gg Fz:Int)(Gd F3 a1:Int):Ag (CX xs) prog fu (d+1) Hr [.pbox [.sc (.int .u64 Gg),.sc (.int .u64 Fz),.sc (.int .u64 Gd),.sc (.int .u64 F3)],.sc (.int .i64 a1)]=(fun (call:Ah)=>Dg fu call Gg Fz Gd F3 a1 (fu) (a1) 0 (Gg) (Fz) (Gd) (F3)) (Ag (CX xs) prog fu d):=by kernel_rfl
abbrev Hs:FuncId:=67
theorem Np {xs:FuncId->Option (List PV->Option Bc)} (fu d:Nat)(Gg Fz:Int)(Gd F3 a1:Int):Ag (CX xs) prog fu (d+1) Hs [.pbox [.sc (.int .u64 Gg),.sc (.int .u64 Fz),.sc (.int .u64 Gd),.sc (.int .u64 F3)],.sc (.int .u64 a1)]=(fun (call:Ah)=>Aa (Cq .u64 F3 a1) fun x1=>Aq (call 69 [.pbox [.sc (.int .u64 Gg),.sc (.int .u64 Fz),.sc (.int .u64 Gd),.sc (.int .u64 x1)],.sc (.int .i64 2)]) fun x2 x3=>Ai x2<|Ab x3 fun x4 x5=>Ab x4 fun x6 x7=>Al .u64 x6 fun x8=>Ab x7 fun x9 Ix=>Al .u64 x9 fun Ij=>Ab Ix fun Id Ln=>Al .u64 Id fun Lj=>Ab Ln fun Ll Pn=>Al .u64 Ll fun Qu=>Ai Pn<|Ai x5<|Aa (Cq .u64 x8 a1) fun Nn=>some (Bc.mk [] [[.sc (.int .u64 Nn),.sc (.int .u64 Ij),.sc (.int .u64 Lj),.sc (.int .u64 Qu)]])) (Ag (CX xs) prog fu d):=by kernel_rfl
abbrev Rc:FuncId:=58
noncomputable def F2 (fu:Nat)(call:Ah)(a0 a1:Int)(P3:Nat)(a2:List PV)(nn y0:Nat)(y1:List PV)(y2 y3:Int)(y4 y5:Int)(y6 y7 y8:Int):Option Bc:=Cl CB prog fu call 58 Try.f58 (Bm Try.f58) [.sc (.int .u64 a0),.sc (.int .u64 a1),.lst false 1 P3 a2] [.r,.r,.r,.l,.r,.l] nn ⟨lk [(2,(.lst false 1 y0 y1)),(7,(.ptr 7 0)),(8,(.sc (.int .i64 y2))),(22,(.sc (.int .i64 y3))),(23,(.sc (.int .i64 y4)))],Fa [(7,(.st [(.sc (.int .u64 y5)),(.sc (.int .u64 y6)),(.sc (.int .u64 y7)),(.sc (.int .u64 y8))]))]⟩
theorem Nh (fu:Nat)(call:Ah)(a0 a1:Int)(P3:Nat)(a2:List PV)(nn y0:Nat)(y1:List PV)(y2 y3:Int)(y4 y5:Int)(y6 y7 y8:Int):F2 fu call a0 a1 P3 a2 (nn+1) y0 y1 y2 y3 y4 y5 y6 y7 y8=(Cc (decide (y4<y3)) (Aa (wrap .i64 (8*y4)) fun x6=>Aa (wrap .i64 (8*y4)) fun x7=>Aa (wrap .i64 (x7+8)) fun x8=>Ao (decide (0<=x6))<|Ao (decide (0<=x8))<|Ao (decide (Int.toNat x6<=Int.toNat x8)&&decide (Int.toNat x8<=y0))<|Aa (Int.toNat x8-Int.toNat x6) fun x9=>Aa (List.take (x9*1) (List.drop (Int.toNat x6*1) y1)) fun Ix=>Aq (call 68 [.lst false 1 x9 Ix]) fun Ij Id=>Ai Id<|Ab Ij fun Ln Lj=>Al .u64 Ln fun Ll=>Ai Lj<|Aq (call 67 [.pbox [.sc (.int .u64 y5),.sc (.int .u64 y6),.sc (.int .u64 y7),.sc (.int .u64 y8)],.sc (.int .u64 Ll)]) fun Pn Qu=>Ai Pn<|Ab Qu fun Nn Hg=>Ab Nn fun Px P8=>Al .u64 Px fun Rh=>Ab P8 fun R6 Jy=>Al .u64 R6 fun Vs=>Ab Jy fun Tz Qk=>Al .u64 Tz fun CM=>Ab Qk fun BW Pa=>Al .u64 BW fun Q9=>Ai Pa<|Ai Hg<|Aa (wrap .i64 (y4+1)) fun Yu=>F2 fu call a0 a1 P3 a2 (nn) (y0) (y1) (y2) (y3) Yu Rh Vs CM Q9) (Aa (wrap .i64 (8*y2)) fun X4=>Ao (decide (0<=X4))<|Ao (decide (Int.toNat X4<=y0)&&decide (y0<=y0))<|Aa (y0-Int.toNat X4) fun Uo=>Aa (List.take (Uo*1) (List.drop (Int.toNat X4*1) y1)) fun Yw=>Aq (call 68 [.lst false 1 Uo Yw]) fun Wg S0=>Ai S0<|Ab Wg fun Y7 EB=>Al .u64 Y7 fun AO=>Ai EB<|Aa (wrap .u64 (↑y0:Int)) fun KB=>Aa (Hh .u64 KB 56) fun IE=>Aa (V9 .u64 AO IE) fun KT=>Aq (call 67 [.pbox [.sc (.int .u64 y5),.sc (.int .u64 y6),.sc (.int .u64 y7),.sc (.int .u64 y8)],.sc (.int .u64 KT)]) fun HX KQ=>Ai HX<|Ab KQ fun JU KR=>Ab JU fun JM JI=>Al .u64 JM fun Ys=>Ab JI fun HU LW=>Al .u64 HU fun ID=>Ab LW fun Vo DW=>Al .u64 Vo fun LA=>Ab DW fun JY EG=>Al .u64 JY fun IY=>Ai EG<|Ai KR<|Aa (Cq .u64 LA 255) fun FZ=>Aq (call 69 [.pbox [.sc (.int .u64 Ys),.sc (.int .u64 ID),.sc (.int .u64 FZ),.sc (.int .u64 IY)],.sc (.int .i64 4)]) fun Zg DY=>Ai Zg<|Ab DY fun RI DS=>Ab RI fun LU PW=>Al .u64 LU fun PG=>Ab PW fun OZ UW=>Al .u64 OZ fun TI=>Ab UW fun RC TX=>Al .u64 RC fun YD=>Ab TX fun PX PC=>Al .u64 PX fun WZ=>Ai PC<|Ai DS<|Aa (Cq .u64 PG TI) fun YJ=>Aa (Cq .u64 YJ YD) fun XA=>Aa (Cq .u64 XA WZ) fun YM=>some (Bc.mk [.sc (.int .u64 YM)] []))):=by kernel_rfl
theorem DN {xs:FuncId->Option (List PV->Option Bc)} (fu d:Nat)(a0 a1:Int)(P3:Nat)(a2:List PV):Ag (CX xs) prog fu (d+1) Rc [.sc (.int .u64 a0),.sc (.int .u64 a1),.lst false 1 P3 a2]=(fun (call:Ah)=>Aa (Cq .u64 a0 8317987319222330741) fun x1=>Aa (Cq .u64 a1 7237128888997146477) fun x2=>Aa (Cq .u64 a0 7816392313619706465) fun x3=>Aa (Cq .u64 a1 8387220255154660723) fun x4=>Aa (wrap .i64 (Int.tdiv (↑P3:Int) 8)) fun x5=>F2 fu call a0 a1 P3 a2 (fu) (P3) (a2) x5 x5 0 x1 x2 x3 x4) (Ag (CX xs) prog fu d):=by kernel_rfl
abbrev Rn:FuncId:=41
theorem CU {xs:FuncId->Option (List PV->Option Bc)} (fu d:Nat)(a0 a1:Int)(P3:Nat)(a2:List PV):Ag (CX xs) prog fu (d+1) Rn [.sc (.int .u64 a0),.sc (.int .i64 a1),.lst false 1 P3 a2]=(fun (call:Ah)=>Aa (wrap .u64 a1) fun x1=>Aa (wrap .u64 (1+x1)) fun x2=>Aq (call 58 [.sc (.int .u64 a0),.sc (.int .u64 x2),.lst false 1 P3 a2]) fun x3 x4=>Ai x4<|Ab x3 fun x5 x6=>Al .u64 x5 fun x7=>Ai x6<|some (Bc.mk [.sc (.int .u64 x7)] [])) (Ag (CX xs) prog fu d):=by kernel_rfl
abbrev J5:FuncId:=89
theorem Qz {xs:FuncId->Option (List PV->Option Bc)} (fu d:Nat)(a0 a1:Int):Ag (CX xs) prog fu (d+1) J5 [.sc (.int .u64 a0),.sc (.int .u64 a1)]=(fun (call:Ah)=>Ao (decide (0<=a1))<|Aa (Hh .u64 a0 a1) fun x1=>Aa (wrap .u64 (64-a1)) fun x2=>Ao (decide (0<=x2))<|Aa (Pp .u64 a0 x2) fun x3=>Aa (V9 .u64 x1 x3) fun x4=>some (Bc.mk [.sc (.int .u64 x4)] [])) (Ag (CX xs) prog fu d):=by kernel_rfl
abbrev Ji:FuncId:=81
theorem Ps {xs:FuncId->Option (List PV->Option Bc)} (fu d:Nat)(Gg Fz:Int)(Gd F3:Int):Ag (CX xs) prog fu (d+1) Ji [.agg [.sc (.int .u64 Gg),.sc (.int .u64 Fz),.sc (.int .u64 Gd),.sc (.int .u64 F3)]]=(fun (call:Ah)=>Aa (wrap .u64 (Gg+Fz)) fun x1=>Aq (call 89 [.sc (.int .u64 Fz),.sc (.int .u64 13)]) fun x2 x3=>Ai x3<|Ab x2 fun x4 x5=>Al .u64 x4 fun x6=>Ai x5<|Aa (Cq .u64 x6 x1) fun x7=>Aq (call 89 [.sc (.int .u64 x1),.sc (.int .u64 32)]) fun x8 x9=>Ai x9<|Ab x8 fun Ix Ij=>Al .u64 Ix fun Id=>Ai Ij<|Aa (wrap .u64 (Gd+F3)) fun Ln=>Aq (call 89 [.sc (.int .u64 F3),.sc (.int .u64 16)]) fun Lj Ll=>Ai Ll<|Ab Lj fun Pn Qu=>Al .u64 Pn fun Nn=>Ai Qu<|Aa (Cq .u64 Nn Ln) fun Hg=>Aa (wrap .u64 (Id+Hg)) fun Px=>Aq (call 89 [.sc (.int .u64 Hg),.sc (.int .u64 21)]) fun P8 Rh=>Ai Rh<|Ab P8 fun R6 Jy=>Al .u64 R6 fun Vs=>Ai Jy<|Aa (Cq .u64 Vs Px) fun Tz=>Aa (wrap .u64 (Ln+x7)) fun Qk=>Aq (call 89 [.sc (.int .u64 x7),.sc (.int .u64 17)]) fun CM BW=>Ai BW<|Ab CM fun Pa Q9=>Al .u64 Pa fun Yu=>Ai Q9<|Aa (Cq .u64 Yu Qk) fun X4=>Aq (call 89 [.sc (.int .u64 Qk),.sc (.int .u64 32)]) fun Uo Yw=>Ai Yw<|Ab Uo fun Wg S0=>Al .u64 Wg fun Y7=>Ai S0<|some (Bc.mk [.agg [.sc (.int .u64 Px),.sc (.int .u64 X4),.sc (.int .u64 Y7),.sc (.int .u64 Tz)]] [])) (Ag (CX xs) prog fu d):=by kernel_rfl
abbrev K5:FuncId:=65
noncomputable def Dj (fu:Nat)(call:Ah)(a0 a1:Int)(P3:Nat)(a2:List PV)(nn y0:Nat)(y1:List PV)(y2:Int)(y3:List PV):Option Bc:=Cl CB prog fu call 65 Try.f65 (Bm Try.f65) [.sc (.int .u64 a0),.sc (.int .u64 a1),.lst false 1 P3 a2] [.r,.r,.l,.r,.l] nn ⟨lk [(2,(.lst false 1 y0 y1)),(7,(.ptr 7 0)),(8,(.sc (.int .i64 y2)))],Fa [(7,(.ar false y3))]⟩
noncomputable def Cu (fu:Nat)(call:Ah)(a0 a1:Int)(P3:Nat)(a2:List PV)(m0 nn y0:Nat)(y1:List PV)(y2 y3 y4:Int)(y5:List PV):Option Bc:=Cl CB prog fu call 65 Try.f65 (Bm Try.f65) [.sc (.int .u64 a0),.sc (.int .u64 a1),.lst false 1 P3 a2] [.r,.r,.l,.r,.l,.i m0,.r,.l,.l,.r,.l,.r,.l] nn ⟨lk [(2,(.lst false 1 y0 y1)),(7,(.ptr 7 0)),(8,(.sc (.int .i64 y2))),(9,(.sc (.int .u64 y3))),(10,(.sc (.int .i64 y4)))],Fa [(7,(.ar false y5))]⟩
theorem In (fu:Nat)(call:Ah)(a0 a1:Int)(P3:Nat)(a2:List PV)(nn y0:Nat)(y1:List PV)(y2:Int)(y3:List PV):Dj fu call a0 a1 P3 a2 (nn+1) y0 y1 y2 y3=(Cc (decide (y2<=(↑y0:Int))) (Cu fu call a0 a1 P3 a2 nn (fu) (y0) (y1) (y2) 0 7 (y3)) (Al .u64 (List.getD y3 2 .top) fun x5=>Aa (Cq .u64 x5 255) fun x6=>Ao (decide (3<=y3.length))<|Aa (A2 y3 [.sc (.int .u64 x6)] 2) fun x7=>Al .u64 (List.getD x7 0 .top) fun x8=>Al .u64 (List.getD x7 1 .top) fun x9=>Al .u64 (List.getD x7 2 .top) fun Ix=>Al .u64 (List.getD x7 3 .top) fun Ij=>Aq (call 81 [.agg [.sc (.int .u64 x8),.sc (.int .u64 x9),.sc (.int .u64 Ix),.sc (.int .u64 Ij)]]) fun Id Ln=>Ai Ln<|Ab Id fun Lj Ll=>E7 Lj fun Pn=>Ab Pn fun Qu Nn=>Al .u64 Qu fun Hg=>Ab Nn fun Px P8=>Al .u64 Px fun Rh=>Ab P8 fun R6 Jy=>Al .u64 R6 fun Vs=>Ab Jy fun Tz Qk=>Al .u64 Tz fun CM=>Ai Qk<|Ai Ll<|Aq (call 81 [.agg [.sc (.int .u64 Hg),.sc (.int .u64 Rh),.sc (.int .u64 Vs),.sc (.int .u64 CM)]]) fun BW Pa=>Ai Pa<|Ab BW fun Q9 Yu=>E7 Q9 fun X4=>Ab X4 fun Uo Yw=>Al .u64 Uo fun Wg=>Ab Yw fun S0 Y7=>Al .u64 S0 fun EB=>Ab Y7 fun AO KB=>Al .u64 AO fun IE=>Ab KB fun KT HX=>Al .u64 KT fun KQ=>Ai HX<|Ai Yu<|Aq (call 81 [.agg [.sc (.int .u64 Wg),.sc (.int .u64 EB),.sc (.int .u64 IE),.sc (.int .u64 KQ)]]) fun JU KR=>Ai KR<|Ab JU fun JM JI=>E7 JM fun Ys=>Ab Ys fun HU LW=>Al .u64 HU fun ID=>Ab LW fun Vo DW=>Al .u64 Vo fun LA=>Ab DW fun JY EG=>Al .u64 JY fun IY=>Ab EG fun FZ Zg=>Al .u64 FZ fun DY=>Ai Zg<|Ai JI<|Aq (call 81 [.agg [.sc (.int .u64 ID),.sc (.int .u64 LA),.sc (.int .u64 IY),.sc (.int .u64 DY)]]) fun RI DS=>Ai DS<|Ab RI fun LU PW=>E7 LU fun PG=>Ab PG fun OZ UW=>Al .u64 OZ fun TI=>Ab UW fun RC TX=>Al .u64 RC fun YD=>Ab TX fun PX PC=>Al .u64 PX fun WZ=>Ab PC fun YJ XA=>Al .u64 YJ fun YM=>Ai XA<|Ai PW<|Ao (decide (4<=x7.length))<|Aa (A2 x7 [.sc (.int .u64 TI),.sc (.int .u64 YD),.sc (.int .u64 WZ),.sc (.int .u64 YM)] 0) fun WX=>Al .u64 (List.getD WX 0 .top) fun x81=>Al .u64 (List.getD WX 1 .top) fun ZF=>Aa (Cq .u64 x81 ZF) fun x83=>Al .u64 (List.getD WX 2 .top) fun x84=>Aa (Cq .u64 x83 x84) fun XB=>Al .u64 (List.getD WX 3 .top) fun x86=>Aa (Cq .u64 XB x86) fun x87=>some (Bc.mk [.sc (.int .u64 x87)] []))):=by kernel_rfl
theorem Ii (fu:Nat)(call:Ah)(a0 a1:Int)(P3:Nat)(a2:List PV)(m0 nn y0:Nat)(y1:List PV)(y2 y3 y4:Int)(y5:List PV):Cu fu call a0 a1 P3 a2 m0 (nn+1) y0 y1 y2 y3 y4 y5=(Cc (decide (y4>=0)) (Aa (wrap .i64 (y2+y4)) fun x88=>Cc (decide (x88<(↑y0:Int))) (Aa (wrap .i64 (y2+y4)) fun XH=>Ao (decide (0<=XH)&&decide (XH<(↑y0:Int)))<|Al .u8 (List.getD y1 (Int.toNat XH*1) .top) fun x90=>Aa (Hh .u64 y3 8) fun x91=>Aa (wrap .u64 x90) fun x92=>Aa (V9 .u64 x91 x92) fun x93=>Aa (wrap .i64 (y4-1)) fun x94=>Cu fu call a0 a1 P3 a2 m0 (nn) (y0) (y1) (y2) x93 x94 (y5)) (Cc (y4==7) (Aa (wrap .u8 (↑y0:Int)) fun x95=>Aa (Hh .u64 y3 8) fun x96=>Aa (wrap .u64 x95) fun x97=>Aa (V9 .u64 x96 x97) fun x98=>Aa (wrap .i64 (y4-1)) fun x99=>Cu fu call a0 a1 P3 a2 m0 (nn) (y0) (y1) (y2) x98 x99 (y5)) (Aa (Hh .u64 y3 8) fun SQ=>Aa (V9 .u64 SQ 0) fun VB=>Aa (wrap .i64 (y4-1)) fun VY=>Cu fu call a0 a1 P3 a2 m0 (nn) (y0) (y1) (y2) VB VY (y5)))) (Al .u64 (List.getD y5 3 .top) fun RL=>Aa (Cq .u64 RL y3) fun KY=>Ao (decide (4<=y5.length))<|Aa (A2 y5 [.sc (.int .u64 KY)] 3) fun Wi=>Al .u64 (List.getD Wi 0 .top) fun SM=>Al .u64 (List.getD Wi 1 .top) fun VF=>Al .u64 (List.getD Wi 2 .top) fun UU=>Al .u64 (List.getD Wi 3 .top) fun UB=>Aq (call 81 [.agg [.sc (.int .u64 SM),.sc (.int .u64 VF),.sc (.int .u64 UU),.sc (.int .u64 UB)]]) fun VW TJ=>Ai TJ<|Ab VW fun VR VC=>E7 VR fun UE=>Ab UE fun OE Adr=>Al .u64 OE fun Acb=>Ab Adr fun Aha Ad6=>Al .u64 Aha fun Ab3=>Ab Ad6 fun Ack Adp=>Al .u64 Ack fun Acf=>Ab Adp fun Ads Adl=>Al .u64 Ads fun Ab1=>Ai Adl<|Ai VC<|Aq (call 81 [.agg [.sc (.int .u64 Acb),.sc (.int .u64 Ab3),.sc (.int .u64 Acf),.sc (.int .u64 Ab1)]]) fun Ad5 Adk=>Ai Adk<|Ab Ad5 fun Adz Adt=>E7 Adz fun Add=>Ab Add fun Aea Adj=>Al .u64 Aea fun Aed=>Ab Adj fun Acl Acy=>Al .u64 Acl fun Adu=>Ab Acy fun Ad9 Ada=>Al .u64 Ad9 fun Agt=>Ab Ada fun Abv Ac5=>Al .u64 Abv fun Adm=>Ai Ac5<|Ai Adt<|Ao (decide (4<=Wi.length))<|Aa (A2 Wi [.sc (.int .u64 Aed),.sc (.int .u64 Adu),.sc (.int .u64 Agt),.sc (.int .u64 Adm)] 0) fun WG=>Al .u64 (List.getD WG 0 .top) fun Ade=>Aa (Cq .u64 Ade y3) fun Aci=>Ao (decide (1<=WG.length))<|Aa (A2 WG [.sc (.int .u64 Aci)] 0) fun Acw=>Aa (wrap .i64 (y2+8)) fun Adq=>Dj fu call a0 a1 P3 a2 (m0) (y0) (y1) Adq Acw)):=by kernel_rfl
theorem Sf {xs:FuncId->Option (List PV->Option Bc)} (fu d:Nat)(a0 a1:Int)(P3:Nat)(a2:List PV):Ag (CX xs) prog fu (d+1) K5 [.sc (.int .u64 a0),.sc (.int .u64 a1),.lst false 1 P3 a2]=(fun (call:Ah)=>Aa (Cq .u64 a0 8317987319222330741) fun x1=>Aa (Cq .u64 a1 7237128888997146477) fun x2=>Aa (Cq .u64 a0 7816392313619706465) fun x3=>Aa (Cq .u64 a1 8387220255154660723) fun x4=>Dj fu call a0 a1 P3 a2 (fu) (P3) (a2) 0 ([.sc (.int .u64 x1),.sc (.int .u64 x2),.sc (.int .u64 x3),.sc (.int .u64 x4)])) (Ag (CX xs) prog fu d):=by kernel_rfl
abbrev K9:FuncId:=48
theorem Rf {xs:FuncId->Option (List PV->Option Bc)} (fu d:Nat)(a0 a1:Int)(P3:Nat)(a2:List PV):Ag (CX xs) prog fu (d+1) K9 [.sc (.int .u64 a0),.sc (.int .i64 a1),.lst false 1 P3 a2]=(fun (call:Ah)=>Aa (wrap .u64 a1) fun x1=>Aa (wrap .u64 (1+x1)) fun x2=>Aq (call 65 [.sc (.int .u64 a0),.sc (.int .u64 x2),.lst false 1 P3 a2]) fun x3 x4=>Ai x4<|Ab x3 fun x5 x6=>Al .u64 x5 fun x7=>Ai x6<|some (Bc.mk [.sc (.int .u64 x7)] [])) (Ag (CX xs) prog fu d):=by kernel_rfl
abbrev D6:FuncId:=56
noncomputable def C4 (fu:Nat)(call:Ah)(Bf:Nat)(a0:List PV)(nn y0:Nat)(y1:List PV)(y2:Nat)(y3:Int)(y4:List PV):Option Bc:=Cl CB prog fu call 56 Try.f56 (Bm Try.f56) [.lst false 1 Bf a0] [.r,.r,.l,.r,.l] nn ⟨lk [(0,(.lst false 1 y0 y1)),(3,(.view 3 1 0 y2)),(4,(.sc (.int .i64 y3)))],Fa [(3,(.ar false y4))]⟩
noncomputable def Dw (fu:Nat)(call:Ah)(Bf:Nat)(a0:List PV)(m0 nn y0:Nat)(y1:List PV)(y2:Nat)(y3 y4:Int)(y5:List PV):Option Bc:=Cl CB prog fu call 56 Try.f56 (Bm Try.f56) [.lst false 1 Bf a0] [.r,.r,.l,.r,.l,.i m0,.r,.l,.l,.r,.l] nn ⟨lk [(0,(.lst false 1 y0 y1)),(3,(.view 3 1 0 y2)),(4,(.sc (.int .i64 y3))),(5,(.sc (.int .i64 y4)))],Fa [(3,(.ar false y5))]⟩
theorem G5 (fu:Nat)(call:Ah)(Bf:Nat)(a0:List PV)(nn y0:Nat)(y1:List PV)(y2:Nat)(y3:Int)(y4:List PV):C4 fu call Bf a0 (nn+1) y0 y1 y2 y3 y4=(Cc (decide (y3<(↑y0:Int))) (Dw fu call Bf a0 nn (fu) (y0) (y1) (y2) (y3) 7 (y4)) (Ao (decide (y2*1<=y4.length))<|some (Bc.mk [.own 1 y2 (List.take (y2*1) y4)] []))):=by kernel_rfl
theorem G9 (fu:Nat)(call:Ah)(Bf:Nat)(a0:List PV)(m0 nn y0:Nat)(y1:List PV)(y2:Nat)(y3 y4:Int)(y5:List PV):Dw fu call Bf a0 m0 (nn+1) y0 y1 y2 y3 y4 y5=(Cc (decide (y4>=0)) (Ao (decide (0<=y3)&&decide (y3<(↑y0:Int)))<|Al .u64 (List.getD y1 (Int.toNat y3*1) .top) fun x1=>Aa (wrap .i64 (8*y4)) fun x2=>Aa (wrap .u64 x2) fun x3=>Ao (decide (0<=x3))<|Aa (Pp .u64 x1 x3) fun x4=>Aa (wrap .u8 x4) fun x5=>Ao (decide (y2*1<=y5.length)&&true&&decide ((y2+1)*1<=1099511627776)&&decide (y2+1<=1099511627776))<|Aa (y2+1) fun x6=>Aa (List.take (y2*1) y5++[.sc (.int .u8 x5)]) fun x7=>Aa (wrap .i64 (y4-1)) fun x8=>Dw fu call Bf a0 m0 (nn) (y0) (y1) x6 (y3) x8 x7) (Aa (wrap .i64 (y3+1)) fun x9=>C4 fu call Bf a0 (m0) (y0) (y1) (y2) x9 (y5))):=by kernel_rfl
theorem Pr {xs:FuncId->Option (List PV->Option Bc)} (fu d Bf:Nat)(a0:List PV):Ag (CX xs) prog fu (d+1) D6 [.lst false 1 Bf a0]=(fun (call:Ah)=>C4 fu call Bf a0 (fu) (Bf) (a0) 0 0 ([])) (Ag (CX xs) prog fu d):=by kernel_rfl
end
section
open Go.IntKind (wrap)
def rot (x k:Int):Int:=V9 .u64 (Hh .u64 x k) (Pp .u64 x (64-k))
structure W4 where
 a:Int
 b:Int
 c:Int
 d:Int
def W4.cells (v:W4):List PV:=[.sc (.int .u64 v.a),.sc (.int .u64 v.b),.sc (.int .u64 v.c),.sc (.int .u64 v.d)]
def Aj4 (v:W4):W4:=⟨rot (wrap .u64 (v.a+v.b)) 32,Cq .u64 (rot v.b 13) (wrap .u64 (v.a+v.b)),wrap .u64 (v.c+v.d),Cq .u64 (rot v.d 16) (wrap .u64 (v.c+v.d))⟩
def Aij (v:W4):W4:=⟨wrap .u64 (v.a+v.d),Cq .u64 (rot v.b 17) (wrap .u64 (v.c+v.b)),rot (wrap .u64 (v.c+v.b)) 32,Cq .u64 (rot v.d 21) (wrap .u64 (v.a+v.d))⟩
def Ym (v:W4):W4:=Aij (Aj4 v)
def IR:Nat->W4->W4
 |0,v=>v
 |n+1,v=>IR n (Ym v)
def Ag0 (r:W4)(m:Int):W4:=⟨Cq .u64 r.a m,r.b,r.c,r.d⟩
def Mg (v:W4)(m:Int):W4:=Ag0 (IR 2 ⟨v.a,v.b,v.c,Cq .u64 v.d m⟩) m
def Lv:List Int->Int
 |[]=>0
 |b::r=>b+256*Lv r
def Y2:Nat->W4->List Int->W4
 |0,v,_=>v
 |n+1,v,l=>Y2 n (Mg v (Lv (l.take 8))) (l.drop 8)
def Adx (k0 k1:Int):W4:=⟨Cq .u64 k0 8317987319222330741,Cq .u64 k1 7237128888997146477,Cq .u64 k0 7816392313619706465,Cq .u64 k1 8387220255154660723⟩
def NT (v:W4):W4:=IR 4 ⟨v.a,v.b,Cq .u64 v.c 255,v.d⟩
def PQ (v:W4):Int:=Cq .u64 (Cq .u64 (Cq .u64 v.a v.b) v.c) v.d
def Jb (l:List Int):Int:=Lv (l.drop (8*(l.length / 8)))+72057594037927936*((l.length:Int) % 256)
def Ab6 (k0 k1:Int)(l:List Int):Int:=PQ (NT (Mg (Y2 (l.length / 8) (Adx k0 k1) l) (Jb l)))
def Qi (key dom:Int)(l:List Int):Int:=Ab6 key (wrap .u64 (1+wrap .u64 dom)) l
def Ny (l:List Int):Prop:=∀b∈l,0<=b∧b<=255
theorem Mo:∀{l:List Int},Ny l->0<=Lv l∧Lv l<256 ^ l.length
 |[],_=>by simp[Lv]
 |b::r,h=>by
  have h1:=h b (by simp)
  have h2:=Mo (l:=r) fun x hx=>h x (by simp[hx])
  have h3:(256:Int) ^ (b::r).length=256 ^ r.length*256:=by rw[LI,Int.pow_succ]
  simp only[Lv];omega
theorem Qo:∀(l r:List Int),Lv (l++r)=Lv l+256 ^ l.length*Lv r
 |[],r=>by simp[Lv]
 |b::l,r=>by
  have ih:=Qo l r;simp only[List.cons_append,Lv,LI,Int.pow_succ];rw[ih,Int.mul_add];have:(256:Int)*(256 ^ l.length*Lv r)=256 ^ l.length*256*Lv r:=by rw[←Int.mul_assoc,Int.mul_comm 256]
  omega
theorem BH {a c:Int}(k b:Nat)(h0:0<=a)(h1:a<((2 ^ k:Nat):Int)) (hc:c=((b*2 ^ k:Nat):Int)) (h:a+c<=18446744073709551615):V9 .u64 a c=a+c∧V9 .u64 c a=a+c:=by
 obtain⟨n,rfl⟩:=Int.eq_ofNat_of_zero_le h0;subst hc;have hn:n<2 ^ k:=by omega
 generalize hB:b*2 ^ k=m at h
 have e4:(BitVec.ofInt 64 (n:Int)).toNat=n:=by
  rw[BitVec.toNat_ofInt];omega
 have e5:(BitVec.ofInt 64 (m:Int)).toNat=m:=by
  rw[BitVec.toNat_ofInt];omega
 have e6:m ||| n=m+n:=by
  have:=Nat.shiftLeft_add_eq_or_of_lt hn b;rw[Nat.shiftLeft_eq,hB] at this;exact this.symm
 constructor
 ·show wrap .u64 ((BitVec.ofInt 64 (n:Int) ||| BitVec.ofInt 64 (m:Int)).toNat:Int)=_;rw[BitVec.toNat_or,e4,e5,Nat.or_comm,e6,Cj (by omega) (by omega)]
  omega
 ·show wrap .u64 ((BitVec.ofInt 64 (m:Int) ||| BitVec.ofInt 64 (n:Int)).toNat:Int)=_;rw[BitVec.toNat_or,e4,e5,e6,Cj (by omega) (by omega)]
  omega
theorem MQ {a k:Int}(h0:0<=a)(hk:0<=k)(Iy:k<=64)(h:a*((2 ^ k.toNat:Nat):Int)<=18446744073709551615):Hh .u64 a k=a*((2 ^ k.toNat:Nat):Int):=by
 show wrap .u64 (a*2 ^ (min k.toNat IntKind.u64.bits))=_;have e:min k.toNat IntKind.u64.bits=k.toNat:=Nat.min_eq_left (by show k.toNat<=64;omega)
 have e2:(2:Int) ^ k.toNat=((2 ^ k.toNat:Nat):Int):=by simp
 rw[e,e2,Cj (Int.mul_nonneg h0 (Int.natCast_nonneg _)) h]
end
end Go.Proofs.Yteicjnihnacadaa.Pv
