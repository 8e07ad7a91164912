/-
  The proof of AccountLeaves, part 3.
-/
import Derived.Test.YteicjnihnacadaaLB
import Derived.StillTail
import Derived.WalkKit
import Derived.ProofKit
import Derived.OpenShut
import Derived.ShutString
import Derived.ChangeOld
import Derived.Below
import Derived.Deep.Slices
import Derived.ChangeSame
import Derived.WideKeyArgs
import Derived.Carry
import Derived.Test.YteicjnihnacadaaRows
set_option linter.unusedSimpArgs false
set_option linter.unusedVariables false
namespace Go.Proofs.Yteicjnihnacadaa.Pv
section
section
variable {R R':Type} {Rel:Option R->Option R'->Prop}
theorem Fb (hn:Rel none none){k:IntKind}{p:PV}{K:Int->Option R}{K':Int->Option R'}(hK:∀n,Rel (K n) (K' n)):Rel (Ag k p K) (Ag k p K'):=by
 unfold Ag;split
 ·split<;>first|exact hK _|exact hn
 ·exact hn
theorem Ci (hn:Rel none none){p:PV}{K:IntKind->Int->Option R}{K':IntKind->Int->Option R'}(hK:∀k n,Rel (K k n) (K' k n)):Rel (B6 p K) (B6 p K'):=by
 unfold B6;split<;>first|exact hK _ _|exact hn
theorem Eg (hn:Rel none none){p:PV}{K:Bool->Option R}{K':Bool->Option R'}(hK:∀n,Rel (K n) (K' n)):Rel (A4 p K) (A4 p K'):=by
 unfold A4;split<;>first|exact hK _|exact hn
theorem Dw (hn:Rel none none){p:PV}{K:ByteArray->Option R}{K':ByteArray->Option R'}(hK:∀n,Rel (K n) (K' n)):Rel (E7 p K) (E7 p K'):=by
 unfold E7;split<;>first|exact hK _|exact hn
theorem Dj (hn:Rel none none){es:Nat}{p:PV}{K:Bool->Nat->List PV->Option R}{K':Bool->Nat->List PV->Option R'}(hK:∀z n c,Rel (K z n c) (K' z n c)):Rel (F3 es p K) (F3 es p K'):=by
 unfold F3;split
 ·rename_i es' _ _;cases Nat.beq es' es
  ·exact hn
  ·exact hK _ _ _
 ·exact hK _ _ _
 ·exact hn
theorem YD (hn:Rel none none){es:Nat}{p:PV}{K:PV->Option R}{K':PV->Option R'}(hK:∀p,Rel (K p) (K' p)):Rel (fsK es p K) (fsK es p K'):=by
 unfold fsK;split
 ·rename_i es' _ _;cases Nat.beq es' es
  ·exact hn
  ·exact hK _
 ·exact Dj hn fun _ _ _=>hK _
theorem KR (hn:Rel none none){es:Nat}{p:PV}{K:Nat->List PV->Option R}{K':Nat->List PV->Option R'}(hK:∀n c,Rel (K n c) (K' n c)):Rel (M4 es p K) (M4 es p K'):=by
 unfold M4;split
 ·rename_i es' _ _;cases Nat.beq es' es
  ·exact hn
  ·exact hK _ _
 ·exact hn
theorem An (hn:Rel none none){b:Bool}{K:Option R}{K':Option R'}(hK:b=true->Rel K K'):Rel (Ar b K) (Ar b K'):=by
 cases b
 ·exact hn
 ·exact hK rfl
theorem Uy {b:Bool}{x y:Option R}{x' y':Option R'}(hx:Rel x x')(hy:Rel y y'):Rel (Ca b x y) (Ca b x' y'):=by
 cases b
 ·exact hy
 ·exact hx
theorem B4 (hn:Rel none none){α:Type}{o:Option α}{K:α->Option R}{K':α->Option R'}(hK:∀a,o=some a->Rel (K a) (K' a)):Rel (Db o K) (Db o K'):=by
 cases o
 ·exact hn
 ·exact hK _ rfl
theorem Av (hn:Rel none none){α:Type}{l:List α}{K:α->List α->Option R}{K':α->List α->Option R'}(hK:∀a r,l=a::r->Rel (K a r) (K' a r)):Rel (Ab l K) (Ab l K'):=by
 cases l
 ·exact hn
 ·exact hK _ _ rfl
theorem C6 (hn:Rel none none){α:Type}{l:List α}{K:Option R}{K':Option R'}(hK:Rel K K'):Rel (Ah l K) (Ah l K'):=by
 cases l
 ·exact hK
 ·exact hn
theorem F8 (hn:Rel none none){p:PV}{K:List PV->Option R}{K':List PV->Option R'}(hK:∀c,p=.agg c->Rel (K c) (K' c)):Rel (D6 p K) (D6 p K'):=by
 unfold D6;split
 ·exact hK _ rfl
 ·exact hn
theorem OM (hn:Rel none none){p:PV}{K:List PV->Option R}{K':List PV->Option R'}(hK:∀c,Rel (K c) (K' c)):Rel (Qm p K) (Qm p K'):=by
 unfold Qm;split
 ·exact hK _
 ·exact hn
theorem Yf (hn:Rel none none){r:Option Be}{K:List PV->List (List PV)->Option R} {K':List PV->List (List PV)->Option R'} (hK:∀v o,Rel (K v o) (K' v o)):Rel (As r K) (As r K'):=by
 unfold As;split
 ·exact hK _ _
 ·exact hn
theorem MC (hn:Rel none none){p:PV}{K:Value->Option R}{K':Value->Option R'}(hK:∀v,Rel (K v) (K' v)):Rel (QO p K) (QO p K'):=by
 unfold QO;split
 ·exact hK _
 ·exact hn
theorem ZU (hn:Rel none none){p:PV}{K:FuncId->Option R}{K':FuncId->Option R'}(hK:∀v,Rel (K v) (K' v)):Rel (fvK p K) (fvK p K'):=by
 unfold fvK;split
 ·rename_i f a b;cases (a.isEmpty&&b.isEmpty)
  ·exact hn
  ·exact hK _
 ·exact hn
theorem Jz (hn:Rel none none){t:CT}{p:PV}{K:PV->Option R}{K':PV->Option R'}(hK:∀p,Rel (K p) (K' p)):Rel (Sk t p K) (Sk t p K'):=by
 unfold Sk;split
 ·exact Fb hn fun _=>hK _
 ·exact Eg hn fun _=>hK _
 ·exact Dw hn fun _=>hK _
 ·exact Dj hn fun _ _ _=>hK _
 ·exact MC hn fun _=>hK _
theorem Aaa (hn:Rel none none){t:CT}{p:PV}{K:PV->Option R}{K':PV->Option R'}(hK:∀p,Rel (K p) (K' p)):Rel (fcK t p K) (fcK t p K'):=by
 unfold fcK;split
 ·exact YD hn hK
 ·exact Jz hn hK
theorem Kn (hn:Rel none none):∀{ts:List CT}{cells:List PV}{off:Nat}{K:List PV->Option R}{K':List PV->Option R'},(∀c,Rel (K c) (K' c))->Rel (M0 ts cells off K) (M0 ts cells off K')
 |[],_,_,_,_,hK=>hK _
 |_::_,_,_,_,_,hK=>Jz hn fun _=>Kn hn fun _=>hK _
theorem I8 (hn:Rel none none):∀{ts:List CT}{cells:List PV}{off:Nat}{K:List PV->Option R}{K':List PV->Option R'},(∀c,Rel (K c) (K' c))->Rel (Kb ts cells off K) (Kb ts cells off K')
 |[],_,_,_,_,hK=>hK _
 |_::_,_,_,_,_,hK=>Aaa hn fun _=>I8 hn fun _=>hK _
theorem Rj (hn:Rel none none){g:Bool}{cells:List PV}{K:PV->Option R}{K':PV->Option R'}(hK:∀p,Rel (K p) (K' p)):Rel (LN g cells K) (LN g cells K'):=by
 cases g
 ·exact Av hn fun _ _ _=>C6 hn (hK _)
 ·exact hK _
theorem ZV (hn:Rel none none){P:Program}{t:TypeId}{v:Value}{K:PV->Option R}{K':PV->Option R'}(hK:∀p,A5 p=[]->Rel (K p) (K' p)) (hK':∀c,Rel (K (.agg c)) (K' (.agg c))):Rel (cvK P t v K) (cvK P t v K'):=by
 unfold cvK;split
 ·exact An hn fun _=>Kn hn fun _=>hK' _
 ·split
  ·exact hK _ rfl
  ·exact hn
 ·exact hK _ rfl
theorem VJ (hn:Rel none none){op:BinOp}{x y:Int}{K:Bool->Option R}{K':Bool->Option R'}(hK:∀n,Rel (K n) (K' n)):Rel (YT op x y K) (YT op x y K'):=by
 unfold YT;split<;>first|exact hK _|exact hn
theorem HD (hn:Rel none none){op:BinOp}{k:IntKind}{x y:Int}{K:PV->Option R}{K':PV->Option R'}(hK:∀n,Rel (K n) (K' n)):Rel (Vw op k x y K) (Vw op k x y K'):=by
 unfold Vw;split<;>first|exact hK _|exact An hn fun _=>hK _|exact VJ hn fun _=>hK _
theorem KJ (hn:Rel none none){op:BinOp}{x y:ByteArray}{K:PV->Option R}{K':PV->Option R'}(hK:∀n,Rel (K n) (K' n)):Rel (Vs op x y K) (Vs op x y K'):=by
 unfold Vs;split<;>first|exact hK _|exact An hn fun _=>hK _|exact hn
theorem Yp (hn:Rel none none){e:Bool}{p:PV}{K:PV->Option R}{K':PV->Option R'}(hK:∀n,Rel (K n) (K' n)):Rel (V9 e p K) (V9 e p K'):=by
 unfold V9;split<;>first|exact hK _|exact Uy (hK _) (Uy (hK _) (hK _))|exact Uy (hK _) (hK _)|exact hn
theorem GA (hn:Rel none none):∀{ts:List CT}{ps qs:List PV}{K:Bool->Option R}{K':Bool->Option R'},(∀b,Rel (K b) (K' b))->Rel (Hv ts ps qs K) (Hv ts ps qs K'):=by
 intro ts
 induction ts with
 |nil=>
  intro ps qs K K' hK;cases ps<;>cases qs<;>first|exact hK _|exact hn
 |cons t ts ih=>
  intro ps qs K K' hK;cases ps with
  |nil=>cases t<;>cases qs<;>exact hn
  |cons p ps=>
   cases qs with
   |nil=>cases t<;>exact hn
   |cons q qs=>
    cases t
    ·exact Fb hn fun _=>Fb hn fun _=>ih fun _=>hK _
    ·exact Eg hn fun _=>Eg hn fun _=>ih fun _=>hK _
    ·exact Dw hn fun _=>Dw hn fun _=>ih fun _=>hK _
    ·exact hn
    ·exact hn
theorem TL (hn:Rel none none){P:Program}{op:BinOp}{t:TypeId}{x y:PV}{K:PV->Option R}{K':PV->Option R'}(hK:∀p,Rel (K p) (K' p)):Rel (VQ P op t x y K) (VQ P op t x y K'):=by
 unfold VQ;split
 ·split
  ·exact Fb hn fun _=>Ci hn fun _ _=>An hn fun _=>hK _
  ·exact Fb hn fun _=>Ci hn fun _ _=>An hn fun _=>hK _
  ·exact Fb hn fun _=>Fb hn fun _=>HD hn hK
 ·exact Dw hn fun _=>Dw hn fun _=>KJ hn hK
 ·split
  ·exact Eg hn fun _=>Eg hn fun _=>hK _
  ·exact Eg hn fun _=>Eg hn fun _=>hK _
  ·exact hn
 ·split
  ·exact Yp hn fun _=>hK _
  ·exact Yp hn fun _=>hK _
  ·exact hn
 ·exact hn
theorem DV (hn:Rel none none){P:Program}{op:BinOp}{t:TypeId}{x y:PV}{K:PV->Option R}{K':PV->Option R'}(hK:∀p,Rel (K p) (K' p)):Rel (N4 P op t x y K) (N4 P op t x y K'):=by
 unfold N4;split
 ·split
  ·exact An hn fun _=>F8 hn fun _ _=>F8 hn fun _ _=>GA hn fun _=>hK _
  ·exact An hn fun _=>F8 hn fun _ _=>F8 hn fun _ _=>GA hn fun _=>hK _
  ·exact hn
 ·exact TL hn hK
theorem ZJ (hn:Rel none none){op:UnOp}{x:PV}{K:PV->Option R}{K':PV->Option R'}(hK:∀p,Rel (K p) (K' p)):Rel (unK op x K) (unK op x K'):=by
 unfold unK;split<;>first|exact Eg hn fun _=>hK _|exact Ci hn fun _ _=>hK _|exact hn
theorem Cf (hn:Rel none none){p:Option PV}{d:Nat}{K:Nat->Option R}{K':Nat->Option R'}(hK:∀n,Rel (K n) (K' n)):Rel (El p d K) (El p d K'):=by
 unfold El;split
 ·exact hK _
 ·exact Ci hn fun _ _=>An hn fun _=>hK _
theorem Sc (hn:Rel none none){x:PV}{d:Nat}{K:PV->Option R}{K':PV->Option R'}(hK:∀n,Rel (K n) (K' n)):Rel (My x d K) (My x d K'):=by
 unfold My;split<;>first|exact hK _|exact hn
theorem Vr (hn:Rel none none){P:Program}{t:TypeId}{x:PV}{i:Int}{K:PV->Option R}{K':PV->Option R'}(hK:∀p,Rel (K p) (K' p)):Rel (Ha P t x i K) (Ha P t x i K'):=by
 unfold Ha;split
 ·exact An hn fun _=>An hn fun _=>Sc hn hK
 ·refine An hn fun _=>?_
  split
  ·exact An hn fun _=>An hn fun _=>hK _
  ·exact Dj hn fun _ _ _=>An hn fun _=>hK _
 ·exact hn
theorem Si (hn:Rel none none){Ea:Nat->Option (Nat × Nat)}:∀{ps:List (Nat × PV)} {cells:List PV}{K:List PV->Option R}{K':List PV->Option R'},(∀c,Rel (K c) (K' c))->Rel (M1 Ea ps cells K) (M1 Ea ps cells K')
 |[],_,_,_,hK=>hK _
 |(_,_)::_,_,_,_,hK=>B4 hn fun _ _=>An hn fun _=>Si hn hK
theorem Mp (hn:Rel none none){P:Program}{t:TypeId}{K:List PV->Option R}{K':List PV->Option R'}(hK:∀p,Rel (K p) (K' p)):Rel (En P t K) (En P t K'):=
 B4 hn fun _ _=>An hn fun _=>Kn hn hK
theorem UT (hn:Rel none none){x y:PV}{K:PV->Option R}{K':PV->Option R'}(hK:∀p,Rel (K p) (K' p)):Rel (ZC x y K) (ZC x y K'):=
 Ci hn fun _ _=>Fb hn fun _=>hK _
theorem RE (hn:Rel none none){x y:PV}{K:PV->Option R}{K':PV->Option R'}(hK:∀p,Rel (K p) (K' p)):Rel (XB x y K) (XB x y K'):=
 Ci hn fun _ _=>Fb hn fun _=>hK _
theorem RA (hn:Rel none none){P:Program}{t:TypeId}{x:PV}{K:Nat->Option R}{K':Nat->Option R'}(hK:∀p,Rel (K p) (K' p)):Rel (PM P t x K) (PM P t x K'):=by
 unfold PM;split
 ·exact Dw hn fun _=>hK _
 ·exact hK _
 ·split
  ·exact An hn fun _=>hK _
  ·exact Dj hn fun _ _ _=>hK _
 ·exact hn
def CO (Rel:Option R->Option R'->Prop)(f f':Nat->Option (List PV)) (l:List Nat):Prop:=∀i∈l,f i=f' i∨(f i=none∧∀b,Rel none b)
variable {f f':Nat->Option (List PV)}
theorem CO.sub {l l':List Nat}(h:CO Rel f f' l)(hs:∀i∈l',i∈l):CO Rel f f' l':=fun i hi=>h i (hs i hi)
theorem Ro (hn:Rel none none){l:List Nat}{id:Nat}(hf:CO Rel f f' l)(hi:id∈l){K:List PV->Option R}{K':List PV->Option R'}(hK:∀c,f id=some c->Rel (K c) (K' c)):Rel (Db (f id) K) (Db (f' id) K'):=by
 rcases hf id hi with h|⟨h,hb⟩
 ·rw[←h];exact B4 hn hK
 ·rw[h];exact hb _
theorem Q8 (hn:Rel none none){es:Nat}{p:PV}{K:Nat->List PV->Option R}{K':Nat->List PV->Option R'}(hf:CO Rel f f' (Ai p)) (hK:∀n c,Rel (K n c) (K' n c)):Rel (IW f es p K) (IW f' es p K'):=by
 unfold IW;split
 ·rename_i id es' off n;cases Nat.beq es' es
  ·exact hn
  ·exact Ro hn hf (by simp[Ai]) fun _ _=>An hn fun _=>hK _ _
 ·exact Dj hn fun _ _ _=>hK _ _
theorem SG (hn:Rel none none){t:CT}{p:PV}{K:PV->List Nat->Option R}{K':PV->List Nat->Option R'}(hf:CO Rel f f' (Ai p)) (hK:∀c m,(∀i∈m,f i≠none)->Rel (K c m) (K' c m)):Rel (Jn f t p K) (Jn f' t p K'):=by
 unfold Jn;split
 ·split
  ·rename_i id es' off n;cases Nat.beq es' _
   ·exact hn
   ·exact Ro hn hf (by simp[Ai]) fun c hc=>An hn fun _=>hK _ _ (by simp[hc])
  ·exact Dj hn fun _ _ _=>hK _ _ (by simp)
 ·exact Jz hn fun _=>hK _ _ (by simp)
theorem Nu (hn:Rel none none):∀{ts:List CT}{ps:List PV}{K:List PV->List Nat->Option R}{K':List PV->List Nat->Option R'},CO Rel f f' (ps.flatMap Ai)->(∀c m,(∀i∈m,f i≠none)->Rel (K c m) (K' c m))->Rel (I7 f ts ps K) (I7 f' ts ps K')
 |[],[],_,_,_,hK=>hK _ _ (by simp)
 |[],_::_,_,_,_,_=>hn
 |_::_,[],_,_,_,_=>hn
 |_::_,p::ps,_,_,hf,hK=>SG hn (fun i hi=>hf i (by simp only[List.flatMap_cons,List.mem_append];exact .inl hi)) fun _ m hm=>Nu hn (fun i hi=>hf i (by simp only[List.flatMap_cons,List.mem_append];exact .inr hi)) fun _ ms Xc=>hK _ _ fun i hi=>by
   rcases List.mem_append.1 hi with h|h
   ·exact hm i h
   ·exact Xc i h
theorem TN (hn:Rel none none){P:Program}{t:TypeId}{p:PV}{K:PV->List Nat->Option R}{K':PV->List Nat->Option R'}(hf:CO Rel f f' (Bf p)) (hK:∀c m,(∀i∈m,f i≠none)->Rel (K c m) (K' c m)):Rel (HC P f t p K) (HC P f' t p K'):=by
 unfold HC
 have h1:∀i,i∈[p].flatMap Ai->i∈Bf p:=by
  intro i hi;simp only[List.flatMap_cons,List.flatMap_nil,List.append_nil] at hi;cases p<;>first|exact hi|simp[Ai] at hi
 cases A8 P t
 ·exact Nu hn (fun i hi=>hf i (h1 i hi)) fun _ _ hm=>Av hn fun _ _ _=>C6 hn (hK _ _ hm)
 ·refine F8 hn fun c hc=>?_
  subst hc;exact Nu hn (fun i hi=>hf i hi) fun _ _ hm=>hK _ _ hm
theorem Zq (hn:Rel none none){P:Program}:∀{ts:List TypeId}{ps:List PV}{K:List PV->List Nat->Option R}{K':List PV->List Nat->Option R'},CO Rel f f' (ps.flatMap Bf)->(∀c m,(∀i∈m,f i≠none)->Rel (K c m) (K' c m))->Rel (Wz P f ts ps K) (Wz P f' ts ps K')
 |[],[],_,_,_,hK=>hK _ _ (by simp)
 |[],_::_,_,_,_,_=>hn
 |_::_,[],_,_,_,_=>hn
 |_::_,p::ps,_,_,hf,hK=>TN hn (fun i hi=>hf i (by simp only[List.flatMap_cons,List.mem_append];exact .inl hi)) fun _ m hm=>Zq hn (fun i hi=>hf i (by simp only[List.flatMap_cons,List.mem_append];exact .inr hi)) fun _ ms Xc=>hK _ _ fun i hi=>by
   rcases List.mem_append.1 hi with h|h
   ·exact hm i h
   ·exact Xc i h
theorem HM (hn:Rel none none){P:Program}{t:TypeId}{x:PV}{lo hi:Option PV}{K:PV->Option R}{K':PV->Option R'}(hf:(∃n e,P.underlying t=some (.array n e))->CO Rel f f' (Ai x)) (hK:∀c,Rel (K c) (K' c)):Rel (Sb P f t x lo hi K) (Sb P f' t x lo hi K'):=by
 unfold Sb;split
 ·exact Dw hn fun _=>Cf hn fun _=>Cf hn fun _=>An hn fun _=>hK _
 ·refine An hn fun _=>?_
  split
  ·exact An hn fun _=>Cf hn fun _=>Cf hn fun _=>An hn fun _=>hK _
  ·exact Dj hn fun _ _ _=>Cf hn fun _=>Cf hn fun _=>An hn fun _=>hK _
 ·rename_i n e hu;refine An hn fun _=>?_
  split
  ·rename_i id off;exact Ro hn (hf ⟨_,_,hu⟩) (by simp[Ai]) fun _ _=>An hn fun _=>Cf hn fun _=>Cf hn fun _=>An hn fun _=>hK _
  ·exact hn
 ·exact hn
theorem FD (hn:Rel none none){P:Program}{d:Nat}{t:TypeId}{x:PV}{lo hi mx:Option PV}{K:PV->List (Nat × A1)->Option R} {K':PV->List (Nat × A1)->Option R'} (hK:∀c,Rel (K c [(d,.ar false [])]) (K' c [(d,.ar false [])])):Rel (Nx P d t x lo hi mx K) (Nx P d t x lo hi mx K'):=by
 unfold Nx;split
 ·refine An hn fun _=>?_
  split
  ·exact An hn fun _=>Cf hn fun _=>Cf hn fun _=>Cf hn fun _=>An hn fun _=>hK _
  ·exact Dj hn fun _ _ _=>Cf hn fun _=>Cf hn fun _=>Cf hn fun _=>An hn fun _=>hK _
 ·exact hn
theorem Yq {nz:Bool}{g g':Nat->Option (List PV)} (hn:Rel none none){P:Program}{t:TypeId}{x:PV}{K:PV->Option R}{K':PV->Option R'}(hf:∀i∈Ai x,(f i=f' i∧g i=g' i)∨(f i=none∧g i=none∧∀b,Rel none b)) (hK:∀c,Rel (K c) (K' c)):Rel (P9 nz P f g t x K) (P9 nz P f' g' t x K'):=by
 unfold P9;split
 ·rename_i id off;refine An hn fun _=>?_
  rcases hf id (by simp[Ai]) with⟨h1,h2⟩|⟨h1,h2,h3⟩
  ·rw[←h1,←h2];split
   ·exact Kn hn fun _=>Rj hn fun _=>hK _
   ·exact B4 hn fun _ _=>I8 hn fun _=>Rj hn hK
  ·rw[h1,h2];exact h3 _
 ·exact An hn fun _=>Kn hn fun _=>Rj hn fun _=>hK _
 ·exact hn
theorem MS (hn:Rel none none){P:Program}{d:Nat}{src dst:TypeId}{x:PV}{K:PV->List (Nat × A1)->Option R} {K':PV->List (Nat × A1)->Option R'} (hf:P.underlying dst=some .string->CO Rel f f' (Ai x)) (hK:∀v b,(∀q∈b,q.1=d)->Rel (K v b) (K' v b)):Rel (Wm P f d src dst x K) (Wm P f' d src dst x K'):=by
 unfold Wm;split
 ·exact An hn fun _=>Ci hn fun _ _=>hK _ _ (by simp)
 ·rename_i hds;split
  ·exact Dw hn fun _=>hK _ _ (by simp)
  ·split
   ·exact Q8 hn (hf hds) fun _ _=>An hn fun _=>B4 hn fun _ _=>hK _ _ (by simp)
   ·exact hn
  ·exact hn
 ·split
  ·exact Dw hn fun _=>An hn fun _=>hK _ _ (by simp)
  ·exact hn
 ·exact hn
theorem SA (hn:Rel none none){shr:Bool}{id:Nat}{t:CT}{p:PV}{K:PV->List (Nat × A1)->Option R} {K':PV->List (Nat × A1)->Option R'} (hK:∀c b,(∀q∈b,q.1=id)->Rel (K c b) (K' c b)):Rel (RC shr id t p K) (RC shr id t p K'):=by
 unfold RC;split
 ·cases shr
  ·exact KR hn fun _ _=>hK _ _ (by simp)
  ·exact Dj hn fun _ _ _=>hK _ _ (by simp)
 ·exact Jz hn fun _=>hK _ _ (by simp)
theorem N1 (hn:Rel none none){shr:Bool}{N:Nat}:∀{ts:List CT}{id:Nat}{ps:List PV}{K:List PV->List (Nat × A1)->Option R} {K':List PV->List (Nat × A1)->Option R'},(∀c b,(∀q∈b,∃j,q.1=id+N*j)->Rel (K c b) (K' c b))->Rel (K3 shr N id ts ps K) (K3 shr N id ts ps K')
 |[],_,_,_,_,hK=>C6 hn (hK _ _ (by simp))
 |_::_,id,_,_,_,hK=>Av hn fun _ _ _=>SA hn fun _ b hb=>N1 hn fun _ bs Xg=>hK _ _ fun q hq=>by
   rcases List.mem_append.1 hq with h|h
   ·exact⟨0,by rw[hb q h];simp⟩
   ·obtain⟨j,hj⟩:=Xg q h;exact⟨j+1,by rw[hj,Nat.mul_add];omega⟩
theorem RB (hn:Rel none none){P:Program}{shr:Bool}{N id:Nat}{t:TypeId}{p:PV}{K:PV->List (Nat × A1)->Option R} {K':PV->List (Nat × A1)->Option R'} (hK:∀c b,(∀q∈b,∃j,q.1=id+N*j)->Rel (K c b) (K' c b)):Rel (NK P shr N id t p K) (NK P shr N id t p K'):=by
 unfold NK;split
 ·refine OM hn fun ps=>N1 hn fun _ _ hb=>hK _ _ fun q hq=>?_
  rcases List.mem_cons.1 hq with rfl|hq
  ·exact⟨0,by simp⟩
  ·obtain⟨j,hj⟩:=hb q hq;exact⟨j+1,by rw[hj,Nat.mul_add];omega⟩
 cases A8 P t
 ·exact N1 hn fun _ _ hb=>Av hn fun _ _ _=>C6 hn (hK _ _ hb)
 ·exact F8 hn fun _ _=>N1 hn fun _ _ hb=>hK _ _ hb
theorem R6 (hn:Rel none none){P:Program}{shr:Bool}{N:Nat}:∀{ts:List TypeId}{id:Nat}{ps:List PV}{K:List PV->List (Nat × A1)->Option R} {K':List PV->List (Nat × A1)->Option R'},(∀c b,(∀q∈b,∃j,q.1=id+N*j)->Rel (K c b) (K' c b))->Rel (Tk P shr N id ts ps K) (Tk P shr N id ts ps K')
 |[],_,_,_,_,hK=>C6 hn (hK _ _ (by simp))
 |t::_,id,_,_,_,hK=>Av hn fun _ _ _=>RB hn fun _ b hb=>R6 hn fun _ bs Xg=>hK _ _ fun q hq=>by
   rcases List.mem_append.1 hq with h|h
   ·exact hb q h
   ·obtain⟨j,hj⟩:=Xg q h;exact⟨EN P t+j,by rw[hj,Nat.mul_add];omega⟩
end
theorem Nd {p:PV}{i:Nat}(h:i∈Ai p):i∈Bf p:=by cases p<;>first|exact h|simp[Ai] at h
theorem Dm {p:PV}{i:Nat}(h:i∈Bf p):i∈A5 p:=by cases p<;>first|exact h|simp[Bf,Ai] at h
theorem G8 {p:PV}{i:Nat}(h:i∈Ai p):i∈A5 p:=Dm (Nd h)
section
variable {R R':Type} {Rel:Option R->Option R'->Prop} {P:Program} {N:Nat} {tm tm':Nat->PV} {f f' g g':Nat->Option (List PV)} {o:Oper}
theorem W6 (hn:Rel none none){t:TypeId}{x:Operand}{K:PV->Option R}{K':PV->Option R'}(hx:A7 tm x=A7 tm' x)(hK:∀p,Rel (K p) (K' p)):Rel (R1 P t tm x K) (R1 P t tm' x K'):=by
 unfold R1;split
 ·exact ZV hn (fun _ _=>hK _) (fun _=>hK _)
 ·rw[hx];exact hK _
theorem VG (hn:Rel none none){t:CT}{p:PV}{K:PV->Option R}{K':PV->Option R'}(hK:∀p,Ai p=[]->Rel (K p) (K' p)):Rel (Sk t p K) (Sk t p K'):=by
 unfold Sk;split
 ·exact Fb hn fun _=>hK _ rfl
 ·exact Eg hn fun _=>hK _ rfl
 ·exact Dw hn fun _=>hK _ rfl
 ·exact Dj hn fun _ _ _=>hK _ rfl
 ·exact MC hn fun _=>hK _ rfl
theorem Y7 (hn:Rel none none):∀{ts:List CT}{cells:List PV}{off:Nat}{K:List PV->Option R}{K':List PV->Option R'},(∀c,(∀p∈c,Ai p=[])->Rel (K c) (K' c))->Rel (M0 ts cells off K) (M0 ts cells off K')
 |[],_,_,_,_,hK=>hK _ (by simp)
 |_::_,_,_,_,_,hK=>VG hn fun c hc=>Y7 hn fun cs O6=>hK _ (by
   intro p hp;rcases List.mem_cons.1 hp with h|h
   ·rw[h];exact hc
   ·exact O6 p h)
theorem Qr (hn:Rel none none){t:TypeId}{K:List PV->Option R}{K':List PV->Option R'}(hK:∀c,(∀p∈c,Ai p=[])->Rel (K c) (K' c)):Rel (En P t K) (En P t K'):=
 B4 hn fun _ _=>An hn fun _=>Y7 hn hK
theorem M5 {p c:PV}(h:c∈cellsOf p){i:Nat}(hi:i∈Ai c):i∈Bf p:=by
 unfold cellsOf at h;split at h
 ·exact List.mem_flatMap.2 ⟨c,h,hi⟩
 ·simp at h;subst h;exact Nd hi
theorem HL {cells new:List PV}{off:Nat}{c:PV}(h:c∈A0 cells new off):c∈cells∨c∈new:=by
 unfold A0 at h;rcases List.mem_append.1 h with h|h
 ·rcases List.mem_append.1 h with h|h
  ·exact .inl (List.mem_of_mem_take h)
  ·exact .inr h
 ·exact .inl (List.mem_of_mem_drop h)
theorem Ve (hn:Rel none none){Ea:Nat->Option (Nat × Nat)} {S:Nat->Prop}:∀{ps:List (Nat × PV)} {cells:List PV}{K:List PV->Option R}{K':List PV->Option R'},(∀c∈cells,∀i∈Ai c,S i)->(∀q∈ps,∀i∈Bf q.2,S i) ->
  (∀cs,(∀c∈cs,∀i∈Ai c,S i)->Rel (K cs) (K' cs))->Rel (M1 Ea ps cells K) (M1 Ea ps cells K')
 |[],_,_,_,h1,_,hK=>hK _ h1
 |(_,p)::_,_,_,_,h1,h2,hK=>B4 hn fun _ _=>An hn fun _=>Ve hn (fun c hc i hi=>by
   rcases HL hc with h|h
   ·exact h1 c h i hi
   ·exact h2 (_,p) List.mem_cons_self i (M5 h hi)) (fun q hq=>h2 q (List.mem_cons_of_mem _ hq)) hK
theorem Td (hn:Rel none none):∀{ts:List CT}{ps:List PV}{K:List PV->List Nat->Option R}{K':List PV->List Nat->Option R'},(∀t∈ts,∀es,t ≠ .sl es)->(∀c,Rel (K c []) (K' c []))->Rel (I7 g ts ps K) (I7 g' ts ps K')
 |[],[],_,_,_,hK=>hK _
 |[],_::_,_,_,_,_=>hn
 |_::_,[],_,_,_,_=>hn
 |t::ts,p::ps,K,K',ht,hK=>by
  show Rel (Jn g t p _) (Jn g' t p _)
  have:∀{g:Nat->Option (List PV)} {S:Type} {L:PV->List Nat->Option S},Jn g t p L=Sk t p fun c=>L c []:=by
   intro g S L;cases t with
   |sl es=>exact absurd rfl (ht _ (by simp) es)
   |_=>rfl
  rw[this,this];exact Jz hn fun c=>Td hn (fun t h=>ht t (by simp[h])) fun cs=>hK _
theorem VU (hn:Rel none none){es:Nat}{t:TypeId}{x:PV}{K:Nat->List PV->Option R}{K':Nat->List PV->Option R'}(hx:CO Rel g g' (Ai x)) (hK:∀m c,Rel (K m c) (K' m c)):Rel (IY P g es t x K) (IY P g' es t x K'):=by
 unfold IY;split
 ·exact An hn fun _=>Dw hn fun _=>hK _ _
 ·exact Q8 hn hx hK
 ·exact hn
theorem TD (hn:Rel none none){t:TypeId}{x:PV}{K:Nat->Option R}{K':Nat->Option R'}(hK:∀n,Rel (K n) (K' n)):Rel (OV P t x K) (OV P t x K'):=by
 unfold OV;split
 ·exact Dj hn fun _ _ _=>An hn fun _=>hK _
 ·exact hn
theorem GO (hn:Rel none none){d:Nat}{t tx:TypeId}{x:PV}{K:PV->List (Nat × A1)->Option R} {K':PV->List (Nat × A1)->Option R'} (hx:CO Rel g g' (Ai x)) (hK:∀v nw,Rel (K v nw) (K' v nw)):Rel (N9 P g d t tx x K) (N9 P g' d t tx x K'):=by
 unfold N9;split
 ·exact An hn fun _=>VU hn hx fun _ _=>An hn fun _=>hK _ _
 ·exact hn
theorem Wy (hn:Rel none none){C:Et}{call:Aj}{K:PV->List Nat->List (Nat × A1)->Option R} {K':PV->List Nat->List (Nat × A1)->Option R'}
  (Gv:∀x∈o.op.operands.toList,A7 tm x=A7 tm' x)
  (hfg:Ez P o.op=true->∀x∈o.op.operands.toList,∀i∈A5 (A7 tm' x),(f i=f' i∧g i=g' i)∨(f i=none∧g i=none∧∀b,Rel none b))
  (hK:∀v fz nw,(Ez P o.op=false->fz=[]∧∀q∈nw,o.dst=some q.1)->(∀i∈fz,g i≠none)->Rel (K v fz nw) (K' v fz nw)):
  Rel (V0 C P N call tm f g o K) (V0 C P N call tm' f' g' o K'):=by
 have h0:∀v,Rel (K v [] []) (K' v [] []):=fun v=>hK v [] [] (fun _=>⟨rfl,by simp⟩) (by simp)
 have hf:Ez P o.op=true->∀x∈o.op.operands.toList,CO Rel f f' (A5 (A7 tm' x)):=fun h x hx i hi=>(hfg h x hx i hi).imp (·.1) fun h=>⟨h.1,h.2.2⟩
 have hg:Ez P o.op=true->∀x∈o.op.operands.toList,CO Rel g g' (A5 (A7 tm' x)):=fun h x hx i hi=>(hfg h x hx i hi).imp (·.2) fun h=>⟨h.2.1,h.2.2⟩
 unfold V0;generalize QM:o.op=op at *
 split
 ·exact W6 hn (Gv _ (by simp[Op.operands])) h0
 ·exact W6 hn (Gv _ (by simp[Op.operands])) h0
 ·rename_i c x y;rw[Gv c (by simp[Op.operands]),Gv x (by simp[Op.operands]),Gv y (by simp[Op.operands])]
  exact Eg hn fun _=>Uy (h0 _) (h0 _)
 ·exact B4 hn fun d hd=>Mp hn fun _=>hK _ _ _ (fun _=>⟨rfl,by simp[hd]⟩) (by simp)
 ·rename_i t x;rw[Gv x (by simp[Op.operands])]
  refine B4 hn fun d hd=>An hn fun _=>?_
  cases M8 P t
  ·exact I8 hn fun _=>hK _ _ _ (fun _=>⟨rfl,by simp[hd]⟩) (by simp)
  ·exact Kn hn fun _=>hK _ _ _ (fun _=>⟨rfl,by simp[hd]⟩) (by simp)
 ·rename_i t ps
  have:(ps.toList.map fun q=>(q.1,A7 tm q.2))=ps.toList.map fun q=>(q.1,A7 tm' q.2):=by
   apply List.map_congr_left;intro q hq;rw[Gv q.2 (by simp only[Op.operands];exact List.mem_map_of_mem hq)]
  rw[this];exact An hn fun _=>Mp hn fun _=>Si hn fun _=>I8 hn fun _=>h0 _
 ·rename_i t n ps
  have:(ps.toList.map fun q=>(q.1,A7 tm q.2))=ps.toList.map fun q=>(q.1,A7 tm' q.2):=by
   apply List.map_congr_left;intro q hq;rw[Gv q.2 (by simp only[Op.operands];exact List.mem_map_of_mem hq)]
  rw[this];refine B4 hn fun d hd=>?_
  split
  ·rename_i e hu;cases ET:F6 P [e]
   ·refine An hn fun _=>Qr hn fun z hz=>Si hn fun cs=>Td hn ?_ fun cs'=>hK _ _ _ (fun _=>⟨rfl,by simp[hd]⟩) (by simp)
    intro c hc es he;obtain⟨l,hl,hc⟩:=List.mem_flatten.1 hc;rw[List.eq_of_mem_replicate hl] at hc;subst he
    have:F6 P [e]=true:=by
     unfold F6;simp only[List.any_cons,List.any_nil,Bool.or_false,Bool.or_eq_true];exact .inr (List.any_eq_true.2 ⟨_,hc,rfl⟩)
    rw[this] at ET;cases ET
   refine An hn fun _=>Qr hn fun z hz=>Ve (S:=fun i=>∃x∈(Op.buildSlice t n ps).operands.toList,i∈A5 (A7 tm' x)) hn ?_ ?_ fun cs O6=>?_
   ·intro c hc i hi;obtain⟨l,hl,hc⟩:=List.mem_flatten.1 hc;rw[List.eq_of_mem_replicate hl] at hc;rw[hz c hc] at hi;simp at hi
   ·intro q hq i hi;obtain⟨q',Dp,rfl⟩:=List.mem_map.1 hq;exact⟨q'.2,by simp only[Op.operands];exact List.mem_map_of_mem Dp,Dm hi⟩
   ·refine Nu hn (fun i hi=>?_) fun cs' m hm=>hK _ _ _ (fun h=>by simp[Ez,hu,ET] at h) hm
    obtain⟨c,hc,hi⟩:=List.mem_flatMap.1 hi;obtain⟨x,hx,hxi⟩:=O6 c hc i hi;exact hg (by simp[Ez,hu,ET]) x hx i hxi
  ·exact hn
 ·rename_i t x;rw[Gv x (by simp[Op.operands])]
  exact Yq hn (fun i hi=>hfg (by simp[Ez]) x (by simp[Op.operands]) i (G8 hi)) h0
 ·rename_i x;rw[Gv x (by simp[Op.operands])]
  exact Sc hn h0
 ·rename_i op' t x y _;rw[Gv x (by simp[Op.operands]),Gv y (by simp[Op.operands])]
  exact DV hn h0
 ·rename_i op' t x;rw[Gv x (by simp[Op.operands])]
  exact ZJ hn h0
 ·rename_i src dst x;rw[Gv x (by simp[Op.operands])]
  exact MS hn (fun hds i hi=>hg (by simp[Ez,hds]) x (by simp[Op.operands]) i (G8 hi)) fun v b hb=>B4 hn fun d hd=>hK _ _ _ (fun _=>⟨rfl,fun q hq=>by rw[hd,hb q hq,hd];rfl⟩) (by simp)
 ·rename_i t x y;rw[Gv x (by simp[Op.operands]),Gv y (by simp[Op.operands])]
  refine B4 hn fun d hd=>?_
  split
  ·exact Ci hn fun _ _=>Ci hn fun _ _=>An hn fun _=>Mp hn fun _=>hK _ _ _ (fun _=>⟨rfl,by simp[hd]⟩) (by simp)
  ·exact hn
 ·rename_i t x lo hi mx;split
  ·rw[Gv x (by simp[Op.operands])]
   have h1:lo.map (A7 tm)=lo.map (A7 tm'):=by
    cases lo with
    |none=>rfl
    |some y=>simp only[Option.map_some];rw[Gv y (by simp[Op.operands])]
   have h2:hi.map (A7 tm)=hi.map (A7 tm'):=by
    cases hi with
    |none=>rfl
    |some y=>simp only[Option.map_some];rw[Gv y (by simp[Op.operands])]
   rw[h1,h2];exact HM hn (fun ⟨n,e,he⟩ i hi=>hf (by simp[Ez,he]) x (by simp[Op.operands]) i (G8 hi)) h0
  ·rename_i m;rw[Gv x (by simp[Op.operands])]
   have h1:lo.map (A7 tm)=lo.map (A7 tm'):=by
    cases lo with
    |none=>rfl
    |some y=>simp only[Option.map_some];rw[Gv y (by simp[Op.operands])]
   have h2:hi.map (A7 tm)=hi.map (A7 tm'):=by
    cases hi with
    |none=>rfl
    |some y=>simp only[Option.map_some];rw[Gv y (by simp[Op.operands])]
   rw[h1,h2,Gv m (by simp[Op.operands])]
   exact B4 hn fun d hd=>FD hn fun c=>hK _ _ _ (fun _=>⟨rfl,by simp[hd]⟩) (by simp)
 ·rename_i t x fl;rw[Gv x (by simp[Op.operands])]
  exact B4 hn fun _ _=>An hn fun _=>Sc hn h0
 ·rename_i t x fl;rw[Gv x (by simp[Op.operands])]
  exact B4 hn fun _ _=>An hn fun _=>F8 hn fun _ _=>I8 hn fun _=>Rj hn h0
 ·rename_i t x i;rw[Gv x (by simp[Op.operands]),Gv i (by simp[Op.operands])]
  exact Ci hn fun _ _=>Vr hn h0
 ·rename_i t x i;rw[Gv x (by simp[Op.operands]),Gv i (by simp[Op.operands])]
  refine Ci hn fun _ _=>?_
  split
  ·exact Dw hn fun _=>An hn fun _=>B4 hn fun _ _=>h0 _
  ·exact F8 hn fun _ _=>An hn fun _=>I8 hn fun _=>Rj hn h0
  ·exact hn
 ·rename_i x i;rw[Gv x (by simp[Op.operands])]
  split
  ·exact B4 hn fun _ _=>h0 _
  ·exact hn
 ·rename_i c
  have G7:∀x∈c.args.toList,x∈(Op.call c).operands.toList:=by
   intro x hx;simp only[Op.operands,Call.operands,Array.toList_append,List.mem_append];exact .inr hx
  have rc:∀fn,Ez P (.call c)=true->Rel (Vt C P N call tm g o c fn K) (Vt C P N call tm' g' o c fn K'):=by
   intro fn QJ;unfold Vt;have:c.args.toList.map (A7 tm)=c.args.toList.map (A7 tm'):=List.map_congr_left fun x hx=>Gv x (G7 x hx)
   rw[this];refine Zq hn (fun i hi=>?_) fun vs m hm=>Yf hn fun rv ro=>C6 hn (An hn fun _=>R6 hn fun ws bs Xg=>An hn fun _=>hK _ _ _ (fun h=>by rw[QJ] at h;cases h) (fun i hi=>?_))
   ·obtain⟨p,hp,hi⟩:=List.mem_flatMap.1 hi;obtain⟨x,hx,rfl⟩:=List.mem_map.1 hp;exact hg QJ x (G7 x hx) i (Dm hi)
   ·have CC:i∈m:=by
     cases hq:F6 P (I4 P o.type)<;>rw[hq] at hi
     ·simp at hi
     ·exact hi
    exact hm i CC
  split
  ·refine Av hn fun x _ hx=>Av hn fun _ _ _=>?_
   rw[Gv x (G7 x (by rw[hx];simp))]
   exact RA hn fun _=>h0 _
  ·refine Av hn fun x _ hx=>Av hn fun _ _ _=>?_
   rw[Gv x (G7 x (by rw[hx];simp))]
   exact TD hn fun _=>h0 _
  ·refine Av hn fun x _ hx=>Av hn fun y _ hy=>C6 hn ?_
   subst hy;rw[Gv x (G7 x (by rw[hx];simp)),Gv y (G7 y (by rw[hx];simp))]
   exact UT hn h0
  ·refine Av hn fun x _ hx=>Av hn fun y _ hy=>C6 hn ?_
   subst hy;rw[Gv x (G7 x (by rw[hx];simp)),Gv y (G7 y (by rw[hx];simp))]
   exact RE hn h0
  ·rename_i hc;have QJ:Ez P (.call c)=true:=by simp[Ez,hc]
   refine An hn fun _=>B4 hn fun d hd=>Av hn fun _ _ hb=>Av hn fun x _ hx=>C6 hn (Av hn fun _ _ _=>Av hn fun _ _ _=>?_)
   have NX:x∈c.args.toList:=by rw[hb,hx];simp
   rw[Gv x (G7 x NX)];exact GO hn (fun i hi=>hg QJ x (G7 x NX) i (G8 hi)) fun v nw=>hK _ _ _ (fun h=>by rw[QJ] at h;cases h) (by simp)
  ·rename_i fn hc;have QJ:Ez P (.call c)=true:=by simp[Ez,hc]
   exact rc fn QJ
  ·rename_i t hc;have QJ:Ez P (.call c)=true:=by simp[Ez,hc]
   have ht:=Gv (.tmp t) (by simp[Op.operands,Call.operands,hc])
   change tm t=tm' t at ht;rw[ht];exact ZU hn fun fn=>rc fn QJ
  ·exact hn
 ·exact hn
variable {hp:Nat->Option A1}
end
open Go.RowKit
abbrev Pr:=PV × List Nat × List (Nat × A1)
def Er (ops:Array Oper)(o:Oper)(tm:Nat->PV):Option Bool:=
 match o.guard with
 |none=>some true
 |some (j,want)=>
  match (ops[j]?).bind (·.dst) with
  |none=>none
  |some d=>
   match tm d with
   |.sc (.bool b)=>some (b==want)
   |.sc (.tuple _)=>some false
   |_=>none
section
variable {R:Type} {r:R} {C:Et} {P:Program} {N:Nat} {call:Aj} {ops:Array Oper} {o x:Oper} {s:St} {K:St->Option R}
theorem AO:B7 C P N call ops o s K=match Er ops o s.tm with
  |none=>none
  |some true=>FG C P N call o s K
  |some false=>Ar (D3 N o.dst) (K ⟨Az s.tm o.dst (.sc undef),s.hp⟩):=by
 unfold B7 Er;cases o.guard with
 |none=>rfl
 |some q=>
  obtain⟨j,want⟩:=q;cases hd:(ops[j]?).bind (·.dst) with
  |none=>simp[hd]
  |some d=>
   simp only[hd];cases ht:s.tm d with
   |sc v=>
    cases v with
    |bool b=>
     cases b<;>cases want<;>simp only[Ca,cond_true,cond_false,Rp s.tm ht]<;>rfl
    |_=>rfl
   |_=>rfl
def PF (C:Et)(P:Program)(N:Nat)(call:Aj)(o:Oper)(s:St):Option Pr:=
 V0 C P N call s.tm (rd s.hp) (Gj s.hp) o fun v fz nw=>some (v,fz,nw)
theorem XX {K:PV->List Nat->List (Nat × A1)->Option R}:V0 C P N call s.tm (rd s.hp) (Gj s.hp) o K=(PF C P N call o s).bind fun q=>K q.1 q.2.1 q.2.2:=by
 refine Wy (Rel:=fun (a:Option R) (b:Option Pr)=>a=b.bind fun q=>K q.1 q.2.1 q.2.2) (K:=K) (K':=fun v fz nw=>some (v,fz,nw)) rfl (fun _ _=>rfl) (fun _ _ _ _ _=>.inl ⟨rfl,rfl⟩) fun v fz nw _ _=>rfl
theorem JO {q:Pr}(h:PF C P N call o s=some q):(Ez P o.op=false->q.2.1=[]∧∀p∈q.2.2,o.dst=some p.1)∧∀i∈q.2.1,Gj s.hp i≠none:=by
 have:=Wy (C:=C) (P:=P) (N:=N) (call:=call) (o:=o) (tm:=s.tm) (tm':=s.tm) (f:=rd s.hp) (f':=rd s.hp) (g:=Gj s.hp) (g':=Gj s.hp)
  (Rel:=fun (a:Option Pr)(_:Option Pr)=>∀q,a=some q->(Ez P o.op=false->q.2.1=[]∧∀p∈q.2.2,o.dst=some p.1)∧∀i∈q.2.1,Gj s.hp i≠none)
  (K:=fun v fz nw=>some (v,fz,nw)) (K':=fun v fz nw=>some (v,fz,nw)) (fun _ h=>by cases h) (fun _ _=>rfl) (fun _ _ _ _ _=>.inl ⟨rfl,rfl⟩) (fun v fz nw h1 h2 q hq=>by cases hq;exact⟨h1,h2⟩)
 exact this q h
def gE (C:Et)(P:Program)(N:Nat)(call:Aj)(ops:Array Oper)(o:Oper)(s:St):Option Pr:=
 match Er ops o s.tm with
 |none=>none
 |some true=>bif Lg C P o.op then none else PF C P N call o s
 |some false=>some (.sc undef,[],[])
def Ej (C:Et)(P:Program)(ops:Array Oper)(o:Oper)(tm:Nat->PV):Bool:=Lg C P o.op&&(Er ops o tm==some true)
theorem Hb (h:Ej C P ops o s.tm=false):B7 C P N call ops o s K=(gE C P N call ops o s).bind fun q=>Sp N s o.dst q.1 q.2.1 q.2.2 K:=by
 rw[AO];unfold gE;unfold Ej at h;cases hv:Er ops o s.tm with
 |none=>rfl
 |some b=>
  rw[hv] at h;cases b with
  |false=>
   show Ar _ _=Sp N s o.dst (.sc undef) [] [] K;unfold Sp;have h1:A2 s.hp []=true:=rfl;have h2:Ak (Ac s.hp []) []=s.hp:=rfl;rw[h1,h2,Bool.and_true]
  |true=>
   have hm:Lg C P o.op=false:=by simpa using h
   simp only[FG,hm,cond_false];exact XX
theorem Fo (h:Ej C P ops o s.tm=true):B7 C P N call ops o s K=Ow C P N call s o K:=by
 rw[AO];unfold Ej at h;simp only[Bool.and_eq_true,beq_iff_eq] at h;rw[h.2];simp only[FG,h.1,cond_true]
theorem Nf {q:Pr}(h:gE C P N call ops o s=some q):(Ez P o.op=false->q.2.1=[]∧∀p∈q.2.2,o.dst=some p.1)∧∀i∈q.2.1,Gj s.hp i≠none:=by
 unfold gE at h;split at h
 ·cases h
 ·cases hm:Lg C P o.op<;>rw[hm] at h
  ·exact JO h
  ·cases h
 ·cases h;exact⟨fun _=>⟨rfl,by simp⟩,by simp⟩
theorem Dg {tm tm':Nat->PV}(h:∀t∈Cg ops o,tm t=tm' t):∀y∈o.op.operands.toList,A7 tm y=A7 tm' y:=by
 intro y hy;cases y with
 |tmp t=>
  refine h t ?_;unfold Cg UN;refine List.mem_append.2 (.inl (List.mem_filterMap.2 ⟨.tmp t,hy,rfl⟩))
 |const v=>cases v<;>rfl
 |func f=>rfl
 |«global» g=>rfl
theorem Hi {tm tm':Nat->PV}(h:∀t∈Cg ops o,tm t=tm' t):Er ops o tm=Er ops o tm':=by
 unfold Er;cases hg:o.guard with
 |none=>rfl
 |some q=>
  obtain⟨j,want⟩:=q;cases hd:(ops[j]?).bind (·.dst) with
  |none=>simp[hd]
  |some d=>
   have:tm d=tm' d:=h d (by
    unfold Cg;rw[hg];refine List.mem_append.2 (.inr ?_);simp only[hd];simp)
   simp only[hd,this]
theorem Rb {s':St}{q:Pr}(ht:∀t∈Cg ops o,s.tm t=s'.tm t)
  (hm:Ez P o.op=true->∀y∈o.op.operands.toList,∀i∈A5 (A7 s'.tm y),(rd s.hp i=rd s'.hp i∧Gj s.hp i=Gj s'.hp i)∨(rd s.hp i=none∧Gj s.hp i=none))
  (h:gE C P N call ops o s=some q):gE C P N call ops o s'=some q:=by
 unfold gE at h ⊢;rw[←Hi ht];split at h
 ·cases h
 ·cases hM:Lg C P o.op<;>rw[hM] at h
  ·have:=Wy (C:=C) (P:=P) (N:=N) (call:=call) (o:=o) (tm:=s.tm) (tm':=s'.tm) (f:=rd s.hp) (f':=rd s'.hp) (g:=Gj s.hp) (g':=Gj s'.hp)
    (Rel:=fun (a b:Option Pr)=>a=some q->b=some q)
    (K:=fun v fz nw=>some (v,fz,nw)) (K':=fun v fz nw=>some (v,fz,nw)) (fun h=>h) (Dg ht)
    (fun Ii y hy i hi=>(hm Ii y hy i hi).imp id fun h=>⟨h.1,h.2,fun _ h=>by cases h⟩) (fun v fz nw _ _ h=>h)
   exact this h
  ·cases h
 ·exact h
end
open Go.RowKit
theorem Kx:∀{nw:List (Nat × A1)} {hp Bq:Nat->Option A1},A2 hp nw=true->(∀i b,(i,b)∈nw->Bq i=none)->A2 Bq nw=true
 |[],_,_,_,_=>rfl
 |(i,b)::nw,hp,Bq,h,h'=>by
  simp only[A2,Bool.and_eq_true,Option.isNone_iff_eq_none] at h ⊢;exact⟨⟨h' i b (by simp),h.1.2⟩,Kx h.2 fun j c hj=>h' j c (by simp[hj])⟩
section
variable {hp:Nat->Option A1} {fz:List Nat} {nw:List (Nat × A1)}
theorem Dz (ha:A2 hp nw=true){i:Nat}(hi:hp i≠none):Ak (Ac hp fz) nw i=if i∈fz then (hp i).map Ni else hp i:=by
 obtain⟨h1,h2⟩:=Aw ha;rw[(Cr h2).2 i (fun bx hb=>hi (h1 i bx hb)),A3]
theorem Fx (ha:A2 hp nw=true){i:Nat}{b:A1}(hi:(i,b)∈nw):Ak (Ac hp fz) nw i=some b:=
 (Cr (Aw ha).2).1 i b hi
theorem Jd (ha:A2 hp nw=true){i:Nat}(hi:hp i=none)(hn:∀b,(i,b) ∉ nw):Ak (Ac hp fz) nw i=none:=by
 rw[(Cr (Aw ha).2).2 i hn,A3,hi];simp
theorem Jc (ha:A2 hp nw=true){i:Nat}(hi:hp i≠none):Ak (Ac hp fz) nw i≠none:=by
 rw[Dz ha hi];cases h:hp i with
 |none=>exact absurd h hi
 |some b=>split<;>simp
theorem WQ (b:Option A1):(match b.map Ni with|some (.st c)=>some c|some (.ar _ c)=>some c|_=>none)=(match b with|some (.st c)=>some c|some (.ar _ c)=>some c|_=>none):=by
 cases b with
 |none=>rfl
 |some b=>cases b<;>rfl
theorem SW (b:Option A1):(match b.map Ni with|some (.ar _ c)=>some c|_=>none)=(match b with|some (.ar _ c)=>some c|_=>none):=by
 cases b with
 |none=>rfl
 |some b=>cases b<;>rfl
theorem ED (ha:A2 hp nw=true){i:Nat}(hi:hp i≠none):rd (Ak (Ac hp fz) nw) i=rd hp i:=by
 unfold rd;rw[Dz ha hi];by_cases h:i∈fz
 ·rw[if_pos h];exact WQ _
 ·rw[if_neg h]
theorem Zn (ha:A2 hp nw=true){i:Nat}(hi:hp i≠none):Gj (Ak (Ac hp fz) nw) i=Gj hp i:=by
 unfold Gj;rw[Dz ha hi];by_cases h:i∈fz
 ·rw[if_pos h];exact SW _
 ·rw[if_neg h]
theorem LX {i:Nat}(hi:hp i=none):rd hp i=none:=by unfold rd;rw[hi]
theorem Ho {i:Nat}(hi:hp i=none):Gj hp i=none:=by unfold Gj;rw[hi]
theorem Afo (b:Option A1):(b.map Ni).map Ni=b.map Ni:=by
 cases b with
 |none=>rfl
 |some b=>cases b<;>rfl
theorem HZ {fx fo:List Nat}{nx no:List (Nat × A1)} (hx:A2 hp nx=true)(ho:A2 (Ak (Ac hp fx) nx) no=true) (FZ:A2 hp no=true)
  (T9:A2 (Ak (Ac hp fo) no) nx=true) (h1:∀i∈fx,hp i≠none)(h2:∀i∈fo,hp i≠none):
  Ak (Ac (Ak (Ac hp fx) nx) fo) no=Ak (Ac (Ak (Ac hp fo) no) fx) nx:=by
 funext i
 by_cases hi:hp i=none
 ·by_cases FU:∃b,(i,b)∈no
  ·obtain⟨b,hb⟩:=FU
   have hnx:∀b',(i,b') ∉ nx:=fun b' E1=>by
    have:=(Aw ho).1 i b hb;rw[Fx hx E1] at this;cases this
   rw[Fx ho hb,Dz T9 (by rw[Fx FZ hb];simp),Fx FZ hb,if_neg (fun h=>h1 i h hi)]
  ·have FU:∀b,(i,b) ∉ no:=fun b hb=>FU ⟨b,hb⟩
   by_cases hnx:∃b,(i,b)∈nx
   ·obtain⟨b,hb⟩:=hnx;rw[Fx T9 hb,Dz ho (by rw[Fx hx hb];simp),Fx hx hb,if_neg (fun h=>h2 i h hi)]
   ·have hnx:∀b,(i,b) ∉ nx:=fun b hb=>hnx ⟨b,hb⟩
    rw[Jd ho (Jd hx hi hnx) FU,Jd T9 (Jd FZ hi FU) hnx]
 ·rw[Dz ho (Jc hx hi),Dz hx hi,Dz T9 (Jc FZ hi),Dz FZ hi];split<;>split<;>first|rfl|rw[Afo]
end
section
variable {R:Type} {r:R} {C:Et} {P:Program} {N:Nat} {call:Aj} {ops:Array Oper} {o x:Oper} {s:St} {K:St->Option R}
structure Qh (C:Et) (P:Program) (ops:Array Oper) (x o:Oper):Prop where
 xo:∀d,x.dst=some d->d ∉ Cg ops o
 ne:∀d,x.dst=some d->o.dst≠some d
 ox:∀d,o.dst=some d->d ∉ Cg ops x
 mx:Lg C P x.op=true->Ez P o.op=false
 mo:Lg C P o.op=true->Ez P x.op=false
theorem Ls {l:List Nat}{d:Nat}(h:l.any (Nat.beq d)=false):d ∉ l:=by
 intro hm;have:l.any (Nat.beq d)=true:=List.any_eq_true.2 ⟨d,hm,Nat.beq_refl d⟩;rw[this] at h;cases h
theorem UD (h:W8 C P ops x o=false):Qh C P ops x o:=by
 unfold W8 at h;simp only[Bool.or_eq_false_iff,Bool.and_eq_false_iff] at h;obtain⟨⟨⟨h1,h2⟩,h3⟩,h4⟩:=h;refine⟨fun d hd=>?_,fun d hd he=>?_,fun d hd=>?_,fun hm=>?_,fun hm=>?_⟩
 ·simp only[hd,Bool.or_eq_false_iff] at h1;exact Ls h1.1
 ·simp only[hd,he,Bool.or_eq_false_iff] at h1;rw[Nat.beq_refl] at h1;cases h1.2
 ·simp only[hd] at h2;exact Ls h2
 ·rw[hm] at h3;rcases h3 with h|h
  ·cases h
  ·exact h
 ·rw[hm] at h4;rcases h4 with h|h
  ·cases h
  ·exact h
theorem Cz {tm:Nat->PV}{d:Option Tmp}{v:PV}{l:List Nat}(h:∀i,d=some i->i ∉ l):∀t∈l,Az tm d v t=tm t:=by
 intro t ht;cases d with
 |none=>rfl
 |some d=>exact Ad _ _ (by rintro rfl;exact h _ rfl ht)
theorem Gy {tm:Nat->PV}{d e:Option Tmp}{u v:PV}(h:∀i,d=some i->e≠some i):Az (Az tm d u) e v=Az (Az tm e v) d u:=by
 cases d with
 |none=>rfl
 |some d=>
  cases e with
  |none=>rfl
  |some e=>exact EV _ _ _ (by rintro rfl;exact h _ rfl rfl)
def GQ (C:Et)(P:Program)(o:Oper)(s:St):Prop:=(∀y∈o.op.operands.toList,∀i∈A5 (A7 s.tm y),s.hp i≠none) ∧
 (Lg C P o.op=true->Iz o.op=false->∀y∈o.op.operands.toList,∀i∈A5 (A7 s.tm y),∀c,s.hp i=some (.st c)->∀p∈c,∀k∈Ai p,s.hp k≠none)
theorem Ev {tm tm':Nat->PV}(h:∀t∈Cg ops o,tm t=tm' t):Ej C P ops o tm=Ej C P ops o tm':=by
 unfold Ej;rw[Hi h]
theorem MA (hw:GQ C P o s)(xo:∀d,x.dst=some d->d ∉ Cg ops o)(ne:∀d,x.dst=some d->o.dst≠some d)(ox:∀d,o.dst=some d->d ∉ Cg ops x)(hx:Ej C P ops x s.tm=false)(ho:Ej C P ops o s.tm=false)
  (h:B7 C P N call ops x s (fun s1=>B7 C P N call ops o s1 K)=some r):B7 C P N call ops o s (fun s1=>B7 C P N call ops x s1 K)=some r:=by
 rw[Hb hx] at h;cases ex:gE C P N call ops x s with
 |none=>rw[ex] at h;cases h
 |some q=>
 obtain⟨vx,fx,nx⟩:=q;rw[ex] at h;obtain⟨hb,h1⟩:=Ae h;simp only[Bool.and_eq_true] at hb;have t1:∀t∈Cg ops o,Az s.tm x.dst vx t=s.tm t:=Cz xo;change B7 C P N call ops o ⟨Az s.tm x.dst vx,Ak (Ac s.hp fx) nx⟩ K=some r at h1;rw[Hb (by rw[Ev t1];exact ho)] at h1
 cases eo:gE C P N call ops o ⟨Az s.tm x.dst vx,Ak (Ac s.hp fx) nx⟩ with
 |none=>rw[eo] at h1;cases h1
 |some q=>
 obtain⟨vo,fo,no⟩:=q;rw[eo] at h1;obtain⟨hc,h2⟩:=Ae h1;change K ⟨Az (Az s.tm x.dst vx) o.dst vo,Ak (Ac (Ak (Ac s.hp fx) nx) fo) no⟩=some r at h2;simp only[Bool.and_eq_true] at hc
 have eo':gE C P N call ops o s=some (vo,fo,no):=by
  refine Rb t1 (fun _ y hy i hi=>?_) eo
  have:=hw.1 y hy i hi;exact .inl ⟨ED hb.2 this,Zn hb.2 this⟩
 have FZ:A2 s.hp no=true:=Kx hc.2 fun i b hi=>by
  cases hs:s.hp i with
  |none=>rfl
  |some c=>exact absurd ((Aw hc.2).1 i b hi) (Jc hb.2 (by rw[hs];simp))
 rw[Hb ho,eo']
 have T9:A2 (Ak (Ac s.hp fo) no) nx=true:=Kx hb.2 fun i b hi=>by
  refine Jd FZ ((Aw hb.2).1 i b hi) fun c Lk=>?_
  have:=(Aw hc.2).1 i c Lk;rw[Fx hb.2 hi] at this;cases this
 have t2:∀t∈Cg ops x,s.tm t=Az s.tm o.dst vo t:=fun t ht=>(Cz ox t ht).symm
 have ex':gE C P N call ops x ⟨Az s.tm o.dst vo,Ak (Ac s.hp fo) no⟩=some (vx,fx,nx):=by
  refine Rb t2 (fun _ y hy i hi=>?_) ex
  by_cases hs:s.hp i=none
  ·exact .inr ⟨LX hs,Ho hs⟩
  ·exact .inl ⟨(ED FZ hs).symm,(Zn FZ hs).symm⟩
 show Ar _ _=_;rw[hc.1,FZ];show B7 C P N call ops x ⟨Az s.tm o.dst vo,Ak (Ac s.hp fo) no⟩ K=some r;rw[Hb (by rw[←Ev t2];exact hx),ex']
 show Ar _ _=_;rw[hb.1,T9];rw[←h2];have hfx:∀i∈fx,s.hp i≠none:=fun i hi hs=>(Nf ex).2 i hi (Ho hs)
 have hfo:∀i∈fo,s.hp i≠none:=fun i hi hs=>(Nf eo').2 i hi (Ho hs)
 show K ⟨Az (Az s.tm o.dst vo) x.dst vx,Ak (Ac (Ak (Ac s.hp fo) no) fx) nx⟩=K _;rw[Gy ne,HZ hb.2 hc.2 FZ T9 hfx hfo]
end
open Go.RowKit
theorem Q5 {C:Et}{P:Program}{o:Op}(h:Lg C P o=true):Ez P o=true:=by
 unfold Lg at h;split at h
 ·rfl
 ·rename_i c;unfold Ez;simp only;split at h<;>rename_i hc
  ·rw[hc]
  ·rw[hc]
  ·cases h
  ·rw[hc]
  ·cases h
 ·cases h
structure Xv (N:Nat) (S:Nat->Prop) (dst:Option Nat) (hp Cc Bq Da:Nat->Option A1):Prop where
 keep:∀i,hp i≠none->Bq i≠none
 off:∀i,i<N->dst≠some i->(¬S i∨hp i=none)->Bq i=hp i∧Da i=Cc i
 same:∀i,hp i=Cc i->Bq i=Da i
 far:∀i,¬S i->hp i≠none->Bq i=hp i
section
variable {R R':Type} {Rel:Option R->Option R'->Prop} {P:Program} {N:Nat} {tm tm':Nat->PV} {hp Cc:Nat->Option A1} {f f':Nat->Option (List PV)} {o:Oper}
theorem Yk (hn:Rel none none){t:CT}{p:PV}{K:PV->List Nat->Option R}{K':PV->List Nat->Option R'}(hf:CO Rel f f' (Ai p)) (hK:∀c m,(∀i∈m,f i≠none∧i∈Ai p)->Rel (K c m) (K' c m)):Rel (Jn f t p K) (Jn f' t p K'):=by
 unfold Jn;split
 ·split
  ·rename_i id es' off n;cases Nat.beq es' _
   ·exact hn
   ·exact Ro hn hf (by simp[Ai]) fun c hc=>An hn fun _=>hK _ _ (by simp[hc,Ai])
  ·exact Dj hn fun _ _ _=>hK _ _ (by simp)
 ·exact Jz hn fun _=>hK _ _ (by simp)
theorem Vh (hn:Rel none none):∀{ts:List CT}{ps:List PV}{K:List PV->List Nat->Option R}{K':List PV->List Nat->Option R'},CO Rel f f' (ps.flatMap Ai)->(∀c m,(∀i∈m,f i≠none∧i∈ps.flatMap Ai)->Rel (K c m) (K' c m))->Rel (I7 f ts ps K) (I7 f' ts ps K')
 |[],[],_,_,_,hK=>hK _ _ (by simp)
 |[],_::_,_,_,_,_=>hn
 |_::_,[],_,_,_,_=>hn
 |_::_,p::ps,_,_,hf,hK=>Yk hn (fun i hi=>hf i (by simp only[List.flatMap_cons,List.mem_append];exact .inl hi)) fun _ m hm=>Vh hn (fun i hi=>hf i (by simp only[List.flatMap_cons,List.mem_append];exact .inr hi)) fun _ ms Xc=>hK _ _ fun i hi=>by
   simp only[List.flatMap_cons,List.mem_append];rcases List.mem_append.1 hi with h|h
   ·exact⟨(hm i h).1,.inl (hm i h).2⟩
   ·exact⟨(Xc i h).1,.inr (Xc i h).2⟩
theorem Nw {S:Nat->Prop}{dst:Option Nat}{id:Nat}{b:A1}{h0 h1:Nat->Option A1}(hS:S id)(Ax:hp id≠none)(h:Xv N S dst hp Cc h0 h1):Xv N S dst hp Cc (Bg h0 id (some b)) (Bg h1 id (some b)):=by
 refine⟨fun i hi=>?_,fun i hN hd hi=>?_,fun i hi=>?_,fun i hn hi=>?_⟩
 ·by_cases e:i=id
  ·subst e;rw[Af];simp
  ·rw[Ad _ _ e];exact h.keep i hi
 ·have e:i≠id:=by
   rintro rfl
   rcases hi with hi|hi
   ·exact hi hS
   ·exact Ax hi
  rw[Ad _ _ e,Ad _ _ e];exact h.off i hN hd hi
 ·by_cases e:i=id
  ·subst e;rw[Af,Af]
  ·rw[Ad _ _ e,Ad _ _ e];exact h.same i hi
 ·rw[Ad _ _ (by rintro rfl;exact hn hS)];exact h.far i hn hi
theorem Z4 {S:Nat->Prop}{d:Nat}{b:A1}{h0 h1:Nat->Option A1}(hz:hp d=none)(h:Xv N S (some d) hp Cc h0 h1):Xv N S (some d) hp Cc (Bg h0 d (some b)) (Bg h1 d (some b)):=by
 refine⟨fun i hi=>?_,fun i hN hd hi=>?_,fun i hi=>?_,fun i hn hi=>?_⟩
 ·by_cases e:i=d
  ·subst e;rw[Af];simp
  ·rw[Ad _ _ e];exact h.keep i hi
 ·have e:i≠d:=by rintro rfl;exact hd rfl
  rw[Ad _ _ e,Ad _ _ e];exact h.off i hN hd hi
 ·by_cases e:i=d
  ·subst e;rw[Af,Af]
  ·rw[Ad _ _ e,Ad _ _ e];exact h.same i hi
 ·rw[Ad _ _ (by rintro rfl;exact hi hz)];exact h.far i hn hi
theorem Mo (S:Nat->Prop)(dst:Option Nat):Xv N S dst hp Cc hp Cc:=⟨fun _ h=>h,fun _ _ _ _=>⟨rfl,rfl⟩,fun _ h=>h,fun _ _ _=>rfl⟩
theorem ID {S:Nat->Prop}{dst:Option Nat}{m:List Nat}(hm:∀i∈m,hp i≠none∧S i):Xv N S dst hp Cc (Ac hp m) (Ac Cc m):=by
 refine⟨fun i hi=>fun h=>hi (Ch.1 h),fun i hN hd hi=>?_,fun i hi=>?_,fun i hn hi=>?_⟩
 ·have e:i ∉ m:=by
   intro h;rcases hi with hi|hi
   ·exact hi (hm i h).2
   ·exact (hm i h).1 hi
  rw[A3,A3,if_neg e,if_neg e];exact⟨rfl,rfl⟩
 ·rw[A3,A3,hi]
 ·rw[A3,if_neg (fun h=>hn (hm i h).2)]
theorem AW {S:Nat->Prop}(h:∀i,S i->hp i=Cc i∨(hp i=none∧∀b,Rel none b)) {l:List Nat}(hl:∀i∈l,S i):CO Rel (Gj hp) (Gj Cc) l:=by
 intro i hi;rcases h i (hl i hi) with h|⟨h,h'⟩
 ·left;unfold Gj;rw[h]
 ·exact .inr ⟨Ho h,h'⟩
theorem EC (hn:Rel none none){t:TypeId}{a x:PV}{K:St->Option R}{K':St->Option R'}{S:Nat->Prop}(hS:∀i,S i->hp i=Cc i∨(hp i=none∧∀b,Rel none b)) (ha:∀i∈Ai a,S i)(hx:∀i∈Bf x,S i)
  (hK:∀Bq Da,Xv N S none hp Cc Bq Da->Rel (K ⟨tm,Bq⟩) (K' ⟨tm',Da⟩)):Rel (Sg P ⟨tm,hp⟩ t a x K) (Sg P ⟨tm',Cc⟩ t a x K'):=by
 unfold Sg;split
 ·rename_i id off;show Rel (match hp id with|some (.st c)=>_|some (.ar false c)=>_|_=>none) (match Cc id with|some (.st c)=>_|some (.ar false c)=>_|_=>none)
  have Ax:S id:=ha id (by simp[Ai])
  rcases hS id Ax with h|⟨h,hb⟩
  ·rw[←h];split
   ·rename_i c hc;exact An hn fun _=>I8 hn fun _=>hK _ _ (Nw Ax (by rw[hc];simp) (Mo _ _))
   ·rename_i c hc;refine An hn fun _=>Vh hn (AW hS fun i hi=>hx i ?_) fun _ m hm=>An hn fun _=>hK _ _ (Nw Ax (by rw[hc];simp) (ID fun i hi=>⟨fun h=>(hm i hi).1 (Ho h),hx i ?_⟩))
    ·obtain⟨c,hc,hi⟩:=List.mem_flatMap.1 hi;exact M5 hc hi
    ·obtain⟨c,hc,hi⟩:=List.mem_flatMap.1 (hm i hi).2;exact M5 hc hi
   ·exact hn
  ·rw[h];exact hb _
 ·exact hn
theorem Sm (hn:Rel none none){es:Nat}{t:TypeId}{x:PV}{K:Nat->List PV->Option R}{K':Nat->List PV->Option R'}{S:Nat->Prop}(hS:∀i,S i->hp i=Cc i∨(hp i=none∧∀b,Rel none b)) (hx:∀i∈Bf x,S i)(hK:∀m c,Rel (K m c) (K' m c)):Rel (IQ P ⟨tm,hp⟩ es t x K) (IQ P ⟨tm',Cc⟩ es t x K'):=by
 unfold IQ IY;split
 ·exact An hn fun _=>Dw hn fun _=>hK _ _
 ·exact Q8 hn (AW hS fun i hi=>hx i (Nd hi)) hK
 ·exact hn
theorem Q6 (hn:Rel none none){d:Nat}{t tx:TypeId}{b x:PV}{K:St->Option R}{K':St->Option R'}{S:Nat->Prop}(hS:∀i,S i->hp i=Cc i∨(hp i=none∧∀b,Rel none b)) (QC:hp d=Cc d)(hb:∀i∈Bf b,S i)(hx:∀i∈Bf x,S i)
  (hK:∀v Bq Da,(∀M,Xv M S (some d) hp Cc Bq Da)->Rel (K ⟨Bg tm d v,Bq⟩) (K' ⟨Bg tm' d v,Da⟩)):Rel (Jo P N ⟨tm,hp⟩ d t tx b x K) (Jo P N ⟨tm',Cc⟩ d t tx b x K'):=by
 unfold Jo;split
 ·refine An hn fun _=>?_
  cases Qo P tx
  rotate_left
  ·show Rel (Mz P N ⟨tm,hp⟩ d _ b x K) (Mz P N ⟨tm',Cc⟩ d _ b x K');refine Ci hn fun _ n=>Dj hn fun z _ _=>?_
   show Rel (Ar (z&&Nat.blt d N&&(hp d).isNone&&_&&_&&_) _) (Ar (z&&Nat.blt d N&&(Cc d).isNone&&_&&_&&_) _);rw[←QC];exact An hn fun hb=>hK _ _ _ (fun M=>Z4 (by simp only[Bool.and_eq_true,Option.isNone_iff_eq_none] at hb;simp only[hb]) (Mo _ _))
  rw[cond_false,cond_false];refine Sm hn hS hx fun m new=>?_
  split
  ·rename_i id es off n;show Rel (match hp id with|some (.ar false c)=>Ar (Nat.beq es _&&Nat.beq off 0&&Nat.blt d N&&(hp d).isNone&&_&&_&&_&&_) _|_=>none) (match Cc id with|some (.ar false c)=>Ar (Nat.beq es _&&Nat.beq off 0&&Nat.blt d N&&(Cc d).isNone&&_&&_&&_&&_) _|_=>none)
   have Ax:S id:=hb id (by simp[Bf,Ai])
   rw[←QC];rcases hS id Ax with h|⟨h,hbb⟩
   ·rw[←h];split
    ·rename_i c hc;exact An hn fun hb=>hK _ _ _ (fun M=>Z4 (by simp only[Bool.and_eq_true,Option.isNone_iff_eq_none] at hb;simp only[hb]) (Nw Ax (by rw[hc];simp) (Mo _ _)))
    ·exact hn
   ·rw[h];exact hbb _
  ·refine Dj hn fun z _ _=>?_
   show Rel (Ar (z&&Nat.blt d N&&(hp d).isNone&&_&&_&&_) _) (Ar (z&&Nat.blt d N&&(Cc d).isNone&&_&&_&&_) _);rw[←QC];exact An hn fun hb=>hK _ _ _ (fun M=>Z4 (by simp only[Bool.and_eq_true,Option.isNone_iff_eq_none] at hb;simp only[hb]) (Mo _ _))
 ·exact hn
theorem IX (hn:Rel none none){d:Option Tmp}{t tx:TypeId}{b x:PV}{K:St->Option R}{K':St->Option R'}{S:Nat->Prop}(hS:∀i,S i->hp i=Cc i∨(hp i=none∧∀b,Rel none b)) (hb:∀i∈Bf b,S i)(hx:∀i∈Bf x,S i)
  (hK:∀v Bq Da,Xv N S d hp Cc Bq Da->Rel (K ⟨Az tm d v,Bq⟩) (K' ⟨Az tm' d v,Da⟩)):Rel (Yu P N ⟨tm,hp⟩ d t tx b x K) (Yu P N ⟨tm',Cc⟩ d t tx b x K'):=by
 unfold Yu;split
 ·refine An hn fun _=>?_
  refine Sm hn hS hx fun m new=>?_
  split
  ·rename_i id es off n;show Rel (match hp id with|some (.ar false c)=>Ar (Nat.beq es _&&_&&_) _|_=>none) (match Cc id with|some (.ar false c)=>Ar (Nat.beq es _&&_&&_) _|_=>none)
   have Ax:S id:=hb id (by simp[Bf,Ai])
   rcases hS id Ax with h|⟨h,hbb⟩
   ·rw[←h];split
    ·rename_i c hc;exact An hn fun _=>hK _ _ _ (Nw Ax (by rw[hc];simp) (Mo _ _))
    ·exact hn
   ·rw[h];exact hbb _
  ·exact hn
 ·exact hn
def Aaj (o:Oper)(tm:Nat->PV)(i:Nat):Prop:=∃x∈o.op.operands.toList,i∈A5 (A7 tm x)
def P1 (o:Oper)(tm:Nat->PV)(hp:Nat->Option A1)(i:Nat):Prop:=Aaj o tm i∨Iz o.op=false∧∃id c,Aaj o tm id∧hp id=some (.st c)∧∃p∈c,i∈Ai p
theorem OG (hn:Rel none none){mv:Bool}{t:CT}{p:PV}{K:PV->List Nat->List Nat->Option R}{K':PV->List Nat->List Nat->Option R'}{S:Nat->Prop}(hS:∀i,S i->hp i=Cc i∨(hp i=none∧∀b,Rel none b)) (hp_:∀i∈Ai p,S i)
  (hK:∀c m x,(∀i∈m++x,hp i≠none∧S i)->Rel (K c m x) (K' c m x)):Rel (PZ mv hp t p K) (PZ mv Cc t p K'):=by
 have frz:∀{t:CT} {p:PV},(∀i∈Ai p,S i)->Rel (Jn (Gj hp) t p fun c m=>K c m []) (Jn (Gj Cc) t p fun c m=>K' c m []):=fun h=>Yk hn (AW hS h) fun c m hm=>hK _ _ _ fun i hi=>by
  rw[List.append_nil] at hi;exact⟨fun e=>(hm i hi).1 (Ho e),h i (hm i hi).2⟩
 unfold PZ;split
 ·rename_i es;cases mv<;>simp only[cond_true,cond_false]
  ·exact frz hp_
  ·split
   ·rename_i id es' off n;rcases hS id (hp_ id (by simp[Ai])) with h|⟨h,hb⟩
    ·rw[←h];split
     ·rename_i c hc;cases (Nat.beq es' es&&Nat.beq off 0)<;>simp only[cond_true,cond_false]
      ·exact frz hp_
      ·exact An hn fun _=>hK _ _ _ fun i hi=>by
        simp only[List.nil_append,List.mem_singleton] at hi;subst hi;exact⟨by rw[hc];simp,hp_ i (by simp[Ai])⟩
     ·exact frz hp_
    ·rw[h]
     have:(Jn (Gj hp) (.sl es) (.view id es' off n) fun c m=>K c m [])=none:=by
      unfold Jn;simp only;cases Nat.beq es' es
      ·rfl
      ·simp only[cond_true,Ho h,Db]
     show Rel (Jn (Gj hp) (.sl es) (.view id es' off n) fun c m=>K c m []) _
     rw[this];exact hb _
   ·refine Dj hn fun z n c=>?_
    cases z
    ·exact hK _ _ _ (by simp)
    ·exact hK _ _ _ (by simp)
 ·exact Jz hn fun _=>hK _ _ _ (by simp)
theorem L6 (hn:Rel none none){mv:Bool}{S:Nat->Prop}(hS:∀i,S i->hp i=Cc i∨(hp i=none∧∀b,Rel none b)):∀{ts:List CT}{ps:List PV}{K:List PV->List Nat->List Nat->Option R}{K':List PV->List Nat->List Nat->Option R'},(∀p∈ps,∀i∈Ai p,S i) ->
  (∀c m x,(∀i∈m++x,hp i≠none∧S i)->Rel (K c m x) (K' c m x))->Rel (Th mv hp ts ps K) (Th mv Cc ts ps K')
 |[],[],_,_,_,hK=>hK _ _ _ (by simp)
 |[],_::_,_,_,_,_=>hn
 |_::_,[],_,_,_,_=>hn
 |_::_,p::ps,_,_,hp_,hK=>OG hn hS (hp_ p (by simp)) fun _ m x hm=>L6 hn hS (fun q hq=>hp_ q (by simp[hq])) fun _ ms xs Xc=>hK _ _ _ fun i hi=>by
   simp only[List.mem_append] at hi hm Xc;rcases hi with (hi|hi)|(hi|hi)
   ·exact hm i (.inl hi)
   ·exact Xc i (.inl hi)
   ·exact hm i (.inr hi)
   ·exact Xc i (.inr hi)
theorem FW (hn:Rel none none){C:Et}{f:FuncId}{i:Nat}{t:TypeId}{p:PV}{K:PV->List Nat->List Nat->List Ef->Option R}{K':PV->List Nat->List Nat->List Ef->Option R'}{S:Nat->Prop}(hS:∀i,S i->hp i=Cc i∨(hp i=none∧∀b,Rel none b))
  (hp_:∀i∈A5 p,S i)(hc:∀i∈A5 p,∀c,Cc i=some (.st c)->∀q∈c,∀k∈Ai q,S k)
  (hK:∀v m x l,(∀i∈m++x++l.flatMap Ef.ids,hp i≠none∧S i)->Rel (K v m x l) (K' v m x l)):Rel (Sy C P f hp i t p K) (Sy C P f Cc i t p K'):=by
 unfold Sy;split
 ·split
  ·rename_i id off;have Ax:S id:=hp_ id (by simp[A5,Bf,Ai])
   rcases hS id Ax with h|⟨h,hb⟩
   ·rw[h];split
    ·rename_i c Zv;refine An hn fun _=>L6 hn hS (fun q hq k hk=>hc id (by simp[A5,Bf,Ai]) c Zv q (List.mem_of_mem_drop (List.mem_of_mem_take hq)) k hk) fun cs m x hm=>hK _ _ _ _ fun k hk=>?_
     rcases List.mem_append.1 hk with hk|hk
     ·exact hm k hk
     ·simp only[List.flatMap_cons,List.flatMap_nil,Ef.ids,List.append_nil,List.mem_singleton] at hk;subst hk;exact⟨by rw[h,Zv];simp,Ax⟩
    ·exact hn
   ·rw[h];exact hb _
  ·exact hn
 ·cases C.lnd f i
  ·cases A8 P t
   ·exact L6 hn hS (fun q hq k hk=>by
     simp at hq;subst hq;exact hp_ k (G8 hk)) fun cs m x hm=>Av hn fun _ _ _=>C6 hn (hK _ _ _ _ (by simpa using hm))
   ·refine F8 hn fun cs O6=>L6 hn hS (fun q hq k hk=>hp_ k ?_) fun cs m x hm=>hK _ _ _ _ (by simpa using hm)
    subst O6;exact List.mem_flatMap.2 ⟨q,hq,hk⟩
  ·refine B4 hn fun e he=>?_
   unfold QZ;split
   ·rename_i id es' off n;have Ax:S id:=hp_ id (by simp[A5,Bf,Ai])
    rcases hS id Ax with h|⟨h,hb⟩
    ·rw[h];split
     ·rename_i c Zv;refine An hn fun _=>hK _ _ _ _ fun k hk=>?_
      simp only[List.nil_append,List.flatMap_cons,List.flatMap_nil,Ef.ids,List.append_nil,List.mem_singleton] at hk;subst hk;exact⟨by rw[h,Zv];simp,Ax⟩
     ·exact hn
    ·rw[h];exact hb _
   ·exact Dj hn fun _ _ _=>An hn fun _=>hK _ _ _ _ (by simp[Ef.ids])
theorem Vy (hn:Rel none none){C:Et}{f:FuncId}{S:Nat->Prop}(hS:∀i,S i->hp i=Cc i∨(hp i=none∧∀b,Rel none b)):∀{ts:List TypeId}{ps:List PV}{i:Nat}{K:List PV->List Nat->List Nat->List Ef->Option R}{K':List PV->List Nat->List Nat->List Ef->Option R'},
  (∀p∈ps,∀i∈A5 p,S i)->(∀p∈ps,∀i∈A5 p,∀c,Cc i=some (.st c)->∀q∈c,∀k∈Ai q,S k) ->
  (∀v m x l,(∀i∈m++x++l.flatMap Ef.ids,hp i≠none∧S i)->Rel (K v m x l) (K' v m x l))->Rel (Yr C P f hp i ts ps K) (Yr C P f Cc i ts ps K')
 |[],[],_,_,_,_,_,hK=>hK _ _ _ _ (by simp)
 |[],_::_,_,_,_,_,_,_=>hn
 |_::_,[],_,_,_,_,_,_=>hn
 |_::_,p::ps,_,_,_,hp_,hc,hK=>FW hn hS (hp_ p (by simp)) (hc p (by simp)) fun _ m x l hm=>Vy hn hS (fun q hq=>hp_ q (by simp[hq])) (fun q hq=>hc q (by simp[hq])) fun _ ms xs ls Xc=>hK _ _ _ _ fun i hi=>by
   simp only[List.mem_append,List.flatMap_append] at hi hm Xc;rcases hi with ((hi|hi)|(hi|hi))|(hi|hi)
   ·exact hm i (.inl (.inl hi))
   ·exact Xc i (.inl (.inl hi))
   ·exact hm i (.inl (.inr hi))
   ·exact Xc i (.inl (.inr hi))
   ·exact hm i (.inr hi)
   ·exact Xc i (.inr hi)
theorem VO (hn:Rel none none){t:Nat}{ct:CT}{was p:PV}{K:Nat->PV->List (Nat × A1)->Option R} {K':Nat->PV->List (Nat × A1)->Option R'} (hK:∀t c b,(∀q∈b,∃k,q.1=GW N k)->Rel (K t c b) (K' t c b)):Rel (MY N t ct was p K) (MY N t ct was p K'):=by
 unfold MY;split
 ·split
  ·exact KR hn fun _ _=>hK _ _ _ (by intro q hq;simp only[List.mem_singleton] at hq;subst hq;exact⟨t,rfl⟩)
  ·exact Dj hn fun _ _ _=>hK _ _ _ (by simp)
 ·exact Jz hn fun _=>hK _ _ _ (by simp)
theorem Yj (hn:Rel none none):∀{cts:List CT}{ws ps:List PV}{t:Nat}{K:Nat->List PV->List (Nat × A1)->Option R} {K':Nat->List PV->List (Nat × A1)->Option R'},(∀t c b,(∀q∈b,∃k,q.1=GW N k)->Rel (K t c b) (K' t c b))->Rel (Y2 N t cts ws ps K) (Y2 N t cts ws ps K')
 |[],[],_,_,_,_,hK=>C6 hn (hK _ _ _ (by simp))
 |[],_::_,_,_,_,_,_=>hn
 |_::_,[],_,_,_,_,_=>hn
 |_::_,_::_,_,_,_,_,hK=>Av hn fun _ _ _=>VO hn fun _ _ b hb=>Yj hn fun _ _ bs Xg=>hK _ _ _ fun q hq=>by
   rcases List.mem_append.1 hq with h|h
   ·exact hb q h
   ·exact Xg q h
theorem N3 (hn:Rel none none){S:Nat->Prop}{dst:Option Nat}:∀{l:List Ef}{ro:List (List PV)} {t:Nat}{h0 h1:Nat->Option A1}{K:(Nat->Option A1)->List (Nat × A1)->Option R} {K':(Nat->Option A1)->List (Nat × A1)->Option R'},
  Xv N S dst hp Cc h0 h1->(∀i∈l.flatMap Ef.ids,hp i≠none∧S i∧hp i=Cc i)->(∀h0' Wa b,Xv N S dst hp Cc h0' Wa->(∀q∈b,∃k,q.1=GW N k)->Rel (K h0' b) (K' Wa b))->Rel (Pm N t l ro h0 K) (Pm N t l ro h1 K')
 |[],_,_,_,_,_,_,hT,_,hK=>C6 hn (hK _ _ _ hT (by simp))
 |.var id off cts ws::l,ro,t,h0,h1,K,K',hT,hl,hK=>by
  unfold Pm;refine Av hn fun cs ro _=>Yj hn fun t' cs' bs Xg=>?_
  have Ax:=hl id (by simp[Ef.ids])
  rw[←hT.same id Ax.2.2];split
  ·exact N3 hn (Nw Ax.2.1 Ax.1 hT) (fun i hi=>hl i (by simp only[List.flatMap_cons,List.mem_append];exact .inr hi)) fun h0' Wa b hT' hb=>hK _ _ _ hT' fun q hq=>by
    rcases List.mem_append.1 hq with h|h
    ·exact Xg q h
    ·exact hb q h
  ·exact hn
 |.row id::l,ro,t,h0,h1,K,K',hT,hl,hK=>by
  unfold Pm;have Ax:=hl id (by simp[Ef.ids])
  exact Av hn fun cs ro _=>N3 hn (Nw Ax.2.1 Ax.1 hT) (fun i hi=>hl i (by simp only[List.flatMap_cons,List.mem_append];exact .inr hi)) hK
 |.none::l,ro,t,h0,h1,K,K',hT,hl,hK=>by
  unfold Pm;exact Av hn fun cs ro _=>N3 hn hT (fun i hi=>hl i (by simp only[List.flatMap_cons,List.mem_append];exact .inr hi)) hK
theorem FI (h:∀i,N<=i->hp i=Cc i)(hN:0<N):∀k t,DR N hp k t=DR N Cc k t
 |0,_=>rfl
 |k+1,t=>by
  unfold DR;rw[h (GW N t) (by unfold GW;exact Nat.le_mul_of_pos_right _ (by omega)),FI h hN k (t+1)]
theorem Yi {h0 h1:Nat->Option A1}:∀{nw:List (Nat × A1)},(∀q∈nw,h0 q.1=h1 q.1)->A2 h0 nw=A2 h1 nw
 |[],_=>rfl
 |(i,b)::nw,h=>by
  unfold A2;rw[h (i,b) (by simp),Yi (fun q hq=>h q (by simp[hq]))]
theorem W2 {S:Nat->Prop}{dst:Option Nat}{h0 h1:Nat->Option A1}(hT:Xv N S dst hp Cc h0 h1):∀{nw:List (Nat × A1)} {g0 g1:Nat->Option A1},Xv N S dst hp Cc g0 g1->(∀q∈nw,N<=q.1∨dst=some q.1)->(∀q∈nw,hp q.1=none)->Xv N S dst hp Cc (Ak g0 nw) (Ak g1 nw)
 |[],_,_,h,_,_=>h
 |(i,b)::nw,g0,g1,h,hi,hz=>by
  refine W2 hT (nw:=nw) ⟨fun k hk=>?_,fun k hN hd hk=>?_,fun k hk=>?_,fun k hn hk=>?_⟩ (fun q hq=>hi q (by simp[hq])) (fun q hq=>hz q (by simp[hq]))
  ·by_cases e:k=i
   ·subst e;rw[Af];simp
   ·rw[Ad _ _ e];exact h.keep k hk
  ·have e:k≠i:=by
    rintro rfl
    rcases hi (k,b) (by simp) with q|q
    ·simp only at q;omega
    ·exact hd q
   rw[Ad _ _ e,Ad _ _ e];exact h.off k hN hd hk
  ·by_cases e:k=i
   ·subst e;rw[Af,Af]
   ·rw[Ad _ _ e,Ad _ _ e];exact h.same k hk
  ·rw[Ad _ _ (by rintro rfl;exact hk (hz (k,b) (by simp)))];exact h.far k hn hk
theorem Ad3 {S:Nat->Prop}{dst:Option Nat}{m x:List Nat}(hm:∀i∈m++x,hp i≠none∧S i):Xv N S dst hp Cc (Na (Ac hp m) x) (Na (Ac Cc m) x):=by
 refine⟨fun i hi h=>?_,fun i hN hd hi=>?_,fun i hi=>?_,fun i hn hi=>?_⟩
 ·rw[Dx] at h;have h1:Ac hp m i≠none:=fun e=>hi (Ch.1 e)
  split at h
  ·cases hq:Ac hp m i with
   |none=>exact h1 hq
   |some b=>rw[hq] at h;cases h
  ·exact h1 h
 ·have e:i ∉ m∧i ∉ x:=by
   refine⟨fun h=>?_,fun h=>?_⟩<;>(rcases hi with hi|hi)
   ·exact hi (hm i (by simp[h])).2
   ·exact (hm i (by simp[h])).1 hi
   ·exact hi (hm i (by simp[h])).2
   ·exact (hm i (by simp[h])).1 hi
  rw[Dx,Dx,if_neg e.2,if_neg e.2,A3,A3,if_neg e.1,if_neg e.1];exact⟨rfl,rfl⟩
 ·rw[Dx,Dx,A3,A3,hi]
 ·rw[Dx,A3,if_neg (fun h=>hn (hm i (by simp[h])).2),if_neg (fun h=>hn (hm i (by simp[h])).2)]
theorem DO (hn:Rel none none){C:Et}{call:Aj}{f:FuncId}{c:Call}{K:St->Option R}{K':St->Option R'}{S:Nat->Prop}(Gv:c.args.toList.map (A7 tm)=c.args.toList.map (A7 tm')) (hS:∀i,S i->hp i=Cc i∨(hp i=none∧∀b,Rel none b))
  (hp_:∀p∈c.args.toList.map (A7 tm'),∀i∈A5 p,S i) (hc:∀p∈c.args.toList.map (A7 tm'),∀i∈A5 p,∀c,Cc i=some (.st c)->∀q∈c,∀k∈Ai q,S k)
  (QC:∀d,o.dst=some d->hp d=Cc d)(hNN:∀i,N<=i->hp i=Cc i)
  (hK:∀v Bq Da,Xv N S o.dst hp Cc Bq Da->Rel (K ⟨Az tm o.dst v,Bq⟩) (K' ⟨Az tm' o.dst v,Da⟩)):Rel (R3 C P N call ⟨tm,hp⟩ o f c K) (R3 C P N call ⟨tm',Cc⟩ o f c K'):=by
 unfold R3;simp only[Gv];refine Vy hn hS hp_ hc fun vs m x l hm=>An hn fun hb=>Yf hn fun rv ro=>R6 hn fun ws bs Xg=>An hn fun _=>?_
 simp only[Bool.and_eq_true] at hb;have hN:0<N:=Nat.lt_of_succ_le (Nat.le_of_ble_eq_true hb.1.2);rw[FI hNN hN];by_cases XT:∃i∈l.flatMap Ef.ids,hp i≠Cc i
 ·obtain⟨i,hi,Hh⟩:=XT;obtain⟨h1,h2⟩:=hm i (List.mem_append.2 (.inr hi));rcases hS i h2 with h|⟨h,_⟩
  ·exact absurd h Hh
  ·exact absurd h h1
 have hl:∀i∈l.flatMap Ef.ids,hp i≠none∧S i∧hp i=Cc i:=fun i hi=>⟨(hm i (List.mem_append.2 (.inr hi))).1,(hm i (List.mem_append.2 (.inr hi))).2,Classical.byContradiction fun h=>XT ⟨i,hi,h⟩⟩
 have hT0:Xv N S o.dst hp Cc (Na (Ac hp m) x) (Na (Ac Cc m) x):=Ad3 fun i hi=>hm i (List.mem_append.2 (.inl hi))
 refine N3 hn hT0 hl fun h0 h1 bs' hT Akf=>?_
 have PE:∀q∈bs++bs',N<=q.1∨o.dst=some q.1:=by
  intro q hq;rcases List.mem_append.1 hq with hq|hq
  ·obtain⟨j,hj⟩:=Xg q hq;cases hd:o.dst with
   |none=>
    rw[hd] at hj;left;rw[hj];exact Nat.le_add_right _ _
   |some d=>
    rw[hd] at hj;change q.1=d+N*j at hj;cases j with
    |zero=>right;rw[hj];simp
    |succ j=>left;rw[hj,Nat.mul_add];omega
  ·obtain⟨k,hk⟩:=Akf q hq;left;rw[hk];unfold GW;exact Nat.le_mul_of_pos_right _ (by omega)
 have S2:∀q∈bs++bs',h0 q.1=h1 q.1:=by
  intro q hq;refine hT.same q.1 ?_;rcases PE q hq with h|h
  ·exact hNN _ h
  ·exact QC _ h
 rw[Yi S2]
 exact An hn fun hb=>hK _ _ _ (W2 hT hT PE fun q hq=>by
  cases hz:hp q.1 with
  |none=>rfl
  |some c=>exact absurd ((S2 q hq).trans ((Aw hb).1 q.1 q.2 hq)) (hT.keep q.1 (by rw[hz];simp)))
theorem G1 (hn:Rel none none){C:Et}{call:Aj}{K:St->Option R}{K':St->Option R'}(Gv:∀x∈o.op.operands.toList,A7 tm x=A7 tm' x)
  (hS:∀i,P1 o tm' Cc i->hp i=Cc i∨(hp i=none∧∀b,Rel none b)) (QC:∀d,o.dst=some d->hp d=Cc d)(hNN:∀i,N<=i->hp i=Cc i)
  (hK:∀v Bq Da,Xv N (P1 o tm' Cc) o.dst hp Cc Bq Da->Rel (K ⟨Az tm o.dst v,Bq⟩) (K' ⟨Az tm' o.dst v,Da⟩)):Rel (Ow C P N call ⟨tm,hp⟩ o K) (Ow C P N call ⟨tm',Cc⟩ o K'):=by
 unfold Ow;have hl:∀x∈o.op.operands.toList,∀i∈A5 (A7 tm' x),P1 o tm' Cc i:=fun x hx i hi=>.inl ⟨x,hx,hi⟩
 have CV:Iz o.op=false->∀x∈o.op.operands.toList,∀i∈A5 (A7 tm' x),∀c,Cc i=some (.st c)->∀q∈c,∀k∈Ai q,P1 o tm' Cc k:=fun ha x hx i hi c hc q hq k hk=>.inr ⟨ha,i,c,⟨x,hx,hi⟩,hc,q,hq,hk⟩
 generalize hLd:P1 o tm' Cc=S at *
 generalize QM:o.op=op at *
 split
 ·rename_i t x y;simp only[Gv x (by simp[Op.operands]),Gv y (by simp[Op.operands])]
  refine An hn fun hd=>EC (N:=N) hn hS (fun i hi=>hl x (by simp[Op.operands]) i (G8 hi)) (fun i hi=>hl y (by simp[Op.operands]) i (Dm hi)) fun Bq Da hh=>?_
  have hd':=Option.isNone_iff_eq_none.1 hd;have:=hK .top Bq Da (by rw[hd'];exact hh)
  rw[hd'] at this;exact this
 ·rename_i c
  have G7:∀x∈c.args.toList,x∈(Op.call c).operands.toList:=by
   intro x hx;simp only[Op.operands,Call.operands,Array.toList_append,List.mem_append];exact .inr hx
  split
  ·rename_i hc;refine B4 hn fun d hd=>Av hn fun x _ hx=>Av hn fun y _ hy=>C6 hn (Av hn fun _ _ _=>Av hn fun _ _ _=>?_)
   subst hy;have NX:=G7 x (by rw[hx];simp)
   have hym:=G7 y (by rw[hx];simp)
   simp only[Gv x NX,Gv y hym];refine Q6 hn hS (QC d hd) (fun i hi=>hl x NX i (Dm hi)) (fun i hi=>hl y hym i (Dm hi)) fun v Bq Da hh=>?_
   have:=hK v Bq Da (by rw[hd];exact hh N)
   rw[hd] at this;exact this
  ·rename_i hc;refine Av hn fun x _ hx=>Av hn fun y _ hy=>C6 hn (Av hn fun _ _ _=>Av hn fun _ _ _=>?_)
   subst hy;have NX:=G7 x (by rw[hx];simp)
   have hym:=G7 y (by rw[hx];simp)
   simp only[Gv x NX,Gv y hym];exact IX hn hS (fun i hi=>hl x NX i (Dm hi)) (fun i hi=>hl y hym i (Dm hi)) hK
  ·rename_i f hcf;refine DO hn (List.map_congr_left fun x hx=>Gv x (G7 x hx)) hS (fun p hp i hi=>?_) (fun p hp i hi=>?_) QC hNN hK
   ·obtain⟨x,hx,rfl⟩:=List.mem_map.1 hp;exact hl x (G7 x hx) i hi
   ·obtain⟨x,hx,rfl⟩:=List.mem_map.1 hp;exact CV (by simp only[Iz,hcf]) x (G7 x hx) i hi
  ·exact hn
 ·exact hn
theorem We (hn:Rel none none){C:Et}{call:Aj}{K:St->Option R}{K':St->Option R'}(Gv:∀x∈o.op.operands.toList,A7 tm x=A7 tm' x)(hK:∀v Bq,(∀i,hp i≠none->Bq i≠none)->Rel (K ⟨Az tm o.dst v,Bq⟩) (K' ⟨Az tm' o.dst v,Bq⟩)):Rel (Ow C P N call ⟨tm,hp⟩ o K) (Ow C P N call ⟨tm',hp⟩ o K'):=
 G1 hn Gv (fun _ _=>.inl rfl) (fun _ _=>rfl) (fun _ _=>rfl) fun v Bq Da hT=>by
  have:Bq=Da:=funext fun i=>hT.same i rfl
  subst this;exact hK v Bq hT.keep
end
section
variable {R:Type} {r:R} {C:Et} {P:Program} {N:Nat} {call:Aj} {ops:Array Oper} {o x:Oper} {s:St} {K:St->Option R}
theorem CK {tm:Nat->PV}{hp Bq:Nat->Option A1}{tm':Nat->PV}{q:Pr}(hm:Ez P o.op=false)(ht:∀t∈Cg ops o,tm t=tm' t)(h:gE C P N call ops o ⟨tm,hp⟩=some q):gE C P N call ops o ⟨tm',Bq⟩=some q:=
 Rb (s:=⟨tm,hp⟩) (s':=⟨tm',Bq⟩) ht (fun h=>by rw[hm] at h;cases h) h
theorem Sa {tm:Nat->PV}{hp:Nat->Option A1}(hm:Ez P o.op=false)(h:B7 C P N call ops o ⟨tm,hp⟩ K=some r):
  ∃v nw,gE C P N call ops o ⟨tm,hp⟩=some (v,[],nw)∧D3 N o.dst=true∧A2 hp nw=true∧(∀p∈nw,o.dst=some p.1)∧K ⟨Az tm o.dst v,Ak hp nw⟩=some r:=by
 have hM:Lg C P o.op=false:=by
  cases hh:Lg C P o.op
  ·rfl
  ·rw[Q5 hh] at hm;cases hm
 rw[Hb (by simp[Ej,hM])] at h
 cases e:gE C P N call ops o ⟨tm,hp⟩ with
 |none=>rw[e] at h;cases h
 |some q=>
  obtain⟨v,fz,nw⟩:=q;obtain⟨h1,h2⟩:=(Nf e).1 hm;simp only at h1 h2;subst h1;rw[e] at h;obtain⟨hb,h⟩:=Ae h;simp only[Bool.and_eq_true] at hb;exact⟨v,nw,rfl,hb.1,hb.2,h2,h⟩
theorem Vu {tm:Nat->PV}{hp:Nat->Option A1}{v:PV}{nw:List (Nat × A1)} (hm:Ez P o.op=false)(e:gE C P N call ops o ⟨tm,hp⟩=some (v,[],nw)) (hd:D3 N o.dst=true)(ha:A2 hp nw=true)(h:K ⟨Az tm o.dst v,Ak hp nw⟩=some r):B7 C P N call ops o ⟨tm,hp⟩ K=some r:=by
 have hM:Lg C P o.op=false:=by
  cases hh:Lg C P o.op
  ·rfl
  ·rw[Q5 hh] at hm;cases hm
 rw[Hb (by simp[Ej,hM]),e]
 show Ar _ _=_;have QP:A2 hp nw=true:=ha;rw[hd,QP];exact h
theorem Im {hp:Nat->Option A1}{nw:List (Nat × A1)} (ha:A2 hp nw=true){i:Nat}(hi:∀p∈nw,p.1≠i):Ak hp nw i=hp i:=
 (Cr (Aw ha).2).2 i fun b hb=>hi _ hb rfl
theorem RZ {hp Bq:Nat->Option A1}{nw:List (Nat × A1)} (ha:A2 hp nw=true){g:Nat->Option A1}(h1:∀i,(∀p∈nw,p.1≠i)->g i=Bq i) (h2:∀i,(∃p∈nw,p.1=i)->g i=Ak hp nw i) (QP:A2 Bq nw=true):g=Ak Bq nw:=by
 funext i
 by_cases h:∃p∈nw,p.1=i
 ·rw[h2 i h];obtain⟨⟨j,b⟩,hp,rfl⟩:=h;rw[(Cr (Aw ha).2).1 j b hp,(Cr (Aw QP).2).1 j b hp]
 ·have h':∀p∈nw,p.1≠i:=fun p hp e=>h ⟨p,hp,e⟩
  rw[h1 i h',Im QP h']
theorem ZR (ap:Qh C P ops x o)(hx:Ej C P ops x s.tm=true)
  (h:B7 C P N call ops x s (fun s1=>B7 C P N call ops o s1 K)=some r):B7 C P N call ops o s (fun s1=>B7 C P N call ops x s1 K)=some r:=by
 have hm:Ez P o.op=false:=ap.mx (by unfold Ej at hx;simp only[Bool.and_eq_true] at hx;exact hx.1)
 rw[Fo hx] at h;obtain⟨tm,hp⟩:=s;have look:∀v,∀t∈Cg ops o,Az tm x.dst v t=tm t:=fun v=>Cz ap.xo
 have h1:=G1 (P:=P) (N:=N) (o:=x) (tm:=tm) (tm':=tm) (hp:=hp) (Cc:=hp) (K:=fun s1=>B7 C P N call ops o s1 K) (K':=fun _=>none)
  (Rel:=fun (a:Option R)(_:Option R)=>a=some r->∃v nw,gE C P N call ops o ⟨tm,hp⟩=some (v,[],nw)∧D3 N o.dst=true∧(∀p∈nw,o.dst=some p.1)∧A2 hp nw=true) (fun h=>by cases h) (fun _ _=>rfl) (fun _ _=>.inl rfl) (fun _ _=>rfl) (fun _ _=>rfl) (fun v Bq _ hT h=>by
   obtain⟨u,nw,hu,hd,ha,hn,_⟩:=Sa hm h;refine⟨u,nw,CK hm (look v) hu,hd,hn,Kx ha fun i b hi=>?_⟩
   cases hh:hp i with
   |none=>rfl
   |some c=>exact absurd ((Aw ha).1 i b hi) (hT.keep i (by rw[hh];simp))) h
 obtain⟨v,nw,hv,hd,hn,ha⟩:=h1;refine Vu hm hv hd ha ?_;have t2:∀t∈Cg ops x,tm t=Az tm o.dst v t:=fun t ht=>(Cz ap.ox t ht).symm
 rw[Fo (by rw[←Ev t2];exact hx)]
 refine G1 (P:=P) (N:=N) (o:=x) (tm:=tm) (tm':=Az tm o.dst v) (hp:=hp) (Cc:=Ak hp nw) (Rel:=fun (a b:Option R)=>a=some r->b=some r) (fun h=>by cases h) (Dg t2) (fun i _=>?_) (fun d hxd=>?_) (fun i hi=>(Im ha fun p hp e=>by have:=K1 hd (hn p hp);omega).symm) (fun u Bq Da hT h=>?_) h
 ·by_cases hi:∃p∈nw,p.1=i
  ·obtain⟨⟨j,b⟩,Cc,rfl⟩:=hi;exact .inr ⟨(Aw ha).1 j b Cc,fun _ h=>by cases h⟩
  ·exact .inl (Im ha fun p hp e=>hi ⟨p,hp,e⟩).symm
 ·refine (Im ha fun p hp e=>?_).symm
  have:=hn p hp;rw[e] at this;exact ap.ne d hxd this
 ·obtain⟨v',nw',Jy,_,QP,_,h'⟩:=Sa hm h;have he:=CK (Bq:=hp) hm (look u) Jy;rw[hv] at he;simp only[Option.some.injEq,Prod.mk.injEq,true_and] at he;obtain⟨rfl,rfl⟩:=he
  have hh:Da=Ak Bq nw:=by
   refine RZ ha (fun i hi=>?_) (fun i hi=>?_) QP
   ·exact (hT.same i (Im ha hi).symm).symm
   ·obtain⟨⟨j,b⟩,Cc,rfl⟩:=hi;refine (hT.off j (K1 hd (hn _ Cc)) (fun e=>ap.ne j e (hn _ Cc)) (.inr ((Aw ha).1 j b Cc))).2
  rw[hh,←Gy ap.ne];exact h'
theorem YU (hw:GQ C P o s)(ap:Qh C P ops x o)(ho:Ej C P ops o s.tm=true)
  (h:B7 C P N call ops x s (fun s1=>B7 C P N call ops o s1 K)=some r):B7 C P N call ops o s (fun s1=>B7 C P N call ops x s1 K)=some r:=by
 have hm:Ez P x.op=false:=ap.mo (by unfold Ej at ho;simp only[Bool.and_eq_true] at ho;exact ho.1)
 obtain⟨tm,hp⟩:=s;obtain⟨v,nw,hv,hd,ha,hn,h1⟩:=Sa hm h;have t1:∀t∈Cg ops o,Az tm x.dst v t=tm t:=Cz ap.xo;change B7 C P N call ops o ⟨Az tm x.dst v,Ak hp nw⟩ K=some r at h1;rw[Fo (by rw[Ev t1];exact ho)] at h1
 rw[Fo ho];have XV:Lg C P o.op=true:=by unfold Ej at ho;simp only[Bool.and_eq_true] at ho;exact ho.1
 have Abr:∀i,P1 o tm hp i->hp i≠none:=by
  rintro i (⟨y,hy,hi⟩|⟨M3,id,c,⟨y,hy,hi⟩,hc,p,Cc,hk⟩)
  ·exact hw.1 y hy i hi
  ·exact hw.2 XV M3 y hy id hi c hc p Cc i hk
 refine G1 (P:=P) (N:=N) (o:=o) (tm:=Az tm x.dst v) (tm':=tm) (hp:=Ak hp nw) (Cc:=hp) (Rel:=fun (a b:Option R)=>a=some r->b=some r) (fun h=>by cases h) (Dg t1) (fun i hi=>?_) (fun d hod=>?_) (fun i hi=>Im ha fun p hp e=>by have:=K1 hd (hn p hp);omega) (fun u Bq Da hT h=>?_) h1
 ·refine .inl (Im ha fun p Bq e=>Abr i hi ?_)
  rw[←e];exact (Aw ha).1 p.1 p.2 Bq
 ·refine Im ha fun p Bq e=>?_
  have:=hn p Bq;rw[e] at this;exact ap.ne d this hod
 ·have J9:∀p∈nw,Bq p.1=Ak hp nw p.1∧Da p.1=none:=by
   intro p hp2;have FU:=(Aw ha).1 p.1 p.2 hp2;have h3:=hT.off p.1 (K1 hd (hn p hp2)) (fun e=>ap.ne p.1 (hn p hp2) e) (.inl fun hL=>Abr _ hL FU)
   exact⟨h3.1,h3.2.trans FU⟩
  have QP:A2 Da nw=true:=Kx ha fun i b hi=>(J9 (i,b) hi).2
  refine Vu hm (CK hm (fun t ht=>(Cz ap.ox t ht).symm) hv) hd QP ?_
  have hh:Bq=Ak Da nw:=by
   refine RZ ha (fun i hi=>?_) (fun i hi=>?_) QP
   ·exact hT.same i (Im ha hi)
   ·obtain⟨p,hp2,rfl⟩:=hi;exact (J9 p hp2).1
  rw[←Gy ap.ne,←hh];exact h
theorem Ae4 (hw:GQ C P o s)(ap:Qh C P ops x o)
  (h:B7 C P N call ops x s (fun s1=>B7 C P N call ops o s1 K)=some r):B7 C P N call ops o s (fun s1=>B7 C P N call ops x s1 K)=some r:=by
 cases hx:Ej C P ops x s.tm
 ·cases ho:Ej C P ops o s.tm
  ·exact MA hw ap.xo ap.ne ap.ox hx ho h
  ·exact YU hw ap ho h
 ·exact ZR ap hx h
theorem Gz (h:Np P o.op=true):Lg C P o.op=false:=by
 unfold Np at h;split at h
 ·rename_i ho;rw[ho];rfl
 ·rename_i ho;rw[ho];rfl
 ·cases h
def Xt (P:Program)(ops:Array Oper)(o:Oper)(tm:Nat->PV):Prop:=Np P o.op=true∨Er ops o tm=some false
theorem P6 {tm tm':Nat->PV}(h:∀t∈Cg ops o,tm t=tm' t)(hl:Xt P ops o tm):Xt P ops o tm':=by
 rcases hl with hl|hl
 ·exact .inl hl
 ·exact .inr (by rw[←Hi h];exact hl)
theorem Yb {tm:Nat->PV}(hl:Xt P ops o tm):Ej C P ops o tm=false:=by
 rcases hl with hl|hl
 ·simp[Ej,Gz hl]
 ·simp[Ej,hl]
theorem MH {q:Pr}(hl:Xt P ops o s.tm)(h:gE C P N call ops o s=some q):q.2.1=[]∧q.2.2=[]:=by
 unfold gE at h;split at h
 ·cases h
 ·rename_i hv
  have hl:Np P o.op=true:=by
   rcases hl with hl|hl
   ·exact hl
   ·rw[hv] at hl;cases hl
  rw[Gz hl] at h;have h:PF C P N call o s=some q:=h;unfold Np at hl;split at hl
  ·rename_i t a ho;unfold PF V0 at h;rw[ho] at h
   have:=Yq (nz:=C.nz N) (P:=P) (f:=rd s.hp) (f':=rd s.hp) (g:=Gj s.hp) (g':=Gj s.hp) (t:=t) (x:=A7 s.tm a) (Rel:=fun (a b:Option Pr)=>∀q,a=some q->q.2.1=[]∧q.2.2=[])
    (K:=fun v=>some (v,[],[])) (K':=fun v=>some (v,[],[])) (fun _ h=>by cases h) (fun _ _=>.inl ⟨rfl,rfl⟩) (fun v q hq=>by cases hq;exact⟨rfl,rfl⟩)
   exact this q h
  ·rename_i src dst y ho;unfold PF V0 at h;rw[ho] at h;simp only at h;unfold Wm at h;split at hl
   ·rename_i hd;rw[hd] at h;simp only at h;split at h
    ·obtain⟨_,_,h⟩:=Cb h;obtain⟨_,_,h⟩:=Bn h;cases h;exact⟨rfl,rfl⟩
    ·split at h
     ·exact Q8 (f:=Gj s.hp) (f':=Gj s.hp) (K':=fun _ _=>(none:Option Pr)) (Rel:=fun (a _:Option Pr)=>a=some q->q.2.1=[]∧q.2.2=[]) (fun h=>by cases h) (fun _ _=>.inl rfl) (fun n c h=>by
       obtain⟨_,h⟩:=Ae h;obtain⟨_,_,h⟩:=Bn h;obtain⟨_,_,h⟩:=Bn h;cases h;exact⟨rfl,rfl⟩) h
     ·cases h
    ·cases h
   ·cases hl
  ·cases hl
 ·cases h;exact⟨rfl,rfl⟩
theorem PC {tm tm':Nat->PV}{hp:Nat->Option A1}(h:∀t∈Cg ops o,tm t=tm' t){i:Nat}(hi:P1 o tm hp i):P1 o tm' hp i:=by
 have he:=Dg (ops:=ops) (o:=o) h;rcases hi with⟨y,hy,hi⟩|⟨M3,id,c,⟨y,hy,hi⟩,hc,q⟩
 ·exact .inl ⟨y,hy,by rw[←he y hy];exact hi⟩
 ·exact .inr ⟨M3,id,c,⟨y,hy,by rw[←he y hy];exact hi⟩,hc,q⟩
theorem Aal {hp Bq:Nat->Option A1}{i:Nat}(h:Bq i=hp i):rd Bq i=rd hp i∧Gj Bq i=Gj hp i:=by
 unfold rd Gj;rw[h];exact⟨rfl,rfl⟩
theorem Sf {tm:Nat->PV}{hp:Nat->Option A1}(hl:Xt P ops o tm)(h:B7 C P N call ops o ⟨tm,hp⟩ K=some r):
  ∃v,gE C P N call ops o ⟨tm,hp⟩=some (v,[],[])∧D3 N o.dst=true∧K ⟨Az tm o.dst v,hp⟩=some r:=by
 rw[Hb (Yb hl)] at h;cases e:gE C P N call ops o ⟨tm,hp⟩ with
 |none=>rw[e] at h;cases h
 |some q=>
  obtain⟨v,fz,nw⟩:=q;obtain⟨h1,h2⟩:=MH hl e;simp only at h1 h2;subst h1;subst h2;rw[e] at h;obtain⟨hb,h⟩:=Ae h;simp only[Bool.and_eq_true] at hb;exact⟨v,rfl,hb.1,h⟩
theorem Vj {tm:Nat->PV}{hp:Nat->Option A1}{v:PV}(hl:Xt P ops o tm)(e:gE C P N call ops o ⟨tm,hp⟩=some (v,[],[])) (hd:D3 N o.dst=true)(h:K ⟨Az tm o.dst v,hp⟩=some r):B7 C P N call ops o ⟨tm,hp⟩ K=some r:=by
 rw[Hb (Yb hl),e];show Ar _ _=_;have ha:A2 hp []=true:=rfl;simp only[hd,ha,Bool.and_self];exact h
theorem YZ (hw:GQ C P o s)(xo:∀d,x.dst=some d->d ∉ Cg ops o)(ne:∀d,x.dst=some d->o.dst≠some d)(ox:∀d,o.dst=some d->d ∉ Cg ops x)(hl:Xt P ops o s.tm)
  (EI:∀y∈o.op.operands.toList,∀i∈A5 (A7 s.tm y),¬P1 x s.tm s.hp i) (hx:Ej C P ops x s.tm=true)
  (h:B7 C P N call ops x s (fun s1=>B7 C P N call ops o s1 K)=some r):B7 C P N call ops o s (fun s1=>B7 C P N call ops x s1 K)=some r:=by
 rw[Fo hx] at h;obtain⟨tm,hp⟩:=s;have look:∀v,∀t∈Cg ops o,Az tm x.dst v t=tm t:=fun v=>Cz xo
 have back:∀{u:PV} {Bq:Nat->Option A1} {q:Pr},(∀y∈o.op.operands.toList,∀i∈A5 (A7 tm y),Bq i=hp i)->gE C P N call ops o ⟨Az tm x.dst u,Bq⟩=some q->gE C P N call ops o ⟨tm,hp⟩=some q:=
  fun hh e=>Rb (s:=⟨Az tm x.dst _,_⟩) (s':=⟨tm,hp⟩) (look _) (fun _ y hy i hi=>.inl (Aal (hh y hy i hi))) e
 have h1:=G1 (P:=P) (N:=N) (o:=x) (tm:=tm) (tm':=tm) (hp:=hp) (Cc:=hp) (K:=fun s1=>B7 C P N call ops o s1 K) (K':=fun _=>none)
  (Rel:=fun (a:Option R)(_:Option R)=>a=some r->∃v,gE C P N call ops o ⟨tm,hp⟩=some (v,[],[])∧D3 N o.dst=true) (fun h=>by cases h) (fun _ _=>rfl) (fun _ _=>.inl rfl) (fun _ _=>rfl) (fun _ _=>rfl) (fun v Bq _ hT h=>by
   obtain⟨u,hu,hd,_⟩:=Sf (P6 (fun t ht=>(look v t ht).symm) hl) h
   exact⟨u,back (fun y hy i hi=>hT.far i (EI y hy i hi) (hw.1 y hy i hi)) hu,hd⟩) h
 obtain⟨v,hv,hd⟩:=h1;refine Vj hl hv hd ?_;have t2:∀t∈Cg ops x,tm t=Az tm o.dst v t:=fun t ht=>(Cz ox t ht).symm
 rw[Fo (by rw[←Ev t2];exact hx)]
 refine G1 (P:=P) (N:=N) (o:=x) (tm:=tm) (tm':=Az tm o.dst v) (hp:=hp) (Cc:=hp) (Rel:=fun (a b:Option R)=>a=some r->b=some r) (fun h=>by cases h) (Dg t2) (fun _ _=>.inl rfl) (fun _ _=>rfl) (fun _ _=>rfl) (fun u Bq Da hT h=>?_) h
 have e1:Bq=Da:=funext fun i=>hT.same i rfl
 subst e1;obtain⟨v',Jy,_,h'⟩:=Sf (P6 (fun t ht=>(look u t ht).symm) hl) h
 have he:=back (fun y hy i hi=>hT.far i (fun hR=>EI y hy i hi (PC (fun t ht=>(t2 t ht).symm) hR)) (hw.1 y hy i hi)) Jy
 rw[hv] at he;simp only[Option.some.injEq,Prod.mk.injEq,and_true] at he;subst he;rw[←Gy ne];exact h'
theorem YF (xo:∀d,x.dst=some d->d ∉ Cg ops o)(ne:∀d,x.dst=some d->o.dst≠some d)(ox:∀d,o.dst=some d->d ∉ Cg ops x)(hl:Xt P ops x s.tm)
  (EI:∀y∈x.op.operands.toList,∀i∈A5 (A7 s.tm y),¬P1 o s.tm s.hp i) (ho:Ej C P ops o s.tm=true)
  (h:B7 C P N call ops x s (fun s1=>B7 C P N call ops o s1 K)=some r):B7 C P N call ops o s (fun s1=>B7 C P N call ops x s1 K)=some r:=by
 obtain⟨tm,hp⟩:=s;obtain⟨v,hv,hd,h1⟩:=Sf hl h;have t1:∀t∈Cg ops o,Az tm x.dst v t=tm t:=Cz xo;rw[Fo (by rw[Ev t1];exact ho)] at h1
 rw[Fo ho];refine G1 (P:=P) (N:=N) (o:=o) (tm:=Az tm x.dst v) (tm':=tm) (hp:=hp) (Cc:=hp) (Rel:=fun (a b:Option R)=>a=some r->b=some r) (fun h=>by cases h) (Dg t1) (fun _ _=>.inl rfl) (fun _ _=>rfl) (fun _ _=>rfl) (fun u Bq Da hT h=>?_) h1
 have e1:Bq=Da:=funext fun i=>hT.same i rfl
 subst e1;have t2:∀t∈Cg ops x,tm t=Az tm o.dst u t:=fun t ht=>(Cz ox t ht).symm
 refine Vj (P6 t2 hl) (Rb (s:=⟨tm,hp⟩) (s':=⟨Az tm o.dst u,Bq⟩) t2 (fun _ y hy i hi=>?_) hv) hd ?_
 ·have hi:i∈A5 (A7 tm y):=by rw[Dg t2 y hy];exact hi
  by_cases hn:hp i=none
  ·exact .inr ⟨LX hn,Ho hn⟩
  ·obtain⟨h3,h4⟩:=Aal (hT.far i (EI y hy i hi) hn);exact .inl ⟨h3.symm,h4.symm⟩
 ·rw[←Gy ne];exact h
def Y6 (P:Program)(x:Oper)(s s1:St):Prop:=(∀t,x.dst≠some t->s1.tm t=s.tm t)∧(∀i,s.hp i≠none->s1.hp i≠none)∧(Ez P x.op=false->∀i,s.hp i≠none->s1.hp i=s.hp i)
theorem J5 {tm:Nat->PV}{d:Option Tmp}{v:PV}{t:Nat}(h:d≠some t):Az tm d v t=tm t:=by
 cases d with
 |none=>rfl
 |some d=>exact Ad _ _ (by rintro rfl;exact h rfl)
theorem Vx {K':St->Option R}(h:B7 C P N call ops x s K=some r)(hK:∀s1,Y6 P x s s1->K s1=some r->K' s1=some r):B7 C P N call ops x s K'=some r:=by
 cases hx:Ej C P ops x s.tm
 ·rw[Hb hx] at h ⊢;cases ex:gE C P N call ops x s with
  |none=>rw[ex] at h;cases h
  |some q=>
   rw[ex] at h;obtain⟨hb,h1⟩:=Ae h;simp only[Bool.and_eq_true] at hb;show Ar _ _=_;rw[hb.1,hb.2];refine hK _ ⟨fun t ht=>J5 ht,fun i hi=>Jc hb.2 hi,fun hm i hi=>?_⟩ h1
   show Ak (Ac s.hp q.2.1) q.2.2 i=s.hp i;rw[Dz hb.2 hi,((Nf ex).1 hm).1];simp
 ·rw[Fo hx] at h ⊢
  exact We (P:=P) (N:=N) (o:=x) (tm:=s.tm) (tm':=s.tm) (hp:=s.hp) (Rel:=fun (a b:Option R)=>a=some r->b=some r) (fun h=>by cases h) (fun _ _=>rfl) (fun v Bq hh h=>hK _ ⟨fun t ht=>J5 ht,hh,fun hm=>by
   have hM:Lg C P x.op=true:=by unfold Ej at hx;simp only[Bool.and_eq_true] at hx;exact hx.1
   rw[Q5 hM] at hm;cases hm⟩ h) h
theorem GQ.keeps {s1:St}(h:GQ C P o s)(ap:Qh C P ops x o)(hk:Y6 P x s s1):GQ C P o s1:=by
 have QM:∀y∈o.op.operands.toList,A7 s1.tm y=A7 s.tm y:=fun y hy=>Dg (ops:=ops) (o:=o) (fun t ht=>hk.1 t fun hd=>ap.xo t hd ht) y hy
 refine⟨fun y hy i hi=>?_,fun hM hA y hy i hi c hc p hp k hkk=>?_⟩
 ·rw[QM y hy] at hi;exact hk.2.1 i (h.1 y hy i hi)
 ·rw[QM y hy] at hi;have HJ:=h.1 y hy i hi;rw[hk.2.2 (ap.mo hM) i HJ] at hc;exact hk.2.1 k (h.2 hM hA y hy i hi c hc p hp k hkk)
theorem Wd:∀(l:List Oper){s:St}{K:St->Option R},GQ C P o s->(∀x∈l,Qh C P ops x o)->Je C P N call ops l s (fun s1=>B7 C P N call ops o s1 K)=some r->B7 C P N call ops o s (fun s1=>Je C P N call ops l s1 K)=some r
 |[],_,_,_,_,h=>h
 |x::l,s,K,hw,ap,h=>by
  refine Ae4 hw (ap x (by simp)) ?_
  refine Vx (K:=fun s1=>Je C P N call ops l s1 (fun s2=>B7 C P N call ops o s2 K)) h fun s1 hk h1=>?_
  exact Wd l (hw.keeps (ap x (by simp)) hk) (fun y hy=>ap y (List.mem_cons_of_mem _ hy)) h1
theorem Mw:∀(l l':List Oper){s:St}{K:St->Option R},Je C P N call ops (l++l') s K=Je C P N call ops l s (fun s1=>Je C P N call ops l' s1 K)
 |[],_,_,_=>rfl
 |x::l,l',s,K=>by
  show B7 C P N call ops x s (fun s1=>Je C P N call ops (l++l') s1 K)=B7 C P N call ops x s (fun s1=>Je C P N call ops l s1 _)
  congr 1
  funext s1
  exact Mw l l'
theorem ON {l l':List Oper}(hw:GQ C P o s)(ap:∀x∈l,Qh C P ops x o)(h:Je C P N call ops (l++o::l') s K=some r):B7 C P N call ops o s (fun s1=>Je C P N call ops (l++l') s1 K)=some r:=by
 rw[Mw] at h;have:=Wd l hw ap h;refine Vx this fun s1 _ h1=>?_
 rw[Mw];exact h1
end
open Go.RowKit
section
variable {R:Type} {r:R} {P:Program} {N:Nat} {w0:World} {X0:E6} {Y:Nat->Prop} {β β':Bt} {s:St} {a:Act} {w w':World} {o:Oper} {ops:Array Oper} {C:Et} {call:Aj} {K:St->Option R}
theorem Vo (h:Br N w0 X0 Y β s a w){j d:Nat}(hd:(ops[j]?).bind (·.dst)=some d) {v:Value}(ht:s.tm d=.sc v):yielded ops a.tmps j=match v with | .bool b=>some b|_=>none:=by
 have Bl:d<N:=by
  rcases Nat.lt_or_ge d N with h'|h'
  ·exact h'
  ·rw[h.tmo d h'] at ht;cases ht
 have hv:=h.tms d Bl;rw[ht] at hv;have hv:=Sx hv;have TF:d<a.tmps.size:=by rw[h.tsz];exact Bl
 have he:a.tmps[d]?=some v:=by
  rw[Array.getElem?_eq_getElem TF];simp[TF] at hv;rw[hv]
 unfold yielded;rw[hd];simp only[Option.bind_some,he];cases v<;>rfl
theorem Pi (h:Br N w0 X0 Y β s a w){G:Glo}(Hg:ES P G w0 X0)(Cj:∀f args res,call f args=some res->De G P f args res){i:Nat}(hi:ops[i]?=some o) (hk:B7 C P N call ops o s K=some r):
  ∃s',K s'=some r∧∀(next:Act->World->Prop) (Q:Exit->Act->World->Prop),(∀a' w' β',Br N w0 X0 Y β' s' a' w'->next a' w')->wpOp P ops Q i next a w:=by
 rw[AO] at hk
 have hw:∀b,Er ops o s.tm=some b->Region.wanted o (yielded ops a.tmps)=b:=by
  intro b hb;unfold Er at hb;unfold Region.wanted;cases hg:o.guard with
  |none=>rw[hg] at hb;simpa using hb
  |some q=>
   obtain⟨j,want⟩:=q;rw[hg] at hb;simp only at hb ⊢;cases hd:(ops[j]?).bind (·.dst) with
   |none=>rw[hd] at hb;cases hb
   |some d=>
    rw[hd] at hb;simp only at hb;split at hb
    ·rename_i b' ht;rw[Vo h hd ht];simp at hb;rw[←hb];cases b'<;>cases want<;>rfl
    ·rename_i ht;rw[Vo h hd ht];simp at hb;rw[hb];rfl
    ·cases hb
 split at hk
 ·cases hk
 ·rename_i hv;obtain⟨s',XY,hn⟩:=IR h Hg Cj hk;refine⟨s',XY,fun next Q RG=>?_⟩
  unfold wpOp;rw[hi];simp only[hw _ hv,if_true];exact .inl (hn next Q RG)
 ·rename_i hv;obtain⟨hd,hk⟩:=Ae hk;refine⟨_,hk,fun next Q RG=>?_⟩
  unfold wpOp;rw[hi];simp only[hw _ hv];refine RG _ _ β (h.put hd (Ao.sc _) (by simp[A5,Bf,Ai]))
theorem Br.known (h:Br N w0 X0 Y β s a w){d:Nat}(hd:s.tm d=.ub):∃b,Br N w0 X0 Y β ⟨Bg s.tm d (.sc (.bool b)),s.hp⟩ a w:=by
 have Bl:d<N:=by
  rcases Nat.lt_or_ge d N with h'|h'
  ·exact h'
  ·rw[h.tmo d h'] at hd;cases hd
 have hu:=h.tms d Bl;rw[hd] at hu;have Fz:Ao w (Bz s.hp β Y) .ub (a.tmps.getD d undef):=hu
 obtain⟨b,hv⟩:∃b,a.tmps.getD d undef=.bool b:=by
  generalize a.tmps.getD d undef=x at Fz;cases Fz with
  |ub b=>exact⟨b,rfl⟩
 refine⟨b,⟨h.dfr,h.tsz,fun i hi=>?_,fun i hi=>?_,h.box,h.inj,h.blt,fun i hi=>?_,h.wfB,h.ownd,h.rngB,h.pin,h.stp,h.Yx,h.Ylt,h.fr⟩⟩
 ·show Bg s.tm d _ i=_;rw[Ad _ _ (by omega)]
  exact h.tmo i hi
 ·by_cases e:i=d
  ·subst e;show Cu _ _ _ (Bg s.tm i _ i) _;rw[Af,hv];exact Ao.sc _
  ·show Cu _ _ _ (Bg s.tm d _ i) _;rw[Ad _ _ e];exact h.tms i hi
 ·by_cases e:i=d
  ·subst e;show ∀id∈A5 (Bg s.tm i _ i),_;rw[Af];simp[A5,Bf,Ai]
  ·show ∀id∈A5 (Bg s.tm d _ i),_;rw[Ad _ _ e];exact h.wfT i hi
theorem Yv {x y:Option R}(h:Tq x y=some r):x=some r∧y=some r:=by
 unfold Tq at h;split at h
 ·rename_i e;exact⟨h,e ▸ h⟩
 ·cases h
theorem BO (h:Br N w0 X0 Y β s a w){F:St->Option R}(hk:KI ops o s F=some r):∃s',F s'=some r∧Br N w0 X0 Y β s' a w:=by
 unfold KI at hk;split at hk
 ·exact⟨s,hk,h⟩
 ·split at hk
  ·exact⟨s,hk,h⟩
  ·split at hk
   ·rename_i d _ ht;obtain⟨b,hb⟩:=h.known ht;obtain⟨h1,h2⟩:=Yv hk;cases b
    ·exact⟨_,h2,hb⟩
    ·exact⟨_,h1,hb⟩
   ·exact⟨s,hk,h⟩
theorem Qx {G:Glo}(Hg:ES P G w0 X0)(Cj:∀f args res,call f args=some res->De G P f args res){Q:Exit->Act->World->Prop}(hQ:∀s' a' w' β',K s'=some r->Br N w0 X0 Y β' s' a' w'->Q .normal a' w'):
  ∀(l:List Nat) (os:List Oper),l.length=os.length->(∀(k i:Nat),l[k]?=some i->ops[i]?=os[k]?)->∀{s:St} {a:Act} {w:World} {β:Bt},Br N w0 X0 Y β s a w->AN C P N call ops os s K=some r->wpOps P ops Q l a w
 |[],[],_,_,s,a,w,β,h,hk=>by
  show Q .normal a w;exact hQ s a w β hk h
 |[],_::_,hl,_,_,_,_,_,_,_=>by cases hl
 |_::_,[],hl,_,_,_,_,_,_,_=>by cases hl
 |i::l,o::os,hl,hi,s,a,w,β,h,hk=>by
  rw[wpOps_cons];obtain⟨s1,hk,h⟩:=BO h hk;obtain⟨s',XY,hn⟩:=Pi h Hg Cj (by simpa using hi 0 i rfl) hk
  exact hn _ _ fun a' w' β' h'=>Qx Hg Cj hQ l os (by simpa using hl) (fun k j hj=>by simpa using hi (k+1) j (by simpa using hj)) h' XY
theorem Br.drew (h:Br N w0 X0 Y β s a w):Br N w0 X0 Y β s a { w with drawn:=w.drawn+1 }:=by
 have:=h.stepR (d:=none) (v:=.top) (nw:=[]) (val:=undef) (w':={ w with drawn:=w.drawn+1 }) (β':=β) rfl rfl
  ⟨rfl,rfl,rfl,⟨Nat.le_refl _,fun _ _ _=>rfl,fun _ _=>Gb.refl _ _⟩,fun _ _=>rfl,by simp,by simp,by simp,by simp,by simp,.top _,by simp[A5,Bf,Ai]⟩
 exact this
theorem CF (h:Br N w0 X0 Y β s a w){G:Glo}(Hg:ES P G w0 X0)(Cj:∀f args res,call f args=some res->De G P f args res){id:Nat}{Q:Exit->Act->World->Prop}
  (hk:AN C P N call ops ops.toList s K=some r)(hQ:∀s' a' w' β',K s'=some r->Br N w0 X0 Y β' s' a' w'->Q .normal a' w'):(Code.region id ops false).wp P Q a w:=by
 refine wp_region (Qx Hg Cj hQ (List.range ops.size) ops.toList (by simp) (fun k i hi=>?_) h hk)
 rw[List.getElem?_range] at hi
 ·simp at hi;subst hi;simp
 ·rcases Nat.lt_or_ge k ops.size with h'|h'
  ·exact h'
  ·rw[List.getElem?_eq_none (by simpa using h')] at hi;cases hi
def Io (n:Nat)(listed:Array Bool):List Nat:=(List.range n).filter fun i=> !listed.getD i true
def Aco (ops:Array Oper)(listed:Array Bool)(o:Oper):Prop:=∀e∈o.after,Region.binds .any e=true->listed.getD e.on false=true
theorem testBit_or {a b j:Nat}:(a ||| b).testBit j=(a.testBit j||b.testBit j):=Nat.testBit_or a b j
theorem Y3 {acc:List Nat}{j:Nat}:∀(es:List Edge)(v:Nat),(es.foldl (fun s e=>bif Region.binds .any e then s ||| 2 ^ e.on ||| acc.getD e.on 0 else s) v).testBit j=true ->
  v.testBit j=true∨∃e∈es,Region.binds .any e=true∧(j=e.on∨(acc.getD e.on 0).testBit j=true)
 |[],v,h=>.inl h
 |e::es,v,h=>by
  rcases Y3 es _ h with h|⟨e',he',h⟩
  ·cases hb:Region.binds .any e<;>simp only[hb] at h
   ·exact .inl h
   ·simp only[cond_true,Nat.testBit_or,Bool.or_eq_true] at h;rcases h with (h|h)|h
    ·exact .inl h
    ·refine .inr ⟨e,by simp,hb,.inl ?_⟩
     rw[Nat.testBit_two_pow] at h;exact (of_decide_eq_true h).symm
    ·exact .inr ⟨e,by simp,hb,.inr h⟩
  ·exact .inr ⟨e',by simp[he'],h⟩
theorem Lu {listed:Array Bool}(hc:∀(j:Nat) oj,ops[j]?=some oj->listed.getD j false=true->Aco ops listed oj):
  ∀(rest done:List Oper) (acc:List Nat),ops.toList=done++rest->acc.length=done.length ->
   (∀(k:Nat) o,done[k]?=some o->Aco ops listed o->∀j,(acc.getD k 0).testBit j=true->listed.getD j false=true) ->
   ∀(k:Nat) o,ops[k]?=some o->Aco ops listed o->∀j,((Fi rest acc).getD k 0).testBit j=true->listed.getD j false=true
 |[],done,acc,he,_,h,k,o,ho,hf,j,hj=>by
  refine h k o ?_ hf j hj;rw[List.append_nil] at he;rw[←he]
  simpa using ho
 |o'::rest,done,acc,he,hl,h,k,o,ho,hf,j,hj=>by
  refine Lu hc rest (done++[o']) _ (by rw[he];simp) (by simp[hl]) ?_ k o ho hf j hj
  intro k o ho hf j hj;rcases Nat.lt_trichotomy k done.length with Bl|heq|hgt
  ·rw[List.getElem?_append_left Bl] at ho;rw[List.getD_eq_getElem?_getD,List.getElem?_append_left (by omega),←List.getD_eq_getElem?_getD] at hj
   exact h k o ho hf j hj
  ·subst heq;simp at ho;subst ho;rw[←hl] at hj;simp only[List.getD_eq_getElem?_getD,List.getElem?_append_right (Nat.le_refl _),Nat.sub_self,List.getElem?_cons_zero,Option.getD_some] at hj
   have hj:(o'.after.toList.foldl (fun s e=>bif Region.binds .any e then s ||| 2 ^ e.on ||| acc.getD e.on 0 else s) 0).testBit j=true:=by
    simpa only[List.getD_eq_getElem?_getD] using hj
   rcases Y3 _ _ hj with h0|⟨e,hm,hb,h1⟩
   ·simp at h0
   ·have Wi:=hf e (by simpa using hm) hb
    rcases h1 with h1|h1
    ·rw[h1];exact Wi
    ·cases hd:done[e.on]? with
     |none=>
      have:acc.getD e.on 0=0:=by
       rw[List.getD_eq_getElem?_getD,List.getElem?_eq_none (by rw[hl];exact List.getElem?_eq_none_iff.1 hd)]
       rfl
      rw[this] at h1;simp at h1
     |some oe=>
      have hoe:ops[e.on]?=some oe:=by
       rw[←Array.getElem?_toList,he,List.getElem?_append_left (by
        rcases Nat.lt_or_ge e.on done.length with h'|h'
        ·exact h'
        ·rw[List.getElem?_eq_none h'] at hd;cases hd)]
       exact hd
      exact h e.on oe hd (hc e.on oe hoe Wi) j h1
  ·rw[List.getElem?_eq_none (by simp;omega)] at ho
   cases ho
theorem Qi {bs:List Nat}:∀(l:List Oper)(n:Nat),U0 C P ops bs l n=true->∀(k:Nat) o,l[k]?=some o->∀(j:Nat) x,ops[j]?=some x->j<n+k->W8 C P ops x o=true->(bs.getD (n+k) 0).testBit j=true
 |[],_,_,k,o,ho,_,_,_,_,_=>by simp at ho
 |o'::l,n,h,k,o,ho,j,x,hx,hj,Kc=>by
  simp only[U0,Bool.and_eq_true] at h;cases k with
  |zero=>
   simp at ho;subst ho
   have:=List.all_eq_true.1 h.1 (x,j) (by
    rw[List.mem_zipIdx_iff_getElem?]
    simpa using hx)
   simp only[Kc,Bool.not_true,Bool.or_false,Bool.or_eq_true,Bool.not_eq_true'] at this;rcases this with h'|h'
   ·have:Nat.blt j n=true:=Nat.ble_eq_true_of_le (by omega)
    rw[this] at h';cases h'
   ·exact h'
  |succ k=>
   have:=Qi l (n+1) h.2 k o (by simpa using ho) j x hx (by omega) Kc
   rwa [show n+(k+1)=n+1+k by omega]
theorem Ge {n i:Nat}{listed:Array Bool}:i∈Io n listed↔i<n∧listed.getD i true=false:=by
 unfold Io;simp[List.mem_filter]
theorem Po {n i:Nat}{listed:Array Bool}(hi:i∈Io n listed)(Iv:listed.size=n):∃l1 l2,Io n listed=l1++i::l2∧Io n (listed.setIfInBounds i true)=l1++l2∧∀j∈l1,j<i:=by
 obtain⟨Bl,Gk⟩:=Ge.1 hi
 have hr:List.range n=List.range i++i::(List.range (n-i-1)).map (i+1 + ·):=by
  conv=>lhs;rw[show n=i+(1+(n-i-1)) by omega]
  rw[List.range_add,List.range_add];simp[Nat.add_assoc]
 refine⟨(List.range i).filter fun i=> !listed.getD i true,((List.range (n-i-1)).map (i+1 + ·)).filter fun i=> !listed.getD i true,?_,?_,fun j hj=>?_⟩
 ·unfold Io;rw[hr,List.filter_append,List.filter_cons_of_pos (by rw[Gk];rfl)]
 ·unfold Io;rw[hr,List.filter_append,List.filter_cons_of_neg (by simp[Iv,Bl])]
  congr 1
  ·refine List.filter_congr fun j hj=>?_
   rw[getD_set_ne true (by have:=List.mem_range.1 hj;omega)]
  ·refine List.filter_congr fun j hj=>?_
   obtain⟨k,_,rfl⟩:=List.mem_map.1 hj;rw[getD_set_ne true (by omega)]
 ·exact List.mem_range.1 (List.mem_filter.1 hj).1
theorem UE (h:Br N w0 X0 Y β s a w)(o:Oper):GQ C P o s:=by
 refine⟨fun y _ i hi=>C5 h y i hi,fun _ _ y _ i hi c hc p hp k hk=>h.wfB i c hc p hp k hk⟩
theorem Zx (QY:(ops.toList.zipIdx.all fun q=>q.1.after.toList.all fun e=> !Region.binds .any e||Nat.blt e.on q.2)=true) {listed:Array Bool}(inv:HeadInv .any ops ops.size listed)(hr:Region.ready .any ops listed=[]):Io ops.size listed=[]:=by
 cases hp:Io ops.size listed with
 |nil=>rfl
 |cons i l=>
  exfalso;have hi:i∈Io ops.size listed:=by rw[hp];simp
  obtain⟨Bl,Gk⟩:=Ge.1 hi;obtain⟨l1,l2,h1,_,h3⟩:=Po hi inv.size
  have Wi:l1=[]:=by
   cases l1 with
   |nil=>rfl
   |cons j l1=>
    rw[hp] at h1;simp at h1;have:=h3 j (by simp)
    omega
  subst Wi
  have Ak2:∀j,j<i->listed.getD j false=true:=by
   intro j hj;cases hh:listed.getD j false with
   |true=>rfl
   |false=>
    have:j∈Io ops.size listed:=Ge.2 ⟨by omega,getD_in (by rw[inv.size];omega) hh⟩
    have hs:(Io ops.size listed).Pairwise (· < ·):=List.Pairwise.filter _ List.pairwise_lt_range
    rw[h1] at this hs;simp at this;rcases this with e|e
    ·omega
    ·have:=(List.pairwise_cons.1 hs).1 j e;omega
  have:i∈Region.ready .any ops listed:=by
   refine mem_ready.2 ⟨Gk,ops[i],Array.getElem?_eq_getElem Bl,fun e he hb=>Ak2 _ ?_⟩
   have:=List.all_eq_true.1 QY (ops[i],i) (by
    rw[List.mem_zipIdx_iff_getElem?];simp[Bl])
   have:=List.all_eq_true.1 this e (Array.mem_toList_iff.2 he);simp only[hb,Bool.not_true,Bool.false_or] at this;exact Nat.lt_of_succ_le (Nat.le_of_ble_eq_true this)
  rw[hr] at this;simp at this
theorem AP {G:Glo}(Hg:ES P G w0 X0)(Cj:∀f args res,call f args=some res->De G P f args res)(Jk:Z0 C P ops=true){Q:Exit->Act->World->Prop}(hQ:∀s' a' w' β',K s'=some r->Br N w0 X0 Y β' s' a' w'->Q .normal a' w'):
  ∀(fuel:Nat) {listed:Array Bool} {s:St} {a:Act} {w:World} {β:Bt},HeadInv .any ops ops.size listed->(Io ops.size listed).length=fuel->Br N w0 X0 Y β s a w->Je C P N call ops ((Io ops.size listed).filterMap (ops[·]?)) s K=some r->wpAny P .any ops Q fuel listed a w:=by
 unfold Z0 at Jk;simp only[Bool.and_eq_true] at Jk;obtain⟨QY,Abt⟩:=Jk;intro fuel
 induction fuel with
 |zero=>
  intro listed s a w β inv hf h hk;have hp:=List.eq_nil_of_length_eq_zero hf;rw[hp] at hk;refine⟨?_,hQ s a w β hk h⟩;cases hr:Region.ready .any ops listed with
  |nil=>rfl
  |cons i l=>
   exfalso;have hi:i∈Region.ready .any ops listed:=by rw[hr];simp
   obtain⟨Gk,o,ho,_⟩:=mem_ready.1 hi;have:i∈Io ops.size listed:=Ge.2 ⟨(Array.getElem?_eq_some_iff.1 ho).1,Gk⟩;rw[hp] at this;simp at this
 |succ fuel ih=>
  intro listed s a w β inv hf h hk;refine⟨fun hr=>?_,fun i hi=>?_⟩
  ·rw[Zx QY inv hr] at hf;cases hf
  ·obtain⟨Gk,o,ho,Jm⟩:=mem_ready.1 hi;have Bl:i<ops.size:=(Array.getElem?_eq_some_iff.1 ho).1;obtain⟨l1,l2,h1,h2,h3⟩:=Po (Ge.2 ⟨Bl,Gk⟩) inv.size;rw[h1,List.filterMap_append,List.filterMap_cons_some ho] at hk
   have M3:∀x∈l1.filterMap (ops[·]?),Qh C P ops x o:=by
    intro x hx;obtain⟨j,hj,hxj⟩:=List.mem_filterMap.1 hx;refine UD ?_;cases Kc:W8 C P ops x o with
    |false=>rfl
    |true=>
     exfalso;have Ou:=Qi ops.toList 0 Abt i o (by simpa using ho) j x hxj (by have:=h3 j hj;omega) Kc
     rw[Nat.zero_add] at Ou;have hjl:=Lu (listed:=listed) (fun j oj hj hl=>inv.closed j oj hj hl) ops.toList [] [] (by simp) rfl (by simp) i o ho Jm j Ou
     have:j∈Io ops.size listed:=by rw[h1];simp[hj]
     have:=getD_both (Ge.1 this).2;rw[hjl] at this;cases this
   obtain⟨s',XY,hn⟩:=Pi h Hg Cj ho (ON (UE h o) M3 hk);refine hn _ _ fun a' w' β' h'=>ih (inv.set hi Bl) ?_ h' ?_
   ·rw[h2];rw[h1] at hf;simp at hf ⊢;omega
   ·rw[h2,List.filterMap_append];exact XY
theorem Se (h:Br N w0 X0 Y β s a w){G:Glo}(Hg:ES P G w0 X0)(Cj:∀f args res,call f args=some res->De G P f args res)(hm:P.follows .mixedOrders=true)(Jk:Z0 C P ops=true){Q:Exit->Act->World->Prop}
  (hk:Je C P N call ops ops.toList s K=some r)(hQ:∀s' a' w' β',K s'=some r->Br N w0 X0 Y β' s' a' w'->Q .normal a' w'):wpAny P .any ops Q ops.size (Array.replicate ops.size false) a { w with drawn:=w.drawn+1 }:=by
 have hp:Io ops.size (Array.replicate ops.size false)=List.range ops.size:=by
  unfold Io;refine List.filter_eq_self.2 fun i hi=>?_
  have:=List.mem_range.1 hi;simp[this]
 refine AP (C:=C) Hg Cj Jk hQ ops.size ⟨by simp,fun j oj _ hl=>(by rw[getD_replicate_false] at hl;cases hl),fun t ht ht'=>by omega⟩ (by rw[hp];simp) h.drew ?_
 rw[hp]
 have:(List.range ops.size).filterMap (ops[·]?)=ops.toList:=by
  refine List.ext_getElem? fun k=>?_
  have:∀(n:Nat),n<=ops.size->(List.range n).filterMap (ops[·]?)=ops.toList.take n:=by
   intro n
   induction n with
   |zero=>intro _;rfl
   |succ n ih=>
    intro hn;rw[List.range_succ,List.filterMap_append,ih (by omega),List.take_add_one]
    congr 1
    have:ops[n]?=some ops[n]:=Array.getElem?_eq_getElem (by omega)
    simp[this]
  rw[this ops.size (Nat.le_refl _)]
  congr 1
  exact List.take_of_length_le (by simp)
 rw[this];exact hk
theorem Z5 (h:Br N w0 X0 Y β s a w){G:Glo}(Hg:ES P G w0 X0)(Cj:∀f args res,call f args=some res->De G P f args res)(hm:P.follows .mixedOrders=true)(Jk:Z0 C P ops=true){id:Nat}{Q:Exit->Act->World->Prop}
  (hk:Je C P N call ops ops.toList s K=some r)(hQ:∀s' a' w' β',K s'=some r->Br N w0 X0 Y β' s' a' w'->Q .normal a' w'):(Code.region id ops true).wp P Q a w:=
 wp_region_any hm (Se h Hg Cj hm Jk hk hQ)
end
end
section
open Go.RowKit
section
variable {R R':Type} {Rel:Option R->Option R'->Prop} {P:Program} {N:Nat} {tm tm':Nat->PV} {hp Cc:Nat->Option A1} {o:Oper}
theorem NG (hn:Rel none none){C:Et}{call:Aj}{K:St->Option R}{K':St->Option R'}(M3:Iz o.op=true)(Gv:∀x∈o.op.operands.toList,A7 tm x=A7 tm' x)
  (hS:∀i,P1 o tm' Cc i->hp i=Cc i∨(hp i=none∧∀b,Rel none b)) (QC:∀d,o.dst=some d->hp d=Cc d)
  (hK:∀v Bq Da,(∀M,Xv M (P1 o tm' Cc) o.dst hp Cc Bq Da)->Rel (K ⟨Az tm o.dst v,Bq⟩) (K' ⟨Az tm' o.dst v,Da⟩)):Rel (Ow C P N call ⟨tm,hp⟩ o K) (Ow C P N call ⟨tm',Cc⟩ o K'):=by
 unfold Ow;have hl:∀x∈o.op.operands.toList,∀i∈A5 (A7 tm' x),P1 o tm' Cc i:=fun x hx i hi=>.inl ⟨x,hx,hi⟩
 generalize hLd:P1 o tm' Cc=S at *
 generalize QM:o.op=op at *
 unfold Iz at M3;split at M3
 ·rename_i c
  have G7:∀x∈c.args.toList,x∈(Op.call c).operands.toList:=by
   intro x hx;simp only[Op.operands,Call.operands,Array.toList_append,List.mem_append];exact .inr hx
  split at M3
  ·rename_i hc;simp only[hc];refine B4 hn fun d hd=>Av hn fun x _ hx=>Av hn fun y _ hy=>C6 hn (Av hn fun _ _ _=>Av hn fun _ _ _=>?_)
   subst hy;have NX:=G7 x (by rw[hx];simp)
   have hym:=G7 y (by rw[hx];simp)
   simp only[Gv x NX,Gv y hym];refine Q6 hn hS (QC d hd) (fun i hi=>hl x NX i (Dm hi)) (fun i hi=>hl y hym i (Dm hi)) fun v Bq Da hh=>?_
   have:=hK v Bq Da (by rw[hd];exact hh)
   rw[hd] at this;exact this
  ·cases M3
 ·cases M3
theorem K9 {C:Et}{call:Aj}(M3:Iz o.op=true)(Gv:∀x∈o.op.operands.toList,A7 tm x=A7 tm' x)(hS:∀i,P1 o tm' Cc i->hp i=Cc i)(QC:∀d,o.dst=some d->hp d=Cc d){s1:St}
  (h:Ow C P N call ⟨tm,hp⟩ o some=some s1):∃v Bq Da,s1=⟨Az tm o.dst v,Bq⟩∧Ow C P N call ⟨tm',Cc⟩ o some=some ⟨Az tm' o.dst v,Da⟩∧∀M,Xv M (P1 o tm' Cc) o.dst hp Cc Bq Da:=by
 have:=NG (P:=P) (N:=N) (C:=C) (call:=call) (o:=o) (tm:=tm) (tm':=tm') (hp:=hp) (Cc:=Cc) (K:=some) (K':=some)
  (Rel:=fun (a b:Option St)=>∀s1,a=some s1->∃v Bq Da,s1=⟨Az tm o.dst v,Bq⟩∧b=some ⟨Az tm' o.dst v,Da⟩∧∀M,Xv M (P1 o tm' Cc) o.dst hp Cc Bq Da) (fun _ h=>by cases h) M3 Gv (fun i hi=>.inl (hS i hi)) QC
  (fun v Bq Da hT s1 h=>by cases h;exact⟨v,Bq,Da,rfl,rfl,hT⟩)
 exact this s1 h
end
section
variable {R R':Type} {r:R} {r':R'} {C:Et} {P:Program} {N:Nat} {call:Aj} {ops:Array Oper} {o x:Oper} {s s1 s2:St} {K:St->Option R}
theorem Nm {tm:Nat->PV}(h:Ej C P ops o tm=true):Lg C P o.op=true:=by
 unfold Ej at h;simp only[Bool.and_eq_true] at h;exact h.1
theorem BQ (h:Iz o.op=true):Lg C P o.op=true:=by
 unfold Iz at h;split at h
 ·rename_i c hc;rw[hc];split at h
  ·rename_i SS;simp only[Lg,SS];exact h
  ·cases h
 ·cases h
theorem Ja (h:B7 C P N call ops x s K=some r):∃s1,B7 C P N call ops x s some=some s1∧Y6 P x s s1∧(Np P x.op=true->s1.hp=s.hp)∧K s1=some r:=by
 cases hx:Ej C P ops x s.tm
 ·rw[Hb hx] at h ⊢;cases ex:gE C P N call ops x s with
  |none=>rw[ex] at h;cases h
  |some q=>
   rw[ex] at h;obtain⟨hb,h1⟩:=Ae h;simp only[Bool.and_eq_true] at hb;refine⟨_,?_,⟨fun t ht=>J5 ht,fun i hi=>Jc hb.2 hi,fun hm i hi=>?_⟩,fun hl=>?_,h1⟩
   ·show Ar _ _=_;rw[hb.1,hb.2];rfl
   ·show Ak (Ac s.hp q.2.1) q.2.2 i=s.hp i;rw[Dz hb.2 hi,((Nf ex).1 hm).1];simp
   ·show Ak (Ac s.hp q.2.1) q.2.2=s.hp;obtain⟨h1,h2⟩:=MH (.inl hl) ex;rw[h1,h2]
    funext i
    show Ac s.hp [] i=_;rw[A3];simp
 ·rw[Fo hx] at h ⊢
  exact We (P:=P) (N:=N) (o:=x) (tm:=s.tm) (tm':=s.tm) (hp:=s.hp) (K':=some) (Rel:=fun (a:Option R) (b:Option St)=>a=some r->∃s1,b=some s1∧Y6 P x s s1∧(Np P x.op=true->s1.hp=s.hp)∧K s1=some r) (fun h=>by cases h) (fun _ _=>rfl) (fun v Bq hh h=>⟨_,rfl,⟨fun t ht=>J5 ht,hh,fun hm=>(by
   rw[Q5 (Nm hx)] at hm;cases hm)⟩,fun hl=>(by
   have:=Nm hx;rw[Gz hl] at this;cases this),h⟩) h
theorem Ns {K':St->Option R'}(h:B7 C P N call ops x s some=some s1)(hk:K' s1=some r'):B7 C P N call ops x s K'=some r':=by
 cases hx:Ej C P ops x s.tm
 ·rw[Hb hx] at h ⊢;cases ex:gE C P N call ops x s with
  |none=>rw[ex] at h;cases h
  |some q=>
   rw[ex] at h;obtain⟨hb,h1⟩:=Ae h;show Ar _ _=_;rw[hb];cases h1;exact hk
 ·rw[Fo hx] at h ⊢;exact We (P:=P) (N:=N) (o:=x) (tm:=s.tm) (tm':=s.tm) (hp:=s.hp) (K:=some) (Rel:=fun (a:Option St) (b:Option R')=>a=some s1->b=some r') (fun h=>by cases h) (fun _ _=>rfl) (fun v Bq hh h=>by cases h;exact hk) h
theorem AA {d:Nat}{t tx:TypeId}{b y:PV}(h:Jo P N s d t tx b y K=some r):s.hp d=none:=by
 unfold Jo at h;split at h
 ·obtain⟨_,h⟩:=Ae h;cases hI:Qo P tx
  ·rw[hI,cond_false] at h;refine Sm (P:=P) (tm:=s.tm) (tm':=s.tm) (hp:=s.hp) (Cc:=s.hp) (S:=fun _=>True) (K':=fun _ _=>(none:Option R)) (Rel:=fun (a:Option R) (_:Option R)=>a=some r->s.hp d=none) (fun h=>by cases h) (fun _ _=>.inl rfl) (fun _ _=>trivial) (fun m new h=>?_) h
   split at h
   ·split at h
    ·obtain⟨hb,_⟩:=Ae h;simp only[Bool.and_eq_true,Option.isNone_iff_eq_none] at hb;simp only[hb]
    ·cases h
   ·obtain⟨_,_,_,h,_⟩:=Dh h;obtain⟨hb,_⟩:=Ae h;simp only[Bool.and_eq_true,Option.isNone_iff_eq_none] at hb;simp only[hb]
  ·rw[hI,cond_true] at h;unfold Mz at h;obtain⟨_,_,_,h⟩:=B1 h;obtain⟨_,_,_,h,_⟩:=Dh h;obtain⟨hb,_⟩:=Ae h;simp only[Bool.and_eq_true,Option.isNone_iff_eq_none] at hb;simp only[hb]
 ·cases h
theorem WZ (hw:GQ C P o s)(hwx:∀y∈x.op.operands.toList,∀i∈A5 (A7 s.tm y),s.hp i≠none) (xo:∀d,x.dst=some d->d ∉ Cg ops o)(ne:∀d,x.dst=some d->o.dst≠some d)(ox:∀d,o.dst=some d->d ∉ Cg ops x)
  (B0:Iz x.op=true)(PJ:Iz o.op=true)(EI:∀i,P1 x s.tm s.hp i->¬P1 o s.tm s.hp i)(hx:Ej C P ops x s.tm=true)(ho:Ej C P ops o s.tm=true)
  (h:B7 C P N call ops x s (fun s1=>B7 C P N call ops o s1 K)=some r):B7 C P N call ops o s (fun s1=>B7 C P N call ops x s1 K)=some r:=by
 obtain⟨tm,hp⟩:=s;obtain⟨s1,e1,_,_,h⟩:=Ja h;obtain⟨s2,e2,_,_,h⟩:=Ja h;rw[Fo hx] at e1
 have hSx:∀i,P1 x tm hp i->hp i≠none:=by
  rintro i (⟨y,hy,hi⟩|⟨M3,_⟩)
  ·exact hwx y hy i hi
  ·rw[B0] at M3;cases M3
 have hSo:∀i,P1 o tm hp i->hp i≠none:=by
  rintro i (⟨y,hy,hi⟩|⟨M3,_⟩)
  ·exact hw.1 y hy i hi
  ·rw[PJ] at M3;cases M3
 obtain⟨vx,hpx,ZP,rfl,e1',T1⟩:=K9 B0 (fun _ _=>rfl) (fun _ _=>rfl) (fun _ _=>rfl) e1
 have:ZP=hpx:=by
  rw[e1] at e1';injection e1' with q;injection q with _ q;exact q.symm
 subst this;have t1:∀t∈Cg ops o,Az tm x.dst vx t=tm t:=Cz xo;have t1o:=Dg (ops:=ops) (o:=o) t1;rw[Fo (by rw[Ev t1];exact ho)] at e2
 have hRo:∀i,P1 o (Az tm x.dst vx) ZP i↔P1 o tm hp i:=by
  intro i;constructor
  ·rintro (⟨y,hy,hi⟩|⟨M3,_⟩)
   ·exact .inl ⟨y,hy,by rw[←t1o y hy];exact hi⟩
   ·rw[PJ] at M3;cases M3
  ·rintro (⟨y,hy,hi⟩|⟨M3,_⟩)
   ·exact .inl ⟨y,hy,by rw[t1o y hy];exact hi⟩
   ·rw[PJ] at M3;cases M3
 have Aba:∀{s:St} {o:Oper} {s2:St},Iz o.op=true->Ow C P N call s o some=some s2->∀d,o.dst=some d->s.hp d=none:=by
  intro s o s2 PJ e d hd;unfold Ow at e;unfold Iz at PJ;split at PJ
  ·rename_i c hc;rw[hc] at e;simp only at e;split at PJ
   ·rename_i SS;rw[SS] at e;simp only[hd,Db] at e;obtain⟨_,_,_,e⟩:=Ap e;obtain⟨_,_,_,e⟩:=Ap e;obtain⟨_,e⟩:=B5 e;obtain⟨_,_,_,e⟩:=Ap e;obtain⟨_,_,_,e⟩:=Ap e;exact AA e
   ·cases PJ
  ·cases PJ
 have Akp:∀d,o.dst=some d->hp d=none:=by
  intro d hd;have h0:=Aba PJ e2 d hd;cases hh:hp d with
  |none=>rfl
  |some b=>exact absurd h0 ((T1 0).keep d (by rw[hh];simp))
 have Ags:=Aba B0 e1;simp only at Ags;have hoS:∀d,o.dst=some d->¬P1 x tm hp d:=fun d hd hR=>hSx d hR (Akp d hd)
 have hxS:∀d,x.dst=some d->¬P1 o tm hp d:=fun d hd hR=>hSo d hR (Ags d hd)
 obtain⟨vo,Aj2,hpo,rfl,e3,T2⟩:=K9 (tm':=tm) (Cc:=hp) PJ t1o (fun i hi=>(T1 0).far i (fun hR=>EI i hR hi) (hSo i hi)) (fun d hd=>((T1 (d+1)).off d (by omega) (fun e=>ne d e hd) (.inl (hoS d hd))).1) e2
 obtain⟨vo',Ala,DF,e3a,e3b,T3⟩:=K9 (tm':=tm) (Cc:=hp) PJ (fun _ _=>rfl) (fun _ _=>rfl) (fun _ _=>rfl) e3
 rw[e3] at e3b
 have Ald:Ala=hpo∧DF=hpo:=by
  injection e3a with _ q1;injection e3b with q2;injection q2 with _ q3;exact⟨q1.symm,q3.symm⟩
 obtain⟨rfl,rfl⟩:=Ald;have t2:∀t∈Cg ops x,tm t=Az tm o.dst vo t:=fun t ht=>(Cz ox t ht).symm
 have t2x:=Dg (ops:=ops) (o:=x) t2
 have hRx:∀i,P1 x (Az tm o.dst vo) DF i↔P1 x tm hp i:=by
  intro i;constructor
  ·rintro (⟨y,hy,hi⟩|⟨M3,_⟩)
   ·exact .inl ⟨y,hy,by rw[t2x y hy];exact hi⟩
   ·rw[B0] at M3;cases M3
  ·rintro (⟨y,hy,hi⟩|⟨M3,_⟩)
   ·exact .inl ⟨y,hy,by rw[←t2x y hy];exact hi⟩
   ·rw[B0] at M3;cases M3
 obtain⟨vx2,Ajp,Ajx,e4a,e4,T4⟩:=K9 (tm':=Az tm o.dst vo) (Cc:=DF) B0 t2x (fun i hi=>((T3 0).far i (EI i ((hRx i).1 hi)) (hSx i ((hRx i).1 hi))).symm) (fun d hd=>((T3 (d+1)).off d (by omega) (fun e=>ne d hd e) (.inl (hxS d hd))).1.symm) e1
 have ZQ:Az tm x.dst vx=Az tm x.dst vx2∧ZP=Ajp:=by
  injection e4a with q1 q2;exact⟨q1,q2⟩
 obtain⟨ZQ,rfl⟩:=ZQ;obtain⟨_,Yz,Uo,e5a,e5b,T5⟩:=K9 (tm':=Az tm x.dst vx) (Cc:=ZP) PJ (fun _ _=>rfl) (fun _ _=>rfl) (fun _ _=>rfl) e2
 have hq:Yz=Aj2:=by injection e5a with _ q1;exact q1.symm
 subst hq;obtain⟨_,MM,hu2,e6a,e6b,T6⟩:=K9 (tm':=Az tm o.dst vo) (Cc:=DF) B0 (fun _ _=>rfl) (fun _ _=>rfl) (fun _ _=>rfl) e4
 have hu:MM=Ajx:=by injection e6a with _ q1;exact q1.symm
 subst hu
 have G7:Yz=MM:=by
  funext i
  by_cases hi:P1 o tm hp i∨o.dst=some i
  ·have hxi:¬P1 x tm hp i:=by
    rcases hi with hi|hi
    ·exact fun hR=>EI i hR hi
    ·exact hoS i hi
   have hdi:x.dst≠some i:=by
    rcases hi with hi|hi
    ·exact fun e=>hxS i e hi
    ·exact fun e=>ne i e hi
   rw[(T2 0).same i ((T1 (i+1)).off i (by omega) hdi (.inl hxi)).1]
   exact ((T6 (i+1)).off i (by omega) hdi (.inl fun hR=>hxi ((hRx i).1 hR))).1.symm
  ·have hoi:¬P1 o tm hp i:=fun e=>hi (.inl e)
   have hdi:o.dst≠some i:=fun e=>hi (.inr e)
   rw[((T5 (i+1)).off i (by omega) hdi (.inl fun hR=>hoi ((hRo i).1 hR))).1]
   exact (T4 0).same i ((T3 (i+1)).off i (by omega) hdi (.inl hoi)).1.symm
 refine Ns (s1:=⟨Az tm o.dst vo,DF⟩) (by rw[Fo ho];exact e3) ?_
 refine Ns (s1:=⟨Az (Az tm o.dst vo) x.dst vx2,MM⟩) (by rw[Fo (by rw[←Ev t2];exact hx)];exact e4) ?_
 rw[←Gy ne,←ZQ,←G7];exact h
theorem Qy (hM:Lg C P o.op=true){i:Nat}(h:P1 o s.tm s.hp i):i∈H6 C P s o:=by
 unfold H6;rw[hM];cases hA:Iz o.op
 ·simp only[Bool.not_false,Bool.and_self,cond_true,List.mem_append];rcases h with⟨y,hy,hi⟩|⟨_,id,c,⟨y,hy,hi⟩,hc,p,hp,hk⟩
  ·exact .inl (List.mem_flatMap.2 ⟨y,hy,hi⟩)
  ·refine .inr (List.mem_flatMap.2 ⟨id,List.mem_flatMap.2 ⟨y,hy,hi⟩,?_⟩);rw[hc];exact List.mem_flatMap.2 ⟨p,hp,hk⟩
 ·simp only[Bool.not_true,Bool.and_false,cond_false,Bool.or_true,cond_true];rcases h with⟨y,hy,hi⟩|⟨hn,_⟩
  ·exact List.mem_flatMap.2 ⟨y,hy,hi⟩
  ·rw[hA] at hn;cases hn
theorem Ur (hl:Lg C P o.op=true∨Np P o.op=true){y:Operand}(hy:y∈o.op.operands.toList){i:Nat}(h:i∈A5 (A7 s.tm y)):i∈H6 C P s o:=by
 rcases hl with hM|hl
 ·exact Qy hM (.inl ⟨y,hy,h⟩)
 ·unfold H6;rw[Gz hl,hl];exact List.mem_flatMap.2 ⟨y,hy,h⟩
theorem DD (ht:∀t∈Cg ops o,s1.tm t=s.tm t)(hh:Lg C P o.op=true->Iz o.op=false->∀y∈o.op.operands.toList,∀i∈A5 (A7 s.tm y),s1.hp i=s.hp i):H6 C P s1 o=H6 C P s o:=by
 have he:=Dg (ops:=ops) (o:=o) ht
 have hl:(o.op.operands.toList.flatMap fun y=>A5 (A7 s1.tm y))=o.op.operands.toList.flatMap fun y=>A5 (A7 s.tm y):=by
  have Ac5:∀l:List Operand,(∀y∈l,A7 s1.tm y=A7 s.tm y)->(l.flatMap fun y=>A5 (A7 s1.tm y))=l.flatMap fun y=>A5 (A7 s.tm y):=by
   intro l
   induction l with
   |nil=>intro _;rfl
   |cons a l ih=>intro h;simp only[List.flatMap_cons];rw[h a (by simp),ih fun y hy=>h y (by simp[hy])]
  exact Ac5 _ he
 unfold H6;simp only[hl];cases hM:(Lg C P o.op && !Iz o.op)
 ·rfl
 ·simp only[cond_true];simp only[Bool.and_eq_true,Bool.not_eq_true'] at hM
  congr 1
  have Ac5:∀l:List Nat,(∀i∈l,s1.hp i=s.hp i)->(l.flatMap fun i=>match s1.hp i with|some (.st c)=>c.flatMap Ai|_=>[])=l.flatMap fun i=>match s.hp i with|some (.st c)=>c.flatMap Ai|_=>[]:=by
   intro l
   induction l with
   |nil=>intro _;rfl
   |cons a l ih=>intro h;simp only[List.flatMap_cons];rw[h a (by simp),ih fun y hy=>h y (by simp[hy])]
  exact Ac5 _ fun i hi=>by
   obtain⟨y,hy,hi⟩:=List.mem_flatMap.1 hi;exact hh hM.1 hM.2 y hy i hi
theorem Q2 {a b:List Nat}(h:OB a b=true){i:Nat}(ha:i∈a)(hb:i∈b):False:=by
 have:=List.all_eq_true.1 h i ha;have h2:b.any (Nat.beq i)=true:=List.any_eq_true.2 ⟨i,hb,Nat.beq_refl i⟩;rw[h2] at this;cases this
theorem OW {a b:List Nat}(h:OB a b=true):OB b a=true:=by
 refine List.all_eq_true.2 fun i hi=>?_
 cases hc:a.any (Nat.beq i)
 ·rfl
 ·obtain⟨j,hj,e⟩:=List.any_eq_true.1 hc;rw[Nat.eq_of_beq_eq_true e] at hi;exact (Q2 h hj hi).elim
theorem Pw:Gr C P x o=Gr C P o x:=by
 unfold Gr;cases Lg C P x.op<;>cases Lg C P o.op<;>cases Np P x.op<;>cases Np P o.op<;>cases Iz x.op<;>cases Iz o.op<;>rfl
structure H3 (C:Et) (P:Program) (ops:Array Oper) (x o:Oper):Prop where
 xo:∀d,x.dst=some d->d ∉ Cg ops o
 ne:∀d,x.dst=some d->o.dst≠some d
 ox:∀d,o.dst=some d->d ∉ Cg ops x
 me:L3 C P x o=false∨Gr C P x o=true
theorem PN (h:TM C P ops x o=false):H3 C P ops x o:=by
 unfold TM at h;simp only[Bool.or_eq_false_iff] at h;obtain⟨h1,h2⟩:=h;have hT:=h1;unfold TJ at h1;simp only[Bool.or_eq_false_iff] at h1
 have a1:W8 C P ops x o=false∨L3 C P x o=true:=by
  cases hc:L3 C P x o
  ·left;unfold W8;unfold L3 at hc;simp only[Bool.or_eq_false_iff] at hc ⊢;exact⟨⟨⟨h1.1,h1.2⟩,hc.1⟩,hc.2⟩
  ·exact .inr rfl
 refine⟨fun d hd=>?_,fun d hd he=>?_,fun d hd=>?_,?_⟩
 ·have:=h1.1;simp only[hd,Bool.or_eq_false_iff] at this;exact Ls this.1
 ·have:=h1.1;simp only[hd,he,Bool.or_eq_false_iff] at this;rw[Nat.beq_refl] at this;cases this.2
 ·have:=h1.2;simp only[hd] at this;exact Ls this
 ·cases hc:L3 C P x o
  ·exact .inl rfl
  ·rw[hc] at h2;right
   simpa using h2
theorem H3.apart (ap:H3 C P ops x o)(h:L3 C P x o=false):Qh C P ops x o:=by
 unfold L3 at h;simp only[Bool.or_eq_false_iff,Bool.and_eq_false_iff] at h;refine⟨ap.xo,ap.ne,ap.ox,fun hm=>?_,fun hm=>?_⟩
 ·rcases h.1 with h|h
  ·rw[hm] at h;cases h
  ·exact h
 ·rcases h.2 with h|h
  ·rw[hm] at h;cases h
  ·exact h
theorem H3.same (ap:H3 C P ops x o)(hk:Y6 P x s s1)(hl:Np P x.op=true->s1.hp=s.hp)(hM:Lg C P o.op=true)(hA:Iz o.op=false){i:Nat}(hi:s.hp i≠none):s1.hp i=s.hp i:=by
 rcases ap.me with h|h
 ·exact hk.2.2 ((ap.apart h).mo hM) i hi
 ·unfold Gr at h;rw[hA] at h;simp only[Bool.and_false,Bool.or_false,Bool.or_eq_true,Bool.and_eq_true] at h;rcases h with h|h
  ·have:=h.2;rw[Gz (C:=C) (P:=P) this] at hM;cases hM
  ·rw[hl h.2]
theorem GQ.keepsS (h:GQ C P o s)(ap:H3 C P ops x o)(hk:Y6 P x s s1)(hl:Np P x.op=true->s1.hp=s.hp):GQ C P o s1:=by
 have QM:∀y∈o.op.operands.toList,A7 s1.tm y=A7 s.tm y:=fun y hy=>Dg (ops:=ops) (o:=o) (fun t ht=>hk.1 t fun hd=>ap.xo t hd ht) y hy
 refine⟨fun y hy i hi=>?_,fun hM hA y hy i hi c hc p hp k hkk=>?_⟩
 ·rw[QM y hy] at hi;exact hk.2.1 i (h.1 y hy i hi)
 ·rw[QM y hy] at hi;rw[ap.same hk hl hM hA (h.1 y hy i hi)] at hc;exact hk.2.1 k (h.2 hM hA y hy i hi c hc p hp k hkk)
theorem H3.symm (ap:H3 C P ops x o):H3 C P ops o x:=by
 refine⟨ap.ox,fun d hd he=>ap.ne d he hd,ap.xo,?_⟩
 rcases ap.me with h|h
 ·left;unfold L3 at h ⊢;rw[Bool.or_comm];exact h
 ·right;rw[Pw];exact h
theorem Afa (hw:GQ C P o s)(hwx:Gr C P x o=true->∀i∈H6 C P s x,s.hp i≠none)(ap:H3 C P ops x o)(hd:Gr C P x o=true->OB (H6 C P s x) (H6 C P s o)=true)
  (h:B7 C P N call ops x s (fun s1=>B7 C P N call ops o s1 K)=some r):B7 C P N call ops o s (fun s1=>B7 C P N call ops x s1 K)=some r:=by
 rcases ap.me with hm|hm
 ·exact Ae4 hw (ap.apart hm) h
 ·have hd:=hd hm;have hwx:=hwx hm;cases hx:Ej C P ops x s.tm
  ·cases ho:Ej C P ops o s.tm
   ·exact MA hw ap.xo ap.ne ap.ox hx ho h
   ·have XV:=Nm ho
    have hlx:Xt P ops x s.tm:=by
     cases hl:Np P x.op
     ·right
      have hMx:Lg C P x.op=true:=by
       unfold Gr at hm;simp only[hl,Bool.and_false,Bool.or_false,Bool.or_eq_true,Bool.and_eq_true] at hm;rcases hm with hm|hm
       ·exact hm.1
       ·exact BQ hm.1
      cases hv:Er ops x s.tm with
      |none=>
       exfalso;rw[Hb hx] at h;unfold gE at h;rw[hv] at h;cases h
      |some b=>
       cases b
       ·rfl
       ·unfold Ej at hx;rw[hMx,hv] at hx;cases hx
     ·exact .inl hl
    refine YF ap.xo ap.ne ap.ox hlx (fun y hy i hi hR=>?_) ho h
    refine Q2 hd (Ur ?_ hy hi) (Qy XV hR);unfold Gr at hm;simp only[Bool.or_eq_true,Bool.and_eq_true] at hm;rcases hm with (hm|hm)|hm
    ·exact .inl hm.1
    ·exact .inr hm.2
    ·exact .inl (BQ hm.1)
  ·have hMx:=Nm hx;cases ho:Ej C P ops o s.tm
   ·have hlo:Xt P ops o s.tm:=by
     cases hl:Np P o.op
     ·right
      have XV:Lg C P o.op=true:=by
       unfold Gr at hm;simp only[hl,Bool.and_false,Bool.false_or,Bool.or_eq_true,Bool.and_eq_true] at hm;rcases hm with hm|hm
       ·exact hm.1
       ·exact BQ hm.2
      cases hv:Er ops o s.tm with
      |none=>
       exfalso;obtain⟨s1,_,hk,_,h⟩:=Ja h;have VZ:Er ops o s1.tm=none:=by rw[Hi (fun t ht=>hk.1 t fun hd=>ap.xo t hd ht)];exact hv
       rw[Hb (by unfold Ej;rw[VZ];cases Lg C P o.op<;>rfl)] at h
       unfold gE at h;rw[VZ] at h;cases h
      |some b=>
       cases b
       ·rfl
       ·unfold Ej at ho;rw[XV,hv] at ho;cases ho
     ·exact .inl hl
    refine YZ hw ap.xo ap.ne ap.ox hlo (fun y hy i hi hR=>?_) hx h
    refine Q2 hd (Qy hMx hR) (Ur ?_ hy hi);unfold Gr at hm;simp only[Bool.or_eq_true,Bool.and_eq_true] at hm;rcases hm with (hm|hm)|hm
    ·exact .inr hm.2
    ·exact .inl hm.1
    ·exact .inl (BQ hm.2)
   ·have XV:=Nm ho;unfold Gr at hm;simp only[Bool.or_eq_true,Bool.and_eq_true] at hm;rcases hm with (hm|hm)|hm
    ·rw[Gz (C:=C) (P:=P) hm.2] at XV;cases XV
    ·rw[Gz (C:=C) (P:=P) hm.2] at hMx;cases hMx
    ·exact WZ hw (fun y hy i hi=>hwx i (Ur (.inl hMx) hy hi)) ap.xo ap.ne ap.ox hm.1 hm.2 (fun i h1 h2=>Q2 hd (Qy hMx h1) (Qy XV h2)) hx ho h
theorem RL {α:Type}(a b:α)(l:List α)(f:α->Bool):(a::b::l).all f=(b::a::l).all f:=by
 simp only[List.all_cons];cases f a<;>cases f b<;>rfl
theorem Tp {bs:List (List Nat)}:∀(l:List Nat){dn dn':List (Nat × Oper × List Nat)} {s:St}{K:St->Option R},(∀f,dn.all f=dn'.all f)->E5 C P N call ops bs dn l s K=E5 C P N call ops bs dn' l s K
 |[],_,_,_,_,_=>rfl
 |i::l,dn,dn',s,K,h=>by
  unfold E5;cases ops[i]? with
  |none=>rfl
  |some o=>
   simp only[Db,h]
   congr 2
   funext s'
   exact Tp l fun f=>by simp only[List.all_cons,h]
theorem Wb {bs:List Nat}{i:Nat}(hi:ops[i]?=some o):(Tr C P ops bs).getD i []=Qz C P ops bs i o:=by
 unfold Tr;rw[List.getD_eq_getElem?_getD,List.getElem?_map,List.getElem?_zipIdx,Array.getElem?_toList,hi];simp
theorem Lx {bs:List Nat}{i j:Nat}:j∈Qz C P ops bs i o↔∃x,ops[j]?=some x∧Gr C P x o=true∧(Nat.blt j i&&(bs.getD i 0).testBit j)=false∧(Nat.blt i j&&(bs.getD j 0).testBit i)=false:=by
 unfold Qz;simp only[List.mem_map,List.mem_filter,Bool.and_eq_true,Bool.not_eq_true',Prod.exists];constructor
 ·rintro⟨x,k,⟨hm,⟨h1,h2⟩,h3⟩,rfl⟩
  rw[List.mem_zipIdx_iff_getElem?] at hm;exact⟨x,by simpa using hm,h1,h2,h3⟩
 ·rintro⟨x,hx,h1,h2,h3⟩
  refine⟨x,j,⟨?_,⟨h1,h2⟩,h3⟩,rfl⟩;rw[List.mem_zipIdx_iff_getElem?]
  simpa using hx
theorem U5 {sm:List (List Nat)} {i j:Nat}(h:j∈sm.getD i []):Uc C P sm s i o=H6 C P s o:=by
 unfold Uc;split
 ·rename_i e;rw[e] at h;simp at h
 ·rfl
theorem VS {sm:List (List Nat)} {i:Nat}(h:sm.getD i []≠[]->H6 C P s1 o=H6 C P s o):Uc C P sm s1 i o=Uc C P sm s i o:=by
 unfold Uc;split
 ·rfl
 ·rename_i e;exact h (by rw[e];simp)
theorem LM {l:List Nat}{j:Nat}:l.any (Nat.beq j)=true↔j∈l:=by
 constructor
 ·intro h;obtain⟨k,hk,e⟩:=List.any_eq_true.1 h;rw[Nat.eq_of_beq_eq_true e];exact hk
 ·intro h;exact List.any_eq_true.2 ⟨j,h,Nat.beq_refl j⟩
theorem Rk {bs:List Nat}{sm:List (List Nat)} (hsm:sm=Tr C P ops bs){i:Nat}(hi:ops[i]?=some o) {l':List Nat}:∀(l:List Nat){dn:List (Nat × Oper × List Nat)} {s:St}{K:St->Option R},GQ C P o s ->
  (∀j∈l,j<i∧(bs.getD i 0).testBit j=false∧∀x,ops[j]?=some x->H3 C P ops x o)->E5 C P N call ops sm dn (l++i::l') s K=some r ->
  dn.all (Xq C P sm s i o)=true∧B7 C P N call ops o s (fun s1=>E5 C P N call ops sm ((i,o,Uc C P sm s i o)::dn) (l++l') s1 K)=some r
 |[],dn,s,K,hw,_,h=>by
  simp only[List.nil_append] at h ⊢;unfold E5 at h;rw[hi] at h;simp only[Db] at h;obtain⟨hb,h⟩:=Ae h;simp only[Bool.and_eq_true] at hb;exact⟨hb.1,h⟩
 |j::l,dn,s,K,hw,hl,h=>by
  simp only[List.cons_append] at h ⊢;unfold E5 at h;obtain⟨hji,Ou,M3⟩:=hl j (by simp)
  cases hj:ops[j]? with
  |none=>rw[hj] at h;cases h
  |some x=>
   rw[hj] at h;simp only[Db] at h;obtain⟨hb,h⟩:=Ae h;simp only[Bool.and_eq_true] at hb;have ap:=M3 x hj
   have hex:∀k∈Uc C P sm s j x,s.hp k≠none:=fun k hk=>by
    have:=List.all_eq_true.1 hb.2 k hk;intro e;rw[e] at this;cases this
   obtain⟨s1,e1,Cn,Wi,h1⟩:=Ja h;obtain⟨ha,h2⟩:=Rk hsm hi l (hw.keepsS ap Cn Wi) (fun k hk=>hl k (by simp[hk])) h1
   have Akj:H6 C P s1 o=H6 C P s o:=DD (ops:=ops) (fun t ht=>Cn.1 t fun hd=>ap.xo t hd ht) fun hM hA y hy k hk=>ap.same Cn Wi hM hA (hw.1 y hy k hk)
   have XO:Uc C P sm s1 i o=Uc C P sm s i o:=VS fun _=>Akj
   rw[List.all_cons,Bool.and_eq_true] at ha
   have Ae0:Nat.blt i j=false:=by
    cases hh:Nat.blt i j
    ·rfl
    ·have:=Nat.le_of_ble_eq_true hh;omega
   have hmi:Gr C P x o=true->j∈sm.getD i []:=fun hs=>by
    rw[hsm,Wb hi];exact Lx.2 ⟨x,hj,hs,by rw[Ou,Bool.and_false],by rw[Ae0,Bool.false_and]⟩
   have hmj:Gr C P x o=true->i∈sm.getD j []:=fun hs=>by
    rw[hsm,Wb hj];exact Lx.2 ⟨o,hi,by rw[Pw];exact hs,by rw[Ae0,Bool.false_and],by rw[Ou,Bool.and_false]⟩
   have Abo:Gr C P x o=true->OB (Uc C P sm s j x) (Uc C P sm s i o)=true:=by
    intro hs;have:=ha.1;unfold Xq at this;rw[LM.2 (hmi hs),XO] at this
    simpa using this
   have Jk:∀q,Xq C P sm s1 i o q=Xq C P sm s i o q:=fun q=>by unfold Xq;rw[XO]
   have Jm:dn.all (Xq C P sm s i o)=true:=by
    refine List.all_eq_true.2 fun q hq=>?_
    rw[←Jk];exact List.all_eq_true.1 ha.2 q hq
   refine⟨Jm,?_⟩;rw[XO] at h2
   have h3:=Afa hw (fun hs k hk=>hex k (by rw[U5 (hmj hs)];exact hk)) ap (fun hs=>by have:=Abo hs;rw[U5 (hmj hs),U5 (hmi hs)] at this;exact this)
    (Ns (K':=fun s1=>B7 C P N call ops o s1 (fun s2=>E5 C P N call ops sm ((i,o,Uc C P sm s i o)::(j,x,Uc C P sm s j x)::dn) (l++l') s2 K)) e1 h2)
   obtain⟨s2,e2,Dc,CV,h4⟩:=Ja h3;refine Ns e2 ?_
   have hr2:Uc C P sm s2 j x=Uc C P sm s j x:=VS fun Hh=>by
    obtain⟨q,hq⟩:=List.exists_mem_of_ne_nil _ Hh;refine DD (ops:=ops) (fun t ht=>Dc.1 t fun hd=>ap.ox t hd ht) fun hM hA y hy k hk=>ap.symm.same Dc CV hM hA (hex k ?_)
    rw[U5 hq];exact Ur (.inl hM) hy hk
   unfold E5;rw[hj];simp only[Db]
   have hc:(((i,o,Uc C P sm s i o)::dn).all (Xq C P sm s2 j x)&&(Uc C P sm s2 j x).all fun k=>(s2.hp k).isSome)=true:=by
    simp only[List.all_cons,Bool.and_eq_true];refine⟨⟨?_,?_⟩,?_⟩
    ·unfold Xq;simp only[hr2];cases hs:(sm.getD j []).any (Nat.beq i)
     ·rfl
     ·have hm:=LM.1 hs;rw[hsm,Wb hj] at hm;obtain⟨o',FZ,MB,_⟩:=Lx.1 hm;rw[hi] at FZ;cases FZ;rw[Pw] at MB;rw[OW (Abo MB)];rfl
    ·refine List.all_eq_true.2 fun q hq=>?_
     have:=List.all_eq_true.1 hb.1 q hq;unfold Xq at this ⊢;rw[hr2];exact this
    ·rw[hr2];refine List.all_eq_true.2 fun k hk=>?_
     have:=Dc.2.1 k (hex k hk);cases hh:s2.hp k with
     |none=>exact absurd hh this
     |some _=>rfl
   rw[hc,hr2];show B7 C P N call ops x s2 _=some r
   have:(fun s'=>E5 C P N call ops sm ((j,x,Uc C P sm s j x)::(i,o,Uc C P sm s i o)::dn) (l++l') s' K)=fun s2=>E5 C P N call ops sm ((i,o,Uc C P sm s i o)::(j,x,Uc C P sm s j x)::dn) (l++l') s2 K:=by
    funext s'
    exact Tp _ fun f=>RL _ _ _ f
   rw[this];exact h4
end
section
variable {R:Type} {r:R} {P:Program} {N:Nat} {w0:World} {X0:E6} {Y:Nat->Prop} {β β':Bt} {s:St} {a:Act} {w w':World} {o:Oper} {ops:Array Oper} {C:Et} {call:Aj} {K:St->Option R}
theorem Pd {bs:List Nat}:∀(l:List Oper)(n:Nat),Qq C P ops bs l n=true->∀(k:Nat) o,l[k]?=some o->∀(j:Nat) x,ops[j]?=some x->j<n+k->TM C P ops x o=true->(bs.getD (n+k) 0).testBit j=true
 |[],_,_,k,o,ho,_,_,_,_,_=>by simp at ho
 |o'::l,n,h,k,o,ho,j,x,hx,hj,Kc=>by
  simp only[Qq,Bool.and_eq_true] at h;cases k with
  |zero=>
   simp at ho;subst ho
   have:=List.all_eq_true.1 h.1 (x,j) (by
    rw[List.mem_zipIdx_iff_getElem?]
    simpa using hx)
   simp only[Kc,Bool.not_true,Bool.or_false,Bool.or_eq_true,Bool.not_eq_true'] at this;rcases this with h'|h'
   ·have:Nat.blt j n=true:=Nat.ble_eq_true_of_le (by omega)
    rw[this] at h';cases h'
   ·exact h'
  |succ k=>
   have:=Pd l (n+1) h.2 k o (by simpa using ho) j x hx (by omega) Kc
   rwa [show n+(k+1)=n+1+k by omega]
theorem AQ {G:Glo}(Hg:ES P G w0 X0)(Cj:∀f args res,call f args=some res->De G P f args res)(Jk:Xb C P ops=true){Q:Exit->Act->World->Prop}(hQ:∀s' a' w' β',K s'=some r->Br N w0 X0 Y β' s' a' w'->Q .normal a' w'):
  ∀(fuel:Nat) {dn:List (Nat × Oper × List Nat)} {listed:Array Bool} {s:St} {a:Act} {w:World} {β:Bt},HeadInv .any ops ops.size listed->(Io ops.size listed).length=fuel->Br N w0 X0 Y β s a w->E5 C P N call ops (Tr C P ops (Fi ops.toList [])) dn (Io ops.size listed) s K=some r->wpAny P .any ops Q fuel listed a w:=by
 unfold Xb at Jk;simp only[Bool.and_eq_true] at Jk;obtain⟨QY,Abt⟩:=Jk;intro fuel
 induction fuel with
 |zero=>
  intro dn listed s a w β inv hf h hk;have hp:=List.eq_nil_of_length_eq_zero hf;rw[hp] at hk;refine⟨?_,hQ s a w β hk h⟩;cases hr:Region.ready .any ops listed with
  |nil=>rfl
  |cons i l=>
   exfalso;have hi:i∈Region.ready .any ops listed:=by rw[hr];simp
   obtain⟨Gk,o,ho,_⟩:=mem_ready.1 hi;have:i∈Io ops.size listed:=Ge.2 ⟨(Array.getElem?_eq_some_iff.1 ho).1,Gk⟩;rw[hp] at this;simp at this
 |succ fuel ih=>
  intro dn listed s a w β inv hf h hk;refine⟨fun hr=>?_,fun i hi=>?_⟩
  ·rw[Zx QY inv hr] at hf;cases hf
  ·obtain⟨Gk,o,ho,Jm⟩:=mem_ready.1 hi;have Bl:i<ops.size:=(Array.getElem?_eq_some_iff.1 ho).1;obtain⟨l1,l2,h1,h2,h3⟩:=Po (Ge.2 ⟨Bl,Gk⟩) inv.size;rw[h1] at hk
   have XI:∀j∈l1,((Fi ops.toList []).getD i 0).testBit j=false:=by
    intro j hj;cases Ou:((Fi ops.toList []).getD i 0).testBit j with
    |false=>rfl
    |true=>
     exfalso;have hjl:=Lu (listed:=listed) (fun j oj hj hl=>inv.closed j oj hj hl) ops.toList [] [] (by simp) rfl (by simp) i o ho Jm j Ou
     have:j∈Io ops.size listed:=by rw[h1];simp[hj]
     have:=getD_both (Ge.1 this).2;rw[hjl] at this;cases this
   have M3:∀j∈l1,j<i∧((Fi ops.toList []).getD i 0).testBit j=false∧∀x,ops[j]?=some x->H3 C P ops x o:=by
    intro j hj;refine⟨h3 j hj,XI j hj,fun x hxj=>PN ?_⟩
    cases Kc:TM C P ops x o with
    |false=>rfl
    |true=>
     exfalso;have Ou:=Pd ops.toList 0 Abt i o (by simpa using ho) j x hxj (by have:=h3 j hj;omega) Kc
     rw[Nat.zero_add,XI j hj] at Ou;cases Ou
   obtain⟨s',XY,hn⟩:=Pi h Hg Cj ho (Rk rfl ho l1 (UE h o) M3 hk).2;refine hn _ _ fun a' w' β' h'=>ih (dn:=(i,o,Uc C P (Tr C P ops (Fi ops.toList [])) s i o)::dn) (inv.set hi Bl) ?_ h' ?_
   ·rw[h2];rw[h1] at hf;simp at hf ⊢;omega
   ·rw[h2];exact XY
theorem Ue (h:Br N w0 X0 Y β s a w){G:Glo}(Hg:ES P G w0 X0)(Cj:∀f args res,call f args=some res->De G P f args res)(hm:P.follows .mixedOrders=true)(Jk:Xb C P ops=true){Q:Exit->Act->World->Prop}
  (hk:E5 C P N call ops (Tr C P ops (Fi ops.toList [])) [] (List.range ops.size) s K=some r) (hQ:∀s' a' w' β',K s'=some r->Br N w0 X0 Y β' s' a' w'->Q .normal a' w'):wpAny P .any ops Q ops.size (Array.replicate ops.size false) a { w with drawn:=w.drawn+1 }:=by
 have hp:Io ops.size (Array.replicate ops.size false)=List.range ops.size:=by
  unfold Io;refine List.filter_eq_self.2 fun i hi=>?_
  have:=List.mem_range.1 hi;simp[this]
 refine AQ (C:=C) (dn:=[]) Hg Cj Jk hQ ops.size ⟨by simp,fun j oj _ hl=>(by rw[getD_replicate_false] at hl;cases hl),fun t ht ht'=>by omega⟩ (by rw[hp];simp) h.drew ?_
 rw[hp];exact hk
theorem GF (h:Br N w0 X0 Y β s a w){G:Glo}(Hg:ES P G w0 X0)(Cj:∀f args res,call f args=some res->De G P f args res)(hm:P.follows .mixedOrders=true)(Jk:Xb C P ops=true){id:Nat}{Q:Exit->Act->World->Prop}
  (hk:E5 C P N call ops (Tr C P ops (Fi ops.toList [])) [] (List.range ops.size) s K=some r) (hQ:∀s' a' w' β',K s'=some r->Br N w0 X0 Y β' s' a' w'->Q .normal a' w'):(Code.region id ops true).wp P Q a w:=
 wp_region_any hm (Ue h Hg Cj hm Jk hk hQ)
end
open Go.RowKit
section
variable {R:Type} {r:R} {N:Nat} {w0:World} {X0:E6} {Y:Nat->Prop} {β β':Bt} {s:St} {a:Act} {w w':World}
theorem TT {i:Nat}(hi:i<a.tmps.size):a.put (some i) (a.tmps.getD i undef)=a:=by
 obtain⟨tmps,dfr⟩:=a;change i<tmps.size at hi
 have:tmps.setIfInBounds i (tmps.getD i undef)=tmps:=by
  apply Array.ext_getElem?;intro k;by_cases e:i=k
  ·subst e;simp[hi]
  ·rw[Array.getElem?_setIfInBounds_ne e]
 simp only[Act.put,this]
theorem LH {A:Nat->Prop}{es:Nat}{v:Value}(h:Ao w A (.lst true es 0 []) v):v=.slice none 0 0:=by
 cases h;rfl
theorem KU {id:Nat}(Ax:s.hp id=none){v:PV}{val:Value}(hv:Cu w (Bz (Ak s.hp [(id,.ar false [])]) (Bg β id none) Y) (Bg β id none) v val) (hr:∀i∈A5 v,s.hp i≠none∨i=id):
  X9 Y β s w v [(id,.ar false [])] val w (Bg β id none):=by
 refine⟨rfl,rfl,rfl,Bb.refl _ _,fun j hj=>Ad _ _ (by rintro rfl;exact hj Ax),?_,?_,?_,?_,?_,hv,?_⟩
 ·intro j bx hm;simp at hm;rw[hm.2];trivial
 ·intro j bx hm;simp at hm;obtain⟨rfl,rfl⟩:=hm;exact .inl ⟨Af _ _ _,rfl⟩
 ·intro j bx k q hm hq;simp at hm;obtain⟨rfl,rfl⟩:=hm;rw[Af] at hq;cases hq
 ·intro j bx j' bx' k q q' hm Ii _ _;simp at hm Ii;rw[hm.1,Ii.1]
 ·intro j cells hm;simp at hm
 ·intro j hj;rcases hr j hj with h|rfl
  ·exact .inl h
  ·exact .inr ⟨.ar false [],by simp⟩
theorem X7 (h:Br N w0 X0 Y β s a w)(i:Nat):∃β',Br N w0 X0 Y β' (Up N s i) a w:=by
 unfold Up;split
 ·rename_i es ht
  have Bl:i<N:=by
   rcases Nat.lt_or_ge i N with h'|h'
   ·exact h'
   ·rw[h.tmo i h'] at ht;cases ht
  have hv:=h.tms i Bl;rw[ht] at hv;have hv:=LH hv;have hd:D3 N (some i)=true:=by simp[D3,Nat.blt];omega
  have go:∀j,s.hp j=none->∃β',Br N w0 X0 Y β' ⟨Bg s.tm i (.view j es 0 0),Bg s.hp j (some (.ar false []))⟩ a w:=by
   intro j hn;have:=h.stepR (d:=some i) hd (by simp[A2,hn]) (KU (v:=.view j es 0 0) (val:=.slice none 0 0) hn (.inl ⟨Af _ _ _,rfl,rfl,none,rfl⟩) (by simp[A5,Bf,Ai]))
   rw[←hv,TT (by rw[h.tsz];exact Bl)] at this
   exact⟨_,this⟩
  cases hn:(s.hp i).isNone
  ·cases WB:(s.hp (i+N*3000)).isNone
   ·exact⟨β,h⟩
   ·exact go _ (by simpa using WB)
  ·exact go _ (by simpa using hn)
 ·exact⟨β,h⟩
theorem Br.recell (h:Br N w0 X0 Y β s a w){id:Nat}{c c':List PV}(h0:s.hp id=some (.st c)) (hl:c'.length=c.length)
  (hc:∀(j:Nat) p,c'[j]?=some p->∃q,c[j]?=some q∧(∀v,A6 w (Bz s.hp β Y) β q v->A6 w (Bz s.hp β Y) β p v)∧∀i∈Ai p,s.hp i≠none):
  Br N w0 X0 Y β ⟨s.tm,Bg s.hp id (some (.st c'))⟩ a w:=by
 have Ed:∀i,Bx (Bg s.hp id (some (.st c')) i)↔Bx (s.hp i):=by
  intro i;by_cases e:i=id
  ·subst e;rw[Af,h0];exact Iff.rfl
  ·rw[Ad _ _ e]
 have hX:BK (Bg s.hp id (some (.st c'))) β=BK s.hp β:=by
  funext b
  apply propext;constructor
  ·rintro⟨i,o,hl,hb⟩;exact⟨i,o,(Ed i).1 hl,hb⟩
  ·rintro⟨i,o,hl,hb⟩;exact⟨i,o,(Ed i).2 hl,hb⟩
 have hA:Bz (Bg s.hp id (some (.st c'))) β Y=Bz s.hp β Y:=by
  funext b;unfold Bz;rw[hX]
 have Hh:∀i,s.hp i≠none->Bg s.hp id (some (.st c')) i≠none:=by
  intro i hi;by_cases e:i=id
  ·subst e;rw[Af];simp
  ·rw[Ad _ _ e];exact hi
 have Ak5:∀i,Bg s.hp id (some (.st c')) i≠none->s.hp i≠none:=by
  intro i hi;by_cases e:i=id
  ·subst e;rw[h0];simp
  ·rw[Ad _ _ e] at hi;exact hi
 refine⟨h.dfr,h.tsz,h.tmo,?_,?_,?_,?_,?_,?_,?_,?_,fun i hi=>⟨Hh _ (h.pin i hi).1,(h.pin i hi).2⟩,?_,?_,h.Ylt,h.fr⟩
 ·intro i hi;show Cu w (Bz (Bg s.hp id _) β Y) β _ _;rw[hA];exact h.tms i hi
 ·intro i b hb;show L0 w (Bz (Bg s.hp id _) β Y) β i b;rw[hA];by_cases e:i=id
  ·subst e;change Bg s.hp i (some (.st c')) i=some b at hb;rw[Af] at hb;cases hb;obtain⟨b,o,h1,h2,h3⟩:=h.box i _ h0;refine⟨b,o,h1,fun j p hj=>?_,fun j hj=>h3 j (by rw[←hl];exact hj)⟩
   obtain⟨q,hq,hqp,_⟩:=hc j p hj;obtain⟨v,hv,hr⟩:=h2 j q hq;exact⟨v,hv,hqp v hr⟩
  ·change Bg s.hp id (some (.st c')) i=some b at hb;rw[Ad _ _ e] at hb;exact h.box i b hb
 ·intro i i' b o o' hl Gl hb E1;exact h.inj i i' b o o' ((Ed i).1 hl) ((Ed i').1 Gl) hb E1
 ·intro i b o hn hb;exact h.blt i b o (Ak5 i hn) hb
 ·intro i hi j hj;exact Hh j (h.wfT i hi j hj)
 ·intro i cells hb p hp j hj;change Bg s.hp id (some (.st c')) i=_ at hb;by_cases e:i=id
  ·subst e;rw[Af] at hb;cases hb;obtain⟨k,hk⟩:=List.mem_iff_getElem?.1 hp;obtain⟨_,_,_,hr⟩:=hc k p hk;exact Hh j (hr j hj)
  ·rw[Ad _ _ e] at hb;exact Hh j (h.wfB i cells hb p hp j hj)
 ·intro b hb;exact h.ownd b (by rw[←hX];exact hb)
 ·intro i bx b o hb hlb hβ Bl j hj;change Bg s.hp id (some (.st c')) i=some bx at hb;by_cases e:i=id
  ·subst e;rw[Af] at hb;cases hb;exact h.rngB i _ b o h0 trivial hβ Bl j (by unfold BR at hj ⊢;simp only[hl] at hj;exact hj)
  ·rw[Ad _ _ e] at hb;exact h.rngB i bx b o hb hlb hβ Bl j hj
 ·intro i c1 b o hb hβ Bl;change Bg s.hp id (some (.st c')) i=_ at hb;by_cases e:i=id
  ·subst e;exact h.stp i c b o h0 hβ Bl
  ·rw[Ad _ _ e] at hb;exact h.stp i c1 b o hb hβ Bl
 ·intro b hY hb;exact h.Yx b hY (by rw[←hX];exact hb)
theorem Xu (h:Br N w0 X0 Y β s a w)(id j:Nat):∃β',Br N w0 X0 Y β' (CH N id s j) a w:=by
 unfold CH;split
 ·rename_i c h0;split
  ·rename_i es hj;cases hn:(s.hp (id+N*(j+1))).isNone
   ·exact⟨β,h⟩
   ·have hn:s.hp (id+N*(j+1))=none:=by simpa using hn
    have Hh:id≠id+N*(j+1):=by
     intro e;rw[←e,h0] at hn;cases hn
    have h1:=h.stepR (d:=none) (v:=.top) (val:=undef) rfl (by simp[A2,hn]) (KU hn (.top _) (by simp[A5,Bf,Ai]))
    change Br N w0 X0 Y (Bg β (id+N*(j+1)) none) ⟨s.tm,Bg s.hp (id+N*(j+1)) (some (.ar false []))⟩ a w at h1
    have h2:=h1.recell (id:=id) (c:=c) (c':=c.set j (.view (id+N*(j+1)) es 0 0)) (by show Bg _ _ _ _=_;rw[Ad _ _ Hh];exact h0) (by simp) (by
     intro k p hp;by_cases e:k=j
     ·subst e
      have Bl:k<c.length:=by
       rcases Nat.lt_or_ge k c.length with h'|h'
       ·exact h'
       ·rw[List.getElem?_eq_none h'] at hj;cases hj
      rw[List.getElem?_set_self Bl] at hp;cases hp;refine⟨_,hj,fun v hv=>.inl ⟨Af _ _ _,rfl,rfl,none,LH hv⟩,fun i hi=>?_⟩
      simp[Ai] at hi;subst hi;show Bg _ _ _ _≠none;rw[Af];simp
     ·rw[List.getElem?_set_ne (fun h=>e h.symm)] at hp
      refine⟨p,hp,fun _ hv=>hv,fun i hi=>?_⟩
      have:=h.wfB id c h0 p (List.mem_of_getElem? hp) i hi;show Bg _ _ _ _≠none;by_cases e':i=id+N*(j+1)
      ·subst e';rw[Af];simp
      ·rw[Ad _ _ e'];exact this)
    refine⟨Bg β (id+N*(j+1)) none,?_⟩;have e3:Bg (Bg s.hp (id+N*(j+1)) (some (.ar false []))) id (some (.st (c.set j (.view (id+N*(j+1)) es 0 0))))=Bg (Bg s.hp id (some (.st (c.set j (.view (id+N*(j+1)) es 0 0))))) (id+N*(j+1)) (some (.ar false [])):=EV _ _ _ (fun h=>Hh h.symm)
    change Br N w0 X0 Y (Bg β (id+N*(j+1)) none) ⟨s.tm,Bg (Bg s.hp (id+N*(j+1)) (some (.ar false []))) id (some (.st (c.set j (.view (id+N*(j+1)) es 0 0))))⟩ a w at h2;rw[e3] at h2;exact h2
  ·exact⟨β,h⟩
 ·exact⟨β,h⟩
theorem J0 {f:St->Nat->St}(hf:∀s β,Br N w0 X0 Y β s a w->∀i,∃β',Br N w0 X0 Y β' (f s i) a w):∀(l:List Nat){s:St}{β:Bt},Br N w0 X0 Y β s a w->∃β',Br N w0 X0 Y β' (l.foldl f s) a w
 |[],_,β,h=>⟨β,h⟩
 |i::l,s,β,h=>by
  obtain⟨β1,h1⟩:=hf s β h i;exact J0 hf l h1
theorem BB (h:Br N w0 X0 Y β s a w)(i:Nat):∃β',Br N w0 X0 Y β' (BE N s i) a w:=by
 unfold BE;split
 ·split
  ·exact J0 (fun s β h i=>Xu h _ i) _ h
  ·exact⟨β,h⟩
 ·exact⟨β,h⟩
theorem Zl:∀{m:List (Nat × Nat)},Ck (m.map (·.2))=true->∀{i i' j:Nat},(i,j)∈m->(i',j)∈m->i=i'
 |[],_,_,_,_,h,_=>by simp at h
 |(x,y)::m,hn,i,i',j,h,h'=>by
  simp only[List.map_cons,Ck,Bool.and_eq_true,Bool.not_eq_true'] at hn
  have hy:∀k,(k,y) ∉ m:=by
   intro k hk;exact Ls hn.1 (List.mem_map.2 ⟨(k,y),hk,rfl⟩)
  rcases List.mem_cons.1 h with e|h
  ·cases e;rcases List.mem_cons.1 h' with e|h'
   ·cases e;rfl
   ·exact absurd h' (hy _)
  ·rcases List.mem_cons.1 h' with e|h'
   ·cases e;exact absurd h (hy _)
   ·exact Zl hn.2 h h'
theorem Sq:∀{m:List (Nat × Nat)},Ck (m.map (·.1))=true->∀{i j j':Nat},(i,j)∈m->(i,j')∈m->j=j'
 |[],_,_,_,_,h,_=>by simp at h
 |(x,y)::m,hn,i,j,j',h,h'=>by
  simp only[List.map_cons,Ck,Bool.and_eq_true,Bool.not_eq_true'] at hn
  have hx:∀k,(x,k) ∉ m:=by
   intro k hk;exact Ls hn.1 (List.mem_map.2 ⟨(x,k),hk,rfl⟩)
  rcases List.mem_cons.1 h with e|h
  ·cases e;rcases List.mem_cons.1 h' with e|h'
   ·cases e;rfl
   ·exact absurd h' (hx _)
  ·rcases List.mem_cons.1 h' with e|h'
   ·cases e;exact absurd h (hx _)
   ·exact Sq hn.2 h h'
theorem In {i j:Nat}(h:Nat.beq i j=false):i≠j:=by rintro rfl;rw[Nat.beq_refl] at h;cases h
theorem Ri:∀{m:List (Nat × Nat)} {i j:Nat},Oj m i=some j->(i,j)∈m
 |[],_,_,h=>by cases h
 |(x,y)::m,i,j,h=>by
  unfold Oj at h;cases hb:Nat.beq i x<;>rw[hb] at h
  ·exact List.mem_cons_of_mem _ (Ri h)
  ·have:=Nat.eq_of_beq_eq_true hb;cases h;rw[this];simp
theorem R4 {m:List (Nat × Nat)} {hp:Nat->Option A1}:∀{l:List (Nat × Nat)} {j:Nat}{b:A1},E3 (H7 m hp l) j=some b->∃i b0,(i,j)∈l∧hp i=some b0∧b=ZI m b0
 |[],_,_,h=>by cases h
 |(x,y)::l,j,b,h=>by
  unfold H7 at h;cases hx:hp x with
  |none=>
   rw[hx] at h;obtain⟨i,b0,h1,h2⟩:=R4 h;exact⟨i,b0,List.mem_cons_of_mem _ h1,h2⟩
  |some bx=>
   rw[hx] at h;simp only[E3] at h;cases hb:Nat.beq j y<;>rw[hb] at h
   ·obtain⟨i,b0,h1,h2⟩:=R4 h;exact⟨i,b0,List.mem_cons_of_mem _ h1,h2⟩
   ·have:=Nat.eq_of_beq_eq_true hb;subst this;cases h;exact⟨x,bx,by simp,hx,rfl⟩
theorem I0 {m:List (Nat × Nat)} {hp:Nat->Option A1}:∀{l:List (Nat × Nat)} {i j:Nat},(i,j)∈l->hp i≠none->E3 (H7 m hp l) j≠none
 |[],_,_,h,_=>by simp at h
 |(x,y)::l,i,j,h,hi=>by
  unfold H7;cases hx:hp x with
  |none=>
   rcases List.mem_cons.1 h with e|h
   ·cases e;exact absurd hx hi
   ·exact I0 h hi
  |some bx=>
   simp only[E3];cases hb:Nat.beq j y
   ·rcases List.mem_cons.1 h with e|h
    ·cases e;exact absurd rfl (In hb)
    ·exact I0 h hi
   ·simp
def X6 (m:List (Nat × Nat)) (j:Nat):Option Nat:=
 match m with
 |[]=>none
 |(x,y)::r=>bif Nat.beq j y then some x else X6 r j
theorem LS:∀{m:List (Nat × Nat)} {i j:Nat},X6 m j=some i->(i,j)∈m
 |[],_,_,h=>by cases h
 |(x,y)::m,i,j,h=>by
  unfold X6 at h;cases hb:Nat.beq j y<;>rw[hb] at h
  ·exact List.mem_cons_of_mem _ (LS h)
  ·have:=Nat.eq_of_beq_eq_true hb;cases h;rw[this];simp
theorem GL:∀{m:List (Nat × Nat)} {i j:Nat},(i,j)∈m->∃k,X6 m j=some k
 |[],_,_,h=>by simp at h
 |(x,y)::m,i,j,h=>by
  unfold X6;cases hb:Nat.beq j y
  ·rcases List.mem_cons.1 h with e|h
   ·cases e;exact absurd rfl (In hb)
   ·exact GL h
  ·exact⟨x,rfl⟩
theorem BC {f:Nat->PV}:∀{l:List Nat}{i:Nat},lk (l.map fun i=>(i,f i)) i=if i∈l then f i else .top
 |[],_=>rfl
 |x::l,i=>by
  simp only[List.map_cons,lk];cases hb:Nat.beq i x
  ·have:=In hb;simp only[cond_false,BC,List.mem_cons,this,false_or]
  ·have:=Nat.eq_of_beq_eq_true hb;subst this;simp
theorem Zi {m:Nat}:∀{n i:Nat},i∈H2 m n->i<n
 |0,_,h=>by simp[H2] at h
 |n+1,i,h=>by
  simp only[H2,List.mem_append] at h;rcases h with h|h
  ·have:=Zi h;omega
  ·cases hb:m.testBit n<;>rw[hb] at h
   ·simp at h
   ·simp at h;omega
theorem AB (h:Br N w0 X0 Y β s a w){m:List (Nat × Nat)} (h1:Ck (m.map (·.1))=true) (h2:Ck (m.map (·.2))=true) {ls:List Nat}(hls:∀i∈ls,i<N)(hpn:∀i,X0.pn i->(B2 N i,B2 N i)∈m):
  ∃β',Br N w0 X0 Y β' ⟨lk (ls.map fun i=>(i,MZ m (s.tm i))),E3 (H7 m s.hp m)⟩ a w:=by
 refine⟨fun j=>(X6 m j).bind β,?_⟩
 have hβ:∀{i j:Nat},(i,j)∈m->(X6 m j).bind β=β i:=by
  intro i j hm;obtain⟨k,hk⟩:=GL hm;rw[hk];have:=Zl h2 (LS hk) hm;subst this;rfl
 have hold:∀{j:Nat} {b:A1},E3 (H7 m s.hp m) j=some b->∃i b0,(i,j)∈m∧s.hp i=some b0∧b=ZI m b0∧(X6 m j).bind β=β i:=by
  intro j b hb;obtain⟨i,b0,hm,h3,h4⟩:=R4 hb;exact⟨i,b0,hm,h3,h4,hβ hm⟩
 have Ed:∀{j:Nat},Bx (E3 (H7 m s.hp m) j)->∃i,(i,j)∈m∧Bx (s.hp i)∧(X6 m j).bind β=β i:=by
  intro j hl;cases hb:E3 (H7 m s.hp m) j with
  |none=>rw[hb] at hl;exact hl.elim
  |some b=>
   obtain⟨i,b0,hm,h3,rfl,h5⟩:=hold hb;refine⟨i,hm,?_,h5⟩;rw[hb] at hl;rw[h3];cases b0<;>exact hl
 have hX:∀b,BK (E3 (H7 m s.hp m)) (fun j=>(X6 m j).bind β) b->BK s.hp β b:=by
  rintro b ⟨j,o,hl,hb⟩
  obtain⟨i,_,Gl,e⟩:=Ed hl;exact⟨i,o,Gl,by rw[←e];exact hb⟩
 have hA:∀b,Bz (E3 (H7 m s.hp m)) (fun j=>(X6 m j).bind β) Y b->Bz s.hp β Y b:=fun b hb=>hb.imp (hX b) id
 have hC:∀p v,A6 w (Bz s.hp β Y) β p v->A6 w (Bz (E3 (H7 m s.hp m)) (fun j=>(X6 m j).bind β) Y) (fun j=>(X6 m j).bind β) (HS m p) v:=by
  intro p v hp;cases p with
  |view id es off n=>
   show A6 _ _ _ (match Oj m id with|some j=>.view j es off n|none=>.top) v
   cases hj:Oj m id with
   |some j=>
    have e:=hβ (Ri hj);rcases hp with⟨e1,e2⟩|⟨b,o,x,cap,e1,e2⟩
    ·exact .inl ⟨by show (X6 m j).bind β=none;rw[e];exact e1,e2⟩
    ·exact .inr ⟨b,o,x,cap,by show (X6 m j).bind β=_;rw[e];exact e1,e2⟩
   |none=>exact Ao.top _
  |ptr id off=>
   show A6 _ _ _ (match Oj m id with|some j=>.ptr j off|none=>.top) v
   cases hj:Oj m id with
   |some j=>
    have e:=hβ (Ri hj);obtain⟨b,o,e1,e2⟩:=hp;exact⟨b,o,by show (X6 m j).bind β=_;rw[e];exact e1,e2⟩
   |none=>exact Ao.top _
  |sc v=>exact Ao.step (Bb.refl _ _) (fun b _=>hA b) hp
  |lst z es n c=>exact Ao.step (Bb.refl _ _) (fun b _=>hA b) hp
  |iptr c off=>exact A6.step (p:=.iptr c off) (Bb.refl _ _) (fun b _=>hA b) (by simp[Ai]) hp
  |_=>exact Ao.top _
 have hV:∀p v,Cu w (Bz s.hp β Y) β p v->Cu w (Bz (E3 (H7 m s.hp m)) (fun j=>(X6 m j).bind β) Y) (fun j=>(X6 m j).bind β) (MZ m p) v:=by
  intro p v hp;cases p with
  |agg c=>
   obtain⟨vs,e1,e2⟩:=hp;refine⟨vs,e1,Au.of_at (by simp;exact e2.len) fun i q u hq hu=>?_⟩
   rw[List.getElem?_map] at hq;cases hc:c[i]? with
   |none=>rw[hc] at hq;cases hq
   |some q0=>
    rw[hc] at hq;cases hq;exact hC _ _ (e2.at_ hc hu)
  |view id es off n=>
   have:=hC (.view id es off n) v hp;change A6 _ _ _ (match Oj m id with|some j=>.view j es off n|none=>.top) v at this
   show Cu _ _ _ (match Oj m id with|some j=>.view j es off n|none=>.top) v
   cases hj:Oj m id<;>rw[hj] at this<;>exact this
  |ptr id off=>
   have:=hC (.ptr id off) v hp;change A6 _ _ _ (match Oj m id with|some j=>.ptr j off|none=>.top) v at this
   show Cu _ _ _ (match Oj m id with|some j=>.ptr j off|none=>.top) v
   cases hj:Oj m id<;>rw[hj] at this<;>exact this
  |sc v'=>exact hC (.sc v') v hp
  |lst z es n c=>exact hC (.lst z es n c) v hp
  |iptr c off=>exact hC (.iptr c off) v hp
  |_=>exact Ao.top _
 have hrC:∀p i,i∈Ai (HS m p)->∃k∈Ai p,(k,i)∈m:=by
  intro p i hi;cases p with
  |view id es off n=>
   change i∈Ai (match Oj m id with|some j=>.view j es off n|none=>.top) at hi
   cases hj:Oj m id<;>rw[hj] at hi
   ·simp[Ai] at hi
   ·simp[Ai] at hi;subst hi;exact⟨id,by simp[Ai],Ri hj⟩
  |ptr id off=>
   change i∈Ai (match Oj m id with|some j=>.ptr j off|none=>.top) at hi
   cases hj:Oj m id<;>rw[hj] at hi
   ·simp[Ai] at hi
   ·simp[Ai] at hi;subst hi;exact⟨id,by simp[Ai],Ri hj⟩
  |_=>simp[HS,Ai] at hi
 have hrV:∀p i,i∈A5 (MZ m p)->∃k∈A5 p,(k,i)∈m:=by
  intro p i hi;cases p with
  |agg c=>
   simp only[MZ,A5,Bf,List.mem_flatMap,List.mem_map] at hi;obtain⟨_,⟨q,hq,rfl⟩,hi⟩:=hi;obtain⟨k,hk,hm⟩:=hrC q i hi;exact⟨k,by simp only[A5,Bf,List.mem_flatMap];exact⟨q,hq,hk⟩,hm⟩
  |view id es off n=>
   refine (hrC (.view id es off n) i ?_).imp fun k hk=>hk
   change i∈A5 (match Oj m id with|some j=>.view j es off n|none=>.top) at hi
   show i∈Ai (match Oj m id with|some j=>.view j es off n|none=>.top)
   cases hj:Oj m id<;>rw[hj] at hi<;>exact hi
  |ptr id off=>
   refine (hrC (.ptr id off) i ?_).imp fun k hk=>hk
   change i∈A5 (match Oj m id with|some j=>.ptr j off|none=>.top) at hi
   show i∈Ai (match Oj m id with|some j=>.ptr j off|none=>.top)
   cases hj:Oj m id<;>rw[hj] at hi<;>exact hi
  |_=>simp[MZ,HS,A5,Bf,Ai] at hi
 refine⟨h.dfr,h.tsz,?_,?_,?_,?_,?_,?_,?_,?_,?_,?_,?_,?_,h.Ylt,h.fr⟩
 ·intro i hi;show lk _ i=_;rw[BC,if_neg (fun hm=>by have:=hls i hm;omega)]
 ·intro i hi;show Cu w _ _ (lk _ i) _;rw[BC];split
  ·exact hV _ _ (h.tms i hi)
  ·exact Ao.top _
 ·intro j b hb;obtain⟨i,b0,hm,h3,rfl,e⟩:=hold hb;have H5:=h.box i b0 h3;cases b0 with
  |st c=>
   obtain⟨b,o,e1,e2,e3⟩:=H5;refine⟨b,o,by show (X6 m j).bind β=_;rw[e];exact e1,fun k p hp=>?_,fun k hk=>e3 k (by simpa using hk)⟩
   rw[List.getElem?_map] at hp;cases hc:c[k]? with
   |none=>rw[hc] at hp;cases hp
   |some q=>
    rw[hc] at hp;cases hp;obtain⟨v,hv,hr⟩:=e2 k q hc;exact⟨v,hv,hC _ _ hr⟩
  |ar fz c=>
   have:=L0.step' hA H5;show L0 _ _ _ _ (.ar fz c);rcases this with⟨e1,e2⟩|⟨b,o,e1,e2⟩
   ·exact .inl ⟨by show (X6 m j).bind β=_;rw[e];exact e1,e2⟩
   ·exact .inr ⟨b,o,by show (X6 m j).bind β=_;rw[e];exact e1,e2⟩
  |mv=>exact trivial
 ·intro j j' b o o' hl Gl hb E1;obtain⟨i,hm,Wi,e⟩:=Ed hl;obtain⟨i',Ii,Aje,e'⟩:=Ed Gl;have:=h.inj i i' b o o' Wi Aje (by rw[←e];exact hb) (by rw[←e'];exact E1)
  subst this;exact Sq h1 hm Ii
 ·intro j b o hn hb;cases hj:E3 (H7 m s.hp m) j with
  |none=>exact absurd hj hn
  |some bx=>
   obtain⟨i,b0,_,h3,_,e⟩:=hold hj;exact h.blt i b o (by rw[h3];simp) (by rw[←e];exact hb)
 ·intro i hi j hj;change j∈A5 (lk _ i) at hj;rw[BC] at hj;split at hj
  ·obtain⟨k,hk,hm⟩:=hrV _ j hj;exact I0 hm (h.wfT i hi k hk)
  ·simp[A5,Bf,Ai] at hj
 ·intro j cells hb p hp k hk;obtain⟨i,b0,_,h3,h4,_⟩:=hold hb;cases b0 with
  |st c=>
   cases h4;obtain⟨q,hq,rfl⟩:=List.mem_map.1 hp;obtain⟨k',Hx,hm⟩:=hrC q k hk;exact I0 hm (h.wfB i c h3 q hq k' Hx)
  |ar fz c=>cases h4
  |mv=>cases h4
 ·intro b hb;exact h.ownd b (hX b hb)
 ·intro j bx b o hb hlb hβ1 Bl k hk;obtain⟨i,b0,_,h3,h4,e⟩:=hold hb;subst h4;refine h.rngB i b0 b o h3 ?_ (by rw[←e];exact hβ1) Bl k ?_
  ·cases b0<;>exact hlb
  ·cases b0 with
   |st c=>simpa [BR,ZI] using hk
   |ar fz c=>exact hk
   |mv=>exact hk
 ·intro i hi;exact⟨I0 (hpn i hi) (h.pin i hi).1,(hβ (hpn i hi)).trans (h.pin i hi).2⟩
 ·intro j c b o hb hβ1 Bl;obtain⟨i,b0,hm,h3,h4,e⟩:=hold hb;cases b0 with
  |st c0=>
   obtain⟨k,rfl,hk⟩:=h.stp i c0 b o h3 (by rw[←e];exact hβ1) Bl
   exact⟨k,Sq h1 hm (hpn k hk),hk⟩
  |ar fz c0=>cases h4
  |mv=>cases h4
 ·intro b hY hb;exact h.Yx b hY (hX b hb)
theorem Nt {m:List (Nat × Nat)} {q:Nat × Nat}{o n:Nat}(h:q∈m):q∈Zu m o n:=by
 unfold Zu;split
 ·exact h
 ·exact List.mem_append.2 (.inl h)
theorem Ht {q:Nat × Nat}{new:Nat}:∀{c:List PV}{j:Nat}{m:List (Nat × Nat)},q∈m->q∈L5 N new c j m
 |[],_,_,h=>h
 |p::c,j,m,h=>by
  unfold L5;split
  ·rename_i e;cases e
  ·rename_i e;cases e;exact Ht (Nt h)
  ·rename_i e;cases e;exact Ht h
theorem DB {q:Nat × Nat}{m:List (Nat × Nat)} {i:Nat}(h:q∈m):q∈Uu N s m i:=by
 unfold Uu;split
 ·exact Nt h
 ·split
  ·exact h
  ·split
   ·exact Ht (Nt h)
   ·exact Nt h
 ·exact Ht h
 ·exact h
theorem Qc {q:Nat × Nat}:∀{l:List Nat}{m:List (Nat × Nat)},q∈m->q∈l.foldl (Uu N s) m
 |[],_,h=>h
 |_::l,_,h=>Qc (l:=l) (DB h)
theorem Li {q:Nat × Nat}{m:List (Nat × Nat)} (h:q∈m):∀k,q∈Nb N s.hp k m
 |0=>h
 |k+1=>by
  unfold Nb;split
  ·exact Ht (Li h k)
  ·exact Li h k
theorem Ym:∀{k i:Nat},i<k->s.hp (B2 N i)≠none->(B2 N i,B2 N i)∈GM N s.hp k
 |0,_,h,_=>by omega
 |k+1,i,h,hn=>by
  unfold GM;by_cases e:i=k
  ·subst e
   have:(s.hp (B2 N i)).isSome=true:=by
    cases hq:s.hp (B2 N i) with
    |none=>exact absurd hq hn
    |some b=>rfl
   rw[this];simp
  ·have:=Ym (k:=k) (i:=i) (by omega) hn
   cases (s.hp (B2 N k)).isSome
   ·exact this
   ·exact List.mem_append.2 (.inl this)
theorem Tm (h:Br N w0 X0 Y β s a w){L:Nat}{q:Bool}{K:St->Option R}(hk:MR N (H2 L N) q s K=some r):∃β' s',K s'=some r∧Br N w0 X0 Y β' s' a w:=by
 unfold MR at hk;obtain⟨hb,Cn⟩:=Ae hk;simp only[Bool.and_eq_true] at hb
 obtain⟨β2,h2⟩:∃β2,Br N w0 X0 Y β2 (bif q then s else (H2 L N).foldl (BE N) ((H2 L N).foldl (Up N) s)) a w:=by
  cases q
  ·obtain⟨β1,h1⟩:=J0 (fun s β h i=>X7 h i) (H2 L N) h
   obtain⟨β2,h2⟩:=J0 (fun s β h i=>BB h i) (H2 L N) h1
   exact⟨β2,h2⟩
  ·exact⟨β,h⟩
 obtain⟨β3,h3⟩:=AB h2 hb.1 hb.2 (ls:=H2 L N) (fun i hi=>Zi hi) (fun i hi=>Qc (Li (Ym (X0.p8 i hi) (h2.pin i hi).1) 8))
 exact⟨β3,_,Cn,h3⟩
theorem Mn (h:Br N w0 X0 Y β s a w){L:Nat}{K:St->Option R}(hk:Rl N L s K=some r):∃β' s',K s'=some r∧Br N w0 X0 Y β' s' a w:=Tm h hk
theorem DX (h:Br N w0 X0 Y β s a w){L:Nat}{K:St->Option R}(hk:LL N L s K=some r):∃β' s',K s'=some r∧Br N w0 X0 Y β' s' a w:=Tm h hk
end
open Go.RowKit
section
variable {R:Type} {r:R} {P:Program} {N:Nat} {w0:World} {X0:E6} {Y:Nat->Prop} {C:Et} {call:Aj}
theorem Zg {n:Nat}{F:St->Option R}{s:St}(h:Vq n F s=some r):F s=some r:=by
 unfold Vq at h;split at h
 ·cases h
 ·exact h
theorem GG {β:Bt}{s:St}{a:Act}{w:World}(h:Br N w0 X0 Y β s a w){c:Operand}{kt kf:St->Option R}(hk:VP s c kt kf=some r):(a.eval c=.bool true∧kt s=some r)∨(a.eval c=.bool false∧kf s=some r):=by
 unfold VP at hk;split at hk
 ·rename_i d;split at hk
  ·rename_i b ht;have hv:a.eval (.tmp d)=.bool b:=Bi h (x:=.tmp d) ht;cases b
   ·change kf ⟨Bg s.tm d (.sc (.bool false)),s.hp⟩=some r at hk;rw[Rp s.tm ht] at hk;exact .inr ⟨hv,hk⟩
   ·change kt ⟨Bg s.tm d (.sc (.bool true)),s.hp⟩=some r at hk;rw[Rp s.tm ht] at hk;exact .inl ⟨hv,hk⟩
  ·rename_i ht;have hu:=Bu h (.tmp d);change Cu _ _ _ (s.tm d) _ at hu;rw[ht] at hu;have Fz:Ao w _ .ub (a.eval (.tmp d)):=hu
   obtain⟨b,hv⟩:∃b,a.eval (.tmp d)=.bool b:=by
    generalize a.eval (.tmp d)=x at Fz;cases Fz with
    |ub b=>exact⟨b,rfl⟩
   obtain⟨h1,h2⟩:=Yv hk;cases b
   ·exact .inr ⟨hv,h2⟩
   ·exact .inl ⟨hv,h1⟩
  ·cases hk
 ·exact .inl ⟨rfl,hk⟩
 ·exact .inr ⟨rfl,hk⟩
 ·cases hk
theorem Vg {c:Code}{Q:Exit->Act->World->Prop}{F:(St->Option R)->St->Option R} {nm:St->(St->Option R)->Option R}
  (CW:∀{β s a w} {K:St->Option R},Br N w0 X0 Y β s a w->nm s K=some r->∃β' s',K s'=some r∧Br N w0 X0 Y β' s' a w)
  (hF:∀{β s a w} {K:St->Option R}{Q':Act->World->Prop},Br N w0 X0 Y β s a w->F K s=some r->(∀s' a' w' β',K s'=some r->Br N w0 X0 Y β' s' a' w'->Q' a' w')->c.wp P (Exit.then Q' Q) a w):
  ∀(n:Nat) {β s a w},Br N w0 X0 Y β s a w->UV F nm n s=some r->Code.rounds P c Q n a w
 |0,_,_,_,_,_,hk=>by cases hk
 |n+1,β,s,a,w,h,hk=>by
  rw[rounds_succ];refine hF h hk fun s' a' w' β' Hx h'=>?_
  obtain⟨β1,s1,Cn,h1⟩:=CW h' Hx;exact Vg CW hF n h1 Cn
theorem JZ {G:Glo}(Hg:ES P G w0 X0)(Cj:∀f args res,call f args=some res->De G P f args res)(hm:P.follows .mixedOrders=true){fu:Nat}:
  ∀(c:Code) {ln:Nat} {lx:Nat->Nat} {lr:Nat} {kn:St->Option R} {kx:Nat->St->Option R} {kr:St->Option R} {β:Bt} {s:St} {a:Act} {w:World} {Q:Exit->Act->World->Prop},Br N w0 X0 Y β s a w ->
   Kd C P fu N call c ln lx lr kn kx kr s=some r->(∀s' a' w' β',kn s'=some r->Br N w0 X0 Y β' s' a' w'->Q .normal a' w') ->
   (∀id s' a' w' β',kx id s'=some r->Br N w0 X0 Y β' s' a' w'->Q (.exit id) a' w')->(∀s' a' w' β',kr s'=some r->Br N w0 X0 Y β' s' a' w'->Q .ret a' w')->c.wp P Q a w:=by
 intro c
 induction c with
 |skip=>intro ln lx lr kn kx kr β s a w Q h hk hn hx hr;exact wp_skip (hn s a w β hk h)
 |region id ops draw=>
  intro ln lx lr kn kx kr β s a w Q h hk hn hx hr;unfold Kd at hk;cases draw
  ·simp only[EG,Bool.false_and,cond_false] at hk;exact CF h Hg Cj hk hn
  ·simp only[EG,Abp,Bool.true_and,cond_true] at hk;cases hb:Z0 C P ops<;>rw[hb] at hk
   ·obtain⟨E1,Cn⟩:=Ae (show Ar _ _=some r from hk)
    exact GF h Hg Cj hm E1 Cn hn
   ·exact Z5 h Hg Cj hm hb hk hn
 |seq c1 c2 ih1 ih2=>
  intro ln lx lr kn kx kr β s a w Q h hk hn hx hr;unfold Kd at hk
  refine wp_seq (ih1 h hk (fun s' a' w' β' Hx h'=>by
    cases hc:RK P c1 c2
    ·rw[hc] at Hx;exact ih2 h' Hx hn hx hr
    ·rw[hc] at Hx;cases hq:Un c1 c2
     ·rw[hq] at Hx;obtain⟨β1,s1,Cn,h1⟩:=Mn h' (show Rl _ _ _ _=some r from Hx)
      exact ih2 h1 (Zg Cn) hn hx hr
     ·rw[hq] at Hx;obtain⟨β1,s1,Cn,h1⟩:=DX h' (show LL _ _ _ _=some r from Hx)
      exact ih2 h1 (Zg Cn) hn hx hr) (fun id s' a' w' β' Hx h'=>hx id s' a' w' β' Hx h') (fun s' a' w' β' Hx h'=>hr s' a' w' β' Hx h'))
 |cond c c1 c2 ih1 ih2=>
  intro ln lx lr kn kx kr β s a w Q h hk hn hx hr;unfold Kd at hk;rcases GG h hk with⟨hc,Cn⟩|⟨hc,Cn⟩
  ·exact wp_cond_true hc (ih1 h Cn hn hx hr)
  ·exact wp_cond_false hc (ih2 h Cn hn hx hr)
 |block id c ih=>
  intro ln lx lr kn kx kr β s a w Q h hk hn hx hr;unfold Kd at hk;refine wp_block (ih h hk (fun s' a' w' β' Hx h'=>hn s' a' w' β' Hx h') (fun j s' a' w' β' Hx h'=>?_) (fun s' a' w' β' Hx h'=>hr s' a' w' β' Hx h'))
  show (if j=id then _ else _)
  by_cases e:j=id
  ·subst e;rw[if_pos rfl];rw[Nat.beq_refl] at Hx;exact hn s' a' w' β' Hx h'
  ·rw[if_neg e]
   have:Nat.beq j id=false:=by
    cases hb:Nat.beq j id
    ·rfl
    ·exact absurd (Nat.eq_of_beq_eq_true hb) e
   rw[this] at Hx;exact hx j s' a' w' β' Hx h'
 |loop c ih=>
  intro ln lx lr kn kx kr β s a w Q h hk hn hx hr;unfold Kd at hk;obtain⟨β1,s1,Cn,h1⟩:=Mn h hk;refine wp_loop_rounds fu (Vg (fun h hk=>Mn h hk) (fun h hk hQ=>?_) fu h1 Cn)
  exact ih h hk hQ (fun id s' a' w' β' Hx h'=>hx id s' a' w' β' Hx h') (fun s' a' w' β' Hx h'=>hr s' a' w' β' Hx h')
 |«exit» id=>intro ln lx lr kn kx kr β s a w Q h hk hn hx hr;exact wp_exit (hx id s a w β hk h)
 |ret=>intro ln lx lr kn kx kr β s a w Q h hk hn hx hr;exact wp_ret (hr s a w β hk h)
 |_=>intro ln lx lr kn kx kr β s a w Q h hk hn hx hr;cases hk
end
open Go.RowKit
theorem Ij:∀{l:List (Nat × A1)} {i:Nat}{b:A1},E3 l i=some b->(i,b)∈l
 |[],_,_,h=>by cases h
 |(j,c)::l,i,b,h=>by
  unfold E3 at h;cases hb:Nat.beq i j<;>rw[hb] at h
  ·exact List.mem_cons_of_mem _ (Ij h)
  ·have:=Nat.eq_of_beq_eq_true hb;cases h;rw[this];simp
theorem CJ:∀{l:List (Nat × A1)},(l.map (·.1)).Nodup->∀{i b},(i,b)∈l->E3 l i=some b
 |[],_,_,_,h=>by cases h
 |(j,c)::l,hn,i,b,h=>by
  simp only[List.map_cons,List.nodup_cons] at hn;unfold E3;rcases List.mem_cons.1 h with e|h
  ·cases e;simp only[Nat.beq_refl,cond_true]
  ·have:Nat.beq i j=false:=by
    cases hb:Nat.beq i j
    ·rfl
    ·exact absurd (Nat.eq_of_beq_eq_true hb ▸ List.mem_map.2 ⟨_,h,rfl⟩) hn.1
   simp only[this,cond_false];exact CJ hn.2 h
section
variable {R:Type} {r:R} {P:Program} {N:Nat} {w0:World} {X0:E6} {Y:Nat->Prop} {β β':Bt} {s:St} {a:Act} {w w':World} {A:Nat->Prop}
theorem TU {id:Nat}{t:CT}{p:PV}{K:PV->List (Nat × A1)->Option R} (hk:VH id t p K=some r):
  (∃c,K c []=some r∧O0 c∧∀w A q u,Eo w A q p u->Ao w A c u)∨∃es n cc,p=.own es n cc∧K (.view id es 0 n) [(id,.ar false cc)]=some r:=by
 have tree:∀t',(Sk t' p fun c=>K c [])=some r->∃c,K c []=some r∧O0 c∧∀w A q u,Eo w A q p u->Ao w A c u:=by
  intro t' hk;obtain⟨c,hk,hT,Ws,hv⟩:=Ip hk;refine⟨c,hk,hT,fun w A q u h=>(hv w A (fun _=>none) u ?_).1⟩
  cases p<;>first|exact h|exact Ws.elim
 unfold VH at hk;cases t with
 |sl es=>
  dsimp only at hk;split at hk
  ·rename_i es' n c;cases hb:Nat.beq es' es<;>rw[hb] at hk
   ·cases hk
   ·have:=Nat.eq_of_beq_eq_true hb;subst this;exact .inr ⟨_,_,_,rfl,hk⟩
  ·exact .inl (tree (.sl es) hk)
 |int k=>exact .inl (tree _ hk)
 |bool=>exact .inl (tree _ hk)
 |str=>exact .inl (tree _ hk)
 |any=>exact .inl (tree _ hk)
theorem Kg:∀{ts:List CT}{id:Nat}{ps:List PV}{K:List PV->List (Nat × A1)->Option R},Tv N id ts ps K=some r ->
  ∃cs bs,∃qs:List (Nat × Nat),K cs bs=some r∧cs.length=ps.length∧ps.length=ts.length∧bs.map (·.1)=qs.map (·.1)∧(∀q∈qs,∀q'∈qs,q.2=q'.2->q.1=q'.1) ∧
   (∀i bx,(i,bx)∈bs->∃c,bx=.ar false c)∧(∀c∈cs,X1 c)∧(∀c∈cs,∀i∈Ai c,∃bx,(i,bx)∈bs) ∧
   ∀(w:World) (A:Nat->Prop) (own β':Bt) (j0:Nat) (us:List Value),(∀q∈qs,β' q.1=own (j0+q.2))->Dd w A own j0 ps us->Au (A6 w A β') cs us∧∀i bx,(i,bx)∈bs->L0 w A β' i bx
 |[],id,ps,K,hk=>by
  obtain⟨rfl,hk⟩:=B5 hk;refine⟨[],[],[],hk,rfl,rfl,rfl,by simp,by simp,by simp,by simp,fun w A own β' j0 us _ h=>⟨?_,by simp⟩⟩
  cases us with
  |nil=>trivial
  |cons u us=>exact h.elim
 |t::ts,id,ps,K,hk=>by
  unfold Tv at hk;obtain⟨p,ps',Xk,Cn⟩:=Ap hk;subst Xk;rcases TU Cn with⟨c,Dc,hT,hv⟩|⟨es,n,cc,rfl,Dc⟩
  ·obtain⟨cs,bs,qs,Lb,hl,CV,hb,Uo,Dr,hF,Hy,Ga⟩:=Kg Dc;refine⟨c::cs,bs,qs.map (fun q=>(q.1,q.2+1)),Lb,by simp[hl],by simp[CV],by rw[hb];simp,?_,Dr,?_,?_,fun w A own β' j0 us hβ ho=>?_⟩
   ·intro q hq q' Dp e;obtain⟨q0,Pq,rfl⟩:=List.mem_map.1 hq;obtain⟨q1,F2,rfl⟩:=List.mem_map.1 Dp;exact Uo q0 Pq q1 F2 (by simp only at e;omega)
   ·intro y hy;rcases List.mem_cons.1 hy with rfl|hy
    ·exact Le hT
    ·exact hF y hy
   ·intro y hy i hi;rcases List.mem_cons.1 hy with rfl|hy
    ·rw[Ey hT] at hi;cases hi
    ·exact Hy y hy i hi
   ·cases us with
    |nil=>exact ho.elim
    |cons u us=>
     obtain⟨h1,h2⟩:=Ga w A own β' (j0+1) us (fun q hq=>by rw[hβ _ (List.mem_map_of_mem hq)];congr 1;simp only;omega) ho.2
     exact⟨⟨RU (hv w A _ u ho.1),h1⟩,h2⟩
  ·obtain⟨cs,bs,qs,Lb,hl,CV,hb,Uo,Dr,hF,Hy,Ga⟩:=Kg Dc;refine⟨_::cs,(id,.ar false cc)::bs,(id,0)::qs.map (fun q=>(q.1,q.2+1)),Lb,by simp[hl],by simp[CV],by simp only[List.map_cons,hb];simp,?_,?_,?_,?_,fun w A own β' j0 us hβ ho=>?_⟩
   ·intro q hq q' Dp e;rcases List.mem_cons.1 hq with rfl|hq
    ·rcases List.mem_cons.1 Dp with rfl|Dp
     ·rfl
     ·obtain⟨q0,Pq,rfl⟩:=List.mem_map.1 Dp;simp only at e;omega
    ·obtain⟨q0,Pq,rfl⟩:=List.mem_map.1 hq;rcases List.mem_cons.1 Dp with rfl|Dp
     ·simp only at e;omega
     ·obtain⟨q1,F2,rfl⟩:=List.mem_map.1 Dp;exact Uo q0 Pq q1 F2 (by simp only at e;omega)
   ·intro i bx hm;rcases List.mem_cons.1 hm with e|hm
    ·cases e;exact⟨cc,rfl⟩
    ·exact Dr i bx hm
   ·intro y hy;rcases List.mem_cons.1 hy with rfl|hy
    ·trivial
    ·exact hF y hy
   ·intro y hy i hi;rcases List.mem_cons.1 hy with rfl|hy
    ·simp only[Ai,List.mem_singleton] at hi;subst hi;exact⟨_,List.mem_cons_self⟩
    ·obtain⟨bx,H5⟩:=Hy y hy i hi;exact⟨bx,List.mem_cons_of_mem _ H5⟩
   ·cases us with
    |nil=>exact ho.elim
    |cons u us=>
     obtain⟨h1,h2⟩:=Ga w A own β' (j0+1) us (fun q hq=>by rw[hβ _ (List.mem_cons_of_mem _ (List.mem_map_of_mem hq))];congr 1;simp only;omega) ho.2
     have h0:=hβ (id,0) List.mem_cons_self;simp only[Nat.add_zero] at h0;refine⟨⟨?_,h1⟩,fun i bx hm=>?_⟩
     ·rcases ho.1 with⟨h3,rfl,_,h5⟩|⟨b,ob,cap,h3,h4,h5,h6,h7,_⟩
      ·exact .inl ⟨h0.trans h3,rfl,rfl,h5⟩
      ·exact .inr ⟨b,ob,ob,cap,h0.trans h3,h4,.inl rfl,h5,h6,h7⟩
     ·rcases List.mem_cons.1 hm with e|hm
      ·cases e;exact Rs ho.1 h0
      ·exact h2 i bx hm
theorem XM {i:Nat}{t:TypeId}{p:PV}{K:PV->List (Nat × A1)->Option R} (hk:inK P N i t p K=some r):
  ∃v bs,∃qs:List (Nat × Nat),K v bs=some r∧bs.map (·.1)=qs.map (·.1)∧(∀q∈qs,∀q'∈qs,q.2=q'.2->q.1=q'.1)∧(Rv p=true->(B2 N i,0)∈qs∧i<8) ∧
   (∀id bx,(id,bx)∈bs->Bx (some bx)∧∀c,bx=.st c->id=B2 N i∧Rv p=true)∧(∀id∈A5 v,∃bx,(id,bx)∈bs)∧R7 bs ∧
   ∀(w:World) (A:Nat->Prop) (bt β':Bt) (u:Value),(∀q∈qs,β' q.1=bt q.2)->DN w A bt p u->Cu w A β' v u∧(∀id bx,(id,bx)∈bs->L0 w A β' id bx) ∧
    ∀id bx b o,(id,bx)∈bs->β' id=some (b,o)->∀j,BR bx o j->Ads bt p b j:=by
 have owns:∀{bs:List (Nat × A1)} {qs:List (Nat × Nat)},bs.map (·.1)=qs.map (·.1)->(∀i bx,(i,bx)∈bs->∃c,bx=.ar false c)->∀{bt β':Bt},(∀q∈qs,β' q.1=bt (1+q.2))->∀id bx b o,(id,bx)∈bs->β' id=some (b,o)->∀j,BR bx o j->∃k o',bt (k+1)=some (b,o')∧o'<=j:=by
  intro bs qs hb Dr bt β' hβ id bx b o hm BV j hj;have:id∈qs.map (·.1):=by rw[←hb];exact List.mem_map.2 ⟨_,hm,rfl⟩
  obtain⟨q,hq,rfl⟩:=List.mem_map.1 this;obtain⟨c,rfl⟩:=Dr _ _ hm;rw[hβ q hq,Nat.add_comm] at BV;exact⟨q.2,o,BV,hj⟩
 have nost:∀{bs:List (Nat × A1)},(∀i bx,(i,bx)∈bs->∃c,bx=.ar false c)->R7 bs:=by
  intro bs Dr id cells hm;obtain⟨c,e⟩:=Dr id _ hm;cases e
 unfold inK at hk;split at hk
 ·rename_i e he;obtain⟨ps,rfl,Cn⟩:=Zs hk;obtain⟨hi8,Dc⟩:=Ae Cn;have hi8:i<8:=Nat.lt_of_succ_le (Nat.le_of_ble_eq_true hi8);obtain⟨cs,bs,qs,Lb,hl,CV,hb,Uo,Dr,hF,Hy,hv⟩:=Kg Dc;refine⟨_,_,(B2 N i,0)::qs.map (fun q=>(q.1,q.2+1)),Lb,by simp only[List.map_cons,hb];simp,?_,fun _=>⟨List.mem_cons_self,hi8⟩,?_,?_,?_,fun w A bt β' u hβ hp=>?_⟩
  ·intro q hq q' Dp e;rcases List.mem_cons.1 hq with rfl|hq
   ·rcases List.mem_cons.1 Dp with rfl|Dp
    ·rfl
    ·obtain⟨q0,Pq,rfl⟩:=List.mem_map.1 Dp;simp only at e;omega
   ·obtain⟨q0,Pq,rfl⟩:=List.mem_map.1 hq;rcases List.mem_cons.1 Dp with rfl|Dp
    ·simp only at e;omega
    ·obtain⟨q1,F2,rfl⟩:=List.mem_map.1 Dp;exact Uo q0 Pq q1 F2 (by simp only at e;omega)
  ·intro id bx hm;rcases List.mem_cons.1 hm with e|hm
   ·cases e;exact⟨trivial,fun _ _=>⟨rfl,rfl⟩⟩
   ·obtain⟨c,rfl⟩:=Dr id bx hm;exact⟨trivial,fun _ e=>by cases e⟩
  ·intro id Ax;simp only[A5,Bf,Ai,List.mem_singleton] at Ax;subst Ax;exact⟨_,List.mem_cons_self⟩
  ·intro id cells hm c hc k hk;rcases List.mem_cons.1 hm with e|hm
   ·cases e;obtain⟨bx,H5⟩:=Hy c hc k hk;exact⟨bx,List.mem_cons_of_mem _ H5⟩
   ·obtain⟨c,e⟩:=Dr id _ hm;cases e
  ·obtain⟨b,o,h1,rfl,_,vs,h3,h4,h5⟩:=hp;have h0:=hβ (B2 N i,0) List.mem_cons_self;simp only at h0;have hβ1:∀q∈qs,β' q.1=bt (1+q.2):=fun q hq=>by rw[hβ _ (List.mem_cons_of_mem _ (List.mem_map_of_mem hq)),Nat.add_comm]
   obtain⟨h6,h7⟩:=hv w A bt β' 1 vs hβ1 h3;refine⟨⟨b,o,h0.trans h1,by simp⟩,fun id bx hm=>?_,fun id bx b' o' hm E1 j hj=>?_⟩
   ·rcases List.mem_cons.1 hm with e|hm
    ·cases e;refine⟨b,o,h0.trans h1,fun k c hk=>?_,fun k hk=>h5 k (by omega)⟩
     obtain⟨v,hv,CP⟩:=h6.get hk;exact⟨v,h4 k v hv,CP⟩
    ·exact h7 id bx hm
   ·rcases List.mem_cons.1 hm with e|hm
    ·cases e;rw[h0] at E1;have hj:o'<=j∧j<o'+cs.length:=hj;exact .inr ⟨o',ps,E1,hj.1,.inl ⟨rfl,by omega⟩⟩
    ·exact .inl (owns hb Dr hβ1 id bx b' o' hm E1 j hj)
 ·split at hk
  ·rename_i ps;obtain⟨e,he,Cn⟩:=Bn hk;obtain⟨hi8,Dc⟩:=Ae Cn;have hi8:i<8:=Nat.lt_of_succ_le (Nat.le_of_ble_eq_true hi8);obtain⟨q,qr,hq,Lb⟩:=Ap Dc;subst hq;obtain⟨Sh,W7⟩:=B5 Lb;subst Sh;unfold M4 at W7;split at W7
   ·rename_i es' n c;cases hb:Nat.beq es' (Aq P e)<;>rw[hb] at W7
    ·cases W7
    ·have Ra:=Nat.eq_of_beq_eq_true hb;subst Ra;refine⟨_,_,[(B2 N i,0)],W7,rfl,by simp,fun _=>⟨by simp,hi8⟩,?_,?_,?_,fun w A bt β' u hβ hp=>?_⟩
     ·intro id bx hm;simp only[List.mem_singleton] at hm;cases hm;exact⟨trivial,fun _ e=>by cases e⟩
     ·intro id Ax;simp only[A5,Bf,Ai,List.mem_singleton] at Ax;subst Ax;exact⟨_,List.mem_cons_self⟩
     ·intro id cells hm;simp only[List.mem_singleton] at hm;cases hm
     ·obtain⟨es,n',c',h1,h2⟩:=hp;cases h1;have h0:=hβ (B2 N i,0) List.mem_cons_self;simp only at h0;refine⟨?_,fun id bx hm=>?_,fun id bx b' o' hm E1 j hj=>?_⟩
      ·rcases h2 with⟨h3,rfl,_,h5⟩|⟨b,ob,cap,h3,h4,h5,h6,h7,_⟩
       ·exact .inl ⟨h0.trans h3,rfl,rfl,h5⟩
       ·exact .inr ⟨b,ob,ob,cap,h0.trans h3,h4,.inl rfl,h5,h6,h7⟩
      ·simp only[List.mem_singleton] at hm;cases hm;exact Rs h2 h0
      ·simp only[List.mem_singleton] at hm;cases hm;rw[h0] at E1;exact .inr ⟨o',_,E1,hj,.inr rfl⟩
   ·cases W7
  ·rename_i VY;cases Dy:A8 P t<;>rw[Dy] at hk
   ·simp only[cond_false] at hk;obtain⟨cs,bs,qs,Lb,hl,CV,hb,Uo,Dr,hF,Hy,hv⟩:=Kg hk;obtain⟨c,cs',O6,W7⟩:=Ap Lb;subst O6;obtain⟨Sh,WA⟩:=B5 W7;subst Sh;have hFc:=hF c (by simp)
    have TK:Rv p=false∨∃ps,p=.pbox ps:=by
     cases p<;>first|exact .inl rfl|exact .inr ⟨_,rfl⟩|exact absurd rfl (VY _)
    have hpb:∀ps,p ≠ .pbox ps:=by
     rintro ps rfl
     cases ZH:E9 P t with
     |nil=>rw[ZH] at CV;simp at CV
     |cons t' ts=>
      rw[ZH] at hk;unfold Tv VH at hk;obtain⟨q,qs1,hq,Cn⟩:=Ap hk;cases hq;cases t'<;>simp[Sk,F3,Ag,A4,E7,QO] at Cn
    have hpa:∀ps,p ≠ .agg ps:=by
     rintro ps rfl
     cases ZH:E9 P t with
     |nil=>rw[ZH] at CV;simp at CV
     |cons t' ts=>
      rw[ZH] at hk;unfold Tv VH at hk;obtain⟨q,qs1,hq,Cn⟩:=Ap hk;cases hq;cases t'<;>simp[Sk,F3,Ag,A4,E7,QO] at Cn
    have TK:Rv p=false:=TK.elim id (fun ⟨ps,e⟩=>absurd e (hpb ps))
    have Pc:A5 c=Ai c:=by cases c<;>first|rfl|exact hFc.elim
    refine⟨c,bs,qs.map (fun q=>(q.1,q.2+1)),WA,by rw[hb];simp,?_,(fun h=>by rw[TK] at h;cases h),?_,fun id Ax=>Hy c (by simp) id (by rw[←Pc];exact Ax),nost Dr,fun w A bt β' u hβ hp=>?_⟩
    ·intro q hq q' Dp e;obtain⟨q0,Pq,rfl⟩:=List.mem_map.1 hq;obtain⟨q1,F2,rfl⟩:=List.mem_map.1 Dp;exact Uo q0 Pq q1 F2 (by simp only at e;omega)
    ·intro id bx hm;obtain⟨c,rfl⟩:=Dr id bx hm;exact⟨trivial,fun _ e=>by cases e⟩
    ·have Bq:Eo w A (bt 1) p u:=by cases p<;>first|exact hp.2|exact absurd rfl (hpa _)|exact absurd rfl (hpb _)|exact absurd rfl (VY _)
     have hβ1:∀q∈qs,β' q.1=bt (1+q.2):=fun q hq=>by rw[hβ _ (List.mem_map_of_mem hq),Nat.add_comm]
     obtain⟨h6,h7⟩:=hv w A bt β' 1 [u] hβ1 ⟨Bq,trivial⟩;refine⟨?_,h7,fun id bx b' o' hm E1 j hj=>.inl (owns hb Dr hβ1 id bx b' o' hm E1 j hj)⟩
     have h8:=h6.1;cases c<;>first|exact h8|exact hFc.elim
   ·simp only[cond_true] at hk;obtain⟨ps,hp0,Cn⟩:=Eu hk;subst hp0;obtain⟨cs,bs,qs,Lb,hl,CV,hb,Uo,Dr,hF,Hy,hv⟩:=Kg Cn;refine⟨_,bs,qs.map (fun q=>(q.1,q.2+1)),Lb,by rw[hb];simp,?_,(fun h=>by cases h),?_,fun id Ax=>?_,nost Dr,fun w A bt β' u hβ hp=>?_⟩
    ·intro q hq q' Dp e;obtain⟨q0,Pq,rfl⟩:=List.mem_map.1 hq;obtain⟨q1,F2,rfl⟩:=List.mem_map.1 Dp;exact Uo q0 Pq q1 F2 (by simp only at e;omega)
    ·intro id bx hm;obtain⟨c,rfl⟩:=Dr id bx hm;exact⟨trivial,fun _ e=>by cases e⟩
    ·obtain⟨c,hc,hi⟩:=List.mem_flatMap.1 (show id∈cs.flatMap Ai from Ax)
     exact Hy c hc id hi
    ·obtain⟨vs,h1,_,h3⟩:=hp;have hβ1:∀q∈qs,β' q.1=bt (1+q.2):=fun q hq=>by rw[hβ _ (List.mem_map_of_mem hq),Nat.add_comm]
     obtain⟨h6,h7⟩:=hv w A bt β' 1 vs hβ1 h3;exact⟨⟨vs,h1,h6⟩,h7,fun id bx b' o' hm E1 j hj=>.inl (owns hb Dr hβ1 id bx b' o' hm E1 j hj)⟩
theorem GD:∀{ts:List TypeId}{i:Nat}{ps:List PV}{K:List (Nat × PV)->List (Nat × A1)->Option R},RQ P N i ts ps K=some r ->
  ∃tms bs,∃qs:List (Nat × Nat × Nat),K tms bs=some r∧bs.map (·.1)=qs.map (·.1)∧(∀q∈qs,i<=q.2.1)∧(∀q∈qs,∀q'∈qs,q.2=q'.2->q.1=q'.1) ∧
   (∀k p,ps[k]?=some p->Rv p=true->(B2 N (i+k),i+k,0)∈qs∧i+k<8)∧(∀id bx,(id,bx)∈bs->Bx (some bx)∧∀c,bx=.st c->∃k p,ps[k]?=some p∧Rv p=true∧id=B2 N (i+k)) ∧
   (∀j,∀id∈A5 (lk tms j),∃bx,(id,bx)∈bs)∧R7 bs ∧
   ∀(w:World) (A:Nat->Prop) (bt:T8) (β':Bt) (us:List Value),(∀q∈qs,β' q.1=bt q.2.1 q.2.2)->Ih w A bt i ps us ->
    (∀j,(∃u,i<=j∧us[j-i]?=some u∧Cu w A β' (lk tms j) u)∨(lk tms j=.top∧(i<=j->us[j-i]?=none)))∧(∀id bx,(id,bx)∈bs->L0 w A β' id bx) ∧
    ∀id bx b o,(id,bx)∈bs->β' id=some (b,o)->∀j,BR bx o j->∃k p,ps[k]?=some p∧Ads (bt (i+k)) p b j
 |[],i,ps,K,hk=>by
  obtain⟨Xk,hk⟩:=B5 hk;subst Xk;refine⟨[],[],[],hk,rfl,by simp,by simp,by simp,by simp,(fun j id Ax=>by cases Ax),(by intro i cells hm;cases hm),fun w A bt β' us _ h=>?_⟩
  cases us with
  |nil=>exact⟨fun j=>.inr ⟨rfl,fun _=>by simp⟩,by simp,by simp⟩
  |cons u us=>exact h.elim
 |t::ts,i,ps,K,hk=>by
  unfold RQ at hk;obtain⟨p,ps',Xk,Cn⟩:=Ap hk;subst Xk;obtain⟨v,bs,qs,Dc,hb,hqi,Wk,H5,hr,IM,hv⟩:=XM Cn;obtain⟨tms,bs',qs',Lb,E1,Ac3,Aj1,Agw,Ah6,hr',Ah0,Jy⟩:=GD Dc;refine⟨(i,v)::tms,bs++bs',qs.map (fun q=>(q.1,i,q.2))++qs',Lb,by simp only[List.map_append,hb,E1];simp,?_,?_,?_,?_,?_,?_,fun w A bt β' us hβ hp=>?_⟩
  ·intro q hq;rcases List.mem_append.1 hq with hq|hq
   ·obtain⟨q0,Pq,rfl⟩:=List.mem_map.1 hq;exact Nat.le_refl _
   ·have:=Ac3 q hq;omega
  ·intro q hq q' Dp e;rcases List.mem_append.1 hq with hq|hq
   ·obtain⟨q0,Pq,rfl⟩:=List.mem_map.1 hq;rcases List.mem_append.1 Dp with Dp|Dp
    ·obtain⟨q1,F2,rfl⟩:=List.mem_map.1 Dp;simp only[Prod.mk.injEq,true_and] at e;exact hqi q0 Pq q1 F2 e
    ·have:=Ac3 q' Dp;rw[←e] at this;simp only at this;omega
   ·have h5:=Ac3 q hq;rcases List.mem_append.1 Dp with Dp|Dp
    ·obtain⟨q1,F2,rfl⟩:=List.mem_map.1 Dp;rw[e] at h5;simp only at h5;omega
    ·exact Aj1 q hq q' Dp e
  ·intro k p' Hx hL;cases k with
   |zero=>
    simp only[List.getElem?_cons_zero,Option.some.injEq] at Hx;subst Hx;obtain⟨h1,h2⟩:=Wk hL;exact⟨List.mem_append.2 (.inl (List.mem_map.2 ⟨_,h1,rfl⟩)),h2⟩
   |succ k=>
    obtain⟨h1,h2⟩:=Agw k p' (by simpa using Hx) hL
    rw[show i+1+k=i+(k+1) by omega] at h1 h2
    exact⟨List.mem_append.2 (.inr h1),h2⟩
  ·intro id bx hm;rcases List.mem_append.1 hm with hm|hm
   ·obtain⟨h1,h2⟩:=H5 id bx hm;exact⟨h1,fun c hc=>⟨0,p,rfl,(h2 c hc).2,(h2 c hc).1⟩⟩
   ·obtain⟨h1,h2⟩:=Ah6 id bx hm;refine⟨h1,fun c hc=>?_⟩
    obtain⟨k,p',h3,h4,h5⟩:=h2 c hc;exact⟨k+1,p',by simpa using h3,h4,by rw[h5,show i+1+k=i+(k+1) by omega]⟩
  ·intro j id Ax;unfold lk at Ax;cases hbq:Nat.beq j i<;>rw[hbq] at Ax
   ·obtain⟨bx,h1⟩:=hr' j id Ax;exact⟨bx,List.mem_append.2 (.inr h1)⟩
   ·obtain⟨bx,h1⟩:=hr id Ax;exact⟨bx,List.mem_append.2 (.inl h1)⟩
  ·intro id cells hm c hc k hk;rcases List.mem_append.1 hm with hm|hm
   ·obtain⟨bx,h1⟩:=IM id cells hm c hc k hk;exact⟨bx,List.mem_append.2 (.inl h1)⟩
   ·obtain⟨bx,h1⟩:=Ah0 id cells hm c hc k hk;exact⟨bx,List.mem_append.2 (.inr h1)⟩
  ·cases us with
   |nil=>exact hp.elim
   |cons u us=>
    obtain⟨h1,h2,h3⟩:=hv w A (bt i) β' u (fun q hq=>hβ _ (List.mem_append.2 (.inl (List.mem_map_of_mem hq)))) hp.1
    obtain⟨Wa,h2',h3'⟩:=Jy w A bt β' us (fun q hq=>hβ q (List.mem_append.2 (.inr hq))) hp.2
    refine⟨fun j=>?_,fun id bx hm=>?_,fun id bx b o hm BV j hj=>?_⟩
    ·unfold lk;cases hbq:Nat.beq j i
     ·have Hh:=In hbq;simp only[cond_false];rcases Wa j with⟨u',h4,h5,h6⟩|⟨h4,h5⟩
      ·refine .inl ⟨u',by omega,?_,h6⟩
       rw[show j-i=(j-(i+1))+1 by omega]
       simpa using h5
      ·refine .inr ⟨h4,fun hij=>?_⟩
       rw[show j-i=(j-(i+1))+1 by omega]
       simpa using h5 (by omega)
     ·have:=Nat.eq_of_beq_eq_true hbq;subst this;exact .inl ⟨u,Nat.le_refl _,by simp,h1⟩
    ·rcases List.mem_append.1 hm with hm|hm
     ·exact h2 id bx hm
     ·exact h2' id bx hm
    ·rcases List.mem_append.1 hm with hm|hm
     ·exact⟨0,p,rfl,h3 id bx b o hm BV j hj⟩
     ·obtain⟨k,p',h4,h5⟩:=h3' id bx b o hm BV j hj;exact⟨k+1,p',by simpa using h4,by rw[show i+(k+1)=i+1+k by omega];exact h5⟩
def KG (bt:T8)(args:List PV)(h8:∀k p,args[k]?=some p->Rv p=true->k<8):E6:=
 ⟨QH bt,Ya bt args,fun i=>∃p,args[i]?=some p∧Rv p=true,fun i=>bt i 0,fun i ⟨p,h1,h2⟩=>h8 i p h1 h2⟩
theorem NV {ts:List TypeId}{args:List PV}{us:List Value}{bt:T8}{K:List (Nat × PV)->List (Nat × A1)->Option R} (CS:Ins w Y bt args us)(hk:RQ P N 0 ts args K=some r):
  ∃tms bs,K tms bs=some r∧(A2 (fun _=>none) bs=true->us.length<=N->∃(h8:∀k p,args[k]?=some p->Rv p=true->k<8),∃β0,
   Br N w (KG bt args h8) Y β0 ⟨lk tms,E3 bs⟩ { tmps:=us.toArray++Array.replicate (N-us.toArray.size) undef,defers:=[] } w):=by
 obtain⟨tms,bs,qs,Cn,hb,Pq,hqi,Wk,H5,hr,IM,hv⟩:=GD hk;refine⟨tms,bs,Cn,fun Kf hN=>?_⟩
 have IC:=Lp Kf
 have h8:∀k p,args[k]?=some p->Rv p=true->k<8:=fun k p h1 h2=>by
  have:=(Wk k p h1 h2).2;omega
 have Xh:(qs.map (·.1)).Nodup:=by rw[←hb];exact IC
 obtain⟨β0,hβ0⟩:∃β0:Bt,∀q∈qs,β0 q.1=bt q.2.1 q.2.2:=by
  have:∀(l:List (Nat × Nat × Nat)),(l.map (·.1)).Nodup->∃β0:Bt,∀q∈l,β0 q.1=bt q.2.1 q.2.2:=by
   intro l
   induction l with
   |nil=>intro _;exact⟨fun _=>none,by simp⟩
   |cons q l ih=>
    intro hn;simp only[List.map_cons,List.nodup_cons] at hn;obtain⟨b1,h1⟩:=ih hn.2;refine⟨Bg b1 q.1 (bt q.2.1 q.2.2),fun q' Dp=>?_⟩
    rcases List.mem_cons.1 Dp with rfl|Dp
    ·exact Af _ _ _
    ·have Hh:q'.1≠q.1:=fun e=>hn.1 (by rw[←e];exact List.mem_map.2 ⟨q',Dp,rfl⟩)
     rw[Ad _ _ Hh];exact h1 q' Dp
  exact this qs Xh
 refine⟨h8,β0,?_⟩;obtain⟨hs,CY,hL⟩:=hv w _ bt β0 us hβ0 CS.args
 have hqm:∀id bx,(id,bx)∈bs->∃ik,(id,ik)∈qs∧β0 id=bt ik.1 ik.2:=by
  intro id bx hm;have:id∈qs.map (·.1):=by rw[←hb];exact List.mem_map.2 ⟨_,hm,rfl⟩
  obtain⟨q,hq,rfl⟩:=List.mem_map.1 this;exact⟨q.2,hq,hβ0 q hq⟩
 have hX:∀b,BK (E3 bs) β0 b->QH bt b:=by
  rintro b ⟨id,o,hl,hβ⟩
  cases hq:E3 bs id with
  |none=>rw[hq] at hl;exact hl.elim
  |some bx=>
   obtain⟨ik,_,h2⟩:=hqm id bx (Ij hq);rw[h2] at hβ;exact⟨_,_,_,hβ⟩
 have hA:∀b,Bz (E3 bs) β0 Y b->QH bt b∨Y b:=fun b hb=>hb.imp (hX b) id
 have Aae:∀{p:PV} {u:Value},Cu w (fun b=>QH bt b∨Y b) β0 p u->Cu w (Bz (E3 bs) β0 Y) β0 p u:=fun h=>h.step (Bb.refl _ _) (fun b _=>hA b) (fun _ _=>rfl)
 refine⟨rfl,by simp;omega,fun i hi=>?_,fun i hi=>?_,?_,?_,?_,fun i hi id Ax=>?_,?_,fun b hb=>.inl (hX b hb),?_,?_,?_,fun b hY hXb=>CS.Yx b hY (hX b hXb),CS.Ylt,⟨rfl,rfl,rfl,Bb.refl _ _,fun _ _ _ _=>⟨rfl,rfl⟩⟩⟩
 ·rcases hs i with⟨u,_,h,_⟩|⟨h,_⟩
  ·rw[Nat.sub_zero,List.getElem?_eq_none (by omega)] at h;cases h
  ·exact h
 ·rcases hs i with⟨u,_,h,hv⟩|⟨h,h'⟩
  ·rw[Nat.sub_zero] at h
   have Bl:i<us.length:=by
    rcases Nat.lt_or_ge i us.length with h'|h'
    ·exact h'
    ·rw[List.getElem?_eq_none h'] at h;cases h
   have:(us.toArray++Array.replicate (N-us.toArray.size) undef).getD i undef=u:=by
    rw[Array.getD_eq_getD_getElem?,Array.getElem?_append_left (by simpa using Bl)]
    simp[h]
   show Cu w _ _ _ ((us.toArray++Array.replicate (N-us.toArray.size) undef).getD i undef);rw[this];exact Aae hv
  ·show Cu w _ _ (lk tms i) _;rw[h];exact Ao.top _
 ·intro id bx hq;exact (CY id bx (Ij hq)).step' hA
 ·intro id id' b o o' hl Gl hβ hβ';cases hq:E3 bs id with
  |none=>change Bx (E3 bs id) at hl;rw[hq] at hl;exact hl.elim
  |some bx=>
   cases Dp:E3 bs id' with
   |none=>change Bx (E3 bs id') at Gl;rw[Dp] at Gl;exact Gl.elim
   |some bx'=>
    obtain⟨ik,h1,h2⟩:=hqm id bx (Ij hq);obtain⟨ik',Wa,h2'⟩:=hqm id' bx' (Ij Dp);rw[h2] at hβ;rw[h2'] at hβ';obtain⟨h3,h4⟩:=CS.inj _ _ _ _ b o o' hβ hβ';exact hqi _ h1 _ Wa (Prod.ext h3 h4)
 ·intro id b o hn hβ;cases hq:E3 bs id with
  |none=>exact absurd hq hn
  |some bx=>
   obtain⟨ik,h1,h2⟩:=hqm id bx (Ij hq);rw[h2] at hβ;exact CS.lt b ⟨_,_,_,hβ⟩
 ·obtain⟨bx,hm⟩:=hr i id Ax;show E3 bs id≠none;rw[CJ IC hm];simp
 ·intro id cells hq c hc k hk;obtain⟨bx,hm⟩:=IM id cells (Ij hq) c hc k hk;show E3 bs k≠none;rw[CJ IC hm];simp
 ·intro id bx b o hq hl hβ _ j hj;obtain⟨k,p,h1,h2⟩:=hL id bx b o (Ij hq) hβ j hj;rw[Nat.zero_add] at h2;exact⟨k,p,h1,h2⟩
 ·rintro i ⟨p,h1,h2⟩
  have h3:=(Wk i p h1 h2).1;rw[Nat.zero_add] at h3;refine⟨?_,hβ0 _ h3⟩;have:B2 N i∈bs.map (·.1):=by rw[hb];exact List.mem_map.2 ⟨_,h3,rfl⟩
  obtain⟨⟨id,bx⟩,hm,e⟩:=List.mem_map.1 this;show E3 bs (B2 N i)≠none;rw[←e,CJ IC hm];simp
 ·intro id c b o hq _ _;obtain⟨k,p,h1,h2,h3⟩:=(H5 id _ (Ij hq)).2 c rfl;rw[Nat.zero_add] at h3;exact⟨k,h3,p,h1,h2⟩
end
open Go.RowKit
def Hs (β:Bt)(l:List (Option Nat)) (j:Nat):Option (Nat × Nat):=((l[j]?).bind id).bind β
section
variable {R:Type} {r:R} {P:Program} {N:Nat} {w0:World} {X0:E6} {Y:Nat->Prop} {β β':Bt} {s:St} {a:Act} {w w':World} {A:Nat->Prop}
def VA (s:St)(l:List (Option Nat)):Prop:=∀id,some id∈l->Bx (s.hp id)
def H8 (s:St)(z:List Nat):Prop:=∀id∈z,∃f c,s.hp id=some (.ar f c)
theorem Zc (h : Br N w0 X0 Y β s a w) {shr : Bool} {t : CT} {p : PV} {K : PV -> List Nat -> List Nat -> Option R} (hk : LP shr s.hp t p K = some r) :
    ∃ c q z, K c (Option.toList q) z = some r ∧ (∀ x, c ≠ .agg x ∧ c ≠ .pbox x) ∧ X1 p ∧ (∀ id, q = some id -> ∃ c, s.hp id = some (.ar false c)) ∧ H8 s z ∧
      ∀ (fz : List Nat) A u, (∀ i ∈ z, i ∈ fz) -> H8 s fz -> (∀ b, A b -> Bz (Ac s.hp fz) β Y b) -> A6 w (Bz s.hp β Y) β p u -> Eo w A (q.bind β) c u := by
  have notree : ∀ {c : PV}, O0 c -> ∀ x, c ≠ .agg x ∧ c ≠ .pbox x := fun hT x => ⟨Rq hT x, by rintro rfl; exact hT⟩
  unfold LP at hk
  cases shr <;> simp only[cond_true, cond_false] at hk
  · have tree : ∀ t', (∀ es, t' ≠ .sl es) -> (Sk t' p fun c => K c [] []) = some r -> ∃ c q z, K c (Option.toList q) z = some r ∧ (∀ x, c ≠ .agg x ∧ c ≠ .pbox x) ∧ X1 p ∧ (∀ id, q = some id -> ∃ c, s.hp id = some (.ar false c)) ∧ H8 s z ∧
        ∀ (fz : List Nat) A u, (∀ i ∈ z, i ∈ fz) -> H8 s fz -> (∀ b, A b -> Bz (Ac s.hp fz) β Y b) -> A6 w (Bz s.hp β Y) β p u -> Eo w A (q.bind β) c u := by
      intro t' Hh hk
      obtain⟨c, Cn, hT, Ws, hv⟩ := Ip hk
      refine⟨c, none, [], Cn, notree hT, Le Ws, by simp, (by intro i hi; cases hi), fun fz A u _ _ hA hc => Hc hT ?_⟩
      exact (hv w _ β u hc).1.step (Bb.refl _ _) (fun b _ hb => I1 (hA b hb))
    unfold Aas at hk
    cases t with
    | sl es =>
      dsimp only at hk
      split at hk
      · rename_i id es' off n
        cases hb : (Nat.beq es' es && Nat.beq off 0) <;> rw[hb] at hk
        · cases hk
        · simp only[Bool.and_eq_true] at hb
          have he := Nat.eq_of_beq_eq_true hb.1
          have ho := Nat.eq_of_beq_eq_true hb.2
          subst he ho
          simp only[cond_true] at hk
          split at hk
          · rename_i c h0
            obtain⟨hl, Cn⟩ := Ae hk
            refine⟨_, some id, [], Cn, by simp, trivial, fun i hi => by cases hi; exact⟨c, h0⟩, (by intro i hi; cases hi), fun fz A u _ _ hA hc => ?_⟩
            rcases hc with⟨h1, _, rfl, h4⟩ | ⟨b, o, x, cap, h1, h2, hx, h3, h4, h5⟩
            · exact .inl ⟨h1, rfl, by simp, h4⟩
            · have hx : x = o := by rcases hx with e | ⟨_, e⟩ <;> omega
              subst hx
              rcases h.box id _ h0 with⟨h6, _⟩ | ⟨b', o', h6, h7, h8, _⟩
              · rw[h1] at h6; cases h6
              · rw[h1] at h6
                cases h6
                refine .inr ⟨b, x, cap, h1, h2, h3, h4, h5, fun j q hq => ?_, fun j hj Jh => h8 rfl j hj Jh⟩
                rw[List.getElem?_take] at hq
                split at hq
                · obtain⟨v, hv, h9, ht⟩ := h7 j q hq
                  exact⟨v, hv, h9, ht.step (Bb.refl _ _) (fun b _ hb => I1 (hA b hb))⟩
                · cases hq
          · cases hk
      · obtain⟨z, n, c, Cn, hp⟩ := Dh hk
        obtain⟨hz, Dc⟩ := Ae Cn
        subst hz
        have hpF : X1 p := by rcases hp with e | ⟨e, _⟩ <;> (rw[e]; trivial)
        refine⟨_, none, [], Dc, by simp, hpF, by simp, (by intro i hi; cases hi), fun fz A u _ _ _ hc => ?_⟩
        have hu : u = .slice none 0 0 := by
          rcases hp with rfl | ⟨rfl, _⟩
          · cases hc; rfl
          · exact Ao.val hc
        exact .inl ⟨rfl, rfl, rfl, none, hu⟩
    | int k => exact tree _ (by simp) hk
    | bool => exact tree _ (by simp) hk
    | str => exact tree _ (by simp) hk
    | any => exact tree _ (by simp) hk
  · obtain⟨c, m, Cn, hT, hF, hm, hv⟩ := W3 h hk
    exact⟨c, none, m, Cn, notree hT, hF, by simp, hm, fun fz A u h1 h2 hA hc => Hc hT ((hv fz h1 h2 u hc).1.step (Bb.refl _ _) (fun b _ hb => hA b hb))⟩
structure Ul (s:St) (β:Bt) (Y:Nat->Prop) (w:World) (cs:List PV) (l:List (Option Nat)) (z:List Nat) (ps:List PV):Prop where
 len:l.length=cs.length
 pl:cs.length=ps.length
 na:∀c∈cs,∀x,c ≠ .agg x∧c ≠ .pbox x
 fr:∀p∈ps,X1 p
 own:∀id,some id∈l->∃c,s.hp id=some (.ar false c)
 row:H8 s z
 sem:∀(fz:List Nat) A us,(∀i∈z,i∈fz)->H8 s fz->(∀b,A b->Bz (Ac s.hp fz) β Y b)->Au (A6 w (Bz s.hp β Y) β) ps us->∀own j0,(∀j,j<l.length->own (j0+j)=Hs β l j)->Dd w A own j0 cs us
theorem Ul.nil:Ul s β Y w [] [] [] []:=⟨rfl,rfl,by simp,by simp,by simp,(by intro i hi;cases hi),fun fz A us _ _ _ hu own j0 _=>by
 cases us with
 |nil=>trivial
 |cons u us=>exact hu.elim⟩
theorem Ul.cons {c p:PV}{q:Option Nat}{z zs:List Nat}{cs ps:List PV}{l:List (Option Nat)} (R8:∀x,c ≠ .agg x∧c ≠ .pbox x)(hF:X1 p)(hq:∀id,q=some id->∃c,s.hp id=some (.ar false c)) (hz:H8 s z)
  (hv:∀(fz:List Nat) A u,(∀i∈z,i∈fz)->H8 s fz->(∀b,A b->Bz (Ac s.hp fz) β Y b)->A6 w (Bz s.hp β Y) β p u->Eo w A (q.bind β) c u) (H:Ul s β Y w cs l zs ps):Ul s β Y w (c::cs) (q::l) (z++zs) (p::ps):=by
 refine⟨by simp[H.len],by simp[H.pl],?_,?_,?_,?_,fun fz A us hz1 hz2 hA hu own j0 E4=>?_⟩
 ·intro x hx;rcases List.mem_cons.1 hx with rfl|hx
  ·exact R8
  ·exact H.na x hx
 ·intro x hx;rcases List.mem_cons.1 hx with rfl|hx
  ·exact hF
  ·exact H.fr x hx
 ·intro id Ax;rcases List.mem_cons.1 Ax with e|Ax
  ·exact hq id e.symm
  ·exact H.own id Ax
 ·intro i hi;rcases List.mem_append.1 hi with hi|hi
  ·exact hz i hi
  ·exact H.row i hi
 ·cases us with
  |nil=>exact hu.elim
  |cons u us=>
   have h0:=E4 0 (by simp)
   rw[Nat.add_zero] at h0;refine⟨?_,H.sem fz A us (fun i hi=>hz1 i (by simp[hi])) hz2 hA hu.2 own (j0+1) fun j hj=>?_⟩
   ·rw[h0];exact hv fz A u (fun i hi=>hz1 i (by simp[hi])) hz2 hA hu.1
   ·have:=E4 (j+1) (by simp;omega)
    rw[show j0+1+j=j0+(j+1) by omega,this]
    simp[Hs]
theorem Lz (h:Br N w0 X0 Y β s a w){shr:Bool}:∀{ts:List CT}{ps:List PV}{K:List PV->List Nat->List Nat->Option R},So shr s.hp ts ps K=some r ->
  ∃cs l z,K cs (l.filterMap id) z=some r∧Ul s β Y w cs l z ps
 |[],[],K,hk=>⟨[],[],[],hk,Ul.nil⟩
 |[],_::_,K,hk=>by cases hk
 |_::_,[],K,hk=>by cases hk
 |t::ts,p::ps,K,hk=>by
  unfold So at hk;obtain⟨c,q,z,Cn,R8,hF,hq,hz,hv⟩:=Zc h hk;obtain⟨cs,l,zs,Dc,H⟩:=Lz h Cn;refine⟨c::cs,q::l,z++zs,?_,Ul.cons R8 hF hq hz hv H⟩;cases q<;>exact Dc
theorem Tt (h:Br N w0 X0 Y β s a w):∀{ts:List CT}{ws ps:List PV}{K:List PV->List Nat->List Nat->Option R},Uq s.hp ts ws ps K=some r ->
  ∃cs l z,K cs (l.filterMap id) z=some r∧cs.length=ws.length∧Ul s β Y w cs l z ps
 |[],[],[],K,hk=>⟨[],[],[],hk,rfl,Ul.nil⟩
 |[],_::_,_,K,hk=>by cases hk
 |[],[],_::_,K,hk=>by cases hk
 |_::_,[],_,K,hk=>by cases hk
 |_::_,_::_,[],K,hk=>by cases hk
 |t::ts,x::ws,p::ps,K,hk=>by
  unfold Uq at hk;obtain⟨c,q,z,Cn,R8,hF,hq,hz,hv⟩:=Zc h hk;obtain⟨cs,l,zs,Dc,hl,H⟩:=Tt h Cn;refine⟨c::cs,q::l,z++zs,?_,by simp[hl],Ul.cons R8 hF hq hz hv H⟩
  cases q<;>exact Dc
theorem JD {own:Bt}{zz j:Nat}{p:PV}{u:Value}(hp:∀x,p ≠ .agg x∧p ≠ .pbox x)(h:Dd w A own j [p] [u]):ZA w A own zz j p u:=by
 cases p<;>first|exact h.1|exact absurd rfl (hp _).1|exact absurd rfl (hp _).2
theorem LI (h:Br N w0 X0 Y β s a w){id b o:Nat}{c cs:List PV}{l:List (Option Nat)} {z:List Nat}(h0:s.hp id=some (.st c)) (hβ:β id=some (b,o)) (H:Ul s β Y w cs l z c){fz:List Nat}{A:Nat->Prop}(h1:∀i∈z,i∈fz)(h2:H8 s fz)(hA:∀b,A b->Bz (Ac s.hp fz) β Y b)
  {own:Bt} {j0:Nat} (E4:∀j,j<l.length->own (j0+j)=Hs β l j):XH w A own j0 b o cs:=by
 obtain⟨b',o',Dr,Hy,BM⟩:=h.box id _ h0;rw[hβ] at Dr;cases Dr;refine⟨c.mapIdx (fun j _=>(w.cell? ⟨b,o+j,none⟩).getD undef),H.sem fz A _ h1 h2 hA ?_ own j0 E4,?_,fun k hk=>BM k (by have:=H.pl;omega)⟩
 ·refine Au.of_at (by simp) fun j p v hp hv=>?_
  obtain⟨u,hu,CP⟩:=Hy j p hp;rw[List.getElem?_mapIdx,hp,Option.map_some,hu] at hv;simp at hv;subst hv;exact CP
 ·intro k v PK;rw[List.getElem?_mapIdx] at PK;cases hp:c[k]? with
  |none=>rw[hp] at PK;cases PK
  |some p=>
   obtain⟨u,hu,CP⟩:=Hy k p hp;rw[hp,Option.map_some,hu] at PK;simp at PK;subst PK;exact hu
theorem OT (h:Br N w0 X0 Y β s a w){shr:Bool}{t:TypeId}{p:PV}{u:Value}(hp:Cu w (Bz s.hp β Y) β p u) {K:PV->List Nat->List Nat->Option R}(hk:TQ P shr s.hp t p K=some r):
  ∃v l z,K v (l.filterMap id) z=some r∧l.length=PQ v∧VA s l∧H8 s z ∧
   ∀(fz:List Nat) A zz,(∀i∈z,i∈fz)->H8 s fz->(∀b,A b->Bz (Ac s.hp fz) β Y b)->(∀id c b o,some id∈l->s.hp id=some (.st c)->β id=some (b,o)->zz<=b) ->
    ∀own j0,(∀j,j<l.length->own (j0+j)=Hs β l j)->ZA w A own zz j0 v u:=by
 unfold TQ at hk;split at hk
 ·rename_i e he;split at hk
  ·rename_i id off;split at hk
   ·rename_i c h0;obtain⟨hof,Cn⟩:=Ae hk;have hof:=Nat.eq_of_beq_eq_true hof;subst hof;obtain⟨cs,l,z,Dc,H⟩:=Lz h Cn;obtain⟨b,o,hβ,hu⟩:=hp;refine⟨.pbox cs,some id::l,z,Dc,by simp only[PQ,List.length_cons,H.len];omega,?_,H.row,fun fz A zz h1 h2 hA hz own j0 E4=>?_⟩
    ·intro i hi;rcases List.mem_cons.1 hi with e|hi
     ·cases e;rw[h0];trivial
     ·obtain⟨c',Lk⟩:=H.own i hi;rw[Lk];trivial
    ·have h3:=E4 0 (by simp)
     rw[Nat.add_zero] at h3;refine⟨b,o,by rw[h3];exact hβ,hz id c b o (by simp) h0 hβ,by rw[hu,Nat.add_zero],LI h h0 hβ H h1 h2 hA fun j hj=>?_⟩
     have:=E4 (j+1) (by simp;omega)
     rw[show j0+1+j=j0+(j+1) by omega,this]
     simp[Hs]
   ·cases hk
  ·cases hk
 ·cases Dy:A8 P t<;>rw[Dy] at hk<;>simp only[cond_true,cond_false] at hk
  ·obtain⟨cs,l,z,Cn,H⟩:=Lz h hk;obtain⟨c,cs',O6,Dc⟩:=Ap Cn;subst O6;obtain⟨Sh,Lb⟩:=B5 Dc;subst Sh;have R8:=H.na c (by simp)
   have Zv:PQ c=1:=by cases c<;>first|rfl|exact absurd rfl (R8 _).1|exact absurd rfl (R8 _).2
   have hF:=H.fr p (by simp)
   refine⟨c,l,z,Lb,by rw[Zv];exact H.len,fun i hi=>?_,H.row,fun fz A zz h1 h2 hA _ own j0 E4=>JD R8 (H.sem fz A [u] h1 h2 hA ⟨?_,trivial⟩ own j0 E4)⟩
   ·obtain⟨c',Lk⟩:=H.own i hi;rw[Lk];trivial
   ·cases p<;>first|exact hp|exact hF.elim
  ·obtain⟨ps,Xk,Cn⟩:=Eu hk;subst Xk;obtain⟨cs,l,z,Dc,H⟩:=Lz h Cn;obtain⟨vs,hu,Ga⟩:=hp;refine⟨.agg cs,l,z,Dc,H.len,fun i hi=>?_,H.row,fun fz A zz h1 h2 hA _ own j0 E4=>⟨vs,hu,H.sem fz A vs h1 h2 hA Ga own j0 E4⟩⟩
   obtain⟨c',Lk⟩:=H.own i hi;rw[Lk];trivial
def BU (P:Program)(tmps:Array Value)(w:World)(rv:ResultVar)(u:Value):Prop:=
  (match rv with
   |.tmp t=>(pure (tmps.getD t undef):Sem Value)
   |.cell a t=>do loadVar t (←asAddr (tmps.getD a undef))).run P w=.ok u w
theorem RD (h:Br N w0 X0 Y β s a w)(t:Nat):Cu w (Bz s.hp β Y) β (s.tm t) (a.tmps.getD t undef):=by
 rcases Nat.lt_or_ge t N with h'|h'
 ·exact h.tms t h'
 ·rw[h.tmo t h'];exact Ao.top _
theorem NY (h:Br N w0 X0 Y β s a w){rv:ResultVar}{K:PV->Option R}(hk:SL P s rv K=some r):∃p u,K p=some r∧BU P a.tmps w rv u∧Cu w (Bz s.hp β Y) β p u:=by
 unfold SL at hk;split at hk
 ·rename_i t;exact⟨_,_,hk,rfl,RD h t⟩
 ·rename_i x t;obtain⟨v,ad,val,Cn,B0,hl,hv,_⟩:=DP h (RD h x) hk;refine⟨v,val,Cn,?_,hv⟩;unfold BU;simp[B0,asAddr,hl]
theorem Pn {l l':List (Option Nat)} {j:Nat}(h:j<l.length):Hs β (l++l') j=Hs β l j:=by
 unfold Hs;rw[List.getElem?_append_left h]
theorem Pe {l l':List (Option Nat)} {j:Nat}:Hs β (l++l') (l.length+j)=Hs β l' j:=by
 unfold Hs;rw[List.getElem?_append_right (by omega),Nat.add_sub_cancel_left]
theorem Vp (h:Br N w0 X0 Y β s a w){shr:Bool}:∀{rs:List ResultVar}{ts:List TypeId}{K:List PV->List Nat->List Nat->Option R},BD P shr s rs ts K=some r ->
  ∃vs l z us,K vs (l.filterMap id) z=some r∧Au (BU P a.tmps w) rs us∧l.length=Ke vs∧VA s l∧H8 s z ∧
   ∀(fz:List Nat) A zz,(∀i∈z,i∈fz)->H8 s fz->(∀b,A b->Bz (Ac s.hp fz) β Y b)->(∀id c b o,some id∈l->s.hp id=some (.st c)->β id=some (b,o)->zz<=b) ->
    ∀own j0,(∀j,j<l.length->own (j0+j)=Hs β l j)->LW w A own zz j0 vs us
 |[],[],K,hk=>⟨[],[],[],[],hk,trivial,rfl,(by intro id Ax;cases Ax),(by intro id Ax;cases Ax),fun _ _ _ _ _ _ _ _ _ _=>trivial⟩
 |[],_::_,K,hk=>by cases hk
 |_::_,[],K,hk=>by cases hk
 |rv::rs,t::ts,K,hk=>by
  unfold BD at hk;obtain⟨p,u,Cn,hu,hp⟩:=NY h hk;obtain⟨v,l,z,Dc,hl,hL,hz,hv⟩:=OT h hp Cn;obtain⟨vs,l',z',us,Lb,QS,Gl,PL,PG,Ga⟩:=Vp h Dc;refine⟨v::vs,l++l',z++z',u::us,?_,⟨hu,QS⟩,by simp only[List.length_append,Ke,List.map_cons,List.sum_cons,hl];rw[Gl];rfl,?_,?_,fun fz A zz h1 h2 hA Jf own j0 E4=>⟨?_,?_⟩⟩
  ·rw[List.filterMap_append];exact Lb
  ·intro id Ax;rcases List.mem_append.1 Ax with Ax|Ax
   ·exact hL id Ax
   ·exact PL id Ax
  ·intro id Ax;rcases List.mem_append.1 Ax with Ax|Ax
   ·exact hz id Ax
   ·exact PG id Ax
  ·exact hv fz A zz (fun i hi=>h1 i (by simp[hi])) h2 hA (fun id c b o hi=>Jf id c b o (by simp[hi])) own j0 fun j hj=>by rw[E4 j (by simp;omega),Pn hj]
  ·refine Ga fz A zz (fun i hi=>h1 i (by simp[hi])) h2 hA (fun id c b o hi=>Jf id c b o (by simp[hi])) own (j0+PQ v) fun j hj=>?_
   rw[←hl,Nat.add_assoc,E4 (l.length+j) (by simp;omega),Pe]
theorem Ll (h:Br N w0 X0 Y β s a w){bt:T8}(hpt:∀i,X0.pt i=bt i 0):∀{ts:List TypeId}{i:Nat}{ps:List PV}{K:List (List PV)->List Nat->List Nat->List Nat->Option R},S0 P N s.hp i ts ps K=some r ->
  (∀k p,ps[k]?=some p->Rv p=true->X0.pn (i+k)) ->
  ∃os l z q,K os (l.filterMap id) z q=some r∧(∀id,some id∈l->∃c,s.hp id=some (.ar false c))∧H8 s z∧(∀id∈q,Bx (s.hp id))∧(∀k p,ps[k]?=some p->Rv p=true->B2 N (i+k)∈q) ∧
   ∀(fz:List Nat) A,(∀i∈z,i∈fz)->H8 s fz->(∀i∈q,i ∉ fz)->(∀b,A b->Bz (Ac s.hp fz) β Y b) ->
    ∀own j0,(∀j,j<l.length->own (j0+j)=Hs β l j)->F7 w A own bt j0 i ps os
 |[],i,ps,K,hk,_=>by
  obtain⟨Xk,hk⟩:=B5 hk;subst Xk;exact⟨[],[],[],[],hk,by simp,(by intro id Ax;cases Ax),by simp,by simp,fun _ _ _ _ _ _ _ _ _=>rfl⟩
 |t::ts,i,ps,K,hk,hpn=>by
  unfold S0 at hk;obtain⟨p,ps',Xk,Cn⟩:=Ap hk;subst Xk
  have Ab0:∀k p,ps'[k]?=some p->Rv p=true->X0.pn (i+1+k):=fun k p' h1 h2=>by
   have:=hpn (k+1) p' (by simpa using h1) h2
   rw[show i+1+k=i+(k+1) by omega]
   exact this
  have hpq:∀{q:List Nat},(Rv p=true->B2 N i∈q)->(∀k p,ps'[k]?=some p->Rv p=true->B2 N (i+1+k)∈q)->∀k p',(p::ps')[k]?=some p'->Rv p'=true->B2 N (i+k)∈q:=by
   intro q h1 h2 k p' h3 h4;cases k with
   |zero=>
    simp only[List.getElem?_cons_zero,Option.some.injEq] at h3;subst h3;exact h1 h4
   |succ k=>
    have:=h2 k p' (by simpa using h3) h4
    rw[show i+1+k=i+(k+1) by omega] at this
    exact this
  split at Cn
  ·rename_i ws;obtain⟨e,he,Dc⟩:=Bn Cn;split at Dc
   ·rename_i c h0;obtain⟨cs,l,z,Lb,Kc,H⟩:=Tt h Dc;obtain⟨os,l',z',q,W7,PL,PG,Dp,YE,hv⟩:=Ll h hpt Lb Ab0;refine⟨cs::os,l++l',z++z',B2 N i::q,by rw[List.filterMap_append];exact W7,?_,?_,?_,hpq (fun _=>List.mem_cons_self) (fun k p h1 h2=>List.mem_cons_of_mem _ (YE k p h1 h2)),fun fz A h1 h2 h3 hA own j0 E4=>?_⟩
    ·intro id Ax;rcases List.mem_append.1 Ax with Ax|Ax
     ·exact H.own id Ax
     ·exact PL id Ax
    ·intro id Ax;rcases List.mem_append.1 Ax with Ax|Ax
     ·exact H.row id Ax
     ·exact PG id Ax
    ·intro id Ax;rcases List.mem_cons.1 Ax with rfl|Ax
     ·rw[h0];trivial
     ·exact Dp id Ax
    ·have Wk:=(h.pin i (by have:=hpn 0 _ rfl rfl;rwa [Nat.add_zero] at this)).2
     obtain⟨b,o,Dr,_,_⟩:=h.box _ _ h0;rw[Dr,hpt] at Wk;refine⟨⟨b,o,Wk.symm,Kc,LI h h0 Dr H (fun i hi=>h1 i (by simp[hi])) h2 hA fun j hj=>by rw[E4 j (by simp;omega),Pn hj]⟩,?_⟩
     refine hv fz A (fun i hi=>h1 i (by simp[hi])) h2 (fun i hi=>h3 i (by simp[hi])) hA own (j0+cs.length) fun j hj=>?_
     rw[←H.len,Nat.add_assoc,E4 (l.length+j) (by simp;omega),Pe]
   ·cases Dc
  ·split at Cn
   ·rename_i c h0;obtain⟨os,l',z',q,W7,PL,PG,Dp,YE,hv⟩:=Ll h hpt Cn Ab0;refine⟨c::os,l',z',B2 N i::q,W7,PL,PG,?_,hpq (fun _=>List.mem_cons_self) (fun k p h1 h2=>List.mem_cons_of_mem _ (YE k p h1 h2)),fun fz A h1 h2 h3 hA own j0 E4=>⟨?_,hv fz A h1 h2 (fun i hi=>h3 i (by simp[hi])) hA own j0 E4⟩⟩
    ·intro id Ax;rcases List.mem_cons.1 Ax with rfl|Ax
     ·rw[h0];trivial
     ·exact Dp id Ax
    ·have Wk:=(h.pin i (by have:=hpn 0 _ rfl rfl;rwa [Nat.add_zero] at this)).2
     rw[hpt] at Wk;rcases h.box _ _ h0 with⟨h4,h5⟩|⟨b,o,h4,h5,h6,_⟩
     ·exact .inl ⟨by rw[←Wk];exact h4,h5⟩
     ·exact .inr ⟨b,o,by rw[←Wk];exact h4,h5.weak (fun b _ hb=>I1 (hA b hb)),h6 rfl⟩
   ·cases Cn
  ·rename_i DZ WB;have TK:Rv p=false:=by cases p<;>first|rfl|exact absurd rfl (DZ _)|exact absurd rfl (WB _)
   obtain⟨os,l',z',q,W7,PL,PG,Dp,YE,hv⟩:=Ll h hpt Cn Ab0;refine⟨os,l',z',q,W7,PL,PG,Dp,hpq (fun e=>by rw[TK] at e;cases e) YE,fun fz A h1 h2 h3 hA own j0 E4=>?_⟩
   have:=hv fz A h1 h2 h3 hA own j0 E4;cases p<;>first|exact this|cases TK
theorem GI {f:ResultVar->Sem Value}:∀{rs:List ResultVar}{us:List Value},Au (fun rv u=>(f rv).run P w=.ok u w) rs us->(rs.mapM f).run P w=.ok us w
 |[],[],_=>by simp
 |[],_::_,h=>h.elim
 |_::_,[],h=>h.elim
 |rv::rs,u::us,h=>by
  rw[List.mapM_cons];simp[h.1,GI h.2]
theorem EB {fn:Func}{us:List Value}(h:Au (BU P a.tmps w) fn.results.toList us):(results fn a.tmps).run P w=.ok (Fq us) w:=by
 unfold results;rw[Array.mapM_eq_mapM_toList];simp only[map_eq_pure_bind,bind_assoc,pure_bind,Sem.run_bind];refine Eq.trans (congrArg (fun x=>Result.andThen x _) (GI h)) ?_
 simp only[Result.andThen_ok,Sem.run_pure]
 congr 1
 clear h
 match us with
 |[]=>rfl
 |[u]=>rfl
 |u::v::us=>exact dif_neg (by simp)
theorem EF:∀{l:List (Option Nat)},Ck (l.filterMap id)=true->∀{j j' i:Nat},l[j]?=some (some i)->l[j']?=some (some i)->j=j'
 |[],_,j,j',i,h,_=>by simp at h
 |q::l,hn,j,j',i,h,h'=>by
  have hn':Ck (l.filterMap id)=true:=by
   cases q with
   |none=>exact hn
   |some x=>
    simp only[List.filterMap_cons,id_eq,Ck,Bool.and_eq_true] at hn;exact hn.2
  have hq:∀(x k:Nat),q=some x->l[k]?≠some (some x):=by
   intro x k e hk;subst e;simp only[List.filterMap_cons,id_eq,Ck,Bool.and_eq_true,Bool.not_eq_true'] at hn;exact Ls hn.1 (List.mem_filterMap.2 ⟨some x,List.mem_of_getElem? hk,rfl⟩)
  cases j with
  |zero=>
   cases j' with
   |zero=>rfl
   |succ k'=>
    simp at h h';exact absurd h' (hq i k' h)
  |succ k=>
   cases j' with
   |zero=>
    simp at h h';exact absurd h (hq i k h')
   |succ k'=>
    simp at h h';rw[EF hn' h h']
theorem Y9 {C:Et}{f:FuncId}{fn:Func}{args:List PV}{res:Be}{w:World}{Y:Nat->Prop}{bt:T8}{us:List Value}(CS:Ins w Y bt args us){h8:∀k p,args[k]?=some p->Rv p=true->k<8}
  {s':St} {a':Act} {w':World} {β':Bt} (hr:NO C P f fn args s'=some res) (h:Br fn.ntmps w (KG bt args h8) Y β' s' a' w'):
  a'.defers=[]∧∃v,(results fn a'.tmps).run P w'=.ok v w'∧∃vs own,Ending.returned v=.returned (Fq vs)∧Out w w' Y bt args own res vs:=by
 unfold NO at hr;obtain⟨vs,l,z,us',XO,QS,hll,hL,hz,hv⟩:=Vp h hr;obtain⟨os,l',z',q,hr2,PL,PG,hq,YE,Jy⟩:=Ll h (bt:=bt) (fun _=>rfl) XO (fun k p h1 h2=>by rw[Nat.zero_add];exact⟨p,h1,h2⟩)
 obtain⟨hnd,hr3⟩:=Ae hr2;cases hr3;simp only[Bool.and_eq_true] at hnd;obtain⟨hnd,Ab2⟩:=hnd;obtain⟨DZ,WB,hn3⟩:=Fl hnd
 have Md:∀i∈z++z',i ∉ (l.filterMap id++l'.filterMap id)++q:=by
  intro i hi Ii;have:=List.all_eq_true.1 Ab2 i hi;have h2:((l.filterMap id++l'.filterMap id)++q).any (Nat.beq i)=true:=List.any_eq_true.2 ⟨i,Ii,Nat.beq_refl i⟩;rw[h2] at this;cases this
 have NN:H8 s' (z++z'):=by
  intro i hi;rcases List.mem_append.1 hi with hi|hi
  ·exact hz i hi
  ·exact PG i hi
 refine⟨h.dfr,Fq us',EB QS,us',Hs β' (l++l'),rfl,?_⟩;have Akt:Ck ((l++l').filterMap id)=true:=by rw[List.filterMap_append];exact DZ
 have E4:∀j b o,Hs β' (l++l') j=some (b,o)->∃id,(l++l')[j]?=some (some id)∧β' id=some (b,o):=by
  intro j b o hj;unfold Hs at hj;cases WL:(l++l')[j]? with
  |none=>rw[WL] at hj;cases hj
  |some q=>
   cases q with
   |none=>rw[WL] at hj;cases hj
   |some id=>
    rw[WL] at hj;exact⟨id,rfl,hj⟩
 have G7:∀(j i:Nat),(l++l')[j]?=some (some i)->i∈l.filterMap id++l'.filterMap id:=by
  intro j i hj;rw[←List.filterMap_append];exact List.mem_filterMap.2 ⟨some i,List.mem_of_getElem? hj,rfl⟩
 have Ed:∀(j i:Nat),(l++l')[j]?=some (some i)->Bx (s'.hp i):=by
  intro j i hj;rcases List.mem_append.1 (List.mem_of_getElem? hj) with Ii|Ii
  ·exact hL i Ii
  ·obtain⟨c,hc⟩:=PL i Ii;rw[hc];trivial
 have Abm:∀i,i∈(l.filterMap id++l'.filterMap id)++q->Ac s'.hp (z++z') i=s'.hp i:=by
  intro i hi;rw[A3,if_neg (fun Ii=>Md i Ii hi)]
 have Abq:∀i b o,bt i 0=some (b,o)->B2 fn.ntmps i∈q∧Bx (s'.hp (B2 fn.ntmps i))∧β' (B2 fn.ntmps i)=some (b,o):=by
  intro i b o DE;obtain⟨p,h1,h2⟩:=CS.l0 i _ DE;have h3:=YE i p h1 h2;rw[Nat.zero_add] at h3;exact⟨h3,hq _ h3,(h.pin i ⟨p,h1,h2⟩).2.trans DE⟩
 have hAO:∀b,R2 bt (Hs β' (l++l')) Y b->Bz (Ac s'.hp (z++z')) β' Y b:=by
  rintro b (⟨j,o,hj⟩|⟨i,o,DE⟩|hY)
  ·obtain⟨id,h1,h2⟩:=E4 j b o hj;refine .inl ⟨id,o,?_,h2⟩;rw[Abm id (List.mem_append.2 (.inl (G7 j id h1)))];exact Ed j id h1
  ·obtain⟨h1,h2,h3⟩:=Abq i b o DE;refine .inl ⟨_,o,?_,h3⟩;rw[Abm _ (List.mem_append.2 (.inr h1))];exact h2
  ·exact .inr hY
 have Pt:∀(j id b o:Nat),(l++l')[j]?=some (some id)->β' id=some (b,o)->b<w.heap.size->∃i k o',bt i (k+1)=some (b,o'):=by
  intro j id b o hj hβ Bl;rcases h.ownd b ⟨id,o,Ed j id hj,hβ⟩ with⟨i,k,o',DE⟩|QF
  ·cases k with
   |zero=>
    obtain⟨h1,h2,h3⟩:=Abq i b o' DE;have:=h.inj id _ b o o' (Ed j id hj) h2 hβ h3;subst this;exact absurd h1 (hn3 _ (G7 j _ hj))
   |succ k=>exact⟨i,k,o',DE⟩
  ·omega
 refine⟨h.fr.os,h.fr.tape,h.fr.output,h.fr.step,h.fr.rng,?_,?_,?_,?_⟩
 ·refine hv (z++z') _ _ (fun i hi=>List.mem_append.2 (.inl hi)) NN hAO (fun id c b o hi hc hβ=>?_) _ 0 (fun j hj=>by rw[Nat.zero_add,Pn hj])
  rcases Nat.lt_or_ge b w.heap.size with Bl|QF
  ·obtain⟨k,Hx,p,h1,h2⟩:=h.stp id c b o hc hβ Bl;have h3:=YE k p h1 h2;rw[Nat.zero_add,←Hx] at h3;obtain⟨j,hj⟩:=List.mem_iff_getElem?.1 hi;refine absurd h3 (hn3 id ?_);exact List.mem_append.2 (.inl (List.mem_filterMap.2 ⟨some id,hi,rfl⟩))
  ·exact QF
 ·refine Jy (z++z') _ (fun i hi=>List.mem_append.2 (.inr hi)) NN (fun i hi Ii=>Md i Ii (List.mem_append.2 (.inr hi))) hAO _ _ (fun j hj=>?_)
  rw[←hll,Pe]
 ·intro j b o hj;obtain⟨id,h1,h2⟩:=E4 j b o hj;refine⟨h.blt id b o (Bs (Ed j id h1)) h2,fun Bl=>⟨Pt j id b o h1 h2 Bl,fun x hx=>?_⟩⟩
  cases H5:s'.hp id with
  |none=>have:=Ed j id h1;rw[H5] at this;exact this.elim
  |some bx=>
   have Wi:=Ed j id h1;rw[H5] at Wi;cases bx with
   |st c=>
    obtain⟨k,Hx,p,h3,h4⟩:=h.stp id c b o H5 h2 Bl;have h5:=YE k p h3 h4;rw[Nat.zero_add,←Hx] at h5;exact absurd h5 (hn3 _ (G7 j _ h1))
   |ar fz c=>exact h.rngB id _ b o H5 Wi h2 Bl x hx
   |mv=>exact Wi.elim
 ·intro j j' b o o' hj Jh;obtain⟨id,h1,h2⟩:=E4 j b o hj;obtain⟨id',Wa,h2'⟩:=E4 j' b o' Jh;have:=h.inj id id' b o o' (Ed j id h1) (Ed j' id' Wa) h2 h2';subst this;exact EF Akt h1 Wa
theorem KF {G:Glo}(Hg:NoNG P)(hm:P.follows .mixedOrders=true){C:Et}{fu:Nat}{call:Aj}(Cj:∀f args res,call f args=some res->De G P f args res){f:FuncId}{fn:Func}{c:Code}(hf:P.funcs[f]?=some fn) (hb:fn.body=some c)
  {args:List PV} {res:Be} (hk:Ace C P fu call f fn c args=some res):De G P f args res:=by
 refine⟨⟨fn,hf,by rw[hb];rfl⟩,fun w Y bt us CS hG hGY=>?_⟩
 unfold Ace at hk;obtain⟨tms,bs,Cn,Jf⟩:=NV CS hk;obtain⟨Dr,Dc⟩:=Ae Cn;simp only[Bool.and_eq_true] at Dr
 have C3:us.length<=fn.ntmps:=by
  rw[←CS.args.len];exact Nat.le_of_ble_eq_true Dr.1
 obtain⟨h8,β0,hs⟩:=Jf Dr.2 C3;refine calls_of_wp hf hb ?_;have hE:ES P G w (KG bt args h8):=⟨Hg,fun w' WP=>G.stable w w' (fun b hb Bl=>WP.step.keep b Bl (hGY b hb).2) hG,hGY⟩
 refine JZ hE Cj hm c hs Dc (fun s' a' w' β' hr h=>Y9 CS hr h) (fun id s' a' w' β' hr h=>by cases hr) (fun s' a' w' β' hr h=>Y9 CS hr h)
def ExtOk (G:Glo)(P:Program)(C:Et):Prop:=∀f g args res,C.ext f=some g->g args=some res->De G P f args res
theorem Ta {G:Glo}(Hg:NoNG P)(hm:P.follows .mixedOrders=true){C:Et}(hx:ExtOk G P C){fu:Nat}:∀(d:Nat)(f:FuncId)(args:List PV)(res:Be),Am C P fu d f args=some res->De G P f args res
 |0,_,_,_,h=>by cases h
 |d+1,f,args,res,h=>by
  unfold Am at h;split at h
  ·rename_i g hg;exact hx f g args res hg h
  ·split at h
   ·cases h
   ·rename_i fn hf;split at h
    ·cases h
    ·rename_i c hb;exact KF Hg hm (Ta Hg hm hx d) hf hb h
end
open Go.ChangeShapes Go.WideShapes Go.ChangeAt Go.RowKit Go.Deep
def BJ (P:Program):List Field->Nat->Nat->Bool
 |[],i,n=>Nat.beq i n
 |f::r,i,n=>Nat.beq f.offset i&&BJ P r (i+P.cellsOf f.type) n
def Ik (P:Program):Nat->TypeId->Bool
 |0,_=>false
 |d+1,t=>
  match P.underlying t with
  |some .bool=>true
  |some (.int _)=>true
  |some .string=>true
  |some (.slice e)=>Ik P d e&&Nat.blt 0 (P.cellsOf e)
  |some (.struct fs)=>BJ P fs.toList 0 (P.cellsOf t)&&fs.toList.all fun f=>Ik P d f.type
  |some (.array n e)=>Nat.beq (P.cellsOf t) (n*P.cellsOf e)&&Ik P d e
  |_=>false
def WT (P:Program):Nat->TypeId->List PV->Prop
 |0,_,_=>False
 |d+1,t,ps=>
  match P.underlying t with
  |some .bool=>∃b,ps=[.sc (.bool b)]
  |some (.int k)=>∃n,ps=[.sc (.int k n)]∧(Lit.int k n).wf=true
  |some .string=>∃s:ByteArray,ps=[.sc (.string s)]∧s.size<=maxLen
  |some (.slice e)=>∃rows:List (List PV),ps=[.lst false (P.cellsOf e) rows.length rows.flatten]∧rows.length<=maxLen∧∀r∈rows,r.length=P.cellsOf e∧WT P d e r
  |some (.struct fs)=>∃rows:List (List PV),ps=rows.flatten∧Au (fun f r=>WT P d f.type r) fs.toList rows
  |some (.array n e)=>∃rows:List (List PV),ps=rows.flatten∧rows.length=n∧∀r∈rows,r.length=P.cellsOf e∧WT P d e r
  |_=>False
def WTv (P:Program)(t:TypeId)(p:PV):Prop:=
 match A8 P t with
 |true=>∃ps,p=.agg ps∧WT P 12 t ps
 |false=>WT P 12 t [p]
section
variable {P:Program} {d:Nat} {t e:TypeId} {ps:List PV}
theorem XZ (hu:P.underlying t=some .bool):WT P (d+1) t ps↔∃b,ps=[.sc (.bool b)]:=by
 show (match P.underlying t with|some .bool=>_|some (.int k)=>_|some .string=>_|some (.slice e)=>_|some (.struct fs)=>_|some (.array n e)=>_|_=>_)↔_
 rw[hu]
theorem RP {k:IntKind}(hu:P.underlying t=some (.int k)):WT P (d+1) t ps↔∃n,ps=[.sc (.int k n)]∧(Lit.int k n).wf=true:=by
 show (match P.underlying t with|some .bool=>_|some (.int k)=>_|some .string=>_|some (.slice e)=>_|some (.struct fs)=>_|some (.array n e)=>_|_=>_)↔_
 rw[hu]
theorem PY (hu:P.underlying t=some .string):WT P (d+1) t ps↔∃s:ByteArray,ps=[.sc (.string s)]∧s.size<=maxLen:=by
 show (match P.underlying t with|some .bool=>_|some (.int k)=>_|some .string=>_|some (.slice e)=>_|some (.struct fs)=>_|some (.array n e)=>_|_=>_)↔_
 rw[hu]
theorem EE (hu:P.underlying t=some (.slice e)):WT P (d+1) t ps↔∃rows:List (List PV),ps=[.lst false (P.cellsOf e) rows.length rows.flatten]∧rows.length<=maxLen∧∀r∈rows,r.length=P.cellsOf e∧WT P d e r:=by
 show (match P.underlying t with|some .bool=>_|some (.int k)=>_|some .string=>_|some (.slice e)=>_|some (.struct fs)=>_|some (.array n e)=>_|_=>_)↔_
 rw[hu]
theorem OE {fs:Array Field}(hu:P.underlying t=some (.struct fs)):WT P (d+1) t ps↔∃rows:List (List PV),ps=rows.flatten∧Au (fun f r=>WT P d f.type r) fs.toList rows:=by
 show (match P.underlying t with|some .bool=>_|some (.int k)=>_|some .string=>_|some (.slice e)=>_|some (.struct fs)=>_|some (.array n e)=>_|_=>_)↔_
 rw[hu]
theorem UF {n:Nat}(hu:P.underlying t=some (.array n e)):WT P (d+1) t ps↔∃rows:List (List PV),ps=rows.flatten∧rows.length=n∧∀r∈rows,r.length=P.cellsOf e∧WT P d e r:=by
 show (match P.underlying t with|some .bool=>_|some (.int k)=>_|some .string=>_|some (.slice e)=>_|some (.struct fs)=>_|some (.array n e)=>_|_=>_)↔_
 rw[hu]
end
inductive Ki where
 |bool
 |int (k:IntKind)
 |str
 |sl (e:TypeId)
 |st (ts:List TypeId)
 |ar (n:Nat) (e:TypeId)
 |no
def M6 (P:Program)(t:TypeId):Ki:=
 match P.underlying t with
 |some .bool=>.bool
 |some (.int k)=>.int k
 |some .string=>.str
 |some (.slice e)=>.sl e
 |some (.struct fs)=>.st (fs.toList.map (·.type))
 |some (.array n e)=>.ar n e
 |_=>.no
section
variable {P:Program} {d:Nat} {t e:TypeId} {ps:List PV} {p:PV}
theorem Au.cons_inv {α β:Type}{R:α->β->Prop}{a:α}{zs:List α}:∀{rs:List β},Au R (a::zs) rs->∃r rs',rs=r::rs'∧R a r∧Au R zs rs'
 |[],h=>h.elim
 |r::rs,h=>⟨r,rs,rfl,h.1,h.2⟩
theorem Au.nil_inv {α β:Type}{R:α->β->Prop}:∀{rs:List β},Au R ([]:List α) rs->rs=[]
 |[],_=>rfl
 |_::_,h=>h.elim
theorem Acv {k:IntKind}(hk:M6 P t=.int k)(h:WT P d t ps):∃n,ps=[.sc (.int k n)]∧(Lit.int k n).wf=true:=by
 cases d with
 |zero=>exact h.elim
 |succ d=>
 unfold M6 at hk;split at hk<;>first|cases hk|skip
 rename_i hu;exact (RP hu).1 h
theorem Afc (hk:M6 P t=.sl e)(h:WT P d t ps):∃rows:List (List PV),ps=[.lst false (P.cellsOf e) rows.length rows.flatten]∧rows.length<=maxLen∧∀r∈rows,r.length=P.cellsOf e∧WT P (d-1) e r:=by
 cases d with
 |zero=>exact h.elim
 |succ d=>
 rw[Nat.add_sub_cancel];unfold M6 at hk;split at hk<;>first|cases hk|skip
 rename_i hu;exact (EE hu).1 h
theorem WX (hk:A8 P t=false)(h:WTv P t p):WT P 12 t [p]:=by
 unfold WTv at h;rw[hk] at h;exact h
theorem S1 {α:Type}(f:α->List PV)(Q:α->Prop):∀{rows:List (List PV)},(∀r∈rows,∃x,r=f x∧Q x)->∃xs:List α,rows.flatten=xs.flatMap f∧rows.length=xs.length∧∀x∈xs,Q x
 |[],_=>⟨[],rfl,rfl,by simp⟩
 |r::rows,h=>by
  obtain⟨x,h1,h2⟩:=h r (by simp)
  obtain⟨xs,h3,h4,h5⟩:=S1 (rows:=rows) f Q fun r hr=>h r (by simp[hr])
  refine⟨x::xs,by simp[h1,h3],by simp[h4],fun y hy=>?_⟩
  rcases List.mem_cons.1 hy with rfl|hy
  ·exact h2
  ·exact h5 y hy
end
abbrev No:Nat->Prop:=fun _=>False
section
variable {H:Type} {enc:TypeId × Value->H} {P:Program} {w:World} {base:Nat} {held:Bool}
theorem Au.flat {α β:Type}{R:α->β->Prop}:∀{l:List Nat}{f:Nat->List α}{g:Nat->List β},(∀i∈l,Au R (f i) (g i))->Au R (l.map f).flatten (l.map g).flatten
 |[],_,_,_=>trivial
 |i::l,f,g,h=>by
  simp only[List.map_cons,List.flatten_cons];exact (h i (by simp)).app (Au.flat fun j hj=>h j (by simp[hj]))
theorem NP {a:Addr}{v:Value}(h:w.cell? a=some v):a.spot=none∧a.block<w.heap.size:=by
 unfold World.cell? at h;split at h
 ·rename_i c t f e;refine⟨?_,?_⟩
  ·cases hs:a.spot with
   |none=>rfl
   |some x=>rw[hs] at h;simp at h
  ·rcases Nat.lt_or_ge a.block w.heap.size with h1|h1
   ·exact h1
   ·rw[Array.getElem?_eq_none h1] at e;cases e
 ·cases h
theorem Wo {α:Type}{g:Nat->List α}{es:Nat}:∀{n:Nat},(∀i,i<n->(g i).length=es)->((List.range n).map g).flatten.length=n*es
 |0,_=>by simp
 |n+1,h=>by
  rw[List.range_succ,List.map_append,List.flatten_append,List.length_append,Wo (fun i hi=>h i (by omega))]
  simp[h n (by omega),Nat.succ_mul]
theorem V5 {a:Addr}{g:Nat->List Value}{es:Nat}:∀{n:Nat},(∀i,i<n->(g i).length=es)->(∀i,i<n->∀k,k<es->w.cell? (a.add (i*es+k))=(g i)[k]?) ->
  ∀j,j<n*es->w.cell? (a.add j)=(((List.range n).map g).flatten)[j]?
 |0,_,_,j,hj=>by omega
 |n+1,hl,hc,j,hj=>by
  have Y4:=Wo (fun i (hi:i<n)=>hl i (by omega))
  rw[List.range_succ,List.map_append,List.flatten_append,List.getElem?_append,Y4];rw[Nat.succ_mul] at hj;split
  ·rename_i h1;exact V5 (fun i hi=>hl i (by omega)) (fun i hi=>hc i (by omega)) j h1
  ·rename_i h1;have:=hc n (by omega) (j-n*es) (by omega)
   rw[show n*es+(j-n*es)=j by omega] at this
   simpa using this
abbrev TR (w:World)(c:PV)(v:Value):Prop:=(O0 c∧Ao w No c v)∧v.oneCell'=true
theorem Tl {d:Nat}{cs:List Value}{n:Nat}(hn:cs.length=n):∀(l:List Field)(i:Nat),BJ P l i n=true ->
  (∀f∈l,∃ps,WT P d f.type ps∧Au (TR w) ps ((cs.drop f.offset).take (P.cellsOf f.type)))->∃rows:List (List PV),Au (fun f r=>WT P d f.type r) l rows∧Au (TR w) rows.flatten (cs.drop i)
 |[],i,ho,_=>by
  have:=Nat.eq_of_beq_eq_true ho;refine⟨[],trivial,?_⟩;rw[List.drop_of_length_le (by omega)]
  trivial
 |f::l,i,ho,h=>by
  simp only[BJ,Bool.and_eq_true] at ho;have ho1:=Nat.eq_of_beq_eq_true ho.1;obtain⟨ps,h1,h2⟩:=h f (by simp)
  obtain⟨rows,h3,h4⟩:=Tl hn l _ ho.2 fun g hg=>h g (by simp[hg])
  refine⟨ps::rows,⟨h1,h3⟩,?_⟩;rw[ho1] at h2;have:cs.drop i=(cs.drop i).take (P.cellsOf f.type)++cs.drop (i+P.cellsOf f.type):=by rw[←List.drop_drop];exact (List.take_append_drop _ _).symm
  rw[this,List.flatten_cons];exact h2.app h4
theorem Va {d:Nat}{e:TypeId}{cs:List Value}{k:Nat}:∀(n:Nat),n*k<=cs.length ->
  (∀i,i<n->∃ps,(ps.length=k∧WT P d e ps)∧Au (TR w) ps ((cs.drop (i*k)).take k))->∃rows:List (List PV),rows.length=n∧(∀r∈rows,r.length=k∧WT P d e r)∧Au (TR w) rows.flatten (cs.take (n*k))
 |0,_,_=>⟨[],rfl,by simp,by simp[Au]⟩
 |n+1,hl,h=>by
  rw[Nat.succ_mul] at hl;obtain⟨rows,h1,h2,h3⟩:=Va n (by omega) fun i hi=>h i (by omega)
  obtain⟨ps,h4,h5⟩:=h n (by omega)
  refine⟨rows++[ps],by simp[h1],?_,?_⟩
  ·intro r hr;rcases List.mem_append.1 hr with hr|hr
   ·exact h2 r hr
   ·rw[List.mem_singleton.1 hr];exact h4
  ·rw[List.flatten_append,Nat.succ_mul,List.take_add];refine h3.app ?_
   simpa using h5
theorem N6:∀(d:Nat)(t:TypeId),Ik P d t=true->∀(fuel:Nat)(cs:List Value)(x:DataW H × List MemPlace),DataW.trod enc P w base (fun _=>true) held fuel t cs=some x ->
  ∃ps,WT P d t ps∧Au (TR w) ps cs
 |0,_,h,_,_,_,_=>by cases h
 |d+1,t,hp,fuel,cs,x,h=>by
  unfold Ik at hp;split at hp
  ·rename_i hu;obtain⟨b,rfl,_⟩:=DataW.trod_bool hu h;simp only[XZ hu];exact⟨[.sc (.bool b)],⟨b,rfl⟩,⟨⟨trivial,Ao.sc _⟩,rfl⟩,trivial⟩
  ·rename_i k hu;obtain⟨n,rfl,_,hw⟩:=DataW.trod_int hu h;simp only[RP hu];exact⟨[.sc (.int k n)],⟨n,rfl,hw⟩,⟨⟨trivial,Ao.sc _⟩,rfl⟩,trivial⟩
  ·rename_i hu;obtain⟨s,rfl,_,hw⟩:=DataW.trod_string hu h;simp only[PY hu];exact⟨[.sc (.string s)],⟨s,rfl,hw⟩,⟨⟨trivial,Ao.sc _⟩,rfl⟩,trivial⟩
  ·rename_i e hu;simp only[Bool.and_eq_true] at hp;have Ra:0<P.cellsOf e:=Nat.lt_of_succ_le (Nat.le_of_ble_eq_true hp.2);simp only[EE hu];rcases open_slice hu h with⟨rfl,_⟩|⟨a,len,cap,m,n,D,Pl,rfl,_,hl,hm,QJ,_,hi⟩
   ·exact⟨[.lst false (P.cellsOf e) 0 []],⟨[],by simp,by simp,by simp⟩,⟨⟨trivial,Ao.lnil _ _⟩,rfl⟩,trivial⟩
   ·simp only[if_true] at QJ;subst QJ
    have CC:∀i,i<len->∃q:List PV × List Value,(q.2.length=P.cellsOf e∧(∀k,k<P.cellsOf e->w.cell? (a.add (i*P.cellsOf e+k))=q.2[k]?))∧WT P d e q.1∧Au (TR w) q.1 q.2:=by
     intro i Bl;obtain⟨cs',hc,ht⟩:=hi i (by omega)
     obtain⟨_,Kc,hat⟩:=World.cells?_some hc;obtain⟨ps,h1,h2⟩:=N6 d e hp.1 _ _ _ ht;exact⟨(ps,cs'),⟨Kc,fun k hk=>by rw[←Pv.add_add];exact hat k hk⟩,h1,h2⟩
    obtain⟨F,hF⟩:=choose_lt CC;refine⟨[.lst false (P.cellsOf e) len ((List.range len).map fun i=>(F i).1).flatten],⟨(List.range len).map fun i=>(F i).1,by simp,by simp;omega,?_⟩,⟨⟨trivial,?_⟩,rfl⟩,trivial⟩
    ·intro r hr;obtain⟨i,hi1,rfl⟩:=List.mem_map.1 hr;have hi2:=List.mem_range.1 hi1;exact⟨by rw[(hF i hi2).2.2.len];exact (hF i hi2).1.1,(hF i hi2).2.1⟩
    ·rcases Nat.eq_zero_or_pos len with h0|h0
     ·subst h0;exact Ao.lemp _ _ _
     ·have Jm:Au (TR w) ((List.range len).map fun i=>(F i).1).flatten ((List.range len).map fun i=>(F i).2).flatten:=Au.flat fun i hi=>(hF i (List.mem_range.1 hi)).2.2
      have hcell:=V5 (w:=w) (a:=a) (g:=fun i=>(F i).2) (fun i hi=>(hF i hi).1.1) (fun i hi=>(hF i hi).1.2)
      have C3:=Wo (g:=fun i=>(F i).2) (fun i (hi:i<len)=>(hF i hi).1.1)
      have h00:w.cell? a≠none:=by
       have:=hcell 0 (Nat.mul_pos h0 Ra);rw[show a.add 0=a by unfold Addr.add;simp] at this
       rw[this,List.getElem?_eq_getElem (by rw[C3];exact Nat.mul_pos h0 Ra)]
       simp
      obtain⟨v0,hv0⟩:=Option.ne_none_iff_exists'.1 h00;obtain⟨hs,hb⟩:=NP hv0
      have key:∀j c,(((List.range len).map fun i=>(F i).1).flatten)[j]?=some c->∃v,w.cell? (a.add j)=some v∧TR w c v:=by
       intro j c hj
       have WL:j<len*P.cellsOf e:=by
        rw[←C3,←Jm.len];rcases Nat.lt_or_ge j (((List.range len).map fun i=>(F i).1).flatten).length with h1|h1
        ·exact h1
        ·rw[List.getElem?_eq_none h1] at hj;cases hj
       have h1:=hcell j WL;rw[List.getElem?_eq_getElem (by rw[C3];exact WL)] at h1
       exact⟨_,h1,Jm.at_ hj (List.getElem?_eq_getElem (by rw[C3];exact WL))⟩
      refine Ao.lst _ _ _ a _ (fun j=>(w.cell? (a.add j)).getD undef) hs hb (fun h=>h) hl (fun j c hj=>?_) (fun j c hj=>?_) (fun j c hj=>?_)
      ·obtain⟨v,hv,_⟩:=key j c hj;rw[hv];rfl
      ·obtain⟨v,hv,ht⟩:=key j c hj;rw[hv];exact ht.2
      ·obtain⟨v,hv,ht⟩:=key j c hj;rw[hv];exact ht.1.2
  ·rename_i fs hu;simp only[Bool.and_eq_true] at hp;simp only[OE hu];obtain⟨xs,n,_,_,C3,hxl,hf⟩:=DataW.trod_struct hu h
   obtain⟨rows,h1,h2⟩:=Tl (P:=P) (w:=w) (d:=d) C3 fs.toList 0 hp.1 fun f NS=>by
    obtain⟨i,hi⟩:=List.mem_iff_getElem?.1 NS;have CC:fs[i]?=some f:=by simpa using hi
    have Bl:i<fs.size:=(Array.getElem?_eq_some_iff.1 CC).1;have h3:=hf i f CC;rw[List.getElem?_eq_getElem (by omega)] at h3
    exact N6 d f.type (List.all_eq_true.1 hp.2 f NS) _ _ _ h3
   exact⟨_,⟨rows,rfl,h1⟩,by simpa using h2⟩
  ·rename_i n e hu;simp only[Bool.and_eq_true] at hp;simp only[UF hu];obtain⟨xs,m,_,_,C3,hxl,hf⟩:=DataW.trod_array hu h;have Iv:=Nat.eq_of_beq_eq_true hp.1
   obtain⟨rows,h1,h2,h3⟩:=Va (P:=P) (w:=w) (d:=d) (e:=e) (cs:=cs) (k:=P.cellsOf e) n (by omega) fun i hi=>by
    have h3:=hf i hi;rw[List.getElem?_eq_getElem (by omega)] at h3
    obtain⟨ps,h4,h5⟩:=N6 d e hp.2 _ _ _ h3;refine⟨ps,⟨?_,h4⟩,h5⟩;rw[h5.len,List.length_take,List.length_drop,C3,Iv];have:(i+1)*P.cellsOf e<=n*P.cellsOf e:=Nat.mul_le_mul_right _ hi;rw[Nat.succ_mul] at this;omega
   refine⟨_,⟨rows,rfl,h1,h2⟩,?_⟩;rw[List.take_of_length_le (by omega)] at h3
   exact h3
  ·cases hp
theorem SM {r:Reach}{b0:Nat}{t:TypeId}{v:Value}{dd:DataW H}{p:List MemPlace}(hp:Ik P 12 t=true)(hv:Value.okWide P w r b0 t v)(h:DataW.Trod enc P w base (fun _=>true) held t v dd p):
  ∃q,WTv P t q∧Lf w No q v:=by
 obtain⟨fuel,hf⟩:=h;obtain⟨ps,h1,h2⟩:=N6 12 t hp fuel _ _ hf;unfold WTv A8
 have two:∀{cs:Array Value},v=.agg cs->∃q,(∃ps,q=.agg ps∧WT P 12 t ps)∧Lf w No q v:=by
  intro cs e;subst e;exact⟨.agg ps,⟨ps,rfl,h1⟩,cs.toList,by simp,h2.mono fun c v h=>h.1⟩
 have one:v.cells.toList=[v]->∃q,WT P 12 t [q]∧Lf w No q v:=by
  intro e;rw[e] at h2
  match ps,h2 with
  |[q],h2=>
   refine⟨q,h1,?_⟩;have h3:=h2.1.1;cases q<;>first|exact h3|exact h3.1.elim
  |[],h2=>exact h2.elim
  |_::_::_,h2=>exact h2.2.elim
 unfold Ik at hp;split at hp
 ·rename_i hu;simp only[hu];obtain⟨b,rfl,_⟩:=open_bool hu hv ⟨fuel,hf⟩;exact one rfl
 ·rename_i k hu;simp only[hu];obtain⟨b,rfl,_⟩:=open_int hu hv ⟨fuel,hf⟩;exact one rfl
 ·rename_i hu;simp only[hu];obtain⟨b,rfl,_⟩:=ChangeMaps.open_string hu hv ⟨fuel,hf⟩;exact one rfl
 ·rename_i e hu;simp only[hu];obtain⟨a,len,cap,rfl⟩:=okWide_slice hu hv;exact one rfl
 ·rename_i fs hu;simp only[hu];obtain⟨cs,rfl,_⟩:=okWide_struct hu hv;exact two rfl
 ·rename_i n e hu;simp only[hu];unfold Value.okWide at hv;simp only[hu] at hv;obtain⟨cs,rfl,_⟩:=hv;exact two rfl
 ·cases hp
theorem Yw:∀{ts:List TypeId}{vs:List Value}{ds:List (DataW H)} {p:List MemPlace}{r:Reach}{b0:Nat},(ts.all fun t=>Ik P 12 t)=true->(∀(j:Nat) t v,ts[j]?=some t->vs[j]?=some v->Value.okWide P w r b0 t v) ->
  DataW.TrodAll enc P w base (fun _=>true) held ts vs ds p->∃qs,Au (WTv P) ts qs∧Au (Lf w No) qs vs
 |[],[],[],_,_,_,_,_,_=>⟨[],trivial,trivial⟩
 |t::ts,v::vs,d::ds,_,r,b0,hp,hv,⟨p,q,h1,h2,_⟩=>by
  simp only[List.all_cons,Bool.and_eq_true] at hp;obtain⟨x,h3,h4⟩:=SM hp.1 (hv 0 t v rfl rfl) h1;obtain⟨xs,h5,h6⟩:=Yw hp.2 (fun j t v ht Jy=>hv (j+1) t v ht Jy) h2
  exact⟨x::xs,⟨h3,h5⟩,h4,h6⟩
 |[],_::_,_,_,_,_,_,_,h=>by cases h
 |[],[],_::_,_,_,_,_,_,h=>by cases h
 |_::_,[],_,_,_,_,_,_,h=>by cases h
 |_::_,_::_,[],_,_,_,_,_,h=>by cases h
theorem O7 (hl:laidOutB P=true){W W':World}{sp:Nat->Bool}:∀{ts:List TypeId}{vs:List Value}{ds:List (DataW H)} {p:List MemPlace},(ts.all fun t=>P.readableRec t&&Nat.blt t P.types.size)=true ->
  DataW.TrodAll enc P W 0 (fun _=>true) true ts vs ds p->(∀x∈p,W.sameAt W' x)->(∀x∈p,sp x.block=true)->DataW.TrodAll enc P W' 0 sp true ts vs ds p
 |[],[],[],_,_,h,_,_=>h
 |t::ts,v::vs,d::ds,_,hr,⟨p,q,h1,h2,e⟩,hs,QN=>by
  simp only[List.all_cons,Bool.and_eq_true] at hr;refine⟨p,q,WideElems.Trod_stays hl hr.1.1 (Nat.lt_of_succ_le (Nat.le_of_ble_eq_true hr.1.2)) h1 (fun x hx=>hs x ?_) (fun x hx=>QN x ?_),O7 hl hr.2 h2 (fun x hx=>hs x ?_) (fun x hx=>QN x ?_),e⟩
  all_goals rw[e,List.mem_append]
  ·exact .inl hx
  ·exact .inl hx
  ·exact .inr hx
  ·exact .inr hx
 |[],_::_,_,_,_,h,_,_=>by cases h
 |[],[],_::_,_,_,h,_,_=>by cases h
 |_::_,[],_,_,_,h,_,_=>by cases h
 |_::_,_::_,[],_,_,h,_,_=>by cases h
theorem Xm {f:Func}{s:ChangeSpec}{apart fresh Z7 again:Bool}{W W':World}{args:Array Value}{v:Value}{ds gs:List (DataW H)} {before pa pv:List MemPlace}
  (hW:DataW.Whole enc P f.params.toList s.vars apart W args.toList ds gs before)
  (Afs:∀(b:Nat)(sp:Nat->Bool)(hd:Bool),DataW.TrodAll enc P W' b sp hd f.resultTypes.toList (v.resultList f.resultTypes.size) (s.fn H (ds++gs)).results [])
  (C4:∀sp:Nat->Bool,(∀p∈before,sp p.block=true)->DataW.TrodAll enc P W' 0 sp true f.params.toList args.toList (s.fn H (ds++gs)).args pa)
  (FE:∀sp:Nat->Bool,(∀p∈before,sp p.block=true)->DataW.TrodVars enc P W' sp s.vars (s.fn H (ds++gs)).vars pv)
  (Xk:before=pa++pv)(hb:Below W.heap.size W W')
  (Jk:∀(j:Nat)(t:TypeId)(r:Value),f.resultTypes[j]?=some t->(v.resultList f.resultTypes.size)[j]?=some r->Value.okWide P W' .any 0 t r):
  s.post enc P f apart fresh Z7 again W args v W':=by
 have Bl:∀p∈before,p.block<W.heap.size:=fun p hp=>hW.lt p hp
 have hold:∀p∈before,(fun b=>decide (b<W.heap.size)) p.block=true:=fun p hp=>by simpa using Bl p hp
 refine⟨ds,gs,before,[],pa,pv,hW,Afs _ _ _,C4 _ hold,FE _ hold,World.keptBut_mono (fun p hp=>⟨hp,?_⟩) (hb.frame (· ∈ before)),fun _=>?_⟩
 ·rw[Xk,List.mem_append] at hp;exact Or.inr hp
 ·obtain⟨_,_,_,_,_,hz,hn⟩:=hW;refine⟨Jk,_,_,([]++pa)++pv,⟨[]++pa,pv,trodAll_append (C4 _ (fun _ _=>rfl)) (Afs _ _ _),FE _ (fun _ _=>rfl),rfl,?_,?_⟩,?_⟩
  ·intro b off hp;have CS:MemPlace.cell b off∈before:=by rw[Xk];simpa using hp
   rw[hb.frozen (Bl _ CS)];exact hz b off CS
  ·intro ha;have:=hn ha;rw[Xk] at this
   simpa using this
  ·intro p hp _;rw[Xk]
   simpa using hp
theorem law_contract {G:Glo}{C:Et}(hx:ExtOk G P C)(Hg:NoNG P)(hm:P.follows .mixedOrders=true)(hl:laidOutB P=true){f:FuncId}{fn:Func}{s:ChangeSpec}{tb:TypeId}(hfn:P.funcs[f]?=some fn)
  (FE:s.vars=[]) (Af8:∀ds:List (DataW H),ds.length=fn.params.size->s.fn H ds={ results:=[.lit (.bool true)],args:=ds }) (Aci:(fn.params.toList.all fun t=>Ik P 12 t)=true)
  (Agq:(fn.params.toList.all fun t=>P.readableRec t&&Nat.blt t P.types.size)=true) (hrt:fn.resultTypes = #[tb]) (hub:P.underlying tb=some .bool)
  {apart fresh Z7 again:Bool} (W:World) (base:Nat) (args:Array Value) (ds gs:List (DataW H)) (before:List MemPlace)
  (hval:∀(j:Nat) t v,fn.params[j]?=some t->args[j]?=some v->Value.okWide P W .any base t v)
  (hW:DataW.Whole enc P fn.params.toList s.vars apart W args.toList ds gs before)
  (Ak9:∀qs:List PV,Au (WTv P) fn.params.toList qs->∃fu d,Am C P fu d f qs=some ⟨[.sc (.bool true)],[]⟩) (hG:G.ok W)(hGY:∀b,G.bl b->b<W.heap.size):
  Calls P f args W fun e W'=>∃v,e=.returned v∧s.post enc P fn apart fresh Z7 again W args v W':=by
 have hW':=hW;obtain⟨p,q,hA,hV,rfl,Md,hnd⟩:=hW;rw[FE] at hV;obtain⟨rfl,rfl⟩:=trodVars_none hV;obtain⟨qs,h1,h2⟩:=Yw Aci (fun j t v ht hv=>hval j t v (by simpa using ht) (by simpa using hv)) hA
 obtain⟨fu,d,hc⟩:=Ak9 qs h1;have hS:=(Ta Hg hm hx d f qs _ hc).2 W No RF args.toList (CZ (fun b h=>h.elim) h2) hG (fun b hb=>⟨hGY b hb,Wp b⟩)
 rw[Array.toArray_toList] at hS;refine hS.mono fun e W' ⟨vs,own,he,ho⟩=>?_
 have hv:=ho.vals
 have Ga:vs=[.bool true]:=by
  match vs,hv with
  |[u],hv=>
   have:Ao W' _ (.sc (.bool true)) u:=hv.1;rw[this.val]
  |[],hv=>exact hv.elim
  |_::_::_,hv=>exact hv.2.elim
 subst Ga;subst he;have hb:Below W.heap.size W W':=⟨ho.os,ho.tape,ho.output,ho.ext.size,fun k hk=>ho.ext.keep k hk (Wp k)⟩
 have Bl:∀x∈p,x.block<W.heap.size:=fun x hx=>hW'.lt x (by simpa using hx)
 have C3:ds.length=fn.params.size:=by
  have:∀{ts:List TypeId} {vs:List Value} {ds:List (DataW H)} {p:List MemPlace},DataW.TrodAll enc P W 0 (fun _=>true) true ts vs ds p->ds.length=ts.length:=by
   intro ts
   induction ts with
   |nil=>intro vs ds p h;cases vs<;>cases ds<;>first|rfl|cases h
   |cons t ts ih=>
    intro vs ds p h;cases vs with
    |nil=>cases h
    |cons v vs=>
     cases ds with
     |nil=>cases h
     |cons d ds=>obtain⟨_,_,_,h2,_⟩:=h;simp[ih h2]
  simpa using this hA
 have QN:=Af8 (ds++[]) (by simpa using C3)
 refine⟨_,rfl,Xm (pa:=p) (pv:=[]) hW' ?_ ?_ ?_ rfl hb ?_⟩
 ·intro b sp hd;rw[QN,hrt];exact trodAll_mk1 (shut_bool hub _)
 ·intro sp Ajj;rw[QN];simp only[List.append_nil];exact O7 hl Agq hA (fun x hx=>hb.same (Bl x hx)) (fun x hx=>Ajj x (by simpa using hx))
 ·intro sp _;rw[QN,FE];rfl
 ·exact ok_one hrt rfl (okWide_bool_mk hub _)
end
end
section
open Go.Proofs.Try (prog)
set_option maxRecDepth 100000
theorem XE {d:Nat}{ps:List PV}{k:IntKind}{t e:TypeId}(hk:M6 prog t=.sl e)(hc:prog.cellsOf e=1)(he:M6 prog e=.int k)(h:WT prog d t ps):
  ∃l:List Int,ps=[.lst false 1 l.length (At k l)]∧l.length<=maxLen∧∀n∈l,(Lit.int k n).wf=true:=by
 obtain⟨rows,rfl,hl,hr⟩:=Afc hk h;obtain⟨l,h1,h2,h3⟩:=S1 (Adf k) (fun n=>(Lit.int k n).wf=true) fun r hrr=>Acv he (hr r hrr).2
 refine⟨l,?_,by omega,h3⟩
 rw[h1,h2,hc]
theorem Aa7 {n:Int}(h:(Lit.int .u8 n).wf=true):0<=n∧n<=255:=by
 simp[Lit.wf,IntKind.min,IntKind.max,IntKind.signed,IntKind.bits] at h;omega
theorem DT {p:PV}{k:IntKind}{t e:TypeId}(ha:A8 prog t=false)(hk:M6 prog t=.sl e)(hc:prog.cellsOf e=1)(he:M6 prog e=.int k)(h:WTv prog t p):
  ∃l:List Int,p=.lst false 1 l.length (At k l)∧l.length<=maxLen∧∀n∈l,(Lit.int k n).wf=true:=by
 have h':=WX (P:=prog) (t:=t) (p:=p) ha h;obtain⟨l,h1,h2,h3⟩:=XE hk hc he h';exact⟨l,by injection h1,h2,h3⟩
end
section
open Go.IntKind (wrap)
theorem Ko:type_of% @Nat.mul_one:=@Nat.mul_one
theorem Qn:type_of% @Nat.zero_add:=@Nat.zero_add
theorem S5:type_of% @List.drop_zero.{0}:=@List.drop_zero
theorem Rz:type_of% @List.take_of_length_le.{0}:=@List.take_of_length_le
theorem RS:type_of% @List.length_append.{0}:=@List.length_append
theorem OZ:type_of% @List.length_cons.{0}:=@List.length_cons
theorem Xa:type_of% @Int.toNat_natCast:=@Int.toNat_natCast
theorem Ld:type_of% @if_neg.{1}:=@if_neg
theorem L9:type_of% @if_pos.{1}:=@if_pos
theorem Zzq:type_of% @List.nil_append.{0}:=@List.nil_append
theorem VW:type_of% @List.append_assoc.{0}:=@List.append_assoc
end
section
open Go.Proofs.Try (prog)
open Go.IntKind (wrap)
set_option maxRecDepth 100000
abbrev Id:FuncId:=82
theorem Oo {xs:FuncId->Option (List PV->Option Be)} (fu d:Nat)(a0 a1:Int):Am (CX xs) prog fu (d+1) Id [.sc (.int .u64 a0),.sc (.int .i64 a1)]=(fun (call:Aj)=>Aa (wrap .u64 a1) fun x1=>Aa (SP .u64 x1 63) fun x2=>Ar (decide (0<=x2))<|Aa (Gc .u64 a0 x2) fun x3=>Aa (wrap .u64 (64-x2)) fun x4=>Ar (decide (0<=x4))<|Aa (AY .u64 a0 x4) fun x5=>Aa (S4 .u64 x3 x5) fun x6=>some (Be.mk [.sc (.int .u64 x6)] [])) (Am (CX xs) prog fu d):=by kernel_rfl
abbrev F5:FuncId:=59
noncomputable def Ee (fu:Nat)(call:Aj)(Bv:Nat)(a0:List PV)(nn y0 y1:Nat)(y2:List PV)(y3 y4:Int)(y5:List PV):Option Be:=Cv CB prog fu call 59 Try.f59 (Bw Try.f59) [.lst false 1 Bv a0] [.r,.r,.l,.r,.l] nn ⟨lk [(3,(.view 3 1 0 y0)),(11,(.lst false 1 y1 y2)),(12,(.sc (.int .i64 y3))),(13,(.sc (.int .i64 y4)))],E3 [(3,(.ar false y5))]⟩
noncomputable def Fg (fu:Nat)(call:Aj)(Bv:Nat)(a0:List PV)(m0 nn y0:Nat)(y1:Int)(y2:Nat)(y3:List PV)(y4 y5 y6:Int)(y7:List PV):Option Be:=Cv CB prog fu call 59 Try.f59 (Bw Try.f59) [.lst false 1 Bv a0] [.r,.r,.l,.r,.l,.i m0,.r,.r,.l,.l,.r,.r,.l] nn ⟨lk [(3,(.view 3 1 0 y0)),(5,(.sc (.int .u64 y1))),(11,(.lst false 1 y2 y3)),(12,(.sc (.int .i64 y4))),(13,(.sc (.int .i64 y5))),(17,(.sc (.int .i64 y6)))],E3 [(3,(.ar false y7))]⟩
theorem Jt (fu:Nat)(call:Aj)(Bv:Nat)(a0:List PV)(nn y0 y1:Nat)(y2:List PV)(y3 y4:Int)(y5:List PV):Ee fu call Bv a0 (nn+1) y0 y1 y2 y3 y4 y5=(Ca (decide (y4<y3)) (Ar (decide (0<=y4)&&decide (y4<(↑y1:Int)))<|Ag .u64 (List.getD y2 (Int.toNat y4*1) .top) fun x2=>Fg fu call Bv a0 nn (fu) (y0) x2 (y1) (y2) (y3) (y4) 0 (y5)) (Ar (decide (y0*1<=y5.length))<|some (Be.mk [.own 1 y0 (List.take (y0*1) y5)] []))):=by kernel_rfl
theorem Jq (fu:Nat)(call:Aj)(Bv:Nat)(a0:List PV)(m0 nn y0:Nat)(y1:Int)(y2:Nat)(y3:List PV)(y4 y5 y6:Int)(y7:List PV):Fg fu call Bv a0 m0 (nn+1) y0 y1 y2 y3 y4 y5 y6 y7=(Ca (decide (y6<8)) (Aa (wrap .i64 (8*y6)) fun x3=>Aa (wrap .i64 (56-x3)) fun x4=>Ar (decide (0<=x4))<|Aa (AY .u64 y1 x4) fun x5=>Aa (wrap .u8 x5) fun x6=>Ar (decide (y0*1<=y7.length)&&true&&decide ((y0+1)*1<=1099511627776)&&decide (y0+1<=1099511627776))<|Aa (y0+1) fun x7=>Aa (List.take (y0*1) y7++[.sc (.int .u8 x6)]) fun x8=>Aa (wrap .i64 (y6+1)) fun x9=>Fg fu call Bv a0 m0 (nn) x7 (y1) (y2) (y3) (y4) (y5) x9 x8) (Aa (wrap .i64 (y5+1)) fun La=>Ee fu call Bv a0 (m0) (y0) (y2) (y3) (y4) La (y7))):=by kernel_rfl
theorem Vi {xs:FuncId->Option (List PV->Option Be)} (fu d Bv:Nat)(a0:List PV):Am (CX xs) prog fu (d+1) F5 [.lst false 1 Bv a0]=(fun (call:Aj)=>Aa (wrap .i64 (8*(↑Bv:Int))) fun x1=>Ar (decide (0<=x1)&&decide (x1*1<=1099511627776)&&decide (x1<=1099511627776))<|Ee fu call Bv a0 (fu) 0 (Bv) (a0) ((↑Bv:Int)) 0 ([])) (Am (CX xs) prog fu d):=by kernel_rfl
abbrev Ma:FuncId:=68
noncomputable def Ex (fu:Nat)(call:Aj)(Bv:Nat)(a0:List PV)(nn:Nat)(y0:Int)(y1:Nat)(y2:List PV)(y3 y4:Int):Option Be:=Cv CB prog fu call 68 Try.f68 (Bw Try.f68) [.lst false 1 Bv a0] [.r,.r,.l,.r,.l] nn ⟨lk [(3,(.sc (.int .u64 y0))),(6,(.lst false 1 y1 y2)),(7,(.sc (.int .i64 y3))),(8,(.sc (.int .i64 y4)))],E3 []⟩
theorem I5 (fu:Nat)(call:Aj)(Bv:Nat)(a0:List PV)(nn:Nat)(y0:Int)(y1:Nat)(y2:List PV)(y3 y4:Int):Ex fu call Bv a0 (nn+1) y0 y1 y2 y3 y4=(Ca (decide (y4<y3)) (Ar (decide (0<=y4)&&decide (y4<(↑y1:Int)))<|Ag .u8 (List.getD y2 (Int.toNat y4*1) .top) fun x1=>Aa (wrap .u64 x1) fun x2=>Aa (wrap .i64 (8*y4)) fun x3=>Ar (decide (0<=x3))<|Aa (Gc .u64 x2 x3) fun x4=>Aa (S4 .u64 y0 x4) fun x5=>Aa (wrap .i64 (y4+1)) fun x6=>Ex fu call Bv a0 (nn) x5 (y1) (y2) (y3) x6) (some (Be.mk [.sc (.int .u64 y0)] []))):=by kernel_rfl
theorem Ua {xs:FuncId->Option (List PV->Option Be)} (fu d Bv:Nat)(a0:List PV):Am (CX xs) prog fu (d+1) Ma [.lst false 1 Bv a0]=(fun (call:Aj)=>Ex fu call Bv a0 (fu) 0 (Bv) (a0) ((↑Bv:Int)) 0) (Am (CX xs) prog fu d):=by kernel_rfl
abbrev Gn:FuncId:=69
noncomputable def C2 (fu:Nat)(call:Aj)(Fm Fd:Int)(Fk Fa a1:Int)(nn:Nat)(y0 y1:Int)(y2 y3:Int)(y4 y5:Int):Option Be:=Cv CB prog fu call 69 Try.f69 (Bw Try.f69) [.pbox [.sc (.int .u64 Fm),.sc (.int .u64 Fd),.sc (.int .u64 Fk),.sc (.int .u64 Fa)],.sc (.int .i64 a1)] [.r,.l] nn ⟨lk [(0,(.ptr 288000 0)),(4,(.sc (.int .i64 y0))),(5,(.sc (.int .i64 y1)))],E3 [(288000,(.st [(.sc (.int .u64 y2)),(.sc (.int .u64 y3)),(.sc (.int .u64 y4)),(.sc (.int .u64 y5))]))]⟩
theorem Fe (fu:Nat)(call:Aj)(Fm Fd:Int)(Fk Fa a1:Int)(nn:Nat)(y0 y1:Int)(y2 y3:Int)(y4 y5:Int):C2 fu call Fm Fd Fk Fa a1 (nn+1) y0 y1 y2 y3 y4 y5=(Ca (decide (y1<y0)) (Aa (wrap .u64 (y2+y3)) fun x1=>As (call 82 [.sc (.int .u64 y3),.sc (.int .i64 13)]) fun x2 x3=>Ah x3<|Ab x2 fun x4 x5=>Ag .u64 x4 fun x6=>Ah x5<|Aa (Cl .u64 x6 x1) fun x7=>As (call 82 [.sc (.int .u64 x1),.sc (.int .i64 32)]) fun x8 x9=>Ah x9<|Ab x8 fun La Mh=>Ag .u64 La fun Ju=>Ah Mh<|Aa (wrap .u64 (y4+y5)) fun Px=>As (call 82 [.sc (.int .u64 y5),.sc (.int .i64 16)]) fun Mc Nr=>Ah Nr<|Ab Mc fun Ru Tb=>Ag .u64 Ru fun Pa=>Ah Tb<|Aa (Cl .u64 Pa Px) fun Jj=>Aa (wrap .u64 (Ju+Jj)) fun P8=>As (call 82 [.sc (.int .u64 Jj),.sc (.int .i64 21)]) fun Qt Tn=>Ah Tn<|Ab Qt fun Rx Iy=>Ag .u64 Rx fun U6=>Ah Iy<|Aa (Cl .u64 U6 P8) fun Uz=>Aa (wrap .u64 (Px+x7)) fun Q7=>As (call 82 [.sc (.int .u64 x7),.sc (.int .i64 17)]) fun CL CR=>Ah CR<|Ab CL fun O1 Ry=>Ag .u64 O1 fun AX=>Ah Ry<|Aa (Cl .u64 AX Q7) fun Xf=>As (call 82 [.sc (.int .u64 Q7),.sc (.int .i64 32)]) fun T7 CI=>Ah CI<|Ab T7 fun Xw S8=>Ag .u64 Xw fun Xy=>Ah S8<|Aa (wrap .i64 (y1+1)) fun CN=>C2 fu call Fm Fd Fk Fa a1 (nn) (y0) CN P8 Xf Xy Uz) (some (Be.mk [] [[.sc (.int .u64 y2),.sc (.int .u64 y3),.sc (.int .u64 y4),.sc (.int .u64 y5)]]))):=by kernel_rfl
theorem Mi {xs:FuncId->Option (List PV->Option Be)} (fu d:Nat)(Fm Fd:Int)(Fk Fa a1:Int):Am (CX xs) prog fu (d+1) Gn [.pbox [.sc (.int .u64 Fm),.sc (.int .u64 Fd),.sc (.int .u64 Fk),.sc (.int .u64 Fa)],.sc (.int .i64 a1)]=(fun (call:Aj)=>C2 fu call Fm Fd Fk Fa a1 (fu) (a1) 0 (Fm) (Fd) (Fk) (Fa)) (Am (CX xs) prog fu d):=by kernel_rfl
abbrev Gp:FuncId:=67
theorem Mj {xs:FuncId->Option (List PV->Option Be)} (fu d:Nat)(Fm Fd:Int)(Fk Fa a1:Int):Am (CX xs) prog fu (d+1) Gp [.pbox [.sc (.int .u64 Fm),.sc (.int .u64 Fd),.sc (.int .u64 Fk),.sc (.int .u64 Fa)],.sc (.int .u64 a1)]=(fun (call:Aj)=>Aa (Cl .u64 Fa a1) fun x1=>As (call 69 [.pbox [.sc (.int .u64 Fm),.sc (.int .u64 Fd),.sc (.int .u64 Fk),.sc (.int .u64 x1)],.sc (.int .i64 2)]) fun x2 x3=>Ah x2<|Ab x3 fun x4 x5=>Ab x4 fun x6 x7=>Ag .u64 x6 fun x8=>Ab x7 fun x9 La=>Ag .u64 x9 fun Mh=>Ab La fun Ju Px=>Ag .u64 Ju fun Mc=>Ab Px fun Nr Ru=>Ag .u64 Nr fun Tb=>Ah Ru<|Ah x5<|Aa (Cl .u64 x8 a1) fun Pa=>some (Be.mk [] [[.sc (.int .u64 Pa),.sc (.int .u64 Mh),.sc (.int .u64 Mc),.sc (.int .u64 Tb)]])) (Am (CX xs) prog fu d):=by kernel_rfl
abbrev Q1:FuncId:=58
noncomputable def Fc (fu:Nat)(call:Aj)(a0 a1:Int)(O5:Nat)(a2:List PV)(nn y0:Nat)(y1:List PV)(y2 y3:Int)(y4 y5:Int)(y6 y7 y8:Int):Option Be:=Cv CB prog fu call 58 Try.f58 (Bw Try.f58) [.sc (.int .u64 a0),.sc (.int .u64 a1),.lst false 1 O5 a2] [.r,.r,.r,.l,.r,.l] nn ⟨lk [(2,(.lst false 1 y0 y1)),(7,(.ptr 7 0)),(8,(.sc (.int .i64 y2))),(22,(.sc (.int .i64 y3))),(23,(.sc (.int .i64 y4)))],E3 [(7,(.st [(.sc (.int .u64 y5)),(.sc (.int .u64 y6)),(.sc (.int .u64 y7)),(.sc (.int .u64 y8))]))]⟩
theorem Mb (fu:Nat)(call:Aj)(a0 a1:Int)(O5:Nat)(a2:List PV)(nn y0:Nat)(y1:List PV)(y2 y3:Int)(y4 y5:Int)(y6 y7 y8:Int):Fc fu call a0 a1 O5 a2 (nn+1) y0 y1 y2 y3 y4 y5 y6 y7 y8=(Ca (decide (y4<y3)) (Aa (wrap .i64 (8*y4)) fun x6=>Aa (wrap .i64 (8*y4)) fun x7=>Aa (wrap .i64 (x7+8)) fun x8=>Ar (decide (0<=x6))<|Ar (decide (0<=x8))<|Ar (decide (Int.toNat x6<=Int.toNat x8)&&decide (Int.toNat x8<=y0))<|Aa (Int.toNat x8-Int.toNat x6) fun x9=>Aa (List.take (x9*1) (List.drop (Int.toNat x6*1) y1)) fun La=>As (call 68 [.lst false 1 x9 La]) fun Mh Ju=>Ah Ju<|Ab Mh fun Px Mc=>Ag .u64 Px fun Nr=>Ah Mc<|As (call 67 [.pbox [.sc (.int .u64 y5),.sc (.int .u64 y6),.sc (.int .u64 y7),.sc (.int .u64 y8)],.sc (.int .u64 Nr)]) fun Ru Tb=>Ah Ru<|Ab Tb fun Pa Jj=>Ab Pa fun P8 Qt=>Ag .u64 P8 fun Tn=>Ab Qt fun Rx Iy=>Ag .u64 Rx fun U6=>Ab Iy fun Uz Q7=>Ag .u64 Uz fun CL=>Ab Q7 fun CR O1=>Ag .u64 CR fun Ry=>Ah O1<|Ah Jj<|Aa (wrap .i64 (y4+1)) fun AX=>Fc fu call a0 a1 O5 a2 (nn) (y0) (y1) (y2) (y3) AX Tn U6 CL Ry) (Aa (wrap .i64 (8*y2)) fun Xf=>Ar (decide (0<=Xf))<|Ar (decide (Int.toNat Xf<=y0)&&decide (y0<=y0))<|Aa (y0-Int.toNat Xf) fun T7=>Aa (List.take (T7*1) (List.drop (Int.toNat Xf*1) y1)) fun CI=>As (call 68 [.lst false 1 T7 CI]) fun Xw S8=>Ah S8<|Ab Xw fun Xy CN=>Ag .u64 Xy fun Yn=>Ah CN<|Aa (wrap .u64 (↑y0:Int)) fun JH=>Aa (Gc .u64 JH 56) fun GT=>Aa (S4 .u64 Yn GT) fun JE=>As (call 67 [.pbox [.sc (.int .u64 y5),.sc (.int .u64 y6),.sc (.int .u64 y7),.sc (.int .u64 y8)],.sc (.int .u64 JE)]) fun GU HY=>Ah GU<|Ab HY fun JL JF=>Ab JL fun IV HN=>Ag .u64 IV fun X5=>Ab HN fun GX KM=>Ag .u64 GX fun GP=>Ab KM fun Xd HB=>Ag .u64 Xd fun HQ=>Ab HB fun HK DG=>Ag .u64 HK fun HI=>Ah DG<|Ah JF<|Aa (Cl .u64 HQ 255) fun GH=>As (call 69 [.pbox [.sc (.int .u64 X5),.sc (.int .u64 GP),.sc (.int .u64 GH),.sc (.int .u64 HI)],.sc (.int .i64 4)]) fun Y1 Oq=>Ah Y1<|Ab Oq fun QL PX=>Ab QL fun JM Zm=>Ag .u64 JM fun OY=>Ab Zm fun KD NB=>Ag .u64 KD fun OQ=>Ab NB fun KY NT=>Ag .u64 KY fun VE=>Ab NT fun LC CQ=>Ag .u64 LC fun JK=>Ah CQ<|Ah PX<|Aa (Cl .u64 OY OQ) fun UU=>Aa (Cl .u64 UU VE) fun QD=>Aa (Cl .u64 QD JK) fun ML=>some (Be.mk [.sc (.int .u64 ML)] []))):=by kernel_rfl
theorem BA {xs:FuncId->Option (List PV->Option Be)} (fu d:Nat)(a0 a1:Int)(O5:Nat)(a2:List PV):Am (CX xs) prog fu (d+1) Q1 [.sc (.int .u64 a0),.sc (.int .u64 a1),.lst false 1 O5 a2]=(fun (call:Aj)=>Aa (Cl .u64 a0 8317987319222330741) fun x1=>Aa (Cl .u64 a1 7237128888997146477) fun x2=>Aa (Cl .u64 a0 7816392313619706465) fun x3=>Aa (Cl .u64 a1 8387220255154660723) fun x4=>Aa (wrap .i64 (Int.tdiv (↑O5:Int) 8)) fun x5=>Fc fu call a0 a1 O5 a2 (fu) (O5) (a2) x5 x5 0 x1 x2 x3 x4) (Am (CX xs) prog fu d):=by kernel_rfl
abbrev Qw:FuncId:=41
theorem CA {xs:FuncId->Option (List PV->Option Be)} (fu d:Nat)(a0 a1:Int)(O5:Nat)(a2:List PV):Am (CX xs) prog fu (d+1) Qw [.sc (.int .u64 a0),.sc (.int .i64 a1),.lst false 1 O5 a2]=(fun (call:Aj)=>Aa (wrap .u64 a1) fun x1=>Aa (wrap .u64 (1+x1)) fun x2=>As (call 58 [.sc (.int .u64 a0),.sc (.int .u64 x2),.lst false 1 O5 a2]) fun x3 x4=>Ah x4<|Ab x3 fun x5 x6=>Ag .u64 x5 fun x7=>Ah x6<|some (Be.mk [.sc (.int .u64 x7)] [])) (Am (CX xs) prog fu d):=by kernel_rfl
abbrev I9:FuncId:=89
theorem Pp {xs:FuncId->Option (List PV->Option Be)} (fu d:Nat)(a0 a1:Int):Am (CX xs) prog fu (d+1) I9 [.sc (.int .u64 a0),.sc (.int .u64 a1)]=(fun (call:Aj)=>Ar (decide (0<=a1))<|Aa (Gc .u64 a0 a1) fun x1=>Aa (wrap .u64 (64-a1)) fun x2=>Ar (decide (0<=x2))<|Aa (AY .u64 a0 x2) fun x3=>Aa (S4 .u64 x1 x3) fun x4=>some (Be.mk [.sc (.int .u64 x4)] [])) (Am (CX xs) prog fu d):=by kernel_rfl
abbrev Ig:FuncId:=81
theorem Om {xs:FuncId->Option (List PV->Option Be)} (fu d:Nat)(Fm Fd:Int)(Fk Fa:Int):Am (CX xs) prog fu (d+1) Ig [.agg [.sc (.int .u64 Fm),.sc (.int .u64 Fd),.sc (.int .u64 Fk),.sc (.int .u64 Fa)]]=(fun (call:Aj)=>Aa (wrap .u64 (Fm+Fd)) fun x1=>As (call 89 [.sc (.int .u64 Fd),.sc (.int .u64 13)]) fun x2 x3=>Ah x3<|Ab x2 fun x4 x5=>Ag .u64 x4 fun x6=>Ah x5<|Aa (Cl .u64 x6 x1) fun x7=>As (call 89 [.sc (.int .u64 x1),.sc (.int .u64 32)]) fun x8 x9=>Ah x9<|Ab x8 fun La Mh=>Ag .u64 La fun Ju=>Ah Mh<|Aa (wrap .u64 (Fk+Fa)) fun Px=>As (call 89 [.sc (.int .u64 Fa),.sc (.int .u64 16)]) fun Mc Nr=>Ah Nr<|Ab Mc fun Ru Tb=>Ag .u64 Ru fun Pa=>Ah Tb<|Aa (Cl .u64 Pa Px) fun Jj=>Aa (wrap .u64 (Ju+Jj)) fun P8=>As (call 89 [.sc (.int .u64 Jj),.sc (.int .u64 21)]) fun Qt Tn=>Ah Tn<|Ab Qt fun Rx Iy=>Ag .u64 Rx fun U6=>Ah Iy<|Aa (Cl .u64 U6 P8) fun Uz=>Aa (wrap .u64 (Px+x7)) fun Q7=>As (call 89 [.sc (.int .u64 x7),.sc (.int .u64 17)]) fun CL CR=>Ah CR<|Ab CL fun O1 Ry=>Ag .u64 O1 fun AX=>Ah Ry<|Aa (Cl .u64 AX Q7) fun Xf=>As (call 89 [.sc (.int .u64 Q7),.sc (.int .u64 32)]) fun T7 CI=>Ah CI<|Ab T7 fun Xw S8=>Ag .u64 Xw fun Xy=>Ah S8<|some (Be.mk [.agg [.sc (.int .u64 P8),.sc (.int .u64 Xf),.sc (.int .u64 Xy),.sc (.int .u64 Uz)]] [])) (Am (CX xs) prog fu d):=by kernel_rfl
abbrev Jr:FuncId:=65
noncomputable def C7 (fu:Nat)(call:Aj)(a0 a1:Int)(O5:Nat)(a2:List PV)(nn y0:Nat)(y1:List PV)(y2:Int)(y3:List PV):Option Be:=Cv CB prog fu call 65 Try.f65 (Bw Try.f65) [.sc (.int .u64 a0),.sc (.int .u64 a1),.lst false 1 O5 a2] [.r,.r,.l,.r,.l] nn ⟨lk [(2,(.lst false 1 y0 y1)),(7,(.ptr 7 0)),(8,(.sc (.int .i64 y2)))],E3 [(7,(.ar false y3))]⟩
noncomputable def Cp (fu:Nat)(call:Aj)(a0 a1:Int)(O5:Nat)(a2:List PV)(m0 nn y0:Nat)(y1:List PV)(y2 y3 y4:Int)(y5:List PV):Option Be:=Cv CB prog fu call 65 Try.f65 (Bw Try.f65) [.sc (.int .u64 a0),.sc (.int .u64 a1),.lst false 1 O5 a2] [.r,.r,.l,.r,.l,.i m0,.r,.l,.l,.r,.l,.r,.l] nn ⟨lk [(2,(.lst false 1 y0 y1)),(7,(.ptr 7 0)),(8,(.sc (.int .i64 y2))),(9,(.sc (.int .u64 y3))),(10,(.sc (.int .i64 y4)))],E3 [(7,(.ar false y5))]⟩
theorem Hn (fu:Nat)(call:Aj)(a0 a1:Int)(O5:Nat)(a2:List PV)(nn y0:Nat)(y1:List PV)(y2:Int)(y3:List PV):C7 fu call a0 a1 O5 a2 (nn+1) y0 y1 y2 y3=(Ca (decide (y2<=(↑y0:Int))) (Cp fu call a0 a1 O5 a2 nn (fu) (y0) (y1) (y2) 0 7 (y3)) (Ag .u64 (List.getD y3 2 .top) fun x5=>Aa (Cl .u64 x5 255) fun x6=>Ar (decide (3<=y3.length))<|Aa (A0 y3 [.sc (.int .u64 x6)] 2) fun x7=>Ag .u64 (List.getD x7 0 .top) fun x8=>Ag .u64 (List.getD x7 1 .top) fun x9=>Ag .u64 (List.getD x7 2 .top) fun La=>Ag .u64 (List.getD x7 3 .top) fun Mh=>As (call 81 [.agg [.sc (.int .u64 x8),.sc (.int .u64 x9),.sc (.int .u64 La),.sc (.int .u64 Mh)]]) fun Ju Px=>Ah Px<|Ab Ju fun Mc Nr=>D6 Mc fun Ru=>Ab Ru fun Tb Pa=>Ag .u64 Tb fun Jj=>Ab Pa fun P8 Qt=>Ag .u64 P8 fun Tn=>Ab Qt fun Rx Iy=>Ag .u64 Rx fun U6=>Ab Iy fun Uz Q7=>Ag .u64 Uz fun CL=>Ah Q7<|Ah Nr<|As (call 81 [.agg [.sc (.int .u64 Jj),.sc (.int .u64 Tn),.sc (.int .u64 U6),.sc (.int .u64 CL)]]) fun CR O1=>Ah O1<|Ab CR fun Ry AX=>D6 Ry fun Xf=>Ab Xf fun T7 CI=>Ag .u64 T7 fun Xw=>Ab CI fun S8 Xy=>Ag .u64 S8 fun CN=>Ab Xy fun Yn JH=>Ag .u64 Yn fun GT=>Ab JH fun JE GU=>Ag .u64 JE fun HY=>Ah GU<|Ah AX<|As (call 81 [.agg [.sc (.int .u64 Xw),.sc (.int .u64 CN),.sc (.int .u64 GT),.sc (.int .u64 HY)]]) fun JL JF=>Ah JF<|Ab JL fun IV HN=>D6 IV fun X5=>Ab X5 fun GX KM=>Ag .u64 GX fun GP=>Ab KM fun Xd HB=>Ag .u64 Xd fun HQ=>Ab HB fun HK DG=>Ag .u64 HK fun HI=>Ab DG fun GH Y1=>Ag .u64 GH fun Oq=>Ah Y1<|Ah HN<|As (call 81 [.agg [.sc (.int .u64 GP),.sc (.int .u64 HQ),.sc (.int .u64 HI),.sc (.int .u64 Oq)]]) fun QL PX=>Ah PX<|Ab QL fun JM Zm=>D6 JM fun OY=>Ab OY fun KD NB=>Ag .u64 KD fun OQ=>Ab NB fun KY NT=>Ag .u64 KY fun VE=>Ab NT fun LC CQ=>Ag .u64 LC fun JK=>Ab CQ fun UU QD=>Ag .u64 UU fun ML=>Ah QD<|Ah Zm<|Ar (decide (4<=x7.length))<|Aa (A0 x7 [.sc (.int .u64 OQ),.sc (.int .u64 VE),.sc (.int .u64 JK),.sc (.int .u64 ML)] 0) fun QE=>Ag .u64 (List.getD QE 0 .top) fun YK=>Ag .u64 (List.getD QE 1 .top) fun KT=>Aa (Cl .u64 YK KT) fun WC=>Ag .u64 (List.getD QE 2 .top) fun x84=>Aa (Cl .u64 WC x84) fun IB=>Ag .u64 (List.getD QE 3 .top) fun VX=>Aa (Cl .u64 IB VX) fun x87=>some (Be.mk [.sc (.int .u64 x87)] []))):=by kernel_rfl
theorem Hl (fu:Nat)(call:Aj)(a0 a1:Int)(O5:Nat)(a2:List PV)(m0 nn y0:Nat)(y1:List PV)(y2 y3 y4:Int)(y5:List PV):Cp fu call a0 a1 O5 a2 m0 (nn+1) y0 y1 y2 y3 y4 y5=(Ca (decide (y4>=0)) (Aa (wrap .i64 (y2+y4)) fun QI=>Ca (decide (QI<(↑y0:Int))) (Aa (wrap .i64 (y2+y4)) fun QG=>Ar (decide (0<=QG)&&decide (QG<(↑y0:Int)))<|Ag .u8 (List.getD y1 (Int.toNat QG*1) .top) fun YV=>Aa (Gc .u64 y3 8) fun QQ=>Aa (wrap .u64 YV) fun WO=>Aa (S4 .u64 QQ WO) fun ZM=>Aa (wrap .i64 (y4-1)) fun WI=>Cp fu call a0 a1 O5 a2 m0 (nn) (y0) (y1) (y2) ZM WI (y5)) (Ca (y4==7) (Aa (wrap .u8 (↑y0:Int)) fun x95=>Aa (Gc .u64 y3 8) fun x96=>Aa (wrap .u64 x95) fun x97=>Aa (S4 .u64 x96 x97) fun WK=>Aa (wrap .i64 (y4-1)) fun WN=>Cp fu call a0 a1 O5 a2 m0 (nn) (y0) (y1) (y2) WK WN (y5)) (Aa (Gc .u64 y3 8) fun HR=>Aa (S4 .u64 HR 0) fun IP=>Aa (wrap .i64 (y4-1)) fun T0=>Cp fu call a0 a1 O5 a2 m0 (nn) (y0) (y1) (y2) IP T0 (y5)))) (Ag .u64 (List.getD y5 3 .top) fun IH=>Aa (Cl .u64 IH y3) fun BL=>Ar (decide (4<=y5.length))<|Aa (A0 y5 [.sc (.int .u64 BL)] 3) fun Of=>Ag .u64 (List.getD Of 0 .top) fun JI=>Ag .u64 (List.getD Of 1 .top) fun KC=>Ag .u64 (List.getD Of 2 .top) fun Xl=>Ag .u64 (List.getD Of 3 .top) fun HX=>As (call 81 [.agg [.sc (.int .u64 JI),.sc (.int .u64 KC),.sc (.int .u64 Xl),.sc (.int .u64 HX)]]) fun HT Ov=>Ah Ov<|Ab HT fun IJ HU=>D6 IJ fun IE=>Ab IE fun DL SZ=>Ag .u64 DL fun UW=>Ab SZ fun YN TB=>Ag .u64 YN fun VF=>Ab TB fun UA UZ=>Ag .u64 UA fun Aaf=>Ab UZ fun XS XL=>Ag .u64 XS fun TZ=>Ah XL<|Ah HU<|As (call 81 [.agg [.sc (.int .u64 UW),.sc (.int .u64 VF),.sc (.int .u64 Aaf),.sc (.int .u64 TZ)]]) fun TO XP=>Ah XP<|Ab TO fun TI SK=>D6 TI fun ZG=>Ab ZG fun ST UH=>Ag .u64 ST fun YI=>Ab UH fun RI RV=>Ag .u64 RI fun YG=>Ab RV fun TW SJ=>Ag .u64 TW fun Ac6=>Ab SJ fun UK VC=>Ag .u64 UK fun XA=>Ah VC<|Ah SK<|Ar (decide (4<=Of.length))<|Aa (A0 Of [.sc (.int .u64 YI),.sc (.int .u64 YG),.sc (.int .u64 Ac6),.sc (.int .u64 XA)] 0) fun JP=>Ag .u64 (List.getD JP 0 .top) fun RJ=>Aa (Cl .u64 RJ y3) fun YH=>Ar (decide (1<=JP.length))<|Aa (A0 JP [.sc (.int .u64 YH)] 0) fun YC=>Aa (wrap .i64 (y2+8)) fun Aac=>C7 fu call a0 a1 O5 a2 (m0) (y0) (y1) Aac YC)):=by kernel_rfl
theorem Rh {xs:FuncId->Option (List PV->Option Be)} (fu d:Nat)(a0 a1:Int)(O5:Nat)(a2:List PV):Am (CX xs) prog fu (d+1) Jr [.sc (.int .u64 a0),.sc (.int .u64 a1),.lst false 1 O5 a2]=(fun (call:Aj)=>Aa (Cl .u64 a0 8317987319222330741) fun x1=>Aa (Cl .u64 a1 7237128888997146477) fun x2=>Aa (Cl .u64 a0 7816392313619706465) fun x3=>Aa (Cl .u64 a1 8387220255154660723) fun x4=>C7 fu call a0 a1 O5 a2 (fu) (O5) (a2) 0 ([.sc (.int .u64 x1),.sc (.int .u64 x2),.sc (.int .u64 x3),.sc (.int .u64 x4)])) (Am (CX xs) prog fu d):=by kernel_rfl
abbrev Jw:FuncId:=48
theorem Qs {xs:FuncId->Option (List PV->Option Be)} (fu d:Nat)(a0 a1:Int)(O5:Nat)(a2:List PV):Am (CX xs) prog fu (d+1) Jw [.sc (.int .u64 a0),.sc (.int .i64 a1),.lst false 1 O5 a2]=(fun (call:Aj)=>Aa (wrap .u64 a1) fun x1=>Aa (wrap .u64 (1+x1)) fun x2=>As (call 65 [.sc (.int .u64 a0),.sc (.int .u64 x2),.lst false 1 O5 a2]) fun x3 x4=>Ah x4<|Ab x3 fun x5 x6=>Ag .u64 x5 fun x7=>Ah x6<|some (Be.mk [.sc (.int .u64 x7)] [])) (Am (CX xs) prog fu d):=by kernel_rfl
abbrev Du:FuncId:=56
noncomputable def Cw (fu:Nat)(call:Aj)(Bv:Nat)(a0:List PV)(nn y0:Nat)(y1:List PV)(y2:Nat)(y3:Int)(y4:List PV):Option Be:=Cv CB prog fu call 56 Try.f56 (Bw Try.f56) [.lst false 1 Bv a0] [.r,.r,.l,.r,.l] nn ⟨lk [(0,(.lst false 1 y0 y1)),(3,(.view 3 1 0 y2)),(4,(.sc (.int .i64 y3)))],E3 [(3,(.ar false y4))]⟩
noncomputable def Dk (fu:Nat)(call:Aj)(Bv:Nat)(a0:List PV)(m0 nn y0:Nat)(y1:List PV)(y2:Nat)(y3 y4:Int)(y5:List PV):Option Be:=Cv CB prog fu call 56 Try.f56 (Bw Try.f56) [.lst false 1 Bv a0] [.r,.r,.l,.r,.l,.i m0,.r,.l,.l,.r,.l] nn ⟨lk [(0,(.lst false 1 y0 y1)),(3,(.view 3 1 0 y2)),(4,(.sc (.int .i64 y3))),(5,(.sc (.int .i64 y4)))],E3 [(3,(.ar false y5))]⟩
theorem F9 (fu:Nat)(call:Aj)(Bv:Nat)(a0:List PV)(nn y0:Nat)(y1:List PV)(y2:Nat)(y3:Int)(y4:List PV):Cw fu call Bv a0 (nn+1) y0 y1 y2 y3 y4=(Ca (decide (y3<(↑y0:Int))) (Dk fu call Bv a0 nn (fu) (y0) (y1) (y2) (y3) 7 (y4)) (Ar (decide (y2*1<=y4.length))<|some (Be.mk [.own 1 y2 (List.take (y2*1) y4)] []))):=by kernel_rfl
theorem Gg (fu:Nat)(call:Aj)(Bv:Nat)(a0:List PV)(m0 nn y0:Nat)(y1:List PV)(y2:Nat)(y3 y4:Int)(y5:List PV):Dk fu call Bv a0 m0 (nn+1) y0 y1 y2 y3 y4 y5=(Ca (decide (y4>=0)) (Ar (decide (0<=y3)&&decide (y3<(↑y0:Int)))<|Ag .u64 (List.getD y1 (Int.toNat y3*1) .top) fun x1=>Aa (wrap .i64 (8*y4)) fun x2=>Aa (wrap .u64 x2) fun x3=>Ar (decide (0<=x3))<|Aa (AY .u64 x1 x3) fun x4=>Aa (wrap .u8 x4) fun x5=>Ar (decide (y2*1<=y5.length)&&true&&decide ((y2+1)*1<=1099511627776)&&decide (y2+1<=1099511627776))<|Aa (y2+1) fun x6=>Aa (List.take (y2*1) y5++[.sc (.int .u8 x5)]) fun x7=>Aa (wrap .i64 (y4-1)) fun x8=>Dk fu call Bv a0 m0 (nn) (y0) (y1) x6 (y3) x8 x7) (Aa (wrap .i64 (y3+1)) fun x9=>Cw fu call Bv a0 (m0) (y0) (y1) (y2) x9 (y5))):=by kernel_rfl
theorem Oy {xs:FuncId->Option (List PV->Option Be)} (fu d Bv:Nat)(a0:List PV):Am (CX xs) prog fu (d+1) Du [.lst false 1 Bv a0]=(fun (call:Aj)=>Cw fu call Bv a0 (fu) (Bv) (a0) 0 0 ([])) (Am (CX xs) prog fu d):=by kernel_rfl
end
section
open Go.IntKind (wrap)
def rot (x k:Int):Int:=S4 .u64 (Gc .u64 x k) (AY .u64 x (64-k))
structure W4 where
 a:Int
 b:Int
 c:Int
 d:Int
def W4.cells (v:W4):List PV:=[.sc (.int .u64 v.a),.sc (.int .u64 v.b),.sc (.int .u64 v.c),.sc (.int .u64 v.d)]
def Aja (v:W4):W4:=⟨rot (wrap .u64 (v.a+v.b)) 32,Cl .u64 (rot v.b 13) (wrap .u64 (v.a+v.b)),wrap .u64 (v.c+v.d),Cl .u64 (rot v.d 16) (wrap .u64 (v.c+v.d))⟩
def Aig (v:W4):W4:=⟨wrap .u64 (v.a+v.d),Cl .u64 (rot v.b 17) (wrap .u64 (v.c+v.b)),rot (wrap .u64 (v.c+v.b)) 32,Cl .u64 (rot v.d 21) (wrap .u64 (v.a+v.d))⟩
def Xi (v:W4):W4:=Aig (Aja v)
def HG:Nat->W4->W4
 |0,v=>v
 |n+1,v=>HG n (Xi v)
def Ae8 (r:W4)(m:Int):W4:=⟨Cl .u64 r.a m,r.b,r.c,r.d⟩
def K6 (v:W4)(m:Int):W4:=Ae8 (HG 2 ⟨v.a,v.b,v.c,Cl .u64 v.d m⟩) m
def K5:List Int->Int
 |[]=>0
 |b::r=>b+256*K5 r
def X4:Nat->W4->List Int->W4
 |0,v,_=>v
 |n+1,v,l=>X4 n (K6 v (K5 (l.take 8))) (l.drop 8)
def Ab3 (k0 k1:Int):W4:=⟨Cl .u64 k0 8317987319222330741,Cl .u64 k1 7237128888997146477,Cl .u64 k0 7816392313619706465,Cl .u64 k1 8387220255154660723⟩
def NI (v:W4):W4:=HG 4 ⟨v.a,v.b,Cl .u64 v.c 255,v.d⟩
def OJ (v:W4):Int:=Cl .u64 (Cl .u64 (Cl .u64 v.a v.b) v.c) v.d
def Ie (l:List Int):Int:=K5 (l.drop (8*(l.length / 8)))+72057594037927936*((l.length:Int) % 256)
def Ab9 (k0 k1:Int)(l:List Int):Int:=OJ (NI (K6 (X4 (l.length / 8) (Ab3 k0 k1) l) (Ie l)))
def AD (key dom:Int)(l:List Int):Int:=Ab9 key (wrap .u64 (1+wrap .u64 dom)) l
def Rw (l:List Int):Prop:=∀b∈l,0<=b∧b<=255
theorem Lv:∀{l:List Int},Rw l->0<=K5 l∧K5 l<256 ^ l.length
 |[],_=>by simp[K5]
 |b::r,h=>by
  have h1:=h b (by simp)
  have h2:=Lv (l:=r) fun x hx=>h x (by simp[hx])
  have h3:(256:Int) ^ (b::r).length=256 ^ r.length*256:=by rw[OZ,Int.pow_succ]
  simp only[K5];omega
theorem Pf:∀(l r:List Int),K5 (l++r)=K5 l+256 ^ l.length*K5 r
 |[],r=>by simp[K5]
 |b::l,r=>by
  have ih:=Pf l r;simp only[List.cons_append,K5,OZ,Int.pow_succ];rw[ih,Int.mul_add];have:(256:Int)*(256 ^ l.length*K5 r)=256 ^ l.length*256*K5 r:=by rw[←Int.mul_assoc,Int.mul_comm 256]
  omega
theorem AL {a c:Int}(k b:Nat)(h0:0<=a)(h1:a<((2 ^ k:Nat):Int)) (hc:c=((b*2 ^ k:Nat):Int)) (h:a+c<=18446744073709551615):S4 .u64 a c=a+c∧S4 .u64 c a=a+c:=by
 obtain⟨n,rfl⟩:=Int.eq_ofNat_of_zero_le h0;subst hc;have hn:n<2 ^ k:=by omega
 generalize hB:b*2 ^ k=m at h
 have e4:(BitVec.ofInt 64 (n:Int)).toNat=n:=by
  rw[BitVec.toNat_ofInt];omega
 have e5:(BitVec.ofInt 64 (m:Int)).toNat=m:=by
  rw[BitVec.toNat_ofInt];omega
 have e6:m ||| n=m+n:=by
  have:=Nat.shiftLeft_add_eq_or_of_lt hn b;rw[Nat.shiftLeft_eq,hB] at this;exact this.symm
 constructor
 ·show wrap .u64 ((BitVec.ofInt 64 (n:Int) ||| BitVec.ofInt 64 (m:Int)).toNat:Int)=_;rw[BitVec.toNat_or,e4,e5,Nat.or_comm,e6,C1 (by omega) (by omega)]
  omega
 ·show wrap .u64 ((BitVec.ofInt 64 (m:Int) ||| BitVec.ofInt 64 (n:Int)).toNat:Int)=_;rw[BitVec.toNat_or,e4,e5,e6,C1 (by omega) (by omega)]
  omega
theorem KX {a k:Int}(h0:0<=a)(hk:0<=k)(Hx:k<=64)(h:a*((2 ^ k.toNat:Nat):Int)<=18446744073709551615):Gc .u64 a k=a*((2 ^ k.toNat:Nat):Int):=by
 show wrap .u64 (a*2 ^ (min k.toNat IntKind.u64.bits))=_;have e:min k.toNat IntKind.u64.bits=k.toNat:=Nat.min_eq_left (by show k.toNat<=64;omega)
 have e2:(2:Int) ^ k.toNat=((2 ^ k.toNat:Nat):Int):=by simp
 rw[e,e2,C1 (Int.mul_nonneg h0 (Int.natCast_nonneg _)) h]
end
end Go.Proofs.Yteicjnihnacadaa.Pv
